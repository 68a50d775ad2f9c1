/- Hold: the walk. No conditions beside those that the contract states. -/
import Derived.Test.YtkhghabenhhhaaaStockMove
namespace Go.Proofs.Ytkhghabenhhhaaa.Stock
open Go.RowKit Go.Proofs.Ytkhghabenhhhaaa.Pa Go.Proofs.YtkhghabenhhhaaaW.PrintWords Go.Proofs.YtkhghabenhhhaaaW.PrintLast Go.Proofs.YtkhghabenhhhaaaW.PrintMore Go.Proofs.Ytkhghabenhhhaaa.Sl
set_option linter.unusedVariables false
set_option linter.unusedSimpArgs false

abbrev Line := S32
def noQty (x : Line) : Bool := decide (x.f2 ≤ 0)
set_option maxRecDepth 100000 in
theorem noQty_any (x : Line) (w : World) : Calls Try.prog 25 #[.agg #[.int .i64 x.f0, .int .i64 x.f1, .int .i64 x.f2]] w fun e w' => e = .returned (.bool (noQty x)) ∧ Below w.heap.size w w' := by
  go_enter Try.func25, Try.ntmps25
  go_wp2
  go_ret
  exact ⟨rfl, (Below.refl _ _).alloc (Nat.le_refl _) _⟩
/-- Where the first one stands; -1: nowhere. -/
def idxQ (l : List Line) : Int := if l.any noQty then (l.findIdx noQty : Nat) else -1
theorem idxQ_some {l : List Line} {k : Nat} (h : k < l.length) (hn : ∀ x ∈ l.take k, noQty x = false) (hp : noQty (l.getD k z32) = true) : idxQ l = (k : Int) := by
  have hk : l.getD k z32 = l[k] := by simp [h]
  rw [hk] at hp
  have ha : l.any noQty = true := List.any_eq_true.2 ⟨l[k], List.getElem_mem h, hp⟩
  unfold idxQ
  rw [if_pos ha]
  have : l.findIdx noQty = k := by
    rw [List.findIdx_eq h]
    refine ⟨hp, fun j hj => ?_⟩
    have := hn l[j] (by rw [List.mem_take_iff_getElem]; exact ⟨j, by omega, rfl⟩)
    simpa using this
  rw [this]
theorem idxQ_none {l : List Line} (hn : ∀ x ∈ l, noQty x = false) : idxQ l = -1 := by
  unfold idxQ
  have ha : l.any noQty = false := by rw [List.any_eq_false]; intro x hx; simp [hn x hx]
  rw [ha]; rfl
set_option maxRecDepth 100000 in
set_option maxHeartbeats 4000000 in
theorem indexQ_any (A0 : Option Addr) (c0 : Nat) (l0 : List Line) (w : World) (hr0 : Kd.C k32 w A0 l0.length l0) (hc0 : l0.length ≤ c0) :
    Calls Try.prog 43 #[.slice A0 l0.length c0, .func (.func 25) #[] #[]] w fun e w' => e = .returned (.int .i64 (idxQ l0)) ∧ Below w.heap.size w w' := by
  have hmax : l0.length ≤ 9223372036854775807 := Kd.C_max hr0
  have HR := Aside0.mk hr0
  clear hr0
  go_enter Try.func43, Try.ntmps43
  go_wp2
  go_loopw [8] (fun i wr => ∃ k : Nat, k ≤ l0.length ∧ i = .int .i64 k ∧ Aside0 (∀ x ∈ l0.take k, noQty x = false) ∧ Aside0 (Below w.heap.size w wr)) (fun i _ => l0.length - (intOf i).toNat)
  case atStart => exact ⟨0, by omega, rfl, ⟨by simp⟩, ⟨Below.refl _ _⟩⟩
  case round =>
    obtain ⟨k, hk, rfl, HN, HB⟩ := hrel
    by_cases hlt : k < l0.length
    · obtain ⟨ad, rfl, hcs⟩ := at_T32 (Kd.C_below HR.out HB.out) (k : Int) (by omega) (by omega)
      simp only [Int.toNat_natCast] at hcs
      have hx : rd_T32 l0 (k : Int) = l0.getD k z32 := by simp [rd_T32]
      obtain ⟨x, hxx⟩ : ∃ x, x = rd_T32 l0 (k : Int) := ⟨_, rfl⟩
      rw [← hxx] at hcs hx
      have HX := Aside0.mk hx
      clear hx hxx
      obtain ⟨b0, b1, b2⟩ := hcs
      cases hp : noQty x with
      | true =>
        have HP := Aside0.mk hp
        have hc := fun W => noQty_any x W
        rw [hp] at hc
        clear hp
        go_wp2_with (go_at_call 25; refine (hc _).mono ?_; rintro e w1 ⟨rfl, hb⟩; have HB2 := Aside0.mk hb; clear hb hc)
        go_ret
        exact ⟨by rw [idxQ_some hlt HN.out (by rw [← HX.out]; exact HP.out)]; rfl, below_then HB.out HB.out.size HB2.out⟩
      | false =>
        have HP := Aside0.mk hp
        have hc := fun W => noQty_any x W
        rw [hp] at hc
        clear hp
        go_wp2_with (go_at_call 25; refine (hc _).mono ?_; rintro e w1 ⟨rfl, hb⟩; have HB2 := Aside0.mk hb; clear hb hc)
        refine ⟨⟨k + 1, by omega, by go_num, ⟨fun y hy => ?_⟩, ⟨below_then HB.out HB.out.size HB2.out⟩⟩, by simp [intOf]; omega⟩
        rw [List.take_succ_eq_append_getElem hlt, List.mem_append] at hy
        rcases hy with hy | hy
        · exact HN.out y hy
        · have e1 : y = l0[k] := by simpa using hy
          have e2 : l0.getD k z32 = l0[k] := by simp [hlt]
          rw [e1, ← e2, ← HX.out]; exact HP.out
    · obtain rfl : k = l0.length := by omega
      have hn := HN.out
      rw [List.take_length] at hn
      have HN2 := Aside0.mk hn
      clear hn HN
      go_wp2
      go_ret
      exact ⟨by rw [idxQ_none HN2.out]; rfl, HB.out⟩

set_option maxRecDepth 100000 in
theorem containsQ_any (A0 : Option Addr) (c0 : Nat) (l0 : List Line) (w : World) (hr0 : Kd.C k32 w A0 l0.length l0) (hc0 : l0.length ≤ c0) :
    Calls Try.prog 24 #[.slice A0 l0.length c0, .func (.func 25) #[] #[]] w fun e w' => e = .returned (.bool (l0.any noQty)) ∧ Below w.heap.size w w' := by
  have HR := Aside0.mk hr0
  clear hr0
  cases ha : l0.any noQty with
  | true =>
    obtain ⟨i, hi⟩ : ∃ i : Nat, idxQ l0 = (i : Int) := ⟨_, by unfold idxQ; rw [if_pos ha]⟩
    have hc := indexQ_any A0 c0 l0 w HR.out hc0
    rw [hi] at hc
    clear ha hi
    have h0 : decide ((i : Int) ≥ 0) = true := decide_eq_true (by omega)
    go_enter Try.func24, Try.ntmps24
    go_wp2_with (go_at_call 43; refine hc.mono ?_; rintro e w1 ⟨rfl, hb⟩; have HB := Aside0.mk hb; clear hb)
    go_ret
    exact ⟨by first | rfl | simp, HB.out⟩
  | false =>
    have hi : idxQ l0 = -1 := by unfold idxQ; rw [ha]; rfl
    have hc := indexQ_any A0 c0 l0 w HR.out hc0
    rw [hi] at hc
    clear ha hi
    go_enter Try.func24, Try.ntmps24
    go_wp2_with (go_at_call 43; refine hc.mono ?_; rintro e w1 ⟨rfl, hb⟩; have HB := Aside0.mk hb; clear hb)
    go_ret
    exact ⟨by first | rfl | simp, HB.out⟩


def noPair (x : Line) : Bool := !pairB x.f0 x.f1
/-- Lines held, one behind the other. -/
def holdL : List Spot → List Line → List Spot × Int
  | l, [] => (l, 0)
  | l, x :: r => if (turnedP (holdF x.f2) l x.f0 x.f1 x.f2).2 = 0 then holdL (turnedP (holdF x.f2) l x.f0 x.f1 x.f2).1 r else ([], (turnedP (holdF x.f2) l x.f0 x.f1 x.f2).2)
def holdP (l : List Spot) (m : List Line) : List Spot × Int :=
  if mayB l = true then (if m.any noPair = true then ([], 3) else if m.length = 0 ∨ 4 < m.length ∨ m.any noQty = true then ([], 1) else holdL l m) else ([], 1)
def LimL (m : List Line) : Prop := ∀ x ∈ m, inI x.f2
instance (m : List Line) : Decidable (LimL m) := by unfold LimL inI; infer_instance
theorem holdF_lim {q : Int} (x : Spot) (h : sound x) : (holdF q x).2.f2 < 9223372036854775808 := by
  have := h.2.2
  unfold holdF
  split
  · exact this
  · exact this
theorem may_any (A : Option Addr) (c : Nat) (l : List Spot) (w : World) (hC : Kd.C k37 w A l.length l) (hc : l.length ≤ c) (hl : l.length ≤ 99999999999) :
    Calls Try.prog 10 #[.slice A l.length c] w fun e w' => e = .returned (.bool (mayB l)) ∧ Below w.heap.size w w' :=
  stock_May.calls (l.length + 1) A c l _ w hC hc (may_f (by omega) (Nat.lt_succ_self _))
theorem rdL {m : List Line} {k : Nat} (h : k < m.length) : m.drop k = rd_T32 m k :: m.drop (k + 1) := by
  rw [List.drop_eq_getElem_cons h]
  congr 1
  simp [rd_T32, h]
theorem rdL_mem {m : List Line} {k : Nat} (h : k < m.length) : rd_T32 m (k : Int) ∈ m := by
  have : rd_T32 m (k : Int) = m[k] := by simp [rd_T32, h]
  rw [this]; exact List.getElem_mem h
set_option maxRecDepth 100000 in
set_option maxHeartbeats 16000000 in
theorem hold_any (A : Option Addr) (c : Nat) (l : List Spot) (A1 : Option Addr) (c1 : Nat) (m : List Line) (w : World) (hC : Kd.C k37 w A l.length l) (hc : l.length ≤ c) (hC1 : Kd.C k32 w A1 m.length m) (hc1 : m.length ≤ c1) (hl : Lim l) (hm : LimL m) :
    Calls Try.prog 11 #[.slice A l.length c, .slice A1 m.length c1] w (FreshE w (holdP l m)) := by
  have pm := may_any A c l w hC hc hl.1
  have hmax := Kd.C_max hC1
  have HX := Aside0.mk (And.intro hC (And.intro hc (And.intro hC1 (And.intro hc1 (And.intro hl hm)))))
  obtain ⟨n, hn⟩ : ∃ n, n = l.length := ⟨_, rfl⟩
  obtain ⟨m1, hm1⟩ : ∃ m1, m1 = m.length := ⟨_, rfl⟩
  have HN := Aside0.mk (And.intro hn hm1)
  obtain ⟨res, hres⟩ : ∃ res, res = holdP l m := ⟨_, rfl⟩
  obtain ⟨mb, hmb⟩ : ∃ mb, mb = mayB l := ⟨_, rfl⟩
  have HMB := Aside0.mk hmb
  rw [← hmb] at pm
  unfold holdP at hres
  rw [← hmb] at hres
  have hgoal : FreshE w (holdP l m) = FreshE w res := by unfold holdP; rw [hres, hmb]
  rw [hgoal]
  have HRES := Aside0.mk hres
  rw [← hn] at pm ⊢
  rw [← hm1] at hmax ⊢
  clear hC hc hC1 hc1 hl hm hn hm1 hres hmb hgoal
  cases mb with
  | false =>
    have HR : Aside0 (res = ([], 1)) := ⟨by rw [HRES.out, if_neg (by simp)]⟩
    go_enter Try.func11, Try.ntmps11
    go_wp2_with (go_at_call 10; refine pm.mono ?_; rintro e w1 ⟨rfl, hb⟩; have HB := Aside0.mk hb; clear hb)
    go_ret2
    refine ⟨.slice none 0 0, ?_, ?_, HB.out⟩
    · rw [HR.out]; rfl
    · rw [HR.out]; exact Kd.R_nil _ _ _ _ _
  | true =>
    have HM := Aside0.mk (mayB_iff.1 HMB.out.symm)
    go_enter Try.func11, Try.ntmps11
    go_wp2_with fail
    go_at_call 10
    refine pm.mono ?_
    rintro e w1 ⟨rfl, hb⟩
    have HB := Aside0.mk hb
    clear hb pm
    go_wp2
    go_loopw [17] (fun iv wr => ∃ k : Nat, k ≤ m1 ∧ iv = .int .i64 k ∧ Aside0 (∀ j : Nat, j < k → noPair (rd_T32 m j) = false) ∧ Aside0 (Below w.heap.size w wr)) (fun iv _ => m1 - (intOf iv).toNat)
    case atStart => exact ⟨0, by omega, rfl, ⟨fun j hj => absurd hj (by omega)⟩, HB⟩
    case round =>
      clear HB
      obtain ⟨k, hk, rfl, HP, HB⟩ := hrel
      by_cases hlt : k < m1
      · obtain ⟨ad, rfl, b0, b1, b2⟩ := at_T32 (Kd.C_below HX.out.2.2.1 HB.out) (k : Int) (by omega) (by rw [← HN.out.2]; omega)
        rw [Int.toNat_natCast] at b0 b1 b2
        have hmem : rd_T32 m (k : Int) ∈ m := rdL_mem (by rw [← HN.out.2]; exact hlt)
        obtain ⟨x, hx⟩ : ∃ x, x = rd_T32 m (k : Int) := ⟨_, rfl⟩
        rw [← hx] at b0 b1 b2 hmem
        have HMEM := Aside0.mk (And.intro hx hmem)
        have pp := fun w' => pair_any x.f0 x.f1 w'
        obtain ⟨pb, hpb⟩ : ∃ pb, pb = pairB x.f0 x.f1 := ⟨_, rfl⟩
        rw [← hpb] at pp
        have HPB := Aside0.mk hpb
        have PP := Aside0.mk pp
        clear hx hmem hpb pp
        cases pb with
        | true =>
          go_wp2_with (go_at_call 22; refine (PP.out _).mono ?_; rintro e w2 ⟨rfl, ⟨nd, rfl⟩⟩)
          exact ⟨⟨k + 1, by omega, by go_num, ⟨fun j hj => by
            rcases Nat.lt_or_ge j k with h | h
            · exact HP.out j h
            · obtain rfl : j = k := by omega
              rw [← HMEM.out.1]
              unfold noPair
              rw [← HPB.out]; rfl⟩, ⟨pw_below_drewN (HB.out.alloc HB.out.size _) _⟩⟩, by simp [intOf]; omega⟩
        | false =>
          have HR : Aside0 (res = ([], 3)) := ⟨by
            rw [HRES.out, if_pos trivial, if_pos (List.any_eq_true.2 ⟨x, HMEM.out.2, by unfold noPair; rw [← HPB.out]; rfl⟩)]⟩
          go_wp2_with (go_at_call 22; refine (PP.out _).mono ?_; rintro e w2 ⟨rfl, ⟨nd, rfl⟩⟩)
          go_ret2
          refine ⟨.slice none 0 0, ?_, ?_, pw_below_drewN (HB.out.alloc HB.out.size _) _⟩
          · rw [HR.out]; rfl
          · rw [HR.out]; exact Kd.R_nil _ _ _ _ _
      · have hkm : k = m1 := by omega
        subst k
        have hnp : m.any noPair = false := List.any_eq_false.2 (fun x hx => by
          obtain ⟨j, hj, rfl⟩ := List.getElem_of_mem hx
          have h1 := HP.out j (by rw [HN.out.2]; exact hj)
          have h2 : rd_T32 m (j : Int) = m[j] := by simp [rd_T32, hj]
          rw [h2] at h1
          rw [h1]; simp)
        have HRES2 : Aside0 (res = if m.length = 0 ∨ 4 < m.length ∨ m.any noQty = true then ([], 1) else holdL l m) := ⟨by rw [HRES.out, if_pos trivial, hnp, if_neg (by simp)]⟩
        clear hnp HP
        by_cases h0 : m1 = 0
        · have HR : Aside0 (res = ([], 1)) := ⟨by rw [HRES2.out, if_pos (.inl (by rw [← HN.out.2]; exact h0))]⟩
          have e0 : ((m1 : Int) == 0) = true := beq_iff_eq.2 (by omega)
          clear h0
          go_wp2
          go_ret2
          refine ⟨.slice none 0 0, ?_, ?_, HB.out⟩
          · rw [HR.out]; rfl
          · rw [HR.out]; exact Kd.R_nil _ _ _ _ _
        by_cases h4 : 4 < m1
        · have HR : Aside0 (res = ([], 1)) := ⟨by rw [HRES2.out, if_pos (.inr (.inl (by rw [← HN.out.2]; exact h4)))]⟩
          have e0 : ((m1 : Int) == 0) = false := beq_eq_false_iff_ne.2 (by omega)
          have e4 : (4 : Int) < (m1 : Int) := by omega
          clear h0 h4
          go_wp2
          go_ret2
          refine ⟨.slice none 0 0, ?_, ?_, HB.out⟩
          · rw [HR.out]; rfl
          · rw [HR.out]; exact Kd.R_nil _ _ _ _ _
        have e0 : ((m1 : Int) == 0) = false := beq_eq_false_iff_ne.2 (by omega)
        have e4 : (m1 : Int) ≤ 4 := by omega
        have hpos : 0 < m1 := by omega
        have pc := containsQ_any A1 c1 m _ (Kd.C_below HX.out.2.2.1 HB.out) HX.out.2.2.2.1
        rw [← HN.out.2] at pc
        obtain ⟨qb, hqb⟩ : ∃ qb, qb = m.any noQty := ⟨_, rfl⟩
        rw [← hqb] at pc
        have HQB := Aside0.mk hqb
        clear hqb h0 h4
        cases qb with
        | true =>
          have HR : Aside0 (res = ([], 1)) := ⟨by rw [HRES2.out, if_pos (.inr (.inr HQB.out.symm))]⟩
          go_wp2_with (go_at_call 24; refine pc.mono ?_; rintro e w2 ⟨rfl, hb⟩; have HB2 := Aside0.mk (below_then HB.out HB.out.size hb); clear hb)
          go_ret2
          refine ⟨.slice none 0 0, ?_, ?_, HB2.out⟩
          · rw [HR.out]; rfl
          · rw [HR.out]; exact Kd.R_nil _ _ _ _ _
        | false =>
          have HR : Aside0 (res = holdL l m) := ⟨by
            rw [HRES2.out, if_neg]
            rw [← HN.out.2, ← HQB.out]
            simp
            omega⟩
          go_wp2_with (go_at_call 24; refine pc.mono ?_; rintro e w2 ⟨rfl, hb⟩; have HB2 := Aside0.mk (below_then HB.out HB.out.size hb); clear hb)
          clear pc HB
          go_loopw [0, 42] (fun lv iv wr => ∃ (k : Nat) (cur : List Spot) (A' : Option Addr) (c' n' : Nat), k ≤ m1 ∧ iv = .int .i64 k ∧ lv = .slice A' n' c' ∧ Aside0 (n' = cur.length ∧ holdL l m = holdL cur (m.drop k) ∧ Lim cur ∧ Kd.C k37 wr A' cur.length cur ∧ cur.length ≤ c') ∧ Aside0 (k = 0 ∨ k37.R 37 wr w.heap.size (fun _ => True) (.slice A' n' c') cur) ∧ Aside0 (Below w.heap.size w wr)) (fun _ iv _ => m1 - (intOf iv).toNat)
          case atStart => exact ⟨0, l, A, c, n, by omega, rfl, rfl, ⟨HN.out.1, rfl, HX.out.2.2.2.2.1, Kd.C_below HX.out.1 HB2.out, HX.out.2.1⟩, ⟨.inl rfl⟩, HB2⟩
          case round =>
            clear HB2
            obtain ⟨k, cur, A', c', n', hk, rfl, rfl, HC, HO, HB⟩ := hrel
            by_cases hlt : k < m1
            · obtain ⟨ad, rfl, b0, b1, b2⟩ := at_T32 (Kd.C_below HX.out.2.2.1 HB.out) (k : Int) (by omega) (by rw [← HN.out.2]; omega)
              rw [Int.toNat_natCast] at b0 b1 b2
              have hkl : k < m.length := by rw [← HN.out.2]; exact hlt
              have hq : inI (rd_T32 m (k : Int)).f2 := HX.out.2.2.2.2.2 _ (rdL_mem hkl)
              have hdr := rdL hkl
              obtain ⟨x, hx⟩ : ∃ x, x = rd_T32 m (k : Int) := ⟨_, rfl⟩
              rw [← hx] at b0 b1 b2 hq hdr
              have hba : Below w.heap.size w (wr.alloc (.cells #[.int .i64 x.f0, .int .i64 x.f1, .int .i64 x.f2] 32)) := HB.out.alloc HB.out.size _
              have hca := (cell_new3 wr (.int .i64 x.f0) (.int .i64 x.f1) (.int .i64 x.f2) 32).2.2
              have pt := turned_any27 (holdF x.f2) wr.heap.size 2 x.f2 A' c' cur x.f0 x.f1 x.f2 _ (Kd.C_alloc HC.out.2.2.2.1 _) HC.out.2.2.2.2 HC.out.2.2.1 hca (holdF_key x.f2) (fun h0 b y W h1 h2 h3 h4 => hold_clo b wr.heap.size y x.f2 W h1 h2 h3 ⟨h0, hq.2⟩)
              rw [← HC.out.1] at pt
              obtain ⟨r, hr⟩ : ∃ r, r = turnedP (holdF x.f2) cur x.f0 x.f1 x.f2 := ⟨_, rfl⟩
              have hrl : Lim r.1 := by rw [hr]; exact HC.out.2.2.1.turned (holdF_lim) _ _ _
              have hstep : holdL l m = if r.2 = 0 then holdL r.1 (m.drop (k + 1)) else ([], r.2) := by
                rw [HC.out.2.1, hdr, holdL, ← hr]
              rw [← hr] at pt
              obtain ⟨e0, he0⟩ : ∃ e0, e0 = r.2 := ⟨_, rfl⟩
              have HS := Aside0.mk (And.intro hrl (And.intro hstep he0))
              have HBA := Aside0.mk hba
              have PT := Aside0.mk pt
              clear hkl hq hdr hx hba hca pt hr hrl hstep he0
              go_wp2_with fail
              go_at_call 26
              refine PT.out.mono ?_
              rintro e w3 ⟨v, rfl, hv, hb⟩
              rw [← HS.out.2.2]
              have hv2 := Kd.R_lower hv HBA.out.size
              have hb2 := below_then HBA.out HBA.out.size hb
              obtain ⟨A9, c9, rfl⟩ := Kd.R_slice hv2
              have hrd := Kd.R_reads' hv2
              have HV := Aside0.mk (And.intro hv2 (And.intro hb2 hrd))
              clear hv hb hv2 hb2 hrd b0 b1 b2 PT
              by_cases hz : e0 = 0
              · have q1 : (e0 != 0) = false := by simp [hz]
                have HZ := Aside0.mk hz
                clear hz
                go_wp2
                exact ⟨⟨k + 1, r.1, A9, c9, r.1.length, by omega, by go_num, rfl, ⟨rfl, by rw [HS.out.2.1, if_pos (by rw [← HS.out.2.2]; exact HZ.out)], HS.out.1, HV.out.2.2.2.2, HV.out.2.2.2.1⟩, ⟨.inr HV.out.1⟩, ⟨HV.out.2.1⟩⟩, by simp [intOf]; omega⟩
              · have q1 : (e0 != 0) = true := by simp [hz]
                have HZ := Aside0.mk hz
                clear hz
                go_wp2
                go_ret2
                have hrr : res = ([], e0) := by rw [HR.out, HS.out.2.1, if_neg (by rw [← HS.out.2.2]; exact HZ.out), HS.out.2.2]
                refine ⟨.slice none 0 0, ?_, ?_, HV.out.2.1⟩
                · rw [hrr]; rfl
                · rw [hrr]; exact Kd.R_nil _ _ _ _ _
            · have hkm : k = m1 := by omega
              subst k
              have hRR : k37.R 37 wr w.heap.size (fun _ => True) (.slice A' n' c') cur := by
                rcases HO.out with h | h
                · omega
                · exact h
              have hrr : res = (cur, 0) := by
                rw [HR.out, HC.out.2.1, List.drop_of_length_le (by rw [← HN.out.2]; omega)]; rfl
              have HF := Aside0.mk (And.intro hRR hrr)
              clear hRR hrr
              go_wp2
              go_ret2
              refine ⟨.slice A' n' c', ?_, ?_, HB.out⟩
              · rw [HF.out.2]; rfl
              · rw [HF.out.2]; exact HF.out.1
end Go.Proofs.Ytkhghabenhhhaaa.Stock
