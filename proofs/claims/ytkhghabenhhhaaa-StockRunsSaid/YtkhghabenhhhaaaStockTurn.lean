/- Stocks in which a spot was turned: the walk, whatever turns it. No conditions beside those that the contract states. -/
import Derived.Test.YtkhghabenhhhaaaStockClo
namespace Go.Proofs.Ytkhghabenhhhaaa.Stock
open Go.RowKit Go.Proofs.Ytkhghabenhhhaaa.Pa Go.Proofs.YtkhghabenhhhaaaW.PrintWords Go.Proofs.YtkhghabenhhhaaaW.PrintLast Go.Proofs.YtkhghabenhhhaaaW.PrintMore Go.Proofs.Ytkhghabenhhhaaa.Sl
set_option linter.unusedVariables false
set_option linter.unusedSimpArgs false

/-- Numbers that are such. -/
def Lim (l : List Spot) : Prop := l.length ≤ 99999999999 ∧ ∀ s ∈ l, s.f2 < 9223372036854775808
instance (l : List Spot) : Decidable (Lim l) := by unfold Lim; infer_instance
theorem getS_sound {l : List Spot} (h : May l) (hl : Lim l) (sku loc : Int) : sound (getS l sku loc) := by
  have h1 := getS_fine h sku loc
  refine ⟨h1.1, h1.2, ?_⟩
  rcases getS_cases l sku loc with g | g
  · exact hl.2 _ g.1
  · rw [g.1]; show (0 : Int) < 9223372036854775808; decide
/-- Stocks, and an error: in which a spot was turned. -/
def turnedP (F : Spot → Int × Spot) (l : List Spot) (sku loc qty : Int) : List Spot × Int :=
  if knownP l sku loc = 0 then (if qty ≤ 0 then ([], 1) else if (F (getS l sku loc)).1 = 0 then (putS l (F (getS l sku loc)).2, 0) else ([], (F (getS l sku loc)).1)) else ([], knownP l sku loc)
/-- Fresh stocks, and an error. -/
def FreshE (w : World) (r : List Spot × Int) (e : Ending) (w' : World) : Prop := ∃ v, e = .returned (.tuple #[v, .int .i64 r.2]) ∧ k37.R 37 w' w.heap.size (fun _ => True) v r.1 ∧ Below w.heap.size w w'
theorem known_any (A : Option Addr) (c : Nat) (l : List Spot) (a b : Int) (w : World) (hC : Kd.C k37 w A l.length l) (hc : l.length ≤ c) (hl : l.length ≤ 99999999999) :
    Calls Try.prog 39 #[.slice A l.length c, .int .i64 a, .int .i64 b] w fun e w' => e = .returned (.int .i64 (knownP l a b)) ∧ Below w.heap.size w w' :=
  stock_known.calls (l.length + 1) A c l a b _ w hC hc (known_f (by omega) (Nat.lt_succ_self _) a b)
theorem knownP_zero {l : List Spot} {a b : Int} (h : knownP l a b = 0) : May l ∧ pairB a b = true := by
  unfold knownP at h
  split at h
  · split at h
    · exact ⟨mayB_iff.1 (by assumption), by assumption⟩
    · cases h
  · cases h
set_option maxRecDepth 100000 in
set_option maxHeartbeats 16000000 in
theorem turned_any41 (F : Spot → Int × Spot) (pb o : Nat) (q : Int) (A : Option Addr) (c : Nat) (l : List Spot) (sku loc qty : Int) (w : World) (hC : Kd.C k37 w A l.length l) (hc : l.length ≤ c) (hl : Lim l) (hp : w.cell? ⟨pb, o, none⟩ = some (.int .i64 q))
    (hkey : ∀ x : Spot, (F x).2.f0 = x.f0 ∧ (F x).2.f1 = x.f1)
    (hclo : 0 < qty → ∀ (b : Nat) (x : Spot) (W : World), SpotAt W b x → W.cell? ⟨pb, o, none⟩ = some (.int .i64 q) → sound x → pb ≠ b → Calls Try.prog 41 #[.pointer (some ⟨b, 0, none⟩), .pointer (some ⟨pb, 0, none⟩)] W (Turned W b (F x).1 (F x).2)) :
    Calls Try.prog 26 #[.slice A l.length c, .agg #[.int .i64 sku, .int .i64 loc, .int .i64 qty], .func (.func 41) #[] #[.pointer (some ⟨pb, 0, none⟩)]] w (FreshE w (turnedP F l sku loc qty)) := by
  have hw0 : Below w.heap.size w (w.alloc (.cells #[.int .i64 sku, .int .i64 loc, .int .i64 qty] 32)) := (Below.refl _ _).alloc (Nat.le_refl _) _
  have pk := known_any A c l sku loc _ (Kd.C_below hC hw0) hc hl.1
  have hpl : pb < w.heap.size := World.block_lt_of_cell? _ _ hp
  have HX := Aside0.mk (And.intro hC (And.intro hc (And.intro hl (And.intro hp (And.intro hkey hclo)))))
  have HW := Aside0.mk hw0
  obtain ⟨n, hn⟩ : ∃ n, n = l.length := ⟨_, rfl⟩
  have HN := Aside0.mk hn
  have hn1 := hl.1
  rw [← hn] at pk hn1 ⊢
  unfold turnedP
  obtain ⟨kk, hkk⟩ : ∃ kk, kk = knownP l sku loc := ⟨_, rfl⟩
  rw [← hkk] at pk ⊢
  have HKK := Aside0.mk hkk
  clear hC hc hl hp hkey hclo hw0 hn hkk
  by_cases hk0 : kk = 0
  · subst hk0
    rw [if_pos rfl]
    obtain ⟨hM, hpr⟩ := knownP_zero HKK.out.symm
    have HM := Aside0.mk (And.intro hM hpr)
    clear hM hpr
    by_cases hq : qty ≤ 0
    · rw [if_pos hq]
      go_enter Try.func26, Try.ntmps26
      go_wp2_with fail
      go_at_call 39
      refine pk.mono ?_
      rintro e w1 ⟨rfl, hb⟩
      have k1 := (hb.block w.heap.size (by simp)).trans (heap_alloc_new w _)
      have x0 : w1.cell? ⟨w.heap.size, 2, none⟩ = some (.int .i64 qty) := by rw [cell_of_row _ _ _ _ _ _ k1]; rfl
      have HB := Aside0.mk (below_then HW.out (by simp) hb)
      clear hb k1 pk
      go_wp2
      go_ret2
      exact ⟨_, rfl, Kd.R_nil _ _ _ _ _, HB.out⟩
    · rw [if_neg hq]
      have hq' : 0 < qty := by omega
      clear hq
      obtain ⟨x, hx⟩ : ∃ x, x = getS l sku loc := ⟨_, rfl⟩
      rw [← hx]
      obtain ⟨r, hr⟩ : ∃ r, r = F x := ⟨_, rfl⟩
      rw [← hr]
      obtain ⟨res, hres⟩ : ∃ res : List Spot × Int, res = (if r.1 = 0 then (putS l r.2, 0) else ([], r.1)) := ⟨_, rfl⟩
      rw [← hres]
      have HRES := Aside0.mk hres
      have HR := Aside0.mk hr
      have HXX := Aside0.mk hx
      clear hr hx hres
      go_enter Try.func26, Try.ntmps26
      go_wp2_with fail
      go_at_call 39
      refine pk.mono ?_
      rintro e w1 ⟨rfl, hb⟩
      have k1 := (hb.block w.heap.size (by simp)).trans (heap_alloc_new w _)
      have x0 : w1.cell? ⟨w.heap.size, 0, none⟩ = some (.int .i64 sku) := by rw [cell_of_row _ _ _ _ _ _ k1]; rfl
      have x1 : w1.cell? ⟨w.heap.size, 1, none⟩ = some (.int .i64 loc) := by rw [cell_of_row _ _ _ _ _ _ k1]; rfl
      have x2 : w1.cell? ⟨w.heap.size, 2, none⟩ = some (.int .i64 qty) := by rw [cell_of_row _ _ _ _ _ _ k1]; rfl
      have hbl := below_then HW.out (by simp) hb
      have hpp := pairB_iff.1 HM.out.2
      have pa := at_any A c l sku loc w1 (Kd.C_below HX.out.1 hbl) HM.out.1 (by omega) (by omega) (by omega) (by omega)
      rw [← HN.out, ← HXX.out] at pa
      have HB := Aside0.mk hbl
      clear hb k1 pk hbl hpp
      go_wp2_with fail
      go_at_call 35
      refine pa.mono ?_
      rintro e w2 ⟨rfl, hb⟩
      have HB2 := Aside0.mk (below_then HB.out HB.out.size hb)
      clear hb pa x0 x1 x2
      have hbs : pb ≠ w2.heap.size := by have := HB2.out.size; omega
      have pc := HX.out.2.2.2.2.2 hq' w2.heap.size x (w2.alloc (.cells #[.int .i64 x.f0, .int .i64 x.f1, .int .i64 x.f2, .int .i64 x.f3] 37)) (heap_alloc_new w2 _) (pw_cell_below (HB2.out.alloc HB2.out.size _) HX.out.2.2.2.1) (by rw [HXX.out]; exact getS_sound HM.out.1 HX.out.2.2.1 _ _) hbs
      rw [← HR.out] at pc
      have HPC := Aside0.mk pc
      clear hbs pc
      go_wp2_with fail
      go_at_call 41
      refine HPC.out.mono ?_
      rintro e w3 ⟨rfl, hsp, hwt⟩
      have HS := Aside0.mk (And.intro hsp hwt)
      have hbl3 : Below w.heap.size w w3 := hwt.below (HB2.out.alloc HB2.out.size _) (Nat.le_trans HB2.out.size (by simp)) (fun k hk => by subst hk; exact HB2.out.size)
      have HB3 := Aside0.mk hbl3
      obtain ⟨y, hy⟩ : ∃ y, y = r.2 := ⟨_, rfl⟩
      have HY := Aside0.mk hy
      have hky : y.f0 = sku ∧ y.f1 = loc := by
        have h1 := HX.out.2.2.2.2.1 x
        rw [← HR.out, ← hy] at h1
        have h2 := getS_key l sku loc
        rw [← HXX.out] at h2
        exact ⟨h1.1.trans h2.1, h1.2.trans h2.2⟩
      rw [← hy] at hsp
      obtain ⟨y0, y1, y2, y3, _, _, _, _⟩ := cells_of4 hsp
      have pw := with_any A c l y w3 (Kd.C_below HX.out.1 hbl3) HX.out.2.1 HM.out.1 (by rw [hky.1, hky.2]; exact HM.out.2)
      rw [← HN.out] at pw
      obtain ⟨e0, he0⟩ : ∃ e0, e0 = r.1 := ⟨_, rfl⟩
      rw [← he0]
      have HE := Aside0.mk he0
      clear hsp hwt hbl3 hy hky he0
      by_cases hz : e0 = 0
      · have q0 : (e0 == 0) = true := beq_iff_eq.2 hz
        have q1 : (e0 != 0) = false := by simp [hz]
        have HRS : Aside0 (res = (putS l y, 0)) := ⟨by rw [HRES.out, ← HE.out, if_pos hz, HY.out]⟩
        clear hz
        go_wp2_with fail
        go_at_call 44
        refine pw.mono ?_
        rintro e w4 ⟨v, rfl, hv, hb⟩
        have HV := Aside0.mk (And.intro (Kd.R_lower hv HB3.out.size) (below_then HB3.out HB3.out.size hb))
        clear hv hb pw
        go_wp2
        go_ret2
        refine ⟨v, ?_, ?_, HV.out.2⟩
        · rw [HRS.out]; rfl
        · rw [HRS.out]; exact HV.out.1
      · have q0 : (e0 == 0) = false := beq_eq_false_iff_ne.2 hz
        have q1 : (e0 != 0) = true := by simp [hz]
        have HRS : Aside0 (res = ([], e0)) := ⟨by rw [HRES.out, ← HE.out, if_neg hz]⟩
        clear hz pw
        go_wp2
        go_ret2
        refine ⟨.slice none 0 0, ?_, ?_, HB3.out⟩
        · rw [HRS.out]; rfl
        · rw [HRS.out]; exact Kd.R_nil _ _ _ _ _
  · rw [if_neg hk0]
    have e1 : (kk != 0) = true := by simp [hk0]
    clear hk0
    go_enter Try.func26, Try.ntmps26
    go_wp2_with (go_at_call 39; refine pk.mono ?_; rintro e w1 ⟨rfl, hb⟩; have HB := Aside0.mk (below_then HW.out (by simp) hb); clear hb)
    go_ret2
    exact ⟨_, rfl, Kd.R_nil _ _ _ _ _, HB.out⟩
set_option maxRecDepth 100000 in
set_option maxHeartbeats 16000000 in
theorem turned_any51 (F : Spot → Int × Spot) (pb o : Nat) (q : Int) (A : Option Addr) (c : Nat) (l : List Spot) (sku loc qty : Int) (w : World) (hC : Kd.C k37 w A l.length l) (hc : l.length ≤ c) (hl : Lim l) (hp : w.cell? ⟨pb, o, none⟩ = some (.int .i64 q))
    (hkey : ∀ x : Spot, (F x).2.f0 = x.f0 ∧ (F x).2.f1 = x.f1)
    (hclo : 0 < qty → ∀ (b : Nat) (x : Spot) (W : World), SpotAt W b x → W.cell? ⟨pb, o, none⟩ = some (.int .i64 q) → sound x → pb ≠ b → Calls Try.prog 51 #[.pointer (some ⟨b, 0, none⟩), .pointer (some ⟨pb, 0, none⟩)] W (Turned W b (F x).1 (F x).2)) :
    Calls Try.prog 26 #[.slice A l.length c, .agg #[.int .i64 sku, .int .i64 loc, .int .i64 qty], .func (.func 51) #[] #[.pointer (some ⟨pb, 0, none⟩)]] w (FreshE w (turnedP F l sku loc qty)) := by
  have hw0 : Below w.heap.size w (w.alloc (.cells #[.int .i64 sku, .int .i64 loc, .int .i64 qty] 32)) := (Below.refl _ _).alloc (Nat.le_refl _) _
  have pk := known_any A c l sku loc _ (Kd.C_below hC hw0) hc hl.1
  have hpl : pb < w.heap.size := World.block_lt_of_cell? _ _ hp
  have HX := Aside0.mk (And.intro hC (And.intro hc (And.intro hl (And.intro hp (And.intro hkey hclo)))))
  have HW := Aside0.mk hw0
  obtain ⟨n, hn⟩ : ∃ n, n = l.length := ⟨_, rfl⟩
  have HN := Aside0.mk hn
  have hn1 := hl.1
  rw [← hn] at pk hn1 ⊢
  unfold turnedP
  obtain ⟨kk, hkk⟩ : ∃ kk, kk = knownP l sku loc := ⟨_, rfl⟩
  rw [← hkk] at pk ⊢
  have HKK := Aside0.mk hkk
  clear hC hc hl hp hkey hclo hw0 hn hkk
  by_cases hk0 : kk = 0
  · subst hk0
    rw [if_pos rfl]
    obtain ⟨hM, hpr⟩ := knownP_zero HKK.out.symm
    have HM := Aside0.mk (And.intro hM hpr)
    clear hM hpr
    by_cases hq : qty ≤ 0
    · rw [if_pos hq]
      go_enter Try.func26, Try.ntmps26
      go_wp2_with fail
      go_at_call 39
      refine pk.mono ?_
      rintro e w1 ⟨rfl, hb⟩
      have k1 := (hb.block w.heap.size (by simp)).trans (heap_alloc_new w _)
      have x0 : w1.cell? ⟨w.heap.size, 2, none⟩ = some (.int .i64 qty) := by rw [cell_of_row _ _ _ _ _ _ k1]; rfl
      have HB := Aside0.mk (below_then HW.out (by simp) hb)
      clear hb k1 pk
      go_wp2
      go_ret2
      exact ⟨_, rfl, Kd.R_nil _ _ _ _ _, HB.out⟩
    · rw [if_neg hq]
      have hq' : 0 < qty := by omega
      clear hq
      obtain ⟨x, hx⟩ : ∃ x, x = getS l sku loc := ⟨_, rfl⟩
      rw [← hx]
      obtain ⟨r, hr⟩ : ∃ r, r = F x := ⟨_, rfl⟩
      rw [← hr]
      obtain ⟨res, hres⟩ : ∃ res : List Spot × Int, res = (if r.1 = 0 then (putS l r.2, 0) else ([], r.1)) := ⟨_, rfl⟩
      rw [← hres]
      have HRES := Aside0.mk hres
      have HR := Aside0.mk hr
      have HXX := Aside0.mk hx
      clear hr hx hres
      go_enter Try.func26, Try.ntmps26
      go_wp2_with fail
      go_at_call 39
      refine pk.mono ?_
      rintro e w1 ⟨rfl, hb⟩
      have k1 := (hb.block w.heap.size (by simp)).trans (heap_alloc_new w _)
      have x0 : w1.cell? ⟨w.heap.size, 0, none⟩ = some (.int .i64 sku) := by rw [cell_of_row _ _ _ _ _ _ k1]; rfl
      have x1 : w1.cell? ⟨w.heap.size, 1, none⟩ = some (.int .i64 loc) := by rw [cell_of_row _ _ _ _ _ _ k1]; rfl
      have x2 : w1.cell? ⟨w.heap.size, 2, none⟩ = some (.int .i64 qty) := by rw [cell_of_row _ _ _ _ _ _ k1]; rfl
      have hbl := below_then HW.out (by simp) hb
      have hpp := pairB_iff.1 HM.out.2
      have pa := at_any A c l sku loc w1 (Kd.C_below HX.out.1 hbl) HM.out.1 (by omega) (by omega) (by omega) (by omega)
      rw [← HN.out, ← HXX.out] at pa
      have HB := Aside0.mk hbl
      clear hb k1 pk hbl hpp
      go_wp2_with fail
      go_at_call 35
      refine pa.mono ?_
      rintro e w2 ⟨rfl, hb⟩
      have HB2 := Aside0.mk (below_then HB.out HB.out.size hb)
      clear hb pa x0 x1 x2
      have hbs : pb ≠ w2.heap.size := by have := HB2.out.size; omega
      have pc := HX.out.2.2.2.2.2 hq' w2.heap.size x (w2.alloc (.cells #[.int .i64 x.f0, .int .i64 x.f1, .int .i64 x.f2, .int .i64 x.f3] 37)) (heap_alloc_new w2 _) (pw_cell_below (HB2.out.alloc HB2.out.size _) HX.out.2.2.2.1) (by rw [HXX.out]; exact getS_sound HM.out.1 HX.out.2.2.1 _ _) hbs
      rw [← HR.out] at pc
      have HPC := Aside0.mk pc
      clear hbs pc
      go_wp2_with fail
      go_at_call 51
      refine HPC.out.mono ?_
      rintro e w3 ⟨rfl, hsp, hwt⟩
      have HS := Aside0.mk (And.intro hsp hwt)
      have hbl3 : Below w.heap.size w w3 := hwt.below (HB2.out.alloc HB2.out.size _) (Nat.le_trans HB2.out.size (by simp)) (fun k hk => by subst hk; exact HB2.out.size)
      have HB3 := Aside0.mk hbl3
      obtain ⟨y, hy⟩ : ∃ y, y = r.2 := ⟨_, rfl⟩
      have HY := Aside0.mk hy
      have hky : y.f0 = sku ∧ y.f1 = loc := by
        have h1 := HX.out.2.2.2.2.1 x
        rw [← HR.out, ← hy] at h1
        have h2 := getS_key l sku loc
        rw [← HXX.out] at h2
        exact ⟨h1.1.trans h2.1, h1.2.trans h2.2⟩
      rw [← hy] at hsp
      obtain ⟨y0, y1, y2, y3, _, _, _, _⟩ := cells_of4 hsp
      have pw := with_any A c l y w3 (Kd.C_below HX.out.1 hbl3) HX.out.2.1 HM.out.1 (by rw [hky.1, hky.2]; exact HM.out.2)
      rw [← HN.out] at pw
      obtain ⟨e0, he0⟩ : ∃ e0, e0 = r.1 := ⟨_, rfl⟩
      rw [← he0]
      have HE := Aside0.mk he0
      clear hsp hwt hbl3 hy hky he0
      by_cases hz : e0 = 0
      · have q0 : (e0 == 0) = true := beq_iff_eq.2 hz
        have q1 : (e0 != 0) = false := by simp [hz]
        have HRS : Aside0 (res = (putS l y, 0)) := ⟨by rw [HRES.out, ← HE.out, if_pos hz, HY.out]⟩
        clear hz
        go_wp2_with fail
        go_at_call 44
        refine pw.mono ?_
        rintro e w4 ⟨v, rfl, hv, hb⟩
        have HV := Aside0.mk (And.intro (Kd.R_lower hv HB3.out.size) (below_then HB3.out HB3.out.size hb))
        clear hv hb pw
        go_wp2
        go_ret2
        refine ⟨v, ?_, ?_, HV.out.2⟩
        · rw [HRS.out]; rfl
        · rw [HRS.out]; exact HV.out.1
      · have q0 : (e0 == 0) = false := beq_eq_false_iff_ne.2 hz
        have q1 : (e0 != 0) = true := by simp [hz]
        have HRS : Aside0 (res = ([], e0)) := ⟨by rw [HRES.out, ← HE.out, if_neg hz]⟩
        clear hz pw
        go_wp2
        go_ret2
        refine ⟨.slice none 0 0, ?_, ?_, HB3.out⟩
        · rw [HRS.out]; rfl
        · rw [HRS.out]; exact Kd.R_nil _ _ _ _ _
  · rw [if_neg hk0]
    have e1 : (kk != 0) = true := by simp [hk0]
    clear hk0
    go_enter Try.func26, Try.ntmps26
    go_wp2_with (go_at_call 39; refine pk.mono ?_; rintro e w1 ⟨rfl, hb⟩; have HB := Aside0.mk (below_then HW.out (by simp) hb); clear hb)
    go_ret2
    exact ⟨_, rfl, Kd.R_nil _ _ _ _ _, HB.out⟩
set_option maxRecDepth 100000 in
set_option maxHeartbeats 16000000 in
theorem turned_any36 (F : Spot → Int × Spot) (pb o : Nat) (q : Int) (A : Option Addr) (c : Nat) (l : List Spot) (sku loc qty : Int) (w : World) (hC : Kd.C k37 w A l.length l) (hc : l.length ≤ c) (hl : Lim l) (hp : w.cell? ⟨pb, o, none⟩ = some (.int .i64 q))
    (hkey : ∀ x : Spot, (F x).2.f0 = x.f0 ∧ (F x).2.f1 = x.f1)
    (hclo : 0 < qty → ∀ (b : Nat) (x : Spot) (W : World), SpotAt W b x → W.cell? ⟨pb, o, none⟩ = some (.int .i64 q) → sound x → pb ≠ b → Calls Try.prog 36 #[.pointer (some ⟨b, 0, none⟩), .pointer (some ⟨pb, 0, none⟩)] W (Turned W b (F x).1 (F x).2)) :
    Calls Try.prog 26 #[.slice A l.length c, .agg #[.int .i64 sku, .int .i64 loc, .int .i64 qty], .func (.func 36) #[] #[.pointer (some ⟨pb, 0, none⟩)]] w (FreshE w (turnedP F l sku loc qty)) := by
  have hw0 : Below w.heap.size w (w.alloc (.cells #[.int .i64 sku, .int .i64 loc, .int .i64 qty] 32)) := (Below.refl _ _).alloc (Nat.le_refl _) _
  have pk := known_any A c l sku loc _ (Kd.C_below hC hw0) hc hl.1
  have hpl : pb < w.heap.size := World.block_lt_of_cell? _ _ hp
  have HX := Aside0.mk (And.intro hC (And.intro hc (And.intro hl (And.intro hp (And.intro hkey hclo)))))
  have HW := Aside0.mk hw0
  obtain ⟨n, hn⟩ : ∃ n, n = l.length := ⟨_, rfl⟩
  have HN := Aside0.mk hn
  have hn1 := hl.1
  rw [← hn] at pk hn1 ⊢
  unfold turnedP
  obtain ⟨kk, hkk⟩ : ∃ kk, kk = knownP l sku loc := ⟨_, rfl⟩
  rw [← hkk] at pk ⊢
  have HKK := Aside0.mk hkk
  clear hC hc hl hp hkey hclo hw0 hn hkk
  by_cases hk0 : kk = 0
  · subst hk0
    rw [if_pos rfl]
    obtain ⟨hM, hpr⟩ := knownP_zero HKK.out.symm
    have HM := Aside0.mk (And.intro hM hpr)
    clear hM hpr
    by_cases hq : qty ≤ 0
    · rw [if_pos hq]
      go_enter Try.func26, Try.ntmps26
      go_wp2_with fail
      go_at_call 39
      refine pk.mono ?_
      rintro e w1 ⟨rfl, hb⟩
      have k1 := (hb.block w.heap.size (by simp)).trans (heap_alloc_new w _)
      have x0 : w1.cell? ⟨w.heap.size, 2, none⟩ = some (.int .i64 qty) := by rw [cell_of_row _ _ _ _ _ _ k1]; rfl
      have HB := Aside0.mk (below_then HW.out (by simp) hb)
      clear hb k1 pk
      go_wp2
      go_ret2
      exact ⟨_, rfl, Kd.R_nil _ _ _ _ _, HB.out⟩
    · rw [if_neg hq]
      have hq' : 0 < qty := by omega
      clear hq
      obtain ⟨x, hx⟩ : ∃ x, x = getS l sku loc := ⟨_, rfl⟩
      rw [← hx]
      obtain ⟨r, hr⟩ : ∃ r, r = F x := ⟨_, rfl⟩
      rw [← hr]
      obtain ⟨res, hres⟩ : ∃ res : List Spot × Int, res = (if r.1 = 0 then (putS l r.2, 0) else ([], r.1)) := ⟨_, rfl⟩
      rw [← hres]
      have HRES := Aside0.mk hres
      have HR := Aside0.mk hr
      have HXX := Aside0.mk hx
      clear hr hx hres
      go_enter Try.func26, Try.ntmps26
      go_wp2_with fail
      go_at_call 39
      refine pk.mono ?_
      rintro e w1 ⟨rfl, hb⟩
      have k1 := (hb.block w.heap.size (by simp)).trans (heap_alloc_new w _)
      have x0 : w1.cell? ⟨w.heap.size, 0, none⟩ = some (.int .i64 sku) := by rw [cell_of_row _ _ _ _ _ _ k1]; rfl
      have x1 : w1.cell? ⟨w.heap.size, 1, none⟩ = some (.int .i64 loc) := by rw [cell_of_row _ _ _ _ _ _ k1]; rfl
      have x2 : w1.cell? ⟨w.heap.size, 2, none⟩ = some (.int .i64 qty) := by rw [cell_of_row _ _ _ _ _ _ k1]; rfl
      have hbl := below_then HW.out (by simp) hb
      have hpp := pairB_iff.1 HM.out.2
      have pa := at_any A c l sku loc w1 (Kd.C_below HX.out.1 hbl) HM.out.1 (by omega) (by omega) (by omega) (by omega)
      rw [← HN.out, ← HXX.out] at pa
      have HB := Aside0.mk hbl
      clear hb k1 pk hbl hpp
      go_wp2_with fail
      go_at_call 35
      refine pa.mono ?_
      rintro e w2 ⟨rfl, hb⟩
      have HB2 := Aside0.mk (below_then HB.out HB.out.size hb)
      clear hb pa x0 x1 x2
      have hbs : pb ≠ w2.heap.size := by have := HB2.out.size; omega
      have pc := HX.out.2.2.2.2.2 hq' w2.heap.size x (w2.alloc (.cells #[.int .i64 x.f0, .int .i64 x.f1, .int .i64 x.f2, .int .i64 x.f3] 37)) (heap_alloc_new w2 _) (pw_cell_below (HB2.out.alloc HB2.out.size _) HX.out.2.2.2.1) (by rw [HXX.out]; exact getS_sound HM.out.1 HX.out.2.2.1 _ _) hbs
      rw [← HR.out] at pc
      have HPC := Aside0.mk pc
      clear hbs pc
      go_wp2_with fail
      go_at_call 36
      refine HPC.out.mono ?_
      rintro e w3 ⟨rfl, hsp, hwt⟩
      have HS := Aside0.mk (And.intro hsp hwt)
      have hbl3 : Below w.heap.size w w3 := hwt.below (HB2.out.alloc HB2.out.size _) (Nat.le_trans HB2.out.size (by simp)) (fun k hk => by subst hk; exact HB2.out.size)
      have HB3 := Aside0.mk hbl3
      obtain ⟨y, hy⟩ : ∃ y, y = r.2 := ⟨_, rfl⟩
      have HY := Aside0.mk hy
      have hky : y.f0 = sku ∧ y.f1 = loc := by
        have h1 := HX.out.2.2.2.2.1 x
        rw [← HR.out, ← hy] at h1
        have h2 := getS_key l sku loc
        rw [← HXX.out] at h2
        exact ⟨h1.1.trans h2.1, h1.2.trans h2.2⟩
      rw [← hy] at hsp
      obtain ⟨y0, y1, y2, y3, _, _, _, _⟩ := cells_of4 hsp
      have pw := with_any A c l y w3 (Kd.C_below HX.out.1 hbl3) HX.out.2.1 HM.out.1 (by rw [hky.1, hky.2]; exact HM.out.2)
      rw [← HN.out] at pw
      obtain ⟨e0, he0⟩ : ∃ e0, e0 = r.1 := ⟨_, rfl⟩
      rw [← he0]
      have HE := Aside0.mk he0
      clear hsp hwt hbl3 hy hky he0
      by_cases hz : e0 = 0
      · have q0 : (e0 == 0) = true := beq_iff_eq.2 hz
        have q1 : (e0 != 0) = false := by simp [hz]
        have HRS : Aside0 (res = (putS l y, 0)) := ⟨by rw [HRES.out, ← HE.out, if_pos hz, HY.out]⟩
        clear hz
        go_wp2_with fail
        go_at_call 44
        refine pw.mono ?_
        rintro e w4 ⟨v, rfl, hv, hb⟩
        have HV := Aside0.mk (And.intro (Kd.R_lower hv HB3.out.size) (below_then HB3.out HB3.out.size hb))
        clear hv hb pw
        go_wp2
        go_ret2
        refine ⟨v, ?_, ?_, HV.out.2⟩
        · rw [HRS.out]; rfl
        · rw [HRS.out]; exact HV.out.1
      · have q0 : (e0 == 0) = false := beq_eq_false_iff_ne.2 hz
        have q1 : (e0 != 0) = true := by simp [hz]
        have HRS : Aside0 (res = ([], e0)) := ⟨by rw [HRES.out, ← HE.out, if_neg hz]⟩
        clear hz pw
        go_wp2
        go_ret2
        refine ⟨.slice none 0 0, ?_, ?_, HB3.out⟩
        · rw [HRS.out]; rfl
        · rw [HRS.out]; exact Kd.R_nil _ _ _ _ _
  · rw [if_neg hk0]
    have e1 : (kk != 0) = true := by simp [hk0]
    clear hk0
    go_enter Try.func26, Try.ntmps26
    go_wp2_with (go_at_call 39; refine pk.mono ?_; rintro e w1 ⟨rfl, hb⟩; have HB := Aside0.mk (below_then HW.out (by simp) hb); clear hb)
    go_ret2
    exact ⟨_, rfl, Kd.R_nil _ _ _ _ _, HB.out⟩
set_option maxRecDepth 100000 in
set_option maxHeartbeats 16000000 in
theorem turned_any38 (F : Spot → Int × Spot) (pb o : Nat) (q : Int) (A : Option Addr) (c : Nat) (l : List Spot) (sku loc qty : Int) (w : World) (hC : Kd.C k37 w A l.length l) (hc : l.length ≤ c) (hl : Lim l) (hp : w.cell? ⟨pb, o, none⟩ = some (.int .i64 q))
    (hkey : ∀ x : Spot, (F x).2.f0 = x.f0 ∧ (F x).2.f1 = x.f1)
    (hclo : 0 < qty → ∀ (b : Nat) (x : Spot) (W : World), SpotAt W b x → W.cell? ⟨pb, o, none⟩ = some (.int .i64 q) → sound x → pb ≠ b → Calls Try.prog 38 #[.pointer (some ⟨b, 0, none⟩), .pointer (some ⟨pb, 0, none⟩)] W (Turned W b (F x).1 (F x).2)) :
    Calls Try.prog 26 #[.slice A l.length c, .agg #[.int .i64 sku, .int .i64 loc, .int .i64 qty], .func (.func 38) #[] #[.pointer (some ⟨pb, 0, none⟩)]] w (FreshE w (turnedP F l sku loc qty)) := by
  have hw0 : Below w.heap.size w (w.alloc (.cells #[.int .i64 sku, .int .i64 loc, .int .i64 qty] 32)) := (Below.refl _ _).alloc (Nat.le_refl _) _
  have pk := known_any A c l sku loc _ (Kd.C_below hC hw0) hc hl.1
  have hpl : pb < w.heap.size := World.block_lt_of_cell? _ _ hp
  have HX := Aside0.mk (And.intro hC (And.intro hc (And.intro hl (And.intro hp (And.intro hkey hclo)))))
  have HW := Aside0.mk hw0
  obtain ⟨n, hn⟩ : ∃ n, n = l.length := ⟨_, rfl⟩
  have HN := Aside0.mk hn
  have hn1 := hl.1
  rw [← hn] at pk hn1 ⊢
  unfold turnedP
  obtain ⟨kk, hkk⟩ : ∃ kk, kk = knownP l sku loc := ⟨_, rfl⟩
  rw [← hkk] at pk ⊢
  have HKK := Aside0.mk hkk
  clear hC hc hl hp hkey hclo hw0 hn hkk
  by_cases hk0 : kk = 0
  · subst hk0
    rw [if_pos rfl]
    obtain ⟨hM, hpr⟩ := knownP_zero HKK.out.symm
    have HM := Aside0.mk (And.intro hM hpr)
    clear hM hpr
    by_cases hq : qty ≤ 0
    · rw [if_pos hq]
      go_enter Try.func26, Try.ntmps26
      go_wp2_with fail
      go_at_call 39
      refine pk.mono ?_
      rintro e w1 ⟨rfl, hb⟩
      have k1 := (hb.block w.heap.size (by simp)).trans (heap_alloc_new w _)
      have x0 : w1.cell? ⟨w.heap.size, 2, none⟩ = some (.int .i64 qty) := by rw [cell_of_row _ _ _ _ _ _ k1]; rfl
      have HB := Aside0.mk (below_then HW.out (by simp) hb)
      clear hb k1 pk
      go_wp2
      go_ret2
      exact ⟨_, rfl, Kd.R_nil _ _ _ _ _, HB.out⟩
    · rw [if_neg hq]
      have hq' : 0 < qty := by omega
      clear hq
      obtain ⟨x, hx⟩ : ∃ x, x = getS l sku loc := ⟨_, rfl⟩
      rw [← hx]
      obtain ⟨r, hr⟩ : ∃ r, r = F x := ⟨_, rfl⟩
      rw [← hr]
      obtain ⟨res, hres⟩ : ∃ res : List Spot × Int, res = (if r.1 = 0 then (putS l r.2, 0) else ([], r.1)) := ⟨_, rfl⟩
      rw [← hres]
      have HRES := Aside0.mk hres
      have HR := Aside0.mk hr
      have HXX := Aside0.mk hx
      clear hr hx hres
      go_enter Try.func26, Try.ntmps26
      go_wp2_with fail
      go_at_call 39
      refine pk.mono ?_
      rintro e w1 ⟨rfl, hb⟩
      have k1 := (hb.block w.heap.size (by simp)).trans (heap_alloc_new w _)
      have x0 : w1.cell? ⟨w.heap.size, 0, none⟩ = some (.int .i64 sku) := by rw [cell_of_row _ _ _ _ _ _ k1]; rfl
      have x1 : w1.cell? ⟨w.heap.size, 1, none⟩ = some (.int .i64 loc) := by rw [cell_of_row _ _ _ _ _ _ k1]; rfl
      have x2 : w1.cell? ⟨w.heap.size, 2, none⟩ = some (.int .i64 qty) := by rw [cell_of_row _ _ _ _ _ _ k1]; rfl
      have hbl := below_then HW.out (by simp) hb
      have hpp := pairB_iff.1 HM.out.2
      have pa := at_any A c l sku loc w1 (Kd.C_below HX.out.1 hbl) HM.out.1 (by omega) (by omega) (by omega) (by omega)
      rw [← HN.out, ← HXX.out] at pa
      have HB := Aside0.mk hbl
      clear hb k1 pk hbl hpp
      go_wp2_with fail
      go_at_call 35
      refine pa.mono ?_
      rintro e w2 ⟨rfl, hb⟩
      have HB2 := Aside0.mk (below_then HB.out HB.out.size hb)
      clear hb pa x0 x1 x2
      have hbs : pb ≠ w2.heap.size := by have := HB2.out.size; omega
      have pc := HX.out.2.2.2.2.2 hq' w2.heap.size x (w2.alloc (.cells #[.int .i64 x.f0, .int .i64 x.f1, .int .i64 x.f2, .int .i64 x.f3] 37)) (heap_alloc_new w2 _) (pw_cell_below (HB2.out.alloc HB2.out.size _) HX.out.2.2.2.1) (by rw [HXX.out]; exact getS_sound HM.out.1 HX.out.2.2.1 _ _) hbs
      rw [← HR.out] at pc
      have HPC := Aside0.mk pc
      clear hbs pc
      go_wp2_with fail
      go_at_call 38
      refine HPC.out.mono ?_
      rintro e w3 ⟨rfl, hsp, hwt⟩
      have HS := Aside0.mk (And.intro hsp hwt)
      have hbl3 : Below w.heap.size w w3 := hwt.below (HB2.out.alloc HB2.out.size _) (Nat.le_trans HB2.out.size (by simp)) (fun k hk => by subst hk; exact HB2.out.size)
      have HB3 := Aside0.mk hbl3
      obtain ⟨y, hy⟩ : ∃ y, y = r.2 := ⟨_, rfl⟩
      have HY := Aside0.mk hy
      have hky : y.f0 = sku ∧ y.f1 = loc := by
        have h1 := HX.out.2.2.2.2.1 x
        rw [← HR.out, ← hy] at h1
        have h2 := getS_key l sku loc
        rw [← HXX.out] at h2
        exact ⟨h1.1.trans h2.1, h1.2.trans h2.2⟩
      rw [← hy] at hsp
      obtain ⟨y0, y1, y2, y3, _, _, _, _⟩ := cells_of4 hsp
      have pw := with_any A c l y w3 (Kd.C_below HX.out.1 hbl3) HX.out.2.1 HM.out.1 (by rw [hky.1, hky.2]; exact HM.out.2)
      rw [← HN.out] at pw
      obtain ⟨e0, he0⟩ : ∃ e0, e0 = r.1 := ⟨_, rfl⟩
      rw [← he0]
      have HE := Aside0.mk he0
      clear hsp hwt hbl3 hy hky he0
      by_cases hz : e0 = 0
      · have q0 : (e0 == 0) = true := beq_iff_eq.2 hz
        have q1 : (e0 != 0) = false := by simp [hz]
        have HRS : Aside0 (res = (putS l y, 0)) := ⟨by rw [HRES.out, ← HE.out, if_pos hz, HY.out]⟩
        clear hz
        go_wp2_with fail
        go_at_call 44
        refine pw.mono ?_
        rintro e w4 ⟨v, rfl, hv, hb⟩
        have HV := Aside0.mk (And.intro (Kd.R_lower hv HB3.out.size) (below_then HB3.out HB3.out.size hb))
        clear hv hb pw
        go_wp2
        go_ret2
        refine ⟨v, ?_, ?_, HV.out.2⟩
        · rw [HRS.out]; rfl
        · rw [HRS.out]; exact HV.out.1
      · have q0 : (e0 == 0) = false := beq_eq_false_iff_ne.2 hz
        have q1 : (e0 != 0) = true := by simp [hz]
        have HRS : Aside0 (res = ([], e0)) := ⟨by rw [HRES.out, ← HE.out, if_neg hz]⟩
        clear hz pw
        go_wp2
        go_ret2
        refine ⟨.slice none 0 0, ?_, ?_, HB3.out⟩
        · rw [HRS.out]; rfl
        · rw [HRS.out]; exact Kd.R_nil _ _ _ _ _
  · rw [if_neg hk0]
    have e1 : (kk != 0) = true := by simp [hk0]
    clear hk0
    go_enter Try.func26, Try.ntmps26
    go_wp2_with (go_at_call 39; refine pk.mono ?_; rintro e w1 ⟨rfl, hb⟩; have HB := Aside0.mk (below_then HW.out (by simp) hb); clear hb)
    go_ret2
    exact ⟨_, rfl, Kd.R_nil _ _ _ _ _, HB.out⟩
set_option maxRecDepth 100000 in
set_option maxHeartbeats 16000000 in
theorem turned_any27 (F : Spot → Int × Spot) (pb o : Nat) (q : Int) (A : Option Addr) (c : Nat) (l : List Spot) (sku loc qty : Int) (w : World) (hC : Kd.C k37 w A l.length l) (hc : l.length ≤ c) (hl : Lim l) (hp : w.cell? ⟨pb, o, none⟩ = some (.int .i64 q))
    (hkey : ∀ x : Spot, (F x).2.f0 = x.f0 ∧ (F x).2.f1 = x.f1)
    (hclo : 0 < qty → ∀ (b : Nat) (x : Spot) (W : World), SpotAt W b x → W.cell? ⟨pb, o, none⟩ = some (.int .i64 q) → sound x → pb ≠ b → Calls Try.prog 27 #[.pointer (some ⟨b, 0, none⟩), .pointer (some ⟨pb, 0, none⟩)] W (Turned W b (F x).1 (F x).2)) :
    Calls Try.prog 26 #[.slice A l.length c, .agg #[.int .i64 sku, .int .i64 loc, .int .i64 qty], .func (.func 27) #[] #[.pointer (some ⟨pb, 0, none⟩)]] w (FreshE w (turnedP F l sku loc qty)) := by
  have hw0 : Below w.heap.size w (w.alloc (.cells #[.int .i64 sku, .int .i64 loc, .int .i64 qty] 32)) := (Below.refl _ _).alloc (Nat.le_refl _) _
  have pk := known_any A c l sku loc _ (Kd.C_below hC hw0) hc hl.1
  have hpl : pb < w.heap.size := World.block_lt_of_cell? _ _ hp
  have HX := Aside0.mk (And.intro hC (And.intro hc (And.intro hl (And.intro hp (And.intro hkey hclo)))))
  have HW := Aside0.mk hw0
  obtain ⟨n, hn⟩ : ∃ n, n = l.length := ⟨_, rfl⟩
  have HN := Aside0.mk hn
  have hn1 := hl.1
  rw [← hn] at pk hn1 ⊢
  unfold turnedP
  obtain ⟨kk, hkk⟩ : ∃ kk, kk = knownP l sku loc := ⟨_, rfl⟩
  rw [← hkk] at pk ⊢
  have HKK := Aside0.mk hkk
  clear hC hc hl hp hkey hclo hw0 hn hkk
  by_cases hk0 : kk = 0
  · subst hk0
    rw [if_pos rfl]
    obtain ⟨hM, hpr⟩ := knownP_zero HKK.out.symm
    have HM := Aside0.mk (And.intro hM hpr)
    clear hM hpr
    by_cases hq : qty ≤ 0
    · rw [if_pos hq]
      go_enter Try.func26, Try.ntmps26
      go_wp2_with fail
      go_at_call 39
      refine pk.mono ?_
      rintro e w1 ⟨rfl, hb⟩
      have k1 := (hb.block w.heap.size (by simp)).trans (heap_alloc_new w _)
      have x0 : w1.cell? ⟨w.heap.size, 2, none⟩ = some (.int .i64 qty) := by rw [cell_of_row _ _ _ _ _ _ k1]; rfl
      have HB := Aside0.mk (below_then HW.out (by simp) hb)
      clear hb k1 pk
      go_wp2
      go_ret2
      exact ⟨_, rfl, Kd.R_nil _ _ _ _ _, HB.out⟩
    · rw [if_neg hq]
      have hq' : 0 < qty := by omega
      clear hq
      obtain ⟨x, hx⟩ : ∃ x, x = getS l sku loc := ⟨_, rfl⟩
      rw [← hx]
      obtain ⟨r, hr⟩ : ∃ r, r = F x := ⟨_, rfl⟩
      rw [← hr]
      obtain ⟨res, hres⟩ : ∃ res : List Spot × Int, res = (if r.1 = 0 then (putS l r.2, 0) else ([], r.1)) := ⟨_, rfl⟩
      rw [← hres]
      have HRES := Aside0.mk hres
      have HR := Aside0.mk hr
      have HXX := Aside0.mk hx
      clear hr hx hres
      go_enter Try.func26, Try.ntmps26
      go_wp2_with fail
      go_at_call 39
      refine pk.mono ?_
      rintro e w1 ⟨rfl, hb⟩
      have k1 := (hb.block w.heap.size (by simp)).trans (heap_alloc_new w _)
      have x0 : w1.cell? ⟨w.heap.size, 0, none⟩ = some (.int .i64 sku) := by rw [cell_of_row _ _ _ _ _ _ k1]; rfl
      have x1 : w1.cell? ⟨w.heap.size, 1, none⟩ = some (.int .i64 loc) := by rw [cell_of_row _ _ _ _ _ _ k1]; rfl
      have x2 : w1.cell? ⟨w.heap.size, 2, none⟩ = some (.int .i64 qty) := by rw [cell_of_row _ _ _ _ _ _ k1]; rfl
      have hbl := below_then HW.out (by simp) hb
      have hpp := pairB_iff.1 HM.out.2
      have pa := at_any A c l sku loc w1 (Kd.C_below HX.out.1 hbl) HM.out.1 (by omega) (by omega) (by omega) (by omega)
      rw [← HN.out, ← HXX.out] at pa
      have HB := Aside0.mk hbl
      clear hb k1 pk hbl hpp
      go_wp2_with fail
      go_at_call 35
      refine pa.mono ?_
      rintro e w2 ⟨rfl, hb⟩
      have HB2 := Aside0.mk (below_then HB.out HB.out.size hb)
      clear hb pa x0 x1 x2
      have hbs : pb ≠ w2.heap.size := by have := HB2.out.size; omega
      have pc := HX.out.2.2.2.2.2 hq' w2.heap.size x (w2.alloc (.cells #[.int .i64 x.f0, .int .i64 x.f1, .int .i64 x.f2, .int .i64 x.f3] 37)) (heap_alloc_new w2 _) (pw_cell_below (HB2.out.alloc HB2.out.size _) HX.out.2.2.2.1) (by rw [HXX.out]; exact getS_sound HM.out.1 HX.out.2.2.1 _ _) hbs
      rw [← HR.out] at pc
      have HPC := Aside0.mk pc
      clear hbs pc
      go_wp2_with fail
      go_at_call 27
      refine HPC.out.mono ?_
      rintro e w3 ⟨rfl, hsp, hwt⟩
      have HS := Aside0.mk (And.intro hsp hwt)
      have hbl3 : Below w.heap.size w w3 := hwt.below (HB2.out.alloc HB2.out.size _) (Nat.le_trans HB2.out.size (by simp)) (fun k hk => by subst hk; exact HB2.out.size)
      have HB3 := Aside0.mk hbl3
      obtain ⟨y, hy⟩ : ∃ y, y = r.2 := ⟨_, rfl⟩
      have HY := Aside0.mk hy
      have hky : y.f0 = sku ∧ y.f1 = loc := by
        have h1 := HX.out.2.2.2.2.1 x
        rw [← HR.out, ← hy] at h1
        have h2 := getS_key l sku loc
        rw [← HXX.out] at h2
        exact ⟨h1.1.trans h2.1, h1.2.trans h2.2⟩
      rw [← hy] at hsp
      obtain ⟨y0, y1, y2, y3, _, _, _, _⟩ := cells_of4 hsp
      have pw := with_any A c l y w3 (Kd.C_below HX.out.1 hbl3) HX.out.2.1 HM.out.1 (by rw [hky.1, hky.2]; exact HM.out.2)
      rw [← HN.out] at pw
      obtain ⟨e0, he0⟩ : ∃ e0, e0 = r.1 := ⟨_, rfl⟩
      rw [← he0]
      have HE := Aside0.mk he0
      clear hsp hwt hbl3 hy hky he0
      by_cases hz : e0 = 0
      · have q0 : (e0 == 0) = true := beq_iff_eq.2 hz
        have q1 : (e0 != 0) = false := by simp [hz]
        have HRS : Aside0 (res = (putS l y, 0)) := ⟨by rw [HRES.out, ← HE.out, if_pos hz, HY.out]⟩
        clear hz
        go_wp2_with fail
        go_at_call 44
        refine pw.mono ?_
        rintro e w4 ⟨v, rfl, hv, hb⟩
        have HV := Aside0.mk (And.intro (Kd.R_lower hv HB3.out.size) (below_then HB3.out HB3.out.size hb))
        clear hv hb pw
        go_wp2
        go_ret2
        refine ⟨v, ?_, ?_, HV.out.2⟩
        · rw [HRS.out]; rfl
        · rw [HRS.out]; exact HV.out.1
      · have q0 : (e0 == 0) = false := beq_eq_false_iff_ne.2 hz
        have q1 : (e0 != 0) = true := by simp [hz]
        have HRS : Aside0 (res = ([], e0)) := ⟨by rw [HRES.out, ← HE.out, if_neg hz]⟩
        clear hz pw
        go_wp2
        go_ret2
        refine ⟨.slice none 0 0, ?_, ?_, HB3.out⟩
        · rw [HRS.out]; rfl
        · rw [HRS.out]; exact Kd.R_nil _ _ _ _ _
  · rw [if_neg hk0]
    have e1 : (kk != 0) = true := by simp [hk0]
    clear hk0
    go_enter Try.func26, Try.ntmps26
    go_wp2_with (go_at_call 39; refine pk.mono ?_; rintro e w1 ⟨rfl, hb⟩; have HB := Aside0.mk (below_then HW.out (by simp) hb); clear hb)
    go_ret2
    exact ⟨_, rfl, Kd.R_nil _ _ _ _ _, HB.out⟩
end Go.Proofs.Ytkhghabenhhhaaa.Stock
