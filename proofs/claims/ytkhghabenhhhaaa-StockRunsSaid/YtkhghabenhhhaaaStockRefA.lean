/- The document's table of stocks: two rows of 64 cells. Plain laws. No program in sight. -/
import Derived.Test.YtkhghabenhhhaaaStockLaw
import Derived.StillTailTactics
namespace Go.Proofs.Ytkhghabenhhhaaa.Stock
open Go Go.RowKit Go.Proofs.Ytkhghabenhhhaaa.Pa Go.Proofs.YtkhghabenhhhaaaW.PrintWords
set_option linter.unusedVariables false

/-- The cells of a table. -/
def tc (H R : Nat → Int) : Array Value := (((List.range 64).map fun o => Value.int .i64 (H o)) ++ ((List.range 64).map fun o => Value.int .i64 (R o))).toArray
def upT (F : Nat → Int) (o : Nat) (v : Int) : Nat → Int := fun j => if j = o then v else F j
theorem spot_ext {x y : Spot} (h0 : x.f0 = y.f0) (h1 : x.f1 = y.f1) (h2 : x.f2 = y.f2) (h3 : x.f3 = y.f3) : x = y := by
  obtain ⟨a, b, c, d⟩ := x
  obtain ⟨a', b', c', d'⟩ := y
  simp only at h0 h1 h2 h3
  subst h0; subst h1; subst h2; subst h3; rfl
theorem tc_size (H R : Nat → Int) : (tc H R).size = 128 := by simp [tc]
theorem tc_h (H R : Nat → Int) {o : Nat} (h : o < 64) : (tc H R)[o]? = some (.int .i64 (H o)) := by
  unfold tc
  rw [List.getElem?_toArray, List.getElem?_append_left (by simpa using h)]
  simp [h]
theorem tc_r (H R : Nat → Int) {o : Nat} (h : o < 64) : (tc H R)[64 + o]? = some (.int .i64 (R o)) := by
  unfold tc
  rw [List.getElem?_toArray, List.getElem?_append_right (by simp)]
  simp [h]
theorem tc_ext {a b : Array Value} (ha : a.size = 128) (hb : b.size = 128) (h1 : ∀ o, o < 64 → a[o]? = b[o]?) (h2 : ∀ o, o < 64 → a[64 + o]? = b[64 + o]?) : a = b := by
  apply Array.ext_getElem?
  intro i
  by_cases hi : i < 64
  · exact h1 i hi
  · by_cases hi2 : i < 128
    · have := h2 (i - 64) (by omega)
      rw [show 64 + (i - 64) = i by omega] at this
      exact this
    · rw [Array.getElem?_eq_none (by omega), Array.getElem?_eq_none (by omega)]
theorem tc_set_h (H R : Nat → Int) {o : Nat} (h : o < 64) (v : Int) : (tc H R).setIfInBounds o (.int .i64 v) = tc (upT H o v) R := by
  refine tc_ext (by simp [tc_size]) (tc_size _ _) (fun j hj => ?_) (fun j hj => ?_)
  · rw [tc_h _ _ hj, Array.getElem?_setIfInBounds]
    by_cases e : o = j
    · rw [if_pos e, if_pos (by rw [tc_size]; omega)]; subst e; simp [upT]
    · rw [if_neg e, tc_h _ _ hj]; simp [upT, Ne.symm e]
  · rw [tc_r _ _ hj, Array.getElem?_setIfInBounds, if_neg (by omega), tc_r _ _ hj]
theorem tc_set_r (H R : Nat → Int) {o : Nat} (h : o < 64) (v : Int) : (tc H R).setIfInBounds (64 + o) (.int .i64 v) = tc H (upT R o v) := by
  refine tc_ext (by simp [tc_size]) (tc_size _ _) (fun j hj => ?_) (fun j hj => ?_)
  · rw [tc_h _ _ hj, Array.getElem?_setIfInBounds, if_neg (by omega), tc_h _ _ hj]
  · rw [tc_r _ _ hj, Array.getElem?_setIfInBounds]
    by_cases e : o = j
    · rw [if_pos (by omega), if_pos (by rw [tc_size]; omega)]; subst e; simp [upT]
    · rw [if_neg (by omega), tc_r _ _ hj]; simp [upT, Ne.symm e]
theorem tc_congr {H H' R R' : Nat → Int} (h1 : ∀ o, o < 64 → H o = H' o) (h2 : ∀ o, o < 64 → R o = R' o) : tc H R = tc H' R' := by
  refine tc_ext (tc_size _ _) (tc_size _ _) (fun j hj => ?_) (fun j hj => ?_)
  · rw [tc_h _ _ hj, tc_h _ _ hj, h1 j hj]
  · rw [tc_r _ _ hj, tc_r _ _ hj, h2 j hj]
/-! #### The table of stocks -/
def hOf (l : List Spot) (o : Nat) : Int := (getS l ((o / 4 : Nat) : Int) ((o % 4 : Nat) : Int)).f2
def rOf (l : List Spot) (o : Nat) : Int := (getS l ((o / 4 : Nat) : Int) ((o % 4 : Nat) : Int)).f3
def ix (sku loc : Int) : Nat := sku.toNat * 4 + loc.toNat
theorem ix_lt {sku loc : Int} (h : pairB sku loc = true) : ix sku loc < 64 := by have := pairB_iff.1 h; unfold ix; omega
theorem ix_div {sku loc : Int} (h : pairB sku loc = true) : ((ix sku loc / 4 : Nat) : Int) = sku ∧ ((ix sku loc % 4 : Nat) : Int) = loc := by have := pairB_iff.1 h; unfold ix; omega
theorem hOf_ix (l : List Spot) {sku loc : Int} (h : pairB sku loc = true) : hOf l (ix sku loc) = (getS l sku loc).f2 := by unfold hOf; rw [(ix_div h).1, (ix_div h).2]
theorem rOf_ix (l : List Spot) {sku loc : Int} (h : pairB sku loc = true) : rOf l (ix sku loc) = (getS l sku loc).f3 := by unfold rOf; rw [(ix_div h).1, (ix_div h).2]
theorem ix_inj {sku loc : Int} (h : pairB sku loc = true) {o : Nat} (ho : o < 64) : (((o / 4 : Nat) : Int) = sku ∧ ((o % 4 : Nat) : Int) = loc) ↔ o = ix sku loc := by
  have := pairB_iff.1 h
  unfold ix
  omega
theorem hOf_put {l : List Spot} {s : Spot} (h : May l) (hs : fineS s) {o : Nat} (ho : o < 64) : hOf (putS l s) o = upT (hOf l) (ix s.f0 s.f1) s.f2 o := by
  unfold hOf upT
  rw [get_put h hs]
  by_cases e : o = ix s.f0 s.f1
  · rw [if_pos ((ix_inj hs.1 ho).2 e), if_pos e]
  · rw [if_neg (fun x => e ((ix_inj hs.1 ho).1 x)), if_neg e]
theorem rOf_put {l : List Spot} {s : Spot} (h : May l) (hs : fineS s) {o : Nat} (ho : o < 64) : rOf (putS l s) o = upT (rOf l) (ix s.f0 s.f1) s.f3 o := by
  unfold rOf upT
  rw [get_put h hs]
  by_cases e : o = ix s.f0 s.f1
  · rw [if_pos ((ix_inj hs.1 ho).2 e), if_pos e]
  · rw [if_neg (fun x => e ((ix_inj hs.1 ho).1 x)), if_neg e]
theorem tc_put {l : List Spot} {s : Spot} (h : May l) (hs : fineS s) : tc (upT (hOf l) (ix s.f0 s.f1) s.f2) (upT (rOf l) (ix s.f0 s.f1) s.f3) = tc (hOf (putS l s)) (rOf (putS l s)) :=
  tc_congr (fun o ho => (hOf_put h hs ho).symm) (fun o ho => (rOf_put h hs ho).symm)
/-! #### The stocks of a table -/
def spotT (H R : Nat → Int) (o : Nat) : Spot := ⟨((o / 4 : Nat) : Int), ((o % 4 : Nat) : Int), H o, R o⟩
def listT (H R : Nat → Int) (n : Nat) : List Spot := ((List.range n).filter (fun o => decide (0 < H o))).map (spotT H R)
theorem listT_succ (H R : Nat → Int) (n : Nat) : listT H R (n + 1) = listT H R n ++ (if 0 < H n then [spotT H R n] else []) := by
  unfold listT
  rw [List.range_succ, List.filter_append, List.map_append]
  by_cases h : 0 < H n
  · simp [h]
  · simp [h]
theorem listT_mem {H R : Nat → Int} {n : Nat} {x : Spot} : x ∈ listT H R n ↔ ∃ o, o < n ∧ 0 < H o ∧ x = spotT H R o := by
  unfold listT
  rw [List.mem_map]
  constructor
  · rintro ⟨o, ho, rfl⟩
    rw [List.mem_filter, List.mem_range] at ho
    exact ⟨o, ho.1, by simpa using ho.2, rfl⟩
  · rintro ⟨o, h1, h2, rfl⟩
    exact ⟨o, by rw [List.mem_filter, List.mem_range]; exact ⟨h1, by simpa using h2⟩, rfl⟩
theorem ky_spotT (H R : Nat → Int) (o : Nat) : ky (spotT H R o) = (o : Int) := by
  unfold ky spotT
  simp only
  omega
theorem listT_rises (H R : Nat → Int) (n : Nat) : (listT H R n).Pairwise (fun a b => ky a < ky b) := by
  unfold listT
  rw [List.pairwise_map]
  refine List.Pairwise.imp (R := (· < ·)) (fun h => ?_) (List.Pairwise.sublist List.filter_sublist List.pairwise_lt_range)
  rw [ky_spotT, ky_spotT]
  omega
/-- The stocks of the table of stocks. -/
theorem listT_of {l : List Spot} (h : May l) : listT (hOf l) (rOf l) 64 = l := by
  refine pairwise_ext (listT_rises _ _ _) h.2 (fun x => ?_)
  rw [listT_mem]
  constructor
  · rintro ⟨o, ho, hp, rfl⟩
    unfold hOf at hp
    have hx : spotT (hOf l) (rOf l) o = getS l ((o / 4 : Nat) : Int) ((o % 4 : Nat) : Int) := by
      have := getS_key l ((o / 4 : Nat) : Int) ((o % 4 : Nat) : Int)
      exact spot_ext this.1.symm this.2.symm rfl rfl
    rw [hx]
    rcases getS_cases l ((o / 4 : Nat) : Int) ((o % 4 : Nat) : Int) with g | g
    · exact g.1
    · rw [g.1] at hp; exact absurd hp (by show ¬ ((0 : Int) < 0); decide)
  · intro hx
    have hok := okS_iff.1 (h.1 x hx)
    have hp : pairB x.f0 x.f1 = true := pairB_iff.2 hok.1
    have hg := getS_mem h hx
    refine ⟨ix x.f0 x.f1, ix_lt hp, by rw [hOf_ix l hp, hg]; exact hok.2.1, ?_⟩
    have hd := ix_div hp
    exact spot_ext hd.1.symm hd.2.symm (by show x.f2 = hOf l _; rw [hOf_ix l hp, hg]) (by show x.f3 = rOf l _; rw [rOf_ix l hp, hg])
theorem listT_congr {H H' R R' : Nat → Int} {n : Nat} (h1 : ∀ o, o < n → H o = H' o) (h2 : ∀ o, o < n → R o = R' o) : listT H R n = listT H' R' n := by
  induction n with
  | zero => rfl
  | succ n ih =>
    rw [listT_succ, listT_succ, ih (fun o ho => h1 o (by omega)) (fun o ho => h2 o (by omega))]
    unfold spotT
    rw [h1 n (by omega), h2 n (by omega)]
end Go.Proofs.Ytkhghabenhhhaaa.Stock

namespace Go.Proofs.Ytkhghabenhhhaaa.Stock
open Go Go.RowKit Go.Proofs.Ytkhghabenhhhaaa.Pa Go.Proofs.YtkhghabenhhhaaaW.PrintWords
set_option linter.unusedVariables false
set_option linter.unusedSimpArgs false

def z0 (_ : Nat) : Int := 0
theorem zero66 (w : World) : Sem.run Try.prog (zeroValue 66) w = .ok (.agg (tc z0 z0)) w := by kernel_rfl
/-- A table in a block. -/
def TabAt (w : World) (g : Nat) (H R : Nat → Int) : Prop := w.heap[g]? = some (.cells (tc H R) 66 (0, 0))
theorem tc_one (H R : Nat → Int) : ∀ v ∈ (tc H R).toList, v.oneCell' = true := by
  intro v hv
  unfold tc at hv
  rw [List.toList_toArray, List.mem_append, List.mem_map, List.mem_map] at hv
  rcases hv with ⟨o, _, rfl⟩ | ⟨o, _, rfl⟩ <;> rfl
theorem store66 {W : World} {g : Nat} {H R H' R' : Nat → Int} (h : TabAt W g H' R') : Sem.run Try.prog (storeCells ⟨g, 0, none⟩ (tc H R).toList) W = .ok () (W.setRow g (tc H R)) := by
  have := run_storeCells_from (P := Try.prog) g 66 (tc H R).toList 0 (tc H' R') W h (by rw [Array.length_toList, tc_size, tc_size]) (tc_one H R)
  simpa using this
theorem TabAt.set {W : World} {g : Nat} {H R H' R' : Nat → Int} (h : TabAt W g H' R') : TabAt (W.setRow g (tc H R)) g H R := setRow_heap _ _ _ _ _ _ h
theorem TabAt.self {W : World} {g : Nat} {H R : Nat → Int} (h : TabAt W g H R) : W.setRow g (tc H R) = W := setRow_self _ _ _ _ _ h
theorem TabAt.below {w w' : World} {g B : Nat} {H R : Nat → Int} (h : TabAt w g H R) (hb : Below B w w') (hg : g < B) : TabAt w' g H R := (hb.block g hg).trans h
theorem TabAt.cell {w : World} {g : Nat} {H R : Nat → Int} (h : TabAt w g H R) {o : Nat} {v : Value} (hv : (tc H R)[o]? = some v) : w.cell? ⟨g, o, none⟩ = some v := by
  rw [cell_of_row _ _ _ _ _ _ h]; exact hv
theorem TabAt.setH {w : World} {g : Nat} {H R : Nat → Int} (h : TabAt w g H R) {o : Nat} (ho : o < 64) (v : Int) : TabAt (w.setCell ⟨g, o, none⟩ (.int .i64 v)) g (upT H o v) R := by
  unfold TabAt at *
  rw [blk_set h o (.int .i64 v), tc_set_h _ _ ho]
theorem TabAt.setR {w : World} {g : Nat} {H R : Nat → Int} (h : TabAt w g H R) {o : Nat} (ho : o < 64) (v : Int) : TabAt (w.setCell ⟨g, 64 + o, none⟩ (.int .i64 v)) g H (upT R o v) := by
  unfold TabAt at *
  rw [blk_set h (64 + o) (.int .i64 v), tc_set_r _ _ ho]
theorem TabAt.frozen {w : World} {g : Nat} {H R : Nat → Int} (h : TabAt w g H R) (o : Nat) : w.frozen? ⟨g, o, none⟩ = false := by
  unfold TabAt at h; simp [World.frozen?, h]
theorem load66 {W : World} {g : Nat} {H R : Nat → Int} (h : TabAt W g H R) : Sem.run Try.prog (loadCells ⟨g, 0, none⟩ 128) W = .ok (tc H R) W := by
  have := run_loadCells_list (P := Try.prog) (w := W) ⟨g, 0, none⟩ (tc H R).toList (fun j v hj => by
    have e : (⟨g, 0, none⟩ : Addr).add j = ⟨g, j, none⟩ := by simp [Addr.add]; exact fun h => h.symm
    rw [e]
    exact h.cell (by rw [← Array.getElem?_toList]; exact hj))
  rw [Array.length_toList, tc_size, Array.toArray_toList] at this
  exact this
/-! #### One more spot -/
theorem May.take {l : List Spot} (h : May l) (k : Nat) : May (l.take k) := ⟨fun s hs => h.1 s (List.mem_of_mem_take hs), h.2.sublist (List.take_sublist _ _)⟩
theorem take_succ_put {l : List Spot} (h : May l) {k : Nat} (hk : k < l.length) : l.take (k + 1) = putS (l.take k) l[k] := by
  have hok := okS_iff.1 (h.1 _ (List.getElem_mem hk))
  have hfine : fineS l[k] := ⟨pairB_iff.2 hok.1, hok.2.2⟩
  refine pairwise_ext (h.take (k + 1)).2 ((h.take k).put hfine).2 (fun x => ?_)
  rw [putS_mem, List.take_succ_eq_append_getElem hk, List.mem_append, List.mem_singleton]
  have hlt : ∀ x ∈ l.take k, ky x ≠ ky l[k] := fun x hx e => by
    obtain ⟨j, hj, rfl⟩ := List.getElem_of_mem hx
    rw [List.length_take] at hj
    rw [List.getElem_take] at e
    have := List.pairwise_iff_getElem.1 h.2 j k (by omega) hk (by omega)
    omega
  constructor
  · rintro (hx | rfl)
    · exact .inl ⟨hx, hlt x hx⟩
    · exact .inr ⟨by omega, rfl⟩
  · rintro (hx | hx)
    · exact .inl hx.1
    · exact .inr hx.2
theorem loadV66 {W : World} {g : Nat} {H R : Nat → Int} (h : TabAt W g H R) : Sem.run Try.prog (loadVar 66 ⟨g, 0, none⟩) W = .ok (.agg (tc H R)) W :=
  run_loadVar_row W g 66 66 (tc H R) (0, 0) _ h Try.underlying66 rfl (by rw [tc_size]; kernel_rfl)
theorem loadA66 {W : World} {g : Nat} {H R : Nat → Int} (h : TabAt W g H R) : Sem.run Try.prog (Instr.loadAt 66 (.pointer (some ⟨g, 0, none⟩))) W = .ok (.agg (tc H R)) W := by
  simp only [Instr.loadAt, Instr.sureAddr, Sem.run_bind, Sem.run_pure, Result.andThen_ok, loadV66 h]
theorem wp_load66 {o : Oper} {a : Act} {w : World} {next : Act → World → Prop} {Q : Exit → Act → World → Prop} {g : Nat} {H R : Nat → Int} (s : Operand) (ho : o.op = .load 66 s) (hs : a.eval s = .pointer (some ⟨g, 0, none⟩)) (h : TabAt w g H R) (hn : next (a.put o.dst (.agg (tc H R))) w) : Oper.wp Try.prog o a w next Q := by
  have hr : (execOp a.eval o).run Try.prog w = .ok (.value (.agg (tc H R))) w := by
    simp [execOp, ho, hs, loadA66 h, Result.andThen]
  unfold Oper.wp
  rw [hr]
  exact hn
theorem fineS_of_rd {l : List Spot} {x : Spot} {k : Nat} (h : May l) (hx : x = rd_T37 l (k : Int)) (hk : k < l.length) : fineS x := by
  have hok := okS_iff.1 (h.1 _ (List.getElem_mem hk))
  rw [hx, rd_getElem hk]
  exact ⟨pairB_iff.2 hok.1, hok.2.2⟩
theorem tab_nil : tc (hOf []) (rOf []) = tc z0 z0 := tc_congr (fun _ _ => rfl) (fun _ _ => rfl)
/-! #### Laid -/
set_option maxRecDepth 100000 in
set_option maxHeartbeats 8000000 in
theorem laid_any (A : Option Addr) (c : Nat) (l : List Spot) (w : World) (hC : Kd.C k37 w A l.length l) (hc : l.length ≤ c) (hm : May l) : Calls Try.prog 46 #[.slice A l.length c] w fun e w' => e = .returned (.agg (tc (hOf l) (rOf l))) ∧ Below w.heap.size w w' := by
  obtain ⟨n, hn⟩ : ∃ n, n = l.length := ⟨_, rfl⟩
  have hmax := hm.length
  have HX := Aside0.mk (And.intro hC (And.intro hc (And.intro hm hn)))
  rw [← hn] at hmax ⊢
  have hz := zero66
  have t1 : TabAt ((w.alloc (Obj.cells (tc z0 z0) 66)).alloc (Obj.cells (tc z0 z0) 66)) (w.heap.size + 1) z0 z0 := by
    have := heap_alloc_new (w.alloc (Obj.cells (tc z0 z0) 66)) (.cells (tc z0 z0) 66)
    simpa [TabAt] using this
  have t0 : TabAt ((w.alloc (Obj.cells (tc z0 z0) 66)).alloc (Obj.cells (tc z0 z0) 66)) w.heap.size z0 z0 := by
    have h1 : TabAt (w.alloc (Obj.cells (tc z0 z0) 66)) w.heap.size z0 z0 := heap_alloc_new w _
    exact h1.below ((Below.refl (w.heap.size + 1) _).alloc (by simp) _) (by omega)
  have hs := store66 (H := z0) (R := z0) t1
  rw [t1.self] at hs
  have hb : Below w.heap.size w ((w.alloc (Obj.cells (tc z0 z0) 66)).alloc (Obj.cells (tc z0 z0) 66)) := ((Below.refl _ _).alloc (Nat.le_refl _) _).alloc (by simp) _
  have HT := Aside0.mk (And.intro t0 (And.intro t1 hb))
  obtain ⟨w1, hw1⟩ : ∃ w1, w1 = (w.alloc (Obj.cells (tc z0 z0) 66)).alloc (Obj.cells (tc z0 z0) 66) := ⟨_, rfl⟩
  have HW1 := Aside0.mk hw1
  clear hC hc hm hn t1 t0 hb hw1
  go_enter Try.func46, Try.ntmps46
  go_wp2
  rw [← HW1.out]
  have HT2 : Aside0 (TabAt w1 w.heap.size z0 z0 ∧ TabAt w1 (w.heap.size + 1) z0 z0 ∧ Below w.heap.size w w1) := ⟨by rw [HW1.out]; exact HT.out⟩
  clear HT HW1 hz hs
  go_loopw [4] (fun iv wr => ∃ k : Nat, k ≤ n ∧ iv = .int .i64 k ∧ Aside0 (TabAt wr (w.heap.size + 1) (hOf (l.take k)) (rOf (l.take k)) ∧ TabAt wr w.heap.size z0 z0 ∧ Below w.heap.size w wr)) (fun iv _ => n - (intOf iv).toNat)
  case atStart => exact ⟨0, by omega, rfl, ⟨by have := HT2.out.2.1; unfold TabAt at *; rw [this, List.take_zero, tab_nil], HT2.out.1, HT2.out.2.2⟩⟩
  case round =>
    clear HT2
    obtain ⟨k, hk, rfl, HR⟩ := hrel
    by_cases hlt : k < n
    · have hkl : k < l.length := by rw [← HX.out.2.2.2]; exact hlt
      obtain ⟨ad, rfl, b0, b1, b2, b3⟩ := at_T37 (Kd.C_below HX.out.1 HR.out.2.2) (k : Int) (by omega) (by omega)
      rw [Int.toNat_natCast] at b0 b1 b2 b3
      have hx : rd_T37 l (k : Int) = l[k] := rd_getElem hkl
      have hok := okS_iff.1 (HX.out.2.2.1.1 _ (List.getElem_mem hkl))
      rw [← hx] at hok
      obtain ⟨x, hxx⟩ : ∃ x, x = rd_T37 l (k : Int) := ⟨_, rfl⟩
      rw [← hxx] at b0 b1 b2 b3 hok
      obtain ⟨⟨p0, p1, p2, p3⟩, p4⟩ := hok
      have HXX := Aside0.mk (And.intro hxx hx)
      clear hx hxx
      have hp : pairB x.f0 x.f1 = true := pairB_iff.2 ⟨p0, p1, p2, p3⟩
      have ho := ix_lt hp
      have f1 : wr.cell? ⟨w.heap.size + 1, x.f0.toNat * 4 + x.f1.toNat, none⟩ = _ := HR.out.1.cell (tc_h _ _ ho)
      have f2 := HR.out.1.frozen (x.f0.toNat * 4 + x.f1.toNat)
      have HO := Aside0.mk (And.intro hp (And.intro ho (fineS_of_rd (l := l) (x := x) HX.out.2.2.1 HXX.out.1 hkl)))
      clear hp ho
      go_wp2
      go_region
      have t2 : TabAt ((wr.setCell ⟨w.heap.size + 1, ix x.f0 x.f1, none⟩ (.int .i64 x.f2)).drew) (w.heap.size + 1) _ _ := TabAt.setH (w := wr) HR.out.1 HO.out.2.1 x.f2
      have hb2 : Below w.heap.size w ((wr.setCell ⟨w.heap.size + 1, ix x.f0 x.f1, none⟩ (.int .i64 x.f2)).drew) := (HR.out.2.2.setCell (p := ⟨w.heap.size + 1, ix x.f0 x.f1, none⟩) (by show w.heap.size ≤ w.heap.size + 1; omega) _).drew
      have t0 : TabAt ((wr.setCell ⟨w.heap.size + 1, ix x.f0 x.f1, none⟩ (.int .i64 x.f2)).drew) w.heap.size z0 z0 := by
        have h0 := HR.out.2.1
        unfold TabAt at *
        exact (Below.heap_setCell wr ⟨w.heap.size + 1, ix x.f0 x.f1, none⟩ _ w.heap.size (by show w.heap.size ≠ w.heap.size + 1; omega)).trans h0
      obtain ⟨w2, hw2⟩ : ∃ w2, w2 = (wr.setCell ⟨w.heap.size + 1, ix x.f0 x.f1, none⟩ (.int .i64 x.f2)).drew := ⟨_, rfl⟩
      rw [← hw2] at t2 hb2 t0
      unfold ix at hw2
      rw [← hw2]
      have HT2 := Aside0.mk (And.intro t2 (And.intro t0 hb2))
      clear b0 b1 b2 b3 f1 f2 t0 hb2 hw2
      obtain ⟨ad', e', b0, b1, b2, b3⟩ := at_T37 (Kd.C_below HX.out.1 HT2.out.2.2) (k : Int) (by omega) (by omega)
      obtain rfl := Option.some.inj e'
      clear e'
      rw [Int.toNat_natCast, ← HXX.out.1] at b0 b1 b2 b3
      have f1 : w2.cell? ⟨w.heap.size + 1, 64 + x.f0.toNat * 4 + x.f1.toNat, none⟩ = some (.int .i64 (rOf (l.take k) (ix x.f0 x.f1))) := by
        have := t2.cell (tc_r _ _ HO.out.2.1)
        unfold ix at this ⊢
        rw [← Nat.add_assoc] at this
        exact this
      have f2 := t2.frozen (64 + x.f0.toNat * 4 + x.f1.toNat)
      clear t2
      go_wp2
      go_region
      have t3 : TabAt ((w2.setCell ⟨w.heap.size + 1, 64 + ix x.f0 x.f1, none⟩ (.int .i64 x.f3)).drew) (w.heap.size + 1) _ _ := TabAt.setR (w := w2) HT2.out.1 HO.out.2.1 x.f3
      have hb3 : Below w.heap.size w ((w2.setCell ⟨w.heap.size + 1, 64 + ix x.f0 x.f1, none⟩ (.int .i64 x.f3)).drew) := (HT2.out.2.2.setCell (p := ⟨w.heap.size + 1, 64 + ix x.f0 x.f1, none⟩) (by show w.heap.size ≤ w.heap.size + 1; omega) _).drew
      have t0 : TabAt ((w2.setCell ⟨w.heap.size + 1, 64 + ix x.f0 x.f1, none⟩ (.int .i64 x.f3)).drew) w.heap.size z0 z0 := by
        have h0 := HT2.out.2.1
        unfold TabAt at *
        exact (Below.heap_setCell w2 ⟨w.heap.size + 1, 64 + ix x.f0 x.f1, none⟩ _ w.heap.size (by show w.heap.size ≠ w.heap.size + 1; omega)).trans h0
      have e3 : 64 + ix x.f0 x.f1 = 64 + x.f0.toNat * 4 + x.f1.toNat := by unfold ix; omega
      rw [e3] at t3 hb3 t0
      obtain ⟨w3, hw3⟩ : ∃ w3, w3 = (w2.setCell ⟨w.heap.size + 1, 64 + x.f0.toNat * 4 + x.f1.toNat, none⟩ (.int .i64 x.f3)).drew := ⟨_, rfl⟩
      rw [← hw3] at t3 hb3 t0 ⊢
      have HT3 := Aside0.mk (And.intro t3 (And.intro t0 hb3))
      clear t3 hb3 t0 e3 hw3 f1 f2 b0 b1 b2 b3
      go_wp2
      refine ⟨⟨k + 1, by omega, by go_num, ⟨?_, HT3.out.2.1, HT3.out.2.2⟩⟩, by simp [intOf]; omega⟩
      have hkl : k < l.length := by rw [← HX.out.2.2.2]; exact hlt
      have h1 := HT3.out.1
      unfold TabAt at h1 ⊢
      have hxl : l[k] = x := by rw [HXX.out.1]; exact (rd_getElem hkl).symm
      rw [take_succ_put HX.out.2.2.1 hkl, hxl, ← tc_put (HX.out.2.2.1.take k) HO.out.2.2]
      exact h1
    · have hkm : k = n := by omega
      subst k
      have h1 := HR.out.1
      rw [List.take_of_length_le (by rw [HX.out.2.2.2]; exact Nat.le_refl _)] at h1
      have hs66 := store66 (H := hOf l) (R := rOf l) HR.out.2.1
      have t2 : TabAt (wr.setRow w.heap.size (tc (hOf l) (rOf l))) w.heap.size (hOf l) (rOf l) := HR.out.2.1.set
      have hb2 : Below w.heap.size w (wr.setRow w.heap.size (tc (hOf l) (rOf l))) := below_setRow HR.out.2.2 (Nat.le_refl _) _
      have HT2 := Aside0.mk (And.intro t2 hb2)
      have HH1 := Aside0.mk h1
      clear h1 t2 hb2
      go_wp2
      refine wp_load66 (.tmp 3) rfl rfl (show TabAt wr (w.heap.size + 1) (hOf l) (rOf l) from HH1.out) ?_
      go_wp2
      have hlr := loadV66 HT2.out.1
      refine bodyPost_ret (v := .agg (tc (hOf l) (rOf l))) ?_ rfl ⟨rfl, HT2.out.2⟩
      simp [results, Try.results46, Sem.run_bind, hlr]
      exact hlr
end Go.Proofs.Ytkhghabenhhhaaa.Stock

namespace Go.Proofs.Ytkhghabenhhhaaa.Stock
open Go Go.RowKit Go.Proofs.Ytkhghabenhhhaaa.Pa Go.Proofs.YtkhghabenhhhaaaW.PrintWords
set_option linter.unusedVariables false
set_option linter.unusedSimpArgs false

theorem info37 : (Try.prog.info? 37).map (fun i => (i.zero, i.size, i.bytes)) = some (some (.agg #[.int .i64 0, .int .i64 0, .int .i64 0, .int .i64 0]), 4, 32) := by kernel_rfl
theorem listT_len (H R : Nat → Int) (n : Nat) : (listT H R n).length ≤ n := by
  unfold listT
  rw [List.length_map]
  exact Nat.le_trans (List.length_filter_le _ _) (by simp)
def ListAt (B : Nat) (W1 : World) (H R : Nat → Int) (n : Nat) (v : Value) (wr : World) : Prop := Kd.R k37 37 wr (B + 1) (fun _ => True) v (listT H R n) ∧ Below (B + 1) W1 wr
theorem ListAt.no {B : Nat} {W1 : World} {H R : Nat → Int} {n : Nat} {v : Value} {wr : World} (h : ListAt B W1 H R n v wr) (hp : ¬ 0 < H n) : ListAt B W1 H R (n + 1) v wr := by
  refine ⟨?_, h.2⟩
  rw [listT_succ, if_neg hp, List.append_nil]
  exact h.1
set_option maxRecDepth 100000 in
set_option maxHeartbeats 8000000 in
theorem list_any (H R : Nat → Int) (w : World) : Calls Try.prog 48 #[.agg (tc H R)] w fun e w' => ∃ v, e = .returned v ∧ Kd.R k37 37 w' w.heap.size (fun _ => True) v (listT H R 64) ∧ Below w.heap.size w w' := by
  have t1 : TabAt (w.alloc (.cells (tc H R) 66)) w.heap.size H R := heap_alloc_new w _
  have hb1 : Below w.heap.size w (w.alloc (.cells (tc H R) 66)) := (Below.refl _ _).alloc (Nat.le_refl _) _
  obtain ⟨W1, hW1⟩ : ∃ W1, W1 = w.alloc (.cells (tc H R) 66) := ⟨_, rfl⟩
  rw [← hW1] at t1 hb1
  have hz : w.heap.size + 1 ≤ W1.heap.size := by rw [hW1]; simp
  have HW := Aside0.mk hW1
  have HT := Aside0.mk (And.intro t1 (And.intro hb1 hz))
  clear t1 hb1 hz hW1
  go_enter Try.func48, Try.ntmps48
  go_wp2
  rw [← HW.out]
  have H0 : Aside0 (ListAt w.heap.size W1 H R 0 (.slice none 0 0) W1) := ⟨Kd.R_nil _ _ _ _ _, Below.refl _ _⟩
  clear HW
  go_loopw [3, 4] (fun v iv wr => ∃ k : Nat, k ≤ 16 ∧ iv = .int .i64 k ∧ Aside0 (ListAt w.heap.size W1 H R (k * 4) v wr)) (fun _ iv _ => 16 - (intOf iv).toNat)
  case atStart => exact ⟨0, by omega, rfl, H0⟩
  case round =>
    clear H0
    obtain ⟨k, hk, rfl, HR⟩ := hrel
    by_cases hlt : k < 16
    · obtain ⟨wo, rfl⟩ : ∃ wo, wo = wr := ⟨_, rfl⟩
      have hlt1 : (k : Int) < 16 := by omega
      have hd : decide ((k : Int) < 16) = true := decide_eq_true hlt1
      go_wp2
      go_loopw [3, 5] (fun v jv wr => ∃ j : Nat, j ≤ 4 ∧ jv = .int .i64 j ∧ Aside0 (ListAt w.heap.size W1 H R (k * 4 + j) v wr)) (fun _ jv _ => 4 - (intOf jv).toNat)
      case atStart => exact ⟨0, by omega, rfl, HR⟩
      case round =>
        clear HR
        obtain ⟨j, hj, rfl, HJ⟩ := hrel
        by_cases hlj : j < 4
        · have ho : k * 4 + j < 64 := by omega
          have tb : TabAt wr w.heap.size H R := (HJ.out.2.block w.heap.size (by omega)).trans HT.out.1
          have f1 : wr.cell? ⟨w.heap.size, k * 4 + j, none⟩ = some (.int .i64 (H (k * 4 + j))) := tb.cell (tc_h _ _ ho)
          have f2 : wr.cell? ⟨w.heap.size, 64 + k * 4 + j, none⟩ = some (.int .i64 (R (k * 4 + j))) := by
            have := tb.cell (tc_r H R ho)
            rw [← Nat.add_assoc] at this
            exact this
          obtain ⟨hv, hhv⟩ : ∃ hv, hv = H (k * 4 + j) := ⟨_, rfl⟩
          obtain ⟨rv, hrv⟩ : ∃ rv, rv = R (k * 4 + j) := ⟨_, rfl⟩
          rw [← hhv] at f1
          rw [← hrv] at f2
          have HV := Aside0.mk (And.intro hhv hrv)
          clear tb hhv hrv ho
          by_cases hp : 0 < hv
          · go_wp2
            have HL : Aside0 ((listT H R (k * 4 + j)).length ≤ 64) := ⟨Nat.le_trans (listT_len _ _ _) (by omega)⟩
            have hsz : w.heap.size + 1 ≤ wr.heap.size := Nat.le_trans HT.out.2.2 HJ.out.2.size
            go_region_law (refine Kd.R_append_step k37 (w0 := W1) (W := wr.drew) (w.heap.size + 1) (by rfl) (.tmp 21) (.tmp 37) 22 37 (.agg #[.int .i64 0, .int .i64 0, .int .i64 0, .int .i64 0]) 32 (by rfl) Try.underlying22 info37 rfl (by decide) (by decide) _ (listT H R (k * 4 + j)) ⟨(k : Int), (j : Int), hv, rv⟩ [.int .i64 (k : Int), .int .i64 (j : Int), .int .i64 hv, .int .i64 rv] (fun _ => True) (fun _ => False) (by rfl) (by rfl) (k37_mkM _ _ _ ⟨(k : Int), (j : Int), hv, rv⟩) (fun _ h => h.elim) (fun _ _ => trivial) (Kd.R_below HJ.out.1 (below_drew (Below.refl _ _))) (below_drew HJ.out.2) hsz ?_ ?_; (have := HL.out; omega); intro v1 w1 hr1 hb1 _ _; have HX := Aside0.mk (And.intro hr1 hb1); clear hr1 hb1)
            all_goals
              have HN : Aside0 (ListAt w.heap.size W1 H R (k * 4 + (j + 1)) v1 w1) := ⟨by
                unfold ListAt
                rw [show k * 4 + (j + 1) = (k * 4 + j) + 1 by omega, listT_succ, if_pos (by rw [← HV.out.1]; exact hp)]
                have e : spotT H R (k * 4 + j) = ⟨(k : Int), (j : Int), hv, rv⟩ := by
                  unfold spotT
                  rw [HV.out.1, HV.out.2, show (k * 4 + j) / 4 = k by omega, show (k * 4 + j) % 4 = j by omega]
                rw [e]
                exact HX.out⟩
              clear HX f1 f2
              go_wp2
              exact ⟨⟨j + 1, by omega, by go_num, HN⟩, by simp [intOf]; omega⟩
          · have HN : Aside0 (ListAt w.heap.size W1 H R (k * 4 + (j + 1)) _ wr) := ⟨HJ.out.no (by rw [← HV.out.1]; exact hp)⟩
            go_wp2
            exact ⟨⟨j + 1, by omega, by go_num, HN⟩, by simp [intOf]; omega⟩
        · have hjm : j = 4 := by omega
          subst j
          have HN : Aside0 (ListAt w.heap.size W1 H R ((k + 1) * 4) _ wr) := ⟨by have := HJ.out; rw [show (k + 1) * 4 = k * 4 + 4 by omega]; exact this⟩
          go_wp2
          exact ⟨⟨k + 1, by omega, by go_num, HN⟩, by simp [intOf]; omega⟩
    · have hkm : k = 16 := by omega
      subst k
      have hr := HR.out
      go_wp2
      go_ret
      exact ⟨_, rfl, Kd.R_lower hr.1 (Nat.le_succ _), HT.out.2.1.trans (hr.2.mono (Nat.le_succ _))⟩
end Go.Proofs.Ytkhghabenhhhaaa.Stock

namespace Go.Proofs.Ytkhghabenhhhaaa.Stock
open Go Go.RowKit Go.Proofs.Ytkhghabenhhhaaa.Pa Go.Proofs.YtkhghabenhhhaaaW.PrintWords Go.Proofs.YtkhghabenhhhaaaW.PrintLast Go.Proofs.YtkhghabenhhhaaaW.PrintMore
set_option linter.unusedVariables false
set_option linter.unusedSimpArgs false

theorem rmay_any (A : Option Addr) (c : Nat) (l : List Spot) (w : World) (hC : Kd.C k37 w A l.length l) (hc : l.length ≤ c) (hl : l.length ≤ 99999999999) :
    Calls Try.prog 15 #[.slice A l.length c] w fun e w' => e = .returned (.bool (mayB l)) ∧ Below w.heap.size w w' :=
  quartermasterref17_May.calls (2 * l.length + 1) A c l _ w hC hc (rmay_f (by omega) (by omega))
theorem rfirst_any (A : Option Addr) (c : Nat) (l : List Spot) (a b q : Int) (w : World) (hC : Kd.C k37 w A l.length l) (hc : l.length ≤ c) (hl : l.length ≤ 99999999999) :
    Calls Try.prog 45 #[.slice A l.length c, .agg #[.int .i64 a, .int .i64 b, .int .i64 q]] w fun e w' => e = .returned (.int .i64 (firstP l a b q)) ∧ Below w.heap.size w w' :=
  quartermasterref17_first.calls (2 * l.length + 1) A c l a b q _ w hC hc (first_f (by omega) (by omega) a b q)
theorem radd_any (a b : Int) (w : World) (ha : a < 9223372036854775808) (hb : b < 9223372036854775808) : Calls Try.prog 47 #[.int .i64 a, .int .i64 b] w fun e w' => e = .returned (.tuple #[.int .i64 (addP a b).1, .int .i64 (addP a b).2]) ∧ Drawn0 w w' :=
  quartermasterref16_Add.calls 1 a b _ _ w (radd_f (by decide) ha hb)
theorem rpair_any (a b : Int) (w : World) : Calls Try.prog 34 #[.int .i64 a, .int .i64 b] w fun e w' => e = .returned (.bool (pairB a b)) ∧ Drawn0 w w' := quartermasterref17_Pair.calls a b _ w (Pair_f a b)
theorem laid_anyN (A : Option Addr) (c : Nat) (l : List Spot) (n : Nat) (w : World) (hn : n = l.length) (hC : Kd.C k37 w A l.length l) (hc : l.length ≤ c) (hm : May l) : Calls Try.prog 46 #[.slice A n c] w fun e w' => e = .returned (.agg (tc (hOf l) (rOf l))) ∧ Below w.heap.size w w' := by
  subst hn
  exact laid_any A c l w hC hc hm
theorem firstP_zero {l : List Spot} {a b q : Int} (h : firstP l a b q = 0) : May l ∧ pairB a b = true ∧ 0 < q := by
  unfold firstP at h
  split at h
  · split at h
    · split at h
      · cases h
      · exact ⟨mayB_iff.1 (by assumption), by assumption, by omega⟩
    · cases h
  · cases h
theorem turnedP_first {F : Spot → Int × Spot} {l : List Spot} {a b q : Int} (h : firstP l a b q ≠ 0) : turnedP F l a b q = ([], firstP l a b q) := by
  unfold turnedP knownP
  unfold firstP at h ⊢
  split
  · split
    · rw [if_pos rfl]
      split
      · rfl
      · rename_i h1 h2 h3; rw [if_pos h1, if_pos h2, if_neg h3] at h; exact absurd rfl h
    · rfl
  · rfl
theorem turnedP_go {F : Spot → Int × Spot} {l : List Spot} {a b q : Int} (h : firstP l a b q = 0) : turnedP F l a b q = if (F (getS l a b)).1 = 0 then (putS l (F (getS l a b)).2, 0) else ([], (F (getS l a b)).1) := by
  obtain ⟨h1, h2, h3⟩ := firstP_zero h
  unfold turnedP knownP
  rw [if_pos (mayB_iff.2 h1), if_pos h2, if_pos rfl, if_neg (by omega)]
/-- A line in a block of its own, behind the world in which the call began. -/
structure LineAt (w W : World) (a b q : Int) : Prop where
  blk : W.heap[w.heap.size]? = some (.cells #[.int .i64 a, .int .i64 b, .int .i64 q] 32 (0, 0))
  bel : Below w.heap.size w W
theorem LineAt.new (w : World) (a b q : Int) : LineAt w (w.alloc (.cells #[.int .i64 a, .int .i64 b, .int .i64 q] 32)) a b q := ⟨heap_alloc_new w _, (Below.refl _ _).alloc (Nat.le_refl _) _⟩
theorem LineAt.lt {w W : World} {a b q : Int} (h : LineAt w W a b q) : w.heap.size < W.heap.size := (Array.getElem?_eq_some_iff.1 h.blk).1
theorem LineAt.cells {w W : World} {a b q : Int} (h : LineAt w W a b q) : W.cell? ⟨w.heap.size, 0, none⟩ = some (.int .i64 a) ∧ W.cell? ⟨w.heap.size, 1, none⟩ = some (.int .i64 b) ∧ W.cell? ⟨w.heap.size, 2, none⟩ = some (.int .i64 q) :=
  ⟨by rw [cell_of_row _ _ _ _ _ _ h.blk]; rfl, by rw [cell_of_row _ _ _ _ _ _ h.blk]; rfl, by rw [cell_of_row _ _ _ _ _ _ h.blk]; rfl⟩
theorem LineAt.below {w W W' : World} {a b q : Int} (h : LineAt w W a b q) (hb : Below W.heap.size W W') : LineAt w W' a b q :=
  ⟨(hb.block _ h.lt).trans h.blk, h.bel.trans (hb.mono (Nat.le_of_lt h.lt))⟩
/-- A table, beside a line. -/
structure Deck (w W : World) (g : Nat) (a b q : Int) (H R : Nat → Int) : Prop where
  line : LineAt w W a b q
  tab : TabAt W g H R
  gt : w.heap.size < g
theorem Deck.make {w W : World} {a b q : Int} (h : LineAt w W a b q) (H R : Nat → Int) : Deck w ((W.alloc (.cells (tc z0 z0) 66)).setRow W.heap.size (tc H R)) W.heap.size a b q H R := by
  have t0 : TabAt (W.alloc (.cells (tc z0 z0) 66)) W.heap.size z0 z0 := heap_alloc_new W _
  have h1 := h.below (W' := W.alloc (.cells (tc z0 z0) 66)) ((Below.refl _ _).alloc (Nat.le_refl _) _)
  have hb := below_setRow (Below.refl W.heap.size (W.alloc (.cells (tc z0 z0) 66))) (Nat.le_refl _) (tc H R)
  refine ⟨⟨(hb.block _ h.lt).trans h1.blk, h1.bel.trans (hb.mono (Nat.le_of_lt h.lt))⟩, t0.set, h.lt⟩
theorem deck_store {w W : World} {a b q : Int} (h : LineAt w W a b q) (H R : Nat → Int) : Sem.run Try.prog (storeCells ⟨W.heap.size, 0, none⟩ (tc H R).toList) (W.alloc (.cells (tc z0 z0) 66)) = .ok () ((W.alloc (.cells (tc z0 z0) 66)).setRow W.heap.size (tc H R)) :=
  store66 (heap_alloc_new W _ : TabAt (W.alloc (.cells (tc z0 z0) 66)) W.heap.size z0 z0)
theorem Deck.drewN {w W : World} {g : Nat} {a b q : Int} {H R : Nat → Int} (h : Deck w W g a b q H R) (n : Nat) : Deck w (W.drewN n) g a b q H R := ⟨⟨h.line.blk, pw_below_drewN h.line.bel n⟩, h.tab, h.gt⟩
theorem Deck.drew {w W : World} {g : Nat} {a b q : Int} {H R : Nat → Int} (h : Deck w W g a b q H R) : Deck w W.drew g a b q H R := ⟨⟨h.line.blk, below_drew h.line.bel⟩, h.tab, h.gt⟩
theorem Deck.setH {w W : World} {g : Nat} {a b q : Int} {H R : Nat → Int} (h : Deck w W g a b q H R) {o : Nat} (ho : o < 64) (v : Int) : Deck w (W.setCell ⟨g, o, none⟩ (.int .i64 v)) g a b q (upT H o v) R :=
  ⟨⟨(Below.heap_setCell W ⟨g, o, none⟩ _ _ (Nat.ne_of_lt h.gt)).trans h.line.blk, h.line.bel.setCell (p := ⟨g, o, none⟩) (Nat.le_of_lt h.gt) _⟩, h.tab.setH ho v, h.gt⟩
theorem Deck.setR {w W : World} {g : Nat} {a b q : Int} {H R : Nat → Int} (h : Deck w W g a b q H R) {o : Nat} (ho : o < 64) (v : Int) : Deck w (W.setCell ⟨g, 64 + o, none⟩ (.int .i64 v)) g a b q H (upT R o v) :=
  ⟨⟨(Below.heap_setCell W ⟨g, 64 + o, none⟩ _ _ (Nat.ne_of_lt h.gt)).trans h.line.blk, h.line.bel.setCell (p := ⟨g, 64 + o, none⟩) (Nat.le_of_lt h.gt) _⟩, h.tab.setR ho v, h.gt⟩
theorem Deck.h {w W : World} {g : Nat} {a b q : Int} {H R : Nat → Int} (h : Deck w W g a b q H R) {s p : Int} (hp : pairB s p = true) : W.cell? ⟨g, s.toNat * 4 + p.toNat, none⟩ = some (.int .i64 (H (ix s p))) ∧ W.frozen? ⟨g, s.toNat * 4 + p.toNat, none⟩ = false := ⟨h.tab.cell (tc_h _ _ (ix_lt hp)), h.tab.frozen _⟩
theorem Deck.r {w W : World} {g : Nat} {a b q : Int} {H R : Nat → Int} (h : Deck w W g a b q H R) {s p : Int} (hp : pairB s p = true) : W.cell? ⟨g, 64 + s.toNat * 4 + p.toNat, none⟩ = some (.int .i64 (R (ix s p))) ∧ W.frozen? ⟨g, 64 + s.toNat * 4 + p.toNat, none⟩ = false := by
  refine ⟨?_, h.tab.frozen _⟩
  have := h.tab.cell (tc_r H R (ix_lt hp))
  unfold ix at this ⊢
  rw [← Nat.add_assoc] at this
  exact this
/-- The stocks of a table that is that of stocks. -/
theorem list_of {l : List Spot} (h : May l) (w : World) : Calls Try.prog 48 #[.agg (tc (hOf l) (rOf l))] w fun e w' => ∃ v, e = .returned v ∧ Kd.R k37 37 w' w.heap.size (fun _ => True) v l ∧ Below w.heap.size w w' := by
  have := list_any (hOf l) (rOf l) w
  rw [listT_of h] at this
  exact this
theorem tc_putS {l : List Spot} {s : Spot} {H R : Nat → Int} (h : May l) (hs : fineS s) (h1 : H = upT (hOf l) (ix s.f0 s.f1) s.f2) (h2 : R = upT (rOf l) (ix s.f0 s.f1) s.f3) : tc H R = tc (hOf (putS l s)) (rOf (putS l s)) := by
  rw [h1, h2, tc_put h hs]
theorem upT_same (F : Nat → Int) (o : Nat) {v : Int} (h : v = F o) : F = upT F o v := by
  funext j
  unfold upT
  split
  · rename_i e; rw [h, e]
  · rfl
/-- The spot of a pair, with other numbers. -/
theorem fine_with {l : List Spot} {a b : Int} (h : May l) (hp : pairB a b = true) {x y : Int} (h0 : 0 ≤ y) (h1 : y ≤ x) : fineS { getS l a b with f2 := x, f3 := y } := by
  have hk := getS_key l a b
  exact ⟨by show pairB (getS l a b).f0 (getS l a b).f1 = true; rw [hk.1, hk.2]; exact hp, h0, h1⟩
theorem tab_with {l : List Spot} {a b : Int} (h : May l) (hp : pairB a b = true) {x y : Int} (h0 : 0 ≤ y) (h1 : y ≤ x) :
    tc (upT (hOf l) (ix a b) x) (upT (rOf l) (ix a b) y) = tc (hOf (putS l { getS l a b with f2 := x, f3 := y })) (rOf (putS l { getS l a b with f2 := x, f3 := y })) := by
  have hk := getS_key l a b
  have := tc_put h (fine_with h hp h0 h1)
  simp only [hk.1, hk.2] at this ⊢
  exact this
end Go.Proofs.Ytkhghabenhhhaaa.Stock

namespace Go.Proofs.Ytkhghabenhhhaaa.Stock
open Go Go.RowKit Go.Proofs.Ytkhghabenhhhaaa.Pa Go.Proofs.YtkhghabenhhhaaaW.PrintWords Go.Proofs.YtkhghabenhhhaaaW.PrintLast Go.Proofs.YtkhghabenhhhaaaW.PrintMore
set_option linter.unusedVariables false
set_option linter.unusedSimpArgs false

set_option maxRecDepth 100000 in
set_option maxHeartbeats 16000000 in
theorem rtake_any (A : Option Addr) (c : Nat) (l : List Spot) (sku loc qty : Int) (w : World) (hC : Kd.C k37 w A l.length l) (hc : l.length ≤ c) (hl : Lim l) (hq : inI qty) :
    Calls Try.prog 29 #[.slice A l.length c, .agg #[.int .i64 sku, .int .i64 loc, .int .i64 qty]] w (FreshE w (turnedP (takeF qty) l sku loc qty)) := by
  have hL := LineAt.new w sku loc qty
  have pf := rfirst_any A c l sku loc qty _ (Kd.C_below hC hL.bel) hc hl.1
  obtain ⟨n, hn⟩ : ∃ n, n = l.length := ⟨_, rfl⟩
  have HX := Aside0.mk (And.intro hC (And.intro hc (And.intro hl (And.intro hq hn))))
  obtain ⟨fe, hfe⟩ : ∃ fe, fe = firstP l sku loc qty := ⟨_, rfl⟩
  rw [← hfe, ← hn] at pf
  rw [← hn]
  by_cases h0 : fe = 0
  · have hP : turnedP (takeF qty) l sku loc qty = _ := turnedP_go (by rw [← hfe]; exact h0)
    rw [hP]
    obtain ⟨hm, hp, hpos⟩ := firstP_zero (hfe.symm.trans h0)
    subst h0
    have hs := getS_sound hm hl sku loc
    have hv : (getS l sku loc).f2 = hOf l (ix sku loc) := (hOf_ix l hp).symm
    have pa := fun (m : Nat) (W : World) => radd_any (hOf l (ix sku loc)) qty (W.drewN m) (by rw [← hv]; exact hs.2.2) hq.2
    obtain ⟨p0, p1, p2, p3⟩ := pairB_iff.1 hp
    unfold takeF
    simp only
    rw [hv]
    have HM := Aside0.mk (And.intro hm (And.intro hp (And.intro hs (And.intro hpos hv))))
    obtain ⟨hx, hhx⟩ : ∃ hx, hx = hOf l (ix sku loc) := ⟨_, rfl⟩
    rw [← hhx] at pa ⊢
    obtain ⟨r, hr⟩ : ∃ r, r = addP hx qty := ⟨_, rfl⟩
    rw [← hr] at pa ⊢
    obtain ⟨res, hres⟩ : ∃ res : List Spot × Int, res = if r.2 = 0 then (putS l { f0 := (getS l sku loc).f0, f1 := (getS l sku loc).f1, f2 := r.1, f3 := (getS l sku loc).f3 }, 0) else ([], r.2) := ⟨_, rfl⟩
    rw [← hres]
    have HR := Aside0.mk (And.intro hr (And.intro hhx hres))
    have PA := Aside0.mk pa
    clear hC hc hl hq hn hfe hP hm hp hpos hs hv pa hr hhx hL hres
    go_enter Try.func29, Try.ntmps29
    go_wp2_with fail
    go_at_call 45
    refine pf.mono ?_
    rintro e w1 ⟨rfl, hb⟩
    have hL := (LineAt.new w sku loc qty).below hb
    have HL := Aside0.mk hL
    obtain ⟨x0, x1, x2⟩ := hL.cells
    clear hb hL pf
    go_wp2_with fail
    go_at_call 46
    have pl := laid_any A c l w1 (Kd.C_below HX.out.1 HL.out.bel) HX.out.2.1 HM.out.1
    rw [← HX.out.2.2.2.2] at pl
    refine pl.mono ?_
    clear pl
    rintro e w2 ⟨rfl, hb⟩
    have hL := HL.out.below hb
    clear x0 x1 x2 hb
    have hz := zero66
    have hs := deck_store hL (hOf l) (rOf l)
    have hD := Deck.make hL (hOf l) (rOf l)
    go_wp2
    obtain ⟨w3, hw3⟩ : ∃ w3, w3 = (w2.alloc (.cells (tc z0 z0) 66)).setRow w2.heap.size (tc (hOf l) (rOf l)) := ⟨_, rfl⟩
    obtain ⟨g, hg⟩ : ∃ g, g = w2.heap.size := ⟨_, rfl⟩
    rw [← hw3, ← hg] at hD ⊢
    clear hw3 hs hz hL hg
    have HD := Aside0.mk hD
    obtain ⟨x0, x1, x2⟩ := hD.line.cells
    obtain ⟨c0, g0⟩ := hD.h HM.out.2.1
    rw [← HR.out.2.1] at c0
    clear hD
    go_quiet ((go_at_call 47; refine (PA.out _ _).mono ?_; rintro e w' ⟨rfl, ⟨nd, rfl⟩⟩; exact ⟨rfl, _, World.drewN_drewN _ _ _⟩))
    by_cases hr0 : r.2 = 0
    · have e1 : (r.2 != 0) = false := by simp [hr0]
      go_wp2
      go_region
      obtain ⟨w4, hw4⟩ : ∃ w4 : World, w4 = (w3.drewN (nq + 1)).setCell ⟨g, sku.toNat * 4 + loc.toNat, none⟩ (.int .i64 r.1) := ⟨_, rfl⟩
      have hD4 : Deck w w4 g sku loc qty (upT (hOf l) (ix sku loc) r.1) (rOf l) := by rw [hw4]; exact (HD.out.drewN _).setH (ix_lt HM.out.2.1) r.1
      rw [← hw4]
      clear hw4 x0 x1 x2 c0 g0
      have hr1 : 0 ≤ hOf l (ix sku loc) ∧ hOf l (ix sku loc) ≤ r.1 := by
        have h1 := HM.out.2.2.1
        have h2 := HM.out.2.2.2.2
        rw [HR.out.1, HR.out.2.1] at hr0 ⊢
        have h3 := HM.out.2.2.2.1
        unfold sound at h1
        unfold addP at hr0 ⊢
        split at hr0
        · cases hr0
        · split at hr0
          · cases hr0
          · rename_i h4 h5
            rw [if_neg h4, if_neg h5]
            exact ⟨by omega, by show _ ≤ _ + _; omega⟩
      obtain ⟨L, hL⟩ : ∃ L, L = putS l { f0 := (getS l sku loc).f0, f1 := (getS l sku loc).f1, f2 := r.1, f3 := (getS l sku loc).f3 } := ⟨_, rfl⟩
      have h2 := HM.out.2.2.2.2
      have hy : 0 ≤ (getS l sku loc).f3 ∧ (getS l sku loc).f3 ≤ r.1 := ⟨HM.out.2.2.1.1, Int.le_trans HM.out.2.2.1.2.1 (by rw [h2]; exact hr1.2)⟩
      have hML : May L := by rw [hL]; exact HM.out.1.put (fine_with HM.out.1 HM.out.2.1 hy.1 hy.2)
      have hT : TabAt w4 g (hOf L) (rOf L) := by
        have h3 := hD4.tab
        unfold TabAt at h3 ⊢
        rw [upT_same (rOf l) (ix sku loc) (v := (getS l sku loc).f3) (rOf_ix l HM.out.2.1).symm, tab_with HM.out.1 HM.out.2.1 hy.1 hy.2, ← hL] at h3
        exact h3
      have HRL : Aside0 (res = (L, 0)) := ⟨by rw [HR.out.2.2, if_pos hr0, hL]⟩
      have HB4 := Aside0.mk hD4.line.bel
      have HML := Aside0.mk hML
      have pL := list_of hML w4
      clear hr0 hr1 hL h2 hy hML hD4 e1
      go_wp2
      refine wp_load66 (.tmp 7) rfl rfl hT ?_
      go_wp2_with fail
      go_at_call 48
      refine pL.mono ?_
      rintro e w5 ⟨v, rfl, hv, hb5⟩
      have HV := Aside0.mk (And.intro hv hb5)
      clear hv hb5 hT pL
      go_wp2
      go_ret2
      refine ⟨v, ?_, ?_, HB4.out.trans (HV.out.2.mono HB4.out.size)⟩
      · rw [HRL.out]; rfl
      · rw [HRL.out]; exact Kd.R_lower HV.out.1 HB4.out.size
    · have e1 : (r.2 != 0) = true := by simp [hr0]
      go_wp2
      go_ret2
      refine ⟨.slice none 0 0, ?_, ?_, pw_below_drewN HD.out.line.bel _⟩
      · rw [HR.out.2.2, if_neg hr0]; rfl
      · rw [HR.out.2.2, if_neg hr0]; exact Kd.R_nil _ _ _ _ _
  · have hP : turnedP (takeF qty) l sku loc qty = _ := turnedP_first (by rw [← hfe]; exact h0)
    rw [hP, ← hfe]
    have e1 : (fe != 0) = true := by simp [h0]
    clear hC hc hl hq hn hfe h0 hP
    go_enter Try.func29, Try.ntmps29
    go_wp2_with (go_at_call 45; refine pf.mono ?_; rintro e w1 ⟨rfl, hb⟩; have HB := Aside0.mk ((LineAt.new w sku loc qty).below hb); clear hb)
    go_ret2
    exact ⟨_, rfl, Kd.R_nil _ _ _ _ _, HB.out.bel⟩
end Go.Proofs.Ytkhghabenhhhaaa.Stock

namespace Go.Proofs.Ytkhghabenhhhaaa.Stock
open Go Go.RowKit Go.Proofs.Ytkhghabenhhhaaa.Pa Go.Proofs.YtkhghabenhhhaaaW.PrintWords Go.Proofs.YtkhghabenhhhaaaW.PrintLast Go.Proofs.YtkhghabenhhhaaaW.PrintMore
set_option linter.unusedVariables false
set_option linter.unusedSimpArgs false

theorem rfree_eq {l : List Spot} {a b q : Int} (hl : Lim l) (h : firstP l a b q = 0) : turnedP (freeF q) l a b q = if rOf l (ix a b) < q then ([], 31) else (putS l { getS l a b with f2 := hOf l (ix a b), f3 := rOf l (ix a b) - q }, 0) := by
  obtain ⟨h1, h2, h3⟩ := firstP_zero h
  rw [turnedP_go h]
  have hs := (getS_sound h1 hl a b).1
  have e : subP (getS l a b).f3 q = if (getS l a b).f3 < q then (0, 31) else ((getS l a b).f3 - q, 0) := by unfold subP; rw [if_neg (by omega)]
  unfold freeF
  rw [rOf_ix l h2, hOf_ix l h2, e]
  by_cases hlt : (getS l a b).f3 < q <;> simp [hlt]
set_option maxRecDepth 100000 in
set_option maxHeartbeats 16000000 in
theorem rfree_any (A : Option Addr) (c : Nat) (l : List Spot) (sku loc qty : Int) (w : World) (hC : Kd.C k37 w A l.length l) (hc : l.length ≤ c) (hl : Lim l) (hq : inI qty) :
    Calls Try.prog 32 #[.slice A l.length c, .agg #[.int .i64 sku, .int .i64 loc, .int .i64 qty], .bool false] w (FreshE w (turnedP (freeF qty) l sku loc qty)) := by
  have hL := LineAt.new w sku loc qty
  have pf := rfirst_any A c l sku loc qty _ (Kd.C_below hC hL.bel) hc hl.1
  obtain ⟨n, hn⟩ : ∃ n, n = l.length := ⟨_, rfl⟩
  have HX := Aside0.mk (And.intro hC (And.intro hc (And.intro hl (And.intro hq hn))))
  obtain ⟨fe, hfe⟩ : ∃ fe, fe = firstP l sku loc qty := ⟨_, rfl⟩
  rw [← hfe, ← hn] at pf
  rw [← hn]
  by_cases h0 : fe = 0
  · have hP : turnedP (freeF qty) l sku loc qty = _ := rfree_eq hl (by rw [← hfe]; exact h0)
    rw [hP]
    obtain ⟨hm, hp, hpos⟩ := firstP_zero (hfe.symm.trans h0)
    subst h0
    have hs := getS_sound hm hl sku loc
    have hv : (getS l sku loc).f2 = hOf l (ix sku loc) := (hOf_ix l hp).symm
    have hv3 : (getS l sku loc).f3 = rOf l (ix sku loc) := (rOf_ix l hp).symm
    obtain ⟨p0, p1, p2, p3⟩ := pairB_iff.1 hp
    obtain ⟨s0, s1, s2⟩ := hs
    rw [hv] at s1 s2
    rw [hv3] at s0 s1
    have q2 := hq.2
    obtain ⟨res, hres⟩ : ∃ res : List Spot × Int, res = if rOf l (ix sku loc) < qty then ([], 31) else (putS l { getS l sku loc with f2 := hOf l (ix sku loc), f3 := rOf l (ix sku loc) - qty }, 0) := ⟨_, rfl⟩
    rw [← hres]
    have HM := Aside0.mk (And.intro hm (And.intro hp (And.intro hpos hv)))
    obtain ⟨hx, hhx⟩ : ∃ hx, hx = hOf l (ix sku loc) := ⟨_, rfl⟩
    obtain ⟨rx, hrx⟩ : ∃ rx, rx = rOf l (ix sku loc) := ⟨_, rfl⟩
    rw [← hhx] at s1 s2 hres
    rw [← hrx] at s0 s1 hres
    have HR := Aside0.mk (And.intro hhx (And.intro hrx hres))
    clear hC hc hl hq hn hfe hP hm hp hv hv3 hhx hrx hres hL
    go_enter Try.func32, Try.ntmps32
    go_wp2_with fail
    go_at_call 45
    refine pf.mono ?_
    rintro e w1 ⟨rfl, hb⟩
    have hL := (LineAt.new w sku loc qty).below hb
    have HL := Aside0.mk hL
    obtain ⟨x0, x1, x2⟩ := hL.cells
    clear hb hL pf
    go_wp2_with fail
    go_at_call 46
    have pl := laid_any A c l w1 (Kd.C_below HX.out.1 HL.out.bel) HX.out.2.1 HM.out.1
    rw [← HX.out.2.2.2.2] at pl
    refine pl.mono ?_
    clear pl
    rintro e w2 ⟨rfl, hb⟩
    have hL := HL.out.below hb
    clear x0 x1 x2 hb
    have hz := zero66
    have hs := deck_store hL (hOf l) (rOf l)
    have hD := Deck.make hL (hOf l) (rOf l)
    go_wp2
    obtain ⟨w3, hw3⟩ : ∃ w3, w3 = (w2.alloc (.cells (tc z0 z0) 66)).setRow w2.heap.size (tc (hOf l) (rOf l)) := ⟨_, rfl⟩
    obtain ⟨g, hg⟩ : ∃ g, g = w2.heap.size := ⟨_, rfl⟩
    rw [← hw3, ← hg] at hD ⊢
    clear hw3 hs hz hL hg
    have HD := Aside0.mk hD
    obtain ⟨x0, x1, x2⟩ := hD.line.cells
    obtain ⟨c0, g0⟩ := hD.r HM.out.2.1
    rw [← HR.out.2.1] at c0
    clear hD
    go_quiet (fail)
    by_cases hlt : rx < qty
    · go_wp2
      go_ret2
      refine ⟨.slice none 0 0, ?_, ?_, pw_below_drewN HD.out.line.bel _⟩
      · rw [HR.out.2.2, if_pos hlt]; rfl
      · rw [HR.out.2.2, if_pos hlt]; exact Kd.R_nil _ _ _ _ _
    · have e2 : IntKind.i64.wrap (rx - qty) = rx - qty := IntWalk.i64_in _ (by omega)
      go_wp2
      go_region
      clear e2
      obtain ⟨w4, hw4⟩ : ∃ w4 : World, w4 = (w3.drewN (nq + 1)).setCell ⟨g, 64 + sku.toNat * 4 + loc.toNat, none⟩ (.int .i64 (rx - qty)) := ⟨_, rfl⟩
      have hD4 : Deck w w4 g sku loc qty (hOf l) (upT (rOf l) (ix sku loc) (rx - qty)) := by
        have := (HD.out.drewN (nq + 1)).setR (ix_lt HM.out.2.1) (rx - qty)
        rw [hw4, show 64 + sku.toNat * 4 + loc.toNat = 64 + ix sku loc by unfold ix; omega]
        exact this
      rw [← hw4]
      clear hw4 x0 x1 x2 c0 g0
      obtain ⟨L, hL⟩ : ∃ L, L = putS l { getS l sku loc with f2 := hx, f3 := rx - qty } := ⟨_, rfl⟩
      have hML : May L := by rw [hL]; exact HM.out.1.put (fine_with HM.out.1 HM.out.2.1 (by omega) (by omega))
      have hT : TabAt w4 g (hOf L) (rOf L) := by
        have h3 := hD4.tab
        unfold TabAt at h3 ⊢
        rw [upT_same (hOf l) (ix sku loc) (v := hx) HR.out.1, tab_with HM.out.1 HM.out.2.1 (by omega) (by omega), ← hL] at h3
        exact h3
      have HRL : Aside0 (res = (L, 0)) := ⟨by rw [HR.out.2.2, if_neg (show ¬ rx < qty by omega), hL, HR.out.1, HR.out.2.1]⟩
      have hB : Below w.heap.size w w4 := hD4.line.bel
      clear hD4
      have HB4 := Aside0.mk hB
      have HML := Aside0.mk hML
      have pL := list_of hML w4
      clear hB hML hL
      go_wp2
      refine wp_load66 (.tmp 9) rfl rfl hT ?_
      go_wp2_with fail
      go_at_call 48
      refine pL.mono ?_
      rintro e w5 ⟨v, rfl, hv, hb5⟩
      have HV := Aside0.mk (And.intro hv hb5)
      clear hv hb5 hT pL
      go_wp2
      go_ret2
      refine ⟨v, ?_, ?_, HB4.out.trans (HV.out.2.mono HB4.out.size)⟩
      · rw [HRL.out]; rfl
      · rw [HRL.out]; exact Kd.R_lower HV.out.1 HB4.out.size
  · have hP : turnedP (freeF qty) l sku loc qty = _ := turnedP_first (by rw [← hfe]; exact h0)
    rw [hP, ← hfe]
    have e1 : (fe != 0) = true := by simp [h0]
    clear hC hc hl hq hn hfe h0 hP
    go_enter Try.func32, Try.ntmps32
    go_wp2_with (go_at_call 45; refine pf.mono ?_; rintro e w1 ⟨rfl, hb⟩; have HB := Aside0.mk ((LineAt.new w sku loc qty).below hb); clear hb)
    go_ret2
    exact ⟨_, rfl, Kd.R_nil _ _ _ _ _, HB.out.bel⟩
theorem rship_eq {l : List Spot} {a b q : Int} (hl : Lim l) (h : firstP l a b q = 0) : turnedP (shipF q) l a b q = if rOf l (ix a b) < q then ([], 31) else (putS l { getS l a b with f2 := hOf l (ix a b) - q, f3 := rOf l (ix a b) - q }, 0) := by
  obtain ⟨h1, h2, h3⟩ := firstP_zero h
  rw [turnedP_go h]
  have hs := (getS_sound h1 hl a b).1
  have e : subP (getS l a b).f3 q = if (getS l a b).f3 < q then (0, 31) else ((getS l a b).f3 - q, 0) := by unfold subP; rw [if_neg (by omega)]
  unfold shipF
  rw [rOf_ix l h2, hOf_ix l h2, e]
  by_cases hlt : (getS l a b).f3 < q <;> simp [hlt]
set_option maxRecDepth 100000 in
set_option maxHeartbeats 16000000 in
theorem rship_any (A : Option Addr) (c : Nat) (l : List Spot) (sku loc qty : Int) (w : World) (hC : Kd.C k37 w A l.length l) (hc : l.length ≤ c) (hl : Lim l) (hq : inI qty) :
    Calls Try.prog 32 #[.slice A l.length c, .agg #[.int .i64 sku, .int .i64 loc, .int .i64 qty], .bool true] w (FreshE w (turnedP (shipF qty) l sku loc qty)) := by
  have hL := LineAt.new w sku loc qty
  have pf := rfirst_any A c l sku loc qty _ (Kd.C_below hC hL.bel) hc hl.1
  obtain ⟨n, hn⟩ : ∃ n, n = l.length := ⟨_, rfl⟩
  have HX := Aside0.mk (And.intro hC (And.intro hc (And.intro hl (And.intro hq hn))))
  obtain ⟨fe, hfe⟩ : ∃ fe, fe = firstP l sku loc qty := ⟨_, rfl⟩
  rw [← hfe, ← hn] at pf
  rw [← hn]
  by_cases h0 : fe = 0
  · have hP : turnedP (shipF qty) l sku loc qty = _ := rship_eq hl (by rw [← hfe]; exact h0)
    rw [hP]
    obtain ⟨hm, hp, hpos⟩ := firstP_zero (hfe.symm.trans h0)
    subst h0
    have hs := getS_sound hm hl sku loc
    have hv : (getS l sku loc).f2 = hOf l (ix sku loc) := (hOf_ix l hp).symm
    have hv3 : (getS l sku loc).f3 = rOf l (ix sku loc) := (rOf_ix l hp).symm
    obtain ⟨p0, p1, p2, p3⟩ := pairB_iff.1 hp
    obtain ⟨s0, s1, s2⟩ := hs
    rw [hv] at s1 s2
    rw [hv3] at s0 s1
    have q2 := hq.2
    obtain ⟨res, hres⟩ : ∃ res : List Spot × Int, res = if rOf l (ix sku loc) < qty then ([], 31) else (putS l { getS l sku loc with f2 := hOf l (ix sku loc) - qty, f3 := rOf l (ix sku loc) - qty }, 0) := ⟨_, rfl⟩
    rw [← hres]
    have HM := Aside0.mk (And.intro hm (And.intro hp (And.intro hpos hv)))
    obtain ⟨hx, hhx⟩ : ∃ hx, hx = hOf l (ix sku loc) := ⟨_, rfl⟩
    obtain ⟨rx, hrx⟩ : ∃ rx, rx = rOf l (ix sku loc) := ⟨_, rfl⟩
    rw [← hhx] at s1 s2 hres
    rw [← hrx] at s0 s1 hres
    have HR := Aside0.mk (And.intro hhx (And.intro hrx hres))
    clear hC hc hl hq hn hfe hP hm hp hv hv3 hhx hrx hres hL
    go_enter Try.func32, Try.ntmps32
    go_wp2_with fail
    go_at_call 45
    refine pf.mono ?_
    rintro e w1 ⟨rfl, hb⟩
    have hL := (LineAt.new w sku loc qty).below hb
    have HL := Aside0.mk hL
    obtain ⟨x0, x1, x2⟩ := hL.cells
    clear hb hL pf
    go_wp2_with fail
    go_at_call 46
    have pl := laid_any A c l w1 (Kd.C_below HX.out.1 HL.out.bel) HX.out.2.1 HM.out.1
    rw [← HX.out.2.2.2.2] at pl
    refine pl.mono ?_
    clear pl
    rintro e w2 ⟨rfl, hb⟩
    have hL := HL.out.below hb
    clear x0 x1 x2 hb
    have hz := zero66
    have hs := deck_store hL (hOf l) (rOf l)
    have hD := Deck.make hL (hOf l) (rOf l)
    go_wp2
    obtain ⟨w3, hw3⟩ : ∃ w3, w3 = (w2.alloc (.cells (tc z0 z0) 66)).setRow w2.heap.size (tc (hOf l) (rOf l)) := ⟨_, rfl⟩
    obtain ⟨g, hg⟩ : ∃ g, g = w2.heap.size := ⟨_, rfl⟩
    rw [← hw3, ← hg] at hD ⊢
    clear hw3 hs hz hL hg
    have HD := Aside0.mk hD
    obtain ⟨x0, x1, x2⟩ := hD.line.cells
    obtain ⟨c0, g0⟩ := hD.r HM.out.2.1
    rw [← HR.out.2.1] at c0
    clear hD
    go_quiet (fail)
    by_cases hlt : rx < qty
    · go_wp2
      go_ret2
      refine ⟨.slice none 0 0, ?_, ?_, pw_below_drewN HD.out.line.bel _⟩
      · rw [HR.out.2.2, if_pos hlt]; rfl
      · rw [HR.out.2.2, if_pos hlt]; exact Kd.R_nil _ _ _ _ _
    · have e2 : IntKind.i64.wrap (rx - qty) = rx - qty := IntWalk.i64_in _ (by omega)
      go_wp2
      go_region
      clear e2
      obtain ⟨w4, hw4⟩ : ∃ w4 : World, w4 = (w3.drewN (nq + 1)).setCell ⟨g, 64 + sku.toNat * 4 + loc.toNat, none⟩ (.int .i64 (rx - qty)) := ⟨_, rfl⟩
      have hD4 : Deck w w4 g sku loc qty (hOf l) (upT (rOf l) (ix sku loc) (rx - qty)) := by
        have := (HD.out.drewN (nq + 1)).setR (ix_lt HM.out.2.1) (rx - qty)
        rw [hw4, show 64 + sku.toNat * 4 + loc.toNat = 64 + ix sku loc by unfold ix; omega]
        exact this
      rw [← hw4]
      clear hw4 x0 x1 x2 c0 g0
      have HD4 := Aside0.mk hD4
      obtain ⟨x0, x1, x2⟩ := hD4.line.cells
      obtain ⟨c0, g0⟩ := hD4.h HM.out.2.1
      rw [← HR.out.1] at c0
      clear hD4
      have e2 : IntKind.i64.wrap (hx - qty) = hx - qty := IntWalk.i64_in _ (by omega)
      go_wp2
      go_still_tail 18, (by kernel_rfl)
      go_wp2
      clear e2
      obtain ⟨w6, hw6⟩ : ∃ w6 : World, w6 = (w4.setCell ⟨g, sku.toNat * 4 + loc.toNat, none⟩ (.int .i64 (hx - qty))).drew := ⟨_, rfl⟩
      have hD6 : Deck w w6 g sku loc qty (upT (hOf l) (ix sku loc) (hx - qty)) (upT (rOf l) (ix sku loc) (rx - qty)) := by rw [hw6]; exact (HD4.out.setH (ix_lt HM.out.2.1) (hx - qty)).drew
      rw [← hw6]
      clear hw6 x0 x1 x2 c0 g0
      obtain ⟨L, hL⟩ : ∃ L, L = putS l { getS l sku loc with f2 := hx - qty, f3 := rx - qty } := ⟨_, rfl⟩
      have hML : May L := by rw [hL]; exact HM.out.1.put (fine_with HM.out.1 HM.out.2.1 (by omega) (by omega))
      have hT : TabAt w6 g (hOf L) (rOf L) := by
        have h3 := hD6.tab
        unfold TabAt at h3 ⊢
        rw [tab_with HM.out.1 HM.out.2.1 (by omega) (by omega), ← hL] at h3
        exact h3
      have HRL : Aside0 (res = (L, 0)) := ⟨by rw [HR.out.2.2, if_neg (show ¬ rx < qty by omega), hL, HR.out.1, HR.out.2.1]⟩
      have hB : Below w.heap.size w w6 := hD6.line.bel
      clear hD6
      have HB4 := Aside0.mk hB
      have HML := Aside0.mk hML
      have pL := list_of hML w6
      clear hB hML hL
      go_wp2
      refine wp_load66 (.tmp 9) rfl rfl hT ?_
      go_wp2_with fail
      go_at_call 48
      refine pL.mono ?_
      rintro e w5 ⟨v, rfl, hv, hb5⟩
      have HV := Aside0.mk (And.intro hv hb5)
      clear hv hb5 hT pL
      go_wp2
      go_ret2
      refine ⟨v, ?_, ?_, HB4.out.trans (HV.out.2.mono HB4.out.size)⟩
      · rw [HRL.out]; rfl
      · rw [HRL.out]; exact Kd.R_lower HV.out.1 HB4.out.size
  · have hP : turnedP (shipF qty) l sku loc qty = _ := turnedP_first (by rw [← hfe]; exact h0)
    rw [hP, ← hfe]
    have e1 : (fe != 0) = true := by simp [h0]
    clear hC hc hl hq hn hfe h0 hP
    go_enter Try.func32, Try.ntmps32
    go_wp2_with (go_at_call 45; refine pf.mono ?_; rintro e w1 ⟨rfl, hb⟩; have HB := Aside0.mk ((LineAt.new w sku loc qty).below hb); clear hb)
    go_ret2
    exact ⟨_, rfl, Kd.R_nil _ _ _ _ _, HB.out.bel⟩
end Go.Proofs.Ytkhghabenhhhaaa.Stock
