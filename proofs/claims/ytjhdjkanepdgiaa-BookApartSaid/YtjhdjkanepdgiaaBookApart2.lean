/- The law BookApart: the walk. No conditions beside those that each contract states. -/
import Derived.Test.YtjhdjkanepdgiaaBookAsk
namespace Go.Proofs.Ytjhdjkanepdgiaa.Ask
open Go Go.RowKit Go.Proofs.Ytjhdjkanepdgiaa.Pa Go.Proofs.Ytjhdjkanepdgiaa.Pb Go.Proofs.YtjhdjkanepdgiaaW.PrintWords Go.Proofs.YtjhdjkanepdgiaaW.PrintLast Go.Proofs.YtjhdjkanepdgiaaW.PrintMore Go.Proofs.Ytjhdjkanepdgiaa.Book
set_option linter.unusedVariables false
set_option linter.unusedSimpArgs false

theorem var_at {w W : World} {o : Obj} (h : Below (w.alloc o).heap.size (w.alloc o) W) : W.heap[w.heap.size]? = some o := (h.block _ (by simp)).trans (heap_alloc_new w _)
theorem var_cells {W : World} {b : Nat} {x0 x1 : Int} {v : Value} (h : W.heap[b]? = some (.cells #[.int .i64 x0, .int .i64 x1, v] 25 (0, 0))) : W.cell? ⟨b, 0, none⟩ = some (.int .i64 x0) ∧ W.cell? ⟨b, 1, none⟩ = some (.int .i64 x1) ∧ W.cell? ⟨b, 2, none⟩ = some v := by
  refine ⟨?_, ?_, ?_⟩ <;> (rw [cell_of_row _ _ _ _ _ _ h]; rfl)
theorem new2 (w : World) (o1 o2 o3 : Obj) : (((w.alloc o1).alloc o2).alloc o3).heap[w.heap.size + 1]? = some o2 := by
  have h := heap_alloc_new (w.alloc o1) o2
  rw [show (w.alloc o1).heap.size = w.heap.size + 1 by simp] at h
  rw [Below.heap_alloc _ _ _ (by simp), h]
theorem new3 (w : World) (o1 o2 o3 : Obj) : (((w.alloc o1).alloc o2).alloc o3).heap[w.heap.size + 1 + 1]? = some o3 := by
  have h := heap_alloc_new ((w.alloc o1).alloc o2) o3
  rwa [show ((w.alloc o1).alloc o2).heap.size = w.heap.size + 1 + 1 by simp] at h
theorem same_oneX {W : World} {g h : Nat} {x0 x1 : Int} {x2 : List Line} {A B : Option Addr} {cA cB : Nat} (h20 : x2.length ≤ 20) (hg : W.heap[g]? = some (.cells #[.int .i64 x0, .int .i64 x1, .slice A x2.length cA] 25 (0, 0))) (hh : W.heap[h]? = some (.cells #[.int .i64 x0, .int .i64 x1, .slice B x2.length cB] 25 (0, 0)))
    (hA : Kd.C k33 W A x2.length x2) (hcA : x2.length ≤ cA) (hB : Kd.C k33 W B x2.length x2) (hcB : x2.length ≤ cB) :
    Calls Try.prog 14 #[.slice (some ⟨g, 0, none⟩) 1 1, .slice (some ⟨h, 0, none⟩) 1 1] W fun e w' => e = .returned (.bool true) ∧ Drawn0 W w' :=
  same_one (x := ⟨x0, x1, x2⟩) h20 hg hh hA hcA hB hcB
theorem C_three {W0 W : World} {o1 o2 o3 : Obj} {A : Option Addr} {n : Nat} {l : List Line} (h : Kd.C k33 W0 A n l) (hb : Below W0.heap.size W0 W) : Kd.C k33 (((W.alloc o1).alloc o2).alloc o3) A n l := Kd.C_alloc (Kd.C_alloc (Kd.C_alloc (Kd.C_below h hb) _) _) _
theorem below3 {a W W' : World} {o1 o2 o3 : Obj} (h : Below a.heap.size a W) (hd : Drawn0 (((W.alloc o1).alloc o2).alloc o3) W') : Below a.heap.size a W' := by
  have h1 := h.alloc h.size o1
  have h2 := h1.alloc h1.size o2
  have h3 := h2.alloc h2.size o3
  exact below_then h3 h3.size hd.below

set_option maxRecDepth 100000 in
set_option maxHeartbeats 16000000 in
theorem bookApart_calls (A : Option Addr) (c : Nat) (l : List Booking) (id line n other : Int) (w : World) (h1 : l.length ≤ maxLen) (h2 : ∀ y ∈ l, qT25 y) (w1 : (Lit.int .i64 id).wf = true) (w2 : (Lit.int .i64 line).wf = true) (w3 : (Lit.int .i64 n).wf = true) (w4 : (Lit.int .i64 other).wf = true) (hC : Kd.C k25 w A l.length l) (hc : l.length ≤ c) :
    Calls Try.prog 7 #[.slice A l.length c, .int .i64 id, .int .i64 line, .int .i64 n, .int .i64 other] w fun e w' => e = .returned (.bool true) ∧ Below w.heap.size w w' := by
  clear w1 w2 w3 w4
  obtain ⟨N, hN⟩ : ∃ N, N = l.length := ⟨_, rfl⟩
  obtain ⟨K, hK⟩ : ∃ K, K = l.length + 100 := ⟨_, rfl⟩
  have HX := Aside0.mk (And.intro hC (And.intro hc (And.intro h2 hN)))
  have pf := fun (W : World) (hb : Below w.heap.size w W) (b : Bool) (hf : quartermasterref18_Few.f (l.length + 100) l 12 = some b) => quartermasterref18_Few.calls (l.length + 100) A c l 12 b W (Kd.C_below hC hb) hc hf
  have pm := fun (W : World) (hb : Below w.heap.size w W) (hl : l.length ≤ 999999999) => book_May.calls (l.length + 100) A c l _ W (Kd.C_below hC hb) hc (may_f (by omega) (by omega))
  have hfew : quartermasterref18_Few.f (l.length + 100) l 12 = some (fewB l 12) := few_f (by omega) (by omega)
  obtain ⟨fb, hfb⟩ : ∃ fb, fb = fewB l 12 := ⟨_, rfl⟩
  obtain ⟨mb, hmb⟩ : ∃ mb, mb = mayB l := ⟨_, rfl⟩
  have pf1 := fun (W : World) (hb : Below w.heap.size w W) => pf W hb _ hfew
  rw [← hfb, ← hN] at pf1
  rw [← hmb, ← hN] at pm
  have PF := Aside0.mk pf1
  have PM := Aside0.mk pm
  have HB0 := Aside0.mk (And.intro hfb hmb)
  rw [← hN] at h1 ⊢
  clear hC hc h2 hN pf pm hfew pf1 hfb hmb hK
  cases fb with
  | false =>
    clear PM
    go_enter Try.func7, Try.ntmps7
    go_wp2_with (first | (go_at_call 8; refine (awake_any _).mono ?_; rintro e w1 ⟨rfl, hb⟩; have HB := Aside0.mk hb; clear hb) | (go_at_call 9; refine (PF.out _ HB.out).mono ?_; rintro e w2 ⟨rfl, hb⟩; have HB2 := Aside0.mk (below_then HB.out HB.out.size hb.below); clear hb))
    go_ret
    exact ⟨rfl, HB2.out⟩
  | true =>
    have hn12 : (l.length : Int) ≤ 12 := few_len HB0.out.1.symm
    have hn13 : l.length ≤ 999999999 := by omega
    have PM2 := Aside0.mk (fun (W : World) (hb : Below w.heap.size w W) => PM.out W hb (by have := HX.out.2.2.2; omega))
    clear PM hn12
    cases mb with
    | false =>
      go_enter Try.func7, Try.ntmps7
      go_wp2_with (first | (go_at_call 8; refine (awake_any _).mono ?_; rintro e w1 ⟨rfl, hb⟩; have HB := Aside0.mk hb; clear hb) | (go_at_call 9; refine (PF.out _ HB.out).mono ?_; rintro e w2 ⟨rfl, hb⟩; have HB2 := Aside0.mk (below_then HB.out HB.out.size hb.below); clear hb) | (go_at_call 10; refine (PM2.out _ HB2.out).mono ?_; rintro e w3 ⟨rfl, hb⟩; have HB3 := Aside0.mk (below_then HB2.out HB2.out.size hb); clear hb))
      go_ret
      exact ⟨rfl, HB3.out⟩
    | true =>
      have hM : MayL l := mayB_iff.1 HB0.out.2.symm
      by_cases hoi : other = id
      · subst hoi
        clear hn13 hM
        go_enter Try.func7, Try.ntmps7
        go_wp2_with (first | (go_at_call 8; refine (awake_any _).mono ?_; rintro e w1 ⟨rfl, hb⟩; have HB := Aside0.mk hb; clear hb) | (go_at_call 9; refine (PF.out _ HB.out).mono ?_; rintro e w2 ⟨rfl, hb⟩; have HB2 := Aside0.mk (below_then HB.out HB.out.size hb.below); clear hb) | (go_at_call 10; refine (PM2.out _ HB2.out).mono ?_; rintro e w3 ⟨rfl, hb⟩; have HB3 := Aside0.mk (below_then HB2.out HB2.out.size hb); clear hb))
        go_ret
        exact ⟨rfl, HB3.out⟩
      · have hoib : (other == id) = false := by simpa using hoi
        have hlim : Lim l := lim_of HX.out.2.2.1 hn13
        have pfi := fun (W : World) (hb : Below w.heap.size w W) => book_Find.calls (l.length + 100) A c l other (findP l other).1 (findP l other).2.1 (findP l other).2.2.1 (findP l other).2.2.2 W (Kd.C_below HX.out.1 hb) HX.out.2.1 (find_f other hn13 (by omega))
        have psh := fun (W : World) (hb : Below w.heap.size w W) => ship_any id line n A c l W (Kd.C_below HX.out.1 hb) HX.out.2.1 hlim
        have pcl := fun (W : World) (hb : Below w.heap.size w W) => close_any id A c l W (Kd.C_below HX.out.1 hb) HX.out.2.1 hn13
        unfold ShipPost at psh
        unfold ClosePost at pcl
        obtain ⟨x0, hx0⟩ : ∃ x0, x0 = (findP l other).1 := ⟨_, rfl⟩
        obtain ⟨x1, hx1⟩ : ∃ x1, x1 = (findP l other).2.1 := ⟨_, rfl⟩
        obtain ⟨x2, hx2⟩ : ∃ x2, x2 = (findP l other).2.2.1 := ⟨_, rfl⟩
        obtain ⟨xi, hxi⟩ : ∃ xi, xi = (findP l other).2.2.2 := ⟨_, rfl⟩
        rw [← hx0, ← hx1, ← hx2, ← hxi, ← HX.out.2.2.2] at pfi
        obtain ⟨sl, hsl⟩ : ∃ sl, sl = (shipP l id line n).1 := ⟨_, rfl⟩
        obtain ⟨sg, hsg⟩ : ∃ sg, sg = (shipP l id line n).2.1 := ⟨_, rfl⟩
        obtain ⟨E, hE⟩ : ∃ E, E = (shipP l id line n).2.2 := ⟨_, rfl⟩
        rw [← hsl, ← hsg, ← hE, ← HX.out.2.2.2] at psh
        obtain ⟨cl, hcl⟩ : ∃ cl, cl = (closeP l id).1 := ⟨_, rfl⟩
        obtain ⟨cr, hcr⟩ : ∃ cr, cr = (closeP l id).2.1 := ⟨_, rfl⟩
        obtain ⟨F, hF⟩ : ∃ F, F = (closeP l id).2.2 := ⟨_, rfl⟩
        rw [← hcl, ← hcr, ← hF, ← HX.out.2.2.2] at pcl
        have PFI := Aside0.mk pfi
        have PSH := Aside0.mk psh
        have PCL := Aside0.mk pcl
        have HV := Aside0.mk (And.intro hx0 (And.intro hx1 (And.intro hx2 (And.intro hxi (And.intro hsl (And.intro hE (And.intro hcl hF)))))))
        clear pfi psh pcl hlim hx0 hx1 hx2 hxi hsl hsg hE hcl hcr hF hM hn13
        have H20 := Aside0.mk (show x2.length ≤ 20 by rw [HV.out.2.2.1]; exact find_len other)
        by_cases e0 : E = 0
        · have e1 : (E == 0) = true := by simpa using e0
          have hso := ship_ok (l := l) (id := id) (line := line) (n := n) (by rw [← HV.out.2.2.2.2.2.1]; exact e0)
          rw [← HV.out.2.2.2.2.1] at hso
          have hfs : findP sl other = findP l other := find_same hso.1 hso.2.1 (fun x hx => hso.2.2.2 x (by rw [hx]; exact hoi))
          have hsl8 := hso.2.1.2.2
          have pfs := fun (W : World) (A : Option Addr) (c : Nat) (hC : Kd.C k25 W A sl.length sl) (hc : sl.length ≤ c) => book_Find.calls (sl.length + 100) A c sl other (findP sl other).1 (findP sl other).2.1 (findP sl other).2.2.1 (findP sl other).2.2.2 W hC hc (find_f other (by omega) (by omega))
          rw [hfs, ← HV.out.1, ← HV.out.2.1, ← HV.out.2.2.1, ← HV.out.2.2.2.1] at pfs
          have PFS := Aside0.mk pfs
          clear hso hfs hsl8 pfs
          by_cases f0 : F = 0
          · have f1 : (F == 0) = true := by simpa using f0
            have f2 : (F != 0) = false := by simpa using f0
            have hco := close_ok (l := l) (id := id) (by rw [← HV.out.2.2.2.2.2.2.2]; exact f0)
            rw [← HV.out.2.2.2.2.2.2.1] at hco
            have hfc : findP cl other = findP l other := find_same hco.1 hco.2.1 (fun x hx => by rw [hco.2.2.2]; exact ⟨fun h => h.1, fun h => ⟨h, by rw [hx]; exact hoi⟩⟩)
            have hfd : findP cl id = (0, 0, [], false) := find_none (fun x hx => ((hco.2.2.2 x).1 hx).2)
            have hcl8 := hco.2.1.2.2
            have pfc := fun (W : World) (A : Option Addr) (c : Nat) (hC : Kd.C k25 W A cl.length cl) (hc : cl.length ≤ c) => book_Find.calls (cl.length + 100) A c cl other (findP cl other).1 (findP cl other).2.1 (findP cl other).2.2.1 (findP cl other).2.2.2 W hC hc (find_f other (by omega) (by omega))
            have pfd := fun (W : World) (A : Option Addr) (c : Nat) (hC : Kd.C k25 W A cl.length cl) (hc : cl.length ≤ c) => book_Find.calls (cl.length + 100) A c cl id 0 0 [] false W hC hc (by rw [find_f id (by omega) (by omega), hfd])
            rw [hfc, ← HV.out.1, ← HV.out.2.1, ← HV.out.2.2.1, ← HV.out.2.2.2.1] at pfc
            have PFC := Aside0.mk pfc
            have PFD := Aside0.mk pfd
            clear hco hfc hfd hcl8 pfc pfd
            go_enter Try.func7, Try.ntmps7
            go_wp2_with (first | (go_at_call 14; (with_reducible refine (same_oneX (x0 := x0) (x1 := x1) (x2 := x2) (A := A4) (B := A10) (cA := c4) (cB := cA10) H20.out ?g1 ?g2 ?rA ?cA ?rB ?cB).mono ?_); (case g1 => exact new2 _ _ _ _); (case g2 => exact new3 _ _ _ _); (case rA => exact C_three (Kd.C_alloc (Kd.R_reads' HR4.out).2.2 _) K10.out); (case cA => exact (Kd.R_reads' HR4.out).2.1); (case rB => exact C_three (Kd.C_alloc (Kd.R_reads' HR9.out).2.2 _) J10.out); (case cB => exact (Kd.R_reads' HR9.out).2.1); rintro e w11 ⟨rfl, hb⟩; have HB11 := Aside0.mk (below3 HB10.out hb); clear hb) | (go_at_call 23; with_reducible refine (PFD.out _ A6 c6 (Kd.C_below (Kd.S_reads' HS6.out).2.2 (L9.out.alloc L9.out.size _)) (Kd.S_reads' HS6.out).2.1).mono ?_; rintro e w10 ⟨v10_, rfl, hR, hb⟩; obtain ⟨A11, cA11, rfl⟩ := Kd.R_slice hR; have HB10 := Aside0.mk (below_then (HB9.out.alloc HB9.out.size _) (HB9.out.alloc HB9.out.size _).size hb); have K10 := Aside0.mk (below_then (K9.out.alloc K9.out.size _) (K9.out.alloc K9.out.size _).size hb); have J10 := Aside0.mk hb; obtain ⟨p0, p1, p2⟩ := var_cells (var_at (K10.out.alloc K10.out.size (.cells #[.int .i64 0, .int .i64 0, .slice A11 0 cA11] 25))); obtain ⟨q0, q1, q2⟩ := var_cells (var_at ((J10.out.alloc J10.out.size (.cells #[.int .i64 0, .int .i64 0, .slice A11 0 cA11] 25)).alloc (J10.out.alloc J10.out.size (.cells #[.int .i64 0, .int .i64 0, .slice A11 0 cA11] 25)).size (.cells #[.int .i64 x0, .int .i64 x1, .slice A4 x2.length c4] 25))); clear hb hR) | (go_at_call 23; with_reducible refine (PFC.out _ A6 c6 (Kd.C_below (Kd.S_reads' HS6.out).2.2 L8.out) (Kd.S_reads' HS6.out).2.1).mono ?_; rintro e w9 ⟨v9_, rfl, hR, hb⟩; obtain ⟨A10, cA10, rfl⟩ := Kd.R_slice hR; have HB9 := Aside0.mk (below_then HB8.out HB8.out.size hb); have HR9 := Aside0.mk hR; have K9 := Aside0.mk (below_then K8.out K8.out.size hb); have L9 := Aside0.mk (below_then L8.out L8.out.size hb); clear hb hR) | (go_at_call 14; (with_reducible refine (same_oneX (x0 := x0) (x1 := x1) (x2 := x2) (A := A4) (B := A8) (cA := c4) (cB := cA8) H20.out ?g1 ?g2 ?rA ?cA ?rB ?cB).mono ?_); (case g1 => exact new2 _ _ _ _); (case g2 => exact new3 _ _ _ _); (case rA => exact C_three (Kd.C_alloc (Kd.R_reads' HR4.out).2.2 _) K7.out); (case cA => exact (Kd.R_reads' HR4.out).2.1); (case rB => exact C_three (Kd.R_reads' HR7.out).2.2 (Below.refl _ _)); (case cB => exact (Kd.R_reads' HR7.out).2.1); rintro e w8 ⟨rfl, hb⟩; have HB8 := Aside0.mk (below3 HB7.out hb); have K8 := Aside0.mk (below3 K7.out hb); have L8 := Aside0.mk (below3 L7.out hb); clear p0 p1 p2 q0 q1 q2; clear hb) | (go_at_call 23; with_reducible refine (PFS.out _ A5 c5 (Kd.C_below (Kd.C_alloc (Kd.S_reads' HS5.out).2.2 _) J6.out) (Kd.S_reads' HS5.out).2.1).mono ?_; rintro e w7 ⟨v7_, rfl, hR, hb⟩; obtain ⟨A8, cA8, rfl⟩ := Kd.R_slice hR; have HB7 := Aside0.mk (below_then HB6.out HB6.out.size hb); have HR7 := Aside0.mk hR; have K7 := Aside0.mk (below_then K6.out K6.out.size hb); have L7 := Aside0.mk hb; obtain ⟨p0, p1, p2⟩ := var_cells (var_at (K7.out.alloc K7.out.size (.cells #[.int .i64 x0, .int .i64 x1, .slice A8 x2.length cA8] 25))); obtain ⟨q0, q1, q2⟩ := var_cells (var_at ((Below.refl (w7.alloc (.cells #[.int .i64 x0, .int .i64 x1, .slice A8 x2.length cA8] 25)).heap.size (w7.alloc (.cells #[.int .i64 x0, .int .i64 x1, .slice A8 x2.length cA8] 25))).alloc (Nat.le_refl _) (.cells #[.int .i64 x0, .int .i64 x1, .slice A4 x2.length c4] 25))); clear hb hR) | (go_at_call 8; refine (awake_any _).mono ?_; rintro e w1 ⟨rfl, hb⟩; have HB := Aside0.mk hb; clear hb) | (go_at_call 9; refine (PF.out _ HB.out).mono ?_; rintro e w2 ⟨rfl, hb⟩; have HB2 := Aside0.mk (below_then HB.out HB.out.size hb.below); clear hb) | (go_at_call 10; refine (PM2.out _ HB2.out).mono ?_; rintro e w3 ⟨rfl, hb⟩; have HB3 := Aside0.mk (below_then HB2.out HB2.out.size hb); clear hb) | (go_at_call 23; with_reducible refine (PFI.out _ HB3.out).mono ?_; rintro e w4 ⟨v4, rfl, hR, hb⟩; obtain ⟨A4, c4, rfl⟩ := Kd.R_slice hR; have HB4 := Aside0.mk (below_then HB3.out HB3.out.size hb); have HR4 := Aside0.mk hR; clear hb hR) | (go_at_call 12; with_reducible refine (PSH.out _ (HB4.out.alloc HB4.out.size _)).mono ?_; rintro e w5 ⟨v5, rfl, hS, hb⟩; obtain ⟨A5, c5, rfl⟩ := Kd.S_slice hS; have HB5 := Aside0.mk (below_then (HB4.out.alloc HB4.out.size _) (HB4.out.alloc HB4.out.size _).size hb); have HS5 := Aside0.mk hS; have K5 := Aside0.mk hb; clear hb hS) | (go_at_call 13; with_reducible refine (PCL.out _ (HB5.out.alloc HB5.out.size _)).mono ?_; rintro e w6 ⟨v6, v7, rfl, hS, hR, hb⟩; obtain ⟨A6, c6, rfl⟩ := Kd.S_slice hS; obtain ⟨A7, c7, rfl⟩ := Kd.R_slice hR; have HB6 := Aside0.mk (below_then (HB5.out.alloc HB5.out.size _) (HB5.out.alloc HB5.out.size _).size hb); have HS6 := Aside0.mk hS; have K6 := Aside0.mk (below_then (K5.out.alloc K5.out.size _) (K5.out.alloc K5.out.size _).size hb); have J6 := Aside0.mk hb; clear hb hS hR))
            go_ret
            exact ⟨rfl, HB11.out⟩
          · have f1 : (F == 0) = false := by simpa using f0
            have f2 : (F != 0) = true := by simpa using f0
            go_enter Try.func7, Try.ntmps7
            go_wp2_with (first | (go_at_call 14; (with_reducible refine (same_oneX (x0 := x0) (x1 := x1) (x2 := x2) (A := A4) (B := A8) (cA := c4) (cB := cA8) H20.out ?g1 ?g2 ?rA ?cA ?rB ?cB).mono ?_); (case g1 => exact new2 _ _ _ _); (case g2 => exact new3 _ _ _ _); (case rA => exact C_three (Kd.C_alloc (Kd.R_reads' HR4.out).2.2 _) K7.out); (case cA => exact (Kd.R_reads' HR4.out).2.1); (case rB => exact C_three (Kd.R_reads' HR7.out).2.2 (Below.refl _ _)); (case cB => exact (Kd.R_reads' HR7.out).2.1); rintro e w8 ⟨rfl, hb⟩; have HB8 := Aside0.mk (below3 HB7.out hb); have K8 := Aside0.mk (below3 K7.out hb); have L8 := Aside0.mk (below3 L7.out hb); clear p0 p1 p2 q0 q1 q2; clear hb) | (go_at_call 23; with_reducible refine (PFS.out _ A5 c5 (Kd.C_below (Kd.C_alloc (Kd.S_reads' HS5.out).2.2 _) J6.out) (Kd.S_reads' HS5.out).2.1).mono ?_; rintro e w7 ⟨v7_, rfl, hR, hb⟩; obtain ⟨A8, cA8, rfl⟩ := Kd.R_slice hR; have HB7 := Aside0.mk (below_then HB6.out HB6.out.size hb); have HR7 := Aside0.mk hR; have K7 := Aside0.mk (below_then K6.out K6.out.size hb); have L7 := Aside0.mk hb; obtain ⟨p0, p1, p2⟩ := var_cells (var_at (K7.out.alloc K7.out.size (.cells #[.int .i64 x0, .int .i64 x1, .slice A8 x2.length cA8] 25))); obtain ⟨q0, q1, q2⟩ := var_cells (var_at ((Below.refl (w7.alloc (.cells #[.int .i64 x0, .int .i64 x1, .slice A8 x2.length cA8] 25)).heap.size (w7.alloc (.cells #[.int .i64 x0, .int .i64 x1, .slice A8 x2.length cA8] 25))).alloc (Nat.le_refl _) (.cells #[.int .i64 x0, .int .i64 x1, .slice A4 x2.length c4] 25))); clear hb hR) | (go_at_call 8; refine (awake_any _).mono ?_; rintro e w1 ⟨rfl, hb⟩; have HB := Aside0.mk hb; clear hb) | (go_at_call 9; refine (PF.out _ HB.out).mono ?_; rintro e w2 ⟨rfl, hb⟩; have HB2 := Aside0.mk (below_then HB.out HB.out.size hb.below); clear hb) | (go_at_call 10; refine (PM2.out _ HB2.out).mono ?_; rintro e w3 ⟨rfl, hb⟩; have HB3 := Aside0.mk (below_then HB2.out HB2.out.size hb); clear hb) | (go_at_call 23; with_reducible refine (PFI.out _ HB3.out).mono ?_; rintro e w4 ⟨v4, rfl, hR, hb⟩; obtain ⟨A4, c4, rfl⟩ := Kd.R_slice hR; have HB4 := Aside0.mk (below_then HB3.out HB3.out.size hb); have HR4 := Aside0.mk hR; clear hb hR) | (go_at_call 12; with_reducible refine (PSH.out _ (HB4.out.alloc HB4.out.size _)).mono ?_; rintro e w5 ⟨v5, rfl, hS, hb⟩; obtain ⟨A5, c5, rfl⟩ := Kd.S_slice hS; have HB5 := Aside0.mk (below_then (HB4.out.alloc HB4.out.size _) (HB4.out.alloc HB4.out.size _).size hb); have HS5 := Aside0.mk hS; have K5 := Aside0.mk hb; clear hb hS) | (go_at_call 13; with_reducible refine (PCL.out _ (HB5.out.alloc HB5.out.size _)).mono ?_; rintro e w6 ⟨v6, v7, rfl, hS, hR, hb⟩; obtain ⟨A6, c6, rfl⟩ := Kd.S_slice hS; obtain ⟨A7, c7, rfl⟩ := Kd.R_slice hR; have HB6 := Aside0.mk (below_then (HB5.out.alloc HB5.out.size _) (HB5.out.alloc HB5.out.size _).size hb); have HS6 := Aside0.mk hS; have K6 := Aside0.mk (below_then (K5.out.alloc K5.out.size _) (K5.out.alloc K5.out.size _).size hb); have J6 := Aside0.mk hb; clear hb hS hR))
            go_ret
            exact ⟨rfl, HB8.out⟩
        · have e1 : (E == 0) = false := by simpa using e0
          by_cases f0 : F = 0
          · have f1 : (F == 0) = true := by simpa using f0
            have f2 : (F != 0) = false := by simpa using f0
            have hco := close_ok (l := l) (id := id) (by rw [← HV.out.2.2.2.2.2.2.2]; exact f0)
            rw [← HV.out.2.2.2.2.2.2.1] at hco
            have hfc : findP cl other = findP l other := find_same hco.1 hco.2.1 (fun x hx => by rw [hco.2.2.2]; exact ⟨fun h => h.1, fun h => ⟨h, by rw [hx]; exact hoi⟩⟩)
            have hfd : findP cl id = (0, 0, [], false) := find_none (fun x hx => ((hco.2.2.2 x).1 hx).2)
            have hcl8 := hco.2.1.2.2
            have pfc := fun (W : World) (A : Option Addr) (c : Nat) (hC : Kd.C k25 W A cl.length cl) (hc : cl.length ≤ c) => book_Find.calls (cl.length + 100) A c cl other (findP cl other).1 (findP cl other).2.1 (findP cl other).2.2.1 (findP cl other).2.2.2 W hC hc (find_f other (by omega) (by omega))
            have pfd := fun (W : World) (A : Option Addr) (c : Nat) (hC : Kd.C k25 W A cl.length cl) (hc : cl.length ≤ c) => book_Find.calls (cl.length + 100) A c cl id 0 0 [] false W hC hc (by rw [find_f id (by omega) (by omega), hfd])
            rw [hfc, ← HV.out.1, ← HV.out.2.1, ← HV.out.2.2.1, ← HV.out.2.2.2.1] at pfc
            have PFC := Aside0.mk pfc
            have PFD := Aside0.mk pfd
            clear hco hfc hfd hcl8 pfc pfd
            go_enter Try.func7, Try.ntmps7
            go_wp2_with (first | (go_at_call 14; (with_reducible refine (same_oneX (x0 := x0) (x1 := x1) (x2 := x2) (A := A4) (B := A8) (cA := c4) (cB := cA8) H20.out ?g1 ?g2 ?rA ?cA ?rB ?cB).mono ?_); (case g1 => exact new2 _ _ _ _); (case g2 => exact new3 _ _ _ _); (case rA => exact C_three (Kd.C_alloc (Kd.R_reads' HR4.out).2.2 _) K8.out); (case cA => exact (Kd.R_reads' HR4.out).2.1); (case rB => exact C_three (Kd.C_alloc (Kd.R_reads' HR7.out).2.2 _) J8.out); (case cB => exact (Kd.R_reads' HR7.out).2.1); rintro e w9 ⟨rfl, hb⟩; have HB9 := Aside0.mk (below3 HB8.out hb); clear hb) | (go_at_call 23; with_reducible refine (PFD.out _ A6 c6 (Kd.C_below (Kd.S_reads' HS6.out).2.2 (J7.out.alloc J7.out.size _)) (Kd.S_reads' HS6.out).2.1).mono ?_; rintro e w8 ⟨v8_, rfl, hR, hb⟩; obtain ⟨A9, cA9, rfl⟩ := Kd.R_slice hR; have HB8 := Aside0.mk (below_then (HB7.out.alloc HB7.out.size _) (HB7.out.alloc HB7.out.size _).size hb); have K8 := Aside0.mk (below_then (K7.out.alloc K7.out.size _) (K7.out.alloc K7.out.size _).size hb); have J8 := Aside0.mk hb; obtain ⟨p0, p1, p2⟩ := var_cells (var_at (K8.out.alloc K8.out.size (.cells #[.int .i64 0, .int .i64 0, .slice A9 0 cA9] 25))); obtain ⟨q0, q1, q2⟩ := var_cells (var_at ((J8.out.alloc J8.out.size (.cells #[.int .i64 0, .int .i64 0, .slice A9 0 cA9] 25)).alloc (J8.out.alloc J8.out.size (.cells #[.int .i64 0, .int .i64 0, .slice A9 0 cA9] 25)).size (.cells #[.int .i64 x0, .int .i64 x1, .slice A4 x2.length c4] 25))); clear hb hR) | (go_at_call 23; with_reducible refine (PFC.out _ A6 c6 (Kd.S_reads' HS6.out).2.2 (Kd.S_reads' HS6.out).2.1).mono ?_; rintro e w7 ⟨v7_, rfl, hR, hb⟩; obtain ⟨A8, cA8, rfl⟩ := Kd.R_slice hR; have HB7 := Aside0.mk (below_then HB6.out HB6.out.size hb); have HR7 := Aside0.mk hR; have K7 := Aside0.mk (below_then K6.out K6.out.size hb); have J7 := Aside0.mk hb; clear hb hR) | (go_at_call 8; refine (awake_any _).mono ?_; rintro e w1 ⟨rfl, hb⟩; have HB := Aside0.mk hb; clear hb) | (go_at_call 9; refine (PF.out _ HB.out).mono ?_; rintro e w2 ⟨rfl, hb⟩; have HB2 := Aside0.mk (below_then HB.out HB.out.size hb.below); clear hb) | (go_at_call 10; refine (PM2.out _ HB2.out).mono ?_; rintro e w3 ⟨rfl, hb⟩; have HB3 := Aside0.mk (below_then HB2.out HB2.out.size hb); clear hb) | (go_at_call 23; with_reducible refine (PFI.out _ HB3.out).mono ?_; rintro e w4 ⟨v4, rfl, hR, hb⟩; obtain ⟨A4, c4, rfl⟩ := Kd.R_slice hR; have HB4 := Aside0.mk (below_then HB3.out HB3.out.size hb); have HR4 := Aside0.mk hR; clear hb hR) | (go_at_call 12; with_reducible refine (PSH.out _ (HB4.out.alloc HB4.out.size _)).mono ?_; rintro e w5 ⟨v5, rfl, hS, hb⟩; obtain ⟨A5, c5, rfl⟩ := Kd.S_slice hS; have HB5 := Aside0.mk (below_then (HB4.out.alloc HB4.out.size _) (HB4.out.alloc HB4.out.size _).size hb); have HS5 := Aside0.mk hS; have K5 := Aside0.mk hb; clear hb hS) | (go_at_call 13; with_reducible refine (PCL.out _ (HB5.out.alloc HB5.out.size _)).mono ?_; rintro e w6 ⟨v6, v7, rfl, hS, hR, hb⟩; obtain ⟨A6, c6, rfl⟩ := Kd.S_slice hS; obtain ⟨A7, c7, rfl⟩ := Kd.R_slice hR; have HB6 := Aside0.mk (below_then (HB5.out.alloc HB5.out.size _) (HB5.out.alloc HB5.out.size _).size hb); have HS6 := Aside0.mk hS; have K6 := Aside0.mk (below_then (K5.out.alloc K5.out.size _) (K5.out.alloc K5.out.size _).size hb); have J6 := Aside0.mk hb; clear hb hS hR))
            go_ret
            exact ⟨rfl, HB9.out⟩
          · have f1 : (F == 0) = false := by simpa using f0
            have f2 : (F != 0) = true := by simpa using f0
            go_enter Try.func7, Try.ntmps7
            go_wp2_with (first | (go_at_call 8; refine (awake_any _).mono ?_; rintro e w1 ⟨rfl, hb⟩; have HB := Aside0.mk hb; clear hb) | (go_at_call 9; refine (PF.out _ HB.out).mono ?_; rintro e w2 ⟨rfl, hb⟩; have HB2 := Aside0.mk (below_then HB.out HB.out.size hb.below); clear hb) | (go_at_call 10; refine (PM2.out _ HB2.out).mono ?_; rintro e w3 ⟨rfl, hb⟩; have HB3 := Aside0.mk (below_then HB2.out HB2.out.size hb); clear hb) | (go_at_call 23; with_reducible refine (PFI.out _ HB3.out).mono ?_; rintro e w4 ⟨v4, rfl, hR, hb⟩; obtain ⟨A4, c4, rfl⟩ := Kd.R_slice hR; have HB4 := Aside0.mk (below_then HB3.out HB3.out.size hb); have HR4 := Aside0.mk hR; clear hb hR) | (go_at_call 12; with_reducible refine (PSH.out _ (HB4.out.alloc HB4.out.size _)).mono ?_; rintro e w5 ⟨v5, rfl, hS, hb⟩; obtain ⟨A5, c5, rfl⟩ := Kd.S_slice hS; have HB5 := Aside0.mk (below_then (HB4.out.alloc HB4.out.size _) (HB4.out.alloc HB4.out.size _).size hb); have HS5 := Aside0.mk hS; have K5 := Aside0.mk hb; clear hb hS) | (go_at_call 13; with_reducible refine (PCL.out _ (HB5.out.alloc HB5.out.size _)).mono ?_; rintro e w6 ⟨v6, v7, rfl, hS, hR, hb⟩; obtain ⟨A6, c6, rfl⟩ := Kd.S_slice hS; obtain ⟨A7, c7, rfl⟩ := Kd.R_slice hR; have HB6 := Aside0.mk (below_then (HB5.out.alloc HB5.out.size _) (HB5.out.alloc HB5.out.size _).size hb); have HS6 := Aside0.mk hS; have K6 := Aside0.mk (below_then (K5.out.alloc K5.out.size _) (K5.out.alloc K5.out.size _).size hb); have J6 := Aside0.mk hb; clear hb hS hR))
            go_ret
            exact ⟨rfl, HB6.out⟩
end Go.Proofs.Ytjhdjkanepdgiaa.Ask
