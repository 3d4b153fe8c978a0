/- Texts of the seat, merged. -/
import Derived.Test.YtlcfpdmicpggbaaGreatDoorEF21
import Derived.Test.YtlcfpdmicpggbaaGreatDoorQ16
set_option linter.unusedVariables false
set_option linter.unusedSimpArgs false
set_option maxRecDepth 100000
set_option maxHeartbeats 16000000
namespace Go.Proofs.YtlcfpdmicpggbaaGreatDoor
open Go.RowKit Go.Proofs.Spl Go.Proofs.Scn Go.Shelf
def fewB (n d : Nat) : Bool := decide (n ≤ 2000) && decide (d ≤ 100)
theorem few_any (f : List Md) (p : Option Addr) (c : Nat) (W : World) (hR : MsR W (.slice p f.length c) f) (h2 : sumN sizeM f ≤ 1000000000) : RetB 13 #[.agg #[.slice p f.length c]] W (fewB (sumN sizeM f) (maxN deepM f)) := by
 have H1 := Lib.hid (fun (W9 : World) (h : Below W.heap.size W W9) => rSize_any f p c h2 W9 (MsR.later hR h))
 have H2 := Lib.hid (fun (W9 : World) (h : Below W.heap.size W W9) => rDeep_any f p c h2 W9 (MsR.later hR h))
 clear hR h2
 generalize sumN sizeM f = a at *
 generalize maxN deepM f = b at *
 by_cases h : a ≤ 2000
 ·have h' : (a : Int) ≤ 2000 := by omega
  go_enter Tryz.func13, Tryz.ntmps13
  go_wp2_with (first
   | (go_at_call 39; refine (H1.out _ ((Below.refl _ _).alloc (Nat.le_refl _) _)).mono ?_; rintro e W2 ⟨rfl, hb⟩; have k0 : W2.cell? ⟨W.heap.size, 0, none⟩ = some (.slice p f.length c) := (cell_of_row _ _ _ _ _ _ ((hb.block W.heap.size (by simp)).trans (World.alloc_heap_new W _))).trans rfl; have C2 := Lib.hid (((Below.refl _ _).alloc (Nat.le_refl _) _).trans (hb.mono (by simp))); clear hb H1)
   | (go_at_call 40; refine (H2.out _ C2.out).mono ?_; rintro e W3 ⟨rfl, hb⟩; have C3 := Lib.hid (C2.out.trans (hb.mono C2.out.size)); clear hb))
  go_ret
  exact ⟨ret_bool (by unfold fewB; rw [decide_eq_true h, Bool.true_and, Bool.eq_iff_iff]; simp; omega), C3.out⟩
 ·have h' : ¬ (a : Int) ≤ 2000 := by omega
  have hd : decide ((a : Int) ≤ 2000) = false := by simpa using h'
  go_enter Tryz.func13, Tryz.ntmps13
  go_wp2_with (go_at_call 39; refine (H1.out _ ((Below.refl _ _).alloc (Nat.le_refl _) _)).mono ?_; rintro e W2 ⟨rfl, hb⟩; have C2 := Lib.hid (((Below.refl _ _).alloc (Nat.le_refl _) _).trans (hb.mono (by simp))); clear hb H1)
  go_ret
  exact ⟨ret_bool (by unfold fewB; rw [decide_eq_false h]; rfl), C2.out⟩
theorem one_stmt (W : World) (s : S) (cs : List Value) (hR : SR W s cs) (h4 : cs.length = 4) : SsR (W.alloc (.cells cs.toArray 31)) (.slice (some ⟨W.heap.size, 0, none⟩) 1 1) [s] := by
 refine ⟨_, _, rfl, Nat.le_refl _, .inr ⟨W.heap.size, 0, rfl, by simp, fun k hk => ?_⟩⟩
 have : k = 0 := by simpa using hk
 subst this
 refine ⟨cs, SR.later ((Below.refl _ _).alloc (Nat.le_refl _) _) _ _ hR, fun j hj => ?_⟩
 rw [World.cell?_alloc_new W cs.toArray 31 (0 + 0 * 4 + j)]
 simp
theorem fewS_any (x : S) (cs : List Value) (W : World) (hR : SR W x cs) (h2 : sizeS x ≤ 1000000000) : RetB 15 #[.agg cs.toArray] W (fewB (sizeS x) (deepS x)) := by
 have e1 : sumN sizeS [x] = sizeS x := by simp [sumN]
 have e2 : maxN deepS [x] = deepS x := by simp [maxN]
 have hs := one_stmt
 have H1 := Lib.hid (fun (W9 : World) (p : Option Addr) (h : SsR W9 (.slice p 1 1) [x]) => szSs_ok [x] (by rw [e1]; exact h2) _ W9 h)
 have H2 := Lib.hid (fun (W9 : World) (p : Option Addr) (h : SsR W9 (.slice p 1 1) [x]) => dpSs_ok [x] (by rw [e1]; exact h2) _ W9 h)
 rw [e1] at H1
 rw [e2] at H2
 have hR2 := fun (W9 : World) (h : Below W.heap.size W W9) => SR.later h _ _ hR
 obtain ⟨xs, ls, rfl, hX, hL⟩ := SR_iff.1 hR
 obtain ⟨p, c, rfl, _⟩ := hL
 obtain ⟨p', c', rfl, _⟩ := hX
 have HS := Lib.hid (fun (W9 : World) (h : Below W.heap.size W W9) (hz : W9.heap.size = W.heap.size + 1) => (show SsR (W9.alloc (.cells #[.int .i64 x.op, .string (bs x.name), .slice p' x.x.length c', .slice p x.l.length c] 31)) (.slice (some ⟨W.heap.size + 1, 0, none⟩) 1 1) [x] by rw [← hz]; exact one_stmt W9 x _ (hR2 W9 h) rfl))
 clear hR h2 e1 e2 hs hR2
 generalize sizeS x = a at *
 generalize deepS x = b at *
 by_cases h : a ≤ 2000
 ·have h' : (a : Int) ≤ 2000 := by omega
  go_enter Tryz.func15, Tryz.ntmps15
  go_wp2_with (first
   | (go_at_call 43; refine (H1.out _ _ (HS.out _ ((Below.refl _ _).alloc (Nat.le_refl _) _) (by simp))).mono ?_; rintro e W2 ⟨rfl, hb⟩; have S2 : Hid (SsR W2 (.slice (some ⟨W.heap.size + 1, 0, none⟩) 1 1) [x]) := Lib.hid (by refine SsR.later ?_ hb; exact HS.out _ ((Below.refl _ _).alloc (Nat.le_refl _) _) (by simp)); have C2 := Lib.hid ((((Below.refl _ _).alloc (Nat.le_refl _) _).alloc (by simp) _).trans (hb.mono (by simp; omega))); clear hb H1)
   | (go_at_call 44; refine (H2.out _ _ S2.out).mono ?_; rintro e W3 ⟨rfl, hb⟩; have C3 := Lib.hid (C2.out.trans (hb.mono C2.out.size)); clear hb))
  go_ret
  exact ⟨ret_bool (by unfold fewB; rw [decide_eq_true h, Bool.true_and, Bool.eq_iff_iff]; simp; omega), C3.out⟩
 ·have h' : ¬ (a : Int) ≤ 2000 := by omega
  have hd : decide ((a : Int) ≤ 2000) = false := by simpa using h'
  go_enter Tryz.func15, Tryz.ntmps15
  go_wp2_with (go_at_call 43; refine (H1.out _ _ (HS.out _ ((Below.refl _ _).alloc (Nat.le_refl _) _) (by simp))).mono ?_; rintro e W2 ⟨rfl, hb⟩; have C2 := Lib.hid ((((Below.refl _ _).alloc (Nat.le_refl _) _).alloc (by simp) _).trans (hb.mono (by simp; omega))); clear hb H1)
  go_ret
  exact ⟨ret_bool (by unfold fewB; rw [decide_eq_false h]; rfl), C2.out⟩
end Go.Proofs.YtlcfpdmicpggbaaGreatDoor
