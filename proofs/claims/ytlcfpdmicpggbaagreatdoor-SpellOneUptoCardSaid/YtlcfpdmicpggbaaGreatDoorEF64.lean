/- Texts of the seat, merged. -/
import Derived.Test.YtlcfpdmicpggbaaGreatDoorB15
import Derived.Test.YtlcfpdmicpggbaaGreatDoorEF61
set_option linter.unusedVariables false
set_option linter.unusedSimpArgs false
set_option maxRecDepth 100000
set_option maxHeartbeats 16000000
namespace Go.Proofs.YtlcfpdmicpggbaaGreatDoor
open Go.RowKit Go.Proofs.Spl Go.Proofs.Scn Go.Shelf
noncomputable def eqb {α : Type} (a b : α) : Bool := @decide (a = b) (Classical.propDecidable _)
theorem eqb_yes {α : Type} {a b : α} (h : a = b) : eqb a b = true := by unfold eqb; exact @decide_eq_true _ (Classical.propDecidable _) h
theorem eqb_no {α : Type} {a b : α} (h : a ≠ b) : eqb a b = false := by unfold eqb; exact @decide_eq_false _ (Classical.propDecidable _) h
theorem eqb_true {α : Type} {a b : α} (h : eqb a b = true) : a = b := by unfold eqb at h; exact @of_decide_eq_true _ (Classical.propDecidable _) h
theorem eqb_false {α : Type} {a b : α} (h : eqb a b = false) : a ≠ b := by unfold eqb at h; exact @of_decide_eq_false _ (Classical.propDecidable _) h
theorem str_eqb (a b : Ln) : ((bs a).toList == (bs b).toList) = eqb a b := by
 rw [toList_eq, toList_eq, list_bs, list_bs]
 by_cases h : a = b
 ·rw [eqb_yes h]; simp [h]
 ·rw [eqb_no h]; simpa using h
theorem int_eqb (a b : Int) : (a == b) = eqb a b := by
 by_cases h : a = b
 ·rw [eqb_yes h]; simp [h]
 ·rw [eqb_no h]; simpa using h
theorem nat_eqb (a b : Nat) : ((a : Int) == (b : Int)) = eqb a b := by
 by_cases h : a = b
 ·rw [eqb_yes h]; simp [h]
 ·rw [eqb_no h]
  have : ¬ (a : Int) = (b : Int) := by omega
  simpa using this
theorem bool_eqb (a b : Bool) : (a == b) = eqb a b := by
 by_cases h : a = b
 ·rw [eqb_yes h]; simp [h]
 ·rw [eqb_no h]; simpa using h
theorem two_rows (W : World) (a b : Array Value) (T U : TypeId) : ((W.alloc (.cells a T)).alloc (.cells b U)).heap[W.heap.size]? = some (.cells a T (0, 0)) ∧ ((W.alloc (.cells a T)).alloc (.cells b U)).heap[W.heap.size + 1]? = some (.cells b U (0, 0)) := by
 refine ⟨(Below.heap_alloc _ _ _ (by simp)).trans (World.alloc_heap_new W _), ?_⟩
 have := World.alloc_heap_new (W.alloc (.cells a T)) (.cells b U)
 rw [World.size_alloc] at this
 exact this
theorem row_cells {W w' : World} {b : Nat} {a : Array Value} {T : TypeId} (h : W.heap[b]? = some (.cells a T (0, 0))) (hb : Below W.heap.size W w') (j : Nat) (v : Value) (hj : a[j]? = some v) : w'.cell? ⟨b, j, none⟩ = some v :=
 (cell_of_row _ _ _ _ _ _ ((hb.block _ (Array.getElem?_eq_some_iff.1 h).1).trans h)).trans hj
theorem extX {x y : X} (f : x.op = y.op ∧ x.name = y.name ∧ x.n = y.n ∧ x.w = y.w ∧ x.v = y.v ∧ x.l = y.l) : x = y := by
 obtain ⟨_, _, _, _, _, _⟩ := x; obtain ⟨_, _, _, _, _, _⟩ := y
 simp only [X.op, X.name, X.n, X.w, X.v, X.l] at f
 obtain ⟨rfl, rfl, rfl, rfl, rfl, rfl⟩ := f
 rfl
def SameX (y : X) : Prop := ∀ (z : X) (W : World) (cs ds : List Value), XR W y cs → XR W z ds → Calls Tryz.prog 32 #[.agg cs.toArray, .agg ds.toArray] W fun e W' => e = .returned (.bool (eqb y z)) ∧ Below W.heap.size W W'
theorem equalX_any (v v' : Value) (l l' : List X) (hl : l.length ≤ 1000000000) (W : World) (hR : Els W 6 (XR W) v l) (hR' : Els W 6 (XR W) v' l') (hE : ∀ y ∈ l, SameX y) :
  Calls Tryz.prog 70 #[v, v', .func (.func 32) #[] #[]] W fun e W' => e = .returned (.bool (eqb l l')) ∧ Below W.heap.size W W' := by
 obtain ⟨p, cap, rfl, hcap, hcell⟩ := hR
 obtain ⟨p', cap', rfl, hcap', hcell'⟩ := hR'
 have HE := Lib.hid hE
 have HC := Lib.hid hcell
 have HC' := Lib.hid hcell'
 clear hE hcell hcell'
 by_cases hll : l.length = l'.length
 case neg =>
  have hi : ¬ (l.length : Int) = (l'.length : Int) := by omega
  have HN := Lib.hid (eqb_no (fun e : l = l' => hll (by rw [e])))
  go_enter Tryz.func70, Tryz.ntmps70
  go_wp2
  go_ret
  exact ⟨ret_bool HN.out.symm, Below.refl _ _⟩
 have HLL := Lib.hid hll
 have hi : (l.length : Int) = (l'.length : Int) := by omega
 clear hll
 go_enter Tryz.func70, Tryz.ntmps70
 go_wp2
 go_loopw [17] (fun i wr => ∃ k : Nat, i = .int .i64 k ∧ k ≤ l.length ∧ Hid (Below W.heap.size W wr) ∧ Hid (l.take k = l'.take k)) (fun i _ => l.length - (intOf i).toNat)
 case atStart => exact ⟨0, rfl, Nat.zero_le _, Lib.hid (Below.refl _ _), Lib.hid rfl⟩
 case round =>
  obtain ⟨k, rfl, hk, HW, HA⟩ := hrel
  by_cases hlt : k < l.length
  case neg =>
   have hge : ¬ ((k : Int) < (l.length : Int)) := by omega
   have HALL := Lib.hid (show eqb l l' = true from eqb_yes (by
    have := HA.out
    rwa [List.take_of_length_le (by omega), List.take_of_length_le (by have := HLL.out; omega)] at this))
   go_wp2
   go_ret
   exact ⟨ret_bool HALL.out.symm, HW.out⟩
  have hlt' : (k : Int) < (l.length : Int) := by omega
  have hly : k < l'.length := by have := HLL.out; omega
  rcases HC.out with hc | ⟨q, off, rfl, hq, hc⟩
  ·subst hc; simp at hlt
  rcases HC'.out with hc' | ⟨q', off', rfl, hq', hc'⟩
  ·subst hc'; simp at hly
  obtain ⟨cs, hR, hcs⟩ := hc k hlt
  obtain ⟨ds, hR', hds⟩ := hc' k hly
  have hB := HW.out
  have HEL := Lib.hid (HE.out _ (List.getElem_mem hlt))
  have hR0 := Lib.hid hR
  have hR0' := Lib.hid hR'
  clear hR hc hR' hc'
  obtain ⟨_, la, rfl, ha5⟩ := XR_iff.1 hR0.out
  have ga5 := ha5
  obtain ⟨pa5, ca5, rfl, _⟩ := ha5
  obtain ⟨_, lb, rfl, hb5⟩ := XR_iff.1 hR0'.out
  have gb5 := hb5
  obtain ⟨pb5, cb5, rfl, _⟩ := hb5
  have hRr := Lib.hid (XR.later hB _ _ hR0.out)
  have hRr' := Lib.hid (XR.later hB _ _ hR0'.out)
  have x0 := (hB.cell (p := ⟨q, off + k * 6 + 0, none⟩) hq).trans (hcs 0 (by omega))
  have x1 := (hB.cell (p := ⟨q, off + k * 6 + 1, none⟩) hq).trans (hcs 1 (by omega))
  have x2 := (hB.cell (p := ⟨q, off + k * 6 + 2, none⟩) hq).trans (hcs 2 (by omega))
  have x3 := (hB.cell (p := ⟨q, off + k * 6 + 3, none⟩) hq).trans (hcs 3 (by omega))
  have x4 := (hB.cell (p := ⟨q, off + k * 6 + 4, none⟩) hq).trans (hcs 4 (by omega))
  have x5 := (hB.cell (p := ⟨q, off + k * 6 + 5, none⟩) hq).trans (hcs 5 (by omega))
  have BA := (Below.refl wr.heap.size wr).alloc (Nat.le_refl _) (.cells #[.int .i64 l[k].op, .string (bs l[k].name), .int .i64 l[k].n, .int .i64 l[k].w, .int .u64 l[k].v, .slice pa5 l[k].l.length ca5] 28)
  have y0 := (BA.cell (p := ⟨q', off' + k * 6 + 0, none⟩) (Nat.lt_of_lt_of_le hq' hB.size)).trans ((hB.cell (p := ⟨q', off' + k * 6 + 0, none⟩) hq').trans (hds 0 (by omega)))
  have y1 := (BA.cell (p := ⟨q', off' + k * 6 + 1, none⟩) (Nat.lt_of_lt_of_le hq' hB.size)).trans ((hB.cell (p := ⟨q', off' + k * 6 + 1, none⟩) hq').trans (hds 1 (by omega)))
  have y2 := (BA.cell (p := ⟨q', off' + k * 6 + 2, none⟩) (Nat.lt_of_lt_of_le hq' hB.size)).trans ((hB.cell (p := ⟨q', off' + k * 6 + 2, none⟩) hq').trans (hds 2 (by omega)))
  have y3 := (BA.cell (p := ⟨q', off' + k * 6 + 3, none⟩) (Nat.lt_of_lt_of_le hq' hB.size)).trans ((hB.cell (p := ⟨q', off' + k * 6 + 3, none⟩) hq').trans (hds 3 (by omega)))
  have y4 := (BA.cell (p := ⟨q', off' + k * 6 + 4, none⟩) (Nat.lt_of_lt_of_le hq' hB.size)).trans ((hB.cell (p := ⟨q', off' + k * 6 + 4, none⟩) hq').trans (hds 4 (by omega)))
  have y5 := (BA.cell (p := ⟨q', off' + k * 6 + 5, none⟩) (Nat.lt_of_lt_of_le hq' hB.size)).trans ((hB.cell (p := ⟨q', off' + k * 6 + 5, none⟩) hq').trans (hds 5 (by omega)))
  simp only [Nat.add_zero, List.getElem?_cons_zero, List.getElem?_cons_succ] at x0 y0 x1 y1 x2 y2 x3 y3 x4 y4 x5 y5
  obtain ⟨ra, rb⟩ := two_rows wr #[.int .i64 l[k].op, .string (bs l[k].name), .int .i64 l[k].n, .int .i64 l[k].w, .int .u64 l[k].v, .slice pa5 l[k].l.length ca5] #[.int .i64 l'[k].op, .string (bs l'[k].name), .int .i64 l'[k].n, .int .i64 l'[k].w, .int .u64 l'[k].v, .slice pb5 l'[k].l.length cb5] 28 28
  have xa0 := row_cells ra (Below.refl _ _) 0 (.int .i64 l[k].op) rfl
  have yb0 := row_cells rb (Below.refl _ _) 0 (.int .i64 l'[k].op) rfl
  have xa1 := row_cells ra (Below.refl _ _) 1 (.string (bs l[k].name)) rfl
  have yb1 := row_cells rb (Below.refl _ _) 1 (.string (bs l'[k].name)) rfl
  have xa2 := row_cells ra (Below.refl _ _) 2 (.int .i64 l[k].n) rfl
  have yb2 := row_cells rb (Below.refl _ _) 2 (.int .i64 l'[k].n) rfl
  have xa3 := row_cells ra (Below.refl _ _) 3 (.int .i64 l[k].w) rfl
  have yb3 := row_cells rb (Below.refl _ _) 3 (.int .i64 l'[k].w) rfl
  have xa4 := row_cells ra (Below.refl _ _) 4 (.int .u64 l[k].v) rfl
  have yb4 := row_cells rb (Below.refl _ _) 4 (.int .u64 l'[k].v) rfl
  have xa5 := row_cells ra (Below.refl _ _) 5 (.slice pa5 l[k].l.length ca5) rfl
  have yb5 := row_cells rb (Below.refl _ _) 5 (.slice pb5 l'[k].l.length cb5) rfl
  have BB := Lib.hid (BA.alloc (by simp) (.cells #[.int .i64 l'[k].op, .string (bs l'[k].name), .int .i64 l'[k].n, .int .i64 l'[k].w, .int .u64 l'[k].v, .slice pb5 l'[k].l.length cb5] 28))
  have HNX := Lib.hid (fun (h : eqb l[k] l'[k] = true) => show l.take (k + 1) = l'.take (k + 1) by
   rw [List.take_succ_eq_append_getElem hlt, List.take_succ_eq_append_getElem hly, HA.out, eqb_true h])
  have HNO := Lib.hid (fun (h : eqb l[k] l'[k] = false) => show eqb l l' = false from eqb_no (fun e => by
   subst e
   exact eqb_false h rfl))
  clear ra rb hcs hds BA
  generalize l[k] = x at *
  generalize l'[k] = y at *
  cases hok : eqb x y with
  | true =>
   have HOK := Lib.hid (HNX.out hok)
   have HY := Lib.hid hok
   clear hok
   go_wp2_with (go_at_call 32; refine (HEL.out y _ [.int .i64 x.op, .string (bs x.name), .int .i64 x.n, .int .i64 x.w, .int .u64 x.v, .slice pa5 x.l.length ca5] [.int .i64 y.op, .string (bs y.name), .int .i64 y.n, .int .i64 y.w, .int .u64 y.v, .slice pb5 y.l.length cb5] (XR.later BB.out _ _ hRr.out) (XR.later BB.out _ _ hRr'.out)).mono ?_; rintro e W5 ⟨rfl, h2⟩; have H2 := Lib.hid h2; clear h2; rw [HY.out])
   go_roundw
   case rel => exact ⟨k + 1, by go_num, hlt, Lib.hid (HW.out.trans ((BB.out.trans (H2.out.mono BB.out.size)).mono HW.out.size)), HOK⟩
   case measure => simp [intOf]; omega
  | false =>
   have HOK := Lib.hid (HNO.out hok)
   have HY := Lib.hid hok
   clear hok
   go_wp2_with (go_at_call 32; refine (HEL.out y _ [.int .i64 x.op, .string (bs x.name), .int .i64 x.n, .int .i64 x.w, .int .u64 x.v, .slice pa5 x.l.length ca5] [.int .i64 y.op, .string (bs y.name), .int .i64 y.n, .int .i64 y.w, .int .u64 y.v, .slice pb5 y.l.length cb5] (XR.later BB.out _ _ hRr.out) (XR.later BB.out _ _ hRr'.out)).mono ?_; rintro e W5 ⟨rfl, h2⟩; have H2 := Lib.hid h2; clear h2; rw [HY.out])
   go_ret
   exact ⟨ret_bool HOK.out.symm, HW.out.trans ((BB.out.trans (H2.out.mono BB.out.size)).mono HW.out.size)⟩
theorem sameX_any : ∀ x : X, sizeX x ≤ 1000000000 → SameX x := by
 refine X.ind ?_
 intro x ih hsz y W cs ds hx hy
 rw [sizeX_eq, sizeXs_sum] at hsz
 obtain ⟨_, la, rfl, ha5⟩ := XR_iff.1 hx
 have ga5 := ha5
 obtain ⟨pa5, ca5, rfl, _⟩ := ha5
 obtain ⟨_, lb, rfl, hb5⟩ := XR_iff.1 hy
 have gb5 := hb5
 obtain ⟨pb5, cb5, rfl, _⟩ := hb5
 have Hl := Lib.hid (fun (W9 : World) (h : Below W.heap.size W W9) => equalX_any _ _ x.l y.l (by have := sumN_len sizeX one_sizeX x.l; omega) W9 (Els.later ga5 h (fun z _ => XR.later h z)) (Els.later gb5 h (fun z _ => XR.later h z)) (fun z hz => ih z hz (by have := sumN_mem sizeX hz; omega)))
 obtain ⟨R, hR⟩ : ∃ R, R = eqb x y := ⟨_, rfl⟩
 have hcase : ((x.op == y.op) = false ∧ R = false) ∨ ((x.op == y.op) = true ∧ ((bs x.name).toList == (bs y.name).toList) = false ∧ R = false) ∨ ((x.op == y.op) = true ∧ ((bs x.name).toList == (bs y.name).toList) = true ∧ (x.n == y.n) = false ∧ R = false) ∨ ((x.op == y.op) = true ∧ ((bs x.name).toList == (bs y.name).toList) = true ∧ (x.n == y.n) = true ∧ (x.w == y.w) = false ∧ R = false) ∨ ((x.op == y.op) = true ∧ ((bs x.name).toList == (bs y.name).toList) = true ∧ (x.n == y.n) = true ∧ (x.w == y.w) = true ∧ ((x.v : Int) == (y.v : Int)) = false ∧ R = false) ∨ ((x.op == y.op) = true ∧ ((bs x.name).toList == (bs y.name).toList) = true ∧ (x.n == y.n) = true ∧ (x.w == y.w) = true ∧ ((x.v : Int) == (y.v : Int)) = true ∧ eqb x.l y.l = false ∧ R = false) ∨ ((x.op == y.op) = true ∧ ((bs x.name).toList == (bs y.name).toList) = true ∧ (x.n == y.n) = true ∧ (x.w == y.w) = true ∧ ((x.v : Int) == (y.v : Int)) = true ∧ eqb x.l y.l = true ∧ R = true) := by
  try simp only [nat_eqb]
  simp only [int_eqb, str_eqb, bool_eqb]
  cases e0 : eqb x.op y.op with
  | false => exact .inl ⟨rfl, by rw [hR]; exact eqb_no (fun e => eqb_false e0 (by rw [e]))⟩
  | true =>
   cases e1 : eqb x.name y.name with
   | false => exact .inr (.inl ⟨rfl, rfl, by rw [hR]; exact eqb_no (fun e => eqb_false e1 (by rw [e]))⟩)
   | true =>
    cases e2 : eqb x.n y.n with
    | false => exact .inr (.inr (.inl ⟨rfl, rfl, rfl, by rw [hR]; exact eqb_no (fun e => eqb_false e2 (by rw [e]))⟩))
    | true =>
     cases e3 : eqb x.w y.w with
     | false => exact .inr (.inr (.inr (.inl ⟨rfl, rfl, rfl, rfl, by rw [hR]; exact eqb_no (fun e => eqb_false e3 (by rw [e]))⟩)))
     | true =>
      cases e4 : eqb x.v y.v with
      | false => exact .inr (.inr (.inr (.inr (.inl ⟨rfl, rfl, rfl, rfl, rfl, by rw [hR]; exact eqb_no (fun e => eqb_false e4 (by rw [e]))⟩))))
      | true =>
       cases e5 : eqb x.l y.l with
       | false => exact .inr (.inr (.inr (.inr (.inr (.inl ⟨rfl, rfl, rfl, rfl, rfl, rfl, by rw [hR]; exact eqb_no (fun e => eqb_false e5 (by rw [e]))⟩)))))
       | true =>
        refine .inr (.inr (.inr (.inr (.inr (.inr (⟨rfl, rfl, rfl, rfl, rfl, rfl, ?_⟩))))))
        rw [hR]; exact eqb_yes (extX ⟨eqb_true e0, eqb_true e1, eqb_true e2, eqb_true e3, eqb_true e4, eqb_true e5⟩)
 rw [← hR]
 clear hR hsz ih
 obtain ⟨ra, rb⟩ := two_rows W #[.int .i64 x.op, .string (bs x.name), .int .i64 x.n, .int .i64 x.w, .int .u64 x.v, .slice pa5 x.l.length ca5] #[.int .i64 y.op, .string (bs y.name), .int .i64 y.n, .int .i64 y.w, .int .u64 y.v, .slice pb5 y.l.length cb5] 28 28
 obtain ⟨V, hV⟩ : ∃ V, V = (W.alloc (.cells #[.int .i64 x.op, .string (bs x.name), .int .i64 x.n, .int .i64 x.w, .int .u64 x.v, .slice pa5 x.l.length ca5] 28)).alloc (.cells #[.int .i64 y.op, .string (bs y.name), .int .i64 y.n, .int .i64 y.w, .int .u64 y.v, .slice pb5 y.l.length cb5] 28) := ⟨_, rfl⟩
 rw [← hV] at ra rb
 have XV := Lib.hid (show Below W.heap.size W V by rw [hV]; exact ((Below.refl _ _).alloc (Nat.le_refl _) _).alloc (by simp) _)
 have HSx := Lib.hid (show ∀ w', Below V.heap.size V w' → w'.cell? ⟨W.heap.size, 0, none⟩ = some (.int .i64 x.op) ∧ w'.cell? ⟨W.heap.size, 1, none⟩ = some (.string (bs x.name)) ∧ w'.cell? ⟨W.heap.size, 2, none⟩ = some (.int .i64 x.n) ∧ w'.cell? ⟨W.heap.size, 3, none⟩ = some (.int .i64 x.w) ∧ w'.cell? ⟨W.heap.size, 4, none⟩ = some (.int .u64 x.v) ∧ w'.cell? ⟨W.heap.size, 5, none⟩ = some (.slice pa5 x.l.length ca5) ∧ w'.cell? ⟨W.heap.size + 1, 0, none⟩ = some (.int .i64 y.op) ∧ w'.cell? ⟨W.heap.size + 1, 1, none⟩ = some (.string (bs y.name)) ∧ w'.cell? ⟨W.heap.size + 1, 2, none⟩ = some (.int .i64 y.n) ∧ w'.cell? ⟨W.heap.size + 1, 3, none⟩ = some (.int .i64 y.w) ∧ w'.cell? ⟨W.heap.size + 1, 4, none⟩ = some (.int .u64 y.v) ∧ w'.cell? ⟨W.heap.size + 1, 5, none⟩ = some (.slice pb5 y.l.length cb5) from fun w' h => ⟨row_cells ra h 0 _ rfl, row_cells ra h 1 _ rfl, row_cells ra h 2 _ rfl, row_cells ra h 3 _ rfl, row_cells ra h 4 _ rfl, row_cells ra h 5 _ rfl, row_cells rb h 0 _ rfl, row_cells rb h 1 _ rfl, row_cells rb h 2 _ rfl, row_cells rb h 3 _ rfl, row_cells rb h 4 _ rfl, row_cells rb h 5 _ rfl⟩)
 clear ra rb
 obtain ⟨z0, z1, z2, z3, z4, z5, z6, z7, z8, z9, z10, z11⟩ := HSx.out _ (Below.refl _ _)
 rcases hcase with ⟨h0, rfl⟩ | ⟨h0, h1, rfl⟩ | ⟨h0, h1, h2, rfl⟩ | ⟨h0, h1, h2, h3, rfl⟩ | ⟨h0, h1, h2, h3, h4, rfl⟩ | ⟨h0, h1, h2, h3, h4, h5, rfl⟩ | ⟨h0, h1, h2, h3, h4, h5, rfl⟩
 all_goals
  go_enter Tryz.func32, Tryz.ntmps32
  go_wp2_with fail
  rw [← hV]
  clear hV
  generalize W.heap.size + 1 = b1 at *
  have Z0 := Lib.hid (Below.refl V.heap.size V)
  have F0 := True.intro
  go_wp2_with (first
   | (go_at_call 70; clear F0; refine (Hl.out _ (XV.out.trans (Z0.out.mono XV.out.size))).mono ?_; rintro e W1 ⟨rfl, hb⟩; rw [h5]; have Z1 := Lib.hid (Z0.out.trans (hb.mono Z0.out.size)); obtain ⟨z0, z1, z2, z3, z4, z5, z6, z7, z8, z9, z10, z11⟩ := HSx.out _ Z1.out; clear hb))
  go_ret
  exact ⟨rfl, XV.out.trans (Below.mono (by first | exact Z1.out | exact Z0.out) XV.out.size)⟩
theorem extS {x y : S} (f : x.op = y.op ∧ x.name = y.name ∧ x.x = y.x ∧ x.l = y.l) : x = y := by
 obtain ⟨_, _, _, _⟩ := x; obtain ⟨_, _, _, _⟩ := y
 simp only [S.op, S.name, S.x, S.l] at f
 obtain ⟨rfl, rfl, rfl, rfl⟩ := f
 rfl
def SameS (y : S) : Prop := ∀ (z : S) (W : World) (cs ds : List Value), SR W y cs → SR W z ds → Calls Tryz.prog 33 #[.agg cs.toArray, .agg ds.toArray] W fun e W' => e = .returned (.bool (eqb y z)) ∧ Below W.heap.size W W'
theorem equalS_any (v v' : Value) (l l' : List S) (hl : l.length ≤ 1000000000) (W : World) (hR : Els W 4 (SR W) v l) (hR' : Els W 4 (SR W) v' l') (hE : ∀ y ∈ l, SameS y) :
  Calls Tryz.prog 71 #[v, v', .func (.func 33) #[] #[]] W fun e W' => e = .returned (.bool (eqb l l')) ∧ Below W.heap.size W W' := by
 obtain ⟨p, cap, rfl, hcap, hcell⟩ := hR
 obtain ⟨p', cap', rfl, hcap', hcell'⟩ := hR'
 have HE := Lib.hid hE
 have HC := Lib.hid hcell
 have HC' := Lib.hid hcell'
 clear hE hcell hcell'
 by_cases hll : l.length = l'.length
 case neg =>
  have hi : ¬ (l.length : Int) = (l'.length : Int) := by omega
  have HN := Lib.hid (eqb_no (fun e : l = l' => hll (by rw [e])))
  go_enter Tryz.func71, Tryz.ntmps71
  go_wp2
  go_ret
  exact ⟨ret_bool HN.out.symm, Below.refl _ _⟩
 have HLL := Lib.hid hll
 have hi : (l.length : Int) = (l'.length : Int) := by omega
 clear hll
 go_enter Tryz.func71, Tryz.ntmps71
 go_wp2
 go_loopw [17] (fun i wr => ∃ k : Nat, i = .int .i64 k ∧ k ≤ l.length ∧ Hid (Below W.heap.size W wr) ∧ Hid (l.take k = l'.take k)) (fun i _ => l.length - (intOf i).toNat)
 case atStart => exact ⟨0, rfl, Nat.zero_le _, Lib.hid (Below.refl _ _), Lib.hid rfl⟩
 case round =>
  obtain ⟨k, rfl, hk, HW, HA⟩ := hrel
  by_cases hlt : k < l.length
  case neg =>
   have hge : ¬ ((k : Int) < (l.length : Int)) := by omega
   have HALL := Lib.hid (show eqb l l' = true from eqb_yes (by
    have := HA.out
    rwa [List.take_of_length_le (by omega), List.take_of_length_le (by have := HLL.out; omega)] at this))
   go_wp2
   go_ret
   exact ⟨ret_bool HALL.out.symm, HW.out⟩
  have hlt' : (k : Int) < (l.length : Int) := by omega
  have hly : k < l'.length := by have := HLL.out; omega
  rcases HC.out with hc | ⟨q, off, rfl, hq, hc⟩
  ·subst hc; simp at hlt
  rcases HC'.out with hc' | ⟨q', off', rfl, hq', hc'⟩
  ·subst hc'; simp at hly
  obtain ⟨cs, hR, hcs⟩ := hc k hlt
  obtain ⟨ds, hR', hds⟩ := hc' k hly
  have hB := HW.out
  have HEL := Lib.hid (HE.out _ (List.getElem_mem hlt))
  have hR0 := Lib.hid hR
  have hR0' := Lib.hid hR'
  clear hR hc hR' hc'
  obtain ⟨xa, la, rfl, ha2, ha3⟩ := SR_iff.1 hR0.out
  have ga2 := ha2
  have ga3 := ha3
  obtain ⟨pa2, ca2, rfl, _⟩ := ha2
  obtain ⟨pa3, ca3, rfl, _⟩ := ha3
  obtain ⟨xb, lb, rfl, hb2, hb3⟩ := SR_iff.1 hR0'.out
  have gb2 := hb2
  have gb3 := hb3
  obtain ⟨pb2, cb2, rfl, _⟩ := hb2
  obtain ⟨pb3, cb3, rfl, _⟩ := hb3
  have hRr := Lib.hid (SR.later hB _ _ hR0.out)
  have hRr' := Lib.hid (SR.later hB _ _ hR0'.out)
  have x0 := (hB.cell (p := ⟨q, off + k * 4 + 0, none⟩) hq).trans (hcs 0 (by omega))
  have x1 := (hB.cell (p := ⟨q, off + k * 4 + 1, none⟩) hq).trans (hcs 1 (by omega))
  have x2 := (hB.cell (p := ⟨q, off + k * 4 + 2, none⟩) hq).trans (hcs 2 (by omega))
  have x3 := (hB.cell (p := ⟨q, off + k * 4 + 3, none⟩) hq).trans (hcs 3 (by omega))
  have BA := (Below.refl wr.heap.size wr).alloc (Nat.le_refl _) (.cells #[.int .i64 l[k].op, .string (bs l[k].name), .slice pa2 l[k].x.length ca2, .slice pa3 l[k].l.length ca3] 31)
  have y0 := (BA.cell (p := ⟨q', off' + k * 4 + 0, none⟩) (Nat.lt_of_lt_of_le hq' hB.size)).trans ((hB.cell (p := ⟨q', off' + k * 4 + 0, none⟩) hq').trans (hds 0 (by omega)))
  have y1 := (BA.cell (p := ⟨q', off' + k * 4 + 1, none⟩) (Nat.lt_of_lt_of_le hq' hB.size)).trans ((hB.cell (p := ⟨q', off' + k * 4 + 1, none⟩) hq').trans (hds 1 (by omega)))
  have y2 := (BA.cell (p := ⟨q', off' + k * 4 + 2, none⟩) (Nat.lt_of_lt_of_le hq' hB.size)).trans ((hB.cell (p := ⟨q', off' + k * 4 + 2, none⟩) hq').trans (hds 2 (by omega)))
  have y3 := (BA.cell (p := ⟨q', off' + k * 4 + 3, none⟩) (Nat.lt_of_lt_of_le hq' hB.size)).trans ((hB.cell (p := ⟨q', off' + k * 4 + 3, none⟩) hq').trans (hds 3 (by omega)))
  simp only [Nat.add_zero, List.getElem?_cons_zero, List.getElem?_cons_succ] at x0 y0 x1 y1 x2 y2 x3 y3
  obtain ⟨ra, rb⟩ := two_rows wr #[.int .i64 l[k].op, .string (bs l[k].name), .slice pa2 l[k].x.length ca2, .slice pa3 l[k].l.length ca3] #[.int .i64 l'[k].op, .string (bs l'[k].name), .slice pb2 l'[k].x.length cb2, .slice pb3 l'[k].l.length cb3] 31 31
  have xa0 := row_cells ra (Below.refl _ _) 0 (.int .i64 l[k].op) rfl
  have yb0 := row_cells rb (Below.refl _ _) 0 (.int .i64 l'[k].op) rfl
  have xa1 := row_cells ra (Below.refl _ _) 1 (.string (bs l[k].name)) rfl
  have yb1 := row_cells rb (Below.refl _ _) 1 (.string (bs l'[k].name)) rfl
  have xa2 := row_cells ra (Below.refl _ _) 2 (.slice pa2 l[k].x.length ca2) rfl
  have yb2 := row_cells rb (Below.refl _ _) 2 (.slice pb2 l'[k].x.length cb2) rfl
  have xa3 := row_cells ra (Below.refl _ _) 3 (.slice pa3 l[k].l.length ca3) rfl
  have yb3 := row_cells rb (Below.refl _ _) 3 (.slice pb3 l'[k].l.length cb3) rfl
  have BB := Lib.hid (BA.alloc (by simp) (.cells #[.int .i64 l'[k].op, .string (bs l'[k].name), .slice pb2 l'[k].x.length cb2, .slice pb3 l'[k].l.length cb3] 31))
  have HNX := Lib.hid (fun (h : eqb l[k] l'[k] = true) => show l.take (k + 1) = l'.take (k + 1) by
   rw [List.take_succ_eq_append_getElem hlt, List.take_succ_eq_append_getElem hly, HA.out, eqb_true h])
  have HNO := Lib.hid (fun (h : eqb l[k] l'[k] = false) => show eqb l l' = false from eqb_no (fun e => by
   subst e
   exact eqb_false h rfl))
  clear ra rb hcs hds BA
  generalize l[k] = x at *
  generalize l'[k] = y at *
  cases hok : eqb x y with
  | true =>
   have HOK := Lib.hid (HNX.out hok)
   have HY := Lib.hid hok
   clear hok
   go_wp2_with (go_at_call 33; refine (HEL.out y _ [.int .i64 x.op, .string (bs x.name), .slice pa2 x.x.length ca2, .slice pa3 x.l.length ca3] [.int .i64 y.op, .string (bs y.name), .slice pb2 y.x.length cb2, .slice pb3 y.l.length cb3] (SR.later BB.out _ _ hRr.out) (SR.later BB.out _ _ hRr'.out)).mono ?_; rintro e W5 ⟨rfl, h2⟩; have H2 := Lib.hid h2; clear h2; rw [HY.out])
   go_roundw
   case rel => exact ⟨k + 1, by go_num, hlt, Lib.hid (HW.out.trans ((BB.out.trans (H2.out.mono BB.out.size)).mono HW.out.size)), HOK⟩
   case measure => simp [intOf]; omega
  | false =>
   have HOK := Lib.hid (HNO.out hok)
   have HY := Lib.hid hok
   clear hok
   go_wp2_with (go_at_call 33; refine (HEL.out y _ [.int .i64 x.op, .string (bs x.name), .slice pa2 x.x.length ca2, .slice pa3 x.l.length ca3] [.int .i64 y.op, .string (bs y.name), .slice pb2 y.x.length cb2, .slice pb3 y.l.length cb3] (SR.later BB.out _ _ hRr.out) (SR.later BB.out _ _ hRr'.out)).mono ?_; rintro e W5 ⟨rfl, h2⟩; have H2 := Lib.hid h2; clear h2; rw [HY.out])
   go_ret
   exact ⟨ret_bool HOK.out.symm, HW.out.trans ((BB.out.trans (H2.out.mono BB.out.size)).mono HW.out.size)⟩
theorem sameS_any : ∀ x : S, sizeS x ≤ 1000000000 → SameS x := by
 refine S.ind ?_
 intro x ih hsz y W cs ds hx hy
 rw [sizeS_eq, sizeXs_sum, sizeSs_sum] at hsz
 obtain ⟨xa, la, rfl, ha2, ha3⟩ := SR_iff.1 hx
 have ga2 := ha2
 have ga3 := ha3
 obtain ⟨pa2, ca2, rfl, _⟩ := ha2
 obtain ⟨pa3, ca3, rfl, _⟩ := ha3
 obtain ⟨xb, lb, rfl, hb2, hb3⟩ := SR_iff.1 hy
 have gb2 := hb2
 have gb3 := hb3
 obtain ⟨pb2, cb2, rfl, _⟩ := hb2
 obtain ⟨pb3, cb3, rfl, _⟩ := hb3
 have Hx := Lib.hid (fun (W9 : World) (h : Below W.heap.size W W9) => equalX_any _ _ x.x y.x (by have := sumN_len sizeX one_sizeX x.x; omega) W9 (Els.later ga2 h (fun z _ => XR.later h z)) (Els.later gb2 h (fun z _ => XR.later h z)) (fun z hz => sameX_any z (by have := sumN_mem sizeX hz; omega)))
 have Hl := Lib.hid (fun (W9 : World) (h : Below W.heap.size W W9) => equalS_any _ _ x.l y.l (by have := sumN_len sizeS one_sizeS x.l; omega) W9 (Els.later ga3 h (fun z _ => SR.later h z)) (Els.later gb3 h (fun z _ => SR.later h z)) (fun z hz => ih z hz (by have := sumN_mem sizeS hz; omega)))
 obtain ⟨R, hR⟩ : ∃ R, R = eqb x y := ⟨_, rfl⟩
 have hcase : ((x.op == y.op) = false ∧ R = false) ∨ ((x.op == y.op) = true ∧ ((bs x.name).toList == (bs y.name).toList) = false ∧ R = false) ∨ ((x.op == y.op) = true ∧ ((bs x.name).toList == (bs y.name).toList) = true ∧ eqb x.x y.x = false ∧ R = false) ∨ ((x.op == y.op) = true ∧ ((bs x.name).toList == (bs y.name).toList) = true ∧ eqb x.x y.x = true ∧ eqb x.l y.l = false ∧ R = false) ∨ ((x.op == y.op) = true ∧ ((bs x.name).toList == (bs y.name).toList) = true ∧ eqb x.x y.x = true ∧ eqb x.l y.l = true ∧ R = true) := by
  try simp only [nat_eqb]
  simp only [int_eqb, str_eqb, bool_eqb]
  cases e0 : eqb x.op y.op with
  | false => exact .inl ⟨rfl, by rw [hR]; exact eqb_no (fun e => eqb_false e0 (by rw [e]))⟩
  | true =>
   cases e1 : eqb x.name y.name with
   | false => exact .inr (.inl ⟨rfl, rfl, by rw [hR]; exact eqb_no (fun e => eqb_false e1 (by rw [e]))⟩)
   | true =>
    cases e2 : eqb x.x y.x with
    | false => exact .inr (.inr (.inl ⟨rfl, rfl, rfl, by rw [hR]; exact eqb_no (fun e => eqb_false e2 (by rw [e]))⟩))
    | true =>
     cases e3 : eqb x.l y.l with
     | false => exact .inr (.inr (.inr (.inl ⟨rfl, rfl, rfl, rfl, by rw [hR]; exact eqb_no (fun e => eqb_false e3 (by rw [e]))⟩)))
     | true =>
      refine .inr (.inr (.inr (.inr (⟨rfl, rfl, rfl, rfl, ?_⟩))))
      rw [hR]; exact eqb_yes (extS ⟨eqb_true e0, eqb_true e1, eqb_true e2, eqb_true e3⟩)
 rw [← hR]
 clear hR hsz ih
 obtain ⟨ra, rb⟩ := two_rows W #[.int .i64 x.op, .string (bs x.name), .slice pa2 x.x.length ca2, .slice pa3 x.l.length ca3] #[.int .i64 y.op, .string (bs y.name), .slice pb2 y.x.length cb2, .slice pb3 y.l.length cb3] 31 31
 obtain ⟨V, hV⟩ : ∃ V, V = (W.alloc (.cells #[.int .i64 x.op, .string (bs x.name), .slice pa2 x.x.length ca2, .slice pa3 x.l.length ca3] 31)).alloc (.cells #[.int .i64 y.op, .string (bs y.name), .slice pb2 y.x.length cb2, .slice pb3 y.l.length cb3] 31) := ⟨_, rfl⟩
 rw [← hV] at ra rb
 have XV := Lib.hid (show Below W.heap.size W V by rw [hV]; exact ((Below.refl _ _).alloc (Nat.le_refl _) _).alloc (by simp) _)
 have HSx := Lib.hid (show ∀ w', Below V.heap.size V w' → w'.cell? ⟨W.heap.size, 0, none⟩ = some (.int .i64 x.op) ∧ w'.cell? ⟨W.heap.size, 1, none⟩ = some (.string (bs x.name)) ∧ w'.cell? ⟨W.heap.size, 2, none⟩ = some (.slice pa2 x.x.length ca2) ∧ w'.cell? ⟨W.heap.size, 3, none⟩ = some (.slice pa3 x.l.length ca3) ∧ w'.cell? ⟨W.heap.size + 1, 0, none⟩ = some (.int .i64 y.op) ∧ w'.cell? ⟨W.heap.size + 1, 1, none⟩ = some (.string (bs y.name)) ∧ w'.cell? ⟨W.heap.size + 1, 2, none⟩ = some (.slice pb2 y.x.length cb2) ∧ w'.cell? ⟨W.heap.size + 1, 3, none⟩ = some (.slice pb3 y.l.length cb3) from fun w' h => ⟨row_cells ra h 0 _ rfl, row_cells ra h 1 _ rfl, row_cells ra h 2 _ rfl, row_cells ra h 3 _ rfl, row_cells rb h 0 _ rfl, row_cells rb h 1 _ rfl, row_cells rb h 2 _ rfl, row_cells rb h 3 _ rfl⟩)
 clear ra rb
 obtain ⟨z0, z1, z2, z3, z4, z5, z6, z7⟩ := HSx.out _ (Below.refl _ _)
 rcases hcase with ⟨h0, rfl⟩ | ⟨h0, h1, rfl⟩ | ⟨h0, h1, h2, rfl⟩ | ⟨h0, h1, h2, h3, rfl⟩ | ⟨h0, h1, h2, h3, rfl⟩
 all_goals
  go_enter Tryz.func33, Tryz.ntmps33
  go_wp2_with fail
  rw [← hV]
  clear hV
  generalize W.heap.size + 1 = b1 at *
  have Z0 := Lib.hid (Below.refl V.heap.size V)
  have F0 := True.intro
  have F1 := True.intro
  go_wp2_with (first
   | (go_at_call 70; clear F0; refine (Hx.out _ (XV.out.trans (Z0.out.mono XV.out.size))).mono ?_; rintro e W1 ⟨rfl, hb⟩; rw [h2]; have Z1 := Lib.hid (Z0.out.trans (hb.mono Z0.out.size)); obtain ⟨z0, z1, z2, z3, z4, z5, z6, z7⟩ := HSx.out _ Z1.out; clear hb)
   | (go_at_call 71; clear F1; refine (Hl.out _ (XV.out.trans (Z1.out.mono XV.out.size))).mono ?_; rintro e W2 ⟨rfl, hb⟩; rw [h3]; have Z2 := Lib.hid (Z1.out.trans (hb.mono Z1.out.size)); obtain ⟨z0, z1, z2, z3, z4, z5, z6, z7⟩ := HSx.out _ Z2.out; clear hb))
  go_ret
  exact ⟨rfl, XV.out.trans (Below.mono (by first | exact Z2.out | exact Z1.out | exact Z0.out) XV.out.size)⟩
theorem extB {x y : Bd} (f : x.name = y.name ∧ x.x = y.x) : x = y := by
 obtain ⟨_, _⟩ := x; obtain ⟨_, _⟩ := y
 simp only at f
 obtain ⟨rfl, rfl⟩ := f
 rfl
def SameB (y : Bd) : Prop := ∀ (z : Bd) (W : World) (cs ds : List Value), BR W y cs → BR W z ds → Calls Tryz.prog 139 #[.agg cs.toArray, .agg ds.toArray] W fun e W' => e = .returned (.bool (eqb y z)) ∧ Below W.heap.size W W'
theorem equalB_any (v v' : Value) (l l' : List Bd) (hl : l.length ≤ 1000000000) (W : World) (hR : Els W 7 (BR W) v l) (hR' : Els W 7 (BR W) v' l') (hE : ∀ y ∈ l, SameB y) :
  Calls Tryz.prog 138 #[v, v', .func (.func 139) #[] #[]] W fun e W' => e = .returned (.bool (eqb l l')) ∧ Below W.heap.size W W' := by
 obtain ⟨p, cap, rfl, hcap, hcell⟩ := hR
 obtain ⟨p', cap', rfl, hcap', hcell'⟩ := hR'
 have HE := Lib.hid hE
 have HC := Lib.hid hcell
 have HC' := Lib.hid hcell'
 clear hE hcell hcell'
 by_cases hll : l.length = l'.length
 case neg =>
  have hi : ¬ (l.length : Int) = (l'.length : Int) := by omega
  have HN := Lib.hid (eqb_no (fun e : l = l' => hll (by rw [e])))
  go_enter Tryz.func138, Tryz.ntmps138
  go_wp2
  go_ret
  exact ⟨ret_bool HN.out.symm, Below.refl _ _⟩
 have HLL := Lib.hid hll
 have hi : (l.length : Int) = (l'.length : Int) := by omega
 clear hll
 go_enter Tryz.func138, Tryz.ntmps138
 go_wp2
 go_loopw [17] (fun i wr => ∃ k : Nat, i = .int .i64 k ∧ k ≤ l.length ∧ Hid (Below W.heap.size W wr) ∧ Hid (l.take k = l'.take k)) (fun i _ => l.length - (intOf i).toNat)
 case atStart => exact ⟨0, rfl, Nat.zero_le _, Lib.hid (Below.refl _ _), Lib.hid rfl⟩
 case round =>
  obtain ⟨k, rfl, hk, HW, HA⟩ := hrel
  by_cases hlt : k < l.length
  case neg =>
   have hge : ¬ ((k : Int) < (l.length : Int)) := by omega
   have HALL := Lib.hid (show eqb l l' = true from eqb_yes (by
    have := HA.out
    rwa [List.take_of_length_le (by omega), List.take_of_length_le (by have := HLL.out; omega)] at this))
   go_wp2
   go_ret
   exact ⟨ret_bool HALL.out.symm, HW.out⟩
  have hlt' : (k : Int) < (l.length : Int) := by omega
  have hly : k < l'.length := by have := HLL.out; omega
  rcases HC.out with hc | ⟨q, off, rfl, hq, hc⟩
  ·subst hc; simp at hlt
  rcases HC'.out with hc' | ⟨q', off', rfl, hq', hc'⟩
  ·subst hc'; simp at hly
  obtain ⟨cs, hR, hcs⟩ := hc k hlt
  obtain ⟨ds, hR', hds⟩ := hc' k hly
  have hB := HW.out
  have HEL := Lib.hid (HE.out _ (List.getElem_mem hlt))
  have hR0 := Lib.hid hR
  have hR0' := Lib.hid hR'
  clear hR hc hR' hc'
  obtain ⟨xa, rfl, ha1⟩ := hR0.out
  have ga1 := ha1
  obtain ⟨_, la, rfl, ha5⟩ := XR_iff.1 ha1
  obtain ⟨pa5, ca5, rfl, _⟩ := ha5
  obtain ⟨xb, rfl, hb1⟩ := hR0'.out
  have gb1 := hb1
  obtain ⟨_, lb, rfl, hb5⟩ := XR_iff.1 hb1
  obtain ⟨pb5, cb5, rfl, _⟩ := hb5
  have hRr := Lib.hid (BR.later hB _ _ hR0.out)
  have hRr' := Lib.hid (BR.later hB _ _ hR0'.out)
  have x0 := (hB.cell (p := ⟨q, off + k * 7 + 0, none⟩) hq).trans (hcs 0 (by omega))
  have x1 := (hB.cell (p := ⟨q, off + k * 7 + 1, none⟩) hq).trans (hcs 1 (by omega))
  have x2 := (hB.cell (p := ⟨q, off + k * 7 + 2, none⟩) hq).trans (hcs 2 (by omega))
  have x3 := (hB.cell (p := ⟨q, off + k * 7 + 3, none⟩) hq).trans (hcs 3 (by omega))
  have x4 := (hB.cell (p := ⟨q, off + k * 7 + 4, none⟩) hq).trans (hcs 4 (by omega))
  have x5 := (hB.cell (p := ⟨q, off + k * 7 + 5, none⟩) hq).trans (hcs 5 (by omega))
  have x6 := (hB.cell (p := ⟨q, off + k * 7 + 6, none⟩) hq).trans (hcs 6 (by omega))
  have BA := (Below.refl wr.heap.size wr).alloc (Nat.le_refl _) (.cells #[.string (bs l[k].name), .int .i64 l[k].x.op, .string (bs l[k].x.name), .int .i64 l[k].x.n, .int .i64 l[k].x.w, .int .u64 l[k].x.v, .slice pa5 l[k].x.l.length ca5] 159)
  have y0 := (BA.cell (p := ⟨q', off' + k * 7 + 0, none⟩) (Nat.lt_of_lt_of_le hq' hB.size)).trans ((hB.cell (p := ⟨q', off' + k * 7 + 0, none⟩) hq').trans (hds 0 (by omega)))
  have y1 := (BA.cell (p := ⟨q', off' + k * 7 + 1, none⟩) (Nat.lt_of_lt_of_le hq' hB.size)).trans ((hB.cell (p := ⟨q', off' + k * 7 + 1, none⟩) hq').trans (hds 1 (by omega)))
  have y2 := (BA.cell (p := ⟨q', off' + k * 7 + 2, none⟩) (Nat.lt_of_lt_of_le hq' hB.size)).trans ((hB.cell (p := ⟨q', off' + k * 7 + 2, none⟩) hq').trans (hds 2 (by omega)))
  have y3 := (BA.cell (p := ⟨q', off' + k * 7 + 3, none⟩) (Nat.lt_of_lt_of_le hq' hB.size)).trans ((hB.cell (p := ⟨q', off' + k * 7 + 3, none⟩) hq').trans (hds 3 (by omega)))
  have y4 := (BA.cell (p := ⟨q', off' + k * 7 + 4, none⟩) (Nat.lt_of_lt_of_le hq' hB.size)).trans ((hB.cell (p := ⟨q', off' + k * 7 + 4, none⟩) hq').trans (hds 4 (by omega)))
  have y5 := (BA.cell (p := ⟨q', off' + k * 7 + 5, none⟩) (Nat.lt_of_lt_of_le hq' hB.size)).trans ((hB.cell (p := ⟨q', off' + k * 7 + 5, none⟩) hq').trans (hds 5 (by omega)))
  have y6 := (BA.cell (p := ⟨q', off' + k * 7 + 6, none⟩) (Nat.lt_of_lt_of_le hq' hB.size)).trans ((hB.cell (p := ⟨q', off' + k * 7 + 6, none⟩) hq').trans (hds 6 (by omega)))
  simp only [Nat.add_zero, List.getElem?_cons_zero, List.getElem?_cons_succ] at x0 y0 x1 y1 x2 y2 x3 y3 x4 y4 x5 y5 x6 y6
  obtain ⟨ra, rb⟩ := two_rows wr #[.string (bs l[k].name), .int .i64 l[k].x.op, .string (bs l[k].x.name), .int .i64 l[k].x.n, .int .i64 l[k].x.w, .int .u64 l[k].x.v, .slice pa5 l[k].x.l.length ca5] #[.string (bs l'[k].name), .int .i64 l'[k].x.op, .string (bs l'[k].x.name), .int .i64 l'[k].x.n, .int .i64 l'[k].x.w, .int .u64 l'[k].x.v, .slice pb5 l'[k].x.l.length cb5] 159 159
  have xa0 := row_cells ra (Below.refl _ _) 0 (.string (bs l[k].name)) rfl
  have yb0 := row_cells rb (Below.refl _ _) 0 (.string (bs l'[k].name)) rfl
  have xa1 := row_cells ra (Below.refl _ _) 1 (.int .i64 l[k].x.op) rfl
  have yb1 := row_cells rb (Below.refl _ _) 1 (.int .i64 l'[k].x.op) rfl
  have xa2 := row_cells ra (Below.refl _ _) 2 (.string (bs l[k].x.name)) rfl
  have yb2 := row_cells rb (Below.refl _ _) 2 (.string (bs l'[k].x.name)) rfl
  have xa3 := row_cells ra (Below.refl _ _) 3 (.int .i64 l[k].x.n) rfl
  have yb3 := row_cells rb (Below.refl _ _) 3 (.int .i64 l'[k].x.n) rfl
  have xa4 := row_cells ra (Below.refl _ _) 4 (.int .i64 l[k].x.w) rfl
  have yb4 := row_cells rb (Below.refl _ _) 4 (.int .i64 l'[k].x.w) rfl
  have xa5 := row_cells ra (Below.refl _ _) 5 (.int .u64 l[k].x.v) rfl
  have yb5 := row_cells rb (Below.refl _ _) 5 (.int .u64 l'[k].x.v) rfl
  have xa6 := row_cells ra (Below.refl _ _) 6 (.slice pa5 l[k].x.l.length ca5) rfl
  have yb6 := row_cells rb (Below.refl _ _) 6 (.slice pb5 l'[k].x.l.length cb5) rfl
  have BB := Lib.hid (BA.alloc (by simp) (.cells #[.string (bs l'[k].name), .int .i64 l'[k].x.op, .string (bs l'[k].x.name), .int .i64 l'[k].x.n, .int .i64 l'[k].x.w, .int .u64 l'[k].x.v, .slice pb5 l'[k].x.l.length cb5] 159))
  have HNX := Lib.hid (fun (h : eqb l[k] l'[k] = true) => show l.take (k + 1) = l'.take (k + 1) by
   rw [List.take_succ_eq_append_getElem hlt, List.take_succ_eq_append_getElem hly, HA.out, eqb_true h])
  have HNO := Lib.hid (fun (h : eqb l[k] l'[k] = false) => show eqb l l' = false from eqb_no (fun e => by
   subst e
   exact eqb_false h rfl))
  clear ra rb hcs hds BA
  generalize l[k] = x at *
  generalize l'[k] = y at *
  cases hok : eqb x y with
  | true =>
   have HOK := Lib.hid (HNX.out hok)
   have HY := Lib.hid hok
   clear hok
   go_wp2_with (go_at_call 139; refine (HEL.out y _ [.string (bs x.name), .int .i64 x.x.op, .string (bs x.x.name), .int .i64 x.x.n, .int .i64 x.x.w, .int .u64 x.x.v, .slice pa5 x.x.l.length ca5] [.string (bs y.name), .int .i64 y.x.op, .string (bs y.x.name), .int .i64 y.x.n, .int .i64 y.x.w, .int .u64 y.x.v, .slice pb5 y.x.l.length cb5] (BR.later BB.out _ _ hRr.out) (BR.later BB.out _ _ hRr'.out)).mono ?_; rintro e W5 ⟨rfl, h2⟩; have H2 := Lib.hid h2; clear h2; rw [HY.out])
   go_roundw
   case rel => exact ⟨k + 1, by go_num, hlt, Lib.hid (HW.out.trans ((BB.out.trans (H2.out.mono BB.out.size)).mono HW.out.size)), HOK⟩
   case measure => simp [intOf]; omega
  | false =>
   have HOK := Lib.hid (HNO.out hok)
   have HY := Lib.hid hok
   clear hok
   go_wp2_with (go_at_call 139; refine (HEL.out y _ [.string (bs x.name), .int .i64 x.x.op, .string (bs x.x.name), .int .i64 x.x.n, .int .i64 x.x.w, .int .u64 x.x.v, .slice pa5 x.x.l.length ca5] [.string (bs y.name), .int .i64 y.x.op, .string (bs y.x.name), .int .i64 y.x.n, .int .i64 y.x.w, .int .u64 y.x.v, .slice pb5 y.x.l.length cb5] (BR.later BB.out _ _ hRr.out) (BR.later BB.out _ _ hRr'.out)).mono ?_; rintro e W5 ⟨rfl, h2⟩; have H2 := Lib.hid h2; clear h2; rw [HY.out])
   go_ret
   exact ⟨ret_bool HOK.out.symm, HW.out.trans ((BB.out.trans (H2.out.mono BB.out.size)).mono HW.out.size)⟩
theorem sameB_any : ∀ x : Bd, sizeB x ≤ 1000000000 → SameB x := by
 intro x hsz y W cs ds hx hy
 unfold sizeB at hsz
 obtain ⟨xa, rfl, ha1⟩ := hx
 have ga1 := ha1
 obtain ⟨_, la, rfl, ha5⟩ := XR_iff.1 ha1
 obtain ⟨pa5, ca5, rfl, _⟩ := ha5
 obtain ⟨xb, rfl, hb1⟩ := hy
 have gb1 := hb1
 obtain ⟨_, lb, rfl, hb5⟩ := XR_iff.1 hb1
 obtain ⟨pb5, cb5, rfl, _⟩ := hb5
 have Hx := Lib.hid (fun (W9 : World) (h : Below W.heap.size W W9) => sameX_any x.x (by omega) y.x W9 _ _ (XR.later h _ _ ga1) (XR.later h _ _ gb1))
 obtain ⟨R, hR⟩ : ∃ R, R = eqb x y := ⟨_, rfl⟩
 have hcase : (((bs x.name).toList == (bs y.name).toList) = false ∧ R = false) ∨ (((bs x.name).toList == (bs y.name).toList) = true ∧ eqb x.x y.x = false ∧ R = false) ∨ (((bs x.name).toList == (bs y.name).toList) = true ∧ eqb x.x y.x = true ∧ R = true) := by
  try simp only [nat_eqb]
  simp only [int_eqb, str_eqb, bool_eqb]
  cases e0 : eqb x.name y.name with
  | false => exact .inl ⟨rfl, by rw [hR]; exact eqb_no (fun e => eqb_false e0 (by rw [e]))⟩
  | true =>
   cases e1 : eqb x.x y.x with
   | false => exact .inr (.inl ⟨rfl, rfl, by rw [hR]; exact eqb_no (fun e => eqb_false e1 (by rw [e]))⟩)
   | true =>
    refine .inr (.inr (⟨rfl, rfl, ?_⟩))
    rw [hR]; exact eqb_yes (extB ⟨eqb_true e0, eqb_true e1⟩)
 rw [← hR]
 clear hR hsz
 obtain ⟨ra, rb⟩ := two_rows W #[.string (bs x.name), .int .i64 x.x.op, .string (bs x.x.name), .int .i64 x.x.n, .int .i64 x.x.w, .int .u64 x.x.v, .slice pa5 x.x.l.length ca5] #[.string (bs y.name), .int .i64 y.x.op, .string (bs y.x.name), .int .i64 y.x.n, .int .i64 y.x.w, .int .u64 y.x.v, .slice pb5 y.x.l.length cb5] 159 159
 obtain ⟨V, hV⟩ : ∃ V, V = (W.alloc (.cells #[.string (bs x.name), .int .i64 x.x.op, .string (bs x.x.name), .int .i64 x.x.n, .int .i64 x.x.w, .int .u64 x.x.v, .slice pa5 x.x.l.length ca5] 159)).alloc (.cells #[.string (bs y.name), .int .i64 y.x.op, .string (bs y.x.name), .int .i64 y.x.n, .int .i64 y.x.w, .int .u64 y.x.v, .slice pb5 y.x.l.length cb5] 159) := ⟨_, rfl⟩
 rw [← hV] at ra rb
 have XV := Lib.hid (show Below W.heap.size W V by rw [hV]; exact ((Below.refl _ _).alloc (Nat.le_refl _) _).alloc (by simp) _)
 have HSx := Lib.hid (show ∀ w', Below V.heap.size V w' → w'.cell? ⟨W.heap.size, 0, none⟩ = some (.string (bs x.name)) ∧ w'.cell? ⟨W.heap.size, 1, none⟩ = some (.int .i64 x.x.op) ∧ w'.cell? ⟨W.heap.size, 2, none⟩ = some (.string (bs x.x.name)) ∧ w'.cell? ⟨W.heap.size, 3, none⟩ = some (.int .i64 x.x.n) ∧ w'.cell? ⟨W.heap.size, 4, none⟩ = some (.int .i64 x.x.w) ∧ w'.cell? ⟨W.heap.size, 5, none⟩ = some (.int .u64 x.x.v) ∧ w'.cell? ⟨W.heap.size, 6, none⟩ = some (.slice pa5 x.x.l.length ca5) ∧ w'.cell? ⟨W.heap.size + 1, 0, none⟩ = some (.string (bs y.name)) ∧ w'.cell? ⟨W.heap.size + 1, 1, none⟩ = some (.int .i64 y.x.op) ∧ w'.cell? ⟨W.heap.size + 1, 2, none⟩ = some (.string (bs y.x.name)) ∧ w'.cell? ⟨W.heap.size + 1, 3, none⟩ = some (.int .i64 y.x.n) ∧ w'.cell? ⟨W.heap.size + 1, 4, none⟩ = some (.int .i64 y.x.w) ∧ w'.cell? ⟨W.heap.size + 1, 5, none⟩ = some (.int .u64 y.x.v) ∧ w'.cell? ⟨W.heap.size + 1, 6, none⟩ = some (.slice pb5 y.x.l.length cb5) from fun w' h => ⟨row_cells ra h 0 _ rfl, row_cells ra h 1 _ rfl, row_cells ra h 2 _ rfl, row_cells ra h 3 _ rfl, row_cells ra h 4 _ rfl, row_cells ra h 5 _ rfl, row_cells ra h 6 _ rfl, row_cells rb h 0 _ rfl, row_cells rb h 1 _ rfl, row_cells rb h 2 _ rfl, row_cells rb h 3 _ rfl, row_cells rb h 4 _ rfl, row_cells rb h 5 _ rfl, row_cells rb h 6 _ rfl⟩)
 clear ra rb
 obtain ⟨z0, z1, z2, z3, z4, z5, z6, z7, z8, z9, z10, z11, z12, z13⟩ := HSx.out _ (Below.refl _ _)
 rcases hcase with ⟨h0, rfl⟩ | ⟨h0, h1, rfl⟩ | ⟨h0, h1, rfl⟩
 all_goals
  go_enter Tryz.func139, Tryz.ntmps139
  go_wp2_with fail
  rw [← hV]
  clear hV
  generalize W.heap.size + 1 = b1 at *
  have Z0 := Lib.hid (Below.refl V.heap.size V)
  have F0 := True.intro
  go_wp2_with (first
   | (go_at_call 32; clear F0; refine (Hx.out _ (XV.out.trans (Z0.out.mono XV.out.size))).mono ?_; rintro e W1 ⟨rfl, hb⟩; rw [h1]; have Z1 := Lib.hid (Z0.out.trans (hb.mono Z0.out.size)); obtain ⟨z0, z1, z2, z3, z4, z5, z6, z7, z8, z9, z10, z11, z12, z13⟩ := HSx.out _ Z1.out; clear hb))
  go_ret
  exact ⟨rfl, XV.out.trans (Below.mono (by first | exact Z1.out | exact Z0.out) XV.out.size)⟩
theorem extP {x y : Pt} (f : x.name = y.name ∧ x.out = y.out ∧ x.w = y.w) : x = y := by
 obtain ⟨_, _, _⟩ := x; obtain ⟨_, _, _⟩ := y
 simp only at f
 obtain ⟨rfl, rfl, rfl⟩ := f
 rfl
def SameP (y : Pt) : Prop := ∀ (z : Pt) (W : World) (cs ds : List Value), PR W y cs → PR W z ds → Calls Tryz.prog 141 #[.agg cs.toArray, .agg ds.toArray] W fun e W' => e = .returned (.bool (eqb y z)) ∧ Below W.heap.size W W'
theorem equalP_any (v v' : Value) (l l' : List Pt) (hl : l.length ≤ 1000000000) (W : World) (hR : Els W 8 (PR W) v l) (hR' : Els W 8 (PR W) v' l') (hE : ∀ y ∈ l, SameP y) :
  Calls Tryz.prog 140 #[v, v', .func (.func 141) #[] #[]] W fun e W' => e = .returned (.bool (eqb l l')) ∧ Below W.heap.size W W' := by
 obtain ⟨p, cap, rfl, hcap, hcell⟩ := hR
 obtain ⟨p', cap', rfl, hcap', hcell'⟩ := hR'
 have HE := Lib.hid hE
 have HC := Lib.hid hcell
 have HC' := Lib.hid hcell'
 clear hE hcell hcell'
 by_cases hll : l.length = l'.length
 case neg =>
  have hi : ¬ (l.length : Int) = (l'.length : Int) := by omega
  have HN := Lib.hid (eqb_no (fun e : l = l' => hll (by rw [e])))
  go_enter Tryz.func140, Tryz.ntmps140
  go_wp2
  go_ret
  exact ⟨ret_bool HN.out.symm, Below.refl _ _⟩
 have HLL := Lib.hid hll
 have hi : (l.length : Int) = (l'.length : Int) := by omega
 clear hll
 go_enter Tryz.func140, Tryz.ntmps140
 go_wp2
 go_loopw [17] (fun i wr => ∃ k : Nat, i = .int .i64 k ∧ k ≤ l.length ∧ Hid (Below W.heap.size W wr) ∧ Hid (l.take k = l'.take k)) (fun i _ => l.length - (intOf i).toNat)
 case atStart => exact ⟨0, rfl, Nat.zero_le _, Lib.hid (Below.refl _ _), Lib.hid rfl⟩
 case round =>
  obtain ⟨k, rfl, hk, HW, HA⟩ := hrel
  by_cases hlt : k < l.length
  case neg =>
   have hge : ¬ ((k : Int) < (l.length : Int)) := by omega
   have HALL := Lib.hid (show eqb l l' = true from eqb_yes (by
    have := HA.out
    rwa [List.take_of_length_le (by omega), List.take_of_length_le (by have := HLL.out; omega)] at this))
   go_wp2
   go_ret
   exact ⟨ret_bool HALL.out.symm, HW.out⟩
  have hlt' : (k : Int) < (l.length : Int) := by omega
  have hly : k < l'.length := by have := HLL.out; omega
  rcases HC.out with hc | ⟨q, off, rfl, hq, hc⟩
  ·subst hc; simp at hlt
  rcases HC'.out with hc' | ⟨q', off', rfl, hq', hc'⟩
  ·subst hc'; simp at hly
  obtain ⟨cs, hR, hcs⟩ := hc k hlt
  obtain ⟨ds, hR', hds⟩ := hc' k hly
  have hB := HW.out
  have HEL := Lib.hid (HE.out _ (List.getElem_mem hlt))
  have hR0 := Lib.hid hR
  have hR0' := Lib.hid hR'
  clear hR hc hR' hc'
  obtain ⟨xa, rfl, ha1⟩ := hR0.out
  have ga1 := ha1
  obtain ⟨_, la, rfl, ha5⟩ := XR_iff.1 ha1
  obtain ⟨pa5, ca5, rfl, _⟩ := ha5
  obtain ⟨xb, rfl, hb1⟩ := hR0'.out
  have gb1 := hb1
  obtain ⟨_, lb, rfl, hb5⟩ := XR_iff.1 hb1
  obtain ⟨pb5, cb5, rfl, _⟩ := hb5
  have hRr := Lib.hid (PR.later hB _ _ hR0.out)
  have hRr' := Lib.hid (PR.later hB _ _ hR0'.out)
  have x0 := (hB.cell (p := ⟨q, off + k * 8 + 0, none⟩) hq).trans (hcs 0 (by omega))
  have x1 := (hB.cell (p := ⟨q, off + k * 8 + 1, none⟩) hq).trans (hcs 1 (by omega))
  have x2 := (hB.cell (p := ⟨q, off + k * 8 + 2, none⟩) hq).trans (hcs 2 (by omega))
  have x3 := (hB.cell (p := ⟨q, off + k * 8 + 3, none⟩) hq).trans (hcs 3 (by omega))
  have x4 := (hB.cell (p := ⟨q, off + k * 8 + 4, none⟩) hq).trans (hcs 4 (by omega))
  have x5 := (hB.cell (p := ⟨q, off + k * 8 + 5, none⟩) hq).trans (hcs 5 (by omega))
  have x6 := (hB.cell (p := ⟨q, off + k * 8 + 6, none⟩) hq).trans (hcs 6 (by omega))
  have x7 := (hB.cell (p := ⟨q, off + k * 8 + 7, none⟩) hq).trans (hcs 7 (by omega))
  have BA := (Below.refl wr.heap.size wr).alloc (Nat.le_refl _) (.cells #[.string (bs l[k].name), .bool l[k].out, .int .i64 l[k].w.op, .string (bs l[k].w.name), .int .i64 l[k].w.n, .int .i64 l[k].w.w, .int .u64 l[k].w.v, .slice pa5 l[k].w.l.length ca5] 114)
  have y0 := (BA.cell (p := ⟨q', off' + k * 8 + 0, none⟩) (Nat.lt_of_lt_of_le hq' hB.size)).trans ((hB.cell (p := ⟨q', off' + k * 8 + 0, none⟩) hq').trans (hds 0 (by omega)))
  have y1 := (BA.cell (p := ⟨q', off' + k * 8 + 1, none⟩) (Nat.lt_of_lt_of_le hq' hB.size)).trans ((hB.cell (p := ⟨q', off' + k * 8 + 1, none⟩) hq').trans (hds 1 (by omega)))
  have y2 := (BA.cell (p := ⟨q', off' + k * 8 + 2, none⟩) (Nat.lt_of_lt_of_le hq' hB.size)).trans ((hB.cell (p := ⟨q', off' + k * 8 + 2, none⟩) hq').trans (hds 2 (by omega)))
  have y3 := (BA.cell (p := ⟨q', off' + k * 8 + 3, none⟩) (Nat.lt_of_lt_of_le hq' hB.size)).trans ((hB.cell (p := ⟨q', off' + k * 8 + 3, none⟩) hq').trans (hds 3 (by omega)))
  have y4 := (BA.cell (p := ⟨q', off' + k * 8 + 4, none⟩) (Nat.lt_of_lt_of_le hq' hB.size)).trans ((hB.cell (p := ⟨q', off' + k * 8 + 4, none⟩) hq').trans (hds 4 (by omega)))
  have y5 := (BA.cell (p := ⟨q', off' + k * 8 + 5, none⟩) (Nat.lt_of_lt_of_le hq' hB.size)).trans ((hB.cell (p := ⟨q', off' + k * 8 + 5, none⟩) hq').trans (hds 5 (by omega)))
  have y6 := (BA.cell (p := ⟨q', off' + k * 8 + 6, none⟩) (Nat.lt_of_lt_of_le hq' hB.size)).trans ((hB.cell (p := ⟨q', off' + k * 8 + 6, none⟩) hq').trans (hds 6 (by omega)))
  have y7 := (BA.cell (p := ⟨q', off' + k * 8 + 7, none⟩) (Nat.lt_of_lt_of_le hq' hB.size)).trans ((hB.cell (p := ⟨q', off' + k * 8 + 7, none⟩) hq').trans (hds 7 (by omega)))
  simp only [Nat.add_zero, List.getElem?_cons_zero, List.getElem?_cons_succ] at x0 y0 x1 y1 x2 y2 x3 y3 x4 y4 x5 y5 x6 y6 x7 y7
  obtain ⟨ra, rb⟩ := two_rows wr #[.string (bs l[k].name), .bool l[k].out, .int .i64 l[k].w.op, .string (bs l[k].w.name), .int .i64 l[k].w.n, .int .i64 l[k].w.w, .int .u64 l[k].w.v, .slice pa5 l[k].w.l.length ca5] #[.string (bs l'[k].name), .bool l'[k].out, .int .i64 l'[k].w.op, .string (bs l'[k].w.name), .int .i64 l'[k].w.n, .int .i64 l'[k].w.w, .int .u64 l'[k].w.v, .slice pb5 l'[k].w.l.length cb5] 114 114
  have xa0 := row_cells ra (Below.refl _ _) 0 (.string (bs l[k].name)) rfl
  have yb0 := row_cells rb (Below.refl _ _) 0 (.string (bs l'[k].name)) rfl
  have xa1 := row_cells ra (Below.refl _ _) 1 (.bool l[k].out) rfl
  have yb1 := row_cells rb (Below.refl _ _) 1 (.bool l'[k].out) rfl
  have xa2 := row_cells ra (Below.refl _ _) 2 (.int .i64 l[k].w.op) rfl
  have yb2 := row_cells rb (Below.refl _ _) 2 (.int .i64 l'[k].w.op) rfl
  have xa3 := row_cells ra (Below.refl _ _) 3 (.string (bs l[k].w.name)) rfl
  have yb3 := row_cells rb (Below.refl _ _) 3 (.string (bs l'[k].w.name)) rfl
  have xa4 := row_cells ra (Below.refl _ _) 4 (.int .i64 l[k].w.n) rfl
  have yb4 := row_cells rb (Below.refl _ _) 4 (.int .i64 l'[k].w.n) rfl
  have xa5 := row_cells ra (Below.refl _ _) 5 (.int .i64 l[k].w.w) rfl
  have yb5 := row_cells rb (Below.refl _ _) 5 (.int .i64 l'[k].w.w) rfl
  have xa6 := row_cells ra (Below.refl _ _) 6 (.int .u64 l[k].w.v) rfl
  have yb6 := row_cells rb (Below.refl _ _) 6 (.int .u64 l'[k].w.v) rfl
  have xa7 := row_cells ra (Below.refl _ _) 7 (.slice pa5 l[k].w.l.length ca5) rfl
  have yb7 := row_cells rb (Below.refl _ _) 7 (.slice pb5 l'[k].w.l.length cb5) rfl
  have BB := Lib.hid (BA.alloc (by simp) (.cells #[.string (bs l'[k].name), .bool l'[k].out, .int .i64 l'[k].w.op, .string (bs l'[k].w.name), .int .i64 l'[k].w.n, .int .i64 l'[k].w.w, .int .u64 l'[k].w.v, .slice pb5 l'[k].w.l.length cb5] 114))
  have HNX := Lib.hid (fun (h : eqb l[k] l'[k] = true) => show l.take (k + 1) = l'.take (k + 1) by
   rw [List.take_succ_eq_append_getElem hlt, List.take_succ_eq_append_getElem hly, HA.out, eqb_true h])
  have HNO := Lib.hid (fun (h : eqb l[k] l'[k] = false) => show eqb l l' = false from eqb_no (fun e => by
   subst e
   exact eqb_false h rfl))
  clear ra rb hcs hds BA
  generalize l[k] = x at *
  generalize l'[k] = y at *
  cases hok : eqb x y with
  | true =>
   have HOK := Lib.hid (HNX.out hok)
   have HY := Lib.hid hok
   clear hok
   go_wp2_with (go_at_call 141; refine (HEL.out y _ [.string (bs x.name), .bool x.out, .int .i64 x.w.op, .string (bs x.w.name), .int .i64 x.w.n, .int .i64 x.w.w, .int .u64 x.w.v, .slice pa5 x.w.l.length ca5] [.string (bs y.name), .bool y.out, .int .i64 y.w.op, .string (bs y.w.name), .int .i64 y.w.n, .int .i64 y.w.w, .int .u64 y.w.v, .slice pb5 y.w.l.length cb5] (PR.later BB.out _ _ hRr.out) (PR.later BB.out _ _ hRr'.out)).mono ?_; rintro e W5 ⟨rfl, h2⟩; have H2 := Lib.hid h2; clear h2; rw [HY.out])
   go_roundw
   case rel => exact ⟨k + 1, by go_num, hlt, Lib.hid (HW.out.trans ((BB.out.trans (H2.out.mono BB.out.size)).mono HW.out.size)), HOK⟩
   case measure => simp [intOf]; omega
  | false =>
   have HOK := Lib.hid (HNO.out hok)
   have HY := Lib.hid hok
   clear hok
   go_wp2_with (go_at_call 141; refine (HEL.out y _ [.string (bs x.name), .bool x.out, .int .i64 x.w.op, .string (bs x.w.name), .int .i64 x.w.n, .int .i64 x.w.w, .int .u64 x.w.v, .slice pa5 x.w.l.length ca5] [.string (bs y.name), .bool y.out, .int .i64 y.w.op, .string (bs y.w.name), .int .i64 y.w.n, .int .i64 y.w.w, .int .u64 y.w.v, .slice pb5 y.w.l.length cb5] (PR.later BB.out _ _ hRr.out) (PR.later BB.out _ _ hRr'.out)).mono ?_; rintro e W5 ⟨rfl, h2⟩; have H2 := Lib.hid h2; clear h2; rw [HY.out])
   go_ret
   exact ⟨ret_bool HOK.out.symm, HW.out.trans ((BB.out.trans (H2.out.mono BB.out.size)).mono HW.out.size)⟩
theorem sameP_any : ∀ x : Pt, sizeP x ≤ 1000000000 → SameP x := by
 intro x hsz y W cs ds hx hy
 unfold sizeP at hsz
 obtain ⟨xa, rfl, ha1⟩ := hx
 have ga1 := ha1
 obtain ⟨_, la, rfl, ha5⟩ := XR_iff.1 ha1
 obtain ⟨pa5, ca5, rfl, _⟩ := ha5
 obtain ⟨xb, rfl, hb1⟩ := hy
 have gb1 := hb1
 obtain ⟨_, lb, rfl, hb5⟩ := XR_iff.1 hb1
 obtain ⟨pb5, cb5, rfl, _⟩ := hb5
 have Hw := Lib.hid (fun (W9 : World) (h : Below W.heap.size W W9) => sameX_any x.w (by omega) y.w W9 _ _ (XR.later h _ _ ga1) (XR.later h _ _ gb1))
 obtain ⟨R, hR⟩ : ∃ R, R = eqb x y := ⟨_, rfl⟩
 have hcase : (((bs x.name).toList == (bs y.name).toList) = false ∧ R = false) ∨ (((bs x.name).toList == (bs y.name).toList) = true ∧ (x.out == y.out) = false ∧ R = false) ∨ (((bs x.name).toList == (bs y.name).toList) = true ∧ (x.out == y.out) = true ∧ eqb x.w y.w = false ∧ R = false) ∨ (((bs x.name).toList == (bs y.name).toList) = true ∧ (x.out == y.out) = true ∧ eqb x.w y.w = true ∧ R = true) := by
  try simp only [nat_eqb]
  simp only [int_eqb, str_eqb, bool_eqb]
  cases e0 : eqb x.name y.name with
  | false => exact .inl ⟨rfl, by rw [hR]; exact eqb_no (fun e => eqb_false e0 (by rw [e]))⟩
  | true =>
   cases e1 : eqb x.out y.out with
   | false => exact .inr (.inl ⟨rfl, rfl, by rw [hR]; exact eqb_no (fun e => eqb_false e1 (by rw [e]))⟩)
   | true =>
    cases e2 : eqb x.w y.w with
    | false => exact .inr (.inr (.inl ⟨rfl, rfl, rfl, by rw [hR]; exact eqb_no (fun e => eqb_false e2 (by rw [e]))⟩))
    | true =>
     refine .inr (.inr (.inr (⟨rfl, rfl, rfl, ?_⟩)))
     rw [hR]; exact eqb_yes (extP ⟨eqb_true e0, eqb_true e1, eqb_true e2⟩)
 rw [← hR]
 clear hR hsz
 obtain ⟨ra, rb⟩ := two_rows W #[.string (bs x.name), .bool x.out, .int .i64 x.w.op, .string (bs x.w.name), .int .i64 x.w.n, .int .i64 x.w.w, .int .u64 x.w.v, .slice pa5 x.w.l.length ca5] #[.string (bs y.name), .bool y.out, .int .i64 y.w.op, .string (bs y.w.name), .int .i64 y.w.n, .int .i64 y.w.w, .int .u64 y.w.v, .slice pb5 y.w.l.length cb5] 114 114
 obtain ⟨V, hV⟩ : ∃ V, V = (W.alloc (.cells #[.string (bs x.name), .bool x.out, .int .i64 x.w.op, .string (bs x.w.name), .int .i64 x.w.n, .int .i64 x.w.w, .int .u64 x.w.v, .slice pa5 x.w.l.length ca5] 114)).alloc (.cells #[.string (bs y.name), .bool y.out, .int .i64 y.w.op, .string (bs y.w.name), .int .i64 y.w.n, .int .i64 y.w.w, .int .u64 y.w.v, .slice pb5 y.w.l.length cb5] 114) := ⟨_, rfl⟩
 rw [← hV] at ra rb
 have XV := Lib.hid (show Below W.heap.size W V by rw [hV]; exact ((Below.refl _ _).alloc (Nat.le_refl _) _).alloc (by simp) _)
 have HSx := Lib.hid (show ∀ w', Below V.heap.size V w' → w'.cell? ⟨W.heap.size, 0, none⟩ = some (.string (bs x.name)) ∧ w'.cell? ⟨W.heap.size, 1, none⟩ = some (.bool x.out) ∧ w'.cell? ⟨W.heap.size, 2, none⟩ = some (.int .i64 x.w.op) ∧ w'.cell? ⟨W.heap.size, 3, none⟩ = some (.string (bs x.w.name)) ∧ w'.cell? ⟨W.heap.size, 4, none⟩ = some (.int .i64 x.w.n) ∧ w'.cell? ⟨W.heap.size, 5, none⟩ = some (.int .i64 x.w.w) ∧ w'.cell? ⟨W.heap.size, 6, none⟩ = some (.int .u64 x.w.v) ∧ w'.cell? ⟨W.heap.size, 7, none⟩ = some (.slice pa5 x.w.l.length ca5) ∧ w'.cell? ⟨W.heap.size + 1, 0, none⟩ = some (.string (bs y.name)) ∧ w'.cell? ⟨W.heap.size + 1, 1, none⟩ = some (.bool y.out) ∧ w'.cell? ⟨W.heap.size + 1, 2, none⟩ = some (.int .i64 y.w.op) ∧ w'.cell? ⟨W.heap.size + 1, 3, none⟩ = some (.string (bs y.w.name)) ∧ w'.cell? ⟨W.heap.size + 1, 4, none⟩ = some (.int .i64 y.w.n) ∧ w'.cell? ⟨W.heap.size + 1, 5, none⟩ = some (.int .i64 y.w.w) ∧ w'.cell? ⟨W.heap.size + 1, 6, none⟩ = some (.int .u64 y.w.v) ∧ w'.cell? ⟨W.heap.size + 1, 7, none⟩ = some (.slice pb5 y.w.l.length cb5) from fun w' h => ⟨row_cells ra h 0 _ rfl, row_cells ra h 1 _ rfl, row_cells ra h 2 _ rfl, row_cells ra h 3 _ rfl, row_cells ra h 4 _ rfl, row_cells ra h 5 _ rfl, row_cells ra h 6 _ rfl, row_cells ra h 7 _ rfl, row_cells rb h 0 _ rfl, row_cells rb h 1 _ rfl, row_cells rb h 2 _ rfl, row_cells rb h 3 _ rfl, row_cells rb h 4 _ rfl, row_cells rb h 5 _ rfl, row_cells rb h 6 _ rfl, row_cells rb h 7 _ rfl⟩)
 clear ra rb
 obtain ⟨z0, z1, z2, z3, z4, z5, z6, z7, z8, z9, z10, z11, z12, z13, z14, z15⟩ := HSx.out _ (Below.refl _ _)
 rcases hcase with ⟨h0, rfl⟩ | ⟨h0, h1, rfl⟩ | ⟨h0, h1, h2, rfl⟩ | ⟨h0, h1, h2, rfl⟩
 all_goals
  go_enter Tryz.func141, Tryz.ntmps141
  go_wp2_with fail
  rw [← hV]
  clear hV
  generalize W.heap.size + 1 = b1 at *
  have Z0 := Lib.hid (Below.refl V.heap.size V)
  have F0 := True.intro
  go_wp2_with (first
   | (go_at_call 32; clear F0; refine (Hw.out _ (XV.out.trans (Z0.out.mono XV.out.size))).mono ?_; rintro e W1 ⟨rfl, hb⟩; rw [h2]; have Z1 := Lib.hid (Z0.out.trans (hb.mono Z0.out.size)); obtain ⟨z0, z1, z2, z3, z4, z5, z6, z7, z8, z9, z10, z11, z12, z13, z14, z15⟩ := HSx.out _ Z1.out; clear hb))
  go_ret
  exact ⟨rfl, XV.out.trans (Below.mono (by first | exact Z1.out | exact Z0.out) XV.out.size)⟩
theorem extI {x y : It} (f : x.op = y.op ∧ x.name = y.name ∧ x.of = y.of ∧ x.x = y.x ∧ x.s = y.s ∧ x.l = y.l ∧ x.e = y.e ∧ x.ps = y.ps ∧ x.bs = y.bs) : x = y := by
 obtain ⟨_, _, _, _, _, _, _, _, _⟩ := x; obtain ⟨_, _, _, _, _, _, _, _, _⟩ := y
 simp only [It.op, It.name, It.of, It.x, It.s, It.l, It.e, It.ps, It.bs] at f
 obtain ⟨rfl, rfl, rfl, rfl, rfl, rfl, rfl, rfl, rfl⟩ := f
 rfl
def SameI (y : It) : Prop := ∀ (z : It) (W : World) (cs ds : List Value), IR W y cs → IR W z ds → Calls Tryz.prog 143 #[.agg cs.toArray, .agg ds.toArray] W fun e W' => e = .returned (.bool (eqb y z)) ∧ Below W.heap.size W W'
theorem equalI_any (v v' : Value) (l l' : List It) (hl : l.length ≤ 1000000000) (W : World) (hR : Els W 9 (IR W) v l) (hR' : Els W 9 (IR W) v' l') (hE : ∀ y ∈ l, SameI y) :
  Calls Tryz.prog 142 #[v, v', .func (.func 143) #[] #[]] W fun e W' => e = .returned (.bool (eqb l l')) ∧ Below W.heap.size W W' := by
 obtain ⟨p, cap, rfl, hcap, hcell⟩ := hR
 obtain ⟨p', cap', rfl, hcap', hcell'⟩ := hR'
 have HE := Lib.hid hE
 have HC := Lib.hid hcell
 have HC' := Lib.hid hcell'
 clear hE hcell hcell'
 by_cases hll : l.length = l'.length
 case neg =>
  have hi : ¬ (l.length : Int) = (l'.length : Int) := by omega
  have HN := Lib.hid (eqb_no (fun e : l = l' => hll (by rw [e])))
  go_enter Tryz.func142, Tryz.ntmps142
  go_wp2
  go_ret
  exact ⟨ret_bool HN.out.symm, Below.refl _ _⟩
 have HLL := Lib.hid hll
 have hi : (l.length : Int) = (l'.length : Int) := by omega
 clear hll
 go_enter Tryz.func142, Tryz.ntmps142
 go_wp2
 go_loopw [17] (fun i wr => ∃ k : Nat, i = .int .i64 k ∧ k ≤ l.length ∧ Hid (Below W.heap.size W wr) ∧ Hid (l.take k = l'.take k)) (fun i _ => l.length - (intOf i).toNat)
 case atStart => exact ⟨0, rfl, Nat.zero_le _, Lib.hid (Below.refl _ _), Lib.hid rfl⟩
 case round =>
  obtain ⟨k, rfl, hk, HW, HA⟩ := hrel
  by_cases hlt : k < l.length
  case neg =>
   have hge : ¬ ((k : Int) < (l.length : Int)) := by omega
   have HALL := Lib.hid (show eqb l l' = true from eqb_yes (by
    have := HA.out
    rwa [List.take_of_length_le (by omega), List.take_of_length_le (by have := HLL.out; omega)] at this))
   go_wp2
   go_ret
   exact ⟨ret_bool HALL.out.symm, HW.out⟩
  have hlt' : (k : Int) < (l.length : Int) := by omega
  have hly : k < l'.length := by have := HLL.out; omega
  rcases HC.out with hc | ⟨q, off, rfl, hq, hc⟩
  ·subst hc; simp at hlt
  rcases HC'.out with hc' | ⟨q', off', rfl, hq', hc'⟩
  ·subst hc'; simp at hly
  obtain ⟨cs, hR, hcs⟩ := hc k hlt
  obtain ⟨ds, hR', hds⟩ := hc' k hly
  have hB := HW.out
  have HEL := Lib.hid (HE.out _ (List.getElem_mem hlt))
  have hR0 := Lib.hid hR
  have hR0' := Lib.hid hR'
  clear hR hc hR' hc'
  obtain ⟨xsa, ssa, lsa, esa, vpa, vba, rfl, ha3, ha4, ha7, ha8, ha5, ha6⟩ := IR_iff.1 hR0.out
  have ga3 := ha3
  obtain ⟨pa3, ca3, rfl, _⟩ := ha3
  have ga4 := ha4
  obtain ⟨pa4, ca4, rfl, _⟩ := ha4
  have ga5 := ha5
  obtain ⟨pa5, ca5, rfl, _⟩ := ha5
  have ga6 := ha6
  obtain ⟨pa6, ca6, rfl, _⟩ := ha6
  have ga7 := ha7
  obtain ⟨pa7, ca7, rfl, _⟩ := ha7
  have ga8 := ha8
  obtain ⟨pa8, ca8, rfl, _⟩ := ha8
  obtain ⟨xsb, ssb, lsb, esb, vpb, vbb, rfl, hb3, hb4, hb7, hb8, hb5, hb6⟩ := IR_iff.1 hR0'.out
  have gb3 := hb3
  obtain ⟨pb3, cb3, rfl, _⟩ := hb3
  have gb4 := hb4
  obtain ⟨pb4, cb4, rfl, _⟩ := hb4
  have gb5 := hb5
  obtain ⟨pb5, cb5, rfl, _⟩ := hb5
  have gb6 := hb6
  obtain ⟨pb6, cb6, rfl, _⟩ := hb6
  have gb7 := hb7
  obtain ⟨pb7, cb7, rfl, _⟩ := hb7
  have gb8 := hb8
  obtain ⟨pb8, cb8, rfl, _⟩ := hb8
  have hRr := Lib.hid (IR.later hB _ _ hR0.out)
  have hRr' := Lib.hid (IR.later hB _ _ hR0'.out)
  have x0 := (hB.cell (p := ⟨q, off + k * 9 + 0, none⟩) hq).trans (hcs 0 (by omega))
  have x1 := (hB.cell (p := ⟨q, off + k * 9 + 1, none⟩) hq).trans (hcs 1 (by omega))
  have x2 := (hB.cell (p := ⟨q, off + k * 9 + 2, none⟩) hq).trans (hcs 2 (by omega))
  have x3 := (hB.cell (p := ⟨q, off + k * 9 + 3, none⟩) hq).trans (hcs 3 (by omega))
  have x4 := (hB.cell (p := ⟨q, off + k * 9 + 4, none⟩) hq).trans (hcs 4 (by omega))
  have x5 := (hB.cell (p := ⟨q, off + k * 9 + 5, none⟩) hq).trans (hcs 5 (by omega))
  have x6 := (hB.cell (p := ⟨q, off + k * 9 + 6, none⟩) hq).trans (hcs 6 (by omega))
  have x7 := (hB.cell (p := ⟨q, off + k * 9 + 7, none⟩) hq).trans (hcs 7 (by omega))
  have x8 := (hB.cell (p := ⟨q, off + k * 9 + 8, none⟩) hq).trans (hcs 8 (by omega))
  have BA := (Below.refl wr.heap.size wr).alloc (Nat.le_refl _) (.cells #[.int .i64 l[k].op, .string (bs l[k].name), .string (bs l[k].of), .slice pa3 l[k].x.length ca3, .slice pa4 l[k].s.length ca4, .slice pa5 l[k].l.length ca5, .slice pa6 l[k].e.length ca6, .slice pa7 l[k].ps.length ca7, .slice pa8 l[k].bs.length ca8] 133)
  have y0 := (BA.cell (p := ⟨q', off' + k * 9 + 0, none⟩) (Nat.lt_of_lt_of_le hq' hB.size)).trans ((hB.cell (p := ⟨q', off' + k * 9 + 0, none⟩) hq').trans (hds 0 (by omega)))
  have y1 := (BA.cell (p := ⟨q', off' + k * 9 + 1, none⟩) (Nat.lt_of_lt_of_le hq' hB.size)).trans ((hB.cell (p := ⟨q', off' + k * 9 + 1, none⟩) hq').trans (hds 1 (by omega)))
  have y2 := (BA.cell (p := ⟨q', off' + k * 9 + 2, none⟩) (Nat.lt_of_lt_of_le hq' hB.size)).trans ((hB.cell (p := ⟨q', off' + k * 9 + 2, none⟩) hq').trans (hds 2 (by omega)))
  have y3 := (BA.cell (p := ⟨q', off' + k * 9 + 3, none⟩) (Nat.lt_of_lt_of_le hq' hB.size)).trans ((hB.cell (p := ⟨q', off' + k * 9 + 3, none⟩) hq').trans (hds 3 (by omega)))
  have y4 := (BA.cell (p := ⟨q', off' + k * 9 + 4, none⟩) (Nat.lt_of_lt_of_le hq' hB.size)).trans ((hB.cell (p := ⟨q', off' + k * 9 + 4, none⟩) hq').trans (hds 4 (by omega)))
  have y5 := (BA.cell (p := ⟨q', off' + k * 9 + 5, none⟩) (Nat.lt_of_lt_of_le hq' hB.size)).trans ((hB.cell (p := ⟨q', off' + k * 9 + 5, none⟩) hq').trans (hds 5 (by omega)))
  have y6 := (BA.cell (p := ⟨q', off' + k * 9 + 6, none⟩) (Nat.lt_of_lt_of_le hq' hB.size)).trans ((hB.cell (p := ⟨q', off' + k * 9 + 6, none⟩) hq').trans (hds 6 (by omega)))
  have y7 := (BA.cell (p := ⟨q', off' + k * 9 + 7, none⟩) (Nat.lt_of_lt_of_le hq' hB.size)).trans ((hB.cell (p := ⟨q', off' + k * 9 + 7, none⟩) hq').trans (hds 7 (by omega)))
  have y8 := (BA.cell (p := ⟨q', off' + k * 9 + 8, none⟩) (Nat.lt_of_lt_of_le hq' hB.size)).trans ((hB.cell (p := ⟨q', off' + k * 9 + 8, none⟩) hq').trans (hds 8 (by omega)))
  simp only [Nat.add_zero, List.getElem?_cons_zero, List.getElem?_cons_succ] at x0 y0 x1 y1 x2 y2 x3 y3 x4 y4 x5 y5 x6 y6 x7 y7 x8 y8
  obtain ⟨ra, rb⟩ := two_rows wr #[.int .i64 l[k].op, .string (bs l[k].name), .string (bs l[k].of), .slice pa3 l[k].x.length ca3, .slice pa4 l[k].s.length ca4, .slice pa5 l[k].l.length ca5, .slice pa6 l[k].e.length ca6, .slice pa7 l[k].ps.length ca7, .slice pa8 l[k].bs.length ca8] #[.int .i64 l'[k].op, .string (bs l'[k].name), .string (bs l'[k].of), .slice pb3 l'[k].x.length cb3, .slice pb4 l'[k].s.length cb4, .slice pb5 l'[k].l.length cb5, .slice pb6 l'[k].e.length cb6, .slice pb7 l'[k].ps.length cb7, .slice pb8 l'[k].bs.length cb8] 133 133
  have xa0 := row_cells ra (Below.refl _ _) 0 (.int .i64 l[k].op) rfl
  have yb0 := row_cells rb (Below.refl _ _) 0 (.int .i64 l'[k].op) rfl
  have xa1 := row_cells ra (Below.refl _ _) 1 (.string (bs l[k].name)) rfl
  have yb1 := row_cells rb (Below.refl _ _) 1 (.string (bs l'[k].name)) rfl
  have xa2 := row_cells ra (Below.refl _ _) 2 (.string (bs l[k].of)) rfl
  have yb2 := row_cells rb (Below.refl _ _) 2 (.string (bs l'[k].of)) rfl
  have xa3 := row_cells ra (Below.refl _ _) 3 (.slice pa3 l[k].x.length ca3) rfl
  have yb3 := row_cells rb (Below.refl _ _) 3 (.slice pb3 l'[k].x.length cb3) rfl
  have xa4 := row_cells ra (Below.refl _ _) 4 (.slice pa4 l[k].s.length ca4) rfl
  have yb4 := row_cells rb (Below.refl _ _) 4 (.slice pb4 l'[k].s.length cb4) rfl
  have xa5 := row_cells ra (Below.refl _ _) 5 (.slice pa5 l[k].l.length ca5) rfl
  have yb5 := row_cells rb (Below.refl _ _) 5 (.slice pb5 l'[k].l.length cb5) rfl
  have xa6 := row_cells ra (Below.refl _ _) 6 (.slice pa6 l[k].e.length ca6) rfl
  have yb6 := row_cells rb (Below.refl _ _) 6 (.slice pb6 l'[k].e.length cb6) rfl
  have xa7 := row_cells ra (Below.refl _ _) 7 (.slice pa7 l[k].ps.length ca7) rfl
  have yb7 := row_cells rb (Below.refl _ _) 7 (.slice pb7 l'[k].ps.length cb7) rfl
  have xa8 := row_cells ra (Below.refl _ _) 8 (.slice pa8 l[k].bs.length ca8) rfl
  have yb8 := row_cells rb (Below.refl _ _) 8 (.slice pb8 l'[k].bs.length cb8) rfl
  have BB := Lib.hid (BA.alloc (by simp) (.cells #[.int .i64 l'[k].op, .string (bs l'[k].name), .string (bs l'[k].of), .slice pb3 l'[k].x.length cb3, .slice pb4 l'[k].s.length cb4, .slice pb5 l'[k].l.length cb5, .slice pb6 l'[k].e.length cb6, .slice pb7 l'[k].ps.length cb7, .slice pb8 l'[k].bs.length cb8] 133))
  have HNX := Lib.hid (fun (h : eqb l[k] l'[k] = true) => show l.take (k + 1) = l'.take (k + 1) by
   rw [List.take_succ_eq_append_getElem hlt, List.take_succ_eq_append_getElem hly, HA.out, eqb_true h])
  have HNO := Lib.hid (fun (h : eqb l[k] l'[k] = false) => show eqb l l' = false from eqb_no (fun e => by
   subst e
   exact eqb_false h rfl))
  clear ra rb hcs hds BA
  generalize l[k] = x at *
  generalize l'[k] = y at *
  cases hok : eqb x y with
  | true =>
   have HOK := Lib.hid (HNX.out hok)
   have HY := Lib.hid hok
   clear hok
   go_wp2_with (go_at_call 143; refine (HEL.out y _ [.int .i64 x.op, .string (bs x.name), .string (bs x.of), .slice pa3 x.x.length ca3, .slice pa4 x.s.length ca4, .slice pa5 x.l.length ca5, .slice pa6 x.e.length ca6, .slice pa7 x.ps.length ca7, .slice pa8 x.bs.length ca8] [.int .i64 y.op, .string (bs y.name), .string (bs y.of), .slice pb3 y.x.length cb3, .slice pb4 y.s.length cb4, .slice pb5 y.l.length cb5, .slice pb6 y.e.length cb6, .slice pb7 y.ps.length cb7, .slice pb8 y.bs.length cb8] (IR.later BB.out _ _ hRr.out) (IR.later BB.out _ _ hRr'.out)).mono ?_; rintro e W5 ⟨rfl, h2⟩; have H2 := Lib.hid h2; clear h2; rw [HY.out])
   go_roundw
   case rel => exact ⟨k + 1, by go_num, hlt, Lib.hid (HW.out.trans ((BB.out.trans (H2.out.mono BB.out.size)).mono HW.out.size)), HOK⟩
   case measure => simp [intOf]; omega
  | false =>
   have HOK := Lib.hid (HNO.out hok)
   have HY := Lib.hid hok
   clear hok
   go_wp2_with (go_at_call 143; refine (HEL.out y _ [.int .i64 x.op, .string (bs x.name), .string (bs x.of), .slice pa3 x.x.length ca3, .slice pa4 x.s.length ca4, .slice pa5 x.l.length ca5, .slice pa6 x.e.length ca6, .slice pa7 x.ps.length ca7, .slice pa8 x.bs.length ca8] [.int .i64 y.op, .string (bs y.name), .string (bs y.of), .slice pb3 y.x.length cb3, .slice pb4 y.s.length cb4, .slice pb5 y.l.length cb5, .slice pb6 y.e.length cb6, .slice pb7 y.ps.length cb7, .slice pb8 y.bs.length cb8] (IR.later BB.out _ _ hRr.out) (IR.later BB.out _ _ hRr'.out)).mono ?_; rintro e W5 ⟨rfl, h2⟩; have H2 := Lib.hid h2; clear h2; rw [HY.out])
   go_ret
   exact ⟨ret_bool HOK.out.symm, HW.out.trans ((BB.out.trans (H2.out.mono BB.out.size)).mono HW.out.size)⟩
theorem sameI_any : ∀ x : It, sizeI x ≤ 1000000000 → SameI x := by
 refine It.ind ?_
 intro x ih ih2 hsz y W cs ds hx hy
 obtain ⟨op, name, f, xs, ss, l, e, ps, bb⟩ := x
 rw [sizeI, sizeXs_sum, sizeSs_sum, sizeIs_sum, sizeIs_sum] at hsz
 change sumN sizeX (It.mk op name f xs ss l e ps bb).x + sumN sizeS (It.mk op name f xs ss l e ps bb).s + sumN sizeI (It.mk op name f xs ss l e ps bb).l + sumN sizeI (It.mk op name f xs ss l e ps bb).e + sumN sizeB (It.mk op name f xs ss l e ps bb).ps + sumN sizeB (It.mk op name f xs ss l e ps bb).bs + 1 ≤ _ at hsz
 generalize It.mk op name f xs ss l e ps bb = x at *
 obtain ⟨xsa, ssa, lsa, esa, vpa, vba, rfl, ha3, ha4, ha7, ha8, ha5, ha6⟩ := IR_iff.1 hx
 have ga3 := ha3
 obtain ⟨pa3, ca3, rfl, _⟩ := ha3
 have ga4 := ha4
 obtain ⟨pa4, ca4, rfl, _⟩ := ha4
 have ga5 := ha5
 obtain ⟨pa5, ca5, rfl, _⟩ := ha5
 have ga6 := ha6
 obtain ⟨pa6, ca6, rfl, _⟩ := ha6
 have ga7 := ha7
 obtain ⟨pa7, ca7, rfl, _⟩ := ha7
 have ga8 := ha8
 obtain ⟨pa8, ca8, rfl, _⟩ := ha8
 obtain ⟨xsb, ssb, lsb, esb, vpb, vbb, rfl, hb3, hb4, hb7, hb8, hb5, hb6⟩ := IR_iff.1 hy
 have gb3 := hb3
 obtain ⟨pb3, cb3, rfl, _⟩ := hb3
 have gb4 := hb4
 obtain ⟨pb4, cb4, rfl, _⟩ := hb4
 have gb5 := hb5
 obtain ⟨pb5, cb5, rfl, _⟩ := hb5
 have gb6 := hb6
 obtain ⟨pb6, cb6, rfl, _⟩ := hb6
 have gb7 := hb7
 obtain ⟨pb7, cb7, rfl, _⟩ := hb7
 have gb8 := hb8
 obtain ⟨pb8, cb8, rfl, _⟩ := hb8
 have Hx := Lib.hid (fun (W9 : World) (h : Below W.heap.size W W9) => equalX_any _ _ x.x y.x (by have := sumN_len sizeX one_sizeX x.x; omega) W9 (Els.later ga3 h (fun z _ => XR.later h z)) (Els.later gb3 h (fun z _ => XR.later h z)) (fun z hz => sameX_any z (by have := sumN_mem sizeX hz; omega)))
 have Hs := Lib.hid (fun (W9 : World) (h : Below W.heap.size W W9) => equalS_any _ _ x.s y.s (by have := sumN_len sizeS one_sizeS x.s; omega) W9 (Els.later ga4 h (fun z _ => SR.later h z)) (Els.later gb4 h (fun z _ => SR.later h z)) (fun z hz => sameS_any z (by have := sumN_mem sizeS hz; omega)))
 have Hl := Lib.hid (fun (W9 : World) (h : Below W.heap.size W W9) => equalI_any _ _ x.l y.l (by have := sumN_len sizeI one_sizeI x.l; omega) W9 (Els.later ga5 h (fun z _ => IR.later h z)) (Els.later gb5 h (fun z _ => IR.later h z)) (fun z hz => ih z hz (by have := sumN_mem sizeI hz; omega)))
 have He := Lib.hid (fun (W9 : World) (h : Below W.heap.size W W9) => equalI_any _ _ x.e y.e (by have := sumN_len sizeI one_sizeI x.e; omega) W9 (Els.later ga6 h (fun z _ => IR.later h z)) (Els.later gb6 h (fun z _ => IR.later h z)) (fun z hz => ih2 z hz (by have := sumN_mem sizeI hz; omega)))
 have Hps := Lib.hid (fun (W9 : World) (h : Below W.heap.size W W9) => equalB_any _ _ x.ps y.ps (by have := sumN_len sizeB (fun b => by unfold sizeB; omega) x.ps; omega) W9 (Els.later ga7 h (fun z _ => BR.later h z)) (Els.later gb7 h (fun z _ => BR.later h z)) (fun z hz => sameB_any z (by have := sumN_mem sizeB hz; omega)))
 have Hbs := Lib.hid (fun (W9 : World) (h : Below W.heap.size W W9) => equalB_any _ _ x.bs y.bs (by have := sumN_len sizeB (fun b => by unfold sizeB; omega) x.bs; omega) W9 (Els.later ga8 h (fun z _ => BR.later h z)) (Els.later gb8 h (fun z _ => BR.later h z)) (fun z hz => sameB_any z (by have := sumN_mem sizeB hz; omega)))
 obtain ⟨R, hR⟩ : ∃ R, R = eqb x y := ⟨_, rfl⟩
 have hcase : ((x.op == y.op) = false ∧ R = false) ∨ ((x.op == y.op) = true ∧ ((bs x.name).toList == (bs y.name).toList) = false ∧ R = false) ∨ ((x.op == y.op) = true ∧ ((bs x.name).toList == (bs y.name).toList) = true ∧ ((bs x.of).toList == (bs y.of).toList) = false ∧ R = false) ∨ ((x.op == y.op) = true ∧ ((bs x.name).toList == (bs y.name).toList) = true ∧ ((bs x.of).toList == (bs y.of).toList) = true ∧ eqb x.x y.x = false ∧ R = false) ∨ ((x.op == y.op) = true ∧ ((bs x.name).toList == (bs y.name).toList) = true ∧ ((bs x.of).toList == (bs y.of).toList) = true ∧ eqb x.x y.x = true ∧ eqb x.s y.s = false ∧ R = false) ∨ ((x.op == y.op) = true ∧ ((bs x.name).toList == (bs y.name).toList) = true ∧ ((bs x.of).toList == (bs y.of).toList) = true ∧ eqb x.x y.x = true ∧ eqb x.s y.s = true ∧ eqb x.l y.l = false ∧ R = false) ∨ ((x.op == y.op) = true ∧ ((bs x.name).toList == (bs y.name).toList) = true ∧ ((bs x.of).toList == (bs y.of).toList) = true ∧ eqb x.x y.x = true ∧ eqb x.s y.s = true ∧ eqb x.l y.l = true ∧ eqb x.e y.e = false ∧ R = false) ∨ ((x.op == y.op) = true ∧ ((bs x.name).toList == (bs y.name).toList) = true ∧ ((bs x.of).toList == (bs y.of).toList) = true ∧ eqb x.x y.x = true ∧ eqb x.s y.s = true ∧ eqb x.l y.l = true ∧ eqb x.e y.e = true ∧ eqb x.ps y.ps = false ∧ R = false) ∨ ((x.op == y.op) = true ∧ ((bs x.name).toList == (bs y.name).toList) = true ∧ ((bs x.of).toList == (bs y.of).toList) = true ∧ eqb x.x y.x = true ∧ eqb x.s y.s = true ∧ eqb x.l y.l = true ∧ eqb x.e y.e = true ∧ eqb x.ps y.ps = true ∧ eqb x.bs y.bs = false ∧ R = false) ∨ ((x.op == y.op) = true ∧ ((bs x.name).toList == (bs y.name).toList) = true ∧ ((bs x.of).toList == (bs y.of).toList) = true ∧ eqb x.x y.x = true ∧ eqb x.s y.s = true ∧ eqb x.l y.l = true ∧ eqb x.e y.e = true ∧ eqb x.ps y.ps = true ∧ eqb x.bs y.bs = true ∧ R = true) := by
  try simp only [nat_eqb]
  simp only [int_eqb, str_eqb, bool_eqb]
  cases e0 : eqb x.op y.op with
  | false => exact .inl ⟨rfl, by rw [hR]; exact eqb_no (fun e => eqb_false e0 (by rw [e]))⟩
  | true =>
   cases e1 : eqb x.name y.name with
   | false => exact .inr (.inl ⟨rfl, rfl, by rw [hR]; exact eqb_no (fun e => eqb_false e1 (by rw [e]))⟩)
   | true =>
    cases e2 : eqb x.of y.of with
    | false => exact .inr (.inr (.inl ⟨rfl, rfl, rfl, by rw [hR]; exact eqb_no (fun e => eqb_false e2 (by rw [e]))⟩))
    | true =>
     cases e3 : eqb x.x y.x with
     | false => exact .inr (.inr (.inr (.inl ⟨rfl, rfl, rfl, rfl, by rw [hR]; exact eqb_no (fun e => eqb_false e3 (by rw [e]))⟩)))
     | true =>
      cases e4 : eqb x.s y.s with
      | false => exact .inr (.inr (.inr (.inr (.inl ⟨rfl, rfl, rfl, rfl, rfl, by rw [hR]; exact eqb_no (fun e => eqb_false e4 (by rw [e]))⟩))))
      | true =>
       cases e5 : eqb x.l y.l with
       | false => exact .inr (.inr (.inr (.inr (.inr (.inl ⟨rfl, rfl, rfl, rfl, rfl, rfl, by rw [hR]; exact eqb_no (fun e => eqb_false e5 (by rw [e]))⟩)))))
       | true =>
        cases e6 : eqb x.e y.e with
        | false => exact .inr (.inr (.inr (.inr (.inr (.inr (.inl ⟨rfl, rfl, rfl, rfl, rfl, rfl, rfl, by rw [hR]; exact eqb_no (fun e => eqb_false e6 (by rw [e]))⟩))))))
        | true =>
         cases e7 : eqb x.ps y.ps with
         | false => exact .inr (.inr (.inr (.inr (.inr (.inr (.inr (.inl ⟨rfl, rfl, rfl, rfl, rfl, rfl, rfl, rfl, by rw [hR]; exact eqb_no (fun e => eqb_false e7 (by rw [e]))⟩)))))))
         | true =>
          cases e8 : eqb x.bs y.bs with
          | false => exact .inr (.inr (.inr (.inr (.inr (.inr (.inr (.inr (.inl ⟨rfl, rfl, rfl, rfl, rfl, rfl, rfl, rfl, rfl, by rw [hR]; exact eqb_no (fun e => eqb_false e8 (by rw [e]))⟩))))))))
          | true =>
           refine .inr (.inr (.inr (.inr (.inr (.inr (.inr (.inr (.inr (⟨rfl, rfl, rfl, rfl, rfl, rfl, rfl, rfl, rfl, ?_⟩)))))))))
           rw [hR]; exact eqb_yes (extI ⟨eqb_true e0, eqb_true e1, eqb_true e2, eqb_true e3, eqb_true e4, eqb_true e5, eqb_true e6, eqb_true e7, eqb_true e8⟩)
 rw [← hR]
 clear hR hsz ih ih2
 obtain ⟨ra, rb⟩ := two_rows W #[.int .i64 x.op, .string (bs x.name), .string (bs x.of), .slice pa3 x.x.length ca3, .slice pa4 x.s.length ca4, .slice pa5 x.l.length ca5, .slice pa6 x.e.length ca6, .slice pa7 x.ps.length ca7, .slice pa8 x.bs.length ca8] #[.int .i64 y.op, .string (bs y.name), .string (bs y.of), .slice pb3 y.x.length cb3, .slice pb4 y.s.length cb4, .slice pb5 y.l.length cb5, .slice pb6 y.e.length cb6, .slice pb7 y.ps.length cb7, .slice pb8 y.bs.length cb8] 133 133
 obtain ⟨V, hV⟩ : ∃ V, V = (W.alloc (.cells #[.int .i64 x.op, .string (bs x.name), .string (bs x.of), .slice pa3 x.x.length ca3, .slice pa4 x.s.length ca4, .slice pa5 x.l.length ca5, .slice pa6 x.e.length ca6, .slice pa7 x.ps.length ca7, .slice pa8 x.bs.length ca8] 133)).alloc (.cells #[.int .i64 y.op, .string (bs y.name), .string (bs y.of), .slice pb3 y.x.length cb3, .slice pb4 y.s.length cb4, .slice pb5 y.l.length cb5, .slice pb6 y.e.length cb6, .slice pb7 y.ps.length cb7, .slice pb8 y.bs.length cb8] 133) := ⟨_, rfl⟩
 rw [← hV] at ra rb
 have XV := Lib.hid (show Below W.heap.size W V by rw [hV]; exact ((Below.refl _ _).alloc (Nat.le_refl _) _).alloc (by simp) _)
 have HSx := Lib.hid (show ∀ w', Below V.heap.size V w' → w'.cell? ⟨W.heap.size, 0, none⟩ = some (.int .i64 x.op) ∧ w'.cell? ⟨W.heap.size, 1, none⟩ = some (.string (bs x.name)) ∧ w'.cell? ⟨W.heap.size, 2, none⟩ = some (.string (bs x.of)) ∧ w'.cell? ⟨W.heap.size, 3, none⟩ = some (.slice pa3 x.x.length ca3) ∧ w'.cell? ⟨W.heap.size, 4, none⟩ = some (.slice pa4 x.s.length ca4) ∧ w'.cell? ⟨W.heap.size, 5, none⟩ = some (.slice pa5 x.l.length ca5) ∧ w'.cell? ⟨W.heap.size, 6, none⟩ = some (.slice pa6 x.e.length ca6) ∧ w'.cell? ⟨W.heap.size, 7, none⟩ = some (.slice pa7 x.ps.length ca7) ∧ w'.cell? ⟨W.heap.size, 8, none⟩ = some (.slice pa8 x.bs.length ca8) ∧ w'.cell? ⟨W.heap.size + 1, 0, none⟩ = some (.int .i64 y.op) ∧ w'.cell? ⟨W.heap.size + 1, 1, none⟩ = some (.string (bs y.name)) ∧ w'.cell? ⟨W.heap.size + 1, 2, none⟩ = some (.string (bs y.of)) ∧ w'.cell? ⟨W.heap.size + 1, 3, none⟩ = some (.slice pb3 y.x.length cb3) ∧ w'.cell? ⟨W.heap.size + 1, 4, none⟩ = some (.slice pb4 y.s.length cb4) ∧ w'.cell? ⟨W.heap.size + 1, 5, none⟩ = some (.slice pb5 y.l.length cb5) ∧ w'.cell? ⟨W.heap.size + 1, 6, none⟩ = some (.slice pb6 y.e.length cb6) ∧ w'.cell? ⟨W.heap.size + 1, 7, none⟩ = some (.slice pb7 y.ps.length cb7) ∧ w'.cell? ⟨W.heap.size + 1, 8, none⟩ = some (.slice pb8 y.bs.length cb8) from fun w' h => ⟨row_cells ra h 0 _ rfl, row_cells ra h 1 _ rfl, row_cells ra h 2 _ rfl, row_cells ra h 3 _ rfl, row_cells ra h 4 _ rfl, row_cells ra h 5 _ rfl, row_cells ra h 6 _ rfl, row_cells ra h 7 _ rfl, row_cells ra h 8 _ rfl, row_cells rb h 0 _ rfl, row_cells rb h 1 _ rfl, row_cells rb h 2 _ rfl, row_cells rb h 3 _ rfl, row_cells rb h 4 _ rfl, row_cells rb h 5 _ rfl, row_cells rb h 6 _ rfl, row_cells rb h 7 _ rfl, row_cells rb h 8 _ rfl⟩)
 clear ra rb
 obtain ⟨z0, z1, z2, z3, z4, z5, z6, z7, z8, z9, z10, z11, z12, z13, z14, z15, z16, z17⟩ := HSx.out _ (Below.refl _ _)
 rcases hcase with ⟨h0, rfl⟩ | ⟨h0, h1, rfl⟩ | ⟨h0, h1, h2, rfl⟩ | ⟨h0, h1, h2, h3, rfl⟩ | ⟨h0, h1, h2, h3, h4, rfl⟩ | ⟨h0, h1, h2, h3, h4, h5, rfl⟩ | ⟨h0, h1, h2, h3, h4, h5, h6, rfl⟩ | ⟨h0, h1, h2, h3, h4, h5, h6, h7, rfl⟩ | ⟨h0, h1, h2, h3, h4, h5, h6, h7, h8, rfl⟩ | ⟨h0, h1, h2, h3, h4, h5, h6, h7, h8, rfl⟩
 all_goals
  go_enter Tryz.func143, Tryz.ntmps143
  go_wp2_with fail
  rw [← hV]
  clear hV
  generalize W.heap.size + 1 = b1 at *
  have Z0 := Lib.hid (Below.refl V.heap.size V)
  have F0 := True.intro
  have F1 := True.intro
  have F2 := True.intro
  have F3 := True.intro
  have F4 := True.intro
  have F5 := True.intro
  go_wp2_with (first
   | (go_at_call 70; clear F0; refine (Hx.out _ (XV.out.trans (Z0.out.mono XV.out.size))).mono ?_; rintro e W1 ⟨rfl, hb⟩; rw [h3]; have Z1 := Lib.hid (Z0.out.trans (hb.mono Z0.out.size)); obtain ⟨z0, z1, z2, z3, z4, z5, z6, z7, z8, z9, z10, z11, z12, z13, z14, z15, z16, z17⟩ := HSx.out _ Z1.out; clear hb)
   | (go_at_call 71; clear F1; refine (Hs.out _ (XV.out.trans (Z1.out.mono XV.out.size))).mono ?_; rintro e W2 ⟨rfl, hb⟩; rw [h4]; have Z2 := Lib.hid (Z1.out.trans (hb.mono Z1.out.size)); obtain ⟨z0, z1, z2, z3, z4, z5, z6, z7, z8, z9, z10, z11, z12, z13, z14, z15, z16, z17⟩ := HSx.out _ Z2.out; clear hb)
   | (go_at_call 142; clear F2; refine (Hl.out _ (XV.out.trans (Z2.out.mono XV.out.size))).mono ?_; rintro e W3 ⟨rfl, hb⟩; rw [h5]; have Z3 := Lib.hid (Z2.out.trans (hb.mono Z2.out.size)); obtain ⟨z0, z1, z2, z3, z4, z5, z6, z7, z8, z9, z10, z11, z12, z13, z14, z15, z16, z17⟩ := HSx.out _ Z3.out; clear hb)
   | (go_at_call 142; clear F3; refine (He.out _ (XV.out.trans (Z3.out.mono XV.out.size))).mono ?_; rintro e W4 ⟨rfl, hb⟩; rw [h6]; have Z4 := Lib.hid (Z3.out.trans (hb.mono Z3.out.size)); obtain ⟨z0, z1, z2, z3, z4, z5, z6, z7, z8, z9, z10, z11, z12, z13, z14, z15, z16, z17⟩ := HSx.out _ Z4.out; clear hb)
   | (go_at_call 138; clear F4; refine (Hps.out _ (XV.out.trans (Z4.out.mono XV.out.size))).mono ?_; rintro e W5 ⟨rfl, hb⟩; rw [h7]; have Z5 := Lib.hid (Z4.out.trans (hb.mono Z4.out.size)); obtain ⟨z0, z1, z2, z3, z4, z5, z6, z7, z8, z9, z10, z11, z12, z13, z14, z15, z16, z17⟩ := HSx.out _ Z5.out; clear hb)
   | (go_at_call 138; clear F5; refine (Hbs.out _ (XV.out.trans (Z5.out.mono XV.out.size))).mono ?_; rintro e W6 ⟨rfl, hb⟩; rw [h8]; have Z6 := Lib.hid (Z5.out.trans (hb.mono Z5.out.size)); obtain ⟨z0, z1, z2, z3, z4, z5, z6, z7, z8, z9, z10, z11, z12, z13, z14, z15, z16, z17⟩ := HSx.out _ Z6.out; clear hb))
  go_ret
  exact ⟨rfl, XV.out.trans (Below.mono (by first | exact Z6.out | exact Z5.out | exact Z4.out | exact Z3.out | exact Z2.out | exact Z1.out | exact Z0.out) XV.out.size)⟩
theorem extM {x y : Md} (f : x.name = y.name ∧ x.ps = y.ps ∧ x.pts = y.pts ∧ x.l = y.l) : x = y := by
 obtain ⟨_, _, _, _⟩ := x; obtain ⟨_, _, _, _⟩ := y
 simp only at f
 obtain ⟨rfl, rfl, rfl, rfl⟩ := f
 rfl
def SameM (y : Md) : Prop := ∀ (z : Md) (W : World) (cs ds : List Value), MR W y cs → MR W z ds → Calls Tryz.prog 73 #[.agg cs.toArray, .agg ds.toArray] W fun e W' => e = .returned (.bool (eqb y z)) ∧ Below W.heap.size W W'
theorem equalM_any (v v' : Value) (l l' : List Md) (hl : l.length ≤ 1000000000) (W : World) (hR : Els W 4 (MR W) v l) (hR' : Els W 4 (MR W) v' l') (hE : ∀ y ∈ l, SameM y) :
  Calls Tryz.prog 72 #[v, v', .func (.func 73) #[] #[]] W fun e W' => e = .returned (.bool (eqb l l')) ∧ Below W.heap.size W W' := by
 obtain ⟨p, cap, rfl, hcap, hcell⟩ := hR
 obtain ⟨p', cap', rfl, hcap', hcell'⟩ := hR'
 have HE := Lib.hid hE
 have HC := Lib.hid hcell
 have HC' := Lib.hid hcell'
 clear hE hcell hcell'
 by_cases hll : l.length = l'.length
 case neg =>
  have hi : ¬ (l.length : Int) = (l'.length : Int) := by omega
  have HN := Lib.hid (eqb_no (fun e : l = l' => hll (by rw [e])))
  go_enter Tryz.func72, Tryz.ntmps72
  go_wp2
  go_ret
  exact ⟨ret_bool HN.out.symm, Below.refl _ _⟩
 have HLL := Lib.hid hll
 have hi : (l.length : Int) = (l'.length : Int) := by omega
 clear hll
 go_enter Tryz.func72, Tryz.ntmps72
 go_wp2
 go_loopw [17] (fun i wr => ∃ k : Nat, i = .int .i64 k ∧ k ≤ l.length ∧ Hid (Below W.heap.size W wr) ∧ Hid (l.take k = l'.take k)) (fun i _ => l.length - (intOf i).toNat)
 case atStart => exact ⟨0, rfl, Nat.zero_le _, Lib.hid (Below.refl _ _), Lib.hid rfl⟩
 case round =>
  obtain ⟨k, rfl, hk, HW, HA⟩ := hrel
  by_cases hlt : k < l.length
  case neg =>
   have hge : ¬ ((k : Int) < (l.length : Int)) := by omega
   have HALL := Lib.hid (show eqb l l' = true from eqb_yes (by
    have := HA.out
    rwa [List.take_of_length_le (by omega), List.take_of_length_le (by have := HLL.out; omega)] at this))
   go_wp2
   go_ret
   exact ⟨ret_bool HALL.out.symm, HW.out⟩
  have hlt' : (k : Int) < (l.length : Int) := by omega
  have hly : k < l'.length := by have := HLL.out; omega
  rcases HC.out with hc | ⟨q, off, rfl, hq, hc⟩
  ·subst hc; simp at hlt
  rcases HC'.out with hc' | ⟨q', off', rfl, hq', hc'⟩
  ·subst hc'; simp at hly
  obtain ⟨cs, hR, hcs⟩ := hc k hlt
  obtain ⟨ds, hR', hds⟩ := hc' k hly
  have hB := HW.out
  have HEL := Lib.hid (HE.out _ (List.getElem_mem hlt))
  have hR0 := Lib.hid hR
  have hR0' := Lib.hid hR'
  clear hR hc hR' hc'
  obtain ⟨vpa, vta, via, rfl, ha1, ha2, ha3⟩ := hR0.out
  have ga1 := ha1
  obtain ⟨pa1, ca1, rfl, _⟩ := ha1
  have ga2 := ha2
  obtain ⟨pa2, ca2, rfl, _⟩ := ha2
  have ga3 := ha3
  obtain ⟨pa3, ca3, rfl, _⟩ := ha3
  obtain ⟨vpb, vtb, vib, rfl, hb1, hb2, hb3⟩ := hR0'.out
  have gb1 := hb1
  obtain ⟨pb1, cb1, rfl, _⟩ := hb1
  have gb2 := hb2
  obtain ⟨pb2, cb2, rfl, _⟩ := hb2
  have gb3 := hb3
  obtain ⟨pb3, cb3, rfl, _⟩ := hb3
  have hRr := Lib.hid (MR.later hB _ _ hR0.out)
  have hRr' := Lib.hid (MR.later hB _ _ hR0'.out)
  have x0 := (hB.cell (p := ⟨q, off + k * 4 + 0, none⟩) hq).trans (hcs 0 (by omega))
  have x1 := (hB.cell (p := ⟨q, off + k * 4 + 1, none⟩) hq).trans (hcs 1 (by omega))
  have x2 := (hB.cell (p := ⟨q, off + k * 4 + 2, none⟩) hq).trans (hcs 2 (by omega))
  have x3 := (hB.cell (p := ⟨q, off + k * 4 + 3, none⟩) hq).trans (hcs 3 (by omega))
  have BA := (Below.refl wr.heap.size wr).alloc (Nat.le_refl _) (.cells #[.string (bs l[k].name), .slice pa1 l[k].ps.length ca1, .slice pa2 l[k].pts.length ca2, .slice pa3 l[k].l.length ca3] 53)
  have y0 := (BA.cell (p := ⟨q', off' + k * 4 + 0, none⟩) (Nat.lt_of_lt_of_le hq' hB.size)).trans ((hB.cell (p := ⟨q', off' + k * 4 + 0, none⟩) hq').trans (hds 0 (by omega)))
  have y1 := (BA.cell (p := ⟨q', off' + k * 4 + 1, none⟩) (Nat.lt_of_lt_of_le hq' hB.size)).trans ((hB.cell (p := ⟨q', off' + k * 4 + 1, none⟩) hq').trans (hds 1 (by omega)))
  have y2 := (BA.cell (p := ⟨q', off' + k * 4 + 2, none⟩) (Nat.lt_of_lt_of_le hq' hB.size)).trans ((hB.cell (p := ⟨q', off' + k * 4 + 2, none⟩) hq').trans (hds 2 (by omega)))
  have y3 := (BA.cell (p := ⟨q', off' + k * 4 + 3, none⟩) (Nat.lt_of_lt_of_le hq' hB.size)).trans ((hB.cell (p := ⟨q', off' + k * 4 + 3, none⟩) hq').trans (hds 3 (by omega)))
  simp only [Nat.add_zero, List.getElem?_cons_zero, List.getElem?_cons_succ] at x0 y0 x1 y1 x2 y2 x3 y3
  obtain ⟨ra, rb⟩ := two_rows wr #[.string (bs l[k].name), .slice pa1 l[k].ps.length ca1, .slice pa2 l[k].pts.length ca2, .slice pa3 l[k].l.length ca3] #[.string (bs l'[k].name), .slice pb1 l'[k].ps.length cb1, .slice pb2 l'[k].pts.length cb2, .slice pb3 l'[k].l.length cb3] 53 53
  have xa0 := row_cells ra (Below.refl _ _) 0 (.string (bs l[k].name)) rfl
  have yb0 := row_cells rb (Below.refl _ _) 0 (.string (bs l'[k].name)) rfl
  have xa1 := row_cells ra (Below.refl _ _) 1 (.slice pa1 l[k].ps.length ca1) rfl
  have yb1 := row_cells rb (Below.refl _ _) 1 (.slice pb1 l'[k].ps.length cb1) rfl
  have xa2 := row_cells ra (Below.refl _ _) 2 (.slice pa2 l[k].pts.length ca2) rfl
  have yb2 := row_cells rb (Below.refl _ _) 2 (.slice pb2 l'[k].pts.length cb2) rfl
  have xa3 := row_cells ra (Below.refl _ _) 3 (.slice pa3 l[k].l.length ca3) rfl
  have yb3 := row_cells rb (Below.refl _ _) 3 (.slice pb3 l'[k].l.length cb3) rfl
  have BB := Lib.hid (BA.alloc (by simp) (.cells #[.string (bs l'[k].name), .slice pb1 l'[k].ps.length cb1, .slice pb2 l'[k].pts.length cb2, .slice pb3 l'[k].l.length cb3] 53))
  have HNX := Lib.hid (fun (h : eqb l[k] l'[k] = true) => show l.take (k + 1) = l'.take (k + 1) by
   rw [List.take_succ_eq_append_getElem hlt, List.take_succ_eq_append_getElem hly, HA.out, eqb_true h])
  have HNO := Lib.hid (fun (h : eqb l[k] l'[k] = false) => show eqb l l' = false from eqb_no (fun e => by
   subst e
   exact eqb_false h rfl))
  clear ra rb hcs hds BA
  generalize l[k] = x at *
  generalize l'[k] = y at *
  cases hok : eqb x y with
  | true =>
   have HOK := Lib.hid (HNX.out hok)
   have HY := Lib.hid hok
   clear hok
   go_wp2_with (go_at_call 73; refine (HEL.out y _ [.string (bs x.name), .slice pa1 x.ps.length ca1, .slice pa2 x.pts.length ca2, .slice pa3 x.l.length ca3] [.string (bs y.name), .slice pb1 y.ps.length cb1, .slice pb2 y.pts.length cb2, .slice pb3 y.l.length cb3] (MR.later BB.out _ _ hRr.out) (MR.later BB.out _ _ hRr'.out)).mono ?_; rintro e W5 ⟨rfl, h2⟩; have H2 := Lib.hid h2; clear h2; rw [HY.out])
   go_roundw
   case rel => exact ⟨k + 1, by go_num, hlt, Lib.hid (HW.out.trans ((BB.out.trans (H2.out.mono BB.out.size)).mono HW.out.size)), HOK⟩
   case measure => simp [intOf]; omega
  | false =>
   have HOK := Lib.hid (HNO.out hok)
   have HY := Lib.hid hok
   clear hok
   go_wp2_with (go_at_call 73; refine (HEL.out y _ [.string (bs x.name), .slice pa1 x.ps.length ca1, .slice pa2 x.pts.length ca2, .slice pa3 x.l.length ca3] [.string (bs y.name), .slice pb1 y.ps.length cb1, .slice pb2 y.pts.length cb2, .slice pb3 y.l.length cb3] (MR.later BB.out _ _ hRr.out) (MR.later BB.out _ _ hRr'.out)).mono ?_; rintro e W5 ⟨rfl, h2⟩; have H2 := Lib.hid h2; clear h2; rw [HY.out])
   go_ret
   exact ⟨ret_bool HOK.out.symm, HW.out.trans ((BB.out.trans (H2.out.mono BB.out.size)).mono HW.out.size)⟩
theorem sameM_any : ∀ x : Md, sizeM x ≤ 1000000000 → SameM x := by
 intro x hsz y W cs ds hx hy
 unfold sizeM at hsz
 rw [sizeIs_sum] at hsz
 obtain ⟨vpa, vta, via, rfl, ha1, ha2, ha3⟩ := hx
 have ga1 := ha1
 obtain ⟨pa1, ca1, rfl, _⟩ := ha1
 have ga2 := ha2
 obtain ⟨pa2, ca2, rfl, _⟩ := ha2
 have ga3 := ha3
 obtain ⟨pa3, ca3, rfl, _⟩ := ha3
 obtain ⟨vpb, vtb, vib, rfl, hb1, hb2, hb3⟩ := hy
 have gb1 := hb1
 obtain ⟨pb1, cb1, rfl, _⟩ := hb1
 have gb2 := hb2
 obtain ⟨pb2, cb2, rfl, _⟩ := hb2
 have gb3 := hb3
 obtain ⟨pb3, cb3, rfl, _⟩ := hb3
 have Hps := Lib.hid (fun (W9 : World) (h : Below W.heap.size W W9) => equalB_any _ _ x.ps y.ps (by have := sumN_len sizeB (fun b => by unfold sizeB; omega) x.ps; omega) W9 (Els.later ga1 h (fun z _ => BR.later h z)) (Els.later gb1 h (fun z _ => BR.later h z)) (fun z hz => sameB_any z (by have := sumN_mem sizeB hz; omega)))
 have Hpts := Lib.hid (fun (W9 : World) (h : Below W.heap.size W W9) => equalP_any _ _ x.pts y.pts (by have := sumN_len sizeP (fun b => by unfold sizeP; omega) x.pts; omega) W9 (Els.later ga2 h (fun z _ => PR.later h z)) (Els.later gb2 h (fun z _ => PR.later h z)) (fun z hz => sameP_any z (by have := sumN_mem sizeP hz; omega)))
 have Hl := Lib.hid (fun (W9 : World) (h : Below W.heap.size W W9) => equalI_any _ _ x.l y.l (by have := sumN_len sizeI one_sizeI x.l; omega) W9 (Els.later ga3 h (fun z _ => IR.later h z)) (Els.later gb3 h (fun z _ => IR.later h z)) (fun z hz => sameI_any z (by have := sumN_mem sizeI hz; omega)))
 obtain ⟨R, hR⟩ : ∃ R, R = eqb x y := ⟨_, rfl⟩
 have hcase : (((bs x.name).toList == (bs y.name).toList) = false ∧ R = false) ∨ (((bs x.name).toList == (bs y.name).toList) = true ∧ eqb x.ps y.ps = false ∧ R = false) ∨ (((bs x.name).toList == (bs y.name).toList) = true ∧ eqb x.ps y.ps = true ∧ eqb x.pts y.pts = false ∧ R = false) ∨ (((bs x.name).toList == (bs y.name).toList) = true ∧ eqb x.ps y.ps = true ∧ eqb x.pts y.pts = true ∧ eqb x.l y.l = false ∧ R = false) ∨ (((bs x.name).toList == (bs y.name).toList) = true ∧ eqb x.ps y.ps = true ∧ eqb x.pts y.pts = true ∧ eqb x.l y.l = true ∧ R = true) := by
  try simp only [nat_eqb]
  simp only [int_eqb, str_eqb, bool_eqb]
  cases e0 : eqb x.name y.name with
  | false => exact .inl ⟨rfl, by rw [hR]; exact eqb_no (fun e => eqb_false e0 (by rw [e]))⟩
  | true =>
   cases e1 : eqb x.ps y.ps with
   | false => exact .inr (.inl ⟨rfl, rfl, by rw [hR]; exact eqb_no (fun e => eqb_false e1 (by rw [e]))⟩)
   | true =>
    cases e2 : eqb x.pts y.pts with
    | false => exact .inr (.inr (.inl ⟨rfl, rfl, rfl, by rw [hR]; exact eqb_no (fun e => eqb_false e2 (by rw [e]))⟩))
    | true =>
     cases e3 : eqb x.l y.l with
     | false => exact .inr (.inr (.inr (.inl ⟨rfl, rfl, rfl, rfl, by rw [hR]; exact eqb_no (fun e => eqb_false e3 (by rw [e]))⟩)))
     | true =>
      refine .inr (.inr (.inr (.inr (⟨rfl, rfl, rfl, rfl, ?_⟩))))
      rw [hR]; exact eqb_yes (extM ⟨eqb_true e0, eqb_true e1, eqb_true e2, eqb_true e3⟩)
 rw [← hR]
 clear hR hsz
 obtain ⟨ra, rb⟩ := two_rows W #[.string (bs x.name), .slice pa1 x.ps.length ca1, .slice pa2 x.pts.length ca2, .slice pa3 x.l.length ca3] #[.string (bs y.name), .slice pb1 y.ps.length cb1, .slice pb2 y.pts.length cb2, .slice pb3 y.l.length cb3] 53 53
 obtain ⟨V, hV⟩ : ∃ V, V = (W.alloc (.cells #[.string (bs x.name), .slice pa1 x.ps.length ca1, .slice pa2 x.pts.length ca2, .slice pa3 x.l.length ca3] 53)).alloc (.cells #[.string (bs y.name), .slice pb1 y.ps.length cb1, .slice pb2 y.pts.length cb2, .slice pb3 y.l.length cb3] 53) := ⟨_, rfl⟩
 rw [← hV] at ra rb
 have XV := Lib.hid (show Below W.heap.size W V by rw [hV]; exact ((Below.refl _ _).alloc (Nat.le_refl _) _).alloc (by simp) _)
 have HSx := Lib.hid (show ∀ w', Below V.heap.size V w' → w'.cell? ⟨W.heap.size, 0, none⟩ = some (.string (bs x.name)) ∧ w'.cell? ⟨W.heap.size, 1, none⟩ = some (.slice pa1 x.ps.length ca1) ∧ w'.cell? ⟨W.heap.size, 2, none⟩ = some (.slice pa2 x.pts.length ca2) ∧ w'.cell? ⟨W.heap.size, 3, none⟩ = some (.slice pa3 x.l.length ca3) ∧ w'.cell? ⟨W.heap.size + 1, 0, none⟩ = some (.string (bs y.name)) ∧ w'.cell? ⟨W.heap.size + 1, 1, none⟩ = some (.slice pb1 y.ps.length cb1) ∧ w'.cell? ⟨W.heap.size + 1, 2, none⟩ = some (.slice pb2 y.pts.length cb2) ∧ w'.cell? ⟨W.heap.size + 1, 3, none⟩ = some (.slice pb3 y.l.length cb3) from fun w' h => ⟨row_cells ra h 0 _ rfl, row_cells ra h 1 _ rfl, row_cells ra h 2 _ rfl, row_cells ra h 3 _ rfl, row_cells rb h 0 _ rfl, row_cells rb h 1 _ rfl, row_cells rb h 2 _ rfl, row_cells rb h 3 _ rfl⟩)
 clear ra rb
 obtain ⟨z0, z1, z2, z3, z4, z5, z6, z7⟩ := HSx.out _ (Below.refl _ _)
 rcases hcase with ⟨h0, rfl⟩ | ⟨h0, h1, rfl⟩ | ⟨h0, h1, h2, rfl⟩ | ⟨h0, h1, h2, h3, rfl⟩ | ⟨h0, h1, h2, h3, rfl⟩
 all_goals
  go_enter Tryz.func73, Tryz.ntmps73
  go_wp2_with fail
  rw [← hV]
  clear hV
  generalize W.heap.size + 1 = b1 at *
  have Z0 := Lib.hid (Below.refl V.heap.size V)
  have F0 := True.intro
  have F1 := True.intro
  have F2 := True.intro
  go_wp2_with (first
   | (go_at_call 138; clear F0; refine (Hps.out _ (XV.out.trans (Z0.out.mono XV.out.size))).mono ?_; rintro e W1 ⟨rfl, hb⟩; rw [h1]; have Z1 := Lib.hid (Z0.out.trans (hb.mono Z0.out.size)); obtain ⟨z0, z1, z2, z3, z4, z5, z6, z7⟩ := HSx.out _ Z1.out; clear hb)
   | (go_at_call 140; clear F1; refine (Hpts.out _ (XV.out.trans (Z1.out.mono XV.out.size))).mono ?_; rintro e W2 ⟨rfl, hb⟩; rw [h2]; have Z2 := Lib.hid (Z1.out.trans (hb.mono Z1.out.size)); obtain ⟨z0, z1, z2, z3, z4, z5, z6, z7⟩ := HSx.out _ Z2.out; clear hb)
   | (go_at_call 142; clear F2; refine (Hl.out _ (XV.out.trans (Z2.out.mono XV.out.size))).mono ?_; rintro e W3 ⟨rfl, hb⟩; rw [h3]; have Z3 := Lib.hid (Z2.out.trans (hb.mono Z2.out.size)); obtain ⟨z0, z1, z2, z3, z4, z5, z6, z7⟩ := HSx.out _ Z3.out; clear hb))
  go_ret
  exact ⟨rfl, XV.out.trans (Below.mono (by first | exact Z3.out | exact Z2.out | exact Z1.out | exact Z0.out) XV.out.size)⟩
theorem same_any (f g : List Md) (p q : Option Addr) (c c' : Nat) (W : World) (hf : sumN sizeM f ≤ 1000000000) (hR : MsR W (.slice p f.length c) f) (hR' : MsR W (.slice q g.length c') g) :
  Calls Tryz.prog 34 #[.agg #[.slice p f.length c], .agg #[.slice q g.length c']] W fun e W' => e = .returned (.bool (eqb f g)) ∧ Below W.heap.size W W' := by
 have HM := Lib.hid (fun (W9 : World) (h : Below W.heap.size W W9) => equalM_any _ _ f g (by have := sumN_len sizeM one_sM f; omega) W9 (MsR.later hR h) (MsR.later hR' h) (fun z hz => sameM_any z (by have := sumN_mem sizeM hz; omega)))
 clear hR hR'
 obtain ⟨ra, rb⟩ := two_rows W #[.slice p f.length c] #[.slice q g.length c'] 24 24
 have xa := row_cells ra (Below.refl _ _) 0 (.slice p f.length c) rfl
 have xb := row_cells rb (Below.refl _ _) 0 (.slice q g.length c') rfl
 have XV := Lib.hid (show Below W.heap.size W ((W.alloc (.cells #[.slice p f.length c] 24)).alloc (.cells #[.slice q g.length c'] 24)) from ((Below.refl _ _).alloc (Nat.le_refl _) _).alloc (by simp) _)
 clear ra rb
 go_enter Tryz.func34, Tryz.ntmps34
 go_wp2_with (go_at_call 72; refine (HM.out _ XV.out).mono ?_; rintro e W1 ⟨rfl, hb⟩; have Z1 := Lib.hid (XV.out.trans (hb.mono XV.out.size)); clear hb)
 go_ret
 exact ⟨rfl, Z1.out⟩
end Go.Proofs.YtlcfpdmicpggbaaGreatDoor
