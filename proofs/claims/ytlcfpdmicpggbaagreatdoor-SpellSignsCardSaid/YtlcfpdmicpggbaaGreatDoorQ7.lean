/- Texts of the seat, merged. -/
import Derived.Test.YtlcfpdmicpggbaaGreatDoorQ6
set_option linter.unusedVariables false
set_option linter.unusedSimpArgs false
set_option maxRecDepth 100000
set_option maxHeartbeats 16000000
namespace Go.Proofs.YtlcfpdmicpggbaaGreatDoor
open Go.RowKit Go.Proofs.Spl Go.Proofs.Scn Go.Shelf Go.Grow
def ExprOK (y : X) : Prop := ∀ (W : World) (lo : Nat) (cs : List Value), lo ≤ W.heap.size → XR W y cs → Calls Tryz.prog 56 #[.agg cs.toArray] W (MkPost lo W (exprT y))
theorem eachX_any (s : Ln) (hs : s ≠ []) (v : Value) (l : List X) (hl : l.length ≤ 1000000) (W : World) (lo : Nat) (hlo : lo ≤ W.heap.size) (hR : XsR W v l) (hE : ∀ y ∈ l, ExprOK y) :
  Calls Tryz.prog 105 #[v, .string (bs s), .func (.func 56) #[] #[]] W (MkPost lo W (sepS s (l.map exprT))) := by
 obtain ⟨p, cap, rfl, hcap, hcell⟩ := hR
 have HE := Lib.hid hE
 have HC := Lib.hid hcell
 clear hE hcell
 obtain ⟨i0, hi, hz0, hz1, hz2⟩ := info_parts fnInfo
 have HSN := Lib.hid hs
 have hse : (bs s).toList.isEmpty = false := by
  rw [Lib.toList_data, list_bs]
  simpa using hs
 clear hs
 go_enter Tryz.func105, Tryz.ntmps105
 go_wp2
 go_loopw [7, 12] (fun out i wr => ∃ (k : Nat) (fs : List Value), i = .int .i64 k ∧ k ≤ l.length ∧ (∃ p c, out = .slice p fs.length c) ∧ Hid (EachS W out fs (inter s ((l.map exprT).take k)) wr)) (fun _ i _ => l.length - (intOf i).toNat)
 case atStart => exact ⟨0, [], rfl, Nat.zero_le _, ⟨none, 0, rfl⟩, Lib.hid (EachS.nil W _ (Below.refl _ _))⟩
 case round =>
  obtain ⟨k, fs, rfl, hk, ⟨po, co, rfl⟩, HS⟩ := hrel
  by_cases hlt : k < l.length
  ·have hlt' : (k : Int) < (l.length : Int) := by omega
   have hfl := HS.out.lies.len
   have hfl2 : fs.length ≤ 2 * k := by
    rw [hfl]
    refine Nat.le_trans (inter_len s _) ?_
    rw [List.length_take, List.length_map, Nat.min_eq_left hk]
    exact Nat.le_refl _
   clear hfl
   rcases HC.out with hc | ⟨q, off, rfl, hq, hc⟩
   ·subst hc; simp at hlt
   obtain ⟨cs, hR, hcs⟩ := hc k hlt
   have hB := HS.out.bel
   have hel := HE.out _ (List.getElem_mem hlt)
   have hR0 := Lib.hid hR
   clear hR hc
   obtain ⟨_, ls, rfl, hL⟩ := XR_iff.1 hR0.out
   obtain ⟨pl, cl, rfl, _⟩ := hL
   have hRr := XR.later hB _ _ hR0.out
   have x0 := (hB.cell (p := ⟨q, off + k * 6 + 0, none⟩) hq).trans (hcs 0 (by omega))
   have x1 := (hB.cell (p := ⟨q, off + k * 6 + 1, none⟩) hq).trans (hcs 1 (by omega))
   have x2 := (hB.cell (p := ⟨q, off + k * 6 + 2, none⟩) hq).trans (hcs 2 (by omega))
   have x3 := (hB.cell (p := ⟨q, off + k * 6 + 3, none⟩) hq).trans (hcs 3 (by omega))
   have x4 := (hB.cell (p := ⟨q, off + k * 6 + 4, none⟩) hq).trans (hcs 4 (by omega))
   have x5 := (hB.cell (p := ⟨q, off + k * 6 + 5, none⟩) hq).trans (hcs 5 (by omega))
   simp only [Nat.add_zero, List.getElem?_cons_zero, List.getElem?_cons_succ] at x0 x1 x2 x3 x4 x5
   have HV := Lib.hid (XR.later ((Below.refl wr.heap.size wr).alloc (Nat.le_refl _) (.cells #[.int .i64 l[k].op, .string (bs l[k].name), .int .i64 l[k].n, .int .i64 l[k].w, .int .u64 l[k].v, .slice pl l[k].l.length cl] 28)) _ _ hRr)
   have HEL := Lib.hid hel
   clear hel hRr hcs
   have hT : ((l.map exprT).take (k + 1)) = (l.map exprT).take k ++ [exprT l[k]] := by
    have h1 : (l.map exprT).take k ++ [(l.map exprT)[k]'(by simpa using hlt)] = (l.map exprT).take (k + 1) := List.take_append_getElem (by simpa using hlt)
    rw [← h1, List.getElem_map]
   have HT := Lib.hid hT
   have HFL := Lib.hid hfl2
   have hL := Lib.hid hl
   clear hT hfl2
   generalize l[k] = y at *
   by_cases hk0 : k = 0
   ·have hkn : decide (0 < k) = false := by rw [hk0]; simp
    have hkd : decide ((0 : Int) < (k : Int)) = false := by rw [hk0]; simp
    have HK0 := Lib.hid hk0
    clear hk0
    go_wp2_with (first
     | (go_at_call 56; refine (HEL.out _ _ _ (Nat.le_refl _) HV.out).mono ?_; rintro e W5 ⟨f, rfl, h1, h2⟩; obtain ⟨gf, lf, rfl, h3⟩ := seq_form h1; clear h1; have H2 := Lib.hid h2; have H3 := Lib.hid h3; clear h2 h3)
     | (at_builtin; refine wpList_append_lies _ rfl _ _ 121 rfl W.heap.size 79 i0 Value.nilFunc 1 8 fnSlice hi hz0 hz1 hz2 rfl (by decide) _ _ _ rfl (((HS.out.later ((Below.refl _ _).alloc (Nat.le_refl _) _)).later H2.out).later ((Below.refl _ _).alloc (Nat.le_refl _) _)).own ⟨W5.heap.size, 0, none⟩ 1 1 [.func (.func gf) #[] lf] rfl rfl (fun j u hu => World.news_of_block (World.alloc_heap_new W5 _) j u hu) (by simp [Value.oneCell']) (by decide) (by unfold maxLen; have := HFL.out; have := hL.out; omega) (by have := HFL.out; have := hL.out; omega) (by have := ((HS.out.later ((Below.refl _ _).alloc (Nat.le_refl _) _)).later H2.out).bel.size; simp; omega) _ rfl ?_; intro g' cap' w1 hown hgr hat hlt2; have HX := Lib.hid hown; have HG := Lib.hid hgr; have HA := Lib.hid hat; clear hown hgr hat hlt2))
    refine ⟨⟨k + 1, fs ++ [.func (.func gf) #[] lf], by go_num, hlt, ⟨_, _, by rw [List.length_append]; rfl⟩, Lib.hid ?_⟩, by simp [intOf]; omega⟩
    rw [HT.out]
    have h0 : (l.map exprT).take k = [] := by rw [HK0.out]; rfl
    have HSS := HS.out
    rw [h0] at HSS ⊢
    exact ((HSS.later ((Below.refl _ _).alloc (Nat.le_refl _) _)).later H2.out).app H3.out (by have := hB.size; simp; omega) (fun r hr => by have := (HS.out.lt r hr).2; simp; omega) ((Below.refl _ _).alloc (Nat.le_refl _) _) HX.out HG.out HA.out
   ·have hkn : decide (0 < k) = true := by simp; omega
    have hkd : decide ((0 : Int) < (k : Int)) = true := by simp; omega
    have HK0 := Lib.hid hk0
    clear hk0
    go_wp2_with (first
     | (go_at_call 90; refine (ssign_any s _ _ (Nat.le_refl _)).mono ?_; rintro e W3 ⟨f, rfl, h1, h2⟩; obtain ⟨gs, lsg, rfl, h3⟩ := seq_form h1; clear h1; have K2 := Lib.hid h2; have K3 := Lib.hid h3; clear h2 h3)
     | (go_at_call 56; refine (HEL.out _ _ _ (Nat.le_refl _) HV1.out).mono ?_; rintro e W5 ⟨f, rfl, h1, h2⟩; obtain ⟨gf, lf, rfl, h3⟩ := seq_form h1; clear h1; have H2 := Lib.hid h2; have H3 := Lib.hid h3; clear h2 h3)
     | (at_builtin; refine wpList_append_lies _ rfl _ _ 121 rfl W.heap.size 79 i0 Value.nilFunc 1 8 fnSlice hi hz0 hz1 hz2 rfl (by decide) _ _ _ rfl (((HS.out.later ((Below.refl _ _).alloc (Nat.le_refl _) _)).later K2.out).later ((Below.refl _ _).alloc (Nat.le_refl _) _)).own ⟨W3.heap.size, 0, none⟩ 1 1 [.func (.func gs) #[] lsg] rfl rfl (fun j u hu => World.news_of_block (World.alloc_heap_new W3 _) j u hu) (by simp [Value.oneCell']) (by decide) (by unfold maxLen; have := HFL.out; have := hL.out; omega) (by have := HFL.out; have := hL.out; omega) (by have := ((HS.out.later ((Below.refl _ _).alloc (Nat.le_refl _) _)).later K2.out).bel.size; simp; omega) _ rfl ?_; intro g' cap' w1 hown hgr hat hlt2; have HST := Lib.hid (HS.out.step K2.out K3.out hown hgr hat); have HS1 := Lib.hid HST.out.1; have hbx := HST.out.2.1; have y0 : w1.cell? ⟨wr.heap.size, 0, none⟩ = some (.int .i64 y.op) := (by simp [World.cell?, hbx]); have y1 : w1.cell? ⟨wr.heap.size, 1, none⟩ = some (.string (bs y.name)) := (by simp [World.cell?, hbx]); have y2 : w1.cell? ⟨wr.heap.size, 2, none⟩ = some (.int .i64 y.n) := (by simp [World.cell?, hbx]); have y3 : w1.cell? ⟨wr.heap.size, 3, none⟩ = some (.int .i64 y.w) := (by simp [World.cell?, hbx]); have y4 : w1.cell? ⟨wr.heap.size, 4, none⟩ = some (.int .u64 y.v) := (by simp [World.cell?, hbx]); have y5 : w1.cell? ⟨wr.heap.size, 5, none⟩ = some (.slice pl y.l.length cl) := (by simp [World.cell?, hbx]); have HV1 := Lib.hid (XR.later HS1.out.bel _ _ hR0.out); have hlw := HST.out.2.2; clear hown hgr hat hlt2 hbx)
     | (at_builtin; refine wpList_append_lies _ rfl _ _ 121 rfl W.heap.size 79 i0 Value.nilFunc 1 8 fnSlice hi hz0 hz1 hz2 rfl (by decide) _ _ _ rfl ((HS1.out.later H2.out).later ((Below.refl _ _).alloc (Nat.le_refl _) _)).own ⟨W5.heap.size, 0, none⟩ 1 1 [.func (.func gf) #[] lf] rfl rfl (fun j u hu => World.news_of_block (World.alloc_heap_new W5 _) j u hu) (by simp [Value.oneCell']) (by decide) (by rw [List.length_append]; simp only [List.length_cons, List.length_nil]; unfold maxLen; have := HFL.out; have := hL.out; omega) (by rw [List.length_append]; simp only [List.length_cons, List.length_nil]; have := HFL.out; have := hL.out; omega) (by have := (HS1.out.later H2.out).bel.size; simp; omega) _ rfl ?_; intro g2 cap2 w2 hown hgr hat hlt2; have HX := Lib.hid hown; have HG := Lib.hid hgr; have HA := Lib.hid hat; clear hown hgr hat hlt2))
    refine ⟨⟨k + 1, (fs ++ [.func (.func gs) #[] lsg]) ++ [.func (.func gf) #[] lf], by go_num, hlt, ⟨some ⟨g2, 0, none⟩, cap2, by simp only [List.length_append, List.length_cons, List.length_nil]⟩, Lib.hid ?_⟩, by simp [intOf]; omega⟩
    rw [HT.out, inter_snoc s _ _ (by
     intro e
     have := congrArg List.length e
     rw [List.length_take, List.length_map, Nat.min_eq_left hk] at this
     exact HK0.out this)]
    have hfin := (HS1.out.later H2.out).app H3.out (by have := HS1.out.bel.size; omega) (fun r hr => (HS1.out.lt r hr).2) ((Below.refl _ _).alloc (Nat.le_refl _) _) HX.out HG.out HA.out
    rw [show (fs ++ [Value.func (.func gs) #[] lsg]).length + 1 = fs.length + 1 + 1 by simp] at hfin
    exact hfin
  ·have hkl : k = l.length := by omega
   have hge' : ¬ ((k : Int) < (l.length : Int)) := by omega
   have hsq := HS.out.seqs
   have hlen : (inter s ((l.map exprT).take k)).length ≤ 1000000000 := by
    have h1 := HS.out.lies.len
    refine Nat.le_trans (inter_len s _) ?_
    rw [List.length_take, List.length_map]
    omega
   have HSQ := Lib.hid hsq
   have HKL := Lib.hid hkl
   clear hsq hkl
   go_wp2_with (go_at_call 91; refine (row_any _ _ hlen wr W.heap.size HS.out.bel.size HSQ.out).mono ?_; rintro e W9 ⟨f, rfl, h1, h2⟩; have H1 := Lib.hid h1; have H2 := Lib.hid h2; clear h1 h2)
   go_ret
   refine ⟨_, rfl, ?_, HS.out.bel.trans (H2.out.mono HS.out.bel.size)⟩
   have := H1.out.later hlo (KeptL.refl _ _)
   rw [HKL.out, List.take_of_length_le (by simp)] at this
   rw [inter_flat] at this
   exact this
def BindOK (y : Bd) : Prop := ∀ (W : World) (lo : Nat) (cs : List Value), lo ≤ W.heap.size → BR W y cs → Calls Tryz.prog 167 #[.agg cs.toArray] W (MkPost lo W (bindT y))
theorem eachB_any (s : Ln) (hs : s ≠ []) (v : Value) (l : List Bd) (hl : l.length ≤ 1000000) (W : World) (lo : Nat) (hlo : lo ≤ W.heap.size) (hR : BsR W v l) (hE : ∀ y ∈ l, BindOK y) :
  Calls Tryz.prog 166 #[v, .string (bs s), .func (.func 167) #[] #[]] W (MkPost lo W (sepS s (l.map bindT))) := by
 obtain ⟨p, cap, rfl, hcap, hcell⟩ := hR
 have HE := Lib.hid hE
 have HC := Lib.hid hcell
 clear hE hcell
 obtain ⟨i0, hi, hz0, hz1, hz2⟩ := info_parts fnInfo
 have HSN := Lib.hid hs
 have hse : (bs s).toList.isEmpty = false := by
  rw [Lib.toList_data, list_bs]
  simpa using hs
 clear hs
 go_enter Tryz.func166, Tryz.ntmps166
 go_wp2
 go_loopw [7, 12] (fun out i wr => ∃ (k : Nat) (fs : List Value), i = .int .i64 k ∧ k ≤ l.length ∧ (∃ p c, out = .slice p fs.length c) ∧ Hid (EachS W out fs (inter s ((l.map bindT).take k)) wr)) (fun _ i _ => l.length - (intOf i).toNat)
 case atStart => exact ⟨0, [], rfl, Nat.zero_le _, ⟨none, 0, rfl⟩, Lib.hid (EachS.nil W _ (Below.refl _ _))⟩
 case round =>
  obtain ⟨k, fs, rfl, hk, ⟨po, co, rfl⟩, HS⟩ := hrel
  by_cases hlt : k < l.length
  ·have hlt' : (k : Int) < (l.length : Int) := by omega
   have hfl := HS.out.lies.len
   have hfl2 : fs.length ≤ 2 * k := by
    rw [hfl]
    refine Nat.le_trans (inter_len s _) ?_
    rw [List.length_take, List.length_map, Nat.min_eq_left hk]
    exact Nat.le_refl _
   clear hfl
   rcases HC.out with hc | ⟨q, off, rfl, hq, hc⟩
   ·subst hc; simp at hlt
   obtain ⟨cs, hR, hcs⟩ := hc k hlt
   have hB := HS.out.bel
   have hel := HE.out _ (List.getElem_mem hlt)
   have hR0 := Lib.hid hR
   clear hR hc
   obtain ⟨xs, rfl, hXR⟩ := hR0.out
   obtain ⟨_, ls, rfl, hL⟩ := XR_iff.1 hXR
   obtain ⟨pl, cl, rfl, _⟩ := hL
   have hRr := BR.later hB _ _ hR0.out
   have x0 := (hB.cell (p := ⟨q, off + k * 7 + 0, none⟩) hq).trans (hcs 0 (by omega))
   have x1 := (hB.cell (p := ⟨q, off + k * 7 + 1, none⟩) hq).trans (hcs 1 (by omega))
   have x2 := (hB.cell (p := ⟨q, off + k * 7 + 2, none⟩) hq).trans (hcs 2 (by omega))
   have x3 := (hB.cell (p := ⟨q, off + k * 7 + 3, none⟩) hq).trans (hcs 3 (by omega))
   have x4 := (hB.cell (p := ⟨q, off + k * 7 + 4, none⟩) hq).trans (hcs 4 (by omega))
   have x5 := (hB.cell (p := ⟨q, off + k * 7 + 5, none⟩) hq).trans (hcs 5 (by omega))
   have x6 := (hB.cell (p := ⟨q, off + k * 7 + 6, none⟩) hq).trans (hcs 6 (by omega))
   simp only [Nat.add_zero, List.getElem?_cons_zero, List.getElem?_cons_succ] at x0 x1 x2 x3 x4 x5 x6
   have HV := Lib.hid (BR.later ((Below.refl wr.heap.size wr).alloc (Nat.le_refl _) (.cells #[.string (bs l[k].name), .int .i64 l[k].x.op, .string (bs l[k].x.name), .int .i64 l[k].x.n, .int .i64 l[k].x.w, .int .u64 l[k].x.v, .slice pl l[k].x.l.length cl] 159)) _ _ hRr)
   have HEL := Lib.hid hel
   clear hel hRr hcs
   have hT : ((l.map bindT).take (k + 1)) = (l.map bindT).take k ++ [bindT l[k]] := by
    have h1 : (l.map bindT).take k ++ [(l.map bindT)[k]'(by simpa using hlt)] = (l.map bindT).take (k + 1) := List.take_append_getElem (by simpa using hlt)
    rw [← h1, List.getElem_map]
   have HT := Lib.hid hT
   have HFL := Lib.hid hfl2
   have hL := Lib.hid hl
   clear hT hfl2
   generalize l[k] = y at *
   by_cases hk0 : k = 0
   ·have hkn : decide (0 < k) = false := by rw [hk0]; simp
    have hkd : decide ((0 : Int) < (k : Int)) = false := by rw [hk0]; simp
    have HK0 := Lib.hid hk0
    clear hk0
    go_wp2_with (first
     | (go_at_call 167; refine (HEL.out _ _ _ (Nat.le_refl _) HV.out).mono ?_; rintro e W5 ⟨f, rfl, h1, h2⟩; obtain ⟨gf, lf, rfl, h3⟩ := seq_form h1; clear h1; have H2 := Lib.hid h2; have H3 := Lib.hid h3; clear h2 h3)
     | (at_builtin; refine wpList_append_lies _ rfl _ _ 121 rfl W.heap.size 79 i0 Value.nilFunc 1 8 fnSlice hi hz0 hz1 hz2 rfl (by decide) _ _ _ rfl (((HS.out.later ((Below.refl _ _).alloc (Nat.le_refl _) _)).later H2.out).later ((Below.refl _ _).alloc (Nat.le_refl _) _)).own ⟨W5.heap.size, 0, none⟩ 1 1 [.func (.func gf) #[] lf] rfl rfl (fun j u hu => World.news_of_block (World.alloc_heap_new W5 _) j u hu) (by simp [Value.oneCell']) (by decide) (by unfold maxLen; have := HFL.out; have := hL.out; omega) (by have := HFL.out; have := hL.out; omega) (by have := ((HS.out.later ((Below.refl _ _).alloc (Nat.le_refl _) _)).later H2.out).bel.size; simp; omega) _ rfl ?_; intro g' cap' w1 hown hgr hat hlt2; have HX := Lib.hid hown; have HG := Lib.hid hgr; have HA := Lib.hid hat; clear hown hgr hat hlt2))
    refine ⟨⟨k + 1, fs ++ [.func (.func gf) #[] lf], by go_num, hlt, ⟨_, _, by rw [List.length_append]; rfl⟩, Lib.hid ?_⟩, by simp [intOf]; omega⟩
    rw [HT.out]
    have h0 : (l.map bindT).take k = [] := by rw [HK0.out]; rfl
    have HSS := HS.out
    rw [h0] at HSS ⊢
    exact ((HSS.later ((Below.refl _ _).alloc (Nat.le_refl _) _)).later H2.out).app H3.out (by have := hB.size; simp; omega) (fun r hr => by have := (HS.out.lt r hr).2; simp; omega) ((Below.refl _ _).alloc (Nat.le_refl _) _) HX.out HG.out HA.out
   ·have hkn : decide (0 < k) = true := by simp; omega
    have hkd : decide ((0 : Int) < (k : Int)) = true := by simp; omega
    have HK0 := Lib.hid hk0
    clear hk0
    go_wp2_with (first
     | (go_at_call 90; refine (ssign_any s _ _ (Nat.le_refl _)).mono ?_; rintro e W3 ⟨f, rfl, h1, h2⟩; obtain ⟨gs, lsg, rfl, h3⟩ := seq_form h1; clear h1; have K2 := Lib.hid h2; have K3 := Lib.hid h3; clear h2 h3)
     | (go_at_call 167; refine (HEL.out _ _ _ (Nat.le_refl _) HV1.out).mono ?_; rintro e W5 ⟨f, rfl, h1, h2⟩; obtain ⟨gf, lf, rfl, h3⟩ := seq_form h1; clear h1; have H2 := Lib.hid h2; have H3 := Lib.hid h3; clear h2 h3)
     | (at_builtin; refine wpList_append_lies _ rfl _ _ 121 rfl W.heap.size 79 i0 Value.nilFunc 1 8 fnSlice hi hz0 hz1 hz2 rfl (by decide) _ _ _ rfl (((HS.out.later ((Below.refl _ _).alloc (Nat.le_refl _) _)).later K2.out).later ((Below.refl _ _).alloc (Nat.le_refl _) _)).own ⟨W3.heap.size, 0, none⟩ 1 1 [.func (.func gs) #[] lsg] rfl rfl (fun j u hu => World.news_of_block (World.alloc_heap_new W3 _) j u hu) (by simp [Value.oneCell']) (by decide) (by unfold maxLen; have := HFL.out; have := hL.out; omega) (by have := HFL.out; have := hL.out; omega) (by have := ((HS.out.later ((Below.refl _ _).alloc (Nat.le_refl _) _)).later K2.out).bel.size; simp; omega) _ rfl ?_; intro g' cap' w1 hown hgr hat hlt2; have HST := Lib.hid (HS.out.step K2.out K3.out hown hgr hat); have HS1 := Lib.hid HST.out.1; have hbx := HST.out.2.1; have y0 : w1.cell? ⟨wr.heap.size, 0, none⟩ = some (.string (bs y.name)) := (by simp [World.cell?, hbx]); have y1 : w1.cell? ⟨wr.heap.size, 1, none⟩ = some (.int .i64 y.x.op) := (by simp [World.cell?, hbx]); have y2 : w1.cell? ⟨wr.heap.size, 2, none⟩ = some (.string (bs y.x.name)) := (by simp [World.cell?, hbx]); have y3 : w1.cell? ⟨wr.heap.size, 3, none⟩ = some (.int .i64 y.x.n) := (by simp [World.cell?, hbx]); have y4 : w1.cell? ⟨wr.heap.size, 4, none⟩ = some (.int .i64 y.x.w) := (by simp [World.cell?, hbx]); have y5 : w1.cell? ⟨wr.heap.size, 5, none⟩ = some (.int .u64 y.x.v) := (by simp [World.cell?, hbx]); have y6 : w1.cell? ⟨wr.heap.size, 6, none⟩ = some (.slice pl y.x.l.length cl) := (by simp [World.cell?, hbx]); have HV1 := Lib.hid (BR.later HS1.out.bel _ _ hR0.out); have hlw := HST.out.2.2; clear hown hgr hat hlt2 hbx)
     | (at_builtin; refine wpList_append_lies _ rfl _ _ 121 rfl W.heap.size 79 i0 Value.nilFunc 1 8 fnSlice hi hz0 hz1 hz2 rfl (by decide) _ _ _ rfl ((HS1.out.later H2.out).later ((Below.refl _ _).alloc (Nat.le_refl _) _)).own ⟨W5.heap.size, 0, none⟩ 1 1 [.func (.func gf) #[] lf] rfl rfl (fun j u hu => World.news_of_block (World.alloc_heap_new W5 _) j u hu) (by simp [Value.oneCell']) (by decide) (by rw [List.length_append]; simp only [List.length_cons, List.length_nil]; unfold maxLen; have := HFL.out; have := hL.out; omega) (by rw [List.length_append]; simp only [List.length_cons, List.length_nil]; have := HFL.out; have := hL.out; omega) (by have := (HS1.out.later H2.out).bel.size; simp; omega) _ rfl ?_; intro g2 cap2 w2 hown hgr hat hlt2; have HX := Lib.hid hown; have HG := Lib.hid hgr; have HA := Lib.hid hat; clear hown hgr hat hlt2))
    refine ⟨⟨k + 1, (fs ++ [.func (.func gs) #[] lsg]) ++ [.func (.func gf) #[] lf], by go_num, hlt, ⟨some ⟨g2, 0, none⟩, cap2, by simp only [List.length_append, List.length_cons, List.length_nil]⟩, Lib.hid ?_⟩, by simp [intOf]; omega⟩
    rw [HT.out, inter_snoc s _ _ (by
     intro e
     have := congrArg List.length e
     rw [List.length_take, List.length_map, Nat.min_eq_left hk] at this
     exact HK0.out this)]
    have hfin := (HS1.out.later H2.out).app H3.out (by have := HS1.out.bel.size; omega) (fun r hr => (HS1.out.lt r hr).2) ((Below.refl _ _).alloc (Nat.le_refl _) _) HX.out HG.out HA.out
    rw [show (fs ++ [Value.func (.func gs) #[] lsg]).length + 1 = fs.length + 1 + 1 by simp] at hfin
    exact hfin
  ·have hkl : k = l.length := by omega
   have hge' : ¬ ((k : Int) < (l.length : Int)) := by omega
   have hsq := HS.out.seqs
   have hlen : (inter s ((l.map bindT).take k)).length ≤ 1000000000 := by
    have h1 := HS.out.lies.len
    refine Nat.le_trans (inter_len s _) ?_
    rw [List.length_take, List.length_map]
    omega
   have HSQ := Lib.hid hsq
   have HKL := Lib.hid hkl
   clear hsq hkl
   go_wp2_with (go_at_call 91; refine (row_any _ _ hlen wr W.heap.size HS.out.bel.size HSQ.out).mono ?_; rintro e W9 ⟨f, rfl, h1, h2⟩; have H1 := Lib.hid h1; have H2 := Lib.hid h2; clear h1 h2)
   go_ret
   refine ⟨_, rfl, ?_, HS.out.bel.trans (H2.out.mono HS.out.bel.size)⟩
   have := H1.out.later hlo (KeptL.refl _ _)
   rw [HKL.out, List.take_of_length_le (by simp)] at this
   rw [inter_flat] at this
   exact this
def PortOK (y : Pt) : Prop := ∀ (W : World) (lo : Nat) (cs : List Value), lo ≤ W.heap.size → PR W y cs → Calls Tryz.prog 97 #[.agg cs.toArray] W (MkPost lo W (portT y))
theorem eachP_any (s : Ln) (hs : s ≠ []) (v : Value) (l : List Pt) (hl : l.length ≤ 1000000) (W : World) (lo : Nat) (hlo : lo ≤ W.heap.size) (hR : PsR W v l) (hE : ∀ y ∈ l, PortOK y) :
  Calls Tryz.prog 96 #[v, .string (bs s), .func (.func 97) #[] #[]] W (MkPost lo W (sepS s (l.map portT))) := by
 obtain ⟨p, cap, rfl, hcap, hcell⟩ := hR
 have HE := Lib.hid hE
 have HC := Lib.hid hcell
 clear hE hcell
 obtain ⟨i0, hi, hz0, hz1, hz2⟩ := info_parts fnInfo
 have HSN := Lib.hid hs
 have hse : (bs s).toList.isEmpty = false := by
  rw [Lib.toList_data, list_bs]
  simpa using hs
 clear hs
 go_enter Tryz.func96, Tryz.ntmps96
 go_wp2
 go_loopw [7, 12] (fun out i wr => ∃ (k : Nat) (fs : List Value), i = .int .i64 k ∧ k ≤ l.length ∧ (∃ p c, out = .slice p fs.length c) ∧ Hid (EachS W out fs (inter s ((l.map portT).take k)) wr)) (fun _ i _ => l.length - (intOf i).toNat)
 case atStart => exact ⟨0, [], rfl, Nat.zero_le _, ⟨none, 0, rfl⟩, Lib.hid (EachS.nil W _ (Below.refl _ _))⟩
 case round =>
  obtain ⟨k, fs, rfl, hk, ⟨po, co, rfl⟩, HS⟩ := hrel
  by_cases hlt : k < l.length
  ·have hlt' : (k : Int) < (l.length : Int) := by omega
   have hfl := HS.out.lies.len
   have hfl2 : fs.length ≤ 2 * k := by
    rw [hfl]
    refine Nat.le_trans (inter_len s _) ?_
    rw [List.length_take, List.length_map, Nat.min_eq_left hk]
    exact Nat.le_refl _
   clear hfl
   rcases HC.out with hc | ⟨q, off, rfl, hq, hc⟩
   ·subst hc; simp at hlt
   obtain ⟨cs, hR, hcs⟩ := hc k hlt
   have hB := HS.out.bel
   have hel := HE.out _ (List.getElem_mem hlt)
   have hR0 := Lib.hid hR
   clear hR hc
   obtain ⟨xs, rfl, hXR⟩ := hR0.out
   obtain ⟨_, ls, rfl, hL⟩ := XR_iff.1 hXR
   obtain ⟨pl, cl, rfl, _⟩ := hL
   have hRr := PR.later hB _ _ hR0.out
   have x0 := (hB.cell (p := ⟨q, off + k * 8 + 0, none⟩) hq).trans (hcs 0 (by omega))
   have x1 := (hB.cell (p := ⟨q, off + k * 8 + 1, none⟩) hq).trans (hcs 1 (by omega))
   have x2 := (hB.cell (p := ⟨q, off + k * 8 + 2, none⟩) hq).trans (hcs 2 (by omega))
   have x3 := (hB.cell (p := ⟨q, off + k * 8 + 3, none⟩) hq).trans (hcs 3 (by omega))
   have x4 := (hB.cell (p := ⟨q, off + k * 8 + 4, none⟩) hq).trans (hcs 4 (by omega))
   have x5 := (hB.cell (p := ⟨q, off + k * 8 + 5, none⟩) hq).trans (hcs 5 (by omega))
   have x6 := (hB.cell (p := ⟨q, off + k * 8 + 6, none⟩) hq).trans (hcs 6 (by omega))
   have x7 := (hB.cell (p := ⟨q, off + k * 8 + 7, none⟩) hq).trans (hcs 7 (by omega))
   simp only [Nat.add_zero, List.getElem?_cons_zero, List.getElem?_cons_succ] at x0 x1 x2 x3 x4 x5 x6 x7
   have HV := Lib.hid (PR.later ((Below.refl wr.heap.size wr).alloc (Nat.le_refl _) (.cells #[.string (bs l[k].name), .bool l[k].out, .int .i64 l[k].w.op, .string (bs l[k].w.name), .int .i64 l[k].w.n, .int .i64 l[k].w.w, .int .u64 l[k].w.v, .slice pl l[k].w.l.length cl] 114)) _ _ hRr)
   have HEL := Lib.hid hel
   clear hel hRr hcs
   have hT : ((l.map portT).take (k + 1)) = (l.map portT).take k ++ [portT l[k]] := by
    have h1 : (l.map portT).take k ++ [(l.map portT)[k]'(by simpa using hlt)] = (l.map portT).take (k + 1) := List.take_append_getElem (by simpa using hlt)
    rw [← h1, List.getElem_map]
   have HT := Lib.hid hT
   have HFL := Lib.hid hfl2
   have hL := Lib.hid hl
   clear hT hfl2
   generalize l[k] = y at *
   by_cases hk0 : k = 0
   ·have hkn : decide (0 < k) = false := by rw [hk0]; simp
    have hkd : decide ((0 : Int) < (k : Int)) = false := by rw [hk0]; simp
    have HK0 := Lib.hid hk0
    clear hk0
    go_wp2_with (first
     | (go_at_call 97; refine (HEL.out _ _ _ (Nat.le_refl _) HV.out).mono ?_; rintro e W5 ⟨f, rfl, h1, h2⟩; obtain ⟨gf, lf, rfl, h3⟩ := seq_form h1; clear h1; have H2 := Lib.hid h2; have H3 := Lib.hid h3; clear h2 h3)
     | (at_builtin; refine wpList_append_lies _ rfl _ _ 121 rfl W.heap.size 79 i0 Value.nilFunc 1 8 fnSlice hi hz0 hz1 hz2 rfl (by decide) _ _ _ rfl (((HS.out.later ((Below.refl _ _).alloc (Nat.le_refl _) _)).later H2.out).later ((Below.refl _ _).alloc (Nat.le_refl _) _)).own ⟨W5.heap.size, 0, none⟩ 1 1 [.func (.func gf) #[] lf] rfl rfl (fun j u hu => World.news_of_block (World.alloc_heap_new W5 _) j u hu) (by simp [Value.oneCell']) (by decide) (by unfold maxLen; have := HFL.out; have := hL.out; omega) (by have := HFL.out; have := hL.out; omega) (by have := ((HS.out.later ((Below.refl _ _).alloc (Nat.le_refl _) _)).later H2.out).bel.size; simp; omega) _ rfl ?_; intro g' cap' w1 hown hgr hat hlt2; have HX := Lib.hid hown; have HG := Lib.hid hgr; have HA := Lib.hid hat; clear hown hgr hat hlt2))
    refine ⟨⟨k + 1, fs ++ [.func (.func gf) #[] lf], by go_num, hlt, ⟨_, _, by rw [List.length_append]; rfl⟩, Lib.hid ?_⟩, by simp [intOf]; omega⟩
    rw [HT.out]
    have h0 : (l.map portT).take k = [] := by rw [HK0.out]; rfl
    have HSS := HS.out
    rw [h0] at HSS ⊢
    exact ((HSS.later ((Below.refl _ _).alloc (Nat.le_refl _) _)).later H2.out).app H3.out (by have := hB.size; simp; omega) (fun r hr => by have := (HS.out.lt r hr).2; simp; omega) ((Below.refl _ _).alloc (Nat.le_refl _) _) HX.out HG.out HA.out
   ·have hkn : decide (0 < k) = true := by simp; omega
    have hkd : decide ((0 : Int) < (k : Int)) = true := by simp; omega
    have HK0 := Lib.hid hk0
    clear hk0
    go_wp2_with (first
     | (go_at_call 90; refine (ssign_any s _ _ (Nat.le_refl _)).mono ?_; rintro e W3 ⟨f, rfl, h1, h2⟩; obtain ⟨gs, lsg, rfl, h3⟩ := seq_form h1; clear h1; have K2 := Lib.hid h2; have K3 := Lib.hid h3; clear h2 h3)
     | (go_at_call 97; refine (HEL.out _ _ _ (Nat.le_refl _) HV1.out).mono ?_; rintro e W5 ⟨f, rfl, h1, h2⟩; obtain ⟨gf, lf, rfl, h3⟩ := seq_form h1; clear h1; have H2 := Lib.hid h2; have H3 := Lib.hid h3; clear h2 h3)
     | (at_builtin; refine wpList_append_lies _ rfl _ _ 121 rfl W.heap.size 79 i0 Value.nilFunc 1 8 fnSlice hi hz0 hz1 hz2 rfl (by decide) _ _ _ rfl (((HS.out.later ((Below.refl _ _).alloc (Nat.le_refl _) _)).later K2.out).later ((Below.refl _ _).alloc (Nat.le_refl _) _)).own ⟨W3.heap.size, 0, none⟩ 1 1 [.func (.func gs) #[] lsg] rfl rfl (fun j u hu => World.news_of_block (World.alloc_heap_new W3 _) j u hu) (by simp [Value.oneCell']) (by decide) (by unfold maxLen; have := HFL.out; have := hL.out; omega) (by have := HFL.out; have := hL.out; omega) (by have := ((HS.out.later ((Below.refl _ _).alloc (Nat.le_refl _) _)).later K2.out).bel.size; simp; omega) _ rfl ?_; intro g' cap' w1 hown hgr hat hlt2; have HST := Lib.hid (HS.out.step K2.out K3.out hown hgr hat); have HS1 := Lib.hid HST.out.1; have hbx := HST.out.2.1; have y0 : w1.cell? ⟨wr.heap.size, 0, none⟩ = some (.string (bs y.name)) := (by simp [World.cell?, hbx]); have y1 : w1.cell? ⟨wr.heap.size, 1, none⟩ = some (.bool y.out) := (by simp [World.cell?, hbx]); have y2 : w1.cell? ⟨wr.heap.size, 2, none⟩ = some (.int .i64 y.w.op) := (by simp [World.cell?, hbx]); have y3 : w1.cell? ⟨wr.heap.size, 3, none⟩ = some (.string (bs y.w.name)) := (by simp [World.cell?, hbx]); have y4 : w1.cell? ⟨wr.heap.size, 4, none⟩ = some (.int .i64 y.w.n) := (by simp [World.cell?, hbx]); have y5 : w1.cell? ⟨wr.heap.size, 5, none⟩ = some (.int .i64 y.w.w) := (by simp [World.cell?, hbx]); have y6 : w1.cell? ⟨wr.heap.size, 6, none⟩ = some (.int .u64 y.w.v) := (by simp [World.cell?, hbx]); have y7 : w1.cell? ⟨wr.heap.size, 7, none⟩ = some (.slice pl y.w.l.length cl) := (by simp [World.cell?, hbx]); have HV1 := Lib.hid (PR.later HS1.out.bel _ _ hR0.out); have hlw := HST.out.2.2; clear hown hgr hat hlt2 hbx)
     | (at_builtin; refine wpList_append_lies _ rfl _ _ 121 rfl W.heap.size 79 i0 Value.nilFunc 1 8 fnSlice hi hz0 hz1 hz2 rfl (by decide) _ _ _ rfl ((HS1.out.later H2.out).later ((Below.refl _ _).alloc (Nat.le_refl _) _)).own ⟨W5.heap.size, 0, none⟩ 1 1 [.func (.func gf) #[] lf] rfl rfl (fun j u hu => World.news_of_block (World.alloc_heap_new W5 _) j u hu) (by simp [Value.oneCell']) (by decide) (by rw [List.length_append]; simp only [List.length_cons, List.length_nil]; unfold maxLen; have := HFL.out; have := hL.out; omega) (by rw [List.length_append]; simp only [List.length_cons, List.length_nil]; have := HFL.out; have := hL.out; omega) (by have := (HS1.out.later H2.out).bel.size; simp; omega) _ rfl ?_; intro g2 cap2 w2 hown hgr hat hlt2; have HX := Lib.hid hown; have HG := Lib.hid hgr; have HA := Lib.hid hat; clear hown hgr hat hlt2))
    refine ⟨⟨k + 1, (fs ++ [.func (.func gs) #[] lsg]) ++ [.func (.func gf) #[] lf], by go_num, hlt, ⟨some ⟨g2, 0, none⟩, cap2, by simp only [List.length_append, List.length_cons, List.length_nil]⟩, Lib.hid ?_⟩, by simp [intOf]; omega⟩
    rw [HT.out, inter_snoc s _ _ (by
     intro e
     have := congrArg List.length e
     rw [List.length_take, List.length_map, Nat.min_eq_left hk] at this
     exact HK0.out this)]
    have hfin := (HS1.out.later H2.out).app H3.out (by have := HS1.out.bel.size; omega) (fun r hr => (HS1.out.lt r hr).2) ((Below.refl _ _).alloc (Nat.le_refl _) _) HX.out HG.out HA.out
    rw [show (fs ++ [Value.func (.func gs) #[] lsg]).length + 1 = fs.length + 1 + 1 by simp] at hfin
    exact hfin
  ·have hkl : k = l.length := by omega
   have hge' : ¬ ((k : Int) < (l.length : Int)) := by omega
   have hsq := HS.out.seqs
   have hlen : (inter s ((l.map portT).take k)).length ≤ 1000000000 := by
    have h1 := HS.out.lies.len
    refine Nat.le_trans (inter_len s _) ?_
    rw [List.length_take, List.length_map]
    omega
   have HSQ := Lib.hid hsq
   have HKL := Lib.hid hkl
   clear hsq hkl
   go_wp2_with (go_at_call 91; refine (row_any _ _ hlen wr W.heap.size HS.out.bel.size HSQ.out).mono ?_; rintro e W9 ⟨f, rfl, h1, h2⟩; have H1 := Lib.hid h1; have H2 := Lib.hid h2; clear h1 h2)
   go_ret
   refine ⟨_, rfl, ?_, HS.out.bel.trans (H2.out.mono HS.out.bel.size)⟩
   have := H1.out.later hlo (KeptL.refl _ _)
   rw [HKL.out, List.take_of_length_le (by simp)] at this
   rw [inter_flat] at this
   exact this
def StmtOK (put : Ln) (y : S) : Prop := ∀ (W : World) (lo : Nat) (cs : List Value), lo ≤ W.heap.size → SR W y cs → Calls Tryz.prog 60 #[.agg #[.string (bs put)], .agg cs.toArray] W (MkPost lo W ((stmtT put) y))
theorem eachS_any (put : Ln) (v : Value) (l : List S) (hl : l.length ≤ 1000000) (W : World) (lo : Nat) (hlo : lo ≤ W.heap.size) (hR : SsR W v l) (hE : ∀ y ∈ l, StmtOK put y) :
  Calls Tryz.prog 119 #[v, .string { data := #[] }, .func (.func 60) #[.agg #[.string (bs put)]] #[]] W (MkPost lo W ((l.map (stmtT put)).flatten)) := by
 obtain ⟨p, cap, rfl, hcap, hcell⟩ := hR
 have HE := Lib.hid hE
 have HC := Lib.hid hcell
 clear hE hcell
 obtain ⟨i0, hi, hz0, hz1, hz2⟩ := info_parts fnInfo
 go_enter Tryz.func119, Tryz.ntmps119
 go_wp2
 go_loopw [7, 12] (fun out i wr => ∃ (k : Nat) (fs : List Value), i = .int .i64 k ∧ k ≤ l.length ∧ (∃ p c, out = .slice p fs.length c) ∧ Hid (EachS W out fs ((l.map (stmtT put)).take k) wr)) (fun _ i _ => l.length - (intOf i).toNat)
 case atStart => exact ⟨0, [], rfl, Nat.zero_le _, ⟨none, 0, rfl⟩, Lib.hid (EachS.nil W _ (Below.refl _ _))⟩
 case round =>
  obtain ⟨k, fs, rfl, hk, ⟨po, co, rfl⟩, HS⟩ := hrel
  by_cases hlt : k < l.length
  ·have hlt' : (k : Int) < (l.length : Int) := by omega
   have hfl := HS.out.lies.len
   have hfl2 : fs.length ≤ 2 * k := by
    rw [hfl, List.length_take, List.length_map, Nat.min_eq_left hk]
    omega
   clear hfl
   rcases HC.out with hc | ⟨q, off, rfl, hq, hc⟩
   ·subst hc; simp at hlt
   obtain ⟨cs, hR, hcs⟩ := hc k hlt
   have hB := HS.out.bel
   have hel := HE.out _ (List.getElem_mem hlt)
   have hR0 := Lib.hid hR
   clear hR hc
   obtain ⟨xs, ls, rfl, hXR, hL⟩ := SR_iff.1 hR0.out
   obtain ⟨px, cx, rfl, _⟩ := hXR
   obtain ⟨pl, cl, rfl, _⟩ := hL
   have hRr := SR.later hB _ _ hR0.out
   have x0 := (hB.cell (p := ⟨q, off + k * 4 + 0, none⟩) hq).trans (hcs 0 (by omega))
   have x1 := (hB.cell (p := ⟨q, off + k * 4 + 1, none⟩) hq).trans (hcs 1 (by omega))
   have x2 := (hB.cell (p := ⟨q, off + k * 4 + 2, none⟩) hq).trans (hcs 2 (by omega))
   have x3 := (hB.cell (p := ⟨q, off + k * 4 + 3, none⟩) hq).trans (hcs 3 (by omega))
   simp only [Nat.add_zero, List.getElem?_cons_zero, List.getElem?_cons_succ] at x0 x1 x2 x3
   have HV := Lib.hid (SR.later ((Below.refl wr.heap.size wr).alloc (Nat.le_refl _) (.cells #[.int .i64 l[k].op, .string (bs l[k].name), .slice px l[k].x.length cx, .slice pl l[k].l.length cl] 31)) _ _ hRr)
   have HEL := Lib.hid hel
   clear hel hRr hcs
   have hT : ((l.map (stmtT put)).take (k + 1)) = (l.map (stmtT put)).take k ++ [(stmtT put) l[k]] := by
    have h1 : (l.map (stmtT put)).take k ++ [(l.map (stmtT put))[k]'(by simpa using hlt)] = (l.map (stmtT put)).take (k + 1) := List.take_append_getElem (by simpa using hlt)
    rw [← h1, List.getElem_map]
   have HT := Lib.hid hT
   have HFL := Lib.hid hfl2
   have hL := Lib.hid hl
   clear hT hfl2
   generalize l[k] = y at *
   by_cases hk0 : k = 0
   ·have hkn : decide (0 < k) = false := by rw [hk0]; simp
    have hkd : decide ((0 : Int) < (k : Int)) = false := by rw [hk0]; simp
    have HK0 := Lib.hid hk0
    clear hk0
    go_wp2_with (first
     | (go_at_call 60; refine (HEL.out _ _ _ (Nat.le_refl _) HV.out).mono ?_; rintro e W5 ⟨f, rfl, h1, h2⟩; obtain ⟨gf, lf, rfl, h3⟩ := seq_form h1; clear h1; have H2 := Lib.hid h2; have H3 := Lib.hid h3; clear h2 h3)
     | (at_builtin; refine wpList_append_lies _ rfl _ _ 121 rfl W.heap.size 79 i0 Value.nilFunc 1 8 fnSlice hi hz0 hz1 hz2 rfl (by decide) _ _ _ rfl (((HS.out.later ((Below.refl _ _).alloc (Nat.le_refl _) _)).later H2.out).later ((Below.refl _ _).alloc (Nat.le_refl _) _)).own ⟨W5.heap.size, 0, none⟩ 1 1 [.func (.func gf) #[] lf] rfl rfl (fun j u hu => World.news_of_block (World.alloc_heap_new W5 _) j u hu) (by simp [Value.oneCell']) (by decide) (by unfold maxLen; have := HFL.out; have := hL.out; omega) (by have := HFL.out; have := hL.out; omega) (by have := ((HS.out.later ((Below.refl _ _).alloc (Nat.le_refl _) _)).later H2.out).bel.size; simp; omega) _ rfl ?_; intro g' cap' w1 hown hgr hat hlt2; have HX := Lib.hid hown; have HG := Lib.hid hgr; have HA := Lib.hid hat; clear hown hgr hat hlt2))
    refine ⟨⟨k + 1, fs ++ [.func (.func gf) #[] lf], by go_num, hlt, ⟨_, _, by rw [List.length_append]; rfl⟩, Lib.hid ?_⟩, by simp [intOf]; omega⟩
    rw [HT.out]
    exact ((HS.out.later ((Below.refl _ _).alloc (Nat.le_refl _) _)).later H2.out).app H3.out (by have := hB.size; simp; omega) (fun r hr => by have := (HS.out.lt r hr).2; simp; omega) ((Below.refl _ _).alloc (Nat.le_refl _) _) HX.out HG.out HA.out
   ·have hkn : decide (0 < k) = true := by simp; omega
    have hkd : decide ((0 : Int) < (k : Int)) = true := by simp; omega
    have HK0 := Lib.hid hk0
    clear hk0
    go_wp2_with (first
     | (go_at_call 60; refine (HEL.out _ _ _ (Nat.le_refl _) HV.out).mono ?_; rintro e W5 ⟨f, rfl, h1, h2⟩; obtain ⟨gf, lf, rfl, h3⟩ := seq_form h1; clear h1; have H2 := Lib.hid h2; have H3 := Lib.hid h3; clear h2 h3)
     | (at_builtin; refine wpList_append_lies _ rfl _ _ 121 rfl W.heap.size 79 i0 Value.nilFunc 1 8 fnSlice hi hz0 hz1 hz2 rfl (by decide) _ _ _ rfl (((HS.out.later ((Below.refl _ _).alloc (Nat.le_refl _) _)).later H2.out).later ((Below.refl _ _).alloc (Nat.le_refl _) _)).own ⟨W5.heap.size, 0, none⟩ 1 1 [.func (.func gf) #[] lf] rfl rfl (fun j u hu => World.news_of_block (World.alloc_heap_new W5 _) j u hu) (by simp [Value.oneCell']) (by decide) (by unfold maxLen; have := HFL.out; have := hL.out; omega) (by have := HFL.out; have := hL.out; omega) (by have := ((HS.out.later ((Below.refl _ _).alloc (Nat.le_refl _) _)).later H2.out).bel.size; simp; omega) _ rfl ?_; intro g' cap' w1 hown hgr hat hlt2; have HX := Lib.hid hown; have HG := Lib.hid hgr; have HA := Lib.hid hat; clear hown hgr hat hlt2))
    refine ⟨⟨k + 1, fs ++ [.func (.func gf) #[] lf], by go_num, hlt, ⟨_, _, by rw [List.length_append]; rfl⟩, Lib.hid ?_⟩, by simp [intOf]; omega⟩
    rw [HT.out]
    exact ((HS.out.later ((Below.refl _ _).alloc (Nat.le_refl _) _)).later H2.out).app H3.out (by have := hB.size; simp; omega) (fun r hr => by have := (HS.out.lt r hr).2; simp; omega) ((Below.refl _ _).alloc (Nat.le_refl _) _) HX.out HG.out HA.out
  ·have hkl : k = l.length := by omega
   have hge' : ¬ ((k : Int) < (l.length : Int)) := by omega
   have hsq := HS.out.seqs
   have hlen : ((l.map (stmtT put)).take k).length ≤ 1000000000 := by
    have h1 := HS.out.lies.len
    rw [List.length_take, List.length_map]
    omega
   have HSQ := Lib.hid hsq
   have HKL := Lib.hid hkl
   clear hsq hkl
   go_wp2_with (go_at_call 91; refine (row_any _ _ hlen wr W.heap.size HS.out.bel.size HSQ.out).mono ?_; rintro e W9 ⟨f, rfl, h1, h2⟩; have H1 := Lib.hid h1; have H2 := Lib.hid h2; clear h1 h2)
   go_ret
   refine ⟨_, rfl, ?_, HS.out.bel.trans (H2.out.mono HS.out.bel.size)⟩
   have := H1.out.later hlo (KeptL.refl _ _)
   rw [HKL.out, List.take_of_length_le (by simp)] at this
   exact this
def ArmOK (put : Ln) (y : S) : Prop := ∀ (W : World) (lo : Nat) (cs : List Value), lo ≤ W.heap.size → SR W y cs → Calls Tryz.prog 120 #[.agg #[.string (bs put)], .agg cs.toArray] W (MkPost lo W ((stmtT put) y))
theorem eachA_any (put : Ln) (v : Value) (l : List S) (hl : l.length ≤ 1000000) (W : World) (lo : Nat) (hlo : lo ≤ W.heap.size) (hR : SsR W v l) (hE : ∀ y ∈ l, ArmOK put y) :
  Calls Tryz.prog 119 #[v, .string { data := #[] }, .func (.func 120) #[.agg #[.string (bs put)]] #[]] W (MkPost lo W ((l.map (stmtT put)).flatten)) := by
 obtain ⟨p, cap, rfl, hcap, hcell⟩ := hR
 have HE := Lib.hid hE
 have HC := Lib.hid hcell
 clear hE hcell
 obtain ⟨i0, hi, hz0, hz1, hz2⟩ := info_parts fnInfo
 go_enter Tryz.func119, Tryz.ntmps119
 go_wp2
 go_loopw [7, 12] (fun out i wr => ∃ (k : Nat) (fs : List Value), i = .int .i64 k ∧ k ≤ l.length ∧ (∃ p c, out = .slice p fs.length c) ∧ Hid (EachS W out fs ((l.map (stmtT put)).take k) wr)) (fun _ i _ => l.length - (intOf i).toNat)
 case atStart => exact ⟨0, [], rfl, Nat.zero_le _, ⟨none, 0, rfl⟩, Lib.hid (EachS.nil W _ (Below.refl _ _))⟩
 case round =>
  obtain ⟨k, fs, rfl, hk, ⟨po, co, rfl⟩, HS⟩ := hrel
  by_cases hlt : k < l.length
  ·have hlt' : (k : Int) < (l.length : Int) := by omega
   have hfl := HS.out.lies.len
   have hfl2 : fs.length ≤ 2 * k := by
    rw [hfl, List.length_take, List.length_map, Nat.min_eq_left hk]
    omega
   clear hfl
   rcases HC.out with hc | ⟨q, off, rfl, hq, hc⟩
   ·subst hc; simp at hlt
   obtain ⟨cs, hR, hcs⟩ := hc k hlt
   have hB := HS.out.bel
   have hel := HE.out _ (List.getElem_mem hlt)
   have hR0 := Lib.hid hR
   clear hR hc
   obtain ⟨xs, ls, rfl, hXR, hL⟩ := SR_iff.1 hR0.out
   obtain ⟨px, cx, rfl, _⟩ := hXR
   obtain ⟨pl, cl, rfl, _⟩ := hL
   have hRr := SR.later hB _ _ hR0.out
   have x0 := (hB.cell (p := ⟨q, off + k * 4 + 0, none⟩) hq).trans (hcs 0 (by omega))
   have x1 := (hB.cell (p := ⟨q, off + k * 4 + 1, none⟩) hq).trans (hcs 1 (by omega))
   have x2 := (hB.cell (p := ⟨q, off + k * 4 + 2, none⟩) hq).trans (hcs 2 (by omega))
   have x3 := (hB.cell (p := ⟨q, off + k * 4 + 3, none⟩) hq).trans (hcs 3 (by omega))
   simp only [Nat.add_zero, List.getElem?_cons_zero, List.getElem?_cons_succ] at x0 x1 x2 x3
   have HV := Lib.hid (SR.later ((Below.refl wr.heap.size wr).alloc (Nat.le_refl _) (.cells #[.int .i64 l[k].op, .string (bs l[k].name), .slice px l[k].x.length cx, .slice pl l[k].l.length cl] 31)) _ _ hRr)
   have HEL := Lib.hid hel
   clear hel hRr hcs
   have hT : ((l.map (stmtT put)).take (k + 1)) = (l.map (stmtT put)).take k ++ [(stmtT put) l[k]] := by
    have h1 : (l.map (stmtT put)).take k ++ [(l.map (stmtT put))[k]'(by simpa using hlt)] = (l.map (stmtT put)).take (k + 1) := List.take_append_getElem (by simpa using hlt)
    rw [← h1, List.getElem_map]
   have HT := Lib.hid hT
   have HFL := Lib.hid hfl2
   have hL := Lib.hid hl
   clear hT hfl2
   generalize l[k] = y at *
   by_cases hk0 : k = 0
   ·have hkn : decide (0 < k) = false := by rw [hk0]; simp
    have hkd : decide ((0 : Int) < (k : Int)) = false := by rw [hk0]; simp
    have HK0 := Lib.hid hk0
    clear hk0
    go_wp2_with (first
     | (go_at_call 120; refine (HEL.out _ _ _ (Nat.le_refl _) HV.out).mono ?_; rintro e W5 ⟨f, rfl, h1, h2⟩; obtain ⟨gf, lf, rfl, h3⟩ := seq_form h1; clear h1; have H2 := Lib.hid h2; have H3 := Lib.hid h3; clear h2 h3)
     | (at_builtin; refine wpList_append_lies _ rfl _ _ 121 rfl W.heap.size 79 i0 Value.nilFunc 1 8 fnSlice hi hz0 hz1 hz2 rfl (by decide) _ _ _ rfl (((HS.out.later ((Below.refl _ _).alloc (Nat.le_refl _) _)).later H2.out).later ((Below.refl _ _).alloc (Nat.le_refl _) _)).own ⟨W5.heap.size, 0, none⟩ 1 1 [.func (.func gf) #[] lf] rfl rfl (fun j u hu => World.news_of_block (World.alloc_heap_new W5 _) j u hu) (by simp [Value.oneCell']) (by decide) (by unfold maxLen; have := HFL.out; have := hL.out; omega) (by have := HFL.out; have := hL.out; omega) (by have := ((HS.out.later ((Below.refl _ _).alloc (Nat.le_refl _) _)).later H2.out).bel.size; simp; omega) _ rfl ?_; intro g' cap' w1 hown hgr hat hlt2; have HX := Lib.hid hown; have HG := Lib.hid hgr; have HA := Lib.hid hat; clear hown hgr hat hlt2))
    refine ⟨⟨k + 1, fs ++ [.func (.func gf) #[] lf], by go_num, hlt, ⟨_, _, by rw [List.length_append]; rfl⟩, Lib.hid ?_⟩, by simp [intOf]; omega⟩
    rw [HT.out]
    exact ((HS.out.later ((Below.refl _ _).alloc (Nat.le_refl _) _)).later H2.out).app H3.out (by have := hB.size; simp; omega) (fun r hr => by have := (HS.out.lt r hr).2; simp; omega) ((Below.refl _ _).alloc (Nat.le_refl _) _) HX.out HG.out HA.out
   ·have hkn : decide (0 < k) = true := by simp; omega
    have hkd : decide ((0 : Int) < (k : Int)) = true := by simp; omega
    have HK0 := Lib.hid hk0
    clear hk0
    go_wp2_with (first
     | (go_at_call 120; refine (HEL.out _ _ _ (Nat.le_refl _) HV.out).mono ?_; rintro e W5 ⟨f, rfl, h1, h2⟩; obtain ⟨gf, lf, rfl, h3⟩ := seq_form h1; clear h1; have H2 := Lib.hid h2; have H3 := Lib.hid h3; clear h2 h3)
     | (at_builtin; refine wpList_append_lies _ rfl _ _ 121 rfl W.heap.size 79 i0 Value.nilFunc 1 8 fnSlice hi hz0 hz1 hz2 rfl (by decide) _ _ _ rfl (((HS.out.later ((Below.refl _ _).alloc (Nat.le_refl _) _)).later H2.out).later ((Below.refl _ _).alloc (Nat.le_refl _) _)).own ⟨W5.heap.size, 0, none⟩ 1 1 [.func (.func gf) #[] lf] rfl rfl (fun j u hu => World.news_of_block (World.alloc_heap_new W5 _) j u hu) (by simp [Value.oneCell']) (by decide) (by unfold maxLen; have := HFL.out; have := hL.out; omega) (by have := HFL.out; have := hL.out; omega) (by have := ((HS.out.later ((Below.refl _ _).alloc (Nat.le_refl _) _)).later H2.out).bel.size; simp; omega) _ rfl ?_; intro g' cap' w1 hown hgr hat hlt2; have HX := Lib.hid hown; have HG := Lib.hid hgr; have HA := Lib.hid hat; clear hown hgr hat hlt2))
    refine ⟨⟨k + 1, fs ++ [.func (.func gf) #[] lf], by go_num, hlt, ⟨_, _, by rw [List.length_append]; rfl⟩, Lib.hid ?_⟩, by simp [intOf]; omega⟩
    rw [HT.out]
    exact ((HS.out.later ((Below.refl _ _).alloc (Nat.le_refl _) _)).later H2.out).app H3.out (by have := hB.size; simp; omega) (fun r hr => by have := (HS.out.lt r hr).2; simp; omega) ((Below.refl _ _).alloc (Nat.le_refl _) _) HX.out HG.out HA.out
  ·have hkl : k = l.length := by omega
   have hge' : ¬ ((k : Int) < (l.length : Int)) := by omega
   have hsq := HS.out.seqs
   have hlen : ((l.map (stmtT put)).take k).length ≤ 1000000000 := by
    have h1 := HS.out.lies.len
    rw [List.length_take, List.length_map]
    omega
   have HSQ := Lib.hid hsq
   have HKL := Lib.hid hkl
   clear hsq hkl
   go_wp2_with (go_at_call 91; refine (row_any _ _ hlen wr W.heap.size HS.out.bel.size HSQ.out).mono ?_; rintro e W9 ⟨f, rfl, h1, h2⟩; have H1 := Lib.hid h1; have H2 := Lib.hid h2; clear h1 h2)
   go_ret
   refine ⟨_, rfl, ?_, HS.out.bel.trans (H2.out.mono HS.out.bel.size)⟩
   have := H1.out.later hlo (KeptL.refl _ _)
   rw [HKL.out, List.take_of_length_le (by simp)] at this
   exact this
def ItemOK (y : It) : Prop := ∀ (W : World) (lo : Nat) (cs : List Value), lo ≤ W.heap.size → IR W y cs → Calls Tryz.prog 169 #[.agg cs.toArray] W (MkPost lo W (itemT y))
theorem eachI_any (v : Value) (l : List It) (hl : l.length ≤ 1000000) (W : World) (lo : Nat) (hlo : lo ≤ W.heap.size) (hR : IsR W v l) (hE : ∀ y ∈ l, ItemOK y) :
  Calls Tryz.prog 168 #[v, .string { data := #[] }, .func (.func 169) #[] #[]] W (MkPost lo W ((l.map itemT).flatten)) := by
 obtain ⟨p, cap, rfl, hcap, hcell⟩ := hR
 have HE := Lib.hid hE
 have HC := Lib.hid hcell
 clear hE hcell
 obtain ⟨i0, hi, hz0, hz1, hz2⟩ := info_parts fnInfo
 go_enter Tryz.func168, Tryz.ntmps168
 go_wp2
 go_loopw [7, 12] (fun out i wr => ∃ (k : Nat) (fs : List Value), i = .int .i64 k ∧ k ≤ l.length ∧ (∃ p c, out = .slice p fs.length c) ∧ Hid (EachS W out fs ((l.map itemT).take k) wr)) (fun _ i _ => l.length - (intOf i).toNat)
 case atStart => exact ⟨0, [], rfl, Nat.zero_le _, ⟨none, 0, rfl⟩, Lib.hid (EachS.nil W _ (Below.refl _ _))⟩
 case round =>
  obtain ⟨k, fs, rfl, hk, ⟨po, co, rfl⟩, HS⟩ := hrel
  by_cases hlt : k < l.length
  ·have hlt' : (k : Int) < (l.length : Int) := by omega
   have hfl := HS.out.lies.len
   have hfl2 : fs.length ≤ 2 * k := by
    rw [hfl, List.length_take, List.length_map, Nat.min_eq_left hk]
    omega
   clear hfl
   rcases HC.out with hc | ⟨q, off, rfl, hq, hc⟩
   ·subst hc; simp at hlt
   obtain ⟨cs, hR, hcs⟩ := hc k hlt
   have hB := HS.out.bel
   have hel := HE.out _ (List.getElem_mem hlt)
   have hR0 := Lib.hid hR
   clear hR hc
   obtain ⟨xs, ss, ls, es, vp, vb, rfl, h1, h2, h3, h4, h5, h6⟩ := IR_iff.1 hR0.out
   obtain ⟨p1, c1, rfl, _⟩ := h1
   obtain ⟨p2, c2, rfl, _⟩ := h2
   obtain ⟨p3, c3, rfl, _⟩ := h3
   obtain ⟨p4, c4, rfl, _⟩ := h4
   obtain ⟨p5, c5, rfl, _⟩ := h5
   obtain ⟨p6, c6, rfl, _⟩ := h6
   have hRr := IR.later hB _ _ hR0.out
   have x0 := (hB.cell (p := ⟨q, off + k * 9 + 0, none⟩) hq).trans (hcs 0 (by omega))
   have x1 := (hB.cell (p := ⟨q, off + k * 9 + 1, none⟩) hq).trans (hcs 1 (by omega))
   have x2 := (hB.cell (p := ⟨q, off + k * 9 + 2, none⟩) hq).trans (hcs 2 (by omega))
   have x3 := (hB.cell (p := ⟨q, off + k * 9 + 3, none⟩) hq).trans (hcs 3 (by omega))
   have x4 := (hB.cell (p := ⟨q, off + k * 9 + 4, none⟩) hq).trans (hcs 4 (by omega))
   have x5 := (hB.cell (p := ⟨q, off + k * 9 + 5, none⟩) hq).trans (hcs 5 (by omega))
   have x6 := (hB.cell (p := ⟨q, off + k * 9 + 6, none⟩) hq).trans (hcs 6 (by omega))
   have x7 := (hB.cell (p := ⟨q, off + k * 9 + 7, none⟩) hq).trans (hcs 7 (by omega))
   have x8 := (hB.cell (p := ⟨q, off + k * 9 + 8, none⟩) hq).trans (hcs 8 (by omega))
   simp only [Nat.add_zero, List.getElem?_cons_zero, List.getElem?_cons_succ] at x0 x1 x2 x3 x4 x5 x6 x7 x8
   have HV := Lib.hid (IR.later ((Below.refl wr.heap.size wr).alloc (Nat.le_refl _) (.cells #[.int .i64 l[k].op, .string (bs l[k].name), .string (bs l[k].of), .slice p1 l[k].x.length c1, .slice p2 l[k].s.length c2, .slice p5 l[k].l.length c5, .slice p6 l[k].e.length c6, .slice p3 l[k].ps.length c3, .slice p4 l[k].bs.length c4] 133)) _ _ hRr)
   have HEL := Lib.hid hel
   clear hel hRr hcs
   have hT : ((l.map itemT).take (k + 1)) = (l.map itemT).take k ++ [itemT l[k]] := by
    have h1 : (l.map itemT).take k ++ [(l.map itemT)[k]'(by simpa using hlt)] = (l.map itemT).take (k + 1) := List.take_append_getElem (by simpa using hlt)
    rw [← h1, List.getElem_map]
   have HT := Lib.hid hT
   have HFL := Lib.hid hfl2
   have hL := Lib.hid hl
   clear hT hfl2
   generalize l[k] = y at *
   by_cases hk0 : k = 0
   ·have hkn : decide (0 < k) = false := by rw [hk0]; simp
    have hkd : decide ((0 : Int) < (k : Int)) = false := by rw [hk0]; simp
    have HK0 := Lib.hid hk0
    clear hk0
    go_wp2_with (first
     | (go_at_call 169; refine (HEL.out _ _ _ (Nat.le_refl _) HV.out).mono ?_; rintro e W5 ⟨f, rfl, h1, h2⟩; obtain ⟨gf, lf, rfl, h3⟩ := seq_form h1; clear h1; have H2 := Lib.hid h2; have H3 := Lib.hid h3; clear h2 h3)
     | (at_builtin; refine wpList_append_lies _ rfl _ _ 121 rfl W.heap.size 79 i0 Value.nilFunc 1 8 fnSlice hi hz0 hz1 hz2 rfl (by decide) _ _ _ rfl (((HS.out.later ((Below.refl _ _).alloc (Nat.le_refl _) _)).later H2.out).later ((Below.refl _ _).alloc (Nat.le_refl _) _)).own ⟨W5.heap.size, 0, none⟩ 1 1 [.func (.func gf) #[] lf] rfl rfl (fun j u hu => World.news_of_block (World.alloc_heap_new W5 _) j u hu) (by simp [Value.oneCell']) (by decide) (by unfold maxLen; have := HFL.out; have := hL.out; omega) (by have := HFL.out; have := hL.out; omega) (by have := ((HS.out.later ((Below.refl _ _).alloc (Nat.le_refl _) _)).later H2.out).bel.size; simp; omega) _ rfl ?_; intro g' cap' w1 hown hgr hat hlt2; have HX := Lib.hid hown; have HG := Lib.hid hgr; have HA := Lib.hid hat; clear hown hgr hat hlt2))
    refine ⟨⟨k + 1, fs ++ [.func (.func gf) #[] lf], by go_num, hlt, ⟨_, _, by rw [List.length_append]; rfl⟩, Lib.hid ?_⟩, by simp [intOf]; omega⟩
    rw [HT.out]
    exact ((HS.out.later ((Below.refl _ _).alloc (Nat.le_refl _) _)).later H2.out).app H3.out (by have := hB.size; simp; omega) (fun r hr => by have := (HS.out.lt r hr).2; simp; omega) ((Below.refl _ _).alloc (Nat.le_refl _) _) HX.out HG.out HA.out
   ·have hkn : decide (0 < k) = true := by simp; omega
    have hkd : decide ((0 : Int) < (k : Int)) = true := by simp; omega
    have HK0 := Lib.hid hk0
    clear hk0
    go_wp2_with (first
     | (go_at_call 169; refine (HEL.out _ _ _ (Nat.le_refl _) HV.out).mono ?_; rintro e W5 ⟨f, rfl, h1, h2⟩; obtain ⟨gf, lf, rfl, h3⟩ := seq_form h1; clear h1; have H2 := Lib.hid h2; have H3 := Lib.hid h3; clear h2 h3)
     | (at_builtin; refine wpList_append_lies _ rfl _ _ 121 rfl W.heap.size 79 i0 Value.nilFunc 1 8 fnSlice hi hz0 hz1 hz2 rfl (by decide) _ _ _ rfl (((HS.out.later ((Below.refl _ _).alloc (Nat.le_refl _) _)).later H2.out).later ((Below.refl _ _).alloc (Nat.le_refl _) _)).own ⟨W5.heap.size, 0, none⟩ 1 1 [.func (.func gf) #[] lf] rfl rfl (fun j u hu => World.news_of_block (World.alloc_heap_new W5 _) j u hu) (by simp [Value.oneCell']) (by decide) (by unfold maxLen; have := HFL.out; have := hL.out; omega) (by have := HFL.out; have := hL.out; omega) (by have := ((HS.out.later ((Below.refl _ _).alloc (Nat.le_refl _) _)).later H2.out).bel.size; simp; omega) _ rfl ?_; intro g' cap' w1 hown hgr hat hlt2; have HX := Lib.hid hown; have HG := Lib.hid hgr; have HA := Lib.hid hat; clear hown hgr hat hlt2))
    refine ⟨⟨k + 1, fs ++ [.func (.func gf) #[] lf], by go_num, hlt, ⟨_, _, by rw [List.length_append]; rfl⟩, Lib.hid ?_⟩, by simp [intOf]; omega⟩
    rw [HT.out]
    exact ((HS.out.later ((Below.refl _ _).alloc (Nat.le_refl _) _)).later H2.out).app H3.out (by have := hB.size; simp; omega) (fun r hr => by have := (HS.out.lt r hr).2; simp; omega) ((Below.refl _ _).alloc (Nat.le_refl _) _) HX.out HG.out HA.out
  ·have hkl : k = l.length := by omega
   have hge' : ¬ ((k : Int) < (l.length : Int)) := by omega
   have hsq := HS.out.seqs
   have hlen : ((l.map itemT).take k).length ≤ 1000000000 := by
    have h1 := HS.out.lies.len
    rw [List.length_take, List.length_map]
    omega
   have HSQ := Lib.hid hsq
   have HKL := Lib.hid hkl
   clear hsq hkl
   go_wp2_with (go_at_call 91; refine (row_any _ _ hlen wr W.heap.size HS.out.bel.size HSQ.out).mono ?_; rintro e W9 ⟨f, rfl, h1, h2⟩; have H1 := Lib.hid h1; have H2 := Lib.hid h2; clear h1 h2)
   go_ret
   refine ⟨_, rfl, ?_, HS.out.bel.trans (H2.out.mono HS.out.bel.size)⟩
   have := H1.out.later hlo (KeptL.refl _ _)
   rw [HKL.out, List.take_of_length_le (by simp)] at this
   exact this
def ModuleOK (y : Md) : Prop := ∀ (W : World) (lo : Nat) (cs : List Value), lo ≤ W.heap.size → MR W y cs → Calls Tryz.prog 48 #[.agg cs.toArray] W (MkPost lo W (moduleT y))
theorem eachM_any (v : Value) (l : List Md) (hl : l.length ≤ 1000000) (W : World) (lo : Nat) (hlo : lo ≤ W.heap.size) (hR : MsR W v l) (hE : ∀ y ∈ l, ModuleOK y) :
  Calls Tryz.prog 47 #[v, .string { data := #[] }, .func (.func 48) #[] #[]] W (MkPost lo W ((l.map moduleT).flatten)) := by
 obtain ⟨p, cap, rfl, hcap, hcell⟩ := hR
 have HE := Lib.hid hE
 have HC := Lib.hid hcell
 clear hE hcell
 obtain ⟨i0, hi, hz0, hz1, hz2⟩ := info_parts fnInfo
 go_enter Tryz.func47, Tryz.ntmps47
 go_wp2
 go_loopw [7, 12] (fun out i wr => ∃ (k : Nat) (fs : List Value), i = .int .i64 k ∧ k ≤ l.length ∧ (∃ p c, out = .slice p fs.length c) ∧ Hid (EachS W out fs ((l.map moduleT).take k) wr)) (fun _ i _ => l.length - (intOf i).toNat)
 case atStart => exact ⟨0, [], rfl, Nat.zero_le _, ⟨none, 0, rfl⟩, Lib.hid (EachS.nil W _ (Below.refl _ _))⟩
 case round =>
  obtain ⟨k, fs, rfl, hk, ⟨po, co, rfl⟩, HS⟩ := hrel
  by_cases hlt : k < l.length
  ·have hlt' : (k : Int) < (l.length : Int) := by omega
   have hfl := HS.out.lies.len
   have hfl2 : fs.length ≤ 2 * k := by
    rw [hfl, List.length_take, List.length_map, Nat.min_eq_left hk]
    omega
   clear hfl
   rcases HC.out with hc | ⟨q, off, rfl, hq, hc⟩
   ·subst hc; simp at hlt
   obtain ⟨cs, hR, hcs⟩ := hc k hlt
   have hB := HS.out.bel
   have hel := HE.out _ (List.getElem_mem hlt)
   have hR0 := Lib.hid hR
   clear hR hc
   obtain ⟨vp, vt, vi, rfl, h1, h2, h3⟩ := hR0.out
   obtain ⟨p1, c1, rfl, _⟩ := h1
   obtain ⟨p2, c2, rfl, _⟩ := h2
   obtain ⟨p3, c3, rfl, _⟩ := h3
   have hRr := MR.later hB _ _ hR0.out
   have x0 := (hB.cell (p := ⟨q, off + k * 4 + 0, none⟩) hq).trans (hcs 0 (by omega))
   have x1 := (hB.cell (p := ⟨q, off + k * 4 + 1, none⟩) hq).trans (hcs 1 (by omega))
   have x2 := (hB.cell (p := ⟨q, off + k * 4 + 2, none⟩) hq).trans (hcs 2 (by omega))
   have x3 := (hB.cell (p := ⟨q, off + k * 4 + 3, none⟩) hq).trans (hcs 3 (by omega))
   simp only [Nat.add_zero, List.getElem?_cons_zero, List.getElem?_cons_succ] at x0 x1 x2 x3
   have HV := Lib.hid (MR.later ((Below.refl wr.heap.size wr).alloc (Nat.le_refl _) (.cells #[.string (bs l[k].name), .slice p1 l[k].ps.length c1, .slice p2 l[k].pts.length c2, .slice p3 l[k].l.length c3] 53)) _ _ hRr)
   have HEL := Lib.hid hel
   clear hel hRr hcs
   have hT : ((l.map moduleT).take (k + 1)) = (l.map moduleT).take k ++ [moduleT l[k]] := by
    have h1 : (l.map moduleT).take k ++ [(l.map moduleT)[k]'(by simpa using hlt)] = (l.map moduleT).take (k + 1) := List.take_append_getElem (by simpa using hlt)
    rw [← h1, List.getElem_map]
   have HT := Lib.hid hT
   have HFL := Lib.hid hfl2
   have hL := Lib.hid hl
   clear hT hfl2
   generalize l[k] = y at *
   by_cases hk0 : k = 0
   ·have hkn : decide (0 < k) = false := by rw [hk0]; simp
    have hkd : decide ((0 : Int) < (k : Int)) = false := by rw [hk0]; simp
    have HK0 := Lib.hid hk0
    clear hk0
    go_wp2_with (first
     | (go_at_call 48; refine (HEL.out _ _ _ (Nat.le_refl _) HV.out).mono ?_; rintro e W5 ⟨f, rfl, h1, h2⟩; obtain ⟨gf, lf, rfl, h3⟩ := seq_form h1; clear h1; have H2 := Lib.hid h2; have H3 := Lib.hid h3; clear h2 h3)
     | (at_builtin; refine wpList_append_lies _ rfl _ _ 121 rfl W.heap.size 79 i0 Value.nilFunc 1 8 fnSlice hi hz0 hz1 hz2 rfl (by decide) _ _ _ rfl (((HS.out.later ((Below.refl _ _).alloc (Nat.le_refl _) _)).later H2.out).later ((Below.refl _ _).alloc (Nat.le_refl _) _)).own ⟨W5.heap.size, 0, none⟩ 1 1 [.func (.func gf) #[] lf] rfl rfl (fun j u hu => World.news_of_block (World.alloc_heap_new W5 _) j u hu) (by simp [Value.oneCell']) (by decide) (by unfold maxLen; have := HFL.out; have := hL.out; omega) (by have := HFL.out; have := hL.out; omega) (by have := ((HS.out.later ((Below.refl _ _).alloc (Nat.le_refl _) _)).later H2.out).bel.size; simp; omega) _ rfl ?_; intro g' cap' w1 hown hgr hat hlt2; have HX := Lib.hid hown; have HG := Lib.hid hgr; have HA := Lib.hid hat; clear hown hgr hat hlt2))
    refine ⟨⟨k + 1, fs ++ [.func (.func gf) #[] lf], by go_num, hlt, ⟨_, _, by rw [List.length_append]; rfl⟩, Lib.hid ?_⟩, by simp [intOf]; omega⟩
    rw [HT.out]
    exact ((HS.out.later ((Below.refl _ _).alloc (Nat.le_refl _) _)).later H2.out).app H3.out (by have := hB.size; simp; omega) (fun r hr => by have := (HS.out.lt r hr).2; simp; omega) ((Below.refl _ _).alloc (Nat.le_refl _) _) HX.out HG.out HA.out
   ·have hkn : decide (0 < k) = true := by simp; omega
    have hkd : decide ((0 : Int) < (k : Int)) = true := by simp; omega
    have HK0 := Lib.hid hk0
    clear hk0
    go_wp2_with (first
     | (go_at_call 48; refine (HEL.out _ _ _ (Nat.le_refl _) HV.out).mono ?_; rintro e W5 ⟨f, rfl, h1, h2⟩; obtain ⟨gf, lf, rfl, h3⟩ := seq_form h1; clear h1; have H2 := Lib.hid h2; have H3 := Lib.hid h3; clear h2 h3)
     | (at_builtin; refine wpList_append_lies _ rfl _ _ 121 rfl W.heap.size 79 i0 Value.nilFunc 1 8 fnSlice hi hz0 hz1 hz2 rfl (by decide) _ _ _ rfl (((HS.out.later ((Below.refl _ _).alloc (Nat.le_refl _) _)).later H2.out).later ((Below.refl _ _).alloc (Nat.le_refl _) _)).own ⟨W5.heap.size, 0, none⟩ 1 1 [.func (.func gf) #[] lf] rfl rfl (fun j u hu => World.news_of_block (World.alloc_heap_new W5 _) j u hu) (by simp [Value.oneCell']) (by decide) (by unfold maxLen; have := HFL.out; have := hL.out; omega) (by have := HFL.out; have := hL.out; omega) (by have := ((HS.out.later ((Below.refl _ _).alloc (Nat.le_refl _) _)).later H2.out).bel.size; simp; omega) _ rfl ?_; intro g' cap' w1 hown hgr hat hlt2; have HX := Lib.hid hown; have HG := Lib.hid hgr; have HA := Lib.hid hat; clear hown hgr hat hlt2))
    refine ⟨⟨k + 1, fs ++ [.func (.func gf) #[] lf], by go_num, hlt, ⟨_, _, by rw [List.length_append]; rfl⟩, Lib.hid ?_⟩, by simp [intOf]; omega⟩
    rw [HT.out]
    exact ((HS.out.later ((Below.refl _ _).alloc (Nat.le_refl _) _)).later H2.out).app H3.out (by have := hB.size; simp; omega) (fun r hr => by have := (HS.out.lt r hr).2; simp; omega) ((Below.refl _ _).alloc (Nat.le_refl _) _) HX.out HG.out HA.out
  ·have hkl : k = l.length := by omega
   have hge' : ¬ ((k : Int) < (l.length : Int)) := by omega
   have hsq := HS.out.seqs
   have hlen : ((l.map moduleT).take k).length ≤ 1000000000 := by
    have h1 := HS.out.lies.len
    rw [List.length_take, List.length_map]
    omega
   have HSQ := Lib.hid hsq
   have HKL := Lib.hid hkl
   clear hsq hkl
   go_wp2_with (go_at_call 91; refine (row_any _ _ hlen wr W.heap.size HS.out.bel.size HSQ.out).mono ?_; rintro e W9 ⟨f, rfl, h1, h2⟩; have H1 := Lib.hid h1; have H2 := Lib.hid h2; clear h1 h2)
   go_ret
   refine ⟨_, rfl, ?_, HS.out.bel.trans (H2.out.mono HS.out.bel.size)⟩
   have := H1.out.later hlo (KeptL.refl _ _)
   rw [HKL.out, List.take_of_length_le (by simp)] at this
   exact this
end Go.Proofs.YtlcfpdmicpggbaaGreatDoor
namespace Go.Proofs.Spl
open Go.Proofs.Scn
theorem told_ok {n d : Nat} {ok : Bool} : told n d ok = 0 ↔ n ≤ 65536 ∧ d ≤ 64 ∧ ok = true := by
 unfold told
 split
 ·simp; omega
 ·split
  ·rename_i h1 h2; simp [h2]; omega
  ·rename_i h1 h2; simp [h2]
theorem checkX_ok {x : X} : checkX x = 0 ↔ sizeX x ≤ 65536 ∧ deepX x ≤ 64 ∧ okX x = true := told_ok
theorem checkS_ok {x : S} : checkS x = 0 ↔ sizeS x ≤ 65536 ∧ deepS x ≤ 64 ∧ okS x = true := told_ok
theorem checkF_ok {f : List Md} : checkF f = 0 ↔ f.length ≤ 64 ∧ sumN sizeM f ≤ 65536 ∧ maxN deepM f ≤ 64 ∧ f.all okM = true := by
 unfold checkF
 split
 ·simp; omega
 ·rw [told_ok]
  exact ⟨fun h => ⟨by omega, h⟩, fun h => h.2⟩
theorem sizeS_eq (s : S) : sizeS s = sizeXs s.x + sizeSs s.l + 1 := by cases s; rw [sizeS]; rfl
theorem deepS_eq (s : S) : deepS s = max (deepXs s.x) (deepSs s.l) + 1 := by cases s; rw [deepS]; rfl
theorem sizeX_eq (s : X) : sizeX s = sizeXs s.l + 1 := by cases s; rw [sizeX]; rfl
theorem deepX_eq (s : X) : deepX s = deepXs s.l + 1 := by cases s; rw [deepX]; rfl
def nameX (s : Ln) : X := .mk 2 s 0 0 0 []
def binX (n : Int) (a b : X) : X := .mk 6 [] n 0 0 [a, b]
def notX (a : X) : X := .mk 5 [] 1 0 0 [a]
theorem ok_name {s : Ln} : okX (nameX s) = isName s := by
 rw [okX_iff]
 simp [nameX, okNode, namedO, partsO, numberO, valueO, X.op, X.name, X.n, X.w, X.v, X.l]
theorem ok_bin {n : Int} (h1 : 11 ≤ n) (h2 : n ≤ 26) {a b : X} (ha : okX a = true) (hb : okX b = true) : okX (binX n a b) = true := by
 rw [okX_iff]
 simp [binX, okNode, namedO, partsO, numberO, valueO, X.op, X.name, X.n, X.w, X.v, X.l, ha, hb, h1, h2]
theorem ok_not {a : X} (ha : okX a = true) : okX (notX a) = true := by
 rw [okX_iff]
 simp [notX, okNode, namedO, partsO, numberO, valueO, X.op, X.name, X.n, X.w, X.v, X.l, ha]
theorem size_bin (n : Int) (a b : X) : sizeX (binX n a b) = sizeX a + sizeX b + 1 ∧ deepX (binX n a b) = max (deepX a) (deepX b) + 1 := by
 simp [binX, sizeX, sizeXs, deepX, deepXs]
theorem size_not (a : X) : sizeX (notX a) = sizeX a + 1 ∧ deepX (notX a) = deepX a + 1 := by
 simp [notX, sizeX, sizeXs, deepX, deepXs]
theorem size_name (s : Ln) : sizeX (nameX s) = 1 ∧ deepX (nameX s) = 1 := by simp [nameX, sizeX, sizeXs, deepX, deepXs]
theorem twoR_le (n : Int) : twoR n ≤ 10 := by
 have put : ∀ (c : Prop) [Decidable c] (a b : Nat), a ≤ 10 → b ≤ 10 → (if c then a else b) ≤ 10 := by
  intro c _ a b ha hb; split
  ·exact ha
  ·exact hb
 unfold twoR
 repeat' (apply put)
 all_goals decide
theorem signs_ok {a b c : Ln} (ha : isName a = true) (hb : isName b = true) (hc : isName c = true) {m n : Int} (h1 : 11 ≤ m) (h2 : m ≤ 26) (h3 : 11 ≤ n) (h4 : n ≤ 26) :
  checkX (binX m (binX n (nameX a) (nameX b)) (nameX c)) = 0 ∧ checkX (binX m (nameX a) (binX n (nameX b) (nameX c))) = 0 ∧ checkX (notX (binX n (nameX a) (nameX b))) = 0 := by
 have oa : okX (nameX a) = true := by rw [ok_name, ha]
 have ob : okX (nameX b) = true := by rw [ok_name, hb]
 have oc : okX (nameX c) = true := by rw [ok_name, hc]
 refine ⟨?_, ?_, ?_⟩
 ·rw [checkX_ok]
  refine ⟨?_, ?_, ok_bin h1 h2 (ok_bin h3 h4 oa ob) oc⟩
  ·rw [(size_bin ..).1, (size_bin ..).1, (size_name _).1, (size_name _).1, (size_name _).1]; omega
  ·rw [(size_bin ..).2, (size_bin ..).2, (size_name _).2, (size_name _).2, (size_name _).2]; omega
 ·rw [checkX_ok]
  refine ⟨?_, ?_, ok_bin h1 h2 oa (ok_bin h3 h4 ob oc)⟩
  ·rw [(size_bin ..).1, (size_bin ..).1, (size_name _).1, (size_name _).1, (size_name _).1]; omega
  ·rw [(size_bin ..).2, (size_bin ..).2, (size_name _).2, (size_name _).2, (size_name _).2]; omega
 ·rw [checkX_ok]
  refine ⟨?_, ?_, ok_not (ok_bin h3 h4 oa ob)⟩
  ·rw [(size_not ..).1, (size_bin ..).1, (size_name _).1, (size_name _).1]; omega
  ·rw [(size_not ..).2, (size_bin ..).2, (size_name _).2, (size_name _).2]; omega
end Go.Proofs.Spl
namespace Go.Proofs.Spl
open Go.Proofs.Scn
def rowTok (t : Tok) : Option Nat :=
 if t.k = 4 then
  (if t.s = [42] then some 10 else if t.s = [43] ∨ t.s = [45] then some 9 else if t.s = [60, 60] ∨ t.s = [62, 62] then some 8 else if t.s = [60] ∨ t.s = [60, 61] ∨ t.s = [62] ∨ t.s = [62, 61] then some 7
   else if t.s = [61, 61] ∨ t.s = [33, 61] then some 6 else if t.s = [38] then some 5 else if t.s = [94] then some 4 else if t.s = [124] then some 3 else if t.s = [38, 38] then some 2 else if t.s = [124, 124] then some 1 else none)
 else none
def StopK (k : Nat) : List Tok → Prop
 | [] => True
 | t :: _ => t ≠ sgT [91] ∧ ∀ r, rowTok t = some r → r < k
def Stop0 : List Tok → Prop
 | [] => True
 | t :: _ => t ≠ sgT [91] ∧ t ≠ sgT [63] ∧ rowTok t = none
theorem StopK.mono {k k' : Nat} (h : k ≤ k') : ∀ {l : List Tok}, StopK k l → StopK k' l
 | [], _ => trivial
 | t :: _, ⟨h1, h2⟩ => ⟨h1, fun r e => Nat.lt_of_lt_of_le (h2 r e) h⟩
structure Itm where
 b : Bool
 x : X
def Chain (k N : Nat) : Nat → List (Int × X) → Prop
 | _, [] => True
 | m, (n, b) :: t => 11 ≤ n ∧ n ≤ 26 ∧ k ≤ twoR n ∧ twoR n ≤ m ∧ okX b = true ∧ sizeX b < N ∧ Chain k N (twoR n) t
theorem Chain.mono {k N N' : Nat} (hN : N ≤ N') : ∀ {m : Nat} {t : List (Int × X)}, Chain k N m t → Chain k N' m t
 | _, [], _ => trivial
 | _, (n, b) :: t, ⟨h1, h2, h3, h4, h5, h6, h7⟩ => ⟨h1, h2, h3, h4, h5, Nat.lt_of_lt_of_le h6 hN, h7.mono hN⟩
theorem Chain.less {k k' N : Nat} (hk : k' ≤ k) : ∀ {m : Nat} {t : List (Int × X)}, Chain k N m t → Chain k' N m t
 | _, [], _ => trivial
 | _, (n, b) :: t, ⟨h1, h2, h3, h4, h5, h6, h7⟩ => ⟨h1, h2, Nat.le_trans hk h3, h4, h5, h6, h7.less hk⟩
theorem Chain.snoc {k N : Nat} {n : Int} {b : X} (h1 : 11 ≤ n) (h2 : n ≤ 26) (hb : okX b = true) (hs : sizeX b < N) (hkn : twoR n ≤ k) : ∀ {m : Nat} {t : List (Int × X)}, Chain k N m t → twoR n ≤ m → Chain (twoR n) N m (t ++ [(n, b)])
 | m, [], _, hm => ⟨h1, h2, Nat.le_refl _, hm, hb, hs, trivial⟩
 | m, (n', b') :: t, ⟨g1, g2, g3, g4, g5, g6, g7⟩, hm => ⟨g1, g2, Nat.le_trans hkn g3, g4, g5, g6, Chain.snoc h1 h2 hb hs hkn g7 (Nat.le_trans hkn g3)⟩
theorem bin_form {x : X} (h : okX x = true) (h6 : x.op = 6) : ∃ n a b, x = .mk 6 [] n 0 0 [a, b] ∧ 11 ≤ n ∧ n ≤ 26 ∧ okX a = true ∧ okX b = true := by
 obtain ⟨op, name, n, w, v, l⟩ := x
 simp only [X.op] at h6
 subst h6
 rw [okX_iff] at h
 simp [okNode, namedO, partsO, numberO, valueO, X.op, X.name, X.n, X.w, X.v, X.l] at h
 obtain ⟨⟨⟨⟨h1, h2⟩, h3⟩, h4⟩, h5⟩ := h
 match l, h2 with
 | [a, b], _ => exact ⟨n, a, b, by simp_all, of_decide_eq_true h3.1, of_decide_eq_true h3.2, h5 a (by simp), h5 b (by simp)⟩
theorem sg_inj {a b : Ln} (h : sgT a = sgT b) : a = b := by simpa [sgT] using h
inductive Prim : X → List Tok → Prop
 | num (w : Int) (v : Nat) : Prim (.mk 1 [] 0 w v []) [numT w v]
 | name (s : Ln) : Prim (.mk 2 s 0 0 0 []) [nmT s]
 | index (s : Ln) (a : X) : okX a = true → Prim (.mk 4 s 0 0 0 [a]) (nmT s :: sgT [91] :: (exprT a ++ [sgT [93]]))
 | slice (s : Ln) (a b : X) : okX a = true → okX b = true → Prim (.mk 3 s 0 0 0 [a, b]) (nmT s :: sgT [91] :: (exprT a ++ sgT [58] :: (exprT b ++ [sgT [93]])))
 | un (n : Int) (a : X) : 1 ≤ n → n ≤ 6 → okX a = true → Prim (.mk 5 [] n 0 0 [a]) (sgT (oneS n) :: partT (rankX a, exprT a) 11)
 | cat (l : List X) : l ≠ [] → (∀ x ∈ l, okX x = true) → Prim (.mk 8 [] 0 0 0 l) (sgT [123] :: (sepS [44] (l.map exprT) ++ [sgT [125]]))
 | rep (a b : X) : okX a = true → okX b = true → Prim (.mk 9 [] 0 0 0 [a, b]) (sgT [123] :: (exprT a ++ sgT [123] :: (exprT b ++ [sgT [125], sgT [125]])))
 | ext (n : Int) (a b : X) : 31 ≤ n → n ≤ 33 → okX a = true → okX b = true → Prim (.mk 10 [] n 0 0 [a, b]) (wdT (extS n) :: sgT [40] :: (exprT a ++ sgT [44] :: (exprT b ++ [sgT [41]])))
theorem parts_cases {op : Int} {k : Nat} (h : partsO op k = true) : op = 1 ∨ op = 2 ∨ op = 3 ∨ op = 4 ∨ op = 5 ∨ op = 6 ∨ op = 7 ∨ op = 8 ∨ op = 9 ∨ op = 10 := by
 unfold partsO at h
 by_cases h1 : op = 1 ∨ op = 2
 ·omega
 rw [if_neg h1] at h
 by_cases h2 : op = 4 ∨ op = 5
 ·omega
 rw [if_neg h2] at h
 by_cases h3 : op = 3 ∨ op = 6 ∨ op = 9 ∨ op = 10
 ·omega
 rw [if_neg h3] at h
 by_cases h4 : op = 7
 ·omega
 rw [if_neg h4] at h
 by_cases h5 : op = 8
 ·omega
 rw [if_neg h5] at h
 cases h
theorem stop0_sg {s : Ln} (h1 : s ≠ [91]) (h2 : s ≠ [63]) (h3 : rowTok (sgT s) = none) (l : List Tok) : Stop0 (sgT s :: l) := ⟨fun e => h1 (sg_inj e), fun e => h2 (sg_inj e), h3⟩
theorem s58 (l : List Tok) : Stop0 (sgT [58] :: l) := stop0_sg (by decide) (by decide) (by decide) l
theorem s41 (l : List Tok) : Stop0 (sgT [41] :: l) := stop0_sg (by decide) (by decide) (by decide) l
theorem s59 (l : List Tok) : Stop0 (sgT [59] :: l) := stop0_sg (by decide) (by decide) (by decide) l
theorem s46 (l : List Tok) : Stop0 (sgT [46, 46] :: l) := stop0_sg (by decide) (by decide) (by decide) l
end Go.Proofs.Spl
