/- Texts of the Wave laws, merged: YB, YC, YD, YE, YF. -/
import Derived.Test.YtephnfhjobkciaaGreatDoorQ3
import Derived.Test.YtephnfhjobkciaaGreatDoorQ5
import Derived.Test.YtephnfhjobkciaaGreatDoorQ6
import Derived.Test.YtephnfhjobkciaaGreatDoorQ8
import Derived.Test.YtephnfhjobkciaaGreatDoorQ7
import Derived.Test.YtephnfhjobkciaaGreatDoorQ4
import Derived.Deep.RegionHeld3

/- A value at a time: the reference. -/
namespace Go.Proofs.Wav
set_option linter.unusedVariables false
set_option linter.unusedSimpArgs false
/-- the value when k changes are seen -/
def vF (l : List Chg) (t g : Int) (k : Nat) : Nat := (told ((l.take k).filter fun c => decide (c.t ≤ t)) g).getD 0
theorem vF_zero (l : List Chg) (t g : Int) : vF l t g 0 = 0 := by simp [vF, told]
theorem vF_full (l : List Chg) (t g : Int) : vF l t g l.length = valAt l t g := by unfold vF valAt; rw [List.take_length]
theorem vF_hit {l : List Chg} {t g : Int} {k : Nat} (hk : k < l.length) (h1 : l[k].g = g) (h2 : l[k].t ≤ t) : vF l t g (k + 1) = l[k].v := by
  unfold vF
  rw [List.take_succ_eq_append_getElem hk, List.filter_append, List.filter_cons, if_pos (decide_eq_true h2), List.filter_nil, told_snoc, if_pos h1]
  rfl
theorem vF_no {l : List Chg} {t g : Int} {k : Nat} (hk : k < l.length) (h : ¬ (l[k].g = g ∧ l[k].t ≤ t)) : vF l t g (k + 1) = vF l t g k := by
  unfold vF
  rw [List.take_succ_eq_append_getElem hk, List.filter_append, List.filter_cons]
  by_cases h2 : l[k].t ≤ t
  · rw [if_pos (decide_eq_true h2), List.filter_nil, told_snoc, if_neg (fun h1 => h ⟨h1, h2⟩)]
  · rw [if_neg (by simpa using h2), List.filter_nil, List.append_nil]
end Go.Proofs.Wav
namespace Go.Proofs.YtephnfhjobkciaaGreatDoor
open Go.RowKit Go.Proofs.Wav Go.Proofs.Scn Go.Flow Go.Sort
set_option linter.unusedVariables false
set_option linter.unusedSimpArgs false
set_option maxRecDepth 100000

set_option maxHeartbeats 8000000 in
theorem rat_any (vn vw vc : Value) (x : Wv) (hs : Small x) (t g : Int) (W : World) (h1 : WavAt W vn vw vc x) :
    Calls Tryz.prog 17 #[.agg #[vn, vw, vc, .int .i64 x.last], .int .i64 t, .int .i64 g] W fun e W' => e = .returned (.tuple #[.int .u64 (atV x t g), .int .i64 (atE x t g)]) ∧ Below W.heap.size W W' := by
  have HCk := Lib.hid (fun w hb => rcheck_any vn vw vc x hs w (h1.later hb))
  have HE1 := Lib.hid (@atE_bad x t g)
  have HE2 := Lib.hid (@atE_arg x t g)
  have HE3 := Lib.hid (@atE_ok x t g)
  obtain ⟨xn, xw, xc, xl⟩ := x
  obtain ⟨s1, s2, s3, s4⟩ := hs
  simp only at *
  obtain ⟨pn, cn, rfl⟩ := h1.1.form
  obtain ⟨pw, cw, rfl⟩ := h1.2.1.form
  obtain ⟨pc, cc, rfl⟩ := h1.2.2.form
  simp only at *
  generalize atE ⟨xn, xw, xc, xl⟩ t g = AE at *
  generalize atV ⟨xn, xw, xc, xl⟩ t g = AV at *
  have b1 := Box4.new W (.slice pn xn.length cn) (.slice pw xw.length cw) (.slice pc xc.length cc) (.int .i64 xl) 26
  have hb1 := (Below.refl W.heap.size W).alloc (Nat.le_refl _) (.cells #[.slice pn xn.length cn, .slice pw xw.length cw, .slice pc xc.length cc, .int .i64 xl] 26)
  have hb2 := (Below.refl W.heap.size (W.alloc (.cells #[.slice pn xn.length cn, .slice pw xw.length cw, .slice pc xc.length cc, .int .i64 xl] 26)))
  have HB := Lib.hid hb1
  have HC := Lib.hid (fun h => Slc.at h1.2.2 h)
  clear hb1 hb2 h1 s4
  by_cases hck : checkW ⟨xn, xw, xc, xl⟩ = 0
  case neg =>
    obtain ⟨rfl, rfl⟩ := HE1.out hck
    generalize checkW ⟨xn, xw, xc, xl⟩ = R at *
    have hck' : (R != 0) = true := by simpa using hck
    go_enter Tryz.func17, Tryz.ntmps17
    go_wp2_with fail
    refine (HCk.out _ HB.out).mono ?_
    rintro e W2 ⟨rfl, hb2⟩
    have HW2 := Lib.hid (HB.out.trans (hb2.mono HB.out.size))
    clear hb2
    go_wp2
    go_ret2
    exact ⟨rfl, HW2.out⟩
  rw [hck] at HCk
  have he2 := HE2.out hck
  have he3 := HE3.out hck
  clear HE1 HE2 HE3 hck
  by_cases c1 : t < 0
  · obtain ⟨rfl, rfl⟩ := he2 (.inl c1)
    clear he2 he3
    go_enter Tryz.func17, Tryz.ntmps17
    go_wp2_with fail
    refine (HCk.out _ HB.out).mono ?_
    rintro e W2 ⟨rfl, hb2⟩
    have HW2 := Lib.hid (HB.out.trans (hb2.mono HB.out.size))
    clear hb2
    go_wp2
    go_ret2
    exact ⟨rfl, HW2.out⟩
  by_cases c2 : xl < t
  · obtain ⟨rfl, rfl⟩ := he2 (.inr (.inl c2))
    clear he2 he3
    go_enter Tryz.func17, Tryz.ntmps17
    go_wp2_with fail
    refine (HCk.out _ HB.out).mono ?_
    rintro e W2 ⟨rfl, hb2⟩
    have HW2 := Lib.hid (HB.out.trans (hb2.mono HB.out.size))
    obtain ⟨a0, a1, a2, a3, _, _, _, _, _⟩ := b1.later hb2
    clear hb2
    go_wp2
    go_ret2
    exact ⟨rfl, HW2.out⟩
  by_cases c3 : g < 0
  · obtain ⟨rfl, rfl⟩ := he2 (.inr (.inr (.inl c3)))
    clear he2 he3
    go_enter Tryz.func17, Tryz.ntmps17
    go_wp2_with fail
    refine (HCk.out _ HB.out).mono ?_
    rintro e W2 ⟨rfl, hb2⟩
    have HW2 := Lib.hid (HB.out.trans (hb2.mono HB.out.size))
    obtain ⟨a0, a1, a2, a3, _, _, _, _, _⟩ := b1.later hb2
    clear hb2
    go_wp2
    go_ret2
    exact ⟨rfl, HW2.out⟩
  by_cases c4 : (xn.length : Int) ≤ g
  · obtain ⟨rfl, rfl⟩ := he2 (.inr (.inr (.inr c4)))
    clear he2 he3
    go_enter Tryz.func17, Tryz.ntmps17
    go_wp2_with fail
    refine (HCk.out _ HB.out).mono ?_
    rintro e W2 ⟨rfl, hb2⟩
    have HW2 := Lib.hid (HB.out.trans (hb2.mono HB.out.size))
    obtain ⟨a0, a1, a2, a3, _, _, _, _, _⟩ := b1.later hb2
    clear hb2
    go_wp2
    go_ret2
    exact ⟨rfl, HW2.out⟩
  obtain ⟨rfl, rfl⟩ := he3 (by omega)
  clear he2 he3
  have c4' : ¬ ((xn.length : Int) ≤ g) := c4
  go_enter Tryz.func17, Tryz.ntmps17
  go_wp2_with fail
  refine (HCk.out _ HB.out).mono ?_
  rintro e W2 ⟨rfl, hb2⟩
  have HW2 := Lib.hid (HB.out.trans (hb2.mono HB.out.size))
  obtain ⟨a0, a1, a2, a3, _, _, _, _, _⟩ := b1.later hb2
  clear hb2 b1
  go_wp2_with fail
  go_loop [9, 10] (fun v i => ∃ k : Nat, k ≤ xc.length ∧ i = .int .i64 k ∧ v = .int .u64 (vF xc t g k)) (fun _ i => xc.length - (intOf i).toNat)
  case atStart => exact ⟨0, Nat.zero_le _, rfl, by rw [vF_zero]; rfl⟩
  case round =>
    obtain ⟨k, hk, rfl, rfl⟩ := hrel
    by_cases hks : k < xc.length
    · obtain ⟨b, off, hpc, hlt, hcell⟩ := HC.out (by omega)
      have x0 := (HW2.out.cell (p := ⟨b, off + (k * 3 + 0), none⟩) hlt).trans ((hcell (k * 3 + 0) (by omega)).trans (chgsV_at xc k 0 hks (by omega)))
      have x1 := (HW2.out.cell (p := ⟨b, off + (k * 3 + 1), none⟩) hlt).trans ((hcell (k * 3 + 1) (by omega)).trans (chgsV_at xc k 1 hks (by omega)))
      have x2 := (HW2.out.cell (p := ⟨b, off + (k * 3 + 2), none⟩) hlt).trans ((hcell (k * 3 + 2) (by omega)).trans (chgsV_at xc k 2 hks (by omega)))
      have hhit := fun h h2 => @vF_hit xc t g k hks h h2
      have hno := fun h => @vF_no xc t g k hks h
      generalize xc[k] = c at *
      obtain ⟨ct, cg, cv⟩ := c
      simp only [chgV, List.getElem?_cons_zero, List.getElem?_cons_succ, Nat.add_zero] at x0 x1 x2
      rw [← Nat.add_assoc] at x1 x2
      subst hpc
      clear hcell hlt
      simp only at hhit hno
      by_cases hg : cg = g
      · by_cases ht : ct ≤ t
        · have HH := Lib.hid (hhit hg ht)
          clear hhit hno
          subst hg
          go_wp2_with fail
          go_round
          case rel => exact ⟨k + 1, by omega, by go_num, by rw [HH.out]⟩
          case measure => simp [intOf]; omega
        · have HH := Lib.hid (hno (fun h => ht h.2))
          clear hhit hno
          subst hg
          go_wp2_with fail
          go_round
          case rel => exact ⟨k + 1, by omega, by go_num, by rw [HH.out]⟩
          case measure => simp [intOf]; omega
      · have HH := Lib.hid (hno (fun h => hg h.1))
        clear hhit hno
        go_wp2_with fail
        go_round
        case rel => exact ⟨k + 1, by omega, by go_num, by rw [HH.out]⟩
        case measure => simp [intOf]; omega
    · obtain rfl : k = xc.length := by omega
      go_wp2
      go_ret2
      exact ⟨by rw [← vF_full]; rfl, HW2.out⟩

end Go.Proofs.YtephnfhjobkciaaGreatDoor

/- A wave of rows: the reference. -/
namespace Go.Proofs.YtephnfhjobkciaaGreatDoor
open Go.RowKit Go.Proofs.Wav Go.Proofs.Scn Go.Flow Go.Sort Go.Cal
set_option linter.unusedVariables false
set_option linter.unusedSimpArgs false
set_option maxRecDepth 100000

/-- the reference's wave while it is made: the result's box, its own box, its changes -/
structure RMk (W : World) (x : Wv) (vn vw vc : Value) (w : World) : Prop where
  r0 : WBox w W.heap.size (.slice none 0 0) (.slice none 0 0) (.slice none 0 0) (.int .i64 0)
  r1 : WBox w (W.heap.size + 1) vn vw vc (.int .i64 x.last)
  ch : w.ownsRow W.heap.size 50 3 vc x.chs.length (chgsV x.chs)
  bel : Below W.heap.size W w
theorem RMk.later {W : World} {x : Wv} {vn vw vc : Value} {w w' : World} (h : RMk W x vn vw vc w) (hb : Below w.heap.size w w') : RMk W x vn vw vc w' :=
  ⟨h.r0.later hb, h.r1.later hb, row_later h.ch hb, h.bel.trans (hb.mono h.bel.size)⟩
theorem RMk.app {W : World} {x : Wv} {vn vw vc : Value} {w w2 : World} (h : RMk W x vn vw vc w) (hg : w.grownBy w2 vc.ownBlock) : WBox w2 W.heap.size (.slice none 0 0) (.slice none 0 0) (.slice none 0 0) (.int .i64 0) ∧ WBox w2 (W.heap.size + 1) vn vw vc (.int .i64 x.last) ∧ Below W.heap.size W w2 := by
  have hb : ∀ b, vc.ownBlock = some b → ∃ cur e fr, w.heap[b]? = some (.cells cur e fr) ∧ e ≠ 26 := fun b e => by obtain ⟨cur, fr, h1⟩ := row_block h.ch b e; exact ⟨cur, _, fr, h1, by decide⟩
  exact ⟨h.r0.grown hg hb, h.r1.grown hg hb, row_grown h.ch (Nat.le_refl _) h.bel h.bel.size hg⟩
theorem RMk.chg {W : World} {x : Wv} {vn vw vc : Value} {w w2 : World} (h : RMk W x vn vw vc w) (c : Chg) {p : Option Addr} {c' : Nat}
    (ho : w2.ownsRow W.heap.size 50 3 (.slice p (x.chs.length + 1) c') (x.chs.length + 1) (chgsV x.chs ++ chgV c)) (hg : w.grownBy w2 vc.ownBlock) :
    RMk W { x with chs := x.chs ++ [c] } vn vw (.slice p (x.chs.length + 1) c') (w2.setCell ⟨W.heap.size + 1, 2, none⟩ (.slice p (x.chs.length + 1) c')) := by
  obtain ⟨h0, h1, h2⟩ := h.app hg
  refine ⟨(Below.heap_setCell w2 ⟨W.heap.size + 1, 2, none⟩ _ _ (by simp)).trans h0, WBox.set h1 2 _, ?_, h2.setCell (by simp) _⟩
  have := row_set ho h1 (by decide) 2 (.slice p (x.chs.length + 1) c')
  show World.ownsRow _ _ _ _ _ (x.chs ++ [c]).length (chgsV (x.chs ++ [c]))
  rw [chgsV_snoc, List.length_append, List.length_singleton]
  exact this
theorem RMk.start (W : World) (ns : List Ln) (ws : List Int) (t : Int) (vn vw : Value) : RMk W ⟨ns, ws, [], t⟩ vn vw (.slice none 0 0) ((W.alloc (.cells #[.slice none 0 0, .slice none 0 0, .slice none 0 0, .int .i64 0] 26)).alloc (.cells #[vn, vw, .slice none 0 0, .int .i64 t] 26)) := by
  have b0 := WBox.new W (.slice none 0 0) (.slice none 0 0) (.slice none 0 0) (.int .i64 0)
  have b1 := WBox.new (W.alloc (.cells #[.slice none 0 0, .slice none 0 0, .slice none 0 0, .int .i64 0] 26)) vn vw (.slice none 0 0) (.int .i64 t)
  rw [World.size_alloc] at b1
  exact ⟨b0.later ((Below.refl _ _).alloc (Nat.le_refl _) _), b1, World.ownsRow_nil _ _ _ _, ((Below.refl _ _).alloc (Nat.le_refl _) _).alloc (by simp) _⟩
theorem RMk.box0 {W : World} {x : Wv} {vn vw vc a b c d : Value} {w : World} (h : RMk W x vn vw vc w) : WBox ((((w.setCell ⟨W.heap.size, 0, none⟩ a).setCell ⟨W.heap.size, 1, none⟩ b).setCell ⟨W.heap.size, 2, none⟩ c).setCell ⟨W.heap.size, 3, none⟩ d) W.heap.size a b c d ∧ Below W.heap.size W ((((w.setCell ⟨W.heap.size, 0, none⟩ a).setCell ⟨W.heap.size, 1, none⟩ b).setCell ⟨W.heap.size, 2, none⟩ c).setCell ⟨W.heap.size, 3, none⟩ d) ∧
    ((((w.setCell ⟨W.heap.size, 0, none⟩ a).setCell ⟨W.heap.size, 1, none⟩ b).setCell ⟨W.heap.size, 2, none⟩ c).setCell ⟨W.heap.size, 3, none⟩ d).ownsRow W.heap.size 50 3 vc x.chs.length (chgsV x.chs) := by
  have b0 := WBox.set h.r0 0 a
  have b1 := WBox.set b0 1 b
  have b2 := WBox.set b1 2 c
  exact ⟨wset4 h.r0, wbel4 h.bel (Nat.le_refl _), row_set (row_set (row_set (row_set h.ch h.r0 (by decide) 0 _) b0 (by decide) 1 _) b1 (by decide) 2 _) b2 (by decide) 3 _⟩

set_option maxHeartbeats 16000000 in
theorem rmake_any (vn vw vr : Value) (ns : List Ln) (ws : List Int) (rows : List (List Nat)) (hn : ns.length ≤ 100000) (hw : ws.length ≤ 100000) (hst : ∀ s ∈ ns, s.length ≤ 100000) (hr : rows.length ≤ 100000) (hp : rows.length * ns.length ≤ 100000)
    (W : World) (h1 : Strs W vn ns) (h2 : Ints W vw ws) (h3 : Rws W vr rows) :
    Calls Tryz.prog 22 #[vn, vw, vr] W (MakePost ns ws rows W) := by
  obtain ⟨pn, cn, rfl⟩ := Slc.form h1
  obtain ⟨pw, cw, rfl⟩ := Slc.form h2
  obtain ⟨pr, cr, rfl⟩ := h3.form
  have HRw := Lib.hid (fun (h0 : 0 < rows.length) => Rws.at h3 h0)
  have HM1 := Lib.hid (fun k hk h => @make_bad ns ws rows k hk h)
  have HM2 := Lib.hid (fun h0 h => @make_full ns ws rows h0 h)
  have HNone := Lib.hid (fun (h : rows = []) => show makeW ns ws rows = (1, zeroW) by rw [h]; rfl)
  have HST := Lib.hid hst
  have HP := Lib.hid hp
  have HStrs := Lib.hid h1
  have HInts := Lib.hid h2
  have hMk := RMk.start W ns ws ((rows.length : Int) - 1) (.slice pn ns.length cn) (.slice pw ws.length cw)
  have HMk := Lib.hid hMk
  clear h1 h2 h3 hst hp hMk
  go_enter Tryz.func22, Tryz.ntmps22
  by_cases h0 : rows.length = 0
  · have hE : rows = [] := List.eq_nil_of_length_eq_zero h0
    have HBad := Lib.hid (HNone.out hE)
    subst hE
    clear h0
    go_wp2_with fail
    have hx := (RMk.start W ns ws (-1) (.slice pn ns.length cn) (.slice pw ws.length cw))
    obtain ⟨z0, z1, z2, z3, _, _, _, _, _⟩ := hx.r0.box
    refine bodyPost_ret (v := .tuple #[.agg #[.slice none 0 0, .slice none 0 0, .slice none 0 0, .int .i64 0], .int .i64 1]) ?_ rfl (MakePost.bad HBad.out rfl hx.bel)
    generalize ((W.alloc (.cells #[.slice none 0 0, .slice none 0 0, .slice none 0 0, .int .i64 0] 26)).alloc (.cells #[.slice pn ns.length cn, .slice pw ws.length cw, .slice none 0 0, .int .i64 (-1)] 26)) = X at *
    simp [results, Tryz.results22, go_sem, z0, z1, z2, z3]
  have h0' : ((rows.length : Int) == 0) = false := beq_eq_false_iff_ne.2 (by omega)
  have h0p : 0 < rows.length := by omega
  obtain ⟨br, or, hpr, hltr, hcr⟩ := HRw.out h0p
  have HCR := Lib.hid hcr
  subst hpr
  clear hcr h0 HNone HRw
  go_wp2_with fail
  generalize ((W.alloc (.cells #[.slice none 0 0, .slice none 0 0, .slice none 0 0, .int .i64 0] 26)).alloc (.cells #[.slice pn ns.length cn, .slice pw ws.length cw, .slice none 0 0, .int .i64 ((rows.length : Int) - 1)] 26)) = X at *
  go_loopw [9] (fun i wr => ∃ (k : Nat) (vc : Value), i = .int .i64 k ∧ k ≤ rows.length ∧ Hid (∀ j (hj : j < rows.length), j < k → rows[j].length = ns.length) ∧ Hid ((chsOf rows k).length ≤ k * ns.length) ∧ Hid (RMk W ⟨ns, ws, chsOf rows k, (rows.length : Int) - 1⟩ (.slice pn ns.length cn) (.slice pw ws.length cw) vc wr)) (fun i _ => rows.length - (intOf i).toNat)
  case atStart => exact ⟨0, .slice none 0 0, rfl, Nat.zero_le _, Lib.hid (fun j _ h => by omega), Lib.hid (by simp [chsOf]), HMk⟩
  case round =>
    obtain ⟨k, vc, rfl, hk, HLen, HCl, HSt⟩ := hrel
    by_cases hks : k < rows.length
    · obtain ⟨qk, dk, xk, huk⟩ := HCR.out k hks
      have xW := xk
      replace xk := (HSt.out.bel.cell (p := ⟨br, or + k, none⟩) hltr).trans xk
      have hk0 : (0 : Int) ≤ (k : Int) := by omega
      have hk1 : (k : Int) < (rows.length : Int) := by omega
      by_cases hl : rows[k].length = ns.length
      case neg =>
        have hl' : ((rows[k].length : Int) != (ns.length : Int)) = true := by simp; omega
        have HBad := Lib.hid (HM1.out k hks hl)
        obtain ⟨a0, a1, a2, a3, f0, f1, f2, f3, lt0⟩ := HSt.out.r0.box
        clear hl huk
        go_wp2_with fail
        have hx := HSt.out.box0 (a := .slice none 0 0) (b := .slice none 0 0) (c := .slice none 0 0) (d := .int .i64 0)
        generalize (((wr.setCell ⟨W.heap.size, 0, none⟩ (.slice none 0 0)).setCell ⟨W.heap.size, 1, none⟩ (.slice none 0 0)).setCell ⟨W.heap.size, 2, none⟩ (.slice none 0 0)).setCell ⟨W.heap.size, 3, none⟩ (.int .i64 0) = Y at *
        obtain ⟨z0, z1, z2, z3, _, _, _, _, _⟩ := hx.1.box
        refine bodyPost_ret (v := .tuple #[.agg #[.slice none 0 0, .slice none 0 0, .slice none 0 0, .int .i64 0], .int .i64 1]) ?_ rfl (MakePost.bad HBad.out rfl hx.2.1)
        simp [results, Tryz.results22, go_sem, z0, z1, z2, z3]
      rw [hl] at xk huk xW
      have hl2 : ((ns.length : Int) != (ns.length : Int)) = false := by simp
      have HL := Lib.hid hl
      clear hl
      have hrow := chs_row hks
      rw [HL.out] at hrow
      have HRow := Lib.hid hrow
      have hkn : k * ns.length ≤ 100000 := Nat.le_trans (Nat.mul_le_mul_right _ (Nat.le_of_lt hks)) HP.out
      have hcl0 := HCl.out
      have hrl := HL.out
      generalize hrr : rows[k] = r at *
      have HRR := Lib.hid hrr
      have HUK := Lib.hid huk
      have HXW := Lib.hid xW
      have HRL := Lib.hid hrl
      clear hrow huk hrl hrr xW
      go_wp2_with fail
      clear xk
      generalize hch : chsOf rows k = ch at *
      clear hch
      go_loopw [10] (fun i wq => ∃ (s : Nat) (vc' : Value), i = .int .i64 s ∧ s ≤ ns.length ∧ Hid (RMk W ⟨ns, ws, ch ++ rowC k (Wav.ahead rows k) r s, (rows.length : Int) - 1⟩ (.slice pn ns.length cn) (.slice pw ws.length cw) vc' wq)) (fun i _ => ns.length - (intOf i).toNat)
      case atStart => exact ⟨0, vc, rfl, Nat.zero_le _, by rw [rowC_zero, List.append_nil]; exact HSt⟩
      case round =>
        obtain ⟨s, vc', rfl, hs, HQ⟩ := hrel
        by_cases hsn : s < ns.length
        · have hsr : s < r.length := by rw [HRL.out]; exact hsn
          obtain ⟨bk, ok, hpk, hltk, hck⟩ := Slc.at HUK.out (by omega)
          have xsW := one_at hck s hsr
          have hput := fun h => @rowC_put k (Wav.ahead rows k) r s h
          have hnot := fun h => @rowC_not k (Wav.ahead rows k) r s h
          rw [getD_at hsr] at hput hnot
          generalize r[s] = v at *
          unfold u64V at xsW
          subst hpk
          clear hck
          have hcl1 : (ch ++ rowC k (Wav.ahead rows k) r s).length ≤ 200000 := by
            rw [List.length_append]
            have := rowC_le k (Wav.ahead rows k) r s
            omega
          obtain ⟨pc, cc, hvc⟩ := row_form HQ.out.ch
          obtain ⟨N, hN⟩ : ∃ N, N = (ch ++ rowC k (Wav.ahead rows k) r s).length := ⟨_, rfl⟩
          simp only at hvc
          rw [← hN] at hvc
          subst hvc
          have hN6 : N ≤ 1000000 := by omega
          have HN := Lib.hid hN
          have hs0 : (0 : Int) ≤ (s : Int) := by omega
          have hs1 : (s : Int) < (ns.length : Int) := by omega
          have HCH : ∀ w vc, RMk W ⟨ns, ws, ch ++ rowC k (Wav.ahead rows k) r s, (rows.length : Int) - 1⟩ (.slice pn ns.length cn) (.slice pw ws.length cw) vc w → w.ownsRow W.heap.size 50 3 vc N (chgsV (ch ++ rowC k (Wav.ahead rows k) r s)) := fun w vc h => by rw [HN.out]; exact h.ch
          have HCH' := Lib.hid HCH
          have HEnd := Lib.hid (fun (hp : rowC k (Wav.ahead rows k) r (s + 1) = rowC k (Wav.ahead rows k) r s ++ [⟨k, s, v⟩]) (w1 : World) (HQ1 : RMk W ⟨ns, ws, ch ++ rowC k (Wav.ahead rows k) r s, (rows.length : Int) - 1⟩ (.slice pn ns.length cn) (.slice pw ws.length cw) (.slice pc N cc) w1) (p' : Option Addr) (c' : Nat) (w2 : World) (ho : w2.ownsRow W.heap.size 50 3 (.slice p' (N + 1) c') (N + 1) (chgsV (ch ++ rowC k (Wav.ahead rows k) r s) ++ [.int .i64 k, .int .i64 s, .int .u64 v])) (hg : w1.grownBy w2 (Value.slice pc N cc).ownBlock) => show RMk W ⟨ns, ws, ch ++ rowC k (Wav.ahead rows k) r (s + 1), (rows.length : Int) - 1⟩ (.slice pn ns.length cn) (.slice pw ws.length cw) (.slice p' (N + 1) c') (w2.setCell ⟨W.heap.size + 1, 2, none⟩ (.slice p' (N + 1) c')) from by
            have := HQ1.chg ⟨k, s, v⟩ (p := p') (c' := c') (w2 := w2) (by rw [HN.out] at ho; exact ho) hg
            simp only at this
            rw [← HN.out] at this
            rw [hp, ← List.append_assoc]
            exact this)
          clear hN hcl1 HCH
          have xk := (HQ.out.bel.cell (p := ⟨br, or + k, none⟩) hltr).trans HXW.out
          have xs := (HQ.out.bel.cell (p := ⟨bk, ok + s, none⟩) hltk).trans xsW
          have HXS := Lib.hid xsW
          clear xsW
          by_cases hk00 : k = 0
          · have HPut := Lib.hid (HEnd.out (hput (by unfold Wav.ahead; rw [if_pos hk00]; simp)))
            have hkz : ((k : Int) == 0) = true := by simp [hk00]
            have HK00 := Lib.hid hk00
            clear hput hnot hk00
            go_wp2_with fail
            go_quiet (fail)
            have HQ0 := Lib.hid (HQ.out.later (below_drewN (Below.refl _ _) nq))
            go_wp2_with fail
            refine region_plain (S := fun w => w.cell? ⟨W.heap.size + 1, 2, none⟩ = some (.slice pc N cc) ∧ w.cell? ⟨br, or + k, none⟩ = some (.slice (some ⟨bk, ok, none⟩) ns.length dk) ∧ w.cell? ⟨bk, ok + s, none⟩ = some (.int .u64 v)) (U := [14, 15]) (by kernel_rfl) (fun a w h => h) ?_
            have HQd := Lib.hid (HQ0.out.later (Below.refl _ _).drew)
            generalize World.drew _ = w0 at *
            have hSx := Lib.hid (fun (w : World) (h1 : WBox w (W.heap.size + 1) (.slice pn ns.length cn) (.slice pw ws.length cw) (.slice pc N cc) (.int .i64 ((rows.length : Int) - 1))) (hb : Below W.heap.size W w) => (show w.cell? ⟨W.heap.size + 1, 2, none⟩ = some (.slice pc N cc) ∧ w.cell? ⟨br, or + k, none⟩ = some (.slice (some ⟨bk, ok, none⟩) ns.length dk) ∧ w.cell? ⟨bk, ok + s, none⟩ = some (.int .u64 v) from ⟨h1.box.c2, (hb.cell (p := ⟨br, or + k, none⟩) hltr).trans HXW.out, (hb.cell (p := ⟨bk, ok + s, none⟩) hltk).trans HXS.out⟩))
            have hS0 := hSx.out w0 HQd.out.r1 HQd.out.bel
            refine Any.takeL (i := 0) (v := ?v16) (by kernel_rfl) rfl (by kernel_rfl) (by kernel_rfl) (by kernel_rfl) (by rfl) ?hy16 hS0 ?rest16
            case hy16 => intro w; go_simp; with_reducible rfl
            simp only [Act.put, List.setIfInBounds_toArray, List.set_cons_zero, List.set_cons_succ]
            refine Any.takeSL (i := 1) (v := ?v17) (by kernel_rfl) rfl (by kernel_rfl) (by kernel_rfl) (by kernel_rfl) (by kernel_rfl) (by kernel_rfl) (by rfl) ?hy17 hS0 ?rest17
            case hy17 => intro w hSw; obtain ⟨hs0, hs1, hs2⟩ := hSw; go_simp; with_reducible rfl
            simp only [Act.put, List.setIfInBounds_toArray, List.set_cons_zero, List.set_cons_succ]
            refine Any.takeL (i := 2) (v := ?v18) (by kernel_rfl) rfl (by kernel_rfl) (by kernel_rfl) (by kernel_rfl) (by rfl) ?hy18 hS0 ?rest18
            case hy18 => intro w; go_simp; with_reducible rfl
            simp only [Act.put, List.setIfInBounds_toArray, List.set_cons_zero, List.set_cons_succ]
            refine Any.takeL (i := 3) (v := ?v19) (by kernel_rfl) rfl (by kernel_rfl) (by kernel_rfl) (by kernel_rfl) (by rfl) ?hy19 hS0 ?rest19
            case hy19 => intro w; go_simp; with_reducible rfl
            simp only [Act.put, List.setIfInBounds_toArray, List.set_cons_zero, List.set_cons_succ]
            refine Any.takeL (i := 4) (v := ?v20) (by kernel_rfl) rfl (by kernel_rfl) (by kernel_rfl) (by kernel_rfl) (by rfl) ?hy20 hS0 ?rest20
            case hy20 => intro w; go_simp; with_reducible rfl
            simp only [Act.put, List.setIfInBounds_toArray, List.set_cons_zero, List.set_cons_succ]
            refine Any.takeL (i := 5) (v := ?v21) (by kernel_rfl) rfl (by kernel_rfl) (by kernel_rfl) (by kernel_rfl) (by rfl) ?hy21 hS0 ?rest21
            case hy21 => intro w; go_simp; with_reducible rfl
            simp only [Act.put, List.setIfInBounds_toArray, List.set_cons_zero, List.set_cons_succ]
            refine Any.takeL (i := 6) (v := ?v22) (by kernel_rfl) rfl (by kernel_rfl) (by kernel_rfl) (by kernel_rfl) (by rfl) ?hy22 hS0 ?rest22
            case hy22 => intro w; go_simp; with_reducible rfl
            simp only [Act.put, List.setIfInBounds_toArray, List.set_cons_zero, List.set_cons_succ]
            refine Any.takeSL (i := 7) (v := ?v23) (by kernel_rfl) rfl (by kernel_rfl) (by kernel_rfl) (by kernel_rfl) (by kernel_rfl) (by kernel_rfl) (by rfl) ?hy23 hS0 ?rest23
            case hy23 => intro w hSw; obtain ⟨hs0, hs1, hs2⟩ := hSw; go_simp; with_reducible rfl
            simp only [Act.put, List.setIfInBounds_toArray, List.set_cons_zero, List.set_cons_succ]
            refine Any.takeL (i := 8) (v := ?v24) (by kernel_rfl) rfl (by kernel_rfl) (by kernel_rfl) (by kernel_rfl) (by rfl) ?hy24 hS0 ?rest24
            case hy24 => intro w; go_simp; with_reducible rfl
            simp only [Act.put, List.setIfInBounds_toArray, List.set_cons_zero, List.set_cons_succ]
            refine Any.takeL (i := 9) (v := ?v25) (by kernel_rfl) rfl (by kernel_rfl) (by kernel_rfl) (by kernel_rfl) (by rfl) ?hy25 hS0 ?rest25
            case hy25 => intro w; go_simp; with_reducible rfl
            simp only [Act.put, List.setIfInBounds_toArray, List.set_cons_zero, List.set_cons_succ]
            refine Any.takeSL (i := 10) (v := ?v26) (by kernel_rfl) rfl (by kernel_rfl) (by kernel_rfl) (by kernel_rfl) (by kernel_rfl) (by kernel_rfl) (by rfl) ?hy26 hS0 ?rest26
            case hy26 => intro w hSw; obtain ⟨hs0, hs1, hs2⟩ := hSw; go_simp; with_reducible rfl
            simp only [Act.put, List.setIfInBounds_toArray, List.set_cons_zero, List.set_cons_succ]
            refine Any.takeL (i := 11) (v := ?v27) (by kernel_rfl) rfl (by kernel_rfl) (by kernel_rfl) (by kernel_rfl) (by rfl) ?hy27 hS0 ?rest27
            case hy27 => intro w; go_simp; with_reducible rfl
            simp only [Act.put, List.setIfInBounds_toArray, List.set_cons_zero, List.set_cons_succ]
            clear hS0
            have HQ1 := Lib.hid (HQd.out.later ((Below.refl _ _).alloc (Nat.le_refl _) (.cells #[.int .i64 k, .int .i64 s, .int .u64 v] 50)))
            have HX1 := Lib.hid (heap_alloc_new w0 (.cells #[.int .i64 k, .int .i64 s, .int .u64 v] 50))
            refine Any.nx1 (i := 12) (by kernel_rfl) ?_
            refine Nx.val (v := ?v28) (w' := w0.alloc (.cells #[.int .i64 k, .int .i64 s, .int .u64 v] 50)) rfl (by rfl) ?hr28 (Stt.of (hSx.out _ HQ1.out.r1 HQ1.out.bel)) ?hk28
            case hr28 => go_simp; with_reducible rfl
            simp only [Act.put, List.setIfInBounds_toArray, List.set_cons_zero, List.set_cons_succ]
            generalize w0.alloc (.cells #[.int .i64 k, .int .i64 s, .int .u64 v] 50) = w1 at *
            refine Any.nx1 (i := 13) (by kernel_rfl) ?_
            refine nx_app rfl rfl _ _ 24 50 rfl chgsSlice (.agg #[.int .i64 0, .int .i64 0, .int .u64 0]) 3 24 infoChg rfl (by decide) (by decide) W.heap.size _ N (chgsV (ch ++ rowC k (Wav.ahead rows k) r s)) rfl (HCH'.out _ _ HQ1.out) w0.heap.size 1 #[.int .i64 k, .int .i64 s, .int .u64 v] rfl HX1.out rfl (by simp [Value.oneCell']) hN6 HQ1.out.bel.size ?_
            intro p' c' w2 hown hgr
            have HSt2 := Lib.hid (HPut.out w1 HQ1.out p' c' w2 hown hgr)
            obtain ⟨hb0, hb1, hb2⟩ := HQ1.out.app hgr
            have HB1 := Lib.hid hb1
            refine ⟨Stt.of (hSx.out _ hb1 hb2), ?_⟩
            clear hown hgr hb0 hb1 hb2
            simp only [Act.put, List.setIfInBounds_toArray, List.set_cons_zero, List.set_cons_succ]
            obtain ⟨z0, z1, z2, z3, g0, g1, g2, g3, ltz⟩ := HB1.out.box
            refine Any.nx1 (i := 14) (by kernel_rfl) ?_
            refine Nx.val (v := ?v29) (w' := w2) rfl (by rfl) ?hr29 (Stt.past (by kernel_rfl)) ?hk29
            case hr29 => go_simp; with_reducible rfl
            simp only [Act.put, List.setIfInBounds_toArray, List.set_cons_zero, List.set_cons_succ]
            refine Any.nx1 (i := 15) (by kernel_rfl) ?_
            refine Nx.skip (w' := ?w30) rfl (by rfl) ?hr30 (Stt.past (by kernel_rfl)) ?hk30
            case hr30 => go_simp; with_reducible rfl
            simp only [Act.put, List.setIfInBounds_toArray, List.set_cons_zero, List.set_cons_succ]
            refine Any.done (by kernel_rfl) ?_ _
            clear z0 z1 z2 z3 g0 g1 g2 g3 ltz
            go_wp2_with fail
            go_roundw
            case rel => exact ⟨s + 1, _, by go_num, by omega, HSt2⟩
            case measure => simp [intOf]; omega
          · obtain ⟨qp, dp, xpW, hup⟩ := HCR.out (k - 1) (by omega)
            have hkp : k - 1 < rows.length := by omega
            have hlp : rows[k - 1].length = ns.length := HLen.out (k - 1) hkp (by omega)
            obtain ⟨bq, oq, hpq, hltq, hcq⟩ := Slc.at hup (by rw [hlp]; omega)
            have hsp : s < rows[k - 1].length := by omega
            have xp := (HQ.out.bel.cell (p := ⟨bq, oq + s, none⟩) hltq).trans (one_at hcq s hsp)
            have xr := (HQ.out.bel.cell (p := ⟨br, or + (k - 1), none⟩) hltr).trans xpW
            have hah : (Wav.ahead rows k).map (fun p => p.getD s 0) = some (rows[k - 1][s]) := by
              unfold Wav.ahead
              rw [if_neg hk00, List.getD_eq_getElem?_getD, List.getElem?_eq_getElem hkp, Option.getD_some, Option.map_some, getD_at hsp]
            rw [hah] at hput hnot
            rw [hlp] at xr
            generalize rows[k - 1][s] = u at *
            unfold u64V at xp
            subst hpq
            have hkz : ((k : Int) == 0) = false := beq_eq_false_iff_ne.2 (by omega)
            have hkn0 : ¬ (k : Int) = 0 := by omega
            have hk1' : (1 : Int) ≤ (k : Int) := by omega
            have hkt : ((k : Int) - 1).toNat = k - 1 := by omega
            have hkt0 : (0 : Int) ≤ (k : Int) - 1 := by omega
            have hkt1 : (k : Int) - 1 < (rows.length : Int) := by omega
            clear hcq hltq hah hup hlp hsp xpW
            by_cases huv : v = u
            · have HNot := Lib.hid (hnot (by rw [huv]))
              have huv' : ((v : Int) != (u : Int)) = false := by simp [huv]
              clear hput hnot hk00
              go_wp2_with fail
              go_quiet (fail)
              have HQ0 := Lib.hid (HQ.out.later (below_drewN (Below.refl _ _) nq))
              go_wp2_with fail
              go_roundw
              case rel => exact ⟨s + 1, _, by go_num, by omega, by rw [HNot.out]; exact HQ0⟩
              case measure => simp [intOf]; omega
            · have huv' : ((v : Int) != (u : Int)) = true := by simp; omega
              have HPut := Lib.hid (HEnd.out (hput (by simp; omega)))
              clear hput hnot hk00
              go_wp2_with fail
              go_quiet (fail)
              have HQ0 := Lib.hid (HQ.out.later (below_drewN (Below.refl _ _) nq))
              go_wp2_with fail
              refine region_plain (S := fun w => w.cell? ⟨W.heap.size + 1, 2, none⟩ = some (.slice pc N cc) ∧ w.cell? ⟨br, or + k, none⟩ = some (.slice (some ⟨bk, ok, none⟩) ns.length dk) ∧ w.cell? ⟨bk, ok + s, none⟩ = some (.int .u64 v)) (U := [14, 15]) (by kernel_rfl) (fun a w h => h) ?_
              have HQd := Lib.hid (HQ0.out.later (Below.refl _ _).drew)
              generalize World.drew _ = w0 at *
              have hSx := Lib.hid (fun (w : World) (h1 : WBox w (W.heap.size + 1) (.slice pn ns.length cn) (.slice pw ws.length cw) (.slice pc N cc) (.int .i64 ((rows.length : Int) - 1))) (hb : Below W.heap.size W w) => (show w.cell? ⟨W.heap.size + 1, 2, none⟩ = some (.slice pc N cc) ∧ w.cell? ⟨br, or + k, none⟩ = some (.slice (some ⟨bk, ok, none⟩) ns.length dk) ∧ w.cell? ⟨bk, ok + s, none⟩ = some (.int .u64 v) from ⟨h1.box.c2, (hb.cell (p := ⟨br, or + k, none⟩) hltr).trans HXW.out, (hb.cell (p := ⟨bk, ok + s, none⟩) hltk).trans HXS.out⟩))
              have hS0 := hSx.out w0 HQd.out.r1 HQd.out.bel
              refine Any.takeL (i := 0) (v := ?v1) (by kernel_rfl) rfl (by kernel_rfl) (by kernel_rfl) (by kernel_rfl) (by rfl) ?hy1 hS0 ?rest1
              case hy1 => intro w; go_simp; with_reducible rfl
              simp only [Act.put, List.setIfInBounds_toArray, List.set_cons_zero, List.set_cons_succ]
              refine Any.takeSL (i := 1) (v := ?v2) (by kernel_rfl) rfl (by kernel_rfl) (by kernel_rfl) (by kernel_rfl) (by kernel_rfl) (by kernel_rfl) (by rfl) ?hy2 hS0 ?rest2
              case hy2 => intro w hSw; obtain ⟨hs0, hs1, hs2⟩ := hSw; go_simp; with_reducible rfl
              simp only [Act.put, List.setIfInBounds_toArray, List.set_cons_zero, List.set_cons_succ]
              refine Any.takeL (i := 2) (v := ?v3) (by kernel_rfl) rfl (by kernel_rfl) (by kernel_rfl) (by kernel_rfl) (by rfl) ?hy3 hS0 ?rest3
              case hy3 => intro w; go_simp; with_reducible rfl
              simp only [Act.put, List.setIfInBounds_toArray, List.set_cons_zero, List.set_cons_succ]
              refine Any.takeL (i := 3) (v := ?v4) (by kernel_rfl) rfl (by kernel_rfl) (by kernel_rfl) (by kernel_rfl) (by rfl) ?hy4 hS0 ?rest4
              case hy4 => intro w; go_simp; with_reducible rfl
              simp only [Act.put, List.setIfInBounds_toArray, List.set_cons_zero, List.set_cons_succ]
              refine Any.takeL (i := 4) (v := ?v5) (by kernel_rfl) rfl (by kernel_rfl) (by kernel_rfl) (by kernel_rfl) (by rfl) ?hy5 hS0 ?rest5
              case hy5 => intro w; go_simp; with_reducible rfl
              simp only [Act.put, List.setIfInBounds_toArray, List.set_cons_zero, List.set_cons_succ]
              refine Any.takeL (i := 5) (v := ?v6) (by kernel_rfl) rfl (by kernel_rfl) (by kernel_rfl) (by kernel_rfl) (by rfl) ?hy6 hS0 ?rest6
              case hy6 => intro w; go_simp; with_reducible rfl
              simp only [Act.put, List.setIfInBounds_toArray, List.set_cons_zero, List.set_cons_succ]
              refine Any.takeL (i := 6) (v := ?v7) (by kernel_rfl) rfl (by kernel_rfl) (by kernel_rfl) (by kernel_rfl) (by rfl) ?hy7 hS0 ?rest7
              case hy7 => intro w; go_simp; with_reducible rfl
              simp only [Act.put, List.setIfInBounds_toArray, List.set_cons_zero, List.set_cons_succ]
              refine Any.takeSL (i := 7) (v := ?v8) (by kernel_rfl) rfl (by kernel_rfl) (by kernel_rfl) (by kernel_rfl) (by kernel_rfl) (by kernel_rfl) (by rfl) ?hy8 hS0 ?rest8
              case hy8 => intro w hSw; obtain ⟨hs0, hs1, hs2⟩ := hSw; go_simp; with_reducible rfl
              simp only [Act.put, List.setIfInBounds_toArray, List.set_cons_zero, List.set_cons_succ]
              refine Any.takeL (i := 8) (v := ?v9) (by kernel_rfl) rfl (by kernel_rfl) (by kernel_rfl) (by kernel_rfl) (by rfl) ?hy9 hS0 ?rest9
              case hy9 => intro w; go_simp; with_reducible rfl
              simp only [Act.put, List.setIfInBounds_toArray, List.set_cons_zero, List.set_cons_succ]
              refine Any.takeL (i := 9) (v := ?v10) (by kernel_rfl) rfl (by kernel_rfl) (by kernel_rfl) (by kernel_rfl) (by rfl) ?hy10 hS0 ?rest10
              case hy10 => intro w; go_simp; with_reducible rfl
              simp only [Act.put, List.setIfInBounds_toArray, List.set_cons_zero, List.set_cons_succ]
              refine Any.takeSL (i := 10) (v := ?v11) (by kernel_rfl) rfl (by kernel_rfl) (by kernel_rfl) (by kernel_rfl) (by kernel_rfl) (by kernel_rfl) (by rfl) ?hy11 hS0 ?rest11
              case hy11 => intro w hSw; obtain ⟨hs0, hs1, hs2⟩ := hSw; go_simp; with_reducible rfl
              simp only [Act.put, List.setIfInBounds_toArray, List.set_cons_zero, List.set_cons_succ]
              refine Any.takeL (i := 11) (v := ?v12) (by kernel_rfl) rfl (by kernel_rfl) (by kernel_rfl) (by kernel_rfl) (by rfl) ?hy12 hS0 ?rest12
              case hy12 => intro w; go_simp; with_reducible rfl
              simp only [Act.put, List.setIfInBounds_toArray, List.set_cons_zero, List.set_cons_succ]
              clear hS0
              have HQ1 := Lib.hid (HQd.out.later ((Below.refl _ _).alloc (Nat.le_refl _) (.cells #[.int .i64 k, .int .i64 s, .int .u64 v] 50)))
              have HX1 := Lib.hid (heap_alloc_new w0 (.cells #[.int .i64 k, .int .i64 s, .int .u64 v] 50))
              refine Any.nx1 (i := 12) (by kernel_rfl) ?_
              refine Nx.val (v := ?v13) (w' := w0.alloc (.cells #[.int .i64 k, .int .i64 s, .int .u64 v] 50)) rfl (by rfl) ?hr13 (Stt.of (hSx.out _ HQ1.out.r1 HQ1.out.bel)) ?hk13
              case hr13 => go_simp; with_reducible rfl
              simp only [Act.put, List.setIfInBounds_toArray, List.set_cons_zero, List.set_cons_succ]
              generalize w0.alloc (.cells #[.int .i64 k, .int .i64 s, .int .u64 v] 50) = w1 at *
              refine Any.nx1 (i := 13) (by kernel_rfl) ?_
              refine nx_app rfl rfl _ _ 24 50 rfl chgsSlice (.agg #[.int .i64 0, .int .i64 0, .int .u64 0]) 3 24 infoChg rfl (by decide) (by decide) W.heap.size _ N (chgsV (ch ++ rowC k (Wav.ahead rows k) r s)) rfl (HCH'.out _ _ HQ1.out) w0.heap.size 1 #[.int .i64 k, .int .i64 s, .int .u64 v] rfl HX1.out rfl (by simp [Value.oneCell']) hN6 HQ1.out.bel.size ?_
              intro p' c' w2 hown hgr
              have HSt2 := Lib.hid (HPut.out w1 HQ1.out p' c' w2 hown hgr)
              obtain ⟨hb0, hb1, hb2⟩ := HQ1.out.app hgr
              have HB1 := Lib.hid hb1
              refine ⟨Stt.of (hSx.out _ hb1 hb2), ?_⟩
              clear hown hgr hb0 hb1 hb2
              simp only [Act.put, List.setIfInBounds_toArray, List.set_cons_zero, List.set_cons_succ]
              obtain ⟨z0, z1, z2, z3, g0, g1, g2, g3, ltz⟩ := HB1.out.box
              refine Any.nx1 (i := 14) (by kernel_rfl) ?_
              refine Nx.val (v := ?v14) (w' := w2) rfl (by rfl) ?hr14 (Stt.past (by kernel_rfl)) ?hk14
              case hr14 => go_simp; with_reducible rfl
              simp only [Act.put, List.setIfInBounds_toArray, List.set_cons_zero, List.set_cons_succ]
              refine Any.nx1 (i := 15) (by kernel_rfl) ?_
              refine Nx.skip (w' := ?w15) rfl (by rfl) ?hr15 (Stt.past (by kernel_rfl)) ?hk15
              case hr15 => go_simp; with_reducible rfl
              simp only [Act.put, List.setIfInBounds_toArray, List.set_cons_zero, List.set_cons_succ]
              refine Any.done (by kernel_rfl) ?_ _
              clear z0 z1 z2 z3 g0 g1 g2 g3 ltz
              go_wp2_with fail
              go_roundw
              case rel => exact ⟨s + 1, _, by go_num, by omega, HSt2⟩
              case measure => simp [intOf]; omega
        · obtain rfl : s = ns.length := by omega
          have hlr := HRow.out
          have HQ2 := Lib.hid (show RMk W ⟨ns, ws, chsOf rows (k + 1), (rows.length : Int) - 1⟩ (.slice pn ns.length cn) (.slice pw ws.length cw) vc' wr by rw [hlr]; exact HQ.out)
          have hcl2 : (chsOf rows (k + 1)).length ≤ (k + 1) * ns.length := by
            rw [hlr, List.length_append, Nat.succ_mul]
            have := rowC_le k (Wav.ahead rows k) r ns.length
            omega
          have HCl2 := Lib.hid hcl2
          have HLen2 : Hid (∀ j (hj : j < rows.length), j < k + 1 → rows[j].length = ns.length) := Lib.hid (fun j hj hjk => by
            rcases Nat.lt_or_ge j k with h | h
            · exact HLen.out j hj h
            · obtain rfl : j = k := by omega
              rw [HRR.out]
              exact HL.out)
          clear hcl2 hlr
          go_wp2_with fail
          go_roundw
          case rel => exact ⟨k + 1, vc', by go_num, by omega, HLen2, HCl2, HQ2⟩
          case measure => simp [intOf]; omega
    · obtain rfl : k = rows.length := by omega
      obtain ⟨pc, cc, hvc⟩ := row_form HSt.out.ch
      simp only at hvc
      obtain ⟨hG, hB⟩ := HM2.out h0p (fun k hk => HLen.out k hk hk)
      have hcl2 : (chsOf rows rows.length).length ≤ 100000 := Nat.le_trans HCl.out HP.out
      have hsm : Small (rawW ns ws rows) := ⟨hn, hw, hcl2, HST.out⟩
      have hwav : WavAt wr (.slice pn ns.length cn) (.slice pw ws.length cw) vc (rawW ns ws rows) := ⟨Slc.later HStrs.out HSt.out.bel, Slc.later HInts.out HSt.out.bel, Slc.own HSt.out.ch⟩
      have HCk := Lib.hid (rcheck_any (.slice pn ns.length cn) (.slice pw ws.length cw) vc (rawW ns ws rows) hsm wr hwav)
      have HSt1 : Hid (RMk W (rawW ns ws rows) (.slice pn ns.length cn) (.slice pw ws.length cw) vc wr) := HSt
      have HCapd := Lib.hid (show Capd vc (rawW ns ws rows).chs.length from row_cap HSt1.out.ch)
      obtain ⟨N, hN⟩ : ∃ N, N = (chsOf rows rows.length).length := ⟨_, rfl⟩
      rw [← hN] at hvc
      subst hvc
      clear hN
      have hlast : (rawW ns ws rows).last = (rows.length : Int) - 1 := rfl
      have HLast := Lib.hid hlast
      rw [hlast] at HCk
      obtain ⟨a0, a1, a2, a3, f0, f1, f2, f3, lt0⟩ := HSt.out.r1.box
      clear hlast hsm hwav
      by_cases hck : checkW (rawW ns ws rows) = 0
      · have HG := Lib.hid (hG hck)
        rw [hck] at HCk
        clear hck hG hB
        go_wp2_with fail
        refine HCk.out.mono ?_
        rintro e W5 ⟨rfl, hb5⟩
        have HSt5 := Lib.hid (HSt1.out.later hb5)
        obtain ⟨a0, a1, a2, a3, f0, f1, f2, f3, lt0⟩ := HSt5.out.r1.box
        obtain ⟨y0, y1, y2, y3, e0, e1, e2, e3, lt1⟩ := HSt5.out.r0.box
        clear hb5
        go_wp2_with fail
        have hx := HSt5.out.box0 (a := .slice pn ns.length cn) (b := .slice pw ws.length cw) (c := .slice pc N cc) (d := .int .i64 (rawW ns ws rows).last)
        generalize ((((W5).setCell ⟨W.heap.size, 0, none⟩ (.slice pn ns.length cn)).setCell ⟨W.heap.size, 1, none⟩ (.slice pw ws.length cw)).setCell ⟨W.heap.size, 2, none⟩ (.slice pc N cc)).setCell ⟨W.heap.size, 3, none⟩ (.int .i64 (rawW ns ws rows).last) = X at *
        obtain ⟨z0, z1, z2, z3, _, _, _, _, _⟩ := hx.1.box
        refine bodyPost_ret (v := .tuple #[.agg #[.slice pn ns.length cn, .slice pw ws.length cw, .slice pc N cc, .int .i64 (rawW ns ws rows).last], .int .i64 0]) ?_ rfl (MakePost.good HG.out rfl ⟨Slc.later HStrs.out hx.2.1, Slc.later HInts.out hx.2.1, Slc.own hx.2.2⟩ HCapd.out hx.2.1)
        simp [results, Tryz.results22, go_sem, z0, z1, z2, z3]
      · have HG := Lib.hid (hB hck)
        have hck' : (checkW (rawW ns ws rows) != 0) = true := by simpa using hck
        generalize checkW (rawW ns ws rows) = R at *
        clear hck hG hB
        go_wp2_with fail
        refine HCk.out.mono ?_
        rintro e W5 ⟨rfl, hb5⟩
        have HSt5 := Lib.hid (HSt1.out.later hb5)
        obtain ⟨a0, a1, a2, a3, f0, f1, f2, f3, lt0⟩ := HSt5.out.r1.box
        obtain ⟨y0, y1, y2, y3, e0, e1, e2, e3, lt1⟩ := HSt5.out.r0.box
        clear hb5
        go_wp2_with fail
        have hx := HSt5.out.box0 (a := .slice none 0 0) (b := .slice none 0 0) (c := .slice none 0 0) (d := .int .i64 0)
        generalize ((((W5).setCell ⟨W.heap.size, 0, none⟩ (.slice none 0 0)).setCell ⟨W.heap.size, 1, none⟩ (.slice none 0 0)).setCell ⟨W.heap.size, 2, none⟩ (.slice none 0 0)).setCell ⟨W.heap.size, 3, none⟩ (.int .i64 0) = X at *
        obtain ⟨z0, z1, z2, z3, _, _, _, _, _⟩ := hx.1.box
        refine bodyPost_ret (v := .tuple #[.agg #[.slice none 0 0, .slice none 0 0, .slice none 0 0, .int .i64 0], .int .i64 R]) ?_ rfl (MakePost.bad HG.out rfl hx.2.1)
        simp [results, Tryz.results22, go_sem, z0, z1, z2, z3]
end Go.Proofs.YtephnfhjobkciaaGreatDoor

/- The rows of a wave: the reference. -/
namespace Go.Proofs.YtephnfhjobkciaaGreatDoor
open Go.RowKit Go.Proofs.Wav Go.Proofs.Scn Go.Flow Go.Sort
set_option linter.unusedVariables false
set_option linter.unusedSimpArgs false
set_option maxRecDepth 100000

/-- the row that is being told -/
structure CurAt (w : World) (g cap n : Nat) (f : Nat → Nat) : Prop where
  le : n ≤ cap
  at_ : ∃ cur : Array Value, w.heap[g]? = some (.cells cur 33 (0, 0)) ∧ cur.size = cap ∧ ∀ s, s < n → cur[s]? = some (.int .u64 (f s))
theorem CurAt.later {w w' : World} {g cap n : Nat} {f : Nat → Nat} (h : CurAt w g cap n f) (hb : Below w.heap.size w w') : CurAt w' g cap n f := by
  obtain ⟨h0, cur, h1, h2⟩ := h
  exact ⟨h0, cur, (hb.block g (Array.getElem?_eq_some_iff.1 h1).1).trans h1, h2⟩
theorem CurAt.lt {w : World} {g cap n : Nat} {f : Nat → Nat} (h : CurAt w g cap n f) : g < w.heap.size := by
  obtain ⟨h0, cur, h1, h2⟩ := h
  exact (Array.getElem?_eq_some_iff.1 h1).1
theorem CurAt.cell {w : World} {g cap n : Nat} {f : Nat → Nat} (h : CurAt w g cap n f) {s : Nat} (hs : s < n) : w.cell? ⟨g, s, none⟩ = some (.int .u64 (f s)) ∧ w.frozen? ⟨g, s, none⟩ = false := by
  obtain ⟨h0, cur, h1, h2, h3⟩ := h
  exact ⟨by rw [cell_of_row w g s cur _ (0, 0) h1]; exact h3 s hs, by simp [World.frozen?, h1]⟩
theorem CurAt.set {w : World} {g cap n : Nat} {f f' : Nat → Nat} (h : CurAt w g cap n f) {s v : Nat} (hs : s < n) (hf : ∀ q, f' q = if q = s then v else f q) : CurAt (w.setCell ⟨g, s, none⟩ (.int .u64 v)) g cap n f' := by
  obtain ⟨h0, cur, h1, h2, h3⟩ := h
  refine ⟨h0, cur.setIfInBounds s (.int .u64 v), by simp [World.setCell, Array.getElem?_modify, h1], by simp [h2], fun q hq => ?_⟩
  rw [hf q]
  by_cases e : q = s
  · subst e
    rw [if_pos rfl, Array.getElem?_setIfInBounds_self_of_lt (by omega)]
  · rw [if_neg e, Array.getElem?_setIfInBounds_ne (by omega)]
    exact h3 q hq
theorem CurAt.fn {w : World} {g cap n : Nat} {f f' : Nat → Nat} (h : CurAt w g cap n f) (hf : ∀ s, s < n → f' s = f s) : CurAt w g cap n f' := by
  obtain ⟨h0, cur, h1, h2, h3⟩ := h
  exact ⟨h0, cur, h1, h2, fun s hs => by rw [hf s hs]; exact h3 s hs⟩
theorem CurAt.slc {w : World} {g cap n : Nat} {f : Nat → Nat} (h : CurAt w g cap n f) : Slc w 1 (.slice (some ⟨g, 0, none⟩) n cap) n ((List.range n).map fun s => .int .u64 (f s)) := by
  obtain ⟨h0, cur, h1, h2, h3⟩ := h
  refine ⟨by simp, .inr ⟨g, 0, cap, rfl, (Array.getElem?_eq_some_iff.1 h1).1, fun q hq => ?_⟩⟩
  rw [Nat.zero_add, cell_of_row w _ q cur _ (0, 0) h1, h3 q (by omega)]
  simp [show q < n by omega]
theorem CurAt.grown {w w' : World} {g cap n : Nat} {f : Nat → Nat} {ob : Option Nat} (h : CurAt w g cap n f) (hg : w.grownBy w' ob) (ho : ∀ k, ob = some k → ∃ cur e fr, w.heap[k]? = some (.cells cur e fr) ∧ e ≠ 33) : CurAt w' g cap n f := by
  obtain ⟨h0, cur, h1, h2⟩ := h
  refine ⟨h0, cur, (hg.block g (Array.getElem?_eq_some_iff.1 h1).1 (fun e0 => ?_)).trans h1, h2⟩
  obtain ⟨cu, e, fr, h3, h4⟩ := ho g e0.symm
  rw [h1] at h3
  simp only [Option.some.injEq, Obj.cells.injEq] at h3
  exact h4 h3.2.1.symm
/-- the rows that are told -/
def OutAt (w : World) (B G n : Nat) (v : Value) (vs : List Value) (rws : List (List Nat)) : Prop :=
  vs.length = rws.length ∧ w.ownsRow B 52 1 v rws.length vs ∧ ∀ j (hj : j < rws.length), ∃ q cap, vs[j]? = some (.slice (some ⟨q, 0, none⟩) n cap) ∧ q < G ∧ rws[j].length = n ∧ CurAt w q cap n (fun s => rws[j].getD s 0)
theorem OutAt.later {w w' : World} {B G n : Nat} {v : Value} {vs : List Value} {rws : List (List Nat)} (h : OutAt w B G n v vs rws) (hb : Below w.heap.size w w') : OutAt w' B G n v vs rws := by
  obtain ⟨h0, h1, h2⟩ := h
  refine ⟨h0, row_later h1 hb, fun j hj => ?_⟩
  obtain ⟨q, cap, h3, h4, h5, h6⟩ := h2 j hj
  exact ⟨q, cap, h3, h4, h5, h6.later hb⟩
theorem OutAt.more {w : World} {B G G' n : Nat} {v : Value} {vs : List Value} {rws : List (List Nat)} (h : OutAt w B G n v vs rws) (hG : G ≤ G') : OutAt w B G' n v vs rws := by
  obtain ⟨h0, h1, h2⟩ := h
  refine ⟨h0, h1, fun j hj => ?_⟩
  obtain ⟨q, cap, h3, h4, h5, h6⟩ := h2 j hj
  exact ⟨q, cap, h3, Nat.lt_of_lt_of_le h4 hG, h5, h6⟩
theorem CurAt.other {w : World} {g cap n q s : Nat} {f : Nat → Nat} {u : Value} (h : CurAt w g cap n f) (hne : g ≠ q) : CurAt (w.setCell ⟨q, s, none⟩ u) g cap n f := by
  obtain ⟨h0, cur, h1, h2⟩ := h
  exact ⟨h0, cur, (Below.heap_setCell w ⟨q, s, none⟩ u g hne).trans h1, h2⟩
theorem OutAt.set {w : World} {B G n g cap : Nat} {f : Nat → Nat} {v : Value} {vs : List Value} {rws : List (List Nat)} (h : OutAt w B G n v vs rws) (hg : G ≤ g) (hc : CurAt w g cap n f) (s : Nat) (u : Value) : OutAt (w.setCell ⟨g, s, none⟩ u) B G n v vs rws := by
  obtain ⟨h0, h1, h2⟩ := h
  obtain ⟨_, cur, hcur, _⟩ := hc
  refine ⟨h0, row_set h1 hcur (by decide) s u, fun j hj => ?_⟩
  obtain ⟨q, cap, h3, h4, h5, h6⟩ := h2 j hj
  exact ⟨q, cap, h3, h4, h5, h6.other (by omega)⟩
theorem OutAt.push {w w' : World} {B G n g cap : Nat} {f : Nat → Nat} {v v' : Value} {vs : List Value} {rws : List (List Nat)} {r : List Nat} (h : OutAt w B G n v vs rws) (hG : G ≤ g) (hc : CurAt w g cap n f) (hl : r.length = n) (hr : ∀ s, s < n → r.getD s 0 = f s)
    (ho : w'.ownsRow B 52 1 v' (rws.length + 1) (vs ++ [.slice (some ⟨g, 0, none⟩) n cap])) (hg : w.grownBy w' v.ownBlock) : OutAt w' B (g + 1) n v' (vs ++ [.slice (some ⟨g, 0, none⟩) n cap]) (rws ++ [r]) := by
  obtain ⟨h0, h1, h2⟩ := h
  have hb : ∀ k, v.ownBlock = some k → ∃ cur e fr, w.heap[k]? = some (.cells cur e fr) ∧ e ≠ 33 := fun k e => by obtain ⟨cur, fr, h3⟩ := row_block h1 k e; exact ⟨cur, _, fr, h3, by decide⟩
  refine ⟨by simp [h0], by rw [List.length_append, List.length_singleton]; exact ho, fun j hj => ?_⟩
  rw [List.length_append, List.length_singleton] at hj
  rcases Nat.lt_or_ge j rws.length with hlt | hge
  · obtain ⟨q, cap', h3, h4, h5, h6⟩ := h2 j hlt
    refine ⟨q, cap', by rw [List.getElem?_append_left (by omega)]; exact h3, by omega, by rw [List.getElem_append_left hlt]; exact h5, ?_⟩
    rw [List.getElem_append_left hlt]
    exact h6.grown hg hb
  · obtain rfl : j = rws.length := by omega
    refine ⟨g, cap, by rw [← h0]; simp, by omega, by simpa using hl, ?_⟩
    simp only [List.getElem_append_right (Nat.le_refl _), Nat.sub_self, List.getElem_cons_zero]
    exact (hc.fn hr).grown hg hb
theorem OutAt.rws {w : World} {B G n : Nat} {v : Value} {vs : List Value} {rws : List (List Nat)} (h : OutAt w B G n v vs rws) : Rws w v rws := by
  obtain ⟨h0, h1, h2⟩ := h
  refine ⟨vs, h0, Slc.own h1, fun k hk hk' => ?_⟩
  obtain ⟨q, cap, h3, h4, h5, h6⟩ := h2 k hk
  rw [(List.getElem?_eq_some_iff.1 h3).2]
  unfold U64s
  have := h6.slc
  rw [h5]
  refine (show (List.range n).map (fun s => Value.int .u64 (rws[k].getD s 0 : Nat)) = rws[k].map u64V from ?_) ▸ this
  apply List.ext_getElem
  · simp [h5]
  · intro i hi hi'
    simp only [List.getElem_map, List.getElem_range, u64V]
    have : i < rws[k].length := by simpa using hi'
    rw [getD_at this]
theorem make_u64s (n : Nat) (h : n ≤ 1000000) : ∃ cur : Array Value, cur.size = n ∧ (∀ s, s < n → cur[s]? = some (.int .u64 0)) ∧ ∀ w, (Instr.makeSlice 52 (.int .i64 n) (.int .i64 n)).run Tryz.prog w = .ok (.slice (some ⟨w.heap.size, 0, none⟩) n n) (w.alloc (.cells cur 33)) := by
  obtain ⟨i0, hi, hz0, hz1, hz2⟩ := info_parts u64Info
  refine ⟨madeCells (Value.int .u64 0).cells (n * i0.size), ?_, fun s hs => ?_, fun w => ?_⟩
  · rw [hz1, Nat.mul_one, ← Array.length_toList, show (Value.int .u64 0).cells = #[Value.int .u64 0] from rfl, toList_madeCells_one, List.length_replicate]
  · rw [hz1, Nat.mul_one, ← Array.getElem?_toList, show (Value.int .u64 0).cells = #[Value.int .u64 0] from rfl, toList_madeCells_one, List.getElem?_replicate, if_pos hs]
  · have := run_make (P := Tryz.prog) w 52 33 i0 (.int .u64 0) u64Slice hi hz0 .i64 .i64 (n : Int) (n : Int) (by omega) (Int.le_refl _) (by rw [hz2]; omega) (by omega)
    simpa using this
/-- append([]uint64 of none, row...) -/
theorem clone_cur {w : World} {ops : Array Oper} {rest : List Oper} {o : Oper} {a : Act} {Q : Exit → Act → World → Prop} (hgd : o.guard = none) (s x : Operand)
    (ho : o.op = .call { callee := .builtin .append, args := #[s, x], argTypes := #[52, 52] })
    (W : World) (hs : a.eval s = .slice (some ⟨W.heap.size, 0, none⟩) 0 0) (hw : w = W.alloc (.cells #[] 33)) (n g cap : Nat) (f : Nat → Nat) (hx : a.eval x = .slice (some ⟨g, 0, none⟩) n cap) (hv : CurAt W g cap n f) (hn : n ≤ 1000000)
    (h : ∀ g' cap' w', W.heap.size ≤ g' → CurAt w' g' cap' n f → Below W.heap.size W w' → wpList Tryz.prog ops Q rest (a.put o.dst (.slice (some ⟨g', 0, none⟩) n cap')) w') : wpList Tryz.prog ops Q (o :: rest) a w := by
  subst hw
  obtain ⟨i0, hi0, hz0, hz1, hz2⟩ := info_parts infoU64
  have hown : (W.alloc (.cells #[] 33)).ownsRow W.heap.size 33 1 (.slice (some ⟨W.heap.size, 0, none⟩) 0 0) 0 [] := World.ownsRow_made W #[] 0 (Nat.le_refl _) (by decide) rfl
  have hsl := hv.slc
  refine wpList_append_own _ hgd s x 52 ho W.heap.size 33 i0 (.int .u64 0) 1 8 u64sSlice hi0 hz0 hz1 hz2 rfl (by decide) _ 0 [] hs hown ⟨g, 0, none⟩ n cap ((List.range n).map fun s => .int .u64 (f s)) hx (by simp) (fun j u hu => ?_) (by simp [Value.oneCell']) (by unfold maxLen; omega) (by omega) (by simp) ?_
  · have hj : j < n := by
      rcases Nat.lt_or_ge j ((List.range n).map fun s => Value.int .u64 (f s)).length with h | h
      · simpa using h
      · rw [List.getElem?_eq_none h] at hu; cases hu
    have hb := (Below.refl W.heap.size W).alloc (Nat.le_refl _) (.cells #[] 33)
    have : ∀ off, (⟨g, off, none⟩ : Addr).add j = ⟨g, off + j, none⟩ := fun off => by simp [Addr.add]
    rw [this, Nat.zero_add, hb.cell (p := ⟨g, j, none⟩) hv.lt, (hv.cell hj).1, ← hu]
    simp [hj]
  · intro v' w' h2 h3 h4
    rw [Nat.zero_add, List.nil_append] at h2
    rcases h2.2 with ⟨hnil, h0⟩ | ⟨g', cap', cur, rfl, hB, hg', h5, h6, h7, h8⟩
    · have := (h4.1 hnil).1
      cases this
    · refine h g' cap' w' hB ⟨h5, cur, hg', by omega, fun q hq => ?_⟩ (Below.grown ((Below.refl _ _).alloc (Nat.le_refl _) _) h3 (by simp) (fun k hk => by simp [Value.ownBlock] at hk; omega))
      have h9 := congrArg (fun l => l[q]?) h8
      simp only [Nat.mul_one] at h9
      rw [List.getElem?_take_of_lt hq] at h9
      rw [← Array.getElem?_toList, h9]
      simp [hq]
end Go.Proofs.YtephnfhjobkciaaGreatDoor

/- The rows of a wave: the reference, whole. -/
namespace Go.Proofs.YtephnfhjobkciaaGreatDoor
open Go.RowKit Go.Proofs.Wav Go.Proofs.Scn Go.Flow Go.Sort
set_option linter.unusedVariables false
set_option linter.unusedSimpArgs false
set_option maxRecDepth 100000

set_option maxHeartbeats 16000000 in
theorem rrows_any (vn vw vc : Value) (x : Wv) (hs : Small x) (W : World) (h1 : WavAt W vn vw vc x) :
    Calls Tryz.prog 25 #[.agg #[vn, vw, vc, .int .i64 x.last]] W (RowsPost x W) := by
  have HCk := Lib.hid (fun w hb => rcheck_any vn vw vc x hs w (h1.later hb))
  have HBad := Lib.hid (fun (W' : World) (e : Ending) h he hb => @RowsPost.bad x W W' e h he hb)
  have HGood := Lib.hid (fun (W' : World) (e : Ending) (v : Value) h he ho hb => @RowsPost.good x W W' e v h he ho hb)
  have HE1 := Lib.hid (@rowsE_bad x)
  have HE2 := Lib.hid (@rowsE_long x)
  have HE3 := Lib.hid (@rowsE_ok x)
  have HIs := Lib.hid (@is_of x)
  obtain ⟨xn, xw, xc, xl⟩ := x
  obtain ⟨s1, s2, s3, s4⟩ := hs
  simp only at *
  obtain ⟨pn, cn, rfl⟩ := h1.1.form
  obtain ⟨pw, cw, rfl⟩ := h1.2.1.form
  obtain ⟨pc, cc, rfl⟩ := h1.2.2.form
  simp only at *
  have b1 := Box4.new W (.slice pn xn.length cn) (.slice pw xw.length cw) (.slice pc xc.length cc) (.int .i64 xl) 26
  have hb1 := (Below.refl W.heap.size W).alloc (Nat.le_refl _) (.cells #[.slice pn xn.length cn, .slice pw xw.length cw, .slice pc xc.length cc, .int .i64 xl] 26)
  have HC := Lib.hid (fun hh => Slc.at h1.2.2 hh)
  have HB := Lib.hid hb1
  clear hb1 h1 s4
  have hsz : (W.alloc (.cells #[.slice pn xn.length cn, .slice pw xw.length cw, .slice pc xc.length cc, .int .i64 xl] 26)).heap.size = W.heap.size + 1 := by simp
  generalize hPE : rowsE ⟨xn, xw, xc, xl⟩ = PE at *
  clear hPE
  by_cases hck : checkW ⟨xn, xw, xc, xl⟩ = 0
  case neg =>
    have HPE := Lib.hid (HE1.out hck)
    generalize checkW ⟨xn, xw, xc, xl⟩ = R at *
    have hck' : (R != 0) = true := by simpa using hck
    go_enter Tryz.func25, Tryz.ntmps25
    go_wp2_with fail
    refine (HCk.out _ HB.out).mono ?_
    rintro e W2 ⟨rfl, hb2⟩
    have HW2 := Lib.hid (HB.out.trans (hb2.mono HB.out.size))
    clear hb2
    go_wp2
    go_ret2
    exact HBad.out _ _ (by rw [HPE.out]; exact hck) (by rw [HPE.out]; rfl) HW2.out
  have his := HIs.out hck
  have HIS := Lib.hid his
  have hn512 : xn.length ≤ 512 := his.n
  have hc65 : xc.length ≤ 65536 := his.c
  have hli : xl ≤ 2147483647 := his.hi
  have hlo : 0 ≤ xl := his.lo
  rw [hck] at HCk
  have he2 := HE2.out hck
  have he3 := HE3.out hck
  clear his HE1 hck
  obtain ⟨L, rfl⟩ : ∃ L : Nat, xl = (L : Int) := ⟨xl.toNat, by omega⟩
  obtain ⟨n, hn⟩ : ∃ n, n = xn.length := ⟨_, rfl⟩
  have hmul : ((L : Int) + 1) * (xn.length : Int) = (((L + 1) * xn.length : Nat) : Int) := by simp
  rw [hmul] at he2 he3
  by_cases hbig : 65536 < L
  · have HPE := Lib.hid (he2 (by omega))
    have hbig' : (65536 : Int) < (L : Int) := by omega
    clear he2 he3 hmul
    go_enter Tryz.func25, Tryz.ntmps25
    go_wp2_with fail
    refine (HCk.out _ HB.out).mono ?_
    rintro e W2 ⟨rfl, hb2⟩
    have HW2 := Lib.hid (HB.out.trans (hb2.mono HB.out.size))
    obtain ⟨a0, a1, a2, a3, _, _, _, _, _⟩ := b1.later hb2
    clear hb2
    go_wp2
    go_ret2
    exact HBad.out _ _ (by rw [HPE.out]; decide) (by rw [HPE.out]; rfl) HW2.out
  have hbig' : ¬ (65536 : Int) < (L : Int) := by omega
  have hb' : decide ((65536 : Int) < (L : Int)) = false := decide_eq_false hbig'
  obtain ⟨M, hM⟩ : ∃ M, M = (L + 1) * xn.length := ⟨_, rfl⟩
  rw [← hM] at he2 he3 hmul
  have hM2 : M ≤ 40000000 := by
    rw [hM]
    exact Nat.le_trans (Nat.mul_le_mul (show L + 1 ≤ 65537 by omega) hn512) (by omega)
  by_cases hprod : 65536 < M
  · have HPE := Lib.hid (he2 (by omega))
    have hprod' : (65536 : Int) < (M : Int) := by omega
    clear he2 he3 hM hn
    go_enter Tryz.func25, Tryz.ntmps25
    go_wp2_with fail
    refine (HCk.out _ HB.out).mono ?_
    rintro e W2 ⟨rfl, hb2⟩
    have HW2 := Lib.hid (HB.out.trans (hb2.mono HB.out.size))
    obtain ⟨a0, a1, a2, a3, _, _, _, _, _⟩ := b1.later hb2
    clear hb2
    go_wp2
    go_ret2
    exact HBad.out _ _ (by rw [HPE.out]; decide) (by rw [HPE.out]; rfl) HW2.out
  have HPE := Lib.hid (he3 (by omega))
  have hprod' : ¬ (65536 : Int) < (M : Int) := by omega
  have hp' : decide ((65536 : Int) < (M : Int)) = false := decide_eq_false hprod'
  obtain ⟨c2, hc2s, hc2, hm2⟩ := make_u64s xn.length (by omega)
  have HC2 := Lib.hid hc2
  have HC2s := Lib.hid hc2s
  clear he2 he3 hM hn hc2 hc2s
  go_enter Tryz.func25, Tryz.ntmps25
  go_wp2_with fail
  refine (HCk.out _ HB.out).mono ?_
  rintro e W2 ⟨rfl, hb2⟩
  generalize W.alloc (.cells #[.slice pn xn.length cn, .slice pw xw.length cw, .slice pc xc.length cc, .int .i64 (L : Int)] 26) = Z at *
  obtain ⟨a0, a1, a2, a3, _, _, _, _, lta⟩ := b1.later hb2
  have HBX := Lib.hid (b1.later hb2)
  have HW2 := Lib.hid (HB.out.trans (hb2.mono HB.out.size))
  have HS2 := Lib.hid (show W.heap.size < W2.heap.size by have := hb2.size; omega)
  clear hb2 hsz b1
  have hA := (Below.refl W2.heap.size W2).alloc (Nat.le_refl _) (.cells #[] 52)
  have a0' := (hA.cell (p := ⟨W.heap.size, 0, none⟩) HS2.out).trans a0
  have hsa : (W2.alloc (.cells #[] 52)).heap.size = W2.heap.size + 1 := by simp
  have HO1 : Hid (OutAt ((W2.alloc (.cells #[] 52)).alloc (.cells c2 33)) W2.heap.size ((W2.alloc (.cells #[] 52)).alloc (.cells c2 33)).heap.size xn.length (.slice (some ⟨W2.heap.size, 0, none⟩) 0 0) [] ((List.range 0).map (rowF xn.length xc))) := Lib.hid ⟨rfl, row_later (World.ownsRow_made W2 #[] 0 (Nat.le_refl _) (by decide) rfl) ((Below.refl _ _).alloc (Nat.le_refl _) _), fun j hj => by simp at hj⟩
  have HN1 : Hid (CurAt ((W2.alloc (.cells #[] 52)).alloc (.cells c2 33)) (W2.heap.size + 1) xn.length xn.length (nowF xc 0)) := Lib.hid ⟨Nat.le_refl _, c2, by
    have := heap_alloc_new (W2.alloc (.cells #[] 52)) (.cells c2 33)
    rwa [World.size_alloc] at this, HC2s.out, fun s hs => by rw [nowF_zero]; exact HC2.out s hs⟩
  have HX1 := Lib.hid (hA.alloc (by simp) (.cells c2 33))
  clear hA
  go_wp2_with fail
  generalize ((W2.alloc (.cells #[] 52)).alloc (.cells c2 33)) = Z1 at *
  clear a0 a1 a2 a3 a0' lta hm2 hsa
  go_loopw [5, 6, 7, 8] (fun o r i t wr => ∃ (k j g cap co : Nat) (po : Option Addr) (vs : List Value), o = .slice po k co ∧ r = .slice (some ⟨g, 0, none⟩) xn.length cap ∧ i = .int .i64 j ∧ t = .int .i64 k ∧ k ≤ L + 1 ∧ j ≤ xc.length ∧ Hid (∀ x ∈ xc.take j, x.t < (k : Int)) ∧ Hid (∀ x ∈ xc.drop j, (k : Int) ≤ x.t) ∧ Hid (OutAt wr W2.heap.size wr.heap.size xn.length (.slice po k co) vs ((List.range k).map (rowF xn.length xc))) ∧ Hid (CurAt wr g cap xn.length (nowF xc j)) ∧ Hid (Below W2.heap.size W2 wr)) (fun _ _ _ t _ => L + 1 - (intOf t).toNat)
  case atStart => exact ⟨0, 0, W2.heap.size + 1, xn.length, 0, some ⟨W2.heap.size, 0, none⟩, [], rfl, rfl, rfl, rfl, Nat.zero_le _, Nat.zero_le _, Lib.hid (by simp), Lib.hid (fun x hx => by
    have := HIS.out.chs.1 x (by simpa using hx)
    simp only [okOne, Bool.and_eq_true, decide_eq_true_eq] at this
    simp only [Int.natCast_zero]
    omega), HO1, HN1, HX1⟩
  case round =>
    obtain ⟨k, j, g, cap, co, po, vs, rfl, rfl, rfl, rfl, hk, hj, HLo, HHi, HOut, HCur, HX⟩ := hrel
    obtain ⟨a0, a1, a2, a3, _, _, _, _, _⟩ := HBX.out.later HX.out
    by_cases hks : k < L + 1
    · have hk' : (k : Int) ≤ (L : Int) := by omega
      have HLo1 := Lib.hid (fun x hx => Int.le_of_lt (HLo.out x hx))
      go_wp2_with (at_builtin; refine clone_cur rfl _ _ rfl wr rfl rfl xn.length g cap (nowF xc j) rfl HCur.out (by omega) ?_; intro g' cap' w' hg' hcur' hb'; have HCur1 := Lib.hid hcur'; have HOut1 := Lib.hid (HOut.out.later hb'); have HX1' := Lib.hid (HX.out.trans (hb'.mono HX.out.size)); have HG := Lib.hid hg'; have HSW := Lib.hid HX.out.size; clear hcur' hb' hg')
      go_loopw [7] (fun i wq => ∃ (j : Nat), i = .int .i64 j ∧ j ≤ xc.length ∧ Hid (∀ x ∈ xc.take j, x.t ≤ (k : Int)) ∧ Hid (∀ x ∈ xc.drop j, (k : Int) ≤ x.t) ∧ Hid (OutAt wq W2.heap.size wr.heap.size xn.length (.slice po k co) vs ((List.range k).map (rowF xn.length xc))) ∧ Hid (CurAt wq g' cap' xn.length (nowF xc j)) ∧ Hid (Below W2.heap.size W2 wq)) (fun i _ => xc.length - (intOf i).toNat)
      case atStart => exact ⟨j, rfl, hj, HLo1, HHi, HOut1, HCur1, HX1'⟩
      case round =>
        clear HLo HHi HOut HCur HX HLo1 hj HOut1 HCur1 HX1' a0 a1 a2 a3
        obtain ⟨j, rfl, hj, HLo, HHi, HOut, HCur, HX⟩ := hrel
        obtain ⟨a0, a1, a2, a3, _, _, _, _, _⟩ := HBX.out.later HX.out
        by_cases hjl : j < xc.length
        · obtain ⟨b, off, hpc, hb, hcs⟩ := HC.out (by omega)
          have HXW := Lib.hid (HW2.out.trans (HX.out.mono HW2.out.size))
          obtain ⟨x0, x1, x2⟩ := chg_at (w := wr) (fun q hq => (HXW.out.cell (p := ⟨b, off + q, none⟩) hb).trans (hcs q hq)) j hjl
          have hok := HIS.out.chs.1 _ (List.getElem_mem hjl)
          have hns := fun s => nowF_succ hjl s
          have hgt := fun h => drop_gt (t := (k : Int)) HIS.out.chs.2 hjl h
          have hlo := HHi.out xc[j] (by rw [List.drop_eq_getElem_cons hjl]; exact List.mem_cons_self)
          have htk : ∀ x ∈ xc.take (j + 1), x = xc[j] ∨ x ∈ xc.take j := fun x hx => by
            rw [List.take_succ_eq_append_getElem hjl] at hx
            rcases List.mem_append.1 hx with h | h
            · exact .inr h
            · exact .inl (List.mem_singleton.1 h)
          have hdr : ∀ x ∈ xc.drop (j + 1), x ∈ xc.drop j := fun x hx => by
            rw [List.drop_eq_getElem_cons hjl]
            exact List.mem_cons_of_mem _ hx
          generalize xc[j] = ch at *
          obtain ⟨t, g0, v⟩ := ch
          simp only at x0 x1 x2 hns hgt hlo htk
          simp only [okOne, Bool.and_eq_true, decide_eq_true_eq] at hok
          obtain ⟨⟨⟨⟨ht0, ht1⟩, hg0⟩, hg1⟩, hvm⟩ := hok
          obtain ⟨G, rfl⟩ : ∃ G : Nat, g0 = (G : Int) := ⟨g0.toNat, by omega⟩
          have hGn : G < xn.length := by omega
          have HNS := Lib.hid hns
          have HGT := Lib.hid hgt
          have HTK := Lib.hid htk
          have HDR := Lib.hid hdr
          subst hpc
          clear hns hgt htk hdr hcs hvm
          by_cases htk : t = (k : Int)
          · subst htk
            obtain ⟨n0, n1⟩ := HCur.out.cell hGn
            have hG0 : (0 : Int) ≤ (G : Int) := by omega
            have hG1 : (G : Int) < (xn.length : Int) := by omega
            have HOut1 := Lib.hid (fun q => (HOut.out.later (below_drewN (Below.refl _ _) q)).set HG.out (HCur.out.later (below_drewN (Below.refl _ _) q)) G (.int .u64 v))
            have HCur1 := Lib.hid (fun q => (HCur.out.later (below_drewN (Below.refl _ _) q)).set (f' := nowF xc (j + 1)) hGn (v := v) (fun s => by
              rw [HNS.out s]
              by_cases h : s = G
              · rw [if_pos h, if_pos (by rw [h])]
              · rw [if_neg h, if_neg (by omega)]))
            have HGW := Lib.hid HG.out
            have HX2 := Lib.hid (fun q => (below_drewN HX.out q).setCell (p := ⟨g', G, none⟩) (Nat.le_trans HSW.out HG.out) (.int .u64 v))
            have HLo1 : Hid (∀ x ∈ xc.take (j + 1), x.t ≤ (k : Int)) := Lib.hid (fun x hx => by
              rcases HTK.out x hx with h | h
              · rw [h]; exact Int.le_refl _
              · exact HLo.out x h)
            have HHi1 : Hid (∀ x ∈ xc.drop (j + 1), (k : Int) ≤ x.t) := Lib.hid (fun x hx => HHi.out x (HDR.out x hx))
            go_wp2_with fail
            refine wp_region_reads_tail 14 (by kernel_rfl) (by kernel_rfl) ?_
            simp only [List.take_succ_cons, List.take_zero, List.drop_succ_cons, List.drop_zero]
            repeat (quiet_step (fail))
            refine wpQuiet_nil ?_
            intro _ hw'
            obtain ⟨nq, hw''⟩ := hw'
            subst hw''
            go_wp2_with fail
            go_roundw
            case rel => exact ⟨j + 1, by go_num, by omega, HLo1, HHi1, HOut1.out nq, HCur1.out nq, HX2.out nq⟩
            case measure => simp [intOf]; omega
          · have htk' : ((t : Int) == (k : Int)) = false := by simpa using htk
            have HGt := Lib.hid (HGT.out (by omega))
            have HRw := Lib.hid (row_now (n := xn.length) HLo.out HGt.out)
            have HOA := Lib.hid (HOut.out.later ((Below.refl _ _).alloc (Nat.le_refl _) (.cells #[.slice (some ⟨g', 0, none⟩) xn.length cap'] 52)))
            have HCA := Lib.hid (HCur.out.later ((Below.refl _ _).alloc (Nat.le_refl _) (.cells #[.slice (some ⟨g', 0, none⟩) xn.length cap'] 52)))
            have HXA := Lib.hid (HX.out.trans (((Below.refl _ _).alloc (Nat.le_refl _) (.cells #[.slice (some ⟨g', 0, none⟩) xn.length cap'] 52)).mono HX.out.size))
            have HNA := Lib.hid (heap_alloc_new wr (.cells #[.slice (some ⟨g', 0, none⟩) xn.length cap'] 52))
            have HOW := Lib.hid (show World.ownsRow _ W2.heap.size 52 1 (.slice po k co) k vs by have := HOA.out.2.1; simp only [List.length_map, List.length_range] at this; exact this)
            have HLo2 : Hid (∀ x ∈ xc.take j, x.t < ((k + 1 : Nat) : Int)) := Lib.hid (fun x hx => (show x.t < ((k + 1 : Nat) : Int) by have := HLo.out x hx; omega))
            have HHi2 : Hid (∀ x ∈ xc.drop j, ((k + 1 : Nat) : Int) ≤ x.t) := Lib.hid (fun x hx => (show ((k + 1 : Nat) : Int) ≤ x.t by have := HGt.out x hx; omega))
            go_wp2_with (at_builtin; refine wpList_append_one rfl _ _ 38 52 rfl rowsSlice (.slice none 0 0) 1 24 infoRow rfl (by decide) (by decide) W2.heap.size _ k vs rfl HOW.out wr.heap.size 1 #[.slice (some ⟨g', 0, none⟩) xn.length cap'] rfl HNA.out rfl (by simp [Value.oneCell']) (by omega) HXA.out.size ?_; intro p' c' N' w2 HN' hown hgr; have hNN := HN'.out; subst hNN; have HP2 := Lib.hid (HOA.out.push (r := rowF xn.length xc k) (v' := .slice p' (k + 1) c') HG.out HCA.out (by simp [rowF]) (fun s hs => by rw [HRw.out, getD_at (by simpa using hs)]; simp) (by simp only [List.length_map, List.length_range]; exact hown) hgr); have HC2' := Lib.hid (HCA.out.grown hgr (fun q e => by obtain ⟨cur, fr, h3⟩ := row_block HOW.out q e; exact ⟨cur, _, fr, h3, by decide⟩)); have HX2 := Lib.hid (row_grown HOW.out (Nat.le_refl _) HXA.out HXA.out.size hgr); clear hown hgr HN')
            have HP3 : Hid (OutAt w2 W2.heap.size w2.heap.size xn.length (.slice p' (k + 1) c') (vs ++ [.slice (some ⟨g', 0, none⟩) xn.length cap']) ((List.range (k + 1)).map (rowF xn.length xc))) := Lib.hid (by
              have := HP2.out.more (G' := w2.heap.size) HC2'.out.lt
              rw [List.range_succ, List.map_append]
              exact this)
            go_roundw
            case rel => exact ⟨k + 1, j, g', cap', c', p', _, rfl, rfl, rfl, by go_num, by omega, hj, HLo2, HHi2, HP3, HC2', HX2⟩
            case measure => simp [intOf]; omega
        · obtain rfl : j = xc.length := by omega
          have HGt : Hid (∀ x ∈ xc.drop xc.length, (k : Int) < x.t) := Lib.hid (by simp)
          have hjl' : ¬ (xc.length : Int) < (xc.length : Int) := by omega
          have HRw := Lib.hid (row_now (n := xn.length) HLo.out HGt.out)
          have HOA := Lib.hid (HOut.out.later ((Below.refl _ _).alloc (Nat.le_refl _) (.cells #[.slice (some ⟨g', 0, none⟩) xn.length cap'] 52)))
          have HCA := Lib.hid (HCur.out.later ((Below.refl _ _).alloc (Nat.le_refl _) (.cells #[.slice (some ⟨g', 0, none⟩) xn.length cap'] 52)))
          have HXA := Lib.hid (HX.out.trans (((Below.refl _ _).alloc (Nat.le_refl _) (.cells #[.slice (some ⟨g', 0, none⟩) xn.length cap'] 52)).mono HX.out.size))
          have HNA := Lib.hid (heap_alloc_new wr (.cells #[.slice (some ⟨g', 0, none⟩) xn.length cap'] 52))
          have HOW := Lib.hid (show World.ownsRow _ W2.heap.size 52 1 (.slice po k co) k vs by have := HOA.out.2.1; simp only [List.length_map, List.length_range] at this; exact this)
          have HLo2 : Hid (∀ x ∈ xc.take xc.length, x.t < ((k + 1 : Nat) : Int)) := Lib.hid (fun x hx => (show x.t < ((k + 1 : Nat) : Int) by have := HLo.out x hx; omega))
          have HHi2 : Hid (∀ x ∈ xc.drop xc.length, ((k + 1 : Nat) : Int) ≤ x.t) := Lib.hid (fun x hx => (show ((k + 1 : Nat) : Int) ≤ x.t by have := HGt.out x hx; omega))
          go_wp2_with (at_builtin; refine wpList_append_one rfl _ _ 38 52 rfl rowsSlice (.slice none 0 0) 1 24 infoRow rfl (by decide) (by decide) W2.heap.size _ k vs rfl HOW.out wr.heap.size 1 #[.slice (some ⟨g', 0, none⟩) xn.length cap'] rfl HNA.out rfl (by simp [Value.oneCell']) (by omega) HXA.out.size ?_; intro p' c' N' w2 HN' hown hgr; have hNN := HN'.out; subst hNN; have HP2 := Lib.hid (HOA.out.push (r := rowF xn.length xc k) (v' := .slice p' (k + 1) c') HG.out HCA.out (by simp [rowF]) (fun s hs => by rw [HRw.out, getD_at (by simpa using hs)]; simp) (by simp only [List.length_map, List.length_range]; exact hown) hgr); have HC2' := Lib.hid (HCA.out.grown hgr (fun q e => by obtain ⟨cur, fr, h3⟩ := row_block HOW.out q e; exact ⟨cur, _, fr, h3, by decide⟩)); have HX2 := Lib.hid (row_grown HOW.out (Nat.le_refl _) HXA.out HXA.out.size hgr); clear hown hgr HN')
          have HP3 : Hid (OutAt w2 W2.heap.size w2.heap.size xn.length (.slice p' (k + 1) c') (vs ++ [.slice (some ⟨g', 0, none⟩) xn.length cap']) ((List.range (k + 1)).map (rowF xn.length xc))) := Lib.hid (by
            have := HP2.out.more (G' := w2.heap.size) HC2'.out.lt
            rw [List.range_succ, List.map_append]
            exact this)
          go_roundw
          case rel => exact ⟨k + 1, xc.length, g', cap', c', p', _, rfl, rfl, rfl, by go_num, by omega, Nat.le_refl _, HLo2, HHi2, HP3, HC2', HX2⟩
          case measure => simp [intOf]; omega
    · obtain rfl : k = L + 1 := by omega
      have hk' : ¬ ((L + 1 : Nat) : Int) ≤ (L : Int) := by omega
      have HRw := Lib.hid HOut.out.rws
      go_wp2_with fail
      go_ret2
      refine HGood.out _ _ _ HPE.out rfl ?_ (HW2.out.trans (HX.out.mono HW2.out.size))
      rw [rowsOf_at, Int.toNat_natCast]
      exact HRw.out
end Go.Proofs.YtephnfhjobkciaaGreatDoor

/- A line of a wave's text: what the reference's read holds. -/
namespace Go.Proofs.Wav
theorem splitR_len (s : Ln) : (splitR s).1.length ≤ s.length ∧ (splitR s).2.length ≤ s.length := by
  unfold splitR cutB
  split
  · exact ⟨Nat.le_refl _, by simp⟩
  · rename_i c r e
    refine ⟨(List.takeWhile_prefix _).length_le, ?_⟩
    have := (List.dropWhile_suffix (l := s) (fun x => x != 32)).length_le
    rw [e] at this
    simp at this ⊢
    omega
theorem lineR_other {x : Wv} {c : UInt8} {r : Ln} (h1 : ¬ c = 118) (h2 : ¬ c = 35) (h3 : ¬ c = 98) : lineR x (c :: r) = none := by
  unfold lineR
  split
  · rfl
  · rename_i e; injection e with e _; exact absurd e h1
  · rename_i e; injection e with e _; exact absurd e h2
  · rename_i e; injection e with e _; exact absurd e h3
  · rfl
theorem u8_ne {c : UInt8} {n : Nat} (h : ¬ c = UInt8.ofNat n) : ((c.toNat : Int) == ((UInt8.ofNat n).toNat : Int)) = false := by
  rw [beq_eq_false_iff_ne]
  intro e
  exact h (UInt8.toNat_inj.1 (by omega))
end Go.Proofs.Wav
namespace Go.Proofs.YtephnfhjobkciaaGreatDoor
open Go.RowKit Go.Proofs.Wav Go.Proofs.Scn Go.Flow Go.Sort
set_option linter.unusedVariables false
set_option linter.unusedSimpArgs false
set_option maxRecDepth 100000

/-- append(v, x), one element, in a drawn region -/
theorem step_append_one {w : World} {ops : Array Oper} {o : Oper} {a : Act} {K : Act → World → Prop} {Q : Exit → Act → World → Prop} {E : Prop} (hgd : o.guard = none) (s x : Operand) (t e : TypeId)
    (ho : o.op = .call { callee := .builtin .append, args := #[s, x], argTypes := #[t, t] }) (ht : Tryz.prog.underlying t = some (.slice e))
    (z : Value) (m b : Nat) (hi : (Tryz.prog.info? e).map (fun i => (i.zero, i.size, i.bytes)) = some (some z, m, b)) (hz : z.cells.size = m) (hm : 0 < m) (hb24 : b ≤ 24)
    (base : Nat) (v : Value) (n : Nat) (xs : List Value) (hs : a.eval s = v) (hown : w.ownsRow base e m v n xs) (q c : Nat) (cs : Array Value) (hx : a.eval x = .slice (some ⟨q, 0, none⟩) 1 c) (hq : w.heap[q]? = some (.cells cs e (0, 0)))
    (hl : cs.size = m) (h1 : ∀ u ∈ cs.toList, u.oneCell' = true) (hn : n ≤ 1000000) (hbase : base ≤ w.heap.size)
    (h : ∀ p c' N w', Hid (N = n + 1) → w'.ownsRow base e m (.slice p N c') N (xs ++ cs.toList) → w.grownBy w' v.ownBlock → K (a.put o.dst (.slice p N c')) w') :
    if Region.wanted o (yielded ops a.tmps) = true then Oper.wp Tryz.prog o a w K Q else E := by
  obtain ⟨i0, hi0, hz0, hz1, hz2⟩ := info_parts hi
  have hw : Region.wanted o (yielded ops a.tmps) = true := by simp [Region.wanted, hgd]
  rw [if_pos hw]
  refine wp_append_own w s x t ho base e i0 z m b ht hi0 hz0 hz1 hz2 hz hm v n xs hs hown ⟨q, 0, none⟩ 1 c cs.toList hx (by simpa using hl) (fun j u hu => World.news_of_block hq j u hu) h1 (by unfold maxLen; omega) (by have := Nat.mul_le_mul (show n + 1 ≤ 1000001 by omega) hb24; omega) hbase ?_
  intro v' w' h2 h3 _
  obtain ⟨p, c', rfl⟩ := row_form h2
  exact h p c' (n + 1) w' (Lib.hid rfl) h2 h3

/-- waves' boxes stay -/
def Kp (W w : World) : Prop := W.heap.size ≤ w.heap.size ∧ ∀ (k : Nat) (cs : Array Value) (fr : Nat × Nat), W.heap[k]? = some (.cells cs 26 fr) → w.heap[k]? = some (.cells cs 26 fr)
theorem Kp.later {W w w' : World} (h : Kp W w) (hb : Below w.heap.size w w') : Kp W w' := ⟨Nat.le_trans h.1 hb.size, fun k cs fr hk => (hb.block k (Array.getElem?_eq_some_iff.1 (h.2 k cs fr hk)).1).trans (h.2 k cs fr hk)⟩
theorem Kp.grown {W w w' : World} {ob : Option Nat} (h : Kp W w) (hg : w.grownBy w' ob) (ho : ∀ k, ob = some k → ∃ cur e fr, w.heap[k]? = some (.cells cur e fr) ∧ e ≠ 26) : Kp W w' := ⟨Nat.le_trans h.1 hg.size, fun k cs fr hk => by
  have h1 := h.2 k cs fr hk
  refine (hg.block k (Array.getElem?_eq_some_iff.1 h1).1 (fun e0 => ?_)).trans h1
  obtain ⟨cur, e, fr', h2, h3⟩ := ho k e0.symm
  rw [h1] at h2
  simp only [Option.some.injEq, Obj.cells.injEq] at h2
  exact h3 h2.2.1.symm⟩
theorem Kp.set {W w : World} (h : Kp W w) {q o : Nat} (hq : W.heap.size ≤ q) (u : Value) : Kp W (w.setCell ⟨q, o, none⟩ u) := ⟨by rw [World.size_setCell]; exact h.1, fun k cs fr hk => (Below.heap_setCell w ⟨q, o, none⟩ u k (fun e => by have := (Array.getElem?_eq_some_iff.1 hk).1; simp at e; omega)).trans (h.2 k cs fr hk)⟩
/-- the wave in read's box, its rows from B on -/
structure Rd (B : Nat) (W : World) (x : Wv) (vn vw vc : Value) (w : World) : Prop where
  hB : B ≤ W.heap.size
  r2 : WBox w W.heap.size vn vw vc (.int .i64 x.last)
  r4 : WBox w (W.heap.size + 1) (.slice none 0 0) (.slice none 0 0) (.slice none 0 0) (.int .i64 0)
  nm : w.ownsRow B 9 1 vn x.names.length (x.names.map strV)
  wd : w.ownsRow B 3 1 vw x.widths.length (x.widths.map intV)
  ch : w.ownsRow B 50 3 vc x.chs.length (chgsV x.chs)
  bel : Below B W w
  kp : Kp W w
theorem Rd.later {B : Nat} {W : World} {x : Wv} {vn vw vc : Value} {w w' : World} (h : Rd B W x vn vw vc w) (hb : Below w.heap.size w w') : Rd B W x vn vw vc w' :=
  ⟨h.hB, h.r2.later hb, h.r4.later hb, row_later h.nm hb, row_later h.wd hb, row_later h.ch hb, h.bel.trans (hb.mono (Nat.le_trans h.hB h.bel.size)), h.kp.later hb⟩
theorem Rd.start {B : Nat} {W : World} {x : Wv} {vn vw vc : Value} (hB : B ≤ W.heap.size) (h1 : W.ownsRow B 9 1 vn x.names.length (x.names.map strV)) (h2 : W.ownsRow B 3 1 vw x.widths.length (x.widths.map intV)) (h3 : W.ownsRow B 50 3 vc x.chs.length (chgsV x.chs)) :
    Rd B W x vn vw vc ((W.alloc (.cells #[vn, vw, vc, .int .i64 x.last] 26)).alloc (.cells #[.slice none 0 0, .slice none 0 0, .slice none 0 0, .int .i64 0] 26)) := by
  have b0 := WBox.new W vn vw vc (.int .i64 x.last)
  have b1 := WBox.new (W.alloc (.cells #[vn, vw, vc, .int .i64 x.last] 26)) (.slice none 0 0) (.slice none 0 0) (.slice none 0 0) (.int .i64 0)
  rw [World.size_alloc] at b1
  have hb : Below W.heap.size W ((W.alloc (.cells #[vn, vw, vc, .int .i64 x.last] 26)).alloc (.cells #[.slice none 0 0, .slice none 0 0, .slice none 0 0, .int .i64 0] 26)) := ((Below.refl _ _).alloc (Nat.le_refl _) _).alloc (by simp) _
  exact ⟨hB, b0.later ((Below.refl _ _).alloc (Nat.le_refl _) _), b1, row_later h1 hb, row_later h2 hb, row_later h3 hb, hb.mono hB, Kp.later ⟨Nat.le_refl _, fun _ _ _ h => h⟩ hb⟩
theorem wb_set {w : World} {R q o : Nat} {a b c d u : Value} (h : WBox w R a b c d) (hne : R ≠ q) : WBox (w.setCell ⟨q, o, none⟩ u) R a b c d := (Below.heap_setCell w ⟨q, o, none⟩ u R hne).trans h
theorem Rd.app {B : Nat} {W : World} {x : Wv} {vn vw vc : Value} {w w2 : World} (h : Rd B W x vn vw vc w) {e : TypeId} {m n : Nat} {v : Value} {cs : List Value} (ho : w.ownsRow B e m v n cs) (he : 26 ≠ e) (hg : w.grownBy w2 v.ownBlock) :
    WBox w2 W.heap.size vn vw vc (.int .i64 x.last) ∧ WBox w2 (W.heap.size + 1) (.slice none 0 0) (.slice none 0 0) (.slice none 0 0) (.int .i64 0) ∧ Below B W w2 ∧ Kp W w2 := by
  have hb : ∀ b, v.ownBlock = some b → ∃ cur e fr, w.heap[b]? = some (.cells cur e fr) ∧ e ≠ 26 := fun b e => by obtain ⟨cur, fr, h1⟩ := row_block ho b e; exact ⟨cur, _, fr, h1, fun e0 => he e0.symm⟩
  exact ⟨h.r2.grown hg hb, h.r4.grown hg hb, row_grown ho (Nat.le_refl _) h.bel (Nat.le_trans h.hB h.bel.size) hg, h.kp.grown hg hb⟩
theorem Rd.nam {B : Nat} {W : World} {x : Wv} {vn vw vc : Value} {w w2 : World} (h : Rd B W x vn vw vc w) (s : Ln) {p : Option Addr} {N c' : Nat} (hN : N = x.names.length + 1)
    (ho : w2.ownsRow B 9 1 (.slice p N c') N (x.names.map strV ++ [strV s])) (hg : w.grownBy w2 vn.ownBlock) :
    Rd B W { x with names := x.names ++ [s] } (.slice p N c') vw vc (w2.setCell ⟨W.heap.size, 0, none⟩ (.slice p N c')) := by
  obtain ⟨h2, h4, hb, hkp⟩ := h.app h.nm (by decide) hg
  have hbk : ∀ T, T ≠ 9 → ∀ b, vn.ownBlock = some b → ∃ cur e fr, w.heap[b]? = some (.cells cur e fr) ∧ e ≠ T := fun T hT b e => by obtain ⟨cur, fr, h1⟩ := row_block h.nm b e; exact ⟨cur, _, fr, h1, fun e => hT e.symm⟩
  refine ⟨h.hB, WBox.set h2 0 _, wb_set h4 (by omega), ?_, row_set (row_other (q := 0) h.wd hg (hbk _ (by decide))) h2 (by decide) 0 _, row_set (row_other (q := 0) h.ch hg (hbk _ (by decide))) h2 (by decide) 0 _, hb.setCell h.hB _, hkp.set (Nat.le_refl _) _⟩
  have := row_set ho h2 (by decide) 0 (.slice p N c')
  show World.ownsRow _ _ _ _ _ (x.names ++ [s]).length ((x.names ++ [s]).map strV)
  rw [List.map_append, List.length_append, List.length_singleton, ← hN]
  exact this
theorem Rd.wid {B : Nat} {W : World} {x : Wv} {vn vw vc : Value} {w w2 : World} (h : Rd B W x vn vw vc w) (n : Int) {p : Option Addr} {N c' : Nat} (hN : N = x.widths.length + 1)
    (ho : w2.ownsRow B 3 1 (.slice p N c') N (x.widths.map intV ++ [intV n])) (hg : w.grownBy w2 vw.ownBlock) :
    Rd B W { x with widths := x.widths ++ [n] } vn (.slice p N c') vc (w2.setCell ⟨W.heap.size, 1, none⟩ (.slice p N c')) := by
  obtain ⟨h2, h4, hb, hkp⟩ := h.app h.wd (by decide) hg
  have hbk : ∀ T, T ≠ 3 → ∀ b, vw.ownBlock = some b → ∃ cur e fr, w.heap[b]? = some (.cells cur e fr) ∧ e ≠ T := fun T hT b e => by obtain ⟨cur, fr, h1⟩ := row_block h.wd b e; exact ⟨cur, _, fr, h1, fun e => hT e.symm⟩
  refine ⟨h.hB, WBox.set h2 1 _, wb_set h4 (by omega), row_set (row_other (q := 0) h.nm hg (hbk _ (by decide))) h2 (by decide) 1 _, ?_, row_set (row_other (q := 0) h.ch hg (hbk _ (by decide))) h2 (by decide) 1 _, hb.setCell h.hB _, hkp.set (Nat.le_refl _) _⟩
  have := row_set ho h2 (by decide) 1 (.slice p N c')
  show World.ownsRow _ _ _ _ _ (x.widths ++ [n]).length ((x.widths ++ [n]).map intV)
  rw [List.map_append, List.length_append, List.length_singleton, ← hN]
  exact this
theorem Rd.chg {B : Nat} {W : World} {x : Wv} {vn vw vc : Value} {w w2 : World} (h : Rd B W x vn vw vc w) (c : Chg) {p : Option Addr} {N c' : Nat} (hN : N = x.chs.length + 1)
    (ho : w2.ownsRow B 50 3 (.slice p N c') N (chgsV x.chs ++ chgV c)) (hg : w.grownBy w2 vc.ownBlock) :
    Rd B W { x with chs := x.chs ++ [c] } vn vw (.slice p N c') (w2.setCell ⟨W.heap.size, 2, none⟩ (.slice p N c')) := by
  obtain ⟨h2, h4, hb, hkp⟩ := h.app h.ch (by decide) hg
  have hbk : ∀ T, T ≠ 50 → ∀ b, vc.ownBlock = some b → ∃ cur e fr, w.heap[b]? = some (.cells cur e fr) ∧ e ≠ T := fun T hT b e => by obtain ⟨cur, fr, h1⟩ := row_block h.ch b e; exact ⟨cur, _, fr, h1, fun e => hT e.symm⟩
  refine ⟨h.hB, WBox.set h2 2 _, wb_set h4 (by omega), row_set (row_other (q := 0) h.nm hg (hbk _ (by decide))) h2 (by decide) 2 _, row_set (row_other (q := 0) h.wd hg (hbk _ (by decide))) h2 (by decide) 2 _, ?_, hb.setCell h.hB _, hkp.set (Nat.le_refl _) _⟩
  have := row_set ho h2 (by decide) 2 (.slice p N c')
  show World.ownsRow _ _ _ _ _ (x.chs ++ [c]).length (chgsV (x.chs ++ [c]))
  rw [chgsV_snoc, List.length_append, List.length_singleton, ← hN]
  exact this
theorem Rd.time {B : Nat} {W : World} {x : Wv} {vn vw vc : Value} {w : World} (h : Rd B W x vn vw vc w) (t : Int) : Rd B W { x with last := t } vn vw vc (w.setCell ⟨W.heap.size, 3, none⟩ (.int .i64 t)) :=
  ⟨h.hB, WBox.set h.r2 3 _, wb_set h.r4 (by omega), row_set h.nm h.r2 (by decide) 3 _, row_set h.wd h.r2 (by decide) 3 _, row_set h.ch h.r2 (by decide) 3 _, h.bel.setCell h.hB _, h.kp.set (Nat.le_refl _) _⟩
/-- the result's box is filled -/
theorem Rd.out {B : Nat} {W : World} {x : Wv} {vn vw vc a b c d : Value} {w : World} (h : Rd B W x vn vw vc w) :
    WBox ((((w.setCell ⟨W.heap.size + 1, 0, none⟩ a).setCell ⟨W.heap.size + 1, 1, none⟩ b).setCell ⟨W.heap.size + 1, 2, none⟩ c).setCell ⟨W.heap.size + 1, 3, none⟩ d) (W.heap.size + 1) a b c d ∧
    World.ownsRow ((((w.setCell ⟨W.heap.size + 1, 0, none⟩ a).setCell ⟨W.heap.size + 1, 1, none⟩ b).setCell ⟨W.heap.size + 1, 2, none⟩ c).setCell ⟨W.heap.size + 1, 3, none⟩ d) B 9 1 vn x.names.length (x.names.map strV) ∧
    World.ownsRow ((((w.setCell ⟨W.heap.size + 1, 0, none⟩ a).setCell ⟨W.heap.size + 1, 1, none⟩ b).setCell ⟨W.heap.size + 1, 2, none⟩ c).setCell ⟨W.heap.size + 1, 3, none⟩ d) B 3 1 vw x.widths.length (x.widths.map intV) ∧
    World.ownsRow ((((w.setCell ⟨W.heap.size + 1, 0, none⟩ a).setCell ⟨W.heap.size + 1, 1, none⟩ b).setCell ⟨W.heap.size + 1, 2, none⟩ c).setCell ⟨W.heap.size + 1, 3, none⟩ d) B 50 3 vc x.chs.length (chgsV x.chs) ∧
    Below B W ((((w.setCell ⟨W.heap.size + 1, 0, none⟩ a).setCell ⟨W.heap.size + 1, 1, none⟩ b).setCell ⟨W.heap.size + 1, 2, none⟩ c).setCell ⟨W.heap.size + 1, 3, none⟩ d) ∧
    Kp W ((((w.setCell ⟨W.heap.size + 1, 0, none⟩ a).setCell ⟨W.heap.size + 1, 1, none⟩ b).setCell ⟨W.heap.size + 1, 2, none⟩ c).setCell ⟨W.heap.size + 1, 3, none⟩ d) := by
  have b0 := WBox.set h.r4 0 a
  have b1 := WBox.set b0 1 b
  have b2 := WBox.set b1 2 c
  have key : ∀ {e : TypeId} {m n : Nat} {v : Value} {cs : List Value}, w.ownsRow B e m v n cs → 26 ≠ e → World.ownsRow ((((w.setCell ⟨W.heap.size + 1, 0, none⟩ a).setCell ⟨W.heap.size + 1, 1, none⟩ b).setCell ⟨W.heap.size + 1, 2, none⟩ c).setCell ⟨W.heap.size + 1, 3, none⟩ d) B e m v n cs := fun ho he =>
    row_set (row_set (row_set (row_set ho h.r4 he 0 _) b0 he 1 _) b1 he 2 _) b2 he 3 _
  exact ⟨wset4 h.r4, key h.nm (by decide), key h.wd (by decide), key h.ch (by decide), wbel4 h.bel (Nat.le_succ_of_le h.hB), (((h.kp.set (Nat.le_succ _) _).set (Nat.le_succ _) _).set (Nat.le_succ _) _).set (Nat.le_succ _) _⟩
/-- the rows of a wave -/
def Own3 (B : Nat) (w : World) (vn vw vc : Value) (x : Wv) : Prop := w.ownsRow B 9 1 vn x.names.length (x.names.map strV) ∧ w.ownsRow B 3 1 vw x.widths.length (x.widths.map intV) ∧ w.ownsRow B 50 3 vc x.chs.length (chgsV x.chs)
/-- how read ends -/
def ReadPost (B : Nat) (x : Wv) (s : Ln) (W : World) (e : Ending) (W' : World) : Prop :=
  (∃ vn vw vc y, e = .returned (.tuple #[.agg #[vn, vw, vc, .int .i64 y.last], .bool (lineR x s).isSome]) ∧ Own3 B W' vn vw vc y ∧ ∀ z, lineR x s = some z → z = y) ∧ Below B W W' ∧ Kp W W'
theorem ReadPost.good {B : Nat} {x y : Wv} {s : Ln} {W W' : World} {e : Ending} {vn vw vc : Value} (h : lineR x s = some y) (he : e = .returned (.tuple #[.agg #[vn, vw, vc, .int .i64 y.last], .bool true])) (ho : Own3 B W' vn vw vc y) (hb : Below B W W' ∧ Kp W W') : ReadPost B x s W e W' :=
  ⟨⟨vn, vw, vc, y, by rw [h]; exact he, ho, fun z hz => by rw [h] at hz; cases hz; rfl⟩, hb⟩
theorem ReadPost.bad {B : Nat} {x y : Wv} {s : Ln} {W W' : World} {e : Ending} {vn vw vc : Value} (h : lineR x s = none) (he : e = .returned (.tuple #[.agg #[vn, vw, vc, .int .i64 y.last], .bool false])) (ho : Own3 B W' vn vw vc y) (hb : Below B W W' ∧ Kp W W') : ReadPost B x s W e W' :=
  ⟨⟨vn, vw, vc, y, by rw [h]; exact he, ho, fun z hz => by rw [h] at hz; cases hz⟩, hb⟩
end Go.Proofs.YtephnfhjobkciaaGreatDoor
