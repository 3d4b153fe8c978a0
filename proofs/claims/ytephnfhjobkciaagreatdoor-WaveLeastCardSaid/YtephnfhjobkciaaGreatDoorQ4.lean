/- Texts of the Wave laws, merged: WB, WC, WD, WE, WF, WG. -/
import Derived.Test.YtephnfhjobkciaaGreatDoorQ3
import Derived.BigRegion
import Derived.Test.YtephnfhjobkciaaGreatDoorQ2
import Derived.Lib.ConvBytes
import Derived.Below
import Derived.Deep.AppendLies
import Derived.Laws.BytesArg
import Derived.Shelf.Bytes.SlSmallAll
import Derived.Laws.AppendOwnNone
import Derived.Lib.AppendStr

/- What may be a wave: the program. -/
namespace Go.Proofs.Wav
set_option linter.unusedVariables false
set_option linter.unusedSimpArgs false
theorem okP_bad {n : Nat} {ws : List Int} {last : Int} {l : List Chg} {k : Nat} (hk : k < l.length) (h : stepP n ws last (l.take k) l[k] = false) : okP n ws last l = false := by
  rw [Bool.eq_false_iff]
  intro hs
  unfold okP at hs
  rw [Bool.and_eq_true, allSteps_iff] at hs
  have := hs.2 k hk
  rw [List.nil_append, h] at this
  cases this
theorem okP_end {n : Nat} {ws : List Int} {last : Int} {l : List Chg} (h0 : n ≤ l.length) (h : ∀ k (hk : k < l.length), stepP n ws last (l.take k) l[k] = true) : okP n ws last l = true := by
  unfold okP
  rw [allSteps_iff.2 (fun k hk => by rw [List.nil_append]; exact h k hk), decide_eq_true h0]
  rfl
theorem checkP_one {x : Wv} (h : ¬ (512 < x.names.length ∨ 65536 < x.chs.length ∨ 2147483647 < x.last)) (h2 : okP x.names.length x.widths x.last x.chs = false) : checkW x = 1 := by
  unfold checkW
  rw [if_neg h, if_neg (fun hh => by rw [h2] at hh; cases hh.2.2)]
theorem checkP_short {x : Wv} (h : ¬ (512 < x.names.length ∨ 65536 < x.chs.length ∨ 2147483647 < x.last)) (h2 : x.chs.length < x.names.length) : checkW x = 1 :=
  checkP_one h (by unfold okP; rw [decide_eq_false (by omega)]; rfl)
theorem checkP_nil {x : Wv} (h : ¬ (512 < x.names.length ∨ 65536 < x.chs.length ∨ 2147483647 < x.last)) (h1 : sigsOk x.names x.widths = true) (h2 : 0 ≤ x.last) (h3 : okP x.names.length x.widths x.last x.chs = true) : checkW x = 0 := by
  unfold checkW
  rw [if_neg h, if_pos ⟨h1, h2, h3⟩]
/-- the last change, or the one ahead of all -/
def lastC (l : List Chg) : Chg := l.getLast?.getD ⟨-1, 0, 0⟩
theorem lastC_snoc (l : List Chg) (c : Chg) : lastC (l ++ [c]) = c := by simp [lastC]
theorem stepP_one {n : Nat} {ws : List Int} {last : Int} {pre : List Chg} {c : Chg} (h : okOne n ws last c = false) : stepP n ws last pre c = false := by
  unfold stepP
  rw [h]
  simp
theorem stepP_order {n : Nat} {ws : List Int} {last : Int} {pre : List Chg} {c : Chg} (h0 : 0 ≤ c.t) (h : behindC (lastC pre) c = false) : stepP n ws last pre c = false := by
  unfold stepP
  unfold lastC at h
  cases hp : pre.getLast? with
  | none =>
    rw [hp] at h
    unfold behindC at h
    simp only [Option.getD_none] at h
    rw [decide_eq_true (show (-1 : Int) < c.t by omega)] at h
    cases h
  | some p =>
    rw [hp] at h
    simp only [Option.getD_some] at h
    simp [h]
theorem stepP_same {n : Nat} {ws : List Int} {last : Int} {pre : List Chg} {c : Chg} (h : told pre c.g = some c.v) : stepP n ws last pre c = false := by
  unfold stepP
  rw [decide_eq_true h]
  simp
theorem stepP_zero {n : Nat} {ws : List Int} {last : Int} {pre : List Chg} {c : Chg} (h : (decide (c.t = 0) == decide (pre.length < n)) = false) : stepP n ws last pre c = false := by
  unfold stepP
  rw [h]
  simp
theorem stepP_good {n : Nat} {ws : List Int} {last : Int} {pre : List Chg} {c : Chg} (h1 : okOne n ws last c = true) (h2 : behindC (lastC pre) c = true) (h3 : ¬ told pre c.g = some c.v) (h4 : (decide (c.t = 0) == decide (pre.length < n)) = true) : stepP n ws last pre c = true := by
  unfold stepP
  rw [h1, h4, decide_eq_false h3]
  unfold lastC at h2
  cases hp : pre.getLast? with
  | none => rfl
  | some p =>
    rw [hp] at h2
    simp only [Option.getD_some] at h2
    simp [h2]
theorem sigs_width {ns : List Ln} {ws : List Int} (h : sigsOk ns ws = true) {k : Nat} (hk : k < ws.length) : 1 ≤ ws[k] ∧ ws[k] ≤ 64 := by
  simp only [sigsOk, Bool.and_eq_true, List.all_eq_true] at h
  have := h.2.2.1 _ (List.getElem_mem hk)
  unfold widthOk at this
  rw [Bool.and_eq_true, decide_eq_true_eq, decide_eq_true_eq] at this
  exact this
/-- a wave of numbers that a machine holds -/
structure Fits (x : Wv) : Prop where
  g : ∀ c ∈ x.chs, -9223372036854775808 ≤ c.g ∧ c.g ≤ 9223372036854775807
  v : ∀ c ∈ x.chs, c.v < 18446744073709551616
end Go.Proofs.Wav
namespace Go.Proofs.YtephnfhjobkciaaGreatDoor
open Go.RowKit Go.Proofs.Wav Go.Sort Go.Maps
set_option linter.unusedVariables false
set_option linter.unusedSimpArgs false
set_option maxRecDepth 100000

theorem law_int : Keyed Tryz.prog 3 := int_keyed Tryz.underlying3
theorem zero_u64 (w : World) : (zeroValue 33).run Tryz.prog w = .ok (.int .u64 0) w := by kernel_rfl
theorem wf_int {g : Int} (h : -9223372036854775808 ≤ g ∧ g ≤ 9223372036854775807) : (Lit.int .i64 g).wf = true := WalkArith.wf_i64 ⟨by omega, by omega⟩
theorem wf_nat {v : Nat} (h : v < 18446744073709551616) : (Lit.int .u64 (v : Int)).wf = true := WalkArith.wf_u64 ⟨by omega, by omega⟩

/-- what each signal was told -/
def Now (w : World) (b n : Nat) (f : Int → Option Nat) : Prop := ∃ D : DataW Unit, w.ownsMap Tryz.prog 3 (plainElem Tryz.prog 33) b n D ∧ ∀ g : Int, Maps.has D (.int .i64 g) = (f g).isSome ∧ D.atKey (.int .i64 g) (.lit (.int .u64 0)) = .lit (.int .u64 ((f g).getD 0 : Nat))
theorem Now.made (w : World) : Now (w.alloc (.map #[] 0)) w.heap.size 0 (told []) := ⟨.map [], World.ownsMap_made _ _ _ _, fun g => ⟨rfl, rfl⟩⟩
theorem Now.later {w w' : World} {b n : Nat} {f : Int → Option Nat} (h : Now w b n f) (hb : Below w.heap.size w w') : Now w' b n f := by
  obtain ⟨D, h1, h2⟩ := h
  exact ⟨D, below_map h1 hb (map_lt h1), h2⟩
theorem Now.lt {w : World} {b n : Nat} {f : Int → Option Nat} (h : Now w b n f) : b < w.heap.size := by
  obtain ⟨D, h1, h2⟩ := h
  exact map_lt h1
theorem Now.look {w : World} {b n : Nat} {f : Int → Option Nat} (h : Now w b n f) {g : Int} (hg : -9223372036854775808 ≤ g ∧ g ≤ 9223372036854775807) : (Instr.lookup 72 (.map (some b)) (.int .i64 g) true).run Tryz.prog w = .ok (.tuple #[.int .u64 ((f g).getD 0 : Nat), .bool (f g).isSome]) w := by
  obtain ⟨D, h1, h2⟩ := h
  obtain ⟨v, ps, hrun, hv⟩ := h1.look_ok law_int Tryz.underlying72 (zero_u64 w) (plainElem_int Tryz.underlying33 (by decide)) (keyOf_int_mk Tryz.underlying3 (wf_int hg))
  obtain ⟨c, rfl, hc, _⟩ := plainElem_int_inv Tryz.underlying33 hv
  rw [(h2 g).2] at hc
  simp only [Prod.mk.injEq, DataW.lit.injEq, Lit.int.injEq, true_and] at hc
  rw [(h2 g).1, ← hc.1] at hrun
  exact hrun
theorem Now.put {w : World} {b n : Nat} {f : Int → Option Nat} (h : Now w b n f) (hn : n ≤ 100000) {g : Int} (hg : -9223372036854775808 ≤ g ∧ g ≤ 9223372036854775807) {v : Nat} (hv : v < 18446744073709551616) {f' : Int → Option Nat} (hf : ∀ s, f' s = if g = s then some v else f s) :
    ∃ w', (Instr.mapUpdate 72 (.map (some b)) (.int .i64 g) (.int .u64 v)).run Tryz.prog w = .ok () w' ∧ Now w' b (n + 1) f' ∧ w.grownBy w' (some b) := by
  obtain ⟨D, h1, h2⟩ := h
  obtain ⟨w', hr, ho, hgr⟩ := h1.update law_int Tryz.underlying72 (by unfold maxLen; omega) (keyOf_int_mk Tryz.underlying3 (wf_int hg)) (plainElem_int Tryz.underlying33 (wf_nat hv))
  refine ⟨w', hr, ⟨_, ho, fun x => ?_⟩, hgr⟩
  rw [hf]
  by_cases hx : x = g
  · subst hx
    rw [if_pos rfl, atKey_put_same h1.isMap (by constructor), has_put_same h1.isMap (by constructor)]
    exact ⟨rfl, rfl⟩
  · have hx' : (Lit.int .i64 x) ≠ .int .i64 g := by simpa using hx
    rw [if_neg (fun e => hx e.symm), atKey_put_other hx', has_put_other hx']
    exact h2 x
/-- a box of three cells that is written -/
structure BoxW (w : World) (n : Nat) (a b c : Value) : Prop where
  c0 : w.cell? ⟨n, 0, none⟩ = some a
  c1 : w.cell? ⟨n, 1, none⟩ = some b
  c2 : w.cell? ⟨n, 2, none⟩ = some c
  f0 : w.frozen? ⟨n, 0, none⟩ = false
  f1 : w.frozen? ⟨n, 1, none⟩ = false
  f2 : w.frozen? ⟨n, 2, none⟩ = false
  lt : n < w.heap.size
theorem BoxW.new (w : World) (a b c : Value) (t : TypeId) : BoxW (w.alloc (.cells #[a, b, c] t)) w.heap.size a b c :=
  ⟨by simp [World.cell?_alloc_new], by simp [World.cell?_alloc_new], by simp [World.cell?_alloc_new], by simp [World.frozen?_alloc_new], by simp [World.frozen?_alloc_new], by simp [World.frozen?_alloc_new], by simp⟩
theorem BoxW.later {w w' : World} {n : Nat} {a b c : Value} (h : BoxW w n a b c) (hb : Below w.heap.size w w') : BoxW w' n a b c :=
  ⟨(hb.cell (p := ⟨n, 0, none⟩) h.lt).trans h.c0, (hb.cell (p := ⟨n, 1, none⟩) h.lt).trans h.c1, (hb.cell (p := ⟨n, 2, none⟩) h.lt).trans h.c2,
   (hb.frozen (p := ⟨n, 0, none⟩) h.lt).trans h.f0, (hb.frozen (p := ⟨n, 1, none⟩) h.lt).trans h.f1, (hb.frozen (p := ⟨n, 2, none⟩) h.lt).trans h.f2, Nat.lt_of_lt_of_le h.lt hb.size⟩
theorem BoxW.grown {w w' : World} {n m : Nat} {a b c : Value} (h : BoxW w n a b c) (hg : w.grownBy w' (some m)) (hne : n ≠ m) : BoxW w' n a b c := by
  have key : w'.heap[n]? = w.heap[n]? := hg.block n h.lt (fun e => hne (Option.some.inj e))
  exact ⟨(World.cell?_of_block (w := w) key).trans h.c0, (World.cell?_of_block (w := w) key).trans h.c1, (World.cell?_of_block (w := w) key).trans h.c2,
    (World.frozen?_of_block (w := w) key).trans h.f0, (World.frozen?_of_block (w := w) key).trans h.f1, (World.frozen?_of_block (w := w) key).trans h.f2, Nat.lt_of_lt_of_le h.lt hg.size⟩
theorem BoxW.drewN {w : World} {n : Nat} {a b c : Value} (h : BoxW w n a b c) (m : Nat) : BoxW (w.drewN m) n a b c := ⟨h.c0, h.c1, h.c2, h.f0, h.f1, h.f2, h.lt⟩

theorem BoxW.set {w : World} {n : Nat} {a b c : Value} (h : BoxW w n a b c) (x y z : Value) : BoxW (((w.setCell ⟨n, 0, none⟩ x).setCell ⟨n, 1, none⟩ y).setCell ⟨n, 2, none⟩ z) n x y z :=
  ⟨by simp [go_sem, h.c0, h.c1, h.c2], by simp [go_sem, h.c0, h.c1, h.c2], by simp [go_sem, h.c0, h.c1, h.c2], by simp [go_sem, h.f0, h.f1, h.f2], by simp [go_sem, h.f0, h.f1, h.f2], by simp [go_sem, h.f0, h.f1, h.f2], by simpa [World.setCell] using h.lt⟩
theorem Now.setCell {w : World} {b n : Nat} {f : Int → Option Nat} (h : Now w b n f) {a : Addr} (ha : b ≠ a.block) (u : Value) : Now (w.setCell a u) b n f := by
  obtain ⟨D, h1, h2⟩ := h
  exact ⟨D, h1.setCell ha u, h2⟩

set_option maxHeartbeats 16000000 in
theorem check_any (vn vw vc : Value) (x : Wv) (hs : Small x) (hf : Fits x) (W : World) (h1 : WavAt W vn vw vc x) :
    Calls Tryz.prog 18 #[.agg #[vn, vw, vc, .int .i64 x.last]] W fun e W' => e = .returned (.int .i64 (checkW x)) ∧ Below W.heap.size W W' := by
  have HS := Lib.hid (fun w hb => signals_any vn vw vc x hs w (h1.later hb))
  have HC2 := Lib.hid (@check_two x)
  have HC1 := Lib.hid (@check_one x)
  have HCS := Lib.hid (@checkP_short x)
  have HCP := Lib.hid (@checkP_one x)
  have HC0 := Lib.hid (@checkP_nil x)
  obtain ⟨xn, xw, xc, xl⟩ := x
  obtain ⟨s1, s2, s3, s4⟩ := hs
  obtain ⟨fg, fv⟩ := hf
  simp only at *
  have HFG := Lib.hid fg
  have HFV := Lib.hid fv
  obtain ⟨pn, cn, rfl⟩ := h1.1.form
  obtain ⟨pw, cw, rfl⟩ := h1.2.1.form
  obtain ⟨pc, cc, rfl⟩ := h1.2.2.form
  simp only at *
  have b1 := Box4.new W (.slice pn xn.length cn) (.slice pw xw.length cw) (.slice pc xc.length cc) (.int .i64 xl) 26
  have hb1 := (Below.refl W.heap.size W).alloc (Nat.le_refl _) (.cells #[.slice pn xn.length cn, .slice pw xw.length cw, .slice pc xc.length cc, .int .i64 xl] 26)
  have HW := Lib.hid (fun w hb (h0 : 0 < xw.length) => Slc.at (Slc.later (w' := w) (Slc.later h1.2.1 hb1) hb) h0)
  have HC := Lib.hid (fun w hb (h0 : 0 < xc.length) => Slc.at (Slc.later (w' := w) (Slc.later h1.2.2 hb1) hb) h0)
  have HB := Lib.hid hb1
  have HA := Lib.hid (fun o => (Below.refl W.heap.size W).alloc (Nat.le_refl _) o)
  clear hb1 h1 s4 fg fv
  have hmm := Lib.hid (@run_makeMap Tryz.prog)
  generalize hck : checkW ⟨xn, xw, xc, xl⟩ = R at *
  by_cases c1 : 512 < xn.length
  · have c1' : (512 : Int) < (xn.length : Int) := by omega
    obtain rfl := HC2.out (.inl c1)
    go_enter Tryz.func18, Tryz.ntmps18
    go_wp2
    go_ret
    exact ⟨rfl, HA.out _⟩
  by_cases c2 : 65536 < xc.length
  · have c1' : ¬ (512 : Int) < (xn.length : Int) := by omega
    have c2' : (65536 : Int) < (xc.length : Int) := by omega
    obtain rfl := HC2.out (.inr (.inl c2))
    go_enter Tryz.func18, Tryz.ntmps18
    go_wp2
    go_ret
    exact ⟨rfl, HA.out _⟩
  by_cases c3 : 2147483647 < xl
  · have c1' : ¬ (512 : Int) < (xn.length : Int) := by omega
    have c2' : ¬ (65536 : Int) < (xc.length : Int) := by omega
    obtain rfl := HC2.out (.inr (.inr c3))
    go_enter Tryz.func18, Tryz.ntmps18
    go_wp2
    go_ret
    exact ⟨rfl, HA.out _⟩
  have c1' : ¬ (512 : Int) < (xn.length : Int) := by omega
  have c2' : ¬ (65536 : Int) < (xc.length : Int) := by omega
  have hno : ¬ (512 < xn.length ∨ 65536 < xc.length ∨ 2147483647 < xl) := by omega
  cases hsig : sigsOk xn xw
  · obtain rfl := HC1.out hno (fun h => by rw [hsig] at h; cases h.1)
    rw [hsig] at HS
    go_enter Tryz.func18, Tryz.ntmps18
    go_wp2_with fail
    refine (HS.out _ HB.out).mono ?_
    rintro e W2 ⟨rfl, hb2⟩
    have HW2 := Lib.hid (HB.out.trans (hb2.mono HB.out.size))
    clear hb2
    go_wp2
    go_ret
    exact ⟨rfl, HW2.out⟩
  rw [hsig] at HS
  by_cases c4 : xl < 0
  · obtain rfl := HC1.out hno (fun h => by omega)
    go_enter Tryz.func18, Tryz.ntmps18
    go_wp2_with fail
    refine (HS.out _ HB.out).mono ?_
    rintro e W2 ⟨rfl, hb2⟩
    have HW2 := Lib.hid (HB.out.trans (hb2.mono HB.out.size))
    obtain ⟨a0, a1, a2, a3, _, _, _, _, _⟩ := b1.later hb2
    clear hb2
    go_wp2
    go_ret
    exact ⟨rfl, HW2.out⟩
  by_cases c5 : xc.length < xn.length
  · have c5' : (xc.length : Int) < (xn.length : Int) := by omega
    have c4' : ¬ xl < 0 := c4
    obtain rfl := HCS.out hno c5
    go_enter Tryz.func18, Tryz.ntmps18
    go_wp2_with fail
    refine (HS.out _ HB.out).mono ?_
    rintro e W2 ⟨rfl, hb2⟩
    have HW2 := Lib.hid (HB.out.trans (hb2.mono HB.out.size))
    obtain ⟨a0, a1, a2, a3, _, _, _, _, _⟩ := b1.later hb2
    clear hb2
    go_wp2
    go_ret
    exact ⟨rfl, HW2.out⟩
  have c5' : ¬ (xc.length : Int) < (xn.length : Int) := by omega
  have HRB := Lib.hid (HCP.out hno)
  have HRG := Lib.hid (HC0.out hno hsig (by omega))
  have HSW := Lib.hid (fun k (h : k < xw.length) => sigs_width hsig h)
  have c4' : ¬ xl < 0 := c4
  have HL : Hid (xw.length = xn.length) := Lib.hid (by unfold sigsOk at hsig; rw [Bool.and_eq_true] at hsig; exact of_decide_eq_true hsig.1)
  clear HC0 HC1 HC2 HCS HCP hno hsig hck
  have hmk := hmm.out
  go_enter Tryz.func18, Tryz.ntmps18
  go_wp2_with fail
  refine (HS.out _ HB.out).mono ?_
  rintro e W2 ⟨rfl, hb2⟩
  have HW2 := Lib.hid (HB.out.trans (hb2.mono HB.out.size))
  have b2 := b1.later hb2
  have HZ2 := Lib.hid hb2
  clear hb2 b1
  obtain ⟨a0, a1, a2, a3, _, _, _, _, lt0⟩ := id b2
  have HM0 := Lib.hid ((Now.made W2).later ((Below.refl _ _).alloc (Nat.le_refl _) (.cells #[.int .i64 (-1), .int .i64 0, .int .u64 0] 50)))
  have hsz : (W2.alloc (.map #[] 0)).heap.size = W2.heap.size + 1 := by simp
  have bl := BoxW.new (W2.alloc (.map #[] 0)) (.int .i64 (-1)) (.int .i64 0) (.int .u64 0) 50
  rw [hsz] at bl
  have HBL := Lib.hid bl
  have HZ0 := Lib.hid (((Below.refl W2.heap.size W2).alloc (Nat.le_refl _) (.map #[] 0)).alloc (by omega) (.cells #[.int .i64 (-1), .int .i64 0, .int .u64 0] 50))
  have b2' := b2.later (((Below.refl W2.heap.size W2).alloc (Nat.le_refl _) (.map #[] 0)).alloc (by omega) (.cells #[.int .i64 (-1), .int .i64 0, .int .u64 0] 50))
  obtain ⟨z0, z1, z2, z3, _, _, _, _, _⟩ := id b2'
  clear bl hsz
  go_wp2_with fail
  clear hmk a0 a1 a2 a3 z0 z1 z2 z3 b2'
  generalize (W2.alloc (.map #[] 0)).alloc (.cells #[.int .i64 (-1), .int .i64 0, .int .u64 0] 50) = Z at *
  go_loopw [46] (fun i wr => ∃ k : Nat, k ≤ xc.length ∧ i = .int .i64 k ∧ Hid (Below W2.heap.size W2 wr) ∧ Hid (Now wr W2.heap.size k (told (xc.take k))) ∧ Hid (BoxW wr (W2.heap.size + 1) (.int .i64 (lastC (xc.take k)).t) (.int .i64 (lastC (xc.take k)).g) (.int .u64 (lastC (xc.take k)).v)) ∧ Hid (∀ j (h : j < xc.length), j < k → stepP xn.length xw xl (xc.take j) xc[j] = true)) (fun i _ => xc.length - (intOf i).toNat)
  case atStart => exact ⟨0, Nat.zero_le _, rfl, HZ0, HM0, HBL, Lib.hid (fun j h hj => by omega)⟩
  case round =>
    obtain ⟨k, hk, rfl, HX, HN, HBX, HE⟩ := hrel
    by_cases hks : k < xc.length
    · have HZX := Lib.hid (HZ2.out.trans (HX.out.mono HZ2.out.size))
      obtain ⟨bc, oc, hpc, hltc, hcc⟩ := HC.out _ HZX.out (by omega)
      obtain ⟨x0, x1, x2⟩ := chg_at hcc k hks
      subst hpc
      clear hcc
      have HBO := Lib.hid (fun h => HRB.out (okP_bad hks (stepP_one h)))
      have HBP := Lib.hid (fun h0 h => HRB.out (okP_bad hks (stepP_order h0 h)))
      have HBS := Lib.hid (fun h => HRB.out (okP_bad hks (stepP_same h)))
      have HBZ := Lib.hid (fun h => HRB.out (okP_bad hks (stepP_zero h)))
      have HGO := Lib.hid (@stepP_good xn.length xw xl (xc.take k) (xc[k]'hks))
      have HTS := Lib.hid (fun s : Int => (show told (xc.take (k + 1)) s = if xc[k].g = s then some xc[k].v else told (xc.take k) s by rw [List.take_succ_eq_append_getElem hks, told_snoc]))
      have HLC : Hid (lastC (xc.take (k + 1)) = xc[k]) := Lib.hid (by rw [List.take_succ_eq_append_getElem hks, lastC_snoc])
      have HTL : Hid ((xc.take k).length = k) := Lib.hid (by rw [List.length_take]; omega)
      have HNX := Lib.hid (fun (h : stepP xn.length xw xl (xc.take k) xc[k] = true) j (hj : j < xc.length) (hjk : j < k + 1) => (show stepP xn.length xw xl (xc.take j) xc[j] = true by
        by_cases he : j = k
        · subst he; exact h
        · exact HE.out j hj (by omega)))
      have hg := HFG.out _ (List.getElem_mem hks)
      have hv := HFV.out _ (List.getElem_mem hks)
      generalize hck : xc[k] = c at *
      clear hck
      obtain ⟨t, g, v⟩ := c
      generalize hlc : lastC (xc.take k) = lc at *
      have HLL := Lib.hid hlc
      clear hlc
      obtain ⟨lt, lg, lv⟩ := lc
      simp only at *
      have HY := Lib.hid ((Below.refl wr.heap.size wr).alloc (Nat.le_refl _) (.cells #[.int .i64 t, .int .i64 g, .int .u64 v] 50))
      have HXY := Lib.hid (HX.out.alloc HX.out.size (.cells #[.int .i64 t, .int .i64 g, .int .u64 v] 50))
      have HNY := Lib.hid (HN.out.later HY.out)
      have HBY := Lib.hid (HBX.out.later HY.out)
      have b3 := Box3.new wr (.int .i64 t) (.int .i64 g) (.int .u64 v) 50
      obtain ⟨y0, y1, y2, ltY⟩ := b3
      have hlk := HNY.out.look hg
      obtain ⟨K, hK⟩ : ∃ K, told (xc.take k) g = K := ⟨_, rfl⟩
      rw [hK] at hlk
      have HK := Lib.hid hK
      clear hK
      have b4 := b2.later HXY.out
      obtain ⟨a0, a1, a2, a3, _, _, _, _, _⟩ := b2.later HX.out
      by_cases q1 : t < 0
      · have HBD := Lib.hid (HBO.out (by unfold okOne; rw [decide_eq_false (show ¬ 0 ≤ t by omega)]; simp))
        obtain rfl := HBD.out

        go_wp2_with fail
        clear hlk a0 a1 a2 a3
        obtain ⟨a0, a1, a2, a3, _, _, _, _, _⟩ := b4

        go_big_quiet (fail)
        go_wp2_with fail
        go_ret
        exact ⟨rfl, HW2.out.trans ((below_drewN HXY.out _).mono HW2.out.size)⟩
      have dq1 : decide (t < 0) = false := decide_eq_false q1
      by_cases q2 : xl < t
      · have HBD := Lib.hid (HBO.out (by unfold okOne; rw [decide_eq_false (show ¬ t ≤ xl by omega)]; simp))
        obtain rfl := HBD.out

        go_wp2_with fail
        clear hlk a0 a1 a2 a3
        obtain ⟨a0, a1, a2, a3, _, _, _, _, _⟩ := b4

        go_big_quiet (fail)
        go_wp2_with fail
        go_ret
        exact ⟨rfl, HW2.out.trans ((below_drewN HXY.out _).mono HW2.out.size)⟩
      have dq2 : decide (xl < t) = false := decide_eq_false q2
      by_cases q3 : g < 0
      · have HBD := Lib.hid (HBO.out (by unfold okOne; rw [decide_eq_false (show ¬ 0 ≤ g by omega)]; simp))
        obtain rfl := HBD.out

        go_wp2_with fail
        clear hlk a0 a1 a2 a3
        obtain ⟨a0, a1, a2, a3, _, _, _, _, _⟩ := b4

        go_big_quiet (fail)
        go_wp2_with fail
        go_ret
        exact ⟨rfl, HW2.out.trans ((below_drewN HXY.out _).mono HW2.out.size)⟩
      have dq3 : decide (g < 0) = false := decide_eq_false q3
      by_cases q4 : (xn.length : Int) ≤ g
      · have HBD := Lib.hid (HBO.out (by unfold okOne; rw [decide_eq_false (show ¬ g < (xn.length : Int) by omega)]; simp))
        obtain rfl := HBD.out

        go_wp2_with fail
        clear hlk a0 a1 a2 a3
        obtain ⟨a0, a1, a2, a3, _, _, _, _, _⟩ := b4

        go_big_quiet (fail)
        go_wp2_with fail
        go_ret
        exact ⟨rfl, HW2.out.trans ((below_drewN HXY.out _).mono HW2.out.size)⟩
      have dq4 : decide ((xn.length : Int) ≤ g) = false := decide_eq_false q4
      obtain ⟨G, rfl⟩ : ∃ G : Nat, g = G := ⟨g.toNat, by omega⟩
      have hG : G < xn.length := by omega
      have dq4n : decide (xn.length ≤ G) = false := decide_eq_false (by omega)
      have dq4m : decide (G < xn.length) = true := decide_eq_true (by omega)
      have hGw : G < xw.length := by have := HL.out; omega
      have hGi : (G : Int) < xw.length := by omega
      have hGn : (G : Int) < xn.length := by omega
      obtain ⟨bw, ow, hpw, hltw, hcw⟩ := HW.out _ (HZ2.out.trans (HXY.out.mono HZ2.out.size)) (by omega)
      have w0 := one_at hcw G hGw
      simp only [intV] at w0
      subst hpw
      clear hcw
      have hsw := HSW.out G hGw
      have HGD : Hid (xw.getD ((G : Int)).toNat 0 = xw[G]) := Lib.hid (by rw [Int.toNat_natCast, List.getD_eq_getElem?_getD, List.getElem?_eq_getElem hGw]; rfl)
      have hmt := may_test xw[G] v (by omega) (by omega) hv
      rw [mask_maskN] at hmt
      have hmb : mayB xw[G] v = decide (v ≤ maskN xw[G]) := by
        unfold mayB
        rw [mask_maskN, Bool.eq_iff_iff, decide_eq_true_eq, decide_eq_true_eq]
        constructor
        · exact fun h => h.2.2
        · exact fun h => ⟨by omega, by omega, h⟩
      rw [hmb] at hmt
      clear hmb
      have HMT := Lib.hid hmt
      clear hmt
      have KM : Hid (∀ n, Calls Tryz.prog 40 #[.int .i64 xw[G]] ((wr.alloc (.cells #[.int .i64 t, .int .i64 G, .int .u64 v] 50)).drewN n) fun e w' => e = .returned (.int .u64 (maskN xw[G])) ∧ ∃ n', w' = (wr.alloc (.cells #[.int .i64 t, .int .i64 G, .int .u64 v] 50)).drewN n') := Lib.hid (fun n => (mask_any xw[G] _).mono (fun e w' h => ⟨h.1, n, h.2.symm⟩))
      by_cases q5 : maskN xw[G] < v
      · have HBD := Lib.hid (HBO.out (by
          unfold okOne
          simp only
          rw [HGD.out, decide_eq_false (show ¬ v ≤ maskN xw[G] by omega), Bool.and_false]))
        have hmt := HMT.out
        rw [decide_eq_false (by omega)] at hmt
        obtain rfl := HBD.out
        generalize xw[G] = wg at *
        generalize maskN wg = M at *
        have hnz : (bits .andNot .u64 (v : Int) (M : Int) != 0) = true := by unfold bne; rw [hmt]; rfl
        have hnd : decide (bits .andNot .u64 (v : Int) (M : Int) = 0) = false := decide_eq_false (by simpa using hmt)
        go_wp2_with fail
        clear hlk a0 a1 a2 a3
        obtain ⟨a0, a1, a2, a3, _, _, _, _, _⟩ := b4
        go_big_quiet (exact KM.out _)
        go_wp2_with fail
        go_ret
        exact ⟨rfl, HW2.out.trans ((below_drewN HXY.out _).mono HW2.out.size)⟩
      have HOK : Hid (okOne xn.length xw xl ⟨t, G, v⟩ = true) := Lib.hid (by
        unfold okOne
        simp only
        rw [HGD.out, decide_eq_true (show 0 ≤ t by omega), decide_eq_true (show t ≤ xl by omega), decide_eq_true (show (0 : Int) ≤ G by omega), decide_eq_true hGn, decide_eq_true (show v ≤ maskN xw[G] by omega)]
        rfl)
      have hmt := HMT.out
      rw [decide_eq_true (by omega)] at hmt
      have HGO1 := Lib.hid (HGO.out HOK.out)
      clear HMT HBO HGD HGO
      generalize xw[G] = wg at *
      generalize maskN wg = M at *
      have hnz : (bits .andNot .u64 (v : Int) (M : Int) != 0) = false := by unfold bne; rw [hmt]; rfl
      have hnd : bits .andNot .u64 (v : Int) (M : Int) = 0 := by simpa using hmt
      clear hmt
      have HBH := fun w => behind_any ⟨lt, lg, lv⟩ ⟨t, G, v⟩ w
      simp only at HBH
      go_wp2_with fail
      clear hlk a0 a1 a2 a3
      obtain ⟨a0, a1, a2, a3, _, _, _, _, _⟩ := b4
      go_big_quiet (exact KM.out _)
      clear KM w0 a0 a1 a2 a3 dq1 dq2 dq3 dq4 dq4n dq4m hnz hnd
      have HYQ := Lib.hid (below_drewN HY.out nq)
      have HXQ := Lib.hid (below_drewN HXY.out nq)
      have HNQ : Hid (Now ((wr.alloc (.cells #[.int .i64 t, .int .i64 G, .int .u64 v] 50)).drewN nq) W2.heap.size k (told (xc.take k))) := Lib.hid (HNY.out.later (below_drewN (Below.refl _ _) nq))
      have HBQ := Lib.hid (HBY.out.drewN nq)
      have b3 : Hid (Box3 ((wr.alloc (.cells #[.int .i64 t, .int .i64 G, .int .u64 v] 50)).drewN nq) wr.heap.size (.int .i64 t) (.int .i64 G) (.int .u64 v)) := Lib.hid ⟨y0, y1, y2, ltY⟩
      clear y0 y1 y2 ltY HY HXY HNY HBY
      generalize (wr.alloc (.cells #[.int .i64 t, .int .i64 G, .int .u64 v] 50)).drewN nq = V at *
      obtain ⟨a0, a1, a2, a3, _, _, _, _, _⟩ := b2.later HXQ.out
      obtain ⟨y0, y1, y2, ltY⟩ := b3.out
      obtain ⟨l0, l1, l2, _, _, _, ltL⟩ := HBQ.out
      cases hbh : behindC ⟨lt, lg, lv⟩ ⟨t, G, v⟩
      · rw [hbh] at HBH
        have HBD := Lib.hid (HBP.out (show (0 : Int) ≤ t by omega) hbh)
        obtain rfl := HBD.out
        have HBH := Lib.hid HBH
        go_wp2_with fail
        refine (HBH.out _).mono ?_
        rintro e V2 ⟨rfl, hbl⟩
        have HXV := Lib.hid (HXQ.out.trans (hbl.mono HXQ.out.size))
        have HNV := Lib.hid (HNQ.out.later hbl)
        have HBV := Lib.hid (HBQ.out.later hbl)
        obtain ⟨c0, c1, c2, ltC⟩ := b3.out.later hbl
        clear hbl a0 a1 a2 a3 y0 y1 y2 ltY l0 l1 l2 ltL
        obtain ⟨a0, a1, a2, a3, _, _, _, _, _⟩ := b2.later HXV.out
        go_wp2_with fail
        go_ret
        exact ⟨rfl, HW2.out.trans (HXV.out.mono HW2.out.size)⟩
      rw [hbh] at HBH
      have HBH := Lib.hid HBH
      have HGO2 := Lib.hid (HGO1.out hbh)
      clear hbh HBP HGO1
      rcases K with _ | u
      · have HGO3 := Lib.hid (HGO2.out (fun h => by (try simp only at h); rw [HK.out] at h; cases h))
        by_cases z : t = 0
        · have z0 : (t == 0) = true := by rw [z]; rfl
          have z1 : decide (t = 0) = true := decide_eq_true z
          have HZ := Lib.hid z1
          clear z z1
          by_cases kn : k < xn.length
          · have kn0 : decide (k < xn.length) = true := decide_eq_true kn
            have kn1 : (k : Int) < (xn.length : Int) := by omega
            have HKN := Lib.hid kn0
            have HNX1 := Lib.hid (HNX.out (HGO3.out (by (try simp only); rw [HTL.out, HZ.out, HKN.out]; rfl)))
            go_wp2_with fail
            refine (HBH.out _).mono ?_
            rintro e V2 ⟨rfl, hbl⟩
            have HXV := Lib.hid (HXQ.out.trans (hbl.mono HXQ.out.size))
            have HNV := Lib.hid (HNQ.out.later hbl)
            have HBV := Lib.hid (HBQ.out.later hbl)
            obtain ⟨c0, c1, c2, ltC⟩ := b3.out.later hbl
            clear hbl a0 a1 a2 a3 y0 y1 y2 ltY l0 l1 l2 ltL
            obtain ⟨a0, a1, a2, a3, _, _, _, _, _⟩ := b2.later HXV.out
            obtain ⟨w2, hr2, hn2, hg2⟩ := (show Now V2.drew W2.heap.size k (told (xc.take k)) from HNV.out.later (Below.refl _ _).drew).put (by omega) (g := (G : Int)) (by omega) hv (f' := told (xc.take (k + 1))) HTS.out
            have HX3 := Lib.hid (HXV.out.drew.grown hg2 HXV.out.size (fun j hj => by cases hj; exact Nat.le_refl _))
            have hb3 := (show BoxW V2.drew (W2.heap.size + 1) _ _ _ from HBV.out.drewN 1).grown hg2 (by omega)
            have HB4 := Lib.hid (hb3.set (.int .i64 t) (.int .i64 G) (.int .u64 v))
            have HN4 := Lib.hid (((hn2.setCell (a := ⟨W2.heap.size + 1, 0, none⟩) (by simp) (.int .i64 t)).setCell (a := ⟨W2.heap.size + 1, 1, none⟩) (by simp) (.int .i64 G)).setCell (a := ⟨W2.heap.size + 1, 2, none⟩) (by simp) (.int .u64 v))
            have HX4 := Lib.hid (((HX3.out.setCell (p := ⟨W2.heap.size + 1, 0, none⟩) (by simp) (.int .i64 t)).setCell (p := ⟨W2.heap.size + 1, 1, none⟩) (by simp) (.int .i64 G)).setCell (p := ⟨W2.heap.size + 1, 2, none⟩) (by simp) (.int .u64 v))
            obtain ⟨l0, l1, l2, f0, f1, f2, ltL⟩ := hb3
            have c0' := (World.cell?_of_block (w := V2.drew) (a := ⟨wr.heap.size, 0, none⟩) (hg2.block wr.heap.size ltC (by have := HN.out.lt; simp; omega))).trans c0
            have c1' := (World.cell?_of_block (w := V2.drew) (a := ⟨wr.heap.size, 1, none⟩) (hg2.block wr.heap.size ltC (by have := HN.out.lt; simp; omega))).trans c1
            have c2' := (World.cell?_of_block (w := V2.drew) (a := ⟨wr.heap.size, 2, none⟩) (hg2.block wr.heap.size ltC (by have := HN.out.lt; simp; omega))).trans c2
            clear hg2 hn2
            go_wp2_with fail
            go_region
            go_wp2_with fail
            go_roundw
            case rel => exact ⟨k + 1, by omega, by go_num, HX4, HN4, by rw [HLC.out]; exact HB4, HNX1⟩
            case measure => simp [intOf]; omega
          have kn0 : decide (k < xn.length) = false := decide_eq_false kn
          have kn1 : decide ((k : Int) < (xn.length : Int)) = false := decide_eq_false (by omega)
          have HKN := Lib.hid kn0
          have HBD := Lib.hid (HBZ.out (by (try simp only); rw [HTL.out, HZ.out, HKN.out]; rfl))
          obtain rfl := HBD.out
          go_wp2_with fail
          refine (HBH.out _).mono ?_
          rintro e V2 ⟨rfl, hbl⟩
          have HXV := Lib.hid (HXQ.out.trans (hbl.mono HXQ.out.size))
          have HNV := Lib.hid (HNQ.out.later hbl)
          have HBV := Lib.hid (HBQ.out.later hbl)
          obtain ⟨c0, c1, c2, ltC⟩ := b3.out.later hbl
          clear hbl a0 a1 a2 a3 y0 y1 y2 ltY l0 l1 l2 ltL
          obtain ⟨a0, a1, a2, a3, _, _, _, _, _⟩ := b2.later HXV.out
          go_wp2_with fail
          go_ret
          exact ⟨rfl, HW2.out.trans (HXV.out.mono HW2.out.size)⟩
        have z0 : (t == 0) = false := by simpa using z
        have z1 : decide (t = 0) = false := decide_eq_false z
        have HZ := Lib.hid z1
        by_cases kn : k < xn.length
        · have kn0 : decide (k < xn.length) = true := decide_eq_true kn
          have kn1 : (k : Int) < (xn.length : Int) := by omega
          have HKN := Lib.hid kn0
          have HBD := Lib.hid (HBZ.out (by (try simp only); rw [HTL.out, HZ.out, HKN.out]; rfl))
          obtain rfl := HBD.out
          go_wp2_with fail
          refine (HBH.out _).mono ?_
          rintro e V2 ⟨rfl, hbl⟩
          have HXV := Lib.hid (HXQ.out.trans (hbl.mono HXQ.out.size))
          have HNV := Lib.hid (HNQ.out.later hbl)
          have HBV := Lib.hid (HBQ.out.later hbl)
          obtain ⟨c0, c1, c2, ltC⟩ := b3.out.later hbl
          clear hbl a0 a1 a2 a3 y0 y1 y2 ltY l0 l1 l2 ltL
          obtain ⟨a0, a1, a2, a3, _, _, _, _, _⟩ := b2.later HXV.out
          go_wp2_with fail
          go_ret
          exact ⟨rfl, HW2.out.trans (HXV.out.mono HW2.out.size)⟩
        have kn0 : decide (k < xn.length) = false := decide_eq_false kn
        have kn1 : decide ((k : Int) < (xn.length : Int)) = false := decide_eq_false (by omega)
        have HKN := Lib.hid kn0
        have HNX1 := Lib.hid (HNX.out (HGO3.out (by (try simp only); rw [HTL.out, HZ.out, HKN.out]; rfl)))
        go_wp2_with fail
        refine (HBH.out _).mono ?_
        rintro e V2 ⟨rfl, hbl⟩
        have HXV := Lib.hid (HXQ.out.trans (hbl.mono HXQ.out.size))
        have HNV := Lib.hid (HNQ.out.later hbl)
        have HBV := Lib.hid (HBQ.out.later hbl)
        obtain ⟨c0, c1, c2, ltC⟩ := b3.out.later hbl
        clear hbl a0 a1 a2 a3 y0 y1 y2 ltY l0 l1 l2 ltL
        obtain ⟨a0, a1, a2, a3, _, _, _, _, _⟩ := b2.later HXV.out
        obtain ⟨w2, hr2, hn2, hg2⟩ := (show Now V2.drew W2.heap.size k (told (xc.take k)) from HNV.out.later (Below.refl _ _).drew).put (by omega) (g := (G : Int)) (by omega) hv (f' := told (xc.take (k + 1))) HTS.out
        have HX3 := Lib.hid (HXV.out.drew.grown hg2 HXV.out.size (fun j hj => by cases hj; exact Nat.le_refl _))
        have hb3 := (show BoxW V2.drew (W2.heap.size + 1) _ _ _ from HBV.out.drewN 1).grown hg2 (by omega)
        have HB4 := Lib.hid (hb3.set (.int .i64 t) (.int .i64 G) (.int .u64 v))
        have HN4 := Lib.hid (((hn2.setCell (a := ⟨W2.heap.size + 1, 0, none⟩) (by simp) (.int .i64 t)).setCell (a := ⟨W2.heap.size + 1, 1, none⟩) (by simp) (.int .i64 G)).setCell (a := ⟨W2.heap.size + 1, 2, none⟩) (by simp) (.int .u64 v))
        have HX4 := Lib.hid (((HX3.out.setCell (p := ⟨W2.heap.size + 1, 0, none⟩) (by simp) (.int .i64 t)).setCell (p := ⟨W2.heap.size + 1, 1, none⟩) (by simp) (.int .i64 G)).setCell (p := ⟨W2.heap.size + 1, 2, none⟩) (by simp) (.int .u64 v))
        obtain ⟨l0, l1, l2, f0, f1, f2, ltL⟩ := hb3
        have c0' := (World.cell?_of_block (w := V2.drew) (a := ⟨wr.heap.size, 0, none⟩) (hg2.block wr.heap.size ltC (by have := HN.out.lt; simp; omega))).trans c0
        have c1' := (World.cell?_of_block (w := V2.drew) (a := ⟨wr.heap.size, 1, none⟩) (hg2.block wr.heap.size ltC (by have := HN.out.lt; simp; omega))).trans c1
        have c2' := (World.cell?_of_block (w := V2.drew) (a := ⟨wr.heap.size, 2, none⟩) (hg2.block wr.heap.size ltC (by have := HN.out.lt; simp; omega))).trans c2
        clear hg2 hn2
        go_wp2_with fail
        go_region
        go_wp2_with fail
        go_roundw
        case rel => exact ⟨k + 1, by omega, by go_num, HX4, HN4, by rw [HLC.out]; exact HB4, HNX1⟩
        case measure => simp [intOf]; omega
      by_cases q6 : u = v
      · subst q6
        have HBD := Lib.hid (HBS.out HK.out)
        obtain rfl := HBD.out
        go_wp2_with fail
        refine (HBH.out _).mono ?_
        rintro e V2 ⟨rfl, hbl⟩
        have HXV := Lib.hid (HXQ.out.trans (hbl.mono HXQ.out.size))
        have HNV := Lib.hid (HNQ.out.later hbl)
        have HBV := Lib.hid (HBQ.out.later hbl)
        obtain ⟨c0, c1, c2, ltC⟩ := b3.out.later hbl
        clear hbl a0 a1 a2 a3 y0 y1 y2 ltY l0 l1 l2 ltL
        obtain ⟨a0, a1, a2, a3, _, _, _, _, _⟩ := b2.later HXV.out
        go_wp2_with fail
        go_ret
        exact ⟨rfl, HW2.out.trans (HXV.out.mono HW2.out.size)⟩
      have q6a : ((u : Int) == (v : Int)) = false := by simpa using fun h : (u : Int) = (v : Int) => q6 (by omega)
      have q6b : decide (u = v) = false := decide_eq_false q6
      have q6c : ¬ (u : Int) = (v : Int) := by omega
      have HGO3 := Lib.hid (HGO2.out (fun h => by (try simp only at h); rw [HK.out] at h; exact q6 (Option.some.inj h)))
      by_cases z : t = 0
      · have z0 : (t == 0) = true := by rw [z]; rfl
        have z1 : decide (t = 0) = true := decide_eq_true z
        have HZ := Lib.hid z1
        clear z z1
        by_cases kn : k < xn.length
        · have kn0 : decide (k < xn.length) = true := decide_eq_true kn
          have kn1 : (k : Int) < (xn.length : Int) := by omega
          have HKN := Lib.hid kn0
          have HNX1 := Lib.hid (HNX.out (HGO3.out (by (try simp only); rw [HTL.out, HZ.out, HKN.out]; rfl)))
          go_wp2_with fail
          refine (HBH.out _).mono ?_
          rintro e V2 ⟨rfl, hbl⟩
          have HXV := Lib.hid (HXQ.out.trans (hbl.mono HXQ.out.size))
          have HNV := Lib.hid (HNQ.out.later hbl)
          have HBV := Lib.hid (HBQ.out.later hbl)
          obtain ⟨c0, c1, c2, ltC⟩ := b3.out.later hbl
          clear hbl a0 a1 a2 a3 y0 y1 y2 ltY l0 l1 l2 ltL
          obtain ⟨a0, a1, a2, a3, _, _, _, _, _⟩ := b2.later HXV.out
          obtain ⟨w2, hr2, hn2, hg2⟩ := (show Now V2.drew W2.heap.size k (told (xc.take k)) from HNV.out.later (Below.refl _ _).drew).put (by omega) (g := (G : Int)) (by omega) hv (f' := told (xc.take (k + 1))) HTS.out
          have HX3 := Lib.hid (HXV.out.drew.grown hg2 HXV.out.size (fun j hj => by cases hj; exact Nat.le_refl _))
          have hb3 := (show BoxW V2.drew (W2.heap.size + 1) _ _ _ from HBV.out.drewN 1).grown hg2 (by omega)
          have HB4 := Lib.hid (hb3.set (.int .i64 t) (.int .i64 G) (.int .u64 v))
          have HN4 := Lib.hid (((hn2.setCell (a := ⟨W2.heap.size + 1, 0, none⟩) (by simp) (.int .i64 t)).setCell (a := ⟨W2.heap.size + 1, 1, none⟩) (by simp) (.int .i64 G)).setCell (a := ⟨W2.heap.size + 1, 2, none⟩) (by simp) (.int .u64 v))
          have HX4 := Lib.hid (((HX3.out.setCell (p := ⟨W2.heap.size + 1, 0, none⟩) (by simp) (.int .i64 t)).setCell (p := ⟨W2.heap.size + 1, 1, none⟩) (by simp) (.int .i64 G)).setCell (p := ⟨W2.heap.size + 1, 2, none⟩) (by simp) (.int .u64 v))
          obtain ⟨l0, l1, l2, f0, f1, f2, ltL⟩ := hb3
          have c0' := (World.cell?_of_block (w := V2.drew) (a := ⟨wr.heap.size, 0, none⟩) (hg2.block wr.heap.size ltC (by have := HN.out.lt; simp; omega))).trans c0
          have c1' := (World.cell?_of_block (w := V2.drew) (a := ⟨wr.heap.size, 1, none⟩) (hg2.block wr.heap.size ltC (by have := HN.out.lt; simp; omega))).trans c1
          have c2' := (World.cell?_of_block (w := V2.drew) (a := ⟨wr.heap.size, 2, none⟩) (hg2.block wr.heap.size ltC (by have := HN.out.lt; simp; omega))).trans c2
          clear hg2 hn2
          go_wp2_with fail
          go_region
          go_wp2_with fail
          go_roundw
          case rel => exact ⟨k + 1, by omega, by go_num, HX4, HN4, by rw [HLC.out]; exact HB4, HNX1⟩
          case measure => simp [intOf]; omega
        have kn0 : decide (k < xn.length) = false := decide_eq_false kn
        have kn1 : decide ((k : Int) < (xn.length : Int)) = false := decide_eq_false (by omega)
        have HKN := Lib.hid kn0
        have HBD := Lib.hid (HBZ.out (by (try simp only); rw [HTL.out, HZ.out, HKN.out]; rfl))
        obtain rfl := HBD.out
        go_wp2_with fail
        refine (HBH.out _).mono ?_
        rintro e V2 ⟨rfl, hbl⟩
        have HXV := Lib.hid (HXQ.out.trans (hbl.mono HXQ.out.size))
        have HNV := Lib.hid (HNQ.out.later hbl)
        have HBV := Lib.hid (HBQ.out.later hbl)
        obtain ⟨c0, c1, c2, ltC⟩ := b3.out.later hbl
        clear hbl a0 a1 a2 a3 y0 y1 y2 ltY l0 l1 l2 ltL
        obtain ⟨a0, a1, a2, a3, _, _, _, _, _⟩ := b2.later HXV.out
        go_wp2_with fail
        go_ret
        exact ⟨rfl, HW2.out.trans (HXV.out.mono HW2.out.size)⟩
      have z0 : (t == 0) = false := by simpa using z
      have z1 : decide (t = 0) = false := decide_eq_false z
      have HZ := Lib.hid z1
      by_cases kn : k < xn.length
      · have kn0 : decide (k < xn.length) = true := decide_eq_true kn
        have kn1 : (k : Int) < (xn.length : Int) := by omega
        have HKN := Lib.hid kn0
        have HBD := Lib.hid (HBZ.out (by (try simp only); rw [HTL.out, HZ.out, HKN.out]; rfl))
        obtain rfl := HBD.out
        go_wp2_with fail
        refine (HBH.out _).mono ?_
        rintro e V2 ⟨rfl, hbl⟩
        have HXV := Lib.hid (HXQ.out.trans (hbl.mono HXQ.out.size))
        have HNV := Lib.hid (HNQ.out.later hbl)
        have HBV := Lib.hid (HBQ.out.later hbl)
        obtain ⟨c0, c1, c2, ltC⟩ := b3.out.later hbl
        clear hbl a0 a1 a2 a3 y0 y1 y2 ltY l0 l1 l2 ltL
        obtain ⟨a0, a1, a2, a3, _, _, _, _, _⟩ := b2.later HXV.out
        go_wp2_with fail
        go_ret
        exact ⟨rfl, HW2.out.trans (HXV.out.mono HW2.out.size)⟩
      have kn0 : decide (k < xn.length) = false := decide_eq_false kn
      have kn1 : decide ((k : Int) < (xn.length : Int)) = false := decide_eq_false (by omega)
      have HKN := Lib.hid kn0
      have HNX1 := Lib.hid (HNX.out (HGO3.out (by (try simp only); rw [HTL.out, HZ.out, HKN.out]; rfl)))
      go_wp2_with fail
      refine (HBH.out _).mono ?_
      rintro e V2 ⟨rfl, hbl⟩
      have HXV := Lib.hid (HXQ.out.trans (hbl.mono HXQ.out.size))
      have HNV := Lib.hid (HNQ.out.later hbl)
      have HBV := Lib.hid (HBQ.out.later hbl)
      obtain ⟨c0, c1, c2, ltC⟩ := b3.out.later hbl
      clear hbl a0 a1 a2 a3 y0 y1 y2 ltY l0 l1 l2 ltL
      obtain ⟨a0, a1, a2, a3, _, _, _, _, _⟩ := b2.later HXV.out
      obtain ⟨w2, hr2, hn2, hg2⟩ := (show Now V2.drew W2.heap.size k (told (xc.take k)) from HNV.out.later (Below.refl _ _).drew).put (by omega) (g := (G : Int)) (by omega) hv (f' := told (xc.take (k + 1))) HTS.out
      have HX3 := Lib.hid (HXV.out.drew.grown hg2 HXV.out.size (fun j hj => by cases hj; exact Nat.le_refl _))
      have hb3 := (show BoxW V2.drew (W2.heap.size + 1) _ _ _ from HBV.out.drewN 1).grown hg2 (by omega)
      have HB4 := Lib.hid (hb3.set (.int .i64 t) (.int .i64 G) (.int .u64 v))
      have HN4 := Lib.hid (((hn2.setCell (a := ⟨W2.heap.size + 1, 0, none⟩) (by simp) (.int .i64 t)).setCell (a := ⟨W2.heap.size + 1, 1, none⟩) (by simp) (.int .i64 G)).setCell (a := ⟨W2.heap.size + 1, 2, none⟩) (by simp) (.int .u64 v))
      have HX4 := Lib.hid (((HX3.out.setCell (p := ⟨W2.heap.size + 1, 0, none⟩) (by simp) (.int .i64 t)).setCell (p := ⟨W2.heap.size + 1, 1, none⟩) (by simp) (.int .i64 G)).setCell (p := ⟨W2.heap.size + 1, 2, none⟩) (by simp) (.int .u64 v))
      obtain ⟨l0, l1, l2, f0, f1, f2, ltL⟩ := hb3
      have c0' := (World.cell?_of_block (w := V2.drew) (a := ⟨wr.heap.size, 0, none⟩) (hg2.block wr.heap.size ltC (by have := HN.out.lt; simp; omega))).trans c0
      have c1' := (World.cell?_of_block (w := V2.drew) (a := ⟨wr.heap.size, 1, none⟩) (hg2.block wr.heap.size ltC (by have := HN.out.lt; simp; omega))).trans c1
      have c2' := (World.cell?_of_block (w := V2.drew) (a := ⟨wr.heap.size, 2, none⟩) (hg2.block wr.heap.size ltC (by have := HN.out.lt; simp; omega))).trans c2
      clear hg2 hn2
      go_wp2_with fail
      go_region
      go_wp2_with fail
      go_roundw
      case rel => exact ⟨k + 1, by omega, by go_num, HX4, HN4, by rw [HLC.out]; exact HB4, HNX1⟩
      case measure => simp [intOf]; omega
    · obtain rfl : k = xc.length := by omega
      obtain ⟨a0, a1, a2, a3, _, _, _, _, _⟩ := b2.later HX.out
      have HR0 := Lib.hid (HRG.out (okP_end (by omega) fun j hj => HE.out j hj hj))
      obtain rfl := HR0.out
      go_wp2_with fail
      go_ret
      exact ⟨rfl, HW2.out.trans (HX.out.mono HW2.out.size)⟩

    end Go.Proofs.YtephnfhjobkciaaGreatDoor

/- Bytes that the call owns. -/
namespace Go.Proofs.YtephnfhjobkciaaGreatDoor
open Go.RowKit Go.Proofs.Wav Go.Proofs.Scn Go.Flow Go.Sort
set_option linter.unusedVariables false
set_option linter.unusedSimpArgs false
set_option maxRecDepth 100000

theorem extract_bs (s : ByteArray) (a b : Nat) : s.extract a b = bs ((s.data.toList.take b).drop a) := by
  have : (s.extract a b).data.toList = (s.data.toList.take b).drop a := by simp [List.drop_take]
  rw [← this, bs_list]
/-- a slice of bytes that can be read -/
def Bytes (w : World) (v : Value) (s : ByteArray) : Prop :=
  (s.size = 0 ∧ ∃ p cap, v = .slice p 0 cap) ∨
  ∃ b off cap, v = .slice (some ⟨b, off, none⟩) s.size cap ∧ b < w.heap.size ∧ ∀ k (h : k < s.size), w.cell? ⟨b, off + k, none⟩ = some (.int .u8 s[k].toNat)
theorem Bytes.later {w w' : World} {v : Value} {s : ByteArray} (h : Bytes w v s) (hb : Below w.heap.size w w') : Bytes w' v s := by
  rcases h with h | ⟨b, off, cap, hv, hlt, hc⟩
  · exact .inl h
  · exact .inr ⟨b, off, cap, hv, Nat.lt_of_lt_of_le hlt hb.size, fun k hk => (hb.cell (p := ⟨b, off + k, none⟩) hlt).trans (hc k hk)⟩

theorem strOfNums_bytes (s : ByteArray) : strOfNums (s.data.toList.map fun c => (c.toNat : Int)) = s := by
  unfold strOfNums
  rw [List.map_map]
  have : ((fun n : Int => UInt8.ofNat n.toNat) ∘ fun c : UInt8 => (c.toNat : Int)) = id := by
    funext c
    simp
  rw [this, List.map_id]

theorem str_run {w : World} {v : Value} {s : ByteArray} (h : Bytes w v s) : (convert 29 9 v).run Tryz.prog w = .ok (.string s) w := by
  rcases h with ⟨h0, p, cap, rfl⟩ | ⟨b, off, cap, rfl, hlt, hc⟩
  · rw [Go.Proofs.run_convert_bytes_zero (P := Tryz.prog) w 29 5 (by kernel_rfl) (by kernel_rfl) p cap 9 (by kernel_rfl)]
    have : s = ByteArray.empty := by
      apply ByteArray.ext
      have h1 : s.data.size = 0 := h0
      exact Array.eq_empty_of_size_eq_zero h1
    rw [this]
  · rw [run_convert_bytes_arg (P := Tryz.prog) w 29 5 (by kernel_rfl) (by kernel_rfl) b off s.size cap (s.data.toList.map fun c => (c.toNat : Int)) (by simp) (fun i hi => by
      rw [hc i hi]
      have h' : i < s.data.toList.length := hi
      simp [List.getD_eq_getElem?_getD, List.getElem?_eq_getElem h']
      rfl) 9 (by kernel_rfl), strOfNums_bytes]

def cellsB (l : List UInt8) : List Value := l.map fun c => .int .u8 c.toNat
theorem cellsB_length (l : List UInt8) : (cellsB l).length = l.length := by simp [cellsB]
/-- a slice of bytes that lies in blocks from B on -/
def OwnB (B : Nat) (w : World) (v : Value) (l : List UInt8) : Prop := w.ownsRow B 5 1 v l.length (cellsB l)
theorem OwnB.later {B : Nat} {w w' : World} {v : Value} {l : List UInt8} (h : OwnB B w v l) (hb : Below w.heap.size w w') : OwnB B w' v l := by
  refine ⟨h.1, ?_⟩
  rcases h.2 with h0 | ⟨g, cap, cur, hv, hB, hg, h1⟩
  · exact .inl h0
  · exact .inr ⟨g, cap, cur, hv, hB, (hb.block g (Array.getElem?_eq_some_iff.1 hg).1).trans hg, h1⟩
theorem OwnB.nil (B : Nat) (w : World) : OwnB B w (.slice none 0 0) [] := World.ownsRow_nil w B _ 1
theorem OwnB.bytes {B : Nat} {w : World} {v : Value} {l : List UInt8} (h : OwnB B w v l) : Bytes w v (bs l) := by
  rcases h.2 with ⟨rfl, h0⟩ | ⟨g, cap, cur, rfl, hB, hg, hn, hc, hs, ht⟩
  · exact .inl ⟨h0, _, _, rfl⟩
  · refine .inr ⟨g, 0, cap, rfl, (Array.getElem?_eq_some_iff.1 hg).1, fun k hk => ?_⟩
    have hk' : k < l.length := hk
    have : (cellsB l)[k]? = some (.int .u8 (l[k]).toNat) := by simp [cellsB, hk']
    rw [← ht, List.getElem?_take, if_pos (by omega)] at this
    rw [Nat.zero_add, cell_of_row w g k cur _ (0, 0) hg]
    show cur[k]? = some (.int .u8 (l[k]).toNat)
    simpa using this
theorem conv_run (s : ByteArray) (w : World) : (convert 9 29 (.string s)).run Tryz.prog w = .ok (.slice (some ⟨w.heap.size, 0, none⟩) s.size (grownCap w s.size 0 5)) (Lib.bytesWorld w 5 s) :=
  Lib.run_convert_string_bytes (P := Tryz.prog) (u := .string) w 9 29 5 s (by kernel_rfl) (by kernel_rfl) (by kernel_rfl)

theorem byteInfo : (Tryz.prog.info? 5).map (fun i => (i.zero, i.size, i.bytes)) = some (some (.int .u8 0), 1, 1) := by kernel_rfl
theorem byteSlice : Tryz.prog.underlying 29 = some (.slice 5) := by kernel_rfl
theorem strKind : Tryz.prog.underlying 9 = some .string := by kernel_rfl
theorem conv_bytes (w : World) (s : ByteArray) (c : Nat) : Bytes (Lib.bytesWorld w 5 s) (.slice (some ⟨w.heap.size, 0, none⟩) s.size c) s := by
  refine .inr ⟨w.heap.size, 0, c, rfl, by rw [Lib.bytesWorld_size]; omega, fun k hk => ?_⟩
  rw [Nat.zero_add, Lib.bytesWorld_cell w 5 s k hk]
  have : s.data.toList.getD k 0 = s[k] := by
    have h' : k < s.data.toList.length := hk
    simp [List.getD_eq_getElem?_getD, List.getElem?_eq_getElem h']
    rfl
  rw [this]

/-- bytes that stand somewhere, or nil -/
def Src (w : World) (v : Value) (l : List UInt8) : Prop :=
  (v = .slice none 0 0 ∧ l = []) ∨ ∃ ad c, v = .slice (some ad) l.length c ∧ ∀ j u, (cellsB l)[j]? = some u → w.cell? (ad.add j) = some u
theorem cellsB_one (l : List UInt8) : ∀ u ∈ cellsB l, u.oneCell' = true := by
  intro u hu
  simp only [cellsB, List.mem_map] at hu
  obtain ⟨c, _, rfl⟩ := hu
  rfl
theorem Src.of_bytes {w : World} {v : Value} {s : ByteArray} (h : Bytes w v s) (hv : v = .slice none 0 0 ∨ ∃ ad l c, v = .slice (some ad) l c) : Src w v s.data.toList := by
  rcases h with ⟨h0, p, cap, rfl⟩ | ⟨b, off, cap, rfl, hlt, hc⟩
  · have hl : s.data.toList = [] := List.eq_nil_of_length_eq_zero h0
    rcases hv with hv | ⟨ad, l, c, hv⟩
    · exact .inl ⟨hv, hl⟩
    · refine .inr ⟨ad, c, by rw [hv, hl]; simp at hv ⊢; omega, fun j u hu => ?_⟩
      rw [hl] at hu
      simp [cellsB] at hu
  · refine .inr ⟨⟨b, off, none⟩, cap, rfl, fun j u hu => ?_⟩
    have hj : j < s.size := by
      rcases Nat.lt_or_ge j s.size with h | h
      · exact h
      · rw [List.getElem?_eq_none (by rw [cellsB_length]; exact h)] at hu; cases hu
    have : (⟨b, off, none⟩ : Addr).add j = ⟨b, off + j, none⟩ := by simp [Addr.add]
    rw [this, hc j hj]
    have hj' : j < s.data.toList.length := hj
    rw [cellsB, List.getElem?_map, List.getElem?_eq_getElem hj'] at hu
    exact hu
theorem Src.later {w w' : World} {v : Value} {s : ByteArray} (h : Bytes w v s) (hv : v = .slice none 0 0 ∨ ∃ ad l c, v = .slice (some ad) l c) (hb : Below w.heap.size w w') : Src w' v s.data.toList := Src.of_bytes (h.later hb) hv

/-- append(L, s...) -/
theorem wpList_append_src {w : World} {ops : Array Oper} {rest : List Oper} {o : Oper} {a : Act} {Q : Exit → Act → World → Prop} (hgd : o.guard = none) (s x : Operand)
    (ho : o.op = .call { callee := .builtin .append, args := #[s, x], argTypes := #[29, 29] })
    (base : Nat) (v : Value) (L l : List UInt8) (hs : a.eval s = v) (hown : OwnB base w v L) (y : Value) (hx : a.eval x = y) (hsrc : Src w y l)
    (h63 : L.length + l.length ≤ 140737488355328) (hbase : base ≤ w.heap.size)
    (h : ∀ v' w', OwnB base w' v' (L ++ l) → w.grownBy w' v.ownBlock → wpList Tryz.prog ops Q rest (a.put o.dst v') w') : wpList Tryz.prog ops Q (o :: rest) a w := by
  obtain ⟨i0, hi, hz0, hz1, hz2⟩ := info_parts byteInfo
  rcases hsrc with ⟨rfl, rfl⟩ | ⟨ad, c, rfl, hc⟩
  · refine wpList_append_own_none hgd s x 29 ho base 5 i0 1 byteSlice hi v L.length (cellsB L) hs hown hx ?_
    refine h v w (by rw [List.append_nil]; exact hown) ?_
    exact ⟨rfl, rfl, rfl, Nat.le_refl _, fun k _ _ => rfl⟩
  · refine wpList_append_own w hgd s x 29 ho base 5 i0 (.int .u8 0) 1 1 byteSlice hi hz0 hz1 hz2 rfl (by decide) v L.length (cellsB L) hs hown ad l.length c (cellsB l) hx (by rw [cellsB_length]; omega) hc (cellsB_one l) (by unfold maxLen; omega) (by omega) hbase ?_
    intro v' w' h1 h2 _
    refine h v' w' ?_ h2
    unfold OwnB
    rw [List.length_append, show cellsB (L ++ l) = cellsB L ++ cellsB l from List.map_append]
    exact h1

theorem own_below {W w w' : World} {v : Value} {L : List UInt8} (ho : OwnB W.heap.size w v L) (hb : Below W.heap.size W w) (hg : w.grownBy w' v.ownBlock) : Below W.heap.size W w' :=
  Below.grown hb hg hb.size fun k hk => (World.ownsRow.lt ho k hk).1

theorem own_form {B : Nat} {w : World} {v : Value} {L : List UInt8} (h : OwnB B w v L) : ∃ q c, v = .slice q L.length c := by
  rcases h.2 with ⟨h1, h0⟩ | ⟨g, cap, cur, h1, _⟩
  · exact ⟨none, 0, by rw [h1, h0]⟩
  · exact ⟨_, _, h1⟩
theorem src_one (w : World) (c : UInt8) (x : Int) (hx : (c.toNat : Int) = x) : Src (w.alloc (.cells #[.int .u8 x] 5)) (.slice (some ⟨w.heap.size, 0, none⟩) 1 1) [c] := by
  refine .inr ⟨⟨w.heap.size, 0, none⟩, 1, rfl, fun j u hu => ?_⟩
  rcases j with _ | j
  · simp [cellsB] at hu
    subst hu
    simp [Addr.add, World.cell?_alloc_new, hx]
  · simp [cellsB] at hu
theorem src_conv (w : World) (l : List UInt8) (c : Nat) : Src (Lib.bytesWorld w 5 (bs l)) (.slice (some ⟨w.heap.size, 0, none⟩) l.length c) l := by
  have := Src.of_bytes (conv_bytes w (bs l) c) (.inr ⟨_, _, _, rfl⟩)
  rw [list_bs] at this
  exact this

end Go.Proofs.YtephnfhjobkciaaGreatDoor

/- A number's figures, a value's binary figures: the reference. -/
namespace Go.Proofs.YtephnfhjobkciaaGreatDoor
open Go.RowKit Go.Proofs.Wav Go.Proofs.Scn Go.Flow Go.Sort
set_option linter.unusedVariables false
set_option linter.unusedSimpArgs false
set_option maxRecDepth 100000

def decU : ByteArray := ⟨#[48, 49, 50, 51, 52, 53, 54, 55, 56, 57]⟩
theorem ext_fig (d : Nat) (hd : d < 10) : decU.extract d (d + 1) = bs [UInt8.ofNat (48 + d)] := by
  rw [extract_bs]
  congr 1
  exact (show ∀ d : Fin 10, (decU.data.toList.take (d.val + 1)).drop d.val = [UInt8.ofNat (48 + d.val)] from by decide) ⟨d, hd⟩
theorem dec_step (u : Nat) (h : 10 ≤ u) : dec u = dec (u / 10) ++ [UInt8.ofNat (48 + u % 10)] := by
  unfold dec
  rw [digL_ge (by omega), if_pos (Nat.mod_lt _ (by omega))]
theorem dec_small (u : Nat) (h : u < 10) : dec u = [UInt8.ofNat (48 + u)] := by
  unfold dec
  rw [digL_lt (.inl h), if_pos h]
theorem pow_div (u j : Nat) (h : u < 10 ^ (j + 1)) : u / 10 < 10 ^ j := by
  rw [Nat.pow_succ] at h
  omega

set_option maxHeartbeats 4000000 in
theorem rdigits_any (n : Nat) (hn : n < 9223372036854775808) (W : World) :
    Calls Tryz.prog 36 #[.int .i64 n] W fun e W' => e = .returned (.string (bs (dec n))) ∧ W = W' := by
  have hsl := fun d hd => ext_fig d hd
  unfold decU at hsl
  have HS := Lib.hid hsl
  clear hsl
  generalize hR : bs (dec n) = R
  have HR := Lib.hid (show bs (dec n ++ []) = R by rw [List.append_nil]; exact hR)
  have hn20 : n < 10 ^ 20 := Nat.lt_trans hn (by decide)
  have HN := Lib.hid hn20
  clear hn20
  go_enter Tryz.func36, Tryz.ntmps36
  go_wp2
  go_loopw [0, 3, 4] (fun x y z wr => ∃ (u k : Nat) (l : List UInt8), x = .int .i64 u ∧ y = .string (bs l) ∧ z = .int .i64 k ∧ u < 9223372036854775808 ∧ k ≤ 19 ∧ l.length = k ∧ Hid (u < 10 ^ (20 - k)) ∧ Hid (bs (dec u ++ l) = R) ∧ wr = W) (fun x _ _ _ => (intOf x).toNat)
  case atStart => exact ⟨n, 0, [], rfl, rfl, rfl, hn, by omega, rfl, HN, HR, rfl⟩
  case round =>
    obtain ⟨u, k, l, rfl, rfl, rfl, hu, hk, hl, HU, HE, rfl⟩ := hrel
    obtain ⟨c, hc⟩ : ∃ c, UInt8.ofNat (48 + u % 10) = c := ⟨_, rfl⟩
    have he := HS.out (u % 10) (Nat.mod_lt _ (by omega))
    rw [hc] at he
    have HC := Lib.hid hc
    clear hc
    have hcat : bs [c] ++ bs l = bs (c :: l) := by
      apply ByteArray.ext
      simp [bs]
    have hlt : ¬ 9223372036854775807 < (bs [c]).size + (bs l).size := by
      rw [size_bs, size_bs]
      simp
      omega
    by_cases h10 : u < 10
    · have hfin : bs (c :: l) = R := by
        rw [← HE.out, dec_small u h10, ← HC.out, Nat.mod_eq_of_lt h10]
        rfl
      have HF := Lib.hid hfin
      clear hfin
      have hz : (u : Int) / 10 = 0 := by omega
      go_wp2_with fail
      go_ret
      exact ⟨by rw [← HF.out]; rfl, rfl⟩
    · have hz : ¬ (u : Int) / 10 = 0 := by omega
      have HG := Lib.hid (show u / 10 < 10 ^ (20 - (k + 1)) from pow_div u _ (by rw [show 20 - (k + 1) + 1 = 20 - k by omega]; exact HU.out))
      have HE2 := Lib.hid (show bs (dec (u / 10) ++ c :: l) = R by rw [← HE.out, dec_step u (by omega), HC.out, List.append_assoc]; rfl)
      have hk9 : k + 1 ≤ 19 := by
        rcases Nat.lt_or_ge k 19 with h | h
        · omega
        · obtain rfl : k = 19 := by omega
          have := HU.out
          omega
      go_wp2_with fail
      go_roundw
      case rel => exact ⟨u / 10, k + 1, c :: l, by go_num, rfl, by go_num, by omega, hk9, by simp; omega, HG, HE2, trivial⟩
      case measure => simp [intOf]; omega

theorem binL_step (w m v : Nat) (h : m < w) : binL (w - m) (v / 2 ^ m) = binL (w - (m + 1)) (v / 2 ^ (m + 1)) ++ [UInt8.ofNat (48 + v / 2 ^ m % 2)] := by
  rw [show w - m = (w - (m + 1)) + 1 by omega, binL, Nat.div_div_eq_div_mul, ← Nat.pow_succ]

set_option maxHeartbeats 4000000 in
theorem rbinary_any (w v : Nat) (hw : w ≤ 64) (hv : v < 18446744073709551616) (W : World) :
    Calls Tryz.prog 37 #[.int .i64 w, .int .u64 v] W fun e W' => (∃ x, e = .returned x ∧ OwnB W.heap.size W' x (binL w v)) ∧ Below W.heap.size W W' := by
  have HB0 := Lib.hid ((Below.refl W.heap.size W).alloc (Nat.le_refl _) (.cells #[] 5))
  have HO0 : Hid (OwnB W.heap.size (W.alloc (.cells #[] 5)) (.slice (some ⟨W.heap.size, 0, none⟩) 0 0) []) := Lib.hid (World.ownsRow_made W #[] 0 (Nat.le_refl _) (by decide) rfl)
  go_enter Tryz.func37, Tryz.ntmps37
  go_wp2
  go_loopw [5, 6] (fun x y wr => ∃ (m : Nat) (q : Option Addr) (cp : Nat), x = .slice q (w - m) cp ∧ y = .int .i64 ((m : Int) - 1) ∧ m ≤ w ∧ Hid (OwnB W.heap.size wr (.slice q (w - m) cp) (binL (w - m) (v / 2 ^ m))) ∧ Hid (Below W.heap.size W wr)) (fun _ y _ => (intOf y + 1).toNat)
  case atStart => exact ⟨w, some ⟨W.heap.size, 0, none⟩, 0, by simp, rfl, Nat.le_refl _, by simpa [binL] using HO0, HB0⟩
  case round =>
    obtain ⟨m, q, cp, rfl, rfl, hm, HO, HX⟩ := hrel
    rcases m with _ | m
    · have hz : ((0 : Nat) : Int) - 1 = -1 := by omega
      have HO' := Lib.hid (show OwnB W.heap.size wr (.slice q (w - 0) cp) (binL w v) by simpa using HO.out)
      go_wp2
      go_ret
      exact ⟨⟨_, rfl, by simpa using HO'.out⟩, HX.out⟩
    · have hi : (((m + 1 : Nat) : Int) - 1) = (m : Int) := by omega
      rw [hi]
      have hbit : bits BinOp.and IntKind.u64 ((v : Int) / 2 ^ m) 1 = ((v / 2 ^ m % 2 : Nat) : Int) := by
        have h1 : v / 2 ^ m ≤ v := Nat.div_le_self _ _
        have h2 := bits_and_u64_nat (v / 2 ^ m) 1 (by omega) (by omega)
        rw [Nat.and_one_is_mod] at h2
        rw [← h2, Int.natCast_ediv]
        simp
      have HST := Lib.hid (binL_step w m v (by omega))
      have h2 : v / 2 ^ m % 2 < 2 := Nat.mod_lt _ (by omega)
      generalize v / 2 ^ m % 2 = b at hbit HST h2
      have h48 : (48 + (b : Int)) % 256 = 48 + b := by omega
      have hb8 : (b : Int) % 256 = b := by omega
      have hlen : (binL (w - (m + 1)) (v / 2 ^ (m + 1))).length = w - (m + 1) := binL_len _ _
      obtain ⟨c, hc⟩ : ∃ c, UInt8.ofNat (48 + b) = c := ⟨_, rfl⟩
      have hcx : (c.toNat : Int) = 48 + b := by
        rw [← hc, UInt8.toNat_ofNat']
        omega
      rw [hc] at HST
      have HLen := Lib.hid hlen
      have HCX := Lib.hid hcx
      have HSrc := Lib.hid (src_one wr c _ hcx)
      have HO1 := Lib.hid (OwnB.later HO.out ((Below.refl _ _).alloc (Nat.le_refl _) (.cells #[.int .u8 (48 + (b : Int))] 5)))
      have HX1 := Lib.hid (HX.out.alloc HX.out.size (.cells #[.int .u8 (48 + (b : Int))] 5))
      have HM : w - (m + 1) + 1 = w - m := by omega
      have HMM := Lib.hid HM
      clear hlen hc hcx HM
      go_wp2_with (at_builtin; refine wpList_append_src rfl _ _ rfl W.heap.size _ (binL (w - (m + 1)) (v / 2 ^ (m + 1))) [c] rfl HO1.out _ rfl HSrc.out (by rw [HLen.out]; simp; omega) HX1.out.size ?_; intro u3 w3 hown3 hgr3; have X3 := Lib.hid (own_below HO1.out HX1.out hgr3); rw [← HST.out] at hown3; obtain ⟨q3, cp3, hu3⟩ := own_form hown3; rw [binL_len] at hu3; subst hu3; have own3 := Lib.hid hown3; clear hown3 hgr3)
      go_roundw
      case rel => exact ⟨m, q3, cp3, rfl, rfl, by omega, own3, X3⟩
      case measure => simp [intOf]

end Go.Proofs.YtephnfhjobkciaaGreatDoor

/- A number, a line's parts, a value's figures: the reference's readings. -/
namespace Go.Proofs.Wav
open Go.Proofs.Scn
set_option linter.unusedVariables false
set_option linter.unusedSimpArgs false
theorem numR_bad {s : Ln} {k : Nat} (hk : k < s.length) (h : isDigit s[k] = false) : numR s = -1 := by
  unfold numR
  rw [if_neg]
  rintro ⟨_, _, h3⟩
  rw [List.all_eq_true] at h3
  rw [h3 _ (List.getElem_mem hk)] at h
  cases h
theorem numR_empty : numR [] = -1 := by
  unfold numR
  rw [if_neg (by simp)]
theorem numR_long {s : Ln} (h : 10 < s.length) : numR s = -1 := by
  unfold numR
  rw [if_neg (by omega)]
theorem numR_all {s : Ln} (h0 : s ≠ []) (h : s.length ≤ 10) (ha : s.all isDigit = true) : numR s = numV 10 s := by
  unfold numR
  rw [if_pos ⟨h0, h, ha⟩]
theorem fig_dig {c : UInt8} (h1 : 48 ≤ c.toNat) (h2 : c.toNat ≤ 57) : isDigit c = true ∧ figV c = c.toNat - 48 := by
  have : isDigit c = true := by unfold isDigit; rw [decide_eq_true h1, decide_eq_true h2]; rfl
  refine ⟨this, ?_⟩
  unfold figV
  rw [if_pos this]
theorem num_take {s : Ln} {k : Nat} (hk : k < s.length) : numV 10 (s.take (k + 1)) = numV 10 (s.take k) * 10 + figV s[k] := by
  rw [List.take_succ_eq_append_getElem hk, numV_append]
theorem all_take {s : Ln} {p : UInt8 → Bool} {k : Nat} (hk : k < s.length) (h : (s.take k).all p = true) (h1 : p s[k] = true) : (s.take (k + 1)).all p = true := by
  rw [List.take_succ_eq_append_getElem hk, List.all_append, h]
  simp [h1]
theorem cut_here {s : Ln} {k : Nat} (hk : k < s.length) (h : 32 ∉ s.take k) (hc : s[k] = 32) : splitR s = (s.take k, s.drop (k + 1)) := by
  have e : s = s.take k ++ 32 :: s.drop (k + 1) := by
    rw [← hc, ← List.drop_eq_getElem_cons hk, List.take_append_drop]
  unfold splitR
  rw [e, cutB_some h, ← e]
  rfl
theorem cut_none {s : Ln} (h : 32 ∉ s) : splitR s = (s, []) := by
  unfold splitR
  rw [cutB_none h]
  rfl
theorem no_take {s : Ln} {k : Nat} (hk : k < s.length) (h : 32 ∉ s.take k) (hc : s[k] ≠ 32) : 32 ∉ s.take (k + 1) := by
  rw [List.take_succ_eq_append_getElem hk]
  intro hm
  rcases List.mem_append.1 hm with h1 | h1
  · exact h h1
  · rw [List.mem_singleton] at h1
    exact hc h1.symm
def twoB (c : UInt8) : Bool := decide (c = 48 ∨ c = 49)
theorem bin_bad {s : Ln} {k : Nat} (hk : k < s.length) (h : twoB s[k] = false) : bin2R s = (0, false) := by
  unfold bin2R
  rw [if_neg]
  rw [List.all_eq_true]
  intro h3
  have := h3 _ (List.getElem_mem hk)
  unfold twoB at h
  rw [h] at this
  cases this
theorem bin_all {s : Ln} (h : s.all twoB = true) : bin2R s = (numV 2 s % two64, decide (s ≠ [] ∧ s.length ≤ 64)) := by
  unfold bin2R
  unfold twoB at h
  rw [if_pos h]
theorem bin_take {s : Ln} {k : Nat} (hk : k < s.length) : numV 2 (s.take (k + 1)) = numV 2 (s.take k) * 2 + figV s[k] := by
  rw [List.take_succ_eq_append_getElem hk, numV_append]
end Go.Proofs.Wav
namespace Go.Proofs.YtephnfhjobkciaaGreatDoor
open Go.RowKit Go.Proofs.Wav Go.Proofs.Scn Go.Flow Go.Sort
set_option linter.unusedVariables false
set_option linter.unusedSimpArgs false
set_option maxRecDepth 100000

set_option maxHeartbeats 4000000 in
theorem rnumber_any (s : Ln) (hs : s.length ≤ 100000) (W : World) :
    Calls Tryz.prog 76 #[.string (bs s)] W fun e W' => e = .returned (.int .i64 (numR s)) ∧ W = W' := by
  have hsz : (bs s).size = s.length := rfl
  by_cases h0 : s = []
  · subst h0
    rw [numR_empty]
    have hb0 : (bs ([] : Ln)).toList = [] := toL []
    go_enter Tryz.func76, Tryz.ntmps76
    go_wp2
    go_ret
    exact ⟨rfl, rfl⟩
  have hb1 : ((bs s).toList == ([] : List UInt8)) = false := by rw [toL]; cases s with | nil => exact absurd rfl h0 | cons a b => rfl
  have hb2 : (bs s).toList.isEmpty = false := by rw [toL]; cases s with | nil => exact absurd rfl h0 | cons a b => rfl
  by_cases h10 : 10 < s.length
  · rw [numR_long h10]
    have h10' : (10 : Int) < (s.length : Int) := by omega
    go_enter Tryz.func76, Tryz.ntmps76
    go_wp2
    go_ret
    exact ⟨rfl, rfl⟩
  have h10' : ¬ (10 : Int) < (s.length : Int) := by omega
  generalize hR : numR s = R
  have HR := Lib.hid hR
  have H0 := Lib.hid h0
  clear hR h0
  go_enter Tryz.func76, Tryz.ntmps76
  go_wp2
  go_loopw [3, 4] (fun x i wr => ∃ k n : Nat, x = .int .i64 n ∧ k ≤ s.length ∧ i = .int .i64 k ∧ n ≤ 100000000000 ∧ Hid (n = numV 10 (s.take k)) ∧ Hid ((s.take k).all isDigit = true) ∧ Hid (n < 10 ^ k) ∧ wr = W) (fun _ i _ => s.length - (intOf i).toNat)
  case atStart => exact ⟨0, 0, rfl, Nat.zero_le _, rfl, by omega, Lib.hid rfl, Lib.hid (by simp), Lib.hid (by simp), rfl⟩
  case round =>
    obtain ⟨k, n, rfl, hk, rfl, hn, HV, HA, HP, rfl⟩ := hrel
    by_cases hks : k < s.length
    · have hkz : k < (bs s).size := hks
      have hbad := fun h => numR_bad hks h
      have hst := num_take hks
      have hal := fun h => all_take hks HA.out h
      have hg : (bs s)[k] = s[k] := rfl
      generalize s[k] = c at *
      by_cases h1 : c.toNat < 48
      · have h1' : (c.toNat : Int) < 48 := by omega
        have HN := Lib.hid (hbad (by unfold isDigit; rw [decide_eq_false (by omega)]; rfl))
        clear h1 hbad hst hal
        go_wp2_with fail
        go_ret
        exact ⟨by rw [← HR.out, HN.out]; rfl, rfl⟩
      · have h1' : ¬ (c.toNat : Int) < 48 := by omega
        by_cases h2 : 57 < c.toNat
        · have h2' : 57 < (c.toNat : Int) := by omega
          have HN := Lib.hid (hbad (by unfold isDigit; rw [decide_eq_false (show ¬ c.toNat ≤ 57 by omega), Bool.and_false]))
          clear h1 h2 hbad hst hal
          go_wp2_with fail
          go_ret
          exact ⟨by rw [← HR.out, HN.out]; rfl, rfl⟩
        · have h2' : ¬ 57 < (c.toNat : Int) := by omega
          obtain ⟨hd, hf⟩ := fig_dig (c := c) (by omega) (by omega)
          have hp : n * 10 + figV c < 10 ^ (k + 1) := by
            have := HP.out
            rw [Nat.pow_succ]
            omega
          have hpb : (10 : Nat) ^ (k + 1) ≤ 10 ^ 10 := Nat.pow_le_pow_right (by omega) (by omega)
          obtain ⟨f, hff⟩ : ∃ f, c.toNat = 48 + f := ⟨c.toNat - 48, by omega⟩
          have hfig : figV c = f := by omega
          rw [hfig] at hst hp
          have HV1 := Lib.hid (show n * 10 + f = numV 10 (s.take (k + 1)) by rw [hst, HV.out])
          have HA1 := Lib.hid (hal hd)
          have HP1 := Lib.hid hp
          have hn1 : n * 10 + f ≤ 100000000000 := by omega
          have hf9 : f ≤ 9 := by omega
          have hci : (c.toNat : Int) = 48 + f := by omega
          have hw8 : IntKind.u8.wrap ((c.toNat : Int) - 48) = (f : Int) := by
            rw [IntKind.wrap_u8]; omega
          clear h1 h2 hbad hst hal hd hf hp hpb hff hfig h1' h2'
          have g1 : ¬ (48 + (f : Int)) < 48 := by omega
          have g2 : ¬ 57 < (48 + (f : Int)) := by omega
          go_wp2_with fail
          go_roundw
          case rel => exact ⟨k + 1, n * 10 + f, by go_num, by omega, by go_num, hn1, HV1, HA1, HP1, by first | rfl | trivial⟩
          case measure => simp [intOf]; omega
    · obtain rfl : k = s.length := by omega
      have hA := HA.out
      have hV := HV.out
      rw [List.take_length] at hA hV
      have HN := Lib.hid (show (n : Int) = R by rw [← HR.out, numR_all H0.out (by omega) hA, hV])
      clear hA hV
      go_wp2_with fail
      go_ret
      exact ⟨by rw [← HN.out]; rfl, rfl⟩

end Go.Proofs.YtephnfhjobkciaaGreatDoor

/- A line's parts, a value's figures: the reference's readings. -/
namespace Go.Proofs.YtephnfhjobkciaaGreatDoor
open Go.RowKit Go.Proofs.Wav Go.Proofs.Scn Go.Flow Go.Sort
set_option linter.unusedVariables false
set_option linter.unusedSimpArgs false
set_option maxRecDepth 100000

theorem ext_head (s : Ln) (k : Nat) (h : k ≤ s.length) : (bs s).extract 0 k = bs (s.take k) := by
  rw [extract_bs, list_bs, List.drop_zero]
theorem ext_tail (s : Ln) (k : Nat) : (bs s).extract k (bs s).size = bs (s.drop k) := by
  rw [extract_bs, list_bs, size_bs, List.take_length]

set_option maxHeartbeats 4000000 in
theorem rsplit_any (s : Ln) (hs : s.length ≤ 100000) (W : World) :
    Calls Tryz.prog 75 #[.string (bs s)] W fun e W' => e = .returned (.tuple #[.string (bs (splitR s).1), .string (bs (splitR s).2)]) ∧ Below W.heap.size W W' := by
  have hsz : (bs s).size = s.length := rfl
  generalize hR1 : bs (splitR s).1 = R1
  generalize hR2 : bs (splitR s).2 = R2
  have HR1 := Lib.hid hR1
  have HR2 := Lib.hid hR2
  clear hR1 hR2
  go_enter Tryz.func75, Tryz.ntmps75
  go_wp2
  go_loopw [4] (fun i wr => ∃ k : Nat, k ≤ s.length ∧ i = .int .i64 k ∧ Hid (32 ∉ s.take k) ∧ wr = W) (fun i _ => s.length - (intOf i).toNat)
  case atStart => exact ⟨0, Nat.zero_le _, rfl, Lib.hid (by simp), rfl⟩
  case round =>
    obtain ⟨k, hk, rfl, HN, rfl⟩ := hrel
    by_cases hks : k < s.length
    · have hkz : k < (bs s).size := hks
      have hhere := fun h => cut_here hks HN.out h
      have hno := fun h => no_take hks HN.out h
      have hg : (bs s)[k] = s[k] := rfl
      generalize s[k] = c at *
      by_cases h1 : c = 32
      · have h1' : (c.toNat : Int) = 32 := by rw [h1]; rfl
        have hh := hhere h1
        have he := ext_head s k hk
        have ht := ext_tail s (k + 1)
        rw [hsz] at ht
        have HA := Lib.hid (show bs (s.take k) = R1 by rw [← HR1.out, hh])
        have HB := Lib.hid (show bs (s.drop (k + 1)) = R2 by rw [← HR2.out, hh])
        have hw1 : IntKind.i64.wrap ((k : Int) + 1) = (k : Int) + 1 := IntWalk.i64_in _ (by omega)
        have hw2 : (0 : Int) ≤ (k : Int) + 1 := by omega
        have hw3 : ((k : Int) + 1).toNat = k + 1 := by omega
        have hw4 : (k : Int) ≤ (s.length : Int) := by omega
        have hw5 : (k : Int) + 1 ≤ (s.length : Int) := by omega
        clear hhere hno hh h1
        go_wp2_with fail
        go_quiet (fail)
        go_wp2_with fail
        go_ret2
        exact ⟨by rw [← HA.out, ← HB.out]; rfl, below_drewN (Below.refl _ _) _⟩
      · have h1' : ¬ (c.toNat : Int) = 32 := fun h => h1 (by rw [← UInt8.toNat_inj]; show c.toNat = 32; omega)
        have HN1 := Lib.hid (hno h1)
        clear hhere hno h1
        go_wp2_with fail
        go_roundw
        case rel => exact ⟨k + 1, by omega, by go_num, HN1, by first | rfl | trivial⟩
        case measure => simp [intOf]; omega
    · obtain rfl : k = s.length := by omega
      have hN := HN.out
      rw [List.take_length] at hN
      have hh := cut_none hN
      have HA := Lib.hid (show bs s = R1 by rw [← HR1.out, hh])
      have HB := Lib.hid (show ⟨#[]⟩ = R2 by rw [← HR2.out, hh]; rfl)
      clear hN hh
      go_wp2_with fail
      go_ret2
      exact ⟨by rw [← HA.out, ← HB.out]; rfl, Below.refl _ _⟩

theorem shl_two (v f : Nat) (hf : f < 2) : bits BinOp.or IntKind.u64 ((v * 2 % two64 : Nat) : Int) (f : Int) = ((v * 2 + f) % two64 : Nat) := by
  have h := bits_or_u64_nat (v * 2 % two64) f (Nat.mod_lt _ (by decide)) (by omega)
  rw [h]
  congr 1
  have h2 : v * 2 % two64 = (v % (two64 / 2)) * 2 := by unfold two64; omega
  rw [h2]
  have h3 : v % (two64 / 2) * 2 ||| f = v % (two64 / 2) * 2 + f := by
    have := Nat.two_pow_add_eq_or_of_lt (i := 1) (b := f) (by omega) (v % (two64 / 2))
    rw [Nat.mul_comm]
    exact this.symm
  rw [h3]
  unfold two64
  omega

set_option maxHeartbeats 4000000 in
theorem rvalue_any (s : Ln) (hs : s.length ≤ 100000) (W : World) :
    Calls Tryz.prog 77 #[.string (bs s)] W fun e W' => e = .returned (.tuple #[.int .u64 (bin2R s).1, .bool (bin2R s).2]) ∧ W = W' := by
  have hsz : (bs s).size = s.length := rfl
  generalize hR : bin2R s = R
  have HR := Lib.hid hR
  clear hR
  go_enter Tryz.func77, Tryz.ntmps77
  go_wp2
  go_loopw [4, 5] (fun x i wr => ∃ k n : Nat, x = .int .u64 n ∧ k ≤ s.length ∧ i = .int .i64 k ∧ n < 18446744073709551616 ∧ Hid (n = numV 2 (s.take k) % two64) ∧ Hid ((s.take k).all twoB = true) ∧ wr = W) (fun _ i _ => s.length - (intOf i).toNat)
  case atStart => exact ⟨0, 0, rfl, Nat.zero_le _, rfl, by omega, Lib.hid rfl, Lib.hid (by simp), rfl⟩
  case round =>
    obtain ⟨k, n, rfl, hk, rfl, hn, HV, HA, rfl⟩ := hrel
    by_cases hks : k < s.length
    · have hkz : k < (bs s).size := hks
      have hbad := fun h => bin_bad hks h
      have hst := bin_take hks
      have hal := fun h => all_take (p := twoB) hks HA.out h
      have hg : (bs s)[k] = s[k] := rfl
      generalize s[k] = c at *
      by_cases h1 : c = 48 ∨ c = 49
      · have hA1 := Lib.hid (hal (by unfold twoB; exact decide_eq_true h1))
        rcases h1 with h1 | h1
        · have hcf : (c.toNat : Int) = 48 := by rw [h1]; rfl
          have hfig : figV c = 0 := by rw [h1]; rfl
          rw [hfig] at hst
          have hor : bits BinOp.or IntKind.u64 (IntKind.u64.wrap ((n : Int) * 2)) 0 = ((n * 2 + 0) % two64 : Nat) := by
            rw [← shl_two n 0 (by omega), IntKind.wrap_u64]
            rfl
          have HN := Lib.hid (show (n * 2 + 0) % two64 = numV 2 (s.take (k + 1)) % two64 by rw [hst, HV.out]; unfold two64; omega)
          have hlt : (n * 2 + 0) % two64 < 18446744073709551616 := Nat.mod_lt _ (by decide)
          generalize (n * 2 + 0) % two64 = n1 at *
          have HOR := Lib.hid hor
          clear hor
          clear hbad hst hal h1 hfig
          go_wp2_with fail
          go_roundw
          case rel => exact ⟨k + 1, n1, by rw [HOR.out], by omega, by go_num, hlt, HN, hA1, by first | rfl | trivial⟩
          case measure => simp [intOf]; omega
        · have hcf : (c.toNat : Int) = 49 := by rw [h1]; rfl
          have hfig : figV c = 1 := by rw [h1]; rfl
          rw [hfig] at hst
          have hor : bits BinOp.or IntKind.u64 (IntKind.u64.wrap ((n : Int) * 2)) 1 = ((n * 2 + 1) % two64 : Nat) := by
            rw [← shl_two n 1 (by omega), IntKind.wrap_u64]
            rfl
          have HN := Lib.hid (show (n * 2 + 1) % two64 = numV 2 (s.take (k + 1)) % two64 by rw [hst, HV.out]; unfold two64; omega)
          have hlt : (n * 2 + 1) % two64 < 18446744073709551616 := Nat.mod_lt _ (by decide)
          generalize (n * 2 + 1) % two64 = n1 at *
          have HOR := Lib.hid hor
          clear hor
          clear hbad hst hal h1 hfig
          go_wp2_with fail
          go_roundw
          case rel => exact ⟨k + 1, n1, by rw [HOR.out], by omega, by go_num, hlt, HN, hA1, by first | rfl | trivial⟩
          case measure => simp [intOf]; omega
      · have hc48 : ¬ (c.toNat : Int) = 48 := fun h => h1 (.inl (by rw [← UInt8.toNat_inj]; show c.toNat = 48; omega))
        have hc49 : ¬ (c.toNat : Int) = 49 := fun h => h1 (.inr (by rw [← UInt8.toNat_inj]; show c.toNat = 49; omega))
        have hc48' : ((c.toNat : Int) != 48) = true := by simpa using hc48
        have hc49' : ((c.toNat : Int) != 49) = true := by simpa using hc49
        have hB := Lib.hid (hbad (by unfold twoB; exact decide_eq_false h1))
        clear hbad hst hal h1
        go_wp2_with fail
        go_ret2
        exact ⟨by rw [← HR.out, hB.out]; rfl, rfl⟩
    · obtain rfl : k = s.length := by omega
      have hA := HA.out
      have hV := HV.out
      rw [List.take_length] at hA hV
      have hh := bin_all hA
      rw [← hV] at hh
      have HH := Lib.hid hh
      clear hA hV hh
      by_cases h0 : 0 < s.length
      · by_cases h64 : s.length ≤ 64
        · have HX := Lib.hid (show decide (s ≠ [] ∧ s.length ≤ 64) = true from decide_eq_true ⟨by rintro rfl; simp at h0, h64⟩)
          have h64' : decide ((s.length : Int) ≤ 64) = true := decide_eq_true (by omega)
          go_wp2_with fail
          go_ret2
          exact ⟨by rw [← HR.out, HH.out, HX.out]; rfl, rfl⟩
        · have HX := Lib.hid (show decide (s ≠ [] ∧ s.length ≤ 64) = false from decide_eq_false (fun h => h64 h.2))
          have h64' : decide ((s.length : Int) ≤ 64) = false := decide_eq_false (by omega)
          go_wp2_with fail
          go_ret2
          exact ⟨by rw [← HR.out, HH.out, HX.out]; rfl, rfl⟩
      · have HX := Lib.hid (show decide (s ≠ [] ∧ s.length ≤ 64) = false from decide_eq_false (fun h => h.1 (List.eq_nil_of_length_eq_zero (by omega))))
        go_wp2_with fail
        go_ret2
        exact ⟨by rw [← HR.out, HH.out, HX.out]; rfl, rfl⟩

end Go.Proofs.YtephnfhjobkciaaGreatDoor

/- The text that is put, line by line; a step that appends. -/
namespace Go.Proofs.Wav
open Go.Proofs.Scn
set_option linter.unusedVariables false
set_option linter.unusedSimpArgs false
theorem joinL_append (a b : List Ln) : joinL (a ++ b) = joinL a ++ joinL b := by simp [joinL]
theorem joinL_one (a : Ln) : joinL [a] = a ++ [10] := by simp [joinL]
theorem sigLines_snoc : ∀ {ns : List Ln} {ws : List Int} {k : Nat} (h : k < ns.length) (h' : k < ws.length), sigLines (ns.take (k + 1)) (ws.take (k + 1)) = sigLines (ns.take k) (ws.take k) ++ [sigLine ws[k] ns[k]]
  | [], _, k, h, _ => by simp at h
  | _ :: _, [], k, _, h => by simp at h
  | s :: ns, w :: ws, 0, _, _ => by simp [sigLines]
  | s :: ns, w :: ws, k + 1, h, h' => by
    have ih := sigLines_snoc (ns := ns) (ws := ws) (k := k) (by simpa using h) (by simpa using h')
    simp only [List.take_succ_cons, sigLines, List.cons_append, List.getElem_cons_succ]
    rw [ih]
theorem lastT_snoc : ∀ (prev : Int) (l : List Chg) (c : Chg), lastT prev (l ++ [c]) = c.t
  | _, [], c => rfl
  | _, d :: l, c => lastT_snoc d.t l c
theorem chgLines_snoc (ws : List Int) : ∀ (prev : Int) (l : List Chg) (c : Chg), chgLines ws prev (l ++ [c]) = chgLines ws prev l ++ (timeLines (lastT prev l) c.t ++ [chgLine ws c])
  | prev, [], c => by simp [chgLines, lastT]
  | prev, d :: l, c => by
    rw [List.cons_append, chgLines, chgLines_snoc ws d.t l c, chgLines, lastT]
    simp
/-- the text of the first lines -/
def sigT (w : Wv) (k : Nat) : Ln := joinL (sigLines (w.names.take k) (w.widths.take k))
def chgT (w : Wv) (k : Nat) : Ln := joinL (sigLines w.names w.widths) ++ joinL (chgLines w.widths (-1) (w.chs.take k))
theorem sigT_zero (w : Wv) : sigT w 0 = [] := rfl
theorem sigT_succ (w : Wv) {k : Nat} (h : k < w.names.length) (h' : k < w.widths.length) : sigT w (k + 1) = sigT w k ++ (sigLine w.widths[k] w.names[k] ++ [10]) := by
  unfold sigT
  rw [sigLines_snoc h h', joinL_append, joinL_one]
theorem sigT_all (w : Wv) (h : w.widths.length = w.names.length) : sigT w w.names.length = chgT w 0 := by
  unfold sigT chgT
  rw [List.take_length, ← h, List.take_length, List.take_zero]
  simp [chgLines, joinL]
theorem chgT_succ (w : Wv) {k : Nat} (h : k < w.chs.length) : chgT w (k + 1) = chgT w k ++ (joinL (timeLines (lastT (-1) (w.chs.take k)) w.chs[k].t) ++ (chgLine w.widths w.chs[k] ++ [10])) := by
  unfold chgT
  rw [List.take_succ_eq_append_getElem h, chgLines_snoc, joinL_append, joinL_append, joinL_one]
  simp only [List.append_assoc]
theorem chgT_last (w : Wv) {k : Nat} (h : k < w.chs.length) : lastT (-1) (w.chs.take (k + 1)) = w.chs[k].t := by
  rw [List.take_succ_eq_append_getElem h, lastT_snoc]
theorem putW_last (w : Wv) : putW w = chgT w w.chs.length ++ joinL (timeLines (lastT (-1) w.chs) w.last) := by
  unfold putW linesW chgT
  rw [List.take_length, joinL_append, joinL_append, List.append_assoc]
theorem time_none {p t : Int} (h : t = p) : joinL (timeLines p t) = [] := by
  unfold timeLines
  rw [if_pos h]
  rfl
theorem time_some {p t : Int} (h : t ≠ p) : joinL (timeLines p t) = 35 :: dec t.toNat ++ [10] := by
  unfold timeLines
  rw [if_neg h, joinL_one]
  rfl
/-- what Put says -/
def putE (x : Wv) : Int := if checkW x ≠ 0 then checkW x else if 65536 < (putW x).length then 2 else 0
theorem putE_bad {x : Wv} (h : checkW x ≠ 0) : putE x = checkW x := by unfold putE; rw [if_pos h]
theorem putE_long {x : Wv} (h : checkW x = 0) (h2 : 65536 < (putW x).length) : putE x = 2 := by unfold putE; rw [if_neg (by simp [h]), if_pos h2]
theorem putE_ok {x : Wv} (h : checkW x = 0) (h2 : ¬ 65536 < (putW x).length) : putE x = 0 := by unfold putE; rw [if_neg (by simp [h]), if_neg h2]
theorem dec_len {n : Nat} (h : n < 10000000000) : (dec n).length ≤ 10 := digL_len 10 (by omega) 10 n (by omega) h
end Go.Proofs.Wav
namespace Go.Proofs.YtephnfhjobkciaaGreatDoor
open Go.RowKit Go.Proofs.Wav Go.Proofs.Scn Go.Flow Go.Sort
set_option linter.unusedVariables false
set_option linter.unusedSimpArgs false
set_option maxRecDepth 100000

theorem cat_bs (a b : Ln) : bs a ++ bs b = bs (a ++ b) := by
  apply ByteArray.ext
  simp [bs]
theorem cells_str (l : Ln) : Lib.strCells (bs l) = cellsB l := by
  simp [Lib.strCells, cellsB, list_bs]

/-- append(L, "..."...) -/
theorem wpList_append_str {w : World} {ops : Array Oper} {rest : List Oper} {o : Oper} {a : Act} {Q : Exit → Act → World → Prop} (hgd : o.guard = none) (s x : Operand)
    (ho : o.op = .call { callee := .builtin .append, args := #[s, x], argTypes := #[29, 9] })
    (base : Nat) (v : Value) (L l : Ln) (hs : a.eval s = v) (hown : OwnB base w v L) (hx : a.eval x = .string (bs l))
    (h63 : L.length + l.length ≤ 140737488355328) (hbase : base ≤ w.heap.size)
    (h : ∀ q c w', OwnB base w' (.slice q (L ++ l).length c) (L ++ l) → w.grownBy w' v.ownBlock → wpList Tryz.prog ops Q rest (a.put o.dst (.slice q (L ++ l).length c)) w') : wpList Tryz.prog ops Q (o :: rest) a w := by
  obtain ⟨i0, hi, hz0, hz1, hz2⟩ := info_parts byteInfo
  refine Lib.wpList_append_own_string w hgd s x 29 9 ho base 5 i0 byteSlice strKind hi hz0 hz1 hz2 v L.length (cellsB L) hs hown (bs l) hx (by rw [size_bs]; unfold maxLen; omega) (by rw [size_bs]; omega) hbase ?_
  intro v' w' h1 h2 _
  rw [size_bs, cells_str, show cellsB L ++ cellsB l = cellsB (L ++ l) from (List.map_append).symm, ← List.length_append] at h1
  obtain ⟨q, c, rfl⟩ := own_form (L := L ++ l) h1
  exact h q c w' h1 h2

/-- bytes that are owned are a source -/
theorem OwnB.src {B : Nat} {w : World} {v : Value} {l : Ln} (h : OwnB B w v l) : Src w v l := by
  have hb := h.bytes
  have := Src.of_bytes hb (by
    rcases h.2 with ⟨h1, _⟩ | ⟨g, cap, cur, h1, _⟩
    · exact .inl h1
    · exact .inr ⟨_, _, _, h1⟩)
  rwa [list_bs] at this
/-- a box that holds a change is no row of bytes -/
theorem OwnB.far {B n : Nat} {w : World} {v : Value} {l : Ln} {cs : Array Value} {T : TypeId} {fr : Nat × Nat} (h : OwnB B w v l) (hb : w.heap[n]? = some (.cells cs T fr)) (hT : T ≠ 5) : v.ownBlock ≠ some n := by
  rcases h.2 with ⟨h1, _⟩ | ⟨g, cap, cur, h1, hB, hg, _⟩
  · rw [h1]; simp [Value.ownBlock]
  · rw [h1]
    intro e
    simp only [Value.ownBlock, Option.some.injEq] at e
    rw [e, hb] at hg
    simp only [Option.some.injEq, Obj.cells.injEq] at hg
    exact hT hg.2.1
theorem OwnB.kept {B n : Nat} {w w' : World} {v : Value} {l : Ln} {cs : Array Value} {T : TypeId} {fr : Nat × Nat} (h : OwnB B w v l) (hb : w.heap[n]? = some (.cells cs T fr)) (hT : T ≠ 5) (hg : w.grownBy w' v.ownBlock) : w'.heap[n]? = some (.cells cs T fr) :=
  (hg.block n (Array.getElem?_eq_some_iff.1 hb).1 (fun e => h.far hb hT e.symm)).trans hb

/-- append(L, s...) at a step of a region that draws -/
theorem step_append_src {w : World} {ops : Array Oper} {o : Oper} {a : Act} {K : Act → World → Prop} {Q : Exit → Act → World → Prop} {E : Prop} (hgd : o.guard = none) (s x : Operand)
    (ho : o.op = .call { callee := .builtin .append, args := #[s, x], argTypes := #[29, 29] })
    (base : Nat) (v : Value) (L l : Ln) (hs : a.eval s = v) (hown : OwnB base w v L) (y : Value) (hx : a.eval x = y) (hsrc : Src w y l) (hl : l ≠ [])
    (h63 : L.length + l.length ≤ 140737488355328) (hbase : base ≤ w.heap.size)
    (h : ∀ q c N M w', Hid (M = L ++ l) → Hid (N = M.length) → OwnB base w' (.slice q N c) M → w.grownBy w' v.ownBlock → K (a.put o.dst (.slice q N c)) w') :
    if Region.wanted o (yielded ops a.tmps) = true then Oper.wp Tryz.prog o a w K Q else E := by
  obtain ⟨i0, hi, hz0, hz1, hz2⟩ := info_parts byteInfo
  have hw : Region.wanted o (yielded ops a.tmps) = true := by simp [Region.wanted, hgd]
  rw [if_pos hw]
  rcases hsrc with ⟨_, h0⟩ | ⟨ad, c, rfl, hc⟩
  · exact absurd h0 hl
  refine wp_append_own w s x 29 ho base 5 i0 (.int .u8 0) 1 1 byteSlice hi hz0 hz1 hz2 rfl (by decide) v L.length (cellsB L) hs hown ad l.length c (cellsB l) hx (by rw [cellsB_length]; omega) hc (cellsB_one l) (by unfold maxLen; omega) (by omega) hbase ?_
  intro v' w' h1 h2 _
  rw [show cellsB L ++ cellsB l = cellsB (L ++ l) from (List.map_append).symm, ← List.length_append] at h1
  obtain ⟨q, c, rfl⟩ := own_form (L := L ++ l) h1
  exact h q c _ _ w' (Lib.hid rfl) (Lib.hid rfl) h1 h2
theorem step_append_str {w : World} {ops : Array Oper} {o : Oper} {a : Act} {K : Act → World → Prop} {Q : Exit → Act → World → Prop} {E : Prop} (hgd : o.guard = none) (s x : Operand)
    (ho : o.op = .call { callee := .builtin .append, args := #[s, x], argTypes := #[29, 9] })
    (base : Nat) (v : Value) (L l : Ln) (hs : a.eval s = v) (hown : OwnB base w v L) (hx : a.eval x = .string (bs l))
    (h63 : L.length + l.length ≤ 140737488355328) (hbase : base ≤ w.heap.size)
    (h : ∀ q c N M w', Hid (M = L ++ l) → Hid (N = M.length) → OwnB base w' (.slice q N c) M → w.grownBy w' v.ownBlock → K (a.put o.dst (.slice q N c)) w') :
    if Region.wanted o (yielded ops a.tmps) = true then Oper.wp Tryz.prog o a w K Q else E := by
  obtain ⟨i0, hi, hz0, hz1, hz2⟩ := info_parts byteInfo
  have hw : Region.wanted o (yielded ops a.tmps) = true := by simp [Region.wanted, hgd]
  rw [if_pos hw]
  obtain ⟨v', w', hr, h2, h3, _⟩ := Lib.run_append_own_string (P := Tryz.prog) w base 29 9 o.type 5 i0 byteSlice strKind hi hz0 hz1 hz2 v L.length (cellsB L) hown (bs l) (by rw [size_bs]; unfold maxLen; omega) (by rw [size_bs]; omega) hbase
  rw [size_bs, cells_str, show cellsB L ++ cellsB l = cellsB (L ++ l) from (List.map_append).symm, ← List.length_append] at h2
  obtain ⟨q, c, rfl⟩ := own_form (L := L ++ l) h2
  unfold Oper.wp execOp
  simp only [ho, resolve, invoke, builtin, Sem.run_bind, Sem.run_pure, Result.andThen_ok, List.map_toArray, List.map_cons, List.map_nil, hs, hx, hr]
  exact h q c _ _ w' (Lib.hid rfl) (Lib.hid rfl) h2 h3

theorem wpList_append_strN {w : World} {ops : Array Oper} {rest : List Oper} {o : Oper} {a : Act} {Q : Exit → Act → World → Prop} (hgd : o.guard = none) (s x : Operand)
    (ho : o.op = .call { callee := .builtin .append, args := #[s, x], argTypes := #[29, 9] })
    (base : Nat) (v : Value) (L l : Ln) (hs : a.eval s = v) (hown : OwnB base w v L) (hx : a.eval x = .string (bs l))
    (h63 : L.length + l.length ≤ 140737488355328) (hbase : base ≤ w.heap.size)
    (h : ∀ q c N M w', Hid (M = L ++ l) → Hid (N = M.length) → OwnB base w' (.slice q N c) M → w.grownBy w' v.ownBlock → wpList Tryz.prog ops Q rest (a.put o.dst (.slice q N c)) w') : wpList Tryz.prog ops Q (o :: rest) a w :=
  wpList_append_str hgd s x ho base v L l hs hown hx h63 hbase fun q c w' h1 h2 => h q c _ _ w' (Lib.hid rfl) (Lib.hid rfl) h1 h2

end Go.Proofs.YtephnfhjobkciaaGreatDoor
