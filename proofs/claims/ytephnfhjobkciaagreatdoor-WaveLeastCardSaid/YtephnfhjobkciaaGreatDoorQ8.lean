/- Texts of the Wave laws, merged: WY, WZ, Y0, Y1, Y2. -/
import Derived.Test.YtephnfhjobkciaaGreatDoorQ7
import Derived.Test.YtephnfhjobkciaaGreatDoorQ5
import Derived.Lib.Split
import Derived.Test.YtephnfhjobkciaaGreatDoorQ6
import Derived.Test.YtephnfhjobkciaaGreatDoorQ1
import Derived.OrdersIn
import Derived.RangeFuncCalls
import Derived.OwnWalkIn

/- The program's lines: an iterator over an iterator. -/
namespace Go.Proofs.YtephnfhjobkciaaGreatDoor
open Go.RowKit Go.Proofs.Wav Go.Proofs.Scn Go.Flow Go.Sort Go.Shelf
attribute [local go_sem] Oper.semAt_some
set_option linter.unusedVariables false
set_option linter.unusedSimpArgs false
set_option maxRecDepth 100000

theorem idx_blank : ∀ s : Ln, (Lib.indexByte s 32 = -1 ∧ cutB s = (s, none)) ∨ ∃ i : Nat, Lib.indexByte s 32 = i ∧ i < s.length ∧ cutB s = (s.take i, some (s.drop (i + 1)))
  | [] => .inl ⟨rfl, rfl⟩
  | c :: r => by
    by_cases hc : c = 32
    · subst hc
      exact .inr ⟨0, by simp [Lib.indexByte], by simp, by simp [cutB]⟩
    · have hc1 : (c == 32) = false := by simpa using hc
      have hc2 : (c != 32) = true := by simpa using hc
      rcases idx_blank r with ⟨h1, h2⟩ | ⟨i, h1, h2, h3⟩
      · left
        refine ⟨by unfold Lib.indexByte; simp [hc1, h1], ?_⟩
        unfold cutB at h2 ⊢
        rw [List.dropWhile_cons, if_pos hc2, List.takeWhile_cons, if_pos hc2]
        split at h2
        · rfl
        · injection h2 with _ h; cases h
      · right
        refine ⟨i + 1, ?_, by simp [h2], ?_⟩
        · unfold Lib.indexByte
          rw [if_neg (by simp [hc1]), h1, if_neg (by simp)]
          omega
        · unfold cutB at h3 ⊢
          rw [List.dropWhile_cons, if_pos hc2, List.takeWhile_cons, if_pos hc2]
          split at h3
          · injection h3 with _ h; cases h
          · injection h3 with h4 h5
            injection h5 with h6
            simp [h4, h6]
theorem split_one (s : Ln) (k : Nat) : Lib.splitB ⟨#[32]⟩ 0 (k + 1) (bs s) = (match cutB s with | (a, some r) => bs a :: Lib.splitB ⟨#[32]⟩ 0 k (bs r) | (a, none) => [bs a]) := by
  have hi : Lib.indexB (bs s) ⟨#[32]⟩ = Lib.indexByte s 32 := Lib.one (bs s) ⟨#[32]⟩ rfl
  rcases idx_blank s with ⟨h1, h2⟩ | ⟨i, h1, h2, h3⟩
  · rw [Lib.splitB_miss _ _ _ _ (hi.trans h1), h2]
  · rw [Lib.splitB_hit _ _ _ _ i (hi.trans h1), h3]
    rw [Nat.add_zero, ext_head _ _ (by omega), show i + ByteArray.size ⟨#[32]⟩ = i + 1 from rfl, ext_tail]
theorem split_words (s : Ln) : Lib.splitB ⟨#[32]⟩ 0 (min 3 ((bs s).size + 1) - 1) (bs s) = (words3 s).map bs := by
  match s with
  | [] => rfl
  | [c] =>
    rw [show min 3 ((bs [c]).size + 1) - 1 = 0 + 1 from rfl, split_one]
    unfold words3
    rcases h : cutB [c] with ⟨a, _ | r⟩
    · rfl
    · have hr : r = [] := by
        rcases idx_blank [c] with ⟨h1, h2⟩ | ⟨i, h1, h2, h3⟩
        · rw [h2] at h; cases h
        · rw [h3] at h
          injection h with h4 h5
          injection h5 with h6
          rw [← h6]
          simp at h2
          subst h2
          rfl
      subst hr
      rfl
  | c :: d :: r =>
    have hm : min 3 ((bs (c :: d :: r)).size + 1) - 1 = 1 + 1 := by
      rw [size_bs, List.length_cons, List.length_cons]
      omega
    rw [hm, split_one]
    unfold words3
    rcases cutB (c :: d :: r) with ⟨a, _ | r2⟩
    · rfl
    · simp only
      rw [show (1 : Nat) = 0 + 1 from rfl, split_one]
      rcases cutB r2 with ⟨a2, _ | r3⟩
      · rfl
      · rfl

theorem grown_drew_alloc (w : World) (o : Obj) : w.grownBy (w.drew.alloc o) none :=
  ⟨rfl, rfl, rfl, by simp, fun k hk _ => Below.heap_alloc w.drew o k hk⟩
def wdE (x : Ln × Nat) : Array Value := #[.slice (some ⟨x.2, 0, none⟩) (words3 x.1).length (min 3 ((bs x.1).size + 1))]
/-- the words lie where they are said to lie -/
def WdAt (x : Ln × Nat) (w : World) : Prop := x.2 < w.heap.size ∧ ∀ j (h : j < (words3 x.1).length), w.cell? ⟨x.2, j, none⟩ = some (.string (bs (words3 x.1)[j]))
theorem cells_words (l : List Ln) (N j : Nat) (h : j < l.length) : (Lib.cellsOf (l.map bs) N)[j]? = some (.string (bs l[j])) := by
  unfold Lib.cellsOf
  rw [List.getElem?_toArray, List.getElem?_append_left (by simpa using h)]
  simp [List.getElem?_eq_getElem h]
theorem words_at (w : World) (s : Ln) : WdAt (s, w.heap.size) (w.drew.alloc (.cells (Lib.cellsOf ((words3 s).map bs) (min 3 ((bs s).size + 1))) 9)) := by
  refine ⟨by simp, fun j h => ?_⟩
  have := World.cell?_alloc_new w.drew (Lib.cellsOf ((words3 s).map bs) (min 3 ((bs s).size + 1))) 9 j
  exact this.trans (cells_words _ _ _ h)
theorem lineOf_le (x : Ln) : (lineOf x).length ≤ x.length := by
  unfold lineOf
  split
  · simp
  · simp
theorem suff_yes {x : Ln} (h : x.getLast? = some 10) : Lib.trimSuffix (bs x).data.toList [10] = lineOf x ∧ Lib.hasSuffix (bs x).data.toList [10] = true := by
  obtain ⟨l, rfl⟩ : ∃ l, x = l ++ [10] := by
    rcases List.eq_nil_or_concat x with rfl | ⟨l, c, rfl⟩
    · cases h
    · rw [List.concat_eq_append, List.getLast?_concat] at h
      injection h with h
      exact ⟨l, by rw [h, List.concat_eq_append]⟩
  have h1 : Lib.hasSuffix (bs (l ++ [10])).data.toList [10] = true := by
    unfold Lib.hasSuffix
    rw [List.isSuffixOf_iff_suffix]
    exact ⟨l, rfl⟩
  refine ⟨?_, h1⟩
  unfold Lib.trimSuffix
  rw [if_pos h1, list_bs, lineOf_end]
  simp
theorem suff_no {x : Ln} (h : ¬ x.getLast? = some 10) : Lib.trimSuffix (bs x).data.toList [10] = x ∧ Lib.hasSuffix (bs x).data.toList [10] = false := by
  have h1 : Lib.hasSuffix (bs x).data.toList [10] = false := by
    unfold Lib.hasSuffix
    rw [Bool.eq_false_iff]
    intro e
    rw [List.isSuffixOf_iff_suffix] at e
    obtain ⟨l, e⟩ := e
    rw [list_bs] at e
    apply h
    rw [← e]
    simp
  refine ⟨?_, h1⟩
  unfold Lib.trimSuffix
  rw [if_neg (by simp [h1])]
  rfl
theorem line_no {x : Ln} (h : ¬ x.getLast? = some 10) : lineOf x = [] := by
  unfold lineOf
  rw [if_neg h]
/-- what the loop within has done -/
def LnI (J : Nat → List (Ln × Nat) → World → Prop) (Y : Nat) (t : TypeId) (v : Value) (C : Nat) (pre : List Ln) (W : World) : Prop :=
  ∃ q, q.map Prod.fst = pre.map lineOf ∧ J C q W ∧ Boxed W Y t v

set_option maxHeartbeats 8000000 in
theorem glines_wall (n : Nat) (hn : 4 ≤ n) (Bb : Nat) (v : Value) (b : Ln) (hb : b.length ≤ 100000) (w : World) (hB : Base w) (hBb : Boxed w Bb 29 v) (hby : Bytes w v (bs b)) :
    SeqWall Fence.wide n Tryz.prog 66 #[.pointer (some ⟨Bb, 0, none⟩)] wdE (fun _ => False) (fun x w => WdAt x w ∧ x.1.length ≤ b.length) Base (fun xs => xs.map Prod.fst = (pieces b).map lineOf) (fun pre => ∃ k, pre.map Prod.fst = ((pieces b).map lineOf).take k) (pieces b).length w := by
  intro l J Jx W hW hJ hJx hnd hup hY
  have hBW := hB.later hW
  have hbW := bx_later hBb hW
  have hyW := hby.later hW
  have v1 := hbW.cell
  have hstr := str_run (hyW.later ((Below.refl _ _).alloc (Nat.le_refl _) (.cells #[.func (.yield l) #[] #[]] 104)))
  have v2 := (hbW.alloc (.cells #[.func (.yield l) #[] #[]] 104)).cell
  refine callsIn_of_wp_marks Tryz.func66 rfl trivial ?_ rfl
  simp only [Tryz.ntmps66, List.size_toArray, List.length_cons, List.length_nil, Nat.reduceAdd, Nat.reduceSub, Array.replicate_succ, Array.replicate_zero, List.push_toArray, List.append_toArray, List.nil_append, List.cons_append]
  refine wpIn_wide.2 ?_
  go_wp2_with fail
  refine (slines_any _ _).mono ?_
  rintro e W2 ⟨rfl, rfl⟩
  go_wp2_with fail
  have hs5 : ((W.alloc (Obj.cells #[Value.func (Fn.yield l) #[] #[]] 104)).alloc (Obj.cells #[Value.string (bs b)] 9)).heap.size = W.heap.size + 2 := by simp
  have hb5 : Below W.heap.size W ((W.alloc (Obj.cells #[Value.func (Fn.yield l) #[] #[]] 104)).alloc (Obj.cells #[Value.string (bs b)] 9)) := ((Below.refl _ _).alloc (Nat.le_refl _) _).alloc (by simp) _
  have hy5 : Boxed ((W.alloc (Obj.cells #[Value.func (Fn.yield l) #[] #[]] 104)).alloc (Obj.cells #[Value.string (bs b)] 9)) W.heap.size 104 (.func (.yield l) #[] #[]) := (Boxed.new _ _ _).alloc _
  have ht5 : Boxed ((W.alloc (Obj.cells #[Value.func (Fn.yield l) #[] #[]] 104)).alloc (Obj.cells #[Value.string (bs b)] 9)) (W.heap.size + 1) 9 (.string (bs b)) := by
    have := Boxed.new (W.alloc (Obj.cells #[Value.func (Fn.yield l) #[] #[]] 104)) 9 (.string (bs b))
    rwa [World.size_alloc] at this
  generalize ((W.alloc (Obj.cells #[Value.func (Fn.yield l) #[] #[]] 104)).alloc (Obj.cells #[Value.string (bs b)] 9)) = W5 at *
  have HSZ := Lib.hid hs5
  refine (wpIn_wide (n := n)).1 ?_
  refine wpIn_rangeFunc_wall (F := Fence.wide) (n := n) rfl (by omega) (gf := 91) (lb := #[.pointer (some ⟨W.heap.size + 1, 0, none⟩)]) rfl trivial (enters_of Tryz.func91 (by kernel_rfl) rfl)
    (lines1_wall (n - 1) (by omega) (W.heap.size + 1) b hb W5 ht5) (Below.refl _ _) (fun _ => rfl) (fun r e => by rw [e, hs5]; omega) (fun _ _ _ _ _ _ h => h)
    (fun C pre V => LnI J W.heap.size 104 (.func (.yield l) #[] #[]) C pre V)
    (fun c C pre V => c = .ret ∧ ∃ q, q.map Prod.fst = pre.map lineOf ∧ Jx C q V)
    ?hi ?hix (fun _ _ _ _ => trivial) ?h0
    (fun x => { tmps := #[.func (Fn.yield l) #[] #[], .pointer (some ⟨Bb, 0, none⟩), .pointer (some ⟨W.heap.size, 0, none⟩), .string (bs x), undef, undef, v, .string (bs b), .func (Fn.func 91) #[] #[.pointer (some ⟨W.heap.size + 1, 0, none⟩)], .string (bs x),
          undef, undef, undef, undef, undef, undef, undef, undef, undef, undef, undef, undef], defers := [] }) ?assign ?body ?done ?stop
  case hi =>
    rintro C hC s A B row ⟨q, h1, h2, h3⟩ hg hr
    refine ⟨q, h1, hJ C (by omega) q A B row h2 hg (fun r e => ?_), ?_⟩
    · rcases hr r e with h | h
      · exact .inr ⟨by omega, by omega⟩
      · exact .inr ⟨by omega, h.2⟩
    · refine (hg.block _ (bx_lt h3) (fun e => ?_)).trans h3
      rcases hr _ e.symm with h | h
      · omega
      · omega
  case hix =>
    rintro c C hC s A B row ⟨h0, q, h1, h2⟩ hg hr
    refine ⟨h0, q, h1, hJx C (by omega) q A B row h2 hg (fun r e => ?_)⟩
    rcases hr r e with h | h
    · exact .inr ⟨by omega, by omega⟩
    · exact .inr ⟨by omega, h.2⟩
  case h0 =>
    intro C W' h1 h2 h3
    exact ⟨[], rfl, hup C W' (by omega) h2 (hb5.trans (h3.mono (by omega))), bx_later hy5 h3⟩
  case assign =>
    intro l' x V K hK
    simp only [lnE]
    gi_wp2
    exact hK
  case body =>
    rintro l' C pre x V hC hCV ⟨q, h1, h2, h3⟩ hxb hlt
    have hBV := hnd C q V h2
    have hx : x.length ≤ 100000 := Nat.le_trans hxb hb
    have hsz : (bs x).size = x.length := rfl
    obtain ⟨m, hm⟩ := hBV.max
    have hxl : (bs (lineOf x)).size < 4294967281 := by have := lineOf_le x; rw [size_bs]; omega
    have HSUF := Lib.hid (Tryz.strings_CutSuffix (bs x) { data := #[10] })
    by_cases hend : x.getLast? = some 10
    · have e1 : Lib.trimSuffix (bs x).data.toList [10] = lineOf x ∧ Lib.hasSuffix (bs x).data.toList [10] = true := suff_yes hend
      have hb3 := h3.cell
      have hY2 := h3
      gi_wp2_with fail
      refine ⟨trivial, (fun h => by cases h), (((callsIn_wide (n := n - 1 - 1 - 1)).2 (HSUF.out V (by rw [hsz]; omega))).inRound l').mono ?_⟩
      rintro e W2 ⟨rfl, rfl⟩
      rw [e1.1, e1.2]
      rw [show (⟨(lineOf x).toArray⟩ : ByteArray) = bs (lineOf x) from rfl]
      gi_wp2_with fail
      have hm4 : (W2.drew).cell? ⟨4, 0, none⟩ = some (.int .i64 m) := hm
      have hm3 : (W2.drew).cell? ⟨W.heap.size, 0, none⟩ = some (.func (.yield l) #[] #[]) := hb3
      obtain ⟨W6, hW6⟩ : ∃ W6, W6 = W2.drew.alloc (.cells (Lib.cellsOf ((words3 (lineOf x)).map bs) (min 3 ((bs (lineOf x)).size + 1))) 9) := ⟨_, rfl⟩
      have hg6 : W2.grownBy W6 none := by rw [hW6]; exact grown_drew_alloc _ _
      have hb6 : Below W2.heap.size W2 W6 := by rw [hW6]; exact (Below.refl _ _).drew.alloc (Nat.le_refl _) _
      have hj6 : J C q W6 := hJ C (by omega) q W2 W6 none h2 hg6 (fun r e => by cases e)
      have hy6 := bx_later hY2 hb6
      have hwd : WdAt (lineOf x, W2.heap.size) W6 := by rw [hW6]; exact words_at _ _
      have hm6 := hy6.cell
      obtain ⟨fn, tmps, assign, body, hy, hR⟩ := hY C q (lineOf x, W2.heap.size) W6 (by omega) (Nat.le_trans hCV hb6.size) hj6 ⟨hwd, Nat.le_trans (lineOf_le x) hxb⟩ (by have := congrArg List.length h1; simp at this; omega)
      have hR' : ∀ m, RoundIn (Fence.wide.inRound l') m Tryz.prog l fn tmps assign body W6 _ := fun m => ⟨hR.1, fun c cs _ => hR.2 c cs (room_none rfl _)⟩
      have HW6 := Lib.hid hW6
      have HY6 := Lib.hid hy6
      have HS6 := Lib.hid (Stays.of (T := (· = W.heap.size + 1)) (B := W5.heap.size) (C := C) hg6 (fun r e => by cases e))
      have HL := Lib.hid (show ∀ r, Turns (· = W.heap.size + 1) W5.heap.size C r → Turns (fun _ => False) W.heap.size C r from fun r hr => by
        rcases hr with h | h
        · exact .inr ⟨by omega, by omega⟩
        · exact .inr ⟨by omega, h.2⟩)
      have HYT := Lib.hid (show Turns (fun _ => False) W.heap.size C W.heap.size from .inr ⟨Nat.le_refl _, by omega⟩)
      clear hg6 hb6 hj6 hy6 hwd
      clear hW6
      unfold wdE at hy
      simp only at hy
      refine wpIn_region_any (by kernel_rfl) ?_
      change wpAnyIn _ _ _ _ _ _ _ _ _ (World.drew _)
      have HSP := Lib.hid (fun w hm => Tryz.strings_SplitN (bs (lineOf x)) ⟨#[32]⟩ 3 m w hxl hm (by decide) (by omega) (by omega))
      refine wpAnyIn_ready (rs := [0, 1]) (by kernel_rfl) (by simp) ?_
      refine AllReadyIn.cons rfl (fun K hK => ?_) (AllReadyIn.cons rfl (fun K hK => ?_) AllReadyIn.nil)
      · go_simp
        refine hK _ _ ?_
        clear hK K
        refine wpAnyIn_ready (rs := [1]) (by kernel_rfl) (by simp) (AllReadyIn.cons rfl (fun K hK => ?_) AllReadyIn.nil)
        go_simp
        refine hK _ _ ?_
        clear hK K
        refine wpAnyIn_ready (rs := [2]) (by kernel_rfl) (by simp) (AllReadyIn.cons rfl (fun K hK => ?_) AllReadyIn.nil)
        go_simp
        refine ⟨trivial, (fun h => by cases h), (((callsIn_wide (n := n - 1 - 1 - 1)).2 (HSP.out W2.drew hm4)).inRound l').mono ?_⟩
        rintro e W6' ⟨rfl, rfl⟩
        rw [split_words, List.length_map, ← HW6.out]
        refine hK _ _ ?_
        clear hK K
        refine wpAnyIn_ready (rs := [3]) (by kernel_rfl) (by simp) (AllReadyIn.cons rfl (fun K hK => ?_) AllReadyIn.nil)
        go_simp
        refine ⟨(fun h => by cases h), (hR' _).mono ?_⟩
        rintro e W7 (⟨rfl, hj7, hk7⟩ | ⟨rfl, hj7, hk7⟩)
        · refine hK _ _ ?_
          clear hK K
          refine wpAnyIn_ready (rs := [4]) (by kernel_rfl) (by simp) (AllReadyIn.cons rfl (fun K hK => ?_) AllReadyIn.nil)
          go_simp
          refine hK _ _ ?_
          clear hK K
          refine wpAnyIn_done (by kernel_rfl) ?_ _
          gi_wp2
          exact ⟨(HS6.out).trans (hk7.less HL.out), q ++ [(lineOf x, W2.heap.size)], by rw [List.map_append, List.map_append, h1]; rfl, hj7, (hk7.same _ HYT.out (bx_lt HY6.out)).trans HY6.out⟩
        · refine hK _ _ ?_
          clear hK K
          refine wpAnyIn_ready (rs := [4]) (by kernel_rfl) (by simp) (AllReadyIn.cons rfl (fun K hK => ?_) AllReadyIn.nil)
          go_simp
          refine hK _ _ ?_
          clear hK K
          refine wpAnyIn_done (by kernel_rfl) ?_ _
          gi_wp2
          exact ⟨(HS6.out).trans (hk7.less HL.out), rfl, q ++ [(lineOf x, W2.heap.size)], by rw [List.map_append, List.map_append, h1]; rfl, hj7⟩
      · go_simp
        refine hK _ _ ?_
        clear hK K
        refine wpAnyIn_ready (rs := [0, 2]) (by kernel_rfl) (by simp) ?_
        refine AllReadyIn.cons rfl (fun K hK => ?_) (AllReadyIn.cons rfl (fun K hK => ?_) AllReadyIn.nil)
        · go_simp
          refine hK _ _ ?_
          clear hK K
          refine wpAnyIn_ready (rs := [2]) (by kernel_rfl) (by simp) (AllReadyIn.cons rfl (fun K hK => ?_) AllReadyIn.nil)
          go_simp
          refine ⟨trivial, (fun h => by cases h), (((callsIn_wide (n := n - 1 - 1 - 1)).2 (HSP.out W2.drew hm4)).inRound l').mono ?_⟩
          rintro e W6' ⟨rfl, rfl⟩
          rw [split_words, List.length_map, ← HW6.out]
          refine hK _ _ ?_
          clear hK K
          refine wpAnyIn_ready (rs := [3]) (by kernel_rfl) (by simp) (AllReadyIn.cons rfl (fun K hK => ?_) AllReadyIn.nil)
          go_simp
          refine ⟨(fun h => by cases h), (hR' _).mono ?_⟩
          rintro e W7 (⟨rfl, hj7, hk7⟩ | ⟨rfl, hj7, hk7⟩)
          · refine hK _ _ ?_
            clear hK K
            refine wpAnyIn_ready (rs := [4]) (by kernel_rfl) (by simp) (AllReadyIn.cons rfl (fun K hK => ?_) AllReadyIn.nil)
            go_simp
            refine hK _ _ ?_
            clear hK K
            refine wpAnyIn_done (by kernel_rfl) ?_ _
            gi_wp2
            exact ⟨(HS6.out).trans (hk7.less HL.out), q ++ [(lineOf x, W2.heap.size)], by rw [List.map_append, List.map_append, h1]; rfl, hj7, (hk7.same _ HYT.out (bx_lt HY6.out)).trans HY6.out⟩
          · refine hK _ _ ?_
            clear hK K
            refine wpAnyIn_ready (rs := [4]) (by kernel_rfl) (by simp) (AllReadyIn.cons rfl (fun K hK => ?_) AllReadyIn.nil)
            go_simp
            refine hK _ _ ?_
            clear hK K
            refine wpAnyIn_done (by kernel_rfl) ?_ _
            gi_wp2
            exact ⟨(HS6.out).trans (hk7.less HL.out), rfl, q ++ [(lineOf x, W2.heap.size)], by rw [List.map_append, List.map_append, h1]; rfl, hj7⟩
        · go_simp
          refine ⟨trivial, (fun h => by cases h), (((callsIn_wide (n := n - 1 - 1 - 1)).2 (HSP.out W2.drew hm4)).inRound l').mono ?_⟩
          rintro e W6' ⟨rfl, rfl⟩
          rw [split_words, List.length_map, ← HW6.out]
          refine hK _ _ ?_
          clear hK K
          refine wpAnyIn_ready (rs := [0]) (by kernel_rfl) (by simp) (AllReadyIn.cons rfl (fun K hK => ?_) AllReadyIn.nil)
          go_simp
          refine hK _ _ ?_
          clear hK K
          refine wpAnyIn_ready (rs := [3]) (by kernel_rfl) (by simp) (AllReadyIn.cons rfl (fun K hK => ?_) AllReadyIn.nil)
          go_simp
          refine ⟨(fun h => by cases h), (hR' _).mono ?_⟩
          rintro e W7 (⟨rfl, hj7, hk7⟩ | ⟨rfl, hj7, hk7⟩)
          · refine hK _ _ ?_
            clear hK K
            refine wpAnyIn_ready (rs := [4]) (by kernel_rfl) (by simp) (AllReadyIn.cons rfl (fun K hK => ?_) AllReadyIn.nil)
            go_simp
            refine hK _ _ ?_
            clear hK K
            refine wpAnyIn_done (by kernel_rfl) ?_ _
            gi_wp2
            exact ⟨(HS6.out).trans (hk7.less HL.out), q ++ [(lineOf x, W2.heap.size)], by rw [List.map_append, List.map_append, h1]; rfl, hj7, (hk7.same _ HYT.out (bx_lt HY6.out)).trans HY6.out⟩
          · refine hK _ _ ?_
            clear hK K
            refine wpAnyIn_ready (rs := [4]) (by kernel_rfl) (by simp) (AllReadyIn.cons rfl (fun K hK => ?_) AllReadyIn.nil)
            go_simp
            refine hK _ _ ?_
            clear hK K
            refine wpAnyIn_done (by kernel_rfl) ?_ _
            gi_wp2
            exact ⟨(HS6.out).trans (hk7.less HL.out), rfl, q ++ [(lineOf x, W2.heap.size)], by rw [List.map_append, List.map_append, h1]; rfl, hj7⟩
    · have e1 : Lib.trimSuffix (bs x).data.toList [10] = x ∧ Lib.hasSuffix (bs x).data.toList [10] = false := suff_no hend
      have hb3 := h3.cell
      have hY2 := h3
      gi_wp2_with fail
      refine ⟨trivial, (fun h => by cases h), (((callsIn_wide (n := n - 1 - 1 - 1)).2 (HSUF.out V (by rw [hsz]; omega))).inRound l').mono ?_⟩
      rintro e W2 ⟨rfl, rfl⟩
      rw [e1.1, e1.2]
      have hln2 := Lib.hid (show bs (lineOf x) = { data := #[] } by rw [line_no hend]; rfl)
      gi_wp2_with fail
      rw [← hln2.out]
      have hm4 : (W2.drew).cell? ⟨4, 0, none⟩ = some (.int .i64 m) := hm
      have hm3 : (W2.drew).cell? ⟨W.heap.size, 0, none⟩ = some (.func (.yield l) #[] #[]) := hb3
      obtain ⟨W6, hW6⟩ : ∃ W6, W6 = W2.drew.alloc (.cells (Lib.cellsOf ((words3 (lineOf x)).map bs) (min 3 ((bs (lineOf x)).size + 1))) 9) := ⟨_, rfl⟩
      have hg6 : W2.grownBy W6 none := by rw [hW6]; exact grown_drew_alloc _ _
      have hb6 : Below W2.heap.size W2 W6 := by rw [hW6]; exact (Below.refl _ _).drew.alloc (Nat.le_refl _) _
      have hj6 : J C q W6 := hJ C (by omega) q W2 W6 none h2 hg6 (fun r e => by cases e)
      have hy6 := bx_later hY2 hb6
      have hwd : WdAt (lineOf x, W2.heap.size) W6 := by rw [hW6]; exact words_at _ _
      have hm6 := hy6.cell
      obtain ⟨fn, tmps, assign, body, hy, hR⟩ := hY C q (lineOf x, W2.heap.size) W6 (by omega) (Nat.le_trans hCV hb6.size) hj6 ⟨hwd, Nat.le_trans (lineOf_le x) hxb⟩ (by have := congrArg List.length h1; simp at this; omega)
      have hR' : ∀ m, RoundIn (Fence.wide.inRound l') m Tryz.prog l fn tmps assign body W6 _ := fun m => ⟨hR.1, fun c cs _ => hR.2 c cs (room_none rfl _)⟩
      have HW6 := Lib.hid hW6
      have HY6 := Lib.hid hy6
      have HS6 := Lib.hid (Stays.of (T := (· = W.heap.size + 1)) (B := W5.heap.size) (C := C) hg6 (fun r e => by cases e))
      have HL := Lib.hid (show ∀ r, Turns (· = W.heap.size + 1) W5.heap.size C r → Turns (fun _ => False) W.heap.size C r from fun r hr => by
        rcases hr with h | h
        · exact .inr ⟨by omega, by omega⟩
        · exact .inr ⟨by omega, h.2⟩)
      have HYT := Lib.hid (show Turns (fun _ => False) W.heap.size C W.heap.size from .inr ⟨Nat.le_refl _, by omega⟩)
      clear hg6 hb6 hj6 hy6 hwd
      clear hW6
      unfold wdE at hy
      simp only at hy
      refine wpIn_region_any (by kernel_rfl) ?_
      change wpAnyIn _ _ _ _ _ _ _ _ _ (World.drew _)
      have HSP := Lib.hid (fun w hm => Tryz.strings_SplitN (bs (lineOf x)) ⟨#[32]⟩ 3 m w hxl hm (by decide) (by omega) (by omega))
      refine wpAnyIn_ready (rs := [0, 1]) (by kernel_rfl) (by simp) ?_
      refine AllReadyIn.cons rfl (fun K hK => ?_) (AllReadyIn.cons rfl (fun K hK => ?_) AllReadyIn.nil)
      · go_simp
        refine hK _ _ ?_
        clear hK K
        refine wpAnyIn_ready (rs := [1]) (by kernel_rfl) (by simp) (AllReadyIn.cons rfl (fun K hK => ?_) AllReadyIn.nil)
        go_simp
        refine hK _ _ ?_
        clear hK K
        refine wpAnyIn_ready (rs := [2]) (by kernel_rfl) (by simp) (AllReadyIn.cons rfl (fun K hK => ?_) AllReadyIn.nil)
        go_simp
        refine ⟨trivial, (fun h => by cases h), (((callsIn_wide (n := n - 1 - 1 - 1)).2 (HSP.out W2.drew hm4)).inRound l').mono ?_⟩
        rintro e W6' ⟨rfl, rfl⟩
        rw [split_words, List.length_map, ← HW6.out]
        refine hK _ _ ?_
        clear hK K
        refine wpAnyIn_ready (rs := [3]) (by kernel_rfl) (by simp) (AllReadyIn.cons rfl (fun K hK => ?_) AllReadyIn.nil)
        go_simp
        refine ⟨(fun h => by cases h), (hR' _).mono ?_⟩
        rintro e W7 (⟨rfl, hj7, hk7⟩ | ⟨rfl, hj7, hk7⟩)
        · refine hK _ _ ?_
          clear hK K
          refine wpAnyIn_ready (rs := [4]) (by kernel_rfl) (by simp) (AllReadyIn.cons rfl (fun K hK => ?_) AllReadyIn.nil)
          go_simp
          refine hK _ _ ?_
          clear hK K
          refine wpAnyIn_done (by kernel_rfl) ?_ _
          gi_wp2
          exact ⟨(HS6.out).trans (hk7.less HL.out), q ++ [(lineOf x, W2.heap.size)], by rw [List.map_append, List.map_append, h1]; rfl, hj7, (hk7.same _ HYT.out (bx_lt HY6.out)).trans HY6.out⟩
        · refine hK _ _ ?_
          clear hK K
          refine wpAnyIn_ready (rs := [4]) (by kernel_rfl) (by simp) (AllReadyIn.cons rfl (fun K hK => ?_) AllReadyIn.nil)
          go_simp
          refine hK _ _ ?_
          clear hK K
          refine wpAnyIn_done (by kernel_rfl) ?_ _
          gi_wp2
          exact ⟨(HS6.out).trans (hk7.less HL.out), rfl, q ++ [(lineOf x, W2.heap.size)], by rw [List.map_append, List.map_append, h1]; rfl, hj7⟩
      · go_simp
        refine hK _ _ ?_
        clear hK K
        refine wpAnyIn_ready (rs := [0, 2]) (by kernel_rfl) (by simp) ?_
        refine AllReadyIn.cons rfl (fun K hK => ?_) (AllReadyIn.cons rfl (fun K hK => ?_) AllReadyIn.nil)
        · go_simp
          refine hK _ _ ?_
          clear hK K
          refine wpAnyIn_ready (rs := [2]) (by kernel_rfl) (by simp) (AllReadyIn.cons rfl (fun K hK => ?_) AllReadyIn.nil)
          go_simp
          refine ⟨trivial, (fun h => by cases h), (((callsIn_wide (n := n - 1 - 1 - 1)).2 (HSP.out W2.drew hm4)).inRound l').mono ?_⟩
          rintro e W6' ⟨rfl, rfl⟩
          rw [split_words, List.length_map, ← HW6.out]
          refine hK _ _ ?_
          clear hK K
          refine wpAnyIn_ready (rs := [3]) (by kernel_rfl) (by simp) (AllReadyIn.cons rfl (fun K hK => ?_) AllReadyIn.nil)
          go_simp
          refine ⟨(fun h => by cases h), (hR' _).mono ?_⟩
          rintro e W7 (⟨rfl, hj7, hk7⟩ | ⟨rfl, hj7, hk7⟩)
          · refine hK _ _ ?_
            clear hK K
            refine wpAnyIn_ready (rs := [4]) (by kernel_rfl) (by simp) (AllReadyIn.cons rfl (fun K hK => ?_) AllReadyIn.nil)
            go_simp
            refine hK _ _ ?_
            clear hK K
            refine wpAnyIn_done (by kernel_rfl) ?_ _
            gi_wp2
            exact ⟨(HS6.out).trans (hk7.less HL.out), q ++ [(lineOf x, W2.heap.size)], by rw [List.map_append, List.map_append, h1]; rfl, hj7, (hk7.same _ HYT.out (bx_lt HY6.out)).trans HY6.out⟩
          · refine hK _ _ ?_
            clear hK K
            refine wpAnyIn_ready (rs := [4]) (by kernel_rfl) (by simp) (AllReadyIn.cons rfl (fun K hK => ?_) AllReadyIn.nil)
            go_simp
            refine hK _ _ ?_
            clear hK K
            refine wpAnyIn_done (by kernel_rfl) ?_ _
            gi_wp2
            exact ⟨(HS6.out).trans (hk7.less HL.out), rfl, q ++ [(lineOf x, W2.heap.size)], by rw [List.map_append, List.map_append, h1]; rfl, hj7⟩
        · go_simp
          refine ⟨trivial, (fun h => by cases h), (((callsIn_wide (n := n - 1 - 1 - 1)).2 (HSP.out W2.drew hm4)).inRound l').mono ?_⟩
          rintro e W6' ⟨rfl, rfl⟩
          rw [split_words, List.length_map, ← HW6.out]
          refine hK _ _ ?_
          clear hK K
          refine wpAnyIn_ready (rs := [0]) (by kernel_rfl) (by simp) (AllReadyIn.cons rfl (fun K hK => ?_) AllReadyIn.nil)
          go_simp
          refine hK _ _ ?_
          clear hK K
          refine wpAnyIn_ready (rs := [3]) (by kernel_rfl) (by simp) (AllReadyIn.cons rfl (fun K hK => ?_) AllReadyIn.nil)
          go_simp
          refine ⟨(fun h => by cases h), (hR' _).mono ?_⟩
          rintro e W7 (⟨rfl, hj7, hk7⟩ | ⟨rfl, hj7, hk7⟩)
          · refine hK _ _ ?_
            clear hK K
            refine wpAnyIn_ready (rs := [4]) (by kernel_rfl) (by simp) (AllReadyIn.cons rfl (fun K hK => ?_) AllReadyIn.nil)
            go_simp
            refine hK _ _ ?_
            clear hK K
            refine wpAnyIn_done (by kernel_rfl) ?_ _
            gi_wp2
            exact ⟨(HS6.out).trans (hk7.less HL.out), q ++ [(lineOf x, W2.heap.size)], by rw [List.map_append, List.map_append, h1]; rfl, hj7, (hk7.same _ HYT.out (bx_lt HY6.out)).trans HY6.out⟩
          · refine hK _ _ ?_
            clear hK K
            refine wpAnyIn_ready (rs := [4]) (by kernel_rfl) (by simp) (AllReadyIn.cons rfl (fun K hK => ?_) AllReadyIn.nil)
            go_simp
            refine hK _ _ ?_
            clear hK K
            refine wpAnyIn_done (by kernel_rfl) ?_ _
            gi_wp2
            exact ⟨(HS6.out).trans (hk7.less HL.out), rfl, q ++ [(lineOf x, W2.heap.size)], by rw [List.map_append, List.map_append, h1]; rfl, hj7⟩
  case done =>
    rintro D C xs V hD hDC rfl ⟨q, h1, h2, h3⟩ hK
    refine ⟨by simp, .inl ⟨_, _, rfl, run_takeDeferred hK, ?_⟩⟩
    refine ⟨_, results_none rfl _ _ _, ⟨_, rfl⟩, .inl ⟨C, q, by omega, h1, (hJ C (by omega)).put _ h2 (.inr ⟨by omega, hDC⟩)⟩⟩
  case stop =>
    rintro D C c pre V hD hDC ⟨k, rfl⟩ ⟨rfl, q, h1, h2⟩ hK
    refine wpIn_wide.2 ?_
    go_wp2
    refine ⟨by simp, .inl ⟨_, _, rfl, run_takeDeferred hK, ?_⟩⟩
    refine ⟨_, results_none rfl _ _ _, ⟨_, rfl⟩, .inr ⟨C, q, by omega, ⟨k, by rw [h1, List.map_take]⟩, (hJx C (by omega)).put _ h2 (.inr ⟨by omega, hDC⟩)⟩⟩
end Go.Proofs.YtephnfhjobkciaaGreatDoor

/- What the program's Get holds between two lines. -/
namespace Go.Proofs.Wav
set_option linter.unusedVariables false
/-- how big what is read so far can be -/
structure Lim (k m : Nat) (x : Wv) : Prop where
  n : x.names.length ≤ k
  w : x.widths.length ≤ k
  c : x.chs.length ≤ k
  s : ∀ s ∈ x.names, s.length ≤ m
  f : Fits x
theorem Lim.nil (m : Nat) : Lim 0 m emptyW := ⟨Nat.le_refl _, Nat.le_refl _, Nat.le_refl _, (fun s h => by cases h), ⟨(fun c h => by cases h), (fun c h => by cases h)⟩⟩
theorem Lim.more {k k' m : Nat} {x : Wv} (h : Lim k m x) (hk : k ≤ k') : Lim k' m x := ⟨Nat.le_trans h.n hk, Nat.le_trans h.w hk, Nat.le_trans h.c hk, h.s, h.f⟩
theorem Lim.sig {k m : Nat} {x : Wv} (h : Lim k m x) {s : Ln} (hs : s.length ≤ m) (n : Int) : Lim (k + 1) m { x with names := x.names ++ [s], widths := x.widths ++ [n] } :=
  ⟨by simp; exact h.n, by simp; exact h.w, Nat.le_succ_of_le h.c, fun t ht => by
    rcases List.mem_append.1 ht with h1 | h1
    · exact h.s t h1
    · rw [List.mem_singleton] at h1; rw [h1]; exact hs, ⟨h.f.g, h.f.v⟩⟩
theorem Lim.time {k m : Nat} {x : Wv} (h : Lim k m x) (t : Int) : Lim (k + 1) m { x with last := t } := ⟨Nat.le_succ_of_le h.n, Nat.le_succ_of_le h.w, Nat.le_succ_of_le h.c, h.s, ⟨h.f.g, h.f.v⟩⟩
theorem Lim.chg {k m : Nat} {x : Wv} (h : Lim k m x) {c : Chg} (hg : -9223372036854775808 ≤ c.g ∧ c.g ≤ 9223372036854775807) (hv : c.v < 18446744073709551616) : Lim (k + 1) m { x with chs := x.chs ++ [c] } :=
  ⟨Nat.le_succ_of_le h.n, Nat.le_succ_of_le h.w, by simp; exact h.c, h.s, ⟨fun d hd => by
    rcases List.mem_append.1 hd with h1 | h1
    · exact h.f.g d h1
    · rw [List.mem_singleton] at h1; rw [h1]; exact hg, fun d hd => by
    rcases List.mem_append.1 hd with h1 | h1
    · exact h.f.v d h1
    · rw [List.mem_singleton] at h1; rw [h1]; exact hv⟩⟩
/-- a line more -/
theorem allP_snoc (st : Wv × Bool) (a : List Ln) (s : Ln) : allP st (a ++ [s]) = (match allP st a with | some st' => lineP st'.1 st'.2 s | none => none) := by
  rw [allP_append]
  cases allP st a with
  | none => rfl
  | some st' =>
    simp only [allP]
    cases lineP st'.1 st'.2 s with
    | none => rfl
    | some st2 => rfl
theorem allP_none {st : Wv × Bool} {a : List Ln} (h : allP st a = none) (c : List Ln) : allP st (a ++ c) = none := by rw [allP_append, h]
theorem allP_take {st : Wv × Bool} {l : List Ln} {k : Nat} (h : allP st (l.take k) = none) : allP st l = none := by
  rw [← List.take_append_drop k l]
  exact allP_none h _
/-- the lines that the program sees, with a last one that lacks its end -/
theorem allP_pieces (b : Ln) (st : Wv × Bool) : allP st ((pieces b).map lineOf) = (if (linesOf b).2 = [] then allP st (linesOf b).1 else none) := by
  rw [pieces_lineOf]
  split
  · rw [List.append_nil]
  · rw [allP_snoc]
    cases allP st (linesOf b).1 with
    | none => rfl
    | some st' => exact lineP_nil _ _
/-- what Get says, by what came of the lines -/
theorem getP_none {b : Ln} (h : allP (emptyW, false) ((pieces b).map lineOf) = none) : getP b = none := by
  rw [allP_pieces] at h
  unfold getP
  split at h
  · rename_i e
    rw [e, h]
  · rename_i e
    split
    · rename_i w _ e1 _
      exact absurd e1 e
    · rfl
theorem getP_some {b : Ln} {x : Wv} {nm : Bool} (h : allP (emptyW, false) ((pieces b).map lineOf) = some (x, nm)) : getP b = if checkW x = 0 ∧ (putW x).length ≤ 65536 ∧ putW x = b then some x else none := by
  rw [allP_pieces] at h
  split at h
  · rename_i e
    unfold getP
    rw [e, h]
  · cases h
theorem words3_mem {s t : Ln} (h : t ∈ words3 s) : t.length ≤ s.length := by
  have hc : ∀ s : Ln, (cutB s).1.length ≤ s.length ∧ ∀ r, (cutB s).2 = some r → r.length ≤ s.length := fun s => by
    unfold cutB
    split
    · exact ⟨Nat.le_refl _, fun r h => by cases h⟩
    · rename_i c r e
      refine ⟨(List.takeWhile_prefix _).length_le, fun r' h => ?_⟩
      injection h with h
      have := (List.dropWhile_suffix (l := s) (fun x => x != 32)).length_le
      rw [e] at this
      rw [← h]
      simp at this
      omega
  have h1 := hc s
  unfold words3 at h
  rcases e : cutB s with ⟨a, _ | r⟩
  · rw [e] at h h1
    simp only [List.mem_singleton] at h
    rw [h]; exact h1.1
  · rw [e] at h h1
    have h2 := hc r
    have h3 := h1.2 r rfl
    simp only at h
    rcases e2 : cutB r with ⟨a2, _ | r2⟩
    · rw [e2] at h h2
      simp only [List.mem_cons, List.not_mem_nil, or_false] at h
      rcases h with rfl | rfl
      · exact h1.1
      · exact Nat.le_trans h2.1 h3
    · rw [e2] at h h2
      have h4 := h2.2 r2 rfl
      simp only [List.mem_cons, List.not_mem_nil, or_false] at h
      rcases h with rfl | rfl | rfl
      · exact h1.1
      · exact Nat.le_trans h2.1 h3
      · exact Nat.le_trans h4 h3
theorem words3_form (s : Ln) : (∃ a, words3 s = [a]) ∨ (∃ a b, words3 s = [a, b]) ∨ ∃ a b c, words3 s = [a, b, c] := by
  unfold words3
  rcases cutB s with ⟨a, _ | r⟩
  · exact .inl ⟨a, rfl⟩
  · simp only
    rcases cutB r with ⟨b, _ | c⟩
    · exact .inr (.inl ⟨a, b, rfl⟩)
    · exact .inr (.inr ⟨a, b, c, rfl⟩)
end Go.Proofs.Wav
namespace Go.Proofs.YtephnfhjobkciaaGreatDoor
open Go.RowKit Go.Proofs.Wav Go.Proofs.Scn Go.Flow Go.Sort Go.Shelf
set_option linter.unusedVariables false
set_option linter.unusedSimpArgs false
set_option maxRecDepth 100000
theorem lim_small {k m : Nat} {x : Wv} (h : Lim k m x) (hk : k ≤ 100000) (hm : m ≤ 100000) : Small x := ⟨Nat.le_trans h.n hk, Nat.le_trans h.w hk, Nat.le_trans h.c hk, fun s hs => Nat.le_trans (h.s s hs) hm⟩
theorem row_turn {B e m n : Nat} {w w' : World} {v : Value} {cs : List Value} {ob : Option Nat} (h : w.ownsRow B e m v n cs) (hg : w.grownBy w' ob) (ho : ∀ b, ob = some b → b < B) : w'.ownsRow B e m v n cs := by
  refine ⟨h.1, ?_⟩
  rcases h.2 with h0 | ⟨g, cap, cur, hv, hB, hgg, h1⟩
  · exact .inl h0
  · exact .inr ⟨g, cap, cur, hv, hB, (hg.block g (Array.getElem?_eq_some_iff.1 hgg).1 (fun e0 => by have := ho g e0.symm; omega)).trans hgg, h1⟩
/-- the wave so far, whether the last line was good, whether a time was named -/
structure GetS (W : World) (C : Nat) (x : Wv) (ok named : Bool) (V : World) : Prop where
  st : ∃ vn vw vc, WSt C W W.heap.size x vn vw vc V
  bo : Boxed V (W.heap.size + 1) 4 (.bool ok)
  bn : Boxed V (W.heap.size + 2) 4 (.bool named)
theorem GetS.lets {W w : World} {C : Nat} {x : Wv} {ok named : Bool} (hw : W.heap.size + 3 ≤ w.heap.size) {A B : World} {row : Option Nat} (h : GetS W C x ok named A) (hg : A.grownBy B row) (hr : ∀ r, row = some r → Turns (fun _ => False) w.heap.size C r) : GetS W C x ok named B := by
  have hr' : ∀ r, row = some r → w.heap.size ≤ r ∧ r < C := fun r e => (hr r e).elim (fun h => h.elim) id
  obtain ⟨⟨vn, vw, vc, h1⟩, h2, h3⟩ := h
  have hs := h1.bel.size
  refine ⟨⟨vn, vw, vc, h1.hB, h1.hR, Nat.le_trans h1.hs hg.size, (hg.block _ h1.box.lt (fun e => ?_)).trans h1.box, row_turn h1.nm hg fun r e => (hr' r e).2, row_turn h1.wd hg fun r e => (hr' r e).2, row_turn h1.ch hg fun r e => (hr' r e).2, ?_⟩, (hg.block _ (bx_lt h2) (fun e => ?_)).trans h2, (hg.block _ (bx_lt h3) (fun e => ?_)).trans h3⟩
  · have := (hr' _ e.symm).1; omega
  · exact h1.bel.grown hg hs fun k e => by have := (hr' k e).1; omega
  · have := (hr' _ e.symm).1; omega
  · have := (hr' _ e.symm).1; omega
theorem GetS.later {W : World} {C : Nat} {x : Wv} {ok named : Bool} {V V' : World} (h : GetS W C x ok named V) (hb : Below V.heap.size V V') : GetS W C x ok named V' := by
  obtain ⟨⟨vn, vw, vc, h1⟩, h2, h3⟩ := h
  exact ⟨⟨vn, vw, vc, h1.later hb⟩, bx_later h2 hb, bx_later h3 hb⟩
/-- between two lines -/
def GetI (W : World) (m C : Nat) (pre : List (Ln × Nat)) (V : World) : Prop :=
  ∃ x ok named, allP (emptyW, false) (pre.map Prod.fst) = some (x, named) ∧ GetS W C x ok named V ∧ (ok = true) ∧ Lim pre.length m x
/-- behind a line that is none -/
def GetX (W : World) (m C : Nat) (pre : List (Ln × Nat)) (V : World) : Prop :=
  allP (emptyW, false) (pre.map Prod.fst) = none ∧ ∃ x named, GetS W C x false named V ∧ Lim pre.length m x
end Go.Proofs.YtephnfhjobkciaaGreatDoor

/- A region without calls, in whatever order, in a round of a range over a function: its operations are plain steps, and what is read may be read first. -/
namespace Go.Cal
open Go
set_option linter.unusedVariables false
set_option linter.unusedSimpArgs false
/-- operations that call no function of the program -/
def calmOp : Op → Bool
  | .move _ | .assign _ | .pick _ _ _ | .alloc _ | .box _ _ | .build _ _ | .buildSlice _ _ _ | .load _ _ | .store _ _ _ | .binOp _ _ _ _ _ | .unOp _ _ _ | .convert _ _ _ | .slice _ _ _ _ _ | .fieldAddr _ _ _ | .field _ _ _ | .indexAddr _ _ _ | .index _ _ _ | .extract _ _ => true
  | .call c => match c.callee with
    | .builtin .append | .builtin .len | .builtin .cap => true
    | _ => false
  | _ => false
theorem calm_defer {o : Oper} (h : calmOp o.op = true) : ∀ c, o.op ≠ .defer c := fun c e => by rw [e] at h; cases h
theorem calm_select {o : Oper} (h : calmOp o.op = true) : ∀ cs b, o.op ≠ .select cs b := fun c b e => by rw [e] at h; cases h
/-- one operation as a plain step -/
def stepO (P : Program) (ops : Array Oper) (i : Nat) (a : Act) (w : World) : Option (Act × World) :=
  match ops[i]? with
  | none => some (a, w)
  | some o => if Region.wanted o (yielded ops a.tmps) = true then
      (match (execOp a.eval o).run P w with
      | .ok (.value v) w' => some (a.put o.dst v, w')
      | .ok .skip w' => some (a.put o.dst undef, w')
      | _ => none)
    else some (a.put o.dst undef, w)
def AllCalm (ops : Array Oper) : Prop := ∀ (i : Nat) (o : Oper), ops[i]? = some o → calmOp o.op = true
theorem allCalm {ops : Array Oper} (h : ops.all (fun o => calmOp o.op) = true) : AllCalm ops := fun i o ho => Array.all_eq_true_iff_forall_mem.1 h o (Array.mem_of_getElem? ho)
theorem stepO_in {P : Program} {ops : Array Oper} (hc : AllCalm ops) {r n i : Nat} {a a' : Act} {w w' : World} {K : Act → World → Prop} {Q : Exit → Act → World → Prop} (h : stepO P ops i a w = some (a', w')) (hK : K a' w') :
    wpOpIn (Fence.wide.inRound r) n P ops Q i K a w := by
  unfold stepO at h
  unfold wpOpIn
  cases ho : ops[i]? with
  | none =>
    rw [ho] at h
    simp only [Option.some.injEq, Prod.mk.injEq] at h
    obtain ⟨rfl, rfl⟩ := h
    exact hK
  | some o =>
    rw [ho] at h
    simp only at h ⊢
    split
    · rename_i hw
      rw [if_pos hw] at h
      unfold Oper.wpIn
      refine ⟨fun f _ => trivial, ?_⟩
      rw [Oper.semAt_eq _ _ _ (calm_defer (hc i o ho))]
      cases hr : (execOp a.eval o).run P w with
      | ok x w1 =>
        rw [hr] at h
        cases x <;> first
          | (simp only [Option.some.injEq, Prod.mk.injEq] at h; obtain ⟨rfl, rfl⟩ := h; exact hK)
          | (simp at h; done)
      | halt x w1 => rw [hr] at h; cases h
    · rename_i hw
      rw [if_neg hw] at h
      simp only [Option.some.injEq, Prod.mk.injEq] at h
      obtain ⟨rfl, rfl⟩ := h
      exact ⟨fun f _ => trivial, hK⟩
/-- in whatever order; S holds till one of U comes up -/
def Any (P : Program) (md : Region.Mode) (ops : Array Oper) (S : World → Prop) (U : List Nat) (R : Act → World → Prop) : Nat → Array Bool → Act → World → Prop
  | 0, listed, a, w => Region.ready md ops listed = [] ∧ R a w
  | fuel + 1, listed, a, w => (Region.ready md ops listed = [] → R a w) ∧
    ∀ i ∈ Region.ready md ops listed, ∃ a' w', stepO P ops i a w = some (a', w') ∧ ((∀ u ∈ U, (listed.setIfInBounds i true).getD u true = false) → S w') ∧ Any P md ops S U R fuel (listed.setIfInBounds i true) a' w'
theorem Any.sound {P : Program} {md : Region.Mode} {ops : Array Oper} {S : World → Prop} {U : List Nat} {R : Act → World → Prop} {Q : Exit → Act → World → Prop} (hc : AllCalm ops) (hQ : ∀ a w, R a w → Q .normal a w) {r n : Nat} :
    ∀ (fuel : Nat) (listed : Array Bool) (a : Act) (w : World), Any P md ops S U R fuel listed a w → wpAnyIn (Fence.wide.inRound r) n P md ops Q fuel listed a w
  | 0, _, _, _, h => ⟨h.1, hQ _ _ h.2⟩
  | fuel + 1, _, _, _, h => ⟨fun h0 => hQ _ _ (h.1 h0), fun i hi => by
      obtain ⟨a', w', h1, _, h2⟩ := h.2 i hi
      exact stepO_in hc h1 (Any.sound hc hQ fuel _ a' w' h2)⟩
theorem region_any {P : Program} {ops : Array Oper} {S : World → Prop} {U : List Nat} {R : Act → World → Prop} {Q : Exit → Act → World → Prop} {id r n : Nat} {a : Act} {w : World} (hm : P.follows .mixedOrders = true) (hc : ops.all (fun o => calmOp o.op) = true)
    (hQ : ∀ a w, R a w → Q .normal a w) (h : Any P .any ops S U R ops.size (Array.replicate ops.size false) a w.drew) : (Code.region id ops true).wpIn (Fence.wide.inRound r) n P Q a w :=
  wpIn_region_any hm (Any.sound (allCalm hc) hQ _ _ _ _ h)
theorem Any.mono {P : Program} {md : Region.Mode} {ops : Array Oper} {S : World → Prop} {U : List Nat} {R R' : Act → World → Prop} (h : ∀ a w, R a w → R' a w) :
    ∀ {fuel : Nat} {listed : Array Bool} {a : Act} {w : World}, Any P md ops S U R fuel listed a w → Any P md ops S U R' fuel listed a w
  | 0, _, _, _, hh => ⟨hh.1, h _ _ hh.2⟩
  | fuel + 1, _, _, _, hh => ⟨fun h0 => h _ _ (hh.1 h0), fun i hi => by
      obtain ⟨a', w', h1, h2, h3⟩ := hh.2 i hi
      exact ⟨a', w', h1, h2, Any.mono h h3⟩⟩
/-- another operation, apart from it -/
theorem stepO_put {P : Program} {ops : Array Oper} {oi oj : Oper} {v : Value} {j : Nat} (hc : AllCalm ops) (hj : ops[j]? = some oj) (hap : oi.apart ops oj = true) {a a1 : Act} {w w1 : World} (h : stepO P ops j (a.put oi.dst v) w = some (a1, w1)) :
    ∃ u, stepO P ops j a w = some (a.put oj.dst u, w1) ∧ a1 = (a.put oj.dst u).put oi.dst v := by
  obtain ⟨h1, h2, h3⟩ := Oper.apart_spec hap
  have hsel := calm_select (hc j oj hj)
  unfold stepO at *
  simp only [hj] at h ⊢
  rw [wanted_put oj a oi.dst v h1, execOp_put oj hsel a oi.dst v h1] at h
  split
  · rename_i hw
    rw [if_pos hw] at h
    cases hr : (execOp a.eval oj).run P w with
    | ok x w2 =>
      rw [hr] at h
      cases x <;> first
        | (simp only [Option.some.injEq, Prod.mk.injEq] at h; obtain ⟨rfl, rfl⟩ := h; exact ⟨_, rfl, (Act.put_comm a v _ h2)⟩)
        | (simp at h; done)
    | halt x w2 => rw [hr] at h; cases h
  · rename_i hw
    rw [if_neg hw] at h
    simp only [Option.some.injEq, Prod.mk.injEq] at h
    obtain ⟨rfl, rfl⟩ := h
    exact ⟨_, rfl, Act.put_comm a v _ h2⟩
/-- what it yields, it yields in every world of T -/
def Gives (P : Program) (ops : Array Oper) (T : World → Prop) (oi : Oper) (v : Value) (a : Act) : Prop := Region.wanted oi (yielded ops a.tmps) = true ∧ ∀ w, T w → (execOp a.eval oi).run P w = .ok (.value v) w
theorem Gives.step {P : Program} {ops : Array Oper} {T : World → Prop} {oi : Oper} {v : Value} {a : Act} {i : Nat} {w : World} (h : Gives P ops T oi v a) (hi : ops[i]? = some oi) (hw : T w) : stepO P ops i a w = some (a.put oi.dst v, w) := by
  unfold stepO
  simp only [hi, if_pos h.1, h.2 w hw]
theorem Gives.put {P : Program} {ops : Array Oper} {T : World → Prop} {oi oj : Oper} {v : Value} {a : Act} (hs : ∀ cs b, oi.op ≠ .select cs b) (h : Gives P ops T oi v a) (h3 : ∀ d, oj.dst = some d → d ∉ oi.looksAt ops) (u : Value) : Gives P ops T oi v (a.put oj.dst u) :=
  ⟨by rw [wanted_put oi a oj.dst u h3]; exact h.1, fun w hw => by rw [execOp_put oi hs a oj.dst u h3]; exact h.2 w hw⟩
theorem take_aux {P : Program} {md : Region.Mode} {ops : Array Oper} {S T : World → Prop} {U : List Nat} {R : Act → World → Prop} {i : Nat} {oi : Oper} {v : Value} (hc : AllCalm ops) (hi : ops[i]? = some oi) (hiU : i ∉ U)
    (hT : (∀ w, T w) ∨ ((∀ w, S w → T w) ∧ ∀ u ∈ U, ∀ o, ops[u]? = some o → ∃ e ∈ o.after, Region.binds md e = true ∧ e.on = i)) :
    ∀ (fuel : Nat) (listed : Array Bool) (a : Act) (w : World),
      (∀ j oj, ops[j]? = some oj → j ≠ i → listed.getD j true = false → (∀ e ∈ oj.after, Region.binds md e = true → e.on ≠ i) → oi.apart ops oj = true) →
      i ∈ Region.ready md ops listed → Gives P ops T oi v a → ((∀ w, T w) ∨ ∀ u ∈ U, listed.getD u true = false) → ((∀ u ∈ U, listed.getD u true = false) → S w) →
      Any P md ops S U R fuel (listed.setIfInBounds i true) (a.put oi.dst v) w → Any P md ops S U R (fuel + 1) listed a w := by
  intro fuel
  have hset : ∀ (listed : Array Bool) (k : Nat), k ∉ U → ((∀ u ∈ U, (listed.setIfInBounds k true).getD u true = false) ↔ ∀ u ∈ U, listed.getD u true = false) := fun listed k hk =>
    ⟨fun h u hu => by rw [← h u hu, getD_set_ne true (fun e => hk (by rw [e]; exact hu))], fun h u hu => by rw [← h u hu, getD_set_ne true (fun e => hk (by rw [e]; exact hu))]⟩
  have hTw : ∀ (listed : Array Bool) (w : World), ((∀ w, T w) ∨ ∀ u ∈ U, listed.getD u true = false) → ((∀ u ∈ U, listed.getD u true = false) → S w) → T w := fun listed w h1 h2 => by
    rcases h1 with h1 | h1
    · exact h1 w
    · rcases hT with hT | hT
      · exact hT w
      · exact hT.1 w (h2 h1)
  induction fuel with
  | zero =>
    intro listed a w _ hr hy hl hS H
    refine ⟨fun h => (by rw [h] at hr; cases hr), fun j hj => ?_⟩
    by_cases hji : j = i
    · subst hji
      exact ⟨_, _, hy.step hi (hTw listed w hl hS), fun h => hS ((hset listed j hiU).1 h), H⟩
    · have := ready_mono hj hji
      rw [H.1] at this
      cases this
  | succ fuel ih =>
    intro listed a w hfree hr hy hl hS H
    refine ⟨fun h => (by rw [h] at hr; cases hr), fun j hj => ?_⟩
    by_cases hji : j = i
    · subst hji
      exact ⟨_, _, hy.step hi (hTw listed w hl hS), fun h => hS ((hset listed j hiU).1 h), H⟩
    · obtain ⟨a1, w1, h1, hS1, H1⟩ := H.2 j (ready_mono hj hji)
      obtain ⟨hjun, oj, hoj, hall⟩ := mem_ready.1 hj
      have hnot : ∀ e ∈ oj.after, Region.binds md e = true → e.on ≠ i := fun e he hb heq => by
        have h1 := hall e he hb
        have h0 := (mem_ready.1 hr).1
        rw [heq] at h1
        rcases Nat.lt_or_ge i listed.size with h' | h'
        · simp [h'] at h0 h1; rw [h0] at h1; cases h1
        · simp [Array.getElem?_eq_none h'] at h1
      have hap := hfree j oj hoj hji hjun hnot
      obtain ⟨u, h2, rfl⟩ := stepO_put hc hoj hap h1
      have hjsz : j < listed.size := by
        rcases Nat.lt_or_ge j listed.size with h' | h'
        · exact h'
        · rw [Array.getD_eq_getD_getElem?, Array.getElem?_eq_none h'] at hjun; cases hjun
      have hcomm : (listed.setIfInBounds i true).setIfInBounds j true = (listed.setIfInBounds j true).setIfInBounds i true := (Array.setIfInBounds_comm _ _ hji).symm
      rw [hcomm] at H1 hS1
      have hSj : (∀ u ∈ U, (listed.setIfInBounds j true).getD u true = false) → S w1 := fun h => hS1 ((hset _ i hiU).2 h)
      refine ⟨_, _, h2, hSj, ih (listed.setIfInBounds j true) _ w1 ?_ (ready_mono hr (Ne.symm hji)) (hy.put (calm_select (hc i oi hi)) (Oper.apart_spec hap).2.2 u) ?_ hSj H1⟩
      · intro k ok hk hki hun hno
        refine hfree k ok hk hki ?_ hno
        by_cases hjk : j = k
        · subst hjk; exact hjun
        · rw [getD_set_ne true hjk] at hun; exact hun
      · rcases hT with hT | hT
        · exact .inl hT
        · rcases hl with hl | hl
          · exact .inl hl
          · by_cases hjU : j ∈ U
            · obtain ⟨e, he, hb, heq⟩ := hT.2 j hjU oj hoj
              exact absurd heq (hnot e he hb)
            · exact .inr ((hset listed j hjU).2 hl)
/-- what yields in every world may be taken first -/
theorem Any.take {P : Program} {md : Region.Mode} {ops : Array Oper} {S : World → Prop} {U : List Nat} {R : Act → World → Prop} {i fuel : Nat} {oi : Oper} {v : Value} {listed : Array Bool} {a : Act} {w : World} (hc : ops.all (fun o => calmOp o.op) = true) (hi : ops[i]? = some oi) (hiU : U.contains i = false)
    (hf : Region.free md ops listed i = true) (hr : (Region.ready md ops listed).contains i = true) (hw : Region.wanted oi (yielded ops a.tmps) = true) (hy : ∀ w, (execOp a.eval oi).run P w = .ok (.value v) w) (hS : S w)
    (h : Any P md ops S U R fuel (listed.setIfInBounds i true) (a.put oi.dst v) w) : Any P md ops S U R (fuel + 1) listed a w :=
  take_aux (T := fun _ => True) (allCalm hc) hi (fun h => by rw [List.contains_eq_mem, decide_eq_true h] at hiU; cases hiU) (.inl fun _ => trivial) fuel listed a w (Region.free_spec hi hf) (by simpa using hr) ⟨hw, fun w _ => hy w⟩ (.inl fun _ => trivial) (fun _ => hS) h
/-- what yields in every world that meets S may be taken first, if U waits for it -/
theorem Any.takeS {P : Program} {md : Region.Mode} {ops : Array Oper} {S : World → Prop} {U : List Nat} {R : Act → World → Prop} {i fuel : Nat} {oi : Oper} {v : Value} {listed : Array Bool} {a : Act} {w : World} (hc : ops.all (fun o => calmOp o.op) = true) (hi : ops[i]? = some oi) (hiU : U.contains i = false)
    (hU : U.all (fun u => match ops[u]? with | some o => o.after.any (fun e => Region.binds md e && e.on == i) | none => true) = true) (hl : U.all (fun u => listed.getD u true == false) = true)
    (hf : Region.free md ops listed i = true) (hr : (Region.ready md ops listed).contains i = true) (hw : Region.wanted oi (yielded ops a.tmps) = true) (hy : ∀ w, S w → (execOp a.eval oi).run P w = .ok (.value v) w) (hS : S w)
    (h : Any P md ops S U R fuel (listed.setIfInBounds i true) (a.put oi.dst v) w) : Any P md ops S U R (fuel + 1) listed a w :=
  take_aux (T := S) (allCalm hc) hi (fun h => by rw [List.contains_eq_mem, decide_eq_true h] at hiU; cases hiU) (.inr ⟨fun _ h => h, fun u hu o ho => by
    have h1 := List.all_eq_true.1 hU u hu
    simp only [ho] at h1
    obtain ⟨k, hk, h2⟩ := Array.any_eq_true.1 h1
    rw [Bool.and_eq_true, beq_iff_eq] at h2
    exact ⟨_, Array.getElem_mem hk, h2.1, h2.2⟩⟩) fuel listed a w (Region.free_spec hi hf) (by simpa using hr) ⟨hw, hy⟩ (.inr fun u hu => by simpa using List.all_eq_true.1 hl u hu) (fun _ => hS) h
theorem Any.done {P : Program} {md : Region.Mode} {ops : Array Oper} {S : World → Prop} {U : List Nat} {R : Act → World → Prop} {listed : Array Bool} {a : Act} {w : World} (hr : Region.ready md ops listed = []) (h : R a w) : ∀ fuel, Any P md ops S U R fuel listed a w
  | 0 => ⟨hr, h⟩
  | _ + 1 => ⟨fun _ => h, by rw [hr]; simp⟩
/-- whichever may come up -/
theorem Any.all {P : Program} {md : Region.Mode} {ops : Array Oper} {S : World → Prop} {U : List Nat} {R : Act → World → Prop} {rs : List Nat} {fuel : Nat} {listed : Array Bool} {a : Act} {w : World} (hr : Region.ready md ops listed = rs) (hne : rs ≠ [])
    (h : ∀ i ∈ rs, ∃ a' w', stepO P ops i a w = some (a', w') ∧ ((∀ u ∈ U, (listed.setIfInBounds i true).getD u true = false) → S w') ∧ Any P md ops S U R fuel (listed.setIfInBounds i true) a' w') : Any P md ops S U R (fuel + 1) listed a w :=
  ⟨fun h0 => absurd (hr ▸ h0) hne, hr ▸ h⟩
/-- one alone may come up -/
theorem Any.one {P : Program} {md : Region.Mode} {ops : Array Oper} {S : World → Prop} {U : List Nat} {R : Act → World → Prop} {i : Nat} {fuel : Nat} {listed : Array Bool} {a a' : Act} {w w' : World} (hr : Region.ready md ops listed = [i]) (hs : stepO P ops i a w = some (a', w')) (hS : S w' ∨ (U.contains i = true ∧ i < listed.size) ∨ U.any (fun u => listed.getD u false) = true)
    (h : Any P md ops S U R fuel (listed.setIfInBounds i true) a' w') : Any P md ops S U R (fuel + 1) listed a w :=
  Any.all hr (by simp) fun j hj => by
    rw [List.mem_singleton] at hj
    subst hj
    refine ⟨a', w', hs, fun hh => ?_, h⟩
    rcases hS with hS | ⟨hS, hlt⟩ | hS
    · exact hS
    · have := hh j (by rw [List.contains_eq_mem] at hS; simpa using hS)
      simp [hlt] at this
    · obtain ⟨u, hu, h2⟩ := List.any_eq_true.1 hS
      have h3 := hh u hu
      have h4 := getD_set_true (i := j) h2
      rcases Nat.lt_or_ge u (listed.setIfInBounds j true).size with h5 | h5
      · rw [Array.getD_eq_getD_getElem?, Array.getElem?_eq_getElem h5] at h3 h4
        simp only [Option.getD_some] at h3 h4
        rw [h3] at h4; cases h4
      · rw [Array.getD_eq_getD_getElem?, Array.getElem?_eq_none h5] at h3; cases h3
/-- what a wanted operation leaves -/
theorem stepO_value {P : Program} {ops : Array Oper} {i : Nat} {o : Oper} {a : Act} {w w' : World} {v : Value} (hi : ops[i]? = some o) (hw : Region.wanted o (yielded ops a.tmps) = true) (h : (execOp a.eval o).run P w = .ok (.value v) w') : stepO P ops i a w = some (a.put o.dst v, w') := by
  unfold stepO
  simp only [hi, if_pos hw, h]
theorem stepO_skip {P : Program} {ops : Array Oper} {i : Nat} {o : Oper} {a : Act} {w w' : World} (hi : ops[i]? = some o) (hw : Region.wanted o (yielded ops a.tmps) = true) (h : (execOp a.eval o).run P w = .ok .skip w') : stepO P ops i a w = some (a.put o.dst undef, w') := by
  unfold stepO
  simp only [hi, if_pos hw, h]
/-! the same over a list that is written out -/
theorem Any.takeL {P : Program} {md : Region.Mode} {l : List Oper} {S : World → Prop} {U : List Nat} {R : Act → World → Prop} {i fuel : Nat} {oi : Oper} {v : Value} {listed : Array Bool} {a : Act} {w : World} (hc : l.toArray.all (fun o => calmOp o.op) = true) (hi : l[i]? = some oi) (hiU : U.contains i = false)
    (hf : Region.free md l.toArray listed i = true) (hr : (Region.ready md l.toArray listed).contains i = true) (hw : Region.wanted oi (yielded l.toArray a.tmps) = true) (hy : ∀ w, (execOp a.eval oi).run P w = .ok (.value v) w) (hS : S w)
    (h : Any P md l.toArray S U R fuel (listed.setIfInBounds i true) (a.put oi.dst v) w) : Any P md l.toArray S U R (fuel + 1) listed a w :=
  Any.take hc (by simpa using hi) hiU hf hr hw hy hS h
theorem Any.takeSL {P : Program} {md : Region.Mode} {l : List Oper} {S : World → Prop} {U : List Nat} {R : Act → World → Prop} {i fuel : Nat} {oi : Oper} {v : Value} {listed : Array Bool} {a : Act} {w : World} (hc : l.toArray.all (fun o => calmOp o.op) = true) (hi : l[i]? = some oi) (hiU : U.contains i = false)
    (hU : U.all (fun u => match l.toArray[u]? with | some o => o.after.any (fun e => Region.binds md e && e.on == i) | none => true) = true) (hl : U.all (fun u => listed.getD u true == false) = true)
    (hf : Region.free md l.toArray listed i = true) (hr : (Region.ready md l.toArray listed).contains i = true) (hw : Region.wanted oi (yielded l.toArray a.tmps) = true) (hy : ∀ w, S w → (execOp a.eval oi).run P w = .ok (.value v) w) (hS : S w)
    (h : Any P md l.toArray S U R fuel (listed.setIfInBounds i true) (a.put oi.dst v) w) : Any P md l.toArray S U R (fuel + 1) listed a w :=
  Any.takeS hc (by simpa using hi) hiU hU hl hf hr hw hy hS h
theorem stepL_value {P : Program} {l : List Oper} {i : Nat} {o : Oper} {a : Act} {w w' : World} {v : Value} (hi : l[i]? = some o) (hw : Region.wanted o (yielded l.toArray a.tmps) = true) (h : (execOp a.eval o).run P w = .ok (.value v) w') : stepO P l.toArray i a w = some (a.put o.dst v, w') := stepO_value (by simpa using hi) hw h
theorem stepL_skip {P : Program} {l : List Oper} {i : Nat} {o : Oper} {a : Act} {w w' : World} (hi : l[i]? = some o) (hw : Region.wanted o (yielded l.toArray a.tmps) = true) (h : (execOp a.eval o).run P w = .ok .skip w') : stepO P l.toArray i a w = some (a.put o.dst undef, w') := stepO_skip (by simpa using hi) hw h
/-- S, if none of U is up -/
def Stt (S : World → Prop) (U : List Nat) (listed : Array Bool) (i : Nat) (w : World) : Prop := (∀ u ∈ U, (listed.setIfInBounds i true).getD u true = false) → S w
theorem Stt.of {S : World → Prop} {U : List Nat} {listed : Array Bool} {i : Nat} {w : World} (h : S w) : Stt S U listed i w := fun _ => h
theorem Stt.past {S : World → Prop} {U : List Nat} {listed : Array Bool} {i : Nat} {w : World} (h : U.any (fun u => (listed.setIfInBounds i true).getD u true) = true) : Stt S U listed i w := fun hh => by
  obtain ⟨u, hu, h2⟩ := List.any_eq_true.1 h
  rw [hh u hu] at h2; cases h2
/-- number i comes up next -/
def Nx (P : Program) (md : Region.Mode) (ops : Array Oper) (S : World → Prop) (U : List Nat) (R : Act → World → Prop) (fuel : Nat) (listed : Array Bool) (i : Nat) (a : Act) (w : World) : Prop :=
  ∃ a' w', stepO P ops i a w = some (a', w') ∧ Stt S U listed i w' ∧ Any P md ops S U R fuel (listed.setIfInBounds i true) a' w'
section
variable {P : Program} {md : Region.Mode} {l : List Oper} {S : World → Prop} {U : List Nat} {R : Act → World → Prop} {fuel : Nat} {listed : Array Bool} {a : Act} {w : World}
theorem Nx.val {i : Nat} {o : Oper} {v : Value} {w' : World} (hi : l[i]? = some o) (hw : Region.wanted o (yielded l.toArray a.tmps) = true) (h : (execOp a.eval o).run P w = .ok (.value v) w') (hS : Stt S U listed i w')
    (hK : Any P md l.toArray S U R fuel (listed.setIfInBounds i true) (a.put o.dst v) w') : Nx P md l.toArray S U R fuel listed i a w := ⟨_, _, stepL_value hi hw h, hS, hK⟩
theorem Nx.skip {i : Nat} {o : Oper} {w' : World} (hi : l[i]? = some o) (hw : Region.wanted o (yielded l.toArray a.tmps) = true) (h : (execOp a.eval o).run P w = .ok .skip w') (hS : Stt S U listed i w')
    (hK : Any P md l.toArray S U R fuel (listed.setIfInBounds i true) (a.put o.dst undef) w') : Nx P md l.toArray S U R fuel listed i a w := ⟨_, _, stepL_skip hi hw h, hS, hK⟩
theorem Any.nx1 {i : Nat} (hr : Region.ready md l.toArray listed = [i]) (h : Nx P md l.toArray S U R fuel listed i a w) : Any P md l.toArray S U R (fuel + 1) listed a w :=
  Any.all hr (by simp) fun k hk => by
    rw [List.mem_singleton] at hk
    subst hk; exact h
theorem Any.nx2 {i j : Nat} (hr : Region.ready md l.toArray listed = [i, j]) (h1 : Nx P md l.toArray S U R fuel listed i a w) (h2 : Nx P md l.toArray S U R fuel listed j a w) : Any P md l.toArray S U R (fuel + 1) listed a w :=
  Any.all hr (by simp) fun k hk => by
    rcases List.mem_cons.1 hk with rfl | hk
    · exact h1
    · rw [List.mem_singleton] at hk
      subst hk; exact h2
end
/-- the same, where there is no round -/
theorem stepO_wp {P : Program} {ops : Array Oper} {i : Nat} {a a' : Act} {w w' : World} {K : Act → World → Prop} {Q : Exit → Act → World → Prop} (h : stepO P ops i a w = some (a', w')) (hK : K a' w') : wpOp P ops Q i K a w := by
  unfold stepO at h
  unfold wpOp
  cases ho : ops[i]? with
  | none =>
    rw [ho] at h
    simp only [Option.some.injEq, Prod.mk.injEq] at h
    obtain ⟨rfl, rfl⟩ := h
    exact hK
  | some o =>
    rw [ho] at h
    simp only at h ⊢
    split
    · rename_i hw
      rw [if_pos hw] at h
      left
      unfold Oper.wp
      cases hr : (execOp a.eval o).run P w with
      | ok x w1 =>
        rw [hr] at h
        cases x <;> first
          | (simp only [Option.some.injEq, Prod.mk.injEq] at h; obtain ⟨rfl, rfl⟩ := h; exact hK)
          | (simp at h; done)
      | halt x w1 => rw [hr] at h; cases h
    · rename_i hw
      rw [if_neg hw] at h
      simp only [Option.some.injEq, Prod.mk.injEq] at h
      obtain ⟨rfl, rfl⟩ := h
      exact hK
theorem Any.plain {P : Program} {md : Region.Mode} {ops : Array Oper} {S : World → Prop} {U : List Nat} {R : Act → World → Prop} {Q : Exit → Act → World → Prop} (hQ : ∀ a w, R a w → Q .normal a w) :
    ∀ (fuel : Nat) (listed : Array Bool) (a : Act) (w : World), Any P md ops S U R fuel listed a w → wpAny P md ops Q fuel listed a w
  | 0, _, _, _, h => ⟨h.1, hQ _ _ h.2⟩
  | fuel + 1, _, _, _, h => ⟨fun h0 => hQ _ _ (h.1 h0), fun i hi => by
      obtain ⟨a', w', h1, _, h2⟩ := h.2 i hi
      exact stepO_wp h1 (Any.plain hQ fuel _ a' w' h2)⟩
theorem region_plain {P : Program} {ops : Array Oper} {S : World → Prop} {U : List Nat} {R : Act → World → Prop} {Q : Exit → Act → World → Prop} {id : Nat} {a : Act} {w : World} (hm : P.follows .mixedOrders = true)
    (hQ : ∀ a w, R a w → Q .normal a w) (h : Any P .any ops S U R ops.size (Array.replicate ops.size false) a w.drew) : (Code.region id ops true).wp P Q a w :=
  wp_region_any hm (Any.plain hQ _ _ _ _ h)
end Go.Cal

/- append as a plain step; cells that a step leaves. -/
namespace Go.Proofs.YtephnfhjobkciaaGreatDoor
open Go.RowKit Go.Proofs.Wav Go.Proofs.Scn Go.Flow Go.Sort Go.Cal
set_option linter.unusedVariables false
set_option linter.unusedSimpArgs false
theorem stepO_append_one {l : List Oper} {i : Nat} {o : Oper} {a : Act} {w : World} (hi : l[i]? = some o) (hgd : o.guard = none) (s x : Operand) (t e : TypeId)
    (ho : o.op = .call { callee := .builtin .append, args := #[s, x], argTypes := #[t, t] }) (ht : Tryz.prog.underlying t = some (.slice e))
    (z : Value) (m b : Nat) (hinfo : (Tryz.prog.info? e).map (fun i => (i.zero, i.size, i.bytes)) = some (some z, m, b)) (hz : z.cells.size = m) (hm : 0 < m) (hb24 : b ≤ 24)
    (base : Nat) (v : Value) (n : Nat) (xs : List Value) (hs : a.eval s = v) (hown : w.ownsRow base e m v n xs) (q c : Nat) (cs : Array Value) (hx : a.eval x = .slice (some ⟨q, 0, none⟩) 1 c) (hq : w.heap[q]? = some (.cells cs e (0, 0)))
    (hl : cs.size = m) (h1 : ∀ u ∈ cs.toList, u.oneCell' = true) (hn : n ≤ 1000000) (hbase : base ≤ w.heap.size) :
    ∃ p c' w', stepO Tryz.prog l.toArray i a w = some (a.put o.dst (.slice p (n + 1) c'), w') ∧ w'.ownsRow base e m (.slice p (n + 1) c') (n + 1) (xs ++ cs.toList) ∧ w.grownBy w' v.ownBlock := by
  obtain ⟨i0, hi0, hz0, hz1, hz2⟩ := info_parts hinfo
  obtain ⟨v', w', hr, h2, h3, _⟩ := run_append_own (P := Tryz.prog) w base t o.type e i0 z m b ht hi0 hz0 hz1 hz2 hz hm v n xs hown ⟨q, 0, none⟩ 1 c cs.toList (by simpa using hl) (fun j u hu => World.news_of_block hq j u hu) h1 (by unfold maxLen; omega) (by have := Nat.mul_le_mul (show n + 1 ≤ 1000001 by omega) hb24; omega) hbase
  obtain ⟨p, c', rfl⟩ := row_form h2
  refine ⟨p, c', w', stepL_value hi (by simp [Region.wanted, hgd]) ?_, h2, h3⟩
  unfold execOp
  simp only [ho, resolve, invoke, builtin, Sem.run_bind, Sem.run_pure, Result.andThen_ok, List.map_toArray, List.map_cons, List.map_nil, hs, hx, hr]
/-- an append of one element comes up next -/
theorem nx_app {md : Region.Mode} {S : World → Prop} {U : List Nat} {R : Act → World → Prop} {fuel : Nat} {listed : Array Bool} {l : List Oper} {i : Nat} {o : Oper} {a : Act} {w : World} (hi : l[i]? = some o) (hgd : o.guard = none) (s x : Operand) (t e : TypeId)
    (ho : o.op = .call { callee := .builtin .append, args := #[s, x], argTypes := #[t, t] }) (ht : Tryz.prog.underlying t = some (.slice e))
    (z : Value) (m b : Nat) (hinfo : (Tryz.prog.info? e).map (fun i => (i.zero, i.size, i.bytes)) = some (some z, m, b)) (hz : z.cells.size = m) (hm : 0 < m) (hb24 : b ≤ 24)
    (base : Nat) (v : Value) (n : Nat) (xs : List Value) (hs : a.eval s = v) (hown : w.ownsRow base e m v n xs) (q c : Nat) (cs : Array Value) (hx : a.eval x = .slice (some ⟨q, 0, none⟩) 1 c) (hq : w.heap[q]? = some (.cells cs e (0, 0)))
    (hl : cs.size = m) (h1 : ∀ u ∈ cs.toList, u.oneCell' = true) (hn : n ≤ 1000000) (hbase : base ≤ w.heap.size)
    (h : ∀ p c' w', w'.ownsRow base e m (.slice p (n + 1) c') (n + 1) (xs ++ cs.toList) → w.grownBy w' v.ownBlock → Stt S U listed i w' ∧ Any Tryz.prog md l.toArray S U R fuel (listed.setIfInBounds i true) (a.put o.dst (.slice p (n + 1) c')) w') : Nx Tryz.prog md l.toArray S U R fuel listed i a w := by
  obtain ⟨p, c', w', h2, h3, h4⟩ := stepO_append_one hi hgd s x t e ho ht z m b hinfo hz hm hb24 base v n xs hs hown q c cs hx hq hl h1 hn hbase
  exact ⟨_, _, h2, (h p c' w' h3 h4).1, (h p c' w' h3 h4).2⟩
end Go.Proofs.YtephnfhjobkciaaGreatDoor

/- What the program's Get holds within a line. -/
namespace Go.Proofs.Wav
set_option linter.unusedVariables false
theorem lineP_same {w w' : Wv} {nm nm' : Bool} {s : Ln} (h : w.widths.length = w.names.length) (h2 : lineP w nm s = some (w', nm')) : w'.widths.length = w'.names.length := by
  unfold lineP at h2
  split at h2
  · split at h2
    · cases e : numP _ with
      | none => rw [e] at h2; cases h2
      | some n => rw [e] at h2; cases h2; simp [h]
    · cases h2
  · split at h2
    · split at h2
      · split at h2
        · cases h2; exact h
        · cases h2
      · cases h2
    · cases h2
  · split at h2
    · split at h2
      · split at h2
        · cases h2; exact h
        · cases h2
      · cases h2
    · cases h2
  · cases h2
theorem allP_same : ∀ (l : List Ln) (w w' : Wv) (nm nm' : Bool), w.widths.length = w.names.length → allP (w, nm) l = some (w', nm') → w'.widths.length = w'.names.length
  | [], w, w', nm, nm', h, h2 => by
    simp only [allP, Option.some.injEq, Prod.mk.injEq] at h2
    rw [← h2.1]; exact h
  | s :: l, w, w', nm, nm', h, h2 => by
    simp only [allP] at h2
    split at h2
    · rename_i st' e
      exact allP_same l st'.1 w' st'.2 nm' (lineP_same h e) h2
    · cases h2
theorem index_none (chars : List UInt8) : ∀ l : List UInt8, (∀ c ∈ l, c ∉ chars) → Lib.containsAny l chars = false
  | [], _ => by simp [Lib.containsAny, Lib.indexAny]
  | b :: l, h => by
    have ih := index_none chars l fun c hc => h c (List.mem_cons_of_mem _ hc)
    have hb := h b List.mem_cons_self
    unfold Lib.containsAny at ih ⊢
    have hge := Lib.indexAny_ge chars l
    have hl : Lib.indexAny l chars = -1 := by simp at ih; omega
    unfold Lib.indexAny
    simp [hb, hl]
theorem bin2_lt {t : Ln} {v : Nat} (h : bin2 t = some v) : v < 18446744073709551616 := by
  unfold bin2 at h
  split at h
  · rename_i h1
    cases h
    exact h1.2.2
  · cases h
theorem bin2_mem {t : Ln} {v : Nat} (h : bin2 t = some v) : ∀ c ∈ t, c = 48 ∨ c = 49 := by
  unfold bin2 at h
  split at h
  · rename_i h1
    intro c hc
    have := List.all_eq_true.1 h1.1 c hc
    simpa using this
  · cases h
theorem asc_of {l : List UInt8} {j : Nat} {b : UInt8} (h : l[j]? = some b) (hl : l.all (fun c => decide (c.toNat < 128)) = true) : b.toNat < 128 := by
  have := List.all_eq_true.1 hl b (List.mem_of_getElem? h)
  simpa using this
theorem bin2_asc {t : Ln} {v : Nat} (h : bin2 t = some v) : (98 :: t : Ln).all (fun c => decide (c.toNat < 128)) = true := by
  rw [List.all_eq_true]
  intro c hc
  rcases List.mem_cons.1 hc with rfl | hc
  · rfl
  · rcases bin2_mem h c hc with rfl | rfl <;> rfl
theorem bin2_no {t : Ln} {v : Nat} (h : bin2 t = some v) : Lib.containsAny (98 :: t) [95, 43] = false :=
  index_none _ _ fun c hc => by
    rcases List.mem_cons.1 hc with rfl | hc
    · decide
    · rcases bin2_mem h c hc with rfl | rfl <;> decide
end Go.Proofs.Wav
namespace Go.Proofs.YtephnfhjobkciaaGreatDoor
open Go.RowKit Go.Proofs.Wav Go.Proofs.Scn Go.Flow Go.Sort Go.Shelf Go.Cal
set_option linter.unusedVariables false
set_option linter.unusedSimpArgs false
set_option maxRecDepth 100000
theorem stays_below {T : Nat → Prop} {B C : Nat} {W W' : World} (h : Below W.heap.size W W') : Stays T B C W W' := ⟨h.size, fun r _ hl => h.block r hl⟩
theorem stays_set {B C q o : Nat} {V : World} {v : Value} (hq : q < B) : Stays (fun _ => False) B C V (V.setCell ⟨q, o, none⟩ v) :=
  ⟨by rw [World.size_setCell]; exact Nat.le_refl _, fun r hr _ => Below.heap_setCell V ⟨q, o, none⟩ v r (fun e => by rcases hr with h | h; exact h; simp at e; omega)⟩
theorem has_pre (a : Ln) (c : UInt8) : Lib.hasPrefix (bs a).data.toList ({ data := #[c] } : ByteArray).data.toList = decide (a.head? = some c) := by
  unfold Lib.hasPrefix
  rw [list_bs]
  cases a with
  | nil => rfl
  | cons b r =>
    show List.isPrefixOf [c] (b :: r) = _
    simp only [List.isPrefixOf, List.head?_cons, Option.some.injEq, Bool.and_true]
    by_cases h : c = b
    · subst h; simp
    · have : ¬ b = c := fun e => h e.symm
      simp [h, this]
/-- the state within a line that began at V0 -/
structure GS (W : World) (B C : Nat) (x : Wv) (vn vw vc : Value) (ok named : Bool) (V0 V : World) : Prop where
  hB : W.heap.size + 3 ≤ B
  st : WSt C W W.heap.size x vn vw vc V
  bo : Boxed V (W.heap.size + 1) 4 (.bool ok)
  bn : Boxed V (W.heap.size + 2) 4 (.bool named)
  sy : Stays (fun _ => False) B C V0 V
theorem GS.ok {W : World} {B C : Nat} {x : Wv} {vn vw vc : Value} {ok named : Bool} {V0 V : World} (h : GS W B C x vn vw vc ok named V0 V) (b : Bool) : GS W B C x vn vw vc b named V0 (V.setCell ⟨W.heap.size + 1, 0, none⟩ (.bool b)) := by
  have h1 := h.st
  have := h.hB
  refine ⟨h.hB, ⟨h1.hB, h1.hR, by rw [World.size_setCell]; exact h1.hs, (Below.heap_setCell V ⟨W.heap.size + 1, 0, none⟩ _ _ (by simp)).trans h1.box, row_set h1.nm h.bo (by decide) 0 _, row_set h1.wd h.bo (by decide) 0 _, row_set h1.ch h.bo (by decide) 0 _, h1.bel.setCell (by simp) _⟩, h.bo.set _, h.bn.other (by omega) _, h.sy.trans (stays_set (by omega))⟩
theorem GS.nm {W : World} {B C : Nat} {x : Wv} {vn vw vc : Value} {ok named : Bool} {V0 V : World} (h : GS W B C x vn vw vc ok named V0 V) (b : Bool) : GS W B C x vn vw vc ok b V0 (V.setCell ⟨W.heap.size + 2, 0, none⟩ (.bool b)) := by
  have h1 := h.st
  have := h.hB
  refine ⟨h.hB, ⟨h1.hB, h1.hR, by rw [World.size_setCell]; exact h1.hs, (Below.heap_setCell V ⟨W.heap.size + 2, 0, none⟩ _ _ (by simp)).trans h1.box, row_set h1.nm h.bn (by decide) 0 _, row_set h1.wd h.bn (by decide) 0 _, row_set h1.ch h.bn (by decide) 0 _, h1.bel.setCell (by simp) _⟩, h.bo.other (by omega) _, h.bn.set _, h.sy.trans (stays_set (by omega))⟩
theorem GS.later {W : World} {B C : Nat} {x : Wv} {vn vw vc : Value} {ok named : Bool} {V0 V V' : World} (h : GS W B C x vn vw vc ok named V0 V) (hb : Below V.heap.size V V') : GS W B C x vn vw vc ok named V0 V' :=
  ⟨h.hB, h.st.later hb, bx_later h.bo hb, bx_later h.bn hb, h.sy.trans (stays_below hb)⟩
theorem bx_set {w : World} {q o R : Nat} {t : TypeId} {v u : Value} (h : Boxed w q t v) (hne : q ≠ R) : Boxed (w.setCell ⟨R, o, none⟩ u) q t v := (Below.heap_setCell w ⟨R, o, none⟩ u q hne).trans h
theorem GS.time {W : World} {B C : Nat} {x : Wv} {vn vw vc : Value} {ok named : Bool} {V0 V : World} (h : GS W B C x vn vw vc ok named V0 V) (t : Int) : GS W B C { x with last := t } vn vw vc ok named V0 (V.setCell ⟨W.heap.size, 3, none⟩ (.int .i64 t)) := by
  have := h.hB
  exact ⟨h.hB, h.st.end_ t, bx_set h.bo (by omega), bx_set h.bn (by omega), h.sy.trans (stays_set (by omega))⟩
/-- a row turned: all else stays -/
theorem bx_grown {w w' : World} {q : Nat} {t : TypeId} {v : Value} {ob : Option Nat} (h : Boxed w q t v) (hg : w.grownBy w' ob) (ho : ∀ k, ob = some k → ∃ cur e fr, w.heap[k]? = some (.cells cur e fr) ∧ e ≠ t) : Boxed w' q t v := by
  refine (hg.block q (bx_lt h) (fun e0 => ?_)).trans h
  obtain ⟨cur, e, fr, h2, h3⟩ := ho q e0.symm
  rw [show w.heap[q]? = _ from h] at h2
  simp only [Option.some.injEq, Obj.cells.injEq] at h2
  exact h3 h2.2.1.symm
theorem stays_row {B C : Nat} {w w' : World} {e : TypeId} {m n : Nat} {v : Value} {cs : List Value} (ho : w.ownsRow C e m v n cs) (hg : w.grownBy w' v.ownBlock) : Stays (fun _ => False) B C w w' :=
  Stays.of hg fun r e h => by
    rcases h with h | h
    · exact h
    · have := (World.ownsRow.lt ho r e).1; omega
theorem GS.chg {W : World} {B C : Nat} {x : Wv} {vn vw vc : Value} {ok named : Bool} {V0 w w2 : World} (h : GS W B C x vn vw vc ok named V0 w) (c : Chg) {p : Option Addr} {N c' : Nat} (hN : N = x.chs.length + 1)
    (ho : w2.ownsRow C 50 3 (.slice p N c') N (chgsV x.chs ++ chgV c)) (hg : w.grownBy w2 vc.ownBlock) :
    GS W B C { x with chs := x.chs ++ [c] } vn vw (.slice p N c') ok named V0 (w2.setCell ⟨W.heap.size, 2, none⟩ (.slice p N c')) := by
  have hb : ∀ b, vc.ownBlock = some b → ∃ cur e fr, w.heap[b]? = some (.cells cur e fr) ∧ e ≠ 4 := fun b e => by obtain ⟨cur, fr, h1⟩ := row_block h.st.ch b e; exact ⟨cur, _, fr, h1, by decide⟩
  have := h.hB
  exact ⟨h.hB, h.st.chg c hN ho hg, bx_set (bx_grown h.bo hg hb) (by omega), bx_set (bx_grown h.bn hg hb) (by omega), (h.sy.trans (stays_row h.st.ch hg)).trans (stays_set (by omega))⟩
/-- between the two appends of a signal's line and their stores: the box holds the old slices, the rows are the new ones -/
structure Mid (W : World) (B C : Nat) (x : Wv) (bn bw vc : Value) (vn : Value) (ns : List Value) (kn : Nat) (vw : Value) (ws : List Value) (kw : Nat) (ok named : Bool) (V0 V : World) : Prop where
  hB : W.heap.size + 3 ≤ B
  hC : W.heap.size ≤ C
  hs : C ≤ V.heap.size
  box : WBox V W.heap.size bn bw vc (.int .i64 x.last)
  nm : V.ownsRow C 9 1 vn kn ns
  wd : V.ownsRow C 3 1 vw kw ws
  ch : V.ownsRow C 50 3 vc x.chs.length (chgsV x.chs)
  bel : Below W.heap.size W V
  bo : Boxed V (W.heap.size + 1) 4 (.bool ok)
  bm : Boxed V (W.heap.size + 2) 4 (.bool named)
  sy : Stays (fun _ => False) B C V0 V
theorem GS.mid {W : World} {B C : Nat} {x : Wv} {vn vw vc : Value} {ok named : Bool} {V0 V : World} (h : GS W B C x vn vw vc ok named V0 V) : Mid W B C x vn vw vc vn (x.names.map strV) x.names.length vw (x.widths.map intV) x.widths.length ok named V0 V :=
  ⟨h.hB, h.st.hB, h.st.hs, h.st.box, h.st.nm, h.st.wd, h.st.ch, h.st.bel, h.bo, h.bn, h.sy⟩
theorem Mid.later {W : World} {B C : Nat} {x : Wv} {bn bw vc vn : Value} {ns : List Value} {kn : Nat} {vw : Value} {ws : List Value} {kw : Nat} {ok named : Bool} {V0 V V' : World} (h : Mid W B C x bn bw vc vn ns kn vw ws kw ok named V0 V) (hb : Below V.heap.size V V') : Mid W B C x bn bw vc vn ns kn vw ws kw ok named V0 V' :=
  ⟨h.hB, h.hC, Nat.le_trans h.hs hb.size, h.box.later hb, row_later h.nm hb, row_later h.wd hb, row_later h.ch hb, h.bel.trans (hb.mono h.bel.size), bx_later h.bo hb, bx_later h.bm hb, h.sy.trans (stays_below hb)⟩
theorem Mid.nam {W : World} {B C : Nat} {x : Wv} {bn bw vc vn : Value} {ns : List Value} {kn : Nat} {vw : Value} {ws : List Value} {kw : Nat} {ok named : Bool} {V0 V V' : World} (h : Mid W B C x bn bw vc vn ns kn vw ws kw ok named V0 V) {vn' : Value} {ns' : List Value} {kn' : Nat} (ho : V'.ownsRow C 9 1 vn' kn' ns') (hg : V.grownBy V' vn.ownBlock) :
    Mid W B C x bn bw vc vn' ns' kn' vw ws kw ok named V0 V' := by
  have hb : ∀ T, T ≠ 9 → ∀ b, vn.ownBlock = some b → ∃ cur e fr, V.heap[b]? = some (.cells cur e fr) ∧ e ≠ T := fun T hT b e => by obtain ⟨cur, fr, h1⟩ := row_block h.nm b e; exact ⟨cur, _, fr, h1, fun e => hT e.symm⟩
  exact ⟨h.hB, h.hC, Nat.le_trans h.hs hg.size, h.box.grown hg (hb _ (by decide)), ho, row_other (q := 0) h.wd hg (hb _ (by decide)), row_other (q := 0) h.ch hg (hb _ (by decide)), row_grown h.nm h.hC h.bel h.bel.size hg,
    bx_grown h.bo hg (hb _ (by decide)), bx_grown h.bm hg (hb _ (by decide)), h.sy.trans (stays_row h.nm hg)⟩
theorem Mid.wid {W : World} {B C : Nat} {x : Wv} {bn bw vc vn : Value} {ns : List Value} {kn : Nat} {vw : Value} {ws : List Value} {kw : Nat} {ok named : Bool} {V0 V V' : World} (h : Mid W B C x bn bw vc vn ns kn vw ws kw ok named V0 V) {vw' : Value} {ws' : List Value} {kw' : Nat} (ho : V'.ownsRow C 3 1 vw' kw' ws') (hg : V.grownBy V' vw.ownBlock) :
    Mid W B C x bn bw vc vn ns kn vw' ws' kw' ok named V0 V' := by
  have hb : ∀ T, T ≠ 3 → ∀ b, vw.ownBlock = some b → ∃ cur e fr, V.heap[b]? = some (.cells cur e fr) ∧ e ≠ T := fun T hT b e => by obtain ⟨cur, fr, h1⟩ := row_block h.wd b e; exact ⟨cur, _, fr, h1, fun e => hT e.symm⟩
  exact ⟨h.hB, h.hC, Nat.le_trans h.hs hg.size, h.box.grown hg (hb _ (by decide)), row_other (q := 0) h.nm hg (hb _ (by decide)), ho, row_other (q := 0) h.ch hg (hb _ (by decide)), row_grown h.wd h.hC h.bel h.bel.size hg,
    bx_grown h.bo hg (hb _ (by decide)), bx_grown h.bm hg (hb _ (by decide)), h.sy.trans (stays_row h.wd hg)⟩
theorem Mid.done {W : World} {B C : Nat} {x : Wv} {bn bw vc vn : Value} {vw : Value} {ok named : Bool} {V0 V : World} {s : Ln} {n : Int} (h : Mid W B C x bn bw vc vn (x.names.map strV ++ [strV s]) (x.names.length + 1) vw (x.widths.map intV ++ [intV n]) (x.widths.length + 1) ok named V0 V) :
    GS W B C { x with names := x.names ++ [s], widths := x.widths ++ [n] } vn vw vc ok named V0 ((V.setCell ⟨W.heap.size, 0, none⟩ vn).setCell ⟨W.heap.size, 1, none⟩ vw) := by
  have hB := h.hB
  have b0 := WBox.set h.box 0 vn
  have b1 := WBox.set b0 1 vw
  refine ⟨h.hB, ⟨h.hC, Nat.le_refl _, by rw [World.size_setCell, World.size_setCell]; exact h.hs, b1, ?_, ?_, row_set (row_set h.ch h.box (by decide) 0 _) b0 (by decide) 1 _, (h.bel.setCell (Nat.le_refl _) _).setCell (Nat.le_refl _) _⟩,
    bx_set (bx_set h.bo (by omega)) (by omega), bx_set (bx_set h.bm (by omega)) (by omega), (h.sy.trans (stays_set (by omega))).trans (stays_set (by omega))⟩
  · show World.ownsRow _ _ _ _ _ (x.names ++ [s]).length ((x.names ++ [s]).map strV)
    rw [List.map_append, List.length_append]
    exact row_set (row_set h.nm h.box (by decide) 0 _) b0 (by decide) 1 _
  · show World.ownsRow _ _ _ _ _ (x.widths ++ [n]).length ((x.widths ++ [n]).map intV)
    rw [List.map_append, List.length_append]
    exact row_set (row_set h.wd h.box (by decide) 0 _) b0 (by decide) 1 _
/-- append(v, x) in a round -/
theorem wpListIn_append_one {F : Fence} {k : Nat} {w : World} {ops : Array Oper} {rest : List Oper} {o : Oper} {a : Act} {Q : Exit → Act → World → Prop} (hgd : o.guard = none) (s x : Operand) (t e : TypeId)
    (ho : o.op = .call { callee := .builtin .append, args := #[s, x], argTypes := #[t, t] }) (ht : Tryz.prog.underlying t = some (.slice e))
    (z : Value) (m b : Nat) (hi : (Tryz.prog.info? e).map (fun i => (i.zero, i.size, i.bytes)) = some (some z, m, b)) (hz : z.cells.size = m) (hm : 0 < m) (hb24 : b ≤ 24)
    (base : Nat) (v : Value) (n : Nat) (xs : List Value) (hs : a.eval s = v) (hown : w.ownsRow base e m v n xs) (q c : Nat) (cs : Array Value) (hx : a.eval x = .slice (some ⟨q, 0, none⟩) 1 c) (hq : w.heap[q]? = some (.cells cs e (0, 0)))
    (hl : cs.size = m) (h1 : ∀ u ∈ cs.toList, u.oneCell' = true) (hn : n ≤ 1000000) (hbase : base ≤ w.heap.size)
    (h : ∀ p c' N w', Hid (N = n + 1) → w'.ownsRow base e m (.slice p N c') N (xs ++ cs.toList) → w.grownBy w' v.ownBlock → wpListIn F k Tryz.prog ops Q rest (a.put o.dst (.slice p N c')) w') : wpListIn F k Tryz.prog ops Q (o :: rest) a w := by
  obtain ⟨i0, hi0, hz0, hz1, hz2⟩ := info_parts hi
  refine wpListIn_append_own w hgd s x t ho base e i0 z m b ht hi0 hz0 hz1 hz2 hz hm v n xs hs hown ⟨q, 0, none⟩ 1 c cs.toList hx (by simpa using hl) (fun j u hu => ?_) h1 (by unfold maxLen; omega) (by have := Nat.mul_le_mul (show n + 1 ≤ 1000001 by omega) hb24; omega) hbase ?_
  · exact World.news_of_block hq j u hu
  · intro v' w' h2 h3 _
    obtain ⟨p, c', rfl⟩ := row_form h2
    exact h p c' (n + 1) w' (Lib.hid rfl) h2 h3
/-- a change's line: what the append leaves -/
theorem GS.boxg {W : World} {B C : Nat} {x : Wv} {vn vw vc : Value} {ok named : Bool} {V0 w w2 : World} (h : GS W B C x vn vw vc ok named V0 w) (hg : w.grownBy w2 vc.ownBlock) : Box4 w2 W.heap.size vn vw vc (.int .i64 x.last) ∧ Boxed w2 (W.heap.size + 1) 4 (.bool ok) := by
  have hb : ∀ T, T ≠ 50 → ∀ b, vc.ownBlock = some b → ∃ cur e fr, w.heap[b]? = some (.cells cur e fr) ∧ e ≠ T := fun T hT b e => by obtain ⟨cur, fr, h1⟩ := row_block h.st.ch b e; exact ⟨cur, _, fr, h1, fun e => hT e.symm⟩
  exact ⟨(h.st.box.grown hg (hb _ (by decide))).box, bx_grown h.bo hg (hb _ (by decide))⟩
theorem GS.get {W : World} {B C : Nat} {x : Wv} {vn vw vc : Value} {ok named : Bool} {V0 V : World} (h : GS W B C x vn vw vc ok named V0 V) : GetS W C x ok named V := ⟨⟨vn, vw, vc, h.st⟩, h.bo, h.bn⟩
end Go.Proofs.YtephnfhjobkciaaGreatDoor
