/- Texts of the seat, merged. -/
import Derived.Test.YtlcfpdmicpggbaaGreatDoorEF63
import Derived.Test.YtlcfpdmicpggbaaGreatDoorEF64
set_option linter.unusedVariables false
set_option linter.unusedSimpArgs false
set_option maxRecDepth 100000
set_option maxHeartbeats 16000000
namespace Go.Proofs.Spl
open Go.Proofs.Scn
def extsL : List Ln := [[122, 101, 120, 116], [115, 101, 120, 116], [116, 114, 117, 110, 99]]
theorem ext_mem (n : Int) : extS n ∈ extsL := by
 unfold extS
 split
 ·decide
 ·split <;> decide
def HeadX (t : Tok) : Prop := t ≠ sgT [125] ∧ t ≠ sgT [41] ∧ ∀ s, t = wdT s → s ∈ extsL
theorem head_nm (s : Ln) : HeadX (nmT s) := ⟨by simp [nmT, sgT], by simp [nmT, sgT], fun r h => by simp [nmT, wdT] at h⟩
theorem head_sg {s : Ln} (h1 : s ≠ [125]) (h2 : s ≠ [41]) : HeadX (sgT s) := ⟨fun e => h1 (sg_inj e), fun e => h2 (sg_inj e), fun r h => by simp [sgT, wdT] at h⟩
theorem prim_head {x : X} {tx : List Tok} (h : Prim x tx) : ∃ t r, tx = t :: r ∧ HeadX t := by
 cases h with
 | num w v => exact ⟨_, _, rfl, by simp [numT, sgT], by simp [numT, sgT], fun s e => by simp [numT, wdT] at e⟩
 | name s => exact ⟨_, _, rfl, head_nm s⟩
 | index s a _ => exact ⟨_, _, rfl, head_nm s⟩
 | slice s a b _ _ => exact ⟨_, _, rfl, head_nm s⟩
 | un n a h1 h2 _ =>
  have : ∀ m ∈ [(1 : Int), 2, 3, 4, 5, 6], oneS m ≠ [125] ∧ oneS m ≠ [41] := by decide
  have := this n (by simp; omega)
  exact ⟨_, _, rfl, head_sg this.1 this.2⟩
 | cat l _ _ => exact ⟨_, _, rfl, head_sg (by decide) (by decide)⟩
 | rep a b _ _ => exact ⟨_, _, rfl, head_sg (by decide) (by decide)⟩
 | ext n a b _ _ _ _ => exact ⟨_, _, rfl, by simp [wdT, sgT], by simp [wdT, sgT], fun s e => by
   have : extS n = s := by simpa [wdT] using e
   rw [← this]; exact ext_mem n⟩
theorem itm_head {i : Itm} (ho : okX i.x = true) (hb : i.b = false → i.x.op ≠ 6 ∧ i.x.op ≠ 7) : ∃ t r, i.tok = t :: r ∧ HeadX t := by
 obtain ⟨b, x⟩ := i
 cases b with
 | true => exact ⟨sgT [40], _, rfl, head_sg (by decide) (by decide)⟩
 | false => exact prim_head (prim_of ho (hb rfl).1 (hb rfl).2)
theorem expr_head {x : X} (h : okX x = true) : ∃ t r, exprT x = t :: r ∧ HeadX t := by
 by_cases h7 : x.op = 7
 ·obtain ⟨a, b, c, rfl, ha, hb, hc, ht⟩ := cond_form h h7
  obtain ⟨i, t, e1, e3, e4, e6, e5, e7⟩ := part_spine ha (k := 1) (by omega)
  obtain ⟨u, r, h1, h2⟩ := itm_head e3 e6
  exact ⟨u, _, by rw [ht, e1, h1]; rfl, h2⟩
 ·obtain ⟨i, t, f1, f2, f3, f4, f5, f6, f7⟩ := spine x h h7
  obtain ⟨u, r, h1, h2⟩ := itm_head f3 f6
  exact ⟨u, _, by rw [f1, h1]; rfl, h2⟩
theorem exprs_uniq {s c : Ln} (hs : ∀ l, Stop0 (sgT s :: l)) (hc : ∀ l, Stop0 (sgT c :: l)) (hsc : s ≠ c) {l l' : List X} (h1 : l ≠ []) (h2 : l' ≠ []) (hl : l.all okX = true) (hl' : l'.all okX = true) {R R' : List Tok} (h : sepS s (l.map exprT) ++ sgT c :: R = sepS s (l'.map exprT) ++ sgT c :: R') : l = l' ∧ R = R' := by
 rw [List.all_eq_true] at hl hl'
 exact list_uniq (N := sumN sizeX l + 1) (uniq _).1 hs hc hsc l l' h1 h2 (fun x hx => ⟨Nat.lt_succ_of_le (sumN_mem sizeX hx), hl x hx⟩) hl' R R' h
def NE : List Tok → Prop
 | [] => True
 | t :: _ => t ≠ wdT elseW
theorem ne_head {t : Tok} {r : List Tok} (h : HeadX t) : NE (t :: r) := fun e => by
 have := h.2.2 elseW e
 revert this; decide
inductive SForm (put : Ln) : S → List Tok → Prop
 | assign (a b : X) : okX a = true → okX b = true → namedO a.op = true → SForm put (.mk 1 [] [a, b] []) (exprT a ++ sgT put :: (exprT b ++ [sgT [59]]))
 | ifs (x : X) (a b : S) : okX x = true → okS a = true → okS b = true → a.op = 5 → (b.op = 5 ∨ b.op = 2) →
   SForm put (.mk 2 [] [x] [a, b]) (wdT ifW :: sgT [40] :: (exprT x ++ sgT [41] :: (stmtT put a ++ (if b.op = 2 ∨ b.l ≠ [] then wdT elseW :: stmtT put b else []))))
 | case (x : X) (l : List S) : okX x = true → l ≠ [] → armsO l = true → l.all okSA = true → SForm put (.mk 3 [] [x] l) (wdT caseW :: sgT [40] :: (exprT x ++ sgT [41] :: sgT [123] :: ((l.map (stmtT put)).flatten ++ [sgT [125]])))
 | block (l : List S) : okSs l = true → SForm put (.mk 5 [] [] l) (sgT [123] :: ((l.map (stmtT put)).flatten ++ [sgT [125]]))
 | loop (n : Ln) (a b : X) (l : List S) : okX a = true → okX b = true → okSs l = true →
   SForm put (.mk 6 n [a, b] l) (wdT forW :: sgT [40] :: nmT n :: sgT [61] :: (exprT a ++ sgT [46, 46] :: (exprT b ++ sgT [41] :: sgT [123] :: ((l.map (stmtT put)).flatten ++ [sgT [125]]))))
theorem kind_ss {op : Int} {l : List S} (h3 : op ≠ 3) (hk : kindO op l = true) (hl : l.all okSA = true) : okSs l = true := by
 unfold okSs kindO at *
 rw [if_neg h3] at hk
 rw [okSAs_all, hk, hl]; rfl
theorem sform (put : Ln) {s : S} (h : okS s = true) : SForm put s (stmtT put s) := by
 obtain ⟨op, name, x, l⟩ := s
 unfold okS at h
 rw [Bool.and_eq_true, okSA_iff] at h
 simp only [S.op, S.name, S.x, S.l, Bool.and_eq_true] at h
 obtain ⟨h4, ⟨⟨hx, h0⟩, hk⟩, hl⟩ := h
 have h4' : op ≠ 4 := by simpa using h4
 rw [stmtT_eq]
 simp only [S.op, S.name, S.x, S.l]
 have hx' := List.all_eq_true.1 hx
 unfold okSt at h0
 by_cases e1 : op = 1
 ·subst e1
  simp at h0
  obtain ⟨⟨⟨rfl, h2⟩, h3⟩, rfl⟩ := h0
  match x, h2 with
  | [a, b], _ =>
   have := SForm.assign (put := put) a b (hx' a (by simp)) (hx' b (by simp)) (by simpa [targetX] using h3)
   simpa [stT, sepS] using this
 rw [if_neg e1] at h0
 by_cases e2 : op = 2
 ·subst e2
  simp at h0
  obtain ⟨⟨rfl, h2⟩, h3⟩ := h0
  match x, h2, l, h3 with
  | [x], _, [a, b], h3 =>
   simp at h3
   have hs := kind_ss (by decide) hk hl
   rw [okSs_all, List.all_eq_true] at hs
   have := SForm.ifs (put := put) x a b (hx' x (by simp)) (hs a (by simp)) (hs b (by simp)) h3.1 h3.2
   simpa [stT, listT, sepS, parT, inT] using this
 rw [if_neg e2] at h0
 by_cases e3 : op = 3
 ·subst e3
  simp at h0
  obtain ⟨⟨rfl, h2⟩, h3⟩ := h0
  match x, h2 with
  | [x], _ =>
   have := SForm.case (put := put) x l (hx' x (by simp)) h3 (by simpa [kindO] using hk) hl
   simpa [stT, listT, sepS, parT, cubT, inT] using this
 rw [if_neg e3, if_neg h4'] at h0
 have hs := kind_ss e3 hk hl
 by_cases e5 : op = 5
 ·subst e5
  simp at h0
  obtain ⟨rfl, rfl⟩ := h0
  have := SForm.block (put := put) l hs
  simpa [stT, cubT, inT] using this
 rw [if_neg e5] at h0
 by_cases e6 : op = 6
 ·subst e6
  simp at h0
  match x, h0.2 with
  | [a, b], _ =>
   have := SForm.loop (put := put) name a b l (hx' a (by simp)) (hx' b (by simp)) hs
   simpa [stT, spanT, sepS, parT, cubT, inT] using this
 rw [if_neg e6] at h0
 cases h0
def HeadS (t : Tok) : Prop := t ≠ sgT [125] ∧ t ≠ wdT elseW
theorem target_head {a : X} (ha : okX a = true) (hn : namedO a.op = true) : ∃ s r, exprT a = nmT s :: r := by
 have hp := prim_of ha (by intro e; rw [e] at hn; revert hn; decide) (by intro e; rw [e] at hn; revert hn; decide)
 generalize exprT a = tx at hp
 cases hp with
 | name s => exact ⟨_, _, rfl⟩
 | index s a _ => exact ⟨_, _, rfl⟩
 | slice s a b _ _ => exact ⟨_, _, rfl⟩
 | num w v => simp [namedO, X.op] at hn
 | un n a _ _ _ => simp [namedO, X.op] at hn
 | cat l _ _ => simp [namedO, X.op] at hn
 | rep a b _ _ => simp [namedO, X.op] at hn
 | ext n a b _ _ _ _ => simp [namedO, X.op] at hn
theorem stmt_head (put : Ln) {s : S} (h : okS s = true) : ∃ t r, stmtT put s = t :: r ∧ HeadS t := by
 have hf := sform put h
 generalize stmtT put s = ts at hf
 cases hf with
 | assign a b ha hb hn =>
  obtain ⟨s, r, e⟩ := target_head ha hn
  exact ⟨_, _, by rw [e]; rfl, by simp [nmT, sgT], by simp [nmT, wdT]⟩
 | ifs x a b _ _ _ _ _ => exact ⟨_, _, rfl, by simp [wdT, sgT], by decide⟩
 | case x l _ _ _ _ => exact ⟨_, _, rfl, by simp [wdT, sgT], by decide⟩
 | block l _ => exact ⟨_, _, rfl, by simp [sgT], by simp [wdT, sgT]⟩
 | loop n a b l _ _ _ => exact ⟨_, _, rfl, by simp [wdT, sgT], by decide⟩
def SU (put : Ln) (N : Nat) : Prop := ∀ s t, sizeS s < N → okS s = true → okS t = true → ∀ R R', NE R → NE R' → stmtT put s ++ R = stmtT put t ++ R' → s = t ∧ R = R'
theorem ne_125 (R : List Tok) : NE (sgT [125] :: R) := by simp [NE, sgT, wdT]
theorem stmts_ne (put : Ln) {l : List S} (h : ∀ s ∈ l, okS s = true) (R : List Tok) : NE ((l.map (stmtT put)).flatten ++ sgT [125] :: R) := by
 match l with
 | [] => exact ne_125 R
 | s :: r =>
  obtain ⟨t, u, e, h1, h2⟩ := stmt_head put (h s (by simp))
  simp only [List.map_cons, List.flatten_cons, e, List.cons_append]
  exact h2
theorem stmts_uniq {put : Ln} {N : Nat} (hU : SU put N) : ∀ (l l' : List S), (∀ s ∈ l, sizeS s < N) → (∀ s ∈ l, okS s = true) → (∀ s ∈ l', okS s = true) → ∀ R R', (l.map (stmtT put)).flatten ++ sgT [125] :: R = (l'.map (stmtT put)).flatten ++ sgT [125] :: R' → l = l' ∧ R = R'
 | [], [], _, _, _, R, R', h => ⟨rfl, (List.cons.inj h).2⟩
 | [], s' :: l', _, _, h2, R, R', h => by
  obtain ⟨t, u, e, h3, _⟩ := stmt_head put (h2 s' (by simp))
  simp only [List.map_nil, List.flatten_nil, List.nil_append, List.map_cons, List.flatten_cons, e, List.cons_append] at h
  exact absurd (List.cons.inj h).1.symm h3
 | s :: l, [], _, h2, _, R, R', h => by
  obtain ⟨t, u, e, h3, _⟩ := stmt_head put (h2 s (by simp))
  simp only [List.map_nil, List.flatten_nil, List.nil_append, List.map_cons, List.flatten_cons, e, List.cons_append] at h
  exact absurd (List.cons.inj h).1 h3
 | s :: l, s' :: l', hs, h1, h2, R, R', h => by
  simp only [List.map_cons, List.flatten_cons, List.append_assoc] at h
  have n1 := stmts_ne put (l := l) (fun z hz => h1 z (List.mem_cons_of_mem _ hz)) R
  have n2 := stmts_ne put (l := l') (fun z hz => h2 z (List.mem_cons_of_mem _ hz)) R'
  obtain ⟨rfl, h3⟩ := hU s s' (hs s (by simp)) (h1 s (by simp)) (h2 s' (by simp)) _ _ n1 n2 h
  obtain ⟨rfl, h4⟩ := stmts_uniq hU l l' (fun z hz => hs z (List.mem_cons_of_mem _ hz)) (fun z hz => h1 z (List.mem_cons_of_mem _ hz)) (fun z hz => h2 z (List.mem_cons_of_mem _ hz)) R R' h3
  exact ⟨rfl, h4⟩
theorem skids_less {x y : S} (h : y ∈ x.l) : sizeS y < sizeS x := by
 rw [sizeS_eq x, sizeSs_sum]
 have := sumN_mem sizeS h
 omega
theorem okSs_each {l : List S} (h : okSs l = true) : ∀ s ∈ l, okS s = true := by
 rw [okSs_all, List.all_eq_true] at h
 exact h
theorem arm_form (put : Ln) {a : S} (h4 : a.op = 4) (h : okSA a = true) : ∃ x b, a = .mk 4 [] x b ∧ x.all okX = true ∧ okSs b = true ∧
  stmtT put a = (if x ≠ [] then sepS [44] (x.map exprT) ++ sgT [58] :: sgT [123] :: ((b.map (stmtT put)).flatten ++ [sgT [125]]) else if b = [] then [] else wdT elseW :: sgT [58] :: sgT [123] :: ((b.map (stmtT put)).flatten ++ [sgT [125]])) := by
 obtain ⟨op, name, x, l⟩ := a
 simp only [S.op] at h4
 subst h4
 rw [okSA_iff] at h
 simp only [S.op, S.name, S.x, S.l, Bool.and_eq_true] at h
 obtain ⟨⟨⟨hx, h0⟩, hk⟩, hl⟩ := h
 obtain rfl : name = [] := by simpa [okSt] using h0
 refine ⟨x, l, rfl, hx, kind_ss (by decide) hk hl, ?_⟩
 rw [stmtT_eq]
 rfl
theorem arms_uniq {put : Ln} {N : Nat} (hU : SU put N) : ∀ (l l' : List S), l ≠ [] → l' ≠ [] → armsO l = true → armsO l' = true → (∀ s ∈ l, sizeS s ≤ N) → l.all okSA = true → l'.all okSA = true → ∀ R R',
  (l.map (stmtT put)).flatten ++ sgT [125] :: R = (l'.map (stmtT put)).flatten ++ sgT [125] :: R' → l = l' ∧ R = R'
 | [], _, h, _, _, _, _, _, _, _, _, _ => absurd rfl h
 | _, [], _, h, _, _, _, _, _, _, _, _ => absurd rfl h
 | a :: r, a' :: r', _, _, g, g', hs, hl, hl', R, R', h => by
  rw [armsO] at g g'
  simp only [Bool.and_eq_true, beq_iff_eq] at g g'
  rw [List.all_cons, Bool.and_eq_true] at hl hl'
  obtain ⟨x, b, rfl, hx, hb, e⟩ := arm_form put g.1.1 hl.1
  obtain ⟨x', b', rfl, hx', hb', e'⟩ := arm_form put g'.1.1 hl'.1
  have sb : ∀ s ∈ b, sizeS s < N := fun s h => Nat.lt_of_lt_of_le (skids_less (x := .mk 4 [] x b) h) (hs _ (by simp))
  have ex : x.isEmpty = r.isEmpty := g.1.2
  have ex' : x'.isEmpty = r'.isEmpty := g'.1.2
  have E1 : x = [] → b = [] → stmtT put (.mk 4 [] x b) = [] := fun c d => by rw [e, if_neg (fun h => h c), if_pos d]
  have E2 : x = [] → b ≠ [] → stmtT put (.mk 4 [] x b) = wdT elseW :: sgT [58] :: sgT [123] :: ((b.map (stmtT put)).flatten ++ [sgT [125]]) := fun c d => by rw [e, if_neg (fun h => h c), if_neg d]
  have E3 : x ≠ [] → stmtT put (.mk 4 [] x b) = sepS [44] (x.map exprT) ++ sgT [58] :: sgT [123] :: ((b.map (stmtT put)).flatten ++ [sgT [125]]) := fun c => by rw [e, if_pos c]
  have E1' : x' = [] → b' = [] → stmtT put (.mk 4 [] x' b') = [] := fun c d => by rw [e', if_neg (fun h => h c), if_pos d]
  have E2' : x' = [] → b' ≠ [] → stmtT put (.mk 4 [] x' b') = wdT elseW :: sgT [58] :: sgT [123] :: ((b'.map (stmtT put)).flatten ++ [sgT [125]]) := fun c d => by rw [e', if_neg (fun h => h c), if_neg d]
  have E3' : x' ≠ [] → stmtT put (.mk 4 [] x' b') = sepS [44] (x'.map exprT) ++ sgT [58] :: sgT [123] :: ((b'.map (stmtT put)).flatten ++ [sgT [125]]) := fun c => by rw [e', if_pos c]
  clear e e'
  have first : ∀ z : List X, z ≠ [] → z.all okX = true → ∃ t u, sepS [44] (z.map exprT) = t :: u ∧ HeadX t := by
   intro z hz hok
   match z, hz with
   | y :: q, _ =>
    obtain ⟨t, u, e3, h3⟩ := expr_head (List.all_eq_true.1 hok y (by simp))
    cases q with
    | nil => exact ⟨t, u, by simp [sepS, e3], h3⟩
    | cons z q => exact ⟨t, _, by simp only [List.map_cons, sepS, e3]; rfl, h3⟩
  rw [List.map_cons, List.flatten_cons, List.map_cons, List.flatten_cons] at h
  by_cases c : x = []
  ·have hr : r = [] := by rw [c] at ex; simpa using ex.symm
   subst hr
   by_cases c' : x' = []
   ·have hr' : r' = [] := by rw [c'] at ex'; simpa using ex'.symm
    subst hr'
    by_cases d : b = []
    ·by_cases d' : b' = []
     ·rw [E1 c d, E1' c' d'] at h
      subst c c' d d'
      exact ⟨rfl, (List.cons.inj h).2⟩
     ·rw [E1 c d, E2' c' d'] at h
      simp [sgT, wdT] at h
    ·by_cases d' : b' = []
     ·rw [E2 c d, E1' c' d'] at h
      simp [sgT, wdT] at h
     ·rw [E2 c d, E2' c' d'] at h
      simp only [List.map_nil, List.flatten_nil, List.append_nil, List.cons_append, List.append_assoc, List.nil_append] at h
      obtain ⟨rfl, h2⟩ := stmts_uniq hU b b' sb (okSs_each hb) (okSs_each hb') _ _ (List.cons.inj (List.cons.inj (List.cons.inj h).2).2).2
      subst c c'
      exact ⟨rfl, (List.cons.inj h2).2⟩
   ·obtain ⟨t, u, e4, h3⟩ := first x' c' hx'
    rw [E3' c', e4] at h
    by_cases d : b = []
    ·rw [E1 c d] at h
     simp only [List.map_nil, List.flatten_nil, List.append_nil, List.cons_append, List.append_assoc, List.nil_append] at h
     exact absurd (List.cons.inj h).1.symm h3.1
    ·rw [E2 c d] at h
     simp only [List.map_nil, List.flatten_nil, List.append_nil, List.cons_append, List.append_assoc, List.nil_append] at h
     exact absurd (List.cons.inj h).1.symm (ne_head (r := []) h3)
  ·by_cases c' : x' = []
   ·have hr' : r' = [] := by rw [c'] at ex'; simpa using ex'.symm
    subst hr'
    obtain ⟨t, u, e4, h3⟩ := first x c hx
    rw [E3 c, e4] at h
    by_cases d : b' = []
    ·rw [E1' c' d] at h
     simp only [List.map_nil, List.flatten_nil, List.append_nil, List.cons_append, List.append_assoc, List.nil_append] at h
     exact absurd (List.cons.inj h).1 h3.1
    ·rw [E2' c' d] at h
     simp only [List.map_nil, List.flatten_nil, List.append_nil, List.cons_append, List.append_assoc, List.nil_append] at h
     exact absurd (List.cons.inj h).1 (ne_head (r := []) h3)
   ·rw [E3 c, E3' c'] at h
    simp only [List.cons_append, List.append_assoc, List.nil_append] at h
    obtain ⟨rfl, h2⟩ := exprs_uniq s44 s58 (by decide) c c' hx hx' h
    obtain ⟨rfl, h3⟩ := stmts_uniq hU b b' sb (okSs_each hb) (okSs_each hb') _ _ (List.cons.inj h2).2
    have hr : r ≠ [] := by
     intro e; rw [e] at ex; exact c (by simpa using ex)
    have hr' : r' ≠ [] := by
     intro e; rw [e] at ex'; exact c (by simpa using ex')
    obtain ⟨rfl, h4⟩ := arms_uniq hU r r' hr hr' g.2 g'.2 (fun s h => hs s (List.mem_cons_of_mem _ h)) hl.2 hl'.2 R R' h3
    exact ⟨rfl, h4⟩
theorem s_put {put : Ln} (h : put = [61] ∨ put = [60, 61]) (R : List Tok) : NB (sgT put :: R) := fun e => by
 have := sg_inj e
 rcases h with rfl | rfl <;> simp at this
theorem stmt_uniq {put : Ln} (hput : put = [61] ∨ put = [60, 61]) : ∀ N, SU put N
 | 0 => fun s t h => absurd h (by omega)
 | N + 1 => by
  have hU := stmt_uniq hput N
  intro s t hsz hs ht R R' hR hR' h
  have fs := sform put hs
  have ft := sform put ht
  have kid : ∀ z ∈ s.l, sizeS z < N := fun z hz => Nat.lt_of_lt_of_le (skids_less hz) (Nat.le_of_lt_succ hsz)
  generalize stmtT put s = ts at fs h
  generalize stmtT put t = tt at ft h
  cases fs with
  | assign a b ha hb hn =>
   obtain ⟨sa, ra, ea⟩ := target_head ha hn
   cases ft with
   | assign a' b' ha' hb' hn' =>
    simp only [List.append_assoc, List.cons_append, List.nil_append] at h
    have n6 : ∀ {z : X}, namedO z.op = true → z.op ≠ 6 := fun h e => by rw [e] at h; revert h; decide
    have n7 : ∀ {z : X}, namedO z.op = true → z.op ≠ 7 := fun h e => by rw [e] at h; revert h; decide
    obtain ⟨hu, hp⟩ := uniq (sizeX a)
    obtain ⟨rfl, h2⟩ := prim_uniq hu hp (prim_of ha (n6 hn) (n7 hn)) (prim_of ha' (n6 hn') (n7 hn')) (Nat.le_refl _) (s_put hput _) (s_put hput _) h
    obtain ⟨rfl, h3⟩ := expr_uniq hb hb' (s59 _) (s59 _) (List.cons.inj h2).2
    exact ⟨rfl, (List.cons.inj h3).2⟩
   | ifs x' a' b' _ _ _ _ _ => rw [ea] at h; simp [nmT, wdT] at h
   | case x' l' _ _ _ _ => rw [ea] at h; simp [nmT, wdT] at h
   | block l' _ => rw [ea] at h; simp [nmT, sgT] at h
   | loop n' a' b' l' _ _ _ => rw [ea] at h; simp [nmT, wdT] at h
  | ifs x a b hx ha hb h5 h52 =>
   cases ft with
   | ifs x' a' b' hx' ha' hb' h5' h52' =>
    simp only [List.append_assoc, List.cons_append, List.nil_append] at h
    obtain ⟨rfl, h2⟩ := expr_uniq hx hx' (s41 _) (s41 _) (List.cons.inj (List.cons.inj h).2).2
    have h3 := (List.cons.inj h2).2
    have ka := kid a (by simp [S.l])
    have kb := kid b (by simp [S.l])
    have blk : a = a' ∧ (if b.op = 2 ∨ b.l ≠ [] then wdT elseW :: stmtT put b else []) ++ R = (if b'.op = 2 ∨ b'.l ≠ [] then wdT elseW :: stmtT put b' else []) ++ R' := by
     have fa := sform put ha
     have fa' := sform put ha'
     generalize stmtT put a = ta at fa h3
     generalize stmtT put a' = ta' at fa' h3
     cases fa with
     | block l hl =>
      cases fa' with
      | block l' hl' =>
       simp only [List.append_assoc, List.cons_append, List.nil_append] at h3
       obtain ⟨rfl, h4⟩ := stmts_uniq hU l l' (fun z hz => Nat.lt_trans (skids_less (x := .mk 5 [] [] l) hz) ka) (okSs_each hl) (okSs_each hl') _ _ (List.cons.inj h3).2
       exact ⟨rfl, h4⟩
      | _ => simp [S.op] at h5'
     | _ => simp [S.op] at h5
    obtain ⟨rfl, h4⟩ := blk
    by_cases c : b.op = 2 ∨ b.l ≠ []
    ·by_cases c' : b'.op = 2 ∨ b'.l ≠ []
     ·rw [if_pos c, if_pos c'] at h4
      obtain ⟨rfl, h6⟩ := hU b b' kb hb hb' R R' hR hR' (List.cons.inj h4).2
      exact ⟨rfl, h6⟩
     ·rw [if_pos c, if_neg c'] at h4
      simp only [List.nil_append, List.cons_append] at h4
      rw [← h4] at hR'
      exact absurd rfl hR'
    ·by_cases c' : b'.op = 2 ∨ b'.l ≠ []
     ·rw [if_neg c, if_pos c'] at h4
      simp only [List.nil_append, List.cons_append] at h4
      rw [h4] at hR
      exact absurd rfl hR
     ·rw [if_neg c, if_neg c'] at h4
      have e : ∀ z : S, okS z = true → ¬ (z.op = 2 ∨ z.l ≠ []) → (z.op = 5 ∨ z.op = 2) → z = .mk 5 [] [] [] := by
       intro z hz hc ho
       have fz := sform put hz
       generalize stmtT put z = tz at fz
       cases fz with
       | block l hl =>
        have : l = [] := by
         have := fun e => hc (.inr e)
         simpa [S.l] using this
        rw [this]
       | ifs => exact absurd (.inl rfl) hc
       | assign => simp [S.op] at ho
       | case => simp [S.op] at ho
       | loop => simp [S.op] at ho
      rw [e b hb c h52, e b' hb' c' h52']
      exact ⟨rfl, h4⟩
   | assign a' b' ha' hb' hn' =>
    obtain ⟨sa, ra, ea⟩ := target_head ha' hn'
    rw [ea] at h; simp [nmT, wdT] at h
   | case x' l' _ _ _ _ => exact absurd (List.cons.inj h).1 (by decide)
   | block l' _ => simp [wdT, sgT] at h
   | loop n' a' b' l' _ _ _ => exact absurd (List.cons.inj h).1 (by decide)
  | case x l hx hne hao hall =>
   cases ft with
   | case x' l' hx' hne' hao' hall' =>
    simp only [List.append_assoc, List.cons_append, List.nil_append] at h
    obtain ⟨rfl, h2⟩ := expr_uniq hx hx' (s41 _) (s41 _) (List.cons.inj (List.cons.inj h).2).2
    obtain ⟨rfl, h3⟩ := arms_uniq hU l l' hne hne' hao hao' (fun z hz => Nat.le_of_lt (kid z hz)) hall hall' R R' (List.cons.inj (List.cons.inj h2).2).2
    exact ⟨rfl, h3⟩
   | assign a' b' ha' hb' hn' =>
    obtain ⟨sa, ra, ea⟩ := target_head ha' hn'
    rw [ea] at h; simp [nmT, wdT] at h
   | ifs x' a' b' _ _ _ _ _ => exact absurd (List.cons.inj h).1 (by decide)
   | block l' _ => simp [wdT, sgT] at h
   | loop n' a' b' l' _ _ _ => exact absurd (List.cons.inj h).1 (by decide)
  | block l hl =>
   cases ft with
   | block l' hl' =>
    simp only [List.append_assoc, List.cons_append, List.nil_append] at h
    obtain ⟨rfl, h3⟩ := stmts_uniq hU l l' kid (okSs_each hl) (okSs_each hl') R R' (List.cons.inj h).2
    exact ⟨rfl, h3⟩
   | assign a' b' ha' hb' hn' =>
    obtain ⟨sa, ra, ea⟩ := target_head ha' hn'
    rw [ea] at h; simp [nmT, sgT] at h
   | ifs x' a' b' _ _ _ _ _ => simp [wdT, sgT] at h
   | case x' l' _ _ _ _ => simp [wdT, sgT] at h
   | loop n' a' b' l' _ _ _ => simp [wdT, sgT] at h
  | loop n a b l ha hb hl =>
   cases ft with
   | loop n' a' b' l' ha' hb' hl' =>
    simp only [List.append_assoc, List.cons_append, List.nil_append] at h
    have h1 := List.cons.inj (List.cons.inj (List.cons.inj h).2).2
    obtain rfl : n = n' := by simpa [nmT] using h1.1
    obtain ⟨rfl, h2⟩ := expr_uniq ha ha' (s46 _) (s46 _) (List.cons.inj h1.2).2
    obtain ⟨rfl, h3⟩ := expr_uniq hb hb' (s41 _) (s41 _) (List.cons.inj h2).2
    obtain ⟨rfl, h4⟩ := stmts_uniq hU l l' kid (okSs_each hl) (okSs_each hl') R R' (List.cons.inj (List.cons.inj h3).2).2
    exact ⟨rfl, h4⟩
   | assign a' b' ha' hb' hn' =>
    obtain ⟨sa, ra, ea⟩ := target_head ha' hn'
    rw [ea] at h; simp [nmT, wdT] at h
   | ifs x' a' b' _ _ _ _ _ => exact absurd (List.cons.inj h).1 (by decide)
   | block l' _ => simp [wdT, sgT] at h
   | case x' l' _ _ _ _ => exact absurd (List.cons.inj h).1 (by decide)
theorem stmt_inj {put : Ln} (hput : put = [61] ∨ put = [60, 61]) {s t : S} (hs : okS s = true) (ht : okS t = true) (h : stmtT put s = stmtT put t) : s = t :=
 (stmt_uniq hput (sizeS s + 1) s t (by omega) hs ht [] [] trivial trivial (by rw [List.append_nil, List.append_nil]; exact h)).1
theorem block_uniq {put : Ln} (hput : put = [61] ∨ put = [60, 61]) {l l' : List S} (hl : okSs l = true) (hl' : okSs l' = true) {R R' : List Tok} (h : blockT put l ++ R = blockT put l' ++ R') : l = l' ∧ R = R' := by
 unfold blockT cubT inT at h
 rw [stmtsT_map, stmtsT_map] at h
 simp only [List.append_assoc, List.cons_append, List.nil_append] at h
 exact stmts_uniq (stmt_uniq hput (sumN sizeS l + 1)) l l' (fun z hz => Nat.lt_succ_of_le (sumN_mem sizeS hz)) (okSs_each hl) (okSs_each hl') R R' (List.cons.inj h).2
end Go.Proofs.Spl
namespace Go.Proofs.Spl
open Go.Proofs.Scn
def tailS (s : Ln) : List (List Tok) → List Tok
 | [] => []
 | a :: r => sgT s :: sepS s (a :: r)
theorem sepS_cons (s : Ln) (a : List Tok) : ∀ r, sepS s (a :: r) = a ++ tailS s r
 | [] => by simp [sepS, tailS]
 | b :: r => by simp [sepS, tailS]
theorem seps_uniq {α : Type} {tk : α → List Tok} {ok : α → Prop} {s c : Ln} (hsc : s ≠ c) (hs : ∀ l, Stop0 (sgT s :: l)) (hc : ∀ l, Stop0 (sgT c :: l))
  (hu : ∀ x y R R', ok x → ok y → Stop0 R → Stop0 R' → tk x ++ R = tk y ++ R' → x = y ∧ R = R') (hh : ∀ x, ok x → ∃ t r, tk x = t :: r ∧ t ≠ sgT c) :
  ∀ l l' : List α, (∀ x ∈ l, ok x) → (∀ x ∈ l', ok x) → ∀ R R', sepS s (l.map tk) ++ sgT c :: R = sepS s (l'.map tk) ++ sgT c :: R' → l = l' ∧ R = R'
 | [], [], _, _, R, R', h => ⟨rfl, (List.cons.inj h).2⟩
 | [], b :: l', _, h2, R, R', h => by
  obtain ⟨t, r, e, ht⟩ := hh b (h2 b (by simp))
  rw [List.map_cons, sepS_cons, e] at h
  exact absurd (List.cons.inj h).1.symm ht
 | a :: l, [], h1, _, R, R', h => by
  obtain ⟨t, r, e, ht⟩ := hh a (h1 a (by simp))
  rw [List.map_cons, sepS_cons, e] at h
  exact absurd (List.cons.inj h).1 ht
 | a :: l, b :: l', h1, h2, R, R', h => by
  rw [List.map_cons, sepS_cons, List.map_cons, sepS_cons, List.append_assoc, List.append_assoc] at h
  have st : ∀ (m : List α) (Q : List Tok), Stop0 (tailS s (m.map tk) ++ sgT c :: Q) := by
   intro m Q
   match m with
   | [] => exact hc Q
   | z :: m => exact hs _
  obtain ⟨rfl, h3⟩ := hu a b _ _ (h1 a (by simp)) (h2 b (by simp)) (st l R) (st l' R') h
  match l, l', h3 with
  | [], [], h3 => exact ⟨rfl, (List.cons.inj h3).2⟩
  | [], z :: l', h3 => exact absurd (sg_inj (List.cons.inj h3).1).symm hsc
  | z :: l, [], h3 => exact absurd (sg_inj (List.cons.inj h3).1) hsc
  | z :: l, z' :: l', h3 =>
   obtain ⟨e, h4⟩ := seps_uniq hsc hs hc hu hh (z :: l) (z' :: l') (fun y hy => h1 y (List.mem_cons_of_mem _ hy)) (fun y hy => h2 y (List.mem_cons_of_mem _ hy)) R R' (List.cons.inj h3).2
   exact ⟨by rw [e], h4⟩
theorem bind_uniq (x y : Bd) (R R' : List Tok) (hx : okB x = true) (hy : okB y = true) (hR : Stop0 R) (hR' : Stop0 R') (h : bindT x ++ R = bindT y ++ R') : x = y ∧ R = R' := by
 obtain ⟨n, x⟩ := x
 obtain ⟨m, y⟩ := y
 simp only [okB, Bool.and_eq_true] at hx hy
 have h1 := List.cons.inj h
 obtain rfl : n = m := by simpa [nmT] using h1.1
 obtain ⟨rfl, h3⟩ := expr_uniq hx.2 hy.2 hR hR' (List.cons.inj h1.2).2
 exact ⟨rfl, h3⟩
theorem port_uniq (x y : Pt) (R R' : List Tok) (hx : okP x = true) (hy : okP y = true) (hR : Stop0 R) (hR' : Stop0 R') (h : portT x ++ R = portT y ++ R') : x = y ∧ R = R' := by
 obtain ⟨n, o, x⟩ := x
 obtain ⟨m, o', y⟩ := y
 simp only [okP, Bool.and_eq_true] at hx hy
 have h0 := List.cons.inj h
 obtain rfl : o = o' := by
  have := h0.1
  cases o <;> cases o' <;> simp [wdT] at this ⊢
 have h1 := List.cons.inj h0.2
 obtain rfl : n = m := by simpa [nmT] using h1.1
 obtain ⟨rfl, h3⟩ := expr_uniq hx.2 hy.2 hR hR' (List.cons.inj h1.2).2
 exact ⟨rfl, h3⟩
theorem binds_uniq {l l' : List Bd} (h1 : l.all okB = true) (h2 : l'.all okB = true) {R R' : List Tok} (h : bindsT l ++ R = bindsT l' ++ R') : l = l' ∧ R = R' := by
 rw [List.all_eq_true] at h1 h2
 unfold bindsT parT inT at h
 simp only [List.append_assoc, List.cons_append, List.nil_append] at h
 exact seps_uniq (ok := fun b => okB b = true) (by decide) s44 s41 bind_uniq (fun x _ => ⟨_, _, rfl, by simp [nmT, sgT]⟩) l l' h1 h2 R R' (List.cons.inj h).2
theorem params_uniq {l l' : List Bd} (h1 : l.all okB = true) (h2 : l'.all okB = true) {R R' : List Tok} (h : paramsT l ++ sgT [40] :: R = paramsT l' ++ sgT [40] :: R') : l = l' ∧ R = R' := by
 unfold paramsT at h
 by_cases c : l = []
 ·by_cases c' : l' = []
  ·subst c; subst c'
   exact ⟨rfl, (List.cons.inj h).2⟩
  ·rw [if_pos c, if_neg c'] at h
   exact absurd (List.cons.inj h).1 (by decide)
 ·by_cases c' : l' = []
  ·rw [if_neg c, if_pos c'] at h
   exact absurd (List.cons.inj h).1 (by decide)
  ·rw [if_neg c, if_neg c'] at h
   obtain ⟨e, h3⟩ := binds_uniq h1 h2 (List.cons.inj h).2
   exact ⟨e, (List.cons.inj h3).2⟩
inductive IForm : It → List Tok → Prop
 | const (n : Ln) (x : X) : okX x = true → IForm (.mk 1 n [] [x] [] [] [] [] []) (wdT [99, 111, 110, 115, 116] :: nmT n :: sgT [61] :: (exprT x ++ [sgT [59]]))
 | wire (n : Ln) (x : X) : okX x = true → IForm (.mk 2 n [] [x] [] [] [] [] []) (wdT [119, 105, 114, 101] :: nmT n :: sgT [58] :: (exprT x ++ [sgT [59]]))
 | reg (n : Ln) (x y : X) : okX x = true → okX y = true → IForm (.mk 3 n [] [x, y] [] [] [] [] []) (wdT [114, 101, 103] :: nmT n :: sgT [58] :: (exprT x ++ sgT [61] :: (exprT y ++ [sgT [59]])))
 | assign (x y : X) : okX x = true → okX y = true → IForm (.mk 4 [] [] [x, y] [] [] [] [] []) (wdT [97, 115, 115, 105, 103, 110] :: (exprT x ++ sgT [61] :: (exprT y ++ [sgT [59]])))
 | comb (s : List S) : okSs s = true → IForm (.mk 5 [] [] [] s [] [] [] []) (wdT [99, 111, 109, 98] :: blockT [61] s)
 | tick (s : List S) : okSs s = true → IForm (.mk 6 [] [] [] s [] [] [] []) (wdT [111, 110] :: wdT [116, 105, 99, 107] :: blockT [60, 61] s)
 | inst (n f : Ln) (ps bb : List Bd) : ps.all okB = true → bb.all okB = true → IForm (.mk 7 n f [] [] [] [] ps bb) (wdT [105, 110, 115, 116] :: nmT n :: sgT [58] :: nmT f :: (paramsT ps ++ (bindsT bb ++ [sgT [59]])))
 | ifs (x : X) (l e : List It) : okX x = true → l.all okI = true → e.all okI = true →
   IForm (.mk 8 [] [] [x] [] l e [] []) (wdT ifW :: sgT [40] :: (exprT x ++ sgT [41] :: sgT [123] :: ((l.map itemT).flatten ++ sgT [125] :: (if e = [] then [] else wdT elseW :: sgT [123] :: ((e.map itemT).flatten ++ [sgT [125]])))))
 | loop (n f : Ln) (a b : X) (l : List It) : okX a = true → okX b = true → l.all okI = true →
   IForm (.mk 9 n f [a, b] [] l [] [] []) (wdT forW :: nmT n :: sgT [40] :: nmT f :: sgT [61] :: (exprT a ++ sgT [46, 46] :: (exprT b ++ sgT [41] :: sgT [123] :: ((l.map itemT).flatten ++ [sgT [125]]))))
 | check (n : Ln) (x : X) : okX x = true → IForm (.mk 10 n [] [x] [] [] [] [] []) (wdT [99, 104, 101, 99, 107] :: nmT n :: sgT [58] :: (exprT x ++ [sgT [59]]))
theorem len_one {α : Type} {l : List α} (h : l.length = 1) : ∃ a, l = [a] := by
 match l, h with
 | [a], _ => exact ⟨a, rfl⟩
theorem len_two' {α : Type} {l : List α} (h : l.length = 2) : ∃ a b, l = [a, b] := by
 match l, h with
 | [a, b], _ => exact ⟨a, b, rfl⟩
theorem iform {t : It} (h : okI t = true) : IForm t (itemT t) := by
 obtain ⟨op, name, f, x, s, l, e, ps, bb⟩ := t
 rw [okI_iff] at h
 simp only [It.op, It.name, It.of, It.x, It.s, It.l, It.e, It.ps, It.bs, Bool.and_eq_true] at h
 obtain ⟨⟨⟨⟨⟨⟨h0, hx⟩, hs⟩, hl⟩, he⟩, hp⟩, hb⟩ := h
 rw [itemT_eq]
 simp only [It.op, It.name, It.of, It.x, It.s, It.l, It.e, It.ps, It.bs]
 have hx' := List.all_eq_true.1 hx
 unfold okIt at h0
 simp only [Bool.and_eq_true, decide_eq_true_eq] at h0
 obtain ⟨⟨⟨⟨⟨⟨⟨⟨⟨o1, o2⟩, hn⟩, hf⟩, hc⟩, ht⟩, i5⟩, i8⟩, ie⟩, i7⟩ := h0
 have hop : op = 1 ∨ op = 2 ∨ op = 3 ∨ op = 4 ∨ op = 5 ∨ op = 6 ∨ op = 7 ∨ op = 8 ∨ op = 9 ∨ op = 10 := by omega
 rcases hop with rfl | rfl | rfl | rfl | rfl | rfl | rfl | rfl | rfl | rfl <;> simp [nameI, ofI, countI] at hn hf hc i5 i8 ie i7
 ·obtain ⟨a, rfl⟩ := len_one hc
  obtain ⟨rfl, rfl⟩ := i7
  subst hf; subst i5; subst i8; subst ie
  exact .const name a (hx' a (by simp))
 ·obtain ⟨a, rfl⟩ := len_one hc
  obtain ⟨rfl, rfl⟩ := i7
  subst hf; subst i5; subst i8; subst ie
  exact .wire name a (hx' a (by simp))
 ·obtain ⟨a, b, rfl⟩ := len_two' hc
  obtain ⟨rfl, rfl⟩ := i7
  subst hf; subst i5; subst i8; subst ie
  have := IForm.reg name a b (hx' a (by simp)) (hx' b (by simp))
  simpa [itT, sepS] using this
 ·obtain ⟨a, b, rfl⟩ := len_two' hc
  obtain ⟨rfl, rfl⟩ := i7
  subst hn; subst hf; subst i5; subst i8; subst ie
  have := IForm.assign a b (hx' a (by simp)) (hx' b (by simp))
  simpa [itT, sepS] using this
 ·obtain ⟨rfl, rfl⟩ := i7
  subst hn; subst hf; subst hc; subst i8; subst ie
  exact .comb s hs
 ·obtain ⟨rfl, rfl⟩ := i7
  subst hn; subst hf; subst hc; subst i8; subst ie
  exact .tick s hs
 ·subst hc; subst i5; subst i8; subst ie
  exact .inst name f ps bb hp hb
 ·obtain ⟨a, rfl⟩ := len_one hc
  obtain ⟨rfl, rfl⟩ := i7
  subst hn; subst hf; subst i5
  have := IForm.ifs a l e (hx' a (by simp)) hl he
  simpa [itT, listT, sepS, parT, cubT, inT] using this
 ·obtain ⟨a, b, rfl⟩ := len_two' hc
  obtain ⟨rfl, rfl⟩ := i7
  subst i5; subst ie
  have := IForm.loop name f a b l (hx' a (by simp)) (hx' b (by simp)) hl
  simpa [itT, spanT, sepS, parT, cubT, inT] using this
 ·obtain ⟨a, rfl⟩ := len_one hc
  obtain ⟨rfl, rfl⟩ := i7
  subst hf; subst i5; subst i8; subst ie
  exact .check name a (hx' a (by simp))
theorem item_head {t : It} (h : okI t = true) : ∃ w r, itemT t = wdT w :: r ∧ w ≠ elseW := by
 have hf := iform h
 generalize itemT t = ts at hf
 cases hf <;> exact ⟨_, _, rfl, by decide⟩
def IU (N : Nat) : Prop := ∀ s t, sizeI s < N → okI s = true → okI t = true → ∀ R R', NE R → NE R' → itemT s ++ R = itemT t ++ R' → s = t ∧ R = R'
theorem items_ne {l : List It} (h : ∀ s ∈ l, okI s = true) (R : List Tok) : NE ((l.map itemT).flatten ++ sgT [125] :: R) := by
 match l with
 | [] => exact ne_125 R
 | s :: r =>
  obtain ⟨w, u, e, h1⟩ := item_head (h s (by simp))
  simp only [List.map_cons, List.flatten_cons, e, List.cons_append]
  exact fun e => h1 (by simpa [wdT] using e)
theorem items_uniq {N : Nat} (hU : IU N) : ∀ (l l' : List It), (∀ s ∈ l, sizeI s < N) → (∀ s ∈ l, okI s = true) → (∀ s ∈ l', okI s = true) → ∀ R R', (l.map itemT).flatten ++ sgT [125] :: R = (l'.map itemT).flatten ++ sgT [125] :: R' → l = l' ∧ R = R'
 | [], [], _, _, _, R, R', h => ⟨rfl, (List.cons.inj h).2⟩
 | [], s' :: l', _, _, h2, R, R', h => by
  obtain ⟨w, u, e, _⟩ := item_head (h2 s' (by simp))
  simp only [List.map_nil, List.flatten_nil, List.nil_append, List.map_cons, List.flatten_cons, e, List.cons_append] at h
  exact absurd (List.cons.inj h).1 (by simp [sgT, wdT])
 | s :: l, [], _, h2, _, R, R', h => by
  obtain ⟨w, u, e, _⟩ := item_head (h2 s (by simp))
  simp only [List.map_nil, List.flatten_nil, List.nil_append, List.map_cons, List.flatten_cons, e, List.cons_append] at h
  exact absurd (List.cons.inj h).1 (by simp [sgT, wdT])
 | s :: l, s' :: l', hs, h1, h2, R, R', h => by
  simp only [List.map_cons, List.flatten_cons, List.append_assoc] at h
  have n1 := items_ne (l := l) (fun z hz => h1 z (List.mem_cons_of_mem _ hz)) R
  have n2 := items_ne (l := l') (fun z hz => h2 z (List.mem_cons_of_mem _ hz)) R'
  obtain ⟨rfl, h3⟩ := hU s s' (hs s (by simp)) (h1 s (by simp)) (h2 s' (by simp)) _ _ n1 n2 h
  obtain ⟨rfl, h4⟩ := items_uniq hU l l' (fun z hz => hs z (List.mem_cons_of_mem _ hz)) (fun z hz => h1 z (List.mem_cons_of_mem _ hz)) (fun z hz => h2 z (List.mem_cons_of_mem _ hz)) R R' h3
  exact ⟨rfl, h4⟩
theorem item_uniq : ∀ N, IU N
 | 0 => fun s t h => absurd h (by omega)
 | N + 1 => by
  have hU := item_uniq N
  intro s t hsz hs ht R R' hR hR' h
  have fs := iform hs
  have ft := iform ht
  have kid : ∀ z ∈ s.l, sizeI z < N := fun z hz => by
   obtain ⟨op, name, f, x, q, l, e, ps, bb⟩ := s
   rw [sizeI, sizeIs_sum, sizeIs_sum] at hsz
   have := sumN_mem sizeI (show z ∈ l from hz)
   omega
  have kide : ∀ z ∈ s.e, sizeI z < N := fun z hz => by
   obtain ⟨op, name, f, x, q, l, e, ps, bb⟩ := s
   rw [sizeI, sizeIs_sum, sizeIs_sum] at hsz
   have := sumN_mem sizeI (show z ∈ e from hz)
   omega
  generalize itemT s = ts at fs h
  generalize itemT t = tt at ft h
  cases fs with
  | const n x hx =>
   cases ft with
   | const n' x' hx' =>
    simp only [List.append_assoc, List.cons_append, List.nil_append] at h
    have h1 := List.cons.inj (List.cons.inj h).2
    obtain rfl : n = n' := by simpa [nmT] using h1.1
    obtain ⟨rfl, h2⟩ := expr_uniq hx hx' (s59 _) (s59 _) (List.cons.inj h1.2).2
    exact ⟨rfl, (List.cons.inj h2).2⟩
   | _ => exact absurd (List.cons.inj h).1 (by decide)
  | wire n x hx =>
   cases ft with
   | wire n' x' hx' =>
    simp only [List.append_assoc, List.cons_append, List.nil_append] at h
    have h1 := List.cons.inj (List.cons.inj h).2
    obtain rfl : n = n' := by simpa [nmT] using h1.1
    obtain ⟨rfl, h2⟩ := expr_uniq hx hx' (s59 _) (s59 _) (List.cons.inj h1.2).2
    exact ⟨rfl, (List.cons.inj h2).2⟩
   | _ => exact absurd (List.cons.inj h).1 (by decide)
  | reg n x y hx hy =>
   cases ft with
   | reg n' x' y' hx' hy' =>
    simp only [List.append_assoc, List.cons_append, List.nil_append] at h
    have h1 := List.cons.inj (List.cons.inj h).2
    obtain rfl : n = n' := by simpa [nmT] using h1.1
    obtain ⟨rfl, h2⟩ := expr_uniq hx hx' (s61 _) (s61 _) (List.cons.inj h1.2).2
    obtain ⟨rfl, h3⟩ := expr_uniq hy hy' (s59 _) (s59 _) (List.cons.inj h2).2
    exact ⟨rfl, (List.cons.inj h3).2⟩
   | _ => exact absurd (List.cons.inj h).1 (by decide)
  | assign x y hx hy =>
   cases ft with
   | assign x' y' hx' hy' =>
    simp only [List.append_assoc, List.cons_append, List.nil_append] at h
    obtain ⟨rfl, h2⟩ := expr_uniq hx hx' (s61 _) (s61 _) (List.cons.inj h).2
    obtain ⟨rfl, h3⟩ := expr_uniq hy hy' (s59 _) (s59 _) (List.cons.inj h2).2
    exact ⟨rfl, (List.cons.inj h3).2⟩
   | _ => exact absurd (List.cons.inj h).1 (by decide)
  | comb q hq =>
   cases ft with
   | comb q' hq' =>
    obtain ⟨rfl, h2⟩ := block_uniq (.inl rfl) hq hq' (List.cons.inj h).2
    exact ⟨rfl, h2⟩
   | _ => exact absurd (List.cons.inj h).1 (by decide)
  | tick q hq =>
   cases ft with
   | tick q' hq' =>
    obtain ⟨rfl, h2⟩ := block_uniq (.inr rfl) hq hq' (List.cons.inj (List.cons.inj h).2).2
    exact ⟨rfl, h2⟩
   | _ => exact absurd (List.cons.inj h).1 (by decide)
  | inst n f ps bb hp hb =>
   cases ft with
   | inst n' f' ps' bb' hp' hb' =>
    have h1 := List.cons.inj (List.cons.inj h).2
    obtain rfl : n = n' := by simpa [nmT] using h1.1
    have h2 := List.cons.inj (List.cons.inj h1.2).2
    obtain rfl : f = f' := by simpa [nmT] using h2.1
    have h3 := h2.2
    have eb : ∀ (ps bb : List Bd) (Q : List Tok), (paramsT ps ++ (bindsT bb ++ [sgT [59]])) ++ Q = paramsT ps ++ sgT [40] :: (sepS [44] (bb.map bindT) ++ sgT [41] :: sgT [59] :: Q) := by
     intro ps bb Q
     simp [bindsT, parT, inT]
    rw [show (paramsT ps ++ (bindsT bb ++ [sgT [59]])).append R = (paramsT ps ++ (bindsT bb ++ [sgT [59]])) ++ R from rfl, show (paramsT ps' ++ (bindsT bb' ++ [sgT [59]])).append R' = (paramsT ps' ++ (bindsT bb' ++ [sgT [59]])) ++ R' from rfl, eb, eb] at h3
    obtain ⟨rfl, h4⟩ := params_uniq hp hp' h3
    rw [List.all_eq_true] at hb hb'
    obtain ⟨rfl, h5⟩ := seps_uniq (ok := fun b => okB b = true) (by decide) s44 s41 bind_uniq (fun x _ => ⟨_, _, rfl, by simp [nmT, sgT]⟩) bb bb' hb hb' _ _ h4
    exact ⟨rfl, (List.cons.inj h5).2⟩
   | _ => exact absurd (List.cons.inj h).1 (by decide)
  | ifs x l e hx hl he =>
   cases ft with
   | ifs x' l' e' hx' hl' he' =>
    rw [List.all_eq_true] at hl hl' he he'
    simp only [List.append_assoc, List.cons_append, List.nil_append] at h
    obtain ⟨rfl, h2⟩ := expr_uniq hx hx' (s41 _) (s41 _) (List.cons.inj (List.cons.inj h).2).2
    obtain ⟨rfl, h3⟩ := items_uniq hU l l' kid hl hl' _ _ (List.cons.inj (List.cons.inj h2).2).2
    by_cases c : e = []
    ·by_cases c' : e' = []
     ·rw [if_pos c, if_pos c'] at h3
      subst c; subst c'
      exact ⟨rfl, h3⟩
     ·rw [if_pos c, if_neg c'] at h3
      simp only [List.nil_append, List.cons_append] at h3
      rw [h3] at hR
      exact absurd rfl hR
    ·by_cases c' : e' = []
     ·rw [if_neg c, if_pos c'] at h3
      simp only [List.nil_append, List.cons_append] at h3
      rw [← h3] at hR'
      exact absurd rfl hR'
     ·rw [if_neg c, if_neg c'] at h3
      simp only [List.append_assoc, List.cons_append, List.nil_append] at h3
      obtain ⟨rfl, h4⟩ := items_uniq hU e e' kide he he' _ _ (List.cons.inj (List.cons.inj h3).2).2
      exact ⟨rfl, h4⟩
   | _ => exact absurd (List.cons.inj h).1 (by decide)
  | loop n f a b l ha hb hl =>
   cases ft with
   | loop n' f' a' b' l' ha' hb' hl' =>
    rw [List.all_eq_true] at hl hl'
    simp only [List.append_assoc, List.cons_append, List.nil_append] at h
    have h1 := List.cons.inj (List.cons.inj h).2
    obtain rfl : n = n' := by simpa [nmT] using h1.1
    have h2 := List.cons.inj (List.cons.inj h1.2).2
    obtain rfl : f = f' := by simpa [nmT] using h2.1
    obtain ⟨rfl, h3⟩ := expr_uniq ha ha' (s46 _) (s46 _) (List.cons.inj h2.2).2
    obtain ⟨rfl, h4⟩ := expr_uniq hb hb' (s41 _) (s41 _) (List.cons.inj h3).2
    obtain ⟨rfl, h5⟩ := items_uniq hU l l' kid hl hl' R R' (List.cons.inj (List.cons.inj h4).2).2
    exact ⟨rfl, h5⟩
   | _ => exact absurd (List.cons.inj h).1 (by decide)
  | check n x hx =>
   cases ft with
   | check n' x' hx' =>
    simp only [List.append_assoc, List.cons_append, List.nil_append] at h
    have h1 := List.cons.inj (List.cons.inj h).2
    obtain rfl : n = n' := by simpa [nmT] using h1.1
    obtain ⟨rfl, h2⟩ := expr_uniq hx hx' (s59 _) (s59 _) (List.cons.inj h1.2).2
    exact ⟨rfl, (List.cons.inj h2).2⟩
   | _ => exact absurd (List.cons.inj h).1 (by decide)
theorem module_uniq {m m' : Md} (hm : okM m = true) (hm' : okM m' = true) {R R' : List Tok} (h : moduleT m ++ R = moduleT m' ++ R') : m = m' ∧ R = R' := by
 obtain ⟨n, ps, pts, l⟩ := m
 obtain ⟨n', ps', pts', l'⟩ := m'
 simp only [okM, Bool.and_eq_true, okIs_all] at hm hm'
 obtain ⟨⟨⟨_, hp⟩, ht⟩, hl⟩ := hm
 obtain ⟨⟨⟨_, hp'⟩, ht'⟩, hl'⟩ := hm'
 rw [List.all_eq_true] at hl hl' ht ht'
 have form : ∀ (n : Ln) (ps : List Bd) (pts : List Pt) (l : List It) (Q : List Tok), moduleT ⟨n, ps, pts, l⟩ ++ Q = wdT [109, 111, 100, 117, 108, 101] :: nmT n :: (paramsT ps ++ sgT [40] :: (sepS [44] (pts.map portT) ++ sgT [41] :: sgT [123] :: ((l.map itemT).flatten ++ sgT [125] :: Q))) := by
  intro n ps pts l Q
  simp [moduleT, parT, cubT, inT, itemsT_map]
 rw [form, form] at h
 have h1 := List.cons.inj (List.cons.inj h).2
 obtain rfl : n = n' := by simpa [nmT] using h1.1
 obtain ⟨rfl, h2⟩ := params_uniq hp hp' h1.2
 obtain ⟨rfl, h3⟩ := seps_uniq (ok := fun b => okP b = true) (by decide) s44 s41 port_uniq (fun x _ => ⟨_, _, rfl, by simp [wdT, sgT]⟩) pts pts' ht ht' _ _ h2
 obtain ⟨rfl, h4⟩ := items_uniq (item_uniq (sumN sizeI l + 1)) l l' (fun z hz => Nat.lt_succ_of_le (sumN_mem sizeI hz)) hl hl' _ _ (List.cons.inj h3).2
 exact ⟨rfl, h4⟩
theorem file_inj : ∀ {f g : List Md}, f.all okM = true → g.all okM = true → fileT f = fileT g → f = g
 | [], [], _, _, _ => rfl
 | [], m :: g, _, _, h => by simp [fileT, moduleT] at h
 | m :: f, [], _, _, h => by simp [fileT, moduleT] at h
 | m :: f, m' :: g, hf, hg, h => by
  rw [List.all_cons, Bool.and_eq_true] at hf hg
  simp only [fileT, List.map_cons, List.flatten_cons] at h
  obtain ⟨rfl, h2⟩ := module_uniq hf.1 hg.1 h
  rw [file_inj hf.2 hg.2 h2]
end Go.Proofs.Spl
namespace Go.Proofs.YtlcfpdmicpggbaaGreatDoor
open Go.RowKit Go.Proofs.Spl Go.Proofs.Scn Go.Shelf Go.Stage
theorem laid_below : ∀ (l : List Obj) (W : World), Below W.heap.size W (l.foldl World.alloc W)
 | [], W => Below.refl _ _
 | o :: l, W => ((Below.refl _ _).alloc (Nat.le_refl _) o).trans ((laid_below l (W.alloc o)).mono (by simp))
theorem laid_at : ∀ (l : List Obj) (W : World) (i : Nat) (o : Obj), l[i]? = some o → (l.foldl World.alloc W).heap[W.heap.size + i]? = some o
 | [], _, i, _, h => by simp at h
 | a :: l, W, 0, o, h => by
  simp only [List.getElem?_cons_zero, Option.some.injEq] at h
  subst h
  exact ((laid_below l (W.alloc a)).block W.heap.size (by simp)).trans (World.alloc_heap_new W a)
 | a :: l, W, i + 1, o, h => by
  have := laid_at l (W.alloc a) i o (by simpa using h)
  rw [World.size_alloc] at this
  rw [show W.heap.size + (i + 1) = W.heap.size + 1 + i by omega]
  exact this
theorem wp_pre6 {P : Program} {Q : Exit → Act → World → Prop} {a : Act} {w : World} (M : Act → World → Prop) {x y z u v s rest : Code} (h1 : x.wp P (Exit.then (y.wp P (Exit.then (z.wp P (Exit.then (u.wp P (Exit.then (v.wp P (Exit.then (s.wp P (Exit.then M Q)) Q)) Q)) Q)) Q)) Q) a w) (h2 : ∀ a w, M a w → rest.wp P Q a w) : (x.seq (y.seq (z.seq (u.seq (v.seq (s.seq rest)))))).wp P Q a w :=
 wp_seq (wp_mono h1 fun e a w h => by cases e <;> first | exact wp_pre5 M h h2 | exact h)
noncomputable def tokX (x : X) : List Tok := if checkX x = 0 then exprT x else []
theorem tokX_len (x : X) (h : sizeX x ≤ 60000) : (tokX x).length ≤ 140737488351232 := by
 unfold tokX
 split
 ·have := expr_len x; omega
 ·simp
theorem tokX_eq {x y : X} (hx : checkX x = 0) (hy : checkX y = 0) : decide (tokX x = tokX y) = eqb x y := by
 unfold tokX
 rw [if_pos hx, if_pos hy]
 by_cases h : x = y
 ·rw [eqb_yes h, h]; simp
 ·rw [eqb_no h, decide_eq_false (fun e => h (expr_inj (checkX_ok.1 hx).2.2 (checkX_ok.1 hy).2.2 e))]
noncomputable def tokS (x : S) : List Tok := if checkS x = 0 then stmtT [61] x else []
theorem tokS_len (x : S) (h : sizeS x ≤ 60000) : (tokS x).length ≤ 140737488351232 := by
 unfold tokS
 split
 ·have := stmt_len [61] x; omega
 ·simp
theorem tokS_eq {x y : S} (hx : checkS x = 0) (hy : checkS y = 0) : decide (tokS x = tokS y) = eqb x y := by
 unfold tokS
 rw [if_pos hx, if_pos hy]
 by_cases h : x = y
 ·rw [eqb_yes h, h]; simp
 ·rw [eqb_no h, decide_eq_false (fun e => h (stmt_inj (.inl rfl) (checkS_ok.1 hx).2.2 (checkS_ok.1 hy).2.2 e))]
noncomputable def tokF (x : List Md) : List Tok := if checkF x = 0 then fileT x else []
theorem tokF_len (x : List Md) (h : sumN sizeM x ≤ 60000) : (tokF x).length ≤ 140737488351232 := by
 unfold tokF
 split
 ·have := file_len x; omega
 ·simp
theorem tokF_eq {x y : List Md} (hx : checkF x = 0) (hy : checkF y = 0) : decide (tokF x = tokF y) = eqb x y := by
 unfold tokF
 rw [if_pos hx, if_pos hy]
 by_cases h : x = y
 ·rw [eqb_yes h, h]; simp
 ·rw [eqb_no h, decide_eq_false (fun e => h (file_inj (checkF_ok.1 hx).2.2.2 (checkF_ok.1 hy).2.2.2 e))]
theorem one_any (x : X) (cs0 : List Value) (y : X) (cs1 : List Value) (s : S) (cs2 : List Value) (t : S) (cs3 : List Value) (f : List Md) (p4 : Option Addr) (c4 : Nat) (g : List Md) (p5 : Option Addr) (c5 : Nat) (W : World) (hB : BaseA W)
  (r0 : XR W x cs0) (r1 : XR W y cs1) (r2 : SR W s cs2) (r3 : SR W t cs3) (r4 : MsR W (.slice p4 f.length c4) f) (r5 : MsR W (.slice p5 g.length c5) g)
  (z0 : sizeX x ≤ 1048576) (m0 : smX x = true) (z1 : sizeX y ≤ 1048576) (m1 : smX y = true) (z2 : sizeS s ≤ 1048576) (m2 : smS s = true) (z3 : sizeS t ≤ 1048576) (m3 : smS t = true) (z4 : sumN sizeM f ≤ 1048576) (m4 : f.all smM = true) (z5 : sumN sizeM g ≤ 1048576) (m5 : g.all smM = true) :
  RetB 9 #[.agg cs0.toArray, .agg cs1.toArray, .agg cs2.toArray, .agg cs3.toArray, .agg #[.slice p4 f.length c4], .agg #[.slice p5 g.length c5]] W true := by
 have HQ0 := Lib.hid (fun (W9 : World) (h : Below W.heap.size W W9) => fewX_any x cs0 W9 (XR.later h _ _ r0) (by omega))
 have HT0 := Lib.hid (fun (hq : fewB (sizeX x) (deepX x) = true) (W9 : World) (h : Below W.heap.size W W9) => tokensX_any x cs0 W9 (hB.later h) (XR.later h _ _ r0) m0 (by have := fewB_le hq; omega))
 have HL0 := Lib.hid (fun (hq : fewB (sizeX x) (deepX x) = true) => tokX_len x (by have := fewB_le hq; omega))
 have HQ1 := Lib.hid (fun (W9 : World) (h : Below W.heap.size W W9) => fewX_any y cs1 W9 (XR.later h _ _ r1) (by omega))
 have HT1 := Lib.hid (fun (hq : fewB (sizeX y) (deepX y) = true) (W9 : World) (h : Below W.heap.size W W9) => tokensX_any y cs1 W9 (hB.later h) (XR.later h _ _ r1) m1 (by have := fewB_le hq; omega))
 have HL1 := Lib.hid (fun (hq : fewB (sizeX y) (deepX y) = true) => tokX_len y (by have := fewB_le hq; omega))
 have HQ2 := Lib.hid (fun (W9 : World) (h : Below W.heap.size W W9) => fewS_any s cs2 W9 (SR.later h _ _ r2) (by omega))
 have HT2 := Lib.hid (fun (hq : fewB (sizeS s) (deepS s) = true) (W9 : World) (h : Below W.heap.size W W9) => tokensS_any false s cs2 W9 (hB.later h) (SR.later h _ _ r2) m2 (by have := fewB_le hq; omega))
 have HL2 := Lib.hid (fun (hq : fewB (sizeS s) (deepS s) = true) => tokS_len s (by have := fewB_le hq; omega))
 have HQ3 := Lib.hid (fun (W9 : World) (h : Below W.heap.size W W9) => fewS_any t cs3 W9 (SR.later h _ _ r3) (by omega))
 have HT3 := Lib.hid (fun (hq : fewB (sizeS t) (deepS t) = true) (W9 : World) (h : Below W.heap.size W W9) => tokensS_any false t cs3 W9 (hB.later h) (SR.later h _ _ r3) m3 (by have := fewB_le hq; omega))
 have HL3 := Lib.hid (fun (hq : fewB (sizeS t) (deepS t) = true) => tokS_len t (by have := fewB_le hq; omega))
 have HQ4 := Lib.hid (fun (W9 : World) (h : Below W.heap.size W W9) => few_any f p4 c4 W9 (MsR.later r4 h) (by omega))
 have HT4 := Lib.hid (fun (hq : fewB (sumN sizeM f) (maxN deepM f) = true) (W9 : World) (h : Below W.heap.size W W9) => tokens_any f p4 c4 W9 (hB.later h) (MsR.later r4 h) m4 (by have := fewB_le hq; omega))
 have HL4 := Lib.hid (fun (hq : fewB (sumN sizeM f) (maxN deepM f) = true) => tokF_len f (by have := fewB_le hq; omega))
 have HQ5 := Lib.hid (fun (W9 : World) (h : Below W.heap.size W W9) => few_any g p5 c5 W9 (MsR.later r5 h) (by omega))
 have HT5 := Lib.hid (fun (hq : fewB (sumN sizeM g) (maxN deepM g) = true) (W9 : World) (h : Below W.heap.size W W9) => tokens_any g p5 c5 W9 (hB.later h) (MsR.later r5 h) m5 (by have := fewB_le hq; omega))
 have HL5 := Lib.hid (fun (hq : fewB (sumN sizeM g) (maxN deepM g) = true) => tokF_len g (by have := fewB_le hq; omega))
 have HE0 := Lib.hid (fun (W9 : World) (h : Below W.heap.size W W9) => sameX_any x (by omega) y W9 cs0 cs1 (XR.later h _ _ r0) (XR.later h _ _ r1))
 have HE2 := Lib.hid (fun (W9 : World) (h : Below W.heap.size W W9) => sameS_any s (by omega) t W9 cs2 cs3 (SR.later h _ _ r2) (SR.later h _ _ r3))
 have HE4 := Lib.hid (fun (W9 : World) (h : Below W.heap.size W W9) => same_any f g p4 p5 c4 c5 W9 (by omega) (MsR.later r4 h) (MsR.later r5 h))
 have HY0 := Lib.hid (fun h h' => tokX_eq (x := x) (y := y) h h')
 have HY2 := Lib.hid (fun h h' => tokS_eq (x := s) (y := t) h h')
 have HY4 := Lib.hid (fun h h' => tokF_eq (x := f) (y := g) h h')
 have HB := Lib.hid hB
 obtain ⟨_, ls0, rfl, hL0⟩ := XR_iff.1 r0
 obtain ⟨p0, c0, rfl, _⟩ := hL0
 obtain ⟨_, ls1, rfl, hL1⟩ := XR_iff.1 r1
 obtain ⟨p1, c1, rfl, _⟩ := hL1
 obtain ⟨xs2, ls2, rfl, hX2, hL2⟩ := SR_iff.1 r2
 obtain ⟨p2, c2, rfl, _⟩ := hL2
 obtain ⟨px2, cx2, rfl, _⟩ := hX2
 obtain ⟨xs3, ls3, rfl, hX3, hL3⟩ := SR_iff.1 r3
 obtain ⟨p3, c3, rfl, _⟩ := hL3
 obtain ⟨px3, cx3, rfl, _⟩ := hX3
 clear hB r0 r1 r2 r3 r4 r5 z0 m0 z1 m1 z2 m2 z3 m3 z4 m4 z5 m5
 generalize fewB (sizeX x) (deepX x) = q0 at *
 generalize fewB (sizeX y) (deepX y) = q1 at *
 generalize fewB (sizeS s) (deepS s) = q2 at *
 generalize fewB (sizeS t) (deepS t) = q3 at *
 generalize fewB (sumN sizeM f) (maxN deepM f) = q4 at *
 generalize fewB (sumN sizeM g) (maxN deepM g) = q5 at *
 have HT0 := Lib.hid (fun (hq : q0 = true) (W9 : World) (h : Below W.heap.size W W9) => (HT0.out hq W9 h).mono (fun e W' k => show ∃ p n c, e = .returned (.tuple #[.slice p n c, .int .i64 (checkX x)]) ∧ Toks W' (.slice p n c) (tokX x) ∧ Below W9.heap.size W9 W' by
  obtain ⟨v, rfl, hx, hb⟩ := k
  obtain ⟨p, n, c, rfl⟩ := hx.shape3
  exact ⟨p, n, c, rfl, hx.own.toks, hb⟩))
 have HT1 := Lib.hid (fun (hq : q1 = true) (W9 : World) (h : Below W.heap.size W W9) => (HT1.out hq W9 h).mono (fun e W' k => show ∃ p n c, e = .returned (.tuple #[.slice p n c, .int .i64 (checkX y)]) ∧ Toks W' (.slice p n c) (tokX y) ∧ Below W9.heap.size W9 W' by
  obtain ⟨v, rfl, hx, hb⟩ := k
  obtain ⟨p, n, c, rfl⟩ := hx.shape3
  exact ⟨p, n, c, rfl, hx.own.toks, hb⟩))
 have HT2 := Lib.hid (fun (hq : q2 = true) (W9 : World) (h : Below W.heap.size W W9) => (HT2.out hq W9 h).mono (fun e W' k => show ∃ p n c, e = .returned (.tuple #[.slice p n c, .int .i64 (checkS s)]) ∧ Toks W' (.slice p n c) (tokS s) ∧ Below W9.heap.size W9 W' by
  obtain ⟨v, rfl, hx, hb⟩ := k
  obtain ⟨p, n, c, rfl⟩ := hx.shape3
  exact ⟨p, n, c, rfl, hx.own.toks, hb⟩))
 have HT3 := Lib.hid (fun (hq : q3 = true) (W9 : World) (h : Below W.heap.size W W9) => (HT3.out hq W9 h).mono (fun e W' k => show ∃ p n c, e = .returned (.tuple #[.slice p n c, .int .i64 (checkS t)]) ∧ Toks W' (.slice p n c) (tokS t) ∧ Below W9.heap.size W9 W' by
  obtain ⟨v, rfl, hx, hb⟩ := k
  obtain ⟨p, n, c, rfl⟩ := hx.shape3
  exact ⟨p, n, c, rfl, hx.own.toks, hb⟩))
 have HT4 := Lib.hid (fun (hq : q4 = true) (W9 : World) (h : Below W.heap.size W W9) => (HT4.out hq W9 h).mono (fun e W' k => show ∃ p n c, e = .returned (.tuple #[.slice p n c, .int .i64 (checkF f)]) ∧ Toks W' (.slice p n c) (tokF f) ∧ Below W9.heap.size W9 W' by
  obtain ⟨v, rfl, hx, hb⟩ := k
  obtain ⟨p, n, c, rfl⟩ := hx.shape3
  exact ⟨p, n, c, rfl, hx.own.toks, hb⟩))
 have HT5 := Lib.hid (fun (hq : q5 = true) (W9 : World) (h : Below W.heap.size W W9) => (HT5.out hq W9 h).mono (fun e W' k => show ∃ p n c, e = .returned (.tuple #[.slice p n c, .int .i64 (checkF g)]) ∧ Toks W' (.slice p n c) (tokF g) ∧ Below W9.heap.size W9 W' by
  obtain ⟨v, rfl, hx, hb⟩ := k
  obtain ⟨p, n, c, rfl⟩ := hx.shape3
  exact ⟨p, n, c, rfl, hx.own.toks, hb⟩))
 generalize tokX x = k0 at *
 generalize checkX x = r0 at *
 generalize tokX y = k1 at *
 generalize checkX y = r1 at *
 generalize tokS s = k2 at *
 generalize checkS s = r2 at *
 generalize tokS t = k3 at *
 generalize checkS t = r3 at *
 generalize tokF f = k4 at *
 generalize checkF f = r4 at *
 generalize tokF g = k5 at *
 generalize checkF g = r5 at *
 obtain ⟨V, hV⟩ : ∃ V, V = ((((((W.alloc (.cells #[.int .i64 x.op, .string (bs x.name), .int .i64 x.n, .int .i64 x.w, .int .u64 x.v, .slice p0 x.l.length c0] 28)).alloc (.cells #[.int .i64 y.op, .string (bs y.name), .int .i64 y.n, .int .i64 y.w, .int .u64 y.v, .slice p1 y.l.length c1] 28)).alloc (.cells #[.int .i64 s.op, .string (bs s.name), .slice px2 s.x.length cx2, .slice p2 s.l.length c2] 31)).alloc (.cells #[.int .i64 t.op, .string (bs t.name), .slice px3 t.x.length cx3, .slice p3 t.l.length c3] 31)).alloc (.cells #[.slice p4 f.length c4] 24)).alloc (.cells #[.slice p5 g.length c5] 24)) := ⟨_, rfl⟩
 have XV := Lib.hid (show Below W.heap.size W V by rw [hV]; exact laid_below [.cells #[.int .i64 x.op, .string (bs x.name), .int .i64 x.n, .int .i64 x.w, .int .u64 x.v, .slice p0 x.l.length c0] 28, .cells #[.int .i64 y.op, .string (bs y.name), .int .i64 y.n, .int .i64 y.w, .int .u64 y.v, .slice p1 y.l.length c1] 28, .cells #[.int .i64 s.op, .string (bs s.name), .slice px2 s.x.length cx2, .slice p2 s.l.length c2] 31, .cells #[.int .i64 t.op, .string (bs t.name), .slice px3 t.x.length cx3, .slice p3 t.l.length c3] 31, .cells #[.slice p4 f.length c4] 24, .cells #[.slice p5 g.length c5] 24] W)
 have ra0 : V.heap[W.heap.size]? = some (.cells #[.int .i64 x.op, .string (bs x.name), .int .i64 x.n, .int .i64 x.w, .int .u64 x.v, .slice p0 x.l.length c0] 28 (0, 0)) := by rw [hV]; exact laid_at [.cells #[.int .i64 x.op, .string (bs x.name), .int .i64 x.n, .int .i64 x.w, .int .u64 x.v, .slice p0 x.l.length c0] 28, .cells #[.int .i64 y.op, .string (bs y.name), .int .i64 y.n, .int .i64 y.w, .int .u64 y.v, .slice p1 y.l.length c1] 28, .cells #[.int .i64 s.op, .string (bs s.name), .slice px2 s.x.length cx2, .slice p2 s.l.length c2] 31, .cells #[.int .i64 t.op, .string (bs t.name), .slice px3 t.x.length cx3, .slice p3 t.l.length c3] 31, .cells #[.slice p4 f.length c4] 24, .cells #[.slice p5 g.length c5] 24] W 0 _ rfl
 have HS0 := Lib.hid (show ∀ w', Below V.heap.size V w' → w'.cell? ⟨W.heap.size, 0, none⟩ = some (.int .i64 x.op) ∧ w'.cell? ⟨W.heap.size, 1, none⟩ = some (.string (bs x.name)) ∧ w'.cell? ⟨W.heap.size, 2, none⟩ = some (.int .i64 x.n) ∧ w'.cell? ⟨W.heap.size, 3, none⟩ = some (.int .i64 x.w) ∧ w'.cell? ⟨W.heap.size, 4, none⟩ = some (.int .u64 x.v) ∧ w'.cell? ⟨W.heap.size, 5, none⟩ = some (.slice p0 x.l.length c0) from fun w' h => ⟨row_cells ra0 h 0 _ rfl, row_cells ra0 h 1 _ rfl, row_cells ra0 h 2 _ rfl, row_cells ra0 h 3 _ rfl, row_cells ra0 h 4 _ rfl, row_cells ra0 h 5 _ rfl⟩)
 have ra1 : V.heap[W.heap.size + 1]? = some (.cells #[.int .i64 y.op, .string (bs y.name), .int .i64 y.n, .int .i64 y.w, .int .u64 y.v, .slice p1 y.l.length c1] 28 (0, 0)) := by rw [hV]; exact laid_at [.cells #[.int .i64 x.op, .string (bs x.name), .int .i64 x.n, .int .i64 x.w, .int .u64 x.v, .slice p0 x.l.length c0] 28, .cells #[.int .i64 y.op, .string (bs y.name), .int .i64 y.n, .int .i64 y.w, .int .u64 y.v, .slice p1 y.l.length c1] 28, .cells #[.int .i64 s.op, .string (bs s.name), .slice px2 s.x.length cx2, .slice p2 s.l.length c2] 31, .cells #[.int .i64 t.op, .string (bs t.name), .slice px3 t.x.length cx3, .slice p3 t.l.length c3] 31, .cells #[.slice p4 f.length c4] 24, .cells #[.slice p5 g.length c5] 24] W 1 _ rfl
 have HS1 := Lib.hid (show ∀ w', Below V.heap.size V w' → w'.cell? ⟨W.heap.size + 1, 0, none⟩ = some (.int .i64 y.op) ∧ w'.cell? ⟨W.heap.size + 1, 1, none⟩ = some (.string (bs y.name)) ∧ w'.cell? ⟨W.heap.size + 1, 2, none⟩ = some (.int .i64 y.n) ∧ w'.cell? ⟨W.heap.size + 1, 3, none⟩ = some (.int .i64 y.w) ∧ w'.cell? ⟨W.heap.size + 1, 4, none⟩ = some (.int .u64 y.v) ∧ w'.cell? ⟨W.heap.size + 1, 5, none⟩ = some (.slice p1 y.l.length c1) from fun w' h => ⟨row_cells ra1 h 0 _ rfl, row_cells ra1 h 1 _ rfl, row_cells ra1 h 2 _ rfl, row_cells ra1 h 3 _ rfl, row_cells ra1 h 4 _ rfl, row_cells ra1 h 5 _ rfl⟩)
 have ra2 : V.heap[W.heap.size + 2]? = some (.cells #[.int .i64 s.op, .string (bs s.name), .slice px2 s.x.length cx2, .slice p2 s.l.length c2] 31 (0, 0)) := by rw [hV]; exact laid_at [.cells #[.int .i64 x.op, .string (bs x.name), .int .i64 x.n, .int .i64 x.w, .int .u64 x.v, .slice p0 x.l.length c0] 28, .cells #[.int .i64 y.op, .string (bs y.name), .int .i64 y.n, .int .i64 y.w, .int .u64 y.v, .slice p1 y.l.length c1] 28, .cells #[.int .i64 s.op, .string (bs s.name), .slice px2 s.x.length cx2, .slice p2 s.l.length c2] 31, .cells #[.int .i64 t.op, .string (bs t.name), .slice px3 t.x.length cx3, .slice p3 t.l.length c3] 31, .cells #[.slice p4 f.length c4] 24, .cells #[.slice p5 g.length c5] 24] W 2 _ rfl
 have HS2 := Lib.hid (show ∀ w', Below V.heap.size V w' → w'.cell? ⟨W.heap.size + 2, 0, none⟩ = some (.int .i64 s.op) ∧ w'.cell? ⟨W.heap.size + 2, 1, none⟩ = some (.string (bs s.name)) ∧ w'.cell? ⟨W.heap.size + 2, 2, none⟩ = some (.slice px2 s.x.length cx2) ∧ w'.cell? ⟨W.heap.size + 2, 3, none⟩ = some (.slice p2 s.l.length c2) from fun w' h => ⟨row_cells ra2 h 0 _ rfl, row_cells ra2 h 1 _ rfl, row_cells ra2 h 2 _ rfl, row_cells ra2 h 3 _ rfl⟩)
 have ra3 : V.heap[W.heap.size + 3]? = some (.cells #[.int .i64 t.op, .string (bs t.name), .slice px3 t.x.length cx3, .slice p3 t.l.length c3] 31 (0, 0)) := by rw [hV]; exact laid_at [.cells #[.int .i64 x.op, .string (bs x.name), .int .i64 x.n, .int .i64 x.w, .int .u64 x.v, .slice p0 x.l.length c0] 28, .cells #[.int .i64 y.op, .string (bs y.name), .int .i64 y.n, .int .i64 y.w, .int .u64 y.v, .slice p1 y.l.length c1] 28, .cells #[.int .i64 s.op, .string (bs s.name), .slice px2 s.x.length cx2, .slice p2 s.l.length c2] 31, .cells #[.int .i64 t.op, .string (bs t.name), .slice px3 t.x.length cx3, .slice p3 t.l.length c3] 31, .cells #[.slice p4 f.length c4] 24, .cells #[.slice p5 g.length c5] 24] W 3 _ rfl
 have HS3 := Lib.hid (show ∀ w', Below V.heap.size V w' → w'.cell? ⟨W.heap.size + 3, 0, none⟩ = some (.int .i64 t.op) ∧ w'.cell? ⟨W.heap.size + 3, 1, none⟩ = some (.string (bs t.name)) ∧ w'.cell? ⟨W.heap.size + 3, 2, none⟩ = some (.slice px3 t.x.length cx3) ∧ w'.cell? ⟨W.heap.size + 3, 3, none⟩ = some (.slice p3 t.l.length c3) from fun w' h => ⟨row_cells ra3 h 0 _ rfl, row_cells ra3 h 1 _ rfl, row_cells ra3 h 2 _ rfl, row_cells ra3 h 3 _ rfl⟩)
 have ra4 : V.heap[W.heap.size + 4]? = some (.cells #[.slice p4 f.length c4] 24 (0, 0)) := by rw [hV]; exact laid_at [.cells #[.int .i64 x.op, .string (bs x.name), .int .i64 x.n, .int .i64 x.w, .int .u64 x.v, .slice p0 x.l.length c0] 28, .cells #[.int .i64 y.op, .string (bs y.name), .int .i64 y.n, .int .i64 y.w, .int .u64 y.v, .slice p1 y.l.length c1] 28, .cells #[.int .i64 s.op, .string (bs s.name), .slice px2 s.x.length cx2, .slice p2 s.l.length c2] 31, .cells #[.int .i64 t.op, .string (bs t.name), .slice px3 t.x.length cx3, .slice p3 t.l.length c3] 31, .cells #[.slice p4 f.length c4] 24, .cells #[.slice p5 g.length c5] 24] W 4 _ rfl
 have HS4 := Lib.hid (show ∀ w', Below V.heap.size V w' → w'.cell? ⟨W.heap.size + 4, 0, none⟩ = some (.slice p4 f.length c4) from fun w' h => row_cells ra4 h 0 _ rfl)
 have ra5 : V.heap[W.heap.size + 5]? = some (.cells #[.slice p5 g.length c5] 24 (0, 0)) := by rw [hV]; exact laid_at [.cells #[.int .i64 x.op, .string (bs x.name), .int .i64 x.n, .int .i64 x.w, .int .u64 x.v, .slice p0 x.l.length c0] 28, .cells #[.int .i64 y.op, .string (bs y.name), .int .i64 y.n, .int .i64 y.w, .int .u64 y.v, .slice p1 y.l.length c1] 28, .cells #[.int .i64 s.op, .string (bs s.name), .slice px2 s.x.length cx2, .slice p2 s.l.length c2] 31, .cells #[.int .i64 t.op, .string (bs t.name), .slice px3 t.x.length cx3, .slice p3 t.l.length c3] 31, .cells #[.slice p4 f.length c4] 24, .cells #[.slice p5 g.length c5] 24] W 5 _ rfl
 have HS5 := Lib.hid (show ∀ w', Below V.heap.size V w' → w'.cell? ⟨W.heap.size + 5, 0, none⟩ = some (.slice p5 g.length c5) from fun w' h => row_cells ra5 h 0 _ rfl)
 clear ra0 ra1 ra2 ra3 ra4 ra5
 go_enter Tryz.func9, Tryz.ntmps9
 obtain ⟨K0, hK0⟩ : ∃ K : World → Prop, K = fun w => (q0 = true ∧ q1 = true ∧ q2 = true ∧ q3 = true ∧ q4 = true ∧ q5 = true) ∧ Below V.heap.size V w := ⟨_, rfl⟩
 have HK0 := Lib.hid (show ∀ w, K0 w ↔ (q0 = true ∧ q1 = true ∧ q2 = true ∧ q3 = true ∧ q4 = true ∧ q5 = true) ∧ Below V.heap.size V w from fun w => by rw [hK0])
 clear hK0
 refine wp_pre3 (Mid 134 [(6, .pointer (some ⟨W.heap.size, 0, none⟩)), (7, .pointer (some ⟨W.heap.size + 1, 0, none⟩)), (8, .pointer (some ⟨W.heap.size + 2, 0, none⟩)), (9, .pointer (some ⟨W.heap.size + 3, 0, none⟩)), (10, .pointer (some ⟨W.heap.size + 4, 0, none⟩)), (11, .pointer (some ⟨W.heap.size + 5, 0, none⟩)), (13, .bool true)] K0) ?_ ?_
 ·go_wp2_with fail
  rw [← hV]
  clear hV
  have F1 := True.intro
  have F2 := True.intro
  have F3 := True.intro
  go_wp2_with (first
   | (go_at_call 12; refine (live_any V (HB.out.later XV.out)).mono ?_; rintro e W0 ⟨rfl, hb⟩; have Z0 := Lib.hid hb; obtain ⟨z0a, z1a, z2a, z3a, z4a, z5a⟩ := HS0.out _ Z0.out; have X0 := Lib.hid (XV.out.trans (hb.mono XV.out.size)); clear hb)
   | (go_at_call 14; clear F1; refine (HQ0.out _ X0.out).mono ?_; rintro e W1 ⟨rfl, hb⟩; have Z1 := Lib.hid (Z0.out.trans (hb.mono Z0.out.size)); obtain ⟨z0b, z1b, z2b, z3b, z4b, z5b⟩ := HS1.out _ Z1.out; have X1 := Lib.hid (X0.out.trans (hb.mono X0.out.size)); clear hb; cases q0)
   | (go_at_call 14; refine (HQ1.out _ X1.out).mono ?_; rintro e W2 ⟨rfl, hb⟩; have Z2 := Lib.hid (Z1.out.trans (hb.mono Z1.out.size)); obtain ⟨z0c, z1c, z2c, z3c⟩ := HS2.out _ Z2.out; have X2 := Lib.hid (X1.out.trans (hb.mono X1.out.size)); clear hb; cases q1)
   | (go_at_call 15; clear F2; refine (HQ2.out _ X2.out).mono ?_; rintro e W3 ⟨rfl, hb⟩; have Z3 := Lib.hid (Z2.out.trans (hb.mono Z2.out.size)); obtain ⟨z0d, z1d, z2d, z3d⟩ := HS3.out _ Z3.out; have X3 := Lib.hid (X2.out.trans (hb.mono X2.out.size)); clear hb; cases q2)
   | (go_at_call 15; refine (HQ3.out _ X3.out).mono ?_; rintro e W4 ⟨rfl, hb⟩; have Z4 := Lib.hid (Z3.out.trans (hb.mono Z3.out.size)); have za4 := HS4.out _ Z4.out; have X4 := Lib.hid (X3.out.trans (hb.mono X3.out.size)); clear hb; cases q3)
   | (go_at_call 13; clear F3; refine (HQ4.out _ X4.out).mono ?_; rintro e W5 ⟨rfl, hb⟩; have Z5 := Lib.hid (Z4.out.trans (hb.mono Z4.out.size)); have za5 := HS5.out _ Z5.out; have X5 := Lib.hid (X4.out.trans (hb.mono X4.out.size)); clear hb; cases q4)
   | (go_at_call 13; refine (HQ5.out _ X5.out).mono ?_; rintro e W6 ⟨rfl, hb⟩; have Z6 := Lib.hid (Z5.out.trans (hb.mono Z5.out.size)); have X6 := Lib.hid (X5.out.trans (hb.mono X5.out.size)); clear hb; cases q5))
  all_goals first
   | (exact ⟨rfl, rfl, by simp only [List.forall_mem_cons]; exact ⟨rfl, rfl, rfl, rfl, rfl, rfl, rfl, fun _ h => by cases h⟩, (HK0.out _).2 (by first | exact ⟨⟨by trivial, by trivial, by trivial, by trivial, by trivial, by trivial⟩, Z6.out⟩ | exact Z6.out)⟩)
   | (go_ret; exact ⟨rfl, by first | exact X6.out | exact X5.out | exact X4.out | exact X3.out | exact X2.out | exact X1.out⟩)
 clear hV HQ0 HQ1 HQ2 HQ3 HQ4 HQ5
 rintro a w hM
 obtain ⟨f1, hf, rfl, hK⟩ := hM.lit
 simp only [List.forall_mem_cons] at hf
 obtain ⟨e0, e1, e2, e3, e4, e5, e6, -⟩ := hf
 simp only [litL, Nat.zero_add, Nat.reduceAdd, e0, e1, e2, e3, e4, e5, e6]
 obtain ⟨⟨h0, h1, h2, h3, h4, h5⟩, hZ⟩ := (HK0.out _).1 hK
 have HT0 := Lib.hid (HT0.out h0)
 have HT1 := Lib.hid (HT1.out h1)
 have HT2 := Lib.hid (HT2.out h2)
 have HT3 := Lib.hid (HT3.out h3)
 have HT4 := Lib.hid (HT4.out h4)
 have HT5 := Lib.hid (HT5.out h5)
 have HL0 := Lib.hid (HL0.out h0)
 have HL2 := Lib.hid (HL2.out h2)
 have HL4 := Lib.hid (HL4.out h4)
 have Z0 := Lib.hid hZ
 have X0 := Lib.hid (XV.out.trans (hZ.mono XV.out.size))
 obtain ⟨z0a, z1a, z2a, z3a, z4a, z5a⟩ := HS0.out _ Z0.out
 clear hK h0 h1 h2 h3 h4 h5 hZ HL1 HL3 HL5 HK0 hM e0 e1 e2 e3 e4 e5 e6
 obtain ⟨K1, hK1⟩ : ∃ K : Value → Value → Value → Value → Value → Value → World → Prop, K = fun v0 v1 v2 v3 v4 v5 w => Toks w v0 k0 ∧ Toks w v1 k1 ∧ Toks w v2 k2 ∧ Toks w v3 k3 ∧ Toks w v4 k4 ∧ Toks w v5 k5 ∧ Below V.heap.size V w := ⟨_, rfl⟩
 have HK1 := Lib.hid (show ∀ v0 v1 v2 v3 v4 v5 w, K1 v0 v1 v2 v3 v4 v5 w ↔ Toks w v0 k0 ∧ Toks w v1 k1 ∧ Toks w v2 k2 ∧ Toks w v3 k3 ∧ Toks w v4 k4 ∧ Toks w v5 k5 ∧ Below V.heap.size V w from fun _ _ _ _ _ _ _ => by rw [hK1])
 clear hK1
 refine wp_pre6 (fun a w => ∃ v0 v1 v2 v3 v4 v5, Mid 134 [(6, .pointer (some ⟨W.heap.size, 0, none⟩)), (7, .pointer (some ⟨W.heap.size + 1, 0, none⟩)), (8, .pointer (some ⟨W.heap.size + 2, 0, none⟩)), (9, .pointer (some ⟨W.heap.size + 3, 0, none⟩)), (10, .pointer (some ⟨W.heap.size + 4, 0, none⟩)), (11, .pointer (some ⟨W.heap.size + 5, 0, none⟩)), (13, .bool true), (14, v0), (15, .int .i64 r0), (16, v1), (17, .int .i64 r1), (18, v2), (19, .int .i64 r2), (20, v3), (21, .int .i64 r3), (22, v4), (23, .int .i64 r4), (24, v5), (25, .int .i64 r5)] (K1 v0 v1 v2 v3 v4 v5) a w) ?_ ?_
 ·have F1 := True.intro
  have F2 := True.intro
  have F3 := True.intro
  go_wp2_with (first
   | (go_at_call 18; clear F1; refine (HT0.out _ X0.out).mono ?_; rintro e W1 ⟨u0, n0, d0, rfl, hx, hb⟩; have T0 := Lib.hid hx; have Z1 := Lib.hid (Z0.out.trans (hb.mono Z0.out.size)); obtain ⟨z0b, z1b, z2b, z3b, z4b, z5b⟩ := HS1.out _ Z1.out; have X1 := Lib.hid (X0.out.trans (hb.mono X0.out.size)); clear hb hx)
   | (go_at_call 18; refine (HT1.out _ X1.out).mono ?_; rintro e W2 ⟨u1, n1, d1, rfl, hx, hb⟩; have T0 := Lib.hid (T0.out.later hb); have T1 := Lib.hid hx; have Z2 := Lib.hid (Z1.out.trans (hb.mono Z1.out.size)); obtain ⟨z0c, z1c, z2c, z3c⟩ := HS2.out _ Z2.out; have X2 := Lib.hid (X1.out.trans (hb.mono X1.out.size)); clear hb hx)
   | (go_at_call 20; clear F2; refine (HT2.out _ X2.out).mono ?_; rintro e W3 ⟨u2, n2, d2, rfl, hx, hb⟩; have T0 := Lib.hid (T0.out.later hb); have T1 := Lib.hid (T1.out.later hb); have T2 := Lib.hid hx; have Z3 := Lib.hid (Z2.out.trans (hb.mono Z2.out.size)); obtain ⟨z0d, z1d, z2d, z3d⟩ := HS3.out _ Z3.out; have X3 := Lib.hid (X2.out.trans (hb.mono X2.out.size)); clear hb hx)
   | (go_at_call 20; refine (HT3.out _ X3.out).mono ?_; rintro e W4 ⟨u3, n3, d3, rfl, hx, hb⟩; have T0 := Lib.hid (T0.out.later hb); have T1 := Lib.hid (T1.out.later hb); have T2 := Lib.hid (T2.out.later hb); have T3 := Lib.hid hx; have Z4 := Lib.hid (Z3.out.trans (hb.mono Z3.out.size)); have za4 := HS4.out _ Z4.out; have X4 := Lib.hid (X3.out.trans (hb.mono X3.out.size)); clear hb hx)
   | (go_at_call 16; clear F3; refine (HT4.out _ X4.out).mono ?_; rintro e W5 ⟨u4, n4, d4, rfl, hx, hb⟩; have T0 := Lib.hid (T0.out.later hb); have T1 := Lib.hid (T1.out.later hb); have T2 := Lib.hid (T2.out.later hb); have T3 := Lib.hid (T3.out.later hb); have T4 := Lib.hid hx; have Z5 := Lib.hid (Z4.out.trans (hb.mono Z4.out.size)); have za5 := HS5.out _ Z5.out; have X5 := Lib.hid (X4.out.trans (hb.mono X4.out.size)); clear hb hx)
   | (go_at_call 16; refine (HT5.out _ X5.out).mono ?_; rintro e W6 ⟨u5, n5, d5, rfl, hx, hb⟩; have T0 := Lib.hid (T0.out.later hb); have T1 := Lib.hid (T1.out.later hb); have T2 := Lib.hid (T2.out.later hb); have T3 := Lib.hid (T3.out.later hb); have T4 := Lib.hid (T4.out.later hb); have T5 := Lib.hid hx; have Z6 := Lib.hid (Z5.out.trans (hb.mono Z5.out.size)); have X6 := Lib.hid (X5.out.trans (hb.mono X5.out.size)); clear hb hx))
  exact ⟨_, _, _, _, _, _, rfl, rfl, by simp only [List.forall_mem_cons]; exact ⟨rfl, rfl, rfl, rfl, rfl, rfl, rfl, rfl, rfl, rfl, rfl, rfl, rfl, rfl, rfl, rfl, rfl, rfl, rfl, fun _ h => by cases h⟩, (HK1.out _ _ _ _ _ _ _).2 ⟨T0.out, T1.out, T2.out, T3.out, T4.out, T5.out, Z6.out⟩⟩
 clear HT0 HT1 HT2 HT3 HT4 HT5 Z0 X0 z0a z1a z2a z3a z4a z5a
 rintro a w hM
 obtain ⟨v0, v1, v2, v3, v4, v5, hM⟩ := hM
 obtain ⟨f1, hf, rfl, hK⟩ := hM.lit
 simp only [List.forall_mem_cons] at hf
 obtain ⟨e0, e1, e2, e3, e4, e5, e6, e7, e8, e9, e10, e11, e12, e13, e14, e15, e16, e17, e18, -⟩ := hf
 simp only [litL, Nat.zero_add, Nat.reduceAdd, e0, e1, e2, e3, e4, e5, e6, e7, e8, e9, e10, e11, e12, e13, e14, e15, e16, e17, e18]
 obtain ⟨t0, t1, t2, t3, t4, t5, hZ⟩ := (HK1.out _ _ _ _ _ _ _).1 hK
 have T0 := Lib.hid t0
 have T1 := Lib.hid t1
 have T2 := Lib.hid t2
 have T3 := Lib.hid t3
 have T4 := Lib.hid t4
 have T5 := Lib.hid t5
 have Z0 := Lib.hid hZ
 have X0 := Lib.hid (XV.out.trans (hZ.mono XV.out.size))
 obtain ⟨u0, d0, hv⟩ := t0.form
 subst hv
 obtain ⟨u1, d1, hv⟩ := t1.form
 subst hv
 obtain ⟨u2, d2, hv⟩ := t2.form
 subst hv
 obtain ⟨u3, d3, hv⟩ := t3.form
 subst hv
 obtain ⟨u4, d4, hv⟩ := t4.form
 subst hv
 obtain ⟨u5, d5, hv⟩ := t5.form
 subst hv
 clear hK hZ hM HK1 t0 t1 t2 t3 t4 t5 e0 e1 e2 e3 e4 e5 e6 e7 e8 e9 e10 e11 e12 e13 e14 e15 e16 e17 e18
 obtain ⟨K2, hK2⟩ : ∃ K : World → Prop, K = fun w => Toks w (.slice u2 k2.length d2) k2 ∧ Toks w (.slice u3 k3.length d3) k3 ∧ Toks w (.slice u4 k4.length d4) k4 ∧ Toks w (.slice u5 k5.length d5) k5 ∧ Below V.heap.size V w := ⟨_, rfl⟩
 have HK2 := Lib.hid (show ∀ w, K2 w ↔ Toks w (.slice u2 k2.length d2) k2 ∧ Toks w (.slice u3 k3.length d3) k3 ∧ Toks w (.slice u4 k4.length d4) k4 ∧ Toks w (.slice u5 k5.length d5) k5 ∧ Below V.heap.size V w from fun _ => by rw [hK2])
 clear hK2
 have HB0 := Lib.hid (show ∀ w', Below V.heap.size V w' → w'.cell? ⟨W.heap.size, 0, none⟩ = some (.int .i64 x.op) ∧ w'.cell? ⟨W.heap.size, 1, none⟩ = some (.string (bs x.name)) ∧ w'.cell? ⟨W.heap.size, 2, none⟩ = some (.int .i64 x.n) ∧ w'.cell? ⟨W.heap.size, 3, none⟩ = some (.int .i64 x.w) ∧ w'.cell? ⟨W.heap.size, 4, none⟩ = some (.int .u64 x.v) ∧ w'.cell? ⟨W.heap.size, 5, none⟩ = some (.slice p0 x.l.length c0) ∧ w'.cell? ⟨W.heap.size + 1, 0, none⟩ = some (.int .i64 y.op) ∧ w'.cell? ⟨W.heap.size + 1, 1, none⟩ = some (.string (bs y.name)) ∧ w'.cell? ⟨W.heap.size + 1, 2, none⟩ = some (.int .i64 y.n) ∧ w'.cell? ⟨W.heap.size + 1, 3, none⟩ = some (.int .i64 y.w) ∧ w'.cell? ⟨W.heap.size + 1, 4, none⟩ = some (.int .u64 y.v) ∧ w'.cell? ⟨W.heap.size + 1, 5, none⟩ = some (.slice p1 y.l.length c1) from fun w' h => by
  obtain ⟨ca0, ca1, ca2, ca3, ca4, ca5⟩ := HS0.out _ h
  obtain ⟨cb0, cb1, cb2, cb3, cb4, cb5⟩ := HS1.out _ h
  exact ⟨ca0, ca1, ca2, ca3, ca4, ca5, cb0, cb1, cb2, cb3, cb4, cb5⟩)
 refine wp_pre1 (Mid 134 [(8, .pointer (some ⟨W.heap.size + 2, 0, none⟩)), (9, .pointer (some ⟨W.heap.size + 3, 0, none⟩)), (10, .pointer (some ⟨W.heap.size + 4, 0, none⟩)), (11, .pointer (some ⟨W.heap.size + 5, 0, none⟩)), (13, .bool true), (18, .slice u2 k2.length d2), (19, .int .i64 r2), (20, .slice u3 k3.length d3), (21, .int .i64 r3), (22, .slice u4 k4.length d4), (23, .int .i64 r4), (24, .slice u5 k5.length d5), (25, .int .i64 r5)] K2) ?_ ?_
 ·by_cases hr : r0 = 0
  case neg =>
   have h0 : (r0 == 0) = false := by simpa using hr
   clear hr
   go_wp2_with fail
   go_quiet (fail)
   go_wp2_with fail
   exact ⟨rfl, rfl, by simp only [List.forall_mem_cons]; exact ⟨rfl, rfl, rfl, rfl, rfl, rfl, rfl, rfl, rfl, rfl, rfl, rfl, rfl, fun _ h => by cases h⟩, (HK2.out _).2 ⟨T2.out.later (below_drewN (Lib.hid (Below.refl _ _)) _), T3.out.later (below_drewN (Lib.hid (Below.refl _ _)) _), T4.out.later (below_drewN (Lib.hid (Below.refl _ _)) _), T5.out.later (below_drewN (Lib.hid (Below.refl _ _)) _), below_drewN Z0 _⟩⟩
  case pos =>
  by_cases hr1 : r1 = 0
  case neg =>
   have h1 : (r1 == 0) = false := by simpa using hr1
   subst hr
   clear hr1
   go_wp2_with fail
   go_quiet (fail)
   go_wp2_with fail
   exact ⟨rfl, rfl, by simp only [List.forall_mem_cons]; exact ⟨rfl, rfl, rfl, rfl, rfl, rfl, rfl, rfl, rfl, rfl, rfl, rfl, rfl, fun _ h => by cases h⟩, (HK2.out _).2 ⟨T2.out.later (below_drewN (Lib.hid (Below.refl _ _)) _), T3.out.later (below_drewN (Lib.hid (Below.refl _ _)) _), T4.out.later (below_drewN (Lib.hid (Below.refl _ _)) _), T5.out.later (below_drewN (Lib.hid (Below.refl _ _)) _), below_drewN Z0 _⟩⟩
  case pos =>
  have HD := Lib.hid (HY0.out hr hr1)
  subst hr
  subst hr1
  obtain ⟨ca0, ca1, ca2, ca3, ca4, ca5, cb0, cb1, cb2, cb3, cb4, cb5⟩ := HB0.out _ Z0.out
  have Z1 := Lib.hid (Z0.out.drew)
  go_wp2_with fail
  go_region_held3 (fun w' => w'.cell? ⟨W.heap.size, 0, none⟩ = some (.int .i64 x.op) ∧ w'.cell? ⟨W.heap.size, 1, none⟩ = some (.string (bs x.name)) ∧ w'.cell? ⟨W.heap.size, 2, none⟩ = some (.int .i64 x.n) ∧ w'.cell? ⟨W.heap.size, 3, none⟩ = some (.int .i64 x.w) ∧ w'.cell? ⟨W.heap.size, 4, none⟩ = some (.int .u64 x.v) ∧ w'.cell? ⟨W.heap.size, 5, none⟩ = some (.slice p0 x.l.length c0) ∧ w'.cell? ⟨W.heap.size + 1, 0, none⟩ = some (.int .i64 y.op) ∧ w'.cell? ⟨W.heap.size + 1, 1, none⟩ = some (.string (bs y.name)) ∧ w'.cell? ⟨W.heap.size + 1, 2, none⟩ = some (.int .i64 y.n) ∧ w'.cell? ⟨W.heap.size + 1, 3, none⟩ = some (.int .i64 y.w) ∧ w'.cell? ⟨W.heap.size + 1, 4, none⟩ = some (.int .u64 y.v) ∧ w'.cell? ⟨W.heap.size + 1, 5, none⟩ = some (.slice p1 y.l.length c1))
   (first | exact HB0.out _ Z3.out | exact HB0.out _ Z2.out | exact HB0.out _ Z1.out | go_keep)
   (first
    | (go_at_call 22; refine (equal_any _ _ k0 k1 HL0.out _ (T0.out.later (Below.refl _ _).drew) (T1.out.later (Below.refl _ _).drew)).mono ?_; rw [HD.out]; rintro e W2 ⟨rfl, hb⟩; have Z2 := Lib.hid (Z1.out.trans (hb.mono Z1.out.size)); have BZ2 := Lib.hid ((show Below w.heap.size w _ from (Below.refl _ _).drew).trans (hb.mono (Nat.le_of_eq rfl))); clear hb)
    | (go_at_call 32; refine (HE0.out _ (XV.out.trans (Z2.out.mono XV.out.size))).mono ?_; rintro e W3 ⟨rfl, hb⟩; have Z3 := Lib.hid (Z2.out.trans (hb.mono Z2.out.size)); have BZ3 := Lib.hid (BZ2.out.trans (hb.mono BZ2.out.size)); clear hb))
  go_wp2_with fail
  exact ⟨rfl, rfl, by simp only [List.forall_mem_cons]; exact ⟨rfl, rfl, rfl, rfl, rfl, rfl, rfl, rfl, rfl, rfl, rfl, rfl, rfl, fun _ h => by cases h⟩, (HK2.out _).2 ⟨T2.out.later BZ3.out, T3.out.later BZ3.out, T4.out.later BZ3.out, T5.out.later BZ3.out, Z3.out⟩⟩
 clear T0 T1 T2 T3 T4 T5 Z0 X0 HB0 HE0 HY0 HL0 HS0 HS1
 rintro a w hM
 obtain ⟨f1, hf, rfl, hK⟩ := hM.lit
 simp only [List.forall_mem_cons] at hf
 obtain ⟨e0, e1, e2, e3, e4, e5, e6, e7, e8, e9, e10, e11, e12, -⟩ := hf
 simp only [litL, Nat.zero_add, Nat.reduceAdd, e0, e1, e2, e3, e4, e5, e6, e7, e8, e9, e10, e11, e12]
 obtain ⟨t2, t3, t4, t5, hZ⟩ := (HK2.out _).1 hK
 have T2 := Lib.hid t2
 have T3 := Lib.hid t3
 have T4 := Lib.hid t4
 have T5 := Lib.hid t5
 have Z0 := Lib.hid hZ
 have X0 := Lib.hid (XV.out.trans (hZ.mono XV.out.size))
 clear hK hZ hM HK2 t2 t3 t4 t5 e0 e1 e2 e3 e4 e5 e6 e7 e8 e9 e10 e11 e12
 obtain ⟨K4, hK4⟩ : ∃ K : World → Prop, K = fun w => Toks w (.slice u4 k4.length d4) k4 ∧ Toks w (.slice u5 k5.length d5) k5 ∧ Below V.heap.size V w := ⟨_, rfl⟩
 have HK4 := Lib.hid (show ∀ w, K4 w ↔ Toks w (.slice u4 k4.length d4) k4 ∧ Toks w (.slice u5 k5.length d5) k5 ∧ Below V.heap.size V w from fun _ => by rw [hK4])
 clear hK4
 have HB2 := Lib.hid (show ∀ w', Below V.heap.size V w' → w'.cell? ⟨W.heap.size + 2, 0, none⟩ = some (.int .i64 s.op) ∧ w'.cell? ⟨W.heap.size + 2, 1, none⟩ = some (.string (bs s.name)) ∧ w'.cell? ⟨W.heap.size + 2, 2, none⟩ = some (.slice px2 s.x.length cx2) ∧ w'.cell? ⟨W.heap.size + 2, 3, none⟩ = some (.slice p2 s.l.length c2) ∧ w'.cell? ⟨W.heap.size + 3, 0, none⟩ = some (.int .i64 t.op) ∧ w'.cell? ⟨W.heap.size + 3, 1, none⟩ = some (.string (bs t.name)) ∧ w'.cell? ⟨W.heap.size + 3, 2, none⟩ = some (.slice px3 t.x.length cx3) ∧ w'.cell? ⟨W.heap.size + 3, 3, none⟩ = some (.slice p3 t.l.length c3) from fun w' h => by
  obtain ⟨ca0, ca1, ca2, ca3⟩ := HS2.out _ h
  obtain ⟨cb0, cb1, cb2, cb3⟩ := HS3.out _ h
  exact ⟨ca0, ca1, ca2, ca3, cb0, cb1, cb2, cb3⟩)
 refine wp_pre1 (Mid 134 [(10, .pointer (some ⟨W.heap.size + 4, 0, none⟩)), (11, .pointer (some ⟨W.heap.size + 5, 0, none⟩)), (13, .bool true), (22, .slice u4 k4.length d4), (23, .int .i64 r4), (24, .slice u5 k5.length d5), (25, .int .i64 r5)] K4) ?_ ?_
 ·by_cases hr : r2 = 0
  case neg =>
   have h0 : (r2 == 0) = false := by simpa using hr
   clear hr
   go_wp2_with fail
   go_quiet (fail)
   go_wp2_with fail
   exact ⟨rfl, rfl, by simp only [List.forall_mem_cons]; exact ⟨rfl, rfl, rfl, rfl, rfl, rfl, rfl, fun _ h => by cases h⟩, (HK4.out _).2 ⟨T4.out.later (below_drewN (Lib.hid (Below.refl _ _)) _), T5.out.later (below_drewN (Lib.hid (Below.refl _ _)) _), below_drewN Z0 _⟩⟩
  case pos =>
  by_cases hr1 : r3 = 0
  case neg =>
   have h1 : (r3 == 0) = false := by simpa using hr1
   subst hr
   clear hr1
   go_wp2_with fail
   go_quiet (fail)
   go_wp2_with fail
   exact ⟨rfl, rfl, by simp only [List.forall_mem_cons]; exact ⟨rfl, rfl, rfl, rfl, rfl, rfl, rfl, fun _ h => by cases h⟩, (HK4.out _).2 ⟨T4.out.later (below_drewN (Lib.hid (Below.refl _ _)) _), T5.out.later (below_drewN (Lib.hid (Below.refl _ _)) _), below_drewN Z0 _⟩⟩
  case pos =>
  have HD := Lib.hid (HY2.out hr hr1)
  subst hr
  subst hr1
  obtain ⟨ca0, ca1, ca2, ca3, cb0, cb1, cb2, cb3⟩ := HB2.out _ Z0.out
  have Z1 := Lib.hid (Z0.out.drew)
  go_wp2_with fail
  go_region_held3 (fun w' => w'.cell? ⟨W.heap.size + 2, 0, none⟩ = some (.int .i64 s.op) ∧ w'.cell? ⟨W.heap.size + 2, 1, none⟩ = some (.string (bs s.name)) ∧ w'.cell? ⟨W.heap.size + 2, 2, none⟩ = some (.slice px2 s.x.length cx2) ∧ w'.cell? ⟨W.heap.size + 2, 3, none⟩ = some (.slice p2 s.l.length c2) ∧ w'.cell? ⟨W.heap.size + 3, 0, none⟩ = some (.int .i64 t.op) ∧ w'.cell? ⟨W.heap.size + 3, 1, none⟩ = some (.string (bs t.name)) ∧ w'.cell? ⟨W.heap.size + 3, 2, none⟩ = some (.slice px3 t.x.length cx3) ∧ w'.cell? ⟨W.heap.size + 3, 3, none⟩ = some (.slice p3 t.l.length c3))
   (first | exact HB2.out _ Z3.out | exact HB2.out _ Z2.out | exact HB2.out _ Z1.out | go_keep)
   (first
    | (go_at_call 22; refine (equal_any _ _ k2 k3 HL2.out _ (T2.out.later (Below.refl _ _).drew) (T3.out.later (Below.refl _ _).drew)).mono ?_; rw [HD.out]; rintro e W2 ⟨rfl, hb⟩; have Z2 := Lib.hid (Z1.out.trans (hb.mono Z1.out.size)); have BZ2 := Lib.hid ((show Below w.heap.size w _ from (Below.refl _ _).drew).trans (hb.mono (Nat.le_of_eq rfl))); clear hb)
    | (go_at_call 33; refine (HE2.out _ (XV.out.trans (Z2.out.mono XV.out.size))).mono ?_; rintro e W3 ⟨rfl, hb⟩; have Z3 := Lib.hid (Z2.out.trans (hb.mono Z2.out.size)); have BZ3 := Lib.hid (BZ2.out.trans (hb.mono BZ2.out.size)); clear hb))
  go_wp2_with fail
  exact ⟨rfl, rfl, by simp only [List.forall_mem_cons]; exact ⟨rfl, rfl, rfl, rfl, rfl, rfl, rfl, fun _ h => by cases h⟩, (HK4.out _).2 ⟨T4.out.later BZ3.out, T5.out.later BZ3.out, Z3.out⟩⟩
 clear T2 T3 T4 T5 Z0 X0 HB2 HE2 HY2 HL2 HS2 HS3
 rintro a w hM
 obtain ⟨f1, hf, rfl, hK⟩ := hM.lit
 simp only [List.forall_mem_cons] at hf
 obtain ⟨e0, e1, e2, e3, e4, e5, e6, -⟩ := hf
 simp only [litL, Nat.zero_add, Nat.reduceAdd, e0, e1, e2, e3, e4, e5, e6]
 obtain ⟨t4, t5, hZ⟩ := (HK4.out _).1 hK
 have T4 := Lib.hid t4
 have T5 := Lib.hid t5
 have Z0 := Lib.hid hZ
 have X0 := Lib.hid (XV.out.trans (hZ.mono XV.out.size))
 clear hK hZ hM HK4 t4 t5 e0 e1 e2 e3 e4 e5 e6
 have HB4 := Lib.hid (show ∀ w', Below V.heap.size V w' → w'.cell? ⟨W.heap.size + 4, 0, none⟩ = some (.slice p4 f.length c4) ∧ w'.cell? ⟨W.heap.size + 5, 0, none⟩ = some (.slice p5 g.length c5) from fun w' h => ⟨HS4.out _ h, HS5.out _ h⟩)
 by_cases hr : r4 = 0
 case neg =>
  have h0 : (r4 != 0) = true := by simpa using hr
  clear hr
  go_wp2_with fail
  go_quiet (fail)
  go_wp2_with fail
  go_ret
  exact ⟨rfl, XV.out.trans ((below_drewN Z0 _).mono XV.out.size)⟩
 case pos =>
 by_cases hr1 : r5 = 0
 case neg =>
  have h1 : (r5 != 0) = true := by simpa using hr1
  subst hr
  clear hr1
  go_wp2_with fail
  go_quiet (fail)
  go_wp2_with fail
  go_ret
  exact ⟨rfl, XV.out.trans ((below_drewN Z0 _).mono XV.out.size)⟩
 case pos =>
 have HD := Lib.hid (HY4.out hr hr1)
 subst hr
 subst hr1
 obtain ⟨ca0, cb0⟩ := HB4.out _ Z0.out
 have Z1 := Lib.hid (Z0.out.drew)
 go_wp2_with fail
 go_region_held3 (fun w' => w'.cell? ⟨W.heap.size + 4, 0, none⟩ = some (.slice p4 f.length c4) ∧ w'.cell? ⟨W.heap.size + 5, 0, none⟩ = some (.slice p5 g.length c5))
  (first | exact HB4.out _ Z3.out | exact HB4.out _ Z2.out | exact HB4.out _ Z1.out | go_keep)
  (first
   | (go_at_call 22; refine (equal_any _ _ k4 k5 HL4.out _ (T4.out.later (Below.refl _ _).drew) (T5.out.later (Below.refl _ _).drew)).mono ?_; rw [HD.out]; rintro e W2 ⟨rfl, hb⟩; have Z2 := Lib.hid (Z1.out.trans (hb.mono Z1.out.size)); clear hb)
   | (go_at_call 34; refine (HE4.out _ (XV.out.trans (Z2.out.mono XV.out.size))).mono ?_; rintro e W3 ⟨rfl, hb⟩; have Z3 := Lib.hid (Z2.out.trans (hb.mono Z2.out.size)); clear hb))
 go_wp2_with fail
 go_ret
 exact ⟨rfl, XV.out.trans (Z3.out.mono XV.out.size)⟩
end Go.Proofs.YtlcfpdmicpggbaaGreatDoor
