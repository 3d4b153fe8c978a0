/- Texts of the seat, merged. -/
import Derived.Test.YtlcfpdmicpggbaaGreatDoorB12
set_option linter.unusedVariables false
set_option linter.unusedSimpArgs false
set_option maxRecDepth 100000
set_option maxHeartbeats 16000000
namespace Go.Proofs.Scn
inductive Got where
 | tok (t : Tok) (n : Nat)
 | bad (e : Int)
deriving DecidableEq
end Go.Proofs.Scn
namespace Go.Proofs.YtlcfpdmicpggbaaGreatDoor
open Go.RowKit Go.Proofs.Scn Go.Flow Go.Sort
theorem equal_len (p1 p2 : Option Addr) (l1 l2 c1 c2 : Nat) (h : l1 ≠ l2) (W : World) :
  Calls Tryz.prog 22 #[.slice p1 l1 c1, .slice p2 l2 c2] W fun e W' => e = .returned (.bool false) ∧ Below W.heap.size W W' := by
 have hh : ¬ (l1 : Int) = (l2 : Int) := by omega
 go_enter Tryz.func22, Tryz.ntmps22
 go_wp2
 go_ret
 exact ⟨rfl, Below.refl _ _⟩
theorem tok_neq (x y : Tok) (w : World) : (binOp .neq 55 (.agg #[.int .i64 x.k, .string (bs x.s), .int .i64 x.w, .int .u64 x.v, .int .i64 x.p]) (.agg #[.int .i64 y.k, .string (bs y.s), .int .i64 y.w, .int .u64 y.v, .int .i64 y.p])).run Tryz.prog w = .ok (.bool (!decide (x = y))) w := by
 rw [run_neq_struct]
 simp [go_sem]
 rw [toList_eq, toList_eq, list_bs, list_bs]
 obtain ⟨k, s, w1, v, p⟩ := x
 obtain ⟨k', s', w1', v', p'⟩ := y
 simp only [Tok.mk.injEq]
 by_cases h1 : k = k'
 ·by_cases h2 : s = s'
  ·by_cases h3 : w1 = w1'
   ·by_cases h4 : v = v'
    ·by_cases h5 : p = p'
     ·simp [h1, h2, h3, h4, h5]
     ·simp [h1, h2, h3, h4, h5]
    ·have : ¬ (v : Int) = (v' : Int) := by omega
     simp [h1, h2, h3, h4, this]
   ·simp [h1, h2, h3]
  ·simp [h1, h2]
 ·simp [h1]
theorem equal_some (b1 o1 c1 b2 o2 c2 : Nat) (xs ys : List Tok) (hl : xs.length = ys.length) (hxl : xs.length ≤ 140737488351232) (W : World)
  (hx : ∀ k (h : k < xs.length), TokAt W b1 (o1 + k * 5) xs[k]) (hy : ∀ k (h : k < ys.length), TokAt W b2 (o2 + k * 5) ys[k]) (hb1 : b1 < W.heap.size) (hb2 : b2 < W.heap.size) :
  Calls Tryz.prog 22 #[.slice (some ⟨b1, o1, none⟩) xs.length c1, .slice (some ⟨b2, o2, none⟩) ys.length c2] W fun e W' => e = .returned (.bool (decide (xs = ys))) ∧ Below W.heap.size W W' := by
 have HX := Lib.hid hx
 have HY := Lib.hid hy
 have hll : (xs.length : Int) = (ys.length : Int) := by omega
 have HLL := Lib.hid hl
 clear hx hy hl
 go_enter Tryz.func22, Tryz.ntmps22
 go_wp2
 go_loopw [5] (fun i wr => ∃ k : Nat, k ≤ xs.length ∧ i = .int .i64 k ∧ Hid (Below W.heap.size W wr) ∧ Hid (xs.take k = ys.take k)) (fun i _ => xs.length - (intOf i).toNat)
 case atStart => exact ⟨0, Nat.zero_le _, rfl, Lib.hid (Below.refl _ _), Lib.hid rfl⟩
 case round =>
  obtain ⟨k, hk, rfl, HB, HE⟩ := hrel
  by_cases hlt : k < xs.length
  ·have hly : k < ys.length := by omega
   have hX := (HX.out k hlt).later hb1 HB.out
   have hY := (HY.out k hly).later hb2 HB.out
   obtain ⟨x0, x1, x2, x3, x4⟩ := hX
   obtain ⟨y0, y1, y2, y3, y4⟩ := hY
   have hE : decide (xs[k] = ys[k]) = true → xs.take (k + 1) = ys.take (k + 1) := by
    intro he
    rw [List.take_succ_eq_append_getElem hlt, List.take_succ_eq_append_getElem hly, HE.out, of_decide_eq_true he]
   have hF : decide (xs[k] = ys[k]) = false → ¬ xs = ys := by
    intro he hxy
    subst hxy
    simp at he
   have hneq := tok_neq xs[k] ys[k]
   generalize xs[k] = x at *
   generalize ys[k] = y at *
   cases hxy : decide (x = y)
   ·rw [hxy] at hneq
    have HF := Lib.hid (hF hxy)
    clear hE hF hxy
    go_wp2_with fail
    go_quiet (fail)
    go_wp2_with fail
    go_ret
    exact ⟨by rw [decide_eq_false HF.out]; rfl, below_drewN HB.out _⟩
   ·rw [hxy] at hneq
    have HF := Lib.hid (hE hxy)
    clear hE hF hxy
    go_wp2_with fail
    go_quiet (fail)
    go_wp2_with fail
    go_roundw
    case rel => exact ⟨k + 1, by omega, by go_num, Lib.hid (below_drewN HB.out _), HF⟩
    case measure => simp [intOf]; omega
  ·have hge : ¬ k < ys.length := by omega
   have hxy : xs = ys := by
    have := HE.out
    rwa [List.take_of_length_le (by omega), List.take_of_length_le (by omega)] at this
   have HXY := Lib.hid hxy
   clear hxy
   go_wp2_with fail
   go_ret
   exact ⟨by rw [decide_eq_true HXY.out]; rfl, HB.out⟩
theorem equal_empty (p1 p2 : Option Addr) (c1 c2 : Nat) (W : World) :
  Calls Tryz.prog 22 #[.slice p1 0 c1, .slice p2 0 c2] W fun e W' => e = .returned (.bool true) ∧ Below W.heap.size W W' := by
 go_enter Tryz.func22, Tryz.ntmps22
 go_wp2
 refine wp_loop_rounds 1 ?_
 rw [rounds_succ]
 go_wp2
 go_ret
 exact ⟨rfl, Below.refl _ _⟩
theorem Toks.form {w : World} {v : Value} {ts : List Tok} (h : Toks w v ts) : ∃ p c, v = .slice p ts.length c := by
 rcases h with ⟨rfl, p, c, rfl⟩ | ⟨b, o, c, rfl, _⟩
 ·exact ⟨_, _, rfl⟩
 ·exact ⟨_, _, rfl⟩
theorem equal_any (v1 v2 : Value) (xs ys : List Tok) (hxl : xs.length ≤ 140737488351232) (W : World) (h1 : Toks W v1 xs) (h2 : Toks W v2 ys) :
  Calls Tryz.prog 22 #[v1, v2] W fun e W' => e = .returned (.bool (decide (xs = ys))) ∧ Below W.heap.size W W' := by
 by_cases hl : xs.length = ys.length
 ·by_cases h0 : xs.length = 0
  ·obtain ⟨p1, c1, rfl⟩ := h1.form
   obtain ⟨p2, c2, rfl⟩ := h2.form
   have hx : xs = [] := List.eq_nil_of_length_eq_zero h0
   have hy : ys = [] := List.eq_nil_of_length_eq_zero (by omega)
   subst hx
   subst hy
   exact equal_empty p1 p2 c1 c2 W
  ·rcases h1 with ⟨rfl, _⟩ | ⟨b1, o1, c1, rfl, hb1, hc1⟩
   ·simp at h0
   rcases h2 with ⟨rfl, _⟩ | ⟨b2, o2, c2, rfl, hb2, hc2⟩
   ·simp at hl; simp [hl] at h0
   exact equal_some b1 o1 c1 b2 o2 c2 xs ys hl hxl W hc1 hc2 hb1 hb2
 ·obtain ⟨p1, c1, rfl⟩ := h1.form
  obtain ⟨p2, c2, rfl⟩ := h2.form
  rw [decide_eq_false (fun h => hl (by rw [h]))]
  exact equal_len p1 p2 _ _ c1 c2 hl W
end Go.Proofs.YtlcfpdmicpggbaaGreatDoor
namespace Go.Proofs.YtlcfpdmicpggbaaGreatDoor
open Go.RowKit Go.Proofs.Scn Go.Flow Go.Sort
theorem Bytes.form {w : World} {v : Value} {s : ByteArray} (h : Bytes w v s) : ∃ p c, v = .slice p s.size c := by
 rcases h with ⟨h0, p, c, rfl⟩ | ⟨b, o, c, rfl, _⟩
 ·exact ⟨_, _, by rw [h0]⟩
 ·exact ⟨_, _, rfl⟩
end Go.Proofs.YtlcfpdmicpggbaaGreatDoor
namespace Go.Proofs.YtlcfpdmicpggbaaGreatDoor
open Go.RowKit Go.Proofs.Spl Go.Proofs.Scn Go.Shelf Go.Grow
theorem EachS.form {W : World} {out : Value} {fs : List Value} {ls : List (List Tok)} {V : World} (h : EachS W out fs ls V) : ∃ p cap, out = .slice p fs.length cap := by
 rcases h.own.2 with ⟨rfl, h0⟩ | ⟨g, cap, cur, rfl, hB, hg, hn, hc, hs, ht⟩
 ·exact ⟨none, 0, by rw [h0]⟩
 ·exact ⟨_, cap, rfl⟩
end Go.Proofs.YtlcfpdmicpggbaaGreatDoor
namespace Go.Proofs.Spl
open Go.Proofs.Scn
theorem tok_bin (n : Int) (a b : X) : exprT (binX n a b) = partT (rankX a, exprT a) (twoR n) ++ sgT (twoS n) :: partT (rankX b, exprT b) (twoR n + 1) := by
 rw [exprT_eq]; rfl
end Go.Proofs.Spl
namespace Go.Proofs.Spl
open Go.Proofs.Scn
theorem Stop0.stop {l : List Tok} (k : Nat) (h : Stop0 l) : StopK k l := by
 match l, h with
 | [], _ => trivial
 | t :: _, ⟨h1, _, h3⟩ => exact ⟨h1, fun r e => by rw [h3] at e; cases e⟩
def twoOps : List Int := [11, 12, 13, 14, 15, 16, 17, 18, 19, 20, 21, 22, 23, 24, 25, 26]
theorem twoOps_mem {n : Int} (h1 : 11 ≤ n) (h2 : n ≤ 26) : n ∈ twoOps := by
 have : n = 11 ∨ n = 12 ∨ n = 13 ∨ n = 14 ∨ n = 15 ∨ n = 16 ∨ n = 17 ∨ n = 18 ∨ n = 19 ∨ n = 20 ∨ n = 21 ∨ n = 22 ∨ n = 23 ∨ n = 24 ∨ n = 25 ∨ n = 26 := by omega
 rcases this with h | h | h | h | h | h | h | h | h | h | h | h | h | h | h | h <;> subst h <;> decide
theorem row_two {n : Int} (h1 : 11 ≤ n) (h2 : n ≤ 26) : rowTok (sgT (twoS n)) = some (twoR n) ∧ 1 ≤ twoR n := by
 have : ∀ m ∈ twoOps, rowTok (sgT (twoS m)) = some (twoR m) ∧ 1 ≤ twoR m := by decide
 exact this n (twoOps_mem h1 h2)
theorem twoS_inj {n m : Int} (h1 : 11 ≤ n) (h2 : n ≤ 26) (h3 : 11 ≤ m) (h4 : m ≤ 26) (h : twoS n = twoS m) : n = m := by
 have : ∀ a ∈ twoOps, ∀ b ∈ twoOps, twoS a = twoS b → a = b := by decide
 exact this n (twoOps_mem h1 h2) m (twoOps_mem h3 h4) h
theorem oneS_inj {n m : Int} (h1 : 1 ≤ n) (h2 : n ≤ 6) (h3 : 1 ≤ m) (h4 : m ≤ 6) (h : oneS n = oneS m) : n = m := by
 have : ∀ a ∈ [(1 : Int), 2, 3, 4, 5, 6], ∀ b ∈ [(1 : Int), 2, 3, 4, 5, 6], oneS a = oneS b → a = b := by decide
 exact this n (by simp; omega) m (by simp; omega) h
theorem extS_inj {n m : Int} (h1 : 31 ≤ n) (h2 : n ≤ 33) (h3 : 31 ≤ m) (h4 : m ≤ 33) (h : extS n = extS m) : n = m := by
 have : ∀ a ∈ [(31 : Int), 32, 33], ∀ b ∈ [(31 : Int), 32, 33], extS a = extS b → a = b := by decide
 exact this n (by simp; omega) m (by simp; omega) h
def Itm.tok (i : Itm) : List Tok := if i.b then parT (exprT i.x) else exprT i.x
def tailTok : List (Int × X) → List Tok
 | [] => []
 | (n, b) :: t => sgT (twoS n) :: (partT (rankX b, exprT b) (twoR n + 1) ++ tailTok t)
theorem tailTok_app (a b : List (Int × X)) : tailTok (a ++ b) = tailTok a ++ tailTok b := by
 induction a with
 | nil => rfl
 | cons x a ih =>
  obtain ⟨n, y⟩ := x
  rw [List.cons_append, tailTok, tailTok, ih, List.cons_append, List.append_assoc]
theorem build_app (x : X) (a b : List (Int × X)) : build x (a ++ b) = build (build x a) b := by
 induction a generalizing x with
 | nil => rfl
 | cons y a ih =>
  obtain ⟨n, y⟩ := y
  rw [List.cons_append, build, build, ih]
theorem kids_less {x y : X} (h : y ∈ x.l) : sizeX y < sizeX x := by
 rw [sizeX_eq x, sizeXs_sum]
 have := sumN_mem sizeX h
 omega
theorem rank_cases {x : X} (h : okX x = true) : (x.op = 7 ∧ rankX x = 0) ∨ (x.op = 6 ∧ 1 ≤ rankX x ∧ rankX x ≤ 10) ∨ (x.op ≠ 6 ∧ x.op ≠ 7 ∧ rankX x = 11) := by
 unfold rankX
 by_cases h7 : x.op = 7
 ·exact .inl ⟨h7, by simp [h7]⟩
 ·by_cases h6 : x.op = 6
  ·obtain ⟨n, a, b, rfl, h1, h2, _, _⟩ := bin_form h h6
   refine .inr (.inl ⟨rfl, ?_⟩)
   rw [if_neg h7, if_pos h6]
   exact ⟨(row_two h1 h2).2, twoR_le _⟩
  ·exact .inr (.inr ⟨h6, h7, by rw [if_neg h7, if_neg h6]⟩)
theorem spine : ∀ x : X, okX x = true → x.op ≠ 7 → ∃ (i : Itm) (t : List (Int × X)), exprT x = i.tok ++ tailTok t ∧ x = build i.x t ∧ okX i.x = true ∧ Chain (rankX x) (sizeX x) 11 t ∧ sizeX i.x ≤ sizeX x ∧
  (i.b = false → i.x.op ≠ 6 ∧ i.x.op ≠ 7) ∧ (i.b = true → sizeX i.x < sizeX x ∧ t ≠ []) := by
 refine X.ind ?_
 intro x ih hx h7
 by_cases h6 : x.op = 6
 ·obtain ⟨n, a, b, rfl, h1, h2, ha, hb⟩ := bin_form hx h6
  have hla : sizeX a < sizeX (.mk 6 [] n 0 0 [a, b]) := kids_less (by simp [X.l])
  have hlb : sizeX b < sizeX (.mk 6 [] n 0 0 [a, b]) := kids_less (by simp [X.l])
  have hr : rankX (.mk 6 [] n 0 0 [a, b]) = twoR n := rfl
  have htok : exprT (.mk 6 [] n 0 0 [a, b]) = partT (rankX a, exprT a) (twoR n) ++ sgT (twoS n) :: partT (rankX b, exprT b) (twoR n + 1) := tok_bin n a b
  have h10 := twoR_le n
  by_cases hra : rankX a < twoR n
  ·refine ⟨⟨true, a⟩, [(n, b)], ?_, rfl, ha, ?_, Nat.le_of_lt hla, fun h => by simp at h, fun _ => ⟨hla, by simp⟩⟩
   ·rw [htok]
    simp [partT, hra, Itm.tok, tailTok]
   ·rw [hr]
    exact ⟨h1, h2, Nat.le_refl _, by omega, hb, hlb, trivial⟩
  ·have ha7 : a.op ≠ 7 := by
    intro e
    have : rankX a = 0 := by simp [rankX, e]
    have := (row_two h1 h2).2
    omega
   obtain ⟨i, t, e1, e2, e3, e4, e5, e6, e7⟩ := ih a (by simp [X.l]) ha ha7
   refine ⟨i, t ++ [(n, b)], ?_, ?_, e3, ?_, by omega, e6, fun h => ⟨by have := (e7 h).1; omega, by simp⟩⟩
   ·have hp : partT (rankX a, exprT a) (twoR n) = exprT a := by simp [partT, hra]
    have ht : tailTok [(n, b)] = sgT (twoS n) :: partT (rankX b, exprT b) (twoR n + 1) := by simp [tailTok]
    rw [htok, hp, tailTok_app, ht, e1, List.append_assoc]
   ·rw [build_app, ← e2]; rfl
   ·rw [hr]
    exact Chain.snoc h1 h2 hb hlb (by omega) (e4.mono (by omega)) (by omega)
 ·refine ⟨⟨false, x⟩, [], ?_, rfl, hx, trivial, Nat.le_refl _, fun _ => ⟨h6, h7⟩, fun h => by simp at h⟩
  simp [Itm.tok, tailTok]
def NB : List Tok → Prop
 | [] => True
 | t :: _ => t ≠ sgT [91]
theorem StopK.nb {k : Nat} : ∀ {l : List Tok}, StopK k l → NB l
 | [], _ => trivial
 | _ :: _, h => h.1
theorem row_le (t : Tok) : ∀ r, rowTok t = some r → r < 11 := by
 intro r
 unfold rowTok
 repeat' split
 all_goals (intro h; cases h; try decide)
theorem NB.stop : ∀ {l : List Tok}, NB l → StopK 11 l
 | [], _ => trivial
 | t :: _, h => ⟨h, row_le t⟩
theorem prim_of {x : X} (h : okX x = true) (h6 : x.op ≠ 6) (h7 : x.op ≠ 7) : Prim x (exprT x) := by
 obtain ⟨op, name, n, w, v, l⟩ := x
 simp only [X.op] at h6 h7
 rw [okX_iff, Bool.and_eq_true, List.all_eq_true] at h
 obtain ⟨h0, hl⟩ := h
 simp only [X.op, X.name, X.n, X.w, X.v, X.l, okNode, Bool.and_eq_true] at h0 hl
 obtain ⟨⟨⟨hn, hp⟩, hu⟩, hv⟩ := h0
 rw [exprT_eq]
 simp only [X.op, X.name, X.n, X.w, X.v, X.l]
 rcases parts_cases hp with e | e | e | e | e | e | e | e | e | e <;> subst e
 ·have : l = [] := by simpa [partsO] using hp
  subst this
  obtain rfl : name = [] := by simpa [namedO] using hn
  obtain rfl : n = 0 := by simpa [numberO] using hu
  exact .num w v
 all_goals (have hwv : w = 0 ∧ v = 0 := by simpa [valueO] using hv)
 all_goals (obtain ⟨rfl, rfl⟩ := hwv)
 ·have : l = [] := by simpa [partsO] using hp
  subst this
  obtain rfl : n = 0 := by simpa [numberO] using hu
  exact .name name
 ·have : l.length = 2 := by simpa [partsO] using hp
  match l, this with
  | [a, b], _ =>
   obtain rfl : n = 0 := by simpa [numberO] using hu
   have := Prim.slice name a b (hl a (by simp)) (hl b (by simp))
   simpa [nodeT, braT, inT, sepS] using this
 ·have : l.length = 1 := by simpa [partsO] using hp
  match l, this with
  | [a], _ =>
   obtain rfl : n = 0 := by simpa [numberO] using hu
   have := Prim.index name a (hl a (by simp))
   simpa [nodeT, braT, inT, sepS] using this
 ·have : l.length = 1 := by simpa [partsO] using hp
  match l, this with
  | [a], _ =>
   obtain rfl : name = [] := by simpa [namedO] using hn
   have hn' : 1 ≤ n ∧ n ≤ 6 := by simpa [numberO] using hu
   exact .un n a hn'.1 hn'.2 (hl a (by simp))
 ·exact absurd rfl h6
 ·exact absurd rfl h7
 ·obtain rfl : name = [] := by simpa [namedO] using hn
  obtain rfl : n = 0 := by simpa [numberO] using hu
  have : l ≠ [] := by
   intro e
   rw [e] at hp
   simp [partsO] at hp
  have := Prim.cat l this hl
  simpa [nodeT, cubT, inT, List.map_map, Function.comp_def] using this
 ·have : l.length = 2 := by simpa [partsO] using hp
  match l, this with
  | [a, b], _ =>
   obtain rfl : name = [] := by simpa [namedO] using hn
   obtain rfl : n = 0 := by simpa [numberO] using hu
   have := Prim.rep a b (hl a (by simp)) (hl b (by simp))
   simpa [nodeT, cubT, inT] using this
 ·have : l.length = 2 := by simpa [partsO] using hp
  match l, this with
  | [a, b], _ =>
   obtain rfl : name = [] := by simpa [namedO] using hn
   have hn' : 31 ≤ n ∧ n ≤ 33 := by simpa [numberO] using hu
   have := Prim.ext n a b hn'.1 hn'.2 (hl a (by simp)) (hl b (by simp))
   simpa [nodeT, parT, inT, sepS] using this
def U0 (N : Nat) : Prop := ∀ x y, sizeX x < N → okX x = true → okX y = true → ∀ R R', Stop0 R → Stop0 R' → exprT x ++ R = exprT y ++ R' → x = y ∧ R = R'
def UP (N : Nat) : Prop := ∀ x y, sizeX x < N → okX x = true → okX y = true → ∀ k R R', 1 ≤ k → k ≤ 11 → StopK k R → StopK k R' → partT (rankX x, exprT x) k ++ R = partT (rankX y, exprT y) k ++ R' → x = y ∧ R = R'
theorem s44 (l : List Tok) : Stop0 (sgT [44] :: l) := stop0_sg (by decide) (by decide) (by decide) l
theorem s93 (l : List Tok) : Stop0 (sgT [93] :: l) := stop0_sg (by decide) (by decide) (by decide) l
theorem s125 (l : List Tok) : Stop0 (sgT [125] :: l) := stop0_sg (by decide) (by decide) (by decide) l
theorem s123 (l : List Tok) : Stop0 (sgT [123] :: l) := stop0_sg (by decide) (by decide) (by decide) l
theorem s61 (l : List Tok) : Stop0 (sgT [61] :: l) := stop0_sg (by decide) (by decide) (by decide) l
theorem ne_sg {a b : Ln} {l m : List Tok} (hab : a ≠ b) (h : sgT a :: l = sgT b :: m) : False := hab (sg_inj (List.cons.inj h).1)
theorem list_uniq {N : Nat} (hU : U0 N) {s c : Ln} (hs : ∀ l, Stop0 (sgT s :: l)) (hc : ∀ l, Stop0 (sgT c :: l)) (hsc : s ≠ c) :
  ∀ (l l' : List X), l ≠ [] → l' ≠ [] → (∀ x ∈ l, sizeX x < N ∧ okX x = true) → (∀ x ∈ l', okX x = true) → ∀ R R', sepS s (l.map exprT) ++ sgT c :: R = sepS s (l'.map exprT) ++ sgT c :: R' → l = l' ∧ R = R'
 | [], _, h, _, _, _, _, _, _ => absurd rfl h
 | _, [], _, h, _, _, _, _, _ => absurd rfl h
 | [a], [a'], _, _, hl, hl', R, R', h => by
  obtain ⟨rfl, h2⟩ := hU a a' (hl a (by simp)).1 (hl a (by simp)).2 (hl' a' (by simp)) _ _ (hc R) (hc R') h
  exact ⟨rfl, (List.cons.inj h2).2⟩
 | [a], a' :: b' :: r', _, _, hl, hl', R, R', h => by
  simp only [List.map_cons, List.map_nil, sepS, List.append_assoc, List.cons_append] at h
  obtain ⟨_, h2⟩ := hU a a' (hl a (by simp)).1 (hl a (by simp)).2 (hl' a' (by simp)) _ _ (hc R) (hs _) h
  exact (ne_sg (Ne.symm hsc) h2).elim
 | a :: b :: r, [a'], _, _, hl, hl', R, R', h => by
  simp only [List.map_cons, List.map_nil, sepS, List.append_assoc, List.cons_append] at h
  obtain ⟨_, h2⟩ := hU a a' (hl a (by simp)).1 (hl a (by simp)).2 (hl' a' (by simp)) _ _ (hs _) (hc R') h
  exact (ne_sg hsc h2).elim
 | a :: b :: r, a' :: b' :: r', _, _, hl, hl', R, R', h => by
  simp only [List.map_cons, sepS, List.append_assoc, List.cons_append] at h
  obtain ⟨rfl, h2⟩ := hU a a' (hl a (by simp)).1 (hl a (by simp)).2 (hl' a' (by simp)) _ _ (hs _) (hs _) h
  have h3 := (List.cons.inj h2).2
  obtain ⟨h4, h5⟩ := list_uniq hU hs hc hsc (b :: r) (b' :: r') (by simp) (by simp) (fun x hx => hl x (List.mem_cons_of_mem _ hx)) (fun x hx => hl' x (List.mem_cons_of_mem _ hx)) R R' (by simpa using h3)
  exact ⟨by rw [h4], h5⟩
theorem prim_uniq {N : Nat} (hU : U0 N) (hP : UP N) {x y : X} {tx ty : List Tok} (hx : Prim x tx) (hy : Prim y ty) (hsz : sizeX x ≤ N) {R R' : List Tok} (hR : NB R) (hR' : NB R') (h : tx ++ R = ty ++ R') : x = y ∧ R = R' := by
 have small : ∀ z ∈ x.l, sizeX z < N := fun z hz => Nat.lt_of_lt_of_le (kids_less hz) hsz
 cases hx with
 | num w v =>
  cases hy <;> simp [numT, nmT, sgT, wdT] at h
  obtain ⟨⟨rfl, rfl⟩, rfl⟩ := h
  exact ⟨rfl, rfl⟩
 | name s =>
  cases hy <;> simp [numT, nmT, sgT, wdT] at h
  ·obtain ⟨rfl, rfl⟩ := h
   exact ⟨rfl, rfl⟩
  ·rw [h.2] at hR
   exact (hR rfl).elim
  ·rw [h.2] at hR
   exact (hR rfl).elim
 | index s a ha =>
  have sa := small a (by simp [X.l])
  cases hy with
  | name s' =>
   simp [nmT] at h
   rw [← h.2] at hR'
   exact (hR' rfl).elim
  | index s' a' ha' =>
   simp only [List.cons_append, List.append_assoc, List.nil_append] at h
   have h1 := List.cons.inj h
   obtain rfl : s = s' := by simpa [nmT] using h1.1
   obtain ⟨rfl, h3⟩ := hU a a' sa ha ha' _ _ (s93 _) (s93 _) (List.cons.inj h1.2).2
   exact ⟨rfl, (List.cons.inj h3).2⟩
  | slice s' a' b' ha' hb' =>
   simp only [List.cons_append, List.append_assoc, List.nil_append] at h
   have h1 := List.cons.inj h
   obtain ⟨_, h3⟩ := hU a a' sa ha ha' _ _ (s93 _) (s58 _) (List.cons.inj h1.2).2
   exact (ne_sg (by decide) h3).elim
  | num w' v' => simp [numT, nmT] at h
  | un n' a' _ _ _ => simp [sgT, nmT] at h
  | cat l' _ _ => simp [sgT, nmT] at h
  | rep a' b' _ _ => simp [sgT, nmT] at h
  | ext n' a' b' _ _ _ _ => simp [wdT, nmT] at h
 | slice s a b ha hb =>
  have sa := small a (by simp [X.l])
  have sb := small b (by simp [X.l])
  cases hy with
  | name s' =>
   simp [nmT] at h
   rw [← h.2] at hR'
   exact (hR' rfl).elim
  | index s' a' ha' =>
   simp only [List.cons_append, List.append_assoc, List.nil_append] at h
   have h1 := List.cons.inj h
   obtain ⟨_, h3⟩ := hU a a' sa ha ha' _ _ (s58 _) (s93 _) (List.cons.inj h1.2).2
   exact (ne_sg (by decide) h3).elim
  | slice s' a' b' ha' hb' =>
   simp only [List.cons_append, List.append_assoc, List.nil_append] at h
   have h1 := List.cons.inj h
   obtain rfl : s = s' := by simpa [nmT] using h1.1
   obtain ⟨rfl, h3⟩ := hU a a' sa ha ha' _ _ (s58 _) (s58 _) (List.cons.inj h1.2).2
   obtain ⟨rfl, h4⟩ := hU b b' sb hb hb' _ _ (s93 _) (s93 _) (List.cons.inj h3).2
   exact ⟨rfl, (List.cons.inj h4).2⟩
  | num w' v' => simp [numT, nmT] at h
  | un n' a' _ _ _ => simp [sgT, nmT] at h
  | cat l' _ _ => simp [sgT, nmT] at h
  | rep a' b' _ _ => simp [sgT, nmT] at h
  | ext n' a' b' _ _ _ _ => simp [wdT, nmT] at h
 | un n a h1 h2 ha =>
  have sa := small a (by simp [X.l])
  have n123 : oneS n ≠ [123] := by
   have : ∀ m ∈ [(1 : Int), 2, 3, 4, 5, 6], oneS m ≠ [123] := by decide
   exact this n (by simp; omega)
  cases hy with
  | un n' a' h1' h2' ha' =>
   simp only [List.cons_append] at h
   have h3 := List.cons.inj h
   obtain rfl := oneS_inj h1 h2 h1' h2' (sg_inj h3.1)
   obtain ⟨rfl, h4⟩ := hP a a' sa ha ha' 11 _ _ (by omega) (by omega) hR.stop hR'.stop h3.2
   exact ⟨rfl, h4⟩
  | num w' v' => simp [numT, sgT] at h
  | name s' => simp [nmT, sgT] at h
  | index s' a' _ => simp [nmT, sgT] at h
  | slice s' a' b' _ _ => simp [nmT, sgT] at h
  | cat l' _ _ => exact absurd (sg_inj (List.cons.inj h).1) n123
  | rep a' b' _ _ => exact absurd (sg_inj (List.cons.inj h).1) n123
  | ext n' a' b' _ _ _ _ => simp [wdT, sgT] at h
 | cat l hne hl =>
  cases hy with
  | un n' a' h1' h2' ha' =>
   have : ∀ m ∈ [(1 : Int), 2, 3, 4, 5, 6], oneS m ≠ [123] := by decide
   exact absurd (sg_inj (List.cons.inj h).1).symm (this n' (by simp; omega))
  | num w' v' => simp [numT, sgT] at h
  | name s' => simp [nmT, sgT] at h
  | index s' a' _ => simp [nmT, sgT] at h
  | slice s' a' b' _ _ => simp [nmT, sgT] at h
  | cat l' hne' hl' =>
   simp only [List.cons_append, List.append_assoc, List.nil_append] at h
   obtain ⟨rfl, h2⟩ := list_uniq hU s44 s125 (by decide) l l' hne hne' (fun z hz => ⟨small z hz, hl z hz⟩) hl' R R' (List.cons.inj h).2
   exact ⟨rfl, h2⟩
  | rep a' b' ha' hb' =>
   simp only [List.cons_append, List.append_assoc, List.nil_append] at h
   have h1 := (List.cons.inj h).2
   match l, hne with
   | [a], _ =>
    obtain ⟨_, h3⟩ := hU a a' (small a (by simp [X.l])) (hl a (by simp)) ha' _ _ (s125 _) (s123 _) h1
    exact (ne_sg (by decide) h3).elim
   | a :: b :: r, _ =>
    simp only [List.map_cons, sepS, List.append_assoc, List.cons_append] at h1
    obtain ⟨_, h3⟩ := hU a a' (small a (by simp [X.l])) (hl a (by simp)) ha' _ _ (s44 _) (s123 _) h1
    exact (ne_sg (by decide) h3).elim
  | ext n' a' b' _ _ _ _ => simp [wdT, sgT] at h
 | rep a b ha hb =>
  have sa := small a (by simp [X.l])
  have sb := small b (by simp [X.l])
  cases hy with
  | un n' a' h1' h2' ha' =>
   have : ∀ m ∈ [(1 : Int), 2, 3, 4, 5, 6], oneS m ≠ [123] := by decide
   exact absurd (sg_inj (List.cons.inj h).1).symm (this n' (by simp; omega))
  | num w' v' => simp [numT, sgT] at h
  | name s' => simp [nmT, sgT] at h
  | index s' a' _ => simp [nmT, sgT] at h
  | slice s' a' b' _ _ => simp [nmT, sgT] at h
  | cat l' hne' hl' =>
   simp only [List.cons_append, List.append_assoc, List.nil_append] at h
   have h1 := (List.cons.inj h).2
   match l', hne' with
   | [a'], _ =>
    obtain ⟨_, h3⟩ := hU a a' sa ha (hl' a' (by simp)) _ _ (s123 _) (s125 _) h1
    exact (ne_sg (by decide) h3).elim
   | a' :: b' :: r', _ =>
    simp only [List.map_cons, sepS, List.append_assoc, List.cons_append] at h1
    obtain ⟨_, h3⟩ := hU a a' sa ha (hl' a' (by simp)) _ _ (s123 _) (s44 _) h1
    exact (ne_sg (by decide) h3).elim
  | rep a' b' ha' hb' =>
   simp only [List.cons_append, List.append_assoc, List.nil_append] at h
   obtain ⟨rfl, h3⟩ := hU a a' sa ha ha' _ _ (s123 _) (s123 _) (List.cons.inj h).2
   obtain ⟨rfl, h4⟩ := hU b b' sb hb hb' _ _ (s125 _) (s125 _) (List.cons.inj h3).2
   exact ⟨rfl, (List.cons.inj (List.cons.inj h4).2).2⟩
  | ext n' a' b' _ _ _ _ => simp [wdT, sgT] at h
 | ext n a b h1 h2 ha hb =>
  have sa := small a (by simp [X.l])
  have sb := small b (by simp [X.l])
  cases hy with
  | ext n' a' b' h1' h2' ha' hb' =>
   simp only [List.cons_append, List.append_assoc, List.nil_append] at h
   have h3 := List.cons.inj h
   obtain rfl := extS_inj h1 h2 h1' h2' (by simpa [wdT] using h3.1)
   obtain ⟨rfl, h4⟩ := hU a a' sa ha ha' _ _ (s44 _) (s44 _) (List.cons.inj h3.2).2
   obtain ⟨rfl, h5⟩ := hU b b' sb hb hb' _ _ (s41 _) (s41 _) (List.cons.inj h4).2
   exact ⟨rfl, (List.cons.inj h5).2⟩
  | num w' v' => simp [numT, wdT] at h
  | name s' => simp [nmT, wdT] at h
  | index s' a' _ => simp [nmT, wdT] at h
  | slice s' a' b' _ _ => simp [nmT, wdT] at h
  | un n' a' _ _ _ => simp [sgT, wdT] at h
  | cat l' _ _ => simp [sgT, wdT] at h
  | rep a' b' _ _ => simp [sgT, wdT] at h
theorem prim_paren {x : X} {tx : List Tok} (hx : Prim x tx) {R l : List Tok} (h : tx ++ R = sgT [40] :: l) : False := by
 cases hx with
 | un n a h1 h2 ha =>
  have : ∀ m ∈ [(1 : Int), 2, 3, 4, 5, 6], oneS m ≠ [40] := by decide
  exact absurd (sg_inj (List.cons.inj h).1) (this n (by simp; omega))
 | _ => simp [numT, nmT, sgT, wdT] at h
theorem tail_uniq {N k : Nat} (hP : UP N) : ∀ (t t' : List (Int × X)) (m m' N' : Nat), Chain k N m t → Chain k N' m' t' → ∀ R R', StopK k R → StopK k R' → tailTok t ++ R = tailTok t' ++ R' → t = t' ∧ R = R'
 | [], [], _, _, _, _, _, R, R', _, _, h => ⟨rfl, h⟩
 | [], (n', b') :: t', _, _, _, _, ⟨g1, g2, g3, _⟩, R, R', hR, _, h => by
  simp only [tailTok, List.nil_append] at h
  rw [h] at hR
  have := hR.2 _ (row_two g1 g2).1
  omega
 | (n, b) :: t, [], _, _, _, ⟨g1, g2, g3, _⟩, _, R, R', _, hR', h => by
  simp only [tailTok, List.nil_append] at h
  rw [← h] at hR'
  have := hR'.2 _ (row_two g1 g2).1
  omega
 | (n, b) :: t, (n', b') :: t', m, m', N', ⟨g1, g2, g3, g4, g5, g6, g7⟩, ⟨g1', g2', g3', g4', g5', g6', g7'⟩, R, R', hR, hR', h => by
  simp only [tailTok, List.cons_append, List.append_assoc] at h
  have h1 := List.cons.inj h
  obtain rfl := twoS_inj g1 g2 g1' g2' (sg_inj h1.1)
  have h10 := twoR_le n
  have stop : ∀ {N : Nat} {t : List (Int × X)} {R : List Tok}, Chain k N (twoR n) t → StopK k R → StopK (twoR n + 1) (tailTok t ++ R) := by
   intro N t R hc hR
   match t, hc with
   | [], _ => exact hR.mono (by omega)
   | (n2, b2) :: t2, ⟨e1, e2, e3, e4, _⟩ =>
    refine ⟨fun e => ?_, fun r er => ?_⟩
    ·have := sg_inj e
     have h : ∀ s ∈ twosL, s ≠ [91] := by decide
     exact h _ (two_mem n2) this
    ·rw [(row_two e1 e2).1] at er
     cases er
     omega
  obtain ⟨rfl, h2⟩ := hP b b' g6 g5 g5' (twoR n + 1) _ _ (by omega) (by omega) (stop g7 hR) (stop g7' hR') h1.2
  obtain ⟨rfl, h3⟩ := tail_uniq hP t t' _ _ N' g7 g7' R R' hR hR' h2
  exact ⟨rfl, h3⟩
theorem tail_nb {k N m : Nat} {t : List (Int × X)} {R : List Tok} (hc : Chain k N m t) (hR : StopK k R) : NB (tailTok t ++ R) := by
 match t, hc with
 | [], _ => exact hR.nb
 | (n2, b2) :: t2, _ =>
  intro e
  have := sg_inj e
  have h : ∀ s ∈ twosL, s ≠ [91] := by decide
  exact h _ (two_mem n2) this
theorem spine_uniq {N M k : Nat} (hU : U0 N) (hUM : U0 M) (hP : UP N) {i i' : Itm} {t t' : List (Int × X)} {m m' N' : Nat} (ho : okX i.x = true) (ho' : okX i'.x = true) (hb : i.b = false → i.x.op ≠ 6 ∧ i.x.op ≠ 7) (hb' : i'.b = false → i'.x.op ≠ 6 ∧ i'.x.op ≠ 7)
  (hs : i.b = true → sizeX i.x < M) (hs2 : i.b = false → sizeX i.x ≤ N) (hc : Chain k N m t) (hc' : Chain k N' m' t') {R R' : List Tok} (hR : StopK k R) (hR' : StopK k R') (h : i.tok ++ (tailTok t ++ R) = i'.tok ++ (tailTok t' ++ R')) : i = i' ∧ t = t' ∧ R = R' := by
 have n1 := tail_nb hc hR
 have n2 := tail_nb hc' hR'
 obtain ⟨b, x⟩ := i
 obtain ⟨b', x'⟩ := i'
 have key : (⟨b, x⟩ : Itm) = ⟨b', x'⟩ ∧ tailTok t ++ R = tailTok t' ++ R' := by
  cases b with
  | true =>
   cases b' with
   | true =>
    simp only [Itm.tok, if_true, parT, inT, List.cons_append, List.append_assoc, List.nil_append] at h
    obtain ⟨rfl, h2⟩ := hUM x x' (hs rfl) ho ho' _ _ (s41 _) (s41 _) (List.cons.inj h).2
    exact ⟨rfl, (List.cons.inj h2).2⟩
   | false =>
    simp only [Itm.tok, if_true, parT, inT, List.cons_append, List.append_assoc, List.nil_append] at h
    exact (prim_paren (prim_of ho' (hb' rfl).1 (hb' rfl).2) h.symm).elim
  | false =>
   cases b' with
   | true =>
    simp only [Itm.tok, if_true, parT, inT, List.cons_append, List.append_assoc, List.nil_append] at h
    exact (prim_paren (prim_of ho (hb rfl).1 (hb rfl).2) h).elim
   | false =>
    obtain ⟨rfl, h2⟩ := prim_uniq hU hP (prim_of ho (hb rfl).1 (hb rfl).2) (prim_of ho' (hb' rfl).1 (hb' rfl).2) (hs2 rfl) n1 n2 h
    exact ⟨rfl, h2⟩
 obtain ⟨h1, h2⟩ := tail_uniq hP t t' m m' N' hc hc' R R' hR hR' key.2
 exact ⟨key.1, h1, h2⟩
theorem part_spine {x : X} (hx : okX x = true) {k : Nat} (h1 : 1 ≤ k) : ∃ (i : Itm) (t : List (Int × X)), partT (rankX x, exprT x) k = i.tok ++ tailTok t ∧ okX i.x = true ∧ Chain k (sizeX x) 11 t ∧ (i.b = false → i.x.op ≠ 6 ∧ i.x.op ≠ 7) ∧ sizeX i.x ≤ sizeX x ∧
  ((i.b = true ∧ t = [] ∧ i.x = x) ∨ (x = build i.x t ∧ (i.b = true → t ≠ []))) := by
 by_cases h : rankX x < k
 ·exact ⟨⟨true, x⟩, [], by simp [partT, h, Itm.tok, tailTok], hx, trivial, fun e => by simp at e, Nat.le_refl _, .inl ⟨rfl, rfl, rfl⟩⟩
 ·have h7 : x.op ≠ 7 := by
   intro e
   have : rankX x = 0 := by simp [rankX, e]
   omega
  obtain ⟨i, t, e1, e2, e3, e4, e5, e6, e7⟩ := spine x hx h7
  exact ⟨i, t, by simp only [partT, if_neg h]; exact e1, e3, e4.less (by omega), e6, e5, .inr ⟨e2, fun e => (e7 e).2⟩⟩
theorem cond_form {x : X} (h : okX x = true) (h7 : x.op = 7) : ∃ a b c, x = .mk 7 [] 0 0 0 [a, b, c] ∧ okX a = true ∧ okX b = true ∧ okX c = true ∧ exprT x = partT (rankX a, exprT a) 1 ++ sgT [63] :: (exprT b ++ sgT [58] :: exprT c) := by
 obtain ⟨op, name, n, w, v, l⟩ := x
 simp only [X.op] at h7
 subst h7
 rw [okX_iff] at h
 simp [okNode, namedO, partsO, numberO, valueO, X.op, X.name, X.n, X.w, X.v, X.l] at h
 obtain ⟨⟨⟨⟨h1, h2⟩, h3⟩, h4⟩, h5⟩ := h
 match l, h2 with
 | [a, b, c], _ => exact ⟨a, b, c, by simp_all, h5 a (by simp), h5 b (by simp), h5 c (by simp), rfl⟩
theorem q63 (l : List Tok) : StopK 1 (sgT [63] :: l) := by
 have h : rowTok (sgT [63]) = none := by decide
 refine ⟨fun e => ?_, fun r e => ?_⟩
 ·have := sg_inj e
  simp at this
 ·rw [h] at e
  cases e
theorem uniq : ∀ N, U0 N ∧ UP N
 | 0 => ⟨fun x y h => absurd h (by omega), fun x y h => absurd h (by omega)⟩
 | N + 1 => by
  obtain ⟨hU, hP⟩ := uniq N
  have hU1 : U0 (N + 1) := by
   intro x y hsz hx hy R R' hR hR' h
   by_cases hx7 : x.op = 7
   ·obtain ⟨a, b, c, rfl, ha, hb, hc, ht⟩ := cond_form hx hx7
    have sa : sizeX a < sizeX (.mk 7 [] 0 0 0 [a, b, c]) := kids_less (by simp [X.l])
    have sb : sizeX b < sizeX (.mk 7 [] 0 0 0 [a, b, c]) := kids_less (by simp [X.l])
    have sc : sizeX c < sizeX (.mk 7 [] 0 0 0 [a, b, c]) := kids_less (by simp [X.l])
    rw [ht, List.append_assoc] at h
    simp only [List.cons_append, List.append_assoc] at h
    by_cases hy7 : y.op = 7
    ·obtain ⟨a', b', c', rfl, ha', hb', hc', ht'⟩ := cond_form hy hy7
     rw [ht', List.append_assoc] at h
     simp only [List.cons_append, List.append_assoc] at h
     obtain ⟨rfl, h1⟩ := hP a a' (by omega) ha ha' 1 _ _ (by omega) (by omega) (q63 _) (q63 _) h
     obtain ⟨rfl, h2⟩ := hU b b' (by omega) hb hb' _ _ (s58 _) (s58 _) (List.cons.inj h1).2
     obtain ⟨rfl, h3⟩ := hU c c' (by omega) hc hc' _ _ hR hR' (List.cons.inj h2).2
     exact ⟨rfl, h3⟩
    ·obtain ⟨i, t, e1, e3, e4, e6, e5, e7⟩ := part_spine ha (k := 1) (by omega)
     obtain ⟨i', t', f1, f2, f3, f4, f5, f6, f7⟩ := spine y hy hy7
     rw [e1, f1, List.append_assoc, List.append_assoc] at h
     have hr : 1 ≤ rankX y := by
      rcases rank_cases hy with g | g | g
      ·exact absurd g.1 hy7
      ·exact g.2.1
      ·omega
     obtain ⟨_, _, h3⟩ := spine_uniq (M := N) hU hU hP e3 f3 e6 f6 (fun _ => by omega) (fun _ => by omega) (e4.mono (by omega)) (f4.less hr) (q63 _) (hR'.stop 1) h
     rw [← h3] at hR'
     exact (hR'.2.1 rfl).elim
   ·obtain ⟨i, t, f1, f2, f3, f4, f5, f6, f7⟩ := spine x hx hx7
    have hrx : 1 ≤ rankX x := by
     rcases rank_cases hx with g | g | g
     ·exact absurd g.1 hx7
     ·exact g.2.1
     ·omega
    by_cases hy7 : y.op = 7
    ·obtain ⟨a, b, c, rfl, ha, hb, hc, ht⟩ := cond_form hy hy7
     obtain ⟨i', t', e1, e3, e4, e6, e5, e7⟩ := part_spine ha (k := 1) (by omega)
     rw [ht, f1, e1, List.append_assoc, List.append_assoc, List.append_assoc] at h
     simp only [List.cons_append, List.append_assoc] at h
     obtain ⟨_, _, h3⟩ := spine_uniq (M := N) hU hU hP f3 e3 f6 e6 (fun e => by have := (f7 e).1; omega) (fun _ => by omega) ((f4.less hrx).mono (by omega)) e4 (hR.stop 1) (q63 _) h
     rw [h3] at hR
     exact (hR.2.1 rfl).elim
    ·obtain ⟨i', t', g1, g2, g3, g4, g5, g6, g7⟩ := spine y hy hy7
     have hry : 1 ≤ rankX y := by
      rcases rank_cases hy with g | g | g
      ·exact absurd g.1 hy7
      ·exact g.2.1
      ·omega
     rw [f1, g1, List.append_assoc, List.append_assoc] at h
     obtain ⟨rfl, rfl, h3⟩ := spine_uniq (M := N) hU hU hP f3 g3 f6 g6 (fun e => by have := (f7 e).1; omega) (fun _ => by omega) ((f4.less hrx).mono (by omega)) (g4.less hry) (hR.stop 1) (hR'.stop 1) h
     exact ⟨by rw [f2, ← g2], h3⟩
  refine ⟨hU1, ?_⟩
  intro x y hsz hx hy k R R' h1 h11 hR hR' h
  obtain ⟨i, t, e1, e3, e4, e6, e5, e7⟩ := part_spine hx h1
  obtain ⟨i', t', f1, f3, f4, f6, f5, f7⟩ := part_spine hy h1
  rw [e1, f1, List.append_assoc, List.append_assoc] at h
  obtain ⟨rfl, rfl, h3⟩ := spine_uniq (M := N + 1) hU hU1 hP e3 f3 e6 f6 (fun _ => by omega) (fun _ => by omega) (e4.mono (by omega)) f4 hR hR' h
  refine ⟨?_, h3⟩
  rcases e7 with ⟨a1, a2, a3⟩ | ⟨a1, a2⟩
  ·rcases f7 with ⟨b1, b2, b3⟩ | ⟨b1, b2⟩
   ·rw [← a3, ← b3]
   ·exact absurd a2 (b2 a1)
  ·rcases f7 with ⟨b1, b2, b3⟩ | ⟨b1, b2⟩
   ·exact absurd b2 (a2 b1)
   ·rw [a1, ← b1]
theorem expr_uniq {x y : X} (hx : okX x = true) (hy : okX y = true) {R R' : List Tok} (hR : Stop0 R) (hR' : Stop0 R') (h : exprT x ++ R = exprT y ++ R') : x = y ∧ R = R' :=
 (uniq (sizeX x + 1)).1 x y (by omega) hx hy R R' hR hR' h
theorem expr_inj {x y : X} (hx : okX x = true) (hy : okX y = true) (h : exprT x = exprT y) : x = y :=
 (expr_uniq hx hy (R := []) (R' := []) trivial trivial (by rw [List.append_nil, List.append_nil]; exact h)).1
end Go.Proofs.Spl
namespace Go.Stage
open Go Go.RowKit
variable {P : Program} {Q : Exit → Act → World → Prop} {a : Act} {w : World}
theorem wp_pre5 (M : Act → World → Prop) {x y z u v rest : Code} (h1 : x.wp P (Exit.then (y.wp P (Exit.then (z.wp P (Exit.then (u.wp P (Exit.then (v.wp P (Exit.then M Q)) Q)) Q)) Q)) Q) a w) (h2 : ∀ a w, M a w → rest.wp P Q a w) : (x.seq (y.seq (z.seq (u.seq (v.seq rest))))).wp P Q a w :=
 wp_seq (wp_mono h1 fun e a w h => by cases e <;> first | exact wp_pre4 M h h2 | exact h)
end Go.Stage
