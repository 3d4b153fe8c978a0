/- Texts of the seat, merged. -/
import Derived.Test.YtlcfpdmicpggbaaGreatDoorB7
set_option linter.unusedVariables false
set_option linter.unusedSimpArgs false
set_option maxRecDepth 100000
set_option maxHeartbeats 16000000
namespace Go.Proofs.Scn
theorem bs_inj {a b : List UInt8} : bs a = bs b ↔ a = b := ⟨fun h => by have := congrArg (fun s => s.data.toList) h; exact this, fun h => by rw [h]⟩
end Go.Proofs.Scn
namespace Go.Proofs
open Go.Shelf
open Go.RowKit in
open Go.RowKit in
open Go.RowKit in
open Go.Lib in
open Go.Lib in
open Go.Lib in
open Go.Lib in
open Go.RowKit Go.Sort Go.Lib in
open Go.RowKit Go.Sort Go.Lib in
open Go.RowKit Go.Sort Go.Lib in
open Go.RowKit Go.Sort Go.Lib in
open Go.RowKit Go.Sort Go.Lib in
open Go.RowKit Go.Sort Go.Lib in
open Go.RowKit Go.Sort Go.Lib in
open Go.RowKit Go.Lib in
open Go.RowKit Go.Lib in
open Go.RowKit Go.Lib in
open Go.RowKit Go.Lib in
open Go.RowKit Go.Lib in
open Go.RowKit Go.Lib in
open Go.RowKit Go.Lib in
open Go.RowKit Go.Lib in
open Go.RowKit Go.Lib in
open Go.RowKit Go.Lib in
open Go.RowKit Go.Lib in
open Go.RowKit Go.Lib in
open Go.RowKit Go.Lib in
open Go.RowKit Go.Lib in
open Go.RowKit Go.Lib in
open Go.RowKit Go.Lib in
open Go.RowKit Go.Lib in
open Go.RowKit Go.Lib in
open Go.RowKit Go.Lib in
open Go.RowKit Go.Lib in
open Go.RowKit Go.Lib in
open Go.RowKit Go.Lib in
open Go.RowKit Go.Lib in
open Go.RowKit Go.Lib in
open Go.RowKit Go.Lib in
open Go.RowKit Go.Lib in
open Go.RowKit Go.Lib in
open Go.Lib in
open Go.Lib in
def Tryz.lays110_ren : Go.Shelf.Ren := ⟨fun | 110 => 75 | 109 => 144 | n => n, fun | 31 => 68 | 9 => 9 | 4 => 4 | 3 => 3 | 0 => 0 | n => n, fun | n => n⟩
theorem Tryz.lays110 : Go.Proofs.Lays.n110 Tryz.prog Tryz.lays110_ren := {
 mixed := by kernel_rfl
 f109 := Tryz.func144.trans (congrArg some (by kernel_rfl))
 f110 := Tryz.func75.trans (congrArg some (by kernel_rfl))
 t0 := Tryz.underlying0
 a0 := Tryz.isAgg0
 z0 := Tryz.sizeOf0
 v0 := Tryz.zeroValue0
 t3 := Tryz.underlying3
 a3 := Tryz.isAgg3
 z3 := Tryz.sizeOf3
 v3 := Tryz.zeroValue3
 t4 := Tryz.underlying4
 a4 := Tryz.isAgg4
 z4 := Tryz.sizeOf4
 v4 := Tryz.zeroValue4
 t9 := Tryz.underlying9
 a9 := Tryz.isAgg9
 z9 := Tryz.sizeOf9
 v9 := Tryz.zeroValue9
 t31 := Tryz.underlying68
 a31 := Tryz.isAgg68
 z31 := Tryz.sizeOf68
 v31 := Tryz.zeroValue68 }
open Go.Lib in
theorem Tryz.slices_Contains_string (b off n c : Nat) (zs : List ByteArray) (x : ByteArray) (w : World) (hz : n ≤ zs.length) (hbig : n ≤ 9223372036854775807) (hc : ∀ j, j < zs.length → w.cell? ⟨b, off + j, none⟩ = some (.string (zs.getD j ByteArray.empty))) :
  Calls Tryz.prog 75 #[.slice (some ⟨b, off, none⟩) n c, .string x] w fun e w' => e = .returned (.bool (Lib.containsS (zs.take n) x)) ∧ w' = w := Any.slices_Contains_string Tryz.lays110 b off n c zs x w hz hbig hc
open Go.Lib in
theorem Tryz.slices_Contains_string_empty (a : Option Addr) (c : Nat) (x : ByteArray) (w : World) :
  Calls Tryz.prog 75 #[.slice a 0 c, .string x] w fun e w' => e = .returned (.bool false) ∧ w' = w := Any.slices_Contains_string_empty Tryz.lays110 a c x w
end Go.Proofs
namespace Go.Proofs.Spl
open Go.Proofs.Scn
def namesL (l : List Tok) : List Ln := (l.filter fun t => t.k == 1).map Tok.s
def addN (out : List Ln) (s : Ln) : List Ln := if s ∈ out then out else out ++ [s]
def firstN (l : List Ln) : List Ln := l.foldl addN []
mutual
def targetsX : X → List Ln
 | .mk op name n w v l => if namedO op then name :: targetsXs l else targetsXs l
def targetsXs : List X → List Ln
 | [] => []
 | x :: l => targetsX x ++ targetsXs l
end
theorem namesL_app (a b : List Tok) : namesL (a ++ b) = namesL a ++ namesL b := by simp [namesL]
theorem namesL_sg (s : Ln) (l : List Tok) : namesL (sgT s :: l) = namesL l := by simp [namesL, sgT]
theorem namesL_wd (s : Ln) (l : List Tok) : namesL (wdT s :: l) = namesL l := by simp [namesL, wdT]
theorem namesL_nm (s : Ln) (l : List Tok) : namesL (nmT s :: l) = s :: namesL l := by simp [namesL, nmT]
theorem namesL_in (o c : UInt8) (l : List Tok) : namesL (inT o c l) = namesL l := by
 unfold inT
 rw [namesL_sg, namesL_app, namesL_sg]
 simp [namesL]
theorem namesL_part (k : Nat × List Tok) (n : Nat) : namesL (partT k n) = namesL k.2 := by
 unfold partT parT
 split
 ·exact namesL_in ..
 ·rfl
theorem namesL_sep (s : Ln) : ∀ l : List (List Tok), namesL (sepS s l) = (l.map namesL).flatten
 | [] => rfl
 | [a] => by simp [sepS]
 | a :: b :: r => by rw [sepS, namesL_app, namesL_sg, namesL_sep s (b :: r)]; simp
theorem targetsXs_flat (l : List X) : targetsXs l = (l.map targetsX).flatten := by
 induction l with
 | nil => rfl
 | cons x l ih => rw [targetsXs, ih]; rfl
theorem names_expr : ∀ x : X, okX x = true → namesL (exprT x) = targetsX x := by
 refine X.ind ?_
 intro x ih hx
 rw [okX_iff, Bool.and_eq_true, List.all_eq_true] at hx
 obtain ⟨h0, hl⟩ := hx
 have hm : ((x.l.map exprT).map namesL).flatten = targetsXs x.l := by
  rw [targetsXs_flat, List.map_map]
  congr 1
  exact List.map_congr_left fun y hy => ih y hy (hl y hy)
 unfold okNode at h0
 simp only [Bool.and_eq_true] at h0
 obtain ⟨⟨⟨hn, hpt⟩, hnu⟩, hv⟩ := h0
 have hk : ∀ y ∈ x.l, namesL (exprT y) = targetsX y := fun y hy => ih y hy (hl y hy)
 obtain ⟨op, name, n, w, v, l⟩ := x
 simp only [X.op, X.name, X.n, X.w, X.v, X.l] at hn hpt hnu hv hm hk
 rw [exprT_eq, targetsX]
 simp only [X.op, X.name, X.n, X.w, X.v, X.l]
 unfold nodeT
 rw [map_snd]
 by_cases h1 : op = 1
 ·subst h1
  have : l = [] := by simpa [partsO] using hpt
  subst this
  rw [if_pos rfl]
  rfl
 rw [if_neg h1]
 by_cases h2 : op = 2
 ·subst h2
  have : l = [] := by simpa [partsO] using hpt
  subst this
  rw [if_pos rfl, namesL_nm]
  rfl
 rw [if_neg h2]
 by_cases h3 : op = 3 ∨ op = 4
 ·rw [if_pos h3, namesL_nm, braT, namesL_in, namesL_sep, hm]
  rcases h3 with h3 | h3 <;> subst h3 <;> rfl
 rw [if_neg h3]
 have hnn : namedO op = false := by
  simp [namedO]; omega
 rw [hnn, if_neg (show ¬ (false = true) from Bool.false_ne_true)]
 by_cases h5 : op = 5
 ·rw [if_pos h5]
  have : l.length = 1 := by simpa [partsO, h5] using hpt
  match l, this with
  | [a], _ =>
   simp only [List.map_cons, List.map_nil, targetsXs]
   rw [namesL_sg, namesL_part, hk a (by simp)]
   simp
 rw [if_neg h5]
 by_cases h6 : op = 6
 ·rw [if_pos h6]
  have : l.length = 2 := by simpa [partsO, h6] using hpt
  match l, this with
  | [a, b], _ =>
   simp only [List.map_cons, List.map_nil, targetsXs]
   rw [namesL_app, namesL_sg, namesL_part, namesL_part, hk a (by simp), hk b (by simp)]
   simp
 rw [if_neg h6]
 by_cases h7 : op = 7
 ·rw [if_pos h7]
  have : l.length = 3 := by simpa [partsO, h7] using hpt
  match l, this with
  | [a, b, c], _ =>
   simp only [List.map_cons, List.map_nil, targetsXs]
   rw [namesL_app, namesL_sg, namesL_part, namesL_app, namesL_sg, hk a (by simp), hk b (by simp), hk c (by simp)]
   simp
 rw [if_neg h7]
 by_cases h8 : op = 8
 ·rw [if_pos h8, cubT, namesL_in, namesL_sep, hm]
 rw [if_neg h8]
 by_cases h9 : op = 9
 ·rw [if_pos h9]
  have : l.length = 2 := by simpa [partsO, h9] using hpt
  match l, this with
  | [a, b], _ =>
   simp only [List.map_cons, List.map_nil, targetsXs]
   rw [cubT, namesL_in, namesL_app, cubT, namesL_in, hk a (by simp), hk b (by simp)]
   simp
 rw [if_neg h9, namesL_wd, parT, namesL_in, namesL_sep, hm]
end Go.Proofs.Spl
