/- How tokens are written. -/
import Derived.Test.YtpabaabkhmjdhaaDoorU2
import Derived.Lib.AppendStr
namespace Go.Proofs.YtpabaabkhmjdhaaDoor
open Go.RowKit Go.Proofs.Scn Go.Flow Go.Sort
set_option linter.unusedVariables false
set_option linter.unusedSimpArgs false
set_option maxRecDepth 100000

/-- bytes as cells -/
def cellsB (l : List UInt8) : List Value := l.map fun c => .int .u8 c.toNat
theorem cellsB_length (l : List UInt8) : (cellsB l).length = l.length := by simp [cellsB]
/-- a slice of bytes that lies in blocks from B on -/
def OwnB (B : Nat) (w : World) (v : Value) (l : List UInt8) : Prop := w.ownsRow B 5 1 v l.length (cellsB l)
theorem OwnB.later {B : Nat} {w w' : World} {v : Value} {l : List UInt8} (h : OwnB B w v l) (hb : Below w.heap.size w w') : OwnB B w' v l := by
  refine ⟨h.1, ?_⟩
  rcases h.2 with h0 | ⟨g, cap, cur, hv, hB, hg, h1⟩
  · exact .inl h0
  · exact .inr ⟨g, cap, cur, hv, hB, (hb.block g (Array.getElem?_eq_some_iff.1 hg).1).trans hg, h1⟩
theorem OwnB.nil (B : Nat) (w : World) : OwnB B w (.slice none 0 0) [] := World.ownsRow_nil w B _ 1
theorem OwnB.bytes {B : Nat} {w : World} {v : Value} {l : List UInt8} (h : OwnB B w v l) : Bytes w v (bs l) := by
  rcases h.2 with ⟨rfl, h0⟩ | ⟨g, cap, cur, rfl, hB, hg, hn, hc, hs, ht⟩
  · exact .inl ⟨h0, _, _, rfl⟩
  · refine .inr ⟨g, 0, cap, rfl, (Array.getElem?_eq_some_iff.1 hg).1, fun k hk => ?_⟩
    have hk' : k < l.length := hk
    have : (cellsB l)[k]? = some (.int .u8 (l[k]).toNat) := by simp [cellsB, hk']
    rw [← ht, List.getElem?_take, if_pos (by omega)] at this
    rw [Nat.zero_add, cell_of_row w g k cur _ (0, 0) hg]
    show cur[k]? = some (.int .u8 (l[k]).toNat)
    simpa using this

/-- what Text gives -/
def TextPost (W : World) (ts : List Tok) (e : Ending) (W' : World) : Prop :=
  (if ts.all checkT then
    if (textL ts).length ≤ 65536 then ∃ v, e = .returned (.tuple #[v, .int .i64 0]) ∧ OwnB W.heap.size W' v (textL ts) else e = .returned (.tuple #[.slice none 0 0, .int .i64 2])
  else e = .returned (.tuple #[.slice none 0 0, .int .i64 1])) ∧ Below W.heap.size W W'

theorem checkT_kinds {t : Tok} (h : checkT t = true) : t.k = 1 ∧ isName t.s = true ∨ t.k = 2 ∧ isWord t.s = true ∨ t.k = 4 ∧ isSign t.s = true ∨ t.k = 3 ∧ (t.w = 0 ∨ fitsV t.w t.v = true) := by
  unfold checkT at h
  rw [Bool.and_eq_true] at h
  have h := h.2
  by_cases h1 : t.k = 1
  · rw [if_pos h1] at h; simp at h; exact .inl ⟨h1, h.2⟩
  · rw [if_neg h1] at h
    by_cases h2 : t.k = 2
    · rw [if_pos h2] at h; simp at h; exact .inr (.inl ⟨h2, h.2⟩)
    · rw [if_neg h2] at h
      by_cases h4 : t.k = 4
      · rw [if_pos h4] at h; simp at h; exact .inr (.inr (.inl ⟨h4, h.2⟩))
      · rw [if_neg h4] at h
        by_cases h3 : t.k = 3
        · rw [if_pos h3] at h; simp at h; exact .inr (.inr (.inr ⟨h3, h.2⟩))
        · rw [if_neg h3] at h; simp at h
theorem one_len {t : Tok} (h : checkT t = true) (hv : t.v < two64) : (oneT t).length ≤ 64 := by
  have hv' : t.v < 18446744073709551616 := hv
  unfold oneT
  rcases checkT_kinds h with ⟨hk, hn⟩ | ⟨hk, hn⟩ | ⟨hk, hn⟩ | ⟨hk, hn⟩
  · rw [if_pos (by omega)]
    simp [isName] at hn
    omega
  · rw [if_pos (by omega)]
    have := words_ok
    rw [List.all_eq_true] at this
    have h2 := this t.s (by simpa [isWord] using hn)
    simp at h2
    omega
  · rw [if_pos (by omega)]
    have := (sign_mem hn).2.2.2.2
    omega
  · rw [if_neg (by omega)]
    rcases hn with h0 | h0
    · rw [if_pos h0]
      have := digL_len 10 (by omega) 20 t.v (by omega) (by omega)
      omega
    · split
      · have := digL_len 10 (by omega) 20 t.v (by omega) (by omega)
        omega
      · simp only [fitsV, Bool.and_eq_true, decide_eq_true_eq] at h0
        have h1 := digL_len 10 (by omega) 2 t.w.toNat (by omega) (by omega)
        have h2 := digL_len 16 (by omega) 16 t.v (by omega) (by omega)
        simp
        omega

theorem textL_snoc (a t : Tok) : ∀ l : List Tok, textL (l ++ [a, t]) = textL (l ++ [a]) ++ sepT a :: oneT t
  | [] => rfl
  | [x] => by simp [textL]
  | x :: y :: l => by
    have := textL_snoc a t (y :: l)
    rw [List.cons_append, List.cons_append] at this
    rw [List.cons_append, List.cons_append, List.cons_append, List.cons_append, textL, this, textL]
    simp
theorem textL_grow (l : List Tok) (t : Tok) : (textL l).length ≤ (textL (l ++ [t])).length := by
  rcases List.eq_nil_or_concat l with rfl | ⟨l', a, rfl⟩
  · simp [textL]
  · rw [List.concat_eq_append, List.append_assoc, List.cons_append, List.nil_append, textL_snoc]
    simp
theorem textL_take (ts : List Tok) (k : Nat) : (textL (ts.take k)).length ≤ (textL ts).length := by
  have key : ∀ (r l : List Tok), (textL l).length ≤ (textL (l ++ r)).length := by
    intro r
    induction r with
    | nil => intro l; simp
    | cons t r ih =>
      intro l
      rw [show l ++ t :: r = (l ++ [t]) ++ r by simp]
      refine Nat.le_trans ?_ (ih (l ++ [t]))
      exact textL_grow l t
  have := key (ts.drop k) (ts.take k)
  rwa [List.take_append_drop] at this

theorem byteInfo : (Tryd.prog.info? 5).map (fun i => (i.zero, i.size, i.bytes)) = some (some (.int .u8 0), 1, 1) := by kernel_rfl
theorem byteSlice : Tryd.prog.underlying 22 = some (.slice 5) := by kernel_rfl
theorem strKind : Tryd.prog.underlying 9 = some .string := by kernel_rfl
theorem grow_bytes {W W2 w3 : World} {L l : List UInt8} {q : Option Addr} {cp : Nat} {v' : Value} {N : Nat} (hN : (L ++ l).length = N) (HO2 : OwnB W.heap.size W2 (.slice q L.length cp) L) (hB2 : Below W.heap.size W W2)
    (hown : w3.ownsRow W.heap.size 5 1 v' (L.length + l.length) (cellsB L ++ cellsB l)) (hgr : W2.grownBy w3 (Value.slice q L.length cp).ownBlock) :
    OwnB W.heap.size w3 v' (L ++ l) ∧ Below W.heap.size W w3 ∧ (∃ q3 cap3, v' = .slice q3 N cap3) ∧ (∀ a : Addr, a.block < W2.heap.size → some a.block ≠ (Value.slice q L.length cp).ownBlock → w3.cell? a = W2.cell? a) := by
  refine ⟨?_, Below.grown hB2 hgr hB2.size fun k hk => (World.ownsRow.lt HO2 k hk).1, ?_, fun a h1 h2 => hgr.cell_far a h1 h2⟩
  · unfold OwnB
    rw [List.length_append, show cellsB (L ++ l) = cellsB L ++ cellsB l from List.map_append]
    exact hown
  · rw [← hN, List.length_append]
    rcases hown.2 with ⟨h1, h2⟩ | ⟨g3, cap3, _, h, _⟩
    · exact ⟨none, 0, by rw [h1, h2]⟩
    · exact ⟨some ⟨g3, 0, none⟩, cap3, h⟩

theorem sep_tok {W wr w3 : World} {L l : List UInt8} {q : Option Addr} {cp : Nat} {v' : Value} {N : Nat} {o o' : Obj} (hN : (L ++ l).length = N) (HO2 : OwnB W.heap.size (wr.alloc o) (.slice q L.length cp) L) (hB2 : Below W.heap.size W (wr.alloc o)) (hW : W.heap.size ≤ wr.heap.size)
    (hown : w3.ownsRow W.heap.size 5 1 v' (L.length + l.length) (cellsB L ++ cellsB l)) (hgr : ((wr.alloc o).alloc o').grownBy w3 (Value.slice q L.length cp).ownBlock) (hrow : some wr.heap.size ≠ (Value.slice q L.length cp).ownBlock) :
    OwnB W.heap.size w3 v' (L ++ l) ∧ Below W.heap.size W w3 ∧ (∃ q3 cap3, v' = .slice q3 N cap3) ∧ (∀ a b c d e, Box5 (wr.alloc o) wr.heap.size a b c d e → Box5 w3 wr.heap.size a b c d e) := by
  obtain ⟨h1, h2, h3, h4⟩ := grow_bytes hN (HO2.later ((Below.refl _ _).alloc (Nat.le_refl _) o')) (hB2.alloc hB2.size o') hown hgr
  refine ⟨h1, h2, h3, fun a b c d e h => ?_⟩
  have k1 : ∀ j, w3.cell? ⟨wr.heap.size, j, none⟩ = (wr.alloc o).cell? ⟨wr.heap.size, j, none⟩ := fun j =>
    (h4 ⟨wr.heap.size, j, none⟩ (by simp; omega) hrow).trans (World.cell?_of_block (heap_alloc_old (wr.alloc o) o' (by simp)))
  have k2 : ∀ j, w3.frozen? ⟨wr.heap.size, j, none⟩ = (wr.alloc o).frozen? ⟨wr.heap.size, j, none⟩ := fun j =>
    (hgr.frozen_far ⟨wr.heap.size, j, none⟩ (by simp; omega) hrow).trans (World.frozen?_of_block (heap_alloc_old (wr.alloc o) o' (by simp)))
  exact ⟨(k1 0).trans h.c0, (k1 1).trans h.c1, (k1 2).trans h.c2, (k1 3).trans h.c3, (k1 4).trans h.c4, (k2 0).trans h.f0, (k2 1).trans h.f1, (k2 2).trans h.f2, (k2 3).trans h.f3, (k2 4).trans h.f4, Nat.lt_of_lt_of_le (show wr.heap.size < (wr.alloc o).heap.size by simp) (Nat.le_trans (show (wr.alloc o).heap.size ≤ ((wr.alloc o).alloc o').heap.size by simp) hgr.size)⟩

set_option maxHeartbeats 8000000 in
theorem text_some (b off cap : Nat) (ts : List Tok) (hl : ts.length ≤ 140737488351232) (W : World) (hlt : b < W.heap.size) (hc : ∀ k (h : k < ts.length), TokAt W b (off + k * 5) ts[k]) (hv : ∀ t ∈ ts, t.v < two64 ∧ t.s.length ≤ 140737488355328) (hB : Base W) :
    Calls Tryd.prog 22 #[.slice (some ⟨b, off, none⟩) ts.length cap] W (TextPost W ts) := by
  have HC := Lib.hid hc
  have HV := Lib.hid hv
  have HB := Lib.hid hB
  clear hc hv hB
  have hdef : ∀ e W', (TextPost W ts e W' ↔ TextPost W ts e W') := fun _ _ => Iff.rfl
  generalize hP : TextPost W ts = P at hdef ⊢
  have HP := Lib.hid hP
  clear hdef hP
  obtain ⟨i0, hi, hz0, hz1, hz2⟩ := info_parts byteInfo
  go_enter Tryd.func22, Tryd.ntmps22
  go_wp2
  go_loopw [14] (fun i wr => ∃ k : Nat, k ≤ ts.length ∧ i = .int .i64 k ∧ Hid (∀ t ∈ ts.take k, checkT t = true) ∧ Hid (Below W.heap.size W wr)) (fun i _ => ts.length - (intOf i).toNat)
  case atStart => exact ⟨0, Nat.zero_le _, rfl, Lib.hid (by simp), Lib.hid (Below.refl _ _)⟩
  case round =>
    obtain ⟨k, hk, rfl, HA, HX⟩ := hrel
    by_cases hks : k < ts.length
    · obtain ⟨c0, c1, c2, c3, c4⟩ := (HC.out k hks).later hlt HX.out
      have hmem : ts[k] ∈ ts := List.getElem_mem hks
      have hvk := HV.out _ hmem
      have kc := fun W hB => check_any ts[k].k ts[k].w ts[k].p (bs ts[k].s) ts[k].v (by show ts[k].s.length ≤ _; omega) hvk.1 W hB
      rw [list_bs] at kc
      have hnext : checkT ts[k] = true → ∀ t ∈ ts.take (k + 1), checkT t = true := by
        intro h t ht
        rw [List.take_succ_eq_append_getElem hks] at ht
        rcases List.mem_append.1 ht with h1 | h1
        · exact HA.out t h1
        · rw [List.mem_singleton.1 h1]; exact h
      have hbad : checkT ts[k] = false → ts.all checkT = false := by
        intro h
        rw [List.all_eq_false]
        exact ⟨_, hmem, by simp [h]⟩
      have HY := Lib.hid (HX.out.alloc HX.out.size (.cells #[.int .i64 ts[k].k, .string (bs ts[k].s), .int .i64 ts[k].w, .int .u64 ts[k].v, .int .i64 ts[k].p] 32))
      have HBY := Lib.hid (HB.out.later HY.out)
      have hceq : ∀ t : Tok, checkT ⟨t.k, t.s, t.w, t.v, t.p⟩ = checkT t := fun t => rfl
      rw [hceq] at kc
      clear hceq hvk hmem
      generalize ts[k] = t at *
      cases hct : checkT t
      · rw [hct, show errB false = 1 from rfl] at kc
        have KC := Lib.hid kc
        have HN := Lib.hid (hbad hct)
        clear kc hnext hbad hct
        go_wp2_with fail
        refine (KC.out _ HBY.out).mono ?_
        rintro e W2 ⟨rfl, hb2⟩
        have HZ := Lib.hid (HY.out.trans (hb2.mono HY.out.size))
        clear hb2
        go_wp2
        rw [← HP.out]
        refine ⟨?_, HZ.out⟩
        rw [HN.out]
        rfl
      · rw [hct, show errB true = 0 from rfl] at kc
        have KC := Lib.hid kc
        have HN := Lib.hid (hnext hct)
        clear kc hnext hbad hct
        go_wp2_with fail
        refine (KC.out _ HBY.out).mono ?_
        rintro e W2 ⟨rfl, hb2⟩
        have HZ := Lib.hid (HY.out.trans (hb2.mono HY.out.size))
        clear hb2
        go_wp2_with fail
        go_roundw
        case rel => exact ⟨k + 1, by omega, by go_num, HN, HZ⟩
        case measure => simp [intOf]; omega
    · obtain rfl : k = ts.length := by omega
      have hall : ∀ t ∈ ts, checkT t = true := by
        have := HA.out
        rwa [List.take_length] at this
      have HAll := Lib.hid hall
      clear hall HA
      have HX0 := Lib.hid HX.out
      go_wp2_with fail
      go_loopw [7, 26] (fun u i wr => ∃ (k : Nat) (q : Option Addr) (cp : Nat) (L : List UInt8), k ≤ ts.length ∧ u = .slice q L.length cp ∧ i = .int .i64 k ∧ L.length ≤ 65536 ∧ Hid (L = textL (ts.take k)) ∧ Hid (OwnB W.heap.size wr (.slice q L.length cp) L) ∧ Hid (Below W.heap.size W wr)) (fun _ i _ => ts.length - (intOf i).toNat)
      case atStart => exact ⟨0, none, 0, [], Nat.zero_le _, rfl, rfl, by simp, Lib.hid rfl, Lib.hid (OwnB.nil _ _), HX0⟩
      case round =>
        obtain ⟨k, q, cp, L, hk, rfl, rfl, hL, HL, HO, HX⟩ := hrel
        by_cases hks : k < ts.length
        · obtain ⟨c0, c1, c2, c3, c4⟩ := (HC.out k hks).later hlt HX.out
          have hmem : ts[k] ∈ ts := List.getElem_mem hks
          have hvk := HV.out _ hmem
          have hck := HAll.out _ hmem
          have hol := one_len hck hvk.1
          have kw := fun W hB => written_any ts[k] hck hvk.1 W hB
          have hY := HX.out.alloc HX.out.size (.cells #[.int .i64 ts[k].k, .string (bs ts[k].s), .int .i64 ts[k].w, .int .u64 ts[k].v, .int .i64 ts[k].p] 32)
          have HO2 := HO.out.later ((Below.refl _ _).alloc (Nat.le_refl _) (.cells #[.int .i64 ts[k].k, .string (bs ts[k].s), .int .i64 ts[k].w, .int .u64 ts[k].v, .int .i64 ts[k].p] 32))
          have b5 := Box5.new wr (.int .i64 ts[k].k) (.string (bs ts[k].s)) (.int .i64 ts[k].w) (.int .u64 ts[k].v) (.int .i64 ts[k].p) 32
          have hosz : (bs (oneT ts[k])).size = (oneT ts[k]).length := rfl
          by_cases h0 : k = 0
          · have hfin : L ++ oneT ts[k] = textL (ts.take (k + 1)) := by
              have h1 : ts.take k = [] := by rw [h0]; rfl
              rw [List.take_succ_eq_append_getElem hks, HL.out, h1]; rfl
            have HF := Lib.hid hfin
            have KW := Lib.hid kw
            have HY := Lib.hid hY
            have hkn : ¬ (0 : Int) < (k : Int) := by omega
            clear hfin kw hY hck hvk hmem h0
            generalize ts[k] = t at *
            go_wp2_with fail
            refine (KW.out _ (HB.out.later HY.out)).mono ?_
            rintro e W2 ⟨rfl, hb2⟩
            have HO3 := Lib.hid (HO2.later hb2)
            have HB3 := Lib.hid (HY.out.trans (hb2.mono HY.out.size))
            clear hb2 HO2
            obtain ⟨N, hN⟩ : ∃ N, (L ++ oneT t).length = N := ⟨_, rfl⟩
            by_cases hbig : 65536 < N
            · have hbig' : (65536 : Int) < (N : Int) := by omega
              have hover : ¬ (textL ts).length ≤ 65536 := by
                have h1 := textL_take ts (k + 1)
                rw [← HF.out] at h1
                omega
              have HOver := Lib.hid hover
              clear hover hbig
              go_wp2_with (at_builtin; refine Lib.wpList_append_own_string _ rfl _ _ 22 9 rfl W.heap.size 5 i0 byteSlice strKind hi hz0 hz1 hz2 _ _ _ rfl HO3.out (bs (oneT t)) rfl (by rw [hosz]; unfold maxLen; omega) (by rw [hosz]; omega) HB3.out.size ?_; intro v' w3 hown hgr hnil; clear hnil; have HZ := Lib.hid (grow_bytes (l := oneT t) hN HO3.out HB3.out hown hgr); obtain ⟨q3, cap3, rfl⟩ := HZ.out.2.2.1; clear hown hgr)
              rw [← HP.out]
              refine ⟨?_, HZ.out.2.1⟩
              rw [if_pos (by rw [List.all_eq_true]; exact HAll.out), if_neg HOver.out]
              rfl
            · have hbig' : ¬ (65536 : Int) < (N : Int) := by omega
              go_wp2_with (at_builtin; refine Lib.wpList_append_own_string _ rfl _ _ 22 9 rfl W.heap.size 5 i0 byteSlice strKind hi hz0 hz1 hz2 _ _ _ rfl HO3.out (bs (oneT t)) rfl (by rw [hosz]; unfold maxLen; omega) (by rw [hosz]; omega) HB3.out.size ?_; intro v' w3 hown hgr hnil; clear hnil; have HZ := Lib.hid (grow_bytes (l := oneT t) hN HO3.out HB3.out hown hgr); obtain ⟨q3, cap3, rfl⟩ := HZ.out.2.2.1; clear hown hgr)
              go_roundw
              case rel => exact ⟨k + 1, q3, cap3, L ++ oneT t, by omega, by rw [hN], by go_num, by omega, HF, Lib.hid (by rw [hN]; exact HZ.out.1), Lib.hid HZ.out.2.1⟩
              case measure => simp [intOf]; omega
          · obtain ⟨j, hjk⟩ : ∃ j, k = j + 1 := ⟨k - 1, by omega⟩
            have hjs : j < ts.length := by omega
            have hkj : (k : Int) - 1 = (j : Int) := by omega
            have hkp : (0 : Int) < (k : Int) := by omega
            have d1 := ((HC.out j hjs).later hlt hY).c1
            have hne : ts.take k = ts.take j ++ [ts[j]] := by rw [hjk, List.take_succ_eq_append_getElem hjs]
            have hfin : (L ++ [sepT ts[j]]) ++ oneT ts[k] = textL (ts.take (k + 1)) := by
              rw [List.take_succ_eq_append_getElem hks, HL.out, hne, List.append_assoc, List.append_assoc]
              exact (textL_snoc ts[j] ts[k] (ts.take j)).symm
            have HB5 := Lib.hid b5
            clear hne hjk h0
            have hsq : (bs ts[j].s).toList = ts[j].s := by rw [toList_eq, list_bs]
            have hs5 : sepT ts[j] = if ts[j].s = [59] ∨ ts[j].s = [123] ∨ ts[j].s = [125] then 10 else 32 := rfl
            have KW := Lib.hid kw
            have HY := Lib.hid hY
            clear kw hY hck hvk hmem
            generalize sepT ts[j] = sp at *
            generalize ts[j].s = sj at *
            generalize ts[k] = t at *
            rw [← hsq] at hs5
            generalize bs sj = SJ at *
            clear hsq
            by_cases t1 : SJ.toList = [59]
            · have hc : sp = 10 := by rw [hs5, if_pos (.inl t1)]
              clear hs5
              subst hc
              have hfin2 := hfin
              clear hfin
              obtain ⟨M, hM⟩ : ∃ M, L ++ [(10 : UInt8)] = M := ⟨_, rfl⟩
              have hN1 : (L ++ [(10 : UInt8)]).length = M.length := by rw [hM]
              have hlm : M.length ≤ L.length + 1 := by rw [← hM]; simp
              rw [hM] at hfin2
              have HF := Lib.hid hfin2
              have hrow : some wr.heap.size ≠ (Value.slice q L.length cp).ownBlock := fun he => Nat.lt_irrefl _ (World.ownsRow.lt HO.out _ he.symm).2
              have HM := Lib.hid hM
              have HN1 := Lib.hid hN1
              clear hfin2 hM hN1
              go_wp2_with (at_builtin; refine wpList_append_own _ rfl _ _ 22 rfl W.heap.size 5 i0 (.int .u8 0) 1 1 byteSlice hi hz0 hz1 hz2 rfl (by decide) _ _ _ rfl (HO2.alloc _) ⟨wr.heap.size + 1, 0, none⟩ 1 1 (cellsB [10]) rfl rfl (news5 wr (.cells #[.int .i64 t.k, .string (bs t.s), .int .i64 t.w, .int .u64 t.v, .int .i64 t.p] 32) #[.int .u8 10] 5) (by simp [cellsB, Value.oneCell']) (by unfold maxLen; omega) (by omega) (by have := HY.out.size; simp at this ⊢; omega) ?_; intro v1 w1 hown1 hgr1 hnil1; clear hnil1; have HZ1 := Lib.hid (sep_tok HN1.out HO2 HY.out HX.out.size hown1 hgr1 hrow); obtain ⟨q1, cap1, rfl⟩ := HZ1.out.2.2.1; obtain ⟨e0, e1, e2, e3, e4, _, _, _, _, _, _⟩ := HZ1.out.2.2.2 _ _ _ _ _ HB5.out; clear hown1 hgr1)
              refine (KW.out _ (HB.out.later HZ1.out.2.1)).mono ?_
              rintro e W2 ⟨rfl, hb2⟩
              have hO3 := HZ1.out.1.later hb2
              have HB3 := Lib.hid (HZ1.out.2.1.trans (hb2.mono HZ1.out.2.1.size))
              rw [HM.out] at hO3
              have HO3 := Lib.hid hO3
              clear hb2 hO3
              obtain ⟨N, hN⟩ : ∃ N, (M ++ oneT t).length = N := ⟨_, rfl⟩
              by_cases hbig : 65536 < N
              · have hbig' : (65536 : Int) < (N : Int) := by omega
                have hover : ¬ (textL ts).length ≤ 65536 := by
                  have h1 := textL_take ts (k + 1)
                  rw [← HF.out] at h1
                  omega
                have HOver := Lib.hid hover
                clear hover hbig
                go_wp2_with (at_builtin; refine Lib.wpList_append_own_string _ rfl _ _ 22 9 rfl W.heap.size 5 i0 byteSlice strKind hi hz0 hz1 hz2 _ _ _ rfl HO3.out (bs (oneT t)) rfl (by rw [hosz]; unfold maxLen; omega) (by rw [hosz]; omega) HB3.out.size ?_; intro v' w3 hown hgr hnil; clear hnil; have HZ := Lib.hid (grow_bytes (l := oneT t) hN HO3.out HB3.out hown hgr); obtain ⟨q3, cap3, rfl⟩ := HZ.out.2.2.1; clear hown hgr)
                rw [← HP.out]
                refine ⟨?_, HZ.out.2.1⟩
                rw [if_pos (by rw [List.all_eq_true]; exact HAll.out), if_neg HOver.out]
                rfl
              · have hbig' : ¬ (65536 : Int) < (N : Int) := by omega
                go_wp2_with (at_builtin; refine Lib.wpList_append_own_string _ rfl _ _ 22 9 rfl W.heap.size 5 i0 byteSlice strKind hi hz0 hz1 hz2 _ _ _ rfl HO3.out (bs (oneT t)) rfl (by rw [hosz]; unfold maxLen; omega) (by rw [hosz]; omega) HB3.out.size ?_; intro v' w3 hown hgr hnil; clear hnil; have HZ := Lib.hid (grow_bytes (l := oneT t) hN HO3.out HB3.out hown hgr); obtain ⟨q3, cap3, rfl⟩ := HZ.out.2.2.1; clear hown hgr)
                go_roundw
                case rel => exact ⟨k + 1, q3, cap3, M ++ oneT t, by omega, by rw [hN], by go_num, by omega, HF, Lib.hid (by rw [hN]; exact HZ.out.1), Lib.hid HZ.out.2.1⟩
                case measure => simp [intOf]; omega
            by_cases t2 : SJ.toList = [123]
            · have hc : sp = 10 := by rw [hs5, if_pos (.inr (.inl t2))]
              clear hs5
              subst hc
              have hfin2 := hfin
              clear hfin
              obtain ⟨M, hM⟩ : ∃ M, L ++ [(10 : UInt8)] = M := ⟨_, rfl⟩
              have hN1 : (L ++ [(10 : UInt8)]).length = M.length := by rw [hM]
              have hlm : M.length ≤ L.length + 1 := by rw [← hM]; simp
              rw [hM] at hfin2
              have HF := Lib.hid hfin2
              have hrow : some wr.heap.size ≠ (Value.slice q L.length cp).ownBlock := fun he => Nat.lt_irrefl _ (World.ownsRow.lt HO.out _ he.symm).2
              have HM := Lib.hid hM
              have HN1 := Lib.hid hN1
              clear hfin2 hM hN1
              go_wp2_with (at_builtin; refine wpList_append_own _ rfl _ _ 22 rfl W.heap.size 5 i0 (.int .u8 0) 1 1 byteSlice hi hz0 hz1 hz2 rfl (by decide) _ _ _ rfl (HO2.alloc _) ⟨wr.heap.size + 1, 0, none⟩ 1 1 (cellsB [10]) rfl rfl (news5 wr (.cells #[.int .i64 t.k, .string (bs t.s), .int .i64 t.w, .int .u64 t.v, .int .i64 t.p] 32) #[.int .u8 10] 5) (by simp [cellsB, Value.oneCell']) (by unfold maxLen; omega) (by omega) (by have := HY.out.size; simp at this ⊢; omega) ?_; intro v1 w1 hown1 hgr1 hnil1; clear hnil1; have HZ1 := Lib.hid (sep_tok HN1.out HO2 HY.out HX.out.size hown1 hgr1 hrow); obtain ⟨q1, cap1, rfl⟩ := HZ1.out.2.2.1; obtain ⟨e0, e1, e2, e3, e4, _, _, _, _, _, _⟩ := HZ1.out.2.2.2 _ _ _ _ _ HB5.out; clear hown1 hgr1)
              refine (KW.out _ (HB.out.later HZ1.out.2.1)).mono ?_
              rintro e W2 ⟨rfl, hb2⟩
              have hO3 := HZ1.out.1.later hb2
              have HB3 := Lib.hid (HZ1.out.2.1.trans (hb2.mono HZ1.out.2.1.size))
              rw [HM.out] at hO3
              have HO3 := Lib.hid hO3
              clear hb2 hO3
              obtain ⟨N, hN⟩ : ∃ N, (M ++ oneT t).length = N := ⟨_, rfl⟩
              by_cases hbig : 65536 < N
              · have hbig' : (65536 : Int) < (N : Int) := by omega
                have hover : ¬ (textL ts).length ≤ 65536 := by
                  have h1 := textL_take ts (k + 1)
                  rw [← HF.out] at h1
                  omega
                have HOver := Lib.hid hover
                clear hover hbig
                go_wp2_with (at_builtin; refine Lib.wpList_append_own_string _ rfl _ _ 22 9 rfl W.heap.size 5 i0 byteSlice strKind hi hz0 hz1 hz2 _ _ _ rfl HO3.out (bs (oneT t)) rfl (by rw [hosz]; unfold maxLen; omega) (by rw [hosz]; omega) HB3.out.size ?_; intro v' w3 hown hgr hnil; clear hnil; have HZ := Lib.hid (grow_bytes (l := oneT t) hN HO3.out HB3.out hown hgr); obtain ⟨q3, cap3, rfl⟩ := HZ.out.2.2.1; clear hown hgr)
                rw [← HP.out]
                refine ⟨?_, HZ.out.2.1⟩
                rw [if_pos (by rw [List.all_eq_true]; exact HAll.out), if_neg HOver.out]
                rfl
              · have hbig' : ¬ (65536 : Int) < (N : Int) := by omega
                go_wp2_with (at_builtin; refine Lib.wpList_append_own_string _ rfl _ _ 22 9 rfl W.heap.size 5 i0 byteSlice strKind hi hz0 hz1 hz2 _ _ _ rfl HO3.out (bs (oneT t)) rfl (by rw [hosz]; unfold maxLen; omega) (by rw [hosz]; omega) HB3.out.size ?_; intro v' w3 hown hgr hnil; clear hnil; have HZ := Lib.hid (grow_bytes (l := oneT t) hN HO3.out HB3.out hown hgr); obtain ⟨q3, cap3, rfl⟩ := HZ.out.2.2.1; clear hown hgr)
                go_roundw
                case rel => exact ⟨k + 1, q3, cap3, M ++ oneT t, by omega, by rw [hN], by go_num, by omega, HF, Lib.hid (by rw [hN]; exact HZ.out.1), Lib.hid HZ.out.2.1⟩
                case measure => simp [intOf]; omega
            by_cases t3 : SJ.toList = [125]
            · have hc : sp = 10 := by rw [hs5, if_pos (.inr (.inr t3))]
              clear hs5
              subst hc
              have hfin2 := hfin
              clear hfin
              obtain ⟨M, hM⟩ : ∃ M, L ++ [(10 : UInt8)] = M := ⟨_, rfl⟩
              have hN1 : (L ++ [(10 : UInt8)]).length = M.length := by rw [hM]
              have hlm : M.length ≤ L.length + 1 := by rw [← hM]; simp
              rw [hM] at hfin2
              have HF := Lib.hid hfin2
              have hrow : some wr.heap.size ≠ (Value.slice q L.length cp).ownBlock := fun he => Nat.lt_irrefl _ (World.ownsRow.lt HO.out _ he.symm).2
              have HM := Lib.hid hM
              have HN1 := Lib.hid hN1
              clear hfin2 hM hN1
              go_wp2_with (at_builtin; refine wpList_append_own _ rfl _ _ 22 rfl W.heap.size 5 i0 (.int .u8 0) 1 1 byteSlice hi hz0 hz1 hz2 rfl (by decide) _ _ _ rfl (HO2.alloc _) ⟨wr.heap.size + 1, 0, none⟩ 1 1 (cellsB [10]) rfl rfl (news5 wr (.cells #[.int .i64 t.k, .string (bs t.s), .int .i64 t.w, .int .u64 t.v, .int .i64 t.p] 32) #[.int .u8 10] 5) (by simp [cellsB, Value.oneCell']) (by unfold maxLen; omega) (by omega) (by have := HY.out.size; simp at this ⊢; omega) ?_; intro v1 w1 hown1 hgr1 hnil1; clear hnil1; have HZ1 := Lib.hid (sep_tok HN1.out HO2 HY.out HX.out.size hown1 hgr1 hrow); obtain ⟨q1, cap1, rfl⟩ := HZ1.out.2.2.1; obtain ⟨e0, e1, e2, e3, e4, _, _, _, _, _, _⟩ := HZ1.out.2.2.2 _ _ _ _ _ HB5.out; clear hown1 hgr1)
              refine (KW.out _ (HB.out.later HZ1.out.2.1)).mono ?_
              rintro e W2 ⟨rfl, hb2⟩
              have hO3 := HZ1.out.1.later hb2
              have HB3 := Lib.hid (HZ1.out.2.1.trans (hb2.mono HZ1.out.2.1.size))
              rw [HM.out] at hO3
              have HO3 := Lib.hid hO3
              clear hb2 hO3
              obtain ⟨N, hN⟩ : ∃ N, (M ++ oneT t).length = N := ⟨_, rfl⟩
              by_cases hbig : 65536 < N
              · have hbig' : (65536 : Int) < (N : Int) := by omega
                have hover : ¬ (textL ts).length ≤ 65536 := by
                  have h1 := textL_take ts (k + 1)
                  rw [← HF.out] at h1
                  omega
                have HOver := Lib.hid hover
                clear hover hbig
                go_wp2_with (at_builtin; refine Lib.wpList_append_own_string _ rfl _ _ 22 9 rfl W.heap.size 5 i0 byteSlice strKind hi hz0 hz1 hz2 _ _ _ rfl HO3.out (bs (oneT t)) rfl (by rw [hosz]; unfold maxLen; omega) (by rw [hosz]; omega) HB3.out.size ?_; intro v' w3 hown hgr hnil; clear hnil; have HZ := Lib.hid (grow_bytes (l := oneT t) hN HO3.out HB3.out hown hgr); obtain ⟨q3, cap3, rfl⟩ := HZ.out.2.2.1; clear hown hgr)
                rw [← HP.out]
                refine ⟨?_, HZ.out.2.1⟩
                rw [if_pos (by rw [List.all_eq_true]; exact HAll.out), if_neg HOver.out]
                rfl
              · have hbig' : ¬ (65536 : Int) < (N : Int) := by omega
                go_wp2_with (at_builtin; refine Lib.wpList_append_own_string _ rfl _ _ 22 9 rfl W.heap.size 5 i0 byteSlice strKind hi hz0 hz1 hz2 _ _ _ rfl HO3.out (bs (oneT t)) rfl (by rw [hosz]; unfold maxLen; omega) (by rw [hosz]; omega) HB3.out.size ?_; intro v' w3 hown hgr hnil; clear hnil; have HZ := Lib.hid (grow_bytes (l := oneT t) hN HO3.out HB3.out hown hgr); obtain ⟨q3, cap3, rfl⟩ := HZ.out.2.2.1; clear hown hgr)
                go_roundw
                case rel => exact ⟨k + 1, q3, cap3, M ++ oneT t, by omega, by rw [hN], by go_num, by omega, HF, Lib.hid (by rw [hN]; exact HZ.out.1), Lib.hid HZ.out.2.1⟩
                case measure => simp [intOf]; omega
            · have hc : sp = 32 := by rw [hs5, if_neg (fun h => h.elim t1 fun h => h.elim t2 t3)]
              have y1 : (SJ.toList == [59]) = false := by simpa using t1
              have y2 : (SJ.toList == [123]) = false := by simpa using t2
              have y3 : (SJ.toList == [125]) = false := by simpa using t3
              clear hs5
              subst hc
              have hfin2 := hfin
              clear hfin
              obtain ⟨M, hM⟩ : ∃ M, L ++ [(32 : UInt8)] = M := ⟨_, rfl⟩
              have hN1 : (L ++ [(32 : UInt8)]).length = M.length := by rw [hM]
              have hlm : M.length ≤ L.length + 1 := by rw [← hM]; simp
              rw [hM] at hfin2
              have HF := Lib.hid hfin2
              have hrow : some wr.heap.size ≠ (Value.slice q L.length cp).ownBlock := fun he => Nat.lt_irrefl _ (World.ownsRow.lt HO.out _ he.symm).2
              have HM := Lib.hid hM
              have HN1 := Lib.hid hN1
              clear hfin2 hM hN1
              go_wp2_with (at_builtin; refine wpList_append_own _ rfl _ _ 22 rfl W.heap.size 5 i0 (.int .u8 0) 1 1 byteSlice hi hz0 hz1 hz2 rfl (by decide) _ _ _ rfl (HO2.alloc _) ⟨wr.heap.size + 1, 0, none⟩ 1 1 (cellsB [32]) rfl rfl (news5 wr (.cells #[.int .i64 t.k, .string (bs t.s), .int .i64 t.w, .int .u64 t.v, .int .i64 t.p] 32) #[.int .u8 32] 5) (by simp [cellsB, Value.oneCell']) (by unfold maxLen; omega) (by omega) (by have := HY.out.size; simp at this ⊢; omega) ?_; intro v1 w1 hown1 hgr1 hnil1; clear hnil1; have HZ1 := Lib.hid (sep_tok HN1.out HO2 HY.out HX.out.size hown1 hgr1 hrow); obtain ⟨q1, cap1, rfl⟩ := HZ1.out.2.2.1; obtain ⟨e0, e1, e2, e3, e4, _, _, _, _, _, _⟩ := HZ1.out.2.2.2 _ _ _ _ _ HB5.out; clear hown1 hgr1)
              refine (KW.out _ (HB.out.later HZ1.out.2.1)).mono ?_
              rintro e W2 ⟨rfl, hb2⟩
              have hO3 := HZ1.out.1.later hb2
              have HB3 := Lib.hid (HZ1.out.2.1.trans (hb2.mono HZ1.out.2.1.size))
              rw [HM.out] at hO3
              have HO3 := Lib.hid hO3
              clear hb2 hO3
              obtain ⟨N, hN⟩ : ∃ N, (M ++ oneT t).length = N := ⟨_, rfl⟩
              by_cases hbig : 65536 < N
              · have hbig' : (65536 : Int) < (N : Int) := by omega
                have hover : ¬ (textL ts).length ≤ 65536 := by
                  have h1 := textL_take ts (k + 1)
                  rw [← HF.out] at h1
                  omega
                have HOver := Lib.hid hover
                clear hover hbig
                go_wp2_with (at_builtin; refine Lib.wpList_append_own_string _ rfl _ _ 22 9 rfl W.heap.size 5 i0 byteSlice strKind hi hz0 hz1 hz2 _ _ _ rfl HO3.out (bs (oneT t)) rfl (by rw [hosz]; unfold maxLen; omega) (by rw [hosz]; omega) HB3.out.size ?_; intro v' w3 hown hgr hnil; clear hnil; have HZ := Lib.hid (grow_bytes (l := oneT t) hN HO3.out HB3.out hown hgr); obtain ⟨q3, cap3, rfl⟩ := HZ.out.2.2.1; clear hown hgr)
                rw [← HP.out]
                refine ⟨?_, HZ.out.2.1⟩
                rw [if_pos (by rw [List.all_eq_true]; exact HAll.out), if_neg HOver.out]
                rfl
              · have hbig' : ¬ (65536 : Int) < (N : Int) := by omega
                go_wp2_with (at_builtin; refine Lib.wpList_append_own_string _ rfl _ _ 22 9 rfl W.heap.size 5 i0 byteSlice strKind hi hz0 hz1 hz2 _ _ _ rfl HO3.out (bs (oneT t)) rfl (by rw [hosz]; unfold maxLen; omega) (by rw [hosz]; omega) HB3.out.size ?_; intro v' w3 hown hgr hnil; clear hnil; have HZ := Lib.hid (grow_bytes (l := oneT t) hN HO3.out HB3.out hown hgr); obtain ⟨q3, cap3, rfl⟩ := HZ.out.2.2.1; clear hown hgr)
                go_roundw
                case rel => exact ⟨k + 1, q3, cap3, M ++ oneT t, by omega, by rw [hN], by go_num, by omega, HF, Lib.hid (by rw [hN]; exact HZ.out.1), Lib.hid HZ.out.2.1⟩
                case measure => simp [intOf]; omega
        · obtain rfl : k = ts.length := by omega
          go_wp2_with fail
          rw [← HP.out]
          refine ⟨?_, HX.out⟩
          have hLt := HL.out
          rw [List.take_length] at hLt
          subst hLt
          rw [if_pos (by rw [List.all_eq_true]; exact HAll.out), if_pos hL]
          exact ⟨_, rfl, HO.out⟩

set_option maxHeartbeats 1000000 in
theorem text_empty (p : Option Addr) (c : Nat) (W : World) :
    Calls Tryd.prog 22 #[.slice p 0 c] W (TextPost W []) := by
  have hdef : ∀ e W', (TextPost W [] e W' ↔ TextPost W [] e W') := fun _ _ => Iff.rfl
  generalize hP : TextPost W [] = P at hdef ⊢
  have HP := Lib.hid hP
  clear hdef hP
  go_enter Tryd.func22, Tryd.ntmps22
  go_wp2
  refine wp_loop_rounds 1 ?_
  rw [rounds_succ]
  go_wp2
  refine wp_loop_rounds 1 ?_
  rw [rounds_succ]
  go_wp2
  rw [← HP.out]
  exact ⟨⟨_, rfl, OwnB.nil _ _⟩, Below.refl _ _⟩

theorem text_any (v : Value) (ts : List Tok) (hl : ts.length ≤ 140737488351232) (W : World) (ht : Toks W v ts) (hv : ∀ t ∈ ts, t.v < two64 ∧ t.s.length ≤ 140737488355328) (hB : Base W) :
    Calls Tryd.prog 22 #[v] W (TextPost W ts) := by
  rcases ht with ⟨rfl, p, c, rfl⟩ | ⟨b, off, cap, rfl, hlt, hc⟩
  · exact text_empty p c W
  · exact text_some b off cap ts hl W hlt hc hv hB

end Go.Proofs.YtpabaabkhmjdhaaDoor
