/- How tokens are written: the reference. -/
import Derived.Test.YtpabaabkhmjdhaaDoorT7
import Derived.Test.YtpabaabkhmjdhaaDoorT1
namespace Go.Proofs.YtpabaabkhmjdhaaDoor
open Go.RowKit Go.Proofs.Scn Go.Flow Go.Sort
set_option linter.unusedVariables false
set_option linter.unusedSimpArgs false
set_option maxRecDepth 100000

theorem own_form {B : Nat} {w : World} {v : Value} {L : List UInt8} (h : OwnB B w v L) : ∃ q c, v = .slice q L.length c := by
  rcases h.2 with ⟨h1, h0⟩ | ⟨g, cap, cur, h1, _⟩
  · exact ⟨none, 0, by rw [h1, h0]⟩
  · exact ⟨_, _, h1⟩
theorem src_one (w : World) (c : UInt8) (x : Int) (hx : (c.toNat : Int) = x) : Src (w.alloc (.cells #[.int .u8 x] 5)) (.slice (some ⟨w.heap.size, 0, none⟩) 1 1) [c] := by
  refine .inr ⟨⟨w.heap.size, 0, none⟩, 1, rfl, fun j u hu => ?_⟩
  rcases j with _ | j
  · simp [cellsB] at hu
    subst hu
    simp [Addr.add, World.cell?_alloc_new, hx]
  · simp [cellsB] at hu
theorem src_conv (w : World) (l : List UInt8) (c : Nat) : Src (Lib.bytesWorld w 5 (bs l)) (.slice (some ⟨w.heap.size, 0, none⟩) l.length c) l := by
  have := Src.of_bytes (conv_bytes w (bs l) c) (.inr ⟨_, _, _, rfl⟩)
  rw [list_bs] at this
  exact this

/-- what is written ahead of token k -/
def headR (ts : List Tok) (k : Nat) : List UInt8 := if h : k = 0 ∨ ts.length ≤ k then textL (ts.take k) else textL (ts.take k) ++ [sepT (ts[k - 1]'(by omega))]
theorem headR_zero (ts : List Tok) : headR ts 0 = [] := by unfold headR; rw [dif_pos (.inl rfl)]; rfl
theorem headR_one (ts : List Tok) (k : Nat) (h : k < ts.length) : headR ts k ++ oneT ts[k] = textL (ts.take (k + 1)) := by
  rw [List.take_succ_eq_append_getElem h]
  unfold headR
  by_cases h0 : k = 0
  · subst h0
    rw [dif_pos (.inl rfl)]
    simp [textL]
  · rw [dif_neg (by omega)]
    obtain ⟨j, rfl⟩ : ∃ j, k = j + 1 := ⟨k - 1, by omega⟩
    rw [List.take_succ_eq_append_getElem (show j < ts.length by omega), List.append_assoc, List.append_assoc]
    exact (textL_snoc ts[j] ts[j + 1] (ts.take j)).symm
theorem headR_last (ts : List Tok) (k : Nat) (h : ts.length ≤ k) : headR ts k = textL ts := by
  unfold headR
  rw [dif_pos (.inr h), List.take_of_length_le h]
theorem headR_next (ts : List Tok) (k : Nat) (h : k + 1 < ts.length) : headR ts (k + 1) = textL (ts.take (k + 1)) ++ [sepT (ts[k]'(by omega))] := by
  unfold headR
  rw [dif_neg (by omega)]
  rfl
theorem headR_le (ts : List Tok) (k : Nat) : (headR ts k).length ≤ (textL ts).length := by
  by_cases h : k < ts.length
  · have h1 := textL_take ts (k + 1)
    have h2 := headR_one ts k h
    rw [← h2, List.length_append] at h1
    omega
  · rw [headR_last ts k (by omega)]
    exact Nat.le_refl _
theorem word_not {l : List UInt8} (h : isWord l = true) : l ≠ [59] ∧ l ≠ [123] ∧ l ≠ [125] := by
  refine ⟨?_, ?_, ?_⟩ <;> (rintro rfl; exact absurd h (by decide))
theorem name_not {l : List UInt8} (h : isName l = true) : l ≠ [59] ∧ l ≠ [123] ∧ l ≠ [125] := by
  refine ⟨?_, ?_, ?_⟩ <;> (rintro rfl; exact absurd h (by decide))
theorem sep_kind {t : Tok} (h : checkT t = true) (hk : t.k ≠ 4) : sepT t = 32 := by
  have key : t.s ≠ [59] ∧ t.s ≠ [123] ∧ t.s ≠ [125] := by
    rcases checkT_kinds h with ⟨_, hn⟩ | ⟨_, hn⟩ | ⟨h4, _⟩ | ⟨h3, _⟩
    · exact name_not hn
    · exact word_not hn
    · exact (hk h4).elim
    · have : t.s = [] := by
        unfold checkT at h
        simp [h3] at h
        exact h.2.1
      rw [this]
      refine ⟨?_, ?_, ?_⟩ <;> simp
  unfold sepT
  rw [if_neg]
  rintro (h | h | h)
  · exact key.1 h
  · exact key.2.1 h
  · exact key.2.2 h

set_option maxHeartbeats 8000000 in
theorem rtext_some (b off cap : Nat) (ts : List Tok) (hl : ts.length ≤ 140737488351232) (W : World) (hlt : b < W.heap.size) (hc : ∀ k (h : k < ts.length), TokAt W b (off + k * 5) ts[k]) (hv : ∀ t ∈ ts, t.v < two64 ∧ t.s.length ≤ 140737488355328) (hB : Base W) :
    Calls Tryd.prog 23 #[.slice (some ⟨b, off, none⟩) ts.length cap] W (TextPost W ts) := by
  have HC := Lib.hid hc
  have HV := Lib.hid hv
  have HB := Lib.hid hB
  have hconv := conv_run
  clear hc hv hB
  have hdef : ∀ e W', (TextPost W ts e W' ↔ TextPost W ts e W') := fun _ _ => Iff.rfl
  generalize hP : TextPost W ts = P at hdef ⊢
  have HP := Lib.hid hP
  clear hdef hP
  go_enter Tryd.func23, Tryd.ntmps23
  go_wp2
  go_loopw [5] (fun i wr => ∃ k : Nat, k ≤ ts.length ∧ i = .int .i64 k ∧ Hid (∀ t ∈ ts.take k, checkT t = true) ∧ Hid (Below W.heap.size W wr)) (fun i _ => ts.length - (intOf i).toNat)
  case atStart => exact ⟨0, Nat.zero_le _, rfl, Lib.hid (by simp), Lib.hid (Below.refl _ _)⟩
  case round =>
    obtain ⟨k, hk, rfl, HA, HX⟩ := hrel
    by_cases hks : k < ts.length
    · obtain ⟨c0, c1, c2, c3, c4⟩ := (HC.out k hks).later hlt HX.out
      have hmem : ts[k] ∈ ts := List.getElem_mem hks
      have hvk := HV.out _ hmem
      have kc := fun W hB => refCheck_any ts[k].k ts[k].w ts[k].p (bs ts[k].s) ts[k].v (by show ts[k].s.length ≤ _; omega) hvk.1 W hB
      rw [list_bs] at kc
      have hnext : checkT ts[k] = true → ∀ t ∈ ts.take (k + 1), checkT t = true := by
        intro h t ht
        rw [List.take_succ_eq_append_getElem hks] at ht
        rcases List.mem_append.1 ht with h1 | h1
        · exact HA.out t h1
        · rw [List.mem_singleton.1 h1]; exact h
      have hbad : checkT ts[k] = false → ts.all checkT = false := by
        intro h
        rw [List.all_eq_false]
        exact ⟨_, hmem, by simp [h]⟩
      have HBX := Lib.hid (HB.out.later HX.out)
      have hceq : ∀ t : Tok, checkT ⟨t.k, t.s, t.w, t.v, t.p⟩ = checkT t := fun t => rfl
      rw [hceq] at kc
      clear hceq hvk hmem
      generalize ts[k] = t at *
      cases hct : checkT t
      · rw [hct, show errB false = 1 from rfl] at kc
        have KC := Lib.hid kc
        have HN := Lib.hid (hbad hct)
        clear kc hnext hbad hct
        go_wp2_with fail
        refine (KC.out _ HBX.out).mono ?_
        rintro e W2 ⟨rfl, hb2⟩
        have HZ := Lib.hid (HX.out.trans (hb2.mono HX.out.size))
        clear hb2
        go_wp2
        rw [← HP.out]
        refine ⟨?_, HZ.out⟩
        rw [HN.out]
        rfl
      · rw [hct, show errB true = 0 from rfl] at kc
        have KC := Lib.hid kc
        have HN := Lib.hid (hnext hct)
        clear kc hnext hbad hct
        go_wp2_with fail
        refine (KC.out _ HBX.out).mono ?_
        rintro e W2 ⟨rfl, hb2⟩
        have HZ := Lib.hid (HX.out.trans (hb2.mono HX.out.size))
        clear hb2
        go_wp2_with fail
        go_roundw
        case rel => exact ⟨k + 1, by omega, by go_num, HN, HZ⟩
        case measure => simp [intOf]; omega
    · obtain rfl : k = ts.length := by omega
      have hall : ∀ t ∈ ts, checkT t = true := by
        have := HA.out
        rwa [List.take_length] at this
      have HAll := Lib.hid hall
      clear hall HA
      have HX0 := Lib.hid HX.out
      go_wp2_with fail
      go_loopw [4, 6] (fun u i wr => ∃ (k : Nat) (q : Option Addr) (cp : Nat) (L : List UInt8), k ≤ ts.length ∧ u = .slice q L.length cp ∧ i = .int .i64 k ∧ L.length ≤ 65700 ∧ Hid (L = headR ts k) ∧ Hid (OwnB W.heap.size wr (.slice q L.length cp) L) ∧ Hid (Below W.heap.size W wr)) (fun _ i _ => ts.length - (intOf i).toNat)
      case atStart => exact ⟨0, none, 0, [], Nat.zero_le _, rfl, rfl, by simp, Lib.hid (headR_zero ts).symm, Lib.hid (OwnB.nil _ _), HX0⟩
      case round =>
        obtain ⟨k, q, cp, L, hk, rfl, rfl, hL, HL, HO, HX⟩ := hrel
        by_cases hks : k < ts.length
        · by_cases hbig : L.length ≤ 65536
          · have hbig' : (L.length : Int) ≤ 65536 := by omega
            obtain ⟨c0, c1, c2, c3, c4⟩ := (HC.out k hks).later hlt HX.out
            have HTk := Lib.hid ((HC.out k hks).later hlt HX.out)
            have hmem : ts[k] ∈ ts := List.getElem_mem hks
            have hvk := HV.out _ hmem
            have hck := HAll.out _ hmem
            have hol := one_len hck hvk.1
            have kw := fun W => one_any ts[k] hck hvk.1 W
            have hfin : L ++ oneT ts[k] = textL (ts.take (k + 1)) := by rw [HL.out]; exact headR_one ts k hks
            have hosz : (bs (oneT ts[k])).size = (oneT ts[k]).length := rfl
            have hlw : b < wr.heap.size := Nat.lt_of_lt_of_le hlt HX.out.size
            have hlast : k + 1 = ts.length → L ++ oneT ts[k] = headR ts (k + 1) := fun h => by rw [headR_last ts (k + 1) (by omega), hfin, h, List.take_length]
            have hnext : k + 1 < ts.length → (L ++ oneT ts[k]) ++ [sepT ts[k]] = headR ts (k + 1) := fun h => by rw [headR_next ts k h, hfin]
            have hsk := @sep_kind ts[k] hck
            have hs5 : sepT ts[k] = if ts[k].s = [59] ∨ ts[k].s = [123] ∨ ts[k].s = [125] then 10 else 32 := rfl
            have hsq : (bs ts[k].s).toList = ts[k].s := by rw [toList_eq, list_bs]
            have KW := Lib.hid kw
            clear kw hck hvk hmem hfin
            obtain ⟨M, hM⟩ : ∃ M, L ++ oneT ts[k] = M := ⟨_, rfl⟩
            have hMl : M.length ≤ 65600 := by rw [← hM, List.length_append]; omega
            rw [hM] at hlast hnext
            have HM := Lib.hid hM
            have HLast := Lib.hid hlast
            have HNext := Lib.hid hnext
            clear hM hlast hnext
            generalize sepT ts[k] = sp at *
            generalize hT : ts[k] = t at *
            have HT := Lib.hid hT
            clear hT
            by_cases hlst : k + 1 = ts.length
            · have hi1 : ¬ (k : Int) < (ts.length : Int) - 1 := by omega
              go_wp2_with fail
              refine (KW.out _).mono ?_
              rintro e W2 ⟨rfl, hb2⟩
              have hbw := Joins.below_bytesWorld W2.heap.size W2 5 (bs (oneT t)) (Nat.le_refl _)
              have hbx := hb2.trans (hbw.mono hb2.size)
              have HO3 := Lib.hid (HO.out.later hbx)
              have HB3 := Lib.hid (HX.out.trans (hbx.mono HX.out.size))
              have HWr := Lib.hid hbx
              clear hb2 hbw hbx
              go_wp2_with (at_builtin; refine wpList_append_src rfl _ _ rfl W.heap.size _ L (oneT t) rfl HO3.out _ rfl (src_conv W2 (oneT t) _) (by omega) HB3.out.size ?_; intro u3 w3 hown3 hgr3; have X3 := Lib.hid (own_below HO3.out HB3.out hgr3); rw [HM.out] at hown3; obtain ⟨q3, cp3, hu3⟩ := own_form hown3; subst hu3; have own3 := Lib.hid hown3; clear hown3 hgr3)
              go_roundw
              case rel => exact ⟨k + 1, q3, cp3, M, by omega, rfl, by go_num, by omega, Lib.hid (HLast.out hlst), own3, X3⟩
              case measure => simp [intOf]; omega
            · have hi1 : (k : Int) < (ts.length : Int) - 1 := by omega
              by_cases h4 : t.k = 4
              · rw [← hsq] at hs5
                have H4 := Lib.hid h4
                clear h4 hsk
                have hsq2 : bs t.s = bs t.s := rfl
                clear hsq2
                by_cases t1 : (bs t.s).toList = [59]
                · have hc : sp = 10 := by rw [hs5, if_pos (.inl t1)]
                  clear hs5 hsq
                  subst hc

                  go_wp2_with fail
                  refine (KW.out _).mono ?_
                  rintro e W2 ⟨rfl, hb2⟩
                  have hbw := Joins.below_bytesWorld W2.heap.size W2 5 (bs (oneT t)) (Nat.le_refl _)
                  have hbx := hb2.trans (hbw.mono hb2.size)
                  have HO3 := Lib.hid (HO.out.later hbx)
                  have HB3 := Lib.hid (HX.out.trans (hbx.mono HX.out.size))
                  have HWr := Lib.hid hbx
                  clear hb2 hbw hbx
                  go_wp2_with (at_builtin; first
                    | (refine wpList_append_src rfl _ _ rfl W.heap.size _ L (oneT t) rfl HO3.out _ rfl (src_conv W2 (oneT t) _) (by omega) HB3.out.size ?_; intro u3 w3 hown3 hgr3; have X3 := Lib.hid (own_below HO3.out HB3.out hgr3); rw [HM.out] at hown3; obtain ⟨q3, cp3, hu3⟩ := own_form hown3; subst hu3; obtain ⟨d0, d1, d2, d3, d4⟩ := (HT.out ▸ (HC.out k hks).later hlt X3.out : TokAt w3 b (off + k * 5) t); rw [H4.out] at d0; have own3 := Lib.hid (hown3.later ((Below.refl _ _).alloc (Nat.le_refl _) (.cells #[.int .u8 10] 5))); have Y3 := Lib.hid (X3.out.alloc X3.out.size (.cells #[.int .u8 10] 5)); clear hown3 hgr3)
                    | (refine wpList_append_src rfl _ _ rfl W.heap.size _ M [10] rfl own3.out _ rfl (src_one w3 10 10 rfl) (by simp; omega) Y3.out.size ?_; intro u4 w4 hown4 hgr4; have X4 := Lib.hid (own_below own3.out Y3.out hgr4); obtain ⟨q4, cp4, hu4⟩ := own_form hown4; subst hu4; have own4 := Lib.hid hown4; clear hown4 hgr4))
                  go_roundw
                  case rel => exact ⟨k + 1, q4, cp4, M ++ [10], by omega, by simp, by go_num, by simp; omega, Lib.hid (HNext.out (by omega)), own4, X4⟩
                  case measure => simp [intOf]; omega
                by_cases t2 : (bs t.s).toList = [123]
                · have hc : sp = 10 := by rw [hs5, if_pos (.inr (.inl t2))]
                  clear hs5 hsq
                  subst hc

                  go_wp2_with fail
                  refine (KW.out _).mono ?_
                  rintro e W2 ⟨rfl, hb2⟩
                  have hbw := Joins.below_bytesWorld W2.heap.size W2 5 (bs (oneT t)) (Nat.le_refl _)
                  have hbx := hb2.trans (hbw.mono hb2.size)
                  have HO3 := Lib.hid (HO.out.later hbx)
                  have HB3 := Lib.hid (HX.out.trans (hbx.mono HX.out.size))
                  have HWr := Lib.hid hbx
                  clear hb2 hbw hbx
                  go_wp2_with (at_builtin; first
                    | (refine wpList_append_src rfl _ _ rfl W.heap.size _ L (oneT t) rfl HO3.out _ rfl (src_conv W2 (oneT t) _) (by omega) HB3.out.size ?_; intro u3 w3 hown3 hgr3; have X3 := Lib.hid (own_below HO3.out HB3.out hgr3); rw [HM.out] at hown3; obtain ⟨q3, cp3, hu3⟩ := own_form hown3; subst hu3; obtain ⟨d0, d1, d2, d3, d4⟩ := (HT.out ▸ (HC.out k hks).later hlt X3.out : TokAt w3 b (off + k * 5) t); rw [H4.out] at d0; have own3 := Lib.hid (hown3.later ((Below.refl _ _).alloc (Nat.le_refl _) (.cells #[.int .u8 10] 5))); have Y3 := Lib.hid (X3.out.alloc X3.out.size (.cells #[.int .u8 10] 5)); clear hown3 hgr3)
                    | (refine wpList_append_src rfl _ _ rfl W.heap.size _ M [10] rfl own3.out _ rfl (src_one w3 10 10 rfl) (by simp; omega) Y3.out.size ?_; intro u4 w4 hown4 hgr4; have X4 := Lib.hid (own_below own3.out Y3.out hgr4); obtain ⟨q4, cp4, hu4⟩ := own_form hown4; subst hu4; have own4 := Lib.hid hown4; clear hown4 hgr4))
                  go_roundw
                  case rel => exact ⟨k + 1, q4, cp4, M ++ [10], by omega, by simp, by go_num, by simp; omega, Lib.hid (HNext.out (by omega)), own4, X4⟩
                  case measure => simp [intOf]; omega
                by_cases t3 : (bs t.s).toList = [125]
                · have hc : sp = 10 := by rw [hs5, if_pos (.inr (.inr t3))]
                  clear hs5 hsq
                  subst hc

                  go_wp2_with fail
                  refine (KW.out _).mono ?_
                  rintro e W2 ⟨rfl, hb2⟩
                  have hbw := Joins.below_bytesWorld W2.heap.size W2 5 (bs (oneT t)) (Nat.le_refl _)
                  have hbx := hb2.trans (hbw.mono hb2.size)
                  have HO3 := Lib.hid (HO.out.later hbx)
                  have HB3 := Lib.hid (HX.out.trans (hbx.mono HX.out.size))
                  have HWr := Lib.hid hbx
                  clear hb2 hbw hbx
                  go_wp2_with (at_builtin; first
                    | (refine wpList_append_src rfl _ _ rfl W.heap.size _ L (oneT t) rfl HO3.out _ rfl (src_conv W2 (oneT t) _) (by omega) HB3.out.size ?_; intro u3 w3 hown3 hgr3; have X3 := Lib.hid (own_below HO3.out HB3.out hgr3); rw [HM.out] at hown3; obtain ⟨q3, cp3, hu3⟩ := own_form hown3; subst hu3; obtain ⟨d0, d1, d2, d3, d4⟩ := (HT.out ▸ (HC.out k hks).later hlt X3.out : TokAt w3 b (off + k * 5) t); rw [H4.out] at d0; have own3 := Lib.hid (hown3.later ((Below.refl _ _).alloc (Nat.le_refl _) (.cells #[.int .u8 10] 5))); have Y3 := Lib.hid (X3.out.alloc X3.out.size (.cells #[.int .u8 10] 5)); clear hown3 hgr3)
                    | (refine wpList_append_src rfl _ _ rfl W.heap.size _ M [10] rfl own3.out _ rfl (src_one w3 10 10 rfl) (by simp; omega) Y3.out.size ?_; intro u4 w4 hown4 hgr4; have X4 := Lib.hid (own_below own3.out Y3.out hgr4); obtain ⟨q4, cp4, hu4⟩ := own_form hown4; subst hu4; have own4 := Lib.hid hown4; clear hown4 hgr4))
                  go_roundw
                  case rel => exact ⟨k + 1, q4, cp4, M ++ [10], by omega, by simp, by go_num, by simp; omega, Lib.hid (HNext.out (by omega)), own4, X4⟩
                  case measure => simp [intOf]; omega
                have b1 : ((bs t.s).toList == [59]) = false := by simpa using t1
                have b2 : ((bs t.s).toList == [123]) = false := by simpa using t2
                have b3 : ((bs t.s).toList == [125]) = false := by simpa using t3
                have hc : sp = 32 := by rw [hs5, if_neg (fun h => h.elim t1 (fun h => h.elim t2 t3))]
                clear hs5 hsq
                subst hc

                go_wp2_with fail
                refine (KW.out _).mono ?_
                rintro e W2 ⟨rfl, hb2⟩
                have hbw := Joins.below_bytesWorld W2.heap.size W2 5 (bs (oneT t)) (Nat.le_refl _)
                have hbx := hb2.trans (hbw.mono hb2.size)
                have HO3 := Lib.hid (HO.out.later hbx)
                have HB3 := Lib.hid (HX.out.trans (hbx.mono HX.out.size))
                have HWr := Lib.hid hbx
                clear hb2 hbw hbx
                go_wp2_with (at_builtin; first
                  | (refine wpList_append_src rfl _ _ rfl W.heap.size _ L (oneT t) rfl HO3.out _ rfl (src_conv W2 (oneT t) _) (by omega) HB3.out.size ?_; intro u3 w3 hown3 hgr3; have X3 := Lib.hid (own_below HO3.out HB3.out hgr3); rw [HM.out] at hown3; obtain ⟨q3, cp3, hu3⟩ := own_form hown3; subst hu3; obtain ⟨d0, d1, d2, d3, d4⟩ := (HT.out ▸ (HC.out k hks).later hlt X3.out : TokAt w3 b (off + k * 5) t); rw [H4.out] at d0; have own3 := Lib.hid (hown3.later ((Below.refl _ _).alloc (Nat.le_refl _) (.cells #[.int .u8 32] 5))); have Y3 := Lib.hid (X3.out.alloc X3.out.size (.cells #[.int .u8 32] 5)); clear hown3 hgr3)
                  | (refine wpList_append_src rfl _ _ rfl W.heap.size _ M [32] rfl own3.out _ rfl (src_one w3 32 32 rfl) (by simp; omega) Y3.out.size ?_; intro u4 w4 hown4 hgr4; have X4 := Lib.hid (own_below own3.out Y3.out hgr4); obtain ⟨q4, cp4, hu4⟩ := own_form hown4; subst hu4; have own4 := Lib.hid hown4; clear hown4 hgr4))
                go_roundw
                case rel => exact ⟨k + 1, q4, cp4, M ++ [32], by omega, by simp, by go_num, by simp; omega, Lib.hid (HNext.out (by omega)), own4, X4⟩
                case measure => simp [intOf]; omega
              · have hsp := hsk h4
                subst hsp
                clear hs5 hsk

                go_wp2_with fail
                refine (KW.out _).mono ?_
                rintro e W2 ⟨rfl, hb2⟩
                have hbw := Joins.below_bytesWorld W2.heap.size W2 5 (bs (oneT t)) (Nat.le_refl _)
                have hbx := hb2.trans (hbw.mono hb2.size)
                have HO3 := Lib.hid (HO.out.later hbx)
                have HB3 := Lib.hid (HX.out.trans (hbx.mono HX.out.size))
                have HWr := Lib.hid hbx
                clear hb2 hbw hbx
                go_wp2_with (at_builtin; first
                  | (refine wpList_append_src rfl _ _ rfl W.heap.size _ L (oneT t) rfl HO3.out _ rfl (src_conv W2 (oneT t) _) (by omega) HB3.out.size ?_; intro u3 w3 hown3 hgr3; have X3 := Lib.hid (own_below HO3.out HB3.out hgr3); rw [HM.out] at hown3; obtain ⟨q3, cp3, hu3⟩ := own_form hown3; subst hu3; obtain ⟨d0, d1, d2, d3, d4⟩ := (HT.out ▸ (HC.out k hks).later hlt X3.out : TokAt w3 b (off + k * 5) t); have own3 := Lib.hid (hown3.later ((Below.refl _ _).alloc (Nat.le_refl _) (.cells #[.int .u8 32] 5))); have Y3 := Lib.hid (X3.out.alloc X3.out.size (.cells #[.int .u8 32] 5)); clear hown3 hgr3)
                  | (refine wpList_append_src rfl _ _ rfl W.heap.size _ M [32] rfl own3.out _ rfl (src_one w3 32 32 rfl) (by simp; omega) Y3.out.size ?_; intro u4 w4 hown4 hgr4; have X4 := Lib.hid (own_below own3.out Y3.out hgr4); obtain ⟨q4, cp4, hu4⟩ := own_form hown4; subst hu4; have own4 := Lib.hid hown4; clear hown4 hgr4))
                go_roundw
                case rel => exact ⟨k + 1, q4, cp4, M ++ [32], by omega, by simp, by go_num, by simp; omega, Lib.hid (HNext.out (by omega)), own4, X4⟩
                case measure => simp [intOf]; omega
          · have hbig' : ¬ (L.length : Int) ≤ 65536 := by omega
            have hover : ¬ (textL ts).length ≤ 65536 := by
              have := headR_le ts k
              rw [← HL.out] at this
              omega
            have HOver := Lib.hid hover
            have hbig2 : (65536 : Int) < (L.length : Int) := by omega
            clear hover hbig
            go_wp2_with fail
            rw [← HP.out]
            refine ⟨?_, HX.out⟩
            rw [if_pos (by rw [List.all_eq_true]; exact HAll.out), if_neg HOver.out]
        · obtain rfl : k = ts.length := by omega
          have hLt := HL.out
          rw [headR_last ts _ (Nat.le_refl _)] at hLt
          have HLt := Lib.hid hLt
          clear hLt
          by_cases hbig : L.length ≤ 65536
          · have hbig2 : ¬ (65536 : Int) < (L.length : Int) := by omega
            go_wp2_with fail
            rw [← HP.out]
            refine ⟨?_, HX.out⟩
            rw [if_pos (by rw [List.all_eq_true]; exact HAll.out), if_pos (by rw [← HLt.out]; exact hbig), ← HLt.out]
            exact ⟨_, rfl, HO.out⟩
          · have hbig2 : (65536 : Int) < (L.length : Int) := by omega
            go_wp2_with fail
            rw [← HP.out]
            refine ⟨?_, HX.out⟩
            rw [if_pos (by rw [List.all_eq_true]; exact HAll.out), if_neg (by rw [← HLt.out]; exact hbig)]
            rfl
set_option maxHeartbeats 1000000 in
theorem rtext_empty (p : Option Addr) (c : Nat) (W : World) :
    Calls Tryd.prog 23 #[.slice p 0 c] W (TextPost W []) := by
  have hdef : ∀ e W', (TextPost W [] e W' ↔ TextPost W [] e W') := fun _ _ => Iff.rfl
  generalize hP : TextPost W [] = P at hdef ⊢
  have HP := Lib.hid hP
  clear hdef hP
  go_enter Tryd.func23, Tryd.ntmps23
  go_wp2
  refine wp_loop_rounds 1 ?_
  rw [rounds_succ]
  go_wp2
  refine wp_loop_rounds 1 ?_
  rw [rounds_succ]
  go_wp2
  rw [← HP.out]
  exact ⟨⟨_, rfl, OwnB.nil _ _⟩, Below.refl _ _⟩

theorem rtext_any (v : Value) (ts : List Tok) (hl : ts.length ≤ 140737488351232) (W : World) (ht : Toks W v ts) (hv : ∀ t ∈ ts, t.v < two64 ∧ t.s.length ≤ 140737488355328) (hB : Base W) :
    Calls Tryd.prog 23 #[v] W (TextPost W ts) := by
  rcases ht with ⟨rfl, p, c, rfl⟩ | ⟨b, off, cap, rfl, hlt, hc⟩
  · exact rtext_empty p c W
  · exact rtext_some b off cap ts hl W hlt hc hv hB

end Go.Proofs.YtpabaabkhmjdhaaDoor
