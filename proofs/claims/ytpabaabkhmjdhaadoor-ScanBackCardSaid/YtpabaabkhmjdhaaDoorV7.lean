/- A scope with one label; the tokens of a text. -/
import Derived.Test.YtpabaabkhmjdhaaDoorV6
import Derived.ScopeJumps
import Derived.Test.YtpabaabkhmjdhaaDoorSh
import Derived.Shelf.Strings.SlTrimAscii
namespace Go.Proofs.YtpabaabkhmjdhaaDoor
open Go.RowKit Go.Proofs.Scn Go.Flow Go.Sort
set_option linter.unusedVariables false
set_option linter.unusedSimpArgs false
set_option maxRecDepth 100000

theorem jump_weaken {P : Program} {l : Nat} {J : Act → World → Prop} {R : Act → World → Prop} {Q : Exit → Act → World → Prop} {b : Code} {a : Act} {w : World} (h : b.wp P (Exit.jump l (fun a' w' => J a' w' ∧ R a' w') Q) a w) : b.wp P (Exit.jump l J Q) a w :=
  wp_mono h fun e a' w' he => by
    cases e with
    | goto l' => exact ⟨he.1, he.2.1⟩
    | _ => exact he
/-- a scope with one label: J holds at it; what stands behind it jumps back to it, and the measure falls -/
theorem wp_scope_label {P : Program} {c b : Code} {Q : Exit → Act → World → Prop} {a : Act} {w : World} (l : Nat) (J : Act → World → Prop) (μ : Act → World → Nat) (hf : findLabel c l = some (.seq .skip b))
    (pass : ∀ a w, J a w → b.wp P (Exit.jump l (fun a' w' => J a' w' ∧ μ a' w' < μ a w) Q) a w)
    (first : (∀ a w, J a w → b.wp P (Exit.jump l J Q) a w) → c.wp P (Exit.jump l J Q) a w) : (Code.scope c).wp P Q a w :=
  wp_scope_jumps l J μ hf (first fun a w h => jump_weaken (pass a w h)) fun a w h => wp_seq (wp_skip (pass a w h))

theorem cut_nl (l : List UInt8) : (Lib.cut l [10]).1 = l.takeWhile (· != 10) := by
  have key : ∀ l : List UInt8, (Lib.indexByte l 10 = -1 ∧ l.takeWhile (· != 10) = l) ∨ (0 ≤ Lib.indexByte l 10 ∧ l.take (Lib.indexByte l 10).toNat = l.takeWhile (· != 10)) := by
    intro l
    induction l with
    | nil => exact .inl ⟨rfl, rfl⟩
    | cons b l ih =>
      rw [Lib.indexByte, List.takeWhile_cons]
      by_cases hb : b = 10
      · subst hb
        exact .inr ⟨by simp, by simp⟩
      · have h1 : (b == 10) = false := by simpa using hb
        have h2 : (b != 10) = true := by simpa using hb
        rw [h1, h2]
        simp only [Bool.false_eq_true, if_false, if_true]
        rcases ih with ⟨hi, ht⟩ | ⟨hi, ht⟩
        · left
          rw [hi, ht]
          exact ⟨rfl, rfl⟩
        · right
          have h3 : (Lib.indexByte l 10 == -1) = false := by
            rw [beq_eq_false_iff_ne]; omega
          rw [h3]
          simp only [Bool.false_eq_true, if_false]
          refine ⟨by omega, ?_⟩
          rw [show (Lib.indexByte l 10 + 1).toNat = (Lib.indexByte l 10).toNat + 1 from by omega, List.take_succ_cons, ht]
  unfold Lib.cut
  rw [Lib.index_one]
  rcases key l with ⟨hi, ht⟩ | ⟨hi, ht⟩
  · rw [hi, ht]; rfl
  · rw [if_pos hi]; exact ht

set_option maxHeartbeats 1000000 in
theorem scan_long (v : Value) (l c : Nat) (p : Option Addr) (hv : v = .slice p l c) (h : 65536 < l) (W : World) :
    Calls Tryd.prog 14 #[v] W fun e W' => e = .returned (.tuple #[.slice none 0 0, .int .i64 0, .int .i64 2]) ∧ W = W' := by
  subst hv
  have hh : (65536 : Int) < (l : Int) := by omega
  go_enter Tryd.func14, Tryd.ntmps14
  go_wp2
  refine wp_scope_jumps 0 (fun _ _ => False) (fun _ _ => 0) rfl ?_ (fun _ _ h => h.elim)
  go_wp2
  simp only [Exit.jump]
  go_ret3
  exact ⟨rfl, rfl⟩

/-! scan's tokens -/

theorem scanW_blanks (l : List UInt8) : ∀ i, scanW i l = scanW (i + headN isBlank l) (l.dropWhile isBlank) := by
  induction l with
  | nil => intro i; rfl
  | cons c r ih =>
    intro i
    cases h : isBlank c
    · simp [headN, List.takeWhile_cons, List.dropWhile_cons, h]
    · rw [scanW_blank i h, ih (i + 1)]
      simp only [headN, List.takeWhile_cons, List.dropWhile_cons, h, if_true, List.length_cons]
      congr 1
      omega
theorem trim_blank (l : List UInt8) : Lib.trimLeftS l [32, 9, 10, 13] = l.dropWhile isBlank := by
  unfold Lib.trimLeftS
  congr 1
  funext c
  exact forall_u8 (P := fun c => [32, 9, 10, 13].contains c = isBlank c) (by decide) c
theorem prefix_note (l : List UInt8) : Lib.hasPrefix l [47, 47] = decide (0 < noteN l) := by
  unfold Lib.hasPrefix noteN
  split
  · rename_i r
    have : 0 < 2 + headN (· != 10) r := by omega
    simp [List.isPrefixOf, this]
  · rename_i hno
    match l, hno with
    | [], _ => rfl
    | [c], _ => simp [List.isPrefixOf]
    | c :: d :: r, hno =>
      by_cases hc : c = 47
      · by_cases hd : d = 47
        · exact (hno r (by rw [hc, hd])).elim
        · have : ((47 : UInt8) == d) = false := by rw [beq_eq_false_iff_ne]; exact fun e => hd e.symm
          simp [List.isPrefixOf, this]
      · have : ((47 : UInt8) == c) = false := by rw [beq_eq_false_iff_ne]; exact fun e => hc e.symm
        simp [List.isPrefixOf, this]
theorem note_line {l : List UInt8} (h : 0 < noteN l) : (l.takeWhile (· != 10)).length = noteN l := by
  unfold noteN at h ⊢
  split
  · rename_i r
    simp only [List.takeWhile_cons, show ((47 : UInt8) != 10) = true from rfl, if_true, List.length_cons]
    unfold headN
    omega
  · rename_i hno
    simp at h

/-- at the label -/
def At (W : World) (s : ByteArray) (pa : Option Addr) (l c : Nat) (res : Except (Nat × Int) (List Tok)) (a : Act) (w : World) : Prop :=
  ∃ (k : Nat) (ts : List Tok) (q : Option Addr) (cp : Nat) (u8 u9 u10 u11 u12 u13 u14 u17 u20 u21 u22 u23 u24 u25 u26 u27 u28 u29 u30 u31 u32 u33 u34 u35 u36 u37 u38 u39 u40 u41 u42 u43 u44 u45 u46 u47 u48 u49 u50 u51 u52 u53 u54 u55 u56 u57 u58 u59 u60 u61 u62 : Value), a = { tmps := #[.slice pa l c, undef, .slice none 0 0, .int .i64 0, .int .i64 0, .string s, .slice q ts.length cp, .int .i64 k, u8, u9, u10, u11, u12, u13, u14, .slice pa l c, .int .i64 l, u17, .slice pa l c, .string s, u20, u21, u22, u23, u24, u25, u26, u27, u28, u29, u30, u31, u32, u33, u34, u35, u36, u37, u38, u39, u40, u41, u42, u43, u44, u45, u46, u47, u48, u49, u50, u51, u52, u53, u54, u55, u56, u57, u58, u59, u60, u61, u62], defers := [] } ∧ k ≤ s.size ∧ ts.length ≤ k ∧ Hid (OwnT W.heap.size w (.slice q ts.length cp) ts) ∧ Hid (Below W.heap.size W w) ∧ Hid (ahead ts (scanW k (s.data.toList.drop k)) = res)

set_option maxHeartbeats 8000000 in
theorem scan_any (v : Value) (s : ByteArray) (h : s.size ≤ 65536) (W : World) (hB : Bytes W v s) (hBase : Base W) :
    Calls Tryd.prog 14 #[v] W (ScanPost W (scanW 0 s.data.toList)) := by
  have hconv := str_run hB
  obtain ⟨pa, l, c, rfl, hl⟩ : ∃ p l c, v = .slice p l c ∧ l = s.size := by
    rcases hB with ⟨h0, p, cap, rfl⟩ | ⟨b, off, cap, rfl, _⟩
    · exact ⟨_, _, _, rfl, h0.symm⟩
    · exact ⟨_, _, _, rfl, rfl⟩
  clear hB
  have hh : ¬ (65536 : Int) < (l : Int) := by omega
  clear hl
  have hlen : s.data.toList.length = s.size := rfl
  have hstart : ahead [] (scanW 0 (s.data.toList.drop 0)) = scanW 0 s.data.toList := by rw [ahead_nil]; rfl
  have HS := Lib.hid hstart
  have HL := Lib.hid hlen
  have HBase := Lib.hid hBase
  clear hstart hlen hBase
  obtain ⟨i0, hi, hz0, hz1, hz2⟩ := info_parts tokInfo
  generalize scanW 0 s.data.toList = res at *
  have hdef : ∀ e W', (ScanPost W res e W' ↔ ScanPost W res e W') := fun _ _ => Iff.rfl
  generalize hP : ScanPost W res = P at hdef ⊢
  have HP := Lib.hid hP
  clear hdef hP
  go_enter Tryd.func14, Tryd.ntmps14
  go_wp2
  refine wp_scope_label 0 (At W s pa l c res) (fun a _ => s.size - (intOf (a.tmps.getD 7 undef)).toNat) rfl ?pass ?first
  case first =>
    intro hrest
    go_wp2
    rename_i hK
    exact wp_label (hK _ _ (hrest _ _ ⟨0, [], none, 0, _, _, _, _, _, _, _, _, _, _, _, _, _, _, _, _, _, _, _, _, _, _, _, _, _, _, _, _, _, _, _, _, _, _, _, _, _, _, _, _, _, _, _, _, _, _, _, _, _, _, _, rfl, Nat.zero_le _, Nat.le_refl _, Lib.hid (OwnT.nil _ _), Lib.hid (Below.refl _ _), HS⟩))
  case pass =>
    clear hconv hh HS
    rintro a wr ⟨k, ts, q, cp, u8, u9, u10, u11, u12, u13, u14, u17, u20, u21, u22, u23, u24, u25, u26, u27, u28, u29, u30, u31, u32, u33, u34, u35, u36, u37, u38, u39, u40, u41, u42, u43, u44, u45, u46, u47, u48, u49, u50, u51, u52, u53, u54, u55, u56, u57, u58, u59, u60, u61, u62, rfl, hk, htk, HO, HB, HA⟩
    have hdl : (s.data.toList.drop k).length = s.size - k := by rw [List.length_drop, HL.out]
    have hex : (s.extract k s.size).data.toList = s.data.toList.drop k := by rw [extract_bs, list_bs, List.take_of_length_le (Nat.le_of_eq HL.out)]
    have kt := Any.strings_TrimLeft_laid Tryd.lays161 (by kernel_rfl) (s.extract k s.size) ⟨#[32, 9, 10, 13]⟩ wr (by decide) (ascii_of_all (by decide))
    rw [hex, show (ByteArray.mk #[32, 9, 10, 13]).data.toList = [32, 9, 10, 13] from rfl, trim_blank] at kt
    change Calls Tryd.prog 26 #[.string (s.extract k s.size), .string ⟨#[32, 9, 10, 13]⟩] wr (fun e w' => e = .returned (.string (bs ((s.data.toList.drop k).dropWhile isBlank))) ∧ Below wr.heap.size wr w') at kt
    have hA2 := HA.out
    rw [scanW_blanks] at hA2
    have hN := headN_le isBlank (s.data.toList.drop k)
    rw [hdl] at hN
    have hdd : (s.data.toList.drop k).dropWhile isBlank = s.data.toList.drop (k + headN isBlank (s.data.toList.drop k)) := by rw [← drop_headN, List.drop_drop]
    have hbh : ∀ c r, (s.data.toList.drop k).dropWhile isBlank = c :: r → isBlank c = false := fun c r e => dropWhile_head e
    rw [hdd] at kt hA2 hbh
    generalize headN isBlank (s.data.toList.drop k) = nb at *
    generalize hj : k + nb = j at *
    have hRl : (s.data.toList.drop j).length = s.size - j := by rw [List.length_drop, HL.out]
    have hRj : ∀ n, (s.data.toList.drop j).drop n = s.data.toList.drop (j + n) := fun n => by rw [List.drop_drop]
    generalize hR : bs (s.data.toList.drop j) = R at *
    have hRs : R.data.toList = s.data.toList.drop j := by rw [← hR, list_bs]
    have hsz : R.size = s.size - j := by rw [size_list, hRs, hRl]
    have hsub0 : (s.size : Int) - (R.size : Int) = (j : Int) := by omega
    have HSZ := Lib.hid hsz
    have hsub := hsub0
    clear hsub0
    have hksz : (k : Int) ≤ (s.size : Int) := by omega
    have KT := Lib.hid kt
    clear kt hdl hex hdd
    have kp := fun w => Tryd.strings_HasPrefix R ⟨#[47, 47]⟩ w
    rw [hRs, show (ByteArray.mk #[47, 47]).data.toList = [47, 47] from rfl, prefix_note] at kp
    by_cases hnote : 0 < noteN (s.data.toList.drop j)
    · have hres : ahead ts (scanW (j + noteN (s.data.toList.drop j)) (s.data.toList.drop (j + noteN (s.data.toList.drop j)))) = res := by
        rw [scanW_noteN j hnote, hRj] at hA2
        exact hA2
      have hline := note_line hnote
      have hnl := noteN_le (s.data.toList.drop j)
      rw [hRl] at hnl
      have kc := fun w (hm : ∃ m : Int, w.cell? ⟨0, 0, none⟩ = some (.int .i64 m)) => Tryd.strings_Cut R ⟨#[10]⟩ _ w (by omega) hm.choose_spec
      rw [hRs, show (ByteArray.mk #[10]).data.toList = [10] from rfl, cut_nl] at kc
      rw [decide_eq_true hnote] at kp
      have hts : (⟨((s.data.toList.drop j).takeWhile (· != 10)).toArray⟩ : ByteArray).size = noteN (s.data.toList.drop j) := hline
      generalize (⟨((s.data.toList.drop j).takeWhile (· != 10)).toArray⟩ : ByteArray) = L at *
      generalize noteN (s.data.toList.drop j) = n at *
      have hsum : (j : Int) + (L.size : Int) = ((j + n : Nat) : Int) := by omega
      have HR := Lib.hid hres
      have KP := Lib.hid kp
      have KC := Lib.hid kc
      have hRle : R.size ≤ s.size := by omega
      clear kp kc hline hres hA2 hRj hR hRs hRl hbh hsz hts
      go_wp2_with fail
      refine (KT.out).mono ?_
      rintro e W2 ⟨rfl, hb2⟩
      have hO2 := HO.out.later hb2
      have hB2 := HB.out.trans (hb2.mono HB.out.size)
      clear hb2
      go_wp2_with fail
      refine (KP.out _).mono ?_
      rintro e w' ⟨rfl, rfl⟩
      go_wp2_with fail
      refine (KC.out _ (HBase.out.later hB2).max).mono ?_
      rintro e W3 ⟨rfl, m, rfl⟩
      have HO3 := Lib.hid (hO2.later (below_drewN (Below.refl _ _) m))
      have HB3 := Lib.hid (below_drewN hB2 m)
      clear hO2 hB2
      go_wp2
      go_step3
      exact ⟨rfl, ⟨j + n, ts, q, cp, _, _, _, _, _, _, _, _, _, _, _, _, _, _, _, _, _, _, _, _, _, _, _, _, _, _, _, _, _, _, _, _, _, _, _, _, _, _, _, _, _, _, _, _, _, _, _, _, _, _, _, rfl, by omega, by omega, HO3, HB3, HR⟩, by simp [intOf]; omega⟩
    have hn0 : noteN (s.data.toList.drop j) = 0 := by omega
    rw [decide_eq_false hnote] at kp
    have KP := Lib.hid kp
    clear kp hnote
    by_cases hjs : j < s.size
    · have hcons : s.data.toList.drop j = s[j] :: s.data.toList.drop (j + 1) := by
        rw [List.drop_eq_getElem_cons (show j < s.data.toList.length from hjs)]
        rfl
      have hbl : isBlank s[j] = false := hbh _ _ hcons
      have hnt : ¬ (s[j] = 47 ∧ (s.data.toList.drop (j + 1)).head? = some 47) := by
        rw [hcons] at hn0
        exact noteN_zero hn0
      have hne : R.toList.isEmpty = false := by
        rw [toList_eq, hRs, hcons]; rfl
      have kk := fun w (hB : Base w) => token_any R (by omega) (by omega) w hB
      rw [hRs] at kk
      cases ht : tokL (s.data.toList.drop j) with
      | bad er =>
        have hres : Except.error (j, er) = res := by
          rw [hcons, scanW_bad j hbl hnt (by rw [← hcons]; exact ht)] at hA2
          exact hA2
        rw [ht] at kk
        have HR := Lib.hid hres
        have KK := Lib.hid kk
        have hRle : R.size ≤ s.size := by omega
        clear kk hres hA2 hRj hR hRs hRl hbh hsz hcons ht hn0
        go_wp2_with fail
        refine (KT.out).mono ?_
        rintro e W2 ⟨rfl, hb2⟩
        have hB2 := HB.out.trans (hb2.mono HB.out.size)
        clear hb2
        go_wp2_with fail
        refine (KP.out _).mono ?_
        rintro e w' ⟨rfl, rfl⟩
        go_wp2_with fail
        refine (KK.out _ (HBase.out.later hB2)).mono ?_
        rintro e W3 ⟨⟨her, tk, tS, tw, tv, tp, rfl⟩, hb3⟩
        have HB3 := Lib.hid (hB2.trans (hb3.mono hB2.size))
        clear hb3 hB2
        go_wp2
        simp only [Exit.jump]
        go_ret3
        rw [← HP.out, ← HR.out]
        exact ⟨rfl, HB3.out.alloc HB3.out.size _⟩
      | tok t n =>
        have hnp := (tok_is ht).pos
        have hnl2 := (tok_is ht).le
        rw [hRl] at hnl2
        have hres : ahead (ts ++ [{ t with p := j }]) (scanW (j + n) (s.data.toList.drop (j + n))) = res := by
          rw [hcons, scanW_step j hbl hnt (by rw [← hcons]; exact ht), ahead_ahead, ← hcons, hRj] at hA2
          exact hA2
        rw [ht] at kk
        have HR := Lib.hid hres
        have KK := Lib.hid kk
        have hRle : R.size ≤ s.size := by omega
        clear kk hres hA2 hRj hR hRs hRl hbh hsz hcons ht hn0
        go_wp2_with fail
        refine (KT.out).mono ?_
        rintro e W2 ⟨rfl, hb2⟩
        have hO2 := HO.out.later hb2
        have hB2 := HB.out.trans (hb2.mono HB.out.size)
        clear hb2
        go_wp2_with fail
        refine (KP.out _).mono ?_
        rintro e w' ⟨rfl, rfl⟩
        go_wp2_with fail
        refine (KK.out _ (HBase.out.later hB2)).mono ?_
        rintro e W3 ⟨rfl, hb3⟩
        have HO3 := hO2.later hb3
        have HB3 := Lib.hid ((hB2.trans (hb3.mono hB2.size)).alloc (hB2.trans (hb3.mono hB2.size)).size (.cells #[.int .i64 t.k, .string (bs t.s), .int .i64 t.w, .int .u64 t.v, .int .i64 j] 32))
        clear hb3 hB2 hO2
        simp only [tokVal]
        go_wp2_with (at_builtin; refine wpList_append_own _ rfl _ _ 24 rfl W.heap.size 32 i0 (.agg #[.int .i64 0, .string ⟨#[]⟩, .int .i64 0, .int .u64 0, .int .i64 0]) 5 48 tokSlice hi hz0 hz1 hz2 rfl (by decide) _ _ _ rfl ((HO3.alloc _).alloc _) ⟨W3.heap.size + 1, 0, none⟩ 1 1 (cellsT { t with p := j }) rfl rfl (news5 _ _ _ _) (by simp [cellsT, Value.oneCell']) (by unfold maxLen; omega) (by omega) (by have := HB3.out.size; simp at this ⊢; omega) ?_; intro v' w3 hown' hgrow3 hnil3; clear hnil3; have HX := Lib.hid (grow_tok HO3 HB3.out hown' hgrow3); obtain ⟨g3, cap3, rfl⟩ := HX.out.2.2.2; clear hown' hgrow3)
        go_step3
        exact ⟨rfl, ⟨j + n, ts ++ [{ t with p := j }], some ⟨g3, 0, none⟩, cap3, _, _, _, _, _, _, _, _, _, _, _, _, _, _, _, _, _, _, _, _, _, _, _, _, _, _, _, _, _, _, _, _, _, _, _, _, _, _, _, _, _, _, _, _, _, _, _, _, _, _, _, by rw [List.length_append]; rfl, by omega, by simp; omega, Lib.hid (by rw [List.length_append]; exact HX.out.1), Lib.hid HX.out.2.1, HR⟩, by simp [intOf]; omega⟩
    · have hend : Except.ok ts = res := by
        rw [List.drop_of_length_le (by rw [HL.out]; omega), scanW_nil] at hA2
        simpa [ahead] using hA2
      have hne : R.toList.isEmpty = true := by
        rw [toList_eq, hRs, List.drop_of_length_le (by rw [HL.out]; omega)]; rfl
      have HE := Lib.hid hend
      have hRle : R.size ≤ s.size := by omega
      clear hend hA2 hRj hR hRs hRl hbh hsz hn0
      go_wp2_with fail
      refine (KT.out).mono ?_
      rintro e W2 ⟨rfl, hb2⟩
      have HO2 := Lib.hid (HO.out.later hb2)
      have HB2 := Lib.hid (HB.out.trans (hb2.mono HB.out.size))
      clear hb2
      go_wp2_with fail
      refine (KP.out _).mono ?_
      rintro e w' ⟨rfl, rfl⟩
      go_wp2
      simp only [Exit.jump]
      go_ret3
      rw [← HP.out, ← HE.out]
      exact ⟨⟨_, rfl, HO2.out⟩, HB2.out⟩

end Go.Proofs.YtpabaabkhmjdhaaDoor
