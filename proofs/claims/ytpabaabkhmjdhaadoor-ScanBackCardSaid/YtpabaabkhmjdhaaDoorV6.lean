/- The reference's tokens of a text: the walk. -/
import Derived.Test.YtpabaabkhmjdhaaDoorV5
import Derived.OwnWalk
namespace Go.Proofs.YtpabaabkhmjdhaaDoor
open Go.RowKit Go.Proofs.Scn Go.Flow Go.Sort
set_option linter.unusedVariables false
set_option linter.unusedSimpArgs false
set_option maxRecDepth 100000

theorem news5 (w : World) (o : Obj) (cs : Array Value) (t : TypeId) : ∀ j u, cs.toList[j]? = some u → ((w.alloc o).alloc (.cells cs t)).cell? ((⟨w.heap.size + 1, 0, none⟩ : Addr).add j) = some u :=
  World.news_of_block (fr := (0, 0)) (t := t) (by have := heap_alloc_new (w.alloc o) (.cells cs t); simpa using this)
theorem cellsTs_snoc (ts : List Tok) (t : Tok) : cellsTs (ts ++ [t]) = cellsTs ts ++ cellsT t := by simp [cellsTs]

theorem tokInfo : (Tryd.prog.info? 32).map (fun i => (i.zero, i.size, i.bytes)) = some (some (.agg #[.int .i64 0, .string ⟨#[]⟩, .int .i64 0, .int .u64 0, .int .i64 0]), 5, 48) := by kernel_rfl
theorem tokSlice : Tryd.prog.underlying 24 = some (.slice 32) := by kernel_rfl

theorem grow_tok {W W2 w3 : World} {o b : Obj} {ts : List Tok} {t : Tok} {q : Option Addr} {cp : Nat} {v' : Value} (HO2 : OwnT W.heap.size W2 (.slice q ts.length cp) ts) (hB3 : Below W.heap.size W (W2.alloc o))
    (hown : w3.ownsRow W.heap.size 32 5 v' (ts.length + 1) (cellsTs ts ++ cellsT t)) (hgr : ((W2.alloc o).alloc b).grownBy w3 (Value.slice q ts.length cp).ownBlock) :
    OwnT W.heap.size w3 v' (ts ++ [t]) ∧ Below W.heap.size W w3 ∧ (∀ j, w3.cell? ⟨W2.heap.size, j, none⟩ = (W2.alloc o).cell? ⟨W2.heap.size, j, none⟩) ∧ ∃ g3 cap3, v' = .slice (some ⟨g3, 0, none⟩) (ts.length + 1) cap3 := by
  have hne : some W2.heap.size ≠ (Value.slice q ts.length cp).ownBlock := fun he => Nat.lt_irrefl _ (World.ownsRow.lt HO2 _ he.symm).2
  have hs : W.heap.size ≤ (W2.alloc o).heap.size := hB3.size
  refine ⟨?_, ?_, fun j => ?_, ?_⟩
  · unfold OwnT
    rw [List.length_append, cellsTs_snoc]
    exact hown
  · exact Below.grown (hB3.alloc hs b) hgr (by simp at hs ⊢; omega) fun k hk => (World.ownsRow.lt HO2 k hk).1
  · rw [hgr.cell_far ⟨W2.heap.size, j, none⟩ (by simp; omega) hne]
    exact World.cell?_of_block (heap_alloc_old (W2.alloc o) b (by simp))
  · rcases hown.2 with ⟨_, h⟩ | ⟨g3, cap3, _, h, _⟩
    · omega
    · exact ⟨g3, cap3, h⟩

/-- too long -/
theorem refScan_long (v : Value) (l c : Nat) (p : Option Addr) (hv : v = .slice p l c) (h : 65536 < l) (W : World) :
    Calls Tryd.prog 15 #[v] W fun e W' => e = .returned (.tuple #[.slice none 0 0, .int .i64 0, .int .i64 2]) ∧ W = W' := by
  subst hv
  have hh : (65536 : Int) < (l : Int) := by omega
  go_enter Tryd.func15, Tryd.ntmps15
  go_wp2
  go_ret3
  exact ⟨rfl, rfl⟩

set_option maxHeartbeats 8000000 in
theorem refScan_any (v : Value) (s : ByteArray) (h : s.size ≤ 65536) (W : World) (hB : Bytes W v s) :
    Calls Tryd.prog 15 #[v] W (ScanPost W (scanW 0 s.data.toList)) := by
  have hconv := str_run hB
  obtain ⟨pa, l, c, rfl, hl⟩ : ∃ p l c, v = .slice p l c ∧ l = s.size := by
    rcases hB with ⟨h0, p, cap, rfl⟩ | ⟨b, off, cap, rfl, _⟩
    · exact ⟨_, _, _, rfl, h0.symm⟩
    · exact ⟨_, _, _, rfl, rfl⟩
  clear hB
  have hh : ¬ (65536 : Int) < (l : Int) := by omega
  clear hl
  have hlen : s.data.toList.length = s.size := rfl
  have hstart : ahead [] (scanW 0 (s.data.toList.drop 0)) = scanW 0 s.data.toList := by rw [ahead_nil]; rfl
  have HS := Lib.hid hstart
  have HL := Lib.hid hlen
  clear hstart hlen
  obtain ⟨i0, hi, hz0, hz1, hz2⟩ := info_parts tokInfo
  generalize scanW 0 s.data.toList = res at *
  have hdef : ∀ e W', (ScanPost W res e W' ↔ ScanPost W res e W') := fun _ _ => Iff.rfl
  generalize hP : ScanPost W res = P at hdef ⊢
  have HP := Lib.hid hP
  clear hdef hP
  go_enter Tryd.func15, Tryd.ntmps15
  go_wp2
  clear hconv hh
  go_loopw [6, 7] (fun u i wr => ∃ (k : Nat) (ts : List Tok), i = .int .i64 k ∧ k ≤ s.size ∧ ts.length ≤ k ∧ (∃ (q : Option Addr) (cp : Nat), u = .slice q ts.length cp) ∧ Hid (OwnT W.heap.size wr u ts) ∧ Hid (Below W.heap.size W wr) ∧ Hid (ahead ts (scanW k (s.data.toList.drop k)) = res)) (fun _ i _ => s.size - (intOf i).toNat)
  case atStart => exact ⟨0, [], rfl, Nat.zero_le _, Nat.le_refl _, ⟨none, 0, rfl⟩, Lib.hid (OwnT.nil _ _), Lib.hid (Below.refl _ _), HS⟩
  case round =>
    obtain ⟨k, ts, rfl, hk, htk, ⟨q, cp, rfl⟩, HO, HB, HA⟩ := hrel
    by_cases hlt : k < s.size
    · have hcons : s.data.toList.drop k = s[k] :: s.data.toList.drop (k + 1) := by
        rw [List.drop_eq_getElem_cons (show k < s.data.toList.length from hlt)]
        rfl
      have kb := blank_any s[k]
      cases hbl : isBlank s[k]
      · have kc := refComment_any s k hlt (by omega)
        have hnl := noteN_le (s.data.toList.drop k)
        rw [List.length_drop, HL.out] at hnl
        have hz : ∀ m, noteN (s.data.toList.drop k) = m → m = 0 → ¬ (s[k] = 47 ∧ (s.data.toList.drop (k + 1)).head? = some 47) := by
          rintro m hm rfl
          rw [hcons] at hm
          exact noteN_zero hm
        have hn : ∀ m, noteN (s.data.toList.drop k) = m → 0 < m → ahead ts (scanW (k + m) (s.data.toList.drop (k + m))) = res := by
          rintro m rfl hm
          have := HA.out
          rw [scanW_noteN k hm, List.drop_drop] at this
          exact this
        generalize hm : noteN (s.data.toList.drop k) = m at *
        replace hz := hz m rfl
        replace hn := hn m rfl
        rw [hbl] at kb
        have KB := Lib.hid kb
        have KC := Lib.hid kc
        clear kb kc
        by_cases hm0 : 0 < m
        · have HN := Lib.hid (hn hm0)
          clear hn hz hcons hm
          go_wp2_with fail
          refine (KB.out _).mono ?_
          rintro e w' ⟨rfl, rfl⟩
          go_wp2_with fail
          refine (KC.out _).mono ?_
          rintro e w' ⟨rfl, rfl⟩
          go_wp2_with fail
          go_roundw
          case rel => exact ⟨k + m, ts, by go_num, by omega, by omega, ⟨_, _, rfl⟩, HO, HB, HN⟩
          case measure => simp [intOf]; omega
        · obtain rfl : m = 0 := by omega
          have kt := fun W => refToken_any s k hlt (by omega) W
          have hnt := hz rfl
          clear hn hz hm
          cases ht : tokL (s.data.toList.drop k) with
          | bad er =>
            have hres : Except.error (k, er) = res := by
              have := HA.out
              rw [hcons, scanW_bad k hbl hnt (by rw [← hcons]; exact ht)] at this
              exact this
            rw [ht] at kt
            have HR := Lib.hid hres
            have HE := Lib.hid (tok_err ht)
            have hne : ¬ er = 0 := tok_err ht
            have KT := Lib.hid kt
            clear kt hres hcons
            go_wp2_with fail
            refine (KB.out _).mono ?_
            rintro e w' ⟨rfl, rfl⟩
            go_wp2_with fail
            refine (KC.out _).mono ?_
            rintro e w' ⟨rfl, rfl⟩
            go_wp2_with fail
            refine (KT.out _).mono ?_
            rintro e W2 ⟨rfl, hb2⟩
            have HB2 := Lib.hid ((HB.out.trans (hb2.mono HB.out.size)).alloc (Nat.le_trans HB.out.size hb2.size) (.cells #[.int .i64 0, .string ⟨#[]⟩, .int .i64 0, .int .u64 0, .int .i64 0, .int .i64 0, .int .i64 er] 52))
            clear hb2
            simp only [gotV]
            go_wp2_with fail
            go_quiet (fail)
            go_wp2_with fail
            go_ret3
            rw [← HP.out, ← HR.out]
            exact ⟨rfl, below_drewN HB2.out _⟩
          | tok t n =>
            have hnp := (tok_is ht).pos
            have hnl2 := (tok_is ht).le
            rw [List.length_drop, HL.out] at hnl2
            have hres : ahead (ts ++ [{ t with p := k }]) (scanW (k + n) (s.data.toList.drop (k + n))) = res := by
              have := HA.out
              rw [hcons, scanW_step k hbl hnt (by rw [← hcons]; exact ht), ahead_ahead, ← hcons, List.drop_drop] at this
              exact this
            rw [ht] at kt
            have HR := Lib.hid hres
            have KT := Lib.hid kt
            clear kt hres hcons ht
            go_wp2_with fail
            refine (KB.out _).mono ?_
            rintro e w' ⟨rfl, rfl⟩
            go_wp2_with fail
            refine (KC.out _).mono ?_
            rintro e w' ⟨rfl, rfl⟩
            go_wp2_with fail
            refine (KT.out _).mono ?_
            rintro e W2 ⟨rfl, hb2⟩
            have hb3 := (HB.out.trans (hb2.mono HB.out.size)).alloc (Nat.le_trans HB.out.size hb2.size) (.cells #[.int .i64 t.k, .string (bs t.s), .int .i64 t.w, .int .u64 t.v, .int .i64 k, .int .i64 n, .int .i64 0] 52)
            have HO2 := HO.out.later hb2
            have HB3 := Lib.hid hb3
            clear hb2 hb3
            simp only [gotV]
            go_wp2_with (at_builtin; refine wpList_append_own _ rfl _ _ 24 rfl W.heap.size 32 i0 (.agg #[.int .i64 0, .string ⟨#[]⟩, .int .i64 0, .int .u64 0, .int .i64 0]) 5 48 tokSlice hi hz0 hz1 hz2 rfl (by decide) _ _ _ rfl ((HO2.alloc _).alloc _) ⟨W2.heap.size + 1, 0, none⟩ 1 1 (cellsT { t with p := k }) rfl rfl (news5 _ _ _ _) (by simp [cellsT, Value.oneCell']) (by unfold maxLen; omega) (by omega) (by have := HB3.out.size; simp at this ⊢; omega) ?_; intro v' w3 hown' hgrow3 hnil3; clear hnil3; have HX := Lib.hid (grow_tok HO2 HB3.out hown' hgrow3); have hc5 := (HX.out.2.2.1 5).trans (show World.cell? _ _ = some (.int .i64 n) by simp [go_sem]); obtain ⟨g3, cap3, rfl⟩ := HX.out.2.2.2; clear hown' hgrow3)
            go_roundw
            case rel => exact ⟨k + n, ts ++ [{ t with p := k }], by go_num, by omega, by simp; omega, ⟨_, _, by rw [List.length_append]; rfl⟩, Lib.hid HX.out.1, Lib.hid HX.out.2.1, HR⟩
            case measure => simp [intOf]; omega
      · have hres : ahead ts (scanW (k + 1) (s.data.toList.drop (k + 1))) = res := by
          have := HA.out
          rw [hcons, scanW_blank k hbl] at this
          exact this
        have HN := Lib.hid hres
        rw [hbl] at kb
        have KB := Lib.hid kb
        clear kb hcons hres
        go_wp2_with fail
        refine (KB.out _).mono ?_
        rintro e w' ⟨rfl, rfl⟩
        go_wp2_with fail
        go_roundw
        case rel => exact ⟨k + 1, ts, by go_num, by omega, by omega, ⟨_, _, rfl⟩, HO, HB, HN⟩
        case measure => simp [intOf]; omega
    · obtain rfl : k = s.size := by omega
      have hend : Except.ok ts = res := by
        have := HA.out
        rw [List.drop_of_length_le (by rw [HL.out]; omega), scanW_nil] at this
        simpa [ahead] using this
      have HE := Lib.hid hend
      clear hend
      go_wp2_with fail
      go_ret3
      rw [← HP.out, ← HE.out]
      exact ⟨⟨_, rfl, HO.out⟩, HB.out⟩

end Go.Proofs.YtpabaabkhmjdhaaDoor
