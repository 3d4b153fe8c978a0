/- ScanTells. -/
import Derived.Test.YtpabaabkhmjdhaaDoorU4
import Derived.Test.YtpabaabkhmjdhaaDoorP2
namespace Go.Proofs.YtpabaabkhmjdhaaDoor
open Go.RowKit Go.Proofs.Scn Go.Flow Go.Sort
set_option linter.unusedVariables false
set_option linter.unusedSimpArgs false
set_option maxRecDepth 100000

theorem Bytes.form {w : World} {v : Value} {s : ByteArray} (h : Bytes w v s) : ∃ p c, v = .slice p s.size c := by
  rcases h with ⟨h0, p, c, rfl⟩ | ⟨b, o, c, rfl, _⟩
  · exact ⟨_, _, by rw [h0]⟩
  · exact ⟨_, _, rfl⟩

theorem scanned_len {s : ByteArray} {ts : List Tok} (h : scanW 0 s.data.toList = .ok ts) : ts.length ≤ 2 * s.data.toList.length := by
  have := scan_len 0 _ ts h
  have key : ∀ l : List Tok, l.length ≤ lenT l := by
    intro l
    induction l with
    | nil => simp
    | cons t l ih => rw [lenT, List.map_cons, List.sum_cons, List.length_cons]; unfold lenT at ih; omega
  exact Nat.le_trans (key ts) this

theorem tok_nil (w : World) : Toks w (.slice none 0 0) [] := .inl ⟨rfl, _, _, rfl⟩

/-- the parts of ScanTells behind the example: what both give -/
theorem scans_long (v : Value) (s : ByteArray) (h : 65536 < s.size) (W : World) (hb : Bytes W v s) :
    (∀ w, Calls Tryd.prog 14 #[v] w fun e W' => e = .returned (.tuple #[.slice none 0 0, .int .i64 0, .int .i64 2]) ∧ w = W') ∧
    (∀ w, Calls Tryd.prog 15 #[v] w fun e W' => e = .returned (.tuple #[.slice none 0 0, .int .i64 0, .int .i64 2]) ∧ w = W') := by
  obtain ⟨p, c, rfl⟩ := hb.form
  exact ⟨fun w => scan_long _ _ c p rfl h w, fun w => refScan_long _ _ c p rfl h w⟩

set_option maxHeartbeats 4000000 in
theorem tells_any (v : Value) (s : ByteArray) (hs : s.size ≤ 140737488355328) (W : World) (hb : Bytes W v s) (hB : Base W) :
    Calls Tryd.prog 3 #[v] W fun e W' => e = .returned (.bool true) ∧ Below W.heap.size W W' := by
  have KL := Lib.hid (live_any W hB)
  have HB := Lib.hid hB
  have HBy := Lib.hid hb
  obtain ⟨p, c, rfl⟩ := hb.form
  clear hb hB
  by_cases h1 : s.size ≤ 2000
  · have hn : ¬ (2000 : Int) < (s.size : Int) := by omega
    have KS := Lib.hid (fun w hb hB => scan_any (.slice p s.size c) s (by omega) w hb hB)
    have KR := Lib.hid (fun w hb => refScan_any (.slice p s.size c) s (by omega) w hb)
    go_enter Tryd.func3, Tryd.ntmps3
    go_wp2_with fail
    refine KL.out.mono ?_
    rintro e W1 ⟨rfl, hb1⟩
    have HW1 := Lib.hid hb1
    have HBy1 := Lib.hid (HBy.out.later hb1)
    have HB1 := Lib.hid (HB.out.later hb1)
    clear hb1
    go_wp2_with fail
    refine (KS.out _ HBy1.out HB1.out).mono ?_
    cases hr : scanW 0 s.data.toList with
    | error x =>
      obtain ⟨k, er⟩ := x
      rw [hr] at KR
      rintro e W2 ⟨rfl, hb2⟩
      have HW2 := Lib.hid (HW1.out.trans (hb2.mono HW1.out.size))
      have HBy2 := Lib.hid (HBy1.out.later hb2)
      clear hb2
      go_wp2_with fail
      refine (KR.out _ HBy2.out).mono ?_
      rintro e W3 ⟨rfl, hb3⟩
      have HW3 := Lib.hid (HW2.out.trans (hb3.mono HW2.out.size))
      clear hb3 hr
      go_wp2_with fail
      refine (equal_any _ _ [] [] (by simp) _ (tok_nil _) (tok_nil _)).mono ?_
      rintro e W4 ⟨rfl, hb4⟩
      have HW4 := Lib.hid (HW3.out.trans (hb4.mono HW3.out.size))
      clear hb4
      go_wp2
      go_ret
      exact ⟨rfl, HW4.out⟩
    | ok ts =>
      rw [hr] at KR
      have hlt := scanned_len hr
      have hll : s.data.toList.length = s.size := rfl
      have hl2 : ts.length ≤ 140737488351232 := by omega
      rintro e W2 ⟨⟨v2, rfl, ho2⟩, hb2⟩
      have ht2 := ho2.toks
      have HW2 := Lib.hid (HW1.out.trans (hb2.mono HW1.out.size))
      have HBy2 := Lib.hid (HBy1.out.later hb2)
      clear hb2 ho2 hlt hll
      go_wp2_with fail
      refine (KR.out _ HBy2.out).mono ?_
      rintro e W3 ⟨⟨v3, rfl, ho3⟩, hb3⟩
      have HT3 := Lib.hid ho3.toks
      have HT2 := Lib.hid (ht2.later hb3)
      have HW3 := Lib.hid (HW2.out.trans (hb3.mono HW2.out.size))
      clear hb3 hr ht2 ho3
      go_wp2_with fail
      refine (equal_any _ _ ts ts hl2 _ HT2.out HT3.out).mono ?_
      rintro e W4 ⟨he, hb4⟩
      rw [decide_eq_true rfl] at he
      subst he
      have HW4 := Lib.hid (HW3.out.trans (hb4.mono HW3.out.size))
      clear hb4
      go_wp2
      go_ret
      exact ⟨rfl, HW4.out⟩
  · by_cases h2 : s.size ≤ 65536
    · have hn : (2000 : Int) < (s.size : Int) := by omega
      have hn2 : (s.size : Int) ≤ 65536 := by omega
      go_enter Tryd.func3, Tryd.ntmps3
      go_wp2_with fail
      refine KL.out.mono ?_
      rintro e W1 ⟨rfl, hb1⟩
      have HW1 := Lib.hid hb1
      clear hb1
      go_wp2
      go_ret
      exact ⟨rfl, HW1.out⟩
    · have hn : (2000 : Int) < (s.size : Int) := by omega
      have hn2 : ¬ (s.size : Int) ≤ 65536 := by omega
      obtain ⟨ks, kr⟩ := scans_long _ s (by omega) W HBy.out
      have KS := Lib.hid ks
      have KR := Lib.hid kr
      clear ks kr
      go_enter Tryd.func3, Tryd.ntmps3
      go_wp2_with fail
      refine KL.out.mono ?_
      rintro e W1 ⟨rfl, hb1⟩
      have HW1 := Lib.hid hb1
      clear hb1
      go_wp2_with fail
      refine (KS.out _).mono ?_
      rintro e w' ⟨rfl, rfl⟩
      go_wp2_with fail
      refine (KR.out _).mono ?_
      rintro e w' ⟨rfl, rfl⟩
      go_wp2_with fail
      refine (equal_any _ _ [] [] (by simp) _ (tok_nil _) (tok_nil _)).mono ?_
      rintro e W4 ⟨rfl, hb4⟩
      have HW4 := Lib.hid (HW1.out.trans (hb4.mono HW1.out.size))
      clear hb4
      go_wp2
      go_ret
      exact ⟨rfl, HW4.out⟩

end Go.Proofs.YtpabaabkhmjdhaaDoor
