/- ScanWrong. -/
import Derived.Test.YtpabaabkhmjdhaaDoorU5
namespace Go.Proofs.YtpabaabkhmjdhaaDoor
open Go.RowKit Go.Proofs.Scn Go.Flow Go.Sort
set_option linter.unusedVariables false
set_option linter.unusedSimpArgs false
set_option maxRecDepth 100000

/-- parts of a text -/
theorem bytes_head {w : World} {b off c : Nat} {s : ByteArray} (i : Nat) (hi : i ≤ s.size) (hlt : b < w.heap.size) (hc : ∀ k (h : k < s.size), w.cell? ⟨b, off + k, none⟩ = some (.int .u8 s[k].toNat)) :
    Bytes w (.slice (some ⟨b, off, none⟩) i c) (bs (s.data.toList.take i)) := by
  have hl : s.data.toList.length = s.size := rfl
  refine .inr ⟨b, off, c, by rw [size_bs, List.length_take, hl, Nat.min_eq_left hi], hlt, fun k hk => ?_⟩
  have hk' : k < i := by rw [size_bs, List.length_take] at hk; omega
  rw [hc k (by omega)]
  rw [getElem_list, getElem_list]
  simp [bs]
theorem bytes_tail {w : World} {b off c : Nat} {s : ByteArray} (i : Nat) (hi : i < s.size) (hlt : b < w.heap.size) (hc : ∀ k (h : k < s.size), w.cell? ⟨b, off + k, none⟩ = some (.int .u8 s[k].toNat)) :
    Bytes w (.slice (some ⟨b, off + i, none⟩) (s.size - i) c) (bs (s.data.toList.drop i)) := by
  have hl : s.data.toList.length = s.size := rfl
  refine .inr ⟨b, off + i, c, by rw [size_bs, List.length_drop, hl], hlt, fun k hk => ?_⟩
  have hk' : k < s.size - i := by rw [size_bs, List.length_drop] at hk; omega
  rw [Nat.add_assoc, hc (i + k) (by omega)]
  rw [getElem_list, getElem_list]
  simp [bs]

theorem scan_err {l : List UInt8} {i k : Nat} {er : Int} (h : scanW i l = .error (k, er)) : er ≠ 0 := by
  obtain ⟨d, hkd, hdl, _, hbad⟩ := scan_wrong i l k er h
  have hb := hbad 0
  have hne : l.drop d ≠ [] := by
    intro e
    have := congrArg List.length e
    simp at this
    omega
  match hm : l.drop d, hne with
  | c :: r, _ =>
    rw [hm] at hb
    rw [scanW] at hb
    split at hb
    · obtain ⟨d', h1, _⟩ := scan_wrong _ _ _ _ hb
      omega
    · split at hb
      · obtain ⟨d', h1, _⟩ := scan_wrong _ _ _ _ hb
        omega
      · split at hb
        · rename_i e ht
          cases hb
          exact tok_err ht
        · rename_i t n ht
          have hp := (tok_is ht).pos
          split at hb
          · cases hb
          · rename_i x hx
            cases hb
            obtain ⟨d', h1, _⟩ := scan_wrong _ _ _ _ hx
            omega

set_option maxHeartbeats 4000000 in
theorem wrong_any (v : Value) (s : ByteArray) (hs : s.size ≤ 140737488355328) (W : World) (hb : Bytes W v s) (hcap : ∀ p l c, v = .slice p l c → l ≤ c) (hB : Base W) :
    Calls Tryd.prog 10 #[v] W fun e W' => e = .returned (.bool true) ∧ Below W.heap.size W W' := by
  have KL := Lib.hid (live_any W hB)
  have HB := Lib.hid hB
  have HBy := Lib.hid hb
  obtain ⟨p, c, hv⟩ := hb.form
  subst hv
  have hcp := hcap p _ c rfl
  clear hb hB hcap
  by_cases h1 : s.size ≤ 2000
  · have hn : ¬ (2000 : Int) < (s.size : Int) := by omega
    have KS := Lib.hid (fun w hb hB => scan_any (.slice p s.size c) s (by omega) w hb hB)
    cases hr : scanW 0 s.data.toList with
    | ok ts =>
      rw [hr] at KS
      go_enter Tryd.func10, Tryd.ntmps10
      go_wp2_with fail
      refine KL.out.mono ?_
      rintro e W1 ⟨rfl, hb1⟩
      have HW1 := Lib.hid hb1
      have HBy1 := Lib.hid (HBy.out.later hb1)
      have HB1 := Lib.hid (HB.out.later hb1)
      clear hb1
      go_wp2_with fail
      refine (KS.out _ HBy1.out HB1.out).mono ?_
      rintro e W2 ⟨⟨v2, rfl, ho2⟩, hb2⟩
      have HW2 := Lib.hid (HW1.out.trans (hb2.mono HW1.out.size))
      clear hb2 ho2 hr
      go_wp2
      go_ret
      exact ⟨rfl, HW2.out⟩
    | error x =>
      obtain ⟨k, er⟩ := x
      rw [hr] at KS
      obtain ⟨d, hkd, hdl, ⟨us, hok⟩, hbad⟩ := scan_wrong 0 _ k er hr
      obtain rfl : k = d := by omega
      have hks : k < s.size := hdl
      have her := scan_err hr
      obtain ⟨b, off, c', hv, hlt, hc⟩ : ∃ b off c', Value.slice p s.size c = .slice (some ⟨b, off, none⟩) s.size c' ∧ b < W.heap.size ∧ ∀ k (h : k < s.size), W.cell? ⟨b, off + k, none⟩ = some (.int .u8 s[k].toNat) := by
        rcases HBy.out with ⟨h0, _⟩ | h
        · omega
        · exact h
      simp only [Value.slice.injEq, true_and] at hv
      obtain ⟨rfl, rfl⟩ := hv
      have KH := Lib.hid (fun w hb hB => scan_any (.slice (some ⟨b, off, none⟩) k c) (bs (s.data.toList.take k)) (by rw [size_bs, List.length_take]; omega) w hb hB)
      have KT := Lib.hid (fun w hb hB => scan_any (.slice (some ⟨b, off + k, none⟩) (s.size - k) (c - k)) (bs (s.data.toList.drop k)) (by rw [size_bs, List.length_drop]; have : s.data.toList.length = s.size := rfl; omega) w hb hB)
      rw [list_bs, hok 0] at KH
      rw [list_bs, hbad 0] at KT
      have HH := Lib.hid (bytes_head (c := c) k (by omega) hlt hc)
      have HT := Lib.hid (bytes_tail (c := c - k) k hks hlt hc)
      clear hc hbad hok hdl hkd hr
      have hki : (k : Int) < (s.size : Int) := by omega
      go_enter Tryd.func10, Tryd.ntmps10
      go_wp2_with fail
      refine KL.out.mono ?_
      rintro e W1 ⟨rfl, hb1⟩
      have HW1 := Lib.hid hb1
      have HBy1 := Lib.hid (HBy.out.later hb1)
      have HB1 := Lib.hid (HB.out.later hb1)
      clear hb1
      go_wp2_with fail
      refine (KS.out _ HBy1.out HB1.out).mono ?_
      rintro e W2 ⟨rfl, hb2⟩
      have HW2 := Lib.hid (HW1.out.trans (hb2.mono HW1.out.size))
      clear hb2
      go_wp2_with fail
      refine (KH.out _ (HH.out.later HW2.out) (HB.out.later HW2.out)).mono ?_
      rintro e W3 ⟨⟨v3, rfl, ho3⟩, hb3⟩
      have HW3 := Lib.hid (HW2.out.trans (hb3.mono HW2.out.size))
      clear hb3 ho3
      go_wp2_with fail
      refine (KT.out _ (HT.out.later HW3.out) (HB.out.later HW3.out)).mono ?_
      rintro e W4 ⟨rfl, hb4⟩
      have HW4 := Lib.hid (HW3.out.trans (hb4.mono HW3.out.size))
      clear hb4
      go_wp2
      go_ret
      exact ⟨rfl, HW4.out⟩
  · have hn : (2000 : Int) < (s.size : Int) := by omega
    go_enter Tryd.func10, Tryd.ntmps10
    go_wp2_with fail
    refine KL.out.mono ?_
    rintro e W1 ⟨rfl, hb1⟩
    have HW1 := Lib.hid hb1
    clear hb1
    go_wp2
    go_ret
    exact ⟨rfl, HW1.out⟩

end Go.Proofs.YtpabaabkhmjdhaaDoor
