/- ScanAgain. -/
import Derived.Test.YtpabaabkhmjdhaaDoorU8
import Derived.Test.YtpabaabkhmjdhaaDoorU7
namespace Go.Proofs.YtpabaabkhmjdhaaDoor
open Go.RowKit Go.Proofs.Scn Go.Flow Go.Sort
set_option linter.unusedVariables false
set_option linter.unusedSimpArgs false
set_option maxRecDepth 100000

theorem short_s {t : Tok} (h : checkT t = true) (hv : t.v < two64) : t.s.length ≤ 64 := by
  have h1 := one_len h hv
  by_cases hk : t.k = 3
  · have : t.s = [] := by
      unfold checkT at h
      simp [hk] at h
      exact h.2.1
    rw [this]; simp
  · unfold oneT at h1
    rwa [if_pos hk] at h1
theorem read_ok {l : List UInt8} {ts : List Tok} (h : scanW 0 l = .ok ts) : (∀ t ∈ ts, checkT t = true ∧ t.v < two64) ∧ (∀ t ∈ ts, t.v < two64 ∧ t.s.length ≤ 140737488355328) ∧ ts.all checkT = true ∧ (textL ts).length ≤ 2 * l.length := by
  have h1 := (scan_right 0 l ts h).all
  refine ⟨h1, fun t ht => ⟨(h1 t ht).2, ?_⟩, by rw [List.all_eq_true]; exact fun t ht => (h1 t ht).1, Nat.le_trans (text_len ts) (scan_len 0 l ts h)⟩
  have := short_s (h1 t ht).1 (h1 t ht).2
  omega

set_option maxHeartbeats 8000000 in
theorem again_any (v : Value) (s : ByteArray) (hs : s.size ≤ 140737488355328) (W : World) (hb : Bytes W v s) (hB : Base W) :
    Calls Tryd.prog 7 #[v] W fun e W' => e = .returned (.bool true) ∧ Below W.heap.size W W' := by
  have KL := Lib.hid (live_any W hB)
  have HB := Lib.hid hB
  have HBy := Lib.hid hb
  obtain ⟨p, c, rfl⟩ := hb.form
  clear hb hB
  have hll : s.data.toList.length = s.size := rfl
  by_cases h1 : s.size ≤ 2000
  · have hn : ¬ (2000 : Int) < (s.size : Int) := by omega
    have KS := Lib.hid (fun w hb hB => scan_any (.slice p s.size c) s (by omega) w hb hB)
    cases hr : scanW 0 s.data.toList with
    | error x =>
      obtain ⟨k, er⟩ := x
      rw [hr] at KS
      have her := scan_err hr
      clear hr
      go_enter Tryd.func7, Tryd.ntmps7
      go_wp2_with fail
      refine KL.out.mono ?_
      rintro e W1 ⟨rfl, hb1⟩
      have HW1 := Lib.hid hb1
      have HBy1 := Lib.hid (HBy.out.later hb1)
      have HB1 := Lib.hid (HB.out.later hb1)
      clear hb1
      go_wp2_with fail
      refine (KS.out _ HBy1.out HB1.out).mono ?_
      rintro e W2 ⟨rfl, hb2⟩
      have HW2 := Lib.hid (HW1.out.trans (hb2.mono HW1.out.size))
      clear hb2
      go_wp2
      go_ret
      exact ⟨rfl, HW2.out⟩
    | ok ts =>
      rw [hr] at KS
      obtain ⟨g1, g2, g3, g4⟩ := read_ok hr
      have hl1 := scanned_len hr
      obtain ⟨us, hu, hus⟩ := scan_text ts 0 g1
      obtain ⟨_, f2, f3, _⟩ := read_ok hu
      have htx : textL us = textL ts := text_at0 us ts hus
      have hul : us.length = ts.length := by have := congrArg List.length hus; simpa using this
      have KT := Lib.hid (fun v w ht hB => text_any v ts (by omega) w ht g2 hB)
      have KU := Lib.hid (fun v w ht hB => text_any v us (by omega) w ht f2 hB)
      have KV := Lib.hid (fun v w hb hB => scan_any v (bs (textL ts)) (by rw [size_bs]; omega) w hb hB)
      rw [list_bs, hu] at KV
      have KM := Lib.hid (fun v1 v2 w h1 h2 => same_any v1 v2 ts us (by omega) w h1 h2)
      rw [decide_eq_true hus.symm] at KM
      have HLen := Lib.hid (show (textL ts).length ≤ 65536 by omega)
      have HG3 := Lib.hid g3
      have HF3 := Lib.hid f3
      have HTX := Lib.hid htx
      clear hr g1 g2 g3 g4 hl1 hu hus f2 f3 htx hul hll
      go_enter Tryd.func7, Tryd.ntmps7
      go_wp2_with fail
      refine KL.out.mono ?_
      rintro e W1 ⟨rfl, hb1⟩
      have HW1 := Lib.hid hb1
      have HBy1 := Lib.hid (HBy.out.later hb1)
      have HB1 := Lib.hid (HB.out.later hb1)
      clear hb1
      go_wp2_with fail
      refine (KS.out _ HBy1.out HB1.out).mono ?_
      rintro e W2 ⟨⟨v2, rfl, ho2⟩, hb2⟩
      have HT2 := Lib.hid ho2.toks
      have HW2 := Lib.hid (HW1.out.trans (hb2.mono HW1.out.size))
      clear hb2 ho2
      go_wp2_with fail
      refine (KT.out _ _ HT2.out (HB.out.later HW2.out)).mono ?_
      rintro e W3 ⟨hx3, hb3⟩
      rw [if_pos HG3.out, if_pos HLen.out] at hx3
      obtain ⟨v3, rfl, ho3⟩ := hx3
      have HY3 := Lib.hid ho3.bytes
      have HT3 := Lib.hid (HT2.out.later hb3)
      have HW3 := Lib.hid (HW2.out.trans (hb3.mono HW2.out.size))
      clear hb3 ho3
      go_wp2_with fail
      refine (KV.out _ _ HY3.out (HB.out.later HW3.out)).mono ?_
      rintro e W4 ⟨⟨v4, rfl, ho4⟩, hb4⟩
      have HU4 := Lib.hid ho4.toks
      have HY4 := Lib.hid (HY3.out.later hb4)
      have HT4 := Lib.hid (HT3.out.later hb4)
      have HW4 := Lib.hid (HW3.out.trans (hb4.mono HW3.out.size))
      clear hb4 ho4
      go_wp2_with fail
      refine (KU.out _ _ HU4.out (HB.out.later HW4.out)).mono ?_
      rintro e W5 ⟨hx5, hb5⟩
      rw [if_pos HF3.out, HTX.out, if_pos HLen.out] at hx5
      obtain ⟨v5, rfl, ho5⟩ := hx5
      have HZ5 := Lib.hid ho5.bytes
      have HU5 := Lib.hid (HU4.out.later hb5)
      have HY5 := Lib.hid (HY4.out.later hb5)
      have HT5 := Lib.hid (HT4.out.later hb5)
      have HW5 := Lib.hid (HW4.out.trans (hb5.mono HW4.out.size))
      clear hb5 ho5
      go_wp2_with fail
      refine (KM.out _ _ _ HT5.out HU5.out).mono ?_
      rintro e W6 ⟨rfl, hb6⟩
      have q1 := str_run (HY5.out.later hb6)
      have q2 := str_run (HZ5.out.later hb6)
      have HW6 := Lib.hid (HW5.out.trans (hb6.mono HW5.out.size))
      clear hb6
      go_wp2
      go_ret
      exact ⟨rfl, HW6.out⟩
  · have hn : (2000 : Int) < (s.size : Int) := by omega
    go_enter Tryd.func7, Tryd.ntmps7
    go_wp2_with fail
    refine KL.out.mono ?_
    rintro e W1 ⟨rfl, hb1⟩
    have HW1 := Lib.hid hb1
    clear hb1
    go_wp2
    go_ret
    exact ⟨rfl, HW1.out⟩

end Go.Proofs.YtpabaabkhmjdhaaDoor
