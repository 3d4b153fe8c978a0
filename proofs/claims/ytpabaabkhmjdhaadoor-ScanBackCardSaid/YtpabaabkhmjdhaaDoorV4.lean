/- The reference's comment. -/
import Derived.Test.YtpabaabkhmjdhaaDoorV3
namespace Go.Proofs.YtpabaabkhmjdhaaDoor
open Go.RowKit Go.Proofs.Scn Go.Flow Go.Sort
set_option linter.unusedVariables false
set_option linter.unusedSimpArgs false
set_option maxRecDepth 100000

/-- how long a comment is -/
def noteN (l : List UInt8) : Nat := match l with
  | 47 :: 47 :: r => 2 + headN (· != 10) r
  | _ => 0

set_option maxHeartbeats 1000000 in
theorem refComment_end (s : ByteArray) (i : Nat) (hi : i < s.size) (hs : s.size ≤ 140737488351232) (h : s.size ≤ i + 1) (W : World) :
    Calls Tryd.prog 31 #[.string s, .int .i64 i] W fun e W' => e = .returned (.int .i64 0) ∧ W = W' := by
  go_enter Tryd.func31, Tryd.ntmps31
  go_wp2
  go_ret
  exact ⟨rfl, rfl⟩

set_option maxHeartbeats 1000000 in
theorem refComment_no (s : ByteArray) (i : Nat) (hs : s.size ≤ 140737488351232) (h : i + 1 < s.size) (h1 : ¬ (s[i].toNat : Int) = 47) (W : World) :
    Calls Tryd.prog 31 #[.string s, .int .i64 i] W fun e W' => e = .returned (.int .i64 0) ∧ W = W' := by
  have b1 : ((s[i].toNat : Int) != 47) = true := by simp [h1]
  go_enter Tryd.func31, Tryd.ntmps31
  go_wp2
  go_ret
  exact ⟨rfl, rfl⟩

set_option maxHeartbeats 1000000 in
theorem refComment_no2 (s : ByteArray) (i : Nat) (hs : s.size ≤ 140737488351232) (h : i + 1 < s.size) (h1 : (s[i].toNat : Int) = 47) (h2 : ¬ (s[i + 1].toNat : Int) = 47) (W : World) :
    Calls Tryd.prog 31 #[.string s, .int .i64 i] W fun e W' => e = .returned (.int .i64 0) ∧ W = W' := by
  have b1 : ((s[i].toNat : Int) != 47) = false := by simp [h1]
  have b2 : ((s[i + 1].toNat : Int) != 47) = true := by simp [h2]
  go_enter Tryd.func31, Tryd.ntmps31
  go_wp2
  go_ret
  exact ⟨rfl, rfl⟩

set_option maxHeartbeats 2000000 in
theorem refComment_yes (s : ByteArray) (i : Nat) (hs : s.size ≤ 140737488351232) (h : i + 1 < s.size) (h1 : (s[i].toNat : Int) = 47) (h2 : (s[i + 1].toNat : Int) = 47) (W : World) :
    Calls Tryd.prog 31 #[.string s, .int .i64 i] W fun e W' => e = .returned (.int .i64 ((2 + headN (· != 10) (s.data.toList.drop (i + 2)) : Nat) : Int)) ∧ W = W' := by
  obtain ⟨N, hN, hle, hh1, hh2⟩ := head_from (fun c => c != 10) s (i + 2) (by omega)
  have hN' : headN (· != 10) (s.data.toList.drop (i + 2)) = N := hN.symm
  rw [hN']
  have H1 := Lib.hid hh1
  have H2 := Lib.hid hh2
  clear hh1 hh2 hN hN'
  have b1 : ((s[i].toNat : Int) != 47) = false := by simp [h1]
  have b2 : ((s[i + 1].toNat : Int) != 47) = false := by simp [h2]
  go_enter Tryd.func31, Tryd.ntmps31
  go_wp2_with fail
  clear h1 h2 b1 b2
  go_loop [5] (fun t => ∃ k : Nat, k ≤ N ∧ t = .int .i64 ((k : Int) + 2)) (fun t => s.size - (intOf t).toNat)
  case atStart => exact ⟨0, Nat.zero_le _, rfl⟩
  case round =>
    obtain ⟨k, hk, rfl⟩ := hrel
    by_cases hlt : k < N
    · have hks : i + 2 + k < s.size := by omega
      have hc := H1.out k hks hlt
      have hd0 : ((s[i + 2 + k].toNat : Int) == 10) = false := nat_ne 10 rfl (by simpa using hc)
      have hd : ¬ (s[i + 2 + k].toNat : Int) = 10 := by simpa using hd0
      have hd2 : ((s[i + 2 + k].toNat : Int) != 10) = true := by simp [hd]
      clear hd0
      have hki : (i : Int) + ((k : Int) + 2) = ((i + 2 + k : Nat) : Int) := by omega
      generalize hj : i + 2 + k = j at *
      clear hc
      go_wp2
      go_round
      case rel => exact ⟨k + 1, by omega, by go_num⟩
      case measure => simp [intOf]; omega
    · obtain rfl : k = N := by omega
      have hki : (i : Int) + ((k : Int) + 2) = ((i + 2 + k : Nat) : Int) := by omega
      by_cases hks : i + 2 + k < s.size
      · have hc := H2.out hks
        have hd : (s[i + 2 + k].toNat : Int) = 10 := by
          have : s[i + 2 + k] = 10 := by simpa using hc
          rw [this]; rfl
        have hd2 : ((s[i + 2 + k].toNat : Int) != 10) = false := by simp [hd]
        generalize hj : i + 2 + k = j at *
        clear hc
        go_wp2
        go_ret
        exact ⟨by go_num, rfl⟩
      · generalize hj : i + 2 + k = j at *
        go_wp2
        go_ret
        exact ⟨by go_num, rfl⟩

theorem refComment_any (s : ByteArray) (i : Nat) (hi : i < s.size) (hs : s.size ≤ 140737488351232) (W : World) :
    Calls Tryd.prog 31 #[.string s, .int .i64 i] W fun e W' => e = .returned (.int .i64 (noteN (s.data.toList.drop i) : Nat)) ∧ W = W' := by
  have hlen : s.data.toList.length = s.size := rfl
  have hcons : s.data.toList.drop i = s[i] :: s.data.toList.drop (i + 1) := by
    rw [List.drop_eq_getElem_cons (show i < s.data.toList.length from hi)]
    rfl
  by_cases h : i + 1 < s.size
  · have hcons2 : s.data.toList.drop (i + 1) = s[i + 1] :: s.data.toList.drop (i + 2) := by
      rw [List.drop_eq_getElem_cons (show i + 1 < s.data.toList.length from h)]
      rfl
    rw [hcons, hcons2]
    by_cases h1 : s[i] = 47
    · have e1 : (s[i].toNat : Int) = 47 := by rw [h1]; rfl
      by_cases h2 : s[i + 1] = 47
      · have e2 : (s[i + 1].toNat : Int) = 47 := by rw [h2]; rfl
        have := refComment_yes s i hs h e1 e2 W
        rw [h1, h2]
        exact this
      · have e2 : ¬ (s[i + 1].toNat : Int) = 47 := by simpa using nat_ne 47 rfl h2
        have : noteN (s[i] :: s[i + 1] :: s.data.toList.drop (i + 2)) = 0 := by
          unfold noteN
          split
          · rename_i heq; simp at heq; exact absurd heq.2.1 h2
          · rfl
        rw [this]
        exact refComment_no2 s i hs h e1 e2 W
    · have e1 : ¬ (s[i].toNat : Int) = 47 := by simpa using nat_ne 47 rfl h1
      have : noteN (s[i] :: s[i + 1] :: s.data.toList.drop (i + 2)) = 0 := by
        unfold noteN
        split
        · rename_i heq; simp at heq; exact absurd heq.1 h1
        · rfl
      rw [this]
      exact refComment_no s i hs h e1 W
  · have h0 : s.data.toList.drop (i + 1) = [] := List.drop_of_length_le (by rw [hlen]; omega)
    rw [hcons, h0]
    have : noteN [s[i]] = 0 := by
      unfold noteN
      split
      · rename_i heq; simp at heq
      · rfl
    rw [this]
    exact refComment_end s i hi hs (by omega) W

end Go.Proofs.YtpabaabkhmjdhaaDoor
