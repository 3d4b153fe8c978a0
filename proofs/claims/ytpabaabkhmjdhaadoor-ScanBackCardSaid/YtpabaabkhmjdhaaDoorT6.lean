/- Are tokens few? A number's figures: the reference. -/
import Derived.Test.YtpabaabkhmjdhaaDoorT4
namespace Go.Proofs.YtpabaabkhmjdhaaDoor
open Go.RowKit Go.Proofs.Scn Go.Flow Go.Sort
set_option linter.unusedVariables false
set_option linter.unusedSimpArgs false
set_option maxRecDepth 100000

def sumF (ts : List Tok) : Nat := (ts.map fun t => 1 + t.s.length).sum
theorem sumF_succ (ts : List Tok) (k : Nat) (h : k < ts.length) : sumF (ts.take (k + 1)) = sumF (ts.take k) + 1 + ts[k].s.length := by
  rw [List.take_succ_eq_append_getElem h]
  unfold sumF
  rw [List.map_append, List.sum_append]
  simp only [List.map_cons, List.map_nil, List.sum_cons, List.sum_nil]
  omega
theorem sumF_take (ts : List Tok) (k : Nat) : sumF (ts.take k) ≤ sumF ts := by
  have : sumF ts = sumF (ts.take k) + sumF (ts.drop k) := by
    conv => lhs; rw [← List.take_append_drop k ts]
    unfold sumF
    rw [List.map_append, List.sum_append]
  omega
theorem sumF_each (ts : List Tok) (h : sumF ts ≤ 4000) : ts.length ≤ 4000 ∧ ∀ t ∈ ts, t.s.length ≤ 4000 := by
  constructor
  · have : ∀ l : List Tok, l.length ≤ sumF l := by
      intro l
      induction l with
      | nil => simp
      | cons t l ih => simp [sumF] at ih ⊢; omega
    have := this ts
    omega
  · intro t ht
    have : ∀ l : List Tok, t ∈ l → t.s.length ≤ sumF l := by
      intro l
      induction l with
      | nil => intro h; cases h
      | cons u l ih =>
        intro h
        rcases List.mem_cons.1 h with rfl | h
        · simp [sumF]; omega
        · have := ih h
          simp [sumF] at this ⊢; omega
    have := this ts ht
    omega

set_option maxHeartbeats 2000000 in
theorem few_some (b off cap : Nat) (ts : List Tok) (hl : ts.length ≤ 140737488351232) (W : World) (hlt : b < W.heap.size) (hc : ∀ k (h : k < ts.length), TokAt W b (off + k * 5) ts[k]) (hv : ∀ t ∈ ts, t.s.length ≤ 140737488355328) :
    Calls Tryd.prog 21 #[.slice (some ⟨b, off, none⟩) ts.length cap] W fun e W' => e = .returned (.bool (decide (sumF ts ≤ 4000))) ∧ W = W' := by
  have HC := Lib.hid hc
  have HV := Lib.hid hv
  clear hc hv
  go_enter Tryd.func21, Tryd.ntmps21
  go_wp2
  go_loopw [3, 4] (fun n i wr => ∃ k m : Nat, k ≤ ts.length ∧ i = .int .i64 k ∧ n = .int .i64 m ∧ m ≤ 4000 ∧ Hid (m = sumF (ts.take k)) ∧ wr = W) (fun _ i _ => ts.length - (intOf i).toNat)
  case atStart => exact ⟨0, 0, Nat.zero_le _, rfl, rfl, by omega, Lib.hid rfl, rfl⟩
  case round =>
    obtain ⟨k, m, hk, rfl, rfl, hm, HM, rfl⟩ := hrel
    by_cases hks : k < ts.length
    · obtain ⟨c0, c1, c2, c3, c4⟩ := HC.out k hks
      have hvk := HV.out _ (List.getElem_mem hks)
      have hs := sumF_succ ts k hks
      rw [← HM.out] at hs
      have hsz : (bs ts[k].s).size = ts[k].s.length := rfl
      generalize ts[k] = t at *
      by_cases hbig : 4000 < m + 1 + t.s.length
      · have hbig' : (4000 : Int) < (m : Int) + 1 + ((bs t.s).size : Int) := by omega
        have hF : decide (sumF ts ≤ 4000) = false := by
          rw [decide_eq_false_iff_not]
          have := sumF_take ts (k + 1)
          omega
        have HF := Lib.hid hF
        clear hF hs
        go_wp2_with fail
        go_ret
        exact ⟨by rw [HF.out]; rfl, rfl⟩
      · have hbig' : ¬ (4000 : Int) < (m : Int) + 1 + ((bs t.s).size : Int) := by omega
        have HS := Lib.hid hs.symm
        clear hs
        go_wp2_with fail
        go_roundw
        case rel => exact ⟨k + 1, m + 1 + t.s.length, by omega, by go_num, by go_num, by omega, HS, by first | rfl | trivial⟩
        case measure => simp [intOf]; omega
    · obtain rfl : k = ts.length := by omega
      have hF : decide (sumF ts ≤ 4000) = true := by
        rw [decide_eq_true_iff]
        have := HM.out
        rw [List.take_length] at this
        omega
      have HF := Lib.hid hF
      clear hF
      go_wp2_with fail
      go_ret
      exact ⟨by rw [HF.out]; rfl, rfl⟩

set_option maxHeartbeats 1000000 in
theorem few_empty (p : Option Addr) (c : Nat) (W : World) :
    Calls Tryd.prog 21 #[.slice p 0 c] W fun e W' => e = .returned (.bool true) ∧ W = W' := by
  go_enter Tryd.func21, Tryd.ntmps21
  go_wp2
  refine wp_loop_rounds 1 ?_
  rw [rounds_succ]
  go_wp2
  go_ret
  exact ⟨rfl, rfl⟩

theorem few_any (v : Value) (ts : List Tok) (hl : ts.length ≤ 140737488351232) (W : World) (ht : Toks W v ts) (hv : ∀ t ∈ ts, t.s.length ≤ 140737488355328) :
    Calls Tryd.prog 21 #[v] W fun e W' => e = .returned (.bool (decide (sumF ts ≤ 4000))) ∧ W = W' := by
  rcases ht with ⟨rfl, p, c, rfl⟩ | ⟨b, off, cap, rfl, hlt, hc⟩
  · exact few_empty p c W
  · exact few_some b off cap ts hl W hlt hc hv

/-! figures -/
def hexL : ByteArray := ⟨#[48, 49, 50, 51, 52, 53, 54, 55, 56, 57, 97, 98, 99, 100, 101, 102]⟩
def figD (d : Nat) : UInt8 := UInt8.ofNat (if d < 10 then 48 + d else 87 + d)
theorem ext_figD (d : Nat) (hd : d < 16) : hexL.extract d (d + 1) = bs [figD d] := by
  rw [extract_bs]
  congr 1
  exact (show ∀ d : Fin 16, (hexL.data.toList.take (d.val + 1)).drop d.val = [figD d.val] from by decide) ⟨d, hd⟩

set_option maxHeartbeats 4000000 in
theorem rfigure_any (b : Nat) (hb : 2 ≤ b) (hb' : b ≤ 16) : ∀ (k v : Nat), v < k → v < 18446744073709551616 → ∀ W : World,
    Calls Tryd.prog 61 #[.int .u64 v, .int .u64 b] W fun e W' => e = .returned (.string (bs (digL b v))) ∧ Below W.heap.size W W' := by
  intro k
  induction k with
  | zero => intro v h; omega
  | succ k ih =>
    intro v hvk hv W
    have hmod : v % b < 16 := Nat.lt_of_lt_of_le (Nat.mod_lt _ (by omega)) hb'
    have he := ext_figD (v % b) hmod
    unfold hexL at he
    have hb0 : ¬ (b : Int) = 0 := by omega
    by_cases hlt : v < b
    · have hlt' : (v : Int) < (b : Int) := by omega
      have hd : bs (digL b v) = bs [figD (v % b)] := by
        rw [digL_lt (.inl hlt), Nat.mod_eq_of_lt hlt]; rfl
      rw [hd]
      clear hd ih
      go_enter Tryd.func61, Tryd.ntmps61
      go_wp2_with fail
      go_quiet (fail)
      go_wp2
      go_ret
      exact ⟨by rw [← he]; rfl, below_drewN (Below.refl _ _) _⟩
    · have hlt' : ¬ (v : Int) < (b : Int) := by omega
      have hdv : v / b < v := Nat.div_lt_self (by omega) hb
      have KI := Lib.hid (ih (v / b) (by omega) (by omega))
      have hd : bs (digL b v) = bs (digL b (v / b)) ++ bs [figD (v % b)] := by
        rw [digL_ge (by omega)]
        apply ByteArray.ext
        simp [bs, figD]
      have hlen := digL_len b hb 64 (v / b) (by omega) (Nat.lt_of_lt_of_le (show v / b < 2 ^ 64 by omega) (Nat.pow_le_pow_left hb 64))
      have hsz : (bs (digL b (v / b))).size ≤ 64 := hlen
      rw [hd, ← he]
      have hs2 : (bs (digL b (v / b))).size + (ByteArray.extract ⟨#[48, 49, 50, 51, 52, 53, 54, 55, 56, 57, 97, 98, 99, 100, 101, 102]⟩ (v % b) (v % b + 1)).size ≤ 1000 := by
        rw [he, size_bs [figD (v % b)]]
        simp
        omega
      have hq : IntKind.u64.wrap ((v : Int) / (b : Int)) = ((v / b : Nat) : Int) := by
        have hq1 : v / b < 18446744073709551616 := by omega
        rw [← Int.natCast_ediv, IntKind.wrap_u64]
        generalize v / b = w at *
        omega
      clear hd ih hlen he
      go_enter Tryd.func61, Tryd.ntmps61
      go_wp2_with fail
      go_quiet (fail)
      go_wp2_with fail
      refine (KI.out _).mono ?_
      rintro e W2 ⟨rfl, hb2⟩
      have HW2 := Lib.hid ((below_drewN (Below.refl W.heap.size W) nq).trans (hb2.mono (below_drewN (Below.refl W.heap.size W) nq).size))
      clear hb2
      go_wp2
      go_ret
      exact ⟨rfl, HW2.out⟩

end Go.Proofs.YtpabaabkhmjdhaaDoor
