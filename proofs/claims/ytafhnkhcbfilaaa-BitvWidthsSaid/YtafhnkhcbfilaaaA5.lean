/- The table of operations of two: what bitv.pairs hands out. -/
import Derived.Test.YtafhnkhcbfilaaaA4
import Derived.Test.YtafhnkhcbfilaaaR2
import Derived.Laws.EntriesVeiled
namespace Go.Proofs.Ytafhnkhcbfilaaa
open Go.RowKit Go.Flow
set_option linter.unusedVariables false
set_option linter.unusedSimpArgs false

abbrev F (f : FuncId) : Value := .func (.func f) #[] #[]
abbrev U (x : Nat) : Value := .int .u64 (x : Nat)

theorem add_walk (x y : Nat) : IntKind.u64.wrap ((x : Int) + (y : Int)) = (((x + y) % 18446744073709551616 : Nat) : Int) := by rw [wrap_u64]; omega
theorem sub_walk2 (x y : Nat) (hy : y < 18446744073709551616) : IntKind.u64.wrap ((x : Int) - (y : Int)) = (((x + (18446744073709551616 - y)) % 18446744073709551616 : Nat) : Int) := by rw [wrap_u64]; omega
theorem mul_walk (x y : Nat) : IntKind.u64.wrap ((x : Int) * (y : Int)) = ((x * y % 18446744073709551616 : Nat) : Int) := by
  rw [wrap_u64, ← Int.natCast_mul, Int.natCast_emod]; rfl

set_option maxHeartbeats 400000 in
theorem less_any (x y : Nat) (W : World) (hx : x < 18446744073709551616) (hy : y < 18446744073709551616) :
    Calls Try.prog 44 #[U x, U y] W fun e W' => e = .returned (.bool (decide (x < y))) ∧ W = W' := by
  go_enter Try.func44, Try.ntmps44
  go_wp2
  go_ret
  exact ⟨rfl, rfl⟩

set_option maxHeartbeats 400000 in
theorem p_and (x y : Nat) (W : World) (hx : x < 18446744073709551616) (hy : y < 18446744073709551616) :
    Calls Try.prog 45 #[U x, U y] W fun e W' => e = .returned (.int .u64 ((x &&& y : Nat) : Int)) ∧ W = W' := by
  have h := u64_and_nat x y hx hy
  go_enter Try.func45, Try.ntmps45
  go_wp2
  go_ret
  exact ⟨rfl, rfl⟩

set_option maxHeartbeats 400000 in
theorem p_or (x y : Nat) (W : World) (hx : x < 18446744073709551616) (hy : y < 18446744073709551616) :
    Calls Try.prog 46 #[U x, U y] W fun e W' => e = .returned (.int .u64 ((x ||| y : Nat) : Int)) ∧ W = W' := by
  have h := u64_or_nat x y hx hy
  go_enter Try.func46, Try.ntmps46
  go_wp2
  go_ret
  exact ⟨rfl, rfl⟩

set_option maxHeartbeats 400000 in
theorem p_xor (x y : Nat) (W : World) (hx : x < 18446744073709551616) (hy : y < 18446744073709551616) :
    Calls Try.prog 47 #[U x, U y] W fun e W' => e = .returned (.int .u64 ((x ^^^ y : Nat) : Int)) ∧ W = W' := by
  have h := u64_xor_nat x y hx hy
  go_enter Try.func47, Try.ntmps47
  go_wp2
  go_ret
  exact ⟨rfl, rfl⟩

set_option maxHeartbeats 400000 in
theorem p_both (x y : Nat) (W : World) (hx : x < 18446744073709551616) (hy : y < 18446744073709551616) :
    Calls Try.prog 57 #[U x, U y] W fun e W' => e = .returned (.int .u64 ((x &&& y : Nat) : Int)) ∧ W = W' := by
  have h := u64_and_nat x y hx hy
  go_enter Try.func57, Try.ntmps57
  go_wp2
  go_ret
  exact ⟨rfl, rfl⟩

set_option maxHeartbeats 400000 in
theorem p_one (x y : Nat) (W : World) (hx : x < 18446744073709551616) (hy : y < 18446744073709551616) :
    Calls Try.prog 58 #[U x, U y] W fun e W' => e = .returned (.int .u64 ((x ||| y : Nat) : Int)) ∧ W = W' := by
  have h := u64_or_nat x y hx hy
  go_enter Try.func58, Try.ntmps58
  go_wp2
  go_ret
  exact ⟨rfl, rfl⟩

set_option maxHeartbeats 400000 in
theorem p_add (x y : Nat) (W : World) (hx : x < 18446744073709551616) (hy : y < 18446744073709551616) :
    Calls Try.prog 48 #[U x, U y] W fun e W' => e = .returned (.int .u64 (((x + y) % 18446744073709551616 : Nat) : Int)) ∧ W = W' := by
  have h := add_walk x y
  generalize (x + y) % 18446744073709551616 = r at *
  go_enter Try.func48, Try.ntmps48
  go_wp2
  go_ret
  exact ⟨rfl, rfl⟩

set_option maxHeartbeats 400000 in
theorem p_sub (x y : Nat) (W : World) (hx : x < 18446744073709551616) (hy : y < 18446744073709551616) :
    Calls Try.prog 49 #[U x, U y] W fun e W' => e = .returned (.int .u64 (((x + (18446744073709551616 - y)) % 18446744073709551616 : Nat) : Int)) ∧ W = W' := by
  have h := sub_walk2 x y hy
  generalize (x + (18446744073709551616 - y)) % 18446744073709551616 = r at *
  go_enter Try.func49, Try.ntmps49
  go_wp2
  go_ret
  exact ⟨rfl, rfl⟩

set_option maxHeartbeats 400000 in
theorem p_mul (x y : Nat) (W : World) (hx : x < 18446744073709551616) (hy : y < 18446744073709551616) :
    Calls Try.prog 50 #[U x, U y] W fun e W' => e = .returned (.int .u64 ((x * y % 18446744073709551616 : Nat) : Int)) ∧ W = W' := by
  have h := mul_walk x y
  generalize x * y % 18446744073709551616 = r at *
  go_enter Try.func50, Try.ntmps50
  go_wp2
  go_ret
  exact ⟨rfl, rfl⟩

set_option maxHeartbeats 400000 in
theorem eq_any (x y : Nat) (W : World) (hx : x < 18446744073709551616) (hy : y < 18446744073709551616) :
    Calls Try.prog 52 #[U x, U y] W fun e W' => e = .returned (.bool ((x : Int) == (y : Int))) ∧ W = W' := by
  go_enter Try.func52, Try.ntmps52
  go_wp2
  go_ret
  exact ⟨rfl, rfl⟩

set_option maxHeartbeats 400000 in
theorem ne_any (x y : Nat) (W : World) (hx : x < 18446744073709551616) (hy : y < 18446744073709551616) :
    Calls Try.prog 53 #[U x, U y] W fun e W' => e = .returned (.bool ((x : Int) != (y : Int))) ∧ W = W' := by
  go_enter Try.func53, Try.ntmps53
  go_wp2
  go_ret
  exact ⟨rfl, rfl⟩

set_option maxHeartbeats 400000 in
theorem le_any (x y b : Nat) (W : World) (hx : x < 18446744073709551616) (hy : y < 18446744073709551616) (hc : W.cell? ⟨b, 0, none⟩ = some (F 44)) :
    Calls Try.prog 54 #[U x, U y, .pointer (some ⟨b, 0, none⟩)] W fun e W' => e = .returned (.bool (!decide (y < x))) ∧ W = W' := by
  go_enter Try.func54, Try.ntmps54
  go_wp2_with (go_at_call 44; refine (less_any y x _ hy hx).mono ?_; rintro e w' ⟨rfl, rfl⟩)
  go_ret
  exact ⟨by simp, rfl⟩

set_option maxHeartbeats 400000 in
theorem gt_any (x y b : Nat) (W : World) (hx : x < 18446744073709551616) (hy : y < 18446744073709551616) (hc : W.cell? ⟨b, 0, none⟩ = some (F 44)) :
    Calls Try.prog 55 #[U x, U y, .pointer (some ⟨b, 0, none⟩)] W fun e W' => e = .returned (.bool (decide (y < x))) ∧ W = W' := by
  go_enter Try.func55, Try.ntmps55
  go_wp2_with (go_at_call 44; refine (less_any y x _ hy hx).mono ?_; rintro e w' ⟨rfl, rfl⟩)
  go_ret
  exact ⟨by simp, rfl⟩

set_option maxHeartbeats 400000 in
theorem ge_any (x y b : Nat) (W : World) (hx : x < 18446744073709551616) (hy : y < 18446744073709551616) (hc : W.cell? ⟨b, 0, none⟩ = some (F 44)) :
    Calls Try.prog 56 #[U x, U y, .pointer (some ⟨b, 0, none⟩)] W fun e W' => e = .returned (.bool (!decide (x < y))) ∧ W = W' := by
  go_enter Try.func56, Try.ntmps56
  go_wp2_with (go_at_call 44; refine (less_any x y _ hx hy).mono ?_; rintro e w' ⟨rfl, rfl⟩)
  go_ret
  exact ⟨by simp, rfl⟩

set_option maxHeartbeats 400000 in
/-- what compared hands out: it asks the function in its box -/
theorem cmp_plain (g : FuncId) (t : Bool) (x y c : Nat) (W : World) (hc : W.cell? ⟨c, 0, none⟩ = some (F g)) (hrun : ∀ a w, (callFunc g a).run Try.prog w = .ok (.enter g a) w)
    (hg : Calls Try.prog g #[U x, U y] W fun e W' => e = .returned (.bool t) ∧ W = W') :
    Calls Try.prog 59 #[U x, U y, .pointer (some ⟨c, 0, none⟩)] W fun e W' => e = .returned (.int .u64 (bitN t : Nat)) ∧ W = W' := by
  have H := Lib.hid hg
  clear hg
  go_enter Try.func59, Try.ntmps59
  go_wp2_with fail
  refine H.out.mono ?_
  rintro e w' ⟨rfl, rfl⟩
  go_wp2_with fail
  refine (one_any _ _).mono ?_
  rintro e w' ⟨rfl, rfl⟩
  go_wp2
  go_ret
  exact ⟨rfl, rfl⟩

set_option maxHeartbeats 400000 in
theorem cmp_boxed (g : FuncId) (t : Bool) (x y c b : Nat) (W : World) (hc : W.cell? ⟨c, 0, none⟩ = some (.func (.func g) #[] #[.pointer (some ⟨b, 0, none⟩)])) (hrun : ∀ a w, (callFunc g a).run Try.prog w = .ok (.enter g a) w)
    (hg : Calls Try.prog g #[U x, U y, .pointer (some ⟨b, 0, none⟩)] W fun e W' => e = .returned (.bool t) ∧ W = W') :
    Calls Try.prog 59 #[U x, U y, .pointer (some ⟨c, 0, none⟩)] W fun e W' => e = .returned (.int .u64 (bitN t : Nat)) ∧ W = W' := by
  have H := Lib.hid hg
  clear hg
  go_enter Try.func59, Try.ntmps59
  go_wp2_with fail
  refine H.out.mono ?_
  rintro e w' ⟨rfl, rfl⟩
  go_wp2_with fail
  refine (one_any _ _).mono ?_
  rintro e w' ⟨rfl, rfl⟩
  go_wp2
  go_ret
  exact ⟨rfl, rfl⟩

/-- a function that compared has made of another one -/
def Cmp (w : World) (v g : Value) : Prop := ∃ c : Nat, v = .func (.func 59) #[] #[.pointer (some ⟨c, 0, none⟩)] ∧ w.cell? ⟨c, 0, none⟩ = some g

theorem Cmp.cells {w w' : World} {v g : Value} (h : Cmp w v g) (hc : Cells w w') : Cmp w' v g := by
  obtain ⟨c, h1, h2⟩ := h
  exact ⟨c, h1, hc _ _ h2⟩

set_option maxHeartbeats 400000 in
theorem compared_any (g : FuncId) (cap : Array Value) (W : World) :
    Calls Try.prog 51 #[.func (.func g) #[] cap] W fun e W' => (∃ v, e = .returned v ∧ Cmp W' v (.func (.func g) #[] cap)) ∧ Below W.heap.size W W' := by
  go_enter Try.func51, Try.ntmps51
  go_wp2
  go_ret
  exact ⟨⟨_, rfl, W.heap.size, rfl, by simp [World.cell?_alloc_new]⟩, (Below.refl _ _).alloc (Nat.le_refl _) _⟩

theorem run44 : ∀ a w, (callFunc 44 a).run Try.prog w = .ok (.enter 44 a) w := by intro a w; simp [go_sem]
theorem run52 : ∀ a w, (callFunc 52 a).run Try.prog w = .ok (.enter 52 a) w := by intro a w; simp [go_sem]
theorem run53 : ∀ a w, (callFunc 53 a).run Try.prog w = .ok (.enter 53 a) w := by intro a w; simp [go_sem]
theorem run54 : ∀ a w, (callFunc 54 a).run Try.prog w = .ok (.enter 54 a) w := by intro a w; simp [go_sem]
theorem run55 : ∀ a w, (callFunc 55 a).run Try.prog w = .ok (.enter 55 a) w := by intro a w; simp [go_sem]
theorem run56 : ∀ a w, (callFunc 56 a).run Try.prog w = .ok (.enter 56 a) w := by intro a w; simp [go_sem]

end Go.Proofs.Ytafhnkhcbfilaaa
