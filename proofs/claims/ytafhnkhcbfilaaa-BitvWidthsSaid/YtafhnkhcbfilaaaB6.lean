/- bitv.Ext, by what is to be told. -/
import Derived.Test.YtafhnkhcbfilaaaB5
namespace Go.Proofs.Ytafhnkhcbfilaaa
open Go.RowKit Go.Flow
set_option linter.unusedVariables false
set_option linter.unusedSimpArgs false

def ExtPost (op n w : Int) (v : Nat) (W : World) (e : Ending) (W' : World) : Prop :=
  e = Tup (if extOk op n w v then n else 0) (if extOk op n w v then extV op n w v else 0) (errE (extOk op n w v)) ∧ Below W.heap.size W W'

theorem wrapi64_some (v : Nat) (hv : v < 18446744073709551616) : ∃ (s : Int) (r : Nat), IntKind.i64.wrap (v : Int) = s ∧ IntKind.u64.wrap s = (r : Int) ∧ r < 18446744073709551616 := by
  refine ⟨_, ((IntKind.u64.wrap (IntKind.i64.wrap (v : Int))).toNat), rfl, ?_, ?_⟩
  · rw [wrap_u64]; omega
  · rw [wrap_u64]; omega

theorem wrapu64_same (v : Nat) (hv : v < 18446744073709551616) : IntKind.u64.wrap (v : Int) = (v : Int) := by rw [wrap_u64]; omega

theorem ext_any (op n w : Int) (v : Nat) (W : World) (hv : v < 18446744073709551616) :
    Calls Try.prog 29 #[.int .i64 op, .int .i64 n, .agg #[.int .i64 w, .int .u64 v]] W (ExtPost op n w v W) := by
  have no : extOk op n w v = false → ∀ e W', (e = Tup 0 0 1 ∧ Below W.heap.size W W') → ExtPost op n w v W e W' := fun h e W' k => ⟨by rw [k.1, h]; rfl, k.2⟩
  have e1 := wrapu64_same v hv
  obtain ⟨s, r, e2, e3, hr⟩ := wrapi64_some v hv
  cases hm : mayB w v
  · have h := no (by simp [extOk, hm])
    by_cases h31 : op = 31
    · subst h31; exact (ext_znm w n v hm W hv).mono h
    by_cases h32 : op = 32
    · subst h32; exact (ext_snm w n v hm s r e1 e2 e3 hr W hv).mono h
    by_cases h33 : op = 33
    · subst h33; exact (ext_cnm w n v hm W hv).mono h
    · exact (ext_onm op w n v hm (by simp [h31]) (by simp [h32]) (by simp [h33]) W hv).mono h
  by_cases h1 : 0 < n
  rotate_left
  · have h := no (by simp [extOk, h1])
    by_cases h31 : op = 31
    · subst h31; exact (ext_zn0 w n v hm h1 W hv).mono h
    by_cases h32 : op = 32
    · subst h32; exact (ext_sn0 w n v hm h1 s r e1 e2 e3 hr W hv).mono h
    by_cases h33 : op = 33
    · subst h33; exact (ext_cn0 w n v hm h1 W hv).mono h
    · exact (ext_on0 op w n v hm h1 (by simp [h31]) (by simp [h32]) (by simp [h33]) W hv).mono h
  by_cases h2 : n ≤ 64
  rotate_left
  · have h := no (by simp [extOk, h2])
    by_cases h31 : op = 31
    · subst h31; exact (ext_zn64 w n v hm h1 h2 W hv).mono h
    by_cases h32 : op = 32
    · subst h32; exact (ext_sn64 w n v hm h1 h2 s r e1 e2 e3 hr W hv).mono h
    by_cases h33 : op = 33
    · subst h33; exact (ext_cn64 w n v hm h1 h2 W hv).mono h
    · exact (ext_on64 op w n v hm h1 h2 (by simp [h31]) (by simp [h32]) (by simp [h33]) W hv).mono h
  by_cases h31 : op = 31
  · subst h31
    by_cases h3 : w ≤ n
    · have ok : extOk 31 n w v = true := by simp [extOk, hm, h1, h2, h3]
      exact (ext_zok w n v hm h1 h2 h3 W hv).mono fun e W' k => ⟨by rw [k.1, ok]; rfl, k.2⟩
    · exact (ext_zun w n v hm h1 h2 h3 W hv).mono (no (by simp [extOk, h3]))
  by_cases h33 : op = 33
  · subst h33
    by_cases h3 : n ≤ w
    · have ok : extOk 33 n w v = true := by simp [extOk, hm, h1, h2, h3]
      exact (ext_cok w n v hm h1 h2 h3 W hv).mono fun e W' k => ⟨by rw [k.1, ok]; rfl, k.2⟩
    · exact (ext_cun w n v hm h1 h2 h3 W hv).mono (no (by simp [extOk, h3]))
  by_cases h32 : op = 32
  · subst h32
    obtain ⟨k, rfl, k0, k64, hlk, _⟩ := mayB_true hm
    obtain ⟨s', t', f1, f2, f3, f4⟩ := sext_parts k v k0 k64 hlk
    have hl := sextV_lt k v hlk k64
    by_cases h3 : (k : Int) ≤ n
    · have ok : extOk 32 n (k : Int) v = true := by simp [extOk, hm, h1, h2, h3]
      exact (ext_sok n k v hm h1 h2 h3 (64 - k) s' t' _ (by omega) k64 (by omega) f1 f2 f3 f4 hl W hv).mono fun e W' q => ⟨by rw [q.1, ok]; rfl, q.2⟩
    · exact (ext_sun n k v hm h1 h2 h3 (64 - k) s' t' _ (by omega) k64 (by omega) f1 f2 f3 f4 hl W hv).mono (no (by simp [extOk, h3]))
  · exact (ext_ooo op w n v hm h1 h2 (by simp [h31]) (by simp [h32]) (by simp [h33]) W hv).mono (no (by simp [extOk, h31, h32, h33]))

end Go.Proofs.Ytafhnkhcbfilaaa
