/- The reference's tokens of a text. -/
import Derived.Test.YtpabaabkhmjdhaaDoorV4
import Derived.Deep.AppendLies
import Derived.Laws.BytesArg
import Derived.Shelf.Bytes.SlSmallAll
import Derived.Below
namespace Go.Proofs.YtpabaabkhmjdhaaDoor
open Go.RowKit Go.Proofs.Scn Go.Flow Go.Sort
set_option linter.unusedVariables false
set_option linter.unusedSimpArgs false
set_option maxRecDepth 100000

/-- a slice of bytes that can be read -/
def Bytes (w : World) (v : Value) (s : ByteArray) : Prop :=
  (s.size = 0 ∧ ∃ p cap, v = .slice p 0 cap) ∨
  ∃ b off cap, v = .slice (some ⟨b, off, none⟩) s.size cap ∧ b < w.heap.size ∧ ∀ k (h : k < s.size), w.cell? ⟨b, off + k, none⟩ = some (.int .u8 s[k].toNat)
theorem Bytes.later {w w' : World} {v : Value} {s : ByteArray} (h : Bytes w v s) (hb : Below w.heap.size w w') : Bytes w' v s := by
  rcases h with h | ⟨b, off, cap, hv, hlt, hc⟩
  · exact .inl h
  · exact .inr ⟨b, off, cap, hv, Nat.lt_of_lt_of_le hlt hb.size, fun k hk => (hb.cell (p := ⟨b, off + k, none⟩) hlt).trans (hc k hk)⟩

theorem strOfNums_bytes (s : ByteArray) : strOfNums (s.data.toList.map fun c => (c.toNat : Int)) = s := by
  unfold strOfNums
  rw [List.map_map]
  have : ((fun n : Int => UInt8.ofNat n.toNat) ∘ fun c : UInt8 => (c.toNat : Int)) = id := by
    funext c
    simp
  rw [this, List.map_id]

theorem str_run {w : World} {v : Value} {s : ByteArray} (h : Bytes w v s) : (convert 22 9 v).run Tryd.prog w = .ok (.string s) w := by
  rcases h with ⟨h0, p, cap, rfl⟩ | ⟨b, off, cap, rfl, hlt, hc⟩
  · rw [Go.Proofs.run_convert_bytes_zero (P := Tryd.prog) w 22 5 (by kernel_rfl) (by kernel_rfl) p cap 9 (by kernel_rfl)]
    have : s = ByteArray.empty := by
      apply ByteArray.ext
      have h1 : s.data.size = 0 := h0
      exact Array.eq_empty_of_size_eq_zero h1
    rw [this]
  · rw [run_convert_bytes_arg (P := Tryd.prog) w 22 5 (by kernel_rfl) (by kernel_rfl) b off s.size cap (s.data.toList.map fun c => (c.toNat : Int)) (by simp) (fun i hi => by
      rw [hc i hi]
      have h' : i < s.data.toList.length := hi
      simp [List.getD_eq_getElem?_getD, List.getElem?_eq_getElem h']
      rfl) 9 (by kernel_rfl), strOfNums_bytes]

/-- the cells of a token -/
def cellsT (t : Tok) : List Value := [.int .i64 t.k, .string (bs t.s), .int .i64 t.w, .int .u64 t.v, .int .i64 t.p]
def cellsTs (ts : List Tok) : List Value := ts.flatMap cellsT
theorem cellsTs_length (ts : List Tok) : (cellsTs ts).length = ts.length * 5 := by
  induction ts with
  | nil => rfl
  | cons t ts ih => rw [cellsTs, List.flatMap_cons, List.length_append, show (List.flatMap cellsT ts) = cellsTs ts from rfl, ih, List.length_cons]; simp [cellsT]; omega
/-- a slice of tokens that lies in blocks from B on -/
def OwnT (B : Nat) (w : World) (v : Value) (ts : List Tok) : Prop := w.ownsRow B 32 5 v ts.length (cellsTs ts)
theorem OwnT.later {B : Nat} {w w' : World} {v : Value} {ts : List Tok} (h : OwnT B w v ts) (hb : Below w.heap.size w w') : OwnT B w' v ts := by
  refine ⟨h.1, ?_⟩
  rcases h.2 with h0 | ⟨g, cap, cur, hv, hB, hg, h1⟩
  · exact .inl h0
  · exact .inr ⟨g, cap, cur, hv, hB, (hb.block g (Array.getElem?_eq_some_iff.1 hg).1).trans hg, h1⟩
theorem OwnT.nil (B : Nat) (w : World) : OwnT B w (.slice none 0 0) [] := World.ownsRow_nil w B _ 5
theorem OwnT.base {B : Nat} {w : World} {v : Value} {ts : List Tok} (h : OwnT B w v ts) : ∀ k, v.ownBlock = some k → B ≤ k := by
  intro k hk
  rcases h.2 with ⟨rfl, _⟩ | ⟨g, cap, cur, rfl, hB, hg, h1⟩
  · cases hk
  · simp [Value.ownBlock] at hk; omega

/-- what Scan gives -/
def ScanPost (W : World) (r : Except (Nat × Int) (List Tok)) (e : Ending) (W' : World) : Prop :=
  (match r with
    | .ok ts => ∃ v, e = .returned (.tuple #[v, .int .i64 0, .int .i64 0]) ∧ OwnT W.heap.size W' v ts
    | .error (k, er) => e = .returned (.tuple #[.slice none 0 0, .int .i64 (k : Nat), .int .i64 er])) ∧ Below W.heap.size W W'

theorem noteN_le (l : List UInt8) : noteN l ≤ l.length := by
  unfold noteN
  split
  · rename_i r
    have := headN_le (· != 10) r
    simp; omega
  · omega
theorem scanW_noteN (i : Nat) {l : List UInt8} (h : 0 < noteN l) : scanW i l = scanW (i + noteN l) (l.drop (noteN l)) := by
  unfold noteN at h ⊢
  split
  · rename_i r
    rw [scanW_note i (r := 47 :: r) rfl, List.takeWhile_cons, List.dropWhile_cons]
    simp only [show ((47 : UInt8) != 10) = true from rfl, if_true, List.length_cons]
    rw [show i + 1 + ((r.takeWhile (· != 10)).length + 1) = i + (2 + headN (· != 10) r) from by unfold headN; omega]
    rw [show (47 :: 47 :: r).drop (2 + headN (· != 10) r) = r.drop (headN (· != 10) r) from by rw [Nat.add_comm]; rfl, drop_headN]
  · rename_i hno
    simp at h
theorem noteN_zero {c : UInt8} {r : List UInt8} (h : noteN (c :: r) = 0) : ¬ (c = 47 ∧ r.head? = some 47) := by
  rintro ⟨rfl, hr⟩
  cases r with
  | nil => simp at hr
  | cons d r =>
    simp at hr
    subst hr
    simp [noteN] at h

/-- so far, and what comes -/
def ahead (ts : List Tok) : Except (Nat × Int) (List Tok) → Except (Nat × Int) (List Tok)
  | .ok us => .ok (ts ++ us)
  | .error e => .error e
theorem ahead_nil (r : Except (Nat × Int) (List Tok)) : ahead [] r = r := by cases r <;> rfl
theorem ahead_ahead (a b : List Tok) (r : Except (Nat × Int) (List Tok)) : ahead a (ahead b r) = ahead (a ++ b) r := by cases r <;> simp [ahead]
theorem scanW_step (i : Nat) {c : UInt8} {r : List UInt8} {t : Tok} {n : Nat} (h1 : isBlank c = false) (h2 : ¬ (c = 47 ∧ r.head? = some 47)) (h : tokL (c :: r) = .tok t n) :
    scanW i (c :: r) = ahead [{ t with p := i }] (scanW (i + n) ((c :: r).drop n)) := by
  rw [scanW_tok i h1 h2 h]
  obtain ⟨m, rfl⟩ : ∃ m, n = m + 1 := ⟨n - 1, by have := (tok_is h).pos; omega⟩
  rw [show (c :: r).drop (m + 1) = r.drop m from rfl, Nat.add_sub_cancel]
  cases scanW (i + (m + 1)) (r.drop m) <;> rfl

theorem wideL_err {d r : List UInt8} {e : Int} (h : wideL d r = .bad e) : e ≠ 0 := by
  unfold wideL at h
  split at h
  · cases h; decide
  · split at h
    · cases h; decide
    · split at h
      · cases h; decide
      · split at h
        · cases h
        · cases h; decide
theorem plainL_err {d : List UInt8} {e : Int} (h : plainL d = .bad e) : e ≠ 0 := by
  unfold plainL at h
  split at h
  · cases h
  · cases h; decide
theorem figL_err {l : List UInt8} {e : Int} (h : figL l = .bad e) : e ≠ 0 := by
  unfold figL at h
  split at h
  · exact plainL_err h
  · split at h
    · exact wideL_err h
    · split at h
      · cases h; decide
      · exact plainL_err h
theorem tok_err {l : List UInt8} {e : Int} (h : tokL l = .bad e) : e ≠ 0 := by
  unfold tokL at h
  split at h
  · cases h; decide
  · split at h
    · split at h
      · cases h; decide
      · cases h
    · split at h
      · exact figL_err h
      · split at h
        · cases h
        · split at h
          · cases h
          · cases h; decide

end Go.Proofs.YtpabaabkhmjdhaaDoor
