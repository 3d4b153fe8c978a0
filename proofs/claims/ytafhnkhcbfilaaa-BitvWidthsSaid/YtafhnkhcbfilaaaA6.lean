/- The table of operations of two, whatever the order in which it is laid: bitv.pairs. -/
import Derived.Test.YtafhnkhcbfilaaaA5
namespace Go.Proofs.Ytafhnkhcbfilaaa
open Go.RowKit Go.Flow
set_option linter.unusedVariables false
set_option linter.unusedSimpArgs false

/-- the operations of a region, by its number -/
def regionOps (n : Nat) : Code → Option (Array Oper)
  | .region id ops _ => if id = n then some ops else none
  | .seq a b => (regionOps n a).or (regionOps n b)
  | .cond _ a b => (regionOps n a).or (regionOps n b)
  | .block _ c => regionOps n c
  | .loop c => regionOps n c
  | _ => none

noncomputable def pops : Array Oper := ((Try.f40.body).bind (regionOps 2)).getD #[]

theorem pops_size : pops.size = 33 := by kernel_rfl

abbrev ptr (b : Nat) : Value := .pointer (some ⟨b, 0, none⟩)
abbrev FB (f : FuncId) (b : Nat) : Value := .func (.func f) #[] #[.pointer (some ⟨b, 0, none⟩)]

/-- which key the insertion number i lays -/
def keyAt : Nat → Option Int
  | 1 => some 11
  | 2 => some 12
  | 3 => some 13
  | 4 => some 14
  | 5 => some 15
  | 6 => some 16
  | 8 => some 19
  | 10 => some 20
  | 13 => some 21
  | 16 => some 22
  | 19 => some 23
  | 22 => some 24
  | 23 => some 25
  | 24 => some 26
  | _ => none

theorem keyAt_lt {i : Nat} {n : Int} (h : keyAt i = some n) : i < 33 := by
  unfold keyAt at h
  split at h <;> first | omega | cases h

theorem keyAt_inj {i j : Nat} {n : Int} (hi : keyAt i = some n) (hj : keyAt j = some n) : i = j := by
  have h : ∀ i : Fin 33, ∀ j : Fin 33, keyAt i.1 = keyAt j.1 → keyAt i.1 ≠ none → i = j := by decide +kernel
  have := h ⟨i, keyAt_lt hi⟩ ⟨j, keyAt_lt hj⟩ (by simp [hi, hj]) (by simp [hi])
  simpa using this

/-- what the insertion number i lays: a function, or one that compared has made of a function -/
def psiTab (b : Nat) : Nat → Option (Bool × Value)
  | 1 => some (false, F 45)
  | 2 => some (false, F 46)
  | 3 => some (false, F 47)
  | 4 => some (false, F 48)
  | 5 => some (false, F 49)
  | 6 => some (false, F 50)
  | 8 => some (true, (F 52))
  | 10 => some (true, (F 53))
  | 13 => some (true, (F 44))
  | 16 => some (true, (FB 54 b))
  | 19 => some (true, (FB 55 b))
  | 22 => some (true, (FB 56 b))
  | 23 => some (false, F 57)
  | 24 => some (false, F 58)
  | _ => none

def IsA (p : Option (Bool × Value)) (v : Value) (w : World) : Prop :=
  match p with
  | some (false, g) => v = g
  | some (true, g) => Cmp w v g
  | none => False

theorem IsA.cells {p : Option (Bool × Value)} {v : Value} {w w' : World} (h : IsA p v w) (hc : Cells w w') : IsA p v w' := by
  match p, h with
  | some (false, g), h => exact h
  | some (true, g), h => exact Cmp.cells h hc

def Psi (b i : Nat) (v : Value) (w : World) : Prop := IsA (psiTab b i) v w

theorem Psi.cells {b i : Nat} {v : Value} {w w' : World} (h : Psi b i v w) (hc : Cells w w') : Psi b i v w' := IsA.cells h hc

def Same (L L' : Array Bool) : Prop := ∀ k n, keyAt k = some n → L'.getD k false = L.getD k false
def Keep (w w' : World) : Prop := Cells w w' ∧ ∀ (m : Nat) (es : Array MapEntry) (ck : Nat), w.heap[m]? = some (.map es ck) → w'.heap[m]? = some (.map es ck)

theorem Keep.refl (w : World) : Keep w w := ⟨Cells.refl w, fun _ _ _ h => h⟩
theorem Keep.below {w w' : World} (h : Below w.heap.size w w') : Keep w w' :=
  ⟨Cells.below h, fun m es ck hm => (h.block m (Array.getElem?_eq_some_iff.1 hm).1).trans hm⟩

/-- the map, so far -/
def MapOk (B b : Nat) (L : Array Bool) (v : Value) (w : World) : Prop :=
  ∃ (m : Nat) (es : Array MapEntry) (ck : Nat), v = .map (some m) ∧ B ≤ m ∧ w.heap[m]? = some (.map es ck) ∧
    (∀ x ∈ es.toList, ∃ i n, keyAt i = some n ∧ x.key = .int .i64 n ∧ L.getD i false = true ∧ Psi b i x.val w) ∧
    (∀ i n, keyAt i = some n → L.getD i false = true → ∃ x ∈ es.toList, x.key = .int .i64 n)

theorem MapOk.keep {B b : Nat} {L L' : Array Bool} {v : Value} {w w' : World} (h : MapOk B b L v w) (hk : Keep w w') (hs : Same L L') : MapOk B b L' v w' := by
  obtain ⟨m, es, ck, hv, hB, hm, h1, h2⟩ := h
  refine ⟨m, es, ck, hv, hB, hk.2 _ _ _ hm, fun x hx => ?_, fun i n hi hL => h2 i n hi (by rw [← hs i n hi]; exact hL)⟩
  obtain ⟨i, n, hi, hx, hL, hp⟩ := h1 x hx
  exact ⟨i, n, hi, hx, by rw [hs i n hi]; exact hL, hp.cells hk.1⟩

/-- is there such an operation in the table? -/
def isKey (op : Int) : Bool := (List.range 33).any fun i => keyAt i == some op

theorem isKey_iff (op : Int) : isKey op = true ↔ ∃ i, keyAt i = some op := by
  unfold isKey
  rw [List.any_eq_true]
  constructor
  · rintro ⟨i, _, h⟩
    exact ⟨i, by simpa using h⟩
  · rintro ⟨i, h⟩
    exact ⟨i, List.mem_range.2 (keyAt_lt h), by simp [h]⟩

/-- the function that an operation is looked up to be -/
def Res (b : Nat) (op : Int) (v : Value) (w : World) : Prop := ∀ i, keyAt i = some op → Psi b i v w

theorem Res.cells {b : Nat} {op : Int} {v : Value} {w w' : World} (h : Res b op v w) (hc : Cells w w') : Res b op v w' := fun i hi => (h i hi).cells hc

/-- of which kind each operation's value is -/
inductive Kind where
  | map | is (p : Bool × Value) | op | pair | res | yes | any

def kind (b : Nat) : Nat → Kind
  | 0 => .map
  | 7 => .is (true, F 52)
  | 9 => .is (true, F 53)
  | 11 => .is (false, F 44)
  | 12 => .is (true, F 44)
  | 14 => .is (false, FB 54 b)
  | 15 => .is (true, FB 54 b)
  | 17 => .is (false, FB 55 b)
  | 18 => .is (true, FB 55 b)
  | 20 => .is (false, FB 56 b)
  | 21 => .is (true, FB 56 b)
  | 25 => .map
  | 26 => .op
  | 27 => .pair
  | 28 => .pair
  | 29 => .res
  | 30 => .yes
  | 31 => .res
  | 32 => .yes
  | _ => .any

def OfKind (B b : Nat) (op : Int) (L : Array Bool) (k : Kind) (v : Value) (w : World) : Prop :=
  match k with
  | .map => MapOk B b L v w
  | .is p => IsA (some p) v w
  | .op => v = .int .i64 op
  | .pair => ∃ f, v = .tuple #[f, .bool (isKey op)] ∧ Res b op f w
  | .res => Res b op v w
  | .yes => v = .bool (isKey op)
  | .any => True

/-- what is known of each operation's value -/
def phi (B b : Nat) (op : Int) (L : Array Bool) (j : Nat) (v : Value) (w : World) : Prop := OfKind B b op L (kind b j) v w

theorem OfKind.keep {B b : Nat} {op : Int} {L L' : Array Bool} {k : Kind} {v : Value} {w w' : World} (hc : Cells w w') (hm : k = .map → Keep w w' ∧ Same L L') (h : OfKind B b op L k v w) : OfKind B b op L' k v w' := by
  match k, hm, h with
  | .map, hm, h => exact MapOk.keep h (hm rfl).1 (hm rfl).2
  | .is p, _, h => exact IsA.cells h hc
  | .op, _, h => exact h
  | .pair, _, ⟨f, h1, h2⟩ => exact ⟨f, h1, h2.cells hc⟩
  | .res, _, h => exact Res.cells h hc
  | .yes, _, h => exact h
  | .any, _, _ => trivial

theorem phi_keep {B b : Nat} {op : Int} {L L' : Array Bool} {j : Nat} {v : Value} {w w' : World} (hk : Keep w w') (hs : Same L L') (h : phi B b op L j v w) : phi B b op L' j v w' :=
  OfKind.keep hk.1 (fun _ => ⟨hk, hs⟩) h

theorem kind_map {b j : Nat} (h : kind b j = .map) : j = 0 ∨ j = 25 := by
  revert h
  unfold kind
  split <;> intro h <;> first | exact Or.inl rfl | exact Or.inr rfl | cases h

theorem phi_cells {B b : Nat} {op : Int} {L L' : Array Bool} {j : Nat} {v : Value} {w w' : World} (hc : Cells w w') (h0 : j ≠ 0) (h25 : j ≠ 25) (h : phi B b op L j v w) : phi B b op L' j v w' :=
  OfKind.keep hc (fun e => by rcases kind_map e with e | e; exact absurd e h0; exact absurd e h25) h

/-- what is known of the world -/
def RW (W : World) (b : Nat) (L : Array Bool) (w : World) : Prop :=
  Below W.heap.size W w ∧ w.cell? ⟨b, 0, none⟩ = some (F 44) ∧ (L.getD 25 false = true → ∀ i n, keyAt i = some n → L.getD i false = true) ∧ (∀ i n, keyAt i = some n → L.getD i false = true → L.getD 0 false = true)

theorem keep_true {L : Array Bool} {i k : Nat} (h : L.getD k false = true) : (L.setIfInBounds i true).getD k false = true := by
  by_cases e : k = i
  · subst e
    have hlt : k < L.size := by
      rcases Nat.lt_or_ge k L.size with hh | hh
      · exact hh
      · simp [Array.getD_eq_getD_getElem?, Array.getElem?_eq_none hh] at h
    exact Flow.getD_set_self _ _ _ _ hlt
  · rw [Flow.getD_set_ne _ _ _ _ _ e]; exact h

theorem RW.on {W : World} {b : Nat} {L : Array Bool} {w w' : World} (h : RW W b L w) (hb : Below w.heap.size w w') (i : Nat) (hi : i ≠ 25) (hk0 : keyAt i = none) : RW W b (L.setIfInBounds i true) w' := by
  obtain ⟨h1, h2, h3, h4⟩ := h
  refine ⟨h1.trans (hb.mono h1.size), Cells.below hb _ _ h2, fun h k n hk => ?_, fun k n hk h => ?_⟩
  · rw [Flow.getD_set_ne _ _ _ _ _ (Ne.symm hi)] at h
    exact keep_true (h3 h k n hk)
  · rcases set_true h with e | e
    · subst e
      rw [hk0] at hk
      cases hk
    · exact keep_true (h4 k n hk e)

theorem same_set (L : Array Bool) (i : Nat) (hi : keyAt i = none) : Same L (L.setIfInBounds i true) := fun k n hk => by
  refine Flow.getD_set_ne _ _ _ _ _ (fun e => ?_)
  subst e
  rw [hi] at hk
  cases hk

section
variable {Q : Exit → Act → World → Prop} {W : World} {b : Nat} {op : Int} {a0 : Act}

/-- an operation that yields a value in the world that it got -/
theorem step_pure {L : Array Bool} {a : Act} {w : World} {i : Nat} {o : Oper} {v : Value} (ho : pops[i]? = some o) (hg : o.guard = none) (hi : i ≠ 25) (hk : keyAt i = none)
    (hR : RW W b L w) (hr : (execOp a.eval o).run Try.prog w = .ok (.value v) w) (hv : phi W.heap.size b op (L.setIfInBounds i true) i v w) :
    wpOp Try.prog pops Q i (fun a' w' => ∃ v, a' = a.put o.dst v ∧ phi W.heap.size b op (L.setIfInBounds i true) i v w' ∧ RW W b (L.setIfInBounds i true) w' ∧
        ∀ j d, j ≠ i → dst pops j = some d → L.getD j false = true → phi W.heap.size b op L j (a.tmps.getD d undef) w → phi W.heap.size b op (L.setIfInBounds i true) j (a.tmps.getD d undef) w') a w :=
  wpOp_of ho hg (wp_value hr ⟨v, rfl, hv, hR.on (Below.refl _ _) i hi hk, fun j d _ _ _ h => phi_keep (Keep.refl _) (same_set L i hk) h⟩)

/-- a call of compared -/
theorem step_cmp {L : Array Bool} {a : Act} {w : World} {i : Nat} {o : Oper} {g : FuncId} {cap : Array Value} (ho : pops[i]? = some o) (hg : o.guard = none) (hi : i ≠ 25) (hk : keyAt i = none)
    (hR : RW W b L w) (hr : (execOp a.eval o).run Try.prog w = .ok (.enter 51 #[.func (.func g) #[] cap]) w)
    (hv : ∀ v w', Cmp w' v (.func (.func g) #[] cap) → phi W.heap.size b op (L.setIfInBounds i true) i v w') :
    wpOp Try.prog pops Q i (fun a' w' => ∃ v, a' = a.put o.dst v ∧ phi W.heap.size b op (L.setIfInBounds i true) i v w' ∧ RW W b (L.setIfInBounds i true) w' ∧
        ∀ j d, j ≠ i → dst pops j = some d → L.getD j false = true → phi W.heap.size b op L j (a.tmps.getD d undef) w → phi W.heap.size b op (L.setIfInBounds i true) j (a.tmps.getD d undef) w') a w := by
  refine wpOp_of ho hg (wp_enter hr ((compared_any g cap w).mono fun e w' h => ?_))
  obtain ⟨⟨v, he, hc⟩, hb⟩ := h
  exact ⟨v, he, v, rfl, hv v w' hc, hR.on hb i hi hk, fun j d _ _ _ h => phi_keep (Keep.below hb) (same_set L i hk) h⟩

/-- an insertion -/
theorem step_ins {L : Array Bool} {a : Act} {w : World} {i : Nat} {o : Oper} {n : Int} {v : Value} (ho : pops[i]? = some o) (hg : o.guard = none) (hd : o.dst = none) (hL : L.size = 33)
    (hk : keyAt i = some n) (hf : L.getD i true = false) (hL0 : L.getD 0 false = true) (hR : RW W b L w) (hm : MapOk W.heap.size b L (a.tmps.getD 7 undef) w) (hp : Psi b i v w)
    (hr : ∀ m, a.tmps.getD 7 undef = .map (some m) → ∀ w', (Instr.mapUpdate 66 (.map (some m)) (.int .i64 n) v).run Try.prog w = .ok () w' → (execOp a.eval o).run Try.prog w = .ok .skip w') :
    wpOp Try.prog pops Q i (fun a' w' => ∃ v, a' = a.put o.dst v ∧ phi W.heap.size b op (L.setIfInBounds i true) i v w' ∧ RW W b (L.setIfInBounds i true) w' ∧
        ∀ j d, j ≠ i → dst pops j = some d → L.getD j false = true → phi W.heap.size b op L j (a.tmps.getD d undef) w → phi W.heap.size b op (L.setIfInBounds i true) j (a.tmps.getD d undef) w') a w := by
  obtain ⟨m, es, ck, hv7, hB, hmm, h1, h2⟩ := hm
  have hne : ∀ x ∈ es.toList, x.key ≠ .int .i64 n := fun x hx e => by
    obtain ⟨i', n', hi', hx', hL', _⟩ := h1 x hx
    rw [hx'] at e
    obtain rfl : n' = n := by simpa using e
    obtain rfl := keyAt_inj hi' hk
    rw [getD_true hL'] at hf
    cases hf
  have hrun := run_insert_new (P := Try.prog) (w := w) (val := v) Try.underlying66 Try.underlying3 (key := .int .i64 n) rfl (fun x hx => by obtain ⟨i', n', _, hx', _⟩ := h1 x hx; rw [hx']; rfl) hmm hne
  have hc := Cells.setMap hmm (es.push { key := .int .i64 n, val := v, born := ck }) (ck + 1)
  have hi33 : i < L.size := by rw [hL]; exact keyAt_lt hk
  have hself : (L.setIfInBounds i true).getD i false = true := Flow.getD_set_self _ _ _ _ hi33
  have hno25 : L.getD 25 false = true → False := fun h => by
    have := hR.2.2.1 h i n hk
    rw [getD_true this] at hf
    cases hf
  refine wpOp_of ho hg (wp_skip' (hr m hv7 _ hrun) ⟨undef, rfl, ?_, ⟨below_setMap hR.1 hB _ _, hc _ _ hR.2.1, fun h => ?_, fun _ _ _ _ => keep_true hL0⟩, fun j d hji hdj hLj h => ?_⟩)
  · revert hk
    unfold keyAt
    split <;> intro hk <;> first | trivial | cases hk
  · rcases set_true h with e | e
    · exfalso
      subst e
      cases hk
    · exact (hno25 e).elim
  · by_cases j0 : j = 0
    · subst j0
      have hd7 : dst pops 0 = some 7 := by kernel_rfl
      rw [hd7] at hdj
      cases hdj
      rw [hv7] at h ⊢
      refine ⟨m, _, _, rfl, hB, setMap_at hmm _ _, fun x hx => ?_, fun k n' hk' hLk => ?_⟩
      · simp only [Array.toList_push, List.mem_append, List.mem_singleton] at hx
        rcases hx with hx | rfl
        · obtain ⟨i', n', hi', hx', hL', hp'⟩ := h1 x hx
          refine ⟨i', n', hi', hx', ?_, hp'.cells hc⟩
          by_cases e : i' = i
          · rw [e]; exact hself
          · rw [Flow.getD_set_ne _ _ _ _ _ e]; exact hL'
        · exact ⟨i, n, hk, rfl, hself, hp.cells hc⟩
      · simp only [Array.toList_push, List.mem_append, List.mem_singleton]
        rcases set_true hLk with e | e
        · subst e
          rw [hk] at hk'
          cases hk'
          exact ⟨_, Or.inr rfl, rfl⟩
        · obtain ⟨x, hx, hxk⟩ := h2 k n' hk' e
          exact ⟨x, Or.inl hx, hxk⟩
    · by_cases j25 : j = 25
      · subst j25
        exact (hno25 hLj).elim
      · exact phi_cells hc j0 j25 h
end

theorem zero59 (w : World) : (zeroValue 59).run Try.prog w = .ok .nilFunc w := by kernel_rfl

theorem pop0 : ∃ p, pops[0]? = some { dst := some 7, op := Op.makeMap 66 none, type := 66, pos := p, after := #[], guard := none } := ⟨_, rfl⟩
theorem pop1 : ∃ p, pops[1]? = some { dst := none, op := Op.insert 66 (Operand.tmp 7) (Operand.const (Value.int IntKind.i64 11)) (Operand.func 45), type := 0, pos := p, after := #[{ on := 0, ground := Ground.data }], guard := none } := ⟨_, rfl⟩
theorem pop2 : ∃ p, pops[2]? = some { dst := none, op := Op.insert 66 (Operand.tmp 7) (Operand.const (Value.int IntKind.i64 12)) (Operand.func 46), type := 0, pos := p, after := #[{ on := 0, ground := Ground.data }], guard := none } := ⟨_, rfl⟩
theorem pop3 : ∃ p, pops[3]? = some { dst := none, op := Op.insert 66 (Operand.tmp 7) (Operand.const (Value.int IntKind.i64 13)) (Operand.func 47), type := 0, pos := p, after := #[{ on := 0, ground := Ground.data }], guard := none } := ⟨_, rfl⟩
theorem pop4 : ∃ p, pops[4]? = some { dst := none, op := Op.insert 66 (Operand.tmp 7) (Operand.const (Value.int IntKind.i64 14)) (Operand.func 48), type := 0, pos := p, after := #[{ on := 0, ground := Ground.data }], guard := none } := ⟨_, rfl⟩
theorem pop5 : ∃ p, pops[5]? = some { dst := none, op := Op.insert 66 (Operand.tmp 7) (Operand.const (Value.int IntKind.i64 15)) (Operand.func 49), type := 0, pos := p, after := #[{ on := 0, ground := Ground.data }], guard := none } := ⟨_, rfl⟩
theorem pop6 : ∃ p, pops[6]? = some { dst := none, op := Op.insert 66 (Operand.tmp 7) (Operand.const (Value.int IntKind.i64 16)) (Operand.func 50), type := 0, pos := p, after := #[{ on := 0, ground := Ground.data }], guard := none } := ⟨_, rfl⟩
theorem pop7 : ∃ p, pops[7]? = some { dst := some 8, op := Op.call { callee := Callee.value (Operand.func 51), args := #[Operand.func 52], argTypes := #[63] }, type := 59, pos := p, after := #[], guard := none } := ⟨_, rfl⟩
theorem pop8 : ∃ p, pops[8]? = some { dst := none, op := Op.insert 66 (Operand.tmp 7) (Operand.const (Value.int IntKind.i64 19)) (Operand.tmp 8), type := 0, pos := p, after := #[{ on := 0, ground := Ground.data }, { on := 7, ground := Ground.data }], guard := none } := ⟨_, rfl⟩
theorem pop9 : ∃ p, pops[9]? = some { dst := some 9, op := Op.call { callee := Callee.value (Operand.func 51), args := #[Operand.func 53], argTypes := #[63] }, type := 59, pos := p, after := #[{ on := 7, ground := Ground.chain }], guard := none } := ⟨_, rfl⟩
theorem pop10 : ∃ p, pops[10]? = some { dst := none, op := Op.insert 66 (Operand.tmp 7) (Operand.const (Value.int IntKind.i64 20)) (Operand.tmp 9), type := 0, pos := p, after := #[{ on := 0, ground := Ground.data }, { on := 9, ground := Ground.data }], guard := none } := ⟨_, rfl⟩
theorem pop11 : ∃ p, pops[11]? = some { dst := some 10, op := Op.load 63 (Operand.tmp 5), type := 63, pos := p, after := #[], guard := none } := ⟨_, rfl⟩
theorem pop12 : ∃ p, pops[12]? = some { dst := some 11, op := Op.call { callee := Callee.value (Operand.func 51), args := #[Operand.tmp 10], argTypes := #[63] }, type := 59, pos := p, after := #[{ on := 11, ground := Ground.data }, { on := 9, ground := Ground.chain }], guard := none } := ⟨_, rfl⟩
theorem pop13 : ∃ p, pops[13]? = some { dst := none, op := Op.insert 66 (Operand.tmp 7) (Operand.const (Value.int IntKind.i64 21)) (Operand.tmp 11), type := 0, pos := p, after := #[{ on := 0, ground := Ground.data }, { on := 12, ground := Ground.data }], guard := none } := ⟨_, rfl⟩
theorem pop14 : ∃ p, pops[14]? = some { dst := some 12, op := Op.makeFunc (Fn.func 54) #[] #[Operand.tmp 5], type := 63, pos := p, after := #[], guard := none } := ⟨_, rfl⟩
theorem pop15 : ∃ p, pops[15]? = some { dst := some 13, op := Op.call { callee := Callee.value (Operand.func 51), args := #[Operand.tmp 12], argTypes := #[63] }, type := 59, pos := p, after := #[{ on := 14, ground := Ground.data }, { on := 12, ground := Ground.chain }], guard := none } := ⟨_, rfl⟩
theorem pop16 : ∃ p, pops[16]? = some { dst := none, op := Op.insert 66 (Operand.tmp 7) (Operand.const (Value.int IntKind.i64 22)) (Operand.tmp 13), type := 0, pos := p, after := #[{ on := 0, ground := Ground.data }, { on := 15, ground := Ground.data }], guard := none } := ⟨_, rfl⟩
theorem pop17 : ∃ p, pops[17]? = some { dst := some 14, op := Op.makeFunc (Fn.func 55) #[] #[Operand.tmp 5], type := 63, pos := p, after := #[], guard := none } := ⟨_, rfl⟩
theorem pop18 : ∃ p, pops[18]? = some { dst := some 15, op := Op.call { callee := Callee.value (Operand.func 51), args := #[Operand.tmp 14], argTypes := #[63] }, type := 59, pos := p, after := #[{ on := 17, ground := Ground.data }, { on := 15, ground := Ground.chain }], guard := none } := ⟨_, rfl⟩
theorem pop19 : ∃ p, pops[19]? = some { dst := none, op := Op.insert 66 (Operand.tmp 7) (Operand.const (Value.int IntKind.i64 23)) (Operand.tmp 15), type := 0, pos := p, after := #[{ on := 0, ground := Ground.data }, { on := 18, ground := Ground.data }], guard := none } := ⟨_, rfl⟩
theorem pop20 : ∃ p, pops[20]? = some { dst := some 16, op := Op.makeFunc (Fn.func 56) #[] #[Operand.tmp 5], type := 63, pos := p, after := #[], guard := none } := ⟨_, rfl⟩
theorem pop21 : ∃ p, pops[21]? = some { dst := some 17, op := Op.call { callee := Callee.value (Operand.func 51), args := #[Operand.tmp 16], argTypes := #[63] }, type := 59, pos := p, after := #[{ on := 20, ground := Ground.data }, { on := 18, ground := Ground.chain }], guard := none } := ⟨_, rfl⟩
theorem pop22 : ∃ p, pops[22]? = some { dst := none, op := Op.insert 66 (Operand.tmp 7) (Operand.const (Value.int IntKind.i64 24)) (Operand.tmp 17), type := 0, pos := p, after := #[{ on := 0, ground := Ground.data }, { on := 21, ground := Ground.data }], guard := none } := ⟨_, rfl⟩
theorem pop23 : ∃ p, pops[23]? = some { dst := none, op := Op.insert 66 (Operand.tmp 7) (Operand.const (Value.int IntKind.i64 25)) (Operand.func 57), type := 0, pos := p, after := #[{ on := 0, ground := Ground.data }], guard := none } := ⟨_, rfl⟩
theorem pop24 : ∃ p, pops[24]? = some { dst := none, op := Op.insert 66 (Operand.tmp 7) (Operand.const (Value.int IntKind.i64 26)) (Operand.func 58), type := 0, pos := p, after := #[{ on := 0, ground := Ground.data }], guard := none } := ⟨_, rfl⟩
theorem pop25 : ∃ p, pops[25]? = some { dst := some 18, op := Op.move (Operand.tmp 7), type := 66, pos := p, after := #[{ on := 0, ground := Ground.data }, { on := 1, ground := Ground.data }, { on := 2, ground := Ground.data }, { on := 3, ground := Ground.data }, { on := 4, ground := Ground.data }, { on := 5, ground := Ground.data }, { on := 6, ground := Ground.data }, { on := 7, ground := Ground.data }, { on := 8, ground := Ground.data }, { on := 9, ground := Ground.data }, { on := 10, ground := Ground.data }, { on := 11, ground := Ground.data }, { on := 12, ground := Ground.data }, { on := 13, ground := Ground.data }, { on := 14, ground := Ground.data }, { on := 15, ground := Ground.data }, { on := 16, ground := Ground.data }, { on := 17, ground := Ground.data }, { on := 18, ground := Ground.data }, { on := 19, ground := Ground.data }, { on := 20, ground := Ground.data }, { on := 21, ground := Ground.data }, { on := 22, ground := Ground.data }, { on := 23, ground := Ground.data }, { on := 24, ground := Ground.data }], guard := none } := ⟨_, rfl⟩
theorem pop26 : ∃ p, pops[26]? = some { dst := some 19, op := Op.move (Operand.tmp 0), type := 3, pos := p, after := #[], guard := none } := ⟨_, rfl⟩
theorem pop27 : ∃ p, pops[27]? = some { dst := some 20, op := Op.lookup 66 (Operand.tmp 18) (Operand.tmp 19) true, type := 64, pos := p, after := #[{ on := 25, ground := Ground.data }, { on := 26, ground := Ground.data }], guard := none } := ⟨_, rfl⟩
theorem pop28 : ∃ p, pops[28]? = some { dst := some 6, op := Op.move (Operand.tmp 20), type := 64, pos := p, after := #[{ on := 27, ground := Ground.data }], guard := none } := ⟨_, rfl⟩
theorem pop29 : ∃ p, pops[29]? = some { dst := some 21, op := Op.extract (Operand.tmp 6) 0, type := 59, pos := p, after := #[{ on := 28, ground := Ground.data }], guard := none } := ⟨_, rfl⟩
theorem pop30 : ∃ p, pops[30]? = some { dst := some 22, op := Op.extract (Operand.tmp 6) 1, type := 4, pos := p, after := #[{ on := 28, ground := Ground.data }, { on := 31, ground := Ground.gcOnly Departure.lateStores }], guard := none } := ⟨_, rfl⟩
theorem pop31 : ∃ p, pops[31]? = some { dst := some 2, op := Op.assign (Operand.tmp 21), type := 59, pos := p, after := #[{ on := 29, ground := Ground.data }, { on := 21, ground := Ground.chain }, { on := 0, ground := Ground.phase }, { on := 1, ground := Ground.phase }, { on := 2, ground := Ground.phase }, { on := 3, ground := Ground.phase }, { on := 4, ground := Ground.phase }, { on := 5, ground := Ground.phase }, { on := 6, ground := Ground.phase }, { on := 7, ground := Ground.phase }, { on := 8, ground := Ground.phase }, { on := 9, ground := Ground.phase }, { on := 10, ground := Ground.phase }, { on := 11, ground := Ground.phase }, { on := 12, ground := Ground.phase }, { on := 13, ground := Ground.phase }, { on := 14, ground := Ground.phase }, { on := 15, ground := Ground.phase }, { on := 16, ground := Ground.phase }, { on := 17, ground := Ground.phase }, { on := 18, ground := Ground.phase }, { on := 19, ground := Ground.phase }, { on := 20, ground := Ground.phase }, { on := 21, ground := Ground.phase }, { on := 22, ground := Ground.phase }, { on := 23, ground := Ground.phase }, { on := 24, ground := Ground.phase }, { on := 25, ground := Ground.phase }, { on := 26, ground := Ground.phase }, { on := 27, ground := Ground.phase }, { on := 28, ground := Ground.phase }, { on := 29, ground := Ground.phase }, { on := 30, ground := Ground.textOnly Departure.lateStores }], guard := none } := ⟨_, rfl⟩
theorem pop32 : ∃ p, pops[32]? = some { dst := some 4, op := Op.assign (Operand.tmp 22), type := 4, pos := p, after := #[{ on := 30, ground := Ground.data }, { on := 31, ground := Ground.chain }, { on := 0, ground := Ground.phase }, { on := 1, ground := Ground.phase }, { on := 2, ground := Ground.phase }, { on := 3, ground := Ground.phase }, { on := 4, ground := Ground.phase }, { on := 5, ground := Ground.phase }, { on := 6, ground := Ground.phase }, { on := 7, ground := Ground.phase }, { on := 8, ground := Ground.phase }, { on := 9, ground := Ground.phase }, { on := 10, ground := Ground.phase }, { on := 11, ground := Ground.phase }, { on := 12, ground := Ground.phase }, { on := 13, ground := Ground.phase }, { on := 14, ground := Ground.phase }, { on := 15, ground := Ground.phase }, { on := 16, ground := Ground.phase }, { on := 17, ground := Ground.phase }, { on := 18, ground := Ground.phase }, { on := 19, ground := Ground.phase }, { on := 20, ground := Ground.phase }, { on := 21, ground := Ground.phase }, { on := 22, ground := Ground.phase }, { on := 23, ground := Ground.phase }, { on := 24, ground := Ground.phase }, { on := 25, ground := Ground.phase }, { on := 26, ground := Ground.phase }, { on := 27, ground := Ground.phase }, { on := 28, ground := Ground.phase }, { on := 29, ground := Ground.phase }, { on := 30, ground := Ground.phase }, { on := 31, ground := Ground.phase }], guard := none } := ⟨_, rfl⟩

set_option maxHeartbeats 4000000 in
theorem pairs_step {Q : Exit → Act → World → Prop} {W : World} {b : Nat} {op : Int} {a0 : Act} (h00 : a0.tmps.getD 0 undef = .int .i64 op) (h05 : a0.tmps.getD 5 undef = ptr b)
    (L : Array Bool) (a : Act) (w : World) (hsz : L.size = pops.size) (hI : Inv pops a0 (RW W b) (phi W.heap.size b op) L a w) (i : Nat) (o : Oper) (ho : pops[i]? = some o) (hf : L.getD i true = false)
    (hpre : ∀ e ∈ o.after.toList, Region.binds .any e = true → L.getD e.on false = true) :
    wpOp Try.prog pops Q i (fun a' w' => ∃ v, a' = a.put o.dst v ∧ phi W.heap.size b op (L.setIfInBounds i true) i v w' ∧ RW W b (L.setIfInBounds i true) w' ∧
        ∀ j d, j ≠ i → dst pops j = some d → L.getD j false = true → phi W.heap.size b op L j (a.tmps.getD d undef) w → phi W.heap.size b op (L.setIfInBounds i true) j (a.tmps.getD d undef) w') a w := by
  have hR := hI.world
  have hs33 : L.size = 33 := hsz.trans pops_size
  have hv := hI.vals
  rw [pops_size] at hv
  have h5 : a.tmps.getD 5 undef = ptr b := (hI.same 5 (by intro j hj; rw [pops_size] at hj; exact (by decide +kernel : ∀ j : Fin 33, dst pops j.1 ≠ some 5) ⟨j, hj⟩)).trans h05
  have h0 : a.tmps.getD 0 undef = .int .i64 op := (hI.same 0 (by intro j hj; rw [pops_size] at hj; exact (by decide +kernel : ∀ j : Fin 33, dst pops j.1 ≠ some 0) ⟨j, hj⟩)).trans h00
  match i, ho with
  | 0, ho =>
    obtain ⟨p, hp⟩ := pop0
    rw [hp] at ho
    cases ho
    refine wpOp_of hp rfl (wp_value (v := .map (some w.heap.size)) (w' := w.alloc (.map #[] 0)) (by simp [go_sem, @run_makeMap Try.prog]) ⟨_, rfl, ⟨w.heap.size, #[], 0, rfl, hR.1.size, (MapKept.heap_alloc w _).1, by simp, fun i n hi hL => ?_⟩, hR.on ((Below.refl _ _).alloc (Nat.le_refl _) _) 0 (by decide) rfl, fun j d _ _ _ h => phi_keep (Keep.below ((Below.refl _ _).alloc (Nat.le_refl _) _)) (same_set L 0 rfl) h⟩)
    have hne : i ≠ 0 := fun e => by subst e; cases hi
    rw [Flow.getD_set_ne _ _ _ _ _ hne] at hL
    have := hR.2.2.2 i n hi hL
    rw [getD_true this] at hf
    cases hf
  | 1, ho =>
    obtain ⟨p, hp⟩ := pop1
    rw [hp] at ho
    cases ho
    have v0 := hv 0 7 (by omega) (by kernel_rfl) (hpre ⟨0, .data⟩ (by simp) rfl)
    exact step_ins (v := F 45) hp rfl rfl hs33 rfl hf (hpre ⟨0, .data⟩ (by simp) rfl) hR v0 rfl (fun m hm w' hw => by simp [go_sem, Act.eval, gn hm, hw])
  | 2, ho =>
    obtain ⟨p, hp⟩ := pop2
    rw [hp] at ho
    cases ho
    have v0 := hv 0 7 (by omega) (by kernel_rfl) (hpre ⟨0, .data⟩ (by simp) rfl)
    exact step_ins (v := F 46) hp rfl rfl hs33 rfl hf (hpre ⟨0, .data⟩ (by simp) rfl) hR v0 rfl (fun m hm w' hw => by simp [go_sem, Act.eval, gn hm, hw])
  | 3, ho =>
    obtain ⟨p, hp⟩ := pop3
    rw [hp] at ho
    cases ho
    have v0 := hv 0 7 (by omega) (by kernel_rfl) (hpre ⟨0, .data⟩ (by simp) rfl)
    exact step_ins (v := F 47) hp rfl rfl hs33 rfl hf (hpre ⟨0, .data⟩ (by simp) rfl) hR v0 rfl (fun m hm w' hw => by simp [go_sem, Act.eval, gn hm, hw])
  | 4, ho =>
    obtain ⟨p, hp⟩ := pop4
    rw [hp] at ho
    cases ho
    have v0 := hv 0 7 (by omega) (by kernel_rfl) (hpre ⟨0, .data⟩ (by simp) rfl)
    exact step_ins (v := F 48) hp rfl rfl hs33 rfl hf (hpre ⟨0, .data⟩ (by simp) rfl) hR v0 rfl (fun m hm w' hw => by simp [go_sem, Act.eval, gn hm, hw])
  | 5, ho =>
    obtain ⟨p, hp⟩ := pop5
    rw [hp] at ho
    cases ho
    have v0 := hv 0 7 (by omega) (by kernel_rfl) (hpre ⟨0, .data⟩ (by simp) rfl)
    exact step_ins (v := F 49) hp rfl rfl hs33 rfl hf (hpre ⟨0, .data⟩ (by simp) rfl) hR v0 rfl (fun m hm w' hw => by simp [go_sem, Act.eval, gn hm, hw])
  | 6, ho =>
    obtain ⟨p, hp⟩ := pop6
    rw [hp] at ho
    cases ho
    have v0 := hv 0 7 (by omega) (by kernel_rfl) (hpre ⟨0, .data⟩ (by simp) rfl)
    exact step_ins (v := F 50) hp rfl rfl hs33 rfl hf (hpre ⟨0, .data⟩ (by simp) rfl) hR v0 rfl (fun m hm w' hw => by simp [go_sem, Act.eval, gn hm, hw])
  | 7, ho =>
    obtain ⟨p, hp⟩ := pop7
    rw [hp] at ho
    cases ho
    exact step_cmp (g := 52) (cap := #[]) hp rfl (by decide) rfl hR (by simp [go_sem, Act.eval]) (fun v w' h => h)
  | 8, ho =>
    obtain ⟨p, hp⟩ := pop8
    rw [hp] at ho
    cases ho
    have v0 := hv 0 7 (by omega) (by kernel_rfl) (hpre ⟨0, .data⟩ (by simp) rfl)
    have v7 := hv 7 8 (by omega) (by kernel_rfl) (hpre ⟨7, .data⟩ (by simp) rfl)
    obtain ⟨x, hx⟩ : ∃ x, a.tmps.getD 8 undef = x := ⟨_, rfl⟩
    rw [hx] at v7
    exact step_ins (v := x) hp rfl rfl hs33 rfl hf (hpre ⟨0, .data⟩ (by simp) rfl) hR v0 v7 (fun m hm w' hw => by simp [go_sem, Act.eval, gn hm, gn hx, hw])
  | 9, ho =>
    obtain ⟨p, hp⟩ := pop9
    rw [hp] at ho
    cases ho
    exact step_cmp (g := 53) (cap := #[]) hp rfl (by decide) rfl hR (by simp [go_sem, Act.eval]) (fun v w' h => h)
  | 10, ho =>
    obtain ⟨p, hp⟩ := pop10
    rw [hp] at ho
    cases ho
    have v0 := hv 0 7 (by omega) (by kernel_rfl) (hpre ⟨0, .data⟩ (by simp) rfl)
    have v9 := hv 9 9 (by omega) (by kernel_rfl) (hpre ⟨9, .data⟩ (by simp) rfl)
    obtain ⟨x, hx⟩ : ∃ x, a.tmps.getD 9 undef = x := ⟨_, rfl⟩
    rw [hx] at v9
    exact step_ins (v := x) hp rfl rfl hs33 rfl hf (hpre ⟨0, .data⟩ (by simp) rfl) hR v0 v9 (fun m hm w' hw => by simp [go_sem, Act.eval, gn hm, gn hx, hw])
  | 11, ho =>
    obtain ⟨p, hp⟩ := pop11
    rw [hp] at ho
    cases ho
    exact step_pure (v := F 44) hp rfl (by decide) rfl hR (by simp [go_sem, Act.eval, gn h5, hR.2.1]) rfl
  | 12, ho =>
    obtain ⟨p, hp⟩ := pop12
    rw [hp] at ho
    cases ho
    have v11 := hv 11 10 (by omega) (by kernel_rfl) (hpre ⟨11, .data⟩ (by simp) rfl)
    have e : a.tmps.getD 10 undef = F 44 := v11
    exact step_cmp hp rfl (by decide) rfl hR (by simp [go_sem, Act.eval, gn e]) (fun v w' h => h)
  | 13, ho =>
    obtain ⟨p, hp⟩ := pop13
    rw [hp] at ho
    cases ho
    have v0 := hv 0 7 (by omega) (by kernel_rfl) (hpre ⟨0, .data⟩ (by simp) rfl)
    have v12 := hv 12 11 (by omega) (by kernel_rfl) (hpre ⟨12, .data⟩ (by simp) rfl)
    obtain ⟨x, hx⟩ : ∃ x, a.tmps.getD 11 undef = x := ⟨_, rfl⟩
    rw [hx] at v12
    exact step_ins (v := x) hp rfl rfl hs33 rfl hf (hpre ⟨0, .data⟩ (by simp) rfl) hR v0 v12 (fun m hm w' hw => by simp [go_sem, Act.eval, gn hm, gn hx, hw])
  | 14, ho =>
    obtain ⟨p, hp⟩ := pop14
    rw [hp] at ho
    cases ho
    exact step_pure (v := FB 54 b) hp rfl (by decide) rfl hR (by simp [go_sem, Act.eval, gn h5]) rfl
  | 15, ho =>
    obtain ⟨p, hp⟩ := pop15
    rw [hp] at ho
    cases ho
    have v14 := hv 14 12 (by omega) (by kernel_rfl) (hpre ⟨14, .data⟩ (by simp) rfl)
    have e : a.tmps.getD 12 undef = FB 54 b := v14
    exact step_cmp hp rfl (by decide) rfl hR (by simp [go_sem, Act.eval, gn e]) (fun v w' h => h)
  | 16, ho =>
    obtain ⟨p, hp⟩ := pop16
    rw [hp] at ho
    cases ho
    have v0 := hv 0 7 (by omega) (by kernel_rfl) (hpre ⟨0, .data⟩ (by simp) rfl)
    have v15 := hv 15 13 (by omega) (by kernel_rfl) (hpre ⟨15, .data⟩ (by simp) rfl)
    obtain ⟨x, hx⟩ : ∃ x, a.tmps.getD 13 undef = x := ⟨_, rfl⟩
    rw [hx] at v15
    exact step_ins (v := x) hp rfl rfl hs33 rfl hf (hpre ⟨0, .data⟩ (by simp) rfl) hR v0 v15 (fun m hm w' hw => by simp [go_sem, Act.eval, gn hm, gn hx, hw])
  | 17, ho =>
    obtain ⟨p, hp⟩ := pop17
    rw [hp] at ho
    cases ho
    exact step_pure (v := FB 55 b) hp rfl (by decide) rfl hR (by simp [go_sem, Act.eval, gn h5]) rfl
  | 18, ho =>
    obtain ⟨p, hp⟩ := pop18
    rw [hp] at ho
    cases ho
    have v17 := hv 17 14 (by omega) (by kernel_rfl) (hpre ⟨17, .data⟩ (by simp) rfl)
    have e : a.tmps.getD 14 undef = FB 55 b := v17
    exact step_cmp hp rfl (by decide) rfl hR (by simp [go_sem, Act.eval, gn e]) (fun v w' h => h)
  | 19, ho =>
    obtain ⟨p, hp⟩ := pop19
    rw [hp] at ho
    cases ho
    have v0 := hv 0 7 (by omega) (by kernel_rfl) (hpre ⟨0, .data⟩ (by simp) rfl)
    have v18 := hv 18 15 (by omega) (by kernel_rfl) (hpre ⟨18, .data⟩ (by simp) rfl)
    obtain ⟨x, hx⟩ : ∃ x, a.tmps.getD 15 undef = x := ⟨_, rfl⟩
    rw [hx] at v18
    exact step_ins (v := x) hp rfl rfl hs33 rfl hf (hpre ⟨0, .data⟩ (by simp) rfl) hR v0 v18 (fun m hm w' hw => by simp [go_sem, Act.eval, gn hm, gn hx, hw])
  | 20, ho =>
    obtain ⟨p, hp⟩ := pop20
    rw [hp] at ho
    cases ho
    exact step_pure (v := FB 56 b) hp rfl (by decide) rfl hR (by simp [go_sem, Act.eval, gn h5]) rfl
  | 21, ho =>
    obtain ⟨p, hp⟩ := pop21
    rw [hp] at ho
    cases ho
    have v20 := hv 20 16 (by omega) (by kernel_rfl) (hpre ⟨20, .data⟩ (by simp) rfl)
    have e : a.tmps.getD 16 undef = FB 56 b := v20
    exact step_cmp hp rfl (by decide) rfl hR (by simp [go_sem, Act.eval, gn e]) (fun v w' h => h)
  | 22, ho =>
    obtain ⟨p, hp⟩ := pop22
    rw [hp] at ho
    cases ho
    have v0 := hv 0 7 (by omega) (by kernel_rfl) (hpre ⟨0, .data⟩ (by simp) rfl)
    have v21 := hv 21 17 (by omega) (by kernel_rfl) (hpre ⟨21, .data⟩ (by simp) rfl)
    obtain ⟨x, hx⟩ : ∃ x, a.tmps.getD 17 undef = x := ⟨_, rfl⟩
    rw [hx] at v21
    exact step_ins (v := x) hp rfl rfl hs33 rfl hf (hpre ⟨0, .data⟩ (by simp) rfl) hR v0 v21 (fun m hm w' hw => by simp [go_sem, Act.eval, gn hm, gn hx, hw])
  | 23, ho =>
    obtain ⟨p, hp⟩ := pop23
    rw [hp] at ho
    cases ho
    have v0 := hv 0 7 (by omega) (by kernel_rfl) (hpre ⟨0, .data⟩ (by simp) rfl)
    exact step_ins (v := F 57) hp rfl rfl hs33 rfl hf (hpre ⟨0, .data⟩ (by simp) rfl) hR v0 rfl (fun m hm w' hw => by simp [go_sem, Act.eval, gn hm, hw])
  | 24, ho =>
    obtain ⟨p, hp⟩ := pop24
    rw [hp] at ho
    cases ho
    have v0 := hv 0 7 (by omega) (by kernel_rfl) (hpre ⟨0, .data⟩ (by simp) rfl)
    exact step_ins (v := F 58) hp rfl rfl hs33 rfl hf (hpre ⟨0, .data⟩ (by simp) rfl) hR v0 rfl (fun m hm w' hw => by simp [go_sem, Act.eval, gn hm, hw])
  | 25, ho =>
    obtain ⟨p, hp⟩ := pop25
    rw [hp] at ho
    cases ho
    have v0 := hv 0 7 (by omega) (by kernel_rfl) (hpre ⟨0, .data⟩ (by simp) rfl)
    have hall : ∀ i n, keyAt i = some n → L.getD i false = true := fun i n hk => by
      revert hk
      unfold keyAt
      split <;> intro hk <;> first | (cases hk; done) | exact hpre ⟨_, .data⟩ (by simp) rfl
    refine wpOp_of hp rfl (wp_value (v := a.tmps.getD 7 undef) (by simp [go_sem, Act.eval]) ⟨_, rfl, MapOk.keep v0 (Keep.refl _) (same_set L 25 rfl), ⟨hR.1, hR.2.1, fun _ k n hk => ?_, fun k n hk h => keep_true (hpre ⟨0, .data⟩ (by simp) rfl)⟩, fun j d _ _ _ h => phi_keep (Keep.refl _) (same_set L 25 rfl) h⟩)
    have hne : k ≠ 25 := fun e => by subst e; cases hk
    rw [Flow.getD_set_ne _ _ _ _ _ hne]
    exact hall k n hk
  | 26, ho =>
    obtain ⟨p, hp⟩ := pop26
    rw [hp] at ho
    cases ho
    exact step_pure (v := .int .i64 op) hp rfl (by decide) rfl hR (by simp [go_sem, Act.eval, gn h0]) rfl
  | 27, ho =>
    obtain ⟨p, hp⟩ := pop27
    rw [hp] at ho
    cases ho
    have v25 := hv 25 18 (by omega) (by kernel_rfl) (hpre ⟨25, .data⟩ (by simp) rfl)
    have v26 := hv 26 19 (by omega) (by kernel_rfl) (hpre ⟨26, .data⟩ (by simp) rfl)
    have hall := hR.2.2.1 (hpre ⟨25, .data⟩ (by simp) rfl)
    have e26 : a.tmps.getD 19 undef = .int .i64 op := v26
    obtain ⟨m, es, ck, hm, _, hmm, h1, h2⟩ := v25
    rcases run_lookup_ok (P := Try.prog) (w := w) Try.underlying66 Try.underlying3 (key := .int .i64 op) rfl (fun x hx => by obtain ⟨i', n', _, hx', _⟩ := h1 x hx; rw [hx']; rfl) hmm (zero59 w) with ⟨hno, hrun⟩ | ⟨e, he, hek, hrun⟩
    · have hk : ∀ i, keyAt i ≠ some op := fun i hi => by
        obtain ⟨x, hx, hxk⟩ := h2 i op hi (hall i op hi)
        exact hno x hx hxk
      have hf : isKey op = false := by
        cases h : isKey op
        · rfl
        · obtain ⟨i, hi⟩ := (isKey_iff op).1 h
          exact absurd hi (hk i)
      exact step_pure (v := .tuple #[.nilFunc, .bool false]) hp rfl (by decide) rfl hR (by simp [go_sem, Act.eval, gn hm, gn e26, hrun]) ⟨.nilFunc, by rw [hf], fun i hi => absurd hi (hk i)⟩
    · obtain ⟨i', n', hi', hx', _, hp'⟩ := h1 e he
      rw [hx'] at hek
      obtain rfl : n' = op := by simpa using hek
      have ht : isKey n' = true := (isKey_iff n').2 ⟨i', hi'⟩
      exact step_pure (v := .tuple #[e.val, .bool true]) hp rfl (by decide) rfl hR (by simp [go_sem, Act.eval, gn hm, gn e26, hrun]) ⟨e.val, by rw [ht], fun i hi => by obtain rfl := keyAt_inj hi hi'; exact hp'⟩
  | 28, ho =>
    obtain ⟨p, hp⟩ := pop28
    rw [hp] at ho
    cases ho
    have v27 := hv 27 20 (by omega) (by kernel_rfl) (hpre ⟨27, .data⟩ (by simp) rfl)
    exact step_pure (v := a.tmps.getD 20 undef) hp rfl (by decide) rfl hR (by simp [go_sem, Act.eval]) v27
  | 29, ho =>
    obtain ⟨p, hp⟩ := pop29
    rw [hp] at ho
    cases ho
    have v28 := hv 28 6 (by omega) (by kernel_rfl) (hpre ⟨28, .data⟩ (by simp) rfl)
    obtain ⟨f, e6, hf6⟩ := v28
    exact step_pure (v := f) hp rfl (by decide) rfl hR (by simp [go_sem, Act.eval, gn e6]) hf6
  | 30, ho =>
    obtain ⟨p, hp⟩ := pop30
    rw [hp] at ho
    cases ho
    have v28 := hv 28 6 (by omega) (by kernel_rfl) (hpre ⟨28, .data⟩ (by simp) rfl)
    obtain ⟨f, e6, hf6⟩ := v28
    exact step_pure (v := .bool (isKey op)) hp rfl (by decide) rfl hR (by simp [go_sem, Act.eval, gn e6]) rfl
  | 31, ho =>
    obtain ⟨p, hp⟩ := pop31
    rw [hp] at ho
    cases ho
    have v29 := hv 29 21 (by omega) (by kernel_rfl) (hpre ⟨29, .data⟩ (by simp) rfl)
    exact step_pure (v := a.tmps.getD 21 undef) hp rfl (by decide) rfl hR (by simp [go_sem, Act.eval]) v29
  | 32, ho =>
    obtain ⟨p, hp⟩ := pop32
    rw [hp] at ho
    cases ho
    have v30 := hv 30 22 (by omega) (by kernel_rfl) (hpre ⟨30, .data⟩ (by simp) rfl)
    exact step_pure (v := a.tmps.getD 22 undef) hp rfl (by decide) rfl hR (by simp [go_sem, Act.eval]) v30
  | i + 33, ho =>
    have := (Array.getElem?_eq_some_iff.1 ho).1
    rw [pops_size] at this
    omega

end Go.Proofs.Ytafhnkhcbfilaaa
