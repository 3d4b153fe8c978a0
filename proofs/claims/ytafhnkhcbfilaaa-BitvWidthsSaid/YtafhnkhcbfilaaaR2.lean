/- A map that the call makes: what an insertion of a new key and a look-up come to, entry by entry. Over any program. -/
import Derived.Test.YtafhnkhcbfilaaaR1
import Derived.MapKept
namespace Go.Flow
open Go.RowKit Go.MapKept
set_option linter.unusedVariables false
set_option linter.unusedSimpArgs false

variable {P : Program} {ops : Array Oper} {Q : Exit → Act → World → Prop}

theorem wpOp_of {i : Nat} {o : Oper} {K : Act → World → Prop} {a : Act} {w : World} (ho : ops[i]? = some o) (hg : o.guard = none) (h : o.wp P a w K Q) : wpOp P ops Q i K a w := by
  unfold wpOp
  rw [ho]
  simp only [Region.wanted, hg, if_true]
  exact Or.inl h

theorem wp_value {o : Oper} {a : Act} {w w' : World} {K : Act → World → Prop} {v : Value} (hr : (execOp a.eval o).run P w = .ok (.value v) w') (h : K (a.put o.dst v) w') : o.wp P a w K Q := by
  unfold Oper.wp
  rw [hr]
  exact h

theorem wp_skip' {o : Oper} {a : Act} {w w' : World} {K : Act → World → Prop} (hr : (execOp a.eval o).run P w = .ok .skip w') (h : K (a.put o.dst undef) w') : o.wp P a w K Q := by
  unfold Oper.wp
  rw [hr]
  exact h

theorem wp_enter {o : Oper} {a : Act} {w w' : World} {K : Act → World → Prop} {f : FuncId} {args : Array Value} (hr : (execOp a.eval o).run P w = .ok (.enter f args) w')
    (h : Calls P f args w' fun e w'' => ∃ v, e = .returned v ∧ K (a.put o.dst v) w'') : o.wp P a w K Q := by
  unfold Oper.wp
  rw [hr]
  exact h.mono fun e w'' ⟨v, he, hk⟩ => by subst he; exact hk

/-- the world with the map's new row -/
def setMap (w : World) (m : Nat) (es : Array MapEntry) (ck : Nat) : World := { w with heap := w.heap.setIfInBounds m (.map es ck) }

theorem run_insert_new {w : World} {mt kt et : TypeId} {d : TypeDesc} {m : Nat} {es : Array MapEntry} {ck : Nat} {key val : Value}
    (hmt : P.underlying mt = some (.map kt et)) (hd : P.underlying kt = some d) (hk : IsKey d key) (hks : ∀ x ∈ es.toList, IsKey d x.key)
    (hb : w.heap[m]? = some (.map es ck)) (hno : ∀ x ∈ es.toList, x.key ≠ key) :
    (Instr.mapUpdate mt (.map (some m)) key val).run P w = .ok () (setMap w m (es.push { key, val, born := ck }) (ck + 1)) := by
  rcases findNow_spec hk es.toList 0 hks with ⟨h1, _⟩ | ⟨j, e, _, h2, h3⟩
  · simp [Instr.mapUpdate, run_underlying hmt, MapKept.run_getObj_map hb, MapKept.run_checkKey hd hk, MapKept.run_findKey hd h1, MapKept.run_setObj_map _ hb, Result.andThen, setMap]
  · exact absurd h3 (hno e (List.mem_of_getElem? h2))

theorem run_lookup_ok {w : World} {mt kt et : TypeId} {d : TypeDesc} {m : Nat} {es : Array MapEntry} {ck : Nat} {key z : Value}
    (hmt : P.underlying mt = some (.map kt et)) (hd : P.underlying kt = some d) (hk : IsKey d key) (hks : ∀ x ∈ es.toList, IsKey d x.key)
    (hb : w.heap[m]? = some (.map es ck)) (hz : (zeroValue et).run P w = .ok z w) :
    ((∀ x ∈ es.toList, x.key ≠ key) ∧ (Instr.lookup mt (.map (some m)) key true).run P w = .ok (.tuple #[z, .bool false]) w) ∨
    ∃ e ∈ es.toList, e.key = key ∧ (Instr.lookup mt (.map (some m)) key true).run P w = .ok (.tuple #[e.val, .bool true]) w := by
  rcases findNow_spec hk es.toList 0 hks with ⟨h1, h0⟩ | ⟨j, e, h1, h2, h3⟩
  · exact Or.inl ⟨h0, by simp [Instr.lookup, run_underlying hmt, MapKept.run_getObj_map hb, MapKept.run_checkKey hd hk, MapKept.run_findKey hd h1, hz, Result.andThen]⟩
  · exact Or.inr ⟨e, List.mem_of_getElem? h2, h3, by simp [Instr.lookup, run_underlying hmt, MapKept.run_getObj_map hb, MapKept.run_checkKey hd hk, MapKept.run_findKey hd h1, Result.andThen]⟩

theorem below_setMap {B : Nat} {a w : World} (h : Below B a w) {m : Nat} (hm : B ≤ m) (es : Array MapEntry) (ck : Nat) : Below B a (setMap w m es ck) :=
  h.trans ⟨rfl, rfl, rfl, by simp [setMap], fun k hk => by simp only [setMap]; rw [Array.getElem?_setIfInBounds]; rw [if_neg (by omega)]⟩

/-- all cells read as before -/
def Cells (w w' : World) : Prop := ∀ a v, w.cell? a = some v → w'.cell? a = some v

theorem Cells.refl (w : World) : Cells w w := fun _ _ h => h
theorem Cells.trans {a b c : World} (h : Cells a b) (k : Cells b c) : Cells a c := fun p v hp => k p v (h p v hp)
theorem Cells.below {w w' : World} (h : Below w.heap.size w w') : Cells w w' := fun a v ha => (h.cell (World.block_lt_of_cell? w a ha)).trans ha
theorem Cells.setMap {w : World} {m : Nat} {es : Array MapEntry} {ck : Nat} (hb : w.heap[m]? = some (.map es ck)) (es' : Array MapEntry) (ck' : Nat) : Cells w (setMap w m es' ck') := fun a v ha => by
  by_cases h : a.block = m
  · exfalso
    subst h
    obtain ⟨b, o, s⟩ := a
    simp [World.cell?, hb] at ha
  · have : (Flow.setMap w m es' ck').heap[a.block]? = w.heap[a.block]? := by
      simp only [Flow.setMap]
      rw [Array.getElem?_setIfInBounds, if_neg (fun e => h e.symm)]
    exact (World.cell?_of_block (w := w) this).trans ha

theorem setMap_at {w : World} {m : Nat} {es : Array MapEntry} {ck : Nat} (hb : w.heap[m]? = some (.map es ck)) (es' : Array MapEntry) (ck' : Nat) : (setMap w m es' ck').heap[m]? = some (.map es' ck') := by
  have hlt : m < w.heap.size := (Array.getElem?_eq_some_iff.1 hb).1
  simp [setMap, hlt]

end Go.Flow
