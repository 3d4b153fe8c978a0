/- Texts of the Wave laws, merged: Y3, YA. -/
import Derived.Test.YtephnfhjobkciaaGreatDoorQ8
import Derived.OrdersHeld
import Derived.Deep.RegionHeld3
import Derived.Test.YtephnfhjobkciaaGreatDoorQ6
import Derived.ScopeJumps

/- A drawn region with calls, in whatever order: what is read may be read first, till one of U comes up. -/
namespace Go.Cal
open Go
set_option linter.unusedVariables false
set_option linter.unusedSimpArgs false
def AnyW (P : Program) (md : Region.Mode) (ops : Array Oper) (Q : Exit → Act → World → Prop) (S : World → Prop) (U : List Nat) : Nat → Array Bool → Act → World → Prop
  | 0, listed, a, w => Region.ready md ops listed = [] ∧ Q .normal a w
  | fuel + 1, listed, a, w => (Region.ready md ops listed = [] → Q .normal a w) ∧
    ∀ i ∈ Region.ready md ops listed, wpOp P ops Q i (fun a' w' => Stt S U listed i w' ∧ AnyW P md ops Q S U fuel (listed.setIfInBounds i true) a' w') a w
section
variable {P : Program} {md : Region.Mode} {S : World → Prop} {U : List Nat} {Q : Exit → Act → World → Prop}
theorem AnyW.sound {ops : Array Oper} : ∀ (fuel : Nat) (listed : Array Bool) (a : Act) (w : World), AnyW P md ops Q S U fuel listed a w → wpAny P md ops Q fuel listed a w
  | 0, _, _, _, h => h
  | fuel + 1, _, _, _, h => ⟨h.1, fun i hi => wpOp_mono (fun a' w' h' => AnyW.sound fuel _ a' w' h'.2) (h.2 i hi)⟩
theorem region_w {ops : Array Oper} {id : Nat} {a : Act} {w : World} (S : World → Prop) (U : List Nat) (hm : P.follows .mixedOrders = true) (h : AnyW P .any ops Q S U ops.size (Array.replicate ops.size false) a w.drew) : (Code.region id ops true).wp P Q a w :=
  wp_region_any hm (AnyW.sound _ _ _ _ h)
theorem takeW_aux {ops : Array Oper} {T : World → Prop} {i : Nat} {oi : Oper} {v : Value} (hi : ops[i]? = some oi) (hsel : ∀ (j : Nat) (o : Oper) cs b, ops[j]? = some o → o.op ≠ .select cs b) (hiU : i ∉ U)
    (hQ : ∀ c a w, Q (.panic c) (a.put oi.dst v) w → Q (.panic c) a w)
    (hT : (∀ w, T w) ∨ ((∀ w, S w → T w) ∧ ∀ u ∈ U, ∀ o, ops[u]? = some o → ∃ e ∈ o.after, Region.binds md e = true ∧ e.on = i)) :
    ∀ (fuel : Nat) (listed : Array Bool) (a : Act) (w : World),
      (∀ j oj, ops[j]? = some oj → j ≠ i → listed.getD j true = false → (∀ e ∈ oj.after, Region.binds md e = true → e.on ≠ i) → oi.apart ops oj = true) →
      i ∈ Region.ready md ops listed → YieldsIf P ops T oi v a → ((∀ w, T w) ∨ ∀ u ∈ U, listed.getD u true = false) → ((∀ u ∈ U, listed.getD u true = false) → S w) →
      AnyW P md ops Q S U fuel (listed.setIfInBounds i true) (a.put oi.dst v) w → AnyW P md ops Q S U (fuel + 1) listed a w := by
  intro fuel
  have hset : ∀ (listed : Array Bool) (k : Nat), k ∉ U → ((∀ u ∈ U, (listed.setIfInBounds k true).getD u true = false) ↔ ∀ u ∈ U, listed.getD u true = false) := fun listed k hk =>
    ⟨fun h u hu => by rw [← h u hu, getD_set_ne true (fun e => hk (by rw [e]; exact hu))], fun h u hu => by rw [← h u hu, getD_set_ne true (fun e => hk (by rw [e]; exact hu))]⟩
  have hTw : ∀ (listed : Array Bool) (w : World), ((∀ w, T w) ∨ ∀ u ∈ U, listed.getD u true = false) → ((∀ u ∈ U, listed.getD u true = false) → S w) → T w := fun listed w h1 h2 => by
    rcases h1 with h1 | h1
    · exact h1 w
    · rcases hT with hT | hT
      · exact hT w
      · exact hT.1 w (h2 h1)
  induction fuel with
  | zero =>
    intro listed a w _ hr hy hl hS H
    refine ⟨fun h => (by rw [h] at hr; cases hr), fun j hj => ?_⟩
    by_cases hji : j = i
    · subst hji
      exact hy.wpOp hi (hTw listed w hl hS) ⟨fun h => hS ((hset listed j hiU).1 h), H⟩
    · have := ready_mono hj hji
      rw [H.1] at this
      cases this
  | succ fuel ih =>
    intro listed a w hfree hr hy hl hS H
    refine ⟨fun h => (by rw [h] at hr; cases hr), fun j hj => ?_⟩
    by_cases hji : j = i
    · subst hji
      exact hy.wpOp hi (hTw listed w hl hS) ⟨fun h => hS ((hset listed j hiU).1 h), H⟩
    · have h1 := H.2 j (ready_mono hj hji)
      obtain ⟨hjun, oj, hoj, hall⟩ := mem_ready.1 hj
      have hnot : ∀ e ∈ oj.after, Region.binds md e = true → e.on ≠ i := fun e he hb heq => by
        have h1 := hall e he hb
        have h0 := (mem_ready.1 hr).1
        rw [heq] at h1
        rcases Nat.lt_or_ge i listed.size with h' | h'
        · simp [h'] at h0 h1; rw [h0] at h1; cases h1
        · simp [Array.getElem?_eq_none h'] at h1
      have h2 := wpOp_putIf hoj (hfree j oj hoj hji hjun hnot) (fun cs b => hsel i oi cs b hi) (fun cs b => hsel j oj cs b hoj) hQ hy h1
      have hcomm : (listed.setIfInBounds i true).setIfInBounds j true = (listed.setIfInBounds j true).setIfInBounds i true := (Array.setIfInBounds_comm _ _ hji).symm
      refine wpOp_mono (fun a' w' h3 => ?_) h2
      obtain ⟨hy', hS1, H1⟩ := h3
      unfold Stt at hS1
      rw [hcomm] at H1 hS1
      have hSj : (∀ u ∈ U, (listed.setIfInBounds j true).getD u true = false) → S w' := fun h => hS1 ((hset _ i hiU).2 h)
      refine ⟨hSj, ih (listed.setIfInBounds j true) a' w' ?_ (ready_mono hr (Ne.symm hji)) hy' ?_ hSj H1⟩
      · intro k ok hk hki hun hno
        refine hfree k ok hk hki ?_ hno
        by_cases hjk : j = k
        · subst hjk; exact hjun
        · rw [getD_set_ne true hjk] at hun; exact hun
      · rcases hT with hT | hT
        · exact .inl hT
        · rcases hl with hl | hl
          · exact .inl hl
          · by_cases hjU : j ∈ U
            · obtain ⟨e, he, hb, heq⟩ := hT.2 j hjU oj hoj
              exact absurd heq (hnot e he hb)
            · exact .inr ((hset listed j hjU).2 hl)
variable {l : List Oper} {fuel : Nat} {listed : Array Bool} {a : Act} {w : World}
/-- what yields in every world may be taken first -/
theorem AnyW.take {i : Nat} {oi : Oper} {v : Value} (hs : Region.noSelect l.toArray = true) (hi : l[i]? = some oi) (hiU : U.contains i = false)
    (hf : Region.free md l.toArray listed i = true) (hr : (Region.ready md l.toArray listed).contains i = true) (hQ : ∀ c a w, Q (.panic c) (a.put oi.dst v) w → Q (.panic c) a w)
    (hw : Region.wanted oi (yielded l.toArray a.tmps) = true) (hy : ∀ w, (execOp a.eval oi).run P w = .ok (.value v) w) (hS : S w)
    (h : AnyW P md l.toArray Q S U fuel (listed.setIfInBounds i true) (a.put oi.dst v) w) : AnyW P md l.toArray Q S U (fuel + 1) listed a w :=
  takeW_aux (T := fun _ => True) (by simpa using hi) (Region.noSelect_spec hs) (fun h => by rw [List.contains_eq_mem, decide_eq_true h] at hiU; cases hiU) hQ (.inl fun _ => trivial) fuel listed a w (Region.free_spec (by simpa using hi) hf) (by simpa using hr) (.inl ⟨hw, fun w _ => hy w⟩) (.inl fun _ => trivial) (fun _ => hS) h
/-- what yields in every world that meets S may be taken first, if U waits for it -/
theorem AnyW.takeS {i : Nat} {oi : Oper} {v : Value} (hs : Region.noSelect l.toArray = true) (hi : l[i]? = some oi) (hiU : U.contains i = false)
    (hU : U.all (fun u => match l.toArray[u]? with | some o => o.after.any (fun e => Region.binds md e && e.on == i) | none => true) = true) (hl : U.all (fun u => listed.getD u true == false) = true)
    (hf : Region.free md l.toArray listed i = true) (hr : (Region.ready md l.toArray listed).contains i = true) (hQ : ∀ c a w, Q (.panic c) (a.put oi.dst v) w → Q (.panic c) a w)
    (hw : Region.wanted oi (yielded l.toArray a.tmps) = true) (hy : ∀ w, S w → (execOp a.eval oi).run P w = .ok (.value v) w) (hS : S w)
    (h : AnyW P md l.toArray Q S U fuel (listed.setIfInBounds i true) (a.put oi.dst v) w) : AnyW P md l.toArray Q S U (fuel + 1) listed a w :=
  takeW_aux (T := S) (by simpa using hi) (Region.noSelect_spec hs) (fun h => by rw [List.contains_eq_mem, decide_eq_true h] at hiU; cases hiU) hQ (.inr ⟨fun _ h => h, fun u hu o ho => by
    have h1 := List.all_eq_true.1 hU u hu
    simp only [ho] at h1
    obtain ⟨k, hk, h2⟩ := Array.any_eq_true.1 h1
    rw [Bool.and_eq_true, beq_iff_eq] at h2
    exact ⟨_, Array.getElem_mem hk, h2.1, h2.2⟩⟩) fuel listed a w (Region.free_spec (by simpa using hi) hf) (by simpa using hr) (.inl ⟨hw, hy⟩) (.inr fun u hu => by simpa using List.all_eq_true.1 hl u hu) (fun _ => hS) h
theorem AnyW.done (hr : Region.ready md l.toArray listed = []) (h : Q .normal a w) : ∀ fuel, AnyW P md l.toArray Q S U fuel listed a w
  | 0 => ⟨hr, h⟩
  | _ + 1 => ⟨fun _ => h, by rw [hr]; simp⟩
def NxW (P : Program) (md : Region.Mode) (ops : Array Oper) (Q : Exit → Act → World → Prop) (S : World → Prop) (U : List Nat) (fuel : Nat) (listed : Array Bool) (i : Nat) (a : Act) (w : World) : Prop :=
  wpOp P ops Q i (fun a' w' => Stt S U listed i w' ∧ AnyW P md ops Q S U fuel (listed.setIfInBounds i true) a' w') a w
theorem NxW.val {i : Nat} {o : Oper} {v : Value} {w' : World} (hi : l[i]? = some o) (hw : Region.wanted o (yielded l.toArray a.tmps) = true) (h : (execOp a.eval o).run P w = .ok (.value v) w') (hS : Stt S U listed i w')
    (hK : AnyW P md l.toArray Q S U fuel (listed.setIfInBounds i true) (a.put o.dst v) w') : NxW P md l.toArray Q S U fuel listed i a w := stepO_wp (stepL_value hi hw h) ⟨hS, hK⟩
theorem NxW.skip {i : Nat} {o : Oper} {w' : World} (hi : l[i]? = some o) (hw : Region.wanted o (yielded l.toArray a.tmps) = true) (h : (execOp a.eval o).run P w = .ok .skip w') (hS : Stt S U listed i w')
    (hK : AnyW P md l.toArray Q S U fuel (listed.setIfInBounds i true) (a.put o.dst undef) w') : NxW P md l.toArray Q S U fuel listed i a w := stepO_wp (stepL_skip hi hw h) ⟨hS, hK⟩
/-- a call comes up next -/
theorem NxW.call {i : Nat} {o : Oper} {f : FuncId} {args : Array Value} {R : Ending → World → Prop} (hi : l[i]? = some o) (hw : Region.wanted o (yielded l.toArray a.tmps) = true) (hr : (execOp a.eval o).run P w = .ok (.enter f args) w) (hc : Calls P f args w R)
    (h : ∀ e w', R e w' → ∃ v, e = .returned v ∧ Stt S U listed i w' ∧ AnyW P md l.toArray Q S U fuel (listed.setIfInBounds i true) (a.put o.dst v) w') : NxW P md l.toArray Q S U fuel listed i a w := by
  have hi' : l.toArray[i]? = some o := by simpa using hi
  unfold NxW wpOp
  rw [hi']
  simp only [if_pos hw]
  refine .inl ?_
  unfold Oper.wp
  rw [hr]
  refine Calls.mono hc fun e w' hR => ?_
  obtain ⟨v, rfl, h1, h2⟩ := h e w' hR
  exact ⟨h1, h2⟩
theorem AnyW.nx1 {i : Nat} (hr : Region.ready md l.toArray listed = [i]) (h : NxW P md l.toArray Q S U fuel listed i a w) : AnyW P md l.toArray Q S U (fuel + 1) listed a w :=
  ⟨(fun h0 => by rw [hr] at h0; cases h0), fun k hk => by
    rw [hr, List.mem_singleton] at hk
    subst hk; exact h⟩
theorem AnyW.nx2 {i j : Nat} (hr : Region.ready md l.toArray listed = [i, j]) (h1 : NxW P md l.toArray Q S U fuel listed i a w) (h2 : NxW P md l.toArray Q S U fuel listed j a w) : AnyW P md l.toArray Q S U (fuel + 1) listed a w :=
  ⟨(fun h0 => by rw [hr] at h0; cases h0), fun k hk => by
    rw [hr] at hk
    rcases List.mem_cons.1 hk with rfl | hk
    · exact h1
    · rw [List.mem_singleton] at hk
      subst hk; exact h2⟩
end
end Go.Cal
namespace Go.Proofs.YtephnfhjobkciaaGreatDoor
open Go.RowKit Go.Proofs.Wav Go.Proofs.Scn Go.Flow Go.Sort Go.Cal
set_option linter.unusedVariables false
theorem nxW_app {md : Region.Mode} {Q : Exit → Act → World → Prop} {S : World → Prop} {U : List Nat} {fuel : Nat} {listed : Array Bool} {l : List Oper} {i : Nat} {o : Oper} {a : Act} {w : World} (hi : l[i]? = some o) (hgd : o.guard = none) (s x : Operand) (t e : TypeId)
    (ho : o.op = .call { callee := .builtin .append, args := #[s, x], argTypes := #[t, t] }) (ht : Tryz.prog.underlying t = some (.slice e))
    (z : Value) (m b : Nat) (hinfo : (Tryz.prog.info? e).map (fun i => (i.zero, i.size, i.bytes)) = some (some z, m, b)) (hz : z.cells.size = m) (hm : 0 < m) (hb24 : b ≤ 24)
    (base : Nat) (v : Value) (n : Nat) (xs : List Value) (hs : a.eval s = v) (hown : w.ownsRow base e m v n xs) (q c : Nat) (cs : Array Value) (hx : a.eval x = .slice (some ⟨q, 0, none⟩) 1 c) (hq : w.heap[q]? = some (.cells cs e (0, 0)))
    (hl : cs.size = m) (h1 : ∀ u ∈ cs.toList, u.oneCell' = true) (hn : n ≤ 1000000) (hbase : base ≤ w.heap.size)
    (h : ∀ p c' w', w'.ownsRow base e m (.slice p (n + 1) c') (n + 1) (xs ++ cs.toList) → w.grownBy w' v.ownBlock → Stt S U listed i w' ∧ AnyW Tryz.prog md l.toArray Q S U fuel (listed.setIfInBounds i true) (a.put o.dst (.slice p (n + 1) c')) w') : NxW Tryz.prog md l.toArray Q S U fuel listed i a w := by
  obtain ⟨p, c', w', h2, h3, h4⟩ := stepO_append_one hi hgd s x t e ho ht z m b hinfo hz hm hb24 base v n xs hs hown q c cs hx hq hl h1 hn hbase
  exact stepO_wp h2 (h p c' w' h3 h4)
end Go.Proofs.YtephnfhjobkciaaGreatDoor

/- The program's Get. -/
namespace Go.Proofs.YtephnfhjobkciaaGreatDoor
open Go.RowKit Go.Proofs.Wav Go.Proofs.Scn Go.Flow Go.Sort Go.Shelf Go.Cal
attribute [local go_sem] Oper.semAt_some
set_option linter.unusedVariables false
set_option linter.unusedSimpArgs false
set_option maxRecDepth 100000

/-- a scope whose label no goto names -/
theorem wp_scope_still {P : Program} {c r : Code} {Q : Exit → Act → World → Prop} {a : Act} {w : World} (l : Nat) (hf : findLabel c l = some r) (first : c.wp P (Exit.jump l (fun _ _ => False) Q) a w) : (Code.scope c).wp P Q a w :=
  wp_scope_jumps l (fun _ _ => False) (fun _ _ => 0) hf first fun a w h => h.elim
/-- where the loop begins -/
structure First (W : World) (v : Value) (V : World) : Prop where
  size : W.heap.size + 3 ≤ V.heap.size
  bel : Below W.heap.size W V
  box : Boxed V (W.heap.size + 1 + 1 + 1) 29 v
  start : ∀ C V', V.heap.size ≤ C → C ≤ V'.heap.size → Below V.heap.size V V' → GetS W C emptyW true false V'
theorem Get_first (W : World) (v : Value) : First W v ((((W.alloc (Obj.cells #[Value.slice none 0 0, Value.slice none 0 0, Value.slice none 0 0, Value.int IntKind.i64 (-1)] 26)).alloc (Obj.cells #[Value.bool true] 4)).alloc (Obj.cells #[Value.bool false] 4)).alloc (Obj.cells #[v] 29)) := by
  obtain ⟨V1, h1⟩ : ∃ V1, V1 = W.alloc (Obj.cells #[Value.slice none 0 0, Value.slice none 0 0, Value.slice none 0 0, Value.int IntKind.i64 (-1)] 26) := ⟨_, rfl⟩
  obtain ⟨V2, h2⟩ : ∃ V2, V2 = V1.alloc (Obj.cells #[Value.bool true] 4) := ⟨_, rfl⟩
  obtain ⟨V3, h3⟩ : ∃ V3, V3 = V2.alloc (Obj.cells #[Value.bool false] 4) := ⟨_, rfl⟩
  rw [← h1, ← h2, ← h3]
  have s1 : V1.heap.size = W.heap.size + 1 := by rw [h1]; simp
  have s2 : V2.heap.size = W.heap.size + 1 + 1 := by rw [h2, World.size_alloc, s1]
  have s3 : V3.heap.size = W.heap.size + 1 + 1 + 1 := by rw [h3, World.size_alloc, s2]
  have b1 : Below W.heap.size W V1 := by rw [h1]; exact (Below.refl _ _).alloc (Nat.le_refl _) _
  have b2 : Below V1.heap.size V1 V2 := by rw [h2]; exact (Below.refl _ _).alloc (Nat.le_refl _) _
  have b3 : Below V2.heap.size V2 V3 := by rw [h3]; exact (Below.refl _ _).alloc (Nat.le_refl _) _
  have b4 : Below V3.heap.size V3 (V3.alloc (Obj.cells #[v] 29)) := (Below.refl _ _).alloc (Nat.le_refl _) _
  have x1 : WBox V1 W.heap.size (.slice none 0 0) (.slice none 0 0) (.slice none 0 0) (.int .i64 (-1)) := by rw [h1]; exact WBox.new _ _ _ _ _
  have x2 : Boxed V2 (W.heap.size + 1) 4 (.bool true) := by rw [h2, ← s1]; exact Boxed.new _ _ _
  have x3 : Boxed V3 (W.heap.size + 1 + 1) 4 (.bool false) := by rw [h3, ← s2]; exact Boxed.new _ _ _
  have x4 : Boxed (V3.alloc (Obj.cells #[v] 29)) (W.heap.size + 1 + 1 + 1) 29 v := by rw [← s3]; exact Boxed.new _ _ _
  have y1 := ((x1.later b2).later b3).later b4
  have y2 := bx_later (bx_later x2 b3) b4
  have y3 := bx_later x3 b4
  have bel : Below W.heap.size W (V3.alloc (Obj.cells #[v] 29)) := ((b1.trans (b2.mono (by omega))).trans (b3.mono (by omega))).trans (b4.mono (by omega))
  refine ⟨by rw [World.size_alloc]; omega, bel, x4, fun C V' hC hC' hb => ?_⟩
  have hl : W.heap.size ≤ C := Nat.le_trans bel.size hC
  exact ⟨⟨.slice none 0 0, .slice none 0 0, .slice none 0 0, hl, Nat.le_refl _, hC', y1.later hb, World.ownsRow_nil _ _ _ _, World.ownsRow_nil _ _ _ _, World.ownsRow_nil _ _ _ _, bel.trans (hb.mono bel.size)⟩, bx_later y2 hb, bx_later y3 hb⟩
theorem box_put {w : World} {R D : Nat} {a b c d : Value} {o : Obj} (h : WBox w R a b c d) (hne : R ≠ D) : WBox (w.putObj D o) R a b c d := (World.putObj_heap_other hne).trans h
theorem wst_put {B : Nat} {W : World} {R D : Nat} {x : Wv} {vn vw vc : Value} {w : World} {o : Obj} (h : WSt B W R x vn vw vc w) (hD : D < B) (hD2 : W.heap.size ≤ D) (hne : R ≠ D) : WSt B W R x vn vw vc (w.putObj D o) :=
  ⟨h.hB, h.hR, Nat.le_trans h.hs (grownBy_putObj' w D o).size, box_put h.box hne, row_turn h.nm (grownBy_putObj' w D o) (fun b e => by cases e; exact hD), row_turn h.wd (grownBy_putObj' w D o) (fun b e => by cases e; exact hD),
    row_turn h.ch (grownBy_putObj' w D o) (fun b e => by cases e; exact hD), h.bel.grown (grownBy_putObj' w D o) h.bel.size (fun k e => by cases e; exact hD2)⟩
theorem set4_other {w : World} {R D : Nat} {a b c d : Value} (hne : D ≠ R) : ((((w.setCell ⟨R, 0, none⟩ a).setCell ⟨R, 1, none⟩ b).setCell ⟨R, 2, none⟩ c).setCell ⟨R, 3, none⟩ d).heap[D]? = w.heap[D]? :=
  (Below.heap_setCell _ ⟨R, 3, none⟩ d D hne).trans ((Below.heap_setCell _ ⟨R, 2, none⟩ c D hne).trans ((Below.heap_setCell _ ⟨R, 1, none⟩ b D hne).trans (Below.heap_setCell _ ⟨R, 0, none⟩ a D hne)))
theorem GetS.setOk {W : World} {C : Nat} {x : Wv} {ok named : Bool} {V : World} (h : GetS W C x ok named V) (ok' : Bool) : GetS W C x ok' named (V.setCell ⟨W.heap.size + 1, 0, none⟩ (.bool ok')) := by
  obtain ⟨⟨vn, vw, vc, h1⟩, h2, h3⟩ := h
  refine ⟨⟨vn, vw, vc, h1.hB, h1.hR, by rw [World.size_setCell]; exact h1.hs, (Below.heap_setCell V ⟨W.heap.size + 1, 0, none⟩ _ _ (by simp)).trans h1.box, row_set h1.nm h2 (by decide) 0 _, row_set h1.wd h2 (by decide) 0 _, row_set h1.ch h2 (by decide) 0 _, h1.bel.setCell (by simp) _⟩, h2.set _, h3.other (by omega) _⟩
theorem stays_low {w V : World} {C q : Nat} {v : Value} (hq : q < w.heap.size) : Stays (fun _ => False) w.heap.size C V (V.setCell ⟨q, 0, none⟩ v) :=
  Stays.of (grownBy_setCell' V q v) (fun r e => by cases e; intro h; rcases h with h | h; exact h; omega)
/-- what Get hands back -/
def GetPost (b : Ln) (W : World) (e : Ending) (W' : World) : Prop :=
  (if 65536 < b.length then e = .returned (.tuple #[.agg #[.slice none 0 0, .slice none 0 0, .slice none 0 0, .int .i64 0], .int .i64 2]) else
    match getP b with
    | none => e = .returned (.tuple #[.agg #[.slice none 0 0, .slice none 0 0, .slice none 0 0, .int .i64 0], .int .i64 160])
    | some x => ∃ vn vw vc, e = .returned (.tuple #[.agg #[vn, vw, vc, .int .i64 x.last], .int .i64 0]) ∧ WavAt W' vn vw vc x ∧ Small x ∧ Fits x ∧ ∃ p c, vc = .slice p x.chs.length c ∧ x.chs.length ≤ c) ∧
  Below W.heap.size W W'

set_option maxHeartbeats 16000000 in
theorem get_any (v : Value) (b : Ln) (hb : b.length ≤ 100000) (W : World) (hB : Base W) (hby : Bytes W v (bs b)) :
    Calls Tryz.prog 27 #[v] W (GetPost b W) := by
  obtain ⟨p, c, rfl⟩ : ∃ p c, v = .slice p b.length c := by
    rcases hby with ⟨h0, p, c, rfl⟩ | ⟨g, o, c, rfl, _⟩
    · exact ⟨p, c, by rw [show b.length = 0 from h0]⟩
    · exact ⟨_, c, rfl⟩
  have HB := Lib.hid hB
  have HBY := Lib.hid hby
  clear hB hby
  refine (callsIn_wide (n := 9)).1 ?_
  refine callsIn_of_wp_marks Tryz.func27 rfl trivial ?_ rfl
  simp only [Tryz.ntmps27, List.size_toArray, List.length_cons, List.length_nil, Nat.reduceAdd, Nat.reduceSub, Array.replicate_succ, Array.replicate_zero, List.push_toArray, List.append_toArray, List.nil_append, List.cons_append]
  refine wpIn_wide.2 ?_
  have b0 := WBox.new W (.slice none 0 0) (.slice none 0 0) (.slice none 0 0) (.int .i64 0)
  obtain ⟨a0, a1, a2, a3, f0, f1, f2, f3, lta⟩ := b0.box
  by_cases hbig : 65536 < b.length
  · have hbig' : decide (65536 < b.length) = true := decide_eq_true hbig
    go_wp2_with fail
    refine wp_scope_still 0 rfl ?_
    go_wp2_with fail
    refine ⟨.tuple #[.agg #[.slice none 0 0, .slice none 0 0, .slice none 0 0, .int .i64 0], .int .i64 2], ?_, ?_⟩
    · simp [results, Tryz.f27, go_sem, a0, a1, a2, a3, f0, f1, f2, f3]
    · exact ⟨by rw [if_pos hbig], (Below.refl _ _).alloc (Nat.le_refl _) _⟩
  · have hbig' : decide (65536 < b.length) = false := decide_eq_false hbig
    go_wp2_with fail
    refine wp_scope_still 0 rfl ?_
    go_wp2_with fail
    rename_i hK
    refine wp_label (hK _ _ ?_)
    clear hK
    go_wp2_with fail
    refine (glines_any _ _ _ _).mono ?_
    rintro e W2 ⟨rfl, rfl⟩
    go_wp2_with fail
    have hg := Get_first W (.slice p b.length c)
    generalize ((((W.alloc (Obj.cells #[Value.slice none 0 0, Value.slice none 0 0, Value.slice none 0 0, Value.int IntKind.i64 (-1)] 26)).alloc (Obj.cells #[Value.bool true] 4)).alloc (Obj.cells #[Value.bool false] 4)).alloc (Obj.cells #[Value.slice p b.length c] 29)) = W5 at *
    have HG := Lib.hid hg
    refine (wpIn_wide (n := 9)).1 ?_
    refine wpIn_rangeFunc_wall (F := Fence.wide) (n := 9) rfl (by omega) (gf := 66) (lb := #[.pointer (some ⟨W.heap.size + 1 + 1 + 1, 0, none⟩)]) rfl trivial (enters_of Tryz.func66 (by kernel_rfl) rfl)
      (glines_wall 8 (by omega) (W.heap.size + 1 + 1 + 1) (.slice p b.length c) b hb W5 (HB.out.later HG.out.bel) HG.out.box (HBY.out.later HG.out.bel)) (Below.refl _ _) (fun _ => rfl) (fun r e => e.elim) ?hg
      (GetI W b.length) (fun c C pre V => c = .exit 0 ∧ GetX W b.length C pre V) ?hi ?hix ?hnd ?h0
      (fun x => { tmps := #[.slice p b.length c, undef, .pointer (some ⟨W.heap.size, 0, none⟩), .int .i64 0, .pointer (some ⟨W.heap.size + 1, 0, none⟩), .pointer (some ⟨W.heap.size + 1 + 1, 0, none⟩), .slice (some ⟨x.2, 0, none⟩) (words3 x.1).length (min 3 ((bs x.1).size + 1)), undef, undef, undef, undef, undef, undef, undef, undef, undef, undef, undef, .slice p b.length c, .int .i64 (b.length : Int), .bool (decide ((65536 : Int) < (b.length : Int))), undef, .pointer (some ⟨W.heap.size, 3, none⟩), .slice p b.length c, .func (Fn.func 66) #[] #[.pointer (some ⟨W.heap.size + 1 + 1 + 1, 0, none⟩)], .slice (some ⟨x.2, 0, none⟩) (words3 x.1).length (min 3 ((bs x.1).size + 1)), undef, undef, undef, undef, undef, undef, undef, undef, undef, undef, undef, undef, undef, undef, undef, undef, undef, undef, undef, undef, undef, undef, undef, undef, undef, undef, undef, undef, undef, undef, undef, undef, undef, undef, undef, undef, undef, undef, undef, undef, undef, undef, undef, undef, undef, undef, undef, undef, undef, undef, undef, undef, undef, undef, undef, undef, undef, undef, undef, undef, undef, undef, undef, undef, undef, undef, undef, undef, undef, undef, undef, undef, undef, undef, undef, undef, undef, undef, undef, undef, undef, undef, undef, undef, undef, undef, undef, undef, undef, undef, undef, undef, undef, undef, undef, undef, undef, undef, undef, undef, undef, undef, undef, undef, undef, undef, undef, undef, undef, undef, undef, undef, undef, undef, undef, undef, undef, undef, undef, undef, undef, undef, undef, undef, undef, undef, undef, undef, undef, undef, undef, undef, undef, undef, undef, undef, undef, undef, undef, undef, undef, undef, undef, undef, undef], defers := [] }) ?assign ?body ?done ?stop
    case hg =>
      rintro x V l r o hl ⟨⟨h1, h2⟩, h3⟩
      refine ⟨⟨by simpa using h1, fun j h => ?_⟩, h3⟩
      have := h2 j h
      exact cell_kept this (grownBy_putObj' V l o) (fun r e => by cases e; exact ⟨_, hl, rfl⟩)
    case hi =>
      rintro C hC s A B row ⟨x, ok, named, h1, h2, h3, h4⟩ hg hr
      exact ⟨x, ok, named, h1, h2.lets HG.out.size hg hr, h3, h4⟩
    case hix =>
      rintro _ C hC s A B row ⟨hc, h0, x, named, h1, h2⟩ hg hr
      exact ⟨hc, h0, x, named, h1.lets HG.out.size hg hr, h2⟩
    case hnd =>
      rintro C pre V ⟨x, ok, named, h1, ⟨⟨vn, vw, vc, h2⟩, _, _⟩, h3⟩
      exact HB.out.later h2.bel
    case h0 =>
      intro C V h1 h2 h3
      exact ⟨emptyW, true, false, rfl, HG.out.start C V (by omega) h2 h3, rfl, Lim.nil _⟩
    case assign =>
      intro l x V K hK
      simp only [wdE]
      gi_wp2
      exact hK
    case body =>
      rintro l' C pre x V hC hCV ⟨y, ok, named, h1, ⟨⟨vn, vw, vc, hst⟩, hbo, hbn⟩, rfl, hlim⟩ ⟨⟨hxb, hwd⟩, hxl⟩ hlt
      obtain ⟨pn, cn, rfl⟩ := row_form hst.nm
      obtain ⟨pw, cw, rfl⟩ := row_form hst.wd
      obtain ⟨pc, cc, rfl⟩ := row_form hst.ch
      obtain ⟨a0, a1, a2, a3, f0, f1, f2, f3, lta⟩ := hst.box.box
      have v1 := hbo.cell
      have v2 := hbn.cell
      have w1 := hbo.frozen
      have w2 := hbn.frozen
      have hsame := allP_same _ _ _ _ _ rfl h1
      have HGS := Lib.hid (show GS W W5.heap.size C y (.slice pn y.names.length cn) (.slice pw y.widths.length cw) (.slice pc y.chs.length cc) true named V V from ⟨HG.out.size, hst, hbo, hbn, Stays.refl _ _ _ _⟩)
      have HGS1 := Lib.hid (HGS.out.ok false)
      have HSame := Lib.hid hsame
      have HBV := Lib.hid (HB.out.later hst.bel)
      have HBad := Lib.hid (fun (h : lineP y named x.1 = none) => show allP (emptyW, false) ((pre ++ [x]).map Prod.fst) = none by rw [List.map_append, List.map_singleton, allP_snoc, h1]; exact h)
      have HGood := Lib.hid (fun y' nm' (h : lineP y named x.1 = some (y', nm')) => show allP (emptyW, false) ((pre ++ [x]).map Prod.fst) = some (y', nm') by rw [List.map_append, List.map_singleton, allP_snoc, h1]; exact h)
      have HLim := Lib.hid hlim
      have HLen : (pre ++ [x]).length = pre.length + 1 := by simp
      have HLN := Lib.hid HLen
      clear hsame h1 hlim hst hbo hbn HLen
      rcases words3_form x.1 with ⟨a, hw⟩ | ⟨a, a2', hw⟩ | ⟨a, a2', a3', hw⟩
      · rw [hw] at hwd
        have c0 := hwd 0 (by simp)
        rw [List.getElem_cons_zero] at c0
        have hx1 : x.2 ≠ W.heap.size + 1 := fun e => by rw [e, v1] at c0; cases c0
        have c1 : (V.setCell ⟨W.heap.size + 1, 0, none⟩ (.bool false)).cell? ⟨x.2, 0, none⟩ = some (.string (bs a)) := (World.cell?_of_block (Below.heap_setCell V ⟨W.heap.size + 1, 0, none⟩ (.bool false) x.2 hx1)).trans c0
        have hz : (words3 x.1).length = 1 := by rw [hw]; rfl
        rw [hz]
        have hlP := show lineP y named x.1 = if a.head? = some 35 then (match numP a.tail with | some n => if y.last < n then some ({ y with last := n }, true) else none | none => none) else none by unfold lineP; rw [hw]; rfl
        have HLP := Lib.hid hlP
        have hal : a.length ≤ 100000 := by
          have := words3_mem (s := x.1) (t := a) (by rw [hw]; simp)
          omega
        clear hlP hwd hxb hx1
        by_cases hp : a.head? = some 35
        · obtain ⟨t, rfl⟩ : ∃ t, a = 35 :: t := by
            cases a with
            | nil => cases hp
            | cons b t => simp only [List.head?_cons, Option.some.injEq] at hp; exact ⟨t, by rw [hp]⟩
          have hvar : ((bs (35 :: t)).toList == [118, 97, 114]) = false := by rw [toL]; simp
          have hsz1 : (1 : Int) ≤ ((bs (35 :: t)).size : Int) := by rw [size_bs, List.length_cons]; omega
          have hext : (bs (35 :: t)).extract 1 (bs (35 :: t)).size = bs t := ext_tail (35 :: t) 1
          have htl : t.length ≤ 100000 := by simp at hal; omega
          simp only [List.head?_cons, if_pos, List.tail_cons] at HLP
          have HNum := Lib.hid (fun w hw => number_any t htl w hw)
          clear htl
          gi_wp2_with fail
          refine ⟨trivial, (((callsIn_wide (n := 6)).2 (Tryz.strings_HasPrefix _ _ _)).inRound l').mono ?_⟩
          rintro e w6 ⟨rfl, hw6⟩
          rw [hw6]
          clear hw6 w6
          rw [has_pre, decide_eq_true hp]
          gi_wp2_with fail
          refine ⟨trivial, (((callsIn_wide (n := 6)).2 (HNum.out _ (HB.out.later HGS1.out.st.bel))).inRound l').mono ?_⟩
          rintro e W6 ⟨⟨n, hn1, hn2, rfl, hn⟩, hb6⟩
          have HGS6 := Lib.hid (HGS1.out.later hb6)
          have HN := Lib.hid hn
          obtain ⟨d0, d1, d2, d3, e0, e1, e2, e3, ltd⟩ := HGS6.out.st.box.box
          have v6 := HGS6.out.bo.cell
          have v7 := HGS6.out.bn.cell
          have w6 := HGS6.out.bo.frozen
          have w7 := HGS6.out.bn.frozen
          clear hn hb6 hext hsz1 hvar c0 c1
          clear a0 a1 a2 a3 f0 f1 f2 f3 lta v1 v2 w1 w2
          cases hN : numP t with
          | none =>
            rw [hN] at HLP
            have HLP1 := Lib.hid HLP.out
            clear hN HLP
            simp only [Option.isSome_none]
            gi_wp2_with fail
            have hG := ((HGS6.out.ok false).time n).nm true
            exact ⟨hG.sy, rfl, HBad.out HLP1.out, _, _, hG.get, by rw [HLN.out]; exact HLim.out.time n⟩
          | some m =>
            have hnm := HN.out m hN
            rw [hN] at HLP
            subst hnm
            clear hN
            simp only [Option.isSome_some]
            by_cases hlt2 : y.last < (m : Int)
            · have HLP1 := Lib.hid (HLP.out.trans (if_pos hlt2))
              clear HLP
              gi_wp2_with fail
              have hG := ((HGS6.out.ok true).time (m : Int)).nm true
              exact ⟨hG.sy, _, true, true, HGood.out _ _ HLP1.out, hG.get, rfl, by rw [HLN.out]; exact HLim.out.time _⟩
            · have HLP1 := Lib.hid (HLP.out.trans (if_neg hlt2))
              clear HLP
              have hlt2' : decide (y.last < (m : Int)) = false := decide_eq_false hlt2
              gi_wp2_with fail
              have hG := ((HGS6.out.ok false).time (m : Int)).nm true
              exact ⟨hG.sy, rfl, HBad.out HLP1.out, _, _, hG.get, by rw [HLN.out]; exact HLim.out.time _⟩
        · have HLP1 := Lib.hid (HLP.out.trans (if_neg hp))
          have hpf : decide (a.head? = some 35) = false := decide_eq_false hp
          clear HLP
          have hfin := HBad.out HLP1.out
          by_cases hv : a = [118, 97, 114]
          · subst hv
            have hvar : ((bs [118, 97, 114]).toList == [118, 97, 114]) = true := by rw [toL]; simp
            gi_wp2_with fail
            refine ⟨trivial, (((callsIn_wide (n := 6)).2 (Tryz.strings_HasPrefix _ _ _)).inRound l').mono ?_⟩
            rintro e w6 ⟨rfl, hw6⟩
            rw [hw6]
            clear hw6 w6
            rw [has_pre, hpf]
            gi_wp2_with fail
            refine ⟨trivial, ?_⟩
            gi_wp2_with fail
            exact ⟨HGS1.out.sy, rfl, hfin, _, _, HGS1.out.get, by rw [HLN.out]; exact HLim.out.more (Nat.le_succ _)⟩
          · have hvar : ((bs a).toList == [118, 97, 114]) = false := by rw [toL]; simpa using hv
            gi_wp2_with fail
            refine ⟨trivial, (((callsIn_wide (n := 6)).2 (Tryz.strings_HasPrefix _ _ _)).inRound l').mono ?_⟩
            rintro e w6 ⟨rfl, hw6⟩
            rw [hw6]
            clear hw6 w6
            rw [has_pre, hpf]
            gi_wp2_with fail
            refine ⟨trivial, ?_⟩
            gi_wp2_with fail
            exact ⟨HGS1.out.sy, rfl, hfin, _, _, HGS1.out.get, by rw [HLN.out]; exact HLim.out.more (Nat.le_succ _)⟩
      · rw [hw] at hwd
        have c0 := hwd 0 (by simp)
        have c0' := hwd 1 (by simp)
        simp only [List.getElem_cons_zero, List.getElem_cons_succ] at c0 c0'
        have hx1 : x.2 ≠ W.heap.size + 1 := fun e => by rw [e, v1] at c0; cases c0
        have c1 : (V.setCell ⟨W.heap.size + 1, 0, none⟩ (.bool false)).cell? ⟨x.2, 0, none⟩ = some (.string (bs a)) := (World.cell?_of_block (Below.heap_setCell V ⟨W.heap.size + 1, 0, none⟩ (.bool false) x.2 hx1)).trans c0
        have c2 : (V.setCell ⟨W.heap.size + 1, 0, none⟩ (.bool false)).cell? ⟨x.2, 1, none⟩ = some (.string (bs a2')) := (World.cell?_of_block (Below.heap_setCell V ⟨W.heap.size + 1, 0, none⟩ (.bool false) x.2 hx1)).trans c0'
        have hz : (words3 x.1).length = 2 := by rw [hw]; rfl
        rw [hz]
        have hlP := show lineP y named x.1 = if a.head? = some 98 ∧ named = true then
            (match numP a2', bin2 a.tail with | some n, some v => if n < y.names.length ∧ (a.tail.length : Int) = y.widths.getD n 0 then some ({ y with chs := y.chs ++ [⟨y.last, n, v⟩] }, named) else none | _, _ => none) else none by unfold lineP; rw [hw]; rfl
        have HLP := Lib.hid hlP
        have hal : a.length ≤ 100000 := by
          have := words3_mem (s := x.1) (t := a) (by rw [hw]; simp)
          omega
        have hbl : a2'.length ≤ 100000 := by
          have := words3_mem (s := x.1) (t := a2') (by rw [hw]; simp)
          omega
        clear hlP hwd hxb hx1
        by_cases hv : a = [118, 97, 114]
        · subst hv
          have hfin := Lib.hid (HBad.out (HLP.out.trans (if_neg (fun h => by simp at h))))
          have hvar : ((bs [118, 97, 114]).toList == [118, 97, 114]) = true := by rw [toL]; simp
          gi_wp2_with fail
          refine ⟨trivial, ?_⟩
          gi_wp2_with fail
          refine ⟨trivial, (((callsIn_wide (n := 6)).2 (Tryz.strings_HasPrefix _ _ _)).inRound l').mono ?_⟩
          rintro e w6 ⟨rfl, hw6⟩
          rw [hw6]
          clear hw6 w6
          rw [has_pre, show decide (List.head? [118, 97, 114] = some (98 : UInt8)) = false from by decide]
          gi_wp2_with fail
          exact ⟨HGS1.out.sy, rfl, hfin.out, _, _, HGS1.out.get, by rw [HLN.out]; exact HLim.out.more (Nat.le_succ _)⟩
        have hvar : ((bs a).toList == [118, 97, 114]) = false := by rw [toL]; simpa using hv
        by_cases hp : a.head? = some 98
        case neg =>
          have hfin := Lib.hid (HBad.out (HLP.out.trans (if_neg (fun h => hp h.1))))
          have hpf : decide (a.head? = some 98) = false := decide_eq_false hp
          gi_wp2_with fail
          refine ⟨trivial, ?_⟩
          gi_wp2_with fail
          refine ⟨trivial, (((callsIn_wide (n := 6)).2 (Tryz.strings_HasPrefix _ _ _)).inRound l').mono ?_⟩
          rintro e w6 ⟨rfl, hw6⟩
          rw [hw6]
          clear hw6 w6
          rw [has_pre, hpf]
          gi_wp2_with fail
          exact ⟨HGS1.out.sy, rfl, hfin.out, _, _, HGS1.out.get, by rw [HLN.out]; exact HLim.out.more (Nat.le_succ _)⟩
        cases named with
        | false =>
          have hfin := Lib.hid (HBad.out (HLP.out.trans (if_neg (fun h => by cases h.2))))
          have hpf : decide (a.head? = some 98) = true := decide_eq_true hp
          gi_wp2_with fail
          refine ⟨trivial, ?_⟩
          gi_wp2_with fail
          refine ⟨trivial, (((callsIn_wide (n := 6)).2 (Tryz.strings_HasPrefix _ _ _)).inRound l').mono ?_⟩
          rintro e w6 ⟨rfl, hw6⟩
          rw [hw6]
          clear hw6 w6
          rw [has_pre, hpf]
          gi_wp2_with fail
          exact ⟨HGS1.out.sy, rfl, hfin.out, _, _, HGS1.out.get, by rw [HLN.out]; exact HLim.out.more (Nat.le_succ _)⟩
        | true =>
          obtain ⟨t, rfl⟩ : ∃ t, a = 98 :: t := by
            cases a with
            | nil => cases hp
            | cons b t => simp only [List.head?_cons, Option.some.injEq] at hp; exact ⟨t, by rw [hp]⟩
          have HLP1 := Lib.hid (HLP.out.trans (if_pos ⟨hp, rfl⟩))
          have hpf : decide (List.head? (98 :: t) = some 98) = true := decide_eq_true hp
          have hsz1 : (1 : Int) ≤ ((bs (98 :: t)).size : Int) := by rw [size_bs, List.length_cons]; omega
          have hext : (bs (98 :: t)).extract 1 (bs (98 :: t)).size = bs t := ext_tail (98 :: t) 1
          have htl : t.length ≤ 100000 := by simp at hal; omega
          have HNum := Lib.hid (fun w hw => number_any a2' hbl w hw)
          have HPu := Lib.hid (fun w hw => pu2_any t htl w hw)
          have HTL := Lib.hid htl
          clear htl HLP hv
          gi_wp2_with fail
          refine ⟨trivial, ?_⟩
          gi_wp2_with fail
          refine ⟨trivial, (((callsIn_wide (n := 6)).2 (Tryz.strings_HasPrefix _ _ _)).inRound l').mono ?_⟩
          rintro e w6 ⟨rfl, hw6⟩
          rw [hw6]
          clear hw6 w6
          rw [has_pre, hpf]
          gi_wp2_with fail
          refine ⟨trivial, (((callsIn_wide (n := 6)).2 (HNum.out _ (HB.out.later HGS1.out.st.bel))).inRound l').mono ?_⟩
          rintro e W6 ⟨⟨n, hn1, hn2, rfl, hn⟩, hb6⟩
          have HGS6 := Lib.hid (HGS1.out.later hb6)
          have HN := Lib.hid hn
          clear hn hb6 hvar c0 c1 c0' c2 a0 a1 a2 a3 f0 f1 f2 f3 lta v1 v2 w1 w2
          gi_wp2_with fail
          refine ⟨trivial, (((callsIn_wide (n := 6)).2 (HPu.out _ (HB.out.later HGS6.out.st.bel))).inRound l').mono ?_⟩
          rintro e W7 ⟨hpu, hb7⟩
          have HGS7 := Lib.hid (HGS6.out.later hb7)
          clear hb7
          obtain ⟨d0, d1, d2, d3, e0, e1, e2, e3, ltd⟩ := HGS7.out.st.box.box
          have v6 := HGS7.out.bo.cell
          have v7 := HGS7.out.bn.cell
          have w6 := HGS7.out.bo.frozen
          have w7 := HGS7.out.bn.frozen
          have hNc : y.chs.length ≤ 1000000 := by have := HLim.out.c; have := pieces_length b; omega
          rcases hpu with ⟨v, hbv, rfl⟩ | ⟨hbv, v, bb, hv64, rfl⟩
          · have HV64 := Lib.hid (bin2_lt hbv)
            have HAsc := Lib.hid (bin2_asc hbv)
            have HNo := Lib.hid (bin2_no hbv)
            cases hN : numP a2' with
            | none =>
              have HF := Lib.hid (HLP1.out.trans (by rw [hN]))
              clear hN hbv
              simp only [Option.isSome_none]
              have HGA := Lib.hid ((HGS7.out.ok false).later ((Below.refl _ _).alloc (Nat.le_refl _) (.cells #[.int .i64 y.last, .int .i64 n, .int .u64 v] 50)))
              have HOA := Lib.hid HGA.out.st.ch
              have HNA := Lib.hid (show ((W7.setCell ⟨W.heap.size + 1, 0, none⟩ (.bool false)).alloc (.cells #[.int .i64 y.last, .int .i64 n, .int .u64 v] 50)).heap[W7.heap.size]? = some (.cells #[.int .i64 y.last, .int .i64 n, .int .u64 v] 50) by have := heap_alloc_new (W7.setCell ⟨W.heap.size + 1, 0, none⟩ (.bool false)) (.cells #[.int .i64 y.last, .int .i64 n, .int .u64 v] 50); rwa [World.size_setCell] at this)
              have HSA := Lib.hid HGA.out.st.hs
              gi_wp2_with fail
              refine ⟨trivial, ?_⟩
              gi_wp2_with (gi_at_builtin; refine wpListIn_append_one rfl _ _ 24 50 rfl chgsSlice (.agg #[.int .i64 0, .int .i64 0, .int .u64 0]) 3 24 infoChg rfl (by decide) (by decide) C _ y.chs.length (chgsV y.chs) rfl HOA.out W7.heap.size 1 #[.int .i64 y.last, .int .i64 n, .int .u64 v] rfl HNA.out rfl (by simp [Value.oneCell']) hNc HSA.out ?_; intro p' c' N' w9 HN' hown2 hgr2; have HGS9 := Lib.hid (HGA.out.chg ⟨y.last, n, v⟩ HN'.out hown2 hgr2); obtain ⟨⟨_, _, b2, _, _, _, g2, _, _⟩, hbo2⟩ := HGA.out.boxg hgr2; have v9 := hbo2.cell; clear hown2 hgr2 HN' hbo2)
              exact ⟨HGS9.out.sy, rfl, HBad.out HF.out, _, _, HGS9.out.get, by rw [HLN.out]; exact HLim.out.chg ⟨hn1, hn2⟩ HV64.out⟩
            | some m =>
              have hnm := HN.out m hN
              subst hnm
              have hLPm := HLP1.out
              simp only [hN, List.tail_cons, hbv] at hLPm
              have HLPm := Lib.hid hLPm
              clear hLPm HLP1 hN hbv
              simp only [Option.isSome_some]
              by_cases hm : m < y.names.length
              case neg =>
                have HF := Lib.hid (HLPm.out.trans (if_neg (fun h => hm h.1)))
                have hm' : decide (m < y.names.length) = false := decide_eq_false hm
                clear hm
                have HGA := Lib.hid ((HGS7.out.ok false).later ((Below.refl _ _).alloc (Nat.le_refl _) (.cells #[.int .i64 y.last, .int .i64 (m : Int), .int .u64 v] 50)))
                have HOA := Lib.hid HGA.out.st.ch
                have HNA := Lib.hid (show ((W7.setCell ⟨W.heap.size + 1, 0, none⟩ (.bool false)).alloc (.cells #[.int .i64 y.last, .int .i64 (m : Int), .int .u64 v] 50)).heap[W7.heap.size]? = some (.cells #[.int .i64 y.last, .int .i64 (m : Int), .int .u64 v] 50) by have := heap_alloc_new (W7.setCell ⟨W.heap.size + 1, 0, none⟩ (.bool false)) (.cells #[.int .i64 y.last, .int .i64 (m : Int), .int .u64 v] 50); rwa [World.size_setCell] at this)
                have HSA := Lib.hid HGA.out.st.hs
                gi_wp2_with fail
                refine ⟨trivial, ?_⟩
                gi_wp2_with (gi_at_builtin; refine wpListIn_append_one rfl _ _ 24 50 rfl chgsSlice (.agg #[.int .i64 0, .int .i64 0, .int .u64 0]) 3 24 infoChg rfl (by decide) (by decide) C _ y.chs.length (chgsV y.chs) rfl HOA.out W7.heap.size 1 #[.int .i64 y.last, .int .i64 (m : Int), .int .u64 v] rfl HNA.out rfl (by simp [Value.oneCell']) hNc HSA.out ?_; intro p' c' N' w9 HN' hown2 hgr2; have HGS9 := Lib.hid (HGA.out.chg ⟨y.last, (m : Int), v⟩ HN'.out hown2 hgr2); obtain ⟨⟨_, _, b2, _, _, _, g2, _, _⟩, hbo2⟩ := HGA.out.boxg hgr2; have v9 := hbo2.cell; clear hown2 hgr2 HN' hbo2)
                exact ⟨HGS9.out.sy, rfl, HBad.out HF.out, _, _, HGS9.out.get, by rw [HLN.out]; exact HLim.out.chg ⟨hn1, hn2⟩ HV64.out⟩
              have hmw : m < y.widths.length := by have := HSame.out; omega
              obtain ⟨bw, ow, hpw, hltw, hcw⟩ := Slc.at (Slc.own HGS7.out.st.wd) (by omega)
              have xw := one_at hcw m hmw
              have hgd : y.widths.getD m 0 = y.widths[m] := by rw [List.getD_eq_getElem?_getD, List.getElem?_eq_getElem hmw]; rfl
              rw [hgd] at HLPm
              unfold intV at xw
              subst hpw
              clear hcw hltw hgd
              generalize y.widths[m] = wm at *
              have hmi : (m : Int) < (y.names.length : Int) := by omega
              have hmw2 : (m : Int) < (y.widths.length : Int) := by omega
              have hszT : ((bs (98 :: t)).size : Int) = (t.length : Int) + 1 := by rw [size_bs, List.length_cons]; omega
              have htl3 : (t.length : Int) ≤ 100000 := by have := HTL.out; omega
              by_cases hwm : (t.length : Int) = wm
              case neg =>
                have HF := Lib.hid (HLPm.out.trans (if_neg (fun h => hwm h.2)))
                clear hsz1
                have HGA := Lib.hid ((HGS7.out.ok false).later ((Below.refl _ _).alloc (Nat.le_refl _) (.cells #[.int .i64 y.last, .int .i64 (m : Int), .int .u64 v] 50)))
                have HOA := Lib.hid HGA.out.st.ch
                have HNA := Lib.hid (show ((W7.setCell ⟨W.heap.size + 1, 0, none⟩ (.bool false)).alloc (.cells #[.int .i64 y.last, .int .i64 (m : Int), .int .u64 v] 50)).heap[W7.heap.size]? = some (.cells #[.int .i64 y.last, .int .i64 (m : Int), .int .u64 v] 50) by have := heap_alloc_new (W7.setCell ⟨W.heap.size + 1, 0, none⟩ (.bool false)) (.cells #[.int .i64 y.last, .int .i64 (m : Int), .int .u64 v] 50); rwa [World.size_setCell] at this)
                have HSA := Lib.hid HGA.out.st.hs
                gi_wp2_with fail
                refine ⟨trivial, ?_⟩
                gi_wp2_with (gi_at_builtin; refine wpListIn_append_one rfl _ _ 24 50 rfl chgsSlice (.agg #[.int .i64 0, .int .i64 0, .int .u64 0]) 3 24 infoChg rfl (by decide) (by decide) C _ y.chs.length (chgsV y.chs) rfl HOA.out W7.heap.size 1 #[.int .i64 y.last, .int .i64 (m : Int), .int .u64 v] rfl HNA.out rfl (by simp [Value.oneCell']) hNc HSA.out ?_; intro p' c' N' w9 HN' hown2 hgr2; have HGS9 := Lib.hid (HGA.out.chg ⟨y.last, (m : Int), v⟩ HN'.out hown2 hgr2); obtain ⟨⟨_, _, b2, _, _, _, g2, _, _⟩, hbo2⟩ := HGA.out.boxg hgr2; have v9 := hbo2.cell; clear hown2 hgr2 HN' hbo2)
                exact ⟨HGS9.out.sy, rfl, HBad.out HF.out, _, _, HGS9.out.get, by rw [HLN.out]; exact HLim.out.chg ⟨hn1, hn2⟩ HV64.out⟩
              have HF := Lib.hid (HLPm.out.trans (if_pos ⟨hm, hwm⟩))
              subst hwm
              clear hsz1
              have HCA := Lib.hid (fun w => Tryz.strings_ContainsAny_laid (bs (98 :: t)) { data := #[95, 43] } w (by rw [size_bs, List.length_cons]; have := HTL.out; omega) (by decide) (fun j b hb => asc_of hb HAsc.out) (fun j b hb => asc_of hb (by decide)))
              gi_wp2_with fail
              refine ⟨trivial, (((callsIn_wide (n := 6)).2 (HCA.out _)).inRound l').mono ?_⟩
              rintro e W8 ⟨rfl, hb8⟩
              have HGS8 := Lib.hid (HGS7.out.later hb8)
              clear hb8
              rw [show Lib.containsAny (bs (98 :: t)).data.toList [95, 43] = false from HNo.out]
              obtain ⟨d0, d1, d2, d3, e0, e1, e2, e3, ltd⟩ := HGS8.out.st.box.box
              have v6 := HGS8.out.bo.cell
              have w6 := HGS8.out.bo.frozen
              have HGA := Lib.hid ((HGS8.out.ok true).later ((Below.refl _ _).alloc (Nat.le_refl _) (.cells #[.int .i64 y.last, .int .i64 (m : Int), .int .u64 v] 50)))
              have HOA := Lib.hid HGA.out.st.ch
              have HNA := Lib.hid (show ((W8.setCell ⟨W.heap.size + 1, 0, none⟩ (.bool true)).alloc (.cells #[.int .i64 y.last, .int .i64 (m : Int), .int .u64 v] 50)).heap[W8.heap.size]? = some (.cells #[.int .i64 y.last, .int .i64 (m : Int), .int .u64 v] 50) by have := heap_alloc_new (W8.setCell ⟨W.heap.size + 1, 0, none⟩ (.bool true)) (.cells #[.int .i64 y.last, .int .i64 (m : Int), .int .u64 v] 50); rwa [World.size_setCell] at this)
              have HSA := Lib.hid HGA.out.st.hs
              gi_wp2_with (gi_at_builtin; refine wpListIn_append_one rfl _ _ 24 50 rfl chgsSlice (.agg #[.int .i64 0, .int .i64 0, .int .u64 0]) 3 24 infoChg rfl (by decide) (by decide) C _ y.chs.length (chgsV y.chs) rfl HOA.out W8.heap.size 1 #[.int .i64 y.last, .int .i64 (m : Int), .int .u64 v] rfl HNA.out rfl (by simp [Value.oneCell']) hNc HSA.out ?_; intro p' c' N' w9 HN' hown2 hgr2; have HGS9 := Lib.hid (HGA.out.chg ⟨y.last, (m : Int), v⟩ HN'.out hown2 hgr2); obtain ⟨⟨_, _, b2, _, _, _, g2, _, _⟩, hbo2⟩ := HGA.out.boxg hgr2; have v9 := hbo2.cell; clear hown2 hgr2 HN' hbo2)
              exact ⟨HGS9.out.sy, _, true, true, HGood.out _ _ HF.out, HGS9.out.get, rfl, by rw [HLN.out]; exact HLim.out.chg ⟨by omega, by omega⟩ HV64.out⟩
          · have HV64 := Lib.hid hv64
            have HF := Lib.hid (show lineP y true x.1 = none from HLP1.out.trans (by rw [List.tail_cons, hbv]; cases numP a2' <;> rfl))
            clear hv64 hbv HLP1
            cases hN : numP a2' with
            | none =>
              simp only [Option.isSome_none]
              have HGA := Lib.hid ((HGS7.out.ok false).later ((Below.refl _ _).alloc (Nat.le_refl _) (.cells #[.int .i64 y.last, .int .i64 n, .int .u64 v] 50)))
              have HOA := Lib.hid HGA.out.st.ch
              have HNA := Lib.hid (show ((W7.setCell ⟨W.heap.size + 1, 0, none⟩ (.bool false)).alloc (.cells #[.int .i64 y.last, .int .i64 n, .int .u64 v] 50)).heap[W7.heap.size]? = some (.cells #[.int .i64 y.last, .int .i64 n, .int .u64 v] 50) by have := heap_alloc_new (W7.setCell ⟨W.heap.size + 1, 0, none⟩ (.bool false)) (.cells #[.int .i64 y.last, .int .i64 n, .int .u64 v] 50); rwa [World.size_setCell] at this)
              have HSA := Lib.hid HGA.out.st.hs
              gi_wp2_with fail
              refine ⟨trivial, ?_⟩
              gi_wp2_with (gi_at_builtin; refine wpListIn_append_one rfl _ _ 24 50 rfl chgsSlice (.agg #[.int .i64 0, .int .i64 0, .int .u64 0]) 3 24 infoChg rfl (by decide) (by decide) C _ y.chs.length (chgsV y.chs) rfl HOA.out W7.heap.size 1 #[.int .i64 y.last, .int .i64 n, .int .u64 v] rfl HNA.out rfl (by simp [Value.oneCell']) hNc HSA.out ?_; intro p' c' N' w9 HN' hown2 hgr2; have HGS9 := Lib.hid (HGA.out.chg ⟨y.last, n, v⟩ HN'.out hown2 hgr2); obtain ⟨⟨_, _, b2, _, _, _, g2, _, _⟩, hbo2⟩ := HGA.out.boxg hgr2; have v9 := hbo2.cell; clear hown2 hgr2 HN' hbo2)
              exact ⟨HGS9.out.sy, rfl, HBad.out HF.out, _, _, HGS9.out.get, by rw [HLN.out]; exact HLim.out.chg ⟨hn1, hn2⟩ HV64.out⟩
            | some m =>
              simp only [Option.isSome_some]
              have HGA := Lib.hid ((HGS7.out.ok false).later ((Below.refl _ _).alloc (Nat.le_refl _) (.cells #[.int .i64 y.last, .int .i64 n, .int .u64 v] 50)))
              have HOA := Lib.hid HGA.out.st.ch
              have HNA := Lib.hid (show ((W7.setCell ⟨W.heap.size + 1, 0, none⟩ (.bool false)).alloc (.cells #[.int .i64 y.last, .int .i64 n, .int .u64 v] 50)).heap[W7.heap.size]? = some (.cells #[.int .i64 y.last, .int .i64 n, .int .u64 v] 50) by have := heap_alloc_new (W7.setCell ⟨W.heap.size + 1, 0, none⟩ (.bool false)) (.cells #[.int .i64 y.last, .int .i64 n, .int .u64 v] 50); rwa [World.size_setCell] at this)
              have HSA := Lib.hid HGA.out.st.hs
              gi_wp2_with fail
              refine ⟨trivial, ?_⟩
              gi_wp2_with (gi_at_builtin; refine wpListIn_append_one rfl _ _ 24 50 rfl chgsSlice (.agg #[.int .i64 0, .int .i64 0, .int .u64 0]) 3 24 infoChg rfl (by decide) (by decide) C _ y.chs.length (chgsV y.chs) rfl HOA.out W7.heap.size 1 #[.int .i64 y.last, .int .i64 n, .int .u64 v] rfl HNA.out rfl (by simp [Value.oneCell']) hNc HSA.out ?_; intro p' c' N' w9 HN' hown2 hgr2; have HGS9 := Lib.hid (HGA.out.chg ⟨y.last, n, v⟩ HN'.out hown2 hgr2); obtain ⟨⟨_, _, b2, _, _, _, g2, _, _⟩, hbo2⟩ := HGA.out.boxg hgr2; have v9 := hbo2.cell; clear hown2 hgr2 HN' hbo2)
              exact ⟨HGS9.out.sy, rfl, HBad.out HF.out, _, _, HGS9.out.get, by rw [HLN.out]; exact HLim.out.chg ⟨hn1, hn2⟩ HV64.out⟩
      · rw [hw] at hwd
        have c0 := hwd 0 (by simp)
        have c0' := hwd 1 (by simp)
        have c0'' := hwd 2 (by simp)
        simp only [List.getElem_cons_zero, List.getElem_cons_succ] at c0 c0' c0''
        have hx1 : x.2 ≠ W.heap.size + 1 := fun e => by rw [e, v1] at c0; cases c0
        have c1 : (V.setCell ⟨W.heap.size + 1, 0, none⟩ (.bool false)).cell? ⟨x.2, 0, none⟩ = some (.string (bs a)) := (World.cell?_of_block (Below.heap_setCell V ⟨W.heap.size + 1, 0, none⟩ (.bool false) x.2 hx1)).trans c0
        have c2 : (V.setCell ⟨W.heap.size + 1, 0, none⟩ (.bool false)).cell? ⟨x.2, 1, none⟩ = some (.string (bs a2')) := (World.cell?_of_block (Below.heap_setCell V ⟨W.heap.size + 1, 0, none⟩ (.bool false) x.2 hx1)).trans c0'
        have c3 : (V.setCell ⟨W.heap.size + 1, 0, none⟩ (.bool false)).cell? ⟨x.2, 2, none⟩ = some (.string (bs a3')) := (World.cell?_of_block (Below.heap_setCell V ⟨W.heap.size + 1, 0, none⟩ (.bool false) x.2 hx1)).trans c0''
        have hz : (words3 x.1).length = 3 := by rw [hw]; rfl
        rw [hz]
        have hlP := show lineP y named x.1 = if a = [118, 97, 114] ∧ y.last < 0 then (numP a2').map fun (n : Nat) => ({ y with names := y.names ++ [a3'], widths := y.widths ++ [(n : Int)] }, named) else none by unfold lineP; rw [hw]
        have HLP := Lib.hid hlP
        have hbl : a2'.length ≤ 100000 := by
          have := words3_mem (s := x.1) (t := a2') (by rw [hw]; simp)
          omega
        have HCL := Lib.hid (show a3'.length ≤ b.length from Nat.le_trans (words3_mem (s := x.1) (t := a3') (by rw [hw]; simp)) hxl)
        have hx2 : x.2 < (V.setCell ⟨W.heap.size + 1, 0, none⟩ (.bool false)).heap.size := by rw [World.size_setCell]; exact hxb
        clear hlP hwd hxb hx1
        by_cases hv : a = [118, 97, 114]
        case neg =>
          have hfin := Lib.hid (HBad.out (HLP.out.trans (if_neg (fun h => hv h.1))))
          have hvar : ((bs a).toList == [118, 97, 114]) = false := by rw [toL]; simpa using hv
          gi_wp2_with fail
          refine ⟨trivial, ?_⟩
          gi_wp2_with fail
          refine ⟨trivial, ?_⟩
          gi_wp2_with fail
          exact ⟨HGS1.out.sy, rfl, hfin.out, _, _, HGS1.out.get, by rw [HLN.out]; exact HLim.out.more (Nat.le_succ _)⟩
        subst hv
        have hvar : ((bs [118, 97, 114]).toList == [118, 97, 114]) = true := by rw [toL]; simp
        by_cases hl0 : y.last < 0
        case neg =>
          have hfin := Lib.hid (HBad.out (HLP.out.trans (if_neg (fun h => hl0 h.2))))
          have hl0' : decide (y.last < 0) = false := decide_eq_false hl0
          gi_wp2_with fail
          refine ⟨trivial, ?_⟩
          gi_wp2_with fail
          refine ⟨trivial, ?_⟩
          gi_wp2_with fail
          exact ⟨HGS1.out.sy, rfl, hfin.out, _, _, HGS1.out.get, by rw [HLN.out]; exact HLim.out.more (Nat.le_succ _)⟩
        have HLP1 := Lib.hid (HLP.out.trans (if_pos ⟨rfl, hl0⟩))
        have HNum := Lib.hid (fun w hw => number_any a2' hbl w hw)
        gi_wp2_with fail
        refine ⟨trivial, (((callsIn_wide (n := 6)).2 (HNum.out _ (HB.out.later HGS1.out.st.bel))).inRound l').mono ?_⟩
        rintro e W6 ⟨⟨n, hn1, hn2, rfl, hn⟩, hb6⟩
        have HGS6 := Lib.hid (HGS1.out.later hb6)
        have HN := Lib.hid hn
        have hc3 : W6.drew.cell? ⟨x.2, 2, none⟩ = some (.string (bs a3')) := (hb6.cell (p := ⟨x.2, 2, none⟩) hx2).trans c3
        clear hn hb6 hvar c0 c1 c0' c2 c0'' c3 a0 a1 a2 a3 f0 f1 f2 f3 lta v1 v2 w1 w2
        gi_wp2_with fail
        have hNn : y.names.length ≤ 1000000 := by have := HLim.out.n; have := pieces_length b; omega
        have hNw : y.widths.length ≤ 1000000 := by have := HLim.out.w; have := pieces_length b; omega
        refine region_any (S := fun w => w.cell? ⟨W.heap.size, 0, none⟩ = some (.slice pn y.names.length cn) ∧ w.cell? ⟨W.heap.size, 1, none⟩ = some (.slice pw y.widths.length cw)) (U := [13, 15]) (by kernel_rfl) (by kernel_rfl) (fun a w h => h) ?_
        have HM0 := Lib.hid (HGS6.out.mid.later (Below.refl W6.heap.size W6).drew)
        generalize W6.drew = w0 at *
        have hS0 : w0.cell? ⟨W.heap.size, 0, none⟩ = some (.slice pn y.names.length cn) ∧ w0.cell? ⟨W.heap.size, 1, none⟩ = some (.slice pw y.widths.length cw) := ⟨HM0.out.box.box.c0, HM0.out.box.box.c1⟩
        refine Any.takeL (i := 0) (v := ?v1) (by kernel_rfl) rfl (by kernel_rfl) (by kernel_rfl) (by kernel_rfl) (by rfl) ?hy1 hS0 ?rest1
        case hy1 => intro w; go_simp; with_reducible rfl
        simp only [Act.put, List.setIfInBounds_toArray, List.set_cons_zero, List.set_cons_succ]
        refine Any.takeSL (i := 1) (v := ?v2) (by kernel_rfl) rfl (by kernel_rfl) (by kernel_rfl) (by kernel_rfl) (by kernel_rfl) (by kernel_rfl) (by rfl) ?hy2 hS0 ?rest2
        case hy2 => intro w hSw; obtain ⟨hs0, hs1⟩ := hSw; go_simp; with_reducible rfl
        simp only [Act.put, List.setIfInBounds_toArray, List.set_cons_zero, List.set_cons_succ]
        refine Any.takeL (i := 2) (v := ?v3) (by kernel_rfl) rfl (by kernel_rfl) (by kernel_rfl) (by kernel_rfl) (by rfl) ?hy3 hS0 ?rest3
        case hy3 => intro w; go_simp; with_reducible rfl
        simp only [Act.put, List.setIfInBounds_toArray, List.set_cons_zero, List.set_cons_succ]
        refine Any.takeL (i := 3) (v := ?v4) (by kernel_rfl) rfl (by kernel_rfl) (by kernel_rfl) (by kernel_rfl) (by rfl) ?hy4 hS0 ?rest4
        case hy4 => intro w; go_simp; with_reducible rfl
        simp only [Act.put, List.setIfInBounds_toArray, List.set_cons_zero, List.set_cons_succ]
        refine Any.takeL (i := 7) (v := ?v5) (by kernel_rfl) rfl (by kernel_rfl) (by kernel_rfl) (by kernel_rfl) (by rfl) ?hy5 hS0 ?rest5
        case hy5 => intro w; go_simp; with_reducible rfl
        simp only [Act.put, List.setIfInBounds_toArray, List.set_cons_zero, List.set_cons_succ]
        refine Any.takeSL (i := 8) (v := ?v6) (by kernel_rfl) rfl (by kernel_rfl) (by kernel_rfl) (by kernel_rfl) (by kernel_rfl) (by kernel_rfl) (by rfl) ?hy6 hS0 ?rest6
        case hy6 => intro w hSw; obtain ⟨hs0, hs1⟩ := hSw; go_simp; with_reducible rfl
        simp only [Act.put, List.setIfInBounds_toArray, List.set_cons_zero, List.set_cons_succ]
        refine Any.takeL (i := 9) (v := ?v7) (by kernel_rfl) rfl (by kernel_rfl) (by kernel_rfl) (by kernel_rfl) (by rfl) ?hy7 hS0 ?rest7
        case hy7 => intro w; go_simp; with_reducible rfl
        simp only [Act.put, List.setIfInBounds_toArray, List.set_cons_zero, List.set_cons_succ]
        clear hS0
        refine Any.nx2 (i := 4) (j := 10) (by kernel_rfl) ?_ ?_
        · refine Nx.val (v := ?v8) (w' := w0) rfl (by rfl) ?hr8 (Stt.of ⟨HM0.out.box.box.c0, HM0.out.box.box.c1⟩) ?hk8
          case hr8 => go_simp; first | with_reducible rfl | exact ⟨rfl, rfl⟩
          simp only [Act.put, List.setIfInBounds_toArray, List.set_cons_zero, List.set_cons_succ]
          refine Any.nx2 (i := 5) (j := 10) (by kernel_rfl) ?_ ?_
          · have HM9 := Lib.hid (HM0.out.later ((Below.refl _ _).alloc (Nat.le_refl _) (.cells #[.string (bs a3')] 9)))
            have HX9 := Lib.hid (Boxed.new w0 9 (.string (bs a3')))
            refine Nx.val (v := ?v10) (w' := w0.alloc (.cells #[.string (bs a3')] 9)) rfl (by rfl) ?hr10 (Stt.of ⟨HM9.out.box.box.c0, HM9.out.box.box.c1⟩) ?hk10
            case hr10 => go_simp; first | with_reducible rfl | exact ⟨rfl, rfl⟩
            simp only [Act.put, List.setIfInBounds_toArray, List.set_cons_zero, List.set_cons_succ]
            generalize w0.alloc (.cells #[.string (bs a3')] 9) = w9 at *
            refine Any.nx2 (i := 6) (j := 10) (by kernel_rfl) ?_ ?_
            · refine nx_app rfl rfl _ _ 22 9 rfl strsSlice (.string ⟨#[]⟩) 1 16 infoStr rfl (by decide) (by decide) C _ y.names.length (y.names.map strV) rfl HM9.out.nm (w0.heap.size) 1 #[.string (bs a3')] rfl HX9.out rfl (by simp [Value.oneCell']) hNn HM9.out.hs ?_
              intro p11 c11 w11 hown hgr
              have HM11 := Lib.hid (HM9.out.nam hown hgr)
              clear hown hgr
              refine ⟨Stt.of ⟨HM11.out.box.box.c0, HM11.out.box.box.c1⟩, ?_⟩
              simp only [Act.put, List.setIfInBounds_toArray, List.set_cons_zero, List.set_cons_succ]
              refine Any.takeL (i := 12) (v := ?v12) (by kernel_rfl) rfl (by kernel_rfl) (by kernel_rfl) (by kernel_rfl) (by rfl) ?hy12 ⟨HM11.out.box.box.c0, HM11.out.box.box.c1⟩ ?rest12
              case hy12 => intro w; go_simp; with_reducible rfl
              simp only [Act.put, List.setIfInBounds_toArray, List.set_cons_zero, List.set_cons_succ]
              refine Any.nx1 (i := 10) (by kernel_rfl) ?_
              have HM13 := Lib.hid (HM11.out.later ((Below.refl _ _).alloc (Nat.le_refl _) (.cells #[.int .i64 n] 3)))
              have HX13 := Lib.hid (Boxed.new w11 3 (.int .i64 n))
              refine Nx.val (v := ?v14) (w' := w11.alloc (.cells #[.int .i64 n] 3)) rfl (by rfl) ?hr14 (Stt.of ⟨HM13.out.box.box.c0, HM13.out.box.box.c1⟩) ?hk14
              case hr14 => go_simp; first | with_reducible rfl | exact ⟨rfl, rfl⟩
              simp only [Act.put, List.setIfInBounds_toArray, List.set_cons_zero, List.set_cons_succ]
              generalize w11.alloc (.cells #[.int .i64 n] 3) = w13 at *
              refine Any.nx1 (i := 11) (by kernel_rfl) ?_
              refine nx_app rfl rfl _ _ 23 3 rfl intsSlice (.int .i64 0) 1 8 infoInt rfl (by decide) (by decide) C _ y.widths.length (y.widths.map intV) rfl HM13.out.wd (w11.heap.size) 1 #[.int .i64 n] rfl HX13.out rfl (by simp [Value.oneCell']) hNw HM13.out.hs ?_
              intro p15 c15 w15 hown hgr
              have HM15 := Lib.hid (HM13.out.wid hown hgr)
              clear hown hgr
              refine ⟨Stt.of ⟨HM15.out.box.box.c0, HM15.out.box.box.c1⟩, ?_⟩
              simp only [Act.put, List.setIfInBounds_toArray, List.set_cons_zero, List.set_cons_succ]
              obtain ⟨z0, z1, z2, z3, g0, g1, g2, g3, ltz⟩ := HM15.out.box.box
              have HG9 := Lib.hid HM15.out.done
              refine Any.nx1 (i := 13) (by kernel_rfl) ?_
              refine Nx.skip (w' := ?w16) rfl (by rfl) ?hr16 (Stt.past (by kernel_rfl)) ?hk16
              case hr16 => go_simp; first | with_reducible rfl | exact ⟨rfl, rfl⟩
              simp only [Act.put, List.setIfInBounds_toArray, List.set_cons_zero, List.set_cons_succ]
              refine Any.nx1 (i := 14) (by kernel_rfl) ?_
              refine Nx.val (v := ?v17) (w' := w15.setCell ⟨W.heap.size, 0, none⟩ (.slice p11 (y.names.length + 1) c11)) rfl (by rfl) ?hr17 (Stt.past (by kernel_rfl)) ?hk17
              case hr17 => go_simp; first | with_reducible rfl | exact ⟨rfl, rfl⟩
              simp only [Act.put, List.setIfInBounds_toArray, List.set_cons_zero, List.set_cons_succ]
              refine Any.nx1 (i := 15) (by kernel_rfl) ?_
              refine Nx.skip (w' := ?w18) rfl (by rfl) ?hr18 (Stt.past (by kernel_rfl)) ?hk18
              case hr18 => go_simp; first | with_reducible rfl | exact ⟨rfl, rfl⟩
              simp only [Act.put, List.setIfInBounds_toArray, List.set_cons_zero, List.set_cons_succ]
              refine Any.done (by kernel_rfl) ?_ _
              clear z0 z1 z2 z3 g0 g1 g2 g3 ltz
              generalize hW9 : (World.setCell (World.setCell w15 _ _) _ _) = W9 at *
              clear hW9
              have v8 := HG9.out.bo.cell
              have w8 := HG9.out.bo.frozen
              cases hN : numP a2' with
              | none =>
                have HLP2 := Lib.hid (HLP1.out.trans (by rw [hN]))
                clear hN
                simp only [Option.isSome_none]
                gi_wp2_with fail
                exact ⟨(HG9.out.ok false).sy, rfl, HBad.out HLP2.out, _, _, (HG9.out.ok false).get, by rw [HLN.out]; exact HLim.out.sig HCL.out n⟩
              | some m =>
                have hnm := HN.out m hN
                subst hnm
                have HLP2 := Lib.hid (HLP1.out.trans (by rw [hN]))
                clear hN
                simp only [Option.isSome_some]
                gi_wp2_with fail
                exact ⟨(HG9.out.ok true).sy, _, true, named, HGood.out _ _ HLP2.out, (HG9.out.ok true).get, rfl, by rw [HLN.out]; exact HLim.out.sig HCL.out _⟩
            · have HM20 := Lib.hid (HM9.out.later ((Below.refl _ _).alloc (Nat.le_refl _) (.cells #[.int .i64 n] 3)))
              have HX21 := Lib.hid (HX9.out.alloc (.cells #[.int .i64 n] 3))
              have HX20 := Lib.hid (Boxed.new w9 3 (.int .i64 n))
              refine Nx.val (v := ?v22) (w' := w9.alloc (.cells #[.int .i64 n] 3)) rfl (by rfl) ?hr22 (Stt.of ⟨HM20.out.box.box.c0, HM20.out.box.box.c1⟩) ?hk22
              case hr22 => go_simp; first | with_reducible rfl | exact ⟨rfl, rfl⟩
              simp only [Act.put, List.setIfInBounds_toArray, List.set_cons_zero, List.set_cons_succ]
              generalize w9.alloc (.cells #[.int .i64 n] 3) = w20 at *
              refine Any.nx1 (i := 6) (by kernel_rfl) ?_
              refine nx_app rfl rfl _ _ 22 9 rfl strsSlice (.string ⟨#[]⟩) 1 16 infoStr rfl (by decide) (by decide) C _ y.names.length (y.names.map strV) rfl HM20.out.nm (w0.heap.size) 1 #[.string (bs a3')] rfl HX21.out rfl (by simp [Value.oneCell']) hNn HM20.out.hs ?_
              intro p23 c23 w23 hown hgr
              have HM23 := Lib.hid (HM20.out.nam hown hgr)
              have HX24 := Lib.hid (bx_grown HX20.out hgr (fun k e => by obtain ⟨cur, fr, h1⟩ := row_block HM20.out.nm k e; exact ⟨cur, _, fr, h1, by decide⟩))
              clear hown hgr
              refine ⟨Stt.of ⟨HM23.out.box.box.c0, HM23.out.box.box.c1⟩, ?_⟩
              simp only [Act.put, List.setIfInBounds_toArray, List.set_cons_zero, List.set_cons_succ]
              refine Any.takeL (i := 12) (v := ?v25) (by kernel_rfl) rfl (by kernel_rfl) (by kernel_rfl) (by kernel_rfl) (by rfl) ?hy25 ⟨HM23.out.box.box.c0, HM23.out.box.box.c1⟩ ?rest25
              case hy25 => intro w; go_simp; with_reducible rfl
              simp only [Act.put, List.setIfInBounds_toArray, List.set_cons_zero, List.set_cons_succ]
              refine Any.nx1 (i := 11) (by kernel_rfl) ?_
              refine nx_app rfl rfl _ _ 23 3 rfl intsSlice (.int .i64 0) 1 8 infoInt rfl (by decide) (by decide) C _ y.widths.length (y.widths.map intV) rfl HM23.out.wd (w9.heap.size) 1 #[.int .i64 n] rfl HX24.out rfl (by simp [Value.oneCell']) hNw HM23.out.hs ?_
              intro p26 c26 w26 hown hgr
              have HM26 := Lib.hid (HM23.out.wid hown hgr)
              clear hown hgr
              refine ⟨Stt.of ⟨HM26.out.box.box.c0, HM26.out.box.box.c1⟩, ?_⟩
              simp only [Act.put, List.setIfInBounds_toArray, List.set_cons_zero, List.set_cons_succ]
              obtain ⟨z0, z1, z2, z3, g0, g1, g2, g3, ltz⟩ := HM26.out.box.box
              have HG9 := Lib.hid HM26.out.done
              refine Any.nx1 (i := 13) (by kernel_rfl) ?_
              refine Nx.skip (w' := ?w27) rfl (by rfl) ?hr27 (Stt.past (by kernel_rfl)) ?hk27
              case hr27 => go_simp; first | with_reducible rfl | exact ⟨rfl, rfl⟩
              simp only [Act.put, List.setIfInBounds_toArray, List.set_cons_zero, List.set_cons_succ]
              refine Any.nx1 (i := 14) (by kernel_rfl) ?_
              refine Nx.val (v := ?v28) (w' := w26.setCell ⟨W.heap.size, 0, none⟩ (.slice p23 (y.names.length + 1) c23)) rfl (by rfl) ?hr28 (Stt.past (by kernel_rfl)) ?hk28
              case hr28 => go_simp; first | with_reducible rfl | exact ⟨rfl, rfl⟩
              simp only [Act.put, List.setIfInBounds_toArray, List.set_cons_zero, List.set_cons_succ]
              refine Any.nx1 (i := 15) (by kernel_rfl) ?_
              refine Nx.skip (w' := ?w29) rfl (by rfl) ?hr29 (Stt.past (by kernel_rfl)) ?hk29
              case hr29 => go_simp; first | with_reducible rfl | exact ⟨rfl, rfl⟩
              simp only [Act.put, List.setIfInBounds_toArray, List.set_cons_zero, List.set_cons_succ]
              refine Any.done (by kernel_rfl) ?_ _
              clear z0 z1 z2 z3 g0 g1 g2 g3 ltz
              generalize hW9 : (World.setCell (World.setCell w26 _ _) _ _) = W9 at *
              clear hW9
              have v8 := HG9.out.bo.cell
              have w8 := HG9.out.bo.frozen
              cases hN : numP a2' with
              | none =>
                have HLP2 := Lib.hid (HLP1.out.trans (by rw [hN]))
                clear hN
                simp only [Option.isSome_none]
                gi_wp2_with fail
                exact ⟨(HG9.out.ok false).sy, rfl, HBad.out HLP2.out, _, _, (HG9.out.ok false).get, by rw [HLN.out]; exact HLim.out.sig HCL.out n⟩
              | some m =>
                have hnm := HN.out m hN
                subst hnm
                have HLP2 := Lib.hid (HLP1.out.trans (by rw [hN]))
                clear hN
                simp only [Option.isSome_some]
                gi_wp2_with fail
                exact ⟨(HG9.out.ok true).sy, _, true, named, HGood.out _ _ HLP2.out, (HG9.out.ok true).get, rfl, by rw [HLN.out]; exact HLim.out.sig HCL.out _⟩
          · have HM31 := Lib.hid (HM0.out.later ((Below.refl _ _).alloc (Nat.le_refl _) (.cells #[.int .i64 n] 3)))
            have HX31 := Lib.hid (Boxed.new w0 3 (.int .i64 n))
            refine Nx.val (v := ?v32) (w' := w0.alloc (.cells #[.int .i64 n] 3)) rfl (by rfl) ?hr32 (Stt.of ⟨HM31.out.box.box.c0, HM31.out.box.box.c1⟩) ?hk32
            case hr32 => go_simp; first | with_reducible rfl | exact ⟨rfl, rfl⟩
            simp only [Act.put, List.setIfInBounds_toArray, List.set_cons_zero, List.set_cons_succ]
            generalize w0.alloc (.cells #[.int .i64 n] 3) = w31 at *
            refine Any.nx1 (i := 5) (by kernel_rfl) ?_
            have HM33 := Lib.hid (HM31.out.later ((Below.refl _ _).alloc (Nat.le_refl _) (.cells #[.string (bs a3')] 9)))
            have HX34 := Lib.hid (HX31.out.alloc (.cells #[.string (bs a3')] 9))
            have HX33 := Lib.hid (Boxed.new w31 9 (.string (bs a3')))
            refine Nx.val (v := ?v35) (w' := w31.alloc (.cells #[.string (bs a3')] 9)) rfl (by rfl) ?hr35 (Stt.of ⟨HM33.out.box.box.c0, HM33.out.box.box.c1⟩) ?hk35
            case hr35 => go_simp; first | with_reducible rfl | exact ⟨rfl, rfl⟩
            simp only [Act.put, List.setIfInBounds_toArray, List.set_cons_zero, List.set_cons_succ]
            generalize w31.alloc (.cells #[.string (bs a3')] 9) = w33 at *
            refine Any.nx1 (i := 6) (by kernel_rfl) ?_
            refine nx_app rfl rfl _ _ 22 9 rfl strsSlice (.string ⟨#[]⟩) 1 16 infoStr rfl (by decide) (by decide) C _ y.names.length (y.names.map strV) rfl HM33.out.nm (w31.heap.size) 1 #[.string (bs a3')] rfl HX33.out rfl (by simp [Value.oneCell']) hNn HM33.out.hs ?_
            intro p36 c36 w36 hown hgr
            have HM36 := Lib.hid (HM33.out.nam hown hgr)
            have HX37 := Lib.hid (bx_grown HX34.out hgr (fun k e => by obtain ⟨cur, fr, h1⟩ := row_block HM33.out.nm k e; exact ⟨cur, _, fr, h1, by decide⟩))
            clear hown hgr
            refine ⟨Stt.of ⟨HM36.out.box.box.c0, HM36.out.box.box.c1⟩, ?_⟩
            simp only [Act.put, List.setIfInBounds_toArray, List.set_cons_zero, List.set_cons_succ]
            refine Any.takeL (i := 12) (v := ?v38) (by kernel_rfl) rfl (by kernel_rfl) (by kernel_rfl) (by kernel_rfl) (by rfl) ?hy38 ⟨HM36.out.box.box.c0, HM36.out.box.box.c1⟩ ?rest38
            case hy38 => intro w; go_simp; with_reducible rfl
            simp only [Act.put, List.setIfInBounds_toArray, List.set_cons_zero, List.set_cons_succ]
            refine Any.nx1 (i := 11) (by kernel_rfl) ?_
            refine nx_app rfl rfl _ _ 23 3 rfl intsSlice (.int .i64 0) 1 8 infoInt rfl (by decide) (by decide) C _ y.widths.length (y.widths.map intV) rfl HM36.out.wd (w0.heap.size) 1 #[.int .i64 n] rfl HX37.out rfl (by simp [Value.oneCell']) hNw HM36.out.hs ?_
            intro p39 c39 w39 hown hgr
            have HM39 := Lib.hid (HM36.out.wid hown hgr)
            clear hown hgr
            refine ⟨Stt.of ⟨HM39.out.box.box.c0, HM39.out.box.box.c1⟩, ?_⟩
            simp only [Act.put, List.setIfInBounds_toArray, List.set_cons_zero, List.set_cons_succ]
            obtain ⟨z0, z1, z2, z3, g0, g1, g2, g3, ltz⟩ := HM39.out.box.box
            have HG9 := Lib.hid HM39.out.done
            refine Any.nx1 (i := 13) (by kernel_rfl) ?_
            refine Nx.skip (w' := ?w40) rfl (by rfl) ?hr40 (Stt.past (by kernel_rfl)) ?hk40
            case hr40 => go_simp; first | with_reducible rfl | exact ⟨rfl, rfl⟩
            simp only [Act.put, List.setIfInBounds_toArray, List.set_cons_zero, List.set_cons_succ]
            refine Any.nx1 (i := 14) (by kernel_rfl) ?_
            refine Nx.val (v := ?v41) (w' := w39.setCell ⟨W.heap.size, 0, none⟩ (.slice p36 (y.names.length + 1) c36)) rfl (by rfl) ?hr41 (Stt.past (by kernel_rfl)) ?hk41
            case hr41 => go_simp; first | with_reducible rfl | exact ⟨rfl, rfl⟩
            simp only [Act.put, List.setIfInBounds_toArray, List.set_cons_zero, List.set_cons_succ]
            refine Any.nx1 (i := 15) (by kernel_rfl) ?_
            refine Nx.skip (w' := ?w42) rfl (by rfl) ?hr42 (Stt.past (by kernel_rfl)) ?hk42
            case hr42 => go_simp; first | with_reducible rfl | exact ⟨rfl, rfl⟩
            simp only [Act.put, List.setIfInBounds_toArray, List.set_cons_zero, List.set_cons_succ]
            refine Any.done (by kernel_rfl) ?_ _
            clear z0 z1 z2 z3 g0 g1 g2 g3 ltz
            generalize hW9 : (World.setCell (World.setCell w39 _ _) _ _) = W9 at *
            clear hW9
            have v8 := HG9.out.bo.cell
            have w8 := HG9.out.bo.frozen
            cases hN : numP a2' with
            | none =>
              have HLP2 := Lib.hid (HLP1.out.trans (by rw [hN]))
              clear hN
              simp only [Option.isSome_none]
              gi_wp2_with fail
              exact ⟨(HG9.out.ok false).sy, rfl, HBad.out HLP2.out, _, _, (HG9.out.ok false).get, by rw [HLN.out]; exact HLim.out.sig HCL.out n⟩
            | some m =>
              have hnm := HN.out m hN
              subst hnm
              have HLP2 := Lib.hid (HLP1.out.trans (by rw [hN]))
              clear hN
              simp only [Option.isSome_some]
              gi_wp2_with fail
              exact ⟨(HG9.out.ok true).sy, _, true, named, HGood.out _ _ HLP2.out, (HG9.out.ok true).get, rfl, by rw [HLN.out]; exact HLim.out.sig HCL.out _⟩
        · have HM44 := Lib.hid (HM0.out.later ((Below.refl _ _).alloc (Nat.le_refl _) (.cells #[.int .i64 n] 3)))
          have HX44 := Lib.hid (Boxed.new w0 3 (.int .i64 n))
          have hx44 := (World.cell?_alloc_lt w0 (.cells #[.int .i64 n] 3) _ (World.block_lt_of_cell? _ _ hc3)).trans hc3
          refine Nx.val (v := ?v45) (w' := w0.alloc (.cells #[.int .i64 n] 3)) rfl (by rfl) ?hr45 (Stt.of ⟨HM44.out.box.box.c0, HM44.out.box.box.c1⟩) ?hk45
          case hr45 => go_simp; first | with_reducible rfl | exact ⟨rfl, rfl⟩
          simp only [Act.put, List.setIfInBounds_toArray, List.set_cons_zero, List.set_cons_succ]
          generalize w0.alloc (.cells #[.int .i64 n] 3) = w44 at *
          refine Any.nx1 (i := 4) (by kernel_rfl) ?_
          refine Nx.val (v := ?v46) (w' := w44) rfl (by rfl) ?hr46 (Stt.of ⟨HM44.out.box.box.c0, HM44.out.box.box.c1⟩) ?hk46
          case hr46 => go_simp; first | with_reducible rfl | exact ⟨rfl, rfl⟩
          simp only [Act.put, List.setIfInBounds_toArray, List.set_cons_zero, List.set_cons_succ]
          refine Any.nx1 (i := 5) (by kernel_rfl) ?_
          have HM47 := Lib.hid (HM44.out.later ((Below.refl _ _).alloc (Nat.le_refl _) (.cells #[.string (bs a3')] 9)))
          have HX48 := Lib.hid (HX44.out.alloc (.cells #[.string (bs a3')] 9))
          have HX47 := Lib.hid (Boxed.new w44 9 (.string (bs a3')))
          refine Nx.val (v := ?v49) (w' := w44.alloc (.cells #[.string (bs a3')] 9)) rfl (by rfl) ?hr49 (Stt.of ⟨HM47.out.box.box.c0, HM47.out.box.box.c1⟩) ?hk49
          case hr49 => go_simp; first | with_reducible rfl | exact ⟨rfl, rfl⟩
          simp only [Act.put, List.setIfInBounds_toArray, List.set_cons_zero, List.set_cons_succ]
          generalize w44.alloc (.cells #[.string (bs a3')] 9) = w47 at *
          refine Any.nx1 (i := 6) (by kernel_rfl) ?_
          refine nx_app rfl rfl _ _ 22 9 rfl strsSlice (.string ⟨#[]⟩) 1 16 infoStr rfl (by decide) (by decide) C _ y.names.length (y.names.map strV) rfl HM47.out.nm (w44.heap.size) 1 #[.string (bs a3')] rfl HX47.out rfl (by simp [Value.oneCell']) hNn HM47.out.hs ?_
          intro p50 c50 w50 hown hgr
          have HM50 := Lib.hid (HM47.out.nam hown hgr)
          have HX51 := Lib.hid (bx_grown HX48.out hgr (fun k e => by obtain ⟨cur, fr, h1⟩ := row_block HM47.out.nm k e; exact ⟨cur, _, fr, h1, by decide⟩))
          clear hown hgr
          refine ⟨Stt.of ⟨HM50.out.box.box.c0, HM50.out.box.box.c1⟩, ?_⟩
          simp only [Act.put, List.setIfInBounds_toArray, List.set_cons_zero, List.set_cons_succ]
          refine Any.takeL (i := 12) (v := ?v52) (by kernel_rfl) rfl (by kernel_rfl) (by kernel_rfl) (by kernel_rfl) (by rfl) ?hy52 ⟨HM50.out.box.box.c0, HM50.out.box.box.c1⟩ ?rest52
          case hy52 => intro w; go_simp; with_reducible rfl
          simp only [Act.put, List.setIfInBounds_toArray, List.set_cons_zero, List.set_cons_succ]
          refine Any.nx1 (i := 11) (by kernel_rfl) ?_
          refine nx_app rfl rfl _ _ 23 3 rfl intsSlice (.int .i64 0) 1 8 infoInt rfl (by decide) (by decide) C _ y.widths.length (y.widths.map intV) rfl HM50.out.wd (w0.heap.size) 1 #[.int .i64 n] rfl HX51.out rfl (by simp [Value.oneCell']) hNw HM50.out.hs ?_
          intro p53 c53 w53 hown hgr
          have HM53 := Lib.hid (HM50.out.wid hown hgr)
          clear hown hgr
          refine ⟨Stt.of ⟨HM53.out.box.box.c0, HM53.out.box.box.c1⟩, ?_⟩
          simp only [Act.put, List.setIfInBounds_toArray, List.set_cons_zero, List.set_cons_succ]
          obtain ⟨z0, z1, z2, z3, g0, g1, g2, g3, ltz⟩ := HM53.out.box.box
          have HG9 := Lib.hid HM53.out.done
          refine Any.nx1 (i := 13) (by kernel_rfl) ?_
          refine Nx.skip (w' := ?w54) rfl (by rfl) ?hr54 (Stt.past (by kernel_rfl)) ?hk54
          case hr54 => go_simp; first | with_reducible rfl | exact ⟨rfl, rfl⟩
          simp only [Act.put, List.setIfInBounds_toArray, List.set_cons_zero, List.set_cons_succ]
          refine Any.nx1 (i := 14) (by kernel_rfl) ?_
          refine Nx.val (v := ?v55) (w' := w53.setCell ⟨W.heap.size, 0, none⟩ (.slice p50 (y.names.length + 1) c50)) rfl (by rfl) ?hr55 (Stt.past (by kernel_rfl)) ?hk55
          case hr55 => go_simp; first | with_reducible rfl | exact ⟨rfl, rfl⟩
          simp only [Act.put, List.setIfInBounds_toArray, List.set_cons_zero, List.set_cons_succ]
          refine Any.nx1 (i := 15) (by kernel_rfl) ?_
          refine Nx.skip (w' := ?w56) rfl (by rfl) ?hr56 (Stt.past (by kernel_rfl)) ?hk56
          case hr56 => go_simp; first | with_reducible rfl | exact ⟨rfl, rfl⟩
          simp only [Act.put, List.setIfInBounds_toArray, List.set_cons_zero, List.set_cons_succ]
          refine Any.done (by kernel_rfl) ?_ _
          clear z0 z1 z2 z3 g0 g1 g2 g3 ltz
          generalize hW9 : (World.setCell (World.setCell w53 _ _) _ _) = W9 at *
          clear hW9
          have v8 := HG9.out.bo.cell
          have w8 := HG9.out.bo.frozen
          cases hN : numP a2' with
          | none =>
            have HLP2 := Lib.hid (HLP1.out.trans (by rw [hN]))
            clear hN
            simp only [Option.isSome_none]
            gi_wp2_with fail
            exact ⟨(HG9.out.ok false).sy, rfl, HBad.out HLP2.out, _, _, (HG9.out.ok false).get, by rw [HLN.out]; exact HLim.out.sig HCL.out n⟩
          | some m =>
            have hnm := HN.out m hN
            subst hnm
            have HLP2 := Lib.hid (HLP1.out.trans (by rw [hN]))
            clear hN
            simp only [Option.isSome_some]
            gi_wp2_with fail
            exact ⟨(HG9.out.ok true).sy, _, true, named, HGood.out _ _ HLP2.out, (HG9.out.ok true).get, rfl, by rw [HLN.out]; exact HLim.out.sig HCL.out _⟩
    case done =>
      rintro D C xs V hD hDC hS ⟨x, ok, named, h1, ⟨⟨vn, vw, vc, hst⟩, hbo, hbn⟩, rfl, hlim⟩ hK
      obtain ⟨pn, cn, rfl⟩ := row_form hst.nm
      obtain ⟨pw, cw, rfl⟩ := row_form hst.wd
      obtain ⟨pc, cc, rfl, hcap⟩ := row_cap hst.ch
      have HCAP := Lib.hid hcap
      clear hcap
      rw [hS] at h1
      have hgp := getP_some h1
      have hlen : xs.length ≤ 65536 := by
        have e1 := congrArg List.length hS
        have e2 := pieces_length b
        simp at e1
        omega
      have hsm := lim_small hlim (by omega) hb
      have HPut := Lib.hid (put_any _ _ _ x hsm hlim.f V (HB.out.later hst.bel) hst.wav)
      have HST := Lib.hid hst
      have HBO := Lib.hid hbo
      have HK := Lib.hid hK
      have HGP := Lib.hid hgp
      have HSM := Lib.hid hsm
      have HFI := Lib.hid hlim.f
      obtain ⟨a0, a1, a2, a3, f0, f1, f2, f3, lta⟩ := hst.box.box
      have v1 := hbo.cell
      clear h1 hS hgp hlen hsm hlim hst hbo hbn hK
      go_wp2_with fail
      refine HPut.out.mono ?_
      rintro e W6 ⟨⟨pv, rfl, hpv⟩, hb6⟩
      have HST6 := Lib.hid (HST.out.later hb6)
      have HBO6 := Lib.hid (bx_later HBO.out hb6)
      have HK6 := Lib.hid ((hb6.block D (Array.getElem?_eq_some_iff.1 HK.out).1).trans HK.out)
      obtain ⟨a0, a1, a2, a3, f0, f1, f2, f3, lta⟩ := HST6.out.box.box
      have v1 := HBO6.out.cell
      by_cases hpe : putE x = 0
      · rw [if_pos hpe] at hpv
        rw [hpe]
        have q1 := str_run hpv.bytes
        have q2 := str_run (HBY.out.later HST6.out.bel)
        go_wp2_with fail
        refine (Tryz.bytes_Equal_strs pv (.slice p b.length c) (bs (putW x)) (bs b) W6 q1 q2).mono ?_
        rintro e W6' ⟨rfl, hw6⟩
        rw [hw6]
        clear hw6 W6'
        by_cases heq : putW x = b
        · have hq : ((bs (putW x)).toList == (bs b).toList) = true := by rw [heq]; simp
          rw [hq]
          have hpu : checkW x = 0 ∧ (putW x).length ≤ 65536 := by
            unfold putE at hpe
            by_cases h0 : checkW x = 0
            · rw [if_neg (by simp [h0])] at hpe
              by_cases h2 : 65536 < (putW x).length
              · rw [if_pos h2] at hpe; cases hpe
              · exact ⟨h0, by omega⟩
            · rw [if_pos h0] at hpe; exact absurd hpe h0
          have HSOME := Lib.hid (show getP b = some x by rw [HGP.out, if_pos ⟨hpu.1, hpu.2, heq⟩])
          clear heq hpu hpe hpv q1 q2
          go_wp2_with fail
          have hne : W.heap.size ≠ D := by have := HG.out.size; omega
          have hst7 := wst4 HST6.out
          have hk7 := (set4_other (w := W6) (a := .slice pn x.names.length cn) (b := .slice pw x.widths.length cw) (c := .slice pc x.chs.length cc) (d := .int .i64 x.last) (Ne.symm hne)).trans HK6.out
          clear a0 a1 a2 a3 f0 f1 f2 f3 lta
          generalize ((((W6.setCell ⟨W.heap.size, 0, none⟩ (.slice pn x.names.length cn)).setCell ⟨W.heap.size, 1, none⟩ (.slice pw x.widths.length cw)).setCell ⟨W.heap.size, 2, none⟩ (.slice pc x.chs.length cc)).setCell ⟨W.heap.size, 3, none⟩ (.int .i64 x.last)) = W7 at *
          refine ⟨by simp, .inl ⟨_, _, rfl, run_takeDeferred hk7, ?_⟩⟩
          have hst8 := wst_put (o := .deferred none) hst7 hDC (by have := HG.out.size; omega) hne
          obtain ⟨a0, a1, a2, a3, f0, f1, f2, f3, lta⟩ := hst8.box.box
          refine ⟨.tuple #[.agg #[.slice pn x.names.length cn, .slice pw x.widths.length cw, .slice pc x.chs.length cc, .int .i64 x.last], .int .i64 0], ?_, ?_⟩
          · simp [results, Tryz.f27, go_sem, a0, a1, a2, a3, f0, f1, f2, f3]
          · refine ⟨?_, hst8.bel⟩
            rw [if_neg hbig, HSOME.out]
            exact ⟨_, _, _, rfl, hst8.wav, HSM.out, HFI.out, pc, cc, rfl, HCAP.out⟩
        · have hq : ((bs (putW x)).toList == (bs b).toList) = false := by
            rw [beq_eq_false_iff_ne]
            intro e
            rw [Lib.toList_data, Lib.toList_data] at e
            exact heq e
          have HNONE := Lib.hid (show getP b = none by rw [HGP.out, if_neg (fun h => heq h.2.2)])
          rw [hq]
          go_wp2_with fail
          have hne : W.heap.size ≠ D := by have := HG.out.size; omega
          have hbox := wset4 (a' := .slice none 0 0) (b' := .slice none 0 0) (c' := .slice none 0 0) (d' := .int .i64 0) HST6.out.box
          have hbel := wbel4 (a' := .slice none 0 0) (b' := .slice none 0 0) (c' := .slice none 0 0) (d' := .int .i64 0) HST6.out.bel (Nat.le_refl W.heap.size)
          have hk7 := (set4_other (w := W6) (a := .slice none 0 0) (b := .slice none 0 0) (c := .slice none 0 0) (d := .int .i64 0) (Ne.symm hne)).trans HK6.out
          clear a0 a1 a2 a3 f0 f1 f2 f3 lta
          generalize ((((W6.setCell ⟨W.heap.size, 0, none⟩ (.slice none 0 0)).setCell ⟨W.heap.size, 1, none⟩ (.slice none 0 0)).setCell ⟨W.heap.size, 2, none⟩ (.slice none 0 0)).setCell ⟨W.heap.size, 3, none⟩ (.int .i64 0)) = W7 at *
          refine ⟨by simp, .inl ⟨_, _, rfl, run_takeDeferred hk7, ?_⟩⟩
          obtain ⟨a0, a1, a2, a3, f0, f1, f2, f3, lta⟩ := (box_put (o := .deferred none) hbox hne).box
          refine ⟨.tuple #[.agg #[.slice none 0 0, .slice none 0 0, .slice none 0 0, .int .i64 0], .int .i64 160], ?_, ?_⟩
          · simp [results, Tryz.f27, go_sem, a0, a1, a2, a3, f0, f1, f2, f3]
          · exact ⟨by rw [if_neg hbig, HNONE.out], hbel.grown (grownBy_putObj' W7 D (.deferred none)) hbel.size (fun k e => by cases e; have := HG.out.size; omega)⟩
      · have hpe' : (putE x != 0) = true := by simpa using hpe
        have HNONE := Lib.hid (show getP b = none by rw [HGP.out, if_neg (fun h => hpe (by unfold putE; rw [if_neg (by simp [h.1]), if_neg (by omega)]))])
        go_wp2_with fail
        have hne : W.heap.size ≠ D := by have := HG.out.size; omega
        have hbox := wset4 (a' := .slice none 0 0) (b' := .slice none 0 0) (c' := .slice none 0 0) (d' := .int .i64 0) HST6.out.box
        have hbel := wbel4 (a' := .slice none 0 0) (b' := .slice none 0 0) (c' := .slice none 0 0) (d' := .int .i64 0) HST6.out.bel (Nat.le_refl W.heap.size)
        have hk7 := (set4_other (w := W6) (a := .slice none 0 0) (b := .slice none 0 0) (c := .slice none 0 0) (d := .int .i64 0) (Ne.symm hne)).trans HK6.out
        clear a0 a1 a2 a3 f0 f1 f2 f3 lta
        generalize ((((W6.setCell ⟨W.heap.size, 0, none⟩ (.slice none 0 0)).setCell ⟨W.heap.size, 1, none⟩ (.slice none 0 0)).setCell ⟨W.heap.size, 2, none⟩ (.slice none 0 0)).setCell ⟨W.heap.size, 3, none⟩ (.int .i64 0)) = W7 at *
        refine ⟨by simp, .inl ⟨_, _, rfl, run_takeDeferred hk7, ?_⟩⟩
        obtain ⟨a0, a1, a2, a3, f0, f1, f2, f3, lta⟩ := (box_put (o := .deferred none) hbox hne).box
        refine ⟨.tuple #[.agg #[.slice none 0 0, .slice none 0 0, .slice none 0 0, .int .i64 0], .int .i64 160], ?_, ?_⟩
        · simp [results, Tryz.f27, go_sem, a0, a1, a2, a3, f0, f1, f2, f3]
        · exact ⟨by rw [if_neg hbig, HNONE.out], hbel.grown (grownBy_putObj' W7 D (.deferred none)) hbel.size (fun k e => by cases e; have := HG.out.size; omega)⟩
    case stop =>
      rintro D C c' pre V hD hDC ⟨k, hS⟩ ⟨rfl, h0, x, named, ⟨⟨vn, vw, vc, hst⟩, hbo, hbn⟩, hlim⟩ hK
      rw [hS] at h0
      have HNONE := Lib.hid (getP_none (allP_take h0))
      have hlen : pre.length ≤ 65536 := by
        have e1 := congrArg List.length hS
        have e2 := pieces_length b
        simp at e1
        omega
      have hsm := lim_small hlim (by omega) hb
      have HPut := Lib.hid (put_any _ _ _ x hsm hlim.f V (HB.out.later hst.bel) hst.wav)
      obtain ⟨pn, cn, rfl⟩ := row_form hst.nm
      obtain ⟨pw, cw, rfl⟩ := row_form hst.wd
      obtain ⟨pc, cc, rfl⟩ := row_form hst.ch
      have HST := Lib.hid hst
      have HBO := Lib.hid hbo
      have HK := Lib.hid hK
      obtain ⟨a0, a1, a2, a3, f0, f1, f2, f3, lta⟩ := hst.box.box
      have v1 := hbo.cell
      clear h0 hS hlen hsm hlim hst hbo hbn hK
      refine wpIn_wide.2 ?_
      go_wp2_with fail
      refine HPut.out.mono ?_
      rintro e W6 ⟨⟨pv, rfl, hpv⟩, hb6⟩
      have HST6 := Lib.hid (HST.out.later hb6)
      have HK6 := Lib.hid ((hb6.block D (Array.getElem?_eq_some_iff.1 HK.out).1).trans HK.out)
      have v1 := (bx_later HBO.out hb6).cell
      obtain ⟨a0, a1, a2, a3, f0, f1, f2, f3, lta⟩ := HST6.out.box.box
      clear hpv hb6
      go_wp2_with fail
      have hne : W.heap.size ≠ D := by have := HG.out.size; omega
      have hbox := wset4 (a' := .slice none 0 0) (b' := .slice none 0 0) (c' := .slice none 0 0) (d' := .int .i64 0) HST6.out.box
      have hbel := wbel4 (a' := .slice none 0 0) (b' := .slice none 0 0) (c' := .slice none 0 0) (d' := .int .i64 0) HST6.out.bel (Nat.le_refl W.heap.size)
      have hk7 := (set4_other (w := W6) (a := .slice none 0 0) (b := .slice none 0 0) (c := .slice none 0 0) (d := .int .i64 0) (Ne.symm hne)).trans HK6.out
      clear a0 a1 a2 a3 f0 f1 f2 f3 lta
      generalize ((((W6.setCell ⟨W.heap.size, 0, none⟩ (.slice none 0 0)).setCell ⟨W.heap.size, 1, none⟩ (.slice none 0 0)).setCell ⟨W.heap.size, 2, none⟩ (.slice none 0 0)).setCell ⟨W.heap.size, 3, none⟩ (.int .i64 0)) = W7 at *
      refine ⟨by simp, .inl ⟨_, _, rfl, run_takeDeferred hk7, ?_⟩⟩
      obtain ⟨a0, a1, a2, a3, f0, f1, f2, f3, lta⟩ := (box_put (o := .deferred none) hbox hne).box
      refine ⟨.tuple #[.agg #[.slice none 0 0, .slice none 0 0, .slice none 0 0, .int .i64 0], .int .i64 160], ?_, ?_⟩
      · simp [results, Tryz.f27, go_sem, a0, a1, a2, a3, f0, f1, f2, f3]
      · exact ⟨by rw [if_neg hbig, HNONE.out], hbel.grown (grownBy_putObj' W7 D (.deferred none)) hbel.size (fun k e => by cases e; have := HG.out.size; omega)⟩
end Go.Proofs.YtephnfhjobkciaaGreatDoor
