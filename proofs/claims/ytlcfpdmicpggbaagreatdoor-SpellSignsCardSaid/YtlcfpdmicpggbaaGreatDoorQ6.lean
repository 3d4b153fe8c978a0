/- Texts of the seat, merged. -/
import Derived.Test.YtlcfpdmicpggbaaGreatDoorQ4
set_option linter.unusedVariables false
set_option linter.unusedSimpArgs false
set_option maxRecDepth 100000
set_option maxHeartbeats 16000000
namespace Go.GrowQ
open Go Go.RowKit
section
variable {P : Program} {G : World → World → Prop} {ops : Array Oper} {Q : Exit → Act → World → Prop} {Sp : Nat → World → Value → Prop} {a0 : Act} {w0 : World}
theorem flag_none {ops : Array Oper} {p : Nat} (h : ops.size ≤ p) (j : Nat) (hj : p ≤ j) : allBefore ops j = true := by
 unfold allBefore
 rw [Bool.or_eq_true]
 exact .inl (decide_eq_true (by omega))
theorem step_sound2 {m : Nat} (hsize : ops.size = m + 1) (htr : ∀ a b c, G a b → G b c → G a c) (hmono : ∀ i W W' v, G W W' → Sp i W v → Sp i W' v) (hf : Fits ops a0)
  {K : Act → World → Prop} {listed : Array Bool} {i : Nat} {o : Oper} (hop : OpOK P (fun _ => G) (fun _ => G) (m + 1) ops Sp a0 w0 i o) (hi : ops[i]? = some o) (hsz : listed.size = ops.size) (hun : listed.getD i false = false) (hd : ∀ e ∈ o.after, Region.binds .any e = true → listed.getD e.on false = true) {a : Act} {w : World} (h : Inv (fun _ => G) (m + 1) ops Sp a0 w0 listed a w)
  (hK : ∀ a' w', Inv (fun _ => G) (m + 1) ops Sp a0 w0 (listed.setIfInBounds i true) a' w' → K a' w') : wpOp P ops Q i K a w := by
 have hbef := flag_none (ops := ops) (p := m + 1) (Nat.le_of_eq hsize)
 have htr' : ∀ (i : Nat) (a b c : World), (fun _ => G) (decide (m + 1 < i)) a b → (fun _ => G) i b c → (fun _ => G) (decide (m + 1 ≤ i)) a c := fun _ a b c => htr a b c
 have hmono' : ∀ (i j : Nat) (W W' : World) (v : Value), i ≠ j → ¬ (m + 1 ≤ j ∧ i < j) → (fun _ => G) i W W' → Sp j W v → Sp j W' v := fun _ j W W' v _ _ h => hmono j W W' v h
 unfold wpOp
 rw [hi]
 have hg := hf.1 i o hi
 simp only [show Region.wanted o (yielded ops a.tmps) = true by simp [Region.wanted, hg], if_true]
 left
 have := hop a.eval w h.below ⟨fun d hd' => h.else_ d (fun j oj hj hdj => by
   have : d ∈ ops.toList.filterMap (·.dst) := List.mem_filterMap.2 ⟨oj, List.mem_of_getElem? (by simpa using hj), hdj⟩
   simp only [freeB, List.contains_eq_mem, decide_eq_true this] at hd'
   cases hd'), fun d hd' => h.else_ d (fun j oj hj hdj => by
   have hlt : j < ops.size := (Array.getElem?_eq_some_iff.1 hj).1
   have h1 := List.all_eq_true.1 hd' j (List.mem_range.2 hlt)
   rw [hj] at h1
   simp only [hdj, beq_self_eq_true, Bool.not_true, Bool.false_or, Bool.and_eq_true, decide_eq_true_eq] at h1
   omega), fun _ => rfl, fun _ => rfl, fun _ => rfl⟩ (fun j d hdep => by
  unfold depB at hdep
  rw [Bool.and_eq_true] at hdep
  obtain ⟨hany, hdst⟩ := hdep
  cases hj : ops[j]? with
  | none => rw [hj] at hdst; cases hdst
  | some oj =>
   rw [hj] at hdst
   have hdd : oj.dst = some d := by simpa using hdst
   have := h.done j oj hj (by
    obtain ⟨k, hk, h1⟩ := Array.any_eq_true.1 hany
    rw [Bool.and_eq_true, beq_iff_eq] at h1
    rw [← h1.1]
    exact hd _ (Array.getElem_mem hk) h1.2)
   rw [hdd] at this
   exact this)
 unfold Oper.wp
 rcases this with ⟨v, w', h1, h2, h3⟩ | ⟨w', h1, h2, h3⟩ | ⟨f, args, h1, h2⟩
 ·rw [h1]
  exact hK _ _ (inv_step hbef htr' hmono' hf hi h hsz hun hd h2 h3)
 ·rw [h1]
  exact hK _ _ (inv_step hbef htr' hmono' hf hi h hsz hun hd h2 h3)
 ·rw [h1]
  refine Calls.mono h2 fun e w' hR => ?_
  obtain ⟨v, rfl, h3, h4⟩ := hR
  exact hK _ _ (inv_step hbef htr' hmono' hf hi h hsz hun hd h3 h4)
theorem any_last {m : Nat} {ol : Oper} (hsize : ops.size = m + 1) (hol : ops[m]? = some ol) (hlast : allBefore ops m = true) (htr : ∀ a b c, G a b → G b c → G a c) (hmono : ∀ i W W' v, G W W' → Sp i W v → Sp i W' v) (hf : Fits ops a0)
  (hop : ∀ (i : Nat) (o : Oper), i < m → ops[i]? = some o → OpOK P (fun _ => G) (fun _ => G) (m + 1) ops Sp a0 w0 i o)
  (hfwd : ∀ (i : Nat) (o : Oper), ops[i]? = some o → ∀ e ∈ o.after, Region.binds .any e = true → e.on < i)
  (hQ : ∀ a w, G w0 w → a.tmps.size = a0.tmps.size → a.defers = a0.defers → (∀ d, (∀ (j : Nat) (o : Oper), j < m → ops[j]? = some o → o.dst ≠ some d) → a.tmps.getD d undef = a0.tmps.getD d undef) → (∀ (j : Nat) (o : Oper), j < m → ops[j]? = some o → Sp j w (slotOf a o.dst)) →
   ∃ r w'', (execOp a.eval ol).run P w = .ok r w'' ∧ ((∃ v, r = .value v ∧ Q .normal (a.put ol.dst v) w'') ∨ (r = .skip ∧ Q .normal (a.put ol.dst undef) w''))) :
  ∀ (fuel : Nat) (listed : Array Bool) (a : Act) (w : World), listed.size = ops.size → listed.getD m false = false → (listed.toList.filter (fun b => !b)).length ≤ fuel → Inv (fun _ => G) (m + 1) ops Sp a0 w0 listed a w → wpAny P .any ops Q fuel listed a w := by
 have none : ∀ (listed : Array Bool), listed.size = ops.size → (∀ j, j < ops.size → listed.getD j false = true) → Region.ready .any ops listed = [] := by
  intro listed hsz hall
  cases hc : Region.ready .any ops listed with
  | nil => rfl
  | cons j l =>
   have hj : j ∈ Region.ready .any ops listed := by rw [hc]; exact List.mem_cons_self ..
   obtain ⟨h1, o, ho, _⟩ := mem_ready.1 hj
   have hlt := (Array.getElem?_eq_some_iff.1 ho).1
   have h2 := hall j hlt
   rw [Array.getD_eq_getD_getElem?] at h1 h2
   have hls : j < listed.size := by omega
   rw [Array.getElem?_eq_getElem hls] at h1 h2
   simp only [Option.getD_some] at h1 h2
   rw [h2] at h1
   cases h1
 have done : ∀ (fuel : Nat) (listed : Array Bool) (a : Act) (w : World), listed.size = ops.size → (∀ j, j < ops.size → listed.getD j false = true) → Q .normal a w → wpAny P .any ops Q fuel listed a w := by
  intro fuel listed a w hsz hall h
  have hr := none listed hsz hall
  cases fuel with
  | zero => exact ⟨hr, h⟩
  | succ fuel => exact ⟨fun _ => h, fun i hi => by rw [hr] at hi; cases hi⟩
 intro fuel
 induction fuel with
 | zero =>
  intro listed a w hsz hlm hfu h
  exfalso
  have hlt : m < listed.size := by omega
  have : listed[m] ∈ listed.toList.filter (fun b => !b) := List.mem_filter.2 ⟨by simp, by simp [Array.getD_eq_getD_getElem?, hlt] at hlm; simp [hlm]⟩
  have := List.length_pos_of_mem this
  omega
 | succ fuel ih =>
  intro listed a w hsz hlm hfu h
  refine ⟨fun hr => ?_, fun i hi => ?_⟩
  ·exfalso
   have all : ∀ j o, ops[j]? = some o → listed.getD j false = true := by
    intro j
    induction j using Nat.strongRecOn with
    | _ j ihj =>
     intro o ho
     have hj : j < listed.size := by rw [hsz]; exact (Array.getElem?_eq_some_iff.1 ho).1
     cases hl : listed.getD j false with
     | true => rfl
     | false =>
      have : j ∈ Region.ready .any ops listed := mem_ready.2 ⟨by
       simp [Array.getD_eq_getD_getElem?, hj] at hl ⊢; exact hl, o, ho, fun e he hb => by
        have hlt := hfwd j o ho e he hb
        have hlt' : e.on < ops.size := by omega
        exact ihj e.on hlt _ (Array.getElem?_eq_getElem hlt')⟩
      rw [hr] at this
      cases this
   have := all m ol hol
   rw [hlm] at this
   cases this
  ·obtain ⟨h1, o, ho, hd⟩ := mem_ready.1 hi
   have hlt : i < listed.size := by rw [hsz]; exact (Array.getElem?_eq_some_iff.1 ho).1
   have hunl : listed.getD i false = false := by
    simp [Array.getD_eq_getD_getElem?, hlt] at h1 ⊢
    exact h1
   have hli : listed.toList[i]'(by simpa using hlt) = false := by
    simp [Array.getD_eq_getD_getElem?, hlt] at h1
    simpa using h1
   have key : ∀ (l : List Bool) (i : Nat) (h : i < l.length), l[i] = false → ((l.set i true).filter (fun b => !b)).length + 1 = (l.filter (fun b => !b)).length := by
    intro l
    induction l with
    | nil => intro i h; simp at h
    | cons b l ihl =>
     intro i h hb
     cases i with
     | zero => simp at hb; subst hb; simp
     | succ i =>
      have := ihl i (by simpa using h) (by simpa using hb)
      cases b <;> simp [← this]
   have hk := key listed.toList i (by simpa using hlt) hli
   rw [← Array.toList_setIfInBounds] at hk
   by_cases him : i = m
   ·subst him
    rw [hol] at ho
    cases ho
    have hall : ∀ j, j < i → listed.getD j false = true := by
     intro j hj
     have ha : Anc ops i j := before_anc hlast (by omega) hj
     have : ∀ {k : Nat}, Anc ops i k → k = i ∨ listed.getD k false = true := by
      intro k hk
      induction hk with
      | refl => exact .inl rfl
      | step _ ho2 he hbd ih2 =>
       right
       rcases ih2 with rfl | ih2
       ·rw [hol] at ho2
        cases ho2
        exact hd _ he hbd
       ·exact h.clo _ _ ho2 ih2 _ he hbd
     rcases this ha with h2 | h2
     ·omega
     ·exact h2
    obtain ⟨r, w'', hrun, hend⟩ := hQ a w h.below h.size h.defers (fun d hd2 => h.else_ d (fun j oj hj hdj => by
     have hjs := (Array.getElem?_eq_some_iff.1 hj).1
     by_cases hji : j = i
     ·rw [hji]; exact hlm
     ·exact absurd hdj (hd2 j oj (by omega) hj))) (fun j oj hj hoj => h.done j oj hoj (hall j hj))
    unfold wpOp
    rw [hol]
    have hg := hf.1 i ol hol
    simp only [show Region.wanted ol (yielded ops a.tmps) = true by simp [Region.wanted, hg], if_true]
    left
    unfold Oper.wp
    have hset : ∀ j, j < ops.size → (listed.setIfInBounds i true).getD j false = true := by
     intro j hj
     by_cases hji : j = i
     ·subst hji
      have : j < listed.size := by omega
      simp [Array.getD_eq_getD_getElem?, this]
     ·rw [getD_set_ne false (Ne.symm hji)]
      exact hall j (by omega)
    rcases hend with ⟨v, rfl, hq⟩ | ⟨rfl, hq⟩
    ·rw [hrun]
     exact done _ _ _ _ (by simpa using hsz) hset hq
    ·rw [hrun]
     exact done _ _ _ _ (by simpa using hsz) hset hq
   ·have hi2 : i < m := by
     have := (Array.getElem?_eq_some_iff.1 ho).1
     omega
    refine step_sound2 hsize htr hmono hf (hop i o hi2 ho) ho hsz hunl hd h fun a' w' h' => ih _ a' w' (by simpa using hsz) ?_ (by omega) h'
    rw [getD_set_ne false him]
    exact hlm
theorem region_grow_last {l : List Oper} (G : World → World → Prop) (m : Nat) {ol : Oper} {id n : Nat} {a : Act} {w : World} (Sp : Nat → World → Value → Prop) (hm : P.follows .mixedOrders = true) (hn : a.tmps.size = n) (hlen : l.length = m + 1) (hol : l[m]? = some ol) (hfit : fitsB l.toArray n = true) (hfwd : fwdB 0 l = true)
  (hlast : allBefore l.toArray m = true) (hdr : G w { w with drawn := w.drawn + 1 }) (htr : ∀ a b c, G a b → G b c → G a c) (hmono : ∀ i W W' v, G W W' → Sp i W v → Sp i W' v) (hop : OpsOK P (fun _ => G) (fun _ => G) (m + 1) l.toArray Sp a w 0 (l.take m))
  (hQ : ∀ (x : Nat → Value) W', G w W' → (∀ j, j < m → Sp j W' (x j)) → ∃ r W'', (execOp (putAll a x 0 (l.take m)).eval ol).run P W' = .ok r W'' ∧ ((∃ v, r = .value v ∧ Q .normal ((putAll a x 0 (l.take m)).put ol.dst v) W'') ∨ (r = .skip ∧ Q .normal ((putAll a x 0 (l.take m)).put ol.dst undef) W''))) :
  (Code.region id l.toArray true).wp P Q a w := by
 have hf := fits_of hfit hn
 have htk : ∀ (k : Nat) (o : Oper), k < m → ((l.take m)[k]? = some o ↔ l[k]? = some o) := fun k o hk => by rw [List.getElem?_take, if_pos hk]
 refine wp_region_any hm (any_last (Sp := Sp) (a0 := a) (w0 := w) (m := m) (ol := ol) (by simpa using hlen) (by simpa using hol) hlast htr hmono hf (fun i o hi ho => ?_) (fun i o ho => ?_) ?_ _ _ a _ (by simp) (by rw [Array.getD_eq_getD_getElem?, Array.getElem?_replicate]; split <;> rfl) (by simp) ⟨hdr, rfl, rfl, fun _ _ => rfl, fun j o hj hl => ?_, fun j o hj hl => ?_⟩)
 ·have := opsOK_get (l.take m) 0 hop i o ((htk i o hi).2 (by simpa using ho))
  rwa [Nat.zero_add] at this
 ·have := fwd_of l 0 hfwd i o (by simpa using ho)
  rwa [Nat.zero_add] at this
 ·intro a' w' hb hs hd he hdone
  have e : putAll a (fun j => match l[j]? with | some o => slotOf a' o.dst | none => undef) 0 (l.take m) = a' := by
   have h1 := putAll_size (fun j => match l[j]? with | some o => slotOf a' o.dst | none => undef) (l.take m) a 0
   have h2 := putAll_defers (fun j => match l[j]? with | some o => slotOf a' o.dst | none => undef) (l.take m) a 0
   have h3 : (putAll a (fun j => match l[j]? with | some o => slotOf a' o.dst | none => undef) 0 (l.take m)).tmps = a'.tmps := by
    apply Array.ext
    ·rw [h1, hs]
    ·intro d hd1 hd2
     have := putAll_get a' (fun j => match l[j]? with | some o => slotOf a' o.dst | none => undef) d (l.take m) a 0 hs (fun k o hk => by
      have hkm : k < m := by
       have := (List.getElem?_eq_some_iff.1 hk).1
       rw [List.length_take] at this
       omega
      have := (htk k o hkm).1 hk
      simp [this]) (by
      by_cases hc : d ∈ (l.take m).filterMap (·.dst)
      ·exact .inr hc
      ·left
       refine (he d fun j o hj ho hdj => hc ?_).symm
       exact List.mem_filterMap.2 ⟨o, List.mem_of_getElem? ((htk j o hj).2 (by simpa using ho)), hdj⟩)
     simpa [Array.getD_eq_getD_getElem?, hd1, hd2] using this
   cases hp : putAll a (fun j => match l[j]? with | some o => slotOf a' o.dst | none => undef) 0 (l.take m) with
   | mk t ds =>
    rw [hp] at h2 h3
    simp only at h2 h3
    cases a'
    simp only at hd h3
    rw [h2, h3, hd]
  rw [← e]
  refine hQ _ w' hb (fun j hj => ?_)
  have hj' : l[j]? = some l[j] := List.getElem?_eq_getElem (by omega)
  have := hdone j l[j] hj (by simp)
  simp only [hj']
  exact this
 ·rw [Array.getD_eq_getD_getElem?, Array.getElem?_replicate] at hl
  split at hl <;> cases hl
 ·rw [Array.getD_eq_getD_getElem?, Array.getElem?_replicate] at hl
  split at hl <;> cases hl
end
end Go.GrowQ
namespace Go.Proofs.YtlcfpdmicpggbaaGreatDoor
open Go.RowKit Go.Proofs.Spl Go.Proofs.Scn Go.Shelf Go.Grow
def MkPost (lo : Nat) (W : World) (ts : List Tok) (e : Ending) (W' : World) : Prop := ∃ f, e = .returned f ∧ Seq lo W' f ts ∧ Below W.heap.size W W'
theorem some_any (k : Int) (s : Ln) (W : World) (lo : Nat) (hlo : lo ≤ W.heap.size) : Calls Tryz.prog 164 #[.int .i64 k, .string (bs s)] W (MkPost lo W [⟨k, s, 0, 0, 0⟩]) := by
 go_enter Tryz.func164, Tryz.ntmps164
 go_wp2
 go_ret
 have h1 : Boxed ((W.alloc (.cells #[.int .i64 k] 3)).alloc (.cells #[.string (bs s)] 9)) W.heap.size 3 (.int .i64 k) := (Boxed.new _ _ _).alloc _
 have h2 : Boxed ((W.alloc (.cells #[.int .i64 k] 3)).alloc (.cells #[.string (bs s)] 9)) (W.heap.size + 1) 9 (.string (bs s)) := by
  have := Boxed.new (W.alloc (.cells #[.int .i64 k] 3)) 9 (.string (bs s))
  rwa [World.size_alloc] at this
 exact ⟨_, rfl, some1_seq lo _ _ _ hlo (by omega) k s h1 h2, ((Below.refl _ _).alloc (Nat.le_refl _) _).alloc (by simp) _⟩
theorem ssign_any (s : Ln) (W : World) (lo : Nat) (hlo : lo ≤ W.heap.size) : Calls Tryz.prog 90 #[.string (bs s)] W (MkPost lo W [sgT s]) := by
 go_enter Tryz.func90, Tryz.ntmps90
 go_wp2_with (go_at_call 164; refine (some_any 4 s W lo hlo).mono ?_; rintro e W2 ⟨f, rfl, h1, h2⟩)
 go_ret
 exact ⟨_, rfl, h1, h2⟩
theorem sword_any (s : Ln) (W : World) (lo : Nat) (hlo : lo ≤ W.heap.size) : Calls Tryz.prog 92 #[.string (bs s)] W (MkPost lo W [wdT s]) := by
 go_enter Tryz.func92, Tryz.ntmps92
 go_wp2_with (go_at_call 164; refine (some_any 2 s W lo hlo).mono ?_; rintro e W2 ⟨f, rfl, h1, h2⟩)
 go_ret
 exact ⟨_, rfl, h1, h2⟩
theorem sname_any (s : Ln) (W : World) (lo : Nat) (hlo : lo ≤ W.heap.size) : Calls Tryz.prog 93 #[.string (bs s)] W (MkPost lo W [nmT s]) := by
 go_enter Tryz.func93, Tryz.ntmps93
 go_wp2_with (go_at_call 164; refine (some_any 1 s W lo hlo).mono ?_; rintro e W2 ⟨f, rfl, h1, h2⟩)
 go_ret
 exact ⟨_, rfl, h1, h2⟩
theorem row_any (v : Value) (ls : List (List Tok)) (hlen : ls.length ≤ 1000000000) (W : World) (lo : Nat) (hlo : lo ≤ W.heap.size) (hs : Seqs lo W v ls) : Calls Tryz.prog 91 #[v] W (MkPost lo W ls.flatten) := by
 have hs' := hs
 obtain ⟨p, cap, rfl, _⟩ := hs
 go_enter Tryz.func91, Tryz.ntmps91
 go_wp2
 go_ret
 have hb : Below W.heap.size W (W.alloc (.cells #[.slice p ls.length cap] 121)) := (Below.refl _ _).alloc (Nat.le_refl _) _
 exact ⟨_, rfl, row1_seq lo _ W.heap.size hlo _ ls (Boxed.new _ _ _) (hs'.later (KeptL.of_below hb)) hlen, hb⟩
theorem seq_form {lo : Nat} {W : World} {f : Value} {ts : List Tok} (h : Seq lo W f ts) : ∃ g lb, f = .func (.func g) #[] lb ∧ Seq lo W (.func (.func g) #[] lb) ts := by
 have h' := h
 obtain ⟨g, lb, rfl, _⟩ := h
 exact ⟨g, lb, rfl, h'⟩
def AllSeq (lo : Nat) (W : World) : List Value → List (List Tok) → Prop
 | [], [] => True
 | f :: fs, t :: ts => Seq lo W f t ∧ AllSeq lo W fs ts
 | _, _ => False
theorem allSeq_get {lo : Nat} {W : World} : ∀ {fs : List Value} {ls : List (List Tok)}, AllSeq lo W fs ls → fs.length = ls.length ∧ ∀ k (h : k < ls.length), ∃ f, fs[k]? = some f ∧ Seq lo W f ls[k]
 | [], [], _ => ⟨rfl, fun k h => absurd h (by simp)⟩
 | [], _ :: _, h => h.elim
 | _ :: _, [], h => h.elim
 | f :: fs, t :: ts, h => by
  obtain ⟨h1, h2⟩ := allSeq_get h.2
  refine ⟨by simp [h1], fun k hk => ?_⟩
  match k with
  | 0 => exact ⟨f, rfl, h.1⟩
  | k + 1 =>
   obtain ⟨g, h3, h4⟩ := h2 k (by simpa using hk)
   exact ⟨g, by simpa using h3, h4⟩
theorem AllSeq.later {lo : Nat} {W W' : World} (hb : KeptL lo W W') : ∀ {fs : List Value} {ls : List (List Tok)}, AllSeq lo W fs ls → AllSeq lo W' fs ls
 | [], [], _ => trivial
 | [], _ :: _, h => h.elim
 | _ :: _, [], h => h.elim
 | f :: fs, t :: ts, h => ⟨IsSeq.later h.1 (Nat.le_refl _) hb, AllSeq.later hb h.2⟩
inductive Spc where
 | any
 | is (v : Value)
 | seq (ts : List Tok)
 | seqs (ls : List (List Tok))
 | blk (ls : List (List Tok))
def Spc.ok (lo : Nat) : Spc → World → Value → Prop
 | .any, _, _ => True
 | .is c, _, v => v = c
 | .seq ts, W, v => Seq lo W v ts
 | .seqs ls, W, v => Seqs lo W v ls
 | .blk ls, W, v => ∃ b fs, v = .slice (some ⟨b, 0, none⟩) ls.length ls.length ∧ lo ≤ b ∧ W.heap[b]? = some (.cells fs.toArray 79 (0, 0)) ∧ AllSeq lo W fs ls
def Grw (a b : World) : Prop := Below a.heap.size a b
theorem grw_trans (a b c : World) (h : Grw a b) (k : Grw b c) : Grw a c := h.trans (k.mono h.size)
theorem grw_drawn (w : World) : Grw w { w with drawn := w.drawn + 1 } := ⟨rfl, rfl, rfl, Nat.le_refl _, fun _ _ => rfl⟩
theorem Spc.kept {lo : Nat} (s : Spc) {W W' : World} {v : Value} (h : KeptL lo W W') (hs : s.ok lo W v) : s.ok lo W' v := by
 cases s with
 | any => trivial
 | is c => exact hs
 | seq ts => exact IsSeq.later hs (Nat.le_refl _) h
 | seqs ls => exact Seqs.later hs h
 | blk ls =>
  obtain ⟨b, fs, h1, h2, h3, h4⟩ := hs
  exact ⟨b, fs, h1, h2, (h.same b h2 (Array.getElem?_eq_some_iff.1 h3).1).trans h3, h4.later h⟩
theorem Spc.grw {lo : Nat} (s : Spc) {W W' : World} {v : Value} (h : Grw W W') (hs : s.ok lo W v) : s.ok lo W' v := s.kept (KeptL.of_below h) hs
def spcAt (lo : Nat) (l : List Spc) (i : Nat) : World → Value → Prop := (l.getD i .any).ok lo
theorem spcAt_grw (lo : Nat) (l : List Spc) (i : Nat) (W W' : World) (v : Value) (h : Grw W W') (hs : spcAt lo l i W v) : spcAt lo l i W' v := Spc.grw _ h hs
theorem blk_new {lo : Nat} {W : World} {fs : List Value} {ls : List (List Tok)} (h : AllSeq lo W fs ls) (hlo : lo ≤ W.heap.size) :
  Spc.ok lo (.blk ls) (W.alloc (.cells fs.toArray 79)) (.slice (some ⟨W.heap.size, 0, none⟩) ls.length ls.length) ∧ Below W.heap.size W (W.alloc (.cells fs.toArray 79)) := by
 have hb : Below W.heap.size W (W.alloc (.cells fs.toArray 79)) := (Below.refl _ _).alloc (Nat.le_refl _) _
 exact ⟨⟨_, fs, rfl, hlo, World.alloc_heap_new W _, h.later (KeptL.of_below hb)⟩, hb⟩
theorem seqs_new {lo : Nat} {W : World} {fs : List Value} {ls : List (List Tok)} (h : AllSeq lo W fs ls) (hlo : lo ≤ W.heap.size) :
  Seqs lo (W.alloc (.cells fs.toArray 79)) (.slice (some ⟨W.heap.size, 0, none⟩) ls.length ls.length) ls ∧ Below W.heap.size W (W.alloc (.cells fs.toArray 79)) := by
 have hb : Below W.heap.size W (W.alloc (.cells fs.toArray 79)) := (Below.refl _ _).alloc (Nat.le_refl _) _
 obtain ⟨h1, h2⟩ := allSeq_get (h.later (KeptL.of_below hb))
 refine ⟨⟨_, _, rfl, .inr ⟨_, 0, rfl, hlo, by simp, fun k hk => ?_⟩⟩, hb⟩
 obtain ⟨f, h3, h4⟩ := h2 k hk
 refine ⟨f, ?_, h4⟩
 rw [World.cell?_alloc_new W fs.toArray 79 (0 + k), Nat.zero_add]
 simpa using h3
theorem in_any (o c : UInt8) (f : Value) (ts : List Tok) (W : World) (lo : Nat) (hlo : lo ≤ W.heap.size) (hf : Seq lo W f ts) : Calls Tryz.prog 95 #[.string (bs [o, c]), f] W (MkPost lo W (inT o c ts)) := by
 go_enter Tryz.func95, Tryz.ntmps95
 go_wp2_with fail
 have hf0 := hf
 clear hf
 refine region_grow Grw (spcAt lo [.is (.string (bs [o, c])), .is (.string (bs [o])), .seq [sgT [o]], .seq ts, .is (.string (bs [o, c])), .is (.string (bs [c])), .seq [sgT [c]], .seqs [[sgT [o]], ts, [sgT [c]]], .seq (inT o c ts), .seq (inT o c ts)])
  (by kernel_rfl) rfl (by kernel_rfl) (by kernel_rfl) (grw_drawn _) grw_trans (spcAt_grw lo _) ?hops ?hfin
 case hops =>
  refine ⟨?o0, ?o1, ?o2, ?o3, ?o4, ?o5, ?o6, ?o7, ?o8, ?o9, trivial⟩
  all_goals (intro ev W' hG hr hD; have hc := hr.const; have hf := hr.func)
  case o0 =>
   have e0 : ev (.tmp 0) = .string (bs [o, c]) := hr.tmp 0 (by kernel_rfl)
   exact ok_val (by simp [execOp, go_sem, e0]) ⟨Below.refl _ _, rfl⟩
  case o1 =>
   have e5 : ev (.tmp 5) = .string (bs [o, c]) := hD 0 5 (by kernel_rfl)
   exact ok_val (v := .string (bs [o])) (by simp [execOp, go_sem, e5, hc, size_bs]; rfl) ⟨Below.refl _ _, rfl⟩
  case o2 =>
   have e6 : ev (.tmp 6) = .string (bs [o]) := hD 1 6 (by kernel_rfl)
   refine ok_call (f := 90) (args := #[.string (bs [o])]) (by simp [execOp, go_sem, e6, hc, hf]) ?_
   refine (ssign_any [o] W' lo (Nat.le_trans hlo hG.size)).mono ?_
   rintro e W2 ⟨f, rfl, h1, h2⟩
   exact ⟨f, rfl, h2, h1⟩
  case o3 =>
   have e1 : ev (.tmp 1) = f := hr.tmp 1 (by kernel_rfl)
   exact ok_val (v := f) (by simp [execOp, go_sem, e1]) ⟨Below.refl _ _, hf0.later (Nat.le_refl _) (KeptL.of_below hG)⟩
  case o4 =>
   have e0 : ev (.tmp 0) = .string (bs [o, c]) := hr.tmp 0 (by kernel_rfl)
   exact ok_val (by simp [execOp, go_sem, e0]) ⟨Below.refl _ _, rfl⟩
  case o5 =>
   have e9 : ev (.tmp 9) = .string (bs [o, c]) := hD 4 9 (by kernel_rfl)
   exact ok_val (v := .string (bs [c])) (by simp [execOp, go_sem, e9, hc, size_bs]; rfl) ⟨Below.refl _ _, rfl⟩
  case o6 =>
   have e10 : ev (.tmp 10) = .string (bs [c]) := hD 5 10 (by kernel_rfl)
   refine ok_call (f := 90) (args := #[.string (bs [c])]) (by simp [execOp, go_sem, e10, hc, hf]) ?_
   refine (ssign_any [c] W' lo (Nat.le_trans hlo hG.size)).mono ?_
   rintro e W2 ⟨f, rfl, h1, h2⟩
   exact ⟨f, rfl, h2, h1⟩
  case o7 =>
   obtain ⟨g7, l7, e7, s7⟩ := seq_form (show Seq lo W' (ev (.tmp 7)) [sgT [o]] from hD 2 7 (by kernel_rfl))
   obtain ⟨g8, l8, e8, s8⟩ := seq_form (show Seq lo W' (ev (.tmp 8)) ts from hD 3 8 (by kernel_rfl))
   obtain ⟨g11, l11, e11, s11⟩ := seq_form (show Seq lo W' (ev (.tmp 11)) [sgT [c]] from hD 6 11 (by kernel_rfl))
   have hn := seqs_new (fs := [.func (.func g7) #[] l7, .func (.func g8) #[] l8, .func (.func g11) #[] l11]) (ls := [[sgT [o]], ts, [sgT [c]]]) ⟨s7, s8, s11, trivial⟩ (Nat.le_trans hlo hG.size)
   exact ok_new (v := .slice (some ⟨W'.heap.size, 0, none⟩) 3 3) (W' := W'.alloc (.cells #[.func (.func g7) #[] l7, .func (.func g8) #[] l8, .func (.func g11) #[] l11] 79)) (by simp [execOp, go_sem, e7, e8, e11]) ⟨hn.2, hn.1⟩
  case o8 =>
   have s12 : Seqs lo W' (ev (.tmp 12)) [[sgT [o]], ts, [sgT [c]]] := hD 7 12 (by kernel_rfl)
   refine ok_call (f := 91) (args := #[ev (.tmp 12)]) (by simp [execOp, go_sem, hc, hf]) ?_
   refine (row_any _ _ (by simp) W' lo (Nat.le_trans hlo hG.size) s12).mono ?_
   rintro e W2 ⟨f, rfl, h1, h2⟩
   refine ⟨f, rfl, h2, ?_⟩
   show Seq lo W2 f (inT o c ts)
   simpa [inT] using h1
  case o9 =>
   have s13 : Seq lo W' (ev (.tmp 13)) (inT o c ts) := hD 8 13 (by kernel_rfl)
   exact ok_val (by simp [execOp, go_sem]) ⟨Below.refl _ _, s13⟩
 case hfin =>
  intro x W' hG hx
  have h9 : Seq lo W' (x 9) (inT o c ts) := hx 9 (by simp)
  simp only [putAll, Act.put, List.setIfInBounds_toArray, List.set_cons_zero, List.set_cons_succ]
  go_wp2_with fail
  go_ret
  exact ⟨_, rfl, h9, hG⟩
end Go.Proofs.YtlcfpdmicpggbaaGreatDoor
namespace Go.Proofs.YtlcfpdmicpggbaaGreatDoor
open Go.RowKit Go.Proofs.Spl Go.Proofs.Scn Go.Shelf Go.Grow
def Lies (n : Nat) (V : World) (q : Option Nat) (f : Value) (ts : List Tok) : Prop :=
 ∃ lo W, Seq lo W f ts ∧ KeptL lo W V ∧ n ≤ lo ∧ ∀ r, q = some r → r < lo ∨ W.heap.size ≤ r
theorem Lies.seq {n : Nat} {V : World} {q : Option Nat} {f : Value} {ts : List Tok} (h : Lies n V q f ts) : Seq n V f ts := by
 obtain ⟨lo, W, h1, h2, h3, _⟩ := h
 exact h1.later h3 h2
theorem Lies.grown {n : Nat} {V V' : World} {q q' : Option Nat} {f : Value} {ts : List Tok} (h : Lies n V q f ts) (hg : V.grownBy V' q) (hq : ∀ r, q' = some r → q = some r ∨ V.heap.size ≤ r) : Lies n V' q' f ts := by
 obtain ⟨lo, W, h1, h2, h3, h4⟩ := h
 have hs := h2.size
 refine ⟨lo, W, h1, ⟨Nat.le_trans hs hg.size, fun r hr hl => ?_⟩, h3, fun r hr => ?_⟩
 ·rw [hg.block r (Nat.lt_of_lt_of_le hl hs) (fun e => by rcases h4 r e.symm with h | h <;> omega)]
  exact h2.same r hr hl
 ·rcases hq r hr with h | h
  ·exact h4 r h
  ·right; omega
theorem Lies.later {n : Nat} {V V' : World} {q : Option Nat} {f : Value} {ts : List Tok} (h : Lies n V q f ts) (hb : Below V.heap.size V V') : Lies n V' q f ts := by
 obtain ⟨lo, W, h1, h2, h3, h4⟩ := h
 exact ⟨lo, W, h1, h2.trans (KeptL.of_below hb), h3, h4⟩
def AllL (n : Nat) (V : World) (q : Option Nat) : List Value → List (List Tok) → Prop
 | [], [] => True
 | f :: fs, t :: ts => Lies n V q f t ∧ AllL n V q fs ts
 | _, _ => False
theorem AllL.map {n : Nat} {V V' : World} {q q' : Option Nat} (h : ∀ f ts, Lies n V q f ts → Lies n V' q' f ts) : ∀ {fs : List Value} {ls : List (List Tok)}, AllL n V q fs ls → AllL n V' q' fs ls
 | [], [], _ => trivial
 | [], _ :: _, h => h.elim
 | _ :: _, [], h => h.elim
 | f :: fs, t :: ts, hh => ⟨h _ _ hh.1, AllL.map h hh.2⟩
theorem AllL.seq {n : Nat} {V : World} {q : Option Nat} : ∀ {fs : List Value} {ls : List (List Tok)}, AllL n V q fs ls → AllSeq n V fs ls
 | [], [], _ => trivial
 | [], _ :: _, h => h.elim
 | _ :: _, [], h => h.elim
 | f :: fs, t :: ts, hh => ⟨hh.1.seq, AllL.seq hh.2⟩
theorem AllL.snoc {n : Nat} {V : World} {q : Option Nat} {f : Value} {t : List Tok} (hf : Lies n V q f t) : ∀ {fs : List Value} {ls : List (List Tok)}, AllL n V q fs ls → AllL n V q (fs ++ [f]) (ls ++ [t])
 | [], [], _ => ⟨hf, trivial⟩
 | [], _ :: _, h => h.elim
 | _ :: _, [], h => h.elim
 | _ :: _, _ :: _, hh => ⟨hh.1, AllL.snoc hf hh.2⟩
theorem AllL.len {n : Nat} {V : World} {q : Option Nat} {fs : List Value} {ls : List (List Tok)} (h : AllL n V q fs ls) : fs.length = ls.length := (allSeq_get h.seq).1
theorem fnInfo : (Tryz.prog.info? 79).map (fun i => (i.zero, i.size, i.bytes)) = some (some Value.nilFunc, 1, 8) := by kernel_rfl
theorem fnSlice : Tryz.prog.underlying 121 = some (.slice 79) := by kernel_rfl
structure EachS (W : World) (out : Value) (fs : List Value) (ls : List (List Tok)) (V : World) : Prop where
 own : V.ownsRow W.heap.size 79 1 out fs.length fs
 lies : AllL W.heap.size V out.ownBlock fs ls
 bel : Below W.heap.size W V
theorem EachS.nil (W V : World) (h : Below W.heap.size W V) : EachS W (.slice none 0 0) [] [] V := ⟨World.ownsRow_nil _ _ _ _, trivial, h⟩
theorem EachS.lt {W : World} {out : Value} {fs : List Value} {ls : List (List Tok)} {V : World} (h : EachS W out fs ls V) : ∀ r, out.ownBlock = some r → W.heap.size ≤ r ∧ r < V.heap.size := World.ownsRow.lt h.own
theorem EachS.later {W : World} {out : Value} {fs : List Value} {ls : List (List Tok)} {V V' : World} (h : EachS W out fs ls V) (hb : Below V.heap.size V V') : EachS W out fs ls V' := by
 refine ⟨⟨h.own.1, ?_⟩, h.lies.map (fun f ts hl => hl.later hb), h.bel.trans (hb.mono h.bel.size)⟩
 rcases h.own.2 with h0 | ⟨g, cap, cur, hv, hB, hgc, h1⟩
 ·exact .inl h0
 ·exact .inr ⟨g, cap, cur, hv, hB, (hb.block g (Array.getElem?_eq_some_iff.1 hgc).1).trans hgc, h1⟩
theorem EachS.app {W : World} {out : Value} {fs : List Value} {ls : List (List Tok)} {V V1 : World} (h : EachS W out fs ls V) {f : Value} {t : List Tok} {lo : Nat} (hf : Seq lo V f t) (hlo : W.heap.size ≤ lo) (hq : ∀ r, out.ownBlock = some r → r < lo)
  (hb : Below V.heap.size V V1) {g cap : Nat} {w' : World} (hown : w'.ownsRow W.heap.size 79 1 (.slice (some ⟨g, 0, none⟩) (fs.length + 1) cap) (fs.length + 1) (fs ++ [f])) (hgr : V1.grownBy w' out.ownBlock) (hat : out.ownBlock = some g ∨ g = V1.heap.size) :
  EachS W (.slice (some ⟨g, 0, none⟩) (fs.length + 1) cap) (fs ++ [f]) (ls ++ [t]) w' := by
 have h1 := h.later hb
 have hnew : Lies W.heap.size V1 out.ownBlock f t := ⟨lo, V, hf, KeptL.of_below hb, hlo, fun r hr => .inl (hq r hr)⟩
 refine ⟨by rw [List.length_append]; exact hown, (AllL.snoc hnew h1.lies).map (fun f ts hl => hl.grown hgr (fun r hr => ?_)), h1.bel.grown hgr h1.bel.size (fun k hk => (h.lt k hk).1)⟩
 cases hr
 rcases hat with h | h
 ·exact .inl h
 ·exact .inr (Nat.le_of_eq h.symm)
theorem EachS.step {W : World} {out : Value} {fs : List Value} {ls : List (List Tok)} {wr W3 : World} {o : Obj} (h : EachS W out fs ls wr) {f : Value} {t : List Tok} (hb : Below (wr.alloc o).heap.size (wr.alloc o) W3) (hf : Seq (wr.alloc o).heap.size W3 f t) {o2 : Obj} {g cap : Nat} {w1 : World}
  (hown : w1.ownsRow W.heap.size 79 1 (.slice (some ⟨g, 0, none⟩) (fs.length + 1) cap) (fs.length + 1) (fs ++ [f])) (hgr : (W3.alloc o2).grownBy w1 out.ownBlock) (hat : out.ownBlock = some g ∨ g = (W3.alloc o2).heap.size) :
  EachS W (.slice (some ⟨g, 0, none⟩) (fs.length + 1) cap) (fs ++ [f]) (ls ++ [t]) w1 ∧ w1.heap[wr.heap.size]? = some o ∧ wr.heap.size < w1.heap.size := by
 have hB := h.bel.size
 have hs := hb.size
 have hs2 := hgr.size
 rw [World.size_alloc] at hs hs2
 have e : w1.heap[wr.heap.size]? = some o := by
  rw [hgr.block _ (by rw [World.size_alloc]; omega) (fun e => by have := (h.lt _ e.symm).2; omega), Below.heap_alloc _ _ _ (by omega), hb.block _ (by rw [World.size_alloc]; omega)]
  exact World.alloc_heap_new wr o
 refine ⟨((h.later ((Below.refl _ _).alloc (Nat.le_refl _) _)).later hb).app hf (by rw [World.size_alloc]; omega) (fun r hr => by have := (h.lt r hr).2; rw [World.size_alloc]; omega) ((Below.refl _ _).alloc (Nat.le_refl _) _) hown hgr hat, e, by omega⟩
theorem EachS.seqs {W : World} {out : Value} {fs : List Value} {ls : List (List Tok)} {V : World} (h : EachS W out fs ls V) : Seqs W.heap.size V out ls := by
 obtain ⟨h1, h2⟩ := allSeq_get h.lies.seq
 have hlen := h1
 rcases h.own.2 with ⟨rfl, h0⟩ | ⟨g, cap, cur, rfl, hB, hg, hn, hc, hs, ht⟩
 ·have : ls = [] := List.eq_nil_of_length_eq_zero (by omega)
  subst this
  exact ⟨none, 0, rfl, .inl rfl⟩
 ·refine ⟨_, cap, by rw [h1], .inr ⟨g, 0, rfl, hB, (Array.getElem?_eq_some_iff.1 hg).1, fun k hk => ?_⟩⟩
  obtain ⟨f, h3, h4⟩ := h2 k hk
  refine ⟨f, ?_, h4⟩
  rw [Nat.zero_add, cell_of_row V g k cur _ (0, 0) hg, ← h3, ← ht]
  have : k < fs.length := by omega
  rw [List.getElem?_take, if_pos (by omega)]
  simp
def inter (s : Ln) : List (List Tok) → List (List Tok)
 | [] => []
 | a :: r => a :: r.flatMap fun b => [[sgT s], b]
theorem inter_flat (s : Ln) : ∀ l : List (List Tok), (inter s l).flatten = sepS s l
 | [] => rfl
 | [a] => by simp [inter, sepS]
 | a :: b :: r => by
  have := inter_flat s (b :: r)
  simp only [inter, List.flatten_cons] at this
  simp [inter, sepS, ← this]
theorem inter_snoc (s : Ln) (l : List (List Tok)) (a : List Tok) (h : l ≠ []) : inter s (l ++ [a]) = (inter s l ++ [[sgT s]]) ++ [a] := by
 match l, h with
 | x :: r, _ => simp [inter]
theorem two_len (s : Ln) : ∀ r : List (List Tok), (r.flatMap fun b => [[sgT s], b]).length = 2 * r.length
 | [] => rfl
 | a :: r => by
  have := two_len s r
  simp only [List.flatMap_cons, List.length_append, List.length_cons, List.length_nil, this]
  omega
theorem inter_len (s : Ln) (l : List (List Tok)) : (inter s l).length ≤ 2 * l.length := by
 match l with
 | [] => simp [inter]
 | x :: r =>
  have := two_len s r
  simp only [inter, List.length_cons, this]
  omega
end Go.Proofs.YtlcfpdmicpggbaaGreatDoor
