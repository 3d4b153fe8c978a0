/- The reference's Cat. -/
import Derived.Test.YtafhnkhcbfilaaaB7
namespace Go.Proofs.Ytafhnkhcbfilaaa
open Go.RowKit Go.Flow
set_option linter.unusedVariables false
set_option linter.unusedSimpArgs false
set_option maxRecDepth 100000

theorem catW_pos (l : List (Int × Nat)) (h : (l.all fun x => mayB x.1 x.2) = true) (h0 : 0 < l.length) : 0 < catW l := by
  match l, h0 with
  | x :: l, _ =>
    have h1 := catW_mono (x :: l) h l.length 1 (by simp; omega)
    simp only [List.all_cons, Bool.and_eq_true] at h
    have h2 := mayB_pos h.1
    have : catW ((x :: l).take 1) = x.1 := by simp [catW]
    omega

theorem catW_le (l : List (Int × Nat)) (h : (l.all fun x => mayB x.1 x.2) = true) : ∀ k, k ≤ l.length → catW (l.take k) ≤ 64 * k
  | 0, _ => by simp [catW]
  | k + 1, hk => by
    obtain ⟨x, hx⟩ : ∃ x, l[k]? = some x := ⟨_, List.getElem?_eq_getElem (by omega)⟩
    have h1 := catW_le l h k (by omega)
    rw [catW_snoc l k x hx]
    have := mayB_pos (List.all_eq_true.1 h x (List.mem_of_getElem? hx))
    omega

set_option maxHeartbeats 2000000 in
theorem refCat_some (b off cap : Nat) (l : List (Int × Nat)) (W : World) (hl : BitsAt W b off l) (hb : b < W.heap.size) (hlen : l.length ≤ 1000) (h0 : 0 < l.length) :
    Calls Try.prog 23 #[.slice (some ⟨b, off, none⟩) l.length cap] W (CatPost l W) := by
  have hBW : Below W.heap.size W (W.alloc (.cells #[.int .i64 0, .int .u64 0] 24)) := (Below.refl _ _).alloc (Nat.le_refl _) _
  go_enter Try.func23, Try.ntmps23
  go_wp2_with fail
  go_loopw [4, 5] (fun t i wr => ∃ k : Nat, k ≤ l.length ∧ i = .int .i64 k ∧ t = .int .i64 (catW (l.take k)) ∧ ((l.take k).all fun x => mayB x.1 x.2) = true ∧ Box wr W.heap.size (.int .i64 0) (.int .u64 0) ∧ Below W.heap.size W wr) (fun _ i _ => l.length - (intOf i).toNat)
  case atStart => exact ⟨0, by omega, rfl, rfl, rfl, Box.new W _ _ 24, hBW⟩
  case round =>
    obtain ⟨k, hk, rfl, rfl, hall, hbox, hbel⟩ := hrel
    by_cases hlt : k < l.length
    · obtain ⟨x, hx⟩ : ∃ x, l[k]? = some x := ⟨_, List.getElem?_eq_getElem hlt⟩
      obtain ⟨c0, c1, c2⟩ := hl.later hb hbel k x hx
      have hs0 := catW_nonneg _ hall
      have hs1 := catW_le _ hall k (by simp; omega)
      rw [List.take_take, Nat.min_self] at hs1
      have hs2 : catW (l.take k) ≤ 64000 := by omega
      have hsn := Lib.hid (catW_snoc l k x hx)
      have hall' := Lib.hid hall
      have hx' := Lib.hid hx
      clear hall hx hs1
      generalize catW (l.take k) = s at *
      have hB2 : b < wr.heap.size := Nat.lt_of_lt_of_le hb hbel.size
      cases hm : mayB x.1 x.2
      · have he : errE (mayB x.1 x.2) = 1 := by rw [hm]; rfl
        go_wp2_with fail
        refine (refCheck_any x.1 x.2 _ c2).mono ?_
        rintro e W2 ⟨rfl, hb2⟩
        obtain ⟨r0, r1, rf0, rf1, rl⟩ := hbox.later hb2
        go_wp2
        have hno : (l.all fun x => mayB x.1 x.2) = false := by
          rw [List.all_eq_false]
          exact ⟨x, List.mem_of_getElem? hx'.out, by simp [hm]⟩
        have hE : catE l = 1 := by simp [catE, hno]
        refine bodyPost_ret (v := .tuple #[.agg #[.int .i64 0, .int .u64 0], .int .i64 1]) ?_ rfl ⟨by rw [hE]; rfl, ?_⟩
        · simp [results, Try.results23, go_sem, r0, r1, rf0, rf1]
        · exact ((hbel.trans (hb2.mono hbel.size)).setCell (by simp) _).setCell (by simp) _
      · have he : errE (mayB x.1 x.2) = 0 := by rw [hm]; rfl
        obtain ⟨p1, p2⟩ := mayB_pos hm
        have hm' := Lib.hid hm
        clear hm
        go_wp2_with fail
        refine (refCheck_any x.1 x.2 _ c2).mono ?_
        rintro e W2 ⟨rfl, hb2⟩
        have hbox2 := hbox.later hb2
        have c0' := (hb2.cell (p := ⟨b, _, none⟩) hB2).trans c0
        have c1' := (hb2.cell (p := ⟨b, _, none⟩) hB2).trans c1
        go_wp2
        go_roundw
        case rel =>
          refine ⟨k + 1, by omega, by go_num, by rw [hsn.out], ?_, hbox2, hbel.trans (hb2.mono hbel.size)⟩
          rw [List.take_add_one, hx'.out, List.all_append, hall'.out]
          simp [hm'.out]
        case measure => simp [intOf]; omega
    · obtain rfl : k = l.length := by omega
      rw [List.take_length] at *
      have hs0 := catW_pos _ hall h0
      have hs1 := catW_le _ hall l.length (by omega)
      rw [List.take_length] at hs1
      have hs2 : catW l ≤ 64000 := by omega
      have hne : (catW l == 0) = false := by simp; omega
      have h1 : l.isEmpty = false := by cases l <;> simp_all
      have hall' := Lib.hid hall
      clear hs1 hall
      by_cases h64 : catW l ≤ 64
      · have hE : catE l = 0 := by simp [catE, hall'.out, h1, h64]
        have hE' := Lib.hid hE
        clear hE
        go_wp2_with fail
        go_loopw [6, 7] (fun t i wr => ∃ k : Nat, k ≤ l.length ∧ i = .int .i64 k ∧ t = .int .u64 (catV (l.take k)) ∧ Box wr W.heap.size (.int .i64 0) (.int .u64 0) ∧ Below W.heap.size W wr) (fun _ i _ => l.length - (intOf i).toNat)
        case atStart => exact ⟨0, by omega, rfl, rfl, hbox, hbel⟩
        case round =>
          clear hbox hbel
          obtain ⟨k, hk, rfl, rfl, hbox, hbel⟩ := hrel
          by_cases hlt : k < l.length
          · obtain ⟨x, hx⟩ : ∃ x, l[k]? = some x := ⟨_, List.getElem?_eq_getElem hlt⟩
            obtain ⟨c0, c1, c2⟩ := hl.later hb hbel k x hx
            have hmx : mayB x.1 x.2 = true := List.all_eq_true.1 hall'.out x (List.mem_of_getElem? hx)
            have hvn := Lib.hid (catV_snoc l k x hx)
            obtain ⟨c, v⟩ := x
            obtain ⟨q, hq, q0, q64, _⟩ := mayB_true hmx
            dsimp only at hq
            subst hq
            dsimp only at c0 c1 c2 hvn
            have hx' := Lib.hid hx
            clear hx hmx
            have u0 := wrapu64_same q (by omega)
            generalize catV (l.take k) = z at *
            have u3 := u64_or_nat (upN z q) v (upN_lt _ _) c2
            go_wp2_with fail
            go_quiet ((go_at_call 41; exact Calls.quiet_of_same ((up_any _ _ _).mono fun _ _ h => ⟨h.1, h.2.symm⟩)))
            go_wp2
            go_roundw
            case rel => exact ⟨k + 1, by omega, by go_num, by rw [hvn.out]; rfl, hbox.drewN _, below_drewN hbel _⟩
            case measure => simp [intOf]; omega
          · obtain rfl : k = l.length := by omega
            rw [List.take_length] at *
            obtain ⟨r0, r1, rf0, rf1, rl⟩ := hbox
            go_wp2
            refine bodyPost_ret (v := .tuple #[.agg #[.int .i64 (catW l), .int .u64 (catV l)], .int .i64 0]) ?_ rfl ⟨by rw [hE'.out]; rfl, ?_⟩
            · simp [results, Try.results23, go_sem, r0, r1, rf0, rf1]
            · exact (hbel.setCell (by simp) _).setCell (by simp) _
      · have hE : catE l = 2 := by simp [catE, hall'.out, h1, h64]
        have h64' : 64 < catW l := by omega
        have hE' := Lib.hid hE
        obtain ⟨r0, r1, rf0, rf1, rl⟩ := hbox
        clear hE h64
        go_wp2
        refine bodyPost_ret (v := .tuple #[.agg #[.int .i64 0, .int .u64 0], .int .i64 2]) ?_ rfl ⟨by rw [hE'.out]; rfl, ?_⟩
        · simp [results, Try.results23, go_sem, r0, r1, rf0, rf1]
        · exact (hbel.setCell (by simp) _).setCell (by simp) _

end Go.Proofs.Ytafhnkhcbfilaaa
