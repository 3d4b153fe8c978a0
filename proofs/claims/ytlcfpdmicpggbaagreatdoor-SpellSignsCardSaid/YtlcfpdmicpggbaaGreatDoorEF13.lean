/- Texts of the seat, merged. -/
import Derived.Test.YtlcfpdmicpggbaaGreatDoorEF11
import Derived.Test.YtlcfpdmicpggbaaGreatDoorQ16
set_option linter.unusedVariables false
set_option linter.unusedSimpArgs false
set_option maxRecDepth 100000
set_option maxHeartbeats 16000000
namespace Go.Proofs.YtlcfpdmicpggbaaGreatDoor
open Go.RowKit Go.Proofs.Spl Go.Proofs.Scn Go.Shelf
theorem lrank_any (n : Int) (h1 : 11 ≤ n) (h2 : n ≤ 26) (W : World) : RetN 30 #[.int .i64 n] W (twoR n) := by
 have hn : n = 11 ∨ n = 12 ∨ n = 13 ∨ n = 14 ∨ n = 15 ∨ n = 16 ∨ n = 17 ∨ n = 18 ∨ n = 19 ∨ n = 20 ∨ n = 21 ∨ n = 22 ∨ n = 23 ∨ n = 24 ∨ n = 25 ∨ n = 26 := by omega
 rcases hn with rfl | rfl | rfl | rfl | rfl | rfl | rfl | rfl | rfl | rfl | rfl | rfl | rfl | rfl | rfl | rfl <;>
  (clear h1 h2
   go_enter Tryz.func30, Tryz.ntmps30
   go_wp2
   go_ret
   exact ⟨rfl, (Below.refl _ _).alloc (Nat.le_refl _) _⟩)
theorem len_shape {B L : Nat} {w : World} {v : Value} {ts : List Tok} (h : TokRow B w v ts) (e : ts.length = L) : ∃ p c, v = .slice p L c := by
 subst e
 exact h.shape
theorem one_x (W : World) (x : X) (cs : List Value) (hR : XR W x cs) (h6 : cs.length = 6) : XsR (W.alloc (.cells cs.toArray 28)) (.slice (some ⟨W.heap.size, 0, none⟩) 1 1) [x] := by
 refine ⟨_, _, rfl, Nat.le_refl _, .inr ⟨W.heap.size, 0, rfl, by simp, fun k hk => ?_⟩⟩
 have : k = 0 := by simpa using hk
 subst this
 refine ⟨cs, XR.later ((Below.refl _ _).alloc (Nat.le_refl _) _) _ _ hR, fun j hj => ?_⟩
 rw [World.cell?_alloc_new W cs.toArray 28 (0 + 0 * 6 + j)]
 simp
theorem name_size (s : Ln) : sizeX (nameX s) ≤ 60000 := by rw [(size_name s).1]; decide
theorem name_sm {s : Ln} (h : s.length ≤ 140737488355328) : smX (nameX s) = true := by
 rw [smX_iff]
 simp only [nameX, X.name, X.l, List.all_nil, Bool.and_true]
 exact decide_eq_true h
theorem signs_any (p q : Nat) (hp : p < 256) (hq : q < 256) (a b c : Ln) (ha : a.length ≤ 140737488355328) (hb0 : b.length ≤ 140737488355328) (hc0 : c.length ≤ 140737488355328) (W : World) (hB : BaseA W) :
  RetB 7 #[.int .u8 p, .int .u8 q, .string (bs a), .string (bs b), .string (bs c)] W true := by
 have HB := Lib.hid hB
 have HA := Lib.hid ha
 have HBb := Lib.hid hb0
 have HCc := Lib.hid hc0
 clear hB ha hb0 hc0
 obtain ⟨ra, hra⟩ : ∃ r, r = checkX (nameX a) := ⟨_, rfl⟩
 obtain ⟨rb, hrb⟩ : ∃ r, r = checkX (nameX b) := ⟨_, rfl⟩
 obtain ⟨rc, hrc⟩ : ∃ r, r = checkX (nameX c) := ⟨_, rfl⟩
 have KA := Lib.hid (fun (W9 : World) (h : Below W.heap.size W W9) => show RetE 28 #[.agg #[.int .i64 2, .string (bs a), .int .i64 0, .int .i64 0, .int .u64 0, .slice none 0 0]] W9 ra by rw [hra]; exact checkX_any (nameX a) _ W9 (HB.out.later h) (name_xr a W9) (name_sm HA.out) (Nat.le_trans (name_size a) (by decide)))
 have KB := Lib.hid (fun (W9 : World) (h : Below W.heap.size W W9) => show RetE 28 #[.agg #[.int .i64 2, .string (bs b), .int .i64 0, .int .i64 0, .int .u64 0, .slice none 0 0]] W9 rb by rw [hrb]; exact checkX_any (nameX b) _ W9 (HB.out.later h) (name_xr b W9) (name_sm HBb.out) (Nat.le_trans (name_size b) (by decide)))
 have KC := Lib.hid (fun (W9 : World) (h : Below W.heap.size W W9) => show RetE 28 #[.agg #[.int .i64 2, .string (bs c), .int .i64 0, .int .i64 0, .int .u64 0, .slice none 0 0]] W9 rc by rw [hrc]; exact checkX_any (nameX c) _ W9 (HB.out.later h) (name_xr c W9) (name_sm HCc.out) (Nat.le_trans (name_size c) (by decide)))
 have HRA := Lib.hid hra
 have HRB := Lib.hid hrb
 have HRC := Lib.hid hrc
 clear hra hrb hrc
 go_enter Tryz.func7, Tryz.ntmps7
 have F1 := True.intro
 have F2 := True.intro
 have F3 := True.intro
 go_wp2_with (first
  | (go_at_call 12; refine (live_any W HB.out).mono ?_; rintro e W0 ⟨rfl, hb⟩; have X0 := Lib.hid hb; clear hb)
  | (go_at_call 27; clear F1; refine (lname_any a W0).mono ?_; rintro e W1 ⟨rfl, hb⟩; have X1 := Lib.hid (X0.out.trans (hb.mono X0.out.size)); clear hb)
  | (go_at_call 27; clear F2; refine (lname_any b (W1.alloc (.cells #[.int .i64 2, .string (bs a), .int .i64 0, .int .i64 0, .int .u64 0, .slice none 0 0] 28))).mono ?_; rintro e W2 ⟨rfl, hb⟩; have X2 := Lib.hid ((X1.out.alloc X1.out.size _).trans (hb.mono (X1.out.alloc X1.out.size _).size)); have A2 := (hb.block W1.heap.size (by simp)).trans (World.alloc_heap_new W1 _); have L2 := Lib.hid (Nat.lt_of_lt_of_le (show W1.heap.size < (W1.alloc _).heap.size by simp) hb.size); have A2 := Lib.hid A2; clear hb)
  | (go_at_call 27; clear F3; refine (lname_any c (W2.alloc (.cells #[.int .i64 2, .string (bs b), .int .i64 0, .int .i64 0, .int .u64 0, .slice none 0 0] 28))).mono ?_; rintro e W3 ⟨rfl, hb⟩; have X3 := Lib.hid ((X2.out.alloc X2.out.size _).trans (hb.mono (X2.out.alloc X2.out.size _).size)); have f3 := World.alloc_heap_new W3 (.cells #[.int .i64 2, .string (bs c), .int .i64 0, .int .i64 0, .int .u64 0, .slice none 0 0] 28); have l3 : W2.heap.size < W3.heap.size := Nat.lt_of_lt_of_le (show W2.heap.size < (W2.alloc _).heap.size by simp) hb.size; have l2 := L2.out; have f2 := (Below.heap_alloc W3 (.cells #[.int .i64 2, .string (bs c), .int .i64 0, .int .i64 0, .int .u64 0, .slice none 0 0] 28) _ l3).trans ((hb.block W2.heap.size (by simp)).trans (World.alloc_heap_new W2 _)); have f1 := (Below.heap_alloc W3 (.cells #[.int .i64 2, .string (bs c), .int .i64 0, .int .i64 0, .int .u64 0, .slice none 0 0] 28) W1.heap.size (by omega)).trans ((hb.block W1.heap.size (by simp; omega)).trans ((Below.heap_alloc _ _ _ L2.out).trans A2.out)); obtain ⟨ka0, ka1, ka2, ka3, ka4, ka5⟩ := cells6 f1; obtain ⟨kb0, kb1, kb2, kb3, kb4, kb5⟩ := cells6 f2; obtain ⟨kc0, kc1, kc2, kc3, kc4, kc5⟩ := cells6 f3; have XV := Lib.hid (X3.out.alloc X3.out.size (.cells #[.int .i64 2, .string (bs c), .int .i64 0, .int .i64 0, .int .u64 0, .slice none 0 0] 28)); have G1 := Lib.hid f1; have G2 := Lib.hid f2; have G3 := Lib.hid f3; clear hb f1 f2 f3 l2 l3)
  | (go_at_call 28; refine (KA.out _ XV.out).mono ?_; rintro e W4 ⟨rfl, hb⟩; have X4 := Lib.hid (XV.out.trans (hb.mono XV.out.size)); have g1 := (hb.block _ (Array.getElem?_eq_some_iff.1 G1.out).1).trans G1.out; have g2 := (hb.block _ (Array.getElem?_eq_some_iff.1 G2.out).1).trans G2.out; have g3 := (hb.block _ (Array.getElem?_eq_some_iff.1 G3.out).1).trans G3.out; obtain ⟨la0, la1, la2, la3, la4, la5⟩ := cells6 g1; obtain ⟨lb0, lb1, lb2, lb3, lb4, lb5⟩ := cells6 g2; obtain ⟨lc0, lc1, lc2, lc3, lc4, lc5⟩ := cells6 g3; have H1 := Lib.hid g1; have H2 := Lib.hid g2; have H3 := Lib.hid g3; clear hb g1 g2 g3 KA)
  | (go_at_call 28; refine (KB.out _ X4.out).mono ?_; rintro e W5 ⟨rfl, hb⟩; have X5 := Lib.hid (X4.out.trans (hb.mono X4.out.size)); have g1 := (hb.block _ (Array.getElem?_eq_some_iff.1 H1.out).1).trans H1.out; have g2 := (hb.block _ (Array.getElem?_eq_some_iff.1 H2.out).1).trans H2.out; have g3 := (hb.block _ (Array.getElem?_eq_some_iff.1 H3.out).1).trans H3.out; obtain ⟨la0, la1, la2, la3, la4, la5⟩ := cells6 g1; obtain ⟨lb0, lb1, lb2, lb3, lb4, lb5⟩ := cells6 g2; obtain ⟨lc0, lc1, lc2, lc3, lc4, lc5⟩ := cells6 g3; have I1 := Lib.hid g1; have I2 := Lib.hid g2; have I3 := Lib.hid g3; clear hb g1 g2 g3 KB)
  | (go_at_call 28; refine (KC.out _ X5.out).mono ?_; rintro e W6 ⟨rfl, hb⟩; have X6 := Lib.hid (X5.out.trans (hb.mono X5.out.size)); have g1 := (hb.block _ (Array.getElem?_eq_some_iff.1 I1.out).1).trans I1.out; have g2 := (hb.block _ (Array.getElem?_eq_some_iff.1 I2.out).1).trans I2.out; have g3 := (hb.block _ (Array.getElem?_eq_some_iff.1 I3.out).1).trans I3.out; have J1 := Lib.hid g1; have J2 := Lib.hid g2; have J3 := Lib.hid g3; clear hb g1 g2 g3 KC))
 any_goals (go_ret; exact ⟨rfl, by first | exact X6.out | exact X5.out | exact X4.out⟩)
 have za : ra = 0 := by first | assumption | (have h : (ra != 0) = false := (by assumption); simpa using h)
 have zb : rb = 0 := by first | assumption | (have h : (rb != 0) = false := (by assumption); simpa using h)
 have zc : rc = 0 := by first | assumption | (have h : (rc != 0) = false := (by assumption); simpa using h)
 have na : isName a = true := by rw [← ok_name]; exact (checkX_ok.1 (HRA.out.symm.trans za)).2.2
 have nb : isName b = true := by rw [← ok_name]; exact (checkX_ok.1 (HRB.out.symm.trans zb)).2.2
 have nc : isName c = true := by rw [← ok_name]; exact (checkX_ok.1 (HRC.out.symm.trans zc)).2.2
 have HSx := Lib.hid (show ∀ w', Below W6.heap.size W6 w' → w'.cell? ⟨W1.heap.size, 0, none⟩ = some (.int .i64 2) ∧ w'.cell? ⟨W1.heap.size, 1, none⟩ = some (.string (bs a)) ∧ w'.cell? ⟨W1.heap.size, 2, none⟩ = some (.int .i64 0) ∧ w'.cell? ⟨W1.heap.size, 3, none⟩ = some (.int .i64 0) ∧ w'.cell? ⟨W1.heap.size, 4, none⟩ = some (.int .u64 0) ∧ w'.cell? ⟨W1.heap.size, 5, none⟩ = some (.slice none 0 0) ∧ w'.cell? ⟨W2.heap.size, 0, none⟩ = some (.int .i64 2) ∧ w'.cell? ⟨W2.heap.size, 1, none⟩ = some (.string (bs b)) ∧ w'.cell? ⟨W2.heap.size, 2, none⟩ = some (.int .i64 0) ∧ w'.cell? ⟨W2.heap.size, 3, none⟩ = some (.int .i64 0) ∧ w'.cell? ⟨W2.heap.size, 4, none⟩ = some (.int .u64 0) ∧ w'.cell? ⟨W2.heap.size, 5, none⟩ = some (.slice none 0 0) ∧ w'.cell? ⟨W3.heap.size, 0, none⟩ = some (.int .i64 2) ∧ w'.cell? ⟨W3.heap.size, 1, none⟩ = some (.string (bs c)) ∧ w'.cell? ⟨W3.heap.size, 2, none⟩ = some (.int .i64 0) ∧ w'.cell? ⟨W3.heap.size, 3, none⟩ = some (.int .i64 0) ∧ w'.cell? ⟨W3.heap.size, 4, none⟩ = some (.int .u64 0) ∧ w'.cell? ⟨W3.heap.size, 5, none⟩ = some (.slice none 0 0) from fun w' h => by
  obtain ⟨ka0, ka1, ka2, ka3, ka4, ka5⟩ := cells6 ((h.block _ (Array.getElem?_eq_some_iff.1 J1.out).1).trans J1.out)
  obtain ⟨kb0, kb1, kb2, kb3, kb4, kb5⟩ := cells6 ((h.block _ (Array.getElem?_eq_some_iff.1 J2.out).1).trans J2.out)
  obtain ⟨kc0, kc1, kc2, kc3, kc4, kc5⟩ := cells6 ((h.block _ (Array.getElem?_eq_some_iff.1 J3.out).1).trans J3.out)
  exact ⟨ka0, ka1, ka2, ka3, ka4, ka5, kb0, kb1, kb2, kb3, kb4, kb5, kc0, kc1, kc2, kc3, kc4, kc5⟩)
 clear ka0 ka1 ka2 ka3 ka4 ka5 kb0 kb1 kb2 kb3 kb4 kb5 kc0 kc1 kc2 kc3 kc4 kc5 la0 la1 la2 la3 la4 la5 lb0 lb1 lb2 lb3 lb4 lb5 lc0 lc1 lc2 lc3 lc4 lc5 A2 L2 G1 G2 G3 H1 H2 H3 I1 I2 I3 J1 J2 J3 X1 X2 X3 X4 X5 XV
 generalize W1.heap.size = b1 at *
 generalize W2.heap.size = b2 at *
 generalize W3.heap.size = b3 at *
 have m1 : 11 ≤ (11 : Int) + (p : Int) % 16 := by omega
 have m2 : (11 : Int) + (p : Int) % 16 ≤ 26 := by omega
 have n1 : 11 ≤ (11 : Int) + (q : Int) % 16 := by omega
 have n2 : (11 : Int) + (q : Int) % 16 ≤ 26 := by omega
 generalize (11 : Int) + (p : Int) % 16 = m at *
 generalize (11 : Int) + (q : Int) % 16 = n at *
 obtain ⟨t1, t2, t3⟩ := signs_ok na nb nc m1 m2 n1 n2
 have KT1 := Lib.hid t1
 have KT2 := Lib.hid t2
 have KT3 := Lib.hid t3
 have SM1 := Lib.hid (show smX (binX m (binX n (nameX a) (nameX b)) (nameX c)) = true by rw [smX_iff]; simp [binX, notX, X.name, X.l, smX_iff, nameX, HA.out, HBb.out, HCc.out])
 have SM2 := Lib.hid (show smX (binX m (nameX a) (binX n (nameX b) (nameX c))) = true by rw [smX_iff]; simp [binX, notX, X.name, X.l, smX_iff, nameX, HA.out, HBb.out, HCc.out])
 have SM3 := Lib.hid (show smX (notX (binX n (nameX a) (nameX b))) = true by rw [smX_iff]; simp [binX, notX, X.name, X.l, smX_iff, nameX, HA.out, HBb.out, HCc.out])
 have SZ1 := Lib.hid (show sizeX (binX m (binX n (nameX a) (nameX b)) (nameX c)) ≤ 60000 by rw [(size_bin ..).1, (size_bin ..).1, (size_name _).1, (size_name _).1, (size_name _).1]; omega)
 have SZ2 := Lib.hid (show sizeX (binX m (nameX a) (binX n (nameX b) (nameX c))) ≤ 60000 by rw [(size_bin ..).1, (size_bin ..).1, (size_name _).1, (size_name _).1, (size_name _).1]; omega)
 have SZ3 := Lib.hid (show sizeX (notX (binX n (nameX a) (nameX b))) ≤ 60000 by rw [(size_not ..).1, (size_bin ..).1, (size_name _).1, (size_name _).1]; omega)
 obtain ⟨L1, hL1⟩ : ∃ L, (exprT (binX m (binX n (nameX a) (nameX b)) (nameX c))).length = L := ⟨_, rfl⟩
 obtain ⟨L2, hL2⟩ : ∃ L, (exprT (binX m (nameX a) (binX n (nameX b) (nameX c)))).length = L := ⟨_, rfl⟩
 have HL1 := Lib.hid hL1
 have HL2 := Lib.hid hL2
 have HL3 := Lib.hid (len_not n a b)
 have RM := Lib.hid (fun W9 => lrank_any m m1 m2 W9)
 have RN := Lib.hid (fun W9 => lrank_any n n1 n2 W9)
 have hr : (L1 = 7 ∧ L2 = 7 ∧ twoR n < twoR m) ∨ (L1 = 5 ∧ L2 = 7 ∧ twoR n = twoR m) ∨ (L1 = 5 ∧ L2 = 5 ∧ twoR m < twoR n) := by
  rw [len_left] at hL1
  rw [len_right] at hL2
  by_cases h : twoR n < twoR m
  ·rw [if_pos h] at hL1; rw [if_pos (by omega)] at hL2; exact .inl ⟨hL1.symm, hL2.symm, h⟩
  ·rw [if_neg h] at hL1
   by_cases h2 : twoR n ≤ twoR m
   ·rw [if_pos h2] at hL2; exact .inr (.inl ⟨hL1.symm, hL2.symm, by omega⟩)
   ·rw [if_neg h2] at hL2; exact .inr (.inr ⟨hL1.symm, hL2.symm, by omega⟩)
 have HR := Lib.hid hr
 clear hr hL1 hL2 t1 t2 t3 na nb nc za zb zc m1 m2 n1 n2 hp hq
 have Y0 := Lib.hid (Below.refl W6.heap.size W6)
 obtain ⟨ka0, ka1, ka2, ka3, ka4, ka5, kb0, kb1, kb2, kb3, kb4, kb5, kc0, kc1, kc2, kc3, kc4, kc5⟩ := HSx.out _ Y0.out
 have Y0d := Lib.hid (Y0.out.drew)
 have Y0 := Y0d
 have F1 := True.intro
 have G1 := True.intro
 go_region_held3 (fun w' => w'.cell? ⟨b1, 0, none⟩ = some (.int .i64 2) ∧ w'.cell? ⟨b1, 1, none⟩ = some (.string (bs a)) ∧ w'.cell? ⟨b1, 2, none⟩ = some (.int .i64 0) ∧ w'.cell? ⟨b1, 3, none⟩ = some (.int .i64 0) ∧ w'.cell? ⟨b1, 4, none⟩ = some (.int .u64 0) ∧ w'.cell? ⟨b1, 5, none⟩ = some (.slice none 0 0) ∧ w'.cell? ⟨b2, 0, none⟩ = some (.int .i64 2) ∧ w'.cell? ⟨b2, 1, none⟩ = some (.string (bs b)) ∧ w'.cell? ⟨b2, 2, none⟩ = some (.int .i64 0) ∧ w'.cell? ⟨b2, 3, none⟩ = some (.int .i64 0) ∧ w'.cell? ⟨b2, 4, none⟩ = some (.int .u64 0) ∧ w'.cell? ⟨b2, 5, none⟩ = some (.slice none 0 0) ∧ w'.cell? ⟨b3, 0, none⟩ = some (.int .i64 2) ∧ w'.cell? ⟨b3, 1, none⟩ = some (.string (bs c)) ∧ w'.cell? ⟨b3, 2, none⟩ = some (.int .i64 0) ∧ w'.cell? ⟨b3, 3, none⟩ = some (.int .i64 0) ∧ w'.cell? ⟨b3, 4, none⟩ = some (.int .u64 0) ∧ w'.cell? ⟨b3, 5, none⟩ = some (.slice none 0 0))
  (first | exact HSx.out _ Y3.out | exact HSx.out _ Y2.out | exact HSx.out _ Y1.out | exact HSx.out _ Y0.out | go_keep)
  (first
   | (clear F1; go_at_call 29; refine (lbin_any n (nameX a) (nameX b) _ _ _ (name_xr a _) (name_xr b _)).mono ?_; rintro e U11 ⟨D11, rfl, hx, hb⟩; have Y1 := Lib.hid (Y0.out.trans (hb.mono Y0.out.size)); have I11 := Lib.hid hx; clear hx hb)
   | (clear G1; go_at_call 29; refine (lbin_any m (binX n (nameX a) (nameX b)) (nameX c) _ _ _ I11.out (name_xr c _)).mono ?_; rintro e U12 ⟨D12, rfl, hx, hb⟩; have Y2 := Lib.hid (Y1.out.trans (hb.mono Y1.out.size)); have I12 := Lib.hid hx; clear hx hb)
   | (go_at_call 18; refine (tokensX_any (binX m (binX n (nameX a) (nameX b)) (nameX c)) _ _ (HB.out.later (X6.out.trans (Y2.out.mono X6.out.size))) I12.out (SM1.out) (SZ1.out)).mono ?_; rintro e U13 ⟨v, rfl, hx, hb⟩; rw [KT1.out] at hx ⊢; rw [if_pos rfl] at hx; obtain ⟨p1, k1, hv⟩ := len_shape hx HL1.out; subst hv; have Y3 := Lib.hid (Y2.out.trans (hb.mono Y2.out.size)); clear hx hb))
 go_wp2_with fail
 have Y3d := Lib.hid (Y3.out.drew)
 have Y3 := Y3d
 have F2 := True.intro
 have G2 := True.intro
 go_region_held3 (fun w' => w'.cell? ⟨b1, 0, none⟩ = some (.int .i64 2) ∧ w'.cell? ⟨b1, 1, none⟩ = some (.string (bs a)) ∧ w'.cell? ⟨b1, 2, none⟩ = some (.int .i64 0) ∧ w'.cell? ⟨b1, 3, none⟩ = some (.int .i64 0) ∧ w'.cell? ⟨b1, 4, none⟩ = some (.int .u64 0) ∧ w'.cell? ⟨b1, 5, none⟩ = some (.slice none 0 0) ∧ w'.cell? ⟨b2, 0, none⟩ = some (.int .i64 2) ∧ w'.cell? ⟨b2, 1, none⟩ = some (.string (bs b)) ∧ w'.cell? ⟨b2, 2, none⟩ = some (.int .i64 0) ∧ w'.cell? ⟨b2, 3, none⟩ = some (.int .i64 0) ∧ w'.cell? ⟨b2, 4, none⟩ = some (.int .u64 0) ∧ w'.cell? ⟨b2, 5, none⟩ = some (.slice none 0 0) ∧ w'.cell? ⟨b3, 0, none⟩ = some (.int .i64 2) ∧ w'.cell? ⟨b3, 1, none⟩ = some (.string (bs c)) ∧ w'.cell? ⟨b3, 2, none⟩ = some (.int .i64 0) ∧ w'.cell? ⟨b3, 3, none⟩ = some (.int .i64 0) ∧ w'.cell? ⟨b3, 4, none⟩ = some (.int .u64 0) ∧ w'.cell? ⟨b3, 5, none⟩ = some (.slice none 0 0))
  (first | exact HSx.out _ Y6.out | exact HSx.out _ Y5.out | exact HSx.out _ Y4.out | exact HSx.out _ Y3.out | go_keep)
  (first
   | (clear F2; go_at_call 29; refine (lbin_any n (nameX b) (nameX c) _ _ _ (name_xr b _) (name_xr c _)).mono ?_; rintro e U21 ⟨D21, rfl, hx, hb⟩; have Y4 := Lib.hid (Y3.out.trans (hb.mono Y3.out.size)); have I21 := Lib.hid hx; clear hx hb)
   | (clear G2; go_at_call 29; refine (lbin_any m (nameX a) (binX n (nameX b) (nameX c)) _ _ _ (name_xr a _) I21.out).mono ?_; rintro e U22 ⟨D22, rfl, hx, hb⟩; have Y5 := Lib.hid (Y4.out.trans (hb.mono Y4.out.size)); have I22 := Lib.hid hx; clear hx hb)
   | (go_at_call 18; refine (tokensX_any (binX m (nameX a) (binX n (nameX b) (nameX c))) _ _ (HB.out.later (X6.out.trans (Y5.out.mono X6.out.size))) I22.out (SM2.out) (SZ2.out)).mono ?_; rintro e U23 ⟨v, rfl, hx, hb⟩; rw [KT2.out] at hx ⊢; rw [if_pos rfl] at hx; obtain ⟨p2, k2, hv⟩ := len_shape hx HL2.out; subst hv; have Y6 := Lib.hid (Y5.out.trans (hb.mono Y5.out.size)); clear hx hb))
 obtain ⟨ka0, ka1, ka2, ka3, ka4, ka5, kb0, kb1, kb2, kb3, kb4, kb5, kc0, kc1, kc2, kc3, kc4, kc5⟩ := HSx.out _ Y6.out
 have HR2 := HR.out
 generalize twoR n = rn at *
 generalize twoR m = rm at *
 have hcase : ((L1 = 7 ∧ L2 = 7) ∧ ((rn : Int) < (rm : Int) ∧ (rn : Int) ≤ (rm : Int))) ∨ ((L1 = 5 ∧ L2 = 7) ∧ (¬ (rn : Int) < (rm : Int) ∧ (rn : Int) ≤ (rm : Int))) ∨ ((L1 = 5 ∧ L2 = 5) ∧ (¬ (rn : Int) < (rm : Int) ∧ ¬ (rn : Int) ≤ (rm : Int))) := by omega
 clear HR2
 have hc2 : (((L1 = 7 ∧ L2 = 7) ∧ ((rn : Int) < (rm : Int) ∧ (rn : Int) ≤ (rm : Int))) ∧ (rn < rm ∧ rn ≤ rm)) ∨ (((L1 = 5 ∧ L2 = 7) ∧ (¬ (rn : Int) < (rm : Int) ∧ (rn : Int) ≤ (rm : Int))) ∧ (¬ rn < rm ∧ rn ≤ rm)) ∨ (((L1 = 5 ∧ L2 = 5) ∧ (¬ (rn : Int) < (rm : Int) ∧ ¬ (rn : Int) ≤ (rm : Int))) ∧ (¬ rn < rm ∧ ¬ rn ≤ rm)) := by omega
 clear hcase
 rcases hc2 with ⟨⟨⟨rfl, rfl⟩, i1, i2⟩, j1, j2⟩ | ⟨⟨⟨rfl, rfl⟩, i1, i2⟩, j1, j2⟩ | ⟨⟨⟨rfl, rfl⟩, i1, i2⟩, j1, j2⟩
 all_goals go_wp2_with (first
  | (go_at_call 29; refine (lbin_any n (nameX a) (nameX b) _ _ U23 (name_xr a _) (name_xr b _)).mono ?_; rintro e V1 ⟨D3, rfl, hx, hb⟩; have Z1 := Lib.hid (Y6.out.trans (hb.mono Y6.out.size)); have I3 := Lib.hid hx; clear hx hb)
  | (go_at_call 18; refine (tokensX_any (notX (binX n (nameX a) (nameX b))) [.int .i64 5, .string (bs []), .int .i64 1, .int .i64 0, .int .u64 0, .slice (some ⟨V1.heap.size, 0, none⟩) 1 1] (V1.alloc (.cells #[.int .i64 6, .string (bs []), .int .i64 n, .int .i64 0, .int .u64 0, .slice (some ⟨D3, 0, none⟩) 2 2] 28)) (HB.out.later (X6.out.trans ((Z1.out.alloc Z1.out.size _).mono X6.out.size))) (XR_iff.2 ⟨show (0 : Nat) < two64 by decide, _, rfl, one_x V1 _ _ I3.out rfl⟩) SM3.out SZ3.out).mono ?_; rintro e V2 ⟨v, rfl, hx, hb⟩; rw [KT3.out] at hx ⊢; rw [if_pos rfl] at hx; obtain ⟨p3, k3, hv⟩ := len_shape hx HL3.out; subst hv; have Z2 := Lib.hid ((Z1.out.alloc Z1.out.size _).trans (hb.mono (Z1.out.alloc Z1.out.size _).size)); clear hx hb)
  | (go_at_call 30; refine (RN.out _).mono ?_; rintro e V3 ⟨rfl, hb⟩; have Z2 := Lib.hid (Z2.out.trans (hb.mono Z2.out.size)); clear hb)
  | (go_at_call 30; refine (RM.out _).mono ?_; rintro e V4 ⟨rfl, hb⟩; have Z2 := Lib.hid (Z2.out.trans (hb.mono Z2.out.size)); clear hb))
 all_goals (go_ret; exact ⟨rfl, X6.out.trans (Z2.out.mono X6.out.size)⟩)
end Go.Proofs.YtlcfpdmicpggbaaGreatDoor
