/- Texts of the seat, merged. -/
import Derived.Test.YtlcfpdmicpggbaaGreatDoorEF22
import Derived.Test.YtlcfpdmicpggbaaGreatDoorQ18
set_option linter.unusedVariables false
set_option linter.unusedSimpArgs false
set_option maxRecDepth 100000
set_option maxHeartbeats 16000000
namespace Go.Proofs.YtlcfpdmicpggbaaGreatDoor
open Go.RowKit Go.Proofs.Spl Go.Proofs.Scn Go.Shelf
theorem strInfo : (Tryz.prog.info? 9).map (fun i => (i.zero, i.size, i.bytes)) = some (some (.string ⟨#[]⟩), 1, 16) := by kernel_rfl
theorem strSlice : Tryz.prog.underlying 68 = some (.slice 9) := by kernel_rfl
theorem OwnS.last {B : Nat} {w : World} {q : Option Addr} {n c : Nat} {l : List Ln} {a : Ln} (h : OwnS B w (.slice q n c) (l ++ [a])) :
  ∃ g, q = some ⟨g, 0, none⟩ ∧ n = l.length + 1 ∧ l.length ≤ c ∧ w.cell? ⟨g, l.length, none⟩ = some (.string (bs a)) ∧ OwnS B w (.slice (some ⟨g, 0, none⟩) l.length c) l := by
 obtain ⟨h1, h2⟩ := h
 have hl : (l ++ [a]).length = l.length + 1 := by simp
 rw [hl] at h2
 rcases h2 with ⟨_, h0⟩ | ⟨g, cap, cur, hv, hB, hg, hn, hc, hs, ht⟩
 ·omega
 ·simp only [Value.slice.injEq] at hv
  obtain ⟨rfl, rfl, rfl⟩ := hv
  refine ⟨g, rfl, rfl, by omega, ?_, by simp [strsC], .inr ⟨g, c, cur, rfl, hB, hg, by omega, hc, hs, ?_⟩⟩
  ·rw [cell_of_row w g l.length cur _ (0, 0) hg]
   have : (cur.toList.take ((l.length + 1) * 1))[l.length]? = (strsC (l ++ [a]))[l.length]? := by rw [ht]
   rw [List.getElem?_take, if_pos (by omega)] at this
   rw [← Array.getElem?_toList, this]
   simp [strsC]
  ·have e : cur.toList.take (l.length * 1) = (cur.toList.take ((l.length + 1) * 1)).take l.length := by rw [List.take_take]; congr 1; omega
   rw [e, ht]
   simp [strsC]
theorem grow_str {W wr w3 : World} {l : List Ln} {v v' : Value} {o : Obj} {s : Ln} (HO : OwnS W.heap.size wr v l) (hB : Below W.heap.size W wr)
  (hown : w3.ownsRow W.heap.size 9 1 v' (l.length + 1) (strsC l ++ [.string (bs s)])) (hgr : (wr.alloc o).grownBy w3 v.ownBlock) :
  OwnS W.heap.size w3 v' (l ++ [s]) ∧ Below W.heap.size W w3 ∧ ∃ q3 c3, v' = .slice q3 (l.length + 1) c3 := by
 have h : OwnS W.heap.size w3 v' (l ++ [s]) := by
  unfold OwnS
  rw [List.length_append, show strsC (l ++ [s]) = strsC l ++ [.string (bs s)] by simp [strsC]]
  exact hown
 refine ⟨h, Below.grown (hB.alloc hB.size _) hgr (by have := hB.size; simp; omega) (fun k hk => (HO.base k hk).1), ?_⟩
 obtain ⟨p, c, e⟩ := h.shape
 exact ⟨p, c, by rw [e]; simp⟩
theorem ev_bad {st : List Ln} {t : Tok} {r : List Tok} (h : (checkT t && t.p == 0) = false) : evenS st (t :: r) = false := by
 have e : stepE st t = none := by unfold stepE; rw [if_neg (by rw [h]; simp)]
 rw [evenS, e]
theorem ev_free {st : List Ln} {t : Tok} {r : List Tok} (hc : checkT t = true) (hp : t.p = 0) (h : t.k = 4 → shutB t.s = [] ∧ shutsB t.s = false) : evenS st (t :: r) = evenS st r := by
 have e : stepE st t = some st := by
  unfold stepE
  rw [if_pos (by simp [hc, hp]), if_neg (fun e => e.2 (h e.1).1), if_neg (fun e => by rw [(h e.1).2] at e; exact absurd e.2 (by simp))]
 rw [evenS, e]
theorem ev_open {st : List Ln} {t : Tok} {r : List Tok} (hc : checkT t = true) (hp : t.p = 0) (hk : t.k = 4) (h : shutB t.s ≠ []) : evenS st (t :: r) = evenS (shutB t.s :: st) r := by
 have e : stepE st t = some (shutB t.s :: st) := by unfold stepE; rw [if_pos (by simp [hc, hp]), if_pos ⟨hk, h⟩]
 rw [evenS, e]
theorem ev_shut {st : List Ln} {t : Tok} {r : List Tok} (hc : checkT t = true) (hp : t.p = 0) (hk : t.k = 4) (h : shutB t.s = []) (h2 : shutsB t.s = true) : evenS st (t :: r) = (match st with | [] => false | a :: st => if a = t.s then evenS st r else false) := by
 have e : stepE st t = (match st with | [] => none | a :: st => if a = t.s then some st else none) := by
  unfold stepE
  rw [if_pos (by simp [hc, hp]), if_neg (fun e => e.2 h), if_pos ⟨hk, h2⟩]
  cases st <;> rfl
 rw [evenS, e]
 cases st with
 | nil => rfl
 | cons a st => by_cases e : a = t.s <;> simp [e]
theorem even_some (b off cap : Nat) (ts : List Tok) (hl : ts.length ≤ 1000000) (W : World) (hlt : b < W.heap.size) (hc : ∀ k (h : k < ts.length), TokAt W b (off + k * 5) ts[k]) (hv : ∀ t ∈ ts, t.v < two64 ∧ t.s.length ≤ 140737488355328) (hB : Base W) :
  Calls Tryz.prog 31 #[.slice (some ⟨b, off, none⟩) ts.length cap] W fun e W' => e = .returned (.bool (evenS [] ts)) ∧ Below W.heap.size W W' := by
 have HC := Lib.hid hc
 have HV := Lib.hid hv
 have HB := Lib.hid hB
 have HLen := Lib.hid hl
 clear hc hv hB
 obtain ⟨i0, hi, hz0, hz1, hz2⟩ := info_parts strInfo
 obtain ⟨R, hR⟩ : ∃ R, R = evenS [] ts := ⟨_, rfl⟩
 have HR := Lib.hid hR
 rw [← hR]
 clear hR
 go_enter Tryz.func31, Tryz.ntmps31
 go_wp2
 go_loopw [3, 4] (fun u i wr => ∃ (k n : Nat) (q : Option Addr) (cp : Nat) (st : List Ln), k ≤ ts.length ∧ u = .slice q n cp ∧ i = .int .i64 k ∧ Hid (n = st.reverse.length ∧ n ≤ k) ∧ Hid (R = evenS st (ts.drop k)) ∧ Hid (OwnS W.heap.size wr (.slice q n cp) st.reverse) ∧ Hid (Below W.heap.size W wr)) (fun _ i _ => ts.length - (intOf i).toNat)
 case atStart =>
  refine ⟨0, 0, some ⟨W.heap.size, 0, none⟩, 0, [], Nat.zero_le _, rfl, rfl, Lib.hid ⟨rfl, Nat.le_refl _⟩, Lib.hid HR.out, Lib.hid ?_, Lib.hid ((Below.refl _ _).alloc (Nat.le_refl _) _)⟩
  exact World.ownsRow_made W #[] 0 (Nat.le_refl _) (by decide) rfl
 case round =>
  obtain ⟨k, n, q, cp, st, hk, rfl, rfl, HN, HE, HO, HX⟩ := hrel
  by_cases hks : k < ts.length
  case neg =>
   obtain rfl : k = ts.length := by omega
   have hfin : R = st.isEmpty := by
    have := HE.out
    rw [List.drop_length] at this
    rw [this]
    rfl
   have hn : (n == 0) = R := by
    rw [hfin, HN.out.1]
    cases st <;> simp
   have HFIN := Lib.hid (show ((n : Int) == 0) = R by rw [← hn, Bool.eq_iff_iff]; simp)
   clear hfin hn
   go_wp2_with fail
   go_ret
   exact ⟨congrArg (fun b => Ending.returned (Value.bool b)) HFIN.out, HX.out⟩
  obtain ⟨c0, c1, c2, c3, c4⟩ := (HC.out k hks).later hlt HX.out
  have hmem : ts[k] ∈ ts := List.getElem_mem hks
  have hvk := HV.out _ hmem
  have kc := fun W hB => check_any ts[k].k ts[k].w ts[k].p (bs ts[k].s) ts[k].v (by show ts[k].s.length ≤ _; omega) hvk.1 W hB
  rw [list_bs] at kc
  have hdrop : ts.drop k = ts[k] :: ts.drop (k + 1) := List.drop_eq_getElem_cons hks
  have hE := HE.out
  rw [hdrop] at hE
  have HY := Lib.hid HX.out
  have HBY := Lib.hid (HB.out.later HY.out)
  have HOY := Lib.hid HO.out
  have hceq : ∀ t : Tok, checkT ⟨t.k, t.s, t.w, t.v, t.p⟩ = checkT t := fun t => rfl
  rw [hceq] at kc
  have hfar : ∀ w9, Below wr.heap.size wr w9 → w9.cell? ⟨b, off + k * 5, none⟩ = some (.int .i64 ts[k].k) ∧ w9.cell? ⟨b, off + k * 5 + 1, none⟩ = some (.string (bs ts[k].s)) ∧ w9.cell? ⟨b, off + k * 5 + 2, none⟩ = some (.int .i64 ts[k].w) ∧ w9.cell? ⟨b, off + k * 5 + 3, none⟩ = some (.int .u64 ts[k].v) ∧ w9.cell? ⟨b, off + k * 5 + 4, none⟩ = some (.int .i64 ts[k].p) := fun w9 hb => by
   obtain ⟨c0, c1, c2, c3, c4⟩ := (HC.out k hks).later hlt (HY.out.trans (hb.mono HY.out.size))
   exact ⟨c0, c1, c2, c3, c4⟩
  have HFar := Lib.hid hfar
  clear hceq hvk hmem hdrop hfar HE HC
  generalize hrest : ts.drop (k + 1) = rest at *
  have HRS := Lib.hid hrest
  clear hrest
  generalize ts[k] = t at *
  cases hct : checkT t
  case false =>
   rw [hct, show errB false = 1 from rfl] at kc
   have KC := Lib.hid kc
   have HN := Lib.hid (show R = false by rw [hE, ev_bad (by rw [hct]; rfl)])
   clear kc hE hct
   go_wp2_with (go_at_call 69; refine (KC.out _ HBY.out).mono ?_; rintro e W2 ⟨rfl, hb2⟩; have HZ := Lib.hid (HY.out.trans (hb2.mono HY.out.size)); clear hb2)
   go_ret
   exact ⟨congrArg (fun b => Ending.returned (Value.bool b)) HN.out.symm, HZ.out⟩
  rw [hct, show errB true = 0 from rfl] at kc
  have KC := Lib.hid kc
  clear kc
  by_cases hp : t.p = 0
  case neg =>
   have HN := Lib.hid (show R = false by rw [hE, ev_bad (by simp [hp])])
   clear hE hct
   go_wp2_with (go_at_call 69; refine (KC.out _ HBY.out).mono ?_; rintro e W2 ⟨rfl, hb2⟩; obtain ⟨d0, d1, d2, d3, d4⟩ := HFar.out _ hb2; have HZ := Lib.hid (HY.out.trans (hb2.mono HY.out.size)); clear hb2)
   go_ret
   exact ⟨congrArg (fun b => Ending.returned (Value.bool b)) HN.out.symm, HZ.out⟩
  by_cases hk4 : t.k = 4
  case neg =>
   have HN2 := Lib.hid (show R = evenS st rest by rw [hE, ev_free hct hp (fun e => absurd e hk4)])
   have hk5 : (t.k == 4) = false := by simpa using hk4
   clear hE hct
   generalize t.p = P at *
   subst hp
   go_wp2_with (go_at_call 69; refine (KC.out _ HBY.out).mono ?_; rintro e W2 ⟨rfl, hb2⟩; obtain ⟨d0, d1, d2, d3, d4⟩ := HFar.out _ hb2; have HZ := Lib.hid (HY.out.trans (hb2.mono HY.out.size)); have HOZ := Lib.hid (HOY.out.later hb2); clear hb2)
   go_roundw
   case rel => exact ⟨k + 1, n, q, cp, st, by omega, rfl, by go_num, Lib.hid ⟨HN.out.1, by have := HN.out.2; omega⟩, Lib.hid (by rw [HRS.out]; exact HN2.out), HOZ, HZ⟩
   case measure => simp [intOf]; omega
  by_cases hs : t.s = [40]
  case pos =>
   have HN2 := Lib.hid (show R = evenS ([41] :: st) rest by rw [hE, ev_open hct hp hk4 (by rw [hs]; decide), hs]; rfl)
   clear hE hct
   generalize t.p = P at *
   subst hp
   generalize t.k = K at *
   subst hk4
   generalize t.s = S at *
   subst hs
   simp only [show bs [40] = ⟨#[40]⟩ from rfl] at *
   go_wp2_with (first
    | (go_at_call 69; refine (KC.out _ HBY.out).mono ?_; rintro e W2 ⟨rfl, hb2⟩; obtain ⟨d0, d1, d2, d3, d4⟩ := HFar.out _ hb2; have HZ := Lib.hid (HY.out.trans (hb2.mono HY.out.size)); have HOZ := Lib.hid (HOY.out.later hb2); clear hb2)
    | (at_builtin; refine wpList_append_own _ rfl _ _ 68 rfl W.heap.size 9 i0 (.string ⟨#[]⟩) 1 16 strSlice hi hz0 hz1 hz2 rfl (by decide) _ _ _ rfl (World.ownsRow.alloc HOZ.out _) ⟨W2.heap.size, 0, none⟩ 1 1 [.string ⟨#[41]⟩] rfl rfl (fun j u hu => World.news_of_block (World.alloc_heap_new W2 _) j u hu) (by simp [Value.oneCell']) (by have := HN.out; have := HLen.out; unfold maxLen; omega) (by have := HN.out; have := HLen.out; omega) (by have := HZ.out.size; simp; omega) ?_; intro v' w3 hown hgr hnil; clear hnil; have HG := Lib.hid (grow_str (s := [41]) HOZ.out HZ.out hown hgr); obtain ⟨q3, c3, rfl⟩ := HG.out.2.2; clear hown hgr))
   go_roundw
   case rel => exact ⟨k + 1, _, q3, c3, [41] :: st, by omega, rfl, by go_num, Lib.hid ⟨by simp, by obtain ⟨n1, n2⟩ := HN.out; rw [List.length_reverse] at n1; omega⟩, Lib.hid (by rw [HRS.out]; exact HN2.out), Lib.hid (by have h := HG.out.1; rw [List.length_reverse] at h; rw [List.reverse_cons]; exact h), Lib.hid HG.out.2.1⟩
   case measure => simp [intOf]; omega
  have n40 := hs
  clear hs
  by_cases hs : t.s = [91]
  case pos =>
   have HN2 := Lib.hid (show R = evenS ([93] :: st) rest by rw [hE, ev_open hct hp hk4 (by rw [hs]; decide), hs]; rfl)
   clear hE hct
   generalize t.p = P at *
   subst hp
   generalize t.k = K at *
   subst hk4
   generalize t.s = S at *
   subst hs
   simp only [show bs [91] = ⟨#[91]⟩ from rfl] at *
   go_wp2_with (first
    | (go_at_call 69; refine (KC.out _ HBY.out).mono ?_; rintro e W2 ⟨rfl, hb2⟩; obtain ⟨d0, d1, d2, d3, d4⟩ := HFar.out _ hb2; have HZ := Lib.hid (HY.out.trans (hb2.mono HY.out.size)); have HOZ := Lib.hid (HOY.out.later hb2); clear hb2)
    | (at_builtin; refine wpList_append_own _ rfl _ _ 68 rfl W.heap.size 9 i0 (.string ⟨#[]⟩) 1 16 strSlice hi hz0 hz1 hz2 rfl (by decide) _ _ _ rfl (World.ownsRow.alloc HOZ.out _) ⟨W2.heap.size, 0, none⟩ 1 1 [.string ⟨#[93]⟩] rfl rfl (fun j u hu => World.news_of_block (World.alloc_heap_new W2 _) j u hu) (by simp [Value.oneCell']) (by have := HN.out; have := HLen.out; unfold maxLen; omega) (by have := HN.out; have := HLen.out; omega) (by have := HZ.out.size; simp; omega) ?_; intro v' w3 hown hgr hnil; clear hnil; have HG := Lib.hid (grow_str (s := [93]) HOZ.out HZ.out hown hgr); obtain ⟨q3, c3, rfl⟩ := HG.out.2.2; clear hown hgr))
   go_roundw
   case rel => exact ⟨k + 1, _, q3, c3, [93] :: st, by omega, rfl, by go_num, Lib.hid ⟨by simp, by obtain ⟨n1, n2⟩ := HN.out; rw [List.length_reverse] at n1; omega⟩, Lib.hid (by rw [HRS.out]; exact HN2.out), Lib.hid (by have h := HG.out.1; rw [List.length_reverse] at h; rw [List.reverse_cons]; exact h), Lib.hid HG.out.2.1⟩
   case measure => simp [intOf]; omega
  have n91 := hs
  clear hs
  by_cases hs : t.s = [123]
  case pos =>
   have HN2 := Lib.hid (show R = evenS ([125] :: st) rest by rw [hE, ev_open hct hp hk4 (by rw [hs]; decide), hs]; rfl)
   clear hE hct
   generalize t.p = P at *
   subst hp
   generalize t.k = K at *
   subst hk4
   generalize t.s = S at *
   subst hs
   simp only [show bs [123] = ⟨#[123]⟩ from rfl] at *
   go_wp2_with (first
    | (go_at_call 69; refine (KC.out _ HBY.out).mono ?_; rintro e W2 ⟨rfl, hb2⟩; obtain ⟨d0, d1, d2, d3, d4⟩ := HFar.out _ hb2; have HZ := Lib.hid (HY.out.trans (hb2.mono HY.out.size)); have HOZ := Lib.hid (HOY.out.later hb2); clear hb2)
    | (at_builtin; refine wpList_append_own _ rfl _ _ 68 rfl W.heap.size 9 i0 (.string ⟨#[]⟩) 1 16 strSlice hi hz0 hz1 hz2 rfl (by decide) _ _ _ rfl (World.ownsRow.alloc HOZ.out _) ⟨W2.heap.size, 0, none⟩ 1 1 [.string ⟨#[125]⟩] rfl rfl (fun j u hu => World.news_of_block (World.alloc_heap_new W2 _) j u hu) (by simp [Value.oneCell']) (by have := HN.out; have := HLen.out; unfold maxLen; omega) (by have := HN.out; have := HLen.out; omega) (by have := HZ.out.size; simp; omega) ?_; intro v' w3 hown hgr hnil; clear hnil; have HG := Lib.hid (grow_str (s := [125]) HOZ.out HZ.out hown hgr); obtain ⟨q3, c3, rfl⟩ := HG.out.2.2; clear hown hgr))
   go_roundw
   case rel => exact ⟨k + 1, _, q3, c3, [125] :: st, by omega, rfl, by go_num, Lib.hid ⟨by simp, by obtain ⟨n1, n2⟩ := HN.out; rw [List.length_reverse] at n1; omega⟩, Lib.hid (by rw [HRS.out]; exact HN2.out), Lib.hid (by have h := HG.out.1; rw [List.length_reverse] at h; rw [List.reverse_cons]; exact h), Lib.hid HG.out.2.1⟩
   case measure => simp [intOf]; omega
  have n123 := hs
  clear hs
  by_cases hs : t.s = [41]
  case pos =>
   have hE2 : R = _ := hE.trans (ev_shut hct hp hk4 (by rw [hs]; decide) (by rw [hs]; decide))
   rw [hs] at hE2
   clear hE hct n40 n91 n123
   generalize t.p = P at *
   subst hp
   generalize t.k = K at *
   subst hk4
   generalize t.s = S at *
   subst hs
   simp only [show bs [41] = ⟨#[41]⟩ from rfl] at *
   cases st with
   | nil =>
    have hn0 : n = 0 := HN.out.1
    subst hn0
    have HN2 := Lib.hid (show R = false from hE2)
    clear hE2
    go_wp2_with (go_at_call 69; refine (KC.out _ HBY.out).mono ?_; rintro e W2 ⟨rfl, hb2⟩; obtain ⟨d0, d1, d2, d3, d4⟩ := HFar.out _ hb2; have HZ := Lib.hid (HY.out.trans (hb2.mono HY.out.size)); have HOZ := Lib.hid (HOY.out.later hb2); clear hb2)
    go_ret
    exact ⟨congrArg (fun b => Ending.returned (Value.bool b)) HN2.out.symm, HZ.out⟩
   | cons a st =>
    by_cases ha : a = [41]
    ·have HN2 := Lib.hid (show R = evenS st rest by have h : R = (if a = [41] then evenS st rest else false) := hE2; rw [h, if_pos ha])
     clear hE2
     subst ha
     rw [List.reverse_cons] at HN HO HOY
     obtain ⟨g, rfl, hn, hcap, -, -⟩ := HOY.out.last
     have hMk := HN.out.2
     have hLn := HLen.out
     generalize hM : st.reverse.length = M at hn hcap
     have HM := Lib.hid hM
     subst hn
     have wM : wrap64 (M : Int) = (M : Int) := Go.IntWalk.wrap64_in _ (by omega)
     have wM2 : IntKind.i64.wrap (M : Int) = (M : Int) := Go.IntWalk.i64_in _ (by omega)
     have nM : ¬ (M : Int) < 0 := by omega
     clear hM hMk hLn
     go_wp2_with (go_at_call 69; refine (KC.out _ HBY.out).mono ?_; rintro e W2 ⟨rfl, hb2⟩; obtain ⟨d0, d1, d2, d3, d4⟩ := HFar.out _ hb2; have HZ := Lib.hid (HY.out.trans (hb2.mono HY.out.size)); have HOZ := Lib.hid (HOY.out.later hb2); clear hb2; obtain ⟨g2, e1, -, -, hcell, -⟩ := HOZ.out.last; cases e1; rw [HM.out] at hcell; replace hcell : W2.cell? _ = some (.string ⟨#[41]⟩) := hcell)
     go_roundw
     case rel => exact ⟨k + 1, _, some ⟨g, 0, none⟩, cp, st, by omega, rfl, by go_num, Lib.hid ⟨HM.out.symm, by have := HN.out.2; omega⟩, Lib.hid (by rw [HRS.out]; exact HN2.out), Lib.hid (by obtain ⟨_, e1, _, _, _, e2⟩ := HOZ.out.last; cases e1; rw [HM.out] at e2; exact e2), HZ⟩
     case measure => simp [intOf]; omega
    ·have HN2 := Lib.hid (show R = false by have h : R = (if a = [41] then evenS st rest else false) := hE2; rw [h, if_neg ha])
     clear hE2
     rw [List.reverse_cons] at HN HO HOY
     obtain ⟨g, rfl, hn, hcap, -, -⟩ := HOY.out.last
     have hMk := HN.out.2
     have hLn := HLen.out
     generalize hM : st.reverse.length = M at hn hcap
     have HM := Lib.hid hM
     subst hn
     have wM : wrap64 (M : Int) = (M : Int) := Go.IntWalk.wrap64_in _ (by omega)
     have wM2 : IntKind.i64.wrap (M : Int) = (M : Int) := Go.IntWalk.i64_in _ (by omega)
     have nM : ¬ (M : Int) < 0 := by omega
     clear hM hMk hLn
     have hA : ((bs a).toList == [41]) = false := by rw [toList_eq, list_bs]; simpa using ha
     generalize hbs : bs a = A at hA
     go_wp2_with (go_at_call 69; refine (KC.out _ HBY.out).mono ?_; rintro e W2 ⟨rfl, hb2⟩; obtain ⟨d0, d1, d2, d3, d4⟩ := HFar.out _ hb2; have HZ := Lib.hid (HY.out.trans (hb2.mono HY.out.size)); have HOZ := Lib.hid (HOY.out.later hb2); clear hb2; obtain ⟨g2, e1, -, -, hcell, -⟩ := HOZ.out.last; cases e1; rw [HM.out, hbs] at hcell)
     go_ret
     exact ⟨congrArg (fun b => Ending.returned (Value.bool b)) HN2.out.symm, HZ.out⟩
  have n41 := hs
  clear hs
  by_cases hs : t.s = [93]
  case pos =>
   have hE2 : R = _ := hE.trans (ev_shut hct hp hk4 (by rw [hs]; decide) (by rw [hs]; decide))
   rw [hs] at hE2
   clear hE hct n40 n91 n123 n41
   generalize t.p = P at *
   subst hp
   generalize t.k = K at *
   subst hk4
   generalize t.s = S at *
   subst hs
   simp only [show bs [93] = ⟨#[93]⟩ from rfl] at *
   cases st with
   | nil =>
    have hn0 : n = 0 := HN.out.1
    subst hn0
    have HN2 := Lib.hid (show R = false from hE2)
    clear hE2
    go_wp2_with (go_at_call 69; refine (KC.out _ HBY.out).mono ?_; rintro e W2 ⟨rfl, hb2⟩; obtain ⟨d0, d1, d2, d3, d4⟩ := HFar.out _ hb2; have HZ := Lib.hid (HY.out.trans (hb2.mono HY.out.size)); have HOZ := Lib.hid (HOY.out.later hb2); clear hb2)
    go_ret
    exact ⟨congrArg (fun b => Ending.returned (Value.bool b)) HN2.out.symm, HZ.out⟩
   | cons a st =>
    by_cases ha : a = [93]
    ·have HN2 := Lib.hid (show R = evenS st rest by have h : R = (if a = [93] then evenS st rest else false) := hE2; rw [h, if_pos ha])
     clear hE2
     subst ha
     rw [List.reverse_cons] at HN HO HOY
     obtain ⟨g, rfl, hn, hcap, -, -⟩ := HOY.out.last
     have hMk := HN.out.2
     have hLn := HLen.out
     generalize hM : st.reverse.length = M at hn hcap
     have HM := Lib.hid hM
     subst hn
     have wM : wrap64 (M : Int) = (M : Int) := Go.IntWalk.wrap64_in _ (by omega)
     have wM2 : IntKind.i64.wrap (M : Int) = (M : Int) := Go.IntWalk.i64_in _ (by omega)
     have nM : ¬ (M : Int) < 0 := by omega
     clear hM hMk hLn
     go_wp2_with (go_at_call 69; refine (KC.out _ HBY.out).mono ?_; rintro e W2 ⟨rfl, hb2⟩; obtain ⟨d0, d1, d2, d3, d4⟩ := HFar.out _ hb2; have HZ := Lib.hid (HY.out.trans (hb2.mono HY.out.size)); have HOZ := Lib.hid (HOY.out.later hb2); clear hb2; obtain ⟨g2, e1, -, -, hcell, -⟩ := HOZ.out.last; cases e1; rw [HM.out] at hcell; replace hcell : W2.cell? _ = some (.string ⟨#[93]⟩) := hcell)
     go_roundw
     case rel => exact ⟨k + 1, _, some ⟨g, 0, none⟩, cp, st, by omega, rfl, by go_num, Lib.hid ⟨HM.out.symm, by have := HN.out.2; omega⟩, Lib.hid (by rw [HRS.out]; exact HN2.out), Lib.hid (by obtain ⟨_, e1, _, _, _, e2⟩ := HOZ.out.last; cases e1; rw [HM.out] at e2; exact e2), HZ⟩
     case measure => simp [intOf]; omega
    ·have HN2 := Lib.hid (show R = false by have h : R = (if a = [93] then evenS st rest else false) := hE2; rw [h, if_neg ha])
     clear hE2
     rw [List.reverse_cons] at HN HO HOY
     obtain ⟨g, rfl, hn, hcap, -, -⟩ := HOY.out.last
     have hMk := HN.out.2
     have hLn := HLen.out
     generalize hM : st.reverse.length = M at hn hcap
     have HM := Lib.hid hM
     subst hn
     have wM : wrap64 (M : Int) = (M : Int) := Go.IntWalk.wrap64_in _ (by omega)
     have wM2 : IntKind.i64.wrap (M : Int) = (M : Int) := Go.IntWalk.i64_in _ (by omega)
     have nM : ¬ (M : Int) < 0 := by omega
     clear hM hMk hLn
     have hA : ((bs a).toList == [93]) = false := by rw [toList_eq, list_bs]; simpa using ha
     generalize hbs : bs a = A at hA
     go_wp2_with (go_at_call 69; refine (KC.out _ HBY.out).mono ?_; rintro e W2 ⟨rfl, hb2⟩; obtain ⟨d0, d1, d2, d3, d4⟩ := HFar.out _ hb2; have HZ := Lib.hid (HY.out.trans (hb2.mono HY.out.size)); have HOZ := Lib.hid (HOY.out.later hb2); clear hb2; obtain ⟨g2, e1, -, -, hcell, -⟩ := HOZ.out.last; cases e1; rw [HM.out, hbs] at hcell)
     go_ret
     exact ⟨congrArg (fun b => Ending.returned (Value.bool b)) HN2.out.symm, HZ.out⟩
  have n93 := hs
  clear hs
  by_cases hs : t.s = [125]
  case pos =>
   have hE2 : R = _ := hE.trans (ev_shut hct hp hk4 (by rw [hs]; decide) (by rw [hs]; decide))
   rw [hs] at hE2
   clear hE hct n40 n91 n123 n41 n93
   generalize t.p = P at *
   subst hp
   generalize t.k = K at *
   subst hk4
   generalize t.s = S at *
   subst hs
   simp only [show bs [125] = ⟨#[125]⟩ from rfl] at *
   cases st with
   | nil =>
    have hn0 : n = 0 := HN.out.1
    subst hn0
    have HN2 := Lib.hid (show R = false from hE2)
    clear hE2
    go_wp2_with (go_at_call 69; refine (KC.out _ HBY.out).mono ?_; rintro e W2 ⟨rfl, hb2⟩; obtain ⟨d0, d1, d2, d3, d4⟩ := HFar.out _ hb2; have HZ := Lib.hid (HY.out.trans (hb2.mono HY.out.size)); have HOZ := Lib.hid (HOY.out.later hb2); clear hb2)
    go_ret
    exact ⟨congrArg (fun b => Ending.returned (Value.bool b)) HN2.out.symm, HZ.out⟩
   | cons a st =>
    by_cases ha : a = [125]
    ·have HN2 := Lib.hid (show R = evenS st rest by have h : R = (if a = [125] then evenS st rest else false) := hE2; rw [h, if_pos ha])
     clear hE2
     subst ha
     rw [List.reverse_cons] at HN HO HOY
     obtain ⟨g, rfl, hn, hcap, -, -⟩ := HOY.out.last
     have hMk := HN.out.2
     have hLn := HLen.out
     generalize hM : st.reverse.length = M at hn hcap
     have HM := Lib.hid hM
     subst hn
     have wM : wrap64 (M : Int) = (M : Int) := Go.IntWalk.wrap64_in _ (by omega)
     have wM2 : IntKind.i64.wrap (M : Int) = (M : Int) := Go.IntWalk.i64_in _ (by omega)
     have nM : ¬ (M : Int) < 0 := by omega
     clear hM hMk hLn
     go_wp2_with (go_at_call 69; refine (KC.out _ HBY.out).mono ?_; rintro e W2 ⟨rfl, hb2⟩; obtain ⟨d0, d1, d2, d3, d4⟩ := HFar.out _ hb2; have HZ := Lib.hid (HY.out.trans (hb2.mono HY.out.size)); have HOZ := Lib.hid (HOY.out.later hb2); clear hb2; obtain ⟨g2, e1, -, -, hcell, -⟩ := HOZ.out.last; cases e1; rw [HM.out] at hcell; replace hcell : W2.cell? _ = some (.string ⟨#[125]⟩) := hcell)
     go_roundw
     case rel => exact ⟨k + 1, _, some ⟨g, 0, none⟩, cp, st, by omega, rfl, by go_num, Lib.hid ⟨HM.out.symm, by have := HN.out.2; omega⟩, Lib.hid (by rw [HRS.out]; exact HN2.out), Lib.hid (by obtain ⟨_, e1, _, _, _, e2⟩ := HOZ.out.last; cases e1; rw [HM.out] at e2; exact e2), HZ⟩
     case measure => simp [intOf]; omega
    ·have HN2 := Lib.hid (show R = false by have h : R = (if a = [125] then evenS st rest else false) := hE2; rw [h, if_neg ha])
     clear hE2
     rw [List.reverse_cons] at HN HO HOY
     obtain ⟨g, rfl, hn, hcap, -, -⟩ := HOY.out.last
     have hMk := HN.out.2
     have hLn := HLen.out
     generalize hM : st.reverse.length = M at hn hcap
     have HM := Lib.hid hM
     subst hn
     have wM : wrap64 (M : Int) = (M : Int) := Go.IntWalk.wrap64_in _ (by omega)
     have wM2 : IntKind.i64.wrap (M : Int) = (M : Int) := Go.IntWalk.i64_in _ (by omega)
     have nM : ¬ (M : Int) < 0 := by omega
     clear hM hMk hLn
     have hA : ((bs a).toList == [125]) = false := by rw [toList_eq, list_bs]; simpa using ha
     generalize hbs : bs a = A at hA
     go_wp2_with (go_at_call 69; refine (KC.out _ HBY.out).mono ?_; rintro e W2 ⟨rfl, hb2⟩; obtain ⟨d0, d1, d2, d3, d4⟩ := HFar.out _ hb2; have HZ := Lib.hid (HY.out.trans (hb2.mono HY.out.size)); have HOZ := Lib.hid (HOY.out.later hb2); clear hb2; obtain ⟨g2, e1, -, -, hcell, -⟩ := HOZ.out.last; cases e1; rw [HM.out, hbs] at hcell)
     go_ret
     exact ⟨congrArg (fun b => Ending.returned (Value.bool b)) HN2.out.symm, HZ.out⟩
  have n125 := hs
  clear hs
  have HN2 := Lib.hid (show R = evenS st rest by
   rw [hE, ev_free hct hp (fun _ => ⟨by unfold shutB; rw [if_neg n40, if_neg n91, if_neg n123], by unfold shutsB; simp [n41, n93, n125]⟩)])
  have m40 : ((bs t.s).toList == [40]) = false := by rw [toList_eq, list_bs]; simpa using n40
  have m91 : ((bs t.s).toList == [91]) = false := by rw [toList_eq, list_bs]; simpa using n91
  have m123 : ((bs t.s).toList == [123]) = false := by rw [toList_eq, list_bs]; simpa using n123
  have m41 : ((bs t.s).toList == [41]) = false := by rw [toList_eq, list_bs]; simpa using n41
  have m93 : ((bs t.s).toList == [93]) = false := by rw [toList_eq, list_bs]; simpa using n93
  have m125 : ((bs t.s).toList == [125]) = false := by rw [toList_eq, list_bs]; simpa using n125
  clear hE hct n40 n91 n123 n41 n93 n125
  generalize t.p = P at *
  subst hp
  generalize t.k = K at *
  subst hk4
  generalize bs t.s = S at *
  go_wp2_with (go_at_call 69; refine (KC.out _ HBY.out).mono ?_; rintro e W2 ⟨rfl, hb2⟩; obtain ⟨d0, d1, d2, d3, d4⟩ := HFar.out _ hb2; have HZ := Lib.hid (HY.out.trans (hb2.mono HY.out.size)); have HOZ := Lib.hid (HOY.out.later hb2); clear hb2)
  go_roundw
  case rel => exact ⟨k + 1, n, q, cp, st, by omega, rfl, by go_num, Lib.hid ⟨HN.out.1, by have := HN.out.2; omega⟩, Lib.hid (by rw [HRS.out]; exact HN2.out), HOZ, HZ⟩
  case measure => simp [intOf]; omega
theorem even_nil (p : Option Addr) (c : Nat) (W : World) : Calls Tryz.prog 31 #[.slice p 0 c] W fun e W' => e = .returned (.bool true) ∧ Below W.heap.size W W' := by
 go_enter Tryz.func31, Tryz.ntmps31
 go_wp2
 refine wp_loop_rounds 1 ?_
 rw [rounds_succ]
 go_wp2
 go_ret
 exact ⟨rfl, (Below.refl _ _).alloc (Nat.le_refl _) _⟩
theorem even_any (v : Value) (ts : List Tok) (hl : ts.length ≤ 1000000) (W : World) (hT : Toks W v ts) (hv : AllF ts) (hB : Base W) : Calls Tryz.prog 31 #[v] W fun e W' => e = .returned (.bool (evenS [] ts)) ∧ Below W.heap.size W W' := by
 rcases hT with ⟨rfl, p, c, rfl⟩ | ⟨b, off, cap, rfl, hlt, hc⟩
 ·exact even_nil p c W
 ·exact even_some b off cap ts hl W hlt hc (fun t ht => hv t ht) hB
end Go.Proofs.YtlcfpdmicpggbaaGreatDoor
namespace Go.Proofs.YtlcfpdmicpggbaaGreatDoor
open Go.RowKit Go.Proofs.Spl Go.Proofs.Scn Go.Shelf
theorem fewB_le {n d : Nat} (h : fewB n d = true) : n ≤ 2000 := by
 unfold fewB at h
 simp only [Bool.and_eq_true, decide_eq_true_eq] at h
 exact h.1
theorem tokF_ok (f : List Md) (h : sumN sizeM f ≤ 60000) : evenS [] (if checkF f = 0 then fileT f else []) = true ∧ AllF (if checkF f = 0 then fileT f else []) ∧ (if checkF f = 0 then fileT f else []).length ≤ 1000000 := by
 by_cases h0 : checkF f = 0
 ·rw [if_pos h0]
  have hok := (checkF_ok.1 h0).2.2.2
  exact ⟨(bal_file hok).even, fair_file hok, by have := file_len f; omega⟩
 ·rw [if_neg h0]
  exact ⟨rfl, AllF.nil, Nat.zero_le _⟩
theorem putC_bal (c : Bool) : Bal [sgT (putC c)] := by
 cases c
 ·exact bal_put1
 ·exact bal_put2
theorem tokS_ok (c : Bool) (s : S) (h : sizeS s ≤ 60000) : evenS [] (if checkS s = 0 then stmtT (putC c) s else []) = true ∧ AllF (if checkS s = 0 then stmtT (putC c) s else []) ∧ (if checkS s = 0 then stmtT (putC c) s else []).length ≤ 1000000 := by
 by_cases h0 : checkS s = 0
 ·rw [if_pos h0]
  have hok := (checkS_ok.1 h0).2.2
  have hsa : okSA s = true := by unfold okS at hok; simp only [Bool.and_eq_true] at hok; exact hok.2
  exact ⟨(bal_stmt (putC_bal c) s hsa).even, fair_stmt (by cases c <;> decide) s hsa, by have := stmt_len (putC c) s; omega⟩
 ·rw [if_neg h0]
  exact ⟨rfl, AllF.nil, Nat.zero_le _⟩
theorem may_any (f : List Md) (p : Option Addr) (c : Nat) (s : S) (cs : List Value) (clk : Bool) (W : World) (hB : BaseA W) (hR : MsR W (.slice p f.length c) f) (hS : SR W s cs)
  (f1 : sumN sizeM f ≤ 1048576) (f2 : f.all smM = true) (s1 : sizeS s ≤ 1048576) (s2 : smS s = true) :
  RetB 8 #[.agg #[.slice p f.length c], .agg cs.toArray, .bool clk] W true := by
 have HF := Lib.hid (fun (W9 : World) (h : Below W.heap.size W W9) => few_any f p c W9 (MsR.later hR h) (by omega))
 have HS := Lib.hid (fun (W9 : World) (h : Below W.heap.size W W9) => fewS_any s cs W9 (SR.later h _ _ hS) (by omega))
 have HT := Lib.hid (fun (hq : fewB (sumN sizeM f) (maxN deepM f) = true) (W9 : World) (h : Below W.heap.size W W9) => tokens_any f p c W9 (hB.later h) (MsR.later hR h) f2 (by have := fewB_le hq; omega))
 have HU := Lib.hid (fun (hq : fewB (sizeS s) (deepS s) = true) (W9 : World) (h : Below W.heap.size W W9) => tokensS_any clk s cs W9 (hB.later h) (SR.later h _ _ hS) s2 (by have := fewB_le hq; omega))
 have KF := Lib.hid (fun (hq : fewB (sumN sizeM f) (maxN deepM f) = true) => tokF_ok f (by have := fewB_le hq; omega))
 have KS := Lib.hid (fun (hq : fewB (sizeS s) (deepS s) = true) => tokS_ok clk s (by have := fewB_le hq; omega))
 have HB := Lib.hid hB
 obtain ⟨xs, ls, rfl, hX, hL⟩ := SR_iff.1 hS
 obtain ⟨pl, cl, rfl, _⟩ := hL
 obtain ⟨px, cx, rfl, _⟩ := hX
 clear hB hR hS f1 f2 s1 s2
 have HT := Lib.hid (fun (hq : fewB (sumN sizeM f) (maxN deepM f) = true) (W9 : World) (h : Below W.heap.size W W9) => (HT.out hq W9 h).mono (fun e W' k => show ∃ p n c, e = .returned (.tuple #[.slice p n c, .int .i64 (checkF f)]) ∧ Toks W' (.slice p n c) (if checkF f = 0 then fileT f else []) ∧ Below W9.heap.size W9 W' by
  obtain ⟨v, rfl, hx, hb⟩ := k
  obtain ⟨p, n, c, rfl⟩ := hx.shape3
  exact ⟨p, n, c, rfl, hx.own.toks, hb⟩))
 have HU := Lib.hid (fun (hq : fewB (sizeS s) (deepS s) = true) (W9 : World) (h : Below W.heap.size W W9) => (HU.out hq W9 h).mono (fun e W' k => show ∃ p n c, e = .returned (.tuple #[.slice p n c, .int .i64 (checkS s)]) ∧ Toks W' (.slice p n c) (if checkS s = 0 then stmtT (putC clk) s else []) ∧ Below W9.heap.size W9 W' by
  obtain ⟨v, rfl, hx, hb⟩ := k
  obtain ⟨p, n, c, rfl⟩ := hx.shape3
  exact ⟨p, n, c, rfl, hx.own.toks, hb⟩))
 generalize (if checkF f = 0 then fileT f else []) = tf at *
 generalize (if checkS s = 0 then stmtT (putC clk) s else []) = tt at *
 generalize checkF f = rf at *
 generalize checkS s = rs at *
 generalize fewB (sumN sizeM f) (maxN deepM f) = q at *
 generalize fewB (sizeS s) (deepS s) = q' at *
 obtain ⟨V, hV⟩ : ∃ V, V = (W.alloc (.cells #[.slice p f.length c] 24)).alloc (.cells #[.int .i64 s.op, .string (bs s.name), .slice px s.x.length cx, .slice pl s.l.length cl] 31) := ⟨_, rfl⟩
 have XV := Lib.hid (show Below W.heap.size W V by rw [hV]; exact ((Below.refl _ _).alloc (Nat.le_refl _) _).alloc (by simp) _)
 have r0 : V.heap[W.heap.size]? = some (.cells #[.slice p f.length c] 24 (0, 0)) := by rw [hV]; exact (Below.heap_alloc _ _ _ (by simp)).trans (World.alloc_heap_new W _)
 have r1 : V.heap[W.heap.size + 1]? = some (.cells #[.int .i64 s.op, .string (bs s.name), .slice px s.x.length cx, .slice pl s.l.length cl] 31 (0, 0)) := by
  rw [hV]
  have := World.alloc_heap_new (W.alloc (.cells #[.slice p f.length c] 24)) (.cells #[.int .i64 s.op, .string (bs s.name), .slice px s.x.length cx, .slice pl s.l.length cl] 31)
  rw [World.size_alloc] at this
  exact this
 have HSx := Lib.hid (show ∀ w', Below V.heap.size V w' → w'.cell? ⟨W.heap.size, 0, none⟩ = some (.slice p f.length c) ∧ w'.cell? ⟨W.heap.size + 1, 0, none⟩ = some (.int .i64 s.op) ∧ w'.cell? ⟨W.heap.size + 1, 1, none⟩ = some (.string (bs s.name)) ∧ w'.cell? ⟨W.heap.size + 1, 2, none⟩ = some (.slice px s.x.length cx) ∧ w'.cell? ⟨W.heap.size + 1, 3, none⟩ = some (.slice pl s.l.length cl) from fun w' h => by
  have k0 := (h.block _ (Array.getElem?_eq_some_iff.1 r0).1).trans r0
  have k1 := (h.block _ (Array.getElem?_eq_some_iff.1 r1).1).trans r1
  obtain ⟨y0, y1, y2, y3⟩ := cells4 k1
  exact ⟨(cell_of_row _ _ _ _ _ _ k0).trans rfl, y0, y1, y2, y3⟩)
 clear r0 r1
 obtain ⟨y0, y1, y2, y3, y4⟩ := HSx.out _ (Below.refl _ _)
 go_enter Tryz.func8, Tryz.ntmps8
 go_wp2_with fail
 rw [← hV]
 clear hV
 generalize W.heap.size + 1 = b1 at *
 have F1 := True.intro
 go_wp2_with (first
  | (go_at_call 12; refine (live_any V (HB.out.later XV.out)).mono ?_; rintro e W0 ⟨rfl, hb⟩; have Z0 := Lib.hid hb; obtain ⟨z0, z1, z2, z3, z4⟩ := HSx.out _ Z0.out; have X0 := Lib.hid (XV.out.trans (hb.mono XV.out.size)); clear hb)
  | (go_at_call 13; refine (HF.out _ X0.out).mono ?_; rintro e W1 ⟨rfl, hb⟩; have Z1 := Lib.hid (Z0.out.trans (hb.mono Z0.out.size)); obtain ⟨z0, z1, z2, z3, z4⟩ := HSx.out _ Z1.out; have X1 := Lib.hid (X0.out.trans (hb.mono X0.out.size)); clear hb; cases q)
  | (go_at_call 15; refine (HS.out _ X1.out).mono ?_; rintro e W2 ⟨rfl, hb⟩; have Z2 := Lib.hid (Z1.out.trans (hb.mono Z1.out.size)); obtain ⟨z0, z1, z2, z3, z4⟩ := HSx.out _ Z2.out; have X2 := Lib.hid (X1.out.trans (hb.mono X1.out.size)); clear hb; cases q')
  | (go_at_call 16; refine (HT.out (by trivial) _ X2.out).mono ?_; rintro e W3 ⟨p3, n3, c3, rfl, hx, hb⟩; have T3 := Lib.hid hx; have Z3 := Lib.hid (Z2.out.trans (hb.mono Z2.out.size)); obtain ⟨z0, z1, z2, z3, z4⟩ := HSx.out _ Z3.out; have X3 := Lib.hid (X2.out.trans (hb.mono X2.out.size)); clear hb hx)
  | (go_at_call 20; refine (HU.out (by trivial) _ X3.out).mono ?_; rintro e W4 ⟨p4, n4, c4, rfl, hx, hb⟩; have U4 := Lib.hid hx; have T4 := Lib.hid (T3.out.later hb); have X4 := Lib.hid (X3.out.trans (hb.mono X3.out.size)); clear hb hx)
  | (go_at_call 31; clear F1; refine (even_any _ tf (KF.out (by trivial)).2.2 _ T4.out (KF.out (by trivial)).2.1 (HB.out.later X4.out).base).mono ?_; rw [(KF.out (by trivial)).1]; rintro e W5 ⟨rfl, hb⟩; have U5 := Lib.hid (U4.out.later hb); have X5 := Lib.hid (X4.out.trans (hb.mono X4.out.size)); clear hb)
  | (go_at_call 31; refine (even_any _ tt (KS.out (by trivial)).2.2 _ U5.out (KS.out (by trivial)).2.1 (HB.out.later X5.out).base).mono ?_; rw [(KS.out (by trivial)).1]; rintro e W6 ⟨rfl, hb⟩; have X6 := Lib.hid (X5.out.trans (hb.mono X5.out.size)); clear hb))
 all_goals (go_ret; exact ⟨rfl, by first | exact X6.out | exact X2.out | exact X1.out⟩)
end Go.Proofs.YtlcfpdmicpggbaaGreatDoor
