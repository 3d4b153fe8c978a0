/- Texts of the seat, merged. -/
import Derived.Test.YtlcfpdmicpggbaaGreatDoorD10
set_option linter.unusedVariables false
set_option linter.unusedSimpArgs false
set_option maxRecDepth 100000
set_option maxHeartbeats 16000000
namespace Go.Proofs.YtlcfpdmicpggbaaGreatDoor
open Go.Lib (hid)
open Go.RowKit Go.Proofs.Spl Go.Proofs.Scn Go.Shelf
theorem good_ok (op:Int) (name:Ln) (n w:Int) (v:Nat) (p:Option Addr) (m c:Nat) (hm:m≤65536) (hs:name.length≤140737488355328) (hv:v<two64) (W:World) (hB:BaseA W) :
  Calls Tryz.prog 132 #[.agg #[.int .i64 op,.string (bs name),.int .i64 n,.int .i64 w,.int .u64 v,.slice p m c]] W fun e W'=>e=.returned (.bool (okNode op name n w v m))∧Below W.heap.size W W':=by
 by_cases hop:op<1∨11≤op
 ·have h:okNode op name n w v m=false:=by
   have:partsO op m=false:=by
    unfold partsO
    rw [if_neg (by omega),if_neg (by omega),if_neg (by omega),if_neg (by omega),if_neg (by omega)]
   simp [okNode,this]
  rw [h]
  exact good_out op name n w v _ hop W
 obtain ⟨k,rfl⟩:∃ k:Nat,op=k:=⟨op.toNat,by omega⟩
 have h1:1≤k:=by omega
 have h2:k≤10:=by omega
 rw [kind_law k h1 h2 name n w v m hm]
 by_cases c1:kMin k≤m
 case neg=>
  rw [decide_eq_false c1]
  simp only [Bool.false_and]
  exact good_min k h1 h2 name n w v p m c (by omega) W hB
 by_cases c2:m≤kMax k
 case neg=>
  rw [decide_eq_false c2]
  simp only [Bool.false_and,Bool.and_false]
  exact good_max k h1 h2 name n w v p m c c1 (by omega) W hB
 by_cases c3:kLo k≤n
 case neg=>
  rw [decide_eq_false c3]
  simp only [Bool.false_and,Bool.and_false]
  exact good_lo k h1 h2 name n w v p m c c1 c2 (by omega) W hB
 by_cases c4:n≤kHi k
 case neg=>
  rw [decide_eq_false c4]
  simp only [Bool.false_and,Bool.and_false]
  exact good_hi k h1 h2 name n w v p m c c1 c2 c3 (by omega) W hB
 rw [decide_eq_true c1,decide_eq_true c2,decide_eq_true c3,decide_eq_true c4]
 simp only [Bool.true_and]
 by_cases hk:k=1
 ·subst hk
  have hm0:m=0:=by simpa [kMax,kMin] using c2
  have hn0:n=0:=by
   have a:kLo 1=0:=rfl
   have b:kHi 1=0:=rfl
   omega
  subst hm0
  subst hn0
  have hnm:kNamed 1=false:=rfl
  rw [hnm]
  simp only [Bool.false_eq_true,if_false]
  by_cases hname:name=[]
  case neg=>
   have:name.isEmpty=false:=by simpa using hname
   rw [this,Bool.and_false]
   exact good_num_name name w v p c hname W hB
  subst hname
  simp only [List.isEmpty_nil,Bool.and_true]
  have hV:valueO ((1:Nat):Int) w v=(decide (0≤w) && decide (w≤64) && (w == 0 || w == 64 || decide (v<2 ^ w.toNat)) && decide (v<two64)):=rfl
  rw [hV,decide_eq_true hv,Bool.and_true]
  by_cases w0:0≤w
  case neg=>
   rw [decide_eq_false w0]
   simp only [Bool.false_and]
   exact good_num_neg w v p c (by omega) W hB
  by_cases w1:w≤64
  case neg=>
   rw [decide_eq_false w1]
   simp only [Bool.false_and,Bool.and_false]
   exact good_num_big w v p c w0 (by omega) W hB
  rw [decide_eq_true w0,decide_eq_true w1]
  simp only [Bool.true_and]
  by_cases w2:w=0
  ·subst w2
   exact good_num_zero v p c W hB
  by_cases w3:w=64
  ·subst w3
   exact good_num_all v p c W hB
  obtain ⟨d,rfl⟩:∃ d:Nat,w=d:=⟨w.toNat,by omega⟩
  have e1:((d:Int) == 0)=false:=by simpa using w2
  have e2:((d:Int) == 64)=false:=by simpa using w3
  rw [e1,e2,Int.toNat_natCast]
  simp only [Bool.false_or]
  exact good_num_mid v p c d (by omega) (by omega) W hB
 ·have hV:valueO (k:Int) w v=(w == 0 && v == 0):=by
   unfold valueO
   rw [if_neg (by omega)]
  rw [hV]
  by_cases w0:w=0
  case neg=>
   have:(w == 0)=false:=by simpa using w0
   rw [this]
   simp only [Bool.false_and]
   exact good_w k h1 h2 name n w v p m c c1 c2 c3 c4 hk w0 W hB
  subst w0
  by_cases v0:v=0
  case neg=>
   have:(v == 0)=false:=by simpa using v0
   rw [this]
   simp only [Bool.false_and,Bool.and_false]
   exact good_v k h1 h2 name n v p m c c1 c2 c3 c4 hk v0 W hB
  subst v0
  simp only [beq_self_eq_true,Bool.true_and]
  cases hnm:kNamed k with
  | true=>
   simp only [if_true]
   exact good_named k h1 h2 name n p m c c1 c2 c3 c4 hk hnm hs W hB
  | false=>
   simp only [Bool.false_eq_true,if_false]
   by_cases hname:name=[]
   ·subst hname
    exact good_bare k h1 h2 n p m c c1 c2 c3 c4 hk hnm W hB
   ·have:name.isEmpty=false:=by simpa using hname
    rw [this]
    exact good_barex k h1 h2 name n p m c c1 c2 c3 c4 hk hnm hname W hB
mutual
def smX:X→Bool
 | .mk _ name _ _ _ l=>decide (name.length≤140737488355328) && smXs l
def smXs:List X→Bool
 | []=>true
 | x :: l=>smX x && smXs l
end
theorem smXs_all (l:List X):smXs l=l.all smX:=by
 induction l with
 | nil=>rw [smXs];rfl
 | cons x l ih=>rw [smXs,ih];rfl
theorem smX_iff (x:X):smX x=(decide (x.name.length≤140737488355328) && x.l.all smX):=by
 cases x;rw [smX,smXs_all];rfl
mutual
def smS:S→Bool
 | .mk _ name x l=>decide (name.length≤140737488355328) && x.all smX && smSs l
def smSs:List S→Bool
 | []=>true
 | x :: l=>smS x && smSs l
end
theorem smSs_all (l:List S):smSs l=l.all smS:=by
 induction l with
 | nil=>rw [smSs];rfl
 | cons x l ih=>rw [smSs,ih];rfl
theorem smS_iff (x:S):smS x=(decide (x.name.length≤140737488355328) && x.x.all smX && x.l.all smS):=by
 cases x;rw [smS,smSs_all];rfl
def smB (b:Bd):Bool:=decide (b.name.length≤140737488355328) && smX b.x
def smP (b:Pt):Bool:=decide (b.name.length≤140737488355328) && smX b.w
mutual
def smI:It→Bool
 | .mk _ name f x s l e ps bb=>decide (name.length≤140737488355328) && decide (f.length≤140737488355328) && x.all smX && s.all smS && smIs l && smIs e && ps.all smB && bb.all smB
def smIs:List It→Bool
 | []=>true
 | x :: l=>smI x && smIs l
end
theorem smIs_all (l:List It):smIs l=l.all smI:=by
 induction l with
 | nil=>rw [smIs];rfl
 | cons x l ih=>rw [smIs,ih];rfl
theorem smI_iff (x:It):smI x=(decide (x.name.length≤140737488355328) && decide (x.of.length≤140737488355328) && x.x.all smX && x.s.all smS && x.l.all smI && x.e.all smI && x.ps.all smB && x.bs.all smB):=by
 cases x;rw [smI,smIs_all,smIs_all];rfl
def smM (m:Md):Bool:=decide (m.name.length≤140737488355328) && m.ps.all smB && m.pts.all smP && m.l.all smI
theorem goodX_ok:∀ x:X,smX x=true→sizeX x≤65536→GoodX x:=by
 refine X.ind ?_
 intro x ih hsm hsz W cs hB hR
 have hR0:=hR
 obtain ⟨hv,ls,rfl,hL⟩:=XR_iff.1 hR
 rw [smX_iff,Bool.and_eq_true,List.all_eq_true] at hsm
 have hsz':=hsz
 rw [sizeX_eq,sizeXs_sum] at hsz'
 have hlen:x.l.length≤65536:=by have:=sumN_len sizeX one_sizeX x.l;omega
 have hL0:=hL
 obtain ⟨p,c,rfl,_⟩:=hL
 have hG:=hid (good_ok x.op x.name x.n x.w x.v p x.l.length c hlen (of_decide_eq_true hsm.1) hv)
 have hA:=hid (fun (W9:World) (h:Below W.heap.size W W9)=>allX_any _ x.l (by omega) W9 (hB.later h) (XsR.later hL0 h) (fun y hy=>ih y hy (hsm.2 y hy) (by have:=sumN_mem sizeX hy;omega)))
 have hB0:=hid hB
 have ho:okX x=(okNode x.op x.name x.n x.w x.v x.l.length && x.l.all okX):=okX_iff x
 have B1:=hid ((Below.refl W.heap.size W).alloc (Nat.le_refl _) (.cells #[.int .i64 x.op,.string (bs x.name),.int .i64 x.n,.int .i64 x.w,.int .u64 x.v,.slice p x.l.length c] 28))
 have HO:=hid ho
 have hcell:=World.alloc_heap_new W (.cells #[.int .i64 x.op,.string (bs x.name),.int .i64 x.n,.int .i64 x.w,.int .u64 x.v,.slice p x.l.length c] 28)
 have HC:=hid (show (W.alloc (.cells #[.int .i64 x.op,.string (bs x.name),.int .i64 x.n,.int .i64 x.w,.int .u64 x.v,.slice p x.l.length c] 28)).cell? ⟨W.heap.size,5,none⟩=some (.slice p x.l.length c) from (cell_of_row _ _ _ _ _ _ hcell).trans rfl)
 clear hcell ho hR0 hR hB ih hsm hsz hsz' hL0 hlen
 cases hok:okNode x.op x.name x.n x.w x.v x.l.length with
 | false=>
  rw [hok] at hG HO
  go_enter Tryz.func68,Tryz.ntmps68
  go_wp2_with (go_at_call 132;refine (hG.out _ (hB0.out.alloc _)).mono ?_;rintro e W3 ⟨rfl,hb⟩;have B3:=hid (B1.out.trans (hb.mono B1.out.size));clear hb)
  go_ret
  exact ⟨by rw [HO.out];rfl,B3.out⟩
 | true=>
  rw [hok] at hG HO
  go_enter Tryz.func68,Tryz.ntmps68
  go_wp2_with (first
   | (go_at_call 132;refine (hG.out _ (hB0.out.alloc _)).mono ?_;rintro e W3 ⟨rfl,hb⟩;have hc5:=(hb.cell (p:=⟨W.heap.size,5,none⟩) (by simp)).trans HC.out;have B3:=hid (B1.out.trans (hb.mono B1.out.size));clear hb)
   | (go_at_call 133;refine (hA.out _ B3.out).mono ?_;rintro e W4 ⟨rfl,hb⟩;have B4:=hid (B3.out.trans (hb.mono B3.out.size));clear hb))
  go_ret
  exact ⟨by rw [HO.out];rfl,B4.out⟩
end Go.Proofs.YtlcfpdmicpggbaaGreatDoor
namespace Go.Proofs.YtlcfpdmicpggbaaGreatDoor
open Go.Lib (hid)
open Go.RowKit Go.Proofs.Spl Go.Proofs.Scn Go.Shelf
theorem cells4 {W:World} {b:Nat} {v0 v1 v2 v3:Value} {T:TypeId} (h:W.heap[b]?=some (.cells #[v0,v1,v2,v3] T (0,0))):W.cell? ⟨b,0,none⟩=some v0∧W.cell? ⟨b,1,none⟩=some v1∧W.cell? ⟨b,2,none⟩=some v2∧W.cell? ⟨b,3,none⟩=some v3:=
 ⟨(cell_of_row _ _ _ _ _ _ h).trans rfl,(cell_of_row _ _ _ _ _ _ h).trans rfl,(cell_of_row _ _ _ _ _ _ h).trans rfl,(cell_of_row _ _ _ _ _ _ h).trans rfl⟩
theorem target_any (op:Int) (r:List Value) (name:Ln) (n w:Int) (v:Nat) (vl:Value) (W:World) :
  Calls Tryz.prog 74 #[.agg #[.int .i64 op,.string (bs name),.int .i64 n,.int .i64 w,.int .u64 v,vl]] W fun e W'=>e=.returned (.bool (namedO op))∧Below W.heap.size W W':=by
 have hv:namedO op=(decide (2≤op) && decide (op≤4)):=by
  rw [Bool.eq_iff_iff];simp [namedO];omega
 rw [hv]
 by_cases h:2≤op
 ·have hd:decide (2≤op)=true:=by simpa using h
  go_enter Tryz.func74,Tryz.ntmps74
  go_wp2
  go_ret
  exact ⟨by simp [h],(Below.refl _ _).alloc (Nat.le_refl _) _⟩
 ·have hd:decide (2≤op)=false:=by simpa using h
  go_enter Tryz.func74,Tryz.ntmps74
  go_wp2
  go_ret
  exact ⟨by simp [h],(Below.refl _ _).alloc (Nat.le_refl _) _⟩
theorem afits_yes (s:Ln) (hs:s.length≤140737488355328) (W:World) (hB:Base W):Calls Tryz.prog 205 #[.string (bs s),.bool true] W fun e W'=>e=.returned (.bool (isName s))∧Below W.heap.size W W':=by
 have HN:=hid (aname_any s hs W hB)
 clear hB
 cases hn:isName s with
 | true=>
  rw [hn] at HN
  go_enter Tryz.func205,Tryz.ntmps205
  go_wp2_with (go_at_call 158;refine HN.out.mono ?_;rintro e W3 ⟨rfl,hb⟩;have B3:=hid hb;clear hb)
  go_ret
  exact ⟨rfl,B3.out⟩
 | false=>
  rw [hn] at HN
  go_enter Tryz.func205,Tryz.ntmps205
  go_wp2_with (go_at_call 158;refine HN.out.mono ?_;rintro e W3 ⟨rfl,hb⟩;have B3:=hid hb;clear hb)
  go_ret
  exact ⟨rfl,B3.out⟩
theorem afits_no (s:Ln) (W:World):Calls Tryz.prog 205 #[.string (bs s),.bool false] W fun e W'=>e=.returned (.bool s.isEmpty)∧Below W.heap.size W W':=by
 have hse:(bs s).toList.isEmpty=s.isEmpty:=by rw [Lib.toList_data,list_bs]
 go_enter Tryz.func205,Tryz.ntmps205
 go_wp2
 go_ret
 exact ⟨rfl,Below.refl _ _⟩
theorem afits_any (s:Ln) (b:Bool) (hs:s.length≤140737488355328) (W:World) (hB:Base W):Calls Tryz.prog 205 #[.string (bs s),.bool b] W fun e W'=>e=.returned (.bool (if b then isName s else s.isEmpty))∧Below W.heap.size W W':=by
 cases b with
 | true=>exact afits_yes s hs W hB
 | false=>exact afits_no s W
theorem goodB_ok (b:Bd) (hsm:smB b=true) (hsz:sizeB b≤65536):GoodB b:=by
 intro W cs hB hR
 obtain ⟨xs,rfl,hX⟩:=hR
 have hX0:=hX
 obtain ⟨hv,ls,rfl,hL⟩:=XR_iff.1 hX
 unfold smB at hsm
 rw [Bool.and_eq_true] at hsm
 have HX:=hid hX0
 have HN:=hid (fun (W9:World) (h:Below W.heap.size W W9)=>aname_any b.name (of_decide_eq_true hsm.1) W9 (hB.later h).base)
 have HG:=hid (fun (W9:World) (h:Below W.heap.size W W9)=>goodX_ok b.x hsm.2 (by unfold sizeB at hsz;omega) W9 _ (hB.later h) (XR.later h _ _ HX.out))
 have B1:=hid ((Below.refl W.heap.size W).alloc (Nat.le_refl _) (.cells #[.string (bs b.name),.int .i64 b.x.op,.string (bs b.x.name),.int .i64 b.x.n,.int .i64 b.x.w,.int .u64 b.x.v,ls] 159))
 have hc:=World.alloc_heap_new W (.cells #[.string (bs b.name),.int .i64 b.x.op,.string (bs b.x.name),.int .i64 b.x.n,.int .i64 b.x.w,.int .u64 b.x.v,ls] 159)
 have HC:=hid hc
 have ho:okB b=(isName b.name && okX b.x):=rfl
 have HO:=hid ho
 clear hX0 hX hv hL hB hsm hc ho
 cases hn:isName b.name with
 | false=>
  rw [hn] at HN HO
  go_enter Tryz.func160,Tryz.ntmps160
  go_wp2_with (go_at_call 158;refine (HN.out _ B1.out).mono ?_;rintro e W3 ⟨rfl,hb⟩;have B3:=hid (B1.out.trans (hb.mono B1.out.size));clear hb)
  go_ret
  exact ⟨by rw [HO.out];rfl,B3.out⟩
 | true=>
  rw [hn] at HN HO
  go_enter Tryz.func160,Tryz.ntmps160
  go_wp2_with (first
   | (go_at_call 158;refine (HN.out _ B1.out).mono ?_;rintro e W3 ⟨rfl,hb⟩;have hc3:=(hb.block W.heap.size (by simp)).trans HC.out;have k0:W3.cell? ⟨W.heap.size,0,none⟩=some (.string (bs b.name)):=(cell_of_row _ _ _ _ _ _ hc3).trans rfl;have k1:W3.cell? ⟨W.heap.size,1,none⟩=some (.int .i64 b.x.op):=(cell_of_row _ _ _ _ _ _ hc3).trans rfl;have k2:W3.cell? ⟨W.heap.size,2,none⟩=some (.string (bs b.x.name)):=(cell_of_row _ _ _ _ _ _ hc3).trans rfl;have k3:W3.cell? ⟨W.heap.size,3,none⟩=some (.int .i64 b.x.n):=(cell_of_row _ _ _ _ _ _ hc3).trans rfl;have k4:W3.cell? ⟨W.heap.size,4,none⟩=some (.int .i64 b.x.w):=(cell_of_row _ _ _ _ _ _ hc3).trans rfl;have k5:W3.cell? ⟨W.heap.size,5,none⟩=some (.int .u64 b.x.v):=(cell_of_row _ _ _ _ _ _ hc3).trans rfl;have k6:W3.cell? ⟨W.heap.size,6,none⟩=some (ls):=(cell_of_row _ _ _ _ _ _ hc3).trans rfl;have B3:=hid (B1.out.trans (hb.mono B1.out.size));clear hb)
   | (go_at_call 68;refine (HG.out _ B3.out).mono ?_;rintro e W4 ⟨rfl,hb⟩;have B4:=hid (B3.out.trans (hb.mono B3.out.size));clear hb))
  go_ret
  exact ⟨by rw [HO.out];rfl,B4.out⟩
theorem goodP_ok (b:Pt) (hsm:smP b=true) (hsz:sizeP b≤65536):GoodP b:=by
 intro W cs hB hR
 obtain ⟨xs,rfl,hX⟩:=hR
 have hX0:=hX
 obtain ⟨hv,ls,rfl,hL⟩:=XR_iff.1 hX
 unfold smP at hsm
 rw [Bool.and_eq_true] at hsm
 have HX:=hid hX0
 have HN:=hid (fun (W9:World) (h:Below W.heap.size W W9)=>aname_any b.name (of_decide_eq_true hsm.1) W9 (hB.later h).base)
 have HG:=hid (fun (W9:World) (h:Below W.heap.size W W9)=>goodX_ok b.w hsm.2 (by unfold sizeP at hsz;omega) W9 _ (hB.later h) (XR.later h _ _ HX.out))
 have B1:=hid ((Below.refl W.heap.size W).alloc (Nat.le_refl _) (.cells #[.string (bs b.name),.bool b.out,.int .i64 b.w.op,.string (bs b.w.name),.int .i64 b.w.n,.int .i64 b.w.w,.int .u64 b.w.v,ls] 114))
 have hc:=World.alloc_heap_new W (.cells #[.string (bs b.name),.bool b.out,.int .i64 b.w.op,.string (bs b.w.name),.int .i64 b.w.n,.int .i64 b.w.w,.int .u64 b.w.v,ls] 114)
 have HC:=hid hc
 have ho:okP b=(isName b.name && okX b.w):=rfl
 have HO:=hid ho
 clear hX0 hX hv hL hB hsm hc ho
 cases hn:isName b.name with
 | false=>
  rw [hn] at HN HO
  go_enter Tryz.func157,Tryz.ntmps157
  go_wp2_with (go_at_call 158;refine (HN.out _ B1.out).mono ?_;rintro e W3 ⟨rfl,hb⟩;have B3:=hid (B1.out.trans (hb.mono B1.out.size));clear hb)
  go_ret
  exact ⟨by rw [HO.out];rfl,B3.out⟩
 | true=>
  rw [hn] at HN HO
  go_enter Tryz.func157,Tryz.ntmps157
  go_wp2_with (first
   | (go_at_call 158;refine (HN.out _ B1.out).mono ?_;rintro e W3 ⟨rfl,hb⟩;have hc3:=(hb.block W.heap.size (by simp)).trans HC.out;have k0:W3.cell? ⟨W.heap.size,0,none⟩=some (.string (bs b.name)):=(cell_of_row _ _ _ _ _ _ hc3).trans rfl;have k1:W3.cell? ⟨W.heap.size,1,none⟩=some (.bool b.out):=(cell_of_row _ _ _ _ _ _ hc3).trans rfl;have k2:W3.cell? ⟨W.heap.size,2,none⟩=some (.int .i64 b.w.op):=(cell_of_row _ _ _ _ _ _ hc3).trans rfl;have k3:W3.cell? ⟨W.heap.size,3,none⟩=some (.string (bs b.w.name)):=(cell_of_row _ _ _ _ _ _ hc3).trans rfl;have k4:W3.cell? ⟨W.heap.size,4,none⟩=some (.int .i64 b.w.n):=(cell_of_row _ _ _ _ _ _ hc3).trans rfl;have k5:W3.cell? ⟨W.heap.size,5,none⟩=some (.int .i64 b.w.w):=(cell_of_row _ _ _ _ _ _ hc3).trans rfl;have k6:W3.cell? ⟨W.heap.size,6,none⟩=some (.int .u64 b.w.v):=(cell_of_row _ _ _ _ _ _ hc3).trans rfl;have k7:W3.cell? ⟨W.heap.size,7,none⟩=some (ls):=(cell_of_row _ _ _ _ _ _ hc3).trans rfl;have B3:=hid (B1.out.trans (hb.mono B1.out.size));clear hb)
   | (go_at_call 68;refine (HG.out _ B3.out).mono ?_;rintro e W4 ⟨rfl,hb⟩;have B4:=hid (B3.out.trans (hb.mono B3.out.size));clear hb))
  go_ret
  exact ⟨by rw [HO.out];rfl,B4.out⟩
theorem goodS_x (W:World) (op:Int) (name:Ln) (m1 m2 c1 c2:Nat) (px:Option Addr) (pl:Option Addr)
  (hX:∀ W9,Below W.heap.size W W9→Calls Tryz.prog 133 #[.slice px m1 c1,.func (.func 68) #[] #[]] W9 fun e W'=>e=.returned (.bool (false))∧Below W9.heap.size W9 W')
  : Calls Tryz.prog 118 #[.agg #[.int .i64 op,.string (bs name),.slice px m1 c1,.slice pl m2 c2]] W fun e W'=>e=.returned (.bool (false))∧Below W.heap.size W W':=by
 have HX:=hid hX
 clear hX
 have B1:=hid ((Below.refl W.heap.size W).alloc (Nat.le_refl _) (.cells #[.int .i64 op,.string (bs name),.slice px m1 c1,.slice pl m2 c2] 31))
 have hc1:=World.alloc_heap_new W (.cells #[.int .i64 op,.string (bs name),.slice px m1 c1,.slice pl m2 c2] 31)
 have hl1:W.heap.size<(W.alloc (.cells #[.int .i64 op,.string (bs name),.slice px m1 c1,.slice pl m2 c2] 31)).heap.size:=by simp
 have HC1:=hid hc1
 have HL1:=hid hl1
 clear hc1 hl1
 go_enter Tryz.func118,Tryz.ntmps118
 go_wp2_with ((go_at_call 133;refine (HX.out _ B1.out).mono ?_;rintro e W2 ⟨rfl,hb⟩;have hc:=(hb.block W.heap.size HL1.out).trans HC1.out;obtain ⟨k0,k1,k2,k3⟩:=cells4 hc;  have HC2:=hid hc;have HL2:=hid (Nat.lt_of_lt_of_le HL1.out hb.size);have B2:=hid (B1.out.trans (hb.mono B1.out.size));clear hc hb))
 go_ret
 exact ⟨rfl,B2.out⟩
theorem goodS_n (W:World) (op:Int) (name:Ln) (m1 m2 c1 c2:Nat) (px:Option Addr) (pl:Option Addr)  (h6:op ≠ 6) (hs:name ≠ [])
  (hX:∀ W9,Below W.heap.size W W9→Calls Tryz.prog 133 #[.slice px m1 c1,.func (.func 68) #[] #[]] W9 fun e W'=>e=.returned (.bool (true))∧Below W9.heap.size W9 W')
  : Calls Tryz.prog 118 #[.agg #[.int .i64 op,.string (bs name),.slice px m1 c1,.slice pl m2 c2]] W fun e W'=>e=.returned (.bool (false))∧Below W.heap.size W W':=by
 have HX:=hid hX
 clear hX
 have e6:¬ (op=6):=h6
 have e6d:decide (op=6)=false:=by simpa using e6
 have e6b:(op == 6)=false:=by simpa using e6
 have e6n:(op != 6)=true:=by simpa using e6
 have hse:(bs name).toList.isEmpty=false:=by rw [Lib.toList_data,list_bs];simpa using hs
 have B1:=hid ((Below.refl W.heap.size W).alloc (Nat.le_refl _) (.cells #[.int .i64 op,.string (bs name),.slice px m1 c1,.slice pl m2 c2] 31))
 have hc1:=World.alloc_heap_new W (.cells #[.int .i64 op,.string (bs name),.slice px m1 c1,.slice pl m2 c2] 31)
 have hl1:W.heap.size<(W.alloc (.cells #[.int .i64 op,.string (bs name),.slice px m1 c1,.slice pl m2 c2] 31)).heap.size:=by simp
 have HC1:=hid hc1
 have HL1:=hid hl1
 clear hc1 hl1
 go_enter Tryz.func118,Tryz.ntmps118
 go_wp2_with ((go_at_call 133;refine (HX.out _ B1.out).mono ?_;rintro e W2 ⟨rfl,hb⟩;have hc:=(hb.block W.heap.size HL1.out).trans HC1.out;obtain ⟨k0,k1,k2,k3⟩:=cells4 hc;  have HC2:=hid hc;have HL2:=hid (Nat.lt_of_lt_of_le HL1.out hb.size);have B2:=hid (B1.out.trans (hb.mono B1.out.size));clear hc hb))
 go_ret
 exact ⟨rfl,B2.out⟩
theorem goodS_3n (W:World) (m1 m2 c1 c2:Nat) (px:Option Addr) (pl:Option Addr)  (h1:m1 ≠ 1)
  (hX:∀ W9,Below W.heap.size W W9→Calls Tryz.prog 133 #[.slice px m1 c1,.func (.func 68) #[] #[]] W9 fun e W'=>e=.returned (.bool (true))∧Below W9.heap.size W9 W')
  : Calls Tryz.prog 118 #[.agg #[.int .i64 3,.string (bs []),.slice px m1 c1,.slice pl m2 c2]] W fun e W'=>e=.returned (.bool (false))∧Below W.heap.size W W':=by
 have HX:=hid hX
 clear hX
 have hse:(bs []).toList.isEmpty=true:=by rw [Lib.toList_data,list_bs];rfl
 have l0:¬ ((m1:Int)=1):=by omega
 have l1:decide ((m1:Int)=1)=false:=by simpa using l0
 have l2:((m1:Int) == 1)=false:=by simpa using l0
 have B1:=hid ((Below.refl W.heap.size W).alloc (Nat.le_refl _) (.cells #[.int .i64 3,.string (bs []),.slice px m1 c1,.slice pl m2 c2] 31))
 have hc1:=World.alloc_heap_new W (.cells #[.int .i64 3,.string (bs []),.slice px m1 c1,.slice pl m2 c2] 31)
 have hl1:W.heap.size<(W.alloc (.cells #[.int .i64 3,.string (bs []),.slice px m1 c1,.slice pl m2 c2] 31)).heap.size:=by simp
 have HC1:=hid hc1
 have HL1:=hid hl1
 clear hc1 hl1
 go_enter Tryz.func118,Tryz.ntmps118
 go_wp2_with ((go_at_call 133;refine (HX.out _ B1.out).mono ?_;rintro e W2 ⟨rfl,hb⟩;have hc:=(hb.block W.heap.size HL1.out).trans HC1.out;obtain ⟨k0,k1,k2,k3⟩:=cells4 hc;  have HC2:=hid hc;have HL2:=hid (Nat.lt_of_lt_of_le HL1.out hb.size);have B2:=hid (B1.out.trans (hb.mono B1.out.size));clear hc hb))
 go_ret
 exact ⟨rfl,B2.out⟩
theorem goodS_3y (W:World) (m2 c1 c2:Nat) (px:Option Addr) (pl:Option Addr)  (b:Bool)
  (hX:∀ W9,Below W.heap.size W W9→Calls Tryz.prog 133 #[.slice px 1 c1,.func (.func 68) #[] #[]] W9 fun e W'=>e=.returned (.bool (true))∧Below W9.heap.size W9 W')
  (hA:∀ W9,Below W.heap.size W W9→Calls Tryz.prog 181 #[.slice pl m2 c2] W9 fun e W'=>e=.returned (.bool (b))∧Below W9.heap.size W9 W')
  : Calls Tryz.prog 118 #[.agg #[.int .i64 3,.string (bs []),.slice px 1 c1,.slice pl m2 c2]] W fun e W'=>e=.returned (.bool (b))∧Below W.heap.size W W':=by
 have HX:=hid hX
 have HA:=hid hA
 clear hX hA
 have hse:(bs []).toList.isEmpty=true:=by rw [Lib.toList_data,list_bs];rfl
 have B1:=hid ((Below.refl W.heap.size W).alloc (Nat.le_refl _) (.cells #[.int .i64 3,.string (bs []),.slice px 1 c1,.slice pl m2 c2] 31))
 have hc1:=World.alloc_heap_new W (.cells #[.int .i64 3,.string (bs []),.slice px 1 c1,.slice pl m2 c2] 31)
 have hl1:W.heap.size<(W.alloc (.cells #[.int .i64 3,.string (bs []),.slice px 1 c1,.slice pl m2 c2] 31)).heap.size:=by simp
 have HC1:=hid hc1
 have HL1:=hid hl1
 clear hc1 hl1
 go_enter Tryz.func118,Tryz.ntmps118
 go_wp2_with (first | (go_at_call 133;refine (HX.out _ B1.out).mono ?_;rintro e W2 ⟨rfl,hb⟩;have hc:=(hb.block W.heap.size HL1.out).trans HC1.out;obtain ⟨k0,k1,k2,k3⟩:=cells4 hc;  have HC2:=hid hc;have HL2:=hid (Nat.lt_of_lt_of_le HL1.out hb.size);have B2:=hid (B1.out.trans (hb.mono B1.out.size));clear hc hb) | (go_at_call 181;refine (HA.out _ B2.out).mono ?_;rintro e W3 ⟨rfl,hb⟩;have hc:=(hb.block W.heap.size HL2.out).trans HC2.out;obtain ⟨k0,k1,k2,k3⟩:=cells4 hc;  have HC3:=hid hc;have HL3:=hid (Nat.lt_of_lt_of_le HL2.out hb.size);have B3:=hid (B2.out.trans (hb.mono B2.out.size));clear hc hb))
 go_ret
 exact ⟨rfl,B3.out⟩
theorem goodS_6s (W:World) (name:Ln) (m1 m2 c1 c2:Nat) (px:Option Addr) (pl:Option Addr)
  (hX:∀ W9,Below W.heap.size W W9→Calls Tryz.prog 133 #[.slice px m1 c1,.func (.func 68) #[] #[]] W9 fun e W'=>e=.returned (.bool (true))∧Below W9.heap.size W9 W')
  (hS:∀ W9,Below W.heap.size W W9→Calls Tryz.prog 182 #[.slice pl m2 c2,.func (.func 118) #[] #[]] W9 fun e W'=>e=.returned (.bool (false))∧Below W9.heap.size W9 W')
  : Calls Tryz.prog 118 #[.agg #[.int .i64 6,.string (bs name),.slice px m1 c1,.slice pl m2 c2]] W fun e W'=>e=.returned (.bool (false))∧Below W.heap.size W W':=by
 have HX:=hid hX
 have HS:=hid hS
 clear hX hS
 have B1:=hid ((Below.refl W.heap.size W).alloc (Nat.le_refl _) (.cells #[.int .i64 6,.string (bs name),.slice px m1 c1,.slice pl m2 c2] 31))
 have hc1:=World.alloc_heap_new W (.cells #[.int .i64 6,.string (bs name),.slice px m1 c1,.slice pl m2 c2] 31)
 have hl1:W.heap.size<(W.alloc (.cells #[.int .i64 6,.string (bs name),.slice px m1 c1,.slice pl m2 c2] 31)).heap.size:=by simp
 have HC1:=hid hc1
 have HL1:=hid hl1
 clear hc1 hl1
 go_enter Tryz.func118,Tryz.ntmps118
 go_wp2_with (first | (go_at_call 133;refine (HX.out _ B1.out).mono ?_;rintro e W2 ⟨rfl,hb⟩;have hc:=(hb.block W.heap.size HL1.out).trans HC1.out;obtain ⟨k0,k1,k2,k3⟩:=cells4 hc;  have HC2:=hid hc;have HL2:=hid (Nat.lt_of_lt_of_le HL1.out hb.size);have B2:=hid (B1.out.trans (hb.mono B1.out.size));clear hc hb) | (go_at_call 182;refine (HS.out _ B2.out).mono ?_;rintro e W3 ⟨rfl,hb⟩;have hc:=(hb.block W.heap.size HL2.out).trans HC2.out;obtain ⟨k0,k1,k2,k3⟩:=cells4 hc;  have HC3:=hid hc;have HL3:=hid (Nat.lt_of_lt_of_le HL2.out hb.size);have B3:=hid (B2.out.trans (hb.mono B2.out.size));clear hc hb))
 go_ret
 exact ⟨rfl,B3.out⟩
theorem goodS_os (W:World) (op:Int) (m1 m2 c1 c2:Nat) (px:Option Addr) (pl:Option Addr)  (h6:op ≠ 6) (h3:op ≠ 3)
  (hX:∀ W9,Below W.heap.size W W9→Calls Tryz.prog 133 #[.slice px m1 c1,.func (.func 68) #[] #[]] W9 fun e W'=>e=.returned (.bool (true))∧Below W9.heap.size W9 W')
  (hS:∀ W9,Below W.heap.size W W9→Calls Tryz.prog 182 #[.slice pl m2 c2,.func (.func 118) #[] #[]] W9 fun e W'=>e=.returned (.bool (false))∧Below W9.heap.size W9 W')
  : Calls Tryz.prog 118 #[.agg #[.int .i64 op,.string (bs []),.slice px m1 c1,.slice pl m2 c2]] W fun e W'=>e=.returned (.bool (false))∧Below W.heap.size W W':=by
 have HX:=hid hX
 have HS:=hid hS
 clear hX hS
 have e6:¬ (op=6):=h6
 have e6d:decide (op=6)=false:=by simpa using e6
 have e6b:(op == 6)=false:=by simpa using e6
 have e6n:(op != 6)=true:=by simpa using e6
 have e3:¬ (op=3):=h3
 have e3d:decide (op=3)=false:=by simpa using e3
 have e3b:(op == 3)=false:=by simpa using e3
 have e3n:(op != 3)=true:=by simpa using e3
 have hse:(bs []).toList.isEmpty=true:=by rw [Lib.toList_data,list_bs];rfl
 have B1:=hid ((Below.refl W.heap.size W).alloc (Nat.le_refl _) (.cells #[.int .i64 op,.string (bs []),.slice px m1 c1,.slice pl m2 c2] 31))
 have hc1:=World.alloc_heap_new W (.cells #[.int .i64 op,.string (bs []),.slice px m1 c1,.slice pl m2 c2] 31)
 have hl1:W.heap.size<(W.alloc (.cells #[.int .i64 op,.string (bs []),.slice px m1 c1,.slice pl m2 c2] 31)).heap.size:=by simp
 have HC1:=hid hc1
 have HL1:=hid hl1
 clear hc1 hl1
 go_enter Tryz.func118,Tryz.ntmps118
 go_wp2_with (first | (go_at_call 133;refine (HX.out _ B1.out).mono ?_;rintro e W2 ⟨rfl,hb⟩;have hc:=(hb.block W.heap.size HL1.out).trans HC1.out;obtain ⟨k0,k1,k2,k3⟩:=cells4 hc;  have HC2:=hid hc;have HL2:=hid (Nat.lt_of_lt_of_le HL1.out hb.size);have B2:=hid (B1.out.trans (hb.mono B1.out.size));clear hc hb) | (go_at_call 182;refine (HS.out _ B2.out).mono ?_;rintro e W3 ⟨rfl,hb⟩;have hc:=(hb.block W.heap.size HL2.out).trans HC2.out;obtain ⟨k0,k1,k2,k3⟩:=cells4 hc;  have HC3:=hid hc;have HL3:=hid (Nat.lt_of_lt_of_le HL2.out hb.size);have B3:=hid (B2.out.trans (hb.mono B2.out.size));clear hc hb))
 go_ret
 exact ⟨rfl,B3.out⟩
theorem goodS_1a (W:World) (m1 m2 c1 c2:Nat) (px:Option Addr) (pl:Option Addr)  (h1:m1 ≠ 2)
  (hX:∀ W9,Below W.heap.size W W9→Calls Tryz.prog 133 #[.slice px m1 c1,.func (.func 68) #[] #[]] W9 fun e W'=>e=.returned (.bool (true))∧Below W9.heap.size W9 W')
  (hS:∀ W9,Below W.heap.size W W9→Calls Tryz.prog 182 #[.slice pl m2 c2,.func (.func 118) #[] #[]] W9 fun e W'=>e=.returned (.bool (true))∧Below W9.heap.size W9 W')
  : Calls Tryz.prog 118 #[.agg #[.int .i64 1,.string (bs []),.slice px m1 c1,.slice pl m2 c2]] W fun e W'=>e=.returned (.bool (false))∧Below W.heap.size W W':=by
 have HX:=hid hX
 have HS:=hid hS
 clear hX hS
 have hse:(bs []).toList.isEmpty=true:=by rw [Lib.toList_data,list_bs];rfl
 have l0:¬ ((m1:Int)=2):=by omega
 have l1:decide ((m1:Int)=2)=false:=by simpa using l0
 have l2:((m1:Int) == 2)=false:=by simpa using l0
 have B1:=hid ((Below.refl W.heap.size W).alloc (Nat.le_refl _) (.cells #[.int .i64 1,.string (bs []),.slice px m1 c1,.slice pl m2 c2] 31))
 have hc1:=World.alloc_heap_new W (.cells #[.int .i64 1,.string (bs []),.slice px m1 c1,.slice pl m2 c2] 31)
 have hl1:W.heap.size<(W.alloc (.cells #[.int .i64 1,.string (bs []),.slice px m1 c1,.slice pl m2 c2] 31)).heap.size:=by simp
 have HC1:=hid hc1
 have HL1:=hid hl1
 clear hc1 hl1
 go_enter Tryz.func118,Tryz.ntmps118
 go_wp2_with (first | (go_at_call 133;refine (HX.out _ B1.out).mono ?_;rintro e W2 ⟨rfl,hb⟩;have hc:=(hb.block W.heap.size HL1.out).trans HC1.out;obtain ⟨k0,k1,k2,k3⟩:=cells4 hc;  have HC2:=hid hc;have HL2:=hid (Nat.lt_of_lt_of_le HL1.out hb.size);have B2:=hid (B1.out.trans (hb.mono B1.out.size));clear hc hb) | (go_at_call 182;refine (HS.out _ B2.out).mono ?_;rintro e W3 ⟨rfl,hb⟩;have hc:=(hb.block W.heap.size HL2.out).trans HC2.out;obtain ⟨k0,k1,k2,k3⟩:=cells4 hc;  have HC3:=hid hc;have HL3:=hid (Nat.lt_of_lt_of_le HL2.out hb.size);have B3:=hid (B2.out.trans (hb.mono B2.out.size));clear hc hb))
 go_ret
 exact ⟨rfl,B3.out⟩
theorem goodS_1b (W:World) (m2 c1 c2:Nat) (pl:Option Addr) (q off:Nat) (t0 t2 t3:Int) (t1:ByteArray) (t4:Int) (t5:Value) (hq:q<W.heap.size∧W.cell? ⟨q,off,none⟩=some (.int .i64 t0)∧W.cell? ⟨q,off+1,none⟩=some (.string t1)∧W.cell? ⟨q,off+2,none⟩=some (.int .i64 t2)∧W.cell? ⟨q,off+3,none⟩=some (.int .i64 t3)∧W.cell? ⟨q,off+4,none⟩=some (.int .u64 t4)∧W.cell? ⟨q,off+5,none⟩=some t5)
  (hX:∀ W9,Below W.heap.size W W9→Calls Tryz.prog 133 #[.slice (some ⟨q,off,none⟩) 2 c1,.func (.func 68) #[] #[]] W9 fun e W'=>e=.returned (.bool (true))∧Below W9.heap.size W9 W')
  (hS:∀ W9,Below W.heap.size W W9→Calls Tryz.prog 182 #[.slice pl m2 c2,.func (.func 118) #[] #[]] W9 fun e W'=>e=.returned (.bool (true))∧Below W9.heap.size W9 W')
  (hT:∀ W9,Below W.heap.size W W9→Calls Tryz.prog 74 #[.agg #[.int .i64 t0,.string t1,.int .i64 t2,.int .i64 t3,.int .u64 t4,t5]] W9 fun e W'=>e=.returned (.bool (false))∧Below W9.heap.size W9 W')
  : Calls Tryz.prog 118 #[.agg #[.int .i64 1,.string (bs []),.slice (some ⟨q,off,none⟩) 2 c1,.slice pl m2 c2]] W fun e W'=>e=.returned (.bool (false))∧Below W.heap.size W W':=by
 have HX:=hid hX
 have HS:=hid hS
 have HT:=hid hT
 clear hX hS hT
 have hse:(bs []).toList.isEmpty=true:=by rw [Lib.toList_data,list_bs];rfl
 have B1:=hid ((Below.refl W.heap.size W).alloc (Nat.le_refl _) (.cells #[.int .i64 1,.string (bs []),.slice (some ⟨q,off,none⟩) 2 c1,.slice pl m2 c2] 31))
 have hc1:=World.alloc_heap_new W (.cells #[.int .i64 1,.string (bs []),.slice (some ⟨q,off,none⟩) 2 c1,.slice pl m2 c2] 31)
 have hl1:W.heap.size<(W.alloc (.cells #[.int .i64 1,.string (bs []),.slice (some ⟨q,off,none⟩) 2 c1,.slice pl m2 c2] 31)).heap.size:=by simp
 have HC1:=hid hc1
 have HL1:=hid hl1
 have HQ:=hid hq
 clear hc1 hl1 hq
 go_enter Tryz.func118,Tryz.ntmps118
 go_wp2_with (first | (go_at_call 133;refine (HX.out _ B1.out).mono ?_;rintro e W2 ⟨rfl,hb⟩;have hc:=(hb.block W.heap.size HL1.out).trans HC1.out;obtain ⟨k0,k1,k2,k3⟩:=cells4 hc;have q0:=((B1.out.trans (hb.mono B1.out.size)).cell (p:=⟨q,off,none⟩) HQ.out.1).trans HQ.out.2.1;have q1:=((B1.out.trans (hb.mono B1.out.size)).cell (p:=⟨q,off+1,none⟩) HQ.out.1).trans HQ.out.2.2.1;have q2:=((B1.out.trans (hb.mono B1.out.size)).cell (p:=⟨q,off+2,none⟩) HQ.out.1).trans HQ.out.2.2.2.1;have q3:=((B1.out.trans (hb.mono B1.out.size)).cell (p:=⟨q,off+3,none⟩) HQ.out.1).trans HQ.out.2.2.2.2.1;have q4:=((B1.out.trans (hb.mono B1.out.size)).cell (p:=⟨q,off+4,none⟩) HQ.out.1).trans HQ.out.2.2.2.2.2.1;have q5:=((B1.out.trans (hb.mono B1.out.size)).cell (p:=⟨q,off+5,none⟩) HQ.out.1).trans HQ.out.2.2.2.2.2.2;have HC2:=hid hc;have HL2:=hid (Nat.lt_of_lt_of_le HL1.out hb.size);have B2:=hid (B1.out.trans (hb.mono B1.out.size));clear hc hb) | (go_at_call 182;refine (HS.out _ B2.out).mono ?_;rintro e W3 ⟨rfl,hb⟩;have hc:=(hb.block W.heap.size HL2.out).trans HC2.out;obtain ⟨k0,k1,k2,k3⟩:=cells4 hc;have q0:=((B2.out.trans (hb.mono B2.out.size)).cell (p:=⟨q,off,none⟩) HQ.out.1).trans HQ.out.2.1;have q1:=((B2.out.trans (hb.mono B2.out.size)).cell (p:=⟨q,off+1,none⟩) HQ.out.1).trans HQ.out.2.2.1;have q2:=((B2.out.trans (hb.mono B2.out.size)).cell (p:=⟨q,off+2,none⟩) HQ.out.1).trans HQ.out.2.2.2.1;have q3:=((B2.out.trans (hb.mono B2.out.size)).cell (p:=⟨q,off+3,none⟩) HQ.out.1).trans HQ.out.2.2.2.2.1;have q4:=((B2.out.trans (hb.mono B2.out.size)).cell (p:=⟨q,off+4,none⟩) HQ.out.1).trans HQ.out.2.2.2.2.2.1;have q5:=((B2.out.trans (hb.mono B2.out.size)).cell (p:=⟨q,off+5,none⟩) HQ.out.1).trans HQ.out.2.2.2.2.2.2;have HC3:=hid hc;have HL3:=hid (Nat.lt_of_lt_of_le HL2.out hb.size);have B3:=hid (B2.out.trans (hb.mono B2.out.size));clear hc hb) | (go_at_call 74;refine (HT.out _ B3.out).mono ?_;rintro e W4 ⟨rfl,hb⟩;have hc:=(hb.block W.heap.size HL3.out).trans HC3.out;obtain ⟨k0,k1,k2,k3⟩:=cells4 hc;have q0:=((B3.out.trans (hb.mono B3.out.size)).cell (p:=⟨q,off,none⟩) HQ.out.1).trans HQ.out.2.1;have q1:=((B3.out.trans (hb.mono B3.out.size)).cell (p:=⟨q,off+1,none⟩) HQ.out.1).trans HQ.out.2.2.1;have q2:=((B3.out.trans (hb.mono B3.out.size)).cell (p:=⟨q,off+2,none⟩) HQ.out.1).trans HQ.out.2.2.2.1;have q3:=((B3.out.trans (hb.mono B3.out.size)).cell (p:=⟨q,off+3,none⟩) HQ.out.1).trans HQ.out.2.2.2.2.1;have q4:=((B3.out.trans (hb.mono B3.out.size)).cell (p:=⟨q,off+4,none⟩) HQ.out.1).trans HQ.out.2.2.2.2.2.1;have q5:=((B3.out.trans (hb.mono B3.out.size)).cell (p:=⟨q,off+5,none⟩) HQ.out.1).trans HQ.out.2.2.2.2.2.2;have HC4:=hid hc;have HL4:=hid (Nat.lt_of_lt_of_le HL3.out hb.size);have B4:=hid (B3.out.trans (hb.mono B3.out.size));clear hc hb))
 go_ret
 exact ⟨rfl,B4.out⟩
theorem goodS_1c (W:World) (m2 c1 c2:Nat) (pl:Option Addr) (q off:Nat) (t0 t2 t3:Int) (t1:ByteArray) (t4:Int) (t5:Value) (hq:q<W.heap.size∧W.cell? ⟨q,off,none⟩=some (.int .i64 t0)∧W.cell? ⟨q,off+1,none⟩=some (.string t1)∧W.cell? ⟨q,off+2,none⟩=some (.int .i64 t2)∧W.cell? ⟨q,off+3,none⟩=some (.int .i64 t3)∧W.cell? ⟨q,off+4,none⟩=some (.int .u64 t4)∧W.cell? ⟨q,off+5,none⟩=some t5)
  (hX:∀ W9,Below W.heap.size W W9→Calls Tryz.prog 133 #[.slice (some ⟨q,off,none⟩) 2 c1,.func (.func 68) #[] #[]] W9 fun e W'=>e=.returned (.bool (true))∧Below W9.heap.size W9 W')
  (hS:∀ W9,Below W.heap.size W W9→Calls Tryz.prog 182 #[.slice pl m2 c2,.func (.func 118) #[] #[]] W9 fun e W'=>e=.returned (.bool (true))∧Below W9.heap.size W9 W')
  (hT:∀ W9,Below W.heap.size W W9→Calls Tryz.prog 74 #[.agg #[.int .i64 t0,.string t1,.int .i64 t2,.int .i64 t3,.int .u64 t4,t5]] W9 fun e W'=>e=.returned (.bool (true))∧Below W9.heap.size W9 W')
  : Calls Tryz.prog 118 #[.agg #[.int .i64 1,.string (bs []),.slice (some ⟨q,off,none⟩) 2 c1,.slice pl m2 c2]] W fun e W'=>e=.returned (.bool (((m2:Int) == 0)))∧Below W.heap.size W W':=by
 have HX:=hid hX
 have HS:=hid hS
 have HT:=hid hT
 clear hX hS hT
 have hse:(bs []).toList.isEmpty=true:=by rw [Lib.toList_data,list_bs];rfl
 have B1:=hid ((Below.refl W.heap.size W).alloc (Nat.le_refl _) (.cells #[.int .i64 1,.string (bs []),.slice (some ⟨q,off,none⟩) 2 c1,.slice pl m2 c2] 31))
 have hc1:=World.alloc_heap_new W (.cells #[.int .i64 1,.string (bs []),.slice (some ⟨q,off,none⟩) 2 c1,.slice pl m2 c2] 31)
 have hl1:W.heap.size<(W.alloc (.cells #[.int .i64 1,.string (bs []),.slice (some ⟨q,off,none⟩) 2 c1,.slice pl m2 c2] 31)).heap.size:=by simp
 have HC1:=hid hc1
 have HL1:=hid hl1
 have HQ:=hid hq
 clear hc1 hl1 hq
 go_enter Tryz.func118,Tryz.ntmps118
 go_wp2_with (first | (go_at_call 133;refine (HX.out _ B1.out).mono ?_;rintro e W2 ⟨rfl,hb⟩;have hc:=(hb.block W.heap.size HL1.out).trans HC1.out;obtain ⟨k0,k1,k2,k3⟩:=cells4 hc;have q0:=((B1.out.trans (hb.mono B1.out.size)).cell (p:=⟨q,off,none⟩) HQ.out.1).trans HQ.out.2.1;have q1:=((B1.out.trans (hb.mono B1.out.size)).cell (p:=⟨q,off+1,none⟩) HQ.out.1).trans HQ.out.2.2.1;have q2:=((B1.out.trans (hb.mono B1.out.size)).cell (p:=⟨q,off+2,none⟩) HQ.out.1).trans HQ.out.2.2.2.1;have q3:=((B1.out.trans (hb.mono B1.out.size)).cell (p:=⟨q,off+3,none⟩) HQ.out.1).trans HQ.out.2.2.2.2.1;have q4:=((B1.out.trans (hb.mono B1.out.size)).cell (p:=⟨q,off+4,none⟩) HQ.out.1).trans HQ.out.2.2.2.2.2.1;have q5:=((B1.out.trans (hb.mono B1.out.size)).cell (p:=⟨q,off+5,none⟩) HQ.out.1).trans HQ.out.2.2.2.2.2.2;have HC2:=hid hc;have HL2:=hid (Nat.lt_of_lt_of_le HL1.out hb.size);have B2:=hid (B1.out.trans (hb.mono B1.out.size));clear hc hb) | (go_at_call 182;refine (HS.out _ B2.out).mono ?_;rintro e W3 ⟨rfl,hb⟩;have hc:=(hb.block W.heap.size HL2.out).trans HC2.out;obtain ⟨k0,k1,k2,k3⟩:=cells4 hc;have q0:=((B2.out.trans (hb.mono B2.out.size)).cell (p:=⟨q,off,none⟩) HQ.out.1).trans HQ.out.2.1;have q1:=((B2.out.trans (hb.mono B2.out.size)).cell (p:=⟨q,off+1,none⟩) HQ.out.1).trans HQ.out.2.2.1;have q2:=((B2.out.trans (hb.mono B2.out.size)).cell (p:=⟨q,off+2,none⟩) HQ.out.1).trans HQ.out.2.2.2.1;have q3:=((B2.out.trans (hb.mono B2.out.size)).cell (p:=⟨q,off+3,none⟩) HQ.out.1).trans HQ.out.2.2.2.2.1;have q4:=((B2.out.trans (hb.mono B2.out.size)).cell (p:=⟨q,off+4,none⟩) HQ.out.1).trans HQ.out.2.2.2.2.2.1;have q5:=((B2.out.trans (hb.mono B2.out.size)).cell (p:=⟨q,off+5,none⟩) HQ.out.1).trans HQ.out.2.2.2.2.2.2;have HC3:=hid hc;have HL3:=hid (Nat.lt_of_lt_of_le HL2.out hb.size);have B3:=hid (B2.out.trans (hb.mono B2.out.size));clear hc hb) | (go_at_call 74;refine (HT.out _ B3.out).mono ?_;rintro e W4 ⟨rfl,hb⟩;have hc:=(hb.block W.heap.size HL3.out).trans HC3.out;obtain ⟨k0,k1,k2,k3⟩:=cells4 hc;have q0:=((B3.out.trans (hb.mono B3.out.size)).cell (p:=⟨q,off,none⟩) HQ.out.1).trans HQ.out.2.1;have q1:=((B3.out.trans (hb.mono B3.out.size)).cell (p:=⟨q,off+1,none⟩) HQ.out.1).trans HQ.out.2.2.1;have q2:=((B3.out.trans (hb.mono B3.out.size)).cell (p:=⟨q,off+2,none⟩) HQ.out.1).trans HQ.out.2.2.2.1;have q3:=((B3.out.trans (hb.mono B3.out.size)).cell (p:=⟨q,off+3,none⟩) HQ.out.1).trans HQ.out.2.2.2.2.1;have q4:=((B3.out.trans (hb.mono B3.out.size)).cell (p:=⟨q,off+4,none⟩) HQ.out.1).trans HQ.out.2.2.2.2.2.1;have q5:=((B3.out.trans (hb.mono B3.out.size)).cell (p:=⟨q,off+5,none⟩) HQ.out.1).trans HQ.out.2.2.2.2.2.2;have HC4:=hid hc;have HL4:=hid (Nat.lt_of_lt_of_le HL3.out hb.size);have B4:=hid (B3.out.trans (hb.mono B3.out.size));clear hc hb))
 go_ret
 exact ⟨rfl,B4.out⟩
theorem goodS_2a (W:World) (m1 m2 c1 c2:Nat) (px:Option Addr) (pl:Option Addr)  (h1:m1 ≠ 1)
  (hX:∀ W9,Below W.heap.size W W9→Calls Tryz.prog 133 #[.slice px m1 c1,.func (.func 68) #[] #[]] W9 fun e W'=>e=.returned (.bool (true))∧Below W9.heap.size W9 W')
  (hS:∀ W9,Below W.heap.size W W9→Calls Tryz.prog 182 #[.slice pl m2 c2,.func (.func 118) #[] #[]] W9 fun e W'=>e=.returned (.bool (true))∧Below W9.heap.size W9 W')
  : Calls Tryz.prog 118 #[.agg #[.int .i64 2,.string (bs []),.slice px m1 c1,.slice pl m2 c2]] W fun e W'=>e=.returned (.bool (false))∧Below W.heap.size W W':=by
 have HX:=hid hX
 have HS:=hid hS
 clear hX hS
 have hse:(bs []).toList.isEmpty=true:=by rw [Lib.toList_data,list_bs];rfl
 have l0:¬ ((m1:Int)=1):=by omega
 have l1:decide ((m1:Int)=1)=false:=by simpa using l0
 have l2:((m1:Int) == 1)=false:=by simpa using l0
 have B1:=hid ((Below.refl W.heap.size W).alloc (Nat.le_refl _) (.cells #[.int .i64 2,.string (bs []),.slice px m1 c1,.slice pl m2 c2] 31))
 have hc1:=World.alloc_heap_new W (.cells #[.int .i64 2,.string (bs []),.slice px m1 c1,.slice pl m2 c2] 31)
 have hl1:W.heap.size<(W.alloc (.cells #[.int .i64 2,.string (bs []),.slice px m1 c1,.slice pl m2 c2] 31)).heap.size:=by simp
 have HC1:=hid hc1
 have HL1:=hid hl1
 clear hc1 hl1
 go_enter Tryz.func118,Tryz.ntmps118
 go_wp2_with (first | (go_at_call 133;refine (HX.out _ B1.out).mono ?_;rintro e W2 ⟨rfl,hb⟩;have hc:=(hb.block W.heap.size HL1.out).trans HC1.out;obtain ⟨k0,k1,k2,k3⟩:=cells4 hc;  have HC2:=hid hc;have HL2:=hid (Nat.lt_of_lt_of_le HL1.out hb.size);have B2:=hid (B1.out.trans (hb.mono B1.out.size));clear hc hb) | (go_at_call 182;refine (HS.out _ B2.out).mono ?_;rintro e W3 ⟨rfl,hb⟩;have hc:=(hb.block W.heap.size HL2.out).trans HC2.out;obtain ⟨k0,k1,k2,k3⟩:=cells4 hc;  have HC3:=hid hc;have HL3:=hid (Nat.lt_of_lt_of_le HL2.out hb.size);have B3:=hid (B2.out.trans (hb.mono B2.out.size));clear hc hb))
 go_ret
 exact ⟨rfl,B3.out⟩
theorem goodS_2b (W:World) (m2 c1 c2:Nat) (px:Option Addr) (pl:Option Addr)  (h1:m2 ≠ 2)
  (hX:∀ W9,Below W.heap.size W W9→Calls Tryz.prog 133 #[.slice px 1 c1,.func (.func 68) #[] #[]] W9 fun e W'=>e=.returned (.bool (true))∧Below W9.heap.size W9 W')
  (hS:∀ W9,Below W.heap.size W W9→Calls Tryz.prog 182 #[.slice pl m2 c2,.func (.func 118) #[] #[]] W9 fun e W'=>e=.returned (.bool (true))∧Below W9.heap.size W9 W')
  : Calls Tryz.prog 118 #[.agg #[.int .i64 2,.string (bs []),.slice px 1 c1,.slice pl m2 c2]] W fun e W'=>e=.returned (.bool (false))∧Below W.heap.size W W':=by
 have HX:=hid hX
 have HS:=hid hS
 clear hX hS
 have hse:(bs []).toList.isEmpty=true:=by rw [Lib.toList_data,list_bs];rfl
 have l0:¬ ((m2:Int)=2):=by omega
 have l1:decide ((m2:Int)=2)=false:=by simpa using l0
 have l2:((m2:Int) == 2)=false:=by simpa using l0
 have B1:=hid ((Below.refl W.heap.size W).alloc (Nat.le_refl _) (.cells #[.int .i64 2,.string (bs []),.slice px 1 c1,.slice pl m2 c2] 31))
 have hc1:=World.alloc_heap_new W (.cells #[.int .i64 2,.string (bs []),.slice px 1 c1,.slice pl m2 c2] 31)
 have hl1:W.heap.size<(W.alloc (.cells #[.int .i64 2,.string (bs []),.slice px 1 c1,.slice pl m2 c2] 31)).heap.size:=by simp
 have HC1:=hid hc1
 have HL1:=hid hl1
 clear hc1 hl1
 go_enter Tryz.func118,Tryz.ntmps118
 go_wp2_with (first | (go_at_call 133;refine (HX.out _ B1.out).mono ?_;rintro e W2 ⟨rfl,hb⟩;have hc:=(hb.block W.heap.size HL1.out).trans HC1.out;obtain ⟨k0,k1,k2,k3⟩:=cells4 hc;  have HC2:=hid hc;have HL2:=hid (Nat.lt_of_lt_of_le HL1.out hb.size);have B2:=hid (B1.out.trans (hb.mono B1.out.size));clear hc hb) | (go_at_call 182;refine (HS.out _ B2.out).mono ?_;rintro e W3 ⟨rfl,hb⟩;have hc:=(hb.block W.heap.size HL2.out).trans HC2.out;obtain ⟨k0,k1,k2,k3⟩:=cells4 hc;  have HC3:=hid hc;have HL3:=hid (Nat.lt_of_lt_of_le HL2.out hb.size);have B3:=hid (B2.out.trans (hb.mono B2.out.size));clear hc hb))
 go_ret
 exact ⟨rfl,B3.out⟩
theorem goodS_2c (W:World) (c1 c2:Nat) (px:Option Addr) (q off:Nat) (oa ob:Int) (h5:oa ≠ 5) (hq:q<W.heap.size∧W.cell? ⟨q,off,none⟩=some (.int .i64 oa)∧W.cell? ⟨q,off+4,none⟩=some (.int .i64 ob))
  (hX:∀ W9,Below W.heap.size W W9→Calls Tryz.prog 133 #[.slice px 1 c1,.func (.func 68) #[] #[]] W9 fun e W'=>e=.returned (.bool (true))∧Below W9.heap.size W9 W')
  (hS:∀ W9,Below W.heap.size W W9→Calls Tryz.prog 182 #[.slice (some ⟨q,off,none⟩) 2 c2,.func (.func 118) #[] #[]] W9 fun e W'=>e=.returned (.bool (true))∧Below W9.heap.size W9 W')
  : Calls Tryz.prog 118 #[.agg #[.int .i64 2,.string (bs []),.slice px 1 c1,.slice (some ⟨q,off,none⟩) 2 c2]] W fun e W'=>e=.returned (.bool (false))∧Below W.heap.size W W':=by
 have HX:=hid hX
 have HS:=hid hS
 clear hX hS
 have hse:(bs []).toList.isEmpty=true:=by rw [Lib.toList_data,list_bs];rfl
 have e5:¬ (oa=5):=h5
 have e5d:decide (oa=5)=false:=by simpa using e5
 have e5b:(oa == 5)=false:=by simpa using e5
 have e5n:(oa != 5)=true:=by simpa using e5
 have B1:=hid ((Below.refl W.heap.size W).alloc (Nat.le_refl _) (.cells #[.int .i64 2,.string (bs []),.slice px 1 c1,.slice (some ⟨q,off,none⟩) 2 c2] 31))
 have hc1:=World.alloc_heap_new W (.cells #[.int .i64 2,.string (bs []),.slice px 1 c1,.slice (some ⟨q,off,none⟩) 2 c2] 31)
 have hl1:W.heap.size<(W.alloc (.cells #[.int .i64 2,.string (bs []),.slice px 1 c1,.slice (some ⟨q,off,none⟩) 2 c2] 31)).heap.size:=by simp
 have HC1:=hid hc1
 have HL1:=hid hl1
 have HQ:=hid hq
 clear hc1 hl1 hq
 go_enter Tryz.func118,Tryz.ntmps118
 go_wp2_with (first | (go_at_call 133;refine (HX.out _ B1.out).mono ?_;rintro e W2 ⟨rfl,hb⟩;have hc:=(hb.block W.heap.size HL1.out).trans HC1.out;obtain ⟨k0,k1,k2,k3⟩:=cells4 hc;have q0:=((B1.out.trans (hb.mono B1.out.size)).cell (p:=⟨q,off,none⟩) HQ.out.1).trans HQ.out.2.1;have q1:=((B1.out.trans (hb.mono B1.out.size)).cell (p:=⟨q,off+4,none⟩) HQ.out.1).trans HQ.out.2.2;have HC2:=hid hc;have HL2:=hid (Nat.lt_of_lt_of_le HL1.out hb.size);have B2:=hid (B1.out.trans (hb.mono B1.out.size));clear hc hb) | (go_at_call 182;refine (HS.out _ B2.out).mono ?_;rintro e W3 ⟨rfl,hb⟩;have hc:=(hb.block W.heap.size HL2.out).trans HC2.out;obtain ⟨k0,k1,k2,k3⟩:=cells4 hc;have q0:=((B2.out.trans (hb.mono B2.out.size)).cell (p:=⟨q,off,none⟩) HQ.out.1).trans HQ.out.2.1;have q1:=((B2.out.trans (hb.mono B2.out.size)).cell (p:=⟨q,off+4,none⟩) HQ.out.1).trans HQ.out.2.2;have HC3:=hid hc;have HL3:=hid (Nat.lt_of_lt_of_le HL2.out hb.size);have B3:=hid (B2.out.trans (hb.mono B2.out.size));clear hc hb))
 go_ret
 exact ⟨rfl,B3.out⟩
theorem goodS_2d (W:World) (c1 c2:Nat) (px:Option Addr) (q off:Nat) (hq:q<W.heap.size∧W.cell? ⟨q,off,none⟩=some (.int .i64 5)∧W.cell? ⟨q,off+4,none⟩=some (.int .i64 5))
  (hX:∀ W9,Below W.heap.size W W9→Calls Tryz.prog 133 #[.slice px 1 c1,.func (.func 68) #[] #[]] W9 fun e W'=>e=.returned (.bool (true))∧Below W9.heap.size W9 W')
  (hS:∀ W9,Below W.heap.size W W9→Calls Tryz.prog 182 #[.slice (some ⟨q,off,none⟩) 2 c2,.func (.func 118) #[] #[]] W9 fun e W'=>e=.returned (.bool (true))∧Below W9.heap.size W9 W')
  : Calls Tryz.prog 118 #[.agg #[.int .i64 2,.string (bs []),.slice px 1 c1,.slice (some ⟨q,off,none⟩) 2 c2]] W fun e W'=>e=.returned (.bool (true))∧Below W.heap.size W W':=by
 have HX:=hid hX
 have HS:=hid hS
 clear hX hS
 have hse:(bs []).toList.isEmpty=true:=by rw [Lib.toList_data,list_bs];rfl
 have B1:=hid ((Below.refl W.heap.size W).alloc (Nat.le_refl _) (.cells #[.int .i64 2,.string (bs []),.slice px 1 c1,.slice (some ⟨q,off,none⟩) 2 c2] 31))
 have hc1:=World.alloc_heap_new W (.cells #[.int .i64 2,.string (bs []),.slice px 1 c1,.slice (some ⟨q,off,none⟩) 2 c2] 31)
 have hl1:W.heap.size<(W.alloc (.cells #[.int .i64 2,.string (bs []),.slice px 1 c1,.slice (some ⟨q,off,none⟩) 2 c2] 31)).heap.size:=by simp
 have HC1:=hid hc1
 have HL1:=hid hl1
 have HQ:=hid hq
 clear hc1 hl1 hq
 go_enter Tryz.func118,Tryz.ntmps118
 go_wp2_with (first | (go_at_call 133;refine (HX.out _ B1.out).mono ?_;rintro e W2 ⟨rfl,hb⟩;have hc:=(hb.block W.heap.size HL1.out).trans HC1.out;obtain ⟨k0,k1,k2,k3⟩:=cells4 hc;have q0:=((B1.out.trans (hb.mono B1.out.size)).cell (p:=⟨q,off,none⟩) HQ.out.1).trans HQ.out.2.1;have q1:=((B1.out.trans (hb.mono B1.out.size)).cell (p:=⟨q,off+4,none⟩) HQ.out.1).trans HQ.out.2.2;have HC2:=hid hc;have HL2:=hid (Nat.lt_of_lt_of_le HL1.out hb.size);have B2:=hid (B1.out.trans (hb.mono B1.out.size));clear hc hb) | (go_at_call 182;refine (HS.out _ B2.out).mono ?_;rintro e W3 ⟨rfl,hb⟩;have hc:=(hb.block W.heap.size HL2.out).trans HC2.out;obtain ⟨k0,k1,k2,k3⟩:=cells4 hc;have q0:=((B2.out.trans (hb.mono B2.out.size)).cell (p:=⟨q,off,none⟩) HQ.out.1).trans HQ.out.2.1;have q1:=((B2.out.trans (hb.mono B2.out.size)).cell (p:=⟨q,off+4,none⟩) HQ.out.1).trans HQ.out.2.2;have HC3:=hid hc;have HL3:=hid (Nat.lt_of_lt_of_le HL2.out hb.size);have B3:=hid (B2.out.trans (hb.mono B2.out.size));clear hc hb))
 go_ret
 exact ⟨rfl,B3.out⟩
theorem goodS_2e (W:World) (c1 c2:Nat) (px:Option Addr) (q off:Nat) (ob:Int) (h5:ob ≠ 5) (hq:q<W.heap.size∧W.cell? ⟨q,off,none⟩=some (.int .i64 5)∧W.cell? ⟨q,off+4,none⟩=some (.int .i64 ob))
  (hX:∀ W9,Below W.heap.size W W9→Calls Tryz.prog 133 #[.slice px 1 c1,.func (.func 68) #[] #[]] W9 fun e W'=>e=.returned (.bool (true))∧Below W9.heap.size W9 W')
  (hS:∀ W9,Below W.heap.size W W9→Calls Tryz.prog 182 #[.slice (some ⟨q,off,none⟩) 2 c2,.func (.func 118) #[] #[]] W9 fun e W'=>e=.returned (.bool (true))∧Below W9.heap.size W9 W')
  : Calls Tryz.prog 118 #[.agg #[.int .i64 2,.string (bs []),.slice px 1 c1,.slice (some ⟨q,off,none⟩) 2 c2]] W fun e W'=>e=.returned (.bool ((decide (ob=2))))∧Below W.heap.size W W':=by
 have HX:=hid hX
 have HS:=hid hS
 clear hX hS
 have hse:(bs []).toList.isEmpty=true:=by rw [Lib.toList_data,list_bs];rfl
 have e5:¬ (ob=5):=h5
 have e5d:decide (ob=5)=false:=by simpa using e5
 have e5b:(ob == 5)=false:=by simpa using e5
 have e5n:(ob != 5)=true:=by simpa using e5
 have B1:=hid ((Below.refl W.heap.size W).alloc (Nat.le_refl _) (.cells #[.int .i64 2,.string (bs []),.slice px 1 c1,.slice (some ⟨q,off,none⟩) 2 c2] 31))
 have hc1:=World.alloc_heap_new W (.cells #[.int .i64 2,.string (bs []),.slice px 1 c1,.slice (some ⟨q,off,none⟩) 2 c2] 31)
 have hl1:W.heap.size<(W.alloc (.cells #[.int .i64 2,.string (bs []),.slice px 1 c1,.slice (some ⟨q,off,none⟩) 2 c2] 31)).heap.size:=by simp
 have HC1:=hid hc1
 have HL1:=hid hl1
 have HQ:=hid hq
 clear hc1 hl1 hq
 go_enter Tryz.func118,Tryz.ntmps118
 go_wp2_with (first | (go_at_call 133;refine (HX.out _ B1.out).mono ?_;rintro e W2 ⟨rfl,hb⟩;have hc:=(hb.block W.heap.size HL1.out).trans HC1.out;obtain ⟨k0,k1,k2,k3⟩:=cells4 hc;have q0:=((B1.out.trans (hb.mono B1.out.size)).cell (p:=⟨q,off,none⟩) HQ.out.1).trans HQ.out.2.1;have q1:=((B1.out.trans (hb.mono B1.out.size)).cell (p:=⟨q,off+4,none⟩) HQ.out.1).trans HQ.out.2.2;have HC2:=hid hc;have HL2:=hid (Nat.lt_of_lt_of_le HL1.out hb.size);have B2:=hid (B1.out.trans (hb.mono B1.out.size));clear hc hb) | (go_at_call 182;refine (HS.out _ B2.out).mono ?_;rintro e W3 ⟨rfl,hb⟩;have hc:=(hb.block W.heap.size HL2.out).trans HC2.out;obtain ⟨k0,k1,k2,k3⟩:=cells4 hc;have q0:=((B2.out.trans (hb.mono B2.out.size)).cell (p:=⟨q,off,none⟩) HQ.out.1).trans HQ.out.2.1;have q1:=((B2.out.trans (hb.mono B2.out.size)).cell (p:=⟨q,off+4,none⟩) HQ.out.1).trans HQ.out.2.2;have HC3:=hid hc;have HL3:=hid (Nat.lt_of_lt_of_le HL2.out hb.size);have B3:=hid (B2.out.trans (hb.mono B2.out.size));clear hc hb))
 go_ret
 exact ⟨rfl,B3.out⟩
theorem goodS_5 (W:World) (m1 m2 c1 c2:Nat) (px:Option Addr) (pl:Option Addr)
  (hX:∀ W9,Below W.heap.size W W9→Calls Tryz.prog 133 #[.slice px m1 c1,.func (.func 68) #[] #[]] W9 fun e W'=>e=.returned (.bool (true))∧Below W9.heap.size W9 W')
  (hS:∀ W9,Below W.heap.size W W9→Calls Tryz.prog 182 #[.slice pl m2 c2,.func (.func 118) #[] #[]] W9 fun e W'=>e=.returned (.bool (true))∧Below W9.heap.size W9 W')
  : Calls Tryz.prog 118 #[.agg #[.int .i64 5,.string (bs []),.slice px m1 c1,.slice pl m2 c2]] W fun e W'=>e=.returned (.bool (((m1:Int) == 0)))∧Below W.heap.size W W':=by
 have HX:=hid hX
 have HS:=hid hS
 clear hX hS
 have hse:(bs []).toList.isEmpty=true:=by rw [Lib.toList_data,list_bs];rfl
 have B1:=hid ((Below.refl W.heap.size W).alloc (Nat.le_refl _) (.cells #[.int .i64 5,.string (bs []),.slice px m1 c1,.slice pl m2 c2] 31))
 have hc1:=World.alloc_heap_new W (.cells #[.int .i64 5,.string (bs []),.slice px m1 c1,.slice pl m2 c2] 31)
 have hl1:W.heap.size<(W.alloc (.cells #[.int .i64 5,.string (bs []),.slice px m1 c1,.slice pl m2 c2] 31)).heap.size:=by simp
 have HC1:=hid hc1
 have HL1:=hid hl1
 clear hc1 hl1
 go_enter Tryz.func118,Tryz.ntmps118
 go_wp2_with (first | (go_at_call 133;refine (HX.out _ B1.out).mono ?_;rintro e W2 ⟨rfl,hb⟩;have hc:=(hb.block W.heap.size HL1.out).trans HC1.out;obtain ⟨k0,k1,k2,k3⟩:=cells4 hc;  have HC2:=hid hc;have HL2:=hid (Nat.lt_of_lt_of_le HL1.out hb.size);have B2:=hid (B1.out.trans (hb.mono B1.out.size));clear hc hb) | (go_at_call 182;refine (HS.out _ B2.out).mono ?_;rintro e W3 ⟨rfl,hb⟩;have hc:=(hb.block W.heap.size HL2.out).trans HC2.out;obtain ⟨k0,k1,k2,k3⟩:=cells4 hc;  have HC3:=hid hc;have HL3:=hid (Nat.lt_of_lt_of_le HL2.out hb.size);have B3:=hid (B2.out.trans (hb.mono B2.out.size));clear hc hb))
 go_ret
 exact ⟨rfl,B3.out⟩
theorem goodS_6a (W:World) (name:Ln) (m1 m2 c1 c2:Nat) (px:Option Addr) (pl:Option Addr)
  (hX:∀ W9,Below W.heap.size W W9→Calls Tryz.prog 133 #[.slice px m1 c1,.func (.func 68) #[] #[]] W9 fun e W'=>e=.returned (.bool (true))∧Below W9.heap.size W9 W')
  (hS:∀ W9,Below W.heap.size W W9→Calls Tryz.prog 182 #[.slice pl m2 c2,.func (.func 118) #[] #[]] W9 fun e W'=>e=.returned (.bool (true))∧Below W9.heap.size W9 W')
  (hN:∀ W9,Below W.heap.size W W9→Calls Tryz.prog 158 #[.string (bs name)] W9 fun e W'=>e=.returned (.bool (false))∧Below W9.heap.size W9 W')
  : Calls Tryz.prog 118 #[.agg #[.int .i64 6,.string (bs name),.slice px m1 c1,.slice pl m2 c2]] W fun e W'=>e=.returned (.bool (false))∧Below W.heap.size W W':=by
 have HX:=hid hX
 have HS:=hid hS
 have HN:=hid hN
 clear hX hS hN
 have B1:=hid ((Below.refl W.heap.size W).alloc (Nat.le_refl _) (.cells #[.int .i64 6,.string (bs name),.slice px m1 c1,.slice pl m2 c2] 31))
 have hc1:=World.alloc_heap_new W (.cells #[.int .i64 6,.string (bs name),.slice px m1 c1,.slice pl m2 c2] 31)
 have hl1:W.heap.size<(W.alloc (.cells #[.int .i64 6,.string (bs name),.slice px m1 c1,.slice pl m2 c2] 31)).heap.size:=by simp
 have HC1:=hid hc1
 have HL1:=hid hl1
 clear hc1 hl1
 go_enter Tryz.func118,Tryz.ntmps118
 go_wp2_with (first | (go_at_call 133;refine (HX.out _ B1.out).mono ?_;rintro e W2 ⟨rfl,hb⟩;have hc:=(hb.block W.heap.size HL1.out).trans HC1.out;obtain ⟨k0,k1,k2,k3⟩:=cells4 hc;  have HC2:=hid hc;have HL2:=hid (Nat.lt_of_lt_of_le HL1.out hb.size);have B2:=hid (B1.out.trans (hb.mono B1.out.size));clear hc hb) | (go_at_call 182;refine (HS.out _ B2.out).mono ?_;rintro e W3 ⟨rfl,hb⟩;have hc:=(hb.block W.heap.size HL2.out).trans HC2.out;obtain ⟨k0,k1,k2,k3⟩:=cells4 hc;  have HC3:=hid hc;have HL3:=hid (Nat.lt_of_lt_of_le HL2.out hb.size);have B3:=hid (B2.out.trans (hb.mono B2.out.size));clear hc hb) | (go_at_call 158;refine (HN.out _ B3.out).mono ?_;rintro e W4 ⟨rfl,hb⟩;have hc:=(hb.block W.heap.size HL3.out).trans HC3.out;obtain ⟨k0,k1,k2,k3⟩:=cells4 hc;  have HC4:=hid hc;have HL4:=hid (Nat.lt_of_lt_of_le HL3.out hb.size);have B4:=hid (B3.out.trans (hb.mono B3.out.size));clear hc hb))
 go_ret
 exact ⟨rfl,B4.out⟩
theorem goodS_6b (W:World) (name:Ln) (m1 m2 c1 c2:Nat) (px:Option Addr) (pl:Option Addr)
  (hX:∀ W9,Below W.heap.size W W9→Calls Tryz.prog 133 #[.slice px m1 c1,.func (.func 68) #[] #[]] W9 fun e W'=>e=.returned (.bool (true))∧Below W9.heap.size W9 W')
  (hS:∀ W9,Below W.heap.size W W9→Calls Tryz.prog 182 #[.slice pl m2 c2,.func (.func 118) #[] #[]] W9 fun e W'=>e=.returned (.bool (true))∧Below W9.heap.size W9 W')
  (hN:∀ W9,Below W.heap.size W W9→Calls Tryz.prog 158 #[.string (bs name)] W9 fun e W'=>e=.returned (.bool (true))∧Below W9.heap.size W9 W')
  : Calls Tryz.prog 118 #[.agg #[.int .i64 6,.string (bs name),.slice px m1 c1,.slice pl m2 c2]] W fun e W'=>e=.returned (.bool (((m1:Int) == 2)))∧Below W.heap.size W W':=by
 have HX:=hid hX
 have HS:=hid hS
 have HN:=hid hN
 clear hX hS hN
 have B1:=hid ((Below.refl W.heap.size W).alloc (Nat.le_refl _) (.cells #[.int .i64 6,.string (bs name),.slice px m1 c1,.slice pl m2 c2] 31))
 have hc1:=World.alloc_heap_new W (.cells #[.int .i64 6,.string (bs name),.slice px m1 c1,.slice pl m2 c2] 31)
 have hl1:W.heap.size<(W.alloc (.cells #[.int .i64 6,.string (bs name),.slice px m1 c1,.slice pl m2 c2] 31)).heap.size:=by simp
 have HC1:=hid hc1
 have HL1:=hid hl1
 clear hc1 hl1
 go_enter Tryz.func118,Tryz.ntmps118
 go_wp2_with (first | (go_at_call 133;refine (HX.out _ B1.out).mono ?_;rintro e W2 ⟨rfl,hb⟩;have hc:=(hb.block W.heap.size HL1.out).trans HC1.out;obtain ⟨k0,k1,k2,k3⟩:=cells4 hc;  have HC2:=hid hc;have HL2:=hid (Nat.lt_of_lt_of_le HL1.out hb.size);have B2:=hid (B1.out.trans (hb.mono B1.out.size));clear hc hb) | (go_at_call 182;refine (HS.out _ B2.out).mono ?_;rintro e W3 ⟨rfl,hb⟩;have hc:=(hb.block W.heap.size HL2.out).trans HC2.out;obtain ⟨k0,k1,k2,k3⟩:=cells4 hc;  have HC3:=hid hc;have HL3:=hid (Nat.lt_of_lt_of_le HL2.out hb.size);have B3:=hid (B2.out.trans (hb.mono B2.out.size));clear hc hb) | (go_at_call 158;refine (HN.out _ B3.out).mono ?_;rintro e W4 ⟨rfl,hb⟩;have hc:=(hb.block W.heap.size HL3.out).trans HC3.out;obtain ⟨k0,k1,k2,k3⟩:=cells4 hc;  have HC4:=hid hc;have HL4:=hid (Nat.lt_of_lt_of_le HL3.out hb.size);have B4:=hid (B3.out.trans (hb.mono B3.out.size));clear hc hb))
 go_ret
 exact ⟨rfl,B4.out⟩
theorem goodS_o (W:World) (op:Int) (m1 m2 c1 c2:Nat) (px:Option Addr) (pl:Option Addr)  (h1:op ≠ 1) (h2:op ≠ 2) (h3:op ≠ 3) (h5:op ≠ 5) (h6:op ≠ 6)
  (hX:∀ W9,Below W.heap.size W W9→Calls Tryz.prog 133 #[.slice px m1 c1,.func (.func 68) #[] #[]] W9 fun e W'=>e=.returned (.bool (true))∧Below W9.heap.size W9 W')
  (hS:∀ W9,Below W.heap.size W W9→Calls Tryz.prog 182 #[.slice pl m2 c2,.func (.func 118) #[] #[]] W9 fun e W'=>e=.returned (.bool (true))∧Below W9.heap.size W9 W')
  : Calls Tryz.prog 118 #[.agg #[.int .i64 op,.string (bs []),.slice px m1 c1,.slice pl m2 c2]] W fun e W'=>e=.returned (.bool (false))∧Below W.heap.size W W':=by
 have HX:=hid hX
 have HS:=hid hS
 clear hX hS
 have e6:¬ (op=6):=h6
 have e6d:decide (op=6)=false:=by simpa using e6
 have e6b:(op == 6)=false:=by simpa using e6
 have e6n:(op != 6)=true:=by simpa using e6
 have e3:¬ (op=3):=h3
 have e3d:decide (op=3)=false:=by simpa using e3
 have e3b:(op == 3)=false:=by simpa using e3
 have e3n:(op != 3)=true:=by simpa using e3
 have e1:¬ (op=1):=h1
 have e1d:decide (op=1)=false:=by simpa using e1
 have e1b:(op == 1)=false:=by simpa using e1
 have e1n:(op != 1)=true:=by simpa using e1
 have e2:¬ (op=2):=h2
 have e2d:decide (op=2)=false:=by simpa using e2
 have e2b:(op == 2)=false:=by simpa using e2
 have e2n:(op != 2)=true:=by simpa using e2
 have e5:¬ (op=5):=h5
 have e5d:decide (op=5)=false:=by simpa using e5
 have e5b:(op == 5)=false:=by simpa using e5
 have e5n:(op != 5)=true:=by simpa using e5
 have hse:(bs []).toList.isEmpty=true:=by rw [Lib.toList_data,list_bs];rfl
 have B1:=hid ((Below.refl W.heap.size W).alloc (Nat.le_refl _) (.cells #[.int .i64 op,.string (bs []),.slice px m1 c1,.slice pl m2 c2] 31))
 have hc1:=World.alloc_heap_new W (.cells #[.int .i64 op,.string (bs []),.slice px m1 c1,.slice pl m2 c2] 31)
 have hl1:W.heap.size<(W.alloc (.cells #[.int .i64 op,.string (bs []),.slice px m1 c1,.slice pl m2 c2] 31)).heap.size:=by simp
 have HC1:=hid hc1
 have HL1:=hid hl1
 clear hc1 hl1
 go_enter Tryz.func118,Tryz.ntmps118
 go_wp2_with (first | (go_at_call 133;refine (HX.out _ B1.out).mono ?_;rintro e W2 ⟨rfl,hb⟩;have hc:=(hb.block W.heap.size HL1.out).trans HC1.out;obtain ⟨k0,k1,k2,k3⟩:=cells4 hc;  have HC2:=hid hc;have HL2:=hid (Nat.lt_of_lt_of_le HL1.out hb.size);have B2:=hid (B1.out.trans (hb.mono B1.out.size));clear hc hb) | (go_at_call 182;refine (HS.out _ B2.out).mono ?_;rintro e W3 ⟨rfl,hb⟩;have hc:=(hb.block W.heap.size HL2.out).trans HC2.out;obtain ⟨k0,k1,k2,k3⟩:=cells4 hc;  have HC3:=hid hc;have HL3:=hid (Nat.lt_of_lt_of_le HL2.out hb.size);have B3:=hid (B2.out.trans (hb.mono B2.out.size));clear hc hb))
 go_ret
 exact ⟨rfl,B3.out⟩
end Go.Proofs.YtlcfpdmicpggbaaGreatDoor
namespace Go.Proofs.YtlcfpdmicpggbaaGreatDoor
open Go.Lib (hid)
open Go.RowKit Go.Proofs.Spl Go.Proofs.Scn Go.Shelf
theorem max_in {α:Type} (g:α→Nat) (m:Nat):∀ l:List α,max (1+m) (maxN (fun p=>g p+1) l)=1+max m (maxN g l)
 | []=>by simp [maxN]
 | x :: l=>by
  have ih:=max_in g m l
  have e1:maxN (fun p=>g p+1) (x :: l)=max (g x+1) (maxN (fun p=>g p+1) l):=rfl
  have e2:maxN g (x :: l)=max (g x) (maxN g l):=rfl
  omega
theorem mx3 (r c:Nat):max (r:Int) (2+(c:Int))=((max r (2+c):Nat):Int):=by omega
theorem mx5 (A B c:Nat):max A (max B (c+1+1))=max (max A B) (2+c):=by omega
theorem one_sM (m:Md):1≤sizeM m:=by unfold sizeM;omega
theorem rSize_any (f:List Md) (p:Option Addr) (cap:Nat) (hl:sumN sizeM f≤1000000000) (W:World) (hR:MsR W (.slice p f.length cap) f) :
  RetN 39 #[.agg #[.slice p f.length cap]] W (sumN sizeM f):=by
 have hlen:f.length≤1000000000:=Nat.le_trans (sumN_len sizeM one_sM f) hl
 obtain ⟨W1,hW1⟩:∃ W1,W1=W.alloc (.cells #[.slice p f.length cap] 24):=⟨_,rfl⟩
 have hb1:Below W.heap.size W W1:=by rw [hW1];exact (Below.refl _ _).alloc (Nat.le_refl _) _
 have hR1:=MsR.later hR hb1
 have HL1:=hid (show W.heap.size<W1.heap.size by rw [hW1];simp)
 have HC5:=hid (show W1.cell? ⟨W.heap.size,0,none⟩=some (.slice p f.length cap) by rw [hW1];exact (cell_of_row _ _ _ _ _ _ (World.alloc_heap_new W _)).trans rfl)
 obtain ⟨p',cap',hpe,hcap,hcell⟩:=hR1
 cases hpe
 have HC:=hid hcell
 have HLL:=hid hl
 have HB1:=hid hb1
 clear hcell hl hb1 hR
 go_enter Tryz.func39,Tryz.ntmps39
 go_wp2
 rw [← hW1]
 clear hW1
 go_loopw [3,4] (fun n i wr=>∃ k:Nat,i=.int .i64 k∧n=.int .i64 ((sumN sizeM (f.take k):Nat))∧k≤f.length∧Hid (Below W1.heap.size W1 wr)) (fun _ i _=>f.length - (intOf i).toNat)
 case atStart=>exact ⟨0,rfl,rfl,Nat.zero_le _,hid (Below.refl _ _)⟩
 case round=>
  obtain ⟨k,rfl,rfl,hk,HW⟩:=hrel
  have k5:=(HW.out.cell (p:=⟨W.heap.size,0,none⟩) HL1.out).trans HC5.out
  by_cases hlt:k<f.length
  ·have hlt':(k:Int)<(f.length:Int):=by omega
   rcases HC.out with hc | ⟨q,off,rfl,hq,hc⟩
   ·subst hc;simp at hlt
   obtain ⟨cs,hR,hcs⟩:=hc k hlt
   have hB:=HW.out
   have hR0:=hid hR
   clear hR hc
   obtain ⟨vp,vt,vi,rfl,h1,h2,h3⟩:=hR0.out
   have g1:=h1
   have g2:=h2
   have g3:=h3
   obtain ⟨p1,c1,rfl,_⟩:=h1
   obtain ⟨p2,c2,rfl,_,hpt⟩:=h2
   obtain ⟨p3,c3,rfl,_⟩:=h3
   obtain ⟨x0,x1,x2,x3⟩:=rows4 hB hq hcs
   have hyb:=Nat.le_trans (sumN_mem sizeM (List.getElem_mem hlt)) HLL.out
   have hTK:f.take (k+1)=f.take k ++ [f[k]]:=(List.take_append_getElem hlt).symm
   have hSZ:=Nat.le_trans (sumN_take sizeM f (k+1)) HLL.out
   have hdl:=maxN_le_sumN (l:=f.take (k+1)) (fun y _=>deepM_le y)
   obtain ⟨s,hs⟩:∃ s,s=sumN sizeM (f.take k):=⟨_,rfl⟩
   obtain ⟨a,ha⟩:∃ n:Nat,n=sumN sizeB f[k].ps:=⟨_,rfl⟩
   obtain ⟨b,hb⟩:∃ n:Nat,n=sumN sizeI f[k].l:=⟨_,rfl⟩
   rw [hTK,sumN_snoc,← hs,sizeM,sizeIs_sum,← ha,← hb] at hSZ
   rw [sizeM,sizeIs_sum] at hyb
   have C0:=hid (fun (W9:World) (h:Below W1.heap.size W1 W9)=>show RetN 78 #[.slice p1 f[k].ps.length c1] W9 a by rw [ha];exact rsizeB_any _ f[k].ps (Nat.le_trans (sumN_len sizeB one_sB _) (Nat.le_trans (by omega) hyb)) (Nat.le_trans (by omega) hyb) W9 (BsR.later g1 h))
   have C1:=hid (fun (W9:World) (h:Below W1.heap.size W1 W9)=>show RetN 79 #[.slice p3 f[k].l.length c3] W9 b by rw [hb];exact szIs_ok _ (Nat.le_trans (by omega) hyb) _ W9 (IsR.later g3 h))
   have CX:=hid (fun (j:Nat) (hj:j<f[k].pts.length) (W9:World) (cs:List Value) (h:XR W9 f[k].pts[j].w cs)=>szX_ok f[k].pts[j].w (by have:=Nat.le_trans (sumN_mem sizeP (List.getElem_mem hj)) (Nat.le_trans (by omega) hyb);unfold sizeP at this;exact Nat.le_trans (by omega) this) W9 cs h)
   have HP:=hid hpt
   have hpl:=Nat.le_trans (sumN_len sizeP one_sP f[k].pts) (Nat.le_trans (by omega) hyb)
   have HV:=hid (show ((sumN sizeM (f.take (k+1)):Nat):Int)=((s+1+a+b+sumN sizeP f[k].pts:Nat):Int) by rw [hTK,sumN_snoc,← hs,sizeM,sizeIs_sum,← ha,← hb];clear hSZ hs ha hb hdl hyb;omega)
   rw [← hs]
   clear hTK hs ha hb hcs hB hyb hdl
   have hw1:=wrs (e:=(s:Int)+1) (s+1) (Nat.le_trans (by omega) hSZ) (by push_cast;rfl)
   have ha1:=hw1.1
   have hb1:=hw1.2
   clear hw1
   have hw2:=wrs (e:=(s:Int)+1+(a:Int)) (s+1+a) (Nat.le_trans (by omega) hSZ) (by push_cast;rfl)
   have ha2:=hw2.1
   have hb2:=hw2.2
   clear hw2
   have hw3:=wrs (e:=(s:Int)+1+(a:Int)+(b:Int)) (s+1+a+b) (Nat.le_trans (by omega) hSZ) (by push_cast;rfl)
   have ha3:=hw3.1
   have hb3:=hw3.2
   clear hw3
   generalize f[k]=y at *
   go_wp2_with fail
   obtain ⟨V,hV⟩:∃ V,V=wr.alloc (.cells #[.string (bs y.name),.slice p1 y.ps.length c1,.slice p2 y.pts.length c2,.slice p3 y.l.length c3] 53):=⟨_,rfl⟩
   have HWV:=hid (show Below W1.heap.size W1 V by rw [hV];exact HW.out.alloc HW.out.size _)
   have HVl:=hid (show wr.heap.size<V.heap.size by rw [hV];simp)
   have HVr:=hid (show V.heap[wr.heap.size]?=some (.cells #[.string (bs y.name),.slice p1 y.ps.length c1,.slice p2 y.pts.length c2,.slice p3 y.l.length c3] 53 (0,0)) by rw [hV];exact World.alloc_heap_new wr _)
   rw [← hV]
   clear hV x0 x1 x2 x3
   have HSy:=hid (show ∀ w',Below V.heap.size V w'→w'.cell? ⟨wr.heap.size,0,none⟩=some (.string (bs y.name))∧w'.cell? ⟨wr.heap.size,1,none⟩=some (.slice p1 y.ps.length c1)∧w'.cell? ⟨wr.heap.size,2,none⟩=some (.slice p2 y.pts.length c2)∧w'.cell? ⟨wr.heap.size,3,none⟩=some (.slice p3 y.l.length c3) from fun w' h=>cells4 ((h.block _ HVl.out).trans HVr.out))
   obtain ⟨x0,x1,x2,x3⟩:=HSy.out _ (Below.refl _ _)
   have Z0:=hid ((Below.refl V.heap.size V).drew)
   have X0:=hid (HWV.out.drew)
   go_region_held3 (fun w'=>w'.cell? ⟨wr.heap.size,0,none⟩=some (.string (bs y.name))∧w'.cell? ⟨wr.heap.size,1,none⟩=some (.slice p1 y.ps.length c1)∧w'.cell? ⟨wr.heap.size,2,none⟩=some (.slice p2 y.pts.length c2)∧w'.cell? ⟨wr.heap.size,3,none⟩=some (.slice p3 y.l.length c3))
    (first | exact HSy.out _ Z2.out | exact HSy.out _ Z1.out | exact HSy.out _ Z0.out | go_keep)
    (first
     | (go_at_call 78;refine (C0.out _ X0.out).mono ?_;rintro e W5 ⟨rfl,hb⟩;have X1:=hid (X0.out.trans (hb.mono X0.out.size));have Z1:=hid (Z0.out.trans (hb.mono Z0.out.size));clear hb C0)
     | (go_at_call 79;refine (C1.out _ X1.out).mono ?_;rintro e W6 ⟨rfl,hb⟩;have X2:=hid (X1.out.trans (hb.mono X1.out.size));have Z2:=hid (Z1.out.trans (hb.mono Z1.out.size));clear hb C1))
   go_wp2_with fail
   go_loopw [3,6] (fun n i wq=>∃ j:Nat,i=.int .i64 j∧n=.int .i64 ((s+1+a+b+sumN sizeP (y.pts.take j):Nat))∧j≤y.pts.length∧Hid (Below W6.heap.size W6 wq)) (fun _ i _=>y.pts.length - (intOf i).toNat)
   case atStart=>exact ⟨0,rfl,by simp [sumN],Nat.zero_le _,hid (Below.refl _ _)⟩
   case round=>
    obtain ⟨j,rfl,rfl,hj,HQ⟩:=hrel
    obtain ⟨z0,z1,z2,z3⟩:=HSy.out _ (Z2.out.trans (HQ.out.mono Z2.out.size))
    by_cases hjt:j<y.pts.length
    ·have hjt':(j:Int)<(y.pts.length:Int):=by omega
     rcases HP.out with hc | ⟨qp,op,rfl,hqp,hc⟩
     ·rw [hc] at hjt;simp at hjt
     obtain ⟨ds,hD,hds⟩:=hc j hjt
     have hD0:=hid hD
     have HBQ:=hid (X2.out.trans (HQ.out.mono X2.out.size))
     clear hD hc
     obtain ⟨xs,rfl,hXR⟩:=hD0.out
     have hXR0:=hXR
     obtain ⟨_,ls,rfl,hL⟩:=XR_iff.1 hXR
     obtain ⟨pl,cl,rfl,_⟩:=hL
     have y0:=(HBQ.out.cell (p:=⟨qp,op+j * 8+0,none⟩) hqp).trans (hds 0 (by omega))
     have y1:=(HBQ.out.cell (p:=⟨qp,op+j * 8+1,none⟩) hqp).trans (hds 1 (by omega))
     have y2:=(HBQ.out.cell (p:=⟨qp,op+j * 8+2,none⟩) hqp).trans (hds 2 (by omega))
     have y3:=(HBQ.out.cell (p:=⟨qp,op+j * 8+3,none⟩) hqp).trans (hds 3 (by omega))
     have y4:=(HBQ.out.cell (p:=⟨qp,op+j * 8+4,none⟩) hqp).trans (hds 4 (by omega))
     have y5:=(HBQ.out.cell (p:=⟨qp,op+j * 8+5,none⟩) hqp).trans (hds 5 (by omega))
     have y6:=(HBQ.out.cell (p:=⟨qp,op+j * 8+6,none⟩) hqp).trans (hds 6 (by omega))
     have y7:=(HBQ.out.cell (p:=⟨qp,op+j * 8+7,none⟩) hqp).trans (hds 7 (by omega))
     simp only [Nat.add_zero,List.getElem?_cons_zero,List.getElem?_cons_succ] at y0 y1 y2 y3 y4 y5 y6 y7
     have hTJ:y.pts.take (j+1)=y.pts.take j ++ [y.pts[j]]:=(List.take_append_getElem hjt).symm
     obtain ⟨c,hc⟩:∃ c:Nat,c=sizeX y.pts[j].w:=⟨_,rfl⟩
     obtain ⟨r,hr⟩:∃ r:Nat,r=s+1+a+b+sumN sizeP (y.pts.take j):=⟨_,rfl⟩
     have hpj:=sumN_take sizeP y.pts (j+1)
     rw [hTJ,sumN_snoc,sizeP,← hc] at hpj
     have hSJ:r+1+c≤1000000000:=Nat.le_trans (by rw [hr];clear hr hc;omega) hSZ
     clear hpj
     have hw4:=wrs (e:=(r:Int)+1) (r+1) (Nat.le_trans (by omega) hSJ) (by push_cast;rfl)
     have ha4:=hw4.1
     have hb4:=hw4.2
     clear hw4
     have hw5:=wrs (e:=(r:Int)+1+(c:Int)) (r+1+c) (Nat.le_trans (by omega) hSJ) (by push_cast;rfl)
     have ha5:=hw5.1
     have hb5:=hw5.2
     clear hw5
     have CY:=hid (fun (W9:World) (h:Below W1.heap.size W1 W9)=>show RetN 41 #[.agg #[.int .i64 y.pts[j].w.op,.string (bs y.pts[j].w.name),.int .i64 y.pts[j].w.n,.int .i64 y.pts[j].w.w,.int .u64 y.pts[j].w.v,.slice pl y.pts[j].w.l.length cl]] W9 c by rw [hc];exact CX.out j hjt W9 _ (XR.later h _ _ hXR0))
     have HJ:=hid (show ((s+1+a+b+sumN sizeP (y.pts.take (j+1)):Nat):Int)=(r:Int)+1+(c:Int) by rw [hTJ];rw [sumN_snoc,sizeP,← hc,hr];clear hr hc hSZ hSJ;omega)
     rw [← hr]
     clear hTJ hc hr hds hXR0 hXR
     generalize y.pts[j]=z at *
     go_wp2_with (go_at_call 41;refine (CY.out _ HBQ.out).mono ?_;rintro e W7 ⟨rfl,hb⟩;have Y1:=hid (HQ.out.trans (hb.mono HQ.out.size));clear hb)
     go_roundw
     case rel=>exact ⟨j+1,by go_num,by rw [HJ.out],hjt,Y1⟩
     case measure=>simp [intOf];omega
    ·have hge:¬ ((j:Int)<(y.pts.length:Int)):=by omega
     have htk:y.pts.take j=y.pts:=List.take_of_length_le (by omega)
     rw [htk]
     go_wp2_with fail
     go_roundw
     case rel=>exact ⟨k+1,by go_num,by rw [HV.out],hlt,hid (X2.out.trans (HQ.out.mono X2.out.size))⟩
     case measure=>simp [intOf];omega
  ·have hge:¬ ((k:Int)<(f.length:Int)):=by omega
   have htk:f.take k=f:=List.take_of_length_le (by omega)
   rw [htk]
   go_wp2
   go_ret
   exact ⟨rfl,HB1.out.trans (HW.out.mono HB1.out.size)⟩
theorem rDeep_any (f:List Md) (p:Option Addr) (cap:Nat) (hl:sumN sizeM f≤1000000000) (W:World) (hR:MsR W (.slice p f.length cap) f) :
  RetN 40 #[.agg #[.slice p f.length cap]] W (maxN deepM f):=by
 have hlen:f.length≤1000000000:=Nat.le_trans (sumN_len sizeM one_sM f) hl
 obtain ⟨W1,hW1⟩:∃ W1,W1=W.alloc (.cells #[.slice p f.length cap] 24):=⟨_,rfl⟩
 have hb1:Below W.heap.size W W1:=by rw [hW1];exact (Below.refl _ _).alloc (Nat.le_refl _) _
 have hR1:=MsR.later hR hb1
 have HL1:=hid (show W.heap.size<W1.heap.size by rw [hW1];simp)
 have HC5:=hid (show W1.cell? ⟨W.heap.size,0,none⟩=some (.slice p f.length cap) by rw [hW1];exact (cell_of_row _ _ _ _ _ _ (World.alloc_heap_new W _)).trans rfl)
 obtain ⟨p',cap',hpe,hcap,hcell⟩:=hR1
 cases hpe
 have HC:=hid hcell
 have HLL:=hid hl
 have HB1:=hid hb1
 clear hcell hl hb1 hR
 go_enter Tryz.func40,Tryz.ntmps40
 go_wp2
 rw [← hW1]
 clear hW1
 go_loopw [3,4] (fun n i wr=>∃ k:Nat,i=.int .i64 k∧n=.int .i64 ((maxN deepM (f.take k):Nat))∧k≤f.length∧Hid (Below W1.heap.size W1 wr)) (fun _ i _=>f.length - (intOf i).toNat)
 case atStart=>exact ⟨0,rfl,rfl,Nat.zero_le _,hid (Below.refl _ _)⟩
 case round=>
  obtain ⟨k,rfl,rfl,hk,HW⟩:=hrel
  have k5:=(HW.out.cell (p:=⟨W.heap.size,0,none⟩) HL1.out).trans HC5.out
  by_cases hlt:k<f.length
  ·have hlt':(k:Int)<(f.length:Int):=by omega
   rcases HC.out with hc | ⟨q,off,rfl,hq,hc⟩
   ·subst hc;simp at hlt
   obtain ⟨cs,hR,hcs⟩:=hc k hlt
   have hB:=HW.out
   have hR0:=hid hR
   clear hR hc
   obtain ⟨vp,vt,vi,rfl,h1,h2,h3⟩:=hR0.out
   have g1:=h1
   have g2:=h2
   have g3:=h3
   obtain ⟨p1,c1,rfl,_⟩:=h1
   obtain ⟨p2,c2,rfl,_,hpt⟩:=h2
   obtain ⟨p3,c3,rfl,_⟩:=h3
   obtain ⟨x0,x1,x2,x3⟩:=rows4 hB hq hcs
   have hyb:=Nat.le_trans (sumN_mem sizeM (List.getElem_mem hlt)) HLL.out
   have hTK:f.take (k+1)=f.take k ++ [f[k]]:=(List.take_append_getElem hlt).symm
   have hSZ:=Nat.le_trans (sumN_take sizeM f (k+1)) HLL.out
   have hdl:=maxN_le_sumN (l:=f.take (k+1)) (fun y _=>deepM_le y)
   obtain ⟨s,hs⟩:∃ s,s=maxN deepM (f.take k):=⟨_,rfl⟩
   obtain ⟨a,ha⟩:∃ n:Nat,n=maxN deepB f[k].ps:=⟨_,rfl⟩
   obtain ⟨b,hb⟩:∃ n:Nat,n=maxN deepI f[k].l:=⟨_,rfl⟩
   have hSZ:=Nat.le_trans hdl hSZ
   rw [hTK,maxN_snoc,← hs,deepM,deepIs_max,← ha,← hb] at hSZ
   rw [sizeM,sizeIs_sum] at hyb
   have C0:=hid (fun (W9:World) (h:Below W1.heap.size W1 W9)=>show RetN 80 #[.slice p1 f[k].ps.length c1] W9 a by rw [ha];exact rdeepB_any _ f[k].ps (Nat.le_trans (sumN_len sizeB one_sB _) (Nat.le_trans (by omega) hyb)) (Nat.le_trans (maxN_le_sumN fun z _=>deepB_le z) (Nat.le_trans (by omega) hyb)) W9 (BsR.later g1 h) (fun z hz=>by have:=Nat.le_trans (sumN_mem sizeB hz) (Nat.le_trans (by omega) hyb);unfold sizeB at this;exact Nat.le_trans (by omega) this))
   have C1:=hid (fun (W9:World) (h:Below W1.heap.size W1 W9)=>show RetN 81 #[.slice p3 f[k].l.length c3] W9 b by rw [hb];exact dpIs_ok _ (Nat.le_trans (by omega) hyb) _ W9 (IsR.later g3 h))
   have CX:=hid (fun (j:Nat) (hj:j<f[k].pts.length) (W9:World) (cs:List Value) (h:XR W9 f[k].pts[j].w cs)=>dpX_ok f[k].pts[j].w (by have:=Nat.le_trans (sumN_mem sizeP (List.getElem_mem hj)) (Nat.le_trans (by omega) hyb);unfold sizeP at this;exact Nat.le_trans (by omega) this) W9 cs h)
   have HP:=hid hpt
   have hpl:=Nat.le_trans (sumN_len sizeP one_sP f[k].pts) (Nat.le_trans (by omega) hyb)
   have HV:=hid (show ((maxN deepM (f.take (k+1)):Nat):Int)=((max (max s (1+max a b)) (maxN (fun p=>deepP p+1) f[k].pts):Nat):Int) by have hmi:=max_in deepP (max a b) f[k].pts;rw [hTK,maxN_snoc,← hs,deepM,deepIs_max,← ha,← hb];clear hSZ hs ha hb hdl hyb;omega)
   rw [← hs]
   clear hTK hs ha hb hcs hB hyb hdl
   have hm1:max (a:Int) (b:Int)=((max a b:Nat):Int):=mx1 a b
   have hw1:=wrs (e:=1+((max a b:Nat):Int)) (1+max a b) (Nat.le_trans (by omega) hSZ) (by push_cast;rfl)
   have ha1:=hw1.1
   have hb1:=hw1.2
   clear hw1
   have hm2:max (s:Int) (1+((max a b:Nat):Int))=((max s (1+max a b):Nat):Int):=mx2 s (max a b)
   generalize f[k]=y at *
   go_wp2_with fail
   obtain ⟨V,hV⟩:∃ V,V=wr.alloc (.cells #[.string (bs y.name),.slice p1 y.ps.length c1,.slice p2 y.pts.length c2,.slice p3 y.l.length c3] 53):=⟨_,rfl⟩
   have HWV:=hid (show Below W1.heap.size W1 V by rw [hV];exact HW.out.alloc HW.out.size _)
   have HVl:=hid (show wr.heap.size<V.heap.size by rw [hV];simp)
   have HVr:=hid (show V.heap[wr.heap.size]?=some (.cells #[.string (bs y.name),.slice p1 y.ps.length c1,.slice p2 y.pts.length c2,.slice p3 y.l.length c3] 53 (0,0)) by rw [hV];exact World.alloc_heap_new wr _)
   rw [← hV]
   clear hV x0 x1 x2 x3
   have HSy:=hid (show ∀ w',Below V.heap.size V w'→w'.cell? ⟨wr.heap.size,0,none⟩=some (.string (bs y.name))∧w'.cell? ⟨wr.heap.size,1,none⟩=some (.slice p1 y.ps.length c1)∧w'.cell? ⟨wr.heap.size,2,none⟩=some (.slice p2 y.pts.length c2)∧w'.cell? ⟨wr.heap.size,3,none⟩=some (.slice p3 y.l.length c3) from fun w' h=>cells4 ((h.block _ HVl.out).trans HVr.out))
   obtain ⟨x0,x1,x2,x3⟩:=HSy.out _ (Below.refl _ _)
   have Z0:=hid ((Below.refl V.heap.size V).drew)
   have X0:=hid (HWV.out.drew)
   go_region_held3 (fun w'=>w'.cell? ⟨wr.heap.size,0,none⟩=some (.string (bs y.name))∧w'.cell? ⟨wr.heap.size,1,none⟩=some (.slice p1 y.ps.length c1)∧w'.cell? ⟨wr.heap.size,2,none⟩=some (.slice p2 y.pts.length c2)∧w'.cell? ⟨wr.heap.size,3,none⟩=some (.slice p3 y.l.length c3))
    (first | exact HSy.out _ Z2.out | exact HSy.out _ Z1.out | exact HSy.out _ Z0.out | go_keep)
    (first
     | (go_at_call 80;refine (C0.out _ X0.out).mono ?_;rintro e W5 ⟨rfl,hb⟩;have X1:=hid (X0.out.trans (hb.mono X0.out.size));have Z1:=hid (Z0.out.trans (hb.mono Z0.out.size));clear hb C0)
     | (go_at_call 81;refine (C1.out _ X1.out).mono ?_;rintro e W6 ⟨rfl,hb⟩;have X2:=hid (X1.out.trans (hb.mono X1.out.size));have Z2:=hid (Z1.out.trans (hb.mono Z1.out.size));clear hb C1))
   go_wp2_with fail
   go_loopw [3,6] (fun n i wq=>∃ j:Nat,i=.int .i64 j∧n=.int .i64 ((max (max s (1+max a b)) (maxN (fun p=>deepP p+1) (y.pts.take j)):Nat))∧j≤y.pts.length∧Hid (Below W6.heap.size W6 wq)) (fun _ i _=>y.pts.length - (intOf i).toNat)
   case atStart=>exact ⟨0,rfl,by simp [maxN],Nat.zero_le _,hid (Below.refl _ _)⟩
   case round=>
    obtain ⟨j,rfl,rfl,hj,HQ⟩:=hrel
    obtain ⟨z0,z1,z2,z3⟩:=HSy.out _ (Z2.out.trans (HQ.out.mono Z2.out.size))
    by_cases hjt:j<y.pts.length
    ·have hjt':(j:Int)<(y.pts.length:Int):=by omega
     rcases HP.out with hc | ⟨qp,op,rfl,hqp,hc⟩
     ·rw [hc] at hjt;simp at hjt
     obtain ⟨ds,hD,hds⟩:=hc j hjt
     have hD0:=hid hD
     have HBQ:=hid (X2.out.trans (HQ.out.mono X2.out.size))
     clear hD hc
     obtain ⟨xs,rfl,hXR⟩:=hD0.out
     have hXR0:=hXR
     obtain ⟨_,ls,rfl,hL⟩:=XR_iff.1 hXR
     obtain ⟨pl,cl,rfl,_⟩:=hL
     have y0:=(HBQ.out.cell (p:=⟨qp,op+j * 8+0,none⟩) hqp).trans (hds 0 (by omega))
     have y1:=(HBQ.out.cell (p:=⟨qp,op+j * 8+1,none⟩) hqp).trans (hds 1 (by omega))
     have y2:=(HBQ.out.cell (p:=⟨qp,op+j * 8+2,none⟩) hqp).trans (hds 2 (by omega))
     have y3:=(HBQ.out.cell (p:=⟨qp,op+j * 8+3,none⟩) hqp).trans (hds 3 (by omega))
     have y4:=(HBQ.out.cell (p:=⟨qp,op+j * 8+4,none⟩) hqp).trans (hds 4 (by omega))
     have y5:=(HBQ.out.cell (p:=⟨qp,op+j * 8+5,none⟩) hqp).trans (hds 5 (by omega))
     have y6:=(HBQ.out.cell (p:=⟨qp,op+j * 8+6,none⟩) hqp).trans (hds 6 (by omega))
     have y7:=(HBQ.out.cell (p:=⟨qp,op+j * 8+7,none⟩) hqp).trans (hds 7 (by omega))
     simp only [Nat.add_zero,List.getElem?_cons_zero,List.getElem?_cons_succ] at y0 y1 y2 y3 y4 y5 y6 y7
     have hTJ:y.pts.take (j+1)=y.pts.take j ++ [y.pts[j]]:=(List.take_append_getElem hjt).symm
     obtain ⟨c,hc⟩:∃ c:Nat,c=deepX y.pts[j].w:=⟨_,rfl⟩
     obtain ⟨r,hr⟩:∃ r:Nat,r=max (max s (1+max a b)) (maxN (fun p=>deepP p+1) (y.pts.take j)):=⟨_,rfl⟩
     have hpj:=maxN_mem deepP (List.getElem_mem hjt)
     rw [deepP,← hc] at hpj
     have hSJ:2+c≤1000000000:=Nat.le_trans (by clear hr hc hSZ;omega) hSZ
     clear hpj
     have hw4:=wrs (e:=2+(c:Int)) (2+c) hSJ (by push_cast;rfl)
     have ha4:=hw4.1
     have hb4:=hw4.2
     clear hw4
     have hm3:max (r:Int) (2+(c:Int))=((max r (2+c):Nat):Int):=mx3 r c
     have CY:=hid (fun (W9:World) (h:Below W1.heap.size W1 W9)=>show RetN 42 #[.agg #[.int .i64 y.pts[j].w.op,.string (bs y.pts[j].w.name),.int .i64 y.pts[j].w.n,.int .i64 y.pts[j].w.w,.int .u64 y.pts[j].w.v,.slice pl y.pts[j].w.l.length cl]] W9 c by rw [hc];exact CX.out j hjt W9 _ (XR.later h _ _ hXR0))
     have HJ:=hid (show ((max (max s (1+max a b)) (maxN (fun p=>deepP p+1) (y.pts.take (j+1))):Nat):Int)=((max r (2+c):Nat):Int) by rw [hTJ];rw [maxN_snoc,deepP,← hc,hr,mx5])
     rw [← hr]
     clear hTJ hc hr hds hXR0 hXR
     generalize y.pts[j]=z at *
     go_wp2_with (go_at_call 42;refine (CY.out _ HBQ.out).mono ?_;rintro e W7 ⟨rfl,hb⟩;have Y1:=hid (HQ.out.trans (hb.mono HQ.out.size));clear hb)
     go_roundw
     case rel=>exact ⟨j+1,by go_num,by rw [HJ.out],hjt,Y1⟩
     case measure=>simp [intOf];omega
    ·have hge:¬ ((j:Int)<(y.pts.length:Int)):=by omega
     have htk:y.pts.take j=y.pts:=List.take_of_length_le (by omega)
     rw [htk]
     go_wp2_with fail
     go_roundw
     case rel=>exact ⟨k+1,by go_num,by rw [HV.out],hlt,hid (X2.out.trans (HQ.out.mono X2.out.size))⟩
     case measure=>simp [intOf];omega
  ·have hge:¬ ((k:Int)<(f.length:Int)):=by omega
   have htk:f.take k=f:=List.take_of_length_le (by omega)
   rw [htk]
   go_wp2
   go_ret
   exact ⟨rfl,HB1.out.trans (HW.out.mono HB1.out.size)⟩
end Go.Proofs.YtlcfpdmicpggbaaGreatDoor
