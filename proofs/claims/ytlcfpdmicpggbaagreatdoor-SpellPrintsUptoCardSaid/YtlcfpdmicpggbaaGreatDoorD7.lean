/- Texts of the seat, merged. -/
import Derived.Test.YtlcfpdmicpggbaaGreatDoorD6
set_option linter.unusedVariables false
set_option linter.unusedSimpArgs false
set_option maxRecDepth 100000
set_option maxHeartbeats 16000000
namespace Go.Proofs.Spl
open Go.Lib (hid)
open Go.Proofs.Scn
theorem told_ok {n d:Nat} {ok:Bool}:told n d ok=0 ↔ n≤65536∧d≤64∧ok=true:=by
 unfold told
 split
 ·simp;omega
 ·split
  ·rename_i h1 h2;simp [h2];omega
  ·rename_i h1 h2;simp [h2]
theorem checkX_ok {x:X}:checkX x=0 ↔ sizeX x≤65536∧deepX x≤64∧okX x=true:=told_ok
theorem checkS_ok {x:S}:checkS x=0 ↔ sizeS x≤65536∧deepS x≤64∧okS x=true:=told_ok
theorem checkF_ok {f:List Md}:checkF f=0 ↔ f.length≤64∧sumN sizeM f≤65536∧maxN deepM f≤64∧f.all okM=true:=by
 unfold checkF
 split
 ·simp;omega
 ·rw [told_ok]
  exact ⟨fun h=>⟨by omega,h⟩,fun h=>h.2⟩
theorem sizeS_eq (s:S):sizeS s=sizeXs s.x+sizeSs s.l+1:=by cases s;rw [sizeS];rfl
theorem deepS_eq (s:S):deepS s=max (deepXs s.x) (deepSs s.l)+1:=by cases s;rw [deepS];rfl
theorem sizeX_eq (s:X):sizeX s=sizeXs s.l+1:=by cases s;rw [sizeX];rfl
theorem deepX_eq (s:X):deepX s=deepXs s.l+1:=by cases s;rw [deepX];rfl
def nameX (s:Ln):X:=.mk 2 s 0 0 0 []
def binX (n:Int) (a b:X):X:=.mk 6 [] n 0 0 [a,b]
def notX (a:X):X:=.mk 5 [] 1 0 0 [a]
theorem ok_name {s:Ln}:okX (nameX s)=isName s:=by
 rw [okX_iff]
 simp [nameX,okNode,namedO,partsO,numberO,valueO,X.op,X.name,X.n,X.w,X.v,X.l]
theorem ok_bin {n:Int} (h1:11≤n) (h2:n≤26) {a b:X} (ha:okX a=true) (hb:okX b=true):okX (binX n a b)=true:=by
 rw [okX_iff]
 simp [binX,okNode,namedO,partsO,numberO,valueO,X.op,X.name,X.n,X.w,X.v,X.l,ha,hb,h1,h2]
theorem ok_not {a:X} (ha:okX a=true):okX (notX a)=true:=by
 rw [okX_iff]
 simp [notX,okNode,namedO,partsO,numberO,valueO,X.op,X.name,X.n,X.w,X.v,X.l,ha]
theorem size_bin (n:Int) (a b:X):sizeX (binX n a b)=sizeX a+sizeX b+1∧deepX (binX n a b)=max (deepX a) (deepX b)+1:=by
 simp [binX,sizeX,sizeXs,deepX,deepXs]
theorem size_not (a:X):sizeX (notX a)=sizeX a+1∧deepX (notX a)=deepX a+1:=by
 simp [notX,sizeX,sizeXs,deepX,deepXs]
theorem size_name (s:Ln):sizeX (nameX s)=1∧deepX (nameX s)=1:=by simp [nameX,sizeX,sizeXs,deepX,deepXs]
theorem twoR_le (n:Int):twoR n≤10:=by
 have put:∀ (c:Prop) [Decidable c] (a b:Nat),a≤10→b≤10→(if c then a else b)≤10:=by
  intro c _ a b ha hb;split
  ·exact ha
  ·exact hb
 unfold twoR
 repeat' (apply put)
 all_goals decide
theorem signs_ok {a b c:Ln} (ha:isName a=true) (hb:isName b=true) (hc:isName c=true) {m n:Int} (h1:11≤m) (h2:m≤26) (h3:11≤n) (h4:n≤26) :
  checkX (binX m (binX n (nameX a) (nameX b)) (nameX c))=0∧checkX (binX m (nameX a) (binX n (nameX b) (nameX c)))=0∧checkX (notX (binX n (nameX a) (nameX b)))=0:=by
 have oa:okX (nameX a)=true:=by rw [ok_name,ha]
 have ob:okX (nameX b)=true:=by rw [ok_name,hb]
 have oc:okX (nameX c)=true:=by rw [ok_name,hc]
 refine ⟨?_,?_,?_⟩
 ·rw [checkX_ok]
  refine ⟨?_,?_,ok_bin h1 h2 (ok_bin h3 h4 oa ob) oc⟩
  ·rw [(size_bin ..).1,(size_bin ..).1,(size_name _).1,(size_name _).1,(size_name _).1];omega
  ·rw [(size_bin ..).2,(size_bin ..).2,(size_name _).2,(size_name _).2,(size_name _).2];omega
 ·rw [checkX_ok]
  refine ⟨?_,?_,ok_bin h1 h2 oa (ok_bin h3 h4 ob oc)⟩
  ·rw [(size_bin ..).1,(size_bin ..).1,(size_name _).1,(size_name _).1,(size_name _).1];omega
  ·rw [(size_bin ..).2,(size_bin ..).2,(size_name _).2,(size_name _).2,(size_name _).2];omega
 ·rw [checkX_ok]
  refine ⟨?_,?_,ok_not (ok_bin h3 h4 oa ob)⟩
  ·rw [(size_not ..).1,(size_bin ..).1,(size_name _).1,(size_name _).1];omega
  ·rw [(size_not ..).2,(size_bin ..).2,(size_name _).2,(size_name _).2];omega
end Go.Proofs.Spl
namespace Go.Proofs.Spl
open Go.Lib (hid)
open Go.Proofs.Scn
def rowTok (t:Tok):Option Nat:=
 if t.k=4 then
  (if t.s=[42] then some 10 else if t.s=[43]∨t.s=[45] then some 9 else if t.s=[60,60]∨t.s=[62,62] then some 8 else if t.s=[60]∨t.s=[60,61]∨t.s=[62]∨t.s=[62,61] then some 7
   else if t.s=[61,61]∨t.s=[33,61] then some 6 else if t.s=[38] then some 5 else if t.s=[94] then some 4 else if t.s=[124] then some 3 else if t.s=[38,38] then some 2 else if t.s=[124,124] then some 1 else none)
 else none
def StopK (k:Nat):List Tok→Prop
 | []=>True
 | t :: _=>t ≠ sgT [91]∧∀ r,rowTok t=some r→r<k
def Stop0:List Tok→Prop
 | []=>True
 | t :: _=>t ≠ sgT [91]∧t ≠ sgT [63]∧rowTok t=none
theorem StopK.mono {k k':Nat} (h:k≤k'):∀ {l:List Tok},StopK k l→StopK k' l
 | [],_=>trivial
 | t :: _,⟨h1,h2⟩=>⟨h1,fun r e=>Nat.lt_of_lt_of_le (h2 r e) h⟩
structure Itm where
 b:Bool
 x:X
def build:X→List (Int × X)→X
 | x,[]=>x
 | x,(n,b) :: t=>build (.mk 6 [] n 0 0 [x,b]) t
def Chain (k N:Nat):Nat→List (Int × X)→Prop
 | _,[]=>True
 | m,(n,b) :: t=>11≤n∧n≤26∧k≤twoR n∧twoR n≤m∧okX b=true∧sizeX b<N∧Chain k N (twoR n) t
theorem Chain.mono {k N N':Nat} (hN:N≤N'):∀ {m:Nat} {t:List (Int × X)},Chain k N m t→Chain k N' m t
 | _,[],_=>trivial
 | _,(n,b) :: t,⟨h1,h2,h3,h4,h5,h6,h7⟩=>⟨h1,h2,h3,h4,h5,Nat.lt_of_lt_of_le h6 hN,h7.mono hN⟩
theorem Chain.less {k k' N:Nat} (hk:k'≤k):∀ {m:Nat} {t:List (Int × X)},Chain k N m t→Chain k' N m t
 | _,[],_=>trivial
 | _,(n,b) :: t,⟨h1,h2,h3,h4,h5,h6,h7⟩=>⟨h1,h2,Nat.le_trans hk h3,h4,h5,h6,h7.less hk⟩
theorem Chain.snoc {k N:Nat} {n:Int} {b:X} (h1:11≤n) (h2:n≤26) (hb:okX b=true) (hs:sizeX b<N) (hkn:twoR n≤k):∀ {m:Nat} {t:List (Int × X)},Chain k N m t→twoR n≤m→Chain (twoR n) N m (t ++ [(n,b)])
 | m,[],_,hm=>⟨h1,h2,Nat.le_refl _,hm,hb,hs,trivial⟩
 | m,(n',b') :: t,⟨g1,g2,g3,g4,g5,g6,g7⟩,hm=>⟨g1,g2,Nat.le_trans hkn g3,g4,g5,g6,Chain.snoc h1 h2 hb hs hkn g7 (Nat.le_trans hkn g3)⟩
theorem bin_form {x:X} (h:okX x=true) (h6:x.op=6):∃ n a b,x=.mk 6 [] n 0 0 [a,b]∧11≤n∧n≤26∧okX a=true∧okX b=true:=by
 obtain ⟨op,name,n,w,v,l⟩:=x
 simp only [X.op] at h6
 subst h6
 rw [okX_iff] at h
 simp [okNode,namedO,partsO,numberO,valueO,X.op,X.name,X.n,X.w,X.v,X.l] at h
 obtain ⟨⟨⟨⟨h1,h2⟩,h3⟩,h4⟩,h5⟩:=h
 match l,h2 with
 | [a,b],_=>exact ⟨n,a,b,by simp_all,of_decide_eq_true h3.1,of_decide_eq_true h3.2,h5 a (by simp),h5 b (by simp)⟩
theorem sg_inj {a b:Ln} (h:sgT a=sgT b):a=b:=by simpa [sgT] using h
inductive Prim:X→List Tok→Prop
 | num (w:Int) (v:Nat):Prim (.mk 1 [] 0 w v []) [numT w v]
 | name (s:Ln):Prim (.mk 2 s 0 0 0 []) [nmT s]
 | index (s:Ln) (a:X):okX a=true→Prim (.mk 4 s 0 0 0 [a]) (nmT s :: sgT [91] :: (exprT a ++ [sgT [93]]))
 | slice (s:Ln) (a b:X):okX a=true→okX b=true→Prim (.mk 3 s 0 0 0 [a,b]) (nmT s :: sgT [91] :: (exprT a ++ sgT [58] :: (exprT b ++ [sgT [93]])))
 | un (n:Int) (a:X):1≤n→n≤6→okX a=true→Prim (.mk 5 [] n 0 0 [a]) (sgT (oneS n) :: partT (rankX a,exprT a) 11)
 | cat (l:List X):l ≠ []→(∀ x ∈ l,okX x=true)→Prim (.mk 8 [] 0 0 0 l) (sgT [123] :: (sepS [44] (l.map exprT) ++ [sgT [125]]))
 | rep (a b:X):okX a=true→okX b=true→Prim (.mk 9 [] 0 0 0 [a,b]) (sgT [123] :: (exprT a ++ sgT [123] :: (exprT b ++ [sgT [125],sgT [125]])))
 | ext (n:Int) (a b:X):31≤n→n≤33→okX a=true→okX b=true→Prim (.mk 10 [] n 0 0 [a,b]) (wdT (extS n) :: sgT [40] :: (exprT a ++ sgT [44] :: (exprT b ++ [sgT [41]])))
theorem parts_cases {op:Int} {k:Nat} (h:partsO op k=true):op=1∨op=2∨op=3∨op=4∨op=5∨op=6∨op=7∨op=8∨op=9∨op=10:=by
 unfold partsO at h
 by_cases h1:op=1∨op=2
 ·omega
 rw [if_neg h1] at h
 by_cases h2:op=4∨op=5
 ·omega
 rw [if_neg h2] at h
 by_cases h3:op=3∨op=6∨op=9∨op=10
 ·omega
 rw [if_neg h3] at h
 by_cases h4:op=7
 ·omega
 rw [if_neg h4] at h
 by_cases h5:op=8
 ·omega
 rw [if_neg h5] at h
 cases h
theorem stop0_sg {s:Ln} (h1:s ≠ [91]) (h2:s ≠ [63]) (h3:rowTok (sgT s)=none) (l:List Tok):Stop0 (sgT s :: l):=⟨fun e=>h1 (sg_inj e),fun e=>h2 (sg_inj e),h3⟩
theorem s58 (l:List Tok):Stop0 (sgT [58] :: l):=stop0_sg (by decide) (by decide) (by decide) l
theorem s41 (l:List Tok):Stop0 (sgT [41] :: l):=stop0_sg (by decide) (by decide) (by decide) l
theorem s59 (l:List Tok):Stop0 (sgT [59] :: l):=stop0_sg (by decide) (by decide) (by decide) l
theorem s46 (l:List Tok):Stop0 (sgT [46,46] :: l):=stop0_sg (by decide) (by decide) (by decide) l
end Go.Proofs.Spl
namespace Go.Proofs.YtlcfpdmicpggbaaGreatDoor
open Go.Lib (hid)
open Go.RowKit Go.Proofs.Spl Go.Proofs.Scn Go.Shelf Go.Grow
theorem two_11 (W:World):Calls Tryz.prog 107 #[.int .i64 11] W fun e W'=>e=.returned (.tuple #[.string (bs (twoS 11)),.int .i64 (twoR 11)])∧Below W.heap.size W W':=by
 have hx:({ data:=#[38,32,32,124,32,32,94,32,32,43,32,32,45,32,32,42,32,32,60,60,32,62,62,32,61,61,32,33,61,32,60,32,32,60,61,32,62,32,32,62,61,32,38,38,32,124,124,32] }:ByteArray).extract 0 2=bs [38,32]:=by rfl
 have hy:∀ h:1<(bs [38,32]).size,(bs [38,32])[1]'h=32:=fun _=>rfl
 have hz:(bs [38,32]).size=2:=rfl
 have hw:(bs [38,32]).extract 0 1=bs [38]:=by rfl
 go_enter Tryz.func107,Tryz.ntmps107
 go_wp2_with fail
 refine region_grow Grw (spcAt 0 [.is (.string (bs [38])),.is (.agg #[.int .i64 5,.int .i64 3,.int .i64 4,.int .i64 9,.int .i64 9,.int .i64 10,.int .i64 8,.int .i64 8,.int .i64 6,.int .i64 6,.int .i64 7,.int .i64 7,.int .i64 7,.int .i64 7,.int .i64 2,.int .i64 1]),.is (.int .i64 11),.is (.int .i64 0),.is (.int .i64 5),.is (.string (bs [38])),.is (.int .i64 5)])
  (by kernel_rfl) rfl (by kernel_rfl) (by kernel_rfl) (grw_drawn _) grw_trans (spcAt_grw 0 _) ?hops ?hfin
 case hops=>
  refine ⟨?o0,?o1,?o2,?o3,?o4,?o5,?o6,trivial⟩
  all_goals (intro ev W' hG hr hD;have hc:=hr.const;have hf:=hr.func)
  case o0=>
   have e5:ev (.tmp 5)=.string (bs [38]):=hr.tmp 5 (by kernel_rfl)
   exact ok_val (by simp [execOp,go_sem,e5]) ⟨Below.refl _ _,rfl⟩
  case o1=>exact ok_val (by simp [execOp,go_sem,hc];try rfl) ⟨Below.refl _ _,rfl⟩
  case o2=>
   have e0:ev (.tmp 0)=.int .i64 11:=hr.tmp 0 (by kernel_rfl)
   exact ok_val (by simp [execOp,go_sem,e0]) ⟨Below.refl _ _,rfl⟩
  case o3=>
   have e20:ev (.tmp 20)=_:=hD 2 20 (by kernel_rfl)
   exact ok_val (by simp [execOp,go_sem,e20,hc];try rfl) ⟨Below.refl _ _,rfl⟩
  case o4=>
   have e19:ev (.tmp 19)=_:=hD 1 19 (by kernel_rfl)
   have e21:ev (.tmp 21)=_:=hD 3 21 (by kernel_rfl)
   exact ok_val (by simp [execOp,go_sem,e19,e21,hc];try rfl) ⟨Below.refl _ _,rfl⟩
  case o5=>
   have e18:ev (.tmp 18)=_:=hD 0 18 (by kernel_rfl)
   exact ok_val (by simp [execOp,go_sem,e18]) ⟨Below.refl _ _,rfl⟩
  case o6=>
   have e22:ev (.tmp 22)=_:=hD 4 22 (by kernel_rfl)
   exact ok_val (by simp [execOp,go_sem,e22]) ⟨Below.refl _ _,rfl⟩
 case hfin=>
  intro x W' hG hx'
  have h5:x 5=.string (bs [38]):=hx' 5 (by simp)
  have h6:x 6=.int .i64 5:=hx' 6 (by simp)
  simp only [putAll,Act.put,List.setIfInBounds_toArray,List.set_cons_zero,List.set_cons_succ,h5,h6]
  go_wp2_with fail
  go_ret2
  exact ⟨rfl,hG⟩
theorem two_12 (W:World):Calls Tryz.prog 107 #[.int .i64 12] W fun e W'=>e=.returned (.tuple #[.string (bs (twoS 12)),.int .i64 (twoR 12)])∧Below W.heap.size W W':=by
 have hx:({ data:=#[38,32,32,124,32,32,94,32,32,43,32,32,45,32,32,42,32,32,60,60,32,62,62,32,61,61,32,33,61,32,60,32,32,60,61,32,62,32,32,62,61,32,38,38,32,124,124,32] }:ByteArray).extract 3 5=bs [124,32]:=by rfl
 have hy:∀ h:1<(bs [124,32]).size,(bs [124,32])[1]'h=32:=fun _=>rfl
 have hz:(bs [124,32]).size=2:=rfl
 have hw:(bs [124,32]).extract 0 1=bs [124]:=by rfl
 go_enter Tryz.func107,Tryz.ntmps107
 go_wp2_with fail
 refine region_grow Grw (spcAt 0 [.is (.string (bs [124])),.is (.agg #[.int .i64 5,.int .i64 3,.int .i64 4,.int .i64 9,.int .i64 9,.int .i64 10,.int .i64 8,.int .i64 8,.int .i64 6,.int .i64 6,.int .i64 7,.int .i64 7,.int .i64 7,.int .i64 7,.int .i64 2,.int .i64 1]),.is (.int .i64 12),.is (.int .i64 1),.is (.int .i64 3),.is (.string (bs [124])),.is (.int .i64 3)])
  (by kernel_rfl) rfl (by kernel_rfl) (by kernel_rfl) (grw_drawn _) grw_trans (spcAt_grw 0 _) ?hops ?hfin
 case hops=>
  refine ⟨?o0,?o1,?o2,?o3,?o4,?o5,?o6,trivial⟩
  all_goals (intro ev W' hG hr hD;have hc:=hr.const;have hf:=hr.func)
  case o0=>
   have e5:ev (.tmp 5)=.string (bs [124]):=hr.tmp 5 (by kernel_rfl)
   exact ok_val (by simp [execOp,go_sem,e5]) ⟨Below.refl _ _,rfl⟩
  case o1=>exact ok_val (by simp [execOp,go_sem,hc];try rfl) ⟨Below.refl _ _,rfl⟩
  case o2=>
   have e0:ev (.tmp 0)=.int .i64 12:=hr.tmp 0 (by kernel_rfl)
   exact ok_val (by simp [execOp,go_sem,e0]) ⟨Below.refl _ _,rfl⟩
  case o3=>
   have e20:ev (.tmp 20)=_:=hD 2 20 (by kernel_rfl)
   exact ok_val (by simp [execOp,go_sem,e20,hc];try rfl) ⟨Below.refl _ _,rfl⟩
  case o4=>
   have e19:ev (.tmp 19)=_:=hD 1 19 (by kernel_rfl)
   have e21:ev (.tmp 21)=_:=hD 3 21 (by kernel_rfl)
   exact ok_val (by simp [execOp,go_sem,e19,e21,hc];try rfl) ⟨Below.refl _ _,rfl⟩
  case o5=>
   have e18:ev (.tmp 18)=_:=hD 0 18 (by kernel_rfl)
   exact ok_val (by simp [execOp,go_sem,e18]) ⟨Below.refl _ _,rfl⟩
  case o6=>
   have e22:ev (.tmp 22)=_:=hD 4 22 (by kernel_rfl)
   exact ok_val (by simp [execOp,go_sem,e22]) ⟨Below.refl _ _,rfl⟩
 case hfin=>
  intro x W' hG hx'
  have h5:x 5=.string (bs [124]):=hx' 5 (by simp)
  have h6:x 6=.int .i64 3:=hx' 6 (by simp)
  simp only [putAll,Act.put,List.setIfInBounds_toArray,List.set_cons_zero,List.set_cons_succ,h5,h6]
  go_wp2_with fail
  go_ret2
  exact ⟨rfl,hG⟩
theorem two_13 (W:World):Calls Tryz.prog 107 #[.int .i64 13] W fun e W'=>e=.returned (.tuple #[.string (bs (twoS 13)),.int .i64 (twoR 13)])∧Below W.heap.size W W':=by
 have hx:({ data:=#[38,32,32,124,32,32,94,32,32,43,32,32,45,32,32,42,32,32,60,60,32,62,62,32,61,61,32,33,61,32,60,32,32,60,61,32,62,32,32,62,61,32,38,38,32,124,124,32] }:ByteArray).extract 6 8=bs [94,32]:=by rfl
 have hy:∀ h:1<(bs [94,32]).size,(bs [94,32])[1]'h=32:=fun _=>rfl
 have hz:(bs [94,32]).size=2:=rfl
 have hw:(bs [94,32]).extract 0 1=bs [94]:=by rfl
 go_enter Tryz.func107,Tryz.ntmps107
 go_wp2_with fail
 refine region_grow Grw (spcAt 0 [.is (.string (bs [94])),.is (.agg #[.int .i64 5,.int .i64 3,.int .i64 4,.int .i64 9,.int .i64 9,.int .i64 10,.int .i64 8,.int .i64 8,.int .i64 6,.int .i64 6,.int .i64 7,.int .i64 7,.int .i64 7,.int .i64 7,.int .i64 2,.int .i64 1]),.is (.int .i64 13),.is (.int .i64 2),.is (.int .i64 4),.is (.string (bs [94])),.is (.int .i64 4)])
  (by kernel_rfl) rfl (by kernel_rfl) (by kernel_rfl) (grw_drawn _) grw_trans (spcAt_grw 0 _) ?hops ?hfin
 case hops=>
  refine ⟨?o0,?o1,?o2,?o3,?o4,?o5,?o6,trivial⟩
  all_goals (intro ev W' hG hr hD;have hc:=hr.const;have hf:=hr.func)
  case o0=>
   have e5:ev (.tmp 5)=.string (bs [94]):=hr.tmp 5 (by kernel_rfl)
   exact ok_val (by simp [execOp,go_sem,e5]) ⟨Below.refl _ _,rfl⟩
  case o1=>exact ok_val (by simp [execOp,go_sem,hc];try rfl) ⟨Below.refl _ _,rfl⟩
  case o2=>
   have e0:ev (.tmp 0)=.int .i64 13:=hr.tmp 0 (by kernel_rfl)
   exact ok_val (by simp [execOp,go_sem,e0]) ⟨Below.refl _ _,rfl⟩
  case o3=>
   have e20:ev (.tmp 20)=_:=hD 2 20 (by kernel_rfl)
   exact ok_val (by simp [execOp,go_sem,e20,hc];try rfl) ⟨Below.refl _ _,rfl⟩
  case o4=>
   have e19:ev (.tmp 19)=_:=hD 1 19 (by kernel_rfl)
   have e21:ev (.tmp 21)=_:=hD 3 21 (by kernel_rfl)
   exact ok_val (by simp [execOp,go_sem,e19,e21,hc];try rfl) ⟨Below.refl _ _,rfl⟩
  case o5=>
   have e18:ev (.tmp 18)=_:=hD 0 18 (by kernel_rfl)
   exact ok_val (by simp [execOp,go_sem,e18]) ⟨Below.refl _ _,rfl⟩
  case o6=>
   have e22:ev (.tmp 22)=_:=hD 4 22 (by kernel_rfl)
   exact ok_val (by simp [execOp,go_sem,e22]) ⟨Below.refl _ _,rfl⟩
 case hfin=>
  intro x W' hG hx'
  have h5:x 5=.string (bs [94]):=hx' 5 (by simp)
  have h6:x 6=.int .i64 4:=hx' 6 (by simp)
  simp only [putAll,Act.put,List.setIfInBounds_toArray,List.set_cons_zero,List.set_cons_succ,h5,h6]
  go_wp2_with fail
  go_ret2
  exact ⟨rfl,hG⟩
theorem two_14 (W:World):Calls Tryz.prog 107 #[.int .i64 14] W fun e W'=>e=.returned (.tuple #[.string (bs (twoS 14)),.int .i64 (twoR 14)])∧Below W.heap.size W W':=by
 have hx:({ data:=#[38,32,32,124,32,32,94,32,32,43,32,32,45,32,32,42,32,32,60,60,32,62,62,32,61,61,32,33,61,32,60,32,32,60,61,32,62,32,32,62,61,32,38,38,32,124,124,32] }:ByteArray).extract 9 11=bs [43,32]:=by rfl
 have hy:∀ h:1<(bs [43,32]).size,(bs [43,32])[1]'h=32:=fun _=>rfl
 have hz:(bs [43,32]).size=2:=rfl
 have hw:(bs [43,32]).extract 0 1=bs [43]:=by rfl
 go_enter Tryz.func107,Tryz.ntmps107
 go_wp2_with fail
 refine region_grow Grw (spcAt 0 [.is (.string (bs [43])),.is (.agg #[.int .i64 5,.int .i64 3,.int .i64 4,.int .i64 9,.int .i64 9,.int .i64 10,.int .i64 8,.int .i64 8,.int .i64 6,.int .i64 6,.int .i64 7,.int .i64 7,.int .i64 7,.int .i64 7,.int .i64 2,.int .i64 1]),.is (.int .i64 14),.is (.int .i64 3),.is (.int .i64 9),.is (.string (bs [43])),.is (.int .i64 9)])
  (by kernel_rfl) rfl (by kernel_rfl) (by kernel_rfl) (grw_drawn _) grw_trans (spcAt_grw 0 _) ?hops ?hfin
 case hops=>
  refine ⟨?o0,?o1,?o2,?o3,?o4,?o5,?o6,trivial⟩
  all_goals (intro ev W' hG hr hD;have hc:=hr.const;have hf:=hr.func)
  case o0=>
   have e5:ev (.tmp 5)=.string (bs [43]):=hr.tmp 5 (by kernel_rfl)
   exact ok_val (by simp [execOp,go_sem,e5]) ⟨Below.refl _ _,rfl⟩
  case o1=>exact ok_val (by simp [execOp,go_sem,hc];try rfl) ⟨Below.refl _ _,rfl⟩
  case o2=>
   have e0:ev (.tmp 0)=.int .i64 14:=hr.tmp 0 (by kernel_rfl)
   exact ok_val (by simp [execOp,go_sem,e0]) ⟨Below.refl _ _,rfl⟩
  case o3=>
   have e20:ev (.tmp 20)=_:=hD 2 20 (by kernel_rfl)
   exact ok_val (by simp [execOp,go_sem,e20,hc];try rfl) ⟨Below.refl _ _,rfl⟩
  case o4=>
   have e19:ev (.tmp 19)=_:=hD 1 19 (by kernel_rfl)
   have e21:ev (.tmp 21)=_:=hD 3 21 (by kernel_rfl)
   exact ok_val (by simp [execOp,go_sem,e19,e21,hc];try rfl) ⟨Below.refl _ _,rfl⟩
  case o5=>
   have e18:ev (.tmp 18)=_:=hD 0 18 (by kernel_rfl)
   exact ok_val (by simp [execOp,go_sem,e18]) ⟨Below.refl _ _,rfl⟩
  case o6=>
   have e22:ev (.tmp 22)=_:=hD 4 22 (by kernel_rfl)
   exact ok_val (by simp [execOp,go_sem,e22]) ⟨Below.refl _ _,rfl⟩
 case hfin=>
  intro x W' hG hx'
  have h5:x 5=.string (bs [43]):=hx' 5 (by simp)
  have h6:x 6=.int .i64 9:=hx' 6 (by simp)
  simp only [putAll,Act.put,List.setIfInBounds_toArray,List.set_cons_zero,List.set_cons_succ,h5,h6]
  go_wp2_with fail
  go_ret2
  exact ⟨rfl,hG⟩
theorem two_15 (W:World):Calls Tryz.prog 107 #[.int .i64 15] W fun e W'=>e=.returned (.tuple #[.string (bs (twoS 15)),.int .i64 (twoR 15)])∧Below W.heap.size W W':=by
 have hx:({ data:=#[38,32,32,124,32,32,94,32,32,43,32,32,45,32,32,42,32,32,60,60,32,62,62,32,61,61,32,33,61,32,60,32,32,60,61,32,62,32,32,62,61,32,38,38,32,124,124,32] }:ByteArray).extract 12 14=bs [45,32]:=by rfl
 have hy:∀ h:1<(bs [45,32]).size,(bs [45,32])[1]'h=32:=fun _=>rfl
 have hz:(bs [45,32]).size=2:=rfl
 have hw:(bs [45,32]).extract 0 1=bs [45]:=by rfl
 go_enter Tryz.func107,Tryz.ntmps107
 go_wp2_with fail
 refine region_grow Grw (spcAt 0 [.is (.string (bs [45])),.is (.agg #[.int .i64 5,.int .i64 3,.int .i64 4,.int .i64 9,.int .i64 9,.int .i64 10,.int .i64 8,.int .i64 8,.int .i64 6,.int .i64 6,.int .i64 7,.int .i64 7,.int .i64 7,.int .i64 7,.int .i64 2,.int .i64 1]),.is (.int .i64 15),.is (.int .i64 4),.is (.int .i64 9),.is (.string (bs [45])),.is (.int .i64 9)])
  (by kernel_rfl) rfl (by kernel_rfl) (by kernel_rfl) (grw_drawn _) grw_trans (spcAt_grw 0 _) ?hops ?hfin
 case hops=>
  refine ⟨?o0,?o1,?o2,?o3,?o4,?o5,?o6,trivial⟩
  all_goals (intro ev W' hG hr hD;have hc:=hr.const;have hf:=hr.func)
  case o0=>
   have e5:ev (.tmp 5)=.string (bs [45]):=hr.tmp 5 (by kernel_rfl)
   exact ok_val (by simp [execOp,go_sem,e5]) ⟨Below.refl _ _,rfl⟩
  case o1=>exact ok_val (by simp [execOp,go_sem,hc];try rfl) ⟨Below.refl _ _,rfl⟩
  case o2=>
   have e0:ev (.tmp 0)=.int .i64 15:=hr.tmp 0 (by kernel_rfl)
   exact ok_val (by simp [execOp,go_sem,e0]) ⟨Below.refl _ _,rfl⟩
  case o3=>
   have e20:ev (.tmp 20)=_:=hD 2 20 (by kernel_rfl)
   exact ok_val (by simp [execOp,go_sem,e20,hc];try rfl) ⟨Below.refl _ _,rfl⟩
  case o4=>
   have e19:ev (.tmp 19)=_:=hD 1 19 (by kernel_rfl)
   have e21:ev (.tmp 21)=_:=hD 3 21 (by kernel_rfl)
   exact ok_val (by simp [execOp,go_sem,e19,e21,hc];try rfl) ⟨Below.refl _ _,rfl⟩
  case o5=>
   have e18:ev (.tmp 18)=_:=hD 0 18 (by kernel_rfl)
   exact ok_val (by simp [execOp,go_sem,e18]) ⟨Below.refl _ _,rfl⟩
  case o6=>
   have e22:ev (.tmp 22)=_:=hD 4 22 (by kernel_rfl)
   exact ok_val (by simp [execOp,go_sem,e22]) ⟨Below.refl _ _,rfl⟩
 case hfin=>
  intro x W' hG hx'
  have h5:x 5=.string (bs [45]):=hx' 5 (by simp)
  have h6:x 6=.int .i64 9:=hx' 6 (by simp)
  simp only [putAll,Act.put,List.setIfInBounds_toArray,List.set_cons_zero,List.set_cons_succ,h5,h6]
  go_wp2_with fail
  go_ret2
  exact ⟨rfl,hG⟩
theorem two_16 (W:World):Calls Tryz.prog 107 #[.int .i64 16] W fun e W'=>e=.returned (.tuple #[.string (bs (twoS 16)),.int .i64 (twoR 16)])∧Below W.heap.size W W':=by
 have hx:({ data:=#[38,32,32,124,32,32,94,32,32,43,32,32,45,32,32,42,32,32,60,60,32,62,62,32,61,61,32,33,61,32,60,32,32,60,61,32,62,32,32,62,61,32,38,38,32,124,124,32] }:ByteArray).extract 15 17=bs [42,32]:=by rfl
 have hy:∀ h:1<(bs [42,32]).size,(bs [42,32])[1]'h=32:=fun _=>rfl
 have hz:(bs [42,32]).size=2:=rfl
 have hw:(bs [42,32]).extract 0 1=bs [42]:=by rfl
 go_enter Tryz.func107,Tryz.ntmps107
 go_wp2_with fail
 refine region_grow Grw (spcAt 0 [.is (.string (bs [42])),.is (.agg #[.int .i64 5,.int .i64 3,.int .i64 4,.int .i64 9,.int .i64 9,.int .i64 10,.int .i64 8,.int .i64 8,.int .i64 6,.int .i64 6,.int .i64 7,.int .i64 7,.int .i64 7,.int .i64 7,.int .i64 2,.int .i64 1]),.is (.int .i64 16),.is (.int .i64 5),.is (.int .i64 10),.is (.string (bs [42])),.is (.int .i64 10)])
  (by kernel_rfl) rfl (by kernel_rfl) (by kernel_rfl) (grw_drawn _) grw_trans (spcAt_grw 0 _) ?hops ?hfin
 case hops=>
  refine ⟨?o0,?o1,?o2,?o3,?o4,?o5,?o6,trivial⟩
  all_goals (intro ev W' hG hr hD;have hc:=hr.const;have hf:=hr.func)
  case o0=>
   have e5:ev (.tmp 5)=.string (bs [42]):=hr.tmp 5 (by kernel_rfl)
   exact ok_val (by simp [execOp,go_sem,e5]) ⟨Below.refl _ _,rfl⟩
  case o1=>exact ok_val (by simp [execOp,go_sem,hc];try rfl) ⟨Below.refl _ _,rfl⟩
  case o2=>
   have e0:ev (.tmp 0)=.int .i64 16:=hr.tmp 0 (by kernel_rfl)
   exact ok_val (by simp [execOp,go_sem,e0]) ⟨Below.refl _ _,rfl⟩
  case o3=>
   have e20:ev (.tmp 20)=_:=hD 2 20 (by kernel_rfl)
   exact ok_val (by simp [execOp,go_sem,e20,hc];try rfl) ⟨Below.refl _ _,rfl⟩
  case o4=>
   have e19:ev (.tmp 19)=_:=hD 1 19 (by kernel_rfl)
   have e21:ev (.tmp 21)=_:=hD 3 21 (by kernel_rfl)
   exact ok_val (by simp [execOp,go_sem,e19,e21,hc];try rfl) ⟨Below.refl _ _,rfl⟩
  case o5=>
   have e18:ev (.tmp 18)=_:=hD 0 18 (by kernel_rfl)
   exact ok_val (by simp [execOp,go_sem,e18]) ⟨Below.refl _ _,rfl⟩
  case o6=>
   have e22:ev (.tmp 22)=_:=hD 4 22 (by kernel_rfl)
   exact ok_val (by simp [execOp,go_sem,e22]) ⟨Below.refl _ _,rfl⟩
 case hfin=>
  intro x W' hG hx'
  have h5:x 5=.string (bs [42]):=hx' 5 (by simp)
  have h6:x 6=.int .i64 10:=hx' 6 (by simp)
  simp only [putAll,Act.put,List.setIfInBounds_toArray,List.set_cons_zero,List.set_cons_succ,h5,h6]
  go_wp2_with fail
  go_ret2
  exact ⟨rfl,hG⟩
theorem two_17 (W:World):Calls Tryz.prog 107 #[.int .i64 17] W fun e W'=>e=.returned (.tuple #[.string (bs (twoS 17)),.int .i64 (twoR 17)])∧Below W.heap.size W W':=by
 have hx:({ data:=#[38,32,32,124,32,32,94,32,32,43,32,32,45,32,32,42,32,32,60,60,32,62,62,32,61,61,32,33,61,32,60,32,32,60,61,32,62,32,32,62,61,32,38,38,32,124,124,32] }:ByteArray).extract 18 20=bs [60,60]:=by rfl
 have hy:∀ h:1<(bs [60,60]).size,(bs [60,60])[1]'h=60:=fun _=>rfl
 have hz:(bs [60,60]).size=2:=rfl
 have hw:(bs [60,60]).extract 0 1=bs [60]:=by rfl
 go_enter Tryz.func107,Tryz.ntmps107
 go_wp2_with fail
 refine region_grow Grw (spcAt 0 [.is (.string (bs [60,60])),.is (.agg #[.int .i64 5,.int .i64 3,.int .i64 4,.int .i64 9,.int .i64 9,.int .i64 10,.int .i64 8,.int .i64 8,.int .i64 6,.int .i64 6,.int .i64 7,.int .i64 7,.int .i64 7,.int .i64 7,.int .i64 2,.int .i64 1]),.is (.int .i64 17),.is (.int .i64 6),.is (.int .i64 8),.is (.string (bs [60,60])),.is (.int .i64 8)])
  (by kernel_rfl) rfl (by kernel_rfl) (by kernel_rfl) (grw_drawn _) grw_trans (spcAt_grw 0 _) ?hops ?hfin
 case hops=>
  refine ⟨?o0,?o1,?o2,?o3,?o4,?o5,?o6,trivial⟩
  all_goals (intro ev W' hG hr hD;have hc:=hr.const;have hf:=hr.func)
  case o0=>
   have e5:ev (.tmp 5)=.string (bs [60,60]):=hr.tmp 5 (by kernel_rfl)
   exact ok_val (by simp [execOp,go_sem,e5]) ⟨Below.refl _ _,rfl⟩
  case o1=>exact ok_val (by simp [execOp,go_sem,hc];try rfl) ⟨Below.refl _ _,rfl⟩
  case o2=>
   have e0:ev (.tmp 0)=.int .i64 17:=hr.tmp 0 (by kernel_rfl)
   exact ok_val (by simp [execOp,go_sem,e0]) ⟨Below.refl _ _,rfl⟩
  case o3=>
   have e20:ev (.tmp 20)=_:=hD 2 20 (by kernel_rfl)
   exact ok_val (by simp [execOp,go_sem,e20,hc];try rfl) ⟨Below.refl _ _,rfl⟩
  case o4=>
   have e19:ev (.tmp 19)=_:=hD 1 19 (by kernel_rfl)
   have e21:ev (.tmp 21)=_:=hD 3 21 (by kernel_rfl)
   exact ok_val (by simp [execOp,go_sem,e19,e21,hc];try rfl) ⟨Below.refl _ _,rfl⟩
  case o5=>
   have e18:ev (.tmp 18)=_:=hD 0 18 (by kernel_rfl)
   exact ok_val (by simp [execOp,go_sem,e18]) ⟨Below.refl _ _,rfl⟩
  case o6=>
   have e22:ev (.tmp 22)=_:=hD 4 22 (by kernel_rfl)
   exact ok_val (by simp [execOp,go_sem,e22]) ⟨Below.refl _ _,rfl⟩
 case hfin=>
  intro x W' hG hx'
  have h5:x 5=.string (bs [60,60]):=hx' 5 (by simp)
  have h6:x 6=.int .i64 8:=hx' 6 (by simp)
  simp only [putAll,Act.put,List.setIfInBounds_toArray,List.set_cons_zero,List.set_cons_succ,h5,h6]
  go_wp2_with fail
  go_ret2
  exact ⟨rfl,hG⟩
theorem two_18 (W:World):Calls Tryz.prog 107 #[.int .i64 18] W fun e W'=>e=.returned (.tuple #[.string (bs (twoS 18)),.int .i64 (twoR 18)])∧Below W.heap.size W W':=by
 have hx:({ data:=#[38,32,32,124,32,32,94,32,32,43,32,32,45,32,32,42,32,32,60,60,32,62,62,32,61,61,32,33,61,32,60,32,32,60,61,32,62,32,32,62,61,32,38,38,32,124,124,32] }:ByteArray).extract 21 23=bs [62,62]:=by rfl
 have hy:∀ h:1<(bs [62,62]).size,(bs [62,62])[1]'h=62:=fun _=>rfl
 have hz:(bs [62,62]).size=2:=rfl
 have hw:(bs [62,62]).extract 0 1=bs [62]:=by rfl
 go_enter Tryz.func107,Tryz.ntmps107
 go_wp2_with fail
 refine region_grow Grw (spcAt 0 [.is (.string (bs [62,62])),.is (.agg #[.int .i64 5,.int .i64 3,.int .i64 4,.int .i64 9,.int .i64 9,.int .i64 10,.int .i64 8,.int .i64 8,.int .i64 6,.int .i64 6,.int .i64 7,.int .i64 7,.int .i64 7,.int .i64 7,.int .i64 2,.int .i64 1]),.is (.int .i64 18),.is (.int .i64 7),.is (.int .i64 8),.is (.string (bs [62,62])),.is (.int .i64 8)])
  (by kernel_rfl) rfl (by kernel_rfl) (by kernel_rfl) (grw_drawn _) grw_trans (spcAt_grw 0 _) ?hops ?hfin
 case hops=>
  refine ⟨?o0,?o1,?o2,?o3,?o4,?o5,?o6,trivial⟩
  all_goals (intro ev W' hG hr hD;have hc:=hr.const;have hf:=hr.func)
  case o0=>
   have e5:ev (.tmp 5)=.string (bs [62,62]):=hr.tmp 5 (by kernel_rfl)
   exact ok_val (by simp [execOp,go_sem,e5]) ⟨Below.refl _ _,rfl⟩
  case o1=>exact ok_val (by simp [execOp,go_sem,hc];try rfl) ⟨Below.refl _ _,rfl⟩
  case o2=>
   have e0:ev (.tmp 0)=.int .i64 18:=hr.tmp 0 (by kernel_rfl)
   exact ok_val (by simp [execOp,go_sem,e0]) ⟨Below.refl _ _,rfl⟩
  case o3=>
   have e20:ev (.tmp 20)=_:=hD 2 20 (by kernel_rfl)
   exact ok_val (by simp [execOp,go_sem,e20,hc];try rfl) ⟨Below.refl _ _,rfl⟩
  case o4=>
   have e19:ev (.tmp 19)=_:=hD 1 19 (by kernel_rfl)
   have e21:ev (.tmp 21)=_:=hD 3 21 (by kernel_rfl)
   exact ok_val (by simp [execOp,go_sem,e19,e21,hc];try rfl) ⟨Below.refl _ _,rfl⟩
  case o5=>
   have e18:ev (.tmp 18)=_:=hD 0 18 (by kernel_rfl)
   exact ok_val (by simp [execOp,go_sem,e18]) ⟨Below.refl _ _,rfl⟩
  case o6=>
   have e22:ev (.tmp 22)=_:=hD 4 22 (by kernel_rfl)
   exact ok_val (by simp [execOp,go_sem,e22]) ⟨Below.refl _ _,rfl⟩
 case hfin=>
  intro x W' hG hx'
  have h5:x 5=.string (bs [62,62]):=hx' 5 (by simp)
  have h6:x 6=.int .i64 8:=hx' 6 (by simp)
  simp only [putAll,Act.put,List.setIfInBounds_toArray,List.set_cons_zero,List.set_cons_succ,h5,h6]
  go_wp2_with fail
  go_ret2
  exact ⟨rfl,hG⟩
theorem two_19 (W:World):Calls Tryz.prog 107 #[.int .i64 19] W fun e W'=>e=.returned (.tuple #[.string (bs (twoS 19)),.int .i64 (twoR 19)])∧Below W.heap.size W W':=by
 have hx:({ data:=#[38,32,32,124,32,32,94,32,32,43,32,32,45,32,32,42,32,32,60,60,32,62,62,32,61,61,32,33,61,32,60,32,32,60,61,32,62,32,32,62,61,32,38,38,32,124,124,32] }:ByteArray).extract 24 26=bs [61,61]:=by rfl
 have hy:∀ h:1<(bs [61,61]).size,(bs [61,61])[1]'h=61:=fun _=>rfl
 have hz:(bs [61,61]).size=2:=rfl
 have hw:(bs [61,61]).extract 0 1=bs [61]:=by rfl
 go_enter Tryz.func107,Tryz.ntmps107
 go_wp2_with fail
 refine region_grow Grw (spcAt 0 [.is (.string (bs [61,61])),.is (.agg #[.int .i64 5,.int .i64 3,.int .i64 4,.int .i64 9,.int .i64 9,.int .i64 10,.int .i64 8,.int .i64 8,.int .i64 6,.int .i64 6,.int .i64 7,.int .i64 7,.int .i64 7,.int .i64 7,.int .i64 2,.int .i64 1]),.is (.int .i64 19),.is (.int .i64 8),.is (.int .i64 6),.is (.string (bs [61,61])),.is (.int .i64 6)])
  (by kernel_rfl) rfl (by kernel_rfl) (by kernel_rfl) (grw_drawn _) grw_trans (spcAt_grw 0 _) ?hops ?hfin
 case hops=>
  refine ⟨?o0,?o1,?o2,?o3,?o4,?o5,?o6,trivial⟩
  all_goals (intro ev W' hG hr hD;have hc:=hr.const;have hf:=hr.func)
  case o0=>
   have e5:ev (.tmp 5)=.string (bs [61,61]):=hr.tmp 5 (by kernel_rfl)
   exact ok_val (by simp [execOp,go_sem,e5]) ⟨Below.refl _ _,rfl⟩
  case o1=>exact ok_val (by simp [execOp,go_sem,hc];try rfl) ⟨Below.refl _ _,rfl⟩
  case o2=>
   have e0:ev (.tmp 0)=.int .i64 19:=hr.tmp 0 (by kernel_rfl)
   exact ok_val (by simp [execOp,go_sem,e0]) ⟨Below.refl _ _,rfl⟩
  case o3=>
   have e20:ev (.tmp 20)=_:=hD 2 20 (by kernel_rfl)
   exact ok_val (by simp [execOp,go_sem,e20,hc];try rfl) ⟨Below.refl _ _,rfl⟩
  case o4=>
   have e19:ev (.tmp 19)=_:=hD 1 19 (by kernel_rfl)
   have e21:ev (.tmp 21)=_:=hD 3 21 (by kernel_rfl)
   exact ok_val (by simp [execOp,go_sem,e19,e21,hc];try rfl) ⟨Below.refl _ _,rfl⟩
  case o5=>
   have e18:ev (.tmp 18)=_:=hD 0 18 (by kernel_rfl)
   exact ok_val (by simp [execOp,go_sem,e18]) ⟨Below.refl _ _,rfl⟩
  case o6=>
   have e22:ev (.tmp 22)=_:=hD 4 22 (by kernel_rfl)
   exact ok_val (by simp [execOp,go_sem,e22]) ⟨Below.refl _ _,rfl⟩
 case hfin=>
  intro x W' hG hx'
  have h5:x 5=.string (bs [61,61]):=hx' 5 (by simp)
  have h6:x 6=.int .i64 6:=hx' 6 (by simp)
  simp only [putAll,Act.put,List.setIfInBounds_toArray,List.set_cons_zero,List.set_cons_succ,h5,h6]
  go_wp2_with fail
  go_ret2
  exact ⟨rfl,hG⟩
theorem two_20 (W:World):Calls Tryz.prog 107 #[.int .i64 20] W fun e W'=>e=.returned (.tuple #[.string (bs (twoS 20)),.int .i64 (twoR 20)])∧Below W.heap.size W W':=by
 have hx:({ data:=#[38,32,32,124,32,32,94,32,32,43,32,32,45,32,32,42,32,32,60,60,32,62,62,32,61,61,32,33,61,32,60,32,32,60,61,32,62,32,32,62,61,32,38,38,32,124,124,32] }:ByteArray).extract 27 29=bs [33,61]:=by rfl
 have hy:∀ h:1<(bs [33,61]).size,(bs [33,61])[1]'h=61:=fun _=>rfl
 have hz:(bs [33,61]).size=2:=rfl
 have hw:(bs [33,61]).extract 0 1=bs [33]:=by rfl
 go_enter Tryz.func107,Tryz.ntmps107
 go_wp2_with fail
 refine region_grow Grw (spcAt 0 [.is (.string (bs [33,61])),.is (.agg #[.int .i64 5,.int .i64 3,.int .i64 4,.int .i64 9,.int .i64 9,.int .i64 10,.int .i64 8,.int .i64 8,.int .i64 6,.int .i64 6,.int .i64 7,.int .i64 7,.int .i64 7,.int .i64 7,.int .i64 2,.int .i64 1]),.is (.int .i64 20),.is (.int .i64 9),.is (.int .i64 6),.is (.string (bs [33,61])),.is (.int .i64 6)])
  (by kernel_rfl) rfl (by kernel_rfl) (by kernel_rfl) (grw_drawn _) grw_trans (spcAt_grw 0 _) ?hops ?hfin
 case hops=>
  refine ⟨?o0,?o1,?o2,?o3,?o4,?o5,?o6,trivial⟩
  all_goals (intro ev W' hG hr hD;have hc:=hr.const;have hf:=hr.func)
  case o0=>
   have e5:ev (.tmp 5)=.string (bs [33,61]):=hr.tmp 5 (by kernel_rfl)
   exact ok_val (by simp [execOp,go_sem,e5]) ⟨Below.refl _ _,rfl⟩
  case o1=>exact ok_val (by simp [execOp,go_sem,hc];try rfl) ⟨Below.refl _ _,rfl⟩
  case o2=>
   have e0:ev (.tmp 0)=.int .i64 20:=hr.tmp 0 (by kernel_rfl)
   exact ok_val (by simp [execOp,go_sem,e0]) ⟨Below.refl _ _,rfl⟩
  case o3=>
   have e20:ev (.tmp 20)=_:=hD 2 20 (by kernel_rfl)
   exact ok_val (by simp [execOp,go_sem,e20,hc];try rfl) ⟨Below.refl _ _,rfl⟩
  case o4=>
   have e19:ev (.tmp 19)=_:=hD 1 19 (by kernel_rfl)
   have e21:ev (.tmp 21)=_:=hD 3 21 (by kernel_rfl)
   exact ok_val (by simp [execOp,go_sem,e19,e21,hc];try rfl) ⟨Below.refl _ _,rfl⟩
  case o5=>
   have e18:ev (.tmp 18)=_:=hD 0 18 (by kernel_rfl)
   exact ok_val (by simp [execOp,go_sem,e18]) ⟨Below.refl _ _,rfl⟩
  case o6=>
   have e22:ev (.tmp 22)=_:=hD 4 22 (by kernel_rfl)
   exact ok_val (by simp [execOp,go_sem,e22]) ⟨Below.refl _ _,rfl⟩
 case hfin=>
  intro x W' hG hx'
  have h5:x 5=.string (bs [33,61]):=hx' 5 (by simp)
  have h6:x 6=.int .i64 6:=hx' 6 (by simp)
  simp only [putAll,Act.put,List.setIfInBounds_toArray,List.set_cons_zero,List.set_cons_succ,h5,h6]
  go_wp2_with fail
  go_ret2
  exact ⟨rfl,hG⟩
theorem two_21 (W:World):Calls Tryz.prog 107 #[.int .i64 21] W fun e W'=>e=.returned (.tuple #[.string (bs (twoS 21)),.int .i64 (twoR 21)])∧Below W.heap.size W W':=by
 have hx:({ data:=#[38,32,32,124,32,32,94,32,32,43,32,32,45,32,32,42,32,32,60,60,32,62,62,32,61,61,32,33,61,32,60,32,32,60,61,32,62,32,32,62,61,32,38,38,32,124,124,32] }:ByteArray).extract 30 32=bs [60,32]:=by rfl
 have hy:∀ h:1<(bs [60,32]).size,(bs [60,32])[1]'h=32:=fun _=>rfl
 have hz:(bs [60,32]).size=2:=rfl
 have hw:(bs [60,32]).extract 0 1=bs [60]:=by rfl
 go_enter Tryz.func107,Tryz.ntmps107
 go_wp2_with fail
 refine region_grow Grw (spcAt 0 [.is (.string (bs [60])),.is (.agg #[.int .i64 5,.int .i64 3,.int .i64 4,.int .i64 9,.int .i64 9,.int .i64 10,.int .i64 8,.int .i64 8,.int .i64 6,.int .i64 6,.int .i64 7,.int .i64 7,.int .i64 7,.int .i64 7,.int .i64 2,.int .i64 1]),.is (.int .i64 21),.is (.int .i64 10),.is (.int .i64 7),.is (.string (bs [60])),.is (.int .i64 7)])
  (by kernel_rfl) rfl (by kernel_rfl) (by kernel_rfl) (grw_drawn _) grw_trans (spcAt_grw 0 _) ?hops ?hfin
 case hops=>
  refine ⟨?o0,?o1,?o2,?o3,?o4,?o5,?o6,trivial⟩
  all_goals (intro ev W' hG hr hD;have hc:=hr.const;have hf:=hr.func)
  case o0=>
   have e5:ev (.tmp 5)=.string (bs [60]):=hr.tmp 5 (by kernel_rfl)
   exact ok_val (by simp [execOp,go_sem,e5]) ⟨Below.refl _ _,rfl⟩
  case o1=>exact ok_val (by simp [execOp,go_sem,hc];try rfl) ⟨Below.refl _ _,rfl⟩
  case o2=>
   have e0:ev (.tmp 0)=.int .i64 21:=hr.tmp 0 (by kernel_rfl)
   exact ok_val (by simp [execOp,go_sem,e0]) ⟨Below.refl _ _,rfl⟩
  case o3=>
   have e20:ev (.tmp 20)=_:=hD 2 20 (by kernel_rfl)
   exact ok_val (by simp [execOp,go_sem,e20,hc];try rfl) ⟨Below.refl _ _,rfl⟩
  case o4=>
   have e19:ev (.tmp 19)=_:=hD 1 19 (by kernel_rfl)
   have e21:ev (.tmp 21)=_:=hD 3 21 (by kernel_rfl)
   exact ok_val (by simp [execOp,go_sem,e19,e21,hc];try rfl) ⟨Below.refl _ _,rfl⟩
  case o5=>
   have e18:ev (.tmp 18)=_:=hD 0 18 (by kernel_rfl)
   exact ok_val (by simp [execOp,go_sem,e18]) ⟨Below.refl _ _,rfl⟩
  case o6=>
   have e22:ev (.tmp 22)=_:=hD 4 22 (by kernel_rfl)
   exact ok_val (by simp [execOp,go_sem,e22]) ⟨Below.refl _ _,rfl⟩
 case hfin=>
  intro x W' hG hx'
  have h5:x 5=.string (bs [60]):=hx' 5 (by simp)
  have h6:x 6=.int .i64 7:=hx' 6 (by simp)
  simp only [putAll,Act.put,List.setIfInBounds_toArray,List.set_cons_zero,List.set_cons_succ,h5,h6]
  go_wp2_with fail
  go_ret2
  exact ⟨rfl,hG⟩
theorem two_22 (W:World):Calls Tryz.prog 107 #[.int .i64 22] W fun e W'=>e=.returned (.tuple #[.string (bs (twoS 22)),.int .i64 (twoR 22)])∧Below W.heap.size W W':=by
 have hx:({ data:=#[38,32,32,124,32,32,94,32,32,43,32,32,45,32,32,42,32,32,60,60,32,62,62,32,61,61,32,33,61,32,60,32,32,60,61,32,62,32,32,62,61,32,38,38,32,124,124,32] }:ByteArray).extract 33 35=bs [60,61]:=by rfl
 have hy:∀ h:1<(bs [60,61]).size,(bs [60,61])[1]'h=61:=fun _=>rfl
 have hz:(bs [60,61]).size=2:=rfl
 have hw:(bs [60,61]).extract 0 1=bs [60]:=by rfl
 go_enter Tryz.func107,Tryz.ntmps107
 go_wp2_with fail
 refine region_grow Grw (spcAt 0 [.is (.string (bs [60,61])),.is (.agg #[.int .i64 5,.int .i64 3,.int .i64 4,.int .i64 9,.int .i64 9,.int .i64 10,.int .i64 8,.int .i64 8,.int .i64 6,.int .i64 6,.int .i64 7,.int .i64 7,.int .i64 7,.int .i64 7,.int .i64 2,.int .i64 1]),.is (.int .i64 22),.is (.int .i64 11),.is (.int .i64 7),.is (.string (bs [60,61])),.is (.int .i64 7)])
  (by kernel_rfl) rfl (by kernel_rfl) (by kernel_rfl) (grw_drawn _) grw_trans (spcAt_grw 0 _) ?hops ?hfin
 case hops=>
  refine ⟨?o0,?o1,?o2,?o3,?o4,?o5,?o6,trivial⟩
  all_goals (intro ev W' hG hr hD;have hc:=hr.const;have hf:=hr.func)
  case o0=>
   have e5:ev (.tmp 5)=.string (bs [60,61]):=hr.tmp 5 (by kernel_rfl)
   exact ok_val (by simp [execOp,go_sem,e5]) ⟨Below.refl _ _,rfl⟩
  case o1=>exact ok_val (by simp [execOp,go_sem,hc];try rfl) ⟨Below.refl _ _,rfl⟩
  case o2=>
   have e0:ev (.tmp 0)=.int .i64 22:=hr.tmp 0 (by kernel_rfl)
   exact ok_val (by simp [execOp,go_sem,e0]) ⟨Below.refl _ _,rfl⟩
  case o3=>
   have e20:ev (.tmp 20)=_:=hD 2 20 (by kernel_rfl)
   exact ok_val (by simp [execOp,go_sem,e20,hc];try rfl) ⟨Below.refl _ _,rfl⟩
  case o4=>
   have e19:ev (.tmp 19)=_:=hD 1 19 (by kernel_rfl)
   have e21:ev (.tmp 21)=_:=hD 3 21 (by kernel_rfl)
   exact ok_val (by simp [execOp,go_sem,e19,e21,hc];try rfl) ⟨Below.refl _ _,rfl⟩
  case o5=>
   have e18:ev (.tmp 18)=_:=hD 0 18 (by kernel_rfl)
   exact ok_val (by simp [execOp,go_sem,e18]) ⟨Below.refl _ _,rfl⟩
  case o6=>
   have e22:ev (.tmp 22)=_:=hD 4 22 (by kernel_rfl)
   exact ok_val (by simp [execOp,go_sem,e22]) ⟨Below.refl _ _,rfl⟩
 case hfin=>
  intro x W' hG hx'
  have h5:x 5=.string (bs [60,61]):=hx' 5 (by simp)
  have h6:x 6=.int .i64 7:=hx' 6 (by simp)
  simp only [putAll,Act.put,List.setIfInBounds_toArray,List.set_cons_zero,List.set_cons_succ,h5,h6]
  go_wp2_with fail
  go_ret2
  exact ⟨rfl,hG⟩
theorem two_23 (W:World):Calls Tryz.prog 107 #[.int .i64 23] W fun e W'=>e=.returned (.tuple #[.string (bs (twoS 23)),.int .i64 (twoR 23)])∧Below W.heap.size W W':=by
 have hx:({ data:=#[38,32,32,124,32,32,94,32,32,43,32,32,45,32,32,42,32,32,60,60,32,62,62,32,61,61,32,33,61,32,60,32,32,60,61,32,62,32,32,62,61,32,38,38,32,124,124,32] }:ByteArray).extract 36 38=bs [62,32]:=by rfl
 have hy:∀ h:1<(bs [62,32]).size,(bs [62,32])[1]'h=32:=fun _=>rfl
 have hz:(bs [62,32]).size=2:=rfl
 have hw:(bs [62,32]).extract 0 1=bs [62]:=by rfl
 go_enter Tryz.func107,Tryz.ntmps107
 go_wp2_with fail
 refine region_grow Grw (spcAt 0 [.is (.string (bs [62])),.is (.agg #[.int .i64 5,.int .i64 3,.int .i64 4,.int .i64 9,.int .i64 9,.int .i64 10,.int .i64 8,.int .i64 8,.int .i64 6,.int .i64 6,.int .i64 7,.int .i64 7,.int .i64 7,.int .i64 7,.int .i64 2,.int .i64 1]),.is (.int .i64 23),.is (.int .i64 12),.is (.int .i64 7),.is (.string (bs [62])),.is (.int .i64 7)])
  (by kernel_rfl) rfl (by kernel_rfl) (by kernel_rfl) (grw_drawn _) grw_trans (spcAt_grw 0 _) ?hops ?hfin
 case hops=>
  refine ⟨?o0,?o1,?o2,?o3,?o4,?o5,?o6,trivial⟩
  all_goals (intro ev W' hG hr hD;have hc:=hr.const;have hf:=hr.func)
  case o0=>
   have e5:ev (.tmp 5)=.string (bs [62]):=hr.tmp 5 (by kernel_rfl)
   exact ok_val (by simp [execOp,go_sem,e5]) ⟨Below.refl _ _,rfl⟩
  case o1=>exact ok_val (by simp [execOp,go_sem,hc];try rfl) ⟨Below.refl _ _,rfl⟩
  case o2=>
   have e0:ev (.tmp 0)=.int .i64 23:=hr.tmp 0 (by kernel_rfl)
   exact ok_val (by simp [execOp,go_sem,e0]) ⟨Below.refl _ _,rfl⟩
  case o3=>
   have e20:ev (.tmp 20)=_:=hD 2 20 (by kernel_rfl)
   exact ok_val (by simp [execOp,go_sem,e20,hc];try rfl) ⟨Below.refl _ _,rfl⟩
  case o4=>
   have e19:ev (.tmp 19)=_:=hD 1 19 (by kernel_rfl)
   have e21:ev (.tmp 21)=_:=hD 3 21 (by kernel_rfl)
   exact ok_val (by simp [execOp,go_sem,e19,e21,hc];try rfl) ⟨Below.refl _ _,rfl⟩
  case o5=>
   have e18:ev (.tmp 18)=_:=hD 0 18 (by kernel_rfl)
   exact ok_val (by simp [execOp,go_sem,e18]) ⟨Below.refl _ _,rfl⟩
  case o6=>
   have e22:ev (.tmp 22)=_:=hD 4 22 (by kernel_rfl)
   exact ok_val (by simp [execOp,go_sem,e22]) ⟨Below.refl _ _,rfl⟩
 case hfin=>
  intro x W' hG hx'
  have h5:x 5=.string (bs [62]):=hx' 5 (by simp)
  have h6:x 6=.int .i64 7:=hx' 6 (by simp)
  simp only [putAll,Act.put,List.setIfInBounds_toArray,List.set_cons_zero,List.set_cons_succ,h5,h6]
  go_wp2_with fail
  go_ret2
  exact ⟨rfl,hG⟩
theorem two_24 (W:World):Calls Tryz.prog 107 #[.int .i64 24] W fun e W'=>e=.returned (.tuple #[.string (bs (twoS 24)),.int .i64 (twoR 24)])∧Below W.heap.size W W':=by
 have hx:({ data:=#[38,32,32,124,32,32,94,32,32,43,32,32,45,32,32,42,32,32,60,60,32,62,62,32,61,61,32,33,61,32,60,32,32,60,61,32,62,32,32,62,61,32,38,38,32,124,124,32] }:ByteArray).extract 39 41=bs [62,61]:=by rfl
 have hy:∀ h:1<(bs [62,61]).size,(bs [62,61])[1]'h=61:=fun _=>rfl
 have hz:(bs [62,61]).size=2:=rfl
 have hw:(bs [62,61]).extract 0 1=bs [62]:=by rfl
 go_enter Tryz.func107,Tryz.ntmps107
 go_wp2_with fail
 refine region_grow Grw (spcAt 0 [.is (.string (bs [62,61])),.is (.agg #[.int .i64 5,.int .i64 3,.int .i64 4,.int .i64 9,.int .i64 9,.int .i64 10,.int .i64 8,.int .i64 8,.int .i64 6,.int .i64 6,.int .i64 7,.int .i64 7,.int .i64 7,.int .i64 7,.int .i64 2,.int .i64 1]),.is (.int .i64 24),.is (.int .i64 13),.is (.int .i64 7),.is (.string (bs [62,61])),.is (.int .i64 7)])
  (by kernel_rfl) rfl (by kernel_rfl) (by kernel_rfl) (grw_drawn _) grw_trans (spcAt_grw 0 _) ?hops ?hfin
 case hops=>
  refine ⟨?o0,?o1,?o2,?o3,?o4,?o5,?o6,trivial⟩
  all_goals (intro ev W' hG hr hD;have hc:=hr.const;have hf:=hr.func)
  case o0=>
   have e5:ev (.tmp 5)=.string (bs [62,61]):=hr.tmp 5 (by kernel_rfl)
   exact ok_val (by simp [execOp,go_sem,e5]) ⟨Below.refl _ _,rfl⟩
  case o1=>exact ok_val (by simp [execOp,go_sem,hc];try rfl) ⟨Below.refl _ _,rfl⟩
  case o2=>
   have e0:ev (.tmp 0)=.int .i64 24:=hr.tmp 0 (by kernel_rfl)
   exact ok_val (by simp [execOp,go_sem,e0]) ⟨Below.refl _ _,rfl⟩
  case o3=>
   have e20:ev (.tmp 20)=_:=hD 2 20 (by kernel_rfl)
   exact ok_val (by simp [execOp,go_sem,e20,hc];try rfl) ⟨Below.refl _ _,rfl⟩
  case o4=>
   have e19:ev (.tmp 19)=_:=hD 1 19 (by kernel_rfl)
   have e21:ev (.tmp 21)=_:=hD 3 21 (by kernel_rfl)
   exact ok_val (by simp [execOp,go_sem,e19,e21,hc];try rfl) ⟨Below.refl _ _,rfl⟩
  case o5=>
   have e18:ev (.tmp 18)=_:=hD 0 18 (by kernel_rfl)
   exact ok_val (by simp [execOp,go_sem,e18]) ⟨Below.refl _ _,rfl⟩
  case o6=>
   have e22:ev (.tmp 22)=_:=hD 4 22 (by kernel_rfl)
   exact ok_val (by simp [execOp,go_sem,e22]) ⟨Below.refl _ _,rfl⟩
 case hfin=>
  intro x W' hG hx'
  have h5:x 5=.string (bs [62,61]):=hx' 5 (by simp)
  have h6:x 6=.int .i64 7:=hx' 6 (by simp)
  simp only [putAll,Act.put,List.setIfInBounds_toArray,List.set_cons_zero,List.set_cons_succ,h5,h6]
  go_wp2_with fail
  go_ret2
  exact ⟨rfl,hG⟩
theorem two_25 (W:World):Calls Tryz.prog 107 #[.int .i64 25] W fun e W'=>e=.returned (.tuple #[.string (bs (twoS 25)),.int .i64 (twoR 25)])∧Below W.heap.size W W':=by
 have hx:({ data:=#[38,32,32,124,32,32,94,32,32,43,32,32,45,32,32,42,32,32,60,60,32,62,62,32,61,61,32,33,61,32,60,32,32,60,61,32,62,32,32,62,61,32,38,38,32,124,124,32] }:ByteArray).extract 42 44=bs [38,38]:=by rfl
 have hy:∀ h:1<(bs [38,38]).size,(bs [38,38])[1]'h=38:=fun _=>rfl
 have hz:(bs [38,38]).size=2:=rfl
 have hw:(bs [38,38]).extract 0 1=bs [38]:=by rfl
 go_enter Tryz.func107,Tryz.ntmps107
 go_wp2_with fail
 refine region_grow Grw (spcAt 0 [.is (.string (bs [38,38])),.is (.agg #[.int .i64 5,.int .i64 3,.int .i64 4,.int .i64 9,.int .i64 9,.int .i64 10,.int .i64 8,.int .i64 8,.int .i64 6,.int .i64 6,.int .i64 7,.int .i64 7,.int .i64 7,.int .i64 7,.int .i64 2,.int .i64 1]),.is (.int .i64 25),.is (.int .i64 14),.is (.int .i64 2),.is (.string (bs [38,38])),.is (.int .i64 2)])
  (by kernel_rfl) rfl (by kernel_rfl) (by kernel_rfl) (grw_drawn _) grw_trans (spcAt_grw 0 _) ?hops ?hfin
 case hops=>
  refine ⟨?o0,?o1,?o2,?o3,?o4,?o5,?o6,trivial⟩
  all_goals (intro ev W' hG hr hD;have hc:=hr.const;have hf:=hr.func)
  case o0=>
   have e5:ev (.tmp 5)=.string (bs [38,38]):=hr.tmp 5 (by kernel_rfl)
   exact ok_val (by simp [execOp,go_sem,e5]) ⟨Below.refl _ _,rfl⟩
  case o1=>exact ok_val (by simp [execOp,go_sem,hc];try rfl) ⟨Below.refl _ _,rfl⟩
  case o2=>
   have e0:ev (.tmp 0)=.int .i64 25:=hr.tmp 0 (by kernel_rfl)
   exact ok_val (by simp [execOp,go_sem,e0]) ⟨Below.refl _ _,rfl⟩
  case o3=>
   have e20:ev (.tmp 20)=_:=hD 2 20 (by kernel_rfl)
   exact ok_val (by simp [execOp,go_sem,e20,hc];try rfl) ⟨Below.refl _ _,rfl⟩
  case o4=>
   have e19:ev (.tmp 19)=_:=hD 1 19 (by kernel_rfl)
   have e21:ev (.tmp 21)=_:=hD 3 21 (by kernel_rfl)
   exact ok_val (by simp [execOp,go_sem,e19,e21,hc];try rfl) ⟨Below.refl _ _,rfl⟩
  case o5=>
   have e18:ev (.tmp 18)=_:=hD 0 18 (by kernel_rfl)
   exact ok_val (by simp [execOp,go_sem,e18]) ⟨Below.refl _ _,rfl⟩
  case o6=>
   have e22:ev (.tmp 22)=_:=hD 4 22 (by kernel_rfl)
   exact ok_val (by simp [execOp,go_sem,e22]) ⟨Below.refl _ _,rfl⟩
 case hfin=>
  intro x W' hG hx'
  have h5:x 5=.string (bs [38,38]):=hx' 5 (by simp)
  have h6:x 6=.int .i64 2:=hx' 6 (by simp)
  simp only [putAll,Act.put,List.setIfInBounds_toArray,List.set_cons_zero,List.set_cons_succ,h5,h6]
  go_wp2_with fail
  go_ret2
  exact ⟨rfl,hG⟩
theorem two_26 (W:World):Calls Tryz.prog 107 #[.int .i64 26] W fun e W'=>e=.returned (.tuple #[.string (bs (twoS 26)),.int .i64 (twoR 26)])∧Below W.heap.size W W':=by
 have hx:({ data:=#[38,32,32,124,32,32,94,32,32,43,32,32,45,32,32,42,32,32,60,60,32,62,62,32,61,61,32,33,61,32,60,32,32,60,61,32,62,32,32,62,61,32,38,38,32,124,124,32] }:ByteArray).extract 45 47=bs [124,124]:=by rfl
 have hy:∀ h:1<(bs [124,124]).size,(bs [124,124])[1]'h=124:=fun _=>rfl
 have hz:(bs [124,124]).size=2:=rfl
 have hw:(bs [124,124]).extract 0 1=bs [124]:=by rfl
 go_enter Tryz.func107,Tryz.ntmps107
 go_wp2_with fail
 refine region_grow Grw (spcAt 0 [.is (.string (bs [124,124])),.is (.agg #[.int .i64 5,.int .i64 3,.int .i64 4,.int .i64 9,.int .i64 9,.int .i64 10,.int .i64 8,.int .i64 8,.int .i64 6,.int .i64 6,.int .i64 7,.int .i64 7,.int .i64 7,.int .i64 7,.int .i64 2,.int .i64 1]),.is (.int .i64 26),.is (.int .i64 15),.is (.int .i64 1),.is (.string (bs [124,124])),.is (.int .i64 1)])
  (by kernel_rfl) rfl (by kernel_rfl) (by kernel_rfl) (grw_drawn _) grw_trans (spcAt_grw 0 _) ?hops ?hfin
 case hops=>
  refine ⟨?o0,?o1,?o2,?o3,?o4,?o5,?o6,trivial⟩
  all_goals (intro ev W' hG hr hD;have hc:=hr.const;have hf:=hr.func)
  case o0=>
   have e5:ev (.tmp 5)=.string (bs [124,124]):=hr.tmp 5 (by kernel_rfl)
   exact ok_val (by simp [execOp,go_sem,e5]) ⟨Below.refl _ _,rfl⟩
  case o1=>exact ok_val (by simp [execOp,go_sem,hc];try rfl) ⟨Below.refl _ _,rfl⟩
  case o2=>
   have e0:ev (.tmp 0)=.int .i64 26:=hr.tmp 0 (by kernel_rfl)
   exact ok_val (by simp [execOp,go_sem,e0]) ⟨Below.refl _ _,rfl⟩
  case o3=>
   have e20:ev (.tmp 20)=_:=hD 2 20 (by kernel_rfl)
   exact ok_val (by simp [execOp,go_sem,e20,hc];try rfl) ⟨Below.refl _ _,rfl⟩
  case o4=>
   have e19:ev (.tmp 19)=_:=hD 1 19 (by kernel_rfl)
   have e21:ev (.tmp 21)=_:=hD 3 21 (by kernel_rfl)
   exact ok_val (by simp [execOp,go_sem,e19,e21,hc];try rfl) ⟨Below.refl _ _,rfl⟩
  case o5=>
   have e18:ev (.tmp 18)=_:=hD 0 18 (by kernel_rfl)
   exact ok_val (by simp [execOp,go_sem,e18]) ⟨Below.refl _ _,rfl⟩
  case o6=>
   have e22:ev (.tmp 22)=_:=hD 4 22 (by kernel_rfl)
   exact ok_val (by simp [execOp,go_sem,e22]) ⟨Below.refl _ _,rfl⟩
 case hfin=>
  intro x W' hG hx'
  have h5:x 5=.string (bs [124,124]):=hx' 5 (by simp)
  have h6:x 6=.int .i64 1:=hx' 6 (by simp)
  simp only [putAll,Act.put,List.setIfInBounds_toArray,List.set_cons_zero,List.set_cons_succ,h5,h6]
  go_wp2_with fail
  go_ret2
  exact ⟨rfl,hG⟩
theorem two_any (n:Int) (h1:11≤n) (h2:n≤26) (W:World):Calls Tryz.prog 107 #[.int .i64 n] W fun e W'=>e=.returned (.tuple #[.string (bs (twoS n)),.int .i64 (twoR n)])∧Below W.heap.size W W':=by
 have:n=11∨n=12∨n=13∨n=14∨n=15∨n=16∨n=17∨n=18∨n=19∨n=20∨n=21∨n=22∨n=23∨n=24∨n=25∨n=26:=by omega
 rcases this with h | h | h | h | h | h | h | h | h | h | h | h | h | h | h | h <;> subst h
 ·exact two_11 W
 ·exact two_12 W
 ·exact two_13 W
 ·exact two_14 W
 ·exact two_15 W
 ·exact two_16 W
 ·exact two_17 W
 ·exact two_18 W
 ·exact two_19 W
 ·exact two_20 W
 ·exact two_21 W
 ·exact two_22 W
 ·exact two_23 W
 ·exact two_24 W
 ·exact two_25 W
 ·exact two_26 W
theorem rank_any (x:X) (hx:okX x=true) (W:World) (cs:List Value) (hR:XR W x cs):Calls Tryz.prog 173 #[.agg cs.toArray] W fun e W'=>e=.returned (.int .i64 (rankX x))∧Below W.heap.size W W':=by
 obtain ⟨hv,ls,rfl,hL⟩:=XR_iff.1 hR
 obtain ⟨p,cap,rfl,_⟩:=hL
 clear hR
 unfold rankX
 by_cases h7:x.op=7
 ·rw [if_pos h7]
  have e7:(x.op == 7)=true:=by simpa using h7
  go_enter Tryz.func173,Tryz.ntmps173
  go_wp2
  go_ret
  exact ⟨rfl,(Below.refl _ _).alloc (Nat.le_refl _) _⟩
 ·rw [if_neg h7]
  have e7:(x.op == 7)=false:=by simpa using h7
  by_cases h6:x.op=6
  ·rw [if_pos h6]
   obtain ⟨n,a,b,rfl,h1,h2,_,_⟩:=bin_form hx h6
   have HN:=hid (two_any n h1 h2)
   clear h1 h2
   simp only [X.op,X.n,X.name,X.w,X.v,X.l] at *
   go_enter Tryz.func173,Tryz.ntmps173
   go_wp2_with (go_at_call 107;refine (HN.out _).mono ?_;rintro e W2 ⟨rfl,h2⟩;have H2:=hid h2;clear h2)
   go_ret
   exact ⟨rfl,((Below.refl _ _).alloc (Nat.le_refl _) _).trans (H2.out.mono (by simp))⟩
  ·rw [if_neg h6]
   have e6:(x.op == 6)=false:=by simpa using h6
   go_enter Tryz.func173,Tryz.ntmps173
   go_wp2
   go_ret
   exact ⟨rfl,(Below.refl _ _).alloc (Nat.le_refl _) _⟩
end Go.Proofs.YtlcfpdmicpggbaaGreatDoor
