/- Texts of the seat, merged. -/
import Derived.Test.YtlcfpdmicpggbaaGreatDoorD5
import Derived.Test.YtlcfpdmicpggbaaGreatDoorD8
set_option linter.unusedVariables false
set_option linter.unusedSimpArgs false
set_option maxRecDepth 100000
set_option maxHeartbeats 16000000
namespace Go.Proofs.YtlcfpdmicpggbaaGreatDoor
open Go.Lib (hid)
open Go.RowKit Go.Proofs.Spl Go.Proofs.Scn Go.Shelf
def mesSp (lo q:Nat) (l:List Value) (i:Nat) (W:World) (v:Value):Prop:=if i=q then (∃ b,v=.pointer (some ⟨b,0,none⟩)∧lo≤b∧MBox W b 0 0) else v=l.getD i undef
theorem mesSp_grw (lo q:Nat) (l:List Value) (i:Nat) (W W':World) (v:Value) (hg:Grw W W') (h:mesSp lo q l i W v):mesSp lo q l i W' v:=by
 unfold mesSp at *
 by_cases hq:i=q
 ·rw [if_pos hq] at h ⊢
  obtain ⟨b,h1,h2,h3⟩:=h
  exact ⟨b,h1,h2,h3.later hg⟩
 ·rw [if_neg hq] at h ⊢
  exact h
theorem maxN_le_sumN {α:Type} {f g:α→Nat}:∀ {l:List α},(∀ x ∈ l,f x≤g x)→maxN f l≤sumN g l
 | [],_=>Nat.zero_le _
 | a :: l,h=>by
  have h1:=h a (by simp)
  have h2:=maxN_le_sumN (l:=l) (fun x hx=>h x (by simp [hx]))
  have e1:maxN f (a :: l)=max (f a) (maxN f l):=rfl
  have e2:sumN g (a :: l)=g a+sumN g l:=rfl
  omega
theorem deepX_le:∀ x:X,deepX x≤sizeX x:=by
 refine X.ind ?_
 intro x ih
 rw [deepX_eq,sizeX_eq,deepXs_max,sizeXs_sum]
 exact Nat.add_le_add_right (maxN_le_sumN ih) 1
theorem deepS_le:∀ x:S,deepS x≤sizeS x:=by
 refine S.ind ?_
 intro x ih
 have h:=maxN_le_sumN ih
 have h2:=maxN_le_sumN (l:=x.x) (fun y _=>deepX_le y)
 rw [deepS_eq,sizeS_eq,deepXs_max,sizeXs_sum,deepSs_max,sizeSs_sum]
 omega
theorem deepB_le (b:Bd):deepB b≤sizeB b:=by unfold deepB sizeB;have:=deepX_le b.x;omega
theorem deepP_le (b:Pt):deepP b≤sizeP b:=by unfold deepP sizeP;have:=deepX_le b.w;omega
theorem sizeI_eq2 (t:It):sizeI t=sumN sizeX t.x+sumN sizeS t.s+sumN sizeI t.l+sumN sizeI t.e+sumN sizeB t.ps+sumN sizeB t.bs+1:=by
 cases t;rw [sizeI,sizeXs_sum,sizeSs_sum,sizeIs_sum,sizeIs_sum];rfl
theorem deepI_eq2 (t:It):deepI t=max (max (max (max (max (maxN deepX t.x) (maxN deepS t.s)) (maxN deepI t.l)) (maxN deepI t.e)) (maxN deepB t.ps)) (maxN deepB t.bs)+1:=by
 cases t;rw [deepI,deepXs_max,deepSs_max,deepIs_max,deepIs_max];rfl
theorem deepI_le:∀ x:It,deepI x≤sizeI x:=by
 refine It.ind ?_
 intro x ihl ihe
 have h1:=maxN_le_sumN ihl
 have h2:=maxN_le_sumN ihe
 have h3:=maxN_le_sumN (l:=x.x) (fun y _=>deepX_le y)
 have h4:=maxN_le_sumN (l:=x.s) (fun y _=>deepS_le y)
 have h5:=maxN_le_sumN (l:=x.ps) (fun y _=>deepB_le y)
 have h6:=maxN_le_sumN (l:=x.bs) (fun y _=>deepB_le y)
 rw [deepI_eq2,sizeI_eq2]
 omega
theorem deepM_le (m:Md):deepM m≤sizeM m:=by
 have h5:=maxN_le_sumN (l:=m.ps) (fun y _=>deepB_le y)
 have h6:=maxN_le_sumN (l:=m.pts) (fun y _=>deepP_le y)
 have h7:=maxN_le_sumN (l:=m.l) (fun y _=>deepI_le y)
 unfold deepM sizeM
 rw [deepIs_max,sizeIs_sum]
 omega
theorem mbox2 (W:World) (A:Obj):MBox ((W.alloc A).alloc (.cells #[.int .i64 0,.int .i64 0] 98)) (W.heap.size+1) 0 0:=by
 have:=World.alloc_heap_new (W.alloc A) (.cells #[.int .i64 0,.int .i64 0] 98)
 rwa [World.size_alloc] at this
theorem store2 {W:World} {B s d:Nat} (hM:MBox W B s d) (s' d':Nat):W.cell? ⟨B,0,none⟩=some (.int .i64 s)∧W.cell? ⟨B,1,none⟩=some (.int .i64 d)∧W.frozen? ⟨B,0,none⟩=false∧W.frozen? ⟨B,1,none⟩=false ∧
  (W.setCell ⟨B,0,none⟩ (.int .i64 s')).cell? ⟨B,1,none⟩=some (.int .i64 d)∧(W.setCell ⟨B,0,none⟩ (.int .i64 s')).frozen? ⟨B,1,none⟩=false:=by
 obtain ⟨m0,m1,f0,f1⟩:=hM.cells
 exact ⟨m0,m1,f0,f1,(cell_of_row _ _ 1 _ _ _ (setCell_row hM)).trans rfl,by rw [World.frozen?_setCell];exact f1⟩
theorem ofX_walk (op:Int) (name:Ln) (n w:Int) (v:Nat) (l:List X) (p:Option Addr) (c:Nat) (W:World) (hL:XsR W (.slice p l.length c) l) (hs:sumN sizeX l≤1000000) (hE:∀ y ∈ l,MeasX y) :
  Calls Tryz.prog 66 #[.agg #[.int .i64 op,.string (bs name),.int .i64 n,.int .i64 w,.int .u64 v,.slice p l.length c]] W fun e W'=>e=.returned (.agg #[.int .i64 ((sumN sizeX l+1:Nat):Int),.int .i64 ((maxN deepX l+1:Nat):Int)])∧Below W.heap.size W W':=by
 have B2:=hid (((Below.refl W.heap.size W).alloc (Nat.le_refl _) (.cells #[.int .i64 op,.string (bs name),.int .i64 n,.int .i64 w,.int .u64 v,.slice p l.length c] 28)).alloc (by simp) (.cells #[.int .i64 0,.int .i64 0] 98))
 have HM:=hid (mbox2 W (.cells #[.int .i64 op,.string (bs name),.int .i64 n,.int .i64 w,.int .u64 v,.slice p l.length c] 28))
 have HL:=hid hL
 have HE:=hid hE
 have hd:=maxN_le_sumN (l:=l) (fun y _=>deepX_le y)
 clear hL hE
 go_enter Tryz.func66,Tryz.ntmps66
 go_wp2_with (first
  | (go_at_call 130;refine (sumX_any _ l (by omega) one_sizeX _ (XsR.later HL.out B2.out) HE.out).mono ?_;rintro e W3 ⟨rfl,hb⟩;have hm3:=HM.out.later hb;have B3:=hid (B2.out.trans (hb.mono B2.out.size));have HM3:=hid hm3;clear hb hm3)
  | (go_at_call 131;refine (within_any _ _ (by omega) (by omega) _).mono ?_;rintro e W4 ⟨rfl,hb⟩;have hm4:=HM3.out.later hb;have B4:=hid (B3.out.trans (hb.mono B3.out.size));have HM4:=hid hm4;obtain ⟨m0,m1,f0,f1,f2,f3⟩:=store2 hm4 (sumN sizeX l+1) (maxN deepX l+1);clear hb hm4))
 refine bodyPost_ret (v:=.agg #[.int .i64 ((sumN sizeX l+1:Nat):Int),.int .i64 ((maxN deepX l+1:Nat):Int)]) ?_ rfl ⟨rfl,?_⟩
 ·obtain ⟨r0,r1,_,_⟩:=(HM4.out.set (sumN sizeX l+1) (maxN deepX l+1)).1.cells
  push_cast at r0 r1
  simp [results,Tryz.results66,go_sem,r0,r1]
 ·exact B4.out.grown (HM4.out.set _ _).2 B4.out.size (fun k e=>by cases e;omega)
theorem measX_ok:∀ x:X,sizeX x≤1000000→MeasX x:=by
 refine X.ind ?_
 intro x ih hsz W cs hR
 obtain ⟨hv,ls,rfl,hL⟩:=XR_iff.1 hR
 have hL0:=hL
 obtain ⟨p,c,rfl,_⟩:=hL
 rw [sizeX_eq,sizeXs_sum] at hsz
 have:=ofX_walk x.op x.name x.n x.w x.v x.l p c W hL0 (by omega) (fun y hy=>ih y hy (by have:=sumN_mem sizeX hy;omega))
 rw [sizeX_eq,deepX_eq,sizeXs_sum,deepXs_max]
 exact this
theorem ofB_walk (name:Ln) (out:Bool) (b:X) (vl:Value) (W:World) (hX:XR W b [.int .i64 b.op,.string (bs b.name),.int .i64 b.n,.int .i64 b.w,.int .u64 b.v,vl]) (hs:sizeX b≤1000000) :
  Calls Tryz.prog 152 #[.agg #[.string (bs name),.int .i64 b.op,.string (bs b.name),.int .i64 b.n,.int .i64 b.w,.int .u64 b.v,vl]] W fun e W'=>e=.returned (.agg #[.int .i64 ((sizeX b+1:Nat):Int),.int .i64 ((deepX b+1:Nat):Int)])∧Below W.heap.size W W':=by
 have B2:=hid (((Below.refl W.heap.size W).alloc (Nat.le_refl _) (.cells #[.string (bs name),.int .i64 b.op,.string (bs b.name),.int .i64 b.n,.int .i64 b.w,.int .u64 b.v,vl] 159)).alloc (by simp) (.cells #[.int .i64 0,.int .i64 0] 98))
 have HM:=hid (mbox2 W (.cells #[.string (bs name),.int .i64 b.op,.string (bs b.name),.int .i64 b.n,.int .i64 b.w,.int .u64 b.v,vl] 159))
 have HX:=hid hX
 have hd:=deepX_le b
 have HME:=hid (measX_ok b hs)
 clear hX
 go_enter Tryz.func152,Tryz.ntmps152
 go_wp2_with (first
  | (go_at_call 66;refine (HME.out _ [.int .i64 b.op,.string (bs b.name),.int .i64 b.n,.int .i64 b.w,.int .u64 b.v,vl] (XR.later B2.out _ _ HX.out)).mono ?_;rintro e W3 ⟨rfl,hb⟩;have hm3:=HM.out.later hb;have B3:=hid (B2.out.trans (hb.mono B2.out.size));have HM3:=hid hm3;clear hb hm3)
  | (go_at_call 131;refine (within_any _ _ (by omega) (by omega) _).mono ?_;rintro e W4 ⟨rfl,hb⟩;have hm4:=HM3.out.later hb;have B4:=hid (B3.out.trans (hb.mono B3.out.size));have HM4:=hid hm4;obtain ⟨m0,m1,f0,f1,f2,f3⟩:=store2 hm4 (sizeX b+1) (deepX b+1);clear hb hm4))
 refine bodyPost_ret (v:=.agg #[.int .i64 ((sizeX b+1:Nat):Int),.int .i64 ((deepX b+1:Nat):Int)]) ?_ rfl ⟨rfl,?_⟩
 ·obtain ⟨r0,r1,_,_⟩:=(HM4.out.set (sizeX b+1) (deepX b+1)).1.cells
  push_cast at r0 r1
  simp [results,Tryz.results152,go_sem,r0,r1]
 ·exact B4.out.grown (HM4.out.set _ _).2 B4.out.size (fun k e=>by cases e;omega)
theorem ofP_walk (name:Ln) (out:Bool) (b:X) (vl:Value) (W:World) (hX:XR W b [.int .i64 b.op,.string (bs b.name),.int .i64 b.n,.int .i64 b.w,.int .u64 b.v,vl]) (hs:sizeX b≤1000000) :
  Calls Tryz.prog 154 #[.agg #[.string (bs name),.bool out,.int .i64 b.op,.string (bs b.name),.int .i64 b.n,.int .i64 b.w,.int .u64 b.v,vl]] W fun e W'=>e=.returned (.agg #[.int .i64 ((sizeX b+1:Nat):Int),.int .i64 ((deepX b+1:Nat):Int)])∧Below W.heap.size W W':=by
 have B2:=hid (((Below.refl W.heap.size W).alloc (Nat.le_refl _) (.cells #[.string (bs name),.bool out,.int .i64 b.op,.string (bs b.name),.int .i64 b.n,.int .i64 b.w,.int .u64 b.v,vl] 114)).alloc (by simp) (.cells #[.int .i64 0,.int .i64 0] 98))
 have HM:=hid (mbox2 W (.cells #[.string (bs name),.bool out,.int .i64 b.op,.string (bs b.name),.int .i64 b.n,.int .i64 b.w,.int .u64 b.v,vl] 114))
 have HX:=hid hX
 have hd:=deepX_le b
 have HME:=hid (measX_ok b hs)
 clear hX
 go_enter Tryz.func154,Tryz.ntmps154
 go_wp2_with (first
  | (go_at_call 66;refine (HME.out _ [.int .i64 b.op,.string (bs b.name),.int .i64 b.n,.int .i64 b.w,.int .u64 b.v,vl] (XR.later B2.out _ _ HX.out)).mono ?_;rintro e W3 ⟨rfl,hb⟩;have hm3:=HM.out.later hb;have B3:=hid (B2.out.trans (hb.mono B2.out.size));have HM3:=hid hm3;clear hb hm3)
  | (go_at_call 131;refine (within_any _ _ (by omega) (by omega) _).mono ?_;rintro e W4 ⟨rfl,hb⟩;have hm4:=HM3.out.later hb;have B4:=hid (B3.out.trans (hb.mono B3.out.size));have HM4:=hid hm4;obtain ⟨m0,m1,f0,f1,f2,f3⟩:=store2 hm4 (sizeX b+1) (deepX b+1);clear hb hm4))
 refine bodyPost_ret (v:=.agg #[.int .i64 ((sizeX b+1:Nat):Int),.int .i64 ((deepX b+1:Nat):Int)]) ?_ rfl ⟨rfl,?_⟩
 ·obtain ⟨r0,r1,_,_⟩:=(HM4.out.set (sizeX b+1) (deepX b+1)).1.cells
  push_cast at r0 r1
  simp [results,Tryz.results154,go_sem,r0,r1]
 ·exact B4.out.grown (HM4.out.set _ _).2 B4.out.size (fun k e=>by cases e;omega)
theorem measB_ok (b:Bd) (hsz:sizeB b≤1000000):MeasB b:=by
 intro W cs hR
 obtain ⟨xs,rfl,hX⟩:=hR
 have hX0:=hX
 obtain ⟨hv,ls,rfl,hL⟩:=XR_iff.1 hX
 exact ofB_walk b.name false b.x ls W hX0 (by unfold sizeB at hsz;omega)
theorem measP_ok (b:Pt) (hsz:sizeP b≤1000000):MeasP b:=by
 intro W cs hR
 obtain ⟨xs,rfl,hX⟩:=hR
 have hX0:=hX
 obtain ⟨hv,ls,rfl,hL⟩:=XR_iff.1 hX
 exact ofP_walk b.name b.out b.w ls W hX0 (by unfold sizeP at hsz;omega)
theorem ofS_walk (op:Int) (name:Ln) (x:List X) (l:List S) (px pl:Option Addr) (cx cl:Nat) (W:World) (hXs0:XsR W (.slice px x.length cx) x) (hLs0:SsR W (.slice pl l.length cl) l) (hs:sumN sizeX x+sumN sizeS l≤1000000) (hE:∀ y ∈ x,MeasX y) (hS:∀ y ∈ l,MeasS y) :
  Calls Tryz.prog 116 #[.agg #[.int .i64 op,.string (bs name),.slice px x.length cx,.slice pl l.length cl]] W fun e W'=>e=.returned (.agg #[.int .i64 ((sumN sizeX x+sumN sizeS l+1:Nat):Int),.int .i64 ((max (maxN deepX x) (maxN deepS l)+1:Nat):Int)])∧Below W.heap.size W W':=by
 have hd1:=maxN_le_sumN (l:=x) (fun y _=>deepX_le y)
 have hd2:=maxN_le_sumN (l:=l) (fun y _=>deepS_le y)
 go_enter Tryz.func116,Tryz.ntmps116
 go_wp2_with fail
 have B2:=((Below.refl W.heap.size W).alloc (Nat.le_refl _) (.cells #[.int .i64 op,.string (bs name),.slice px x.length cx,.slice pl l.length cl] 31)).alloc (by simp) (.cells #[.int .i64 0,.int .i64 0] 98)
 have hM2:=mbox2 W (.cells #[.int .i64 op,.string (bs name),.slice px x.length cx,.slice pl l.length cl] 31)
 have hbx:((W.alloc (.cells #[.int .i64 op,.string (bs name),.slice px x.length cx,.slice pl l.length cl] 31)).alloc (.cells #[.int .i64 0,.int .i64 0] 98)).heap[W.heap.size]?=some (.cells #[.int .i64 op,.string (bs name),.slice px x.length cx,.slice pl l.length cl] 31):=(Below.heap_alloc _ _ _ (by simp)).trans (World.alloc_heap_new W _)
 have hls:((W.alloc (.cells #[.int .i64 op,.string (bs name),.slice px x.length cx,.slice pl l.length cl] 31)).alloc (.cells #[.int .i64 0,.int .i64 0] 98)).heap.size=W.heap.size+2:=by simp
 generalize (W.alloc (.cells #[.int .i64 op,.string (bs name),.slice px x.length cx,.slice pl l.length cl] 31)).alloc (.cells #[.int .i64 0,.int .i64 0] 98)=W1 at *
 obtain ⟨lo,hloe⟩:∃ lo,lo=W1.heap.size:=⟨_,rfl⟩
 have hlo1:lo≤W1.heap.size:=Nat.le_of_eq hloe
 have hbl0:W.heap.size<W1.heap.size:=by omega
 have y0_2:=box_at hbx 2 (v:=.slice px x.length cx) rfl
 have y0_3:=box_at hbx 3 (v:=.slice pl l.length cl) rfl
 clear hbx
 have hXs:=XsR.later hXs0 B2
 have hLs:=SsR.later hLs0 B2
 refine Go.GrowQ.region_grow_last Grw 8 (mesSp lo 1000 [.pointer (some ⟨W.heap.size,2,none⟩),.slice px x.length cx,.agg #[.int .i64 ((sumN sizeX x:Nat):Int),.int .i64 ((maxN deepX x:Nat):Int)],.pointer (some ⟨W.heap.size,3,none⟩),.slice pl l.length cl,.agg #[.int .i64 ((sumN sizeS l:Nat):Int),.int .i64 ((maxN deepS l:Nat):Int)],.agg #[.int .i64 ((sumN sizeX x+sumN sizeS l:Nat):Int),.int .i64 ((max (maxN deepX x) (maxN deepS l):Nat):Int)],.agg #[.int .i64 ((sumN sizeX x+sumN sizeS l+1:Nat):Int),.int .i64 ((max (maxN deepX x) (maxN deepS l)+1:Nat):Int)]])
  (by kernel_rfl) rfl rfl rfl (by kernel_rfl) (by kernel_rfl) (by kernel_rfl) (grw_drawn _) grw_trans (mesSp_grw lo _ _) ?hops ?hfin
 case hops=>
  refine ⟨?o0,?o1,?o2,?o3,?o4,?o5,?o6,?o7,trivial⟩
  all_goals (intro ev W' hG hr hD;have hG:Grw W1 W':=hG;have hc:=hr.const;have hf:=hr.func)
  case o0=>
   have e1:ev (.tmp 1)=.pointer (some ⟨W.heap.size,0,none⟩):=hr.tmp 1 (by kernel_rfl)
   exact Go.GrowQ.ok_val (by simp [execOp,go_sem,e1]) ⟨Below.refl _ _,rfl⟩
  case o1=>
   have e3:ev (.tmp 3)=_:=hD 0 3 (by kernel_rfl)
   have m0:=(hG.cell (p:=⟨W.heap.size,2,none⟩) hbl0).trans y0_2
   exact Go.GrowQ.ok_val (by simp [execOp,go_sem,e3,m0]) ⟨Below.refl _ _,rfl⟩
  case o2=>
   have e4:ev (.tmp 4)=_:=hD 1 4 (by kernel_rfl)
   refine Go.GrowQ.ok_call (f:=130) (args:=#[.slice px x.length cx,.func (.func 66) #[] #[]]) (by simp [execOp,go_sem,hc,hf,e4]) ?_
   refine (sumX_any _ x (by omega) one_sizeX W' (XsR.later hXs hG) hE).mono ?_
   rintro e W8 ⟨rfl,h2⟩
   exact ⟨_,rfl,h2,rfl⟩
  case o3=>
   have e1:ev (.tmp 1)=.pointer (some ⟨W.heap.size,0,none⟩):=hr.tmp 1 (by kernel_rfl)
   exact Go.GrowQ.ok_val (by simp [execOp,go_sem,e1]) ⟨Below.refl _ _,rfl⟩
  case o4=>
   have e6:ev (.tmp 6)=_:=hD 3 6 (by kernel_rfl)
   have m0:=(hG.cell (p:=⟨W.heap.size,3,none⟩) hbl0).trans y0_3
   exact Go.GrowQ.ok_val (by simp [execOp,go_sem,e6,m0]) ⟨Below.refl _ _,rfl⟩
  case o5=>
   have e7:ev (.tmp 7)=_:=hD 4 7 (by kernel_rfl)
   refine Go.GrowQ.ok_call (f:=180) (args:=#[.slice pl l.length cl,.func (.func 116) #[] #[]]) (by simp [execOp,go_sem,hc,hf,e7]) ?_
   refine (sumS_any _ l (by omega) one_sizeS W' (SsR.later hLs hG) hS).mono ?_
   rintro e W8 ⟨rfl,h2⟩
   exact ⟨_,rfl,h2,rfl⟩
  case o6=>
   have e5:ev (.tmp 5)=_:=hD 2 5 (by kernel_rfl)
   have e8:ev (.tmp 8)=_:=hD 5 8 (by kernel_rfl)
   refine Go.GrowQ.ok_call (f:=150) (args:=#[.agg #[.int .i64 ((sumN sizeX x:Nat):Int),.int .i64 ((maxN deepX x:Nat):Int)],.agg #[.int .i64 ((sumN sizeS l:Nat):Int),.int .i64 ((maxN deepS l:Nat):Int)]]) (by simp [execOp,go_sem,hc,hf,e5,e8]) ?_
   refine (beside_any (sumN sizeX x) (maxN deepX x) (sumN sizeS l) (maxN deepS l) (by omega) W').mono ?_
   rintro e W8 ⟨rfl,h2⟩
   exact ⟨_,rfl,h2,rfl⟩
  case o7=>
   have e9:ev (.tmp 9)=_:=hD 6 9 (by kernel_rfl)
   refine Go.GrowQ.ok_call (f:=131) (args:=#[.agg #[.int .i64 ((sumN sizeX x+sumN sizeS l:Nat):Int),.int .i64 ((max (maxN deepX x) (maxN deepS l):Nat):Int)]]) (by simp [execOp,go_sem,hc,hf,e9]) ?_
   refine (within_any (sumN sizeX x+sumN sizeS l) (max (maxN deepX x) (maxN deepS l)) (by omega) (by omega) W').mono ?_
   rintro e W8 ⟨rfl,h2⟩
   exact ⟨_,rfl,h2,rfl⟩
 case hfin=>
  intro zz W' hG hzz
  have hG:Grw W1 W':=hG
  have h9:zz 7=.agg #[.int .i64 ((sumN sizeX x+sumN sizeS l+1:Nat):Int),.int .i64 ((max (maxN deepX x) (maxN deepS l)+1:Nat):Int)]:=hzz 7 (by decide)
  have hMM:=hM2.later hG
  obtain ⟨sa,hsa⟩:∃ n:Nat,n=sumN sizeX x+sumN sizeS l+1:=⟨_,rfl⟩
  obtain ⟨sd,hsd⟩:∃ n:Nat,n=max (maxN deepX x) (maxN deepS l)+1:=⟨_,rfl⟩
  rw [← hsa,← hsd] at h9
  have HSA:=hid hsa
  have HSD:=hid hsd
  clear hsa hsd
  have hset:=hMM.set (sa) (sd)
  obtain ⟨m0,m1,f0,f1,f2,f3⟩:=store2 hMM (sa) (sd)
  push_cast at m0 m1 f2 f3 h9
  refine ⟨_,_,(show (execOp _ _).run Tryz.prog W'=.ok .skip ((W'.setCell ⟨W.heap.size+1,0,none⟩ (.int .i64 ((sa:Nat):Int))).setCell ⟨W.heap.size+1,1,none⟩ (.int .i64 ((sd:Nat):Int))) from ?_),.inr ⟨rfl,?_⟩⟩
  ·simp [execOp,go_sem,Go.GrowQ.putAll,Act.put,Act.eval,h9,m0,m1,f0,f1,f2,f3]
  ·simp only [List.take_succ_cons,List.take_zero,Go.GrowQ.putAll,Act.put,List.setIfInBounds_toArray,List.set_cons_zero,List.set_cons_succ]
   go_wp2_with fail
   refine bodyPost_ret (v:=.agg #[.int .i64 ((sa:Nat):Int),.int .i64 ((sd:Nat):Int)]) ?_ rfl ⟨by rw [HSA.out,HSD.out],?_⟩
   ·obtain ⟨r0,r1,_,_⟩:=hset.1.cells
    push_cast at r0 r1
    simp [results,Tryz.results116,go_sem,r0,r1]
   ·exact (B2.trans (Below.mono hG (by omega))).grown hset.2 (Nat.le_trans B2.size hG.size) (fun k e=>by cases e;omega)
theorem measS_ok:∀ s:S,sizeS s≤1000000→MeasS s:=by
 refine S.ind ?_
 intro s ih hsz W cs hR
 obtain ⟨vx,vl,rfl,hX,hL⟩:=SR_iff.1 hR
 have hX0:=hX
 have hL0:=hL
 obtain ⟨px,cx,rfl,_⟩:=hX
 obtain ⟨pl,cl,rfl,_⟩:=hL
 rw [sizeS_eq,sizeXs_sum,sizeSs_sum] at hsz
 have:=ofS_walk s.op s.name s.x s.l px pl cx cl W hX0 hL0 (by omega) (fun y hy=>measX_ok y (by have:=sumN_mem sizeX hy;omega)) (fun y hy=>ih y hy (by have:=sumN_mem sizeS hy;omega))
 rw [sizeS_eq,deepS_eq,sizeXs_sum,sizeSs_sum,deepXs_max,deepSs_max]
 exact this
theorem one_sB (b:Bd):1≤sizeB b:=by unfold sizeB;omega
theorem one_sP (b:Pt):1≤sizeP b:=by unfold sizeP;omega
theorem ofI_walk (op:Int) (name fo:Ln) (x:List X) (s:List S) (l els:List It) (ps bb:List Bd) (px pq pl pe pp pb:Option Addr) (cx cq cl ce cp cb:Nat) (W:World) (hXs0:XsR W (.slice px x.length cx) x) (hSs0:SsR W (.slice pq s.length cq) s) (hLs0:IsR W (.slice pl l.length cl) l) (hEs0:IsR W (.slice pe els.length ce) els) (hPs0:BsR W (.slice pp ps.length cp) ps) (hBs0:BsR W (.slice pb bb.length cb) bb)
  (hs:sumN sizeX x+sumN sizeS s+sumN sizeI l+sumN sizeI els+sumN sizeB ps+sumN sizeB bb≤1000000) (hX:∀ y ∈ x,MeasX y) (hS:∀ y ∈ s,MeasS y) (hI:∀ y ∈ l,MeasI y) (hJ:∀ y ∈ els,MeasI y) (hP:∀ y ∈ ps,MeasB y) (hB:∀ y ∈ bb,MeasB y) :
  Calls Tryz.prog 156 #[.agg #[.int .i64 op,.string (bs name),.string (bs fo),.slice px x.length cx,.slice pq s.length cq,.slice pl l.length cl,.slice pe els.length ce,.slice pp ps.length cp,.slice pb bb.length cb]] W fun e W'=>e=.returned (.agg #[.int .i64 ((sumN sizeX x+sumN sizeS s+sumN sizeI l+sumN sizeI els+sumN sizeB ps+sumN sizeB bb+1:Nat):Int),.int .i64 ((max (max (max (max (max (maxN deepX x) (maxN deepS s)) (maxN deepI l)) (maxN deepI els)) (maxN deepB ps)) (maxN deepB bb)+1:Nat):Int)])∧Below W.heap.size W W':=by
 have hd1:=maxN_le_sumN (l:=x) (fun y _=>deepX_le y)
 have hd2:=maxN_le_sumN (l:=s) (fun y _=>deepS_le y)
 have hd3:=maxN_le_sumN (l:=l) (fun y _=>deepI_le y)
 have hd4:=maxN_le_sumN (l:=els) (fun y _=>deepI_le y)
 have hd5:=maxN_le_sumN (l:=ps) (fun y _=>deepB_le y)
 have hd6:=maxN_le_sumN (l:=bb) (fun y _=>deepB_le y)
 go_enter Tryz.func156,Tryz.ntmps156
 go_wp2_with fail
 have B2:=((Below.refl W.heap.size W).alloc (Nat.le_refl _) (.cells #[.int .i64 op,.string (bs name),.string (bs fo),.slice px x.length cx,.slice pq s.length cq,.slice pl l.length cl,.slice pe els.length ce,.slice pp ps.length cp,.slice pb bb.length cb] 133)).alloc (by simp) (.cells #[.int .i64 0,.int .i64 0] 98)
 have hM2:=mbox2 W (.cells #[.int .i64 op,.string (bs name),.string (bs fo),.slice px x.length cx,.slice pq s.length cq,.slice pl l.length cl,.slice pe els.length ce,.slice pp ps.length cp,.slice pb bb.length cb] 133)
 have hbx:((W.alloc (.cells #[.int .i64 op,.string (bs name),.string (bs fo),.slice px x.length cx,.slice pq s.length cq,.slice pl l.length cl,.slice pe els.length ce,.slice pp ps.length cp,.slice pb bb.length cb] 133)).alloc (.cells #[.int .i64 0,.int .i64 0] 98)).heap[W.heap.size]?=some (.cells #[.int .i64 op,.string (bs name),.string (bs fo),.slice px x.length cx,.slice pq s.length cq,.slice pl l.length cl,.slice pe els.length ce,.slice pp ps.length cp,.slice pb bb.length cb] 133):=(Below.heap_alloc _ _ _ (by simp)).trans (World.alloc_heap_new W _)
 have hls:((W.alloc (.cells #[.int .i64 op,.string (bs name),.string (bs fo),.slice px x.length cx,.slice pq s.length cq,.slice pl l.length cl,.slice pe els.length ce,.slice pp ps.length cp,.slice pb bb.length cb] 133)).alloc (.cells #[.int .i64 0,.int .i64 0] 98)).heap.size=W.heap.size+2:=by simp
 generalize (W.alloc (.cells #[.int .i64 op,.string (bs name),.string (bs fo),.slice px x.length cx,.slice pq s.length cq,.slice pl l.length cl,.slice pe els.length ce,.slice pp ps.length cp,.slice pb bb.length cb] 133)).alloc (.cells #[.int .i64 0,.int .i64 0] 98)=W1 at *
 obtain ⟨lo,hloe⟩:∃ lo,lo=W1.heap.size:=⟨_,rfl⟩
 have hlo1:lo≤W1.heap.size:=Nat.le_of_eq hloe
 have hbl0:W.heap.size<W1.heap.size:=by omega
 have y0_3:=box_at hbx 3 (v:=.slice px x.length cx) rfl
 have y0_4:=box_at hbx 4 (v:=.slice pq s.length cq) rfl
 have y0_5:=box_at hbx 5 (v:=.slice pl l.length cl) rfl
 have y0_6:=box_at hbx 6 (v:=.slice pe els.length ce) rfl
 have y0_7:=box_at hbx 7 (v:=.slice pp ps.length cp) rfl
 have y0_8:=box_at hbx 8 (v:=.slice pb bb.length cb) rfl
 clear hbx
 have hXs:=XsR.later hXs0 B2
 have hSs:=SsR.later hSs0 B2
 have hLs:=IsR.later hLs0 B2
 have hEs:=IsR.later hEs0 B2
 have hPs1:=BsR.later hPs0 B2
 have hBs1:=BsR.later hBs0 B2
 refine Go.GrowQ.region_grow_last Grw 16 (mesSp lo 15 [.pointer (some ⟨W.heap.size,3,none⟩),.slice px x.length cx,.agg #[.int .i64 ((sumN sizeX x:Nat):Int),.int .i64 ((maxN deepX x:Nat):Int)],.pointer (some ⟨W.heap.size,4,none⟩),.slice pq s.length cq,.agg #[.int .i64 ((sumN sizeS s:Nat):Int),.int .i64 ((maxN deepS s:Nat):Int)],.agg #[.int .i64 ((sumN sizeX x+sumN sizeS s:Nat):Int),.int .i64 ((max (maxN deepX x) (maxN deepS s):Nat):Int)],.pointer (some ⟨W.heap.size,5,none⟩),.slice pl l.length cl,.agg #[.int .i64 ((sumN sizeI l:Nat):Int),.int .i64 ((maxN deepI l:Nat):Int)],.agg #[.int .i64 ((sumN sizeX x+sumN sizeS s+sumN sizeI l:Nat):Int),.int .i64 ((max (max (maxN deepX x) (maxN deepS s)) (maxN deepI l):Nat):Int)],.pointer (some ⟨W.heap.size,6,none⟩),.slice pe els.length ce,.agg #[.int .i64 ((sumN sizeI els:Nat):Int),.int .i64 ((maxN deepI els:Nat):Int)],.agg #[.int .i64 ((sumN sizeX x+sumN sizeS s+sumN sizeI l+sumN sizeI els:Nat):Int),.int .i64 ((max (max (max (maxN deepX x) (maxN deepS s)) (maxN deepI l)) (maxN deepI els):Nat):Int)],undef])
  (by kernel_rfl) rfl rfl rfl (by kernel_rfl) (by kernel_rfl) (by kernel_rfl) (grw_drawn _) grw_trans (mesSp_grw lo _ _) ?hops ?hfin
 case hops=>
  refine ⟨?o0,?o1,?o2,?o3,?o4,?o5,?o6,?o7,?o8,?o9,?o10,?o11,?o12,?o13,?o14,?o15,trivial⟩
  all_goals (intro ev W' hG hr hD;have hG:Grw W1 W':=hG;have hc:=hr.const;have hf:=hr.func)
  case o0=>
   have e1:ev (.tmp 1)=.pointer (some ⟨W.heap.size,0,none⟩):=hr.tmp 1 (by kernel_rfl)
   exact Go.GrowQ.ok_val (by simp [execOp,go_sem,e1]) ⟨Below.refl _ _,rfl⟩
  case o1=>
   have e4:ev (.tmp 4)=_:=hD 0 4 (by kernel_rfl)
   have m0:=(hG.cell (p:=⟨W.heap.size,3,none⟩) hbl0).trans y0_3
   exact Go.GrowQ.ok_val (by simp [execOp,go_sem,e4,m0]) ⟨Below.refl _ _,rfl⟩
  case o2=>
   have e5:ev (.tmp 5)=_:=hD 1 5 (by kernel_rfl)
   refine Go.GrowQ.ok_call (f:=130) (args:=#[.slice px x.length cx,.func (.func 66) #[] #[]]) (by simp [execOp,go_sem,hc,hf,e5]) ?_
   refine (sumX_any _ x (by omega) one_sizeX W' (XsR.later hXs hG) hX).mono ?_
   rintro e W8 ⟨rfl,h2⟩
   exact ⟨_,rfl,h2,rfl⟩
  case o3=>
   have e1:ev (.tmp 1)=.pointer (some ⟨W.heap.size,0,none⟩):=hr.tmp 1 (by kernel_rfl)
   exact Go.GrowQ.ok_val (by simp [execOp,go_sem,e1]) ⟨Below.refl _ _,rfl⟩
  case o4=>
   have e7:ev (.tmp 7)=_:=hD 3 7 (by kernel_rfl)
   have m0:=(hG.cell (p:=⟨W.heap.size,4,none⟩) hbl0).trans y0_4
   exact Go.GrowQ.ok_val (by simp [execOp,go_sem,e7,m0]) ⟨Below.refl _ _,rfl⟩
  case o5=>
   have e8:ev (.tmp 8)=_:=hD 4 8 (by kernel_rfl)
   refine Go.GrowQ.ok_call (f:=180) (args:=#[.slice pq s.length cq,.func (.func 116) #[] #[]]) (by simp [execOp,go_sem,hc,hf,e8]) ?_
   refine (sumS_any _ s (by omega) one_sizeS W' (SsR.later hSs hG) hS).mono ?_
   rintro e W8 ⟨rfl,h2⟩
   exact ⟨_,rfl,h2,rfl⟩
  case o6=>
   have e6:ev (.tmp 6)=_:=hD 2 6 (by kernel_rfl)
   have e9:ev (.tmp 9)=_:=hD 5 9 (by kernel_rfl)
   refine Go.GrowQ.ok_call (f:=150) (args:=#[.agg #[.int .i64 ((sumN sizeX x:Nat):Int),.int .i64 ((maxN deepX x:Nat):Int)],.agg #[.int .i64 ((sumN sizeS s:Nat):Int),.int .i64 ((maxN deepS s:Nat):Int)]]) (by simp [execOp,go_sem,hc,hf,e6,e9]) ?_
   refine (beside_any (sumN sizeX x) (maxN deepX x) (sumN sizeS s) (maxN deepS s) (by omega) W').mono ?_
   rintro e W8 ⟨rfl,h2⟩
   exact ⟨_,rfl,h2,rfl⟩
  case o7=>
   have e1:ev (.tmp 1)=.pointer (some ⟨W.heap.size,0,none⟩):=hr.tmp 1 (by kernel_rfl)
   exact Go.GrowQ.ok_val (by simp [execOp,go_sem,e1]) ⟨Below.refl _ _,rfl⟩
  case o8=>
   have e11:ev (.tmp 11)=_:=hD 7 11 (by kernel_rfl)
   have m0:=(hG.cell (p:=⟨W.heap.size,5,none⟩) hbl0).trans y0_5
   exact Go.GrowQ.ok_val (by simp [execOp,go_sem,e11,m0]) ⟨Below.refl _ _,rfl⟩
  case o9=>
   have e12:ev (.tmp 12)=_:=hD 8 12 (by kernel_rfl)
   refine Go.GrowQ.ok_call (f:=155) (args:=#[.slice pl l.length cl,.func (.func 156) #[] #[]]) (by simp [execOp,go_sem,hc,hf,e12]) ?_
   refine (sumI_any _ l (by omega) one_sizeI W' (IsR.later hLs hG) hI).mono ?_
   rintro e W8 ⟨rfl,h2⟩
   exact ⟨_,rfl,h2,rfl⟩
  case o10=>
   have e10:ev (.tmp 10)=_:=hD 6 10 (by kernel_rfl)
   have e13:ev (.tmp 13)=_:=hD 9 13 (by kernel_rfl)
   refine Go.GrowQ.ok_call (f:=150) (args:=#[.agg #[.int .i64 ((sumN sizeX x+sumN sizeS s:Nat):Int),.int .i64 ((max (maxN deepX x) (maxN deepS s):Nat):Int)],.agg #[.int .i64 ((sumN sizeI l:Nat):Int),.int .i64 ((maxN deepI l:Nat):Int)]]) (by simp [execOp,go_sem,hc,hf,e10,e13]) ?_
   refine (beside_any (sumN sizeX x+sumN sizeS s) (max (maxN deepX x) (maxN deepS s)) (sumN sizeI l) (maxN deepI l) (by omega) W').mono ?_
   rintro e W8 ⟨rfl,h2⟩
   exact ⟨_,rfl,h2,rfl⟩
  case o11=>
   have e1:ev (.tmp 1)=.pointer (some ⟨W.heap.size,0,none⟩):=hr.tmp 1 (by kernel_rfl)
   exact Go.GrowQ.ok_val (by simp [execOp,go_sem,e1]) ⟨Below.refl _ _,rfl⟩
  case o12=>
   have e15:ev (.tmp 15)=_:=hD 11 15 (by kernel_rfl)
   have m0:=(hG.cell (p:=⟨W.heap.size,6,none⟩) hbl0).trans y0_6
   exact Go.GrowQ.ok_val (by simp [execOp,go_sem,e15,m0]) ⟨Below.refl _ _,rfl⟩
  case o13=>
   have e16:ev (.tmp 16)=_:=hD 12 16 (by kernel_rfl)
   refine Go.GrowQ.ok_call (f:=155) (args:=#[.slice pe els.length ce,.func (.func 156) #[] #[]]) (by simp [execOp,go_sem,hc,hf,e16]) ?_
   refine (sumI_any _ els (by omega) one_sizeI W' (IsR.later hEs hG) hJ).mono ?_
   rintro e W8 ⟨rfl,h2⟩
   exact ⟨_,rfl,h2,rfl⟩
  case o14=>
   have e14:ev (.tmp 14)=_:=hD 10 14 (by kernel_rfl)
   have e17:ev (.tmp 17)=_:=hD 13 17 (by kernel_rfl)
   refine Go.GrowQ.ok_call (f:=150) (args:=#[.agg #[.int .i64 ((sumN sizeX x+sumN sizeS s+sumN sizeI l:Nat):Int),.int .i64 ((max (max (maxN deepX x) (maxN deepS s)) (maxN deepI l):Nat):Int)],.agg #[.int .i64 ((sumN sizeI els:Nat):Int),.int .i64 ((maxN deepI els:Nat):Int)]]) (by simp [execOp,go_sem,hc,hf,e14,e17]) ?_
   refine (beside_any (sumN sizeX x+sumN sizeS s+sumN sizeI l) (max (max (maxN deepX x) (maxN deepS s)) (maxN deepI l)) (sumN sizeI els) (maxN deepI els) (by omega) W').mono ?_
   rintro e W8 ⟨rfl,h2⟩
   exact ⟨_,rfl,h2,rfl⟩
  case o15=>
   exact Go.GrowQ.ok_new (v:=.pointer (some ⟨W'.heap.size,0,none⟩)) (W':=W'.alloc (.cells #[.int .i64 0,.int .i64 0] 98)) (by simp [execOp,go_sem]) ⟨(Below.refl _ _).alloc (Nat.le_refl _) _,W'.heap.size,rfl,Nat.le_trans hlo1 hG.size,World.alloc_heap_new W' _⟩
 case hfin=>
  intro zz W' hG hzz
  have hG:Grw W1 W':=hG
  have h9:zz 14=.agg #[.int .i64 ((sumN sizeX x+sumN sizeS s+sumN sizeI l+sumN sizeI els:Nat):Int),.int .i64 ((max (max (max (maxN deepX x) (maxN deepS s)) (maxN deepI l)) (maxN deepI els):Nat):Int)]:=hzz 14 (by decide)
  obtain ⟨bq,h8,hbq,hMM⟩:∃ b,zz 15=.pointer (some ⟨b,0,none⟩)∧lo≤b∧MBox W' b 0 0:=hzz 15 (by decide)
  have hset:=hMM.set (sumN sizeX x+sumN sizeS s+sumN sizeI l+sumN sizeI els) (max (max (max (maxN deepX x) (maxN deepS s)) (maxN deepI l)) (maxN deepI els))
  obtain ⟨m0,m1,f0,f1,f2,f3⟩:=store2 hMM (sumN sizeX x+sumN sizeS s+sumN sizeI l+sumN sizeI els) (max (max (max (maxN deepX x) (maxN deepS s)) (maxN deepI l)) (maxN deepI els))
  push_cast at m0 m1 f2 f3 h9
  refine ⟨_,_,(show (execOp _ _).run Tryz.prog W'=.ok .skip ((W'.setCell ⟨bq,0,none⟩ (.int .i64 ((sumN sizeX x+sumN sizeS s+sumN sizeI l+sumN sizeI els:Nat):Int))).setCell ⟨bq,1,none⟩ (.int .i64 ((max (max (max (maxN deepX x) (maxN deepS s)) (maxN deepI l)) (maxN deepI els):Nat):Int))) from ?_),.inr ⟨rfl,?_⟩⟩
  ·simp [execOp,go_sem,Go.GrowQ.putAll,Act.put,Act.eval,h9,h8,m0,m1,f0,f1,f2,f3]
  ·simp only [List.take_succ_cons,List.take_zero,Go.GrowQ.putAll,Act.put,List.setIfInBounds_toArray,List.set_cons_zero,List.set_cons_succ]
   have hB7:Below W1.heap.size W1 ((W'.setCell ⟨bq,0,none⟩ (.int .i64 ((sumN sizeX x+sumN sizeS s+sumN sizeI l+sumN sizeI els:Nat):Int))).setCell ⟨bq,1,none⟩ (.int .i64 ((max (max (max (maxN deepX x) (maxN deepS s)) (maxN deepI l)) (maxN deepI els):Nat):Int))):=hG.grown hset.2 hG.size (fun k e=>by cases e;omega)
   have hM7:=hset.1
   obtain ⟨W7,hW7⟩:∃ W7,W7=(W'.setCell ⟨bq,0,none⟩ (.int .i64 ((sumN sizeX x+sumN sizeS s+sumN sizeI l+sumN sizeI els:Nat):Int))).setCell ⟨bq,1,none⟩ (.int .i64 ((max (max (max (maxN deepX x) (maxN deepS s)) (maxN deepI l)) (maxN deepI els):Nat):Int)):=⟨_,rfl⟩
   rw [← hW7] at hB7 hM7 ⊢
   rw [h8]
   clear hW7 hset m0 m1 f0 f1 f2 f3 hMM hG h9 h8 hzz
   go_wp2_with fail
   have hG7:Grw W1 W7:=hB7
   have hPs:=BsR.later hPs1 hB7
   have hBs:=BsR.later hBs1 hB7
   have hlo1:lo≤W7.heap.size:=Nat.le_trans hlo1 hB7.size
   have hbl7:W.heap.size<W7.heap.size:=Nat.lt_of_lt_of_le hbl0 hB7.size
   have z7:=(hB7.cell (p:=⟨W.heap.size,7,none⟩) hbl0).trans y0_7
   have z8:=(hB7.cell (p:=⟨W.heap.size,8,none⟩) hbl0).trans y0_8
   have hbq7:=hM7.lt
   obtain ⟨q0,q1,_,_⟩:=hM7.cells
   have hM27:=hM2.later hG7
   refine Go.GrowQ.region_grow_last Grw 10 (mesSp lo 1000 [.agg #[.int .i64 ((sumN sizeX x+sumN sizeS s+sumN sizeI l+sumN sizeI els:Nat):Int),.int .i64 ((max (max (max (maxN deepX x) (maxN deepS s)) (maxN deepI l)) (maxN deepI els):Nat):Int)],.pointer (some ⟨W.heap.size,7,none⟩),.slice pp ps.length cp,.agg #[.int .i64 ((sumN sizeB ps:Nat):Int),.int .i64 ((maxN deepB ps:Nat):Int)],.agg #[.int .i64 ((sumN sizeX x+sumN sizeS s+sumN sizeI l+sumN sizeI els+sumN sizeB ps:Nat):Int),.int .i64 ((max (max (max (max (maxN deepX x) (maxN deepS s)) (maxN deepI l)) (maxN deepI els)) (maxN deepB ps):Nat):Int)],.pointer (some ⟨W.heap.size,8,none⟩),.slice pb bb.length cb,.agg #[.int .i64 ((sumN sizeB bb:Nat):Int),.int .i64 ((maxN deepB bb:Nat):Int)],.agg #[.int .i64 ((sumN sizeX x+sumN sizeS s+sumN sizeI l+sumN sizeI els+sumN sizeB ps+sumN sizeB bb:Nat):Int),.int .i64 ((max (max (max (max (max (maxN deepX x) (maxN deepS s)) (maxN deepI l)) (maxN deepI els)) (maxN deepB ps)) (maxN deepB bb):Nat):Int)],.agg #[.int .i64 ((sumN sizeX x+sumN sizeS s+sumN sizeI l+sumN sizeI els+sumN sizeB ps+sumN sizeB bb+1:Nat):Int),.int .i64 ((max (max (max (max (max (maxN deepX x) (maxN deepS s)) (maxN deepI l)) (maxN deepI els)) (maxN deepB ps)) (maxN deepB bb)+1:Nat):Int)]])
    (by kernel_rfl) rfl rfl rfl (by kernel_rfl) (by kernel_rfl) (by kernel_rfl) (grw_drawn _) grw_trans (mesSp_grw lo _ _) ?hops ?hfin
   case hops=>
    refine ⟨?o0,?o1,?o2,?o3,?o4,?o5,?o6,?o7,?o8,?o9,trivial⟩
    all_goals (intro ev W' hG hr hD;have hG:Grw W7 W':=hG;have hc:=hr.const;have hf:=hr.func)
    case o0=>
     have e3:ev (.tmp 3)=.pointer (some ⟨bq,0,none⟩):=hr.tmp 3 (by kernel_rfl)
     have m0:=(hG.cell (p:=⟨bq,0,none⟩) hbq7).trans q0
     have m1:=(hG.cell (p:=⟨bq,1,none⟩) hbq7).trans q1
     exact Go.GrowQ.ok_val (by simp [execOp,go_sem,e3,m0,m1]) ⟨Below.refl _ _,rfl⟩
    case o1=>
     have e1:ev (.tmp 1)=.pointer (some ⟨W.heap.size,0,none⟩):=hr.tmp 1 (by kernel_rfl)
     exact Go.GrowQ.ok_val (by simp [execOp,go_sem,e1]) ⟨Below.refl _ _,rfl⟩
    case o2=>
     have e20:ev (.tmp 20)=_:=hD 1 20 (by kernel_rfl)
     have m0:=(hG.cell (p:=⟨W.heap.size,7,none⟩) hbl7).trans z7
     exact Go.GrowQ.ok_val (by simp [execOp,go_sem,e20,m0]) ⟨Below.refl _ _,rfl⟩
    case o3=>
     have e21:ev (.tmp 21)=_:=hD 2 21 (by kernel_rfl)
     refine Go.GrowQ.ok_call (f:=151) (args:=#[.slice pp ps.length cp,.func (.func 152) #[] #[]]) (by simp [execOp,go_sem,hc,hf,e21]) ?_
     refine (sumB_any _ ps (by omega) one_sB W' (BsR.later hPs hG) hP).mono ?_
     rintro e W8 ⟨rfl,h2⟩
     exact ⟨_,rfl,h2,rfl⟩
    case o4=>
     have e19:ev (.tmp 19)=_:=hD 0 19 (by kernel_rfl)
     have e22:ev (.tmp 22)=_:=hD 3 22 (by kernel_rfl)
     refine Go.GrowQ.ok_call (f:=150) (args:=#[.agg #[.int .i64 ((sumN sizeX x+sumN sizeS s+sumN sizeI l+sumN sizeI els:Nat):Int),.int .i64 ((max (max (max (maxN deepX x) (maxN deepS s)) (maxN deepI l)) (maxN deepI els):Nat):Int)],.agg #[.int .i64 ((sumN sizeB ps:Nat):Int),.int .i64 ((maxN deepB ps:Nat):Int)]]) (by simp [execOp,go_sem,hc,hf,e19,e22]) ?_
     refine (beside_any (sumN sizeX x+sumN sizeS s+sumN sizeI l+sumN sizeI els) (max (max (max (maxN deepX x) (maxN deepS s)) (maxN deepI l)) (maxN deepI els)) (sumN sizeB ps) (maxN deepB ps) (by omega) W').mono ?_
     rintro e W8 ⟨rfl,h2⟩
     exact ⟨_,rfl,h2,rfl⟩
    case o5=>
     have e1:ev (.tmp 1)=.pointer (some ⟨W.heap.size,0,none⟩):=hr.tmp 1 (by kernel_rfl)
     exact Go.GrowQ.ok_val (by simp [execOp,go_sem,e1]) ⟨Below.refl _ _,rfl⟩
    case o6=>
     have e24:ev (.tmp 24)=_:=hD 5 24 (by kernel_rfl)
     have m0:=(hG.cell (p:=⟨W.heap.size,8,none⟩) hbl7).trans z8
     exact Go.GrowQ.ok_val (by simp [execOp,go_sem,e24,m0]) ⟨Below.refl _ _,rfl⟩
    case o7=>
     have e25:ev (.tmp 25)=_:=hD 6 25 (by kernel_rfl)
     refine Go.GrowQ.ok_call (f:=151) (args:=#[.slice pb bb.length cb,.func (.func 152) #[] #[]]) (by simp [execOp,go_sem,hc,hf,e25]) ?_
     refine (sumB_any _ bb (by omega) one_sB W' (BsR.later hBs hG) hB).mono ?_
     rintro e W8 ⟨rfl,h2⟩
     exact ⟨_,rfl,h2,rfl⟩
    case o8=>
     have e23:ev (.tmp 23)=_:=hD 4 23 (by kernel_rfl)
     have e26:ev (.tmp 26)=_:=hD 7 26 (by kernel_rfl)
     refine Go.GrowQ.ok_call (f:=150) (args:=#[.agg #[.int .i64 ((sumN sizeX x+sumN sizeS s+sumN sizeI l+sumN sizeI els+sumN sizeB ps:Nat):Int),.int .i64 ((max (max (max (max (maxN deepX x) (maxN deepS s)) (maxN deepI l)) (maxN deepI els)) (maxN deepB ps):Nat):Int)],.agg #[.int .i64 ((sumN sizeB bb:Nat):Int),.int .i64 ((maxN deepB bb:Nat):Int)]]) (by simp [execOp,go_sem,hc,hf,e23,e26]) ?_
     refine (beside_any (sumN sizeX x+sumN sizeS s+sumN sizeI l+sumN sizeI els+sumN sizeB ps) (max (max (max (max (maxN deepX x) (maxN deepS s)) (maxN deepI l)) (maxN deepI els)) (maxN deepB ps)) (sumN sizeB bb) (maxN deepB bb) (by omega) W').mono ?_
     rintro e W8 ⟨rfl,h2⟩
     exact ⟨_,rfl,h2,rfl⟩
    case o9=>
     have e27:ev (.tmp 27)=_:=hD 8 27 (by kernel_rfl)
     refine Go.GrowQ.ok_call (f:=131) (args:=#[.agg #[.int .i64 ((sumN sizeX x+sumN sizeS s+sumN sizeI l+sumN sizeI els+sumN sizeB ps+sumN sizeB bb:Nat):Int),.int .i64 ((max (max (max (max (max (maxN deepX x) (maxN deepS s)) (maxN deepI l)) (maxN deepI els)) (maxN deepB ps)) (maxN deepB bb):Nat):Int)]]) (by simp [execOp,go_sem,hc,hf,e27]) ?_
     refine (within_any (sumN sizeX x+sumN sizeS s+sumN sizeI l+sumN sizeI els+sumN sizeB ps+sumN sizeB bb) (max (max (max (max (max (maxN deepX x) (maxN deepS s)) (maxN deepI l)) (maxN deepI els)) (maxN deepB ps)) (maxN deepB bb)) (by omega) (by omega) W').mono ?_
     rintro e W8 ⟨rfl,h2⟩
     exact ⟨_,rfl,h2,rfl⟩
   case hfin=>
    intro zz W' hG hzz
    have hG:Grw W7 W':=hG
    have h9:zz 9=.agg #[.int .i64 ((sumN sizeX x+sumN sizeS s+sumN sizeI l+sumN sizeI els+sumN sizeB ps+sumN sizeB bb+1:Nat):Int),.int .i64 ((max (max (max (max (max (maxN deepX x) (maxN deepS s)) (maxN deepI l)) (maxN deepI els)) (maxN deepB ps)) (maxN deepB bb)+1:Nat):Int)]:=hzz 9 (by decide)
    have hMM:=hM27.later hG
    obtain ⟨sa,hsa⟩:∃ n:Nat,n=sumN sizeX x+sumN sizeS s+sumN sizeI l+sumN sizeI els+sumN sizeB ps+sumN sizeB bb+1:=⟨_,rfl⟩
    obtain ⟨sd,hsd⟩:∃ n:Nat,n=max (max (max (max (max (maxN deepX x) (maxN deepS s)) (maxN deepI l)) (maxN deepI els)) (maxN deepB ps)) (maxN deepB bb)+1:=⟨_,rfl⟩
    rw [← hsa,← hsd] at h9
    have HSA:=hid hsa
    have HSD:=hid hsd
    clear hsa hsd
    have hset:=hMM.set (sa) (sd)
    obtain ⟨m0,m1,f0,f1,f2,f3⟩:=store2 hMM (sa) (sd)
    push_cast at m0 m1 f2 f3 h9
    refine ⟨_,_,(show (execOp _ _).run Tryz.prog W'=.ok .skip ((W'.setCell ⟨W.heap.size+1,0,none⟩ (.int .i64 ((sa:Nat):Int))).setCell ⟨W.heap.size+1,1,none⟩ (.int .i64 ((sd:Nat):Int))) from ?_),.inr ⟨rfl,?_⟩⟩
    ·simp [execOp,go_sem,Go.GrowQ.putAll,Act.put,Act.eval,h9,m0,m1,f0,f1,f2,f3]
    ·simp only [List.take_succ_cons,List.take_zero,Go.GrowQ.putAll,Act.put,List.setIfInBounds_toArray,List.set_cons_zero,List.set_cons_succ]
     have hz:=hB7.size
     go_wp2_with fail
     refine bodyPost_ret (v:=.agg #[.int .i64 ((sa:Nat):Int),.int .i64 ((sd:Nat):Int)]) ?_ rfl ⟨by rw [HSA.out,HSD.out],?_⟩
     ·obtain ⟨r0,r1,_,_⟩:=hset.1.cells
      push_cast at r0 r1
      simp [results,Tryz.results156,go_sem,r0,r1]
     ·exact ((B2.trans (Below.mono hB7 (by omega))).trans (Below.mono hG (by omega))).grown hset.2 (Nat.le_trans (Nat.le_trans B2.size hz) hG.size) (fun k e=>by cases e;omega)
theorem measI_ok:∀ t:It,sizeI t≤1000000→MeasI t:=by
 refine It.ind ?_
 intro t ihl ihe hsz W cs hR
 obtain ⟨vx,vs,vl,ve,vp,vb,rfl,hX,hS,hL,hE,hP,hB⟩:∃ vx vs vl ve vp vb,cs=[.int .i64 t.op,.string (bs t.name),.string (bs t.of),vx,vs,vl,ve,vp,vb]∧XsR W vx t.x∧SsR W vs t.s∧Els W 9 (IR W) vl t.l∧Els W 9 (IR W) ve t.e∧BsR W vp t.ps∧BsR W vb t.bs:=by
  obtain ⟨vx,vs,vl,ve,vp,vb,h0,h1,h2,h3,h4,h5,h6⟩:=IR_iff.1 hR
  exact ⟨vx,vs,vl,ve,vp,vb,h0,h1,h2,h5,h6,h3,h4⟩
 have hX0:=hX
 have hS0:=hS
 have hL0:=hL
 have hE0:=hE
 have hP0:=hP
 have hB0:=hB
 obtain ⟨px,cx,rfl,_⟩:=hX
 obtain ⟨pq,cq,rfl,_⟩:=hS
 obtain ⟨pl,cl,rfl,_⟩:=hL
 obtain ⟨pe,ce,rfl,_⟩:=hE
 obtain ⟨pp,cp,rfl,_⟩:=hP
 obtain ⟨pb,cb,rfl,_⟩:=hB
 rw [sizeI_eq2] at hsz
 have:=ofI_walk t.op t.name t.of t.x t.s t.l t.e t.ps t.bs px pq pl pe pp pb cx cq cl ce cp cb W hX0 hS0 hL0 hE0 hP0 hB0 (by omega) (fun y hy=>measX_ok y (by have:=sumN_mem sizeX hy;omega)) (fun y hy=>measS_ok y (by have:=sumN_mem sizeS hy;omega)) (fun y hy=>ihl y hy (by have:=sumN_mem sizeI hy;omega)) (fun y hy=>ihe y hy (by have:=sumN_mem sizeI hy;omega)) (fun y hy=>measB_ok y (by have:=sumN_mem sizeB hy;omega)) (fun y hy=>measB_ok y (by have:=sumN_mem sizeB hy;omega))
 rw [sizeI_eq2,deepI_eq2]
 exact this
theorem ofM_walk (name:Ln) (ps:List Bd) (pts:List Pt) (l:List It) (pp pt pl:Option Addr) (cp ct cl:Nat) (W:World) (hPs0:BsR W (.slice pp ps.length cp) ps) (hTs0:PsR W (.slice pt pts.length ct) pts) (hLs0:IsR W (.slice pl l.length cl) l) (hs:sumN sizeB ps+sumN sizeP pts+sumN sizeI l≤1000000) (hB:∀ y ∈ ps,MeasB y) (hP:∀ y ∈ pts,MeasP y) (hI:∀ y ∈ l,MeasI y) :
  Calls Tryz.prog 85 #[.agg #[.string (bs name),.slice pp ps.length cp,.slice pt pts.length ct,.slice pl l.length cl]] W fun e W'=>e=.returned (.agg #[.int .i64 ((sumN sizeB ps+sumN sizeP pts+sumN sizeI l+1:Nat):Int),.int .i64 ((max (max (maxN deepB ps) (maxN deepP pts)) (maxN deepI l)+1:Nat):Int)])∧Below W.heap.size W W':=by
 have hd1:=maxN_le_sumN (l:=ps) (fun y _=>deepB_le y)
 have hd2:=maxN_le_sumN (l:=pts) (fun y _=>deepP_le y)
 have hd3:=maxN_le_sumN (l:=l) (fun y _=>deepI_le y)
 go_enter Tryz.func85,Tryz.ntmps85
 go_wp2_with fail
 have B2:=((Below.refl W.heap.size W).alloc (Nat.le_refl _) (.cells #[.string (bs name),.slice pp ps.length cp,.slice pt pts.length ct,.slice pl l.length cl] 53)).alloc (by simp) (.cells #[.int .i64 0,.int .i64 0] 98)
 have hM2:=mbox2 W (.cells #[.string (bs name),.slice pp ps.length cp,.slice pt pts.length ct,.slice pl l.length cl] 53)
 have hbx:((W.alloc (.cells #[.string (bs name),.slice pp ps.length cp,.slice pt pts.length ct,.slice pl l.length cl] 53)).alloc (.cells #[.int .i64 0,.int .i64 0] 98)).heap[W.heap.size]?=some (.cells #[.string (bs name),.slice pp ps.length cp,.slice pt pts.length ct,.slice pl l.length cl] 53):=(Below.heap_alloc _ _ _ (by simp)).trans (World.alloc_heap_new W _)
 have hls:((W.alloc (.cells #[.string (bs name),.slice pp ps.length cp,.slice pt pts.length ct,.slice pl l.length cl] 53)).alloc (.cells #[.int .i64 0,.int .i64 0] 98)).heap.size=W.heap.size+2:=by simp
 generalize (W.alloc (.cells #[.string (bs name),.slice pp ps.length cp,.slice pt pts.length ct,.slice pl l.length cl] 53)).alloc (.cells #[.int .i64 0,.int .i64 0] 98)=W1 at *
 obtain ⟨lo,hloe⟩:∃ lo,lo=W1.heap.size:=⟨_,rfl⟩
 have hlo1:lo≤W1.heap.size:=Nat.le_of_eq hloe
 have hbl0:W.heap.size<W1.heap.size:=by omega
 have y0_1:=box_at hbx 1 (v:=.slice pp ps.length cp) rfl
 have y0_2:=box_at hbx 2 (v:=.slice pt pts.length ct) rfl
 have y0_3:=box_at hbx 3 (v:=.slice pl l.length cl) rfl
 clear hbx
 have hPs:=BsR.later hPs0 B2
 have hTs:=PsR.later hTs0 B2
 have hLs:=IsR.later hLs0 B2
 refine Go.GrowQ.region_grow_last Grw 12 (mesSp lo 1000 [.pointer (some ⟨W.heap.size,1,none⟩),.slice pp ps.length cp,.agg #[.int .i64 ((sumN sizeB ps:Nat):Int),.int .i64 ((maxN deepB ps:Nat):Int)],.pointer (some ⟨W.heap.size,2,none⟩),.slice pt pts.length ct,.agg #[.int .i64 ((sumN sizeP pts:Nat):Int),.int .i64 ((maxN deepP pts:Nat):Int)],.agg #[.int .i64 ((sumN sizeB ps+sumN sizeP pts:Nat):Int),.int .i64 ((max (maxN deepB ps) (maxN deepP pts):Nat):Int)],.pointer (some ⟨W.heap.size,3,none⟩),.slice pl l.length cl,.agg #[.int .i64 ((sumN sizeI l:Nat):Int),.int .i64 ((maxN deepI l:Nat):Int)],.agg #[.int .i64 ((sumN sizeB ps+sumN sizeP pts+sumN sizeI l:Nat):Int),.int .i64 ((max (max (maxN deepB ps) (maxN deepP pts)) (maxN deepI l):Nat):Int)],.agg #[.int .i64 ((sumN sizeB ps+sumN sizeP pts+sumN sizeI l+1:Nat):Int),.int .i64 ((max (max (maxN deepB ps) (maxN deepP pts)) (maxN deepI l)+1:Nat):Int)]])
  (by kernel_rfl) rfl rfl rfl (by kernel_rfl) (by kernel_rfl) (by kernel_rfl) (grw_drawn _) grw_trans (mesSp_grw lo _ _) ?hops ?hfin
 case hops=>
  refine ⟨?o0,?o1,?o2,?o3,?o4,?o5,?o6,?o7,?o8,?o9,?o10,?o11,trivial⟩
  all_goals (intro ev W' hG hr hD;have hG:Grw W1 W':=hG;have hc:=hr.const;have hf:=hr.func)
  case o0=>
   have e1:ev (.tmp 1)=.pointer (some ⟨W.heap.size,0,none⟩):=hr.tmp 1 (by kernel_rfl)
   exact Go.GrowQ.ok_val (by simp [execOp,go_sem,e1]) ⟨Below.refl _ _,rfl⟩
  case o1=>
   have e3:ev (.tmp 3)=_:=hD 0 3 (by kernel_rfl)
   have m0:=(hG.cell (p:=⟨W.heap.size,1,none⟩) hbl0).trans y0_1
   exact Go.GrowQ.ok_val (by simp [execOp,go_sem,e3,m0]) ⟨Below.refl _ _,rfl⟩
  case o2=>
   have e4:ev (.tmp 4)=_:=hD 1 4 (by kernel_rfl)
   refine Go.GrowQ.ok_call (f:=151) (args:=#[.slice pp ps.length cp,.func (.func 152) #[] #[]]) (by simp [execOp,go_sem,hc,hf,e4]) ?_
   refine (sumB_any _ ps (by omega) one_sB W' (BsR.later hPs hG) hB).mono ?_
   rintro e W8 ⟨rfl,h2⟩
   exact ⟨_,rfl,h2,rfl⟩
  case o3=>
   have e1:ev (.tmp 1)=.pointer (some ⟨W.heap.size,0,none⟩):=hr.tmp 1 (by kernel_rfl)
   exact Go.GrowQ.ok_val (by simp [execOp,go_sem,e1]) ⟨Below.refl _ _,rfl⟩
  case o4=>
   have e6:ev (.tmp 6)=_:=hD 3 6 (by kernel_rfl)
   have m0:=(hG.cell (p:=⟨W.heap.size,2,none⟩) hbl0).trans y0_2
   exact Go.GrowQ.ok_val (by simp [execOp,go_sem,e6,m0]) ⟨Below.refl _ _,rfl⟩
  case o5=>
   have e7:ev (.tmp 7)=_:=hD 4 7 (by kernel_rfl)
   refine Go.GrowQ.ok_call (f:=153) (args:=#[.slice pt pts.length ct,.func (.func 154) #[] #[]]) (by simp [execOp,go_sem,hc,hf,e7]) ?_
   refine (sumP_any _ pts (by omega) one_sP W' (PsR.later hTs hG) hP).mono ?_
   rintro e W8 ⟨rfl,h2⟩
   exact ⟨_,rfl,h2,rfl⟩
  case o6=>
   have e5:ev (.tmp 5)=_:=hD 2 5 (by kernel_rfl)
   have e8:ev (.tmp 8)=_:=hD 5 8 (by kernel_rfl)
   refine Go.GrowQ.ok_call (f:=150) (args:=#[.agg #[.int .i64 ((sumN sizeB ps:Nat):Int),.int .i64 ((maxN deepB ps:Nat):Int)],.agg #[.int .i64 ((sumN sizeP pts:Nat):Int),.int .i64 ((maxN deepP pts:Nat):Int)]]) (by simp [execOp,go_sem,hc,hf,e5,e8]) ?_
   refine (beside_any (sumN sizeB ps) (maxN deepB ps) (sumN sizeP pts) (maxN deepP pts) (by omega) W').mono ?_
   rintro e W8 ⟨rfl,h2⟩
   exact ⟨_,rfl,h2,rfl⟩
  case o7=>
   have e1:ev (.tmp 1)=.pointer (some ⟨W.heap.size,0,none⟩):=hr.tmp 1 (by kernel_rfl)
   exact Go.GrowQ.ok_val (by simp [execOp,go_sem,e1]) ⟨Below.refl _ _,rfl⟩
  case o8=>
   have e10:ev (.tmp 10)=_:=hD 7 10 (by kernel_rfl)
   have m0:=(hG.cell (p:=⟨W.heap.size,3,none⟩) hbl0).trans y0_3
   exact Go.GrowQ.ok_val (by simp [execOp,go_sem,e10,m0]) ⟨Below.refl _ _,rfl⟩
  case o9=>
   have e11:ev (.tmp 11)=_:=hD 8 11 (by kernel_rfl)
   refine Go.GrowQ.ok_call (f:=155) (args:=#[.slice pl l.length cl,.func (.func 156) #[] #[]]) (by simp [execOp,go_sem,hc,hf,e11]) ?_
   refine (sumI_any _ l (by omega) one_sizeI W' (IsR.later hLs hG) hI).mono ?_
   rintro e W8 ⟨rfl,h2⟩
   exact ⟨_,rfl,h2,rfl⟩
  case o10=>
   have e9:ev (.tmp 9)=_:=hD 6 9 (by kernel_rfl)
   have e12:ev (.tmp 12)=_:=hD 9 12 (by kernel_rfl)
   refine Go.GrowQ.ok_call (f:=150) (args:=#[.agg #[.int .i64 ((sumN sizeB ps+sumN sizeP pts:Nat):Int),.int .i64 ((max (maxN deepB ps) (maxN deepP pts):Nat):Int)],.agg #[.int .i64 ((sumN sizeI l:Nat):Int),.int .i64 ((maxN deepI l:Nat):Int)]]) (by simp [execOp,go_sem,hc,hf,e9,e12]) ?_
   refine (beside_any (sumN sizeB ps+sumN sizeP pts) (max (maxN deepB ps) (maxN deepP pts)) (sumN sizeI l) (maxN deepI l) (by omega) W').mono ?_
   rintro e W8 ⟨rfl,h2⟩
   exact ⟨_,rfl,h2,rfl⟩
  case o11=>
   have e13:ev (.tmp 13)=_:=hD 10 13 (by kernel_rfl)
   refine Go.GrowQ.ok_call (f:=131) (args:=#[.agg #[.int .i64 ((sumN sizeB ps+sumN sizeP pts+sumN sizeI l:Nat):Int),.int .i64 ((max (max (maxN deepB ps) (maxN deepP pts)) (maxN deepI l):Nat):Int)]]) (by simp [execOp,go_sem,hc,hf,e13]) ?_
   refine (within_any (sumN sizeB ps+sumN sizeP pts+sumN sizeI l) (max (max (maxN deepB ps) (maxN deepP pts)) (maxN deepI l)) (by omega) (by omega) W').mono ?_
   rintro e W8 ⟨rfl,h2⟩
   exact ⟨_,rfl,h2,rfl⟩
 case hfin=>
  intro zz W' hG hzz
  have hG:Grw W1 W':=hG
  have h9:zz 11=.agg #[.int .i64 ((sumN sizeB ps+sumN sizeP pts+sumN sizeI l+1:Nat):Int),.int .i64 ((max (max (maxN deepB ps) (maxN deepP pts)) (maxN deepI l)+1:Nat):Int)]:=hzz 11 (by decide)
  have hMM:=hM2.later hG
  obtain ⟨sa,hsa⟩:∃ n:Nat,n=sumN sizeB ps+sumN sizeP pts+sumN sizeI l+1:=⟨_,rfl⟩
  obtain ⟨sd,hsd⟩:∃ n:Nat,n=max (max (maxN deepB ps) (maxN deepP pts)) (maxN deepI l)+1:=⟨_,rfl⟩
  rw [← hsa,← hsd] at h9
  have HSA:=hid hsa
  have HSD:=hid hsd
  clear hsa hsd
  have hset:=hMM.set (sa) (sd)
  obtain ⟨m0,m1,f0,f1,f2,f3⟩:=store2 hMM (sa) (sd)
  push_cast at m0 m1 f2 f3 h9
  refine ⟨_,_,(show (execOp _ _).run Tryz.prog W'=.ok .skip ((W'.setCell ⟨W.heap.size+1,0,none⟩ (.int .i64 ((sa:Nat):Int))).setCell ⟨W.heap.size+1,1,none⟩ (.int .i64 ((sd:Nat):Int))) from ?_),.inr ⟨rfl,?_⟩⟩
  ·simp [execOp,go_sem,Go.GrowQ.putAll,Act.put,Act.eval,h9,m0,m1,f0,f1,f2,f3]
  ·simp only [List.take_succ_cons,List.take_zero,Go.GrowQ.putAll,Act.put,List.setIfInBounds_toArray,List.set_cons_zero,List.set_cons_succ]
   go_wp2_with fail
   refine bodyPost_ret (v:=.agg #[.int .i64 ((sa:Nat):Int),.int .i64 ((sd:Nat):Int)]) ?_ rfl ⟨by rw [HSA.out,HSD.out],?_⟩
   ·obtain ⟨r0,r1,_,_⟩:=hset.1.cells
    push_cast at r0 r1
    simp [results,Tryz.results85,go_sem,r0,r1]
   ·exact (B2.trans (Below.mono hG (by omega))).grown hset.2 (Nat.le_trans B2.size hG.size) (fun k e=>by cases e;omega)
theorem measM_ok (m:Md) (hsz:sizeM m≤1000000):MeasM m:=by
 intro W cs hR
 obtain ⟨vp,vt,vi,rfl,hP,hT,hL⟩:=hR
 have hP0:=hP
 have hT0:=hT
 have hL0:=hL
 obtain ⟨pp,cp,rfl,_⟩:=hP
 obtain ⟨pt,ct,rfl,_⟩:=hT
 obtain ⟨pl,cl,rfl,_⟩:=hL
 unfold sizeM at hsz
 rw [sizeIs_sum] at hsz
 have:=ofM_walk m.name m.ps m.pts m.l pp pt pl cp ct cl W hP0 hT0 hL0 (by omega) (fun y hy=>measB_ok y (by have:=sumN_mem sizeB hy;omega)) (fun y hy=>measP_ok y (by have:=sumN_mem sizeP hy;omega)) (fun y hy=>measI_ok y (by have:=sumN_mem sizeI hy;omega))
 rw [show sizeM m=sumN sizeB m.ps+sumN sizeP m.pts+sumN sizeI m.l+1 by rw [sizeM,sizeIs_sum],show deepM m=max (max (maxN deepB m.ps) (maxN deepP m.pts)) (maxN deepI m.l)+1 by rw [deepM,deepIs_max]]
 exact this
end Go.Proofs.YtlcfpdmicpggbaaGreatDoor
namespace Go.Proofs.Spl
open Go.Lib (hid)
open Go.Proofs.Scn
theorem sumN_cons {α:Type} (f:α→Nat) (a:α) (l:List α):sumN f (a :: l)=f a+sumN f l:=rfl
theorem sumN_map {α β:Type} (g:α→β) (f:β→Nat):∀ l:List α,sumN f (l.map g)=sumN (fun x=>f (g x)) l
 | []=>rfl
 | a :: l=>by rw [List.map_cons,sumN_cons,sumN_map g f l];rfl
theorem sumN_le {α:Type} {f g:α→Nat}:∀ {l:List α},(∀ x ∈ l,f x≤g x)→sumN f l≤sumN g l
 | [],_=>Nat.le_refl _
 | a :: l,h=>by
  have h1:=h a (by simp)
  have h2:=sumN_le (l:=l) (fun x hx=>h x (by simp [hx]))
  rw [sumN_cons,sumN_cons];omega
theorem sumN_mul {α:Type} (f:α→Nat) (k:Nat):∀ l:List α,sumN (fun x=>k * f x) l=k * sumN f l
 | []=>rfl
 | a :: l=>by rw [sumN_cons,sumN_cons,sumN_mul f k l,Nat.mul_add]
theorem sep_len (s:Ln):∀ l:List (List Tok),(sepS s l).length≤sumN (fun t=>t.length+1) l
 | []=>Nat.le_refl _
 | [a]=>by rw [sumN_cons];simp only [sepS];omega
 | a :: b :: r=>by
  have:=sep_len s (b :: r)
  rw [sumN_cons]
  simp only [sepS,List.length_append,List.length_cons]
  omega
theorem flat_len:∀ l:List (List Tok),l.flatten.length=sumN List.length l
 | []=>rfl
 | a :: l=>by rw [List.flatten_cons,List.length_append,flat_len l];rfl
theorem in_len (o c:UInt8) (l:List Tok):(inT o c l).length=l.length+2:=by simp [inT]
theorem par_len (l:List Tok):(parT l).length=l.length+2:=in_len _ _ l
theorem bra_len (l:List Tok):(braT l).length=l.length+2:=in_len _ _ l
theorem cub_len (l:List Tok):(cubT l).length=l.length+2:=in_len _ _ l
theorem part_len (k:Nat × List Tok) (n:Nat):(partT k n).length≤k.2.length+2:=by
 unfold partT
 split
 ·rw [par_len];exact Nat.le_refl _
 ·omega
theorem node_len (op:Int) (name:Ln) (n w:Int) (v:Nat) (ks:List (Nat × List Tok)):(nodeT op name n w v ks).length≤5+sumN (fun k=>k.2.length+3) ks:=by
 have hsep:∀ s,(sepS s (ks.map Prod.snd)).length≤sumN (fun k=>k.2.length+3) ks:=fun s=>by
  refine Nat.le_trans (sep_len s _) ?_
  rw [sumN_map]
  exact sumN_le fun k _=>by omega
 have h58:=hsep [58]
 have h44:=hsep [44]
 unfold nodeT
 split
 ·simp only [List.length_cons,List.length_nil];omega
 split
 ·simp only [List.length_cons,List.length_nil];omega
 split
 ·simp only [List.length_cons,bra_len];omega
 split
 ·split
  ·rename_i a
   have:=part_len a 11
   simp only [List.length_cons,sumN_cons];omega
  ·simp
 split
 ·split
  ·rename_i a b
   have h1:=part_len a (twoR n)
   have h2:=part_len b (twoR n+1)
   simp only [List.length_cons,List.length_append,sumN_cons];omega
  ·simp
 split
 ·split
  ·rename_i a b c
   have h1:=part_len a 1
   simp only [List.length_cons,List.length_append,sumN_cons];omega
  ·simp
 split
 ·rw [cub_len];omega
 split
 ·split
  ·rename_i a b
   simp only [cub_len,List.length_append,sumN_cons];omega
  ·simp
 ·simp only [List.length_cons,par_len];omega
theorem expr_len:∀ x:X,(exprT x).length+3≤8 * sizeX x:=by
 refine X.ind ?_
 intro x ih
 rw [exprT_eq,sizeX_eq,sizeXs_sum]
 have h:=node_len x.op x.name x.n x.w x.v (x.l.map fun y=>(rankX y,exprT y))
 rw [sumN_map] at h
 have h:_≤5+sumN (fun y=>(exprT y).length+3) x.l:=h
 have h2:=sumN_le (l:=x.l) (f:=fun y=>(exprT y).length+3) (g:=fun y=>8 * sizeX y) ih
 rw [sumN_mul] at h2
 omega
theorem exprs_len (s:Ln) (l:List X):(sepS s (l.map exprT)).length≤8 * sumN sizeX l:=by
 refine Nat.le_trans (sep_len s _) ?_
 rw [sumN_map,← sumN_mul]
 exact sumN_le fun x _=>by have:=expr_len x;omega
theorem st_len (put:Ln) (op:Int) (name:Ln) (x:List X) (l:List S) (ts:List (List Tok)):(stT put op name x l ts).length≤8+8 * sumN sizeX x+sumN List.length ts:=by
 have h1:=exprs_len put x
 have h2:=exprs_len [44] x
 have h3:=exprs_len [46,46] x
 have h4:=flat_len ts
 unfold stT
 split
 ·simp only [List.length_append,List.length_cons,List.length_nil];omega
 split
 ·split
  ·simp only [List.length_cons,List.length_append,par_len,listT,sumN_cons]
   split <;> simp only [List.length_cons,List.length_nil] <;> omega
  ·simp
 split
 ·simp only [List.length_cons,List.length_append,par_len,cub_len,listT];omega
 split
 ·split
  ·simp only [List.length_cons,List.length_append,cub_len,listT];omega
  ·split
   ·simp
   ·simp only [List.length_cons,cub_len];omega
 split
 ·simp only [List.length_cons,List.length_append,cub_len,spanT,par_len];omega
 ·rw [cub_len];omega
theorem stmt_len (put:Ln):∀ s:S,(stmtT put s).length≤8 * sizeS s:=by
 refine S.ind ?_
 intro s ih
 rw [stmtT_eq,sizeS_eq,sizeXs_sum,sizeSs_sum]
 have h:=st_len put s.op s.name s.x s.l (s.l.map (stmtT put))
 rw [sumN_map] at h
 have h2:=sumN_le (l:=s.l) (f:=fun y=>(stmtT put y).length) (g:=fun y=>8 * sizeS y) ih
 rw [sumN_mul] at h2
 omega
theorem block_len (put:Ln) (l:List S):(blockT put l).length≤8 * sumN sizeS l+2:=by
 unfold blockT
 rw [cub_len,stmtsT_map,flat_len,sumN_map,← sumN_mul]
 have:=sumN_le (l:=l) (f:=fun y=>(stmtT put y).length) (g:=fun y=>8 * sizeS y) (fun y _=>stmt_len put y)
 omega
theorem binds_len (l:List Bd):(bindsT l).length≤8 * sumN sizeB l+2:=by
 unfold bindsT
 rw [par_len]
 have h:=sep_len [44] (l.map bindT)
 rw [sumN_map] at h
 have h2:=sumN_le (l:=l) (f:=fun b=>(bindT b).length+1) (g:=fun b=>8 * sizeB b) (fun b _=>by
  have:=expr_len b.x
  simp only [bindT,List.length_cons,sizeB];omega)
 rw [sumN_mul] at h2
 omega
theorem params_len (l:List Bd):(paramsT l).length≤8 * sumN sizeB l+3:=by
 unfold paramsT
 split
 ·simp
 ·have:=binds_len l
  simp only [List.length_cons];omega
theorem it_len (op:Int) (name f:Ln) (x:List X) (s:List S) (e:List It) (ps bs:List Bd) (tl te:List (List Tok)):(itT op name f x s e ps bs tl te).length≤16+8 * sumN sizeX x+8 * sumN sizeS s+8 * sumN sizeB ps+8 * sumN sizeB bs+sumN List.length tl+sumN List.length te:=by
 have h1:=exprs_len [61] x
 have h2:=exprs_len [44] x
 have h3:=exprs_len [46,46] x
 have h4:=flat_len tl
 have h5:=flat_len te
 have h6:=block_len [61] s
 have h7:=block_len [60,61] s
 have h8:=params_len ps
 have h9:=binds_len bs
 unfold itT
 repeat' split
 all_goals simp only [List.length_cons,List.length_append,List.length_nil,par_len,cub_len,listT,spanT]
 all_goals omega
theorem item_len:∀ t:It,(itemT t).length≤16 * sizeI t:=by
 refine It.ind ?_
 intro t ihl ihe
 obtain ⟨op,name,f,x,s,l,e,ps,bb⟩:=t
 rw [itemT_eq,sizeI,sizeXs_sum,sizeSs_sum,sizeIs_sum,sizeIs_sum]
 simp only [It.op,It.name,It.of,It.x,It.s,It.l,It.e,It.ps,It.bs] at ihl ihe ⊢
 have h:=it_len op name f x s e ps bb (l.map itemT) (e.map itemT)
 rw [sumN_map,sumN_map] at h
 have h2:=sumN_le (l:=l) (f:=fun y=>(itemT y).length) (g:=fun y=>16 * sizeI y) ihl
 have h3:=sumN_le (l:=e) (f:=fun y=>(itemT y).length) (g:=fun y=>16 * sizeI y) ihe
 rw [sumN_mul] at h2 h3
 omega
theorem module_len (m:Md):(moduleT m).length≤16 * sizeM m:=by
 obtain ⟨n,ps,pts,l⟩:=m
 unfold moduleT sizeM
 rw [itemsT_map,sizeIs_sum]
 have h8:=params_len ps
 have h5:=flat_len (l.map itemT)
 rw [sumN_map] at h5
 have h2:=sumN_le (l:=l) (f:=fun y=>(itemT y).length) (g:=fun y=>16 * sizeI y) (fun y _=>item_len y)
 have h:=sep_len [44] (pts.map portT)
 rw [sumN_map] at h
 have h3:=sumN_le (l:=pts) (f:=fun b=>(portT b).length+1) (g:=fun b=>16 * sizeP b) (fun b _=>by
  have:=expr_len b.w
  simp only [portT,List.length_cons,sizeP];omega)
 rw [sumN_mul] at h2 h3
 simp only [List.length_cons,List.length_append,par_len,cub_len]
 omega
theorem file_len (f:List Md):(fileT f).length≤16 * sumN sizeM f:=by
 unfold fileT
 rw [flat_len,sumN_map,← sumN_mul]
 exact sumN_le fun m _=>module_len m
end Go.Proofs.Spl
