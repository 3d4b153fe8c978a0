/- Texts of the seat, merged. -/
import Derived.Test.YtlcfpdmicpggbaaGreatDoorD4
set_option linter.unusedVariables false
set_option linter.unusedSimpArgs false
set_option maxRecDepth 100000
set_option maxHeartbeats 16000000
namespace Go.Proofs.YtlcfpdmicpggbaaGreatDoor
open Go.Lib (hid)
open Go.RowKit Go.Proofs.Spl Go.Proofs.Scn Go.Shelf Go.GrowQ
def Grq (a b:World):Prop:=Below a.heap.size a b
theorem grq_trans {a b c:World} (h:Grq a b) (k:Grq b c):Grq a c:=h.trans (k.mono h.size)
theorem grown_of_below {a b:World} (h:Grq a b) (row:Option Nat):a.grownBy b row:=by
 obtain ⟨h1,h2,h3,h4,h5⟩:=h
 exact ⟨h1,h2,h3,h4,fun k hk _=>h5 k hk⟩
theorem grown_trans {a b c:World} {row:Option Nat} (h:a.grownBy b row) (k:b.grownBy c row):a.grownBy c row:=by
 obtain ⟨h1,h2,h3,h4,h5⟩:=h
 obtain ⟨k1,k2,k3,k4,k5⟩:=k
 exact ⟨k1.trans h1,k2.trans h2,k3.trans h3,Nat.le_trans h4 k4,fun j hj hn=>(k5 j (Nat.lt_of_lt_of_le hj h4) hn).trans (h5 j hj hn)⟩
def MBox (W:World) (B s d:Nat):Prop:=W.heap[B]?=some (.cells #[.int .i64 s,.int .i64 d] 98 (0,0))
theorem MBox.cells {W:World} {B s d:Nat} (h:MBox W B s d):W.cell? ⟨B,0,none⟩=some (.int .i64 s)∧W.cell? ⟨B,1,none⟩=some (.int .i64 d)∧W.frozen? ⟨B,0,none⟩=false∧W.frozen? ⟨B,1,none⟩=false:=by
 unfold MBox at h
 refine ⟨?_,?_,?_,?_⟩ <;> simp [World.cell?,World.frozen?,h]
theorem MBox.lt {W:World} {B s d:Nat} (h:MBox W B s d):B<W.heap.size:=(Array.getElem?_eq_some_iff.1 h).1
theorem MBox.later {W W':World} {B s d:Nat} (h:MBox W B s d) (hb:Grq W W'):MBox W' B s d:=(hb.block B h.lt).trans h
theorem setCell_row {W:World} {B o:Nat} {v:Value} {cs:Array Value} {e:TypeId} {fr:Nat × Nat} (h:W.heap[B]?=some (.cells cs e fr)):(W.setCell ⟨B,o,none⟩ v).heap[B]?=some (.cells (cs.setIfInBounds o v) e fr):=by
 obtain ⟨hlt,hk⟩:=Array.getElem?_eq_some_iff.1 h
 show (W.heap.modify B _)[B]?=_
 rw [Array.getElem?_eq_getElem (by rw [Array.size_modify];exact hlt),Array.getElem_modify_self,hk]
 rfl
theorem grown_setCell (W:World) (b o:Nat) (v:Value):W.grownBy (W.setCell ⟨b,o,none⟩ v) (some b):=
 ⟨rfl,rfl,rfl,(KeepsWalks.setCell W _ v).size,fun k _ hk=>Below.heap_setCell _ _ _ k (fun e=>hk (by rw [e]))⟩
theorem MBox.set {W:World} {B s d:Nat} (h:MBox W B s d) (s' d':Nat):MBox ((W.setCell ⟨B,0,none⟩ (.int .i64 s')).setCell ⟨B,1,none⟩ (.int .i64 d')) B s' d'∧W.grownBy ((W.setCell ⟨B,0,none⟩ (.int .i64 s')).setCell ⟨B,1,none⟩ (.int .i64 d')) (some B):=
 ⟨setCell_row (setCell_row h),grown_trans (grown_setCell _ _ _ _) (grown_setCell _ _ _ _)⟩
theorem maxN_snoc {α:Type} (f:α→Nat) (l:List α) (x:α):maxN f (l ++ [x])=max (maxN f l) (f x):=by
 induction l with
 | nil=>simp [maxN]
 | cons a l ih=>
  have e:maxN f (a :: l ++ [x])=max (f a) (maxN f (l ++ [x])):=rfl
  have e2:maxN f (a :: l)=max (f a) (maxN f l):=rfl
  rw [e,ih,e2]
  omega
theorem sumN_snoc {α:Type} (f:α→Nat) (l:List α) (x:α):sumN f (l ++ [x])=sumN f l+f x:=by
 induction l with
 | nil=>simp [sumN]
 | cons a l ih=>
  have e:sumN f (a :: l ++ [x])=f a+sumN f (l ++ [x]):=rfl
  have e2:sumN f (a :: l)=f a+sumN f l:=rfl
  rw [e,ih,e2]
  omega
theorem sumN_take {α:Type} (f:α→Nat) (l:List α) (k:Nat):sumN f (l.take k)≤sumN f l:=by
 induction l generalizing k with
 | nil=>simp
 | cons a l ih=>
  cases k with
  | zero=>exact Nat.zero_le _
  | succ k=>
   have:=ih k
   have e2:sumN f (a :: l)=f a+sumN f l:=rfl
   have e3:sumN f ((a :: l).take (k+1))=f a+sumN f (l.take k):=rfl
   omega
def sumSp (B s d:Nat) (l:List Value) (i:Nat) (W:World) (v:Value):Prop:=if i=5 then MBox W B s d else v=l.getD i undef
def sumG (B i:Nat) (a b:World):Prop:=if i=5 then a.grownBy b (some B) else Grq a b
def sumH (B:Nat) (f:Bool) (a b:World):Prop:=if f then a.grownBy b (some B) else Grq a b
theorem sumG_refl (B i:Nat) (h:i ≠ 5) (W:World):sumG B i W W:=by unfold sumG;rw [if_neg h];exact Below.refl _ _
theorem sumG_of {B i:Nat} (h:i ≠ 5) {W W':World} (k:Grq W W'):sumG B i W W':=by unfold sumG;rw [if_neg h];exact k
theorem sum_tr (B:Nat) (i:Nat) (a b c:World) (h:sumH B (decide (5<i)) a b) (k:sumG B i b c):sumH B (decide (5≤i)) a c:=by
 unfold sumH sumG at *
 rcases Nat.lt_trichotomy i 5 with h1 | h1 | h1
 ·rw [if_neg (by simp;omega)] at h ⊢
  rw [if_neg (by omega)] at k
  exact grq_trans h k
 ·subst h1
  rw [if_neg (by simp)] at h
  rw [if_pos rfl] at k
  rw [if_pos (by simp)]
  exact grown_trans (grown_of_below h _) k
 ·rw [if_pos (by simp;omega)] at h
  rw [if_neg (by omega)] at k
  rw [if_pos (by simp;omega)]
  exact grown_trans h (grown_of_below k _)
theorem sum_mono (B s d:Nat) (l:List Value) (i j:Nat) (W W':World) (v:Value) (hij:i ≠ j) (hn:¬ (5≤j∧i<j)) (hg:sumG B i W W') (h:sumSp B s d l j W v):sumSp B s d l j W' v:=by
 unfold sumSp sumG at *
 by_cases h5:j=5
 ·subst h5
  rw [if_pos rfl] at h ⊢
  rw [if_neg (by omega)] at hg
  exact (hg.block B (Array.getElem?_eq_some_iff.1 h).1).trans h
 ·rw [if_neg h5] at h ⊢
  exact h
theorem beside_any (a b c d:Nat) (h1:a+c≤1000000000) (W:World):Calls Tryz.prog 150 #[.agg #[.int .i64 a,.int .i64 b],.agg #[.int .i64 c,.int .i64 d]] W fun e W'=>e=.returned (.agg #[.int .i64 ((a+c:Nat):Int),.int .i64 ((max b d:Nat):Int)])∧Below W.heap.size W W':=by
 have hw:IntKind.i64.wrap ((a:Int)+(c:Int))=(a:Int)+(c:Int):=Go.IntWalk.i64_in _ (by omega)
 have hw2:wrap64 ((a:Int)+(c:Int))=(a:Int)+(c:Int):=Go.IntWalk.wrap64_in _ (by omega)
 have hm:max (b:Int) (d:Int)=((max b d:Nat):Int):=by omega
 go_enter Tryz.func150,Tryz.ntmps150
 go_wp2
 refine bodyPost_ret (v:=.agg #[.int .i64 ((a+c:Nat):Int),.int .i64 ((max b d:Nat):Int)]) ?_ rfl ⟨rfl,?_⟩
 ·simp [results,Tryz.results150,go_sem]
 ·exact (((Below.refl _ _).alloc (Nat.le_refl _) _).alloc (by simp) _).alloc (by simp;omega) _
theorem within_any (a b:Nat) (h1:a≤1000000000) (h2:b≤1000000000) (W:World):Calls Tryz.prog 131 #[.agg #[.int .i64 a,.int .i64 b]] W fun e W'=>e=.returned (.agg #[.int .i64 ((a+1:Nat):Int),.int .i64 ((b+1:Nat):Int)])∧Below W.heap.size W W':=by
 have hw:IntKind.i64.wrap ((a:Int)+1)=(a:Int)+1:=Go.IntWalk.i64_in _ (by omega)
 have hw2:wrap64 ((a:Int)+1)=(a:Int)+1:=Go.IntWalk.wrap64_in _ (by omega)
 have hw3:IntKind.i64.wrap ((b:Int)+1)=(b:Int)+1:=Go.IntWalk.i64_in _ (by omega)
 have hw4:wrap64 ((b:Int)+1)=(b:Int)+1:=Go.IntWalk.wrap64_in _ (by omega)
 go_enter Tryz.func131,Tryz.ntmps131
 go_wp2
 refine bodyPost_ret (v:=.agg #[.int .i64 ((a+1:Nat):Int),.int .i64 ((b+1:Nat):Int)]) ?_ rfl ⟨rfl,?_⟩
 ·simp [results,Tryz.results131,go_sem]
 ·exact ((Below.refl _ _).alloc (Nat.le_refl _) _).alloc (by simp) _
def GoodX (y:X):Prop:=∀ (W:World) (cs:List Value),BaseA W→XR W y cs→Calls Tryz.prog 68 #[.agg cs.toArray] W fun e W'=>e=.returned (.bool (okX y))∧Below W.heap.size W W'
def MeasX (y:X):Prop:=∀ (W:World) (cs:List Value),XR W y cs→Calls Tryz.prog 66 #[.agg cs.toArray] W fun e W'=>e=.returned (.agg #[.int .i64 (sizeX y:Nat),.int .i64 (deepX y:Nat)])∧Below W.heap.size W W'
theorem allX_any (v:Value) (l:List X) (hl:l.length≤1000000000) (W:World) (hB:BaseA W) (hR:XsR W v l) (hE:∀ y ∈ l,GoodX y) :
  Calls Tryz.prog 133 #[v,.func (.func 68) #[] #[]] W fun e W'=>e=.returned (.bool (l.all okX))∧Below W.heap.size W W':=by
 obtain ⟨p,cap,rfl,hcap,hcell⟩:=hR
 have HE:=hid hE
 have HC:=hid hcell
 have HBs:=hid hB
 clear hE hcell hB
 go_enter Tryz.func133,Tryz.ntmps133
 go_wp2
 go_loopw [9] (fun i wr=>∃ k:Nat,i=.int .i64 k∧k≤l.length∧Hid (Below W.heap.size W wr)∧Hid (∀ j (h:j<l.length),j<k→okX l[j]=true)) (fun i _=>l.length - (intOf i).toNat)
 case atStart=>exact ⟨0,rfl,Nat.zero_le _,hid (Below.refl _ _),hid (fun j h hj=>by omega)⟩
 case round=>
  obtain ⟨k,rfl,hk,HW,HA⟩:=hrel
  by_cases hlt:k<l.length
  ·have hlt':(k:Int)<(l.length:Int):=by omega
   rcases HC.out with hc | ⟨q,off,rfl,hq,hc⟩
   ·subst hc;simp at hlt
   obtain ⟨cs,hR,hcs⟩:=hc k hlt
   have hB:=HW.out
   have hel:=HE.out _ (List.getElem_mem hlt)
   have hR0:=hid hR
   clear hR hc
   obtain ⟨_,ls,rfl,hL⟩:=XR_iff.1 hR0.out
   obtain ⟨pl,cl,rfl,_⟩:=hL
   have hRr:=XR.later hB _ _ hR0.out
   obtain ⟨x0,x1,x2,x3,x4,x5⟩:=rows6 hB hq hcs
   have HV:=hid (XR.later ((Below.refl wr.heap.size wr).alloc (Nat.le_refl _) (.cells #[.int .i64 l[k].op,.string (bs l[k].name),.int .i64 l[k].n,.int .i64 l[k].w,.int .u64 l[k].v,.slice pl l[k].l.length cl] 28)) _ _ hRr)
   have HBV:=hid (HBs.out.later (hB.alloc hB.size (.cells #[.int .i64 l[k].op,.string (bs l[k].name),.int .i64 l[k].n,.int .i64 l[k].w,.int .u64 l[k].v,.slice pl l[k].l.length cl] 28)))
   have HEL:=hid hel
   have HNX:=hid (fun (h:okX l[k]=true)=>show ∀ j (h:j<l.length),j<k+1→okX l[j]=true from fun j h1 h2=>by
    rcases Nat.lt_or_ge j k with h3 | h3
    ·exact HA.out j h1 h3
    ·have:j=k:=by omega
     subst this;exact h)
   have HNO:=hid (fun (h:okX l[k]=false)=>show l.all okX=false from by
    rw [Bool.eq_false_iff]
    intro e
    rw [List.all_eq_true.1 e _ (List.getElem_mem hlt)] at h
    cases h)
   clear hel hRr hcs
   generalize l[k]=y at *
   cases hok:okX y with
   | true=>
    have HOK:=hid (HNX.out hok)
    have HY:=hid hok
    clear hok
    go_wp2_with (go_at_call 68;refine (HEL.out _ _ HBV.out HV.out).mono ?_;rintro e W5 ⟨rfl,h2⟩;have H2:=hid h2;clear h2;rw [HY.out])
    go_roundw
    case rel=>exact ⟨k+1,by go_num,hlt,hid (HW.out.trans ((((Below.refl wr.heap.size wr).alloc (Nat.le_refl _) _).trans (H2.out.mono (by simp))).mono HW.out.size)),HOK⟩
    case measure=>simp [intOf];omega
   | false=>
    have HOK:=hid (HNO.out hok)
    have HY:=hid hok
    clear hok
    go_wp2_with (go_at_call 68;refine (HEL.out _ _ HBV.out HV.out).mono ?_;rintro e W5 ⟨rfl,h2⟩;have H2:=hid h2;clear h2;rw [HY.out])
    go_ret
    exact ⟨ret_bool HOK.out.symm,HW.out.trans ((((Below.refl wr.heap.size wr).alloc (Nat.le_refl _) _).trans (H2.out.mono (by simp))).mono HW.out.size)⟩
  ·have hge:¬ ((k:Int)<(l.length:Int)):=by omega
   have HALL:=hid (show l.all okX=true from List.all_eq_true.2 fun x hx=>by
    obtain ⟨j,hj,rfl⟩:=List.getElem_of_mem hx
    exact HA.out j hj (by omega))
   go_wp2
   go_ret
   exact ⟨ret_bool HALL.out.symm,HW.out⟩
theorem sumX_any (v:Value) (l:List X) (hl:sumN sizeX l≤1000000000) (h1:∀ y,1≤sizeX y) (W:World) (hR:XsR W v l) (hE:∀ y ∈ l,MeasX y) :
  Calls Tryz.prog 130 #[v,.func (.func 66) #[] #[]] W fun e W'=>e=.returned (.agg #[.int .i64 (sumN sizeX l:Nat),.int .i64 (maxN deepX l:Nat)])∧Below W.heap.size W W':=by
 have hll:l.length≤1000000000:=Nat.le_trans (sumN_len sizeX h1 l) hl
 obtain ⟨p,cap,rfl,hcap,hcell⟩:=hR
 have HE:=hid hE
 have HC:=hid hcell
 have HL:=hid hl
 clear hE hcell hl h1
 have hr0:MBox (W.alloc (.cells #[.int .i64 0,.int .i64 0] 98)) W.heap.size 0 0:=World.alloc_heap_new W _
 have hb1:=(Below.refl W.heap.size W).alloc (Nat.le_refl _) (.cells #[.int .i64 0,.int .i64 0] 98)
 have hs1:=World.size_alloc W (.cells #[.int .i64 0,.int .i64 0] 98)
 have HR0:=hid hr0
 have HB1:=hid hb1
 have HS1:=hid hs1
 clear hr0 hb1 hs1
 go_enter Tryz.func130,Tryz.ntmps130
 go_wp2
 have HW2:=hid (show Below W.heap.size W ((W.alloc (.cells #[.int .i64 0,.int .i64 0] 98)).alloc (.cells #[.int .i64 0,.int .i64 0] 98)) from HB1.out.alloc HB1.out.size _)
 have HM2:=hid (show MBox ((W.alloc (.cells #[.int .i64 0,.int .i64 0] 98)).alloc (.cells #[.int .i64 0,.int .i64 0] 98)) W.heap.size 0 0 from HR0.out.later ((Below.refl _ _).alloc (Nat.le_refl _) _))
 have HN2:=hid (show MBox ((W.alloc (.cells #[.int .i64 0,.int .i64 0] 98)).alloc (.cells #[.int .i64 0,.int .i64 0] 98)) (W.heap.size+1) 0 0 from by
  have:=World.alloc_heap_new (W.alloc (.cells #[.int .i64 0,.int .i64 0] 98)) (.cells #[.int .i64 0,.int .i64 0] 98)
  rwa [HS1.out] at this)
 generalize (W.alloc (.cells #[.int .i64 0,.int .i64 0] 98)).alloc (.cells #[.int .i64 0,.int .i64 0] 98)=W2 at *
 go_loopw [10] (fun i wr=>∃ k:Nat,i=.int .i64 k∧k≤l.length∧Hid (Below W.heap.size W wr)∧Hid (MBox wr W.heap.size 0 0)∧Hid (MBox wr (W.heap.size+1) (sumN sizeX (l.take k)) (maxN deepX (l.take k)))) (fun i _=>l.length - (intOf i).toNat)
 case atStart=>exact ⟨0,rfl,Nat.zero_le _,HW2,HM2,HN2⟩
 case round=>
  obtain ⟨k,rfl,hk,HW,HM,HN⟩:=hrel
  by_cases hlt:k<l.length
  ·have hlt':(k:Int)<(l.length:Int):=by omega
   rcases HC.out with hc | ⟨q,off,rfl,hq,hc⟩
   ·subst hc;simp at hlt
   obtain ⟨cs,hR,hcs⟩:=hc k hlt
   have hB:=HW.out
   have hel:=HE.out _ (List.getElem_mem hlt)
   have hR0:=hid hR
   clear hR hc
   obtain ⟨_,ls,rfl,hL⟩:=XR_iff.1 hR0.out
   obtain ⟨pl,cl,rfl,_⟩:=hL
   have hRr:=XR.later hB _ _ hR0.out
   obtain ⟨x0,x1,x2,x3,x4,x5⟩:=rows6 hB hq hcs
   have HTK:=hid (show l.take (k+1)=l.take k ++ [l[k]] from (List.take_append_getElem hlt).symm)
   have HSZ:=hid (show sumN sizeX (l.take k)+sizeX l[k]≤1000000000 from by
    have h2:=sumN_take sizeX l (k+1)
    rw [HTK.out,sumN_snoc] at h2
    exact Nat.le_trans h2 HL.out)
   have HRR:=hid hRr
   have HEL:=hid hel
   clear hel hRr hcs
   generalize l[k]=y at *
   go_wp2_with fail
   have HV0:=hid ((Below.refl wr.heap.size wr).alloc (Nat.le_refl _) (.cells #[.int .i64 y.op,.string (bs y.name),.int .i64 y.n,.int .i64 y.w,.int .u64 y.v,.slice pl y.l.length cl] 28))
   have hvb:=World.alloc_heap_new wr (.cells #[.int .i64 y.op,.string (bs y.name),.int .i64 y.n,.int .i64 y.w,.int .u64 y.v,.slice pl y.l.length cl] 28)
   have hvs:=World.size_alloc wr (.cells #[.int .i64 y.op,.string (bs y.name),.int .i64 y.n,.int .i64 y.w,.int .u64 y.v,.slice pl y.l.length cl] 28)
   generalize wr.alloc (.cells #[.int .i64 y.op,.string (bs y.name),.int .i64 y.n,.int .i64 y.w,.int .u64 y.v,.slice pl y.l.length cl] 28)=V at *
   have hwl:wr.heap.size<V.heap.size:=by omega
   have hMV:=HM.out.later HV0.out
   have hNV:=HN.out.later HV0.out
   have hYV:=XR.later HV0.out _ _ HRR.out
   obtain ⟨s,hs⟩:∃ s,s=sumN sizeX (l.take k):=⟨_,rfl⟩
   obtain ⟨dd,hdd⟩:∃ dd,dd=maxN deepX (l.take k):=⟨_,rfl⟩
   rw [← hs,← hdd] at hNV
   refine region_grow_p (sumG (W.heap.size+1)) (sumH (W.heap.size+1)) 5 (sumSp (W.heap.size+1) (s+sizeX y) (max dd (deepX y)) [.agg #[.int .i64 s,.int .i64 dd],.func (.func 66) #[] #[],.agg #[.int .i64 y.op,.string (bs y.name),.int .i64 y.n,.int .i64 y.w,.int .u64 y.v,.slice pl y.l.length cl],.agg #[.int .i64 (sizeX y:Nat),.int .i64 (deepX y:Nat)],.agg #[.int .i64 ((s+sizeX y:Nat):Int),.int .i64 ((max dd (deepX y):Nat):Int)]])
    (by kernel_rfl) rfl (by kernel_rfl) (by kernel_rfl) (show sumH _ false _ _ from ⟨rfl,rfl,rfl,Nat.le_refl _,fun _ _=>rfl⟩) (before_from (by kernel_rfl)) (sum_tr _) (sum_mono _ _ _ _) ?hops ?hfin
   case hops=>
    refine ⟨?o0,?o1,?o2,?o3,?o4,?o5,trivial⟩
    all_goals (intro ev W' hH hr hD;have hG:Grq V W':=hH;have hcc:=hr.const;have hff:=hr.func)
    case o0=>
     have e5:ev (.tmp 5)=.pointer (some ⟨W.heap.size+1,0,none⟩):=hr.tmp 5 (by kernel_rfl)
     obtain ⟨m0,m1,_,_⟩:=(hNV.later hG).cells
     exact ok_val (by simp [execOp,go_sem,e5,m0,m1]) ⟨sumG_refl _ _ (by decide) _,rfl⟩
    case o1=>
     have e1:ev (.tmp 1)=.func (.func 66) #[] #[]:=hr.tmp 1 (by kernel_rfl)
     exact ok_val (by simp [execOp,go_sem,e1]) ⟨sumG_refl _ _ (by decide) _,rfl⟩
    case o2=>
     have e7:ev (.tmp 7)=.pointer (some ⟨wr.heap.size,0,none⟩):=hr.tmp 7 (by kernel_rfl)
     have hv2:=(hG.block _ hwl).trans hvb
     have m0:=box_at hv2 0 (v:=.int .i64 y.op) rfl
     have m1:=box_at hv2 1 (v:=.string (bs y.name)) rfl
     have m2:=box_at hv2 2 (v:=.int .i64 y.n) rfl
     have m3:=box_at hv2 3 (v:=.int .i64 y.w) rfl
     have m4:=box_at hv2 4 (v:=.int .u64 y.v) rfl
     have m5:=box_at hv2 5 (v:=.slice pl y.l.length cl) rfl
     exact ok_val (by simp [execOp,go_sem,e7,m0,m1,m2,m3,m4,m5]) ⟨sumG_refl _ _ (by decide) _,rfl⟩
    case o3=>
     have e15:ev (.tmp 15)=_:=hD 1 15 (by kernel_rfl)
     have e16:ev (.tmp 16)=_:=hD 2 16 (by kernel_rfl)
     refine ok_call (f:=66) (args:=#[.agg #[.int .i64 y.op,.string (bs y.name),.int .i64 y.n,.int .i64 y.w,.int .u64 y.v,.slice pl y.l.length cl]]) (by simp [execOp,go_sem,e15,e16]) ?_
     refine (HEL.out W' _ (XR.later hG _ _ hYV)).mono ?_
     rintro e W5 ⟨rfl,h2⟩
     exact ⟨_,rfl,sumG_of (by decide) h2,rfl⟩
    case o4=>
     have e14:ev (.tmp 14)=_:=hD 0 14 (by kernel_rfl)
     have e17:ev (.tmp 17)=_:=hD 3 17 (by kernel_rfl)
     refine ok_call (f:=150) (args:=#[.agg #[.int .i64 s,.int .i64 dd],.agg #[.int .i64 (sizeX y:Nat),.int .i64 (deepX y:Nat)]]) (by simp [execOp,go_sem,hcc,hff,e14,e17]) ?_
     refine (beside_any s dd (sizeX y) (deepX y) (by rw [hs];exact HSZ.out) W').mono ?_
     rintro e W5 ⟨rfl,h2⟩
     exact ⟨_,rfl,sumG_of (by decide) h2,rfl⟩
    case o5=>
     have e5:ev (.tmp 5)=.pointer (some ⟨W.heap.size+1,0,none⟩):=hr.tmp 5 (by kernel_rfl)
     have e18:ev (.tmp 18)=_:=hD 4 18 (by kernel_rfl)
     have hN5:=hNV.later hG
     obtain ⟨m0,m1,f0,f1⟩:=hN5.cells
     have hset:=hN5.set (s+sizeX y) (max dd (deepX y))
     have f2:(W'.setCell ⟨W.heap.size+1,0,none⟩ (.int .i64 ((s+sizeX y:Nat):Int))).cell? ⟨W.heap.size+1,1,none⟩=some (.int .i64 dd):=(cell_of_row _ _ 1 _ _ _ (setCell_row hN5)).trans rfl
     have f3:(W'.setCell ⟨W.heap.size+1,0,none⟩ (.int .i64 ((s+sizeX y:Nat):Int))).frozen? ⟨W.heap.size+1,1,none⟩=false:=by rw [World.frozen?_setCell];exact f1
     refine .inr (.inl ⟨_,(show (execOp ev _).run Tryz.prog W'=.ok .skip ((W'.setCell ⟨W.heap.size+1,0,none⟩ (.int .i64 ((s+sizeX y:Nat):Int))).setCell ⟨W.heap.size+1,1,none⟩ (.int .i64 ((max dd (deepX y):Nat):Int))) from by simp [execOp,go_sem,e5,e18,m0,m1,f0,f1,f2,f3]),hset.2,hset.1⟩)
   case hfin=>
    intro zz W' hH hzz
    have hG:V.grownBy W' (some (W.heap.size+1)):=hH
    have hfin:MBox W' (W.heap.size+1) (s+sizeX y) (max dd (deepX y)):=hzz 5 (by simp)
    have HG:=hid hG
    have HF:=hid hfin
    have HMV:=hid ((hG.block W.heap.size hMV.lt (by simp)).trans hMV)
    have HSS:=hid hs
    have HDD:=hid hdd
    clear hvb hvs hwl hMV hNV hYV hs hdd hG hfin hzz hH
    simp only [putAll,Act.put,List.setIfInBounds_toArray,List.set_cons_zero,List.set_cons_succ]
    go_wp2_with fail
    go_roundw
    case rel=>exact ⟨k+1,by go_num,hlt,hid ((HW.out.trans (HV0.out.mono HW.out.size)).grown HG.out (Nat.le_trans HW.out.size HV0.out.size) (fun k e=>by cases e;omega)),HMV,by rw [HTK.out,sumN_snoc,maxN_snoc,← HSS.out,← HDD.out];exact HF⟩
    case measure=>simp [intOf];omega
  ·have hge:¬ ((k:Int)<(l.length:Int)):=by omega
   have htk:l.take k=l:=List.take_of_length_le (by omega)
   have hN:=HN.out
   rw [htk] at hN
   have HN3:=hid hN
   obtain ⟨n0,n1,_,_⟩:=hN.cells
   obtain ⟨m0,m1,f0,f1⟩:=HM.out.cells
   clear htk hN
   go_wp2
   refine bodyPost_ret (v:=.agg #[.int .i64 (sumN sizeX l:Nat),.int .i64 (maxN deepX l:Nat)]) ?_ rfl ⟨rfl,?_⟩
   ·obtain ⟨r0,r1,_,_⟩:=(HM.out.set (sumN sizeX l) (maxN deepX l)).1.cells
    simp [results,Tryz.results130,go_sem,r0,r1]
   ·exact HW.out.grown (HM.out.set _ _).2 HW.out.size (fun k e=>by cases e;exact Nat.le_refl _)
def GoodB (y:Bd):Prop:=∀ (W:World) (cs:List Value),BaseA W→BR W y cs→Calls Tryz.prog 160 #[.agg cs.toArray] W fun e W'=>e=.returned (.bool (okB y))∧Below W.heap.size W W'
def MeasB (y:Bd):Prop:=∀ (W:World) (cs:List Value),BR W y cs→Calls Tryz.prog 152 #[.agg cs.toArray] W fun e W'=>e=.returned (.agg #[.int .i64 (sizeB y:Nat),.int .i64 (deepB y:Nat)])∧Below W.heap.size W W'
theorem allB_any (v:Value) (l:List Bd) (hl:l.length≤1000000000) (W:World) (hB:BaseA W) (hR:BsR W v l) (hE:∀ y ∈ l,GoodB y) :
  Calls Tryz.prog 159 #[v,.func (.func 160) #[] #[]] W fun e W'=>e=.returned (.bool (l.all okB))∧Below W.heap.size W W':=by
 obtain ⟨p,cap,rfl,hcap,hcell⟩:=hR
 have HE:=hid hE
 have HC:=hid hcell
 have HBs:=hid hB
 clear hE hcell hB
 go_enter Tryz.func159,Tryz.ntmps159
 go_wp2
 go_loopw [9] (fun i wr=>∃ k:Nat,i=.int .i64 k∧k≤l.length∧Hid (Below W.heap.size W wr)∧Hid (∀ j (h:j<l.length),j<k→okB l[j]=true)) (fun i _=>l.length - (intOf i).toNat)
 case atStart=>exact ⟨0,rfl,Nat.zero_le _,hid (Below.refl _ _),hid (fun j h hj=>by omega)⟩
 case round=>
  obtain ⟨k,rfl,hk,HW,HA⟩:=hrel
  by_cases hlt:k<l.length
  ·have hlt':(k:Int)<(l.length:Int):=by omega
   rcases HC.out with hc | ⟨q,off,rfl,hq,hc⟩
   ·subst hc;simp at hlt
   obtain ⟨cs,hR,hcs⟩:=hc k hlt
   have hB:=HW.out
   have hel:=HE.out _ (List.getElem_mem hlt)
   have hR0:=hid hR
   clear hR hc
   obtain ⟨xs,rfl,hXR⟩:=hR0.out
   obtain ⟨_,ls,rfl,hL⟩:=XR_iff.1 hXR
   obtain ⟨pl,cl,rfl,_⟩:=hL
   have hRr:=BR.later hB _ _ hR0.out
   obtain ⟨x0,x1,x2,x3,x4,x5,x6⟩:=rows7 hB hq hcs
   have HV:=hid (BR.later ((Below.refl wr.heap.size wr).alloc (Nat.le_refl _) (.cells #[.string (bs l[k].name),.int .i64 l[k].x.op,.string (bs l[k].x.name),.int .i64 l[k].x.n,.int .i64 l[k].x.w,.int .u64 l[k].x.v,.slice pl l[k].x.l.length cl] 159)) _ _ hRr)
   have HBV:=hid (HBs.out.later (hB.alloc hB.size (.cells #[.string (bs l[k].name),.int .i64 l[k].x.op,.string (bs l[k].x.name),.int .i64 l[k].x.n,.int .i64 l[k].x.w,.int .u64 l[k].x.v,.slice pl l[k].x.l.length cl] 159)))
   have HEL:=hid hel
   have HNX:=hid (fun (h:okB l[k]=true)=>show ∀ j (h:j<l.length),j<k+1→okB l[j]=true from fun j h1 h2=>by
    rcases Nat.lt_or_ge j k with h3 | h3
    ·exact HA.out j h1 h3
    ·have:j=k:=by omega
     subst this;exact h)
   have HNO:=hid (fun (h:okB l[k]=false)=>show l.all okB=false from by
    rw [Bool.eq_false_iff]
    intro e
    rw [List.all_eq_true.1 e _ (List.getElem_mem hlt)] at h
    cases h)
   clear hel hRr hcs
   generalize l[k]=y at *
   cases hok:okB y with
   | true=>
    have HOK:=hid (HNX.out hok)
    have HY:=hid hok
    clear hok
    go_wp2_with (go_at_call 160;refine (HEL.out _ _ HBV.out HV.out).mono ?_;rintro e W5 ⟨rfl,h2⟩;have H2:=hid h2;clear h2;rw [HY.out])
    go_roundw
    case rel=>exact ⟨k+1,by go_num,hlt,hid (HW.out.trans ((((Below.refl wr.heap.size wr).alloc (Nat.le_refl _) _).trans (H2.out.mono (by simp))).mono HW.out.size)),HOK⟩
    case measure=>simp [intOf];omega
   | false=>
    have HOK:=hid (HNO.out hok)
    have HY:=hid hok
    clear hok
    go_wp2_with (go_at_call 160;refine (HEL.out _ _ HBV.out HV.out).mono ?_;rintro e W5 ⟨rfl,h2⟩;have H2:=hid h2;clear h2;rw [HY.out])
    go_ret
    exact ⟨ret_bool HOK.out.symm,HW.out.trans ((((Below.refl wr.heap.size wr).alloc (Nat.le_refl _) _).trans (H2.out.mono (by simp))).mono HW.out.size)⟩
  ·have hge:¬ ((k:Int)<(l.length:Int)):=by omega
   have HALL:=hid (show l.all okB=true from List.all_eq_true.2 fun x hx=>by
    obtain ⟨j,hj,rfl⟩:=List.getElem_of_mem hx
    exact HA.out j hj (by omega))
   go_wp2
   go_ret
   exact ⟨ret_bool HALL.out.symm,HW.out⟩
theorem sumB_any (v:Value) (l:List Bd) (hl:sumN sizeB l≤1000000000) (h1:∀ y,1≤sizeB y) (W:World) (hR:BsR W v l) (hE:∀ y ∈ l,MeasB y) :
  Calls Tryz.prog 151 #[v,.func (.func 152) #[] #[]] W fun e W'=>e=.returned (.agg #[.int .i64 (sumN sizeB l:Nat),.int .i64 (maxN deepB l:Nat)])∧Below W.heap.size W W':=by
 have hll:l.length≤1000000000:=Nat.le_trans (sumN_len sizeB h1 l) hl
 obtain ⟨p,cap,rfl,hcap,hcell⟩:=hR
 have HE:=hid hE
 have HC:=hid hcell
 have HL:=hid hl
 clear hE hcell hl h1
 have hr0:MBox (W.alloc (.cells #[.int .i64 0,.int .i64 0] 98)) W.heap.size 0 0:=World.alloc_heap_new W _
 have hb1:=(Below.refl W.heap.size W).alloc (Nat.le_refl _) (.cells #[.int .i64 0,.int .i64 0] 98)
 have hs1:=World.size_alloc W (.cells #[.int .i64 0,.int .i64 0] 98)
 have HR0:=hid hr0
 have HB1:=hid hb1
 have HS1:=hid hs1
 clear hr0 hb1 hs1
 go_enter Tryz.func151,Tryz.ntmps151
 go_wp2
 have HW2:=hid (show Below W.heap.size W ((W.alloc (.cells #[.int .i64 0,.int .i64 0] 98)).alloc (.cells #[.int .i64 0,.int .i64 0] 98)) from HB1.out.alloc HB1.out.size _)
 have HM2:=hid (show MBox ((W.alloc (.cells #[.int .i64 0,.int .i64 0] 98)).alloc (.cells #[.int .i64 0,.int .i64 0] 98)) W.heap.size 0 0 from HR0.out.later ((Below.refl _ _).alloc (Nat.le_refl _) _))
 have HN2:=hid (show MBox ((W.alloc (.cells #[.int .i64 0,.int .i64 0] 98)).alloc (.cells #[.int .i64 0,.int .i64 0] 98)) (W.heap.size+1) 0 0 from by
  have:=World.alloc_heap_new (W.alloc (.cells #[.int .i64 0,.int .i64 0] 98)) (.cells #[.int .i64 0,.int .i64 0] 98)
  rwa [HS1.out] at this)
 generalize (W.alloc (.cells #[.int .i64 0,.int .i64 0] 98)).alloc (.cells #[.int .i64 0,.int .i64 0] 98)=W2 at *
 go_loopw [10] (fun i wr=>∃ k:Nat,i=.int .i64 k∧k≤l.length∧Hid (Below W.heap.size W wr)∧Hid (MBox wr W.heap.size 0 0)∧Hid (MBox wr (W.heap.size+1) (sumN sizeB (l.take k)) (maxN deepB (l.take k)))) (fun i _=>l.length - (intOf i).toNat)
 case atStart=>exact ⟨0,rfl,Nat.zero_le _,HW2,HM2,HN2⟩
 case round=>
  obtain ⟨k,rfl,hk,HW,HM,HN⟩:=hrel
  by_cases hlt:k<l.length
  ·have hlt':(k:Int)<(l.length:Int):=by omega
   rcases HC.out with hc | ⟨q,off,rfl,hq,hc⟩
   ·subst hc;simp at hlt
   obtain ⟨cs,hR,hcs⟩:=hc k hlt
   have hB:=HW.out
   have hel:=HE.out _ (List.getElem_mem hlt)
   have hR0:=hid hR
   clear hR hc
   obtain ⟨xs,rfl,hXR⟩:=hR0.out
   obtain ⟨_,ls,rfl,hL⟩:=XR_iff.1 hXR
   obtain ⟨pl,cl,rfl,_⟩:=hL
   have hRr:=BR.later hB _ _ hR0.out
   obtain ⟨x0,x1,x2,x3,x4,x5,x6⟩:=rows7 hB hq hcs
   have HTK:=hid (show l.take (k+1)=l.take k ++ [l[k]] from (List.take_append_getElem hlt).symm)
   have HSZ:=hid (show sumN sizeB (l.take k)+sizeB l[k]≤1000000000 from by
    have h2:=sumN_take sizeB l (k+1)
    rw [HTK.out,sumN_snoc] at h2
    exact Nat.le_trans h2 HL.out)
   have HRR:=hid hRr
   have HEL:=hid hel
   clear hel hRr hcs
   generalize l[k]=y at *
   go_wp2_with fail
   have HV0:=hid ((Below.refl wr.heap.size wr).alloc (Nat.le_refl _) (.cells #[.string (bs y.name),.int .i64 y.x.op,.string (bs y.x.name),.int .i64 y.x.n,.int .i64 y.x.w,.int .u64 y.x.v,.slice pl y.x.l.length cl] 159))
   have hvb:=World.alloc_heap_new wr (.cells #[.string (bs y.name),.int .i64 y.x.op,.string (bs y.x.name),.int .i64 y.x.n,.int .i64 y.x.w,.int .u64 y.x.v,.slice pl y.x.l.length cl] 159)
   have hvs:=World.size_alloc wr (.cells #[.string (bs y.name),.int .i64 y.x.op,.string (bs y.x.name),.int .i64 y.x.n,.int .i64 y.x.w,.int .u64 y.x.v,.slice pl y.x.l.length cl] 159)
   generalize wr.alloc (.cells #[.string (bs y.name),.int .i64 y.x.op,.string (bs y.x.name),.int .i64 y.x.n,.int .i64 y.x.w,.int .u64 y.x.v,.slice pl y.x.l.length cl] 159)=V at *
   have hwl:wr.heap.size<V.heap.size:=by omega
   have hMV:=HM.out.later HV0.out
   have hNV:=HN.out.later HV0.out
   have hYV:=BR.later HV0.out _ _ HRR.out
   obtain ⟨s,hs⟩:∃ s,s=sumN sizeB (l.take k):=⟨_,rfl⟩
   obtain ⟨dd,hdd⟩:∃ dd,dd=maxN deepB (l.take k):=⟨_,rfl⟩
   rw [← hs,← hdd] at hNV
   refine region_grow_p (sumG (W.heap.size+1)) (sumH (W.heap.size+1)) 5 (sumSp (W.heap.size+1) (s+sizeB y) (max dd (deepB y)) [.agg #[.int .i64 s,.int .i64 dd],.func (.func 152) #[] #[],.agg #[.string (bs y.name),.int .i64 y.x.op,.string (bs y.x.name),.int .i64 y.x.n,.int .i64 y.x.w,.int .u64 y.x.v,.slice pl y.x.l.length cl],.agg #[.int .i64 (sizeB y:Nat),.int .i64 (deepB y:Nat)],.agg #[.int .i64 ((s+sizeB y:Nat):Int),.int .i64 ((max dd (deepB y):Nat):Int)]])
    (by kernel_rfl) rfl (by kernel_rfl) (by kernel_rfl) (show sumH _ false _ _ from ⟨rfl,rfl,rfl,Nat.le_refl _,fun _ _=>rfl⟩) (before_from (by kernel_rfl)) (sum_tr _) (sum_mono _ _ _ _) ?hops ?hfin
   case hops=>
    refine ⟨?o0,?o1,?o2,?o3,?o4,?o5,trivial⟩
    all_goals (intro ev W' hH hr hD;have hG:Grq V W':=hH;have hcc:=hr.const;have hff:=hr.func)
    case o0=>
     have e5:ev (.tmp 5)=.pointer (some ⟨W.heap.size+1,0,none⟩):=hr.tmp 5 (by kernel_rfl)
     obtain ⟨m0,m1,_,_⟩:=(hNV.later hG).cells
     exact ok_val (by simp [execOp,go_sem,e5,m0,m1]) ⟨sumG_refl _ _ (by decide) _,rfl⟩
    case o1=>
     have e1:ev (.tmp 1)=.func (.func 152) #[] #[]:=hr.tmp 1 (by kernel_rfl)
     exact ok_val (by simp [execOp,go_sem,e1]) ⟨sumG_refl _ _ (by decide) _,rfl⟩
    case o2=>
     have e7:ev (.tmp 7)=.pointer (some ⟨wr.heap.size,0,none⟩):=hr.tmp 7 (by kernel_rfl)
     have hv2:=(hG.block _ hwl).trans hvb
     have m0:=box_at hv2 0 (v:=.string (bs y.name)) rfl
     have m1:=box_at hv2 1 (v:=.int .i64 y.x.op) rfl
     have m2:=box_at hv2 2 (v:=.string (bs y.x.name)) rfl
     have m3:=box_at hv2 3 (v:=.int .i64 y.x.n) rfl
     have m4:=box_at hv2 4 (v:=.int .i64 y.x.w) rfl
     have m5:=box_at hv2 5 (v:=.int .u64 y.x.v) rfl
     have m6:=box_at hv2 6 (v:=.slice pl y.x.l.length cl) rfl
     exact ok_val (by simp [execOp,go_sem,e7,m0,m1,m2,m3,m4,m5,m6]) ⟨sumG_refl _ _ (by decide) _,rfl⟩
    case o3=>
     have e15:ev (.tmp 15)=_:=hD 1 15 (by kernel_rfl)
     have e16:ev (.tmp 16)=_:=hD 2 16 (by kernel_rfl)
     refine ok_call (f:=152) (args:=#[.agg #[.string (bs y.name),.int .i64 y.x.op,.string (bs y.x.name),.int .i64 y.x.n,.int .i64 y.x.w,.int .u64 y.x.v,.slice pl y.x.l.length cl]]) (by simp [execOp,go_sem,e15,e16]) ?_
     refine (HEL.out W' _ (BR.later hG _ _ hYV)).mono ?_
     rintro e W5 ⟨rfl,h2⟩
     exact ⟨_,rfl,sumG_of (by decide) h2,rfl⟩
    case o4=>
     have e14:ev (.tmp 14)=_:=hD 0 14 (by kernel_rfl)
     have e17:ev (.tmp 17)=_:=hD 3 17 (by kernel_rfl)
     refine ok_call (f:=150) (args:=#[.agg #[.int .i64 s,.int .i64 dd],.agg #[.int .i64 (sizeB y:Nat),.int .i64 (deepB y:Nat)]]) (by simp [execOp,go_sem,hcc,hff,e14,e17]) ?_
     refine (beside_any s dd (sizeB y) (deepB y) (by rw [hs];exact HSZ.out) W').mono ?_
     rintro e W5 ⟨rfl,h2⟩
     exact ⟨_,rfl,sumG_of (by decide) h2,rfl⟩
    case o5=>
     have e5:ev (.tmp 5)=.pointer (some ⟨W.heap.size+1,0,none⟩):=hr.tmp 5 (by kernel_rfl)
     have e18:ev (.tmp 18)=_:=hD 4 18 (by kernel_rfl)
     have hN5:=hNV.later hG
     obtain ⟨m0,m1,f0,f1⟩:=hN5.cells
     have hset:=hN5.set (s+sizeB y) (max dd (deepB y))
     have f2:(W'.setCell ⟨W.heap.size+1,0,none⟩ (.int .i64 ((s+sizeB y:Nat):Int))).cell? ⟨W.heap.size+1,1,none⟩=some (.int .i64 dd):=(cell_of_row _ _ 1 _ _ _ (setCell_row hN5)).trans rfl
     have f3:(W'.setCell ⟨W.heap.size+1,0,none⟩ (.int .i64 ((s+sizeB y:Nat):Int))).frozen? ⟨W.heap.size+1,1,none⟩=false:=by rw [World.frozen?_setCell];exact f1
     refine .inr (.inl ⟨_,(show (execOp ev _).run Tryz.prog W'=.ok .skip ((W'.setCell ⟨W.heap.size+1,0,none⟩ (.int .i64 ((s+sizeB y:Nat):Int))).setCell ⟨W.heap.size+1,1,none⟩ (.int .i64 ((max dd (deepB y):Nat):Int))) from by simp [execOp,go_sem,e5,e18,m0,m1,f0,f1,f2,f3]),hset.2,hset.1⟩)
   case hfin=>
    intro zz W' hH hzz
    have hG:V.grownBy W' (some (W.heap.size+1)):=hH
    have hfin:MBox W' (W.heap.size+1) (s+sizeB y) (max dd (deepB y)):=hzz 5 (by simp)
    have HG:=hid hG
    have HF:=hid hfin
    have HMV:=hid ((hG.block W.heap.size hMV.lt (by simp)).trans hMV)
    have HSS:=hid hs
    have HDD:=hid hdd
    clear hvb hvs hwl hMV hNV hYV hs hdd hG hfin hzz hH
    simp only [putAll,Act.put,List.setIfInBounds_toArray,List.set_cons_zero,List.set_cons_succ]
    go_wp2_with fail
    go_roundw
    case rel=>exact ⟨k+1,by go_num,hlt,hid ((HW.out.trans (HV0.out.mono HW.out.size)).grown HG.out (Nat.le_trans HW.out.size HV0.out.size) (fun k e=>by cases e;omega)),HMV,by rw [HTK.out,sumN_snoc,maxN_snoc,← HSS.out,← HDD.out];exact HF⟩
    case measure=>simp [intOf];omega
  ·have hge:¬ ((k:Int)<(l.length:Int)):=by omega
   have htk:l.take k=l:=List.take_of_length_le (by omega)
   have hN:=HN.out
   rw [htk] at hN
   have HN3:=hid hN
   obtain ⟨n0,n1,_,_⟩:=hN.cells
   obtain ⟨m0,m1,f0,f1⟩:=HM.out.cells
   clear htk hN
   go_wp2
   refine bodyPost_ret (v:=.agg #[.int .i64 (sumN sizeB l:Nat),.int .i64 (maxN deepB l:Nat)]) ?_ rfl ⟨rfl,?_⟩
   ·obtain ⟨r0,r1,_,_⟩:=(HM.out.set (sumN sizeB l) (maxN deepB l)).1.cells
    simp [results,Tryz.results151,go_sem,r0,r1]
   ·exact HW.out.grown (HM.out.set _ _).2 HW.out.size (fun k e=>by cases e;exact Nat.le_refl _)
def GoodP (y:Pt):Prop:=∀ (W:World) (cs:List Value),BaseA W→PR W y cs→Calls Tryz.prog 157 #[.agg cs.toArray] W fun e W'=>e=.returned (.bool (okP y))∧Below W.heap.size W W'
def MeasP (y:Pt):Prop:=∀ (W:World) (cs:List Value),PR W y cs→Calls Tryz.prog 154 #[.agg cs.toArray] W fun e W'=>e=.returned (.agg #[.int .i64 (sizeP y:Nat),.int .i64 (deepP y:Nat)])∧Below W.heap.size W W'
theorem allP_any (v:Value) (l:List Pt) (hl:l.length≤1000000000) (W:World) (hB:BaseA W) (hR:PsR W v l) (hE:∀ y ∈ l,GoodP y) :
  Calls Tryz.prog 161 #[v,.func (.func 157) #[] #[]] W fun e W'=>e=.returned (.bool (l.all okP))∧Below W.heap.size W W':=by
 obtain ⟨p,cap,rfl,hcap,hcell⟩:=hR
 have HE:=hid hE
 have HC:=hid hcell
 have HBs:=hid hB
 clear hE hcell hB
 go_enter Tryz.func161,Tryz.ntmps161
 go_wp2
 go_loopw [9] (fun i wr=>∃ k:Nat,i=.int .i64 k∧k≤l.length∧Hid (Below W.heap.size W wr)∧Hid (∀ j (h:j<l.length),j<k→okP l[j]=true)) (fun i _=>l.length - (intOf i).toNat)
 case atStart=>exact ⟨0,rfl,Nat.zero_le _,hid (Below.refl _ _),hid (fun j h hj=>by omega)⟩
 case round=>
  obtain ⟨k,rfl,hk,HW,HA⟩:=hrel
  by_cases hlt:k<l.length
  ·have hlt':(k:Int)<(l.length:Int):=by omega
   rcases HC.out with hc | ⟨q,off,rfl,hq,hc⟩
   ·subst hc;simp at hlt
   obtain ⟨cs,hR,hcs⟩:=hc k hlt
   have hB:=HW.out
   have hel:=HE.out _ (List.getElem_mem hlt)
   have hR0:=hid hR
   clear hR hc
   obtain ⟨xs,rfl,hXR⟩:=hR0.out
   obtain ⟨_,ls,rfl,hL⟩:=XR_iff.1 hXR
   obtain ⟨pl,cl,rfl,_⟩:=hL
   have hRr:=PR.later hB _ _ hR0.out
   obtain ⟨x0,x1,x2,x3,x4,x5,x6,x7⟩:=rows8 hB hq hcs
   have HV:=hid (PR.later ((Below.refl wr.heap.size wr).alloc (Nat.le_refl _) (.cells #[.string (bs l[k].name),.bool l[k].out,.int .i64 l[k].w.op,.string (bs l[k].w.name),.int .i64 l[k].w.n,.int .i64 l[k].w.w,.int .u64 l[k].w.v,.slice pl l[k].w.l.length cl] 114)) _ _ hRr)
   have HBV:=hid (HBs.out.later (hB.alloc hB.size (.cells #[.string (bs l[k].name),.bool l[k].out,.int .i64 l[k].w.op,.string (bs l[k].w.name),.int .i64 l[k].w.n,.int .i64 l[k].w.w,.int .u64 l[k].w.v,.slice pl l[k].w.l.length cl] 114)))
   have HEL:=hid hel
   have HNX:=hid (fun (h:okP l[k]=true)=>show ∀ j (h:j<l.length),j<k+1→okP l[j]=true from fun j h1 h2=>by
    rcases Nat.lt_or_ge j k with h3 | h3
    ·exact HA.out j h1 h3
    ·have:j=k:=by omega
     subst this;exact h)
   have HNO:=hid (fun (h:okP l[k]=false)=>show l.all okP=false from by
    rw [Bool.eq_false_iff]
    intro e
    rw [List.all_eq_true.1 e _ (List.getElem_mem hlt)] at h
    cases h)
   clear hel hRr hcs
   generalize l[k]=y at *
   cases hok:okP y with
   | true=>
    have HOK:=hid (HNX.out hok)
    have HY:=hid hok
    clear hok
    go_wp2_with (go_at_call 157;refine (HEL.out _ _ HBV.out HV.out).mono ?_;rintro e W5 ⟨rfl,h2⟩;have H2:=hid h2;clear h2;rw [HY.out])
    go_roundw
    case rel=>exact ⟨k+1,by go_num,hlt,hid (HW.out.trans ((((Below.refl wr.heap.size wr).alloc (Nat.le_refl _) _).trans (H2.out.mono (by simp))).mono HW.out.size)),HOK⟩
    case measure=>simp [intOf];omega
   | false=>
    have HOK:=hid (HNO.out hok)
    have HY:=hid hok
    clear hok
    go_wp2_with (go_at_call 157;refine (HEL.out _ _ HBV.out HV.out).mono ?_;rintro e W5 ⟨rfl,h2⟩;have H2:=hid h2;clear h2;rw [HY.out])
    go_ret
    exact ⟨ret_bool HOK.out.symm,HW.out.trans ((((Below.refl wr.heap.size wr).alloc (Nat.le_refl _) _).trans (H2.out.mono (by simp))).mono HW.out.size)⟩
  ·have hge:¬ ((k:Int)<(l.length:Int)):=by omega
   have HALL:=hid (show l.all okP=true from List.all_eq_true.2 fun x hx=>by
    obtain ⟨j,hj,rfl⟩:=List.getElem_of_mem hx
    exact HA.out j hj (by omega))
   go_wp2
   go_ret
   exact ⟨ret_bool HALL.out.symm,HW.out⟩
theorem sumP_any (v:Value) (l:List Pt) (hl:sumN sizeP l≤1000000000) (h1:∀ y,1≤sizeP y) (W:World) (hR:PsR W v l) (hE:∀ y ∈ l,MeasP y) :
  Calls Tryz.prog 153 #[v,.func (.func 154) #[] #[]] W fun e W'=>e=.returned (.agg #[.int .i64 (sumN sizeP l:Nat),.int .i64 (maxN deepP l:Nat)])∧Below W.heap.size W W':=by
 have hll:l.length≤1000000000:=Nat.le_trans (sumN_len sizeP h1 l) hl
 obtain ⟨p,cap,rfl,hcap,hcell⟩:=hR
 have HE:=hid hE
 have HC:=hid hcell
 have HL:=hid hl
 clear hE hcell hl h1
 have hr0:MBox (W.alloc (.cells #[.int .i64 0,.int .i64 0] 98)) W.heap.size 0 0:=World.alloc_heap_new W _
 have hb1:=(Below.refl W.heap.size W).alloc (Nat.le_refl _) (.cells #[.int .i64 0,.int .i64 0] 98)
 have hs1:=World.size_alloc W (.cells #[.int .i64 0,.int .i64 0] 98)
 have HR0:=hid hr0
 have HB1:=hid hb1
 have HS1:=hid hs1
 clear hr0 hb1 hs1
 go_enter Tryz.func153,Tryz.ntmps153
 go_wp2
 have HW2:=hid (show Below W.heap.size W ((W.alloc (.cells #[.int .i64 0,.int .i64 0] 98)).alloc (.cells #[.int .i64 0,.int .i64 0] 98)) from HB1.out.alloc HB1.out.size _)
 have HM2:=hid (show MBox ((W.alloc (.cells #[.int .i64 0,.int .i64 0] 98)).alloc (.cells #[.int .i64 0,.int .i64 0] 98)) W.heap.size 0 0 from HR0.out.later ((Below.refl _ _).alloc (Nat.le_refl _) _))
 have HN2:=hid (show MBox ((W.alloc (.cells #[.int .i64 0,.int .i64 0] 98)).alloc (.cells #[.int .i64 0,.int .i64 0] 98)) (W.heap.size+1) 0 0 from by
  have:=World.alloc_heap_new (W.alloc (.cells #[.int .i64 0,.int .i64 0] 98)) (.cells #[.int .i64 0,.int .i64 0] 98)
  rwa [HS1.out] at this)
 generalize (W.alloc (.cells #[.int .i64 0,.int .i64 0] 98)).alloc (.cells #[.int .i64 0,.int .i64 0] 98)=W2 at *
 go_loopw [10] (fun i wr=>∃ k:Nat,i=.int .i64 k∧k≤l.length∧Hid (Below W.heap.size W wr)∧Hid (MBox wr W.heap.size 0 0)∧Hid (MBox wr (W.heap.size+1) (sumN sizeP (l.take k)) (maxN deepP (l.take k)))) (fun i _=>l.length - (intOf i).toNat)
 case atStart=>exact ⟨0,rfl,Nat.zero_le _,HW2,HM2,HN2⟩
 case round=>
  obtain ⟨k,rfl,hk,HW,HM,HN⟩:=hrel
  by_cases hlt:k<l.length
  ·have hlt':(k:Int)<(l.length:Int):=by omega
   rcases HC.out with hc | ⟨q,off,rfl,hq,hc⟩
   ·subst hc;simp at hlt
   obtain ⟨cs,hR,hcs⟩:=hc k hlt
   have hB:=HW.out
   have hel:=HE.out _ (List.getElem_mem hlt)
   have hR0:=hid hR
   clear hR hc
   obtain ⟨xs,rfl,hXR⟩:=hR0.out
   obtain ⟨_,ls,rfl,hL⟩:=XR_iff.1 hXR
   obtain ⟨pl,cl,rfl,_⟩:=hL
   have hRr:=PR.later hB _ _ hR0.out
   obtain ⟨x0,x1,x2,x3,x4,x5,x6,x7⟩:=rows8 hB hq hcs
   have HTK:=hid (show l.take (k+1)=l.take k ++ [l[k]] from (List.take_append_getElem hlt).symm)
   have HSZ:=hid (show sumN sizeP (l.take k)+sizeP l[k]≤1000000000 from by
    have h2:=sumN_take sizeP l (k+1)
    rw [HTK.out,sumN_snoc] at h2
    exact Nat.le_trans h2 HL.out)
   have HRR:=hid hRr
   have HEL:=hid hel
   clear hel hRr hcs
   generalize l[k]=y at *
   go_wp2_with fail
   have HV0:=hid ((Below.refl wr.heap.size wr).alloc (Nat.le_refl _) (.cells #[.string (bs y.name),.bool y.out,.int .i64 y.w.op,.string (bs y.w.name),.int .i64 y.w.n,.int .i64 y.w.w,.int .u64 y.w.v,.slice pl y.w.l.length cl] 114))
   have hvb:=World.alloc_heap_new wr (.cells #[.string (bs y.name),.bool y.out,.int .i64 y.w.op,.string (bs y.w.name),.int .i64 y.w.n,.int .i64 y.w.w,.int .u64 y.w.v,.slice pl y.w.l.length cl] 114)
   have hvs:=World.size_alloc wr (.cells #[.string (bs y.name),.bool y.out,.int .i64 y.w.op,.string (bs y.w.name),.int .i64 y.w.n,.int .i64 y.w.w,.int .u64 y.w.v,.slice pl y.w.l.length cl] 114)
   generalize wr.alloc (.cells #[.string (bs y.name),.bool y.out,.int .i64 y.w.op,.string (bs y.w.name),.int .i64 y.w.n,.int .i64 y.w.w,.int .u64 y.w.v,.slice pl y.w.l.length cl] 114)=V at *
   have hwl:wr.heap.size<V.heap.size:=by omega
   have hMV:=HM.out.later HV0.out
   have hNV:=HN.out.later HV0.out
   have hYV:=PR.later HV0.out _ _ HRR.out
   obtain ⟨s,hs⟩:∃ s,s=sumN sizeP (l.take k):=⟨_,rfl⟩
   obtain ⟨dd,hdd⟩:∃ dd,dd=maxN deepP (l.take k):=⟨_,rfl⟩
   rw [← hs,← hdd] at hNV
   refine region_grow_p (sumG (W.heap.size+1)) (sumH (W.heap.size+1)) 5 (sumSp (W.heap.size+1) (s+sizeP y) (max dd (deepP y)) [.agg #[.int .i64 s,.int .i64 dd],.func (.func 154) #[] #[],.agg #[.string (bs y.name),.bool y.out,.int .i64 y.w.op,.string (bs y.w.name),.int .i64 y.w.n,.int .i64 y.w.w,.int .u64 y.w.v,.slice pl y.w.l.length cl],.agg #[.int .i64 (sizeP y:Nat),.int .i64 (deepP y:Nat)],.agg #[.int .i64 ((s+sizeP y:Nat):Int),.int .i64 ((max dd (deepP y):Nat):Int)]])
    (by kernel_rfl) rfl (by kernel_rfl) (by kernel_rfl) (show sumH _ false _ _ from ⟨rfl,rfl,rfl,Nat.le_refl _,fun _ _=>rfl⟩) (before_from (by kernel_rfl)) (sum_tr _) (sum_mono _ _ _ _) ?hops ?hfin
   case hops=>
    refine ⟨?o0,?o1,?o2,?o3,?o4,?o5,trivial⟩
    all_goals (intro ev W' hH hr hD;have hG:Grq V W':=hH;have hcc:=hr.const;have hff:=hr.func)
    case o0=>
     have e5:ev (.tmp 5)=.pointer (some ⟨W.heap.size+1,0,none⟩):=hr.tmp 5 (by kernel_rfl)
     obtain ⟨m0,m1,_,_⟩:=(hNV.later hG).cells
     exact ok_val (by simp [execOp,go_sem,e5,m0,m1]) ⟨sumG_refl _ _ (by decide) _,rfl⟩
    case o1=>
     have e1:ev (.tmp 1)=.func (.func 154) #[] #[]:=hr.tmp 1 (by kernel_rfl)
     exact ok_val (by simp [execOp,go_sem,e1]) ⟨sumG_refl _ _ (by decide) _,rfl⟩
    case o2=>
     have e7:ev (.tmp 7)=.pointer (some ⟨wr.heap.size,0,none⟩):=hr.tmp 7 (by kernel_rfl)
     have hv2:=(hG.block _ hwl).trans hvb
     have m0:=box_at hv2 0 (v:=.string (bs y.name)) rfl
     have m1:=box_at hv2 1 (v:=.bool y.out) rfl
     have m2:=box_at hv2 2 (v:=.int .i64 y.w.op) rfl
     have m3:=box_at hv2 3 (v:=.string (bs y.w.name)) rfl
     have m4:=box_at hv2 4 (v:=.int .i64 y.w.n) rfl
     have m5:=box_at hv2 5 (v:=.int .i64 y.w.w) rfl
     have m6:=box_at hv2 6 (v:=.int .u64 y.w.v) rfl
     have m7:=box_at hv2 7 (v:=.slice pl y.w.l.length cl) rfl
     exact ok_val (by simp [execOp,go_sem,e7,m0,m1,m2,m3,m4,m5,m6,m7]) ⟨sumG_refl _ _ (by decide) _,rfl⟩
    case o3=>
     have e15:ev (.tmp 15)=_:=hD 1 15 (by kernel_rfl)
     have e16:ev (.tmp 16)=_:=hD 2 16 (by kernel_rfl)
     refine ok_call (f:=154) (args:=#[.agg #[.string (bs y.name),.bool y.out,.int .i64 y.w.op,.string (bs y.w.name),.int .i64 y.w.n,.int .i64 y.w.w,.int .u64 y.w.v,.slice pl y.w.l.length cl]]) (by simp [execOp,go_sem,e15,e16]) ?_
     refine (HEL.out W' _ (PR.later hG _ _ hYV)).mono ?_
     rintro e W5 ⟨rfl,h2⟩
     exact ⟨_,rfl,sumG_of (by decide) h2,rfl⟩
    case o4=>
     have e14:ev (.tmp 14)=_:=hD 0 14 (by kernel_rfl)
     have e17:ev (.tmp 17)=_:=hD 3 17 (by kernel_rfl)
     refine ok_call (f:=150) (args:=#[.agg #[.int .i64 s,.int .i64 dd],.agg #[.int .i64 (sizeP y:Nat),.int .i64 (deepP y:Nat)]]) (by simp [execOp,go_sem,hcc,hff,e14,e17]) ?_
     refine (beside_any s dd (sizeP y) (deepP y) (by rw [hs];exact HSZ.out) W').mono ?_
     rintro e W5 ⟨rfl,h2⟩
     exact ⟨_,rfl,sumG_of (by decide) h2,rfl⟩
    case o5=>
     have e5:ev (.tmp 5)=.pointer (some ⟨W.heap.size+1,0,none⟩):=hr.tmp 5 (by kernel_rfl)
     have e18:ev (.tmp 18)=_:=hD 4 18 (by kernel_rfl)
     have hN5:=hNV.later hG
     obtain ⟨m0,m1,f0,f1⟩:=hN5.cells
     have hset:=hN5.set (s+sizeP y) (max dd (deepP y))
     have f2:(W'.setCell ⟨W.heap.size+1,0,none⟩ (.int .i64 ((s+sizeP y:Nat):Int))).cell? ⟨W.heap.size+1,1,none⟩=some (.int .i64 dd):=(cell_of_row _ _ 1 _ _ _ (setCell_row hN5)).trans rfl
     have f3:(W'.setCell ⟨W.heap.size+1,0,none⟩ (.int .i64 ((s+sizeP y:Nat):Int))).frozen? ⟨W.heap.size+1,1,none⟩=false:=by rw [World.frozen?_setCell];exact f1
     refine .inr (.inl ⟨_,(show (execOp ev _).run Tryz.prog W'=.ok .skip ((W'.setCell ⟨W.heap.size+1,0,none⟩ (.int .i64 ((s+sizeP y:Nat):Int))).setCell ⟨W.heap.size+1,1,none⟩ (.int .i64 ((max dd (deepP y):Nat):Int))) from by simp [execOp,go_sem,e5,e18,m0,m1,f0,f1,f2,f3]),hset.2,hset.1⟩)
   case hfin=>
    intro zz W' hH hzz
    have hG:V.grownBy W' (some (W.heap.size+1)):=hH
    have hfin:MBox W' (W.heap.size+1) (s+sizeP y) (max dd (deepP y)):=hzz 5 (by simp)
    have HG:=hid hG
    have HF:=hid hfin
    have HMV:=hid ((hG.block W.heap.size hMV.lt (by simp)).trans hMV)
    have HSS:=hid hs
    have HDD:=hid hdd
    clear hvb hvs hwl hMV hNV hYV hs hdd hG hfin hzz hH
    simp only [putAll,Act.put,List.setIfInBounds_toArray,List.set_cons_zero,List.set_cons_succ]
    go_wp2_with fail
    go_roundw
    case rel=>exact ⟨k+1,by go_num,hlt,hid ((HW.out.trans (HV0.out.mono HW.out.size)).grown HG.out (Nat.le_trans HW.out.size HV0.out.size) (fun k e=>by cases e;omega)),HMV,by rw [HTK.out,sumN_snoc,maxN_snoc,← HSS.out,← HDD.out];exact HF⟩
    case measure=>simp [intOf];omega
  ·have hge:¬ ((k:Int)<(l.length:Int)):=by omega
   have htk:l.take k=l:=List.take_of_length_le (by omega)
   have hN:=HN.out
   rw [htk] at hN
   have HN3:=hid hN
   obtain ⟨n0,n1,_,_⟩:=hN.cells
   obtain ⟨m0,m1,f0,f1⟩:=HM.out.cells
   clear htk hN
   go_wp2
   refine bodyPost_ret (v:=.agg #[.int .i64 (sumN sizeP l:Nat),.int .i64 (maxN deepP l:Nat)]) ?_ rfl ⟨rfl,?_⟩
   ·obtain ⟨r0,r1,_,_⟩:=(HM.out.set (sumN sizeP l) (maxN deepP l)).1.cells
    simp [results,Tryz.results153,go_sem,r0,r1]
   ·exact HW.out.grown (HM.out.set _ _).2 HW.out.size (fun k e=>by cases e;exact Nat.le_refl _)
def GoodS (y:S):Prop:=∀ (W:World) (cs:List Value),BaseA W→SR W y cs→Calls Tryz.prog 118 #[.agg cs.toArray] W fun e W'=>e=.returned (.bool (okS y))∧Below W.heap.size W W'
def MeasS (y:S):Prop:=∀ (W:World) (cs:List Value),SR W y cs→Calls Tryz.prog 116 #[.agg cs.toArray] W fun e W'=>e=.returned (.agg #[.int .i64 (sizeS y:Nat),.int .i64 (deepS y:Nat)])∧Below W.heap.size W W'
theorem allS_any (v:Value) (l:List S) (hl:l.length≤1000000000) (W:World) (hB:BaseA W) (hR:SsR W v l) (hE:∀ y ∈ l,GoodS y) :
  Calls Tryz.prog 182 #[v,.func (.func 118) #[] #[]] W fun e W'=>e=.returned (.bool (l.all okS))∧Below W.heap.size W W':=by
 obtain ⟨p,cap,rfl,hcap,hcell⟩:=hR
 have HE:=hid hE
 have HC:=hid hcell
 have HBs:=hid hB
 clear hE hcell hB
 go_enter Tryz.func182,Tryz.ntmps182
 go_wp2
 go_loopw [9] (fun i wr=>∃ k:Nat,i=.int .i64 k∧k≤l.length∧Hid (Below W.heap.size W wr)∧Hid (∀ j (h:j<l.length),j<k→okS l[j]=true)) (fun i _=>l.length - (intOf i).toNat)
 case atStart=>exact ⟨0,rfl,Nat.zero_le _,hid (Below.refl _ _),hid (fun j h hj=>by omega)⟩
 case round=>
  obtain ⟨k,rfl,hk,HW,HA⟩:=hrel
  by_cases hlt:k<l.length
  ·have hlt':(k:Int)<(l.length:Int):=by omega
   rcases HC.out with hc | ⟨q,off,rfl,hq,hc⟩
   ·subst hc;simp at hlt
   obtain ⟨cs,hR,hcs⟩:=hc k hlt
   have hB:=HW.out
   have hel:=HE.out _ (List.getElem_mem hlt)
   have hR0:=hid hR
   clear hR hc
   obtain ⟨xs,ls,rfl,hXR,hL⟩:=SR_iff.1 hR0.out
   obtain ⟨px,cx,rfl,_⟩:=hXR
   obtain ⟨pl,cl,rfl,_⟩:=hL
   have hRr:=SR.later hB _ _ hR0.out
   obtain ⟨x0,x1,x2,x3⟩:=rows4 hB hq hcs
   have HV:=hid (SR.later ((Below.refl wr.heap.size wr).alloc (Nat.le_refl _) (.cells #[.int .i64 l[k].op,.string (bs l[k].name),.slice px l[k].x.length cx,.slice pl l[k].l.length cl] 31)) _ _ hRr)
   have HBV:=hid (HBs.out.later (hB.alloc hB.size (.cells #[.int .i64 l[k].op,.string (bs l[k].name),.slice px l[k].x.length cx,.slice pl l[k].l.length cl] 31)))
   have HEL:=hid hel
   have HNX:=hid (fun (h:okS l[k]=true)=>show ∀ j (h:j<l.length),j<k+1→okS l[j]=true from fun j h1 h2=>by
    rcases Nat.lt_or_ge j k with h3 | h3
    ·exact HA.out j h1 h3
    ·have:j=k:=by omega
     subst this;exact h)
   have HNO:=hid (fun (h:okS l[k]=false)=>show l.all okS=false from by
    rw [Bool.eq_false_iff]
    intro e
    rw [List.all_eq_true.1 e _ (List.getElem_mem hlt)] at h
    cases h)
   clear hel hRr hcs
   generalize l[k]=y at *
   cases hok:okS y with
   | true=>
    have HOK:=hid (HNX.out hok)
    have HY:=hid hok
    clear hok
    go_wp2_with (go_at_call 118;refine (HEL.out _ _ HBV.out HV.out).mono ?_;rintro e W5 ⟨rfl,h2⟩;have H2:=hid h2;clear h2;rw [HY.out])
    go_roundw
    case rel=>exact ⟨k+1,by go_num,hlt,hid (HW.out.trans ((((Below.refl wr.heap.size wr).alloc (Nat.le_refl _) _).trans (H2.out.mono (by simp))).mono HW.out.size)),HOK⟩
    case measure=>simp [intOf];omega
   | false=>
    have HOK:=hid (HNO.out hok)
    have HY:=hid hok
    clear hok
    go_wp2_with (go_at_call 118;refine (HEL.out _ _ HBV.out HV.out).mono ?_;rintro e W5 ⟨rfl,h2⟩;have H2:=hid h2;clear h2;rw [HY.out])
    go_ret
    exact ⟨ret_bool HOK.out.symm,HW.out.trans ((((Below.refl wr.heap.size wr).alloc (Nat.le_refl _) _).trans (H2.out.mono (by simp))).mono HW.out.size)⟩
  ·have hge:¬ ((k:Int)<(l.length:Int)):=by omega
   have HALL:=hid (show l.all okS=true from List.all_eq_true.2 fun x hx=>by
    obtain ⟨j,hj,rfl⟩:=List.getElem_of_mem hx
    exact HA.out j hj (by omega))
   go_wp2
   go_ret
   exact ⟨ret_bool HALL.out.symm,HW.out⟩
theorem sumS_any (v:Value) (l:List S) (hl:sumN sizeS l≤1000000000) (h1:∀ y,1≤sizeS y) (W:World) (hR:SsR W v l) (hE:∀ y ∈ l,MeasS y) :
  Calls Tryz.prog 180 #[v,.func (.func 116) #[] #[]] W fun e W'=>e=.returned (.agg #[.int .i64 (sumN sizeS l:Nat),.int .i64 (maxN deepS l:Nat)])∧Below W.heap.size W W':=by
 have hll:l.length≤1000000000:=Nat.le_trans (sumN_len sizeS h1 l) hl
 obtain ⟨p,cap,rfl,hcap,hcell⟩:=hR
 have HE:=hid hE
 have HC:=hid hcell
 have HL:=hid hl
 clear hE hcell hl h1
 have hr0:MBox (W.alloc (.cells #[.int .i64 0,.int .i64 0] 98)) W.heap.size 0 0:=World.alloc_heap_new W _
 have hb1:=(Below.refl W.heap.size W).alloc (Nat.le_refl _) (.cells #[.int .i64 0,.int .i64 0] 98)
 have hs1:=World.size_alloc W (.cells #[.int .i64 0,.int .i64 0] 98)
 have HR0:=hid hr0
 have HB1:=hid hb1
 have HS1:=hid hs1
 clear hr0 hb1 hs1
 go_enter Tryz.func180,Tryz.ntmps180
 go_wp2
 have HW2:=hid (show Below W.heap.size W ((W.alloc (.cells #[.int .i64 0,.int .i64 0] 98)).alloc (.cells #[.int .i64 0,.int .i64 0] 98)) from HB1.out.alloc HB1.out.size _)
 have HM2:=hid (show MBox ((W.alloc (.cells #[.int .i64 0,.int .i64 0] 98)).alloc (.cells #[.int .i64 0,.int .i64 0] 98)) W.heap.size 0 0 from HR0.out.later ((Below.refl _ _).alloc (Nat.le_refl _) _))
 have HN2:=hid (show MBox ((W.alloc (.cells #[.int .i64 0,.int .i64 0] 98)).alloc (.cells #[.int .i64 0,.int .i64 0] 98)) (W.heap.size+1) 0 0 from by
  have:=World.alloc_heap_new (W.alloc (.cells #[.int .i64 0,.int .i64 0] 98)) (.cells #[.int .i64 0,.int .i64 0] 98)
  rwa [HS1.out] at this)
 generalize (W.alloc (.cells #[.int .i64 0,.int .i64 0] 98)).alloc (.cells #[.int .i64 0,.int .i64 0] 98)=W2 at *
 go_loopw [10] (fun i wr=>∃ k:Nat,i=.int .i64 k∧k≤l.length∧Hid (Below W.heap.size W wr)∧Hid (MBox wr W.heap.size 0 0)∧Hid (MBox wr (W.heap.size+1) (sumN sizeS (l.take k)) (maxN deepS (l.take k)))) (fun i _=>l.length - (intOf i).toNat)
 case atStart=>exact ⟨0,rfl,Nat.zero_le _,HW2,HM2,HN2⟩
 case round=>
  obtain ⟨k,rfl,hk,HW,HM,HN⟩:=hrel
  by_cases hlt:k<l.length
  ·have hlt':(k:Int)<(l.length:Int):=by omega
   rcases HC.out with hc | ⟨q,off,rfl,hq,hc⟩
   ·subst hc;simp at hlt
   obtain ⟨cs,hR,hcs⟩:=hc k hlt
   have hB:=HW.out
   have hel:=HE.out _ (List.getElem_mem hlt)
   have hR0:=hid hR
   clear hR hc
   obtain ⟨xs,ls,rfl,hXR,hL⟩:=SR_iff.1 hR0.out
   obtain ⟨px,cx,rfl,_⟩:=hXR
   obtain ⟨pl,cl,rfl,_⟩:=hL
   have hRr:=SR.later hB _ _ hR0.out
   obtain ⟨x0,x1,x2,x3⟩:=rows4 hB hq hcs
   have HTK:=hid (show l.take (k+1)=l.take k ++ [l[k]] from (List.take_append_getElem hlt).symm)
   have HSZ:=hid (show sumN sizeS (l.take k)+sizeS l[k]≤1000000000 from by
    have h2:=sumN_take sizeS l (k+1)
    rw [HTK.out,sumN_snoc] at h2
    exact Nat.le_trans h2 HL.out)
   have HRR:=hid hRr
   have HEL:=hid hel
   clear hel hRr hcs
   generalize l[k]=y at *
   go_wp2_with fail
   have HV0:=hid ((Below.refl wr.heap.size wr).alloc (Nat.le_refl _) (.cells #[.int .i64 y.op,.string (bs y.name),.slice px y.x.length cx,.slice pl y.l.length cl] 31))
   have hvb:=World.alloc_heap_new wr (.cells #[.int .i64 y.op,.string (bs y.name),.slice px y.x.length cx,.slice pl y.l.length cl] 31)
   have hvs:=World.size_alloc wr (.cells #[.int .i64 y.op,.string (bs y.name),.slice px y.x.length cx,.slice pl y.l.length cl] 31)
   generalize wr.alloc (.cells #[.int .i64 y.op,.string (bs y.name),.slice px y.x.length cx,.slice pl y.l.length cl] 31)=V at *
   have hwl:wr.heap.size<V.heap.size:=by omega
   have hMV:=HM.out.later HV0.out
   have hNV:=HN.out.later HV0.out
   have hYV:=SR.later HV0.out _ _ HRR.out
   obtain ⟨s,hs⟩:∃ s,s=sumN sizeS (l.take k):=⟨_,rfl⟩
   obtain ⟨dd,hdd⟩:∃ dd,dd=maxN deepS (l.take k):=⟨_,rfl⟩
   rw [← hs,← hdd] at hNV
   refine region_grow_p (sumG (W.heap.size+1)) (sumH (W.heap.size+1)) 5 (sumSp (W.heap.size+1) (s+sizeS y) (max dd (deepS y)) [.agg #[.int .i64 s,.int .i64 dd],.func (.func 116) #[] #[],.agg #[.int .i64 y.op,.string (bs y.name),.slice px y.x.length cx,.slice pl y.l.length cl],.agg #[.int .i64 (sizeS y:Nat),.int .i64 (deepS y:Nat)],.agg #[.int .i64 ((s+sizeS y:Nat):Int),.int .i64 ((max dd (deepS y):Nat):Int)]])
    (by kernel_rfl) rfl (by kernel_rfl) (by kernel_rfl) (show sumH _ false _ _ from ⟨rfl,rfl,rfl,Nat.le_refl _,fun _ _=>rfl⟩) (before_from (by kernel_rfl)) (sum_tr _) (sum_mono _ _ _ _) ?hops ?hfin
   case hops=>
    refine ⟨?o0,?o1,?o2,?o3,?o4,?o5,trivial⟩
    all_goals (intro ev W' hH hr hD;have hG:Grq V W':=hH;have hcc:=hr.const;have hff:=hr.func)
    case o0=>
     have e5:ev (.tmp 5)=.pointer (some ⟨W.heap.size+1,0,none⟩):=hr.tmp 5 (by kernel_rfl)
     obtain ⟨m0,m1,_,_⟩:=(hNV.later hG).cells
     exact ok_val (by simp [execOp,go_sem,e5,m0,m1]) ⟨sumG_refl _ _ (by decide) _,rfl⟩
    case o1=>
     have e1:ev (.tmp 1)=.func (.func 116) #[] #[]:=hr.tmp 1 (by kernel_rfl)
     exact ok_val (by simp [execOp,go_sem,e1]) ⟨sumG_refl _ _ (by decide) _,rfl⟩
    case o2=>
     have e7:ev (.tmp 7)=.pointer (some ⟨wr.heap.size,0,none⟩):=hr.tmp 7 (by kernel_rfl)
     have hv2:=(hG.block _ hwl).trans hvb
     have m0:=box_at hv2 0 (v:=.int .i64 y.op) rfl
     have m1:=box_at hv2 1 (v:=.string (bs y.name)) rfl
     have m2:=box_at hv2 2 (v:=.slice px y.x.length cx) rfl
     have m3:=box_at hv2 3 (v:=.slice pl y.l.length cl) rfl
     exact ok_val (by simp [execOp,go_sem,e7,m0,m1,m2,m3]) ⟨sumG_refl _ _ (by decide) _,rfl⟩
    case o3=>
     have e15:ev (.tmp 15)=_:=hD 1 15 (by kernel_rfl)
     have e16:ev (.tmp 16)=_:=hD 2 16 (by kernel_rfl)
     refine ok_call (f:=116) (args:=#[.agg #[.int .i64 y.op,.string (bs y.name),.slice px y.x.length cx,.slice pl y.l.length cl]]) (by simp [execOp,go_sem,e15,e16]) ?_
     refine (HEL.out W' _ (SR.later hG _ _ hYV)).mono ?_
     rintro e W5 ⟨rfl,h2⟩
     exact ⟨_,rfl,sumG_of (by decide) h2,rfl⟩
    case o4=>
     have e14:ev (.tmp 14)=_:=hD 0 14 (by kernel_rfl)
     have e17:ev (.tmp 17)=_:=hD 3 17 (by kernel_rfl)
     refine ok_call (f:=150) (args:=#[.agg #[.int .i64 s,.int .i64 dd],.agg #[.int .i64 (sizeS y:Nat),.int .i64 (deepS y:Nat)]]) (by simp [execOp,go_sem,hcc,hff,e14,e17]) ?_
     refine (beside_any s dd (sizeS y) (deepS y) (by rw [hs];exact HSZ.out) W').mono ?_
     rintro e W5 ⟨rfl,h2⟩
     exact ⟨_,rfl,sumG_of (by decide) h2,rfl⟩
    case o5=>
     have e5:ev (.tmp 5)=.pointer (some ⟨W.heap.size+1,0,none⟩):=hr.tmp 5 (by kernel_rfl)
     have e18:ev (.tmp 18)=_:=hD 4 18 (by kernel_rfl)
     have hN5:=hNV.later hG
     obtain ⟨m0,m1,f0,f1⟩:=hN5.cells
     have hset:=hN5.set (s+sizeS y) (max dd (deepS y))
     have f2:(W'.setCell ⟨W.heap.size+1,0,none⟩ (.int .i64 ((s+sizeS y:Nat):Int))).cell? ⟨W.heap.size+1,1,none⟩=some (.int .i64 dd):=(cell_of_row _ _ 1 _ _ _ (setCell_row hN5)).trans rfl
     have f3:(W'.setCell ⟨W.heap.size+1,0,none⟩ (.int .i64 ((s+sizeS y:Nat):Int))).frozen? ⟨W.heap.size+1,1,none⟩=false:=by rw [World.frozen?_setCell];exact f1
     refine .inr (.inl ⟨_,(show (execOp ev _).run Tryz.prog W'=.ok .skip ((W'.setCell ⟨W.heap.size+1,0,none⟩ (.int .i64 ((s+sizeS y:Nat):Int))).setCell ⟨W.heap.size+1,1,none⟩ (.int .i64 ((max dd (deepS y):Nat):Int))) from by simp [execOp,go_sem,e5,e18,m0,m1,f0,f1,f2,f3]),hset.2,hset.1⟩)
   case hfin=>
    intro zz W' hH hzz
    have hG:V.grownBy W' (some (W.heap.size+1)):=hH
    have hfin:MBox W' (W.heap.size+1) (s+sizeS y) (max dd (deepS y)):=hzz 5 (by simp)
    have HG:=hid hG
    have HF:=hid hfin
    have HMV:=hid ((hG.block W.heap.size hMV.lt (by simp)).trans hMV)
    have HSS:=hid hs
    have HDD:=hid hdd
    clear hvb hvs hwl hMV hNV hYV hs hdd hG hfin hzz hH
    simp only [putAll,Act.put,List.setIfInBounds_toArray,List.set_cons_zero,List.set_cons_succ]
    go_wp2_with fail
    go_roundw
    case rel=>exact ⟨k+1,by go_num,hlt,hid ((HW.out.trans (HV0.out.mono HW.out.size)).grown HG.out (Nat.le_trans HW.out.size HV0.out.size) (fun k e=>by cases e;omega)),HMV,by rw [HTK.out,sumN_snoc,maxN_snoc,← HSS.out,← HDD.out];exact HF⟩
    case measure=>simp [intOf];omega
  ·have hge:¬ ((k:Int)<(l.length:Int)):=by omega
   have htk:l.take k=l:=List.take_of_length_le (by omega)
   have hN:=HN.out
   rw [htk] at hN
   have HN3:=hid hN
   obtain ⟨n0,n1,_,_⟩:=hN.cells
   obtain ⟨m0,m1,f0,f1⟩:=HM.out.cells
   clear htk hN
   go_wp2
   refine bodyPost_ret (v:=.agg #[.int .i64 (sumN sizeS l:Nat),.int .i64 (maxN deepS l:Nat)]) ?_ rfl ⟨rfl,?_⟩
   ·obtain ⟨r0,r1,_,_⟩:=(HM.out.set (sumN sizeS l) (maxN deepS l)).1.cells
    simp [results,Tryz.results180,go_sem,r0,r1]
   ·exact HW.out.grown (HM.out.set _ _).2 HW.out.size (fun k e=>by cases e;exact Nat.le_refl _)
def GoodI (y:It):Prop:=∀ (W:World) (cs:List Value),BaseA W→IR W y cs→Calls Tryz.prog 163 #[.agg cs.toArray] W fun e W'=>e=.returned (.bool (okI y))∧Below W.heap.size W W'
def MeasI (y:It):Prop:=∀ (W:World) (cs:List Value),IR W y cs→Calls Tryz.prog 156 #[.agg cs.toArray] W fun e W'=>e=.returned (.agg #[.int .i64 (sizeI y:Nat),.int .i64 (deepI y:Nat)])∧Below W.heap.size W W'
theorem allI_any (v:Value) (l:List It) (hl:l.length≤1000000000) (W:World) (hB:BaseA W) (hR:IsR W v l) (hE:∀ y ∈ l,GoodI y) :
  Calls Tryz.prog 162 #[v,.func (.func 163) #[] #[]] W fun e W'=>e=.returned (.bool (l.all okI))∧Below W.heap.size W W':=by
 obtain ⟨p,cap,rfl,hcap,hcell⟩:=hR
 have HE:=hid hE
 have HC:=hid hcell
 have HBs:=hid hB
 clear hE hcell hB
 go_enter Tryz.func162,Tryz.ntmps162
 go_wp2
 go_loopw [9] (fun i wr=>∃ k:Nat,i=.int .i64 k∧k≤l.length∧Hid (Below W.heap.size W wr)∧Hid (∀ j (h:j<l.length),j<k→okI l[j]=true)) (fun i _=>l.length - (intOf i).toNat)
 case atStart=>exact ⟨0,rfl,Nat.zero_le _,hid (Below.refl _ _),hid (fun j h hj=>by omega)⟩
 case round=>
  obtain ⟨k,rfl,hk,HW,HA⟩:=hrel
  by_cases hlt:k<l.length
  ·have hlt':(k:Int)<(l.length:Int):=by omega
   rcases HC.out with hc | ⟨q,off,rfl,hq,hc⟩
   ·subst hc;simp at hlt
   obtain ⟨cs,hR,hcs⟩:=hc k hlt
   have hB:=HW.out
   have hel:=HE.out _ (List.getElem_mem hlt)
   have hR0:=hid hR
   clear hR hc
   obtain ⟨xs,ss,ls,es,vp,vb,rfl,h1,h2,h3,h4,h5,h6⟩:=IR_iff.1 hR0.out
   obtain ⟨p1,c1,rfl,_⟩:=h1
   obtain ⟨p2,c2,rfl,_⟩:=h2
   obtain ⟨p3,c3,rfl,_⟩:=h3
   obtain ⟨p4,c4,rfl,_⟩:=h4
   obtain ⟨p5,c5,rfl,_⟩:=h5
   obtain ⟨p6,c6,rfl,_⟩:=h6
   have hRr:=IR.later hB _ _ hR0.out
   obtain ⟨x0,x1,x2,x3,x4,x5,x6,x7,x8⟩:=rows9 hB hq hcs
   have HV:=hid (IR.later ((Below.refl wr.heap.size wr).alloc (Nat.le_refl _) (.cells #[.int .i64 l[k].op,.string (bs l[k].name),.string (bs l[k].of),.slice p1 l[k].x.length c1,.slice p2 l[k].s.length c2,.slice p5 l[k].l.length c5,.slice p6 l[k].e.length c6,.slice p3 l[k].ps.length c3,.slice p4 l[k].bs.length c4] 133)) _ _ hRr)
   have HBV:=hid (HBs.out.later (hB.alloc hB.size (.cells #[.int .i64 l[k].op,.string (bs l[k].name),.string (bs l[k].of),.slice p1 l[k].x.length c1,.slice p2 l[k].s.length c2,.slice p5 l[k].l.length c5,.slice p6 l[k].e.length c6,.slice p3 l[k].ps.length c3,.slice p4 l[k].bs.length c4] 133)))
   have HEL:=hid hel
   have HNX:=hid (fun (h:okI l[k]=true)=>show ∀ j (h:j<l.length),j<k+1→okI l[j]=true from fun j h1 h2=>by
    rcases Nat.lt_or_ge j k with h3 | h3
    ·exact HA.out j h1 h3
    ·have:j=k:=by omega
     subst this;exact h)
   have HNO:=hid (fun (h:okI l[k]=false)=>show l.all okI=false from by
    rw [Bool.eq_false_iff]
    intro e
    rw [List.all_eq_true.1 e _ (List.getElem_mem hlt)] at h
    cases h)
   clear hel hRr hcs
   generalize l[k]=y at *
   cases hok:okI y with
   | true=>
    have HOK:=hid (HNX.out hok)
    have HY:=hid hok
    clear hok
    go_wp2_with (go_at_call 163;refine (HEL.out _ _ HBV.out HV.out).mono ?_;rintro e W5 ⟨rfl,h2⟩;have H2:=hid h2;clear h2;rw [HY.out])
    go_roundw
    case rel=>exact ⟨k+1,by go_num,hlt,hid (HW.out.trans ((((Below.refl wr.heap.size wr).alloc (Nat.le_refl _) _).trans (H2.out.mono (by simp))).mono HW.out.size)),HOK⟩
    case measure=>simp [intOf];omega
   | false=>
    have HOK:=hid (HNO.out hok)
    have HY:=hid hok
    clear hok
    go_wp2_with (go_at_call 163;refine (HEL.out _ _ HBV.out HV.out).mono ?_;rintro e W5 ⟨rfl,h2⟩;have H2:=hid h2;clear h2;rw [HY.out])
    go_ret
    exact ⟨ret_bool HOK.out.symm,HW.out.trans ((((Below.refl wr.heap.size wr).alloc (Nat.le_refl _) _).trans (H2.out.mono (by simp))).mono HW.out.size)⟩
  ·have hge:¬ ((k:Int)<(l.length:Int)):=by omega
   have HALL:=hid (show l.all okI=true from List.all_eq_true.2 fun x hx=>by
    obtain ⟨j,hj,rfl⟩:=List.getElem_of_mem hx
    exact HA.out j hj (by omega))
   go_wp2
   go_ret
   exact ⟨ret_bool HALL.out.symm,HW.out⟩
theorem sumI_any (v:Value) (l:List It) (hl:sumN sizeI l≤1000000000) (h1:∀ y,1≤sizeI y) (W:World) (hR:IsR W v l) (hE:∀ y ∈ l,MeasI y) :
  Calls Tryz.prog 155 #[v,.func (.func 156) #[] #[]] W fun e W'=>e=.returned (.agg #[.int .i64 (sumN sizeI l:Nat),.int .i64 (maxN deepI l:Nat)])∧Below W.heap.size W W':=by
 have hll:l.length≤1000000000:=Nat.le_trans (sumN_len sizeI h1 l) hl
 obtain ⟨p,cap,rfl,hcap,hcell⟩:=hR
 have HE:=hid hE
 have HC:=hid hcell
 have HL:=hid hl
 clear hE hcell hl h1
 have hr0:MBox (W.alloc (.cells #[.int .i64 0,.int .i64 0] 98)) W.heap.size 0 0:=World.alloc_heap_new W _
 have hb1:=(Below.refl W.heap.size W).alloc (Nat.le_refl _) (.cells #[.int .i64 0,.int .i64 0] 98)
 have hs1:=World.size_alloc W (.cells #[.int .i64 0,.int .i64 0] 98)
 have HR0:=hid hr0
 have HB1:=hid hb1
 have HS1:=hid hs1
 clear hr0 hb1 hs1
 go_enter Tryz.func155,Tryz.ntmps155
 go_wp2
 have HW2:=hid (show Below W.heap.size W ((W.alloc (.cells #[.int .i64 0,.int .i64 0] 98)).alloc (.cells #[.int .i64 0,.int .i64 0] 98)) from HB1.out.alloc HB1.out.size _)
 have HM2:=hid (show MBox ((W.alloc (.cells #[.int .i64 0,.int .i64 0] 98)).alloc (.cells #[.int .i64 0,.int .i64 0] 98)) W.heap.size 0 0 from HR0.out.later ((Below.refl _ _).alloc (Nat.le_refl _) _))
 have HN2:=hid (show MBox ((W.alloc (.cells #[.int .i64 0,.int .i64 0] 98)).alloc (.cells #[.int .i64 0,.int .i64 0] 98)) (W.heap.size+1) 0 0 from by
  have:=World.alloc_heap_new (W.alloc (.cells #[.int .i64 0,.int .i64 0] 98)) (.cells #[.int .i64 0,.int .i64 0] 98)
  rwa [HS1.out] at this)
 generalize (W.alloc (.cells #[.int .i64 0,.int .i64 0] 98)).alloc (.cells #[.int .i64 0,.int .i64 0] 98)=W2 at *
 go_loopw [10] (fun i wr=>∃ k:Nat,i=.int .i64 k∧k≤l.length∧Hid (Below W.heap.size W wr)∧Hid (MBox wr W.heap.size 0 0)∧Hid (MBox wr (W.heap.size+1) (sumN sizeI (l.take k)) (maxN deepI (l.take k)))) (fun i _=>l.length - (intOf i).toNat)
 case atStart=>exact ⟨0,rfl,Nat.zero_le _,HW2,HM2,HN2⟩
 case round=>
  obtain ⟨k,rfl,hk,HW,HM,HN⟩:=hrel
  by_cases hlt:k<l.length
  ·have hlt':(k:Int)<(l.length:Int):=by omega
   rcases HC.out with hc | ⟨q,off,rfl,hq,hc⟩
   ·subst hc;simp at hlt
   obtain ⟨cs,hR,hcs⟩:=hc k hlt
   have hB:=HW.out
   have hel:=HE.out _ (List.getElem_mem hlt)
   have hR0:=hid hR
   clear hR hc
   obtain ⟨xs,ss,ls,es,vp,vb,rfl,h1,h2,h3,h4,h5,h6⟩:=IR_iff.1 hR0.out
   obtain ⟨p1,c1,rfl,_⟩:=h1
   obtain ⟨p2,c2,rfl,_⟩:=h2
   obtain ⟨p3,c3,rfl,_⟩:=h3
   obtain ⟨p4,c4,rfl,_⟩:=h4
   obtain ⟨p5,c5,rfl,_⟩:=h5
   obtain ⟨p6,c6,rfl,_⟩:=h6
   have hRr:=IR.later hB _ _ hR0.out
   obtain ⟨x0,x1,x2,x3,x4,x5,x6,x7,x8⟩:=rows9 hB hq hcs
   have HTK:=hid (show l.take (k+1)=l.take k ++ [l[k]] from (List.take_append_getElem hlt).symm)
   have HSZ:=hid (show sumN sizeI (l.take k)+sizeI l[k]≤1000000000 from by
    have h2:=sumN_take sizeI l (k+1)
    rw [HTK.out,sumN_snoc] at h2
    exact Nat.le_trans h2 HL.out)
   have HRR:=hid hRr
   have HEL:=hid hel
   clear hel hRr hcs
   generalize l[k]=y at *
   go_wp2_with fail
   have HV0:=hid ((Below.refl wr.heap.size wr).alloc (Nat.le_refl _) (.cells #[.int .i64 y.op,.string (bs y.name),.string (bs y.of),.slice p1 y.x.length c1,.slice p2 y.s.length c2,.slice p5 y.l.length c5,.slice p6 y.e.length c6,.slice p3 y.ps.length c3,.slice p4 y.bs.length c4] 133))
   have hvb:=World.alloc_heap_new wr (.cells #[.int .i64 y.op,.string (bs y.name),.string (bs y.of),.slice p1 y.x.length c1,.slice p2 y.s.length c2,.slice p5 y.l.length c5,.slice p6 y.e.length c6,.slice p3 y.ps.length c3,.slice p4 y.bs.length c4] 133)
   have hvs:=World.size_alloc wr (.cells #[.int .i64 y.op,.string (bs y.name),.string (bs y.of),.slice p1 y.x.length c1,.slice p2 y.s.length c2,.slice p5 y.l.length c5,.slice p6 y.e.length c6,.slice p3 y.ps.length c3,.slice p4 y.bs.length c4] 133)
   generalize wr.alloc (.cells #[.int .i64 y.op,.string (bs y.name),.string (bs y.of),.slice p1 y.x.length c1,.slice p2 y.s.length c2,.slice p5 y.l.length c5,.slice p6 y.e.length c6,.slice p3 y.ps.length c3,.slice p4 y.bs.length c4] 133)=V at *
   have hwl:wr.heap.size<V.heap.size:=by omega
   have hMV:=HM.out.later HV0.out
   have hNV:=HN.out.later HV0.out
   have hYV:=IR.later HV0.out _ _ HRR.out
   obtain ⟨s,hs⟩:∃ s,s=sumN sizeI (l.take k):=⟨_,rfl⟩
   obtain ⟨dd,hdd⟩:∃ dd,dd=maxN deepI (l.take k):=⟨_,rfl⟩
   rw [← hs,← hdd] at hNV
   refine region_grow_p (sumG (W.heap.size+1)) (sumH (W.heap.size+1)) 5 (sumSp (W.heap.size+1) (s+sizeI y) (max dd (deepI y)) [.agg #[.int .i64 s,.int .i64 dd],.func (.func 156) #[] #[],.agg #[.int .i64 y.op,.string (bs y.name),.string (bs y.of),.slice p1 y.x.length c1,.slice p2 y.s.length c2,.slice p5 y.l.length c5,.slice p6 y.e.length c6,.slice p3 y.ps.length c3,.slice p4 y.bs.length c4],.agg #[.int .i64 (sizeI y:Nat),.int .i64 (deepI y:Nat)],.agg #[.int .i64 ((s+sizeI y:Nat):Int),.int .i64 ((max dd (deepI y):Nat):Int)]])
    (by kernel_rfl) rfl (by kernel_rfl) (by kernel_rfl) (show sumH _ false _ _ from ⟨rfl,rfl,rfl,Nat.le_refl _,fun _ _=>rfl⟩) (before_from (by kernel_rfl)) (sum_tr _) (sum_mono _ _ _ _) ?hops ?hfin
   case hops=>
    refine ⟨?o0,?o1,?o2,?o3,?o4,?o5,trivial⟩
    all_goals (intro ev W' hH hr hD;have hG:Grq V W':=hH;have hcc:=hr.const;have hff:=hr.func)
    case o0=>
     have e5:ev (.tmp 5)=.pointer (some ⟨W.heap.size+1,0,none⟩):=hr.tmp 5 (by kernel_rfl)
     obtain ⟨m0,m1,_,_⟩:=(hNV.later hG).cells
     exact ok_val (by simp [execOp,go_sem,e5,m0,m1]) ⟨sumG_refl _ _ (by decide) _,rfl⟩
    case o1=>
     have e1:ev (.tmp 1)=.func (.func 156) #[] #[]:=hr.tmp 1 (by kernel_rfl)
     exact ok_val (by simp [execOp,go_sem,e1]) ⟨sumG_refl _ _ (by decide) _,rfl⟩
    case o2=>
     have e7:ev (.tmp 7)=.pointer (some ⟨wr.heap.size,0,none⟩):=hr.tmp 7 (by kernel_rfl)
     have hv2:=(hG.block _ hwl).trans hvb
     have m0:=box_at hv2 0 (v:=.int .i64 y.op) rfl
     have m1:=box_at hv2 1 (v:=.string (bs y.name)) rfl
     have m2:=box_at hv2 2 (v:=.string (bs y.of)) rfl
     have m3:=box_at hv2 3 (v:=.slice p1 y.x.length c1) rfl
     have m4:=box_at hv2 4 (v:=.slice p2 y.s.length c2) rfl
     have m5:=box_at hv2 5 (v:=.slice p5 y.l.length c5) rfl
     have m6:=box_at hv2 6 (v:=.slice p6 y.e.length c6) rfl
     have m7:=box_at hv2 7 (v:=.slice p3 y.ps.length c3) rfl
     have m8:=box_at hv2 8 (v:=.slice p4 y.bs.length c4) rfl
     exact ok_val (by simp [execOp,go_sem,e7,m0,m1,m2,m3,m4,m5,m6,m7,m8]) ⟨sumG_refl _ _ (by decide) _,rfl⟩
    case o3=>
     have e15:ev (.tmp 15)=_:=hD 1 15 (by kernel_rfl)
     have e16:ev (.tmp 16)=_:=hD 2 16 (by kernel_rfl)
     refine ok_call (f:=156) (args:=#[.agg #[.int .i64 y.op,.string (bs y.name),.string (bs y.of),.slice p1 y.x.length c1,.slice p2 y.s.length c2,.slice p5 y.l.length c5,.slice p6 y.e.length c6,.slice p3 y.ps.length c3,.slice p4 y.bs.length c4]]) (by simp [execOp,go_sem,e15,e16]) ?_
     refine (HEL.out W' _ (IR.later hG _ _ hYV)).mono ?_
     rintro e W5 ⟨rfl,h2⟩
     exact ⟨_,rfl,sumG_of (by decide) h2,rfl⟩
    case o4=>
     have e14:ev (.tmp 14)=_:=hD 0 14 (by kernel_rfl)
     have e17:ev (.tmp 17)=_:=hD 3 17 (by kernel_rfl)
     refine ok_call (f:=150) (args:=#[.agg #[.int .i64 s,.int .i64 dd],.agg #[.int .i64 (sizeI y:Nat),.int .i64 (deepI y:Nat)]]) (by simp [execOp,go_sem,hcc,hff,e14,e17]) ?_
     refine (beside_any s dd (sizeI y) (deepI y) (by rw [hs];exact HSZ.out) W').mono ?_
     rintro e W5 ⟨rfl,h2⟩
     exact ⟨_,rfl,sumG_of (by decide) h2,rfl⟩
    case o5=>
     have e5:ev (.tmp 5)=.pointer (some ⟨W.heap.size+1,0,none⟩):=hr.tmp 5 (by kernel_rfl)
     have e18:ev (.tmp 18)=_:=hD 4 18 (by kernel_rfl)
     have hN5:=hNV.later hG
     obtain ⟨m0,m1,f0,f1⟩:=hN5.cells
     have hset:=hN5.set (s+sizeI y) (max dd (deepI y))
     have f2:(W'.setCell ⟨W.heap.size+1,0,none⟩ (.int .i64 ((s+sizeI y:Nat):Int))).cell? ⟨W.heap.size+1,1,none⟩=some (.int .i64 dd):=(cell_of_row _ _ 1 _ _ _ (setCell_row hN5)).trans rfl
     have f3:(W'.setCell ⟨W.heap.size+1,0,none⟩ (.int .i64 ((s+sizeI y:Nat):Int))).frozen? ⟨W.heap.size+1,1,none⟩=false:=by rw [World.frozen?_setCell];exact f1
     refine .inr (.inl ⟨_,(show (execOp ev _).run Tryz.prog W'=.ok .skip ((W'.setCell ⟨W.heap.size+1,0,none⟩ (.int .i64 ((s+sizeI y:Nat):Int))).setCell ⟨W.heap.size+1,1,none⟩ (.int .i64 ((max dd (deepI y):Nat):Int))) from by simp [execOp,go_sem,e5,e18,m0,m1,f0,f1,f2,f3]),hset.2,hset.1⟩)
   case hfin=>
    intro zz W' hH hzz
    have hG:V.grownBy W' (some (W.heap.size+1)):=hH
    have hfin:MBox W' (W.heap.size+1) (s+sizeI y) (max dd (deepI y)):=hzz 5 (by simp)
    have HG:=hid hG
    have HF:=hid hfin
    have HMV:=hid ((hG.block W.heap.size hMV.lt (by simp)).trans hMV)
    have HSS:=hid hs
    have HDD:=hid hdd
    clear hvb hvs hwl hMV hNV hYV hs hdd hG hfin hzz hH
    simp only [putAll,Act.put,List.setIfInBounds_toArray,List.set_cons_zero,List.set_cons_succ]
    go_wp2_with fail
    go_roundw
    case rel=>exact ⟨k+1,by go_num,hlt,hid ((HW.out.trans (HV0.out.mono HW.out.size)).grown HG.out (Nat.le_trans HW.out.size HV0.out.size) (fun k e=>by cases e;omega)),HMV,by rw [HTK.out,sumN_snoc,maxN_snoc,← HSS.out,← HDD.out];exact HF⟩
    case measure=>simp [intOf];omega
  ·have hge:¬ ((k:Int)<(l.length:Int)):=by omega
   have htk:l.take k=l:=List.take_of_length_le (by omega)
   have hN:=HN.out
   rw [htk] at hN
   have HN3:=hid hN
   obtain ⟨n0,n1,_,_⟩:=hN.cells
   obtain ⟨m0,m1,f0,f1⟩:=HM.out.cells
   clear htk hN
   go_wp2
   refine bodyPost_ret (v:=.agg #[.int .i64 (sumN sizeI l:Nat),.int .i64 (maxN deepI l:Nat)]) ?_ rfl ⟨rfl,?_⟩
   ·obtain ⟨r0,r1,_,_⟩:=(HM.out.set (sumN sizeI l) (maxN deepI l)).1.cells
    simp [results,Tryz.results155,go_sem,r0,r1]
   ·exact HW.out.grown (HM.out.set _ _).2 HW.out.size (fun k e=>by cases e;exact Nat.le_refl _)
def GoodM (y:Md):Prop:=∀ (W:World) (cs:List Value),BaseA W→MR W y cs→Calls Tryz.prog 88 #[.agg cs.toArray] W fun e W'=>e=.returned (.bool (okM y))∧Below W.heap.size W W'
def MeasM (y:Md):Prop:=∀ (W:World) (cs:List Value),MR W y cs→Calls Tryz.prog 85 #[.agg cs.toArray] W fun e W'=>e=.returned (.agg #[.int .i64 (sizeM y:Nat),.int .i64 (deepM y:Nat)])∧Below W.heap.size W W'
theorem allM_any (v:Value) (l:List Md) (hl:l.length≤1000000000) (W:World) (hB:BaseA W) (hR:MsR W v l) (hE:∀ y ∈ l,GoodM y) :
  Calls Tryz.prog 87 #[v,.func (.func 88) #[] #[]] W fun e W'=>e=.returned (.bool (l.all okM))∧Below W.heap.size W W':=by
 obtain ⟨p,cap,rfl,hcap,hcell⟩:=hR
 have HE:=hid hE
 have HC:=hid hcell
 have HBs:=hid hB
 clear hE hcell hB
 go_enter Tryz.func87,Tryz.ntmps87
 go_wp2
 go_loopw [9] (fun i wr=>∃ k:Nat,i=.int .i64 k∧k≤l.length∧Hid (Below W.heap.size W wr)∧Hid (∀ j (h:j<l.length),j<k→okM l[j]=true)) (fun i _=>l.length - (intOf i).toNat)
 case atStart=>exact ⟨0,rfl,Nat.zero_le _,hid (Below.refl _ _),hid (fun j h hj=>by omega)⟩
 case round=>
  obtain ⟨k,rfl,hk,HW,HA⟩:=hrel
  by_cases hlt:k<l.length
  ·have hlt':(k:Int)<(l.length:Int):=by omega
   rcases HC.out with hc | ⟨q,off,rfl,hq,hc⟩
   ·subst hc;simp at hlt
   obtain ⟨cs,hR,hcs⟩:=hc k hlt
   have hB:=HW.out
   have hel:=HE.out _ (List.getElem_mem hlt)
   have hR0:=hid hR
   clear hR hc
   obtain ⟨vp,vt,vi,rfl,h1,h2,h3⟩:=hR0.out
   obtain ⟨p1,c1,rfl,_⟩:=h1
   obtain ⟨p2,c2,rfl,_⟩:=h2
   obtain ⟨p3,c3,rfl,_⟩:=h3
   have hRr:=MR.later hB _ _ hR0.out
   obtain ⟨x0,x1,x2,x3⟩:=rows4 hB hq hcs
   have HV:=hid (MR.later ((Below.refl wr.heap.size wr).alloc (Nat.le_refl _) (.cells #[.string (bs l[k].name),.slice p1 l[k].ps.length c1,.slice p2 l[k].pts.length c2,.slice p3 l[k].l.length c3] 53)) _ _ hRr)
   have HBV:=hid (HBs.out.later (hB.alloc hB.size (.cells #[.string (bs l[k].name),.slice p1 l[k].ps.length c1,.slice p2 l[k].pts.length c2,.slice p3 l[k].l.length c3] 53)))
   have HEL:=hid hel
   have HNX:=hid (fun (h:okM l[k]=true)=>show ∀ j (h:j<l.length),j<k+1→okM l[j]=true from fun j h1 h2=>by
    rcases Nat.lt_or_ge j k with h3 | h3
    ·exact HA.out j h1 h3
    ·have:j=k:=by omega
     subst this;exact h)
   have HNO:=hid (fun (h:okM l[k]=false)=>show l.all okM=false from by
    rw [Bool.eq_false_iff]
    intro e
    rw [List.all_eq_true.1 e _ (List.getElem_mem hlt)] at h
    cases h)
   clear hel hRr hcs
   generalize l[k]=y at *
   cases hok:okM y with
   | true=>
    have HOK:=hid (HNX.out hok)
    have HY:=hid hok
    clear hok
    go_wp2_with (go_at_call 88;refine (HEL.out _ _ HBV.out HV.out).mono ?_;rintro e W5 ⟨rfl,h2⟩;have H2:=hid h2;clear h2;rw [HY.out])
    go_roundw
    case rel=>exact ⟨k+1,by go_num,hlt,hid (HW.out.trans ((((Below.refl wr.heap.size wr).alloc (Nat.le_refl _) _).trans (H2.out.mono (by simp))).mono HW.out.size)),HOK⟩
    case measure=>simp [intOf];omega
   | false=>
    have HOK:=hid (HNO.out hok)
    have HY:=hid hok
    clear hok
    go_wp2_with (go_at_call 88;refine (HEL.out _ _ HBV.out HV.out).mono ?_;rintro e W5 ⟨rfl,h2⟩;have H2:=hid h2;clear h2;rw [HY.out])
    go_ret
    exact ⟨ret_bool HOK.out.symm,HW.out.trans ((((Below.refl wr.heap.size wr).alloc (Nat.le_refl _) _).trans (H2.out.mono (by simp))).mono HW.out.size)⟩
  ·have hge:¬ ((k:Int)<(l.length:Int)):=by omega
   have HALL:=hid (show l.all okM=true from List.all_eq_true.2 fun x hx=>by
    obtain ⟨j,hj,rfl⟩:=List.getElem_of_mem hx
    exact HA.out j hj (by omega))
   go_wp2
   go_ret
   exact ⟨ret_bool HALL.out.symm,HW.out⟩
theorem sumM_any (v:Value) (l:List Md) (hl:sumN sizeM l≤1000000000) (h1:∀ y,1≤sizeM y) (W:World) (hR:MsR W v l) (hE:∀ y ∈ l,MeasM y) :
  Calls Tryz.prog 84 #[v,.func (.func 85) #[] #[]] W fun e W'=>e=.returned (.agg #[.int .i64 (sumN sizeM l:Nat),.int .i64 (maxN deepM l:Nat)])∧Below W.heap.size W W':=by
 have hll:l.length≤1000000000:=Nat.le_trans (sumN_len sizeM h1 l) hl
 obtain ⟨p,cap,rfl,hcap,hcell⟩:=hR
 have HE:=hid hE
 have HC:=hid hcell
 have HL:=hid hl
 clear hE hcell hl h1
 have hr0:MBox (W.alloc (.cells #[.int .i64 0,.int .i64 0] 98)) W.heap.size 0 0:=World.alloc_heap_new W _
 have hb1:=(Below.refl W.heap.size W).alloc (Nat.le_refl _) (.cells #[.int .i64 0,.int .i64 0] 98)
 have hs1:=World.size_alloc W (.cells #[.int .i64 0,.int .i64 0] 98)
 have HR0:=hid hr0
 have HB1:=hid hb1
 have HS1:=hid hs1
 clear hr0 hb1 hs1
 go_enter Tryz.func84,Tryz.ntmps84
 go_wp2
 have HW2:=hid (show Below W.heap.size W ((W.alloc (.cells #[.int .i64 0,.int .i64 0] 98)).alloc (.cells #[.int .i64 0,.int .i64 0] 98)) from HB1.out.alloc HB1.out.size _)
 have HM2:=hid (show MBox ((W.alloc (.cells #[.int .i64 0,.int .i64 0] 98)).alloc (.cells #[.int .i64 0,.int .i64 0] 98)) W.heap.size 0 0 from HR0.out.later ((Below.refl _ _).alloc (Nat.le_refl _) _))
 have HN2:=hid (show MBox ((W.alloc (.cells #[.int .i64 0,.int .i64 0] 98)).alloc (.cells #[.int .i64 0,.int .i64 0] 98)) (W.heap.size+1) 0 0 from by
  have:=World.alloc_heap_new (W.alloc (.cells #[.int .i64 0,.int .i64 0] 98)) (.cells #[.int .i64 0,.int .i64 0] 98)
  rwa [HS1.out] at this)
 generalize (W.alloc (.cells #[.int .i64 0,.int .i64 0] 98)).alloc (.cells #[.int .i64 0,.int .i64 0] 98)=W2 at *
 go_loopw [10] (fun i wr=>∃ k:Nat,i=.int .i64 k∧k≤l.length∧Hid (Below W.heap.size W wr)∧Hid (MBox wr W.heap.size 0 0)∧Hid (MBox wr (W.heap.size+1) (sumN sizeM (l.take k)) (maxN deepM (l.take k)))) (fun i _=>l.length - (intOf i).toNat)
 case atStart=>exact ⟨0,rfl,Nat.zero_le _,HW2,HM2,HN2⟩
 case round=>
  obtain ⟨k,rfl,hk,HW,HM,HN⟩:=hrel
  by_cases hlt:k<l.length
  ·have hlt':(k:Int)<(l.length:Int):=by omega
   rcases HC.out with hc | ⟨q,off,rfl,hq,hc⟩
   ·subst hc;simp at hlt
   obtain ⟨cs,hR,hcs⟩:=hc k hlt
   have hB:=HW.out
   have hel:=HE.out _ (List.getElem_mem hlt)
   have hR0:=hid hR
   clear hR hc
   obtain ⟨vp,vt,vi,rfl,h1,h2,h3⟩:=hR0.out
   obtain ⟨p1,c1,rfl,_⟩:=h1
   obtain ⟨p2,c2,rfl,_⟩:=h2
   obtain ⟨p3,c3,rfl,_⟩:=h3
   have hRr:=MR.later hB _ _ hR0.out
   obtain ⟨x0,x1,x2,x3⟩:=rows4 hB hq hcs
   have HTK:=hid (show l.take (k+1)=l.take k ++ [l[k]] from (List.take_append_getElem hlt).symm)
   have HSZ:=hid (show sumN sizeM (l.take k)+sizeM l[k]≤1000000000 from by
    have h2:=sumN_take sizeM l (k+1)
    rw [HTK.out,sumN_snoc] at h2
    exact Nat.le_trans h2 HL.out)
   have HRR:=hid hRr
   have HEL:=hid hel
   clear hel hRr hcs
   generalize l[k]=y at *
   go_wp2_with fail
   have HV0:=hid ((Below.refl wr.heap.size wr).alloc (Nat.le_refl _) (.cells #[.string (bs y.name),.slice p1 y.ps.length c1,.slice p2 y.pts.length c2,.slice p3 y.l.length c3] 53))
   have hvb:=World.alloc_heap_new wr (.cells #[.string (bs y.name),.slice p1 y.ps.length c1,.slice p2 y.pts.length c2,.slice p3 y.l.length c3] 53)
   have hvs:=World.size_alloc wr (.cells #[.string (bs y.name),.slice p1 y.ps.length c1,.slice p2 y.pts.length c2,.slice p3 y.l.length c3] 53)
   generalize wr.alloc (.cells #[.string (bs y.name),.slice p1 y.ps.length c1,.slice p2 y.pts.length c2,.slice p3 y.l.length c3] 53)=V at *
   have hwl:wr.heap.size<V.heap.size:=by omega
   have hMV:=HM.out.later HV0.out
   have hNV:=HN.out.later HV0.out
   have hYV:=MR.later HV0.out _ _ HRR.out
   obtain ⟨s,hs⟩:∃ s,s=sumN sizeM (l.take k):=⟨_,rfl⟩
   obtain ⟨dd,hdd⟩:∃ dd,dd=maxN deepM (l.take k):=⟨_,rfl⟩
   rw [← hs,← hdd] at hNV
   refine region_grow_p (sumG (W.heap.size+1)) (sumH (W.heap.size+1)) 5 (sumSp (W.heap.size+1) (s+sizeM y) (max dd (deepM y)) [.agg #[.int .i64 s,.int .i64 dd],.func (.func 85) #[] #[],.agg #[.string (bs y.name),.slice p1 y.ps.length c1,.slice p2 y.pts.length c2,.slice p3 y.l.length c3],.agg #[.int .i64 (sizeM y:Nat),.int .i64 (deepM y:Nat)],.agg #[.int .i64 ((s+sizeM y:Nat):Int),.int .i64 ((max dd (deepM y):Nat):Int)]])
    (by kernel_rfl) rfl (by kernel_rfl) (by kernel_rfl) (show sumH _ false _ _ from ⟨rfl,rfl,rfl,Nat.le_refl _,fun _ _=>rfl⟩) (before_from (by kernel_rfl)) (sum_tr _) (sum_mono _ _ _ _) ?hops ?hfin
   case hops=>
    refine ⟨?o0,?o1,?o2,?o3,?o4,?o5,trivial⟩
    all_goals (intro ev W' hH hr hD;have hG:Grq V W':=hH;have hcc:=hr.const;have hff:=hr.func)
    case o0=>
     have e5:ev (.tmp 5)=.pointer (some ⟨W.heap.size+1,0,none⟩):=hr.tmp 5 (by kernel_rfl)
     obtain ⟨m0,m1,_,_⟩:=(hNV.later hG).cells
     exact ok_val (by simp [execOp,go_sem,e5,m0,m1]) ⟨sumG_refl _ _ (by decide) _,rfl⟩
    case o1=>
     have e1:ev (.tmp 1)=.func (.func 85) #[] #[]:=hr.tmp 1 (by kernel_rfl)
     exact ok_val (by simp [execOp,go_sem,e1]) ⟨sumG_refl _ _ (by decide) _,rfl⟩
    case o2=>
     have e7:ev (.tmp 7)=.pointer (some ⟨wr.heap.size,0,none⟩):=hr.tmp 7 (by kernel_rfl)
     have hv2:=(hG.block _ hwl).trans hvb
     have m0:=box_at hv2 0 (v:=.string (bs y.name)) rfl
     have m1:=box_at hv2 1 (v:=.slice p1 y.ps.length c1) rfl
     have m2:=box_at hv2 2 (v:=.slice p2 y.pts.length c2) rfl
     have m3:=box_at hv2 3 (v:=.slice p3 y.l.length c3) rfl
     exact ok_val (by simp [execOp,go_sem,e7,m0,m1,m2,m3]) ⟨sumG_refl _ _ (by decide) _,rfl⟩
    case o3=>
     have e15:ev (.tmp 15)=_:=hD 1 15 (by kernel_rfl)
     have e16:ev (.tmp 16)=_:=hD 2 16 (by kernel_rfl)
     refine ok_call (f:=85) (args:=#[.agg #[.string (bs y.name),.slice p1 y.ps.length c1,.slice p2 y.pts.length c2,.slice p3 y.l.length c3]]) (by simp [execOp,go_sem,e15,e16]) ?_
     refine (HEL.out W' _ (MR.later hG _ _ hYV)).mono ?_
     rintro e W5 ⟨rfl,h2⟩
     exact ⟨_,rfl,sumG_of (by decide) h2,rfl⟩
    case o4=>
     have e14:ev (.tmp 14)=_:=hD 0 14 (by kernel_rfl)
     have e17:ev (.tmp 17)=_:=hD 3 17 (by kernel_rfl)
     refine ok_call (f:=150) (args:=#[.agg #[.int .i64 s,.int .i64 dd],.agg #[.int .i64 (sizeM y:Nat),.int .i64 (deepM y:Nat)]]) (by simp [execOp,go_sem,hcc,hff,e14,e17]) ?_
     refine (beside_any s dd (sizeM y) (deepM y) (by rw [hs];exact HSZ.out) W').mono ?_
     rintro e W5 ⟨rfl,h2⟩
     exact ⟨_,rfl,sumG_of (by decide) h2,rfl⟩
    case o5=>
     have e5:ev (.tmp 5)=.pointer (some ⟨W.heap.size+1,0,none⟩):=hr.tmp 5 (by kernel_rfl)
     have e18:ev (.tmp 18)=_:=hD 4 18 (by kernel_rfl)
     have hN5:=hNV.later hG
     obtain ⟨m0,m1,f0,f1⟩:=hN5.cells
     have hset:=hN5.set (s+sizeM y) (max dd (deepM y))
     have f2:(W'.setCell ⟨W.heap.size+1,0,none⟩ (.int .i64 ((s+sizeM y:Nat):Int))).cell? ⟨W.heap.size+1,1,none⟩=some (.int .i64 dd):=(cell_of_row _ _ 1 _ _ _ (setCell_row hN5)).trans rfl
     have f3:(W'.setCell ⟨W.heap.size+1,0,none⟩ (.int .i64 ((s+sizeM y:Nat):Int))).frozen? ⟨W.heap.size+1,1,none⟩=false:=by rw [World.frozen?_setCell];exact f1
     refine .inr (.inl ⟨_,(show (execOp ev _).run Tryz.prog W'=.ok .skip ((W'.setCell ⟨W.heap.size+1,0,none⟩ (.int .i64 ((s+sizeM y:Nat):Int))).setCell ⟨W.heap.size+1,1,none⟩ (.int .i64 ((max dd (deepM y):Nat):Int))) from by simp [execOp,go_sem,e5,e18,m0,m1,f0,f1,f2,f3]),hset.2,hset.1⟩)
   case hfin=>
    intro zz W' hH hzz
    have hG:V.grownBy W' (some (W.heap.size+1)):=hH
    have hfin:MBox W' (W.heap.size+1) (s+sizeM y) (max dd (deepM y)):=hzz 5 (by simp)
    have HG:=hid hG
    have HF:=hid hfin
    have HMV:=hid ((hG.block W.heap.size hMV.lt (by simp)).trans hMV)
    have HSS:=hid hs
    have HDD:=hid hdd
    clear hvb hvs hwl hMV hNV hYV hs hdd hG hfin hzz hH
    simp only [putAll,Act.put,List.setIfInBounds_toArray,List.set_cons_zero,List.set_cons_succ]
    go_wp2_with fail
    go_roundw
    case rel=>exact ⟨k+1,by go_num,hlt,hid ((HW.out.trans (HV0.out.mono HW.out.size)).grown HG.out (Nat.le_trans HW.out.size HV0.out.size) (fun k e=>by cases e;omega)),HMV,by rw [HTK.out,sumN_snoc,maxN_snoc,← HSS.out,← HDD.out];exact HF⟩
    case measure=>simp [intOf];omega
  ·have hge:¬ ((k:Int)<(l.length:Int)):=by omega
   have htk:l.take k=l:=List.take_of_length_le (by omega)
   have hN:=HN.out
   rw [htk] at hN
   have HN3:=hid hN
   obtain ⟨n0,n1,_,_⟩:=hN.cells
   obtain ⟨m0,m1,f0,f1⟩:=HM.out.cells
   clear htk hN
   go_wp2
   refine bodyPost_ret (v:=.agg #[.int .i64 (sumN sizeM l:Nat),.int .i64 (maxN deepM l:Nat)]) ?_ rfl ⟨rfl,?_⟩
   ·obtain ⟨r0,r1,_,_⟩:=(HM.out.set (sumN sizeM l) (maxN deepM l)).1.cells
    simp [results,Tryz.results84,go_sem,r0,r1]
   ·exact HW.out.grown (HM.out.set _ _).2 HW.out.size (fun k e=>by cases e;exact Nat.le_refl _)
end Go.Proofs.YtlcfpdmicpggbaaGreatDoor
