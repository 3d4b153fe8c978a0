/- Texts of the seat, merged. -/
import Derived.Deep.QuietTactic
import Derived.Test.YtlcfpdmicpggbaaGreatDoorD9
import Derived.WalkSmall
set_option linter.unusedVariables false
set_option linter.unusedSimpArgs false
set_option maxRecDepth 100000
set_option maxHeartbeats 16000000
namespace Go.Proofs.YtlcfpdmicpggbaaGreatDoor
open Go.Lib (hid)
open Go.RowKit Go.Proofs.Spl Go.Proofs.Scn Go.Shelf
abbrev RetN (f:FuncId) (args:Array Value) (W:World) (n:Nat):Prop:=Calls Tryz.prog f args W fun e W'=>e=.returned (.int .i64 (n:Nat))∧Below W.heap.size W W'
theorem maxN_le' {α:Type} {f:α→Nat} {l:List α} {n:Nat} (h:∀ x ∈ l,f x≤n):maxN f l≤n:=by
 induction l with
 | nil=>exact Nat.zero_le _
 | cons a l ih=>
  have e:maxN f (a :: l)=max (f a) (maxN f l):=rfl
  have h1:=h a (by simp)
  have h2:=ih (fun x hx=>h x (by simp [hx]))
  omega
theorem maxN_take {α:Type} (f:α→Nat) (l:List α) (k:Nat):maxN f (l.take k)≤maxN f l:=maxN_le' fun x hx=>maxN_mem f (List.mem_of_mem_take hx)
theorem wr64 (a:Int) (h:-9000000000000000000≤a∧a≤9000000000000000000):IntKind.i64.wrap a=a∧wrap64 a=a:=⟨Go.IntWalk.i64_in _ (by omega),Go.IntWalk.wrap64_in _ (by omega)⟩
theorem wrs {e:Int} (n:Nat) (h:n≤1000000000) (he:e=(n:Int)):IntKind.i64.wrap e=e∧wrap64 e=e:=wr64 e (by omega)
theorem mx1 (s a:Nat):max (s:Int) (a:Int)=((max s a:Nat):Int):=by omega
theorem mx2 (s a:Nat):max (s:Int) (1+(a:Int))=((max s (1+a):Nat):Int):=by omega
theorem max2_nat (x y:Nat):Builtin.max2 (.int .i64 x) (.int .i64 y)=pure (.int .i64 ((max x y:Nat):Int)):=by
 simp only [Builtin.max2]
 congr 2
 split <;> omega
theorem run_max6 {P:Program} (ts:Array TypeId) (t:TypeId) (w:World) (a b c d g j:Nat):(Builtin.max_ ts t #[.int .i64 a,.int .i64 b,.int .i64 c,.int .i64 d,.int .i64 g,.int .i64 j]).run P w=.ok (.int .i64 ((max (max (max (max (max a b) c) d) g) j:Nat):Int)) w:=by
 simp only [Builtin.max_,List.foldlM,max2_nat,pure_bind]
 rfl
def SzX (y:X):Prop:=∀ (W:World) (cs:List Value),XR W y cs→RetN 41 #[.agg cs.toArray] W (sizeX y)
def DpX (y:X):Prop:=∀ (W:World) (cs:List Value),XR W y cs→RetN 42 #[.agg cs.toArray] W (deepX y)
theorem rsizeL_any (v:Value) (l:List X) (hlen:l.length≤1000000000) (hl:sumN sizeX l≤1000000000) (W:World) (hR:XsR W v l) (hE:∀ y ∈ l,SzX y) :
  RetN 83 #[v] W (sumN sizeX l):=by
 obtain ⟨p,cap,rfl,hcap,hcell⟩:=hR
 have HC:=hid hcell
 have HLL:=hid hl
 have HE:=hid hE
 clear hcell hl hE
 go_enter Tryz.func83,Tryz.ntmps83
 go_wp2
 go_loopw [3,4] (fun n i wr=>∃ k:Nat,i=.int .i64 k∧n=.int .i64 ((sumN sizeX (l.take k):Nat))∧k≤l.length∧Hid (Below W.heap.size W wr)) (fun _ i _=>l.length - (intOf i).toNat)
 case atStart=>exact ⟨0,rfl,rfl,Nat.zero_le _,hid (Below.refl _ _)⟩
 case round=>
  obtain ⟨k,rfl,rfl,hk,HW⟩:=hrel
  by_cases hlt:k<l.length
  ·have hlt':(k:Int)<(l.length:Int):=by omega
   rcases HC.out with hc | ⟨q,off,rfl,hq,hc⟩
   ·subst hc;simp at hlt
   obtain ⟨cs,hR,hcs⟩:=hc k hlt
   have hB:=HW.out
   have hR0:=hid hR
   clear hR hc
   obtain ⟨_,ls,rfl,hL⟩:=XR_iff.1 hR0.out
   obtain ⟨pl,cl,rfl,_⟩:=hL
   have y0:=hcs 0 (by omega)
   have y1:=hcs 1 (by omega)
   have y2:=hcs 2 (by omega)
   have y3:=hcs 3 (by omega)
   have y4:=hcs 4 (by omega)
   have y5:=hcs 5 (by omega)
   simp only [Nat.add_zero,List.getElem?_cons_zero,List.getElem?_cons_succ] at y0 y1 y2 y3 y4 y5
   have HSx:=hid (show ∀ w',Below W.heap.size W w'→w'.cell? ⟨q,off+k * 6,none⟩=some (.int .i64 l[k].op)∧w'.cell? ⟨q,off+k * 6+1,none⟩=some (.string (bs l[k].name))∧w'.cell? ⟨q,off+k * 6+2,none⟩=some (.int .i64 l[k].n)∧w'.cell? ⟨q,off+k * 6+3,none⟩=some (.int .i64 l[k].w)∧w'.cell? ⟨q,off+k * 6+4,none⟩=some (.int .u64 l[k].v)∧w'.cell? ⟨q,off+k * 6+5,none⟩=some (.slice pl l[k].l.length cl) from fun w' h=>⟨(h.cell (p:=⟨q,off+k * 6,none⟩) hq).trans y0,(h.cell (p:=⟨q,off+k * 6+1,none⟩) hq).trans y1,(h.cell (p:=⟨q,off+k * 6+2,none⟩) hq).trans y2,(h.cell (p:=⟨q,off+k * 6+3,none⟩) hq).trans y3,(h.cell (p:=⟨q,off+k * 6+4,none⟩) hq).trans y4,(h.cell (p:=⟨q,off+k * 6+5,none⟩) hq).trans y5⟩)
   have hTK:l.take (k+1)=l.take k ++ [l[k]]:=(List.take_append_getElem hlt).symm
   have hSZ:=Nat.le_trans (sumN_take sizeX l (k+1)) HLL.out
   rw [hTK,sumN_snoc] at hSZ
   obtain ⟨s,hs⟩:∃ s,s=sumN sizeX (l.take k):=⟨_,rfl⟩
   rw [← hs] at hSZ
   obtain ⟨a,ha⟩:∃ n:Nat,n=sizeX l[k]:=⟨_,rfl⟩
   rw [← ha] at hSZ
   have C0:=hid (fun (W9:World) (h:Below W.heap.size W W9)=>show RetN 41 #[.agg #[.int .i64 l[k].op,.string (bs l[k].name),.int .i64 l[k].n,.int .i64 l[k].w,.int .u64 l[k].v,.slice pl l[k].l.length cl]] W9 a by rw [ha];exact HE.out _ (List.getElem_mem hlt) W9 _ (XR.later h _ _ hR0.out))
   have HV:=hid (show ((sumN sizeX (l.take (k+1)):Nat):Int)=(s:Int)+(a:Int) by rw [hTK,sumN_snoc,← ha,← hs];try (clear hSZ hs ha;omega))
   rw [← hs]
   obtain ⟨x0,x1,x2,x3,x4,x5⟩:=HSx.out _ hB
   clear hTK hs ha hcs hB y0 y1 y2 y3 y4 y5
   have hw1:=wrs (e:=(s:Int)+(a:Int)) (s+a) (Nat.le_trans (by omega) hSZ) (by push_cast;rfl)
   have ha1:=hw1.1
   have hb1:=hw1.2
   clear hw1
   clear hSZ
   generalize l[k]=y at *
   go_wp2_with (go_at_call 41;refine (C0.out _ HW.out).mono ?_;rintro e W5 ⟨rfl,hb⟩;have X1:=hid (HW.out.trans (hb.mono HW.out.size));clear hb)
   go_roundw
   case rel=>exact ⟨k+1,by go_num,by rw [HV.out],hlt,hid X1.out⟩
   case measure=>simp [intOf];omega
  ·have hge:¬ ((k:Int)<(l.length:Int)):=by omega
   have htk:l.take k=l:=List.take_of_length_le (by omega)
   rw [htk]
   go_wp2
   go_ret
   exact ⟨rfl,HW.out⟩
theorem rdeepL_any (v:Value) (l:List X) (hlen:l.length≤1000000000) (hl:maxN deepX l≤1000000000) (W:World) (hR:XsR W v l) (hE:∀ y ∈ l,DpX y) :
  RetN 82 #[v] W (maxN deepX l):=by
 obtain ⟨p,cap,rfl,hcap,hcell⟩:=hR
 have HC:=hid hcell
 have HLL:=hid hl
 have HE:=hid hE
 clear hcell hl hE
 go_enter Tryz.func82,Tryz.ntmps82
 go_wp2
 go_loopw [3,4] (fun n i wr=>∃ k:Nat,i=.int .i64 k∧n=.int .i64 ((maxN deepX (l.take k):Nat))∧k≤l.length∧Hid (Below W.heap.size W wr)) (fun _ i _=>l.length - (intOf i).toNat)
 case atStart=>exact ⟨0,rfl,rfl,Nat.zero_le _,hid (Below.refl _ _)⟩
 case round=>
  obtain ⟨k,rfl,rfl,hk,HW⟩:=hrel
  by_cases hlt:k<l.length
  ·have hlt':(k:Int)<(l.length:Int):=by omega
   rcases HC.out with hc | ⟨q,off,rfl,hq,hc⟩
   ·subst hc;simp at hlt
   obtain ⟨cs,hR,hcs⟩:=hc k hlt
   have hB:=HW.out
   have hR0:=hid hR
   clear hR hc
   obtain ⟨_,ls,rfl,hL⟩:=XR_iff.1 hR0.out
   obtain ⟨pl,cl,rfl,_⟩:=hL
   have y0:=hcs 0 (by omega)
   have y1:=hcs 1 (by omega)
   have y2:=hcs 2 (by omega)
   have y3:=hcs 3 (by omega)
   have y4:=hcs 4 (by omega)
   have y5:=hcs 5 (by omega)
   simp only [Nat.add_zero,List.getElem?_cons_zero,List.getElem?_cons_succ] at y0 y1 y2 y3 y4 y5
   have HSx:=hid (show ∀ w',Below W.heap.size W w'→w'.cell? ⟨q,off+k * 6,none⟩=some (.int .i64 l[k].op)∧w'.cell? ⟨q,off+k * 6+1,none⟩=some (.string (bs l[k].name))∧w'.cell? ⟨q,off+k * 6+2,none⟩=some (.int .i64 l[k].n)∧w'.cell? ⟨q,off+k * 6+3,none⟩=some (.int .i64 l[k].w)∧w'.cell? ⟨q,off+k * 6+4,none⟩=some (.int .u64 l[k].v)∧w'.cell? ⟨q,off+k * 6+5,none⟩=some (.slice pl l[k].l.length cl) from fun w' h=>⟨(h.cell (p:=⟨q,off+k * 6,none⟩) hq).trans y0,(h.cell (p:=⟨q,off+k * 6+1,none⟩) hq).trans y1,(h.cell (p:=⟨q,off+k * 6+2,none⟩) hq).trans y2,(h.cell (p:=⟨q,off+k * 6+3,none⟩) hq).trans y3,(h.cell (p:=⟨q,off+k * 6+4,none⟩) hq).trans y4,(h.cell (p:=⟨q,off+k * 6+5,none⟩) hq).trans y5⟩)
   have hTK:l.take (k+1)=l.take k ++ [l[k]]:=(List.take_append_getElem hlt).symm
   have hSZ:=Nat.le_trans (maxN_take deepX l (k+1)) HLL.out
   rw [hTK,maxN_snoc] at hSZ
   obtain ⟨s,hs⟩:∃ s,s=maxN deepX (l.take k):=⟨_,rfl⟩
   rw [← hs] at hSZ
   obtain ⟨a,ha⟩:∃ n:Nat,n=deepX l[k]:=⟨_,rfl⟩
   rw [← ha] at hSZ
   have C0:=hid (fun (W9:World) (h:Below W.heap.size W W9)=>show RetN 42 #[.agg #[.int .i64 l[k].op,.string (bs l[k].name),.int .i64 l[k].n,.int .i64 l[k].w,.int .u64 l[k].v,.slice pl l[k].l.length cl]] W9 a by rw [ha];exact HE.out _ (List.getElem_mem hlt) W9 _ (XR.later h _ _ hR0.out))
   have HV:=hid (show ((maxN deepX (l.take (k+1)):Nat):Int)=((max s a:Nat):Int) by rw [hTK,maxN_snoc,← ha,← hs];try (clear hSZ hs ha;omega))
   rw [← hs]
   obtain ⟨x0,x1,x2,x3,x4,x5⟩:=HSx.out _ hB
   clear hTK hs ha hcs hB y0 y1 y2 y3 y4 y5
   have hm2:max ((s:Int)) ((a:Int))=((max s a:Nat):Int):=mx1 s a
   clear hSZ
   generalize l[k]=y at *
   go_wp2_with (go_at_call 42;refine (C0.out _ HW.out).mono ?_;rintro e W5 ⟨rfl,hb⟩;have X1:=hid (HW.out.trans (hb.mono HW.out.size));clear hb)
   go_roundw
   case rel=>exact ⟨k+1,by go_num,by rw [HV.out],hlt,hid X1.out⟩
   case measure=>simp [intOf];omega
  ·have hge:¬ ((k:Int)<(l.length:Int)):=by omega
   have htk:l.take k=l:=List.take_of_length_le (by omega)
   rw [htk]
   go_wp2
   go_ret
   exact ⟨rfl,HW.out⟩
theorem rsizeX_walk (op:Int) (name:Ln) (n w:Int) (v:Nat) (p:Option Addr) (cap:Nat) (l:List X) (hlen:l.length≤1000000000) (hl:sumN sizeX l+1≤1000000000) (W:World) (hR:XsR W (.slice p l.length cap) l) (hE:∀ y ∈ l,SzX y) :
  RetN 41 #[.agg #[.int .i64 op,.string (bs name),.int .i64 n,.int .i64 w,.int .u64 v,.slice p l.length cap]] W (sumN sizeX l+1):=by
 obtain ⟨W1,hW1⟩:∃ W1,W1=W.alloc (.cells #[.int .i64 op,.string (bs name),.int .i64 n,.int .i64 w,.int .u64 v,.slice p l.length cap] 28):=⟨_,rfl⟩
 have hb1:Below W.heap.size W W1:=by rw [hW1];exact (Below.refl _ _).alloc (Nat.le_refl _) _
 have hR1:=XsR.later hR hb1
 have HL1:=hid (show W.heap.size<W1.heap.size by rw [hW1];simp)
 have HC5:=hid (show W1.cell? ⟨W.heap.size,5,none⟩=some (.slice p l.length cap) by rw [hW1];exact (cell_of_row _ _ _ _ _ _ (World.alloc_heap_new W _)).trans rfl)
 obtain ⟨p',cap',hpe,hcap,hcell⟩:=hR1
 cases hpe
 have HC:=hid hcell
 have HLL:=hid hl
 have HE:=hid hE
 have HB1:=hid hb1
 clear hcell hl hE hb1 hR
 go_enter Tryz.func41,Tryz.ntmps41
 go_wp2
 rw [← hW1]
 clear hW1
 go_loopw [3,4] (fun n i wr=>∃ k:Nat,i=.int .i64 k∧n=.int .i64 ((sumN sizeX (l.take k)+1:Nat))∧k≤l.length∧Hid (Below W1.heap.size W1 wr)) (fun _ i _=>l.length - (intOf i).toNat)
 case atStart=>exact ⟨0,rfl,rfl,Nat.zero_le _,hid (Below.refl _ _)⟩
 case round=>
  obtain ⟨k,rfl,rfl,hk,HW⟩:=hrel
  have k5:=(HW.out.cell (p:=⟨W.heap.size,5,none⟩) HL1.out).trans HC5.out
  by_cases hlt:k<l.length
  ·have hlt':(k:Int)<(l.length:Int):=by omega
   rcases HC.out with hc | ⟨q,off,rfl,hq,hc⟩
   ·subst hc;simp at hlt
   obtain ⟨cs,hR,hcs⟩:=hc k hlt
   have hB:=HW.out
   have hR0:=hid hR
   clear hR hc
   obtain ⟨_,ls,rfl,hL⟩:=XR_iff.1 hR0.out
   obtain ⟨pl,cl,rfl,_⟩:=hL
   obtain ⟨x0,x1,x2,x3,x4,x5⟩:=rows6 hB hq hcs
   have hTK:l.take (k+1)=l.take k ++ [l[k]]:=(List.take_append_getElem hlt).symm
   have hSZ:=Nat.le_trans (Nat.add_le_add_right (sumN_take sizeX l (k+1)) 1) HLL.out
   rw [hTK,sumN_snoc] at hSZ
   obtain ⟨s,hs⟩:∃ s,s=sumN sizeX (l.take k):=⟨_,rfl⟩
   obtain ⟨a,ha⟩:∃ n:Nat,n=sizeX l[k]:=⟨_,rfl⟩
   rw [← hs,← ha] at hSZ
   have C0:=hid (fun (W9:World) (h:Below W1.heap.size W1 W9)=>show RetN 41 #[.agg #[.int .i64 l[k].op,.string (bs l[k].name),.int .i64 l[k].n,.int .i64 l[k].w,.int .u64 l[k].v,.slice pl l[k].l.length cl]] W9 a by rw [ha];exact HE.out _ (List.getElem_mem hlt) W9 _ (XR.later h _ _ hR0.out))
   have HV:=hid (show ((sumN sizeX (l.take (k+1))+1:Nat):Int)=(s:Int)+1+(a:Int) by rw [hTK,sumN_snoc,← ha,← hs];omega)
   have hw3:=wrs (e:=(s:Int)+1+(a:Int)) (s+1+a) (Nat.le_trans (by omega) hSZ) (by push_cast;rfl)
   have ha3:=hw3.1
   have hb3:=hw3.2
   clear hw3
   rw [← hs]
   clear hTK hSZ hs ha hcs hB
   generalize l[k]=y at *
   go_wp2_with (go_at_call 41;refine (C0.out _ HW.out).mono ?_;rintro e W5 ⟨rfl,hb⟩;have X1:=hid (HW.out.trans (hb.mono HW.out.size));clear hb)
   go_roundw
   case rel=>exact ⟨k+1,by go_num,by rw [HV.out],hlt,X1⟩
   case measure=>simp [intOf];omega
  ·have hge:¬ ((k:Int)<(l.length:Int)):=by omega
   have htk:l.take k=l:=List.take_of_length_le (by omega)
   rw [htk]
   go_wp2
   go_ret
   exact ⟨rfl,HB1.out.trans (HW.out.mono HB1.out.size)⟩
theorem szX_ok:∀ x:X,sizeX x≤1000000000→SzX x:=by
 refine X.ind ?_
 intro x ih hsz W cs hR
 obtain ⟨hv,ls,rfl,hL⟩:=XR_iff.1 hR
 have hL0:=hL
 obtain ⟨p,c,rfl,_⟩:=hL
 rw [sizeX_eq,sizeXs_sum] at hsz
 have hlen:=sumN_len sizeX one_sizeX x.l
 have:=rsizeX_walk x.op x.name x.n x.w x.v p c x.l (by omega) hsz W hL0 (fun y hy=>ih y hy (by have:=sumN_mem sizeX hy;omega))
 rw [sizeX_eq,sizeXs_sum]
 exact this
theorem dpX_ok:∀ x:X,sizeX x≤1000000000→DpX x:=by
 refine X.ind ?_
 intro x ih hsz W cs hR
 obtain ⟨hv,ls,rfl,hL⟩:=XR_iff.1 hR
 have hL0:=hL
 obtain ⟨p,c,rfl,_⟩:=hL
 have hlen:=sumN_len sizeX one_sizeX x.l
 have hd:=deepX_le x
 rw [sizeX_eq,sizeXs_sum] at hsz hd
 have hdd:deepX x=maxN deepX x.l+1:=by rw [deepX_eq,deepXs_max]
 have HD:=hid (fun (W9:World) (h:Below W.heap.size W W9)=>rdeepL_any _ x.l (by omega) (by omega) W9 (XsR.later hL0 h) (fun y hy=>ih y hy (by have:=sumN_mem sizeX hy;omega)))
 rw [hdd]
 obtain ⟨m,hm⟩:∃ m,m=maxN deepX x.l:=⟨_,rfl⟩
 rw [← hm] at HD ⊢
 have hw:=wr64 (1+(m:Int)) (by omega)
 have ha:=hw.1
 have hb:=hw.2
 have HV:=hid (show ((m+1:Nat):Int)=1+(m:Int) by omega)
 clear hL0 hR hlen hd hsz hdd hm hw
 go_enter Tryz.func42,Tryz.ntmps42
 go_wp2_with (go_at_call 82;refine (HD.out _ ((Below.refl _ _).alloc (Nat.le_refl _) _)).mono ?_;rintro e W2 ⟨rfl,hb⟩;have C2:=hid (((Below.refl _ _).alloc (Nat.le_refl _) _).trans (hb.mono (by simp)));clear hb)
 go_ret
 exact ⟨by rw [HV.out];rfl,C2.out⟩
theorem rsizeB_any (v:Value) (l:List Bd) (hlen:l.length≤1000000000) (hl:sumN sizeB l≤1000000000) (W:World) (hR:BsR W v l) :
  RetN 78 #[v] W (sumN sizeB l):=by
 obtain ⟨p,cap,rfl,hcap,hcell⟩:=hR
 have HC:=hid hcell
 have HLL:=hid hl
 clear hcell hl
 go_enter Tryz.func78,Tryz.ntmps78
 go_wp2
 go_loopw [3,4] (fun n i wr=>∃ k:Nat,i=.int .i64 k∧n=.int .i64 ((sumN sizeB (l.take k):Nat))∧k≤l.length∧Hid (Below W.heap.size W wr)) (fun _ i _=>l.length - (intOf i).toNat)
 case atStart=>exact ⟨0,rfl,rfl,Nat.zero_le _,hid (Below.refl _ _)⟩
 case round=>
  obtain ⟨k,rfl,rfl,hk,HW⟩:=hrel
  by_cases hlt:k<l.length
  ·have hlt':(k:Int)<(l.length:Int):=by omega
   rcases HC.out with hc | ⟨q,off,rfl,hq,hc⟩
   ·subst hc;simp at hlt
   obtain ⟨cs,hR,hcs⟩:=hc k hlt
   have hB:=HW.out
   have hR0:=hid hR
   clear hR hc
   obtain ⟨xs,rfl,hXR⟩:=hR0.out
   obtain ⟨_,ls,rfl,hL⟩:=XR_iff.1 hXR
   obtain ⟨pl,cl,rfl,_⟩:=hL
   have y0:=hcs 0 (by omega)
   have y1:=hcs 1 (by omega)
   have y2:=hcs 2 (by omega)
   have y3:=hcs 3 (by omega)
   have y4:=hcs 4 (by omega)
   have y5:=hcs 5 (by omega)
   have y6:=hcs 6 (by omega)
   simp only [Nat.add_zero,List.getElem?_cons_zero,List.getElem?_cons_succ] at y0 y1 y2 y3 y4 y5 y6
   have HSx:=hid (show ∀ w',Below W.heap.size W w'→w'.cell? ⟨q,off+k * 7,none⟩=some (.string (bs l[k].name))∧w'.cell? ⟨q,off+k * 7+1,none⟩=some (.int .i64 l[k].x.op)∧w'.cell? ⟨q,off+k * 7+2,none⟩=some (.string (bs l[k].x.name))∧w'.cell? ⟨q,off+k * 7+3,none⟩=some (.int .i64 l[k].x.n)∧w'.cell? ⟨q,off+k * 7+4,none⟩=some (.int .i64 l[k].x.w)∧w'.cell? ⟨q,off+k * 7+5,none⟩=some (.int .u64 l[k].x.v)∧w'.cell? ⟨q,off+k * 7+6,none⟩=some (.slice pl l[k].x.l.length cl) from fun w' h=>⟨(h.cell (p:=⟨q,off+k * 7,none⟩) hq).trans y0,(h.cell (p:=⟨q,off+k * 7+1,none⟩) hq).trans y1,(h.cell (p:=⟨q,off+k * 7+2,none⟩) hq).trans y2,(h.cell (p:=⟨q,off+k * 7+3,none⟩) hq).trans y3,(h.cell (p:=⟨q,off+k * 7+4,none⟩) hq).trans y4,(h.cell (p:=⟨q,off+k * 7+5,none⟩) hq).trans y5,(h.cell (p:=⟨q,off+k * 7+6,none⟩) hq).trans y6⟩)
   have hTK:l.take (k+1)=l.take k ++ [l[k]]:=(List.take_append_getElem hlt).symm
   have hSZ:=Nat.le_trans (sumN_take sizeB l (k+1)) HLL.out
   rw [hTK,sumN_snoc,sizeB] at hSZ
   obtain ⟨s,hs⟩:∃ s,s=sumN sizeB (l.take k):=⟨_,rfl⟩
   rw [← hs] at hSZ
   obtain ⟨a,ha⟩:∃ n:Nat,n=sizeX l[k].x:=⟨_,rfl⟩
   rw [← ha] at hSZ
   have C0:=hid (fun (W9:World) (h:Below W.heap.size W W9)=>show RetN 41 #[.agg #[.int .i64 l[k].x.op,.string (bs l[k].x.name),.int .i64 l[k].x.n,.int .i64 l[k].x.w,.int .u64 l[k].x.v,.slice pl l[k].x.l.length cl]] W9 a by rw [ha];exact szX_ok l[k].x (by omega) W9 _ (XR.later h _ _ hXR))
   have HV:=hid (show ((sumN sizeB (l.take (k+1)):Nat):Int)=(s:Int)+1+(a:Int) by rw [hTK,sumN_snoc,sizeB,← ha,← hs];try (clear hSZ hs ha;omega))
   rw [← hs]
   obtain ⟨x0,x1,x2,x3,x4,x5,x6⟩:=HSx.out _ hB
   clear hTK hs ha hcs hB y0 y1 y2 y3 y4 y5 y6
   have hw4:=wrs (e:=(s:Int)+1) (s+1) (Nat.le_trans (by omega) hSZ) (by push_cast;rfl)
   have ha4:=hw4.1
   have hb4:=hw4.2
   clear hw4
   have hw5:=wrs (e:=(s:Int)+1+(a:Int)) (s+1+a) (Nat.le_trans (by omega) hSZ) (by push_cast;rfl)
   have ha5:=hw5.1
   have hb5:=hw5.2
   clear hw5
   clear hSZ
   generalize l[k]=y at *
   go_wp2_with (go_at_call 41;refine (C0.out _ HW.out).mono ?_;rintro e W5 ⟨rfl,hb⟩;have X1:=hid (HW.out.trans (hb.mono HW.out.size));clear hb)
   go_roundw
   case rel=>exact ⟨k+1,by go_num,by rw [HV.out],hlt,hid X1.out⟩
   case measure=>simp [intOf];omega
  ·have hge:¬ ((k:Int)<(l.length:Int)):=by omega
   have htk:l.take k=l:=List.take_of_length_le (by omega)
   rw [htk]
   go_wp2
   go_ret
   exact ⟨rfl,HW.out⟩
theorem rdeepB_any (v:Value) (l:List Bd) (hlen:l.length≤1000000000) (hl:maxN deepB l≤1000000000) (W:World) (hR:BsR W v l) (hE:∀ y ∈ l,sizeX y.x≤1000000000) :
  RetN 80 #[v] W (maxN deepB l):=by
 obtain ⟨p,cap,rfl,hcap,hcell⟩:=hR
 have HC:=hid hcell
 have HLL:=hid hl
 have HE:=hid hE
 clear hcell hl hE
 go_enter Tryz.func80,Tryz.ntmps80
 go_wp2
 go_loopw [3,4] (fun n i wr=>∃ k:Nat,i=.int .i64 k∧n=.int .i64 ((maxN deepB (l.take k):Nat))∧k≤l.length∧Hid (Below W.heap.size W wr)) (fun _ i _=>l.length - (intOf i).toNat)
 case atStart=>exact ⟨0,rfl,rfl,Nat.zero_le _,hid (Below.refl _ _)⟩
 case round=>
  obtain ⟨k,rfl,rfl,hk,HW⟩:=hrel
  by_cases hlt:k<l.length
  ·have hlt':(k:Int)<(l.length:Int):=by omega
   rcases HC.out with hc | ⟨q,off,rfl,hq,hc⟩
   ·subst hc;simp at hlt
   obtain ⟨cs,hR,hcs⟩:=hc k hlt
   have hB:=HW.out
   have hR0:=hid hR
   clear hR hc
   obtain ⟨xs,rfl,hXR⟩:=hR0.out
   obtain ⟨_,ls,rfl,hL⟩:=XR_iff.1 hXR
   obtain ⟨pl,cl,rfl,_⟩:=hL
   have y0:=hcs 0 (by omega)
   have y1:=hcs 1 (by omega)
   have y2:=hcs 2 (by omega)
   have y3:=hcs 3 (by omega)
   have y4:=hcs 4 (by omega)
   have y5:=hcs 5 (by omega)
   have y6:=hcs 6 (by omega)
   simp only [Nat.add_zero,List.getElem?_cons_zero,List.getElem?_cons_succ] at y0 y1 y2 y3 y4 y5 y6
   have HSx:=hid (show ∀ w',Below W.heap.size W w'→w'.cell? ⟨q,off+k * 7,none⟩=some (.string (bs l[k].name))∧w'.cell? ⟨q,off+k * 7+1,none⟩=some (.int .i64 l[k].x.op)∧w'.cell? ⟨q,off+k * 7+2,none⟩=some (.string (bs l[k].x.name))∧w'.cell? ⟨q,off+k * 7+3,none⟩=some (.int .i64 l[k].x.n)∧w'.cell? ⟨q,off+k * 7+4,none⟩=some (.int .i64 l[k].x.w)∧w'.cell? ⟨q,off+k * 7+5,none⟩=some (.int .u64 l[k].x.v)∧w'.cell? ⟨q,off+k * 7+6,none⟩=some (.slice pl l[k].x.l.length cl) from fun w' h=>⟨(h.cell (p:=⟨q,off+k * 7,none⟩) hq).trans y0,(h.cell (p:=⟨q,off+k * 7+1,none⟩) hq).trans y1,(h.cell (p:=⟨q,off+k * 7+2,none⟩) hq).trans y2,(h.cell (p:=⟨q,off+k * 7+3,none⟩) hq).trans y3,(h.cell (p:=⟨q,off+k * 7+4,none⟩) hq).trans y4,(h.cell (p:=⟨q,off+k * 7+5,none⟩) hq).trans y5,(h.cell (p:=⟨q,off+k * 7+6,none⟩) hq).trans y6⟩)
   have hTK:l.take (k+1)=l.take k ++ [l[k]]:=(List.take_append_getElem hlt).symm
   have hSZ:=Nat.le_trans (maxN_take deepB l (k+1)) HLL.out
   rw [hTK,maxN_snoc,deepB] at hSZ
   obtain ⟨s,hs⟩:∃ s,s=maxN deepB (l.take k):=⟨_,rfl⟩
   rw [← hs] at hSZ
   obtain ⟨a,ha⟩:∃ n:Nat,n=deepX l[k].x:=⟨_,rfl⟩
   rw [← ha] at hSZ
   have C0:=hid (fun (W9:World) (h:Below W.heap.size W W9)=>show RetN 42 #[.agg #[.int .i64 l[k].x.op,.string (bs l[k].x.name),.int .i64 l[k].x.n,.int .i64 l[k].x.w,.int .u64 l[k].x.v,.slice pl l[k].x.l.length cl]] W9 a by rw [ha];exact dpX_ok l[k].x (HE.out _ (List.getElem_mem hlt)) W9 _ (XR.later h _ _ hXR))
   have HV:=hid (show ((maxN deepB (l.take (k+1)):Nat):Int)=((max s (1+a):Nat):Int) by rw [hTK,maxN_snoc,deepB,← ha,← hs];try (clear hSZ hs ha;omega))
   rw [← hs]
   obtain ⟨x0,x1,x2,x3,x4,x5,x6⟩:=HSx.out _ hB
   clear hTK hs ha hcs hB y0 y1 y2 y3 y4 y5 y6
   have hw6:=wrs (e:=1+(a:Int)) (1+a) (Nat.le_trans (by omega) hSZ) (by push_cast;rfl)
   have ha6:=hw6.1
   have hb6:=hw6.2
   clear hw6
   have hm7:max ((s:Int)) (1+(a:Int))=((max s (1+a):Nat):Int):=mx2 s a
   clear hSZ
   generalize l[k]=y at *
   go_wp2_with (go_at_call 42;refine (C0.out _ HW.out).mono ?_;rintro e W5 ⟨rfl,hb⟩;have X1:=hid (HW.out.trans (hb.mono HW.out.size));clear hb)
   go_roundw
   case rel=>exact ⟨k+1,by go_num,by rw [HV.out],hlt,hid X1.out⟩
   case measure=>simp [intOf];omega
  ·have hge:¬ ((k:Int)<(l.length:Int)):=by omega
   have htk:l.take k=l:=List.take_of_length_le (by omega)
   rw [htk]
   go_wp2
   go_ret
   exact ⟨rfl,HW.out⟩
theorem rSizeS_any (v:Value) (l:List S) (hlen:l.length≤1000000000) (hl:sumN sizeS l≤1000000000) (W:World) (hR:SsR W v l) (hE:∀ y ∈ l,∀ (W:World) (v:Value),SsR W v y.l→RetN 43 #[v] W (sumN sizeS y.l)) :
  RetN 43 #[v] W (sumN sizeS l):=by
 obtain ⟨p,cap,rfl,hcap,hcell⟩:=hR
 have HC:=hid hcell
 have HLL:=hid hl
 have HE:=hid hE
 clear hcell hl hE
 go_enter Tryz.func43,Tryz.ntmps43
 go_wp2
 go_loopw [3,4] (fun n i wr=>∃ k:Nat,i=.int .i64 k∧n=.int .i64 ((sumN sizeS (l.take k):Nat))∧k≤l.length∧Hid (Below W.heap.size W wr)) (fun _ i _=>l.length - (intOf i).toNat)
 case atStart=>exact ⟨0,rfl,rfl,Nat.zero_le _,hid (Below.refl _ _)⟩
 case round=>
  obtain ⟨k,rfl,rfl,hk,HW⟩:=hrel
  by_cases hlt:k<l.length
  ·have hlt':(k:Int)<(l.length:Int):=by omega
   rcases HC.out with hc | ⟨q,off,rfl,hq,hc⟩
   ·subst hc;simp at hlt
   obtain ⟨cs,hR,hcs⟩:=hc k hlt
   have hB:=HW.out
   have hR0:=hid hR
   clear hR hc
   obtain ⟨xs,ls,rfl,hXR,hL⟩:=SR_iff.1 hR0.out
   have hXR0:=hXR
   have hL0:=hL
   obtain ⟨px,cx,rfl,_⟩:=hXR
   obtain ⟨pl,cl,rfl,_⟩:=hL
   have hyb:=Nat.le_trans (sumN_mem sizeS (List.getElem_mem hlt)) HLL.out
   rw [sizeS_eq,sizeXs_sum,sizeSs_sum] at hyb
   have y0:=hcs 0 (by omega)
   have y1:=hcs 1 (by omega)
   have y2:=hcs 2 (by omega)
   have y3:=hcs 3 (by omega)
   simp only [Nat.add_zero,List.getElem?_cons_zero,List.getElem?_cons_succ] at y0 y1 y2 y3
   have HSx:=hid (show ∀ w',Below W.heap.size W w'→w'.cell? ⟨q,off+k * 4,none⟩=some (.int .i64 l[k].op)∧w'.cell? ⟨q,off+k * 4+1,none⟩=some (.string (bs l[k].name))∧w'.cell? ⟨q,off+k * 4+2,none⟩=some (.slice px l[k].x.length cx)∧w'.cell? ⟨q,off+k * 4+3,none⟩=some (.slice pl l[k].l.length cl) from fun w' h=>⟨(h.cell (p:=⟨q,off+k * 4,none⟩) hq).trans y0,(h.cell (p:=⟨q,off+k * 4+1,none⟩) hq).trans y1,(h.cell (p:=⟨q,off+k * 4+2,none⟩) hq).trans y2,(h.cell (p:=⟨q,off+k * 4+3,none⟩) hq).trans y3⟩)
   have hTK:l.take (k+1)=l.take k ++ [l[k]]:=(List.take_append_getElem hlt).symm
   have hSZ:=Nat.le_trans (sumN_take sizeS l (k+1)) HLL.out
   rw [hTK,sumN_snoc,sizeS_eq,sizeXs_sum,sizeSs_sum] at hSZ
   obtain ⟨s,hs⟩:∃ s,s=sumN sizeS (l.take k):=⟨_,rfl⟩
   rw [← hs] at hSZ
   obtain ⟨a,ha⟩:∃ n:Nat,n=sumN sizeX l[k].x:=⟨_,rfl⟩
   obtain ⟨b,hb⟩:∃ n:Nat,n=sumN sizeS l[k].l:=⟨_,rfl⟩
   rw [← ha] at hSZ
   rw [← hb] at hSZ
   have C0:=hid (fun (W9:World) (h:Below W.heap.size W W9)=>show RetN 83 #[.slice px l[k].x.length cx] W9 a by rw [ha];exact rsizeL_any _ l[k].x (Nat.le_trans (sumN_len sizeX one_sizeX _) (Nat.le_trans (by omega) hyb)) (Nat.le_trans (by omega) hyb) W9 (XsR.later hXR0 h) (fun z hz=>szX_ok z (Nat.le_trans (sumN_mem sizeX hz) (Nat.le_trans (by omega) hyb))))
   have C1:=hid (fun (W9:World) (h:Below W.heap.size W W9)=>show RetN 43 #[.slice pl l[k].l.length cl] W9 b by rw [hb];exact HE.out _ (List.getElem_mem hlt) W9 _ (SsR.later hL0 h))
   have HV:=hid (show ((sumN sizeS (l.take (k+1)):Nat):Int)=(s:Int)+1+(a:Int)+(b:Int) by rw [hTK,sumN_snoc,sizeS_eq,sizeXs_sum,sizeSs_sum,← ha,← hb,← hs];try (clear hSZ hs ha hb;omega))
   rw [← hs]
   obtain ⟨x0,x1,x2,x3⟩:=HSx.out _ hB
   clear hTK hs ha hb hcs hB y0 y1 y2 y3
   have hw8:=wrs (e:=(s:Int)+1) (s+1) (Nat.le_trans (by omega) hSZ) (by push_cast;rfl)
   have ha8:=hw8.1
   have hb8:=hw8.2
   clear hw8
   have hw9:=wrs (e:=(s:Int)+1+(a:Int)) (s+1+a) (Nat.le_trans (by omega) hSZ) (by push_cast;rfl)
   have ha9:=hw9.1
   have hb9:=hw9.2
   clear hw9
   have hw10:=wrs (e:=(s:Int)+1+(a:Int)+(b:Int)) (s+1+a+b) (Nat.le_trans (by omega) hSZ) (by push_cast;rfl)
   have ha10:=hw10.1
   have hb10:=hw10.2
   clear hw10
   clear hSZ
   generalize l[k]=y at *
   go_wp2_with fail
   have X0:=hid (HW.out.drew)
   go_region_held3 (fun w'=>w'.cell? ⟨q,off+k * 4,none⟩=some (.int .i64 y.op)∧w'.cell? ⟨q,off+k * 4+1,none⟩=some (.string (bs y.name))∧w'.cell? ⟨q,off+k * 4+2,none⟩=some (.slice px y.x.length cx)∧w'.cell? ⟨q,off+k * 4+3,none⟩=some (.slice pl y.l.length cl))
    (first | exact HSx.out _ X2.out | exact HSx.out _ X1.out | exact HSx.out _ X0.out | go_keep)
    (first | (go_at_call 83;refine (C0.out _ X0.out).mono ?_;rintro e W5 ⟨rfl,hb⟩;have X1:=hid (X0.out.trans (hb.mono X0.out.size));clear hb C0) | (go_at_call 43;refine (C1.out _ X1.out).mono ?_;rintro e W6 ⟨rfl,hb⟩;have X2:=hid (X1.out.trans (hb.mono X1.out.size));clear hb C1))
   go_wp2_with fail
   go_roundw
   case rel=>exact ⟨k+1,by go_num,by rw [HV.out],hlt,hid X2.out⟩
   case measure=>simp [intOf];omega
  ·have hge:¬ ((k:Int)<(l.length:Int)):=by omega
   have htk:l.take k=l:=List.take_of_length_le (by omega)
   rw [htk]
   go_wp2
   go_ret
   exact ⟨rfl,HW.out⟩
theorem rDeepS_any (v:Value) (l:List S) (hlen:l.length≤1000000000) (hl:maxN deepS l≤1000000000) (W:World) (hR:SsR W v l) (hE:sumN sizeS l≤1000000000∧∀ y ∈ l,∀ (W:World) (v:Value),SsR W v y.l→RetN 44 #[v] W (maxN deepS y.l)) :
  RetN 44 #[v] W (maxN deepS l):=by
 obtain ⟨p,cap,rfl,hcap,hcell⟩:=hR
 have HC:=hid hcell
 have HLL:=hid hl
 have HE:=hid hE
 clear hcell hl hE
 go_enter Tryz.func44,Tryz.ntmps44
 go_wp2
 go_loopw [3,4] (fun n i wr=>∃ k:Nat,i=.int .i64 k∧n=.int .i64 ((maxN deepS (l.take k):Nat))∧k≤l.length∧Hid (Below W.heap.size W wr)) (fun _ i _=>l.length - (intOf i).toNat)
 case atStart=>exact ⟨0,rfl,rfl,Nat.zero_le _,hid (Below.refl _ _)⟩
 case round=>
  obtain ⟨k,rfl,rfl,hk,HW⟩:=hrel
  by_cases hlt:k<l.length
  ·have hlt':(k:Int)<(l.length:Int):=by omega
   rcases HC.out with hc | ⟨q,off,rfl,hq,hc⟩
   ·subst hc;simp at hlt
   obtain ⟨cs,hR,hcs⟩:=hc k hlt
   have hB:=HW.out
   have hR0:=hid hR
   clear hR hc
   obtain ⟨xs,ls,rfl,hXR,hL⟩:=SR_iff.1 hR0.out
   have hXR0:=hXR
   have hL0:=hL
   obtain ⟨px,cx,rfl,_⟩:=hXR
   obtain ⟨pl,cl,rfl,_⟩:=hL
   have hyb:=Nat.le_trans (sumN_mem sizeS (List.getElem_mem hlt)) HE.out.1
   rw [sizeS_eq,sizeXs_sum,sizeSs_sum] at hyb
   have y0:=hcs 0 (by omega)
   have y1:=hcs 1 (by omega)
   have y2:=hcs 2 (by omega)
   have y3:=hcs 3 (by omega)
   simp only [Nat.add_zero,List.getElem?_cons_zero,List.getElem?_cons_succ] at y0 y1 y2 y3
   have HSx:=hid (show ∀ w',Below W.heap.size W w'→w'.cell? ⟨q,off+k * 4,none⟩=some (.int .i64 l[k].op)∧w'.cell? ⟨q,off+k * 4+1,none⟩=some (.string (bs l[k].name))∧w'.cell? ⟨q,off+k * 4+2,none⟩=some (.slice px l[k].x.length cx)∧w'.cell? ⟨q,off+k * 4+3,none⟩=some (.slice pl l[k].l.length cl) from fun w' h=>⟨(h.cell (p:=⟨q,off+k * 4,none⟩) hq).trans y0,(h.cell (p:=⟨q,off+k * 4+1,none⟩) hq).trans y1,(h.cell (p:=⟨q,off+k * 4+2,none⟩) hq).trans y2,(h.cell (p:=⟨q,off+k * 4+3,none⟩) hq).trans y3⟩)
   have hTK:l.take (k+1)=l.take k ++ [l[k]]:=(List.take_append_getElem hlt).symm
   have hSZ:=Nat.le_trans (maxN_take deepS l (k+1)) HLL.out
   rw [hTK,maxN_snoc,deepS_eq,deepXs_max,deepSs_max] at hSZ
   obtain ⟨s,hs⟩:∃ s,s=maxN deepS (l.take k):=⟨_,rfl⟩
   rw [← hs] at hSZ
   obtain ⟨a,ha⟩:∃ n:Nat,n=maxN deepX l[k].x:=⟨_,rfl⟩
   obtain ⟨b,hb⟩:∃ n:Nat,n=maxN deepS l[k].l:=⟨_,rfl⟩
   rw [← ha] at hSZ
   rw [← hb] at hSZ
   have C0:=hid (fun (W9:World) (h:Below W.heap.size W W9)=>show RetN 82 #[.slice px l[k].x.length cx] W9 a by rw [ha];exact rdeepL_any _ l[k].x (Nat.le_trans (sumN_len sizeX one_sizeX _) (Nat.le_trans (by omega) hyb)) (Nat.le_trans (maxN_le_sumN fun z _=>deepX_le z) (Nat.le_trans (by omega) hyb)) W9 (XsR.later hXR0 h) (fun z hz=>dpX_ok z (Nat.le_trans (sumN_mem sizeX hz) (Nat.le_trans (by omega) hyb))))
   have C1:=hid (fun (W9:World) (h:Below W.heap.size W W9)=>show RetN 44 #[.slice pl l[k].l.length cl] W9 b by rw [hb];exact HE.out.2 _ (List.getElem_mem hlt) W9 _ (SsR.later hL0 h))
   have HV:=hid (show ((maxN deepS (l.take (k+1)):Nat):Int)=((max s (1+max a b):Nat):Int) by rw [hTK,maxN_snoc,deepS_eq,deepXs_max,deepSs_max,← ha,← hb,← hs];try (clear hSZ hs ha hb;omega))
   rw [← hs]
   obtain ⟨x0,x1,x2,x3⟩:=HSx.out _ hB
   clear hTK hs ha hb hcs hB y0 y1 y2 y3
   have hm11:max ((a:Int)) ((b:Int))=((max a b:Nat):Int):=mx1 a b
   have hq1:=wrs (e:=1+((max a b:Nat):Int)) (1+max a b) (Nat.le_trans (by omega) hSZ) (by push_cast;rfl)
   have hq2:=hq1.1
   have hq3:=hq1.2
   clear hq1
   have hm12:max ((s:Int)) (1+((max a b:Nat):Int))=((max s (1+max a b):Nat):Int):=mx2 s (max a b)
   clear hSZ
   generalize l[k]=y at *
   go_wp2_with fail
   have X0:=hid (HW.out.drew)
   go_region_held3 (fun w'=>w'.cell? ⟨q,off+k * 4,none⟩=some (.int .i64 y.op)∧w'.cell? ⟨q,off+k * 4+1,none⟩=some (.string (bs y.name))∧w'.cell? ⟨q,off+k * 4+2,none⟩=some (.slice px y.x.length cx)∧w'.cell? ⟨q,off+k * 4+3,none⟩=some (.slice pl y.l.length cl))
    (first | exact HSx.out _ X2.out | exact HSx.out _ X1.out | exact HSx.out _ X0.out | go_keep)
    (first | (go_at_call 82;refine (C0.out _ X0.out).mono ?_;rintro e W5 ⟨rfl,hb⟩;have X1:=hid (X0.out.trans (hb.mono X0.out.size));clear hb C0) | (go_at_call 44;refine (C1.out _ X1.out).mono ?_;rintro e W6 ⟨rfl,hb⟩;have X2:=hid (X1.out.trans (hb.mono X1.out.size));clear hb C1))
   go_wp2_with fail
   go_roundw
   case rel=>exact ⟨k+1,by go_num,by rw [HV.out],hlt,hid X2.out⟩
   case measure=>simp [intOf];omega
  ·have hge:¬ ((k:Int)<(l.length:Int)):=by omega
   have htk:l.take k=l:=List.take_of_length_le (by omega)
   rw [htk]
   go_wp2
   go_ret
   exact ⟨rfl,HW.out⟩
theorem szS_kid:∀ s:S,sizeS s≤1000000000→∀ (W:World) (v:Value),SsR W v s.l→RetN 43 #[v] W (sumN sizeS s.l):=by
 refine S.ind ?_
 intro s ih hsz W v hR
 rw [sizeS_eq,sizeXs_sum,sizeSs_sum] at hsz
 exact rSizeS_any v s.l (Nat.le_trans (sumN_len sizeS one_sizeS _) (Nat.le_trans (by omega) hsz)) (Nat.le_trans (by omega) hsz) W hR (fun y hy=>ih y hy (Nat.le_trans (sumN_mem sizeS hy) (Nat.le_trans (by omega) hsz)))
theorem dpS_kid:∀ s:S,sizeS s≤1000000000→∀ (W:World) (v:Value),SsR W v s.l→RetN 44 #[v] W (maxN deepS s.l):=by
 refine S.ind ?_
 intro s ih hsz W v hR
 rw [sizeS_eq,sizeXs_sum,sizeSs_sum] at hsz
 exact rDeepS_any v s.l (Nat.le_trans (sumN_len sizeS one_sizeS _) (Nat.le_trans (by omega) hsz)) (Nat.le_trans (maxN_le_sumN fun z _=>deepS_le z) (Nat.le_trans (by omega) hsz)) W hR ⟨Nat.le_trans (by omega) hsz,fun y hy=>ih y hy (Nat.le_trans (sumN_mem sizeS hy) (Nat.le_trans (by omega) hsz))⟩
theorem szSs_ok (l:List S) (h:sumN sizeS l≤1000000000) (v:Value) (W:World) (hR:SsR W v l):RetN 43 #[v] W (sumN sizeS l):=
 rSizeS_any v l (Nat.le_trans (sumN_len sizeS one_sizeS _) h) h W hR fun y hy=>szS_kid y (Nat.le_trans (sumN_mem sizeS hy) h)
theorem dpSs_ok (l:List S) (h:sumN sizeS l≤1000000000) (v:Value) (W:World) (hR:SsR W v l):RetN 44 #[v] W (maxN deepS l):=
 rDeepS_any v l (Nat.le_trans (sumN_len sizeS one_sizeS _) h) (Nat.le_trans (maxN_le_sumN fun z _=>deepS_le z) h) W hR ⟨h,fun y hy=>dpS_kid y (Nat.le_trans (sumN_mem sizeS hy) h)⟩
theorem rsizeI_any (v:Value) (l:List It) (hlen:l.length≤1000000000) (hl:sumN sizeI l≤1000000000) (W:World) (hR:IsR W v l) (hE:∀ y ∈ l,(∀ (W:World) (v:Value),IsR W v y.l→RetN 79 #[v] W (sumN sizeI y.l))∧∀ (W:World) (v:Value),IsR W v y.e→RetN 79 #[v] W (sumN sizeI y.e)) :
  RetN 79 #[v] W (sumN sizeI l):=by
 obtain ⟨p,cap,rfl,hcap,hcell⟩:=hR
 have HC:=hid hcell
 have HLL:=hid hl
 have HE:=hid hE
 clear hcell hl hE
 go_enter Tryz.func79,Tryz.ntmps79
 go_wp2
 go_loopw [3,4] (fun n i wr=>∃ k:Nat,i=.int .i64 k∧n=.int .i64 ((sumN sizeI (l.take k):Nat))∧k≤l.length∧Hid (Below W.heap.size W wr)) (fun _ i _=>l.length - (intOf i).toNat)
 case atStart=>exact ⟨0,rfl,rfl,Nat.zero_le _,hid (Below.refl _ _)⟩
 case round=>
  obtain ⟨k,rfl,rfl,hk,HW⟩:=hrel
  by_cases hlt:k<l.length
  ·have hlt':(k:Int)<(l.length:Int):=by omega
   rcases HC.out with hc | ⟨q,off,rfl,hq,hc⟩
   ·subst hc;simp at hlt
   obtain ⟨cs,hR,hcs⟩:=hc k hlt
   have hB:=HW.out
   have hR0:=hid hR
   clear hR hc
   obtain ⟨xs,ss,ls,es,vp,vb,rfl,h1,h2,h3,h4,h5,h6⟩:=IR_iff.1 hR0.out
   have g1:=h1
   have g2:=h2
   have g3:=h3
   have g4:=h4
   have g5:=h5
   have g6:=h6
   obtain ⟨p1,c1,rfl,_⟩:=h1
   obtain ⟨p2,c2,rfl,_⟩:=h2
   obtain ⟨p3,c3,rfl,_⟩:=h3
   obtain ⟨p4,c4,rfl,_⟩:=h4
   obtain ⟨p5,c5,rfl,_⟩:=h5
   obtain ⟨p6,c6,rfl,_⟩:=h6
   have hyb:=Nat.le_trans (sumN_mem sizeI (List.getElem_mem hlt)) HLL.out
   rw [sizeI_eq2] at hyb
   have y0:=hcs 0 (by omega)
   have y1:=hcs 1 (by omega)
   have y2:=hcs 2 (by omega)
   have y3:=hcs 3 (by omega)
   have y4:=hcs 4 (by omega)
   have y5:=hcs 5 (by omega)
   have y6:=hcs 6 (by omega)
   have y7:=hcs 7 (by omega)
   have y8:=hcs 8 (by omega)
   simp only [Nat.add_zero,List.getElem?_cons_zero,List.getElem?_cons_succ] at y0 y1 y2 y3 y4 y5 y6 y7 y8
   have HSx:=hid (show ∀ w',Below W.heap.size W w'→w'.cell? ⟨q,off+k * 9,none⟩=some (.int .i64 l[k].op)∧w'.cell? ⟨q,off+k * 9+1,none⟩=some (.string (bs l[k].name))∧w'.cell? ⟨q,off+k * 9+2,none⟩=some (.string (bs l[k].of))∧w'.cell? ⟨q,off+k * 9+3,none⟩=some (.slice p1 l[k].x.length c1)∧w'.cell? ⟨q,off+k * 9+4,none⟩=some (.slice p2 l[k].s.length c2)∧w'.cell? ⟨q,off+k * 9+5,none⟩=some (.slice p5 l[k].l.length c5)∧w'.cell? ⟨q,off+k * 9+6,none⟩=some (.slice p6 l[k].e.length c6)∧w'.cell? ⟨q,off+k * 9+7,none⟩=some (.slice p3 l[k].ps.length c3)∧w'.cell? ⟨q,off+k * 9+8,none⟩=some (.slice p4 l[k].bs.length c4) from fun w' h=>⟨(h.cell (p:=⟨q,off+k * 9,none⟩) hq).trans y0,(h.cell (p:=⟨q,off+k * 9+1,none⟩) hq).trans y1,(h.cell (p:=⟨q,off+k * 9+2,none⟩) hq).trans y2,(h.cell (p:=⟨q,off+k * 9+3,none⟩) hq).trans y3,(h.cell (p:=⟨q,off+k * 9+4,none⟩) hq).trans y4,(h.cell (p:=⟨q,off+k * 9+5,none⟩) hq).trans y5,(h.cell (p:=⟨q,off+k * 9+6,none⟩) hq).trans y6,(h.cell (p:=⟨q,off+k * 9+7,none⟩) hq).trans y7,(h.cell (p:=⟨q,off+k * 9+8,none⟩) hq).trans y8⟩)
   have hTK:l.take (k+1)=l.take k ++ [l[k]]:=(List.take_append_getElem hlt).symm
   have hSZ:=Nat.le_trans (sumN_take sizeI l (k+1)) HLL.out
   rw [hTK,sumN_snoc,sizeI_eq2] at hSZ
   obtain ⟨s,hs⟩:∃ s,s=sumN sizeI (l.take k):=⟨_,rfl⟩
   rw [← hs] at hSZ
   obtain ⟨a,ha⟩:∃ n:Nat,n=sumN sizeX l[k].x:=⟨_,rfl⟩
   obtain ⟨b,hb⟩:∃ n:Nat,n=sumN sizeS l[k].s:=⟨_,rfl⟩
   obtain ⟨c,hc⟩:∃ n:Nat,n=sumN sizeI l[k].l:=⟨_,rfl⟩
   obtain ⟨d,hd⟩:∃ n:Nat,n=sumN sizeI l[k].e:=⟨_,rfl⟩
   obtain ⟨g,hg⟩:∃ n:Nat,n=sumN sizeB l[k].ps:=⟨_,rfl⟩
   obtain ⟨j,hj⟩:∃ n:Nat,n=sumN sizeB l[k].bs:=⟨_,rfl⟩
   rw [← ha] at hSZ
   rw [← hb] at hSZ
   rw [← hc] at hSZ
   rw [← hd] at hSZ
   rw [← hg] at hSZ
   rw [← hj] at hSZ
   have C0:=hid (fun (W9:World) (h:Below W.heap.size W W9)=>show RetN 83 #[.slice p1 l[k].x.length c1] W9 a by rw [ha];exact rsizeL_any _ l[k].x (Nat.le_trans (sumN_len sizeX one_sizeX _) (Nat.le_trans (by omega) hyb)) (Nat.le_trans (by omega) hyb) W9 (XsR.later g1 h) (fun z hz=>szX_ok z (Nat.le_trans (sumN_mem sizeX hz) (Nat.le_trans (by omega) hyb))))
   have C1:=hid (fun (W9:World) (h:Below W.heap.size W W9)=>show RetN 43 #[.slice p2 l[k].s.length c2] W9 b by rw [hb];exact szSs_ok _ (Nat.le_trans (by omega) hyb) _ W9 (SsR.later g2 h))
   have C2:=hid (fun (W9:World) (h:Below W.heap.size W W9)=>show RetN 79 #[.slice p5 l[k].l.length c5] W9 c by rw [hc];exact (HE.out _ (List.getElem_mem hlt)).1 W9 _ (IsR.later g5 h))
   have C3:=hid (fun (W9:World) (h:Below W.heap.size W W9)=>show RetN 79 #[.slice p6 l[k].e.length c6] W9 d by rw [hd];exact (HE.out _ (List.getElem_mem hlt)).2 W9 _ (IsR.later g6 h))
   have C4:=hid (fun (W9:World) (h:Below W.heap.size W W9)=>show RetN 78 #[.slice p3 l[k].ps.length c3] W9 g by rw [hg];exact rsizeB_any _ l[k].ps (Nat.le_trans (sumN_len sizeB one_sB _) (Nat.le_trans (by omega) hyb)) (Nat.le_trans (by omega) hyb) W9 (BsR.later g3 h))
   have C5:=hid (fun (W9:World) (h:Below W.heap.size W W9)=>show RetN 78 #[.slice p4 l[k].bs.length c4] W9 j by rw [hj];exact rsizeB_any _ l[k].bs (Nat.le_trans (sumN_len sizeB one_sB _) (Nat.le_trans (by omega) hyb)) (Nat.le_trans (by omega) hyb) W9 (BsR.later g4 h))
   have HV:=hid (show ((sumN sizeI (l.take (k+1)):Nat):Int)=(s:Int)+1+(a:Int)+(b:Int)+(c:Int)+(d:Int)+(g:Int)+(j:Int) by rw [hTK,sumN_snoc,sizeI_eq2,← ha,← hb,← hc,← hd,← hg,← hj,← hs];try (clear hSZ hs ha hb hc hd hg hj;omega))
   rw [← hs]
   obtain ⟨x0,x1,x2,x3,x4,x5,x6,x7,x8⟩:=HSx.out _ hB
   clear hTK hs ha hb hc hd hg hj hcs hB y0 y1 y2 y3 y4 y5 y6 y7 y8
   have hw13:=wrs (e:=(s:Int)+1) (s+1) (Nat.le_trans (by omega) hSZ) (by push_cast;rfl)
   have ha13:=hw13.1
   have hb13:=hw13.2
   clear hw13
   have hw14:=wrs (e:=(s:Int)+1+(a:Int)) (s+1+a) (Nat.le_trans (by omega) hSZ) (by push_cast;rfl)
   have ha14:=hw14.1
   have hb14:=hw14.2
   clear hw14
   have hw15:=wrs (e:=(s:Int)+1+(a:Int)+(b:Int)) (s+1+a+b) (Nat.le_trans (by omega) hSZ) (by push_cast;rfl)
   have ha15:=hw15.1
   have hb15:=hw15.2
   clear hw15
   have hw16:=wrs (e:=(s:Int)+1+(a:Int)+(b:Int)+(c:Int)) (s+1+a+b+c) (Nat.le_trans (by omega) hSZ) (by push_cast;rfl)
   have ha16:=hw16.1
   have hb16:=hw16.2
   clear hw16
   have hw17:=wrs (e:=(s:Int)+1+(a:Int)+(b:Int)+(c:Int)+(d:Int)) (s+1+a+b+c+d) (Nat.le_trans (by omega) hSZ) (by push_cast;rfl)
   have ha17:=hw17.1
   have hb17:=hw17.2
   clear hw17
   have hw18:=wrs (e:=(s:Int)+1+(a:Int)+(b:Int)+(c:Int)+(d:Int)+(g:Int)) (s+1+a+b+c+d+g) (Nat.le_trans (by omega) hSZ) (by push_cast;rfl)
   have ha18:=hw18.1
   have hb18:=hw18.2
   clear hw18
   have hw19:=wrs (e:=(s:Int)+1+(a:Int)+(b:Int)+(c:Int)+(d:Int)+(g:Int)+(j:Int)) (s+1+a+b+c+d+g+j) (Nat.le_trans (by omega) hSZ) (by push_cast;rfl)
   have ha19:=hw19.1
   have hb19:=hw19.2
   clear hw19
   clear hSZ
   generalize l[k]=y at *
   go_wp2_with fail
   obtain ⟨V,hV⟩:∃ V,V=wr.alloc (.cells #[.int .i64 y.op,.string (bs y.name),.string (bs y.of),.slice p1 y.x.length c1,.slice p2 y.s.length c2,.slice p5 y.l.length c5,.slice p6 y.e.length c6,.slice p3 y.ps.length c3,.slice p4 y.bs.length c4] 133):=⟨_,rfl⟩
   have HWV:=hid (show Below W.heap.size W V by rw [hV];exact HW.out.alloc HW.out.size _)
   have HVl:=hid (show wr.heap.size<V.heap.size by rw [hV];simp)
   have HVr:=hid (show V.heap[wr.heap.size]?=some (.cells #[.int .i64 y.op,.string (bs y.name),.string (bs y.of),.slice p1 y.x.length c1,.slice p2 y.s.length c2,.slice p5 y.l.length c5,.slice p6 y.e.length c6,.slice p3 y.ps.length c3,.slice p4 y.bs.length c4] 133 (0,0)) by rw [hV];exact World.alloc_heap_new wr _)
   rw [← hV]
   clear hV x0 x1 x2 x3 x4 x5 x6 x7 x8
   have HSy:=hid (show ∀ w',Below V.heap.size V w'→w'.cell? ⟨wr.heap.size,0,none⟩=some (.int .i64 y.op)∧w'.cell? ⟨wr.heap.size,1,none⟩=some (.string (bs y.name))∧w'.cell? ⟨wr.heap.size,2,none⟩=some (.string (bs y.of))∧w'.cell? ⟨wr.heap.size,3,none⟩=some (.slice p1 y.x.length c1)∧w'.cell? ⟨wr.heap.size,4,none⟩=some (.slice p2 y.s.length c2)∧w'.cell? ⟨wr.heap.size,5,none⟩=some (.slice p5 y.l.length c5)∧w'.cell? ⟨wr.heap.size,6,none⟩=some (.slice p6 y.e.length c6)∧w'.cell? ⟨wr.heap.size,7,none⟩=some (.slice p3 y.ps.length c3)∧w'.cell? ⟨wr.heap.size,8,none⟩=some (.slice p4 y.bs.length c4) from fun w' h=>by have:=(h.block _ HVl.out).trans HVr.out;exact ⟨(cell_of_row _ _ _ _ _ _ this).trans rfl,(cell_of_row _ _ _ _ _ _ this).trans rfl,(cell_of_row _ _ _ _ _ _ this).trans rfl,(cell_of_row _ _ _ _ _ _ this).trans rfl,(cell_of_row _ _ _ _ _ _ this).trans rfl,(cell_of_row _ _ _ _ _ _ this).trans rfl,(cell_of_row _ _ _ _ _ _ this).trans rfl,(cell_of_row _ _ _ _ _ _ this).trans rfl,(cell_of_row _ _ _ _ _ _ this).trans rfl⟩)
   obtain ⟨x0,x1,x2,x3,x4,x5,x6,x7,x8⟩:=HSy.out _ (Below.refl _ _)
   have Z0:=hid ((Below.refl V.heap.size V).drew)
   have X0:=hid (HWV.out.drew)
   go_region_held3 (fun w'=>w'.cell? ⟨wr.heap.size,0,none⟩=some (.int .i64 y.op)∧w'.cell? ⟨wr.heap.size,1,none⟩=some (.string (bs y.name))∧w'.cell? ⟨wr.heap.size,2,none⟩=some (.string (bs y.of))∧w'.cell? ⟨wr.heap.size,3,none⟩=some (.slice p1 y.x.length c1)∧w'.cell? ⟨wr.heap.size,4,none⟩=some (.slice p2 y.s.length c2)∧w'.cell? ⟨wr.heap.size,5,none⟩=some (.slice p5 y.l.length c5)∧w'.cell? ⟨wr.heap.size,6,none⟩=some (.slice p6 y.e.length c6)∧w'.cell? ⟨wr.heap.size,7,none⟩=some (.slice p3 y.ps.length c3)∧w'.cell? ⟨wr.heap.size,8,none⟩=some (.slice p4 y.bs.length c4))
    (first | exact HSy.out _ Z6.out | exact HSy.out _ Z5.out | exact HSy.out _ Z4.out | exact HSy.out _ Z3.out | exact HSy.out _ Z2.out | exact HSy.out _ Z1.out | exact HSy.out _ Z0.out | go_keep)
    (first | (go_at_call 83;refine (C0.out _ X0.out).mono ?_;rintro e W5 ⟨rfl,hb⟩;have X1:=hid (X0.out.trans (hb.mono X0.out.size));have Z1:=hid (Z0.out.trans (hb.mono Z0.out.size));clear hb C0) | (go_at_call 43;refine (C1.out _ X1.out).mono ?_;rintro e W6 ⟨rfl,hb⟩;have X2:=hid (X1.out.trans (hb.mono X1.out.size));have Z2:=hid (Z1.out.trans (hb.mono Z1.out.size));clear hb C1) | (go_at_call 79;refine (C2.out _ X2.out).mono ?_;rintro e W7 ⟨rfl,hb⟩;have X3:=hid (X2.out.trans (hb.mono X2.out.size));have Z3:=hid (Z2.out.trans (hb.mono Z2.out.size));clear hb C2) | (go_at_call 79;refine (C3.out _ X3.out).mono ?_;rintro e W8 ⟨rfl,hb⟩;have X4:=hid (X3.out.trans (hb.mono X3.out.size));have Z4:=hid (Z3.out.trans (hb.mono Z3.out.size));clear hb C3) | (go_at_call 78;refine (C4.out _ X4.out).mono ?_;rintro e W9 ⟨rfl,hb⟩;have X5:=hid (X4.out.trans (hb.mono X4.out.size));have Z5:=hid (Z4.out.trans (hb.mono Z4.out.size));clear hb C4) | (go_at_call 78;refine (C5.out _ X5.out).mono ?_;rintro e W10 ⟨rfl,hb⟩;have X6:=hid (X5.out.trans (hb.mono X5.out.size));have Z6:=hid (Z5.out.trans (hb.mono Z5.out.size));clear hb C5))
   go_wp2_with fail
   go_roundw
   case rel=>exact ⟨k+1,by go_num,by rw [HV.out],hlt,hid X6.out⟩
   case measure=>simp [intOf];omega
  ·have hge:¬ ((k:Int)<(l.length:Int)):=by omega
   have htk:l.take k=l:=List.take_of_length_le (by omega)
   rw [htk]
   go_wp2
   go_ret
   exact ⟨rfl,HW.out⟩
theorem rdeepI_any (v:Value) (l:List It) (hlen:l.length≤1000000000) (hl:maxN deepI l≤1000000000) (W:World) (hR:IsR W v l) (hE:sumN sizeI l≤1000000000∧∀ y ∈ l,(∀ (W:World) (v:Value),IsR W v y.l→RetN 81 #[v] W (maxN deepI y.l))∧∀ (W:World) (v:Value),IsR W v y.e→RetN 81 #[v] W (maxN deepI y.e)) :
  RetN 81 #[v] W (maxN deepI l):=by
 obtain ⟨p,cap,rfl,hcap,hcell⟩:=hR
 have HC:=hid hcell
 have HLL:=hid hl
 have HE:=hid hE
 clear hcell hl hE
 go_enter Tryz.func81,Tryz.ntmps81
 go_wp2
 go_loopw [3,4] (fun n i wr=>∃ k:Nat,i=.int .i64 k∧n=.int .i64 ((maxN deepI (l.take k):Nat))∧k≤l.length∧Hid (Below W.heap.size W wr)) (fun _ i _=>l.length - (intOf i).toNat)
 case atStart=>exact ⟨0,rfl,rfl,Nat.zero_le _,hid (Below.refl _ _)⟩
 case round=>
  obtain ⟨k,rfl,rfl,hk,HW⟩:=hrel
  by_cases hlt:k<l.length
  ·have hlt':(k:Int)<(l.length:Int):=by omega
   rcases HC.out with hc | ⟨q,off,rfl,hq,hc⟩
   ·subst hc;simp at hlt
   obtain ⟨cs,hR,hcs⟩:=hc k hlt
   have hB:=HW.out
   have hR0:=hid hR
   clear hR hc
   obtain ⟨xs,ss,ls,es,vp,vb,rfl,h1,h2,h3,h4,h5,h6⟩:=IR_iff.1 hR0.out
   have g1:=h1
   have g2:=h2
   have g3:=h3
   have g4:=h4
   have g5:=h5
   have g6:=h6
   obtain ⟨p1,c1,rfl,_⟩:=h1
   obtain ⟨p2,c2,rfl,_⟩:=h2
   obtain ⟨p3,c3,rfl,_⟩:=h3
   obtain ⟨p4,c4,rfl,_⟩:=h4
   obtain ⟨p5,c5,rfl,_⟩:=h5
   obtain ⟨p6,c6,rfl,_⟩:=h6
   have hyb:=Nat.le_trans (sumN_mem sizeI (List.getElem_mem hlt)) HE.out.1
   rw [sizeI_eq2] at hyb
   have y0:=hcs 0 (by omega)
   have y1:=hcs 1 (by omega)
   have y2:=hcs 2 (by omega)
   have y3:=hcs 3 (by omega)
   have y4:=hcs 4 (by omega)
   have y5:=hcs 5 (by omega)
   have y6:=hcs 6 (by omega)
   have y7:=hcs 7 (by omega)
   have y8:=hcs 8 (by omega)
   simp only [Nat.add_zero,List.getElem?_cons_zero,List.getElem?_cons_succ] at y0 y1 y2 y3 y4 y5 y6 y7 y8
   have HSx:=hid (show ∀ w',Below W.heap.size W w'→w'.cell? ⟨q,off+k * 9,none⟩=some (.int .i64 l[k].op)∧w'.cell? ⟨q,off+k * 9+1,none⟩=some (.string (bs l[k].name))∧w'.cell? ⟨q,off+k * 9+2,none⟩=some (.string (bs l[k].of))∧w'.cell? ⟨q,off+k * 9+3,none⟩=some (.slice p1 l[k].x.length c1)∧w'.cell? ⟨q,off+k * 9+4,none⟩=some (.slice p2 l[k].s.length c2)∧w'.cell? ⟨q,off+k * 9+5,none⟩=some (.slice p5 l[k].l.length c5)∧w'.cell? ⟨q,off+k * 9+6,none⟩=some (.slice p6 l[k].e.length c6)∧w'.cell? ⟨q,off+k * 9+7,none⟩=some (.slice p3 l[k].ps.length c3)∧w'.cell? ⟨q,off+k * 9+8,none⟩=some (.slice p4 l[k].bs.length c4) from fun w' h=>⟨(h.cell (p:=⟨q,off+k * 9,none⟩) hq).trans y0,(h.cell (p:=⟨q,off+k * 9+1,none⟩) hq).trans y1,(h.cell (p:=⟨q,off+k * 9+2,none⟩) hq).trans y2,(h.cell (p:=⟨q,off+k * 9+3,none⟩) hq).trans y3,(h.cell (p:=⟨q,off+k * 9+4,none⟩) hq).trans y4,(h.cell (p:=⟨q,off+k * 9+5,none⟩) hq).trans y5,(h.cell (p:=⟨q,off+k * 9+6,none⟩) hq).trans y6,(h.cell (p:=⟨q,off+k * 9+7,none⟩) hq).trans y7,(h.cell (p:=⟨q,off+k * 9+8,none⟩) hq).trans y8⟩)
   have hTK:l.take (k+1)=l.take k ++ [l[k]]:=(List.take_append_getElem hlt).symm
   have hSZ:=Nat.le_trans (maxN_take deepI l (k+1)) HLL.out
   rw [hTK,maxN_snoc,deepI_eq2] at hSZ
   obtain ⟨s,hs⟩:∃ s,s=maxN deepI (l.take k):=⟨_,rfl⟩
   rw [← hs] at hSZ
   obtain ⟨a,ha⟩:∃ n:Nat,n=maxN deepX l[k].x:=⟨_,rfl⟩
   obtain ⟨b,hb⟩:∃ n:Nat,n=maxN deepS l[k].s:=⟨_,rfl⟩
   obtain ⟨c,hc⟩:∃ n:Nat,n=maxN deepI l[k].l:=⟨_,rfl⟩
   obtain ⟨d,hd⟩:∃ n:Nat,n=maxN deepI l[k].e:=⟨_,rfl⟩
   obtain ⟨g,hg⟩:∃ n:Nat,n=maxN deepB l[k].ps:=⟨_,rfl⟩
   obtain ⟨j,hj⟩:∃ n:Nat,n=maxN deepB l[k].bs:=⟨_,rfl⟩
   rw [← ha] at hSZ
   rw [← hb] at hSZ
   rw [← hc] at hSZ
   rw [← hd] at hSZ
   rw [← hg] at hSZ
   rw [← hj] at hSZ
   have C0:=hid (fun (W9:World) (h:Below W.heap.size W W9)=>show RetN 82 #[.slice p1 l[k].x.length c1] W9 a by rw [ha];exact rdeepL_any _ l[k].x (Nat.le_trans (sumN_len sizeX one_sizeX _) (Nat.le_trans (by omega) hyb)) (Nat.le_trans (maxN_le_sumN fun z _=>deepX_le z) (Nat.le_trans (by omega) hyb)) W9 (XsR.later g1 h) (fun z hz=>dpX_ok z (Nat.le_trans (sumN_mem sizeX hz) (Nat.le_trans (by omega) hyb))))
   have C1:=hid (fun (W9:World) (h:Below W.heap.size W W9)=>show RetN 44 #[.slice p2 l[k].s.length c2] W9 b by rw [hb];exact dpSs_ok _ (Nat.le_trans (by omega) hyb) _ W9 (SsR.later g2 h))
   have C2:=hid (fun (W9:World) (h:Below W.heap.size W W9)=>show RetN 81 #[.slice p5 l[k].l.length c5] W9 c by rw [hc];exact (HE.out.2 _ (List.getElem_mem hlt)).1 W9 _ (IsR.later g5 h))
   have C3:=hid (fun (W9:World) (h:Below W.heap.size W W9)=>show RetN 81 #[.slice p6 l[k].e.length c6] W9 d by rw [hd];exact (HE.out.2 _ (List.getElem_mem hlt)).2 W9 _ (IsR.later g6 h))
   have C4:=hid (fun (W9:World) (h:Below W.heap.size W W9)=>show RetN 80 #[.slice p3 l[k].ps.length c3] W9 g by rw [hg];exact rdeepB_any _ l[k].ps (Nat.le_trans (sumN_len sizeB one_sB _) (Nat.le_trans (by omega) hyb)) (Nat.le_trans (maxN_le_sumN fun z _=>deepB_le z) (Nat.le_trans (by omega) hyb)) W9 (BsR.later g3 h) (fun z hz=>by have:=Nat.le_trans (sumN_mem sizeB hz) (Nat.le_trans (by omega) hyb);unfold sizeB at this;exact Nat.le_trans (by omega) this))
   have C5:=hid (fun (W9:World) (h:Below W.heap.size W W9)=>show RetN 80 #[.slice p4 l[k].bs.length c4] W9 j by rw [hj];exact rdeepB_any _ l[k].bs (Nat.le_trans (sumN_len sizeB one_sB _) (Nat.le_trans (by omega) hyb)) (Nat.le_trans (maxN_le_sumN fun z _=>deepB_le z) (Nat.le_trans (by omega) hyb)) W9 (BsR.later g4 h) (fun z hz=>by have:=Nat.le_trans (sumN_mem sizeB hz) (Nat.le_trans (by omega) hyb);unfold sizeB at this;exact Nat.le_trans (by omega) this))
   have HV:=hid (show ((maxN deepI (l.take (k+1)):Nat):Int)=((max s (1+(max a (max b (max c (max d (max g j)))))):Nat):Int) by rw [hTK,maxN_snoc,deepI_eq2,← ha,← hb,← hc,← hd,← hg,← hj,← hs];try (clear hSZ hs ha hb hc hd hg hj;omega))
   rw [← hs]
   obtain ⟨x0,x1,x2,x3,x4,x5,x6,x7,x8⟩:=HSx.out _ hB
   clear hTK hs ha hb hc hd hg hj hcs hB y0 y1 y2 y3 y4 y5 y6 y7 y8
   have hmx:=fun ts t w=>run_max6 (P:=Tryz.prog) ts t w a b c d g j
   have hq1:=wrs (e:=1+((max a (max b (max c (max d (max g j)))):Nat):Int)) (1+(max a (max b (max c (max d (max g j)))))) (Nat.le_trans (by omega) hSZ) (by push_cast;rfl)
   have hq2:=hq1.1
   have hq3:=hq1.2
   clear hq1
   have hm20:max ((s:Int)) (1+((max a (max b (max c (max d (max g j)))):Nat):Int))=((max s (1+(max a (max b (max c (max d (max g j)))))):Nat):Int):=mx2 s (max a (max b (max c (max d (max g j)))))
   clear hSZ
   generalize l[k]=y at *
   go_wp2_with fail
   obtain ⟨V,hV⟩:∃ V,V=wr.alloc (.cells #[.int .i64 y.op,.string (bs y.name),.string (bs y.of),.slice p1 y.x.length c1,.slice p2 y.s.length c2,.slice p5 y.l.length c5,.slice p6 y.e.length c6,.slice p3 y.ps.length c3,.slice p4 y.bs.length c4] 133):=⟨_,rfl⟩
   have HWV:=hid (show Below W.heap.size W V by rw [hV];exact HW.out.alloc HW.out.size _)
   have HVl:=hid (show wr.heap.size<V.heap.size by rw [hV];simp)
   have HVr:=hid (show V.heap[wr.heap.size]?=some (.cells #[.int .i64 y.op,.string (bs y.name),.string (bs y.of),.slice p1 y.x.length c1,.slice p2 y.s.length c2,.slice p5 y.l.length c5,.slice p6 y.e.length c6,.slice p3 y.ps.length c3,.slice p4 y.bs.length c4] 133 (0,0)) by rw [hV];exact World.alloc_heap_new wr _)
   rw [← hV]
   clear hV x0 x1 x2 x3 x4 x5 x6 x7 x8
   have HSy:=hid (show ∀ w',Below V.heap.size V w'→w'.cell? ⟨wr.heap.size,0,none⟩=some (.int .i64 y.op)∧w'.cell? ⟨wr.heap.size,1,none⟩=some (.string (bs y.name))∧w'.cell? ⟨wr.heap.size,2,none⟩=some (.string (bs y.of))∧w'.cell? ⟨wr.heap.size,3,none⟩=some (.slice p1 y.x.length c1)∧w'.cell? ⟨wr.heap.size,4,none⟩=some (.slice p2 y.s.length c2)∧w'.cell? ⟨wr.heap.size,5,none⟩=some (.slice p5 y.l.length c5)∧w'.cell? ⟨wr.heap.size,6,none⟩=some (.slice p6 y.e.length c6)∧w'.cell? ⟨wr.heap.size,7,none⟩=some (.slice p3 y.ps.length c3)∧w'.cell? ⟨wr.heap.size,8,none⟩=some (.slice p4 y.bs.length c4) from fun w' h=>by have:=(h.block _ HVl.out).trans HVr.out;exact ⟨(cell_of_row _ _ _ _ _ _ this).trans rfl,(cell_of_row _ _ _ _ _ _ this).trans rfl,(cell_of_row _ _ _ _ _ _ this).trans rfl,(cell_of_row _ _ _ _ _ _ this).trans rfl,(cell_of_row _ _ _ _ _ _ this).trans rfl,(cell_of_row _ _ _ _ _ _ this).trans rfl,(cell_of_row _ _ _ _ _ _ this).trans rfl,(cell_of_row _ _ _ _ _ _ this).trans rfl,(cell_of_row _ _ _ _ _ _ this).trans rfl⟩)
   obtain ⟨x0,x1,x2,x3,x4,x5,x6,x7,x8⟩:=HSy.out _ (Below.refl _ _)
   have Z0:=hid ((Below.refl V.heap.size V).drew)
   have X0:=hid (HWV.out.drew)
   go_region_held3 (fun w'=>w'.cell? ⟨wr.heap.size,0,none⟩=some (.int .i64 y.op)∧w'.cell? ⟨wr.heap.size,1,none⟩=some (.string (bs y.name))∧w'.cell? ⟨wr.heap.size,2,none⟩=some (.string (bs y.of))∧w'.cell? ⟨wr.heap.size,3,none⟩=some (.slice p1 y.x.length c1)∧w'.cell? ⟨wr.heap.size,4,none⟩=some (.slice p2 y.s.length c2)∧w'.cell? ⟨wr.heap.size,5,none⟩=some (.slice p5 y.l.length c5)∧w'.cell? ⟨wr.heap.size,6,none⟩=some (.slice p6 y.e.length c6)∧w'.cell? ⟨wr.heap.size,7,none⟩=some (.slice p3 y.ps.length c3)∧w'.cell? ⟨wr.heap.size,8,none⟩=some (.slice p4 y.bs.length c4))
    (first | exact HSy.out _ Z6.out | exact HSy.out _ Z5.out | exact HSy.out _ Z4.out | exact HSy.out _ Z3.out | exact HSy.out _ Z2.out | exact HSy.out _ Z1.out | exact HSy.out _ Z0.out | go_keep)
    (first | (go_at_call 82;refine (C0.out _ X0.out).mono ?_;rintro e W5 ⟨rfl,hb⟩;have X1:=hid (X0.out.trans (hb.mono X0.out.size));have Z1:=hid (Z0.out.trans (hb.mono Z0.out.size));clear hb C0) | (go_at_call 44;refine (C1.out _ X1.out).mono ?_;rintro e W6 ⟨rfl,hb⟩;have X2:=hid (X1.out.trans (hb.mono X1.out.size));have Z2:=hid (Z1.out.trans (hb.mono Z1.out.size));clear hb C1) | (go_at_call 81;refine (C2.out _ X2.out).mono ?_;rintro e W7 ⟨rfl,hb⟩;have X3:=hid (X2.out.trans (hb.mono X2.out.size));have Z3:=hid (Z2.out.trans (hb.mono Z2.out.size));clear hb C2) | (go_at_call 81;refine (C3.out _ X3.out).mono ?_;rintro e W8 ⟨rfl,hb⟩;have X4:=hid (X3.out.trans (hb.mono X3.out.size));have Z4:=hid (Z3.out.trans (hb.mono Z3.out.size));clear hb C3) | (go_at_call 80;refine (C4.out _ X4.out).mono ?_;rintro e W9 ⟨rfl,hb⟩;have X5:=hid (X4.out.trans (hb.mono X4.out.size));have Z5:=hid (Z4.out.trans (hb.mono Z4.out.size));clear hb C4) | (go_at_call 80;refine (C5.out _ X5.out).mono ?_;rintro e W10 ⟨rfl,hb⟩;have X6:=hid (X5.out.trans (hb.mono X5.out.size));have Z6:=hid (Z5.out.trans (hb.mono Z5.out.size));clear hb C5))
   go_wp2_with fail
   go_roundw
   case rel=>exact ⟨k+1,by go_num,by rw [HV.out],hlt,hid X6.out⟩
   case measure=>simp [intOf];omega
  ·have hge:¬ ((k:Int)<(l.length:Int)):=by omega
   have htk:l.take k=l:=List.take_of_length_le (by omega)
   rw [htk]
   go_wp2
   go_ret
   exact ⟨rfl,HW.out⟩
theorem szI_kid:∀ s:It,sizeI s≤1000000000→(∀ (W:World) (v:Value),IsR W v s.l→RetN 79 #[v] W (sumN sizeI s.l))∧∀ (W:World) (v:Value),IsR W v s.e→RetN 79 #[v] W (sumN sizeI s.e):=by
 refine It.ind ?_
 intro s ihl ihe hsz
 rw [sizeI_eq2] at hsz
 exact ⟨fun W v hR=>rsizeI_any v s.l (Nat.le_trans (sumN_len sizeI one_sizeI _) (Nat.le_trans (by omega) hsz)) (Nat.le_trans (by omega) hsz) W hR (fun y hy=>ihl y hy (Nat.le_trans (sumN_mem sizeI hy) (Nat.le_trans (by omega) hsz))),
  fun W v hR=>rsizeI_any v s.e (Nat.le_trans (sumN_len sizeI one_sizeI _) (Nat.le_trans (by omega) hsz)) (Nat.le_trans (by omega) hsz) W hR (fun y hy=>ihe y hy (Nat.le_trans (sumN_mem sizeI hy) (Nat.le_trans (by omega) hsz)))⟩
theorem dpI_kid:∀ s:It,sizeI s≤1000000000→(∀ (W:World) (v:Value),IsR W v s.l→RetN 81 #[v] W (maxN deepI s.l))∧∀ (W:World) (v:Value),IsR W v s.e→RetN 81 #[v] W (maxN deepI s.e):=by
 refine It.ind ?_
 intro s ihl ihe hsz
 rw [sizeI_eq2] at hsz
 exact ⟨fun W v hR=>rdeepI_any v s.l (Nat.le_trans (sumN_len sizeI one_sizeI _) (Nat.le_trans (by omega) hsz)) (Nat.le_trans (maxN_le_sumN fun z _=>deepI_le z) (Nat.le_trans (by omega) hsz)) W hR ⟨Nat.le_trans (by omega) hsz,fun y hy=>ihl y hy (Nat.le_trans (sumN_mem sizeI hy) (Nat.le_trans (by omega) hsz))⟩,
  fun W v hR=>rdeepI_any v s.e (Nat.le_trans (sumN_len sizeI one_sizeI _) (Nat.le_trans (by omega) hsz)) (Nat.le_trans (maxN_le_sumN fun z _=>deepI_le z) (Nat.le_trans (by omega) hsz)) W hR ⟨Nat.le_trans (by omega) hsz,fun y hy=>ihe y hy (Nat.le_trans (sumN_mem sizeI hy) (Nat.le_trans (by omega) hsz))⟩⟩
theorem szIs_ok (l:List It) (h:sumN sizeI l≤1000000000) (v:Value) (W:World) (hR:IsR W v l):RetN 79 #[v] W (sumN sizeI l):=
 rsizeI_any v l (Nat.le_trans (sumN_len sizeI one_sizeI _) h) h W hR fun y hy=>szI_kid y (Nat.le_trans (sumN_mem sizeI hy) h)
theorem dpIs_ok (l:List It) (h:sumN sizeI l≤1000000000) (v:Value) (W:World) (hR:IsR W v l):RetN 81 #[v] W (maxN deepI l):=
 rdeepI_any v l (Nat.le_trans (sumN_len sizeI one_sizeI _) h) (Nat.le_trans (maxN_le_sumN fun z _=>deepI_le z) h) W hR ⟨h,fun y hy=>dpI_kid y (Nat.le_trans (sumN_mem sizeI hy) h)⟩
end Go.Proofs.YtlcfpdmicpggbaaGreatDoor
namespace Go.Proofs.YtlcfpdmicpggbaaGreatDoor
open Go.Lib (hid)
open Go.RowKit Go.Proofs.Spl Go.Proofs.Scn Go.Shelf
theorem good_out (op:Int) (name:Ln) (n w:Int) (v:Nat) (vl:Value) (hop:op<1∨11≤op) (W:World) :
  Calls Tryz.prog 132 #[.agg #[.int .i64 op,.string (bs name),.int .i64 n,.int .i64 w,.int .u64 v,vl]] W fun e W'=>e=.returned (.bool false)∧Below W.heap.size W W':=by
 by_cases h1:op<1
 ·have hd:decide (op<1)=true:=by simpa using h1
  go_enter Tryz.func132,Tryz.ntmps132
  go_wp2
  go_ret
  exact ⟨rfl,(Below.refl _ _).alloc (Nat.le_refl _) _⟩
 ·have h2:11≤op:=by omega
  have hd:decide (op<1)=false:=by simpa using h1
  have hd2:decide (11≤op)=true:=by simpa using h2
  go_enter Tryz.func132,Tryz.ntmps132
  go_wp2
  go_ret
  exact ⟨rfl,(Below.refl _ _).alloc (Nat.le_refl _) _⟩
theorem good_min (k:Nat) (h1:1≤k) (h2:k≤10) (name:Ln) (n w:Int) (v:Nat) (p:Option Addr) (m c:Nat) (hm:m<kMin k) (W:World) (hB:BaseA W) :
  Calls Tryz.prog 132 #[.agg #[.int .i64 k,.string (bs name),.int .i64 n,.int .i64 w,.int .u64 v,.slice p m c]] W fun e W'=>e=.returned (.bool false)∧Below W.heap.size W W':=by
 have hk1:¬ ((k:Int)<1):=by omega
 have hk2:¬ (11≤(k:Int)):=by omega
 have hd:decide ((k:Int)<1)=false:=by simpa using hk1
 have hd2:decide (11≤(k:Int))=false:=by simpa using hk2
 have hk3:k<11:=by omega
 have hk4:(k:Int)<11:=by omega
 have hm2:(m:Int)<(kMin k:Int):=by omega
 obtain ⟨c0,c1,c2,c3,c4⟩:=(hB.alloc (.cells #[.int .i64 k,.string (bs name),.int .i64 n,.int .i64 w,.int .u64 v,.slice p m c] 28)).kinds k hk3
 generalize kMin k=q1 at *
 generalize kMax k=q2 at *
 generalize kLo k=q3 at *
 generalize kHi k=q4 at *
 generalize kNamed k=q0 at *
 clear hB
 go_enter Tryz.func132,Tryz.ntmps132
 go_wp2
 go_ret
 exact ⟨rfl,((Below.refl _ _).alloc (Nat.le_refl _) _).alloc (by simp) _⟩
theorem good_max (k:Nat) (h1:1≤k) (h2:k≤10) (name:Ln) (n w:Int) (v:Nat) (p:Option Addr) (m c:Nat) (hm:kMin k≤m) (hn:kMax k<m) (W:World) (hB:BaseA W) :
  Calls Tryz.prog 132 #[.agg #[.int .i64 k,.string (bs name),.int .i64 n,.int .i64 w,.int .u64 v,.slice p m c]] W fun e W'=>e=.returned (.bool false)∧Below W.heap.size W W':=by
 have hk1:¬ ((k:Int)<1):=by omega
 have hk2:¬ (11≤(k:Int)):=by omega
 have hd:decide ((k:Int)<1)=false:=by simpa using hk1
 have hd2:decide (11≤(k:Int))=false:=by simpa using hk2
 have hk3:k<11:=by omega
 have hk4:(k:Int)<11:=by omega
 have hm2:¬ ((m:Int)<(kMin k:Int)):=by omega
 have hm3:(kMax k:Int)<(m:Int):=by omega
 obtain ⟨c0,c1,c2,c3,c4⟩:=(hB.alloc (.cells #[.int .i64 k,.string (bs name),.int .i64 n,.int .i64 w,.int .u64 v,.slice p m c] 28)).kinds k hk3
 generalize kMin k=q1 at *
 generalize kMax k=q2 at *
 generalize kLo k=q3 at *
 generalize kHi k=q4 at *
 generalize kNamed k=q0 at *
 clear hB
 go_enter Tryz.func132,Tryz.ntmps132
 go_wp2
 go_ret
 exact ⟨rfl,((Below.refl _ _).alloc (Nat.le_refl _) _).alloc (by simp) _⟩
theorem good_lo (k:Nat) (h1:1≤k) (h2:k≤10) (name:Ln) (n w:Int) (v:Nat) (p:Option Addr) (m c:Nat) (hm:kMin k≤m) (hm0:m≤kMax k) (hn:n<kLo k) (W:World) (hB:BaseA W) :
  Calls Tryz.prog 132 #[.agg #[.int .i64 k,.string (bs name),.int .i64 n,.int .i64 w,.int .u64 v,.slice p m c]] W fun e W'=>e=.returned (.bool false)∧Below W.heap.size W W':=by
 have hk1:¬ ((k:Int)<1):=by omega
 have hk2:¬ (11≤(k:Int)):=by omega
 have hd:decide ((k:Int)<1)=false:=by simpa using hk1
 have hd2:decide (11≤(k:Int))=false:=by simpa using hk2
 have hk3:k<11:=by omega
 have hk4:(k:Int)<11:=by omega
 have hm2:¬ ((m:Int)<(kMin k:Int)):=by omega
 have hm3:¬ ((kMax k:Int)<(m:Int)):=by omega
 have hm4:n<kLo k:=hn
 obtain ⟨c0,c1,c2,c3,c4⟩:=(hB.alloc (.cells #[.int .i64 k,.string (bs name),.int .i64 n,.int .i64 w,.int .u64 v,.slice p m c] 28)).kinds k hk3
 generalize kMin k=q1 at *
 generalize kMax k=q2 at *
 generalize kLo k=q3 at *
 generalize kHi k=q4 at *
 generalize kNamed k=q0 at *
 clear hB
 go_enter Tryz.func132,Tryz.ntmps132
 go_wp2
 go_ret
 exact ⟨rfl,((Below.refl _ _).alloc (Nat.le_refl _) _).alloc (by simp) _⟩
theorem good_hi (k:Nat) (h1:1≤k) (h2:k≤10) (name:Ln) (n w:Int) (v:Nat) (p:Option Addr) (m c:Nat) (hm:kMin k≤m) (hm0:m≤kMax k) (hn0:kLo k≤n) (hn:kHi k<n) (W:World) (hB:BaseA W) :
  Calls Tryz.prog 132 #[.agg #[.int .i64 k,.string (bs name),.int .i64 n,.int .i64 w,.int .u64 v,.slice p m c]] W fun e W'=>e=.returned (.bool false)∧Below W.heap.size W W':=by
 have hk1:¬ ((k:Int)<1):=by omega
 have hk2:¬ (11≤(k:Int)):=by omega
 have hd:decide ((k:Int)<1)=false:=by simpa using hk1
 have hd2:decide (11≤(k:Int))=false:=by simpa using hk2
 have hk3:k<11:=by omega
 have hk4:(k:Int)<11:=by omega
 have hm2:¬ ((m:Int)<(kMin k:Int)):=by omega
 have hm3:¬ ((kMax k:Int)<(m:Int)):=by omega
 have hm4:¬ (n<kLo k):=by omega
 have hm5:kHi k<n:=hn
 obtain ⟨c0,c1,c2,c3,c4⟩:=(hB.alloc (.cells #[.int .i64 k,.string (bs name),.int .i64 n,.int .i64 w,.int .u64 v,.slice p m c] 28)).kinds k hk3
 generalize kMin k=q1 at *
 generalize kMax k=q2 at *
 generalize kLo k=q3 at *
 generalize kHi k=q4 at *
 generalize kNamed k=q0 at *
 clear hB
 go_enter Tryz.func132,Tryz.ntmps132
 go_wp2
 go_ret
 exact ⟨rfl,((Below.refl _ _).alloc (Nat.le_refl _) _).alloc (by simp) _⟩
theorem good_w (k:Nat) (h1:1≤k) (h2:k≤10) (name:Ln) (n w:Int) (v:Nat) (p:Option Addr) (m c:Nat) (hm:kMin k≤m) (hm0:m≤kMax k) (hn0:kLo k≤n) (hn1:n≤kHi k) (hk:k ≠ 1) (hw:w ≠ 0) (W:World) (hB:BaseA W) :
  Calls Tryz.prog 132 #[.agg #[.int .i64 k,.string (bs name),.int .i64 n,.int .i64 w,.int .u64 v,.slice p m c]] W fun e W'=>e=.returned (.bool false)∧Below W.heap.size W W':=by
 have hk1:¬ ((k:Int)<1):=by omega
 have hk2:¬ (11≤(k:Int)):=by omega
 have hd:decide ((k:Int)<1)=false:=by simpa using hk1
 have hd2:decide (11≤(k:Int))=false:=by simpa using hk2
 have hk3:k<11:=by omega
 have hk4:(k:Int)<11:=by omega
 have hm2:¬ ((m:Int)<(kMin k:Int)):=by omega
 have hm3:¬ ((kMax k:Int)<(m:Int)):=by omega
 have hm4:¬ (n<kLo k):=by omega
 have hm5:¬ (kHi k<n):=by omega
 have hk5:¬ ((k:Int)=1):=by omega
 have hk6:decide ((k:Int)=1)=false:=by simpa using hk5
 have hw2:decide (w=0)=false:=by simpa using hw
 obtain ⟨c0,c1,c2,c3,c4⟩:=(hB.alloc (.cells #[.int .i64 k,.string (bs name),.int .i64 n,.int .i64 w,.int .u64 v,.slice p m c] 28)).kinds k hk3
 generalize kMin k=q1 at *
 generalize kMax k=q2 at *
 generalize kLo k=q3 at *
 generalize kHi k=q4 at *
 generalize kNamed k=q0 at *
 clear hB
 go_enter Tryz.func132,Tryz.ntmps132
 go_wp2
 go_ret
 exact ⟨rfl,((Below.refl _ _).alloc (Nat.le_refl _) _).alloc (by simp) _⟩
theorem good_v (k:Nat) (h1:1≤k) (h2:k≤10) (name:Ln) (n  : Int) (v:Nat) (p:Option Addr) (m c:Nat) (hm:kMin k≤m) (hm0:m≤kMax k) (hn0:kLo k≤n) (hn1:n≤kHi k) (hk:k ≠ 1) (hv:v ≠ 0) (W:World) (hB:BaseA W) :
  Calls Tryz.prog 132 #[.agg #[.int .i64 k,.string (bs name),.int .i64 n,.int .i64 0,.int .u64 v,.slice p m c]] W fun e W'=>e=.returned (.bool false)∧Below W.heap.size W W':=by
 have hk1:¬ ((k:Int)<1):=by omega
 have hk2:¬ (11≤(k:Int)):=by omega
 have hd:decide ((k:Int)<1)=false:=by simpa using hk1
 have hd2:decide (11≤(k:Int))=false:=by simpa using hk2
 have hk3:k<11:=by omega
 have hk4:(k:Int)<11:=by omega
 have hm2:¬ ((m:Int)<(kMin k:Int)):=by omega
 have hm3:¬ ((kMax k:Int)<(m:Int)):=by omega
 have hm4:¬ (n<kLo k):=by omega
 have hm5:¬ (kHi k<n):=by omega
 have hk5:¬ ((k:Int)=1):=by omega
 have hk6:decide ((k:Int)=1)=false:=by simpa using hk5
 have hv2:decide ((v:Int)=0)=false:=by simpa using hv
 have hv3:¬ ((v:Int)=0):=by omega
 obtain ⟨c0,c1,c2,c3,c4⟩:=(hB.alloc (.cells #[.int .i64 k,.string (bs name),.int .i64 n,.int .i64 0,.int .u64 v,.slice p m c] 28)).kinds k hk3
 generalize kMin k=q1 at *
 generalize kMax k=q2 at *
 generalize kLo k=q3 at *
 generalize kHi k=q4 at *
 generalize kNamed k=q0 at *
 clear hB
 go_enter Tryz.func132,Tryz.ntmps132
 go_wp2
 go_ret
 exact ⟨rfl,((Below.refl _ _).alloc (Nat.le_refl _) _).alloc (by simp) _⟩
theorem good_named (k:Nat) (h1:1≤k) (h2:k≤10) (name:Ln) (n  : Int) (p:Option Addr) (m c:Nat) (hm:kMin k≤m) (hm0:m≤kMax k) (hn0:kLo k≤n) (hn1:n≤kHi k) (hk:k ≠ 1) (hnm:kNamed k=true) (hs:name.length≤140737488355328) (W:World) (hB:BaseA W) :
  Calls Tryz.prog 132 #[.agg #[.int .i64 k,.string (bs name),.int .i64 n,.int .i64 0,.int .u64 0,.slice p m c]] W fun e W'=>e=.returned (.bool (isName name))∧Below W.heap.size W W':=by
 have hk1:¬ ((k:Int)<1):=by omega
 have hk2:¬ (11≤(k:Int)):=by omega
 have hd:decide ((k:Int)<1)=false:=by simpa using hk1
 have hd2:decide (11≤(k:Int))=false:=by simpa using hk2
 have hk3:k<11:=by omega
 have hk4:(k:Int)<11:=by omega
 have hm2:¬ ((m:Int)<(kMin k:Int)):=by omega
 have hm3:¬ ((kMax k:Int)<(m:Int)):=by omega
 have hm4:¬ (n<kLo k):=by omega
 have hm5:¬ (kHi k<n):=by omega
 have hk5:¬ ((k:Int)=1):=by omega
 have hk6:decide ((k:Int)=1)=false:=by simpa using hk5
 have HN:=hid (aname_any name hs ((W.alloc (.cells #[.int .i64 k,.string (bs name),.int .i64 n,.int .i64 0,.int .u64 0,.slice p m c] 28)).alloc (.cells #[.bool true,.int .i64 (kMin k:Nat),.int .i64 (kMax k:Nat),.int .i64 (kLo k),.int .i64 (kHi k)] 202)) ((hB.alloc _).alloc _).base)
 have HC:=hid (show ((W.alloc (.cells #[.int .i64 k,.string (bs name),.int .i64 n,.int .i64 0,.int .u64 0,.slice p m c] 28)).alloc (.cells #[.bool true,.int .i64 (kMin k:Nat),.int .i64 (kMax k:Nat),.int .i64 (kLo k),.int .i64 (kHi k)] 202)).cell? ⟨W.heap.size+1,0,none⟩=some (.bool true) from by have:=World.alloc_heap_new (W.alloc (.cells #[.int .i64 k,.string (bs name),.int .i64 n,.int .i64 0,.int .u64 0,.slice p m c] 28)) (.cells #[.bool true,.int .i64 (kMin k:Nat),.int .i64 (kMax k:Nat),.int .i64 (kLo k),.int .i64 (kHi k)] 202);rw [World.size_alloc] at this;exact (cell_of_row _ _ _ _ _ _ this).trans rfl)
 obtain ⟨c0,c1,c2,c3,c4⟩:=(hB.alloc (.cells #[.int .i64 k,.string (bs name),.int .i64 n,.int .i64 0,.int .u64 0,.slice p m c] 28)).kinds k hk3
 rw [hnm] at c0
 generalize kMin k=q1 at *
 generalize kMax k=q2 at *
 generalize kLo k=q3 at *
 generalize kHi k=q4 at *
 generalize kNamed k=q0 at *
 clear hB
 go_enter Tryz.func132,Tryz.ntmps132
 cases hin:isName name with
 | true=>
  rw [hin] at HN
  go_wp2_with (go_at_call 158;refine HN.out.mono ?_;rintro e W3 ⟨rfl,hb⟩;have hcb:=(hb.cell (p:=⟨W.heap.size+1,0,none⟩) (by simp)).trans HC.out;have HB:=hid hb;clear hb)
  go_ret
  exact ⟨rfl,(((Below.refl _ _).alloc (Nat.le_refl _) _).alloc (by simp) _).trans (HB.out.mono (by simp;omega))⟩
 | false=>
  rw [hin] at HN
  go_wp2_with (go_at_call 158;refine HN.out.mono ?_;rintro e W3 ⟨rfl,hb⟩;have hcb:=(hb.cell (p:=⟨W.heap.size+1,0,none⟩) (by simp)).trans HC.out;have HB:=hid hb;clear hb)
  go_ret
  exact ⟨rfl,(((Below.refl _ _).alloc (Nat.le_refl _) _).alloc (by simp) _).trans (HB.out.mono (by simp;omega))⟩
theorem good_bare (k:Nat) (h1:1≤k) (h2:k≤10) (n  : Int) (p:Option Addr) (m c:Nat) (hm:kMin k≤m) (hm0:m≤kMax k) (hn0:kLo k≤n) (hn1:n≤kHi k) (hk:k ≠ 1) (hnm:kNamed k=false) (W:World) (hB:BaseA W) :
  Calls Tryz.prog 132 #[.agg #[.int .i64 k,.string (bs []),.int .i64 n,.int .i64 0,.int .u64 0,.slice p m c]] W fun e W'=>e=.returned (.bool true)∧Below W.heap.size W W':=by
 have hk1:¬ ((k:Int)<1):=by omega
 have hk2:¬ (11≤(k:Int)):=by omega
 have hd:decide ((k:Int)<1)=false:=by simpa using hk1
 have hd2:decide (11≤(k:Int))=false:=by simpa using hk2
 have hk3:k<11:=by omega
 have hk4:(k:Int)<11:=by omega
 have hm2:¬ ((m:Int)<(kMin k:Int)):=by omega
 have hm3:¬ ((kMax k:Int)<(m:Int)):=by omega
 have hm4:¬ (n<kLo k):=by omega
 have hm5:¬ (kHi k<n):=by omega
 have hk5:¬ ((k:Int)=1):=by omega
 have hk6:decide ((k:Int)=1)=false:=by simpa using hk5
 have hse:(bs []).toList.isEmpty=true:=by rw [Lib.toList_data,list_bs];rfl
 obtain ⟨c0,c1,c2,c3,c4⟩:=(hB.alloc (.cells #[.int .i64 k,.string (bs []),.int .i64 n,.int .i64 0,.int .u64 0,.slice p m c] 28)).kinds k hk3
 rw [hnm] at c0
 generalize kMin k=q1 at *
 generalize kMax k=q2 at *
 generalize kLo k=q3 at *
 generalize kHi k=q4 at *
 generalize kNamed k=q0 at *
 clear hB
 go_enter Tryz.func132,Tryz.ntmps132
 go_wp2
 go_ret
 exact ⟨rfl,((Below.refl _ _).alloc (Nat.le_refl _) _).alloc (by simp) _⟩
theorem good_barex (k:Nat) (h1:1≤k) (h2:k≤10) (name:Ln) (n  : Int) (p:Option Addr) (m c:Nat) (hm:kMin k≤m) (hm0:m≤kMax k) (hn0:kLo k≤n) (hn1:n≤kHi k) (hk:k ≠ 1) (hnm:kNamed k=false) (hs:name ≠ []) (W:World) (hB:BaseA W) :
  Calls Tryz.prog 132 #[.agg #[.int .i64 k,.string (bs name),.int .i64 n,.int .i64 0,.int .u64 0,.slice p m c]] W fun e W'=>e=.returned (.bool false)∧Below W.heap.size W W':=by
 have hk1:¬ ((k:Int)<1):=by omega
 have hk2:¬ (11≤(k:Int)):=by omega
 have hd:decide ((k:Int)<1)=false:=by simpa using hk1
 have hd2:decide (11≤(k:Int))=false:=by simpa using hk2
 have hk3:k<11:=by omega
 have hk4:(k:Int)<11:=by omega
 have hm2:¬ ((m:Int)<(kMin k:Int)):=by omega
 have hm3:¬ ((kMax k:Int)<(m:Int)):=by omega
 have hm4:¬ (n<kLo k):=by omega
 have hm5:¬ (kHi k<n):=by omega
 have hk5:¬ ((k:Int)=1):=by omega
 have hk6:decide ((k:Int)=1)=false:=by simpa using hk5
 have hse:(bs name).toList.isEmpty=false:=by rw [Lib.toList_data,list_bs];simpa using hs
 obtain ⟨c0,c1,c2,c3,c4⟩:=(hB.alloc (.cells #[.int .i64 k,.string (bs name),.int .i64 n,.int .i64 0,.int .u64 0,.slice p m c] 28)).kinds k hk3
 rw [hnm] at c0
 generalize kMin k=q1 at *
 generalize kMax k=q2 at *
 generalize kLo k=q3 at *
 generalize kHi k=q4 at *
 generalize kNamed k=q0 at *
 clear hB
 go_enter Tryz.func132,Tryz.ntmps132
 go_wp2
 go_ret
 exact ⟨rfl,((Below.refl _ _).alloc (Nat.le_refl _) _).alloc (by simp) _⟩
theorem good_num_name (name:Ln) ( w:Int) (v:Nat) (p:Option Addr) (c:Nat) (hs:name ≠ []) (W:World) (hB:BaseA W) :
  Calls Tryz.prog 132 #[.agg #[.int .i64 1,.string (bs name),.int .i64 0,.int .i64 w,.int .u64 v,.slice p 0 c]] W fun e W'=>e=.returned (.bool false)∧Below W.heap.size W W':=by
 have hse:(bs name).toList.isEmpty=false:=by rw [Lib.toList_data,list_bs];simpa using hs
 obtain ⟨c0,c1,c2,c3,c4⟩:=(hB.alloc (.cells #[.int .i64 1,.string (bs name),.int .i64 0,.int .i64 w,.int .u64 v,.slice p 0 c] 28)).kinds 1 (by decide)
 simp only [show kNamed 1=false from rfl,show kMin 1=0 from rfl,show kMax 1=0 from rfl,show kLo 1=0 from rfl,show kHi 1=0 from rfl,Nat.one_mul] at c0 c1 c2 c3 c4
 clear hB
 go_enter Tryz.func132,Tryz.ntmps132
 go_wp2_with fail
 go_quiet (fail)
 go_wp2
 go_ret
 exact ⟨rfl,below_drewN (((Below.refl _ _).alloc (Nat.le_refl _) _).alloc (by simp) _) _⟩
theorem good_num_neg ( w:Int) (v:Nat) (p:Option Addr) (c:Nat) (hw:w<0) (W:World) (hB:BaseA W) :
  Calls Tryz.prog 132 #[.agg #[.int .i64 1,.string (bs []),.int .i64 0,.int .i64 w,.int .u64 v,.slice p 0 c]] W fun e W'=>e=.returned (.bool false)∧Below W.heap.size W W':=by
 have hw2:¬ (0≤w):=by omega
 have hw3:decide (0≤w)=false:=by simpa using hw2
 have hse:(bs []).toList.isEmpty=true:=by rw [Lib.toList_data,list_bs];rfl
 obtain ⟨c0,c1,c2,c3,c4⟩:=(hB.alloc (.cells #[.int .i64 1,.string (bs []),.int .i64 0,.int .i64 w,.int .u64 v,.slice p 0 c] 28)).kinds 1 (by decide)
 simp only [show kNamed 1=false from rfl,show kMin 1=0 from rfl,show kMax 1=0 from rfl,show kLo 1=0 from rfl,show kHi 1=0 from rfl,Nat.one_mul] at c0 c1 c2 c3 c4
 clear hB
 go_enter Tryz.func132,Tryz.ntmps132
 go_wp2_with fail
 go_quiet (fail)
 go_wp2
 go_ret
 exact ⟨rfl,below_drewN (((Below.refl _ _).alloc (Nat.le_refl _) _).alloc (by simp) _) _⟩
theorem good_num_big ( w:Int) (v:Nat) (p:Option Addr) (c:Nat) (hw0:0≤w) (hw:64<w) (W:World) (hB:BaseA W) :
  Calls Tryz.prog 132 #[.agg #[.int .i64 1,.string (bs []),.int .i64 0,.int .i64 w,.int .u64 v,.slice p 0 c]] W fun e W'=>e=.returned (.bool false)∧Below W.heap.size W W':=by
 have hw2:¬ (w≤64):=by omega
 have hw3:decide (w≤64)=false:=by simpa using hw2
 have hse:(bs []).toList.isEmpty=true:=by rw [Lib.toList_data,list_bs];rfl
 obtain ⟨c0,c1,c2,c3,c4⟩:=(hB.alloc (.cells #[.int .i64 1,.string (bs []),.int .i64 0,.int .i64 w,.int .u64 v,.slice p 0 c] 28)).kinds 1 (by decide)
 simp only [show kNamed 1=false from rfl,show kMin 1=0 from rfl,show kMax 1=0 from rfl,show kLo 1=0 from rfl,show kHi 1=0 from rfl,Nat.one_mul] at c0 c1 c2 c3 c4
 clear hB
 go_enter Tryz.func132,Tryz.ntmps132
 go_wp2_with fail
 go_quiet (fail)
 go_wp2
 go_ret
 exact ⟨rfl,below_drewN (((Below.refl _ _).alloc (Nat.le_refl _) _).alloc (by simp) _) _⟩
theorem good_num_zero (v:Nat) (p:Option Addr) (c:Nat)  (W:World) (hB:BaseA W) :
  Calls Tryz.prog 132 #[.agg #[.int .i64 1,.string (bs []),.int .i64 0,.int .i64 0,.int .u64 v,.slice p 0 c]] W fun e W'=>e=.returned (.bool true)∧Below W.heap.size W W':=by
 have hse:(bs []).toList.isEmpty=true:=by rw [Lib.toList_data,list_bs];rfl
 obtain ⟨c0,c1,c2,c3,c4⟩:=(hB.alloc (.cells #[.int .i64 1,.string (bs []),.int .i64 0,.int .i64 0,.int .u64 v,.slice p 0 c] 28)).kinds 1 (by decide)
 simp only [show kNamed 1=false from rfl,show kMin 1=0 from rfl,show kMax 1=0 from rfl,show kLo 1=0 from rfl,show kHi 1=0 from rfl,Nat.one_mul] at c0 c1 c2 c3 c4
 clear hB
 go_enter Tryz.func132,Tryz.ntmps132
 go_wp2_with fail
 go_quiet (fail)
 go_wp2
 go_ret
 exact ⟨rfl,below_drewN (((Below.refl _ _).alloc (Nat.le_refl _) _).alloc (by simp) _) _⟩
theorem good_num_all (v:Nat) (p:Option Addr) (c:Nat)  (W:World) (hB:BaseA W) :
  Calls Tryz.prog 132 #[.agg #[.int .i64 1,.string (bs []),.int .i64 0,.int .i64 64,.int .u64 v,.slice p 0 c]] W fun e W'=>e=.returned (.bool true)∧Below W.heap.size W W':=by
 have hse:(bs []).toList.isEmpty=true:=by rw [Lib.toList_data,list_bs];rfl
 obtain ⟨c0,c1,c2,c3,c4⟩:=(hB.alloc (.cells #[.int .i64 1,.string (bs []),.int .i64 0,.int .i64 64,.int .u64 v,.slice p 0 c] 28)).kinds 1 (by decide)
 simp only [show kNamed 1=false from rfl,show kMin 1=0 from rfl,show kMax 1=0 from rfl,show kLo 1=0 from rfl,show kHi 1=0 from rfl,Nat.one_mul] at c0 c1 c2 c3 c4
 clear hB
 go_enter Tryz.func132,Tryz.ntmps132
 go_wp2_with fail
 go_quiet (fail)
 go_wp2
 go_ret
 exact ⟨rfl,below_drewN (((Below.refl _ _).alloc (Nat.le_refl _) _).alloc (by simp) _) _⟩
theorem good_num_mid (v:Nat) (p:Option Addr) (c:Nat) (d:Nat) (hd0:0<d) (hd1:d<64) (W:World) (hB:BaseA W) :
  Calls Tryz.prog 132 #[.agg #[.int .i64 1,.string (bs []),.int .i64 0,.int .i64 (d:Nat),.int .u64 v,.slice p 0 c]] W fun e W'=>e=.returned (.bool (decide (v<2 ^ d)))∧Below W.heap.size W W':=by
 have hw1:(0:Int)≤(d:Int):=by omega
 have hw2:(d:Int)≤64:=by omega
 have hw3:¬ ((d:Int)=0):=by omega
 have hw4:¬ ((d:Int)=64):=by omega
 have hw5:((d:Int) == 0)=false:=by simp;omega
 have hw6:((d:Int) == 64)=false:=by simp;omega
 have hw7:decide ((d:Int)=0)=false:=by simp;omega
 have hw8:decide ((d:Int)=64)=false:=by simp;omega
 have hsh:(1:Int) * 2 ^ d=((2 ^ d:Nat):Int):=by simp
 have hse:(bs []).toList.isEmpty=true:=by rw [Lib.toList_data,list_bs];rfl
 obtain ⟨c0,c1,c2,c3,c4⟩:=(hB.alloc (.cells #[.int .i64 1,.string (bs []),.int .i64 0,.int .i64 (d:Nat),.int .u64 v,.slice p 0 c] 28)).kinds 1 (by decide)
 simp only [show kNamed 1=false from rfl,show kMin 1=0 from rfl,show kMax 1=0 from rfl,show kLo 1=0 from rfl,show kHi 1=0 from rfl,Nat.one_mul] at c0 c1 c2 c3 c4
 clear hB
 go_enter Tryz.func132,Tryz.ntmps132
 go_wp2_with fail
 go_quiet (fail)
 go_wp2
 go_ret
 refine ⟨?_,below_drewN (((Below.refl _ _).alloc (Nat.le_refl _) _).alloc (by simp) _) _⟩
 have hpow:(2 ^ d:Nat)<2 ^ 64:=Nat.pow_lt_pow_right (by decide) hd1
 have hcast:((2:Int) ^ d)=((2 ^ d:Nat):Int):=by simp
 have hwr:IntKind.u64.wrap ((2:Int) ^ d)=((2 ^ d:Nat):Int):=by
  have h2:∀ z:Nat,z<18446744073709551616→IntKind.u64.wrap (z:Int)=(z:Int):=fun z hz=>Go.IntWalk.u64_in _ (by omega)
  rw [hcast]
  exact h2 _ hpow
 simp only [Array.getD_eq_getD_getElem?]
 simp [hwr]
 rw [hcast]
 exact Int.ofNat_lt
end Go.Proofs.YtlcfpdmicpggbaaGreatDoor
