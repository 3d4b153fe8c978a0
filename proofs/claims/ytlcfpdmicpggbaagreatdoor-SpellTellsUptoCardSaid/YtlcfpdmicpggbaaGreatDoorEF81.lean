/- Texts of the seat, merged. -/
import Derived.Test.YtlcfpdmicpggbaaGreatDoorD6
set_option linter.unusedVariables false
set_option linter.unusedSimpArgs false
set_option maxRecDepth 100000
set_option maxHeartbeats 16000000
namespace Go.Proofs.YtlcfpdmicpggbaaGreatDoor
open Go.Lib (hid)
open Go.RowKit Go.Proofs.Scn Go.Flow Go.Sort
theorem cellsTs_length (ts:List Tok):(cellsTs ts).length=ts.length * 5:=by
 induction ts with
 | nil=>rfl
 | cons t ts ih=>rw [cellsTs,List.flatMap_cons,List.length_append,show (List.flatMap cellsT ts)=cellsTs ts from rfl,ih,List.length_cons];simp [cellsT];omega
end Go.Proofs.YtlcfpdmicpggbaaGreatDoor
namespace Go.Proofs.YtlcfpdmicpggbaaGreatDoor
open Go.Lib (hid)
open Go.RowKit Go.Proofs.Scn Go.Flow Go.Sort
theorem equal_len (p1 p2:Option Addr) (l1 l2 c1 c2:Nat) (h:l1 ≠ l2) (W:World) :
  Calls Tryz.prog 22 #[.slice p1 l1 c1,.slice p2 l2 c2] W fun e W'=>e=.returned (.bool false)∧Below W.heap.size W W':=by
 have hh:¬ (l1:Int)=(l2:Int):=by omega
 go_enter Tryz.func22,Tryz.ntmps22
 go_wp2
 go_ret
 exact ⟨rfl,Below.refl _ _⟩
theorem tok_neq (x y:Tok) (w:World):(binOp .neq 55 (.agg #[.int .i64 x.k,.string (bs x.s),.int .i64 x.w,.int .u64 x.v,.int .i64 x.p]) (.agg #[.int .i64 y.k,.string (bs y.s),.int .i64 y.w,.int .u64 y.v,.int .i64 y.p])).run Tryz.prog w=.ok (.bool (!decide (x=y))) w:=by
 rw [run_neq_struct]
 simp [go_sem]
 rw [toList_eq,toList_eq,list_bs,list_bs]
 obtain ⟨k,s,w1,v,p⟩:=x
 obtain ⟨k',s',w1',v',p'⟩:=y
 simp only [Tok.mk.injEq]
 by_cases h1:k=k'
 ·by_cases h2:s=s'
  ·by_cases h3:w1=w1'
   ·by_cases h4:v=v'
    ·by_cases h5:p=p'
     ·simp [h1,h2,h3,h4,h5]
     ·simp [h1,h2,h3,h4,h5]
    ·have:¬ (v:Int)=(v':Int):=by omega
     simp [h1,h2,h3,h4,this]
   ·simp [h1,h2,h3]
  ·simp [h1,h2]
 ·simp [h1]
theorem equal_some (b1 o1 c1 b2 o2 c2:Nat) (xs ys:List Tok) (hl:xs.length=ys.length) (hxl:xs.length≤140737488351232) (W:World)
  (hx:∀ k (h:k<xs.length),TokAt W b1 (o1+k * 5) xs[k]) (hy:∀ k (h:k<ys.length),TokAt W b2 (o2+k * 5) ys[k]) (hb1:b1<W.heap.size) (hb2:b2<W.heap.size) :
  Calls Tryz.prog 22 #[.slice (some ⟨b1,o1,none⟩) xs.length c1,.slice (some ⟨b2,o2,none⟩) ys.length c2] W fun e W'=>e=.returned (.bool (decide (xs=ys)))∧Below W.heap.size W W':=by
 have HX:=hid hx
 have HY:=hid hy
 have hll:(xs.length:Int)=(ys.length:Int):=by omega
 have HLL:=hid hl
 clear hx hy hl
 go_enter Tryz.func22,Tryz.ntmps22
 go_wp2
 go_loopw [5] (fun i wr=>∃ k:Nat,k≤xs.length∧i=.int .i64 k∧Hid (Below W.heap.size W wr)∧Hid (xs.take k=ys.take k)) (fun i _=>xs.length - (intOf i).toNat)
 case atStart=>exact ⟨0,Nat.zero_le _,rfl,hid (Below.refl _ _),hid rfl⟩
 case round=>
  obtain ⟨k,hk,rfl,HB,HE⟩:=hrel
  by_cases hlt:k<xs.length
  ·have hly:k<ys.length:=by omega
   have hX:=(HX.out k hlt).later hb1 HB.out
   have hY:=(HY.out k hly).later hb2 HB.out
   obtain ⟨x0,x1,x2,x3,x4⟩:=hX
   obtain ⟨y0,y1,y2,y3,y4⟩:=hY
   have hE:decide (xs[k]=ys[k])=true→xs.take (k+1)=ys.take (k+1):=by
    intro he
    rw [List.take_succ_eq_append_getElem hlt,List.take_succ_eq_append_getElem hly,HE.out,of_decide_eq_true he]
   have hF:decide (xs[k]=ys[k])=false → ¬ xs=ys:=by
    intro he hxy
    subst hxy
    simp at he
   have hneq:=tok_neq xs[k] ys[k]
   generalize xs[k]=x at *
   generalize ys[k]=y at *
   cases hxy:decide (x=y)
   ·rw [hxy] at hneq
    have HF:=hid (hF hxy)
    clear hE hF hxy
    go_wp2_with fail
    go_quiet (fail)
    go_wp2_with fail
    go_ret
    exact ⟨by rw [decide_eq_false HF.out];rfl,below_drewN HB.out _⟩
   ·rw [hxy] at hneq
    have HF:=hid (hE hxy)
    clear hE hF hxy
    go_wp2_with fail
    go_quiet (fail)
    go_wp2_with fail
    go_roundw
    case rel=>exact ⟨k+1,by omega,by go_num,hid (below_drewN HB.out _),HF⟩
    case measure=>simp [intOf];omega
  ·have hge:¬ k<ys.length:=by omega
   have hxy:xs=ys:=by
    have:=HE.out
    rwa [List.take_of_length_le (by omega),List.take_of_length_le (by omega)] at this
   have HXY:=hid hxy
   clear hxy
   go_wp2_with fail
   go_ret
   exact ⟨by rw [decide_eq_true HXY.out];rfl,HB.out⟩
theorem equal_empty (p1 p2:Option Addr) (c1 c2:Nat) (W:World) :
  Calls Tryz.prog 22 #[.slice p1 0 c1,.slice p2 0 c2] W fun e W'=>e=.returned (.bool true)∧Below W.heap.size W W':=by
 go_enter Tryz.func22,Tryz.ntmps22
 go_wp2
 refine wp_loop_rounds 1 ?_
 rw [rounds_succ]
 go_wp2
 go_ret
 exact ⟨rfl,Below.refl _ _⟩
theorem Toks.form {w:World} {v:Value} {ts:List Tok} (h:Toks w v ts):∃ p c,v=.slice p ts.length c:=by
 rcases h with ⟨rfl,p,c,rfl⟩ | ⟨b,o,c,rfl,_⟩
 ·exact ⟨_,_,rfl⟩
 ·exact ⟨_,_,rfl⟩
theorem equal_any (v1 v2:Value) (xs ys:List Tok) (hxl:xs.length≤140737488351232) (W:World) (h1:Toks W v1 xs) (h2:Toks W v2 ys) :
  Calls Tryz.prog 22 #[v1,v2] W fun e W'=>e=.returned (.bool (decide (xs=ys)))∧Below W.heap.size W W':=by
 by_cases hl:xs.length=ys.length
 ·by_cases h0:xs.length=0
  ·obtain ⟨p1,c1,rfl⟩:=h1.form
   obtain ⟨p2,c2,rfl⟩:=h2.form
   have hx:xs=[]:=List.eq_nil_of_length_eq_zero h0
   have hy:ys=[]:=List.eq_nil_of_length_eq_zero (by omega)
   subst hx
   subst hy
   exact equal_empty p1 p2 c1 c2 W
  ·rcases h1 with ⟨rfl,_⟩ | ⟨b1,o1,c1,rfl,hb1,hc1⟩
   ·simp at h0
   rcases h2 with ⟨rfl,_⟩ | ⟨b2,o2,c2,rfl,hb2,hc2⟩
   ·simp at hl;simp [hl] at h0
   exact equal_some b1 o1 c1 b2 o2 c2 xs ys hl hxl W hc1 hc2 hb1 hb2
 ·obtain ⟨p1,c1,rfl⟩:=h1.form
  obtain ⟨p2,c2,rfl⟩:=h2.form
  rw [decide_eq_false (fun h=>hl (by rw [h]))]
  exact equal_len p1 p2 _ _ c1 c2 hl W
end Go.Proofs.YtlcfpdmicpggbaaGreatDoor
namespace Go.Proofs.YtlcfpdmicpggbaaGreatDoor
open Go.Lib (hid)
open Go.RowKit Go.Proofs.Scn Go.Flow Go.Sort
theorem Bytes.form {w:World} {v:Value} {s:ByteArray} (h:Bytes w v s):∃ p c,v=.slice p s.size c:=by
 rcases h with ⟨h0,p,c,rfl⟩ | ⟨b,o,c,rfl,_⟩
 ·exact ⟨_,_,by rw [h0]⟩
 ·exact ⟨_,_,rfl⟩
end Go.Proofs.YtlcfpdmicpggbaaGreatDoor
namespace Go.Proofs.YtlcfpdmicpggbaaGreatDoor
open Go.Lib (hid)
open Go.RowKit Go.Proofs.Spl Go.Proofs.Scn Go.Shelf Go.Grow
theorem EachS.form {W:World} {out:Value} {fs:List Value} {ls:List (List Tok)} {V:World} (h:EachS W out fs ls V):∃ p cap,out=.slice p fs.length cap:=by
 rcases h.own.2 with ⟨rfl,h0⟩ | ⟨g,cap,cur,rfl,hB,hg,hn,hc,hs,ht⟩
 ·exact ⟨none,0,by rw [h0]⟩
 ·exact ⟨_,cap,rfl⟩
end Go.Proofs.YtlcfpdmicpggbaaGreatDoor
