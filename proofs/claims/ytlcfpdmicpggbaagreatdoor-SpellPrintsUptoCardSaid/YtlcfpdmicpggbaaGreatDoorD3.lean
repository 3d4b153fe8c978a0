/- Texts of the seat, merged. -/
import Derived.Laws.AppendOwnNone
import Derived.Lib.AppendStr
import Derived.Lib.SlBytesConst
import Derived.LoopIn
import Derived.LoopNIn
import Derived.OrdersHeld
import Derived.OwnWalkIn
import Derived.RangeFuncBound
import Derived.RangeFuncBox
import Derived.RangeFuncCalls
import Derived.RangeFuncLeaves
import Derived.RangeFuncNested
import Derived.Shelf.Abstract
import Derived.Shelf.RegionOpen
import Derived.TacticsInMore
import Derived.Test.YtlcfpdmicpggbaaGreatDoorD2
set_option linter.unusedVariables false
set_option linter.unusedSimpArgs false
set_option maxRecDepth 100000
set_option maxHeartbeats 16000000
namespace Go.Proofs.YtlcfpdmicpggbaaGreatDoor
open Go.Lib (hid)
open Go.RowKit Go.Proofs.Scn Go.Flow Go.Sort
def cellsB (l:List UInt8):List Value:=l.map fun c=>.int .u8 c.toNat
theorem cellsB_length (l:List UInt8):(cellsB l).length=l.length:=by simp [cellsB]
def OwnB (B:Nat) (w:World) (v:Value) (l:List UInt8):Prop:=w.ownsRow B 5 1 v l.length (cellsB l)
theorem OwnB.later {B:Nat} {w w':World} {v:Value} {l:List UInt8} (h:OwnB B w v l) (hb:Below w.heap.size w w'):OwnB B w' v l:=by
 refine ⟨h.1,?_⟩
 rcases h.2 with h0 | ⟨g,cap,cur,hv,hB,hg,h1⟩
 ·exact .inl h0
 ·exact .inr ⟨g,cap,cur,hv,hB,(hb.block g (Array.getElem?_eq_some_iff.1 hg).1).trans hg,h1⟩
theorem OwnB.nil (B:Nat) (w:World):OwnB B w (.slice none 0 0) []:=World.ownsRow_nil w B _ 1
theorem OwnB.bytes {B:Nat} {w:World} {v:Value} {l:List UInt8} (h:OwnB B w v l):Bytes w v (bs l):=by
 rcases h.2 with ⟨rfl,h0⟩ | ⟨g,cap,cur,rfl,hB,hg,hn,hc,hs,ht⟩
 ·exact .inl ⟨h0,_,_,rfl⟩
 ·refine .inr ⟨g,0,cap,rfl,(Array.getElem?_eq_some_iff.1 hg).1,fun k hk=>?_⟩
  have hk':k<l.length:=hk
  have:(cellsB l)[k]?=some (.int .u8 (l[k]).toNat):=by simp [cellsB,hk']
  rw [← ht,List.getElem?_take,if_pos (by omega)] at this
  rw [Nat.zero_add,cell_of_row w g k cur _ (0,0) hg]
  show cur[k]?=some (.int .u8 (l[k]).toNat)
  simpa using this
def TextPost (W:World) (ts:List Tok) (e:Ending) (W':World):Prop:=
 (if ts.all checkT then
  if (textL ts).length≤65536 then ∃ v,e=.returned (.tuple #[v,.int .i64 0])∧OwnB W.heap.size W' v (textL ts) else e=.returned (.tuple #[.slice none 0 0,.int .i64 2])
 else e=.returned (.tuple #[.slice none 0 0,.int .i64 1]))∧Below W.heap.size W W'
theorem checkT_kinds {t:Tok} (h:checkT t=true):t.k=1∧isName t.s=true∨t.k=2∧isWord t.s=true∨t.k=4∧isSign t.s=true∨t.k=3∧(t.w=0∨fitsV t.w t.v=true):=by
 unfold checkT at h
 rw [Bool.and_eq_true] at h
 have h:=h.2
 by_cases h1:t.k=1
 ·rw [if_pos h1] at h;simp at h;exact .inl ⟨h1,h.2⟩
 ·rw [if_neg h1] at h
  by_cases h2:t.k=2
  ·rw [if_pos h2] at h;simp at h;exact .inr (.inl ⟨h2,h.2⟩)
  ·rw [if_neg h2] at h
   by_cases h4:t.k=4
   ·rw [if_pos h4] at h;simp at h;exact .inr (.inr (.inl ⟨h4,h.2⟩))
   ·rw [if_neg h4] at h
    by_cases h3:t.k=3
    ·rw [if_pos h3] at h;simp at h;exact .inr (.inr (.inr ⟨h3,h.2⟩))
    ·rw [if_neg h3] at h;simp at h
theorem one_len {t:Tok} (h:checkT t=true) (hv:t.v<two64):(oneT t).length≤64:=by
 have hv':t.v<18446744073709551616:=hv
 unfold oneT
 rcases checkT_kinds h with ⟨hk,hn⟩ | ⟨hk,hn⟩ | ⟨hk,hn⟩ | ⟨hk,hn⟩
 ·rw [if_pos (by omega)]
  simp [isName] at hn
  omega
 ·rw [if_pos (by omega)]
  have:=words_ok
  rw [List.all_eq_true] at this
  have h2:=this t.s (by simpa [isWord] using hn)
  simp at h2
  omega
 ·rw [if_pos (by omega)]
  have:=(sign_mem hn).2.2.2.2
  omega
 ·rw [if_neg (by omega)]
  rcases hn with h0 | h0
  ·rw [if_pos h0]
   have:=digL_len 10 (by omega) 20 t.v (by omega) (by omega)
   omega
  ·split
   ·have:=digL_len 10 (by omega) 20 t.v (by omega) (by omega)
    omega
   ·simp only [fitsV,Bool.and_eq_true,decide_eq_true_eq] at h0
    have h1:=digL_len 10 (by omega) 2 t.w.toNat (by omega) (by omega)
    have h2:=digL_len 16 (by omega) 16 t.v (by omega) (by omega)
    simp
    omega
theorem textL_snoc (a t:Tok):∀ l:List Tok,textL (l ++ [a,t])=textL (l ++ [a]) ++ sepT a :: oneT t
 | []=>rfl
 | [x]=>by simp [textL]
 | x :: y :: l=>by
  have:=textL_snoc a t (y :: l)
  rw [List.cons_append,List.cons_append] at this
  rw [List.cons_append,List.cons_append,List.cons_append,List.cons_append,textL,this,textL]
  simp
theorem textL_grow (l:List Tok) (t:Tok):(textL l).length≤(textL (l ++ [t])).length:=by
 rcases List.eq_nil_or_concat l with rfl | ⟨l',a,rfl⟩
 ·simp [textL]
 ·rw [List.concat_eq_append,List.append_assoc,List.cons_append,List.nil_append,textL_snoc]
  simp
theorem textL_take (ts:List Tok) (k:Nat):(textL (ts.take k)).length≤(textL ts).length:=by
 have key:∀ (r l:List Tok),(textL l).length≤(textL (l ++ r)).length:=by
  intro r
  induction r with
  | nil=>intro l;simp
  | cons t r ih=>
   intro l
   rw [show l ++ t :: r=(l ++ [t]) ++ r by simp]
   refine Nat.le_trans ?_ (ih (l ++ [t]))
   exact textL_grow l t
 have:=key (ts.drop k) (ts.take k)
 rwa [List.take_append_drop] at this
theorem byteInfo:(Tryz.prog.info? 5).map (fun i=>(i.zero,i.size,i.bytes))=some (some (.int .u8 0),1,1):=by kernel_rfl
theorem byteSlice:Tryz.prog.underlying 44=some (.slice 5):=by kernel_rfl
theorem strKind:Tryz.prog.underlying 9=some .string:=by kernel_rfl
theorem grow_bytes {W W2 w3:World} {L l:List UInt8} {q:Option Addr} {cp:Nat} {v':Value} {N:Nat} (hN:(L ++ l).length=N) (HO2:OwnB W.heap.size W2 (.slice q L.length cp) L) (hB2:Below W.heap.size W W2)
  (hown:w3.ownsRow W.heap.size 5 1 v' (L.length+l.length) (cellsB L ++ cellsB l)) (hgr:W2.grownBy w3 (Value.slice q L.length cp).ownBlock) :
  OwnB W.heap.size w3 v' (L ++ l)∧Below W.heap.size W w3∧(∃ q3 cap3,v'=.slice q3 N cap3)∧(∀ a:Addr,a.block<W2.heap.size→some a.block ≠ (Value.slice q L.length cp).ownBlock→w3.cell? a=W2.cell? a):=by
 refine ⟨?_,Below.grown hB2 hgr hB2.size fun k hk=>(World.ownsRow.lt HO2 k hk).1,?_,fun a h1 h2=>hgr.cell_far a h1 h2⟩
 ·unfold OwnB
  rw [List.length_append,show cellsB (L ++ l)=cellsB L ++ cellsB l from List.map_append]
  exact hown
 ·rw [← hN,List.length_append]
  rcases hown.2 with ⟨h1,h2⟩ | ⟨g3,cap3,_,h,_⟩
  ·exact ⟨none,0,by rw [h1,h2]⟩
  ·exact ⟨some ⟨g3,0,none⟩,cap3,h⟩
theorem sep_tok {W wr w3:World} {L l:List UInt8} {q:Option Addr} {cp:Nat} {v':Value} {N:Nat} {o o':Obj} (hN:(L ++ l).length=N) (HO2:OwnB W.heap.size (wr.alloc o) (.slice q L.length cp) L) (hB2:Below W.heap.size W (wr.alloc o)) (hW:W.heap.size≤wr.heap.size)
  (hown:w3.ownsRow W.heap.size 5 1 v' (L.length+l.length) (cellsB L ++ cellsB l)) (hgr:((wr.alloc o).alloc o').grownBy w3 (Value.slice q L.length cp).ownBlock) (hrow:some wr.heap.size ≠ (Value.slice q L.length cp).ownBlock) :
  OwnB W.heap.size w3 v' (L ++ l)∧Below W.heap.size W w3∧(∃ q3 cap3,v'=.slice q3 N cap3)∧(∀ a b c d e,Box5 (wr.alloc o) wr.heap.size a b c d e→Box5 w3 wr.heap.size a b c d e):=by
 obtain ⟨h1,h2,h3,h4⟩:=grow_bytes hN (HO2.later ((Below.refl _ _).alloc (Nat.le_refl _) o')) (hB2.alloc hB2.size o') hown hgr
 refine ⟨h1,h2,h3,fun a b c d e h=>?_⟩
 have k1:∀ j,w3.cell? ⟨wr.heap.size,j,none⟩=(wr.alloc o).cell? ⟨wr.heap.size,j,none⟩:=fun j=>
  (h4 ⟨wr.heap.size,j,none⟩ (by simp;omega) hrow).trans (World.cell?_of_block (heap_alloc_old (wr.alloc o) o' (by simp)))
 have k2:∀ j,w3.frozen? ⟨wr.heap.size,j,none⟩=(wr.alloc o).frozen? ⟨wr.heap.size,j,none⟩:=fun j=>
  (hgr.frozen_far ⟨wr.heap.size,j,none⟩ (by simp;omega) hrow).trans (World.frozen?_of_block (heap_alloc_old (wr.alloc o) o' (by simp)))
 exact ⟨(k1 0).trans h.c0,(k1 1).trans h.c1,(k1 2).trans h.c2,(k1 3).trans h.c3,(k1 4).trans h.c4,(k2 0).trans h.f0,(k2 1).trans h.f1,(k2 2).trans h.f2,(k2 3).trans h.f3,(k2 4).trans h.f4,Nat.lt_of_lt_of_le (show wr.heap.size<(wr.alloc o).heap.size by simp) (Nat.le_trans (show (wr.alloc o).heap.size≤((wr.alloc o).alloc o').heap.size by simp) hgr.size)⟩
theorem text_some (b off cap:Nat) (ts:List Tok) (hl:ts.length≤140737488351232) (W:World) (hlt:b<W.heap.size) (hc:∀ k (h:k<ts.length),TokAt W b (off+k * 5) ts[k]) (hv:∀ t ∈ ts,t.v<two64∧t.s.length≤140737488355328) (hB:Base W) :
  Calls Tryz.prog 127 #[.slice (some ⟨b,off,none⟩) ts.length cap] W (TextPost W ts):=by
 have HC:=hid hc
 have HV:=hid hv
 have HB:=hid hB
 clear hc hv hB
 have hdef:∀ e W',(TextPost W ts e W' ↔ TextPost W ts e W'):=fun _ _=>Iff.rfl
 generalize hP:TextPost W ts=P at hdef ⊢
 have HP:=hid hP
 clear hdef hP
 obtain ⟨i0,hi,hz0,hz1,hz2⟩:=info_parts byteInfo
 go_enter Tryz.func127,Tryz.ntmps127
 go_wp2
 go_loopw [14] (fun i wr=>∃ k:Nat,k≤ts.length∧i=.int .i64 k∧Hid (∀ t ∈ ts.take k,checkT t=true)∧Hid (Below W.heap.size W wr)) (fun i _=>ts.length - (intOf i).toNat)
 case atStart=>exact ⟨0,Nat.zero_le _,rfl,hid (by simp),hid (Below.refl _ _)⟩
 case round=>
  obtain ⟨k,hk,rfl,HA,HX⟩:=hrel
  by_cases hks:k<ts.length
  ·obtain ⟨c0,c1,c2,c3,c4⟩:=(HC.out k hks).later hlt HX.out
   have hmem:ts[k] ∈ ts:=List.getElem_mem hks
   have hvk:=HV.out _ hmem
   have kc:=fun W hB=>check_any ts[k].k ts[k].w ts[k].p (bs ts[k].s) ts[k].v (by show ts[k].s.length≤_;omega) hvk.1 W hB
   rw [list_bs] at kc
   have hnext:checkT ts[k]=true→∀ t ∈ ts.take (k+1),checkT t=true:=by
    intro h t ht
    rw [List.take_succ_eq_append_getElem hks] at ht
    rcases List.mem_append.1 ht with h1 | h1
    ·exact HA.out t h1
    ·rw [List.mem_singleton.1 h1];exact h
   have hbad:checkT ts[k]=false→ts.all checkT=false:=by
    intro h
    rw [List.all_eq_false]
    exact ⟨_,hmem,by simp [h]⟩
   have HY:=hid (HX.out.alloc HX.out.size (.cells #[.int .i64 ts[k].k,.string (bs ts[k].s),.int .i64 ts[k].w,.int .u64 ts[k].v,.int .i64 ts[k].p] 55))
   have HBY:=hid (HB.out.later HY.out)
   have hceq:∀ t:Tok,checkT ⟨t.k,t.s,t.w,t.v,t.p⟩=checkT t:=fun t=>rfl
   rw [hceq] at kc
   clear hceq hvk hmem
   generalize ts[k]=t at *
   cases hct:checkT t
   ·rw [hct,show errB false=1 from rfl] at kc
    have KC:=hid kc
    have HN:=hid (hbad hct)
    clear kc hnext hbad hct
    go_wp2_with fail
    refine (KC.out _ HBY.out).mono ?_
    rintro e W2 ⟨rfl,hb2⟩
    have HZ:=hid (HY.out.trans (hb2.mono HY.out.size))
    clear hb2
    go_wp2
    rw [← HP.out]
    refine ⟨?_,HZ.out⟩
    rw [HN.out]
    rfl
   ·rw [hct,show errB true=0 from rfl] at kc
    have KC:=hid kc
    have HN:=hid (hnext hct)
    clear kc hnext hbad hct
    go_wp2_with fail
    refine (KC.out _ HBY.out).mono ?_
    rintro e W2 ⟨rfl,hb2⟩
    have HZ:=hid (HY.out.trans (hb2.mono HY.out.size))
    clear hb2
    go_wp2_with fail
    go_roundw
    case rel=>exact ⟨k+1,by omega,by go_num,HN,HZ⟩
    case measure=>simp [intOf];omega
  ·obtain rfl:k=ts.length:=by omega
   have hall:∀ t ∈ ts,checkT t=true:=by
    have:=HA.out
    rwa [List.take_length] at this
   have HAll:=hid hall
   clear hall HA
   have HX0:=hid HX.out
   go_wp2_with fail
   go_loopw [7,26] (fun u i wr=>∃ (k:Nat) (q:Option Addr) (cp:Nat) (L:List UInt8),k≤ts.length∧u=.slice q L.length cp∧i=.int .i64 k∧L.length≤65536∧Hid (L=textL (ts.take k))∧Hid (OwnB W.heap.size wr (.slice q L.length cp) L)∧Hid (Below W.heap.size W wr)) (fun _ i _=>ts.length - (intOf i).toNat)
   case atStart=>exact ⟨0,none,0,[],Nat.zero_le _,rfl,rfl,by simp,hid rfl,hid (OwnB.nil _ _),HX0⟩
   case round=>
    obtain ⟨k,q,cp,L,hk,rfl,rfl,hL,HL,HO,HX⟩:=hrel
    by_cases hks:k<ts.length
    ·obtain ⟨c0,c1,c2,c3,c4⟩:=(HC.out k hks).later hlt HX.out
     have hmem:ts[k] ∈ ts:=List.getElem_mem hks
     have hvk:=HV.out _ hmem
     have hck:=HAll.out _ hmem
     have hol:=one_len hck hvk.1
     have kw:=fun W hB=>written_any ts[k] hck hvk.1 W hB
     have hY:=HX.out.alloc HX.out.size (.cells #[.int .i64 ts[k].k,.string (bs ts[k].s),.int .i64 ts[k].w,.int .u64 ts[k].v,.int .i64 ts[k].p] 55)
     have HO2:=HO.out.later ((Below.refl _ _).alloc (Nat.le_refl _) (.cells #[.int .i64 ts[k].k,.string (bs ts[k].s),.int .i64 ts[k].w,.int .u64 ts[k].v,.int .i64 ts[k].p] 55))
     have b5:=Box5.new wr (.int .i64 ts[k].k) (.string (bs ts[k].s)) (.int .i64 ts[k].w) (.int .u64 ts[k].v) (.int .i64 ts[k].p) 55
     have hosz:(bs (oneT ts[k])).size=(oneT ts[k]).length:=rfl
     by_cases h0:k=0
     ·have hfin:L ++ oneT ts[k]=textL (ts.take (k+1)):=by
       have h1:ts.take k=[]:=by rw [h0];rfl
       rw [List.take_succ_eq_append_getElem hks,HL.out,h1];rfl
      have HF:=hid hfin
      have KW:=hid kw
      have HY:=hid hY
      have hkn:¬ (0:Int)<(k:Int):=by omega
      clear hfin kw hY hck hvk hmem h0
      generalize ts[k]=t at *
      go_wp2_with fail
      refine (KW.out _ (HB.out.later HY.out)).mono ?_
      rintro e W2 ⟨rfl,hb2⟩
      have HO3:=hid (HO2.later hb2)
      have HB3:=hid (HY.out.trans (hb2.mono HY.out.size))
      clear hb2 HO2
      obtain ⟨N,hN⟩:∃ N,(L ++ oneT t).length=N:=⟨_,rfl⟩
      by_cases hbig:65536<N
      ·have hbig':(65536:Int)<(N:Int):=by omega
       have hover:¬ (textL ts).length≤65536:=by
        have h1:=textL_take ts (k+1)
        rw [← HF.out] at h1
        omega
       have HOver:=hid hover
       clear hover hbig
       go_wp2_with (at_builtin;refine Lib.wpList_append_own_string _ rfl _ _ 44 9 rfl W.heap.size 5 i0 byteSlice strKind hi hz0 hz1 hz2 _ _ _ rfl HO3.out (bs (oneT t)) rfl (by rw [hosz];unfold maxLen;omega) (by rw [hosz];omega) HB3.out.size ?_;intro v' w3 hown hgr hnil;clear hnil;have HZ:=hid (grow_bytes (l:=oneT t) hN HO3.out HB3.out hown hgr);obtain ⟨q3,cap3,rfl⟩:=HZ.out.2.2.1;clear hown hgr)
       rw [← HP.out]
       refine ⟨?_,HZ.out.2.1⟩
       rw [if_pos (by rw [List.all_eq_true];exact HAll.out),if_neg HOver.out]
       rfl
      ·have hbig':¬ (65536:Int)<(N:Int):=by omega
       go_wp2_with (at_builtin;refine Lib.wpList_append_own_string _ rfl _ _ 44 9 rfl W.heap.size 5 i0 byteSlice strKind hi hz0 hz1 hz2 _ _ _ rfl HO3.out (bs (oneT t)) rfl (by rw [hosz];unfold maxLen;omega) (by rw [hosz];omega) HB3.out.size ?_;intro v' w3 hown hgr hnil;clear hnil;have HZ:=hid (grow_bytes (l:=oneT t) hN HO3.out HB3.out hown hgr);obtain ⟨q3,cap3,rfl⟩:=HZ.out.2.2.1;clear hown hgr)
       go_roundw
       case rel=>exact ⟨k+1,q3,cap3,L ++ oneT t,by omega,by rw [hN],by go_num,by omega,HF,hid (by rw [hN];exact HZ.out.1),hid HZ.out.2.1⟩
       case measure=>simp [intOf];omega
     ·obtain ⟨j,hjk⟩:∃ j,k=j+1:=⟨k - 1,by omega⟩
      have hjs:j<ts.length:=by omega
      have hkj:(k:Int) - 1=(j:Int):=by omega
      have hkp:(0:Int)<(k:Int):=by omega
      have d1:=((HC.out j hjs).later hlt hY).c1
      have hne:ts.take k=ts.take j ++ [ts[j]]:=by rw [hjk,List.take_succ_eq_append_getElem hjs]
      have hfin:(L ++ [sepT ts[j]]) ++ oneT ts[k]=textL (ts.take (k+1)):=by
       rw [List.take_succ_eq_append_getElem hks,HL.out,hne,List.append_assoc,List.append_assoc]
       exact (textL_snoc ts[j] ts[k] (ts.take j)).symm
      have HB5:=hid b5
      clear hne hjk h0
      have hsq:(bs ts[j].s).toList=ts[j].s:=by rw [toList_eq,list_bs]
      have hs5:sepT ts[j]=if ts[j].s=[59]∨ts[j].s=[123]∨ts[j].s=[125] then 10 else 32:=rfl
      have KW:=hid kw
      have HY:=hid hY
      clear kw hY hck hvk hmem
      generalize sepT ts[j]=sp at *
      generalize ts[j].s=sj at *
      generalize ts[k]=t at *
      rw [← hsq] at hs5
      generalize bs sj=SJ at *
      clear hsq
      by_cases t1:SJ.toList=[59]
      ·have hc:sp=10:=by rw [hs5,if_pos (.inl t1)]
       clear hs5
       subst hc
       have hfin2:=hfin
       clear hfin
       obtain ⟨M,hM⟩:∃ M,L ++ [(10:UInt8)]=M:=⟨_,rfl⟩
       have hN1:(L ++ [(10:UInt8)]).length=M.length:=by rw [hM]
       have hlm:M.length≤L.length+1:=by rw [← hM];simp
       rw [hM] at hfin2
       have HF:=hid hfin2
       have hrow:some wr.heap.size ≠ (Value.slice q L.length cp).ownBlock:=fun he=>Nat.lt_irrefl _ (World.ownsRow.lt HO.out _ he.symm).2
       have HM:=hid hM
       have HN1:=hid hN1
       clear hfin2 hM hN1
       go_wp2_with (at_builtin;refine wpList_append_own _ rfl _ _ 44 rfl W.heap.size 5 i0 (.int .u8 0) 1 1 byteSlice hi hz0 hz1 hz2 rfl (by decide) _ _ _ rfl (HO2.alloc _) ⟨wr.heap.size+1,0,none⟩ 1 1 (cellsB [10]) rfl rfl (news5 wr (.cells #[.int .i64 t.k,.string (bs t.s),.int .i64 t.w,.int .u64 t.v,.int .i64 t.p] 55) #[.int .u8 10] 5) (by simp [cellsB,Value.oneCell']) (by unfold maxLen;omega) (by omega) (by have:=HY.out.size;simp at this ⊢;omega) ?_;intro v1 w1 hown1 hgr1 hnil1;clear hnil1;have HZ1:=hid (sep_tok HN1.out HO2 HY.out HX.out.size hown1 hgr1 hrow);obtain ⟨q1,cap1,rfl⟩:=HZ1.out.2.2.1;obtain ⟨e0,e1,e2,e3,e4,_,_,_,_,_,_⟩:=HZ1.out.2.2.2 _ _ _ _ _ HB5.out;clear hown1 hgr1)
       refine (KW.out _ (HB.out.later HZ1.out.2.1)).mono ?_
       rintro e W2 ⟨rfl,hb2⟩
       have hO3:=HZ1.out.1.later hb2
       have HB3:=hid (HZ1.out.2.1.trans (hb2.mono HZ1.out.2.1.size))
       rw [HM.out] at hO3
       have HO3:=hid hO3
       clear hb2 hO3
       obtain ⟨N,hN⟩:∃ N,(M ++ oneT t).length=N:=⟨_,rfl⟩
       by_cases hbig:65536<N
       ·have hbig':(65536:Int)<(N:Int):=by omega
        have hover:¬ (textL ts).length≤65536:=by
         have h1:=textL_take ts (k+1)
         rw [← HF.out] at h1
         omega
        have HOver:=hid hover
        clear hover hbig
        go_wp2_with (at_builtin;refine Lib.wpList_append_own_string _ rfl _ _ 44 9 rfl W.heap.size 5 i0 byteSlice strKind hi hz0 hz1 hz2 _ _ _ rfl HO3.out (bs (oneT t)) rfl (by rw [hosz];unfold maxLen;omega) (by rw [hosz];omega) HB3.out.size ?_;intro v' w3 hown hgr hnil;clear hnil;have HZ:=hid (grow_bytes (l:=oneT t) hN HO3.out HB3.out hown hgr);obtain ⟨q3,cap3,rfl⟩:=HZ.out.2.2.1;clear hown hgr)
        rw [← HP.out]
        refine ⟨?_,HZ.out.2.1⟩
        rw [if_pos (by rw [List.all_eq_true];exact HAll.out),if_neg HOver.out]
        rfl
       ·have hbig':¬ (65536:Int)<(N:Int):=by omega
        go_wp2_with (at_builtin;refine Lib.wpList_append_own_string _ rfl _ _ 44 9 rfl W.heap.size 5 i0 byteSlice strKind hi hz0 hz1 hz2 _ _ _ rfl HO3.out (bs (oneT t)) rfl (by rw [hosz];unfold maxLen;omega) (by rw [hosz];omega) HB3.out.size ?_;intro v' w3 hown hgr hnil;clear hnil;have HZ:=hid (grow_bytes (l:=oneT t) hN HO3.out HB3.out hown hgr);obtain ⟨q3,cap3,rfl⟩:=HZ.out.2.2.1;clear hown hgr)
        go_roundw
        case rel=>exact ⟨k+1,q3,cap3,M ++ oneT t,by omega,by rw [hN],by go_num,by omega,HF,hid (by rw [hN];exact HZ.out.1),hid HZ.out.2.1⟩
        case measure=>simp [intOf];omega
      by_cases t2:SJ.toList=[123]
      ·have hc:sp=10:=by rw [hs5,if_pos (.inr (.inl t2))]
       clear hs5
       subst hc
       have hfin2:=hfin
       clear hfin
       obtain ⟨M,hM⟩:∃ M,L ++ [(10:UInt8)]=M:=⟨_,rfl⟩
       have hN1:(L ++ [(10:UInt8)]).length=M.length:=by rw [hM]
       have hlm:M.length≤L.length+1:=by rw [← hM];simp
       rw [hM] at hfin2
       have HF:=hid hfin2
       have hrow:some wr.heap.size ≠ (Value.slice q L.length cp).ownBlock:=fun he=>Nat.lt_irrefl _ (World.ownsRow.lt HO.out _ he.symm).2
       have HM:=hid hM
       have HN1:=hid hN1
       clear hfin2 hM hN1
       go_wp2_with (at_builtin;refine wpList_append_own _ rfl _ _ 44 rfl W.heap.size 5 i0 (.int .u8 0) 1 1 byteSlice hi hz0 hz1 hz2 rfl (by decide) _ _ _ rfl (HO2.alloc _) ⟨wr.heap.size+1,0,none⟩ 1 1 (cellsB [10]) rfl rfl (news5 wr (.cells #[.int .i64 t.k,.string (bs t.s),.int .i64 t.w,.int .u64 t.v,.int .i64 t.p] 55) #[.int .u8 10] 5) (by simp [cellsB,Value.oneCell']) (by unfold maxLen;omega) (by omega) (by have:=HY.out.size;simp at this ⊢;omega) ?_;intro v1 w1 hown1 hgr1 hnil1;clear hnil1;have HZ1:=hid (sep_tok HN1.out HO2 HY.out HX.out.size hown1 hgr1 hrow);obtain ⟨q1,cap1,rfl⟩:=HZ1.out.2.2.1;obtain ⟨e0,e1,e2,e3,e4,_,_,_,_,_,_⟩:=HZ1.out.2.2.2 _ _ _ _ _ HB5.out;clear hown1 hgr1)
       refine (KW.out _ (HB.out.later HZ1.out.2.1)).mono ?_
       rintro e W2 ⟨rfl,hb2⟩
       have hO3:=HZ1.out.1.later hb2
       have HB3:=hid (HZ1.out.2.1.trans (hb2.mono HZ1.out.2.1.size))
       rw [HM.out] at hO3
       have HO3:=hid hO3
       clear hb2 hO3
       obtain ⟨N,hN⟩:∃ N,(M ++ oneT t).length=N:=⟨_,rfl⟩
       by_cases hbig:65536<N
       ·have hbig':(65536:Int)<(N:Int):=by omega
        have hover:¬ (textL ts).length≤65536:=by
         have h1:=textL_take ts (k+1)
         rw [← HF.out] at h1
         omega
        have HOver:=hid hover
        clear hover hbig
        go_wp2_with (at_builtin;refine Lib.wpList_append_own_string _ rfl _ _ 44 9 rfl W.heap.size 5 i0 byteSlice strKind hi hz0 hz1 hz2 _ _ _ rfl HO3.out (bs (oneT t)) rfl (by rw [hosz];unfold maxLen;omega) (by rw [hosz];omega) HB3.out.size ?_;intro v' w3 hown hgr hnil;clear hnil;have HZ:=hid (grow_bytes (l:=oneT t) hN HO3.out HB3.out hown hgr);obtain ⟨q3,cap3,rfl⟩:=HZ.out.2.2.1;clear hown hgr)
        rw [← HP.out]
        refine ⟨?_,HZ.out.2.1⟩
        rw [if_pos (by rw [List.all_eq_true];exact HAll.out),if_neg HOver.out]
        rfl
       ·have hbig':¬ (65536:Int)<(N:Int):=by omega
        go_wp2_with (at_builtin;refine Lib.wpList_append_own_string _ rfl _ _ 44 9 rfl W.heap.size 5 i0 byteSlice strKind hi hz0 hz1 hz2 _ _ _ rfl HO3.out (bs (oneT t)) rfl (by rw [hosz];unfold maxLen;omega) (by rw [hosz];omega) HB3.out.size ?_;intro v' w3 hown hgr hnil;clear hnil;have HZ:=hid (grow_bytes (l:=oneT t) hN HO3.out HB3.out hown hgr);obtain ⟨q3,cap3,rfl⟩:=HZ.out.2.2.1;clear hown hgr)
        go_roundw
        case rel=>exact ⟨k+1,q3,cap3,M ++ oneT t,by omega,by rw [hN],by go_num,by omega,HF,hid (by rw [hN];exact HZ.out.1),hid HZ.out.2.1⟩
        case measure=>simp [intOf];omega
      by_cases t3:SJ.toList=[125]
      ·have hc:sp=10:=by rw [hs5,if_pos (.inr (.inr t3))]
       clear hs5
       subst hc
       have hfin2:=hfin
       clear hfin
       obtain ⟨M,hM⟩:∃ M,L ++ [(10:UInt8)]=M:=⟨_,rfl⟩
       have hN1:(L ++ [(10:UInt8)]).length=M.length:=by rw [hM]
       have hlm:M.length≤L.length+1:=by rw [← hM];simp
       rw [hM] at hfin2
       have HF:=hid hfin2
       have hrow:some wr.heap.size ≠ (Value.slice q L.length cp).ownBlock:=fun he=>Nat.lt_irrefl _ (World.ownsRow.lt HO.out _ he.symm).2
       have HM:=hid hM
       have HN1:=hid hN1
       clear hfin2 hM hN1
       go_wp2_with (at_builtin;refine wpList_append_own _ rfl _ _ 44 rfl W.heap.size 5 i0 (.int .u8 0) 1 1 byteSlice hi hz0 hz1 hz2 rfl (by decide) _ _ _ rfl (HO2.alloc _) ⟨wr.heap.size+1,0,none⟩ 1 1 (cellsB [10]) rfl rfl (news5 wr (.cells #[.int .i64 t.k,.string (bs t.s),.int .i64 t.w,.int .u64 t.v,.int .i64 t.p] 55) #[.int .u8 10] 5) (by simp [cellsB,Value.oneCell']) (by unfold maxLen;omega) (by omega) (by have:=HY.out.size;simp at this ⊢;omega) ?_;intro v1 w1 hown1 hgr1 hnil1;clear hnil1;have HZ1:=hid (sep_tok HN1.out HO2 HY.out HX.out.size hown1 hgr1 hrow);obtain ⟨q1,cap1,rfl⟩:=HZ1.out.2.2.1;obtain ⟨e0,e1,e2,e3,e4,_,_,_,_,_,_⟩:=HZ1.out.2.2.2 _ _ _ _ _ HB5.out;clear hown1 hgr1)
       refine (KW.out _ (HB.out.later HZ1.out.2.1)).mono ?_
       rintro e W2 ⟨rfl,hb2⟩
       have hO3:=HZ1.out.1.later hb2
       have HB3:=hid (HZ1.out.2.1.trans (hb2.mono HZ1.out.2.1.size))
       rw [HM.out] at hO3
       have HO3:=hid hO3
       clear hb2 hO3
       obtain ⟨N,hN⟩:∃ N,(M ++ oneT t).length=N:=⟨_,rfl⟩
       by_cases hbig:65536<N
       ·have hbig':(65536:Int)<(N:Int):=by omega
        have hover:¬ (textL ts).length≤65536:=by
         have h1:=textL_take ts (k+1)
         rw [← HF.out] at h1
         omega
        have HOver:=hid hover
        clear hover hbig
        go_wp2_with (at_builtin;refine Lib.wpList_append_own_string _ rfl _ _ 44 9 rfl W.heap.size 5 i0 byteSlice strKind hi hz0 hz1 hz2 _ _ _ rfl HO3.out (bs (oneT t)) rfl (by rw [hosz];unfold maxLen;omega) (by rw [hosz];omega) HB3.out.size ?_;intro v' w3 hown hgr hnil;clear hnil;have HZ:=hid (grow_bytes (l:=oneT t) hN HO3.out HB3.out hown hgr);obtain ⟨q3,cap3,rfl⟩:=HZ.out.2.2.1;clear hown hgr)
        rw [← HP.out]
        refine ⟨?_,HZ.out.2.1⟩
        rw [if_pos (by rw [List.all_eq_true];exact HAll.out),if_neg HOver.out]
        rfl
       ·have hbig':¬ (65536:Int)<(N:Int):=by omega
        go_wp2_with (at_builtin;refine Lib.wpList_append_own_string _ rfl _ _ 44 9 rfl W.heap.size 5 i0 byteSlice strKind hi hz0 hz1 hz2 _ _ _ rfl HO3.out (bs (oneT t)) rfl (by rw [hosz];unfold maxLen;omega) (by rw [hosz];omega) HB3.out.size ?_;intro v' w3 hown hgr hnil;clear hnil;have HZ:=hid (grow_bytes (l:=oneT t) hN HO3.out HB3.out hown hgr);obtain ⟨q3,cap3,rfl⟩:=HZ.out.2.2.1;clear hown hgr)
        go_roundw
        case rel=>exact ⟨k+1,q3,cap3,M ++ oneT t,by omega,by rw [hN],by go_num,by omega,HF,hid (by rw [hN];exact HZ.out.1),hid HZ.out.2.1⟩
        case measure=>simp [intOf];omega
      ·have hc:sp=32:=by rw [hs5,if_neg (fun h=>h.elim t1 fun h=>h.elim t2 t3)]
       have y1:(SJ.toList == [59])=false:=by simpa using t1
       have y2:(SJ.toList == [123])=false:=by simpa using t2
       have y3:(SJ.toList == [125])=false:=by simpa using t3
       clear hs5
       subst hc
       have hfin2:=hfin
       clear hfin
       obtain ⟨M,hM⟩:∃ M,L ++ [(32:UInt8)]=M:=⟨_,rfl⟩
       have hN1:(L ++ [(32:UInt8)]).length=M.length:=by rw [hM]
       have hlm:M.length≤L.length+1:=by rw [← hM];simp
       rw [hM] at hfin2
       have HF:=hid hfin2
       have hrow:some wr.heap.size ≠ (Value.slice q L.length cp).ownBlock:=fun he=>Nat.lt_irrefl _ (World.ownsRow.lt HO.out _ he.symm).2
       have HM:=hid hM
       have HN1:=hid hN1
       clear hfin2 hM hN1
       go_wp2_with (at_builtin;refine wpList_append_own _ rfl _ _ 44 rfl W.heap.size 5 i0 (.int .u8 0) 1 1 byteSlice hi hz0 hz1 hz2 rfl (by decide) _ _ _ rfl (HO2.alloc _) ⟨wr.heap.size+1,0,none⟩ 1 1 (cellsB [32]) rfl rfl (news5 wr (.cells #[.int .i64 t.k,.string (bs t.s),.int .i64 t.w,.int .u64 t.v,.int .i64 t.p] 55) #[.int .u8 32] 5) (by simp [cellsB,Value.oneCell']) (by unfold maxLen;omega) (by omega) (by have:=HY.out.size;simp at this ⊢;omega) ?_;intro v1 w1 hown1 hgr1 hnil1;clear hnil1;have HZ1:=hid (sep_tok HN1.out HO2 HY.out HX.out.size hown1 hgr1 hrow);obtain ⟨q1,cap1,rfl⟩:=HZ1.out.2.2.1;obtain ⟨e0,e1,e2,e3,e4,_,_,_,_,_,_⟩:=HZ1.out.2.2.2 _ _ _ _ _ HB5.out;clear hown1 hgr1)
       refine (KW.out _ (HB.out.later HZ1.out.2.1)).mono ?_
       rintro e W2 ⟨rfl,hb2⟩
       have hO3:=HZ1.out.1.later hb2
       have HB3:=hid (HZ1.out.2.1.trans (hb2.mono HZ1.out.2.1.size))
       rw [HM.out] at hO3
       have HO3:=hid hO3
       clear hb2 hO3
       obtain ⟨N,hN⟩:∃ N,(M ++ oneT t).length=N:=⟨_,rfl⟩
       by_cases hbig:65536<N
       ·have hbig':(65536:Int)<(N:Int):=by omega
        have hover:¬ (textL ts).length≤65536:=by
         have h1:=textL_take ts (k+1)
         rw [← HF.out] at h1
         omega
        have HOver:=hid hover
        clear hover hbig
        go_wp2_with (at_builtin;refine Lib.wpList_append_own_string _ rfl _ _ 44 9 rfl W.heap.size 5 i0 byteSlice strKind hi hz0 hz1 hz2 _ _ _ rfl HO3.out (bs (oneT t)) rfl (by rw [hosz];unfold maxLen;omega) (by rw [hosz];omega) HB3.out.size ?_;intro v' w3 hown hgr hnil;clear hnil;have HZ:=hid (grow_bytes (l:=oneT t) hN HO3.out HB3.out hown hgr);obtain ⟨q3,cap3,rfl⟩:=HZ.out.2.2.1;clear hown hgr)
        rw [← HP.out]
        refine ⟨?_,HZ.out.2.1⟩
        rw [if_pos (by rw [List.all_eq_true];exact HAll.out),if_neg HOver.out]
        rfl
       ·have hbig':¬ (65536:Int)<(N:Int):=by omega
        go_wp2_with (at_builtin;refine Lib.wpList_append_own_string _ rfl _ _ 44 9 rfl W.heap.size 5 i0 byteSlice strKind hi hz0 hz1 hz2 _ _ _ rfl HO3.out (bs (oneT t)) rfl (by rw [hosz];unfold maxLen;omega) (by rw [hosz];omega) HB3.out.size ?_;intro v' w3 hown hgr hnil;clear hnil;have HZ:=hid (grow_bytes (l:=oneT t) hN HO3.out HB3.out hown hgr);obtain ⟨q3,cap3,rfl⟩:=HZ.out.2.2.1;clear hown hgr)
        go_roundw
        case rel=>exact ⟨k+1,q3,cap3,M ++ oneT t,by omega,by rw [hN],by go_num,by omega,HF,hid (by rw [hN];exact HZ.out.1),hid HZ.out.2.1⟩
        case measure=>simp [intOf];omega
    ·obtain rfl:k=ts.length:=by omega
     go_wp2_with fail
     rw [← HP.out]
     refine ⟨?_,HX.out⟩
     have hLt:=HL.out
     rw [List.take_length] at hLt
     subst hLt
     rw [if_pos (by rw [List.all_eq_true];exact HAll.out),if_pos hL]
     exact ⟨_,rfl,HO.out⟩
theorem text_empty (p:Option Addr) (c:Nat) (W:World) :
  Calls Tryz.prog 127 #[.slice p 0 c] W (TextPost W []):=by
 have hdef:∀ e W',(TextPost W [] e W' ↔ TextPost W [] e W'):=fun _ _=>Iff.rfl
 generalize hP:TextPost W []=P at hdef ⊢
 have HP:=hid hP
 clear hdef hP
 go_enter Tryz.func127,Tryz.ntmps127
 go_wp2
 refine wp_loop_rounds 1 ?_
 rw [rounds_succ]
 go_wp2
 refine wp_loop_rounds 1 ?_
 rw [rounds_succ]
 go_wp2
 rw [← HP.out]
 exact ⟨⟨_,rfl,OwnB.nil _ _⟩,Below.refl _ _⟩
theorem text_any (v:Value) (ts:List Tok) (hl:ts.length≤140737488351232) (W:World) (ht:Toks W v ts) (hv:∀ t ∈ ts,t.v<two64∧t.s.length≤140737488355328) (hB:Base W) :
  Calls Tryz.prog 127 #[v] W (TextPost W ts):=by
 rcases ht with ⟨rfl,p,c,rfl⟩ | ⟨b,off,cap,rfl,hlt,hc⟩
 ·exact text_empty p c W
 ·exact text_some b off cap ts hl W hlt hc hv hB
end Go.Proofs.YtlcfpdmicpggbaaGreatDoor
namespace Go.Proofs.Scn
open Go.Lib (hid)
def Right (i:Nat) (l:List UInt8):List Tok→Prop
 | []=>True
 | t :: ts=>∃ d,t.p=((i+d:Nat):Int)∧d<l.length∧checkT t=true∧t.v<two64∧t.s.length≤l.length - d∧(t.k ≠ 3→(l.drop d).take t.s.length=t.s)∧(t.k=3→isDigit ((l.drop d).headD 0)=true∧t.s=[]) ∧
   Right (i+d+max t.s.length 1) (l.drop (d+max t.s.length 1)) ts
theorem Right.all {i:Nat} {l:List UInt8}:∀ {ts:List Tok},Right i l ts→∀ t ∈ ts,checkT t=true∧t.v<two64
 | [],_,t,h=>by simp at h
 | u :: ts,⟨d,h1,h2,h3,h4,h5,h6,h7,h8⟩,t,h=>by
  rcases List.mem_cons.1 h with rfl | h
  ·exact ⟨h3,h4⟩
  ·exact h8.all t h
end Go.Proofs.Scn
namespace Go.Proofs.YtlcfpdmicpggbaaGreatDoor
open Go.Lib (hid)
open Go.RowKit Go.Proofs.Scn Go.Flow Go.Sort
theorem conv_bytes (w:World) (s:ByteArray) (c:Nat):Bytes (Lib.bytesWorld w 5 s) (.slice (some ⟨w.heap.size,0,none⟩) s.size c) s:=by
 refine .inr ⟨w.heap.size,0,c,rfl,by rw [Lib.bytesWorld_size];omega,fun k hk=>?_⟩
 rw [Nat.zero_add,Lib.bytesWorld_cell w 5 s k hk]
 have:s.data.toList.getD k 0=s[k]:=by
  have h':k<s.data.toList.length:=hk
  simp [List.getD_eq_getElem?_getD,List.getElem?_eq_getElem h']
  rfl
 rw [this]
def Src (w:World) (v:Value) (l:List UInt8):Prop:=
 (v=.slice none 0 0∧l=[])∨∃ ad c,v=.slice (some ad) l.length c∧∀ j u,(cellsB l)[j]?=some u→w.cell? (ad.add j)=some u
theorem Src.of_bytes {w:World} {v:Value} {s:ByteArray} (h:Bytes w v s) (hv:v=.slice none 0 0∨∃ ad l c,v=.slice (some ad) l c):Src w v s.data.toList:=by
 rcases h with ⟨h0,p,cap,rfl⟩ | ⟨b,off,cap,rfl,hlt,hc⟩
 ·have hl:s.data.toList=[]:=List.eq_nil_of_length_eq_zero h0
  rcases hv with hv | ⟨ad,l,c,hv⟩
  ·exact .inl ⟨hv,hl⟩
  ·refine .inr ⟨ad,c,by rw [hv,hl];simp at hv ⊢;omega,fun j u hu=>?_⟩
   rw [hl] at hu
   simp [cellsB] at hu
 ·refine .inr ⟨⟨b,off,none⟩,cap,rfl,fun j u hu=>?_⟩
  have hj:j<s.size:=by
   rcases Nat.lt_or_ge j s.size with h | h
   ·exact h
   ·rw [List.getElem?_eq_none (by rw [cellsB_length];exact h)] at hu;cases hu
  have:(⟨b,off,none⟩:Addr).add j=⟨b,off+j,none⟩:=by simp [Addr.add]
  rw [this,hc j hj]
  have hj':j<s.data.toList.length:=hj
  rw [cellsB,List.getElem?_map,List.getElem?_eq_getElem hj'] at hu
  exact hu
theorem Src.later {w w':World} {v:Value} {s:ByteArray} (h:Bytes w v s) (hv:v=.slice none 0 0∨∃ ad l c,v=.slice (some ad) l c) (hb:Below w.heap.size w w'):Src w' v s.data.toList:=Src.of_bytes (h.later hb) hv
end Go.Proofs.YtlcfpdmicpggbaaGreatDoor
namespace Go.Proofs.Spl
open Go.Lib (hid)
open Go Go.RowKit
variable {F:Fence} {n:Nat} {P:Program} {α:Type}
def AbidesM (J:(Nat→Prop)→List α→World→Prop):Prop:=
 ∀ M M' s W W' row,J M s W→W.grownBy W' row→(∀ r,row=some r→M r)→(∀ r,M' r→M r∨(W.heap.size≤r∧r<W'.heap.size))→J M' s W'
structure Keeps (M:Nat→Prop) (W W':World):Prop where
 size:W.heap.size≤W'.heap.size
 same:∀ r,M r→r<W.heap.size→W'.heap[r]?=W.heap[r]?
theorem Keeps.refl (M:Nat→Prop) (W:World):Keeps M W W:=⟨Nat.le_refl _,fun _ _ _=>rfl⟩
theorem Keeps.trans {M:Nat→Prop} {X Y Z:World} (h:Keeps M X Y) (k:Keeps M Y Z):Keeps M X Z:=
 ⟨Nat.le_trans h.size k.size,fun r hr hl=>(k.same r hr (Nat.lt_of_lt_of_le hl h.size)).trans (h.same r hr hl)⟩
theorem Keeps.of {M:Nat→Prop} {W W':World} {row:Option Nat} (hg:W.grownBy W' row) (hr:∀ r,row=some r → ¬ M r):Keeps M W W':=
 ⟨hg.size,fun r ht hl=>hg.block r hl (fun e=>hr r e.symm ht)⟩
theorem Keeps.less {M M':Nat→Prop} {W W':World} (h:Keeps M W W') (hs:∀ r,M' r→M r):Keeps M' W W':=
 ⟨h.size,fun r hr hl=>h.same r (hs r hr) hl⟩
theorem AbidesM.put {J:(Nat→Prop)→List α→World→Prop} (h:AbidesM J) {M:Nat→Prop} {s:List α} {W:World} {l:Nat} (o:Obj) (hs:J M s W) (hl:M l):J M s (W.putObj l o):=
 h M M s W _ (some l) hs (grownBy_putObj' W l o) (fun r e=>by cases e;exact hl) (fun r h=>.inl h)
theorem AbidesM.less {J:(Nat→Prop)→List α→World→Prop} (h:AbidesM J) {M M':Nat→Prop} {s:List α} {W:World} (hs:J M s W) (hl:∀ r,M' r→M r):J M' s W:=
 h M M' s W W none hs ⟨rfl,rfl,rfl,Nat.le_refl _,fun _ _ _=>rfl⟩ (fun r e=>by cases e) (fun r h=>.inl (hl r h))
structure KeptL (lo:Nat) (w V:World):Prop where
 size:w.heap.size≤V.heap.size
 same:∀ r,lo≤r→r<w.heap.size→V.heap[r]?=w.heap[r]?
theorem KeptL.refl (lo:Nat) (w:World):KeptL lo w w:=⟨Nat.le_refl _,fun _ _ _=>rfl⟩
theorem KeptL.trans {lo:Nat} {a b c:World} (h:KeptL lo a b) (k:KeptL lo b c):KeptL lo a c:=
 ⟨Nat.le_trans h.size k.size,fun r hr hl=>(k.same r hr (Nat.lt_of_lt_of_le hl h.size)).trans (h.same r hr hl)⟩
theorem KeptL.of_below {lo:Nat} {a b:World} (h:Below a.heap.size a b):KeptL lo a b:=⟨h.size,fun r _ hl=>h.block r hl⟩
theorem KeptL.mono {lo lo':Nat} {a b:World} (h:KeptL lo a b) (hl:lo≤lo'):KeptL lo' a b:=⟨h.size,fun r hr hk=>h.same r (Nat.le_trans hl hr) hk⟩
theorem KeptL.of_grown {lo:Nat} {a b:World} {row:Option Nat} (h:a.grownBy b row) (hr:∀ r,row=some r→r<lo):KeptL lo a b:=
 ⟨h.size,fun r hl hk=>h.block r hk (fun e=>by have:=hr r e.symm;omega)⟩
theorem KeptL.box {lo:Nat} {w w':World} {B:Nat} {t:TypeId} {v:Value} (h:Boxed w B t v) (hb:KeptL lo w w') (hl:lo≤B):Boxed w' B t v:=(hb.same B hl (Array.getElem?_eq_some_iff.1 h).1).trans h
theorem KeptL.cell {lo:Nat} {w w':World} (hb:KeptL lo w w') {p:Addr} (hl:lo≤p.block) (hw:p.block<w.heap.size):w'.cell? p=w.cell? p:=World.cell?_of_block (hb.same p.block hl hw)
def SeqM (P:Program) (g:Nat) (lb:Array Value) (enc:α→Value) (lo:Nat) (w0:World) (xs:List α):Prop:=
 ∀ (n l:Nat) (J:(Nat→Prop)→List α→World→Prop) (M0:Nat→Prop) (W:World),1≤n→AbidesM J→(∀ M s V,J M s V→KeptL lo w0 V)→J M0 [] W →
  (∀ M pre x V,J M pre V→(∃ r,xs=pre ++ x :: r)→YieldAt Fence.wide n P l #[enc x] V fun e V'=>e=.returned (.bool true)∧J M (pre ++ [x]) V'∧Keeps M V V') →
  CallsIn Fence.wide n P g (#[.func (.yield l) #[] #[]] ++ lb) W fun e W'=>(∃ v,e=.returned v)∧∃ M,J M xs W'
def IsSeq (P:Program) (enc:α→Value) (lo:Nat) (w:World) (f:Value) (xs:List α):Prop:=
 ∃ g lb,f=.func (.func g) #[] lb∧(∀ args w,(callFunc g args).run P w=.ok (.enter g args) w)∧SeqM P g lb enc lo w xs
theorem SeqM.later {g:Nat} {lb:Array Value} {enc:α→Value} {lo lo':Nat} {w w':World} {xs:List α} (h:SeqM P g lb enc lo w xs) (hl:lo'≤lo) (hb:KeptL lo w w'):SeqM P g lb enc lo' w' xs:=
 fun n l J M0 W hn hJ hB h0 hY=>h n l J M0 W hn hJ (fun M s V hj=>hb.trans ((hB M s V hj).mono hl)) h0 hY
theorem IsSeq.later {enc:α→Value} {lo lo':Nat} {w w':World} {f:Value} {xs:List α} (h:IsSeq P enc lo w f xs) (hl:lo'≤lo) (hb:KeptL lo w w'):IsSeq P enc lo' w' f xs:=by
 obtain ⟨g,lb,h1,h2,h3⟩:=h
 exact ⟨g,lb,h1,h2,h3.later hl hb⟩
theorem room_none {F:Fence} (hd:F.depth=none) (k:Nat):F.room k:=fun d h=>by rw [hd] at h;cases h
theorem yieldAt_depth {F:Fence} (hd:F.depth=none) {m:Nat} (m':Nat) {l:Nat} {args:Array Value} {W:World} {R:Ending→World→Prop} (h:YieldAt F m P l args W R):YieldAt F m' P l args W R:=by
 obtain ⟨fn,tmps,assign,body,hy,hR⟩:=h
 exact ⟨fn,tmps,assign,body,hy,hR.1,fun c cs _=>hR.2 c cs (room_none hd _)⟩
def with2 (M:Nat→Prop) (b:Nat) (r:Nat):Prop:=M r∨r=b∨r=b+1
theorem wpIn_rangeFunc_m {g:Operand} {ps:Array Tmp} {assign body:Code} {Q:Exit→Act→World→Prop} {a:Act} {w:World} {p:Tmp}
  (h1:1≤n) {gf:Nat} {lb:Array Value} (hg:a.eval g=.func (.func gf) #[] lb) (eg:∀ args w,(callFunc gf args).run P w=.ok (.enter gf args) w)
  {enc:α→Value} {xs:List α} {lo:Nat} {w0:World} (hseq:SeqM P gf lb enc lo w0 xs) (hps:ps=#[p]) (hn:1≤n - 1)
  (I:(Nat→Prop)→List α→World→Prop) (hI:AbidesM I) (hB:∀ M s V,I M s V→KeptL lo w0 V)
  (M0:Nat→Prop) (hM0:∀ r,M0 r→r<w.heap.size) (h0:I M0 [] w) (A:(Nat→Prop)→List α→α→Act→World→Prop) (hA:∀ M pre x a' W r o,A M pre x a' W→M r→A M pre x a' (W.putObj r o))
  (hassign:∀ (l:Nat) (M:Nat→Prop) (pre:List α) (x:α) (W:World) (K:Act→World→Prop),I M pre W→(∃ r,xs=pre ++ x :: r)→(∀ r,M r→r<W.heap.size)→(∀ a' W',A M pre x a' W'→Keeps M W W'→K a' W') →
   assign.wpIn (Fence.wide.inRound l) (n - 1) P (Exit.then K (fun _ _ _=>False)) { tmps:=(#[p].zip #[enc x]).foldl (fun t (p,v)=>t.setIfInBounds p v) a.tmps,defers:=[] } W)
  (hbody:∀ (l:Nat) (M:Nat→Prop) (pre:List α) (x:α) (a':Act) (W:World),A M pre x a' W →
   body.wpIn (Fence.wide.inRound l) (n - 1) P (fun e _ W'=>e=.normal∧I M (pre ++ [x]) W'∧Keeps M W W') a' W)
  (hdone:∀ (D:Nat) (M:Nat→Prop) (W:World),I M xs W→W.heap[D]?=some (.deferred (some []))→M D→w.heap.size≤D→(∀ r,M0 r→M r)→Q .normal { a with defers:={ target:=.collected D,args:=#[] } :: a.defers } W) :
  (Code.rangeFunc g ps assign body).wpIn Fence.wide n P Q a w:=by
 subst hps
 refine wpIn_rangeFunc ?_
 intro fn hfn
 rw [show Fence.wide.round=none from rfl]
 obtain ⟨rec,hrec⟩:∃ rec:LoopState→Option Code→Loop,rec=fun st pe=>{ state:=st,pending:=pe,fn,tmps:=a.tmps,params:=#[p],assign,body,defers:=w.heap.size }:=⟨_,rfl⟩
 obtain ⟨W1,hW1⟩:∃ W1,(w.alloc (.deferred (some []))).alloc (.loop (rec .ready none))=W1:=⟨_,rfl⟩
 obtain ⟨b,hb⟩:∃ b,w.heap.size=b:=⟨_,rfl⟩
 have hsz:W1.heap.size=b+2:=by rw [← hW1,← hb];simp
 have hL1:W1.heap[b+1]?=some (.loop (rec .ready none)):=by
  rw [← hW1,← hb];have:=World.alloc_heap_new (w.alloc (.deferred (some []))) (.loop (rec .ready none));rwa [World.size_alloc] at this
 have hD1:W1.heap[b]?=some (.deferred (some [])):=by
  rw [← hW1,← hb];exact (Below.heap_alloc _ _ _ (by simp)).trans (World.alloc_heap_new w _)
 refine ⟨b+1,[{ target:=.collected b,args:=#[] }],W1,{ target:=.fn (.func gf) lb,args:=#[.func (.yield (b+1)) #[] #[]] },W1,gf,#[.func (.yield (b+1)) #[] #[]] ++ lb,W1,?_,?_,?_,?_,fun _=>h1,?_⟩
 ·rw [← hW1,hrec,← hb];exact run_enterLoop_outer _ _ _ _ _
 ·simp only [resolve,hg]
  simp [go_sem]
 ·intro f' hf';trivial
 ·simp [invoke,go_sem,eg]
 have hg1:w.grownBy W1 none:=by
  rw [← hW1]
  refine ⟨rfl,rfl,rfl,by simp;omega,fun k hk _=>?_⟩
  rw [Below.heap_alloc _ _ _ (by simp;omega),Below.heap_alloc _ _ _ hk]
 have h01:I (with2 M0 b) [] W1:=hI M0 _ [] w W1 none h0 hg1 (fun r e=>by cases e) (fun r h=>by
  rcases h with h | h | h
  ·exact .inl h
  ·exact .inr ⟨by omega,by omega⟩
  ·exact .inr ⟨by omega,by omega⟩)
 obtain ⟨J,hJd⟩:∃ J:(Nat→Prop)→List α→World→Prop,J=fun M s V=>(∀ r,M r→r ≠ b∧r ≠ b+1)∧(∀ r,M r→r<V.heap.size)∧b+2≤V.heap.size∧I (fun r=>M r∨with2 M0 b r) s V∧V.heap[b+1]?=some (.loop (rec .ready none))∧V.heap[b]?=some (.deferred (some [])):=⟨_,rfl⟩
 have hJ:AbidesM J:=by
  rw [hJd]
  rintro M M' s V V' row ⟨k0,k4,k5,k1,k2,k3⟩ hgr hr hM
  have lt1:=(Array.getElem?_eq_some_iff.1 k2).1
  have lt2:=(Array.getElem?_eq_some_iff.1 k3).1
  have hgs:=hgr.size
  refine ⟨fun r h=>?_,fun r h=>?_,by omega,?_,?_,?_⟩
  ·rcases hM r h with h | h
   ·exact k0 r h
   ·omega
  ·rcases hM r h with h | h
   ·have:=k4 r h;omega
   ·exact h.2
  ·refine hI _ _ s V V' row k1 hgr (fun r e=>.inl (hr r e)) (fun r h=>?_)
   rcases h with h | h
   ·rcases hM r h with h | h
    ·exact .inl (.inl h)
    ·exact .inr h
   ·exact .inl (.inr h)
  ·exact (hgr.block _ lt1 (fun e=>(k0 _ (hr _ e.symm)).2 rfl)).trans k2
  ·exact (hgr.block _ lt2 (fun e=>(k0 _ (hr _ e.symm)).1 rfl)).trans k3
 refine (hseq (n - 1) (b+1) J (fun _=>False) W1 hn hJ (fun M s V h=>by rw [hJd] at h;exact hB _ s V h.2.2.2.1) ?_ ?_).mono ?_
 ·rw [hJd]
  exact ⟨fun r h=>h.elim,fun r h=>h.elim,by omega,hI.less h01 (fun r h=>h.elim False.elim id),hL1,hD1⟩
 ·intro M pre x V hj hpre
  rw [hJd] at hj ⊢
  obtain ⟨k0,k4,k5,hi,hl,hd⟩:=hj
  have lt1:=(Array.getElem?_eq_some_iff.1 hl).1
  have lt2:=(Array.getElem?_eq_some_iff.1 hd).1
  have hy:=run_yield (P:=P) (args:=#[enc x]) hl (by rw [hrec];rfl)
  rw [hrec] at hy
  refine ⟨fn,_,assign,body,hy,roundIn_of_wpIn hfn (hassign (b+1) _ pre x V _ hi hpre ?_ ?_)⟩
  ·rintro r (h | h | h | h)
   ·exact k4 r h
   ·have:=hM0 r h;omega
   ·omega
   ·omega
  intro a' V' hA' hk'
  have hs':=hk'.size
  have hl':=(hk'.same (b+1) (.inr (.inr (.inr rfl))) lt1).trans hl
  have hd':=(hk'.same b (.inr (.inr (.inl rfl))) lt2).trans hd
  clear hy
  refine ⟨_,run_beginRound hl' (by rw [hrec]),?_⟩
  obtain ⟨V2,hV2⟩:∃ V2,V2=V'.putObj (b+1) (.loop { rec .ready none with state:=.busy }):=⟨_,rfl⟩
  have hl2:V2.heap[b+1]?=some (.loop { rec .ready none with state:=.busy }):=by rw [hV2];exact World.putObj_heap_same (by omega)
  have hd2:V2.heap[b]?=some (.deferred (some [])):=by rw [hV2];exact (World.putObj_heap_other (by omega)).trans hd'
  have hv2:Keeps M V V2:=by rw [hV2];exact (hk'.less fun r h=>.inl h).trans (Keeps.of (grownBy_putObj' V' (b+1) _) (fun r e h=>by cases e;exact (k0 _ h).2 rfl))
  have hs2:=hv2.size
  rw [← hV2]
  refine wpIn_mono (hbody _ _ pre x a' V2 (by rw [hV2];exact hA _ _ _ _ _ _ _ hA' (.inr (.inr (.inr rfl))))) ?_
  rintro e a3 V3 ⟨rfl,hi3,hk3⟩
  have hl3:=(hk3.same (b+1) (.inr (.inr (.inr rfl))) (by omega)).trans hl2
  have hd3:=(hk3.same b (.inr (.inr (.inl rfl))) (by omega)).trans hd2
  have hs3:=hk3.size
  have hr:=run_endRound (P:=P) none hl3
  rw [hrec] at hr hl3 ⊢
  refine ⟨_,_,hr,rfl,⟨k0,fun r h=>?_,by simp;omega,hI.put _ hi3 (.inr (.inr (.inr rfl))),World.putObj_heap_same (by omega),(World.putObj_heap_other (by omega)).trans hd3⟩,?_⟩
  ·have:=k4 r h
   simp;omega
  exact (hv2.trans (hk3.less fun r h=>.inl h)).trans (Keeps.of (grownBy_putObj' V3 (b+1) _) (fun r e h=>by cases e;exact (k0 _ h).2 rfl))
 ·rintro e W2 ⟨⟨v,rfl⟩,M,hj⟩
  rw [hJd] at hj
  obtain ⟨k0,k4,k5,hi,hl,hd⟩:=hj
  refine ⟨none,_,by have:=run_endLoop (P:=P) hl (by rw [hrec];simp);rw [hrec] at this;exact this,?_⟩
  exact hdone b _ _ (hI.put _ hi (.inr (.inr (.inr rfl)))) ((World.putObj_heap_other (by omega)).trans hd) (.inr (.inr (.inl rfl))) (by omega) (fun r h=>.inr (.inl h))
def markD (D:Nat):Deferred:={ target:=.collected D,args:=#[] }
theorem leaves_marks {fn:Func} {tmps:Array Value} {R:Ending→World→Prop} (K:World→Prop) (hfin:∀ W,K W→LeavesInM F n P fn tmps R [] .returning W) :
  ∀ (ds:List Nat) (W:World),ds.Nodup→(∀ D ∈ ds,W.heap[D]?=some (.deferred (some [])))→(∀ D ∈ ds,∀ V o,K V→K (V.putObj D o))→K W→LeavesInM F n P fn tmps R (ds.map markD) .returning W
 | [],W,_,_,_,h=>hfin W h
 | D :: ds,W,hn,hd,hK,h=>by
  refine ⟨by simp,.inl ⟨D,_,rfl,run_takeDeferred (hd D (List.mem_cons_self ..)),?_⟩⟩
  rw [List.nodup_cons] at hn
  refine leaves_marks K hfin ds _ hn.2 (fun E hE=>?_) (fun E hE=>hK E (List.mem_cons_of_mem _ hE)) (hK D (List.mem_cons_self ..) _ _ h)
  rw [World.putObj_heap_other (fun e=>hn.1 (by rw [← e];exact hE))]
  exact hd E (List.mem_cons_of_mem _ hE)
end Go.Proofs.Spl
namespace Go.Grow
open Go.Lib (hid)
open Go Go.RowKit
def slotOf (a:Act):Option Tmp→Value
 | some d=>a.tmps.getD d undef
 | none=>undef
theorem slot_put_same {a:Act} {d:Nat} {v:Value} (h:d<a.tmps.size):(a.put (some d) v).tmps.getD d undef=v:=by
 simp [Act.put,h]
theorem slot_put_other {a:Act} {d:Nat} {o:Option Tmp} {v:Value} (h:o ≠ some d):(a.put o v).tmps.getD d undef=a.tmps.getD d undef:=by
 cases o with
 | none=>rfl
 | some k=>
  have:k ≠ d:=fun e=>h (by rw [e])
  simp [Act.put,Array.getElem?_setIfInBounds,this]
theorem size_put (a:Act) (o:Option Tmp) (v:Value):(a.put o v).tmps.size=a.tmps.size:=by
 cases o <;> simp [Act.put]
theorem defers_put (a:Act) (o:Option Tmp) (v:Value):(a.put o v).defers=a.defers:=by
 cases o <;> rfl
def StepOK (P:Program) (o:Oper) (ev:Operand→Value) (w:World) (R:World→Value→Prop):Prop:=
 (∃ v w',(execOp ev o).run P w=.ok (.value v) w'∧R w' v)∨(∃ w',(execOp ev o).run P w=.ok .skip w'∧R w' undef) ∨
 (∃ f args,(execOp ev o).run P w=.ok (.enter f args) w∧Calls P f args w fun e w'=>∃ v,e=.returned v∧R w' v)
def depB (ops:Array Oper) (o:Oper) (j d:Nat):Bool:=o.after.any (fun e=>e.on == j && Region.binds .any e) && (match ops[j]? with | some oj=>oj.dst == some d | none=>false)
def freeB (ops:Array Oper) (d:Nat):Bool:=!(ops.toList.filterMap (·.dst)).contains d
structure Reads (ops:Array Oper) (a:Act) (ev:Operand→Value):Prop where
 tmp:∀ d,freeB ops d=true→ev (.tmp d)=a.eval (.tmp d)
 const:∀ v,ev (.const v)=v
 global:∀ g,ev (.global g)=.pointer (some ⟨g,0,none⟩)
 func:∀ f,ev (.func f)=.func (.func f) #[] #[]
def keepV:Option Tmp→Value→Value
 | some _,v=>v
 | none,_=>undef
def OpOK (P:Program) (G:Nat→World→World→Prop) (H:World→World→Prop) (ops:Array Oper) (Sp:Nat→World→Value→Prop) (a:Act) (w:World) (i:Nat) (o:Oper):Prop:=
 ∀ ev W',H w W'→Reads ops a ev→(∀ j d,depB ops o j d=true→Sp j W' (ev (.tmp d)))→StepOK P o ev W' fun W'' v=>G i W' W''∧Sp i W'' (keepV o.dst v)
def putAll (a:Act) (x:Nat→Value):Nat→List Oper→Act
 | _,[]=>a
 | i,o :: l=>putAll (a.put o.dst (x i)) x (i+1) l
theorem putAll_size (x:Nat→Value):∀ (l:List Oper) (a:Act) (i:Nat),(putAll a x i l).tmps.size=a.tmps.size
 | [],_,_=>rfl
 | o :: l,a,i=>by rw [putAll,putAll_size x l,size_put]
theorem putAll_defers (x:Nat→Value):∀ (l:List Oper) (a:Act) (i:Nat),(putAll a x i l).defers=a.defers
 | [],_,_=>rfl
 | o :: l,a,i=>by rw [putAll,putAll_defers x l,defers_put]
theorem putAll_get (a':Act) (x:Nat→Value) (d:Nat):∀ (l:List Oper) (a:Act) (i:Nat),a'.tmps.size=a.tmps.size→(∀ k o,l[k]?=some o→x (i+k)=slotOf a' o.dst)→(a.tmps.getD d undef=a'.tmps.getD d undef∨d ∈ l.filterMap (·.dst)) →
  (putAll a x i l).tmps.getD d undef=a'.tmps.getD d undef
 | [],a,i,_,_,h=>by
  rcases h with h | h
  ·exact h
  ·cases h
 | o :: l,a,i,hs,hx,h=>by
  rw [putAll]
  refine putAll_get a' x d l _ (i+1) (by rw [size_put];exact hs) (fun k o' hk=>?_) ?_
  ·have:=hx (k+1) o' (by simpa using hk)
   rw [← this];congr 1;omega
  ·have h0:=hx 0 o rfl
   rw [Nat.add_zero] at h0
   by_cases ho:o.dst=some d
   ·left
    rw [ho] at h0 ⊢
    rcases Nat.lt_or_ge d a.tmps.size with hd | hd
    ·rw [slot_put_same hd,h0];rfl
    ·have h1:(a.put (some d) (x i)).tmps[d]?=none:=Array.getElem?_eq_none (by rw [size_put];exact hd)
     have h2:a'.tmps[d]?=none:=Array.getElem?_eq_none (by rw [hs];exact hd)
     rw [Array.getD_eq_getD_getElem?,Array.getD_eq_getD_getElem?,h1,h2]
   ·rw [slot_put_other ho]
    rcases h with h | h
    ·exact .inl h
    ·right
     rw [List.filterMap_cons] at h
     cases hd:o.dst with
     | none=>rw [hd] at h;exact h
     | some k=>
      rw [hd] at h
      rcases List.mem_cons.1 h with e | h
      ·exact absurd (by rw [hd,e]) ho
      ·exact h
structure Inv (H:World→World→Prop) (ops:Array Oper) (Sp:Nat→World→Value→Prop) (a0:Act) (w0:World) (listed:Array Bool) (a:Act) (w:World):Prop where
 below:H w0 w
 size:a.tmps.size=a0.tmps.size
 defers:a.defers=a0.defers
 else_:∀ d,(ops.toList.filterMap (·.dst)).contains d=false→a.tmps.getD d undef=a0.tmps.getD d undef
 done:∀ (j:Nat) (o:Oper),ops[j]?=some o→listed.getD j false=true→Sp j w (slotOf a o.dst)
 clo:∀ (j:Nat) (o:Oper),ops[j]?=some o→listed.getD j false=true→∀ e ∈ o.after,Region.binds .any e=true→listed.getD e.on false=true
inductive Anc (ops:Array Oper) (p:Nat):Nat→Prop
 | refl:Anc ops p p
 | step {k:Nat} {o:Oper} {e:Edge}:Anc ops p k→ops[k]?=some o→e ∈ o.after→Region.binds .any e=true→Anc ops p e.on
theorem Inv.anc {H:World→World→Prop} {ops:Array Oper} {Sp:Nat→World→Value→Prop} {a0:Act} {w0:World} {listed:Array Bool} {a:Act} {w:World} (h:Inv H ops Sp a0 w0 listed a w) {p:Nat} (hp:listed.getD p false=true) {i:Nat} (hi:Anc ops p i):listed.getD i false=true:=by
 induction hi with
 | refl=>exact hp
 | step _ ho he hb ih=>exact h.clo _ _ ho ih _ he hb
def depsOf (ops:Array Oper) (k:Nat):List Nat:=match ops[k]? with | some o=>(o.after.toList.filter (Region.binds .any)).map (·.on) | none=>[]
def marks (ops:Array Oper):Nat→List Nat→List Nat
 | 0,m=>m
 | k+1,m=>marks ops k (if m.contains k then depsOf ops k ++ m else m)
theorem marks_anc {ops:Array Oper} {p:Nat}:∀ (k:Nat) (m:List Nat),(∀ x ∈ m,Anc ops p x)→∀ x ∈ marks ops k m,Anc ops p x
 | 0,_,h=>h
 | k+1,m,h=>by
  rw [marks]
  refine marks_anc k _ ?_
  split
  ·rename_i hk
   intro x hx
   rcases List.mem_append.1 hx with hx | hx
   ·unfold depsOf at hx
    split at hx
    ·rename_i o ho
     obtain ⟨e,he,rfl⟩:=List.mem_map.1 hx
     rw [List.mem_filter] at he
     exact .step (h k (by simpa using hk)) ho (by simpa using he.1) he.2
    ·cases hx
   ·exact h x hx
  ·exact h
def allBefore (ops:Array Oper) (p:Nat):Bool:=decide (ops.size≤p) || (List.range p).all fun i=>(marks ops (p+1) [p]).contains i
theorem before_anc {ops:Array Oper} {p:Nat} (h:allBefore ops p=true) (hp:p<ops.size) {i:Nat} (hi:i<p):Anc ops p i:=by
 unfold allBefore at h
 rw [Bool.or_eq_true] at h
 rcases h with h | h
 ·have:=of_decide_eq_true h;omega
 ·have:=List.all_eq_true.1 h i (List.mem_range.2 hi)
  exact marks_anc (p+1) [p] (fun x hx=>by rw [List.mem_singleton] at hx;subst hx;exact .refl) i (by simpa using this)
section
variable {P:Program} {G:Nat→World→World→Prop} {H:World→World→Prop} {p:Nat} {ops:Array Oper} {Q:Exit→Act→World→Prop} {Sp:Nat→World→Value→Prop} {a0:Act} {w0:World}
def Fits (ops:Array Oper) (a:Act):Prop:=
 (∀ (i:Nat) (o:Oper),ops[i]?=some o→o.guard=none)∧(∀ (i:Nat) (o:Oper) (d:Nat),ops[i]?=some o→o.dst=some d→d<a.tmps.size) ∧
 (∀ (i j:Nat) (oi oj:Oper) (d:Nat),ops[i]?=some oi→ops[j]?=some oj→oi.dst=some d→oj.dst=some d→i=j)
def fitsB (ops:Array Oper) (n:Nat):Bool:=
 ops.toList.all (fun o=>o.guard.isNone) && ops.toList.all (fun o=>match o.dst with | some d=>decide (d<n) | none=>true) && decide ((ops.toList.filterMap (·.dst)).Nodup)
theorem nodup_inj:∀ (l:List Oper) (i j:Nat) (oi oj:Oper) (d:Nat),(l.filterMap (·.dst)).Nodup→l[i]?=some oi→l[j]?=some oj→oi.dst=some d→oj.dst=some d→i=j
 | [],i,j,oi,oj,d,_,h,_,_,_=>by simp at h
 | o :: l,0,0,_,_,_,_,_,_,_,_=>rfl
 | o :: l,0,j+1,oi,oj,d,hn,hi,hj,h1,h2=>by
  simp only [List.getElem?_cons_zero,Option.some.injEq] at hi
  simp only [List.getElem?_cons_succ] at hj
  subst hi
  rw [List.filterMap_cons,h1,List.nodup_cons] at hn
  exact absurd (List.mem_filterMap.2 ⟨oj,List.mem_of_getElem? hj,h2⟩) hn.1
 | o :: l,i+1,0,oi,oj,d,hn,hi,hj,h1,h2=>by
  simp only [List.getElem?_cons_zero,Option.some.injEq] at hj
  simp only [List.getElem?_cons_succ] at hi
  subst hj
  rw [List.filterMap_cons,h2,List.nodup_cons] at hn
  exact absurd (List.mem_filterMap.2 ⟨oi,List.mem_of_getElem? hi,h1⟩) hn.1
 | o :: l,i+1,j+1,oi,oj,d,hn,hi,hj,h1,h2=>by
  simp only [List.getElem?_cons_succ] at hi hj
  have:(l.filterMap (·.dst)).Nodup:=by
   rw [List.filterMap_cons] at hn
   cases ho:o.dst with
   | none=>rw [ho] at hn;exact hn
   | some k=>rw [ho] at hn;exact (List.nodup_cons.1 hn).2
  rw [nodup_inj l i j oi oj d this hi hj h1 h2]
theorem fits_of {n:Nat} (h:fitsB ops n=true) {a:Act} (hs:a.tmps.size=n):Fits ops a:=by
 unfold fitsB at h
 simp only [Bool.and_eq_true,decide_eq_true_eq,List.all_eq_true] at h
 obtain ⟨⟨h1,h2⟩,h3⟩:=h
 refine ⟨fun i o ho=>?_,fun i o d ho hd=>?_,fun i j oi oj d hi hj e1 e2=>?_⟩
 ·have:=h1 o (List.mem_of_getElem? (by simpa using ho))
  simpa using this
 ·have:=h2 o (List.mem_of_getElem? (by simpa using ho))
  rw [hd] at this
  rw [hs]
  exact of_decide_eq_true this
 ·exact nodup_inj ops.toList i j oi oj d h3 (by simpa using hi) (by simpa using hj) e1 e2
theorem inv_step (hbef:∀ j,p≤j→allBefore ops j=true) (htr:∀ i a b c,H a b→G i b c→H a c) (hmono:∀ i j W W' v,i ≠ j → ¬ (p≤j∧i<j)→G i W W'→Sp j W v→Sp j W' v) (hf:Fits ops a0) {listed:Array Bool} {i:Nat} {o:Oper} (hi:ops[i]?=some o) {a:Act} {w:World} (h:Inv H ops Sp a0 w0 listed a w) {v:Value} {w':World} (hun:listed.getD i false=false) (hde:∀ e ∈ o.after,Region.binds .any e=true→listed.getD e.on false=true)
  (hb:G i w w') (hv:Sp i w' (keepV o.dst v)):Inv H ops Sp a0 w0 (listed.setIfInBounds i true) (a.put o.dst v) w':=by
 refine ⟨htr _ _ _ _ h.below hb,by rw [size_put];exact h.size,by rw [defers_put];exact h.defers,fun d hd=>?_,fun j oj hj hl=>?_,fun j oj hj hl e he hbd=>?_⟩
 ·rw [slot_put_other ?_]
  ·exact h.else_ d hd
  ·intro e
   have:d ∈ ops.toList.filterMap (·.dst):=List.mem_filterMap.2 ⟨o,List.mem_of_getElem? (by simpa using hi),e⟩
   rw [List.contains_eq_mem,decide_eq_true this] at hd
   cases hd
 ·by_cases hji:j=i
  ·subst hji
   rw [hi] at hj
   cases hj
   cases hd:o.dst with
   | none=>
    rw [hd] at hv
    exact hv
   | some d=>
    have:=hf.2.1 j o d hi hd
    show Sp j w' ((a.put (some d) v).tmps.getD d undef)
    rw [slot_put_same (by rw [h.size];exact this)]
    rw [hd] at hv
    exact hv
  ·have hl':listed.getD j false=true:=by rw [getD_set_ne false (Ne.symm hji)] at hl;exact hl
   have hlt:j<ops.size:=(Array.getElem?_eq_some_iff.1 hj).1
   have h1:=hmono i j w w' _ (Ne.symm hji) (fun hh=>by
    have:=h.anc hl' (before_anc (hbef j hh.1) hlt hh.2:Anc ops j i)
    rw [hun] at this
    cases this) hb (h.done j oj hj hl')
   cases hd:oj.dst with
   | none=>rw [hd] at h1;exact h1
   | some d=>
    rw [hd] at h1
    show Sp j w' ((a.put o.dst v).tmps.getD d undef)
    rw [slot_put_other (fun e=>hji (hf.2.2 j i oj o d hj hi hd e))]
    exact h1
 ·by_cases hji:j=i
  ·subst hji
   rw [hi] at hj
   cases hj
   have:=hde e he hbd
   by_cases hee:e.on=j
   ·rw [hee] at this
    rw [hun] at this
    cases this
   ·rw [getD_set_ne false (fun h=>hee h.symm)]
    exact this
  ·have hl':listed.getD j false=true:=by rw [getD_set_ne false (Ne.symm hji)] at hl;exact hl
   have:=h.clo j oj hj hl' e he hbd
   by_cases hee:e.on=i
   ·rw [hee] at this
    rw [hun] at this
    cases this
   ·rw [getD_set_ne false (fun h=>hee h.symm)]
    exact this
theorem step_sound (hbef:∀ j,p≤j→allBefore ops j=true) (htr:∀ i a b c,H a b→G i b c→H a c) (hmono:∀ i j W W' v,i ≠ j → ¬ (p≤j∧i<j)→G i W W'→Sp j W v→Sp j W' v) (hf:Fits ops a0) (hop:∀ (i:Nat) (o:Oper),ops[i]?=some o→OpOK P G H ops Sp a0 w0 i o)
  {K:Act→World→Prop} {listed:Array Bool} {i:Nat} {o:Oper} (hi:ops[i]?=some o) (hun:listed.getD i false=false) (hd:∀ e ∈ o.after,Region.binds .any e=true→listed.getD e.on false=true) {a:Act} {w:World} (h:Inv H ops Sp a0 w0 listed a w)
  (hK:∀ a' w',Inv H ops Sp a0 w0 (listed.setIfInBounds i true) a' w'→K a' w'):wpOp P ops Q i K a w:=by
 unfold wpOp
 rw [hi]
 have hg:=hf.1 i o hi
 simp only [show Region.wanted o (yielded ops a.tmps)=true by simp [Region.wanted,hg],if_true]
 left
 have ho:=hop i o hi
 have:=ho a.eval w h.below ⟨fun d hd'=>h.else_ d (by simpa [freeB] using hd'),fun _=>rfl,fun _=>rfl,fun _=>rfl⟩ (fun j d hdep=>by
  unfold depB at hdep
  rw [Bool.and_eq_true] at hdep
  obtain ⟨hany,hdst⟩:=hdep
  cases hj:ops[j]? with
  | none=>rw [hj] at hdst;cases hdst
  | some oj=>
   rw [hj] at hdst
   have hdd:oj.dst=some d:=by simpa using hdst
   have:=h.done j oj hj (by
    obtain ⟨k,hk,h1⟩:=Array.any_eq_true.1 hany
    rw [Bool.and_eq_true,beq_iff_eq] at h1
    rw [← h1.1]
    exact hd _ (Array.getElem_mem hk) h1.2)
   rw [hdd] at this
   exact this)
 unfold Oper.wp
 rcases this with ⟨v,w',h1,h2,h3⟩ | ⟨w',h1,h2,h3⟩ | ⟨f,args,h1,h2⟩
 ·rw [h1]
  exact hK _ _ (inv_step hbef htr hmono hf hi h hun hd h2 h3)
 ·rw [h1]
  exact hK _ _ (inv_step hbef htr hmono hf hi h hun hd h2 h3)
 ·rw [h1]
  refine Calls.mono h2 fun e w' hR=>?_
  obtain ⟨v,rfl,h3,h4⟩:=hR
  exact hK _ _ (inv_step hbef htr hmono hf hi h hun hd h3 h4)
theorem any_sound (hbef:∀ j,p≤j→allBefore ops j=true) (htr:∀ i a b c,H a b→G i b c→H a c) (hmono:∀ i j W W' v,i ≠ j → ¬ (p≤j∧i<j)→G i W W'→Sp j W v→Sp j W' v) (hf:Fits ops a0) (hop:∀ (i:Nat) (o:Oper),ops[i]?=some o→OpOK P G H ops Sp a0 w0 i o)
  (hfwd:∀ (i:Nat) (o:Oper),ops[i]?=some o→∀ e ∈ o.after,Region.binds .any e=true→e.on<i)
  (hQ:∀ a w,H w0 w→a.tmps.size=a0.tmps.size→a.defers=a0.defers→(∀ d,(ops.toList.filterMap (·.dst)).contains d=false→a.tmps.getD d undef=a0.tmps.getD d undef)→(∀ (j:Nat) (o:Oper),ops[j]?=some o→Sp j w (slotOf a o.dst))→Q .normal a w) :
  ∀ (fuel:Nat) (listed:Array Bool) (a:Act) (w:World),listed.size=ops.size→(listed.toList.filter (fun b=>!b)).length≤fuel→Inv H ops Sp a0 w0 listed a w→wpAny P .any ops Q fuel listed a w:=by
 have fin:∀ (listed:Array Bool) (a:Act) (w:World),listed.size=ops.size→Region.ready .any ops listed=[]→Inv H ops Sp a0 w0 listed a w→Q .normal a w:=by
  intro listed a w hsz hr h
  have all:∀ j o,ops[j]?=some o→listed.getD j false=true:=by
   intro j
   induction j using Nat.strongRecOn with
   | _ j ih=>
    intro o ho
    have hj:j<listed.size:=by rw [hsz];exact (Array.getElem?_eq_some_iff.1 ho).1
    cases hl:listed.getD j false with
    | true=>rfl
    | false=>
     have:j ∈ Region.ready .any ops listed:=mem_ready.2 ⟨by
      simp [Array.getD_eq_getD_getElem?,hj] at hl ⊢;exact hl,o,ho,fun e he hb=>by
       have hlt:=hfwd j o ho e he hb
       have hlt':e.on<ops.size:=by omega
       exact ih e.on hlt _ (Array.getElem?_eq_getElem hlt')⟩
     rw [hr] at this
     cases this
  exact hQ a w h.below h.size h.defers h.else_ (fun j o ho=>h.done j o ho (all j o ho))
 intro fuel
 induction fuel with
 | zero=>
  intro listed a w hsz hfu h
  have hr:Region.ready .any ops listed=[]:=by
   cases hc:Region.ready .any ops listed with
   | nil=>rfl
   | cons j l=>
    have hj:j ∈ Region.ready .any ops listed:=by rw [hc];exact List.mem_cons_self ..
    obtain ⟨h1,o,ho,_⟩:=mem_ready.1 hj
    have hlt:j<listed.size:=by rw [hsz];exact (Array.getElem?_eq_some_iff.1 ho).1
    have:listed[j] ∈ listed.toList.filter (fun b=>!b):=List.mem_filter.2 ⟨by simp,by simp [Array.getD_eq_getD_getElem?,hlt] at h1;simp [h1]⟩
    have:=List.length_pos_of_mem this
    omega
  exact ⟨hr,fin listed a w hsz hr h⟩
 | succ fuel ih=>
  intro listed a w hsz hfu h
  refine ⟨fun hr=>fin listed a w hsz hr h,fun i hi=>?_⟩
  obtain ⟨h1,o,ho,hd⟩:=mem_ready.1 hi
  have hlt:i<listed.size:=by rw [hsz];exact (Array.getElem?_eq_some_iff.1 ho).1
  have hunl:listed.getD i false=false:=by
   simp [Array.getD_eq_getD_getElem?,hlt] at h1 ⊢
   exact h1
  refine step_sound hbef htr hmono hf hop ho hunl hd h fun a' w' h'=>ih _ a' w' (by simpa using hsz) ?_ h'
  have hli:listed.toList[i]'(by simpa using hlt)=false:=by
   simp [Array.getD_eq_getD_getElem?,hlt] at h1
   simpa using h1
  have key:∀ (l:List Bool) (i:Nat) (h:i<l.length),l[i]=false→((l.set i true).filter (fun b=>!b)).length+1=(l.filter (fun b=>!b)).length:=by
   intro l
   induction l with
   | nil=>intro i h;simp at h
   | cons b l ihl=>
    intro i h hb
    cases i with
    | zero=>simp at hb;subst hb;simp
    | succ i=>
     have:=ihl i (by simpa using h) (by simpa using hb)
     cases b <;> simp [← this]
  have:=key listed.toList i (by simpa using hlt) hli
  rw [← Array.toList_setIfInBounds] at this
  omega
def fwdB:Nat→List Oper→Bool
 | _,[]=>true
 | i,o :: l=>o.after.all (fun e=>!Region.binds .any e || decide (e.on<i)) && fwdB (i+1) l
theorem fwd_of:∀ (l:List Oper) (k:Nat),fwdB k l=true→∀ (i:Nat) (o:Oper),l[i]?=some o→∀ e ∈ o.after,Region.binds .any e=true→e.on<k+i
 | [],_,_,i,o,h=>by simp at h
 | x :: l,k,hb,i,o,h=>by
  rw [fwdB,Bool.and_eq_true] at hb
  cases i with
  | zero=>
   simp only [List.getElem?_cons_zero,Option.some.injEq] at h
   subst h
   intro e he hbd
   have:=Array.all_eq_true_iff_forall_mem.1 hb.1 e he
   rw [hbd] at this
   rw [Nat.add_zero]
   exact of_decide_eq_true (by simpa using this)
  | succ i=>
   simp only [List.getElem?_cons_succ] at h
   intro e he hbd
   have:=fwd_of l (k+1) hb.2 i o h e he hbd
   omega
def OpsOK (P:Program) (G:Nat→World→World→Prop) (H:World→World→Prop) (ops:Array Oper) (Sp:Nat→World→Value→Prop) (a:Act) (w:World):Nat→List Oper→Prop
 | _,[]=>True
 | i,o :: l=>OpOK P G H ops Sp a w i o∧OpsOK P G H ops Sp a w (i+1) l
theorem opsOK_get:∀ (l:List Oper) (k:Nat),OpsOK P G H ops Sp a0 w0 k l→∀ (i:Nat) (o:Oper),l[i]?=some o→OpOK P G H ops Sp a0 w0 (k+i) o
 | [],_,_,i,o,h=>by simp at h
 | x :: l,k,hb,0,o,h=>by
  simp only [List.getElem?_cons_zero,Option.some.injEq] at h
  subst h
  exact hb.1
 | x :: l,k,hb,i+1,o,h=>by
  simp only [List.getElem?_cons_succ] at h
  have:=opsOK_get l (k+1) hb.2 i o h
  rwa [show k+1+i=k+(i+1) by omega] at this
theorem region_grow_p {l:List Oper} (G:Nat→World→World→Prop) (H:World→World→Prop) (p:Nat) {id n:Nat} {a:Act} {w:World} (Sp:Nat→World→Value→Prop) (hm:P.follows .mixedOrders=true) (hn:a.tmps.size=n) (hfit:fitsB l.toArray n=true) (hfwd:fwdB 0 l=true) (hdr:H w { w with drawn:=w.drawn+1 })
  (hbef:∀ j,p≤j→allBefore l.toArray j=true) (htr:∀ i a b c,H a b→G i b c→H a c) (hmono:∀ i j W W' v,i ≠ j → ¬ (p≤j∧i<j)→G i W W'→Sp j W v→Sp j W' v) (hop:OpsOK P G H l.toArray Sp a w 0 l)
  (hQ:∀ (x:Nat→Value) W',H w W'→(∀ j,j<l.length→Sp j W' (x j))→Q .normal (putAll a x 0 l) W'):(Code.region id l.toArray true).wp P Q a w:=by
 have hf:=fits_of hfit hn
 refine wp_region_any hm (any_sound (Sp:=Sp) (a0:=a) (w0:=w) hbef htr hmono hf (fun i o ho=>?_) (fun i o ho=>?_) ?_ _ _ a _ (by simp) (by simp) ⟨hdr,rfl,rfl,fun _ _=>rfl,fun j o hj hl=>?_,fun j o hj hl=>?_⟩)
 ·have:=opsOK_get l 0 hop i o (by simpa using ho)
  rwa [Nat.zero_add] at this
 ·have:=fwd_of l 0 hfwd i o (by simpa using ho)
  rwa [Nat.zero_add] at this
 ·intro a' w' hb hs hd he hdone
  have hdst:∀ (i:Nat) (o:Oper),l[i]?=some o→l.toArray[i]?=some o:=fun i o h=>by simpa using h
  have e:putAll a (fun j=>match l[j]? with | some o=>slotOf a' o.dst | none=>undef) 0 l=a':=by
   have h1:=putAll_size (fun j=>match l[j]? with | some o=>slotOf a' o.dst | none=>undef) l a 0
   have h2:=putAll_defers (fun j=>match l[j]? with | some o=>slotOf a' o.dst | none=>undef) l a 0
   have h3:(putAll a (fun j=>match l[j]? with | some o=>slotOf a' o.dst | none=>undef) 0 l).tmps=a'.tmps:=by
    apply Array.ext
    ·rw [h1,hs]
    ·intro d hd1 hd2
     have:=putAll_get a' (fun j=>match l[j]? with | some o=>slotOf a' o.dst | none=>undef) d l a 0 hs (fun k o hk=>by simp [hk]) (by
      by_cases hc:d ∈ l.filterMap (·.dst)
      ·exact .inr hc
      ·left
       refine (he d ?_).symm
       simpa using hc)
     simpa [Array.getD_eq_getD_getElem?,hd1,hd2] using this
   cases hp:putAll a (fun j=>match l[j]? with | some o=>slotOf a' o.dst | none=>undef) 0 l with
   | mk t ds=>
    rw [hp] at h2 h3
    simp only at h2 h3
    cases a'
    simp only at hd h3
    rw [h2,h3,hd]
  rw [← e]
  refine hQ _ w' hb (fun j hj=>?_)
  have hj':l[j]?=some l[j]:=List.getElem?_eq_getElem hj
  have:=hdone j l[j] (hdst j _ hj')
  simp only [hj']
  exact this
 ·rw [Array.getD_eq_getD_getElem?,Array.getElem?_replicate] at hl
  split at hl <;> cases hl
 ·rw [Array.getD_eq_getD_getElem?,Array.getElem?_replicate] at hl
  split at hl <;> cases hl
theorem before_from {ops:Array Oper} {p:Nat} (h:(List.range ops.size).all (fun j=>decide (j<p) || allBefore ops j)=true):∀ j,p≤j→allBefore ops j=true:=by
 intro j hj
 rcases Nat.lt_or_ge j ops.size with hlt | hge
 ·have:=List.all_eq_true.1 h j (List.mem_range.2 hlt)
  rw [Bool.or_eq_true] at this
  rcases this with h | h
  ·have:=of_decide_eq_true h;omega
  ·exact h
 ·simp only [allBefore]
  simp [hge]
theorem region_grow {l:List Oper} (G:World→World→Prop) {id n:Nat} {a:Act} {w:World} (Sp:Nat→World→Value→Prop) (hm:P.follows .mixedOrders=true) (hn:a.tmps.size=n) (hfit:fitsB l.toArray n=true) (hfwd:fwdB 0 l=true) (hdr:G w { w with drawn:=w.drawn+1 })
  (htr:∀ a b c,G a b→G b c→G a c) (hmono:∀ i W W' v,G W W'→Sp i W v→Sp i W' v) (hop:OpsOK P (fun _=>G) G l.toArray Sp a w 0 l)
  (hQ:∀ (x:Nat→Value) W',G w W'→(∀ j,j<l.length→Sp j W' (x j))→Q .normal (putAll a x 0 l) W'):(Code.region id l.toArray true).wp P Q a w:=
 region_grow_p (fun _=>G) G l.length Sp hm hn hfit hfwd hdr (fun j hj=>by simp only [allBefore,List.size_toArray];simp [hj]) (fun _ a b c=>htr a b c) (fun _ j W W' v _ _ h=>hmono j W W' v h) hop hQ
end
section
variable {P:Program} {o:Oper} {ev:Operand→Value} {W:World} {R:World→Value→Prop}
theorem ok_val {v:Value} (h:(execOp ev o).run P W=.ok (.value v) W) (hR:R W v):StepOK P o ev W R:=.inl ⟨v,W,h,hR⟩
theorem ok_new {v:Value} {W':World} (h:(execOp ev o).run P W=.ok (.value v) W') (hR:R W' v):StepOK P o ev W R:=.inl ⟨v,W',h,hR⟩
theorem ok_call {f:FuncId} {args:Array Value} (h:(execOp ev o).run P W=.ok (.enter f args) W) (hc:Calls P f args W fun e w'=>∃ v,e=.returned v∧R w' v):StepOK P o ev W R:=.inr (.inr ⟨f,args,h,hc⟩)
end
end Go.Grow
namespace Go.Proofs.YtlcfpdmicpggbaaGreatDoor
open Go.Lib (hid)
open Go.RowKit Go.Proofs.Spl Go.Proofs.Scn Go.Shelf
attribute [local go_sem] Oper.semAt_some
def encT (t:Tok):Value:=.agg #[.int .i64 t.k,.string (bs t.s),.int .i64 t.w,.int .u64 t.v,.int .i64 t.p]
abbrev Seq (lo:Nat) (w:World) (f:Value) (ts:List Tok):Prop:=IsSeq Tryz.prog encT lo w f ts
theorem some1_seq (lo:Nat) (w:World) (b1 b2:Nat) (hl1:lo≤b1) (hl2:lo≤b2) (k:Int) (s:Ln) (h1:Boxed w b1 3 (.int .i64 k)) (h2:Boxed w b2 9 (.string (bs s))) :
  Seq lo w (.func (.func 206) #[] #[.pointer (some ⟨b1,0,none⟩),.pointer (some ⟨b2,0,none⟩)]) [⟨k,s,0,0,0⟩]:=by
 refine ⟨_,_,rfl,enters_of Tryz.func206 (by kernel_rfl) rfl,?_⟩
 intro n l J M0 W hn hJ hB h0 hY
 have hb:=hB _ _ _ h0
 have c1:=(hb.box h1 hl1).cell
 have c2:=(hb.box h2 hl2).cell
 obtain ⟨fn,tmps,assign,body,hy,hR⟩:=yieldAt_depth rfl (n - 1) (hY M0 [] _ W h0 ⟨[],rfl⟩)
 simp only [encT,show ((0:Nat):Int)=0 from rfl] at hy
 refine callsIn_of_wp Tryz.func206 rfl trivial ?_ rfl
 simp only [Tryz.ntmps206,List.size_toArray,List.length_cons,List.length_nil,Nat.reduceAdd,Nat.reduceSub,Array.replicate_succ,Array.replicate_zero,List.push_toArray,List.append_toArray,List.nil_append,List.cons_append]
 gi_wp2
 refine hR.mono ?_
 rintro e W' ⟨rfl,hj,hk⟩
 gi_wp2
 go_end0
 exact ⟨⟨_,rfl⟩,M0,hj⟩
theorem expr1_seq (lo:Nat) (w:World) (b:Nat) (hl:lo≤b) (vs:Array Value) (ow:Int) (v:Nat) (hb:b<w.heap.size) (h3:w.cell? ⟨b,3,none⟩=some (.int .i64 ow)) (h4:w.cell? ⟨b,4,none⟩=some (.int .u64 v)) :
  Seq lo w (.func (.func 104) #[] #[.pointer (some ⟨b,0,none⟩)]) [numT ow v]:=by
 refine ⟨_,_,rfl,enters_of Tryz.func104 (by kernel_rfl) rfl,?_⟩
 intro n l J M0 W hn hJ hB h0 hY
 have hbl:=hB _ _ _ h0
 have c3:=(hbl.cell (p:=⟨b,3,none⟩) hl hb).trans h3
 have c4:=(hbl.cell (p:=⟨b,4,none⟩) hl hb).trans h4
 obtain ⟨fn,tmps,assign,body,hy,hR⟩:=yieldAt_depth rfl (n - 1) (hY M0 [] _ W h0 ⟨[],rfl⟩)
 simp only [encT,numT,show ((0:Nat):Int)=0 from rfl,show bs []={ data:=#[] } from rfl] at hy
 refine callsIn_of_wp Tryz.func104 rfl trivial ?_ rfl
 simp only [Tryz.ntmps104,List.size_toArray,List.length_cons,List.length_nil,Nat.reduceAdd,Nat.reduceSub,Array.replicate_succ,Array.replicate_zero,List.push_toArray,List.append_toArray,List.nil_append,List.cons_append]
 gi_wp2
 refine hR.mono ?_
 rintro e W' ⟨rfl,hj,hk⟩
 gi_wp2
 go_end0
 exact ⟨⟨_,rfl⟩,M0,hj⟩
end Go.Proofs.YtlcfpdmicpggbaaGreatDoor
namespace Go.Proofs.YtlcfpdmicpggbaaGreatDoor
open Go.Lib (hid)
open Go.RowKit Go.Proofs.Spl Go.Proofs.Scn Go.Shelf
attribute [local go_sem] Oper.semAt_some
def Seqs (lo:Nat) (w:World) (v:Value) (ls:List (List Tok)):Prop:=
 ∃ p cap,v=.slice p ls.length cap∧(ls=[]∨∃ b off,p=some ⟨b,off,none⟩∧lo≤b∧b<w.heap.size∧∀ k (h:k<ls.length),∃ f,w.cell? ⟨b,off+k,none⟩=some f∧Seq lo w f ls[k])
theorem Seqs.later {lo:Nat} {w w':World} {v:Value} {ls:List (List Tok)} (h:Seqs lo w v ls) (hb:KeptL lo w w'):Seqs lo w' v ls:=by
 obtain ⟨p,cap,h1,h2⟩:=h
 refine ⟨p,cap,h1,?_⟩
 rcases h2 with h2 | ⟨b,off,h3,hl,h4,h5⟩
 ·exact .inl h2
 ·refine .inr ⟨b,off,h3,hl,Nat.lt_of_lt_of_le h4 hb.size,fun k hk=>?_⟩
  obtain ⟨f,h6,h7⟩:=h5 k hk
  exact ⟨f,(hb.cell (p:=⟨b,off+k,none⟩) hl h4).trans h6,h7.later (Nat.le_refl _) hb⟩
def TokBx (w:World) (B:Nat) (t:Tok):Prop:=w.heap[B]?=some (.cells #[.int .i64 t.k,.string (bs t.s),.int .i64 t.w,.int .u64 t.v,.int .i64 t.p] 55 (0,0))
theorem TokBx.cells {w:World} {B:Nat} {t:Tok} (h:TokBx w B t):w.cell? ⟨B,0,none⟩=some (.int .i64 t.k)∧w.cell? ⟨B,1,none⟩=some (.string (bs t.s))∧w.cell? ⟨B,2,none⟩=some (.int .i64 t.w)∧w.cell? ⟨B,3,none⟩=some (.int .u64 t.v)∧w.cell? ⟨B,4,none⟩=some (.int .i64 t.p):=by
 unfold TokBx at h
 refine ⟨?_,?_,?_,?_,?_⟩ <;> simp [World.cell?,h]
theorem TokBx.new (w:World) (t:Tok):TokBx (w.alloc (.cells #[.int .i64 t.k,.string (bs t.s),.int .i64 t.w,.int .u64 t.v,.int .i64 t.p] 55)) w.heap.size t:=World.alloc_heap_new w _
def asNat:Value→Nat
 | .int _ n=>n.toNat
 | _=>0
def RowI (J:(Nat→Prop)→List Tok→World→Prop) (M1:Nat→Prop) (pre:List Tok) (B0 z l:Nat) (ds:List Nat) (M:Nat→Prop) (s:List Tok) (V:World):Prop:=
 J (fun r=>M1 r∨M r) (pre ++ s) V∧(∀ r,M r→z≤r)∧Boxed V B0 134 (.func (.yield l) #[] #[])∧(∀ D ∈ ds,V.heap[D]?=some (.deferred (some [])))∧z≤V.heap.size∧B0<z∧(∀ D ∈ ds,D<z)∧M1 B0∧(∀ D ∈ ds,M1 D)
theorem rowI_abides {J:(Nat→Prop)→List Tok→World→Prop} (hJ:AbidesM J) {M1:Nat→Prop} {pre:List Tok} {B0 z l:Nat} {ds:List Nat}:AbidesM (RowI J M1 pre B0 z l ds):=by
 rintro M M' s V V' row ⟨h1,h2,h3,h4,h5,h6,h7,h8,h9⟩ hg hr hM
 have hs:=hg.size
 refine ⟨hJ _ _ _ V V' row h1 hg (fun r e=>.inr (hr r e)) (fun r h=>?_),fun r h=>?_,?_,fun D hD=>?_,by omega,h6,h7,h8,h9⟩
 ·rcases h with h | h
  ·exact .inl (.inl h)
  ·rcases hM r h with h | h
   ·exact .inl (.inr h)
   ·exact .inr h
 ·rcases hM r h with h | h
  ·exact h2 r h
  ·omega
 ·exact h3.kept hg (fun e=>by have:=h2 _ (hr _ e.symm);omega)
 ·have hl:=(Array.getElem?_eq_some_iff.1 (h4 D hD)).1
  exact (hg.block D hl (fun e=>by have:=h2 _ (hr _ e.symm);have:=h7 D hD;omega)).trans (h4 D hD)
theorem row1_seq (lo:Nat) (w:World) (Bb:Nat) (hlB:lo≤Bb) (v:Value) (ls:List (List Tok)) (hb:Boxed w Bb 121 v) (hs:Seqs lo w v ls) (hlen:ls.length≤1000000000) :
  Seq lo w (.func (.func 165) #[] #[.pointer (some ⟨Bb,0,none⟩)]) ls.flatten:=by
 refine ⟨_,_,rfl,enters_of Tryz.func165 (by kernel_rfl) rfl,?_⟩
 intro n l J M0 W hn hJ hB h0 hY
 obtain ⟨p,cap,rfl,hcells⟩:=hs
 have hbl:=hB _ _ _ h0
 have hbW:=hbl.box hb hlB
 have hbl1:KeptL lo w (W.alloc (.cells #[.func (.yield l) #[] #[]] 134)):=hbl.trans (KeptL.of_grown (World.grownBy_alloc W _ none) (fun r e=>by cases e))
 have c1:=(hbl1.box hb hlB).cell
 refine callsIn_of_wp_marks Tryz.func165 rfl trivial ?_ rfl
 simp only [Tryz.ntmps165,List.size_toArray,List.length_cons,List.length_nil,Nat.reduceAdd,Nat.reduceSub,Array.replicate_succ,Array.replicate_zero,List.push_toArray,List.append_toArray,List.nil_append,List.cons_append]
 gi_wp2
 refine wpIn_wide.2 ?_
 refine (wpIn_wide (n:=n+3)).1 ?_
 have hb0:Boxed (W.alloc (.cells #[.func (.yield l) #[] #[]] 134)) W.heap.size 134 (.func (.yield l) #[] #[]):=Boxed.new _ _ _
 have hj0:J (fun r=>r=W.heap.size) [] (W.alloc (.cells #[.func (.yield l) #[] #[]] 134)):=
  hJ _ _ _ _ _ none h0 (World.grownBy_alloc W _ none) (fun r e=>by cases e) (fun r h=>.inr ⟨by omega,by simp;omega⟩)
 have hz0:W.heap.size<(W.alloc (.cells #[.func (.yield l) #[] #[]] 134)).heap.size:=by simp
 generalize hW1:W.alloc (.cells #[.func (.yield l) #[] #[]] 134)=W1 at *
 refine wpIn_loop (fun a V=>∃ (k:Nat) (ds:List Nat) (M:Nat→Prop) (x3 x4 x5 x9 x10 x11 x12 x13 x14 x15 x16 x17 x18:Value),k≤ls.length ∧
   a={ tmps:=#[.func (.yield l) #[] #[],.pointer (some ⟨Bb,0,none⟩),.pointer (some ⟨W.heap.size,0,none⟩),x3,x4,x5,.slice p ls.length cap,.int .i64 (ls.length:Nat),.int .i64 (k:Nat),x9,x10,x11,x12,x13,x14,x15,x16,x17,x18],defers:=ds.map markD } ∧
   J M (ls.take k).flatten V∧M W.heap.size∧Boxed V W.heap.size 134 (.func (.yield l) #[] #[])∧ds.Nodup∧(∀ D ∈ ds,M D∧V.heap[D]?=some (.deferred (some [])))∧(∀ r,M r→r<V.heap.size))
  (fun a _=>ls.length - asNat (a.tmps.getD 8 undef)) ?h0 ?round
 case h0=>
  exact ⟨0,[],_,_,_,_,_,_,_,_,_,_,_,_,_,_,Nat.zero_le _,rfl,hj0,rfl,hb0,List.nodup_nil,(fun D h=>by cases h),(fun r h=>by rw [h];exact hz0)⟩
 case round=>
  rintro a V ⟨k,ds,M,x3,x4,x5,x9,x10,x11,x12,x13,x14,x15,x16,x17,x18,hk,rfl,hj,hMB,hBV,hnd,hds,hML⟩
  have hblV:=hB _ _ _ hj
  rcases Nat.lt_or_ge k ls.length with hlt | hge
  ·have hlt':((k:Nat):Int)<((ls.length:Nat):Int):=by omega
   rcases hcells with hc | ⟨q,off,rfl,hlq,hq,hc⟩
   ·subst hc;simp at hlt
   obtain ⟨f,hf1,hf2⟩:=hc k hlt
   have hf3:=(hblV.cell (p:=⟨q,off+k,none⟩) hlq hq).trans hf1
   obtain ⟨g,lb,rfl,eg,hseq⟩:=hf2
   gi_wp2
   have hz:V.heap.size≤V.heap.size:=Nat.le_refl _
   refine wpIn_rangeFunc_m (p:=13) (by omega) (gf:=g) (lb:=lb) rfl eg (enc:=encT) (xs:=ls[k]) (w0:=w) hseq rfl (by omega) (RowI J M (ls.take k).flatten W.heap.size V.heap.size l ds) (rowI_abides hJ) (fun M s V h=>hB _ _ _ h.1)
    (fun _=>False) (fun r h=>h.elim) ?i0
    (fun M' pre x a' V'=>RowI J M (ls.take k).flatten W.heap.size V.heap.size l ds M' pre V'∧(∃ r,ls[k]=pre ++ x :: r)∧∃ Bx,TokBx V' Bx x ∧ ¬ M' Bx ∧
     ∃ y,a'={ tmps:=#[.func (.yield l) #[] #[],.pointer (some ⟨Bb,0,none⟩),.pointer (some ⟨W.heap.size,0,none⟩),x3,.func (.func g) #[] lb,.pointer (some ⟨Bx,0,none⟩),.slice (some ⟨q,off,none⟩) ls.length cap,.int .i64 (ls.length:Nat),.int .i64 (k:Nat),.bool true,.pointer (some ⟨q,off+k,none⟩),.func (.func g) #[] lb,.func (.func g) #[] lb,y,x14,x15,x16,x17,x18],defers:=[] })
    ?hA ?assign ?body ?done
   case i0=>exact ⟨by rw [List.append_nil];exact hJ.less hj (fun r h=>h.elim id False.elim),fun r h=>h.elim,hBV,fun D hD=>(hds D hD).2,Nat.le_refl _,hML _ hMB,fun D hD=>hML _ (hds D hD).1,hMB,fun D hD=>(hds D hD).1⟩
   case hA=>
    rintro M' pre x a' V' r o ⟨hi,hx,Bx,hbx,hn,y,e⟩ hM
    exact ⟨(rowI_abides hJ).put o hi hM,hx,Bx,(World.putObj_heap_other (fun e=>hn (by rw [e];exact hM))).trans hbx,hn,y,e⟩
   case assign=>
    intro l' M' pre x V' K hi hx hML' hK
    simp only [encT]
    gi_wp2
    refine hK _ _ ⟨(rowI_abides hJ) M' M' pre V' _ none hi (World.grownBy_alloc _ _ _) (fun r e=>by cases e) (fun r h=>.inl h),hx,V'.heap.size,TokBx.new V' x,fun h=>absurd (hML' _ h) (Nat.lt_irrefl _),_,rfl⟩ (Keeps.of (World.grownBy_alloc _ _ none) (fun r e=>by cases e))
   case body=>
    rintro l' M' pre x a' V' ⟨⟨i1,i2,i3,i4,i5,i6,i7,i8,i9⟩,⟨r,hx⟩,Bx,hbx,hnb,y,rfl⟩
    obtain ⟨d0,d1,d2,d3,d4⟩:=hbx.cells
    have d5:=i3.cell
    have hpre:ls.flatten=((ls.take k).flatten ++ pre) ++ x :: (r ++ (ls.drop (k+1)).flatten):=by
     have h1:ls=ls.take k ++ ls[k] :: ls.drop (k+1):=by rw [List.getElem_cons_drop,List.take_append_drop]
     have h2:=congrArg List.flatten h1
     rw [List.flatten_append,List.flatten_cons,hx] at h2
     rw [h2]
     simp [List.append_assoc]
    obtain ⟨fn,tmps,assign,body,hy,hR⟩:=hY (fun r=>M r∨M' r) ((ls.take k).flatten ++ pre) x V' i1 ⟨_,hpre⟩
    have hR':∀ m,RoundIn (Fence.wide.inRound l') m Tryz.prog l fn tmps assign body V' _:=fun m=>⟨hR.1,fun c cs _=>hR.2 c cs (room_none rfl _)⟩
    simp only [encT] at hy
    gi_wp2
    refine (hR' _).mono ?_
    rintro e V3 ⟨rfl,hj3,hk3⟩
    gi_wp2
    have hs3:=hk3.size
    refine ⟨⟨by rw [← List.append_assoc];exact hj3,i2,(hk3.same _ (.inl i8) (by omega)).trans i3,fun D hD=>(hk3.same _ (.inl (i9 D hD)) (by have:=i7 D hD;omega)).trans (i4 D hD),by omega,i6,i7,i8,i9⟩,hk3.less fun r h=>.inr h⟩
   case done=>
    rintro D M' V' ⟨i1,i2,i3,i4,i5,i6,i7,i8,i9⟩ hD hMD hDz _
    gi_wp2
    have hfl:(ls.take (k+1)).flatten=(ls.take k).flatten ++ ls[k]:=by
     have h1:ls.take k ++ [ls[k]]=ls.take (k+1):=List.take_append_getElem hlt
     rw [← h1,List.flatten_append]
     simp
    refine ⟨⟨k+1,D :: ds,fun r=>(M r∨M' r)∧r<V'.heap.size,_,_,_,_,_,_,_,_,_,_,_,_,_,hlt,rfl,?_,⟨.inl i8,by omega⟩,i3,?_,?_,fun r h=>h.2⟩,?_⟩
    ·rw [hfl];exact hJ.less i1 (fun r h=>h.1)
    ·rw [List.nodup_cons]
     exact ⟨fun h=>by have:=i7 D h;omega,hnd⟩
    ·intro E hE
     rcases List.mem_cons.1 hE with rfl | hE
     ·exact ⟨⟨.inr hMD,(Array.getElem?_eq_some_iff.1 hD).1⟩,hD⟩
     ·exact ⟨⟨.inl (i9 E hE),(Array.getElem?_eq_some_iff.1 (i4 E hE)).1⟩,i4 E hE⟩
    ·simp [asNat];omega
  ·have hkl:k=ls.length:=by omega
   have hge':¬ ((k:Nat):Int)<((ls.length:Nat):Int):=by omega
   rw [hkl,List.take_length] at hj
   gi_wp2
   refine leaves_marks (fun V=>J M ls.flatten V) (fun V h=>?_) ds V hnd (fun D hD=>(hds D hD).2) (fun D hD V o h=>hJ.put o h (hds D hD).1) hj
   exact ⟨_,results_none rfl _ _ _,⟨_,rfl⟩,M,h⟩
end Go.Proofs.YtlcfpdmicpggbaaGreatDoor
