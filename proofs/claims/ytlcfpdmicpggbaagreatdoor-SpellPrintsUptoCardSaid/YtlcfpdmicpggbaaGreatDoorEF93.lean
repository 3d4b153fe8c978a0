/- Texts of the seat, merged. -/
import Derived.Laws.Rows
import Derived.Test.YtlcfpdmicpggbaaGreatDoorD15
import Derived.Test.YtlcfpdmicpggbaaGreatDoorEF91
set_option linter.unusedVariables false
set_option linter.unusedSimpArgs false
set_option maxRecDepth 100000
set_option maxHeartbeats 16000000
namespace Go.Proofs.YtlcfpdmicpggbaaGreatDoor
open Go.Lib (hid)
open Go.RowKit Go.Proofs.Spl Go.Proofs.Scn Go.Shelf
def strsC (l:List Ln):List Value:=l.map fun s=>.string (bs s)
def OwnS (B:Nat) (w:World) (v:Value) (l:List Ln):Prop:=w.ownsRow B 9 1 v l.length (strsC l)
theorem OwnS.nil (B:Nat) (w:World):OwnS B w (.slice none 0 0) []:=World.ownsRow_nil w B _ 1
theorem OwnS.later {B:Nat} {w w':World} {v:Value} {l:List Ln} (h:OwnS B w v l) (hb:Below w.heap.size w w'):OwnS B w' v l:=by
 refine ⟨h.1,?_⟩
 rcases h.2 with h0 | ⟨g,cap,cur,hv,hB,hg,h1⟩
 ·exact .inl h0
 ·exact .inr ⟨g,cap,cur,hv,hB,(hb.block g (Array.getElem?_eq_some_iff.1 hg).1).trans hg,h1⟩
theorem OwnS.shape {B:Nat} {w:World} {v:Value} {l:List Ln} (h:OwnS B w v l):∃ p c,v=.slice p l.length c:=by
 rcases h.2 with ⟨h0,h1⟩ | ⟨g,cap,cur,hv,_⟩
 ·exact ⟨none,0,by rw [h0,h1]⟩
 ·exact ⟨_,_,hv⟩
theorem OwnS.base {B:Nat} {w:World} {v:Value} {l:List Ln} (h:OwnS B w v l):∀ k,v.ownBlock=some k→B≤k∧k<w.heap.size:=by
 intro k hk
 rcases h.2 with ⟨rfl,_⟩ | ⟨g,cap,cur,rfl,hB,hg,h1⟩
 ·cases hk
 ·simp [Value.ownBlock] at hk;subst hk;exact ⟨hB,(Array.getElem?_eq_some_iff.1 hg).1⟩
end Go.Proofs.YtlcfpdmicpggbaaGreatDoor
namespace Go.Proofs.YtlcfpdmicpggbaaGreatDoor
open Go.Lib (hid)
open Go.RowKit Go.Proofs.Spl Go.Proofs.Scn Go.Shelf
theorem fewB_le {n d:Nat} (h:fewB n d=true):n≤2000:=by
 unfold fewB at h
 simp only [Bool.and_eq_true,decide_eq_true_eq] at h
 exact h.1
end Go.Proofs.YtlcfpdmicpggbaaGreatDoor
namespace Go.Proofs.YtlcfpdmicpggbaaGreatDoor
open Go.Lib (hid)
open Go.RowKit Go.Proofs.Spl Go.Proofs.Scn Go.Shelf
theorem OwnT.shape {B:Nat} {w:World} {v:Value} {l:List Tok} (h:OwnT B w v l):∃ p c,v=.slice p l.length c:=by
 rcases h.2 with ⟨h0,h1⟩ | ⟨g,cap,cur,hv,_⟩
 ·exact ⟨none,0,by rw [h0,h1]⟩
 ·exact ⟨_,_,hv⟩
theorem cellsTs_one (ts:List Tok):∀ u ∈ cellsTs ts,u.oneCell'=true:=by
 intro u hu
 unfold cellsTs at hu
 rw [List.mem_flatMap] at hu
 obtain ⟨t,_,ht⟩:=hu
 simp only [cellsT,List.mem_cons,List.not_mem_nil,or_false] at ht
 rcases ht with rfl | rfl | rfl | rfl | rfl <;> rfl
theorem wpList_append_toks {w:World} {ops:Array Oper} {rest:List Oper} {o:Oper} {a:Act} {Q:Exit→Act→World→Prop} (hgd:o.guard=none) (s x:Operand)
  (ho:o.op=.call { callee:=.builtin .append,args:=#[s,x],argTypes:=#[36,36] })
  (base:Nat) (v:Value) (L l:List Tok) (hs:a.eval s=v) (hown:OwnT base w v L) (B':Nat) (y:Value) (hx:a.eval x=y) (hsrc:OwnT B' w y l)
  (h63:L.length+l.length≤20000000) (hbase:base≤w.heap.size)
  (h:∀ p' c' N w',Hid (N=(L ++ l).length)→OwnT base w' (.slice p' N c') (L ++ l)→w.grownBy w' v.ownBlock→wpList Tryz.prog ops Q rest (a.put o.dst (.slice p' N c')) w'):wpList Tryz.prog ops Q (o :: rest) a w:=by
 obtain ⟨i0,hi,hz0,hz1,hz2⟩:=info_parts tkInfo
 rcases hsrc.2 with ⟨rfl,h0⟩ | ⟨g,cap,cur,rfl,hB,hg,hn,hc,hz,ht⟩
 ·refine wpList_append_own_none hgd s x 36 ho base 55 i0 5 tkSlice hi v L.length (cellsTs L) hs hown hx ?_
  have hl:l=[]:=List.eq_nil_of_length_eq_zero h0
  subst hl
  obtain ⟨p,c,rfl⟩:=hown.shape
  refine h p c L.length w (hid (by simp)) (by rw [List.append_nil];exact hown) ⟨rfl,rfl,rfl,Nat.le_refl _,fun k _ _=>rfl⟩
 ·have hcell:∀ j u,(cellsTs l)[j]?=some u→w.cell? ((⟨g,0,none⟩:Addr).add j)=some u:=by
   intro j u hu
   have e:(⟨g,0,none⟩:Addr).add j=⟨g,j,none⟩:=by simp [Addr.add];intro h;exact h.symm
   rw [e,cell_of_row w g j cur _ (0,0) hg,← Array.getElem?_toList]
   rw [← ht,List.getElem?_take] at hu
   split at hu
   ·exact hu
   ·cases hu
  refine wpList_append_own w hgd s x 36 ho base 55 i0 (.agg #[.int .i64 0,.string ⟨#[]⟩,.int .i64 0,.int .u64 0,.int .i64 0]) 5 48 tkSlice hi hz0 hz1 hz2 rfl (by decide) v L.length (cellsTs L) hs hown ⟨g,0,none⟩ l.length cap (cellsTs l) hx (cellsTs_length l) hcell (cellsTs_one l) (by unfold maxLen;omega) (by omega) hbase ?_
  intro v' w' h1 h2 _
  have ho:OwnT base w' v' (L ++ l):=by
   unfold OwnT
   rw [List.length_append,show cellsTs (L ++ l)=cellsTs L ++ cellsTs l from List.flatMap_append]
   exact h1
  obtain ⟨p,c,rfl⟩:=ho.shape
  exact h p c _ w' (hid rfl) ho h2
end Go.Proofs.YtlcfpdmicpggbaaGreatDoor
namespace Go.Proofs.YtlcfpdmicpggbaaGreatDoor
open Go.Lib (hid)
open Go.RowKit Go.Proofs.Spl Go.Proofs.Scn Go.Shelf
theorem tok_new (W:World) (t:Tok):OwnT W.heap.size (W.alloc (.cells #[.int .i64 t.k,.string (bs t.s),.int .i64 t.w,.int .u64 t.v,.int .i64 t.p] 55)) (.slice (some ⟨W.heap.size,0,none⟩) 1 1) [t]:=
 ⟨by simp [cellsTs,cellsT],.inr ⟨W.heap.size,1,_,rfl,Nat.le_refl _,heap_alloc_new W _,Nat.le_refl _,by decide,rfl,by simp [cellsTs,cellsT]⟩⟩
end Go.Proofs.YtlcfpdmicpggbaaGreatDoor
namespace Go.Proofs.YtlcfpdmicpggbaaGreatDoor
open Go.Lib (hid)
open Go.RowKit Go.Proofs.Spl Go.Proofs.Scn Go.Shelf
def TkP (W:World) (ts:List Tok) (e:Ending) (W':World):Prop:=∃ p n c,e=.returned (.slice p n c)∧OwnT W.heap.size W' (.slice p n c) ts∧Below W.heap.size W W'
theorem sign4_any (s:Ln) (W:World):Calls Tryz.prog 100 #[.string (bs s)] W (TkP W [sgT s]):=by
 go_enter Tryz.func100,Tryz.ntmps100
 go_wp2
 go_ret
 exact ⟨_,_,_,rfl,tok_new W (sgT s),(Below.refl _ _).alloc (Nat.le_refl _) _⟩
theorem word4_any (s:Ln) (W:World):Calls Tryz.prog 51 #[.string (bs s)] W (TkP W [wdT s]):=by
 go_enter Tryz.func51,Tryz.ntmps51
 go_wp2
 go_ret
 exact ⟨_,_,_,rfl,tok_new W (wdT s),(Below.refl _ _).alloc (Nat.le_refl _) _⟩
theorem name4_any (s:Ln) (W:World):Calls Tryz.prog 52 #[.string (bs s)] W (TkP W [nmT s]):=by
 go_enter Tryz.func52,Tryz.ntmps52
 go_wp2
 go_ret
 exact ⟨_,_,_,rfl,tok_new W (nmT s),(Below.refl _ _).alloc (Nat.le_refl _) _⟩
def JoinR (W:World) (g:Nat) (vs:List (Value × List Tok)):Prop:=g<W.heap.size∧∀ k (h:k<vs.length),W.cell? ⟨g,k,none⟩=some vs[k].1∧OwnT 0 W vs[k].1 vs[k].2
def allT (vs:List (Value × List Tok)):List Tok:=(vs.map Prod.snd).flatten
theorem allT_take (vs:List (Value × List Tok)) (k:Nat) (h:k<vs.length):allT (vs.take (k+1))=allT (vs.take k) ++ vs[k].2:=by
 unfold allT
 rw [List.take_succ_eq_append_getElem h,List.map_append,List.flatten_append]
 simp
theorem allT_le (vs:List (Value × List Tok)) (k:Nat):(allT (vs.take k)).length≤(allT vs).length:=by
 conv=>rhs;rw [← List.take_append_drop k vs]
 unfold allT
 rw [List.map_append,List.flatten_append,List.length_append]
 omega
theorem join4_any (g cap:Nat) (vs:List (Value × List Tok)) (W:World) (hR:JoinR W g vs) (hn:vs.length≤1000) (hl:(allT vs).length≤5000000) :
  Calls Tryz.prog 50 #[.slice (some ⟨g,0,none⟩) vs.length cap] W (TkP W (allT vs)):=by
 have HL:=hid hl
 have HR:=hid (show ∀ W9,Below W.heap.size W W9→∀ k (h:k<vs.length),W9.cell? ⟨g,k,none⟩=some vs[k].1∧∃ p n c,vs[k].1=.slice p n c from fun W9 hb k h=>by
  obtain ⟨h1,h2⟩:=hR.2 k h
  refine ⟨(hb.cell (p:=⟨g,k,none⟩) hR.1).trans h1,?_⟩
  obtain ⟨p,c,e⟩:=h2.shape
  exact ⟨_,_,_,e⟩)
 have HT:=hid (show ∀ W9,Below W.heap.size W W9→∀ k (h:k<vs.length),OwnT 0 W9 vs[k].1 vs[k].2 from fun W9 hb k h=>(hR.2 k h).2.later hb)
 clear hl hR
 go_enter Tryz.func50,Tryz.ntmps50
 go_wp2
 go_loopw [3,4] (fun u i wr=>∃ (k n:Nat) (pq:Option Addr) (cp:Nat),u=.slice pq n cp∧i=.int .i64 k∧k≤vs.length∧Hid (n=(allT (vs.take k)).length)∧Hid (OwnT W.heap.size wr (.slice pq n cp) (allT (vs.take k)))∧Hid (Below W.heap.size W wr)) (fun _ i _=>vs.length - (intOf i).toNat)
 case atStart=>
  refine ⟨0,0,some ⟨W.heap.size,0,none⟩,0,rfl,rfl,Nat.zero_le _,hid rfl,hid ?_,hid ((Below.refl _ _).alloc (Nat.le_refl _) _)⟩
  exact World.ownsRow_made W #[] 0 (Nat.le_refl _) (by decide) rfl
 case round=>
  obtain ⟨k,n,pq,cp,rfl,rfl,hk,HN,HO,HX⟩:=hrel
  by_cases hlt:k<vs.length
  case neg=>
   obtain rfl:k=vs.length:=by omega
   have hO:=HO.out
   rw [List.take_length] at hO
   have HO2:=hid hO
   clear hO
   go_wp2
   go_ret
   exact ⟨_,_,_,rfl,HO2.out,HX.out⟩
  obtain ⟨x0,p1,n1,c1,he⟩:=HR.out wr HX.out k hlt
  have hT:=HT.out wr HX.out k hlt
  rw [he] at x0 hT
  have HTT:=hid hT
  have HTK:=hid (allT_take vs k hlt)
  have HB1:=hid (show (allT (vs.take k)).length+vs[k].2.length≤20000000 by
   have h1:=allT_le vs (k+1)
   rw [allT_take vs k hlt,List.length_append] at h1
   have:=HL.out
   omega)
  clear hT he
  generalize vs[k].2=tk at *
  go_wp2_with (at_builtin;refine wpList_append_toks rfl _ _ rfl W.heap.size _ (allT (vs.take k)) tk rfl HO.out 0 _ rfl HTT.out HB1.out HX.out.size ?_;intro p6 c6 N w6 hN hO hgr;have HN6:=hid hN.out;have HO6:=hid hO;have HX6:=hid (Below.grown HX.out hgr HX.out.size (fun k hk=>HO.out.base k hk));clear hN hO hgr)
  go_roundw
  case rel=>exact ⟨k+1,_,p6,c6,rfl,by go_num,hlt,hid (by rw [HTK.out];exact HN6.out),hid (by rw [HTK.out];exact HO6.out),HX6⟩
  case measure=>simp [intOf];omega
def inT' (o:Ln) (l:List Tok) (s:Ln):List Tok:=sgT o :: (l ++ [sgT s])
theorem OwnT.lower {A B:Nat} {w:World} {v:Value} {l:List Tok} (h:OwnT B w v l) (hA:A≤B):OwnT A w v l:=by
 refine ⟨h.1,?_⟩
 rcases h.2 with h0 | ⟨g,cap,cur,hv,hB,hg,h1⟩
 ·exact .inl h0
 ·exact .inr ⟨g,cap,cur,hv,Nat.le_trans hA hB,hg,h1⟩
theorem OwnT.zero {B:Nat} {w:World} {v:Value} {l:List Tok} (h:OwnT B w v l):OwnT 0 w v l:=by
 refine ⟨h.1,?_⟩
 rcases h.2 with h0 | ⟨g,cap,cur,hv,hB,hg,h1⟩
 ·exact .inl h0
 ·exact .inr ⟨g,cap,cur,hv,Nat.zero_le _,hg,h1⟩
theorem between4_any (o s:Ln) (p:Option Addr) (n c:Nat) (ts:List Tok) (W:World) (h:OwnT 0 W (.slice p n c) ts) (hl:ts.length≤4000000) :
  Calls Tryz.prog 102 #[.string (bs o),.slice p n c,.string (bs s)] W (TkP W (inT' o ts s)):=by
 have T0:=hid h
 have HL:=hid hl
 clear h hl
 go_enter Tryz.func102,Tryz.ntmps102
 go_wp2_with (first
  | (go_at_call 100;refine (sign4_any o W).mono ?_;rintro e W1 ⟨p1,n1,c1,rfl,ho,hb⟩;have S1:=hid ho.zero;have T1:=hid (T0.out.later hb);have X1:=hid hb;clear hb ho)
  | (go_at_call 100;refine (sign4_any s W1).mono ?_;rintro e W2 ⟨p2,n2,c2,rfl,ho,hb⟩;have U2:=hid ho.zero;have S2:=hid (S1.out.later hb);have T2:=hid (T1.out.later hb);have X2:=hid (X1.out.trans (hb.mono X1.out.size));clear hb ho)
  | (go_at_call 50;refine (join4_any W2.heap.size 3 [(.slice p1 n1 c1,[sgT o]),(.slice p n c,ts),(.slice p2 n2 c2,[sgT s])] _ ⟨by simp,fun k hk=>?jr⟩ (by simp) (by have:=HL.out;simp [allT];omega)).mono ?jm))
 case jr=>
  have hb:=(Below.refl W2.heap.size W2).alloc (Nat.le_refl _) (.cells #[.slice p1 n1 c1,.slice p n c,.slice p2 n2 c2] 36)
  have hc:=World.alloc_heap_new W2 (.cells #[.slice p1 n1 c1,.slice p n c,.slice p2 n2 c2] 36)
  match k,hk with
  | 0,_=>exact ⟨(cell_of_row _ _ 0 _ _ _ hc).trans rfl,S2.out.later hb⟩
  | 1,_=>exact ⟨(cell_of_row _ _ 1 _ _ _ hc).trans rfl,T2.out.later hb⟩
  | 2,_=>exact ⟨(cell_of_row _ _ 2 _ _ _ hc).trans rfl,U2.out.later hb⟩
 case jm=>
  rintro e W3 ⟨p3,n3,c3,rfl,ho,hb⟩
  have X3:=hid ((X2.out.alloc X2.out.size (.cells #[.slice p1 n1 c1,.slice p n c,.slice p2 n2 c2] 36)).trans (hb.mono (by have:=X2.out.size;simp;omega)))
  have O3:=hid (ho.lower (A:=W.heap.size) (by have:=X2.out.size;simp;omega))
  clear hb ho
  go_wp2
  go_ret
  refine ⟨_,_,_,rfl,?_,X3.out⟩
  have e:inT' o ts s=allT [(.slice p1 n1 c1,[sgT o]),(.slice p n c,ts),(.slice p2 n2 c2,[sgT s])]:=by simp [allT,inT']
  rw [e]
  exact O3.out
end Go.Proofs.YtlcfpdmicpggbaaGreatDoor
namespace Go.Proofs.YtlcfpdmicpggbaaGreatDoor
open Go.Lib (hid)
open Go.RowKit Go.Proofs.Spl Go.Proofs.Scn Go.Shelf
theorem one4_any (n:Int) (W:World):Calls Tryz.prog 111 #[.int .i64 n] W fun e W'=>e=.returned (.string (bs (oneS n)))∧W=W':=by
 have HR:=hid (show oneS n=if n=1 then [126] else if n=2 then [45] else if n=3 then [38] else if n=4 then [124] else if n=5 then [94] else [33] from rfl)
 generalize oneS n=S at *
 go_enter Tryz.func111,Tryz.ntmps111
 go_wp2
 all_goals
  go_ret
  refine ⟨?_,rfl⟩
  rw [HR.out]
  simp_all [bs]
theorem ext4_any (n:Int) (W:World):Calls Tryz.prog 115 #[.int .i64 n] W fun e W'=>e=.returned (.string (bs (extS n)))∧W=W':=by
 have HR:=hid (show extS n=if n=31 then [122,101,120,116] else if n=32 then [115,101,120,116] else [116,114,117,110,99] from rfl)
 generalize extS n=S at *
 go_enter Tryz.func115,Tryz.ntmps115
 go_wp2
 all_goals
  go_ret
  refine ⟨?_,rfl⟩
  rw [HR.out]
  simp_all [bs]
end Go.Proofs.YtlcfpdmicpggbaaGreatDoor
namespace Go.Proofs.YtlcfpdmicpggbaaGreatDoor
open Go.Lib (hid)
open Go.RowKit Go.Proofs.Spl Go.Proofs.Scn Go.Shelf
theorem atX {W:World} {p:Option Addr} {c:Nat} {l:List X} (h:XsR W (.slice p l.length c) l) {k:Nat} (hk:k<l.length) :
  ∃ q off pl cl,p=some ⟨q,off,none⟩∧∀ W9,Below W.heap.size W W9→XR W9 l[k] [.int .i64 l[k].op,.string (bs l[k].name),.int .i64 l[k].n,.int .i64 l[k].w,.int .u64 l[k].v,.slice pl l[k].l.length cl]∧(W9.cell? ⟨q,off+k * 6,none⟩=some (.int .i64 l[k].op)∧W9.cell? ⟨q,off+k * 6+1,none⟩=some (.string (bs l[k].name))∧W9.cell? ⟨q,off+k * 6+2,none⟩=some (.int .i64 l[k].n)∧W9.cell? ⟨q,off+k * 6+3,none⟩=some (.int .i64 l[k].w)∧W9.cell? ⟨q,off+k * 6+4,none⟩=some (.int .u64 l[k].v)∧W9.cell? ⟨q,off+k * 6+5,none⟩=some (.slice pl l[k].l.length cl)):=by
 obtain ⟨p',c',e,_,h⟩:=h
 cases e
 rcases h with h | ⟨q,off,rfl,hq,hc⟩
 ·rw [h] at hk;cases hk
 obtain ⟨cs0,hR,hcs⟩:=hc k hk
 obtain ⟨_,ls,rfl,hL⟩:=XR_iff.1 hR
 obtain ⟨pl,cl,rfl,_⟩:=hL
 exact ⟨q,off,pl,cl,rfl,fun W9 hb=>⟨XR.later hb _ _ hR,(hb.cell (p:=⟨q,off+k * 6+0,none⟩) hq).trans (hcs 0 (by omega)),(hb.cell (p:=⟨q,off+k * 6+1,none⟩) hq).trans (hcs 1 (by omega)),(hb.cell (p:=⟨q,off+k * 6+2,none⟩) hq).trans (hcs 2 (by omega)),(hb.cell (p:=⟨q,off+k * 6+3,none⟩) hq).trans (hcs 3 (by omega)),(hb.cell (p:=⟨q,off+k * 6+4,none⟩) hq).trans (hcs 4 (by omega)),(hb.cell (p:=⟨q,off+k * 6+5,none⟩) hq).trans (hcs 5 (by omega))⟩⟩
theorem atS {W:World} {p:Option Addr} {c:Nat} {l:List S} (h:SsR W (.slice p l.length c) l) {k:Nat} (hk:k<l.length) :
  ∃ q off px cx pl cl,p=some ⟨q,off,none⟩∧∀ W9,Below W.heap.size W W9→SR W9 l[k] [.int .i64 l[k].op,.string (bs l[k].name),.slice px l[k].x.length cx,.slice pl l[k].l.length cl]∧(W9.cell? ⟨q,off+k * 4,none⟩=some (.int .i64 l[k].op)∧W9.cell? ⟨q,off+k * 4+1,none⟩=some (.string (bs l[k].name))∧W9.cell? ⟨q,off+k * 4+2,none⟩=some (.slice px l[k].x.length cx)∧W9.cell? ⟨q,off+k * 4+3,none⟩=some (.slice pl l[k].l.length cl)):=by
 obtain ⟨p',c',e,_,h⟩:=h
 cases e
 rcases h with h | ⟨q,off,rfl,hq,hc⟩
 ·rw [h] at hk;cases hk
 obtain ⟨cs0,hR,hcs⟩:=hc k hk
 obtain ⟨xs,ls,rfl,hX,hL⟩:=SR_iff.1 hR
 obtain ⟨px,cx,rfl,_⟩:=hX
 obtain ⟨pl,cl,rfl,_⟩:=hL
 exact ⟨q,off,px,cx,pl,cl,rfl,fun W9 hb=>⟨SR.later hb _ _ hR,(hb.cell (p:=⟨q,off+k * 4+0,none⟩) hq).trans (hcs 0 (by omega)),(hb.cell (p:=⟨q,off+k * 4+1,none⟩) hq).trans (hcs 1 (by omega)),(hb.cell (p:=⟨q,off+k * 4+2,none⟩) hq).trans (hcs 2 (by omega)),(hb.cell (p:=⟨q,off+k * 4+3,none⟩) hq).trans (hcs 3 (by omega))⟩⟩
theorem atB {W:World} {p:Option Addr} {c:Nat} {l:List Bd} (h:BsR W (.slice p l.length c) l) {k:Nat} (hk:k<l.length) :
  ∃ q off pl cl,p=some ⟨q,off,none⟩∧∀ W9,Below W.heap.size W W9→BR W9 l[k] [.string (bs l[k].name),.int .i64 l[k].x.op,.string (bs l[k].x.name),.int .i64 l[k].x.n,.int .i64 l[k].x.w,.int .u64 l[k].x.v,.slice pl l[k].x.l.length cl]∧(W9.cell? ⟨q,off+k * 7,none⟩=some (.string (bs l[k].name))∧W9.cell? ⟨q,off+k * 7+1,none⟩=some (.int .i64 l[k].x.op)∧W9.cell? ⟨q,off+k * 7+2,none⟩=some (.string (bs l[k].x.name))∧W9.cell? ⟨q,off+k * 7+3,none⟩=some (.int .i64 l[k].x.n)∧W9.cell? ⟨q,off+k * 7+4,none⟩=some (.int .i64 l[k].x.w)∧W9.cell? ⟨q,off+k * 7+5,none⟩=some (.int .u64 l[k].x.v)∧W9.cell? ⟨q,off+k * 7+6,none⟩=some (.slice pl l[k].x.l.length cl)):=by
 obtain ⟨p',c',e,_,h⟩:=h
 cases e
 rcases h with h | ⟨q,off,rfl,hq,hc⟩
 ·rw [h] at hk;cases hk
 obtain ⟨cs0,hR,hcs⟩:=hc k hk
 obtain ⟨xs,rfl,hX⟩:=id hR
 obtain ⟨_,ls,rfl,hL⟩:=XR_iff.1 hX
 obtain ⟨pl,cl,rfl,_⟩:=hL
 exact ⟨q,off,pl,cl,rfl,fun W9 hb=>⟨BR.later hb _ _ hR,(hb.cell (p:=⟨q,off+k * 7+0,none⟩) hq).trans (hcs 0 (by omega)),(hb.cell (p:=⟨q,off+k * 7+1,none⟩) hq).trans (hcs 1 (by omega)),(hb.cell (p:=⟨q,off+k * 7+2,none⟩) hq).trans (hcs 2 (by omega)),(hb.cell (p:=⟨q,off+k * 7+3,none⟩) hq).trans (hcs 3 (by omega)),(hb.cell (p:=⟨q,off+k * 7+4,none⟩) hq).trans (hcs 4 (by omega)),(hb.cell (p:=⟨q,off+k * 7+5,none⟩) hq).trans (hcs 5 (by omega)),(hb.cell (p:=⟨q,off+k * 7+6,none⟩) hq).trans (hcs 6 (by omega))⟩⟩
theorem atP {W:World} {p:Option Addr} {c:Nat} {l:List Pt} (h:PsR W (.slice p l.length c) l) {k:Nat} (hk:k<l.length) :
  ∃ q off pl cl,p=some ⟨q,off,none⟩∧∀ W9,Below W.heap.size W W9→PR W9 l[k] [.string (bs l[k].name),.bool l[k].out,.int .i64 l[k].w.op,.string (bs l[k].w.name),.int .i64 l[k].w.n,.int .i64 l[k].w.w,.int .u64 l[k].w.v,.slice pl l[k].w.l.length cl]∧(W9.cell? ⟨q,off+k * 8,none⟩=some (.string (bs l[k].name))∧W9.cell? ⟨q,off+k * 8+1,none⟩=some (.bool l[k].out)∧W9.cell? ⟨q,off+k * 8+2,none⟩=some (.int .i64 l[k].w.op)∧W9.cell? ⟨q,off+k * 8+3,none⟩=some (.string (bs l[k].w.name))∧W9.cell? ⟨q,off+k * 8+4,none⟩=some (.int .i64 l[k].w.n)∧W9.cell? ⟨q,off+k * 8+5,none⟩=some (.int .i64 l[k].w.w)∧W9.cell? ⟨q,off+k * 8+6,none⟩=some (.int .u64 l[k].w.v)∧W9.cell? ⟨q,off+k * 8+7,none⟩=some (.slice pl l[k].w.l.length cl)):=by
 obtain ⟨p',c',e,_,h⟩:=h
 cases e
 rcases h with h | ⟨q,off,rfl,hq,hc⟩
 ·rw [h] at hk;cases hk
 obtain ⟨cs0,hR,hcs⟩:=hc k hk
 obtain ⟨xs,rfl,hX⟩:=id hR
 obtain ⟨_,ls,rfl,hL⟩:=XR_iff.1 hX
 obtain ⟨pl,cl,rfl,_⟩:=hL
 exact ⟨q,off,pl,cl,rfl,fun W9 hb=>⟨PR.later hb _ _ hR,(hb.cell (p:=⟨q,off+k * 8+0,none⟩) hq).trans (hcs 0 (by omega)),(hb.cell (p:=⟨q,off+k * 8+1,none⟩) hq).trans (hcs 1 (by omega)),(hb.cell (p:=⟨q,off+k * 8+2,none⟩) hq).trans (hcs 2 (by omega)),(hb.cell (p:=⟨q,off+k * 8+3,none⟩) hq).trans (hcs 3 (by omega)),(hb.cell (p:=⟨q,off+k * 8+4,none⟩) hq).trans (hcs 4 (by omega)),(hb.cell (p:=⟨q,off+k * 8+5,none⟩) hq).trans (hcs 5 (by omega)),(hb.cell (p:=⟨q,off+k * 8+6,none⟩) hq).trans (hcs 6 (by omega)),(hb.cell (p:=⟨q,off+k * 8+7,none⟩) hq).trans (hcs 7 (by omega))⟩⟩
theorem atI {W:World} {p:Option Addr} {c:Nat} {l:List It} (h:IsR W (.slice p l.length c) l) {k:Nat} (hk:k<l.length) :
  ∃ q off px cx ps cs pl cl pe ce pp cp pb cb,p=some ⟨q,off,none⟩∧∀ W9,Below W.heap.size W W9→IR W9 l[k] [.int .i64 l[k].op,.string (bs l[k].name),.string (bs l[k].of),.slice px l[k].x.length cx,.slice ps l[k].s.length cs,.slice pl l[k].l.length cl,.slice pe l[k].e.length ce,.slice pp l[k].ps.length cp,.slice pb l[k].bs.length cb]∧(W9.cell? ⟨q,off+k * 9,none⟩=some (.int .i64 l[k].op)∧W9.cell? ⟨q,off+k * 9+1,none⟩=some (.string (bs l[k].name))∧W9.cell? ⟨q,off+k * 9+2,none⟩=some (.string (bs l[k].of))∧W9.cell? ⟨q,off+k * 9+3,none⟩=some (.slice px l[k].x.length cx)∧W9.cell? ⟨q,off+k * 9+4,none⟩=some (.slice ps l[k].s.length cs)∧W9.cell? ⟨q,off+k * 9+5,none⟩=some (.slice pl l[k].l.length cl)∧W9.cell? ⟨q,off+k * 9+6,none⟩=some (.slice pe l[k].e.length ce)∧W9.cell? ⟨q,off+k * 9+7,none⟩=some (.slice pp l[k].ps.length cp)∧W9.cell? ⟨q,off+k * 9+8,none⟩=some (.slice pb l[k].bs.length cb)):=by
 obtain ⟨p',c',e,_,h⟩:=h
 cases e
 rcases h with h | ⟨q,off,rfl,hq,hc⟩
 ·rw [h] at hk;cases hk
 obtain ⟨cs0,hR,hcs⟩:=hc k hk
 obtain ⟨xs,ss,ls,es,vp,vb,rfl,hX,hS,hP,hB,hL,hE⟩:=IR_iff.1 hR
 obtain ⟨px,cx,rfl,_⟩:=hX
 obtain ⟨ps,cs,rfl,_⟩:=hS
 obtain ⟨pl,cl,rfl,_⟩:=hL
 obtain ⟨pe,ce,rfl,_⟩:=hE
 obtain ⟨pp,cp,rfl,_⟩:=hP
 obtain ⟨pb,cb,rfl,_⟩:=hB
 exact ⟨q,off,px,cx,ps,cs,pl,cl,pe,ce,pp,cp,pb,cb,rfl,fun W9 hb=>⟨IR.later hb _ _ hR,(hb.cell (p:=⟨q,off+k * 9+0,none⟩) hq).trans (hcs 0 (by omega)),(hb.cell (p:=⟨q,off+k * 9+1,none⟩) hq).trans (hcs 1 (by omega)),(hb.cell (p:=⟨q,off+k * 9+2,none⟩) hq).trans (hcs 2 (by omega)),(hb.cell (p:=⟨q,off+k * 9+3,none⟩) hq).trans (hcs 3 (by omega)),(hb.cell (p:=⟨q,off+k * 9+4,none⟩) hq).trans (hcs 4 (by omega)),(hb.cell (p:=⟨q,off+k * 9+5,none⟩) hq).trans (hcs 5 (by omega)),(hb.cell (p:=⟨q,off+k * 9+6,none⟩) hq).trans (hcs 6 (by omega)),(hb.cell (p:=⟨q,off+k * 9+7,none⟩) hq).trans (hcs 7 (by omega)),(hb.cell (p:=⟨q,off+k * 9+8,none⟩) hq).trans (hcs 8 (by omega))⟩⟩
theorem atM {W:World} {p:Option Addr} {c:Nat} {l:List Md} (h:MsR W (.slice p l.length c) l) {k:Nat} (hk:k<l.length) :
  ∃ q off pp cp pt ct pl cl,p=some ⟨q,off,none⟩∧∀ W9,Below W.heap.size W W9→MR W9 l[k] [.string (bs l[k].name),.slice pp l[k].ps.length cp,.slice pt l[k].pts.length ct,.slice pl l[k].l.length cl]∧(W9.cell? ⟨q,off+k * 4,none⟩=some (.string (bs l[k].name))∧W9.cell? ⟨q,off+k * 4+1,none⟩=some (.slice pp l[k].ps.length cp)∧W9.cell? ⟨q,off+k * 4+2,none⟩=some (.slice pt l[k].pts.length ct)∧W9.cell? ⟨q,off+k * 4+3,none⟩=some (.slice pl l[k].l.length cl)):=by
 obtain ⟨p',c',e,_,h⟩:=h
 cases e
 rcases h with h | ⟨q,off,rfl,hq,hc⟩
 ·rw [h] at hk;cases hk
 obtain ⟨cs0,hR,hcs⟩:=hc k hk
 obtain ⟨vp,vt,vi,rfl,hP,hT,hL⟩:=id hR
 obtain ⟨pp,cp,rfl,_⟩:=hP
 obtain ⟨pt,ct,rfl,_⟩:=hT
 obtain ⟨pl,cl,rfl,_⟩:=hL
 exact ⟨q,off,pp,cp,pt,ct,pl,cl,rfl,fun W9 hb=>⟨MR.later hb _ _ hR,(hb.cell (p:=⟨q,off+k * 4+0,none⟩) hq).trans (hcs 0 (by omega)),(hb.cell (p:=⟨q,off+k * 4+1,none⟩) hq).trans (hcs 1 (by omega)),(hb.cell (p:=⟨q,off+k * 4+2,none⟩) hq).trans (hcs 2 (by omega)),(hb.cell (p:=⟨q,off+k * 4+3,none⟩) hq).trans (hcs 3 (by omega))⟩⟩
theorem box4 (W:World) (v0 v1 v2 v3:Value) (T:TypeId) (w':World) (h:Below (W.alloc (.cells #[v0,v1,v2,v3] T)).heap.size (W.alloc (.cells #[v0,v1,v2,v3] T)) w'):w'.cell? ⟨W.heap.size,0,none⟩=some v0∧w'.cell? ⟨W.heap.size,1,none⟩=some v1∧w'.cell? ⟨W.heap.size,2,none⟩=some v2∧w'.cell? ⟨W.heap.size,3,none⟩=some v3:=by
 have hc:=(h.block W.heap.size (by simp)).trans (World.alloc_heap_new W (.cells #[v0,v1,v2,v3] T))
 refine ⟨?_,?_,?_,?_⟩ <;> simp [World.cell?,hc]
theorem box6 (W:World) (v0 v1 v2 v3 v4 v5:Value) (T:TypeId) (w':World) (h:Below (W.alloc (.cells #[v0,v1,v2,v3,v4,v5] T)).heap.size (W.alloc (.cells #[v0,v1,v2,v3,v4,v5] T)) w'):w'.cell? ⟨W.heap.size,0,none⟩=some v0∧w'.cell? ⟨W.heap.size,1,none⟩=some v1∧w'.cell? ⟨W.heap.size,2,none⟩=some v2∧w'.cell? ⟨W.heap.size,3,none⟩=some v3∧w'.cell? ⟨W.heap.size,4,none⟩=some v4∧w'.cell? ⟨W.heap.size,5,none⟩=some v5:=by
 have hc:=(h.block W.heap.size (by simp)).trans (World.alloc_heap_new W (.cells #[v0,v1,v2,v3,v4,v5] T))
 refine ⟨?_,?_,?_,?_,?_,?_⟩ <;> simp [World.cell?,hc]
theorem box9 (W:World) (v0 v1 v2 v3 v4 v5 v6 v7 v8:Value) (T:TypeId) (w':World) (h:Below (W.alloc (.cells #[v0,v1,v2,v3,v4,v5,v6,v7,v8] T)).heap.size (W.alloc (.cells #[v0,v1,v2,v3,v4,v5,v6,v7,v8] T)) w'):w'.cell? ⟨W.heap.size,0,none⟩=some v0∧w'.cell? ⟨W.heap.size,1,none⟩=some v1∧w'.cell? ⟨W.heap.size,2,none⟩=some v2∧w'.cell? ⟨W.heap.size,3,none⟩=some v3∧w'.cell? ⟨W.heap.size,4,none⟩=some v4∧w'.cell? ⟨W.heap.size,5,none⟩=some v5∧w'.cell? ⟨W.heap.size,6,none⟩=some v6∧w'.cell? ⟨W.heap.size,7,none⟩=some v7∧w'.cell? ⟨W.heap.size,8,none⟩=some v8:=by
 have hc:=(h.block W.heap.size (by simp)).trans (World.alloc_heap_new W (.cells #[v0,v1,v2,v3,v4,v5,v6,v7,v8] T))
 refine ⟨?_,?_,?_,?_,?_,?_,?_,?_,?_⟩ <;> simp [World.cell?,hc]
end Go.Proofs.YtlcfpdmicpggbaaGreatDoor
namespace Go.Proofs.Spl
open Go.Lib (hid)
open Go.Proofs.Scn
theorem name_word0 {s:Ln} (h:isWord s=true):isName s=false:=by simp [isName,h]
def nameP (s:Ln) (k:Nat):Bool:=(s.take k).all isPart && (k == 0 || isLetter (s.headD 0))
theorem nameP_no {s:Ln} {k:Nat} (hk:k<s.length) (h:isLetter s[k]=false) (h2:k=0∨isDigit s[k]=false):isName s=false:=by
 rw [Bool.eq_false_iff]
 intro e
 simp only [isName,Bool.and_eq_true,List.all_eq_true] at e
 have h1:=e.1.2 _ (List.getElem_mem hk)
 rcases h2 with rfl | h2
 ·match s,hk with
  | c :: r,_=>simp at h e;rw [h] at e;simp at e
 ·simp [isPart,h,h2] at h1
theorem nameP_next {s:Ln} {k:Nat} (hk:k<s.length) (h:nameP s k=true) (h2:isLetter s[k]=true∨(k ≠ 0∧isDigit s[k]=true)):nameP s (k+1)=true:=by
 unfold nameP at h ⊢
 rw [List.take_succ_eq_append_getElem hk,List.all_append]
 simp only [Bool.and_eq_true,Bool.or_eq_true,beq_iff_eq,List.all_cons,List.all_nil,Bool.and_true] at h ⊢
 refine ⟨⟨h.1,?_⟩,.inr ?_⟩
 ·unfold isPart;rcases h2 with h2 | h2 <;> simp [h2]
 ·rcases h.2 with h0 | h0
  ·subst h0
   rcases h2 with h2 | h2
   ·match s,hk with
    | c :: r,_=>simpa using h2
   ·exact absurd rfl h2.1
  ·exact h0
theorem nameP_end {s:Ln} (h:nameP s s.length=true) (hw:isWord s=false):isName s=(decide (1≤s.length) && decide (s.length≤64)):=by
 unfold nameP at h
 rw [List.take_length] at h
 simp only [Bool.and_eq_true,Bool.or_eq_true,beq_iff_eq] at h
 unfold isName
 rw [hw,h.1]
 match s,h with
 | [],_=>rfl
 | c :: r,h=>
  have:isLetter c=true:=by simpa using h.2
  simp [this]
end Go.Proofs.Spl
namespace Go.Proofs.YtlcfpdmicpggbaaGreatDoor
open Go.Lib (hid)
open Go.RowKit Go.Proofs.Spl Go.Proofs.Scn Go.Shelf
abbrev RB (f:FuncId) (args:Array Value) (W:World) (b:Bool):Prop:=Calls Tryz.prog f args W fun e W'=>e=.returned (.bool b)∧Below W.heap.size W W'
theorem words3_any (W:World):Calls Tryz.prog 208 #[] W fun e W'=>e=.returned (.slice (some ⟨W.heap.size,0,none⟩) 19 19)∧Below W.heap.size W W'∧∀ W9,Below W'.heap.size W' W9→∀ k (h:k<wordsL.length),W9.cell? ⟨W.heap.size,k,none⟩=some (.string (bs wordsL[k])):=by
 go_enter Tryz.func208,Tryz.ntmps208
 go_wp2
 go_ret
 refine ⟨rfl,(Below.refl _ _).alloc (Nat.le_refl _) _,fun W9 hb k h=>?_⟩
 refine (hb.cell (p:=⟨W.heap.size,k,none⟩) (by simp)).trans ?_
 refine (cell_of_row _ _ k (wordsL.map fun l=>Value.string (bs l)).toArray _ _ (World.alloc_heap_new W _)).trans ?_
 simp [h]
theorem name3_any (s:Ln) (hs:s.length≤140737488355328) (W:World):RB 170 #[.string (bs s)] W (isName s):=by
 have hsz:(bs s).size=s.length:=rfl
 have HF:=hid (fun (h:isWord s=true)=>name_word0 h)
 have HP:=hid (fun (k:Nat) (hk:k<s.length)=>@nameP_no s k hk)
 have HE:=hid (@nameP_end s)
 have HW:=hid (show ∀ k (h:k<wordsL.length),((bs s).toList == (bs wordsL[k]).toList)=decide (s=wordsL[k]) from fun k h=>by rw [toList_eq,toList_eq,list_bs,list_bs,Bool.eq_iff_iff];simp)
 have HM:=hid (show ∀ k (h:k<wordsL.length),s=wordsL[k]→isWord s=true from fun k h e=>List.contains_iff_mem.2 (e ▸ List.getElem_mem h))
 have HN:=hid (show (∀ k (h:k<wordsL.length),s ≠ wordsL[k])→isWord s=false from fun h=>by
  rw [Bool.eq_false_iff]
  intro e
  obtain ⟨k,hk,e⟩:=List.mem_iff_getElem.1 (List.contains_iff_mem.1 e)
  exact h k hk e.symm)
 generalize isName s=R at *
 generalize isWord s=wd at *
 go_enter Tryz.func170,Tryz.ntmps170
 go_wp2_with (go_at_call 208;refine (words3_any _).mono ?_;rintro e W1 ⟨rfl,hb,hc⟩;have HB:=hid hb;have HC:=hid hc;clear hb hc)
 go_loopw [4] (fun i wr=>∃ k:Nat,i=.int .i64 k∧k≤19∧Hid (∀ j (h:j<wordsL.length),j<k→s ≠ wordsL[j])∧wr=W1) (fun i _=>19 - (intOf i).toNat)
 case atStart=>exact ⟨0,rfl,by omega,hid (fun j h hj=>by omega),rfl⟩
 case round=>
  obtain ⟨k,rfl,hk,HJ,rfl⟩:=hrel
  by_cases hlt:k<19
  ·have x0:=HC.out _ (Below.refl _ _) k hlt
   have hw:=HW.out k hlt
   have HM2:=hid (HM.out k hlt)
   have HJ2:=hid (show s ≠ wordsL[k]→∀ j (h:j<wordsL.length),j<k+1→s ≠ wordsL[j] from fun h1 j h h2=>by
    by_cases e:j=k
    ·subst e;exact h1
    ·exact HJ.out j h (by omega))
   generalize wordsL[k]=u at *
   by_cases hu:s=u
   ·rw [decide_eq_true hu] at hw
    have HR:=hid (HF.out (HM2.out hu))
    clear hu HM2 HJ2
    go_wp2
    go_ret
    exact ⟨ret_bool HR.out.symm,HB.out⟩
   ·rw [decide_eq_false hu] at hw
    have HR:=hid (HJ2.out hu)
    clear hu HM2 HJ2
    go_wp2
    go_roundw
    case rel=>exact ⟨k+1,by go_num,by omega,HR,by trivial⟩
    case measure=>simp [intOf];omega
  ·have hw:=HN.out (fun j h=>HJ.out j h (by have:wordsL.length=19:=rfl;omega))
   have HE2:=hid (fun h=>HE.out h hw)
   clear hw
   go_wp2
   go_loopw [5] (fun i wq=>∃ k:Nat,i=.int .i64 k∧k≤s.length∧Hid (nameP s k=true)∧wq=wr) (fun i _=>s.length - (intOf i).toNat)
   case atStart=>exact ⟨0,rfl,Nat.zero_le _,hid (by simp [nameP]),rfl⟩
   case round=>
    obtain ⟨k,rfl,hk,HK,rfl⟩:=hrel
    by_cases hks:k<s.length
    ·have hkz:k<(bs s).size:=hks
     have hg:(bs s)[k]=s[k]:=rfl
     have HQ:=HP.out k hks
     have HX:=nameP_next hks HK.out
     generalize s[k]=c at *
     have LQ:=hid (show ¬ (97≤(c.toNat:Int)∧(c.toNat:Int)≤122) ∧ ¬ (65≤(c.toNat:Int)∧(c.toNat:Int)≤90) ∧ ¬ (c.toNat:Int)=95∧(k=0∨(c.toNat:Int)<48∨57<(c.toNat:Int))→R=false from fun h=>HQ (by simp [isLetter];omega) (by simp [isDigit];omega))
     have LX:=hid (show (97≤(c.toNat:Int)∧(c.toNat:Int)≤122)∨(65≤(c.toNat:Int)∧(c.toNat:Int)≤90)∨(c.toNat:Int)=95∨(k ≠ 0∧48≤(c.toNat:Int)∧(c.toNat:Int)≤57)→nameP s (k+1)=true from fun h=>HX (by simp [isLetter,isDigit];omega))
     clear HQ HX
     go_wp2
     all_goals try simp only [Bool.not_eq_true',Bool.not_eq_false',decide_eq_true_eq,decide_eq_false_iff_not,beq_iff_eq,beq_eq_false_iff_ne,ne_eq] at *
     all_goals first
      | (exfalso;omega)
      | (go_ret;exact ⟨ret_bool (LQ.out (by omega)).symm,HB.out⟩)
      | (go_roundw
         case rel=>exact ⟨k+1,by first | go_num | simp [*],by omega,hid (LX.out (by omega)),by trivial⟩
         case measure=>simp [intOf];omega)
    ·obtain rfl:k=s.length:=by omega
     have HR:=hid (HE2.out HK.out)
     go_wp2
     all_goals
      go_ret
      exact ⟨ret_bool (by rw [HR.out,Bool.eq_iff_iff];simp;omega),HB.out⟩
end Go.Proofs.YtlcfpdmicpggbaaGreatDoor
namespace Go.Proofs.YtlcfpdmicpggbaaGreatDoor
open Go.Lib (hid)
open Go.RowKit Go.Proofs.Spl Go.Proofs.Scn Go.Shelf
theorem named3_any (op:Int) (W:World):RB 174 #[.int .i64 op] W (namedO op):=by
 have HR:=hid (show namedO op=(op == 2 || op == 3 || op == 4) from rfl)
 generalize namedO op=R at *
 go_enter Tryz.func174,Tryz.ntmps174
 go_wp2
 all_goals (go_ret;exact ⟨ret_bool (by rw [HR.out];all_goals (try simp only [beq_iff_eq,beq_eq_false_iff_ne,ne_eq] at *);all_goals first | (simp [*];done) | simp_all),Below.refl _ _⟩)
theorem parts3_any (op:Int) (n:Nat) (W:World):RB 175 #[.int .i64 op,.int .i64 n] W (partsO op n):=by
 have HR:=hid (show partsO op n=if op=1∨op=2 then (n:Int) == 0 else if op=4∨op=5 then (n:Int) == 1 else if op=3∨op=6∨op=9∨op=10 then (n:Int) == 2 else if op=7 then (n:Int) == 3 else if op=8 then decide (1≤(n:Int)) else false by
  have z:((n:Int) == 0)=(n == 0)∧((n:Int) == 1)=(n == 1)∧((n:Int) == 2)=(n == 2)∧((n:Int) == 3)=(n == 3)∧decide (1≤(n:Int))=decide (1≤n):=by
   refine ⟨?_,?_,?_,?_,?_⟩ <;> rw [Bool.eq_iff_iff] <;> simp <;> omega
  rw [z.1,z.2.1,z.2.2.1,z.2.2.2.1,z.2.2.2.2];rfl)
 generalize partsO op n=R at *
 go_enter Tryz.func175,Tryz.ntmps175
 go_wp2
 all_goals (go_ret;exact ⟨ret_bool (by rw [HR.out];(try simp only [beq_iff_eq,beq_eq_false_iff_ne,ne_eq] at *);simp [*]),Below.refl _ _⟩)
theorem number3_any (op n:Int) (W:World):RB 176 #[.int .i64 op,.int .i64 n] W (numberO op n):=by
 have HR:=hid (show numberO op n=if op=5 then decide (1≤n) && decide (n≤6) else if op=6 then decide (11≤n) && decide (n≤26) else if op=10 then decide (31≤n) && decide (n≤33) else n == 0 from rfl)
 generalize numberO op n=R at *
 go_enter Tryz.func176,Tryz.ntmps176
 go_wp2
 all_goals (go_ret;exact ⟨ret_bool (by rw [HR.out];(try simp only [beq_iff_eq,beq_eq_false_iff_ne,bne_iff_ne,bne_eq_false_iff_eq,ne_eq] at *);first | (simp [*];done) | (simp [*];omega)),Below.refl _ _⟩)
theorem value3_any (op w n:Int) (name:ByteArray) (v:Nat) (ls:Value) (hv:v<two64) (W:World):RB 177 #[.agg #[.int .i64 op,.string name,.int .i64 n,.int .i64 w,.int .u64 v,ls]] W (valueO op w v):=by
 have HR:=hid (show valueO op w v=if op=1 then decide (0≤w) && decide (w≤64) && (w == 0 || w == 64 || (v:Int) / 2 ^ w.toNat == 0) else w == 0 && (v:Int) == 0 by
  have z:((v:Int) / 2 ^ w.toNat == 0)=decide (v<2 ^ w.toNat):=by
   have e:(v:Int) / 2 ^ w.toNat=((v / 2 ^ w.toNat:Nat):Int):=by push_cast;rfl
   rw [e,Bool.eq_iff_iff,beq_iff_eq,decide_eq_true_eq,Int.natCast_eq_zero,Nat.div_eq_zero_iff]
   have:2 ^ w.toNat ≠ 0:=by simp
   omega
  have z2:((v:Int) == 0)=(v == 0):=by rw [Bool.eq_iff_iff];simp
  rw [z,z2];unfold valueO;rw [decide_eq_true hv,Bool.and_true])
 clear hv
 generalize valueO op w v=R at *
 go_enter Tryz.func177,Tryz.ntmps177
 go_wp2
 all_goals (go_ret;exact ⟨ret_bool (by rw [HR.out];(try simp only [beq_iff_eq,beq_eq_false_iff_ne,bne_iff_ne,bne_eq_false_iff_eq,ne_eq] at *);first | (simp [*];done) | (simp [*];omega) | (have hw:¬ 0≤w:=by omega;simp [*];done) | (have hw:¬ w≤64:=by omega;simp [*])),(Below.refl _ _).alloc (Nat.le_refl _) _⟩)
end Go.Proofs.YtlcfpdmicpggbaaGreatDoor
namespace Go.Proofs.YtlcfpdmicpggbaaGreatDoor
open Go.Lib (hid)
open Go.RowKit Go.Proofs.Spl Go.Proofs.Scn Go.Shelf
theorem all_no {α:Type} {ok:α→Bool} {l:List α} {k:Nat} (hk:k<l.length) (h:ok l[k]=false):l.all ok=false:=by
 rw [Bool.eq_false_iff]
 intro e
 rw [List.all_eq_true.1 e _ (List.getElem_mem hk)] at h
 cases h
theorem all_yes {α:Type} {ok:α→Bool} {l:List α} (h:∀ j (hj:j<l.length),j<l.length→ok l[j]=true):l.all ok=true:=List.all_eq_true.2 fun x hx=>by
 obtain ⟨j,hj,rfl⟩:=List.mem_iff_getElem.1 hx
 exact h j hj hj
theorem all_next {α:Type} {ok:α→Bool} {l:List α} {k:Nat} (hk:k<l.length) (h:∀ j (hj:j<l.length),j<k→ok l[j]=true) (h2:ok l[k]=true):∀ j (hj:j<l.length),j<k+1→ok l[j]=true:=fun j hj h1=>by
 rcases Nat.lt_or_ge j k with h3 | h3
 ·exact h j hj h3
 ·have:j=k:=by omega
  subst this;exact h2
def MyX (y:X):Prop:=∀ (W:World) (cs:List Value),XR W y cs→RB 110 #[.agg cs.toArray] W (okX y)
theorem bx {W:World} {y:Bd} {v:Value} {cs:List Value} (h:BR W y (v :: cs)):XR W y.x cs:=by
 obtain ⟨xs,e,h⟩:=h
 cases e
 exact h
def MyS (y:S):Prop:=∀ (W:World) (cs:List Value),SR W y cs→RB 123 #[.agg cs.toArray] W (okS y)
def MyI (y:It):Prop:=∀ (W:World) (cs:List Value),IR W y cs→RB 209 #[.agg cs.toArray] W (okI y)
theorem mayL3_any (p:Option Addr) (cap:Nat) (l:List X) (hl:l.length≤1000000000) (W:World) (hR:XsR W (.slice p l.length cap) l) (hE:∀ y ∈ l,MyX y) :
  RB 178 #[.slice p l.length cap] W (l.all okX):=by
 have HC:=hid (fun k (hk:k<l.length)=>atX hR hk)
 have HE:=hid hE
 have HN:=hid (fun k (hk:k<l.length)=>@all_no _ okX l k hk)
 have HZ:=hid (@all_yes _ okX l)
 clear hR hE
 generalize l.all okX=Q at *
 go_enter Tryz.func178,Tryz.ntmps178
 go_wp2
 go_loopw [3] (fun i wr=>∃ k:Nat,i=.int .i64 k∧k≤l.length∧Hid (∀ j (h:j<l.length),j<k→okX l[j]=true)∧Hid (Below W.heap.size W wr)) (fun i _=>l.length - (intOf i).toNat)
 case atStart=>exact ⟨0,rfl,Nat.zero_le _,hid (fun j h hj=>by omega),hid (Below.refl _ _)⟩
 case round=>
  obtain ⟨k,rfl,hk,HA,HW⟩:=hrel
  by_cases hlt:k<l.length
  ·have hlt':(k:Int)<(l.length:Int):=by omega
   obtain ⟨q,off,pl,cl,rfl,hy⟩:=HC.out k hlt
   have HN2:=hid (HN.out k hlt)
   have HA2:=hid (all_next hlt HA.out)
   have HE2:=hid (HE.out _ (List.getElem_mem hlt))
   generalize l[k]=y at *
   have HY:=hid hy
   obtain ⟨x0,x1,x2,x3,x4,x5⟩:=(hy _ HW.out).2
   have HO:=hid (show okX y=okX y from rfl)
   clear hy
   have C0:=hid (fun (W9:World) (h:Below W.heap.size W W9)=>show RB 110 #[.agg #[.int .i64 y.op,.string (bs y.name),.int .i64 y.n,.int .i64 y.w,.int .u64 y.v,.slice pl y.l.length cl]] W9 (okX y) from HE2.out _ _ (HY.out _ h).1)
   generalize okX y=r0 at *
   go_wp2_with (first
    | (go_at_call 110;refine (C0.out _ HW.out).mono ?_;rintro e V1 ⟨rfl,hb⟩;have X1:=hid (HW.out.trans (hb.mono HW.out.size));clear hb;cases r0))
   all_goals first
    | (go_ret;exact ⟨ret_bool (HN2.out (by first | trivial | rfl | (rw [HO.out];rfl))).symm,by first | exact X1.out⟩)
    | (go_roundw
       case rel=>exact ⟨k+1,by go_num,hlt,hid (HA2.out (by first | trivial | rfl | (rw [HO.out];rfl))),X1⟩
       case measure=>simp [intOf];omega)
  ·have hge:¬ ((k:Int)<(l.length:Int)):=by omega
   have HR:=hid (HZ.out fun j hj _=>HA.out j hj (by omega))
   go_wp2
   go_ret
   exact ⟨ret_bool HR.out.symm,HW.out⟩
theorem mayAll3_any (p:Option Addr) (cap:Nat) (l:List S) (hl:l.length≤1000000000) (W:World) (hR:SsR W (.slice p l.length cap) l) (hE:∀ y ∈ l,MyS y) :
  RB 184 #[.slice p l.length cap] W (l.all okS):=by
 have HC:=hid (fun k (hk:k<l.length)=>atS hR hk)
 have HE:=hid hE
 have HN:=hid (fun k (hk:k<l.length)=>@all_no _ okS l k hk)
 have HZ:=hid (@all_yes _ okS l)
 clear hR hE
 generalize l.all okS=Q at *
 go_enter Tryz.func184,Tryz.ntmps184
 go_wp2
 go_loopw [3] (fun i wr=>∃ k:Nat,i=.int .i64 k∧k≤l.length∧Hid (∀ j (h:j<l.length),j<k→okS l[j]=true)∧Hid (Below W.heap.size W wr)) (fun i _=>l.length - (intOf i).toNat)
 case atStart=>exact ⟨0,rfl,Nat.zero_le _,hid (fun j h hj=>by omega),hid (Below.refl _ _)⟩
 case round=>
  obtain ⟨k,rfl,hk,HA,HW⟩:=hrel
  by_cases hlt:k<l.length
  ·have hlt':(k:Int)<(l.length:Int):=by omega
   obtain ⟨q,off,px,cx,pl,cl,rfl,hy⟩:=HC.out k hlt
   have HN2:=hid (HN.out k hlt)
   have HA2:=hid (all_next hlt HA.out)
   have HE2:=hid (HE.out _ (List.getElem_mem hlt))
   generalize l[k]=y at *
   have HY:=hid hy
   obtain ⟨x0,x1,x2,x3⟩:=(hy _ HW.out).2
   have HO:=hid (show okS y=okS y from rfl)
   clear hy
   have C0:=hid (fun (W9:World) (h:Below W.heap.size W W9)=>show RB 123 #[.agg #[.int .i64 y.op,.string (bs y.name),.slice px y.x.length cx,.slice pl y.l.length cl]] W9 (okS y) from HE2.out _ _ (HY.out _ h).1)
   generalize okS y=r0 at *
   go_wp2_with (first
    | (go_at_call 123;refine (C0.out _ HW.out).mono ?_;rintro e V1 ⟨rfl,hb⟩;have X1:=hid (HW.out.trans (hb.mono HW.out.size));clear hb;cases r0))
   all_goals first
    | (go_ret;exact ⟨ret_bool (HN2.out (by first | trivial | rfl | (rw [HO.out];rfl))).symm,by first | exact X1.out⟩)
    | (go_roundw
       case rel=>exact ⟨k+1,by go_num,hlt,hid (HA2.out (by first | trivial | rfl | (rw [HO.out];rfl))),X1⟩
       case measure=>simp [intOf];omega)
  ·have hge:¬ ((k:Int)<(l.length:Int)):=by omega
   have HR:=hid (HZ.out fun j hj _=>HA.out j hj (by omega))
   go_wp2
   go_ret
   exact ⟨ret_bool HR.out.symm,HW.out⟩
theorem items3_any (p:Option Addr) (cap:Nat) (l:List It) (hl:l.length≤1000000000) (W:World) (hR:IsR W (.slice p l.length cap) l) (hE:∀ y ∈ l,MyI y) :
  RB 172 #[.slice p l.length cap] W (l.all okI):=by
 have HC:=hid (fun k (hk:k<l.length)=>atI hR hk)
 have HE:=hid hE
 have HN:=hid (fun k (hk:k<l.length)=>@all_no _ okI l k hk)
 have HZ:=hid (@all_yes _ okI l)
 clear hR hE
 generalize l.all okI=Q at *
 go_enter Tryz.func172,Tryz.ntmps172
 go_wp2
 go_loopw [3] (fun i wr=>∃ k:Nat,i=.int .i64 k∧k≤l.length∧Hid (∀ j (h:j<l.length),j<k→okI l[j]=true)∧Hid (Below W.heap.size W wr)) (fun i _=>l.length - (intOf i).toNat)
 case atStart=>exact ⟨0,rfl,Nat.zero_le _,hid (fun j h hj=>by omega),hid (Below.refl _ _)⟩
 case round=>
  obtain ⟨k,rfl,hk,HA,HW⟩:=hrel
  by_cases hlt:k<l.length
  ·have hlt':(k:Int)<(l.length:Int):=by omega
   obtain ⟨q,off,px,cx,ps,cs,pl,cl,pe,ce,pp,cp,pb,cb,rfl,hy⟩:=HC.out k hlt
   have HN2:=hid (HN.out k hlt)
   have HA2:=hid (all_next hlt HA.out)
   have HE2:=hid (HE.out _ (List.getElem_mem hlt))
   generalize l[k]=y at *
   have HY:=hid hy
   obtain ⟨x0,x1,x2,x3,x4,x5,x6,x7,x8⟩:=(hy _ HW.out).2
   have HO:=hid (show okI y=okI y from rfl)
   clear hy
   have C0:=hid (fun (W9:World) (h:Below W.heap.size W W9)=>show RB 209 #[.agg #[.int .i64 y.op,.string (bs y.name),.string (bs y.of),.slice px y.x.length cx,.slice ps y.s.length cs,.slice pl y.l.length cl,.slice pe y.e.length ce,.slice pp y.ps.length cp,.slice pb y.bs.length cb]] W9 (okI y) from HE2.out _ _ (HY.out _ h).1)
   generalize okI y=r0 at *
   go_wp2_with (first
    | (go_at_call 209;refine (C0.out _ HW.out).mono ?_;rintro e V1 ⟨rfl,hb⟩;have X1:=hid (HW.out.trans (hb.mono HW.out.size));clear hb;cases r0))
   all_goals first
    | (go_ret;exact ⟨ret_bool (HN2.out (by first | trivial | rfl | (rw [HO.out];rfl))).symm,by first | exact X1.out⟩)
    | (go_roundw
       case rel=>exact ⟨k+1,by go_num,hlt,hid (HA2.out (by first | trivial | rfl | (rw [HO.out];rfl))),X1⟩
       case measure=>simp [intOf];omega)
  ·have hge:¬ ((k:Int)<(l.length:Int)):=by omega
   have HR:=hid (HZ.out fun j hj _=>HA.out j hj (by omega))
   go_wp2
   go_ret
   exact ⟨ret_bool HR.out.symm,HW.out⟩
theorem binds3_any (p:Option Addr) (cap:Nat) (l:List Bd) (hl:l.length≤1000000000) (W:World) (hR:BsR W (.slice p l.length cap) l) (hE:∀ y ∈ l,y.name.length≤140737488355328∧MyX y.x) :
  RB 171 #[.slice p l.length cap] W (l.all okB):=by
 have HC:=hid (fun k (hk:k<l.length)=>atB hR hk)
 have HE:=hid hE
 have HN:=hid (fun k (hk:k<l.length)=>@all_no _ okB l k hk)
 have HZ:=hid (@all_yes _ okB l)
 clear hR hE
 generalize l.all okB=Q at *
 go_enter Tryz.func171,Tryz.ntmps171
 go_wp2
 go_loopw [3] (fun i wr=>∃ k:Nat,i=.int .i64 k∧k≤l.length∧Hid (∀ j (h:j<l.length),j<k→okB l[j]=true)∧Hid (Below W.heap.size W wr)) (fun i _=>l.length - (intOf i).toNat)
 case atStart=>exact ⟨0,rfl,Nat.zero_le _,hid (fun j h hj=>by omega),hid (Below.refl _ _)⟩
 case round=>
  obtain ⟨k,rfl,hk,HA,HW⟩:=hrel
  by_cases hlt:k<l.length
  ·have hlt':(k:Int)<(l.length:Int):=by omega
   obtain ⟨q,off,pl,cl,rfl,hy⟩:=HC.out k hlt
   have HN2:=hid (HN.out k hlt)
   have HA2:=hid (all_next hlt HA.out)
   have HE2:=hid (HE.out _ (List.getElem_mem hlt))
   generalize l[k]=y at *
   have HY:=hid hy
   obtain ⟨x0,x1,x2,x3,x4,x5,x6⟩:=(hy _ HW.out).2
   have HO:=hid (show okB y=(isName y.name && okX y.x) from rfl)
   clear hy
   have C0:=hid (fun (W9:World) (h:Below W.heap.size W W9)=>show RB 170 #[.string (bs y.name)] W9 (isName y.name) from name3_any y.name HE2.out.1 _)
   have C1:=hid (fun (W9:World) (h:Below W.heap.size W W9)=>show RB 110 #[.agg #[.int .i64 y.x.op,.string (bs y.x.name),.int .i64 y.x.n,.int .i64 y.x.w,.int .u64 y.x.v,.slice pl y.x.l.length cl]] W9 (okX y.x) from HE2.out.2 _ _ (bx (HY.out _ h).1))
   generalize isName y.name=r0 at *
   generalize okX y.x=r1 at *
   go_wp2_with (first
    | (go_at_call 170;refine (C0.out _ HW.out).mono ?_;rintro e V1 ⟨rfl,hb⟩;have X1:=hid (HW.out.trans (hb.mono HW.out.size));clear hb;(try obtain ⟨x0,x1,x2,x3,x4,x5,x6⟩:=(HY.out _ X1.out).2);cases r0)
    | (go_at_call 110;refine (C1.out _ X1.out).mono ?_;rintro e V2 ⟨rfl,hb⟩;have X2:=hid (X1.out.trans (hb.mono X1.out.size));clear hb;cases r1))
   all_goals first
    | (go_ret;exact ⟨ret_bool (HN2.out (by first | trivial | rfl | (rw [HO.out];rfl))).symm,by first | exact X2.out | exact X1.out⟩)
    | (go_roundw
       case rel=>exact ⟨k+1,by go_num,hlt,hid (HA2.out (by first | trivial | rfl | (rw [HO.out];rfl))),X2⟩
       case measure=>simp [intOf];omega)
  ·have hge:¬ ((k:Int)<(l.length:Int)):=by omega
   have HR:=hid (HZ.out fun j hj _=>HA.out j hj (by omega))
   go_wp2
   go_ret
   exact ⟨ret_bool HR.out.symm,HW.out⟩
end Go.Proofs.YtlcfpdmicpggbaaGreatDoor
namespace Go.Proofs.YtlcfpdmicpggbaaGreatDoor
open Go.Lib (hid)
open Go.RowKit Go.Proofs.Spl Go.Proofs.Scn Go.Shelf Go.Flow Go.Sort
theorem mayX_walk (op:Int) (name:Ln) (n w:Int) (v:Nat) (p:Option Addr) (m c:Nat) (W:World) (nm em si pt nb vl xs:Bool)
  (hem:decide ((bs name).toList=[])=em) (hm:m≤1000000000)
  (h1:∀ W9,RB 174 #[.int .i64 op] W9 nm)
  (h2:∀ W9,RB 170 #[.string (bs name)] W9 si)
  (h3:∀ W9,RB 175 #[.int .i64 op,.int .i64 m] W9 pt)
  (h4:∀ W9,RB 176 #[.int .i64 op,.int .i64 n] W9 nb)
  (h5:∀ W9,RB 177 #[.agg #[.int .i64 op,.string (bs name),.int .i64 n,.int .i64 w,.int .u64 v,.slice p m c]] W9 vl)
  (h6:∀ W9,Below W.heap.size W W9→RB 178 #[.slice p m c] W9 xs) :
  RB 110 #[.agg #[.int .i64 op,.string (bs name),.int .i64 n,.int .i64 w,.int .u64 v,.slice p m c]] W ((if nm then !em && si else em) && pt && nb && vl && xs):=by
 have HB:=hid (box6 W (.int .i64 op) (.string (bs name)) (.int .i64 n) (.int .i64 w) (.int .u64 v) (.slice p m c) 28)
 have HX0:=hid ((Below.refl W.heap.size W).alloc (Nat.le_refl _) (.cells #[.int .i64 op,.string (bs name),.int .i64 n,.int .i64 w,.int .u64 v,.slice p m c] 28))
 obtain ⟨V,hV⟩:∃ V,V=W.alloc (.cells #[.int .i64 op,.string (bs name),.int .i64 n,.int .i64 w,.int .u64 v,.slice p m c] 28):=⟨_,rfl⟩
 rw [← hV] at HB HX0
 have H1:=hid h1;have H2:=hid h2;have H3:=hid h3;have H4:=hid h4;have H5:=hid h5;have H6:=hid h6
 clear h1 h2 h3 h4 h5 h6
 have he1:((bs name).toList == [])=em:=by rw [← hem,Bool.eq_iff_iff];simp
 have hc:(nm=true∧em=true)∨(nm=false∧em=false)∨(nm=true∧em=false∧si=false)∨((nm=true∧em=false∧si=true∨nm=false∧em=true)∧(pt=false∨pt=true∧nb=false∨pt=true∧nb=true∧vl=false∨pt=true∧nb=true∧vl=true)):=by
  cases nm <;> cases em <;> cases si <;> cases pt <;> cases nb <;> cases vl <;> simp
 go_enter Tryz.func110,Tryz.ntmps110
 go_wp2_with fail
 rw [← hV]
 clear hV
 obtain ⟨x0,x1,x2,x3,x4,x5⟩:=HB.out _ (Below.refl _ _)
 have d0:=cell_regrown x0
 have d1:=cell_regrown x1
 have d2:=cell_regrown x2
 have d3:=cell_regrown x3
 have d4:=cell_regrown x4
 have d5:=cell_regrown x5
 have k1:=fun d os=>Calls.regrown_of (H1.out (grow (redrawn V d) os))
 have k2:=fun d os=>Calls.regrown_of (H2.out (grow (redrawn V d) os))
 have k3:=fun d os=>Calls.regrown_of (H3.out (grow (redrawn V d) os))
 have k4:=fun d os=>Calls.regrown_of (H4.out (grow (redrawn V d) os))
 have k5:=fun d os=>Calls.regrown_of (H5.out (grow (redrawn V d) os))
 rcases hc with ⟨rfl,rfl⟩ | ⟨rfl,rfl⟩ | ⟨rfl,rfl,rfl⟩ | ⟨⟨rfl,rfl,rfl⟩ | ⟨rfl,rfl⟩,rfl | ⟨rfl,rfl⟩ | ⟨rfl,rfl,rfl⟩ | ⟨rfl,rfl,rfl⟩⟩
 all_goals
  refine wp_region_quiet_fast (by kernel_rfl) (by kernel_rfl) (by kernel_rfl) ?_
  try simp only [List.append_eq,List.cons_append,List.nil_append]
  repeat (go_big_quiet_step (first | with_reducible exact k1 _ _ | with_reducible exact k2 _ _ | with_reducible exact k3 _ _ | with_reducible exact k4 _ _ | with_reducible exact k5 _ _))
  refine wpQuiet_nil ?_
  intro _ hw'
  obtain ⟨⟨dq,osq⟩,hw''⟩:=hw'
  subst hw''
 all_goals have Z0:=hid (below_regrown V dq osq)
 all_goals obtain ⟨x0,x1,x2,x3,x4,x5⟩:=HB.out _ Z0.out
 all_goals go_wp2_with (go_at_call 178;refine (H6.out _ (HX0.out.trans (Z0.out.mono HX0.out.size))).mono ?_;rintro e V1 ⟨rfl,hb⟩;have Z0:=hid (Z0.out.trans (hb.mono Z0.out.size));clear hb)
 all_goals (go_ret;exact ⟨ret_bool (by simp),HX0.out.trans (Z0.out.mono HX0.out.size)⟩)
end Go.Proofs.YtlcfpdmicpggbaaGreatDoor
namespace Go.Proofs.YtlcfpdmicpggbaaGreatDoor
open Go.Lib (hid)
open Go.RowKit Go.Proofs.Spl Go.Proofs.Scn Go.Shelf
theorem bthen {W V V':World} (h:Below W.heap.size W V) (hb:Below V.heap.size V V'):Below W.heap.size W V':=h.trans (hb.mono h.size)
theorem srX {W:World} {y:S} {v0 v1 vx vl:Value} (h:SR W y [v0,v1,vx,vl]):XsR W vx y.x:=by
 obtain ⟨xs,ls,e,h1,_⟩:=SR_iff.1 h
 cases e
 exact h1
theorem srL {W:World} {y:S} {v0 v1 vx vl:Value} (h:SR W y [v0,v1,vx,vl]):SsR W vl y.l:=by
 obtain ⟨xs,ls,e,_,h1⟩:=SR_iff.1 h
 cases e
 exact h1
theorem all_next' {α:Type} {f:Nat→α→Bool} {l:List α} {k:Nat} (hk:k<l.length) (h:∀ j (hj:j<l.length),j<k→f j l[j]=true) (h2:f k l[k]=true):Hid (∀ j (hj:j<l.length),j<k+1→f j l[j]=true):=hid fun j hj h1=>by
 rcases Nat.lt_or_ge j k with h3 | h3
 ·exact h j hj h3
 ·have:j=k:=by omega
  subst this;exact h2
theorem mayX_ok:∀ x:X,smX x=true→sizeX x≤1048576→MyX x:=by
 refine X.ind ?_
 intro x ih hsm hsz W cs hR
 obtain ⟨hv,ls,rfl,hL⟩:=XR_iff.1 hR
 rw [smX_iff,Bool.and_eq_true,List.all_eq_true] at hsm
 rw [sizeX_eq,sizeXs_sum] at hsz
 have hlen:=sumN_len sizeX one_sizeX x.l
 have hk:∀ y ∈ x.l,MyX y:=fun y hy=>ih y hy (hsm.2 y hy) (by have:=sumN_mem sizeX hy;omega)
 have hL':∀ W9,Below W.heap.size W W9→XsR W9 ls x.l:=fun W9 h=>XsR.later hL h
 obtain ⟨p,c,rfl,_⟩:=hL
 have:=mayX_walk x.op x.name x.n x.w x.v p x.l.length c W (namedO x.op) x.name.isEmpty (isName x.name) (partsO x.op x.l.length) (numberO x.op x.n) (valueO x.op x.w x.v) (x.l.all okX)
  (by rw [toList_eq,list_bs];cases x.name <;> simp) (by omega)
  (fun W9=>named3_any _ W9) (fun W9=>name3_any _ (of_decide_eq_true hsm.1) W9) (fun W9=>parts3_any _ _ W9) (fun W9=>number3_any _ _ W9) (fun W9=>value3_any _ _ _ _ _ _ hv W9)
  (fun W9 h=>mayL3_any p c x.l (by omega) W9 (hL' W9 h) hk)
 have e:okX x=((if namedO x.op then !x.name.isEmpty && isName x.name else x.name.isEmpty) && partsO x.op x.l.length && numberO x.op x.n && valueO x.op x.w x.v && x.l.all okX):=by
  rw [okX_iff]
  unfold okNode
  cases namedO x.op
  ·rfl
  ·cases h:x.name.isEmpty
   ·rfl
   ·have:isName x.name=false:=by simp [isName,h]
    simp [this]
 rw [e]
 exact this
theorem target3_any (p:Option Addr) (c:Nat) (l:List X) (hl:l.length≤1000000000) (W:World) (hR:XsR W (.slice p l.length c) l):RB 183 #[.slice p l.length c] W (targetX l):=by
 match l,hl,hR with
 | [],_,_=>
  go_enter Tryz.func183,Tryz.ntmps183
  go_wp2
  go_ret
  exact ⟨rfl,Below.refl _ _⟩
 | a :: r,hl,hR=>
  have hn:(0:Int)<((r.length+1:Nat):Int):=by omega
  obtain ⟨q,off,pl,cl,rfl,hy⟩:=atX hR (k:=0) (by simp)
  have x0:=(hy _ (Below.refl _ _)).2.1
  simp only [Nat.zero_mul,Nat.add_zero,List.getElem_cons_zero] at x0
  have e:targetX (a :: r)=namedO a.op:=rfl
  rw [e,List.length_cons]
  have HN:=hid (named3_any a.op W)
  clear hy hR e
  generalize namedO a.op=b at *
  go_enter Tryz.func183,Tryz.ntmps183
  go_wp2_with (go_at_call 174;refine HN.out.mono ?_;rintro e W1 ⟨rfl,hb⟩;have HB:=hid hb;clear hb)
  go_ret
  exact ⟨rfl,HB.out⟩
theorem arms3_any (p:Option Addr) (cap:Nat) (l:List S) (hl:l.length≤1000000) (W:World) (hR:SsR W (.slice p l.length cap) l) (hXl:∀ a ∈ l,a.x.length≤1000000∧a.l.length≤1000000) (hEX:∀ a ∈ l,∀ y ∈ a.x,MyX y) (hES:∀ a ∈ l,∀ y ∈ a.l,MyS y) :
  RB 185 #[.slice p l.length cap] W (armsA l && !l.isEmpty):=by
 have HX:=hid hEX
 have HS:=hid hES
 have HXL:=hid hXl
 have HC:=hid (fun k (hk:k<l.length)=>atS hR hk)
 clear hEX hES hR hXl
 go_enter Tryz.func185,Tryz.ntmps185
 go_wp2
 go_loopw [3] (fun i wr=>∃ k:Nat,i=.int .i64 k∧k≤l.length∧Hid (Below W.heap.size W wr)∧Hid (∀ j (h:j<l.length),j<k→armB (decide (j+1=l.length)) l[j]=true)) (fun i _=>l.length - (intOf i).toNat)
 case atStart=>exact ⟨0,rfl,Nat.zero_le _,hid (Below.refl _ _),hid (fun j h hj=>by omega)⟩
 case round=>
  obtain ⟨k,rfl,hk,HW,HA⟩:=hrel
  by_cases hlt:k<l.length
  ·have hlt':(k:Int)<(l.length:Int):=by omega
   obtain ⟨q,off,px,cx,pl,cl,rfl,hy⟩:=HC.out k hlt
   have hex:=HX.out _ (List.getElem_mem hlt)
   have hes:=HS.out _ (List.getElem_mem hlt)
   have hxl:=HXL.out _ (List.getElem_mem hlt)
   have HAX:=hid (fun (W9:World) (h:Below W.heap.size W W9)=>mayL3_any px cx l[k].x (by omega) W9 (srX (hy _ h).1) hex)
   have HAS:=hid (fun (W9:World) (h:Below W.heap.size W W9)=>mayAll3_any pl cl l[k].l (by omega) W9 (srL (hy _ h).1) hes)
   obtain ⟨x0,x1,x2,x3⟩:=(hy _ HW.out).2
   have HNX:=hid (fun (h:armB (decide (k+1=l.length)) l[k]=true)=>all_next' (f:=fun j=>armB (decide (j+1=l.length))) hlt HA.out h)
   have HNO:=hid (fun (h:armB (decide (k+1=l.length)) l[k]=false)=>show (armsA l && !l.isEmpty)=false by rw [armsA_no hlt h];rfl)
   have HNE:=hid (show l[k].name.isEmpty=decide ((bs l[k].name).toList=[]) by rw [Lib.toList_data,list_bs];cases l[k].name <;> simp)
   have HXE:=hid (show l[k].x.isEmpty=((l[k].x.length:Int) == 0) by cases l[k].x <;> simp <;> omega)
   have HKE:=hid (show decide (k+1=l.length)=((k:Int) == (l.length:Int) - 1) by rw [Bool.eq_iff_iff];simp;omega)
   clear hex hes hxl hy
   generalize l[k]=y at *
   generalize hax:y.x.all okX=bx at *
   generalize has:y.l.all okS=bs' at *
   have HAX2:=hid hax
   have HAS2:=hid has
   clear hax has
   go_wp2_with (first
    | (go_at_call 178;refine (HAX.out _ (HW.out.alloc HW.out.size _)).mono ?_;rintro e W2 ⟨rfl,hb⟩;have HV:=hid (bthen (HW.out.alloc HW.out.size _) hb);obtain ⟨k0,k1,k2,k3⟩:=box4 wr _ _ _ _ _ _ hb;clear hb HAX;cases bx)
    | (go_at_call 184;refine (HAS.out _ HV.out).mono ?_;rintro e W3 ⟨rfl,hb⟩;have HV:=hid (bthen HV.out hb);clear hb HAS;cases bs'))
   all_goals first
    | (go_ret;exact ⟨ret_bool (HNO.out (by unfold armB;rw [HXE.out,HKE.out,HNE.out,HAX2.out,HAS2.out];simp [*])).symm,by first | exact HV.out | exact HW.out.alloc HW.out.size _⟩)
    | (go_roundw
       case rel=>exact ⟨k+1,by go_num,hlt,HV,HNX.out (by unfold armB;rw [HXE.out,HKE.out,HNE.out,HAX2.out,HAS2.out];simp [*])⟩
       case measure=>simp [intOf];omega)
  ·have hge:¬ ((k:Int)<(l.length:Int)):=by omega
   have HALL:=hid (show armsA l=true from (armsA_iff l).2 fun j hj=>HA.out j hj (by omega))
   go_wp2
   go_ret
   refine ⟨ret_bool ?_,HW.out⟩
   rw [HALL.out,Bool.true_and,Bool.eq_iff_iff]
   cases l <;> simp <;> omega
end Go.Proofs.YtlcfpdmicpggbaaGreatDoor
namespace Go.Proofs.YtlcfpdmicpggbaaGreatDoor
open Go.Lib (hid)
open Go.RowKit Go.Proofs.Spl Go.Proofs.Scn Go.Shelf
def St (W0 W:World) (l:List (Value × List Tok)):Prop:=Below W0.heap.size W0 W∧∀ p ∈ l,OwnT W0.heap.size W p.1 p.2
theorem St.start {W0 W:World} (h:Below W0.heap.size W0 W):St W0 W []:=⟨h,fun _ h=>by cases h⟩
theorem St.next {W0 V V':World} {l:List (Value × List Tok)} (h:St W0 V l) (hb:Below V.heap.size V V'):St W0 V' l:=⟨bthen h.1 hb,fun p hp=>(h.2 p hp).later hb⟩
theorem St.push {W0 V V':World} {l:List (Value × List Tok)} (h:St W0 V l) {v:Value} {ts:List Tok} (ho:OwnT V.heap.size V' v ts) (hb:Below V.heap.size V V'):St W0 V' ((v,ts) :: l):=
 ⟨bthen h.1 hb,fun p hp=>by
  rcases List.mem_cons.1 hp with rfl | hp
  ·exact ho.lower h.1.size
  ·exact (h.2 p hp).later hb⟩
theorem St.ret {W W0 V:World} {l:List (Value × List Tok)} (hX:Below W.heap.size W W0) (h:St W0 V l) {p:Option Addr} {n c:Nat} {ts:List Tok} (hm:(Value.slice p n c,ts) ∈ l):TkP W ts (.returned (.slice p n c)) V:=
 ⟨p,n,c,rfl,(h.2 _ hm).lower hX.size,hX.trans (h.1.mono hX.size)⟩
abbrev B4 (w:World) (b:Nat) (v0 v1 v2 v3:Value):Prop:=w.cell? ⟨b,0,none⟩=some v0∧w.cell? ⟨b,1,none⟩=some v1∧w.cell? ⟨b,2,none⟩=some v2∧w.cell? ⟨b,3,none⟩=some v3
abbrev B6 (w:World) (b:Nat) (v0 v1 v2 v3 v4 v5:Value):Prop:=w.cell? ⟨b,0,none⟩=some v0∧w.cell? ⟨b,1,none⟩=some v1∧w.cell? ⟨b,2,none⟩=some v2∧w.cell? ⟨b,3,none⟩=some v3∧w.cell? ⟨b,4,none⟩=some v4∧w.cell? ⟨b,5,none⟩=some v5
abbrev B9 (w:World) (b:Nat) (v0 v1 v2 v3 v4 v5 v6 v7 v8:Value):Prop:=w.cell? ⟨b,0,none⟩=some v0∧w.cell? ⟨b,1,none⟩=some v1∧w.cell? ⟨b,2,none⟩=some v2∧w.cell? ⟨b,3,none⟩=some v3∧w.cell? ⟨b,4,none⟩=some v4∧w.cell? ⟨b,5,none⟩=some v5∧w.cell? ⟨b,6,none⟩=some v6∧w.cell? ⟨b,7,none⟩=some v7∧w.cell? ⟨b,8,none⟩=some v8
theorem bx4 (W:World) (v0 v1 v2 v3:Value) (T:TypeId):∃ V,V=W.alloc (.cells #[v0,v1,v2,v3] T)∧Hid (Below W.heap.size W V)∧Hid (∀ w',Below V.heap.size V w'→B4 w' W.heap.size v0 v1 v2 v3):=⟨_,rfl,hid ((Below.refl _ _).alloc (Nat.le_refl _) _),hid (box4 W v0 v1 v2 v3 T)⟩
theorem bx6 (W:World) (v0 v1 v2 v3 v4 v5:Value) (T:TypeId):∃ V,V=W.alloc (.cells #[v0,v1,v2,v3,v4,v5] T)∧Hid (Below W.heap.size W V)∧Hid (∀ w',Below V.heap.size V w'→B6 w' W.heap.size v0 v1 v2 v3 v4 v5):=⟨_,rfl,hid ((Below.refl _ _).alloc (Nat.le_refl _) _),hid (box6 W v0 v1 v2 v3 v4 v5 T)⟩
theorem bx9 (W:World) (v0 v1 v2 v3 v4 v5 v6 v7 v8:Value) (T:TypeId):∃ V,V=W.alloc (.cells #[v0,v1,v2,v3,v4,v5,v6,v7,v8] T)∧Hid (Below W.heap.size W V)∧Hid (∀ w',Below V.heap.size V w'→B9 w' W.heap.size v0 v1 v2 v3 v4 v5 v6 v7 v8):=⟨_,rfl,hid ((Below.refl _ _).alloc (Nat.le_refl _) _),hid (box9 W v0 v1 v2 v3 v4 v5 v6 v7 v8 T)⟩
abbrev C6 (w:World) (q o:Nat) (a:X) (p:Option Addr) (c:Nat):Prop:=w.cell? ⟨q,o,none⟩=some (.int .i64 a.op)∧w.cell? ⟨q,o+1,none⟩=some (.string (bs a.name))∧w.cell? ⟨q,o+2,none⟩=some (.int .i64 a.n)∧w.cell? ⟨q,o+3,none⟩=some (.int .i64 a.w)∧w.cell? ⟨q,o+4,none⟩=some (.int .u64 a.v)∧w.cell? ⟨q,o+5,none⟩=some (.slice p a.l.length c)
abbrev C4 (w:World) (q o:Nat) (a:S) (px:Option Addr) (cx:Nat) (pl:Option Addr) (cl:Nat):Prop:=w.cell? ⟨q,o,none⟩=some (.int .i64 a.op)∧w.cell? ⟨q,o+1,none⟩=some (.string (bs a.name))∧w.cell? ⟨q,o+2,none⟩=some (.slice px a.x.length cx)∧w.cell? ⟨q,o+3,none⟩=some (.slice pl a.l.length cl)
def PushP (W0:World) (l:List (Value × List Tok)) (ts:List Tok) (e:Ending) (W':World):Prop:=∃ p n c,e=.returned (.slice p n c)∧Hid (St W0 W' ((.slice p n c,ts) :: l))
theorem psh {f:FuncId} {args:Array Value} {W0 V U:World} {l:List (Value × List Tok)} {ts:List Tok} (h:Calls Tryz.prog f args U (TkP V ts)) (hs:Hid (St W0 V l)):Calls Tryz.prog f args U (PushP W0 l ts):=h.mono fun e W' k=>by
 obtain ⟨p,n,c,rfl,ho,hb⟩:=k
 exact ⟨p,n,c,rfl,hid (hs.out.push ho hb)⟩
theorem join5_any {W0 V:World} {l:List (Value × List Tok)} (h:St W0 V l) (vs:List (Value × List Tok)) (hv:∀ p ∈ vs,p ∈ l) (hn:vs.length≤1000) (hl:(allT vs).length≤5000000) :
  Calls Tryz.prog 50 #[.slice (some ⟨V.heap.size,0,none⟩) vs.length vs.length] (V.alloc (.cells (vs.map Prod.fst).toArray 36)) (TkP V (allT vs)):=by
 have hb:=(Below.refl V.heap.size V).alloc (Nat.le_refl _) (.cells (vs.map Prod.fst).toArray 36)
 refine (join4_any V.heap.size vs.length vs _ ⟨by simp,fun k hk=>⟨?_,?_⟩⟩ hn hl).mono ?_
 ·refine (cell_of_row _ _ k (vs.map Prod.fst).toArray _ _ (World.alloc_heap_new V _)).trans ?_
  simp [hk]
 ·exact ((h.2 _ (hv _ (List.getElem_mem hk))).zero).later hb
 ·rintro e W' ⟨p,n,c,rfl,ho,hb'⟩
  exact ⟨p,n,c,rfl,ho.lower hb.size,bthen hb hb'⟩
theorem between5_any {W0 V:World} {l:List (Value × List Tok)} (h:St W0 V l) (o s:UInt8) (p:Option Addr) (n c:Nat) (ts:List Tok) (hm:(Value.slice p n c,ts) ∈ l) (hl:ts.length≤4000000) :
  Calls Tryz.prog 102 #[.string (bs [o]),.slice p n c,.string (bs [s])] V (TkP V (inT o s ts)):=between4_any [o] [s] p n c ts V (h.2 _ hm).zero hl
theorem two4_any (n:Int) (h1:11≤n) (h2:n≤26) (W:World):Calls Tryz.prog 113 #[.int .i64 n] W fun e W'=>e=.returned (.tuple #[.string (bs (twoS n)),.int .i64 (twoR n)])∧Below W.heap.size W W':=by
 have hn:n=11∨n=12∨n=13∨n=14∨n=15∨n=16∨n=17∨n=18∨n=19∨n=20∨n=21∨n=22∨n=23∨n=24∨n=25∨n=26:=by omega
 rcases hn with rfl | rfl | rfl | rfl | rfl | rfl | rfl | rfl | rfl | rfl | rfl | rfl | rfl | rfl | rfl | rfl
 all_goals
  go_enter Tryz.func113,Tryz.ntmps113
  go_wp2
  go_ret2
  exact ⟨rfl,Below.refl _ _⟩
theorem op6_ok {x:X} (h:okX x=true) (h6:x.op=6):11≤x.n∧x.n≤26:=by
 rw [okX_iff] at h
 simp [okNode,numberO,h6] at h
 omega
theorem row4_any (x:X) (hx:okX x=true) (cs:List Value) (W:World) (hR:XR W x cs):Calls Tryz.prog 179 #[.agg cs.toArray] W fun e W'=>e=.returned (.int .i64 ((rankX x:Nat):Int))∧Below W.heap.size W W':=by
 obtain ⟨hv,ls,rfl,hL⟩:=XR_iff.1 hR
 have h6':=op6_ok hx
 generalize hn:x.n=n at *
 generalize ho:x.op=o at *
 have HK:=hid (fun (h:o=6) (W9:World)=>two4_any n (h6' h).1 (h6' h).2 W9)
 have HR:=hid (show ((rankX x:Nat):Int)=if o=7 then 0 else if o=6 then (twoR n:Int) else 11 by unfold rankX;rw [ho,hn];split;rfl;split <;> rfl)
 generalize rankX x=r at *
 clear hR hL hx hv h6' hn ho
 go_enter Tryz.func179,Tryz.ntmps179
 go_wp2_with (go_at_call 113;refine (HK.out (beq_iff_eq.1 (by assumption)) _).mono ?_;rintro e W1 ⟨rfl,hb⟩;have HB:=hid (bthen ((Below.refl W.heap.size W).alloc (Nat.le_refl _) _) hb);clear hb)
 all_goals (go_ret;refine ⟨?_,by first | exact HB.out | exact (Below.refl _ _).alloc (Nat.le_refl _) _⟩;rw [HR.out];(try simp only [beq_iff_eq,beq_eq_false_iff_ne,ne_eq] at *);simp [*])
def Ex4 (y:X):Prop:=∀ (W:World) (cs:List Value),XR W y cs→Calls Tryz.prog 58 #[.agg cs.toArray] W (TkP W (exprT y))
theorem part4_any (x:X) (hx:okX x=true) (hE:Ex4 x) (hl:(exprT x).length≤600000) (least:Nat) (cs:List Value) (W:World) (hR:XR W x cs) :
  Calls Tryz.prog 112 #[.agg cs.toArray,.int .i64 least] W (TkP W (partT (rankX x,exprT x) least)):=by
 have HE:=hid (fun (W9:World) (h:Below W.heap.size W W9)=>hE W9 cs (XR.later h _ _ hR))
 have HK:=hid (fun (W9:World) (h:Below W.heap.size W W9)=>row4_any x hx cs W9 (XR.later h _ _ hR))
 have HL:=hid hl
 have hT:(decide (rankX x<least)=true∧partT (rankX x,exprT x) least=inT 40 41 (exprT x))∨(decide (rankX x<least)=false∧partT (rankX x,exprT x) least=exprT x):=by
  unfold partT
  by_cases h:rankX x<least
  ·exact .inl ⟨by simpa using h,by rw [if_pos h];rfl⟩
  ·exact .inr ⟨by simpa using h,by rw [if_neg h]⟩
 obtain ⟨hv,ls,rfl,hL⟩:=XR_iff.1 hR
 obtain ⟨p,cap,rfl,_⟩:=hL
 clear hR hE hx hv hl
 have hd:decide (((rankX x:Nat):Int)<(least:Int))=decide (rankX x<least):=by rw [decide_eq_decide];omega
 generalize partT (rankX x,exprT x) least=T at *
 generalize exprT x=E at *
 generalize rankX x=r at *
 have HX:=hid ((Below.refl W.heap.size W).alloc (Nat.le_refl _) (.cells #[.int .i64 x.op,.string (bs x.name),.int .i64 x.n,.int .i64 x.w,.int .u64 x.v,.slice p x.l.length cap] 28))
 have HB:=hid (box6 W (.int .i64 x.op) (.string (bs x.name)) (.int .i64 x.n) (.int .i64 x.w) (.int .u64 x.v) (.slice p x.l.length cap) 28)
 obtain ⟨V,hV⟩:∃ V,V=W.alloc (.cells #[.int .i64 x.op,.string (bs x.name),.int .i64 x.n,.int .i64 x.w,.int .u64 x.v,.slice p x.l.length cap] 28):=⟨_,rfl⟩
 rw [← hV] at HX HB
 have HS:=hid (St.start (Below.refl V.heap.size V))
 obtain ⟨x0,x1,x2,x3,x4,x5⟩:=HB.out _ HS.out.1
 rcases hT with ⟨h1,rfl⟩ | ⟨h1,rfl⟩
 all_goals
  rw [h1] at hd
  have hd2:=hd
  simp only [decide_eq_true_eq,decide_eq_false_iff_not] at hd2
  go_enter Tryz.func112,Tryz.ntmps112
  go_wp2_with fail
  rw [← hV]
  clear hV
  go_wp2_with (first
   | (go_at_call 58;refine (HE.out _ HX.out).mono ?_;rintro e V1 ⟨p1,n1,c1,rfl,ho,hb⟩;have HS:=hid (HS.out.push ho hb);obtain ⟨x0,x1,x2,x3,x4,x5⟩:=HB.out _ HS.out.1;clear ho hb)
   | (go_at_call 179;refine (HK.out _ (HX.out.trans (HS.out.1.mono HX.out.size))).mono ?_;rintro e V2 ⟨rfl,hb⟩;have HS:=hid (HS.out.next hb);clear hb)
   | (go_at_call 102;refine (between5_any HS.out 40 41 p1 n1 c1 E (by simp) (by have:=HL.out;omega)).mono ?_;rintro e V3 ⟨p2,n2,c2,rfl,ho,hb⟩;have HS:=hid (HS.out.push ho hb);clear ho hb))
  go_ret
  exact St.ret HX.out HS.out (by simp)
end Go.Proofs.YtlcfpdmicpggbaaGreatDoor
namespace Go.Proofs.YtlcfpdmicpggbaaGreatDoor
open Go.Lib (hid)
open Go.RowKit Go.Proofs.Spl Go.Proofs.Scn Go.Shelf
theorem wp_append_toks {w:World} {o:Oper} {a:Act} {K:Act→World→Prop} {Q:Exit→Act→World→Prop} (s x:Operand)
  (ho:o.op=.call { callee:=.builtin .append,args:=#[s,x],argTypes:=#[36,36] })
  (base:Nat) (v:Value) (L l:List Tok) (hs:a.eval s=v) (hown:OwnT base w v L) (B':Nat) (y:Value) (hx:a.eval x=y) (hsrc:OwnT B' w y l)
  (h63:L.length+l.length≤20000000) (hbase:base≤w.heap.size)
  (h:∀ p' c' N w',Hid (N=(L ++ l).length)→OwnT base w' (.slice p' N c') (L ++ l)→w.grownBy w' v.ownBlock→K (a.put o.dst (.slice p' N c')) w'):o.wp Tryz.prog a w K Q:=by
 obtain ⟨i0,hi,hz0,hz1,hz2⟩:=info_parts tkInfo
 rcases hsrc.2 with ⟨rfl,h0⟩ | ⟨g,cap,cur,rfl,hB,hg,hn,hc,hz,ht⟩
 ·have hrun:=run_append_owned_none (P:=Tryz.prog) (w:=w) base 36 o.type 55 i0 5 tkSlice hi v L.length (cellsTs L) hown
  have hl:l=[]:=List.eq_nil_of_length_eq_zero h0
  subst hl
  unfold Oper.wp
  simp [execOp,ho,resolve,invoke,builtin,hs,hx,hrun,Result.andThen]
  obtain ⟨p,c,rfl⟩:=hown.shape
  exact h p c L.length w (hid (by simp)) (by rw [List.append_nil];exact hown) ⟨rfl,rfl,rfl,Nat.le_refl _,fun k _ _=>rfl⟩
 ·have hcell:∀ j u,(cellsTs l)[j]?=some u→w.cell? ((⟨g,0,none⟩:Addr).add j)=some u:=by
   intro j u hu
   have e:(⟨g,0,none⟩:Addr).add j=⟨g,j,none⟩:=by simp [Addr.add];intro h;exact h.symm
   rw [e,cell_of_row w g j cur _ (0,0) hg,← Array.getElem?_toList]
   rw [← ht,List.getElem?_take] at hu
   split at hu
   ·exact hu
   ·cases hu
  refine wp_append_own w s x 36 ho base 55 i0 (.agg #[.int .i64 0,.string ⟨#[]⟩,.int .i64 0,.int .u64 0,.int .i64 0]) 5 48 tkSlice hi hz0 hz1 hz2 rfl (by decide) v L.length (cellsTs L) hs hown ⟨g,0,none⟩ l.length cap (cellsTs l) hx (cellsTs_length l) hcell (cellsTs_one l) (by unfold maxLen;omega) (by omega) hbase ?_
  intro v' w' h1 h2 _
  have ho:OwnT base w' v' (L ++ l):=by
   unfold OwnT
   rw [List.length_append,show cellsTs (L ++ l)=cellsTs L ++ cellsTs l from List.flatMap_append]
   exact h1
  obtain ⟨p,c,rfl⟩:=ho.shape
  exact h p c _ w' (hid rfl) ho h2
theorem sepS_snoc (s:Ln) (a:List Tok):∀ l:List (List Tok),sepS s (l ++ [a])=(if l=[] then [] else sepS s l ++ [sgT s]) ++ a
 | []=>by simp [sepS]
 | [b]=>by simp [sepS]
 | b :: c :: r=>by
  have ih:=sepS_snoc s a (c :: r)
  simp only [List.cons_append,sepS,if_neg (List.cons_ne_nil _ _)] at ih ⊢
  rw [ih]
  simp
def sepP {α:Type} (s:Ln) (f:α→List Tok) (l:List α) (k:Nat):List Tok:=sepS s ((l.take k).map f)
theorem sepP_next {α:Type} (s:Ln) (f:α→List Tok) (l:List α) {k:Nat} (h:k<l.length) (h0:0<k):sepP s f l (k+1)=(sepP s f l k ++ [sgT s]) ++ f l[k]:=by
 unfold sepP
 rw [List.take_succ_eq_append_getElem h,List.map_append,List.map_cons,List.map_nil,sepS_snoc,if_neg]
 intro e
 have:=congrArg List.length e
 simp only [List.length_map,List.length_take,List.length_nil] at this
 omega
theorem sepP_one {α:Type} (s:Ln) (f:α→List Tok) (l:List α) (h:0<l.length):sepP s f l (0+1)=sepP s f l 0 ++ f l[0]:=by
 unfold sepP
 rw [List.take_succ_eq_append_getElem h]
 simp [sepS]
theorem sepP_end {α:Type} (s:Ln) (f:α→List Tok) (l:List α):sepP s f l l.length=sepS s (l.map f):=by unfold sepP;rw [List.take_length]
theorem sepP_len {α:Type} (s:Ln) (f:α→List Tok) (l:List α) (k n:Nat) (h:sumN (fun x=>(f x).length+1) l≤n):(sepP s f l k).length≤n:=by
 unfold sepP
 refine Nat.le_trans (sep_len s _) ?_
 rw [sumN_map]
 exact Nat.le_trans (sumN_take _ l k) h
def flatP {α:Type} (f:α→List Tok) (l:List α) (k:Nat):List Tok:=((l.take k).map f).flatten
theorem flatP_next {α:Type} (f:α→List Tok) (l:List α) {k:Nat} (h:k<l.length):flatP f l (k+1)=flatP f l k ++ f l[k]:=by
 unfold flatP
 rw [List.take_succ_eq_append_getElem h,List.map_append,List.flatten_append]
 simp
theorem flatP_end {α:Type} (f:α→List Tok) (l:List α):flatP f l l.length=(l.map f).flatten:=by unfold flatP;rw [List.take_length]
theorem flatP_len {α:Type} (f:α→List Tok) (l:List α) (k n:Nat) (h:sumN (fun x=>(f x).length+1) l≤n):(flatP f l k).length≤n:=by
 unfold flatP
 rw [flat_len,sumN_map]
 exact Nat.le_trans (Nat.le_trans (sumN_le fun x _=>by simp) (sumN_take (fun x=>(f x).length+1) l k)) h
theorem list4_any (p:Option Addr) (cap:Nat) (l:List X) (hl:l.length≤1000000) (hb:sumN (fun x=>(exprT x).length+1) l≤600000) (W:World) (hR:XsR W (.slice p l.length cap) l) (hE:∀ y ∈ l,Ex4 y) :
  Calls Tryz.prog 114 #[.slice p l.length cap] W (TkP W (listT l)):=by
 have HC:=hid (fun k (hk:k<l.length)=>atX hR hk)
 have HE:=hid (show ∀ k (hk:k<l.length),Ex4 l[k] from fun k hk=>hE _ (List.getElem_mem hk))
 have HT1:=hid (fun h=>sepP_one [44] exprT l h)
 have HTN:=hid (fun k h=>sepP_next [44] exprT l (k:=k) h)
 have HTE:=hid (show sepP [44] exprT l l.length=listT l from sepP_end [44] exprT l)
 have HL:=hid (fun k=>sepP_len [44] exprT l k _ hb)
 have HL2:=hid (show ∀ k (hk:k<l.length),(exprT l[k]).length≤600000 from fun k hk=>by have:=sumN_mem (fun x=>(exprT x).length+1) (List.getElem_mem hk);omega)
 have HT0:=hid (show sepP [44] exprT l 0=[] from rfl)
 generalize sepP [44] exprT l=T at *
 generalize listT l=LT at *
 clear hR hE hb
 go_enter Tryz.func114,Tryz.ntmps114
 go_wp2
 go_loopw [3,4] (fun u i wr=>∃ (k n:Nat) (pq:Option Addr) (cp:Nat),u=.slice pq n cp∧i=.int .i64 k∧k≤l.length∧Hid (OwnT W.heap.size wr (.slice pq n cp) (T k))∧Hid (Below W.heap.size W wr)) (fun _ i _=>l.length - (intOf i).toNat)
 case atStart=>
  refine ⟨0,0,some ⟨W.heap.size,0,none⟩,0,rfl,rfl,Nat.zero_le _,hid ?_,hid ((Below.refl _ _).alloc (Nat.le_refl _) _)⟩
  rw [HT0.out]
  exact World.ownsRow_made W #[] 0 (Nat.le_refl _) (by decide) rfl
 case round=>
  obtain ⟨k,n,pq,cp,rfl,rfl,hk,HO,HX⟩:=hrel
  by_cases hlt:k<l.length
  case neg=>
   obtain rfl:k=l.length:=by omega
   go_wp2
   go_ret
   exact ⟨_,_,_,rfl,by rw [← HTE.out];exact HO.out,HX.out⟩
  have hlt':(k:Int)<(l.length:Int):=by omega
  obtain ⟨q,off,pl,cl,rfl,hy⟩:=HC.out k hlt
  have HLK:=hid (HL.out k)
  have HLP:=hid (HL2.out k hlt)
  have HE2:=HE.out k hlt
  have HN1:=hid (fun (h:k=0)=>show T (k+1)=T k ++ exprT l[k] by subst h;exact HT1.out (by omega))
  have HN2:=hid (fun (h:0<k)=>show T (k+1)=(T k ++ [sgT [44]]) ++ exprT l[k] from HTN.out k hlt h)
  generalize l[k]=y at *
  have HY:=hid hy
  have CE:=hid (fun (W9:World) (h:Below W.heap.size W W9)=>HE2 W9 _ (HY.out _ h).1)
  obtain ⟨x0,x1,x2,x3,x4,x5⟩:=(hy _ HX.out).2
  generalize exprT y=E at *
  clear hy HE2
  by_cases h0:k=0
  ·have h0':¬ (0:Int)<(k:Int):=by omega
   have HN:=hid (HN1.out h0)
   clear h0 HN1 HN2
   go_wp2_with (first
    | (go_at_call 58;refine (CE.out _ HX.out).mono ?_;rintro e W1 ⟨p1,n1,c1,rfl,ho,hb⟩;have T1:=hid ho;have HO:=hid (HO.out.later hb);have HX:=hid (bthen HX.out hb);clear hb ho)
    | (at_builtin;refine wpList_append_toks rfl _ _ rfl W.heap.size _ (T k) E rfl HO.out _ _ rfl T1.out (by have:=HLK.out;have:=HLP.out;omega) HX.out.size ?_;intro p6 c6 N w6 hN hO hgr;have HO6:=hid hO;have HX6:=hid (Below.grown HX.out hgr HX.out.size (fun k hk=>HO.out.base k hk));clear hN hO hgr))
   go_roundw
   case rel=>exact ⟨k+1,_,p6,c6,rfl,by go_num,hlt,hid (by rw [HN.out];exact HO6.out),HX6⟩
   case measure=>simp [intOf];omega
  ·have h0':(0:Int)<(k:Int):=by omega
   have HN:=hid (HN2.out (by omega))
   clear h0 HN1 HN2
   have F1:=True.intro
   go_wp2_with (first
    | (go_at_call 100;refine (sign4_any [44] _).mono ?_;rintro e W1 ⟨p1,n1,c1,rfl,ho,hb⟩;have T1:=hid ho;have HO:=hid (HO.out.later hb);have HX:=hid (bthen HX.out hb);clear hb ho)
    | (at_builtin;clear F1;refine wpList_append_toks rfl _ _ rfl W.heap.size _ (T k) [sgT [44]] rfl HO.out _ _ rfl T1.out (by have:=HLK.out;simp;omega) HX.out.size ?_;intro p5 c5 N5 w5 hN hO hgr;have HX5:=hid (Below.grown HX.out hgr HX.out.size (fun k hk=>HO.out.base k hk));have HO5:=hid hO;have HN5:=hid hN.out;obtain ⟨x0,x1,x2,x3,x4,x5⟩:=(HY.out _ HX5.out).2;clear hN hO hgr T1 HO)
    | (go_at_call 58;refine (CE.out _ HX5.out).mono ?_;rintro e W2 ⟨p2,n2,c2,rfl,ho,hb⟩;have T2:=hid ho;have HO5:=hid (HO5.out.later hb);have HX5:=hid (bthen HX5.out hb);clear hb ho)
    | (at_builtin;refine wpList_append_toks rfl _ _ rfl W.heap.size _ (T k ++ [sgT [44]]) E rfl HO5.out _ _ rfl T2.out (by have:=HLK.out;have:=HLP.out;simp;omega) HX5.out.size ?_;intro p6 c6 N w6 hN hO hgr;have HO6:=hid hO;have HX6:=hid (Below.grown HX5.out hgr HX5.out.size (fun k hk=>HO5.out.base k hk));clear hN hO hgr))
   go_roundw
   case rel=>exact ⟨k+1,_,p6,c6,rfl,by go_num,hlt,hid (by rw [HN.out];exact HO6.out),HX6⟩
   case measure=>simp [intOf];omega
end Go.Proofs.YtlcfpdmicpggbaaGreatDoor
