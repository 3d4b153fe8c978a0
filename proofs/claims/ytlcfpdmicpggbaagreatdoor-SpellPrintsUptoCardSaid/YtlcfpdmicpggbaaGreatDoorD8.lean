/- Texts of the seat, merged. -/
import Derived.Test.YtlcfpdmicpggbaaGreatDoorD7
set_option linter.unusedVariables false
set_option linter.unusedSimpArgs false
set_option maxRecDepth 100000
set_option maxHeartbeats 16000000
namespace Go.Proofs.YtlcfpdmicpggbaaGreatDoor
open Go.Lib (hid)
open Go.RowKit Go.Proofs.Spl Go.Proofs.Scn Go.Shelf Go.Grow
theorem list_any (v:Value) (l:List X) (hl:l.length≤1000000) (W:World) (lo:Nat) (hlo:lo≤W.heap.size) (hR:XsR W v l) (hE:∀ y ∈ l,ExprOK y):Calls Tryz.prog 108 #[v] W (MkPost lo W (listT l)):=by
 have HK:=hid (eachX_any [44] (by decide) v l hl W lo hlo hR hE)
 obtain ⟨p,cap,rfl,_⟩:=hR
 clear hE
 go_enter Tryz.func108,Tryz.ntmps108
 go_wp2_with (go_at_call 105;refine HK.out.mono ?_;rintro e W2 ⟨f,rfl,h1,h2⟩;have H1:=hid h1;have H2:=hid h2;clear h1 h2)
 go_ret
 exact ⟨_,rfl,H1.out,H2.out⟩
def XAt (W:World) (q o:Nat) (a:X):Prop:=
 ∃ p c,W.cell? ⟨q,o,none⟩=some (.int .i64 a.op)∧W.cell? ⟨q,o+1,none⟩=some (.string (bs a.name))∧W.cell? ⟨q,o+2,none⟩=some (.int .i64 a.n)∧W.cell? ⟨q,o+3,none⟩=some (.int .i64 a.w)∧W.cell? ⟨q,o+4,none⟩=some (.int .u64 a.v) ∧
  W.cell? ⟨q,o+5,none⟩=some (.slice p a.l.length c)∧XR W a [.int .i64 a.op,.string (bs a.name),.int .i64 a.n,.int .i64 a.w,.int .u64 a.v,.slice p a.l.length c]
theorem els_at {W:World} {q off:Nat} {l:List X} (h:Spl.Rows W 6 (XR W) q off l) (k:Nat) (hk:k<l.length):XAt W q (off+k * 6) l[k]:=by
 obtain ⟨cs,h1,h2⟩:=h k hk
 obtain ⟨hv,ls,rfl,hL⟩:=XR_iff.1 h1
 obtain ⟨p,c,rfl,_⟩:=hL
 exact ⟨p,c,h2 0 (by omega),h2 1 (by omega),h2 2 (by omega),h2 3 (by omega),h2 4 (by omega),h2 5 (by omega),h1⟩
theorem XAt.later {W W':World} {q o:Nat} {a:X} (h:XAt W q o a) (hq:q<W.heap.size) (hb:Below W.heap.size W W'):XAt W' q o a:=by
 obtain ⟨p,c,h0,h1,h2,h3,h4,h5,h6⟩:=h
 exact ⟨p,c,(hb.cell (p:=⟨q,o,none⟩) hq).trans h0,(hb.cell (p:=⟨q,o+1,none⟩) hq).trans h1,(hb.cell (p:=⟨q,o+2,none⟩) hq).trans h2,(hb.cell (p:=⟨q,o+3,none⟩) hq).trans h3,(hb.cell (p:=⟨q,o+4,none⟩) hq).trans h4,(hb.cell (p:=⟨q,o+5,none⟩) hq).trans h5,XR.later hb _ _ h6⟩
theorem part_any (x:X) (hx:okX x=true) (hE:ExprOK x) (least:Nat) (W:World) (lo:Nat) (hlo:lo≤W.heap.size) (cs:List Value) (hR:XR W x cs) :
  Calls Tryz.prog 106 #[.agg cs.toArray,.int .i64 least] W (MkPost lo W (partT (rankX x,exprT x) least)):=by
 have hR0:=hR
 obtain ⟨hv,ls,rfl,hL⟩:=XR_iff.1 hR
 obtain ⟨p,cap,rfl,_⟩:=hL
 have HE:=hid hE
 have HR:=hid hR0
 have HO:=hid hx
 clear hR hR0 hE hx hv
 go_enter Tryz.func106,Tryz.ntmps106
 go_wp2_with fail
 obtain ⟨W1,hW1,hbx,hls,hNB⟩:=new_box W (.cells #[.int .i64 x.op,.string (bs x.name),.int .i64 x.n,.int .i64 x.w,.int .u64 x.v,.slice p x.l.length cap] 28)
 rw [hNB]
 clear hNB
 have HLS:=hid hls
 have HBX:=hid hbx
 have HR1:=hid (XR.later hW1.out _ _ HR.out)
 refine (rank_any x HO.out W1 _ HR1.out).mono ?_
 rintro e W2 ⟨rfl,h2⟩
 have H2:=hid h2
 have hbx2:=(h2.block _ (by omega)).trans hbx
 have hB2:=hW1.out.trans (h2.mono (by omega))
 have HB2:=hid hB2
 have HR2:=hid (XR.later hB2 _ _ HR.out)
 have hz2:W.heap.size≤W2.heap.size:=hB2.size
 have HZ2:=hid hz2
 clear hls hbx h2 hB2 hz2
 have y0:=box_at hbx2 0 (v:=.int .i64 x.op) rfl
 have y1:=box_at hbx2 1 (v:=.string (bs x.name)) rfl
 have y2:=box_at hbx2 2 (v:=.int .i64 x.n) rfl
 have y3:=box_at hbx2 3 (v:=.int .i64 x.w) rfl
 have y4:=box_at hbx2 4 (v:=.int .u64 x.v) rfl
 have y5:=box_at hbx2 5 (v:=.slice p x.l.length cap) rfl
 clear hbx2
 by_cases hk:rankX x<least
 ·have hkd:decide (((rankX x:Nat):Int)<((least:Nat):Int))=true:=by simp;omega
  have hkn:decide (rankX x<least)=true:=by simpa using hk
  have HT:=hid (show partT (rankX x,exprT x) least=inT 40 41 (exprT x) by simp [partT,hk,parT])
  have HP:=hid (fun (W9:World) (f:Value) (h1:lo≤W9.heap.size) (h2:Seq lo W9 f (exprT x))=>in_any 40 41 f (exprT x) W9 lo h1 h2)
  clear hk
  go_wp2_with (first
   | (go_at_call 56;refine (HE.out W2 lo _ (Nat.le_trans hlo HZ2.out) HR2.out).mono ?_;rintro e W3 ⟨f,rfl,h1,h2⟩;have H3:=hid h1;have H4:=hid h2;clear h1 h2)
   | (go_at_call 95;refine (HP.out W3 _ (Nat.le_trans hlo (Nat.le_trans HZ2.out H4.out.size)) H3.out).mono ?_;rintro e W5 ⟨f,rfl,h1,h2⟩;have H5:=hid h1;have H6:=hid h2;clear h1 h2))
  go_ret
  exact ⟨_,rfl,(by rw [HT.out];exact H5.out),HB2.out.trans ((H4.out.trans (H6.out.mono H4.out.size)).mono HZ2.out)⟩
 ·have hkd:decide (((rankX x:Nat):Int)<((least:Nat):Int))=false:=by simp;omega
  have hkn:decide (rankX x<least)=false:=by simpa using hk
  have HT:=hid (show partT (rankX x,exprT x) least=exprT x by simp [partT,hk])
  clear hk
  go_wp2_with (go_at_call 56;refine (HE.out W2 lo _ (Nat.le_trans hlo HZ2.out) HR2.out).mono ?_;rintro e W3 ⟨f,rfl,h1,h2⟩;have H3:=hid h1;have H4:=hid h2;clear h1 h2)
  go_ret
  exact ⟨_,rfl,(by rw [HT.out];exact H3.out),HB2.out.trans (H4.out.mono HZ2.out)⟩
theorem exprT_4 (name:Ln) (n w:Int) (v:Nat) (l:List X):exprT (.mk 4 name n w v l)=List.flatten [[nmT name],inT 91 93 (sepS [58] (l.map exprT))]:=by
 rw [exprT_eq];simp [nodeT,braT,Function.comp_def,X.op,X.name,X.n,X.w,X.v,X.l]
theorem exprT_3 (name:Ln) (n w:Int) (v:Nat) (l:List X):exprT (.mk 3 name n w v l)=List.flatten [[nmT name],inT 91 93 (sepS [58] (l.map exprT))]:=by
 rw [exprT_eq];simp [nodeT,braT,Function.comp_def,X.op,X.name,X.n,X.w,X.v,X.l]
theorem exprT_5 (name:Ln) (n w:Int) (v:Nat) (a:X):exprT (.mk 5 name n w v [a])=List.flatten [[sgT (oneS n)],partT (rankX a,exprT a) 11]:=by
 rw [exprT_eq];simp [nodeT,X.op,X.name,X.n,X.w,X.v,X.l]
theorem exprT_6 (name:Ln) (n w:Int) (v:Nat) (a b:X):exprT (.mk 6 name n w v [a,b])=List.flatten [partT (rankX a,exprT a) (twoR n),[sgT (twoS n)],partT (rankX b,exprT b) (twoR n+1)]:=by
 rw [exprT_eq];simp [nodeT,X.op,X.name,X.n,X.w,X.v,X.l]
theorem exprT_7 (name:Ln) (n w:Int) (v:Nat) (a b c:X):exprT (.mk 7 name n w v [a,b,c])=List.flatten [partT (rankX a,exprT a) 1,[sgT [63]],sepS [58] ([b,c].map exprT)]:=by
 rw [exprT_eq];simp [nodeT,sepS,X.op,X.name,X.n,X.w,X.v,X.l]
theorem exprT_8 (name:Ln) (n w:Int) (v:Nat) (l:List X):exprT (.mk 8 name n w v l)=inT 123 125 (listT l):=by
 rw [exprT_eq];simp [nodeT,cubT,listT,Function.comp_def,X.op,X.name,X.n,X.w,X.v,X.l]
theorem exprT_9 (name:Ln) (n w:Int) (v:Nat) (a b:X):exprT (.mk 9 name n w v [a,b])=inT 123 125 (List.flatten [exprT a,inT 123 125 (exprT b)]):=by
 rw [exprT_eq];simp [nodeT,cubT,X.op,X.name,X.n,X.w,X.v,X.l]
theorem exprT_10 (name:Ln) (n w:Int) (v:Nat) (l:List X):exprT (.mk 10 name n w v l)=List.flatten [[wdT (extS n)],inT 40 41 (listT l)]:=by
 rw [exprT_eq];simp [nodeT,parT,listT,Function.comp_def,X.op,X.name,X.n,X.w,X.v,X.l]
theorem exprT_2 (name:Ln) (n w:Int) (v:Nat) (l:List X):exprT (.mk 2 name n w v l)=[nmT name]:=by
 rw [exprT_eq];simp [nodeT,X.op,X.name,X.n,X.w,X.v,X.l]
theorem exprT_1 (name:Ln) (n w:Int) (v:Nat) (l:List X):exprT (.mk 1 name n w v l)=[numT w v]:=by
 rw [exprT_eq];simp [nodeT,X.op,X.name,X.n,X.w,X.v,X.l]
theorem kidsX {q off:Nat} {W:World} {l:List X} (h:Spl.Rows W 6 (XR W) q off l) (k:Nat) (a:X) (hk:l[k]?=some a):XAt W q (off+k * 6) a:=by
 obtain ⟨h1,h2⟩:=List.getElem?_eq_some_iff.1 hk
 rw [← h2]
 exact els_at h k h1
theorem els_tail {W:World} {q off cap:Nat} {a:X} {l:List X} (h:XsR W (.slice (some ⟨q,off,none⟩) (l.length+1) cap) (a :: l)):XsR W (.slice (some ⟨q,off+6,none⟩) l.length (cap - 1)) l:=by
 obtain ⟨p,c,h1,h2,h3⟩:=h
 simp only [Value.slice.injEq] at h1
 obtain ⟨rfl,_,rfl⟩:=h1
 refine ⟨_,_,rfl,by simp at h2;omega,?_⟩
 rcases h3 with h3 | ⟨b,o,h4,h5,h6⟩
 ·cases h3
 ·simp only [Option.some.injEq,Addr.mk.injEq] at h4
  obtain ⟨rfl,rfl,_⟩:=h4
  refine .inr ⟨_,_,rfl,h5,fun k hk=>?_⟩
  obtain ⟨cs,g1,g2⟩:=h6 (k+1) (by simpa using hk)
  exact ⟨cs,g1,fun j hj=>by rw [← g2 j hj];congr 2;omega⟩
theorem expr_index (name:Ln) (n:Int) (W:World) (lo:Nat) (hlo:lo≤W.heap.size) (l:List X) (hll:l.length≤1000000) (p:Option Addr) (cap:Nat) (hXs0:XsR W (.slice p l.length cap) l) (ih:∀ y ∈ l,ExprOK y) :
  Calls Tryz.prog 56 #[.agg #[.int .i64 4,.string (bs name),.int .i64 n,.int .i64 0,.int .u64 0,.slice p l.length cap]] W (MkPost lo W (exprT (.mk 4 name n 0 0 l))):=by
  go_enter Tryz.func56,Tryz.ntmps56
  go_wp2_with fail
  obtain ⟨W1,hW1,hbx,hls,hNB⟩:=new_box W (.cells #[.int .i64 4,.string (bs name),.int .i64 n,.int .i64 0,.int .u64 0,.slice p l.length cap] 28)
  rw [hNB]
  clear hNB
  have hbl:W.heap.size<W1.heap.size:=by omega
  have hlo1:lo≤W1.heap.size:=by omega
  have hXs:=XsR.later hXs0 hW1.out
  have y1:=box_at hbx 1 (v:=.string (bs name)) rfl
  have y5:=box_at hbx 5 (v:=.slice p l.length cap) rfl
  clear hbx hls
  refine region_grow Grw (spcAt lo [.is (.pointer (some ⟨W.heap.size,1,none⟩)),.is (.string (bs name)),.seq ([nmT (name)]),.is (.pointer (some ⟨W.heap.size,5,none⟩)),.is (.slice p l.length cap),.seq (sepS [58] ((l).map exprT)),.seq (inT 91 93 (sepS [58] ((l).map exprT))),.seqs [[nmT (name)],inT 91 93 (sepS [58] ((l).map exprT))],.seq (List.flatten [[nmT (name)],inT 91 93 (sepS [58] ((l).map exprT))]),.seq (List.flatten [[nmT (name)],inT 91 93 (sepS [58] ((l).map exprT))])])
   (by kernel_rfl) rfl (by kernel_rfl) (by kernel_rfl) (grw_drawn _) grw_trans (spcAt_grw lo _) ?hops ?hfin
  case hops=>
   refine ⟨?o0,?o1,?o2,?o3,?o4,?o5,?o6,?o7,?o8,?o9,trivial⟩
   all_goals (intro ev W' hG hr hD;have hc:=hr.const;have hf:=hr.func)
   case o0=>
    have e1:ev (.tmp 1)=.pointer (some ⟨W.heap.size,0,none⟩):=hr.tmp 1 (by kernel_rfl)
    exact ok_val (by simp [execOp,go_sem,e1]) ⟨Below.refl _ _,rfl⟩
   case o1=>
    have e18:ev (.tmp 18)=_:=hD 0 18 (by kernel_rfl)
    have m0:=(hG.cell (p:=⟨W.heap.size,1,none⟩) hbl).trans y1
    exact ok_val (by simp [execOp,go_sem,e18,m0]) ⟨Below.refl _ _,rfl⟩
   case o2=>
    have e19:ev (.tmp 19)=_:=hD 1 19 (by kernel_rfl)
    exact ok_call (f:=93) (args:=#[.string (bs name)]) (by simp [execOp,go_sem,hc,hf,e19]) (mkp (sname_any (name) W' lo (Nat.le_trans hlo1 hG.size)))
   case o3=>
    have e1:ev (.tmp 1)=.pointer (some ⟨W.heap.size,0,none⟩):=hr.tmp 1 (by kernel_rfl)
    exact ok_val (by simp [execOp,go_sem,e1]) ⟨Below.refl _ _,rfl⟩
   case o4=>
    have e21:ev (.tmp 21)=_:=hD 3 21 (by kernel_rfl)
    have m0:=(hG.cell (p:=⟨W.heap.size,5,none⟩) hbl).trans y5
    exact ok_val (by simp [execOp,go_sem,e21,m0]) ⟨Below.refl _ _,rfl⟩
   case o5=>
    have e22:ev (.tmp 22)=_:=hD 4 22 (by kernel_rfl)
    exact ok_call (f:=105) (args:=#[.slice p l.length cap,.string { data:=#[58] },.func (.func 56) #[] #[]]) (by simp [execOp,go_sem,hc,hf,e22]) (mkp (eachX_any [58] (by decide) _ (l) hll W' lo (Nat.le_trans hlo1 hG.size) (XsR.later hXs hG) ih))
   case o6=>
    have s23:Seq lo W' (ev (.tmp 23)) _:=hD 5 23 (by kernel_rfl)
    exact ok_call (f:=95) (args:=#[.string { data:=#[91,93] },ev (.tmp 23)]) (by simp [execOp,go_sem,hc,hf]) (mkp (in_any 91 93 _ _ W' lo (Nat.le_trans hlo1 hG.size) s23))
   case o7=>
    obtain ⟨g20,l20,e20,s20⟩:=seq_form (show Seq lo W' (ev (.tmp 20)) _ from hD 2 20 (by kernel_rfl))
    obtain ⟨g24,l24,e24,s24⟩:=seq_form (show Seq lo W' (ev (.tmp 24)) _ from hD 6 24 (by kernel_rfl))
    have hn:=seqs_new (lo:=lo) (W:=W') (fs:=[.func (.func g20) #[] l20,.func (.func g24) #[] l24]) (ls:=[[nmT (name)],inT 91 93 (sepS [58] ((l).map exprT))]) ⟨s20,s24,trivial⟩ (Nat.le_trans hlo1 hG.size)
    exact ok_new (v:=.slice (some ⟨W'.heap.size,0,none⟩) 2 2) (W':=W'.alloc (.cells #[.func (.func g20) #[] l20,.func (.func g24) #[] l24] 79)) (by simp [execOp,go_sem,e20,e24]) ⟨hn.2,hn.1⟩
   case o8=>
    have s25:Seqs lo W' (ev (.tmp 25)) _:=hD 7 25 (by kernel_rfl)
    exact ok_call (f:=91) (args:=#[ev (.tmp 25)]) (by simp [execOp,go_sem,hc,hf]) (mkp (row_any _ _ (by simp) W' lo (Nat.le_trans hlo1 hG.size) s25))
   case o9=>
    have s26:Seq lo W' (ev (.tmp 26)) _:=hD 8 26 (by kernel_rfl)
    exact ok_val (by simp [execOp,go_sem]) ⟨Below.refl _ _,s26⟩
  case hfin=>
   intro zz W' hG hzz
   have h9:Seq lo W' (zz 9) (List.flatten [[nmT (name)],inT 91 93 (sepS [58] ((l).map exprT))]):=hzz 9 (by simp)
   simp only [putAll,Act.put,List.setIfInBounds_toArray,List.set_cons_zero,List.set_cons_succ]
   go_wp2_with fail
   go_ret
   refine ⟨_,rfl,?_,hW1.out.trans (Below.mono hG (by omega))⟩
   rw [exprT_4];exact h9
theorem expr_slice (name:Ln) (n:Int) (W:World) (lo:Nat) (hlo:lo≤W.heap.size) (l:List X) (hll:l.length≤1000000) (p:Option Addr) (cap:Nat) (hXs0:XsR W (.slice p l.length cap) l) (ih:∀ y ∈ l,ExprOK y) :
  Calls Tryz.prog 56 #[.agg #[.int .i64 3,.string (bs name),.int .i64 n,.int .i64 0,.int .u64 0,.slice p l.length cap]] W (MkPost lo W (exprT (.mk 3 name n 0 0 l))):=by
  go_enter Tryz.func56,Tryz.ntmps56
  go_wp2_with fail
  obtain ⟨W1,hW1,hbx,hls,hNB⟩:=new_box W (.cells #[.int .i64 3,.string (bs name),.int .i64 n,.int .i64 0,.int .u64 0,.slice p l.length cap] 28)
  rw [hNB]
  clear hNB
  have hbl:W.heap.size<W1.heap.size:=by omega
  have hlo1:lo≤W1.heap.size:=by omega
  have hXs:=XsR.later hXs0 hW1.out
  have y1:=box_at hbx 1 (v:=.string (bs name)) rfl
  have y5:=box_at hbx 5 (v:=.slice p l.length cap) rfl
  clear hbx hls
  refine region_grow Grw (spcAt lo [.is (.pointer (some ⟨W.heap.size,1,none⟩)),.is (.string (bs name)),.seq ([nmT (name)]),.is (.pointer (some ⟨W.heap.size,5,none⟩)),.is (.slice p l.length cap),.seq (sepS [58] ((l).map exprT)),.seq (inT 91 93 (sepS [58] ((l).map exprT))),.seqs [[nmT (name)],inT 91 93 (sepS [58] ((l).map exprT))],.seq (List.flatten [[nmT (name)],inT 91 93 (sepS [58] ((l).map exprT))]),.seq (List.flatten [[nmT (name)],inT 91 93 (sepS [58] ((l).map exprT))])])
   (by kernel_rfl) rfl (by kernel_rfl) (by kernel_rfl) (grw_drawn _) grw_trans (spcAt_grw lo _) ?hops ?hfin
  case hops=>
   refine ⟨?o0,?o1,?o2,?o3,?o4,?o5,?o6,?o7,?o8,?o9,trivial⟩
   all_goals (intro ev W' hG hr hD;have hc:=hr.const;have hf:=hr.func)
   case o0=>
    have e1:ev (.tmp 1)=.pointer (some ⟨W.heap.size,0,none⟩):=hr.tmp 1 (by kernel_rfl)
    exact ok_val (by simp [execOp,go_sem,e1]) ⟨Below.refl _ _,rfl⟩
   case o1=>
    have e18:ev (.tmp 18)=_:=hD 0 18 (by kernel_rfl)
    have m0:=(hG.cell (p:=⟨W.heap.size,1,none⟩) hbl).trans y1
    exact ok_val (by simp [execOp,go_sem,e18,m0]) ⟨Below.refl _ _,rfl⟩
   case o2=>
    have e19:ev (.tmp 19)=_:=hD 1 19 (by kernel_rfl)
    exact ok_call (f:=93) (args:=#[.string (bs name)]) (by simp [execOp,go_sem,hc,hf,e19]) (mkp (sname_any (name) W' lo (Nat.le_trans hlo1 hG.size)))
   case o3=>
    have e1:ev (.tmp 1)=.pointer (some ⟨W.heap.size,0,none⟩):=hr.tmp 1 (by kernel_rfl)
    exact ok_val (by simp [execOp,go_sem,e1]) ⟨Below.refl _ _,rfl⟩
   case o4=>
    have e21:ev (.tmp 21)=_:=hD 3 21 (by kernel_rfl)
    have m0:=(hG.cell (p:=⟨W.heap.size,5,none⟩) hbl).trans y5
    exact ok_val (by simp [execOp,go_sem,e21,m0]) ⟨Below.refl _ _,rfl⟩
   case o5=>
    have e22:ev (.tmp 22)=_:=hD 4 22 (by kernel_rfl)
    exact ok_call (f:=105) (args:=#[.slice p l.length cap,.string { data:=#[58] },.func (.func 56) #[] #[]]) (by simp [execOp,go_sem,hc,hf,e22]) (mkp (eachX_any [58] (by decide) _ (l) hll W' lo (Nat.le_trans hlo1 hG.size) (XsR.later hXs hG) ih))
   case o6=>
    have s23:Seq lo W' (ev (.tmp 23)) _:=hD 5 23 (by kernel_rfl)
    exact ok_call (f:=95) (args:=#[.string { data:=#[91,93] },ev (.tmp 23)]) (by simp [execOp,go_sem,hc,hf]) (mkp (in_any 91 93 _ _ W' lo (Nat.le_trans hlo1 hG.size) s23))
   case o7=>
    obtain ⟨g20,l20,e20,s20⟩:=seq_form (show Seq lo W' (ev (.tmp 20)) _ from hD 2 20 (by kernel_rfl))
    obtain ⟨g24,l24,e24,s24⟩:=seq_form (show Seq lo W' (ev (.tmp 24)) _ from hD 6 24 (by kernel_rfl))
    have hn:=seqs_new (lo:=lo) (W:=W') (fs:=[.func (.func g20) #[] l20,.func (.func g24) #[] l24]) (ls:=[[nmT (name)],inT 91 93 (sepS [58] ((l).map exprT))]) ⟨s20,s24,trivial⟩ (Nat.le_trans hlo1 hG.size)
    exact ok_new (v:=.slice (some ⟨W'.heap.size,0,none⟩) 2 2) (W':=W'.alloc (.cells #[.func (.func g20) #[] l20,.func (.func g24) #[] l24] 79)) (by simp [execOp,go_sem,e20,e24]) ⟨hn.2,hn.1⟩
   case o8=>
    have s25:Seqs lo W' (ev (.tmp 25)) _:=hD 7 25 (by kernel_rfl)
    exact ok_call (f:=91) (args:=#[ev (.tmp 25)]) (by simp [execOp,go_sem,hc,hf]) (mkp (row_any _ _ (by simp) W' lo (Nat.le_trans hlo1 hG.size) s25))
   case o9=>
    have s26:Seq lo W' (ev (.tmp 26)) _:=hD 8 26 (by kernel_rfl)
    exact ok_val (by simp [execOp,go_sem]) ⟨Below.refl _ _,s26⟩
  case hfin=>
   intro zz W' hG hzz
   have h9:Seq lo W' (zz 9) (List.flatten [[nmT (name)],inT 91 93 (sepS [58] ((l).map exprT))]):=hzz 9 (by simp)
   simp only [putAll,Act.put,List.setIfInBounds_toArray,List.set_cons_zero,List.set_cons_succ]
   go_wp2_with fail
   go_ret
   refine ⟨_,rfl,?_,hW1.out.trans (Below.mono hG (by omega))⟩
   rw [exprT_3];exact h9
theorem expr_un (k k1:Int) (s:Ln) (hk:(k=1∧k1=0∧s=[126])∨(k=2∧k1=1∧s=[45])∨(k=3∧k1=2∧s=[38])∨(k=4∧k1=3∧s=[124])∨(k=5∧k1=4∧s=[94])∨(k=6∧k1=5∧s=[33])) (name:Ln) (W:World) (lo:Nat) (hlo:lo≤W.heap.size) (xa:X) (q off cap:Nat) (hq0:q<W.heap.size) (hXs0:XsR W (.slice (some ⟨q,off,none⟩) 1 cap) [xa]) (hoa:okX xa=true) (iha:ExprOK xa) (za:XAt W q off xa) :
  Calls Tryz.prog 56 #[.agg #[.int .i64 5,.string (bs name),.int .i64 k,.int .i64 0,.int .u64 0,.slice (some ⟨q,off,none⟩) 1 cap]] W (MkPost lo W (exprT (.mk 5 name k 0 0 [xa]))):=by
  go_enter Tryz.func56,Tryz.ntmps56
  go_wp2_with fail
  obtain ⟨W1,hW1,hbx,hls,hNB⟩:=new_box W (.cells #[.int .i64 5,.string (bs name),.int .i64 k,.int .i64 0,.int .u64 0,.slice (some ⟨q,off,none⟩) 1 cap] 28)
  rw [hNB]
  clear hNB
  have hbl:W.heap.size<W1.heap.size:=by omega
  have hlo1:lo≤W1.heap.size:=by omega
  have hXs:=XsR.later hXs0 hW1.out
  have hq1:q<W1.heap.size:=Nat.lt_of_lt_of_le hq0 hW1.out.size
  obtain ⟨pa,ca,a0,a1,a2,a3,a4,a5,Xa⟩:=XAt.later za hq0 hW1.out
  have y2:=box_at hbx 2 (v:=.int .i64 k) rfl
  have y5:=box_at hbx 5 (v:=.slice (some ⟨q,off,none⟩) 1 cap) rfl
  clear hbx hls
  refine region_grow Grw (spcAt lo [.is (.pointer (some ⟨W.heap.size,2,none⟩)),.is (.int .i64 k),.is (.int .i64 k1),.is (.pointer (some ⟨W.heap.size,2,none⟩)),.is (.int .i64 k),.is (.string (bs s)),.seq ([sgT s]),.is (.pointer (some ⟨W.heap.size,5,none⟩)),.is (.slice (some ⟨q,off,none⟩) 1 cap),.is (.pointer (some ⟨q,off,none⟩)),.is (.agg #[.int .i64 xa.op,.string (bs xa.name),.int .i64 xa.n,.int .i64 xa.w,.int .u64 xa.v,.slice pa xa.l.length ca]),.seq (partT (rankX (xa),exprT (xa)) (11)),.seqs [[sgT s],partT (rankX (xa),exprT (xa)) (11)],.seq (List.flatten [[sgT s],partT (rankX (xa),exprT (xa)) (11)]),.seq (List.flatten [[sgT s],partT (rankX (xa),exprT (xa)) (11)])])
   (by kernel_rfl) rfl (by kernel_rfl) (by kernel_rfl) (grw_drawn _) grw_trans (spcAt_grw lo _) ?hops ?hfin
  case hops=>
   refine ⟨?o0,?o1,?o2,?o3,?o4,?o5,?o6,?o7,?o8,?o9,?o10,?o11,?o12,?o13,?o14,trivial⟩
   all_goals (intro ev W' hG hr hD;have hc:=hr.const;have hf:=hr.func)
   case o0=>
    have e1:ev (.tmp 1)=.pointer (some ⟨W.heap.size,0,none⟩):=hr.tmp 1 (by kernel_rfl)
    exact ok_val (by simp [execOp,go_sem,e1]) ⟨Below.refl _ _,rfl⟩
   case o1=>
    have e29:ev (.tmp 29)=_:=hD 0 29 (by kernel_rfl)
    have m0:=(hG.cell (p:=⟨W.heap.size,2,none⟩) hbl).trans y2
    exact ok_val (by simp [execOp,go_sem,e29,m0]) ⟨Below.refl _ _,rfl⟩
   case o2=>
    have e30:ev (.tmp 30)=_:=hD 1 30 (by kernel_rfl)
    rcases hk with ⟨rfl,rfl,rfl⟩ | ⟨rfl,rfl,rfl⟩ | ⟨rfl,rfl,rfl⟩ | ⟨rfl,rfl,rfl⟩ | ⟨rfl,rfl,rfl⟩ | ⟨rfl,rfl,rfl⟩ <;> exact ok_val (by simp [execOp,go_sem,hc,e30];try rfl) ⟨Below.refl _ _,rfl⟩
   case o3=>
    have e1:ev (.tmp 1)=.pointer (some ⟨W.heap.size,0,none⟩):=hr.tmp 1 (by kernel_rfl)
    exact ok_val (by simp [execOp,go_sem,e1]) ⟨Below.refl _ _,rfl⟩
   case o4=>
    have e32:ev (.tmp 32)=_:=hD 3 32 (by kernel_rfl)
    have m0:=(hG.cell (p:=⟨W.heap.size,2,none⟩) hbl).trans y2
    exact ok_val (by simp [execOp,go_sem,e32,m0]) ⟨Below.refl _ _,rfl⟩
   case o5=>
    have e31:ev (.tmp 31)=_:=hD 2 31 (by kernel_rfl)
    have e33:ev (.tmp 33)=_:=hD 4 33 (by kernel_rfl)
    rcases hk with ⟨rfl,rfl,rfl⟩ | ⟨rfl,rfl,rfl⟩ | ⟨rfl,rfl,rfl⟩ | ⟨rfl,rfl,rfl⟩ | ⟨rfl,rfl,rfl⟩ | ⟨rfl,rfl,rfl⟩ <;> exact ok_val (by simp [execOp,go_sem,hc,e31,e33];rfl) ⟨Below.refl _ _,rfl⟩
   case o6=>
    have e34:ev (.tmp 34)=_:=hD 5 34 (by kernel_rfl)
    exact ok_call (f:=90) (args:=#[.string (bs s)]) (by simp [execOp,go_sem,hc,hf,e34]) (mkp (ssign_any s W' lo (Nat.le_trans hlo1 hG.size)))
   case o7=>
    have e1:ev (.tmp 1)=.pointer (some ⟨W.heap.size,0,none⟩):=hr.tmp 1 (by kernel_rfl)
    exact ok_val (by simp [execOp,go_sem,e1]) ⟨Below.refl _ _,rfl⟩
   case o8=>
    have e36:ev (.tmp 36)=_:=hD 7 36 (by kernel_rfl)
    have m0:=(hG.cell (p:=⟨W.heap.size,5,none⟩) hbl).trans y5
    exact ok_val (by simp [execOp,go_sem,e36,m0]) ⟨Below.refl _ _,rfl⟩
   case o9=>
    have e37:ev (.tmp 37)=_:=hD 8 37 (by kernel_rfl)
    exact ok_val (by simp [execOp,go_sem,e37,hc]) ⟨Below.refl _ _,rfl⟩
   case o10=>
    have e38:ev (.tmp 38)=_:=hD 9 38 (by kernel_rfl)
    obtain ⟨m0,m1,m2,m3,m4,m5⟩:=six_later hG hq1 a0 a1 a2 a3 a4 a5
    exact ok_val (by simp [execOp,go_sem,e38,m0,m1,m2,m3,m4,m5]) ⟨Below.refl _ _,rfl⟩
   case o11=>
    have e39:ev (.tmp 39)=_:=hD 10 39 (by kernel_rfl)
    exact ok_call (f:=106) (args:=#[.agg #[.int .i64 xa.op,.string (bs xa.name),.int .i64 xa.n,.int .i64 xa.w,.int .u64 xa.v,.slice pa xa.l.length ca],.int .i64 11]) (by simp [execOp,go_sem,hc,hf,e39]) (mkp (part_any (xa) hoa iha (11) W' lo (Nat.le_trans hlo1 hG.size) _ (XR.later hG _ _ Xa)))
   case o12=>
    obtain ⟨g35,l35,e35,s35⟩:=seq_form (show Seq lo W' (ev (.tmp 35)) _ from hD 6 35 (by kernel_rfl))
    obtain ⟨g40,l40,e40,s40⟩:=seq_form (show Seq lo W' (ev (.tmp 40)) _ from hD 11 40 (by kernel_rfl))
    have hn:=seqs_new (lo:=lo) (W:=W') (fs:=[.func (.func g35) #[] l35,.func (.func g40) #[] l40]) (ls:=[[sgT s],partT (rankX (xa),exprT (xa)) (11)]) ⟨s35,s40,trivial⟩ (Nat.le_trans hlo1 hG.size)
    exact ok_new (v:=.slice (some ⟨W'.heap.size,0,none⟩) 2 2) (W':=W'.alloc (.cells #[.func (.func g35) #[] l35,.func (.func g40) #[] l40] 79)) (by simp [execOp,go_sem,e35,e40]) ⟨hn.2,hn.1⟩
   case o13=>
    have s41:Seqs lo W' (ev (.tmp 41)) _:=hD 12 41 (by kernel_rfl)
    exact ok_call (f:=91) (args:=#[ev (.tmp 41)]) (by simp [execOp,go_sem,hc,hf]) (mkp (row_any _ _ (by simp) W' lo (Nat.le_trans hlo1 hG.size) s41))
   case o14=>
    have s42:Seq lo W' (ev (.tmp 42)) _:=hD 13 42 (by kernel_rfl)
    exact ok_val (by simp [execOp,go_sem]) ⟨Below.refl _ _,s42⟩
  case hfin=>
   intro zz W' hG hzz
   have h9:Seq lo W' (zz 14) (List.flatten [[sgT s],partT (rankX (xa),exprT (xa)) (11)]):=hzz 14 (by simp)
   simp only [putAll,Act.put,List.setIfInBounds_toArray,List.set_cons_zero,List.set_cons_succ]
   go_wp2_with fail
   go_ret
   refine ⟨_,rfl,?_,hW1.out.trans (Below.mono hG (by omega))⟩
   rcases hk with ⟨rfl,rfl,rfl⟩ | ⟨rfl,rfl,rfl⟩ | ⟨rfl,rfl,rfl⟩ | ⟨rfl,rfl,rfl⟩ | ⟨rfl,rfl,rfl⟩ | ⟨rfl,rfl,rfl⟩ <;> (rw [exprT_5];exact h9)
theorem expr_bin (name:Ln) (n:Int) (hn1:11≤n) (hn2:n≤26) (W:World) (lo:Nat) (hlo:lo≤W.heap.size) (xa xb:X) (q off cap:Nat) (hq0:q<W.heap.size) (hXs0:XsR W (.slice (some ⟨q,off,none⟩) 2 cap) [xa,xb]) (hoa:okX xa=true) (iha:ExprOK xa) (za:XAt W q off xa) (hob:okX xb=true) (ihb:ExprOK xb) (zb:XAt W q (off+6) xb) :
  Calls Tryz.prog 56 #[.agg #[.int .i64 6,.string (bs name),.int .i64 n,.int .i64 0,.int .u64 0,.slice (some ⟨q,off,none⟩) 2 cap]] W (MkPost lo W (exprT (.mk 6 name n 0 0 [xa,xb]))):=by
  go_enter Tryz.func56,Tryz.ntmps56
  go_wp2_with fail
  have hW0:=(Below.refl W.heap.size W).alloc (Nat.le_refl _) (.cells #[.int .i64 6,.string (bs name),.int .i64 n,.int .i64 0,.int .u64 0,.slice (some ⟨q,off,none⟩) 2 cap] 28)
  have hbx0:=World.alloc_heap_new W (.cells #[.int .i64 6,.string (bs name),.int .i64 n,.int .i64 0,.int .u64 0,.slice (some ⟨q,off,none⟩) 2 cap] 28)
  have hls:=World.size_alloc W (.cells #[.int .i64 6,.string (bs name),.int .i64 n,.int .i64 0,.int .u64 0,.slice (some ⟨q,off,none⟩) 2 cap] 28)
  generalize W.alloc (.cells #[.int .i64 6,.string (bs name),.int .i64 n,.int .i64 0,.int .u64 0,.slice (some ⟨q,off,none⟩) 2 cap] 28)=W0 at *
  refine (two_any n hn1 hn2 W0).mono ?_
  rintro e W1 ⟨rfl,h2⟩
  have hW1:=hid (hW0.trans (h2.mono (by omega)))
  have hbx:=(h2.block _ (by omega)).trans hbx0
  have hbl:W.heap.size<W1.heap.size:=by have:=h2.size;omega
  have hlo1:lo≤W1.heap.size:=by omega
  have hw:IntKind.i64.wrap (((twoR n:Nat):Int)+1)=((twoR n:Nat):Int)+1:=Go.IntWalk.i64_in _ (by have:=twoR_le n;omega)
  clear h2 hW0 hbx0
  go_wp2_with fail
  have hXs:=XsR.later hXs0 hW1.out
  have hq1:q<W1.heap.size:=Nat.lt_of_lt_of_le hq0 hW1.out.size
  obtain ⟨pa,ca,a0,a1,a2,a3,a4,a5,Xa⟩:=XAt.later za hq0 hW1.out
  obtain ⟨pb,cb,b0,b1,b2,b3,b4,b5,Xb⟩:=XAt.later zb hq0 hW1.out
  have y5:=box_at hbx 5 (v:=.slice (some ⟨q,off,none⟩) 2 cap) rfl
  clear hbx hls
  refine region_grow Grw (spcAt lo [.is (.pointer (some ⟨W.heap.size,5,none⟩)),.is (.slice (some ⟨q,off,none⟩) 2 cap),.is (.pointer (some ⟨q,off,none⟩)),.is (.agg #[.int .i64 xa.op,.string (bs xa.name),.int .i64 xa.n,.int .i64 xa.w,.int .u64 xa.v,.slice pa xa.l.length ca]),.is (.int .i64 ((twoR n:Nat):Int)),.seq (partT (rankX (xa),exprT (xa)) (twoR n)),.is (.string (bs (twoS n))),.seq ([sgT (twoS n)]),.is (.pointer (some ⟨W.heap.size,5,none⟩)),.is (.slice (some ⟨q,off,none⟩) 2 cap),.is (.pointer (some ⟨q,off+6,none⟩)),.is (.agg #[.int .i64 xb.op,.string (bs xb.name),.int .i64 xb.n,.int .i64 xb.w,.int .u64 xb.v,.slice pb xb.l.length cb]),.is (.int .i64 ((twoR n:Nat):Int)),.is (.int .i64 ((twoR n+1:Nat):Int)),.seq (partT (rankX (xb),exprT (xb)) (twoR n+1)),.seqs [partT (rankX (xa),exprT (xa)) (twoR n),[sgT (twoS n)],partT (rankX (xb),exprT (xb)) (twoR n+1)],.seq (List.flatten [partT (rankX (xa),exprT (xa)) (twoR n),[sgT (twoS n)],partT (rankX (xb),exprT (xb)) (twoR n+1)]),.seq (List.flatten [partT (rankX (xa),exprT (xa)) (twoR n),[sgT (twoS n)],partT (rankX (xb),exprT (xb)) (twoR n+1)])])
   (by kernel_rfl) rfl (by kernel_rfl) (by kernel_rfl) (grw_drawn _) grw_trans (spcAt_grw lo _) ?hops ?hfin
  case hops=>
   refine ⟨?o0,?o1,?o2,?o3,?o4,?o5,?o6,?o7,?o8,?o9,?o10,?o11,?o12,?o13,?o14,?o15,?o16,?o17,trivial⟩
   all_goals (intro ev W' hG hr hD;have hc:=hr.const;have hf:=hr.func)
   case o0=>
    have e1:ev (.tmp 1)=.pointer (some ⟨W.heap.size,0,none⟩):=hr.tmp 1 (by kernel_rfl)
    exact ok_val (by simp [execOp,go_sem,e1]) ⟨Below.refl _ _,rfl⟩
   case o1=>
    have e51:ev (.tmp 51)=_:=hD 0 51 (by kernel_rfl)
    have m0:=(hG.cell (p:=⟨W.heap.size,5,none⟩) hbl).trans y5
    exact ok_val (by simp [execOp,go_sem,e51,m0]) ⟨Below.refl _ _,rfl⟩
   case o2=>
    have e52:ev (.tmp 52)=_:=hD 1 52 (by kernel_rfl)
    exact ok_val (by simp [execOp,go_sem,e52,hc]) ⟨Below.refl _ _,rfl⟩
   case o3=>
    have e53:ev (.tmp 53)=_:=hD 2 53 (by kernel_rfl)
    obtain ⟨m0,m1,m2,m3,m4,m5⟩:=six_later hG hq1 a0 a1 a2 a3 a4 a5
    exact ok_val (by simp [execOp,go_sem,e53,m0,m1,m2,m3,m4,m5]) ⟨Below.refl _ _,rfl⟩
   case o4=>
    have e4:ev (.tmp 4)=.int .i64 ((twoR n:Nat):Int):=hr.tmp 4 (by kernel_rfl)
    exact ok_val (by simp [execOp,go_sem,e4]) ⟨Below.refl _ _,rfl⟩
   case o5=>
    have e54:ev (.tmp 54)=_:=hD 3 54 (by kernel_rfl)
    have e55:ev (.tmp 55)=_:=hD 4 55 (by kernel_rfl)
    exact ok_call (f:=106) (args:=#[.agg #[.int .i64 xa.op,.string (bs xa.name),.int .i64 xa.n,.int .i64 xa.w,.int .u64 xa.v,.slice pa xa.l.length ca],.int .i64 ((twoR n:Nat):Int)]) (by simp [execOp,go_sem,hc,hf,e54,e55]) (mkp (part_any (xa) hoa iha (twoR n) W' lo (Nat.le_trans hlo1 hG.size) _ (XR.later hG _ _ Xa)))
   case o6=>
    have e3:ev (.tmp 3)=.string (bs (twoS n)):=hr.tmp 3 (by kernel_rfl)
    exact ok_val (by simp [execOp,go_sem,e3]) ⟨Below.refl _ _,rfl⟩
   case o7=>
    have e57:ev (.tmp 57)=_:=hD 6 57 (by kernel_rfl)
    exact ok_call (f:=90) (args:=#[.string (bs (twoS n))]) (by simp [execOp,go_sem,hc,hf,e57]) (mkp (ssign_any (twoS n) W' lo (Nat.le_trans hlo1 hG.size)))
   case o8=>
    have e1:ev (.tmp 1)=.pointer (some ⟨W.heap.size,0,none⟩):=hr.tmp 1 (by kernel_rfl)
    exact ok_val (by simp [execOp,go_sem,e1]) ⟨Below.refl _ _,rfl⟩
   case o9=>
    have e59:ev (.tmp 59)=_:=hD 8 59 (by kernel_rfl)
    have m0:=(hG.cell (p:=⟨W.heap.size,5,none⟩) hbl).trans y5
    exact ok_val (by simp [execOp,go_sem,e59,m0]) ⟨Below.refl _ _,rfl⟩
   case o10=>
    have e60:ev (.tmp 60)=_:=hD 9 60 (by kernel_rfl)
    exact ok_val (by simp [execOp,go_sem,e60,hc]) ⟨Below.refl _ _,rfl⟩
   case o11=>
    have e61:ev (.tmp 61)=_:=hD 10 61 (by kernel_rfl)
    have m0:=(hG.cell (p:=⟨q,off+6,none⟩) hq1).trans b0
    have m1:=(hG.cell (p:=⟨q,off+7,none⟩) hq1).trans b1
    have m2:=(hG.cell (p:=⟨q,off+8,none⟩) hq1).trans b2
    have m3:=(hG.cell (p:=⟨q,off+9,none⟩) hq1).trans b3
    have m4:=(hG.cell (p:=⟨q,off+10,none⟩) hq1).trans b4
    have m5:=(hG.cell (p:=⟨q,off+11,none⟩) hq1).trans b5
    exact ok_val (by simp [execOp,go_sem,e61,m0,m1,m2,m3,m4,m5]) ⟨Below.refl _ _,rfl⟩
   case o12=>
    have e4:ev (.tmp 4)=.int .i64 ((twoR n:Nat):Int):=hr.tmp 4 (by kernel_rfl)
    exact ok_val (by simp [execOp,go_sem,e4]) ⟨Below.refl _ _,rfl⟩
   case o13=>
    have e63:ev (.tmp 63)=_:=hD 12 63 (by kernel_rfl)
    exact ok_val (by simp [execOp,go_sem,hc,e63,hw];try rfl) ⟨Below.refl _ _,rfl⟩
   case o14=>
    have e62:ev (.tmp 62)=_:=hD 11 62 (by kernel_rfl)
    have e64:ev (.tmp 64)=_:=hD 13 64 (by kernel_rfl)
    exact ok_call (f:=106) (args:=#[.agg #[.int .i64 xb.op,.string (bs xb.name),.int .i64 xb.n,.int .i64 xb.w,.int .u64 xb.v,.slice pb xb.l.length cb],.int .i64 ((twoR n+1:Nat):Int)]) (by simp [execOp,go_sem,hc,hf,e62,e64]) (mkp (part_any (xb) hob ihb (twoR n+1) W' lo (Nat.le_trans hlo1 hG.size) _ (XR.later hG _ _ Xb)))
   case o15=>
    obtain ⟨g56,l56,e56,s56⟩:=seq_form (show Seq lo W' (ev (.tmp 56)) _ from hD 5 56 (by kernel_rfl))
    obtain ⟨g58,l58,e58,s58⟩:=seq_form (show Seq lo W' (ev (.tmp 58)) _ from hD 7 58 (by kernel_rfl))
    obtain ⟨g65,l65,e65,s65⟩:=seq_form (show Seq lo W' (ev (.tmp 65)) _ from hD 14 65 (by kernel_rfl))
    have hn:=seqs_new (lo:=lo) (W:=W') (fs:=[.func (.func g56) #[] l56,.func (.func g58) #[] l58,.func (.func g65) #[] l65]) (ls:=[partT (rankX (xa),exprT (xa)) (twoR n),[sgT (twoS n)],partT (rankX (xb),exprT (xb)) (twoR n+1)]) ⟨s56,s58,s65,trivial⟩ (Nat.le_trans hlo1 hG.size)
    exact ok_new (v:=.slice (some ⟨W'.heap.size,0,none⟩) 3 3) (W':=W'.alloc (.cells #[.func (.func g56) #[] l56,.func (.func g58) #[] l58,.func (.func g65) #[] l65] 79)) (by simp [execOp,go_sem,e56,e58,e65]) ⟨hn.2,hn.1⟩
   case o16=>
    have s66:Seqs lo W' (ev (.tmp 66)) _:=hD 15 66 (by kernel_rfl)
    exact ok_call (f:=91) (args:=#[ev (.tmp 66)]) (by simp [execOp,go_sem,hc,hf]) (mkp (row_any _ _ (by simp) W' lo (Nat.le_trans hlo1 hG.size) s66))
   case o17=>
    have s67:Seq lo W' (ev (.tmp 67)) _:=hD 16 67 (by kernel_rfl)
    exact ok_val (by simp [execOp,go_sem]) ⟨Below.refl _ _,s67⟩
  case hfin=>
   intro zz W' hG hzz
   have h9:Seq lo W' (zz 17) (List.flatten [partT (rankX (xa),exprT (xa)) (twoR n),[sgT (twoS n)],partT (rankX (xb),exprT (xb)) (twoR n+1)]):=hzz 17 (by simp)
   simp only [putAll,Act.put,List.setIfInBounds_toArray,List.set_cons_zero,List.set_cons_succ]
   go_wp2_with fail
   go_ret
   refine ⟨_,rfl,?_,hW1.out.trans (Below.mono hG (by omega))⟩
   rw [exprT_6];exact h9
theorem expr_cond (name:Ln) (n:Int) (W:World) (lo:Nat) (hlo:lo≤W.heap.size) (xa xb xc:X) (q off cap:Nat) (hq0:q<W.heap.size) (hXs0:XsR W (.slice (some ⟨q,off,none⟩) 3 cap) [xa,xb,xc]) (hoa:okX xa=true) (iha:ExprOK xa) (za:XAt W q off xa) (hob:okX xb=true) (ihb:ExprOK xb) (zb:XAt W q (off+6) xb) (hoc:okX xc=true) (ihc:ExprOK xc) (zc:XAt W q (off+12) xc) :
  Calls Tryz.prog 56 #[.agg #[.int .i64 7,.string (bs name),.int .i64 n,.int .i64 0,.int .u64 0,.slice (some ⟨q,off,none⟩) 3 cap]] W (MkPost lo W (exprT (.mk 7 name n 0 0 [xa,xb,xc]))):=by
  go_enter Tryz.func56,Tryz.ntmps56
  go_wp2_with fail
  obtain ⟨W1,hW1,hbx,hls,hNB⟩:=new_box W (.cells #[.int .i64 7,.string (bs name),.int .i64 n,.int .i64 0,.int .u64 0,.slice (some ⟨q,off,none⟩) 3 cap] 28)
  rw [hNB]
  clear hNB
  have hbl:W.heap.size<W1.heap.size:=by omega
  have hlo1:lo≤W1.heap.size:=by omega
  have hXs:=XsR.later hXs0 hW1.out
  have hq1:q<W1.heap.size:=Nat.lt_of_lt_of_le hq0 hW1.out.size
  obtain ⟨pa,ca,a0,a1,a2,a3,a4,a5,Xa⟩:=XAt.later za hq0 hW1.out
  obtain ⟨pb,cb,b0,b1,b2,b3,b4,b5,Xb⟩:=XAt.later zb hq0 hW1.out
  obtain ⟨pc,cc,c0,c1,c2,c3,c4,c5,Xc⟩:=XAt.later zc hq0 hW1.out
  have y5:=box_at hbx 5 (v:=.slice (some ⟨q,off,none⟩) 3 cap) rfl
  clear hbx hls
  have hcap:3≤cap:=by obtain ⟨_,_,h1,h2,_⟩:=hXs0;cases h1;exact h2
  have hXt:=els_tail (l:=[xb,xc]) hXs
  have iht:∀ y ∈ [xb,xc],ExprOK y:=by intro y hy;rcases List.mem_cons.1 hy with rfl | hy;exact ihb;rcases List.mem_cons.1 hy with rfl | hy;exact ihc;cases hy
  refine region_grow Grw (spcAt lo [.is (.pointer (some ⟨W.heap.size,5,none⟩)),.is (.slice (some ⟨q,off,none⟩) 3 cap),.is (.pointer (some ⟨q,off,none⟩)),.is (.agg #[.int .i64 xa.op,.string (bs xa.name),.int .i64 xa.n,.int .i64 xa.w,.int .u64 xa.v,.slice pa xa.l.length ca]),.seq (partT (rankX (xa),exprT (xa)) (1)),.seq ([sgT [63]]),.is (.pointer (some ⟨W.heap.size,5,none⟩)),.is (.slice (some ⟨q,off,none⟩) 3 cap),.is (.slice (some ⟨q,off+6,none⟩) 2 (cap - 1)),.seq (sepS [58] (([xb,xc]).map exprT)),.seqs [partT (rankX (xa),exprT (xa)) (1),[sgT [63]],sepS [58] (([xb,xc]).map exprT)],.seq (List.flatten [partT (rankX (xa),exprT (xa)) (1),[sgT [63]],sepS [58] (([xb,xc]).map exprT)]),.seq (List.flatten [partT (rankX (xa),exprT (xa)) (1),[sgT [63]],sepS [58] (([xb,xc]).map exprT)])])
   (by kernel_rfl) rfl (by kernel_rfl) (by kernel_rfl) (grw_drawn _) grw_trans (spcAt_grw lo _) ?hops ?hfin
  case hops=>
   refine ⟨?o0,?o1,?o2,?o3,?o4,?o5,?o6,?o7,?o8,?o9,?o10,?o11,?o12,trivial⟩
   all_goals (intro ev W' hG hr hD;have hc:=hr.const;have hf:=hr.func)
   case o0=>
    have e1:ev (.tmp 1)=.pointer (some ⟨W.heap.size,0,none⟩):=hr.tmp 1 (by kernel_rfl)
    exact ok_val (by simp [execOp,go_sem,e1]) ⟨Below.refl _ _,rfl⟩
   case o1=>
    have e70:ev (.tmp 70)=_:=hD 0 70 (by kernel_rfl)
    have m0:=(hG.cell (p:=⟨W.heap.size,5,none⟩) hbl).trans y5
    exact ok_val (by simp [execOp,go_sem,e70,m0]) ⟨Below.refl _ _,rfl⟩
   case o2=>
    have e71:ev (.tmp 71)=_:=hD 1 71 (by kernel_rfl)
    exact ok_val (by simp [execOp,go_sem,e71,hc]) ⟨Below.refl _ _,rfl⟩
   case o3=>
    have e72:ev (.tmp 72)=_:=hD 2 72 (by kernel_rfl)
    obtain ⟨m0,m1,m2,m3,m4,m5⟩:=six_later hG hq1 a0 a1 a2 a3 a4 a5
    exact ok_val (by simp [execOp,go_sem,e72,m0,m1,m2,m3,m4,m5]) ⟨Below.refl _ _,rfl⟩
   case o4=>
    have e73:ev (.tmp 73)=_:=hD 3 73 (by kernel_rfl)
    exact ok_call (f:=106) (args:=#[.agg #[.int .i64 xa.op,.string (bs xa.name),.int .i64 xa.n,.int .i64 xa.w,.int .u64 xa.v,.slice pa xa.l.length ca],.int .i64 1]) (by simp [execOp,go_sem,hc,hf,e73]) (mkp (part_any (xa) hoa iha (1) W' lo (Nat.le_trans hlo1 hG.size) _ (XR.later hG _ _ Xa)))
   case o5=>
    exact ok_call (f:=90) (args:=#[.string { data:=#[63] }]) (by simp [execOp,go_sem,hc,hf]) (mkp (ssign_any [63] W' lo (Nat.le_trans hlo1 hG.size)))
   case o6=>
    have e1:ev (.tmp 1)=.pointer (some ⟨W.heap.size,0,none⟩):=hr.tmp 1 (by kernel_rfl)
    exact ok_val (by simp [execOp,go_sem,e1]) ⟨Below.refl _ _,rfl⟩
   case o7=>
    have e76:ev (.tmp 76)=_:=hD 6 76 (by kernel_rfl)
    have m0:=(hG.cell (p:=⟨W.heap.size,5,none⟩) hbl).trans y5
    exact ok_val (by simp [execOp,go_sem,e76,m0]) ⟨Below.refl _ _,rfl⟩
   case o8=>
    have e77:ev (.tmp 77)=_:=hD 7 77 (by kernel_rfl)
    exact ok_val (by simp [execOp,go_sem,hc,e77,hcap];try omega) ⟨Below.refl _ _,rfl⟩
   case o9=>
    have e78:ev (.tmp 78)=_:=hD 8 78 (by kernel_rfl)
    exact ok_call (f:=105) (args:=#[.slice (some ⟨q,off+6,none⟩) 2 (cap - 1),.string { data:=#[58] },.func (.func 56) #[] #[]]) (by simp [execOp,go_sem,hc,hf,e78]) (mkp (eachX_any [58] (by decide) _ ([xb,xc]) (by simp) W' lo (Nat.le_trans hlo1 hG.size) (XsR.later hXt hG) iht))
   case o10=>
    obtain ⟨g74,l74,e74,s74⟩:=seq_form (show Seq lo W' (ev (.tmp 74)) _ from hD 4 74 (by kernel_rfl))
    obtain ⟨g75,l75,e75,s75⟩:=seq_form (show Seq lo W' (ev (.tmp 75)) _ from hD 5 75 (by kernel_rfl))
    obtain ⟨g79,l79,e79,s79⟩:=seq_form (show Seq lo W' (ev (.tmp 79)) _ from hD 9 79 (by kernel_rfl))
    have hn:=seqs_new (lo:=lo) (W:=W') (fs:=[.func (.func g74) #[] l74,.func (.func g75) #[] l75,.func (.func g79) #[] l79]) (ls:=[partT (rankX (xa),exprT (xa)) (1),[sgT [63]],sepS [58] (([xb,xc]).map exprT)]) ⟨s74,s75,s79,trivial⟩ (Nat.le_trans hlo1 hG.size)
    exact ok_new (v:=.slice (some ⟨W'.heap.size,0,none⟩) 3 3) (W':=W'.alloc (.cells #[.func (.func g74) #[] l74,.func (.func g75) #[] l75,.func (.func g79) #[] l79] 79)) (by simp [execOp,go_sem,e74,e75,e79]) ⟨hn.2,hn.1⟩
   case o11=>
    have s80:Seqs lo W' (ev (.tmp 80)) _:=hD 10 80 (by kernel_rfl)
    exact ok_call (f:=91) (args:=#[ev (.tmp 80)]) (by simp [execOp,go_sem,hc,hf]) (mkp (row_any _ _ (by simp) W' lo (Nat.le_trans hlo1 hG.size) s80))
   case o12=>
    have s81:Seq lo W' (ev (.tmp 81)) _:=hD 11 81 (by kernel_rfl)
    exact ok_val (by simp [execOp,go_sem]) ⟨Below.refl _ _,s81⟩
  case hfin=>
   intro zz W' hG hzz
   have h9:Seq lo W' (zz 12) (List.flatten [partT (rankX (xa),exprT (xa)) (1),[sgT [63]],sepS [58] (([xb,xc]).map exprT)]):=hzz 12 (by simp)
   simp only [putAll,Act.put,List.setIfInBounds_toArray,List.set_cons_zero,List.set_cons_succ]
   go_wp2_with fail
   go_ret
   refine ⟨_,rfl,?_,hW1.out.trans (Below.mono hG (by omega))⟩
   rw [exprT_7];exact h9
theorem expr_rep (name:Ln) (n:Int) (W:World) (lo:Nat) (hlo:lo≤W.heap.size) (xa xb:X) (q off cap:Nat) (hq0:q<W.heap.size) (hXs0:XsR W (.slice (some ⟨q,off,none⟩) 2 cap) [xa,xb]) (hoa:okX xa=true) (iha:ExprOK xa) (za:XAt W q off xa) (hob:okX xb=true) (ihb:ExprOK xb) (zb:XAt W q (off+6) xb) :
  Calls Tryz.prog 56 #[.agg #[.int .i64 9,.string (bs name),.int .i64 n,.int .i64 0,.int .u64 0,.slice (some ⟨q,off,none⟩) 2 cap]] W (MkPost lo W (exprT (.mk 9 name n 0 0 [xa,xb]))):=by
  go_enter Tryz.func56,Tryz.ntmps56
  go_wp2_with fail
  obtain ⟨W1,hW1,hbx,hls,hNB⟩:=new_box W (.cells #[.int .i64 9,.string (bs name),.int .i64 n,.int .i64 0,.int .u64 0,.slice (some ⟨q,off,none⟩) 2 cap] 28)
  rw [hNB]
  clear hNB
  have hbl:W.heap.size<W1.heap.size:=by omega
  have hlo1:lo≤W1.heap.size:=by omega
  have hXs:=XsR.later hXs0 hW1.out
  have hq1:q<W1.heap.size:=Nat.lt_of_lt_of_le hq0 hW1.out.size
  obtain ⟨pa,ca,a0,a1,a2,a3,a4,a5,Xa⟩:=XAt.later za hq0 hW1.out
  obtain ⟨pb,cb,b0,b1,b2,b3,b4,b5,Xb⟩:=XAt.later zb hq0 hW1.out
  have y5:=box_at hbx 5 (v:=.slice (some ⟨q,off,none⟩) 2 cap) rfl
  clear hbx hls
  refine region_grow Grw (spcAt lo [.is (.pointer (some ⟨W.heap.size,5,none⟩)),.is (.slice (some ⟨q,off,none⟩) 2 cap),.is (.pointer (some ⟨q,off,none⟩)),.is (.agg #[.int .i64 xa.op,.string (bs xa.name),.int .i64 xa.n,.int .i64 xa.w,.int .u64 xa.v,.slice pa xa.l.length ca]),.seq (exprT (xa)),.is (.pointer (some ⟨W.heap.size,5,none⟩)),.is (.slice (some ⟨q,off,none⟩) 2 cap),.is (.pointer (some ⟨q,off+6,none⟩)),.is (.agg #[.int .i64 xb.op,.string (bs xb.name),.int .i64 xb.n,.int .i64 xb.w,.int .u64 xb.v,.slice pb xb.l.length cb]),.seq (exprT (xb)),.seq (inT 123 125 (exprT (xb))),.seqs [exprT (xa),inT 123 125 (exprT (xb))],.seq (List.flatten [exprT (xa),inT 123 125 (exprT (xb))]),.seq (inT 123 125 (List.flatten [exprT (xa),inT 123 125 (exprT (xb))])),.seq (inT 123 125 (List.flatten [exprT (xa),inT 123 125 (exprT (xb))]))])
   (by kernel_rfl) rfl (by kernel_rfl) (by kernel_rfl) (grw_drawn _) grw_trans (spcAt_grw lo _) ?hops ?hfin
  case hops=>
   refine ⟨?o0,?o1,?o2,?o3,?o4,?o5,?o6,?o7,?o8,?o9,?o10,?o11,?o12,?o13,?o14,trivial⟩
   all_goals (intro ev W' hG hr hD;have hc:=hr.const;have hf:=hr.func)
   case o0=>
    have e1:ev (.tmp 1)=.pointer (some ⟨W.heap.size,0,none⟩):=hr.tmp 1 (by kernel_rfl)
    exact ok_val (by simp [execOp,go_sem,e1]) ⟨Below.refl _ _,rfl⟩
   case o1=>
    have e90:ev (.tmp 90)=_:=hD 0 90 (by kernel_rfl)
    have m0:=(hG.cell (p:=⟨W.heap.size,5,none⟩) hbl).trans y5
    exact ok_val (by simp [execOp,go_sem,e90,m0]) ⟨Below.refl _ _,rfl⟩
   case o2=>
    have e91:ev (.tmp 91)=_:=hD 1 91 (by kernel_rfl)
    exact ok_val (by simp [execOp,go_sem,e91,hc]) ⟨Below.refl _ _,rfl⟩
   case o3=>
    have e92:ev (.tmp 92)=_:=hD 2 92 (by kernel_rfl)
    obtain ⟨m0,m1,m2,m3,m4,m5⟩:=six_later hG hq1 a0 a1 a2 a3 a4 a5
    exact ok_val (by simp [execOp,go_sem,e92,m0,m1,m2,m3,m4,m5]) ⟨Below.refl _ _,rfl⟩
   case o4=>
    have e93:ev (.tmp 93)=_:=hD 3 93 (by kernel_rfl)
    exact ok_call (f:=56) (args:=#[.agg #[.int .i64 xa.op,.string (bs xa.name),.int .i64 xa.n,.int .i64 xa.w,.int .u64 xa.v,.slice pa xa.l.length ca]]) (by simp [execOp,go_sem,hc,hf,e93]) (mkp (iha W' lo _ (Nat.le_trans hlo1 hG.size) (XR.later hG _ _ Xa)))
   case o5=>
    have e1:ev (.tmp 1)=.pointer (some ⟨W.heap.size,0,none⟩):=hr.tmp 1 (by kernel_rfl)
    exact ok_val (by simp [execOp,go_sem,e1]) ⟨Below.refl _ _,rfl⟩
   case o6=>
    have e95:ev (.tmp 95)=_:=hD 5 95 (by kernel_rfl)
    have m0:=(hG.cell (p:=⟨W.heap.size,5,none⟩) hbl).trans y5
    exact ok_val (by simp [execOp,go_sem,e95,m0]) ⟨Below.refl _ _,rfl⟩
   case o7=>
    have e96:ev (.tmp 96)=_:=hD 6 96 (by kernel_rfl)
    exact ok_val (by simp [execOp,go_sem,e96,hc]) ⟨Below.refl _ _,rfl⟩
   case o8=>
    have e97:ev (.tmp 97)=_:=hD 7 97 (by kernel_rfl)
    have m0:=(hG.cell (p:=⟨q,off+6,none⟩) hq1).trans b0
    have m1:=(hG.cell (p:=⟨q,off+7,none⟩) hq1).trans b1
    have m2:=(hG.cell (p:=⟨q,off+8,none⟩) hq1).trans b2
    have m3:=(hG.cell (p:=⟨q,off+9,none⟩) hq1).trans b3
    have m4:=(hG.cell (p:=⟨q,off+10,none⟩) hq1).trans b4
    have m5:=(hG.cell (p:=⟨q,off+11,none⟩) hq1).trans b5
    exact ok_val (by simp [execOp,go_sem,e97,m0,m1,m2,m3,m4,m5]) ⟨Below.refl _ _,rfl⟩
   case o9=>
    have e98:ev (.tmp 98)=_:=hD 8 98 (by kernel_rfl)
    exact ok_call (f:=56) (args:=#[.agg #[.int .i64 xb.op,.string (bs xb.name),.int .i64 xb.n,.int .i64 xb.w,.int .u64 xb.v,.slice pb xb.l.length cb]]) (by simp [execOp,go_sem,hc,hf,e98]) (mkp (ihb W' lo _ (Nat.le_trans hlo1 hG.size) (XR.later hG _ _ Xb)))
   case o10=>
    have s99:Seq lo W' (ev (.tmp 99)) _:=hD 9 99 (by kernel_rfl)
    exact ok_call (f:=95) (args:=#[.string { data:=#[123,125] },ev (.tmp 99)]) (by simp [execOp,go_sem,hc,hf]) (mkp (in_any 123 125 _ _ W' lo (Nat.le_trans hlo1 hG.size) s99))
   case o11=>
    obtain ⟨g94,l94,e94,s94⟩:=seq_form (show Seq lo W' (ev (.tmp 94)) _ from hD 4 94 (by kernel_rfl))
    obtain ⟨g100,l100,e100,s100⟩:=seq_form (show Seq lo W' (ev (.tmp 100)) _ from hD 10 100 (by kernel_rfl))
    have hn:=seqs_new (lo:=lo) (W:=W') (fs:=[.func (.func g94) #[] l94,.func (.func g100) #[] l100]) (ls:=[exprT (xa),inT 123 125 (exprT (xb))]) ⟨s94,s100,trivial⟩ (Nat.le_trans hlo1 hG.size)
    exact ok_new (v:=.slice (some ⟨W'.heap.size,0,none⟩) 2 2) (W':=W'.alloc (.cells #[.func (.func g94) #[] l94,.func (.func g100) #[] l100] 79)) (by simp [execOp,go_sem,e94,e100]) ⟨hn.2,hn.1⟩
   case o12=>
    have s101:Seqs lo W' (ev (.tmp 101)) _:=hD 11 101 (by kernel_rfl)
    exact ok_call (f:=91) (args:=#[ev (.tmp 101)]) (by simp [execOp,go_sem,hc,hf]) (mkp (row_any _ _ (by simp) W' lo (Nat.le_trans hlo1 hG.size) s101))
   case o13=>
    have s102:Seq lo W' (ev (.tmp 102)) _:=hD 12 102 (by kernel_rfl)
    exact ok_call (f:=95) (args:=#[.string { data:=#[123,125] },ev (.tmp 102)]) (by simp [execOp,go_sem,hc,hf]) (mkp (in_any 123 125 _ _ W' lo (Nat.le_trans hlo1 hG.size) s102))
   case o14=>
    have s103:Seq lo W' (ev (.tmp 103)) _:=hD 13 103 (by kernel_rfl)
    exact ok_val (by simp [execOp,go_sem]) ⟨Below.refl _ _,s103⟩
  case hfin=>
   intro zz W' hG hzz
   have h9:Seq lo W' (zz 14) (inT 123 125 (List.flatten [exprT (xa),inT 123 125 (exprT (xb))])):=hzz 14 (by simp)
   simp only [putAll,Act.put,List.setIfInBounds_toArray,List.set_cons_zero,List.set_cons_succ]
   go_wp2_with fail
   go_ret
   refine ⟨_,rfl,?_,hW1.out.trans (Below.mono hG (by omega))⟩
   rw [exprT_9];exact h9
theorem expr_ext (k k1:Int) (s:Ln) (hk:(k=31∧k1=0∧s=[122,101,120,116])∨(k=32∧k1=1∧s=[115,101,120,116])∨(k=33∧k1=2∧s=[116,114,117,110,99])) (name:Ln) (W:World) (lo:Nat) (hlo:lo≤W.heap.size) (l:List X) (hll:l.length≤1000000) (p:Option Addr) (cap:Nat) (hXs0:XsR W (.slice p l.length cap) l) (ih:∀ y ∈ l,ExprOK y) :
  Calls Tryz.prog 56 #[.agg #[.int .i64 10,.string (bs name),.int .i64 k,.int .i64 0,.int .u64 0,.slice p l.length cap]] W (MkPost lo W (exprT (.mk 10 name k 0 0 l))):=by
  go_enter Tryz.func56,Tryz.ntmps56
  go_wp2_with fail
  obtain ⟨W1,hW1,hbx,hls,hNB⟩:=new_box W (.cells #[.int .i64 10,.string (bs name),.int .i64 k,.int .i64 0,.int .u64 0,.slice p l.length cap] 28)
  rw [hNB]
  clear hNB
  have hbl:W.heap.size<W1.heap.size:=by omega
  have hlo1:lo≤W1.heap.size:=by omega
  have hXs:=XsR.later hXs0 hW1.out
  have y2:=box_at hbx 2 (v:=.int .i64 k) rfl
  have y5:=box_at hbx 5 (v:=.slice p l.length cap) rfl
  clear hbx hls
  refine region_grow Grw (spcAt lo [.is (.agg #[.string { data:=#[122,101,120,116] },.string { data:=#[115,101,120,116] },.string { data:=#[116,114,117,110,99] }]),.is (.pointer (some ⟨W.heap.size,2,none⟩)),.is (.int .i64 k),.is (.int .i64 k1),.is (.string (bs s)),.seq ([wdT s]),.is (.pointer (some ⟨W.heap.size,5,none⟩)),.is (.slice p l.length cap),.seq (listT (l)),.seq (inT 40 41 (listT (l))),.seqs [[wdT s],inT 40 41 (listT (l))],.seq (List.flatten [[wdT s],inT 40 41 (listT (l))]),.seq (List.flatten [[wdT s],inT 40 41 (listT (l))])])
   (by kernel_rfl) rfl (by kernel_rfl) (by kernel_rfl) (grw_drawn _) grw_trans (spcAt_grw lo _) ?hops ?hfin
  case hops=>
   refine ⟨?o0,?o1,?o2,?o3,?o4,?o5,?o6,?o7,?o8,?o9,?o10,?o11,?o12,trivial⟩
   all_goals (intro ev W' hG hr hD;have hc:=hr.const;have hf:=hr.func)
   case o0=>
    exact ok_val (by simp [execOp,go_sem,hc];try rfl) ⟨Below.refl _ _,rfl⟩
   case o1=>
    have e1:ev (.tmp 1)=.pointer (some ⟨W.heap.size,0,none⟩):=hr.tmp 1 (by kernel_rfl)
    exact ok_val (by simp [execOp,go_sem,e1]) ⟨Below.refl _ _,rfl⟩
   case o2=>
    have e105:ev (.tmp 105)=_:=hD 1 105 (by kernel_rfl)
    have m0:=(hG.cell (p:=⟨W.heap.size,2,none⟩) hbl).trans y2
    exact ok_val (by simp [execOp,go_sem,e105,m0]) ⟨Below.refl _ _,rfl⟩
   case o3=>
    have e106:ev (.tmp 106)=_:=hD 2 106 (by kernel_rfl)
    rcases hk with ⟨rfl,rfl,rfl⟩ | ⟨rfl,rfl,rfl⟩ | ⟨rfl,rfl,rfl⟩ <;> exact ok_val (by simp [execOp,go_sem,hc,e106];try rfl) ⟨Below.refl _ _,rfl⟩
   case o4=>
    have e104:ev (.tmp 104)=_:=hD 0 104 (by kernel_rfl)
    have e107:ev (.tmp 107)=_:=hD 3 107 (by kernel_rfl)
    rcases hk with ⟨rfl,rfl,rfl⟩ | ⟨rfl,rfl,rfl⟩ | ⟨rfl,rfl,rfl⟩ <;> exact ok_val (by simp [execOp,go_sem,hc,e104,e107];try rfl) ⟨Below.refl _ _,rfl⟩
   case o5=>
    have e108:ev (.tmp 108)=_:=hD 4 108 (by kernel_rfl)
    exact ok_call (f:=92) (args:=#[.string (bs s)]) (by simp [execOp,go_sem,hc,hf,e108]) (mkp (sword_any s W' lo (Nat.le_trans hlo1 hG.size)))
   case o6=>
    have e1:ev (.tmp 1)=.pointer (some ⟨W.heap.size,0,none⟩):=hr.tmp 1 (by kernel_rfl)
    exact ok_val (by simp [execOp,go_sem,e1]) ⟨Below.refl _ _,rfl⟩
   case o7=>
    have e110:ev (.tmp 110)=_:=hD 6 110 (by kernel_rfl)
    have m0:=(hG.cell (p:=⟨W.heap.size,5,none⟩) hbl).trans y5
    exact ok_val (by simp [execOp,go_sem,e110,m0]) ⟨Below.refl _ _,rfl⟩
   case o8=>
    have e111:ev (.tmp 111)=_:=hD 7 111 (by kernel_rfl)
    exact ok_call (f:=108) (args:=#[.slice p l.length cap]) (by simp [execOp,go_sem,hc,hf,e111]) (mkp (list_any _ (l) hll W' lo (Nat.le_trans hlo1 hG.size) (XsR.later hXs hG) ih))
   case o9=>
    have s112:Seq lo W' (ev (.tmp 112)) _:=hD 8 112 (by kernel_rfl)
    exact ok_call (f:=95) (args:=#[.string { data:=#[40,41] },ev (.tmp 112)]) (by simp [execOp,go_sem,hc,hf]) (mkp (in_any 40 41 _ _ W' lo (Nat.le_trans hlo1 hG.size) s112))
   case o10=>
    obtain ⟨g109,l109,e109,s109⟩:=seq_form (show Seq lo W' (ev (.tmp 109)) _ from hD 5 109 (by kernel_rfl))
    obtain ⟨g113,l113,e113,s113⟩:=seq_form (show Seq lo W' (ev (.tmp 113)) _ from hD 9 113 (by kernel_rfl))
    have hn:=seqs_new (lo:=lo) (W:=W') (fs:=[.func (.func g109) #[] l109,.func (.func g113) #[] l113]) (ls:=[[wdT s],inT 40 41 (listT (l))]) ⟨s109,s113,trivial⟩ (Nat.le_trans hlo1 hG.size)
    exact ok_new (v:=.slice (some ⟨W'.heap.size,0,none⟩) 2 2) (W':=W'.alloc (.cells #[.func (.func g109) #[] l109,.func (.func g113) #[] l113] 79)) (by simp [execOp,go_sem,e109,e113]) ⟨hn.2,hn.1⟩
   case o11=>
    have s114:Seqs lo W' (ev (.tmp 114)) _:=hD 10 114 (by kernel_rfl)
    exact ok_call (f:=91) (args:=#[ev (.tmp 114)]) (by simp [execOp,go_sem,hc,hf]) (mkp (row_any _ _ (by simp) W' lo (Nat.le_trans hlo1 hG.size) s114))
   case o12=>
    have s115:Seq lo W' (ev (.tmp 115)) _:=hD 11 115 (by kernel_rfl)
    exact ok_val (by simp [execOp,go_sem]) ⟨Below.refl _ _,s115⟩
  case hfin=>
   intro zz W' hG hzz
   have h9:Seq lo W' (zz 12) (List.flatten [[wdT s],inT 40 41 (listT (l))]):=hzz 12 (by simp)
   simp only [putAll,Act.put,List.setIfInBounds_toArray,List.set_cons_zero,List.set_cons_succ]
   go_wp2_with fail
   go_ret
   refine ⟨_,rfl,?_,hW1.out.trans (Below.mono hG (by omega))⟩
   rcases hk with ⟨rfl,rfl,rfl⟩ | ⟨rfl,rfl,rfl⟩ | ⟨rfl,rfl,rfl⟩ <;> (rw [exprT_10];exact h9)
theorem expr_num (name:Ln) (n w:Int) (v:Nat) (l:List X) (k:Nat) (W:World) (lo:Nat) (hlo:lo≤W.heap.size) (p:Option Addr) (cap:Nat) :
  Calls Tryz.prog 56 #[.agg #[.int .i64 1,.string (bs name),.int .i64 n,.int .i64 w,.int .u64 v,.slice p k cap]] W (MkPost lo W (exprT (.mk 1 name n w v l))):=by
 go_enter Tryz.func56,Tryz.ntmps56
 go_wp2
 go_ret
 refine ⟨_,rfl,?_,(Below.refl _ _).alloc (Nat.le_refl _) _⟩
 rw [exprT_1]
 have hbx:=World.alloc_heap_new W (.cells #[.int .i64 1,.string (bs name),.int .i64 n,.int .i64 w,.int .u64 v,.slice p k cap] 28)
 exact expr1_seq lo _ W.heap.size hlo #[] w v (by simp) (cell_of_row _ _ 3 _ _ (0,0) hbx) (cell_of_row _ _ 4 _ _ (0,0) hbx)
theorem expr_name (name:Ln) (n w:Int) (v:Nat) (l:List X) (k:Nat) (W:World) (lo:Nat) (hlo:lo≤W.heap.size) (p:Option Addr) (cap:Nat) :
  Calls Tryz.prog 56 #[.agg #[.int .i64 2,.string (bs name),.int .i64 n,.int .i64 w,.int .u64 v,.slice p k cap]] W (MkPost lo W (exprT (.mk 2 name n w v l))):=by
 go_enter Tryz.func56,Tryz.ntmps56
 go_wp2_with (go_at_call 93;refine (sname_any name _ lo (Nat.le_trans hlo (by simp))).mono ?_;rintro e W2 ⟨f,rfl,h1,h2⟩;have H1:=hid h1;have H2:=hid h2;clear h1 h2)
 go_ret
 exact ⟨_,rfl,(by rw [exprT_2];exact H1.out),((Below.refl _ _).alloc (Nat.le_refl _) _).trans (H2.out.mono (by simp))⟩
theorem expr_cat (name:Ln) (n:Int) (W:World) (lo:Nat) (hlo:lo≤W.heap.size) (l:List X) (hll:l.length≤1000000) (p:Option Addr) (cap:Nat) (hXs0:XsR W (.slice p l.length cap) l) (ih:∀ y ∈ l,ExprOK y) :
  Calls Tryz.prog 56 #[.agg #[.int .i64 8,.string (bs name),.int .i64 n,.int .i64 0,.int .u64 0,.slice p l.length cap]] W (MkPost lo W (exprT (.mk 8 name n 0 0 l))):=by
 have HX:=hid hXs0
 have HI:=hid ih
 have HP:=hid (fun (W9:World) (f:Value) (h1:lo≤W9.heap.size) (h2:Seq lo W9 f (listT l))=>in_any 123 125 f (listT l) W9 lo h1 h2)
 clear hXs0 ih
 go_enter Tryz.func56,Tryz.ntmps56
 go_wp2_with (first
  | (go_at_call 108;refine (list_any _ l hll _ lo (Nat.le_trans hlo (by simp)) (XsR.later HX.out ((Below.refl _ _).alloc (Nat.le_refl _) _)) HI.out).mono ?_;rintro e W3 ⟨f,rfl,h1,h2⟩;have H3:=hid h1;have H4:=hid h2;clear h1 h2)
  | (go_at_call 95;refine (HP.out W3 _ (Nat.le_trans hlo (Nat.le_trans (by simp) H4.out.size)) H3.out).mono ?_;rintro e W5 ⟨f,rfl,h1,h2⟩;have H5:=hid h1;have H6:=hid h2;clear h1 h2))
 go_ret
 exact ⟨_,rfl,(by rw [exprT_8];exact H5.out),((Below.refl _ _).alloc (Nat.le_refl _) _).trans ((H4.out.trans (H6.out.mono H4.out.size)).mono (by simp))⟩
theorem expr_ok:∀ x:X,okX x=true→sizeX x≤1000000→ExprOK x:=by
 refine X.ind ?_
 intro x ih hx hsz W lo cs hlo hR
 obtain ⟨op,name,n,w,v,l⟩:=x
 obtain ⟨hv,ls,rfl,hL⟩:=XR_iff.1 hR
 have hx':=hx
 rw [okX_iff,Bool.and_eq_true,List.all_eq_true] at hx'
 obtain ⟨h0,hl⟩:=hx'
 rw [sizeX_eq] at hsz
 simp only [X.op,X.name,X.n,X.w,X.v,X.l,okNode,Bool.and_eq_true] at *
 obtain ⟨⟨⟨hn,hp⟩,hu⟩,hvv⟩:=h0
 have hE:∀ y ∈ l,ExprOK y:=fun y hy=>ih y hy (hl y hy) (by have:=sumN_mem sizeX hy;rw [sizeXs_sum] at hsz;omega)
 have hll:l.length≤1000000:=by have:=sumN_len sizeX one_sizeX l;rw [sizeXs_sum] at hsz;omega
 have hXs0:=hL
 obtain ⟨p,cap,rfl,hcap,hcell⟩:=hL
 rcases parts_cases hp with e | e | e | e | e | e | e | e | e | e <;> subst e
 ·exact expr_num name n w v l l.length W lo hlo p cap
 all_goals (have hwv:w=0∧v=0:=by simpa [valueO] using hvv)
 all_goals (obtain ⟨rfl,rfl⟩:=hwv)
 ·exact expr_name name n 0 0 l l.length W lo hlo p cap
 ·exact expr_slice name n W lo hlo l hll p cap hXs0 hE
 ·exact expr_index name n W lo hlo l hll p cap hXs0 hE
 ·have:l.length=1:=by simpa [partsO] using hp
  match l,this with
  | [xa],_=>
   rcases hcell with hc | ⟨q,off,rfl,hq,hrw⟩
   ·cases hc
   have za:XAt W q off xa:=kidsX hrw 0 xa rfl
   have hn':1≤n∧n≤6:=by simpa [numberO] using hu
   have hn6:n=1∨n=2∨n=3∨n=4∨n=5∨n=6:=by omega
   have ha:=hl xa (by simp)
   have ea:=hE xa (by simp)
   rcases hn6 with e | e | e | e | e | e <;> subst e
   ·exact expr_un 1 0 [126] (by simp) name W lo hlo xa q off cap hq hXs0 ha ea za
   ·exact expr_un 2 1 [45] (by simp) name W lo hlo xa q off cap hq hXs0 ha ea za
   ·exact expr_un 3 2 [38] (by simp) name W lo hlo xa q off cap hq hXs0 ha ea za
   ·exact expr_un 4 3 [124] (by simp) name W lo hlo xa q off cap hq hXs0 ha ea za
   ·exact expr_un 5 4 [94] (by simp) name W lo hlo xa q off cap hq hXs0 ha ea za
   ·exact expr_un 6 5 [33] (by simp) name W lo hlo xa q off cap hq hXs0 ha ea za
 ·have:l.length=2:=by simpa [partsO] using hp
  match l,this with
  | [xa,xb],_=>
   rcases hcell with hc | ⟨q,off,rfl,hq,hrw⟩
   ·cases hc
   have za:XAt W q off xa:=kidsX hrw 0 xa rfl
   have zb:XAt W q (off+6) xb:=kidsX hrw 1 xb rfl
   have hn':11≤n∧n≤26:=by simpa [numberO] using hu
   exact expr_bin name n hn'.1 hn'.2 W lo hlo xa xb q off cap hq hXs0 (hl xa (by simp)) (hE xa (by simp)) za (hl xb (by simp)) (hE xb (by simp)) zb
 ·have:l.length=3:=by simpa [partsO] using hp
  match l,this with
  | [xa,xb,xc],_=>
   rcases hcell with hc | ⟨q,off,rfl,hq,hrw⟩
   ·cases hc
   have za:XAt W q off xa:=kidsX hrw 0 xa rfl
   have zb:XAt W q (off+6) xb:=kidsX hrw 1 xb rfl
   have zc:XAt W q (off+12) xc:=kidsX hrw 2 xc rfl
   exact expr_cond name n W lo hlo xa xb xc q off cap hq hXs0 (hl xa (by simp)) (hE xa (by simp)) za (hl xb (by simp)) (hE xb (by simp)) zb (hl xc (by simp)) (hE xc (by simp)) zc
 ·exact expr_cat name n W lo hlo l hll p cap hXs0 hE
 ·have:l.length=2:=by simpa [partsO] using hp
  match l,this with
  | [xa,xb],_=>
   rcases hcell with hc | ⟨q,off,rfl,hq,hrw⟩
   ·cases hc
   have za:XAt W q off xa:=kidsX hrw 0 xa rfl
   have zb:XAt W q (off+6) xb:=kidsX hrw 1 xb rfl
   exact expr_rep name n W lo hlo xa xb q off cap hq hXs0 (hl xa (by simp)) (hE xa (by simp)) za (hl xb (by simp)) (hE xb (by simp)) zb
 ·have hn':31≤n∧n≤33:=by simpa [numberO] using hu
  have hn3:n=31∨n=32∨n=33:=by omega
  rcases hn3 with e | e | e <;> subst e
  ·exact expr_ext 31 0 [122,101,120,116] (by simp) name W lo hlo l hll p cap hXs0 hE
  ·exact expr_ext 32 1 [115,101,120,116] (by simp) name W lo hlo l hll p cap hXs0 hE
  ·exact expr_ext 33 2 [116,114,117,110,99] (by simp) name W lo hlo l hll p cap hXs0 hE
end Go.Proofs.YtlcfpdmicpggbaaGreatDoor
namespace Go.Proofs.YtlcfpdmicpggbaaGreatDoor
open Go.Lib (hid)
open Go.RowKit Go.Proofs.Spl Go.Proofs.Scn Go.Shelf Go.Grow
theorem one_box (W:World) (A:Obj):(W.alloc A).heap[W.heap.size]?=some A∧(W.alloc A).heap.size=W.heap.size+1∧Below W.heap.size W (W.alloc A):=
 ⟨World.alloc_heap_new W A,World.size_alloc W A,(Below.refl _ _).alloc (Nat.le_refl _) _⟩
theorem two_boxes (W:World) (A B:Obj):((W.alloc A).alloc B).heap[W.heap.size]?=some A∧((W.alloc A).alloc B).heap[W.heap.size+1]?=some B∧((W.alloc A).alloc B).heap.size=W.heap.size+2∧Below W.heap.size W ((W.alloc A).alloc B):=by
 refine ⟨(Below.heap_alloc _ _ _ (by simp)).trans (World.alloc_heap_new W A),?_,by simp,((Below.refl _ _).alloc (Nat.le_refl _) _).alloc (by simp) _⟩
 have:=World.alloc_heap_new (W.alloc A) B
 rwa [World.size_alloc] at this
theorem bind_any (b:Bd) (hE:ExprOK b.x):BindOK b:=by
 intro W lo cs hlo hR
 obtain ⟨xs,rfl,hXR⟩:=hR
 obtain ⟨_,ls,rfl,hL⟩:=XR_iff.1 hXR
 obtain ⟨pl,cl,rfl,_⟩:=hL
 have ht:bindT b=List.flatten [[nmT b.name],[sgT [61]],exprT b.x]:=by simp [bindT]
 go_enter Tryz.func167,Tryz.ntmps167
 go_wp2_with fail
 obtain ⟨hbx0,hls,hW1⟩:=one_box W (.cells #[.string (bs b.name),.int .i64 b.x.op,.string (bs b.x.name),.int .i64 b.x.n,.int .i64 b.x.w,.int .u64 b.x.v,.slice pl b.x.l.length cl] 159)
 generalize W.alloc (.cells #[.string (bs b.name),.int .i64 b.x.op,.string (bs b.x.name),.int .i64 b.x.n,.int .i64 b.x.w,.int .u64 b.x.v,.slice pl b.x.l.length cl] 159)=W1 at *
 have hlo1:lo≤W1.heap.size:=by omega
 have hbl0:W.heap.size<W1.heap.size:=by omega
 have y0_0:=box_at hbx0 0 (v:=.string (bs b.name)) rfl
 have y0_1:=box_at hbx0 1 (v:=.int .i64 b.x.op) rfl
 have y0_2:=box_at hbx0 2 (v:=.string (bs b.x.name)) rfl
 have y0_3:=box_at hbx0 3 (v:=.int .i64 b.x.n) rfl
 have y0_4:=box_at hbx0 4 (v:=.int .i64 b.x.w) rfl
 have y0_5:=box_at hbx0 5 (v:=.int .u64 b.x.v) rfl
 have y0_6:=box_at hbx0 6 (v:=.slice pl b.x.l.length cl) rfl
 clear hls hbx0
 have hX1:=XR.later hW1 _ _ hXR
 refine region_grow Grw (spcAt lo [.is (.pointer (some ⟨W.heap.size,0,none⟩)),.is (.string (bs b.name)),.seq ([nmT (b.name)]),.seq ([sgT [61]]),.is (.pointer (some ⟨W.heap.size,1,none⟩)),.is (.agg #[.int .i64 b.x.op,.string (bs b.x.name),.int .i64 b.x.n,.int .i64 b.x.w,.int .u64 b.x.v,.slice pl b.x.l.length cl]),.seq (exprT (b.x)),.seqs [[nmT (b.name)],[sgT [61]],exprT (b.x)],.seq (List.flatten [[nmT (b.name)],[sgT [61]],exprT (b.x)]),.seq (List.flatten [[nmT (b.name)],[sgT [61]],exprT (b.x)])])
  (by kernel_rfl) rfl (by kernel_rfl) (by kernel_rfl) (grw_drawn _) grw_trans (spcAt_grw lo _) ?hops ?hfin
 case hops=>
  refine ⟨?o0,?o1,?o2,?o3,?o4,?o5,?o6,?o7,?o8,?o9,trivial⟩
  all_goals (intro ev W' hG hr hD;have hc:=hr.const;have hf:=hr.func)
  case o0=>
   have e1:ev (.tmp 1)=.pointer (some ⟨W.heap.size,0,none⟩):=hr.tmp 1 (by kernel_rfl)
   exact ok_val (by simp [execOp,go_sem,e1]) ⟨Below.refl _ _,rfl⟩
  case o1=>
   have e3:ev (.tmp 3)=_:=hD 0 3 (by kernel_rfl)
   have m0:=(hG.cell (p:=⟨W.heap.size,0,none⟩) hbl0).trans y0_0
   exact ok_val (by simp [execOp,go_sem,e3,m0]) ⟨Below.refl _ _,rfl⟩
  case o2=>
   have e4:ev (.tmp 4)=_:=hD 1 4 (by kernel_rfl)
   exact ok_call (f:=93) (args:=#[.string (bs b.name)]) (by simp [execOp,go_sem,hc,hf,e4]) (mkp (sname_any (b.name) W' lo (Nat.le_trans hlo1 hG.size)))
  case o3=>
   exact ok_call (f:=90) (args:=#[.string { data:=#[61] }]) (by simp [execOp,go_sem,hc,hf]) (mkp (ssign_any [61] W' lo (Nat.le_trans hlo1 hG.size)))
  case o4=>
   have e1:ev (.tmp 1)=.pointer (some ⟨W.heap.size,0,none⟩):=hr.tmp 1 (by kernel_rfl)
   exact ok_val (by simp [execOp,go_sem,e1]) ⟨Below.refl _ _,rfl⟩
  case o5=>
   have e7:ev (.tmp 7)=_:=hD 4 7 (by kernel_rfl)
   have m0:=(hG.cell (p:=⟨W.heap.size,1,none⟩) hbl0).trans y0_1
   have m1:=(hG.cell (p:=⟨W.heap.size,2,none⟩) hbl0).trans y0_2
   have m2:=(hG.cell (p:=⟨W.heap.size,3,none⟩) hbl0).trans y0_3
   have m3:=(hG.cell (p:=⟨W.heap.size,4,none⟩) hbl0).trans y0_4
   have m4:=(hG.cell (p:=⟨W.heap.size,5,none⟩) hbl0).trans y0_5
   have m5:=(hG.cell (p:=⟨W.heap.size,6,none⟩) hbl0).trans y0_6
   exact ok_val (by simp [execOp,go_sem,e7,m0,m1,m2,m3,m4,m5]) ⟨Below.refl _ _,rfl⟩
  case o6=>
   have e8:ev (.tmp 8)=_:=hD 5 8 (by kernel_rfl)
   exact ok_call (f:=56) (args:=#[.agg #[.int .i64 b.x.op,.string (bs b.x.name),.int .i64 b.x.n,.int .i64 b.x.w,.int .u64 b.x.v,.slice pl b.x.l.length cl]]) (by simp [execOp,go_sem,hc,hf,e8]) (mkp (hE W' lo _ (Nat.le_trans hlo1 hG.size) (XR.later hG _ _ hX1)))
  case o7=>
   obtain ⟨g5,l5,e5,s5⟩:=seq_form (show Seq lo W' (ev (.tmp 5)) _ from hD 2 5 (by kernel_rfl))
   obtain ⟨g6,l6,e6,s6⟩:=seq_form (show Seq lo W' (ev (.tmp 6)) _ from hD 3 6 (by kernel_rfl))
   obtain ⟨g9,l9,e9,s9⟩:=seq_form (show Seq lo W' (ev (.tmp 9)) _ from hD 6 9 (by kernel_rfl))
   have hn:=seqs_new (lo:=lo) (W:=W') (fs:=[.func (.func g5) #[] l5,.func (.func g6) #[] l6,.func (.func g9) #[] l9]) (ls:=[[nmT (b.name)],[sgT [61]],exprT (b.x)]) ⟨s5,s6,s9,trivial⟩ (Nat.le_trans hlo1 hG.size)
   exact ok_new (v:=.slice (some ⟨W'.heap.size,0,none⟩) 3 3) (W':=W'.alloc (.cells #[.func (.func g5) #[] l5,.func (.func g6) #[] l6,.func (.func g9) #[] l9] 79)) (by simp [execOp,go_sem,e5,e6,e9]) ⟨hn.2,hn.1⟩
  case o8=>
   have s10:Seqs lo W' (ev (.tmp 10)) _:=hD 7 10 (by kernel_rfl)
   exact ok_call (f:=91) (args:=#[ev (.tmp 10)]) (by simp [execOp,go_sem,hc,hf]) (mkp (row_any _ _ (by simp) W' lo (Nat.le_trans hlo1 hG.size) s10))
  case o9=>
   have s11:Seq lo W' (ev (.tmp 11)) _:=hD 8 11 (by kernel_rfl)
   exact ok_val (by simp [execOp,go_sem]) ⟨Below.refl _ _,s11⟩
 case hfin=>
  intro zz W' hG hzz
  have h9:Seq lo W' (zz 9) (List.flatten [[nmT (b.name)],[sgT [61]],exprT (b.x)]):=hzz 9 (by simp)
  simp only [putAll,Act.put,List.setIfInBounds_toArray,List.set_cons_zero,List.set_cons_succ]
  go_wp2_with fail
  go_ret
  refine ⟨_,rfl,?_,hW1.trans (Below.mono hG (by omega))⟩
  rw [ht];exact h9
theorem port_true (b:Pt) (hE:ExprOK b.w) (ho:b.out=true):PortOK b:=by
 intro W lo cs hlo hR
 obtain ⟨xs,rfl,hXR⟩:=hR
 obtain ⟨_,ls,rfl,hL⟩:=XR_iff.1 hXR
 obtain ⟨pl,cl,rfl,_⟩:=hL
 have ht:portT b=List.flatten [[wdT [111,117,116]],[nmT b.name],[sgT [58]],exprT b.w]:=by simp [portT,ho]
 rw [ho]
 go_enter Tryz.func97,Tryz.ntmps97
 go_wp2_with fail
 obtain ⟨hbx0,hls,hW1⟩:=one_box W (.cells #[.string (bs b.name),.bool true,.int .i64 b.w.op,.string (bs b.w.name),.int .i64 b.w.n,.int .i64 b.w.w,.int .u64 b.w.v,.slice pl b.w.l.length cl] 114)
 generalize W.alloc (.cells #[.string (bs b.name),.bool true,.int .i64 b.w.op,.string (bs b.w.name),.int .i64 b.w.n,.int .i64 b.w.w,.int .u64 b.w.v,.slice pl b.w.l.length cl] 114)=W1 at *
 have hlo1:lo≤W1.heap.size:=by omega
 have hbl0:W.heap.size<W1.heap.size:=by omega
 have y0_0:=box_at hbx0 0 (v:=.string (bs b.name)) rfl
 have y0_2:=box_at hbx0 2 (v:=.int .i64 b.w.op) rfl
 have y0_3:=box_at hbx0 3 (v:=.string (bs b.w.name)) rfl
 have y0_4:=box_at hbx0 4 (v:=.int .i64 b.w.n) rfl
 have y0_5:=box_at hbx0 5 (v:=.int .i64 b.w.w) rfl
 have y0_6:=box_at hbx0 6 (v:=.int .u64 b.w.v) rfl
 have y0_7:=box_at hbx0 7 (v:=.slice pl b.w.l.length cl) rfl
 clear hls hbx0
 have hX1:=XR.later hW1 _ _ hXR
 refine region_grow Grw (spcAt lo [.is (.string { data:=#[111,117,116] }),.seq ([wdT [111,117,116]]),.is (.pointer (some ⟨W.heap.size,0,none⟩)),.is (.string (bs b.name)),.seq ([nmT (b.name)]),.seq ([sgT [58]]),.is (.pointer (some ⟨W.heap.size,2,none⟩)),.is (.agg #[.int .i64 b.w.op,.string (bs b.w.name),.int .i64 b.w.n,.int .i64 b.w.w,.int .u64 b.w.v,.slice pl b.w.l.length cl]),.seq (exprT (b.w)),.seqs [[wdT [111,117,116]],[nmT (b.name)],[sgT [58]],exprT (b.w)],.seq (List.flatten [[wdT [111,117,116]],[nmT (b.name)],[sgT [58]],exprT (b.w)]),.seq (List.flatten [[wdT [111,117,116]],[nmT (b.name)],[sgT [58]],exprT (b.w)])])
  (by kernel_rfl) rfl (by kernel_rfl) (by kernel_rfl) (grw_drawn _) grw_trans (spcAt_grw lo _) ?hops ?hfin
 case hops=>
  refine ⟨?o0,?o1,?o2,?o3,?o4,?o5,?o6,?o7,?o8,?o9,?o10,?o11,trivial⟩
  all_goals (intro ev W' hG hr hD;have hc:=hr.const;have hf:=hr.func)
  case o0=>
   have e3:ev (.tmp 3)=.string { data:=#[111,117,116] }:=hr.tmp 3 (by kernel_rfl)
   exact ok_val (by simp [execOp,go_sem,e3]) ⟨Below.refl _ _,rfl⟩
  case o1=>
   have e6:ev (.tmp 6)=_:=hD 0 6 (by kernel_rfl)
   exact ok_call (f:=92) (args:=#[.string { data:=#[111,117,116] }]) (by simp [execOp,go_sem,hc,hf,e6]) (mkp (sword_any [111,117,116] W' lo (Nat.le_trans hlo1 hG.size)))
  case o2=>
   have e1:ev (.tmp 1)=.pointer (some ⟨W.heap.size,0,none⟩):=hr.tmp 1 (by kernel_rfl)
   exact ok_val (by simp [execOp,go_sem,e1]) ⟨Below.refl _ _,rfl⟩
  case o3=>
   have e8:ev (.tmp 8)=_:=hD 2 8 (by kernel_rfl)
   have m0:=(hG.cell (p:=⟨W.heap.size,0,none⟩) hbl0).trans y0_0
   exact ok_val (by simp [execOp,go_sem,e8,m0]) ⟨Below.refl _ _,rfl⟩
  case o4=>
   have e9:ev (.tmp 9)=_:=hD 3 9 (by kernel_rfl)
   exact ok_call (f:=93) (args:=#[.string (bs b.name)]) (by simp [execOp,go_sem,hc,hf,e9]) (mkp (sname_any (b.name) W' lo (Nat.le_trans hlo1 hG.size)))
  case o5=>
   exact ok_call (f:=90) (args:=#[.string { data:=#[58] }]) (by simp [execOp,go_sem,hc,hf]) (mkp (ssign_any [58] W' lo (Nat.le_trans hlo1 hG.size)))
  case o6=>
   have e1:ev (.tmp 1)=.pointer (some ⟨W.heap.size,0,none⟩):=hr.tmp 1 (by kernel_rfl)
   exact ok_val (by simp [execOp,go_sem,e1]) ⟨Below.refl _ _,rfl⟩
  case o7=>
   have e12:ev (.tmp 12)=_:=hD 6 12 (by kernel_rfl)
   have m0:=(hG.cell (p:=⟨W.heap.size,2,none⟩) hbl0).trans y0_2
   have m1:=(hG.cell (p:=⟨W.heap.size,3,none⟩) hbl0).trans y0_3
   have m2:=(hG.cell (p:=⟨W.heap.size,4,none⟩) hbl0).trans y0_4
   have m3:=(hG.cell (p:=⟨W.heap.size,5,none⟩) hbl0).trans y0_5
   have m4:=(hG.cell (p:=⟨W.heap.size,6,none⟩) hbl0).trans y0_6
   have m5:=(hG.cell (p:=⟨W.heap.size,7,none⟩) hbl0).trans y0_7
   exact ok_val (by simp [execOp,go_sem,e12,m0,m1,m2,m3,m4,m5]) ⟨Below.refl _ _,rfl⟩
  case o8=>
   have e13:ev (.tmp 13)=_:=hD 7 13 (by kernel_rfl)
   exact ok_call (f:=56) (args:=#[.agg #[.int .i64 b.w.op,.string (bs b.w.name),.int .i64 b.w.n,.int .i64 b.w.w,.int .u64 b.w.v,.slice pl b.w.l.length cl]]) (by simp [execOp,go_sem,hc,hf,e13]) (mkp (hE W' lo _ (Nat.le_trans hlo1 hG.size) (XR.later hG _ _ hX1)))
  case o9=>
   obtain ⟨g7,l7,e7,s7⟩:=seq_form (show Seq lo W' (ev (.tmp 7)) _ from hD 1 7 (by kernel_rfl))
   obtain ⟨g10,l10,e10,s10⟩:=seq_form (show Seq lo W' (ev (.tmp 10)) _ from hD 4 10 (by kernel_rfl))
   obtain ⟨g11,l11,e11,s11⟩:=seq_form (show Seq lo W' (ev (.tmp 11)) _ from hD 5 11 (by kernel_rfl))
   obtain ⟨g14,l14,e14,s14⟩:=seq_form (show Seq lo W' (ev (.tmp 14)) _ from hD 8 14 (by kernel_rfl))
   have hn:=seqs_new (lo:=lo) (W:=W') (fs:=[.func (.func g7) #[] l7,.func (.func g10) #[] l10,.func (.func g11) #[] l11,.func (.func g14) #[] l14]) (ls:=[[wdT [111,117,116]],[nmT (b.name)],[sgT [58]],exprT (b.w)]) ⟨s7,s10,s11,s14,trivial⟩ (Nat.le_trans hlo1 hG.size)
   exact ok_new (v:=.slice (some ⟨W'.heap.size,0,none⟩) 4 4) (W':=W'.alloc (.cells #[.func (.func g7) #[] l7,.func (.func g10) #[] l10,.func (.func g11) #[] l11,.func (.func g14) #[] l14] 79)) (by simp [execOp,go_sem,e7,e10,e11,e14]) ⟨hn.2,hn.1⟩
  case o10=>
   have s15:Seqs lo W' (ev (.tmp 15)) _:=hD 9 15 (by kernel_rfl)
   exact ok_call (f:=91) (args:=#[ev (.tmp 15)]) (by simp [execOp,go_sem,hc,hf]) (mkp (row_any _ _ (by simp) W' lo (Nat.le_trans hlo1 hG.size) s15))
  case o11=>
   have s16:Seq lo W' (ev (.tmp 16)) _:=hD 10 16 (by kernel_rfl)
   exact ok_val (by simp [execOp,go_sem]) ⟨Below.refl _ _,s16⟩
 case hfin=>
  intro zz W' hG hzz
  have h9:Seq lo W' (zz 11) (List.flatten [[wdT [111,117,116]],[nmT (b.name)],[sgT [58]],exprT (b.w)]):=hzz 11 (by simp)
  simp only [putAll,Act.put,List.setIfInBounds_toArray,List.set_cons_zero,List.set_cons_succ]
  go_wp2_with fail
  go_ret
  refine ⟨_,rfl,?_,hW1.trans (Below.mono hG (by omega))⟩
  rw [ht];exact h9
theorem port_false (b:Pt) (hE:ExprOK b.w) (ho:b.out=false):PortOK b:=by
 intro W lo cs hlo hR
 obtain ⟨xs,rfl,hXR⟩:=hR
 obtain ⟨_,ls,rfl,hL⟩:=XR_iff.1 hXR
 obtain ⟨pl,cl,rfl,_⟩:=hL
 have ht:portT b=List.flatten [[wdT [105,110]],[nmT b.name],[sgT [58]],exprT b.w]:=by simp [portT,ho]
 rw [ho]
 go_enter Tryz.func97,Tryz.ntmps97
 go_wp2_with fail
 obtain ⟨hbx0,hls,hW1⟩:=one_box W (.cells #[.string (bs b.name),.bool false,.int .i64 b.w.op,.string (bs b.w.name),.int .i64 b.w.n,.int .i64 b.w.w,.int .u64 b.w.v,.slice pl b.w.l.length cl] 114)
 generalize W.alloc (.cells #[.string (bs b.name),.bool false,.int .i64 b.w.op,.string (bs b.w.name),.int .i64 b.w.n,.int .i64 b.w.w,.int .u64 b.w.v,.slice pl b.w.l.length cl] 114)=W1 at *
 have hlo1:lo≤W1.heap.size:=by omega
 have hbl0:W.heap.size<W1.heap.size:=by omega
 have y0_0:=box_at hbx0 0 (v:=.string (bs b.name)) rfl
 have y0_2:=box_at hbx0 2 (v:=.int .i64 b.w.op) rfl
 have y0_3:=box_at hbx0 3 (v:=.string (bs b.w.name)) rfl
 have y0_4:=box_at hbx0 4 (v:=.int .i64 b.w.n) rfl
 have y0_5:=box_at hbx0 5 (v:=.int .i64 b.w.w) rfl
 have y0_6:=box_at hbx0 6 (v:=.int .u64 b.w.v) rfl
 have y0_7:=box_at hbx0 7 (v:=.slice pl b.w.l.length cl) rfl
 clear hls hbx0
 have hX1:=XR.later hW1 _ _ hXR
 refine region_grow Grw (spcAt lo [.is (.string { data:=#[105,110] }),.seq ([wdT [105,110]]),.is (.pointer (some ⟨W.heap.size,0,none⟩)),.is (.string (bs b.name)),.seq ([nmT (b.name)]),.seq ([sgT [58]]),.is (.pointer (some ⟨W.heap.size,2,none⟩)),.is (.agg #[.int .i64 b.w.op,.string (bs b.w.name),.int .i64 b.w.n,.int .i64 b.w.w,.int .u64 b.w.v,.slice pl b.w.l.length cl]),.seq (exprT (b.w)),.seqs [[wdT [105,110]],[nmT (b.name)],[sgT [58]],exprT (b.w)],.seq (List.flatten [[wdT [105,110]],[nmT (b.name)],[sgT [58]],exprT (b.w)]),.seq (List.flatten [[wdT [105,110]],[nmT (b.name)],[sgT [58]],exprT (b.w)])])
  (by kernel_rfl) rfl (by kernel_rfl) (by kernel_rfl) (grw_drawn _) grw_trans (spcAt_grw lo _) ?hops ?hfin
 case hops=>
  refine ⟨?o0,?o1,?o2,?o3,?o4,?o5,?o6,?o7,?o8,?o9,?o10,?o11,trivial⟩
  all_goals (intro ev W' hG hr hD;have hc:=hr.const;have hf:=hr.func)
  case o0=>
   have e3:ev (.tmp 3)=.string { data:=#[105,110] }:=hr.tmp 3 (by kernel_rfl)
   exact ok_val (by simp [execOp,go_sem,e3]) ⟨Below.refl _ _,rfl⟩
  case o1=>
   have e6:ev (.tmp 6)=_:=hD 0 6 (by kernel_rfl)
   exact ok_call (f:=92) (args:=#[.string { data:=#[105,110] }]) (by simp [execOp,go_sem,hc,hf,e6]) (mkp (sword_any [105,110] W' lo (Nat.le_trans hlo1 hG.size)))
  case o2=>
   have e1:ev (.tmp 1)=.pointer (some ⟨W.heap.size,0,none⟩):=hr.tmp 1 (by kernel_rfl)
   exact ok_val (by simp [execOp,go_sem,e1]) ⟨Below.refl _ _,rfl⟩
  case o3=>
   have e8:ev (.tmp 8)=_:=hD 2 8 (by kernel_rfl)
   have m0:=(hG.cell (p:=⟨W.heap.size,0,none⟩) hbl0).trans y0_0
   exact ok_val (by simp [execOp,go_sem,e8,m0]) ⟨Below.refl _ _,rfl⟩
  case o4=>
   have e9:ev (.tmp 9)=_:=hD 3 9 (by kernel_rfl)
   exact ok_call (f:=93) (args:=#[.string (bs b.name)]) (by simp [execOp,go_sem,hc,hf,e9]) (mkp (sname_any (b.name) W' lo (Nat.le_trans hlo1 hG.size)))
  case o5=>
   exact ok_call (f:=90) (args:=#[.string { data:=#[58] }]) (by simp [execOp,go_sem,hc,hf]) (mkp (ssign_any [58] W' lo (Nat.le_trans hlo1 hG.size)))
  case o6=>
   have e1:ev (.tmp 1)=.pointer (some ⟨W.heap.size,0,none⟩):=hr.tmp 1 (by kernel_rfl)
   exact ok_val (by simp [execOp,go_sem,e1]) ⟨Below.refl _ _,rfl⟩
  case o7=>
   have e12:ev (.tmp 12)=_:=hD 6 12 (by kernel_rfl)
   have m0:=(hG.cell (p:=⟨W.heap.size,2,none⟩) hbl0).trans y0_2
   have m1:=(hG.cell (p:=⟨W.heap.size,3,none⟩) hbl0).trans y0_3
   have m2:=(hG.cell (p:=⟨W.heap.size,4,none⟩) hbl0).trans y0_4
   have m3:=(hG.cell (p:=⟨W.heap.size,5,none⟩) hbl0).trans y0_5
   have m4:=(hG.cell (p:=⟨W.heap.size,6,none⟩) hbl0).trans y0_6
   have m5:=(hG.cell (p:=⟨W.heap.size,7,none⟩) hbl0).trans y0_7
   exact ok_val (by simp [execOp,go_sem,e12,m0,m1,m2,m3,m4,m5]) ⟨Below.refl _ _,rfl⟩
  case o8=>
   have e13:ev (.tmp 13)=_:=hD 7 13 (by kernel_rfl)
   exact ok_call (f:=56) (args:=#[.agg #[.int .i64 b.w.op,.string (bs b.w.name),.int .i64 b.w.n,.int .i64 b.w.w,.int .u64 b.w.v,.slice pl b.w.l.length cl]]) (by simp [execOp,go_sem,hc,hf,e13]) (mkp (hE W' lo _ (Nat.le_trans hlo1 hG.size) (XR.later hG _ _ hX1)))
  case o9=>
   obtain ⟨g7,l7,e7,s7⟩:=seq_form (show Seq lo W' (ev (.tmp 7)) _ from hD 1 7 (by kernel_rfl))
   obtain ⟨g10,l10,e10,s10⟩:=seq_form (show Seq lo W' (ev (.tmp 10)) _ from hD 4 10 (by kernel_rfl))
   obtain ⟨g11,l11,e11,s11⟩:=seq_form (show Seq lo W' (ev (.tmp 11)) _ from hD 5 11 (by kernel_rfl))
   obtain ⟨g14,l14,e14,s14⟩:=seq_form (show Seq lo W' (ev (.tmp 14)) _ from hD 8 14 (by kernel_rfl))
   have hn:=seqs_new (lo:=lo) (W:=W') (fs:=[.func (.func g7) #[] l7,.func (.func g10) #[] l10,.func (.func g11) #[] l11,.func (.func g14) #[] l14]) (ls:=[[wdT [105,110]],[nmT (b.name)],[sgT [58]],exprT (b.w)]) ⟨s7,s10,s11,s14,trivial⟩ (Nat.le_trans hlo1 hG.size)
   exact ok_new (v:=.slice (some ⟨W'.heap.size,0,none⟩) 4 4) (W':=W'.alloc (.cells #[.func (.func g7) #[] l7,.func (.func g10) #[] l10,.func (.func g11) #[] l11,.func (.func g14) #[] l14] 79)) (by simp [execOp,go_sem,e7,e10,e11,e14]) ⟨hn.2,hn.1⟩
  case o10=>
   have s15:Seqs lo W' (ev (.tmp 15)) _:=hD 9 15 (by kernel_rfl)
   exact ok_call (f:=91) (args:=#[ev (.tmp 15)]) (by simp [execOp,go_sem,hc,hf]) (mkp (row_any _ _ (by simp) W' lo (Nat.le_trans hlo1 hG.size) s15))
  case o11=>
   have s16:Seq lo W' (ev (.tmp 16)) _:=hD 10 16 (by kernel_rfl)
   exact ok_val (by simp [execOp,go_sem]) ⟨Below.refl _ _,s16⟩
 case hfin=>
  intro zz W' hG hzz
  have h9:Seq lo W' (zz 11) (List.flatten [[wdT [105,110]],[nmT (b.name)],[sgT [58]],exprT (b.w)]):=hzz 11 (by simp)
  simp only [putAll,Act.put,List.setIfInBounds_toArray,List.set_cons_zero,List.set_cons_succ]
  go_wp2_with fail
  go_ret
  refine ⟨_,rfl,?_,hW1.trans (Below.mono hG (by omega))⟩
  rw [ht];exact h9
theorem port_any (b:Pt) (hE:ExprOK b.w):PortOK b:=by
 cases h:b.out with
 | true=>exact port_true b hE h
 | false=>exact port_false b hE h
theorem span_any (n:Ln) (v:Value) (l:List X) (hl:l.length≤1000000) (W:World) (lo:Nat) (hlo:lo≤W.heap.size) (hR:XsR W v l) (hE:∀ y ∈ l,ExprOK y):Calls Tryz.prog 121 #[.string (bs n),v] W (MkPost lo W (spanT n l)):=by
 have HX:=hid hR
 have HE:=hid hE
 obtain ⟨p,cap,rfl,_⟩:=hR
 clear hE
 have HI:=hid (fun (W9:World) (f:Value) (h1:lo≤W9.heap.size) (h2:Seq lo W9 f (List.flatten [[nmT n],[sgT [61]],sepS [46,46] (l.map exprT)]))=>in_any 40 41 f _ W9 lo h1 h2)
 have HRW:=hid (fun (W9:World) (v:Value) (h1:lo≤W9.heap.size) (h2:Seqs lo W9 v [[nmT n],[sgT [61]],sepS [46,46] (l.map exprT)])=>row_any v _ (by simp) W9 lo h1 h2)
 go_enter Tryz.func121,Tryz.ntmps121
 go_wp2_with (first
  | (go_at_call 93;refine (sname_any n _ lo hlo).mono ?_;rintro e W2 ⟨f,rfl,h1,h2⟩;obtain ⟨g2,l2,rfl,h3⟩:=seq_form h1;clear h1;have B2:=hid h2;have S2:=hid h3;clear h2 h3)
  | (go_at_call 90;refine (ssign_any [61] _ lo (Nat.le_trans hlo B2.out.size)).mono ?_;rintro e W3 ⟨f,rfl,h1,h2⟩;obtain ⟨g3,l3,rfl,h3⟩:=seq_form h1;clear h1;have B3:=hid (B2.out.trans (h2.mono B2.out.size));have C3:=hid h2;have S3:=hid h3;clear h2 h3)
  | (go_at_call 105;refine (eachX_any [46,46] (by decide) _ l hl _ lo (Nat.le_trans hlo B3.out.size) (XsR.later HX.out B3.out) HE.out).mono ?_;rintro e W4 ⟨f,rfl,h1,h2⟩;obtain ⟨g4,l4,rfl,h3⟩:=seq_form h1;clear h1;have B4:=hid (B3.out.trans (h2.mono B3.out.size));have hn:=seqs_new (lo:=lo) (W:=W4) (fs:=[.func (.func g2) #[] l2,.func (.func g3) #[] l3,.func (.func g4) #[] l4]) (ls:=[[nmT n],[sgT [61]],sepS [46,46] (l.map exprT)]) ⟨S2.out.later (Nat.le_refl _) (KeptL.of_below (C3.out.trans (h2.mono C3.out.size))),S3.out.later (Nat.le_refl _) (KeptL.of_below h2),h3,trivial⟩ (Nat.le_trans hlo B4.out.size);have HN:=hid hn;clear h2 h3 hn)
  | (go_at_call 91;refine (HRW.out _ _ (Nat.le_trans hlo (Nat.le_trans B4.out.size HN.out.2.size)) HN.out.1).mono ?_;rintro e W5 ⟨f,rfl,h1,h2⟩;have B5:=hid ((B4.out.trans (HN.out.2.mono B4.out.size)).trans (h2.mono (Nat.le_trans B4.out.size HN.out.2.size)));have S5:=hid h1;clear h1 h2)
  | (go_at_call 95;refine (HI.out _ _ (Nat.le_trans hlo B5.out.size) S5.out).mono ?_;rintro e W6 ⟨f,rfl,h1,h2⟩;have B6:=hid (B5.out.trans (h2.mono B5.out.size));have S6:=hid h1;clear h1 h2))
 go_ret
 refine ⟨_,rfl,?_,B6.out⟩
 have ht:spanT n l=inT 40 41 (List.flatten [[nmT n],[sgT [61]],sepS [46,46] (l.map exprT)]):=by simp [spanT,parT]
 rw [ht]
 exact S6.out
end Go.Proofs.YtlcfpdmicpggbaaGreatDoor
