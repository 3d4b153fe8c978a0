/- Texts of the seat, merged. -/
import Derived.Test.YtlcfpdmicpggbaaGreatDoorD13
set_option linter.unusedVariables false
set_option linter.unusedSimpArgs false
set_option maxRecDepth 100000
set_option maxHeartbeats 16000000
namespace Go.Proofs.YtlcfpdmicpggbaaGreatDoor
open Go.Lib (hid)
open Go.RowKit Go.Proofs.Spl Go.Proofs.Scn Go.Shelf Go.Grow
theorem params_none (W:World) (lo:Nat) (hlo:lo≤W.heap.size) (p:Option Addr) (c:Nat):Calls Tryz.prog 94 #[.slice p 0 c] W (MkPost lo W []):=by
 have HROW:=hid (row_any _ [] (by simp) W lo hlo ⟨none,0,rfl,.inl rfl⟩)
 go_enter Tryz.func94,Tryz.ntmps94
 go_wp2_with (go_at_call 91;refine HROW.out.mono ?_;rintro e W6 ⟨f,rfl,h1,h2⟩;have S6:=hid h1;have B6:=hid h2;clear h1 h2)
 go_ret
 exact ⟨_,rfl,S6.out,B6.out⟩
theorem params_some (l:List Bd) (hl:l.length≤1000000) (h0:l ≠ []) (p:Option Addr) (c:Nat) (W:World) (lo:Nat) (hlo:lo≤W.heap.size) (hR:BsR W (.slice p l.length c) l) (hE:∀ y ∈ l,BindOK y) :
  Calls Tryz.prog 94 #[.slice p l.length c] W (MkPost lo W (List.flatten [[sgT [35]],inT 40 41 (sepS [44] (l.map bindT))])):=by
 have HX:=hid hR
 have HE:=hid hE
 have hlp:=List.length_pos_iff.2 h0
 have hd:decide ((l.length:Int)=0)=false:=by simp;exact h0
 have hd2:((l.length:Int) == 0)=false:=by simp;exact h0
 clear hR hE h0
 have HI:=hid (fun (W9:World) (f:Value) (h1:lo≤W9.heap.size) (h2:Seq lo W9 f (sepS [44] (l.map bindT)))=>in_any 40 41 f _ W9 lo h1 h2)
 have HRW:=hid (fun (W9:World) (v:Value) (h1:lo≤W9.heap.size) (h2:Seqs lo W9 v [[sgT [35]],inT 40 41 (sepS [44] (l.map bindT))])=>row_any v _ (by simp) W9 lo h1 h2)
 go_enter Tryz.func94,Tryz.ntmps94
 go_wp2_with (first
  | (go_at_call 90;refine (ssign_any [35] _ lo hlo).mono ?_;rintro e W3 ⟨f,rfl,h1,h2⟩;obtain ⟨g3,l3,rfl,h3⟩:=seq_form h1;clear h1;have B3:=hid h2;have S3:=hid h3;clear h2 h3)
  | (go_at_call 166;refine (eachB_any [44] (by decide) _ l hl _ lo (Nat.le_trans hlo B3.out.size) (BsR.later HX.out B3.out) HE.out).mono ?_;rintro e W4 ⟨f,rfl,h1,h2⟩;have B4:=hid (B3.out.trans (h2.mono B3.out.size));have S4:=hid h1;have S3':=hid (S3.out.later (Nat.le_refl _) (KeptL.of_below h2));clear h1 h2)
  | (go_at_call 95;refine (HI.out _ _ (Nat.le_trans hlo B4.out.size) S4.out).mono ?_;rintro e W5 ⟨f,rfl,h1,h2⟩;obtain ⟨g5,l5,rfl,h3⟩:=seq_form h1;clear h1;have B5:=hid (B4.out.trans (h2.mono B4.out.size));have hn:=seqs_new (lo:=lo) (W:=W5) (fs:=[.func (.func g3) #[] l3,.func (.func g5) #[] l5]) (ls:=[[sgT [35]],inT 40 41 (sepS [44] (l.map bindT))]) ⟨S3'.out.later (Nat.le_refl _) (KeptL.of_below h2),h3,trivial⟩ (Nat.le_trans hlo B5.out.size);have HN:=hid hn;have B7:=hid (B5.out.trans (hn.2.mono B5.out.size));clear h2 h3 hn)
  | (go_at_call 91;refine (HRW.out _ _ (Nat.le_trans hlo B7.out.size) HN.out.1).mono ?_;rintro e W6 ⟨f,rfl,h1,h2⟩;have S6:=hid h1;have B6:=hid (B7.out.trans (h2.mono B7.out.size));clear h1 h2))
 go_ret
 exact ⟨_,rfl,S6.out,B6.out⟩
theorem params_any (v:Value) (l:List Bd) (hl:l.length≤1000000) (W:World) (lo:Nat) (hlo:lo≤W.heap.size) (hR:BsR W v l) (hE:∀ y ∈ l,BindOK y):Calls Tryz.prog 94 #[v] W (MkPost lo W (paramsT l)):=by
 have hR0:=hR
 obtain ⟨p,c,rfl,_⟩:=hR
 by_cases h:l=[]
 ·subst h
  exact params_none W lo hlo p c
 ·have:=params_some l hl h p c W lo hlo hR0 hE
  refine (show paramsT l=List.flatten [[sgT [35]],inT 40 41 (sepS [44] (l.map bindT))] from ?_) ▸ this
  simp [paramsT,h,bindsT,parT,inT]
theorem items_any (v:Value) (l:List It) (hl:l.length≤1000000) (W:World) (lo:Nat) (hlo:lo≤W.heap.size) (hR:IsR W v l) (hE:∀ y ∈ l,ItemOK y):Calls Tryz.prog 98 #[v] W (MkPost lo W (cubT (l.map itemT).flatten)):=by
 have HX:=hid hR
 have HE:=hid hE
 obtain ⟨p,cap,rfl,_⟩:=hR
 clear hE
 have HI:=hid (fun (W9:World) (f:Value) (h1:lo≤W9.heap.size) (h2:Seq lo W9 f (l.map itemT).flatten)=>in_any 123 125 f _ W9 lo h1 h2)
 go_enter Tryz.func98,Tryz.ntmps98
 go_wp2_with (first
  | (go_at_call 168;refine (eachI_any _ l hl _ lo hlo HX.out HE.out).mono ?_;rintro e W4 ⟨f,rfl,h1,h2⟩;have B4:=hid h2;have S4:=hid h1;clear h1 h2)
  | (go_at_call 95;refine (HI.out _ _ (Nat.le_trans hlo B4.out.size) S4.out).mono ?_;rintro e W6 ⟨f,rfl,h1,h2⟩;have B6:=hid (B4.out.trans (h2.mono B4.out.size));have S6:=hid h1;clear h1 h2))
 go_ret
 refine ⟨_,rfl,?_,B6.out⟩
 have ht:cubT (l.map itemT).flatten=inT 123 125 (l.map itemT).flatten:=by simp [cubT,inT]
 rw [ht]
 exact S6.out
theorem item_assign (name fo:Ln) (x:List X) (s:List S) (l e:List It) (ps bb:List Bd) (px pq pl pe pp pb:Option Addr) (cx cq cl ce cp cb:Nat) (W:World) (lo:Nat) (hlo:lo≤W.heap.size) (hxl:x.length≤1000000) (hXs0:XsR W (.slice px x.length cx) x) (hE:∀ y ∈ x,ExprOK y) :
  Calls Tryz.prog 169 #[.agg #[.int .i64 4,.string (bs name),.string (bs fo),.slice px x.length cx,.slice pq s.length cq,.slice pl l.length cl,.slice pe e.length ce,.slice pp ps.length cp,.slice pb bb.length cb]] W (MkPost lo W (List.flatten [[wdT [97,115,115,105,103,110]],sepS [61] (x.map exprT),[sgT [59]]])):=by
 go_enter Tryz.func169,Tryz.ntmps169
 go_wp2_with fail
 obtain ⟨hbx0,hls,hW1⟩:=one_box W (.cells #[.int .i64 4,.string (bs name),.string (bs fo),.slice px x.length cx,.slice pq s.length cq,.slice pl l.length cl,.slice pe e.length ce,.slice pp ps.length cp,.slice pb bb.length cb] 133)
 generalize W.alloc (.cells #[.int .i64 4,.string (bs name),.string (bs fo),.slice px x.length cx,.slice pq s.length cq,.slice pl l.length cl,.slice pe e.length ce,.slice pp ps.length cp,.slice pb bb.length cb] 133)=W1 at *
 have hlo1:lo≤W1.heap.size:=by omega
 have hbl0:W.heap.size<W1.heap.size:=by omega
 have y0_3:=box_at hbx0 3 (v:=.slice px x.length cx) rfl
 clear hls hbx0
 have hXs:=XsR.later hXs0 hW1
 refine region_grow Grw (spcAt lo [.seq ([wdT [97,115,115,105,103,110]]),.is (.pointer (some ⟨W.heap.size,3,none⟩)),.is (.slice px x.length cx),.seq (sepS [61] ((x).map exprT)),.seq ([sgT [59]]),.seqs [[wdT [97,115,115,105,103,110]],sepS [61] ((x).map exprT),[sgT [59]]],.seq (List.flatten [[wdT [97,115,115,105,103,110]],sepS [61] ((x).map exprT),[sgT [59]]]),.seq (List.flatten [[wdT [97,115,115,105,103,110]],sepS [61] ((x).map exprT),[sgT [59]]])])
  (by kernel_rfl) rfl (by kernel_rfl) (by kernel_rfl) (grw_drawn _) grw_trans (spcAt_grw lo _) ?hops ?hfin
 case hops=>
  refine ⟨?o0,?o1,?o2,?o3,?o4,?o5,?o6,?o7,trivial⟩
  all_goals (intro ev W' hG hr hD;have hc:=hr.const;have hf:=hr.func)
  case o0=>
   exact ok_call (f:=92) (args:=#[.string { data:=#[97,115,115,105,103,110] }]) (by simp [execOp,go_sem,hc,hf]) (mkp (sword_any [97,115,115,105,103,110] W' lo (Nat.le_trans hlo1 hG.size)))
  case o1=>
   have e1:ev (.tmp 1)=.pointer (some ⟨W.heap.size,0,none⟩):=hr.tmp 1 (by kernel_rfl)
   exact ok_val (by simp [execOp,go_sem,e1]) ⟨Below.refl _ _,rfl⟩
  case o2=>
   have e29:ev (.tmp 29)=_:=hD 1 29 (by kernel_rfl)
   have m0:=(hG.cell (p:=⟨W.heap.size,3,none⟩) hbl0).trans y0_3
   exact ok_val (by simp [execOp,go_sem,e29,m0]) ⟨Below.refl _ _,rfl⟩
  case o3=>
   have e30:ev (.tmp 30)=_:=hD 2 30 (by kernel_rfl)
   exact ok_call (f:=105) (args:=#[.slice px x.length cx,.string { data:=#[61] },.func (.func 56) #[] #[]]) (by simp [execOp,go_sem,hc,hf,e30]) (mkp (eachX_any [61] (by decide) _ (x) hxl W' lo (Nat.le_trans hlo1 hG.size) (XsR.later hXs hG) hE))
  case o4=>
   exact ok_call (f:=90) (args:=#[.string { data:=#[59] }]) (by simp [execOp,go_sem,hc,hf]) (mkp (ssign_any [59] W' lo (Nat.le_trans hlo1 hG.size)))
  case o5=>
   obtain ⟨g28,l28,e28,s28⟩:=seq_form (show Seq lo W' (ev (.tmp 28)) _ from hD 0 28 (by kernel_rfl))
   obtain ⟨g31,l31,e31,s31⟩:=seq_form (show Seq lo W' (ev (.tmp 31)) _ from hD 3 31 (by kernel_rfl))
   obtain ⟨g32,l32,e32,s32⟩:=seq_form (show Seq lo W' (ev (.tmp 32)) _ from hD 4 32 (by kernel_rfl))
   have hn:=seqs_new (lo:=lo) (W:=W') (fs:=[.func (.func g28) #[] l28,.func (.func g31) #[] l31,.func (.func g32) #[] l32]) (ls:=[[wdT [97,115,115,105,103,110]],sepS [61] ((x).map exprT),[sgT [59]]]) ⟨s28,s31,s32,trivial⟩ (Nat.le_trans hlo1 hG.size)
   exact ok_new (v:=.slice (some ⟨W'.heap.size,0,none⟩) 3 3) (W':=W'.alloc (.cells #[.func (.func g28) #[] l28,.func (.func g31) #[] l31,.func (.func g32) #[] l32] 79)) (by simp [execOp,go_sem,e28,e31,e32]) ⟨hn.2,hn.1⟩
  case o6=>
   have s33:Seqs lo W' (ev (.tmp 33)) _:=hD 5 33 (by kernel_rfl)
   exact ok_call (f:=91) (args:=#[ev (.tmp 33)]) (by simp [execOp,go_sem,hc,hf]) (mkp (row_any _ _ (by simp) W' lo (Nat.le_trans hlo1 hG.size) s33))
  case o7=>
   have s34:Seq lo W' (ev (.tmp 34)) _:=hD 6 34 (by kernel_rfl)
   exact ok_val (by simp [execOp,go_sem]) ⟨Below.refl _ _,s34⟩
 case hfin=>
  intro zz W' hG hzz
  have h9:Seq lo W' (zz 7) (List.flatten [[wdT [97,115,115,105,103,110]],sepS [61] ((x).map exprT),[sgT [59]]]):=hzz 7 (by simp)
  simp only [putAll,Act.put,List.setIfInBounds_toArray,List.set_cons_zero,List.set_cons_succ]
  go_wp2_with fail
  go_ret
  refine ⟨_,rfl,?_,hW1.trans (Below.mono hG (by omega))⟩
  exact h9
theorem item_comb (name fo:Ln) (x:List X) (s:List S) (l e:List It) (ps bb:List Bd) (px pq pl pe pp pb:Option Addr) (cx cq cl ce cp cb:Nat) (W:World) (lo:Nat) (hlo:lo≤W.heap.size) (hsl:s.length≤1000000) (hSs0:SsR W (.slice pq s.length cq) s) (hS:∀ y ∈ s,StmtOK [61] y) :
  Calls Tryz.prog 169 #[.agg #[.int .i64 5,.string (bs name),.string (bs fo),.slice px x.length cx,.slice pq s.length cq,.slice pl l.length cl,.slice pe e.length ce,.slice pp ps.length cp,.slice pb bb.length cb]] W (MkPost lo W (List.flatten [[wdT [99,111,109,98]],blockT [61] s])):=by
 go_enter Tryz.func169,Tryz.ntmps169
 go_wp2_with fail
 obtain ⟨hbx0,hls,hW1⟩:=one_box W (.cells #[.int .i64 5,.string (bs name),.string (bs fo),.slice px x.length cx,.slice pq s.length cq,.slice pl l.length cl,.slice pe e.length ce,.slice pp ps.length cp,.slice pb bb.length cb] 133)
 generalize W.alloc (.cells #[.int .i64 5,.string (bs name),.string (bs fo),.slice px x.length cx,.slice pq s.length cq,.slice pl l.length cl,.slice pe e.length ce,.slice pp ps.length cp,.slice pb bb.length cb] 133)=W1 at *
 have hlo1:lo≤W1.heap.size:=by omega
 have hbl0:W.heap.size<W1.heap.size:=by omega
 have y0_4:=box_at hbx0 4 (v:=.slice pq s.length cq) rfl
 clear hls hbx0
 have hSs:=SsR.later hSs0 hW1
 refine region_grow Grw (spcAt lo [.seq ([wdT [99,111,109,98]]),.is (.agg #[.string (bs [61])]),.is (.pointer (some ⟨W.heap.size,4,none⟩)),.is (.slice pq s.length cq),.seq (blockT ([61]) (s)),.seqs [[wdT [99,111,109,98]],blockT ([61]) (s)],.seq (List.flatten [[wdT [99,111,109,98]],blockT ([61]) (s)]),.seq (List.flatten [[wdT [99,111,109,98]],blockT ([61]) (s)])])
  (by kernel_rfl) rfl (by kernel_rfl) (by kernel_rfl) (grw_drawn _) grw_trans (spcAt_grw lo _) ?hops ?hfin
 case hops=>
  refine ⟨?o0,?o1,?o2,?o3,?o4,?o5,?o6,?o7,trivial⟩
  all_goals (intro ev W' hG hr hD;have hc:=hr.const;have hf:=hr.func)
  case o0=>
   exact ok_call (f:=92) (args:=#[.string { data:=#[99,111,109,98] }]) (by simp [execOp,go_sem,hc,hf]) (mkp (sword_any [99,111,109,98] W' lo (Nat.le_trans hlo1 hG.size)))
  case o1=>
   exact ok_val (by simp [execOp,go_sem,hc];try rfl) ⟨Below.refl _ _,rfl⟩
  case o2=>
   have e1:ev (.tmp 1)=.pointer (some ⟨W.heap.size,0,none⟩):=hr.tmp 1 (by kernel_rfl)
   exact ok_val (by simp [execOp,go_sem,e1]) ⟨Below.refl _ _,rfl⟩
  case o3=>
   have e39:ev (.tmp 39)=_:=hD 2 39 (by kernel_rfl)
   have m0:=(hG.cell (p:=⟨W.heap.size,4,none⟩) hbl0).trans y0_4
   exact ok_val (by simp [execOp,go_sem,e39,m0]) ⟨Below.refl _ _,rfl⟩
  case o4=>
   have e38:ev (.tmp 38)=_:=hD 1 38 (by kernel_rfl)
   have e40:ev (.tmp 40)=_:=hD 3 40 (by kernel_rfl)
   exact ok_call (f:=122) (args:=#[.agg #[.string (bs [61])],.slice pq s.length cq]) (by simp [execOp,go_sem,hc,hf,e38,e40]) (mkp (block_any ([61]) _ (s) hsl W' lo (Nat.le_trans hlo1 hG.size) (SsR.later hSs hG) hS))
  case o5=>
   obtain ⟨g37,l37,e37,s37⟩:=seq_form (show Seq lo W' (ev (.tmp 37)) _ from hD 0 37 (by kernel_rfl))
   obtain ⟨g41,l41,e41,s41⟩:=seq_form (show Seq lo W' (ev (.tmp 41)) _ from hD 4 41 (by kernel_rfl))
   have hn:=seqs_new (lo:=lo) (W:=W') (fs:=[.func (.func g37) #[] l37,.func (.func g41) #[] l41]) (ls:=[[wdT [99,111,109,98]],blockT ([61]) (s)]) ⟨s37,s41,trivial⟩ (Nat.le_trans hlo1 hG.size)
   exact ok_new (v:=.slice (some ⟨W'.heap.size,0,none⟩) 2 2) (W':=W'.alloc (.cells #[.func (.func g37) #[] l37,.func (.func g41) #[] l41] 79)) (by simp [execOp,go_sem,e37,e41]) ⟨hn.2,hn.1⟩
  case o6=>
   have s42:Seqs lo W' (ev (.tmp 42)) _:=hD 5 42 (by kernel_rfl)
   exact ok_call (f:=91) (args:=#[ev (.tmp 42)]) (by simp [execOp,go_sem,hc,hf]) (mkp (row_any _ _ (by simp) W' lo (Nat.le_trans hlo1 hG.size) s42))
  case o7=>
   have s43:Seq lo W' (ev (.tmp 43)) _:=hD 6 43 (by kernel_rfl)
   exact ok_val (by simp [execOp,go_sem]) ⟨Below.refl _ _,s43⟩
 case hfin=>
  intro zz W' hG hzz
  have h9:Seq lo W' (zz 7) (List.flatten [[wdT [99,111,109,98]],blockT ([61]) (s)]):=hzz 7 (by simp)
  simp only [putAll,Act.put,List.setIfInBounds_toArray,List.set_cons_zero,List.set_cons_succ]
  go_wp2_with fail
  go_ret
  refine ⟨_,rfl,?_,hW1.trans (Below.mono hG (by omega))⟩
  exact h9
theorem item_tick (name fo:Ln) (x:List X) (s:List S) (l e:List It) (ps bb:List Bd) (px pq pl pe pp pb:Option Addr) (cx cq cl ce cp cb:Nat) (W:World) (lo:Nat) (hlo:lo≤W.heap.size) (hsl:s.length≤1000000) (hSs0:SsR W (.slice pq s.length cq) s) (hS:∀ y ∈ s,StmtOK [60,61] y) :
  Calls Tryz.prog 169 #[.agg #[.int .i64 6,.string (bs name),.string (bs fo),.slice px x.length cx,.slice pq s.length cq,.slice pl l.length cl,.slice pe e.length ce,.slice pp ps.length cp,.slice pb bb.length cb]] W (MkPost lo W (List.flatten [[wdT [111,110]],[wdT [116,105,99,107]],blockT [60,61] s])):=by
 go_enter Tryz.func169,Tryz.ntmps169
 go_wp2_with fail
 obtain ⟨hbx0,hls,hW1⟩:=one_box W (.cells #[.int .i64 6,.string (bs name),.string (bs fo),.slice px x.length cx,.slice pq s.length cq,.slice pl l.length cl,.slice pe e.length ce,.slice pp ps.length cp,.slice pb bb.length cb] 133)
 generalize W.alloc (.cells #[.int .i64 6,.string (bs name),.string (bs fo),.slice px x.length cx,.slice pq s.length cq,.slice pl l.length cl,.slice pe e.length ce,.slice pp ps.length cp,.slice pb bb.length cb] 133)=W1 at *
 have hlo1:lo≤W1.heap.size:=by omega
 have hbl0:W.heap.size<W1.heap.size:=by omega
 have y0_4:=box_at hbx0 4 (v:=.slice pq s.length cq) rfl
 clear hls hbx0
 have hSs:=SsR.later hSs0 hW1
 refine region_grow Grw (spcAt lo [.seq ([wdT [111,110]]),.seq ([wdT [116,105,99,107]]),.is (.agg #[.string (bs [60,61])]),.is (.pointer (some ⟨W.heap.size,4,none⟩)),.is (.slice pq s.length cq),.seq (blockT ([60,61]) (s)),.seqs [[wdT [111,110]],[wdT [116,105,99,107]],blockT ([60,61]) (s)],.seq (List.flatten [[wdT [111,110]],[wdT [116,105,99,107]],blockT ([60,61]) (s)]),.seq (List.flatten [[wdT [111,110]],[wdT [116,105,99,107]],blockT ([60,61]) (s)])])
  (by kernel_rfl) rfl (by kernel_rfl) (by kernel_rfl) (grw_drawn _) grw_trans (spcAt_grw lo _) ?hops ?hfin
 case hops=>
  refine ⟨?o0,?o1,?o2,?o3,?o4,?o5,?o6,?o7,?o8,trivial⟩
  all_goals (intro ev W' hG hr hD;have hc:=hr.const;have hf:=hr.func)
  case o0=>
   exact ok_call (f:=92) (args:=#[.string { data:=#[111,110] }]) (by simp [execOp,go_sem,hc,hf]) (mkp (sword_any [111,110] W' lo (Nat.le_trans hlo1 hG.size)))
  case o1=>
   exact ok_call (f:=92) (args:=#[.string { data:=#[116,105,99,107] }]) (by simp [execOp,go_sem,hc,hf]) (mkp (sword_any [116,105,99,107] W' lo (Nat.le_trans hlo1 hG.size)))
  case o2=>
   exact ok_val (by simp [execOp,go_sem,hc];try rfl) ⟨Below.refl _ _,rfl⟩
  case o3=>
   have e1:ev (.tmp 1)=.pointer (some ⟨W.heap.size,0,none⟩):=hr.tmp 1 (by kernel_rfl)
   exact ok_val (by simp [execOp,go_sem,e1]) ⟨Below.refl _ _,rfl⟩
  case o4=>
   have e49:ev (.tmp 49)=_:=hD 3 49 (by kernel_rfl)
   have m0:=(hG.cell (p:=⟨W.heap.size,4,none⟩) hbl0).trans y0_4
   exact ok_val (by simp [execOp,go_sem,e49,m0]) ⟨Below.refl _ _,rfl⟩
  case o5=>
   have e48:ev (.tmp 48)=_:=hD 2 48 (by kernel_rfl)
   have e50:ev (.tmp 50)=_:=hD 4 50 (by kernel_rfl)
   exact ok_call (f:=122) (args:=#[.agg #[.string (bs [60,61])],.slice pq s.length cq]) (by simp [execOp,go_sem,hc,hf,e48,e50]) (mkp (block_any ([60,61]) _ (s) hsl W' lo (Nat.le_trans hlo1 hG.size) (SsR.later hSs hG) hS))
  case o6=>
   obtain ⟨g46,l46,e46,s46⟩:=seq_form (show Seq lo W' (ev (.tmp 46)) _ from hD 0 46 (by kernel_rfl))
   obtain ⟨g47,l47,e47,s47⟩:=seq_form (show Seq lo W' (ev (.tmp 47)) _ from hD 1 47 (by kernel_rfl))
   obtain ⟨g51,l51,e51,s51⟩:=seq_form (show Seq lo W' (ev (.tmp 51)) _ from hD 5 51 (by kernel_rfl))
   have hn:=seqs_new (lo:=lo) (W:=W') (fs:=[.func (.func g46) #[] l46,.func (.func g47) #[] l47,.func (.func g51) #[] l51]) (ls:=[[wdT [111,110]],[wdT [116,105,99,107]],blockT ([60,61]) (s)]) ⟨s46,s47,s51,trivial⟩ (Nat.le_trans hlo1 hG.size)
   exact ok_new (v:=.slice (some ⟨W'.heap.size,0,none⟩) 3 3) (W':=W'.alloc (.cells #[.func (.func g46) #[] l46,.func (.func g47) #[] l47,.func (.func g51) #[] l51] 79)) (by simp [execOp,go_sem,e46,e47,e51]) ⟨hn.2,hn.1⟩
  case o7=>
   have s52:Seqs lo W' (ev (.tmp 52)) _:=hD 6 52 (by kernel_rfl)
   exact ok_call (f:=91) (args:=#[ev (.tmp 52)]) (by simp [execOp,go_sem,hc,hf]) (mkp (row_any _ _ (by simp) W' lo (Nat.le_trans hlo1 hG.size) s52))
  case o8=>
   have s53:Seq lo W' (ev (.tmp 53)) _:=hD 7 53 (by kernel_rfl)
   exact ok_val (by simp [execOp,go_sem]) ⟨Below.refl _ _,s53⟩
 case hfin=>
  intro zz W' hG hzz
  have h9:Seq lo W' (zz 8) (List.flatten [[wdT [111,110]],[wdT [116,105,99,107]],blockT ([60,61]) (s)]):=hzz 8 (by simp)
  simp only [putAll,Act.put,List.setIfInBounds_toArray,List.set_cons_zero,List.set_cons_succ]
  go_wp2_with fail
  go_ret
  refine ⟨_,rfl,?_,hW1.trans (Below.mono hG (by omega))⟩
  exact h9
theorem item_inst (name fo:Ln) (x:List X) (s:List S) (l e:List It) (ps bb:List Bd) (px pq pl pe pp pb:Option Addr) (cx cq cl ce cp cb:Nat) (W:World) (lo:Nat) (hlo:lo≤W.heap.size) (hpl:ps.length≤1000000) (hPs0:BsR W (.slice pp ps.length cp) ps) (hP:∀ y ∈ ps,BindOK y) (hbl:bb.length≤1000000) (hBs0:BsR W (.slice pb bb.length cb) bb) (hB:∀ y ∈ bb,BindOK y) :
  Calls Tryz.prog 169 #[.agg #[.int .i64 7,.string (bs name),.string (bs fo),.slice px x.length cx,.slice pq s.length cq,.slice pl l.length cl,.slice pe e.length ce,.slice pp ps.length cp,.slice pb bb.length cb]] W (MkPost lo W (List.flatten [[wdT [105,110,115,116]],[nmT name],[sgT [58]],[nmT fo],paramsT ps,inT 40 41 (sepS [44] (bb.map bindT)),[sgT [59]]])):=by
 go_enter Tryz.func169,Tryz.ntmps169
 go_wp2_with fail
 obtain ⟨hbx0,hls,hW1⟩:=one_box W (.cells #[.int .i64 7,.string (bs name),.string (bs fo),.slice px x.length cx,.slice pq s.length cq,.slice pl l.length cl,.slice pe e.length ce,.slice pp ps.length cp,.slice pb bb.length cb] 133)
 generalize W.alloc (.cells #[.int .i64 7,.string (bs name),.string (bs fo),.slice px x.length cx,.slice pq s.length cq,.slice pl l.length cl,.slice pe e.length ce,.slice pp ps.length cp,.slice pb bb.length cb] 133)=W1 at *
 have hlo1:lo≤W1.heap.size:=by omega
 have hbl0:W.heap.size<W1.heap.size:=by omega
 have y0_1:=box_at hbx0 1 (v:=.string (bs name)) rfl
 have y0_2:=box_at hbx0 2 (v:=.string (bs fo)) rfl
 have y0_7:=box_at hbx0 7 (v:=.slice pp ps.length cp) rfl
 have y0_8:=box_at hbx0 8 (v:=.slice pb bb.length cb) rfl
 clear hls hbx0
 have hPs:=BsR.later hPs0 hW1
 have hBs:=BsR.later hBs0 hW1
 refine region_grow Grw (spcAt lo [.seq ([wdT [105,110,115,116]]),.is (.pointer (some ⟨W.heap.size,1,none⟩)),.is (.string (bs name)),.seq ([nmT (name)]),.seq ([sgT [58]]),.is (.pointer (some ⟨W.heap.size,2,none⟩)),.is (.string (bs fo)),.seq ([nmT (fo)]),.is (.pointer (some ⟨W.heap.size,7,none⟩)),.is (.slice pp ps.length cp),.seq (paramsT (ps)),.is (.pointer (some ⟨W.heap.size,8,none⟩)),.is (.slice pb bb.length cb),.seq (sepS [44] ((bb).map bindT)),.seq (inT 40 41 (sepS [44] ((bb).map bindT))),.seq ([sgT [59]]),.seqs [[wdT [105,110,115,116]],[nmT (name)],[sgT [58]],[nmT (fo)],paramsT (ps),inT 40 41 (sepS [44] ((bb).map bindT)),[sgT [59]]],.seq (List.flatten [[wdT [105,110,115,116]],[nmT (name)],[sgT [58]],[nmT (fo)],paramsT (ps),inT 40 41 (sepS [44] ((bb).map bindT)),[sgT [59]]]),.seq (List.flatten [[wdT [105,110,115,116]],[nmT (name)],[sgT [58]],[nmT (fo)],paramsT (ps),inT 40 41 (sepS [44] ((bb).map bindT)),[sgT [59]]])])
  (by kernel_rfl) rfl (by kernel_rfl) (by kernel_rfl) (grw_drawn _) grw_trans (spcAt_grw lo _) ?hops ?hfin
 case hops=>
  refine ⟨?o0,?o1,?o2,?o3,?o4,?o5,?o6,?o7,?o8,?o9,?o10,?o11,?o12,?o13,?o14,?o15,?o16,?o17,?o18,trivial⟩
  all_goals (intro ev W' hG hr hD;have hc:=hr.const;have hf:=hr.func)
  case o0=>
   exact ok_call (f:=92) (args:=#[.string { data:=#[105,110,115,116] }]) (by simp [execOp,go_sem,hc,hf]) (mkp (sword_any [105,110,115,116] W' lo (Nat.le_trans hlo1 hG.size)))
  case o1=>
   have e1:ev (.tmp 1)=.pointer (some ⟨W.heap.size,0,none⟩):=hr.tmp 1 (by kernel_rfl)
   exact ok_val (by simp [execOp,go_sem,e1]) ⟨Below.refl _ _,rfl⟩
  case o2=>
   have e57:ev (.tmp 57)=_:=hD 1 57 (by kernel_rfl)
   have m0:=(hG.cell (p:=⟨W.heap.size,1,none⟩) hbl0).trans y0_1
   exact ok_val (by simp [execOp,go_sem,e57,m0]) ⟨Below.refl _ _,rfl⟩
  case o3=>
   have e58:ev (.tmp 58)=_:=hD 2 58 (by kernel_rfl)
   exact ok_call (f:=93) (args:=#[.string (bs name)]) (by simp [execOp,go_sem,hc,hf,e58]) (mkp (sname_any (name) W' lo (Nat.le_trans hlo1 hG.size)))
  case o4=>
   exact ok_call (f:=90) (args:=#[.string { data:=#[58] }]) (by simp [execOp,go_sem,hc,hf]) (mkp (ssign_any [58] W' lo (Nat.le_trans hlo1 hG.size)))
  case o5=>
   have e1:ev (.tmp 1)=.pointer (some ⟨W.heap.size,0,none⟩):=hr.tmp 1 (by kernel_rfl)
   exact ok_val (by simp [execOp,go_sem,e1]) ⟨Below.refl _ _,rfl⟩
  case o6=>
   have e61:ev (.tmp 61)=_:=hD 5 61 (by kernel_rfl)
   have m0:=(hG.cell (p:=⟨W.heap.size,2,none⟩) hbl0).trans y0_2
   exact ok_val (by simp [execOp,go_sem,e61,m0]) ⟨Below.refl _ _,rfl⟩
  case o7=>
   have e62:ev (.tmp 62)=_:=hD 6 62 (by kernel_rfl)
   exact ok_call (f:=93) (args:=#[.string (bs fo)]) (by simp [execOp,go_sem,hc,hf,e62]) (mkp (sname_any (fo) W' lo (Nat.le_trans hlo1 hG.size)))
  case o8=>
   have e1:ev (.tmp 1)=.pointer (some ⟨W.heap.size,0,none⟩):=hr.tmp 1 (by kernel_rfl)
   exact ok_val (by simp [execOp,go_sem,e1]) ⟨Below.refl _ _,rfl⟩
  case o9=>
   have e64:ev (.tmp 64)=_:=hD 8 64 (by kernel_rfl)
   have m0:=(hG.cell (p:=⟨W.heap.size,7,none⟩) hbl0).trans y0_7
   exact ok_val (by simp [execOp,go_sem,e64,m0]) ⟨Below.refl _ _,rfl⟩
  case o10=>
   have e65:ev (.tmp 65)=_:=hD 9 65 (by kernel_rfl)
   exact ok_call (f:=94) (args:=#[.slice pp ps.length cp]) (by simp [execOp,go_sem,hc,hf,e65]) (mkp (params_any _ (ps) hpl W' lo (Nat.le_trans hlo1 hG.size) (BsR.later hPs hG) hP))
  case o11=>
   have e1:ev (.tmp 1)=.pointer (some ⟨W.heap.size,0,none⟩):=hr.tmp 1 (by kernel_rfl)
   exact ok_val (by simp [execOp,go_sem,e1]) ⟨Below.refl _ _,rfl⟩
  case o12=>
   have e67:ev (.tmp 67)=_:=hD 11 67 (by kernel_rfl)
   have m0:=(hG.cell (p:=⟨W.heap.size,8,none⟩) hbl0).trans y0_8
   exact ok_val (by simp [execOp,go_sem,e67,m0]) ⟨Below.refl _ _,rfl⟩
  case o13=>
   have e68:ev (.tmp 68)=_:=hD 12 68 (by kernel_rfl)
   exact ok_call (f:=166) (args:=#[.slice pb bb.length cb,.string { data:=#[44] },.func (.func 167) #[] #[]]) (by simp [execOp,go_sem,hc,hf,e68]) (mkp (eachB_any [44] (by decide) _ (bb) hbl W' lo (Nat.le_trans hlo1 hG.size) (BsR.later hBs hG) hB))
  case o14=>
   have s69:Seq lo W' (ev (.tmp 69)) _:=hD 13 69 (by kernel_rfl)
   exact ok_call (f:=95) (args:=#[.string { data:=#[40,41] },ev (.tmp 69)]) (by simp [execOp,go_sem,hc,hf]) (mkp (in_any 40 41 _ _ W' lo (Nat.le_trans hlo1 hG.size) s69))
  case o15=>
   exact ok_call (f:=90) (args:=#[.string { data:=#[59] }]) (by simp [execOp,go_sem,hc,hf]) (mkp (ssign_any [59] W' lo (Nat.le_trans hlo1 hG.size)))
  case o16=>
   obtain ⟨g56,l56,e56,s56⟩:=seq_form (show Seq lo W' (ev (.tmp 56)) _ from hD 0 56 (by kernel_rfl))
   obtain ⟨g59,l59,e59,s59⟩:=seq_form (show Seq lo W' (ev (.tmp 59)) _ from hD 3 59 (by kernel_rfl))
   obtain ⟨g60,l60,e60,s60⟩:=seq_form (show Seq lo W' (ev (.tmp 60)) _ from hD 4 60 (by kernel_rfl))
   obtain ⟨g63,l63,e63,s63⟩:=seq_form (show Seq lo W' (ev (.tmp 63)) _ from hD 7 63 (by kernel_rfl))
   obtain ⟨g66,l66,e66,s66⟩:=seq_form (show Seq lo W' (ev (.tmp 66)) _ from hD 10 66 (by kernel_rfl))
   obtain ⟨g70,l70,e70,s70⟩:=seq_form (show Seq lo W' (ev (.tmp 70)) _ from hD 14 70 (by kernel_rfl))
   obtain ⟨g71,l71,e71,s71⟩:=seq_form (show Seq lo W' (ev (.tmp 71)) _ from hD 15 71 (by kernel_rfl))
   have hn:=seqs_new (lo:=lo) (W:=W') (fs:=[.func (.func g56) #[] l56,.func (.func g59) #[] l59,.func (.func g60) #[] l60,.func (.func g63) #[] l63,.func (.func g66) #[] l66,.func (.func g70) #[] l70,.func (.func g71) #[] l71]) (ls:=[[wdT [105,110,115,116]],[nmT (name)],[sgT [58]],[nmT (fo)],paramsT (ps),inT 40 41 (sepS [44] ((bb).map bindT)),[sgT [59]]]) ⟨s56,s59,s60,s63,s66,s70,s71,trivial⟩ (Nat.le_trans hlo1 hG.size)
   exact ok_new (v:=.slice (some ⟨W'.heap.size,0,none⟩) 7 7) (W':=W'.alloc (.cells #[.func (.func g56) #[] l56,.func (.func g59) #[] l59,.func (.func g60) #[] l60,.func (.func g63) #[] l63,.func (.func g66) #[] l66,.func (.func g70) #[] l70,.func (.func g71) #[] l71] 79)) (by simp [execOp,go_sem,e56,e59,e60,e63,e66,e70,e71]) ⟨hn.2,hn.1⟩
  case o17=>
   have s72:Seqs lo W' (ev (.tmp 72)) _:=hD 16 72 (by kernel_rfl)
   exact ok_call (f:=91) (args:=#[ev (.tmp 72)]) (by simp [execOp,go_sem,hc,hf]) (mkp (row_any _ _ (by simp) W' lo (Nat.le_trans hlo1 hG.size) s72))
  case o18=>
   have s73:Seq lo W' (ev (.tmp 73)) _:=hD 17 73 (by kernel_rfl)
   exact ok_val (by simp [execOp,go_sem]) ⟨Below.refl _ _,s73⟩
 case hfin=>
  intro zz W' hG hzz
  have h9:Seq lo W' (zz 18) (List.flatten [[wdT [105,110,115,116]],[nmT (name)],[sgT [58]],[nmT (fo)],paramsT (ps),inT 40 41 (sepS [44] ((bb).map bindT)),[sgT [59]]]):=hzz 18 (by simp)
  simp only [putAll,Act.put,List.setIfInBounds_toArray,List.set_cons_zero,List.set_cons_succ]
  go_wp2_with fail
  go_ret
  refine ⟨_,rfl,?_,hW1.trans (Below.mono hG (by omega))⟩
  exact h9
theorem item_for (name fo:Ln) (x:List X) (s:List S) (l e:List It) (ps bb:List Bd) (px pq pl pe pp pb:Option Addr) (cx cq cl ce cp cb:Nat) (W:World) (lo:Nat) (hlo:lo≤W.heap.size) (hxl:x.length≤1000000) (hXs0:XsR W (.slice px x.length cx) x) (hE:∀ y ∈ x,ExprOK y) (hll:l.length≤1000000) (hLs0:IsR W (.slice pl l.length cl) l) (hL:∀ y ∈ l,ItemOK y) :
  Calls Tryz.prog 169 #[.agg #[.int .i64 9,.string (bs name),.string (bs fo),.slice px x.length cx,.slice pq s.length cq,.slice pl l.length cl,.slice pe e.length ce,.slice pp ps.length cp,.slice pb bb.length cb]] W (MkPost lo W (List.flatten [[wdT [102,111,114]],[nmT name],spanT fo x,cubT (l.map itemT).flatten])):=by
 go_enter Tryz.func169,Tryz.ntmps169
 go_wp2_with fail
 obtain ⟨hbx0,hls,hW1⟩:=one_box W (.cells #[.int .i64 9,.string (bs name),.string (bs fo),.slice px x.length cx,.slice pq s.length cq,.slice pl l.length cl,.slice pe e.length ce,.slice pp ps.length cp,.slice pb bb.length cb] 133)
 generalize W.alloc (.cells #[.int .i64 9,.string (bs name),.string (bs fo),.slice px x.length cx,.slice pq s.length cq,.slice pl l.length cl,.slice pe e.length ce,.slice pp ps.length cp,.slice pb bb.length cb] 133)=W1 at *
 have hlo1:lo≤W1.heap.size:=by omega
 have hbl0:W.heap.size<W1.heap.size:=by omega
 have y0_1:=box_at hbx0 1 (v:=.string (bs name)) rfl
 have y0_2:=box_at hbx0 2 (v:=.string (bs fo)) rfl
 have y0_3:=box_at hbx0 3 (v:=.slice px x.length cx) rfl
 have y0_5:=box_at hbx0 5 (v:=.slice pl l.length cl) rfl
 clear hls hbx0
 have hXs:=XsR.later hXs0 hW1
 have hLs:=IsR.later hLs0 hW1
 refine region_grow Grw (spcAt lo [.seq ([wdT [102,111,114]]),.is (.pointer (some ⟨W.heap.size,1,none⟩)),.is (.string (bs name)),.seq ([nmT (name)]),.is (.pointer (some ⟨W.heap.size,2,none⟩)),.is (.string (bs fo)),.is (.pointer (some ⟨W.heap.size,3,none⟩)),.is (.slice px x.length cx),.seq (spanT (fo) (x)),.is (.pointer (some ⟨W.heap.size,5,none⟩)),.is (.slice pl l.length cl),.seq (cubT ((l).map itemT).flatten),.seqs [[wdT [102,111,114]],[nmT (name)],spanT (fo) (x),cubT ((l).map itemT).flatten],.seq (List.flatten [[wdT [102,111,114]],[nmT (name)],spanT (fo) (x),cubT ((l).map itemT).flatten]),.seq (List.flatten [[wdT [102,111,114]],[nmT (name)],spanT (fo) (x),cubT ((l).map itemT).flatten])])
  (by kernel_rfl) rfl (by kernel_rfl) (by kernel_rfl) (grw_drawn _) grw_trans (spcAt_grw lo _) ?hops ?hfin
 case hops=>
  refine ⟨?o0,?o1,?o2,?o3,?o4,?o5,?o6,?o7,?o8,?o9,?o10,?o11,?o12,?o13,?o14,trivial⟩
  all_goals (intro ev W' hG hr hD;have hc:=hr.const;have hf:=hr.func)
  case o0=>
   exact ok_call (f:=92) (args:=#[.string { data:=#[102,111,114] }]) (by simp [execOp,go_sem,hc,hf]) (mkp (sword_any [102,111,114] W' lo (Nat.le_trans hlo1 hG.size)))
  case o1=>
   have e1:ev (.tmp 1)=.pointer (some ⟨W.heap.size,0,none⟩):=hr.tmp 1 (by kernel_rfl)
   exact ok_val (by simp [execOp,go_sem,e1]) ⟨Below.refl _ _,rfl⟩
  case o2=>
   have e77:ev (.tmp 77)=_:=hD 1 77 (by kernel_rfl)
   have m0:=(hG.cell (p:=⟨W.heap.size,1,none⟩) hbl0).trans y0_1
   exact ok_val (by simp [execOp,go_sem,e77,m0]) ⟨Below.refl _ _,rfl⟩
  case o3=>
   have e78:ev (.tmp 78)=_:=hD 2 78 (by kernel_rfl)
   exact ok_call (f:=93) (args:=#[.string (bs name)]) (by simp [execOp,go_sem,hc,hf,e78]) (mkp (sname_any (name) W' lo (Nat.le_trans hlo1 hG.size)))
  case o4=>
   have e1:ev (.tmp 1)=.pointer (some ⟨W.heap.size,0,none⟩):=hr.tmp 1 (by kernel_rfl)
   exact ok_val (by simp [execOp,go_sem,e1]) ⟨Below.refl _ _,rfl⟩
  case o5=>
   have e80:ev (.tmp 80)=_:=hD 4 80 (by kernel_rfl)
   have m0:=(hG.cell (p:=⟨W.heap.size,2,none⟩) hbl0).trans y0_2
   exact ok_val (by simp [execOp,go_sem,e80,m0]) ⟨Below.refl _ _,rfl⟩
  case o6=>
   have e1:ev (.tmp 1)=.pointer (some ⟨W.heap.size,0,none⟩):=hr.tmp 1 (by kernel_rfl)
   exact ok_val (by simp [execOp,go_sem,e1]) ⟨Below.refl _ _,rfl⟩
  case o7=>
   have e82:ev (.tmp 82)=_:=hD 6 82 (by kernel_rfl)
   have m0:=(hG.cell (p:=⟨W.heap.size,3,none⟩) hbl0).trans y0_3
   exact ok_val (by simp [execOp,go_sem,e82,m0]) ⟨Below.refl _ _,rfl⟩
  case o8=>
   have e81:ev (.tmp 81)=_:=hD 5 81 (by kernel_rfl)
   have e83:ev (.tmp 83)=_:=hD 7 83 (by kernel_rfl)
   exact ok_call (f:=121) (args:=#[.string (bs fo),.slice px x.length cx]) (by simp [execOp,go_sem,hc,hf,e81,e83]) (mkp (span_any (fo) _ (x) hxl W' lo (Nat.le_trans hlo1 hG.size) (XsR.later hXs hG) hE))
  case o9=>
   have e1:ev (.tmp 1)=.pointer (some ⟨W.heap.size,0,none⟩):=hr.tmp 1 (by kernel_rfl)
   exact ok_val (by simp [execOp,go_sem,e1]) ⟨Below.refl _ _,rfl⟩
  case o10=>
   have e85:ev (.tmp 85)=_:=hD 9 85 (by kernel_rfl)
   have m0:=(hG.cell (p:=⟨W.heap.size,5,none⟩) hbl0).trans y0_5
   exact ok_val (by simp [execOp,go_sem,e85,m0]) ⟨Below.refl _ _,rfl⟩
  case o11=>
   have e86:ev (.tmp 86)=_:=hD 10 86 (by kernel_rfl)
   exact ok_call (f:=98) (args:=#[.slice pl l.length cl]) (by simp [execOp,go_sem,hc,hf,e86]) (mkp (items_any _ (l) hll W' lo (Nat.le_trans hlo1 hG.size) (IsR.later hLs hG) hL))
  case o12=>
   obtain ⟨g76,l76,e76,s76⟩:=seq_form (show Seq lo W' (ev (.tmp 76)) _ from hD 0 76 (by kernel_rfl))
   obtain ⟨g79,l79,e79,s79⟩:=seq_form (show Seq lo W' (ev (.tmp 79)) _ from hD 3 79 (by kernel_rfl))
   obtain ⟨g84,l84,e84,s84⟩:=seq_form (show Seq lo W' (ev (.tmp 84)) _ from hD 8 84 (by kernel_rfl))
   obtain ⟨g87,l87,e87,s87⟩:=seq_form (show Seq lo W' (ev (.tmp 87)) _ from hD 11 87 (by kernel_rfl))
   have hn:=seqs_new (lo:=lo) (W:=W') (fs:=[.func (.func g76) #[] l76,.func (.func g79) #[] l79,.func (.func g84) #[] l84,.func (.func g87) #[] l87]) (ls:=[[wdT [102,111,114]],[nmT (name)],spanT (fo) (x),cubT ((l).map itemT).flatten]) ⟨s76,s79,s84,s87,trivial⟩ (Nat.le_trans hlo1 hG.size)
   exact ok_new (v:=.slice (some ⟨W'.heap.size,0,none⟩) 4 4) (W':=W'.alloc (.cells #[.func (.func g76) #[] l76,.func (.func g79) #[] l79,.func (.func g84) #[] l84,.func (.func g87) #[] l87] 79)) (by simp [execOp,go_sem,e76,e79,e84,e87]) ⟨hn.2,hn.1⟩
  case o13=>
   have s88:Seqs lo W' (ev (.tmp 88)) _:=hD 12 88 (by kernel_rfl)
   exact ok_call (f:=91) (args:=#[ev (.tmp 88)]) (by simp [execOp,go_sem,hc,hf]) (mkp (row_any _ _ (by simp) W' lo (Nat.le_trans hlo1 hG.size) s88))
  case o14=>
   have s89:Seq lo W' (ev (.tmp 89)) _:=hD 13 89 (by kernel_rfl)
   exact ok_val (by simp [execOp,go_sem]) ⟨Below.refl _ _,s89⟩
 case hfin=>
  intro zz W' hG hzz
  have h9:Seq lo W' (zz 14) (List.flatten [[wdT [102,111,114]],[nmT (name)],spanT (fo) (x),cubT ((l).map itemT).flatten]):=hzz 14 (by simp)
  simp only [putAll,Act.put,List.setIfInBounds_toArray,List.set_cons_zero,List.set_cons_succ]
  go_wp2_with fail
  go_ret
  refine ⟨_,rfl,?_,hW1.trans (Below.mono hG (by omega))⟩
  exact h9
theorem item_const (name fo:Ln) (x:List X) (s:List S) (l e:List It) (ps bb:List Bd) (px pq pl pe pp pb:Option Addr) (cx cq cl ce cp cb:Nat) (W:World) (lo:Nat) (hlo:lo≤W.heap.size) (hx:x.length=1) (hE:∀ y ∈ x,ExprOK y) (qx ox:Nat) (hqx:qx<W.heap.size) (hX:Spl.Rows W 6 (XR W) qx ox x) :
  Calls Tryz.prog 169 #[.agg #[.int .i64 1,.string (bs name),.string (bs fo),.slice (some ⟨qx,ox,none⟩) 1 cx,.slice pq s.length cq,.slice pl l.length cl,.slice pe e.length ce,.slice pp ps.length cp,.slice pb bb.length cb]] W (MkPost lo W (List.flatten ([[wdT [99,111,110,115,116]],[nmT name]] ++ zipT [[61]] x ++ [[sgT [59]]]))):=by
 have hb0:=one_box W (.cells #[.int .i64 1,.string (bs name),.string (bs fo),.slice (some ⟨qx,ox,none⟩) 1 cx,.slice pq s.length cq,.slice pl l.length cl,.slice pe e.length ce,.slice pp ps.length cp,.slice pb bb.length cb] 133)
 have HT:=hid (told_any [99,111,110,115,116] name fo 1 x [[61]] (by rw [hx];rfl) (by omega) hE qx ox cx (W.heap.size+1) 1 (.slice pq s.length cq) (.slice pl l.length cl) (.slice pe e.length ce) (.slice pp ps.length cp) (.slice pb bb.length cb)
  ((W.alloc (.cells #[.int .i64 1,.string (bs name),.string (bs fo),.slice (some ⟨qx,ox,none⟩) 1 cx,.slice pq s.length cq,.slice pl l.length cl,.slice pe e.length ce,.slice pp ps.length cp,.slice pb bb.length cb] 133)).alloc (.cells #[.string ⟨#[61]⟩] 9)) lo (by simp;omega) (by simp;omega) (by simp)
  (Spl.Rows.later hX hqx (((Below.refl W.heap.size W).alloc (Nat.le_refl _) _).alloc (by simp) _) (fun y _=>XR.later (((Below.refl W.heap.size W).alloc (Nat.le_refl _) _).alloc (by simp) _) y))
  (fun k hk=>by
   have h1:=World.alloc_heap_new (W.alloc (.cells #[.int .i64 1,.string (bs name),.string (bs fo),.slice (some ⟨qx,ox,none⟩) 1 cx,.slice pq s.length cq,.slice pl l.length cl,.slice pe e.length ce,.slice pp ps.length cp,.slice pb bb.length cb] 133)) (.cells #[.string ⟨#[61]⟩] 9)
   rw [World.size_alloc] at h1
   have h2:k=0∨k=1:=by simp at hk;omega
   rcases h2 with rfl | rfl <;> first | (exact (cell_of_row _ _ _ _ _ _ h1).trans rfl) | (simp at hk)))
 rw [hx] at HT
 have HB:=hid (((Below.refl W.heap.size W).alloc (Nat.le_refl _) (.cells #[.int .i64 1,.string (bs name),.string (bs fo),.slice (some ⟨qx,ox,none⟩) 1 cx,.slice pq s.length cq,.slice pl l.length cl,.slice pe e.length ce,.slice pp ps.length cp,.slice pb bb.length cb] 133)).alloc (by simp) (.cells #[.string ⟨#[61]⟩] 9))
 clear hX hE hx hb0
 go_enter Tryz.func169,Tryz.ntmps169
 go_wp2_with (go_at_call 207;refine HT.out.mono ?_;rintro e W6 ⟨f,rfl,h1,h2⟩;have S6:=hid h1;have B6:=hid h2;clear h1 h2)
 go_ret
 exact ⟨_,rfl,S6.out,HB.out.trans (B6.out.mono (by simp;omega))⟩
theorem item_wire (name fo:Ln) (x:List X) (s:List S) (l e:List It) (ps bb:List Bd) (px pq pl pe pp pb:Option Addr) (cx cq cl ce cp cb:Nat) (W:World) (lo:Nat) (hlo:lo≤W.heap.size) (hx:x.length=1) (hE:∀ y ∈ x,ExprOK y) (qx ox:Nat) (hqx:qx<W.heap.size) (hX:Spl.Rows W 6 (XR W) qx ox x) :
  Calls Tryz.prog 169 #[.agg #[.int .i64 2,.string (bs name),.string (bs fo),.slice (some ⟨qx,ox,none⟩) 1 cx,.slice pq s.length cq,.slice pl l.length cl,.slice pe e.length ce,.slice pp ps.length cp,.slice pb bb.length cb]] W (MkPost lo W (List.flatten ([[wdT [119,105,114,101]],[nmT name]] ++ zipT [[58]] x ++ [[sgT [59]]]))):=by
 have hb0:=one_box W (.cells #[.int .i64 2,.string (bs name),.string (bs fo),.slice (some ⟨qx,ox,none⟩) 1 cx,.slice pq s.length cq,.slice pl l.length cl,.slice pe e.length ce,.slice pp ps.length cp,.slice pb bb.length cb] 133)
 have HT:=hid (told_any [119,105,114,101] name fo 2 x [[58]] (by rw [hx];rfl) (by omega) hE qx ox cx (W.heap.size+1) 1 (.slice pq s.length cq) (.slice pl l.length cl) (.slice pe e.length ce) (.slice pp ps.length cp) (.slice pb bb.length cb)
  ((W.alloc (.cells #[.int .i64 2,.string (bs name),.string (bs fo),.slice (some ⟨qx,ox,none⟩) 1 cx,.slice pq s.length cq,.slice pl l.length cl,.slice pe e.length ce,.slice pp ps.length cp,.slice pb bb.length cb] 133)).alloc (.cells #[.string ⟨#[58]⟩] 9)) lo (by simp;omega) (by simp;omega) (by simp)
  (Spl.Rows.later hX hqx (((Below.refl W.heap.size W).alloc (Nat.le_refl _) _).alloc (by simp) _) (fun y _=>XR.later (((Below.refl W.heap.size W).alloc (Nat.le_refl _) _).alloc (by simp) _) y))
  (fun k hk=>by
   have h1:=World.alloc_heap_new (W.alloc (.cells #[.int .i64 2,.string (bs name),.string (bs fo),.slice (some ⟨qx,ox,none⟩) 1 cx,.slice pq s.length cq,.slice pl l.length cl,.slice pe e.length ce,.slice pp ps.length cp,.slice pb bb.length cb] 133)) (.cells #[.string ⟨#[58]⟩] 9)
   rw [World.size_alloc] at h1
   have h2:k=0∨k=1:=by simp at hk;omega
   rcases h2 with rfl | rfl <;> first | (exact (cell_of_row _ _ _ _ _ _ h1).trans rfl) | (simp at hk)))
 rw [hx] at HT
 have HB:=hid (((Below.refl W.heap.size W).alloc (Nat.le_refl _) (.cells #[.int .i64 2,.string (bs name),.string (bs fo),.slice (some ⟨qx,ox,none⟩) 1 cx,.slice pq s.length cq,.slice pl l.length cl,.slice pe e.length ce,.slice pp ps.length cp,.slice pb bb.length cb] 133)).alloc (by simp) (.cells #[.string ⟨#[58]⟩] 9))
 clear hX hE hx hb0
 go_enter Tryz.func169,Tryz.ntmps169
 go_wp2_with (go_at_call 207;refine HT.out.mono ?_;rintro e W6 ⟨f,rfl,h1,h2⟩;have S6:=hid h1;have B6:=hid h2;clear h1 h2)
 go_ret
 exact ⟨_,rfl,S6.out,HB.out.trans (B6.out.mono (by simp;omega))⟩
theorem item_reg (name fo:Ln) (x:List X) (s:List S) (l e:List It) (ps bb:List Bd) (px pq pl pe pp pb:Option Addr) (cx cq cl ce cp cb:Nat) (W:World) (lo:Nat) (hlo:lo≤W.heap.size) (hx:x.length=2) (hE:∀ y ∈ x,ExprOK y) (qx ox:Nat) (hqx:qx<W.heap.size) (hX:Spl.Rows W 6 (XR W) qx ox x) :
  Calls Tryz.prog 169 #[.agg #[.int .i64 3,.string (bs name),.string (bs fo),.slice (some ⟨qx,ox,none⟩) 2 cx,.slice pq s.length cq,.slice pl l.length cl,.slice pe e.length ce,.slice pp ps.length cp,.slice pb bb.length cb]] W (MkPost lo W (List.flatten ([[wdT [114,101,103]],[nmT name]] ++ zipT [[58],[61]] x ++ [[sgT [59]]]))):=by
 have hb0:=one_box W (.cells #[.int .i64 3,.string (bs name),.string (bs fo),.slice (some ⟨qx,ox,none⟩) 2 cx,.slice pq s.length cq,.slice pl l.length cl,.slice pe e.length ce,.slice pp ps.length cp,.slice pb bb.length cb] 133)
 have HT:=hid (told_any [114,101,103] name fo 3 x [[58],[61]] (by rw [hx];rfl) (by omega) hE qx ox cx (W.heap.size+1) 2 (.slice pq s.length cq) (.slice pl l.length cl) (.slice pe e.length ce) (.slice pp ps.length cp) (.slice pb bb.length cb)
  ((W.alloc (.cells #[.int .i64 3,.string (bs name),.string (bs fo),.slice (some ⟨qx,ox,none⟩) 2 cx,.slice pq s.length cq,.slice pl l.length cl,.slice pe e.length ce,.slice pp ps.length cp,.slice pb bb.length cb] 133)).alloc (.cells #[.string ⟨#[58]⟩,.string ⟨#[61]⟩] 9)) lo (by simp;omega) (by simp;omega) (by simp)
  (Spl.Rows.later hX hqx (((Below.refl W.heap.size W).alloc (Nat.le_refl _) _).alloc (by simp) _) (fun y _=>XR.later (((Below.refl W.heap.size W).alloc (Nat.le_refl _) _).alloc (by simp) _) y))
  (fun k hk=>by
   have h1:=World.alloc_heap_new (W.alloc (.cells #[.int .i64 3,.string (bs name),.string (bs fo),.slice (some ⟨qx,ox,none⟩) 2 cx,.slice pq s.length cq,.slice pl l.length cl,.slice pe e.length ce,.slice pp ps.length cp,.slice pb bb.length cb] 133)) (.cells #[.string ⟨#[58]⟩,.string ⟨#[61]⟩] 9)
   rw [World.size_alloc] at h1
   have h2:k=0∨k=1:=by simp at hk;omega
   rcases h2 with rfl | rfl <;> first | (exact (cell_of_row _ _ _ _ _ _ h1).trans rfl) | (simp at hk)))
 rw [hx] at HT
 have HB:=hid (((Below.refl W.heap.size W).alloc (Nat.le_refl _) (.cells #[.int .i64 3,.string (bs name),.string (bs fo),.slice (some ⟨qx,ox,none⟩) 2 cx,.slice pq s.length cq,.slice pl l.length cl,.slice pe e.length ce,.slice pp ps.length cp,.slice pb bb.length cb] 133)).alloc (by simp) (.cells #[.string ⟨#[58]⟩,.string ⟨#[61]⟩] 9))
 clear hX hE hx hb0
 go_enter Tryz.func169,Tryz.ntmps169
 go_wp2_with (go_at_call 207;refine HT.out.mono ?_;rintro e W6 ⟨f,rfl,h1,h2⟩;have S6:=hid h1;have B6:=hid h2;clear h1 h2)
 go_ret
 exact ⟨_,rfl,S6.out,HB.out.trans (B6.out.mono (by simp;omega))⟩
theorem item_check (name fo:Ln) (x:List X) (s:List S) (l e:List It) (ps bb:List Bd) (px pq pl pe pp pb:Option Addr) (cx cq cl ce cp cb:Nat) (W:World) (lo:Nat) (hlo:lo≤W.heap.size) (hx:x.length=1) (hE:∀ y ∈ x,ExprOK y) (qx ox:Nat) (hqx:qx<W.heap.size) (hX:Spl.Rows W 6 (XR W) qx ox x) :
  Calls Tryz.prog 169 #[.agg #[.int .i64 10,.string (bs name),.string (bs fo),.slice (some ⟨qx,ox,none⟩) 1 cx,.slice pq s.length cq,.slice pl l.length cl,.slice pe e.length ce,.slice pp ps.length cp,.slice pb bb.length cb]] W (MkPost lo W (List.flatten ([[wdT [99,104,101,99,107]],[nmT name]] ++ zipT [[58]] x ++ [[sgT [59]]]))):=by
 have hb0:=one_box W (.cells #[.int .i64 10,.string (bs name),.string (bs fo),.slice (some ⟨qx,ox,none⟩) 1 cx,.slice pq s.length cq,.slice pl l.length cl,.slice pe e.length ce,.slice pp ps.length cp,.slice pb bb.length cb] 133)
 have HT:=hid (told_any [99,104,101,99,107] name fo 10 x [[58]] (by rw [hx];rfl) (by omega) hE qx ox cx (W.heap.size+1) 1 (.slice pq s.length cq) (.slice pl l.length cl) (.slice pe e.length ce) (.slice pp ps.length cp) (.slice pb bb.length cb)
  ((W.alloc (.cells #[.int .i64 10,.string (bs name),.string (bs fo),.slice (some ⟨qx,ox,none⟩) 1 cx,.slice pq s.length cq,.slice pl l.length cl,.slice pe e.length ce,.slice pp ps.length cp,.slice pb bb.length cb] 133)).alloc (.cells #[.string ⟨#[58]⟩] 9)) lo (by simp;omega) (by simp;omega) (by simp)
  (Spl.Rows.later hX hqx (((Below.refl W.heap.size W).alloc (Nat.le_refl _) _).alloc (by simp) _) (fun y _=>XR.later (((Below.refl W.heap.size W).alloc (Nat.le_refl _) _).alloc (by simp) _) y))
  (fun k hk=>by
   have h1:=World.alloc_heap_new (W.alloc (.cells #[.int .i64 10,.string (bs name),.string (bs fo),.slice (some ⟨qx,ox,none⟩) 1 cx,.slice pq s.length cq,.slice pl l.length cl,.slice pe e.length ce,.slice pp ps.length cp,.slice pb bb.length cb] 133)) (.cells #[.string ⟨#[58]⟩] 9)
   rw [World.size_alloc] at h1
   have h2:k=0∨k=1:=by simp at hk;omega
   rcases h2 with rfl | rfl <;> first | (exact (cell_of_row _ _ _ _ _ _ h1).trans rfl) | (simp at hk)))
 rw [hx] at HT
 have HB:=hid (((Below.refl W.heap.size W).alloc (Nat.le_refl _) (.cells #[.int .i64 10,.string (bs name),.string (bs fo),.slice (some ⟨qx,ox,none⟩) 1 cx,.slice pq s.length cq,.slice pl l.length cl,.slice pe e.length ce,.slice pp ps.length cp,.slice pb bb.length cb] 133)).alloc (by simp) (.cells #[.string ⟨#[58]⟩] 9))
 clear hX hE hx hb0
 go_enter Tryz.func169,Tryz.ntmps169
 go_wp2_with (go_at_call 207;refine HT.out.mono ?_;rintro e W6 ⟨f,rfl,h1,h2⟩;have S6:=hid h1;have B6:=hid h2;clear h1 h2)
 go_ret
 exact ⟨_,rfl,S6.out,HB.out.trans (B6.out.mono (by simp;omega))⟩
theorem item_if_some (name fo:Ln) (x:List X) (s:List S) (l e:List It) (ps bb:List Bd) (px pq pl pe pp pb:Option Addr) (cx cq cl ce cp cb:Nat) (W:World) (lo0:Nat) (hloW:lo0≤W.heap.size) (xa:X) (iha:ExprOK xa) (hll:l.length≤1000000) (hLs0:IsR W (.slice pl l.length cl) l) (hL:∀ y ∈ l,ItemOK y) (hel:e.length≤1000000) (h0:e ≠ []) (hEs0:IsR W (.slice pe e.length ce) e) (hEI:∀ y ∈ e,ItemOK y) (qx ox:Nat) (hqx0:qx<W.heap.size) (za:XAt W qx ox xa) :
  Calls Tryz.prog 169 #[.agg #[.int .i64 8,.string (bs name),.string (bs fo),.slice (some ⟨qx,ox,none⟩) 1 cx,.slice pq s.length cq,.slice pl l.length cl,.slice pe e.length ce,.slice pp ps.length cp,.slice pb bb.length cb]] W (MkPost lo0 W (List.flatten [[wdT [105,102]],inT 40 41 (exprT xa),cubT (l.map itemT).flatten,[wdT [101,108,115,101]],cubT (e.map itemT).flatten])):=by
 go_enter Tryz.func169,Tryz.ntmps169
 go_wp2_with fail
 obtain ⟨hbx0,hls,hW1⟩:=one_box W (.cells #[.int .i64 8,.string (bs name),.string (bs fo),.slice (some ⟨qx,ox,none⟩) 1 cx,.slice pq s.length cq,.slice pl l.length cl,.slice pe e.length ce,.slice pp ps.length cp,.slice pb bb.length cb] 133)
 generalize W.alloc (.cells #[.int .i64 8,.string (bs name),.string (bs fo),.slice (some ⟨qx,ox,none⟩) 1 cx,.slice pq s.length cq,.slice pl l.length cl,.slice pe e.length ce,.slice pp ps.length cp,.slice pb bb.length cb] 133)=W1 at *
 have hlo0:lo0≤W1.heap.size:=by omega
 obtain ⟨lo,hloe⟩:∃ lo,lo=W1.heap.size:=⟨_,rfl⟩
 have hlo1:lo≤W1.heap.size:=Nat.le_of_eq hloe
 have hbl0:W.heap.size<W1.heap.size:=by omega
 have y0_3:=box_at hbx0 3 (v:=.slice (some ⟨qx,ox,none⟩) 1 cx) rfl
 have y0_5:=box_at hbx0 5 (v:=.slice pl l.length cl) rfl
 have y0_6:=box_at hbx0 6 (v:=.slice pe e.length ce) rfl
 clear hls hbx0
 have hqx:qx<W1.heap.size:=Nat.lt_of_lt_of_le hqx0 hW1.size
 obtain ⟨pa,ca,a0,a1,a2,a3,a4,a5,Xa⟩:=XAt.later za hqx0 hW1
 have hLs:=IsR.later hLs0 hW1
 have hEs:=IsR.later hEs0 hW1
 refine Go.Grow.region_grow Grw (appSp W1 lo 10 [.seq ([wdT [105,102]]),.is (.pointer (some ⟨W.heap.size,3,none⟩)),.is (.slice (some ⟨qx,ox,none⟩) 1 cx),.is (.pointer (some ⟨qx,ox,none⟩)),.is (.agg #[.int .i64 xa.op,.string (bs xa.name),.int .i64 xa.n,.int .i64 xa.w,.int .u64 xa.v,.slice pa xa.l.length ca]),.seq (exprT (xa)),.seq (inT 40 41 (exprT (xa))),.is (.pointer (some ⟨W.heap.size,5,none⟩)),.is (.slice pl l.length cl),.seq (cubT ((l).map itemT).flatten)] [[wdT [105,102]],inT 40 41 (exprT (xa)),cubT ((l).map itemT).flatten])
  (by kernel_rfl) rfl (by kernel_rfl) (by kernel_rfl) (grw_drawn _) grw_trans (appSp_grw _ _ _ _ _) ?hops ?hfin
 case hops=>
  refine ⟨?o0,?o1,?o2,?o3,?o4,?o5,?o6,?o7,?o8,?o9,?o10,?o11,trivial⟩
  all_goals (intro ev W' hG hr hD;have hc:=hr.const;have hf:=hr.func)
  case o0=>
   exact Go.Grow.ok_call (f:=92) (args:=#[.string { data:=#[105,102] }]) (by simp [execOp,go_sem,hc,hf]) (mkp (sword_any [105,102] W' lo (Nat.le_trans hlo1 hG.size)))
  case o1=>
   have e1:ev (.tmp 1)=.pointer (some ⟨W.heap.size,0,none⟩):=hr.tmp 1 (by kernel_rfl)
   exact Go.Grow.ok_val (by simp [execOp,go_sem,e1]) ⟨Below.refl _ _,rfl⟩
  case o2=>
   have e91:ev (.tmp 91)=_:=hD 1 91 (by kernel_rfl)
   have m0:=(hG.cell (p:=⟨W.heap.size,3,none⟩) hbl0).trans y0_3
   exact Go.Grow.ok_val (by simp [execOp,go_sem,e91,m0]) ⟨Below.refl _ _,rfl⟩
  case o3=>
   have e92:ev (.tmp 92)=_:=hD 2 92 (by kernel_rfl)
   exact Go.Grow.ok_val (by simp [execOp,go_sem,e92,hc]) ⟨Below.refl _ _,rfl⟩
  case o4=>
   have e93:ev (.tmp 93)=_:=hD 3 93 (by kernel_rfl)
   obtain ⟨m0,m1,m2,m3,m4,m5⟩:=six_later hG hqx a0 a1 a2 a3 a4 a5
   exact Go.Grow.ok_val (by simp [execOp,go_sem,e93,m0,m1,m2,m3,m4,m5]) ⟨Below.refl _ _,rfl⟩
  case o5=>
   have e94:ev (.tmp 94)=_:=hD 4 94 (by kernel_rfl)
   exact Go.Grow.ok_call (f:=56) (args:=#[.agg #[.int .i64 xa.op,.string (bs xa.name),.int .i64 xa.n,.int .i64 xa.w,.int .u64 xa.v,.slice pa xa.l.length ca]]) (by simp [execOp,go_sem,hc,hf,e94]) (mkp (iha W' lo _ (Nat.le_trans hlo1 hG.size) (XR.later hG _ _ Xa)))
  case o6=>
   have s95:Seq lo W' (ev (.tmp 95)) _:=hD 5 95 (by kernel_rfl)
   exact Go.Grow.ok_call (f:=95) (args:=#[.string { data:=#[40,41] },ev (.tmp 95)]) (by simp [execOp,go_sem,hc,hf]) (mkp (in_any 40 41 _ _ W' lo (Nat.le_trans hlo1 hG.size) s95))
  case o7=>
   have e1:ev (.tmp 1)=.pointer (some ⟨W.heap.size,0,none⟩):=hr.tmp 1 (by kernel_rfl)
   exact Go.Grow.ok_val (by simp [execOp,go_sem,e1]) ⟨Below.refl _ _,rfl⟩
  case o8=>
   have e97:ev (.tmp 97)=_:=hD 7 97 (by kernel_rfl)
   have m0:=(hG.cell (p:=⟨W.heap.size,5,none⟩) hbl0).trans y0_5
   exact Go.Grow.ok_val (by simp [execOp,go_sem,e97,m0]) ⟨Below.refl _ _,rfl⟩
  case o9=>
   have e98:ev (.tmp 98)=_:=hD 8 98 (by kernel_rfl)
   exact Go.Grow.ok_call (f:=98) (args:=#[.slice pl l.length cl]) (by simp [execOp,go_sem,hc,hf,e98]) (mkp (items_any _ (l) hll W' lo (Nat.le_trans hlo1 hG.size) (IsR.later hLs hG) hL))
  case o10=>
   obtain ⟨g90,l90,e90,s90⟩:=seq_form (show Seq lo W' (ev (.tmp 90)) _ from hD 0 90 (by kernel_rfl))
   obtain ⟨g96,l96,e96,s96⟩:=seq_form (show Seq lo W' (ev (.tmp 96)) _ from hD 6 96 (by kernel_rfl))
   obtain ⟨g99,l99,e99,s99⟩:=seq_form (show Seq lo W' (ev (.tmp 99)) _ from hD 9 99 (by kernel_rfl))
   have hn:=each_new (W:=W1) (V:=W') hG (fs:=[.func (.func g90) #[] l90,.func (.func g96) #[] l96,.func (.func g99) #[] l99]) (ls:=[[wdT [105,102]],inT 40 41 (exprT (xa)),cubT ((l).map itemT).flatten]) (by simp) (hloe ▸ ⟨s90,s96,s99,trivial⟩)
   exact Go.Grow.ok_new (v:=.slice (some ⟨W'.heap.size,0,none⟩) 3 3) (W':=W'.alloc (.cells #[.func (.func g90) #[] l90,.func (.func g96) #[] l96,.func (.func g99) #[] l99] 79)) (by simp [execOp,go_sem,e90,e96,e99]) ⟨(Below.refl _ _).alloc (Nat.le_refl _) _,_,⟨_,_,rfl⟩,hn⟩
  case o11=>
   have s100:∃ fs,(∃ q c,(ev (.tmp 100))=.slice q fs.length c)∧EachS W1 (ev (.tmp 100)) fs [[wdT [105,102]],inT 40 41 (exprT (xa)),cubT ((l).map itemT).flatten] W':=hD 10 100 (by kernel_rfl)
   exact Go.Grow.ok_val (by simp [execOp,go_sem]) ⟨Below.refl _ _,s100⟩
 case hfin=>
  intro zz W5 hG5 hzz
  have h9:∃ fs,(∃ q c,(zz 11)=.slice q fs.length c)∧EachS W1 (zz 11) fs [[wdT [105,102]],inT 40 41 (exprT (xa)),cubT ((l).map itemT).flatten] W5:=hzz 11 (by simp)
  simp only [Go.Grow.putAll,Act.put,List.setIfInBounds_toArray,List.set_cons_zero,List.set_cons_succ]
  obtain ⟨fs,⟨q5,k5,e5⟩,hE0⟩:=h9
  rw [e5] at hE0 ⊢
  clear e5 hzz
  have hfl:=hE0.lies.len
  simp only [List.length_cons,List.length_nil] at hfl
  have hGs:=hG5.size
  have y6:=(hG5.cell (p:=⟨W.heap.size,6,none⟩) hbl0).trans y0_6
  have hlp:=List.length_pos_iff.2 h0
  have hm:decide (0<e.length)=true:=by simpa using hlp
  have hm2:decide (0<(e.length:Int))=true:=by simp;omega
  have hm3:(0:Int)<(e.length:Int):=by omega
  have hEs5:=IsR.later hEs hG5
  obtain ⟨out,hout⟩:∃ out,out=Value.slice q5 fs.length k5:=⟨_,rfl⟩
  rw [← hout] at hE0 ⊢
  have HE0:=hid hE0
  have HOUT:=hid hout
  clear hE0 hout
  go_wp2_with fail
  obtain ⟨lo2,hloe2⟩:∃ lo,lo=W5.heap.size:=⟨_,rfl⟩
  have hlo1:lo2≤W5.heap.size:=Nat.le_of_eq hloe2
  have hW0lo:W1.heap.size≤lo2:=by omega
  have hrow:∀ r,out.ownBlock=some r→r<lo2:=fun r hr=>by rw [hloe2];exact (HE0.out.lt r hr).2
  have hbl5:W.heap.size<W5.heap.size:=by omega
  refine Go.GrowQ.region_grow_p (appG (out.ownBlock) 6) (appH out.ownBlock) 6 (appSp W1 lo2 6 [.is (out),.seq ([wdT [101,108,115,101]]),.is (.pointer (some ⟨W.heap.size,6,none⟩)),.is (.slice pe e.length ce),.seq (cubT ((e).map itemT).flatten),.blk [[wdT [101,108,115,101]],cubT ((e).map itemT).flatten]] [[wdT [105,102]],inT 40 41 (exprT (xa)),cubT ((l).map itemT).flatten,[wdT [101,108,115,101]],cubT ((e).map itemT).flatten])
   (by kernel_rfl) rfl (by kernel_rfl) (by kernel_rfl) (grw_drawn _) (Go.GrowQ.before_from (by kernel_rfl)) (app_tr out.ownBlock 6) (app_mono _ out.ownBlock lo2 6 hrow _ _) ?hops ?hfin
  case hops=>
   refine ⟨?o0,?o1,?o2,?o3,?o4,?o5,?o6,?o7,trivial⟩
   all_goals (intro ev W' hG hr hD;have hc:=hr.const;have hf:=hr.func)
   case o0=>
    have hG:Grw W5 W':=hG
    have e3:ev (.tmp 3)=out:=hr.old 3 (by kernel_rfl)
    exact Go.GrowQ.ok_val (by simp [execOp,go_sem,e3]) ⟨Below.refl _ _,rfl⟩
   case o1=>
    have hG:Grw W5 W':=hG
    refine Go.GrowQ.ok_call (f:=92) (args:=#[.string { data:=#[101,108,115,101] }]) (by simp [execOp,go_sem,hc,hf]) ?_
    have hlo':=Nat.le_trans hlo1 hG.size
    refine (sword_any [101,108,115,101] W' lo2 hlo').mono ?_
    rintro e W2 ⟨f,rfl,h1,h2⟩
    refine ⟨f,rfl,h2,?_⟩
    show Seq lo2 W2 f ([wdT [101,108,115,101]])
    exact h1
   case o2=>
    have hG:Grw W5 W':=hG
    have e1:ev (.tmp 1)=.pointer (some ⟨W.heap.size,0,none⟩):=hr.tmp 1 (by kernel_rfl)
    exact Go.GrowQ.ok_val (by simp [execOp,go_sem,e1]) ⟨Below.refl _ _,rfl⟩
   case o3=>
    have hG:Grw W5 W':=hG
    have e107:ev (.tmp 107)=_:=hD 2 107 (by kernel_rfl)
    have m0:=(hG.cell (p:=⟨W.heap.size,6,none⟩) hbl5).trans y6
    exact Go.GrowQ.ok_val (by simp [execOp,go_sem,e107,m0]) ⟨Below.refl _ _,rfl⟩
   case o4=>
    have hG:Grw W5 W':=hG
    have e108:ev (.tmp 108)=_:=hD 3 108 (by kernel_rfl)
    refine Go.GrowQ.ok_call (f:=98) (args:=#[.slice pe e.length ce]) (by simp [execOp,go_sem,hc,hf,e108]) ?_
    have hlo':=Nat.le_trans hlo1 hG.size
    refine (items_any _ (e) hel W' lo2 hlo' (IsR.later hEs5 hG) hEI).mono ?_
    rintro e W2 ⟨f,rfl,h1,h2⟩
    refine ⟨f,rfl,h2,?_⟩
    show Seq lo2 W2 f (cubT ((e).map itemT).flatten)
    exact h1
   case o5=>
    have hG:Grw W5 W':=hG
    obtain ⟨g106,l106,e106,s106⟩:=seq_form (show Seq lo2 W' (ev (.tmp 106)) ([wdT [101,108,115,101]]) from hD 1 106 (by kernel_rfl))
    obtain ⟨g109,l109,e109,s109⟩:=seq_form (show Seq lo2 W' (ev (.tmp 109)) (cubT ((e).map itemT).flatten) from hD 4 109 (by kernel_rfl))
    have hn:=blk_new (lo:=lo2) (W:=W') (fs:=[.func (.func g106) #[] l106,.func (.func g109) #[] l109]) (ls:=[[wdT [101,108,115,101]],cubT ((e).map itemT).flatten]) ⟨s106,s109,trivial⟩ (Nat.le_trans hlo1 hG.size)
    exact Go.GrowQ.ok_new (v:=.slice (some ⟨W'.heap.size,0,none⟩) 2 2) (W':=W'.alloc (.cells #[.func (.func g106) #[] l106,.func (.func g109) #[] l109] 79)) (by simp [execOp,go_sem,e106,e109]) ⟨hn.2,hn.1⟩
   case o6=>
    have hG:Grw W5 W':=hG
    have e105:ev (.tmp 105)=_:=hD 0 105 (by kernel_rfl)
    obtain ⟨b,gs,e110,hb1,hblk,hgs⟩:Spc.ok lo2 (.blk [[wdT [101,108,115,101]],cubT ((e).map itemT).flatten]) W' (ev (.tmp 110)):=hD 5 110 (by kernel_rfl)
    have hgl:gs.length=2:=(allSeq_get hgs).1
    obtain ⟨g,cap,w',hrun,hgb,hE2⟩:=app_step (HE0.out.later hG) hW0lo hrow hblk hgs (by omega) (by omega) 121 2
    rw [hgl] at hrun
    simp only [List.length_cons,List.length_nil] at e110
    exact Go.GrowQ.ok_new (v:=.slice (some ⟨g,0,none⟩) (fs.length+2) cap) (W':=w') (by simp [execOp,resolve,invoke,builtin,e105,e110,hrun,Result.andThen]) ⟨hgb,fs ++ gs,⟨some ⟨g,0,none⟩,cap,by show Value.slice _ (fs.length+2) _=Value.slice _ _ _;rw [List.length_append,hgl]⟩,by rw [hgl] at hE2;exact hE2⟩
   case o7=>
    have hG:W5.grownBy W' out.ownBlock:=hG
    have s111:∃ fs,(∃ q c,(ev (.tmp 111))=.slice q fs.length c)∧EachS W1 (ev (.tmp 111)) fs [[wdT [105,102]],inT 40 41 (exprT (xa)),cubT ((l).map itemT).flatten,[wdT [101,108,115,101]],cubT ((e).map itemT).flatten] W':=hD 6 111 (by kernel_rfl)
    exact Go.GrowQ.ok_val (by simp [execOp,go_sem]) ⟨Below.refl _ _,s111⟩
  case hfin=>
   intro zz W9 hG9 hzz
   have hG9:W5.grownBy W9 out.ownBlock:=hG9
   have h9:∃ fs,(∃ q c,(zz 7)=.slice q fs.length c)∧EachS W1 (zz 7) fs [[wdT [105,102]],inT 40 41 (exprT (xa)),cubT ((l).map itemT).flatten,[wdT [101,108,115,101]],cubT ((e).map itemT).flatten] W9:=hzz 7 (by simp)
   simp only [Go.GrowQ.putAll,Act.put,List.setIfInBounds_toArray,List.set_cons_zero,List.set_cons_succ]
   obtain ⟨fs2,⟨q9,k9,e9⟩,hE9⟩:=h9
   rw [e9] at hE9 ⊢
   clear e9 hzz
   have HROW:=hid (row_any _ _ (by simp) W9 W1.heap.size hE9.bel.size hE9.seqs)
   go_wp2_with (go_at_call 91;refine HROW.out.mono ?_;rintro e W6 ⟨f,rfl,h1,h2⟩;have S6:=hid h1;have B6:=hid h2;clear h1 h2)
   go_ret
   have hz1:=hW1.size
   have hz2:=hE9.bel.size
   refine ⟨_,rfl,IsSeq.later S6.out hlo0 (KeptL.refl _ _),hW1.trans ((hE9.bel.trans (B6.out.mono (by omega))).mono hz1)⟩
theorem item_if_none (name fo:Ln) (x:List X) (s:List S) (l e:List It) (ps bb:List Bd) (px pq pl pe pp pb:Option Addr) (cx cq cl ce cp cb:Nat) (W:World) (lo0:Nat) (hloW:lo0≤W.heap.size) (xa:X) (iha:ExprOK xa) (hll:l.length≤1000000) (hLs0:IsR W (.slice pl l.length cl) l) (hL:∀ y ∈ l,ItemOK y)  (qx ox:Nat) (hqx0:qx<W.heap.size) (za:XAt W qx ox xa) :
  Calls Tryz.prog 169 #[.agg #[.int .i64 8,.string (bs name),.string (bs fo),.slice (some ⟨qx,ox,none⟩) 1 cx,.slice pq s.length cq,.slice pl l.length cl,.slice pe 0 ce,.slice pp ps.length cp,.slice pb bb.length cb]] W (MkPost lo0 W (List.flatten [[wdT [105,102]],inT 40 41 (exprT xa),cubT (l.map itemT).flatten])):=by
 go_enter Tryz.func169,Tryz.ntmps169
 go_wp2_with fail
 obtain ⟨hbx0,hls,hW1⟩:=one_box W (.cells #[.int .i64 8,.string (bs name),.string (bs fo),.slice (some ⟨qx,ox,none⟩) 1 cx,.slice pq s.length cq,.slice pl l.length cl,.slice pe 0 ce,.slice pp ps.length cp,.slice pb bb.length cb] 133)
 generalize W.alloc (.cells #[.int .i64 8,.string (bs name),.string (bs fo),.slice (some ⟨qx,ox,none⟩) 1 cx,.slice pq s.length cq,.slice pl l.length cl,.slice pe 0 ce,.slice pp ps.length cp,.slice pb bb.length cb] 133)=W1 at *
 have hlo0:lo0≤W1.heap.size:=by omega
 obtain ⟨lo,hloe⟩:∃ lo,lo=W1.heap.size:=⟨_,rfl⟩
 have hlo1:lo≤W1.heap.size:=Nat.le_of_eq hloe
 have hbl0:W.heap.size<W1.heap.size:=by omega
 have y0_3:=box_at hbx0 3 (v:=.slice (some ⟨qx,ox,none⟩) 1 cx) rfl
 have y0_5:=box_at hbx0 5 (v:=.slice pl l.length cl) rfl
 have y0_6:=box_at hbx0 6 (v:=.slice pe 0 ce) rfl
 clear hls hbx0
 have hqx:qx<W1.heap.size:=Nat.lt_of_lt_of_le hqx0 hW1.size
 obtain ⟨pa,ca,a0,a1,a2,a3,a4,a5,Xa⟩:=XAt.later za hqx0 hW1
 have hLs:=IsR.later hLs0 hW1
 refine Go.Grow.region_grow Grw (appSp W1 lo 10 [.seq ([wdT [105,102]]),.is (.pointer (some ⟨W.heap.size,3,none⟩)),.is (.slice (some ⟨qx,ox,none⟩) 1 cx),.is (.pointer (some ⟨qx,ox,none⟩)),.is (.agg #[.int .i64 xa.op,.string (bs xa.name),.int .i64 xa.n,.int .i64 xa.w,.int .u64 xa.v,.slice pa xa.l.length ca]),.seq (exprT (xa)),.seq (inT 40 41 (exprT (xa))),.is (.pointer (some ⟨W.heap.size,5,none⟩)),.is (.slice pl l.length cl),.seq (cubT ((l).map itemT).flatten)] [[wdT [105,102]],inT 40 41 (exprT (xa)),cubT ((l).map itemT).flatten])
  (by kernel_rfl) rfl (by kernel_rfl) (by kernel_rfl) (grw_drawn _) grw_trans (appSp_grw _ _ _ _ _) ?hops ?hfin
 case hops=>
  refine ⟨?o0,?o1,?o2,?o3,?o4,?o5,?o6,?o7,?o8,?o9,?o10,?o11,trivial⟩
  all_goals (intro ev W' hG hr hD;have hc:=hr.const;have hf:=hr.func)
  case o0=>
   exact Go.Grow.ok_call (f:=92) (args:=#[.string { data:=#[105,102] }]) (by simp [execOp,go_sem,hc,hf]) (mkp (sword_any [105,102] W' lo (Nat.le_trans hlo1 hG.size)))
  case o1=>
   have e1:ev (.tmp 1)=.pointer (some ⟨W.heap.size,0,none⟩):=hr.tmp 1 (by kernel_rfl)
   exact Go.Grow.ok_val (by simp [execOp,go_sem,e1]) ⟨Below.refl _ _,rfl⟩
  case o2=>
   have e91:ev (.tmp 91)=_:=hD 1 91 (by kernel_rfl)
   have m0:=(hG.cell (p:=⟨W.heap.size,3,none⟩) hbl0).trans y0_3
   exact Go.Grow.ok_val (by simp [execOp,go_sem,e91,m0]) ⟨Below.refl _ _,rfl⟩
  case o3=>
   have e92:ev (.tmp 92)=_:=hD 2 92 (by kernel_rfl)
   exact Go.Grow.ok_val (by simp [execOp,go_sem,e92,hc]) ⟨Below.refl _ _,rfl⟩
  case o4=>
   have e93:ev (.tmp 93)=_:=hD 3 93 (by kernel_rfl)
   obtain ⟨m0,m1,m2,m3,m4,m5⟩:=six_later hG hqx a0 a1 a2 a3 a4 a5
   exact Go.Grow.ok_val (by simp [execOp,go_sem,e93,m0,m1,m2,m3,m4,m5]) ⟨Below.refl _ _,rfl⟩
  case o5=>
   have e94:ev (.tmp 94)=_:=hD 4 94 (by kernel_rfl)
   exact Go.Grow.ok_call (f:=56) (args:=#[.agg #[.int .i64 xa.op,.string (bs xa.name),.int .i64 xa.n,.int .i64 xa.w,.int .u64 xa.v,.slice pa xa.l.length ca]]) (by simp [execOp,go_sem,hc,hf,e94]) (mkp (iha W' lo _ (Nat.le_trans hlo1 hG.size) (XR.later hG _ _ Xa)))
  case o6=>
   have s95:Seq lo W' (ev (.tmp 95)) _:=hD 5 95 (by kernel_rfl)
   exact Go.Grow.ok_call (f:=95) (args:=#[.string { data:=#[40,41] },ev (.tmp 95)]) (by simp [execOp,go_sem,hc,hf]) (mkp (in_any 40 41 _ _ W' lo (Nat.le_trans hlo1 hG.size) s95))
  case o7=>
   have e1:ev (.tmp 1)=.pointer (some ⟨W.heap.size,0,none⟩):=hr.tmp 1 (by kernel_rfl)
   exact Go.Grow.ok_val (by simp [execOp,go_sem,e1]) ⟨Below.refl _ _,rfl⟩
  case o8=>
   have e97:ev (.tmp 97)=_:=hD 7 97 (by kernel_rfl)
   have m0:=(hG.cell (p:=⟨W.heap.size,5,none⟩) hbl0).trans y0_5
   exact Go.Grow.ok_val (by simp [execOp,go_sem,e97,m0]) ⟨Below.refl _ _,rfl⟩
  case o9=>
   have e98:ev (.tmp 98)=_:=hD 8 98 (by kernel_rfl)
   exact Go.Grow.ok_call (f:=98) (args:=#[.slice pl l.length cl]) (by simp [execOp,go_sem,hc,hf,e98]) (mkp (items_any _ (l) hll W' lo (Nat.le_trans hlo1 hG.size) (IsR.later hLs hG) hL))
  case o10=>
   obtain ⟨g90,l90,e90,s90⟩:=seq_form (show Seq lo W' (ev (.tmp 90)) _ from hD 0 90 (by kernel_rfl))
   obtain ⟨g96,l96,e96,s96⟩:=seq_form (show Seq lo W' (ev (.tmp 96)) _ from hD 6 96 (by kernel_rfl))
   obtain ⟨g99,l99,e99,s99⟩:=seq_form (show Seq lo W' (ev (.tmp 99)) _ from hD 9 99 (by kernel_rfl))
   have hn:=each_new (W:=W1) (V:=W') hG (fs:=[.func (.func g90) #[] l90,.func (.func g96) #[] l96,.func (.func g99) #[] l99]) (ls:=[[wdT [105,102]],inT 40 41 (exprT (xa)),cubT ((l).map itemT).flatten]) (by simp) (hloe ▸ ⟨s90,s96,s99,trivial⟩)
   exact Go.Grow.ok_new (v:=.slice (some ⟨W'.heap.size,0,none⟩) 3 3) (W':=W'.alloc (.cells #[.func (.func g90) #[] l90,.func (.func g96) #[] l96,.func (.func g99) #[] l99] 79)) (by simp [execOp,go_sem,e90,e96,e99]) ⟨(Below.refl _ _).alloc (Nat.le_refl _) _,_,⟨_,_,rfl⟩,hn⟩
  case o11=>
   have s100:∃ fs,(∃ q c,(ev (.tmp 100))=.slice q fs.length c)∧EachS W1 (ev (.tmp 100)) fs [[wdT [105,102]],inT 40 41 (exprT (xa)),cubT ((l).map itemT).flatten] W':=hD 10 100 (by kernel_rfl)
   exact Go.Grow.ok_val (by simp [execOp,go_sem]) ⟨Below.refl _ _,s100⟩
 case hfin=>
  intro zz W5 hG5 hzz
  have h9:∃ fs,(∃ q c,(zz 11)=.slice q fs.length c)∧EachS W1 (zz 11) fs [[wdT [105,102]],inT 40 41 (exprT (xa)),cubT ((l).map itemT).flatten] W5:=hzz 11 (by simp)
  simp only [Go.Grow.putAll,Act.put,List.setIfInBounds_toArray,List.set_cons_zero,List.set_cons_succ]
  obtain ⟨fs,⟨q5,k5,e5⟩,hE0⟩:=h9
  rw [e5] at hE0 ⊢
  clear e5 hzz
  have hfl:=hE0.lies.len
  simp only [List.length_cons,List.length_nil] at hfl
  have hGs:=hG5.size
  have y6:=(hG5.cell (p:=⟨W.heap.size,6,none⟩) hbl0).trans y0_6
  obtain ⟨out,hout⟩:∃ out,out=Value.slice q5 fs.length k5:=⟨_,rfl⟩
  rw [← hout] at hE0 ⊢
  have HE0:=hid hE0
  have HOUT:=hid hout
  clear hE0 hout
  have HROW:=hid (row_any out _ (by simp) W5 W1.heap.size HE0.out.bel.size HE0.out.seqs)
  go_wp2_with (go_at_call 91;refine HROW.out.mono ?_;rintro e W6 ⟨f,rfl,h1,h2⟩;have S6:=hid h1;have B6:=hid h2;clear h1 h2)
  go_ret
  have hz1:=hW1.size
  have hz2:=HE0.out.bel.size
  refine ⟨_,rfl,IsSeq.later S6.out hlo0 (KeptL.refl _ _),hW1.trans ((HE0.out.bel.trans (B6.out.mono (by omega))).mono hz1)⟩
end Go.Proofs.YtlcfpdmicpggbaaGreatDoor
namespace Go.Proofs.YtlcfpdmicpggbaaGreatDoor
open Go.Lib (hid)
open Go.RowKit Go.Proofs.Spl Go.Proofs.Scn Go.Shelf Go.Grow
theorem module_any (name:Ln) (ps:List Bd) (pts:List Pt) (l:List It) (pp pt pl:Option Addr) (cp ct cl:Nat) (W:World) (lo:Nat) (hlo:lo≤W.heap.size)
  (hpl:ps.length≤1000000) (hPs0:BsR W (.slice pp ps.length cp) ps) (hP:∀ y ∈ ps,BindOK y) (htl:pts.length≤1000000) (hTs0:PsR W (.slice pt pts.length ct) pts) (hT:∀ y ∈ pts,PortOK y) (hll:l.length≤1000000) (hLs0:IsR W (.slice pl l.length cl) l) (hL:∀ y ∈ l,ItemOK y) :
  Calls Tryz.prog 48 #[.agg #[.string (bs name),.slice pp ps.length cp,.slice pt pts.length ct,.slice pl l.length cl]] W (MkPost lo W (List.flatten [[wdT [109,111,100,117,108,101]],[nmT name],paramsT ps,inT 40 41 (sepS [44] (pts.map portT)),cubT (l.map itemT).flatten])):=by
 go_enter Tryz.func48,Tryz.ntmps48
 go_wp2_with fail
 obtain ⟨hbx0,hls,hW1⟩:=one_box W (.cells #[.string (bs name),.slice pp ps.length cp,.slice pt pts.length ct,.slice pl l.length cl] 53)
 generalize W.alloc (.cells #[.string (bs name),.slice pp ps.length cp,.slice pt pts.length ct,.slice pl l.length cl] 53)=W1 at *
 have hlo1:lo≤W1.heap.size:=by omega
 have hbl0:W.heap.size<W1.heap.size:=by omega
 have y0_0:W1.cell? ⟨W.heap.size,0,none⟩=some (.string (bs name)):=by simp [World.cell?,hbx0]
 have y0_1:W1.cell? ⟨W.heap.size,1,none⟩=some (.slice pp ps.length cp):=by simp [World.cell?,hbx0]
 have y0_2:W1.cell? ⟨W.heap.size,2,none⟩=some (.slice pt pts.length ct):=by simp [World.cell?,hbx0]
 have y0_3:W1.cell? ⟨W.heap.size,3,none⟩=some (.slice pl l.length cl):=by simp [World.cell?,hbx0]
 clear hls hbx0
 have hPs:=BsR.later hPs0 hW1
 have hTs:=PsR.later hTs0 hW1
 have hLs:=IsR.later hLs0 hW1
 refine region_grow Grw (spcAt lo [.seq ([wdT [109,111,100,117,108,101]]),.is (.pointer (some ⟨W.heap.size,0,none⟩)),.is (.string (bs name)),.seq ([nmT (name)]),.is (.pointer (some ⟨W.heap.size,1,none⟩)),.is (.slice pp ps.length cp),.seq (paramsT (ps)),.is (.pointer (some ⟨W.heap.size,2,none⟩)),.is (.slice pt pts.length ct),.seq (sepS [44] ((pts).map portT)),.seq (inT 40 41 (sepS [44] ((pts).map portT))),.is (.pointer (some ⟨W.heap.size,3,none⟩)),.is (.slice pl l.length cl),.seq (cubT ((l).map itemT).flatten),.seqs [[wdT [109,111,100,117,108,101]],[nmT (name)],paramsT (ps),inT 40 41 (sepS [44] ((pts).map portT)),cubT ((l).map itemT).flatten],.seq (List.flatten [[wdT [109,111,100,117,108,101]],[nmT (name)],paramsT (ps),inT 40 41 (sepS [44] ((pts).map portT)),cubT ((l).map itemT).flatten]),.seq (List.flatten [[wdT [109,111,100,117,108,101]],[nmT (name)],paramsT (ps),inT 40 41 (sepS [44] ((pts).map portT)),cubT ((l).map itemT).flatten])])
  (by kernel_rfl) rfl (by kernel_rfl) (by kernel_rfl) (grw_drawn _) grw_trans (spcAt_grw lo _) ?hops ?hfin
 case hops=>
  refine ⟨?o0,?o1,?o2,?o3,?o4,?o5,?o6,?o7,?o8,?o9,?o10,?o11,?o12,?o13,?o14,?o15,?o16,trivial⟩
  all_goals (intro ev W' hG hr hD;have hc:=hr.const;have hf:=hr.func)
  case o0=>
   refine ok_call (f:=92) (args:=#[.string { data:=#[109,111,100,117,108,101] }]) (by simp [execOp,go_sem,hc,hf]) ?_
   have hlo':=Nat.le_trans hlo1 hG.size
   refine (sword_any [109,111,100,117,108,101] W' lo hlo').mono ?_
   rintro e W2 ⟨f,rfl,h1,h2⟩
   refine ⟨f,rfl,h2,?_⟩
   show Seq lo W2 f ([wdT [109,111,100,117,108,101]])
   exact h1
  case o1=>
   have e1:ev (.tmp 1)=.pointer (some ⟨W.heap.size,0,none⟩):=hr.tmp 1 (by kernel_rfl)
   exact ok_val (v:=.pointer (some ⟨W.heap.size,0,none⟩)) (by simp [execOp,go_sem,e1]) ⟨Below.refl _ _,rfl⟩
  case o2=>
   have e4:ev (.tmp 4)=.pointer (some ⟨W.heap.size,0,none⟩):=hD 1 4 (by kernel_rfl)
   have m0:=(hG.cell (p:=⟨W.heap.size,0,none⟩) hbl0).trans y0_0
   exact ok_val (v:=.string (bs name)) (by simp [execOp,go_sem,e4,m0]) ⟨Below.refl _ _,rfl⟩
  case o3=>
   have e5:ev (.tmp 5)=.string (bs name):=hD 2 5 (by kernel_rfl)
   refine ok_call (f:=93) (args:=#[.string (bs name)]) (by simp [execOp,go_sem,hc,hf,e5]) ?_
   have hlo':=Nat.le_trans hlo1 hG.size
   refine (sname_any (name) W' lo hlo').mono ?_
   rintro e W2 ⟨f,rfl,h1,h2⟩
   refine ⟨f,rfl,h2,?_⟩
   show Seq lo W2 f ([nmT (name)])
   exact h1
  case o4=>
   have e1:ev (.tmp 1)=.pointer (some ⟨W.heap.size,0,none⟩):=hr.tmp 1 (by kernel_rfl)
   exact ok_val (v:=.pointer (some ⟨W.heap.size,1,none⟩)) (by simp [execOp,go_sem,e1]) ⟨Below.refl _ _,rfl⟩
  case o5=>
   have e7:ev (.tmp 7)=.pointer (some ⟨W.heap.size,1,none⟩):=hD 4 7 (by kernel_rfl)
   have m0:=(hG.cell (p:=⟨W.heap.size,1,none⟩) hbl0).trans y0_1
   exact ok_val (v:=.slice pp ps.length cp) (by simp [execOp,go_sem,e7,m0]) ⟨Below.refl _ _,rfl⟩
  case o6=>
   have e8:ev (.tmp 8)=.slice pp ps.length cp:=hD 5 8 (by kernel_rfl)
   refine ok_call (f:=94) (args:=#[.slice pp ps.length cp]) (by simp [execOp,go_sem,hc,hf,e8]) ?_
   have hlo':=Nat.le_trans hlo1 hG.size
   refine (params_any _ (ps) hpl W' lo hlo' (BsR.later hPs hG) hP).mono ?_
   rintro e W2 ⟨f,rfl,h1,h2⟩
   refine ⟨f,rfl,h2,?_⟩
   show Seq lo W2 f (paramsT (ps))
   exact h1
  case o7=>
   have e1:ev (.tmp 1)=.pointer (some ⟨W.heap.size,0,none⟩):=hr.tmp 1 (by kernel_rfl)
   exact ok_val (v:=.pointer (some ⟨W.heap.size,2,none⟩)) (by simp [execOp,go_sem,e1]) ⟨Below.refl _ _,rfl⟩
  case o8=>
   have e10:ev (.tmp 10)=.pointer (some ⟨W.heap.size,2,none⟩):=hD 7 10 (by kernel_rfl)
   have m0:=(hG.cell (p:=⟨W.heap.size,2,none⟩) hbl0).trans y0_2
   exact ok_val (v:=.slice pt pts.length ct) (by simp [execOp,go_sem,e10,m0]) ⟨Below.refl _ _,rfl⟩
  case o9=>
   have e11:ev (.tmp 11)=.slice pt pts.length ct:=hD 8 11 (by kernel_rfl)
   refine ok_call (f:=96) (args:=#[.slice pt pts.length ct,.string { data:=#[44] },.func (.func 97) #[] #[]]) (by simp [execOp,go_sem,hc,hf,e11]) ?_
   have hlo':=Nat.le_trans hlo1 hG.size
   refine (eachP_any [44] (by decide) _ (pts) htl W' lo hlo' (PsR.later hTs hG) hT).mono ?_
   rintro e W2 ⟨f,rfl,h1,h2⟩
   refine ⟨f,rfl,h2,?_⟩
   show Seq lo W2 f (sepS [44] ((pts).map portT))
   exact h1
  case o10=>
   have s12:Seq lo W' (ev (.tmp 12)) (sepS [44] ((pts).map portT)):=hD 9 12 (by kernel_rfl)
   refine ok_call (f:=95) (args:=#[.string { data:=#[40,41] },ev (.tmp 12)]) (by simp [execOp,go_sem,hc,hf]) ?_
   have hlo':=Nat.le_trans hlo1 hG.size
   refine (in_any 40 41 _ _ W' lo hlo' s12).mono ?_
   rintro e W2 ⟨f,rfl,h1,h2⟩
   refine ⟨f,rfl,h2,?_⟩
   show Seq lo W2 f (inT 40 41 (sepS [44] ((pts).map portT)))
   exact h1
  case o11=>
   have e1:ev (.tmp 1)=.pointer (some ⟨W.heap.size,0,none⟩):=hr.tmp 1 (by kernel_rfl)
   exact ok_val (v:=.pointer (some ⟨W.heap.size,3,none⟩)) (by simp [execOp,go_sem,e1]) ⟨Below.refl _ _,rfl⟩
  case o12=>
   have e14:ev (.tmp 14)=.pointer (some ⟨W.heap.size,3,none⟩):=hD 11 14 (by kernel_rfl)
   have m0:=(hG.cell (p:=⟨W.heap.size,3,none⟩) hbl0).trans y0_3
   exact ok_val (v:=.slice pl l.length cl) (by simp [execOp,go_sem,e14,m0]) ⟨Below.refl _ _,rfl⟩
  case o13=>
   have e15:ev (.tmp 15)=.slice pl l.length cl:=hD 12 15 (by kernel_rfl)
   refine ok_call (f:=98) (args:=#[.slice pl l.length cl]) (by simp [execOp,go_sem,hc,hf,e15]) ?_
   have hlo':=Nat.le_trans hlo1 hG.size
   refine (items_any _ (l) hll W' lo hlo' (IsR.later hLs hG) hL).mono ?_
   rintro e W2 ⟨f,rfl,h1,h2⟩
   refine ⟨f,rfl,h2,?_⟩
   show Seq lo W2 f (cubT ((l).map itemT).flatten)
   exact h1
  case o14=>
   obtain ⟨g3,l3,e3,s3⟩:=seq_form (show Seq lo W' (ev (.tmp 3)) ([wdT [109,111,100,117,108,101]]) from hD 0 3 (by kernel_rfl))
   obtain ⟨g6,l6,e6,s6⟩:=seq_form (show Seq lo W' (ev (.tmp 6)) ([nmT (name)]) from hD 3 6 (by kernel_rfl))
   obtain ⟨g9,l9,e9,s9⟩:=seq_form (show Seq lo W' (ev (.tmp 9)) (paramsT (ps)) from hD 6 9 (by kernel_rfl))
   obtain ⟨g13,l13,e13,s13⟩:=seq_form (show Seq lo W' (ev (.tmp 13)) (inT 40 41 (sepS [44] ((pts).map portT))) from hD 10 13 (by kernel_rfl))
   obtain ⟨g16,l16,e16,s16⟩:=seq_form (show Seq lo W' (ev (.tmp 16)) (cubT ((l).map itemT).flatten) from hD 13 16 (by kernel_rfl))
   have hn:=seqs_new (lo:=lo) (W:=W') (fs:=[.func (.func g3) #[] l3,.func (.func g6) #[] l6,.func (.func g9) #[] l9,.func (.func g13) #[] l13,.func (.func g16) #[] l16]) (ls:=[[wdT [109,111,100,117,108,101]],[nmT (name)],paramsT (ps),inT 40 41 (sepS [44] ((pts).map portT)),cubT ((l).map itemT).flatten]) ⟨s3,s6,s9,s13,s16,trivial⟩ (Nat.le_trans hlo1 hG.size)
   exact ok_new (v:=.slice (some ⟨W'.heap.size,0,none⟩) 5 5) (W':=W'.alloc (.cells #[.func (.func g3) #[] l3,.func (.func g6) #[] l6,.func (.func g9) #[] l9,.func (.func g13) #[] l13,.func (.func g16) #[] l16] 79)) (by simp [execOp,go_sem,e3,e6,e9,e13,e16]) ⟨hn.2,hn.1⟩
  case o15=>
   have s17:Seqs lo W' (ev (.tmp 17)) [[wdT [109,111,100,117,108,101]],[nmT (name)],paramsT (ps),inT 40 41 (sepS [44] ((pts).map portT)),cubT ((l).map itemT).flatten]:=hD 14 17 (by kernel_rfl)
   refine ok_call (f:=91) (args:=#[ev (.tmp 17)]) (by simp [execOp,go_sem,hc,hf]) ?_
   have hlo':=Nat.le_trans hlo1 hG.size
   refine (row_any _ _ (by simp) W' lo hlo' s17).mono ?_
   rintro e W2 ⟨f,rfl,h1,h2⟩
   refine ⟨f,rfl,h2,?_⟩
   show Seq lo W2 f (List.flatten [[wdT [109,111,100,117,108,101]],[nmT (name)],paramsT (ps),inT 40 41 (sepS [44] ((pts).map portT)),cubT ((l).map itemT).flatten])
   exact h1
  case o16=>
   have s18:Seq lo W' (ev (.tmp 18)) (List.flatten [[wdT [109,111,100,117,108,101]],[nmT (name)],paramsT (ps),inT 40 41 (sepS [44] ((pts).map portT)),cubT ((l).map itemT).flatten]):=hD 15 18 (by kernel_rfl)
   exact ok_val (v:=ev (.tmp 18)) (by simp [execOp,go_sem]) ⟨Below.refl _ _,s18⟩
 case hfin=>
  intro zz W' hG hzz
  have h9:Seq lo W' (zz 16) (List.flatten [[wdT [109,111,100,117,108,101]],[nmT (name)],paramsT (ps),inT 40 41 (sepS [44] ((pts).map portT)),cubT ((l).map itemT).flatten]):=hzz 16 (by simp)
  simp only [putAll,Act.put,List.setIfInBounds_toArray,List.set_cons_zero,List.set_cons_succ]
  go_wp2_with fail
  go_ret
  refine ⟨_,rfl,?_,hW1.trans (Below.mono hG (by omega))⟩
  exact h9
theorem bind_ok (b:Bd) (h:okB b=true) (hs:sizeB b≤1000000):BindOK b:=by
 unfold okB at h
 unfold sizeB at hs
 rw [Bool.and_eq_true] at h
 exact bind_any b (expr_ok b.x h.2 (by omega))
theorem port_ok (b:Pt) (h:okP b=true) (hs:sizeP b≤1000000):PortOK b:=by
 unfold okP at h
 unfold sizeP at hs
 rw [Bool.and_eq_true] at h
 exact port_any b (expr_ok b.w h.2 (by omega))
theorem one_sizeB (b:Bd):1≤sizeB b:=by unfold sizeB;omega
theorem one_sizeP (b:Pt):1≤sizeP b:=by unfold sizeP;omega
theorem sizeI_eq (t:It):sizeI t=sumN sizeX t.x+sumN sizeS t.s+sumN sizeI t.l+sumN sizeI t.e+sumN sizeB t.ps+sumN sizeB t.bs+1:=by
 cases t;rw [sizeI,sizeXs_sum,sizeSs_sum,sizeIs_sum,sizeIs_sum];rfl
theorem itemT_eq (op:Int) (name f:Ln) (x:List X) (s:List S) (l e:List It) (ps bb:List Bd):itemT (.mk op name f x s l e ps bb)=itT op name f x s e ps bb (l.map itemT) (e.map itemT):=by
 rw [itemT,itemsT_map,itemsT_map]
theorem xs_rows {W:World} {n c:Nat} {p:Option Addr} {x:List X} (h:XsR W (.slice p n c) x) (h0:x ≠ []):∃ q o,p=some ⟨q,o,none⟩∧q<W.heap.size∧Spl.Rows W 6 (XR W) q o x:=by
 obtain ⟨p',c',h1,_,h2⟩:=h
 cases h1
 rcases h2 with h2 | ⟨b,o,h3,h4,h5⟩
 ·exact absurd h2 h0
 ·exact ⟨b,o,h3,h4,h5⟩
theorem two_of {x:List X} (h:x.length=2):∃ a b,x=[a,b]:=by
 match x,h with
 | [a,b],_=>exact ⟨a,b,rfl⟩
theorem one_of {x:List X} (h:x.length=1):∃ a,x=[a]:=by
 match x,h with
 | [a],_=>exact ⟨a,rfl⟩
theorem item_ok:∀ t:It,okI t=true→sizeI t≤1000000→ItemOK t:=by
 refine It.ind ?_
 intro t ihl ihe ht hsz W lo cs hlo hR
 obtain ⟨op,name,fo,x,s,l,e,ps,bb⟩:=t
 have ht':=ht
 rw [okI_iff] at ht'
 rw [sizeI_eq] at hsz
 obtain ⟨vx,vs,vl,ve,vp,vb,rfl,hX,hS,hP,hB,hL,hEe⟩:=IR_iff.1 hR
 simp only [It.op,It.name,It.of,It.x,It.s,It.l,It.e,It.ps,It.bs,Bool.and_eq_true,List.all_eq_true] at *
 obtain ⟨⟨⟨⟨⟨⟨h0,hx⟩,hs⟩,hl⟩,he⟩,hp⟩,hb⟩:=ht'
 have hE:∀ y ∈ x,ExprOK y:=fun y hy=>expr_ok y (hx y hy) (by have:=sumN_mem sizeX hy;omega)
 have hSS:∀ put:Ln,put ≠ []→∀ y ∈ s,StmtOK put y:=fun put hput y hy=>stmt_ok put hput y (by have:=hs;rw [okSs_all,List.all_eq_true] at this;exact this y hy) (by have:=sumN_mem sizeS hy;omega)
 have hLL:∀ y ∈ l,ItemOK y:=fun y hy=>ihl y hy (hl y hy) (by have:=sumN_mem sizeI hy;omega)
 have hEE:∀ y ∈ e,ItemOK y:=fun y hy=>ihe y hy (he y hy) (by have:=sumN_mem sizeI hy;omega)
 have hPP:∀ y ∈ ps,BindOK y:=fun y hy=>bind_ok y (hp y hy) (by have:=sumN_mem sizeB hy;omega)
 have hBB:∀ y ∈ bb,BindOK y:=fun y hy=>bind_ok y (hb y hy) (by have:=sumN_mem sizeB hy;omega)
 have hxl:x.length≤1000000:=by have:=sumN_len sizeX one_sizeX x;omega
 have hsl:s.length≤1000000:=by have:=sumN_len sizeS one_sizeS s;omega
 have hll:l.length≤1000000:=by have:=sumN_len sizeI one_sizeI l;omega
 have hel:e.length≤1000000:=by have:=sumN_len sizeI one_sizeI e;omega
 have hpl:ps.length≤1000000:=by have:=sumN_len sizeB one_sizeB ps;omega
 have hbl:bb.length≤1000000:=by have:=sumN_len sizeB one_sizeB bb;omega
 have hX0:=hX
 have hS0:=hS
 have hP0:=hP
 have hB0:=hB
 have hL0:=hL
 have hE0:=hEe
 obtain ⟨px,cx,rfl,_,_⟩:=hX
 obtain ⟨pq,cq,rfl,_,_⟩:=hS
 obtain ⟨pp,cp,rfl,_,_⟩:=hP
 obtain ⟨pb,cb,rfl,_,_⟩:=hB
 obtain ⟨pl,cl,rfl,_,_⟩:=hL
 obtain ⟨pe,ce,rfl,_,_⟩:=hEe
 rw [itemT_eq]
 unfold okIt at h0
 simp only [Bool.and_eq_true,decide_eq_true_eq,beq_iff_eq] at h0
 obtain ⟨⟨⟨⟨⟨⟨⟨⟨⟨ho1,ho2⟩,_⟩,_⟩,hc⟩,_⟩,_⟩,_⟩,_⟩,_⟩:=h0
 have hop:op=1∨op=2∨op=3∨op=4∨op=5∨op=6∨op=7∨op=8∨op=9∨op=10:=by omega
 rcases hop with h | h | h | h | h | h | h | h | h | h <;> subst h
 ·have hx1:x.length=1:=by simpa [countI] using hc
  obtain ⟨q,o,rfl,hq,hr⟩:=xs_rows hX0 (by intro h;rw [h] at hx1;cases hx1)
  rw [hx1]
  have:=item_const name fo x s l e ps bb (some ⟨q,o,none⟩) pq pl pe pp pb cx cq cl ce cp cb W lo hlo hx1 hE q o hq hr
  obtain ⟨a,rfl⟩:=one_of hx1
  exact (show itT 1 name fo [a] s e ps bb (l.map itemT) (e.map itemT)=List.flatten ([[wdT [99,111,110,115,116]],[nmT name]] ++ zipT [[61]] [a] ++ [[sgT [59]]]) by simp [itT,zipT,listT_one]) ▸ this
 ·have hx1:x.length=1:=by simpa [countI] using hc
  obtain ⟨q,o,rfl,hq,hr⟩:=xs_rows hX0 (by intro h;rw [h] at hx1;cases hx1)
  rw [hx1]
  have:=item_wire name fo x s l e ps bb (some ⟨q,o,none⟩) pq pl pe pp pb cx cq cl ce cp cb W lo hlo hx1 hE q o hq hr
  obtain ⟨a,rfl⟩:=one_of hx1
  exact (show itT 2 name fo [a] s e ps bb (l.map itemT) (e.map itemT)=List.flatten ([[wdT [119,105,114,101]],[nmT name]] ++ zipT [[58]] [a] ++ [[sgT [59]]]) by simp [itT,zipT,listT_one]) ▸ this
 ·have hx1:x.length=2:=by simpa [countI] using hc
  obtain ⟨q,o,rfl,hq,hr⟩:=xs_rows hX0 (by intro h;rw [h] at hx1;cases hx1)
  rw [hx1]
  have:=item_reg name fo x s l e ps bb (some ⟨q,o,none⟩) pq pl pe pp pb cx cq cl ce cp cb W lo hlo hx1 hE q o hq hr
  obtain ⟨a,b,rfl⟩:=two_of hx1
  exact (show itT 3 name fo [a,b] s e ps bb (l.map itemT) (e.map itemT)=List.flatten ([[wdT [114,101,103]],[nmT name]] ++ zipT [[58],[61]] [a,b] ++ [[sgT [59]]]) by simp [itT,zipT,sepS]) ▸ this
 ·have:=item_assign name fo x s l e ps bb px pq pl pe pp pb cx cq cl ce cp cb W lo hlo hxl hX0 hE
  exact (show itT 4 name fo x s e ps bb (l.map itemT) (e.map itemT)=List.flatten [[wdT [97,115,115,105,103,110]],sepS [61] (x.map exprT),[sgT [59]]] by simp [itT]) ▸ this
 ·have:=item_comb name fo x s l e ps bb px pq pl pe pp pb cx cq cl ce cp cb W lo hlo hsl hS0 (hSS [61] (by simp))
  exact (show itT 5 name fo x s e ps bb (l.map itemT) (e.map itemT)=List.flatten [[wdT [99,111,109,98]],blockT [61] s] by simp [itT]) ▸ this
 ·have:=item_tick name fo x s l e ps bb px pq pl pe pp pb cx cq cl ce cp cb W lo hlo hsl hS0 (hSS [60,61] (by simp))
  exact (show itT 6 name fo x s e ps bb (l.map itemT) (e.map itemT)=List.flatten [[wdT [111,110]],[wdT [116,105,99,107]],blockT [60,61] s] by simp [itT]) ▸ this
 ·have:=item_inst name fo x s l e ps bb px pq pl pe pp pb cx cq cl ce cp cb W lo hlo hpl hP0 hPP hbl hB0 hBB
  exact (show itT 7 name fo x s e ps bb (l.map itemT) (e.map itemT)=List.flatten [[wdT [105,110,115,116]],[nmT name],[sgT [58]],[nmT fo],paramsT ps,inT 40 41 (sepS [44] (bb.map bindT)),[sgT [59]]] by simp [itT,bindsT,parT,inT]) ▸ this
 ·have hx1:x.length=1:=by simpa [countI] using hc
  obtain ⟨q,o,rfl,hq,hr⟩:=xs_rows hX0 (by intro h;rw [h] at hx1;cases hx1)
  obtain ⟨a,rfl⟩:=one_of hx1
  have za:XAt W q o a:=kidsX hr 0 a rfl
  by_cases he0:e=[]
  ·subst he0
   have:=item_if_none name fo [a] s l [] ps bb (some ⟨q,o,none⟩) pq pl pe pp pb cx cq cl ce cp cb W lo hlo a (hE a (by simp)) hll hL0 hLL q o hq za
   exact (show itT 8 name fo [a] s [] ps bb (l.map itemT) (([]:List It).map itemT)=List.flatten [[wdT [105,102]],inT 40 41 (exprT a),cubT (l.map itemT).flatten] by simp [itT,listT_one,parT,inT,ifW]) ▸ this
  ·have:=item_if_some name fo [a] s l e ps bb (some ⟨q,o,none⟩) pq pl pe pp pb cx cq cl ce cp cb W lo hlo a (hE a (by simp)) hll hL0 hLL hel he0 hE0 hEE q o hq za
   exact (show itT 8 name fo [a] s e ps bb (l.map itemT) (e.map itemT)=List.flatten [[wdT [105,102]],inT 40 41 (exprT a),cubT (l.map itemT).flatten,[wdT [101,108,115,101]],cubT (e.map itemT).flatten] by simp [itT,listT_one,parT,inT,ifW,elseW,he0]) ▸ this
 ·have:=item_for name fo x s l e ps bb px pq pl pe pp pb cx cq cl ce cp cb W lo hlo hxl hX0 hE hll hL0 hLL
  exact (show itT 9 name fo x s e ps bb (l.map itemT) (e.map itemT)=List.flatten [[wdT [102,111,114]],[nmT name],spanT fo x,cubT (l.map itemT).flatten] by simp [itT,forW]) ▸ this
 ·have hx1:x.length=1:=by simpa [countI] using hc
  obtain ⟨q,o,rfl,hq,hr⟩:=xs_rows hX0 (by intro h;rw [h] at hx1;cases hx1)
  rw [hx1]
  have:=item_check name fo x s l e ps bb (some ⟨q,o,none⟩) pq pl pe pp pb cx cq cl ce cp cb W lo hlo hx1 hE q o hq hr
  obtain ⟨a,rfl⟩:=one_of hx1
  exact (show itT 10 name fo [a] s e ps bb (l.map itemT) (e.map itemT)=List.flatten ([[wdT [99,104,101,99,107]],[nmT name]] ++ zipT [[58]] [a] ++ [[sgT [59]]]) by simp [itT,zipT,listT_one]) ▸ this
theorem module_ok (m:Md) (h:okM m=true) (hsz:sizeM m≤1000000):ModuleOK m:=by
 intro W lo cs hlo hR
 obtain ⟨vp,vt,vi,rfl,hP,hT,hL⟩:=hR
 unfold okM at h
 unfold sizeM at hsz
 rw [sizeIs_sum] at hsz
 rw [okIs_all] at h
 simp only [Bool.and_eq_true,List.all_eq_true] at h
 obtain ⟨⟨⟨_,hp⟩,ht⟩,hl⟩:=h
 have hP0:=hP
 have hT0:=hT
 have hL0:=hL
 obtain ⟨pp,cp,rfl,_,_⟩:=hP
 obtain ⟨pt,ct,rfl,_,_⟩:=hT
 obtain ⟨pl,cl,rfl,_,_⟩:=hL
 have:=module_any m.name m.ps m.pts m.l pp pt pl cp ct cl W lo hlo (by have:=sumN_len sizeB one_sizeB m.ps;omega) hP0 (fun y hy=>bind_ok y (hp y hy) (by have:=sumN_mem sizeB hy;omega)) (by have:=sumN_len sizeP one_sizeP m.pts;omega) hT0 (fun y hy=>port_ok y (ht y hy) (by have:=sumN_mem sizeP hy;omega)) (by have:=sumN_len sizeI one_sizeI m.l;omega) hL0 (fun y hy=>item_ok y (hl y hy) (by have:=sumN_mem sizeI hy;omega))
 exact (show moduleT m=List.flatten [[wdT [109,111,100,117,108,101]],[nmT m.name],paramsT m.ps,inT 40 41 (sepS [44] (m.pts.map portT)),cubT (m.l.map itemT).flatten] by simp [moduleT,parT,inT,itemsT_map]) ▸ this
end Go.Proofs.YtlcfpdmicpggbaaGreatDoor
