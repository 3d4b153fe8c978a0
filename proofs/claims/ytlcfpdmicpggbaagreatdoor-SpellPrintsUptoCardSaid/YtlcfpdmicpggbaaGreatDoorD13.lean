/- Texts of the seat, merged. -/
import Derived.Test.YtlcfpdmicpggbaaGreatDoorD12
set_option linter.unusedVariables false
set_option linter.unusedSimpArgs false
set_option maxRecDepth 100000
set_option maxHeartbeats 16000000
namespace Go.Proofs.YtlcfpdmicpggbaaGreatDoor
open Go.Lib (hid)
open Go.RowKit Go.Proofs.Spl Go.Proofs.Scn Go.Shelf Go.Grow
theorem stmt_assign (put:Ln) (hput:put ≠ []) (name:Ln) (x:List X) (hxl:x.length≤1000000) (hE:∀ y ∈ x,ExprOK y) (px pl:Option Addr) (k cx cl:Nat) (W:World) (lo:Nat) (hlo:lo≤W.heap.size) (hXs0:XsR W (.slice px x.length cx) x) :
  Calls Tryz.prog 60 #[.agg #[.string (bs put)],.agg #[.int .i64 1,.string (bs name),.slice px x.length cx,.slice pl k cl]] W (MkPost lo W (List.flatten [sepS put (x.map exprT),[sgT [59]]])):=by
 have HX:=hid hXs0
 have HE:=hid hE
 clear hE hXs0
 have HP:=hid hput
 clear hput
 have HRW:=hid (fun (W9:World) (v:Value) (h1:lo≤W9.heap.size) (h2:Seqs lo W9 v [sepS put (x.map exprT),[sgT [59]]])=>row_any v _ (by simp) W9 lo h1 h2)
 have B1:=hid (two_boxes W (.cells #[.string (bs put)] 91) (.cells #[.int .i64 1,.string (bs name),.slice px x.length cx,.slice pl k cl] 31)).2.2.2
 go_enter Tryz.func60,Tryz.ntmps60
 go_wp2_with (first
  | (go_at_call 105;refine (eachX_any put HP.out _ x hxl _ lo (Nat.le_trans hlo B1.out.size) (XsR.later HX.out B1.out) HE.out).mono ?_;rintro e W4 ⟨f,rfl,h1,h2⟩;obtain ⟨g4,l4,rfl,h3⟩:=seq_form h1;clear h1;have B4:=hid (B1.out.trans (h2.mono B1.out.size));have S4:=hid h3;clear h2 h3)
  | (go_at_call 90;refine (ssign_any [59] _ lo (Nat.le_trans hlo B4.out.size)).mono ?_;rintro e W3 ⟨f,rfl,h1,h2⟩;obtain ⟨g3,l3,rfl,h3⟩:=seq_form h1;clear h1;have B3:=hid (B4.out.trans (h2.mono B4.out.size));have hn:=seqs_new (lo:=lo) (W:=W3) (fs:=[.func (.func g4) #[] l4,.func (.func g3) #[] l3]) (ls:=[sepS put (x.map exprT),[sgT [59]]]) ⟨S4.out.later (Nat.le_refl _) (KeptL.of_below h2),h3,trivial⟩ (Nat.le_trans hlo B3.out.size);have HN:=hid hn;clear h2 h3 hn)
  | (go_at_call 91;refine (HRW.out _ _ (Nat.le_trans hlo (Nat.le_trans B3.out.size HN.out.2.size)) HN.out.1).mono ?_;rintro e W5 ⟨f,rfl,h1,h2⟩;have B5:=hid ((B3.out.trans (HN.out.2.mono B3.out.size)).trans (h2.mono (Nat.le_trans B3.out.size HN.out.2.size)));have S5:=hid h1;clear h1 h2))
 go_ret
 exact ⟨_,rfl,S5.out,B5.out⟩
theorem stmt_block (put:Ln) (name:Ln) (l:List S) (hll:l.length≤1000000) (hS:∀ y ∈ l,StmtOK put y) (px pl:Option Addr) (k cx cl:Nat) (W:World) (lo:Nat) (hlo:lo≤W.heap.size) (hSs0:SsR W (.slice pl l.length cl) l) :
  Calls Tryz.prog 60 #[.agg #[.string (bs put)],.agg #[.int .i64 5,.string (bs name),.slice px k cx,.slice pl l.length cl]] W (MkPost lo W (blockT put l)):=by
 have HX:=hid hSs0
 have HE:=hid hS
 clear hS hSs0
 have B1:=hid (two_boxes W (.cells #[.string (bs put)] 91) (.cells #[.int .i64 5,.string (bs name),.slice px k cx,.slice pl l.length cl] 31)).2.2.2
 go_enter Tryz.func60,Tryz.ntmps60
 go_wp2_with (go_at_call 122;refine (block_any put _ l hll _ lo (Nat.le_trans hlo B1.out.size) (SsR.later HX.out B1.out) HE.out).mono ?_;rintro e W4 ⟨f,rfl,h1,h2⟩;have B4:=hid (B1.out.trans (h2.mono B1.out.size));have S4:=hid h1;clear h1 h2)
 go_ret
 exact ⟨_,rfl,S4.out,B4.out⟩
theorem stmt_for (put name:Ln) (x:List X) (l:List S) (hxl:x.length≤1000000) (hll:l.length≤1000000) (hE:∀ y ∈ x,ExprOK y) (hS:∀ y ∈ l,StmtOK put y) (px pl:Option Addr) (cx cl:Nat) (W:World) (lo:Nat) (hlo:lo≤W.heap.size)
  (hXs0:XsR W (.slice px x.length cx) x) (hSs0:SsR W (.slice pl l.length cl) l) :
  Calls Tryz.prog 60 #[.agg #[.string (bs put)],.agg #[.int .i64 6,.string (bs name),.slice px x.length cx,.slice pl l.length cl]] W (MkPost lo W (List.flatten [[wdT forW],spanT name x,blockT put l])):=by
 go_enter Tryz.func60,Tryz.ntmps60
 go_wp2_with fail
 obtain ⟨hbx0,hbx1,hls,hW1⟩:=two_boxes W (.cells #[.string (bs put)] 91) (.cells #[.int .i64 6,.string (bs name),.slice px x.length cx,.slice pl l.length cl] 31)
 generalize (W.alloc (.cells #[.string (bs put)] 91)).alloc (.cells #[.int .i64 6,.string (bs name),.slice px x.length cx,.slice pl l.length cl] 31)=W1 at *
 have hlo1:lo≤W1.heap.size:=by omega
 have hbl0:W.heap.size<W1.heap.size:=by omega
 have y0_0:=box_at hbx0 0 (v:=.string (bs put)) rfl
 have hbl1:W.heap.size+1<W1.heap.size:=by omega
 have y1_1:=box_at hbx1 1 (v:=.string (bs name)) rfl
 have y1_2:=box_at hbx1 2 (v:=.slice px x.length cx) rfl
 have y1_3:=box_at hbx1 3 (v:=.slice pl l.length cl) rfl
 clear hls hbx0 hbx1
 have hXs:=XsR.later hXs0 hW1
 have hSs:=SsR.later hSs0 hW1
 refine region_grow Grw (spcAt lo [.seq ([wdT [102,111,114]]),.is (.pointer (some ⟨W.heap.size+1,1,none⟩)),.is (.string (bs name)),.is (.pointer (some ⟨W.heap.size+1,2,none⟩)),.is (.slice px x.length cx),.seq (spanT (name) (x)),.is (.agg #[.string (bs put)]),.is (.pointer (some ⟨W.heap.size+1,3,none⟩)),.is (.slice pl l.length cl),.seq (blockT (put) (l)),.seqs [[wdT [102,111,114]],spanT (name) (x),blockT (put) (l)],.seq (List.flatten [[wdT [102,111,114]],spanT (name) (x),blockT (put) (l)]),.seq (List.flatten [[wdT [102,111,114]],spanT (name) (x),blockT (put) (l)])])
  (by kernel_rfl) rfl (by kernel_rfl) (by kernel_rfl) (grw_drawn _) grw_trans (spcAt_grw lo _) ?hops ?hfin
 case hops=>
  refine ⟨?o0,?o1,?o2,?o3,?o4,?o5,?o6,?o7,?o8,?o9,?o10,?o11,?o12,trivial⟩
  all_goals (intro ev W' hG hr hD;have hc:=hr.const;have hf:=hr.func)
  case o0=>
   exact ok_call (f:=92) (args:=#[.string { data:=#[102,111,114] }]) (by simp [execOp,go_sem,hc,hf]) (mkp (sword_any [102,111,114] W' lo (Nat.le_trans hlo1 hG.size)))
  case o1=>
   have e3:ev (.tmp 3)=.pointer (some ⟨W.heap.size+1,0,none⟩):=hr.tmp 3 (by kernel_rfl)
   exact ok_val (by simp [execOp,go_sem,e3]) ⟨Below.refl _ _,rfl⟩
  case o2=>
   have e77:ev (.tmp 77)=_:=hD 1 77 (by kernel_rfl)
   have m0:=(hG.cell (p:=⟨W.heap.size+1,1,none⟩) hbl1).trans y1_1
   exact ok_val (by simp [execOp,go_sem,e77,m0]) ⟨Below.refl _ _,rfl⟩
  case o3=>
   have e3:ev (.tmp 3)=.pointer (some ⟨W.heap.size+1,0,none⟩):=hr.tmp 3 (by kernel_rfl)
   exact ok_val (by simp [execOp,go_sem,e3]) ⟨Below.refl _ _,rfl⟩
  case o4=>
   have e79:ev (.tmp 79)=_:=hD 3 79 (by kernel_rfl)
   have m0:=(hG.cell (p:=⟨W.heap.size+1,2,none⟩) hbl1).trans y1_2
   exact ok_val (by simp [execOp,go_sem,e79,m0]) ⟨Below.refl _ _,rfl⟩
  case o5=>
   have e78:ev (.tmp 78)=_:=hD 2 78 (by kernel_rfl)
   have e80:ev (.tmp 80)=_:=hD 4 80 (by kernel_rfl)
   exact ok_call (f:=121) (args:=#[.string (bs name),.slice px x.length cx]) (by simp [execOp,go_sem,hc,hf,e78,e80]) (mkp (span_any (name) _ (x) hxl W' lo (Nat.le_trans hlo1 hG.size) (XsR.later hXs hG) hE))
  case o6=>
   have e2:ev (.tmp 2)=.pointer (some ⟨W.heap.size,0,none⟩):=hr.tmp 2 (by kernel_rfl)
   have m0:=(hG.cell (p:=⟨W.heap.size,0,none⟩) hbl0).trans y0_0
   exact ok_val (by simp [execOp,go_sem,e2,m0]) ⟨Below.refl _ _,rfl⟩
  case o7=>
   have e3:ev (.tmp 3)=.pointer (some ⟨W.heap.size+1,0,none⟩):=hr.tmp 3 (by kernel_rfl)
   exact ok_val (by simp [execOp,go_sem,e3]) ⟨Below.refl _ _,rfl⟩
  case o8=>
   have e83:ev (.tmp 83)=_:=hD 7 83 (by kernel_rfl)
   have m0:=(hG.cell (p:=⟨W.heap.size+1,3,none⟩) hbl1).trans y1_3
   exact ok_val (by simp [execOp,go_sem,e83,m0]) ⟨Below.refl _ _,rfl⟩
  case o9=>
   have e82:ev (.tmp 82)=_:=hD 6 82 (by kernel_rfl)
   have e84:ev (.tmp 84)=_:=hD 8 84 (by kernel_rfl)
   exact ok_call (f:=122) (args:=#[.agg #[.string (bs put)],.slice pl l.length cl]) (by simp [execOp,go_sem,hc,hf,e82,e84]) (mkp (block_any (put) _ (l) hll W' lo (Nat.le_trans hlo1 hG.size) (SsR.later hSs hG) hS))
  case o10=>
   obtain ⟨g76,l76,e76,s76⟩:=seq_form (show Seq lo W' (ev (.tmp 76)) _ from hD 0 76 (by kernel_rfl))
   obtain ⟨g81,l81,e81,s81⟩:=seq_form (show Seq lo W' (ev (.tmp 81)) _ from hD 5 81 (by kernel_rfl))
   obtain ⟨g85,l85,e85,s85⟩:=seq_form (show Seq lo W' (ev (.tmp 85)) _ from hD 9 85 (by kernel_rfl))
   have hn:=seqs_new (lo:=lo) (W:=W') (fs:=[.func (.func g76) #[] l76,.func (.func g81) #[] l81,.func (.func g85) #[] l85]) (ls:=[[wdT [102,111,114]],spanT (name) (x),blockT (put) (l)]) ⟨s76,s81,s85,trivial⟩ (Nat.le_trans hlo1 hG.size)
   exact ok_new (v:=.slice (some ⟨W'.heap.size,0,none⟩) 3 3) (W':=W'.alloc (.cells #[.func (.func g76) #[] l76,.func (.func g81) #[] l81,.func (.func g85) #[] l85] 79)) (by simp [execOp,go_sem,e76,e81,e85]) ⟨hn.2,hn.1⟩
  case o11=>
   have s86:Seqs lo W' (ev (.tmp 86)) _:=hD 10 86 (by kernel_rfl)
   exact ok_call (f:=91) (args:=#[ev (.tmp 86)]) (by simp [execOp,go_sem,hc,hf]) (mkp (row_any _ _ (by simp) W' lo (Nat.le_trans hlo1 hG.size) s86))
  case o12=>
   have s87:Seq lo W' (ev (.tmp 87)) _:=hD 11 87 (by kernel_rfl)
   exact ok_val (by simp [execOp,go_sem]) ⟨Below.refl _ _,s87⟩
 case hfin=>
  intro zz W' hG hzz
  have h9:Seq lo W' (zz 12) (List.flatten [[wdT [102,111,114]],spanT (name) (x),blockT (put) (l)]):=hzz 12 (by simp)
  simp only [putAll,Act.put,List.setIfInBounds_toArray,List.set_cons_zero,List.set_cons_succ]
  go_wp2_with fail
  go_ret
  refine ⟨_,rfl,?_,hW1.trans (Below.mono hG (by omega))⟩
  exact h9
theorem stmt_case (W:World) (put name:Ln) (xa:X) (l:List S) (hll:l.length≤1000000) (iha:ExprOK xa) (hS:∀ y ∈ l,ArmOK put y) (q off:Nat) (hq0:q<W.heap.size) (pl:Option Addr) (cx cl:Nat) (lo:Nat) (hlo:lo≤W.heap.size)
  (za:XAt W q off xa) (hSs0:SsR W (.slice pl l.length cl) l) :
  Calls Tryz.prog 60 #[.agg #[.string (bs put)],.agg #[.int .i64 3,.string (bs name),.slice (some ⟨q,off,none⟩) 1 cx,.slice pl l.length cl]] W (MkPost lo W (List.flatten [[wdT caseW],inT 40 41 (exprT xa),inT 123 125 (l.map (stmtT put)).flatten])):=by
 go_enter Tryz.func60,Tryz.ntmps60
 go_wp2_with fail
 obtain ⟨hbx0,hbx1,hls,hW1⟩:=two_boxes W (.cells #[.string (bs put)] 91) (.cells #[.int .i64 3,.string (bs name),.slice (some ⟨q,off,none⟩) 1 cx,.slice pl l.length cl] 31)
 generalize (W.alloc (.cells #[.string (bs put)] 91)).alloc (.cells #[.int .i64 3,.string (bs name),.slice (some ⟨q,off,none⟩) 1 cx,.slice pl l.length cl] 31)=W1 at *
 have hlo1:lo≤W1.heap.size:=by omega
 have hbl0:W.heap.size<W1.heap.size:=by omega
 have y0_0:=box_at hbx0 0 (v:=.string (bs put)) rfl
 have hbl1:W.heap.size+1<W1.heap.size:=by omega
 have y1_2:=box_at hbx1 2 (v:=.slice (some ⟨q,off,none⟩) 1 cx) rfl
 have y1_3:=box_at hbx1 3 (v:=.slice pl l.length cl) rfl
 clear hls hbx0 hbx1
 have hSs:=SsR.later hSs0 hW1
 have hq1:q<W1.heap.size:=Nat.lt_of_lt_of_le hq0 hW1.size
 obtain ⟨pa,ca,a0,a1,a2,a3,a4,a5,Xa⟩:=XAt.later za hq0 hW1
 refine region_grow Grw (spcAt lo [.seq ([wdT [99,97,115,101]]),.is (.pointer (some ⟨W.heap.size+1,2,none⟩)),.is (.slice (some ⟨q,off,none⟩) 1 cx),.is (.pointer (some ⟨q,off,none⟩)),.is (.agg #[.int .i64 xa.op,.string (bs xa.name),.int .i64 xa.n,.int .i64 xa.w,.int .u64 xa.v,.slice pa xa.l.length ca]),.seq (exprT (xa)),.seq (inT 40 41 (exprT (xa))),.is (.pointer (some ⟨W.heap.size+1,3,none⟩)),.is (.slice pl l.length cl),.is (.agg #[.string (bs put)]),.is (.func (.func 120) #[.agg #[.string (bs put)]] #[]),.seq (((l).map (stmtT (put))).flatten),.seq (inT 123 125 (((l).map (stmtT (put))).flatten)),.seqs [[wdT [99,97,115,101]],inT 40 41 (exprT (xa)),inT 123 125 (((l).map (stmtT (put))).flatten)],.seq (List.flatten [[wdT [99,97,115,101]],inT 40 41 (exprT (xa)),inT 123 125 (((l).map (stmtT (put))).flatten)]),.seq (List.flatten [[wdT [99,97,115,101]],inT 40 41 (exprT (xa)),inT 123 125 (((l).map (stmtT (put))).flatten)])])
  (by kernel_rfl) rfl (by kernel_rfl) (by kernel_rfl) (grw_drawn _) grw_trans (spcAt_grw lo _) ?hops ?hfin
 case hops=>
  refine ⟨?o0,?o1,?o2,?o3,?o4,?o5,?o6,?o7,?o8,?o9,?o10,?o11,?o12,?o13,?o14,?o15,trivial⟩
  all_goals (intro ev W' hG hr hD;have hc:=hr.const;have hf:=hr.func)
  case o0=>
   exact ok_call (f:=92) (args:=#[.string { data:=#[99,97,115,101] }]) (by simp [execOp,go_sem,hc,hf]) (mkp (sword_any [99,97,115,101] W' lo (Nat.le_trans hlo1 hG.size)))
  case o1=>
   have e3:ev (.tmp 3)=.pointer (some ⟨W.heap.size+1,0,none⟩):=hr.tmp 3 (by kernel_rfl)
   exact ok_val (by simp [execOp,go_sem,e3]) ⟨Below.refl _ _,rfl⟩
  case o2=>
   have e60:ev (.tmp 60)=_:=hD 1 60 (by kernel_rfl)
   have m0:=(hG.cell (p:=⟨W.heap.size+1,2,none⟩) hbl1).trans y1_2
   exact ok_val (by simp [execOp,go_sem,e60,m0]) ⟨Below.refl _ _,rfl⟩
  case o3=>
   have e61:ev (.tmp 61)=_:=hD 2 61 (by kernel_rfl)
   exact ok_val (by simp [execOp,go_sem,e61,hc]) ⟨Below.refl _ _,rfl⟩
  case o4=>
   have e62:ev (.tmp 62)=_:=hD 3 62 (by kernel_rfl)
   obtain ⟨m0,m1,m2,m3,m4,m5⟩:=six_later hG hq1 a0 a1 a2 a3 a4 a5
   exact ok_val (by simp [execOp,go_sem,e62,m0,m1,m2,m3,m4,m5]) ⟨Below.refl _ _,rfl⟩
  case o5=>
   have e63:ev (.tmp 63)=_:=hD 4 63 (by kernel_rfl)
   exact ok_call (f:=56) (args:=#[.agg #[.int .i64 xa.op,.string (bs xa.name),.int .i64 xa.n,.int .i64 xa.w,.int .u64 xa.v,.slice pa xa.l.length ca]]) (by simp [execOp,go_sem,hc,hf,e63]) (mkp (iha W' lo _ (Nat.le_trans hlo1 hG.size) (XR.later hG _ _ Xa)))
  case o6=>
   have s64:Seq lo W' (ev (.tmp 64)) _:=hD 5 64 (by kernel_rfl)
   exact ok_call (f:=95) (args:=#[.string { data:=#[40,41] },ev (.tmp 64)]) (by simp [execOp,go_sem,hc,hf]) (mkp (in_any 40 41 _ _ W' lo (Nat.le_trans hlo1 hG.size) s64))
  case o7=>
   have e3:ev (.tmp 3)=.pointer (some ⟨W.heap.size+1,0,none⟩):=hr.tmp 3 (by kernel_rfl)
   exact ok_val (by simp [execOp,go_sem,e3]) ⟨Below.refl _ _,rfl⟩
  case o8=>
   have e66:ev (.tmp 66)=_:=hD 7 66 (by kernel_rfl)
   have m0:=(hG.cell (p:=⟨W.heap.size+1,3,none⟩) hbl1).trans y1_3
   exact ok_val (by simp [execOp,go_sem,e66,m0]) ⟨Below.refl _ _,rfl⟩
  case o9=>
   have e2:ev (.tmp 2)=.pointer (some ⟨W.heap.size,0,none⟩):=hr.tmp 2 (by kernel_rfl)
   have m0:=(hG.cell (p:=⟨W.heap.size,0,none⟩) hbl0).trans y0_0
   exact ok_val (by simp [execOp,go_sem,e2,m0]) ⟨Below.refl _ _,rfl⟩
  case o10=>
   have e68:ev (.tmp 68)=_:=hD 9 68 (by kernel_rfl)
   exact ok_val (by simp [execOp,go_sem,hc,e68];try rfl) ⟨Below.refl _ _,rfl⟩
  case o11=>
   have e67:ev (.tmp 67)=_:=hD 8 67 (by kernel_rfl)
   have e69:ev (.tmp 69)=_:=hD 10 69 (by kernel_rfl)
   exact ok_call (f:=119) (args:=#[.slice pl l.length cl,.string { data:=#[] },.func (.func 120) #[.agg #[.string (bs put)]] #[]]) (by simp [execOp,go_sem,hc,hf,e67,e69]) (mkp (eachA_any (put) _ (l) hll W' lo (Nat.le_trans hlo1 hG.size) (SsR.later hSs hG) hS))
  case o12=>
   have s70:Seq lo W' (ev (.tmp 70)) _:=hD 11 70 (by kernel_rfl)
   exact ok_call (f:=95) (args:=#[.string { data:=#[123,125] },ev (.tmp 70)]) (by simp [execOp,go_sem,hc,hf]) (mkp (in_any 123 125 _ _ W' lo (Nat.le_trans hlo1 hG.size) s70))
  case o13=>
   obtain ⟨g59,l59,e59,s59⟩:=seq_form (show Seq lo W' (ev (.tmp 59)) _ from hD 0 59 (by kernel_rfl))
   obtain ⟨g65,l65,e65,s65⟩:=seq_form (show Seq lo W' (ev (.tmp 65)) _ from hD 6 65 (by kernel_rfl))
   obtain ⟨g71,l71,e71,s71⟩:=seq_form (show Seq lo W' (ev (.tmp 71)) _ from hD 12 71 (by kernel_rfl))
   have hn:=seqs_new (lo:=lo) (W:=W') (fs:=[.func (.func g59) #[] l59,.func (.func g65) #[] l65,.func (.func g71) #[] l71]) (ls:=[[wdT [99,97,115,101]],inT 40 41 (exprT (xa)),inT 123 125 (((l).map (stmtT (put))).flatten)]) ⟨s59,s65,s71,trivial⟩ (Nat.le_trans hlo1 hG.size)
   exact ok_new (v:=.slice (some ⟨W'.heap.size,0,none⟩) 3 3) (W':=W'.alloc (.cells #[.func (.func g59) #[] l59,.func (.func g65) #[] l65,.func (.func g71) #[] l71] 79)) (by simp [execOp,go_sem,e59,e65,e71]) ⟨hn.2,hn.1⟩
  case o14=>
   have s72:Seqs lo W' (ev (.tmp 72)) _:=hD 13 72 (by kernel_rfl)
   exact ok_call (f:=91) (args:=#[ev (.tmp 72)]) (by simp [execOp,go_sem,hc,hf]) (mkp (row_any _ _ (by simp) W' lo (Nat.le_trans hlo1 hG.size) s72))
  case o15=>
   have s73:Seq lo W' (ev (.tmp 73)) _:=hD 14 73 (by kernel_rfl)
   exact ok_val (by simp [execOp,go_sem]) ⟨Below.refl _ _,s73⟩
 case hfin=>
  intro zz W' hG hzz
  have h9:Seq lo W' (zz 15) (List.flatten [[wdT [99,97,115,101]],inT 40 41 (exprT (xa)),inT 123 125 (((l).map (stmtT (put))).flatten)]):=hzz 15 (by simp)
  simp only [putAll,Act.put,List.setIfInBounds_toArray,List.set_cons_zero,List.set_cons_succ]
  go_wp2_with fail
  go_ret
  refine ⟨_,rfl,?_,hW1.trans (Below.mono hG (by omega))⟩
  exact h9
end Go.Proofs.YtlcfpdmicpggbaaGreatDoor
namespace Go.Proofs.YtlcfpdmicpggbaaGreatDoor
open Go.Lib (hid)
open Go.RowKit Go.Proofs.Spl Go.Proofs.Scn Go.Shelf Go.GrowQ
theorem grow_below {a b:World} (h:Grw a b) (row:Option Nat):a.grownBy b row:=by
 obtain ⟨h1,h2,h3,h4,h5⟩:=h
 exact ⟨h1,h2,h3,h4,fun k hk _=>h5 k hk⟩
theorem grow_two {a b c:World} {row:Option Nat} (h:a.grownBy b row) (k:b.grownBy c row):a.grownBy c row:=by
 obtain ⟨h1,h2,h3,h4,h5⟩:=h
 obtain ⟨k1,k2,k3,k4,k5⟩:=k
 exact ⟨k1.trans h1,k2.trans h2,k3.trans h3,Nat.le_trans h4 k4,fun j hj hn=>(k5 j (Nat.lt_of_lt_of_le hj h4) hn).trans (h5 j hj hn)⟩
def appSp (W0:World) (lo p:Nat) (l:List Spc) (ls:List (List Tok)) (i:Nat) (W:World) (v:Value):Prop:=if i<p then (l.getD i .any).ok lo W v else ∃ fs,(∃ q c,v=.slice q fs.length c)∧EachS W0 v fs ls W
def appG (row:Option Nat) (p i:Nat) (a b:World):Prop:=if i=p then a.grownBy b row else Grw a b
def appH (row:Option Nat) (f:Bool) (a b:World):Prop:=if f then a.grownBy b row else Grw a b
theorem app_tr (row:Option Nat) (p i:Nat) (a b c:World) (h:appH row (decide (p<i)) a b) (k:appG row p i b c):appH row (decide (p≤i)) a c:=by
 unfold appH appG at *
 rcases Nat.lt_trichotomy i p with h1 | h1 | h1
 ·rw [if_neg (by simp;omega)] at h ⊢
  rw [if_neg (by omega)] at k
  exact grw_trans _ _ _ h k
 ·subst h1
  rw [if_neg (by simp)] at h
  rw [if_pos rfl] at k
  rw [if_pos (by simp)]
  exact grow_two (grow_below h _) k
 ·rw [if_pos (by simp;omega)] at h
  rw [if_neg (by omega)] at k
  rw [if_pos (by simp;omega)]
  exact grow_two h (grow_below k _)
theorem app_mono (W0:World) (row:Option Nat) (lo p:Nat) (hrow:∀ r,row=some r→r<lo) (l:List Spc) (ls:List (List Tok)) (i j:Nat) (W W':World) (v:Value) (hij:i ≠ j) (hn:¬ (p≤j∧i<j)) (hg:appG row p i W W') (h:appSp W0 lo p l ls j W v):appSp W0 lo p l ls j W' v:=by
 unfold appSp appG at *
 by_cases hj:j<p
 ·rw [if_pos hj] at h ⊢
  refine Spc.kept _ ?_ h
  by_cases hi:i=p
  ·rw [if_pos hi] at hg
   exact KeptL.of_grown hg hrow
  ·rw [if_neg hi] at hg
   exact KeptL.of_below hg
 ·rw [if_neg hj] at h ⊢
  rw [if_neg (by omega)] at hg
  obtain ⟨fs,h1,h2⟩:=h
  exact ⟨fs,h1,h2.later hg⟩
theorem allL_of {n lo:Nat} {V:World} {q:Option Nat} (hn:n≤lo) (hq:∀ r,q=some r→r<lo∨V.heap.size≤r) {V':World} (hb:KeptL lo V V'):∀ {fs:List Value} {ls:List (List Tok)},AllSeq lo V fs ls→AllL n V' q fs ls
 | [],[],_=>trivial
 | [],_ :: _,h=>h.elim
 | _ :: _,[],h=>h.elim
 | f :: fs,t :: ts,h=>⟨⟨lo,V,h.1,hb,hn,hq⟩,allL_of hn hq hb h.2⟩
theorem each_new {W V:World} (hb:Below W.heap.size W V) {fs:List Value} {ls:List (List Tok)} (hl:fs.length≤1000000) (h:AllSeq W.heap.size V fs ls) :
  EachS W (.slice (some ⟨V.heap.size,0,none⟩) fs.length fs.length) fs ls (V.alloc (.cells fs.toArray 79)):=by
 have ha:Below V.heap.size V (V.alloc (.cells fs.toArray 79)):=(Below.refl _ _).alloc (Nat.le_refl _) _
 refine ⟨⟨by first | rfl | simp | (unfold maxLen;omega),.inr ⟨V.heap.size,fs.length,fs.toArray,rfl,hb.size,World.alloc_heap_new V _,by first | rfl | simp | (unfold maxLen;omega),by first | rfl | simp | (unfold maxLen;omega),by first | rfl | simp | (unfold maxLen;omega),by first | rfl | simp | (unfold maxLen;omega)⟩⟩,?_,hb.trans (ha.mono hb.size)⟩
 exact allL_of (Nat.le_refl _) (fun r hr=>by cases hr;exact .inr (Nat.le_refl _)) (KeptL.of_below ha) h
theorem AllL.app {n:Nat} {V:World} {q:Option Nat}:∀ {fs gs:List Value} {ls ms:List (List Tok)},AllL n V q fs ls→AllL n V q gs ms→AllL n V q (fs ++ gs) (ls ++ ms)
 | [],_,[],_,_,h=>h
 | [],_,_ :: _,_,h,_=>h.elim
 | _ :: _,_,[],_,h,_=>h.elim
 | f :: fs,gs,t :: ts,ms,h,k=>⟨h.1,AllL.app h.2 k⟩
theorem allSeq_one {lo:Nat} {W:World}:∀ {fs:List Value} {ls:List (List Tok)},AllSeq lo W fs ls→∀ u ∈ fs,u.oneCell'=true
 | [],_,_,u,hu=>by simp at hu
 | f :: fs,[],h,_,_=>h.elim
 | f :: fs,t :: ts,h,u,hu=>by
  rcases List.mem_cons.1 hu with rfl | hu
  ·obtain ⟨g,lb,rfl,_⟩:=h.1
   rfl
  ·exact allSeq_one h.2 u hu
theorem app_step {W0 W':World} {out:Value} {fs:List Value} {ls:List (List Tok)} (hE:EachS W0 out fs ls W') {lo b:Nat} {gs:List Value} {ms:List (List Tok)} (hlo:W0.heap.size≤lo) (hrow:∀ r,out.ownBlock=some r→r<lo) (hblk:W'.heap[b]?=some (.cells gs.toArray 79 (0,0)))
  (hgs:AllSeq lo W' gs ms) (hpos:0<gs.length) (hlen:fs.length+gs.length≤1000000) (ty:TypeId) (c:Nat) :
  ∃ g cap w',(Builtin.append_ #[121,121] ty #[out,.slice (some ⟨b,0,none⟩) gs.length c]).run Tryz.prog W'=.ok (.slice (some ⟨g,0,none⟩) (fs.length+gs.length) cap) w' ∧
   W'.grownBy w' out.ownBlock∧EachS W0 (.slice (some ⟨g,0,none⟩) (fs.length+gs.length) cap) (fs ++ gs) (ls ++ ms) w':=by
 obtain ⟨i0,hi,hz0,hz1,hz2⟩:=info_parts fnInfo
 obtain ⟨g,cap,w',hrun,h1,h2,h3,h4⟩:=run_append_lies (P:=Tryz.prog) W' 121 ty W0.heap.size 79 i0 Value.nilFunc 1 8 fnSlice hi hz0 hz1 hz2 rfl (by decide) out fs.length fs hE.own ⟨b,0,none⟩ gs.length c gs (by omega)
  (fun j u hu=>World.news_of_block hblk j u (by simpa using hu)) (allSeq_one hgs) hpos (by unfold maxLen;omega) (by omega) hE.bel.size _ rfl
 refine ⟨g,cap,w',hrun,h2,⟨by rw [List.length_append];exact h1,?_,hE.bel.grown h2 hE.bel.size (fun k hk=>(hE.lt k hk).1)⟩⟩
 have hq:∀ r,(Value.slice (some ⟨g,0,none⟩) (fs.length+gs.length) cap).ownBlock=some r→out.ownBlock=some r∨W'.heap.size≤r:=by
  intro r hr
  cases hr
  rcases h3 with h3 | h3
  ·exact .inl h3
  ·exact .inr (Nat.le_of_eq h3.symm)
 refine (hE.lies.map fun f ts hl=>hl.grown h2 hq).app ?_
 refine AllL.map (fun f ts hl=>hl.grown h2 hq) (allL_of hlo (fun r hr=>.inl (hrow r hr)) (KeptL.refl _ _) hgs)
end Go.Proofs.YtlcfpdmicpggbaaGreatDoor
namespace Go.Proofs.YtlcfpdmicpggbaaGreatDoor
open Go.Lib (hid)
open Go.RowKit Go.Proofs.Spl Go.Proofs.Scn Go.Shelf
theorem appSp_grw (W0:World) (lo p:Nat) (l:List Spc) (ls:List (List Tok)) (i:Nat) (W W':World) (v:Value) (hg:Grw W W') (h:appSp W0 lo p l ls i W v):appSp W0 lo p l ls i W' v:=by
 unfold appSp at *
 by_cases hj:i<p
 ·rw [if_pos hj] at h ⊢
  exact Spc.grw _ hg h
 ·rw [if_neg hj] at h ⊢
  obtain ⟨fs,h1,h2⟩:=h
  exact ⟨fs,h1,h2.later hg⟩
def SAt (W:World) (q o:Nat) (a:S):Prop:=
 ∃ p c p' c',W.cell? ⟨q,o,none⟩=some (.int .i64 a.op)∧W.cell? ⟨q,o+1,none⟩=some (.string (bs a.name))∧W.cell? ⟨q,o+2,none⟩=some (.slice p a.x.length c)∧W.cell? ⟨q,o+3,none⟩=some (.slice p' a.l.length c') ∧
  SR W a [.int .i64 a.op,.string (bs a.name),.slice p a.x.length c,.slice p' a.l.length c']
theorem sls_at {W:World} {q off:Nat} {l:List S} (h:Spl.Rows W 4 (SR W) q off l) (k:Nat) (a:S) (hk:l[k]?=some a):SAt W q (off+k * 4) a:=by
 obtain ⟨h1,hk2⟩:=List.getElem?_eq_some_iff.1 hk
 subst hk2
 obtain ⟨cs,h1,h2⟩:=h k h1
 obtain ⟨vx,vl,rfl,hX,hL⟩:=SR_iff.1 h1
 obtain ⟨p,c,rfl,_⟩:=hX
 obtain ⟨p',c',rfl,_⟩:=hL
 exact ⟨p,c,p',c',h2 0 (by omega),h2 1 (by omega),h2 2 (by omega),h2 3 (by omega),h1⟩
theorem SAt.later {W W':World} {q o:Nat} {a:S} (h:SAt W q o a) (hq:q<W.heap.size) (hb:Below W.heap.size W W'):SAt W' q o a:=by
 obtain ⟨p,c,p',c',h0,h1,h2,h3,h6⟩:=h
 exact ⟨p,c,p',c',(hb.cell (p:=⟨q,o,none⟩) hq).trans h0,(hb.cell (p:=⟨q,o+1,none⟩) hq).trans h1,(hb.cell (p:=⟨q,o+2,none⟩) hq).trans h2,(hb.cell (p:=⟨q,o+3,none⟩) hq).trans h3,SR.later hb _ _ h6⟩
theorem stmt_if_if (W:World) (put name:Ln) (xa:X) (a b:S) (iha:ExprOK xa) (hSa:StmtOK put a) (hSb:StmtOK put b) (hb:b.op=2) (qx ox cx ql ol cl:Nat) (hqx0:qx<W.heap.size) (hql0:ql<W.heap.size) (lo0:Nat) (hloW:lo0≤W.heap.size)
  (za:XAt W qx ox xa) (zs:SAt W ql ol a) (zt:SAt W ql (ol+4) b) :
  Calls Tryz.prog 60 #[.agg #[.string (bs put)],.agg #[.int .i64 2,.string (bs name),.slice (some ⟨qx,ox,none⟩) 1 cx,.slice (some ⟨ql,ol,none⟩) 2 cl]] W (MkPost lo0 W (List.flatten [[wdT ifW],inT 40 41 (exprT xa),stmtT put a,[wdT elseW],stmtT put b])):=by
 go_enter Tryz.func60,Tryz.ntmps60
 go_wp2_with fail
 obtain ⟨hbx0,hbx1,hls,hW1⟩:=two_boxes W (.cells #[.string (bs put)] 91) (.cells #[.int .i64 2,.string (bs name),.slice (some ⟨qx,ox,none⟩) 1 cx,.slice (some ⟨ql,ol,none⟩) 2 cl] 31)
 generalize (W.alloc (.cells #[.string (bs put)] 91)).alloc (.cells #[.int .i64 2,.string (bs name),.slice (some ⟨qx,ox,none⟩) 1 cx,.slice (some ⟨ql,ol,none⟩) 2 cl] 31)=W1 at *
 have hlo0:lo0≤W1.heap.size:=by omega
 obtain ⟨lo,hloe⟩:∃ lo,lo=W1.heap.size:=⟨_,rfl⟩
 have hlo1:lo≤W1.heap.size:=Nat.le_of_eq hloe
 have hbl0:W.heap.size<W1.heap.size:=by omega
 have y0_0:=box_at hbx0 0 (v:=.string (bs put)) rfl
 have hbl1:W.heap.size+1<W1.heap.size:=by omega
 have y1_2:=box_at hbx1 2 (v:=.slice (some ⟨qx,ox,none⟩) 1 cx) rfl
 have y1_3:=box_at hbx1 3 (v:=.slice (some ⟨ql,ol,none⟩) 2 cl) rfl
 clear hls hbx0 hbx1
 have hqx:qx<W1.heap.size:=Nat.lt_of_lt_of_le hqx0 hW1.size
 have hql:ql<W1.heap.size:=Nat.lt_of_lt_of_le hql0 hW1.size
 obtain ⟨pa,ca,a0,a1,a2,a3,a4,a5,Xa⟩:=XAt.later za hqx0 hW1
 obtain ⟨ps,cs,qs,ds,s0,s1,s2,s3,Xs⟩:=SAt.later zs hql0 hW1
 obtain ⟨pt,ct,qt,dt,t0,t1,t2,t3,Xt⟩:=SAt.later zt hql0 hW1
 refine Go.Grow.region_grow Grw (appSp W1 lo 13 [.seq ([wdT [105,102]]),.is (.pointer (some ⟨W.heap.size+1,2,none⟩)),.is (.slice (some ⟨qx,ox,none⟩) 1 cx),.is (.pointer (some ⟨qx,ox,none⟩)),.is (.agg #[.int .i64 xa.op,.string (bs xa.name),.int .i64 xa.n,.int .i64 xa.w,.int .u64 xa.v,.slice pa xa.l.length ca]),.seq (exprT (xa)),.seq (inT 40 41 (exprT (xa))),.is (.agg #[.string (bs put)]),.is (.pointer (some ⟨W.heap.size+1,3,none⟩)),.is (.slice (some ⟨ql,ol,none⟩) 2 cl),.is (.pointer (some ⟨ql,ol,none⟩)),.is (.agg #[.int .i64 a.op,.string (bs a.name),.slice ps a.x.length cs,.slice qs a.l.length ds]),.seq (stmtT put (a))] [[wdT [105,102]],inT 40 41 (exprT (xa)),stmtT put (a)])
  (by kernel_rfl) rfl (by kernel_rfl) (by kernel_rfl) (grw_drawn _) grw_trans (appSp_grw _ _ _ _ _) ?hops ?hfin
 case hops=>
  refine ⟨?o0,?o1,?o2,?o3,?o4,?o5,?o6,?o7,?o8,?o9,?o10,?o11,?o12,?o13,?o14,trivial⟩
  all_goals (intro ev W' hG hr hD;have hc:=hr.const;have hf:=hr.func)
  case o0=>
   exact Go.Grow.ok_call (f:=92) (args:=#[.string { data:=#[105,102] }]) (by simp [execOp,go_sem,hc,hf]) (mkp (sword_any [105,102] W' lo (Nat.le_trans hlo1 hG.size)))
  case o1=>
   have e3:ev (.tmp 3)=.pointer (some ⟨W.heap.size+1,0,none⟩):=hr.tmp 3 (by kernel_rfl)
   exact Go.Grow.ok_val (by simp [execOp,go_sem,e3]) ⟨Below.refl _ _,rfl⟩
  case o2=>
   have e22:ev (.tmp 22)=_:=hD 1 22 (by kernel_rfl)
   have m0:=(hG.cell (p:=⟨W.heap.size+1,2,none⟩) hbl1).trans y1_2
   exact Go.Grow.ok_val (by simp [execOp,go_sem,e22,m0]) ⟨Below.refl _ _,rfl⟩
  case o3=>
   have e23:ev (.tmp 23)=_:=hD 2 23 (by kernel_rfl)
   exact Go.Grow.ok_val (by simp [execOp,go_sem,e23,hc]) ⟨Below.refl _ _,rfl⟩
  case o4=>
   have e24:ev (.tmp 24)=_:=hD 3 24 (by kernel_rfl)
   obtain ⟨m0,m1,m2,m3,m4,m5⟩:=six_later hG hqx a0 a1 a2 a3 a4 a5
   exact Go.Grow.ok_val (by simp [execOp,go_sem,e24,m0,m1,m2,m3,m4,m5]) ⟨Below.refl _ _,rfl⟩
  case o5=>
   have e25:ev (.tmp 25)=_:=hD 4 25 (by kernel_rfl)
   exact Go.Grow.ok_call (f:=56) (args:=#[.agg #[.int .i64 xa.op,.string (bs xa.name),.int .i64 xa.n,.int .i64 xa.w,.int .u64 xa.v,.slice pa xa.l.length ca]]) (by simp [execOp,go_sem,hc,hf,e25]) (mkp (iha W' lo _ (Nat.le_trans hlo1 hG.size) (XR.later hG _ _ Xa)))
  case o6=>
   have s26:Seq lo W' (ev (.tmp 26)) _:=hD 5 26 (by kernel_rfl)
   exact Go.Grow.ok_call (f:=95) (args:=#[.string { data:=#[40,41] },ev (.tmp 26)]) (by simp [execOp,go_sem,hc,hf]) (mkp (in_any 40 41 _ _ W' lo (Nat.le_trans hlo1 hG.size) s26))
  case o7=>
   have e2:ev (.tmp 2)=.pointer (some ⟨W.heap.size,0,none⟩):=hr.tmp 2 (by kernel_rfl)
   have m0:=(hG.cell (p:=⟨W.heap.size,0,none⟩) hbl0).trans y0_0
   exact Go.Grow.ok_val (by simp [execOp,go_sem,e2,m0]) ⟨Below.refl _ _,rfl⟩
  case o8=>
   have e3:ev (.tmp 3)=.pointer (some ⟨W.heap.size+1,0,none⟩):=hr.tmp 3 (by kernel_rfl)
   exact Go.Grow.ok_val (by simp [execOp,go_sem,e3]) ⟨Below.refl _ _,rfl⟩
  case o9=>
   have e29:ev (.tmp 29)=_:=hD 8 29 (by kernel_rfl)
   have m0:=(hG.cell (p:=⟨W.heap.size+1,3,none⟩) hbl1).trans y1_3
   exact Go.Grow.ok_val (by simp [execOp,go_sem,e29,m0]) ⟨Below.refl _ _,rfl⟩
  case o10=>
   have e30:ev (.tmp 30)=_:=hD 9 30 (by kernel_rfl)
   exact Go.Grow.ok_val (by simp [execOp,go_sem,e30,hc]) ⟨Below.refl _ _,rfl⟩
  case o11=>
   have e31:ev (.tmp 31)=_:=hD 10 31 (by kernel_rfl)
   have m0:=(hG.cell (p:=⟨ql,ol,none⟩) hql).trans s0
   have m1:=(hG.cell (p:=⟨ql,ol+1,none⟩) hql).trans s1
   have m2:=(hG.cell (p:=⟨ql,ol+2,none⟩) hql).trans s2
   have m3:=(hG.cell (p:=⟨ql,ol+3,none⟩) hql).trans s3
   exact Go.Grow.ok_val (by simp [execOp,go_sem,e31,m0,m1,m2,m3]) ⟨Below.refl _ _,rfl⟩
  case o12=>
   have e28:ev (.tmp 28)=_:=hD 7 28 (by kernel_rfl)
   have e32:ev (.tmp 32)=_:=hD 11 32 (by kernel_rfl)
   exact Go.Grow.ok_call (f:=60) (args:=#[.agg #[.string (bs put)],.agg #[.int .i64 a.op,.string (bs a.name),.slice ps a.x.length cs,.slice qs a.l.length ds]]) (by simp [execOp,go_sem,hc,hf,e28,e32]) (mkp (hSa W' lo _ (Nat.le_trans hlo1 hG.size) (SR.later hG _ _ Xs)))
  case o13=>
   obtain ⟨g21,l21,e21,s21⟩:=seq_form (show Seq lo W' (ev (.tmp 21)) _ from hD 0 21 (by kernel_rfl))
   obtain ⟨g27,l27,e27,s27⟩:=seq_form (show Seq lo W' (ev (.tmp 27)) _ from hD 6 27 (by kernel_rfl))
   obtain ⟨g33,l33,e33,s33⟩:=seq_form (show Seq lo W' (ev (.tmp 33)) _ from hD 12 33 (by kernel_rfl))
   have hn:=each_new (W:=W1) (V:=W') hG (fs:=[.func (.func g21) #[] l21,.func (.func g27) #[] l27,.func (.func g33) #[] l33]) (ls:=[[wdT [105,102]],inT 40 41 (exprT (xa)),stmtT put (a)]) (by simp) (hloe ▸ ⟨s21,s27,s33,trivial⟩)
   exact Go.Grow.ok_new (v:=.slice (some ⟨W'.heap.size,0,none⟩) 3 3) (W':=W'.alloc (.cells #[.func (.func g21) #[] l21,.func (.func g27) #[] l27,.func (.func g33) #[] l33] 79)) (by simp [execOp,go_sem,e21,e27,e33]) ⟨(Below.refl _ _).alloc (Nat.le_refl _) _,_,⟨_,_,rfl⟩,hn⟩
  case o14=>
   have s34:∃ fs,(∃ q c,(ev (.tmp 34))=.slice q fs.length c)∧EachS W1 (ev (.tmp 34)) fs [[wdT [105,102]],inT 40 41 (exprT (xa)),stmtT put (a)] W':=hD 13 34 (by kernel_rfl)
   exact Go.Grow.ok_val (by simp [execOp,go_sem]) ⟨Below.refl _ _,s34⟩
 case hfin=>
  intro zz W5 hG5 hzz
  have h9:∃ fs,(∃ q c,(zz 14)=.slice q fs.length c)∧EachS W1 (zz 14) fs [[wdT [105,102]],inT 40 41 (exprT (xa)),stmtT put (a)] W5:=hzz 14 (by simp)
  simp only [Go.Grow.putAll,Act.put,List.setIfInBounds_toArray,List.set_cons_zero,List.set_cons_succ]
  obtain ⟨fs,⟨q5,k5,e5⟩,hE0⟩:=h9
  rw [e5] at hE0 ⊢
  clear e5 hzz
  have hfl:=hE0.lies.len
  simp only [List.length_cons,List.length_nil] at hfl
  have hGs:=hG5.size
  have y0:=(hG5.cell (p:=⟨W.heap.size,0,none⟩) hbl0).trans y0_0
  have y3:=(hG5.cell (p:=⟨W.heap.size+1,3,none⟩) hbl1).trans y1_3
  have t0':=(hG5.cell (p:=⟨ql,ol+4,none⟩) hql).trans t0
  have t1':=(hG5.cell (p:=⟨ql,ol+5,none⟩) hql).trans t1
  have t2':=(hG5.cell (p:=⟨ql,ol+6,none⟩) hql).trans t2
  have t3':=(hG5.cell (p:=⟨ql,ol+7,none⟩) hql).trans t3
  have Xt':=SR.later hG5 _ _ Xt
  have hd:decide (b.op=2)=true:=by simpa using hb
  have hd2:(b.op == 2)=true:=by simpa using hb
  clear hb
  obtain ⟨out,hout⟩:∃ out,out=Value.slice q5 fs.length k5:=⟨_,rfl⟩
  rw [← hout] at hE0 ⊢
  have HE0:=hid hE0
  have HOUT:=hid hout
  clear hE0 hout
  go_wp2_with fail
  obtain ⟨hb8,hs8,hB8⟩:=one_box W5 (.cells #[.int .i64 b.op,.string (bs b.name),.slice pt b.x.length ct,.slice qt b.l.length dt] 31)
  generalize W5.alloc (.cells #[.int .i64 b.op,.string (bs b.name),.slice pt b.x.length ct,.slice qt b.l.length dt] 31)=W8 at *
  have hE8:=hid (HE0.out.later hB8)
  obtain ⟨lo2,hloe2⟩:∃ lo,lo=W8.heap.size:=⟨_,rfl⟩
  have hlo1:lo2≤W8.heap.size:=Nat.le_of_eq hloe2
  have hW0lo:W1.heap.size≤lo2:=by omega
  have hrow:∀ r,out.ownBlock=some r→r<lo2:=fun r hr=>by rw [hloe2];exact (hE8.out.lt r hr).2
  have hbl0:W.heap.size<W8.heap.size:=by omega
  have hbl6:W5.heap.size<W8.heap.size:=by omega
  have y0_0:=(hB8.cell (p:=⟨W.heap.size,0,none⟩) (by show W.heap.size<W5.heap.size;omega)).trans y0
  have b0:=box_at hb8 0 (v:=.int .i64 b.op) rfl
  have b1:=box_at hb8 1 (v:=.string (bs b.name)) rfl
  have b2:=box_at hb8 2 (v:=.slice pt b.x.length ct) rfl
  have b3:=box_at hb8 3 (v:=.slice qt b.l.length dt) rfl
  have Xt8:=SR.later hB8 _ _ Xt'
  have hz8:=hE8.out.bel.size
  clear hb8 y0 y3 t0' t1' t2' t3' Xt'
  refine Go.GrowQ.region_grow_p (appG (out.ownBlock) 6) (appH out.ownBlock) 6 (appSp W1 lo2 6 [.is (out),.seq ([wdT [101,108,115,101]]),.is (.agg #[.string (bs put)]),.is (.agg #[.int .i64 b.op,.string (bs b.name),.slice pt b.x.length ct,.slice qt b.l.length dt]),.seq (stmtT put (b)),.blk [[wdT [101,108,115,101]],stmtT put (b)]] [[wdT [105,102]],inT 40 41 (exprT (xa)),stmtT put (a),[wdT [101,108,115,101]],stmtT put (b)])
   (by kernel_rfl) rfl (by kernel_rfl) (by kernel_rfl) (grw_drawn _) (Go.GrowQ.before_from (by kernel_rfl)) (app_tr out.ownBlock 6) (app_mono _ out.ownBlock lo2 6 hrow _ _) ?hops ?hfin
  case hops=>
   refine ⟨?o0,?o1,?o2,?o3,?o4,?o5,?o6,?o7,trivial⟩
   all_goals (intro ev W' hG hr hD;have hc:=hr.const;have hf:=hr.func)
   case o0=>
    have hG:Grw W8 W':=hG
    have e5:ev (.tmp 5)=out:=hr.old 5 (by kernel_rfl)
    exact Go.GrowQ.ok_val (by simp [execOp,go_sem,e5]) ⟨Below.refl _ _,rfl⟩
   case o1=>
    have hG:Grw W8 W':=hG
    refine Go.GrowQ.ok_call (f:=92) (args:=#[.string { data:=#[101,108,115,101] }]) (by simp [execOp,go_sem,hc,hf]) ?_
    have hlo':=Nat.le_trans hlo1 hG.size
    refine (sword_any [101,108,115,101] W' lo2 hlo').mono ?_
    rintro e W2 ⟨f,rfl,h1,h2⟩
    refine ⟨f,rfl,h2,?_⟩
    show Seq lo2 W2 f ([wdT [101,108,115,101]])
    exact h1
   case o2=>
    have hG:Grw W8 W':=hG
    have e2:ev (.tmp 2)=.pointer (some ⟨W.heap.size,0,none⟩):=hr.tmp 2 (by kernel_rfl)
    have m0:=(hG.cell (p:=⟨W.heap.size,0,none⟩) hbl0).trans y0_0
    exact Go.GrowQ.ok_val (by simp [execOp,go_sem,e2,m0]) ⟨Below.refl _ _,rfl⟩
   case o3=>
    have hG:Grw W8 W':=hG
    have e6:ev (.tmp 6)=.pointer (some ⟨W5.heap.size,0,none⟩):=hr.tmp 6 (by kernel_rfl)
    have m0:=(hG.cell (p:=⟨W5.heap.size,0,none⟩) hbl6).trans b0
    have m1:=(hG.cell (p:=⟨W5.heap.size,1,none⟩) hbl6).trans b1
    have m2:=(hG.cell (p:=⟨W5.heap.size,2,none⟩) hbl6).trans b2
    have m3:=(hG.cell (p:=⟨W5.heap.size,3,none⟩) hbl6).trans b3
    exact Go.GrowQ.ok_val (by simp [execOp,go_sem,e6,m0,m1,m2,m3]) ⟨Below.refl _ _,rfl⟩
   case o4=>
    have hG:Grw W8 W':=hG
    have e50:ev (.tmp 50)=_:=hD 2 50 (by kernel_rfl)
    have e51:ev (.tmp 51)=_:=hD 3 51 (by kernel_rfl)
    refine Go.GrowQ.ok_call (f:=60) (args:=#[.agg #[.string (bs put)],.agg #[.int .i64 b.op,.string (bs b.name),.slice pt b.x.length ct,.slice qt b.l.length dt]]) (by simp [execOp,go_sem,hc,hf,e50,e51]) ?_
    have hlo':=Nat.le_trans hlo1 hG.size
    refine (hSb W' lo2 _ hlo' (SR.later hG _ _ Xt8)).mono ?_
    rintro e W2 ⟨f,rfl,h1,h2⟩
    refine ⟨f,rfl,h2,?_⟩
    show Seq lo2 W2 f (stmtT put (b))
    exact h1
   case o5=>
    have hG:Grw W8 W':=hG
    obtain ⟨g49,l49,e49,s49⟩:=seq_form (show Seq lo2 W' (ev (.tmp 49)) ([wdT [101,108,115,101]]) from hD 1 49 (by kernel_rfl))
    obtain ⟨g52,l52,e52,s52⟩:=seq_form (show Seq lo2 W' (ev (.tmp 52)) (stmtT put (b)) from hD 4 52 (by kernel_rfl))
    have hn:=blk_new (lo:=lo2) (W:=W') (fs:=[.func (.func g49) #[] l49,.func (.func g52) #[] l52]) (ls:=[[wdT [101,108,115,101]],stmtT put (b)]) ⟨s49,s52,trivial⟩ (Nat.le_trans hlo1 hG.size)
    exact Go.GrowQ.ok_new (v:=.slice (some ⟨W'.heap.size,0,none⟩) 2 2) (W':=W'.alloc (.cells #[.func (.func g49) #[] l49,.func (.func g52) #[] l52] 79)) (by simp [execOp,go_sem,e49,e52]) ⟨hn.2,hn.1⟩
   case o6=>
    have hG:Grw W8 W':=hG
    have e48:ev (.tmp 48)=_:=hD 0 48 (by kernel_rfl)
    obtain ⟨b,gs,e53,hb1,hblk,hgs⟩:Spc.ok lo2 (.blk [[wdT [101,108,115,101]],stmtT put (b)]) W' (ev (.tmp 53)):=hD 5 53 (by kernel_rfl)
    have hgl:gs.length=2:=(allSeq_get hgs).1
    obtain ⟨g,cap,w',hrun,hgb,hE2⟩:=app_step (hE8.out.later hG) hW0lo hrow hblk hgs (by omega) (by omega) 121 2
    rw [hgl] at hrun
    simp only [List.length_cons,List.length_nil] at e53
    exact Go.GrowQ.ok_new (v:=.slice (some ⟨g,0,none⟩) (fs.length+2) cap) (W':=w') (by simp [execOp,resolve,invoke,builtin,e48,e53,hrun,Result.andThen]) ⟨hgb,fs ++ gs,⟨some ⟨g,0,none⟩,cap,by show Value.slice _ (fs.length+2) _=Value.slice _ _ _;rw [List.length_append,hgl]⟩,by rw [hgl] at hE2;exact hE2⟩
   case o7=>
    have hG:W8.grownBy W' out.ownBlock:=hG
    have s54:∃ fs,(∃ q c,(ev (.tmp 54))=.slice q fs.length c)∧EachS W1 (ev (.tmp 54)) fs [[wdT [105,102]],inT 40 41 (exprT (xa)),stmtT put (a),[wdT [101,108,115,101]],stmtT put (b)] W':=hD 6 54 (by kernel_rfl)
    exact Go.GrowQ.ok_val (by simp [execOp,go_sem]) ⟨Below.refl _ _,s54⟩
  case hfin=>
   intro zz W9 hG9 hzz
   have hG9:W8.grownBy W9 out.ownBlock:=hG9
   have h9:∃ fs,(∃ q c,(zz 7)=.slice q fs.length c)∧EachS W1 (zz 7) fs [[wdT [105,102]],inT 40 41 (exprT (xa)),stmtT put (a),[wdT [101,108,115,101]],stmtT put (b)] W9:=hzz 7 (by simp)
   simp only [Go.GrowQ.putAll,Act.put,List.setIfInBounds_toArray,List.set_cons_zero,List.set_cons_succ]
   obtain ⟨fs2,⟨q9,k9,e9⟩,hE9⟩:=h9
   rw [e9] at hE9 ⊢
   clear e9 hzz
   have HROW:=hid (row_any _ _ (by simp) W9 W1.heap.size hE9.bel.size hE9.seqs)
   go_wp2_with (go_at_call 91;refine HROW.out.mono ?_;rintro e W6 ⟨f,rfl,h1,h2⟩;have S6:=hid h1;have B6:=hid h2;clear h1 h2)
   go_ret
   have hz1:=hW1.size
   have hz2:=hE9.bel.size
   refine ⟨_,rfl,IsSeq.later S6.out hlo0 (KeptL.refl _ _),hW1.trans ((hE9.bel.trans (B6.out.mono (by omega))).mono hz1)⟩
theorem stmt_if_els (W:World) (put name:Ln) (xa:X) (a b:S) (iha:ExprOK xa) (hSa:StmtOK put a) (hSb:StmtOK put b) (hb:b.op ≠ 2) (hl:b.l ≠ []) (qx ox cx ql ol cl:Nat) (hqx0:qx<W.heap.size) (hql0:ql<W.heap.size) (lo0:Nat) (hloW:lo0≤W.heap.size)
  (za:XAt W qx ox xa) (zs:SAt W ql ol a) (zt:SAt W ql (ol+4) b) :
  Calls Tryz.prog 60 #[.agg #[.string (bs put)],.agg #[.int .i64 2,.string (bs name),.slice (some ⟨qx,ox,none⟩) 1 cx,.slice (some ⟨ql,ol,none⟩) 2 cl]] W (MkPost lo0 W (List.flatten [[wdT ifW],inT 40 41 (exprT xa),stmtT put a,[wdT elseW],stmtT put b])):=by
 go_enter Tryz.func60,Tryz.ntmps60
 go_wp2_with fail
 obtain ⟨hbx0,hbx1,hls,hW1⟩:=two_boxes W (.cells #[.string (bs put)] 91) (.cells #[.int .i64 2,.string (bs name),.slice (some ⟨qx,ox,none⟩) 1 cx,.slice (some ⟨ql,ol,none⟩) 2 cl] 31)
 generalize (W.alloc (.cells #[.string (bs put)] 91)).alloc (.cells #[.int .i64 2,.string (bs name),.slice (some ⟨qx,ox,none⟩) 1 cx,.slice (some ⟨ql,ol,none⟩) 2 cl] 31)=W1 at *
 have hlo0:lo0≤W1.heap.size:=by omega
 obtain ⟨lo,hloe⟩:∃ lo,lo=W1.heap.size:=⟨_,rfl⟩
 have hlo1:lo≤W1.heap.size:=Nat.le_of_eq hloe
 have hbl0:W.heap.size<W1.heap.size:=by omega
 have y0_0:=box_at hbx0 0 (v:=.string (bs put)) rfl
 have hbl1:W.heap.size+1<W1.heap.size:=by omega
 have y1_2:=box_at hbx1 2 (v:=.slice (some ⟨qx,ox,none⟩) 1 cx) rfl
 have y1_3:=box_at hbx1 3 (v:=.slice (some ⟨ql,ol,none⟩) 2 cl) rfl
 clear hls hbx0 hbx1
 have hqx:qx<W1.heap.size:=Nat.lt_of_lt_of_le hqx0 hW1.size
 have hql:ql<W1.heap.size:=Nat.lt_of_lt_of_le hql0 hW1.size
 obtain ⟨pa,ca,a0,a1,a2,a3,a4,a5,Xa⟩:=XAt.later za hqx0 hW1
 obtain ⟨ps,cs,qs,ds,s0,s1,s2,s3,Xs⟩:=SAt.later zs hql0 hW1
 obtain ⟨pt,ct,qt,dt,t0,t1,t2,t3,Xt⟩:=SAt.later zt hql0 hW1
 refine Go.Grow.region_grow Grw (appSp W1 lo 13 [.seq ([wdT [105,102]]),.is (.pointer (some ⟨W.heap.size+1,2,none⟩)),.is (.slice (some ⟨qx,ox,none⟩) 1 cx),.is (.pointer (some ⟨qx,ox,none⟩)),.is (.agg #[.int .i64 xa.op,.string (bs xa.name),.int .i64 xa.n,.int .i64 xa.w,.int .u64 xa.v,.slice pa xa.l.length ca]),.seq (exprT (xa)),.seq (inT 40 41 (exprT (xa))),.is (.agg #[.string (bs put)]),.is (.pointer (some ⟨W.heap.size+1,3,none⟩)),.is (.slice (some ⟨ql,ol,none⟩) 2 cl),.is (.pointer (some ⟨ql,ol,none⟩)),.is (.agg #[.int .i64 a.op,.string (bs a.name),.slice ps a.x.length cs,.slice qs a.l.length ds]),.seq (stmtT put (a))] [[wdT [105,102]],inT 40 41 (exprT (xa)),stmtT put (a)])
  (by kernel_rfl) rfl (by kernel_rfl) (by kernel_rfl) (grw_drawn _) grw_trans (appSp_grw _ _ _ _ _) ?hops ?hfin
 case hops=>
  refine ⟨?o0,?o1,?o2,?o3,?o4,?o5,?o6,?o7,?o8,?o9,?o10,?o11,?o12,?o13,?o14,trivial⟩
  all_goals (intro ev W' hG hr hD;have hc:=hr.const;have hf:=hr.func)
  case o0=>
   exact Go.Grow.ok_call (f:=92) (args:=#[.string { data:=#[105,102] }]) (by simp [execOp,go_sem,hc,hf]) (mkp (sword_any [105,102] W' lo (Nat.le_trans hlo1 hG.size)))
  case o1=>
   have e3:ev (.tmp 3)=.pointer (some ⟨W.heap.size+1,0,none⟩):=hr.tmp 3 (by kernel_rfl)
   exact Go.Grow.ok_val (by simp [execOp,go_sem,e3]) ⟨Below.refl _ _,rfl⟩
  case o2=>
   have e22:ev (.tmp 22)=_:=hD 1 22 (by kernel_rfl)
   have m0:=(hG.cell (p:=⟨W.heap.size+1,2,none⟩) hbl1).trans y1_2
   exact Go.Grow.ok_val (by simp [execOp,go_sem,e22,m0]) ⟨Below.refl _ _,rfl⟩
  case o3=>
   have e23:ev (.tmp 23)=_:=hD 2 23 (by kernel_rfl)
   exact Go.Grow.ok_val (by simp [execOp,go_sem,e23,hc]) ⟨Below.refl _ _,rfl⟩
  case o4=>
   have e24:ev (.tmp 24)=_:=hD 3 24 (by kernel_rfl)
   obtain ⟨m0,m1,m2,m3,m4,m5⟩:=six_later hG hqx a0 a1 a2 a3 a4 a5
   exact Go.Grow.ok_val (by simp [execOp,go_sem,e24,m0,m1,m2,m3,m4,m5]) ⟨Below.refl _ _,rfl⟩
  case o5=>
   have e25:ev (.tmp 25)=_:=hD 4 25 (by kernel_rfl)
   exact Go.Grow.ok_call (f:=56) (args:=#[.agg #[.int .i64 xa.op,.string (bs xa.name),.int .i64 xa.n,.int .i64 xa.w,.int .u64 xa.v,.slice pa xa.l.length ca]]) (by simp [execOp,go_sem,hc,hf,e25]) (mkp (iha W' lo _ (Nat.le_trans hlo1 hG.size) (XR.later hG _ _ Xa)))
  case o6=>
   have s26:Seq lo W' (ev (.tmp 26)) _:=hD 5 26 (by kernel_rfl)
   exact Go.Grow.ok_call (f:=95) (args:=#[.string { data:=#[40,41] },ev (.tmp 26)]) (by simp [execOp,go_sem,hc,hf]) (mkp (in_any 40 41 _ _ W' lo (Nat.le_trans hlo1 hG.size) s26))
  case o7=>
   have e2:ev (.tmp 2)=.pointer (some ⟨W.heap.size,0,none⟩):=hr.tmp 2 (by kernel_rfl)
   have m0:=(hG.cell (p:=⟨W.heap.size,0,none⟩) hbl0).trans y0_0
   exact Go.Grow.ok_val (by simp [execOp,go_sem,e2,m0]) ⟨Below.refl _ _,rfl⟩
  case o8=>
   have e3:ev (.tmp 3)=.pointer (some ⟨W.heap.size+1,0,none⟩):=hr.tmp 3 (by kernel_rfl)
   exact Go.Grow.ok_val (by simp [execOp,go_sem,e3]) ⟨Below.refl _ _,rfl⟩
  case o9=>
   have e29:ev (.tmp 29)=_:=hD 8 29 (by kernel_rfl)
   have m0:=(hG.cell (p:=⟨W.heap.size+1,3,none⟩) hbl1).trans y1_3
   exact Go.Grow.ok_val (by simp [execOp,go_sem,e29,m0]) ⟨Below.refl _ _,rfl⟩
  case o10=>
   have e30:ev (.tmp 30)=_:=hD 9 30 (by kernel_rfl)
   exact Go.Grow.ok_val (by simp [execOp,go_sem,e30,hc]) ⟨Below.refl _ _,rfl⟩
  case o11=>
   have e31:ev (.tmp 31)=_:=hD 10 31 (by kernel_rfl)
   have m0:=(hG.cell (p:=⟨ql,ol,none⟩) hql).trans s0
   have m1:=(hG.cell (p:=⟨ql,ol+1,none⟩) hql).trans s1
   have m2:=(hG.cell (p:=⟨ql,ol+2,none⟩) hql).trans s2
   have m3:=(hG.cell (p:=⟨ql,ol+3,none⟩) hql).trans s3
   exact Go.Grow.ok_val (by simp [execOp,go_sem,e31,m0,m1,m2,m3]) ⟨Below.refl _ _,rfl⟩
  case o12=>
   have e28:ev (.tmp 28)=_:=hD 7 28 (by kernel_rfl)
   have e32:ev (.tmp 32)=_:=hD 11 32 (by kernel_rfl)
   exact Go.Grow.ok_call (f:=60) (args:=#[.agg #[.string (bs put)],.agg #[.int .i64 a.op,.string (bs a.name),.slice ps a.x.length cs,.slice qs a.l.length ds]]) (by simp [execOp,go_sem,hc,hf,e28,e32]) (mkp (hSa W' lo _ (Nat.le_trans hlo1 hG.size) (SR.later hG _ _ Xs)))
  case o13=>
   obtain ⟨g21,l21,e21,s21⟩:=seq_form (show Seq lo W' (ev (.tmp 21)) _ from hD 0 21 (by kernel_rfl))
   obtain ⟨g27,l27,e27,s27⟩:=seq_form (show Seq lo W' (ev (.tmp 27)) _ from hD 6 27 (by kernel_rfl))
   obtain ⟨g33,l33,e33,s33⟩:=seq_form (show Seq lo W' (ev (.tmp 33)) _ from hD 12 33 (by kernel_rfl))
   have hn:=each_new (W:=W1) (V:=W') hG (fs:=[.func (.func g21) #[] l21,.func (.func g27) #[] l27,.func (.func g33) #[] l33]) (ls:=[[wdT [105,102]],inT 40 41 (exprT (xa)),stmtT put (a)]) (by simp) (hloe ▸ ⟨s21,s27,s33,trivial⟩)
   exact Go.Grow.ok_new (v:=.slice (some ⟨W'.heap.size,0,none⟩) 3 3) (W':=W'.alloc (.cells #[.func (.func g21) #[] l21,.func (.func g27) #[] l27,.func (.func g33) #[] l33] 79)) (by simp [execOp,go_sem,e21,e27,e33]) ⟨(Below.refl _ _).alloc (Nat.le_refl _) _,_,⟨_,_,rfl⟩,hn⟩
  case o14=>
   have s34:∃ fs,(∃ q c,(ev (.tmp 34))=.slice q fs.length c)∧EachS W1 (ev (.tmp 34)) fs [[wdT [105,102]],inT 40 41 (exprT (xa)),stmtT put (a)] W':=hD 13 34 (by kernel_rfl)
   exact Go.Grow.ok_val (by simp [execOp,go_sem]) ⟨Below.refl _ _,s34⟩
 case hfin=>
  intro zz W5 hG5 hzz
  have h9:∃ fs,(∃ q c,(zz 14)=.slice q fs.length c)∧EachS W1 (zz 14) fs [[wdT [105,102]],inT 40 41 (exprT (xa)),stmtT put (a)] W5:=hzz 14 (by simp)
  simp only [Go.Grow.putAll,Act.put,List.setIfInBounds_toArray,List.set_cons_zero,List.set_cons_succ]
  obtain ⟨fs,⟨q5,k5,e5⟩,hE0⟩:=h9
  rw [e5] at hE0 ⊢
  clear e5 hzz
  have hfl:=hE0.lies.len
  simp only [List.length_cons,List.length_nil] at hfl
  have hGs:=hG5.size
  have y0:=(hG5.cell (p:=⟨W.heap.size,0,none⟩) hbl0).trans y0_0
  have y3:=(hG5.cell (p:=⟨W.heap.size+1,3,none⟩) hbl1).trans y1_3
  have t0':=(hG5.cell (p:=⟨ql,ol+4,none⟩) hql).trans t0
  have t1':=(hG5.cell (p:=⟨ql,ol+5,none⟩) hql).trans t1
  have t2':=(hG5.cell (p:=⟨ql,ol+6,none⟩) hql).trans t2
  have t3':=(hG5.cell (p:=⟨ql,ol+7,none⟩) hql).trans t3
  have Xt':=SR.later hG5 _ _ Xt
  have hd:decide (b.op=2)=false:=by simpa using hb
  have hd2:(b.op == 2)=false:=by simpa using hb
  have hlp:=List.length_pos_iff.2 hl
  have hm:decide (0<b.l.length)=true:=by simpa using hlp
  have hm2:decide (0<(b.l.length:Int))=true:=by simp;omega
  have hm3:(0:Int)<(b.l.length:Int):=by omega
  clear hb hl
  obtain ⟨out,hout⟩:∃ out,out=Value.slice q5 fs.length k5:=⟨_,rfl⟩
  rw [← hout] at hE0 ⊢
  have HE0:=hid hE0
  have HOUT:=hid hout
  clear hE0 hout
  go_wp2_with fail
  obtain ⟨hb8,hs8,hB8⟩:=one_box W5 (.cells #[.int .i64 b.op,.string (bs b.name),.slice pt b.x.length ct,.slice qt b.l.length dt] 31)
  generalize W5.alloc (.cells #[.int .i64 b.op,.string (bs b.name),.slice pt b.x.length ct,.slice qt b.l.length dt] 31)=W8 at *
  have hE8:=hid (HE0.out.later hB8)
  obtain ⟨lo2,hloe2⟩:∃ lo,lo=W8.heap.size:=⟨_,rfl⟩
  have hlo1:lo2≤W8.heap.size:=Nat.le_of_eq hloe2
  have hW0lo:W1.heap.size≤lo2:=by omega
  have hrow:∀ r,out.ownBlock=some r→r<lo2:=fun r hr=>by rw [hloe2];exact (hE8.out.lt r hr).2
  have hbl0:W.heap.size<W8.heap.size:=by omega
  have hbl6:W5.heap.size<W8.heap.size:=by omega
  have y0_0:=(hB8.cell (p:=⟨W.heap.size,0,none⟩) (by show W.heap.size<W5.heap.size;omega)).trans y0
  have b0:=box_at hb8 0 (v:=.int .i64 b.op) rfl
  have b1:=box_at hb8 1 (v:=.string (bs b.name)) rfl
  have b2:=box_at hb8 2 (v:=.slice pt b.x.length ct) rfl
  have b3:=box_at hb8 3 (v:=.slice qt b.l.length dt) rfl
  have Xt8:=SR.later hB8 _ _ Xt'
  have hz8:=hE8.out.bel.size
  clear hb8 y0 y3 t0' t1' t2' t3' Xt'
  refine Go.GrowQ.region_grow_p (appG (out.ownBlock) 6) (appH out.ownBlock) 6 (appSp W1 lo2 6 [.is (out),.seq ([wdT [101,108,115,101]]),.is (.agg #[.string (bs put)]),.is (.agg #[.int .i64 b.op,.string (bs b.name),.slice pt b.x.length ct,.slice qt b.l.length dt]),.seq (stmtT put (b)),.blk [[wdT [101,108,115,101]],stmtT put (b)]] [[wdT [105,102]],inT 40 41 (exprT (xa)),stmtT put (a),[wdT [101,108,115,101]],stmtT put (b)])
   (by kernel_rfl) rfl (by kernel_rfl) (by kernel_rfl) (grw_drawn _) (Go.GrowQ.before_from (by kernel_rfl)) (app_tr out.ownBlock 6) (app_mono _ out.ownBlock lo2 6 hrow _ _) ?hops ?hfin
  case hops=>
   refine ⟨?o0,?o1,?o2,?o3,?o4,?o5,?o6,?o7,trivial⟩
   all_goals (intro ev W' hG hr hD;have hc:=hr.const;have hf:=hr.func)
   case o0=>
    have hG:Grw W8 W':=hG
    have e5:ev (.tmp 5)=out:=hr.old 5 (by kernel_rfl)
    exact Go.GrowQ.ok_val (by simp [execOp,go_sem,e5]) ⟨Below.refl _ _,rfl⟩
   case o1=>
    have hG:Grw W8 W':=hG
    refine Go.GrowQ.ok_call (f:=92) (args:=#[.string { data:=#[101,108,115,101] }]) (by simp [execOp,go_sem,hc,hf]) ?_
    have hlo':=Nat.le_trans hlo1 hG.size
    refine (sword_any [101,108,115,101] W' lo2 hlo').mono ?_
    rintro e W2 ⟨f,rfl,h1,h2⟩
    refine ⟨f,rfl,h2,?_⟩
    show Seq lo2 W2 f ([wdT [101,108,115,101]])
    exact h1
   case o2=>
    have hG:Grw W8 W':=hG
    have e2:ev (.tmp 2)=.pointer (some ⟨W.heap.size,0,none⟩):=hr.tmp 2 (by kernel_rfl)
    have m0:=(hG.cell (p:=⟨W.heap.size,0,none⟩) hbl0).trans y0_0
    exact Go.GrowQ.ok_val (by simp [execOp,go_sem,e2,m0]) ⟨Below.refl _ _,rfl⟩
   case o3=>
    have hG:Grw W8 W':=hG
    have e6:ev (.tmp 6)=.pointer (some ⟨W5.heap.size,0,none⟩):=hr.tmp 6 (by kernel_rfl)
    have m0:=(hG.cell (p:=⟨W5.heap.size,0,none⟩) hbl6).trans b0
    have m1:=(hG.cell (p:=⟨W5.heap.size,1,none⟩) hbl6).trans b1
    have m2:=(hG.cell (p:=⟨W5.heap.size,2,none⟩) hbl6).trans b2
    have m3:=(hG.cell (p:=⟨W5.heap.size,3,none⟩) hbl6).trans b3
    exact Go.GrowQ.ok_val (by simp [execOp,go_sem,e6,m0,m1,m2,m3]) ⟨Below.refl _ _,rfl⟩
   case o4=>
    have hG:Grw W8 W':=hG
    have e50:ev (.tmp 50)=_:=hD 2 50 (by kernel_rfl)
    have e51:ev (.tmp 51)=_:=hD 3 51 (by kernel_rfl)
    refine Go.GrowQ.ok_call (f:=60) (args:=#[.agg #[.string (bs put)],.agg #[.int .i64 b.op,.string (bs b.name),.slice pt b.x.length ct,.slice qt b.l.length dt]]) (by simp [execOp,go_sem,hc,hf,e50,e51]) ?_
    have hlo':=Nat.le_trans hlo1 hG.size
    refine (hSb W' lo2 _ hlo' (SR.later hG _ _ Xt8)).mono ?_
    rintro e W2 ⟨f,rfl,h1,h2⟩
    refine ⟨f,rfl,h2,?_⟩
    show Seq lo2 W2 f (stmtT put (b))
    exact h1
   case o5=>
    have hG:Grw W8 W':=hG
    obtain ⟨g49,l49,e49,s49⟩:=seq_form (show Seq lo2 W' (ev (.tmp 49)) ([wdT [101,108,115,101]]) from hD 1 49 (by kernel_rfl))
    obtain ⟨g52,l52,e52,s52⟩:=seq_form (show Seq lo2 W' (ev (.tmp 52)) (stmtT put (b)) from hD 4 52 (by kernel_rfl))
    have hn:=blk_new (lo:=lo2) (W:=W') (fs:=[.func (.func g49) #[] l49,.func (.func g52) #[] l52]) (ls:=[[wdT [101,108,115,101]],stmtT put (b)]) ⟨s49,s52,trivial⟩ (Nat.le_trans hlo1 hG.size)
    exact Go.GrowQ.ok_new (v:=.slice (some ⟨W'.heap.size,0,none⟩) 2 2) (W':=W'.alloc (.cells #[.func (.func g49) #[] l49,.func (.func g52) #[] l52] 79)) (by simp [execOp,go_sem,e49,e52]) ⟨hn.2,hn.1⟩
   case o6=>
    have hG:Grw W8 W':=hG
    have e48:ev (.tmp 48)=_:=hD 0 48 (by kernel_rfl)
    obtain ⟨b,gs,e53,hb1,hblk,hgs⟩:Spc.ok lo2 (.blk [[wdT [101,108,115,101]],stmtT put (b)]) W' (ev (.tmp 53)):=hD 5 53 (by kernel_rfl)
    have hgl:gs.length=2:=(allSeq_get hgs).1
    obtain ⟨g,cap,w',hrun,hgb,hE2⟩:=app_step (hE8.out.later hG) hW0lo hrow hblk hgs (by omega) (by omega) 121 2
    rw [hgl] at hrun
    simp only [List.length_cons,List.length_nil] at e53
    exact Go.GrowQ.ok_new (v:=.slice (some ⟨g,0,none⟩) (fs.length+2) cap) (W':=w') (by simp [execOp,resolve,invoke,builtin,e48,e53,hrun,Result.andThen]) ⟨hgb,fs ++ gs,⟨some ⟨g,0,none⟩,cap,by show Value.slice _ (fs.length+2) _=Value.slice _ _ _;rw [List.length_append,hgl]⟩,by rw [hgl] at hE2;exact hE2⟩
   case o7=>
    have hG:W8.grownBy W' out.ownBlock:=hG
    have s54:∃ fs,(∃ q c,(ev (.tmp 54))=.slice q fs.length c)∧EachS W1 (ev (.tmp 54)) fs [[wdT [105,102]],inT 40 41 (exprT (xa)),stmtT put (a),[wdT [101,108,115,101]],stmtT put (b)] W':=hD 6 54 (by kernel_rfl)
    exact Go.GrowQ.ok_val (by simp [execOp,go_sem]) ⟨Below.refl _ _,s54⟩
  case hfin=>
   intro zz W9 hG9 hzz
   have hG9:W8.grownBy W9 out.ownBlock:=hG9
   have h9:∃ fs,(∃ q c,(zz 7)=.slice q fs.length c)∧EachS W1 (zz 7) fs [[wdT [105,102]],inT 40 41 (exprT (xa)),stmtT put (a),[wdT [101,108,115,101]],stmtT put (b)] W9:=hzz 7 (by simp)
   simp only [Go.GrowQ.putAll,Act.put,List.setIfInBounds_toArray,List.set_cons_zero,List.set_cons_succ]
   obtain ⟨fs2,⟨q9,k9,e9⟩,hE9⟩:=h9
   rw [e9] at hE9 ⊢
   clear e9 hzz
   have HROW:=hid (row_any _ _ (by simp) W9 W1.heap.size hE9.bel.size hE9.seqs)
   go_wp2_with (go_at_call 91;refine HROW.out.mono ?_;rintro e W6 ⟨f,rfl,h1,h2⟩;have S6:=hid h1;have B6:=hid h2;clear h1 h2)
   go_ret
   have hz1:=hW1.size
   have hz2:=hE9.bel.size
   refine ⟨_,rfl,IsSeq.later S6.out hlo0 (KeptL.refl _ _),hW1.trans ((hE9.bel.trans (B6.out.mono (by omega))).mono hz1)⟩
theorem stmt_if_no (W:World) (put name:Ln) (xa:X) (a b:S) (iha:ExprOK xa) (hSa:StmtOK put a) (hSb:StmtOK put b) (hb:b.op ≠ 2) (hl:b.l=[]) (qx ox cx ql ol cl:Nat) (hqx0:qx<W.heap.size) (hql0:ql<W.heap.size) (lo0:Nat) (hloW:lo0≤W.heap.size)
  (za:XAt W qx ox xa) (zs:SAt W ql ol a) (zt:SAt W ql (ol+4) b) :
  Calls Tryz.prog 60 #[.agg #[.string (bs put)],.agg #[.int .i64 2,.string (bs name),.slice (some ⟨qx,ox,none⟩) 1 cx,.slice (some ⟨ql,ol,none⟩) 2 cl]] W (MkPost lo0 W (List.flatten [[wdT ifW],inT 40 41 (exprT xa),stmtT put a])):=by
 go_enter Tryz.func60,Tryz.ntmps60
 go_wp2_with fail
 obtain ⟨hbx0,hbx1,hls,hW1⟩:=two_boxes W (.cells #[.string (bs put)] 91) (.cells #[.int .i64 2,.string (bs name),.slice (some ⟨qx,ox,none⟩) 1 cx,.slice (some ⟨ql,ol,none⟩) 2 cl] 31)
 generalize (W.alloc (.cells #[.string (bs put)] 91)).alloc (.cells #[.int .i64 2,.string (bs name),.slice (some ⟨qx,ox,none⟩) 1 cx,.slice (some ⟨ql,ol,none⟩) 2 cl] 31)=W1 at *
 have hlo0:lo0≤W1.heap.size:=by omega
 obtain ⟨lo,hloe⟩:∃ lo,lo=W1.heap.size:=⟨_,rfl⟩
 have hlo1:lo≤W1.heap.size:=Nat.le_of_eq hloe
 have hbl0:W.heap.size<W1.heap.size:=by omega
 have y0_0:=box_at hbx0 0 (v:=.string (bs put)) rfl
 have hbl1:W.heap.size+1<W1.heap.size:=by omega
 have y1_2:=box_at hbx1 2 (v:=.slice (some ⟨qx,ox,none⟩) 1 cx) rfl
 have y1_3:=box_at hbx1 3 (v:=.slice (some ⟨ql,ol,none⟩) 2 cl) rfl
 clear hls hbx0 hbx1
 have hqx:qx<W1.heap.size:=Nat.lt_of_lt_of_le hqx0 hW1.size
 have hql:ql<W1.heap.size:=Nat.lt_of_lt_of_le hql0 hW1.size
 obtain ⟨pa,ca,a0,a1,a2,a3,a4,a5,Xa⟩:=XAt.later za hqx0 hW1
 obtain ⟨ps,cs,qs,ds,s0,s1,s2,s3,Xs⟩:=SAt.later zs hql0 hW1
 obtain ⟨pt,ct,qt,dt,t0,t1,t2,t3,Xt⟩:=SAt.later zt hql0 hW1
 refine Go.Grow.region_grow Grw (appSp W1 lo 13 [.seq ([wdT [105,102]]),.is (.pointer (some ⟨W.heap.size+1,2,none⟩)),.is (.slice (some ⟨qx,ox,none⟩) 1 cx),.is (.pointer (some ⟨qx,ox,none⟩)),.is (.agg #[.int .i64 xa.op,.string (bs xa.name),.int .i64 xa.n,.int .i64 xa.w,.int .u64 xa.v,.slice pa xa.l.length ca]),.seq (exprT (xa)),.seq (inT 40 41 (exprT (xa))),.is (.agg #[.string (bs put)]),.is (.pointer (some ⟨W.heap.size+1,3,none⟩)),.is (.slice (some ⟨ql,ol,none⟩) 2 cl),.is (.pointer (some ⟨ql,ol,none⟩)),.is (.agg #[.int .i64 a.op,.string (bs a.name),.slice ps a.x.length cs,.slice qs a.l.length ds]),.seq (stmtT put (a))] [[wdT [105,102]],inT 40 41 (exprT (xa)),stmtT put (a)])
  (by kernel_rfl) rfl (by kernel_rfl) (by kernel_rfl) (grw_drawn _) grw_trans (appSp_grw _ _ _ _ _) ?hops ?hfin
 case hops=>
  refine ⟨?o0,?o1,?o2,?o3,?o4,?o5,?o6,?o7,?o8,?o9,?o10,?o11,?o12,?o13,?o14,trivial⟩
  all_goals (intro ev W' hG hr hD;have hc:=hr.const;have hf:=hr.func)
  case o0=>
   exact Go.Grow.ok_call (f:=92) (args:=#[.string { data:=#[105,102] }]) (by simp [execOp,go_sem,hc,hf]) (mkp (sword_any [105,102] W' lo (Nat.le_trans hlo1 hG.size)))
  case o1=>
   have e3:ev (.tmp 3)=.pointer (some ⟨W.heap.size+1,0,none⟩):=hr.tmp 3 (by kernel_rfl)
   exact Go.Grow.ok_val (by simp [execOp,go_sem,e3]) ⟨Below.refl _ _,rfl⟩
  case o2=>
   have e22:ev (.tmp 22)=_:=hD 1 22 (by kernel_rfl)
   have m0:=(hG.cell (p:=⟨W.heap.size+1,2,none⟩) hbl1).trans y1_2
   exact Go.Grow.ok_val (by simp [execOp,go_sem,e22,m0]) ⟨Below.refl _ _,rfl⟩
  case o3=>
   have e23:ev (.tmp 23)=_:=hD 2 23 (by kernel_rfl)
   exact Go.Grow.ok_val (by simp [execOp,go_sem,e23,hc]) ⟨Below.refl _ _,rfl⟩
  case o4=>
   have e24:ev (.tmp 24)=_:=hD 3 24 (by kernel_rfl)
   obtain ⟨m0,m1,m2,m3,m4,m5⟩:=six_later hG hqx a0 a1 a2 a3 a4 a5
   exact Go.Grow.ok_val (by simp [execOp,go_sem,e24,m0,m1,m2,m3,m4,m5]) ⟨Below.refl _ _,rfl⟩
  case o5=>
   have e25:ev (.tmp 25)=_:=hD 4 25 (by kernel_rfl)
   exact Go.Grow.ok_call (f:=56) (args:=#[.agg #[.int .i64 xa.op,.string (bs xa.name),.int .i64 xa.n,.int .i64 xa.w,.int .u64 xa.v,.slice pa xa.l.length ca]]) (by simp [execOp,go_sem,hc,hf,e25]) (mkp (iha W' lo _ (Nat.le_trans hlo1 hG.size) (XR.later hG _ _ Xa)))
  case o6=>
   have s26:Seq lo W' (ev (.tmp 26)) _:=hD 5 26 (by kernel_rfl)
   exact Go.Grow.ok_call (f:=95) (args:=#[.string { data:=#[40,41] },ev (.tmp 26)]) (by simp [execOp,go_sem,hc,hf]) (mkp (in_any 40 41 _ _ W' lo (Nat.le_trans hlo1 hG.size) s26))
  case o7=>
   have e2:ev (.tmp 2)=.pointer (some ⟨W.heap.size,0,none⟩):=hr.tmp 2 (by kernel_rfl)
   have m0:=(hG.cell (p:=⟨W.heap.size,0,none⟩) hbl0).trans y0_0
   exact Go.Grow.ok_val (by simp [execOp,go_sem,e2,m0]) ⟨Below.refl _ _,rfl⟩
  case o8=>
   have e3:ev (.tmp 3)=.pointer (some ⟨W.heap.size+1,0,none⟩):=hr.tmp 3 (by kernel_rfl)
   exact Go.Grow.ok_val (by simp [execOp,go_sem,e3]) ⟨Below.refl _ _,rfl⟩
  case o9=>
   have e29:ev (.tmp 29)=_:=hD 8 29 (by kernel_rfl)
   have m0:=(hG.cell (p:=⟨W.heap.size+1,3,none⟩) hbl1).trans y1_3
   exact Go.Grow.ok_val (by simp [execOp,go_sem,e29,m0]) ⟨Below.refl _ _,rfl⟩
  case o10=>
   have e30:ev (.tmp 30)=_:=hD 9 30 (by kernel_rfl)
   exact Go.Grow.ok_val (by simp [execOp,go_sem,e30,hc]) ⟨Below.refl _ _,rfl⟩
  case o11=>
   have e31:ev (.tmp 31)=_:=hD 10 31 (by kernel_rfl)
   have m0:=(hG.cell (p:=⟨ql,ol,none⟩) hql).trans s0
   have m1:=(hG.cell (p:=⟨ql,ol+1,none⟩) hql).trans s1
   have m2:=(hG.cell (p:=⟨ql,ol+2,none⟩) hql).trans s2
   have m3:=(hG.cell (p:=⟨ql,ol+3,none⟩) hql).trans s3
   exact Go.Grow.ok_val (by simp [execOp,go_sem,e31,m0,m1,m2,m3]) ⟨Below.refl _ _,rfl⟩
  case o12=>
   have e28:ev (.tmp 28)=_:=hD 7 28 (by kernel_rfl)
   have e32:ev (.tmp 32)=_:=hD 11 32 (by kernel_rfl)
   exact Go.Grow.ok_call (f:=60) (args:=#[.agg #[.string (bs put)],.agg #[.int .i64 a.op,.string (bs a.name),.slice ps a.x.length cs,.slice qs a.l.length ds]]) (by simp [execOp,go_sem,hc,hf,e28,e32]) (mkp (hSa W' lo _ (Nat.le_trans hlo1 hG.size) (SR.later hG _ _ Xs)))
  case o13=>
   obtain ⟨g21,l21,e21,s21⟩:=seq_form (show Seq lo W' (ev (.tmp 21)) _ from hD 0 21 (by kernel_rfl))
   obtain ⟨g27,l27,e27,s27⟩:=seq_form (show Seq lo W' (ev (.tmp 27)) _ from hD 6 27 (by kernel_rfl))
   obtain ⟨g33,l33,e33,s33⟩:=seq_form (show Seq lo W' (ev (.tmp 33)) _ from hD 12 33 (by kernel_rfl))
   have hn:=each_new (W:=W1) (V:=W') hG (fs:=[.func (.func g21) #[] l21,.func (.func g27) #[] l27,.func (.func g33) #[] l33]) (ls:=[[wdT [105,102]],inT 40 41 (exprT (xa)),stmtT put (a)]) (by simp) (hloe ▸ ⟨s21,s27,s33,trivial⟩)
   exact Go.Grow.ok_new (v:=.slice (some ⟨W'.heap.size,0,none⟩) 3 3) (W':=W'.alloc (.cells #[.func (.func g21) #[] l21,.func (.func g27) #[] l27,.func (.func g33) #[] l33] 79)) (by simp [execOp,go_sem,e21,e27,e33]) ⟨(Below.refl _ _).alloc (Nat.le_refl _) _,_,⟨_,_,rfl⟩,hn⟩
  case o14=>
   have s34:∃ fs,(∃ q c,(ev (.tmp 34))=.slice q fs.length c)∧EachS W1 (ev (.tmp 34)) fs [[wdT [105,102]],inT 40 41 (exprT (xa)),stmtT put (a)] W':=hD 13 34 (by kernel_rfl)
   exact Go.Grow.ok_val (by simp [execOp,go_sem]) ⟨Below.refl _ _,s34⟩
 case hfin=>
  intro zz W5 hG5 hzz
  have h9:∃ fs,(∃ q c,(zz 14)=.slice q fs.length c)∧EachS W1 (zz 14) fs [[wdT [105,102]],inT 40 41 (exprT (xa)),stmtT put (a)] W5:=hzz 14 (by simp)
  simp only [Go.Grow.putAll,Act.put,List.setIfInBounds_toArray,List.set_cons_zero,List.set_cons_succ]
  obtain ⟨fs,⟨q5,k5,e5⟩,hE0⟩:=h9
  rw [e5] at hE0 ⊢
  clear e5 hzz
  have hfl:=hE0.lies.len
  simp only [List.length_cons,List.length_nil] at hfl
  have hGs:=hG5.size
  have y0:=(hG5.cell (p:=⟨W.heap.size,0,none⟩) hbl0).trans y0_0
  have y3:=(hG5.cell (p:=⟨W.heap.size+1,3,none⟩) hbl1).trans y1_3
  have t0':=(hG5.cell (p:=⟨ql,ol+4,none⟩) hql).trans t0
  have t1':=(hG5.cell (p:=⟨ql,ol+5,none⟩) hql).trans t1
  have t2':=(hG5.cell (p:=⟨ql,ol+6,none⟩) hql).trans t2
  have t3':=(hG5.cell (p:=⟨ql,ol+7,none⟩) hql).trans t3
  have Xt':=SR.later hG5 _ _ Xt
  have hd:decide (b.op=2)=false:=by simpa using hb
  have hd2:(b.op == 2)=false:=by simpa using hb
  have hlp:b.l.length=0:=by simp [hl]
  have hm:decide (0<b.l.length)=false:=by simp [hlp]
  have hm2:decide (0<(b.l.length:Int))=false:=by simp [hlp]
  have hm3:¬ (0:Int)<(b.l.length:Int):=by omega
  clear hb hl
  obtain ⟨out,hout⟩:∃ out,out=Value.slice q5 fs.length k5:=⟨_,rfl⟩
  rw [← hout] at hE0 ⊢
  have HE0:=hid hE0
  have HOUT:=hid hout
  clear hE0 hout
  obtain ⟨W8,hW8⟩:∃ W8,W8=W5.alloc (.cells #[.int .i64 b.op,.string (bs b.name),.slice pt b.x.length ct,.slice qt 0 dt] 31):=⟨_,rfl⟩
  have hB8:Below W5.heap.size W5 W8:=by rw [hW8];exact (Below.refl _ _).alloc (Nat.le_refl _) _
  have hE8:=hid (HE0.out.later hB8)
  have HROW:=hid (row_any out _ (by simp) W8 W1.heap.size hE8.out.bel.size hE8.out.seqs)
  subst hW8
  go_wp2_with (go_at_call 91;refine HROW.out.mono ?_;rintro e W6 ⟨f,rfl,h1,h2⟩;have S6:=hid h1;have B6:=hid h2;clear h1 h2)
  go_ret
  have hz1:=hW1.size
  have hz2:=hE8.out.bel.size
  refine ⟨_,rfl,IsSeq.later S6.out hlo0 (KeptL.refl _ _),hW1.trans ((hE8.out.bel.trans (B6.out.mono (by omega))).mono hz1)⟩
end Go.Proofs.YtlcfpdmicpggbaaGreatDoor
namespace Go.Proofs.YtlcfpdmicpggbaaGreatDoor
open Go.Lib (hid)
open Go.RowKit Go.Proofs.Spl Go.Proofs.Scn Go.Shelf
theorem listT_one (a:X):listT [a]=exprT a:=by simp [listT,sepS]
theorem stmt_if (put name:Ln) (x:List X) (l:List S) (a:X) (s t:S) (hx:x=[a]) (hl:l=[s,t]) (iha:ExprOK a) (hs:StmtOK put s) (ht:StmtOK put t) (W:World) (lo:Nat) (hlo:lo≤W.heap.size) (cs:List Value) (hR:SR W (.mk 2 name x l) cs) :
  Calls Tryz.prog 60 #[.agg #[.string (bs put)],.agg cs.toArray] W (MkPost lo W (stmtT put (.mk 2 name x l))):=by
 obtain ⟨vx,vl,rfl,hX,hL⟩:=SR_iff.1 hR
 simp only [S.op,S.name,S.x,S.l] at *
 subst hx
 subst hl
 obtain ⟨px,cx,rfl,_,hX⟩:=hX
 obtain ⟨pl,cl,rfl,_,hL⟩:=hL
 rcases hX with h | ⟨qx,ox,rfl,hqx,hX⟩
 ·cases h
 rcases hL with h | ⟨ql,ol,rfl,hql,hL⟩
 ·cases h
 have za:XAt W qx ox a:=kidsX hX 0 a rfl
 have zs:SAt W ql ol s:=sls_at hL 0 s rfl
 have zt:SAt W ql (ol+4) t:=sls_at hL 1 t rfl
 by_cases h2:t.op=2
 ·have:=stmt_if_if W put name a s t iha hs ht h2 qx ox cx ql ol cl hqx hql lo hlo za zs zt
  refine (show stmtT put (.mk 2 name [a] [s,t])=List.flatten [[wdT ifW],inT 40 41 (exprT a),stmtT put s,[wdT elseW],stmtT put t] from ?_) ▸ this
  simp [stmtT,stmtsT,stT,listT_one,parT,inT,h2]
 ·by_cases hl:t.l=[]
  ·have:=stmt_if_no W put name a s t iha hs ht h2 hl qx ox cx ql ol cl hqx hql lo hlo za zs zt
   refine (show stmtT put (.mk 2 name [a] [s,t])=List.flatten [[wdT ifW],inT 40 41 (exprT a),stmtT put s] from ?_) ▸ this
   simp [stmtT,stmtsT,stT,listT_one,parT,inT,h2,hl]
  ·have:=stmt_if_els W put name a s t iha hs ht h2 hl qx ox cx ql ol cl hqx hql lo hlo za zs zt
   refine (show stmtT put (.mk 2 name [a] [s,t])=List.flatten [[wdT ifW],inT 40 41 (exprT a),stmtT put s,[wdT elseW],stmtT put t] from ?_) ▸ this
   simp [stmtT,stmtsT,stT,listT_one,parT,inT,h2,hl]
theorem stmt_arm (put:Ln) (hput:put ≠ []):∀ s:S,okSA s=true→sizeS s≤1000000→(s.op ≠ 4→StmtOK put s)∧(s.op=4→ArmOK put s):=by
 refine S.ind ?_
 intro s ih hs hsz
 obtain ⟨op,name,x,l⟩:=s
 have hs':=hs
 rw [okSA_iff] at hs'
 rw [sizeS_eq,sizeXs_sum,sizeSs_sum] at hsz
 simp only [S.op,S.name,S.x,S.l,Bool.and_eq_true,List.all_eq_true] at *
 obtain ⟨⟨⟨hx,hst⟩,hk⟩,hl⟩:=hs'
 have hE:∀ y ∈ x,ExprOK y:=fun y hy=>expr_ok y (hx y hy) (by have:=sumN_mem sizeX hy;omega)
 have hxl:x.length≤1000000:=by have:=sumN_len sizeX one_sizeX x;omega
 have hll:l.length≤1000000:=by have:=sumN_len sizeS one_sizeS l;omega
 have hI:∀ y ∈ l,(y.op ≠ 4→StmtOK put y)∧(y.op=4→ArmOK put y):=fun y hy=>ih y hy (hl y hy) (by have:=sumN_mem sizeS hy;omega)
 have hArm:op=3→∀ y ∈ l,ArmOK put y:=by
  intro e y hy
  refine (hI y hy).2 ?_
  rw [kindO,if_pos e] at hk
  have:∀ l:List S,armsO l=true→∀ y ∈ l,y.op=4:=by
   intro l
   induction l with
   | nil=>intro _ y hy;cases hy
   | cons a r ihr=>
    intro h y hy
    simp only [armsO,Bool.and_eq_true,beq_iff_eq] at h
    rcases List.mem_cons.1 hy with rfl | hy
    ·exact h.1.1
    ·exact ihr h.2 y hy
  exact this l hk y hy
 have hSt:op ≠ 3→∀ y ∈ l,StmtOK put y:=by
  intro e y hy
  refine (hI y hy).1 ?_
  rw [kindO,if_neg e] at hk
  have:=List.all_eq_true.1 hk y hy
  simpa using this
 refine ⟨fun h4=>?_,fun h4=>?_⟩
 ·intro W lo cs hlo hR
  have hR0:=hR
  obtain ⟨vx,vl,rfl,hX,hL⟩:=SR_iff.1 hR
  simp only [S.op,S.name,S.x,S.l] at *
  have hX0:=hX
  have hL0:=hL
  obtain ⟨px,cx,rfl,_,hX⟩:=hX
  obtain ⟨pl,cl,rfl,_,hL⟩:=hL
  have hop:op=1∨op=2∨op=3∨op=5∨op=6:=by
   unfold okSt at hst
   repeat' split at hst
   all_goals first | omega | exact absurd hst (by simp)
  rcases hop with e | e | e | e | e
  ·subst e
   have:=stmt_assign put hput name x hxl hE px pl l.length cx cl W lo hlo hX0
   refine (show stmtT put (.mk 1 name x l)=List.flatten [sepS put (x.map exprT),[sgT [59]]] from ?_) ▸ this
   simp [stmtT,stT]
  ·subst e
   unfold okSt at hst
   simp only [show ¬ (2:Int)=1 by decide,if_false,if_true,Bool.and_eq_true,beq_iff_eq] at hst
   obtain ⟨⟨_,hx1⟩,hl2⟩:=hst
   match x,hx1,l,hl2 with
   | [a],_,[s,t],hl2=>exact stmt_if put name [a] [s,t] a s t rfl rfl (hE a (by simp)) (hSt (by decide) s (by simp)) (hSt (by decide) t (by simp)) W lo hlo _ hR0
  ·subst e
   unfold okSt at hst
   simp only [show ¬ (3:Int)=1 by decide,show ¬ (3:Int)=2 by decide,if_false,if_true,Bool.and_eq_true,beq_iff_eq] at hst
   obtain ⟨⟨_,hx1⟩,_⟩:=hst
   match x,hx1 with
   | [a],_=>
    rcases hX with h | ⟨qx,ox,rfl,hqx,hX⟩
    ·cases h
    have za:XAt W qx ox a:=kidsX hX 0 a rfl
    have:=stmt_case W put name a l hll (hE a (by simp)) (hArm rfl) qx ox hqx pl cx cl lo hlo za hL0
    refine (show stmtT put (.mk 3 name [a] l)=List.flatten [[wdT caseW],inT 40 41 (exprT a),inT 123 125 (l.map (stmtT put)).flatten] from ?_) ▸ this
    simp [stmtT,stT,stmtsT_map,listT_one,parT,inT,cubT]
  ·subst e
   have:=stmt_block put name l hll (hSt (by decide)) px pl x.length cx cl W lo hlo hL0
   refine (show stmtT put (.mk 5 name x l)=blockT put l from ?_) ▸ this
   simp [stmtT,stT,blockT]
  ·subst e
   have:=stmt_for put name x l hxl hll hE (hSt (by decide)) px pl cx cl W lo hlo hX0 hL0
   refine (show stmtT put (.mk 6 name x l)=List.flatten [[wdT forW],spanT name x,blockT put l] from ?_) ▸ this
   simp [stmtT,stT,blockT]
 ·intro W lo cs hlo hR
  obtain ⟨vx,vl,rfl,hX,hL⟩:=SR_iff.1 hR
  simp only [S.op,S.name,S.x,S.l] at *
  have hX0:=hX
  have hL0:=hL
  obtain ⟨px,cx,rfl,_,hX⟩:=hX
  obtain ⟨pl,cl,rfl,_,hL⟩:=hL
  have hS:=hSt (by omega)
  subst h4
  by_cases hx0:x=[]
  ·by_cases hl0:l=[]
   ·subst hx0
    subst hl0
    exact arm_void put name 4 px pl cx cl W lo hlo
   ·subst hx0
    have:=arm_none put name 4 l hl0 hll hS px pl cx cl W lo hlo hL0
    refine (show stmtT put (.mk 4 name [] l)=List.flatten [[wdT elseW],[sgT [58]],blockT put l] from ?_) ▸ this
    simp [stmtT,stT,blockT,hl0]
  ·have:=arm_some put name 4 x l hx0 hxl hll hE hS px pl cx cl W lo hlo hX0 hL0
   refine (show stmtT put (.mk 4 name x l)=List.flatten [listT x,[sgT [58]],blockT put l] from ?_) ▸ this
   simp [stmtT,stT,blockT,hx0]
theorem stmt_ok (put:Ln) (hput:put ≠ []) (s:S) (h:okS s=true) (hsz:sizeS s≤1000000):StmtOK put s:=by
 unfold okS at h
 rw [Bool.and_eq_true] at h
 exact (stmt_arm put hput s h.2 hsz).1 (by simpa using h.1)
end Go.Proofs.YtlcfpdmicpggbaaGreatDoor
namespace Go.Proofs.YtlcfpdmicpggbaaGreatDoor
open Go.Lib (hid)
open Go.RowKit Go.Proofs.Spl Go.Proofs.Scn Go.Shelf
def zipT:List Ln→List X→List (List Tok)
 | s :: sg,y :: x=>[sgT s] :: exprT y :: zipT sg x
 | _,_=>[]
theorem zipT_take:∀ (sg:List Ln) (x:List X) (k:Nat) (h:k<sg.length) (h2:k<x.length),zipT (sg.take (k+1)) (x.take (k+1))=zipT (sg.take k) (x.take k) ++ [[sgT sg[k]],exprT x[k]]
 | s :: sg,y :: x,0,_,_=>rfl
 | s :: sg,y :: x,k+1,h,h2=>by
  have:=zipT_take sg x k (by simpa using h) (by simpa using h2)
  simp only [List.take_succ_cons,zipT,this,List.getElem_cons_succ,List.cons_append]
 | [],_,k,h,_=>by simp at h
 | _ :: _,[],k,_,h=>by simp at h
theorem zipT_len:∀ (sg:List Ln) (x:List X),(zipT sg x).length≤2 * x.length
 | s :: sg,y :: x=>by
  have:=zipT_len sg x
  simp only [zipT,List.length_cons]
  omega
 | [],_=>by simp [zipT]
 | _ :: _,[]=>by simp [zipT]
theorem told_any (w name f:Ln) (op:Int) (x:List X) (sg:List Ln) (hsg:sg.length=x.length) (hxl:x.length≤1000) (hE:∀ y ∈ x,ExprOK y) (qx ox cx qs cs:Nat) (vs vl ve vp vb:Value) (W:World) (lo0:Nat) (hloW:lo0≤W.heap.size) (hqx0:qx<W.heap.size) (hqs0:qs<W.heap.size)
  (hX:Spl.Rows W 6 (XR W) qx ox x) (hS:∀ k (h:k<sg.length),W.cell? ⟨qs,k,none⟩=some (.string (bs sg[k]))) :
  Calls Tryz.prog 207 #[.string (bs w),.agg #[.int .i64 op,.string (bs name),.string (bs f),.slice (some ⟨qx,ox,none⟩) x.length cx,vs,vl,ve,vp,vb],.slice (some ⟨qs,0,none⟩) sg.length cs] W (MkPost lo0 W (List.flatten ([[wdT w],[nmT name]] ++ zipT sg x ++ [[sgT [59]]]))):=by
 have HE:=hid hE
 have HX:=hid hX
 have HS:=hid hS
 clear hE hX hS
 go_enter Tryz.func207,Tryz.ntmps207
 go_wp2_with fail
 obtain ⟨hbx0,hls,hW1⟩:=one_box W (.cells #[.int .i64 op,.string (bs name),.string (bs f),.slice (some ⟨qx,ox,none⟩) x.length cx,vs,vl,ve,vp,vb] 133)
 generalize W.alloc (.cells #[.int .i64 op,.string (bs name),.string (bs f),.slice (some ⟨qx,ox,none⟩) x.length cx,vs,vl,ve,vp,vb] 133)=W1 at *
 have hlo0:lo0≤W1.heap.size:=by omega
 obtain ⟨lo,hloe⟩:∃ lo,lo=W1.heap.size:=⟨_,rfl⟩
 have hlo1:lo≤W1.heap.size:=Nat.le_of_eq hloe
 have hbl0:W.heap.size<W1.heap.size:=by omega
 have y0_1:=box_at hbx0 1 (v:=.string (bs name)) rfl
 have y0_3:=box_at hbx0 3 (v:=.slice (some ⟨qx,ox,none⟩) x.length cx) rfl
 clear hls hbx0
 refine Go.Grow.region_grow Grw (appSp W1 lo 5 [.is (.string (bs w)),.seq ([wdT (w)]),.is (.pointer (some ⟨W.heap.size,1,none⟩)),.is (.string (bs name)),.seq ([nmT (name)])] [[wdT (w)],[nmT (name)]])
  (by kernel_rfl) rfl (by kernel_rfl) (by kernel_rfl) (grw_drawn _) grw_trans (appSp_grw _ _ _ _ _) ?hops ?hfin
 case hops=>
  refine ⟨?o0,?o1,?o2,?o3,?o4,?o5,?o6,trivial⟩
  all_goals (intro ev W' hG hr hD;have hc:=hr.const;have hf:=hr.func)
  case o0=>
   have e0:ev (.tmp 0)=.string (bs w):=hr.tmp 0 (by kernel_rfl)
   exact Go.Grow.ok_val (by simp [execOp,go_sem,e0]) ⟨Below.refl _ _,rfl⟩
  case o1=>
   have e10:ev (.tmp 10)=_:=hD 0 10 (by kernel_rfl)
   exact Go.Grow.ok_call (f:=92) (args:=#[.string (bs w)]) (by simp [execOp,go_sem,hc,hf,e10]) (mkp (sword_any (w) W' lo (Nat.le_trans hlo1 hG.size)))
  case o2=>
   have e4:ev (.tmp 4)=.pointer (some ⟨W.heap.size,0,none⟩):=hr.tmp 4 (by kernel_rfl)
   exact Go.Grow.ok_val (by simp [execOp,go_sem,e4]) ⟨Below.refl _ _,rfl⟩
  case o3=>
   have e12:ev (.tmp 12)=_:=hD 2 12 (by kernel_rfl)
   have m0:=(hG.cell (p:=⟨W.heap.size,1,none⟩) hbl0).trans y0_1
   exact Go.Grow.ok_val (by simp [execOp,go_sem,e12,m0]) ⟨Below.refl _ _,rfl⟩
  case o4=>
   have e13:ev (.tmp 13)=_:=hD 3 13 (by kernel_rfl)
   exact Go.Grow.ok_call (f:=93) (args:=#[.string (bs name)]) (by simp [execOp,go_sem,hc,hf,e13]) (mkp (sname_any (name) W' lo (Nat.le_trans hlo1 hG.size)))
  case o5=>
   obtain ⟨g11,l11,e11,s11⟩:=seq_form (show Seq lo W' (ev (.tmp 11)) _ from hD 1 11 (by kernel_rfl))
   obtain ⟨g14,l14,e14,s14⟩:=seq_form (show Seq lo W' (ev (.tmp 14)) _ from hD 4 14 (by kernel_rfl))
   have hn:=each_new (W:=W1) (V:=W') hG (fs:=[.func (.func g11) #[] l11,.func (.func g14) #[] l14]) (ls:=[[wdT (w)],[nmT (name)]]) (by simp) (hloe ▸ ⟨s11,s14,trivial⟩)
   exact Go.Grow.ok_new (v:=.slice (some ⟨W'.heap.size,0,none⟩) 2 2) (W':=W'.alloc (.cells #[.func (.func g11) #[] l11,.func (.func g14) #[] l14] 79)) (by simp [execOp,go_sem,e11,e14]) ⟨(Below.refl _ _).alloc (Nat.le_refl _) _,_,⟨_,_,rfl⟩,hn⟩
  case o6=>
   have s15:∃ fs,(∃ q c,(ev (.tmp 15))=.slice q fs.length c)∧EachS W1 (ev (.tmp 15)) fs [[wdT (w)],[nmT (name)]] W':=hD 5 15 (by kernel_rfl)
   exact Go.Grow.ok_val (by simp [execOp,go_sem]) ⟨Below.refl _ _,s15⟩
 case hfin=>
  intro zz W5 hG5 hzz
  have h9:∃ fs,(∃ q c,(zz 6)=.slice q fs.length c)∧EachS W1 (zz 6) fs [[wdT (w)],[nmT (name)]] W5:=hzz 6 (by simp)
  simp only [Go.Grow.putAll,Act.put,List.setIfInBounds_toArray,List.set_cons_zero,List.set_cons_succ]
  obtain ⟨fs0,⟨q5,k5,e5⟩,hE0⟩:=h9
  rw [e5] at hE0 ⊢
  clear e5 hzz
  have HE0:=hid hE0
  have HW1:=hid hW1
  have HL0:=hid hlo0
  have HG5:=hid hG5
  have HB:=hid hbl0
  have HLE:=hid hloe
  have HSG:=hid hsg
  have HXL:=hid hxl
  have HQX:=hid hqx0
  have HQS:=hid hqs0
  have Y1:=hid y0_1
  have Y3:=hid y0_3
  clear hE0 hW1 hlo0 hG5 hbl0 hloe hsg hxl hqx0 hqs0 y0_1 y0_3 hlo1 hloW
  go_wp2_with fail
  go_loopw [7,18] (fun out i wr=>∃ (k:Nat) (fs:List Value),i=.int .i64 k∧k≤sg.length∧(∃ p c,out=.slice p fs.length c)∧Hid (EachS W1 out fs ([[wdT w],[nmT name]] ++ zipT (sg.take k) (x.take k)) wr)) (fun _ i _=>sg.length - (intOf i).toNat)
  case atStart=>exact ⟨0,fs0,rfl,Nat.zero_le _,⟨_,_,rfl⟩,HE0⟩
  case round=>
   obtain ⟨k,fs,rfl,hk,⟨po,co,rfl⟩,HS0⟩:=hrel
   by_cases hlt:k<sg.length
   ·have hlt':(k:Int)<(sg.length:Int):=by omega
    have hkx:k<x.length:=by have:=HSG.out;omega
    have hlk:(k:Int)<(x.length:Int):=by omega
    have hBa:=HW1.out.trans (HS0.out.bel.mono HW1.out.size)
    have hs0:=(hBa.cell (p:=⟨qs,k,none⟩) HQS.out).trans (HS.out k hlt)
    obtain ⟨px,cx2,a0,a1,a2,a3,a4,a5,Xa⟩:=XAt.later (els_at HX.out k hkx) HQX.out hBa
    have hel:=HE.out _ (List.getElem_mem hkx)
    have HT:=hid (zipT_take sg x k hlt hkx)
    have hfl:fs.length=2+(zipT (sg.take k) (x.take k)).length:=by rw [HS0.out.lies.len];simp;omega
    have hfl2:=zipT_len (sg.take k) (x.take k)
    rw [List.length_take,Nat.min_eq_left (Nat.le_of_lt hkx)] at hfl2
    have HFL:=hid (show fs.length≤2002 by have:=HXL.out;omega)
    clear hfl hfl2
    generalize x[k]=y at *
    generalize sg[k]=s at *
    have hlo5:=HS0.out.bel.size
    have hqw:qx<wr.heap.size:=Nat.lt_of_lt_of_le HQX.out hBa.size
    have hbw:W.heap.size<wr.heap.size:=Nat.lt_of_lt_of_le HB.out hlo5
    have y3:=(HS0.out.bel.cell (p:=⟨W.heap.size,3,none⟩) HB.out).trans Y3.out
    clear hBa
    go_wp2_with fail
    obtain ⟨out,hout⟩:∃ out,out=Value.slice po fs.length co:=⟨_,rfl⟩
    rw [← hout] at HS0 ⊢
    obtain ⟨lo2,hloe2⟩:∃ lo,lo=wr.heap.size:=⟨_,rfl⟩
    have hlo1:lo2≤wr.heap.size:=Nat.le_of_eq hloe2
    have hW0lo:W1.heap.size≤lo2:=by rw [hloe2];exact hlo5
    have hrow:∀ r,out.ownBlock=some r→r<lo2:=fun r hr=>by rw [hloe2];exact (HS0.out.lt r hr).2
    refine Go.GrowQ.region_grow_p (appG (out.ownBlock) 10) (appH out.ownBlock) 10 (appSp W1 lo2 10 [.is (out),.is (.string (bs s)),.seq ([sgT (s)]),.is (.pointer (some ⟨W.heap.size,3,none⟩)),.is (.slice (some ⟨qx,ox,none⟩) x.length cx),.is (.int .i64 (k:Nat)),.is (.pointer (some ⟨qx,ox+k * 6,none⟩)),.is (.agg #[.int .i64 y.op,.string (bs y.name),.int .i64 y.n,.int .i64 y.w,.int .u64 y.v,.slice px y.l.length cx2]),.seq (exprT (y)),.blk [[sgT (s)],exprT (y)]] ([[wdT w],[nmT name]] ++ zipT (sg.take k) (x.take k) ++ [[sgT (s)],exprT (y)]))
     (by kernel_rfl) rfl (by kernel_rfl) (by kernel_rfl) (grw_drawn _) (Go.GrowQ.before_from (by kernel_rfl)) (app_tr out.ownBlock 10) (app_mono _ out.ownBlock lo2 10 hrow _ _) ?hops ?hfin
    case hops=>
     refine ⟨?o0,?o1,?o2,?o3,?o4,?o5,?o6,?o7,?o8,?o9,?o10,?o11,trivial⟩
     all_goals (intro ev W' hG hr hD;have hc:=hr.const;have hf:=hr.func)
     case o0=>
      have hG:Grw wr W':=hG
      have e7:ev (.tmp 7)=out:=hr.old 7 (by kernel_rfl)
      exact Go.GrowQ.ok_val (by simp [execOp,go_sem,e7]) ⟨Below.refl _ _,rfl⟩
     case o1=>
      have hG:Grw wr W':=hG
      have e9:ev (.tmp 9)=.string (bs s):=hr.tmp 9 (by kernel_rfl)
      exact Go.GrowQ.ok_val (by simp [execOp,go_sem,e9]) ⟨Below.refl _ _,rfl⟩
     case o2=>
      have hG:Grw wr W':=hG
      have e24:ev (.tmp 24)=_:=hD 1 24 (by kernel_rfl)
      refine Go.GrowQ.ok_call (f:=90) (args:=#[.string (bs s)]) (by simp [execOp,go_sem,hc,hf,e24]) ?_
      have hlo':=Nat.le_trans hlo1 hG.size
      refine (ssign_any (s) W' lo2 hlo').mono ?_
      rintro e W2 ⟨f,rfl,h1,h2⟩
      refine ⟨f,rfl,h2,?_⟩
      show Seq lo2 W2 f ([sgT (s)])
      exact h1
     case o3=>
      have hG:Grw wr W':=hG
      have e4:ev (.tmp 4)=.pointer (some ⟨W.heap.size,0,none⟩):=hr.tmp 4 (by kernel_rfl)
      exact Go.GrowQ.ok_val (by simp [execOp,go_sem,e4]) ⟨Below.refl _ _,rfl⟩
     case o4=>
      have hG:Grw wr W':=hG
      have e26:ev (.tmp 26)=_:=hD 3 26 (by kernel_rfl)
      have m0:=(hG.cell (p:=⟨W.heap.size,3,none⟩) hbw).trans y3
      exact Go.GrowQ.ok_val (by simp [execOp,go_sem,e26,m0]) ⟨Below.refl _ _,rfl⟩
     case o5=>
      have hG:Grw wr W':=hG
      have e8:ev (.tmp 8)=.int .i64 (k:Nat):=hr.tmp 8 (by kernel_rfl)
      exact Go.GrowQ.ok_val (by simp [execOp,go_sem,e8]) ⟨Below.refl _ _,rfl⟩
     case o6=>
      have hG:Grw wr W':=hG
      have e27:ev (.tmp 27)=_:=hD 4 27 (by kernel_rfl)
      have e28:ev (.tmp 28)=_:=hD 5 28 (by kernel_rfl)
      exact Go.GrowQ.ok_val (by simp [execOp,go_sem,hc,e27,e28,hlk,hkx]) ⟨Below.refl _ _,rfl⟩
     case o7=>
      have hG:Grw wr W':=hG
      have e29:ev (.tmp 29)=_:=hD 6 29 (by kernel_rfl)
      obtain ⟨m0,m1,m2,m3,m4,m5⟩:=six_later hG hqw a0 a1 a2 a3 a4 a5
      exact Go.GrowQ.ok_val (by simp [execOp,go_sem,e29,m0,m1,m2,m3,m4,m5]) ⟨Below.refl _ _,rfl⟩
     case o8=>
      have hG:Grw wr W':=hG
      have e30:ev (.tmp 30)=_:=hD 7 30 (by kernel_rfl)
      refine Go.GrowQ.ok_call (f:=56) (args:=#[.agg #[.int .i64 y.op,.string (bs y.name),.int .i64 y.n,.int .i64 y.w,.int .u64 y.v,.slice px y.l.length cx2]]) (by simp [execOp,go_sem,hc,hf,e30]) ?_
      have hlo':=Nat.le_trans hlo1 hG.size
      refine (hel W' lo2 _ hlo' (XR.later hG _ _ Xa)).mono ?_
      rintro e W2 ⟨f,rfl,h1,h2⟩
      refine ⟨f,rfl,h2,?_⟩
      show Seq lo2 W2 f (exprT (y))
      exact h1
     case o9=>
      have hG:Grw wr W':=hG
      obtain ⟨g25,l25,e25,s25⟩:=seq_form (show Seq lo2 W' (ev (.tmp 25)) ([sgT (s)]) from hD 2 25 (by kernel_rfl))
      obtain ⟨g31,l31,e31,s31⟩:=seq_form (show Seq lo2 W' (ev (.tmp 31)) (exprT (y)) from hD 8 31 (by kernel_rfl))
      have hn:=blk_new (lo:=lo2) (W:=W') (fs:=[.func (.func g25) #[] l25,.func (.func g31) #[] l31]) (ls:=[[sgT (s)],exprT (y)]) ⟨s25,s31,trivial⟩ (Nat.le_trans hlo1 hG.size)
      exact Go.GrowQ.ok_new (v:=.slice (some ⟨W'.heap.size,0,none⟩) 2 2) (W':=W'.alloc (.cells #[.func (.func g25) #[] l25,.func (.func g31) #[] l31] 79)) (by simp [execOp,go_sem,e25,e31]) ⟨hn.2,hn.1⟩
     case o10=>
      have hG:Grw wr W':=hG
      have e23:ev (.tmp 23)=_:=hD 0 23 (by kernel_rfl)
      obtain ⟨b,gs,e32,hb1,hblk,hgs⟩:Spc.ok lo2 (.blk [[sgT (s)],exprT (y)]) W' (ev (.tmp 32)):=hD 9 32 (by kernel_rfl)
      have hgl:gs.length=2:=(allSeq_get hgs).1
      obtain ⟨g,cap,w',hrun,hgb,hE2⟩:=app_step (HS0.out.later hG) hW0lo hrow hblk hgs (by omega) (by have:=HFL.out;omega) 121 2
      rw [hgl] at hrun
      simp only [List.length_cons,List.length_nil] at e32
      exact Go.GrowQ.ok_new (v:=.slice (some ⟨g,0,none⟩) (fs.length+2) cap) (W':=w') (by simp [execOp,resolve,invoke,builtin,e23,e32,hrun,Result.andThen]) ⟨hgb,fs ++ gs,⟨some ⟨g,0,none⟩,cap,by show Value.slice _ (fs.length+2) _=Value.slice _ _ _;rw [List.length_append,hgl]⟩,by rw [hgl] at hE2;exact hE2⟩
     case o11=>
      have hG:wr.grownBy W' out.ownBlock:=hG
      have s33:∃ fs,(∃ q c,(ev (.tmp 33))=.slice q fs.length c)∧EachS W1 (ev (.tmp 33)) fs ([[wdT w],[nmT name]] ++ zipT (sg.take k) (x.take k) ++ [[sgT (s)],exprT (y)]) W':=hD 10 33 (by kernel_rfl)
      exact Go.GrowQ.ok_val (by simp [execOp,go_sem]) ⟨Below.refl _ _,s33⟩
    case hfin=>
     intro zz W9 hG9 hzz
     have hG9:wr.grownBy W9 out.ownBlock:=hG9
     have h9:∃ fs,(∃ q c,(zz 11)=.slice q fs.length c)∧EachS W1 (zz 11) fs ([[wdT w],[nmT name]] ++ zipT (sg.take k) (x.take k) ++ [[sgT (s)],exprT (y)]) W9:=hzz 11 (by simp)
     simp only [Go.GrowQ.putAll,Act.put,List.setIfInBounds_toArray,List.set_cons_zero,List.set_cons_succ]
     obtain ⟨fs2,⟨q9,k9,e9⟩,hE9⟩:=h9
     rw [e9] at hE9 ⊢
     clear e9 hzz
     have HE9:=hid hE9
     clear hE9
     have hh1:=HXL.out
     have hh2:=HSG.out
     go_wp2_with fail
     go_roundw
     case rel=>exact ⟨k+1,fs2,by go_num,hlt,⟨_,_,rfl⟩,hid (by rw [HT.out,← List.append_assoc];exact HE9.out)⟩
     case measure=>simp [intOf];omega
   ·have hge:¬ ((k:Int)<(sg.length:Int)):=by omega
    have hkl:k=sg.length:=by omega
    have hlen2:([[wdT w],[nmT name]] ++ zipT (sg.take k) (x.take k)).length≤2002:=by
     have h1:=zipT_len (sg.take k) (x.take k)
     have h2:=List.length_take_le k x
     have h3:=HXL.out
     have h4:(x.take k).length≤x.length:=by rw [List.length_take];exact Nat.min_le_right _ _
     rw [List.length_append]
     simp only [List.length_cons,List.length_nil]
     omega
    have hfl:fs.length≤2002:=by rw [HS0.out.lies.len];exact hlen2
    have HFL:=hid hfl
    have HLN:=hid hlen2
    have HKL:=hid hkl
    obtain ⟨i0,hi,hz0,hz1,hz2⟩:=info_parts fnInfo
    clear hfl hlen2 hkl
    go_wp2_with (first
     | (go_at_call 90;refine (ssign_any [59] _ wr.heap.size (Nat.le_refl _)).mono ?_;rintro e W3 ⟨f,rfl,h1,h2⟩;obtain ⟨gs,lsg,rfl,h3⟩:=seq_form h1;clear h1;have K2:=hid h2;have K3:=hid h3;clear h2 h3)
     | (at_builtin;refine wpList_append_lies _ rfl _ _ 121 rfl W1.heap.size 79 i0 Value.nilFunc 1 8 fnSlice hi hz0 hz1 hz2 rfl (by decide) _ _ _ rfl ((HS0.out.later K2.out).later ((Below.refl _ _).alloc (Nat.le_refl _) _)).own ⟨W3.heap.size,0,none⟩ 1 1 [.func (.func gs) #[] lsg] rfl rfl (fun j u hu=>World.news_of_block (World.alloc_heap_new W3 _) j u hu) (by simp [Value.oneCell']) (by decide) (by unfold maxLen;have:=HFL.out;omega) (by have:=HFL.out;omega) (by have:=(HS0.out.later K2.out).bel.size;simp;omega) _ rfl ?_;intro g9 cap9 w9 hown hgr hat hlt2;have HS9:=hid ((HS0.out.later K2.out).app K3.out HS0.out.bel.size (fun r hr=>(HS0.out.lt r hr).2) ((Below.refl _ _).alloc (Nat.le_refl _) _) hown hgr hat);have HROW:=hid (row_any _ _ (by rw [List.length_append];have:=HLN.out;simp only [List.length_cons,List.length_nil];omega) w9 W1.heap.size HS9.out.bel.size HS9.out.seqs);clear hown hgr hat hlt2)
     | (go_at_call 91;refine HROW.out.mono ?_;rintro e W6 ⟨f,rfl,h1,h2⟩;have S6:=hid h1;have B6:=hid h2;clear h1 h2))
    go_ret
    have hz2:=HS9.out.bel.size
    refine ⟨_,rfl,?_,HW1.out.trans ((HS9.out.bel.trans (B6.out.mono hz2)).mono HW1.out.size)⟩
    have h:=IsSeq.later S6.out HL0.out (KeptL.refl _ _)
    rwa [HKL.out,List.take_of_length_le (Nat.le_refl _),List.take_of_length_le (Nat.le_of_eq HSG.out.symm)] at h
end Go.Proofs.YtlcfpdmicpggbaaGreatDoor
