/- Texts of the seat, merged. -/
import Derived.Test.YtlcfpdmicpggbaaGreatDoorEF85
set_option linter.unusedVariables false
set_option linter.unusedSimpArgs false
set_option maxRecDepth 100000
set_option maxHeartbeats 16000000
namespace Go.Proofs.YtlcfpdmicpggbaaGreatDoor
open Go.Lib (hid)
open Go.RowKit Go.Proofs.Spl Go.Proofs.Scn Go.Shelf
theorem item4_tick (name fo:Ln) (px ps pl pe pp pQ:Option Addr) (m3 d3 m4 d4 m5 d5 m6 d6 m7 d7 m8 d8:Nat) (x:List X) (s:List S) (l e:List It) (bp bb:List Bd) (W:World) (B:List Tok) (hB:B=blockT [60,61] s) (lB:B.length≤1300000) (cB:∀ W9,Below W.heap.size W W9→Calls Tryz.prog 126 #[.slice ps m4 d4,.bool true] W9 (TkP W9 B)) :
  Calls Tryz.prog 103 #[.agg #[.int .i64 6,.string (bs name),.string (bs fo),.slice px m3 d3,.slice ps m4 d4,.slice pl m5 d5,.slice pe m6 d6,.slice pp m7 d7,.slice pQ m8 d8]] W (TkP W (itemT (.mk 6 name fo x s l e bp bb))):=by
 have HS1:=hid cB
 have HL:=hid (show (B).length≤1300000 from lB)
 have HT:=hid (show itemT (.mk 6 name fo x s l e bp bb)=List.flatten [[wdT [111,110]],[wdT [116,105,99,107]],B] by rw [hB];rw [itemT_eq];simp [itT,It.op,It.name,It.of,It.x,It.s,It.l,It.e,It.ps,It.bs,listT,sepS])
 clear cB lB
 obtain ⟨V,hV,HX,HBX⟩:=bx9 W (.int .i64 6) (.string (bs name)) (.string (bs fo)) (.slice px m3 d3) (.slice ps m4 d4) (.slice pl m5 d5) (.slice pe m6 d6) (.slice pp m7 d7) (.slice pQ m8 d8) 133
 obtain ⟨x0,x1,x2,x3,x4,x5,x6,x7,x8⟩:=HBX.out _ (Below.refl _ _)
 go_enter Tryz.func103,Tryz.ntmps103
 go_wp2_with fail
 rw [← hV]
 clear hV
 obtain ⟨G0,G1,G2,G3⟩:True∧True∧True∧True:=by simp
 have HS:=hid (St.start (Below.refl V.heap.size V).drew)
 go_region_held3 (fun w'=>B9 w' W.heap.size (.int .i64 6) (.string (bs name)) (.string (bs fo)) (.slice px m3 d3) (.slice ps m4 d4) (.slice pl m5 d5) (.slice pe m6 d6) (.slice pp m7 d7) (.slice pQ m8 d8))
  (first | exact HBX.out _ HS.out.1 | exact HBX.out _ (HS.out.1.alloc HS.out.1.size _) | go_keep)
  (first
   | (go_at_call 51;clear G0;refine (psh (word4_any [111,110] _) HS).mono ?_;rintro e V0 ⟨p0,n0,c0,rfl,HS⟩)
   | (go_at_call 51;clear G1;refine (psh (word4_any [116,105,99,107] _) HS).mono ?_;rintro e V1 ⟨p1,n1,c1,rfl,HS⟩)
   | (go_at_call 126;clear G2;refine (psh (HS1.out _ (HX.out.trans (HS.out.1.mono HX.out.size))) HS).mono ?_;rintro e V2 ⟨p2,n2,c2,rfl,HS⟩)
   | (go_at_call 50;clear G3;refine (psh (ts:=List.flatten [[wdT [111,110]],[wdT [116,105,99,107]],B]) (join5_any HS.out [(.slice p0 n0 c0,[wdT [111,110]]),(.slice p1 n1 c1,[wdT [116,105,99,107]]),(.slice p2 n2 c2,B)] (by simp) (by simp) (by have:=HL.out;simp [allT,inT];omega)) HS).mono ?_;rintro e V3 ⟨p3,n3,c3,rfl,HS⟩))
 go_wp2
 go_ret
 rw [HT.out]
 exact St.ret HX.out HS.out (by simp)
theorem item4_inst (name fo:Ln) (px ps pl pe pp pQ:Option Addr) (m3 d3 m4 d4 m5 d5 m6 d6 m7 d7 m8 d8:Nat) (x:List X) (s:List S) (l e:List It) (bp bb:List Bd) (W:World) (P B:List Tok) (hP:P=paramsT bp) (hB:B=bindsT bb) (lP:P.length≤1300000) (lB:B.length≤1300000) (cP:∀ W9,Below W.heap.size W W9→Calls Tryz.prog 53 #[.slice pp m7 d7] W9 (TkP W9 P)) (cB:∀ W9,Below W.heap.size W W9→Calls Tryz.prog 101 #[.slice pQ m8 d8] W9 (TkP W9 B)) :
  Calls Tryz.prog 103 #[.agg #[.int .i64 7,.string (bs name),.string (bs fo),.slice px m3 d3,.slice ps m4 d4,.slice pl m5 d5,.slice pe m6 d6,.slice pp m7 d7,.slice pQ m8 d8]] W (TkP W (itemT (.mk 7 name fo x s l e bp bb))):=by
 have HP:=hid cP
 have HQ:=hid cB
 have HL:=hid (show (P).length≤1300000∧(B).length≤1300000 from ⟨lP,lB⟩)
 have HT:=hid (show itemT (.mk 7 name fo x s l e bp bb)=List.flatten [[wdT [105,110,115,116]],[nmT (name)],[sgT [58]],[nmT (fo)],P,B,[sgT [59]]] by rw [hP,hB];rw [itemT_eq];simp [itT,It.op,It.name,It.of,It.x,It.s,It.l,It.e,It.ps,It.bs,listT,sepS])
 clear cP cB lP lB
 obtain ⟨V,hV,HX,HBX⟩:=bx9 W (.int .i64 7) (.string (bs name)) (.string (bs fo)) (.slice px m3 d3) (.slice ps m4 d4) (.slice pl m5 d5) (.slice pe m6 d6) (.slice pp m7 d7) (.slice pQ m8 d8) 133
 obtain ⟨x0,x1,x2,x3,x4,x5,x6,x7,x8⟩:=HBX.out _ (Below.refl _ _)
 go_enter Tryz.func103,Tryz.ntmps103
 go_wp2_with fail
 rw [← hV]
 clear hV
 obtain ⟨G0,G1,G2,G3,G4,G5,G6,G7⟩:True∧True∧True∧True∧True∧True∧True∧True:=by simp
 have HS:=hid (St.start (Below.refl V.heap.size V).drew)
 go_region_held3 (fun w'=>B9 w' W.heap.size (.int .i64 7) (.string (bs name)) (.string (bs fo)) (.slice px m3 d3) (.slice ps m4 d4) (.slice pl m5 d5) (.slice pe m6 d6) (.slice pp m7 d7) (.slice pQ m8 d8))
  (first | exact HBX.out _ HS.out.1 | exact HBX.out _ (HS.out.1.alloc HS.out.1.size _) | go_keep)
  (first
   | (go_at_call 51;clear G0;refine (psh (word4_any [105,110,115,116] _) HS).mono ?_;rintro e V0 ⟨p0,n0,c0,rfl,HS⟩)
   | (go_at_call 52;clear G1;refine (psh (name4_any (name) _) HS).mono ?_;rintro e V1 ⟨p1,n1,c1,rfl,HS⟩)
   | (go_at_call 100;clear G2;refine (psh (sign4_any [58] _) HS).mono ?_;rintro e V2 ⟨p2,n2,c2,rfl,HS⟩)
   | (go_at_call 52;clear G3;refine (psh (name4_any (fo) _) HS).mono ?_;rintro e V3 ⟨p3,n3,c3,rfl,HS⟩)
   | (go_at_call 53;clear G4;refine (psh (HP.out _ (HX.out.trans (HS.out.1.mono HX.out.size))) HS).mono ?_;rintro e V4 ⟨p4,n4,c4,rfl,HS⟩)
   | (go_at_call 101;clear G5;refine (psh (HQ.out _ (HX.out.trans (HS.out.1.mono HX.out.size))) HS).mono ?_;rintro e V5 ⟨p5,n5,c5,rfl,HS⟩)
   | (go_at_call 100;clear G6;refine (psh (sign4_any [59] _) HS).mono ?_;rintro e V6 ⟨p6,n6,c6,rfl,HS⟩)
   | (go_at_call 50;clear G7;refine (psh (ts:=List.flatten [[wdT [105,110,115,116]],[nmT (name)],[sgT [58]],[nmT (fo)],P,B,[sgT [59]]]) (join5_any HS.out [(.slice p0 n0 c0,[wdT [105,110,115,116]]),(.slice p1 n1 c1,[nmT (name)]),(.slice p2 n2 c2,[sgT [58]]),(.slice p3 n3 c3,[nmT (fo)]),(.slice p4 n4 c4,P),(.slice p5 n5 c5,B),(.slice p6 n6 c6,[sgT [59]])] (by simp) (by simp) (by have:=HL.out;simp [allT,inT];omega)) HS).mono ?_;rintro e V7 ⟨p7,n7,c7,rfl,HS⟩))
 go_wp2
 go_ret
 rw [HT.out]
 exact St.ret HX.out HS.out (by simp)
theorem item4_for (name fo:Ln) (px ps pl pe pp pQ:Option Addr) (m3 d3 m4 d4 m5 d5 m6 d6 m7 d7 m8 d8:Nat) (x:List X) (s:List S) (l e:List It) (bp bb:List Bd) (W:World) (P B:List Tok) (hP:P=spanT fo x) (hB:B=cubT (l.map itemT).flatten) (lP:P.length≤1300000) (lB:B.length≤1300000) (cP:∀ W9,Below W.heap.size W W9→Calls Tryz.prog 125 #[.string (bs fo),.slice px m3 d3] W9 (TkP W9 P)) (cB:∀ W9,Below W.heap.size W W9→Calls Tryz.prog 55 #[.slice pl m5 d5] W9 (TkP W9 B)) :
  Calls Tryz.prog 103 #[.agg #[.int .i64 9,.string (bs name),.string (bs fo),.slice px m3 d3,.slice ps m4 d4,.slice pl m5 d5,.slice pe m6 d6,.slice pp m7 d7,.slice pQ m8 d8]] W (TkP W (itemT (.mk 9 name fo x s l e bp bb))):=by
 have HP:=hid cP
 have HQ:=hid cB
 have HL:=hid (show (P).length≤1300000∧(B).length≤1300000 from ⟨lP,lB⟩)
 have HT:=hid (show itemT (.mk 9 name fo x s l e bp bb)=List.flatten [[wdT [102,111,114]],[nmT (name)],P,B] by rw [hP,hB];rw [itemT_eq];simp [itT,It.op,It.name,It.of,It.x,It.s,It.l,It.e,It.ps,It.bs,listT,sepS,forW])
 clear cP cB lP lB
 obtain ⟨V,hV,HX,HBX⟩:=bx9 W (.int .i64 9) (.string (bs name)) (.string (bs fo)) (.slice px m3 d3) (.slice ps m4 d4) (.slice pl m5 d5) (.slice pe m6 d6) (.slice pp m7 d7) (.slice pQ m8 d8) 133
 obtain ⟨x0,x1,x2,x3,x4,x5,x6,x7,x8⟩:=HBX.out _ (Below.refl _ _)
 go_enter Tryz.func103,Tryz.ntmps103
 go_wp2_with fail
 rw [← hV]
 clear hV
 obtain ⟨G0,G1,G2,G3,G4⟩:True∧True∧True∧True∧True:=by simp
 have HS:=hid (St.start (Below.refl V.heap.size V).drew)
 go_region_held3 (fun w'=>B9 w' W.heap.size (.int .i64 9) (.string (bs name)) (.string (bs fo)) (.slice px m3 d3) (.slice ps m4 d4) (.slice pl m5 d5) (.slice pe m6 d6) (.slice pp m7 d7) (.slice pQ m8 d8))
  (first | exact HBX.out _ HS.out.1 | exact HBX.out _ (HS.out.1.alloc HS.out.1.size _) | go_keep)
  (first
   | (go_at_call 51;clear G0;refine (psh (word4_any [102,111,114] _) HS).mono ?_;rintro e V0 ⟨p0,n0,c0,rfl,HS⟩)
   | (go_at_call 52;clear G1;refine (psh (name4_any (name) _) HS).mono ?_;rintro e V1 ⟨p1,n1,c1,rfl,HS⟩)
   | (go_at_call 125;clear G2;refine (psh (HP.out _ (HX.out.trans (HS.out.1.mono HX.out.size))) HS).mono ?_;rintro e V2 ⟨p2,n2,c2,rfl,HS⟩)
   | (go_at_call 55;clear G3;refine (psh (HQ.out _ (HX.out.trans (HS.out.1.mono HX.out.size))) HS).mono ?_;rintro e V3 ⟨p3,n3,c3,rfl,HS⟩)
   | (go_at_call 50;clear G4;refine (psh (ts:=List.flatten [[wdT [102,111,114]],[nmT (name)],P,B]) (join5_any HS.out [(.slice p0 n0 c0,[wdT [102,111,114]]),(.slice p1 n1 c1,[nmT (name)]),(.slice p2 n2 c2,P),(.slice p3 n3 c3,B)] (by simp) (by simp) (by have:=HL.out;simp [allT,inT];omega)) HS).mono ?_;rintro e V4 ⟨p4,n4,c4,rfl,HS⟩))
 go_wp2
 go_ret
 rw [HT.out]
 exact St.ret HX.out HS.out (by simp)
theorem item4_comb (name fo:Ln) (px ps pl pe pp pQ:Option Addr) (m3 d3 m4 d4 m5 d5 m6 d6 m7 d7 m8 d8:Nat) (x:List X) (s:List S) (l e:List It) (bp bb:List Bd) (W:World) (B:List Tok) (hB:B=blockT [61] s) (lB:B.length≤1300000) (cB:∀ W9,Below W.heap.size W W9→Calls Tryz.prog 126 #[.slice ps m4 d4,.bool false] W9 (TkP W9 B)) :
  Calls Tryz.prog 103 #[.agg #[.int .i64 5,.string (bs name),.string (bs fo),.slice px m3 d3,.slice ps m4 d4,.slice pl m5 d5,.slice pe m6 d6,.slice pp m7 d7,.slice pQ m8 d8]] W (TkP W (itemT (.mk 5 name fo x s l e bp bb))):=by
 have HS1:=hid cB
 have HL:=hid lB
 have HT:=hid (show itemT (.mk 5 name fo x s l e bp bb)=List.flatten [[wdT [99,111,109,98]],B] by rw [hB];rw [itemT_eq];simp [itT,It.op,It.name,It.of,It.x,It.s,It.l,It.e,It.ps,It.bs,listT,sepS])
 clear cB lB hB
 obtain ⟨V,hV,HX,HBX⟩:=bx9 W (.int .i64 5) (.string (bs name)) (.string (bs fo)) (.slice px m3 d3) (.slice ps m4 d4) (.slice pl m5 d5) (.slice pe m6 d6) (.slice pp m7 d7) (.slice pQ m8 d8) 133
 obtain ⟨x0,x1,x2,x3,x4,x5,x6,x7,x8⟩:=HBX.out _ (Below.refl _ _)
 go_enter Tryz.func103,Tryz.ntmps103
 go_wp2_with fail
 rw [← hV]
 clear hV
 obtain ⟨G0,G1,G2⟩:True∧True∧True:=by simp
 have HS:=hid (St.start (Below.refl V.heap.size V).drew)
 go_region_held3 (fun w'=>B9 w' W.heap.size (.int .i64 5) (.string (bs name)) (.string (bs fo)) (.slice px m3 d3) (.slice ps m4 d4) (.slice pl m5 d5) (.slice pe m6 d6) (.slice pp m7 d7) (.slice pQ m8 d8))
  (first | exact HBX.out _ HS.out.1 | exact HBX.out _ (HS.out.1.alloc HS.out.1.size _) | go_keep)
  (first
   | (go_at_call 51;clear G0;refine (psh (word4_any [99,111,109,98] _) HS).mono ?_;rintro e V0 ⟨p0,n0,c0,rfl,HS⟩)
   | (go_at_call 126;clear G1;refine (psh (HS1.out _ (HX.out.trans (HS.out.1.mono HX.out.size))) HS).mono ?_;rintro e V1 ⟨p1,n1,c1,rfl,HS⟩)
   | (go_at_call 50;clear G2;refine (psh (ts:=List.flatten [[wdT [99,111,109,98]],B]) (join5_any HS.out [(.slice p0 n0 c0,[wdT [99,111,109,98]]),(.slice p1 n1 c1,B)] (by simp) (by simp) (by have:=HL.out;simp [allT,inT];omega)) HS).mono ?_;rintro e V2 ⟨p2,n2,c2,rfl,HS⟩))
 go_wp2
 go_ret
 rw [HT.out]
 exact St.ret HX.out HS.out (by simp)
theorem item4_if (name fo:Ln) (px ps pl pe pp pQ:Option Addr) (m3 d3 m4 d4 m5 d5 m6 d6 m7 d7 m8 d8:Nat) (x:List X) (s:List S) (l e:List It) (bp bb:List Bd) (W:World) (a:X) (hX:XsR W (.slice px 1 d3) [a]) (ha:Ex4 a) (la:(exprT a).length≤600000) (P B:List Tok) (hP:P=cubT (l.map itemT).flatten) (hB:B=cubT (e.map itemT).flatten) (lP:P.length≤1300000) (lB:B.length≤1300000) (hm:m6=e.length) (cP:∀ W9,Below W.heap.size W W9→Calls Tryz.prog 55 #[.slice pl m5 d5] W9 (TkP W9 P)) (cB:∀ W9,Below W.heap.size W W9→Calls Tryz.prog 55 #[.slice pe m6 d6] W9 (TkP W9 B)) :
  Calls Tryz.prog 103 #[.agg #[.int .i64 8,.string (bs name),.string (bs fo),.slice px 1 d3,.slice ps m4 d4,.slice pl m5 d5,.slice pe m6 d6,.slice pp m7 d7,.slice pQ m8 d8]] W (TkP W (itemT (.mk 8 name fo [a] s l e bp bb))):=by
 obtain ⟨q,oq,pa,ca,hpq,ya⟩:=atX (l:=[a]) hX (k:=0) (by simp)
 simp only [List.getElem_cons_zero,List.getElem_cons_succ,Nat.zero_mul,Nat.add_zero,Nat.one_mul,Nat.reduceMul] at ya
 have Ya:=hid ya
 have Ea:=hid (fun (W9:World) (h:Below W.heap.size W W9)=>ha W9 _ (ya W9 h).1)
 subst hpq
 have HP:=hid cP
 have HQ:=hid cB
 have HL:=hid (show (exprT a).length≤600000∧P.length≤1300000∧B.length≤1300000 from ⟨la,lP,lB⟩)
 have e0:itemT (.mk 8 name fo [a] s l e bp bb)=wdT ifW :: (parT (exprT a) ++ (P ++ (if e=[] then [] else wdT elseW :: B))):=by rw [hP,hB];rw [itemT_eq];simp [itT,It.op,It.name,It.of,It.x,It.s,It.l,It.e,It.ps,It.bs,listT,sepS]
 generalize itemT (.mk 8 name fo [a] s l e bp bb)=TT at *
 have hc:((0:Int)<(m6:Int)∧TT=List.flatten [List.flatten [[wdT [105,102]],inT 40 41 (exprT a),P],[wdT [101,108,115,101]],B])∨(¬ (0:Int)<(m6:Int)∧TT=List.flatten [[wdT [105,102]],inT 40 41 (exprT a),P]):=by
  by_cases h2:e=[]
  ·exact .inr ⟨by rw [hm,h2];simp,by rw [e0,if_pos h2];simp [parT,ifW]⟩
  ·exact .inl ⟨by rw [hm];cases e with | nil=>exact absurd rfl h2 | cons a r=>simp,by rw [e0,if_neg h2];simp [parT,ifW,elseW]⟩
 clear hX ya ha la hP hB lP lB cP cB e0 hm
 obtain ⟨V,hV,HX,HBX⟩:=bx9 W (.int .i64 8) (.string (bs name)) (.string (bs fo)) (.slice (some ⟨q,oq,none⟩) 1 d3) (.slice ps m4 d4) (.slice pl m5 d5) (.slice pe m6 d6) (.slice pp m7 d7) (.slice pQ m8 d8) 133
 obtain ⟨x0,x1,x2,x3,x4,x5,x6,x7,x8⟩:=HBX.out _ (Below.refl _ _)
 go_enter Tryz.func103,Tryz.ntmps103
 go_wp2_with fail
 rw [← hV]
 clear hV
 obtain ⟨G0,G1,G2,G3,G4⟩:True∧True∧True∧True∧True:=by simp
 have HS:=hid (St.start (Below.refl V.heap.size V).drew)
 go_region_held3 (fun w'=>(B9 w' W.heap.size (.int .i64 8) (.string (bs name)) (.string (bs fo)) (.slice (some ⟨q,oq,none⟩) 1 d3) (.slice ps m4 d4) (.slice pl m5 d5) (.slice pe m6 d6) (.slice pp m7 d7) (.slice pQ m8 d8))∧C6 w' q (oq) a pa ca)
  (first | exact ⟨HBX.out _ HS.out.1,(Ya.out _ (bthen HX.out HS.out.1)).2⟩ | exact ⟨HBX.out _ (HS.out.1.alloc HS.out.1.size _),(Ya.out _ (bthen HX.out (HS.out.1.alloc HS.out.1.size _))).2⟩ | go_keep)
  (first
   | (go_at_call 51;clear G0;refine (psh (word4_any [105,102] _) HS).mono ?_;rintro e V0 ⟨p0,n0,c0,rfl,HS⟩)
   | (go_at_call 58;clear G1;refine (psh (Ea.out _ (HX.out.trans (HS.out.1.mono HX.out.size))) HS).mono ?_;rintro e V1 ⟨p1,n1,c1,rfl,HS⟩)
   | (go_at_call 102;clear G2;refine (psh (between5_any HS.out 40 41 p1 n1 c1 (exprT a) (by simp) (by have:=HL.out;simp [inT];omega)) HS).mono ?_;rintro e V2 ⟨p2,n2,c2,rfl,HS⟩)
   | (go_at_call 55;clear G3;refine (psh (HP.out _ (HX.out.trans (HS.out.1.mono HX.out.size))) HS).mono ?_;rintro e V3 ⟨p3,n3,c3,rfl,HS⟩)
   | (go_at_call 50;clear G4;refine (psh (ts:=List.flatten [[wdT [105,102]],inT 40 41 (exprT a),P]) (join5_any HS.out [(.slice p0 n0 c0,[wdT [105,102]]),(.slice p2 n2 c2,inT 40 41 (exprT a)),(.slice p3 n3 c3,P)] (by simp) (by simp) (by have:=HL.out;simp [allT,inT];omega)) HS).mono ?_;rintro e V4 ⟨p4,n4,c4,rfl,HS⟩))
 obtain ⟨x0,x1,x2,x3,x4,x5,x6,x7,x8⟩:=HBX.out _ HS.out.1
 rcases hc with ⟨h1,HT⟩ | ⟨h1,HT⟩
 all_goals have HT:=hid HT
 ·go_wp2_with fail
  obtain ⟨Gb0,Gb1,Gb2⟩:True∧True∧True:=by simp
  have HS:=hid (HS.out.next (Below.refl _ _).drew)
  go_region_held3 (fun w'=>B9 w' W.heap.size (.int .i64 8) (.string (bs name)) (.string (bs fo)) (.slice (some ⟨q,oq,none⟩) 1 d3) (.slice ps m4 d4) (.slice pl m5 d5) (.slice pe m6 d6) (.slice pp m7 d7) (.slice pQ m8 d8))
   (first | exact HBX.out _ HS.out.1 | exact HBX.out _ (HS.out.1.alloc HS.out.1.size _) | go_keep)
   (first
    | (go_at_call 51;clear Gb0;refine (psh (word4_any [101,108,115,101] _) HS).mono ?_;rintro e Vb0 ⟨pb0,nb0,cb0,rfl,HS⟩)
    | (go_at_call 55;clear Gb1;refine (psh (HQ.out _ (HX.out.trans (HS.out.1.mono HX.out.size))) HS).mono ?_;rintro e Vb1 ⟨pb1,nb1,cb1,rfl,HS⟩)
    | (go_at_call 50;clear Gb2;refine (psh (ts:=List.flatten [List.flatten [[wdT [105,102]],inT 40 41 (exprT a),P],[wdT [101,108,115,101]],B]) (join5_any HS.out [(.slice p4 n4 c4,List.flatten [[wdT [105,102]],inT 40 41 (exprT a),P]),(.slice pb0 nb0 cb0,[wdT [101,108,115,101]]),(.slice pb1 nb1 cb1,B)] (by simp) (by simp) (by have:=HL.out;simp [allT,inT];omega)) HS).mono ?_;rintro e Vb2 ⟨pb2,nb2,cb2,rfl,HS⟩))
  go_wp2
  go_ret
  rw [HT.out]
  exact St.ret HX.out HS.out (by simp)
 go_wp2
 go_ret
 rw [HT.out]
 exact St.ret HX.out HS.out (by simp)
end Go.Proofs.YtlcfpdmicpggbaaGreatDoor
namespace Go.Proofs.YtlcfpdmicpggbaaGreatDoor
open Go.Lib (hid)
open Go.RowKit Go.Proofs.Spl Go.Proofs.Scn Go.Shelf
theorem sumI_le (l:List It) (h:sumN sizeI l≤65536):sumN (fun x=>(itemT x).length+1) l≤1200000:=by
 have h1:sumN (fun x=>(itemT x).length+1) l≤sumN (fun x=>17 * sizeI x) l:=sumN_le fun y _=>by have:=item_len y;have:=one_sizeI y;omega
 rw [sumN_mul] at h1
 omega
theorem sumB_le (l:List Bd) (h:sumN sizeB l≤65536):sumN (fun x=>(bindT x).length+1) l≤600000:=by
 have h1:sumN (fun x=>(bindT x).length+1) l≤sumN (fun x=>8 * sizeB x) l:=sumN_le fun y _=>by have:=expr_len y.x;simp [bindT,sizeB];omega
 rw [sumN_mul] at h1
 omega
theorem items4_of {l:List It} (h:∀ y ∈ l,ItX y) (hs:sumN sizeI l≤65536) (W:World) (v:Value) (hR:IsR W v l):Calls Tryz.prog 55 #[v] W (TkP W (cubT (l.map itemT).flatten)):=by
 have hR0:=hR
 obtain ⟨p,c,rfl,_⟩:=hR
 have:=sumN_len sizeI one_sizeI l
 exact items4_any p c l (by omega) (sumI_le l hs) W hR0 h
theorem itemsT_le {l:List It} (hs:sumN sizeI l≤65536):(cubT (l.map itemT).flatten).length≤1300000:=by
 have:=flatP_len itemT l l.length _ (sumI_le l hs)
 rw [flatP_end] at this
 rw [cub_len]
 omega
theorem bEx {l:List Bd} (h:∀ y ∈ l,okB y=true) (hs:sumN sizeB l≤65536):∀ y ∈ l,Ex4 y.x:=fun y hy=>by
 have h1:=h y hy
 have h2:sizeX y.x+1≤_:=sumN_mem sizeB hy
 unfold okB at h1
 rw [Bool.and_eq_true] at h1
 exact Ex4_ok y.x h1.2 (by omega)
theorem binds4_of {l:List Bd} (h:∀ y ∈ l,okB y=true) (hs:sumN sizeB l≤65536) (W:World) (v:Value) (hR:BsR W v l):Calls Tryz.prog 101 #[v] W (TkP W (bindsT l)):=by
 have hR0:=hR
 obtain ⟨p,c,rfl,_⟩:=hR
 have:=sumN_len sizeB one_sB l
 exact binds4_any p c l (by omega) (sumB_le l hs) W hR0 (bEx h hs)
theorem params4_of {l:List Bd} (h:∀ y ∈ l,okB y=true) (hs:sumN sizeB l≤65536) (W:World) (v:Value) (hR:BsR W v l):Calls Tryz.prog 53 #[v] W (TkP W (paramsT l)):=by
 have hR0:=hR
 obtain ⟨p,c,rfl,_⟩:=hR
 have:=sumN_len sizeB one_sB l
 exact params4_any p c l (by omega) (sumB_le l hs) W hR0 (bEx h hs)
theorem ItX_ok:∀ t:It,okI t=true→sizeI t≤65536→ItX t:=by
 refine It.ind ?_
 intro t ihl ihe hok hsz W cs hR
 obtain ⟨op,name,f,x,s,l,el,ps,bb⟩:=t
 obtain ⟨xs,ss,ls,es,vp,vb,rfl,hX,hS,hP,hQ,hL,hE⟩:=IR_iff.1 hR
 simp only [It.op,It.name,It.of,It.x,It.s,It.l,It.e,It.ps,It.bs] at ihl ihe hX hS hP hQ hL hE ⊢
 rw [sizeI_eq2] at hsz
 simp only [It.op,It.name,It.of,It.x,It.s,It.l,It.e,It.ps,It.bs] at hsz
 rw [okI_iff,okSs_all] at hok
 simp only [It.op,It.name,It.of,It.x,It.s,It.l,It.e,It.ps,It.bs,Bool.and_eq_true,List.all_eq_true] at hok
 obtain ⟨⟨⟨⟨⟨⟨hit,ox⟩,oS⟩,ol⟩,oe⟩,op'⟩,ob⟩:=hok
 have hEx:=Ex4_of ox (by omega)
 have gS:∀ clk,∀ y ∈ s,StX clk y:=fun clk y hy=>StX_ok clk y (oS y hy) (by have:=sumN_mem sizeS hy;omega)
 have gL:∀ y ∈ l,ItX y:=fun y hy=>ihl y hy (ol y hy) (by have:=sumN_mem sizeI hy;omega)
 have gE:∀ y ∈ el,ItX y:=fun y hy=>ihe y hy (oe y hy) (by have:=sumN_mem sizeI hy;omega)
 have lbl:=fun put=>block_len put s
 have lps:=params_len ps
 have lbb:=binds_len bb
 have lx:=exprs_len [46,46] x
 have cS:=fun (clk:Bool) (W9:World) (h:Below W.heap.size W W9)=>stmts4_of (gS clk) (by omega) W9 ss (SsR.later hS h)
 have cL:=fun (W9:World) (h:Below W.heap.size W W9)=>items4_of gL (by omega) W9 ls (IsR.later hL h)
 have cE:=fun (W9:World) (h:Below W.heap.size W W9)=>items4_of gE (by omega) W9 es (IsR.later hE h)
 have cP:=fun (W9:World) (h:Below W.heap.size W W9)=>params4_of op' (by omega) W9 vp (BsR.later hP h)
 have cQ:=fun (W9:World) (h:Below W.heap.size W W9)=>binds4_of ob (by omega) W9 vb (BsR.later hQ h)
 have nL:=itemsT_le (l:=l) (by omega)
 have nE:=itemsT_le (l:=el) (by omega)
 have hX0:=hX
 obtain ⟨px,cx,rfl,_⟩:=hX
 obtain ⟨pS,cS',rfl,_⟩:=hS
 obtain ⟨pl,cl,rfl,_⟩:=hL
 obtain ⟨pe,ce,rfl,_⟩:=hE
 obtain ⟨pp,cp,rfl,_⟩:=hP
 obtain ⟨pb,cb,rfl,_⟩:=hQ
 simp only [okIt,Bool.and_eq_true,decide_eq_true_eq] at hit
 obtain ⟨⟨⟨⟨⟨⟨⟨⟨⟨h1,h10⟩,-⟩,-⟩,hxl⟩,-⟩,-⟩,-⟩,-⟩,-⟩:=hit
 have l1:∀ {l:List X},l.length=1→∃ a,l=[a]:=fun {l} h=>by
  match l,h with
  | [a],_=>exact ⟨a,rfl⟩
 have hk:op=1∨op=2∨op=3∨op=4∨op=5∨op=6∨op=7∨op=8∨op=9∨op=10:=by omega
 rcases hk with rfl | rfl | rfl | rfl | rfl | rfl | rfl | rfl | rfl | rfl
 ·obtain ⟨a,rfl⟩:=l1 (by simpa [countI] using hxl)
  obtain ⟨k1,k2⟩:=hEx a (by simp)
  exact item4_const name f px pS pl pe pp pb 0 cx s.length cS' l.length cl el.length ce ps.length cp bb.length cb [] s l el ps bb W a hX0 k1 k2
 ·obtain ⟨a,rfl⟩:=l1 (by simpa [countI] using hxl)
  obtain ⟨k1,k2⟩:=hEx a (by simp)
  exact item4_wire name f px pS pl pe pp pb 0 cx s.length cS' l.length cl el.length ce ps.length cp bb.length cb [] s l el ps bb W a hX0 k1 k2
 ·obtain ⟨a,b,rfl⟩:=list2 (by simpa [countI] using hxl)
  obtain ⟨k1,k2⟩:=hEx a (by simp)
  obtain ⟨m1,m2⟩:=hEx b (by simp)
  exact item4_reg name f px pS pl pe pp pb 0 cx s.length cS' l.length cl el.length ce ps.length cp bb.length cb [] s l el ps bb W a b hX0 k1 k2 m1 m2
 ·obtain ⟨a,b,rfl⟩:=list2 (by simpa [countI] using hxl)
  obtain ⟨k1,k2⟩:=hEx a (by simp)
  obtain ⟨m1,m2⟩:=hEx b (by simp)
  exact item4_assign name f px pS pl pe pp pb 0 cx s.length cS' l.length cl el.length ce ps.length cp bb.length cb [] s l el ps bb W a b hX0 k1 k2 m1 m2
 ·exact item4_comb name f px pS pl pe pp pb x.length cx s.length cS' l.length cl el.length ce ps.length cp bb.length cb x s l el ps bb W _ rfl (by have:=lbl [61];omega) (cS false)
 ·exact item4_tick name f px pS pl pe pp pb x.length cx s.length cS' l.length cl el.length ce ps.length cp bb.length cb x s l el ps bb W _ rfl (by have:=lbl [60,61];omega) (cS true)
 ·exact item4_inst name f px pS pl pe pp pb x.length cx s.length cS' l.length cl el.length ce ps.length cp bb.length cb x s l el ps bb W _ _ rfl rfl (by omega) (by omega) cP cQ
 ·obtain ⟨a,rfl⟩:=l1 (by simpa [countI] using hxl)
  obtain ⟨k1,k2⟩:=hEx a (by simp)
  exact item4_if name f px pS pl pe pp pb 0 cx s.length cS' l.length cl el.length ce ps.length cp bb.length cb [] s l el ps bb W a hX0 k1 k2 _ _ rfl rfl nL nE rfl cL cE
 ·obtain ⟨a,b,rfl⟩:=list2 (by simpa [countI] using hxl)
  obtain ⟨k1,k2⟩:=hEx a (by simp)
  obtain ⟨m1,m2⟩:=hEx b (by simp)
  refine item4_for name f px pS pl pe pp pb 2 cx s.length cS' l.length cl el.length ce ps.length cp bb.length cb [a,b] s l el ps bb W _ _ rfl rfl ?_ nL (fun W9 h=>span4_any f px cx a b W9 (XsR.later hX0 h) k1 k2 m1 m2) cL
  simp [spanT,parT,inT,sepS]
  omega
 ·obtain ⟨a,rfl⟩:=l1 (by simpa [countI] using hxl)
  obtain ⟨k1,k2⟩:=hEx a (by simp)
  exact item4_check name f px pS pl pe pp pb 0 cx s.length cS' l.length cl el.length ce ps.length cp bb.length cb [] s l el ps bb W a hX0 k1 k2
end Go.Proofs.YtlcfpdmicpggbaaGreatDoor
namespace Go.Proofs.YtlcfpdmicpggbaaGreatDoor
open Go.Lib (hid)
open Go.RowKit Go.Proofs.Spl Go.Proofs.Scn Go.Shelf
theorem tk4_ok {W W0 W':World} {l:List (Value × List Tok)} {p:Option Addr} {n c:Nat} {ts:List Tok} (hX:Below W.heap.size W W0) (h:St W0 W' l) (hm:(Value.slice p n c,ts) ∈ l):TkPost W 0 ts (.returned (.tuple #[.slice p n c,.int .i64 0])) W':=
 ⟨_,rfl,by rw [if_pos rfl];exact (h.2 _ hm).lower hX.size,hX.trans (h.1.mono hX.size)⟩
theorem mP {W:World} {y:Md} {v0 v1 v2 v3:Value} (h:MR W y [v0,v1,v2,v3]):BsR W v1 y.ps:=by
 obtain ⟨vp,vt,vi,e,h1,h2,h3⟩:=h
 cases e
 exact h1
theorem mT {W:World} {y:Md} {v0 v1 v2 v3:Value} (h:MR W y [v0,v1,v2,v3]):PsR W v2 y.pts:=by
 obtain ⟨vp,vt,vi,e,h1,h2,h3⟩:=h
 cases e
 exact h2
theorem mI {W:World} {y:Md} {v0 v1 v2 v3:Value} (h:MR W y [v0,v1,v2,v3]):IsR W v3 y.l:=by
 obtain ⟨vp,vt,vi,e,h1,h2,h3⟩:=h
 cases e
 exact h3
theorem ports4_of {l:List Pt} (h:∀ y ∈ l,okP y=true) (hs:sumN sizeP l≤65536) (W:World) (v:Value) (hR:PsR W v l):Calls Tryz.prog 54 #[v] W (TkP W (parT (sepS [44] (l.map portT)))):=by
 have hR0:=hR
 obtain ⟨p,c,rfl,_⟩:=hR
 have h3:sumN (fun x=>(portT x).length+1) l≤sumN (fun x=>9 * sizeP x) l:=sumN_le fun y _=>by have:=expr_len y.w;simp [portT,sizeP];omega
 rw [sumN_mul] at h3
 have:=sumN_len sizeP one_sP l
 exact ports4_any p c l (by omega) (by omega) W hR0 fun y hy=>by
  have h1:=h y hy
  have h2:sizeX y.w+1≤_:=sumN_mem sizeP hy
  unfold okP at h1
  rw [Bool.and_eq_true] at h1
  exact Ex4_ok y.w h1.2 (by omega)
theorem own_lt {B:Nat} {w:World} {v:Value} {ts:List Tok} (h:OwnT B w v ts):∀ k,v.ownBlock=some k→k<w.heap.size:=by
 intro k hk
 rcases h.2 with ⟨rfl,_⟩ | ⟨g,cap,cur,rfl,hB,hg,h1⟩
 ·cases hk
 ·simp [Value.ownBlock] at hk;subst hk;exact (Array.getElem?_eq_some_iff.1 hg).1
theorem tokensX4_any (x:X) (cs:List Value) (W:World) (hR:XR W x cs) (h1:smX x=true) (h2:sizeX x≤60000):Calls Tryz.prog 19 #[.agg cs.toArray] W (TkPost W (checkX x) (exprT x)):=by
 have HC:=hid (fun (W9:World) (h:Below W.heap.size W W9)=>checkX3_any x cs W9 (XR.later h _ _ hR) h1 (by omega))
 have HE:=hid (fun (h0:checkX x=0) (W9:World) (h:Below W.heap.size W W9)=>Ex4_ok x (checkX_ok.1 h0).2.2 (by omega) W9 cs (XR.later h _ _ hR))
 obtain ⟨hv,ls,rfl,hL⟩:=XR_iff.1 hR
 obtain ⟨p,c,rfl,_⟩:=hL
 clear hR h1 h2
 generalize checkX x=r at *
 obtain ⟨V,hV,HX,HBX⟩:=bx6 W (.int .i64 x.op) (.string (bs x.name)) (.int .i64 x.n) (.int .i64 x.w) (.int .u64 x.v) (.slice p x.l.length c) 28
 obtain ⟨x0,x1,x2,x3,x4,x5⟩:=HBX.out _ (Below.refl _ _)
 have hc:((r != 0)=true∧r ≠ 0)∨r=0:=by
  by_cases h:r=0
  ·exact .inr h
  ·exact .inl ⟨by simpa using h,h⟩
 rcases hc with ⟨hc,hn⟩ | rfl
 all_goals try have HN:=hid hn
 all_goals try clear hn
 all_goals
  go_enter Tryz.func19,Tryz.ntmps19
  go_wp2_with fail
  rw [← hV]
  clear hV
  have HS:=hid (St.start (Below.refl V.heap.size V))
  go_wp2_with (first
   | (go_at_call 57;refine (HC.out _ HX.out).mono ?_;rintro e V1 ⟨rfl,hb⟩;have HS:=hid (HS.out.next hb);obtain ⟨x0,x1,x2,x3,x4,x5⟩:=HBX.out _ HS.out.1;clear hb)
   | (go_at_call 58;refine (HE.out (by trivial) _ (HX.out.trans (HS.out.1.mono HX.out.size))).mono ?_;rintro e V2 ⟨p1,n1,c1,rfl,ho,hb⟩;have HS:=hid (HS.out.push ho hb);clear ho hb))
  go_ret2
  first
   | exact tk4_ok HX.out HS.out (by simp)
   | exact tk_err HN.out (HX.out.trans (HS.out.1.mono HX.out.size))
theorem tokensS4_any (clk:Bool) (x:S) (cs:List Value) (W:World) (hR:SR W x cs) (h1:smS x=true) (h2:sizeS x≤60000):Calls Tryz.prog 21 #[.agg cs.toArray,.bool clk] W (TkPost W (checkS x) (stmtT (putC clk) x)):=by
 have HC:=hid (fun (W9:World) (h:Below W.heap.size W W9)=>checkS3_any x cs W9 (SR.later h _ _ hR) h1 (by omega))
 have HE:=hid (fun (h0:checkS x=0) (W9:World) (h:Below W.heap.size W W9)=>StX_ok clk x (checkS_ok.1 h0).2.2 (by omega) W9 cs (SR.later h _ _ hR))
 obtain ⟨xs,ls,rfl,hX,hL⟩:=SR_iff.1 hR
 obtain ⟨px,cx,rfl,_⟩:=hX
 obtain ⟨p,c,rfl,_⟩:=hL
 clear hR h1 h2
 generalize checkS x=r at *
 obtain ⟨V,hV,HX,HBX⟩:=bx4 W (.int .i64 x.op) (.string (bs x.name)) (.slice px x.x.length cx) (.slice p x.l.length c) 31
 obtain ⟨x0,x1,x2,x3⟩:=HBX.out _ (Below.refl _ _)
 have hc:((r != 0)=true∧r ≠ 0)∨r=0:=by
  by_cases h:r=0
  ·exact .inr h
  ·exact .inl ⟨by simpa using h,h⟩
 rcases hc with ⟨hc,hn⟩ | rfl
 all_goals try have HN:=hid hn
 all_goals try clear hn
 all_goals
  go_enter Tryz.func21,Tryz.ntmps21
  go_wp2_with fail
  rw [← hV]
  clear hV
  have HS:=hid (St.start (Below.refl V.heap.size V))
  go_wp2_with (first
   | (go_at_call 61;refine (HC.out _ HX.out).mono ?_;rintro e V1 ⟨rfl,hb⟩;have HS:=hid (HS.out.next hb);obtain ⟨x0,x1,x2,x3⟩:=HBX.out _ HS.out.1;clear hb)
   | (go_at_call 62;refine (HE.out (by trivial) _ (HX.out.trans (HS.out.1.mono HX.out.size))).mono ?_;rintro e V2 ⟨p1,n1,c1,rfl,ho,hb⟩;have HS:=hid (HS.out.push ho hb);clear ho hb))
  go_ret2
  first
   | exact tk4_ok HX.out HS.out (by simp)
   | exact tk_err HN.out (HX.out.trans (HS.out.1.mono HX.out.size))
theorem tokens4_any (f:List Md) (p:Option Addr) (c:Nat) (W:World) (hR:MsR W (.slice p f.length c) f) (h1:f.all smM=true) (h2:sumN sizeM f≤60000):Calls Tryz.prog 17 #[.agg #[.slice p f.length c]] W (TkPost W (checkF f) (fileT f)):=by
 have HCK:=hid (fun (W9:World) (h:Below W.heap.size W W9)=>checkF3_any f p c W9 (MsR.later hR h) h1 (by omega))
 have HC:=hid (fun k (hk:k<f.length)=>atM hR hk)
 have hb:sumN (fun x=>(moduleT x).length+1) f≤1200000:=by
  have h3:sumN (fun x=>(moduleT x).length+1) f≤sumN (fun x=>17 * sizeM x) f:=sumN_le fun y _=>by have:=module_len y;have:=one_sM y;omega
  rw [sumN_mul] at h3
  omega
 have hlen:f.length≤1000000:=by have:=sumN_len sizeM one_sM f;omega
 have HM:=hid (show checkF f=0→∀ k (hk:k<f.length),okM f[k]=true∧sizeM f[k]≤60000 from fun h0 k hk=>⟨List.all_eq_true.1 (checkF_ok.1 h0).2.2.2 _ (List.getElem_mem hk),by have:=sumN_mem sizeM (List.getElem_mem hk);omega⟩)
 have HTN:=hid (fun k h=>flatP_next moduleT f (k:=k) h)
 have HTE:=hid (show fileT f=flatP moduleT f f.length by rw [flatP_end];rfl)
 have HLL:=hid (fun k=>flatP_len moduleT f k _ hb)
 have HL2:=hid (show ∀ k (hk:k<f.length),(moduleT f[k]).length≤1200000 from fun k hk=>by have:=sumN_mem (fun x=>(moduleT x).length+1) (List.getElem_mem hk);omega)
 have HT0:=hid (show flatP moduleT f 0=[] from rfl)
 have HBX:=hid (fun (w':World) (h:Below (W.alloc (.cells #[.slice p f.length c] 24)).heap.size (W.alloc (.cells #[.slice p f.length c] 24)) w')=>show w'.cell? ⟨W.heap.size,0,none⟩=some (.slice p f.length c) by
  have hc:=(h.block W.heap.size (by simp)).trans (World.alloc_heap_new W (.cells #[.slice p f.length c] 24))
  simp [World.cell?,hc])
 obtain ⟨V,hV⟩:∃ V,V=W.alloc (.cells #[.slice p f.length c] 24):=⟨_,rfl⟩
 have HX:=hid (show Below W.heap.size W V from hV ▸ (Below.refl W.heap.size W).alloc (Nat.le_refl _) _)
 have HVl:=hid (show W.heap.size<V.heap.size by rw [hV];simp)
 rw [← hV] at HBX
 have x0:=HBX.out _ (Below.refl _ _)
 clear hR h1 h2 hb
 generalize flatP moduleT f=T at *
 generalize fileT f=FT at *
 generalize checkF f=r at *
 have hc:((r != 0)=true∧r ≠ 0)∨r=0:=by
  by_cases h:r=0
  ·exact .inr h
  ·exact .inl ⟨by simpa using h,h⟩
 rcases hc with ⟨hc,hn⟩ | rfl
 ·have HN:=hid hn
  clear hn
  go_enter Tryz.func17,Tryz.ntmps17
  go_wp2_with fail
  rw [← hV]
  clear hV
  go_wp2_with (go_at_call 49;refine (HCK.out _ HX.out).mono ?_;rintro e V1 ⟨rfl,hb⟩;have HX:=hid (bthen HX.out hb);clear hb)
  go_ret2
  exact tk_err HN.out HX.out
 have HMX:=hid (HM.out rfl)
 clear HM
 go_enter Tryz.func17,Tryz.ntmps17
 go_wp2_with fail
 rw [← hV]
 clear hV
 go_wp2_with (go_at_call 49;refine (HCK.out _ HX.out).mono ?_;rintro e V1 ⟨rfl,hb⟩;have HV1:=hid hb;clear hb)
 go_loopw [5,6] (fun u i wr=>∃ (k n:Nat) (pq:Option Addr) (cp:Nat),u=.slice pq n cp∧i=.int .i64 k∧k≤f.length∧Hid (OwnT V.heap.size wr (.slice pq n cp) (T k))∧Hid (Below V.heap.size V wr)) (fun _ i _=>f.length - (intOf i).toNat)
 case atStart=>
  refine ⟨0,0,some ⟨V1.heap.size,0,none⟩,0,rfl,rfl,Nat.zero_le _,hid ?_,hid (HV1.out.alloc HV1.out.size _)⟩
  rw [HT0.out]
  exact OwnT.lower (World.ownsRow_made V1 #[] 0 (Nat.le_refl _) (by decide) rfl) HV1.out.size
 case round=>
  obtain ⟨k,n,pq,cp,rfl,rfl,hk,HO,HVW⟩:=hrel
  have HLK:=hid (HLL.out k)
  have HXW:=hid (bthen HX.out HVW.out)
  have z0:=HBX.out _ HVW.out
  by_cases hlt:k<f.length
  case neg=>
   obtain rfl:k=f.length:=by omega
   go_wp2
   go_ret2
   exact ⟨_,rfl,by rw [if_pos rfl,HTE.out];exact HO.out.lower HX.out.size,HXW.out⟩
  have hlt':(k:Int)<(f.length:Int):=by omega
  obtain ⟨q,off,pp,cp2,pt,ct,pl,cl,rfl,hy⟩:=HC.out k hlt
  have HLP:=HL2.out k hlt
  obtain ⟨om,sm⟩:=HMX.out k hlt
  have HN:=hid (HTN.out k hlt)
  generalize f[k]=y at *
  have HY:=hid hy
  obtain ⟨x0,x1,x2,x3⟩:=(hy _ HXW.out).2
  unfold okM at om
  unfold sizeM at sm
  rw [okIs_all] at om
  rw [sizeIs_sum] at sm
  simp only [Bool.and_eq_true,List.all_eq_true] at om
  obtain ⟨⟨⟨-,op'⟩,ot⟩,oi⟩:=om
  have CP:=hid (fun (W9:World) (h:Below V.heap.size V W9)=>params4_of op' (by omega) W9 _ (mP (hy _ (bthen HX.out h)).1))
  have CT:=hid (fun (W9:World) (h:Below V.heap.size V W9)=>ports4_of ot (by omega) W9 _ (mT (hy _ (bthen HX.out h)).1))
  have CI:=hid (fun (W9:World) (h:Below V.heap.size V W9)=>items4_of (fun z hz=>ItX_ok z (oi z hz) (by have:=sumN_mem sizeI hz;omega)) (by omega) W9 _ (mI (hy _ (bthen HX.out h)).1))
  clear hy op' ot oi
  have hbt:moduleT y=List.flatten [[wdT [109,111,100,117,108,101]],[nmT y.name],paramsT y.ps,parT (sepS [44] (y.pts.map portT)),cubT (y.l.map itemT).flatten]:=by simp [moduleT,itemsT_map]
  rw [hbt] at HLP HN
  clear hbt
  generalize paramsT y.ps=P at *
  generalize parT (sepS [44] (y.pts.map portT))=T2 at *
  generalize cubT (y.l.map itemT).flatten=I at *
  have HL:=hid (show P.length+T2.length+I.length≤1200000 by simp at HLP;omega)
  clear HLP sm
  have HNE:=hid (show ∀ j,(Value.slice pq n cp).ownBlock=some j→j=wr.heap.size→False from fun j h e=>by have:=own_lt HO.out j h;omega)
  obtain ⟨U,hU⟩:∃ U,U=wr.alloc (.cells #[.string (bs y.name),.slice pp y.ps.length cp2,.slice pt y.pts.length ct,.slice pl y.l.length cl] 53):=⟨_,rfl⟩
  have HWU:=hid (show Below wr.heap.size wr U from hU ▸ (Below.refl _ _).alloc (Nat.le_refl _) _)
  have HUl:=hid (show wr.heap.size<U.heap.size by rw [hU];simp)
  have HUr:=hid (show U.heap[wr.heap.size]?=some (.cells #[.string (bs y.name),.slice pp y.ps.length cp2,.slice pt y.pts.length ct,.slice pl y.l.length cl] 53 (0,0)) by rw [hU];exact World.alloc_heap_new wr _)
  have HMU:=hid (show ∀ w',Below U.heap.size U w'→w'.cell? ⟨wr.heap.size,0,none⟩=some (.string (bs y.name))∧w'.cell? ⟨wr.heap.size,1,none⟩=some (.slice pp y.ps.length cp2)∧w'.cell? ⟨wr.heap.size,2,none⟩=some (.slice pt y.pts.length ct)∧w'.cell? ⟨wr.heap.size,3,none⟩=some (.slice pl y.l.length cl) from fun w' h=>cells4 ((h.block _ HUl.out).trans HUr.out))
  obtain ⟨y0,y1,y2,y3⟩:=HMU.out _ (Below.refl _ _)
  go_wp2_with fail
  rw [← hU]
  clear hU
  obtain ⟨G0,G1,G2,G3,G4,G5⟩:True∧True∧True∧True∧True∧True:=by simp
  have HU:=hid (Below.refl U.heap.size U).drew
  have HS:=hid (show St V U.drew [(.slice pq n cp,T k)] from ⟨(bthen HVW.out HWU.out).drew,fun p hp=>by rw [List.mem_singleton.1 hp];exact (HO.out.later HWU.out).later (Below.refl U.heap.size U).drew⟩)
  go_region_held3 (fun w'=>w'.cell? ⟨wr.heap.size,0,none⟩=some (.string (bs y.name))∧w'.cell? ⟨wr.heap.size,1,none⟩=some (.slice pp y.ps.length cp2)∧w'.cell? ⟨wr.heap.size,2,none⟩=some (.slice pt y.pts.length ct)∧w'.cell? ⟨wr.heap.size,3,none⟩=some (.slice pl y.l.length cl))
   (first | exact HM6.out | exact HMU.out _ HU.out | go_keep)
   (first
    | (go_at_call 51;clear G0;refine (word4_any [109,111,100,117,108,101] _).mono ?_;rintro e V0 ⟨p0,n0,c0,rfl,ho,hb⟩;have HS:=hid (HS.out.push (ts:=[wdT [109,111,100,117,108,101]]) ho hb);have HU:=hid (bthen HU.out hb);clear ho hb)
    | (go_at_call 52;clear G1;refine (name4_any (y.name) _).mono ?_;rintro e V1 ⟨p1,n1,c1,rfl,ho,hb⟩;have HS:=hid (HS.out.push (ts:=[nmT (y.name)]) ho hb);have HU:=hid (bthen HU.out hb);clear ho hb)
    | (go_at_call 53;clear G2;refine (CP.out _ HS.out.1).mono ?_;rintro e V2 ⟨p2,n2,c2,rfl,ho,hb⟩;have HS:=hid (HS.out.push (ts:=P) ho hb);have HU:=hid (bthen HU.out hb);clear ho hb)
    | (go_at_call 54;clear G3;refine (CT.out _ HS.out.1).mono ?_;rintro e V3 ⟨p3,n3,c3,rfl,ho,hb⟩;have HS:=hid (HS.out.push (ts:=T2) ho hb);have HU:=hid (bthen HU.out hb);clear ho hb)
    | (go_at_call 55;clear G4;refine (CI.out _ HS.out.1).mono ?_;rintro e V4 ⟨p4,n4,c4,rfl,ho,hb⟩;have HS:=hid (HS.out.push (ts:=I) ho hb);have HU:=hid (bthen HU.out hb);clear ho hb)
    | (go_at_call 50;clear G5;refine (join5_any HS.out [(.slice p0 n0 c0,[wdT [109,111,100,117,108,101]]),(.slice p1 n1 c1,[nmT (y.name)]),(.slice p2 n2 c2,P),(.slice p3 n3 c3,T2),(.slice p4 n4 c4,I)] (by simp) (by simp) (by have:=HL.out;simp [allT,inT];omega)).mono ?_;rintro e V5 ⟨p5,n5,c5,rfl,ho,hb⟩;have HS:=hid (HS.out.push (ts:=List.flatten [[wdT [109,111,100,117,108,101]],[nmT (y.name)],P,T2,I]) ho hb);have HU:=hid (bthen HU.out hb);clear ho hb)
    | (rw [if_pos (by rfl)];refine wp_append_toks _ _ rfl V.heap.size _ (T k) (List.flatten [[wdT [109,111,100,117,108,101]],[nmT (y.name)],P,T2,I]) rfl (HS.out.2 (.slice pq n cp,T k) (by simp)) _ (.slice p5 n5 c5) rfl (HS.out.2 (.slice p5 n5 c5,List.flatten [[wdT [109,111,100,117,108,101]],[nmT (y.name)],P,T2,I]) (by simp)) (by have:=HLK.out;have:=HL.out;simp;omega) HS.out.1.size ?_;intro p6 c6 N w6 hN hO hgr;have HO6:=hid hO;have HX6:=hid (Below.grown HS.out.1 hgr HS.out.1.size (fun j hj=>(HS.out.2 (.slice pq n cp,T k) (by simp)).base j hj));have HM6:=hid (cells4 ((hgr.block wr.heap.size (Nat.lt_of_lt_of_le HUl.out HU.out.size) (fun h=>HNE.out _ h.symm rfl)).trans ((HU.out.block _ HUl.out).trans HUr.out)));clear hN hO hgr))
  go_wp2
  go_roundw
  case rel=>exact ⟨k+1,_,p6,c6,rfl,by go_num,hlt,hid (by rw [HN.out];exact HO6.out),HX6⟩
  case measure=>simp [intOf];omega
end Go.Proofs.YtlcfpdmicpggbaaGreatDoor
namespace Go.Proofs.YtlcfpdmicpggbaaGreatDoor
open Go.Lib (hid)
open Go.RowKit Go.Proofs.Spl Go.Proofs.Scn Go.Shelf
theorem laid4_below:∀ (l:List Obj) (W:World),Below W.heap.size W (l.foldl World.alloc W)
 | [],W=>Below.refl _ _
 | o :: l,W=>((Below.refl _ _).alloc (Nat.le_refl _) o).trans ((laid4_below l (W.alloc o)).mono (by simp))
theorem laid4_at:∀ (l:List Obj) (W:World) (i:Nat) (o:Obj),l[i]?=some o→(l.foldl World.alloc W).heap[W.heap.size+i]?=some o
 | [],_,i,_,h=>by simp at h
 | a :: l,W,0,o,h=>by
  simp only [List.getElem?_cons_zero,Option.some.injEq] at h
  subst h
  exact ((laid4_below l (W.alloc a)).block W.heap.size (by simp)).trans (World.alloc_heap_new W a)
 | a :: l,W,i+1,o,h=>by
  have:=laid4_at l (W.alloc a) i o (by simpa using h)
  rw [World.size_alloc] at this
  rw [show W.heap.size+(i+1)=W.heap.size+1+i by omega]
  exact this
theorem stb {W V U:World} {l:List (Value × List Tok)} (hX:Below W.heap.size W V) (h:St V U l):Below W.heap.size W U:=hX.trans (h.1.mono hX.size)
theorem row4 {w w':World} {b:Nat} {cs:Array Value} {T:TypeId} (hr:w.heap[b]?=some (.cells cs T (0,0))) (h:Below w.heap.size w w') (i:Nat) (v:Value) (hv:cs[i]?=some v):w'.cell? ⟨b,i,none⟩=some v:=
 (cell_of_row _ _ _ _ _ _ ((h.block _ (Array.getElem?_eq_some_iff.1 hr).1).trans hr)).trans hv
def tkT (c:Int) (ts:List Tok):List Tok:=if c=0 then ts else []
theorem tkT_len {c:Int} {ts:List Tok} {n:Nat} (h:ts.length≤n):(tkT c ts).length≤n:=by
 unfold tkT
 split
 ·exact h
 ·exact Nat.zero_le _
theorem tk_use {W W':World} {c:Int} {ts:List Tok} {e:Ending} (k:TkPost W c ts e W'):∃ p n d,e=.returned (.tuple #[.slice p n d,.int .i64 c])∧OwnT W.heap.size W' (.slice p n d) (tkT c ts)∧Below W.heap.size W W':=by
 obtain ⟨v,rfl,hx,hb⟩:=k
 obtain ⟨p,n,d,rfl⟩:=hx.shape3
 exact ⟨p,n,d,rfl,hx.own,hb⟩
theorem tells_any (f:List Md) (p:Option Addr) (c:Nat) (x:X) (cx0:List Value) (s:S) (cs0:List Value) (clk:Bool) (W:World) (hB:BaseA W) (hR:MsR W (.slice p f.length c) f) (hX:XR W x cx0) (hS:SR W s cs0)
  (f1:sumN sizeM f≤1048576) (f2:f.all smM=true) (x1:sizeX x≤1048576) (x2:smX x=true) (s1:sizeS s≤1048576) (s2:smS s=true) :
  RetB 3 #[.agg #[.slice p f.length c],.agg cx0.toArray,.agg cs0.toArray,.bool clk] W true:=by
 have HF:=hid (fun (W9:World) (h:Below W.heap.size W W9)=>few_any f p c W9 (MsR.later hR h) (by omega))
 have HG:=hid (fun (W9:World) (h:Below W.heap.size W W9)=>fewX_any x cx0 W9 (XR.later h _ _ hX) (by omega))
 have HH:=hid (fun (W9:World) (h:Below W.heap.size W W9)=>fewS_any s cs0 W9 (SR.later h _ _ hS) (by omega))
 have K1:=hid (fun (hq:fewB (sumN sizeM f) (maxN deepM f)=true) (W9:World) (h:Below W.heap.size W W9)=>(tokens_any f p c W9 (hB.later h) (MsR.later hR h) f2 (by have:=fewB_le hq;omega)).mono fun _ _ k=>tk_use k)
 have K2:=hid (fun (hq:fewB (sumN sizeM f) (maxN deepM f)=true) (W9:World) (h:Below W.heap.size W W9)=>(tokens4_any f p c W9 (MsR.later hR h) f2 (by have:=fewB_le hq;omega)).mono fun _ _ k=>tk_use k)
 have K3:=hid (fun (hq:fewB (sizeX x) (deepX x)=true) (W9:World) (h:Below W.heap.size W W9)=>(tokensX_any x cx0 W9 (hB.later h) (XR.later h _ _ hX) x2 (by have:=fewB_le hq;omega)).mono fun _ _ k=>tk_use k)
 have K4:=hid (fun (hq:fewB (sizeX x) (deepX x)=true) (W9:World) (h:Below W.heap.size W W9)=>(tokensX4_any x cx0 W9 (XR.later h _ _ hX) x2 (by have:=fewB_le hq;omega)).mono fun _ _ k=>tk_use k)
 have K5:=hid (fun (hq:fewB (sizeS s) (deepS s)=true) (W9:World) (h:Below W.heap.size W W9)=>(tokensS_any clk s cs0 W9 (hB.later h) (SR.later h _ _ hS) s2 (by have:=fewB_le hq;omega)).mono fun _ _ k=>tk_use k)
 have K6:=hid (fun (hq:fewB (sizeS s) (deepS s)=true) (W9:World) (h:Below W.heap.size W W9)=>(tokensS4_any clk s cs0 W9 (SR.later h _ _ hS) s2 (by have:=fewB_le hq;omega)).mono fun _ _ k=>tk_use k)
 have L1:=hid (show (tkT (checkF f) (fileT f)).length≤140737488351232 from tkT_len (by have:=file_len f;omega))
 have L2:=hid (show (tkT (checkX x) (exprT x)).length≤140737488351232 from tkT_len (by have:=expr_len x;omega))
 have L3:=hid (show (tkT (checkS s) (stmtT (putC clk) s)).length≤140737488351232 from tkT_len (by have:=stmt_len (putC clk) s;omega))
 have HB:=hid hB
 obtain ⟨_,ls,rfl,hL⟩:=XR_iff.1 hX
 obtain ⟨px,cx,rfl,_⟩:=hL
 obtain ⟨xs,ls,rfl,hXs,hL⟩:=SR_iff.1 hS
 obtain ⟨pxs,cxs,rfl,_⟩:=hXs
 obtain ⟨ps,cs2,rfl,_⟩:=hL
 clear hB hR hX hS f1 f2 x1 x2 s1 s2
 generalize fewB (sumN sizeM f) (maxN deepM f)=q1 at *
 generalize fewB (sizeX x) (deepX x)=q2 at *
 generalize fewB (sizeS s) (deepS s)=q3 at *
 generalize tkT (checkF f) (fileT f)=k1 at *
 generalize tkT (checkX x) (exprT x)=k2 at *
 generalize tkT (checkS s) (stmtT (putC clk) s)=k3 at *
 generalize checkF f=r1 at *
 generalize checkX x=r2 at *
 generalize checkS s=r3 at *
 obtain ⟨V,hV⟩:∃ V,V=((W.alloc (.cells #[.slice p f.length c] 24)).alloc (.cells #[.int .i64 x.op,.string (bs x.name),.int .i64 x.n,.int .i64 x.w,.int .u64 x.v,.slice px x.l.length cx] 28)).alloc (.cells #[.int .i64 s.op,.string (bs s.name),.slice pxs s.x.length cxs,.slice ps s.l.length cs2] 31):=⟨_,rfl⟩
 have XV:=hid (show Below W.heap.size W V by rw [hV];exact laid4_below [.cells #[.slice p f.length c] 24,.cells #[.int .i64 x.op,.string (bs x.name),.int .i64 x.n,.int .i64 x.w,.int .u64 x.v,.slice px x.l.length cx] 28,.cells #[.int .i64 s.op,.string (bs s.name),.slice pxs s.x.length cxs,.slice ps s.l.length cs2] 31] W)
 have r0:V.heap[W.heap.size]?=some (.cells #[.slice p f.length c] 24 (0,0)):=by rw [hV];exact laid4_at [.cells #[.slice p f.length c] 24,.cells #[.int .i64 x.op,.string (bs x.name),.int .i64 x.n,.int .i64 x.w,.int .u64 x.v,.slice px x.l.length cx] 28,.cells #[.int .i64 s.op,.string (bs s.name),.slice pxs s.x.length cxs,.slice ps s.l.length cs2] 31] W 0 _ rfl
 have r1':V.heap[W.heap.size+1]?=some (.cells #[.int .i64 x.op,.string (bs x.name),.int .i64 x.n,.int .i64 x.w,.int .u64 x.v,.slice px x.l.length cx] 28 (0,0)):=by rw [hV];exact laid4_at [.cells #[.slice p f.length c] 24,.cells #[.int .i64 x.op,.string (bs x.name),.int .i64 x.n,.int .i64 x.w,.int .u64 x.v,.slice px x.l.length cx] 28,.cells #[.int .i64 s.op,.string (bs s.name),.slice pxs s.x.length cxs,.slice ps s.l.length cs2] 31] W 1 _ rfl
 have r2':V.heap[W.heap.size+2]?=some (.cells #[.int .i64 s.op,.string (bs s.name),.slice pxs s.x.length cxs,.slice ps s.l.length cs2] 31 (0,0)):=by rw [hV];exact laid4_at [.cells #[.slice p f.length c] 24,.cells #[.int .i64 x.op,.string (bs x.name),.int .i64 x.n,.int .i64 x.w,.int .u64 x.v,.slice px x.l.length cx] 28,.cells #[.int .i64 s.op,.string (bs s.name),.slice pxs s.x.length cxs,.slice ps s.l.length cs2] 31] W 2 _ rfl
 have HSx:=hid (show ∀ w',Below V.heap.size V w'→w'.cell? ⟨W.heap.size,0,none⟩=some (.slice p f.length c)∧w'.cell? ⟨W.heap.size+1,0,none⟩=some (.int .i64 x.op)∧w'.cell? ⟨W.heap.size+1,1,none⟩=some (.string (bs x.name))∧w'.cell? ⟨W.heap.size+1,2,none⟩=some (.int .i64 x.n)∧w'.cell? ⟨W.heap.size+1,3,none⟩=some (.int .i64 x.w)∧w'.cell? ⟨W.heap.size+1,4,none⟩=some (.int .u64 x.v)∧w'.cell? ⟨W.heap.size+1,5,none⟩=some (.slice px x.l.length cx)∧w'.cell? ⟨W.heap.size+2,0,none⟩=some (.int .i64 s.op)∧w'.cell? ⟨W.heap.size+2,1,none⟩=some (.string (bs s.name))∧w'.cell? ⟨W.heap.size+2,2,none⟩=some (.slice pxs s.x.length cxs)∧w'.cell? ⟨W.heap.size+2,3,none⟩=some (.slice ps s.l.length cs2) from fun w' h=>⟨row4 r0 h 0 _ rfl,row4 r1' h 0 _ rfl,row4 r1' h 1 _ rfl,row4 r1' h 2 _ rfl,row4 r1' h 3 _ rfl,row4 r1' h 4 _ rfl,row4 r1' h 5 _ rfl,row4 r2' h 0 _ rfl,row4 r2' h 1 _ rfl,row4 r2' h 2 _ rfl,row4 r2' h 3 _ rfl⟩)
 clear r0 r1' r2'
 have HS:=hid (St.start (Below.refl V.heap.size V))
 obtain ⟨z0,y0,y1,y2,y3,y4,y5,t0,t1,t2,t3⟩:=HSx.out _ HS.out.1;
 go_enter Tryz.func3,Tryz.ntmps3
 go_wp2_with fail
 rw [← hV]
 clear hV
 have G1:=True.intro
 have G2:=True.intro
 go_wp2_with (first
  | (go_at_call 12;refine (live_any _ (HB.out.later (stb XV.out HS.out))).mono ?_;rintro e W0 ⟨rfl,hb⟩;have HS:=hid (HS.out.next hb);obtain ⟨z0,y0,y1,y2,y3,y4,y5,t0,t1,t2,t3⟩:=HSx.out _ HS.out.1;clear hb)
  | (go_at_call 13;refine (HF.out _ (stb XV.out HS.out)).mono ?_;rintro e W1 ⟨rfl,hb⟩;have HS:=hid (HS.out.next hb);obtain ⟨z0,y0,y1,y2,y3,y4,y5,t0,t1,t2,t3⟩:=HSx.out _ HS.out.1;clear hb;cases q1)
  | (go_at_call 14;refine (HG.out _ (stb XV.out HS.out)).mono ?_;rintro e W2 ⟨rfl,hb⟩;have HS:=hid (HS.out.next hb);obtain ⟨z0,y0,y1,y2,y3,y4,y5,t0,t1,t2,t3⟩:=HSx.out _ HS.out.1;clear hb;cases q2)
  | (go_at_call 15;refine (HH.out _ (stb XV.out HS.out)).mono ?_;rintro e W3 ⟨rfl,hb⟩;have HS:=hid (HS.out.next hb);obtain ⟨z0,y0,y1,y2,y3,y4,y5,t0,t1,t2,t3⟩:=HSx.out _ HS.out.1;clear hb;cases q3)
  | (go_at_call 16;refine (K1.out (by trivial) _ (stb XV.out HS.out)).mono ?_;rintro e V1 ⟨p1,n1,c1,rfl,ho,hb⟩;have HS:=hid (HS.out.push ho hb);obtain ⟨z0,y0,y1,y2,y3,y4,y5,t0,t1,t2,t3⟩:=HSx.out _ HS.out.1;clear ho hb)
  | (go_at_call 17;refine (K2.out (by trivial) _ (stb XV.out HS.out)).mono ?_;rintro e V2 ⟨p2,n2,c2,rfl,ho,hb⟩;have HS:=hid (HS.out.push ho hb);obtain ⟨z0,y0,y1,y2,y3,y4,y5,t0,t1,t2,t3⟩:=HSx.out _ HS.out.1;clear ho hb)
  | (go_at_call 18;refine (K3.out (by trivial) _ (stb XV.out HS.out)).mono ?_;rintro e V3 ⟨p3,n3,c3,rfl,ho,hb⟩;have HS:=hid (HS.out.push ho hb);obtain ⟨z0,y0,y1,y2,y3,y4,y5,t0,t1,t2,t3⟩:=HSx.out _ HS.out.1;clear ho hb)
  | (go_at_call 19;refine (K4.out (by trivial) _ (stb XV.out HS.out)).mono ?_;rintro e V4 ⟨p4,n4,c4,rfl,ho,hb⟩;have HS:=hid (HS.out.push ho hb);obtain ⟨z0,y0,y1,y2,y3,y4,y5,t0,t1,t2,t3⟩:=HSx.out _ HS.out.1;clear ho hb)
  | (go_at_call 20;refine (K5.out (by trivial) _ (stb XV.out HS.out)).mono ?_;rintro e V5 ⟨p5,n5,c5,rfl,ho,hb⟩;have HS:=hid (HS.out.push ho hb);obtain ⟨z0,y0,y1,y2,y3,y4,y5,t0,t1,t2,t3⟩:=HSx.out _ HS.out.1;clear ho hb)
  | (go_at_call 21;refine (K6.out (by trivial) _ (stb XV.out HS.out)).mono ?_;rintro e V6 ⟨p6,n6,c6,rfl,ho,hb⟩;have HS:=hid (HS.out.push ho hb);obtain ⟨z0,y0,y1,y2,y3,y4,y5,t0,t1,t2,t3⟩:=HSx.out _ HS.out.1;clear ho hb)
  | (go_at_call 22;clear G1;refine (equal_any _ _ k1 k1 L1.out _ (HS.out.2 (.slice p1 n1 c1,k1) (by simp)).toks (HS.out.2 (.slice p2 n2 c2,k1) (by simp)).toks).mono ?_;rw [decide_eq_true rfl];rintro e V7 ⟨rfl,hb⟩;have HS:=hid (HS.out.next hb);clear hb)
  | (go_at_call 22;clear G2;refine (equal_any _ _ k2 k2 L2.out _ (HS.out.2 (.slice p3 n3 c3,k2) (by simp)).toks (HS.out.2 (.slice p4 n4 c4,k2) (by simp)).toks).mono ?_;rw [decide_eq_true rfl];rintro e V8 ⟨rfl,hb⟩;have HS:=hid (HS.out.next hb);clear hb)
  | (go_at_call 22;refine (equal_any _ _ k3 k3 L3.out _ (HS.out.2 (.slice p5 n5 c5,k3) (by simp)).toks (HS.out.2 (.slice p6 n6 c6,k3) (by simp)).toks).mono ?_;rw [decide_eq_true rfl];rintro e V9 ⟨rfl,hb⟩;have HS:=hid (HS.out.next hb);clear hb))
 all_goals (go_ret;exact ⟨rfl,stb XV.out HS.out⟩)
end Go.Proofs.YtlcfpdmicpggbaaGreatDoor
