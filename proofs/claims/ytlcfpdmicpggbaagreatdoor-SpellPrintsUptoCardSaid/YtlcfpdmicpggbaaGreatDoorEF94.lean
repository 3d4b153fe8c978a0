/- Texts of the seat, merged. -/
import Derived.Test.YtlcfpdmicpggbaaGreatDoorEF93
set_option linter.unusedVariables false
set_option linter.unusedSimpArgs false
set_option maxRecDepth 100000
set_option maxHeartbeats 16000000
namespace Go.Proofs.YtlcfpdmicpggbaaGreatDoor
open Go.Lib (hid)
open Go.RowKit Go.Proofs.Spl Go.Proofs.Scn Go.Shelf
theorem partT_le (a:X) (k:Nat) (h:(exprT a).length≤600000):(partT (rankX a,exprT a) k).length≤600002:=Nat.le_trans (part_len _ _) (by simp;omega)
theorem expr4_index (op:Int) (name:Ln) (n w:Int) (v:Nat) (p:Option Addr) (cap:Nat) (a:X) (W:World) (hR:XsR W (.slice p 1 cap) [a]) (hEa:Ex4 a) (hla:(exprT a).length≤600000) (hka:okX a=true) :
  Calls Tryz.prog 58 #[.agg #[.int .i64 4,.string (bs name),.int .i64 n,.int .i64 w,.int .u64 v,.slice p 1 cap]] W (TkP W (exprT (.mk 4 name n w v [a]))):=by
 obtain ⟨q,off,pa,ca,hp,ha⟩:=atX (l:=[a]) hR (k:=0) (by simp)
 simp only [List.getElem_cons_zero,List.getElem_cons_succ,Nat.zero_mul,Nat.add_zero,Nat.one_mul,Nat.reduceMul] at ha
 have HA:=hid ha
 have Ea:=hid (fun (W9:World) (h:Below W.heap.size W W9)=>hEa W9 _ (ha W9 h).1)
 subst hp
 have HL:=hid (show (exprT a).length≤600000 from hla)
 have HT:=hid (show exprT (.mk 4 name n w v [a])=List.flatten [[nmT (name)],inT 91 93 (exprT a)] by rw [exprT_4];simp [sepS])
 clear hR  ha hEa hla hka
 obtain ⟨V,hV,HX,HBX⟩:=bx6 W (.int .i64 4) (.string (bs name)) (.int .i64 n) (.int .i64 w) (.int .u64 v) (.slice (some ⟨q,off,none⟩) 1 cap) 28
 obtain ⟨x0,x1,x2,x3,x4,x5⟩:=HBX.out _ (Below.refl _ _)
 go_enter Tryz.func58,Tryz.ntmps58
 go_wp2_with fail
 rw [← hV]
 clear hV
 obtain ⟨G0,G1,G2,G3⟩:True∧True∧True∧True:=by simp
 have HS:=hid (St.start (Below.refl V.heap.size V).drew)
 go_region_held3 (fun w'=>B6 w' W.heap.size (.int .i64 4) (.string (bs name)) (.int .i64 n) (.int .i64 w) (.int .u64 v) (.slice (some ⟨q,off,none⟩) 1 cap)∧C6 w' q (off) a pa ca)
  (first | exact ⟨HBX.out _ HS.out.1,(HA.out _ (bthen HX.out HS.out.1)).2⟩ | exact ⟨HBX.out _ (HS.out.1.alloc HS.out.1.size _),(HA.out _ (bthen HX.out (HS.out.1.alloc HS.out.1.size _))).2⟩ | go_keep)
  (first
    | (go_at_call 52;clear G0;refine (psh (name4_any (name) _) HS).mono ?_;rintro e V0 ⟨p0,n0,c0,rfl,HS⟩)
    | (go_at_call 58;clear G1;refine (psh (Ea.out _ (HX.out.trans (HS.out.1.mono HX.out.size))) HS).mono ?_;rintro e V1 ⟨p1,n1,c1,rfl,HS⟩)
    | (go_at_call 102;clear G2;refine (psh (between5_any HS.out 91 93 p1 n1 c1 (exprT a) (by simp) (by have:=HL.out;simp [inT];omega)) HS).mono ?_;rintro e V2 ⟨p2,n2,c2,rfl,HS⟩)
    | (go_at_call 50;clear G3;refine (psh (ts:=List.flatten [[nmT (name)],inT 91 93 (exprT a)]) (join5_any HS.out [(.slice p0 n0 c0,[nmT (name)]),(.slice p2 n2 c2,inT 91 93 (exprT a))] (by simp) (by simp) (by have:=HL.out;simp [allT,inT];omega)) HS).mono ?_;rintro e V3 ⟨p3,n3,c3,rfl,HS⟩))
 go_wp2
 go_ret
 rw [HT.out]
 exact St.ret HX.out HS.out (by simp)
theorem expr4_slice (op:Int) (name:Ln) (n w:Int) (v:Nat) (p:Option Addr) (cap:Nat) (a b:X) (W:World) (hR:XsR W (.slice p 2 cap) [a,b]) (hEa:Ex4 a) (hla:(exprT a).length≤600000) (hka:okX a=true) (hEb:Ex4 b) (hlb:(exprT b).length≤600000) (hkb:okX b=true) :
  Calls Tryz.prog 58 #[.agg #[.int .i64 3,.string (bs name),.int .i64 n,.int .i64 w,.int .u64 v,.slice p 2 cap]] W (TkP W (exprT (.mk 3 name n w v [a,b]))):=by
 obtain ⟨q,off,pa,ca,hp,ha⟩:=atX (l:=[a,b]) hR (k:=0) (by simp)
 simp only [List.getElem_cons_zero,List.getElem_cons_succ,Nat.zero_mul,Nat.add_zero,Nat.one_mul,Nat.reduceMul] at ha
 have HA:=hid ha
 have Ea:=hid (fun (W9:World) (h:Below W.heap.size W W9)=>hEa W9 _ (ha W9 h).1)
 obtain ⟨q1,off1,pb,cb,hp1,hb⟩:=atX (l:=[a,b]) hR (k:=1) (by simp)
 rw [hp] at hp1
 cases hp1
 simp only [List.getElem_cons_zero,List.getElem_cons_succ,Nat.zero_mul,Nat.add_zero,Nat.one_mul,Nat.reduceMul] at hb
 have HB:=hid hb
 have Eb:=hid (fun (W9:World) (h:Below W.heap.size W W9)=>hEb W9 _ (hb W9 h).1)
 subst hp
 have HL:=hid (show (exprT a).length≤600000∧(exprT b).length≤600000 from ⟨hla,hlb⟩)
 have HT:=hid (show exprT (.mk 3 name n w v [a,b])=List.flatten [[nmT (name)],inT 91 93 (List.flatten [exprT a,[sgT [58]],exprT b])] by rw [exprT_3];simp [sepS])
 clear hR  ha hEa hla hka hb hEb hlb hkb
 obtain ⟨V,hV,HX,HBX⟩:=bx6 W (.int .i64 3) (.string (bs name)) (.int .i64 n) (.int .i64 w) (.int .u64 v) (.slice (some ⟨q,off,none⟩) 2 cap) 28
 obtain ⟨x0,x1,x2,x3,x4,x5⟩:=HBX.out _ (Below.refl _ _)
 go_enter Tryz.func58,Tryz.ntmps58
 go_wp2_with fail
 rw [← hV]
 clear hV
 obtain ⟨G0,G1,G2,G3,G4,G5,G6⟩:True∧True∧True∧True∧True∧True∧True:=by simp
 have HS:=hid (St.start (Below.refl V.heap.size V).drew)
 go_region_held3 (fun w'=>B6 w' W.heap.size (.int .i64 3) (.string (bs name)) (.int .i64 n) (.int .i64 w) (.int .u64 v) (.slice (some ⟨q,off,none⟩) 2 cap)∧C6 w' q (off) a pa ca∧C6 w' q (off+6) b pb cb)
  (first | exact ⟨HBX.out _ HS.out.1,(HA.out _ (bthen HX.out HS.out.1)).2,(HB.out _ (bthen HX.out HS.out.1)).2⟩ | exact ⟨HBX.out _ (HS.out.1.alloc HS.out.1.size _),(HA.out _ (bthen HX.out (HS.out.1.alloc HS.out.1.size _))).2,(HB.out _ (bthen HX.out (HS.out.1.alloc HS.out.1.size _))).2⟩ | go_keep)
  (first
    | (go_at_call 52;clear G0;refine (psh (name4_any (name) _) HS).mono ?_;rintro e V0 ⟨p0,n0,c0,rfl,HS⟩)
    | (go_at_call 58;clear G1;refine (psh (Ea.out _ (HX.out.trans (HS.out.1.mono HX.out.size))) HS).mono ?_;rintro e V1 ⟨p1,n1,c1,rfl,HS⟩)
    | (go_at_call 100;clear G2;refine (psh (sign4_any [58] _) HS).mono ?_;rintro e V2 ⟨p2,n2,c2,rfl,HS⟩)
    | (go_at_call 58;clear G3;refine (psh (Eb.out _ (HX.out.trans (HS.out.1.mono HX.out.size))) HS).mono ?_;rintro e V3 ⟨p3,n3,c3,rfl,HS⟩)
    | (go_at_call 50;clear G4;refine (psh (ts:=List.flatten [exprT a,[sgT [58]],exprT b]) (join5_any HS.out [(.slice p1 n1 c1,exprT a),(.slice p2 n2 c2,[sgT [58]]),(.slice p3 n3 c3,exprT b)] (by simp) (by simp) (by have:=HL.out;simp [allT,inT];omega)) HS).mono ?_;rintro e V4 ⟨p4,n4,c4,rfl,HS⟩)
    | (go_at_call 102;clear G5;refine (psh (between5_any HS.out 91 93 p4 n4 c4 (List.flatten [exprT a,[sgT [58]],exprT b]) (by simp) (by have:=HL.out;simp [inT];omega)) HS).mono ?_;rintro e V5 ⟨p5,n5,c5,rfl,HS⟩)
    | (go_at_call 50;clear G6;refine (psh (ts:=List.flatten [[nmT (name)],inT 91 93 (List.flatten [exprT a,[sgT [58]],exprT b])]) (join5_any HS.out [(.slice p0 n0 c0,[nmT (name)]),(.slice p5 n5 c5,inT 91 93 (List.flatten [exprT a,[sgT [58]],exprT b]))] (by simp) (by simp) (by have:=HL.out;simp [allT,inT];omega)) HS).mono ?_;rintro e V6 ⟨p6,n6,c6,rfl,HS⟩))
 go_wp2
 go_ret
 rw [HT.out]
 exact St.ret HX.out HS.out (by simp)
theorem expr4_un (op:Int) (name:Ln) (n w:Int) (v:Nat) (p:Option Addr) (cap:Nat) (a:X) (W:World) (hR:XsR W (.slice p 1 cap) [a]) (hEa:Ex4 a) (hla:(exprT a).length≤600000) (hka:okX a=true) :
  Calls Tryz.prog 58 #[.agg #[.int .i64 5,.string (bs name),.int .i64 n,.int .i64 w,.int .u64 v,.slice p 1 cap]] W (TkP W (exprT (.mk 5 name n w v [a]))):=by
 obtain ⟨q,off,pa,ca,hp,ha⟩:=atX (l:=[a]) hR (k:=0) (by simp)
 simp only [List.getElem_cons_zero,List.getElem_cons_succ,Nat.zero_mul,Nat.add_zero,Nat.one_mul,Nat.reduceMul] at ha
 have HA:=hid ha
 have Ea:=hid (fun (W9:World) (h:Below W.heap.size W W9)=>hEa W9 _ (ha W9 h).1)
 subst hp
 have Pa:=hid (fun (W9:World) (h:Below W.heap.size W W9)=>show Calls Tryz.prog 112 #[.agg #[.int .i64 a.op,.string (bs a.name),.int .i64 a.n,.int .i64 a.w,.int .u64 a.v,.slice pa a.l.length ca],.int .i64 (11)] W9 (TkP W9 (partT (rankX a,exprT a) (11))) from part4_any a hka hEa hla (11) _ W9 (ha W9 h).1)
 have HL:=hid (show (partT (rankX a,exprT a) 11).length≤600002 from partT_le a 11 hla)
 have HT:=hid (show exprT (.mk 5 name n w v [a])=List.flatten [[sgT (oneS n)],partT (rankX a,exprT a) 11] by rw [exprT_5])
 clear hR  ha hEa hla hka
 obtain ⟨V,hV,HX,HBX⟩:=bx6 W (.int .i64 5) (.string (bs name)) (.int .i64 n) (.int .i64 w) (.int .u64 v) (.slice (some ⟨q,off,none⟩) 1 cap) 28
 obtain ⟨x0,x1,x2,x3,x4,x5⟩:=HBX.out _ (Below.refl _ _)
 go_enter Tryz.func58,Tryz.ntmps58
 go_wp2_with fail
 rw [← hV]
 clear hV
 obtain ⟨G0,G1,G2⟩:True∧True∧True:=by simp
 have HS:=hid (St.start (Below.refl V.heap.size V).drew)
 go_region_held3 (fun w'=>B6 w' W.heap.size (.int .i64 5) (.string (bs name)) (.int .i64 n) (.int .i64 w) (.int .u64 v) (.slice (some ⟨q,off,none⟩) 1 cap)∧C6 w' q (off) a pa ca)
  (first | exact ⟨HBX.out _ HS.out.1,(HA.out _ (bthen HX.out HS.out.1)).2⟩ | exact ⟨HBX.out _ (HS.out.1.alloc HS.out.1.size _),(HA.out _ (bthen HX.out (HS.out.1.alloc HS.out.1.size _))).2⟩ | go_keep)
  (first
    | (go_at_call 111;refine (one4_any n _).mono ?_;rintro e Vo ⟨rfl,rfl⟩)
    | (go_at_call 100;clear G0;refine (psh (sign4_any (oneS n) _) HS).mono ?_;rintro e V0 ⟨p0,n0,c0,rfl,HS⟩)
    | (go_at_call 112;clear G1;refine (psh (Pa.out _ (HX.out.trans (HS.out.1.mono HX.out.size))) HS).mono ?_;rintro e V1 ⟨p1,n1,c1,rfl,HS⟩)
    | (go_at_call 50;clear G2;refine (psh (ts:=List.flatten [[sgT (oneS n)],partT (rankX a,exprT a) 11]) (join5_any HS.out [(.slice p0 n0 c0,[sgT (oneS n)]),(.slice p1 n1 c1,partT (rankX a,exprT a) 11)] (by simp) (by simp) (by have:=HL.out;simp [allT,inT];omega)) HS).mono ?_;rintro e V2 ⟨p2,n2,c2,rfl,HS⟩))
 go_wp2
 go_ret
 rw [HT.out]
 exact St.ret HX.out HS.out (by simp)
theorem expr4_bin (op:Int) (name:Ln) (n w:Int) (v:Nat) (p:Option Addr) (cap:Nat) (a b:X) (W:World) (hR:XsR W (.slice p 2 cap) [a,b]) (h1:11≤n) (h2:n≤26) (hEa:Ex4 a) (hla:(exprT a).length≤600000) (hka:okX a=true) (hEb:Ex4 b) (hlb:(exprT b).length≤600000) (hkb:okX b=true) :
  Calls Tryz.prog 58 #[.agg #[.int .i64 6,.string (bs name),.int .i64 n,.int .i64 w,.int .u64 v,.slice p 2 cap]] W (TkP W (exprT (.mk 6 name n w v [a,b]))):=by
 obtain ⟨q,off,pa,ca,hp,ha⟩:=atX (l:=[a,b]) hR (k:=0) (by simp)
 simp only [List.getElem_cons_zero,List.getElem_cons_succ,Nat.zero_mul,Nat.add_zero,Nat.one_mul,Nat.reduceMul] at ha
 have HA:=hid ha
 have Ea:=hid (fun (W9:World) (h:Below W.heap.size W W9)=>hEa W9 _ (ha W9 h).1)
 obtain ⟨q1,off1,pb,cb,hp1,hb⟩:=atX (l:=[a,b]) hR (k:=1) (by simp)
 rw [hp] at hp1
 cases hp1
 simp only [List.getElem_cons_zero,List.getElem_cons_succ,Nat.zero_mul,Nat.add_zero,Nat.one_mul,Nat.reduceMul] at hb
 have HB:=hid hb
 have Eb:=hid (fun (W9:World) (h:Below W.heap.size W W9)=>hEb W9 _ (hb W9 h).1)
 subst hp
 have HD:=hid (fun (W9:World)=>two4_any n h1 h2 W9)
 have hr0:=twoR_le n
 generalize hr:twoR n=r at *
 generalize hS:twoS n=S at *
 have hw:=wrs (e:=(r:Int)+1) (r+1) (by omega) (by push_cast;rfl)
 have hw1:=hw.1
 have hw2:=hw.2
 have Pa:=hid (fun (W9:World) (h:Below W.heap.size W W9)=>show Calls Tryz.prog 112 #[.agg #[.int .i64 a.op,.string (bs a.name),.int .i64 a.n,.int .i64 a.w,.int .u64 a.v,.slice pa a.l.length ca],.int .i64 ((r:Nat))] W9 (TkP W9 (partT (rankX a,exprT a) (r))) from part4_any a hka hEa hla (r) _ W9 (ha W9 h).1)
 have Pb:=hid (fun (W9:World) (h:Below W.heap.size W W9)=>show Calls Tryz.prog 112 #[.agg #[.int .i64 b.op,.string (bs b.name),.int .i64 b.n,.int .i64 b.w,.int .u64 b.v,.slice pb b.l.length cb],.int .i64 ((r:Int)+1)] W9 (TkP W9 (partT (rankX b,exprT b) (r+1))) from part4_any b hkb hEb hlb (r+1) _ W9 (hb W9 h).1)
 have HL:=hid (show (partT (rankX a,exprT a) r).length≤600002∧(partT (rankX b,exprT b) (r+1)).length≤600002 from ⟨partT_le a _ hla,partT_le b _ hlb⟩)
 have HT:=hid (show exprT (.mk 6 name n w v [a,b])=List.flatten [partT (rankX a,exprT a) r,[sgT (S)],partT (rankX b,exprT b) (r+1)] by rw [exprT_6,hr,hS])
 clear hR h1 h2 hw hr0 hr hS ha hEa hla hka hb hEb hlb hkb
 obtain ⟨V,hV,HX,HBX⟩:=bx6 W (.int .i64 6) (.string (bs name)) (.int .i64 n) (.int .i64 w) (.int .u64 v) (.slice (some ⟨q,off,none⟩) 2 cap) 28
 obtain ⟨x0,x1,x2,x3,x4,x5⟩:=HBX.out _ (Below.refl _ _)
 go_enter Tryz.func58,Tryz.ntmps58
 go_wp2_with fail
 rw [← hV]
 clear hV
 go_wp2_with (go_at_call 113;refine (HD.out _).mono ?_;rintro e U ⟨rfl,hb⟩;have HU:=hid hb;clear hb HD)
 obtain ⟨G0,G1,G2,G3⟩:True∧True∧True∧True:=by simp
 have HS:=hid (St.start HU.out.drew)
 go_region_held3 (fun w'=>B6 w' W.heap.size (.int .i64 6) (.string (bs name)) (.int .i64 n) (.int .i64 w) (.int .u64 v) (.slice (some ⟨q,off,none⟩) 2 cap)∧C6 w' q (off) a pa ca∧C6 w' q (off+6) b pb cb)
  (first | exact ⟨HBX.out _ HS.out.1,(HA.out _ (bthen HX.out HS.out.1)).2,(HB.out _ (bthen HX.out HS.out.1)).2⟩ | exact ⟨HBX.out _ (HS.out.1.alloc HS.out.1.size _),(HA.out _ (bthen HX.out (HS.out.1.alloc HS.out.1.size _))).2,(HB.out _ (bthen HX.out (HS.out.1.alloc HS.out.1.size _))).2⟩ | go_keep)
  (first
    | (go_at_call 112;clear G0;refine (psh (Pa.out _ (HX.out.trans (HS.out.1.mono HX.out.size))) HS).mono ?_;rintro e V0 ⟨p0,n0,c0,rfl,HS⟩)
    | (go_at_call 100;clear G1;refine (psh (sign4_any (S) _) HS).mono ?_;rintro e V1 ⟨p1,n1,c1,rfl,HS⟩)
    | (go_at_call 112;clear G2;refine (psh (Pb.out _ (HX.out.trans (HS.out.1.mono HX.out.size))) HS).mono ?_;rintro e V2 ⟨p2,n2,c2,rfl,HS⟩)
    | (go_at_call 50;clear G3;refine (psh (ts:=List.flatten [partT (rankX a,exprT a) r,[sgT (S)],partT (rankX b,exprT b) (r+1)]) (join5_any HS.out [(.slice p0 n0 c0,partT (rankX a,exprT a) r),(.slice p1 n1 c1,[sgT (S)]),(.slice p2 n2 c2,partT (rankX b,exprT b) (r+1))] (by simp) (by simp) (by have:=HL.out;simp [allT,inT];omega)) HS).mono ?_;rintro e V3 ⟨p3,n3,c3,rfl,HS⟩))
 go_wp2
 go_ret
 rw [HT.out]
 exact St.ret HX.out HS.out (by simp)
theorem expr4_cond (op:Int) (name:Ln) (n w:Int) (v:Nat) (p:Option Addr) (cap:Nat) (a b c:X) (W:World) (hR:XsR W (.slice p 3 cap) [a,b,c]) (hEa:Ex4 a) (hla:(exprT a).length≤600000) (hka:okX a=true) (hEb:Ex4 b) (hlb:(exprT b).length≤600000) (hkb:okX b=true) (hEc:Ex4 c) (hlc:(exprT c).length≤600000) (hkc:okX c=true) :
  Calls Tryz.prog 58 #[.agg #[.int .i64 7,.string (bs name),.int .i64 n,.int .i64 w,.int .u64 v,.slice p 3 cap]] W (TkP W (exprT (.mk 7 name n w v [a,b,c]))):=by
 obtain ⟨q,off,pa,ca,hp,ha⟩:=atX (l:=[a,b,c]) hR (k:=0) (by simp)
 simp only [List.getElem_cons_zero,List.getElem_cons_succ,Nat.zero_mul,Nat.add_zero,Nat.one_mul,Nat.reduceMul] at ha
 have HA:=hid ha
 have Ea:=hid (fun (W9:World) (h:Below W.heap.size W W9)=>hEa W9 _ (ha W9 h).1)
 obtain ⟨q1,off1,pb,cb,hp1,hb⟩:=atX (l:=[a,b,c]) hR (k:=1) (by simp)
 rw [hp] at hp1
 cases hp1
 simp only [List.getElem_cons_zero,List.getElem_cons_succ,Nat.zero_mul,Nat.add_zero,Nat.one_mul,Nat.reduceMul] at hb
 have HB:=hid hb
 have Eb:=hid (fun (W9:World) (h:Below W.heap.size W W9)=>hEb W9 _ (hb W9 h).1)
 obtain ⟨q2,off2,pc,cc,hp2,hc⟩:=atX (l:=[a,b,c]) hR (k:=2) (by simp)
 rw [hp] at hp2
 cases hp2
 simp only [List.getElem_cons_zero,List.getElem_cons_succ,Nat.zero_mul,Nat.add_zero,Nat.one_mul,Nat.reduceMul] at hc
 have HC:=hid hc
 have Ec:=hid (fun (W9:World) (h:Below W.heap.size W W9)=>hEc W9 _ (hc W9 h).1)
 subst hp
 have Pa:=hid (fun (W9:World) (h:Below W.heap.size W W9)=>show Calls Tryz.prog 112 #[.agg #[.int .i64 a.op,.string (bs a.name),.int .i64 a.n,.int .i64 a.w,.int .u64 a.v,.slice pa a.l.length ca],.int .i64 (1)] W9 (TkP W9 (partT (rankX a,exprT a) (1))) from part4_any a hka hEa hla (1) _ W9 (ha W9 h).1)
 have HL:=hid (show (partT (rankX a,exprT a) 1).length≤600002∧(exprT b).length≤600000∧(exprT c).length≤600000 from ⟨partT_le a 1 hla,hlb,hlc⟩)
 have HT:=hid (show exprT (.mk 7 name n w v [a,b,c])=List.flatten [partT (rankX a,exprT a) 1,[sgT [63]],exprT b,[sgT [58]],exprT c] by rw [exprT_7];simp [sepS])
 clear hR  ha hEa hla hka hb hEb hlb hkb hc hEc hlc hkc
 obtain ⟨V,hV,HX,HBX⟩:=bx6 W (.int .i64 7) (.string (bs name)) (.int .i64 n) (.int .i64 w) (.int .u64 v) (.slice (some ⟨q,off,none⟩) 3 cap) 28
 obtain ⟨x0,x1,x2,x3,x4,x5⟩:=HBX.out _ (Below.refl _ _)
 go_enter Tryz.func58,Tryz.ntmps58
 go_wp2_with fail
 rw [← hV]
 clear hV
 obtain ⟨G0,G1,G2,G3,G4,G5⟩:True∧True∧True∧True∧True∧True:=by simp
 have HS:=hid (St.start (Below.refl V.heap.size V).drew)
 go_region_held3 (fun w'=>B6 w' W.heap.size (.int .i64 7) (.string (bs name)) (.int .i64 n) (.int .i64 w) (.int .u64 v) (.slice (some ⟨q,off,none⟩) 3 cap)∧C6 w' q (off) a pa ca∧C6 w' q (off+6) b pb cb∧C6 w' q (off+12) c pc cc)
  (first | exact ⟨HBX.out _ HS.out.1,(HA.out _ (bthen HX.out HS.out.1)).2,(HB.out _ (bthen HX.out HS.out.1)).2,(HC.out _ (bthen HX.out HS.out.1)).2⟩ | exact ⟨HBX.out _ (HS.out.1.alloc HS.out.1.size _),(HA.out _ (bthen HX.out (HS.out.1.alloc HS.out.1.size _))).2,(HB.out _ (bthen HX.out (HS.out.1.alloc HS.out.1.size _))).2,(HC.out _ (bthen HX.out (HS.out.1.alloc HS.out.1.size _))).2⟩ | go_keep)
  (first
    | (go_at_call 112;clear G0;refine (psh (Pa.out _ (HX.out.trans (HS.out.1.mono HX.out.size))) HS).mono ?_;rintro e V0 ⟨p0,n0,c0,rfl,HS⟩)
    | (go_at_call 100;clear G1;refine (psh (sign4_any [63] _) HS).mono ?_;rintro e V1 ⟨p1,n1,c1,rfl,HS⟩)
    | (go_at_call 58;clear G2;refine (psh (Eb.out _ (HX.out.trans (HS.out.1.mono HX.out.size))) HS).mono ?_;rintro e V2 ⟨p2,n2,c2,rfl,HS⟩)
    | (go_at_call 100;clear G3;refine (psh (sign4_any [58] _) HS).mono ?_;rintro e V3 ⟨p3,n3,c3,rfl,HS⟩)
    | (go_at_call 58;clear G4;refine (psh (Ec.out _ (HX.out.trans (HS.out.1.mono HX.out.size))) HS).mono ?_;rintro e V4 ⟨p4,n4,c4,rfl,HS⟩)
    | (go_at_call 50;clear G5;refine (psh (ts:=List.flatten [partT (rankX a,exprT a) 1,[sgT [63]],exprT b,[sgT [58]],exprT c]) (join5_any HS.out [(.slice p0 n0 c0,partT (rankX a,exprT a) 1),(.slice p1 n1 c1,[sgT [63]]),(.slice p2 n2 c2,exprT b),(.slice p3 n3 c3,[sgT [58]]),(.slice p4 n4 c4,exprT c)] (by simp) (by simp) (by have:=HL.out;simp [allT,inT];omega)) HS).mono ?_;rintro e V5 ⟨p5,n5,c5,rfl,HS⟩))
 go_wp2
 go_ret
 rw [HT.out]
 exact St.ret HX.out HS.out (by simp)
theorem expr4_rep (op:Int) (name:Ln) (n w:Int) (v:Nat) (p:Option Addr) (cap:Nat) (a b:X) (W:World) (hR:XsR W (.slice p 2 cap) [a,b]) (hEa:Ex4 a) (hla:(exprT a).length≤600000) (hka:okX a=true) (hEb:Ex4 b) (hlb:(exprT b).length≤600000) (hkb:okX b=true) :
  Calls Tryz.prog 58 #[.agg #[.int .i64 9,.string (bs name),.int .i64 n,.int .i64 w,.int .u64 v,.slice p 2 cap]] W (TkP W (exprT (.mk 9 name n w v [a,b]))):=by
 obtain ⟨q,off,pa,ca,hp,ha⟩:=atX (l:=[a,b]) hR (k:=0) (by simp)
 simp only [List.getElem_cons_zero,List.getElem_cons_succ,Nat.zero_mul,Nat.add_zero,Nat.one_mul,Nat.reduceMul] at ha
 have HA:=hid ha
 have Ea:=hid (fun (W9:World) (h:Below W.heap.size W W9)=>hEa W9 _ (ha W9 h).1)
 obtain ⟨q1,off1,pb,cb,hp1,hb⟩:=atX (l:=[a,b]) hR (k:=1) (by simp)
 rw [hp] at hp1
 cases hp1
 simp only [List.getElem_cons_zero,List.getElem_cons_succ,Nat.zero_mul,Nat.add_zero,Nat.one_mul,Nat.reduceMul] at hb
 have HB:=hid hb
 have Eb:=hid (fun (W9:World) (h:Below W.heap.size W W9)=>hEb W9 _ (hb W9 h).1)
 subst hp
 have HL:=hid (show (exprT a).length≤600000∧(exprT b).length≤600000 from ⟨hla,hlb⟩)
 have HT:=hid (show exprT (.mk 9 name n w v [a,b])=inT 123 125 (List.flatten [exprT a,inT 123 125 (exprT b)]) by rw [exprT_9])
 clear hR  ha hEa hla hka hb hEb hlb hkb
 obtain ⟨V,hV,HX,HBX⟩:=bx6 W (.int .i64 9) (.string (bs name)) (.int .i64 n) (.int .i64 w) (.int .u64 v) (.slice (some ⟨q,off,none⟩) 2 cap) 28
 obtain ⟨x0,x1,x2,x3,x4,x5⟩:=HBX.out _ (Below.refl _ _)
 go_enter Tryz.func58,Tryz.ntmps58
 go_wp2_with fail
 rw [← hV]
 clear hV
 obtain ⟨G0,G1,G2,G3,G4⟩:True∧True∧True∧True∧True:=by simp
 have HS:=hid (St.start (Below.refl V.heap.size V).drew)
 go_region_held3 (fun w'=>B6 w' W.heap.size (.int .i64 9) (.string (bs name)) (.int .i64 n) (.int .i64 w) (.int .u64 v) (.slice (some ⟨q,off,none⟩) 2 cap)∧C6 w' q (off) a pa ca∧C6 w' q (off+6) b pb cb)
  (first | exact ⟨HBX.out _ HS.out.1,(HA.out _ (bthen HX.out HS.out.1)).2,(HB.out _ (bthen HX.out HS.out.1)).2⟩ | exact ⟨HBX.out _ (HS.out.1.alloc HS.out.1.size _),(HA.out _ (bthen HX.out (HS.out.1.alloc HS.out.1.size _))).2,(HB.out _ (bthen HX.out (HS.out.1.alloc HS.out.1.size _))).2⟩ | go_keep)
  (first
    | (go_at_call 58;clear G0;refine (psh (Ea.out _ (HX.out.trans (HS.out.1.mono HX.out.size))) HS).mono ?_;rintro e V0 ⟨p0,n0,c0,rfl,HS⟩)
    | (go_at_call 58;clear G1;refine (psh (Eb.out _ (HX.out.trans (HS.out.1.mono HX.out.size))) HS).mono ?_;rintro e V1 ⟨p1,n1,c1,rfl,HS⟩)
    | (go_at_call 102;clear G2;refine (psh (between5_any HS.out 123 125 p1 n1 c1 (exprT b) (by simp) (by have:=HL.out;simp [inT];omega)) HS).mono ?_;rintro e V2 ⟨p2,n2,c2,rfl,HS⟩)
    | (go_at_call 50;clear G3;refine (psh (ts:=List.flatten [exprT a,inT 123 125 (exprT b)]) (join5_any HS.out [(.slice p0 n0 c0,exprT a),(.slice p2 n2 c2,inT 123 125 (exprT b))] (by simp) (by simp) (by have:=HL.out;simp [allT,inT];omega)) HS).mono ?_;rintro e V3 ⟨p3,n3,c3,rfl,HS⟩)
    | (go_at_call 102;clear G4;refine (psh (between5_any HS.out 123 125 p3 n3 c3 (List.flatten [exprT a,inT 123 125 (exprT b)]) (by simp) (by have:=HL.out;simp [inT];omega)) HS).mono ?_;rintro e V4 ⟨p4,n4,c4,rfl,HS⟩))
 go_wp2
 go_ret
 rw [HT.out]
 exact St.ret HX.out HS.out (by simp)
end Go.Proofs.YtlcfpdmicpggbaaGreatDoor
namespace Go.Proofs.YtlcfpdmicpggbaaGreatDoor
open Go.Lib (hid)
open Go.RowKit Go.Proofs.Spl Go.Proofs.Scn Go.Shelf
theorem expr4_num (name:Ln) (n w:Int) (v:Nat) (p:Option Addr) (cap:Nat) (l:List X) (W:World) :
  Calls Tryz.prog 58 #[.agg #[.int .i64 1,.string (bs name),.int .i64 n,.int .i64 w,.int .u64 v,.slice p l.length cap]] W (TkP W (exprT (.mk 1 name n w v l))):=by
 rw [exprT_1]
 go_enter Tryz.func58,Tryz.ntmps58
 go_wp2
 go_ret
 refine ⟨_,_,_,rfl,?_,?_⟩
 ·have h:=tok_new (W.alloc (.cells #[.int .i64 1,.string (bs name),.int .i64 n,.int .i64 w,.int .u64 v,.slice p l.length cap] 28)) (numT w v)
  rw [World.size_alloc] at h
  exact OwnT.lower h (by omega)
 ·exact ((Below.refl _ _).alloc (Nat.le_refl _) _).alloc (by simp) _
theorem expr4_name (name:Ln) (n w:Int) (v:Nat) (p:Option Addr) (cap:Nat) (l:List X) (W:World) :
  Calls Tryz.prog 58 #[.agg #[.int .i64 2,.string (bs name),.int .i64 n,.int .i64 w,.int .u64 v,.slice p l.length cap]] W (TkP W (exprT (.mk 2 name n w v l))):=by
 rw [exprT_2]
 go_enter Tryz.func58,Tryz.ntmps58
 go_wp2_with (go_at_call 52;refine (name4_any name _).mono ?_;rintro e V1 ⟨p1,n1,c1,rfl,ho,hb⟩;have HO:=hid (ho.lower (A:=W.heap.size) (by simp));have HB:=hid (bthen ((Below.refl W.heap.size W).alloc (Nat.le_refl _) _) hb);clear ho hb)
 go_ret
 exact ⟨_,_,_,rfl,HO.out,HB.out⟩
theorem expr4_cat (name:Ln) (n w:Int) (v:Nat) (p:Option Addr) (cap:Nat) (l:List X) (W:World) (hl:l.length≤1000000) (hb:sumN (fun x=>(exprT x).length+1) l≤600000) (hlt:(listT l).length≤600000) (hR:XsR W (.slice p l.length cap) l) (hE:∀ y ∈ l,Ex4 y) :
  Calls Tryz.prog 58 #[.agg #[.int .i64 8,.string (bs name),.int .i64 n,.int .i64 w,.int .u64 v,.slice p l.length cap]] W (TkP W (exprT (.mk 8 name n w v l))):=by
 rw [exprT_8]
 have HC:=hid (fun (W9:World) (h:Below W.heap.size W W9)=>list4_any p cap l hl hb W9 (XsR.later hR h) hE)
 have HL:=hid hlt
 clear hR hE hb hlt
 generalize listT l=T at *
 go_enter Tryz.func58,Tryz.ntmps58
 go_wp2_with fail
 have HX:=hid ((Below.refl W.heap.size W).alloc (Nat.le_refl _) (.cells #[.int .i64 8,.string (bs name),.int .i64 n,.int .i64 w,.int .u64 v,.slice p l.length cap] 28))
 generalize W.alloc (.cells #[.int .i64 8,.string (bs name),.int .i64 n,.int .i64 w,.int .u64 v,.slice p l.length cap] 28)=V at *
 have HS:=hid (St.start (Below.refl V.heap.size V))
 go_wp2_with (first
  | (go_at_call 114;refine (HC.out _ HX.out).mono ?_;rintro e V1 ⟨p1,n1,c1,rfl,ho,hb⟩;have HS:=hid (HS.out.push ho hb);clear ho hb)
  | (go_at_call 102;refine (between5_any HS.out 123 125 p1 n1 c1 T (by simp) (by have:=HL.out;omega)).mono ?_;rintro e V2 ⟨p2,n2,c2,rfl,ho,hb⟩;have HS:=hid (HS.out.push ho hb);clear ho hb))
 go_ret
 exact St.ret HX.out HS.out (by simp)
theorem expr4_ext (op:Int) (ho:op=10) (name:Ln) (n w:Int) (v:Nat) (p:Option Addr) (cap:Nat) (l:List X) (W:World) (hl:l.length≤1000000) (hb:sumN (fun x=>(exprT x).length+1) l≤600000) (hlt:(listT l).length≤600000) (hR:XsR W (.slice p l.length cap) l) (hE:∀ y ∈ l,Ex4 y) :
  Calls Tryz.prog 58 #[.agg #[.int .i64 10,.string (bs name),.int .i64 n,.int .i64 w,.int .u64 v,.slice p l.length cap]] W (TkP W (exprT (.mk 10 name n w v l))):=by
 have HT:=hid (show exprT (.mk 10 name n w v l)=List.flatten [[wdT (extS n)],inT 40 41 (listT l)] from exprT_10 ..)
 have HC:=hid (fun (W9:World) (h:Below W.heap.size W W9)=>list4_any p cap l hl hb W9 (XsR.later hR h) hE)
 have HL:=hid hlt
 clear hR hE hb hlt
 generalize listT l=T at *
 obtain ⟨V,hV,HX,HBX⟩:=bx6 W (.int .i64 10) (.string (bs name)) (.int .i64 n) (.int .i64 w) (.int .u64 v) (.slice p l.length cap) 28
 obtain ⟨x0,x1,x2,x3,x4,x5⟩:=HBX.out _ (Below.refl _ _)
 go_enter Tryz.func58,Tryz.ntmps58
 go_wp2_with fail
 rw [← hV]
 clear hV
 obtain ⟨G0,G1,G2,G3⟩:True∧True∧True∧True:=by simp
 have HS:=hid (St.start (Below.refl V.heap.size V).drew)
 go_region_held3 (fun w'=>B6 w' W.heap.size (.int .i64 10) (.string (bs name)) (.int .i64 n) (.int .i64 w) (.int .u64 v) (.slice p l.length cap))
  (first | exact HBX.out _ HS.out.1 | exact HBX.out _ (HS.out.1.alloc HS.out.1.size _) | go_keep)
  (first
    | (go_at_call 115;refine (ext4_any n _).mono ?_;rintro e Vo ⟨rfl,rfl⟩)
    | (go_at_call 51;clear G0;refine (psh (word4_any (extS n) _) HS).mono ?_;rintro e V0 ⟨p0,n0,c0,rfl,HS⟩)
    | (go_at_call 114;clear G1;refine (psh (HC.out _ (HX.out.trans (HS.out.1.mono HX.out.size))) HS).mono ?_;rintro e V1 ⟨p1,n1,c1,rfl,HS⟩)
    | (go_at_call 102;clear G2;refine (psh (between5_any HS.out 40 41 p1 n1 c1 (T) (by simp) (by have:=HL.out;simp [inT];omega)) HS).mono ?_;rintro e V2 ⟨p2,n2,c2,rfl,HS⟩)
    | (go_at_call 50;clear G3;refine (psh (ts:=List.flatten [[wdT (extS n)],inT 40 41 (T)]) (join5_any HS.out [(.slice p0 n0 c0,[wdT (extS n)]),(.slice p2 n2 c2,inT 40 41 (T))] (by simp) (by simp) (by have:=HL.out;simp [allT,inT];omega)) HS).mono ?_;rintro e V3 ⟨p3,n3,c3,rfl,HS⟩))
 go_wp2
 go_ret
 rw [HT.out]
 exact St.ret HX.out HS.out (by simp)
theorem Ex4_ok:∀ x:X,okX x=true→sizeX x≤65536→Ex4 x:=by
 refine X.ind ?_
 intro x ih hok hsz W cs hR
 have hok0:=hok
 obtain ⟨hv,ls,rfl,hL⟩:=XR_iff.1 hR
 have hlen:=fun y:X=>expr_len y
 obtain ⟨op,name,n,w,v,l⟩:=x
 rw [okX_iff] at hok
 simp only [X.op,X.name,X.n,X.w,X.v,X.l] at ih hok hL hR hv ⊢
 rw [Bool.and_eq_true,List.all_eq_true] at hok
 rw [sizeX_eq,sizeXs_sum] at hsz
 simp only [X.l] at hsz
 have hk:∀ y ∈ l,okX y=true∧Ex4 y∧(exprT y).length≤600000:=fun y hy=>by
  have h1:=sumN_mem sizeX hy
  have h2:=hlen y
  exact ⟨hok.2 y hy,ih y hy (hok.2 y hy) (by omega),by omega⟩
 have hll:l.length≤1000000:=by have:=sumN_len sizeX one_sizeX l;omega
 have hsum:sumN (fun x=>(exprT x).length+1) l≤600000:=by
  have h1:sumN (fun x=>(exprT x).length+1) l≤sumN (fun x=>8 * sizeX x) l:=sumN_le fun y _=>by have:=hlen y;omega
  rw [sumN_mul] at h1
  omega
 have hlt:(listT l).length≤600000:=by have:=exprs_len [44] l;unfold listT;omega
 obtain ⟨hn,-⟩:=hok
 obtain ⟨p,c,rfl,hc⟩:=hL
 have hL:XsR W (.slice p l.length c) l:=⟨p,c,rfl,hc⟩
 simp only [okNode,Bool.and_eq_true] at hn
 obtain ⟨⟨⟨-,hp⟩,hnn⟩,-⟩:=hn
 unfold partsO at hp
 have l1:l.length=1→∃ a,l=[a]:=fun h=>by match l,h with | [a],_=>exact ⟨a,rfl⟩
 have l3:l.length=3→∃ a b c,l=[a,b,c]:=fun h=>by match l,h with | [a,b,c],_=>exact ⟨a,b,c,rfl⟩
 by_cases e1:op=1
 ·subst e1;exact expr4_num name n w v p c l W
 by_cases e2:op=2
 ·subst e2;exact expr4_name name n w v p c l W
 rw [if_neg (by omega)] at hp
 by_cases e4:op=4
 ·subst e4
  obtain ⟨a,rfl⟩:=l1 (by simpa using hp)
  obtain ⟨k1,k2,k3⟩:=hk a (by simp)
  exact expr4_index 4 name n w v p c a W hL k2 k3 k1
 by_cases e5:op=5
 ·subst e5
  obtain ⟨a,rfl⟩:=l1 (by simpa using hp)
  obtain ⟨k1,k2,k3⟩:=hk a (by simp)
  exact expr4_un 5 name n w v p c a W hL k2 k3 k1
 rw [if_neg (by omega)] at hp
 by_cases e7:op=7
 ·subst e7
  obtain ⟨a,b,d,rfl⟩:=l3 (by simpa using hp)
  obtain ⟨k1,k2,k3⟩:=hk a (by simp)
  obtain ⟨m1,m2,m3⟩:=hk b (by simp)
  obtain ⟨o1,o2,o3⟩:=hk d (by simp)
  exact expr4_cond 7 name n w v p c a b d W hL k2 k3 k1 m2 m3 m1 o2 o3 o1
 by_cases e8:op=8
 ·subst e8
  exact expr4_cat name n w v p c l W hll hsum hlt hL fun y hy=>(hk y hy).2.1
 by_cases e10:op=10
 ·subst e10
  exact expr4_ext 10 rfl name n w v p c l W hll hsum hlt hL fun y hy=>(hk y hy).2.1
 have e369:op=3∨op=6∨op=9:=by
  apply Classical.byContradiction
  intro h
  rw [if_neg (by omega),if_neg e7,if_neg e8] at hp
  cases hp
 have h2:l.length=2:=by
  rw [if_pos (by omega)] at hp
  simpa using hp
 obtain ⟨a,b,rfl⟩:=list2 h2
 obtain ⟨k1,k2,k3⟩:=hk a (by simp)
 obtain ⟨m1,m2,m3⟩:=hk b (by simp)
 rcases e369 with rfl | rfl | rfl
 ·exact expr4_slice 3 name n w v p c a b W hL k2 k3 k1 m2 m3 m1
 ·have h6:=op6_ok hok0 rfl
  exact expr4_bin 6 name n w v p c a b W hL h6.1 h6.2 k2 k3 k1 m2 m3 m1
 ·exact expr4_rep 9 name n w v p c a b W hL k2 k3 k1 m2 m3 m1
end Go.Proofs.YtlcfpdmicpggbaaGreatDoor
namespace Go.Proofs.YtlcfpdmicpggbaaGreatDoor
open Go.Lib (hid)
open Go.RowKit Go.Proofs.Spl Go.Proofs.Scn Go.Shelf
def StX (clk:Bool) (y:S):Prop:=∀ (W:World) (cs:List Value),SR W y cs→Calls Tryz.prog 62 #[.agg cs.toArray,.bool clk] W (TkP W (stmtT (putC clk) y))
theorem span4_any (name:Ln) (p:Option Addr) (cap:Nat) (a b:X) (W:World) (hR:XsR W (.slice p 2 cap) [a,b]) (ha:Ex4 a) (la:(exprT a).length≤600000) (hb:Ex4 b) (lb:(exprT b).length≤600000) :
  Calls Tryz.prog 125 #[.string (bs name),.slice p 2 cap] W (TkP W (spanT name [a,b])):=by
 obtain ⟨q,off,pa,ca,hp,ya⟩:=atX (l:=[a,b]) hR (k:=0) (by simp)
 obtain ⟨q1,off1,pb,cb,hp1,yb⟩:=atX (l:=[a,b]) hR (k:=1) (by simp)
 rw [hp] at hp1
 cases hp1
 simp only [List.getElem_cons_zero,List.getElem_cons_succ,Nat.zero_mul,Nat.add_zero,Nat.one_mul,Nat.reduceMul] at ya yb
 have HA:=hid ya
 have HB:=hid yb
 have Ea:=hid (fun (W9:World) (h:Below W.heap.size W W9)=>ha W9 _ (ya W9 h).1)
 have Eb:=hid (fun (W9:World) (h:Below W.heap.size W W9)=>hb W9 _ (yb W9 h).1)
 subst hp
 have HL:=hid (show (exprT a).length≤600000∧(exprT b).length≤600000 from ⟨la,lb⟩)
 have HT:=hid (show spanT name [a,b]=inT 40 41 (List.flatten [[nmT (name)],[sgT [61]],exprT a,[sgT [46,46]],exprT b]) by simp [spanT,parT,sepS])
 have HZ:=hid (Below.refl W.heap.size W)
 clear hR ya yb ha hb la lb
 go_enter Tryz.func125,Tryz.ntmps125
 go_wp2_with fail
 obtain ⟨G0,G1,G2,G3,G4,G5,G6⟩:True∧True∧True∧True∧True∧True∧True:=by simp
 have HS:=hid (St.start (Below.refl W.heap.size W).drew)
 go_region_held3 (fun w'=>C6 w' q off a pa ca∧C6 w' q (off+6) b pb cb)
  (first | exact ⟨(HA.out _ HS.out.1).2,(HB.out _ HS.out.1).2⟩ | exact ⟨(HA.out _ (HS.out.1.alloc HS.out.1.size _)).2,(HB.out _ (HS.out.1.alloc HS.out.1.size _)).2⟩ | go_keep)
  (first
   | (go_at_call 52;clear G0;refine (psh (name4_any (name) _) HS).mono ?_;rintro e V0 ⟨p0,n0,c0,rfl,HS⟩)
   | (go_at_call 100;clear G1;refine (psh (sign4_any [61] _) HS).mono ?_;rintro e V1 ⟨p1,n1,c1,rfl,HS⟩)
   | (go_at_call 58;clear G2;refine (psh (Ea.out _ HS.out.1) HS).mono ?_;rintro e V2 ⟨p2,n2,c2,rfl,HS⟩)
   | (go_at_call 100;clear G3;refine (psh (sign4_any [46,46] _) HS).mono ?_;rintro e V3 ⟨p3,n3,c3,rfl,HS⟩)
   | (go_at_call 58;clear G4;refine (psh (Eb.out _ HS.out.1) HS).mono ?_;rintro e V4 ⟨p4,n4,c4,rfl,HS⟩)
   | (go_at_call 50;clear G5;refine (psh (ts:=List.flatten [[nmT (name)],[sgT [61]],exprT a,[sgT [46,46]],exprT b]) (join5_any HS.out [(.slice p0 n0 c0,[nmT (name)]),(.slice p1 n1 c1,[sgT [61]]),(.slice p2 n2 c2,exprT a),(.slice p3 n3 c3,[sgT [46,46]]),(.slice p4 n4 c4,exprT b)] (by simp) (by simp) (by have:=HL.out;simp [allT,inT];omega)) HS).mono ?_;rintro e V5 ⟨p5,n5,c5,rfl,HS⟩)
   | (go_at_call 102;clear G6;refine (psh (between5_any HS.out 40 41 p5 n5 c5 (List.flatten [[nmT (name)],[sgT [61]],exprT a,[sgT [46,46]],exprT b]) (by simp) (by have:=HL.out;simp [inT];omega)) HS).mono ?_;rintro e V6 ⟨p6,n6,c6,rfl,HS⟩))
 go_wp2
 go_ret
 rw [HT.out]
 exact St.ret HZ.out HS.out (by simp)
theorem stmts4_any (clk:Bool) (p:Option Addr) (cap:Nat) (l:List S) (hl:l.length≤1000000) (hb:sumN (fun x=>(stmtT (putC clk) x).length+1) l≤600000) (W:World) (hR:SsR W (.slice p l.length cap) l) (hE:∀ y ∈ l,StX clk y) :
  Calls Tryz.prog 126 #[.slice p l.length cap,.bool clk] W (TkP W (blockT (putC clk) l)):=by
 have HC:=hid (fun k (hk:k<l.length)=>atS hR hk)
 have HE:=hid (show ∀ k (hk:k<l.length),StX clk l[k] from fun k hk=>hE _ (List.getElem_mem hk))
 have HTN:=hid (fun k h=>flatP_next (stmtT (putC clk)) l (k:=k) h)
 have HTE:=hid (show blockT (putC clk) l=inT 123 125 (flatP (stmtT (putC clk)) l l.length) by rw [flatP_end,blockT,stmtsT_map];rfl)
 have HL:=hid (fun k=>flatP_len (stmtT (putC clk)) l k _ hb)
 have HL2:=hid (show ∀ k (hk:k<l.length),(stmtT (putC clk) l[k]).length≤600000 from fun k hk=>by have:=sumN_mem (fun x=>(stmtT (putC clk) x).length+1) (List.getElem_mem hk);omega)
 have HT0:=hid (show flatP (stmtT (putC clk)) l 0=[] from rfl)
 generalize flatP (stmtT (putC clk)) l=T at *
 generalize blockT (putC clk) l=BT at *
 clear hR hE hb
 go_enter Tryz.func126,Tryz.ntmps126
 go_wp2
 go_loopw [5,6] (fun u i wr=>∃ (k n:Nat) (pq:Option Addr) (cp:Nat),u=.slice pq n cp∧i=.int .i64 k∧k≤l.length∧Hid (OwnT W.heap.size wr (.slice pq n cp) (T k))∧Hid (Below W.heap.size W wr)) (fun _ i _=>l.length - (intOf i).toNat)
 case atStart=>
  refine ⟨0,0,some ⟨W.heap.size,0,none⟩,0,rfl,rfl,Nat.zero_le _,hid ?_,hid ((Below.refl _ _).alloc (Nat.le_refl _) _)⟩
  rw [HT0.out]
  exact World.ownsRow_made W #[] 0 (Nat.le_refl _) (by decide) rfl
 case round=>
  obtain ⟨k,n,pq,cp,rfl,rfl,hk,HO,HX⟩:=hrel
  have HLK:=hid (HL.out k)
  by_cases hlt:k<l.length
  case neg=>
   obtain rfl:k=l.length:=by omega
   go_wp2_with (go_at_call 102;refine (between4_any [123] [125] pq n cp (T l.length) _ HO.out.zero (by have:=HLK.out;omega)).mono ?_;rintro e W1 ⟨p1,n1,c1,rfl,ho,hb⟩;have T1:=hid (ho.lower HX.out.size);have HX:=hid (bthen HX.out hb);clear hb ho)
   go_ret
   exact ⟨_,_,_,rfl,by rw [HTE.out];exact T1.out,HX.out⟩
  have hlt':(k:Int)<(l.length:Int):=by omega
  obtain ⟨q,off,px,cx,pl,cl,rfl,hy⟩:=HC.out k hlt
  have HLP:=hid (HL2.out k hlt)
  have HE2:=HE.out k hlt
  have HN:=hid (HTN.out k hlt)
  generalize l[k]=y at *
  have HY:=hid hy
  have CE:=hid (fun (W9:World) (h:Below W.heap.size W W9)=>HE2 W9 _ (HY.out _ h).1)
  obtain ⟨x0,x1,x2,x3⟩:=(hy _ HX.out).2
  generalize stmtT (putC clk) y=E at *
  clear hy HE2
  go_wp2_with (first
   | (go_at_call 62;refine (CE.out _ HX.out).mono ?_;rintro e W1 ⟨p1,n1,c1,rfl,ho,hb⟩;have T1:=hid ho;have HO:=hid (HO.out.later hb);have HX:=hid (bthen HX.out hb);clear hb ho)
   | (at_builtin;refine wpList_append_toks rfl _ _ rfl W.heap.size _ (T k) E rfl HO.out _ _ rfl T1.out (by have:=HLK.out;have:=HLP.out;omega) HX.out.size ?_;intro p6 c6 N w6 hN hO hgr;have HO6:=hid hO;have HX6:=hid (Below.grown HX.out hgr HX.out.size (fun k hk=>HO.out.base k hk));clear hN hO hgr))
  go_roundw
  case rel=>exact ⟨k+1,_,p6,c6,rfl,by go_num,hlt,hid (by rw [HN.out];exact HO6.out),HX6⟩
  case measure=>simp [intOf];omega
theorem arms4_any (clk:Bool) (p:Option Addr) (cap:Nat) (l:List S) (m:Nat) (hm:l.length=m+1) (hl:l.length≤1000000) (hb:sumN (fun x=>(stmtT (putC clk) x).length+1) l≤600000) (W:World) (hR:SsR W (.slice p l.length cap) l)
  (ht:∀ k (hk:k<l.length),k<m→stmtT (putC clk) l[k]=listT l[k].x ++ sgT [58] :: blockT (putC clk) l[k].l) (ht2:∀ hk:m<l.length,stmtT (putC clk) l[m]=if l[m].l=[] then [] else wdT elseW :: sgT [58] :: blockT (putC clk) l[m].l)
  (hX:∀ k (hk:k<l.length),k<m→∀ W9 v,XsR W9 v l[k].x→Calls Tryz.prog 114 #[v] W9 (TkP W9 (listT l[k].x)))
  (hS:∀ k (hk:k<l.length),∀ W9 v,SsR W9 v l[k].l→Calls Tryz.prog 126 #[v,.bool clk] W9 (TkP W9 (blockT (putC clk) l[k].l))) :
  Calls Tryz.prog 124 #[.slice p l.length cap,.bool clk] W (TkP W (l.map (stmtT (putC clk))).flatten):=by
 have HC:=hid (fun k (hk:k<l.length)=>atS hR hk)
 have HTN:=hid (fun k h=>flatP_next (stmtT (putC clk)) l (k:=k) h)
 have HTE:=hid (show (l.map (stmtT (putC clk))).flatten=flatP (stmtT (putC clk)) l (m+1) by rw [← hm,flatP_end])
 have HLL:=hid (fun k=>flatP_len (stmtT (putC clk)) l k _ hb)
 have HL2:=hid (show ∀ k (hk:k<l.length),(stmtT (putC clk) l[k]).length≤600000 from fun k hk=>by have:=sumN_mem (fun x=>(stmtT (putC clk) x).length+1) (List.getElem_mem hk);omega)
 have HT0:=hid (show flatP (stmtT (putC clk)) l 0=[] from rfl)
 have H1:=hid ht;have H2:=hid ht2;have H3:=hid hX;have H4:=hid hS
 generalize flatP (stmtT (putC clk)) l=T at *
 generalize (l.map (stmtT (putC clk))).flatten=BT at *
 have HM:=hid hm
 have hmi:((l.length:Nat):Int)=(m:Int)+1:=by omega
 have hws:=wr64 ((m:Int)+1 - 1) (by omega)
 have hw1:=hws.1
 have hw2:=hws.2
 have hmm:(m:Int)+1 - 1=(m:Int):=by omega
 rw [hmm] at hw1 hw2
 have hml:l.length=m+1:=hm
 have hnn:l.length=m+1:=hm
 clear hR hb ht ht2 hX hS hws
 have HLN:=hid hml
 clear hml hnn
 rw [hm]
 clear hm hmi
 go_enter Tryz.func124,Tryz.ntmps124
 go_wp2
 go_loopw [5,7] (fun u i wr=>∃ (k n:Nat) (pq:Option Addr) (cp:Nat),u=.slice pq n cp∧i=.int .i64 k∧k≤m∧Hid (OwnT W.heap.size wr (.slice pq n cp) (T k))∧Hid (Below W.heap.size W wr)) (fun _ i _=>m - (intOf i).toNat)
 case atStart=>
  refine ⟨0,0,some ⟨W.heap.size,0,none⟩,0,rfl,rfl,Nat.zero_le _,hid ?_,hid ((Below.refl _ _).alloc (Nat.le_refl _) _)⟩
  rw [HT0.out]
  exact World.ownsRow_made W #[] 0 (Nat.le_refl _) (by decide) rfl
 case round=>
  obtain ⟨k,n,pq,cp,rfl,rfl,hk,HO,HX⟩:=hrel
  have HLK:=hid (HLL.out k)
  by_cases hlt:k<m
  case pos=>
   have hlt':(k:Int)<(m:Int):=by omega
   have hlt2:(k:Int)<(m:Int)+1:=by omega
   have hkl:k<l.length:=by have:=HLN.out;omega
   obtain ⟨q,off,px,cx,pl,cl,rfl,hy⟩:=HC.out k hkl
   have HN:=HTN.out k hkl
   have HP:=HL2.out k hkl
   rw [H1.out k hkl hlt] at HN HP
   have CX:=hid (fun (W9:World) (h:Below W.heap.size W W9)=>H3.out k hkl hlt W9 _ (srX (hy _ h).1))
   have CL:=hid (fun (W9:World) (h:Below W.heap.size W W9)=>H4.out k hkl W9 _ (srL (hy _ h).1))
   generalize l[k]=y at *
   have HY:=hid (show ∀ W9,Below W.heap.size W W9→W9.cell? ⟨q,off+k * 4+2,none⟩=some (.slice px y.x.length cx)∧W9.cell? ⟨q,off+k * 4+3,none⟩=some (.slice pl y.l.length cl) from fun W9 h=>⟨(hy W9 h).2.2.2.1,(hy W9 h).2.2.2.2⟩)
   generalize listT y.x=LX at *
   generalize blockT (putC clk) y.l=BL at *
   have HL:=hid (show LX.length+BL.length≤600000 by simp at HP;omega)
   have HN:=hid (show T (k+1)=T k ++ List.flatten [LX,[sgT [58]],BL] by rw [HN];simp)
   clear hy HP
   go_wp2_with fail
   obtain ⟨G0,G1,G2,G3⟩:True∧True∧True∧True:=by simp
   have HS:=hid (show St W wr.drew [(.slice pq n cp,T k)] from ⟨HX.out.drew,fun p hp=>by rw [List.mem_singleton.1 hp];exact HO.out.later (Below.refl wr.heap.size wr).drew⟩)
   obtain ⟨x2,x3⟩:=HY.out _ HX.out
   go_region_held3 (fun w'=>w'.cell? ⟨q,off+k * 4+2,none⟩=some (.slice px y.x.length cx)∧w'.cell? ⟨q,off+k * 4+3,none⟩=some (.slice pl y.l.length cl))
    (first | exact HY.out _ HX6.out | exact HY.out _ HS.out.1 | exact HY.out _ (HS.out.1.alloc HS.out.1.size _) | go_keep)
    (first
     | (go_at_call 114;clear G0;refine (psh (CX.out _ HS.out.1) HS).mono ?_;rintro e V0 ⟨p0,n0,c0,rfl,HS⟩)
     | (go_at_call 100;clear G1;refine (psh (sign4_any [58] _) HS).mono ?_;rintro e V1 ⟨p1,n1,c1,rfl,HS⟩)
     | (go_at_call 126;clear G2;refine (psh (CL.out _ HS.out.1) HS).mono ?_;rintro e V2 ⟨p2,n2,c2,rfl,HS⟩)
     | (go_at_call 50;clear G3;refine (psh (ts:=List.flatten [LX,[sgT [58]],BL]) (join5_any HS.out [(.slice p0 n0 c0,LX),(.slice p1 n1 c1,[sgT [58]]),(.slice p2 n2 c2,BL)] (by simp) (by simp) (by have:=HL.out;simp [allT,inT];omega)) HS).mono ?_;rintro e V3 ⟨p3,n3,c3,rfl,HS⟩)
     | (rw [if_pos (by rfl)];refine wp_append_toks _ _ rfl W.heap.size _ (T k) (List.flatten [LX,[sgT [58]],BL]) rfl (HS.out.2 (.slice pq n cp,T k) (by simp)) _ (.slice p3 n3 c3) rfl (HS.out.2 (.slice p3 n3 c3,List.flatten [LX,[sgT [58]],BL]) (by simp)) (by have:=HLK.out;have:=HL.out;simp;omega) HS.out.1.size ?_;intro p6 c6 N w6 hN hO hgr;have HO6:=hid hO;have HX6:=hid (Below.grown HS.out.1 hgr HS.out.1.size (fun j hj=>(HS.out.2 (.slice pq n cp,T k) (by simp)).base j hj));clear hN hO hgr))
   go_wp2
   go_roundw
   case rel=>exact ⟨k+1,_,p6,c6,rfl,by go_num,hlt,hid (by rw [HN.out];exact HO6.out),HX6⟩
   case measure=>simp [intOf];omega
  case neg=>
   obtain rfl:k=m:=by omega
   have hlt2:(k:Int)<(k:Int)+1:=by omega
   have hkl:k<l.length:=by have:=HLN.out;omega
   obtain ⟨q,off,px,cx,pl,cl,rfl,hy⟩:=HC.out k hkl
   have HN:=HTN.out k hkl
   have HP:=HL2.out k hkl
   rw [H2.out hkl] at HN HP
   have CL:=hid (fun (W9:World) (h:Below W.heap.size W W9)=>H4.out k hkl W9 _ (srL (hy _ h).1))
   generalize l[k]=y at *
   have HY:=hid (show ∀ W9,Below W.heap.size W W9→W9.cell? ⟨q,off+k * 4+3,none⟩=some (.slice pl y.l.length cl) from fun W9 h=>(hy W9 h).2.2.2.2)
   generalize blockT (putC clk) y.l=BL at *
   have x3:=HY.out _ HX.out
   clear hy
   by_cases he:y.l=[]
   ·have hle:¬ (0:Int)<(y.l.length:Int):=by rw [he];simp
    have HN:=hid (show T (k+1)=T k by rw [HN,if_pos he];simp)
    clear HP he
    go_wp2
    go_ret
    exact ⟨_,_,_,rfl,by rw [HTE.out,HN.out];exact HO.out,HX.out⟩
   ·have hle:(0:Int)<(y.l.length:Int):=by cases h:y.l with | nil=>exact absurd h he | cons a r=>simp
    have HL:=hid (show BL.length≤600000 by rw [if_neg he] at HP;simp at HP;omega)
    have HN:=hid (show T (k+1)=T k ++ List.flatten [[wdT [101,108,115,101]],[sgT [58]],BL] by rw [HN,if_neg he];simp [elseW])
    clear HP he
    go_wp2_with fail
    obtain ⟨Gb0,Gb1,Gb2,Gb3⟩:True∧True∧True∧True:=by simp
    have HS:=hid (show St W wr.drew [(.slice pq n cp,T k)] from ⟨HX.out.drew,fun p hp=>by rw [List.mem_singleton.1 hp];exact HO.out.later (Below.refl wr.heap.size wr).drew⟩)
    go_region_held3 (fun w'=>w'.cell? ⟨q,off+k * 4+3,none⟩=some (.slice pl y.l.length cl))
     (first | exact HY.out _ HX6.out | exact HY.out _ HS.out.1 | exact HY.out _ (HS.out.1.alloc HS.out.1.size _) | go_keep)
     (first
      | (go_at_call 51;clear Gb0;refine (psh (word4_any [101,108,115,101] _) HS).mono ?_;rintro e Vb0 ⟨pb0,nb0,cb0,rfl,HS⟩)
      | (go_at_call 100;clear Gb1;refine (psh (sign4_any [58] _) HS).mono ?_;rintro e Vb1 ⟨pb1,nb1,cb1,rfl,HS⟩)
      | (go_at_call 126;clear Gb2;refine (psh (CL.out _ HS.out.1) HS).mono ?_;rintro e Vb2 ⟨pb2,nb2,cb2,rfl,HS⟩)
      | (go_at_call 50;clear Gb3;refine (psh (ts:=List.flatten [[wdT [101,108,115,101]],[sgT [58]],BL]) (join5_any HS.out [(.slice pb0 nb0 cb0,[wdT [101,108,115,101]]),(.slice pb1 nb1 cb1,[sgT [58]]),(.slice pb2 nb2 cb2,BL)] (by simp) (by simp) (by have:=HL.out;simp [allT,inT];omega)) HS).mono ?_;rintro e Vb3 ⟨pb3,nb3,cb3,rfl,HS⟩)
      | (rw [if_pos (by rfl)];refine wp_append_toks _ _ rfl W.heap.size _ (T k) (List.flatten [[wdT [101,108,115,101]],[sgT [58]],BL]) rfl (HS.out.2 (.slice pq n cp,T k) (by simp)) _ (.slice pb3 nb3 cb3) rfl (HS.out.2 (.slice pb3 nb3 cb3,List.flatten [[wdT [101,108,115,101]],[sgT [58]],BL]) (by simp)) (by have:=HLK.out;have:=HL.out;simp;omega) HS.out.1.size ?_;intro p6 c6 N w6 hN hO hgr;have HO6:=hid hO;have HX6:=hid (Below.grown HS.out.1 hgr HS.out.1.size (fun j hj=>(HS.out.2 (.slice pq n cp,T k) (by simp)).base j hj));clear hN hO hgr))
    go_wp2
    go_ret
    exact ⟨_,_,_,rfl,by rw [HTE.out,HN.out];exact HO6.out,HX6.out⟩
end Go.Proofs.YtlcfpdmicpggbaaGreatDoor
namespace Go.Proofs.YtlcfpdmicpggbaaGreatDoor
open Go.Lib (hid)
open Go.RowKit Go.Proofs.Spl Go.Proofs.Scn Go.Shelf
theorem stmt4_assign0 (name:Ln) (px pl:Option Addr) (d1 m2 d2:Nat) (l:List S) (a b:X) (W:World) (hX:XsR W (.slice px 2 d1) [a,b]) (ha:Ex4 a) (la:(exprT a).length≤600000) (hb:Ex4 b) (lb:(exprT b).length≤600000) :
  Calls Tryz.prog 62 #[.agg #[.int .i64 1,.string (bs name),.slice px 2 d1,.slice pl m2 d2],.bool false] W (TkP W (stmtT (putC false) (.mk 1 name [a,b] l))):=by
 obtain ⟨q,oq,pa,ca,hpq,ya⟩:=atX (l:=[a,b]) hX (k:=0) (by simp)
 simp only [List.getElem_cons_zero,List.getElem_cons_succ,Nat.zero_mul,Nat.add_zero,Nat.one_mul,Nat.reduceMul] at ya
 have Ya:=hid ya
 have Ea:=hid (fun (W9:World) (h:Below W.heap.size W W9)=>ha W9 _ (ya W9 h).1)
 obtain ⟨q1,oq1,pb,cb,hpq1,yb⟩:=atX (l:=[a,b]) hX (k:=1) (by simp)
 rw [hpq] at hpq1
 cases hpq1
 simp only [List.getElem_cons_zero,List.getElem_cons_succ,Nat.zero_mul,Nat.add_zero,Nat.one_mul,Nat.reduceMul] at yb
 have Yb:=hid yb
 have Eb:=hid (fun (W9:World) (h:Below W.heap.size W W9)=>hb W9 _ (yb W9 h).1)
 subst hpq
 have HL:=hid (show (exprT a).length≤600000∧(exprT b).length≤600000 from ⟨la,lb⟩)
 have HT:=hid (show stmtT (putC false) (.mk 1 name [a,b] l)=List.flatten [exprT a,[sgT [61]],exprT b,[sgT [59]]] by rw [stmtT_eq];simp [stT,S.op,S.x,sepS,putC])
 clear hX ya yb ha hb la lb
 obtain ⟨V,hV,HX,HBX⟩:=bx4 W (.int .i64 1) (.string (bs name)) (.slice (some ⟨q,oq,none⟩) 2 d1) (.slice pl m2 d2) 31
 obtain ⟨x0,x1,x2,x3⟩:=HBX.out _ (Below.refl _ _)
 go_enter Tryz.func62,Tryz.ntmps62
 go_wp2_with fail
 rw [← hV]
 clear hV
 obtain ⟨G0,G1,G2,G3,G4⟩:True∧True∧True∧True∧True:=by simp
 have HS:=hid (St.start (Below.refl V.heap.size V).drew)
 go_region_held3 (fun w'=>(B4 w' W.heap.size (.int .i64 1) (.string (bs name)) (.slice (some ⟨q,oq,none⟩) 2 d1) (.slice pl m2 d2))∧C6 w' q (oq) a pa ca∧C6 w' q (oq+6) b pb cb)
  (first | exact ⟨HBX.out _ HS.out.1,(Ya.out _ (bthen HX.out HS.out.1)).2,(Yb.out _ (bthen HX.out HS.out.1)).2⟩ | exact ⟨HBX.out _ (HS.out.1.alloc HS.out.1.size _),(Ya.out _ (bthen HX.out (HS.out.1.alloc HS.out.1.size _))).2,(Yb.out _ (bthen HX.out (HS.out.1.alloc HS.out.1.size _))).2⟩ | go_keep)
  (first
   | (go_at_call 58;clear G0;refine (psh (Ea.out _ (HX.out.trans (HS.out.1.mono HX.out.size))) HS).mono ?_;rintro e V0 ⟨p0,n0,c0,rfl,HS⟩)
   | (go_at_call 100;clear G1;refine (psh (sign4_any [61] _) HS).mono ?_;rintro e V1 ⟨p1,n1,c1,rfl,HS⟩)
   | (go_at_call 58;clear G2;refine (psh (Eb.out _ (HX.out.trans (HS.out.1.mono HX.out.size))) HS).mono ?_;rintro e V2 ⟨p2,n2,c2,rfl,HS⟩)
   | (go_at_call 100;clear G3;refine (psh (sign4_any [59] _) HS).mono ?_;rintro e V3 ⟨p3,n3,c3,rfl,HS⟩)
   | (go_at_call 50;clear G4;refine (psh (ts:=List.flatten [exprT a,[sgT [61]],exprT b,[sgT [59]]]) (join5_any HS.out [(.slice p0 n0 c0,exprT a),(.slice p1 n1 c1,[sgT [61]]),(.slice p2 n2 c2,exprT b),(.slice p3 n3 c3,[sgT [59]])] (by simp) (by simp) (by have:=HL.out;simp [allT,inT];omega)) HS).mono ?_;rintro e V4 ⟨p4,n4,c4,rfl,HS⟩))
 go_wp2
 go_ret
 rw [HT.out]
 exact St.ret HX.out HS.out (by simp)
theorem stmt4_assign1 (name:Ln) (px pl:Option Addr) (d1 m2 d2:Nat) (l:List S) (a b:X) (W:World) (hX:XsR W (.slice px 2 d1) [a,b]) (ha:Ex4 a) (la:(exprT a).length≤600000) (hb:Ex4 b) (lb:(exprT b).length≤600000) :
  Calls Tryz.prog 62 #[.agg #[.int .i64 1,.string (bs name),.slice px 2 d1,.slice pl m2 d2],.bool true] W (TkP W (stmtT (putC true) (.mk 1 name [a,b] l))):=by
 obtain ⟨q,oq,pa,ca,hpq,ya⟩:=atX (l:=[a,b]) hX (k:=0) (by simp)
 simp only [List.getElem_cons_zero,List.getElem_cons_succ,Nat.zero_mul,Nat.add_zero,Nat.one_mul,Nat.reduceMul] at ya
 have Ya:=hid ya
 have Ea:=hid (fun (W9:World) (h:Below W.heap.size W W9)=>ha W9 _ (ya W9 h).1)
 obtain ⟨q1,oq1,pb,cb,hpq1,yb⟩:=atX (l:=[a,b]) hX (k:=1) (by simp)
 rw [hpq] at hpq1
 cases hpq1
 simp only [List.getElem_cons_zero,List.getElem_cons_succ,Nat.zero_mul,Nat.add_zero,Nat.one_mul,Nat.reduceMul] at yb
 have Yb:=hid yb
 have Eb:=hid (fun (W9:World) (h:Below W.heap.size W W9)=>hb W9 _ (yb W9 h).1)
 subst hpq
 have HL:=hid (show (exprT a).length≤600000∧(exprT b).length≤600000 from ⟨la,lb⟩)
 have HT:=hid (show stmtT (putC true) (.mk 1 name [a,b] l)=List.flatten [exprT a,[sgT [60,61]],exprT b,[sgT [59]]] by rw [stmtT_eq];simp [stT,S.op,S.x,sepS,putC])
 clear hX ya yb ha hb la lb
 obtain ⟨V,hV,HX,HBX⟩:=bx4 W (.int .i64 1) (.string (bs name)) (.slice (some ⟨q,oq,none⟩) 2 d1) (.slice pl m2 d2) 31
 obtain ⟨x0,x1,x2,x3⟩:=HBX.out _ (Below.refl _ _)
 go_enter Tryz.func62,Tryz.ntmps62
 go_wp2_with fail
 rw [← hV]
 clear hV
 obtain ⟨G0,G1,G2,G3,G4⟩:True∧True∧True∧True∧True:=by simp
 have HS:=hid (St.start (Below.refl V.heap.size V).drew)
 go_region_held3 (fun w'=>(B4 w' W.heap.size (.int .i64 1) (.string (bs name)) (.slice (some ⟨q,oq,none⟩) 2 d1) (.slice pl m2 d2))∧C6 w' q (oq) a pa ca∧C6 w' q (oq+6) b pb cb)
  (first | exact ⟨HBX.out _ HS.out.1,(Ya.out _ (bthen HX.out HS.out.1)).2,(Yb.out _ (bthen HX.out HS.out.1)).2⟩ | exact ⟨HBX.out _ (HS.out.1.alloc HS.out.1.size _),(Ya.out _ (bthen HX.out (HS.out.1.alloc HS.out.1.size _))).2,(Yb.out _ (bthen HX.out (HS.out.1.alloc HS.out.1.size _))).2⟩ | go_keep)
  (first
   | (go_at_call 58;clear G0;refine (psh (Ea.out _ (HX.out.trans (HS.out.1.mono HX.out.size))) HS).mono ?_;rintro e V0 ⟨p0,n0,c0,rfl,HS⟩)
   | (go_at_call 100;clear G1;refine (psh (sign4_any [60,61] _) HS).mono ?_;rintro e V1 ⟨p1,n1,c1,rfl,HS⟩)
   | (go_at_call 58;clear G2;refine (psh (Eb.out _ (HX.out.trans (HS.out.1.mono HX.out.size))) HS).mono ?_;rintro e V2 ⟨p2,n2,c2,rfl,HS⟩)
   | (go_at_call 100;clear G3;refine (psh (sign4_any [59] _) HS).mono ?_;rintro e V3 ⟨p3,n3,c3,rfl,HS⟩)
   | (go_at_call 50;clear G4;refine (psh (ts:=List.flatten [exprT a,[sgT [60,61]],exprT b,[sgT [59]]]) (join5_any HS.out [(.slice p0 n0 c0,exprT a),(.slice p1 n1 c1,[sgT [60,61]]),(.slice p2 n2 c2,exprT b),(.slice p3 n3 c3,[sgT [59]])] (by simp) (by simp) (by have:=HL.out;simp [allT,inT];omega)) HS).mono ?_;rintro e V4 ⟨p4,n4,c4,rfl,HS⟩))
 go_wp2
 go_ret
 rw [HT.out]
 exact St.ret HX.out HS.out (by simp)
theorem stmt4_if (clk:Bool) (name:Ln) (px pl:Option Addr) (d1 d2:Nat) (a:X) (s t:S) (W:World) (hX:XsR W (.slice px 1 d1) [a]) (hL:SsR W (.slice pl 2 d2) [s,t]) (ha:Ex4 a) (la:(exprT a).length≤600000) (hs:StX clk s) (ls:(stmtT (putC clk) s).length≤600000) (ht:StX clk t) (lt:(stmtT (putC clk) t).length≤600000) (lo:(listT [a]).length≤600000) :
  Calls Tryz.prog 62 #[.agg #[.int .i64 2,.string (bs name),.slice px 1 d1,.slice pl 2 d2],.bool clk] W (TkP W (stmtT (putC clk) (.mk 2 name [a] [s,t]))):=by
 obtain ⟨q,oq,pa,ca,hpq,ya⟩:=atX (l:=[a]) hX (k:=0) (by simp)
 simp only [List.getElem_cons_zero,List.getElem_cons_succ,Nat.zero_mul,Nat.add_zero,Nat.one_mul,Nat.reduceMul] at ya
 have Ya:=hid ya
 have Ea:=hid (fun (W9:World) (h:Below W.heap.size W W9)=>ha W9 _ (ya W9 h).1)
 obtain ⟨r,or,pxs,cxs,pls,cls,hpr,ys⟩:=atS (l:=[s,t]) hL (k:=0) (by simp)
 simp only [List.getElem_cons_zero,List.getElem_cons_succ,Nat.zero_mul,Nat.add_zero,Nat.one_mul,Nat.reduceMul] at ys
 have Ys:=hid ys
 have Es:=hid (fun (W9:World) (h:Below W.heap.size W W9)=>hs W9 _ (ys W9 h).1)
 obtain ⟨r1,or1,pxt,cxt,plt,clt,hpr1,yt⟩:=atS (l:=[s,t]) hL (k:=1) (by simp)
 rw [hpr] at hpr1
 cases hpr1
 simp only [List.getElem_cons_zero,List.getElem_cons_succ,Nat.zero_mul,Nat.add_zero,Nat.one_mul,Nat.reduceMul] at yt
 have Yt:=hid yt
 have Et:=hid (fun (W9:World) (h:Below W.heap.size W W9)=>ht W9 _ (yt W9 h).1)
 subst hpq
 subst hpr
 have HTT:=stmtT_eq (putC clk) (.mk 2 name [a] [s,t])
 generalize stmtT (putC clk) (.mk 2 name [a] [s,t])=TT at *
 have e0:TT=wdT ifW :: (parT (exprT a) ++ (stmtT (putC clk) s ++ (if t.op=2∨t.l ≠ [] then wdT elseW :: stmtT (putC clk) t else []))):=by rw [HTT];simp [stT,S.op,S.x,S.l,listT,sepS]
 have HL:=hid (show (exprT a).length≤600000∧(stmtT (putC clk) s).length≤600000∧(stmtT (putC clk) t).length≤600000 from ⟨la,ls,lt⟩)
 generalize stmtT (putC clk) s=A at *
 generalize stmtT (putC clk) t=B at *
 have hc:((t.op == 2)=true∧TT=List.flatten [List.flatten [[wdT [105,102]],inT 40 41 (exprT a),A],[wdT [101,108,115,101]],B])∨(((t.op == 2)=false∧(0:Int)<(t.l.length:Int))∧TT=List.flatten [List.flatten [[wdT [105,102]],inT 40 41 (exprT a),A],[wdT [101,108,115,101]],B])∨(((t.op == 2)=false ∧ ¬ (0:Int)<(t.l.length:Int))∧TT=List.flatten [[wdT [105,102]],inT 40 41 (exprT a),A]):=by
  by_cases h1:t.op=2
  ·exact .inl ⟨by simpa using h1,by rw [e0,if_pos (.inl h1)];simp [parT,ifW,elseW]⟩
  ·by_cases h2:t.l=[]
   ·exact .inr (.inr ⟨⟨by simpa using h1,by rw [h2];simp⟩,by rw [e0,if_neg (by simp [h1,h2])];simp [parT,ifW]⟩)
   ·exact .inr (.inl ⟨⟨by simpa using h1,by cases h:t.l with | nil=>exact absurd h h2 | cons a r=>simp⟩,by rw [e0,if_pos (.inr h2)];simp [parT,ifW,elseW]⟩)
 clear hX hL ya ys yt ha hs ht la ls lt HTT e0
 obtain ⟨V,hV,HX,HBX⟩:=bx4 W (.int .i64 2) (.string (bs name)) (.slice (some ⟨q,oq,none⟩) 1 d1) (.slice (some ⟨r,or,none⟩) 2 d2) 31
 obtain ⟨x0,x1,x2,x3⟩:=HBX.out _ (Below.refl _ _)
 go_enter Tryz.func62,Tryz.ntmps62
 go_wp2_with fail
 rw [← hV]
 clear hV
 obtain ⟨G0,G1,G2,G3,G4⟩:True∧True∧True∧True∧True:=by simp
 have HS:=hid (St.start (Below.refl V.heap.size V).drew)
 go_region_held3 (fun w'=>(B4 w' W.heap.size (.int .i64 2) (.string (bs name)) (.slice (some ⟨q,oq,none⟩) 1 d1) (.slice (some ⟨r,or,none⟩) 2 d2))∧C6 w' q (oq) a pa ca∧C4 w' r (or) s pxs cxs pls cls)
  (first | exact ⟨HBX.out _ HS.out.1,(Ya.out _ (bthen HX.out HS.out.1)).2,(Ys.out _ (bthen HX.out HS.out.1)).2⟩ | exact ⟨HBX.out _ (HS.out.1.alloc HS.out.1.size _),(Ya.out _ (bthen HX.out (HS.out.1.alloc HS.out.1.size _))).2,(Ys.out _ (bthen HX.out (HS.out.1.alloc HS.out.1.size _))).2⟩ | go_keep)
  (first
   | (go_at_call 51;clear G0;refine (psh (word4_any [105,102] _) HS).mono ?_;rintro e V0 ⟨p0,n0,c0,rfl,HS⟩)
   | (go_at_call 58;clear G1;refine (psh (Ea.out _ (HX.out.trans (HS.out.1.mono HX.out.size))) HS).mono ?_;rintro e V1 ⟨p1,n1,c1,rfl,HS⟩)
   | (go_at_call 102;clear G2;refine (psh (between5_any HS.out 40 41 p1 n1 c1 (exprT a) (by simp) (by have:=HL.out;simp [inT];omega)) HS).mono ?_;rintro e V2 ⟨p2,n2,c2,rfl,HS⟩)
   | (go_at_call 62;clear G3;refine (psh (Es.out _ (HX.out.trans (HS.out.1.mono HX.out.size))) HS).mono ?_;rintro e V3 ⟨p3,n3,c3,rfl,HS⟩)
   | (go_at_call 50;clear G4;refine (psh (ts:=List.flatten [[wdT [105,102]],inT 40 41 (exprT a),A]) (join5_any HS.out [(.slice p0 n0 c0,[wdT [105,102]]),(.slice p2 n2 c2,inT 40 41 (exprT a)),(.slice p3 n3 c3,A)] (by simp) (by simp) (by have:=HL.out;simp [allT,inT];omega)) HS).mono ?_;rintro e V4 ⟨p4,n4,c4,rfl,HS⟩))
 obtain ⟨x0,x1,x2,x3⟩:=HBX.out _ HS.out.1
 obtain ⟨z0,z1,z2,z3⟩:=(Yt.out _ (bthen HX.out HS.out.1)).2
 rcases hc with ⟨h1,HT⟩ | ⟨⟨h1,h2⟩,HT⟩ | ⟨⟨h1,h2⟩,HT⟩
 all_goals have HT:=hid HT
 iterate 2
  ·go_wp2_with fail
   obtain ⟨Gb0,Gb1,Gb2⟩:True∧True∧True:=by simp
   have HS:=hid (HS.out.next (Below.refl _ _).drew)
   go_region_held3 (fun w'=>(B4 w' W.heap.size (.int .i64 2) (.string (bs name)) (.slice (some ⟨q,oq,none⟩) 1 d1) (.slice (some ⟨r,or,none⟩) 2 d2))∧C4 w' r (or+4) t pxt cxt plt clt)
    (first | exact ⟨HBX.out _ HS.out.1,(Yt.out _ (bthen HX.out HS.out.1)).2⟩ | exact ⟨HBX.out _ (HS.out.1.alloc HS.out.1.size _),(Yt.out _ (bthen HX.out (HS.out.1.alloc HS.out.1.size _))).2⟩ | go_keep)
    (first
     | (go_at_call 51;clear Gb0;refine (psh (word4_any [101,108,115,101] _) HS).mono ?_;rintro e Vb0 ⟨pb0,nb0,cb0,rfl,HS⟩)
     | (go_at_call 62;clear Gb1;refine (psh (Et.out _ (HX.out.trans (HS.out.1.mono HX.out.size))) HS).mono ?_;rintro e Vb1 ⟨pb1,nb1,cb1,rfl,HS⟩)
     | (go_at_call 50;clear Gb2;refine (psh (ts:=List.flatten [List.flatten [[wdT [105,102]],inT 40 41 (exprT a),A],[wdT [101,108,115,101]],B]) (join5_any HS.out [(.slice p4 n4 c4,List.flatten [[wdT [105,102]],inT 40 41 (exprT a),A]),(.slice pb0 nb0 cb0,[wdT [101,108,115,101]]),(.slice pb1 nb1 cb1,B)] (by simp) (by simp) (by have:=HL.out;simp [allT,inT];omega)) HS).mono ?_;rintro e Vb2 ⟨pb2,nb2,cb2,rfl,HS⟩))
   go_wp2
   go_ret
   rw [HT.out]
   exact St.ret HX.out HS.out (by simp)
 go_wp2
 go_ret
 rw [HT.out]
 exact St.ret HX.out HS.out (by simp)
theorem stmt4_case (clk:Bool) (name:Ln) (px pl:Option Addr) (d1 m2 d2:Nat) (l:List S) (a:X) (W:World) (hX:XsR W (.slice px 1 d1) [a]) (ha:Ex4 a) (la:(exprT a).length≤600000) (A:List Tok) (hA:A=(l.map (stmtT (putC clk))).flatten) (lA:A.length≤600000)
  (cA:∀ W9,Below W.heap.size W W9→Calls Tryz.prog 124 #[.slice pl m2 d2,.bool clk] W9 (TkP W9 A)) :
  Calls Tryz.prog 62 #[.agg #[.int .i64 3,.string (bs name),.slice px 1 d1,.slice pl m2 d2],.bool clk] W (TkP W (stmtT (putC clk) (.mk 3 name [a] l))):=by
 obtain ⟨q,oq,pa,ca,hpq,ya⟩:=atX (l:=[a]) hX (k:=0) (by simp)
 simp only [List.getElem_cons_zero,List.getElem_cons_succ,Nat.zero_mul,Nat.add_zero,Nat.one_mul,Nat.reduceMul] at ya
 have Ya:=hid ya
 have Ea:=hid (fun (W9:World) (h:Below W.heap.size W W9)=>ha W9 _ (ya W9 h).1)
 subst hpq
 have HA:=hid cA
 have HL:=hid (show (exprT a).length≤600000∧A.length≤600000 from ⟨la,lA⟩)
 have HT:=hid (show stmtT (putC clk) (.mk 3 name [a] l)=List.flatten [[wdT [99,97,115,101]],inT 40 41 (exprT a),inT 123 125 (A)] by rw [stmtT_eq,hA];simp [stT,S.op,S.x,S.l,listT,sepS,parT,cubT,caseW])
 clear hX ya ha la hA lA cA
 obtain ⟨V,hV,HX,HBX⟩:=bx4 W (.int .i64 3) (.string (bs name)) (.slice (some ⟨q,oq,none⟩) 1 d1) (.slice pl m2 d2) 31
 obtain ⟨x0,x1,x2,x3⟩:=HBX.out _ (Below.refl _ _)
 go_enter Tryz.func62,Tryz.ntmps62
 go_wp2_with fail
 rw [← hV]
 clear hV
 obtain ⟨G0,G1,G2,G3,G4,G5⟩:True∧True∧True∧True∧True∧True:=by simp
 have HS:=hid (St.start (Below.refl V.heap.size V).drew)
 go_region_held3 (fun w'=>(B4 w' W.heap.size (.int .i64 3) (.string (bs name)) (.slice (some ⟨q,oq,none⟩) 1 d1) (.slice pl m2 d2))∧C6 w' q (oq) a pa ca)
  (first | exact ⟨HBX.out _ HS.out.1,(Ya.out _ (bthen HX.out HS.out.1)).2⟩ | exact ⟨HBX.out _ (HS.out.1.alloc HS.out.1.size _),(Ya.out _ (bthen HX.out (HS.out.1.alloc HS.out.1.size _))).2⟩ | go_keep)
  (first
   | (go_at_call 51;clear G0;refine (psh (word4_any [99,97,115,101] _) HS).mono ?_;rintro e V0 ⟨p0,n0,c0,rfl,HS⟩)
   | (go_at_call 58;clear G1;refine (psh (Ea.out _ (HX.out.trans (HS.out.1.mono HX.out.size))) HS).mono ?_;rintro e V1 ⟨p1,n1,c1,rfl,HS⟩)
   | (go_at_call 102;clear G2;refine (psh (between5_any HS.out 40 41 p1 n1 c1 (exprT a) (by simp) (by have:=HL.out;simp [inT];omega)) HS).mono ?_;rintro e V2 ⟨p2,n2,c2,rfl,HS⟩)
   | (go_at_call 124;clear G3;refine (psh (HA.out _ (HX.out.trans (HS.out.1.mono HX.out.size))) HS).mono ?_;rintro e V3 ⟨p3,n3,c3,rfl,HS⟩)
   | (go_at_call 102;clear G4;refine (psh (between5_any HS.out 123 125 p3 n3 c3 (A) (by simp) (by have:=HL.out;simp [inT];omega)) HS).mono ?_;rintro e V4 ⟨p4,n4,c4,rfl,HS⟩)
   | (go_at_call 50;clear G5;refine (psh (ts:=List.flatten [[wdT [99,97,115,101]],inT 40 41 (exprT a),inT 123 125 (A)]) (join5_any HS.out [(.slice p0 n0 c0,[wdT [99,97,115,101]]),(.slice p2 n2 c2,inT 40 41 (exprT a)),(.slice p4 n4 c4,inT 123 125 (A))] (by simp) (by simp) (by have:=HL.out;simp [allT,inT];omega)) HS).mono ?_;rintro e V5 ⟨p5,n5,c5,rfl,HS⟩))
 go_wp2
 go_ret
 rw [HT.out]
 exact St.ret HX.out HS.out (by simp)
theorem stmt4_for (clk:Bool) (name:Ln) (px pl:Option Addr) (m1 d1 m2 d2:Nat) (x:List X) (l:List S) (W:World) (A B:List Tok) (hA:A=spanT name x) (hB:B=blockT (putC clk) l) (lA:A.length≤1300000) (lB:B.length≤1300000)
  (cA:∀ W9,Below W.heap.size W W9→Calls Tryz.prog 125 #[.string (bs name),.slice px m1 d1] W9 (TkP W9 A))
  (cB:∀ W9,Below W.heap.size W W9→Calls Tryz.prog 126 #[.slice pl m2 d2,.bool clk] W9 (TkP W9 B)) :
  Calls Tryz.prog 62 #[.agg #[.int .i64 6,.string (bs name),.slice px m1 d1,.slice pl m2 d2],.bool clk] W (TkP W (stmtT (putC clk) (.mk 6 name x l))):=by
 have HP:=hid cA
 have HQ:=hid cB
 have HL:=hid (show A.length≤1300000∧B.length≤1300000 from ⟨lA,lB⟩)
 have HT:=hid (show stmtT (putC clk) (.mk 6 name x l)=List.flatten [[wdT [102,111,114]],A,B] by rw [stmtT_eq,hA,hB];simp [stT,S.op,S.x,S.l,S.name,blockT,stmtsT_map,forW])
 clear hA hB lA lB cA cB
 obtain ⟨V,hV,HX,HBX⟩:=bx4 W (.int .i64 6) (.string (bs name)) (.slice px m1 d1) (.slice pl m2 d2) 31
 obtain ⟨x0,x1,x2,x3⟩:=HBX.out _ (Below.refl _ _)
 go_enter Tryz.func62,Tryz.ntmps62
 go_wp2_with fail
 rw [← hV]
 clear hV
 obtain ⟨G0,G1,G2,G3⟩:True∧True∧True∧True:=by simp
 have HS:=hid (St.start (Below.refl V.heap.size V).drew)
 go_region_held3 (fun w'=>B4 w' W.heap.size (.int .i64 6) (.string (bs name)) (.slice px m1 d1) (.slice pl m2 d2))
  (first | exact HBX.out _ HS.out.1 | exact HBX.out _ (HS.out.1.alloc HS.out.1.size _) | go_keep)
  (first
   | (go_at_call 51;clear G0;refine (psh (word4_any [102,111,114] _) HS).mono ?_;rintro e V0 ⟨p0,n0,c0,rfl,HS⟩)
   | (go_at_call 125;clear G1;refine (psh (HP.out _ (HX.out.trans (HS.out.1.mono HX.out.size))) HS).mono ?_;rintro e V1 ⟨p1,n1,c1,rfl,HS⟩)
   | (go_at_call 126;clear G2;refine (psh (HQ.out _ (HX.out.trans (HS.out.1.mono HX.out.size))) HS).mono ?_;rintro e V2 ⟨p2,n2,c2,rfl,HS⟩)
   | (go_at_call 50;clear G3;refine (psh (ts:=List.flatten [[wdT [102,111,114]],A,B]) (join5_any HS.out [(.slice p0 n0 c0,[wdT [102,111,114]]),(.slice p1 n1 c1,A),(.slice p2 n2 c2,B)] (by simp) (by simp) (by have:=HL.out;simp [allT,inT];omega)) HS).mono ?_;rintro e V3 ⟨p3,n3,c3,rfl,HS⟩))
 go_wp2
 go_ret
 rw [HT.out]
 exact St.ret HX.out HS.out (by simp)
theorem stmt4_block (clk:Bool) (name:Ln) (px pl:Option Addr) (m1 d1 m2 d2:Nat) (l:List S) (W:World)
  (cB:∀ W9,Below W.heap.size W W9→Calls Tryz.prog 126 #[.slice pl m2 d2,.bool clk] W9 (TkP W9 (blockT (putC clk) l))) :
  Calls Tryz.prog 62 #[.agg #[.int .i64 5,.string (bs name),.slice px m1 d1,.slice pl m2 d2],.bool clk] W (TkP W (blockT (putC clk) l)):=by
 have HQ:=hid cB
 generalize blockT (putC clk) l=B at *
 clear cB
 obtain ⟨V,hV,HX,HBX⟩:=bx4 W (.int .i64 5) (.string (bs name)) (.slice px m1 d1) (.slice pl m2 d2) 31
 obtain ⟨x0,x1,x2,x3⟩:=HBX.out _ (Below.refl _ _)
 go_enter Tryz.func62,Tryz.ntmps62
 go_wp2_with fail
 rw [← hV]
 clear hV
 have HS:=hid (St.start (Below.refl V.heap.size V))
 go_wp2_with (go_at_call 126;refine (HQ.out _ HX.out).mono ?_;rintro e V1 ⟨p1,n1,c1,rfl,ho,hb⟩;have HS:=hid (HS.out.push ho hb);clear ho hb)
 go_ret
 exact St.ret HX.out HS.out (by simp)
end Go.Proofs.YtlcfpdmicpggbaaGreatDoor
namespace Go.Proofs.YtlcfpdmicpggbaaGreatDoor
open Go.Lib (hid)
open Go.RowKit Go.Proofs.Spl Go.Proofs.Scn Go.Shelf
theorem sumS_le (put:Ln) (l:List S) (h:sumN sizeS l≤65536):sumN (fun x=>(stmtT put x).length+1) l≤600000:=by
 have h1:sumN (fun x=>(stmtT put x).length+1) l≤sumN (fun x=>9 * sizeS x) l:=sumN_le fun y _=>by have:=stmt_len put y;have:=one_sizeS y;omega
 rw [sumN_mul] at h1
 omega
theorem sumX_le (l:List X) (h:sumN sizeX l≤65536):sumN (fun x=>(exprT x).length+1) l≤600000:=by
 have h1:sumN (fun x=>(exprT x).length+1) l≤sumN (fun x=>8 * sizeX x) l:=sumN_le fun y _=>by have:=expr_len y;omega
 rw [sumN_mul] at h1
 omega
theorem Ex4_of {l:List X} (h:∀ y ∈ l,okX y=true) (hs:sumN sizeX l≤65536):∀ y ∈ l,Ex4 y∧(exprT y).length≤600000:=fun y hy=>by
 have h1:=sumN_mem sizeX hy
 have h2:=expr_len y
 exact ⟨Ex4_ok y (h y hy) (by omega),by omega⟩
theorem list4_of {l:List X} (h:∀ y ∈ l,okX y=true) (hs:sumN sizeX l≤65536) (W:World) (v:Value) (hR:XsR W v l):Calls Tryz.prog 114 #[v] W (TkP W (listT l)):=by
 have hR0:=hR
 obtain ⟨p,c,rfl,_⟩:=hR
 have:=sumN_len sizeX one_sizeX l
 exact list4_any p c l (by omega) (sumX_le l hs) W hR0 fun y hy=>(Ex4_of h hs y hy).1
theorem stmts4_of {clk:Bool} {l:List S} (h:∀ y ∈ l,StX clk y) (hs:sumN sizeS l≤65536) (W:World) (v:Value) (hR:SsR W v l):Calls Tryz.prog 126 #[v,.bool clk] W (TkP W (blockT (putC clk) l)):=by
 have hR0:=hR
 obtain ⟨p,c,rfl,_⟩:=hR
 have:=sumN_len sizeS one_sizeS l
 exact stmts4_any clk p c l (by omega) (sumS_le _ l hs) W hR0 h
theorem StX_both (clk:Bool):∀ s:S,(okS s=true→sizeS s≤65536→StX clk s)∧∀ y ∈ s.l,okS y=true→sizeS y≤65536→StX clk y:=by
 refine S.ind ?_
 intro s ih
 refine ⟨?_,fun y hy=>(ih y hy).1⟩
 intro hok hsz W cs hR
 obtain ⟨op,name,x,l⟩:=s
 obtain ⟨xs,ls,rfl,hX,hL⟩:=SR_iff.1 hR
 simp only [S.op,S.name,S.x,S.l] at ih hX hL ⊢
 rw [sizeS_eq,sizeXs_sum,sizeSs_sum] at hsz
 simp only [S.x,S.l] at hsz
 rw [okS_eq] at hok
 unfold goodSB at hok
 simp only [Bool.and_eq_true] at hok
 obtain ⟨⟨hx,-⟩,hok⟩:=hok
 rw [List.all_eq_true] at hx
 have hEx:=Ex4_of hx (by omega)
 have hlx:=exprs_len [44] x
 have hbl:=block_len (putC clk) l
 have hX0:=hX
 have hL0:=hL
 obtain ⟨px,cx,rfl,_⟩:=hX
 obtain ⟨pl,cl,rfl,_⟩:=hL
 have l1:∀ {α:Type} {l:List α},(l.length == 1)=true→∃ a,l=[a]:=fun {α l} h=>by
  match l,h with
  | [a],_=>exact ⟨a,rfl⟩
 by_cases e3:op=3
 ·subst e3
  rw [if_pos rfl] at hok
  simp only [Bool.and_eq_true] at hok
  obtain ⟨h1,ha,hne⟩:=hok
  obtain ⟨a,rfl⟩:=l1 h1
  obtain ⟨k1,k2⟩:=hEx a (by simp)
  obtain ⟨m,hm⟩:∃ m,l.length=m+1:=⟨l.length - 1,by cases l <;> simp at hne ⊢⟩
  have hA:=(armsA_iff l).1 ha
  have hkid:∀ k (hk:k<l.length),sumN sizeX l[k].x≤65536∧sumN sizeS l[k].l≤65536:=fun k hk=>by
   have:=sumN_mem sizeS (List.getElem_mem hk)
   have e:=sizeS_eq l[k]
   rw [sizeXs_sum,sizeSs_sum] at e
   omega
  have hB:∀ k (hk:k<l.length),l[k].op=4∧(l[k].x.isEmpty=decide (k+1=l.length))∧(∀ y ∈ l[k].x,okX y=true)∧(∀ y ∈ l[k].l,okS y=true):=fun k hk=>by
   have:=hA k hk
   unfold armB at this
   simp only [Bool.and_eq_true,List.all_eq_true,beq_iff_eq] at this
   obtain ⟨⟨⟨⟨b1,-⟩,b2⟩,b3⟩,b4⟩:=this
   exact ⟨b1,b2,b3,b4⟩
  have hlen:l.length≤1000000:=by have:=sumN_len sizeS one_sizeS l;omega
  refine stmt4_case clk name px pl cx l.length cl l a W hX0 k1 k2 _ rfl ?_ fun W9 h=>arms4_any clk pl cl l m hm hlen (sumS_le _ l (by omega)) W9 (SsR.later hL0 h) ?_ ?_ ?_ ?_
  ·have:=flatP_len (stmtT (putC clk)) l l.length _ (sumS_le (putC clk) l (by omega))
   rwa [flatP_end] at this
  ·intro k hk hkm
   obtain ⟨b1,b2,_⟩:=hB k hk
   have b3:l[k].x ≠ []:=by
    intro h
    rw [h,decide_eq_false (by omega)] at b2
    cases b2
   rw [stmtT_eq,b1]
   simp only [stT,blockT,stmtsT_map]
   rw [if_neg (by decide),if_neg (by decide),if_neg (by decide),if_pos trivial,if_pos b3]
  ·intro hk
   obtain ⟨b1,b2,_⟩:=hB m hk
   have b3:l[m].x=[]:=by
    rw [decide_eq_true (by omega)] at b2
    simpa using b2
   rw [stmtT_eq,b1]
   simp only [stT,blockT,stmtsT_map]
   rw [if_neg (by decide),if_neg (by decide),if_neg (by decide),if_pos trivial,b3,if_neg (by simp)]
  ·intro k hk _ W9 v h
   exact list4_of (hB k hk).2.2.1 (hkid k hk).1 W9 v h
  ·intro k hk W9 v h
   exact stmts4_of (fun y hy=>(ih _ (List.getElem_mem hk)).2 y hy ((hB k hk).2.2.2 y hy) (Nat.le_trans (sumN_mem sizeS hy) (hkid k hk).2)) (hkid k hk).2 W9 v h
 rw [if_neg e3] at hok
 simp only [Bool.and_eq_true] at hok
 obtain ⟨hl,hok⟩:=hok
 rw [List.all_eq_true] at hl
 have hSt:∀ y ∈ l,StX clk y:=fun y hy=>(ih y hy).1 (hl y hy) (by have:=sumN_mem sizeS hy;omega)
 have cS:=fun (W9:World) (h:Below W.heap.size W W9)=>stmts4_of hSt (by omega) W9 _ (SsR.later hL0 h)
 by_cases e1:op=1
 ·subst e1
  rw [if_pos rfl] at hok
  simp only [Bool.and_eq_true,beq_iff_eq] at hok
  obtain ⟨a,b,rfl⟩:=list2 hok.1.1
  obtain ⟨k1,k2⟩:=hEx a (by simp)
  obtain ⟨m1,m2⟩:=hEx b (by simp)
  cases clk
  ·exact stmt4_assign0 name px pl cx l.length cl l a b W hX0 k1 k2 m1 m2
  ·exact stmt4_assign1 name px pl cx l.length cl l a b W hX0 k1 k2 m1 m2
 rw [if_neg e1] at hok
 by_cases e2:op=2
 ·subst e2
  rw [if_pos rfl] at hok
  simp only [Bool.and_eq_true] at hok
  obtain ⟨h1,h2⟩:=hok
  obtain ⟨a,rfl⟩:=l1 h1
  obtain ⟨k1,k2⟩:=hEx a (by simp)
  have h2:l.length=2:=Classical.byContradiction fun h=>by rw [ifB_no h] at h2;cases h2
  obtain ⟨s,t,rfl⟩:=list2 h2
  have hs:=sumN_mem sizeS (show s ∈ [s,t] by simp)
  have ht:=sumN_mem sizeS (show t ∈ [s,t] by simp)
  have gs:=stmt_len (putC clk) s
  have gt:=stmt_len (putC clk) t
  exact stmt4_if clk name px pl cx cl a s t W hX0 hL0 k1 k2 (hSt s (by simp)) (by omega) (hSt t (by simp)) (by omega) (by unfold listT;omega)
 rw [if_neg e2] at hok
 by_cases e5:op=5
 ·subst e5
  have e:stmtT (putC clk) (.mk 5 name x l)=blockT (putC clk) l:=by rw [stmtT_eq];simp [stT,S.op,S.l,blockT,stmtsT_map]
  rw [e]
  exact stmt4_block clk name px pl x.length cx l.length cl l W cS
 rw [if_neg e5] at hok
 by_cases e6:op=6
 ·subst e6
  rw [if_pos rfl] at hok
  simp only [Bool.and_eq_true,beq_iff_eq] at hok
  obtain ⟨a,b,rfl⟩:=list2 hok.2
  obtain ⟨k1,k2⟩:=hEx a (by simp)
  obtain ⟨m1,m2⟩:=hEx b (by simp)
  refine stmt4_for clk name px pl 2 cx l.length cl [a,b] l W _ _ rfl rfl ?_ (by omega) (fun W9 h=>span4_any name px cx a b W9 (XsR.later hX0 h) k1 k2 m1 m2) cS
  simp [spanT,parT,inT,sepS]
  omega
 ·rw [if_neg e6] at hok
  cases hok
theorem StX_ok (clk:Bool) (s:S) (h1:okS s=true) (h2:sizeS s≤65536):StX clk s:=(StX_both clk s).1 h1 h2
end Go.Proofs.YtlcfpdmicpggbaaGreatDoor
namespace Go.Proofs.YtlcfpdmicpggbaaGreatDoor
open Go.Lib (hid)
open Go.RowKit Go.Proofs.Spl Go.Proofs.Scn Go.Shelf
theorem mayS_walk (op:Int) (name:Ln) (px pl:Option Addr) (m1 m2 c1 c2:Nat) (W:World) (xs em si tg bA bS ib R:Bool) (l1:m1≤1000000000) (l2:m2≤1000000000)
  (hem:decide ((bs name).toList=[])=em)
  (h1:∀ W9,Below W.heap.size W W9→RB 178 #[.slice px m1 c1] W9 xs)
  (h2:∀ W9,RB 170 #[.string (bs name)] W9 si)
  (h3:∀ W9,Below W.heap.size W W9→RB 183 #[.slice px m1 c1] W9 tg)
  (h4:∀ W9,Below W.heap.size W W9→RB 185 #[.slice pl m2 c2] W9 bA)
  (h5:∀ W9,Below W.heap.size W W9→RB 184 #[.slice pl m2 c2] W9 bS)
  (hd:(¬ (m2:Int)=2∧ib=false)∨((m2:Int)=2∧∃ q off oa ob,pl=some ⟨q,off,none⟩∧q<W.heap.size∧W.cell? ⟨q,off,none⟩=some (.int .i64 oa)∧W.cell? ⟨q,off+4,none⟩=some (.int .i64 ob)∧ib=(oa == 5 && (ob == 5 || ob == 2))))
  (hR:R=(xs && (if op=6 then !em && si else em) && (if op=1 then (m1:Int) == 2 && tg && (m2:Int) == 0 else if op=2 then (m1:Int) == 1 && ib && bS else if op=3 then (m1:Int) == 1 && bA else if op=5 then (m1:Int) == 0 && bS else if op=6 then (m1:Int) == 2 && bS else false))) :
  RB 123 #[.agg #[.int .i64 op,.string (bs name),.slice px m1 c1,.slice pl m2 c2]] W R:=by
 have H1:=hid h1;have H2:=hid h2;have H3:=hid h3;have H4:=hid h4;have H5:=hid h5;have HR:=hid hR
 have HW:=hid (Below.refl W.heap.size W)
 have he1:((bs name).toList == [])=em:=by rw [← hem,Bool.eq_iff_iff];simp
 clear h1 h2 h3 h4 h5 hR
 cases em
 all_goals rcases hd with ⟨h,hib⟩ | ⟨h,q,off,oa,ob,rfl,hq,x0,x1,hib⟩
 all_goals have HIB:=hid hib
 all_goals try have HXX:=hid (show ∀ W9,Below W.heap.size W W9→W9.cell? ⟨q,off,none⟩=some (.int .i64 oa)∧W9.cell? ⟨q,off+4,none⟩=some (.int .i64 ob) from fun W9 h=>⟨(h.cell (p:=⟨q,off,none⟩) hq).trans x0,(h.cell (p:=⟨q,off+4,none⟩) hq).trans x1⟩)
 all_goals clear hib
 all_goals try clear hq x0 x1
 all_goals
  go_enter Tryz.func123,Tryz.ntmps123
  go_wp2_with (first
   | (go_at_call 178;refine (H1.out _ (HW.out.alloc HW.out.size _)).mono ?_;rintro e V1 ⟨rfl,hb⟩;have HZ:=hid (box4 W _ _ _ _ _ _ hb);have HW:=hid (bthen (HW.out.alloc HW.out.size _) hb);have HV:=hid (Below.refl V1.heap.size V1);obtain ⟨k0,k1,k2,k3⟩:=box4 W _ _ _ _ _ _ hb;have HG:=hid (fun w' h=>box4 W _ _ _ _ _ w' (bthen hb h));(try obtain ⟨x0,x1⟩:=HXX.out _ HW.out);clear hb;cases xs)
   | (go_at_call 170;refine (H2.out _).mono ?_;rintro e V2 ⟨rfl,hb⟩;have HW:=hid (bthen HW.out hb);have HV:=hid (bthen HV.out hb);obtain ⟨k0,k1,k2,k3⟩:=HG.out _ HV.out;(try obtain ⟨x0,x1⟩:=HXX.out _ HW.out);clear hb;cases si)
   | (go_at_call 183;refine (H3.out _ HW.out).mono ?_;rintro e V2 ⟨rfl,hb⟩;have HW:=hid (bthen HW.out hb);have HV:=hid (bthen HV.out hb);obtain ⟨k0,k1,k2,k3⟩:=HG.out _ HV.out;clear hb;cases tg)
   | (go_at_call 185;refine (H4.out _ HW.out).mono ?_;rintro e V2 ⟨rfl,hb⟩;have HW:=hid (bthen HW.out hb);clear hb;cases bA)
   | (go_at_call 184;refine (H5.out _ HW.out).mono ?_;rintro e V2 ⟨rfl,hb⟩;have HW:=hid (bthen HW.out hb);clear hb;cases bS))
 all_goals (go_ret;refine ⟨ret_bool ?_,HW.out⟩)
 all_goals (rw [HR.out,HIB.out])
 all_goals (try simp only [beq_iff_eq,beq_eq_false_iff_ne,bne_iff_ne,bne_eq_false_iff_eq,ne_eq] at *)
 all_goals first
  | (simp [*];done)
  | (simp_all;done)
end Go.Proofs.YtlcfpdmicpggbaaGreatDoor
namespace Go.Proofs.YtlcfpdmicpggbaaGreatDoor
open Go.Lib (hid)
open Go.RowKit Go.Proofs.Spl Go.Proofs.Scn Go.Shelf Go.Flow Go.Sort
def cntL:List Value:=[.int .i64 (-1),.int .i64 1,.int .i64 1,.int .i64 2,.int .i64 2,.int .i64 0,.int .i64 0,.int .i64 0,.int .i64 1,.int .i64 2,.int .i64 1]
theorem cnt_at (k:Nat) (h1:1≤k) (h2:k≤10):cntL[k]?=some (.int .i64 (countI k:Nat)):=by
 have hk:k=1∨k=2∨k=3∨k=4∨k=5∨k=6∨k=7∨k=8∨k=9∨k=10:=by omega
 rcases hk with e | e | e | e | e | e | e | e | e | e <;> subst e <;> rfl
theorem item_out3 (op:Int) (hop:op<1∨11≤op) (name fo:Ln) (vx vs vl ve vp vb:Value) (W:World) :
  RB 209 #[.agg #[.int .i64 op,.string (bs name),.string (bs fo),vx,vs,vl,ve,vp,vb]] W false:=by
 have HB:=hid (box9 W (.int .i64 op) (.string (bs name)) (.string (bs fo)) vx vs vl ve vp vb 133)
 have HX:=hid ((Below.refl W.heap.size W).alloc (Nat.le_refl _) (.cells #[.int .i64 op,.string (bs name),.string (bs fo),vx,vs,vl,ve,vp,vb] 133))
 obtain ⟨V,hV⟩:∃ V,V=(W.alloc (.cells #[.int .i64 op,.string (bs name),.string (bs fo),vx,vs,vl,ve,vp,vb] 133)).alloc (.cells cntL.toArray 3):=⟨_,rfl⟩
 have HV:=hid (show Below (W.alloc (.cells #[.int .i64 op,.string (bs name),.string (bs fo),vx,vs,vl,ve,vp,vb] 133)).heap.size (W.alloc (.cells #[.int .i64 op,.string (bs name),.string (bs fo),vx,vs,vl,ve,vp,vb] 133)) V from hV ▸ (Below.refl _ _).alloc (Nat.le_refl _) _)
 obtain ⟨x0,x1,x2,x3,x4,x5,x6,x7,x8⟩:=HB.out _ HV.out
 have HXV:=hid (bthen HX.out HV.out)
 have hc:(decide (op<1)=true)∨(decide (op<1)=false∧decide (10<op)=true):=by
  rcases hop with h | h
  ·exact .inl (by simpa using h)
  ·exact .inr ⟨by simp;omega,by simp;omega⟩
 unfold cntL at hV
 clear HB HX HV hop
 go_enter Tryz.func209,Tryz.ntmps209
 go_wp2_with fail
 rw [← hV]
 clear hV
 have d0:=cell_regrown x0
 rcases hc with hc | ⟨hc,hc2⟩
 all_goals
  refine wp_region_quiet_fast (by kernel_rfl) (by kernel_rfl) (by kernel_rfl) ?_
  try simp only [List.append_eq,List.cons_append,List.nil_append]
  repeat (go_big_quiet_step (fail))
  refine wpQuiet_nil ?_
  intro _ hw'
  obtain ⟨⟨dq,osq⟩,hw''⟩:=hw'
  subst hw''
 all_goals
  have Z0:=hid (below_regrown V dq osq)
  go_wp2
  go_ret
  exact ⟨rfl,HXV.out.trans (Z0.out.mono HXV.out.size)⟩
theorem item_walk3 (k:Nat) (h1:1≤k) (h2:k≤10) (name fo:Ln) (px ps pl pe pp pb:Option Addr) (m3 c3 m4 c4 m5 c5 m6 c6 m7 c7 m8 c8:Nat) (W:World) (on tg bx bs' bl be bp bb R:Bool) (hm:m3≤1000000000)
  (hO:∀ W9,RB 222 #[.agg #[.int .i64 k,.string (bs name),.string (bs fo),.slice px m3 c3,.slice ps m4 c4,.slice pl m5 c5,.slice pe m6 c6,.slice pp m7 c7,.slice pb m8 c8]] W9 on)
  (hT:∀ W9,Below W.heap.size W W9→RB 183 #[.slice px m3 c3] W9 tg)
  (hX:∀ W9,Below W.heap.size W W9→RB 178 #[.slice px m3 c3] W9 bx)
  (hS:∀ W9,Below W.heap.size W W9→RB 184 #[.slice ps m4 c4] W9 bs')
  (hL:∀ W9,Below W.heap.size W W9→RB 172 #[.slice pl m5 c5] W9 bl)
  (hE:∀ W9,Below W.heap.size W W9→RB 172 #[.slice pe m6 c6] W9 be)
  (hP:∀ W9,Below W.heap.size W W9→RB 171 #[.slice pp m7 c7] W9 bp)
  (hQ:∀ W9,Below W.heap.size W W9→RB 171 #[.slice pb m8 c8] W9 bb)
  (hR:R=(on && (decide (m3=countI k) && ((k != 4 || tg) && (bx && (bs' && (bl && (be && (bp && bb))))))))) :
  RB 209 #[.agg #[.int .i64 k,.string (bs name),.string (bs fo),.slice px m3 c3,.slice ps m4 c4,.slice pl m5 c5,.slice pe m6 c6,.slice pp m7 c7,.slice pb m8 c8]] W R:=by
 have i0:decide ((k:Int)<1)=false:=by simp;omega
 have i1:decide (10<(k:Int))=false:=by simp;omega
 have i3:k<11:=by omega
 have i4:(k:Int)<11:=by omega
 have HB:=hid (box9 W (.int .i64 k) (.string (bs name)) (.string (bs fo)) (.slice px m3 c3) (.slice ps m4 c4) (.slice pl m5 c5) (.slice pe m6 c6) (.slice pp m7 c7) (.slice pb m8 c8) 133)
 obtain ⟨U,hU⟩:∃ U,U=W.alloc (.cells #[.int .i64 k,.string (bs name),.string (bs fo),.slice px m3 c3,.slice ps m4 c4,.slice pl m5 c5,.slice pe m6 c6,.slice pp m7 c7,.slice pb m8 c8] 133):=⟨_,rfl⟩
 have HX:=hid (show Below W.heap.size W U from hU ▸ (Below.refl W.heap.size W).alloc (Nat.le_refl _) _)
 have hUs:U.heap.size=W.heap.size+1:=by rw [hU,World.size_alloc]
 rw [← hU] at HB
 obtain ⟨V,hV⟩:∃ V,V=U.alloc (.cells cntL.toArray 3):=⟨_,rfl⟩
 have HV:=hid (show Below U.heap.size U V from hV ▸ (Below.refl _ _).alloc (Nat.le_refl _) _)
 have hcc:V.cell? ⟨W.heap.size+1,k,none⟩=some (.int .i64 (countI k:Nat)):=by
  rw [← hUs,hV]
  refine (cell_of_row _ _ k cntL.toArray _ _ (World.alloc_heap_new U _)).trans ?_
  simpa using cnt_at k h1 h2
 obtain ⟨x0,x1,x2,x3,x4,x5,x6,x7,x8⟩:=HB.out _ HV.out
 have HXV:=hid (bthen HX.out HV.out)
 rw [hU] at hV
 unfold cntL at hV
 have HBV:=hid (fun w' h=>HB.out w' (bthen HV.out h))
 have HO:=hid hO;have HT:=hid hT;have HXs:=hid hX;have HS:=hid hS;have HL:=hid hL;have HE:=hid hE;have HP:=hid hP;have HQ:=hid hQ
 have HR:=hid (show R=(on && !((m3:Int) != (countI k:Nat)) && (!((k:Int) == 4) || tg) && (bx && (bs' && (bl && (be && (bp && bb)))))) by
  have z1:(!((m3:Int) != (countI k:Nat)))=decide (m3=countI k):=by rw [Bool.eq_iff_iff];simp;omega
  have z2:(!((k:Int) == 4))=(k != 4):=by rw [Bool.eq_iff_iff];simp;omega
  rw [hR,z1,z2];simp only [Bool.and_assoc])
 clear HB HX HV hU hUs hO hT hX hS hL hE hP hQ h1 h2 hR
 generalize countI k=cn at *
 have hc:on=false∨on=true∧(((m3:Int) != (cn:Nat))=true∨((m3:Int) != (cn:Nat))=false∧(((k:Int) == 4)=false∨((k:Int) == 4)=true∧(tg=false∨tg=true))):=by
  cases on
  ·exact .inl rfl
  ·refine .inr ⟨rfl,?_⟩
   cases ((m3:Int) != (cn:Nat))
   ·refine .inr ⟨rfl,?_⟩
    cases ((k:Int) == 4)
    ·exact .inl rfl
    ·cases tg <;> simp
   ·exact .inl rfl
 go_enter Tryz.func209,Tryz.ntmps209
 go_wp2_with fail
 rw [← hV]
 clear hV
 have d0:=cell_regrown x0
 have d1:=cell_regrown x1
 have d2:=cell_regrown x2
 have d3:=cell_regrown x3
 have d4:=cell_regrown x4
 have d5:=cell_regrown x5
 have d6:=cell_regrown x6
 have d7:=cell_regrown x7
 have d8:=cell_regrown x8
 have d9:=cell_regrown hcc
 have k1:=fun d os=>Calls.regrown_of (HO.out (grow (redrawn V d) os))
 have k2:=fun d os=>Calls.regrown_of (HT.out (grow (redrawn V d) os) (HXV.out.trans ((below_regrown V d os).mono HXV.out.size)))
 clear hcc
 rcases hc with rfl | ⟨rfl,hq | ⟨hq,h4 | ⟨h4,rfl | rfl⟩⟩⟩
 all_goals
  refine wp_region_quiet_fast (by kernel_rfl) (by kernel_rfl) (by kernel_rfl) ?_
  try simp only [List.append_eq,List.cons_append,List.nil_append]
  repeat (go_big_quiet_step (first | with_reducible exact k1 _ _ | with_reducible exact k2 _ _))
  refine wpQuiet_nil ?_
  intro _ hw'
  obtain ⟨⟨dq,osq⟩,hw''⟩:=hw'
  subst hw''
 all_goals clear d0 d1 d2 d3 d4 d5 d6 d7 d8 d9 k1 k2 x0 x1 x2 x3 x4 x5 x6 x7 x8
 all_goals
  have Z0:=hid (below_regrown V dq osq)
  have HW:=hid (HXV.out.trans (Z0.out.mono HXV.out.size))
  obtain ⟨x0,x1,x2,x3,x4,x5,x6,x7,x8⟩:=HBV.out _ Z0.out
 all_goals go_wp2_with (first
  | (go_at_call 178;refine (HXs.out _ HW.out).mono ?_;rintro e V1 ⟨rfl,hb⟩;obtain ⟨x0,x1,x2,x3,x4,x5,x6,x7,x8⟩:=HBV.out _ (bthen Z0.out hb);have Z0:=hid (bthen Z0.out hb);have HW:=hid (bthen HW.out hb);clear hb;cases bx)
  | (go_at_call 184;refine (HS.out _ HW.out).mono ?_;rintro e V1 ⟨rfl,hb⟩;obtain ⟨x0,x1,x2,x3,x4,x5,x6,x7,x8⟩:=HBV.out _ (bthen Z0.out hb);have Z0:=hid (bthen Z0.out hb);have HW:=hid (bthen HW.out hb);clear hb;cases bs')
  | (go_at_call 172;refine (HL.out _ HW.out).mono ?_;rintro e V1 ⟨rfl,hb⟩;obtain ⟨x0,x1,x2,x3,x4,x5,x6,x7,x8⟩:=HBV.out _ (bthen Z0.out hb);have Z0:=hid (bthen Z0.out hb);have HW:=hid (bthen HW.out hb);clear hb HL;cases bl)
  | (go_at_call 172;refine (HE.out _ HW.out).mono ?_;rintro e V1 ⟨rfl,hb⟩;obtain ⟨x0,x1,x2,x3,x4,x5,x6,x7,x8⟩:=HBV.out _ (bthen Z0.out hb);have Z0:=hid (bthen Z0.out hb);have HW:=hid (bthen HW.out hb);clear hb;cases be)
  | (go_at_call 171;refine (HP.out _ HW.out).mono ?_;rintro e V1 ⟨rfl,hb⟩;obtain ⟨x0,x1,x2,x3,x4,x5,x6,x7,x8⟩:=HBV.out _ (bthen Z0.out hb);have Z0:=hid (bthen Z0.out hb);have HW:=hid (bthen HW.out hb);clear hb HP;cases bp)
  | (go_at_call 171;refine (HQ.out _ HW.out).mono ?_;rintro e V1 ⟨rfl,hb⟩;have HW:=hid (bthen HW.out hb);clear hb;cases bb))
 all_goals (go_ret;exact ⟨ret_bool (by rw [HR.out];first | rfl | (simp [hq];done) | (simp [hq,h4];done)),HW.out⟩)
end Go.Proofs.YtlcfpdmicpggbaaGreatDoor
