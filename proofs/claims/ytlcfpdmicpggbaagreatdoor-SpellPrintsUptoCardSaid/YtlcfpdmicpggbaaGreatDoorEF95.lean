/- Texts of the seat, merged. -/
import Derived.Test.YtlcfpdmicpggbaaGreatDoorEF94
set_option linter.unusedVariables false
set_option linter.unusedSimpArgs false
set_option maxRecDepth 100000
set_option maxHeartbeats 16000000
namespace Go.Proofs.YtlcfpdmicpggbaaGreatDoor
open Go.Lib (hid)
open Go.RowKit Go.Proofs.Spl Go.Proofs.Scn Go.Shelf
theorem em_of (s:Ln):decide ((bs s).toList=[])=s.isEmpty:=by rw [toList_eq,list_bs];cases s <;> simp
theorem name_em {s:Ln} (h:isName s=true):s.isEmpty=false:=by
 cases e:s.isEmpty
 ·rfl
 ·simp [isName,e] at h
theorem lenI (n k:Nat):((n:Int) == (k:Int))=(n == k):=by rw [Bool.eq_iff_iff];simp;omega
theorem okS_law (op:Int) (name:Ln) (x:List X) (l:List S) :
  okS (.mk op name x l)=(x.all okX && (if op=6 then !name.isEmpty && isName name else name.isEmpty) && (if op=1 then (x.length:Int) == 2 && targetX x && (l.length:Int) == 0 else if op=2 then (x.length:Int) == 1 && ifB l && l.all okS else if op=3 then (x.length:Int) == 1 && (armsA l && !l.isEmpty) else if op=5 then (x.length:Int) == 0 && l.all okS else if op=6 then (x.length:Int) == 2 && l.all okS else false)):=by
 have z0:=lenI x.length 0;have z1:=lenI x.length 1;have z2:=lenI x.length 2;have y0:=lenI l.length 0
 simp only [show ((0:Nat):Int)=0 from rfl,show ((1:Nat):Int)=1 from rfl,show ((2:Nat):Int)=2 from rfl] at z0 z1 z2 y0
 rw [okS_eq,z0,z1,z2,y0]
 unfold goodSB
 have hn:(!name.isEmpty && isName name)=isName name:=by
  cases h:isName name
  ·simp
  ·simp [name_em h]
 have hl:(l.length == 0)=l.isEmpty:=by cases l <;> rfl
 have hx:(x.length == 0)=x.isEmpty:=by cases x <;> rfl
 rw [hn,hl,hx]
 by_cases e3:op=3
 ·subst e3;simp
 by_cases e1:op=1
 ·subst e1
  cases l <;> simp
 by_cases e2:op=2
 ·subst e2;simp;ac_rfl
 by_cases e5:op=5
 ·subst e5;simp;ac_rfl
 by_cases e6:op=6
 ·subst e6;simp;ac_rfl
 simp [e1,e2,e3,e5,e6]
theorem mayS_both:∀ s:S,(smS s=true→sizeS s≤65536→MyS s)∧∀ y ∈ s.l,smS y=true→sizeS y≤65536→MyS y:=by
 refine S.ind ?_
 intro s ih
 refine ⟨?_,fun y hy=>(ih y hy).1⟩
 intro hsm hsz W cs hR
 obtain ⟨op,name,x,l⟩:=s
 obtain ⟨xs,ls,rfl,hX,hL⟩:=SR_iff.1 hR
 simp only [S.op,S.name,S.x,S.l] at ih hX hL ⊢
 rw [smS_iff,Bool.and_eq_true,Bool.and_eq_true] at hsm
 simp only [S.op,S.name,S.x,S.l,List.all_eq_true] at hsm
 obtain ⟨⟨hn,hsx⟩,hsl⟩:=hsm
 rw [sizeS_eq,sizeXs_sum,sizeSs_sum] at hsz
 simp only [S.x,S.l] at hsz
 have hlx:x.length≤65536:=by have:=sumN_len sizeX one_sizeX x;omega
 have hll:l.length≤65536:=by have:=sumN_len sizeS one_sizeS l;omega
 have hGX:∀ y ∈ x,MyX y:=fun y hy=>mayX_ok y (hsx y hy) (by have:=sumN_mem sizeX hy;omega)
 have hGS:∀ y ∈ l,MyS y:=fun y hy=>(ih y hy).1 (hsl y hy) (by have:=sumN_mem sizeS hy;omega)
 have hkid:∀ a ∈ l,smS a=true∧sizeS a≤65536:=fun a ha=>⟨hsl a ha,by have:=sumN_mem sizeS ha;omega⟩
 have hAx:∀ a ∈ l,∀ y ∈ a.x,MyX y:=fun a ha y hy=>by
  obtain ⟨h1,h2⟩:=hkid a ha
  rw [smS_iff,Bool.and_eq_true,Bool.and_eq_true] at h1
  rw [sizeS_eq,sizeXs_sum] at h2
  exact mayX_ok y (List.all_eq_true.1 h1.1.2 y hy) (by have:=sumN_mem sizeX hy;omega)
 have hAl:∀ a ∈ l,∀ y ∈ a.l,MyS y:=fun a ha y hy=>by
  obtain ⟨h1,h2⟩:=hkid a ha
  rw [smS_iff,Bool.and_eq_true,Bool.and_eq_true] at h1
  rw [sizeS_eq,sizeSs_sum] at h2
  exact (ih a ha).2 y hy (List.all_eq_true.1 h1.2 y hy) (by have:=sumN_mem sizeS hy;omega)
 have hAn:∀ a ∈ l,a.x.length≤1000000∧a.l.length≤1000000:=fun a ha=>by
  obtain ⟨h1,h2⟩:=hkid a ha
  rw [sizeS_eq,sizeXs_sum,sizeSs_sum] at h2
  have h3:=sumN_len sizeX one_sizeX a.x
  have h4:=sumN_len sizeS one_sizeS a.l
  omega
 have hXl:=fun (W9:World) (h:Below W.heap.size W W9)=>XsR.later hX h
 have hSl:=fun (W9:World) (h:Below W.heap.size W W9)=>SsR.later hL h
 obtain ⟨px,cx,rfl,_⟩:=hX
 have hL0:=hL
 obtain ⟨pl,cl,rfl,_⟩:=hL
 refine mayS_walk op name px pl x.length l.length cx cl W (x.all okX) name.isEmpty (isName name) (targetX x) (armsA l && !l.isEmpty) (l.all okS) (ifB l) _ (by omega) (by omega) (em_of name)
  (fun W9 h=>mayL3_any px cx x (by omega) W9 (hXl W9 h) hGX) (fun W9=>name3_any name (of_decide_eq_true hn) W9) (fun W9 h=>target3_any px cx x (by omega) W9 (hXl W9 h))
  (fun W9 h=>arms3_any pl cl l (by omega) W9 (hSl W9 h) hAn hAx hAl) (fun W9 h=>mayAll3_any pl cl l (by omega) W9 (hSl W9 h) hGS) ?_ (okS_law op name x l)
 by_cases h2:l.length=2
 ·obtain ⟨a,b,rfl⟩:=list2 h2
  obtain ⟨q,off,hp,hq,q0,q1⟩:=els2S hL0
  exact .inr ⟨rfl,q,off,a.op,b.op,hp,hq,q0,q1,rfl⟩
 ·exact .inl ⟨by omega,ifB_no h2⟩
theorem mayS_ok (s:S) (h1:smS s=true) (h2:sizeS s≤65536):MyS s:=(mayS_both s).1 h1 h2
theorem okI_law (k:Nat) (h1:1≤k) (h2:k≤10) (name f:Ln) (x:List X) (s:List S) (l e:List It) (ps bb:List Bd) :
  okI (.mk k name f x s l e ps bb)=((((k:Int) != 4 && (k:Int) != 5 && (k:Int) != 6 && (k:Int) != 8) == !name.isEmpty) && (((k:Int) == 7 || (k:Int) == 9) == !f.isEmpty) && ((s.length:Int) == 0 || (k:Int) == 5 || (k:Int) == 6) && ((l.length:Int) == 0 || (k:Int) == 8 || (k:Int) == 9) && ((e.length:Int) == 0 || (k:Int) == 8) && ((ps.length:Int)+(bb.length:Int) == 0 || (k:Int) == 7) &&
   (!((k:Int) != 4 && (k:Int) != 5 && (k:Int) != 6 && (k:Int) != 8) || isName name) && (!((k:Int) == 7 || (k:Int) == 9) || isName f) && (decide (x.length=countI k) && ((k != 4 || targetX x) && (x.all okX && (s.all okS && (l.all okI && (e.all okI && (ps.all okB && bb.all okB)))))))):=by
 have z:∀ {α:Type} (l:List α),((l.length:Int) == 0)=l.isEmpty:=fun l=>by rw [show (0:Int)=((0:Nat):Int) from rfl,lenI];cases l <;> rfl
 have z2:((ps.length:Int)+(bb.length:Int) == 0)=(ps.isEmpty && bb.isEmpty):=by cases ps <;> cases bb <;> simp <;> omega
 have n1:isName name=true→name.isEmpty=false:=name_em
 have n2:isName f=true→f.isEmpty=false:=name_em
 rw [okI_iff,z,z,z,z2,okSs_all]
 simp only [It.op,It.name,It.of,It.x,It.s,It.l,It.e,It.ps,It.bs]
 have hk:k=1∨k=2∨k=3∨k=4∨k=5∨k=6∨k=7∨k=8∨k=9∨k=10:=by omega
 rcases hk with e | e | e | e | e | e | e | e | e | e <;> subst e <;> rw [Bool.eq_iff_iff] <;> simp [okIt,nameI,ofI,countI] <;> grind
end Go.Proofs.YtlcfpdmicpggbaaGreatDoor
namespace Go.Proofs.YtlcfpdmicpggbaaGreatDoor
open Go.Lib (hid)
open Go.RowKit Go.Proofs.Spl Go.Proofs.Scn Go.Shelf Go.Stage
theorem vbool {a b:Bool} (h:a=b):Value.bool a=Value.bool b:=by rw [h]
theorem only3_any (op:Int) (name fo:Ln) (vx:Value) (ps pl pe pp pb:Option Addr) (m4 c4 m5 c5 m6 c6 m7 c7 m8 c8:Nat) (W:World) (em eo si so nB oB sB lB eB bB:Bool) (hm:m7+m8≤1000000000)
  (hem:decide ((bs name).toList=[])=em) (heo:decide ((bs fo).toList=[])=eo)
  (h1:∀ W9,RB 170 #[.string (bs name)] W9 si) (h2:∀ W9,RB 170 #[.string (bs fo)] W9 so)
  (e3:nB=(op != 4 && op != 5 && op != 6 && op != 8)) (e4:oB=(op == 7 || op == 9)) (e5:sB=((m4:Int) == 0 || op == 5 || op == 6)) (e6:lB=((m5:Int) == 0 || op == 8 || op == 9)) (e7:eB=((m6:Int) == 0 || op == 8)) (e8:bB=((m7:Int)+(m8:Int) == 0 || op == 7)) :
  RB 222 #[.agg #[.int .i64 op,.string (bs name),.string (bs fo),vx,.slice ps m4 c4,.slice pl m5 c5,.slice pe m6 c6,.slice pp m7 c7,.slice pb m8 c8]] W ((nB == !em) && (oB == !eo) && sB && lB && eB && bB && (!nB || si) && (!oB || so)):=by
 have H1:=hid (fun (h:nB=true)=>h1);have H2:=hid (fun (h:oB=true)=>h2)
 have E3:=hid e3;have E4:=hid e4;have E5:=hid e5;have E6:=hid e6;have E7:=hid e7;have E8:=hid e8
 have HB:=hid (box9 W (.int .i64 op) (.string (bs name)) (.string (bs fo)) vx (.slice ps m4 c4) (.slice pl m5 c5) (.slice pe m6 c6) (.slice pp m7 c7) (.slice pb m8 c8) 133)
 have HX:=hid ((Below.refl W.heap.size W).alloc (Nat.le_refl _) (.cells #[.int .i64 op,.string (bs name),.string (bs fo),vx,.slice ps m4 c4,.slice pl m5 c5,.slice pe m6 c6,.slice pp m7 c7,.slice pb m8 c8] 133))
 obtain ⟨V,hV⟩:∃ V,V=W.alloc (.cells #[.int .i64 op,.string (bs name),.string (bs fo),vx,.slice ps m4 c4,.slice pl m5 c5,.slice pe m6 c6,.slice pp m7 c7,.slice pb m8 c8] 133):=⟨_,rfl⟩
 rw [← hV] at HB HX
 have HVV:=hid hV
 have hs:=wr64 ((m7:Int)+(m8:Int)) (by omega)
 have hs1:=hs.1
 have hs2:=hs.2
 have he1:((bs name).toList == [])=em:=by rw [← hem,Bool.eq_iff_iff];simp
 have he2:((bs fo).toList == [])=eo:=by rw [← heo,Bool.eq_iff_iff];simp
 obtain ⟨x0,x1,x2,x3,x4,x5,x6,x7,x8⟩:=HB.out _ (Below.refl _ _)
 clear h1 h2 e3 e4 e5 e6 e7 e8 hV hs hm
 go_enter Tryz.func222,Tryz.ntmps222
 refine wp_pre1 (Mid 127 [(1,.pointer (some ⟨W.heap.size,0,none⟩))] (fun w=>w=V)) ?_ ?_
 ·go_wp2
  exact ⟨rfl,rfl,by simp only [List.forall_mem_cons];exact ⟨rfl,fun _ h=>by cases h⟩,HVV.out.symm⟩
 rintro a w0 hM
 obtain ⟨f,hf,rfl,rfl⟩:=hM.lit
 clear hM HVV
 simp only [List.forall_mem_cons] at hf
 obtain ⟨z1,-⟩:=hf
 simp only [litL,Nat.zero_add,Nat.reduceAdd,z1]
 clear z1
 refine wp_pre1 (Mid 127 [(1,.pointer (some ⟨W.heap.size,0,none⟩)),(3,.bool nB)] (fun w=>w=w0)) ?_ ?_
 ·go_wp2
  all_goals exact ⟨rfl,rfl,by simp only [List.forall_mem_cons];exact ⟨rfl,vbool (by rw [E3.out];all_goals (try simp only [beq_iff_eq,beq_eq_false_iff_ne,bne_iff_ne,bne_eq_false_iff_eq,ne_eq] at *);all_goals simp [*]),fun _ h=>by cases h⟩,rfl⟩
 rintro a w1 hM
 obtain ⟨f0,hf,rfl,rfl⟩:=hM.lit
 clear hM
 simp only [List.forall_mem_cons] at hf
 obtain ⟨z1,z3,-⟩:=hf
 simp only [litL,Nat.zero_add,Nat.reduceAdd,z1,z3]
 clear z1 z3
 refine wp_pre1 (Mid 127 [(1,.pointer (some ⟨W.heap.size,0,none⟩)),(3,.bool nB),(4,.bool oB)] (fun w=>w=w1)) ?_ ?_
 ·go_wp2
  all_goals exact ⟨rfl,rfl,by simp only [List.forall_mem_cons];exact ⟨rfl,rfl,vbool (by rw [E4.out];all_goals (try simp only [beq_iff_eq,beq_eq_false_iff_ne,bne_iff_ne,bne_eq_false_iff_eq,ne_eq] at *);all_goals simp [*]),fun _ h=>by cases h⟩,rfl⟩
 rintro a w2 hM
 obtain ⟨f1,hf,rfl,rfl⟩:=hM.lit
 clear hM
 simp only [List.forall_mem_cons] at hf
 obtain ⟨z1,z3,z4,-⟩:=hf
 simp only [litL,Nat.zero_add,Nat.reduceAdd,z1,z3,z4]
 clear z1 z3 z4
 refine wp_pre1 (Mid 127 [(1,.pointer (some ⟨W.heap.size,0,none⟩)),(3,.bool nB),(4,.bool oB),(5,.bool sB)] (fun w=>w=w2)) ?_ ?_
 ·go_wp2
  all_goals exact ⟨rfl,rfl,by simp only [List.forall_mem_cons];exact ⟨rfl,rfl,rfl,vbool (by rw [E5.out];all_goals (try simp only [beq_iff_eq,beq_eq_false_iff_ne,bne_iff_ne,bne_eq_false_iff_eq,ne_eq] at *);all_goals simp [*]),fun _ h=>by cases h⟩,rfl⟩
 rintro a w3 hM
 obtain ⟨f2,hf,rfl,rfl⟩:=hM.lit
 clear hM
 simp only [List.forall_mem_cons] at hf
 obtain ⟨z1,z3,z4,z5,-⟩:=hf
 simp only [litL,Nat.zero_add,Nat.reduceAdd,z1,z3,z4,z5]
 clear z1 z3 z4 z5
 refine wp_pre1 (Mid 127 [(1,.pointer (some ⟨W.heap.size,0,none⟩)),(3,.bool nB),(4,.bool oB),(5,.bool sB),(6,.bool lB)] (fun w=>w=w3)) ?_ ?_
 ·go_wp2
  all_goals exact ⟨rfl,rfl,by simp only [List.forall_mem_cons];exact ⟨rfl,rfl,rfl,rfl,vbool (by rw [E6.out];all_goals (try simp only [beq_iff_eq,beq_eq_false_iff_ne,bne_iff_ne,bne_eq_false_iff_eq,ne_eq] at *);all_goals simp [*]),fun _ h=>by cases h⟩,rfl⟩
 rintro a w4 hM
 obtain ⟨f3,hf,rfl,rfl⟩:=hM.lit
 clear hM
 simp only [List.forall_mem_cons] at hf
 obtain ⟨z1,z3,z4,z5,z6,-⟩:=hf
 simp only [litL,Nat.zero_add,Nat.reduceAdd,z1,z3,z4,z5,z6]
 clear z1 z3 z4 z5 z6
 refine wp_pre1 (Mid 127 [(1,.pointer (some ⟨W.heap.size,0,none⟩)),(3,.bool nB),(4,.bool oB),(5,.bool sB),(6,.bool lB),(7,.bool eB)] (fun w=>w=w4)) ?_ ?_
 ·go_wp2
  all_goals exact ⟨rfl,rfl,by simp only [List.forall_mem_cons];exact ⟨rfl,rfl,rfl,rfl,rfl,vbool (by rw [E7.out];all_goals (try simp only [beq_iff_eq,beq_eq_false_iff_ne,bne_iff_ne,bne_eq_false_iff_eq,ne_eq] at *);all_goals simp [*]),fun _ h=>by cases h⟩,rfl⟩
 rintro a w5 hM
 obtain ⟨f4,hf,rfl,rfl⟩:=hM.lit
 clear hM
 simp only [List.forall_mem_cons] at hf
 obtain ⟨z1,z3,z4,z5,z6,z7,-⟩:=hf
 simp only [litL,Nat.zero_add,Nat.reduceAdd,z1,z3,z4,z5,z6,z7]
 clear z1 z3 z4 z5 z6 z7
 refine wp_pre1 (Mid 127 [(1,.pointer (some ⟨W.heap.size,0,none⟩)),(3,.bool nB),(4,.bool oB),(5,.bool sB),(6,.bool lB),(7,.bool eB),(8,.bool bB)] (fun w=>w=w5)) ?_ ?_
 ·go_wp2
  all_goals exact ⟨rfl,rfl,by simp only [List.forall_mem_cons];exact ⟨rfl,rfl,rfl,rfl,rfl,rfl,vbool (by rw [E8.out];all_goals (try simp only [beq_iff_eq,beq_eq_false_iff_ne,bne_iff_ne,bne_eq_false_iff_eq,ne_eq] at *);all_goals simp [*]),fun _ h=>by cases h⟩,rfl⟩
 rintro a w6 hM
 obtain ⟨f5,hf,rfl,rfl⟩:=hM.lit
 clear hM
 simp only [List.forall_mem_cons] at hf
 obtain ⟨z1,z3,z4,z5,z6,z7,z8,-⟩:=hf
 simp only [litL,Nat.zero_add,Nat.reduceAdd,z1,z3,z4,z5,z6,z7,z8]
 clear z1 z3 z4 z5 z6 z7 z8
 clear E3 E4 E5 E6 E7 E8
 have HV:=hid (Below.refl w6.heap.size w6)
 have hc:(nB=true∧em=true)∨(nB=false∧em=false)∨((nB=true∧em=false)∨(nB=false∧em=true))∧((oB=true∧eo=true)∨(oB=false∧eo=false)∨((oB=true∧eo=false)∨(oB=false∧eo=true))∧(sB=false∨sB=true∧(lB=false∨lB=true∧(eB=false∨eB=true∧(bB=false∨bB=true))))):=by
  cases nB <;> cases em <;> simp <;> cases oB <;> cases eo <;> simp <;> cases sB <;> simp <;> cases lB <;> simp <;> cases eB <;> simp
 rcases hc with ⟨rfl,rfl⟩ | ⟨rfl,rfl⟩ | ⟨⟨rfl,rfl⟩ | ⟨rfl,rfl⟩,⟨rfl,rfl⟩ | ⟨rfl,rfl⟩ | ⟨⟨rfl,rfl⟩ | ⟨rfl,rfl⟩,rfl | ⟨rfl,rfl | ⟨rfl,rfl | ⟨rfl,rfl | rfl⟩⟩⟩⟩⟩
 all_goals
  go_wp2_with (first
   | (go_at_call 170;have h0:=H1.out (by trivial);refine (h0 _).mono ?_;rintro e V1 ⟨rfl,hb⟩;obtain ⟨x0,x1,x2,x3,x4,x5,x6,x7,x8⟩:=HB.out _ (bthen HV.out hb);have HV:=hid (bthen HV.out hb);clear hb H1 h0;cases si)
   | (go_at_call 170;have h0:=H2.out (by trivial);refine (h0 _).mono ?_;rintro e V2 ⟨rfl,hb⟩;have HV:=hid (bthen HV.out hb);clear hb H2 h0))
 all_goals (go_ret;exact ⟨ret_bool (by simp),HX.out.trans (HV.out.mono HX.out.size)⟩)
end Go.Proofs.YtlcfpdmicpggbaaGreatDoor
namespace Go.Proofs.YtlcfpdmicpggbaaGreatDoor
open Go.Lib (hid)
open Go.RowKit Go.Proofs.Spl Go.Proofs.Scn Go.Shelf Go.Flow Go.Sort
theorem item3_ok:∀ t:It,smI t=true→sizeI t≤65536→MyI t:=by
 refine It.ind ?_
 intro t ihl ihe hsm hsz W cs hR
 obtain ⟨op,name,f,x,s,l,el,ps,bb⟩:=t
 obtain ⟨xs,ss,ls,es,vp,vb,rfl,hX,hS,hP,hQ,hL,hE⟩:=IR_iff.1 hR
 simp only [It.op,It.name,It.of,It.x,It.s,It.l,It.e,It.ps,It.bs] at ihl ihe hX hS hP hQ hL hE ⊢
 rw [sizeI_eq2] at hsz
 rw [smI_iff] at hsm
 simp only [It.op,It.name,It.of,It.x,It.s,It.l,It.e,It.ps,It.bs,Bool.and_eq_true,decide_eq_true_eq,List.all_eq_true] at hsm hsz
 obtain ⟨⟨⟨⟨⟨⟨⟨hn,hf⟩,sx⟩,sS⟩,sl⟩,se⟩,sp⟩,sb⟩:=hsm
 have lx:=sumN_len sizeX one_sizeX x
 have lS:=sumN_len sizeS one_sizeS s
 have ll:=sumN_len sizeI one_sizeI l
 have le:=sumN_len sizeI one_sizeI el
 have lp:=sumN_len sizeB one_sB ps
 have lb:=sumN_len sizeB one_sB bb
 have bOf:∀ bs:List Bd,(∀ y ∈ bs,smB y=true)→sumN sizeB bs≤65536→∀ y ∈ bs,y.name.length≤140737488355328∧MyX y.x:=fun bs h1 h2 y hy=>by
  have h3:=h1 y hy
  have h4:=sumN_mem sizeB hy
  unfold sizeB at h4
  unfold smB at h3
  rw [Bool.and_eq_true,decide_eq_true_eq] at h3
  have h5:sizeX y.x+1≤sumN sizeB bs:=h4
  exact ⟨h3.1,mayX_ok y.x h3.2 (by omega)⟩
 have gX:∀ y ∈ x,MyX y:=fun y hy=>mayX_ok y (sx y hy) (by have:=sumN_mem sizeX hy;omega)
 have gS:∀ y ∈ s,MyS y:=fun y hy=>mayS_ok y (sS y hy) (by have:=sumN_mem sizeS hy;omega)
 have gL:∀ y ∈ l,MyI y:=fun y hy=>ihl y hy (sl y hy) (by have:=sumN_mem sizeI hy;omega)
 have gE:∀ y ∈ el,MyI y:=fun y hy=>ihe y hy (se y hy) (by have:=sumN_mem sizeI hy;omega)
 have xX:=fun (W9:World) (h:Below W.heap.size W W9)=>XsR.later hX h
 have xS:=fun (W9:World) (h:Below W.heap.size W W9)=>SsR.later hS h
 have xL:=fun (W9:World) (h:Below W.heap.size W W9)=>IsR.later hL h
 have xE:=fun (W9:World) (h:Below W.heap.size W W9)=>IsR.later hE h
 have xP:=fun (W9:World) (h:Below W.heap.size W W9)=>BsR.later hP h
 have xQ:=fun (W9:World) (h:Below W.heap.size W W9)=>BsR.later hQ h
 obtain ⟨px,cx,rfl,_⟩:=hX
 obtain ⟨pS,cS',rfl,_⟩:=hS
 obtain ⟨pl,cl,rfl,_⟩:=hL
 obtain ⟨pe,ce,rfl,_⟩:=hE
 obtain ⟨pp,cp,rfl,_⟩:=hP
 obtain ⟨pb,cb,rfl,_⟩:=hQ
 by_cases ho:op<1∨11≤op
 ·have hno:okI (.mk op name f x s l el ps bb)=false:=by
   have:okIt op name f x s l el ps bb=false:=by
    unfold okIt
    rcases ho with h | h
    ·rw [decide_eq_false (show ¬ (1:Int)≤op by omega)];simp only [Bool.false_and]
    ·rw [decide_eq_false (show ¬ op≤(10:Int) by omega)];simp only [Bool.and_false,Bool.false_and]
   rw [okI_iff]
   simp only [It.op,It.name,It.of,It.x,It.s,It.l,It.e,It.ps,It.bs,this,Bool.false_and]
  rw [hno]
  exact item_out3 op ho name f _ _ _ _ _ _ W
 obtain ⟨k,rfl⟩:∃ k:Nat,op=k:=⟨op.toNat,by omega⟩
 exact item_walk3 k (by omega) (by omega) name f px pS pl pe pp pb x.length cx s.length cS' l.length cl el.length ce ps.length cp bb.length cb W _ _ _ _ _ _ _ _ _ (by omega)
  (fun W9=>only3_any k name f _ pS pl pe pp pb s.length cS' l.length cl el.length ce ps.length cp bb.length cb W9 name.isEmpty f.isEmpty (isName name) (isName f) _ _ _ _ _ _ (by omega) (em_of name) (em_of f) (fun W9=>name3_any name (of_decide_eq_true hn) W9) (fun W9=>name3_any f (of_decide_eq_true hf) W9) rfl rfl rfl rfl rfl rfl)
  (fun W9 h=>target3_any px cx x (by omega) W9 (xX W9 h)) (fun W9 h=>mayL3_any px cx x (by omega) W9 (xX W9 h) gX) (fun W9 h=>mayAll3_any pS cS' s (by omega) W9 (xS W9 h) gS)
  (fun W9 h=>items3_any pl cl l (by omega) W9 (xL W9 h) gL) (fun W9 h=>items3_any pe ce el (by omega) W9 (xE W9 h) gE)
  (fun W9 h=>binds3_any pp cp ps (by omega) W9 (xP W9 h) (bOf ps sp (by omega))) (fun W9 h=>binds3_any pb cb bb (by omega) W9 (xQ W9 h) (bOf bb sb (by omega)))
  (okI_law k (by omega) (by omega) name f x s l el ps bb)
theorem told3_any (n d:Nat) (ok:Bool) (W:World):RetE 109 #[.int .i64 n,.int .i64 d,.bool ok] W (told n d ok):=by
 have HR:=hid (show told n d ok=if 65536<(n:Int)∨64<(d:Int) then 2 else if ok then 0 else 1 by
  unfold told
  congr 1
  rw [eq_iff_iff];omega)
 generalize told n d ok=R at *
 cases ok
 all_goals
  go_enter Tryz.func109,Tryz.ntmps109
  go_wp2
 all_goals (go_ret;refine ⟨?_,Below.refl _ _⟩;rw [HR.out];(try simp only [decide_eq_true_eq,decide_eq_false_iff_not] at *);simp [*])
theorem checkX3_any (x:X) (cs:List Value) (W:World) (hR:XR W x cs) (h1:smX x=true) (h2:sizeX x≤65536):RetE 57 #[.agg cs.toArray] W (checkX x):=by
 obtain ⟨_,ls,rfl,hL⟩:=XR_iff.1 hR
 obtain ⟨p,c,rfl,_⟩:=hL
 have HM:=hid (fun (W9:World) (h:Below W.heap.size W W9)=>mayX_ok x h1 (by omega) W9 _ (XR.later h _ _ hR))
 have HS:=hid (fun (W9:World) (h:Below W.heap.size W W9)=>szX_ok x (by omega) W9 _ (XR.later h _ _ hR))
 have HD:=hid (fun (W9:World) (h:Below W.heap.size W W9)=>dpX_ok x (by omega) W9 _ (XR.later h _ _ hR))
 have HR:=hid (show checkX x=told (sizeX x) (deepX x) (okX x) from rfl)
 obtain ⟨V,hV⟩:∃ V,V=W.alloc (.cells #[.int .i64 x.op,.string (bs x.name),.int .i64 x.n,.int .i64 x.w,.int .u64 x.v,.slice p x.l.length c] 28):=⟨_,rfl⟩
 have HX:=hid (show Below W.heap.size W V from hV ▸ (Below.refl W.heap.size W).alloc (Nat.le_refl _) _)
 obtain ⟨x0,x1,x2,x3,x4,x5⟩:=box6 W (.int .i64 x.op) (.string (bs x.name)) (.int .i64 x.n) (.int .i64 x.w) (.int .u64 x.v) (.slice p x.l.length c) 28 V (hV ▸ Below.refl _ _)
 clear hR
 generalize checkX x=R at *
 generalize sizeX x=sz at *
 generalize deepX x=dp at *
 generalize okX x=ok at *
 go_enter Tryz.func57,Tryz.ntmps57
 go_wp2_with fail
 rw [← hV]
 clear hV
 have d0:=cell_regrown x0
 have d1:=cell_regrown x1
 have d2:=cell_regrown x2
 have d3:=cell_regrown x3
 have d4:=cell_regrown x4
 have d5:=cell_regrown x5
 have hz:∀ d os,Below W.heap.size W (grow (redrawn V d) os):=fun d os=>HX.out.trans ((below_regrown V d os).mono HX.out.size)
 have k1:=fun d os=>Calls.regrown_of (HS.out (grow (redrawn V d) os) (hz d os))
 have k2:=fun d os=>Calls.regrown_of (HD.out (grow (redrawn V d) os) (hz d os))
 have k3:=fun d os=>Calls.regrown_of (HM.out (grow (redrawn V d) os) (hz d os))
 have k4:=fun d os=>Calls.regrown_of (told3_any sz dp ok (grow (redrawn V d) os))
 rw [← HR.out] at k4
 refine wp_region_quiet_fast (by kernel_rfl) (by kernel_rfl) (by kernel_rfl) ?_
 try simp only [List.append_eq,List.cons_append,List.nil_append]
 repeat (go_big_quiet_step (first | with_reducible exact k1 _ _ | with_reducible exact k2 _ _ | with_reducible exact k3 _ _ | with_reducible exact k4 _ _))
 refine wpQuiet_nil ?_
 intro _ hw'
 obtain ⟨⟨dq,osq⟩,hw''⟩:=hw'
 subst hw''
 go_wp2
 go_ret
 exact ⟨rfl,hz _ _⟩
end Go.Proofs.YtlcfpdmicpggbaaGreatDoor
namespace Go.Proofs.YtlcfpdmicpggbaaGreatDoor
open Go.Lib (hid)
open Go.RowKit Go.Proofs.Spl Go.Proofs.Scn Go.Shelf Go.Flow Go.Sort
def MyM (y:Md):Prop:=∀ (W:World) (cs:List Value),MR W y cs→RB 99 #[.agg cs.toArray] W (okM y)
theorem px {W:World} {y:Pt} {v u:Value} {cs:List Value} (h:PR W y (v :: u :: cs)):XR W y.w cs:=by
 obtain ⟨xs,e,h⟩:=h
 cases e
 exact h
theorem module_walk3 (name:Ln) (pp pt pl:Option Addr) (m1 c1 c2 m3 c3:Nat) (l:List Pt) (W:World) (hl:l.length≤1000000000) (si bp bi:Bool) (hR:PsR W (.slice pt l.length c2) l) (hE:∀ y ∈ l,y.name.length≤140737488355328∧MyX y.w)
  (h1:∀ W9,RB 170 #[.string (bs name)] W9 si)
  (h2:∀ W9,Below W.heap.size W W9→RB 171 #[.slice pp m1 c1] W9 bp)
  (h3:∀ W9,Below W.heap.size W W9→RB 172 #[.slice pl m3 c3] W9 bi) :
  RB 99 #[.agg #[.string (bs name),.slice pp m1 c1,.slice pt l.length c2,.slice pl m3 c3]] W (l.all okP && (si && bp && bi)):=by
 have HC:=hid (fun k (hk:k<l.length)=>atP hR hk)
 have HE:=hid hE
 have HN:=hid (fun k (hk:k<l.length)=>@all_no _ okP l k hk)
 have HZ:=hid (@all_yes _ okP l)
 have H1:=hid h1;have H2:=hid h2;have H3:=hid h3
 have HB:=hid (box4 W (.string (bs name)) (.slice pp m1 c1) (.slice pt l.length c2) (.slice pl m3 c3) 53)
 obtain ⟨V,hV⟩:∃ V,V=W.alloc (.cells #[.string (bs name),.slice pp m1 c1,.slice pt l.length c2,.slice pl m3 c3] 53):=⟨_,rfl⟩
 have HX:=hid (show Below W.heap.size W V from hV ▸ (Below.refl W.heap.size W).alloc (Nat.le_refl _) _)
 rw [← hV] at HB
 clear hR hE h1 h2 h3
 generalize l.all okP=Q at *
 go_enter Tryz.func99,Tryz.ntmps99
 go_wp2
 rw [← hV]
 clear hV
 go_loopw [3] (fun i wr=>∃ k:Nat,i=.int .i64 k∧k≤l.length∧Hid (∀ j (h:j<l.length),j<k→okP l[j]=true)∧Hid (Below V.heap.size V wr)) (fun i _=>l.length - (intOf i).toNat)
 case atStart=>exact ⟨0,rfl,Nat.zero_le _,hid (fun j h hj=>by omega),hid (Below.refl _ _)⟩
 case round=>
  obtain ⟨k,rfl,hk,HA,HW⟩:=hrel
  obtain ⟨k0,k1,k2,k3⟩:=HB.out _ HW.out
  have HG:=hid (bthen HX.out HW.out)
  by_cases hlt:k<l.length
  ·have hlt':(k:Int)<(l.length:Int):=by omega
   obtain ⟨q,off,pl,cl,rfl,hy⟩:=HC.out k hlt
   have HN2:=hid (HN.out k hlt)
   have HA2:=hid (all_next hlt HA.out)
   have HE2:=hid (HE.out _ (List.getElem_mem hlt))
   generalize l[k]=y at *
   have HY:=hid hy
   obtain ⟨x0,x1,x2,x3,x4,x5,x6,x7⟩:=(hy _ HG.out).2
   have HO:=hid (show okP y=(isName y.name && okX y.w) from rfl)
   clear hy
   have C0:=hid (fun (W9:World) (h:Below W.heap.size W W9)=>show RB 170 #[.string (bs y.name)] W9 (isName y.name) from name3_any y.name HE2.out.1 _)
   have C1:=hid (fun (W9:World) (h:Below W.heap.size W W9)=>show RB 110 #[.agg #[.int .i64 y.w.op,.string (bs y.w.name),.int .i64 y.w.n,.int .i64 y.w.w,.int .u64 y.w.v,.slice pl y.w.l.length cl]] W9 (okX y.w) from HE2.out.2 _ _ (px (HY.out _ h).1))
   generalize isName y.name=r0 at *
   generalize okX y.w=r1 at *
   go_wp2_with (first
    | (go_at_call 170;refine (C0.out _ HG.out).mono ?_;rintro e V1 ⟨rfl,hb⟩;have X1:=hid (bthen HG.out hb);have Z1:=hid (bthen HW.out hb);obtain ⟨k0,k1,k2,k3⟩:=HB.out _ Z1.out;obtain ⟨x0,x1,x2,x3,x4,x5,x6,x7⟩:=(HY.out _ X1.out).2;clear hb;cases r0)
    | (go_at_call 110;refine (C1.out _ X1.out).mono ?_;rintro e V2 ⟨rfl,hb⟩;have X1:=hid (bthen X1.out hb);have Z1:=hid (bthen Z1.out hb);clear hb;cases r1))
   all_goals first
    | (go_ret;exact ⟨ret_bool (by rw [HN2.out (by rw [HO.out];rfl)];rfl),X1.out⟩)
    | (go_roundw
       case rel=>exact ⟨k+1,by go_num,hlt,hid (HA2.out (by rw [HO.out];rfl)),Z1⟩
       case measure=>simp [intOf];omega)
  ·have hge:¬ ((k:Int)<(l.length:Int)):=by omega
   have HR:=hid (HZ.out fun j hj _=>HA.out j hj (by omega))
   go_wp2_with (first
    | (go_at_call 170;refine (H1.out _).mono ?_;rintro e V1 ⟨rfl,hb⟩;have HG:=hid (bthen HG.out hb);have HW:=hid (bthen HW.out hb);obtain ⟨k0,k1,k2,k3⟩:=HB.out _ HW.out;clear hb;cases si)
    | (go_at_call 171;refine (H2.out _ HG.out).mono ?_;rintro e V1 ⟨rfl,hb⟩;have HG:=hid (bthen HG.out hb);have HW:=hid (bthen HW.out hb);obtain ⟨k0,k1,k2,k3⟩:=HB.out _ HW.out;clear hb;cases bp)
    | (go_at_call 172;refine (H3.out _ HG.out).mono ?_;rintro e V1 ⟨rfl,hb⟩;have HG:=hid (bthen HG.out hb);clear hb))
   all_goals (go_ret;exact ⟨ret_bool (by rw [HR.out];rfl),HG.out⟩)
theorem module3_ok (m:Md) (hsm:smM m=true) (hsz:sizeM m≤65536):MyM m:=by
 intro W cs hR
 obtain ⟨vp,vt,vi,rfl,hP,hT,hL⟩:=hR
 unfold smM at hsm
 unfold sizeM at hsz
 rw [sizeIs_sum] at hsz
 simp only [Bool.and_eq_true,decide_eq_true_eq,List.all_eq_true] at hsm
 obtain ⟨⟨⟨hn,sp⟩,st⟩,sl⟩:=hsm
 have ll:=sumN_len sizeI one_sizeI m.l
 have lp:=sumN_len sizeB one_sB m.ps
 have lt:=sumN_len sizeP one_sP m.pts
 have gL:∀ y ∈ m.l,MyI y:=fun y hy=>item3_ok y (sl y hy) (by have:=sumN_mem sizeI hy;omega)
 have gP:∀ y ∈ m.ps,y.name.length≤140737488355328∧MyX y.x:=fun y hy=>by
  have h3:=sp y hy
  have h4:sizeX y.x+1≤_:=sumN_mem sizeB hy
  unfold smB at h3
  rw [Bool.and_eq_true,decide_eq_true_eq] at h3
  exact ⟨h3.1,mayX_ok y.x h3.2 (by omega)⟩
 have gT:∀ y ∈ m.pts,y.name.length≤140737488355328∧MyX y.w:=fun y hy=>by
  have h3:=st y hy
  have h4:sizeX y.w+1≤_:=sumN_mem sizeP hy
  unfold smP at h3
  rw [Bool.and_eq_true,decide_eq_true_eq] at h3
  exact ⟨h3.1,mayX_ok y.w h3.2 (by omega)⟩
 have xP:=fun (W9:World) (h:Below W.heap.size W W9)=>BsR.later hP h
 have xL:=fun (W9:World) (h:Below W.heap.size W W9)=>IsR.later hL h
 obtain ⟨pp,cp,rfl,_⟩:=hP
 have hT0:=hT
 obtain ⟨pt,ct,rfl,_⟩:=hT
 obtain ⟨pl,cl,rfl,_⟩:=hL
 have e:okM m=(m.pts.all okP && (isName m.name && m.ps.all okB && m.l.all okI)):=by unfold okM;rw [okIs_all];ac_rfl
 rw [e]
 exact module_walk3 m.name pp pt pl m.ps.length cp ct m.l.length cl m.pts W (by omega) _ _ _ hT0 gT (fun W9=>name3_any m.name hn W9) (fun W9 h=>binds3_any pp cp m.ps (by omega) W9 (xP W9 h) gP) (fun W9 h=>items3_any pl cl m.l (by omega) W9 (xL W9 h) gL)
theorem checkF3_any (f:List Md) (p:Option Addr) (c:Nat) (W:World) (hR:MsR W (.slice p f.length c) f) (h1:f.all smM=true) (h2:sumN sizeM f≤65536):RetE 49 #[.agg #[.slice p f.length c]] W (checkF f):=by
 have hlen:=sumN_len sizeM one_sM f
 have HS:=hid (fun (W9:World) (h:Below W.heap.size W W9)=>rSize_any f p c (by omega) W9 (MsR.later hR h))
 have HD:=hid (fun (W9:World) (h:Below W.heap.size W W9)=>rDeep_any f p c (by omega) W9 (MsR.later hR h))
 have HE:=hid (show ∀ y ∈ f,MyM y from fun y hy=>module3_ok y (List.all_eq_true.1 h1 y hy) (by have:=sumN_mem sizeM hy;omega))
 have HC:=hid (fun k (hk:k<f.length)=>atM hR hk)
 have HN:=hid (fun k (hk:k<f.length)=>@all_no _ okM f k hk)
 have HZ:=hid (@all_yes _ okM f)
 have HR:=hid (show checkF f=if 64<(f.length:Int)∨65536<((sumN sizeM f:Nat):Int)∨64<((maxN deepM f:Nat):Int) then 2 else if f.all okM then 0 else 1 by
  unfold checkF told
  by_cases a:64<f.length
  ·rw [if_pos a,if_pos (by omega)]
  ·rw [if_neg a]
   congr 1
   rw [eq_iff_iff];omega)
 have HB:=hid (fun (w':World) (h:Below (W.alloc (.cells #[.slice p f.length c] 24)).heap.size (W.alloc (.cells #[.slice p f.length c] 24)) w')=>show w'.cell? ⟨W.heap.size,0,none⟩=some (.slice p f.length c) by
  have hc:=(h.block W.heap.size (by simp)).trans (World.alloc_heap_new W (.cells #[.slice p f.length c] 24))
  simp [World.cell?,hc])
 obtain ⟨V,hV⟩:∃ V,V=W.alloc (.cells #[.slice p f.length c] 24):=⟨_,rfl⟩
 have HX:=hid (show Below W.heap.size W V from hV ▸ (Below.refl W.heap.size W).alloc (Nat.le_refl _) _)
 rw [← hV] at HB
 have x0:=HB.out _ (Below.refl _ _)
 clear hR h1 h2
 generalize checkF f=R at *
 generalize f.all okM=Q at *
 generalize sumN sizeM f=sz at *
 generalize maxN deepM f=dp at *
 go_enter Tryz.func49,Tryz.ntmps49
 go_wp2_with fail
 all_goals rw [← hV]
 all_goals clear hV
 all_goals go_wp2_with (first
  | (go_at_call 39;refine (HS.out _ HX.out).mono ?_;rintro e V1 ⟨rfl,hb⟩;have X1:=hid (bthen HX.out hb);have Z1:=hid hb;have x0:=HB.out _ hb;clear hb)
  | (go_at_call 40;refine (HD.out _ X1.out).mono ?_;rintro e V2 ⟨rfl,hb⟩;have X1:=hid (bthen X1.out hb);have Z1:=hid (bthen Z1.out hb);have x0:=HB.out _ Z1.out;clear hb))
 all_goals try simp only [decide_eq_true_eq,decide_eq_false_iff_not] at *
 all_goals try (go_ret;exact ⟨by (rw [HR.out,if_pos (by omega)];first | done | rfl),by first | exact X1.out | exact HX.out⟩)
 have HR2:=hid (show R=if Q then 0 else 1 by rw [HR.out,if_neg (by omega)])
 clear HR HS HD
 go_loopw [3] (fun i wr=>∃ k:Nat,i=.int .i64 k∧k≤f.length∧Hid (∀ j (h:j<f.length),j<k→okM f[j]=true)∧Hid (Below V.heap.size V wr)) (fun i _=>f.length - (intOf i).toNat)
 case atStart=>exact ⟨0,rfl,Nat.zero_le _,hid (fun j h hj=>by omega),Z1⟩
 case round=>
  obtain ⟨k,rfl,hk,HA,HW⟩:=hrel
  have k0:=HB.out _ HW.out
  have HG:=hid (bthen HX.out HW.out)
  by_cases hlt:k<f.length
  ·have hlt':(k:Int)<(f.length:Int):=by omega
   obtain ⟨q,off,pp,cp,pt,ct,pl,cl,rfl,hy⟩:=HC.out k hlt
   have HN2:=hid (HN.out k hlt)
   have HA2:=hid (all_next hlt HA.out)
   have HE2:=hid (HE.out _ (List.getElem_mem hlt))
   generalize f[k]=y at *
   have HY:=hid hy
   obtain ⟨y0,y1,y2,y3⟩:=(hy _ HG.out).2
   clear hy
   have C0:=hid (fun (W9:World) (h:Below W.heap.size W W9)=>show RB 99 #[.agg #[.string (bs y.name),.slice pp y.ps.length cp,.slice pt y.pts.length ct,.slice pl y.l.length cl]] W9 (okM y) from HE2.out _ _ (HY.out _ h).1)
   generalize okM y=r0 at *
   go_wp2_with (go_at_call 99;refine (C0.out _ HG.out).mono ?_;rintro e V3 ⟨rfl,hb⟩;have HG:=hid (bthen HG.out hb);have HW:=hid (bthen HW.out hb);clear hb;cases r0)
   all_goals first
    | (go_ret;exact ⟨by rw [HR2.out,HN2.out (by trivial)];rfl,HG.out⟩)
    | (go_roundw
       case rel=>exact ⟨k+1,by go_num,hlt,hid (HA2.out (by trivial)),HW⟩
       case measure=>simp [intOf];omega)
  ·have hge:¬ ((k:Int)<(f.length:Int)):=by omega
   have HRR:=hid (HZ.out fun j hj _=>HA.out j hj (by omega))
   go_wp2
   go_ret
   exact ⟨by rw [HR2.out,HRR.out];rfl,HG.out⟩
end Go.Proofs.YtlcfpdmicpggbaaGreatDoor
namespace Go.Proofs.YtlcfpdmicpggbaaGreatDoor
open Go.Lib (hid)
open Go.RowKit Go.Proofs.Spl Go.Proofs.Scn Go.Shelf
theorem binds4_any (p:Option Addr) (cap:Nat) (l:List Bd) (hl:l.length≤1000000) (hb:sumN (fun x=>(bindT x).length+1) l≤600000) (W:World) (hR:BsR W (.slice p l.length cap) l) (hE:∀ y ∈ l,Ex4 y.x) :
  Calls Tryz.prog 101 #[.slice p l.length cap] W (TkP W (bindsT l)):=by
 have HC:=hid (fun k (hk:k<l.length)=>atB hR hk)
 have HE:=hid hE
 have HT1:=hid (fun h=>sepP_one [44] bindT l h)
 have HTN:=hid (fun k h=>sepP_next [44] bindT l (k:=k) h)
 have HTE:=hid (show bindsT l=inT 40 41 (sepP [44] bindT l l.length) by rw [sepP_end];rfl)
 have HLL:=hid (fun k=>sepP_len [44] bindT l k _ hb)
 have HL2:=hid (show ∀ k (hk:k<l.length),(bindT l[k]).length≤600000 from fun k hk=>by have:=sumN_mem (fun x=>(bindT x).length+1) (List.getElem_mem hk);omega)
 have HT0:=hid (show sepP [44] bindT l 0=[] from rfl)
 generalize sepP [44] bindT l=T at *
 generalize bindsT l=LT at *
 clear hR hE hb
 go_enter Tryz.func101,Tryz.ntmps101
 go_wp2
 go_loopw [3,4] (fun u i wr=>∃ (k n:Nat) (pq:Option Addr) (cp:Nat),u=.slice pq n cp∧i=.int .i64 k∧k≤l.length∧Hid (OwnT W.heap.size wr (.slice pq n cp) (T k))∧Hid (Below W.heap.size W wr)) (fun _ i _=>l.length - (intOf i).toNat)
 case atStart=>
  refine ⟨0,0,some ⟨W.heap.size,0,none⟩,0,rfl,rfl,Nat.zero_le _,hid ?_,hid ((Below.refl _ _).alloc (Nat.le_refl _) _)⟩
  rw [HT0.out]
  exact World.ownsRow_made W #[] 0 (Nat.le_refl _) (by decide) rfl
 case round=>
  obtain ⟨k,n,pq,cp,rfl,rfl,hk,HO,HX⟩:=hrel
  have HLK:=hid (HLL.out k)
  by_cases hlt:k<l.length
  case neg=>
   obtain rfl:k=l.length:=by omega
   go_wp2_with (go_at_call 102;refine (between4_any [40] [41] pq n cp (T l.length) _ HO.out.zero (by have:=HLK.out;omega)).mono ?_;rintro e W1 ⟨p1,n1,c1,rfl,ho,hb⟩;have T1:=hid (ho.lower HX.out.size);have HX:=hid (bthen HX.out hb);clear hb ho)
   go_ret
   exact ⟨_,_,_,rfl,by rw [HTE.out];exact T1.out,HX.out⟩
  have hlt':(k:Int)<(l.length:Int):=by omega
  obtain ⟨q,off,pl,cl,rfl,hy⟩:=HC.out k hlt
  have HLP:=HL2.out k hlt
  have HE2:=HE.out _ (List.getElem_mem hlt)
  have HN1:=hid (fun (h:k=0)=>show T (k+1)=T k ++ bindT l[k] by subst h;exact HT1.out (by omega))
  have HN2:=hid (fun (h:0<k)=>show T (k+1)=(T k ++ [sgT [44]]) ++ bindT l[k] from HTN.out k hlt h)
  generalize l[k]=y at *
  have HY:=hid hy
  have CE:=hid (fun (W9:World) (h:Below W.heap.size W W9)=>HE2 W9 _ (bx (HY.out _ h).1))
  obtain ⟨x0,x1,x2,x3,x4,x5,x6⟩:=(hy _ HX.out).2
  have hbt:bindT y=List.flatten [[nmT (y.name)],[sgT [61]],exprT y.x]:=by simp [bindT]
  rw [hbt] at HLP HN1 HN2
  clear hbt
  generalize exprT y.x=E at *
  have HL:=hid (show E.length≤600000 by simp at HLP;omega)
  clear HLP
  clear hy HE2
  have h01:k=0∨0<k:=by omega
  rcases h01 with h0 | h0
  all_goals first
   | (have h0':¬ (0:Int)<(k:Int):=by omega
      obtain ⟨L,hL⟩:∃ L,L=T k:=⟨_,rfl⟩
      have HN:=HN1.out h0
      rw [← hL] at HN HO HLK
      have HN:=hid HN
      have HLK:=hid (show L.length≤600001 by have:=HLK.out;omega)
      clear hL h0 HN1 HN2
      go_wp2_with fail)
   | (have h0':(0:Int)<(k:Int):=by omega
      obtain ⟨L,hL⟩:∃ L,L=T k ++ [sgT [44]]:=⟨_,rfl⟩
      have HN:=HN2.out h0
      rw [← hL] at HN
      have HN:=hid HN
      have hLK:=HLK.out
      have HLK:=hid (show L.length≤600001 by rw [hL];simp;omega)
      clear h0 HN1 HN2
      go_wp2_with (first
       | (go_at_call 100;refine (sign4_any [44] _).mono ?_;rintro e W1 ⟨p1,n1,c1,rfl,ho,hb⟩;have T1:=hid ho;have HO:=hid (HO.out.later hb);have HX:=hid (bthen HX.out hb);clear hb ho)
       | (at_builtin;refine wpList_append_toks rfl _ _ rfl W.heap.size _ (T k) [sgT [44]] rfl HO.out _ _ rfl T1.out (by simp;omega) HX.out.size ?_;intro pq cp n wr hN hO hgr;have HX:=hid (Below.grown HX.out hgr HX.out.size (fun k hk=>HO.out.base k hk));have HO:=hid hO;rw [← hL] at HO;obtain ⟨x0,x1,x2,x3,x4,x5,x6⟩:=(HY.out _ HX.out).2;clear hN hO hgr T1 hL hLK)))
  all_goals
   obtain ⟨G0,G1,G2,G3⟩:True∧True∧True∧True:=by simp
   have HS:=hid (show St W wr.drew [(.slice pq n cp,L)] from ⟨HX.out.drew,fun p hp=>by rw [List.mem_singleton.1 hp];exact HO.out.later (Below.refl wr.heap.size wr).drew⟩)
   go_region_held3 (fun w'=>w'.cell? ⟨q,off+k * 7,none⟩=some (.string (bs y.name))∧w'.cell? ⟨q,off+k * 7+1,none⟩=some (.int .i64 y.x.op)∧w'.cell? ⟨q,off+k * 7+2,none⟩=some (.string (bs y.x.name))∧w'.cell? ⟨q,off+k * 7+3,none⟩=some (.int .i64 y.x.n)∧w'.cell? ⟨q,off+k * 7+4,none⟩=some (.int .i64 y.x.w)∧w'.cell? ⟨q,off+k * 7+5,none⟩=some (.int .u64 y.x.v)∧w'.cell? ⟨q,off+k * 7+6,none⟩=some (.slice pl y.x.l.length cl))
    (first | exact (HY.out _ HX6.out).2 | exact (HY.out _ HS.out.1).2 | exact (HY.out _ (HS.out.1.alloc HS.out.1.size _)).2 | go_keep)
    (first
     | (go_at_call 52;clear G0;refine (psh (name4_any (y.name) _) HS).mono ?_;rintro e V0 ⟨p0,n0,c0,rfl,HS⟩)
     | (go_at_call 100;clear G1;refine (psh (sign4_any [61] _) HS).mono ?_;rintro e V1 ⟨p1,n1,c1,rfl,HS⟩)
     | (go_at_call 58;clear G2;refine (psh (CE.out _ HS.out.1) HS).mono ?_;rintro e V2 ⟨p2,n2,c2,rfl,HS⟩)
     | (go_at_call 50;clear G3;refine (psh (ts:=List.flatten [[nmT (y.name)],[sgT [61]],E]) (join5_any HS.out [(.slice p0 n0 c0,[nmT (y.name)]),(.slice p1 n1 c1,[sgT [61]]),(.slice p2 n2 c2,E)] (by simp) (by simp) (by have:=HL.out;simp [allT,inT];omega)) HS).mono ?_;rintro e V3 ⟨p3,n3,c3,rfl,HS⟩)
     | (rw [if_pos (by rfl)];refine wp_append_toks _ _ rfl W.heap.size _ (L) (List.flatten [[nmT (y.name)],[sgT [61]],E]) rfl (HS.out.2 (.slice pq n cp,L) (by simp)) _ (.slice p3 n3 c3) rfl (HS.out.2 (.slice p3 n3 c3,List.flatten [[nmT (y.name)],[sgT [61]],E]) (by simp)) (by have:=HLK.out;have:=HL.out;simp [nmT];omega) HS.out.1.size ?_;intro p6 c6 N w6 hN hO hgr;have HO6:=hid hO;have HX6:=hid (Below.grown HS.out.1 hgr HS.out.1.size (fun j hj=>(HS.out.2 (.slice pq n cp,L) (by simp)).base j hj));clear hN hO hgr))
   go_wp2
   go_roundw
   case rel=>exact ⟨k+1,_,p6,c6,rfl,by go_num,hlt,hid (by rw [HN.out];exact HO6.out),HX6⟩
   case measure=>simp [intOf];omega
theorem params4_any (p:Option Addr) (cap:Nat) (l:List Bd) (hl:l.length≤1000000) (hb:sumN (fun x=>(bindT x).length+1) l≤600000) (W:World) (hR:BsR W (.slice p l.length cap) l) (hE:∀ y ∈ l,Ex4 y.x) :
  Calls Tryz.prog 53 #[.slice p l.length cap] W (TkP W (paramsT l)):=by
 by_cases h0:l=[]
 ·subst h0
  go_enter Tryz.func53,Tryz.ntmps53
  go_wp2
  go_ret
  exact ⟨none,0,0,rfl,OwnT.nil _ _,Below.refl _ _⟩
 ·have hne:((l.length:Int) == 0)=false:=by cases l with | nil=>exact absurd rfl h0 | cons a r=>simp;omega
  have HC:=hid (fun (W9:World) (h:Below W.heap.size W W9)=>binds4_any p cap l hl hb W9 (BsR.later hR h) hE)
  have HT:=hid (show paramsT l=List.flatten [[sgT [35]],bindsT l] by simp [paramsT,h0])
  have HL:=hid (show (bindsT l).length≤600002 by have:=sepP_len [44] bindT l l.length _ hb;rw [sepP_end] at this;simp [bindsT,parT,inT];omega)
  have HZ:=hid (Below.refl W.heap.size W)
  have HS:=hid (St.start (Below.refl W.heap.size W))
  clear hR hE hb h0
  generalize bindsT l=B at *
  go_enter Tryz.func53,Tryz.ntmps53
  go_wp2_with (first
   | (go_at_call 100;refine (sign4_any [35] _).mono ?_;rintro e V0 ⟨p0,n0,c0,rfl,ho,hb⟩;have HS:=hid (HS.out.push ho hb);clear ho hb)
   | (go_at_call 101;refine (HC.out _ HS.out.1).mono ?_;rintro e V1 ⟨p1,n1,c1,rfl,ho,hb⟩;have HS:=hid (HS.out.push ho hb);clear ho hb)
   | (go_at_call 50;refine (join5_any HS.out [(.slice p0 n0 c0,[sgT [35]]),(.slice p1 n1 c1,B)] (by simp) (by simp) (by have:=HL.out;simp [allT];omega)).mono ?_;rintro e V2 ⟨p2,n2,c2,rfl,ho,hb⟩;have HS:=hid (HS.out.push (ts:=List.flatten [[sgT [35]],B]) ho hb);clear ho hb))
  go_ret
  rw [HT.out]
  exact St.ret HZ.out HS.out (by simp)
theorem ports4_any (p:Option Addr) (cap:Nat) (l:List Pt) (hl:l.length≤1000000) (hb:sumN (fun x=>(portT x).length+1) l≤600000) (W:World) (hR:PsR W (.slice p l.length cap) l) (hE:∀ y ∈ l,Ex4 y.w) :
  Calls Tryz.prog 54 #[.slice p l.length cap] W (TkP W (parT (sepS [44] (l.map portT)))):=by
 have HC:=hid (fun k (hk:k<l.length)=>atP hR hk)
 have HE:=hid hE
 have HT1:=hid (fun h=>sepP_one [44] portT l h)
 have HTN:=hid (fun k h=>sepP_next [44] portT l (k:=k) h)
 have HTE:=hid (show parT (sepS [44] (l.map portT))=inT 40 41 (sepP [44] portT l l.length) by rw [sepP_end];rfl)
 have HLL:=hid (fun k=>sepP_len [44] portT l k _ hb)
 have HL2:=hid (show ∀ k (hk:k<l.length),(portT l[k]).length≤600000 from fun k hk=>by have:=sumN_mem (fun x=>(portT x).length+1) (List.getElem_mem hk);omega)
 have HT0:=hid (show sepP [44] portT l 0=[] from rfl)
 generalize sepP [44] portT l=T at *
 generalize parT (sepS [44] (l.map portT))=LT at *
 clear hR hE hb
 go_enter Tryz.func54,Tryz.ntmps54
 go_wp2
 go_loopw [3,4] (fun u i wr=>∃ (k n:Nat) (pq:Option Addr) (cp:Nat),u=.slice pq n cp∧i=.int .i64 k∧k≤l.length∧Hid (OwnT W.heap.size wr (.slice pq n cp) (T k))∧Hid (Below W.heap.size W wr)) (fun _ i _=>l.length - (intOf i).toNat)
 case atStart=>
  refine ⟨0,0,some ⟨W.heap.size,0,none⟩,0,rfl,rfl,Nat.zero_le _,hid ?_,hid ((Below.refl _ _).alloc (Nat.le_refl _) _)⟩
  rw [HT0.out]
  exact World.ownsRow_made W #[] 0 (Nat.le_refl _) (by decide) rfl
 case round=>
  obtain ⟨k,n,pq,cp,rfl,rfl,hk,HO,HX⟩:=hrel
  have HLK:=hid (HLL.out k)
  by_cases hlt:k<l.length
  case neg=>
   obtain rfl:k=l.length:=by omega
   go_wp2_with (go_at_call 102;refine (between4_any [40] [41] pq n cp (T l.length) _ HO.out.zero (by have:=HLK.out;omega)).mono ?_;rintro e W1 ⟨p1,n1,c1,rfl,ho,hb⟩;have T1:=hid (ho.lower HX.out.size);have HX:=hid (bthen HX.out hb);clear hb ho)
   go_ret
   exact ⟨_,_,_,rfl,by rw [HTE.out];exact T1.out,HX.out⟩
  have hlt':(k:Int)<(l.length:Int):=by omega
  obtain ⟨q,off,pl,cl,rfl,hy⟩:=HC.out k hlt
  have HLP:=HL2.out k hlt
  have HE2:=HE.out _ (List.getElem_mem hlt)
  have HN1:=hid (fun (h:k=0)=>show T (k+1)=T k ++ portT l[k] by subst h;exact HT1.out (by omega))
  have HN2:=hid (fun (h:0<k)=>show T (k+1)=(T k ++ [sgT [44]]) ++ portT l[k] from HTN.out k hlt h)
  generalize l[k]=y at *
  have HY:=hid hy
  have CE:=hid (fun (W9:World) (h:Below W.heap.size W W9)=>HE2 W9 _ (px (HY.out _ h).1))
  obtain ⟨x0,x1,x2,x3,x4,x5,x6,x7⟩:=(hy _ HX.out).2
  obtain ⟨wo,hwo⟩:∃ wo:Ln,wo=if y.out then [111,117,116] else [105,110]:=⟨_,rfl⟩
  have hbt:portT y=List.flatten [[wdT wo],[nmT (y.name)],[sgT [58]],exprT y.w]:=by simp [portT,hwo]
  rw [hbt] at HLP HN1 HN2
  clear hbt
  generalize exprT y.w=E at *
  have HL:=hid (show E.length≤600000 by simp at HLP;omega)
  have hcw:(y.out=true∧∀ W9,Below W.heap.size W W9→Calls Tryz.prog 51 #[.string (bs [111,117,116])] W9 (TkP W9 [wdT wo]))∨(y.out=false∧∀ W9,Below W.heap.size W W9→Calls Tryz.prog 51 #[.string (bs [105,110])] W9 (TkP W9 [wdT wo])):=by
   cases ho:y.out
   ·exact .inr ⟨rfl,fun W9 _=>by rw [hwo,ho];exact word4_any _ W9⟩
   ·exact .inl ⟨rfl,fun W9 _=>by rw [hwo,ho];exact word4_any _ W9⟩
  clear HLP hwo
  generalize y.out=ob at *
  clear hy HE2
  have h01:k=0∨0<k:=by omega
  rcases hcw with ⟨rfl,CW⟩ | ⟨rfl,CW⟩
  all_goals have CW:=hid CW
  all_goals rcases h01 with h0 | h0
  all_goals first
   | (have h0':¬ (0:Int)<(k:Int):=by omega
      obtain ⟨L,hL⟩:∃ L,L=T k:=⟨_,rfl⟩
      have HN:=HN1.out h0
      rw [← hL] at HN HO HLK
      have HN:=hid HN
      have HLK:=hid (show L.length≤600001 by have:=HLK.out;omega)
      clear hL h0 HN1 HN2
      go_wp2_with fail)
   | (have h0':(0:Int)<(k:Int):=by omega
      obtain ⟨L,hL⟩:∃ L,L=T k ++ [sgT [44]]:=⟨_,rfl⟩
      have HN:=HN2.out h0
      rw [← hL] at HN
      have HN:=hid HN
      have hLK:=HLK.out
      have HLK:=hid (show L.length≤600001 by rw [hL];simp;omega)
      clear h0 HN1 HN2
      go_wp2_with (first
       | (go_at_call 100;refine (sign4_any [44] _).mono ?_;rintro e W1 ⟨p1,n1,c1,rfl,ho,hb⟩;have T1:=hid ho;have HO:=hid (HO.out.later hb);have HX:=hid (bthen HX.out hb);clear hb ho)
       | (at_builtin;refine wpList_append_toks rfl _ _ rfl W.heap.size _ (T k) [sgT [44]] rfl HO.out _ _ rfl T1.out (by simp;omega) HX.out.size ?_;intro pq cp n wr hN hO hgr;have HX:=hid (Below.grown HX.out hgr HX.out.size (fun k hk=>HO.out.base k hk));have HO:=hid hO;rw [← hL] at HO;obtain ⟨x0,x1,x2,x3,x4,x5,x6,x7⟩:=(HY.out _ HX.out).2;clear hN hO hgr T1 hL hLK)))
  all_goals
   obtain ⟨G0,G1,G2,G3,G4⟩:True∧True∧True∧True∧True:=by simp
   have HS:=hid (show St W wr.drew [(.slice pq n cp,L)] from ⟨HX.out.drew,fun p hp=>by rw [List.mem_singleton.1 hp];exact HO.out.later (Below.refl wr.heap.size wr).drew⟩)
   go_region_held3 (fun w'=>w'.cell? ⟨q,off+k * 8,none⟩=some (.string (bs y.name))∧w'.cell? ⟨q,off+k * 8+2,none⟩=some (.int .i64 y.w.op)∧w'.cell? ⟨q,off+k * 8+3,none⟩=some (.string (bs y.w.name))∧w'.cell? ⟨q,off+k * 8+4,none⟩=some (.int .i64 y.w.n)∧w'.cell? ⟨q,off+k * 8+5,none⟩=some (.int .i64 y.w.w)∧w'.cell? ⟨q,off+k * 8+6,none⟩=some (.int .u64 y.w.v)∧w'.cell? ⟨q,off+k * 8+7,none⟩=some (.slice pl y.w.l.length cl))
    (first | exact ⟨(HY.out _ HX6.out).2.1,(HY.out _ HX6.out).2.2.2⟩ | exact ⟨(HY.out _ HS.out.1).2.1,(HY.out _ HS.out.1).2.2.2⟩ | exact (HY.out _ (HS.out.1.alloc HS.out.1.size _)).2 | go_keep)
    (first
     | (go_at_call 51;clear G0;refine (psh (CW.out _ HS.out.1) HS).mono ?_;rintro e V0 ⟨p0,n0,c0,rfl,HS⟩)
     | (go_at_call 52;clear G1;refine (psh (name4_any (y.name) _) HS).mono ?_;rintro e V1 ⟨p1,n1,c1,rfl,HS⟩)
     | (go_at_call 100;clear G2;refine (psh (sign4_any [58] _) HS).mono ?_;rintro e V2 ⟨p2,n2,c2,rfl,HS⟩)
     | (go_at_call 58;clear G3;refine (psh (CE.out _ HS.out.1) HS).mono ?_;rintro e V3 ⟨p3,n3,c3,rfl,HS⟩)
     | (go_at_call 50;clear G4;refine (psh (ts:=List.flatten [[wdT wo],[nmT (y.name)],[sgT [58]],E]) (join5_any HS.out [(.slice p0 n0 c0,[wdT wo]),(.slice p1 n1 c1,[nmT (y.name)]),(.slice p2 n2 c2,[sgT [58]]),(.slice p3 n3 c3,E)] (by simp) (by simp) (by have:=HL.out;simp [allT,inT];omega)) HS).mono ?_;rintro e V4 ⟨p4,n4,c4,rfl,HS⟩)
     | (rw [if_pos (by rfl)];refine wp_append_toks _ _ rfl W.heap.size _ (L) (List.flatten [[wdT wo],[nmT (y.name)],[sgT [58]],E]) rfl (HS.out.2 (.slice pq n cp,L) (by simp)) _ (.slice p4 n4 c4) rfl (HS.out.2 (.slice p4 n4 c4,List.flatten [[wdT wo],[nmT (y.name)],[sgT [58]],E]) (by simp)) (by have:=HLK.out;have:=HL.out;simp [nmT];omega) HS.out.1.size ?_;intro p6 c6 N w6 hN hO hgr;have HO6:=hid hO;have HX6:=hid (Below.grown HS.out.1 hgr HS.out.1.size (fun j hj=>(HS.out.2 (.slice pq n cp,L) (by simp)).base j hj));clear hN hO hgr))
   go_wp2
   go_roundw
   case rel=>exact ⟨k+1,_,p6,c6,rfl,by go_num,hlt,hid (by rw [HN.out];exact HO6.out),HX6⟩
   case measure=>simp [intOf];omega
end Go.Proofs.YtlcfpdmicpggbaaGreatDoor
namespace Go.Proofs.YtlcfpdmicpggbaaGreatDoor
open Go.Lib (hid)
open Go.RowKit Go.Proofs.Spl Go.Proofs.Scn Go.Shelf
def ItX (y:It):Prop:=∀ (W:World) (cs:List Value),IR W y cs→Calls Tryz.prog 103 #[.agg cs.toArray] W (TkP W (itemT y))
theorem items4_any (p:Option Addr) (cap:Nat) (l:List It) (hl:l.length≤1000000) (hb:sumN (fun x=>(itemT x).length+1) l≤1200000) (W:World) (hR:IsR W (.slice p l.length cap) l) (hE:∀ y ∈ l,ItX y) :
  Calls Tryz.prog 55 #[.slice p l.length cap] W (TkP W (cubT (l.map itemT).flatten)):=by
 have HC:=hid (fun k (hk:k<l.length)=>atI hR hk)
 have HE:=hid (show ∀ k (hk:k<l.length),ItX l[k] from fun k hk=>hE _ (List.getElem_mem hk))
 have HTN:=hid (fun k h=>flatP_next itemT l (k:=k) h)
 have HTE:=hid (show cubT (l.map itemT).flatten=inT 123 125 (flatP itemT l l.length) by rw [flatP_end];rfl)
 have HL:=hid (fun k=>flatP_len itemT l k _ hb)
 have HL2:=hid (show ∀ k (hk:k<l.length),(itemT l[k]).length≤1200000 from fun k hk=>by have:=sumN_mem (fun x=>(itemT x).length+1) (List.getElem_mem hk);omega)
 have HT0:=hid (show flatP itemT l 0=[] from rfl)
 generalize flatP itemT l=T at *
 generalize cubT (l.map itemT).flatten=BT at *
 clear hR hE hb
 go_enter Tryz.func55,Tryz.ntmps55
 go_wp2
 go_loopw [3,4] (fun u i wr=>∃ (k n:Nat) (pq:Option Addr) (cp:Nat),u=.slice pq n cp∧i=.int .i64 k∧k≤l.length∧Hid (OwnT W.heap.size wr (.slice pq n cp) (T k))∧Hid (Below W.heap.size W wr)) (fun _ i _=>l.length - (intOf i).toNat)
 case atStart=>
  refine ⟨0,0,some ⟨W.heap.size,0,none⟩,0,rfl,rfl,Nat.zero_le _,hid ?_,hid ((Below.refl _ _).alloc (Nat.le_refl _) _)⟩
  rw [HT0.out]
  exact World.ownsRow_made W #[] 0 (Nat.le_refl _) (by decide) rfl
 case round=>
  obtain ⟨k,n,pq,cp,rfl,rfl,hk,HO,HX⟩:=hrel
  have HLK:=hid (HL.out k)
  by_cases hlt:k<l.length
  case neg=>
   obtain rfl:k=l.length:=by omega
   go_wp2_with (go_at_call 102;refine (between4_any [123] [125] pq n cp (T l.length) _ HO.out.zero (by have:=HLK.out;omega)).mono ?_;rintro e W1 ⟨p1,n1,c1,rfl,ho,hb⟩;have T1:=hid (ho.lower HX.out.size);have HX:=hid (bthen HX.out hb);clear hb ho)
   go_ret
   exact ⟨_,_,_,rfl,by rw [HTE.out];exact T1.out,HX.out⟩
  have hlt':(k:Int)<(l.length:Int):=by omega
  obtain ⟨q,off,px,cx,ps,cs,pl,cl,pe,ce,pp,cp2,pb,cb,rfl,hy⟩:=HC.out k hlt
  have HLP:=hid (HL2.out k hlt)
  have HE2:=HE.out k hlt
  have HN:=hid (HTN.out k hlt)
  generalize l[k]=y at *
  have HY:=hid hy
  have CE:=hid (fun (W9:World) (h:Below W.heap.size W W9)=>HE2 W9 _ (HY.out _ h).1)
  obtain ⟨x0,x1,x2,x3,x4,x5,x6,x7,x8⟩:=(hy _ HX.out).2
  generalize itemT y=E at *
  clear hy HE2
  go_wp2_with (first
   | (go_at_call 103;refine (CE.out _ HX.out).mono ?_;rintro e W1 ⟨p1,n1,c1,rfl,ho,hb⟩;have T1:=hid ho;have HO:=hid (HO.out.later hb);have HX:=hid (bthen HX.out hb);clear hb ho)
   | (at_builtin;refine wpList_append_toks rfl _ _ rfl W.heap.size _ (T k) E rfl HO.out _ _ rfl T1.out (by have:=HLK.out;have:=HLP.out;omega) HX.out.size ?_;intro p6 c6 N w6 hN hO hgr;have HO6:=hid hO;have HX6:=hid (Below.grown HX.out hgr HX.out.size (fun k hk=>HO.out.base k hk));clear hN hO hgr))
  go_roundw
  case rel=>exact ⟨k+1,_,p6,c6,rfl,by go_num,hlt,hid (by rw [HN.out];exact HO6.out),HX6⟩
  case measure=>simp [intOf];omega
theorem item4_const (name fo:Ln) (px ps pl pe pp pQ:Option Addr) (m3 d3 m4 d4 m5 d5 m6 d6 m7 d7 m8 d8:Nat) (x:List X) (s:List S) (l e:List It) (bp bb:List Bd) (W:World) (a:X) (hX:XsR W (.slice px 1 d3) [a]) (ha:Ex4 a) (la:(exprT a).length≤600000) :
  Calls Tryz.prog 103 #[.agg #[.int .i64 1,.string (bs name),.string (bs fo),.slice px 1 d3,.slice ps m4 d4,.slice pl m5 d5,.slice pe m6 d6,.slice pp m7 d7,.slice pQ m8 d8]] W (TkP W (itemT (.mk 1 name fo [a] s l e bp bb))):=by
 obtain ⟨q,oq,pa,ca,hpq,ya⟩:=atX (l:=[a]) hX (k:=0) (by simp)
 simp only [List.getElem_cons_zero,List.getElem_cons_succ,Nat.zero_mul,Nat.add_zero,Nat.one_mul,Nat.reduceMul] at ya
 have Ya:=hid ya
 have Ea:=hid (fun (W9:World) (h:Below W.heap.size W W9)=>ha W9 _ (ya W9 h).1)
 subst hpq
 have HL:=hid (show (exprT a).length≤600000 from la)
 have HT:=hid (show itemT (.mk 1 name fo [a] s l e bp bb)=List.flatten [[wdT [99,111,110,115,116]],[nmT (name)],[sgT [61]],exprT a,[sgT [59]]] by rw [itemT_eq];simp [itT,It.op,It.name,It.of,It.x,It.s,It.l,It.e,It.ps,It.bs,listT,sepS])
 clear hX ya ha la
 obtain ⟨V,hV,HX,HBX⟩:=bx9 W (.int .i64 1) (.string (bs name)) (.string (bs fo)) (.slice (some ⟨q,oq,none⟩) 1 d3) (.slice ps m4 d4) (.slice pl m5 d5) (.slice pe m6 d6) (.slice pp m7 d7) (.slice pQ m8 d8) 133
 obtain ⟨x0,x1,x2,x3,x4,x5,x6,x7,x8⟩:=HBX.out _ (Below.refl _ _)
 go_enter Tryz.func103,Tryz.ntmps103
 go_wp2_with fail
 rw [← hV]
 clear hV
 obtain ⟨G0,G1,G2,G3,G4,G5⟩:True∧True∧True∧True∧True∧True:=by simp
 have HS:=hid (St.start (Below.refl V.heap.size V).drew)
 go_region_held3 (fun w'=>(B9 w' W.heap.size (.int .i64 1) (.string (bs name)) (.string (bs fo)) (.slice (some ⟨q,oq,none⟩) 1 d3) (.slice ps m4 d4) (.slice pl m5 d5) (.slice pe m6 d6) (.slice pp m7 d7) (.slice pQ m8 d8))∧C6 w' q (oq) a pa ca)
  (first | exact ⟨HBX.out _ HS.out.1,(Ya.out _ (bthen HX.out HS.out.1)).2⟩ | exact ⟨HBX.out _ (HS.out.1.alloc HS.out.1.size _),(Ya.out _ (bthen HX.out (HS.out.1.alloc HS.out.1.size _))).2⟩ | go_keep)
  (first
   | (go_at_call 51;clear G0;refine (psh (word4_any [99,111,110,115,116] _) HS).mono ?_;rintro e V0 ⟨p0,n0,c0,rfl,HS⟩)
   | (go_at_call 52;clear G1;refine (psh (name4_any (name) _) HS).mono ?_;rintro e V1 ⟨p1,n1,c1,rfl,HS⟩)
   | (go_at_call 100;clear G2;refine (psh (sign4_any [61] _) HS).mono ?_;rintro e V2 ⟨p2,n2,c2,rfl,HS⟩)
   | (go_at_call 58;clear G3;refine (psh (Ea.out _ (HX.out.trans (HS.out.1.mono HX.out.size))) HS).mono ?_;rintro e V3 ⟨p3,n3,c3,rfl,HS⟩)
   | (go_at_call 100;clear G4;refine (psh (sign4_any [59] _) HS).mono ?_;rintro e V4 ⟨p4,n4,c4,rfl,HS⟩)
   | (go_at_call 50;clear G5;refine (psh (ts:=List.flatten [[wdT [99,111,110,115,116]],[nmT (name)],[sgT [61]],exprT a,[sgT [59]]]) (join5_any HS.out [(.slice p0 n0 c0,[wdT [99,111,110,115,116]]),(.slice p1 n1 c1,[nmT (name)]),(.slice p2 n2 c2,[sgT [61]]),(.slice p3 n3 c3,exprT a),(.slice p4 n4 c4,[sgT [59]])] (by simp) (by simp) (by have:=HL.out;simp [allT,inT];omega)) HS).mono ?_;rintro e V5 ⟨p5,n5,c5,rfl,HS⟩))
 go_wp2
 go_ret
 rw [HT.out]
 exact St.ret HX.out HS.out (by simp)
theorem item4_wire (name fo:Ln) (px ps pl pe pp pQ:Option Addr) (m3 d3 m4 d4 m5 d5 m6 d6 m7 d7 m8 d8:Nat) (x:List X) (s:List S) (l e:List It) (bp bb:List Bd) (W:World) (a:X) (hX:XsR W (.slice px 1 d3) [a]) (ha:Ex4 a) (la:(exprT a).length≤600000) :
  Calls Tryz.prog 103 #[.agg #[.int .i64 2,.string (bs name),.string (bs fo),.slice px 1 d3,.slice ps m4 d4,.slice pl m5 d5,.slice pe m6 d6,.slice pp m7 d7,.slice pQ m8 d8]] W (TkP W (itemT (.mk 2 name fo [a] s l e bp bb))):=by
 obtain ⟨q,oq,pa,ca,hpq,ya⟩:=atX (l:=[a]) hX (k:=0) (by simp)
 simp only [List.getElem_cons_zero,List.getElem_cons_succ,Nat.zero_mul,Nat.add_zero,Nat.one_mul,Nat.reduceMul] at ya
 have Ya:=hid ya
 have Ea:=hid (fun (W9:World) (h:Below W.heap.size W W9)=>ha W9 _ (ya W9 h).1)
 subst hpq
 have HL:=hid (show (exprT a).length≤600000 from la)
 have HT:=hid (show itemT (.mk 2 name fo [a] s l e bp bb)=List.flatten [[wdT [119,105,114,101]],[nmT (name)],[sgT [58]],exprT a,[sgT [59]]] by rw [itemT_eq];simp [itT,It.op,It.name,It.of,It.x,It.s,It.l,It.e,It.ps,It.bs,listT,sepS])
 clear hX ya ha la
 obtain ⟨V,hV,HX,HBX⟩:=bx9 W (.int .i64 2) (.string (bs name)) (.string (bs fo)) (.slice (some ⟨q,oq,none⟩) 1 d3) (.slice ps m4 d4) (.slice pl m5 d5) (.slice pe m6 d6) (.slice pp m7 d7) (.slice pQ m8 d8) 133
 obtain ⟨x0,x1,x2,x3,x4,x5,x6,x7,x8⟩:=HBX.out _ (Below.refl _ _)
 go_enter Tryz.func103,Tryz.ntmps103
 go_wp2_with fail
 rw [← hV]
 clear hV
 obtain ⟨G0,G1,G2,G3,G4,G5⟩:True∧True∧True∧True∧True∧True:=by simp
 have HS:=hid (St.start (Below.refl V.heap.size V).drew)
 go_region_held3 (fun w'=>(B9 w' W.heap.size (.int .i64 2) (.string (bs name)) (.string (bs fo)) (.slice (some ⟨q,oq,none⟩) 1 d3) (.slice ps m4 d4) (.slice pl m5 d5) (.slice pe m6 d6) (.slice pp m7 d7) (.slice pQ m8 d8))∧C6 w' q (oq) a pa ca)
  (first | exact ⟨HBX.out _ HS.out.1,(Ya.out _ (bthen HX.out HS.out.1)).2⟩ | exact ⟨HBX.out _ (HS.out.1.alloc HS.out.1.size _),(Ya.out _ (bthen HX.out (HS.out.1.alloc HS.out.1.size _))).2⟩ | go_keep)
  (first
   | (go_at_call 51;clear G0;refine (psh (word4_any [119,105,114,101] _) HS).mono ?_;rintro e V0 ⟨p0,n0,c0,rfl,HS⟩)
   | (go_at_call 52;clear G1;refine (psh (name4_any (name) _) HS).mono ?_;rintro e V1 ⟨p1,n1,c1,rfl,HS⟩)
   | (go_at_call 100;clear G2;refine (psh (sign4_any [58] _) HS).mono ?_;rintro e V2 ⟨p2,n2,c2,rfl,HS⟩)
   | (go_at_call 58;clear G3;refine (psh (Ea.out _ (HX.out.trans (HS.out.1.mono HX.out.size))) HS).mono ?_;rintro e V3 ⟨p3,n3,c3,rfl,HS⟩)
   | (go_at_call 100;clear G4;refine (psh (sign4_any [59] _) HS).mono ?_;rintro e V4 ⟨p4,n4,c4,rfl,HS⟩)
   | (go_at_call 50;clear G5;refine (psh (ts:=List.flatten [[wdT [119,105,114,101]],[nmT (name)],[sgT [58]],exprT a,[sgT [59]]]) (join5_any HS.out [(.slice p0 n0 c0,[wdT [119,105,114,101]]),(.slice p1 n1 c1,[nmT (name)]),(.slice p2 n2 c2,[sgT [58]]),(.slice p3 n3 c3,exprT a),(.slice p4 n4 c4,[sgT [59]])] (by simp) (by simp) (by have:=HL.out;simp [allT,inT];omega)) HS).mono ?_;rintro e V5 ⟨p5,n5,c5,rfl,HS⟩))
 go_wp2
 go_ret
 rw [HT.out]
 exact St.ret HX.out HS.out (by simp)
theorem item4_check (name fo:Ln) (px ps pl pe pp pQ:Option Addr) (m3 d3 m4 d4 m5 d5 m6 d6 m7 d7 m8 d8:Nat) (x:List X) (s:List S) (l e:List It) (bp bb:List Bd) (W:World) (a:X) (hX:XsR W (.slice px 1 d3) [a]) (ha:Ex4 a) (la:(exprT a).length≤600000) :
  Calls Tryz.prog 103 #[.agg #[.int .i64 10,.string (bs name),.string (bs fo),.slice px 1 d3,.slice ps m4 d4,.slice pl m5 d5,.slice pe m6 d6,.slice pp m7 d7,.slice pQ m8 d8]] W (TkP W (itemT (.mk 10 name fo [a] s l e bp bb))):=by
 obtain ⟨q,oq,pa,ca,hpq,ya⟩:=atX (l:=[a]) hX (k:=0) (by simp)
 simp only [List.getElem_cons_zero,List.getElem_cons_succ,Nat.zero_mul,Nat.add_zero,Nat.one_mul,Nat.reduceMul] at ya
 have Ya:=hid ya
 have Ea:=hid (fun (W9:World) (h:Below W.heap.size W W9)=>ha W9 _ (ya W9 h).1)
 subst hpq
 have HL:=hid (show (exprT a).length≤600000 from la)
 have HT:=hid (show itemT (.mk 10 name fo [a] s l e bp bb)=List.flatten [[wdT [99,104,101,99,107]],[nmT (name)],[sgT [58]],exprT a,[sgT [59]]] by rw [itemT_eq];simp [itT,It.op,It.name,It.of,It.x,It.s,It.l,It.e,It.ps,It.bs,listT,sepS])
 clear hX ya ha la
 obtain ⟨V,hV,HX,HBX⟩:=bx9 W (.int .i64 10) (.string (bs name)) (.string (bs fo)) (.slice (some ⟨q,oq,none⟩) 1 d3) (.slice ps m4 d4) (.slice pl m5 d5) (.slice pe m6 d6) (.slice pp m7 d7) (.slice pQ m8 d8) 133
 obtain ⟨x0,x1,x2,x3,x4,x5,x6,x7,x8⟩:=HBX.out _ (Below.refl _ _)
 go_enter Tryz.func103,Tryz.ntmps103
 go_wp2_with fail
 rw [← hV]
 clear hV
 obtain ⟨G0,G1,G2,G3,G4,G5⟩:True∧True∧True∧True∧True∧True:=by simp
 have HS:=hid (St.start (Below.refl V.heap.size V).drew)
 go_region_held3 (fun w'=>(B9 w' W.heap.size (.int .i64 10) (.string (bs name)) (.string (bs fo)) (.slice (some ⟨q,oq,none⟩) 1 d3) (.slice ps m4 d4) (.slice pl m5 d5) (.slice pe m6 d6) (.slice pp m7 d7) (.slice pQ m8 d8))∧C6 w' q (oq) a pa ca)
  (first | exact ⟨HBX.out _ HS.out.1,(Ya.out _ (bthen HX.out HS.out.1)).2⟩ | exact ⟨HBX.out _ (HS.out.1.alloc HS.out.1.size _),(Ya.out _ (bthen HX.out (HS.out.1.alloc HS.out.1.size _))).2⟩ | go_keep)
  (first
   | (go_at_call 51;clear G0;refine (psh (word4_any [99,104,101,99,107] _) HS).mono ?_;rintro e V0 ⟨p0,n0,c0,rfl,HS⟩)
   | (go_at_call 52;clear G1;refine (psh (name4_any (name) _) HS).mono ?_;rintro e V1 ⟨p1,n1,c1,rfl,HS⟩)
   | (go_at_call 100;clear G2;refine (psh (sign4_any [58] _) HS).mono ?_;rintro e V2 ⟨p2,n2,c2,rfl,HS⟩)
   | (go_at_call 58;clear G3;refine (psh (Ea.out _ (HX.out.trans (HS.out.1.mono HX.out.size))) HS).mono ?_;rintro e V3 ⟨p3,n3,c3,rfl,HS⟩)
   | (go_at_call 100;clear G4;refine (psh (sign4_any [59] _) HS).mono ?_;rintro e V4 ⟨p4,n4,c4,rfl,HS⟩)
   | (go_at_call 50;clear G5;refine (psh (ts:=List.flatten [[wdT [99,104,101,99,107]],[nmT (name)],[sgT [58]],exprT a,[sgT [59]]]) (join5_any HS.out [(.slice p0 n0 c0,[wdT [99,104,101,99,107]]),(.slice p1 n1 c1,[nmT (name)]),(.slice p2 n2 c2,[sgT [58]]),(.slice p3 n3 c3,exprT a),(.slice p4 n4 c4,[sgT [59]])] (by simp) (by simp) (by have:=HL.out;simp [allT,inT];omega)) HS).mono ?_;rintro e V5 ⟨p5,n5,c5,rfl,HS⟩))
 go_wp2
 go_ret
 rw [HT.out]
 exact St.ret HX.out HS.out (by simp)
theorem item4_reg (name fo:Ln) (px ps pl pe pp pQ:Option Addr) (m3 d3 m4 d4 m5 d5 m6 d6 m7 d7 m8 d8:Nat) (x:List X) (s:List S) (l e:List It) (bp bb:List Bd) (W:World) (a b:X) (hX:XsR W (.slice px 2 d3) [a,b]) (ha:Ex4 a) (la:(exprT a).length≤600000) (hb:Ex4 b) (lb:(exprT b).length≤600000) :
  Calls Tryz.prog 103 #[.agg #[.int .i64 3,.string (bs name),.string (bs fo),.slice px 2 d3,.slice ps m4 d4,.slice pl m5 d5,.slice pe m6 d6,.slice pp m7 d7,.slice pQ m8 d8]] W (TkP W (itemT (.mk 3 name fo [a,b] s l e bp bb))):=by
 obtain ⟨q,oq,pa,ca,hpq,ya⟩:=atX (l:=[a,b]) hX (k:=0) (by simp)
 simp only [List.getElem_cons_zero,List.getElem_cons_succ,Nat.zero_mul,Nat.add_zero,Nat.one_mul,Nat.reduceMul] at ya
 have Ya:=hid ya
 have Ea:=hid (fun (W9:World) (h:Below W.heap.size W W9)=>ha W9 _ (ya W9 h).1)
 obtain ⟨q1,oq1,pb,cb,hpq1,yb⟩:=atX (l:=[a,b]) hX (k:=1) (by simp)
 rw [hpq] at hpq1
 cases hpq1
 simp only [List.getElem_cons_zero,List.getElem_cons_succ,Nat.zero_mul,Nat.add_zero,Nat.one_mul,Nat.reduceMul] at yb
 have Yb:=hid yb
 have Eb:=hid (fun (W9:World) (h:Below W.heap.size W W9)=>hb W9 _ (yb W9 h).1)
 subst hpq
 have HL:=hid (show (exprT a).length≤600000∧(exprT b).length≤600000 from ⟨la,lb⟩)
 have HT:=hid (show itemT (.mk 3 name fo [a,b] s l e bp bb)=List.flatten [[wdT [114,101,103]],[nmT (name)],[sgT [58]],exprT a,[sgT [61]],exprT b,[sgT [59]]] by rw [itemT_eq];simp [itT,It.op,It.name,It.of,It.x,It.s,It.l,It.e,It.ps,It.bs,listT,sepS])
 clear hX ya ha la yb hb lb
 obtain ⟨V,hV,HX,HBX⟩:=bx9 W (.int .i64 3) (.string (bs name)) (.string (bs fo)) (.slice (some ⟨q,oq,none⟩) 2 d3) (.slice ps m4 d4) (.slice pl m5 d5) (.slice pe m6 d6) (.slice pp m7 d7) (.slice pQ m8 d8) 133
 obtain ⟨x0,x1,x2,x3,x4,x5,x6,x7,x8⟩:=HBX.out _ (Below.refl _ _)
 go_enter Tryz.func103,Tryz.ntmps103
 go_wp2_with fail
 rw [← hV]
 clear hV
 obtain ⟨G0,G1,G2,G3,G4,G5,G6,G7⟩:True∧True∧True∧True∧True∧True∧True∧True:=by simp
 have HS:=hid (St.start (Below.refl V.heap.size V).drew)
 go_region_held3 (fun w'=>(B9 w' W.heap.size (.int .i64 3) (.string (bs name)) (.string (bs fo)) (.slice (some ⟨q,oq,none⟩) 2 d3) (.slice ps m4 d4) (.slice pl m5 d5) (.slice pe m6 d6) (.slice pp m7 d7) (.slice pQ m8 d8))∧C6 w' q (oq) a pa ca∧C6 w' q (oq+6) b pb cb)
  (first | exact ⟨HBX.out _ HS.out.1,(Ya.out _ (bthen HX.out HS.out.1)).2,(Yb.out _ (bthen HX.out HS.out.1)).2⟩ | exact ⟨HBX.out _ (HS.out.1.alloc HS.out.1.size _),(Ya.out _ (bthen HX.out (HS.out.1.alloc HS.out.1.size _))).2,(Yb.out _ (bthen HX.out (HS.out.1.alloc HS.out.1.size _))).2⟩ | go_keep)
  (first
   | (go_at_call 51;clear G0;refine (psh (word4_any [114,101,103] _) HS).mono ?_;rintro e V0 ⟨p0,n0,c0,rfl,HS⟩)
   | (go_at_call 52;clear G1;refine (psh (name4_any (name) _) HS).mono ?_;rintro e V1 ⟨p1,n1,c1,rfl,HS⟩)
   | (go_at_call 100;clear G2;refine (psh (sign4_any [58] _) HS).mono ?_;rintro e V2 ⟨p2,n2,c2,rfl,HS⟩)
   | (go_at_call 58;clear G3;refine (psh (Ea.out _ (HX.out.trans (HS.out.1.mono HX.out.size))) HS).mono ?_;rintro e V3 ⟨p3,n3,c3,rfl,HS⟩)
   | (go_at_call 100;clear G4;refine (psh (sign4_any [61] _) HS).mono ?_;rintro e V4 ⟨p4,n4,c4,rfl,HS⟩)
   | (go_at_call 58;clear G5;refine (psh (Eb.out _ (HX.out.trans (HS.out.1.mono HX.out.size))) HS).mono ?_;rintro e V5 ⟨p5,n5,c5,rfl,HS⟩)
   | (go_at_call 100;clear G6;refine (psh (sign4_any [59] _) HS).mono ?_;rintro e V6 ⟨p6,n6,c6,rfl,HS⟩)
   | (go_at_call 50;clear G7;refine (psh (ts:=List.flatten [[wdT [114,101,103]],[nmT (name)],[sgT [58]],exprT a,[sgT [61]],exprT b,[sgT [59]]]) (join5_any HS.out [(.slice p0 n0 c0,[wdT [114,101,103]]),(.slice p1 n1 c1,[nmT (name)]),(.slice p2 n2 c2,[sgT [58]]),(.slice p3 n3 c3,exprT a),(.slice p4 n4 c4,[sgT [61]]),(.slice p5 n5 c5,exprT b),(.slice p6 n6 c6,[sgT [59]])] (by simp) (by simp) (by have:=HL.out;simp [allT,inT];omega)) HS).mono ?_;rintro e V7 ⟨p7,n7,c7,rfl,HS⟩))
 go_wp2
 go_ret
 rw [HT.out]
 exact St.ret HX.out HS.out (by simp)
theorem item4_assign (name fo:Ln) (px ps pl pe pp pQ:Option Addr) (m3 d3 m4 d4 m5 d5 m6 d6 m7 d7 m8 d8:Nat) (x:List X) (s:List S) (l e:List It) (bp bb:List Bd) (W:World) (a b:X) (hX:XsR W (.slice px 2 d3) [a,b]) (ha:Ex4 a) (la:(exprT a).length≤600000) (hb:Ex4 b) (lb:(exprT b).length≤600000) :
  Calls Tryz.prog 103 #[.agg #[.int .i64 4,.string (bs name),.string (bs fo),.slice px 2 d3,.slice ps m4 d4,.slice pl m5 d5,.slice pe m6 d6,.slice pp m7 d7,.slice pQ m8 d8]] W (TkP W (itemT (.mk 4 name fo [a,b] s l e bp bb))):=by
 obtain ⟨q,oq,pa,ca,hpq,ya⟩:=atX (l:=[a,b]) hX (k:=0) (by simp)
 simp only [List.getElem_cons_zero,List.getElem_cons_succ,Nat.zero_mul,Nat.add_zero,Nat.one_mul,Nat.reduceMul] at ya
 have Ya:=hid ya
 have Ea:=hid (fun (W9:World) (h:Below W.heap.size W W9)=>ha W9 _ (ya W9 h).1)
 obtain ⟨q1,oq1,pb,cb,hpq1,yb⟩:=atX (l:=[a,b]) hX (k:=1) (by simp)
 rw [hpq] at hpq1
 cases hpq1
 simp only [List.getElem_cons_zero,List.getElem_cons_succ,Nat.zero_mul,Nat.add_zero,Nat.one_mul,Nat.reduceMul] at yb
 have Yb:=hid yb
 have Eb:=hid (fun (W9:World) (h:Below W.heap.size W W9)=>hb W9 _ (yb W9 h).1)
 subst hpq
 have HL:=hid (show (exprT a).length≤600000∧(exprT b).length≤600000 from ⟨la,lb⟩)
 have HT:=hid (show itemT (.mk 4 name fo [a,b] s l e bp bb)=List.flatten [[wdT [97,115,115,105,103,110]],exprT a,[sgT [61]],exprT b,[sgT [59]]] by rw [itemT_eq];simp [itT,It.op,It.name,It.of,It.x,It.s,It.l,It.e,It.ps,It.bs,listT,sepS])
 clear hX ya ha la yb hb lb
 obtain ⟨V,hV,HX,HBX⟩:=bx9 W (.int .i64 4) (.string (bs name)) (.string (bs fo)) (.slice (some ⟨q,oq,none⟩) 2 d3) (.slice ps m4 d4) (.slice pl m5 d5) (.slice pe m6 d6) (.slice pp m7 d7) (.slice pQ m8 d8) 133
 obtain ⟨x0,x1,x2,x3,x4,x5,x6,x7,x8⟩:=HBX.out _ (Below.refl _ _)
 go_enter Tryz.func103,Tryz.ntmps103
 go_wp2_with fail
 rw [← hV]
 clear hV
 obtain ⟨G0,G1,G2,G3,G4,G5⟩:True∧True∧True∧True∧True∧True:=by simp
 have HS:=hid (St.start (Below.refl V.heap.size V).drew)
 go_region_held3 (fun w'=>(B9 w' W.heap.size (.int .i64 4) (.string (bs name)) (.string (bs fo)) (.slice (some ⟨q,oq,none⟩) 2 d3) (.slice ps m4 d4) (.slice pl m5 d5) (.slice pe m6 d6) (.slice pp m7 d7) (.slice pQ m8 d8))∧C6 w' q (oq) a pa ca∧C6 w' q (oq+6) b pb cb)
  (first | exact ⟨HBX.out _ HS.out.1,(Ya.out _ (bthen HX.out HS.out.1)).2,(Yb.out _ (bthen HX.out HS.out.1)).2⟩ | exact ⟨HBX.out _ (HS.out.1.alloc HS.out.1.size _),(Ya.out _ (bthen HX.out (HS.out.1.alloc HS.out.1.size _))).2,(Yb.out _ (bthen HX.out (HS.out.1.alloc HS.out.1.size _))).2⟩ | go_keep)
  (first
   | (go_at_call 51;clear G0;refine (psh (word4_any [97,115,115,105,103,110] _) HS).mono ?_;rintro e V0 ⟨p0,n0,c0,rfl,HS⟩)
   | (go_at_call 58;clear G1;refine (psh (Ea.out _ (HX.out.trans (HS.out.1.mono HX.out.size))) HS).mono ?_;rintro e V1 ⟨p1,n1,c1,rfl,HS⟩)
   | (go_at_call 100;clear G2;refine (psh (sign4_any [61] _) HS).mono ?_;rintro e V2 ⟨p2,n2,c2,rfl,HS⟩)
   | (go_at_call 58;clear G3;refine (psh (Eb.out _ (HX.out.trans (HS.out.1.mono HX.out.size))) HS).mono ?_;rintro e V3 ⟨p3,n3,c3,rfl,HS⟩)
   | (go_at_call 100;clear G4;refine (psh (sign4_any [59] _) HS).mono ?_;rintro e V4 ⟨p4,n4,c4,rfl,HS⟩)
   | (go_at_call 50;clear G5;refine (psh (ts:=List.flatten [[wdT [97,115,115,105,103,110]],exprT a,[sgT [61]],exprT b,[sgT [59]]]) (join5_any HS.out [(.slice p0 n0 c0,[wdT [97,115,115,105,103,110]]),(.slice p1 n1 c1,exprT a),(.slice p2 n2 c2,[sgT [61]]),(.slice p3 n3 c3,exprT b),(.slice p4 n4 c4,[sgT [59]])] (by simp) (by simp) (by have:=HL.out;simp [allT,inT];omega)) HS).mono ?_;rintro e V5 ⟨p5,n5,c5,rfl,HS⟩))
 go_wp2
 go_ret
 rw [HT.out]
 exact St.ret HX.out HS.out (by simp)
end Go.Proofs.YtlcfpdmicpggbaaGreatDoor
namespace Go.Proofs.YtlcfpdmicpggbaaGreatDoor
open Go.Lib (hid)
open Go.RowKit Go.Proofs.Spl Go.Proofs.Scn Go.Shelf
theorem item4_tick (name fo:Ln) (px ps pl pe pp pQ:Option Addr) (m3 d3 m4 d4 m5 d5 m6 d6 m7 d7 m8 d8:Nat) (x:List X) (s:List S) (l e:List It) (bp bb:List Bd) (W:World) (B:List Tok) (hB:B=blockT [60,61] s) (lB:B.length≤1300000) (cB:∀ W9,Below W.heap.size W W9→Calls Tryz.prog 126 #[.slice ps m4 d4,.bool true] W9 (TkP W9 B)) :
  Calls Tryz.prog 103 #[.agg #[.int .i64 6,.string (bs name),.string (bs fo),.slice px m3 d3,.slice ps m4 d4,.slice pl m5 d5,.slice pe m6 d6,.slice pp m7 d7,.slice pQ m8 d8]] W (TkP W (itemT (.mk 6 name fo x s l e bp bb))):=by
 have HS1:=hid cB
 have HL:=hid (show (B).length≤1300000 from lB)
 have HT:=hid (show itemT (.mk 6 name fo x s l e bp bb)=List.flatten [[wdT [111,110]],[wdT [116,105,99,107]],B] by rw [hB];rw [itemT_eq];simp [itT,It.op,It.name,It.of,It.x,It.s,It.l,It.e,It.ps,It.bs,listT,sepS])
 clear cB lB
 obtain ⟨V,hV,HX,HBX⟩:=bx9 W (.int .i64 6) (.string (bs name)) (.string (bs fo)) (.slice px m3 d3) (.slice ps m4 d4) (.slice pl m5 d5) (.slice pe m6 d6) (.slice pp m7 d7) (.slice pQ m8 d8) 133
 obtain ⟨x0,x1,x2,x3,x4,x5,x6,x7,x8⟩:=HBX.out _ (Below.refl _ _)
 go_enter Tryz.func103,Tryz.ntmps103
 go_wp2_with fail
 rw [← hV]
 clear hV
 obtain ⟨G0,G1,G2,G3⟩:True∧True∧True∧True:=by simp
 have HS:=hid (St.start (Below.refl V.heap.size V).drew)
 go_region_held3 (fun w'=>B9 w' W.heap.size (.int .i64 6) (.string (bs name)) (.string (bs fo)) (.slice px m3 d3) (.slice ps m4 d4) (.slice pl m5 d5) (.slice pe m6 d6) (.slice pp m7 d7) (.slice pQ m8 d8))
  (first | exact HBX.out _ HS.out.1 | exact HBX.out _ (HS.out.1.alloc HS.out.1.size _) | go_keep)
  (first
   | (go_at_call 51;clear G0;refine (psh (word4_any [111,110] _) HS).mono ?_;rintro e V0 ⟨p0,n0,c0,rfl,HS⟩)
   | (go_at_call 51;clear G1;refine (psh (word4_any [116,105,99,107] _) HS).mono ?_;rintro e V1 ⟨p1,n1,c1,rfl,HS⟩)
   | (go_at_call 126;clear G2;refine (psh (HS1.out _ (HX.out.trans (HS.out.1.mono HX.out.size))) HS).mono ?_;rintro e V2 ⟨p2,n2,c2,rfl,HS⟩)
   | (go_at_call 50;clear G3;refine (psh (ts:=List.flatten [[wdT [111,110]],[wdT [116,105,99,107]],B]) (join5_any HS.out [(.slice p0 n0 c0,[wdT [111,110]]),(.slice p1 n1 c1,[wdT [116,105,99,107]]),(.slice p2 n2 c2,B)] (by simp) (by simp) (by have:=HL.out;simp [allT,inT];omega)) HS).mono ?_;rintro e V3 ⟨p3,n3,c3,rfl,HS⟩))
 go_wp2
 go_ret
 rw [HT.out]
 exact St.ret HX.out HS.out (by simp)
theorem item4_inst (name fo:Ln) (px ps pl pe pp pQ:Option Addr) (m3 d3 m4 d4 m5 d5 m6 d6 m7 d7 m8 d8:Nat) (x:List X) (s:List S) (l e:List It) (bp bb:List Bd) (W:World) (P B:List Tok) (hP:P=paramsT bp) (hB:B=bindsT bb) (lP:P.length≤1300000) (lB:B.length≤1300000) (cP:∀ W9,Below W.heap.size W W9→Calls Tryz.prog 53 #[.slice pp m7 d7] W9 (TkP W9 P)) (cB:∀ W9,Below W.heap.size W W9→Calls Tryz.prog 101 #[.slice pQ m8 d8] W9 (TkP W9 B)) :
  Calls Tryz.prog 103 #[.agg #[.int .i64 7,.string (bs name),.string (bs fo),.slice px m3 d3,.slice ps m4 d4,.slice pl m5 d5,.slice pe m6 d6,.slice pp m7 d7,.slice pQ m8 d8]] W (TkP W (itemT (.mk 7 name fo x s l e bp bb))):=by
 have HP:=hid cP
 have HQ:=hid cB
 have HL:=hid (show (P).length≤1300000∧(B).length≤1300000 from ⟨lP,lB⟩)
 have HT:=hid (show itemT (.mk 7 name fo x s l e bp bb)=List.flatten [[wdT [105,110,115,116]],[nmT (name)],[sgT [58]],[nmT (fo)],P,B,[sgT [59]]] by rw [hP,hB];rw [itemT_eq];simp [itT,It.op,It.name,It.of,It.x,It.s,It.l,It.e,It.ps,It.bs,listT,sepS])
 clear cP cB lP lB
 obtain ⟨V,hV,HX,HBX⟩:=bx9 W (.int .i64 7) (.string (bs name)) (.string (bs fo)) (.slice px m3 d3) (.slice ps m4 d4) (.slice pl m5 d5) (.slice pe m6 d6) (.slice pp m7 d7) (.slice pQ m8 d8) 133
 obtain ⟨x0,x1,x2,x3,x4,x5,x6,x7,x8⟩:=HBX.out _ (Below.refl _ _)
 go_enter Tryz.func103,Tryz.ntmps103
 go_wp2_with fail
 rw [← hV]
 clear hV
 obtain ⟨G0,G1,G2,G3,G4,G5,G6,G7⟩:True∧True∧True∧True∧True∧True∧True∧True:=by simp
 have HS:=hid (St.start (Below.refl V.heap.size V).drew)
 go_region_held3 (fun w'=>B9 w' W.heap.size (.int .i64 7) (.string (bs name)) (.string (bs fo)) (.slice px m3 d3) (.slice ps m4 d4) (.slice pl m5 d5) (.slice pe m6 d6) (.slice pp m7 d7) (.slice pQ m8 d8))
  (first | exact HBX.out _ HS.out.1 | exact HBX.out _ (HS.out.1.alloc HS.out.1.size _) | go_keep)
  (first
   | (go_at_call 51;clear G0;refine (psh (word4_any [105,110,115,116] _) HS).mono ?_;rintro e V0 ⟨p0,n0,c0,rfl,HS⟩)
   | (go_at_call 52;clear G1;refine (psh (name4_any (name) _) HS).mono ?_;rintro e V1 ⟨p1,n1,c1,rfl,HS⟩)
   | (go_at_call 100;clear G2;refine (psh (sign4_any [58] _) HS).mono ?_;rintro e V2 ⟨p2,n2,c2,rfl,HS⟩)
   | (go_at_call 52;clear G3;refine (psh (name4_any (fo) _) HS).mono ?_;rintro e V3 ⟨p3,n3,c3,rfl,HS⟩)
   | (go_at_call 53;clear G4;refine (psh (HP.out _ (HX.out.trans (HS.out.1.mono HX.out.size))) HS).mono ?_;rintro e V4 ⟨p4,n4,c4,rfl,HS⟩)
   | (go_at_call 101;clear G5;refine (psh (HQ.out _ (HX.out.trans (HS.out.1.mono HX.out.size))) HS).mono ?_;rintro e V5 ⟨p5,n5,c5,rfl,HS⟩)
   | (go_at_call 100;clear G6;refine (psh (sign4_any [59] _) HS).mono ?_;rintro e V6 ⟨p6,n6,c6,rfl,HS⟩)
   | (go_at_call 50;clear G7;refine (psh (ts:=List.flatten [[wdT [105,110,115,116]],[nmT (name)],[sgT [58]],[nmT (fo)],P,B,[sgT [59]]]) (join5_any HS.out [(.slice p0 n0 c0,[wdT [105,110,115,116]]),(.slice p1 n1 c1,[nmT (name)]),(.slice p2 n2 c2,[sgT [58]]),(.slice p3 n3 c3,[nmT (fo)]),(.slice p4 n4 c4,P),(.slice p5 n5 c5,B),(.slice p6 n6 c6,[sgT [59]])] (by simp) (by simp) (by have:=HL.out;simp [allT,inT];omega)) HS).mono ?_;rintro e V7 ⟨p7,n7,c7,rfl,HS⟩))
 go_wp2
 go_ret
 rw [HT.out]
 exact St.ret HX.out HS.out (by simp)
theorem item4_for (name fo:Ln) (px ps pl pe pp pQ:Option Addr) (m3 d3 m4 d4 m5 d5 m6 d6 m7 d7 m8 d8:Nat) (x:List X) (s:List S) (l e:List It) (bp bb:List Bd) (W:World) (P B:List Tok) (hP:P=spanT fo x) (hB:B=cubT (l.map itemT).flatten) (lP:P.length≤1300000) (lB:B.length≤1300000) (cP:∀ W9,Below W.heap.size W W9→Calls Tryz.prog 125 #[.string (bs fo),.slice px m3 d3] W9 (TkP W9 P)) (cB:∀ W9,Below W.heap.size W W9→Calls Tryz.prog 55 #[.slice pl m5 d5] W9 (TkP W9 B)) :
  Calls Tryz.prog 103 #[.agg #[.int .i64 9,.string (bs name),.string (bs fo),.slice px m3 d3,.slice ps m4 d4,.slice pl m5 d5,.slice pe m6 d6,.slice pp m7 d7,.slice pQ m8 d8]] W (TkP W (itemT (.mk 9 name fo x s l e bp bb))):=by
 have HP:=hid cP
 have HQ:=hid cB
 have HL:=hid (show (P).length≤1300000∧(B).length≤1300000 from ⟨lP,lB⟩)
 have HT:=hid (show itemT (.mk 9 name fo x s l e bp bb)=List.flatten [[wdT [102,111,114]],[nmT (name)],P,B] by rw [hP,hB];rw [itemT_eq];simp [itT,It.op,It.name,It.of,It.x,It.s,It.l,It.e,It.ps,It.bs,listT,sepS,forW])
 clear cP cB lP lB
 obtain ⟨V,hV,HX,HBX⟩:=bx9 W (.int .i64 9) (.string (bs name)) (.string (bs fo)) (.slice px m3 d3) (.slice ps m4 d4) (.slice pl m5 d5) (.slice pe m6 d6) (.slice pp m7 d7) (.slice pQ m8 d8) 133
 obtain ⟨x0,x1,x2,x3,x4,x5,x6,x7,x8⟩:=HBX.out _ (Below.refl _ _)
 go_enter Tryz.func103,Tryz.ntmps103
 go_wp2_with fail
 rw [← hV]
 clear hV
 obtain ⟨G0,G1,G2,G3,G4⟩:True∧True∧True∧True∧True:=by simp
 have HS:=hid (St.start (Below.refl V.heap.size V).drew)
 go_region_held3 (fun w'=>B9 w' W.heap.size (.int .i64 9) (.string (bs name)) (.string (bs fo)) (.slice px m3 d3) (.slice ps m4 d4) (.slice pl m5 d5) (.slice pe m6 d6) (.slice pp m7 d7) (.slice pQ m8 d8))
  (first | exact HBX.out _ HS.out.1 | exact HBX.out _ (HS.out.1.alloc HS.out.1.size _) | go_keep)
  (first
   | (go_at_call 51;clear G0;refine (psh (word4_any [102,111,114] _) HS).mono ?_;rintro e V0 ⟨p0,n0,c0,rfl,HS⟩)
   | (go_at_call 52;clear G1;refine (psh (name4_any (name) _) HS).mono ?_;rintro e V1 ⟨p1,n1,c1,rfl,HS⟩)
   | (go_at_call 125;clear G2;refine (psh (HP.out _ (HX.out.trans (HS.out.1.mono HX.out.size))) HS).mono ?_;rintro e V2 ⟨p2,n2,c2,rfl,HS⟩)
   | (go_at_call 55;clear G3;refine (psh (HQ.out _ (HX.out.trans (HS.out.1.mono HX.out.size))) HS).mono ?_;rintro e V3 ⟨p3,n3,c3,rfl,HS⟩)
   | (go_at_call 50;clear G4;refine (psh (ts:=List.flatten [[wdT [102,111,114]],[nmT (name)],P,B]) (join5_any HS.out [(.slice p0 n0 c0,[wdT [102,111,114]]),(.slice p1 n1 c1,[nmT (name)]),(.slice p2 n2 c2,P),(.slice p3 n3 c3,B)] (by simp) (by simp) (by have:=HL.out;simp [allT,inT];omega)) HS).mono ?_;rintro e V4 ⟨p4,n4,c4,rfl,HS⟩))
 go_wp2
 go_ret
 rw [HT.out]
 exact St.ret HX.out HS.out (by simp)
theorem item4_comb (name fo:Ln) (px ps pl pe pp pQ:Option Addr) (m3 d3 m4 d4 m5 d5 m6 d6 m7 d7 m8 d8:Nat) (x:List X) (s:List S) (l e:List It) (bp bb:List Bd) (W:World) (B:List Tok) (hB:B=blockT [61] s) (lB:B.length≤1300000) (cB:∀ W9,Below W.heap.size W W9→Calls Tryz.prog 126 #[.slice ps m4 d4,.bool false] W9 (TkP W9 B)) :
  Calls Tryz.prog 103 #[.agg #[.int .i64 5,.string (bs name),.string (bs fo),.slice px m3 d3,.slice ps m4 d4,.slice pl m5 d5,.slice pe m6 d6,.slice pp m7 d7,.slice pQ m8 d8]] W (TkP W (itemT (.mk 5 name fo x s l e bp bb))):=by
 have HS1:=hid cB
 have HL:=hid lB
 have HT:=hid (show itemT (.mk 5 name fo x s l e bp bb)=List.flatten [[wdT [99,111,109,98]],B] by rw [hB];rw [itemT_eq];simp [itT,It.op,It.name,It.of,It.x,It.s,It.l,It.e,It.ps,It.bs,listT,sepS])
 clear cB lB hB
 obtain ⟨V,hV,HX,HBX⟩:=bx9 W (.int .i64 5) (.string (bs name)) (.string (bs fo)) (.slice px m3 d3) (.slice ps m4 d4) (.slice pl m5 d5) (.slice pe m6 d6) (.slice pp m7 d7) (.slice pQ m8 d8) 133
 obtain ⟨x0,x1,x2,x3,x4,x5,x6,x7,x8⟩:=HBX.out _ (Below.refl _ _)
 go_enter Tryz.func103,Tryz.ntmps103
 go_wp2_with fail
 rw [← hV]
 clear hV
 obtain ⟨G0,G1,G2⟩:True∧True∧True:=by simp
 have HS:=hid (St.start (Below.refl V.heap.size V).drew)
 go_region_held3 (fun w'=>B9 w' W.heap.size (.int .i64 5) (.string (bs name)) (.string (bs fo)) (.slice px m3 d3) (.slice ps m4 d4) (.slice pl m5 d5) (.slice pe m6 d6) (.slice pp m7 d7) (.slice pQ m8 d8))
  (first | exact HBX.out _ HS.out.1 | exact HBX.out _ (HS.out.1.alloc HS.out.1.size _) | go_keep)
  (first
   | (go_at_call 51;clear G0;refine (psh (word4_any [99,111,109,98] _) HS).mono ?_;rintro e V0 ⟨p0,n0,c0,rfl,HS⟩)
   | (go_at_call 126;clear G1;refine (psh (HS1.out _ (HX.out.trans (HS.out.1.mono HX.out.size))) HS).mono ?_;rintro e V1 ⟨p1,n1,c1,rfl,HS⟩)
   | (go_at_call 50;clear G2;refine (psh (ts:=List.flatten [[wdT [99,111,109,98]],B]) (join5_any HS.out [(.slice p0 n0 c0,[wdT [99,111,109,98]]),(.slice p1 n1 c1,B)] (by simp) (by simp) (by have:=HL.out;simp [allT,inT];omega)) HS).mono ?_;rintro e V2 ⟨p2,n2,c2,rfl,HS⟩))
 go_wp2
 go_ret
 rw [HT.out]
 exact St.ret HX.out HS.out (by simp)
theorem item4_if (name fo:Ln) (px ps pl pe pp pQ:Option Addr) (m3 d3 m4 d4 m5 d5 m6 d6 m7 d7 m8 d8:Nat) (x:List X) (s:List S) (l e:List It) (bp bb:List Bd) (W:World) (a:X) (hX:XsR W (.slice px 1 d3) [a]) (ha:Ex4 a) (la:(exprT a).length≤600000) (P B:List Tok) (hP:P=cubT (l.map itemT).flatten) (hB:B=cubT (e.map itemT).flatten) (lP:P.length≤1300000) (lB:B.length≤1300000) (hm:m6=e.length) (cP:∀ W9,Below W.heap.size W W9→Calls Tryz.prog 55 #[.slice pl m5 d5] W9 (TkP W9 P)) (cB:∀ W9,Below W.heap.size W W9→Calls Tryz.prog 55 #[.slice pe m6 d6] W9 (TkP W9 B)) :
  Calls Tryz.prog 103 #[.agg #[.int .i64 8,.string (bs name),.string (bs fo),.slice px 1 d3,.slice ps m4 d4,.slice pl m5 d5,.slice pe m6 d6,.slice pp m7 d7,.slice pQ m8 d8]] W (TkP W (itemT (.mk 8 name fo [a] s l e bp bb))):=by
 obtain ⟨q,oq,pa,ca,hpq,ya⟩:=atX (l:=[a]) hX (k:=0) (by simp)
 simp only [List.getElem_cons_zero,List.getElem_cons_succ,Nat.zero_mul,Nat.add_zero,Nat.one_mul,Nat.reduceMul] at ya
 have Ya:=hid ya
 have Ea:=hid (fun (W9:World) (h:Below W.heap.size W W9)=>ha W9 _ (ya W9 h).1)
 subst hpq
 have HP:=hid cP
 have HQ:=hid cB
 have HL:=hid (show (exprT a).length≤600000∧P.length≤1300000∧B.length≤1300000 from ⟨la,lP,lB⟩)
 have e0:itemT (.mk 8 name fo [a] s l e bp bb)=wdT ifW :: (parT (exprT a) ++ (P ++ (if e=[] then [] else wdT elseW :: B))):=by rw [hP,hB];rw [itemT_eq];simp [itT,It.op,It.name,It.of,It.x,It.s,It.l,It.e,It.ps,It.bs,listT,sepS]
 generalize itemT (.mk 8 name fo [a] s l e bp bb)=TT at *
 have hc:((0:Int)<(m6:Int)∧TT=List.flatten [List.flatten [[wdT [105,102]],inT 40 41 (exprT a),P],[wdT [101,108,115,101]],B])∨(¬ (0:Int)<(m6:Int)∧TT=List.flatten [[wdT [105,102]],inT 40 41 (exprT a),P]):=by
  by_cases h2:e=[]
  ·exact .inr ⟨by rw [hm,h2];simp,by rw [e0,if_pos h2];simp [parT,ifW]⟩
  ·exact .inl ⟨by rw [hm];cases e with | nil=>exact absurd rfl h2 | cons a r=>simp,by rw [e0,if_neg h2];simp [parT,ifW,elseW]⟩
 clear hX ya ha la hP hB lP lB cP cB e0 hm
 obtain ⟨V,hV,HX,HBX⟩:=bx9 W (.int .i64 8) (.string (bs name)) (.string (bs fo)) (.slice (some ⟨q,oq,none⟩) 1 d3) (.slice ps m4 d4) (.slice pl m5 d5) (.slice pe m6 d6) (.slice pp m7 d7) (.slice pQ m8 d8) 133
 obtain ⟨x0,x1,x2,x3,x4,x5,x6,x7,x8⟩:=HBX.out _ (Below.refl _ _)
 go_enter Tryz.func103,Tryz.ntmps103
 go_wp2_with fail
 rw [← hV]
 clear hV
 obtain ⟨G0,G1,G2,G3,G4⟩:True∧True∧True∧True∧True:=by simp
 have HS:=hid (St.start (Below.refl V.heap.size V).drew)
 go_region_held3 (fun w'=>(B9 w' W.heap.size (.int .i64 8) (.string (bs name)) (.string (bs fo)) (.slice (some ⟨q,oq,none⟩) 1 d3) (.slice ps m4 d4) (.slice pl m5 d5) (.slice pe m6 d6) (.slice pp m7 d7) (.slice pQ m8 d8))∧C6 w' q (oq) a pa ca)
  (first | exact ⟨HBX.out _ HS.out.1,(Ya.out _ (bthen HX.out HS.out.1)).2⟩ | exact ⟨HBX.out _ (HS.out.1.alloc HS.out.1.size _),(Ya.out _ (bthen HX.out (HS.out.1.alloc HS.out.1.size _))).2⟩ | go_keep)
  (first
   | (go_at_call 51;clear G0;refine (psh (word4_any [105,102] _) HS).mono ?_;rintro e V0 ⟨p0,n0,c0,rfl,HS⟩)
   | (go_at_call 58;clear G1;refine (psh (Ea.out _ (HX.out.trans (HS.out.1.mono HX.out.size))) HS).mono ?_;rintro e V1 ⟨p1,n1,c1,rfl,HS⟩)
   | (go_at_call 102;clear G2;refine (psh (between5_any HS.out 40 41 p1 n1 c1 (exprT a) (by simp) (by have:=HL.out;simp [inT];omega)) HS).mono ?_;rintro e V2 ⟨p2,n2,c2,rfl,HS⟩)
   | (go_at_call 55;clear G3;refine (psh (HP.out _ (HX.out.trans (HS.out.1.mono HX.out.size))) HS).mono ?_;rintro e V3 ⟨p3,n3,c3,rfl,HS⟩)
   | (go_at_call 50;clear G4;refine (psh (ts:=List.flatten [[wdT [105,102]],inT 40 41 (exprT a),P]) (join5_any HS.out [(.slice p0 n0 c0,[wdT [105,102]]),(.slice p2 n2 c2,inT 40 41 (exprT a)),(.slice p3 n3 c3,P)] (by simp) (by simp) (by have:=HL.out;simp [allT,inT];omega)) HS).mono ?_;rintro e V4 ⟨p4,n4,c4,rfl,HS⟩))
 obtain ⟨x0,x1,x2,x3,x4,x5,x6,x7,x8⟩:=HBX.out _ HS.out.1
 rcases hc with ⟨h1,HT⟩ | ⟨h1,HT⟩
 all_goals have HT:=hid HT
 ·go_wp2_with fail
  obtain ⟨Gb0,Gb1,Gb2⟩:True∧True∧True:=by simp
  have HS:=hid (HS.out.next (Below.refl _ _).drew)
  go_region_held3 (fun w'=>B9 w' W.heap.size (.int .i64 8) (.string (bs name)) (.string (bs fo)) (.slice (some ⟨q,oq,none⟩) 1 d3) (.slice ps m4 d4) (.slice pl m5 d5) (.slice pe m6 d6) (.slice pp m7 d7) (.slice pQ m8 d8))
   (first | exact HBX.out _ HS.out.1 | exact HBX.out _ (HS.out.1.alloc HS.out.1.size _) | go_keep)
   (first
    | (go_at_call 51;clear Gb0;refine (psh (word4_any [101,108,115,101] _) HS).mono ?_;rintro e Vb0 ⟨pb0,nb0,cb0,rfl,HS⟩)
    | (go_at_call 55;clear Gb1;refine (psh (HQ.out _ (HX.out.trans (HS.out.1.mono HX.out.size))) HS).mono ?_;rintro e Vb1 ⟨pb1,nb1,cb1,rfl,HS⟩)
    | (go_at_call 50;clear Gb2;refine (psh (ts:=List.flatten [List.flatten [[wdT [105,102]],inT 40 41 (exprT a),P],[wdT [101,108,115,101]],B]) (join5_any HS.out [(.slice p4 n4 c4,List.flatten [[wdT [105,102]],inT 40 41 (exprT a),P]),(.slice pb0 nb0 cb0,[wdT [101,108,115,101]]),(.slice pb1 nb1 cb1,B)] (by simp) (by simp) (by have:=HL.out;simp [allT,inT];omega)) HS).mono ?_;rintro e Vb2 ⟨pb2,nb2,cb2,rfl,HS⟩))
  go_wp2
  go_ret
  rw [HT.out]
  exact St.ret HX.out HS.out (by simp)
 go_wp2
 go_ret
 rw [HT.out]
 exact St.ret HX.out HS.out (by simp)
end Go.Proofs.YtlcfpdmicpggbaaGreatDoor
