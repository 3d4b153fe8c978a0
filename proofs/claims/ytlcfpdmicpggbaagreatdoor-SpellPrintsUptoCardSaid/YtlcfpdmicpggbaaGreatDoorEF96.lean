/- Texts of the seat, merged. -/
import Derived.Test.YtlcfpdmicpggbaaGreatDoorEF95
set_option linter.unusedVariables false
set_option linter.unusedSimpArgs false
set_option maxRecDepth 100000
set_option maxHeartbeats 16000000
namespace Go.Proofs.YtlcfpdmicpggbaaGreatDoor
open Go.Lib (hid)
open Go.RowKit Go.Proofs.Spl Go.Proofs.Scn Go.Shelf
theorem sumI_le (l:List It) (h:sumN sizeI l≤65536):sumN (fun x=>(itemT x).length+1) l≤1200000:=by
 have h1:sumN (fun x=>(itemT x).length+1) l≤sumN (fun x=>17 * sizeI x) l:=sumN_le fun y _=>by have:=item_len y;have:=one_sizeI y;omega
 rw [sumN_mul] at h1
 omega
theorem sumB_le (l:List Bd) (h:sumN sizeB l≤65536):sumN (fun x=>(bindT x).length+1) l≤600000:=by
 have h1:sumN (fun x=>(bindT x).length+1) l≤sumN (fun x=>8 * sizeB x) l:=sumN_le fun y _=>by have:=expr_len y.x;simp [bindT,sizeB];omega
 rw [sumN_mul] at h1
 omega
theorem items4_of {l:List It} (h:∀ y ∈ l,ItX y) (hs:sumN sizeI l≤65536) (W:World) (v:Value) (hR:IsR W v l):Calls Tryz.prog 55 #[v] W (TkP W (cubT (l.map itemT).flatten)):=by
 have hR0:=hR
 obtain ⟨p,c,rfl,_⟩:=hR
 have:=sumN_len sizeI one_sizeI l
 exact items4_any p c l (by omega) (sumI_le l hs) W hR0 h
theorem itemsT_le {l:List It} (hs:sumN sizeI l≤65536):(cubT (l.map itemT).flatten).length≤1300000:=by
 have:=flatP_len itemT l l.length _ (sumI_le l hs)
 rw [flatP_end] at this
 rw [cub_len]
 omega
theorem bEx {l:List Bd} (h:∀ y ∈ l,okB y=true) (hs:sumN sizeB l≤65536):∀ y ∈ l,Ex4 y.x:=fun y hy=>by
 have h1:=h y hy
 have h2:sizeX y.x+1≤_:=sumN_mem sizeB hy
 unfold okB at h1
 rw [Bool.and_eq_true] at h1
 exact Ex4_ok y.x h1.2 (by omega)
theorem binds4_of {l:List Bd} (h:∀ y ∈ l,okB y=true) (hs:sumN sizeB l≤65536) (W:World) (v:Value) (hR:BsR W v l):Calls Tryz.prog 101 #[v] W (TkP W (bindsT l)):=by
 have hR0:=hR
 obtain ⟨p,c,rfl,_⟩:=hR
 have:=sumN_len sizeB one_sB l
 exact binds4_any p c l (by omega) (sumB_le l hs) W hR0 (bEx h hs)
theorem params4_of {l:List Bd} (h:∀ y ∈ l,okB y=true) (hs:sumN sizeB l≤65536) (W:World) (v:Value) (hR:BsR W v l):Calls Tryz.prog 53 #[v] W (TkP W (paramsT l)):=by
 have hR0:=hR
 obtain ⟨p,c,rfl,_⟩:=hR
 have:=sumN_len sizeB one_sB l
 exact params4_any p c l (by omega) (sumB_le l hs) W hR0 (bEx h hs)
theorem ItX_ok:∀ t:It,okI t=true→sizeI t≤65536→ItX t:=by
 refine It.ind ?_
 intro t ihl ihe hok hsz W cs hR
 obtain ⟨op,name,f,x,s,l,el,ps,bb⟩:=t
 obtain ⟨xs,ss,ls,es,vp,vb,rfl,hX,hS,hP,hQ,hL,hE⟩:=IR_iff.1 hR
 simp only [It.op,It.name,It.of,It.x,It.s,It.l,It.e,It.ps,It.bs] at ihl ihe hX hS hP hQ hL hE ⊢
 rw [sizeI_eq2] at hsz
 simp only [It.op,It.name,It.of,It.x,It.s,It.l,It.e,It.ps,It.bs] at hsz
 rw [okI_iff,okSs_all] at hok
 simp only [It.op,It.name,It.of,It.x,It.s,It.l,It.e,It.ps,It.bs,Bool.and_eq_true,List.all_eq_true] at hok
 obtain ⟨⟨⟨⟨⟨⟨hit,ox⟩,oS⟩,ol⟩,oe⟩,op'⟩,ob⟩:=hok
 have hEx:=Ex4_of ox (by omega)
 have gS:∀ clk,∀ y ∈ s,StX clk y:=fun clk y hy=>StX_ok clk y (oS y hy) (by have:=sumN_mem sizeS hy;omega)
 have gL:∀ y ∈ l,ItX y:=fun y hy=>ihl y hy (ol y hy) (by have:=sumN_mem sizeI hy;omega)
 have gE:∀ y ∈ el,ItX y:=fun y hy=>ihe y hy (oe y hy) (by have:=sumN_mem sizeI hy;omega)
 have lbl:=fun put=>block_len put s
 have lps:=params_len ps
 have lbb:=binds_len bb
 have lx:=exprs_len [46,46] x
 have cS:=fun (clk:Bool) (W9:World) (h:Below W.heap.size W W9)=>stmts4_of (gS clk) (by omega) W9 ss (SsR.later hS h)
 have cL:=fun (W9:World) (h:Below W.heap.size W W9)=>items4_of gL (by omega) W9 ls (IsR.later hL h)
 have cE:=fun (W9:World) (h:Below W.heap.size W W9)=>items4_of gE (by omega) W9 es (IsR.later hE h)
 have cP:=fun (W9:World) (h:Below W.heap.size W W9)=>params4_of op' (by omega) W9 vp (BsR.later hP h)
 have cQ:=fun (W9:World) (h:Below W.heap.size W W9)=>binds4_of ob (by omega) W9 vb (BsR.later hQ h)
 have nL:=itemsT_le (l:=l) (by omega)
 have nE:=itemsT_le (l:=el) (by omega)
 have hX0:=hX
 obtain ⟨px,cx,rfl,_⟩:=hX
 obtain ⟨pS,cS',rfl,_⟩:=hS
 obtain ⟨pl,cl,rfl,_⟩:=hL
 obtain ⟨pe,ce,rfl,_⟩:=hE
 obtain ⟨pp,cp,rfl,_⟩:=hP
 obtain ⟨pb,cb,rfl,_⟩:=hQ
 simp only [okIt,Bool.and_eq_true,decide_eq_true_eq] at hit
 obtain ⟨⟨⟨⟨⟨⟨⟨⟨⟨h1,h10⟩,-⟩,-⟩,hxl⟩,-⟩,-⟩,-⟩,-⟩,-⟩:=hit
 have l1:∀ {l:List X},l.length=1→∃ a,l=[a]:=fun {l} h=>by
  match l,h with
  | [a],_=>exact ⟨a,rfl⟩
 have hk:op=1∨op=2∨op=3∨op=4∨op=5∨op=6∨op=7∨op=8∨op=9∨op=10:=by omega
 rcases hk with rfl | rfl | rfl | rfl | rfl | rfl | rfl | rfl | rfl | rfl
 ·obtain ⟨a,rfl⟩:=l1 (by simpa [countI] using hxl)
  obtain ⟨k1,k2⟩:=hEx a (by simp)
  exact item4_const name f px pS pl pe pp pb 0 cx s.length cS' l.length cl el.length ce ps.length cp bb.length cb [] s l el ps bb W a hX0 k1 k2
 ·obtain ⟨a,rfl⟩:=l1 (by simpa [countI] using hxl)
  obtain ⟨k1,k2⟩:=hEx a (by simp)
  exact item4_wire name f px pS pl pe pp pb 0 cx s.length cS' l.length cl el.length ce ps.length cp bb.length cb [] s l el ps bb W a hX0 k1 k2
 ·obtain ⟨a,b,rfl⟩:=list2 (by simpa [countI] using hxl)
  obtain ⟨k1,k2⟩:=hEx a (by simp)
  obtain ⟨m1,m2⟩:=hEx b (by simp)
  exact item4_reg name f px pS pl pe pp pb 0 cx s.length cS' l.length cl el.length ce ps.length cp bb.length cb [] s l el ps bb W a b hX0 k1 k2 m1 m2
 ·obtain ⟨a,b,rfl⟩:=list2 (by simpa [countI] using hxl)
  obtain ⟨k1,k2⟩:=hEx a (by simp)
  obtain ⟨m1,m2⟩:=hEx b (by simp)
  exact item4_assign name f px pS pl pe pp pb 0 cx s.length cS' l.length cl el.length ce ps.length cp bb.length cb [] s l el ps bb W a b hX0 k1 k2 m1 m2
 ·exact item4_comb name f px pS pl pe pp pb x.length cx s.length cS' l.length cl el.length ce ps.length cp bb.length cb x s l el ps bb W _ rfl (by have:=lbl [61];omega) (cS false)
 ·exact item4_tick name f px pS pl pe pp pb x.length cx s.length cS' l.length cl el.length ce ps.length cp bb.length cb x s l el ps bb W _ rfl (by have:=lbl [60,61];omega) (cS true)
 ·exact item4_inst name f px pS pl pe pp pb x.length cx s.length cS' l.length cl el.length ce ps.length cp bb.length cb x s l el ps bb W _ _ rfl rfl (by omega) (by omega) cP cQ
 ·obtain ⟨a,rfl⟩:=l1 (by simpa [countI] using hxl)
  obtain ⟨k1,k2⟩:=hEx a (by simp)
  exact item4_if name f px pS pl pe pp pb 0 cx s.length cS' l.length cl el.length ce ps.length cp bb.length cb [] s l el ps bb W a hX0 k1 k2 _ _ rfl rfl nL nE rfl cL cE
 ·obtain ⟨a,b,rfl⟩:=list2 (by simpa [countI] using hxl)
  obtain ⟨k1,k2⟩:=hEx a (by simp)
  obtain ⟨m1,m2⟩:=hEx b (by simp)
  refine item4_for name f px pS pl pe pp pb 2 cx s.length cS' l.length cl el.length ce ps.length cp bb.length cb [a,b] s l el ps bb W _ _ rfl rfl ?_ nL (fun W9 h=>span4_any f px cx a b W9 (XsR.later hX0 h) k1 k2 m1 m2) cL
  simp [spanT,parT,inT,sepS]
  omega
 ·obtain ⟨a,rfl⟩:=l1 (by simpa [countI] using hxl)
  obtain ⟨k1,k2⟩:=hEx a (by simp)
  exact item4_check name f px pS pl pe pp pb 0 cx s.length cS' l.length cl el.length ce ps.length cp bb.length cb [] s l el ps bb W a hX0 k1 k2
end Go.Proofs.YtlcfpdmicpggbaaGreatDoor
namespace Go.Proofs.YtlcfpdmicpggbaaGreatDoor
open Go.Lib (hid)
open Go.RowKit Go.Proofs.Spl Go.Proofs.Scn Go.Shelf
theorem tk4_ok {W W0 W':World} {l:List (Value × List Tok)} {p:Option Addr} {n c:Nat} {ts:List Tok} (hX:Below W.heap.size W W0) (h:St W0 W' l) (hm:(Value.slice p n c,ts) ∈ l):TkPost W 0 ts (.returned (.tuple #[.slice p n c,.int .i64 0])) W':=
 ⟨_,rfl,by rw [if_pos rfl];exact (h.2 _ hm).lower hX.size,hX.trans (h.1.mono hX.size)⟩
theorem mP {W:World} {y:Md} {v0 v1 v2 v3:Value} (h:MR W y [v0,v1,v2,v3]):BsR W v1 y.ps:=by
 obtain ⟨vp,vt,vi,e,h1,h2,h3⟩:=h
 cases e
 exact h1
theorem mT {W:World} {y:Md} {v0 v1 v2 v3:Value} (h:MR W y [v0,v1,v2,v3]):PsR W v2 y.pts:=by
 obtain ⟨vp,vt,vi,e,h1,h2,h3⟩:=h
 cases e
 exact h2
theorem mI {W:World} {y:Md} {v0 v1 v2 v3:Value} (h:MR W y [v0,v1,v2,v3]):IsR W v3 y.l:=by
 obtain ⟨vp,vt,vi,e,h1,h2,h3⟩:=h
 cases e
 exact h3
theorem ports4_of {l:List Pt} (h:∀ y ∈ l,okP y=true) (hs:sumN sizeP l≤65536) (W:World) (v:Value) (hR:PsR W v l):Calls Tryz.prog 54 #[v] W (TkP W (parT (sepS [44] (l.map portT)))):=by
 have hR0:=hR
 obtain ⟨p,c,rfl,_⟩:=hR
 have h3:sumN (fun x=>(portT x).length+1) l≤sumN (fun x=>9 * sizeP x) l:=sumN_le fun y _=>by have:=expr_len y.w;simp [portT,sizeP];omega
 rw [sumN_mul] at h3
 have:=sumN_len sizeP one_sP l
 exact ports4_any p c l (by omega) (by omega) W hR0 fun y hy=>by
  have h1:=h y hy
  have h2:sizeX y.w+1≤_:=sumN_mem sizeP hy
  unfold okP at h1
  rw [Bool.and_eq_true] at h1
  exact Ex4_ok y.w h1.2 (by omega)
theorem own_lt {B:Nat} {w:World} {v:Value} {ts:List Tok} (h:OwnT B w v ts):∀ k,v.ownBlock=some k→k<w.heap.size:=by
 intro k hk
 rcases h.2 with ⟨rfl,_⟩ | ⟨g,cap,cur,rfl,hB,hg,h1⟩
 ·cases hk
 ·simp [Value.ownBlock] at hk;subst hk;exact (Array.getElem?_eq_some_iff.1 hg).1
theorem tokensX4_any (x:X) (cs:List Value) (W:World) (hR:XR W x cs) (h1:smX x=true) (h2:sizeX x≤60000):Calls Tryz.prog 19 #[.agg cs.toArray] W (TkPost W (checkX x) (exprT x)):=by
 have HC:=hid (fun (W9:World) (h:Below W.heap.size W W9)=>checkX3_any x cs W9 (XR.later h _ _ hR) h1 (by omega))
 have HE:=hid (fun (h0:checkX x=0) (W9:World) (h:Below W.heap.size W W9)=>Ex4_ok x (checkX_ok.1 h0).2.2 (by omega) W9 cs (XR.later h _ _ hR))
 obtain ⟨hv,ls,rfl,hL⟩:=XR_iff.1 hR
 obtain ⟨p,c,rfl,_⟩:=hL
 clear hR h1 h2
 generalize checkX x=r at *
 obtain ⟨V,hV,HX,HBX⟩:=bx6 W (.int .i64 x.op) (.string (bs x.name)) (.int .i64 x.n) (.int .i64 x.w) (.int .u64 x.v) (.slice p x.l.length c) 28
 obtain ⟨x0,x1,x2,x3,x4,x5⟩:=HBX.out _ (Below.refl _ _)
 have hc:((r != 0)=true∧r ≠ 0)∨r=0:=by
  by_cases h:r=0
  ·exact .inr h
  ·exact .inl ⟨by simpa using h,h⟩
 rcases hc with ⟨hc,hn⟩ | rfl
 all_goals try have HN:=hid hn
 all_goals try clear hn
 all_goals
  go_enter Tryz.func19,Tryz.ntmps19
  go_wp2_with fail
  rw [← hV]
  clear hV
  have HS:=hid (St.start (Below.refl V.heap.size V))
  go_wp2_with (first
   | (go_at_call 57;refine (HC.out _ HX.out).mono ?_;rintro e V1 ⟨rfl,hb⟩;have HS:=hid (HS.out.next hb);obtain ⟨x0,x1,x2,x3,x4,x5⟩:=HBX.out _ HS.out.1;clear hb)
   | (go_at_call 58;refine (HE.out (by trivial) _ (HX.out.trans (HS.out.1.mono HX.out.size))).mono ?_;rintro e V2 ⟨p1,n1,c1,rfl,ho,hb⟩;have HS:=hid (HS.out.push ho hb);clear ho hb))
  go_ret2
  first
   | exact tk4_ok HX.out HS.out (by simp)
   | exact tk_err HN.out (HX.out.trans (HS.out.1.mono HX.out.size))
theorem tokens4_any (f:List Md) (p:Option Addr) (c:Nat) (W:World) (hR:MsR W (.slice p f.length c) f) (h1:f.all smM=true) (h2:sumN sizeM f≤60000):Calls Tryz.prog 17 #[.agg #[.slice p f.length c]] W (TkPost W (checkF f) (fileT f)):=by
 have HCK:=hid (fun (W9:World) (h:Below W.heap.size W W9)=>checkF3_any f p c W9 (MsR.later hR h) h1 (by omega))
 have HC:=hid (fun k (hk:k<f.length)=>atM hR hk)
 have hb:sumN (fun x=>(moduleT x).length+1) f≤1200000:=by
  have h3:sumN (fun x=>(moduleT x).length+1) f≤sumN (fun x=>17 * sizeM x) f:=sumN_le fun y _=>by have:=module_len y;have:=one_sM y;omega
  rw [sumN_mul] at h3
  omega
 have hlen:f.length≤1000000:=by have:=sumN_len sizeM one_sM f;omega
 have HM:=hid (show checkF f=0→∀ k (hk:k<f.length),okM f[k]=true∧sizeM f[k]≤60000 from fun h0 k hk=>⟨List.all_eq_true.1 (checkF_ok.1 h0).2.2.2 _ (List.getElem_mem hk),by have:=sumN_mem sizeM (List.getElem_mem hk);omega⟩)
 have HTN:=hid (fun k h=>flatP_next moduleT f (k:=k) h)
 have HTE:=hid (show fileT f=flatP moduleT f f.length by rw [flatP_end];rfl)
 have HLL:=hid (fun k=>flatP_len moduleT f k _ hb)
 have HL2:=hid (show ∀ k (hk:k<f.length),(moduleT f[k]).length≤1200000 from fun k hk=>by have:=sumN_mem (fun x=>(moduleT x).length+1) (List.getElem_mem hk);omega)
 have HT0:=hid (show flatP moduleT f 0=[] from rfl)
 have HBX:=hid (fun (w':World) (h:Below (W.alloc (.cells #[.slice p f.length c] 24)).heap.size (W.alloc (.cells #[.slice p f.length c] 24)) w')=>show w'.cell? ⟨W.heap.size,0,none⟩=some (.slice p f.length c) by
  have hc:=(h.block W.heap.size (by simp)).trans (World.alloc_heap_new W (.cells #[.slice p f.length c] 24))
  simp [World.cell?,hc])
 obtain ⟨V,hV⟩:∃ V,V=W.alloc (.cells #[.slice p f.length c] 24):=⟨_,rfl⟩
 have HX:=hid (show Below W.heap.size W V from hV ▸ (Below.refl W.heap.size W).alloc (Nat.le_refl _) _)
 have HVl:=hid (show W.heap.size<V.heap.size by rw [hV];simp)
 rw [← hV] at HBX
 have x0:=HBX.out _ (Below.refl _ _)
 clear hR h1 h2 hb
 generalize flatP moduleT f=T at *
 generalize fileT f=FT at *
 generalize checkF f=r at *
 have hc:((r != 0)=true∧r ≠ 0)∨r=0:=by
  by_cases h:r=0
  ·exact .inr h
  ·exact .inl ⟨by simpa using h,h⟩
 rcases hc with ⟨hc,hn⟩ | rfl
 ·have HN:=hid hn
  clear hn
  go_enter Tryz.func17,Tryz.ntmps17
  go_wp2_with fail
  rw [← hV]
  clear hV
  go_wp2_with (go_at_call 49;refine (HCK.out _ HX.out).mono ?_;rintro e V1 ⟨rfl,hb⟩;have HX:=hid (bthen HX.out hb);clear hb)
  go_ret2
  exact tk_err HN.out HX.out
 have HMX:=hid (HM.out rfl)
 clear HM
 go_enter Tryz.func17,Tryz.ntmps17
 go_wp2_with fail
 rw [← hV]
 clear hV
 go_wp2_with (go_at_call 49;refine (HCK.out _ HX.out).mono ?_;rintro e V1 ⟨rfl,hb⟩;have HV1:=hid hb;clear hb)
 go_loopw [5,6] (fun u i wr=>∃ (k n:Nat) (pq:Option Addr) (cp:Nat),u=.slice pq n cp∧i=.int .i64 k∧k≤f.length∧Hid (OwnT V.heap.size wr (.slice pq n cp) (T k))∧Hid (Below V.heap.size V wr)) (fun _ i _=>f.length - (intOf i).toNat)
 case atStart=>
  refine ⟨0,0,some ⟨V1.heap.size,0,none⟩,0,rfl,rfl,Nat.zero_le _,hid ?_,hid (HV1.out.alloc HV1.out.size _)⟩
  rw [HT0.out]
  exact OwnT.lower (World.ownsRow_made V1 #[] 0 (Nat.le_refl _) (by decide) rfl) HV1.out.size
 case round=>
  obtain ⟨k,n,pq,cp,rfl,rfl,hk,HO,HVW⟩:=hrel
  have HLK:=hid (HLL.out k)
  have HXW:=hid (bthen HX.out HVW.out)
  have z0:=HBX.out _ HVW.out
  by_cases hlt:k<f.length
  case neg=>
   obtain rfl:k=f.length:=by omega
   go_wp2
   go_ret2
   exact ⟨_,rfl,by rw [if_pos rfl,HTE.out];exact HO.out.lower HX.out.size,HXW.out⟩
  have hlt':(k:Int)<(f.length:Int):=by omega
  obtain ⟨q,off,pp,cp2,pt,ct,pl,cl,rfl,hy⟩:=HC.out k hlt
  have HLP:=HL2.out k hlt
  obtain ⟨om,sm⟩:=HMX.out k hlt
  have HN:=hid (HTN.out k hlt)
  generalize f[k]=y at *
  have HY:=hid hy
  obtain ⟨x0,x1,x2,x3⟩:=(hy _ HXW.out).2
  unfold okM at om
  unfold sizeM at sm
  rw [okIs_all] at om
  rw [sizeIs_sum] at sm
  simp only [Bool.and_eq_true,List.all_eq_true] at om
  obtain ⟨⟨⟨-,op'⟩,ot⟩,oi⟩:=om
  have CP:=hid (fun (W9:World) (h:Below V.heap.size V W9)=>params4_of op' (by omega) W9 _ (mP (hy _ (bthen HX.out h)).1))
  have CT:=hid (fun (W9:World) (h:Below V.heap.size V W9)=>ports4_of ot (by omega) W9 _ (mT (hy _ (bthen HX.out h)).1))
  have CI:=hid (fun (W9:World) (h:Below V.heap.size V W9)=>items4_of (fun z hz=>ItX_ok z (oi z hz) (by have:=sumN_mem sizeI hz;omega)) (by omega) W9 _ (mI (hy _ (bthen HX.out h)).1))
  clear hy op' ot oi
  have hbt:moduleT y=List.flatten [[wdT [109,111,100,117,108,101]],[nmT y.name],paramsT y.ps,parT (sepS [44] (y.pts.map portT)),cubT (y.l.map itemT).flatten]:=by simp [moduleT,itemsT_map]
  rw [hbt] at HLP HN
  clear hbt
  generalize paramsT y.ps=P at *
  generalize parT (sepS [44] (y.pts.map portT))=T2 at *
  generalize cubT (y.l.map itemT).flatten=I at *
  have HL:=hid (show P.length+T2.length+I.length≤1200000 by simp at HLP;omega)
  clear HLP sm
  have HNE:=hid (show ∀ j,(Value.slice pq n cp).ownBlock=some j→j=wr.heap.size→False from fun j h e=>by have:=own_lt HO.out j h;omega)
  obtain ⟨U,hU⟩:∃ U,U=wr.alloc (.cells #[.string (bs y.name),.slice pp y.ps.length cp2,.slice pt y.pts.length ct,.slice pl y.l.length cl] 53):=⟨_,rfl⟩
  have HWU:=hid (show Below wr.heap.size wr U from hU ▸ (Below.refl _ _).alloc (Nat.le_refl _) _)
  have HUl:=hid (show wr.heap.size<U.heap.size by rw [hU];simp)
  have HUr:=hid (show U.heap[wr.heap.size]?=some (.cells #[.string (bs y.name),.slice pp y.ps.length cp2,.slice pt y.pts.length ct,.slice pl y.l.length cl] 53 (0,0)) by rw [hU];exact World.alloc_heap_new wr _)
  have HMU:=hid (show ∀ w',Below U.heap.size U w'→w'.cell? ⟨wr.heap.size,0,none⟩=some (.string (bs y.name))∧w'.cell? ⟨wr.heap.size,1,none⟩=some (.slice pp y.ps.length cp2)∧w'.cell? ⟨wr.heap.size,2,none⟩=some (.slice pt y.pts.length ct)∧w'.cell? ⟨wr.heap.size,3,none⟩=some (.slice pl y.l.length cl) from fun w' h=>cells4 ((h.block _ HUl.out).trans HUr.out))
  obtain ⟨y0,y1,y2,y3⟩:=HMU.out _ (Below.refl _ _)
  go_wp2_with fail
  rw [← hU]
  clear hU
  obtain ⟨G0,G1,G2,G3,G4,G5⟩:True∧True∧True∧True∧True∧True:=by simp
  have HU:=hid (Below.refl U.heap.size U).drew
  have HS:=hid (show St V U.drew [(.slice pq n cp,T k)] from ⟨(bthen HVW.out HWU.out).drew,fun p hp=>by rw [List.mem_singleton.1 hp];exact (HO.out.later HWU.out).later (Below.refl U.heap.size U).drew⟩)
  go_region_held3 (fun w'=>w'.cell? ⟨wr.heap.size,0,none⟩=some (.string (bs y.name))∧w'.cell? ⟨wr.heap.size,1,none⟩=some (.slice pp y.ps.length cp2)∧w'.cell? ⟨wr.heap.size,2,none⟩=some (.slice pt y.pts.length ct)∧w'.cell? ⟨wr.heap.size,3,none⟩=some (.slice pl y.l.length cl))
   (first | exact HM6.out | exact HMU.out _ HU.out | go_keep)
   (first
    | (go_at_call 51;clear G0;refine (word4_any [109,111,100,117,108,101] _).mono ?_;rintro e V0 ⟨p0,n0,c0,rfl,ho,hb⟩;have HS:=hid (HS.out.push (ts:=[wdT [109,111,100,117,108,101]]) ho hb);have HU:=hid (bthen HU.out hb);clear ho hb)
    | (go_at_call 52;clear G1;refine (name4_any (y.name) _).mono ?_;rintro e V1 ⟨p1,n1,c1,rfl,ho,hb⟩;have HS:=hid (HS.out.push (ts:=[nmT (y.name)]) ho hb);have HU:=hid (bthen HU.out hb);clear ho hb)
    | (go_at_call 53;clear G2;refine (CP.out _ HS.out.1).mono ?_;rintro e V2 ⟨p2,n2,c2,rfl,ho,hb⟩;have HS:=hid (HS.out.push (ts:=P) ho hb);have HU:=hid (bthen HU.out hb);clear ho hb)
    | (go_at_call 54;clear G3;refine (CT.out _ HS.out.1).mono ?_;rintro e V3 ⟨p3,n3,c3,rfl,ho,hb⟩;have HS:=hid (HS.out.push (ts:=T2) ho hb);have HU:=hid (bthen HU.out hb);clear ho hb)
    | (go_at_call 55;clear G4;refine (CI.out _ HS.out.1).mono ?_;rintro e V4 ⟨p4,n4,c4,rfl,ho,hb⟩;have HS:=hid (HS.out.push (ts:=I) ho hb);have HU:=hid (bthen HU.out hb);clear ho hb)
    | (go_at_call 50;clear G5;refine (join5_any HS.out [(.slice p0 n0 c0,[wdT [109,111,100,117,108,101]]),(.slice p1 n1 c1,[nmT (y.name)]),(.slice p2 n2 c2,P),(.slice p3 n3 c3,T2),(.slice p4 n4 c4,I)] (by simp) (by simp) (by have:=HL.out;simp [allT,inT];omega)).mono ?_;rintro e V5 ⟨p5,n5,c5,rfl,ho,hb⟩;have HS:=hid (HS.out.push (ts:=List.flatten [[wdT [109,111,100,117,108,101]],[nmT (y.name)],P,T2,I]) ho hb);have HU:=hid (bthen HU.out hb);clear ho hb)
    | (rw [if_pos (by rfl)];refine wp_append_toks _ _ rfl V.heap.size _ (T k) (List.flatten [[wdT [109,111,100,117,108,101]],[nmT (y.name)],P,T2,I]) rfl (HS.out.2 (.slice pq n cp,T k) (by simp)) _ (.slice p5 n5 c5) rfl (HS.out.2 (.slice p5 n5 c5,List.flatten [[wdT [109,111,100,117,108,101]],[nmT (y.name)],P,T2,I]) (by simp)) (by have:=HLK.out;have:=HL.out;simp;omega) HS.out.1.size ?_;intro p6 c6 N w6 hN hO hgr;have HO6:=hid hO;have HX6:=hid (Below.grown HS.out.1 hgr HS.out.1.size (fun j hj=>(HS.out.2 (.slice pq n cp,T k) (by simp)).base j hj));have HM6:=hid (cells4 ((hgr.block wr.heap.size (Nat.lt_of_lt_of_le HUl.out HU.out.size) (fun h=>HNE.out _ h.symm rfl)).trans ((HU.out.block _ HUl.out).trans HUr.out)));clear hN hO hgr))
  go_wp2
  go_roundw
  case rel=>exact ⟨k+1,_,p6,c6,rfl,by go_num,hlt,hid (by rw [HN.out];exact HO6.out),HX6⟩
  case measure=>simp [intOf];omega
end Go.Proofs.YtlcfpdmicpggbaaGreatDoor
namespace Go.Proofs.YtlcfpdmicpggbaaGreatDoor
open Go.Lib (hid)
open Go.RowKit Go.Proofs.Scn Go.Flow Go.Sort
def hexL:ByteArray:=⟨#[48,49,50,51,52,53,54,55,56,57,97,98,99,100,101,102]⟩
def figD (d:Nat):UInt8:=UInt8.ofNat (if d<10 then 48+d else 87+d)
theorem ext_figD (d:Nat) (hd:d<16):hexL.extract d (d+1)=bs [figD d]:=by
 rw [extract_bs]
 congr 1
 exact (show ∀ d:Fin 16,(hexL.data.toList.take (d.val+1)).drop d.val=[figD d.val] from by decide) ⟨d,hd⟩
theorem rfigure_any (b:Nat) (hb:2≤b) (hb':b≤16):∀ (k v:Nat),v<k→v<18446744073709551616→∀ W:World,
  Calls Tryz.prog 191 #[.int .u64 v,.int .u64 b] W fun e W'=>e=.returned (.string (bs (digL b v)))∧Below W.heap.size W W':=by
 intro k
 induction k with
 | zero=>intro v h;omega
 | succ k ih=>
  intro v hvk hv W
  have hmod:v % b<16:=Nat.lt_of_lt_of_le (Nat.mod_lt _ (by omega)) hb'
  have he:=ext_figD (v % b) hmod
  unfold hexL at he
  have hb0:¬ (b:Int)=0:=by omega
  by_cases hlt:v<b
  ·have hlt':(v:Int)<(b:Int):=by omega
   have hd:bs (digL b v)=bs [figD (v % b)]:=by
    rw [digL_lt (.inl hlt),Nat.mod_eq_of_lt hlt];rfl
   rw [hd]
   clear hd ih
   go_enter Tryz.func191,Tryz.ntmps191
   go_wp2_with fail
   go_quiet (fail)
   go_wp2
   go_ret
   exact ⟨by rw [← he];rfl,below_drewN (Below.refl _ _) _⟩
  ·have hlt':¬ (v:Int)<(b:Int):=by omega
   have hdv:v / b<v:=Nat.div_lt_self (by omega) hb
   have KI:=hid (ih (v / b) (by omega) (by omega))
   have hd:bs (digL b v)=bs (digL b (v / b)) ++ bs [figD (v % b)]:=by
    rw [digL_ge (by omega)]
    apply ByteArray.ext
    simp [bs,figD]
   have hlen:=digL_len b hb 64 (v / b) (by omega) (Nat.lt_of_lt_of_le (show v / b<2 ^ 64 by omega) (Nat.pow_le_pow_left hb 64))
   have hsz:(bs (digL b (v / b))).size≤64:=hlen
   rw [hd,← he]
   have hs2:(bs (digL b (v / b))).size+(ByteArray.extract ⟨#[48,49,50,51,52,53,54,55,56,57,97,98,99,100,101,102]⟩ (v % b) (v % b+1)).size≤1000:=by
    rw [he,size_bs [figD (v % b)]]
    simp
    omega
   have hq:IntKind.u64.wrap ((v:Int) / (b:Int))=((v / b:Nat):Int):=by
    have hq1:v / b<18446744073709551616:=by omega
    rw [← Int.natCast_ediv,IntKind.wrap_u64]
    generalize v / b=w at *
    omega
   clear hd ih hlen he
   go_enter Tryz.func191,Tryz.ntmps191
   go_wp2_with fail
   go_quiet (fail)
   go_wp2_with fail
   refine (KI.out _).mono ?_
   rintro e W2 ⟨rfl,hb2⟩
   have HW2:=hid ((below_drewN (Below.refl W.heap.size W) nq).trans (hb2.mono (below_drewN (Below.refl W.heap.size W) nq).size))
   clear hb2
   go_wp2
   go_ret
   exact ⟨rfl,HW2.out⟩
end Go.Proofs.YtlcfpdmicpggbaaGreatDoor
namespace Go.Proofs.YtlcfpdmicpggbaaGreatDoor
open Go.Lib (hid)
open Go.RowKit Go.Proofs.Scn Go.Flow Go.Sort
theorem rfig (b v:Nat) (hb:2≤b) (hb':b≤16) (hv:v<18446744073709551616) (W:World) :
  Calls Tryz.prog 191 #[.int .u64 v,.int .u64 b] W fun e W'=>e=.returned (.string (bs (digL b v)))∧Below W.heap.size W W':=
 rfigure_any b hb hb' (v+1) v (Nat.lt_succ_self _) hv W
theorem rfig10 (v:Nat) (hv:v<18446744073709551616) (W:World) :
  Calls Tryz.prog 191 #[.int .u64 v,.int .u64 10] W fun e W'=>e=.returned (.string (bs (digL 10 v)))∧Below W.heap.size W W':=rfig 10 v (by omega) (by omega) hv W
theorem rfig16 (v:Nat) (hv:v<18446744073709551616) (W:World) :
  Calls Tryz.prog 191 #[.int .u64 v,.int .u64 16] W fun e W'=>e=.returned (.string (bs (digL 16 v)))∧Below W.heap.size W W':=rfig 16 v (by omega) (by omega) hv W
theorem one_text (k w p:Int) (S:ByteArray) (v:Nat) (hk:¬ k=3) (W:World) :
  Calls Tryz.prog 129 #[.agg #[.int .i64 k,.string S,.int .i64 w,.int .u64 v,.int .i64 p]] W fun e W'=>e=.returned (.string S)∧Below W.heap.size W W':=by
 go_enter Tryz.func129,Tryz.ntmps129
 go_wp2
 go_ret
 exact ⟨rfl,(Below.refl _ _).alloc (Nat.le_refl _) _⟩
theorem one_plain (p:Int) (S:ByteArray) (v:Nat) (hv:v<18446744073709551616) (W:World) :
  Calls Tryz.prog 129 #[.agg #[.int .i64 3,.string S,.int .i64 0,.int .u64 v,.int .i64 p]] W fun e W'=>e=.returned (.string (bs (digL 10 v)))∧Below W.heap.size W W':=by
 have KD:=hid (fun W=>rfig10 v hv W)
 have HW:=hid ((Below.refl W.heap.size W).alloc (Nat.le_refl _) (.cells #[.int .i64 3,.string S,.int .i64 0,.int .u64 v,.int .i64 p] 55))
 go_enter Tryz.func129,Tryz.ntmps129
 go_wp2_with fail
 refine (KD.out _).mono ?_
 rintro e w' ⟨rfl,hb⟩
 have HV:=hid (HW.out.trans (hb.mono HW.out.size))
 clear hb
 go_wp2
 go_ret
 exact ⟨rfl,HV.out⟩
theorem one_wide (p:Int) (S:ByteArray) (w v:Nat) (hw:1≤w) (hw2:w≤64) (hv:v<18446744073709551616) (W:World) :
  Calls Tryz.prog 129 #[.agg #[.int .i64 3,.string S,.int .i64 w,.int .u64 v,.int .i64 p]] W fun e W'=>e=.returned (.string (bs (digL 10 w ++ [39,104] ++ digL 16 v)))∧Below W.heap.size W W':=by
 have B5:=Box5.new W (.int .i64 3) (.string S) (.int .i64 w) (.int .u64 v) (.int .i64 p) 55
 have hW:=(Below.refl W.heap.size W).alloc (Nat.le_refl _) (.cells #[.int .i64 3,.string S,.int .i64 w,.int .u64 v,.int .i64 p] 55)
 have hw0:¬ (w:Int)=0:=by omega
 have HW:=hid hW
 have HB5:=hid B5
 have hl1:=digL_len 10 (by omega) 20 w (by omega) (by omega)
 have hl2:=digL_len 16 (by omega) 16 v (by omega) (by omega)
 have HL1:=hid hl1
 have HL2:=hid hl2
 clear B5 hW hl1 hl2
 go_enter Tryz.func129,Tryz.ntmps129
 go_wp2_with fail
 generalize hX:W.alloc (.cells #[.int .i64 3,.string S,.int .i64 w,.int .u64 v,.int .i64 p] 55)=X at *
 have hm:W.heap.size<X.heap.size:=by rw [← hX];simp
 clear hX
 have b2:=cell_regrown HB5.out.c2
 have b3:=cell_regrown HB5.out.c3
 have ci:=fun d os=>Calls.regrown_of (rfig10 w (by omega) (grow (redrawn X d) os))
 have cf:=fun d os=>Calls.regrown_of (rfig16 v hv (grow (redrawn X d) os))
 have hA:(bs (digL 10 w)).size≤20:=HL1.out
 have hF:(bs (digL 16 v)).size≤16:=HL2.out
 have hE:bs (digL 10 w ++ [39,104] ++ digL 16 v)=bs (digL 10 w) ++ ⟨#[39,104]⟩ ++ bs (digL 16 v):=by
  apply ByteArray.ext
  simp [bs]
 have hS:(bs (digL 10 w) ++ (⟨#[39,104]⟩:ByteArray)).size=(bs (digL 10 w)).size+2:=by rw [ByteArray.size_append];rfl
 have HE:=hid hE
 generalize bs (digL 10 w)=A at *
 generalize bs (digL 16 v)=F at *
 clear hE
 refine wp_region_quiet_fast (by kernel_rfl) (by kernel_rfl) (by kernel_rfl) ?_
 try simp only [List.append_eq,List.cons_append,List.nil_append]
 repeat (go_big_quiet_step (first | with_reducible exact ci _ _ | with_reducible exact cf _ _))
 refine wpQuiet_nil ?_
 intro _ hw'
 obtain ⟨⟨dq,osq⟩,hw''⟩:=hw'
 subst hw''
 go_wp2
 go_ret
 exact ⟨by rw [HE.out];rfl,HW.out.trans ((below_regrown X dq osq).mono HW.out.size)⟩
theorem one_any (t:Tok) (ht:checkT t=true) (hv:t.v<two64) (W:World) :
  Calls Tryz.prog 129 #[.agg #[.int .i64 t.k,.string (bs t.s),.int .i64 t.w,.int .u64 t.v,.int .i64 t.p]] W fun e W'=>e=.returned (.string (bs (oneT t)))∧Below W.heap.size W W':=by
 obtain ⟨k,s,w,v,p⟩:=t
 have hv':v<18446744073709551616:=hv
 unfold oneT
 simp only
 by_cases hk:k=3
 ·subst hk
  simp only [ne_eq,not_true_eq_false,if_false]
  by_cases hw:w=0
  ·subst hw
   simp only [if_true]
   exact one_plain p (bs s) v hv' W
  ·rw [if_neg hw]
   have hf:fitsV w v=true:=by
    simp [checkT,hw] at ht
    exact ht.2.2
   simp only [fitsV,Bool.and_eq_true,decide_eq_true_eq] at hf
   obtain ⟨n,rfl⟩:∃ n:Nat,w=n:=⟨w.toNat,by omega⟩
   exact one_wide p (bs s) n v (by omega) (by omega) hv' W
 ·rw [if_pos hk]
  exact one_text k w p (bs s) v hk W
end Go.Proofs.YtlcfpdmicpggbaaGreatDoor
namespace Go.Proofs.YtlcfpdmicpggbaaGreatDoor
open Go.Lib (hid)
open Go.RowKit Go.Proofs.Scn Go.Flow Go.Sort
theorem own_below {W w w':World} {v:Value} {L:List UInt8} (ho:OwnB W.heap.size w v L) (hb:Below W.heap.size W w) (hg:w.grownBy w' v.ownBlock):Below W.heap.size W w':=
 Below.grown hb hg hb.size fun k hk=>(World.ownsRow.lt ho k hk).1
def MarkT (W4 wr:World) (g:Nat) (tb:List Tok) (d k:Nat):Prop:=
 (∀ b,b ≠ g→wr.heap[b]?=W4.heap[b]?)∧wr.heap.size=W4.heap.size ∧
 (0<tb.length→∃ cur,wr.heap[g]?=some (.cells cur 55 (0,0))∧∀ i (h:i<tb.length),∀ j,j<5→cur[i * 5+j]?=(cellsT (if i<k then shiftT d tb[i] else tb[i]))[j]?)
theorem MarkT.tok {W4 wr:World} {g:Nat} {tb:List Tok} {d k i:Nat} (h:MarkT W4 wr g tb d k) (hi:i<tb.length):TokAt wr g (0+i * 5) (if i<k then shiftT d tb[i] else tb[i]):=by
 obtain ⟨cur,hg,hc⟩:=h.2.2 (by omega)
 have key:∀ j,j<5→wr.cell? ⟨g,0+i * 5+j,none⟩=(cellsT (if i<k then shiftT d tb[i] else tb[i]))[j]?:=by
  intro j hj
  rw [Nat.zero_add,cell_of_row wr g (i * 5+j) cur _ (0,0) hg]
  exact hc i hi j hj
 exact ⟨key 0 (by omega),key 1 (by omega),key 2 (by omega),key 3 (by omega),key 4 (by omega)⟩
theorem MarkT.at {W4 wr:World} {g:Nat} {tb:List Tok} {d k:Nat} (h:MarkT W4 wr g tb d k) (hk:k<tb.length):wr.cell? ⟨g,k * 5+4,none⟩=some (.int .i64 tb[k].p)∧wr.frozen? ⟨g,k * 5+4,none⟩=false:=by
 have h1:=(h.tok hk).c4
 rw [if_neg (Nat.lt_irrefl _),Nat.zero_add] at h1
 obtain ⟨cur,hg,hc⟩:=h.2.2 (by omega)
 exact ⟨h1,by simp [World.frozen?,hg]⟩
theorem MarkT.next {W4 wr:World} {g:Nat} {tb:List Tok} {d k:Nat} {p:Nat} (h:MarkT W4 wr g tb d k) (hk:k<tb.length) (hp:tb[k].p=p):MarkT W4 (wr.setCell ⟨g,k * 5+4,none⟩ (.int .i64 ((p:Int)+(d:Int)))) g tb d (k+1):=by
 obtain ⟨h1,h2,h3⟩:=h
 obtain ⟨cur,hg,hc⟩:=h3 (by omega)
 refine ⟨fun b hb=>?_,?_,fun _=>⟨cur.setIfInBounds (k * 5+4) (.int .i64 ((p:Int)+(d:Int))),?_,fun i hi j hj=>?_⟩⟩
 ·rw [← h1 b hb]
  simp [World.setCell,Array.getElem?_modify,Ne.symm hb]
 ·rw [← h2];simp [World.setCell]
 ·simp [World.setCell,Array.getElem?_modify,hg]
 ·have hcc:=hc i hi j hj
  rw [Array.getElem?_setIfInBounds]
  by_cases he:k * 5+4=i * 5+j
  ·obtain ⟨rfl,rfl⟩:k=i∧j=4:=by omega
   rw [if_pos he]
   rw [if_neg (Nat.lt_irrefl _)] at hcc
   have hlt:k * 5+4<cur.size:=by
    rcases Nat.lt_or_ge (k * 5+4) cur.size with h | h
    ·exact h
    ·rw [Array.getElem?_eq_none h] at hcc;simp [cellsT] at hcc
   rw [if_pos hlt,if_pos (Nat.lt_succ_self _)]
   simp [cellsT,shiftT,hp]
  ·rw [if_neg he,hcc]
   by_cases hik:i<k
   ·rw [if_pos hik,if_pos (by omega)]
   ·rw [if_neg hik]
    by_cases hik2:i=k
    ·subst hik2
     rw [if_pos (by omega)]
     obtain hj4:j ≠ 4:=by omega
     have:j=0∨j=1∨j=2∨j=3:=by omega
     rcases this with rfl | rfl | rfl | rfl <;> rfl
    ·rw [if_neg (by omega)]
theorem MarkT.whole {W4 wr:World} {g cp:Nat} {tb:List Tok} {d:Nat} (h:MarkT W4 wr g tb d tb.length) (hlt:g<wr.heap.size):Toks wr (.slice (some ⟨g,0,none⟩) tb.length cp) (tb.map (shiftT d)):=by
 refine .inr ⟨g,0,cp,by rw [List.length_map],hlt,fun k hk=>?_⟩
 have hk':k<tb.length:=by simpa using hk
 have:=h.tok hk'
 rw [if_pos hk'] at this
 rw [List.getElem_map]
 exact this
end Go.Proofs.YtlcfpdmicpggbaaGreatDoor
namespace Go.Proofs.YtlcfpdmicpggbaaGreatDoor
open Go.Lib (hid)
open Go.RowKit Go.Proofs.Scn Go.Flow Go.Sort
theorem own_form {B:Nat} {w:World} {v:Value} {L:List UInt8} (h:OwnB B w v L):∃ q c,v=.slice q L.length c:=by
 rcases h.2 with ⟨h1,h0⟩ | ⟨g,cap,cur,h1,_⟩
 ·exact ⟨none,0,by rw [h1,h0]⟩
 ·exact ⟨_,_,h1⟩
theorem src_one (w:World) (c:UInt8) (x:Int) (hx:(c.toNat:Int)=x):Src (w.alloc (.cells #[.int .u8 x] 5)) (.slice (some ⟨w.heap.size,0,none⟩) 1 1) [c]:=by
 refine .inr ⟨⟨w.heap.size,0,none⟩,1,rfl,fun j u hu=>?_⟩
 rcases j with _ | j
 ·simp [cellsB] at hu
  subst hu
  simp [Addr.add,World.cell?_alloc_new,hx]
 ·simp [cellsB] at hu
theorem src_conv (w:World) (l:List UInt8) (c:Nat):Src (Lib.bytesWorld w 5 (bs l)) (.slice (some ⟨w.heap.size,0,none⟩) l.length c) l:=by
 have:=Src.of_bytes (conv_bytes w (bs l) c) (.inr ⟨_,_,_,rfl⟩)
 rw [list_bs] at this
 exact this
def headR (ts:List Tok) (k:Nat):List UInt8:=if h:k=0∨ts.length≤k then textL (ts.take k) else textL (ts.take k) ++ [sepT (ts[k - 1]'(by omega))]
theorem headR_zero (ts:List Tok):headR ts 0=[]:=by unfold headR;rw [dif_pos (.inl rfl)];rfl
theorem headR_one (ts:List Tok) (k:Nat) (h:k<ts.length):headR ts k ++ oneT ts[k]=textL (ts.take (k+1)):=by
 rw [List.take_succ_eq_append_getElem h]
 unfold headR
 by_cases h0:k=0
 ·subst h0
  rw [dif_pos (.inl rfl)]
  simp [textL]
 ·rw [dif_neg (by omega)]
  obtain ⟨j,rfl⟩:∃ j,k=j+1:=⟨k - 1,by omega⟩
  rw [List.take_succ_eq_append_getElem (show j<ts.length by omega),List.append_assoc,List.append_assoc]
  exact (textL_snoc ts[j] ts[j+1] (ts.take j)).symm
theorem headR_last (ts:List Tok) (k:Nat) (h:ts.length≤k):headR ts k=textL ts:=by
 unfold headR
 rw [dif_pos (.inr h),List.take_of_length_le h]
theorem headR_next (ts:List Tok) (k:Nat) (h:k+1<ts.length):headR ts (k+1)=textL (ts.take (k+1)) ++ [sepT (ts[k]'(by omega))]:=by
 unfold headR
 rw [dif_neg (by omega)]
 rfl
theorem headR_le (ts:List Tok) (k:Nat):(headR ts k).length≤(textL ts).length:=by
 by_cases h:k<ts.length
 ·have h1:=textL_take ts (k+1)
  have h2:=headR_one ts k h
  rw [← h2,List.length_append] at h1
  omega
 ·rw [headR_last ts k (by omega)]
  exact Nat.le_refl _
theorem word_not {l:List UInt8} (h:isWord l=true):l ≠ [59]∧l ≠ [123]∧l ≠ [125]:=by
 refine ⟨?_,?_,?_⟩ <;> (rintro rfl;exact absurd h (by decide))
theorem name_not {l:List UInt8} (h:isName l=true):l ≠ [59]∧l ≠ [123]∧l ≠ [125]:=by
 refine ⟨?_,?_,?_⟩ <;> (rintro rfl;exact absurd h (by decide))
theorem sep_kind {t:Tok} (h:checkT t=true) (hk:t.k ≠ 4):sepT t=32:=by
 have key:t.s ≠ [59]∧t.s ≠ [123]∧t.s ≠ [125]:=by
  rcases checkT_kinds h with ⟨_,hn⟩ | ⟨_,hn⟩ | ⟨h4,_⟩ | ⟨h3,_⟩
  ·exact name_not hn
  ·exact word_not hn
  ·exact (hk h4).elim
  ·have:t.s=[]:=by
    unfold checkT at h
    simp [h3] at h
    exact h.2.1
   rw [this]
   refine ⟨?_,?_,?_⟩ <;> simp
 unfold sepT
 rw [if_neg]
 rintro (h | h | h)
 ·exact key.1 h
 ·exact key.2.1 h
 ·exact key.2.2 h
theorem rtext_some (b off cap:Nat) (ts:List Tok) (hl:ts.length≤140737488351232) (W:World) (hlt:b<W.heap.size) (hc:∀ k (h:k<ts.length),TokAt W b (off+k * 5) ts[k]) (hv:∀ t ∈ ts,t.v<two64∧t.s.length≤140737488355328) (hB:Base W) :
  Calls Tryz.prog 64 #[.slice (some ⟨b,off,none⟩) ts.length cap] W (TextPost W ts):=by
 have HC:=hid hc
 have HV:=hid hv
 have HB:=hid hB
 have hconv:=conv_run
 clear hc hv hB
 have hdef:∀ e W',(TextPost W ts e W' ↔ TextPost W ts e W'):=fun _ _=>Iff.rfl
 generalize hP:TextPost W ts=P at hdef ⊢
 have HP:=hid hP
 clear hdef hP
 go_enter Tryz.func64,Tryz.ntmps64
 go_wp2
 go_loopw [5] (fun i wr=>∃ k:Nat,k≤ts.length∧i=.int .i64 k∧Hid (∀ t ∈ ts.take k,checkT t=true)∧Hid (Below W.heap.size W wr)) (fun i _=>ts.length - (intOf i).toNat)
 case atStart=>exact ⟨0,Nat.zero_le _,rfl,hid (by simp),hid (Below.refl _ _)⟩
 case round=>
  obtain ⟨k,hk,rfl,HA,HX⟩:=hrel
  by_cases hks:k<ts.length
  ·obtain ⟨c0,c1,c2,c3,c4⟩:=(HC.out k hks).later hlt HX.out
   have hmem:ts[k] ∈ ts:=List.getElem_mem hks
   have hvk:=HV.out _ hmem
   have kc:=fun W hB=>refCheck_any ts[k].k ts[k].w ts[k].p (bs ts[k].s) ts[k].v (by show ts[k].s.length≤_;omega) hvk.1 W hB
   rw [list_bs] at kc
   have hnext:checkT ts[k]=true→∀ t ∈ ts.take (k+1),checkT t=true:=by
    intro h t ht
    rw [List.take_succ_eq_append_getElem hks] at ht
    rcases List.mem_append.1 ht with h1 | h1
    ·exact HA.out t h1
    ·rw [List.mem_singleton.1 h1];exact h
   have hbad:checkT ts[k]=false→ts.all checkT=false:=by
    intro h
    rw [List.all_eq_false]
    exact ⟨_,hmem,by simp [h]⟩
   have HBX:=hid (HB.out.later HX.out)
   have hceq:∀ t:Tok,checkT ⟨t.k,t.s,t.w,t.v,t.p⟩=checkT t:=fun t=>rfl
   rw [hceq] at kc
   clear hceq hvk hmem
   generalize ts[k]=t at *
   cases hct:checkT t
   ·rw [hct,show errB false=1 from rfl] at kc
    have KC:=hid kc
    have HN:=hid (hbad hct)
    clear kc hnext hbad hct
    go_wp2_with fail
    refine (KC.out _ HBX.out).mono ?_
    rintro e W2 ⟨rfl,hb2⟩
    have HZ:=hid (HX.out.trans (hb2.mono HX.out.size))
    clear hb2
    go_wp2
    rw [← HP.out]
    refine ⟨?_,HZ.out⟩
    rw [HN.out]
    rfl
   ·rw [hct,show errB true=0 from rfl] at kc
    have KC:=hid kc
    have HN:=hid (hnext hct)
    clear kc hnext hbad hct
    go_wp2_with fail
    refine (KC.out _ HBX.out).mono ?_
    rintro e W2 ⟨rfl,hb2⟩
    have HZ:=hid (HX.out.trans (hb2.mono HX.out.size))
    clear hb2
    go_wp2_with fail
    go_roundw
    case rel=>exact ⟨k+1,by omega,by go_num,HN,HZ⟩
    case measure=>simp [intOf];omega
  ·obtain rfl:k=ts.length:=by omega
   have hall:∀ t ∈ ts,checkT t=true:=by
    have:=HA.out
    rwa [List.take_length] at this
   have HAll:=hid hall
   clear hall HA
   have HX0:=hid HX.out
   go_wp2_with fail
   go_loopw [4,6] (fun u i wr=>∃ (k:Nat) (q:Option Addr) (cp:Nat) (L:List UInt8),k≤ts.length∧u=.slice q L.length cp∧i=.int .i64 k∧L.length≤65700∧Hid (L=headR ts k)∧Hid (OwnB W.heap.size wr (.slice q L.length cp) L)∧Hid (Below W.heap.size W wr)) (fun _ i _=>ts.length - (intOf i).toNat)
   case atStart=>exact ⟨0,none,0,[],Nat.zero_le _,rfl,rfl,by simp,hid (headR_zero ts).symm,hid (OwnB.nil _ _),HX0⟩
   case round=>
    obtain ⟨k,q,cp,L,hk,rfl,rfl,hL,HL,HO,HX⟩:=hrel
    by_cases hks:k<ts.length
    ·by_cases hbig:L.length≤65536
     ·have hbig':(L.length:Int)≤65536:=by omega
      obtain ⟨c0,c1,c2,c3,c4⟩:=(HC.out k hks).later hlt HX.out
      have HTk:=hid ((HC.out k hks).later hlt HX.out)
      have hmem:ts[k] ∈ ts:=List.getElem_mem hks
      have hvk:=HV.out _ hmem
      have hck:=HAll.out _ hmem
      have hol:=one_len hck hvk.1
      have kw:=fun W=>one_any ts[k] hck hvk.1 W
      have hfin:L ++ oneT ts[k]=textL (ts.take (k+1)):=by rw [HL.out];exact headR_one ts k hks
      have hosz:(bs (oneT ts[k])).size=(oneT ts[k]).length:=rfl
      have hlw:b<wr.heap.size:=Nat.lt_of_lt_of_le hlt HX.out.size
      have hlast:k+1=ts.length→L ++ oneT ts[k]=headR ts (k+1):=fun h=>by rw [headR_last ts (k+1) (by omega),hfin,h,List.take_length]
      have hnext:k+1<ts.length→(L ++ oneT ts[k]) ++ [sepT ts[k]]=headR ts (k+1):=fun h=>by rw [headR_next ts k h,hfin]
      have hsk:=@sep_kind ts[k] hck
      have hs5:sepT ts[k]=if ts[k].s=[59]∨ts[k].s=[123]∨ts[k].s=[125] then 10 else 32:=rfl
      have hsq:(bs ts[k].s).toList=ts[k].s:=by rw [toList_eq,list_bs]
      have KW:=hid kw
      clear kw hck hvk hmem hfin
      obtain ⟨M,hM⟩:∃ M,L ++ oneT ts[k]=M:=⟨_,rfl⟩
      have hMl:M.length≤65600:=by rw [← hM,List.length_append];omega
      rw [hM] at hlast hnext
      have HM:=hid hM
      have HLast:=hid hlast
      have HNext:=hid hnext
      clear hM hlast hnext
      generalize sepT ts[k]=sp at *
      generalize hT:ts[k]=t at *
      have HT:=hid hT
      clear hT
      by_cases hlst:k+1=ts.length
      ·have hi1:¬ (k:Int)<(ts.length:Int) - 1:=by omega
       go_wp2_with fail
       refine (KW.out _).mono ?_
       rintro e W2 ⟨rfl,hb2⟩
       have hbw:=Joins.below_bytesWorld W2.heap.size W2 5 (bs (oneT t)) (Nat.le_refl _)
       have hbx:=hb2.trans (hbw.mono hb2.size)
       have HO3:=hid (HO.out.later hbx)
       have HB3:=hid (HX.out.trans (hbx.mono HX.out.size))
       have HWr:=hid hbx
       clear hb2 hbw hbx
       go_wp2_with (at_builtin;refine wpList_append_src rfl _ _ rfl W.heap.size _ L (oneT t) rfl HO3.out _ rfl (src_conv W2 (oneT t) _) (by omega) HB3.out.size ?_;intro u3 w3 hown3 hgr3;have X3:=hid (own_below HO3.out HB3.out hgr3);rw [HM.out] at hown3;obtain ⟨q3,cp3,hu3⟩:=own_form hown3;subst hu3;have own3:=hid hown3;clear hown3 hgr3)
       go_roundw
       case rel=>exact ⟨k+1,q3,cp3,M,by omega,rfl,by go_num,by omega,hid (HLast.out hlst),own3,X3⟩
       case measure=>simp [intOf];omega
      ·have hi1:(k:Int)<(ts.length:Int) - 1:=by omega
       by_cases h4:t.k=4
       ·rw [← hsq] at hs5
        have H4:=hid h4
        clear h4 hsk
        have hsq2:bs t.s=bs t.s:=rfl
        clear hsq2
        by_cases t1:(bs t.s).toList=[59]
        ·have hc:sp=10:=by rw [hs5,if_pos (.inl t1)]
         clear hs5 hsq
         subst hc
         go_wp2_with fail
         refine (KW.out _).mono ?_
         rintro e W2 ⟨rfl,hb2⟩
         have hbw:=Joins.below_bytesWorld W2.heap.size W2 5 (bs (oneT t)) (Nat.le_refl _)
         have hbx:=hb2.trans (hbw.mono hb2.size)
         have HO3:=hid (HO.out.later hbx)
         have HB3:=hid (HX.out.trans (hbx.mono HX.out.size))
         have HWr:=hid hbx
         clear hb2 hbw hbx
         go_wp2_with (at_builtin;first
          | (refine wpList_append_src rfl _ _ rfl W.heap.size _ L (oneT t) rfl HO3.out _ rfl (src_conv W2 (oneT t) _) (by omega) HB3.out.size ?_;intro u3 w3 hown3 hgr3;have X3:=hid (own_below HO3.out HB3.out hgr3);rw [HM.out] at hown3;obtain ⟨q3,cp3,hu3⟩:=own_form hown3;subst hu3;obtain ⟨d0,d1,d2,d3,d4⟩:=(HT.out ▸ (HC.out k hks).later hlt X3.out:TokAt w3 b (off+k * 5) t);rw [H4.out] at d0;have own3:=hid (hown3.later ((Below.refl _ _).alloc (Nat.le_refl _) (.cells #[.int .u8 10] 5)));have Y3:=hid (X3.out.alloc X3.out.size (.cells #[.int .u8 10] 5));clear hown3 hgr3)
          | (refine wpList_append_src rfl _ _ rfl W.heap.size _ M [10] rfl own3.out _ rfl (src_one w3 10 10 rfl) (by simp;omega) Y3.out.size ?_;intro u4 w4 hown4 hgr4;have X4:=hid (own_below own3.out Y3.out hgr4);obtain ⟨q4,cp4,hu4⟩:=own_form hown4;subst hu4;have own4:=hid hown4;clear hown4 hgr4))
         go_roundw
         case rel=>exact ⟨k+1,q4,cp4,M ++ [10],by omega,by simp,by go_num,by simp;omega,hid (HNext.out (by omega)),own4,X4⟩
         case measure=>simp [intOf];omega
        by_cases t2:(bs t.s).toList=[123]
        ·have hc:sp=10:=by rw [hs5,if_pos (.inr (.inl t2))]
         clear hs5 hsq
         subst hc
         go_wp2_with fail
         refine (KW.out _).mono ?_
         rintro e W2 ⟨rfl,hb2⟩
         have hbw:=Joins.below_bytesWorld W2.heap.size W2 5 (bs (oneT t)) (Nat.le_refl _)
         have hbx:=hb2.trans (hbw.mono hb2.size)
         have HO3:=hid (HO.out.later hbx)
         have HB3:=hid (HX.out.trans (hbx.mono HX.out.size))
         have HWr:=hid hbx
         clear hb2 hbw hbx
         go_wp2_with (at_builtin;first
          | (refine wpList_append_src rfl _ _ rfl W.heap.size _ L (oneT t) rfl HO3.out _ rfl (src_conv W2 (oneT t) _) (by omega) HB3.out.size ?_;intro u3 w3 hown3 hgr3;have X3:=hid (own_below HO3.out HB3.out hgr3);rw [HM.out] at hown3;obtain ⟨q3,cp3,hu3⟩:=own_form hown3;subst hu3;obtain ⟨d0,d1,d2,d3,d4⟩:=(HT.out ▸ (HC.out k hks).later hlt X3.out:TokAt w3 b (off+k * 5) t);rw [H4.out] at d0;have own3:=hid (hown3.later ((Below.refl _ _).alloc (Nat.le_refl _) (.cells #[.int .u8 10] 5)));have Y3:=hid (X3.out.alloc X3.out.size (.cells #[.int .u8 10] 5));clear hown3 hgr3)
          | (refine wpList_append_src rfl _ _ rfl W.heap.size _ M [10] rfl own3.out _ rfl (src_one w3 10 10 rfl) (by simp;omega) Y3.out.size ?_;intro u4 w4 hown4 hgr4;have X4:=hid (own_below own3.out Y3.out hgr4);obtain ⟨q4,cp4,hu4⟩:=own_form hown4;subst hu4;have own4:=hid hown4;clear hown4 hgr4))
         go_roundw
         case rel=>exact ⟨k+1,q4,cp4,M ++ [10],by omega,by simp,by go_num,by simp;omega,hid (HNext.out (by omega)),own4,X4⟩
         case measure=>simp [intOf];omega
        by_cases t3:(bs t.s).toList=[125]
        ·have hc:sp=10:=by rw [hs5,if_pos (.inr (.inr t3))]
         clear hs5 hsq
         subst hc
         go_wp2_with fail
         refine (KW.out _).mono ?_
         rintro e W2 ⟨rfl,hb2⟩
         have hbw:=Joins.below_bytesWorld W2.heap.size W2 5 (bs (oneT t)) (Nat.le_refl _)
         have hbx:=hb2.trans (hbw.mono hb2.size)
         have HO3:=hid (HO.out.later hbx)
         have HB3:=hid (HX.out.trans (hbx.mono HX.out.size))
         have HWr:=hid hbx
         clear hb2 hbw hbx
         go_wp2_with (at_builtin;first
          | (refine wpList_append_src rfl _ _ rfl W.heap.size _ L (oneT t) rfl HO3.out _ rfl (src_conv W2 (oneT t) _) (by omega) HB3.out.size ?_;intro u3 w3 hown3 hgr3;have X3:=hid (own_below HO3.out HB3.out hgr3);rw [HM.out] at hown3;obtain ⟨q3,cp3,hu3⟩:=own_form hown3;subst hu3;obtain ⟨d0,d1,d2,d3,d4⟩:=(HT.out ▸ (HC.out k hks).later hlt X3.out:TokAt w3 b (off+k * 5) t);rw [H4.out] at d0;have own3:=hid (hown3.later ((Below.refl _ _).alloc (Nat.le_refl _) (.cells #[.int .u8 10] 5)));have Y3:=hid (X3.out.alloc X3.out.size (.cells #[.int .u8 10] 5));clear hown3 hgr3)
          | (refine wpList_append_src rfl _ _ rfl W.heap.size _ M [10] rfl own3.out _ rfl (src_one w3 10 10 rfl) (by simp;omega) Y3.out.size ?_;intro u4 w4 hown4 hgr4;have X4:=hid (own_below own3.out Y3.out hgr4);obtain ⟨q4,cp4,hu4⟩:=own_form hown4;subst hu4;have own4:=hid hown4;clear hown4 hgr4))
         go_roundw
         case rel=>exact ⟨k+1,q4,cp4,M ++ [10],by omega,by simp,by go_num,by simp;omega,hid (HNext.out (by omega)),own4,X4⟩
         case measure=>simp [intOf];omega
        have b1:((bs t.s).toList == [59])=false:=by simpa using t1
        have b2:((bs t.s).toList == [123])=false:=by simpa using t2
        have b3:((bs t.s).toList == [125])=false:=by simpa using t3
        have hc:sp=32:=by rw [hs5,if_neg (fun h=>h.elim t1 (fun h=>h.elim t2 t3))]
        clear hs5 hsq
        subst hc
        go_wp2_with fail
        refine (KW.out _).mono ?_
        rintro e W2 ⟨rfl,hb2⟩
        have hbw:=Joins.below_bytesWorld W2.heap.size W2 5 (bs (oneT t)) (Nat.le_refl _)
        have hbx:=hb2.trans (hbw.mono hb2.size)
        have HO3:=hid (HO.out.later hbx)
        have HB3:=hid (HX.out.trans (hbx.mono HX.out.size))
        have HWr:=hid hbx
        clear hb2 hbw hbx
        go_wp2_with (at_builtin;first
         | (refine wpList_append_src rfl _ _ rfl W.heap.size _ L (oneT t) rfl HO3.out _ rfl (src_conv W2 (oneT t) _) (by omega) HB3.out.size ?_;intro u3 w3 hown3 hgr3;have X3:=hid (own_below HO3.out HB3.out hgr3);rw [HM.out] at hown3;obtain ⟨q3,cp3,hu3⟩:=own_form hown3;subst hu3;obtain ⟨d0,d1,d2,d3,d4⟩:=(HT.out ▸ (HC.out k hks).later hlt X3.out:TokAt w3 b (off+k * 5) t);rw [H4.out] at d0;have own3:=hid (hown3.later ((Below.refl _ _).alloc (Nat.le_refl _) (.cells #[.int .u8 32] 5)));have Y3:=hid (X3.out.alloc X3.out.size (.cells #[.int .u8 32] 5));clear hown3 hgr3)
         | (refine wpList_append_src rfl _ _ rfl W.heap.size _ M [32] rfl own3.out _ rfl (src_one w3 32 32 rfl) (by simp;omega) Y3.out.size ?_;intro u4 w4 hown4 hgr4;have X4:=hid (own_below own3.out Y3.out hgr4);obtain ⟨q4,cp4,hu4⟩:=own_form hown4;subst hu4;have own4:=hid hown4;clear hown4 hgr4))
        go_roundw
        case rel=>exact ⟨k+1,q4,cp4,M ++ [32],by omega,by simp,by go_num,by simp;omega,hid (HNext.out (by omega)),own4,X4⟩
        case measure=>simp [intOf];omega
       ·have hsp:=hsk h4
        subst hsp
        clear hs5 hsk
        go_wp2_with fail
        refine (KW.out _).mono ?_
        rintro e W2 ⟨rfl,hb2⟩
        have hbw:=Joins.below_bytesWorld W2.heap.size W2 5 (bs (oneT t)) (Nat.le_refl _)
        have hbx:=hb2.trans (hbw.mono hb2.size)
        have HO3:=hid (HO.out.later hbx)
        have HB3:=hid (HX.out.trans (hbx.mono HX.out.size))
        have HWr:=hid hbx
        clear hb2 hbw hbx
        go_wp2_with (at_builtin;first
         | (refine wpList_append_src rfl _ _ rfl W.heap.size _ L (oneT t) rfl HO3.out _ rfl (src_conv W2 (oneT t) _) (by omega) HB3.out.size ?_;intro u3 w3 hown3 hgr3;have X3:=hid (own_below HO3.out HB3.out hgr3);rw [HM.out] at hown3;obtain ⟨q3,cp3,hu3⟩:=own_form hown3;subst hu3;obtain ⟨d0,d1,d2,d3,d4⟩:=(HT.out ▸ (HC.out k hks).later hlt X3.out:TokAt w3 b (off+k * 5) t);have own3:=hid (hown3.later ((Below.refl _ _).alloc (Nat.le_refl _) (.cells #[.int .u8 32] 5)));have Y3:=hid (X3.out.alloc X3.out.size (.cells #[.int .u8 32] 5));clear hown3 hgr3)
         | (refine wpList_append_src rfl _ _ rfl W.heap.size _ M [32] rfl own3.out _ rfl (src_one w3 32 32 rfl) (by simp;omega) Y3.out.size ?_;intro u4 w4 hown4 hgr4;have X4:=hid (own_below own3.out Y3.out hgr4);obtain ⟨q4,cp4,hu4⟩:=own_form hown4;subst hu4;have own4:=hid hown4;clear hown4 hgr4))
        go_roundw
        case rel=>exact ⟨k+1,q4,cp4,M ++ [32],by omega,by simp,by go_num,by simp;omega,hid (HNext.out (by omega)),own4,X4⟩
        case measure=>simp [intOf];omega
     ·have hbig':¬ (L.length:Int)≤65536:=by omega
      have hover:¬ (textL ts).length≤65536:=by
       have:=headR_le ts k
       rw [← HL.out] at this
       omega
      have HOver:=hid hover
      have hbig2:(65536:Int)<(L.length:Int):=by omega
      clear hover hbig
      go_wp2_with fail
      rw [← HP.out]
      refine ⟨?_,HX.out⟩
      rw [if_pos (by rw [List.all_eq_true];exact HAll.out),if_neg HOver.out]
    ·obtain rfl:k=ts.length:=by omega
     have hLt:=HL.out
     rw [headR_last ts _ (Nat.le_refl _)] at hLt
     have HLt:=hid hLt
     clear hLt
     by_cases hbig:L.length≤65536
     ·have hbig2:¬ (65536:Int)<(L.length:Int):=by omega
      go_wp2_with fail
      rw [← HP.out]
      refine ⟨?_,HX.out⟩
      rw [if_pos (by rw [List.all_eq_true];exact HAll.out),if_pos (by rw [← HLt.out];exact hbig),← HLt.out]
      exact ⟨_,rfl,HO.out⟩
     ·have hbig2:(65536:Int)<(L.length:Int):=by omega
      go_wp2_with fail
      rw [← HP.out]
      refine ⟨?_,HX.out⟩
      rw [if_pos (by rw [List.all_eq_true];exact HAll.out),if_neg (by rw [← HLt.out];exact hbig)]
      rfl
theorem rtext_empty (p:Option Addr) (c:Nat) (W:World) :
  Calls Tryz.prog 64 #[.slice p 0 c] W (TextPost W []):=by
 have hdef:∀ e W',(TextPost W [] e W' ↔ TextPost W [] e W'):=fun _ _=>Iff.rfl
 generalize hP:TextPost W []=P at hdef ⊢
 have HP:=hid hP
 clear hdef hP
 go_enter Tryz.func64,Tryz.ntmps64
 go_wp2
 refine wp_loop_rounds 1 ?_
 rw [rounds_succ]
 go_wp2
 refine wp_loop_rounds 1 ?_
 rw [rounds_succ]
 go_wp2
 rw [← HP.out]
 exact ⟨⟨_,rfl,OwnB.nil _ _⟩,Below.refl _ _⟩
theorem rtext_any (v:Value) (ts:List Tok) (hl:ts.length≤140737488351232) (W:World) (ht:Toks W v ts) (hv:∀ t ∈ ts,t.v<two64∧t.s.length≤140737488355328) (hB:Base W) :
  Calls Tryz.prog 64 #[v] W (TextPost W ts):=by
 rcases ht with ⟨rfl,p,c,rfl⟩ | ⟨b,off,cap,rfl,hlt,hc⟩
 ·exact rtext_empty p c W
 ·exact rtext_some b off cap ts hl W hlt hc hv hB
end Go.Proofs.YtlcfpdmicpggbaaGreatDoor
namespace Go.Proofs.YtlcfpdmicpggbaaGreatDoor
open Go.Lib (hid)
open Go.RowKit Go.Proofs.Spl Go.Proofs.Scn Go.Shelf
theorem printX4_any (x:X) (cs:List Value) (W:World) (hB:BaseA W) (hR:XR W x cs) (h1:smX x=true) (h2:sizeX x≤60000):Calls Tryz.prog 26 #[.agg cs.toArray] W (PrPost W (checkX x) (exprT x)):=by
 have HT:=hid (fun (W9:World) (h:Below W.heap.size W W9)=>(tokensX4_any x cs W9 (XR.later h _ _ hR) h1 h2).mono (fun e W' k=>show ∃ p n d,e=.returned (.tuple #[.slice p n d,.int .i64 (checkX x)])∧(checkX x=0→Toks W' (.slice p n d) (exprT x))∧Below W9.heap.size W9 W' by
  obtain ⟨v,rfl,hx,hb⟩:=k
  obtain ⟨p,n,d,rfl⟩:=hx.shape3
  exact ⟨p,n,d,rfl,fun h0=>by rw [if_pos h0] at hx;exact hx.own.toks,hb⟩))
 have HP:=hid (fun (h0:checkX x=0) (W9:World) (p:Option Addr) (n k:Nat) (h:Below W.heap.size W W9) (ht:Toks W9 (.slice p n k) (exprT x))=>rtext_any _ (exprT x) (by have:=expr_len x;omega) W9 ht (fun t h=>by have q:=fair_expr x (checkX_ok.1 h0).2.2 t h;exact ⟨q.1,q.2⟩) (hB.later h).base)
 have HC:=hid (fun (h0:checkX x=0)=>show (exprT x).all checkT=true from even_check _ _ (bal_expr x (checkX_ok.1 h0).2.2).even)
 obtain ⟨hv,ls,rfl,hL⟩:=XR_iff.1 hR
 obtain ⟨p,c,rfl,_⟩:=hL
 clear hR hB h1 h2
 generalize checkX x=r at *
 generalize exprT x=ts at *
 have hc:((r != 0)=true∧r ≠ 0)∨r=0:=by
  by_cases h:r=0
  ·exact .inr h
  ·exact .inl ⟨by simpa using h,h⟩
 rcases hc with ⟨hc,hn⟩ | rfl
 all_goals try have HN:=hid hn
 all_goals try clear hn
 all_goals
  go_enter Tryz.func26,Tryz.ntmps26
  go_wp2_with (first
   | (go_at_call 19;refine (HT.out _ ((Below.refl _ _).alloc (Nat.le_refl _) _)).mono ?_;rintro e W2 ⟨p9,n9,c9,rfl,h1,hb⟩;have H1:=hid h1;have C2:=hid (bthen ((Below.refl W.heap.size W).alloc (Nat.le_refl _) _) hb);clear hb h1 HT)
   | (go_at_call 64;refine (HP.out (by trivial) _ _ _ _ C2.out (H1.out (by trivial))).mono ?_;rintro e W3 h;obtain ⟨p8,n8,c8,rfl,h1,h2⟩:=Below.pr C2.out (textPost_pr (HC.out (by trivial)) h);have K1:=hid h1;have K2:=hid h2;clear h h1 h2 HP))
  go_ret2
  first
   | exact ⟨_,_,_,rfl,K1.out,K2.out⟩
   | (have hp:prE r ts=r:=by unfold prE;rw [if_neg HN.out]
      exact ⟨_,_,_,by rw [hp];rfl,by rw [hp,if_neg HN.out];exact OwnB.nil _ _,C2.out⟩)
theorem print4_any (x:List Md) (p:Option Addr) (c:Nat) (W:World) (hB:BaseA W) (hR:MsR W (.slice p x.length c) x) (h1:x.all smM=true) (h2:sumN sizeM x≤60000):Calls Tryz.prog 24 #[.agg #[.slice p x.length c]] W (PrPost W (checkF x) (fileT x)):=by
 have HT:=hid (fun (W9:World) (h:Below W.heap.size W W9)=>(tokens4_any x p c W9 (MsR.later hR h) h1 h2).mono (fun e W' k=>show ∃ p n d,e=.returned (.tuple #[.slice p n d,.int .i64 (checkF x)])∧(checkF x=0→Toks W' (.slice p n d) (fileT x))∧Below W9.heap.size W9 W' by
  obtain ⟨v,rfl,hx,hb⟩:=k
  obtain ⟨p,n,d,rfl⟩:=hx.shape3
  exact ⟨p,n,d,rfl,fun h0=>by rw [if_pos h0] at hx;exact hx.own.toks,hb⟩))
 have HP:=hid (fun (h0:checkF x=0) (W9:World) (p:Option Addr) (n k:Nat) (h:Below W.heap.size W W9) (ht:Toks W9 (.slice p n k) (fileT x))=>rtext_any _ (fileT x) (by have:=file_len x;omega) W9 ht (fun t h=>by have q:=fair_file (checkF_ok.1 h0).2.2.2 t h;exact ⟨q.1,q.2⟩) (hB.later h).base)
 have HC:=hid (fun (h0:checkF x=0)=>show (fileT x).all checkT=true from even_check _ _ (bal_file (checkF_ok.1 h0).2.2.2).even)
 clear hR hB h1 h2
 generalize checkF x=r at *
 generalize fileT x=ts at *
 have hc:((r != 0)=true∧r ≠ 0)∨r=0:=by
  by_cases h:r=0
  ·exact .inr h
  ·exact .inl ⟨by simpa using h,h⟩
 rcases hc with ⟨hc,hn⟩ | rfl
 all_goals try have HN:=hid hn
 all_goals try clear hn
 all_goals
  go_enter Tryz.func24,Tryz.ntmps24
  go_wp2_with (first
   | (go_at_call 17;refine (HT.out _ ((Below.refl _ _).alloc (Nat.le_refl _) _)).mono ?_;rintro e W2 ⟨p9,n9,c9,rfl,h1,hb⟩;have H1:=hid h1;have C2:=hid (bthen ((Below.refl W.heap.size W).alloc (Nat.le_refl _) _) hb);clear hb h1 HT)
   | (go_at_call 64;refine (HP.out (by trivial) _ _ _ _ C2.out (H1.out (by trivial))).mono ?_;rintro e W3 h;obtain ⟨p8,n8,c8,rfl,h1,h2⟩:=Below.pr C2.out (textPost_pr (HC.out (by trivial)) h);have K1:=hid h1;have K2:=hid h2;clear h h1 h2 HP))
  go_ret2
  first
   | exact ⟨_,_,_,rfl,K1.out,K2.out⟩
   | (have hp:prE r ts=r:=by unfold prE;rw [if_neg HN.out]
      exact ⟨_,_,_,by rw [hp];rfl,by rw [hp,if_neg HN.out];exact OwnB.nil _ _,C2.out⟩)
end Go.Proofs.YtlcfpdmicpggbaaGreatDoor
namespace Go.Proofs.YtlcfpdmicpggbaaGreatDoor
open Go.Lib (hid)
open Go.RowKit Go.Proofs.Spl Go.Proofs.Scn Go.Shelf
theorem laid4_below:∀ (l:List Obj) (W:World),Below W.heap.size W (l.foldl World.alloc W)
 | [],W=>Below.refl _ _
 | o :: l,W=>((Below.refl _ _).alloc (Nat.le_refl _) o).trans ((laid4_below l (W.alloc o)).mono (by simp))
theorem laid4_at:∀ (l:List Obj) (W:World) (i:Nat) (o:Obj),l[i]?=some o→(l.foldl World.alloc W).heap[W.heap.size+i]?=some o
 | [],_,i,_,h=>by simp at h
 | a :: l,W,0,o,h=>by
  simp only [List.getElem?_cons_zero,Option.some.injEq] at h
  subst h
  exact ((laid4_below l (W.alloc a)).block W.heap.size (by simp)).trans (World.alloc_heap_new W a)
 | a :: l,W,i+1,o,h=>by
  have:=laid4_at l (W.alloc a) i o (by simpa using h)
  rw [World.size_alloc] at this
  rw [show W.heap.size+(i+1)=W.heap.size+1+i by omega]
  exact this
theorem row4 {w w':World} {b:Nat} {cs:Array Value} {T:TypeId} (hr:w.heap[b]?=some (.cells cs T (0,0))) (h:Below w.heap.size w w') (i:Nat) (v:Value) (hv:cs[i]?=some v):w'.cell? ⟨b,i,none⟩=some v:=
 (cell_of_row _ _ _ _ _ _ ((h.block _ (Array.getElem?_eq_some_iff.1 hr).1).trans hr)).trans hv
end Go.Proofs.YtlcfpdmicpggbaaGreatDoor
namespace Go.Proofs.YtlcfpdmicpggbaaGreatDoor
open Go.Lib (hid)
open Go.RowKit Go.Proofs.Spl Go.Proofs.Scn Go.Shelf
theorem pr_use {W W':World} {c:Int} {ts:List Tok} {e:Ending} (k:PrPost W c ts e W'):∃ p n d,e=.returned (.tuple #[.slice p n d,.int .i64 (prE c ts)])∧Bytes W' (.slice p n d) (bs (if prE c ts=0 then textL ts else []))∧Below W.heap.size W W':=by
 obtain ⟨p,n,d,rfl,hx,hb⟩:=k
 exact ⟨p,n,d,rfl,hx.bytes,hb⟩
theorem prints_any (f:List Md) (p:Option Addr) (c:Nat) (x:X) (cx0:List Value) (W:World) (hB:BaseA W) (hR:MsR W (.slice p f.length c) f) (hX:XR W x cx0)
  (f1:sumN sizeM f≤1048576) (f2:f.all smM=true) (x1:sizeX x≤1048576) (x2:smX x=true) :
  RetB 4 #[.agg #[.slice p f.length c],.agg cx0.toArray] W true:=by
 have HF:=hid (fun (W9:World) (h:Below W.heap.size W W9)=>few_any f p c W9 (MsR.later hR h) (by omega))
 have HG:=hid (fun (W9:World) (h:Below W.heap.size W W9)=>fewX_any x cx0 W9 (XR.later h _ _ hX) (by omega))
 have K1:=hid (fun (hq:fewB (sumN sizeM f) (maxN deepM f)=true) (W9:World) (h:Below W.heap.size W W9)=>(print_any f p c W9 (hB.later h) (MsR.later hR h) f2 (by have:=fewB_le hq;omega)).mono fun _ _ k=>pr_use k)
 have K2:=hid (fun (hq:fewB (sumN sizeM f) (maxN deepM f)=true) (W9:World) (h:Below W.heap.size W W9)=>(print4_any f p c W9 (hB.later h) (MsR.later hR h) f2 (by have:=fewB_le hq;omega)).mono fun _ _ k=>pr_use k)
 have K3:=hid (fun (hq:fewB (sizeX x) (deepX x)=true) (W9:World) (h:Below W.heap.size W W9)=>(printX_any x cx0 W9 (hB.later h) (XR.later h _ _ hX) x2 (by have:=fewB_le hq;omega)).mono fun _ _ k=>pr_use k)
 have K4:=hid (fun (hq:fewB (sizeX x) (deepX x)=true) (W9:World) (h:Below W.heap.size W W9)=>(printX4_any x cx0 W9 (hB.later h) (XR.later h _ _ hX) x2 (by have:=fewB_le hq;omega)).mono fun _ _ k=>pr_use k)
 have HB:=hid hB
 obtain ⟨_,ls,rfl,hL⟩:=XR_iff.1 hX
 obtain ⟨px,cx,rfl,_⟩:=hL
 clear hB hR hX f1 f2 x1 x2
 generalize fewB (sumN sizeM f) (maxN deepM f)=q1 at *
 generalize fewB (sizeX x) (deepX x)=q2 at *
 generalize bs (if prE (checkF f) (fileT f)=0 then textL (fileT f) else [])=k1 at *
 generalize bs (if prE (checkX x) (exprT x)=0 then textL (exprT x) else [])=k2 at *
 generalize prE (checkF f) (fileT f)=r1 at *
 generalize prE (checkX x) (exprT x)=r2 at *
 obtain ⟨V,hV⟩:∃ V,V=(W.alloc (.cells #[.slice p f.length c] 24)).alloc (.cells #[.int .i64 x.op,.string (bs x.name),.int .i64 x.n,.int .i64 x.w,.int .u64 x.v,.slice px x.l.length cx] 28):=⟨_,rfl⟩
 have XV:=hid (show Below W.heap.size W V by rw [hV];exact laid4_below [.cells #[.slice p f.length c] 24,.cells #[.int .i64 x.op,.string (bs x.name),.int .i64 x.n,.int .i64 x.w,.int .u64 x.v,.slice px x.l.length cx] 28] W)
 have r0:V.heap[W.heap.size]?=some (.cells #[.slice p f.length c] 24 (0,0)):=by rw [hV];exact laid4_at [.cells #[.slice p f.length c] 24,.cells #[.int .i64 x.op,.string (bs x.name),.int .i64 x.n,.int .i64 x.w,.int .u64 x.v,.slice px x.l.length cx] 28] W 0 _ rfl
 have r1':V.heap[W.heap.size+1]?=some (.cells #[.int .i64 x.op,.string (bs x.name),.int .i64 x.n,.int .i64 x.w,.int .u64 x.v,.slice px x.l.length cx] 28 (0,0)):=by rw [hV];exact laid4_at [.cells #[.slice p f.length c] 24,.cells #[.int .i64 x.op,.string (bs x.name),.int .i64 x.n,.int .i64 x.w,.int .u64 x.v,.slice px x.l.length cx] 28] W 1 _ rfl
 have HSx:=hid (show ∀ w',Below V.heap.size V w'→w'.cell? ⟨W.heap.size,0,none⟩=some (.slice p f.length c)∧w'.cell? ⟨W.heap.size+1,0,none⟩=some (.int .i64 x.op)∧w'.cell? ⟨W.heap.size+1,1,none⟩=some (.string (bs x.name))∧w'.cell? ⟨W.heap.size+1,2,none⟩=some (.int .i64 x.n)∧w'.cell? ⟨W.heap.size+1,3,none⟩=some (.int .i64 x.w)∧w'.cell? ⟨W.heap.size+1,4,none⟩=some (.int .u64 x.v)∧w'.cell? ⟨W.heap.size+1,5,none⟩=some (.slice px x.l.length cx) from fun w' h=>⟨row4 r0 h 0 _ rfl,row4 r1' h 0 _ rfl,row4 r1' h 1 _ rfl,row4 r1' h 2 _ rfl,row4 r1' h 3 _ rfl,row4 r1' h 4 _ rfl,row4 r1' h 5 _ rfl⟩)
 clear r0 r1'
 have HV:=hid (Below.refl V.heap.size V)
 obtain ⟨z0,y0,y1,y2,y3,y4,y5⟩:=HSx.out _ HV.out;
 go_enter Tryz.func4,Tryz.ntmps4
 go_wp2_with fail
 rw [← hV]
 clear hV
 go_wp2_with (first
  | (go_at_call 12;refine (live_any _ (HB.out.later (bthen XV.out HV.out))).mono ?_;rintro e W0 ⟨rfl,hb⟩;have HV:=hid (bthen HV.out hb);obtain ⟨z0,y0,y1,y2,y3,y4,y5⟩:=HSx.out _ HV.out;clear hb)
  | (go_at_call 13;refine (HF.out _ (bthen XV.out HV.out)).mono ?_;rintro e W1 ⟨rfl,hb⟩;have HV:=hid (bthen HV.out hb);obtain ⟨z0,y0,y1,y2,y3,y4,y5⟩:=HSx.out _ HV.out;clear hb;cases q1)
  | (go_at_call 14;refine (HG.out _ (bthen XV.out HV.out)).mono ?_;rintro e W2 ⟨rfl,hb⟩;have HV:=hid (bthen HV.out hb);obtain ⟨z0,y0,y1,y2,y3,y4,y5⟩:=HSx.out _ HV.out;clear hb;cases q2)
  | (go_at_call 23;refine (K1.out (by trivial) _ (bthen XV.out HV.out)).mono ?_;rintro e V1 ⟨p1,n1,c1,rfl,hx,hb⟩;have HV:=hid (bthen HV.out hb);obtain ⟨z0,y0,y1,y2,y3,y4,y5⟩:=HSx.out _ HV.out;  have T1:=hid hx;clear hb hx)
  | (go_at_call 24;refine (K2.out (by trivial) _ (bthen XV.out HV.out)).mono ?_;rintro e V2 ⟨p2,n2,c2,rfl,hx,hb⟩;have HV:=hid (bthen HV.out hb);obtain ⟨z0,y0,y1,y2,y3,y4,y5⟩:=HSx.out _ HV.out;have T1:=hid (T1.out.later hb);have T2:=hid hx;clear hb hx)
  | (go_at_call 25;refine (K3.out (by trivial) _ (bthen XV.out HV.out)).mono ?_;rintro e V3 ⟨p3,n3,c3,rfl,hx,hb⟩;have HV:=hid (bthen HV.out hb);obtain ⟨z0,y0,y1,y2,y3,y4,y5⟩:=HSx.out _ HV.out;have T1:=hid (T1.out.later hb);have T2:=hid (T2.out.later hb);have T3:=hid hx;clear hb hx)
  | (go_at_call 26;refine (K4.out (by trivial) _ (bthen XV.out HV.out)).mono ?_;rintro e V4 ⟨p4,n4,c4,rfl,hx,hb⟩;have HV:=hid (bthen HV.out hb);obtain ⟨z0,y0,y1,y2,y3,y4,y5⟩:=HSx.out _ HV.out;have T1:=hid (T1.out.later hb);have T2:=hid (T2.out.later hb);have T3:=hid (T3.out.later hb);have T4:=hid hx;have s1:=str_run T1.out;have s2:=str_run T2.out;have s3:=str_run T3.out;have s4:=str_run T4.out;clear hb hx))
 all_goals (go_ret;exact ⟨by simp,bthen XV.out HV.out⟩)
end Go.Proofs.YtlcfpdmicpggbaaGreatDoor
