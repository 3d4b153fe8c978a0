/- Texts of the seat, merged. -/
import Derived.Test.YtlcfpdmicpggbaaGreatDoorD11
set_option linter.unusedVariables false
set_option linter.unusedSimpArgs false
set_option maxRecDepth 100000
set_option maxHeartbeats 16000000
namespace Go.Proofs.Spl
open Go.Lib (hid)
open Go.Proofs.Scn
def Fair (t:Tok):Prop:=t.v<two64∧t.s.length≤140737488355328
def AllF (l:List Tok):Prop:=∀ t ∈ l,Fair t
theorem AllF.nil:AllF []:=fun t h=>by cases h
theorem AllF.cons {t:Tok} {l:List Tok} (h:Fair t) (k:AllF l):AllF (t :: l):=fun u hu=>by
 rcases List.mem_cons.1 hu with rfl | hu
 ·exact h
 ·exact k u hu
theorem AllF.app {a b:List Tok} (h:AllF a) (k:AllF b):AllF (a ++ b):=fun u hu=>by
 rcases List.mem_append.1 hu with hu | hu
 ·exact h u hu
 ·exact k u hu
theorem AllF.flat {l:List (List Tok)} (h:∀ x ∈ l,AllF x):AllF l.flatten:=fun t ht=>by
 obtain ⟨x,hx,hm⟩:=List.mem_flatten.1 ht
 exact h x hx t hm
theorem Fair.sg {s:Ln} (h:s.length≤140737488355328):Fair (sgT s):=⟨show (0:Nat)<two64 by decide,h⟩
theorem Fair.wd {s:Ln} (h:s.length≤140737488355328):Fair (wdT s):=⟨show (0:Nat)<two64 by decide,h⟩
theorem Fair.nm {s:Ln} (h:s.length≤140737488355328):Fair (nmT s):=⟨show (0:Nat)<two64 by decide,h⟩
theorem Fair.name {s:Ln} (h:isName s=true):Fair (nmT s):=by
 refine Fair.nm ?_
 unfold isName at h
 simp only [Bool.and_eq_true,decide_eq_true_eq] at h
 omega
theorem AllF.inn (o c:UInt8) {l:List Tok} (h:AllF l):AllF (inT o c l):=.cons (Fair.sg (by simp)) (h.app (.cons (Fair.sg (by simp)) .nil))
theorem AllF.sep {s:Ln} (hs:s.length≤140737488355328):∀ {l:List (List Tok)},(∀ x ∈ l,AllF x)→AllF (sepS s l)
 | [],_=>.nil
 | [a],h=>h a (by simp)
 | a :: b :: r,h=>(h a (by simp)).app (.cons (Fair.sg hs) (AllF.sep hs (l:=b :: r) (fun x hx=>h x (List.mem_cons_of_mem _ hx))))
theorem AllF.part {k:Nat × List Tok} (h:AllF k.2) (n:Nat):AllF (partT k n):=by
 unfold partT
 split
 ·exact h.inn _ _
 ·exact h
theorem one_short (n:Int):(oneS n).length≤140737488355328:=by unfold oneS;(repeat' split) <;> decide
theorem two_short (n:Int):(twoS n).length≤140737488355328:=by
 have:∀ s ∈ twosL,s.length≤140737488355328:=by decide
 exact this _ (two_mem n)
theorem ext_short (n:Int):(extS n).length≤140737488355328:=by unfold extS;(repeat' split) <;> decide
theorem fair_expr:∀ x:X,okX x=true→AllF (exprT x):=by
 refine X.ind ?_
 intro x ih h
 rw [okX_iff,Bool.and_eq_true] at h
 obtain ⟨h0,hl⟩:=h
 rw [List.all_eq_true] at hl
 have hk:∀ z ∈ x.l.map exprT,AllF z:=fun z hz=>by
  obtain ⟨y,hy,rfl⟩:=List.mem_map.1 hz
  exact ih y hy (hl y hy)
 rw [exprT_eq]
 obtain ⟨op,name,n,w,v,l⟩:=x
 simp only [X.op,X.name,X.n,X.w,X.v,X.l] at *
 unfold okNode at h0
 simp only [Bool.and_eq_true] at h0
 obtain ⟨⟨⟨hn,_⟩,_⟩,hv⟩:=h0
 have hname:namedO op=true→Fair (nmT name):=fun e=>by
  rw [e] at hn
  exact Fair.name hn
 have hmem:∀ k ∈ l.map (fun y=>(rankX y,exprT y)),AllF k.2:=fun k hk'=>by
  obtain ⟨y,hy,rfl⟩:=List.mem_map.1 hk'
  exact ih y hy (hl y hy)
 have hsep:∀ s:Ln,s.length≤140737488355328→AllF (sepS s ((l.map (fun y=>(rankX y,exprT y))).map Prod.snd)):=fun s hs=>AllF.sep hs fun z hz=>by
  obtain ⟨k,hk',rfl⟩:=List.mem_map.1 hz
  exact hmem k hk'
 unfold nodeT
 split
 ·rename_i e
  refine .cons ⟨?_,by simp [numT]⟩ .nil
  rw [e] at hv
  unfold valueO at hv
  simp only [if_true,Bool.and_eq_true,decide_eq_true_eq] at hv
  exact hv.2
 split
 ·rename_i e
  exact .cons (hname (by rw [e];rfl)) .nil
 split
 ·rename_i e
  refine .cons (hname (by rcases e with e | e <;> rw [e] <;> rfl)) ((hsep _ (by decide)).inn _ _)
 split
 ·split
  ·rename_i a e
   exact .cons (Fair.sg (one_short n)) (.part (hmem a (by rw [e];simp)) _)
  ·exact .nil
 split
 ·split
  ·rename_i a b e
   exact (AllF.part (hmem a (by rw [e];simp)) _).app (.cons (Fair.sg (two_short n)) (.part (hmem b (by rw [e];simp)) _))
  ·exact .nil
 split
 ·split
  ·rename_i a b c e
   exact (AllF.part (hmem a (by rw [e];simp)) _).app (.cons (Fair.sg (by decide)) ((hmem b (by rw [e];simp)).app (.cons (Fair.sg (by decide)) (hmem c (by rw [e];simp)))))
  ·exact .nil
 split
 ·exact (hsep _ (by decide)).inn _ _
 split
 ·split
  ·rename_i a b e
   exact AllF.inn _ _ ((hmem a (by rw [e];simp)).app ((hmem b (by rw [e];simp)).inn _ _))
  ·exact .nil
 ·exact .cons (Fair.wd (ext_short n)) ((hsep _ (by decide)).inn _ _)
theorem fair_exprs {s:Ln} (hs:s.length≤140737488355328) {l:List X} (h:l.all okX=true):AllF (sepS s (l.map exprT)):=AllF.sep hs fun z hz=>by
 obtain ⟨y,hy,rfl⟩:=List.mem_map.1 hz
 exact fair_expr y (List.all_eq_true.1 h y hy)
theorem fair_list {l:List X} (h:l.all okX=true):AllF (listT l):=fair_exprs (by decide) h
theorem fair_span {n:Ln} (hn:isName n=true) {l:List X} (h:l.all okX=true):AllF (spanT n l):=AllF.inn _ _ (.cons (Fair.name hn) (.cons (Fair.sg (by decide)) (fair_exprs (by decide) h)))
theorem fair_stmt {put:Ln} (hput:put.length≤140737488355328):∀ s:S,okSA s=true→AllF (stmtT put s):=by
 refine S.ind ?_
 intro s ih h
 rw [okSA_iff] at h
 simp only [Bool.and_eq_true] at h
 obtain ⟨⟨⟨hx,h0⟩,hk⟩,hl⟩:=h
 rw [List.all_eq_true] at hl
 rw [stmtT_eq]
 obtain ⟨op,name,x,l⟩:=s
 simp only [S.op,S.name,S.x,S.l] at *
 have hf:AllF (l.map (stmtT put)).flatten:=AllF.flat fun z hz=>by
  obtain ⟨y,hy,rfl⟩:=List.mem_map.1 hz
  exact ih y hy (hl y hy)
 have hm:∀ z ∈ l.map (stmtT put),AllF z:=fun z hz=>by
  obtain ⟨y,hy,rfl⟩:=List.mem_map.1 hz
  exact ih y hy (hl y hy)
 unfold stT
 split
 ·exact (fair_exprs hput hx).app (.cons (Fair.sg (by decide)) .nil)
 split
 ·split
  ·rename_i a b t u e
   refine .cons (Fair.wd (by decide)) (((fair_list hx).inn _ _).app ((hm t (by rw [e];simp)).app ?_))
   split
   ·exact .cons (Fair.wd (by decide)) (hm u (by rw [e];simp))
   ·exact .nil
  ·exact .nil
 split
 ·exact .cons (Fair.wd (by decide)) (((fair_list hx).inn _ _).app (hf.inn _ _))
 split
 ·split
  ·exact (fair_list hx).app (.cons (Fair.sg (by decide)) (hf.inn _ _))
  ·split
   ·exact .nil
   ·exact .cons (Fair.wd (by decide)) (.cons (Fair.sg (by decide)) (hf.inn _ _))
 split
 ·rename_i e
  refine .cons (Fair.wd (by decide)) ((fair_span ?_ hx).app (hf.inn _ _))
  rw [e] at h0
  simp [okSt] at h0
  exact h0.1
 ·exact hf.inn _ _
theorem fair_block {put:Ln} (hput:put.length≤140737488355328) {l:List S} (h:okSs l=true):AllF (blockT put l):=by
 unfold blockT
 rw [stmtsT_map]
 refine AllF.inn _ _ (AllF.flat fun z hz=>?_)
 obtain ⟨y,hy,rfl⟩:=List.mem_map.1 hz
 unfold okSs at h
 rw [Bool.and_eq_true,okSAs_all] at h
 exact fair_stmt hput y (List.all_eq_true.1 h.2 y hy)
theorem fair_binds {l:List Bd} (h:l.all okB=true):AllF (bindsT l):=AllF.inn _ _ (AllF.sep (by decide) fun z hz=>by
 obtain ⟨y,hy,rfl⟩:=List.mem_map.1 hz
 have:=List.all_eq_true.1 h y hy
 unfold okB at this
 rw [Bool.and_eq_true] at this
 exact .cons (Fair.name this.1) (.cons (Fair.sg (by decide)) (fair_expr _ this.2)))
theorem fair_params {l:List Bd} (h:l.all okB=true):AllF (paramsT l):=by
 unfold paramsT
 split
 ·exact .nil
 ·exact .cons (Fair.sg (by decide)) (fair_binds h)
theorem fair_item:∀ t:It,okI t=true→AllF (itemT t):=by
 refine It.ind ?_
 intro t ihl ihe h
 rw [okI_iff] at h
 rw [itemT_eq]
 obtain ⟨op,name,f,x,s,l,e,ps,bb⟩:=t
 simp only [It.op,It.name,It.of,It.x,It.s,It.l,It.e,It.ps,It.bs,Bool.and_eq_true] at *
 obtain ⟨⟨⟨⟨⟨⟨h0,hx⟩,hs⟩,hl⟩,he⟩,hp⟩,hb⟩:=h
 rw [List.all_eq_true] at hl he
 have fl:AllF (l.map itemT).flatten:=AllF.flat fun z hz=>by
  obtain ⟨y,hy,rfl⟩:=List.mem_map.1 hz
  exact ihl y hy (hl y hy)
 have fe:AllF (e.map itemT).flatten:=AllF.flat fun z hz=>by
  obtain ⟨y,hy,rfl⟩:=List.mem_map.1 hz
  exact ihe y hy (he y hy)
 unfold okIt at h0
 simp only [Bool.and_eq_true,decide_eq_true_eq] at h0
 obtain ⟨⟨⟨⟨⟨⟨⟨⟨⟨o1,o2⟩,hn⟩,hf⟩,hc⟩,ht⟩,i5⟩,i8⟩,ie⟩,i7⟩:=h0
 have hop:op=1∨op=2∨op=3∨op=4∨op=5∨op=6∨op=7∨op=8∨op=9∨op=10:=by omega
 rcases hop with rfl | rfl | rfl | rfl | rfl | rfl | rfl | rfl | rfl | rfl <;> simp [nameI,ofI] at hn hf
 ·exact .cons (Fair.wd (by decide)) (.cons (Fair.name hn) (.cons (Fair.sg (by decide)) ((fair_list hx).app (.cons (Fair.sg (by decide)) .nil))))
 ·exact .cons (Fair.wd (by decide)) (.cons (Fair.name hn) (.cons (Fair.sg (by decide)) ((fair_list hx).app (.cons (Fair.sg (by decide)) .nil))))
 ·exact .cons (Fair.wd (by decide)) (.cons (Fair.name hn) (.cons (Fair.sg (by decide)) ((fair_exprs (by decide) hx).app (.cons (Fair.sg (by decide)) .nil))))
 ·exact .cons (Fair.wd (by decide)) ((fair_exprs (by decide) hx).app (.cons (Fair.sg (by decide)) .nil))
 ·exact .cons (Fair.wd (by decide)) (fair_block (by decide) hs)
 ·exact .cons (Fair.wd (by decide)) (.cons (Fair.wd (by decide)) (fair_block (by decide) hs))
 ·exact .cons (Fair.wd (by decide)) (.cons (Fair.name hn) (.cons (Fair.sg (by decide)) (.cons (Fair.name hf) ((fair_params hp).app ((fair_binds hb).app (.cons (Fair.sg (by decide)) .nil))))))
 ·refine .cons (Fair.wd (by decide)) (((fair_list hx).inn _ _).app ((fl.inn _ _).app ?_))
  split
  ·exact .nil
  ·exact .cons (Fair.wd (by decide)) (fe.inn _ _)
 ·exact .cons (Fair.wd (by decide)) (.cons (Fair.name hn) ((fair_span hf hx).app (fl.inn _ _)))
 ·exact .cons (Fair.wd (by decide)) (.cons (Fair.name hn) (.cons (Fair.sg (by decide)) ((fair_list hx).app (.cons (Fair.sg (by decide)) .nil))))
theorem fair_module {m:Md} (h:okM m=true):AllF (moduleT m):=by
 unfold okM at h
 simp only [Bool.and_eq_true,okIs_all] at h
 obtain ⟨⟨⟨hn,hp⟩,ht⟩,hl⟩:=h
 rw [List.all_eq_true] at hl ht
 unfold moduleT
 rw [itemsT_map]
 refine .cons (Fair.wd (by decide)) (.cons (Fair.name hn) ((fair_params hp).app ((AllF.inn _ _ (AllF.sep (by decide) fun z hz=>?_)).app (AllF.inn _ _ (AllF.flat fun z hz=>?_)))))
 ·obtain ⟨y,hy,rfl⟩:=List.mem_map.1 hz
  have:=ht y hy
  unfold okP at this
  rw [Bool.and_eq_true] at this
  refine .cons (Fair.wd (by split <;> decide)) (.cons (Fair.name this.1) (.cons (Fair.sg (by decide)) (fair_expr _ this.2)))
 ·obtain ⟨y,hy,rfl⟩:=List.mem_map.1 hz
  exact fair_item y (hl y hy)
theorem fair_file {f:List Md} (h:f.all okM=true):AllF (fileT f):=AllF.flat fun z hz=>by
 obtain ⟨y,hy,rfl⟩:=List.mem_map.1 hz
 exact fair_module (List.all_eq_true.1 h y hy)
theorem even_check:∀ (l:List Tok) (st:List Ln),evenS st l=true→l.all checkT=true
 | [],_,_=>rfl
 | t :: l,st,h=>by
  rw [evenS] at h
  unfold stepE at h
  by_cases c:(checkT t && t.p == 0)=true
  ·rw [if_pos c] at h
   have ht:checkT t=true:=by
    rw [Bool.and_eq_true] at c
    exact c.1
   rw [List.all_cons,ht,Bool.true_and]
   split at h
   ·exact even_check l _ h
   ·cases h
  ·rw [if_neg c] at h
   cases h
end Go.Proofs.Spl
namespace Go.Proofs.Spl
open Go.Lib (hid)
open Go.Proofs.Scn
def armB (last:Bool) (a:S):Bool:=a.op == 4 && a.name.isEmpty && (a.x.isEmpty == last) && a.x.all okX && a.l.all okS
def armsA:List S→Bool
 | []=>true
 | a :: r=>armB r.isEmpty a && armsA r
theorem armsA_iff:∀ l:List S,armsA l=true ↔ ∀ j (h:j<l.length),armB (decide (j+1=l.length)) l[j]=true
 | []=>⟨fun _ j h=>absurd h (by simp),fun _=>rfl⟩
 | a :: r=>by
  rw [armsA,Bool.and_eq_true,armsA_iff r]
  have hr:r.isEmpty=decide (0+1=(a :: r).length):=by cases r <;> simp
  rw [hr]
  constructor
  ·rintro ⟨h1,h2⟩ j hj
   match j with
   | 0=>exact h1
   | j+1=>
    have:=h2 j (by simpa using hj)
    simpa using this
  ·intro h
   refine ⟨h 0 (by simp),fun j hj=>?_⟩
   have:=h (j+1) (by simpa using hj)
   simpa using this
theorem armsA_no {l:List S} {k:Nat} (hk:k<l.length) (h:armB (decide (k+1=l.length)) l[k]=false):armsA l=false:=by
 rw [Bool.eq_false_iff]
 intro e
 rw [(armsA_iff l).1 e k hk] at h
 cases h
theorem okS_all (l:List S):l.all okS=((l.all fun s=>s.op != 4) && l.all okSA):=by
 rw [← okSs_all]
 unfold okSs
 rw [okSAs_all]
theorem armsA_eq:∀ l:List S,armsA l=(armsO l && l.all okSA)
 | []=>rfl
 | a :: r=>by
  rw [armsA,armsA_eq r,armsO,List.all_cons,armB,okSA_iff]
  by_cases h4:a.op=4
  ·have h1:kindO a.op a.l=a.l.all fun s=>s.op != 4:=by rw [h4];rfl
   have h0:okSt a.op a.name a.x a.l=a.name.isEmpty:=by rw [h4];rfl
   rw [h1,h0,okS_all]
   ac_rfl
  ·have:(a.op == 4)=false:=by simpa using h4
   rw [this]
   simp only [Bool.false_and]
def ifB:List S→Bool
 | [a,b]=>a.op == 5 && (b.op == 5 || b.op == 2)
 | _=>false
def goodSB (op:Int) (name:Ln) (x:List X) (l:List S):Bool:=
 x.all okX && (op == 6 || name.isEmpty) && (if op=3 then x.length == 1 && (armsA l && !l.isEmpty) else l.all okS &&
  (if op=1 then x.length == 2 && targetX x && l.isEmpty else if op=2 then x.length == 1 && ifB l else if op=5 then x.isEmpty else if op=6 then isName name && x.length == 2 else false))
theorem okS_eq (op:Int) (name:Ln) (x:List X) (l:List S):okS (.mk op name x l)=goodSB op name x l:=by
 unfold okS
 rw [okSA_iff]
 simp only [S.op,S.name,S.x,S.l]
 unfold goodSB
 by_cases e3:op=3
 ·subst e3
  rw [armsA_eq]
  simp [okSt,kindO]
  ac_rfl
 have hk:kindO op l=l.all fun s=>s.op != 4:=by unfold kindO;rw [if_neg e3]
 rw [hk,if_neg e3,okS_all]
 by_cases e4:op=4
 ·subst e4
  simp
 have e4':(op != 4)=true:=by simpa using e4
 rw [e4',Bool.true_and]
 unfold okSt
 by_cases e1:op=1
 ·subst e1
  simp
  ac_rfl
 by_cases e2:op=2
 ·subst e2
  simp
  unfold ifB
  ac_rfl
 by_cases e5:op=5
 ·subst e5
  simp
  ac_rfl
 by_cases e6:op=6
 ·subst e6
  simp
  ac_rfl
 simp [e1,e2,e3,e4,e5,e6]
end Go.Proofs.Spl
namespace Go.Proofs.YtlcfpdmicpggbaaGreatDoor
open Go.Lib (hid)
open Go.RowKit Go.Proofs.Spl Go.Proofs.Scn Go.Shelf
theorem arms_any (p:Option Addr) (cap:Nat) (l:List S) (hl:l.length≤1000000) (W:World) (hB:BaseA W) (hR:SsR W (.slice p l.length cap) l) (hXl:∀ a ∈ l,a.x.length≤1000000∧a.l.length≤1000000) (hEX:∀ a ∈ l,∀ y ∈ a.x,GoodX y) (hES:∀ a ∈ l,∀ y ∈ a.l,GoodS y) :
  Calls Tryz.prog 181 #[.slice p l.length cap] W fun e W'=>e=.returned (.bool (armsA l && !l.isEmpty))∧Below W.heap.size W W':=by
 have hcell:l=[]∨∃ b off,p=some ⟨b,off,none⟩∧b<W.heap.size∧Go.Proofs.Spl.Rows W 4 (SR W) b off l:=by
  obtain ⟨p',c',e,_,h⟩:=hR
  cases e
  exact h
 have HX:=hid hEX
 have HS:=hid hES
 have HXL:=hid hXl
 have HC:=hid hcell
 have HBs:=hid hB
 clear hEX hES hcell hB hR hXl
 go_enter Tryz.func181,Tryz.ntmps181
 go_wp2
 go_loopw [7] (fun i wr=>∃ k:Nat,i=.int .i64 k∧k≤l.length∧Hid (Below W.heap.size W wr)∧Hid (∀ j (h:j<l.length),j<k→armB (decide (j+1=l.length)) l[j]=true)) (fun i _=>l.length - (intOf i).toNat)
 case atStart=>exact ⟨0,rfl,Nat.zero_le _,hid (Below.refl _ _),hid (fun j h hj=>by omega)⟩
 case round=>
  obtain ⟨k,rfl,hk,HW,HA⟩:=hrel
  by_cases hlt:k<l.length
  ·have hlt':(k:Int)<(l.length:Int):=by omega
   rcases HC.out with hc | ⟨q,off,rfl,hq,hc⟩
   ·subst hc;simp at hlt
   obtain ⟨cs,hR,hcs⟩:=hc k hlt
   have hB:=HW.out
   have hex:=HX.out _ (List.getElem_mem hlt)
   have hes:=HS.out _ (List.getElem_mem hlt)
   have hxl:=HXL.out _ (List.getElem_mem hlt)
   obtain ⟨xs,ls,rfl,hXR,hL⟩:=SR_iff.1 hR
   have hXR0:=XsR.later hXR hB
   have hL0:=SsR.later hL hB
   obtain ⟨px,cx,rfl,_⟩:=hXR
   obtain ⟨pl,cl,rfl,_⟩:=hL
   obtain ⟨x0,x1,x2,x3⟩:=rows4 hB hq hcs
   have HAX:=hid (fun (W9:World) (h:Below wr.heap.size wr W9)=>allX_any _ l[k].x (by omega) W9 (HBs.out.later (HW.out.trans (h.mono HW.out.size))) (XsR.later hXR0 h) hex)
   have HAS:=hid (fun (W9:World) (h:Below wr.heap.size wr W9)=>allS_any _ l[k].l (by omega) W9 (HBs.out.later (HW.out.trans (h.mono HW.out.size))) (SsR.later hL0 h) hes)
   have HNX:=hid (fun (h:armB (decide (k+1=l.length)) l[k]=true)=>show ∀ j (h:j<l.length),j<k+1→armB (decide (j+1=l.length)) l[j]=true from fun j h1 h2=>by
    rcases Nat.lt_or_ge j k with h3 | h3
    ·exact HA.out j h1 h3
    ·have:j=k:=by omega
     subst this;exact h)
   have HNO:=hid (fun (h:armB (decide (k+1=l.length)) l[k]=false)=>show (armsA l && !l.isEmpty)=false by rw [armsA_no hlt h];rfl)
   have HNE:=hid (show l[k].name.isEmpty=decide ((bs l[k].name).toList=[]) by rw [Lib.toList_data,list_bs];cases l[k].name <;> simp)
   have HXE:=hid (show l[k].x.isEmpty=((l[k].x.length:Int) == 0) by cases l[k].x <;> simp <;> omega)
   have HKE:=hid (show decide (k+1=l.length)=((k:Int)+1 == (l.length:Int)) by rw [Bool.eq_iff_iff];simp;omega)
   clear hR hc hex hes hxl hcs hXR0 hL0
   generalize l[k]=y at *
   cases hax:y.x.all okX <;> cases has:y.l.all okS <;> rw [hax] at HAX <;> rw [has] at HAS
   all_goals have HAX2:=hid hax
   all_goals have HAS2:=hid has
   all_goals clear hax has
   all_goals go_wp2_with (first
    | (go_at_call 133;refine (HAX.out _ ((Below.refl _ _).alloc (Nat.le_refl _) _)).mono ?_;rintro e W2 ⟨rfl,hb⟩;have hc:=(hb.block wr.heap.size (by simp)).trans (World.alloc_heap_new wr _);obtain ⟨k0,k1,k2,k3⟩:=cells4 hc;have C2:=hid (((Below.refl _ _).alloc (Nat.le_refl _) _).trans (hb.mono (by simp)));clear hc hb HAX)
    | (go_at_call 182;refine (HAS.out _ C2.out).mono ?_;rintro e W3 ⟨rfl,hb⟩;have C3:=hid (C2.out.trans (hb.mono C2.out.size));clear hb HAS))
   all_goals first
    | (go_ret;exact ⟨ret_bool (HNO.out (by unfold armB;rw [HXE.out,HKE.out,HNE.out,HAX2.out,HAS2.out];simp [*])).symm,HW.out.trans (Below.mono (by first | exact C3.out | exact C2.out | exact (Below.refl _ _).alloc (Nat.le_refl _) _) HW.out.size)⟩)
    | (go_roundw
       case rel=>exact ⟨k+1,by go_num,hlt,hid (HW.out.trans (C3.out.mono HW.out.size)),HNX.out (by unfold armB;rw [HXE.out,HKE.out,HNE.out,HAX2.out,HAS2.out];simp [*])⟩
       case measure=>simp [intOf];omega)
  ·have hge:¬ ((k:Int)<(l.length:Int)):=by omega
   have HALL:=hid (show armsA l=true from (armsA_iff l).2 fun j hj=>HA.out j hj (by omega))
   go_wp2
   go_ret
   refine ⟨ret_bool ?_,HW.out⟩
   rw [HALL.out,Bool.true_and,Bool.eq_iff_iff]
   cases l <;> simp
end Go.Proofs.YtlcfpdmicpggbaaGreatDoor
namespace Go.Proofs.YtlcfpdmicpggbaaGreatDoor
open Go.Lib (hid)
open Go.RowKit Go.Proofs.Spl Go.Proofs.Scn Go.Shelf
theorem els2X {W:World} {p:Option Addr} {c:Nat} {a b:X} (h:XsR W (.slice p 2 c) [a,b]):∃ q off ls,p=some ⟨q,off,none⟩∧q<W.heap.size∧W.cell? ⟨q,off,none⟩=some (.int .i64 a.op)∧W.cell? ⟨q,off+1,none⟩=some (.string (bs a.name))∧W.cell? ⟨q,off+2,none⟩=some (.int .i64 a.n)∧W.cell? ⟨q,off+3,none⟩=some (.int .i64 a.w)∧W.cell? ⟨q,off+4,none⟩=some (.int .u64 a.v)∧W.cell? ⟨q,off+5,none⟩=some ls:=by
 obtain ⟨p',c',e,_,h⟩:=h
 cases e
 rcases h with h | ⟨q,off,rfl,hq,hc⟩
 ·cases h
 obtain ⟨cs,hR,hcs⟩:=hc 0 (by simp)
 obtain ⟨hv,ls,rfl,hL⟩:=XR_iff.1 hR
 exact ⟨q,off,ls,rfl,hq,hcs 0 (by omega),hcs 1 (by omega),hcs 2 (by omega),hcs 3 (by omega),hcs 4 (by omega),hcs 5 (by omega)⟩
theorem els2S {W:World} {p:Option Addr} {c:Nat} {a b:S} (h:SsR W (.slice p 2 c) [a,b]):∃ q off,p=some ⟨q,off,none⟩∧q<W.heap.size∧W.cell? ⟨q,off,none⟩=some (.int .i64 a.op)∧W.cell? ⟨q,off+4,none⟩=some (.int .i64 b.op):=by
 obtain ⟨p',c',e,_,h⟩:=h
 cases e
 rcases h with h | ⟨q,off,rfl,hq,hc⟩
 ·cases h
 obtain ⟨cs,hR,hcs⟩:=hc 0 (by simp)
 obtain ⟨ds,hD,hds⟩:=hc 1 (by simp)
 obtain ⟨xs,ls,rfl,_⟩:=SR_iff.1 hR
 obtain ⟨xs',ls',rfl,_⟩:=SR_iff.1 hD
 exact ⟨q,off,rfl,hq,hcs 0 (by omega),hds 0 (by omega)⟩
theorem len2 (n:Nat):((n:Int) == 2)=(n == 2):=by rw [Bool.eq_iff_iff];simp;omega
theorem len0 {α:Type} (l:List α):((l.length:Int) == 0)=l.isEmpty:=by cases l <;> simp <;> omega
theorem list2 {α:Type} {l:List α} (h:l.length=2):∃ a b,l=[a,b]:=by
 match l,h with
 | [a,b],_=>exact ⟨a,b,rfl⟩
theorem ifB_no:∀ {l:List S},l.length ≠ 2→ifB l=false
 | [],_=>rfl
 | [_],_=>rfl
 | [_,_],h=>absurd rfl h
 | _ :: _ :: _ :: _,_=>rfl
theorem goodS_both:∀ s:S,(smS s=true→sizeS s≤65536→GoodS s)∧∀ y ∈ s.l,smS y=true→sizeS y≤65536→GoodS y:=by
 refine S.ind ?_
 intro s ih
 refine ⟨?_,fun y hy=>(ih y hy).1⟩
 intro hsm hsz W cs hB hR
 obtain ⟨op,name,x,l⟩:=s
 obtain ⟨xs,ls,rfl,hX,hL⟩:=SR_iff.1 hR
 simp only [S.op,S.name,S.x,S.l] at ih hX hL ⊢
 rw [smS_iff,Bool.and_eq_true,Bool.and_eq_true] at hsm
 simp only [S.op,S.name,S.x,S.l,List.all_eq_true] at hsm
 obtain ⟨⟨hn,hsx⟩,hsl⟩:=hsm
 rw [sizeS_eq,sizeXs_sum,sizeSs_sum] at hsz
 simp only [S.x,S.l] at hsz
 have hn:=of_decide_eq_true hn
 have hlx:x.length≤65536:=by have:=sumN_len sizeX one_sizeX x;omega
 have hll:l.length≤65536:=by have:=sumN_len sizeS one_sizeS l;omega
 have hGX:∀ y ∈ x,GoodX y:=fun y hy=>goodX_ok y (hsx y hy) (by have:=sumN_mem sizeX hy;omega)
 have hGS:∀ y ∈ l,GoodS y:=fun y hy=>(ih y hy).1 (hsl y hy) (by have:=sumN_mem sizeS hy;omega)
 have hkid:∀ a ∈ l,smS a=true∧sizeS a≤65536:=fun a ha=>⟨hsl a ha,by have:=sumN_mem sizeS ha;omega⟩
 have hAx:∀ a ∈ l,∀ y ∈ a.x,GoodX y:=fun a ha y hy=>by
  obtain ⟨h1,h2⟩:=hkid a ha
  rw [smS_iff,Bool.and_eq_true,Bool.and_eq_true] at h1
  rw [sizeS_eq,sizeXs_sum] at h2
  exact goodX_ok y (List.all_eq_true.1 h1.1.2 y hy) (by have:=sumN_mem sizeX hy;omega)
 have hAl:∀ a ∈ l,∀ y ∈ a.l,GoodS y:=fun a ha y hy=>by
  obtain ⟨h1,h2⟩:=hkid a ha
  rw [smS_iff,Bool.and_eq_true,Bool.and_eq_true] at h1
  rw [sizeS_eq,sizeSs_sum] at h2
  exact (ih a ha).2 y hy (List.all_eq_true.1 h1.2 y hy) (by have:=sumN_mem sizeS hy;omega)
 have hAn:∀ a ∈ l,a.x.length≤1000000∧a.l.length≤1000000:=fun a ha=>by
  obtain ⟨h1,h2⟩:=hkid a ha
  rw [sizeS_eq,sizeXs_sum,sizeSs_sum] at h2
  have h3:=sumN_len sizeX one_sizeX a.x
  have h4:=sumN_len sizeS one_sizeS a.l
  omega
 have cX:=fun (W9:World) (h:Below W.heap.size W W9)=>allX_any xs x (by omega) W9 (hB.later h) (XsR.later hX h) hGX
 have cS:=fun (W9:World) (h:Below W.heap.size W W9)=>allS_any ls l (by omega) W9 (hB.later h) (SsR.later hL h) hGS
 have cN:=fun (W9:World) (h:Below W.heap.size W W9)=>aname_any name hn W9 (hB.later h).base
 obtain ⟨px,cx,rfl,hcx,hX2⟩:=hX
 obtain ⟨pl,cl,rfl,hcl,hL2⟩:=hL
 have hX:XsR W (.slice px x.length cx) x:=⟨px,cx,rfl,hcx,hX2⟩
 have hL:SsR W (.slice pl l.length cl) l:=⟨pl,cl,rfl,hcl,hL2⟩
 have cA:=fun (W9:World) (h:Below W.heap.size W W9)=>arms_any pl cl l (by omega) W9 (hB.later h) (SsR.later hL h) hAn hAx hAl
 rw [okS_eq]
 unfold goodSB
 cases bx:x.all okX with
 | false=>
  rw [bx] at cX
  simp only [Bool.false_and]
  exact goodS_x W op name x.length l.length cx cl px pl cX
 | true=>
 rw [bx] at cX
 simp only [Bool.true_and]
 by_cases e6:op=6
 ·subst e6
  simp only [beq_self_eq_true,Bool.true_or,Bool.true_and,show ¬ ((6:Int)=3) by decide,show ¬ ((6:Int)=1) by decide,show ¬ ((6:Int)=2) by decide,show ¬ ((6:Int)=5) by decide,if_false,if_true]
  cases bS:l.all okS with
  | false=>
   rw [bS] at cS
   simp only [Bool.false_and]
   exact goodS_6s W name x.length l.length cx cl px pl cX cS
  | true=>
   rw [bS] at cS
   cases bn:isName name with
   | false=>
    rw [bn] at cN
    simp only [Bool.false_and,Bool.and_false]
    exact goodS_6a W name x.length l.length cx cl px pl cX cS cN
   | true=>
    rw [bn] at cN
    have:=goodS_6b W name x.length l.length cx cl px pl cX cS cN
    rw [len2] at this
    exact this
 have e6':(op == 6)=false:=by simpa using e6
 rw [e6',Bool.false_or]
 by_cases en:name=[]
 case neg=>
  have:name.isEmpty=false:=by simpa using en
  rw [this]
  simp only [Bool.false_and]
  exact goodS_n W op name x.length l.length cx cl px pl e6 en cX
 subst en
 simp only [List.isEmpty_nil,Bool.true_and]
 by_cases e3:op=3
 ·subst e3
  rw [if_pos rfl]
  by_cases h1:x.length=1
  ·rw [h1] at cX ⊢
   have:=goodS_3y W l.length cx cl px pl _ cX cA
   simpa using this
  ·have:(x.length == 1)=false:=by simpa using h1
   rw [this]
   simp only [Bool.false_and]
   exact goodS_3n W x.length l.length cx cl px pl h1 cX
 rw [if_neg e3]
 cases bS:l.all okS with
 | false=>
  rw [bS] at cS
  simp only [Bool.false_and]
  exact goodS_os W op x.length l.length cx cl px pl e6 e3 cX cS
 | true=>
 rw [bS] at cS
 simp only [Bool.true_and]
 by_cases e1:op=1
 ·subst e1
  rw [if_pos rfl]
  by_cases h2:x.length=2
  ·obtain ⟨a,b,rfl⟩:=list2 h2
   obtain ⟨q,off,lv,rfl,hq,q0,q1,q2,q3,q4,q5⟩:=els2X hX
   have cT:=fun (W9:World) (h:Below W.heap.size W W9)=>target_any a.op [] a.name a.n a.w a.v lv W9
   cases bt:namedO a.op with
   | false=>
    rw [bt] at cT
    simp only [targetX,bt,Bool.false_and,Bool.and_false]
    exact goodS_1b W l.length cx cl pl q off _ _ _ _ _ _ ⟨hq,q0,q1,q2,q3,q4,q5⟩ cX cS cT
   | true=>
    rw [bt] at cT
    have:=goodS_1c W l.length cx cl pl q off _ _ _ _ _ _ ⟨hq,q0,q1,q2,q3,q4,q5⟩ cX cS cT
    rw [len0] at this
    simp only [targetX,bt]
    exact this
  ·have:(x.length == 2)=false:=by simpa using h2
   rw [this]
   simp only [Bool.false_and]
   exact goodS_1a W x.length l.length cx cl px pl h2 cX cS
 rw [if_neg e1]
 by_cases e2:op=2
 ·subst e2
  rw [if_pos rfl]
  by_cases h1:x.length=1
  ·rw [h1] at cX ⊢
   by_cases h2:l.length=2
   ·obtain ⟨a,b,rfl⟩:=list2 h2
    obtain ⟨q,off,rfl,hq,q0,q1⟩:=els2S hL
    simp only [ifB,beq_self_eq_true,Bool.true_and]
    by_cases ea:a.op=5
    ·rw [ea] at q0 ⊢
     by_cases eb:b.op=5
     ·rw [eb] at q1 ⊢
      exact goodS_2d W cx cl px q off ⟨hq,q0,q1⟩ cX cS
     ·have eb':(b.op == 5)=false:=by simpa using eb
      have:=goodS_2e W cx cl px q off b.op eb ⟨hq,q0,q1⟩ cX cS
      rw [eb',Bool.false_or]
      exact this
    ·have ea':(a.op == 5)=false:=by simpa using ea
     rw [ea',Bool.false_and]
     exact goodS_2c W cx cl px q off a.op b.op ea ⟨hq,q0,q1⟩ cX cS
   ·have:=ifB_no h2
    rw [this,Bool.and_false]
    exact goodS_2b W l.length cx cl px pl h2 cX cS
  ·have:(x.length == 1)=false:=by simpa using h1
   rw [this,Bool.false_and]
   exact goodS_2a W x.length l.length cx cl px pl h1 cX cS
 rw [if_neg e2]
 by_cases e5:op=5
 ·subst e5
  rw [if_pos rfl]
  have:=goodS_5 W x.length l.length cx cl px pl cX cS
  rw [len0] at this
  exact this
 rw [if_neg e5,if_neg e6]
 exact goodS_o W op x.length l.length cx cl px pl e1 e2 e3 e5 e6 cX cS
theorem goodS_ok (s:S) (h1:smS s=true) (h2:sizeS s≤65536):GoodS s:=(goodS_both s).1 h1 h2
end Go.Proofs.YtlcfpdmicpggbaaGreatDoor
namespace Go.Stage
open Go.Lib (hid)
open Go Go.RowKit
variable {P:Program} {Q:Exit→Act→World→Prop} {a:Act} {w:World}
theorem wp_pre1 (M:Act→World→Prop) {x rest:Code} (h1:x.wp P (Exit.then M Q) a w) (h2:∀ a w,M a w→rest.wp P Q a w):(x.seq rest).wp P Q a w:=
 wp_seq (wp_mono h1 fun e a w h=>by cases e <;> first | exact h2 _ _ h | exact h)
theorem wp_pre2 (M:Act→World→Prop) {x y rest:Code} (h1:x.wp P (Exit.then (y.wp P (Exit.then M Q)) Q) a w) (h2:∀ a w,M a w→rest.wp P Q a w):(x.seq (y.seq rest)).wp P Q a w:=
 wp_seq (wp_mono h1 fun e a w h=>by cases e <;> first | exact wp_pre1 M h h2 | exact h)
theorem wp_pre3 (M:Act→World→Prop) {x y z rest:Code} (h1:x.wp P (Exit.then (y.wp P (Exit.then (z.wp P (Exit.then M Q)) Q)) Q) a w) (h2:∀ a w,M a w→rest.wp P Q a w):(x.seq (y.seq (z.seq rest))).wp P Q a w:=
 wp_seq (wp_mono h1 fun e a w h=>by cases e <;> first | exact wp_pre2 M h h2 | exact h)
theorem wp_pre4 (M:Act→World→Prop) {x y z u rest:Code} (h1:x.wp P (Exit.then (y.wp P (Exit.then (z.wp P (Exit.then (u.wp P (Exit.then M Q)) Q)) Q)) Q) a w) (h2:∀ a w,M a w→rest.wp P Q a w):(x.seq (y.seq (z.seq (u.seq rest)))).wp P Q a w:=
 wp_seq (wp_mono h1 fun e a w h=>by cases e <;> first | exact wp_pre3 M h h2 | exact h)
def litL (f:Nat→Value):Nat→Nat→List Value
 | _,0=>[]
 | i,k+1=>f i :: litL f (i+1) k
theorem litL_length (f:Nat→Value):∀ k i,(litL f i k).length=k
 | 0,_=>rfl
 | k+1,i=>by rw [litL,List.length_cons,litL_length f k]
theorem litL_get (f:Nat→Value):∀ k i j (h:j<(litL f i k).length),(litL f i k)[j]=f (i+j)
 | 0,_,j,h=>absurd h (by simp [litL])
 | k+1,i,0,h=>rfl
 | k+1,i,j+1,h=>by
  simp only [litL,List.getElem_cons_succ]
  rw [litL_get f k]
  congr 1;omega
theorem slots (t:Array Value) (n:Nat) (hs:t.size=n):∃ f:Nat→Value,(∀ i,t.getD i undef=f i)∧t=(litL f 0 n).toArray:=by
 refine ⟨fun i=>t.getD i undef,fun _=>rfl,?_⟩
 apply Array.ext
 ·simp [litL_length,hs]
 ·intro i h1 h2
  simp [litL_get,h1]
def Mid (n:Nat) (l:List (Nat × Value)) (K:World→Prop) (a:Act) (w:World):Prop:=a.tmps.size=n∧a.defers=[]∧(∀ p ∈ l,a.tmps.getD p.1 undef=p.2)∧K w
theorem Mid.lit {n:Nat} {l:List (Nat × Value)} {K:World→Prop} {a:Act} {w:World} (h:Mid n l K a w):∃ f:Nat→Value,(∀ p ∈ l,f p.1=p.2)∧a={ tmps:=(litL f 0 n).toArray,defers:=[] }∧K w:=by
 obtain ⟨h1,h2,h3,h4⟩:=h
 obtain ⟨f,hf,ht⟩:=slots a.tmps n h1
 refine ⟨f,fun p hp=>(hf p.1).symm.trans (h3 p hp),?_,h4⟩
 cases a
 simp only at ht h2
 rw [ht,h2]
end Go.Stage
namespace Go.Proofs.YtlcfpdmicpggbaaGreatDoor
open Go.Lib (hid)
open Go.RowKit Go.Proofs.Spl Go.Proofs.Scn Go.Shelf Go.Stage
theorem goodI_out (op:Int) (hop:op<1∨11≤op) (name fo:Ln) (vx vs vl ve vp vb:Value) (W:World) :
  Calls Tryz.prog 163 #[.agg #[.int .i64 op,.string (bs name),.string (bs fo),vx,vs,vl,ve,vp,vb]] W fun e W'=>e=.returned (.bool false)∧Below W.heap.size W W':=by
 by_cases h1:op<1
 ·have hd:decide (op<1)=true:=by simpa using h1
  go_enter Tryz.func163,Tryz.ntmps163
  go_wp2
  go_ret
  exact ⟨rfl,(Below.refl _ _).alloc (Nat.le_refl _) _⟩
 ·have h2:11≤op:=by omega
  have hd:decide (op<1)=false:=by simpa using h1
  have hd2:decide (11≤op)=true:=by simpa using h2
  go_enter Tryz.func163,Tryz.ntmps163
  go_wp2
  go_ret
  exact ⟨rfl,(Below.refl _ _).alloc (Nat.le_refl _) _⟩
structure Two (W V:World) (A B:List Value):Prop where
 below:Below W.heap.size W V
 size:W.heap.size+2≤V.heap.size
 fst:V.heap[W.heap.size]?=some (.cells A.toArray 133 (0,0))
 snd:V.heap[W.heap.size+1]?=some (.cells B.toArray 215 (0,0))
theorem Two.later {W V V':World} {A B:List Value} (h:Two W V A B) (hb:Below V.heap.size V V'):Two W V' A B:=by
 have hs:=h.size
 have hb':=hb.size
 exact ⟨h.below.trans (hb.mono h.below.size),by omega,(hb.block _ (by omega)).trans h.fst,(hb.block _ (by omega)).trans h.snd⟩
theorem Two.new (W:World) (A B:List Value):Two W ((W.alloc (.cells A.toArray 133)).alloc (.cells B.toArray 215)) A B:=by
 refine ⟨((Below.refl _ _).alloc (Nat.le_refl _) _).alloc (by simp) _,by simp,(Below.heap_alloc _ _ _ (by simp)).trans (World.alloc_heap_new W _),?_⟩
 have:=World.alloc_heap_new (W.alloc (.cells A.toArray 133)) (.cells B.toArray 215)
 rwa [World.size_alloc] at this
theorem Two.cells {W V:World} {v0 v1 v2 v3 v4 v5 v6 v7 v8 u0 u1 u2 u3 u4 u5 u6:Value} (h:Two W V [v0,v1,v2,v3,v4,v5,v6,v7,v8] [u0,u1,u2,u3,u4,u5,u6]) :
  (V.cell? ⟨W.heap.size,0,none⟩=some v0∧V.cell? ⟨W.heap.size,1,none⟩=some v1∧V.cell? ⟨W.heap.size,2,none⟩=some v2∧V.cell? ⟨W.heap.size,3,none⟩=some v3∧V.cell? ⟨W.heap.size,4,none⟩=some v4∧V.cell? ⟨W.heap.size,5,none⟩=some v5∧V.cell? ⟨W.heap.size,6,none⟩=some v6∧V.cell? ⟨W.heap.size,7,none⟩=some v7∧V.cell? ⟨W.heap.size,8,none⟩=some v8) ∧
  V.cell? ⟨W.heap.size+1,0,none⟩=some u0∧V.cell? ⟨W.heap.size+1,1,none⟩=some u1∧V.cell? ⟨W.heap.size+1,2,none⟩=some u2∧V.cell? ⟨W.heap.size+1,3,none⟩=some u3∧V.cell? ⟨W.heap.size+1,4,none⟩=some u4∧V.cell? ⟨W.heap.size+1,5,none⟩=some u5∧V.cell? ⟨W.heap.size+1,6,none⟩=some u6:=by
 have a:=h.fst
 have b:=h.snd
 refine ⟨⟨?_,?_,?_,?_,?_,?_,?_,?_,?_⟩,?_,?_,?_,?_,?_,?_,?_⟩ <;> simp [World.cell?,a,b]
abbrev RetB (f:FuncId) (args:Array Value) (W:World) (b:Bool):Prop:=Calls Tryz.prog f args W fun e W'=>e=.returned (.bool b)∧Below W.heap.size W W'
theorem goodI_walk (k:Nat) (h1:1≤k) (h2:k≤10) (name fo:Ln) (px ps pl pe pp pb:Option Addr) (m3 c3 m4 c4 m5 c5 m6 c6 m7 c7 m8 c8:Nat) (W:World) (hB:BaseA W) (f1 f2 ft bx bs' bl be bp bb R:Bool)
  (hN:∀ W9,Below W.heap.size W W9→RetB 205 #[.string (bs name),.bool (sName k)] W9 f1)
  (hF:∀ W9,Below W.heap.size W W9→RetB 205 #[.string (bs fo),.bool (sOf k)] W9 f2)
  (hm78:m7+m8≤1000000000) (hq2:k=4→sX k=2) (hT:k=4→m3=2→∃ q off t0 t1 t2 t3 t4 t5,px=some ⟨q,off,none⟩∧q<W.heap.size∧(W.cell? ⟨q,off,none⟩=some (.int .i64 t0)∧W.cell? ⟨q,off+1,none⟩=some (.string t1)∧W.cell? ⟨q,off+2,none⟩=some (.int .i64 t2)∧W.cell? ⟨q,off+3,none⟩=some (.int .i64 t3)∧W.cell? ⟨q,off+4,none⟩=some (.int .u64 t4)∧W.cell? ⟨q,off+5,none⟩=some t5) ∧
   ∀ W9,Below W.heap.size W W9→RetB 74 #[.agg #[.int .i64 t0,.string t1,.int .i64 t2,.int .i64 t3,.int .u64 t4,t5]] W9 ft)
  (hX:∀ W9,Below W.heap.size W W9→RetB 133 #[.slice px m3 c3,.func (.func 68) #[] #[]] W9 bx)
  (hS:∀ W9,Below W.heap.size W W9→RetB 182 #[.slice ps m4 c4,.func (.func 118) #[] #[]] W9 bs')
  (hL:∀ W9,Below W.heap.size W W9→RetB 162 #[.slice pl m5 c5,.func (.func 163) #[] #[]] W9 bl)
  (hE:∀ W9,Below W.heap.size W W9→RetB 162 #[.slice pe m6 c6,.func (.func 163) #[] #[]] W9 be)
  (hP:∀ W9,Below W.heap.size W W9→RetB 159 #[.slice pp m7 c7,.func (.func 160) #[] #[]] W9 bp)
  (hQ:∀ W9,Below W.heap.size W W9→RetB 159 #[.slice pb m8 c8,.func (.func 160) #[] #[]] W9 bb)
  (hR:R=(f1 && (f2 && (decide (m3=sX k) && ((k != 4 || ft) && ((sS k || m4 == 0) && ((sL k || m5 == 0) && ((sEls k || m6 == 0) && ((sBind k || m7+m8 == 0) && (bx && (bs' && (bl && (be && (bp && bb)))))))))))))) :
  RetB 163 #[.agg #[.int .i64 k,.string (bs name),.string (bs fo),.slice px m3 c3,.slice ps m4 c4,.slice pl m5 c5,.slice pe m6 c6,.slice pp m7 c7,.slice pb m8 c8]] W R:=by
 have i1:¬ ((k:Int)<1):=by omega
 have i2:¬ (11≤(k:Int)):=by omega
 have i1d:decide ((k:Int)<1)=false:=by simpa using i1
 have i2d:decide (11≤(k:Int))=false:=by simpa using i2
 have i3:k<11:=by omega
 have i4:(k:Int)<11:=by omega
 obtain ⟨z0,z1,z2,z3,z4,z5,z6⟩:=(hB.alloc (.cells #[.int .i64 k,.string (bs name),.string (bs fo),.slice px m3 c3,.slice ps m4 c4,.slice pl m5 c5,.slice pe m6 c6,.slice pp m7 c7,.slice pb m8 c8] 133)).shapes k i3
 have T1:=hid (Two.new W [.int .i64 k,.string (bs name),.string (bs fo),.slice px m3 c3,.slice ps m4 c4,.slice pl m5 c5,.slice pe m6 c6,.slice pp m7 c7,.slice pb m8 c8] [.bool (sName k),.bool (sOf k),.int .i64 (sX k:Nat),.bool (sS k),.bool (sL k),.bool (sEls k),.bool (sBind k)])
 generalize sName k=q0 at *
 generalize sOf k=q1 at *
 generalize sX k=q2 at *
 generalize sS k=q3 at *
 generalize sL k=q4 at *
 generalize sEls k=q5 at *
 generalize sBind k=q6 at *
 have HQ2:=hid hq2
 have HN:=hid hN
 have HF:=hid hF
 have HT:=hid hT
 have HX:=hid hX
 have HS:=hid hS
 have HL:=hid hL
 have HE:=hid hE
 have HP:=hid hP
 have HQ:=hid hQ
 have HR:=hid hR
 clear hq2 hN hF hT hX hS hL hE hP hQ hR hB
 obtain ⟨K,hK⟩:∃ K:Prop→World→Prop,K=fun r V=>r∧Two W V [.int .i64 k,.string (bs name),.string (bs fo),.slice px m3 c3,.slice ps m4 c4,.slice pl m5 c5,.slice pe m6 c6,.slice pp m7 c7,.slice pb m8 c8] [.bool q0,.bool q1,.int .i64 (q2:Nat),.bool q3,.bool q4,.bool q5,.bool q6]:=⟨_,rfl⟩
 have HK:=hid (show ∀ r V,K r V ↔ r∧Two W V [.int .i64 k,.string (bs name),.string (bs fo),.slice px m3 c3,.slice ps m4 c4,.slice pl m5 c5,.slice pe m6 c6,.slice pp m7 c7,.slice pb m8 c8] [.bool q0,.bool q1,.int .i64 (q2:Nat),.bool q3,.bool q4,.bool q5,.bool q6] from fun r V=>by rw [hK])
 clear hK
 have hmw:wrap64 ((m7:Int)+(m8:Int))=(m7:Int)+(m8:Int):=Go.IntWalk.wrap64_in _ (by omega)
 go_enter Tryz.func163,Tryz.ntmps163
 refine wp_pre4 (Mid 125 [(1,.pointer (some ⟨W.heap.size,0,none⟩)),(3,.pointer (some ⟨W.heap.size+1,0,none⟩))] (K (R=((q3 || m4 == 0) && ((q4 || m5 == 0) && ((q5 || m6 == 0) && ((q6 || m7+m8 == 0) && (bx && (bs' && (bl && (be && (bp && bb)))))))))))) ?_ ?_
 ·by_cases hx:m3=q2
  case neg=>
   have hxd:¬ ((m3:Int)=((q2:Nat):Int)):=by omega
   have hxb:((m3:Int) != ((q2:Nat):Int))=true:=by simpa using hxd
   have HG:=hid (show R=false by rw [HR.out,decide_eq_false hx];simp)
   clear hx
   go_wp2_with (first
    | (go_at_call 205;refine (HN.out _ T1.out.below).mono ?_;rintro e W2 ⟨rfl,hb⟩;have T2:=hid (T1.out.later hb);obtain ⟨⟨k0,k1,k2,k3,k4,k5,k6,k7,k8⟩,l0,l1,l2,l3,l4,l5,l6⟩:=T2.out.cells;clear hb HN;cases f1)
    | (go_at_call 205;refine (HF.out _ T2.out.below).mono ?_;rintro e W3 ⟨rfl,hb⟩;have T3:=hid (T2.out.later hb);obtain ⟨⟨k0,k1,k2,k3,k4,k5,k6,k7,k8⟩,l0,l1,l2,l3,l4,l5,l6⟩:=T3.out.cells;clear hb HF;cases f2))
   all_goals (go_ret;exact ⟨ret_bool (by first | exact HG.out.symm | (rw [HR.out];rfl)),by first | exact T3.out.below | exact T2.out.below⟩)
  case pos=>
  have hxd:((m3:Int)=((q2:Nat):Int)):=by omega
  have hxb:((m3:Int) != ((q2:Nat):Int))=false:=by simpa using hxd
  have HG:=hid (show R=(f1 && (f2 && ((k != 4 || ft) && ((q3 || m4 == 0) && ((q4 || m5 == 0) && ((q5 || m6 == 0) && ((q6 || m7+m8 == 0) && (bx && (bs' && (bl && (be && (bp && bb))))))))))))  by rw [HR.out,decide_eq_true hx];simp)
  have HX2:=hid hx
  clear hx
  by_cases h4:k=4
  case pos=>
   have j4:(k:Int)=4:=by omega
   have j4d:decide ((k:Int)=4)=true:=by simpa using j4
   have j4b:((k:Int) == 4)=true:=by simpa using j4
   obtain ⟨q,off,t0,t1,t2,t3,t4,t5,rfl,hq,⟨x0,x1,x2,x3,x4,x5⟩,hTC⟩:=HT.out h4 (by rw [HX2.out];exact HQ2.out h4)
   have HTC:=hid hTC
   clear hTC HT
   have hq3:0<q2:=by have:=HQ2.out h4;omega
   have H4:=hid h4
   clear h4 j4
   go_wp2_with (first
    | (go_at_call 205;refine (HN.out _ T1.out.below).mono ?_;rintro e W2 ⟨rfl,hb⟩;have T2:=hid (T1.out.later hb);obtain ⟨⟨k0,k1,k2,k3,k4,k5,k6,k7,k8⟩,l0,l1,l2,l3,l4,l5,l6⟩:=T2.out.cells;clear hb HN;cases f1)
    | (go_at_call 205;refine (HF.out _ T2.out.below).mono ?_;rintro e W3 ⟨rfl,hb⟩;have T3:=hid (T2.out.later hb);obtain ⟨⟨k0,k1,k2,k3,k4,k5,k6,k7,k8⟩,l0,l1,l2,l3,l4,l5,l6⟩:=T3.out.cells;have w0:=(T3.out.below.cell (p:=⟨q,off,none⟩) hq).trans x0;have w1:=(T3.out.below.cell (p:=⟨q,off+1,none⟩) hq).trans x1;have w2:=(T3.out.below.cell (p:=⟨q,off+2,none⟩) hq).trans x2;have w3:=(T3.out.below.cell (p:=⟨q,off+3,none⟩) hq).trans x3;have w4:=(T3.out.below.cell (p:=⟨q,off+4,none⟩) hq).trans x4;have w5:=(T3.out.below.cell (p:=⟨q,off+5,none⟩) hq).trans x5;clear hb HF;cases f2)
    | (go_at_call 74;refine (HTC.out _ T3.out.below).mono ?_;rintro e W4 ⟨rfl,hb⟩;have T4:=hid (T3.out.later hb);obtain ⟨⟨k0,k1,k2,k3,k4,k5,k6,k7,k8⟩,l0,l1,l2,l3,l4,l5,l6⟩:=T4.out.cells;clear hb HTC;cases ft))
   all_goals first
    | (exact ⟨rfl,rfl,by simp only [List.forall_mem_cons];exact ⟨rfl,rfl,fun _ h=>by cases h⟩,(HK.out _ _).2 ⟨by rw [HG.out];simp,T4.out⟩⟩)
    | (go_ret;exact ⟨ret_bool (by rw [HG.out,H4.out];simp),by first | exact T4.out.below | exact T3.out.below | exact T2.out.below⟩)
  case neg=>
   have j4:¬ (k:Int)=4:=by omega
   have j4d:decide ((k:Int)=4)=false:=by simpa using j4
   have j4b:((k:Int) == 4)=false:=by simpa using j4
   go_wp2_with (first
    | (go_at_call 205;refine (HN.out _ T1.out.below).mono ?_;rintro e W2 ⟨rfl,hb⟩;have T2:=hid (T1.out.later hb);obtain ⟨⟨k0,k1,k2,k3,k4,k5,k6,k7,k8⟩,l0,l1,l2,l3,l4,l5,l6⟩:=T2.out.cells;clear hb HN;cases f1)
    | (go_at_call 205;refine (HF.out _ T2.out.below).mono ?_;rintro e W3 ⟨rfl,hb⟩;have T3:=hid (T2.out.later hb);obtain ⟨⟨k0,k1,k2,k3,k4,k5,k6,k7,k8⟩,l0,l1,l2,l3,l4,l5,l6⟩:=T3.out.cells;clear hb HF;cases f2))
   all_goals first
    | (exact ⟨rfl,rfl,by simp only [List.forall_mem_cons];exact ⟨rfl,rfl,fun _ h=>by cases h⟩,(HK.out _ _).2 ⟨by rw [HG.out];simp [h4],T3.out⟩⟩)
    | (go_ret;exact ⟨ret_bool (by rw [HG.out];simp),by first | exact T3.out.below | exact T2.out.below⟩)
 clear HN HF T1 z0 z1 z2 z3 z4 z5 z6 HT HQ2 HR
 rintro a w hM
 obtain ⟨f,hf,rfl,hK⟩:=hM.lit
 simp only [List.forall_mem_cons] at hf
 obtain ⟨e1,e3,-⟩:=hf
 simp only [litL,Nat.zero_add,Nat.reduceAdd,e1,e3]
 obtain ⟨hG,hT⟩:=(HK.out _ _).1 hK
 have T1:=hid hT
 have HG:=hid hG
 obtain ⟨⟨k0,k1,k2,k3,k4,k5,k6,k7,k8⟩,l0,l1,l2,l3,l4,l5,l6⟩:=T1.out.cells
 clear hM hK e1 e3 hG hT
 refine wp_pre1 (Mid 125 [(1,.pointer (some ⟨W.heap.size,0,none⟩))] (K (R=(bx && (bs' && (bl && (be && (bp && bb)))))))) ?_ ?_
 ·go_wp2_with fail
  all_goals clear k0 k1 k2 k3 k4 k5 k6 k7 k8 l0 l1 l2 l3 l4 l5 l6
  all_goals first
   | (exact ⟨rfl,rfl,by simp only [List.forall_mem_cons];exact ⟨rfl,fun _ h=>by cases h⟩,(HK.out _ _).2 ⟨by rw [HG.out,show (q3 || m4 == 0)=true by first | (simp [*];done) | (simp [*];omega),show (q4 || m5 == 0)=true by first | (simp [*];done) | (simp [*];omega),show (q5 || m6 == 0)=true by first | (simp [*];done) | (simp [*];omega),show (q6 || m7+m8 == 0)=true by first | (simp [*];done) | (simp [*];omega)];rfl,T1.out⟩⟩)
   | (go_ret;exact ⟨ret_bool (by rw [HG.out,eq_comm,← Bool.not_eq_true];intro hh;simp only [Bool.and_eq_true,Bool.or_eq_true,beq_iff_eq] at hh;obtain ⟨h3,h4,h5,h6,-⟩:=hh;rcases h3 with h3 | h3 <;> rcases h4 with h4 | h4 <;> rcases h5 with h5 | h5 <;> rcases h6 with h6 | h6 <;> first | contradiction | omega),T1.out.below⟩)
 ·clear HG k0 k1 k2 k3 k4 k5 k6 k7 k8 l0 l1 l2 l3 l4 l5 l6 T1
  rintro a w hM
  obtain ⟨f,hf,rfl,hK⟩:=hM.lit
  simp only [List.forall_mem_cons] at hf
  obtain ⟨e1,-⟩:=hf
  simp only [litL,Nat.zero_add,Nat.reduceAdd,e1]
  obtain ⟨hG,hT⟩:=(HK.out _ _).1 hK
  have T1:=hid hT
  have HG:=hid hG
  obtain ⟨⟨k0,k1,k2,k3,k4,k5,k6,k7,k8⟩,l0,l1,l2,l3,l4,l5,l6⟩:=T1.out.cells
  clear hM hK e1 hG hT
  go_wp2_with (first
   | (go_at_call 133;refine (HX.out _ T1.out.below).mono ?_;rintro e W2 ⟨rfl,hb⟩;have T2:=hid (T1.out.later hb);obtain ⟨⟨k0,k1,k2,k3,k4,k5,k6,k7,k8⟩,l0,l1,l2,l3,l4,l5,l6⟩:=T2.out.cells;clear hb HX;cases bx)
   | (go_at_call 182;refine (HS.out _ T2.out.below).mono ?_;rintro e W3 ⟨rfl,hb⟩;have T3:=hid (T2.out.later hb);obtain ⟨⟨k0,k1,k2,k3,k4,k5,k6,k7,k8⟩,l0,l1,l2,l3,l4,l5,l6⟩:=T3.out.cells;clear hb HS;cases bs')
   | (go_at_call 162;refine (HL.out _ T3.out.below).mono ?_;rintro e W4 ⟨rfl,hb⟩;have T4:=hid (T3.out.later hb);obtain ⟨⟨k0,k1,k2,k3,k4,k5,k6,k7,k8⟩,l0,l1,l2,l3,l4,l5,l6⟩:=T4.out.cells;clear hb HL;cases bl)
   | (go_at_call 162;refine (HE.out _ T4.out.below).mono ?_;rintro e W5 ⟨rfl,hb⟩;have T5:=hid (T4.out.later hb);obtain ⟨⟨k0,k1,k2,k3,k4,k5,k6,k7,k8⟩,l0,l1,l2,l3,l4,l5,l6⟩:=T5.out.cells;clear hb HE;cases be)
   | (go_at_call 159;refine (HP.out _ T5.out.below).mono ?_;rintro e W6 ⟨rfl,hb⟩;have T6:=hid (T5.out.later hb);obtain ⟨⟨k0,k1,k2,k3,k4,k5,k6,k7,k8⟩,l0,l1,l2,l3,l4,l5,l6⟩:=T6.out.cells;clear hb HP;cases bp)
   | (go_at_call 159;refine (HQ.out _ T6.out.below).mono ?_;rintro e W7 ⟨rfl,hb⟩;have T7:=hid (T6.out.later hb);obtain ⟨⟨k0,k1,k2,k3,k4,k5,k6,k7,k8⟩,l0,l1,l2,l3,l4,l5,l6⟩:=T7.out.cells;clear hb HQ;cases bb))
  all_goals (go_ret;exact ⟨ret_bool (by rw [HG.out];simp),by first | exact T7.out.below | exact T6.out.below | exact T5.out.below | exact T4.out.below | exact T3.out.below | exact T2.out.below⟩)
end Go.Proofs.YtlcfpdmicpggbaaGreatDoor
namespace Go.Proofs.YtlcfpdmicpggbaaGreatDoor
open Go.Lib (hid)
open Go.RowKit Go.Proofs.Spl Go.Proofs.Scn Go.Shelf
theorem item_law (k:Nat) (h1:1≤k) (h2:k≤10) (name f:Ln) (x:List X) (s:List S) (l e:List It) (ps bb:List Bd) :
  okI (.mk k name f x s l e ps bb)=((if sName k then isName name else name.isEmpty) && ((if sOf k then isName f else f.isEmpty) && (decide (x.length=sX k) && ((k != 4 || targetX x) && ((sS k || s.length == 0) && ((sL k || l.length == 0) && ((sEls k || e.length == 0) && ((sBind k || ps.length+bb.length == 0) && (x.all okX && (s.all okS && (l.all okI && (e.all okI && (ps.all okB && bb.all okB))))))))))))):=by
 have z:∀ {α:Type} (l:List α),(l.length == 0)=l.isEmpty:=fun l=>by cases l <;> rfl
 have z2:(ps.length+bb.length == 0)=(ps.isEmpty && bb.isEmpty):=by cases ps <;> cases bb <;> simp
 rw [okI_iff,z,z,z,z2,okSs_all]
 simp only [It.op,It.name,It.of,It.x,It.s,It.l,It.e,It.ps,It.bs]
 have hk:k=1∨k=2∨k=3∨k=4∨k=5∨k=6∨k=7∨k=8∨k=9∨k=10:=by omega
 rcases hk with e | e | e | e | e | e | e | e | e | e <;> subst e <;> rw [Bool.eq_iff_iff] <;> simp [okIt,nameI,ofI,countI,sName,sOf,sX,sS,sL,sEls,sBind] <;> grind
theorem goodI_ok:∀ t:It,smI t=true→sizeI t≤65536→GoodI t:=by
 refine It.ind ?_
 intro t ihl ihe hsm hsz W cs hB hR
 obtain ⟨op,name,f,x,s,l,el,ps,bb⟩:=t
 obtain ⟨xs,ss,ls,es,vp,vb,rfl,hX,hS,hP,hQ,hL,hE⟩:=IR_iff.1 hR
 simp only [It.op,It.name,It.of,It.x,It.s,It.l,It.e,It.ps,It.bs] at ihl ihe hX hS hP hQ hL hE ⊢
 rw [sizeI_eq2] at hsz
 rw [smI_iff] at hsm
 simp only [It.op,It.name,It.of,It.x,It.s,It.l,It.e,It.ps,It.bs,Bool.and_eq_true,decide_eq_true_eq,List.all_eq_true] at hsm hsz
 obtain ⟨⟨⟨⟨⟨⟨⟨hn,hf⟩,sx⟩,sS⟩,sl⟩,se⟩,sp⟩,sb⟩:=hsm
 have lx:=sumN_len sizeX one_sizeX x
 have lS:=sumN_len sizeS one_sizeS s
 have ll:=sumN_len sizeI one_sizeI l
 have le:=sumN_len sizeI one_sizeI el
 have lp:=sumN_len sizeB one_sB ps
 have lb:=sumN_len sizeB one_sB bb
 have gX:∀ y ∈ x,GoodX y:=fun y hy=>goodX_ok y (sx y hy) (by have:=sumN_mem sizeX hy;omega)
 have gS:∀ y ∈ s,GoodS y:=fun y hy=>goodS_ok y (sS y hy) (by have:=sumN_mem sizeS hy;omega)
 have gL:∀ y ∈ l,GoodI y:=fun y hy=>ihl y hy (sl y hy) (by have:=sumN_mem sizeI hy;omega)
 have gE:∀ y ∈ el,GoodI y:=fun y hy=>ihe y hy (se y hy) (by have:=sumN_mem sizeI hy;omega)
 have gP:∀ y ∈ ps,GoodB y:=fun y hy=>goodB_ok y (sp y hy) (by have:=sumN_mem sizeB hy;omega)
 have gQ:∀ y ∈ bb,GoodB y:=fun y hy=>goodB_ok y (sb y hy) (by have:=sumN_mem sizeB hy;omega)
 have cX:=fun (W9:World) (h:Below W.heap.size W W9)=>allX_any xs x (by omega) W9 (hB.later h) (XsR.later hX h) gX
 have cS:=fun (W9:World) (h:Below W.heap.size W W9)=>allS_any ss s (by omega) W9 (hB.later h) (SsR.later hS h) gS
 have cL:=fun (W9:World) (h:Below W.heap.size W W9)=>allI_any ls l (by omega) W9 (hB.later h) (IsR.later hL h) gL
 have cE:=fun (W9:World) (h:Below W.heap.size W W9)=>allI_any es el (by omega) W9 (hB.later h) (IsR.later hE h) gE
 have cP:=fun (W9:World) (h:Below W.heap.size W W9)=>allB_any vp ps (by omega) W9 (hB.later h) (BsR.later hP h) gP
 have cQ:=fun (W9:World) (h:Below W.heap.size W W9)=>allB_any vb bb (by omega) W9 (hB.later h) (BsR.later hQ h) gQ
 obtain ⟨px,cx,rfl,hcx,hX2⟩:=hX
 obtain ⟨pS,cS',rfl,hcS,hS2⟩:=hS
 obtain ⟨pl,cl,rfl,_⟩:=hL
 obtain ⟨pe,ce,rfl,_⟩:=hE
 obtain ⟨pp,cp,rfl,_⟩:=hP
 obtain ⟨pb,cb,rfl,_⟩:=hQ
 by_cases ho:op<1∨11≤op
 ·have hno:okI (.mk op name f x s l el ps bb)=false:=by
   have:okIt op name f x s l el ps bb=false:=by
    unfold okIt
    rcases ho with h | h
    ·rw [decide_eq_false (show ¬ (1:Int)≤op by omega)];simp only [Bool.false_and]
    ·rw [decide_eq_false (show ¬ op≤(10:Int) by omega)];simp only [Bool.and_false,Bool.false_and]
   rw [okI_iff]
   simp only [It.op,It.name,It.of,It.x,It.s,It.l,It.e,It.ps,It.bs,this,Bool.false_and]
  rw [hno]
  exact goodI_out op ho name f _ _ _ _ _ _ W
 obtain ⟨k,rfl⟩:∃ k:Nat,op=k:=⟨op.toNat,by omega⟩
 have hT:k=4→x.length=2→∃ q off t0 t1 t2 t3 t4 t5,px=some ⟨q,off,none⟩∧q<W.heap.size∧(W.cell? ⟨q,off,none⟩=some (.int .i64 t0)∧W.cell? ⟨q,off+1,none⟩=some (.string t1)∧W.cell? ⟨q,off+2,none⟩=some (.int .i64 t2)∧W.cell? ⟨q,off+3,none⟩=some (.int .i64 t3)∧W.cell? ⟨q,off+4,none⟩=some (.int .u64 t4)∧W.cell? ⟨q,off+5,none⟩=some t5) ∧
   ∀ W9,Below W.heap.size W W9→RetB 74 #[.agg #[.int .i64 t0,.string t1,.int .i64 t2,.int .i64 t3,.int .u64 t4,t5]] W9 (targetX x):=by
  intro _ hx2
  have hX:XsR W (.slice px x.length cx) x:=⟨px,cx,rfl,hcx,hX2⟩
  match x,hx2,hX with
  | [a,b],_,hX=>
   obtain ⟨q,off,lv,rfl,hq,hc⟩:=els2X hX
   exact ⟨q,off,_,_,_,_,_,_,rfl,hq,hc,fun W9 _=>target_any a.op [] a.name a.n a.w a.v lv W9⟩
 exact goodI_walk k (by omega) (by omega) name f px pS pl pe pp pb x.length cx s.length cS' l.length cl el.length ce ps.length cp bb.length cb W hB _ _ _ _ _ _ _ _ _ _
  (fun W9 h=>afits_any name (sName k) (of_decide_eq_true hn) W9 (hB.later h).base) (fun W9 h=>afits_any f (sOf k) (of_decide_eq_true hf) W9 (hB.later h).base) (by omega) (fun h=>by rw [h];rfl) hT cX cS cL cE cP cQ (item_law k (by omega) (by omega) name f x s l el ps bb)
theorem goodM_ok (m:Md) (hsm:smM m=true) (hsz:sizeM m≤65536):GoodM m:=by
 intro W cs hB hR
 obtain ⟨vp,vt,vi,rfl,hP,hT,hL⟩:=hR
 unfold smM at hsm
 unfold sizeM at hsz
 rw [sizeIs_sum] at hsz
 simp only [Bool.and_eq_true,decide_eq_true_eq,List.all_eq_true] at hsm
 obtain ⟨⟨⟨hn,sp⟩,st⟩,sl⟩:=hsm
 have ll:=sumN_len sizeI one_sizeI m.l
 have lp:=sumN_len sizeB one_sB m.ps
 have lt:=sumN_len sizeP one_sP m.pts
 have HN:=hid (fun (W9:World) (h:Below W.heap.size W W9)=>aname_any m.name hn W9 (hB.later h).base)
 have HP:=hid (fun (W9:World) (h:Below W.heap.size W W9)=>allB_any vp m.ps (by omega) W9 (hB.later h) (BsR.later hP h) (fun y hy=>goodB_ok y (sp y hy) (by have:=sumN_mem sizeB hy;omega)))
 have HT:=hid (fun (W9:World) (h:Below W.heap.size W W9)=>allP_any vt m.pts (by omega) W9 (hB.later h) (PsR.later hT h) (fun y hy=>goodP_ok y (st y hy) (by have:=sumN_mem sizeP hy;omega)))
 have HL:=hid (fun (W9:World) (h:Below W.heap.size W W9)=>allI_any vi m.l (by omega) W9 (hB.later h) (IsR.later hL h) (fun y hy=>goodI_ok y (sl y hy) (by have:=sumN_mem sizeI hy;omega)))
 have HR:=hid (show okM m=(isName m.name && m.ps.all okB && m.pts.all okP && m.l.all okI) by unfold okM;rw [okIs_all])
 obtain ⟨pp,cp,rfl,_⟩:=hP
 obtain ⟨pt,ct,rfl,_⟩:=hT
 obtain ⟨pl,cl,rfl,_⟩:=hL
 clear hB ll lp lt sl st sp hn hsz
 generalize okM m=r at *
 generalize isName m.name=r0 at *
 generalize m.ps.all okB=r1 at *
 generalize m.pts.all okP=r2 at *
 generalize m.l.all okI=r3 at *
 go_enter Tryz.func88,Tryz.ntmps88
 go_wp2_with (first
  | (go_at_call 158;refine (HN.out _ ((Below.refl _ _).alloc (Nat.le_refl _) _)).mono ?_;rintro e W2 ⟨rfl,hb⟩;have hc:=(hb.block W.heap.size (by simp)).trans (World.alloc_heap_new W _);obtain ⟨k0,k1,k2,k3⟩:=cells4 hc;have C2:=hid (((Below.refl _ _).alloc (Nat.le_refl _) _).trans (hb.mono (by simp)));have D2:=hid hc;have E2:=hid (Nat.lt_of_lt_of_le (show W.heap.size<(W.alloc _).heap.size by simp) hb.size);clear hc hb HN;cases r0)
  | (go_at_call 159;refine (HP.out _ C2.out).mono ?_;rintro e W3 ⟨rfl,hb⟩;have hc:=(hb.block W.heap.size E2.out).trans D2.out;obtain ⟨k0,k1,k2,k3⟩:=cells4 hc;have C3:=hid (C2.out.trans (hb.mono C2.out.size));have D3:=hid hc;have E3:=hid (Nat.lt_of_lt_of_le E2.out hb.size);clear hc hb HP;cases r1)
  | (go_at_call 161;refine (HT.out _ C3.out).mono ?_;rintro e W4 ⟨rfl,hb⟩;have hc:=(hb.block W.heap.size E3.out).trans D3.out;obtain ⟨k0,k1,k2,k3⟩:=cells4 hc;have C4:=hid (C3.out.trans (hb.mono C3.out.size));clear hc hb HT;cases r2)
  | (go_at_call 162;refine (HL.out _ C4.out).mono ?_;rintro e W5 ⟨rfl,hb⟩;have C5:=hid (C4.out.trans (hb.mono C4.out.size));clear hb HL))
 all_goals (go_ret;exact ⟨ret_bool (by rw [HR.out];simp),by first | exact C5.out | exact C4.out | exact C3.out | exact C2.out⟩)
end Go.Proofs.YtlcfpdmicpggbaaGreatDoor
namespace Go.Proofs.YtlcfpdmicpggbaaGreatDoor
open Go.Lib (hid)
open Go.RowKit Go.Proofs.Spl Go.Proofs.Scn Go.Shelf
abbrev RetE (f:FuncId) (args:Array Value) (W:World) (n:Int):Prop:=Calls Tryz.prog f args W fun e W'=>e=.returned (.int .i64 n)∧Below W.heap.size W W'
theorem cells6 {W:World} {b:Nat} {v0 v1 v2 v3 v4 v5:Value} {T:TypeId} (h:W.heap[b]?=some (.cells #[v0,v1,v2,v3,v4,v5] T (0,0))):W.cell? ⟨b,0,none⟩=some v0∧W.cell? ⟨b,1,none⟩=some v1∧W.cell? ⟨b,2,none⟩=some v2∧W.cell? ⟨b,3,none⟩=some v3∧W.cell? ⟨b,4,none⟩=some v4∧W.cell? ⟨b,5,none⟩=some v5:=
 ⟨(cell_of_row _ _ _ _ _ _ h).trans rfl,(cell_of_row _ _ _ _ _ _ h).trans rfl,(cell_of_row _ _ _ _ _ _ h).trans rfl,(cell_of_row _ _ _ _ _ _ h).trans rfl,(cell_of_row _ _ _ _ _ _ h).trans rfl,(cell_of_row _ _ _ _ _ _ h).trans rfl⟩
theorem atold_any (a d:Nat) (ok:Bool) (g:FuncId) (p:Option Addr) (W:World) (eg:∀ args w,(callFunc g args).run Tryz.prog w=.ok (.enter g args) w) (hG:∀ W9,Below W.heap.size W W9→RetB g #[.pointer p] W9 ok) (ha:a≤1000000000) (hd:d≤1000000000) :
  RetE 65 #[.agg #[.int .i64 a,.int .i64 d],.func (.func g) #[] #[.pointer p]] W (told a d ok):=by
 have HG:=hid hG
 have HR:=hid (show told a d ok=if 65536<a∨64<d then 2 else if ok then 0 else 1 from rfl)
 generalize told a d ok=r at *
 clear hG
 cases ok
 all_goals
  go_enter Tryz.func65,Tryz.ntmps65
  go_wp2_with (refine (HG.out _ ((Below.refl _ _).alloc (Nat.le_refl _) _)).mono ?_;rintro e W2 ⟨rfl,hb⟩;have C2:=hid (((Below.refl _ _).alloc (Nat.le_refl _) _).trans (hb.mono (by simp)));clear hb)
  all_goals (go_ret;refine ⟨?_,by first | exact C2.out | exact (Below.refl _ _).alloc (Nat.le_refl _) _⟩;rw [HR.out];first | (rw [if_pos (by omega)];rfl) | (rw [if_neg (by omega)];rfl))
theorem checkX1_any (x:X) (cs:List Value) (b:Nat) (W:World) (hB:BaseA W) (hR:XR W x cs) (hb:W.heap[b]?=some (.cells cs.toArray 28 (0,0))) (h1:smX x=true) (h2:sizeX x≤65536):RetB 67 #[.pointer (some ⟨b,0,none⟩)] W (okX x):=by
 have HG:=hid (goodX_ok x h1 h2 W cs hB hR)
 obtain ⟨hv,ls,rfl,hL⟩:=XR_iff.1 hR
 obtain ⟨p,c,rfl,_⟩:=hL
 obtain ⟨k0,k1,k2,k3,k4,k5⟩:=cells6 hb
 clear hb hR hB
 go_enter Tryz.func67,Tryz.ntmps67
 go_wp2_with (go_at_call 68;refine HG.out.mono ?_;rintro e W2 ⟨rfl,hb⟩;have C2:=hid hb;clear hb)
 go_ret
 exact ⟨rfl,C2.out⟩
theorem checkX_any (x:X) (cs:List Value) (W:World) (hB:BaseA W) (hR:XR W x cs) (h1:smX x=true) (h2:sizeX x≤65536):RetE 28 #[.agg cs.toArray] W (checkX x):=by
 have hd:=deepX_le x
 have HM:=hid (fun (W9:World) (h:Below W.heap.size W W9)=>measX_ok x (by omega) W9 cs (XR.later h _ _ hR))
 have HC:=hid (fun (W9:World) (h:Below W.heap.size W W9) (hb:W9.heap[W.heap.size]?=some (.cells cs.toArray 28 (0,0))) (hl:W.heap.size<W9.heap.size)=>atold_any (sizeX x) (deepX x) (okX x) 67 (some ⟨W.heap.size,0,none⟩) W9 (enters_of Tryz.func67 (by kernel_rfl) rfl) (fun W8 h8=>checkX1_any x cs W.heap.size W8 ((hB.later h).later h8) (XR.later h8 _ _ (XR.later h _ _ hR)) ((h8.block _ hl).trans hb) h1 h2) (by omega) (by omega))
 obtain ⟨hv,ls,rfl,hL⟩:=XR_iff.1 hR
 obtain ⟨p,c,rfl,_⟩:=hL
 clear hR hB hd
 go_enter Tryz.func28,Tryz.ntmps28
 go_wp2_with (first
  | (go_at_call 66;refine (HM.out _ ((Below.refl _ _).alloc (Nat.le_refl _) _)).mono ?_;rintro e W2 ⟨rfl,hb⟩;have D2:=hid ((hb.block W.heap.size (by simp)).trans (World.alloc_heap_new W _));have C2:=hid (((Below.refl _ _).alloc (Nat.le_refl _) _).trans (hb.mono (by simp)));have E2:=hid (Nat.lt_of_lt_of_le (show W.heap.size<(W.alloc _).heap.size by simp) hb.size);clear hb HM)
  | (go_at_call 65;refine (HC.out _ C2.out D2.out E2.out).mono ?_;rintro e W3 ⟨rfl,hb⟩;have C3:=hid (C2.out.trans (hb.mono C2.out.size));clear hb))
 go_ret
 exact ⟨rfl,C3.out⟩
theorem checkS1_any (x:S) (cs:List Value) (b:Nat) (W:World) (hB:BaseA W) (hR:SR W x cs) (hb:W.heap[b]?=some (.cells cs.toArray 31 (0,0))) (h1:smS x=true) (h2:sizeS x≤65536):RetB 117 #[.pointer (some ⟨b,0,none⟩)] W (okS x):=by
 have HG:=hid (goodS_ok x h1 h2 W cs hB hR)
 obtain ⟨xs,ls,rfl,hX,hL⟩:=SR_iff.1 hR
 obtain ⟨p,c,rfl,_⟩:=hL
 obtain ⟨p',c',rfl,_⟩:=hX
 obtain ⟨k0,k1,k2,k3⟩:=cells4 hb
 clear hb hR hB
 go_enter Tryz.func117,Tryz.ntmps117
 go_wp2_with (go_at_call 118;refine HG.out.mono ?_;rintro e W2 ⟨rfl,hb⟩;have C2:=hid hb;clear hb)
 go_ret
 exact ⟨rfl,C2.out⟩
theorem checkS_any (x:S) (cs:List Value) (W:World) (hB:BaseA W) (hR:SR W x cs) (h1:smS x=true) (h2:sizeS x≤65536):RetE 59 #[.agg cs.toArray] W (checkS x):=by
 have hd:=deepS_le x
 have HM:=hid (fun (W9:World) (h:Below W.heap.size W W9)=>measS_ok x (by omega) W9 cs (SR.later h _ _ hR))
 have HC:=hid (fun (W9:World) (h:Below W.heap.size W W9) (hb:W9.heap[W.heap.size]?=some (.cells cs.toArray 31 (0,0))) (hl:W.heap.size<W9.heap.size)=>atold_any (sizeS x) (deepS x) (okS x) 117 (some ⟨W.heap.size,0,none⟩) W9 (enters_of Tryz.func117 (by kernel_rfl) rfl) (fun W8 h8=>checkS1_any x cs W.heap.size W8 ((hB.later h).later h8) (SR.later h8 _ _ (SR.later h _ _ hR)) ((h8.block _ hl).trans hb) h1 h2) (by omega) (by omega))
 obtain ⟨xs,ls,rfl,hX,hL⟩:=SR_iff.1 hR
 obtain ⟨p,c,rfl,_⟩:=hL
 obtain ⟨p',c',rfl,_⟩:=hX
 clear hR hB hd
 go_enter Tryz.func59,Tryz.ntmps59
 go_wp2_with (first
  | (go_at_call 116;refine (HM.out _ ((Below.refl _ _).alloc (Nat.le_refl _) _)).mono ?_;rintro e W2 ⟨rfl,hb⟩;have D2:=hid ((hb.block W.heap.size (by simp)).trans (World.alloc_heap_new W _));have C2:=hid (((Below.refl _ _).alloc (Nat.le_refl _) _).trans (hb.mono (by simp)));have E2:=hid (Nat.lt_of_lt_of_le (show W.heap.size<(W.alloc _).heap.size by simp) hb.size);clear hb HM)
  | (go_at_call 65;refine (HC.out _ C2.out D2.out E2.out).mono ?_;rintro e W3 ⟨rfl,hb⟩;have C3:=hid (C2.out.trans (hb.mono C2.out.size));clear hb))
 go_ret
 exact ⟨rfl,C3.out⟩
theorem check1_any (f:List Md) (p:Option Addr) (c:Nat) (b:Nat) (W:World) (hB:BaseA W) (hR:MsR W (.slice p f.length c) f) (hb:W.heap[b]?=some (.cells #[.slice p f.length c] 24 (0,0))) (h1:f.all smM=true) (h2:sumN sizeM f≤65536):RetB 86 #[.pointer (some ⟨b,0,none⟩)] W (f.all okM):=by
 have hl:=sumN_len sizeM (fun m=>by unfold sizeM;omega) f
 rw [List.all_eq_true] at h1
 have HG:=hid (allM_any _ f (by omega) W hB hR (fun y hy=>goodM_ok y (h1 y hy) (by have:=sumN_mem sizeM hy;omega)))
 have k0:W.cell? ⟨b,0,none⟩=some (.slice p f.length c):=(cell_of_row _ _ _ _ _ _ hb).trans rfl
 clear hb hR hB hl
 go_enter Tryz.func86,Tryz.ntmps86
 go_wp2_with (go_at_call 87;refine HG.out.mono ?_;rintro e W2 ⟨rfl,hb⟩;have C2:=hid hb;clear hb)
 go_ret
 exact ⟨rfl,C2.out⟩
theorem checkF_any (f:List Md) (p:Option Addr) (c:Nat) (W:World) (hB:BaseA W) (hR:MsR W (.slice p f.length c) f) (h1:f.all smM=true) (h2:sumN sizeM f≤65536):RetE 45 #[.agg #[.slice p f.length c]] W (checkF f):=by
 have hone:∀ m:Md,1≤sizeM m:=fun m=>by unfold sizeM;omega
 have hl:=sumN_len sizeM hone f
 have hd:=maxN_le_sumN (l:=f) (fun y _=>deepM_le y)
 have HM:=hid (fun (W9:World) (h:Below W.heap.size W W9)=>sumM_any _ f (by omega) hone W9 (MsR.later hR h) (fun y hy=>measM_ok y (by have:=sumN_mem sizeM hy;omega)))
 have HC:=hid (fun (W9:World) (h:Below W.heap.size W W9) (hb:W9.heap[W.heap.size]?=some (.cells #[.slice p f.length c] 24 (0,0))) (hl:W.heap.size<W9.heap.size)=>atold_any (sumN sizeM f) (maxN deepM f) (f.all okM) 86 (some ⟨W.heap.size,0,none⟩) W9 (enters_of Tryz.func86 (by kernel_rfl) rfl) (fun W8 h8=>check1_any f p c W.heap.size W8 ((hB.later h).later h8) (MsR.later (MsR.later hR h) h8) ((h8.block _ hl).trans hb) h1 h2) (by omega) (by omega))
 have HR:=hid (show checkF f=if 64<f.length then 2 else told (sumN sizeM f) (maxN deepM f) (f.all okM) from rfl)
 generalize checkF f=r at *
 clear hR hB hd h1 h2
 by_cases h64:64<f.length
 ·have hg:(64:Int)<(f.length:Int):=by omega
  go_enter Tryz.func45,Tryz.ntmps45
  go_wp2
  go_ret
  exact ⟨by rw [HR.out,if_pos h64];rfl,(Below.refl _ _).alloc (Nat.le_refl _) _⟩
 ·have hg:¬ (64:Int)<(f.length:Int):=by omega
  go_enter Tryz.func45,Tryz.ntmps45
  go_wp2_with (first
   | (go_at_call 84;refine (HM.out _ ((Below.refl _ _).alloc (Nat.le_refl _) _)).mono ?_;rintro e W2 ⟨rfl,hb⟩;have D2:=hid ((hb.block W.heap.size (by simp)).trans (World.alloc_heap_new W _));have C2:=hid (((Below.refl _ _).alloc (Nat.le_refl _) _).trans (hb.mono (by simp)));have E2:=hid (Nat.lt_of_lt_of_le (show W.heap.size<(W.alloc _).heap.size by simp) hb.size);clear hb HM)
   | (go_at_call 65;refine (HC.out _ C2.out D2.out E2.out).mono ?_;rintro e W3 ⟨rfl,hb⟩;have C3:=hid (C2.out.trans (hb.mono C2.out.size));clear hb))
  go_ret
  exact ⟨by rw [HR.out,if_neg h64];rfl,C3.out⟩
end Go.Proofs.YtlcfpdmicpggbaaGreatDoor
namespace Go.Proofs.YtlcfpdmicpggbaaGreatDoor
open Go.Lib (hid)
open Go.RowKit Go.Proofs.Spl Go.Proofs.Scn Go.Shelf Go.Grow
theorem block_any (put:Ln) (v:Value) (l:List S) (hl:l.length≤1000000) (W:World) (lo:Nat) (hlo:lo≤W.heap.size) (hR:SsR W v l) (hE:∀ y ∈ l,StmtOK put y):Calls Tryz.prog 122 #[.agg #[.string (bs put)],v] W (MkPost lo W (blockT put l)):=by
 have HX:=hid hR
 have HE:=hid hE
 obtain ⟨p,cap,rfl,_⟩:=hR
 clear hE
 have HI:=hid (fun (W9:World) (f:Value) (h1:lo≤W9.heap.size) (h2:Seq lo W9 f (l.map (stmtT put)).flatten)=>in_any 123 125 f _ W9 lo h1 h2)
 have B1:=hid ((Below.refl W.heap.size W).alloc (Nat.le_refl _) (.cells #[.string (bs put)] 91))
 go_enter Tryz.func122,Tryz.ntmps122
 go_wp2_with (first
  | (go_at_call 119;refine (eachS_any put _ l hl _ lo (Nat.le_trans hlo B1.out.size) (SsR.later HX.out B1.out) HE.out).mono ?_;rintro e W4 ⟨f,rfl,h1,h2⟩;have B4:=hid (B1.out.trans (h2.mono B1.out.size));have S4:=hid h1;clear h1 h2)
  | (go_at_call 95;refine (HI.out _ _ (Nat.le_trans hlo B4.out.size) S4.out).mono ?_;rintro e W6 ⟨f,rfl,h1,h2⟩;have B6:=hid (B4.out.trans (h2.mono B4.out.size));have S6:=hid h1;clear h1 h2))
 go_ret
 refine ⟨_,rfl,?_,B6.out⟩
 have ht:blockT put l=inT 123 125 (l.map (stmtT put)).flatten:=by simp [blockT,cubT,stmtsT_map]
 rw [ht]
 exact S6.out
theorem arm_some (put name:Ln) (op:Int) (x:List X) (l:List S) (hx:x ≠ []) (hxl:x.length≤1000000) (hll:l.length≤1000000) (hE:∀ y ∈ x,ExprOK y) (hS:∀ y ∈ l,StmtOK put y) (px pl:Option Addr) (cx cl:Nat) (W:World) (lo:Nat) (hlo:lo≤W.heap.size)
  (hXs0:XsR W (.slice px x.length cx) x) (hSs0:SsR W (.slice pl l.length cl) l) :
  Calls Tryz.prog 120 #[.agg #[.string (bs put)],.agg #[.int .i64 op,.string (bs name),.slice px x.length cx,.slice pl l.length cl]] W (MkPost lo W (List.flatten [listT x,[sgT [58]],blockT put l])):=by
 have hd:decide (0<(x.length:Int))=true:=by
  have:=List.length_pos_iff.2 hx
  simp;omega
 have hdn:decide (0<x.length)=true:=by simpa using List.length_pos_iff.2 hx
 clear hx
 go_enter Tryz.func120,Tryz.ntmps120
 go_wp2_with fail
 obtain ⟨hbx0,hbx1,hls,hW1⟩:=two_boxes W (.cells #[.string (bs put)] 91) (.cells #[.int .i64 op,.string (bs name),.slice px x.length cx,.slice pl l.length cl] 31)
 generalize (W.alloc (.cells #[.string (bs put)] 91)).alloc (.cells #[.int .i64 op,.string (bs name),.slice px x.length cx,.slice pl l.length cl] 31)=W1 at *
 have hlo1:lo≤W1.heap.size:=by omega
 have hbl0:W.heap.size<W1.heap.size:=by omega
 have y0_0:=box_at hbx0 0 (v:=.string (bs put)) rfl
 have hbl1:W.heap.size+1<W1.heap.size:=by omega
 have y1_2:=box_at hbx1 2 (v:=.slice px x.length cx) rfl
 have y1_3:=box_at hbx1 3 (v:=.slice pl l.length cl) rfl
 clear hls hbx0 hbx1
 have hXs:=XsR.later hXs0 hW1
 have hSs:=SsR.later hSs0 hW1
 refine region_grow Grw (spcAt lo [.is (.pointer (some ⟨W.heap.size+1,2,none⟩)),.is (.slice px x.length cx),.seq (listT (x)),.seq ([sgT [58]]),.is (.agg #[.string (bs put)]),.is (.pointer (some ⟨W.heap.size+1,3,none⟩)),.is (.slice pl l.length cl),.seq (blockT (put) (l)),.seqs [listT (x),[sgT [58]],blockT (put) (l)],.seq (List.flatten [listT (x),[sgT [58]],blockT (put) (l)]),.seq (List.flatten [listT (x),[sgT [58]],blockT (put) (l)])])
  (by kernel_rfl) rfl (by kernel_rfl) (by kernel_rfl) (grw_drawn _) grw_trans (spcAt_grw lo _) ?hops ?hfin
 case hops=>
  refine ⟨?o0,?o1,?o2,?o3,?o4,?o5,?o6,?o7,?o8,?o9,?o10,trivial⟩
  all_goals (intro ev W' hG hr hD;have hc:=hr.const;have hf:=hr.func)
  case o0=>
   have e3:ev (.tmp 3)=.pointer (some ⟨W.heap.size+1,0,none⟩):=hr.tmp 3 (by kernel_rfl)
   exact ok_val (by simp [execOp,go_sem,e3]) ⟨Below.refl _ _,rfl⟩
  case o1=>
   have e9:ev (.tmp 9)=_:=hD 0 9 (by kernel_rfl)
   have m0:=(hG.cell (p:=⟨W.heap.size+1,2,none⟩) hbl1).trans y1_2
   exact ok_val (by simp [execOp,go_sem,e9,m0]) ⟨Below.refl _ _,rfl⟩
  case o2=>
   have e10:ev (.tmp 10)=_:=hD 1 10 (by kernel_rfl)
   exact ok_call (f:=108) (args:=#[.slice px x.length cx]) (by simp [execOp,go_sem,hc,hf,e10]) (mkp (list_any _ (x) hxl W' lo (Nat.le_trans hlo1 hG.size) (XsR.later hXs hG) hE))
  case o3=>
   exact ok_call (f:=90) (args:=#[.string { data:=#[58] }]) (by simp [execOp,go_sem,hc,hf]) (mkp (ssign_any [58] W' lo (Nat.le_trans hlo1 hG.size)))
  case o4=>
   have e2:ev (.tmp 2)=.pointer (some ⟨W.heap.size,0,none⟩):=hr.tmp 2 (by kernel_rfl)
   have m0:=(hG.cell (p:=⟨W.heap.size,0,none⟩) hbl0).trans y0_0
   exact ok_val (by simp [execOp,go_sem,e2,m0]) ⟨Below.refl _ _,rfl⟩
  case o5=>
   have e3:ev (.tmp 3)=.pointer (some ⟨W.heap.size+1,0,none⟩):=hr.tmp 3 (by kernel_rfl)
   exact ok_val (by simp [execOp,go_sem,e3]) ⟨Below.refl _ _,rfl⟩
  case o6=>
   have e14:ev (.tmp 14)=_:=hD 5 14 (by kernel_rfl)
   have m0:=(hG.cell (p:=⟨W.heap.size+1,3,none⟩) hbl1).trans y1_3
   exact ok_val (by simp [execOp,go_sem,e14,m0]) ⟨Below.refl _ _,rfl⟩
  case o7=>
   have e13:ev (.tmp 13)=_:=hD 4 13 (by kernel_rfl)
   have e15:ev (.tmp 15)=_:=hD 6 15 (by kernel_rfl)
   exact ok_call (f:=122) (args:=#[.agg #[.string (bs put)],.slice pl l.length cl]) (by simp [execOp,go_sem,hc,hf,e13,e15]) (mkp (block_any (put) _ (l) hll W' lo (Nat.le_trans hlo1 hG.size) (SsR.later hSs hG) hS))
  case o8=>
   obtain ⟨g11,l11,e11,s11⟩:=seq_form (show Seq lo W' (ev (.tmp 11)) _ from hD 2 11 (by kernel_rfl))
   obtain ⟨g12,l12,e12,s12⟩:=seq_form (show Seq lo W' (ev (.tmp 12)) _ from hD 3 12 (by kernel_rfl))
   obtain ⟨g16,l16,e16,s16⟩:=seq_form (show Seq lo W' (ev (.tmp 16)) _ from hD 7 16 (by kernel_rfl))
   have hn:=seqs_new (lo:=lo) (W:=W') (fs:=[.func (.func g11) #[] l11,.func (.func g12) #[] l12,.func (.func g16) #[] l16]) (ls:=[listT (x),[sgT [58]],blockT (put) (l)]) ⟨s11,s12,s16,trivial⟩ (Nat.le_trans hlo1 hG.size)
   exact ok_new (v:=.slice (some ⟨W'.heap.size,0,none⟩) 3 3) (W':=W'.alloc (.cells #[.func (.func g11) #[] l11,.func (.func g12) #[] l12,.func (.func g16) #[] l16] 79)) (by simp [execOp,go_sem,e11,e12,e16]) ⟨hn.2,hn.1⟩
  case o9=>
   have s17:Seqs lo W' (ev (.tmp 17)) _:=hD 8 17 (by kernel_rfl)
   exact ok_call (f:=91) (args:=#[ev (.tmp 17)]) (by simp [execOp,go_sem,hc,hf]) (mkp (row_any _ _ (by simp) W' lo (Nat.le_trans hlo1 hG.size) s17))
  case o10=>
   have s18:Seq lo W' (ev (.tmp 18)) _:=hD 9 18 (by kernel_rfl)
   exact ok_val (by simp [execOp,go_sem]) ⟨Below.refl _ _,s18⟩
 case hfin=>
  intro zz W' hG hzz
  have h9:Seq lo W' (zz 10) (List.flatten [listT (x),[sgT [58]],blockT (put) (l)]):=hzz 10 (by simp)
  simp only [putAll,Act.put,List.setIfInBounds_toArray,List.set_cons_zero,List.set_cons_succ]
  go_wp2_with fail
  go_ret
  refine ⟨_,rfl,?_,hW1.trans (Below.mono hG (by omega))⟩
  exact h9
theorem arm_none (put name:Ln) (op:Int) (l:List S) (hl:l ≠ []) (hll:l.length≤1000000) (hS:∀ y ∈ l,StmtOK put y) (px pl:Option Addr) (cx cl:Nat) (W:World) (lo:Nat) (hlo:lo≤W.heap.size) (hSs0:SsR W (.slice pl l.length cl) l) :
  Calls Tryz.prog 120 #[.agg #[.string (bs put)],.agg #[.int .i64 op,.string (bs name),.slice px 0 cx,.slice pl l.length cl]] W (MkPost lo W (List.flatten [[wdT elseW],[sgT [58]],blockT put l])):=by
 have hd:((l.length:Int) == 0)=false:=by
  have:=List.length_pos_iff.2 hl
  simp;omega
 have hdn:(l.length == 0)=false:=by simpa using hl
 have hdm:decide ((l.length:Int)=0)=false:=by simpa using hl
 clear hl
 go_enter Tryz.func120,Tryz.ntmps120
 go_wp2_with fail
 obtain ⟨hbx0,hbx1,hls,hW1⟩:=two_boxes W (.cells #[.string (bs put)] 91) (.cells #[.int .i64 op,.string (bs name),.slice px 0 cx,.slice pl l.length cl] 31)
 generalize (W.alloc (.cells #[.string (bs put)] 91)).alloc (.cells #[.int .i64 op,.string (bs name),.slice px 0 cx,.slice pl l.length cl] 31)=W1 at *
 have hlo1:lo≤W1.heap.size:=by omega
 have hbl0:W.heap.size<W1.heap.size:=by omega
 have y0_0:=box_at hbx0 0 (v:=.string (bs put)) rfl
 have hbl1:W.heap.size+1<W1.heap.size:=by omega
 have y1_3:=box_at hbx1 3 (v:=.slice pl l.length cl) rfl
 clear hls hbx0 hbx1
 have hSs:=SsR.later hSs0 hW1
 refine region_grow Grw (spcAt lo [.seq ([wdT [101,108,115,101]]),.seq ([sgT [58]]),.is (.agg #[.string (bs put)]),.is (.pointer (some ⟨W.heap.size+1,3,none⟩)),.is (.slice pl l.length cl),.seq (blockT (put) (l)),.seqs [[wdT [101,108,115,101]],[sgT [58]],blockT (put) (l)],.seq (List.flatten [[wdT [101,108,115,101]],[sgT [58]],blockT (put) (l)]),.seq (List.flatten [[wdT [101,108,115,101]],[sgT [58]],blockT (put) (l)])])
  (by kernel_rfl) rfl (by kernel_rfl) (by kernel_rfl) (grw_drawn _) grw_trans (spcAt_grw lo _) ?hops ?hfin
 case hops=>
  refine ⟨?o0,?o1,?o2,?o3,?o4,?o5,?o6,?o7,?o8,trivial⟩
  all_goals (intro ev W' hG hr hD;have hc:=hr.const;have hf:=hr.func)
  case o0=>
   exact ok_call (f:=92) (args:=#[.string { data:=#[101,108,115,101] }]) (by simp [execOp,go_sem,hc,hf]) (mkp (sword_any [101,108,115,101] W' lo (Nat.le_trans hlo1 hG.size)))
  case o1=>
   exact ok_call (f:=90) (args:=#[.string { data:=#[58] }]) (by simp [execOp,go_sem,hc,hf]) (mkp (ssign_any [58] W' lo (Nat.le_trans hlo1 hG.size)))
  case o2=>
   have e2:ev (.tmp 2)=.pointer (some ⟨W.heap.size,0,none⟩):=hr.tmp 2 (by kernel_rfl)
   have m0:=(hG.cell (p:=⟨W.heap.size,0,none⟩) hbl0).trans y0_0
   exact ok_val (by simp [execOp,go_sem,e2,m0]) ⟨Below.refl _ _,rfl⟩
  case o3=>
   have e3:ev (.tmp 3)=.pointer (some ⟨W.heap.size+1,0,none⟩):=hr.tmp 3 (by kernel_rfl)
   exact ok_val (by simp [execOp,go_sem,e3]) ⟨Below.refl _ _,rfl⟩
  case o4=>
   have e27:ev (.tmp 27)=_:=hD 3 27 (by kernel_rfl)
   have m0:=(hG.cell (p:=⟨W.heap.size+1,3,none⟩) hbl1).trans y1_3
   exact ok_val (by simp [execOp,go_sem,e27,m0]) ⟨Below.refl _ _,rfl⟩
  case o5=>
   have e26:ev (.tmp 26)=_:=hD 2 26 (by kernel_rfl)
   have e28:ev (.tmp 28)=_:=hD 4 28 (by kernel_rfl)
   exact ok_call (f:=122) (args:=#[.agg #[.string (bs put)],.slice pl l.length cl]) (by simp [execOp,go_sem,hc,hf,e26,e28]) (mkp (block_any (put) _ (l) hll W' lo (Nat.le_trans hlo1 hG.size) (SsR.later hSs hG) hS))
  case o6=>
   obtain ⟨g24,l24,e24,s24⟩:=seq_form (show Seq lo W' (ev (.tmp 24)) _ from hD 0 24 (by kernel_rfl))
   obtain ⟨g25,l25,e25,s25⟩:=seq_form (show Seq lo W' (ev (.tmp 25)) _ from hD 1 25 (by kernel_rfl))
   obtain ⟨g29,l29,e29,s29⟩:=seq_form (show Seq lo W' (ev (.tmp 29)) _ from hD 5 29 (by kernel_rfl))
   have hn:=seqs_new (lo:=lo) (W:=W') (fs:=[.func (.func g24) #[] l24,.func (.func g25) #[] l25,.func (.func g29) #[] l29]) (ls:=[[wdT [101,108,115,101]],[sgT [58]],blockT (put) (l)]) ⟨s24,s25,s29,trivial⟩ (Nat.le_trans hlo1 hG.size)
   exact ok_new (v:=.slice (some ⟨W'.heap.size,0,none⟩) 3 3) (W':=W'.alloc (.cells #[.func (.func g24) #[] l24,.func (.func g25) #[] l25,.func (.func g29) #[] l29] 79)) (by simp [execOp,go_sem,e24,e25,e29]) ⟨hn.2,hn.1⟩
  case o7=>
   have s30:Seqs lo W' (ev (.tmp 30)) _:=hD 6 30 (by kernel_rfl)
   exact ok_call (f:=91) (args:=#[ev (.tmp 30)]) (by simp [execOp,go_sem,hc,hf]) (mkp (row_any _ _ (by simp) W' lo (Nat.le_trans hlo1 hG.size) s30))
  case o8=>
   have s31:Seq lo W' (ev (.tmp 31)) _:=hD 7 31 (by kernel_rfl)
   exact ok_val (by simp [execOp,go_sem]) ⟨Below.refl _ _,s31⟩
 case hfin=>
  intro zz W' hG hzz
  have h9:Seq lo W' (zz 8) (List.flatten [[wdT [101,108,115,101]],[sgT [58]],blockT (put) (l)]):=hzz 8 (by simp)
  simp only [putAll,Act.put,List.setIfInBounds_toArray,List.set_cons_zero,List.set_cons_succ]
  go_wp2_with fail
  go_ret
  refine ⟨_,rfl,?_,hW1.trans (Below.mono hG (by omega))⟩
  exact h9
theorem arm_void (put name:Ln) (op:Int) (px pl:Option Addr) (cx cl:Nat) (W:World) (lo:Nat) (hlo:lo≤W.heap.size) :
  Calls Tryz.prog 120 #[.agg #[.string (bs put)],.agg #[.int .i64 op,.string (bs name),.slice px 0 cx,.slice pl 0 cl]] W (MkPost lo W []):=by
 have B2:=hid (two_boxes W (.cells #[.string (bs put)] 91) (.cells #[.int .i64 op,.string (bs name),.slice px 0 cx,.slice pl 0 cl] 31)).2.2.2
 go_enter Tryz.func120,Tryz.ntmps120
 go_wp2_with (go_at_call 91;refine (row_any _ [] (by simp) _ lo (Nat.le_trans hlo B2.out.size) ⟨none,0,rfl,.inl rfl⟩).mono ?_;rintro e W5 ⟨f,rfl,h1,h2⟩;have H1:=hid h1;have H2:=hid h2;clear h1 h2)
 go_ret
 exact ⟨_,rfl,H1.out,B2.out.trans (H2.out.mono B2.out.size)⟩
end Go.Proofs.YtlcfpdmicpggbaaGreatDoor
