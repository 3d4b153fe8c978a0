/- Texts of the seat, merged. -/
import Derived.Test.YtlcfpdmicpggbaaGreatDoorD14
set_option linter.unusedVariables false
set_option linter.unusedSimpArgs false
set_option maxRecDepth 100000
set_option maxHeartbeats 16000000
namespace Go.Proofs.YtlcfpdmicpggbaaGreatDoor
open Go.Lib (hid)
open Go.RowKit Go.Proofs.Spl Go.Proofs.Scn Go.Shelf
theorem TokRow.shape {B:Nat} {w:World} {v:Value} {ts:List Tok} (h:TokRow B w v ts):∃ p c,v=.slice p ts.length c:=by
 rcases h.2 with ⟨h0,h1⟩ | ⟨g,cap,cur,hv,_⟩
 ·have:ts.length=0:=by simpa using h1
  exact ⟨none,0,by rw [h0,this]⟩
 ·exact ⟨_,_,hv⟩
def TkPost (W:World) (c:Int) (ts:List Tok) (e:Ending) (W':World):Prop:=∃ v,e=.returned (.tuple #[v,.int .i64 c])∧TokRow W.heap.size W' v (if c=0 then ts else [])∧Below W.heap.size W W'
theorem tk_err {W W':World} {c:Int} {ts:List Tok} (hc:c ≠ 0) (hb:Below W.heap.size W W'):TkPost W c ts (.returned (.tuple #[.slice none 0 0,.int .i64 c])) W':=by
 refine ⟨_,rfl,?_,hb⟩
 rw [if_neg hc]
 exact World.ownsRow_nil W' W.heap.size _ 5
theorem TokRow.less {B B':Nat} {w:World} {v:Value} {ts:List Tok} (h:TokRow B w v ts) (hl:B'≤B):TokRow B' w v ts:=by
 refine ⟨h.1,?_⟩
 rcases h.2 with h0 | ⟨g,cap,cur,hv,hB,h2⟩
 ·exact .inl h0
 ·exact .inr ⟨g,cap,cur,hv,Nat.le_trans hl hB,h2⟩
theorem tk_ok {W W' W'':World} {ts:List Tok} {v:Value} (h:TokRow W''.heap.size W' v ts) (h2:Below W.heap.size W W'') (hb:Below W.heap.size W W'):TkPost W 0 ts (.returned (.tuple #[v,.int .i64 0])) W':=
 ⟨_,rfl,by rw [if_pos rfl];exact h.less h2.size,hb⟩
theorem collect_any (f:Value) (ts:List Tok) (hlen:ts.length≤1000000) (lo:Nat) (w:World) (hs:Seq lo w f ts) :
  Calls Tryz.prog 46 #[f] w fun e W'=>∃ v,e=.returned v∧TokRow w.heap.size W' v ts∧Below w.heap.size w W':=by
 have HA:=hid (appendSeq_any f ts hlen lo w hs)
 obtain ⟨g,lb,rfl,_⟩:=hs
 go_enter Tryz.func46,Tryz.ntmps46
 go_wp2_with (go_at_call 89;refine HA.out.mono ?_;rintro e W2 ⟨v,rfl,h1,h2⟩;obtain ⟨p,c,rfl⟩:=h1.shape;have H1:=hid h1;have H2:=hid h2;clear h1 h2)
 go_ret
 exact ⟨_,rfl,H1.out,H2.out⟩
theorem tokensX_any (x:X) (cs:List Value) (W:World) (hB:BaseA W) (hR:XR W x cs) (h1:smX x=true) (h2:sizeX x≤60000):Calls Tryz.prog 18 #[.agg cs.toArray] W (TkPost W (checkX x) (exprT x)):=by
 have HC:=hid (fun (W9:World) (h:Below W.heap.size W W9)=>checkX_any x cs W9 (hB.later h) (XR.later h _ _ hR) h1 (by omega))
 have hok:=checkX_ok (x:=x)
 have HX:=hid (fun (h0:checkX x=0) (W9:World) (h:Below W.heap.size W W9)=>expr_ok x (hok.1 h0).2.2 (by omega) W9 W9.heap.size cs (Nat.le_refl _) (XR.later h _ _ hR))
 have HLEN:=hid (show (exprT x).length≤1000000 by have:=expr_len x;omega)
 obtain ⟨hv,ls,rfl,hL⟩:=XR_iff.1 hR
 obtain ⟨p,c,rfl,_⟩:=hL
 clear hR hB hok h1 h2
 generalize checkX x=r at *
 by_cases hc:r=0
 ·have HX2:=hid (HX.out hc)
  subst hc
  clear HX
  go_enter Tryz.func18,Tryz.ntmps18
  go_wp2_with (first
   | (go_at_call 28;refine (HC.out _ ((Below.refl _ _).alloc (Nat.le_refl _) _)).mono ?_;rintro e W2 ⟨rfl,hb⟩;have hc:=(hb.block W.heap.size (by simp)).trans (World.alloc_heap_new W _);obtain ⟨k0,k1,k2,k3,k4,k5⟩:=cells6 hc;have C2:=hid (((Below.refl _ _).alloc (Nat.le_refl _) _).trans (hb.mono (by simp)));clear hb hc HC)
   | (go_at_call 56;refine (HX2.out _ C2.out).mono ?_;rintro e W3 ⟨f,rfl,hs,hb⟩;obtain ⟨g,lb,rfl,hs⟩:=seq_form hs;have HF:=hid hs;have C3:=hid (C2.out.trans (hb.mono C2.out.size));clear hb hs HX2)
   | (go_at_call 46;refine (collect_any _ _ HLEN.out _ _ HF.out).mono ?_;rintro e W4 ⟨v,rfl,h1,h2⟩;obtain ⟨p9,c9,rfl⟩:=h1.shape;have H1:=hid h1;have H2:=hid (C3.out.trans (h2.mono C3.out.size));clear h1 h2))
  go_ret2
  exact tk_ok H1.out C3.out H2.out
 ·have hc2:(r != 0)=true:=by simpa using hc
  have HN:=hid hc
  clear hc HX
  go_enter Tryz.func18,Tryz.ntmps18
  go_wp2_with (go_at_call 28;refine (HC.out _ ((Below.refl _ _).alloc (Nat.le_refl _) _)).mono ?_;rintro e W2 ⟨rfl,hb⟩;have C2:=hid (((Below.refl _ _).alloc (Nat.le_refl _) _).trans (hb.mono (by simp)));clear hb HC)
  go_ret2
  exact tk_err HN.out C2.out
theorem tokensS_put1 (x:S) (cs:List Value) (W:World) (hB:BaseA W) (hR:SR W x cs) (h1:smS x=true) (h2:sizeS x≤60000):Calls Tryz.prog 20 #[.agg cs.toArray,.bool false] W (TkPost W (checkS x) (stmtT [61] x)):=by
 have HC:=hid (fun (W9:World) (h:Below W.heap.size W W9)=>checkS_any x cs W9 (hB.later h) (SR.later h _ _ hR) h1 (by omega))
 have hok:=checkS_ok (x:=x)
 have HX:=hid (fun (h0:checkS x=0) (W9:World) (h:Below W.heap.size W W9)=>stmt_ok [61] (by decide) x (hok.1 h0).2.2 (by omega) W9 W9.heap.size cs (Nat.le_refl _) (SR.later h _ _ hR))
 have HLEN:=hid (show (stmtT [61] x).length≤1000000 by have:=stmt_len [61] x;omega)
 obtain ⟨xs,ls,rfl,hX,hL⟩:=SR_iff.1 hR
 obtain ⟨p,c,rfl,_⟩:=hL
 obtain ⟨p',c',rfl,_⟩:=hX
 clear hR hB hok h1 h2
 generalize checkS x=r at *
 by_cases hc:r=0
 ·have HX2:=hid (HX.out hc)
  subst hc
  clear HX
  go_enter Tryz.func20,Tryz.ntmps20
  go_wp2_with (first
   | (go_at_call 59;refine (HC.out _ ((Below.refl _ _).alloc (Nat.le_refl _) _)).mono ?_;rintro e W2 ⟨rfl,hb⟩;have hc:=(hb.block W.heap.size (by simp)).trans (World.alloc_heap_new W _);obtain ⟨k0,k1,k2,k3⟩:=cells4 hc;have hl2:=Nat.lt_of_lt_of_le (show W.heap.size<(W.alloc _).heap.size by simp) hb.size;have C2:=hid (((Below.refl _ _).alloc (Nat.le_refl _) _).trans (hb.mono (by simp)));have q0:=fun o=>(((Below.refl W2.heap.size W2).alloc (Nat.le_refl _) o).cell (p:=⟨W.heap.size,0,none⟩) hl2).trans k0;have q1:=fun o=>(((Below.refl W2.heap.size W2).alloc (Nat.le_refl _) o).cell (p:=⟨W.heap.size,1,none⟩) hl2).trans k1;have q2:=fun o=>(((Below.refl W2.heap.size W2).alloc (Nat.le_refl _) o).cell (p:=⟨W.heap.size,2,none⟩) hl2).trans k2;have q3:=fun o=>(((Below.refl W2.heap.size W2).alloc (Nat.le_refl _) o).cell (p:=⟨W.heap.size,3,none⟩) hl2).trans k3;clear hb hc HC)
   | (go_at_call 60;refine (HX2.out _ (C2.out.alloc C2.out.size _)).mono ?_;rintro e W3 ⟨f,rfl,hs,hb⟩;obtain ⟨g,lb,rfl,hs⟩:=seq_form hs;have HF:=hid hs;have C3:=hid ((C2.out.alloc C2.out.size _).trans (hb.mono (C2.out.alloc C2.out.size _).size));clear hb hs HX2)
   | (go_at_call 46;refine (collect_any _ _ HLEN.out _ _ HF.out).mono ?_;rintro e W4 ⟨v,rfl,h1,h2⟩;obtain ⟨p9,c9,rfl⟩:=h1.shape;have H1:=hid h1;have H2:=hid (C3.out.trans (h2.mono C3.out.size));clear h1 h2))
  go_ret2
  exact tk_ok H1.out C3.out H2.out
 ·have hc2:(r != 0)=true:=by simpa using hc
  have HN:=hid hc
  clear hc HX
  go_enter Tryz.func20,Tryz.ntmps20
  go_wp2_with (go_at_call 59;refine (HC.out _ ((Below.refl _ _).alloc (Nat.le_refl _) _)).mono ?_;rintro e W2 ⟨rfl,hb⟩;have C2:=hid (((Below.refl _ _).alloc (Nat.le_refl _) _).trans (hb.mono (by simp)));clear hb HC)
  go_ret2
  exact tk_err HN.out C2.out
theorem tokensS_put2 (x:S) (cs:List Value) (W:World) (hB:BaseA W) (hR:SR W x cs) (h1:smS x=true) (h2:sizeS x≤60000):Calls Tryz.prog 20 #[.agg cs.toArray,.bool true] W (TkPost W (checkS x) (stmtT [60,61] x)):=by
 have HC:=hid (fun (W9:World) (h:Below W.heap.size W W9)=>checkS_any x cs W9 (hB.later h) (SR.later h _ _ hR) h1 (by omega))
 have hok:=checkS_ok (x:=x)
 have HX:=hid (fun (h0:checkS x=0) (W9:World) (h:Below W.heap.size W W9)=>stmt_ok [60,61] (by decide) x (hok.1 h0).2.2 (by omega) W9 W9.heap.size cs (Nat.le_refl _) (SR.later h _ _ hR))
 have HLEN:=hid (show (stmtT [60,61] x).length≤1000000 by have:=stmt_len [60,61] x;omega)
 obtain ⟨xs,ls,rfl,hX,hL⟩:=SR_iff.1 hR
 obtain ⟨p,c,rfl,_⟩:=hL
 obtain ⟨p',c',rfl,_⟩:=hX
 clear hR hB hok h1 h2
 generalize checkS x=r at *
 by_cases hc:r=0
 ·have HX2:=hid (HX.out hc)
  subst hc
  clear HX
  go_enter Tryz.func20,Tryz.ntmps20
  go_wp2_with (first
   | (go_at_call 59;refine (HC.out _ ((Below.refl _ _).alloc (Nat.le_refl _) _)).mono ?_;rintro e W2 ⟨rfl,hb⟩;have hc:=(hb.block W.heap.size (by simp)).trans (World.alloc_heap_new W _);obtain ⟨k0,k1,k2,k3⟩:=cells4 hc;have hl2:=Nat.lt_of_lt_of_le (show W.heap.size<(W.alloc _).heap.size by simp) hb.size;have C2:=hid (((Below.refl _ _).alloc (Nat.le_refl _) _).trans (hb.mono (by simp)));have q0:=fun o=>(((Below.refl W2.heap.size W2).alloc (Nat.le_refl _) o).cell (p:=⟨W.heap.size,0,none⟩) hl2).trans k0;have q1:=fun o=>(((Below.refl W2.heap.size W2).alloc (Nat.le_refl _) o).cell (p:=⟨W.heap.size,1,none⟩) hl2).trans k1;have q2:=fun o=>(((Below.refl W2.heap.size W2).alloc (Nat.le_refl _) o).cell (p:=⟨W.heap.size,2,none⟩) hl2).trans k2;have q3:=fun o=>(((Below.refl W2.heap.size W2).alloc (Nat.le_refl _) o).cell (p:=⟨W.heap.size,3,none⟩) hl2).trans k3;clear hb hc HC)
   | (go_at_call 60;refine (HX2.out _ (C2.out.alloc C2.out.size _)).mono ?_;rintro e W3 ⟨f,rfl,hs,hb⟩;obtain ⟨g,lb,rfl,hs⟩:=seq_form hs;have HF:=hid hs;have C3:=hid ((C2.out.alloc C2.out.size _).trans (hb.mono (C2.out.alloc C2.out.size _).size));clear hb hs HX2)
   | (go_at_call 46;refine (collect_any _ _ HLEN.out _ _ HF.out).mono ?_;rintro e W4 ⟨v,rfl,h1,h2⟩;obtain ⟨p9,c9,rfl⟩:=h1.shape;have H1:=hid h1;have H2:=hid (C3.out.trans (h2.mono C3.out.size));clear h1 h2))
  go_ret2
  exact tk_ok H1.out C3.out H2.out
 ·have hc2:(r != 0)=true:=by simpa using hc
  have HN:=hid hc
  clear hc HX
  go_enter Tryz.func20,Tryz.ntmps20
  go_wp2_with (go_at_call 59;refine (HC.out _ ((Below.refl _ _).alloc (Nat.le_refl _) _)).mono ?_;rintro e W2 ⟨rfl,hb⟩;have C2:=hid (((Below.refl _ _).alloc (Nat.le_refl _) _).trans (hb.mono (by simp)));clear hb HC)
  go_ret2
  exact tk_err HN.out C2.out
def putC (c:Bool):Ln:=if c then [60,61] else [61]
theorem tokensS_any (c:Bool) (x:S) (cs:List Value) (W:World) (hB:BaseA W) (hR:SR W x cs) (h1:smS x=true) (h2:sizeS x≤60000):Calls Tryz.prog 20 #[.agg cs.toArray,.bool c] W (TkPost W (checkS x) (stmtT (putC c) x)):=by
 cases c with
 | true=>exact tokensS_put2 x cs W hB hR h1 h2
 | false=>exact tokensS_put1 x cs W hB hR h1 h2
theorem tokens_any (x:List Md) (p:Option Addr) (c:Nat) (W:World) (hB:BaseA W) (hR:MsR W (.slice p x.length c) x) (h1:x.all smM=true) (h2:sumN sizeM x≤60000):Calls Tryz.prog 16 #[.agg #[.slice p x.length c]] W (TkPost W (checkF x) (fileT x)):=by
 have HC:=hid (fun (W9:World) (h:Below W.heap.size W W9)=>checkF_any x p c W9 (hB.later h) (MsR.later hR h) h1 (by omega))
 have hok:=checkF_ok (f:=x)
 have hl:=sumN_len sizeM (fun m=>by unfold sizeM;omega) x
 have HX:=hid (fun (h0:checkF x=0) (W9:World) (h:Below W.heap.size W W9)=>eachM_any _ x (by omega) W9 W9.heap.size (Nat.le_refl _) (MsR.later hR h) (fun y hy=>module_ok y (List.all_eq_true.1 (hok.1 h0).2.2.2 y hy) (by have:=sumN_mem sizeM hy;omega)))
 have HLEN:=hid (show (fileT x).length≤1000000 by have:=file_len x;omega)
 clear hR hB hok h1 h2 hl
 generalize checkF x=r at *
 by_cases hc:r=0
 ·have HX2:=hid (HX.out hc)
  subst hc
  clear HX
  go_enter Tryz.func16,Tryz.ntmps16
  go_wp2_with (first
   | (go_at_call 45;refine (HC.out _ ((Below.refl _ _).alloc (Nat.le_refl _) _)).mono ?_;rintro e W2 ⟨rfl,hb⟩;have k0:W2.cell? ⟨W.heap.size,0,none⟩=some (.slice p x.length c):=(cell_of_row _ _ _ _ _ _ ((hb.block W.heap.size (by simp)).trans (World.alloc_heap_new W _))).trans rfl;have C2:=hid (((Below.refl _ _).alloc (Nat.le_refl _) _).trans (hb.mono (by simp)));clear hb HC)
   | (go_at_call 47;refine (HX2.out _ C2.out).mono ?_;rintro e W3 ⟨f,rfl,hs,hb⟩;obtain ⟨g,lb,rfl,hs⟩:=seq_form hs;have HF:=hid hs;have C3:=hid (C2.out.trans (hb.mono C2.out.size));clear hb hs HX2)
   | (go_at_call 46;refine (collect_any _ _ HLEN.out _ _ HF.out).mono ?_;rintro e W4 ⟨v,rfl,h1,h2⟩;obtain ⟨p9,c9,rfl⟩:=h1.shape;have H1:=hid h1;have H2:=hid (C3.out.trans (h2.mono C3.out.size));clear h1 h2))
  go_ret2
  exact tk_ok H1.out C3.out H2.out
 ·have hc2:(r != 0)=true:=by simpa using hc
  have HN:=hid hc
  clear hc HX
  go_enter Tryz.func16,Tryz.ntmps16
  go_wp2_with (go_at_call 45;refine (HC.out _ ((Below.refl _ _).alloc (Nat.le_refl _) _)).mono ?_;rintro e W2 ⟨rfl,hb⟩;have C2:=hid (((Below.refl _ _).alloc (Nat.le_refl _) _).trans (hb.mono (by simp)));clear hb HC)
  go_ret2
  exact tk_err HN.out C2.out
end Go.Proofs.YtlcfpdmicpggbaaGreatDoor
namespace Go.Proofs.YtlcfpdmicpggbaaGreatDoor
open Go.Lib (hid)
open Go.RowKit Go.Proofs.Spl Go.Proofs.Scn Go.Shelf
def fewB (n d:Nat):Bool:=decide (n≤2000) && decide (d≤100)
theorem fewX_any (x:X) (cs:List Value) (W:World) (hR:XR W x cs) (h2:sizeX x≤1000000000):RetB 14 #[.agg cs.toArray] W (fewB (sizeX x) (deepX x)):=by
 have H1:=hid (fun (W9:World) (h:Below W.heap.size W W9)=>szX_ok x h2 W9 cs (XR.later h _ _ hR))
 have H2:=hid (fun (W9:World) (h:Below W.heap.size W W9)=>dpX_ok x h2 W9 cs (XR.later h _ _ hR))
 obtain ⟨hv,ls,rfl,hL⟩:=XR_iff.1 hR
 obtain ⟨p,c,rfl,_⟩:=hL
 clear hR h2
 generalize sizeX x=a at *
 generalize deepX x=b at *
 by_cases h:a≤2000
 ·have h':(a:Int)≤2000:=by omega
  go_enter Tryz.func14,Tryz.ntmps14
  go_wp2_with (first
   | (go_at_call 41;refine (H1.out _ ((Below.refl _ _).alloc (Nat.le_refl _) _)).mono ?_;rintro e W2 ⟨rfl,hb⟩;have hc:=(hb.block W.heap.size (by simp)).trans (World.alloc_heap_new W _);obtain ⟨k0,k1,k2,k3,k4,k5⟩:=cells6 hc;have C2:=hid (((Below.refl _ _).alloc (Nat.le_refl _) _).trans (hb.mono (by simp)));clear hb hc H1)
   | (go_at_call 42;refine (H2.out _ C2.out).mono ?_;rintro e W3 ⟨rfl,hb⟩;have C3:=hid (C2.out.trans (hb.mono C2.out.size));clear hb))
  go_ret
  exact ⟨ret_bool (by unfold fewB;rw [decide_eq_true h,Bool.true_and,Bool.eq_iff_iff];simp;omega),C3.out⟩
 ·have h':¬ (a:Int)≤2000:=by omega
  have hd:decide ((a:Int)≤2000)=false:=by simpa using h'
  go_enter Tryz.func14,Tryz.ntmps14
  go_wp2_with (go_at_call 41;refine (H1.out _ ((Below.refl _ _).alloc (Nat.le_refl _) _)).mono ?_;rintro e W2 ⟨rfl,hb⟩;have C2:=hid (((Below.refl _ _).alloc (Nat.le_refl _) _).trans (hb.mono (by simp)));clear hb H1)
  go_ret
  exact ⟨ret_bool (by unfold fewB;rw [decide_eq_false h];rfl),C2.out⟩
theorem few_any (f:List Md) (p:Option Addr) (c:Nat) (W:World) (hR:MsR W (.slice p f.length c) f) (h2:sumN sizeM f≤1000000000):RetB 13 #[.agg #[.slice p f.length c]] W (fewB (sumN sizeM f) (maxN deepM f)):=by
 have H1:=hid (fun (W9:World) (h:Below W.heap.size W W9)=>rSize_any f p c h2 W9 (MsR.later hR h))
 have H2:=hid (fun (W9:World) (h:Below W.heap.size W W9)=>rDeep_any f p c h2 W9 (MsR.later hR h))
 clear hR h2
 generalize sumN sizeM f=a at *
 generalize maxN deepM f=b at *
 by_cases h:a≤2000
 ·have h':(a:Int)≤2000:=by omega
  go_enter Tryz.func13,Tryz.ntmps13
  go_wp2_with (first
   | (go_at_call 39;refine (H1.out _ ((Below.refl _ _).alloc (Nat.le_refl _) _)).mono ?_;rintro e W2 ⟨rfl,hb⟩;have k0:W2.cell? ⟨W.heap.size,0,none⟩=some (.slice p f.length c):=(cell_of_row _ _ _ _ _ _ ((hb.block W.heap.size (by simp)).trans (World.alloc_heap_new W _))).trans rfl;have C2:=hid (((Below.refl _ _).alloc (Nat.le_refl _) _).trans (hb.mono (by simp)));clear hb H1)
   | (go_at_call 40;refine (H2.out _ C2.out).mono ?_;rintro e W3 ⟨rfl,hb⟩;have C3:=hid (C2.out.trans (hb.mono C2.out.size));clear hb))
  go_ret
  exact ⟨ret_bool (by unfold fewB;rw [decide_eq_true h,Bool.true_and,Bool.eq_iff_iff];simp;omega),C3.out⟩
 ·have h':¬ (a:Int)≤2000:=by omega
  have hd:decide ((a:Int)≤2000)=false:=by simpa using h'
  go_enter Tryz.func13,Tryz.ntmps13
  go_wp2_with (go_at_call 39;refine (H1.out _ ((Below.refl _ _).alloc (Nat.le_refl _) _)).mono ?_;rintro e W2 ⟨rfl,hb⟩;have C2:=hid (((Below.refl _ _).alloc (Nat.le_refl _) _).trans (hb.mono (by simp)));clear hb H1)
  go_ret
  exact ⟨ret_bool (by unfold fewB;rw [decide_eq_false h];rfl),C2.out⟩
theorem one_stmt (W:World) (s:S) (cs:List Value) (hR:SR W s cs) (h4:cs.length=4):SsR (W.alloc (.cells cs.toArray 31)) (.slice (some ⟨W.heap.size,0,none⟩) 1 1) [s]:=by
 refine ⟨_,_,rfl,Nat.le_refl _,.inr ⟨W.heap.size,0,rfl,by simp,fun k hk=>?_⟩⟩
 have:k=0:=by simpa using hk
 subst this
 refine ⟨cs,SR.later ((Below.refl _ _).alloc (Nat.le_refl _) _) _ _ hR,fun j hj=>?_⟩
 rw [World.cell?_alloc_new W cs.toArray 31 (0+0 * 4+j)]
 simp
theorem fewS_any (x:S) (cs:List Value) (W:World) (hR:SR W x cs) (h2:sizeS x≤1000000000):RetB 15 #[.agg cs.toArray] W (fewB (sizeS x) (deepS x)):=by
 have e1:sumN sizeS [x]=sizeS x:=by simp [sumN]
 have e2:maxN deepS [x]=deepS x:=by simp [maxN]
 have hs:=one_stmt
 have H1:=hid (fun (W9:World) (p:Option Addr) (h:SsR W9 (.slice p 1 1) [x])=>szSs_ok [x] (by rw [e1];exact h2) _ W9 h)
 have H2:=hid (fun (W9:World) (p:Option Addr) (h:SsR W9 (.slice p 1 1) [x])=>dpSs_ok [x] (by rw [e1];exact h2) _ W9 h)
 rw [e1] at H1
 rw [e2] at H2
 have hR2:=fun (W9:World) (h:Below W.heap.size W W9)=>SR.later h _ _ hR
 obtain ⟨xs,ls,rfl,hX,hL⟩:=SR_iff.1 hR
 obtain ⟨p,c,rfl,_⟩:=hL
 obtain ⟨p',c',rfl,_⟩:=hX
 have HS:=hid (fun (W9:World) (h:Below W.heap.size W W9) (hz:W9.heap.size=W.heap.size+1)=>(show SsR (W9.alloc (.cells #[.int .i64 x.op,.string (bs x.name),.slice p' x.x.length c',.slice p x.l.length c] 31)) (.slice (some ⟨W.heap.size+1,0,none⟩) 1 1) [x] by rw [← hz];exact one_stmt W9 x _ (hR2 W9 h) rfl))
 clear hR h2 e1 e2 hs hR2
 generalize sizeS x=a at *
 generalize deepS x=b at *
 by_cases h:a≤2000
 ·have h':(a:Int)≤2000:=by omega
  go_enter Tryz.func15,Tryz.ntmps15
  go_wp2_with (first
   | (go_at_call 43;refine (H1.out _ _ (HS.out _ ((Below.refl _ _).alloc (Nat.le_refl _) _) (by simp))).mono ?_;rintro e W2 ⟨rfl,hb⟩;have S2:Hid (SsR W2 (.slice (some ⟨W.heap.size+1,0,none⟩) 1 1) [x]):=hid (by refine SsR.later ?_ hb;exact HS.out _ ((Below.refl _ _).alloc (Nat.le_refl _) _) (by simp));have C2:=hid ((((Below.refl _ _).alloc (Nat.le_refl _) _).alloc (by simp) _).trans (hb.mono (by simp;omega)));clear hb H1)
   | (go_at_call 44;refine (H2.out _ _ S2.out).mono ?_;rintro e W3 ⟨rfl,hb⟩;have C3:=hid (C2.out.trans (hb.mono C2.out.size));clear hb))
  go_ret
  exact ⟨ret_bool (by unfold fewB;rw [decide_eq_true h,Bool.true_and,Bool.eq_iff_iff];simp;omega),C3.out⟩
 ·have h':¬ (a:Int)≤2000:=by omega
  have hd:decide ((a:Int)≤2000)=false:=by simpa using h'
  go_enter Tryz.func15,Tryz.ntmps15
  go_wp2_with (go_at_call 43;refine (H1.out _ _ (HS.out _ ((Below.refl _ _).alloc (Nat.le_refl _) _) (by simp))).mono ?_;rintro e W2 ⟨rfl,hb⟩;have C2:=hid ((((Below.refl _ _).alloc (Nat.le_refl _) _).alloc (by simp) _).trans (hb.mono (by simp;omega)));clear hb H1)
  go_ret
  exact ⟨ret_bool (by unfold fewB;rw [decide_eq_false h];rfl),C2.out⟩
def prE (c:Int) (ts:List Tok):Int:=if c=0 then (if (textL ts).length≤65536 then 0 else 2) else c
def PrPost (W:World) (c:Int) (ts:List Tok) (e:Ending) (W':World):Prop:=∃ p n cap,e=.returned (.tuple #[.slice p n cap,.int .i64 (prE c ts)])∧OwnB W.heap.size W' (.slice p n cap) (if prE c ts=0 then textL ts else [])∧Below W.heap.size W W'
theorem OwnB.shape {B:Nat} {w:World} {v:Value} {l:List UInt8} (h:OwnB B w v l):∃ p n c,v=.slice p n c:=by
 rcases h.2 with ⟨h0,_⟩ | ⟨g,cap,cur,hv,_⟩
 ·exact ⟨none,0,0,h0⟩
 ·exact ⟨_,_,_,hv⟩
theorem textPost_pr {W W':World} {ts:List Tok} {e:Ending} (hc:ts.all checkT=true) (h:TextPost W ts e W'):PrPost W 0 ts e W':=by
 obtain ⟨h,hb⟩:=h
 rw [if_pos hc] at h
 unfold PrPost prE
 rw [if_pos rfl]
 by_cases hl:(textL ts).length≤65536
 ·rw [if_pos hl] at h ⊢
  obtain ⟨v,rfl,ho⟩:=h
  obtain ⟨p,n,c,rfl⟩:=ho.shape
  exact ⟨p,n,c,rfl,by rw [if_pos rfl];exact ho,hb⟩
 ·rw [if_neg hl] at h ⊢
  exact ⟨_,_,_,h,by rw [if_neg (by decide)];exact OwnB.nil _ _,hb⟩
theorem Below.pr {W W1 W':World} {c:Int} {ts:List Tok} {e:Ending} (h:Below W.heap.size W W1) (k:PrPost W1 c ts e W'):PrPost W c ts e W':=by
 obtain ⟨p,n,cap,h1,h2,h3⟩:=k
 refine ⟨p,n,cap,h1,⟨h2.1,?_⟩,h.trans (h3.mono h.size)⟩
 rcases h2.2 with h0 | ⟨g,cap,cur,hv,hB,hg⟩
 ·exact .inl h0
 ·exact .inr ⟨g,cap,cur,hv,Nat.le_trans h.size hB,hg⟩
theorem TokRow.shape3 {B:Nat} {w:World} {v:Value} {ts:List Tok} (h:TokRow B w v ts):∃ p n c,v=.slice p n c:=by
 obtain ⟨p,c,e⟩:=h.shape
 exact ⟨p,_,c,e⟩
theorem TokRow.own {B:Nat} {w:World} {v:Value} {ts:List Tok} (h:TokRow B w v ts):OwnT B w v ts:=h
theorem stext_any (p:Option Addr) (n k:Nat) (c:Int) (ts:List Tok) (W:World) (hB:Base W) (ht:c=0→Toks W (.slice p n k) ts) (hc:c=0→ts.all checkT=true) (hf:c=0→AllF ts) (hl:ts.length≤1000000) :
  Calls Tryz.prog 63 #[.slice p n k,.int .i64 c] W (PrPost W c ts):=by
 by_cases h0:c=0
 ·subst h0
  have HT:=hid (text_any (.slice p n k) ts (by omega) W (ht rfl) (fun t h=>⟨(hf rfl t h).1,by have:=(hf rfl t h).2;omega⟩) hB)
  have HC:=hid (hc rfl)
  clear ht hc hf hB
  go_enter Tryz.func63,Tryz.ntmps63
  go_wp2_with (go_at_call 127;refine HT.out.mono ?_;rintro e W2 h;obtain ⟨p9,n9,c9,rfl,h1,h2⟩:=textPost_pr HC.out h;have H1:=hid h1;have H2:=hid h2;clear h h1 h2)
  go_ret2
  exact ⟨_,_,_,rfl,H1.out,H2.out⟩
 ·have hc2:(c != 0)=true:=by simpa using h0
  have HN:=hid h0
  clear h0 ht hc hf
  go_enter Tryz.func63,Tryz.ntmps63
  go_wp2
  go_ret2
  have hp:prE c ts=c:=by unfold prE;rw [if_neg HN.out]
  exact ⟨_,_,_,by rw [hp];rfl,by rw [hp,if_neg HN.out];exact OwnB.nil _ _,Below.refl _ _⟩
theorem printX_any (x:X) (cs:List Value) (W:World) (hB:BaseA W) (hR:XR W x cs) (h1:smX x=true) (h2:sizeX x≤60000):Calls Tryz.prog 25 #[.agg cs.toArray] W (PrPost W (checkX x) (exprT x)):=by
 have HT:=hid (fun (W9:World) (h:Below W.heap.size W W9)=>tokensX_any x cs W9 (hB.later h) (XR.later h _ _ hR) h1 h2)
 have hok:=fun (h0:checkX x=0)=>(checkX_ok.1 h0).2.2
 have HP:=hid (fun (W9:World) (p:Option Addr) (k:Nat) (h:Below W.heap.size W W9) (n:Nat) (ht:checkX x=0→Toks W9 (.slice p n k) (exprT x))=>stext_any p n k (checkX x) (exprT x) W9 (hB.later h).base ht (fun h0=>even_check _ _ (bal_expr x (hok h0)).even) (fun h0=>fair_expr x (hok h0)) (by have:=expr_len x;omega))
 obtain ⟨hv,ls,rfl,hL⟩:=XR_iff.1 hR
 obtain ⟨p,c,rfl,_⟩:=hL
 clear hR hB hok h1 h2
 generalize checkX x=r at *
 generalize exprT x=ts at *
 go_enter Tryz.func25,Tryz.ntmps25
 go_wp2_with (first
  | (go_at_call 18;refine (HT.out _ ((Below.refl _ _).alloc (Nat.le_refl _) _)).mono ?_;rintro e W2 ⟨v,rfl,h1,hb⟩;obtain ⟨p9,n9,c9,rfl⟩:=h1.shape3;have H1:=hid (show r=0→Toks W2 _ ts from fun h0=>by rw [if_pos h0] at h1;exact h1.own.toks);have C2:=hid (((Below.refl _ _).alloc (Nat.le_refl _) _).trans (hb.mono (by simp)));clear hb h1 HT)
  | (go_at_call 63;refine (HP.out _ _ _ C2.out _ H1.out).mono ?_;rintro e W3 h;obtain ⟨p8,n8,c8,rfl,h1,h2⟩:=Below.pr C2.out h;have K1:=hid h1;have K2:=hid h2;clear h h1 h2 HP))
 go_ret2
 exact ⟨_,_,_,rfl,K1.out,K2.out⟩
theorem print_any (x:List Md) (p:Option Addr) (c:Nat) (W:World) (hB:BaseA W) (hR:MsR W (.slice p x.length c) x) (h1:x.all smM=true) (h2:sumN sizeM x≤60000):Calls Tryz.prog 23 #[.agg #[.slice p x.length c]] W (PrPost W (checkF x) (fileT x)):=by
 have HT:=hid (fun (W9:World) (h:Below W.heap.size W W9)=>tokens_any x p c W9 (hB.later h) (MsR.later hR h) h1 h2)
 have hok:=fun (h0:checkF x=0)=>(checkF_ok.1 h0).2.2.2
 have HP:=hid (fun (W9:World) (p:Option Addr) (k:Nat) (h:Below W.heap.size W W9) (n:Nat) (ht:checkF x=0→Toks W9 (.slice p n k) (fileT x))=>stext_any p n k (checkF x) (fileT x) W9 (hB.later h).base ht (fun h0=>even_check _ _ (bal_file (hok h0)).even) (fun h0=>fair_file (hok h0)) (by have:=file_len x;omega))
 clear hR hB hok h1 h2
 generalize checkF x=r at *
 generalize fileT x=ts at *
 go_enter Tryz.func23,Tryz.ntmps23
 go_wp2_with (first
  | (go_at_call 16;refine (HT.out _ ((Below.refl _ _).alloc (Nat.le_refl _) _)).mono ?_;rintro e W2 ⟨v,rfl,h1,hb⟩;obtain ⟨p9,n9,c9,rfl⟩:=h1.shape3;have H1:=hid (show r=0→Toks W2 _ ts from fun h0=>by rw [if_pos h0] at h1;exact h1.own.toks);have C2:=hid (((Below.refl _ _).alloc (Nat.le_refl _) _).trans (hb.mono (by simp)));clear hb h1 HT)
  | (go_at_call 63;refine (HP.out _ _ _ C2.out _ H1.out).mono ?_;rintro e W3 h;obtain ⟨p8,n8,c8,rfl,h1,h2⟩:=Below.pr C2.out h;have K1:=hid h1;have K2:=hid h2;clear h h1 h2 HP))
 go_ret2
 exact ⟨_,_,_,rfl,K1.out,K2.out⟩
theorem lname_any (s:Ln) (W:World):Calls Tryz.prog 27 #[.string (bs s)] W fun e W'=>e=.returned (.agg #[.int .i64 2,.string (bs s),.int .i64 0,.int .i64 0,.int .u64 0,.slice none 0 0])∧Below W.heap.size W W':=by
 go_enter Tryz.func27,Tryz.ntmps27
 go_wp2
 refine bodyPost_ret (v:=.agg #[.int .i64 2,.string (bs s),.int .i64 0,.int .i64 0,.int .u64 0,.slice none 0 0]) ?_ rfl ⟨rfl,?_⟩
 ·simp [results,Tryz.results27,go_sem]
 ·exact (Below.refl _ _).alloc (Nat.le_refl _) _
theorem name_xr (s:Ln) (W:World):XR W (nameX s) [.int .i64 2,.string (bs s),.int .i64 0,.int .i64 0,.int .u64 0,.slice none 0 0]:=
 XR_iff.2 ⟨show (0:Nat)<two64 by decide,_,rfl,none,0,rfl,Nat.le_refl _,.inl rfl⟩
theorem pair_els {W:World} {B:Nat} {a b:X} {ca cb:List Value} {T:TypeId} (h:W.heap[B]?=some (.cells (ca ++ cb).toArray T (0,0))) (hA:XR W a ca) (hB:XR W b cb) (la:ca.length=6) (lb:cb.length=6):XsR W (.slice (some ⟨B,0,none⟩) 2 2) [a,b]:=by
 have hlt:B<W.heap.size:=(Array.getElem?_eq_some_iff.1 h).1
 have hc:∀ j,W.cell? ⟨B,j,none⟩=(ca ++ cb)[j]?:=fun j=>by simp [World.cell?,h]
 refine ⟨_,_,rfl,Nat.le_refl _,.inr ⟨B,0,rfl,hlt,fun k hk=>?_⟩⟩
 match k,hk with
 | 0,_=>exact ⟨ca,hA,fun j hj=>by rw [hc,List.getElem?_append_left (by omega)];congr 1;omega⟩
 | 1,_=>exact ⟨cb,hB,fun j hj=>by rw [hc,List.getElem?_append_right (by omega)];congr 1;omega⟩
theorem lbin_any (n:Int) (a b:X) (ca cb:List Value) (W:World) (hA:XR W a ca) (hB:XR W b cb):Calls Tryz.prog 29 #[.int .i64 n,.agg ca.toArray,.agg cb.toArray] W fun e W'=>∃ B,e=.returned (.agg #[.int .i64 6,.string (bs []),.int .i64 n,.int .i64 0,.int .u64 0,.slice (some ⟨B,0,none⟩) 2 2])∧XR W' (binX n a b) [.int .i64 6,.string (bs []),.int .i64 n,.int .i64 0,.int .u64 0,.slice (some ⟨B,0,none⟩) 2 2]∧Below W.heap.size W W':=by
 have hA0:=hA
 have hB0:=hB
 obtain ⟨_,ls,rfl,hL⟩:=XR_iff.1 hA
 obtain ⟨_,ls',rfl,hL'⟩:=XR_iff.1 hB
 obtain ⟨p,c,rfl,_⟩:=hL
 obtain ⟨p',c',rfl,_⟩:=hL'
 clear hA hB
 go_enter Tryz.func29,Tryz.ntmps29
 go_wp2
 generalize hV:(((W.alloc (.cells #[.int .i64 a.op,.string (bs a.name),.int .i64 a.n,.int .i64 a.w,.int .u64 a.v,.slice p a.l.length c] 28)).alloc (.cells #[.int .i64 b.op,.string (bs b.name),.int .i64 b.n,.int .i64 b.w,.int .u64 b.v,.slice p' b.l.length c'] 28)).alloc (.cells #[.int .i64 6,.string { data:=#[] },.int .i64 n,.int .i64 0,.int .u64 0,.slice (some ⟨W.heap.size+1+1+1,0,none⟩) 2 2] 28))=V
 have hbV:Below W.heap.size W V:=by rw [← hV];exact (((Below.refl _ _).alloc (Nat.le_refl _) _).alloc (by simp) _).alloc (by simp;omega) _
 have hsV:V.heap.size=W.heap.size+1+1+1:=by rw [← hV];simp
 have hcV:V.heap[W.heap.size+1+1]?=some (.cells #[.int .i64 6,.string { data:=#[] },.int .i64 n,.int .i64 0,.int .u64 0,.slice (some ⟨W.heap.size+1+1+1,0,none⟩) 2 2] 28 (0,0)):=by
  rw [← hV]
  have:=World.alloc_heap_new ((W.alloc (.cells #[.int .i64 a.op,.string (bs a.name),.int .i64 a.n,.int .i64 a.w,.int .u64 a.v,.slice p a.l.length c] 28)).alloc (.cells #[.int .i64 b.op,.string (bs b.name),.int .i64 b.n,.int .i64 b.w,.int .u64 b.v,.slice p' b.l.length c'] 28)) (.cells #[.int .i64 6,.string { data:=#[] },.int .i64 n,.int .i64 0,.int .u64 0,.slice (some ⟨W.heap.size+1+1+1,0,none⟩) 2 2] 28)
  simpa using this
 clear hV
 have hb2:Below V.heap.size V (V.alloc (.cells #[.int .i64 a.op,.string (bs a.name),.int .i64 a.n,.int .i64 a.w,.int .u64 a.v,.slice p a.l.length c,.int .i64 b.op,.string (bs b.name),.int .i64 b.n,.int .i64 b.w,.int .u64 b.v,.slice p' b.l.length c'] 28)):=(Below.refl _ _).alloc (Nat.le_refl _) _
 have hbb:=hbV.trans (hb2.mono hbV.size)
 have hrow:=World.alloc_heap_new V (.cells #[.int .i64 a.op,.string (bs a.name),.int .i64 a.n,.int .i64 a.w,.int .u64 a.v,.slice p a.l.length c,.int .i64 b.op,.string (bs b.name),.int .i64 b.n,.int .i64 b.w,.int .u64 b.v,.slice p' b.l.length c'] 28)
 have hc2:=(hb2.block (W.heap.size+1+1) (by omega)).trans hcV
 rw [hsV] at hrow
 refine bodyPost_ret (v:=.agg #[.int .i64 6,.string (bs []),.int .i64 n,.int .i64 0,.int .u64 0,.slice (some ⟨W.heap.size+1+1+1,0,none⟩) 2 2]) ?_ rfl ⟨_,rfl,?_,hbb⟩
 ·obtain ⟨r0,r1,r2,r3,r4,r5⟩:=cells6 hc2
  simp [results,Tryz.results29,go_sem,r0,r1,r2,r3,r4,r5]
  rfl
 ·exact XR_iff.2 ⟨show (0:Nat)<two64 by decide,_,rfl,pair_els (ca:=[.int .i64 a.op,.string (bs a.name),.int .i64 a.n,.int .i64 a.w,.int .u64 a.v,.slice p a.l.length c]) (cb:=[.int .i64 b.op,.string (bs b.name),.int .i64 b.n,.int .i64 b.w,.int .u64 b.v,.slice p' b.l.length c']) hrow (XR.later hbb _ _ hA0) (XR.later hbb _ _ hB0) rfl rfl⟩
end Go.Proofs.YtlcfpdmicpggbaaGreatDoor
namespace Go.Proofs.YtlcfpdmicpggbaaGreatDoor
open Go.Lib (hid)
open Go.RowKit Go.Proofs.Spl Go.Proofs.Scn Go.Shelf
def xA:X:=nameX [97]
def xB:X:=nameX [98]
def xC:X:=nameX [99]
def x1:X:=binX 16 (binX 14 xA xB) xC
def x2:X:=binX 14 xA (binX 16 xB xC)
def x3:X:=binX 15 xA (binX 15 xB xC)
def s1:S:=.mk 1 [] [xA,xB] []
def x5:X:=nameX [105,102]
def m1:Md:=⟨[109],[],[],[]⟩
theorem e1:checkX x1=0∧textL (exprT x1)=[40,32,97,32,43,32,98,32,41,32,42,32,99]∧smX x1=true∧sizeX x1≤60000:=by decide
theorem e2:checkX x2=0∧textL (exprT x2)=[97,32,43,32,98,32,42,32,99]∧smX x2=true∧sizeX x2≤60000:=by decide
theorem e3:checkX x3=0∧textL (exprT x3)=[97,32,45,32,40,32,98,32,45,32,99,32,41]∧smX x3=true∧sizeX x3≤60000:=by decide
theorem e4:checkS s1=0∧stmtT (putC true) s1=[nmT [97],sgT [60,61],nmT [98],sgT [59]]∧smS s1=true∧sizeS s1≤60000:=by decide
theorem e5:checkX x5=1∧smX x5=true∧sizeX x5≤60000:=by decide
theorem e6:checkF [m1]=0∧textL (fileT [m1])=[109,111,100,117,108,101,32,109,32,40,32,41,32,123,10,125]∧[m1].all smM=true∧sumN sizeM [m1]≤60000:=by decide
theorem e7:checkF []=0∧fileT []=[]:=by decide
theorem one_mod (W:World):MsR (W.alloc (.cells #[.string (bs [109]),.slice none 0 0,.slice none 0 0,.slice none 0 0] 53)) (.slice (some ⟨W.heap.size,0,none⟩) 1 1) [m1]:=by
 refine ⟨_,_,rfl,Nat.le_refl _,.inr ⟨W.heap.size,0,rfl,by simp,fun k hk=>?_⟩⟩
 have:k=0:=by simpa using hk
 subst this
 refine ⟨[.string (bs [109]),.slice none 0 0,.slice none 0 0,.slice none 0 0],⟨_,_,_,rfl,⟨none,0,rfl,Nat.le_refl _,.inl rfl⟩,⟨none,0,rfl,Nat.le_refl _,.inl rfl⟩,⟨none,0,rfl,Nat.le_refl _,.inl rfl⟩⟩,fun j hj=>?_⟩
 rw [World.cell?_alloc_new W #[.string (bs [109]),.slice none 0 0,.slice none 0 0,.slice none 0 0] 53 (0+0 * 4+j)]
 simp
theorem s1_sr (W:World):SR (W.alloc (.cells #[.int .i64 2,.string (bs [97]),.int .i64 0,.int .i64 0,.int .u64 0,.slice none 0 0,.int .i64 2,.string (bs [98]),.int .i64 0,.int .i64 0,.int .u64 0,.slice none 0 0] 28)) s1 [.int .i64 1,.string (bs []),.slice (some ⟨W.heap.size,0,none⟩) 2 2,.slice none 0 0]:=
 SR_iff.2 ⟨_,_,rfl,pair_els (ca:=[.int .i64 2,.string (bs [97]),.int .i64 0,.int .i64 0,.int .u64 0,.slice none 0 0]) (cb:=[.int .i64 2,.string (bs [98]),.int .i64 0,.int .i64 0,.int .u64 0,.slice none 0 0]) (World.alloc_heap_new W _) (name_xr [97] _) (name_xr [98] _) rfl rfl,none,0,rfl,Nat.le_refl _,.inl rfl⟩
theorem live_any (W:World) (hB:BaseA W):RetB 12 #[] W true:=by
 have HB:=hid hB
 clear hB
 go_enter Tryz.func12,Tryz.ntmps12
 go_wp2_with (first
  | (go_at_call 27;refine (lname_any [97] W).mono ?_;rintro e W1 ⟨rfl,hb⟩;have X1:=hid hb;clear hb)
  | (go_at_call 27;refine (lname_any [98] (W1.alloc (.cells #[.int .i64 2,.string (bs [97]),.int .i64 0,.int .i64 0,.int .u64 0,.slice none 0 0] 28))).mono ?_;rintro e W2 ⟨rfl,hb⟩;have X2:=hid ((X1.out.alloc X1.out.size _).trans (hb.mono (X1.out.alloc X1.out.size _).size));have A2:=hid ((hb.block W1.heap.size (by simp)).trans (World.alloc_heap_new W1 _));have L2:=hid (Nat.lt_of_lt_of_le (show W1.heap.size<(W1.alloc _).heap.size by simp) hb.size);clear hb)
  | (go_at_call 27;refine (lname_any [99] (W2.alloc (.cells #[.int .i64 2,.string (bs [98]),.int .i64 0,.int .i64 0,.int .u64 0,.slice none 0 0] 28))).mono ?_;rintro e W3 ⟨rfl,hb⟩;have X3:=hid ((X2.out.alloc X2.out.size _).trans (hb.mono (X2.out.alloc X2.out.size _).size));have B3:=hid ((hb.block W2.heap.size (by simp)).trans (World.alloc_heap_new W2 _));have A3:=hid ((hb.block W1.heap.size (by have:=L2.out;simp;omega)).trans ((Below.heap_alloc _ _ _ L2.out).trans A2.out));have L3:=hid (Nat.lt_of_lt_of_le (show W2.heap.size<(W2.alloc _).heap.size by simp) hb.size);clear hb))
 obtain ⟨V,hV⟩:∃ V,V=W3.alloc (.cells #[.int .i64 2,.string (bs [99]),.int .i64 0,.int .i64 0,.int .u64 0,.slice none 0 0] 28):=⟨_,rfl⟩
 have XV:=hid (show Below W.heap.size W V by rw [hV];exact X3.out.alloc X3.out.size _)
 have hl3:=L3.out
 have hl2:=L2.out
 have f1:V.heap[W1.heap.size]?=some (.cells #[.int .i64 2,.string (bs [97]),.int .i64 0,.int .i64 0,.int .u64 0,.slice none 0 0] 28 (0,0)):=by rw [hV];exact (Below.heap_alloc _ _ _ (by omega)).trans A3.out
 have f2:V.heap[W2.heap.size]?=some (.cells #[.int .i64 2,.string (bs [98]),.int .i64 0,.int .i64 0,.int .u64 0,.slice none 0 0] 28 (0,0)):=by rw [hV];exact (Below.heap_alloc _ _ _ hl3).trans B3.out
 have f3:V.heap[W3.heap.size]?=some (.cells #[.int .i64 2,.string (bs [99]),.int .i64 0,.int .i64 0,.int .u64 0,.slice none 0 0] 28 (0,0)):=by rw [hV];exact World.alloc_heap_new W3 _
 rw [← hV]
 clear hV X1 X2 X3 A2 A3 B3 L2 L3 hl2 hl3
 generalize W1.heap.size=b1 at *
 generalize W2.heap.size=b2 at *
 generalize W3.heap.size=b3 at *
 have HSx:=hid (show ∀ w',Below V.heap.size V w'→w'.cell? ⟨b1,0,none⟩=some (.int .i64 2)∧w'.cell? ⟨b1,1,none⟩=some (.string (bs [97]))∧w'.cell? ⟨b1,2,none⟩=some (.int .i64 0)∧w'.cell? ⟨b1,3,none⟩=some (.int .i64 0)∧w'.cell? ⟨b1,4,none⟩=some (.int .u64 0)∧w'.cell? ⟨b1,5,none⟩=some (.slice none 0 0)∧w'.cell? ⟨b2,0,none⟩=some (.int .i64 2)∧w'.cell? ⟨b2,1,none⟩=some (.string (bs [98]))∧w'.cell? ⟨b2,2,none⟩=some (.int .i64 0)∧w'.cell? ⟨b2,3,none⟩=some (.int .i64 0)∧w'.cell? ⟨b2,4,none⟩=some (.int .u64 0)∧w'.cell? ⟨b2,5,none⟩=some (.slice none 0 0)∧w'.cell? ⟨b3,0,none⟩=some (.int .i64 2)∧w'.cell? ⟨b3,1,none⟩=some (.string (bs [99]))∧w'.cell? ⟨b3,2,none⟩=some (.int .i64 0)∧w'.cell? ⟨b3,3,none⟩=some (.int .i64 0)∧w'.cell? ⟨b3,4,none⟩=some (.int .u64 0)∧w'.cell? ⟨b3,5,none⟩=some (.slice none 0 0) from fun w' h=>by
  obtain ⟨ka0,ka1,ka2,ka3,ka4,ka5⟩:=cells6 ((h.block _ (Array.getElem?_eq_some_iff.1 f1).1).trans f1)
  obtain ⟨kb0,kb1,kb2,kb3,kb4,kb5⟩:=cells6 ((h.block _ (Array.getElem?_eq_some_iff.1 f2).1).trans f2)
  obtain ⟨kc0,kc1,kc2,kc3,kc4,kc5⟩:=cells6 ((h.block _ (Array.getElem?_eq_some_iff.1 f3).1).trans f3)
  exact ⟨ka0,ka1,ka2,ka3,ka4,ka5,kb0,kb1,kb2,kb3,kb4,kb5,kc0,kc1,kc2,kc3,kc4,kc5⟩)
 clear f1 f2 f3
 have Y0:=hid (Below.refl V.heap.size V)
 obtain ⟨ka0,ka1,ka2,ka3,ka4,ka5,kb0,kb1,kb2,kb3,kb4,kb5,kc0,kc1,kc2,kc3,kc4,kc5⟩:=HSx.out _ Y0.out
 have Y0d:=hid (Y0.out.drew)
 have Y0:=Y0d
 have F1:=True.intro
 have G1:=True.intro
 go_region_held3 (fun w'=>w'.cell? ⟨b1,0,none⟩=some (.int .i64 2)∧w'.cell? ⟨b1,1,none⟩=some (.string (bs [97]))∧w'.cell? ⟨b1,2,none⟩=some (.int .i64 0)∧w'.cell? ⟨b1,3,none⟩=some (.int .i64 0)∧w'.cell? ⟨b1,4,none⟩=some (.int .u64 0)∧w'.cell? ⟨b1,5,none⟩=some (.slice none 0 0)∧w'.cell? ⟨b2,0,none⟩=some (.int .i64 2)∧w'.cell? ⟨b2,1,none⟩=some (.string (bs [98]))∧w'.cell? ⟨b2,2,none⟩=some (.int .i64 0)∧w'.cell? ⟨b2,3,none⟩=some (.int .i64 0)∧w'.cell? ⟨b2,4,none⟩=some (.int .u64 0)∧w'.cell? ⟨b2,5,none⟩=some (.slice none 0 0)∧w'.cell? ⟨b3,0,none⟩=some (.int .i64 2)∧w'.cell? ⟨b3,1,none⟩=some (.string (bs [99]))∧w'.cell? ⟨b3,2,none⟩=some (.int .i64 0)∧w'.cell? ⟨b3,3,none⟩=some (.int .i64 0)∧w'.cell? ⟨b3,4,none⟩=some (.int .u64 0)∧w'.cell? ⟨b3,5,none⟩=some (.slice none 0 0))
  (first | exact HSx.out _ Y3.out | exact HSx.out _ Y2.out | exact HSx.out _ Y1.out | exact HSx.out _ Y0.out | go_keep)
  (first
   | (clear F1;go_at_call 29;refine (lbin_any 14 (xA) (xB) _ _ _ (name_xr [97] _) (name_xr [98] _)).mono ?_;rintro e W11 ⟨D11,rfl,hx,hb⟩;have Y1:=hid (Y0.out.trans (hb.mono Y0.out.size));have I11:=hid hx;clear hx hb)
   | (clear G1;go_at_call 29;refine (lbin_any 16 (binX 14 xA xB) (xC) _ _ _ (I11.out) (name_xr [99] _)).mono ?_;rintro e W12 ⟨D12,rfl,hx,hb⟩;have Y2:=hid (Y1.out.trans (hb.mono Y1.out.size));have I12:=hid hx;clear hx hb)
   | (go_at_call 25;refine (printX_any x1 _ _ (HB.out.later (XV.out.trans (Y2.out.mono XV.out.size))) I12.out e1.2.2.1 e1.2.2.2).mono ?_;rintro e W13 ⟨q1,n1,c1,rfl,hx,hb⟩;rw [show prE (checkX x1) (exprT x1)=0 by rw [e1.1];unfold prE;rw [e1.2.1];decide] at hx ⊢;rw [if_pos rfl,e1.2.1] at hx;have Y3:=hid (Y2.out.trans (hb.mono Y2.out.size));  have O1:=hid hx;clear hx hb))
 go_wp2_with fail
 have Y3d:=hid (Y3.out.drew)
 have Y3:=Y3d
 have F2:=True.intro
 have G2:=True.intro
 have O1:=hid (O1.out.later ((Below.refl _ _).drew))
 go_region_held3 (fun w'=>w'.cell? ⟨b1,0,none⟩=some (.int .i64 2)∧w'.cell? ⟨b1,1,none⟩=some (.string (bs [97]))∧w'.cell? ⟨b1,2,none⟩=some (.int .i64 0)∧w'.cell? ⟨b1,3,none⟩=some (.int .i64 0)∧w'.cell? ⟨b1,4,none⟩=some (.int .u64 0)∧w'.cell? ⟨b1,5,none⟩=some (.slice none 0 0)∧w'.cell? ⟨b2,0,none⟩=some (.int .i64 2)∧w'.cell? ⟨b2,1,none⟩=some (.string (bs [98]))∧w'.cell? ⟨b2,2,none⟩=some (.int .i64 0)∧w'.cell? ⟨b2,3,none⟩=some (.int .i64 0)∧w'.cell? ⟨b2,4,none⟩=some (.int .u64 0)∧w'.cell? ⟨b2,5,none⟩=some (.slice none 0 0)∧w'.cell? ⟨b3,0,none⟩=some (.int .i64 2)∧w'.cell? ⟨b3,1,none⟩=some (.string (bs [99]))∧w'.cell? ⟨b3,2,none⟩=some (.int .i64 0)∧w'.cell? ⟨b3,3,none⟩=some (.int .i64 0)∧w'.cell? ⟨b3,4,none⟩=some (.int .u64 0)∧w'.cell? ⟨b3,5,none⟩=some (.slice none 0 0))
  (first | exact HSx.out _ Y6.out | exact HSx.out _ Y5.out | exact HSx.out _ Y4.out | exact HSx.out _ Y3.out | go_keep)
  (first
   | (clear F2;go_at_call 29;refine (lbin_any 16 (xB) (xC) _ _ _ (name_xr [98] _) (name_xr [99] _)).mono ?_;rintro e W21 ⟨D21,rfl,hx,hb⟩;have Y4:=hid (Y3.out.trans (hb.mono Y3.out.size));have I21:=hid hx;have O1:=hid (O1.out.later hb);clear hx hb)
   | (clear G2;go_at_call 29;refine (lbin_any 14 (xA) (binX 16 xB xC) _ _ _ (name_xr [97] _) (I21.out)).mono ?_;rintro e W22 ⟨D22,rfl,hx,hb⟩;have Y5:=hid (Y4.out.trans (hb.mono Y4.out.size));have I22:=hid hx;have O1:=hid (O1.out.later hb);clear hx hb)
   | (go_at_call 25;refine (printX_any x2 _ _ (HB.out.later (XV.out.trans (Y5.out.mono XV.out.size))) I22.out e2.2.2.1 e2.2.2.2).mono ?_;rintro e W23 ⟨q2,n2,c2,rfl,hx,hb⟩;rw [show prE (checkX x2) (exprT x2)=0 by rw [e2.1];unfold prE;rw [e2.2.1];decide] at hx ⊢;rw [if_pos rfl,e2.2.1] at hx;have Y6:=hid (Y5.out.trans (hb.mono Y5.out.size));  have O1:=hid (O1.out.later hb);have O2:=hid hx;clear hx hb))
 go_wp2_with fail
 have Y6d:=hid (Y6.out.drew)
 have Y6:=Y6d
 have F3:=True.intro
 have G3:=True.intro
 have O1:=hid (O1.out.later ((Below.refl _ _).drew))
 have O2:=hid (O2.out.later ((Below.refl _ _).drew))
 go_region_held3 (fun w'=>w'.cell? ⟨b1,0,none⟩=some (.int .i64 2)∧w'.cell? ⟨b1,1,none⟩=some (.string (bs [97]))∧w'.cell? ⟨b1,2,none⟩=some (.int .i64 0)∧w'.cell? ⟨b1,3,none⟩=some (.int .i64 0)∧w'.cell? ⟨b1,4,none⟩=some (.int .u64 0)∧w'.cell? ⟨b1,5,none⟩=some (.slice none 0 0)∧w'.cell? ⟨b2,0,none⟩=some (.int .i64 2)∧w'.cell? ⟨b2,1,none⟩=some (.string (bs [98]))∧w'.cell? ⟨b2,2,none⟩=some (.int .i64 0)∧w'.cell? ⟨b2,3,none⟩=some (.int .i64 0)∧w'.cell? ⟨b2,4,none⟩=some (.int .u64 0)∧w'.cell? ⟨b2,5,none⟩=some (.slice none 0 0)∧w'.cell? ⟨b3,0,none⟩=some (.int .i64 2)∧w'.cell? ⟨b3,1,none⟩=some (.string (bs [99]))∧w'.cell? ⟨b3,2,none⟩=some (.int .i64 0)∧w'.cell? ⟨b3,3,none⟩=some (.int .i64 0)∧w'.cell? ⟨b3,4,none⟩=some (.int .u64 0)∧w'.cell? ⟨b3,5,none⟩=some (.slice none 0 0))
  (first | exact HSx.out _ Y9.out | exact HSx.out _ Y8.out | exact HSx.out _ Y7.out | exact HSx.out _ Y6.out | go_keep)
  (first
   | (clear F3;go_at_call 29;refine (lbin_any 15 (xB) (xC) _ _ _ (name_xr [98] _) (name_xr [99] _)).mono ?_;rintro e W31 ⟨D31,rfl,hx,hb⟩;have Y7:=hid (Y6.out.trans (hb.mono Y6.out.size));have I31:=hid hx;have O1:=hid (O1.out.later hb);have O2:=hid (O2.out.later hb);clear hx hb)
   | (clear G3;go_at_call 29;refine (lbin_any 15 (xA) (binX 15 xB xC) _ _ _ (name_xr [97] _) (I31.out)).mono ?_;rintro e W32 ⟨D32,rfl,hx,hb⟩;have Y8:=hid (Y7.out.trans (hb.mono Y7.out.size));have I32:=hid hx;have O1:=hid (O1.out.later hb);have O2:=hid (O2.out.later hb);clear hx hb)
   | (go_at_call 25;refine (printX_any x3 _ _ (HB.out.later (XV.out.trans (Y8.out.mono XV.out.size))) I32.out e3.2.2.1 e3.2.2.2).mono ?_;rintro e W33 ⟨q3,n3,c3,rfl,hx,hb⟩;rw [show prE (checkX x3) (exprT x3)=0 by rw [e3.1];unfold prE;rw [e3.2.1];decide] at hx ⊢;rw [if_pos rfl,e3.2.1] at hx;have Y9:=hid (Y8.out.trans (hb.mono Y8.out.size));  have O1:=hid (O1.out.later hb);have O2:=hid (O2.out.later hb);have O3:=hid hx;clear hx hb))
 obtain ⟨za0,za1,za2,za3,za4,za5,zb0,zb1,zb2,zb3,zb4,zb5,-⟩:=HSx.out _ Y9.out
 go_wp2_with (first
  | (go_at_call 20;refine (tokensS_any true s1 [.int .i64 1,.string (bs []),.slice (some ⟨W33.heap.size,0,none⟩) 2 2,.slice none 0 0] (W33.alloc (.cells #[.int .i64 2,.string (bs [97]),.int .i64 0,.int .i64 0,.int .u64 0,.slice none 0 0,.int .i64 2,.string (bs [98]),.int .i64 0,.int .i64 0,.int .u64 0,.slice none 0 0] 28)) (HB.out.later (XV.out.trans ((Y9.out.alloc Y9.out.size _).mono XV.out.size))) (s1_sr W33) e4.2.2.1 e4.2.2.2).mono ?_;rintro e W4 ⟨v,rfl,hx,hb⟩;rw [e4.1] at hx ⊢;rw [if_pos rfl,e4.2.1] at hx;obtain ⟨p4,c4,h4⟩:∃ p c,v=Value.slice p 4 c:=hx.shape;subst h4;have Y10:=hid ((Y9.out.alloc Y9.out.size _).trans (hb.mono (Y9.out.alloc Y9.out.size _).size));have T4:=hid hx.own.toks;have O1:=hid (O1.out.later (((Below.refl _ _).alloc (Nat.le_refl _) _).trans (hb.mono (by simp))));have O2:=hid (O2.out.later (((Below.refl _ _).alloc (Nat.le_refl _) _).trans (hb.mono (by simp))));have O3:=hid (O3.out.later (((Below.refl _ _).alloc (Nat.le_refl _) _).trans (hb.mono (by simp))));clear hx hb)
  | (go_at_call 27;refine (lname_any [105,102] W4).mono ?_;rintro e W5 ⟨rfl,hb⟩;have Y11:=hid (Y10.out.trans (hb.mono Y10.out.size));have T5:=hid (T4.out.later hb);have O1:=hid (O1.out.later hb);have O2:=hid (O2.out.later hb);have O3:=hid (O3.out.later hb);clear hb)
  | (go_at_call 18;refine (tokensX_any x5 [.int .i64 2,.string (bs [105,102]),.int .i64 0,.int .i64 0,.int .u64 0,.slice none 0 0] W5 (HB.out.later (XV.out.trans (Y11.out.mono XV.out.size))) (name_xr [105,102] _) e5.2.1 e5.2.2).mono ?_;rintro e W6 ⟨v,rfl,hx,hb⟩;rw [e5.1] at hx ⊢;rw [if_neg (by decide)] at hx;obtain ⟨p5,c5,h5⟩:∃ p c,v=Value.slice p 0 c:=hx.shape;subst h5;have Y12:=hid (Y11.out.trans (hb.mono Y11.out.size));have T6:=hid (T5.out.later hb);have O1:=hid (O1.out.later hb);have O2:=hid (O2.out.later hb);have O3:=hid (O3.out.later hb);clear hx hb)
  | (go_at_call 23;refine (print_any [m1] (some ⟨W6.heap.size,0,none⟩) 1 (W6.alloc (.cells #[.string (bs [109]),.slice none 0 0,.slice none 0 0,.slice none 0 0] 53)) (HB.out.later (XV.out.trans ((Y12.out.alloc Y12.out.size _).mono XV.out.size))) (one_mod W6) e6.2.2.1 e6.2.2.2).mono ?_;rintro e W7 ⟨q6,n6,c6,rfl,hx,hb⟩;rw [show prE (checkF [m1]) (fileT [m1])=0 by rw [e6.1];unfold prE;rw [e6.2.1];decide] at hx ⊢;rw [if_pos rfl,e6.2.1] at hx;have Y13:=hid ((Y12.out.alloc Y12.out.size _).trans (hb.mono (Y12.out.alloc Y12.out.size _).size));have T7:=hid (T6.out.later (((Below.refl _ _).alloc (Nat.le_refl _) _).trans (hb.mono (by simp))));have O1:=hid (O1.out.later (((Below.refl _ _).alloc (Nat.le_refl _) _).trans (hb.mono (by simp))));have O2:=hid (O2.out.later (((Below.refl _ _).alloc (Nat.le_refl _) _).trans (hb.mono (by simp))));have O3:=hid (O3.out.later (((Below.refl _ _).alloc (Nat.le_refl _) _).trans (hb.mono (by simp))));have O6:=hid hx;clear hx hb)
  | (go_at_call 16;refine (tokens_any [] none 0 W7 (HB.out.later (XV.out.trans (Y13.out.mono XV.out.size))) ⟨none,0,rfl,Nat.le_refl _,.inl rfl⟩ rfl (by decide)).mono ?_;rintro e W8 ⟨v,rfl,hx,hb⟩;rw [e7.1] at hx ⊢;rw [if_pos rfl,e7.2] at hx;obtain ⟨p7,c7,h7⟩:∃ p c,v=Value.slice p 0 c:=hx.shape;subst h7;have Y14:=hid (Y13.out.trans (hb.mono Y13.out.size));have T8:=T7.out.later hb;have O1:=hid (O1.out.later hb);have O2:=hid (O2.out.later hb);have O3:=hid (O3.out.later hb);have O6:=hid (O6.out.later hb);have hv1:(convert 44 9 (.slice q1 n1 c1)).run Tryz.prog W8=.ok (.string ⟨#[40,32,97,32,43,32,98,32,41,32,42,32,99]⟩) W8:=str_run O1.out.bytes;have hv2:(convert 44 9 (.slice q2 n2 c2)).run Tryz.prog W8=.ok (.string ⟨#[97,32,43,32,98,32,42,32,99]⟩) W8:=str_run O2.out.bytes;have hv3:(convert 44 9 (.slice q3 n3 c3)).run Tryz.prog W8=.ok (.string ⟨#[97,32,45,32,40,32,98,32,45,32,99,32,41]⟩) W8:=str_run O3.out.bytes;have hv6:(convert 44 9 (.slice q6 n6 c6)).run Tryz.prog W8=.ok (.string ⟨#[109,111,100,117,108,101,32,109,32,40,32,41,32,123,10,125]⟩) W8:=str_run O6.out.bytes;obtain ⟨bT,oT,cT,hT,hlT,hcT⟩:=T8.resolve_left (fun h=>by cases h.1);cases hT;have ht1:=(hcT 1 (by decide)).c1;have ht2:W8.cell? ⟨bT,oT+5+1,none⟩=some (.string ⟨#[60,61]⟩):=ht1;have ht3:W8.cell? ⟨bT,oT+6,none⟩=some (.string ⟨#[60,61]⟩):=ht1;clear hx hb hcT ht1))
 go_ret
 exact ⟨rfl,XV.out.trans (Y14.out.mono XV.out.size)⟩
end Go.Proofs.YtlcfpdmicpggbaaGreatDoor
