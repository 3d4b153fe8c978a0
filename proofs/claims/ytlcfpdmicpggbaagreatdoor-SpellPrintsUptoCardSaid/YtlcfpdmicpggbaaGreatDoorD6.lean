/- Texts of the seat, merged. -/
import Derived.Test.YtlcfpdmicpggbaaGreatDoorD4
set_option linter.unusedVariables false
set_option linter.unusedSimpArgs false
set_option maxRecDepth 100000
set_option maxHeartbeats 16000000
namespace Go.GrowQ
open Go.Lib (hid)
open Go Go.RowKit
section
variable {P:Program} {G:World→World→Prop} {ops:Array Oper} {Q:Exit→Act→World→Prop} {Sp:Nat→World→Value→Prop} {a0:Act} {w0:World}
theorem flag_none {ops:Array Oper} {p:Nat} (h:ops.size≤p) (j:Nat) (hj:p≤j):allBefore ops j=true:=by
 unfold allBefore
 rw [Bool.or_eq_true]
 exact .inl (decide_eq_true (by omega))
theorem step_sound2 {m:Nat} (hsize:ops.size=m+1) (htr:∀ a b c,G a b→G b c→G a c) (hmono:∀ i W W' v,G W W'→Sp i W v→Sp i W' v) (hf:Fits ops a0)
  {K:Act→World→Prop} {listed:Array Bool} {i:Nat} {o:Oper} (hop:OpOK P (fun _=>G) (fun _=>G) (m+1) ops Sp a0 w0 i o) (hi:ops[i]?=some o) (hsz:listed.size=ops.size) (hun:listed.getD i false=false) (hd:∀ e ∈ o.after,Region.binds .any e=true→listed.getD e.on false=true) {a:Act} {w:World} (h:Inv (fun _=>G) (m+1) ops Sp a0 w0 listed a w)
  (hK:∀ a' w',Inv (fun _=>G) (m+1) ops Sp a0 w0 (listed.setIfInBounds i true) a' w'→K a' w'):wpOp P ops Q i K a w:=by
 have hbef:=flag_none (ops:=ops) (p:=m+1) (Nat.le_of_eq hsize)
 have htr':∀ (i:Nat) (a b c:World),(fun _=>G) (decide (m+1<i)) a b→(fun _=>G) i b c→(fun _=>G) (decide (m+1≤i)) a c:=fun _ a b c=>htr a b c
 have hmono':∀ (i j:Nat) (W W':World) (v:Value),i ≠ j → ¬ (m+1≤j∧i<j)→(fun _=>G) i W W'→Sp j W v→Sp j W' v:=fun _ j W W' v _ _ h=>hmono j W W' v h
 unfold wpOp
 rw [hi]
 have hg:=hf.1 i o hi
 simp only [show Region.wanted o (yielded ops a.tmps)=true by simp [Region.wanted,hg],if_true]
 left
 have:=hop a.eval w h.below ⟨fun d hd'=>h.else_ d (fun j oj hj hdj=>by
   have:d ∈ ops.toList.filterMap (·.dst):=List.mem_filterMap.2 ⟨oj,List.mem_of_getElem? (by simpa using hj),hdj⟩
   simp only [freeB,List.contains_eq_mem,decide_eq_true this] at hd'
   cases hd'),fun d hd'=>h.else_ d (fun j oj hj hdj=>by
   have hlt:j<ops.size:=(Array.getElem?_eq_some_iff.1 hj).1
   have h1:=List.all_eq_true.1 hd' j (List.mem_range.2 hlt)
   rw [hj] at h1
   simp only [hdj,beq_self_eq_true,Bool.not_true,Bool.false_or,Bool.and_eq_true,decide_eq_true_eq] at h1
   omega),fun _=>rfl,fun _=>rfl,fun _=>rfl⟩ (fun j d hdep=>by
  unfold depB at hdep
  rw [Bool.and_eq_true] at hdep
  obtain ⟨hany,hdst⟩:=hdep
  cases hj:ops[j]? with
  | none=>rw [hj] at hdst;cases hdst
  | some oj=>
   rw [hj] at hdst
   have hdd:oj.dst=some d:=by simpa using hdst
   have:=h.done j oj hj (by
    obtain ⟨k,hk,h1⟩:=Array.any_eq_true.1 hany
    rw [Bool.and_eq_true,beq_iff_eq] at h1
    rw [← h1.1]
    exact hd _ (Array.getElem_mem hk) h1.2)
   rw [hdd] at this
   exact this)
 unfold Oper.wp
 rcases this with ⟨v,w',h1,h2,h3⟩ | ⟨w',h1,h2,h3⟩ | ⟨f,args,h1,h2⟩
 ·rw [h1]
  exact hK _ _ (inv_step hbef htr' hmono' hf hi h hsz hun hd h2 h3)
 ·rw [h1]
  exact hK _ _ (inv_step hbef htr' hmono' hf hi h hsz hun hd h2 h3)
 ·rw [h1]
  refine Calls.mono h2 fun e w' hR=>?_
  obtain ⟨v,rfl,h3,h4⟩:=hR
  exact hK _ _ (inv_step hbef htr' hmono' hf hi h hsz hun hd h3 h4)
theorem any_last {m:Nat} {ol:Oper} (hsize:ops.size=m+1) (hol:ops[m]?=some ol) (hlast:allBefore ops m=true) (htr:∀ a b c,G a b→G b c→G a c) (hmono:∀ i W W' v,G W W'→Sp i W v→Sp i W' v) (hf:Fits ops a0)
  (hop:∀ (i:Nat) (o:Oper),i<m→ops[i]?=some o→OpOK P (fun _=>G) (fun _=>G) (m+1) ops Sp a0 w0 i o)
  (hfwd:∀ (i:Nat) (o:Oper),ops[i]?=some o→∀ e ∈ o.after,Region.binds .any e=true→e.on<i)
  (hQ:∀ a w,G w0 w→a.tmps.size=a0.tmps.size→a.defers=a0.defers→(∀ d,(∀ (j:Nat) (o:Oper),j<m→ops[j]?=some o→o.dst ≠ some d)→a.tmps.getD d undef=a0.tmps.getD d undef)→(∀ (j:Nat) (o:Oper),j<m→ops[j]?=some o→Sp j w (slotOf a o.dst)) →
   ∃ r w'',(execOp a.eval ol).run P w=.ok r w''∧((∃ v,r=.value v∧Q .normal (a.put ol.dst v) w'')∨(r=.skip∧Q .normal (a.put ol.dst undef) w''))) :
  ∀ (fuel:Nat) (listed:Array Bool) (a:Act) (w:World),listed.size=ops.size→listed.getD m false=false→(listed.toList.filter (fun b=>!b)).length≤fuel→Inv (fun _=>G) (m+1) ops Sp a0 w0 listed a w→wpAny P .any ops Q fuel listed a w:=by
 have none:∀ (listed:Array Bool),listed.size=ops.size→(∀ j,j<ops.size→listed.getD j false=true)→Region.ready .any ops listed=[]:=by
  intro listed hsz hall
  cases hc:Region.ready .any ops listed with
  | nil=>rfl
  | cons j l=>
   have hj:j ∈ Region.ready .any ops listed:=by rw [hc];exact List.mem_cons_self ..
   obtain ⟨h1,o,ho,_⟩:=mem_ready.1 hj
   have hlt:=(Array.getElem?_eq_some_iff.1 ho).1
   have h2:=hall j hlt
   rw [Array.getD_eq_getD_getElem?] at h1 h2
   have hls:j<listed.size:=by omega
   rw [Array.getElem?_eq_getElem hls] at h1 h2
   simp only [Option.getD_some] at h1 h2
   rw [h2] at h1
   cases h1
 have done:∀ (fuel:Nat) (listed:Array Bool) (a:Act) (w:World),listed.size=ops.size→(∀ j,j<ops.size→listed.getD j false=true)→Q .normal a w→wpAny P .any ops Q fuel listed a w:=by
  intro fuel listed a w hsz hall h
  have hr:=none listed hsz hall
  cases fuel with
  | zero=>exact ⟨hr,h⟩
  | succ fuel=>exact ⟨fun _=>h,fun i hi=>by rw [hr] at hi;cases hi⟩
 intro fuel
 induction fuel with
 | zero=>
  intro listed a w hsz hlm hfu h
  exfalso
  have hlt:m<listed.size:=by omega
  have:listed[m] ∈ listed.toList.filter (fun b=>!b):=List.mem_filter.2 ⟨by simp,by simp [Array.getD_eq_getD_getElem?,hlt] at hlm;simp [hlm]⟩
  have:=List.length_pos_of_mem this
  omega
 | succ fuel ih=>
  intro listed a w hsz hlm hfu h
  refine ⟨fun hr=>?_,fun i hi=>?_⟩
  ·exfalso
   have all:∀ j o,ops[j]?=some o→listed.getD j false=true:=by
    intro j
    induction j using Nat.strongRecOn with
    | _ j ihj=>
     intro o ho
     have hj:j<listed.size:=by rw [hsz];exact (Array.getElem?_eq_some_iff.1 ho).1
     cases hl:listed.getD j false with
     | true=>rfl
     | false=>
      have:j ∈ Region.ready .any ops listed:=mem_ready.2 ⟨by
       simp [Array.getD_eq_getD_getElem?,hj] at hl ⊢;exact hl,o,ho,fun e he hb=>by
        have hlt:=hfwd j o ho e he hb
        have hlt':e.on<ops.size:=by omega
        exact ihj e.on hlt _ (Array.getElem?_eq_getElem hlt')⟩
      rw [hr] at this
      cases this
   have:=all m ol hol
   rw [hlm] at this
   cases this
  ·obtain ⟨h1,o,ho,hd⟩:=mem_ready.1 hi
   have hlt:i<listed.size:=by rw [hsz];exact (Array.getElem?_eq_some_iff.1 ho).1
   have hunl:listed.getD i false=false:=by
    simp [Array.getD_eq_getD_getElem?,hlt] at h1 ⊢
    exact h1
   have hli:listed.toList[i]'(by simpa using hlt)=false:=by
    simp [Array.getD_eq_getD_getElem?,hlt] at h1
    simpa using h1
   have key:∀ (l:List Bool) (i:Nat) (h:i<l.length),l[i]=false→((l.set i true).filter (fun b=>!b)).length+1=(l.filter (fun b=>!b)).length:=by
    intro l
    induction l with
    | nil=>intro i h;simp at h
    | cons b l ihl=>
     intro i h hb
     cases i with
     | zero=>simp at hb;subst hb;simp
     | succ i=>
      have:=ihl i (by simpa using h) (by simpa using hb)
      cases b <;> simp [← this]
   have hk:=key listed.toList i (by simpa using hlt) hli
   rw [← Array.toList_setIfInBounds] at hk
   by_cases him:i=m
   ·subst him
    rw [hol] at ho
    cases ho
    have hall:∀ j,j<i→listed.getD j false=true:=by
     intro j hj
     have ha:Anc ops i j:=before_anc hlast (by omega) hj
     have:∀ {k:Nat},Anc ops i k→k=i∨listed.getD k false=true:=by
      intro k hk
      induction hk with
      | refl=>exact .inl rfl
      | step _ ho2 he hbd ih2=>
       right
       rcases ih2 with rfl | ih2
       ·rw [hol] at ho2
        cases ho2
        exact hd _ he hbd
       ·exact h.clo _ _ ho2 ih2 _ he hbd
     rcases this ha with h2 | h2
     ·omega
     ·exact h2
    obtain ⟨r,w'',hrun,hend⟩:=hQ a w h.below h.size h.defers (fun d hd2=>h.else_ d (fun j oj hj hdj=>by
     have hjs:=(Array.getElem?_eq_some_iff.1 hj).1
     by_cases hji:j=i
     ·rw [hji];exact hlm
     ·exact absurd hdj (hd2 j oj (by omega) hj))) (fun j oj hj hoj=>h.done j oj hoj (hall j hj))
    unfold wpOp
    rw [hol]
    have hg:=hf.1 i ol hol
    simp only [show Region.wanted ol (yielded ops a.tmps)=true by simp [Region.wanted,hg],if_true]
    left
    unfold Oper.wp
    have hset:∀ j,j<ops.size→(listed.setIfInBounds i true).getD j false=true:=by
     intro j hj
     by_cases hji:j=i
     ·subst hji
      have:j<listed.size:=by omega
      simp [Array.getD_eq_getD_getElem?,this]
     ·rw [getD_set_ne false (Ne.symm hji)]
      exact hall j (by omega)
    rcases hend with ⟨v,rfl,hq⟩ | ⟨rfl,hq⟩
    ·rw [hrun]
     exact done _ _ _ _ (by simpa using hsz) hset hq
    ·rw [hrun]
     exact done _ _ _ _ (by simpa using hsz) hset hq
   ·have hi2:i<m:=by
     have:=(Array.getElem?_eq_some_iff.1 ho).1
     omega
    refine step_sound2 hsize htr hmono hf (hop i o hi2 ho) ho hsz hunl hd h fun a' w' h'=>ih _ a' w' (by simpa using hsz) ?_ (by omega) h'
    rw [getD_set_ne false him]
    exact hlm
theorem region_grow_last {l:List Oper} (G:World→World→Prop) (m:Nat) {ol:Oper} {id n:Nat} {a:Act} {w:World} (Sp:Nat→World→Value→Prop) (hm:P.follows .mixedOrders=true) (hn:a.tmps.size=n) (hlen:l.length=m+1) (hol:l[m]?=some ol) (hfit:fitsB l.toArray n=true) (hfwd:fwdB 0 l=true)
  (hlast:allBefore l.toArray m=true) (hdr:G w { w with drawn:=w.drawn+1 }) (htr:∀ a b c,G a b→G b c→G a c) (hmono:∀ i W W' v,G W W'→Sp i W v→Sp i W' v) (hop:OpsOK P (fun _=>G) (fun _=>G) (m+1) l.toArray Sp a w 0 (l.take m))
  (hQ:∀ (x:Nat→Value) W',G w W'→(∀ j,j<m→Sp j W' (x j))→∃ r W'',(execOp (putAll a x 0 (l.take m)).eval ol).run P W'=.ok r W''∧((∃ v,r=.value v∧Q .normal ((putAll a x 0 (l.take m)).put ol.dst v) W'')∨(r=.skip∧Q .normal ((putAll a x 0 (l.take m)).put ol.dst undef) W''))) :
  (Code.region id l.toArray true).wp P Q a w:=by
 have hf:=fits_of hfit hn
 have htk:∀ (k:Nat) (o:Oper),k<m→((l.take m)[k]?=some o ↔ l[k]?=some o):=fun k o hk=>by rw [List.getElem?_take,if_pos hk]
 refine wp_region_any hm (any_last (Sp:=Sp) (a0:=a) (w0:=w) (m:=m) (ol:=ol) (by simpa using hlen) (by simpa using hol) hlast htr hmono hf (fun i o hi ho=>?_) (fun i o ho=>?_) ?_ _ _ a _ (by simp) (by rw [Array.getD_eq_getD_getElem?,Array.getElem?_replicate];split <;> rfl) (by simp) ⟨hdr,rfl,rfl,fun _ _=>rfl,fun j o hj hl=>?_,fun j o hj hl=>?_⟩)
 ·have:=opsOK_get (l.take m) 0 hop i o ((htk i o hi).2 (by simpa using ho))
  rwa [Nat.zero_add] at this
 ·have:=fwd_of l 0 hfwd i o (by simpa using ho)
  rwa [Nat.zero_add] at this
 ·intro a' w' hb hs hd he hdone
  have e:putAll a (fun j=>match l[j]? with | some o=>slotOf a' o.dst | none=>undef) 0 (l.take m)=a':=by
   have h1:=putAll_size (fun j=>match l[j]? with | some o=>slotOf a' o.dst | none=>undef) (l.take m) a 0
   have h2:=putAll_defers (fun j=>match l[j]? with | some o=>slotOf a' o.dst | none=>undef) (l.take m) a 0
   have h3:(putAll a (fun j=>match l[j]? with | some o=>slotOf a' o.dst | none=>undef) 0 (l.take m)).tmps=a'.tmps:=by
    apply Array.ext
    ·rw [h1,hs]
    ·intro d hd1 hd2
     have:=putAll_get a' (fun j=>match l[j]? with | some o=>slotOf a' o.dst | none=>undef) d (l.take m) a 0 hs (fun k o hk=>by
      have hkm:k<m:=by
       have:=(List.getElem?_eq_some_iff.1 hk).1
       rw [List.length_take] at this
       omega
      have:=(htk k o hkm).1 hk
      simp [this]) (by
      by_cases hc:d ∈ (l.take m).filterMap (·.dst)
      ·exact .inr hc
      ·left
       refine (he d fun j o hj ho hdj=>hc ?_).symm
       exact List.mem_filterMap.2 ⟨o,List.mem_of_getElem? ((htk j o hj).2 (by simpa using ho)),hdj⟩)
     simpa [Array.getD_eq_getD_getElem?,hd1,hd2] using this
   cases hp:putAll a (fun j=>match l[j]? with | some o=>slotOf a' o.dst | none=>undef) 0 (l.take m) with
   | mk t ds=>
    rw [hp] at h2 h3
    simp only at h2 h3
    cases a'
    simp only at hd h3
    rw [h2,h3,hd]
  rw [← e]
  refine hQ _ w' hb (fun j hj=>?_)
  have hj':l[j]?=some l[j]:=List.getElem?_eq_getElem (by omega)
  have:=hdone j l[j] hj (by simp)
  simp only [hj']
  exact this
 ·rw [Array.getD_eq_getD_getElem?,Array.getElem?_replicate] at hl
  split at hl <;> cases hl
 ·rw [Array.getD_eq_getD_getElem?,Array.getElem?_replicate] at hl
  split at hl <;> cases hl
end
end Go.GrowQ
namespace Go.Proofs.YtlcfpdmicpggbaaGreatDoor
open Go.Lib (hid)
open Go.RowKit Go.Proofs.Spl Go.Proofs.Scn Go.Shelf Go.Grow
def MkPost (lo:Nat) (W:World) (ts:List Tok) (e:Ending) (W':World):Prop:=∃ f,e=.returned f∧Seq lo W' f ts∧Below W.heap.size W W'
theorem some_any (k:Int) (s:Ln) (W:World) (lo:Nat) (hlo:lo≤W.heap.size):Calls Tryz.prog 164 #[.int .i64 k,.string (bs s)] W (MkPost lo W [⟨k,s,0,0,0⟩]):=by
 go_enter Tryz.func164,Tryz.ntmps164
 go_wp2
 go_ret
 have h1:Boxed ((W.alloc (.cells #[.int .i64 k] 3)).alloc (.cells #[.string (bs s)] 9)) W.heap.size 3 (.int .i64 k):=(Boxed.new _ _ _).alloc _
 have h2:Boxed ((W.alloc (.cells #[.int .i64 k] 3)).alloc (.cells #[.string (bs s)] 9)) (W.heap.size+1) 9 (.string (bs s)):=by
  have:=Boxed.new (W.alloc (.cells #[.int .i64 k] 3)) 9 (.string (bs s))
  rwa [World.size_alloc] at this
 exact ⟨_,rfl,some1_seq lo _ _ _ hlo (by omega) k s h1 h2,((Below.refl _ _).alloc (Nat.le_refl _) _).alloc (by simp) _⟩
theorem ssign_any (s:Ln) (W:World) (lo:Nat) (hlo:lo≤W.heap.size):Calls Tryz.prog 90 #[.string (bs s)] W (MkPost lo W [sgT s]):=by
 go_enter Tryz.func90,Tryz.ntmps90
 go_wp2_with (go_at_call 164;refine (some_any 4 s W lo hlo).mono ?_;rintro e W2 ⟨f,rfl,h1,h2⟩)
 go_ret
 exact ⟨_,rfl,h1,h2⟩
theorem sword_any (s:Ln) (W:World) (lo:Nat) (hlo:lo≤W.heap.size):Calls Tryz.prog 92 #[.string (bs s)] W (MkPost lo W [wdT s]):=by
 go_enter Tryz.func92,Tryz.ntmps92
 go_wp2_with (go_at_call 164;refine (some_any 2 s W lo hlo).mono ?_;rintro e W2 ⟨f,rfl,h1,h2⟩)
 go_ret
 exact ⟨_,rfl,h1,h2⟩
theorem sname_any (s:Ln) (W:World) (lo:Nat) (hlo:lo≤W.heap.size):Calls Tryz.prog 93 #[.string (bs s)] W (MkPost lo W [nmT s]):=by
 go_enter Tryz.func93,Tryz.ntmps93
 go_wp2_with (go_at_call 164;refine (some_any 1 s W lo hlo).mono ?_;rintro e W2 ⟨f,rfl,h1,h2⟩)
 go_ret
 exact ⟨_,rfl,h1,h2⟩
theorem row_any (v:Value) (ls:List (List Tok)) (hlen:ls.length≤1000000000) (W:World) (lo:Nat) (hlo:lo≤W.heap.size) (hs:Seqs lo W v ls):Calls Tryz.prog 91 #[v] W (MkPost lo W ls.flatten):=by
 have hs':=hs
 obtain ⟨p,cap,rfl,_⟩:=hs
 go_enter Tryz.func91,Tryz.ntmps91
 go_wp2
 go_ret
 have hb:Below W.heap.size W (W.alloc (.cells #[.slice p ls.length cap] 121)):=(Below.refl _ _).alloc (Nat.le_refl _) _
 exact ⟨_,rfl,row1_seq lo _ W.heap.size hlo _ ls (Boxed.new _ _ _) (hs'.later (KeptL.of_below hb)) hlen,hb⟩
theorem seq_form {lo:Nat} {W:World} {f:Value} {ts:List Tok} (h:Seq lo W f ts):∃ g lb,f=.func (.func g) #[] lb∧Seq lo W (.func (.func g) #[] lb) ts:=by
 have h':=h
 obtain ⟨g,lb,rfl,_⟩:=h
 exact ⟨g,lb,rfl,h'⟩
def AllSeq (lo:Nat) (W:World):List Value→List (List Tok)→Prop
 | [],[]=>True
 | f :: fs,t :: ts=>Seq lo W f t∧AllSeq lo W fs ts
 | _,_=>False
theorem allSeq_get {lo:Nat} {W:World}:∀ {fs:List Value} {ls:List (List Tok)},AllSeq lo W fs ls→fs.length=ls.length∧∀ k (h:k<ls.length),∃ f,fs[k]?=some f∧Seq lo W f ls[k]
 | [],[],_=>⟨rfl,fun k h=>absurd h (by simp)⟩
 | [],_ :: _,h=>h.elim
 | _ :: _,[],h=>h.elim
 | f :: fs,t :: ts,h=>by
  obtain ⟨h1,h2⟩:=allSeq_get h.2
  refine ⟨by simp [h1],fun k hk=>?_⟩
  match k with
  | 0=>exact ⟨f,rfl,h.1⟩
  | k+1=>
   obtain ⟨g,h3,h4⟩:=h2 k (by simpa using hk)
   exact ⟨g,by simpa using h3,h4⟩
theorem AllSeq.later {lo:Nat} {W W':World} (hb:KeptL lo W W'):∀ {fs:List Value} {ls:List (List Tok)},AllSeq lo W fs ls→AllSeq lo W' fs ls
 | [],[],_=>trivial
 | [],_ :: _,h=>h.elim
 | _ :: _,[],h=>h.elim
 | f :: fs,t :: ts,h=>⟨IsSeq.later h.1 (Nat.le_refl _) hb,AllSeq.later hb h.2⟩
inductive Spc where
 | any
 | is (v:Value)
 | seq (ts:List Tok)
 | seqs (ls:List (List Tok))
 | blk (ls:List (List Tok))
def Spc.ok (lo:Nat):Spc→World→Value→Prop
 | .any,_,_=>True
 | .is c,_,v=>v=c
 | .seq ts,W,v=>Seq lo W v ts
 | .seqs ls,W,v=>Seqs lo W v ls
 | .blk ls,W,v=>∃ b fs,v=.slice (some ⟨b,0,none⟩) ls.length ls.length∧lo≤b∧W.heap[b]?=some (.cells fs.toArray 79 (0,0))∧AllSeq lo W fs ls
def Grw (a b:World):Prop:=Below a.heap.size a b
theorem mkp {f:FuncId} {args:Array Value} {W:World} {lo:Nat} {ts:List Tok} (h:Calls Tryz.prog f args W (MkPost lo W ts)):Calls Tryz.prog f args W fun e w'=>∃ v,e=.returned v∧(Grw W w'∧Seq lo w' v ts):=h.mono fun e W2 ⟨f,h0,h1,h2⟩=>⟨f,h0,h2,h1⟩
theorem grw_trans (a b c:World) (h:Grw a b) (k:Grw b c):Grw a c:=h.trans (k.mono h.size)
theorem grw_drawn (w:World):Grw w { w with drawn:=w.drawn+1 }:=⟨rfl,rfl,rfl,Nat.le_refl _,fun _ _=>rfl⟩
theorem Spc.kept {lo:Nat} (s:Spc) {W W':World} {v:Value} (h:KeptL lo W W') (hs:s.ok lo W v):s.ok lo W' v:=by
 cases s with
 | any=>trivial
 | is c=>exact hs
 | seq ts=>exact IsSeq.later hs (Nat.le_refl _) h
 | seqs ls=>exact Seqs.later hs h
 | blk ls=>
  obtain ⟨b,fs,h1,h2,h3,h4⟩:=hs
  exact ⟨b,fs,h1,h2,(h.same b h2 (Array.getElem?_eq_some_iff.1 h3).1).trans h3,h4.later h⟩
theorem Spc.grw {lo:Nat} (s:Spc) {W W':World} {v:Value} (h:Grw W W') (hs:s.ok lo W v):s.ok lo W' v:=s.kept (KeptL.of_below h) hs
def spcAt (lo:Nat) (l:List Spc) (i:Nat):World→Value→Prop:=(l.getD i .any).ok lo
theorem spcAt_grw (lo:Nat) (l:List Spc) (i:Nat) (W W':World) (v:Value) (h:Grw W W') (hs:spcAt lo l i W v):spcAt lo l i W' v:=Spc.grw _ h hs
theorem blk_new {lo:Nat} {W:World} {fs:List Value} {ls:List (List Tok)} (h:AllSeq lo W fs ls) (hlo:lo≤W.heap.size) :
  Spc.ok lo (.blk ls) (W.alloc (.cells fs.toArray 79)) (.slice (some ⟨W.heap.size,0,none⟩) ls.length ls.length)∧Below W.heap.size W (W.alloc (.cells fs.toArray 79)):=by
 have hb:Below W.heap.size W (W.alloc (.cells fs.toArray 79)):=(Below.refl _ _).alloc (Nat.le_refl _) _
 exact ⟨⟨_,fs,rfl,hlo,World.alloc_heap_new W _,h.later (KeptL.of_below hb)⟩,hb⟩
theorem seqs_new {lo:Nat} {W:World} {fs:List Value} {ls:List (List Tok)} (h:AllSeq lo W fs ls) (hlo:lo≤W.heap.size) :
  Seqs lo (W.alloc (.cells fs.toArray 79)) (.slice (some ⟨W.heap.size,0,none⟩) ls.length ls.length) ls∧Below W.heap.size W (W.alloc (.cells fs.toArray 79)):=by
 have hb:Below W.heap.size W (W.alloc (.cells fs.toArray 79)):=(Below.refl _ _).alloc (Nat.le_refl _) _
 obtain ⟨h1,h2⟩:=allSeq_get (h.later (KeptL.of_below hb))
 refine ⟨⟨_,_,rfl,.inr ⟨_,0,rfl,hlo,by simp,fun k hk=>?_⟩⟩,hb⟩
 obtain ⟨f,h3,h4⟩:=h2 k hk
 refine ⟨f,?_,h4⟩
 rw [World.cell?_alloc_new W fs.toArray 79 (0+k),Nat.zero_add]
 simpa using h3
theorem in_any (o c:UInt8) (f:Value) (ts:List Tok) (W:World) (lo:Nat) (hlo:lo≤W.heap.size) (hf:Seq lo W f ts):Calls Tryz.prog 95 #[.string (bs [o,c]),f] W (MkPost lo W (inT o c ts)):=by
 go_enter Tryz.func95,Tryz.ntmps95
 go_wp2_with fail
 have hf0:=hf
 clear hf
 refine region_grow Grw (spcAt lo [.is (.string (bs [o,c])),.is (.string (bs [o])),.seq [sgT [o]],.seq ts,.is (.string (bs [o,c])),.is (.string (bs [c])),.seq [sgT [c]],.seqs [[sgT [o]],ts,[sgT [c]]],.seq (inT o c ts),.seq (inT o c ts)])
  (by kernel_rfl) rfl (by kernel_rfl) (by kernel_rfl) (grw_drawn _) grw_trans (spcAt_grw lo _) ?hops ?hfin
 case hops=>
  refine ⟨?o0,?o1,?o2,?o3,?o4,?o5,?o6,?o7,?o8,?o9,trivial⟩
  all_goals (intro ev W' hG hr hD;have hc:=hr.const;have hf:=hr.func)
  case o0=>
   have e0:ev (.tmp 0)=.string (bs [o,c]):=hr.tmp 0 (by kernel_rfl)
   exact ok_val (by simp [execOp,go_sem,e0]) ⟨Below.refl _ _,rfl⟩
  case o1=>
   have e5:ev (.tmp 5)=_:=hD 0 5 (by kernel_rfl)
   exact ok_val (by simp [execOp,go_sem,e5,hc,size_bs];rfl) ⟨Below.refl _ _,rfl⟩
  case o2=>
   have e6:ev (.tmp 6)=_:=hD 1 6 (by kernel_rfl)
   refine ok_call (f:=90) (args:=#[.string (bs [o])]) (by simp [execOp,go_sem,e6,hc,hf]) ?_
   refine (ssign_any [o] W' lo (Nat.le_trans hlo hG.size)).mono ?_
   rintro e W2 ⟨f,rfl,h1,h2⟩
   exact ⟨f,rfl,h2,h1⟩
  case o3=>
   have e1:ev (.tmp 1)=f:=hr.tmp 1 (by kernel_rfl)
   exact ok_val (by simp [execOp,go_sem,e1]) ⟨Below.refl _ _,hf0.later (Nat.le_refl _) (KeptL.of_below hG)⟩
  case o4=>
   have e0:ev (.tmp 0)=.string (bs [o,c]):=hr.tmp 0 (by kernel_rfl)
   exact ok_val (by simp [execOp,go_sem,e0]) ⟨Below.refl _ _,rfl⟩
  case o5=>
   have e9:ev (.tmp 9)=_:=hD 4 9 (by kernel_rfl)
   exact ok_val (by simp [execOp,go_sem,e9,hc,size_bs];rfl) ⟨Below.refl _ _,rfl⟩
  case o6=>
   have e10:ev (.tmp 10)=_:=hD 5 10 (by kernel_rfl)
   refine ok_call (f:=90) (args:=#[.string (bs [c])]) (by simp [execOp,go_sem,e10,hc,hf]) ?_
   refine (ssign_any [c] W' lo (Nat.le_trans hlo hG.size)).mono ?_
   rintro e W2 ⟨f,rfl,h1,h2⟩
   exact ⟨f,rfl,h2,h1⟩
  case o7=>
   obtain ⟨g7,l7,e7,s7⟩:=seq_form (show Seq lo W' (ev (.tmp 7)) _ from hD 2 7 (by kernel_rfl))
   obtain ⟨g8,l8,e8,s8⟩:=seq_form (show Seq lo W' (ev (.tmp 8)) _ from hD 3 8 (by kernel_rfl))
   obtain ⟨g11,l11,e11,s11⟩:=seq_form (show Seq lo W' (ev (.tmp 11)) _ from hD 6 11 (by kernel_rfl))
   have hn:=seqs_new (fs:=[.func (.func g7) #[] l7,.func (.func g8) #[] l8,.func (.func g11) #[] l11]) (ls:=[[sgT [o]],ts,[sgT [c]]]) ⟨s7,s8,s11,trivial⟩ (Nat.le_trans hlo hG.size)
   exact ok_new (v:=.slice (some ⟨W'.heap.size,0,none⟩) 3 3) (W':=W'.alloc (.cells #[.func (.func g7) #[] l7,.func (.func g8) #[] l8,.func (.func g11) #[] l11] 79)) (by simp [execOp,go_sem,e7,e8,e11]) ⟨hn.2,hn.1⟩
  case o8=>
   have s12:Seqs lo W' (ev (.tmp 12)) _:=hD 7 12 (by kernel_rfl)
   refine ok_call (f:=91) (args:=#[ev (.tmp 12)]) (by simp [execOp,go_sem,hc,hf]) ?_
   refine (row_any _ _ (by simp) W' lo (Nat.le_trans hlo hG.size) s12).mono ?_
   rintro e W2 ⟨f,rfl,h1,h2⟩
   refine ⟨f,rfl,h2,?_⟩
   show Seq lo W2 f (inT o c ts)
   simpa [inT] using h1
  case o9=>
   have s13:Seq lo W' (ev (.tmp 13)) _:=hD 8 13 (by kernel_rfl)
   exact ok_val (by simp [execOp,go_sem]) ⟨Below.refl _ _,s13⟩
 case hfin=>
  intro x W' hG hx
  have h9:Seq lo W' (x 9) (inT o c ts):=hx 9 (by simp)
  simp only [putAll,Act.put,List.setIfInBounds_toArray,List.set_cons_zero,List.set_cons_succ]
  go_wp2_with fail
  go_ret
  exact ⟨_,rfl,h9,hG⟩
end Go.Proofs.YtlcfpdmicpggbaaGreatDoor
namespace Go.Proofs.YtlcfpdmicpggbaaGreatDoor
open Go.Lib (hid)
open Go.RowKit Go.Proofs.Spl Go.Proofs.Scn Go.Shelf Go.Grow
def Lies (n:Nat) (V:World) (q:Option Nat) (f:Value) (ts:List Tok):Prop:=
 ∃ lo W,Seq lo W f ts∧KeptL lo W V∧n≤lo∧∀ r,q=some r→r<lo∨W.heap.size≤r
theorem Lies.seq {n:Nat} {V:World} {q:Option Nat} {f:Value} {ts:List Tok} (h:Lies n V q f ts):Seq n V f ts:=by
 obtain ⟨lo,W,h1,h2,h3,_⟩:=h
 exact h1.later h3 h2
theorem Lies.grown {n:Nat} {V V':World} {q q':Option Nat} {f:Value} {ts:List Tok} (h:Lies n V q f ts) (hg:V.grownBy V' q) (hq:∀ r,q'=some r→q=some r∨V.heap.size≤r):Lies n V' q' f ts:=by
 obtain ⟨lo,W,h1,h2,h3,h4⟩:=h
 have hs:=h2.size
 refine ⟨lo,W,h1,⟨Nat.le_trans hs hg.size,fun r hr hl=>?_⟩,h3,fun r hr=>?_⟩
 ·rw [hg.block r (Nat.lt_of_lt_of_le hl hs) (fun e=>by rcases h4 r e.symm with h | h <;> omega)]
  exact h2.same r hr hl
 ·rcases hq r hr with h | h
  ·exact h4 r h
  ·right;omega
theorem Lies.later {n:Nat} {V V':World} {q:Option Nat} {f:Value} {ts:List Tok} (h:Lies n V q f ts) (hb:Below V.heap.size V V'):Lies n V' q f ts:=by
 obtain ⟨lo,W,h1,h2,h3,h4⟩:=h
 exact ⟨lo,W,h1,h2.trans (KeptL.of_below hb),h3,h4⟩
def AllL (n:Nat) (V:World) (q:Option Nat):List Value→List (List Tok)→Prop
 | [],[]=>True
 | f :: fs,t :: ts=>Lies n V q f t∧AllL n V q fs ts
 | _,_=>False
theorem AllL.map {n:Nat} {V V':World} {q q':Option Nat} (h:∀ f ts,Lies n V q f ts→Lies n V' q' f ts):∀ {fs:List Value} {ls:List (List Tok)},AllL n V q fs ls→AllL n V' q' fs ls
 | [],[],_=>trivial
 | [],_ :: _,h=>h.elim
 | _ :: _,[],h=>h.elim
 | f :: fs,t :: ts,hh=>⟨h _ _ hh.1,AllL.map h hh.2⟩
theorem AllL.seq {n:Nat} {V:World} {q:Option Nat}:∀ {fs:List Value} {ls:List (List Tok)},AllL n V q fs ls→AllSeq n V fs ls
 | [],[],_=>trivial
 | [],_ :: _,h=>h.elim
 | _ :: _,[],h=>h.elim
 | f :: fs,t :: ts,hh=>⟨hh.1.seq,AllL.seq hh.2⟩
theorem AllL.snoc {n:Nat} {V:World} {q:Option Nat} {f:Value} {t:List Tok} (hf:Lies n V q f t):∀ {fs:List Value} {ls:List (List Tok)},AllL n V q fs ls→AllL n V q (fs ++ [f]) (ls ++ [t])
 | [],[],_=>⟨hf,trivial⟩
 | [],_ :: _,h=>h.elim
 | _ :: _,[],h=>h.elim
 | _ :: _,_ :: _,hh=>⟨hh.1,AllL.snoc hf hh.2⟩
theorem AllL.len {n:Nat} {V:World} {q:Option Nat} {fs:List Value} {ls:List (List Tok)} (h:AllL n V q fs ls):fs.length=ls.length:=(allSeq_get h.seq).1
theorem fnInfo:(Tryz.prog.info? 79).map (fun i=>(i.zero,i.size,i.bytes))=some (some Value.nilFunc,1,8):=by kernel_rfl
theorem fnSlice:Tryz.prog.underlying 121=some (.slice 79):=by kernel_rfl
structure EachS (W:World) (out:Value) (fs:List Value) (ls:List (List Tok)) (V:World):Prop where
 own:V.ownsRow W.heap.size 79 1 out fs.length fs
 lies:AllL W.heap.size V out.ownBlock fs ls
 bel:Below W.heap.size W V
theorem EachS.nil (W V:World) (h:Below W.heap.size W V):EachS W (.slice none 0 0) [] [] V:=⟨World.ownsRow_nil _ _ _ _,trivial,h⟩
theorem EachS.lt {W:World} {out:Value} {fs:List Value} {ls:List (List Tok)} {V:World} (h:EachS W out fs ls V):∀ r,out.ownBlock=some r→W.heap.size≤r∧r<V.heap.size:=World.ownsRow.lt h.own
theorem EachS.later {W:World} {out:Value} {fs:List Value} {ls:List (List Tok)} {V V':World} (h:EachS W out fs ls V) (hb:Below V.heap.size V V'):EachS W out fs ls V':=by
 refine ⟨⟨h.own.1,?_⟩,h.lies.map (fun f ts hl=>hl.later hb),h.bel.trans (hb.mono h.bel.size)⟩
 rcases h.own.2 with h0 | ⟨g,cap,cur,hv,hB,hgc,h1⟩
 ·exact .inl h0
 ·exact .inr ⟨g,cap,cur,hv,hB,(hb.block g (Array.getElem?_eq_some_iff.1 hgc).1).trans hgc,h1⟩
theorem EachS.app {W:World} {out:Value} {fs:List Value} {ls:List (List Tok)} {V V1:World} (h:EachS W out fs ls V) {f:Value} {t:List Tok} {lo:Nat} (hf:Seq lo V f t) (hlo:W.heap.size≤lo) (hq:∀ r,out.ownBlock=some r→r<lo)
  (hb:Below V.heap.size V V1) {g cap:Nat} {w':World} (hown:w'.ownsRow W.heap.size 79 1 (.slice (some ⟨g,0,none⟩) (fs.length+1) cap) (fs.length+1) (fs ++ [f])) (hgr:V1.grownBy w' out.ownBlock) (hat:out.ownBlock=some g∨g=V1.heap.size) :
  EachS W (.slice (some ⟨g,0,none⟩) (fs.length+1) cap) (fs ++ [f]) (ls ++ [t]) w':=by
 have h1:=h.later hb
 have hnew:Lies W.heap.size V1 out.ownBlock f t:=⟨lo,V,hf,KeptL.of_below hb,hlo,fun r hr=>.inl (hq r hr)⟩
 refine ⟨by rw [List.length_append];exact hown,(AllL.snoc hnew h1.lies).map (fun f ts hl=>hl.grown hgr (fun r hr=>?_)),h1.bel.grown hgr h1.bel.size (fun k hk=>(h.lt k hk).1)⟩
 cases hr
 rcases hat with h | h
 ·exact .inl h
 ·exact .inr (Nat.le_of_eq h.symm)
theorem EachS.step {W:World} {out:Value} {fs:List Value} {ls:List (List Tok)} {wr W3:World} {o:Obj} (h:EachS W out fs ls wr) {f:Value} {t:List Tok} (hb:Below (wr.alloc o).heap.size (wr.alloc o) W3) (hf:Seq (wr.alloc o).heap.size W3 f t) {o2:Obj} {g cap:Nat} {w1:World}
  (hown:w1.ownsRow W.heap.size 79 1 (.slice (some ⟨g,0,none⟩) (fs.length+1) cap) (fs.length+1) (fs ++ [f])) (hgr:(W3.alloc o2).grownBy w1 out.ownBlock) (hat:out.ownBlock=some g∨g=(W3.alloc o2).heap.size) :
  EachS W (.slice (some ⟨g,0,none⟩) (fs.length+1) cap) (fs ++ [f]) (ls ++ [t]) w1∧w1.heap[wr.heap.size]?=some o∧wr.heap.size<w1.heap.size:=by
 have hB:=h.bel.size
 have hs:=hb.size
 have hs2:=hgr.size
 rw [World.size_alloc] at hs hs2
 have e:w1.heap[wr.heap.size]?=some o:=by
  rw [hgr.block _ (by rw [World.size_alloc];omega) (fun e=>by have:=(h.lt _ e.symm).2;omega),Below.heap_alloc _ _ _ (by omega),hb.block _ (by rw [World.size_alloc];omega)]
  exact World.alloc_heap_new wr o
 refine ⟨((h.later ((Below.refl _ _).alloc (Nat.le_refl _) _)).later hb).app hf (by rw [World.size_alloc];omega) (fun r hr=>by have:=(h.lt r hr).2;rw [World.size_alloc];omega) ((Below.refl _ _).alloc (Nat.le_refl _) _) hown hgr hat,e,by omega⟩
theorem EachS.seqs {W:World} {out:Value} {fs:List Value} {ls:List (List Tok)} {V:World} (h:EachS W out fs ls V):Seqs W.heap.size V out ls:=by
 obtain ⟨h1,h2⟩:=allSeq_get h.lies.seq
 have hlen:=h1
 rcases h.own.2 with ⟨rfl,h0⟩ | ⟨g,cap,cur,rfl,hB,hg,hn,hc,hs,ht⟩
 ·have:ls=[]:=List.eq_nil_of_length_eq_zero (by omega)
  subst this
  exact ⟨none,0,rfl,.inl rfl⟩
 ·refine ⟨_,cap,by rw [h1],.inr ⟨g,0,rfl,hB,(Array.getElem?_eq_some_iff.1 hg).1,fun k hk=>?_⟩⟩
  obtain ⟨f,h3,h4⟩:=h2 k hk
  refine ⟨f,?_,h4⟩
  rw [Nat.zero_add,cell_of_row V g k cur _ (0,0) hg,← h3,← ht]
  have:k<fs.length:=by omega
  rw [List.getElem?_take,if_pos (by omega)]
  simp
def inter (s:Ln):List (List Tok)→List (List Tok)
 | []=>[]
 | a :: r=>a :: r.flatMap fun b=>[[sgT s],b]
theorem inter_flat (s:Ln):∀ l:List (List Tok),(inter s l).flatten=sepS s l
 | []=>rfl
 | [a]=>by simp [inter,sepS]
 | a :: b :: r=>by
  have:=inter_flat s (b :: r)
  simp only [inter,List.flatten_cons] at this
  simp [inter,sepS,← this]
theorem inter_snoc (s:Ln) (l:List (List Tok)) (a:List Tok) (h:l ≠ []):inter s (l ++ [a])=(inter s l ++ [[sgT s]]) ++ [a]:=by
 match l,h with
 | x :: r,_=>simp [inter]
theorem two_len (s:Ln):∀ r:List (List Tok),(r.flatMap fun b=>[[sgT s],b]).length=2 * r.length
 | []=>rfl
 | a :: r=>by
  have:=two_len s r
  simp only [List.flatMap_cons,List.length_append,List.length_cons,List.length_nil,this]
  omega
theorem inter_len (s:Ln) (l:List (List Tok)):(inter s l).length≤2 * l.length:=by
 match l with
 | []=>simp [inter]
 | x :: r=>
  have:=two_len s r
  simp only [inter,List.length_cons,this]
  omega
end Go.Proofs.YtlcfpdmicpggbaaGreatDoor
namespace Go.Proofs.YtlcfpdmicpggbaaGreatDoor
open Go.Lib (hid)
open Go.RowKit Go.Proofs.Spl Go.Proofs.Scn Go.Shelf Go.Grow
def ExprOK (y:X):Prop:=∀ (W:World) (lo:Nat) (cs:List Value),lo≤W.heap.size→XR W y cs→Calls Tryz.prog 56 #[.agg cs.toArray] W (MkPost lo W (exprT y))
theorem eachX_any (s:Ln) (hs:s ≠ []) (v:Value) (l:List X) (hl:l.length≤1000000) (W:World) (lo:Nat) (hlo:lo≤W.heap.size) (hR:XsR W v l) (hE:∀ y ∈ l,ExprOK y) :
  Calls Tryz.prog 105 #[v,.string (bs s),.func (.func 56) #[] #[]] W (MkPost lo W (sepS s (l.map exprT))):=by
 obtain ⟨p,cap,rfl,hcap,hcell⟩:=hR
 have HE:=hid hE
 have HC:=hid hcell
 clear hE hcell
 obtain ⟨i0,hi,hz0,hz1,hz2⟩:=info_parts fnInfo
 have HSN:=hid hs
 have hse:(bs s).toList.isEmpty=false:=by
  rw [Lib.toList_data,list_bs]
  simpa using hs
 clear hs
 go_enter Tryz.func105,Tryz.ntmps105
 go_wp2
 go_loopw [7,12] (fun out i wr=>∃ (k:Nat) (fs:List Value),i=.int .i64 k∧k≤l.length∧(∃ p c,out=.slice p fs.length c)∧Hid (EachS W out fs (inter s ((l.map exprT).take k)) wr)) (fun _ i _=>l.length - (intOf i).toNat)
 case atStart=>exact ⟨0,[],rfl,Nat.zero_le _,⟨none,0,rfl⟩,hid (EachS.nil W _ (Below.refl _ _))⟩
 case round=>
  obtain ⟨k,fs,rfl,hk,⟨po,co,rfl⟩,HS⟩:=hrel
  by_cases hlt:k<l.length
  ·have hlt':(k:Int)<(l.length:Int):=by omega
   have hfl:=HS.out.lies.len
   have hfl2:fs.length≤2 * k:=by
    rw [hfl]
    refine Nat.le_trans (inter_len s _) ?_
    rw [List.length_take,List.length_map,Nat.min_eq_left hk]
    exact Nat.le_refl _
   clear hfl
   rcases HC.out with hc | ⟨q,off,rfl,hq,hc⟩
   ·subst hc;simp at hlt
   obtain ⟨cs,hR,hcs⟩:=hc k hlt
   have hB:=HS.out.bel
   have hel:=HE.out _ (List.getElem_mem hlt)
   have hR0:=hid hR
   clear hR hc
   obtain ⟨_,ls,rfl,hL⟩:=XR_iff.1 hR0.out
   obtain ⟨pl,cl,rfl,_⟩:=hL
   have hRr:=XR.later hB _ _ hR0.out
   obtain ⟨x0,x1,x2,x3,x4,x5⟩:=rows6 hB hq hcs
   have HV:=hid (XR.later ((Below.refl wr.heap.size wr).alloc (Nat.le_refl _) (.cells #[.int .i64 l[k].op,.string (bs l[k].name),.int .i64 l[k].n,.int .i64 l[k].w,.int .u64 l[k].v,.slice pl l[k].l.length cl] 28)) _ _ hRr)
   have HEL:=hid hel
   clear hel hRr hcs
   have hT:((l.map exprT).take (k+1))=(l.map exprT).take k ++ [exprT l[k]]:=by
    have h1:(l.map exprT).take k ++ [(l.map exprT)[k]'(by simpa using hlt)]=(l.map exprT).take (k+1):=List.take_append_getElem (by simpa using hlt)
    rw [← h1,List.getElem_map]
   have HT:=hid hT
   have HFL:=hid hfl2
   have hL:=hid hl
   clear hT hfl2
   generalize l[k]=y at *
   by_cases hk0:k=0
   ·have hkn:decide (0<k)=false:=by rw [hk0];simp
    have hkd:decide ((0:Int)<(k:Int))=false:=by rw [hk0];simp
    have HK0:=hid hk0
    clear hk0
    go_wp2_with (first
     | (go_at_call 56;refine (HEL.out _ _ _ (Nat.le_refl _) HV.out).mono ?_;rintro e W5 ⟨f,rfl,h1,h2⟩;obtain ⟨gf,lf,rfl,h3⟩:=seq_form h1;clear h1;have H2:=hid h2;have H3:=hid h3;clear h2 h3)
     | (at_builtin;refine wpList_append_lies _ rfl _ _ 121 rfl W.heap.size 79 i0 Value.nilFunc 1 8 fnSlice hi hz0 hz1 hz2 rfl (by decide) _ _ _ rfl (((HS.out.later ((Below.refl _ _).alloc (Nat.le_refl _) _)).later H2.out).later ((Below.refl _ _).alloc (Nat.le_refl _) _)).own ⟨W5.heap.size,0,none⟩ 1 1 [.func (.func gf) #[] lf] rfl rfl (fun j u hu=>World.news_of_block (World.alloc_heap_new W5 _) j u hu) (by simp [Value.oneCell']) (by decide) (by unfold maxLen;have:=HFL.out;have:=hL.out;omega) (by have:=HFL.out;have:=hL.out;omega) (by have:=((HS.out.later ((Below.refl _ _).alloc (Nat.le_refl _) _)).later H2.out).bel.size;simp;omega) _ rfl ?_;intro g' cap' w1 hown hgr hat hlt2;have HX:=hid hown;have HG:=hid hgr;have HA:=hid hat;clear hown hgr hat hlt2))
    refine ⟨⟨k+1,fs ++ [.func (.func gf) #[] lf],by go_num,hlt,⟨_,_,by rw [List.length_append];rfl⟩,hid ?_⟩,by simp [intOf];omega⟩
    rw [HT.out]
    have h0:(l.map exprT).take k=[]:=by rw [HK0.out];rfl
    have HSS:=HS.out
    rw [h0] at HSS ⊢
    exact ((HSS.later ((Below.refl _ _).alloc (Nat.le_refl _) _)).later H2.out).app H3.out (by have:=hB.size;simp;omega) (fun r hr=>by have:=(HS.out.lt r hr).2;simp;omega) ((Below.refl _ _).alloc (Nat.le_refl _) _) HX.out HG.out HA.out
   ·have hkn:decide (0<k)=true:=by simp;omega
    have hkd:decide ((0:Int)<(k:Int))=true:=by simp;omega
    have HK0:=hid hk0
    clear hk0
    go_wp2_with (first
     | (go_at_call 90;refine (ssign_any s _ _ (Nat.le_refl _)).mono ?_;rintro e W3 ⟨f,rfl,h1,h2⟩;obtain ⟨gs,lsg,rfl,h3⟩:=seq_form h1;clear h1;have K2:=hid h2;have K3:=hid h3;clear h2 h3)
     | (go_at_call 56;refine (HEL.out _ _ _ (Nat.le_refl _) HV1.out).mono ?_;rintro e W5 ⟨f,rfl,h1,h2⟩;obtain ⟨gf,lf,rfl,h3⟩:=seq_form h1;clear h1;have H2:=hid h2;have H3:=hid h3;clear h2 h3)
     | (at_builtin;refine wpList_append_lies _ rfl _ _ 121 rfl W.heap.size 79 i0 Value.nilFunc 1 8 fnSlice hi hz0 hz1 hz2 rfl (by decide) _ _ _ rfl (((HS.out.later ((Below.refl _ _).alloc (Nat.le_refl _) _)).later K2.out).later ((Below.refl _ _).alloc (Nat.le_refl _) _)).own ⟨W3.heap.size,0,none⟩ 1 1 [.func (.func gs) #[] lsg] rfl rfl (fun j u hu=>World.news_of_block (World.alloc_heap_new W3 _) j u hu) (by simp [Value.oneCell']) (by decide) (by unfold maxLen;have:=HFL.out;have:=hL.out;omega) (by have:=HFL.out;have:=hL.out;omega) (by have:=((HS.out.later ((Below.refl _ _).alloc (Nat.le_refl _) _)).later K2.out).bel.size;simp;omega) _ rfl ?_;intro g' cap' w1 hown hgr hat hlt2;have HST:=hid (HS.out.step K2.out K3.out hown hgr hat);have HS1:=hid HST.out.1;have hbx:=HST.out.2.1;have y0:w1.cell? ⟨wr.heap.size,0,none⟩=some (.int .i64 y.op):=(by simp [World.cell?,hbx]);have y1:w1.cell? ⟨wr.heap.size,1,none⟩=some (.string (bs y.name)):=(by simp [World.cell?,hbx]);have y2:w1.cell? ⟨wr.heap.size,2,none⟩=some (.int .i64 y.n):=(by simp [World.cell?,hbx]);have y3:w1.cell? ⟨wr.heap.size,3,none⟩=some (.int .i64 y.w):=(by simp [World.cell?,hbx]);have y4:w1.cell? ⟨wr.heap.size,4,none⟩=some (.int .u64 y.v):=(by simp [World.cell?,hbx]);have y5:w1.cell? ⟨wr.heap.size,5,none⟩=some (.slice pl y.l.length cl):=(by simp [World.cell?,hbx]);have HV1:=hid (XR.later HS1.out.bel _ _ hR0.out);have hlw:=HST.out.2.2;clear hown hgr hat hlt2 hbx)
     | (at_builtin;refine wpList_append_lies _ rfl _ _ 121 rfl W.heap.size 79 i0 Value.nilFunc 1 8 fnSlice hi hz0 hz1 hz2 rfl (by decide) _ _ _ rfl ((HS1.out.later H2.out).later ((Below.refl _ _).alloc (Nat.le_refl _) _)).own ⟨W5.heap.size,0,none⟩ 1 1 [.func (.func gf) #[] lf] rfl rfl (fun j u hu=>World.news_of_block (World.alloc_heap_new W5 _) j u hu) (by simp [Value.oneCell']) (by decide) (by rw [List.length_append];simp only [List.length_cons,List.length_nil];unfold maxLen;have:=HFL.out;have:=hL.out;omega) (by rw [List.length_append];simp only [List.length_cons,List.length_nil];have:=HFL.out;have:=hL.out;omega) (by have:=(HS1.out.later H2.out).bel.size;simp;omega) _ rfl ?_;intro g2 cap2 w2 hown hgr hat hlt2;have HX:=hid hown;have HG:=hid hgr;have HA:=hid hat;clear hown hgr hat hlt2))
    refine ⟨⟨k+1,(fs ++ [.func (.func gs) #[] lsg]) ++ [.func (.func gf) #[] lf],by go_num,hlt,⟨some ⟨g2,0,none⟩,cap2,by simp only [List.length_append,List.length_cons,List.length_nil]⟩,hid ?_⟩,by simp [intOf];omega⟩
    rw [HT.out,inter_snoc s _ _ (by
     intro e
     have:=congrArg List.length e
     rw [List.length_take,List.length_map,Nat.min_eq_left hk] at this
     exact HK0.out this)]
    have hfin:=(HS1.out.later H2.out).app H3.out (by have:=HS1.out.bel.size;omega) (fun r hr=>(HS1.out.lt r hr).2) ((Below.refl _ _).alloc (Nat.le_refl _) _) HX.out HG.out HA.out
    rw [show (fs ++ [Value.func (.func gs) #[] lsg]).length+1=fs.length+1+1 by simp] at hfin
    exact hfin
  ·have hkl:k=l.length:=by omega
   have hge':¬ ((k:Int)<(l.length:Int)):=by omega
   have hsq:=HS.out.seqs
   have hlen:(inter s ((l.map exprT).take k)).length≤1000000000:=by
    have h1:=HS.out.lies.len
    refine Nat.le_trans (inter_len s _) ?_
    rw [List.length_take,List.length_map]
    omega
   have HSQ:=hid hsq
   have HKL:=hid hkl
   clear hsq hkl
   go_wp2_with (go_at_call 91;refine (row_any _ _ hlen wr W.heap.size HS.out.bel.size HSQ.out).mono ?_;rintro e W9 ⟨f,rfl,h1,h2⟩;have H1:=hid h1;have H2:=hid h2;clear h1 h2)
   go_ret
   refine ⟨_,rfl,?_,HS.out.bel.trans (H2.out.mono HS.out.bel.size)⟩
   have:=H1.out.later hlo (KeptL.refl _ _)
   rw [HKL.out,List.take_of_length_le (by simp)] at this
   rw [inter_flat] at this
   exact this
def BindOK (y:Bd):Prop:=∀ (W:World) (lo:Nat) (cs:List Value),lo≤W.heap.size→BR W y cs→Calls Tryz.prog 167 #[.agg cs.toArray] W (MkPost lo W (bindT y))
theorem eachB_any (s:Ln) (hs:s ≠ []) (v:Value) (l:List Bd) (hl:l.length≤1000000) (W:World) (lo:Nat) (hlo:lo≤W.heap.size) (hR:BsR W v l) (hE:∀ y ∈ l,BindOK y) :
  Calls Tryz.prog 166 #[v,.string (bs s),.func (.func 167) #[] #[]] W (MkPost lo W (sepS s (l.map bindT))):=by
 obtain ⟨p,cap,rfl,hcap,hcell⟩:=hR
 have HE:=hid hE
 have HC:=hid hcell
 clear hE hcell
 obtain ⟨i0,hi,hz0,hz1,hz2⟩:=info_parts fnInfo
 have HSN:=hid hs
 have hse:(bs s).toList.isEmpty=false:=by
  rw [Lib.toList_data,list_bs]
  simpa using hs
 clear hs
 go_enter Tryz.func166,Tryz.ntmps166
 go_wp2
 go_loopw [7,12] (fun out i wr=>∃ (k:Nat) (fs:List Value),i=.int .i64 k∧k≤l.length∧(∃ p c,out=.slice p fs.length c)∧Hid (EachS W out fs (inter s ((l.map bindT).take k)) wr)) (fun _ i _=>l.length - (intOf i).toNat)
 case atStart=>exact ⟨0,[],rfl,Nat.zero_le _,⟨none,0,rfl⟩,hid (EachS.nil W _ (Below.refl _ _))⟩
 case round=>
  obtain ⟨k,fs,rfl,hk,⟨po,co,rfl⟩,HS⟩:=hrel
  by_cases hlt:k<l.length
  ·have hlt':(k:Int)<(l.length:Int):=by omega
   have hfl:=HS.out.lies.len
   have hfl2:fs.length≤2 * k:=by
    rw [hfl]
    refine Nat.le_trans (inter_len s _) ?_
    rw [List.length_take,List.length_map,Nat.min_eq_left hk]
    exact Nat.le_refl _
   clear hfl
   rcases HC.out with hc | ⟨q,off,rfl,hq,hc⟩
   ·subst hc;simp at hlt
   obtain ⟨cs,hR,hcs⟩:=hc k hlt
   have hB:=HS.out.bel
   have hel:=HE.out _ (List.getElem_mem hlt)
   have hR0:=hid hR
   clear hR hc
   obtain ⟨xs,rfl,hXR⟩:=hR0.out
   obtain ⟨_,ls,rfl,hL⟩:=XR_iff.1 hXR
   obtain ⟨pl,cl,rfl,_⟩:=hL
   have hRr:=BR.later hB _ _ hR0.out
   obtain ⟨x0,x1,x2,x3,x4,x5,x6⟩:=rows7 hB hq hcs
   have HV:=hid (BR.later ((Below.refl wr.heap.size wr).alloc (Nat.le_refl _) (.cells #[.string (bs l[k].name),.int .i64 l[k].x.op,.string (bs l[k].x.name),.int .i64 l[k].x.n,.int .i64 l[k].x.w,.int .u64 l[k].x.v,.slice pl l[k].x.l.length cl] 159)) _ _ hRr)
   have HEL:=hid hel
   clear hel hRr hcs
   have hT:((l.map bindT).take (k+1))=(l.map bindT).take k ++ [bindT l[k]]:=by
    have h1:(l.map bindT).take k ++ [(l.map bindT)[k]'(by simpa using hlt)]=(l.map bindT).take (k+1):=List.take_append_getElem (by simpa using hlt)
    rw [← h1,List.getElem_map]
   have HT:=hid hT
   have HFL:=hid hfl2
   have hL:=hid hl
   clear hT hfl2
   generalize l[k]=y at *
   by_cases hk0:k=0
   ·have hkn:decide (0<k)=false:=by rw [hk0];simp
    have hkd:decide ((0:Int)<(k:Int))=false:=by rw [hk0];simp
    have HK0:=hid hk0
    clear hk0
    go_wp2_with (first
     | (go_at_call 167;refine (HEL.out _ _ _ (Nat.le_refl _) HV.out).mono ?_;rintro e W5 ⟨f,rfl,h1,h2⟩;obtain ⟨gf,lf,rfl,h3⟩:=seq_form h1;clear h1;have H2:=hid h2;have H3:=hid h3;clear h2 h3)
     | (at_builtin;refine wpList_append_lies _ rfl _ _ 121 rfl W.heap.size 79 i0 Value.nilFunc 1 8 fnSlice hi hz0 hz1 hz2 rfl (by decide) _ _ _ rfl (((HS.out.later ((Below.refl _ _).alloc (Nat.le_refl _) _)).later H2.out).later ((Below.refl _ _).alloc (Nat.le_refl _) _)).own ⟨W5.heap.size,0,none⟩ 1 1 [.func (.func gf) #[] lf] rfl rfl (fun j u hu=>World.news_of_block (World.alloc_heap_new W5 _) j u hu) (by simp [Value.oneCell']) (by decide) (by unfold maxLen;have:=HFL.out;have:=hL.out;omega) (by have:=HFL.out;have:=hL.out;omega) (by have:=((HS.out.later ((Below.refl _ _).alloc (Nat.le_refl _) _)).later H2.out).bel.size;simp;omega) _ rfl ?_;intro g' cap' w1 hown hgr hat hlt2;have HX:=hid hown;have HG:=hid hgr;have HA:=hid hat;clear hown hgr hat hlt2))
    refine ⟨⟨k+1,fs ++ [.func (.func gf) #[] lf],by go_num,hlt,⟨_,_,by rw [List.length_append];rfl⟩,hid ?_⟩,by simp [intOf];omega⟩
    rw [HT.out]
    have h0:(l.map bindT).take k=[]:=by rw [HK0.out];rfl
    have HSS:=HS.out
    rw [h0] at HSS ⊢
    exact ((HSS.later ((Below.refl _ _).alloc (Nat.le_refl _) _)).later H2.out).app H3.out (by have:=hB.size;simp;omega) (fun r hr=>by have:=(HS.out.lt r hr).2;simp;omega) ((Below.refl _ _).alloc (Nat.le_refl _) _) HX.out HG.out HA.out
   ·have hkn:decide (0<k)=true:=by simp;omega
    have hkd:decide ((0:Int)<(k:Int))=true:=by simp;omega
    have HK0:=hid hk0
    clear hk0
    go_wp2_with (first
     | (go_at_call 90;refine (ssign_any s _ _ (Nat.le_refl _)).mono ?_;rintro e W3 ⟨f,rfl,h1,h2⟩;obtain ⟨gs,lsg,rfl,h3⟩:=seq_form h1;clear h1;have K2:=hid h2;have K3:=hid h3;clear h2 h3)
     | (go_at_call 167;refine (HEL.out _ _ _ (Nat.le_refl _) HV1.out).mono ?_;rintro e W5 ⟨f,rfl,h1,h2⟩;obtain ⟨gf,lf,rfl,h3⟩:=seq_form h1;clear h1;have H2:=hid h2;have H3:=hid h3;clear h2 h3)
     | (at_builtin;refine wpList_append_lies _ rfl _ _ 121 rfl W.heap.size 79 i0 Value.nilFunc 1 8 fnSlice hi hz0 hz1 hz2 rfl (by decide) _ _ _ rfl (((HS.out.later ((Below.refl _ _).alloc (Nat.le_refl _) _)).later K2.out).later ((Below.refl _ _).alloc (Nat.le_refl _) _)).own ⟨W3.heap.size,0,none⟩ 1 1 [.func (.func gs) #[] lsg] rfl rfl (fun j u hu=>World.news_of_block (World.alloc_heap_new W3 _) j u hu) (by simp [Value.oneCell']) (by decide) (by unfold maxLen;have:=HFL.out;have:=hL.out;omega) (by have:=HFL.out;have:=hL.out;omega) (by have:=((HS.out.later ((Below.refl _ _).alloc (Nat.le_refl _) _)).later K2.out).bel.size;simp;omega) _ rfl ?_;intro g' cap' w1 hown hgr hat hlt2;have HST:=hid (HS.out.step K2.out K3.out hown hgr hat);have HS1:=hid HST.out.1;have hbx:=HST.out.2.1;have y0:w1.cell? ⟨wr.heap.size,0,none⟩=some (.string (bs y.name)):=(by simp [World.cell?,hbx]);have y1:w1.cell? ⟨wr.heap.size,1,none⟩=some (.int .i64 y.x.op):=(by simp [World.cell?,hbx]);have y2:w1.cell? ⟨wr.heap.size,2,none⟩=some (.string (bs y.x.name)):=(by simp [World.cell?,hbx]);have y3:w1.cell? ⟨wr.heap.size,3,none⟩=some (.int .i64 y.x.n):=(by simp [World.cell?,hbx]);have y4:w1.cell? ⟨wr.heap.size,4,none⟩=some (.int .i64 y.x.w):=(by simp [World.cell?,hbx]);have y5:w1.cell? ⟨wr.heap.size,5,none⟩=some (.int .u64 y.x.v):=(by simp [World.cell?,hbx]);have y6:w1.cell? ⟨wr.heap.size,6,none⟩=some (.slice pl y.x.l.length cl):=(by simp [World.cell?,hbx]);have HV1:=hid (BR.later HS1.out.bel _ _ hR0.out);have hlw:=HST.out.2.2;clear hown hgr hat hlt2 hbx)
     | (at_builtin;refine wpList_append_lies _ rfl _ _ 121 rfl W.heap.size 79 i0 Value.nilFunc 1 8 fnSlice hi hz0 hz1 hz2 rfl (by decide) _ _ _ rfl ((HS1.out.later H2.out).later ((Below.refl _ _).alloc (Nat.le_refl _) _)).own ⟨W5.heap.size,0,none⟩ 1 1 [.func (.func gf) #[] lf] rfl rfl (fun j u hu=>World.news_of_block (World.alloc_heap_new W5 _) j u hu) (by simp [Value.oneCell']) (by decide) (by rw [List.length_append];simp only [List.length_cons,List.length_nil];unfold maxLen;have:=HFL.out;have:=hL.out;omega) (by rw [List.length_append];simp only [List.length_cons,List.length_nil];have:=HFL.out;have:=hL.out;omega) (by have:=(HS1.out.later H2.out).bel.size;simp;omega) _ rfl ?_;intro g2 cap2 w2 hown hgr hat hlt2;have HX:=hid hown;have HG:=hid hgr;have HA:=hid hat;clear hown hgr hat hlt2))
    refine ⟨⟨k+1,(fs ++ [.func (.func gs) #[] lsg]) ++ [.func (.func gf) #[] lf],by go_num,hlt,⟨some ⟨g2,0,none⟩,cap2,by simp only [List.length_append,List.length_cons,List.length_nil]⟩,hid ?_⟩,by simp [intOf];omega⟩
    rw [HT.out,inter_snoc s _ _ (by
     intro e
     have:=congrArg List.length e
     rw [List.length_take,List.length_map,Nat.min_eq_left hk] at this
     exact HK0.out this)]
    have hfin:=(HS1.out.later H2.out).app H3.out (by have:=HS1.out.bel.size;omega) (fun r hr=>(HS1.out.lt r hr).2) ((Below.refl _ _).alloc (Nat.le_refl _) _) HX.out HG.out HA.out
    rw [show (fs ++ [Value.func (.func gs) #[] lsg]).length+1=fs.length+1+1 by simp] at hfin
    exact hfin
  ·have hkl:k=l.length:=by omega
   have hge':¬ ((k:Int)<(l.length:Int)):=by omega
   have hsq:=HS.out.seqs
   have hlen:(inter s ((l.map bindT).take k)).length≤1000000000:=by
    have h1:=HS.out.lies.len
    refine Nat.le_trans (inter_len s _) ?_
    rw [List.length_take,List.length_map]
    omega
   have HSQ:=hid hsq
   have HKL:=hid hkl
   clear hsq hkl
   go_wp2_with (go_at_call 91;refine (row_any _ _ hlen wr W.heap.size HS.out.bel.size HSQ.out).mono ?_;rintro e W9 ⟨f,rfl,h1,h2⟩;have H1:=hid h1;have H2:=hid h2;clear h1 h2)
   go_ret
   refine ⟨_,rfl,?_,HS.out.bel.trans (H2.out.mono HS.out.bel.size)⟩
   have:=H1.out.later hlo (KeptL.refl _ _)
   rw [HKL.out,List.take_of_length_le (by simp)] at this
   rw [inter_flat] at this
   exact this
def PortOK (y:Pt):Prop:=∀ (W:World) (lo:Nat) (cs:List Value),lo≤W.heap.size→PR W y cs→Calls Tryz.prog 97 #[.agg cs.toArray] W (MkPost lo W (portT y))
theorem eachP_any (s:Ln) (hs:s ≠ []) (v:Value) (l:List Pt) (hl:l.length≤1000000) (W:World) (lo:Nat) (hlo:lo≤W.heap.size) (hR:PsR W v l) (hE:∀ y ∈ l,PortOK y) :
  Calls Tryz.prog 96 #[v,.string (bs s),.func (.func 97) #[] #[]] W (MkPost lo W (sepS s (l.map portT))):=by
 obtain ⟨p,cap,rfl,hcap,hcell⟩:=hR
 have HE:=hid hE
 have HC:=hid hcell
 clear hE hcell
 obtain ⟨i0,hi,hz0,hz1,hz2⟩:=info_parts fnInfo
 have HSN:=hid hs
 have hse:(bs s).toList.isEmpty=false:=by
  rw [Lib.toList_data,list_bs]
  simpa using hs
 clear hs
 go_enter Tryz.func96,Tryz.ntmps96
 go_wp2
 go_loopw [7,12] (fun out i wr=>∃ (k:Nat) (fs:List Value),i=.int .i64 k∧k≤l.length∧(∃ p c,out=.slice p fs.length c)∧Hid (EachS W out fs (inter s ((l.map portT).take k)) wr)) (fun _ i _=>l.length - (intOf i).toNat)
 case atStart=>exact ⟨0,[],rfl,Nat.zero_le _,⟨none,0,rfl⟩,hid (EachS.nil W _ (Below.refl _ _))⟩
 case round=>
  obtain ⟨k,fs,rfl,hk,⟨po,co,rfl⟩,HS⟩:=hrel
  by_cases hlt:k<l.length
  ·have hlt':(k:Int)<(l.length:Int):=by omega
   have hfl:=HS.out.lies.len
   have hfl2:fs.length≤2 * k:=by
    rw [hfl]
    refine Nat.le_trans (inter_len s _) ?_
    rw [List.length_take,List.length_map,Nat.min_eq_left hk]
    exact Nat.le_refl _
   clear hfl
   rcases HC.out with hc | ⟨q,off,rfl,hq,hc⟩
   ·subst hc;simp at hlt
   obtain ⟨cs,hR,hcs⟩:=hc k hlt
   have hB:=HS.out.bel
   have hel:=HE.out _ (List.getElem_mem hlt)
   have hR0:=hid hR
   clear hR hc
   obtain ⟨xs,rfl,hXR⟩:=hR0.out
   obtain ⟨_,ls,rfl,hL⟩:=XR_iff.1 hXR
   obtain ⟨pl,cl,rfl,_⟩:=hL
   have hRr:=PR.later hB _ _ hR0.out
   obtain ⟨x0,x1,x2,x3,x4,x5,x6,x7⟩:=rows8 hB hq hcs
   have HV:=hid (PR.later ((Below.refl wr.heap.size wr).alloc (Nat.le_refl _) (.cells #[.string (bs l[k].name),.bool l[k].out,.int .i64 l[k].w.op,.string (bs l[k].w.name),.int .i64 l[k].w.n,.int .i64 l[k].w.w,.int .u64 l[k].w.v,.slice pl l[k].w.l.length cl] 114)) _ _ hRr)
   have HEL:=hid hel
   clear hel hRr hcs
   have hT:((l.map portT).take (k+1))=(l.map portT).take k ++ [portT l[k]]:=by
    have h1:(l.map portT).take k ++ [(l.map portT)[k]'(by simpa using hlt)]=(l.map portT).take (k+1):=List.take_append_getElem (by simpa using hlt)
    rw [← h1,List.getElem_map]
   have HT:=hid hT
   have HFL:=hid hfl2
   have hL:=hid hl
   clear hT hfl2
   generalize l[k]=y at *
   by_cases hk0:k=0
   ·have hkn:decide (0<k)=false:=by rw [hk0];simp
    have hkd:decide ((0:Int)<(k:Int))=false:=by rw [hk0];simp
    have HK0:=hid hk0
    clear hk0
    go_wp2_with (first
     | (go_at_call 97;refine (HEL.out _ _ _ (Nat.le_refl _) HV.out).mono ?_;rintro e W5 ⟨f,rfl,h1,h2⟩;obtain ⟨gf,lf,rfl,h3⟩:=seq_form h1;clear h1;have H2:=hid h2;have H3:=hid h3;clear h2 h3)
     | (at_builtin;refine wpList_append_lies _ rfl _ _ 121 rfl W.heap.size 79 i0 Value.nilFunc 1 8 fnSlice hi hz0 hz1 hz2 rfl (by decide) _ _ _ rfl (((HS.out.later ((Below.refl _ _).alloc (Nat.le_refl _) _)).later H2.out).later ((Below.refl _ _).alloc (Nat.le_refl _) _)).own ⟨W5.heap.size,0,none⟩ 1 1 [.func (.func gf) #[] lf] rfl rfl (fun j u hu=>World.news_of_block (World.alloc_heap_new W5 _) j u hu) (by simp [Value.oneCell']) (by decide) (by unfold maxLen;have:=HFL.out;have:=hL.out;omega) (by have:=HFL.out;have:=hL.out;omega) (by have:=((HS.out.later ((Below.refl _ _).alloc (Nat.le_refl _) _)).later H2.out).bel.size;simp;omega) _ rfl ?_;intro g' cap' w1 hown hgr hat hlt2;have HX:=hid hown;have HG:=hid hgr;have HA:=hid hat;clear hown hgr hat hlt2))
    refine ⟨⟨k+1,fs ++ [.func (.func gf) #[] lf],by go_num,hlt,⟨_,_,by rw [List.length_append];rfl⟩,hid ?_⟩,by simp [intOf];omega⟩
    rw [HT.out]
    have h0:(l.map portT).take k=[]:=by rw [HK0.out];rfl
    have HSS:=HS.out
    rw [h0] at HSS ⊢
    exact ((HSS.later ((Below.refl _ _).alloc (Nat.le_refl _) _)).later H2.out).app H3.out (by have:=hB.size;simp;omega) (fun r hr=>by have:=(HS.out.lt r hr).2;simp;omega) ((Below.refl _ _).alloc (Nat.le_refl _) _) HX.out HG.out HA.out
   ·have hkn:decide (0<k)=true:=by simp;omega
    have hkd:decide ((0:Int)<(k:Int))=true:=by simp;omega
    have HK0:=hid hk0
    clear hk0
    go_wp2_with (first
     | (go_at_call 90;refine (ssign_any s _ _ (Nat.le_refl _)).mono ?_;rintro e W3 ⟨f,rfl,h1,h2⟩;obtain ⟨gs,lsg,rfl,h3⟩:=seq_form h1;clear h1;have K2:=hid h2;have K3:=hid h3;clear h2 h3)
     | (go_at_call 97;refine (HEL.out _ _ _ (Nat.le_refl _) HV1.out).mono ?_;rintro e W5 ⟨f,rfl,h1,h2⟩;obtain ⟨gf,lf,rfl,h3⟩:=seq_form h1;clear h1;have H2:=hid h2;have H3:=hid h3;clear h2 h3)
     | (at_builtin;refine wpList_append_lies _ rfl _ _ 121 rfl W.heap.size 79 i0 Value.nilFunc 1 8 fnSlice hi hz0 hz1 hz2 rfl (by decide) _ _ _ rfl (((HS.out.later ((Below.refl _ _).alloc (Nat.le_refl _) _)).later K2.out).later ((Below.refl _ _).alloc (Nat.le_refl _) _)).own ⟨W3.heap.size,0,none⟩ 1 1 [.func (.func gs) #[] lsg] rfl rfl (fun j u hu=>World.news_of_block (World.alloc_heap_new W3 _) j u hu) (by simp [Value.oneCell']) (by decide) (by unfold maxLen;have:=HFL.out;have:=hL.out;omega) (by have:=HFL.out;have:=hL.out;omega) (by have:=((HS.out.later ((Below.refl _ _).alloc (Nat.le_refl _) _)).later K2.out).bel.size;simp;omega) _ rfl ?_;intro g' cap' w1 hown hgr hat hlt2;have HST:=hid (HS.out.step K2.out K3.out hown hgr hat);have HS1:=hid HST.out.1;have hbx:=HST.out.2.1;have y0:w1.cell? ⟨wr.heap.size,0,none⟩=some (.string (bs y.name)):=(by simp [World.cell?,hbx]);have y1:w1.cell? ⟨wr.heap.size,1,none⟩=some (.bool y.out):=(by simp [World.cell?,hbx]);have y2:w1.cell? ⟨wr.heap.size,2,none⟩=some (.int .i64 y.w.op):=(by simp [World.cell?,hbx]);have y3:w1.cell? ⟨wr.heap.size,3,none⟩=some (.string (bs y.w.name)):=(by simp [World.cell?,hbx]);have y4:w1.cell? ⟨wr.heap.size,4,none⟩=some (.int .i64 y.w.n):=(by simp [World.cell?,hbx]);have y5:w1.cell? ⟨wr.heap.size,5,none⟩=some (.int .i64 y.w.w):=(by simp [World.cell?,hbx]);have y6:w1.cell? ⟨wr.heap.size,6,none⟩=some (.int .u64 y.w.v):=(by simp [World.cell?,hbx]);have y7:w1.cell? ⟨wr.heap.size,7,none⟩=some (.slice pl y.w.l.length cl):=(by simp [World.cell?,hbx]);have HV1:=hid (PR.later HS1.out.bel _ _ hR0.out);have hlw:=HST.out.2.2;clear hown hgr hat hlt2 hbx)
     | (at_builtin;refine wpList_append_lies _ rfl _ _ 121 rfl W.heap.size 79 i0 Value.nilFunc 1 8 fnSlice hi hz0 hz1 hz2 rfl (by decide) _ _ _ rfl ((HS1.out.later H2.out).later ((Below.refl _ _).alloc (Nat.le_refl _) _)).own ⟨W5.heap.size,0,none⟩ 1 1 [.func (.func gf) #[] lf] rfl rfl (fun j u hu=>World.news_of_block (World.alloc_heap_new W5 _) j u hu) (by simp [Value.oneCell']) (by decide) (by rw [List.length_append];simp only [List.length_cons,List.length_nil];unfold maxLen;have:=HFL.out;have:=hL.out;omega) (by rw [List.length_append];simp only [List.length_cons,List.length_nil];have:=HFL.out;have:=hL.out;omega) (by have:=(HS1.out.later H2.out).bel.size;simp;omega) _ rfl ?_;intro g2 cap2 w2 hown hgr hat hlt2;have HX:=hid hown;have HG:=hid hgr;have HA:=hid hat;clear hown hgr hat hlt2))
    refine ⟨⟨k+1,(fs ++ [.func (.func gs) #[] lsg]) ++ [.func (.func gf) #[] lf],by go_num,hlt,⟨some ⟨g2,0,none⟩,cap2,by simp only [List.length_append,List.length_cons,List.length_nil]⟩,hid ?_⟩,by simp [intOf];omega⟩
    rw [HT.out,inter_snoc s _ _ (by
     intro e
     have:=congrArg List.length e
     rw [List.length_take,List.length_map,Nat.min_eq_left hk] at this
     exact HK0.out this)]
    have hfin:=(HS1.out.later H2.out).app H3.out (by have:=HS1.out.bel.size;omega) (fun r hr=>(HS1.out.lt r hr).2) ((Below.refl _ _).alloc (Nat.le_refl _) _) HX.out HG.out HA.out
    rw [show (fs ++ [Value.func (.func gs) #[] lsg]).length+1=fs.length+1+1 by simp] at hfin
    exact hfin
  ·have hkl:k=l.length:=by omega
   have hge':¬ ((k:Int)<(l.length:Int)):=by omega
   have hsq:=HS.out.seqs
   have hlen:(inter s ((l.map portT).take k)).length≤1000000000:=by
    have h1:=HS.out.lies.len
    refine Nat.le_trans (inter_len s _) ?_
    rw [List.length_take,List.length_map]
    omega
   have HSQ:=hid hsq
   have HKL:=hid hkl
   clear hsq hkl
   go_wp2_with (go_at_call 91;refine (row_any _ _ hlen wr W.heap.size HS.out.bel.size HSQ.out).mono ?_;rintro e W9 ⟨f,rfl,h1,h2⟩;have H1:=hid h1;have H2:=hid h2;clear h1 h2)
   go_ret
   refine ⟨_,rfl,?_,HS.out.bel.trans (H2.out.mono HS.out.bel.size)⟩
   have:=H1.out.later hlo (KeptL.refl _ _)
   rw [HKL.out,List.take_of_length_le (by simp)] at this
   rw [inter_flat] at this
   exact this
def StmtOK (put:Ln) (y:S):Prop:=∀ (W:World) (lo:Nat) (cs:List Value),lo≤W.heap.size→SR W y cs→Calls Tryz.prog 60 #[.agg #[.string (bs put)],.agg cs.toArray] W (MkPost lo W ((stmtT put) y))
theorem eachS_any (put:Ln) (v:Value) (l:List S) (hl:l.length≤1000000) (W:World) (lo:Nat) (hlo:lo≤W.heap.size) (hR:SsR W v l) (hE:∀ y ∈ l,StmtOK put y) :
  Calls Tryz.prog 119 #[v,.string { data:=#[] },.func (.func 60) #[.agg #[.string (bs put)]] #[]] W (MkPost lo W ((l.map (stmtT put)).flatten)):=by
 obtain ⟨p,cap,rfl,hcap,hcell⟩:=hR
 have HE:=hid hE
 have HC:=hid hcell
 clear hE hcell
 obtain ⟨i0,hi,hz0,hz1,hz2⟩:=info_parts fnInfo
 go_enter Tryz.func119,Tryz.ntmps119
 go_wp2
 go_loopw [7,12] (fun out i wr=>∃ (k:Nat) (fs:List Value),i=.int .i64 k∧k≤l.length∧(∃ p c,out=.slice p fs.length c)∧Hid (EachS W out fs ((l.map (stmtT put)).take k) wr)) (fun _ i _=>l.length - (intOf i).toNat)
 case atStart=>exact ⟨0,[],rfl,Nat.zero_le _,⟨none,0,rfl⟩,hid (EachS.nil W _ (Below.refl _ _))⟩
 case round=>
  obtain ⟨k,fs,rfl,hk,⟨po,co,rfl⟩,HS⟩:=hrel
  by_cases hlt:k<l.length
  ·have hlt':(k:Int)<(l.length:Int):=by omega
   have hfl:=HS.out.lies.len
   have hfl2:fs.length≤2 * k:=by
    rw [hfl,List.length_take,List.length_map,Nat.min_eq_left hk]
    omega
   clear hfl
   rcases HC.out with hc | ⟨q,off,rfl,hq,hc⟩
   ·subst hc;simp at hlt
   obtain ⟨cs,hR,hcs⟩:=hc k hlt
   have hB:=HS.out.bel
   have hel:=HE.out _ (List.getElem_mem hlt)
   have hR0:=hid hR
   clear hR hc
   obtain ⟨xs,ls,rfl,hXR,hL⟩:=SR_iff.1 hR0.out
   obtain ⟨px,cx,rfl,_⟩:=hXR
   obtain ⟨pl,cl,rfl,_⟩:=hL
   have hRr:=SR.later hB _ _ hR0.out
   obtain ⟨x0,x1,x2,x3⟩:=rows4 hB hq hcs
   have HV:=hid (SR.later ((Below.refl wr.heap.size wr).alloc (Nat.le_refl _) (.cells #[.int .i64 l[k].op,.string (bs l[k].name),.slice px l[k].x.length cx,.slice pl l[k].l.length cl] 31)) _ _ hRr)
   have HEL:=hid hel
   clear hel hRr hcs
   have hT:((l.map (stmtT put)).take (k+1))=(l.map (stmtT put)).take k ++ [(stmtT put) l[k]]:=by
    have h1:(l.map (stmtT put)).take k ++ [(l.map (stmtT put))[k]'(by simpa using hlt)]=(l.map (stmtT put)).take (k+1):=List.take_append_getElem (by simpa using hlt)
    rw [← h1,List.getElem_map]
   have HT:=hid hT
   have HFL:=hid hfl2
   have hL:=hid hl
   clear hT hfl2
   generalize l[k]=y at *
   by_cases hk0:k=0
   ·have hkn:decide (0<k)=false:=by rw [hk0];simp
    have hkd:decide ((0:Int)<(k:Int))=false:=by rw [hk0];simp
    have HK0:=hid hk0
    clear hk0
    go_wp2_with (first
     | (go_at_call 60;refine (HEL.out _ _ _ (Nat.le_refl _) HV.out).mono ?_;rintro e W5 ⟨f,rfl,h1,h2⟩;obtain ⟨gf,lf,rfl,h3⟩:=seq_form h1;clear h1;have H2:=hid h2;have H3:=hid h3;clear h2 h3)
     | (at_builtin;refine wpList_append_lies _ rfl _ _ 121 rfl W.heap.size 79 i0 Value.nilFunc 1 8 fnSlice hi hz0 hz1 hz2 rfl (by decide) _ _ _ rfl (((HS.out.later ((Below.refl _ _).alloc (Nat.le_refl _) _)).later H2.out).later ((Below.refl _ _).alloc (Nat.le_refl _) _)).own ⟨W5.heap.size,0,none⟩ 1 1 [.func (.func gf) #[] lf] rfl rfl (fun j u hu=>World.news_of_block (World.alloc_heap_new W5 _) j u hu) (by simp [Value.oneCell']) (by decide) (by unfold maxLen;have:=HFL.out;have:=hL.out;omega) (by have:=HFL.out;have:=hL.out;omega) (by have:=((HS.out.later ((Below.refl _ _).alloc (Nat.le_refl _) _)).later H2.out).bel.size;simp;omega) _ rfl ?_;intro g' cap' w1 hown hgr hat hlt2;have HX:=hid hown;have HG:=hid hgr;have HA:=hid hat;clear hown hgr hat hlt2))
    refine ⟨⟨k+1,fs ++ [.func (.func gf) #[] lf],by go_num,hlt,⟨_,_,by rw [List.length_append];rfl⟩,hid ?_⟩,by simp [intOf];omega⟩
    rw [HT.out]
    exact ((HS.out.later ((Below.refl _ _).alloc (Nat.le_refl _) _)).later H2.out).app H3.out (by have:=hB.size;simp;omega) (fun r hr=>by have:=(HS.out.lt r hr).2;simp;omega) ((Below.refl _ _).alloc (Nat.le_refl _) _) HX.out HG.out HA.out
   ·have hkn:decide (0<k)=true:=by simp;omega
    have hkd:decide ((0:Int)<(k:Int))=true:=by simp;omega
    have HK0:=hid hk0
    clear hk0
    go_wp2_with (first
     | (go_at_call 60;refine (HEL.out _ _ _ (Nat.le_refl _) HV.out).mono ?_;rintro e W5 ⟨f,rfl,h1,h2⟩;obtain ⟨gf,lf,rfl,h3⟩:=seq_form h1;clear h1;have H2:=hid h2;have H3:=hid h3;clear h2 h3)
     | (at_builtin;refine wpList_append_lies _ rfl _ _ 121 rfl W.heap.size 79 i0 Value.nilFunc 1 8 fnSlice hi hz0 hz1 hz2 rfl (by decide) _ _ _ rfl (((HS.out.later ((Below.refl _ _).alloc (Nat.le_refl _) _)).later H2.out).later ((Below.refl _ _).alloc (Nat.le_refl _) _)).own ⟨W5.heap.size,0,none⟩ 1 1 [.func (.func gf) #[] lf] rfl rfl (fun j u hu=>World.news_of_block (World.alloc_heap_new W5 _) j u hu) (by simp [Value.oneCell']) (by decide) (by unfold maxLen;have:=HFL.out;have:=hL.out;omega) (by have:=HFL.out;have:=hL.out;omega) (by have:=((HS.out.later ((Below.refl _ _).alloc (Nat.le_refl _) _)).later H2.out).bel.size;simp;omega) _ rfl ?_;intro g' cap' w1 hown hgr hat hlt2;have HX:=hid hown;have HG:=hid hgr;have HA:=hid hat;clear hown hgr hat hlt2))
    refine ⟨⟨k+1,fs ++ [.func (.func gf) #[] lf],by go_num,hlt,⟨_,_,by rw [List.length_append];rfl⟩,hid ?_⟩,by simp [intOf];omega⟩
    rw [HT.out]
    exact ((HS.out.later ((Below.refl _ _).alloc (Nat.le_refl _) _)).later H2.out).app H3.out (by have:=hB.size;simp;omega) (fun r hr=>by have:=(HS.out.lt r hr).2;simp;omega) ((Below.refl _ _).alloc (Nat.le_refl _) _) HX.out HG.out HA.out
  ·have hkl:k=l.length:=by omega
   have hge':¬ ((k:Int)<(l.length:Int)):=by omega
   have hsq:=HS.out.seqs
   have hlen:((l.map (stmtT put)).take k).length≤1000000000:=by
    have h1:=HS.out.lies.len
    rw [List.length_take,List.length_map]
    omega
   have HSQ:=hid hsq
   have HKL:=hid hkl
   clear hsq hkl
   go_wp2_with (go_at_call 91;refine (row_any _ _ hlen wr W.heap.size HS.out.bel.size HSQ.out).mono ?_;rintro e W9 ⟨f,rfl,h1,h2⟩;have H1:=hid h1;have H2:=hid h2;clear h1 h2)
   go_ret
   refine ⟨_,rfl,?_,HS.out.bel.trans (H2.out.mono HS.out.bel.size)⟩
   have:=H1.out.later hlo (KeptL.refl _ _)
   rw [HKL.out,List.take_of_length_le (by simp)] at this
   exact this
def ArmOK (put:Ln) (y:S):Prop:=∀ (W:World) (lo:Nat) (cs:List Value),lo≤W.heap.size→SR W y cs→Calls Tryz.prog 120 #[.agg #[.string (bs put)],.agg cs.toArray] W (MkPost lo W ((stmtT put) y))
theorem eachA_any (put:Ln) (v:Value) (l:List S) (hl:l.length≤1000000) (W:World) (lo:Nat) (hlo:lo≤W.heap.size) (hR:SsR W v l) (hE:∀ y ∈ l,ArmOK put y) :
  Calls Tryz.prog 119 #[v,.string { data:=#[] },.func (.func 120) #[.agg #[.string (bs put)]] #[]] W (MkPost lo W ((l.map (stmtT put)).flatten)):=by
 obtain ⟨p,cap,rfl,hcap,hcell⟩:=hR
 have HE:=hid hE
 have HC:=hid hcell
 clear hE hcell
 obtain ⟨i0,hi,hz0,hz1,hz2⟩:=info_parts fnInfo
 go_enter Tryz.func119,Tryz.ntmps119
 go_wp2
 go_loopw [7,12] (fun out i wr=>∃ (k:Nat) (fs:List Value),i=.int .i64 k∧k≤l.length∧(∃ p c,out=.slice p fs.length c)∧Hid (EachS W out fs ((l.map (stmtT put)).take k) wr)) (fun _ i _=>l.length - (intOf i).toNat)
 case atStart=>exact ⟨0,[],rfl,Nat.zero_le _,⟨none,0,rfl⟩,hid (EachS.nil W _ (Below.refl _ _))⟩
 case round=>
  obtain ⟨k,fs,rfl,hk,⟨po,co,rfl⟩,HS⟩:=hrel
  by_cases hlt:k<l.length
  ·have hlt':(k:Int)<(l.length:Int):=by omega
   have hfl:=HS.out.lies.len
   have hfl2:fs.length≤2 * k:=by
    rw [hfl,List.length_take,List.length_map,Nat.min_eq_left hk]
    omega
   clear hfl
   rcases HC.out with hc | ⟨q,off,rfl,hq,hc⟩
   ·subst hc;simp at hlt
   obtain ⟨cs,hR,hcs⟩:=hc k hlt
   have hB:=HS.out.bel
   have hel:=HE.out _ (List.getElem_mem hlt)
   have hR0:=hid hR
   clear hR hc
   obtain ⟨xs,ls,rfl,hXR,hL⟩:=SR_iff.1 hR0.out
   obtain ⟨px,cx,rfl,_⟩:=hXR
   obtain ⟨pl,cl,rfl,_⟩:=hL
   have hRr:=SR.later hB _ _ hR0.out
   obtain ⟨x0,x1,x2,x3⟩:=rows4 hB hq hcs
   have HV:=hid (SR.later ((Below.refl wr.heap.size wr).alloc (Nat.le_refl _) (.cells #[.int .i64 l[k].op,.string (bs l[k].name),.slice px l[k].x.length cx,.slice pl l[k].l.length cl] 31)) _ _ hRr)
   have HEL:=hid hel
   clear hel hRr hcs
   have hT:((l.map (stmtT put)).take (k+1))=(l.map (stmtT put)).take k ++ [(stmtT put) l[k]]:=by
    have h1:(l.map (stmtT put)).take k ++ [(l.map (stmtT put))[k]'(by simpa using hlt)]=(l.map (stmtT put)).take (k+1):=List.take_append_getElem (by simpa using hlt)
    rw [← h1,List.getElem_map]
   have HT:=hid hT
   have HFL:=hid hfl2
   have hL:=hid hl
   clear hT hfl2
   generalize l[k]=y at *
   by_cases hk0:k=0
   ·have hkn:decide (0<k)=false:=by rw [hk0];simp
    have hkd:decide ((0:Int)<(k:Int))=false:=by rw [hk0];simp
    have HK0:=hid hk0
    clear hk0
    go_wp2_with (first
     | (go_at_call 120;refine (HEL.out _ _ _ (Nat.le_refl _) HV.out).mono ?_;rintro e W5 ⟨f,rfl,h1,h2⟩;obtain ⟨gf,lf,rfl,h3⟩:=seq_form h1;clear h1;have H2:=hid h2;have H3:=hid h3;clear h2 h3)
     | (at_builtin;refine wpList_append_lies _ rfl _ _ 121 rfl W.heap.size 79 i0 Value.nilFunc 1 8 fnSlice hi hz0 hz1 hz2 rfl (by decide) _ _ _ rfl (((HS.out.later ((Below.refl _ _).alloc (Nat.le_refl _) _)).later H2.out).later ((Below.refl _ _).alloc (Nat.le_refl _) _)).own ⟨W5.heap.size,0,none⟩ 1 1 [.func (.func gf) #[] lf] rfl rfl (fun j u hu=>World.news_of_block (World.alloc_heap_new W5 _) j u hu) (by simp [Value.oneCell']) (by decide) (by unfold maxLen;have:=HFL.out;have:=hL.out;omega) (by have:=HFL.out;have:=hL.out;omega) (by have:=((HS.out.later ((Below.refl _ _).alloc (Nat.le_refl _) _)).later H2.out).bel.size;simp;omega) _ rfl ?_;intro g' cap' w1 hown hgr hat hlt2;have HX:=hid hown;have HG:=hid hgr;have HA:=hid hat;clear hown hgr hat hlt2))
    refine ⟨⟨k+1,fs ++ [.func (.func gf) #[] lf],by go_num,hlt,⟨_,_,by rw [List.length_append];rfl⟩,hid ?_⟩,by simp [intOf];omega⟩
    rw [HT.out]
    exact ((HS.out.later ((Below.refl _ _).alloc (Nat.le_refl _) _)).later H2.out).app H3.out (by have:=hB.size;simp;omega) (fun r hr=>by have:=(HS.out.lt r hr).2;simp;omega) ((Below.refl _ _).alloc (Nat.le_refl _) _) HX.out HG.out HA.out
   ·have hkn:decide (0<k)=true:=by simp;omega
    have hkd:decide ((0:Int)<(k:Int))=true:=by simp;omega
    have HK0:=hid hk0
    clear hk0
    go_wp2_with (first
     | (go_at_call 120;refine (HEL.out _ _ _ (Nat.le_refl _) HV.out).mono ?_;rintro e W5 ⟨f,rfl,h1,h2⟩;obtain ⟨gf,lf,rfl,h3⟩:=seq_form h1;clear h1;have H2:=hid h2;have H3:=hid h3;clear h2 h3)
     | (at_builtin;refine wpList_append_lies _ rfl _ _ 121 rfl W.heap.size 79 i0 Value.nilFunc 1 8 fnSlice hi hz0 hz1 hz2 rfl (by decide) _ _ _ rfl (((HS.out.later ((Below.refl _ _).alloc (Nat.le_refl _) _)).later H2.out).later ((Below.refl _ _).alloc (Nat.le_refl _) _)).own ⟨W5.heap.size,0,none⟩ 1 1 [.func (.func gf) #[] lf] rfl rfl (fun j u hu=>World.news_of_block (World.alloc_heap_new W5 _) j u hu) (by simp [Value.oneCell']) (by decide) (by unfold maxLen;have:=HFL.out;have:=hL.out;omega) (by have:=HFL.out;have:=hL.out;omega) (by have:=((HS.out.later ((Below.refl _ _).alloc (Nat.le_refl _) _)).later H2.out).bel.size;simp;omega) _ rfl ?_;intro g' cap' w1 hown hgr hat hlt2;have HX:=hid hown;have HG:=hid hgr;have HA:=hid hat;clear hown hgr hat hlt2))
    refine ⟨⟨k+1,fs ++ [.func (.func gf) #[] lf],by go_num,hlt,⟨_,_,by rw [List.length_append];rfl⟩,hid ?_⟩,by simp [intOf];omega⟩
    rw [HT.out]
    exact ((HS.out.later ((Below.refl _ _).alloc (Nat.le_refl _) _)).later H2.out).app H3.out (by have:=hB.size;simp;omega) (fun r hr=>by have:=(HS.out.lt r hr).2;simp;omega) ((Below.refl _ _).alloc (Nat.le_refl _) _) HX.out HG.out HA.out
  ·have hkl:k=l.length:=by omega
   have hge':¬ ((k:Int)<(l.length:Int)):=by omega
   have hsq:=HS.out.seqs
   have hlen:((l.map (stmtT put)).take k).length≤1000000000:=by
    have h1:=HS.out.lies.len
    rw [List.length_take,List.length_map]
    omega
   have HSQ:=hid hsq
   have HKL:=hid hkl
   clear hsq hkl
   go_wp2_with (go_at_call 91;refine (row_any _ _ hlen wr W.heap.size HS.out.bel.size HSQ.out).mono ?_;rintro e W9 ⟨f,rfl,h1,h2⟩;have H1:=hid h1;have H2:=hid h2;clear h1 h2)
   go_ret
   refine ⟨_,rfl,?_,HS.out.bel.trans (H2.out.mono HS.out.bel.size)⟩
   have:=H1.out.later hlo (KeptL.refl _ _)
   rw [HKL.out,List.take_of_length_le (by simp)] at this
   exact this
def ItemOK (y:It):Prop:=∀ (W:World) (lo:Nat) (cs:List Value),lo≤W.heap.size→IR W y cs→Calls Tryz.prog 169 #[.agg cs.toArray] W (MkPost lo W (itemT y))
theorem eachI_any (v:Value) (l:List It) (hl:l.length≤1000000) (W:World) (lo:Nat) (hlo:lo≤W.heap.size) (hR:IsR W v l) (hE:∀ y ∈ l,ItemOK y) :
  Calls Tryz.prog 168 #[v,.string { data:=#[] },.func (.func 169) #[] #[]] W (MkPost lo W ((l.map itemT).flatten)):=by
 obtain ⟨p,cap,rfl,hcap,hcell⟩:=hR
 have HE:=hid hE
 have HC:=hid hcell
 clear hE hcell
 obtain ⟨i0,hi,hz0,hz1,hz2⟩:=info_parts fnInfo
 go_enter Tryz.func168,Tryz.ntmps168
 go_wp2
 go_loopw [7,12] (fun out i wr=>∃ (k:Nat) (fs:List Value),i=.int .i64 k∧k≤l.length∧(∃ p c,out=.slice p fs.length c)∧Hid (EachS W out fs ((l.map itemT).take k) wr)) (fun _ i _=>l.length - (intOf i).toNat)
 case atStart=>exact ⟨0,[],rfl,Nat.zero_le _,⟨none,0,rfl⟩,hid (EachS.nil W _ (Below.refl _ _))⟩
 case round=>
  obtain ⟨k,fs,rfl,hk,⟨po,co,rfl⟩,HS⟩:=hrel
  by_cases hlt:k<l.length
  ·have hlt':(k:Int)<(l.length:Int):=by omega
   have hfl:=HS.out.lies.len
   have hfl2:fs.length≤2 * k:=by
    rw [hfl,List.length_take,List.length_map,Nat.min_eq_left hk]
    omega
   clear hfl
   rcases HC.out with hc | ⟨q,off,rfl,hq,hc⟩
   ·subst hc;simp at hlt
   obtain ⟨cs,hR,hcs⟩:=hc k hlt
   have hB:=HS.out.bel
   have hel:=HE.out _ (List.getElem_mem hlt)
   have hR0:=hid hR
   clear hR hc
   obtain ⟨xs,ss,ls,es,vp,vb,rfl,h1,h2,h3,h4,h5,h6⟩:=IR_iff.1 hR0.out
   obtain ⟨p1,c1,rfl,_⟩:=h1
   obtain ⟨p2,c2,rfl,_⟩:=h2
   obtain ⟨p3,c3,rfl,_⟩:=h3
   obtain ⟨p4,c4,rfl,_⟩:=h4
   obtain ⟨p5,c5,rfl,_⟩:=h5
   obtain ⟨p6,c6,rfl,_⟩:=h6
   have hRr:=IR.later hB _ _ hR0.out
   obtain ⟨x0,x1,x2,x3,x4,x5,x6,x7,x8⟩:=rows9 hB hq hcs
   have HV:=hid (IR.later ((Below.refl wr.heap.size wr).alloc (Nat.le_refl _) (.cells #[.int .i64 l[k].op,.string (bs l[k].name),.string (bs l[k].of),.slice p1 l[k].x.length c1,.slice p2 l[k].s.length c2,.slice p5 l[k].l.length c5,.slice p6 l[k].e.length c6,.slice p3 l[k].ps.length c3,.slice p4 l[k].bs.length c4] 133)) _ _ hRr)
   have HEL:=hid hel
   clear hel hRr hcs
   have hT:((l.map itemT).take (k+1))=(l.map itemT).take k ++ [itemT l[k]]:=by
    have h1:(l.map itemT).take k ++ [(l.map itemT)[k]'(by simpa using hlt)]=(l.map itemT).take (k+1):=List.take_append_getElem (by simpa using hlt)
    rw [← h1,List.getElem_map]
   have HT:=hid hT
   have HFL:=hid hfl2
   have hL:=hid hl
   clear hT hfl2
   generalize l[k]=y at *
   by_cases hk0:k=0
   ·have hkn:decide (0<k)=false:=by rw [hk0];simp
    have hkd:decide ((0:Int)<(k:Int))=false:=by rw [hk0];simp
    have HK0:=hid hk0
    clear hk0
    go_wp2_with (first
     | (go_at_call 169;refine (HEL.out _ _ _ (Nat.le_refl _) HV.out).mono ?_;rintro e W5 ⟨f,rfl,h1,h2⟩;obtain ⟨gf,lf,rfl,h3⟩:=seq_form h1;clear h1;have H2:=hid h2;have H3:=hid h3;clear h2 h3)
     | (at_builtin;refine wpList_append_lies _ rfl _ _ 121 rfl W.heap.size 79 i0 Value.nilFunc 1 8 fnSlice hi hz0 hz1 hz2 rfl (by decide) _ _ _ rfl (((HS.out.later ((Below.refl _ _).alloc (Nat.le_refl _) _)).later H2.out).later ((Below.refl _ _).alloc (Nat.le_refl _) _)).own ⟨W5.heap.size,0,none⟩ 1 1 [.func (.func gf) #[] lf] rfl rfl (fun j u hu=>World.news_of_block (World.alloc_heap_new W5 _) j u hu) (by simp [Value.oneCell']) (by decide) (by unfold maxLen;have:=HFL.out;have:=hL.out;omega) (by have:=HFL.out;have:=hL.out;omega) (by have:=((HS.out.later ((Below.refl _ _).alloc (Nat.le_refl _) _)).later H2.out).bel.size;simp;omega) _ rfl ?_;intro g' cap' w1 hown hgr hat hlt2;have HX:=hid hown;have HG:=hid hgr;have HA:=hid hat;clear hown hgr hat hlt2))
    refine ⟨⟨k+1,fs ++ [.func (.func gf) #[] lf],by go_num,hlt,⟨_,_,by rw [List.length_append];rfl⟩,hid ?_⟩,by simp [intOf];omega⟩
    rw [HT.out]
    exact ((HS.out.later ((Below.refl _ _).alloc (Nat.le_refl _) _)).later H2.out).app H3.out (by have:=hB.size;simp;omega) (fun r hr=>by have:=(HS.out.lt r hr).2;simp;omega) ((Below.refl _ _).alloc (Nat.le_refl _) _) HX.out HG.out HA.out
   ·have hkn:decide (0<k)=true:=by simp;omega
    have hkd:decide ((0:Int)<(k:Int))=true:=by simp;omega
    have HK0:=hid hk0
    clear hk0
    go_wp2_with (first
     | (go_at_call 169;refine (HEL.out _ _ _ (Nat.le_refl _) HV.out).mono ?_;rintro e W5 ⟨f,rfl,h1,h2⟩;obtain ⟨gf,lf,rfl,h3⟩:=seq_form h1;clear h1;have H2:=hid h2;have H3:=hid h3;clear h2 h3)
     | (at_builtin;refine wpList_append_lies _ rfl _ _ 121 rfl W.heap.size 79 i0 Value.nilFunc 1 8 fnSlice hi hz0 hz1 hz2 rfl (by decide) _ _ _ rfl (((HS.out.later ((Below.refl _ _).alloc (Nat.le_refl _) _)).later H2.out).later ((Below.refl _ _).alloc (Nat.le_refl _) _)).own ⟨W5.heap.size,0,none⟩ 1 1 [.func (.func gf) #[] lf] rfl rfl (fun j u hu=>World.news_of_block (World.alloc_heap_new W5 _) j u hu) (by simp [Value.oneCell']) (by decide) (by unfold maxLen;have:=HFL.out;have:=hL.out;omega) (by have:=HFL.out;have:=hL.out;omega) (by have:=((HS.out.later ((Below.refl _ _).alloc (Nat.le_refl _) _)).later H2.out).bel.size;simp;omega) _ rfl ?_;intro g' cap' w1 hown hgr hat hlt2;have HX:=hid hown;have HG:=hid hgr;have HA:=hid hat;clear hown hgr hat hlt2))
    refine ⟨⟨k+1,fs ++ [.func (.func gf) #[] lf],by go_num,hlt,⟨_,_,by rw [List.length_append];rfl⟩,hid ?_⟩,by simp [intOf];omega⟩
    rw [HT.out]
    exact ((HS.out.later ((Below.refl _ _).alloc (Nat.le_refl _) _)).later H2.out).app H3.out (by have:=hB.size;simp;omega) (fun r hr=>by have:=(HS.out.lt r hr).2;simp;omega) ((Below.refl _ _).alloc (Nat.le_refl _) _) HX.out HG.out HA.out
  ·have hkl:k=l.length:=by omega
   have hge':¬ ((k:Int)<(l.length:Int)):=by omega
   have hsq:=HS.out.seqs
   have hlen:((l.map itemT).take k).length≤1000000000:=by
    have h1:=HS.out.lies.len
    rw [List.length_take,List.length_map]
    omega
   have HSQ:=hid hsq
   have HKL:=hid hkl
   clear hsq hkl
   go_wp2_with (go_at_call 91;refine (row_any _ _ hlen wr W.heap.size HS.out.bel.size HSQ.out).mono ?_;rintro e W9 ⟨f,rfl,h1,h2⟩;have H1:=hid h1;have H2:=hid h2;clear h1 h2)
   go_ret
   refine ⟨_,rfl,?_,HS.out.bel.trans (H2.out.mono HS.out.bel.size)⟩
   have:=H1.out.later hlo (KeptL.refl _ _)
   rw [HKL.out,List.take_of_length_le (by simp)] at this
   exact this
def ModuleOK (y:Md):Prop:=∀ (W:World) (lo:Nat) (cs:List Value),lo≤W.heap.size→MR W y cs→Calls Tryz.prog 48 #[.agg cs.toArray] W (MkPost lo W (moduleT y))
theorem eachM_any (v:Value) (l:List Md) (hl:l.length≤1000000) (W:World) (lo:Nat) (hlo:lo≤W.heap.size) (hR:MsR W v l) (hE:∀ y ∈ l,ModuleOK y) :
  Calls Tryz.prog 47 #[v,.string { data:=#[] },.func (.func 48) #[] #[]] W (MkPost lo W ((l.map moduleT).flatten)):=by
 obtain ⟨p,cap,rfl,hcap,hcell⟩:=hR
 have HE:=hid hE
 have HC:=hid hcell
 clear hE hcell
 obtain ⟨i0,hi,hz0,hz1,hz2⟩:=info_parts fnInfo
 go_enter Tryz.func47,Tryz.ntmps47
 go_wp2
 go_loopw [7,12] (fun out i wr=>∃ (k:Nat) (fs:List Value),i=.int .i64 k∧k≤l.length∧(∃ p c,out=.slice p fs.length c)∧Hid (EachS W out fs ((l.map moduleT).take k) wr)) (fun _ i _=>l.length - (intOf i).toNat)
 case atStart=>exact ⟨0,[],rfl,Nat.zero_le _,⟨none,0,rfl⟩,hid (EachS.nil W _ (Below.refl _ _))⟩
 case round=>
  obtain ⟨k,fs,rfl,hk,⟨po,co,rfl⟩,HS⟩:=hrel
  by_cases hlt:k<l.length
  ·have hlt':(k:Int)<(l.length:Int):=by omega
   have hfl:=HS.out.lies.len
   have hfl2:fs.length≤2 * k:=by
    rw [hfl,List.length_take,List.length_map,Nat.min_eq_left hk]
    omega
   clear hfl
   rcases HC.out with hc | ⟨q,off,rfl,hq,hc⟩
   ·subst hc;simp at hlt
   obtain ⟨cs,hR,hcs⟩:=hc k hlt
   have hB:=HS.out.bel
   have hel:=HE.out _ (List.getElem_mem hlt)
   have hR0:=hid hR
   clear hR hc
   obtain ⟨vp,vt,vi,rfl,h1,h2,h3⟩:=hR0.out
   obtain ⟨p1,c1,rfl,_⟩:=h1
   obtain ⟨p2,c2,rfl,_⟩:=h2
   obtain ⟨p3,c3,rfl,_⟩:=h3
   have hRr:=MR.later hB _ _ hR0.out
   obtain ⟨x0,x1,x2,x3⟩:=rows4 hB hq hcs
   have HV:=hid (MR.later ((Below.refl wr.heap.size wr).alloc (Nat.le_refl _) (.cells #[.string (bs l[k].name),.slice p1 l[k].ps.length c1,.slice p2 l[k].pts.length c2,.slice p3 l[k].l.length c3] 53)) _ _ hRr)
   have HEL:=hid hel
   clear hel hRr hcs
   have hT:((l.map moduleT).take (k+1))=(l.map moduleT).take k ++ [moduleT l[k]]:=by
    have h1:(l.map moduleT).take k ++ [(l.map moduleT)[k]'(by simpa using hlt)]=(l.map moduleT).take (k+1):=List.take_append_getElem (by simpa using hlt)
    rw [← h1,List.getElem_map]
   have HT:=hid hT
   have HFL:=hid hfl2
   have hL:=hid hl
   clear hT hfl2
   generalize l[k]=y at *
   by_cases hk0:k=0
   ·have hkn:decide (0<k)=false:=by rw [hk0];simp
    have hkd:decide ((0:Int)<(k:Int))=false:=by rw [hk0];simp
    have HK0:=hid hk0
    clear hk0
    go_wp2_with (first
     | (go_at_call 48;refine (HEL.out _ _ _ (Nat.le_refl _) HV.out).mono ?_;rintro e W5 ⟨f,rfl,h1,h2⟩;obtain ⟨gf,lf,rfl,h3⟩:=seq_form h1;clear h1;have H2:=hid h2;have H3:=hid h3;clear h2 h3)
     | (at_builtin;refine wpList_append_lies _ rfl _ _ 121 rfl W.heap.size 79 i0 Value.nilFunc 1 8 fnSlice hi hz0 hz1 hz2 rfl (by decide) _ _ _ rfl (((HS.out.later ((Below.refl _ _).alloc (Nat.le_refl _) _)).later H2.out).later ((Below.refl _ _).alloc (Nat.le_refl _) _)).own ⟨W5.heap.size,0,none⟩ 1 1 [.func (.func gf) #[] lf] rfl rfl (fun j u hu=>World.news_of_block (World.alloc_heap_new W5 _) j u hu) (by simp [Value.oneCell']) (by decide) (by unfold maxLen;have:=HFL.out;have:=hL.out;omega) (by have:=HFL.out;have:=hL.out;omega) (by have:=((HS.out.later ((Below.refl _ _).alloc (Nat.le_refl _) _)).later H2.out).bel.size;simp;omega) _ rfl ?_;intro g' cap' w1 hown hgr hat hlt2;have HX:=hid hown;have HG:=hid hgr;have HA:=hid hat;clear hown hgr hat hlt2))
    refine ⟨⟨k+1,fs ++ [.func (.func gf) #[] lf],by go_num,hlt,⟨_,_,by rw [List.length_append];rfl⟩,hid ?_⟩,by simp [intOf];omega⟩
    rw [HT.out]
    exact ((HS.out.later ((Below.refl _ _).alloc (Nat.le_refl _) _)).later H2.out).app H3.out (by have:=hB.size;simp;omega) (fun r hr=>by have:=(HS.out.lt r hr).2;simp;omega) ((Below.refl _ _).alloc (Nat.le_refl _) _) HX.out HG.out HA.out
   ·have hkn:decide (0<k)=true:=by simp;omega
    have hkd:decide ((0:Int)<(k:Int))=true:=by simp;omega
    have HK0:=hid hk0
    clear hk0
    go_wp2_with (first
     | (go_at_call 48;refine (HEL.out _ _ _ (Nat.le_refl _) HV.out).mono ?_;rintro e W5 ⟨f,rfl,h1,h2⟩;obtain ⟨gf,lf,rfl,h3⟩:=seq_form h1;clear h1;have H2:=hid h2;have H3:=hid h3;clear h2 h3)
     | (at_builtin;refine wpList_append_lies _ rfl _ _ 121 rfl W.heap.size 79 i0 Value.nilFunc 1 8 fnSlice hi hz0 hz1 hz2 rfl (by decide) _ _ _ rfl (((HS.out.later ((Below.refl _ _).alloc (Nat.le_refl _) _)).later H2.out).later ((Below.refl _ _).alloc (Nat.le_refl _) _)).own ⟨W5.heap.size,0,none⟩ 1 1 [.func (.func gf) #[] lf] rfl rfl (fun j u hu=>World.news_of_block (World.alloc_heap_new W5 _) j u hu) (by simp [Value.oneCell']) (by decide) (by unfold maxLen;have:=HFL.out;have:=hL.out;omega) (by have:=HFL.out;have:=hL.out;omega) (by have:=((HS.out.later ((Below.refl _ _).alloc (Nat.le_refl _) _)).later H2.out).bel.size;simp;omega) _ rfl ?_;intro g' cap' w1 hown hgr hat hlt2;have HX:=hid hown;have HG:=hid hgr;have HA:=hid hat;clear hown hgr hat hlt2))
    refine ⟨⟨k+1,fs ++ [.func (.func gf) #[] lf],by go_num,hlt,⟨_,_,by rw [List.length_append];rfl⟩,hid ?_⟩,by simp [intOf];omega⟩
    rw [HT.out]
    exact ((HS.out.later ((Below.refl _ _).alloc (Nat.le_refl _) _)).later H2.out).app H3.out (by have:=hB.size;simp;omega) (fun r hr=>by have:=(HS.out.lt r hr).2;simp;omega) ((Below.refl _ _).alloc (Nat.le_refl _) _) HX.out HG.out HA.out
  ·have hkl:k=l.length:=by omega
   have hge':¬ ((k:Int)<(l.length:Int)):=by omega
   have hsq:=HS.out.seqs
   have hlen:((l.map moduleT).take k).length≤1000000000:=by
    have h1:=HS.out.lies.len
    rw [List.length_take,List.length_map]
    omega
   have HSQ:=hid hsq
   have HKL:=hid hkl
   clear hsq hkl
   go_wp2_with (go_at_call 91;refine (row_any _ _ hlen wr W.heap.size HS.out.bel.size HSQ.out).mono ?_;rintro e W9 ⟨f,rfl,h1,h2⟩;have H1:=hid h1;have H2:=hid h2;clear h1 h2)
   go_ret
   refine ⟨_,rfl,?_,HS.out.bel.trans (H2.out.mono HS.out.bel.size)⟩
   have:=H1.out.later hlo (KeptL.refl _ _)
   rw [HKL.out,List.take_of_length_le (by simp)] at this
   exact this
end Go.Proofs.YtlcfpdmicpggbaaGreatDoor
