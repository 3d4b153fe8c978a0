/- Texts of the seat, merged. -/
import Derived.Test.YtlcfpdmicpggbaaGreatDoorD3
set_option linter.unusedVariables false
set_option linter.unusedSimpArgs false
set_option maxRecDepth 100000
set_option maxHeartbeats 16000000
namespace Go.Proofs.YtlcfpdmicpggbaaGreatDoor
open Go.Lib (hid)
open Go.RowKit Go.Proofs.Spl Go.Proofs.Scn Go.Shelf
attribute [local go_sem] Oper.semAt_some
theorem wpListIn_append_lies {F:Fence} {n:Nat} {P:Program} (w:World) {ops:Array Oper} {rest:List Oper} {o:Oper} {a:Act} {Q:Exit→Act→World→Prop}
  (hg:o.guard=none) (s x:Operand) (t:TypeId) (hop:o.op=Op.call { callee:=Callee.builtin Builtin.append,args:=#[s,x],argTypes:=#[t,t] })
  (base:Nat) (e:TypeId) (i:TypeInfo) (z:Value) (size bytes:Nat) (h1:P.underlying t=some (.slice e)) (h2:P.info? e=some i) (h3:i.zero=some z) (h4:i.size=size) (h5:i.bytes=bytes) (h6:z.cells.size=size) (h7:0<size)
  (v:Value) (k:Nat) (xs:List Value) (hs:a.eval s=v) (hown:w.ownsRow base e size v k xs) (ad:Addr) (m c:Nat) (news:List Value) (hx:a.eval x=.slice (some ad) m c) (hn:news.length=m * size)
  (hc:∀ j u,news[j]?=some u→w.cell? (ad.add j)=some u) (h1c:∀ u ∈ news,u.oneCell'=true) (hm:0<m) (b1:k+m≤maxLen) (b2:(k+m) * bytes≤140737488355328) (b3:base≤w.heap.size)
  (hK:∀ g cap w',w'.ownsRow base e size (.slice (some ⟨g,0,none⟩) (k+m) cap) (k+m) (xs ++ news)→w.grownBy w' v.ownBlock→(v.ownBlock=some g∨g=w.heap.size)→g<w'.heap.size→wpListIn F n P ops Q rest (a.put o.dst (.slice (some ⟨g,0,none⟩) (k+m) cap)) w') :
  wpListIn F n P ops Q (o :: rest) a w:=by
 refine wpListIn_plain hg fun K hK'=>?_
 obtain ⟨g,cap,w',hrun,r1,r2,r3,r4⟩:=run_append_lies (P:=P) w t o.type base e i z size bytes h1 h2 h3 h4 h5 h6 h7 v k xs hown ad m c news hn hc h1c hm b1 b2 b3 _ rfl
 unfold Oper.wpIn
 refine ⟨?_,?_⟩
 ·simp [Oper.about,hop,resolve,Target.leads,Sem.run_pure]
 ·rw [Oper.semAt_plain F _ _ (by rw [hop];intro c hc';cases hc')]
  simp [execOp,hop,resolve,invoke,builtin,hs,hx,hrun,Result.andThen]
  exact hK' _ _ (hK g cap w' r1 r2 r3 r4)
def tkC (t:Tok):List Value:=[.int .i64 t.k,.string (bs t.s),.int .i64 t.w,.int .u64 t.v,.int .i64 t.p]
def tksC (ts:List Tok):List Value:=ts.flatMap tkC
def TokRow (B:Nat) (w:World) (v:Value) (ts:List Tok):Prop:=w.ownsRow B 55 5 v ts.length (tksC ts)
theorem tkInfo:(Tryz.prog.info? 55).map (fun i=>(i.zero,i.size,i.bytes))=some (some (.agg #[.int .i64 0,.string ⟨#[]⟩,.int .i64 0,.int .u64 0,.int .i64 0]),5,48):=by kernel_rfl
theorem tkSlice:Tryz.prog.underlying 36=some (.slice 55):=by kernel_rfl
theorem TokRow.kept {B:Nat} {w w':World} {v:Value} {ts:List Tok} {row:Option Nat} (h:TokRow B w v ts) (hg:w.grownBy w' row) (hr:∀ q,v.ownBlock=some q→some q ≠ row):TokRow B w' v ts:=by
 refine ⟨h.1,?_⟩
 rcases h.2 with h0 | ⟨g,cap,cur,hv,hB,hgc,h1⟩
 ·exact .inl h0
 ·exact .inr ⟨g,cap,cur,hv,hB,(hg.block g (Array.getElem?_eq_some_iff.1 hgc).1 (hr g (by rw [hv];rfl))).trans hgc,h1⟩
theorem TokRow.lt {B:Nat} {w:World} {v:Value} {ts:List Tok} (h:TokRow B w v ts):∀ q,v.ownBlock=some q→B≤q∧q<w.heap.size:=by
 intro q hq
 rcases h.2 with ⟨rfl,_⟩ | ⟨g,cap,cur,rfl,hB,hgc,h1⟩
 ·cases hq
 ·simp [Value.ownBlock] at hq;subst hq;exact ⟨hB,(Array.getElem?_eq_some_iff.1 hgc).1⟩
def ColI (w:World) (B:Nat) (M:Nat→Prop) (s:List Tok) (V:World):Prop:=
 (∃ v,Boxed V B 36 v∧TokRow w.heap.size V v s∧(∀ q,v.ownBlock=some q → ¬ M q)∧B<V.heap.size) ∧ ¬ M B∧(∀ r,M r→w.heap.size≤r∧r<V.heap.size)∧Below w.heap.size w V
theorem colI_abides (w:World) (B:Nat):AbidesM (ColI w B):=by
 rintro M M' s V V' row ⟨⟨v,h1,h2,h3,h4⟩,h5,h6,h7⟩ hg hr hM
 have hs:=hg.size
 have hsz:=h7.size
 refine ⟨⟨v,h1.kept hg (fun e=>h5 (hr _ e.symm)),h2.kept hg (fun q hq e=>h3 q hq (hr _ e.symm)),fun q hq h=>?_,by omega⟩,fun h=>?_,fun r h=>?_,?_⟩
 ·rcases hM q h with h | h
  ·exact h3 q hq h
  ·have:=h2.lt q hq;omega
 ·rcases hM B h with h | h
  ·exact h5 h
  ·omega
 ·rcases hM r h with h | h
  ·have:=h6 r h;omega
  ·omega
 ·exact h7.grown hg hsz (fun k e=>(h6 k (hr k e)).1)
theorem appendSeq_any (f:Value) (ts:List Tok) (hlen:ts.length≤1000000) (lo:Nat) (w:World) (hs:Seq lo w f ts) :
  Calls Tryz.prog 89 #[.slice none 0 0,f] w fun e W'=>∃ v,e=.returned v∧TokRow w.heap.size W' v ts∧Below w.heap.size w W':=by
 obtain ⟨g,lb,rfl,eg,hseq⟩:=hs
 obtain ⟨i0,hi,hz0,hz1,hz2⟩:=info_parts tkInfo
 refine (callsIn_wide (n:=6)).1 ?_
 refine callsIn_of_wp_marks Tryz.func89 rfl trivial ?_ rfl
 simp only [Tryz.ntmps89,List.size_toArray,List.length_cons,List.length_nil,Nat.reduceAdd,Nat.reduceSub,Array.replicate_succ,Array.replicate_zero,List.push_toArray,List.append_toArray,List.nil_append,List.cons_append]
 gi_wp2
 have hb0:Boxed (w.alloc (.cells #[.slice none 0 0] 36)) w.heap.size 36 (.slice none 0 0):=Boxed.new _ _ _
 have hbl0:Below w.heap.size w (w.alloc (.cells #[.slice none 0 0] 36)):=(Below.refl _ _).alloc (Nat.le_refl _) _
 refine wpIn_rangeFunc_m (p:=7) (by omega) (gf:=g) (lb:=lb) rfl eg (enc:=encT) (xs:=ts) (w0:=w) hseq rfl (by omega) (ColI w w.heap.size) (colI_abides w _) (fun M s V h=>KeptL.of_below h.2.2.2)
  (fun _=>False) (fun r h=>h.elim) ?i0
  (fun M pre x a' V=>ColI w w.heap.size M pre V∧(∃ r,ts=pre ++ x :: r)∧∃ Bx,TokBx V Bx x ∧ ¬ M Bx ∧
   ∃ y,a'={ tmps:=#[.slice none 0 0,.func (.func g) #[] lb,.pointer (some ⟨w.heap.size,0,none⟩),undef,.slice none 0 0,.pointer (some ⟨Bx,0,none⟩),.func (.func g) #[] lb,y,undef,undef,undef,undef,undef],defers:=[] })
  ?hA ?assign ?body ?done
 case i0=>exact ⟨⟨_,hb0,World.ownsRow_nil _ _ _ _,(fun q h=>by cases h),by simp⟩,(fun h=>h),(fun r h=>h.elim),hbl0⟩
 case hA=>
  rintro M pre x a' V r o ⟨hi,hx,Bx,hbx,hn,y,e⟩ hM
  exact ⟨(colI_abides w _).put o hi hM,hx,Bx,(World.putObj_heap_other (fun e=>hn (by rw [e];exact hM))).trans hbx,hn,y,e⟩
 case assign=>
  intro l' M pre x V K hi hx hML' hK
  simp only [encT]
  gi_wp2
  refine hK _ _ ⟨(colI_abides w _) M M pre V _ none hi (World.grownBy_alloc _ _ _) (fun r e=>by cases e) (fun r h=>.inl h),hx,V.heap.size,TokBx.new V x,fun h=>absurd (hML' _ h) (Nat.lt_irrefl _),_,rfl⟩ (Keeps.of (World.grownBy_alloc _ _ none) (fun r e=>by cases e))
 case body=>
  rintro l' M pre x a' V ⟨⟨⟨v,i1,i2,i3,i4⟩,i5,i6,i7⟩,⟨r,hx⟩,Bx,hbx,hnb,y,rfl⟩
  obtain ⟨d0,d1,d2,d3,d4⟩:=hbx.cells
  have d5:=i1.cell
  have d6:=i1.frozen
  have hl:pre.length<ts.length:=by rw [hx];simp
  have hsz:=i7.size
  have HO:=hid i2
  have HT:=hid hbx
  have HI1:=hid i1
  have HI3:=hid i3
  clear i2 i3
  have hL:=hid hlen
  gi_wp2_with (gi_at_builtin;refine wpListIn_append_lies _ rfl _ _ 36 rfl w.heap.size 55 i0 (.agg #[.int .i64 0,.string ⟨#[]⟩,.int .i64 0,.int .u64 0,.int .i64 0]) 5 48 tkSlice hi hz0 hz1 hz2 rfl (by decide) _ _ _ rfl (World.ownsRow.alloc HO.out _) ⟨V.heap.size,0,none⟩ 1 1 (tkC x) rfl rfl (fun j u hu=>World.news_of_block (TokBx.new V x) j u hu) (by simp [tkC,Value.oneCell']) (by decide) (by have:=hL.out;unfold maxLen;omega) (by have:=hL.out;omega) (by simp;omega) ?_;intro g' cap' w1 hown' hgrow hat hlt;have hB1:=(HI1.out.alloc _).kept hgrow (HI1.out.not_row (by decide) HO.out);have e5:=hB1.cell;have e6:=hB1.frozen;have HX:=hid hown';have HG:=hid hgrow;have HA:=hid hat;clear hown' hgrow hat)
  have hne:some w.heap.size ≠ some g':=hB1.not_row (by decide) HX.out
  have hMg:¬ M g':=by
   intro hm
   rcases HA.out with h | h
   ·exact HI3.out g' h hm
   ·have:=(i6 g' hm).2
    simp at h
    omega
  have hG0:V.grownBy (V.alloc (.cells #[.int .i64 x.k,.string (bs x.s),.int .i64 x.w,.int .u64 x.v,.int .i64 x.p] 55)) none:=World.grownBy_alloc V _ none
  have hs0:=hG0.size
  have hs1:=HG.out.size
  have hgs:=grownBy_setCell' w1 w.heap.size (.slice (some ⟨g',0,none⟩) (pre.length+1) cap')
  have hs2:=hgs.size
  have hb1:Below w.heap.size w w1:=(i7.grown hG0 hsz (fun k e=>by cases e)).grown HG.out (by omega) (fun k e=>(HO.out.lt k e).1)
  refine ⟨⟨⟨_,hB1.set _,?_,?_,?_⟩,i5,fun r h=>?_,hb1.grown hgs hb1.size (fun k e=>by cases e;exact Nat.le_refl _)⟩,?_⟩
  ·have:=World.ownsRow.kept HX.out hgs (.inr (fun e=>hne e.symm))
   unfold TokRow tksC
   rw [List.length_append,List.flatMap_append,List.flatMap_singleton]
   exact this
  ·intro q hq
   cases hq
   exact hMg
  ·omega
  ·have:=i6 r h;omega
  ·refine ((Keeps.of hG0 (fun r e=>by cases e)).trans (Keeps.of HG.out (fun r e h=>HI3.out r e h))).trans (Keeps.of hgs (fun r e h=>?_))
   cases e
   exact i5 h
 case done=>
  rintro D M V ⟨⟨v,i1,i2,i3,i4⟩,i5,i6,i7⟩ hD hMD hDz _
  have d5:=i1.cell
  gi_wp2
  refine ⟨by simp,.inl ⟨_,_,rfl,run_takeDeferred hD,?_⟩⟩
  refine ⟨_,results_tmp rfl _ _ _,_,rfl,?_,?_⟩
  ·exact i2.kept (grownBy_putObj' V D _) (fun q hq e=>i3 q hq (by cases e;exact hMD))
  ·exact i7.grown (grownBy_putObj' V D _) i7.size (fun k e=>by cases e;exact (i6 _ hMD).1)
end Go.Proofs.YtlcfpdmicpggbaaGreatDoor
namespace Go.Proofs.YtlcfpdmicpggbaaGreatDoor
open Go.Lib (hid)
open Go.RowKit Go.Proofs.Spl Go.Proofs.Scn Go.Shelf
def badN (k:Nat) (c:UInt8):Bool:=!isLetter c && (k == 0 || !isDigit c)
theorem name_bad {s:Ln} {k:Nat} (h:k<s.length) (hb:badN k s[k]=true):isName s=false:=by
 unfold badN at hb
 rw [Bool.and_eq_true,Bool.not_eq_true'] at hb
 unfold isName
 rw [Bool.eq_false_iff]
 intro e
 simp only [Bool.and_eq_true] at e
 obtain ⟨⟨⟨⟨e1,e2⟩,e3⟩,e4⟩,e5⟩:=e
 rcases Nat.eq_zero_or_pos k with h0 | h0
 ·subst h0
  match s,h with
  | c :: r,_=>simp at hb e3;rw [hb] at e3;cases e3
 ·have h1:=List.all_eq_true.1 e4 s[k] (List.getElem_mem h)
  unfold isPart at h1
  have h2:(k == 0)=false:=by simp;omega
  rw [hb.1,Bool.false_or] at h1
  rw [h2,Bool.false_or,h1] at hb
  cases hb.2
theorem name_good {s:Ln} (h:∀ k (h:k<s.length),badN k s[k]=false):isName s=(decide (0<s.length) && decide (s.length≤64) && !isWord s):=by
 unfold isName
 match s with
 | []=>rfl
 | c :: r=>
  have h0:=h 0 (by simp)
  have hl:isLetter c=true:=by
   unfold badN at h0
   simpa using h0
  have hall:(c :: r).all isPart=true:=by
   rw [List.all_eq_true]
   intro x hx
   obtain ⟨k,hk,rfl⟩:=List.getElem_of_mem hx
   have:=h k hk
   unfold badN at this
   unfold isPart
   rw [Bool.and_eq_false_iff] at this
   rcases this with h1 | h1
   ·rw [Bool.not_eq_false'] at h1
    rw [h1,Bool.true_or]
   ·rw [Bool.or_eq_false_iff,Bool.not_eq_false'] at h1
    rw [h1.2,Bool.or_true]
  simp [hl,hall]
theorem bad_of {c:UInt8} {k:Nat}:badN k c=(((c.toNat:Int) != 95) && (decide (bits .or .u8 c.toNat 32<97) || decide (122<bits .or .u8 c.toNat 32)) && (decide (k=0) || decide ((c.toNat:Int)<48) || decide (57<(c.toNat:Int)))):=by
 unfold badN
 rw [low_letter c]
 unfold isDigit
 generalize bits .or .u8 c.toNat 32=b
 rw [Bool.eq_iff_iff]
 simp only [Bool.and_eq_true,Bool.or_eq_true,Bool.not_eq_true',Bool.or_eq_false_iff,Bool.and_eq_false_iff,decide_eq_true_eq,decide_eq_false_iff_not,bne_iff_ne,beq_iff_eq]
 omega
theorem aname_any (s:Ln) (hs:s.length≤140737488355328) (W:World) (hB:Base W):Calls Tryz.prog 158 #[.string (bs s)] W fun e W'=>e=.returned (.bool (isName s))∧Below W.heap.size W W':=by
 have hconv:=conv_run (bs s)
 have HB:=hid hB
 have hbw:=Joins.below_bytesWorld W.heap.size W 5 (bs s) (Nat.le_refl _)
 have HBW:=hid hbw
 have hby:=conv_bytes W (bs s)
 have HBY:=hid hby
 have HS:=hid hs
 clear hB hbw hby
 go_enter Tryz.func158,Tryz.ntmps158
 go_wp2_with fail
 have hsz:((bs s).size:Int)=(s.length:Int):=rfl
 generalize hW1:Lib.bytesWorld W 5 (bs s)=W1 at *
 go_loop [8] (fun i=>∃ k:Nat,i=.int .i64 k∧k≤s.length∧Hid (∀ j (h:j<s.length),j<k→badN j s[j]=false)) (fun i=>s.length - (intOf i).toNat)
 case atStart=>exact ⟨0,rfl,Nat.zero_le _,hid (fun j h hj=>by omega)⟩
 case round=>
  obtain ⟨k,rfl,hk,HN⟩:=hrel
  by_cases hlt:k<s.length
  ·have hlt':(k:Int)<(s.length:Int):=by omega
   have hc0:W1.cell? ⟨W.heap.size,k,none⟩=some (.int .u8 s[k].toNat):=by
    rcases HBY.out 0 with h | ⟨b,off,c,h1,h2,h3⟩
    ·have h4:=h.1
     rw [size_bs] at h4
     omega
    ·simp only [Value.slice.injEq,Option.some.injEq,Addr.mk.injEq] at h1
     obtain ⟨⟨rfl,rfl,_⟩,_⟩:=h1
     have:=h3 k hlt
     rw [Nat.zero_add] at this
     exact this
   have HBD:=hid (bad_of (c:=s[k]) (k:=k))
   have HBAD:=hid (name_bad hlt)
   have HNX:=hid (fun (hb:badN k s[k]=false)=>show ∀ j (h:j<s.length),j<k+1→badN j s[j]=false from fun j h hj=>by
    rcases Nat.lt_or_ge j k with h1 | h1
    ·exact HN.out j h h1
    ·have:j=k:=by omega
     subst this;exact hb)
   generalize s[k]=c at *
   cases f95:((c.toNat:Int) != 95) with
   | true=>
    cases flo:decide (bits .or .u8 c.toNat 32<97) with
    | true=>
     cases fk0:decide (k=0) with
     | true=>
      have fk1:((k:Int) == 0)=true:=by have:=of_decide_eq_true fk0;simp [this]
      have fk2:(k == 0)=true:=by have:=of_decide_eq_true fk0;simp [this]
      have hb:badN k c=true:=by rw [HBD.out];simp [f95,flo,fk0]
      have HF:=hid (HBAD.out hb)
      clear hb
      go_wp2
      go_ret
      exact ⟨ret_bool HF.out.symm,HBW.out⟩
     | false=>
      have fk1:((k:Int) == 0)=false:=by have:=of_decide_eq_false fk0;simp;omega
      have fk2:(k == 0)=false:=by have:=of_decide_eq_false fk0;simp;omega
      cases f48:decide ((c.toNat:Int)<48) with
      | true=>
       have hb:badN k c=true:=by rw [HBD.out];simp [f95,flo,fk0,f48]
       have HF:=hid (HBAD.out hb)
       clear hb
       go_wp2
       go_ret
       exact ⟨ret_bool HF.out.symm,HBW.out⟩
      | false=>
       cases f57:decide (57<(c.toNat:Int)) with
       | true=>
        have hb:badN k c=true:=by rw [HBD.out];simp [f95,flo,fk0,f48,f57]
        have HF:=hid (HBAD.out hb)
        clear hb
        go_wp2
        go_ret
        exact ⟨ret_bool HF.out.symm,HBW.out⟩
       | false=>
        have hb:badN k c=false:=by rw [HBD.out];simp [f95,flo,fk0,f48,f57]
        have HF:=hid (HNX.out hb)
        clear hb
        go_wp2
        go_round
        case rel=>exact ⟨k+1,by go_num,by omega,HF⟩
        case measure=>simp [intOf];omega
    | false=>
     cases fhi:decide (122<bits .or .u8 c.toNat 32) with
     | true=>
      cases fk0:decide (k=0) with
      | true=>
       have fk1:((k:Int) == 0)=true:=by have:=of_decide_eq_true fk0;simp [this]
       have fk2:(k == 0)=true:=by have:=of_decide_eq_true fk0;simp [this]
       have hb:badN k c=true:=by rw [HBD.out];simp [f95,flo,fhi,fk0]
       have HF:=hid (HBAD.out hb)
       clear hb
       go_wp2
       go_ret
       exact ⟨ret_bool HF.out.symm,HBW.out⟩
      | false=>
       have fk1:((k:Int) == 0)=false:=by have:=of_decide_eq_false fk0;simp;omega
       have fk2:(k == 0)=false:=by have:=of_decide_eq_false fk0;simp;omega
       cases f48:decide ((c.toNat:Int)<48) with
       | true=>
        have hb:badN k c=true:=by rw [HBD.out];simp [f95,flo,fhi,fk0,f48]
        have HF:=hid (HBAD.out hb)
        clear hb
        go_wp2
        go_ret
        exact ⟨ret_bool HF.out.symm,HBW.out⟩
       | false=>
        cases f57:decide (57<(c.toNat:Int)) with
        | true=>
         have hb:badN k c=true:=by rw [HBD.out];simp [f95,flo,fhi,fk0,f48,f57]
         have HF:=hid (HBAD.out hb)
         clear hb
         go_wp2
         go_ret
         exact ⟨ret_bool HF.out.symm,HBW.out⟩
        | false=>
         have hb:badN k c=false:=by rw [HBD.out];simp [f95,flo,fhi,fk0,f48,f57]
         have HF:=hid (HNX.out hb)
         clear hb
         go_wp2
         go_round
         case rel=>exact ⟨k+1,by go_num,by omega,HF⟩
         case measure=>simp [intOf];omega
     | false=>
      have hb:badN k c=false:=by rw [HBD.out];simp [f95,flo,fhi]
      have HF:=hid (HNX.out hb)
      clear hb
      go_wp2
      go_round
      case rel=>exact ⟨k+1,by go_num,by omega,HF⟩
      case measure=>simp [intOf];omega
   | false=>
    have hb:badN k c=false:=by rw [HBD.out];simp [f95]
    have HF:=hid (HNX.out hb)
    clear hb
    go_wp2
    go_round
    case rel=>exact ⟨k+1,by go_num,by omega,HF⟩
    case measure=>simp [intOf];omega
  ·have hge:¬ ((k:Int)<(s.length:Int)):=by omega
   have hkl:k=s.length:=by omega
   have HG:=hid (name_good (s:=s) (fun j h=>HN.out j h (by omega)))
   have HW:=hid (word_any (bs s) (by rw [size_bs];have:=HS.out;omega) W1 (Classical.choose (HB.out.later HBW.out).max) (Classical.choose_spec (HB.out.later HBW.out).max))
   clear hkl
   cases f1:decide (0<s.length) with
   | false=>
    have g1:decide (0<(s.length:Int))=false:=by simpa using f1
    go_wp2
    go_ret
    exact ⟨ret_bool (by rw [HG.out,f1];rfl),HBW.out⟩
   | true=>
    have g1:decide (0<(s.length:Int))=true:=by simpa using f1
    cases f2:decide (s.length≤64) with
    | false=>
     have g2:decide ((s.length:Int)≤64)=false:=by simp at f2 ⊢;omega
     go_wp2
     go_ret
     exact ⟨ret_bool (by rw [HG.out,f1,f2];rfl),HBW.out⟩
    | true=>
     have g2:decide ((s.length:Int)≤64)=true:=by simp at f2 ⊢;omega
     go_wp2_with (go_at_call 135;refine HW.out.mono ?_;rintro e W2 ⟨rfl,rfl⟩)
     go_ret
     exact ⟨ret_bool (by rw [HG.out,f1,f2,list_bs];simp),HBW.out⟩
end Go.Proofs.YtlcfpdmicpggbaaGreatDoor
namespace Go.Proofs.Spl
open Go.Lib (hid)
open Go.Proofs.Scn
def shutB (s:Ln):Ln:=if s=[40] then [41] else if s=[91] then [93] else if s=[123] then [125] else []
def shutsB (s:Ln):Bool:=s == [41] || s == [93] || s == [125]
def stepE (st:List Ln) (t:Tok):Option (List Ln):=
 if (checkT t && t.p == 0)=true then
  (if t.k=4∧shutB t.s ≠ [] then some (shutB t.s :: st)
   else if t.k=4∧shutsB t.s=true then (match st with | []=>none | a :: st=>if a=t.s then some st else none)
   else some st)
 else none
def evenS (st:List Ln):List Tok→Bool
 | []=>st.isEmpty
 | t :: r=>(match stepE st t with | some st=>evenS st r | none=>false)
def Bal (l:List Tok):Prop:=∀ st r,evenS st (l ++ r)=evenS st r
theorem Bal.nil:Bal []:=fun _ _=>rfl
theorem Bal.app {a b:List Tok} (ha:Bal a) (hb:Bal b):Bal (a ++ b):=fun st r=>by rw [List.append_assoc,ha,hb]
theorem Bal.cons {t:Tok} {b:List Tok} (ha:Bal [t]) (hb:Bal b):Bal (t :: b):=Bal.app ha hb
theorem Bal.flat {l:List (List Tok)} (h:∀ x ∈ l,Bal x):Bal l.flatten:=by
 induction l with
 | nil=>exact Bal.nil
 | cons a l ih=>exact Bal.app (h a (List.mem_cons_self ..)) (ih fun x hx=>h x (List.mem_cons_of_mem _ hx))
theorem Bal.even {l:List Tok} (h:Bal l):evenS [] l=true:=by
 have:=h [] []
 rw [List.append_nil] at this
 exact this
theorem Bal.one {t:Tok} (hc:checkT t=true) (hp:t.p=0) (h:t.k ≠ 4∨(shutB t.s=[]∧shutsB t.s=false)):Bal [t]:=by
 intro st r
 have:stepE st t=some st:=by
  unfold stepE
  rw [if_pos (by simp [hc,hp])]
  rcases h with h | ⟨h1,h2⟩
  ·rw [if_neg (fun e=>h e.1),if_neg (fun e=>h e.1)]
  ·rw [if_neg (fun e=>e.2 h1),if_neg (by simp [h2])]
 rw [List.singleton_append,evenS,this]
theorem Bal.sg {s:Ln} (hs:isSign s=true) (h:shutB s=[]∧shutsB s=false):Bal [sgT s]:=
 Bal.one (by simp [checkT,sgT,hs]) rfl (.inr h)
theorem Bal.wd {s:Ln} (hs:isWord s=true):Bal [wdT s]:=
 Bal.one (by simp [checkT,wdT,hs]) rfl (.inl (by simp [wdT]))
theorem Bal.nm {s:Ln} (hs:isName s=true):Bal [nmT s]:=
 Bal.one (by simp [checkT,nmT,hs]) rfl (.inl (by simp [nmT]))
theorem Bal.num {w:Int} {v:Nat} (h:valueO 1 w v=true):Bal [numT w v]:=by
 refine Bal.one ?_ rfl (.inl (by simp [numT]))
 unfold valueO at h
 rw [if_pos rfl] at h
 simp only [Bool.and_eq_true,Bool.or_eq_true,decide_eq_true_eq,beq_iff_eq] at h
 obtain ⟨⟨⟨h0,h1⟩,h2⟩,h3⟩:=h
 have hf:(w == 0 || fitsV w v)=true:=by
  by_cases hw:w=0
  ·simp [hw]
  ·have h4:v<2 ^ w.toNat:=by
    rcases h2 with (h2 | h2) | h2
    ·exact absurd h2 hw
    ·rw [h2];exact h3
    ·exact h2
   simp [fitsV,h4,h1]
   right;omega
 simp [checkT,numT,hf]
theorem Bal.inn {o c:UInt8} {l:List Tok} (h:Bal l) (ho:isSign [o]=true) (hc:isSign [c]=true) (h1:shutB [o]=[c]) (h2:shutB [c]=[]) (h3:shutsB [c]=true):Bal (inT o c l):=by
 intro st r
 unfold inT
 have e1:stepE st (sgT [o])=some ([c] :: st):=by
  unfold stepE
  rw [if_pos (by simp [checkT,sgT,ho]),if_pos (by simp [sgT,h1])]
  simp [sgT,h1]
 have e2:stepE ([c] :: st) (sgT [c])=some st:=by
  unfold stepE
  rw [if_pos (by simp [checkT,sgT,hc]),if_neg (by simp [sgT,h2]),if_pos (by simp [sgT,h3])]
  simp [sgT]
 rw [List.cons_append,List.append_assoc,evenS,e1]
 simp only []
 rw [h,List.singleton_append,evenS,e2]
theorem Bal.par {l:List Tok} (h:Bal l):Bal (parT l):=h.inn (by decide) (by decide) (by decide) (by decide) (by decide)
theorem Bal.bra {l:List Tok} (h:Bal l):Bal (braT l):=h.inn (by decide) (by decide) (by decide) (by decide) (by decide)
theorem Bal.cub {l:List Tok} (h:Bal l):Bal (cubT l):=h.inn (by decide) (by decide) (by decide) (by decide) (by decide)
theorem Bal.sep {s:Ln} (hs:Bal [sgT s]):∀ {l:List (List Tok)},(∀ x ∈ l,Bal x)→Bal (sepS s l)
 | [],_=>Bal.nil
 | [a],h=>h a (List.mem_cons_self ..)
 | a :: b :: r,h=>(h a (List.mem_cons_self ..)).app (Bal.cons hs (Bal.sep hs fun x hx=>h x (List.mem_cons_of_mem _ hx)))
theorem bal_part {k:Nat × List Tok} (h:Bal k.2) (n:Nat):Bal (partT k n):=by
 unfold partT
 split
 ·exact h.par
 ·exact h
theorem isWord_ext (n:Int):isWord (extS n)=true:=by unfold extS;(repeat' split) <;> decide
theorem one_sign (n:Int):isSign (oneS n)=true∧shutB (oneS n)=[]∧shutsB (oneS n)=false:=by unfold oneS;(repeat' split) <;> decide
def twosL:List Ln:=[[38],[124],[94],[43],[45],[42],[60,60],[62,62],[61,61],[33,61],[60],[60,61],[62],[62,61],[38,38],[124,124]]
theorem two_mem (n:Int):twoS n ∈ twosL:=by
 have put:∀ (c:Prop) [Decidable c] (a b:Ln),a ∈ twosL→b ∈ twosL→(if c then a else b) ∈ twosL:=by
  intro c _ a b ha hb;split
  ·exact ha
  ·exact hb
 unfold twoS
 repeat' (apply put)
 all_goals decide
theorem two_sign (n:Int):isSign (twoS n)=true∧shutB (twoS n)=[]∧shutsB (twoS n)=false:=by
 have:∀ s ∈ twosL,isSign s=true∧shutB s=[]∧shutsB s=false:=by decide
 exact this _ (two_mem n)
theorem okX_iff (x:X):okX x=(okNode x.op x.name x.n x.w x.v x.l.length && x.l.all okX):=by
 cases x;rw [okX,okXs_all];rfl
theorem exprT_eq (x:X):exprT x=nodeT x.op x.name x.n x.w x.v (x.l.map fun y=>(rankX y,exprT y)):=by
 cases x;rw [exprT,kidsT_map];rfl
theorem map_snd (l:List X):(l.map fun y=>(rankX y,exprT y)).map Prod.snd=l.map exprT:=by rw [List.map_map];rfl
theorem bal_expr:∀ x:X,okX x=true→Bal (exprT x):=by
 refine X.ind ?_
 intro x ih hx
 rw [okX_iff,Bool.and_eq_true,List.all_eq_true] at hx
 obtain ⟨h0,hl⟩:=hx
 have hk:∀ y ∈ x.l,Bal (exprT y):=fun y hy=>ih y hy (hl y hy)
 have hm:∀ z ∈ x.l.map exprT,Bal z:=by
  intro z hz
  obtain ⟨y,hy,rfl⟩:=List.mem_map.1 hz
  exact hk y hy
 have hp:∀ k ∈ (x.l.map fun y=>(rankX y,exprT y)),Bal k.2:=by
  intro k hk'
  obtain ⟨y,hy,rfl⟩:=List.mem_map.1 hk'
  exact hk y hy
 rw [exprT_eq]
 unfold okNode at h0
 simp only [Bool.and_eq_true] at h0
 obtain ⟨⟨⟨hn,hpt⟩,hnu⟩,hv⟩:=h0
 unfold nodeT
 rw [map_snd]
 split
 ·rename_i h;rw [h] at hv;exact Bal.num hv
 ·split
  ·rename_i h;rw [h] at hn;exact Bal.nm (by simpa [namedO] using hn)
  ·split
   ·rename_i h
    have hn':isName x.name=true:=by rcases h with h | h <;> (rw [h] at hn;simpa [namedO] using hn)
    exact (Bal.nm hn').cons (Bal.bra (Bal.sep (Bal.sg (by decide) (by decide)) hm))
   ·split
    ·split
     ·rename_i a e
      have ha:=hp a (by rw [e];simp)
      exact Bal.cons (Bal.sg (one_sign _).1 (one_sign _).2) (bal_part ha _)
     ·exact Bal.nil
    ·split
     ·split
      ·rename_i a b e
       have ha:=hp a (by rw [e];simp)
       have hb:=hp b (by rw [e];simp)
       exact (bal_part ha _).app (Bal.cons (Bal.sg (two_sign _).1 (two_sign _).2) (bal_part hb _))
      ·exact Bal.nil
     ·split
      ·split
       ·rename_i a b c e
        have ha:=hp a (by rw [e];simp)
        have hb:=hp b (by rw [e];simp)
        have hc:=hp c (by rw [e];simp)
        exact (bal_part ha _).app (Bal.cons (Bal.sg (by decide) (by decide)) (hb.app (Bal.cons (Bal.sg (by decide) (by decide)) hc)))
       ·exact Bal.nil
      ·split
       ·exact Bal.cub (Bal.sep (Bal.sg (by decide) (by decide)) hm)
       ·split
        ·split
         ·rename_i a b e
          have ha:=hp a (by rw [e];simp)
          have hb:=hp b (by rw [e];simp)
          exact Bal.cub (ha.app hb.cub)
         ·exact Bal.nil
        ·exact Bal.cons (Bal.wd (isWord_ext _)) (Bal.par (Bal.sep (Bal.sg (by decide) (by decide)) hm))
theorem bal_exprs {l:List X} (h:l.all okX=true):∀ z ∈ l.map exprT,Bal z:=by
 rw [List.all_eq_true] at h
 intro z hz
 obtain ⟨y,hy,rfl⟩:=List.mem_map.1 hz
 exact bal_expr y (h y hy)
theorem bal_list {l:List X} (h:l.all okX=true):Bal (listT l):=Bal.sep (Bal.sg (by decide) (by decide)) (bal_exprs h)
theorem bal_span {l:List X} {n:Ln} (hn:isName n=true) (h:l.all okX=true):Bal (spanT n l):=
 Bal.par (Bal.cons (Bal.nm hn) (Bal.cons (Bal.sg (by decide) (by decide)) (Bal.sep (Bal.sg (by decide) (by decide)) (bal_exprs h))))
theorem okSA_iff (x:S):okSA x=(x.x.all okX && okSt x.op x.name x.x x.l && kindO x.op x.l && x.l.all okSA):=by
 cases x;rw [okSA,okXs_all,okSAs_all];rfl
theorem stmtT_eq (put:Ln) (x:S):stmtT put x=stT put x.op x.name x.x x.l (x.l.map (stmtT put)):=by
 cases x;rw [stmtT,stmtsT_map];rfl
theorem bal_stmt {put:Ln} (hput:Bal [sgT put]):∀ x:S,okSA x=true→Bal (stmtT put x):=by
 refine S.ind ?_
 intro x ih hx
 rw [okSA_iff] at hx
 simp only [Bool.and_eq_true] at hx
 obtain ⟨⟨⟨hxx,h0⟩,hk⟩,hl⟩:=hx
 rw [List.all_eq_true] at hl
 have hm:∀ z ∈ x.l.map (stmtT put),Bal z:=by
  intro z hz
  obtain ⟨y,hy,rfl⟩:=List.mem_map.1 hz
  exact ih y hy (hl y hy)
 have hf:Bal (x.l.map (stmtT put)).flatten:=Bal.flat hm
 have hli:=bal_list hxx
 rw [stmtT_eq]
 unfold stT
 split
 ·exact (Bal.sep hput (bal_exprs hxx)).app (Bal.sg (by decide) (by decide))
 ·split
  ·split
   ·rename_i a b t u e1 e2
    have ht:=hm t (by rw [e2];simp)
    have hu:=hm u (by rw [e2];simp)
    refine Bal.cons (Bal.wd (by decide)) (hli.par.app (ht.app ?_))
    split
    ·exact Bal.cons (Bal.wd (by decide)) hu
    ·exact Bal.nil
   ·exact Bal.nil
  ·split
   ·exact Bal.cons (Bal.wd (by decide)) (hli.par.app hf.cub)
   ·split
    ·split
     ·exact hli.app (Bal.cons (Bal.sg (by decide) (by decide)) hf.cub)
     ·split
      ·exact Bal.nil
      ·exact Bal.cons (Bal.wd (by decide)) (Bal.cons (Bal.sg (by decide) (by decide)) hf.cub)
    ·split
     ·rename_i h
      have hn:isName x.name=true:=by
       unfold okSt at h0
       rw [h] at h0
       simp at h0
       exact h0.1
      exact Bal.cons (Bal.wd (by decide)) ((bal_span hn hxx).app hf.cub)
     ·exact hf.cub
theorem bal_stmts {put:Ln} (hput:Bal [sgT put]) {l:List S} (h:okSs l=true):Bal (blockT put l):=by
 unfold okSs at h
 rw [Bool.and_eq_true,okSAs_all,List.all_eq_true,List.all_eq_true] at h
 unfold blockT
 rw [stmtsT_map]
 refine Bal.cub (Bal.flat ?_)
 intro z hz
 obtain ⟨y,hy,rfl⟩:=List.mem_map.1 hz
 exact bal_stmt hput y (h.2 y hy)
theorem bal_put1:Bal [sgT [61]]:=Bal.sg (by decide) (by decide)
theorem bal_put2:Bal [sgT [60,61]]:=Bal.sg (by decide) (by decide)
theorem bal_bind {b:Bd} (h:okB b=true):Bal (bindT b):=by
 unfold okB at h
 rw [Bool.and_eq_true] at h
 exact Bal.cons (Bal.nm h.1) (Bal.cons bal_put1 (bal_expr _ h.2))
theorem bal_binds {l:List Bd} (h:l.all okB=true):Bal (bindsT l):=by
 rw [List.all_eq_true] at h
 refine Bal.par (Bal.sep (Bal.sg (by decide) (by decide)) ?_)
 intro z hz
 obtain ⟨y,hy,rfl⟩:=List.mem_map.1 hz
 exact bal_bind (h y hy)
theorem bal_params {l:List Bd} (h:l.all okB=true):Bal (paramsT l):=by
 unfold paramsT
 split
 ·exact Bal.nil
 ·exact Bal.cons (Bal.sg (by decide) (by decide)) (bal_binds h)
theorem okI_iff (x:It):okI x=(okIt x.op x.name x.of x.x x.s x.l x.e x.ps x.bs && x.x.all okX && okSs x.s && x.l.all okI && x.e.all okI && x.ps.all okB && x.bs.all okB):=by
 cases x;rw [okI,okXs_all,okIs_all,okIs_all];rfl
theorem itemT_eq (x:It):itemT x=itT x.op x.name x.of x.x x.s x.e x.ps x.bs (x.l.map itemT) (x.e.map itemT):=by
 cases x;rw [itemT,itemsT_map,itemsT_map];rfl
theorem bal_item:∀ x:It,okI x=true→Bal (itemT x):=by
 refine It.ind ?_
 intro x ihl ihe hx
 rw [okI_iff] at hx
 simp only [Bool.and_eq_true] at hx
 obtain ⟨⟨⟨⟨⟨⟨h0,hxx⟩,hs⟩,hl⟩,he⟩,hps⟩,hbs⟩:=hx
 rw [List.all_eq_true] at hl he
 have hml:Bal (x.l.map itemT).flatten:=Bal.flat (by
  intro z hz
  obtain ⟨y,hy,rfl⟩:=List.mem_map.1 hz
  exact ihl y hy (hl y hy))
 have hme:Bal (x.e.map itemT).flatten:=Bal.flat (by
  intro z hz
  obtain ⟨y,hy,rfl⟩:=List.mem_map.1 hz
  exact ihe y hy (he y hy))
 have hli:=bal_list hxx
 have hsc:=Bal.sg (s:=[59]) (by decide) (by decide)
 have hco:=Bal.sg (s:=[58]) (by decide) (by decide)
 unfold okIt at h0
 simp only [Bool.and_eq_true,decide_eq_true_eq] at h0
 obtain ⟨⟨⟨⟨⟨⟨⟨⟨⟨ho1,ho2⟩,hn⟩,hf⟩,hc⟩,ht⟩,h1⟩,h2⟩,h3⟩,h4⟩:=h0
 have hN:nameI x.op=true→isName x.name=true:=fun h=>by rw [if_pos h] at hn;exact hn
 have hF:ofI x.op=true→isName x.of=true:=fun h=>by rw [if_pos h] at hf;exact hf
 rw [itemT_eq]
 unfold itT
 split
 ·rename_i h;exact Bal.cons (Bal.wd (by decide)) (Bal.cons (Bal.nm (hN (by rw [h];rfl))) (Bal.cons bal_put1 (hli.app hsc)))
 ·split
  ·rename_i h;exact Bal.cons (Bal.wd (by decide)) (Bal.cons (Bal.nm (hN (by rw [h];rfl))) (Bal.cons hco (hli.app hsc)))
  ·split
   ·rename_i h;exact Bal.cons (Bal.wd (by decide)) (Bal.cons (Bal.nm (hN (by rw [h];rfl))) (Bal.cons hco ((Bal.sep bal_put1 (bal_exprs hxx)).app hsc)))
   ·split
    ·exact Bal.cons (Bal.wd (by decide)) ((Bal.sep bal_put1 (bal_exprs hxx)).app hsc)
    ·split
     ·exact Bal.cons (Bal.wd (by decide)) (bal_stmts bal_put1 hs)
     ·split
      ·exact Bal.cons (Bal.wd (by decide)) (Bal.cons (Bal.wd (by decide)) (bal_stmts bal_put2 hs))
      ·split
       ·rename_i h
        exact Bal.cons (Bal.wd (by decide)) (Bal.cons (Bal.nm (hN (by rw [h];rfl))) (Bal.cons hco (Bal.cons (Bal.nm (hF (by rw [h];rfl))) ((bal_params hps).app ((bal_binds hbs).app hsc)))))
       ·split
        ·refine Bal.cons (Bal.wd (by decide)) (hli.par.app (hml.cub.app ?_))
         split
         ·exact Bal.nil
         ·exact Bal.cons (Bal.wd (by decide)) hme.cub
        ·split
         ·rename_i h
          exact Bal.cons (Bal.wd (by decide)) (Bal.cons (Bal.nm (hN (by rw [h];rfl))) ((bal_span (hF (by rw [h];rfl)) hxx).app hml.cub))
         ·rename_i n1 n2 n3 n4 n5 n6 n7 n8 n9
          have h:x.op=10:=by omega
          exact Bal.cons (Bal.wd (by decide)) (Bal.cons (Bal.nm (hN (by rw [h];rfl))) (Bal.cons hco (hli.app hsc)))
theorem bal_port {p:Pt} (h:okP p=true):Bal (portT p):=by
 unfold okP at h
 rw [Bool.and_eq_true] at h
 unfold portT
 exact Bal.cons (by split <;> exact Bal.wd (by decide)) (Bal.cons (Bal.nm h.1) (Bal.cons (Bal.sg (by decide) (by decide)) (bal_expr _ h.2)))
theorem bal_module {m:Md} (h:okM m=true):Bal (moduleT m):=by
 unfold okM at h
 simp only [Bool.and_eq_true] at h
 obtain ⟨⟨⟨h1,h2⟩,h3⟩,h4⟩:=h
 rw [okIs_all,List.all_eq_true] at h4
 rw [List.all_eq_true] at h3
 unfold moduleT
 rw [itemsT_map]
 refine Bal.cons (Bal.wd (by decide)) (Bal.cons (Bal.nm h1) ((bal_params h2).app ((Bal.par (Bal.sep (Bal.sg (by decide) (by decide)) ?_)).app (Bal.cub (Bal.flat ?_)))))
 ·intro z hz
  obtain ⟨y,hy,rfl⟩:=List.mem_map.1 hz
  exact bal_port (h3 y hy)
 ·intro z hz
  obtain ⟨y,hy,rfl⟩:=List.mem_map.1 hz
  exact bal_item y (h4 y hy)
theorem bal_file {f:List Md} (h:f.all okM=true):Bal (fileT f):=by
 rw [List.all_eq_true] at h
 refine Bal.flat ?_
 intro z hz
 obtain ⟨y,hy,rfl⟩:=List.mem_map.1 hz
 exact bal_module (h y hy)
end Go.Proofs.Spl
namespace Go.Proofs.YtlcfpdmicpggbaaGreatDoor
open Go.Lib (hid)
open Go.RowKit Go.Proofs.Spl Go.Proofs.Scn Go.Shelf
def kNamed (k:Nat):Bool:=k == 2 || k == 3 || k == 4
def kMin (k:Nat):Nat:=if k=3 then 2 else if k=4 then 1 else if k=5 then 1 else if k=6 then 2 else if k=7 then 3 else if k=8 then 1 else if k=9 then 2 else if k=10 then 2 else 0
def kMax (k:Nat):Nat:=if k=8 then 65536 else kMin k
def kLo (k:Nat):Int:=if k=5 then 1 else if k=6 then 11 else if k=10 then 31 else 0
def kHi (k:Nat):Int:=if k=5 then 6 else if k=6 then 26 else if k=10 then 33 else 0
def sName (k:Nat):Bool:=k == 1 || k == 2 || k == 3 || k == 7 || k == 9 || k == 10
def sOf (k:Nat):Bool:=k == 7 || k == 9
def sX (k:Nat):Nat:=if k=1 then 1 else if k=2 then 1 else if k=3 then 2 else if k=4 then 2 else if k=8 then 1 else if k=9 then 2 else if k=10 then 1 else 0
def sS (k:Nat):Bool:=k == 5 || k == 6
def sL (k:Nat):Bool:=k == 8 || k == 9
def sEls (k:Nat):Bool:=k == 8
def sBind (k:Nat):Bool:=k == 7
structure BaseA (w:World):Prop where
 base:Base w
 kinds:∀ k,k<11→w.cell? ⟨0,k * 5,none⟩=some (.bool (kNamed k))∧w.cell? ⟨0,k * 5+1,none⟩=some (.int .i64 (kMin k:Nat))∧w.cell? ⟨0,k * 5+2,none⟩=some (.int .i64 (kMax k:Nat))∧w.cell? ⟨0,k * 5+3,none⟩=some (.int .i64 (kLo k))∧w.cell? ⟨0,k * 5+4,none⟩=some (.int .i64 (kHi k))
 shapes:∀ k,k<11→w.cell? ⟨1,k * 7,none⟩=some (.bool (sName k))∧w.cell? ⟨1,k * 7+1,none⟩=some (.bool (sOf k))∧w.cell? ⟨1,k * 7+2,none⟩=some (.int .i64 (sX k:Nat))∧w.cell? ⟨1,k * 7+3,none⟩=some (.bool (sS k))∧w.cell? ⟨1,k * 7+4,none⟩=some (.bool (sL k))∧w.cell? ⟨1,k * 7+5,none⟩=some (.bool (sEls k))∧w.cell? ⟨1,k * 7+6,none⟩=some (.bool (sBind k))
theorem cell_later {w w':World} (hb:Below w.heap.size w w') {a:Addr} {v:Value} (h:w.cell? a=some v):w'.cell? a=some v:=(hb.cell (World.block_lt_of_cell? w _ h)).trans h
theorem BaseA.later {w w':World} (h:BaseA w) (hb:Below w.heap.size w w'):BaseA w':=by
 refine ⟨h.base.later hb,fun k hk=>?_,fun k hk=>?_⟩
 ·obtain ⟨h0,h1,h2,h3,h4⟩:=h.kinds k hk
  exact ⟨cell_later hb h0,cell_later hb h1,cell_later hb h2,cell_later hb h3,cell_later hb h4⟩
 ·obtain ⟨h0,h1,h2,h3,h4,h5,h6⟩:=h.shapes k hk
  exact ⟨cell_later hb h0,cell_later hb h1,cell_later hb h2,cell_later hb h3,cell_later hb h4,cell_later hb h5,cell_later hb h6⟩
theorem BaseA.alloc {w:World} (h:BaseA w) (o:Obj):BaseA (w.alloc o):=h.later ((Below.refl _ _).alloc (Nat.le_refl _) _)
theorem kind_law (k:Nat) (h1:1≤k) (h2:k≤10) (name:Ln) (n w:Int) (v m:Nat) (hm:m≤65536) :
  okNode (k:Nat) name n w v m=(decide (kMin k≤m) && decide (m≤kMax k) && decide (kLo k≤n) && decide (n≤kHi k) && valueO (k:Nat) w v && (if kNamed k then isName name else name.isEmpty)):=by
 have hk:k=1∨k=2∨k=3∨k=4∨k=5∨k=6∨k=7∨k=8∨k=9∨k=10:=by omega
 have hz:∀ z:Int,(z == 0)=(decide (0≤z) && decide (z≤0)):=fun z=>by rw [Bool.eq_iff_iff];simp;omega
 have hp:∀ a b:Nat,(a == b)=(decide (b≤a) && decide (a≤b)):=fun a b=>by rw [Bool.eq_iff_iff];simp;omega
 rcases hk with e | e | e | e | e | e | e | e | e | e <;> subst e <;>
  simp [okNode,kNamed,kMin,kMax,kLo,kHi,namedO,partsO,numberO,hz n,hp m,hm] <;> ac_rfl
end Go.Proofs.YtlcfpdmicpggbaaGreatDoor
namespace Go.GrowQ
open Go.Lib (hid)
open Go Go.RowKit
def slotOf (a:Act):Option Tmp→Value
 | some d=>a.tmps.getD d undef
 | none=>undef
theorem slot_put_same {a:Act} {d:Nat} {v:Value} (h:d<a.tmps.size):(a.put (some d) v).tmps.getD d undef=v:=by
 simp [Act.put,h]
theorem slot_put_other {a:Act} {d:Nat} {o:Option Tmp} {v:Value} (h:o ≠ some d):(a.put o v).tmps.getD d undef=a.tmps.getD d undef:=by
 cases o with
 | none=>rfl
 | some k=>
  have:k ≠ d:=fun e=>h (by rw [e])
  simp [Act.put,Array.getElem?_setIfInBounds,this]
theorem size_put (a:Act) (o:Option Tmp) (v:Value):(a.put o v).tmps.size=a.tmps.size:=by
 cases o <;> simp [Act.put]
theorem defers_put (a:Act) (o:Option Tmp) (v:Value):(a.put o v).defers=a.defers:=by
 cases o <;> rfl
def StepOK (P:Program) (o:Oper) (ev:Operand→Value) (w:World) (R:World→Value→Prop):Prop:=
 (∃ v w',(execOp ev o).run P w=.ok (.value v) w'∧R w' v)∨(∃ w',(execOp ev o).run P w=.ok .skip w'∧R w' undef) ∨
 (∃ f args,(execOp ev o).run P w=.ok (.enter f args) w∧Calls P f args w fun e w'=>∃ v,e=.returned v∧R w' v)
def depB (ops:Array Oper) (o:Oper) (j d:Nat):Bool:=o.after.any (fun e=>e.on == j && Region.binds .any e) && (match ops[j]? with | some oj=>oj.dst == some d | none=>false)
def freeB (ops:Array Oper) (d:Nat):Bool:=!(ops.toList.filterMap (·.dst)).contains d
def lateB (ops:Array Oper) (p i d:Nat):Bool:=(List.range ops.size).all fun j=>match ops[j]? with | some o=>!(o.dst == some d) || (decide (p≤j) && decide (i<j)) | none=>true
structure Reads (p i:Nat) (ops:Array Oper) (a:Act) (ev:Operand→Value):Prop where
 tmp:∀ d,freeB ops d=true→ev (.tmp d)=a.eval (.tmp d)
 old:∀ d,lateB ops p i d=true→ev (.tmp d)=a.eval (.tmp d)
 const:∀ v,ev (.const v)=v
 global:∀ g,ev (.global g)=.pointer (some ⟨g,0,none⟩)
 func:∀ f,ev (.func f)=.func (.func f) #[] #[]
def keepV:Option Tmp→Value→Value
 | some _,v=>v
 | none,_=>undef
def OpOK (P:Program) (G:Nat→World→World→Prop) (H:Bool→World→World→Prop) (p:Nat) (ops:Array Oper) (Sp:Nat→World→Value→Prop) (a:Act) (w:World) (i:Nat) (o:Oper):Prop:=
 ∀ ev W',H (decide (p<i)) w W'→Reads p i ops a ev→(∀ j d,depB ops o j d=true→Sp j W' (ev (.tmp d)))→StepOK P o ev W' fun W'' v=>G i W' W''∧Sp i W'' (keepV o.dst v)
def putAll (a:Act) (x:Nat→Value):Nat→List Oper→Act
 | _,[]=>a
 | i,o :: l=>putAll (a.put o.dst (x i)) x (i+1) l
theorem putAll_size (x:Nat→Value):∀ (l:List Oper) (a:Act) (i:Nat),(putAll a x i l).tmps.size=a.tmps.size
 | [],_,_=>rfl
 | o :: l,a,i=>by rw [putAll,putAll_size x l,size_put]
theorem putAll_defers (x:Nat→Value):∀ (l:List Oper) (a:Act) (i:Nat),(putAll a x i l).defers=a.defers
 | [],_,_=>rfl
 | o :: l,a,i=>by rw [putAll,putAll_defers x l,defers_put]
theorem putAll_get (a':Act) (x:Nat→Value) (d:Nat):∀ (l:List Oper) (a:Act) (i:Nat),a'.tmps.size=a.tmps.size→(∀ k o,l[k]?=some o→x (i+k)=slotOf a' o.dst)→(a.tmps.getD d undef=a'.tmps.getD d undef∨d ∈ l.filterMap (·.dst)) →
  (putAll a x i l).tmps.getD d undef=a'.tmps.getD d undef
 | [],a,i,_,_,h=>by
  rcases h with h | h
  ·exact h
  ·cases h
 | o :: l,a,i,hs,hx,h=>by
  rw [putAll]
  refine putAll_get a' x d l _ (i+1) (by rw [size_put];exact hs) (fun k o' hk=>?_) ?_
  ·have:=hx (k+1) o' (by simpa using hk)
   rw [← this];congr 1;omega
  ·have h0:=hx 0 o rfl
   rw [Nat.add_zero] at h0
   by_cases ho:o.dst=some d
   ·left
    rw [ho] at h0 ⊢
    rcases Nat.lt_or_ge d a.tmps.size with hd | hd
    ·rw [slot_put_same hd,h0];rfl
    ·have h1:(a.put (some d) (x i)).tmps[d]?=none:=Array.getElem?_eq_none (by rw [size_put];exact hd)
     have h2:a'.tmps[d]?=none:=Array.getElem?_eq_none (by rw [hs];exact hd)
     rw [Array.getD_eq_getD_getElem?,Array.getD_eq_getD_getElem?,h1,h2]
   ·rw [slot_put_other ho]
    rcases h with h | h
    ·exact .inl h
    ·right
     rw [List.filterMap_cons] at h
     cases hd:o.dst with
     | none=>rw [hd] at h;exact h
     | some k=>
      rw [hd] at h
      rcases List.mem_cons.1 h with e | h
      ·exact absurd (by rw [hd,e]) ho
      ·exact h
structure Inv (H:Bool→World→World→Prop) (p:Nat) (ops:Array Oper) (Sp:Nat→World→Value→Prop) (a0:Act) (w0:World) (listed:Array Bool) (a:Act) (w:World):Prop where
 below:H (listed.getD p false) w0 w
 size:a.tmps.size=a0.tmps.size
 defers:a.defers=a0.defers
 else_:∀ d,(∀ (j:Nat) (o:Oper),ops[j]?=some o→o.dst=some d→listed.getD j false=false)→a.tmps.getD d undef=a0.tmps.getD d undef
 done:∀ (j:Nat) (o:Oper),ops[j]?=some o→listed.getD j false=true→Sp j w (slotOf a o.dst)
 clo:∀ (j:Nat) (o:Oper),ops[j]?=some o→listed.getD j false=true→∀ e ∈ o.after,Region.binds .any e=true→listed.getD e.on false=true
inductive Anc (ops:Array Oper) (p:Nat):Nat→Prop
 | refl:Anc ops p p
 | step {k:Nat} {o:Oper} {e:Edge}:Anc ops p k→ops[k]?=some o→e ∈ o.after→Region.binds .any e=true→Anc ops p e.on
theorem Inv.anc {H:Bool→World→World→Prop} {p0:Nat} {ops:Array Oper} {Sp:Nat→World→Value→Prop} {a0:Act} {w0:World} {listed:Array Bool} {a:Act} {w:World} (h:Inv H p0 ops Sp a0 w0 listed a w) {p:Nat} (hp:listed.getD p false=true) {i:Nat} (hi:Anc ops p i):listed.getD i false=true:=by
 induction hi with
 | refl=>exact hp
 | step _ ho he hb ih=>exact h.clo _ _ ho ih _ he hb
def depsOf (ops:Array Oper) (k:Nat):List Nat:=match ops[k]? with | some o=>(o.after.toList.filter (Region.binds .any)).map (·.on) | none=>[]
def marks (ops:Array Oper):Nat→List Nat→List Nat
 | 0,m=>m
 | k+1,m=>marks ops k (if m.contains k then depsOf ops k ++ m else m)
theorem marks_anc {ops:Array Oper} {p:Nat}:∀ (k:Nat) (m:List Nat),(∀ x ∈ m,Anc ops p x)→∀ x ∈ marks ops k m,Anc ops p x
 | 0,_,h=>h
 | k+1,m,h=>by
  rw [marks]
  refine marks_anc k _ ?_
  split
  ·rename_i hk
   intro x hx
   rcases List.mem_append.1 hx with hx | hx
   ·unfold depsOf at hx
    split at hx
    ·rename_i o ho
     obtain ⟨e,he,rfl⟩:=List.mem_map.1 hx
     rw [List.mem_filter] at he
     exact .step (h k (by simpa using hk)) ho (by simpa using he.1) he.2
    ·cases hx
   ·exact h x hx
  ·exact h
def allBefore (ops:Array Oper) (p:Nat):Bool:=decide (ops.size≤p) || (List.range p).all fun i=>(marks ops (p+1) [p]).contains i
theorem before_anc {ops:Array Oper} {p:Nat} (h:allBefore ops p=true) (hp:p<ops.size) {i:Nat} (hi:i<p):Anc ops p i:=by
 unfold allBefore at h
 rw [Bool.or_eq_true] at h
 rcases h with h | h
 ·have:=of_decide_eq_true h;omega
 ·have:=List.all_eq_true.1 h i (List.mem_range.2 hi)
  exact marks_anc (p+1) [p] (fun x hx=>by rw [List.mem_singleton] at hx;subst hx;exact .refl) i (by simpa using this)
section
variable {P:Program} {G:Nat→World→World→Prop} {H:Bool→World→World→Prop} {p:Nat} {ops:Array Oper} {Q:Exit→Act→World→Prop} {Sp:Nat→World→Value→Prop} {a0:Act} {w0:World}
def Fits (ops:Array Oper) (a:Act):Prop:=
 (∀ (i:Nat) (o:Oper),ops[i]?=some o→o.guard=none)∧(∀ (i:Nat) (o:Oper) (d:Nat),ops[i]?=some o→o.dst=some d→d<a.tmps.size) ∧
 (∀ (i j:Nat) (oi oj:Oper) (d:Nat),ops[i]?=some oi→ops[j]?=some oj→oi.dst=some d→oj.dst=some d→i=j)
def fitsB (ops:Array Oper) (n:Nat):Bool:=
 ops.toList.all (fun o=>o.guard.isNone) && ops.toList.all (fun o=>match o.dst with | some d=>decide (d<n) | none=>true) && decide ((ops.toList.filterMap (·.dst)).Nodup)
theorem nodup_inj:∀ (l:List Oper) (i j:Nat) (oi oj:Oper) (d:Nat),(l.filterMap (·.dst)).Nodup→l[i]?=some oi→l[j]?=some oj→oi.dst=some d→oj.dst=some d→i=j
 | [],i,j,oi,oj,d,_,h,_,_,_=>by simp at h
 | o :: l,0,0,_,_,_,_,_,_,_,_=>rfl
 | o :: l,0,j+1,oi,oj,d,hn,hi,hj,h1,h2=>by
  simp only [List.getElem?_cons_zero,Option.some.injEq] at hi
  simp only [List.getElem?_cons_succ] at hj
  subst hi
  rw [List.filterMap_cons,h1,List.nodup_cons] at hn
  exact absurd (List.mem_filterMap.2 ⟨oj,List.mem_of_getElem? hj,h2⟩) hn.1
 | o :: l,i+1,0,oi,oj,d,hn,hi,hj,h1,h2=>by
  simp only [List.getElem?_cons_zero,Option.some.injEq] at hj
  simp only [List.getElem?_cons_succ] at hi
  subst hj
  rw [List.filterMap_cons,h2,List.nodup_cons] at hn
  exact absurd (List.mem_filterMap.2 ⟨oi,List.mem_of_getElem? hi,h1⟩) hn.1
 | o :: l,i+1,j+1,oi,oj,d,hn,hi,hj,h1,h2=>by
  simp only [List.getElem?_cons_succ] at hi hj
  have:(l.filterMap (·.dst)).Nodup:=by
   rw [List.filterMap_cons] at hn
   cases ho:o.dst with
   | none=>rw [ho] at hn;exact hn
   | some k=>rw [ho] at hn;exact (List.nodup_cons.1 hn).2
  rw [nodup_inj l i j oi oj d this hi hj h1 h2]
theorem fits_of {n:Nat} (h:fitsB ops n=true) {a:Act} (hs:a.tmps.size=n):Fits ops a:=by
 unfold fitsB at h
 simp only [Bool.and_eq_true,decide_eq_true_eq,List.all_eq_true] at h
 obtain ⟨⟨h1,h2⟩,h3⟩:=h
 refine ⟨fun i o ho=>?_,fun i o d ho hd=>?_,fun i j oi oj d hi hj e1 e2=>?_⟩
 ·have:=h1 o (List.mem_of_getElem? (by simpa using ho))
  simpa using this
 ·have:=h2 o (List.mem_of_getElem? (by simpa using ho))
  rw [hd] at this
  rw [hs]
  exact of_decide_eq_true this
 ·exact nodup_inj ops.toList i j oi oj d h3 (by simpa using hi) (by simpa using hj) e1 e2
theorem flag_of (hbef:∀ j,p≤j→allBefore ops j=true) {listed:Array Bool} {i:Nat} {o:Oper} (hi:ops[i]?=some o) (hsz:listed.size=ops.size) (hun:listed.getD i false=false) (hde:∀ e ∈ o.after,Region.binds .any e=true→listed.getD e.on false=true)
  {a:Act} {w:World} (h:Inv H p ops Sp a0 w0 listed a w):listed.getD p false=decide (p<i):=by
 have hips:i<ops.size:=(Array.getElem?_eq_some_iff.1 hi).1
 by_cases hpi:p<i
 ·rw [decide_eq_true hpi]
  have ha:Anc ops i p:=before_anc (hbef i (by omega)) hips hpi
  have:∀ {k:Nat},Anc ops i k→k=i∨listed.getD k false=true:=by
   intro k hk
   induction hk with
   | refl=>exact .inl rfl
   | step _ ho he hbd ih=>
    right
    rcases ih with rfl | ih
    ·rw [hi] at ho
     cases ho
     exact hde _ he hbd
    ·exact h.clo _ _ ho ih _ he hbd
  rcases this ha with h1 | h1
  ·omega
  ·exact h1
 ·rw [decide_eq_false hpi]
  cases hl:listed.getD p false with
  | false=>rfl
  | true=>
   by_cases hip:i=p
   ·rw [← hip,hun] at hl
    cases hl
   ·rcases Nat.lt_or_ge p ops.size with hps | hps
    ·have:=h.anc hl (before_anc (hbef p (Nat.le_refl _)) hps (by omega):Anc ops p i)
     rw [hun] at this
     cases this
    ·have:p<listed.size:=by
      rcases Nat.lt_or_ge p listed.size with h2 | h2
      ·exact h2
      ·rw [Array.getD_eq_getD_getElem?,Array.getElem?_eq_none h2] at hl;cases hl
     omega
theorem inv_step (hbef:∀ j,p≤j→allBefore ops j=true) (htr:∀ i a b c,H (decide (p<i)) a b→G i b c→H (decide (p≤i)) a c) (hmono:∀ i j W W' v,i ≠ j → ¬ (p≤j∧i<j)→G i W W'→Sp j W v→Sp j W' v) (hf:Fits ops a0) {listed:Array Bool} {i:Nat} {o:Oper} (hi:ops[i]?=some o) {a:Act} {w:World} (h:Inv H p ops Sp a0 w0 listed a w) {v:Value} {w':World} (hsz:listed.size=ops.size) (hun:listed.getD i false=false) (hde:∀ e ∈ o.after,Region.binds .any e=true→listed.getD e.on false=true)
  (hb:G i w w') (hv:Sp i w' (keepV o.dst v)):Inv H p ops Sp a0 w0 (listed.setIfInBounds i true) (a.put o.dst v) w':=by
 have hips:i<ops.size:=(Array.getElem?_eq_some_iff.1 hi).1
 have flag:listed.getD p false=decide (p<i):=flag_of hbef hi hsz hun hde h
 have hfl:(listed.setIfInBounds i true).getD p false=decide (p≤i):=by
  by_cases hip:i=p
  ·rw [hip,Array.getD_eq_getD_getElem?]
   have:p<listed.size:=by omega
   simp [this]
  ·rw [getD_set_ne false hip,flag]
   by_cases hpi:p<i
   ·rw [decide_eq_true hpi,decide_eq_true (Nat.le_of_lt hpi)]
   ·rw [decide_eq_false hpi,decide_eq_false (by omega)]
 refine ⟨by rw [hfl];exact htr _ _ _ _ (by rw [← flag];exact h.below) hb,by rw [size_put];exact h.size,by rw [defers_put];exact h.defers,fun d hd=>?_,fun j oj hj hl=>?_,fun j oj hj hl e he hbd=>?_⟩
 ·rw [slot_put_other ?_]
  ·refine h.else_ d fun j oj hj hdj=>?_
   have:=hd j oj hj hdj
   by_cases hji:j=i
   ·rw [hji];exact hun
   ·rwa [getD_set_ne false (Ne.symm hji)] at this
  ·intro e
   have:=hd i o hi e
   have hlt:i<listed.size:=by omega
   simp [Array.getD_eq_getD_getElem?,hlt] at this
 ·by_cases hji:j=i
  ·subst hji
   rw [hi] at hj
   cases hj
   cases hd:o.dst with
   | none=>
    rw [hd] at hv
    exact hv
   | some d=>
    have:=hf.2.1 j o d hi hd
    show Sp j w' ((a.put (some d) v).tmps.getD d undef)
    rw [slot_put_same (by rw [h.size];exact this)]
    rw [hd] at hv
    exact hv
  ·have hl':listed.getD j false=true:=by rw [getD_set_ne false (Ne.symm hji)] at hl;exact hl
   have hlt:j<ops.size:=(Array.getElem?_eq_some_iff.1 hj).1
   have h1:=hmono i j w w' _ (Ne.symm hji) (fun hh=>by
    have:=h.anc hl' (before_anc (hbef j hh.1) hlt hh.2:Anc ops j i)
    rw [hun] at this
    cases this) hb (h.done j oj hj hl')
   cases hd:oj.dst with
   | none=>rw [hd] at h1;exact h1
   | some d=>
    rw [hd] at h1
    show Sp j w' ((a.put o.dst v).tmps.getD d undef)
    rw [slot_put_other (fun e=>hji (hf.2.2 j i oj o d hj hi hd e))]
    exact h1
 ·by_cases hji:j=i
  ·subst hji
   rw [hi] at hj
   cases hj
   have:=hde e he hbd
   by_cases hee:e.on=j
   ·rw [hee] at this
    rw [hun] at this
    cases this
   ·rw [getD_set_ne false (fun h=>hee h.symm)]
    exact this
  ·have hl':listed.getD j false=true:=by rw [getD_set_ne false (Ne.symm hji)] at hl;exact hl
   have:=h.clo j oj hj hl' e he hbd
   by_cases hee:e.on=i
   ·rw [hee] at this
    rw [hun] at this
    cases this
   ·rw [getD_set_ne false (fun h=>hee h.symm)]
    exact this
theorem step_sound (hbef:∀ j,p≤j→allBefore ops j=true) (htr:∀ i a b c,H (decide (p<i)) a b→G i b c→H (decide (p≤i)) a c) (hmono:∀ i j W W' v,i ≠ j → ¬ (p≤j∧i<j)→G i W W'→Sp j W v→Sp j W' v) (hf:Fits ops a0) (hop:∀ (i:Nat) (o:Oper),ops[i]?=some o→OpOK P G H p ops Sp a0 w0 i o)
  {K:Act→World→Prop} {listed:Array Bool} {i:Nat} {o:Oper} (hi:ops[i]?=some o) (hsz:listed.size=ops.size) (hun:listed.getD i false=false) (hd:∀ e ∈ o.after,Region.binds .any e=true→listed.getD e.on false=true) {a:Act} {w:World} (h:Inv H p ops Sp a0 w0 listed a w)
  (hK:∀ a' w',Inv H p ops Sp a0 w0 (listed.setIfInBounds i true) a' w'→K a' w'):wpOp P ops Q i K a w:=by
 unfold wpOp
 rw [hi]
 have hg:=hf.1 i o hi
 simp only [show Region.wanted o (yielded ops a.tmps)=true by simp [Region.wanted,hg],if_true]
 left
 have ho:=hop i o hi
 have:=ho a.eval w (flag_of hbef hi hsz hun hd h ▸ h.below) ⟨fun d hd'=>h.else_ d (fun j oj hj hdj=>by
   have:d ∈ ops.toList.filterMap (·.dst):=List.mem_filterMap.2 ⟨oj,List.mem_of_getElem? (by simpa using hj),hdj⟩
   simp only [freeB,List.contains_eq_mem,decide_eq_true this] at hd'
   cases hd'),fun d hd'=>h.else_ d (fun j oj hj hdj=>by
   have hlt:j<ops.size:=(Array.getElem?_eq_some_iff.1 hj).1
   have h1:=List.all_eq_true.1 hd' j (List.mem_range.2 hlt)
   rw [hj] at h1
   simp only [hdj,beq_self_eq_true,Bool.not_true,Bool.false_or,Bool.and_eq_true,decide_eq_true_eq] at h1
   cases hl:listed.getD j false with
   | false=>rfl
   | true=>
    have:=h.anc hl (before_anc (hbef j h1.1) hlt h1.2:Anc ops j i)
    rw [hun] at this
    cases this),fun _=>rfl,fun _=>rfl,fun _=>rfl⟩ (fun j d hdep=>by
  unfold depB at hdep
  rw [Bool.and_eq_true] at hdep
  obtain ⟨hany,hdst⟩:=hdep
  cases hj:ops[j]? with
  | none=>rw [hj] at hdst;cases hdst
  | some oj=>
   rw [hj] at hdst
   have hdd:oj.dst=some d:=by simpa using hdst
   have:=h.done j oj hj (by
    obtain ⟨k,hk,h1⟩:=Array.any_eq_true.1 hany
    rw [Bool.and_eq_true,beq_iff_eq] at h1
    rw [← h1.1]
    exact hd _ (Array.getElem_mem hk) h1.2)
   rw [hdd] at this
   exact this)
 unfold Oper.wp
 rcases this with ⟨v,w',h1,h2,h3⟩ | ⟨w',h1,h2,h3⟩ | ⟨f,args,h1,h2⟩
 ·rw [h1]
  exact hK _ _ (inv_step hbef htr hmono hf hi h hsz hun hd h2 h3)
 ·rw [h1]
  exact hK _ _ (inv_step hbef htr hmono hf hi h hsz hun hd h2 h3)
 ·rw [h1]
  refine Calls.mono h2 fun e w' hR=>?_
  obtain ⟨v,rfl,h3,h4⟩:=hR
  exact hK _ _ (inv_step hbef htr hmono hf hi h hsz hun hd h3 h4)
theorem any_sound (hbef:∀ j,p≤j→allBefore ops j=true) (htr:∀ i a b c,H (decide (p<i)) a b→G i b c→H (decide (p≤i)) a c) (hmono:∀ i j W W' v,i ≠ j → ¬ (p≤j∧i<j)→G i W W'→Sp j W v→Sp j W' v) (hf:Fits ops a0) (hop:∀ (i:Nat) (o:Oper),ops[i]?=some o→OpOK P G H p ops Sp a0 w0 i o)
  (hfwd:∀ (i:Nat) (o:Oper),ops[i]?=some o→∀ e ∈ o.after,Region.binds .any e=true→e.on<i)
  (hQ:∀ a w,H (decide (p<ops.size)) w0 w→a.tmps.size=a0.tmps.size→a.defers=a0.defers→(∀ d,(ops.toList.filterMap (·.dst)).contains d=false→a.tmps.getD d undef=a0.tmps.getD d undef)→(∀ (j:Nat) (o:Oper),ops[j]?=some o→Sp j w (slotOf a o.dst))→Q .normal a w) :
  ∀ (fuel:Nat) (listed:Array Bool) (a:Act) (w:World),listed.size=ops.size→(listed.toList.filter (fun b=>!b)).length≤fuel→Inv H p ops Sp a0 w0 listed a w→wpAny P .any ops Q fuel listed a w:=by
 have fin:∀ (listed:Array Bool) (a:Act) (w:World),listed.size=ops.size→Region.ready .any ops listed=[]→Inv H p ops Sp a0 w0 listed a w→Q .normal a w:=by
  intro listed a w hsz hr h
  have all:∀ j o,ops[j]?=some o→listed.getD j false=true:=by
   intro j
   induction j using Nat.strongRecOn with
   | _ j ih=>
    intro o ho
    have hj:j<listed.size:=by rw [hsz];exact (Array.getElem?_eq_some_iff.1 ho).1
    cases hl:listed.getD j false with
    | true=>rfl
    | false=>
     have:j ∈ Region.ready .any ops listed:=mem_ready.2 ⟨by
      simp [Array.getD_eq_getD_getElem?,hj] at hl ⊢;exact hl,o,ho,fun e he hb=>by
       have hlt:=hfwd j o ho e he hb
       have hlt':e.on<ops.size:=by omega
       exact ih e.on hlt _ (Array.getElem?_eq_getElem hlt')⟩
     rw [hr] at this
     cases this
  have hfin:listed.getD p false=decide (p<ops.size):=by
   by_cases hp:p<ops.size
   ·rw [decide_eq_true hp]
    exact all p _ (Array.getElem?_eq_getElem hp)
   ·rw [decide_eq_false hp,Array.getD_eq_getD_getElem?,Array.getElem?_eq_none (by omega)]
    rfl
  exact hQ a w (hfin ▸ h.below) h.size h.defers (fun d hd=>h.else_ d (fun j oj hj hdj=>by
   have:d ∈ ops.toList.filterMap (·.dst):=List.mem_filterMap.2 ⟨oj,List.mem_of_getElem? (by simpa using hj),hdj⟩
   rw [List.contains_eq_mem,decide_eq_true this] at hd
   cases hd)) (fun j o ho=>h.done j o ho (all j o ho))
 intro fuel
 induction fuel with
 | zero=>
  intro listed a w hsz hfu h
  have hr:Region.ready .any ops listed=[]:=by
   cases hc:Region.ready .any ops listed with
   | nil=>rfl
   | cons j l=>
    have hj:j ∈ Region.ready .any ops listed:=by rw [hc];exact List.mem_cons_self ..
    obtain ⟨h1,o,ho,_⟩:=mem_ready.1 hj
    have hlt:j<listed.size:=by rw [hsz];exact (Array.getElem?_eq_some_iff.1 ho).1
    have:listed[j] ∈ listed.toList.filter (fun b=>!b):=List.mem_filter.2 ⟨by simp,by simp [Array.getD_eq_getD_getElem?,hlt] at h1;simp [h1]⟩
    have:=List.length_pos_of_mem this
    omega
  exact ⟨hr,fin listed a w hsz hr h⟩
 | succ fuel ih=>
  intro listed a w hsz hfu h
  refine ⟨fun hr=>fin listed a w hsz hr h,fun i hi=>?_⟩
  obtain ⟨h1,o,ho,hd⟩:=mem_ready.1 hi
  have hlt:i<listed.size:=by rw [hsz];exact (Array.getElem?_eq_some_iff.1 ho).1
  have hunl:listed.getD i false=false:=by
   simp [Array.getD_eq_getD_getElem?,hlt] at h1 ⊢
   exact h1
  refine step_sound hbef htr hmono hf hop ho hsz hunl hd h fun a' w' h'=>ih _ a' w' (by simpa using hsz) ?_ h'
  have hli:listed.toList[i]'(by simpa using hlt)=false:=by
   simp [Array.getD_eq_getD_getElem?,hlt] at h1
   simpa using h1
  have key:∀ (l:List Bool) (i:Nat) (h:i<l.length),l[i]=false→((l.set i true).filter (fun b=>!b)).length+1=(l.filter (fun b=>!b)).length:=by
   intro l
   induction l with
   | nil=>intro i h;simp at h
   | cons b l ihl=>
    intro i h hb
    cases i with
    | zero=>simp at hb;subst hb;simp
    | succ i=>
     have:=ihl i (by simpa using h) (by simpa using hb)
     cases b <;> simp [← this]
  have:=key listed.toList i (by simpa using hlt) hli
  rw [← Array.toList_setIfInBounds] at this
  omega
def fwdB:Nat→List Oper→Bool
 | _,[]=>true
 | i,o :: l=>o.after.all (fun e=>!Region.binds .any e || decide (e.on<i)) && fwdB (i+1) l
theorem fwd_of:∀ (l:List Oper) (k:Nat),fwdB k l=true→∀ (i:Nat) (o:Oper),l[i]?=some o→∀ e ∈ o.after,Region.binds .any e=true→e.on<k+i
 | [],_,_,i,o,h=>by simp at h
 | x :: l,k,hb,i,o,h=>by
  rw [fwdB,Bool.and_eq_true] at hb
  cases i with
  | zero=>
   simp only [List.getElem?_cons_zero,Option.some.injEq] at h
   subst h
   intro e he hbd
   have:=Array.all_eq_true_iff_forall_mem.1 hb.1 e he
   rw [hbd] at this
   rw [Nat.add_zero]
   exact of_decide_eq_true (by simpa using this)
  | succ i=>
   simp only [List.getElem?_cons_succ] at h
   intro e he hbd
   have:=fwd_of l (k+1) hb.2 i o h e he hbd
   omega
def OpsOK (P:Program) (G:Nat→World→World→Prop) (H:Bool→World→World→Prop) (p:Nat) (ops:Array Oper) (Sp:Nat→World→Value→Prop) (a:Act) (w:World):Nat→List Oper→Prop
 | _,[]=>True
 | i,o :: l=>OpOK P G H p ops Sp a w i o∧OpsOK P G H p ops Sp a w (i+1) l
theorem opsOK_get:∀ (l:List Oper) (k:Nat),OpsOK P G H p ops Sp a0 w0 k l→∀ (i:Nat) (o:Oper),l[i]?=some o→OpOK P G H p ops Sp a0 w0 (k+i) o
 | [],_,_,i,o,h=>by simp at h
 | x :: l,k,hb,0,o,h=>by
  simp only [List.getElem?_cons_zero,Option.some.injEq] at h
  subst h
  exact hb.1
 | x :: l,k,hb,i+1,o,h=>by
  simp only [List.getElem?_cons_succ] at h
  have:=opsOK_get l (k+1) hb.2 i o h
  rwa [show k+1+i=k+(i+1) by omega] at this
theorem region_grow_p {l:List Oper} (G:Nat→World→World→Prop) (H:Bool→World→World→Prop) (p:Nat) {id n:Nat} {a:Act} {w:World} (Sp:Nat→World→Value→Prop) (hm:P.follows .mixedOrders=true) (hn:a.tmps.size=n) (hfit:fitsB l.toArray n=true) (hfwd:fwdB 0 l=true) (hdr:H false w { w with drawn:=w.drawn+1 })
  (hbef:∀ j,p≤j→allBefore l.toArray j=true) (htr:∀ i a b c,H (decide (p<i)) a b→G i b c→H (decide (p≤i)) a c) (hmono:∀ i j W W' v,i ≠ j → ¬ (p≤j∧i<j)→G i W W'→Sp j W v→Sp j W' v) (hop:OpsOK P G H p l.toArray Sp a w 0 l)
  (hQ:∀ (x:Nat→Value) W',H (decide (p<l.length)) w W'→(∀ j,j<l.length→Sp j W' (x j))→Q .normal (putAll a x 0 l) W'):(Code.region id l.toArray true).wp P Q a w:=by
 have hf:=fits_of hfit hn
 refine wp_region_any hm (any_sound (Sp:=Sp) (a0:=a) (w0:=w) hbef htr hmono hf (fun i o ho=>?_) (fun i o ho=>?_) ?_ _ _ a _ (by simp) (by simp) ⟨(by rw [Array.getD_eq_getD_getElem?,Array.getElem?_replicate];split <;> exact hdr),rfl,rfl,fun _ _=>rfl,fun j o hj hl=>?_,fun j o hj hl=>?_⟩)
 ·have:=opsOK_get l 0 hop i o (by simpa using ho)
  rwa [Nat.zero_add] at this
 ·have:=fwd_of l 0 hfwd i o (by simpa using ho)
  rwa [Nat.zero_add] at this
 ·intro a' w' hb hs hd he hdone
  have hdst:∀ (i:Nat) (o:Oper),l[i]?=some o→l.toArray[i]?=some o:=fun i o h=>by simpa using h
  have e:putAll a (fun j=>match l[j]? with | some o=>slotOf a' o.dst | none=>undef) 0 l=a':=by
   have h1:=putAll_size (fun j=>match l[j]? with | some o=>slotOf a' o.dst | none=>undef) l a 0
   have h2:=putAll_defers (fun j=>match l[j]? with | some o=>slotOf a' o.dst | none=>undef) l a 0
   have h3:(putAll a (fun j=>match l[j]? with | some o=>slotOf a' o.dst | none=>undef) 0 l).tmps=a'.tmps:=by
    apply Array.ext
    ·rw [h1,hs]
    ·intro d hd1 hd2
     have:=putAll_get a' (fun j=>match l[j]? with | some o=>slotOf a' o.dst | none=>undef) d l a 0 hs (fun k o hk=>by simp [hk]) (by
      by_cases hc:d ∈ l.filterMap (·.dst)
      ·exact .inr hc
      ·left
       refine (he d ?_).symm
       simpa using hc)
     simpa [Array.getD_eq_getD_getElem?,hd1,hd2] using this
   cases hp:putAll a (fun j=>match l[j]? with | some o=>slotOf a' o.dst | none=>undef) 0 l with
   | mk t ds=>
    rw [hp] at h2 h3
    simp only at h2 h3
    cases a'
    simp only at hd h3
    rw [h2,h3,hd]
  rw [← e]
  refine hQ _ w' hb (fun j hj=>?_)
  have hj':l[j]?=some l[j]:=List.getElem?_eq_getElem hj
  have:=hdone j l[j] (hdst j _ hj')
  simp only [hj']
  exact this
 ·rw [Array.getD_eq_getD_getElem?,Array.getElem?_replicate] at hl
  split at hl <;> cases hl
 ·rw [Array.getD_eq_getD_getElem?,Array.getElem?_replicate] at hl
  split at hl <;> cases hl
theorem before_from {ops:Array Oper} {p:Nat} (h:(List.range ops.size).all (fun j=>decide (j<p) || allBefore ops j)=true):∀ j,p≤j→allBefore ops j=true:=by
 intro j hj
 rcases Nat.lt_or_ge j ops.size with hlt | hge
 ·have:=List.all_eq_true.1 h j (List.mem_range.2 hlt)
  rw [Bool.or_eq_true] at this
  rcases this with h | h
  ·have:=of_decide_eq_true h;omega
  ·exact h
 ·simp only [allBefore]
  simp [hge]
end
section
variable {P:Program} {o:Oper} {ev:Operand→Value} {W:World} {R:World→Value→Prop}
theorem ok_val {v:Value} (h:(execOp ev o).run P W=.ok (.value v) W) (hR:R W v):StepOK P o ev W R:=.inl ⟨v,W,h,hR⟩
theorem ok_new {v:Value} {W':World} (h:(execOp ev o).run P W=.ok (.value v) W') (hR:R W' v):StepOK P o ev W R:=.inl ⟨v,W',h,hR⟩
theorem ok_call {f:FuncId} {args:Array Value} (h:(execOp ev o).run P W=.ok (.enter f args) W) (hc:Calls P f args W fun e w'=>∃ v,e=.returned v∧R w' v):StepOK P o ev W R:=.inr (.inr ⟨f,args,h,hc⟩)
end
end Go.GrowQ
