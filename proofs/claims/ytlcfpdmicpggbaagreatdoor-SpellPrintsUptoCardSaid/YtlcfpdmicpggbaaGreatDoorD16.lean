/- Texts of the seat, merged. -/
import Derived.Carry
import Derived.ChangeOld
import Derived.Deep.DeepHandedRow
import Derived.Deep.Slices
import Derived.HandedShaped
import Derived.LaidLaws
import Derived.LaidMore
import Derived.Lay
import Derived.Lib.LaidU8
import Derived.OpenShut
import Derived.ProofKit
import Derived.SevenTiedAt
import Derived.Shelf.Vars
import Derived.ShutString
import Derived.Stop.Joined
import Derived.Test.YtlcfpdmicpggbaaGreatDoorCards
import Derived.Test.YtlcfpdmicpggbaaGreatDoorD11
import Derived.Test.YtlcfpdmicpggbaaGreatDoorRows
import Derived.Test.YtlcfpdmicpggbaaGreatDoorTie
set_option linter.unusedVariables false
set_option linter.unusedSimpArgs false
set_option maxRecDepth 100000
set_option maxHeartbeats 16000000
namespace Go.Proofs.YtlcfpdmicpggbaaGreatDoor
open Go.Lib (hid)
open Go.ChangeShapes Go.WideShapes Go.ChangeAt Go.RowKit Go.Proofs.Spl Go.Proofs.Scn Go.Shelf
section
variable {H:Type} {enc:TypeId × Value→H} {W:World}
def Reads {α:Type} (R:α→List Value→Prop) (sz:α→Nat) (sm:α→Bool) (cs:List Value) (d:DataW H):Prop:=
 ∃ a,R a cs∧sz a≤Rows.uptoBulk d∧(Rows.uptoBulk d≤1048576→sm a=true)
theorem build {α:Type} (sz:α→Nat) (sm:α→Bool):∀ (es:List (DataW H × List MemPlace)) (P:Nat→α→Prop),
  (∀ i (h:i<es.length),∃ x,P i x∧sz x≤Rows.uptoBulk es[i].1∧(Rows.uptoBulk es[i].1≤1048576→sm x=true)) →
  ∃ l:List α,l.length=es.length∧(∀ i (h:i<l.length),P i l[i])∧sumN sz l≤Rows.uptoBulkAll (es.map (·.1))∧(Rows.uptoBulkAll (es.map (·.1))≤1048576→l.all sm=true)
 | [],P,_=>⟨[],rfl,fun i h=>absurd h (by simp),Nat.zero_le _,fun _=>rfl⟩
 | e :: es,P,h=>by
  obtain ⟨x,h1,h2,h3⟩:=h 0 (by simp)
  obtain ⟨l,k0,k1,k2,k3⟩:=build sz sm es (fun i=>P (i+1)) (fun i hi=>h (i+1) (by simpa using hi))
  have e1:sumN sz (x :: l)=sz x+sumN sz l:=rfl
  have e2:Rows.uptoBulkAll ((e :: es).map (·.1))=Rows.uptoBulk e.1+Rows.uptoBulkAll (es.map (·.1)):=rfl
  simp only [List.getElem_cons_zero] at h2 h3
  refine ⟨x :: l,by simp [k0],fun i hi=>?_,by rw [e1,e2];omega,fun hb=>?_⟩
  ·cases i with
   | zero=>exact h1
   | succ i=>exact k1 i (by simpa using hi)
  ·rw [e2] at hb
   rw [List.all_cons,h3 (by omega),k3 (by omega)]
   rfl
theorem els_read {α:Type} {R:α→List Value→Prop} {sz:α→Nat} {sm:α→Bool} {t e:TypeId} {m n:Nat} {cs:List Value} {y:DataW H × List MemPlace} (ht:Tryz.prog.underlying t=some (.slice e)) (he:Tryz.prog.cellsOf e=m) (hm:0<m)
  (hf:DataW.trod enc Tryz.prog W 0 (fun _=>true) true n t cs=some y) (hQ:∀ n' cs y',n'<n→DataW.trod enc Tryz.prog W 0 (fun _=>true) true n' e cs=some y'→Reads R sz sm cs y'.1) :
  ∃ p cap l,cs=[.slice p l.length cap]∧Els W m R (.slice p l.length cap) l∧sumN sz l+1≤Rows.uptoBulk y.1∧(Rows.uptoBulk y.1≤1048576→l.all sm=true):=by
 rcases DataW.trod_slice ht hf with ⟨rfl,rfl⟩ | ⟨a,len,cap,elems,rest,n',rfl,rfl,rfl,_,hle,_,hlen,hel,_,_⟩
 ·exact ⟨none,0,[],rfl,⟨_,_,rfl,Nat.le_refl _,.inl rfl⟩,by simp [sumN,Rows.uptoBulk],fun _=>rfl⟩
 have each:∀ i (h:i<elems.length),∃ x,(fun i x=>∃ cs',R x cs'∧cs'.length=m∧∀ j,j<m→W.cell? ((a.add (i * m)).add j)=cs'[j]?) i x∧sz x≤Rows.uptoBulk elems[i].1∧(Rows.uptoBulk elems[i].1≤1048576→sm x=true):=by
  intro i hi
  have h1:=hel i (by omega)
  rw [List.getElem?_eq_getElem hi] at h1
  obtain ⟨cs',h2,h3⟩:=Option.bind_eq_some_iff.1 h1
  rw [he] at h2
  obtain ⟨_,hl,hc⟩:=World.cells?_some h2
  obtain ⟨x,k1,k2,k3⟩:=hQ n' cs' _ (Nat.lt_succ_self _) h3
  exact ⟨x,⟨cs',k1,hl,hc⟩,k2,k3⟩
 obtain ⟨l,k0,k1,k2,k3⟩:=build sz sm elems _ each
 have hb:Rows.uptoBulk (DataW.slice (elems.map (·.1)) (rest.map (·.1)))=Rows.uptoBulkAll (elems.map (·.1))+Rows.uptoBulkAll (rest.map (·.1))+1:=by rw [Rows.uptoBulk]
 obtain rfl:len=l.length:=by omega
 refine ⟨some a,cap,l,rfl,⟨_,_,rfl,hle,?_⟩,by rw [hb];omega,fun h=>k3 (by rw [hb] at h;omega)⟩
 by_cases h0:l=[]
 ·exact .inl h0
 right
 have hpos:0<l.length:=List.length_pos_iff.2 h0
 obtain ⟨b,off,spot⟩:=a
 have hsp:spot=none:=by
  obtain ⟨cs,_,h1,h3⟩:=k1 0 hpos
  have h4:=h3 0 hm
  rw [List.getElem?_eq_getElem (by omega)] at h4
  have:=World.cell?_spot h4
  simpa [Addr.add] using this
 subst hsp
 have each':∀ i (h:i<l.length),∃ cs,R l[i] cs∧cs.length=m∧∀ j,j<m→W.cell? ⟨b,off+i * m+j,none⟩=cs[j]?:=by
  intro i hi
  obtain ⟨cs,h1,h2,h3⟩:=k1 i hi
  refine ⟨cs,h1,h2,fun j hj=>?_⟩
  have:=h3 j hj
  rw [add_plain,add_plain] at this
  exact this
 refine ⟨b,off,rfl,?_,fun k hk=>?_⟩
 ·obtain ⟨cs,_,h1,h3⟩:=each' 0 hpos
  have h4:=h3 0 hm
  rw [List.getElem?_eq_getElem (by omega)] at h4
  exact World.block_lt_of_cell? _ _ h4
 ·obtain ⟨cs,h1,_,h3⟩:=each' k hk
  exact ⟨cs,h1,h3⟩
theorem int_read {n:Nat} {cs:List Value} {y:DataW H × List MemPlace} (h:DataW.trod enc Tryz.prog W 0 (fun _=>true) true n 3 cs=some y):∃ a:Int,cs=[.int .i64 a]:=by
 obtain ⟨a,e,_,_⟩:=DataW.trod_int (show Tryz.prog.underlying 3=some (.int .i64) by kernel_rfl) h
 exact ⟨a,e⟩
theorem u64_read {n:Nat} {cs:List Value} {y:DataW H × List MemPlace} (h:DataW.trod enc Tryz.prog W 0 (fun _=>true) true n 25 cs=some y):∃ a:Nat,cs=[.int .u64 a]∧a<two64:=by
 obtain ⟨a,e,_,wf⟩:=DataW.trod_int (show Tryz.prog.underlying 25=some (.int .u64) by kernel_rfl) h
 simp [Lit.wf,IntKind.min,IntKind.max,IntKind.signed,IntKind.bits] at wf
 refine ⟨a.toNat,by rw [e,show ((a.toNat:Nat):Int)=a by omega],?_⟩
 unfold two64
 omega
theorem bool_read {n:Nat} {cs:List Value} {y:DataW H × List MemPlace} (h:DataW.trod enc Tryz.prog W 0 (fun _=>true) true n 4 cs=some y):∃ a:Bool,cs=[.bool a]:=by
 obtain ⟨a,e,_⟩:=DataW.trod_bool (show Tryz.prog.underlying 4=some .bool by kernel_rfl) h
 exact ⟨a,e⟩
theorem str_read {n:Nat} {cs:List Value} {y:DataW H × List MemPlace} (h:DataW.trod enc Tryz.prog W 0 (fun _=>true) true n 9 cs=some y):∃ a:Ln,cs=[.string (bs a)]∧a.length+1≤Rows.uptoBulk y.1:=by
 obtain ⟨a,e,hy,_⟩:=DataW.trod_string (show Tryz.prog.underlying 9=some .string by kernel_rfl) h
 exact ⟨a.data.toList,e,by rw [hy];simp [Rows.uptoBulk]⟩
end
end Go.Proofs.YtlcfpdmicpggbaaGreatDoor
namespace Go.Proofs.YtlcfpdmicpggbaaGreatDoor
open Go.Lib (hid)
open Go.ChangeShapes Go.WideShapes Go.ChangeAt Go.RowKit Go.Proofs.Spl Go.Proofs.Scn Go.Shelf
section
variable {H:Type} {enc:TypeId × Value→H} {W:World}
theorem tlen2 {α:Type} {l:List α} (h:l.length=2):∃ a0 a1,l=[a0,a1]:=by
 match l,h with
 | [a0,a1],_=>exact ⟨a0,a1,rfl⟩
theorem tlen3 {α:Type} {l:List α} (h:l.length=3):∃ a0 a1 a2,l=[a0,a1,a2]:=by
 match l,h with
 | [a0,a1,a2],_=>exact ⟨a0,a1,a2,rfl⟩
theorem tlen4 {α:Type} {l:List α} (h:l.length=4):∃ a0 a1 a2 a3,l=[a0,a1,a2,a3]:=by
 match l,h with
 | [a0,a1,a2,a3],_=>exact ⟨a0,a1,a2,a3,rfl⟩
theorem tlen5 {α:Type} {l:List α} (h:l.length=5):∃ a0 a1 a2 a3 a4,l=[a0,a1,a2,a3,a4]:=by
 match l,h with
 | [a0,a1,a2,a3,a4],_=>exact ⟨a0,a1,a2,a3,a4,rfl⟩
theorem tlen6 {α:Type} {l:List α} (h:l.length=6):∃ a0 a1 a2 a3 a4 a5,l=[a0,a1,a2,a3,a4,a5]:=by
 match l,h with
 | [a0,a1,a2,a3,a4,a5],_=>exact ⟨a0,a1,a2,a3,a4,a5,rfl⟩
theorem tlen7 {α:Type} {l:List α} (h:l.length=7):∃ a0 a1 a2 a3 a4 a5 a6,l=[a0,a1,a2,a3,a4,a5,a6]:=by
 match l,h with
 | [a0,a1,a2,a3,a4,a5,a6],_=>exact ⟨a0,a1,a2,a3,a4,a5,a6,rfl⟩
theorem tlen8 {α:Type} {l:List α} (h:l.length=8):∃ a0 a1 a2 a3 a4 a5 a6 a7,l=[a0,a1,a2,a3,a4,a5,a6,a7]:=by
 match l,h with
 | [a0,a1,a2,a3,a4,a5,a6,a7],_=>exact ⟨a0,a1,a2,a3,a4,a5,a6,a7,rfl⟩
theorem tlen9 {α:Type} {l:List α} (h:l.length=9):∃ a0 a1 a2 a3 a4 a5 a6 a7 a8,l=[a0,a1,a2,a3,a4,a5,a6,a7,a8]:=by
 match l,h with
 | [a0,a1,a2,a3,a4,a5,a6,a7,a8],_=>exact ⟨a0,a1,a2,a3,a4,a5,a6,a7,a8,rfl⟩
theorem x_read:∀ (n:Nat) (cs:List Value) (y:DataW H × List MemPlace),DataW.trod enc Tryz.prog W 0 (fun _=>true) true n 28 cs=some y→Reads (XR W) sizeX smX cs y.1:=by
 intro n
 induction n using Nat.strongRecOn with
 | _ n ih=>
  intro cs y hf
  obtain ⟨xs,n',rfl,rfl,hcl,hlen,hg⟩:=DataW.trod_struct Tryz.underlying28 hf
  rw [show Tryz.prog.cellsOf 28=6 by kernel_rfl] at hcl
  obtain ⟨c0,c1,c2,c3,c4,c5,rfl⟩:=tlen6 hcl
  obtain ⟨y0,y1,y2,y3,y4,y5,rfl⟩:=tlen6 hlen
  have g0:=hg 0 _ rfl
  change DataW.trod enc Tryz.prog W 0 (fun _=>true) true n' 3 (List.take (Tryz.prog.cellsOf 3) [c0,c1,c2,c3,c4,c5])=some y0 at g0
  rw [show Tryz.prog.cellsOf 3=1 by kernel_rfl] at g0
  replace g0:DataW.trod enc Tryz.prog W 0 (fun _=>true) true n' 3 [c0]=some y0:=g0
  obtain ⟨a0,e0⟩:=int_read g0
  simp only [List.cons.injEq,and_true] at e0
  subst e0
  have g1:=hg 1 _ rfl
  change DataW.trod enc Tryz.prog W 0 (fun _=>true) true n' 9 (List.take (Tryz.prog.cellsOf 9) [c1,c2,c3,c4,c5])=some y1 at g1
  rw [show Tryz.prog.cellsOf 9=1 by kernel_rfl] at g1
  replace g1:DataW.trod enc Tryz.prog W 0 (fun _=>true) true n' 9 [c1]=some y1:=g1
  obtain ⟨a1,e1,b1⟩:=str_read g1
  simp only [List.cons.injEq,and_true] at e1
  subst e1
  have g2:=hg 2 _ rfl
  change DataW.trod enc Tryz.prog W 0 (fun _=>true) true n' 3 (List.take (Tryz.prog.cellsOf 3) [c2,c3,c4,c5])=some y2 at g2
  rw [show Tryz.prog.cellsOf 3=1 by kernel_rfl] at g2
  replace g2:DataW.trod enc Tryz.prog W 0 (fun _=>true) true n' 3 [c2]=some y2:=g2
  obtain ⟨a2,e2⟩:=int_read g2
  simp only [List.cons.injEq,and_true] at e2
  subst e2
  have g3:=hg 3 _ rfl
  change DataW.trod enc Tryz.prog W 0 (fun _=>true) true n' 3 (List.take (Tryz.prog.cellsOf 3) [c3,c4,c5])=some y3 at g3
  rw [show Tryz.prog.cellsOf 3=1 by kernel_rfl] at g3
  replace g3:DataW.trod enc Tryz.prog W 0 (fun _=>true) true n' 3 [c3]=some y3:=g3
  obtain ⟨a3,e3⟩:=int_read g3
  simp only [List.cons.injEq,and_true] at e3
  subst e3
  have g4:=hg 4 _ rfl
  change DataW.trod enc Tryz.prog W 0 (fun _=>true) true n' 25 (List.take (Tryz.prog.cellsOf 25) [c4,c5])=some y4 at g4
  rw [show Tryz.prog.cellsOf 25=1 by kernel_rfl] at g4
  replace g4:DataW.trod enc Tryz.prog W 0 (fun _=>true) true n' 25 [c4]=some y4:=g4
  obtain ⟨a4,e4,v4⟩:=u64_read g4
  simp only [List.cons.injEq,and_true] at e4
  subst e4
  have g5:=hg 5 _ rfl
  change DataW.trod enc Tryz.prog W 0 (fun _=>true) true n' 26 (List.take (Tryz.prog.cellsOf 26) [c5])=some y5 at g5
  rw [show Tryz.prog.cellsOf 26=1 by kernel_rfl] at g5
  replace g5:DataW.trod enc Tryz.prog W 0 (fun _=>true) true n' 26 [c5]=some y5:=g5
  obtain ⟨p5,k5,a5,e5,r5,b5,s5⟩:=els_read (m:=6) Tryz.underlying26 (by kernel_rfl) (by decide) g5 (fun n2 cs y hn h=>ih n2 (by omega) cs y h)
  simp only [List.cons.injEq,and_true] at e5
  subst e5
  have hbulk:Rows.uptoBulk (DataW.agg ([y0,y1,y2,y3,y4,y5].map (·.1)))=Rows.uptoBulk y0.1+Rows.uptoBulk y1.1+Rows.uptoBulk y2.1+Rows.uptoBulk y3.1+Rows.uptoBulk y4.1+Rows.uptoBulk y5.1+1:=by simp only [List.map_cons,List.map_nil,Rows.uptoBulk,Rows.uptoBulkAll];omega
  refine ⟨.mk a0 a1 a2 a3 a4 a5,XR_iff.2 ⟨v4,_,rfl,r5⟩,?_,fun h=>?_⟩
  ·rw [sizeX,sizeXs_sum,hbulk];omega
  ·rw [hbulk] at h;rw [smX_iff];simp only [X.name,X.l,s5 (by omega),Bool.and_true];exact decide_eq_true (show a1.length≤140737488355328 by omega)
theorem s_read:∀ (n:Nat) (cs:List Value) (y:DataW H × List MemPlace),DataW.trod enc Tryz.prog W 0 (fun _=>true) true n 31 cs=some y→Reads (SR W) sizeS smS cs y.1:=by
 intro n
 induction n using Nat.strongRecOn with
 | _ n ih=>
  intro cs y hf
  obtain ⟨xs,n',rfl,rfl,hcl,hlen,hg⟩:=DataW.trod_struct Tryz.underlying31 hf
  rw [show Tryz.prog.cellsOf 31=4 by kernel_rfl] at hcl
  obtain ⟨c0,c1,c2,c3,rfl⟩:=tlen4 hcl
  obtain ⟨y0,y1,y2,y3,rfl⟩:=tlen4 hlen
  have g0:=hg 0 _ rfl
  change DataW.trod enc Tryz.prog W 0 (fun _=>true) true n' 3 (List.take (Tryz.prog.cellsOf 3) [c0,c1,c2,c3])=some y0 at g0
  rw [show Tryz.prog.cellsOf 3=1 by kernel_rfl] at g0
  replace g0:DataW.trod enc Tryz.prog W 0 (fun _=>true) true n' 3 [c0]=some y0:=g0
  obtain ⟨a0,e0⟩:=int_read g0
  simp only [List.cons.injEq,and_true] at e0
  subst e0
  have g1:=hg 1 _ rfl
  change DataW.trod enc Tryz.prog W 0 (fun _=>true) true n' 9 (List.take (Tryz.prog.cellsOf 9) [c1,c2,c3])=some y1 at g1
  rw [show Tryz.prog.cellsOf 9=1 by kernel_rfl] at g1
  replace g1:DataW.trod enc Tryz.prog W 0 (fun _=>true) true n' 9 [c1]=some y1:=g1
  obtain ⟨a1,e1,b1⟩:=str_read g1
  simp only [List.cons.injEq,and_true] at e1
  subst e1
  have g2:=hg 2 _ rfl
  change DataW.trod enc Tryz.prog W 0 (fun _=>true) true n' 26 (List.take (Tryz.prog.cellsOf 26) [c2,c3])=some y2 at g2
  rw [show Tryz.prog.cellsOf 26=1 by kernel_rfl] at g2
  replace g2:DataW.trod enc Tryz.prog W 0 (fun _=>true) true n' 26 [c2]=some y2:=g2
  obtain ⟨p2,k2,a2,e2,r2,b2,s2⟩:=els_read (m:=6) Tryz.underlying26 (by kernel_rfl) (by decide) g2 (fun n2 cs y _ h=>x_read n2 cs y h)
  simp only [List.cons.injEq,and_true] at e2
  subst e2
  have g3:=hg 3 _ rfl
  change DataW.trod enc Tryz.prog W 0 (fun _=>true) true n' 29 (List.take (Tryz.prog.cellsOf 29) [c3])=some y3 at g3
  rw [show Tryz.prog.cellsOf 29=1 by kernel_rfl] at g3
  replace g3:DataW.trod enc Tryz.prog W 0 (fun _=>true) true n' 29 [c3]=some y3:=g3
  obtain ⟨p3,k3,a3,e3,r3,b3,s3⟩:=els_read (m:=4) Tryz.underlying29 (by kernel_rfl) (by decide) g3 (fun n2 cs y hn h=>ih n2 (by omega) cs y h)
  simp only [List.cons.injEq,and_true] at e3
  subst e3
  have hbulk:Rows.uptoBulk (DataW.agg ([y0,y1,y2,y3].map (·.1)))=Rows.uptoBulk y0.1+Rows.uptoBulk y1.1+Rows.uptoBulk y2.1+Rows.uptoBulk y3.1+1:=by simp only [List.map_cons,List.map_nil,Rows.uptoBulk,Rows.uptoBulkAll];omega
  refine ⟨.mk a0 a1 a2 a3,SR_iff.2 ⟨_,_,rfl,r2,r3⟩,?_,fun h=>?_⟩
  ·rw [sizeS,sizeXs_sum,sizeSs_sum,hbulk];omega
  ·rw [hbulk] at h;rw [smS_iff];simp only [S.name,S.x,S.l,s2 (by omega),s3 (by omega),Bool.and_true];exact decide_eq_true (show a1.length≤140737488355328 by omega)
theorem b_read:∀ (n:Nat) (cs:List Value) (y:DataW H × List MemPlace),DataW.trod enc Tryz.prog W 0 (fun _=>true) true n 159 cs=some y→Reads (BR W) sizeB smB cs y.1:=by
 intro n
 intro cs y hf
 obtain ⟨xs,n',rfl,rfl,hcl,hlen,hg⟩:=DataW.trod_struct Tryz.underlying159 hf
 rw [show Tryz.prog.cellsOf 159=7 by kernel_rfl] at hcl
 obtain ⟨c0,c1,c2,c3,c4,c5,c6,rfl⟩:=tlen7 hcl
 obtain ⟨y0,y1,rfl⟩:=tlen2 hlen
 have g0:=hg 0 _ rfl
 change DataW.trod enc Tryz.prog W 0 (fun _=>true) true n' 9 (List.take (Tryz.prog.cellsOf 9) [c0,c1,c2,c3,c4,c5,c6])=some y0 at g0
 rw [show Tryz.prog.cellsOf 9=1 by kernel_rfl] at g0
 replace g0:DataW.trod enc Tryz.prog W 0 (fun _=>true) true n' 9 [c0]=some y0:=g0
 obtain ⟨a0,e0,b0⟩:=str_read g0
 simp only [List.cons.injEq,and_true] at e0
 subst e0
 have g1:=hg 1 _ rfl
 change DataW.trod enc Tryz.prog W 0 (fun _=>true) true n' 28 (List.take (Tryz.prog.cellsOf 28) [c1,c2,c3,c4,c5,c6])=some y1 at g1
 rw [show Tryz.prog.cellsOf 28=6 by kernel_rfl] at g1
 replace g1:DataW.trod enc Tryz.prog W 0 (fun _=>true) true n' 28 [c1,c2,c3,c4,c5,c6]=some y1:=g1
 obtain ⟨a1,r1,b1,s1⟩:=x_read n' _ _ g1
 have hbulk:Rows.uptoBulk (DataW.agg ([y0,y1].map (·.1)))=Rows.uptoBulk y0.1+Rows.uptoBulk y1.1+1:=by simp only [List.map_cons,List.map_nil,Rows.uptoBulk,Rows.uptoBulkAll];omega
 refine ⟨⟨a0,a1⟩,⟨_,rfl,r1⟩,?_,fun h=>?_⟩
 ·rw [hbulk];show sizeX a1+1≤_;omega
 ·rw [hbulk] at h;unfold smB;simp only [s1 (by omega),Bool.and_true,decide_eq_true_eq];omega
theorem p_read:∀ (n:Nat) (cs:List Value) (y:DataW H × List MemPlace),DataW.trod enc Tryz.prog W 0 (fun _=>true) true n 114 cs=some y→Reads (PR W) sizeP smP cs y.1:=by
 intro n
 intro cs y hf
 obtain ⟨xs,n',rfl,rfl,hcl,hlen,hg⟩:=DataW.trod_struct Tryz.underlying114 hf
 rw [show Tryz.prog.cellsOf 114=8 by kernel_rfl] at hcl
 obtain ⟨c0,c1,c2,c3,c4,c5,c6,c7,rfl⟩:=tlen8 hcl
 obtain ⟨y0,y1,y2,rfl⟩:=tlen3 hlen
 have g0:=hg 0 _ rfl
 change DataW.trod enc Tryz.prog W 0 (fun _=>true) true n' 9 (List.take (Tryz.prog.cellsOf 9) [c0,c1,c2,c3,c4,c5,c6,c7])=some y0 at g0
 rw [show Tryz.prog.cellsOf 9=1 by kernel_rfl] at g0
 replace g0:DataW.trod enc Tryz.prog W 0 (fun _=>true) true n' 9 [c0]=some y0:=g0
 obtain ⟨a0,e0,b0⟩:=str_read g0
 simp only [List.cons.injEq,and_true] at e0
 subst e0
 have g1:=hg 1 _ rfl
 change DataW.trod enc Tryz.prog W 0 (fun _=>true) true n' 4 (List.take (Tryz.prog.cellsOf 4) [c1,c2,c3,c4,c5,c6,c7])=some y1 at g1
 rw [show Tryz.prog.cellsOf 4=1 by kernel_rfl] at g1
 replace g1:DataW.trod enc Tryz.prog W 0 (fun _=>true) true n' 4 [c1]=some y1:=g1
 obtain ⟨a1,e1⟩:=bool_read g1
 simp only [List.cons.injEq,and_true] at e1
 subst e1
 have g2:=hg 2 _ rfl
 change DataW.trod enc Tryz.prog W 0 (fun _=>true) true n' 28 (List.take (Tryz.prog.cellsOf 28) [c2,c3,c4,c5,c6,c7])=some y2 at g2
 rw [show Tryz.prog.cellsOf 28=6 by kernel_rfl] at g2
 replace g2:DataW.trod enc Tryz.prog W 0 (fun _=>true) true n' 28 [c2,c3,c4,c5,c6,c7]=some y2:=g2
 obtain ⟨a2,r2,b2,s2⟩:=x_read n' _ _ g2
 have hbulk:Rows.uptoBulk (DataW.agg ([y0,y1,y2].map (·.1)))=Rows.uptoBulk y0.1+Rows.uptoBulk y1.1+Rows.uptoBulk y2.1+1:=by simp only [List.map_cons,List.map_nil,Rows.uptoBulk,Rows.uptoBulkAll];omega
 refine ⟨⟨a0,a1,a2⟩,⟨_,rfl,r2⟩,?_,fun h=>?_⟩
 ·rw [hbulk];show sizeX a2+1≤_;omega
 ·rw [hbulk] at h;unfold smP;simp only [s2 (by omega),Bool.and_true,decide_eq_true_eq];omega
theorem i_read:∀ (n:Nat) (cs:List Value) (y:DataW H × List MemPlace),DataW.trod enc Tryz.prog W 0 (fun _=>true) true n 133 cs=some y→Reads (IR W) sizeI smI cs y.1:=by
 intro n
 induction n using Nat.strongRecOn with
 | _ n ih=>
  intro cs y hf
  obtain ⟨xs,n',rfl,rfl,hcl,hlen,hg⟩:=DataW.trod_struct Tryz.underlying133 hf
  rw [show Tryz.prog.cellsOf 133=9 by kernel_rfl] at hcl
  obtain ⟨c0,c1,c2,c3,c4,c5,c6,c7,c8,rfl⟩:=tlen9 hcl
  obtain ⟨y0,y1,y2,y3,y4,y5,y6,y7,y8,rfl⟩:=tlen9 hlen
  have g0:=hg 0 _ rfl
  change DataW.trod enc Tryz.prog W 0 (fun _=>true) true n' 3 (List.take (Tryz.prog.cellsOf 3) [c0,c1,c2,c3,c4,c5,c6,c7,c8])=some y0 at g0
  rw [show Tryz.prog.cellsOf 3=1 by kernel_rfl] at g0
  replace g0:DataW.trod enc Tryz.prog W 0 (fun _=>true) true n' 3 [c0]=some y0:=g0
  obtain ⟨a0,e0⟩:=int_read g0
  simp only [List.cons.injEq,and_true] at e0
  subst e0
  have g1:=hg 1 _ rfl
  change DataW.trod enc Tryz.prog W 0 (fun _=>true) true n' 9 (List.take (Tryz.prog.cellsOf 9) [c1,c2,c3,c4,c5,c6,c7,c8])=some y1 at g1
  rw [show Tryz.prog.cellsOf 9=1 by kernel_rfl] at g1
  replace g1:DataW.trod enc Tryz.prog W 0 (fun _=>true) true n' 9 [c1]=some y1:=g1
  obtain ⟨a1,e1,b1⟩:=str_read g1
  simp only [List.cons.injEq,and_true] at e1
  subst e1
  have g2:=hg 2 _ rfl
  change DataW.trod enc Tryz.prog W 0 (fun _=>true) true n' 9 (List.take (Tryz.prog.cellsOf 9) [c2,c3,c4,c5,c6,c7,c8])=some y2 at g2
  rw [show Tryz.prog.cellsOf 9=1 by kernel_rfl] at g2
  replace g2:DataW.trod enc Tryz.prog W 0 (fun _=>true) true n' 9 [c2]=some y2:=g2
  obtain ⟨a2,e2,b2⟩:=str_read g2
  simp only [List.cons.injEq,and_true] at e2
  subst e2
  have g3:=hg 3 _ rfl
  change DataW.trod enc Tryz.prog W 0 (fun _=>true) true n' 26 (List.take (Tryz.prog.cellsOf 26) [c3,c4,c5,c6,c7,c8])=some y3 at g3
  rw [show Tryz.prog.cellsOf 26=1 by kernel_rfl] at g3
  replace g3:DataW.trod enc Tryz.prog W 0 (fun _=>true) true n' 26 [c3]=some y3:=g3
  obtain ⟨p3,k3,a3,e3,r3,b3,s3⟩:=els_read (m:=6) Tryz.underlying26 (by kernel_rfl) (by decide) g3 (fun n2 cs y _ h=>x_read n2 cs y h)
  simp only [List.cons.injEq,and_true] at e3
  subst e3
  have g4:=hg 4 _ rfl
  change DataW.trod enc Tryz.prog W 0 (fun _=>true) true n' 29 (List.take (Tryz.prog.cellsOf 29) [c4,c5,c6,c7,c8])=some y4 at g4
  rw [show Tryz.prog.cellsOf 29=1 by kernel_rfl] at g4
  replace g4:DataW.trod enc Tryz.prog W 0 (fun _=>true) true n' 29 [c4]=some y4:=g4
  obtain ⟨p4,k4,a4,e4,r4,b4,s4⟩:=els_read (m:=4) Tryz.underlying29 (by kernel_rfl) (by decide) g4 (fun n2 cs y _ h=>s_read n2 cs y h)
  simp only [List.cons.injEq,and_true] at e4
  subst e4
  have g5:=hg 5 _ rfl
  change DataW.trod enc Tryz.prog W 0 (fun _=>true) true n' 51 (List.take (Tryz.prog.cellsOf 51) [c5,c6,c7,c8])=some y5 at g5
  rw [show Tryz.prog.cellsOf 51=1 by kernel_rfl] at g5
  replace g5:DataW.trod enc Tryz.prog W 0 (fun _=>true) true n' 51 [c5]=some y5:=g5
  obtain ⟨p5,k5,a5,e5,r5,b5,s5⟩:=els_read (m:=9) Tryz.underlying51 (by kernel_rfl) (by decide) g5 (fun n2 cs y hn h=>ih n2 (by omega) cs y h)
  simp only [List.cons.injEq,and_true] at e5
  subst e5
  have g6:=hg 6 _ rfl
  change DataW.trod enc Tryz.prog W 0 (fun _=>true) true n' 51 (List.take (Tryz.prog.cellsOf 51) [c6,c7,c8])=some y6 at g6
  rw [show Tryz.prog.cellsOf 51=1 by kernel_rfl] at g6
  replace g6:DataW.trod enc Tryz.prog W 0 (fun _=>true) true n' 51 [c6]=some y6:=g6
  obtain ⟨p6,k6,a6,e6,r6,b6,s6⟩:=els_read (m:=9) Tryz.underlying51 (by kernel_rfl) (by decide) g6 (fun n2 cs y hn h=>ih n2 (by omega) cs y h)
  simp only [List.cons.injEq,and_true] at e6
  subst e6
  have g7:=hg 7 _ rfl
  change DataW.trod enc Tryz.prog W 0 (fun _=>true) true n' 49 (List.take (Tryz.prog.cellsOf 49) [c7,c8])=some y7 at g7
  rw [show Tryz.prog.cellsOf 49=1 by kernel_rfl] at g7
  replace g7:DataW.trod enc Tryz.prog W 0 (fun _=>true) true n' 49 [c7]=some y7:=g7
  obtain ⟨p7,k7,a7,e7,r7,b7,s7⟩:=els_read (m:=7) Tryz.underlying49 (by kernel_rfl) (by decide) g7 (fun n2 cs y _ h=>b_read n2 cs y h)
  simp only [List.cons.injEq,and_true] at e7
  subst e7
  have g8:=hg 8 _ rfl
  change DataW.trod enc Tryz.prog W 0 (fun _=>true) true n' 49 (List.take (Tryz.prog.cellsOf 49) [c8])=some y8 at g8
  rw [show Tryz.prog.cellsOf 49=1 by kernel_rfl] at g8
  replace g8:DataW.trod enc Tryz.prog W 0 (fun _=>true) true n' 49 [c8]=some y8:=g8
  obtain ⟨p8,k8,a8,e8,r8,b8,s8⟩:=els_read (m:=7) Tryz.underlying49 (by kernel_rfl) (by decide) g8 (fun n2 cs y _ h=>b_read n2 cs y h)
  simp only [List.cons.injEq,and_true] at e8
  subst e8
  have hbulk:Rows.uptoBulk (DataW.agg ([y0,y1,y2,y3,y4,y5,y6,y7,y8].map (·.1)))=Rows.uptoBulk y0.1+Rows.uptoBulk y1.1+Rows.uptoBulk y2.1+Rows.uptoBulk y3.1+Rows.uptoBulk y4.1+Rows.uptoBulk y5.1+Rows.uptoBulk y6.1+Rows.uptoBulk y7.1+Rows.uptoBulk y8.1+1:=by simp only [List.map_cons,List.map_nil,Rows.uptoBulk,Rows.uptoBulkAll];omega
  refine ⟨.mk a0 a1 a2 a3 a4 a5 a6 a7 a8,IR_iff.2 ⟨_,_,_,_,_,_,rfl,r3,r4,r7,r8,r5,r6⟩,?_,fun h=>?_⟩
  ·rw [sizeI,sizeXs_sum,sizeSs_sum,sizeIs_sum,sizeIs_sum,hbulk];omega
  ·rw [hbulk] at h;rw [smI_iff];simp only [It.name,It.of,It.x,It.s,It.l,It.e,It.ps,It.bs,s3 (by omega),s4 (by omega),s5 (by omega),s6 (by omega),s7 (by omega),s8 (by omega),Bool.and_true];rw [Bool.and_eq_true];exact ⟨decide_eq_true (show a1.length≤140737488355328 by omega),decide_eq_true (show a2.length≤140737488355328 by omega)⟩
theorem m_read:∀ (n:Nat) (cs:List Value) (y:DataW H × List MemPlace),DataW.trod enc Tryz.prog W 0 (fun _=>true) true n 53 cs=some y→Reads (MR W) sizeM smM cs y.1:=by
 intro n
 intro cs y hf
 obtain ⟨xs,n',rfl,rfl,hcl,hlen,hg⟩:=DataW.trod_struct Tryz.underlying53 hf
 rw [show Tryz.prog.cellsOf 53=4 by kernel_rfl] at hcl
 obtain ⟨c0,c1,c2,c3,rfl⟩:=tlen4 hcl
 obtain ⟨y0,y1,y2,y3,rfl⟩:=tlen4 hlen
 have g0:=hg 0 _ rfl
 change DataW.trod enc Tryz.prog W 0 (fun _=>true) true n' 9 (List.take (Tryz.prog.cellsOf 9) [c0,c1,c2,c3])=some y0 at g0
 rw [show Tryz.prog.cellsOf 9=1 by kernel_rfl] at g0
 replace g0:DataW.trod enc Tryz.prog W 0 (fun _=>true) true n' 9 [c0]=some y0:=g0
 obtain ⟨a0,e0,b0⟩:=str_read g0
 simp only [List.cons.injEq,and_true] at e0
 subst e0
 have g1:=hg 1 _ rfl
 change DataW.trod enc Tryz.prog W 0 (fun _=>true) true n' 49 (List.take (Tryz.prog.cellsOf 49) [c1,c2,c3])=some y1 at g1
 rw [show Tryz.prog.cellsOf 49=1 by kernel_rfl] at g1
 replace g1:DataW.trod enc Tryz.prog W 0 (fun _=>true) true n' 49 [c1]=some y1:=g1
 obtain ⟨p1,k1,a1,e1,r1,b1,s1⟩:=els_read (m:=7) Tryz.underlying49 (by kernel_rfl) (by decide) g1 (fun n2 cs y _ h=>b_read n2 cs y h)
 simp only [List.cons.injEq,and_true] at e1
 subst e1
 have g2:=hg 2 _ rfl
 change DataW.trod enc Tryz.prog W 0 (fun _=>true) true n' 50 (List.take (Tryz.prog.cellsOf 50) [c2,c3])=some y2 at g2
 rw [show Tryz.prog.cellsOf 50=1 by kernel_rfl] at g2
 replace g2:DataW.trod enc Tryz.prog W 0 (fun _=>true) true n' 50 [c2]=some y2:=g2
 obtain ⟨p2,k2,a2,e2,r2,b2,s2⟩:=els_read (m:=8) Tryz.underlying50 (by kernel_rfl) (by decide) g2 (fun n2 cs y _ h=>p_read n2 cs y h)
 simp only [List.cons.injEq,and_true] at e2
 subst e2
 have g3:=hg 3 _ rfl
 change DataW.trod enc Tryz.prog W 0 (fun _=>true) true n' 51 (List.take (Tryz.prog.cellsOf 51) [c3])=some y3 at g3
 rw [show Tryz.prog.cellsOf 51=1 by kernel_rfl] at g3
 replace g3:DataW.trod enc Tryz.prog W 0 (fun _=>true) true n' 51 [c3]=some y3:=g3
 obtain ⟨p3,k3,a3,e3,r3,b3,s3⟩:=els_read (m:=9) Tryz.underlying51 (by kernel_rfl) (by decide) g3 (fun n2 cs y _ h=>i_read n2 cs y h)
 simp only [List.cons.injEq,and_true] at e3
 subst e3
 have hbulk:Rows.uptoBulk (DataW.agg ([y0,y1,y2,y3].map (·.1)))=Rows.uptoBulk y0.1+Rows.uptoBulk y1.1+Rows.uptoBulk y2.1+Rows.uptoBulk y3.1+1:=by simp only [List.map_cons,List.map_nil,Rows.uptoBulk,Rows.uptoBulkAll];omega
 refine ⟨⟨a0,a1,a2,a3⟩,⟨_,_,_,rfl,r1,r2,r3⟩,?_,fun h=>?_⟩
 ·rw [hbulk];show sumN sizeB a1+sumN sizeP a2+sizeIs a3+1≤_;rw [sizeIs_sum];omega
 ·rw [hbulk] at h;unfold smM;simp only [s1 (by omega),s2 (by omega),s3 (by omega),Bool.and_true,decide_eq_true_eq];omega
theorem x_arg {b0:Nat} {v:Value} {d:DataW H} {p:List MemPlace} (hv:Value.okWide Tryz.prog W .any b0 28 v) (h:DataW.Trod enc Tryz.prog W 0 (fun _=>true) true 28 v d p) :
  ∃ cs a,v=.agg (List.toArray cs)∧XR W a cs∧sizeX a≤Rows.uptoBulk d∧(Rows.uptoBulk d≤1048576→smX a=true):=by
 obtain ⟨cs,rfl,_⟩:=okWide_struct Tryz.underlying28 hv
 obtain ⟨fuel,hf⟩:=h
 obtain ⟨a,h1,h2,h3⟩:=x_read _ _ _ hf
 exact ⟨cs.toList,a,rfl,h1,h2,h3⟩
theorem s_arg {b0:Nat} {v:Value} {d:DataW H} {p:List MemPlace} (hv:Value.okWide Tryz.prog W .any b0 31 v) (h:DataW.Trod enc Tryz.prog W 0 (fun _=>true) true 31 v d p) :
  ∃ cs a,v=.agg (List.toArray cs)∧SR W a cs∧sizeS a≤Rows.uptoBulk d∧(Rows.uptoBulk d≤1048576→smS a=true):=by
 obtain ⟨cs,rfl,_⟩:=okWide_struct Tryz.underlying31 hv
 obtain ⟨fuel,hf⟩:=h
 obtain ⟨a,h1,h2,h3⟩:=s_read _ _ _ hf
 exact ⟨cs.toList,a,rfl,h1,h2,h3⟩
theorem f_arg {b0:Nat} {v:Value} {d:DataW H} {p:List MemPlace} (hv:Value.okWide Tryz.prog W .any b0 24 v) (h:DataW.Trod enc Tryz.prog W 0 (fun _=>true) true 24 v d p) :
  ∃ q cap a,v=.agg #[.slice q a.length cap]∧MsR W (.slice q a.length cap) a∧sumN sizeM a≤Rows.uptoBulk d∧(Rows.uptoBulk d≤1048576→a.all smM=true):=by
 obtain ⟨cs,rfl,hsz⟩:=okWide_struct Tryz.underlying24 hv
 rw [show Tryz.prog.cellsOf 24=1 by kernel_rfl] at hsz
 obtain ⟨fuel,hf⟩:=h
 obtain ⟨y0,n,hx,hcl,hg⟩:=trod_struct1 Tryz.underlying24 hf
 obtain ⟨l⟩:=cs
 match l,hsz with
 | [c0],_=>
  change DataW.trod enc Tryz.prog W 0 (fun _=>true) true n 22 (List.take (Tryz.prog.cellsOf 22) [c0])=some y0 at hg
  rw [show Tryz.prog.cellsOf 22=1 by kernel_rfl] at hg
  replace hg:DataW.trod enc Tryz.prog W 0 (fun _=>true) true n 22 [c0]=some y0:=hg
  obtain ⟨q,k,a,e,r,b,s⟩:=els_read (m:=4) Tryz.underlying22 (by kernel_rfl) (by decide) hg (fun n2 cs y _ h=>m_read n2 cs y h)
  simp only [List.cons.injEq,and_true] at e
  subst e
  simp only [Prod.mk.injEq] at hx
  obtain ⟨rfl,_⟩:=hx
  have hbulk:Rows.uptoBulk (DataW.agg [y0.1])=Rows.uptoBulk y0.1+1:=by simp only [Rows.uptoBulk,Rows.uptoBulkAll,Nat.add_zero]
  exact ⟨q,k,a,rfl,r,by rw [hbulk];omega,fun h=>s (by rw [hbulk] at h;omega)⟩
theorem ss_arg {b0:Nat} {v:Value} {d:DataW H} {p:List MemPlace} (hv:Value.okWide Tryz.prog W .any b0 29 v) (h:DataW.Trod enc Tryz.prog W 0 (fun _=>true) true 29 v d p) :
  ∃ q cap a,v=.slice q a.length cap∧SsR W (.slice q a.length cap) a∧sumN sizeS a≤Rows.uptoBulk d∧(Rows.uptoBulk d≤1048576→a.all smS=true):=by
 obtain ⟨a0,len,cap,rfl⟩:=okWide_slice Tryz.underlying29 hv
 obtain ⟨fuel,hf⟩:=h
 obtain ⟨q,k,a,e,r,b,s⟩:=els_read (m:=4) (cs:=[.slice a0 len cap]) Tryz.underlying29 (by kernel_rfl) (by decide) hf (fun n2 cs y _ h=>s_read n2 cs y h)
 simp only [List.cons.injEq,and_true] at e
 rw [e]
 exact ⟨q,k,a,rfl,r,by dsimp only at b;omega,s⟩
end
end Go.Proofs.YtlcfpdmicpggbaaGreatDoor
namespace Go.Proofs.YtlcfpdmicpggbaaGreatDoor
open Go.Lib (hid)
open Go.ChangeShapes Go.WideShapes Go.ChangeAt Go.RowKit
theorem witness_all {H:Type} {enc:TypeId × Value→H} {C:Checked} {os:Os} {f:FuncId} {fn:Func} {s:OpenSpec} {conds:List PathCond} {apart:Bool} {laid:List (String × DataW Unit)} (w0:World) (args:Array Value) (hos:w0.os=os)
  (hsh:(w0.forCall (fun _ _=>0) ⟨#[],args,[]⟩).Shaped C.prog)
  (hok:Input.okWideB C.prog (w0.forCall (fun _ _=>0) ⟨#[],args,[]⟩) f ⟨#[],args,[]⟩=true)
  (hrow:s.preRow enc C.prog fn conds apart laid (w0.forCall (fun _ _=>0) ⟨#[],args,[]⟩).memory args) :
  ∃ (w:World) (tape:Tape) (i:Input),w.os=os∧(w.forCall tape i).Shaped C.prog∧i.vars=[]∧Input.okWide C.prog (w.forCall tape i) .any w.heap.size f i ∧
   s.preRow enc C.prog fn conds apart laid (w.forCall tape i).memory i.args∧({}:Assume).holds C.prog (lone (Frame.enter C.prog f i.args .normal) [] (w.forCall tape i)):=
 ⟨w0,fun _ _=>0,⟨#[],args,[]⟩,hos,hsh,(Input.okWide_of_okWideB (base:=0) hok).1,(Input.okWide_of_okWideB hok).2,hrow,by
  simp only [Assume.holds]
  exact ⟨by simp,by simp,fun _=>Modest.zero,by simp,by simp⟩⟩
end Go.Proofs.YtlcfpdmicpggbaaGreatDoor
