/- Texts of the seat, merged. -/
import Derived.Test.YtlcfpdmicpggbaaGreatDoorD16
import Derived.Test.YtlcfpdmicpggbaaGreatDoorEF91
set_option linter.unusedVariables false
set_option linter.unusedSimpArgs false
set_option maxRecDepth 100000
set_option maxHeartbeats 16000000
namespace Go.Proofs.YtlcfpdmicpggbaaGreatDoor
open Go.Lib (hid)
open Go.ChangeShapes Go.WideShapes Go.ChangeAt Go.RowKit Go.Proofs.Spl Go.Proofs.Scn Go.Shelf
theorem own_knob:ownKnob Tryz.prog.godebug=none:=by kernel_rfl
theorem laid_out:laidOutB Tryz.prog=true:=by kernel_rfl
section
variable {H:Type} {enc:TypeId × Value→H} {W:World}
end
end Go.Proofs.YtlcfpdmicpggbaaGreatDoor
namespace Go.Proofs.YtlcfpdmicpggbaaGreatDoor
open Go.Lib (hid)
open Go.ChangeShapes Go.WideShapes Go.ChangeAt Go.RowKit Go.Proofs.Spl Go.Proofs.Scn Go.Shelf
theorem tab64:(Rows.laid_math_bits_deBruijn64tab:DataW Unit)=Lib.tabData .u8 (Lib.deBruijn64tab.map fun n:Nat=>(n:Int)):=by rfl
theorem tab10:(Rows.laid_internal_strconv_uint64pow10:DataW Unit)=Lib.tabData .u64 Lib.pow10Tab:=by rfl
theorem base_of {W:World} {L:List (String × DataW Unit)} (h:laidMet Tryz.prog L W) (h64:("math/bits.deBruijn64tab",Rows.laid_math_bits_deBruijn64tab) ∈ L) (h10:("internal/strconv.uint64pow10",Rows.laid_internal_strconv_uint64pow10) ∈ L) (hsh:W.ShapedOpen Tryz.prog):Base W:=by
 refine ⟨?_,?_,?_⟩
 ·exact cell_of_shapedOpen_int (t:=3) (zero:=#[.int .i64 0]) hsh (of_decide_eq_true (by kernel_rfl)) (by kernel_rfl) rfl (by kernel_rfl) (by kernel_rfl) (by kernel_rfl)
 ·obtain ⟨g,t,cs,fuel,p,hg,ht,hv,hd⟩:=Lib.laidMet.reads h h10
  rw [tab10] at hd
  obtain rfl:=Option.some.inj ((show Tryz.prog.globalNamed "internal/strconv.uint64pow10" = some 5 by kernel_rfl).symm.trans hg)
  obtain rfl:=Option.some.inj ((show (Tryz.prog.globals[5]?).map (·.type)=some 250 by kernel_rfl).symm.trans ht)
  unfold Lib.TabIs
  rw [hv,← Lib.cells_of_tab (n:=20) (e:=25) (by kernel_rfl) (by kernel_rfl) (by kernel_rfl) (by kernel_rfl) hd]
 ·obtain ⟨g,t,cs,fuel,p,hg,ht,hv,hd⟩:=Lib.laidMet.reads h h64
  rw [tab64] at hd
  obtain rfl:=Option.some.inj ((show Tryz.prog.globalNamed "math/bits.deBruijn64tab" = some 7 by kernel_rfl).symm.trans hg)
  obtain rfl:=Option.some.inj ((show (Tryz.prog.globals[7]?).map (·.type)=some 255 by kernel_rfl).symm.trans ht)
  have htab:Lib.TabIs Tryz.prog W "math/bits.deBruijn64tab" .u8 (Lib.deBruijn64tab.map fun n:Nat=>(n:Int)):=by
   unfold Lib.TabIs
   rw [hv,← Lib.cells_of_tab (n:=64) (e:=5) (by kernel_rfl) (by kernel_rfl) (by kernel_rfl) (by kernel_rfl) hd]
  intro j hj
  have:=htab.cell hg j (by simpa using hj)
  rw [this]
  simp [List.getD_eq_getElem?_getD,List.getElem?_eq_getElem hj]
theorem var_cells {W:World} {n:String} {g:Nat} {cs:Array Value} (hg:Tryz.prog.globalNamed n=some g) (hv:W.var? Tryz.prog n=some cs) (j:Nat):W.cell? ⟨g,j,none⟩=cs.toList[j]?:=by
 unfold World.var? at hv
 rw [hg] at hv
 simp only [Option.bind_some] at hv
 split at hv
 ·rename_i cs' e fr h
  simp only [Option.some.injEq] at hv
  subst hv
  rw [cell_of_row W g j _ e fr h,← Array.getElem?_toList]
 ·cases hv
section
variable {H:Type} {enc:TypeId × Value→H} {W:World} {base:Nat} {sp:Nat→Bool} {held:Bool}
theorem arr_row {t e n m fuel:Nat} {cs:List Value} {ds:List (DataW H)} {p:List MemPlace} (ht:Tryz.prog.underlying t=some (.array n e)) (he:Tryz.prog.cellsOf e=m) (hf:DataW.trod enc Tryz.prog W base sp held fuel t cs=some (.agg ds,p)) (k:Nat) (hk:k<n) (d:DataW H) (hd:ds[k]?=some d) :
  ∃ n' q,DataW.trod enc Tryz.prog W base sp held n' e ((cs.drop (k * m)).take m)=some (d,q):=by
 obtain ⟨xs,n',_,hx,_,hlen,hg⟩:=DataW.trod_array ht hf
 rw [he] at hg
 have h1:=hg k hk
 simp only [Prod.mk.injEq,DataW.agg.injEq] at hx
 have h2:xs[k]?=some xs[k]:=List.getElem?_eq_getElem (by omega)
 rw [hx.1,List.getElem?_map,h2] at hd
 simp only [Option.map_some,Option.some.injEq] at hd
 refine ⟨n',(xs[k]'(by omega)).2,?_⟩
 rw [h1,h2,← hd]
theorem lit_bool {n:Nat} {cs:List Value} {b:Bool} {y:DataW H × List MemPlace} (h:DataW.trod enc Tryz.prog W base sp held n 4 cs=some y) (hy:y.1=.lit (.bool b)):cs=[.bool b]:=by
 obtain ⟨c,e,rfl⟩:=DataW.trod_bool (show Tryz.prog.underlying 4=some .bool by kernel_rfl) h
 simp only [DataW.lit.injEq,Lit.bool.injEq] at hy
 rw [e,hy]
theorem lit_int {n:Nat} {cs:List Value} {b:Int} {y:DataW H × List MemPlace} (h:DataW.trod enc Tryz.prog W base sp held n 3 cs=some y) (hy:y.1=.lit (.int .i64 b)):cs=[.int .i64 b]:=by
 obtain ⟨c,e,rfl,_⟩:=DataW.trod_int (show Tryz.prog.underlying 3=some (.int .i64) by kernel_rfl) h
 simp only [DataW.lit.injEq,Lit.int.injEq] at hy
 rw [e,hy.2]
theorem at_row {cs l:List Value} {k m j:Nat} (h:(cs.drop (k * m)).take m=l) (hj:j<m):cs[k * m+j]?=l[j]?:=by
 rw [← h,List.getElem?_take,if_pos hj,List.getElem?_drop]
end
theorem kinds_row {H:Type} {enc:TypeId × Value→H} {W:World} {base:Nat} {sp:Nat→Bool} {held:Bool} {fuel:Nat} {cs:List Value} {p:List MemPlace} (hf:DataW.trod enc Tryz.prog W base sp held fuel 203 cs=some (Rows.laid_filigree_ast_kinds,p)) (k:Nat) (hk:k<11) :
  (cs.drop (k * 5)).take 5=[.bool (kNamed k),.int .i64 ((kMin k:Nat):Int),.int .i64 ((kMax k:Nat):Int),.int .i64 (kLo k),.int .i64 (kHi k)]:=by
 have hd:∀ k,k<11→(match (Rows.laid_filigree_ast_kinds:DataW H) with | .agg l=>l[k]? | _=>none)=some (.agg [.lit (.bool (kNamed k)),.lit (.int .i64 ((kMin k:Nat):Int)),.lit (.int .i64 ((kMax k:Nat):Int)),.lit (.int .i64 (kLo k)),.lit (.int .i64 (kHi k))]):=by
  intro k hk
  have h:k=0∨k=1∨k=2∨k=3∨k=4∨k=5∨k=6∨k=7∨k=8∨k=9∨k=10:=by omega
  rcases h with h | h | h | h | h | h | h | h | h | h | h <;> subst h <;> rfl
 obtain ⟨n',q,hr⟩:=arr_row (m:=5) (show Tryz.prog.underlying 203=some (.array 11 202) by kernel_rfl) (by kernel_rfl) hf k hk _ (hd k hk)
 generalize (cs.drop (k * 5)).take 5=r at *
 obtain ⟨xs,n2,_,hx,hcl,hlen,hg⟩:=DataW.trod_struct Tryz.underlying202 hr
 rw [show Tryz.prog.cellsOf 202=5 by kernel_rfl] at hcl
 obtain ⟨c0,c1,c2,c3,c4,rfl⟩:=tlen5 hcl
 obtain ⟨y0,y1,y2,y3,y4,rfl⟩:=tlen5 hlen
 simp only [Prod.mk.injEq,DataW.agg.injEq,List.map_cons,List.map_nil,List.cons.injEq,and_true] at hx
 obtain ⟨⟨e0,e1,e2,e3,e4⟩,_⟩:=hx
 have g0:=hg 0 _ rfl
 change DataW.trod enc Tryz.prog W base sp held n2 4 (List.take (Tryz.prog.cellsOf 4) [c0,c1,c2,c3,c4])=some y0 at g0
 rw [show Tryz.prog.cellsOf 4=1 by kernel_rfl] at g0
 replace g0:DataW.trod enc Tryz.prog W base sp held n2 4 [c0]=some y0:=g0
 have z0:=lit_bool g0 e0.symm
 simp only [List.cons.injEq,and_true] at z0
 subst z0
 have g1:=hg 1 _ rfl
 change DataW.trod enc Tryz.prog W base sp held n2 3 (List.take (Tryz.prog.cellsOf 3) [c1,c2,c3,c4])=some y1 at g1
 rw [show Tryz.prog.cellsOf 3=1 by kernel_rfl] at g1
 replace g1:DataW.trod enc Tryz.prog W base sp held n2 3 [c1]=some y1:=g1
 have z1:=lit_int g1 e1.symm
 simp only [List.cons.injEq,and_true] at z1
 subst z1
 have g2:=hg 2 _ rfl
 change DataW.trod enc Tryz.prog W base sp held n2 3 (List.take (Tryz.prog.cellsOf 3) [c2,c3,c4])=some y2 at g2
 rw [show Tryz.prog.cellsOf 3=1 by kernel_rfl] at g2
 replace g2:DataW.trod enc Tryz.prog W base sp held n2 3 [c2]=some y2:=g2
 have z2:=lit_int g2 e2.symm
 simp only [List.cons.injEq,and_true] at z2
 subst z2
 have g3:=hg 3 _ rfl
 change DataW.trod enc Tryz.prog W base sp held n2 3 (List.take (Tryz.prog.cellsOf 3) [c3,c4])=some y3 at g3
 rw [show Tryz.prog.cellsOf 3=1 by kernel_rfl] at g3
 replace g3:DataW.trod enc Tryz.prog W base sp held n2 3 [c3]=some y3:=g3
 have z3:=lit_int g3 e3.symm
 simp only [List.cons.injEq,and_true] at z3
 subst z3
 have g4:=hg 4 _ rfl
 change DataW.trod enc Tryz.prog W base sp held n2 3 (List.take (Tryz.prog.cellsOf 3) [c4])=some y4 at g4
 rw [show Tryz.prog.cellsOf 3=1 by kernel_rfl] at g4
 replace g4:DataW.trod enc Tryz.prog W base sp held n2 3 [c4]=some y4:=g4
 have z4:=lit_int g4 e4.symm
 simp only [List.cons.injEq,and_true] at z4
 subst z4
 rfl
theorem shapes_row {H:Type} {enc:TypeId × Value→H} {W:World} {base:Nat} {sp:Nat→Bool} {held:Bool} {fuel:Nat} {cs:List Value} {p:List MemPlace} (hf:DataW.trod enc Tryz.prog W base sp held fuel 216 cs=some (Rows.laid_filigree_ast_shapes,p)) (k:Nat) (hk:k<11) :
  (cs.drop (k * 7)).take 7=[.bool (sName k),.bool (sOf k),.int .i64 ((sX k:Nat):Int),.bool (sS k),.bool (sL k),.bool (sEls k),.bool (sBind k)]:=by
 have hd:∀ k,k<11→(match (Rows.laid_filigree_ast_shapes:DataW H) with | .agg l=>l[k]? | _=>none)=some (.agg [.lit (.bool (sName k)),.lit (.bool (sOf k)),.lit (.int .i64 ((sX k:Nat):Int)),.lit (.bool (sS k)),.lit (.bool (sL k)),.lit (.bool (sEls k)),.lit (.bool (sBind k))]):=by
  intro k hk
  have h:k=0∨k=1∨k=2∨k=3∨k=4∨k=5∨k=6∨k=7∨k=8∨k=9∨k=10:=by omega
  rcases h with h | h | h | h | h | h | h | h | h | h | h <;> subst h <;> rfl
 obtain ⟨n',q,hr⟩:=arr_row (m:=7) (show Tryz.prog.underlying 216=some (.array 11 215) by kernel_rfl) (by kernel_rfl) hf k hk _ (hd k hk)
 generalize (cs.drop (k * 7)).take 7=r at *
 obtain ⟨xs,n2,_,hx,hcl,hlen,hg⟩:=DataW.trod_struct Tryz.underlying215 hr
 rw [show Tryz.prog.cellsOf 215=7 by kernel_rfl] at hcl
 obtain ⟨c0,c1,c2,c3,c4,c5,c6,rfl⟩:=tlen7 hcl
 obtain ⟨y0,y1,y2,y3,y4,y5,y6,rfl⟩:=tlen7 hlen
 simp only [Prod.mk.injEq,DataW.agg.injEq,List.map_cons,List.map_nil,List.cons.injEq,and_true] at hx
 obtain ⟨⟨e0,e1,e2,e3,e4,e5,e6⟩,_⟩:=hx
 have g0:=hg 0 _ rfl
 change DataW.trod enc Tryz.prog W base sp held n2 4 (List.take (Tryz.prog.cellsOf 4) [c0,c1,c2,c3,c4,c5,c6])=some y0 at g0
 rw [show Tryz.prog.cellsOf 4=1 by kernel_rfl] at g0
 replace g0:DataW.trod enc Tryz.prog W base sp held n2 4 [c0]=some y0:=g0
 have z0:=lit_bool g0 e0.symm
 simp only [List.cons.injEq,and_true] at z0
 subst z0
 have g1:=hg 1 _ rfl
 change DataW.trod enc Tryz.prog W base sp held n2 4 (List.take (Tryz.prog.cellsOf 4) [c1,c2,c3,c4,c5,c6])=some y1 at g1
 rw [show Tryz.prog.cellsOf 4=1 by kernel_rfl] at g1
 replace g1:DataW.trod enc Tryz.prog W base sp held n2 4 [c1]=some y1:=g1
 have z1:=lit_bool g1 e1.symm
 simp only [List.cons.injEq,and_true] at z1
 subst z1
 have g2:=hg 2 _ rfl
 change DataW.trod enc Tryz.prog W base sp held n2 3 (List.take (Tryz.prog.cellsOf 3) [c2,c3,c4,c5,c6])=some y2 at g2
 rw [show Tryz.prog.cellsOf 3=1 by kernel_rfl] at g2
 replace g2:DataW.trod enc Tryz.prog W base sp held n2 3 [c2]=some y2:=g2
 have z2:=lit_int g2 e2.symm
 simp only [List.cons.injEq,and_true] at z2
 subst z2
 have g3:=hg 3 _ rfl
 change DataW.trod enc Tryz.prog W base sp held n2 4 (List.take (Tryz.prog.cellsOf 4) [c3,c4,c5,c6])=some y3 at g3
 rw [show Tryz.prog.cellsOf 4=1 by kernel_rfl] at g3
 replace g3:DataW.trod enc Tryz.prog W base sp held n2 4 [c3]=some y3:=g3
 have z3:=lit_bool g3 e3.symm
 simp only [List.cons.injEq,and_true] at z3
 subst z3
 have g4:=hg 4 _ rfl
 change DataW.trod enc Tryz.prog W base sp held n2 4 (List.take (Tryz.prog.cellsOf 4) [c4,c5,c6])=some y4 at g4
 rw [show Tryz.prog.cellsOf 4=1 by kernel_rfl] at g4
 replace g4:DataW.trod enc Tryz.prog W base sp held n2 4 [c4]=some y4:=g4
 have z4:=lit_bool g4 e4.symm
 simp only [List.cons.injEq,and_true] at z4
 subst z4
 have g5:=hg 5 _ rfl
 change DataW.trod enc Tryz.prog W base sp held n2 4 (List.take (Tryz.prog.cellsOf 4) [c5,c6])=some y5 at g5
 rw [show Tryz.prog.cellsOf 4=1 by kernel_rfl] at g5
 replace g5:DataW.trod enc Tryz.prog W base sp held n2 4 [c5]=some y5:=g5
 have z5:=lit_bool g5 e5.symm
 simp only [List.cons.injEq,and_true] at z5
 subst z5
 have g6:=hg 6 _ rfl
 change DataW.trod enc Tryz.prog W base sp held n2 4 (List.take (Tryz.prog.cellsOf 4) [c6])=some y6 at g6
 rw [show Tryz.prog.cellsOf 4=1 by kernel_rfl] at g6
 replace g6:DataW.trod enc Tryz.prog W base sp held n2 4 [c6]=some y6:=g6
 have z6:=lit_bool g6 e6.symm
 simp only [List.cons.injEq,and_true] at z6
 subst z6
 rfl
theorem baseA_of {W:World} {L:List (String × DataW Unit)} (h:laidMet Tryz.prog L W) (h64:("math/bits.deBruijn64tab",Rows.laid_math_bits_deBruijn64tab) ∈ L) (h10:("internal/strconv.uint64pow10",Rows.laid_internal_strconv_uint64pow10) ∈ L)
  (hk:("filigree/ast.kinds",Rows.laid_filigree_ast_kinds) ∈ L) (hs:("filigree/ast.shapes",Rows.laid_filigree_ast_shapes) ∈ L) (hsh:W.ShapedOpen Tryz.prog):BaseA W:=by
 refine ⟨base_of h h64 h10 hsh,fun k hlt=>?_,fun k hlt=>?_⟩
 ·obtain ⟨g,t,cs,fuel,p,hg,ht,hv,hd⟩:=Lib.laidMet.reads h hk
  obtain rfl:=Option.some.inj ((show Tryz.prog.globalNamed "filigree/ast.kinds" = some 0 by kernel_rfl).symm.trans hg)
  obtain rfl:=Option.some.inj ((show (Tryz.prog.globals[0]?).map (·.type)=some 203 by kernel_rfl).symm.trans ht)
  have hr:=kinds_row hd k hlt
  have hc:=fun j (hj:j<5)=>(var_cells hg hv (k * 5+j)).trans (at_row hr hj)
  exact ⟨hc 0 (by omega),hc 1 (by omega),hc 2 (by omega),hc 3 (by omega),hc 4 (by omega)⟩
 ·obtain ⟨g,t,cs,fuel,p,hg,ht,hv,hd⟩:=Lib.laidMet.reads h hs
  obtain rfl:=Option.some.inj ((show Tryz.prog.globalNamed "filigree/ast.shapes" = some 1 by kernel_rfl).symm.trans hg)
  obtain rfl:=Option.some.inj ((show (Tryz.prog.globals[1]?).map (·.type)=some 216 by kernel_rfl).symm.trans ht)
  have hr:=shapes_row hd k hlt
  have hc:=fun j (hj:j<7)=>(var_cells hg hv (k * 7+j)).trans (at_row hr hj)
  exact ⟨hc 0 (by omega),hc 1 (by omega),hc 2 (by omega),hc 3 (by omega),hc 4 (by omega),hc 5 (by omega),hc 6 (by omega)⟩
end Go.Proofs.YtlcfpdmicpggbaaGreatDoor
