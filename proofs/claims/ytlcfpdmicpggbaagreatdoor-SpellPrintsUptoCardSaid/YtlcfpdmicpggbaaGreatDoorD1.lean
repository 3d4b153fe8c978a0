/- Texts of the seat, merged. -/
import Derived.Below
import Derived.BigQuiet
import Derived.Deep.DeepCutAuto
import Derived.Deep.RegionHeld3
import Derived.Lib.BitFns
import Derived.Lib.Hide
import Derived.Lib.IndexBytes
import Derived.Lib.IndexMore
import Derived.Lib.Strings
import Derived.RangeFuncRecord
import Derived.Shelf.Bits.Mul64
import Derived.Shelf.LaysM
import Derived.Shelf.Slices.Turned
import Derived.Shelf.Small.Strs
import Derived.Shelf.Small.Utf8
import Derived.Shelf.Spec.BitsCarry
import Derived.Shelf.Spec.TrailingZeros
import Derived.Shelf.Strconv.Itoa0
import Derived.Shelf.Strconv.Itoa1
import Derived.Shelf.Strconv.Itoa2
import Derived.Shelf.Strconv.Itoa3
import Derived.Shelf.Strings.AsciiSet
import Derived.Shelf.Strings.Cut
import Derived.Shelf.Strings.Prefix
import Derived.Shelf.Strings.Runes
import Derived.Shelf.Strings.Search1
import Derived.Shelf.Strings.Search2
import Derived.Shelf.Strings.Search3
import Derived.Shelf.Strings.Shaped
import Derived.Shelf.Strings.SlTrimAscii
import Derived.Shelf.Strings.Trim
import Derived.Shelf.Unicode.Decode
import Derived.Shelf.Unicode.DecodeAny
import Derived.Shelf.Unicode.DecodeSlow
import Derived.Test.YtlcfpdmicpggbaaGreatDoorProg
import Derived.WalkKit
import Derived.WalkLawsBesides
import Derived.WalkSpells
set_option linter.unusedVariables false
set_option linter.unusedSimpArgs false
set_option maxRecDepth 100000
set_option maxHeartbeats 16000000
namespace Go.Proofs.Scn
open Go.Lib (hid)
def isDigit (c:UInt8):Bool:=decide (48≤c.toNat) && decide (c.toNat≤57)
def isLetter (c:UInt8):Bool:=decide (c.toNat=95) || (decide (97≤c.toNat) && decide (c.toNat≤122)) || (decide (65≤c.toNat) && decide (c.toNat≤90))
def isPart (c:UInt8):Bool:=isLetter c || isDigit c
def isBlank (c:UInt8):Bool:=decide (c.toNat=32) || decide (c.toNat=9) || decide (c.toNat=10) || decide (c.toNat=13)
def runL (l:List UInt8):List UInt8:=l.takeWhile isPart
def wordsL:List (List UInt8):=
 [[109,111,100,117,108,101],[105,110],[111,117,116],[119,105,114,101],[114,101,103],[99,111,110,115,116],[97,115,115,105,103,110],[99,111,109,98],[111,110],[116,105,99,107],[105,110,115,116],[105,102],[101,108,115,101],[102,111,114],[99,104,101,99,107],[99,97,115,101],[122,101,120,116],[115,101,120,116],[116,114,117,110,99]]
def pairsL:List (List UInt8):=[[46,46],[60,61],[62,61],[124,124],[38,38],[61,61],[33,61],[60,60],[62,62]]
def loneL:List UInt8:=[35,40,41,44,123,125,61,58,59,91,93,63,124,94,38,60,62,43,45,42,126,33]
def isWord (l:List UInt8):Bool:=wordsL.contains l
def isSign (l:List UInt8):Bool:=pairsL.contains l || (l.length == 1 && loneL.contains (l.headD 0))
def isName (l:List UInt8):Bool:=!l.isEmpty && decide (l.length≤64) && isLetter (l.headD 0) && l.all isPart && !isWord l
def fitsV (w:Int) (v:Nat):Bool:=decide (1≤w) && decide (w≤64) && decide (v<2 ^ w.toNat)
structure Tok where
 k:Int
 s:List UInt8
 w:Int
 v:Nat
 p:Int
deriving DecidableEq,Inhabited
def checkT (t:Tok):Bool:=
 decide (0≤t.p) &&
 (if t.k=1 then t.w == 0 && t.v == 0 && isName t.s
  else if t.k=2 then t.w == 0 && t.v == 0 && isWord t.s
  else if t.k=4 then t.w == 0 && t.v == 0 && isSign t.s
  else if t.k=3 then t.s.isEmpty && (t.w == 0 || fitsV t.w t.v)
  else false)
def figV (c:UInt8):Nat:=
 if isDigit c then c.toNat - 48 else if 97≤c.toNat∧c.toNat≤102 then c.toNat - 87 else if 65≤c.toNat∧c.toNat≤70 then c.toNat - 55 else 16
def two64:Nat:=18446744073709551616
def digL (b:Nat) (n:Nat):List UInt8:=if h:n<b∨b<2 then [UInt8.ofNat (if n<10 then 48+n else 87+n)] else digL b (n / b) ++ [UInt8.ofNat (if n % b<10 then 48+n % b else 87+n % b)]
termination_by n
decreasing_by exact Nat.div_lt_self (by omega) (by omega)
def oneT (t:Tok):List UInt8:=if t.k ≠ 3 then t.s else if t.w=0 then digL 10 t.v else digL 10 t.w.toNat ++ [39,104] ++ digL 16 t.v
def sepT (t:Tok):UInt8:=if t.s=[59]∨t.s=[123]∨t.s=[125] then 10 else 32
def textL:List Tok→List UInt8
 | []=>[]
 | [t]=>oneT t
 | t :: u :: l=>oneT t ++ sepT t :: textL (u :: l)
theorem forall_u8 {P:UInt8→Prop} (h:∀ n:Fin 256,P (UInt8.ofNat n.val)) (c:UInt8):P c:=by
 have:=h ⟨c.toNat,c.toNat_lt⟩
 simpa using this
theorem isSign_iff (l:List UInt8):isSign l=(pairsL ++ loneL.map ([·])).contains l:=by
 rw [Bool.eq_iff_iff]
 simp only [isSign,Bool.or_eq_true,Bool.and_eq_true,List.contains_iff_mem,List.mem_append,List.mem_map,beq_iff_eq]
 constructor
 ·rintro (h | ⟨h1,h2⟩)
  ·exact .inl h
  ·match l,h1,h2 with
   | [c],_,h2=>exact .inr ⟨c,h2,rfl⟩
 ·rintro (h | ⟨c,hc,rfl⟩)
  ·exact .inl h
  ·exact .inr ⟨rfl,hc⟩
def signsAll:List (List UInt8):=pairsL ++ loneL.map ([·])
theorem words_ok:(wordsL.all fun s=>s.all isPart && isLetter (s.headD 0) && decide (s.length≤64) && !s.isEmpty)=true:=by decide
theorem signs_ok:(signsAll.all fun s=>!isLetter (s.headD 0) && !isDigit (s.headD 0) && !isBlank (s.headD 0) && !(s.headD 0 == 47) && (decide (s.length=1) || decide (s.length=2)) && !s.contains 32 && !s.contains 10)=true:=by decide
theorem digit_not {c:UInt8} (h:isDigit c=true):isLetter c=false∧isBlank c=false∧c ≠ 47∧isPart c=true∧c ≠ 39∧figV c<10:=by
 revert h
 refine forall_u8 (P:=fun c=>isDigit c=true→isLetter c=false∧isBlank c=false∧c ≠ 47∧isPart c=true∧c ≠ 39∧figV c<10) ?_ c
 decide
theorem takeWhile_ends {p:UInt8→Bool} {l r:List UInt8} (hl:l.all p=true) (hr:r=[]∨∃ c u,r=c :: u∧p c=false):(l ++ r).takeWhile p=l∧(l ++ r).dropWhile p=r:=by
 induction l with
 | nil=>
  rcases hr with rfl | ⟨c,u,rfl,hc⟩
  ·exact ⟨rfl,rfl⟩
  ·simp [List.takeWhile,List.dropWhile,hc]
 | cons a l ih=>
  simp only [List.all_cons,Bool.and_eq_true] at hl
  have:=ih hl.2
  simp [List.takeWhile_cons,List.dropWhile_cons,hl.1,this.1,this.2]
theorem sign_mem {s:List UInt8} (h:isSign s=true):isLetter (s.headD 0)=false∧isDigit (s.headD 0)=false∧isBlank (s.headD 0)=false∧s.headD 0 ≠ 47∧(s.length=1∨s.length=2)∧32 ∉ s∧10 ∉ s:=by
 rw [isSign_iff] at h
 have:=signs_ok
 rw [List.all_eq_true] at this
 have:=this s (by simpa [signsAll] using h)
 simpa [and_assoc] using this
theorem digL_lt {b n:Nat} (h:n<b∨b<2):digL b n=[UInt8.ofNat (if n<10 then 48+n else 87+n)]:=by rw [digL,dif_pos h]
theorem digL_ge {b n:Nat} (h:¬ (n<b∨b<2)):digL b n=digL b (n / b) ++ [UInt8.ofNat (if n % b<10 then 48+n % b else 87+n % b)]:=by rw [digL,dif_neg h]
theorem digL_len (b:Nat) (hb:2≤b):∀ k n,1≤k→n<b ^ k→(digL b n).length≤k:=by
 intro k
 induction k with
 | zero=>intro n h;omega
 | succ k ih=>
  intro n _ hn
  by_cases h:n<b∨b<2
  ·rw [digL_lt h];simp
  ·rw [digL_ge h]
   have:n / b<b ^ k:=by rw [Nat.div_lt_iff_lt_mul (by omega),← Nat.pow_succ];exact hn
   have h1:1≤k:=by
    rcases Nat.eq_zero_or_pos k with rfl | h1
    ·simp at hn;omega
    ·exact h1
   have:=ih (n / b) h1 this
   simp;omega
theorem take_takeWhile {p:UInt8→Bool} (l:List UInt8):l.take (l.takeWhile p).length=l.takeWhile p:=by
 induction l with
 | nil=>rfl
 | cons a l ih=>
  rw [List.takeWhile_cons]
  split
  ·simp [ih]
  ·rfl
theorem all_takeWhile {p:UInt8→Bool} (l:List UInt8):(l.takeWhile p).all p=true:=by
 induction l with
 | nil=>rfl
 | cons a l ih=>
  rw [List.takeWhile_cons]
  split
  ·simp_all
  ·rfl
structure TokIs (l:List UInt8) (t:Tok) (n:Nat):Prop where
 pos:1≤n
 le:n≤l.length
 may:∀ p:Int,0≤p→checkT { t with p:=p }=true
 v:t.v<two64
 s:t.k ≠ 3→t.s=l.take n
 num:t.k=3→isDigit (l.headD 0)=true∧t.s=[]
 kinds:t.k=1∨t.k=2∨t.k=3∨t.k=4
 short:(oneT t).length≤n
end Go.Proofs.Scn
namespace Go.Proofs.Spl
open Go.Lib (hid)
open Go.Proofs.Scn
abbrev Ln:=List UInt8
inductive X where
 | mk (op:Int) (name:Ln) (n w:Int) (v:Nat) (l:List X)
inductive S where
 | mk (op:Int) (name:Ln) (x:List X) (l:List S)
structure Bd where
 name:Ln
 x:X
structure Pt where
 name:Ln
 out:Bool
 w:X
inductive It where
 | mk (op:Int) (name of:Ln) (x:List X) (s:List S) (l e:List It) (ps bs:List Bd)
structure Md where
 name:Ln
 ps:List Bd
 pts:List Pt
 l:List It
def X.op:X→Int | .mk op _ _ _ _ _=>op
def X.name:X→Ln | .mk _ name _ _ _ _=>name
def X.n:X→Int | .mk _ _ n _ _ _=>n
def X.w:X→Int | .mk _ _ _ w _ _=>w
def X.v:X→Nat | .mk _ _ _ _ v _=>v
def X.l:X→List X | .mk _ _ _ _ _ l=>l
def S.op:S→Int | .mk op _ _ _=>op
def S.name:S→Ln | .mk _ name _ _=>name
def S.x:S→List X | .mk _ _ x _=>x
def S.l:S→List S | .mk _ _ _ l=>l
def It.op:It→Int | .mk op _ _ _ _ _ _ _ _=>op
def It.name:It→Ln | .mk _ name _ _ _ _ _ _ _=>name
def It.of:It→Ln | .mk _ _ f _ _ _ _ _ _=>f
def It.x:It→List X | .mk _ _ _ x _ _ _ _ _=>x
def It.s:It→List S | .mk _ _ _ _ s _ _ _ _=>s
def It.l:It→List It | .mk _ _ _ _ _ l _ _ _=>l
def It.e:It→List It | .mk _ _ _ _ _ _ e _ _=>e
def It.ps:It→List Bd | .mk _ _ _ _ _ _ _ ps _=>ps
def It.bs:It→List Bd | .mk _ _ _ _ _ _ _ _ bs=>bs
theorem X.ind {P:X→Prop} (h:∀ x:X,(∀ y ∈ x.l,P y)→P x) (x:X):P x:=by
 refine X.rec (motive_1:=P) (motive_2:=fun l=>∀ y ∈ l,P y) ?_ ?_ ?_ x
 ·intro op name n w v l ih
  exact h _ ih
 ·intro y hy;cases hy
 ·intro a l ha hl y hy
  rcases List.mem_cons.1 hy with rfl | hy
  ·exact ha
  ·exact hl y hy
theorem S.ind {P:S→Prop} (h:∀ x:S,(∀ y ∈ x.l,P y)→P x) (x:S):P x:=by
 refine S.rec (motive_1:=P) (motive_2:=fun l=>∀ y ∈ l,P y) ?_ ?_ ?_ x
 ·intro op name x l ih
  exact h _ ih
 ·intro y hy;cases hy
 ·intro a l ha hl y hy
  rcases List.mem_cons.1 hy with rfl | hy
  ·exact ha
  ·exact hl y hy
theorem It.ind {P:It→Prop} (h:∀ x:It,(∀ y ∈ x.l,P y)→(∀ y ∈ x.e,P y)→P x) (x:It):P x:=by
 refine It.rec (motive_1:=P) (motive_2:=fun l=>∀ y ∈ l,P y) ?_ ?_ ?_ x
 ·intro op name f x s l e ps bs ihl ihe
  exact h _ ihl ihe
 ·intro y hy;cases hy
 ·intro a l ha hl y hy
  rcases List.mem_cons.1 hy with rfl | hy
  ·exact ha
  ·exact hl y hy
def sumN {α:Type} (f:α→Nat) (l:List α):Nat:=l.foldr (fun x n=>f x+n) 0
def maxN {α:Type} (f:α→Nat) (l:List α):Nat:=l.foldr (fun x n=>max (f x) n) 0
mutual
def sizeX:X→Nat
 | .mk _ _ _ _ _ l=>sizeXs l+1
def sizeXs:List X→Nat
 | []=>0
 | x :: l=>sizeX x+sizeXs l
end
mutual
def deepX:X→Nat
 | .mk _ _ _ _ _ l=>deepXs l+1
def deepXs:List X→Nat
 | []=>0
 | x :: l=>max (deepX x) (deepXs l)
end
mutual
def sizeS:S→Nat
 | .mk _ _ x l=>sizeXs x+sizeSs l+1
def sizeSs:List S→Nat
 | []=>0
 | x :: l=>sizeS x+sizeSs l
end
mutual
def deepS:S→Nat
 | .mk _ _ x l=>max (deepXs x) (deepSs l)+1
def deepSs:List S→Nat
 | []=>0
 | x :: l=>max (deepS x) (deepSs l)
end
def sizeB (b:Bd):Nat:=sizeX b.x+1
def deepB (b:Bd):Nat:=deepX b.x+1
def sizeP (b:Pt):Nat:=sizeX b.w+1
def deepP (b:Pt):Nat:=deepX b.w+1
mutual
def sizeI:It→Nat
 | .mk _ _ _ x s l e ps bs=>sizeXs x+sizeSs s+sizeIs l+sizeIs e+sumN sizeB ps+sumN sizeB bs+1
def sizeIs:List It→Nat
 | []=>0
 | x :: l=>sizeI x+sizeIs l
end
mutual
def deepI:It→Nat
 | .mk _ _ _ x s l e ps bs=>max (max (max (max (max (deepXs x) (deepSs s)) (deepIs l)) (deepIs e)) (maxN deepB ps)) (maxN deepB bs)+1
def deepIs:List It→Nat
 | []=>0
 | x :: l=>max (deepI x) (deepIs l)
end
def sizeM (m:Md):Nat:=sumN sizeB m.ps+sumN sizeP m.pts+sizeIs m.l+1
def deepM (m:Md):Nat:=max (max (maxN deepB m.ps) (maxN deepP m.pts)) (deepIs m.l)+1
def namedO (op:Int):Bool:=op == 2 || op == 3 || op == 4
def partsO (op:Int) (n:Nat):Bool:=
 if op=1∨op=2 then n == 0 else if op=4∨op=5 then n == 1 else if op=3∨op=6∨op=9∨op=10 then n == 2 else if op=7 then n == 3 else if op=8 then decide (1≤n) else false
def numberO (op n:Int):Bool:=
 if op=5 then decide (1≤n) && decide (n≤6) else if op=6 then decide (11≤n) && decide (n≤26) else if op=10 then decide (31≤n) && decide (n≤33) else n == 0
def valueO (op w:Int) (v:Nat):Bool:=
 if op=1 then decide (0≤w) && decide (w≤64) && (w == 0 || w == 64 || decide (v<2 ^ w.toNat)) && decide (v<two64) else w == 0 && v == 0
def okNode (op:Int) (name:Ln) (n w:Int) (v:Nat) (k:Nat):Bool:=
 (if namedO op then isName name else name.isEmpty) && partsO op k && numberO op n && valueO op w v
mutual
def okX:X→Bool
 | .mk op name n w v l=>okNode op name n w v l.length && okXs l
def okXs:List X→Bool
 | []=>true
 | x :: l=>okX x && okXs l
end
def targetX:List X→Bool
 | []=>false
 | x :: _=>namedO x.op
def okSt (op:Int) (name:Ln) (x:List X) (l:List S):Bool:=
 if op=1 then name.isEmpty && x.length == 2 && targetX x && l.isEmpty
 else if op=2 then name.isEmpty && x.length == 1 && (match l with | [a,b]=>a.op == 5 && (b.op == 5 || b.op == 2) | _=>false)
 else if op=3 then name.isEmpty && x.length == 1 && !l.isEmpty
 else if op=4 then name.isEmpty
 else if op=5 then name.isEmpty && x.isEmpty
 else if op=6 then isName name && x.length == 2
 else false
def armsO:List S→Bool
 | []=>true
 | a :: r=>a.op == 4 && (a.x.isEmpty == r.isEmpty) && armsO r
def kindO (op:Int) (l:List S):Bool:=if op=3 then armsO l else l.all fun s=>s.op != 4
mutual
def okSA:S→Bool
 | .mk op name x l=>okXs x && okSt op name x l && kindO op l && okSAs l
def okSAs:List S→Bool
 | []=>true
 | x :: l=>okSA x && okSAs l
end
def okS (s:S):Bool:=s.op != 4 && okSA s
def okSs (l:List S):Bool:=(l.all fun s=>s.op != 4) && okSAs l
def okB (b:Bd):Bool:=isName b.name && okX b.x
def okP (b:Pt):Bool:=isName b.name && okX b.w
def nameI (op:Int):Bool:=op == 1 || op == 2 || op == 3 || op == 7 || op == 9 || op == 10
def ofI (op:Int):Bool:=op == 7 || op == 9
def countI (op:Int):Nat:=if op=1∨op=2∨op=8∨op=10 then 1 else if op=3∨op=4∨op=9 then 2 else 0
def okIt (op:Int) (name f:Ln) (x:List X) (s:List S) (l e:List It) (ps bs:List Bd):Bool:=
 decide (1≤op) && decide (op≤10) && (if nameI op then isName name else name.isEmpty) && (if ofI op then isName f else f.isEmpty) && x.length == countI op && (op != 4 || targetX x)
 && (op == 5 || op == 6 || s.isEmpty) && (op == 8 || op == 9 || l.isEmpty) && (op == 8 || e.isEmpty) && (op == 7 || ps.isEmpty && bs.isEmpty)
mutual
def okI:It→Bool
 | .mk op name f x s l e ps bs=>okIt op name f x s l e ps bs && okXs x && okSs s && okIs l && okIs e && ps.all okB && bs.all okB
def okIs:List It→Bool
 | []=>true
 | x :: l=>okI x && okIs l
end
def okM (m:Md):Bool:=isName m.name && m.ps.all okB && m.pts.all okP && okIs m.l
def told (n d:Nat) (ok:Bool):Int:=if 65536<n∨64<d then 2 else if ok then 0 else 1
def checkX (x:X):Int:=told (sizeX x) (deepX x) (okX x)
def checkS (s:S):Int:=told (sizeS s) (deepS s) (okS s)
def checkF (f:List Md):Int:=if 64<f.length then 2 else told (sumN sizeM f) (maxN deepM f) (f.all okM)
def sgT (s:Ln):Tok:=⟨4,s,0,0,0⟩
def wdT (s:Ln):Tok:=⟨2,s,0,0,0⟩
def nmT (s:Ln):Tok:=⟨1,s,0,0,0⟩
def numT (w:Int) (v:Nat):Tok:=⟨3,[],w,v,0⟩
def inT (o c:UInt8) (l:List Tok):List Tok:=sgT [o] :: (l ++ [sgT [c]])
def parT (l:List Tok):List Tok:=inT 40 41 l
def braT (l:List Tok):List Tok:=inT 91 93 l
def cubT (l:List Tok):List Tok:=inT 123 125 l
def sepS (s:Ln):List (List Tok)→List Tok
 | []=>[]
 | [a]=>a
 | a :: b :: r=>a ++ sgT s :: sepS s (b :: r)
def twoS (n:Int):Ln:=
 if n=11 then [38] else if n=12 then [124] else if n=13 then [94] else if n=14 then [43] else if n=15 then [45] else if n=16 then [42] else if n=17 then [60,60] else if n=18 then [62,62]
 else if n=19 then [61,61] else if n=20 then [33,61] else if n=21 then [60] else if n=22 then [60,61] else if n=23 then [62] else if n=24 then [62,61] else if n=25 then [38,38] else [124,124]
def twoR (n:Int):Nat:=
 if n=11 then 5 else if n=12 then 3 else if n=13 then 4 else if n=14 then 9 else if n=15 then 9 else if n=16 then 10 else if n=17 then 8 else if n=18 then 8
 else if n=19 then 6 else if n=20 then 6 else if n=21 then 7 else if n=22 then 7 else if n=23 then 7 else if n=24 then 7 else if n=25 then 2 else 1
def oneS (n:Int):Ln:=if n=1 then [126] else if n=2 then [45] else if n=3 then [38] else if n=4 then [124] else if n=5 then [94] else [33]
def extS (n:Int):Ln:=if n=31 then [122,101,120,116] else if n=32 then [115,101,120,116] else [116,114,117,110,99]
def rankX (x:X):Nat:=if x.op=7 then 0 else if x.op=6 then twoR x.n else 11
def partT (k:Nat × List Tok) (least:Nat):List Tok:=if k.1<least then parT k.2 else k.2
def nodeT (op:Int) (name:Ln) (n w:Int) (v:Nat) (ks:List (Nat × List Tok)):List Tok:=
 if op=1 then [numT w v]
 else if op=2 then [nmT name]
 else if op=3∨op=4 then nmT name :: braT (sepS [58] (ks.map Prod.snd))
 else if op=5 then (match ks with | [a]=>sgT (oneS n) :: partT a 11 | _=>[])
 else if op=6 then (match ks with | [a,b]=>partT a (twoR n) ++ sgT (twoS n) :: partT b (twoR n+1) | _=>[])
 else if op=7 then (match ks with | [a,b,c]=>partT a 1 ++ sgT [63] :: (b.2 ++ sgT [58] :: c.2) | _=>[])
 else if op=8 then cubT (sepS [44] (ks.map Prod.snd))
 else if op=9 then (match ks with | [a,b]=>cubT (a.2 ++ cubT b.2) | _=>[])
 else wdT (extS n) :: parT (sepS [44] (ks.map Prod.snd))
mutual
def exprT:X→List Tok
 | .mk op name n w v l=>nodeT op name n w v (kidsT l)
def kidsT:List X→List (Nat × List Tok)
 | []=>[]
 | x :: l=>(rankX x,exprT x) :: kidsT l
end
def listT (l:List X):List Tok:=sepS [44] (l.map exprT)
def spanT (name:Ln) (x:List X):List Tok:=parT (nmT name :: sgT [61] :: sepS [46,46] (x.map exprT))
def ifW:Ln:=[105,102]
def elseW:Ln:=[101,108,115,101]
def caseW:Ln:=[99,97,115,101]
def forW:Ln:=[102,111,114]
def stT (put:Ln) (op:Int) (name:Ln) (x:List X) (l:List S) (ts:List (List Tok)):List Tok:=
 if op=1 then sepS put (x.map exprT) ++ [sgT [59]]
 else if op=2 then (match l,ts with
  | [_,b],[t,u]=>wdT ifW :: (parT (listT x) ++ (t ++ (if b.op=2∨b.l ≠ [] then wdT elseW :: u else [])))
  | _,_=>[])
 else if op=3 then wdT caseW :: (parT (listT x) ++ cubT ts.flatten)
 else if op=4 then (if x ≠ [] then listT x ++ sgT [58] :: cubT ts.flatten else if l=[] then [] else wdT elseW :: sgT [58] :: cubT ts.flatten)
 else if op=6 then wdT forW :: (spanT name x ++ cubT ts.flatten)
 else cubT ts.flatten
mutual
def stmtT (put:Ln):S→List Tok
 | .mk op name x l=>stT put op name x l (stmtsT put l)
def stmtsT (put:Ln):List S→List (List Tok)
 | []=>[]
 | s :: l=>stmtT put s :: stmtsT put l
end
def blockT (put:Ln) (l:List S):List Tok:=cubT (stmtsT put l).flatten
def bindT (b:Bd):List Tok:=nmT b.name :: sgT [61] :: exprT b.x
def bindsT (l:List Bd):List Tok:=parT (sepS [44] (l.map bindT))
def paramsT (l:List Bd):List Tok:=if l=[] then [] else sgT [35] :: bindsT l
def itT (op:Int) (name f:Ln) (x:List X) (s:List S) (e:List It) (ps bs:List Bd) (tl te:List (List Tok)):List Tok:=
 if op=1 then wdT [99,111,110,115,116] :: nmT name :: sgT [61] :: (listT x ++ [sgT [59]])
 else if op=2 then wdT [119,105,114,101] :: nmT name :: sgT [58] :: (listT x ++ [sgT [59]])
 else if op=3 then wdT [114,101,103] :: nmT name :: sgT [58] :: (sepS [61] (x.map exprT) ++ [sgT [59]])
 else if op=4 then wdT [97,115,115,105,103,110] :: (sepS [61] (x.map exprT) ++ [sgT [59]])
 else if op=5 then wdT [99,111,109,98] :: blockT [61] s
 else if op=6 then wdT [111,110] :: wdT [116,105,99,107] :: blockT [60,61] s
 else if op=7 then wdT [105,110,115,116] :: nmT name :: sgT [58] :: nmT f :: (paramsT ps ++ (bindsT bs ++ [sgT [59]]))
 else if op=8 then wdT ifW :: (parT (listT x) ++ (cubT tl.flatten ++ (if e=[] then [] else wdT elseW :: cubT te.flatten)))
 else if op=9 then wdT forW :: nmT name :: (spanT f x ++ cubT tl.flatten)
 else wdT [99,104,101,99,107] :: nmT name :: sgT [58] :: (listT x ++ [sgT [59]])
mutual
def itemT:It→List Tok
 | .mk op name f x s l e ps bs=>itT op name f x s e ps bs (itemsT l) (itemsT e)
def itemsT:List It→List (List Tok)
 | []=>[]
 | s :: l=>itemT s :: itemsT l
end
def portT (p:Pt):List Tok:=wdT (if p.out then [111,117,116] else [105,110]) :: nmT p.name :: sgT [58] :: exprT p.w
def moduleT (m:Md):List Tok:=wdT [109,111,100,117,108,101] :: nmT m.name :: (paramsT m.ps ++ (parT (sepS [44] (m.pts.map portT)) ++ cubT (itemsT m.l).flatten))
def fileT (f:List Md):List Tok:=(f.map moduleT).flatten
theorem kidsT_map (l:List X):kidsT l=l.map fun x=>(rankX x,exprT x):=by
 induction l with
 | nil=>rfl
 | cons x l ih=>rw [kidsT,ih];rfl
theorem stmtsT_map (put:Ln) (l:List S):stmtsT put l=l.map (stmtT put):=by
 induction l with
 | nil=>rfl
 | cons x l ih=>rw [stmtsT,ih];rfl
theorem itemsT_map (l:List It):itemsT l=l.map itemT:=by
 induction l with
 | nil=>rfl
 | cons x l ih=>rw [itemsT,ih];rfl
theorem sizeXs_sum (l:List X):sizeXs l=sumN sizeX l:=by
 induction l with
 | nil=>rfl
 | cons x l ih=>rw [sizeXs,ih];rfl
theorem deepXs_max (l:List X):deepXs l=maxN deepX l:=by
 induction l with
 | nil=>rfl
 | cons x l ih=>rw [deepXs,ih];rfl
theorem sizeSs_sum (l:List S):sizeSs l=sumN sizeS l:=by
 induction l with
 | nil=>rfl
 | cons x l ih=>rw [sizeSs,ih];rfl
theorem deepSs_max (l:List S):deepSs l=maxN deepS l:=by
 induction l with
 | nil=>rfl
 | cons x l ih=>rw [deepSs,ih];rfl
theorem sizeIs_sum (l:List It):sizeIs l=sumN sizeI l:=by
 induction l with
 | nil=>rfl
 | cons x l ih=>rw [sizeIs,ih];rfl
theorem deepIs_max (l:List It):deepIs l=maxN deepI l:=by
 induction l with
 | nil=>rfl
 | cons x l ih=>rw [deepIs,ih];rfl
theorem okXs_all (l:List X):okXs l=l.all okX:=by
 induction l with
 | nil=>rfl
 | cons x l ih=>rw [okXs,ih];rfl
theorem okSAs_all (l:List S):okSAs l=l.all okSA:=by
 induction l with
 | nil=>rfl
 | cons x l ih=>rw [okSAs,ih];rfl
theorem okIs_all (l:List It):okIs l=l.all okI:=by
 induction l with
 | nil=>rfl
 | cons x l ih=>rw [okIs,ih];rfl
theorem okSs_all (l:List S):okSs l=l.all okS:=by
 unfold okSs
 rw [okSAs_all,Bool.eq_iff_iff]
 simp only [Bool.and_eq_true,List.all_eq_true,okS]
 exact ⟨fun h x hx=>⟨h.1 x hx,h.2 x hx⟩,fun h=>⟨fun x hx=>(h x hx).1,fun x hx=>(h x hx).2⟩⟩
theorem sumN_mem {α:Type} (f:α→Nat) {l:List α} {x:α} (h:x ∈ l):f x≤sumN f l:=by
 induction l with
 | nil=>cases h
 | cons a l ih=>
  have e:sumN f (a :: l)=f a+sumN f l:=rfl
  rcases List.mem_cons.1 h with rfl | h
  ·omega
  ·have:=ih h;omega
theorem sumN_len {α:Type} (f:α→Nat) (hf:∀ x,1≤f x) (l:List α):l.length≤sumN f l:=by
 induction l with
 | nil=>exact Nat.zero_le _
 | cons a l ih=>
  have e:sumN f (a :: l)=f a+sumN f l:=rfl
  have:=hf a
  simp only [List.length_cons];omega
theorem maxN_mem {α:Type} (f:α→Nat) {l:List α} {x:α} (h:x ∈ l):f x≤maxN f l:=by
 induction l with
 | nil=>cases h
 | cons a l ih=>
  have e:maxN f (a :: l)=max (f a) (maxN f l):=rfl
  rcases List.mem_cons.1 h with rfl | h
  ·omega
  ·have:=ih h;omega
theorem one_sizeX (x:X):1≤sizeX x:=by cases x;rw [sizeX];omega
theorem one_sizeS (x:S):1≤sizeS x:=by cases x;rw [sizeS];omega
theorem one_sizeI (x:It):1≤sizeI x:=by cases x;rw [sizeI];omega
end Go.Proofs.Spl
namespace Go.Proofs.Scn
open Go.Lib (hid)
def bs (l:List UInt8):ByteArray:=⟨l.toArray⟩
theorem bs_list (s:ByteArray):bs s.data.toList=s:=rfl
theorem list_bs (l:List UInt8):(bs l).data.toList=l:=rfl
theorem size_list (s:ByteArray):s.size=s.data.toList.length:=rfl
theorem size_bs (l:List UInt8):(bs l).size=l.length:=rfl
theorem extract_bs (s:ByteArray) (a b:Nat):s.extract a b=bs ((s.data.toList.take b).drop a):=by
 have:(s.extract a b).data.toList=(s.data.toList.take b).drop a:=by simp [List.drop_take]
 rw [← this,bs_list]
def headN (p:UInt8→Bool) (l:List UInt8):Nat:=(l.takeWhile p).length
theorem headN_le (p:UInt8→Bool) (l:List UInt8):headN p l≤l.length:=(List.takeWhile_sublist p).length_le
theorem headN_lt {p:UInt8→Bool}:∀ {l:List UInt8} {k:Nat} (h:k<headN p l) (h':k<l.length),p l[k]=true
 | [],k,h,h'=>by simp at h'
 | a :: l,0,h,h'=>by
  unfold headN at h
  rw [List.takeWhile_cons] at h
  split at h
  ·assumption
  ·simp at h
 | a :: l,k+1,h,h'=>by
  unfold headN at h
  rw [List.takeWhile_cons] at h
  split at h
  ·exact headN_lt (k:=k) (by simpa [headN] using h) _
  ·simp at h
theorem headN_at {p:UInt8→Bool}:∀ {l:List UInt8} (h:headN p l<l.length),p (l[headN p l])=false
 | [],h=>by simp at h
 | a :: l,h=>by
  by_cases hp:p a=true
  ·have e:headN p (a :: l)=headN p l+1:=by simp [headN,List.takeWhile_cons,hp]
   have h2:headN p l<l.length:=by rw [e] at h;simpa using h
   have:=headN_at h2
   simp only [e,List.getElem_cons_succ]
   exact this
  ·have e:headN p (a :: l)=0:=by simp [headN,List.takeWhile_cons,hp]
   simp only [e,List.getElem_cons_zero]
   simpa using hp
theorem take_headN (p:UInt8→Bool) (l:List UInt8):l.take (headN p l)=l.takeWhile p:=take_takeWhile l
def cutsF (cur:List UInt8):List UInt8→List (List UInt8)
 | []=>[]
 | c :: r=>if c=32 then cur :: cutsF [] r else cutsF (cur ++ [c]) r
def amongR (list s:List UInt8):Bool:=(cutsF [] list).contains s
def amongS (list s:List UInt8):Bool:=!s.isEmpty && !s.contains 32 && Lib.contains list (32 :: s ++ [32])
theorem contains_iff (s sub:List UInt8):Lib.contains s sub=true ↔ ∃ i,i≤s.length∧sub.isPrefixOf (s.drop i)=true:=by
 unfold Lib.contains
 rw [decide_eq_true_eq]
 rcases Lib.index_spec s sub with ⟨h1,h2⟩ | ⟨i,h1,h2,h3,_⟩
 ·constructor
  ·intro h;omega
  ·rintro ⟨i,hi,hp⟩
   have:=h2 i hi
   unfold Lib.occAt at this
   rw [this] at hp
   cases hp
 ·exact ⟨fun _=>⟨i,h2,h3⟩,fun _=>by omega⟩
theorem among_pre {s l:List UInt8} (h32:32 ∉ s):∀ {cur:List UInt8},32 ∉ cur→(s ++ [32]).isPrefixOf (cur ++ 32 :: l)=true→s=cur:=by
 induction s with
 | nil=>
  intro cur hc h
  match cur,hc,h with
  | [],_,_=>rfl
  | c :: cur,hc,h=>simp at h hc;exact absurd h hc.1
 | cons a s ih=>
  intro cur hc h
  simp only [List.mem_cons,not_or] at h32
  match cur,hc,h with
  | [],_,h=>simp at h;exact absurd h.1.symm h32.1
  | c :: cur,hc,h=>
   simp only [List.mem_cons,not_or] at hc
   simp at h
   rw [h.1,ih h32.2 hc.2 (by simpa using h.2)]
theorem cuts_contains {s:List UInt8} (h32:32 ∉ s):∀ (l cur:List UInt8),32 ∉ cur →
  ((cutsF cur l).contains s=true ↔ (s ++ [32]).isPrefixOf (cur ++ l)=true∨∃ i,i≤l.length∧(32 :: s ++ [32]).isPrefixOf (l.drop i)=true)
 | [],cur,hc=>by
  simp only [cutsF,List.contains_nil,Bool.false_eq_true,false_iff,not_or,not_exists,not_and]
  refine ⟨fun h=>?_,fun i hi h=>by simp at h⟩
  have:=List.isPrefixOf_iff_prefix.1 h
  have hm:(32:UInt8) ∈ cur ++ []:=this.subset (by simp)
  simp at hm
  exact hc hm
 | c :: r,cur,hc=>by
  by_cases h:c=32
  ·subst h
   simp only [cutsF,if_true,List.contains_cons,Bool.or_eq_true,beq_iff_eq]
   rw [cuts_contains h32 r [] (by simp)]
   constructor
   ·rintro (rfl | h | ⟨i,hi,h⟩)
    ·left;rw [List.isPrefixOf_iff_prefix];exact ⟨r,by simp⟩
    ·right;exact ⟨0,by simp,by simpa using h⟩
    ·right;exact ⟨i+1,by simp;omega,by simpa using h⟩
   ·rintro (h | ⟨i,hi,h⟩)
    ·left;exact among_pre h32 hc h
    ·match i,hi,h with
     | 0,_,h=>right;left;simpa using h
     | i+1,hi,h=>right;right;exact ⟨i,by simp at hi;omega,by simpa using h⟩
  ·simp only [cutsF,if_neg h]
   rw [cuts_contains h32 r (cur ++ [c]) (by simp [hc];exact fun e=>h e.symm)]
   simp only [List.append_assoc,List.singleton_append]
   constructor
   ·rintro (h1 | ⟨i,hi,h1⟩)
    ·exact .inl h1
    ·exact .inr ⟨i+1,by simp;omega,by simpa using h1⟩
   ·rintro (h1 | ⟨i,hi,h1⟩)
    ·exact .inl h1
    ·match i,hi,h1 with
     | 0,_,h1=>simp at h1;exact absurd h1.1.symm h
     | i+1,hi,h1=>exact .inr ⟨i,by simp at hi;omega,by simpa using h1⟩
theorem amongS_eq (list s:List UInt8) (hs:s.isEmpty=false) (hc:s.contains 32=false):amongS (32 :: list) s=amongR list s:=by
 have h32:(32:UInt8) ∉ s:=fun h=>by rw [← List.contains_iff_mem] at h;rw [h] at hc;cases hc
 unfold amongS amongR
 rw [hs,hc]
 simp only [Bool.not_false,Bool.true_and]
 rw [Bool.eq_iff_iff,contains_iff,cuts_contains h32 list [] (by simp)]
 constructor
 ·rintro ⟨i,hi,h⟩
  match i,hi,h with
  | 0,_,h=>left;simpa using h
  | i+1,hi,h=>right;exact ⟨i,by simp at hi;omega,by simpa using h⟩
 ·rintro (h | ⟨i,hi,h⟩)
  ·exact ⟨0,by simp,by simpa using h⟩
  ·exact ⟨i+1,by simp;omega,by simpa using h⟩
def wordsT:List UInt8:=wordsL.flatMap (· ++ [32])
def pairsT:List UInt8:=pairsL.flatMap (· ++ [32])
theorem words_text:cutsF [] wordsT=wordsL:=by decide +kernel
theorem pairs_text:cutsF [] pairsT=pairsL:=by decide +kernel
theorem words_clean:(wordsL.all fun s=>!s.isEmpty && !s.contains 32)=true:=by decide
theorem pairs_clean:(pairsL.all fun s=>!s.isEmpty && !s.contains 32)=true:=by decide
theorem among_words (s:List UInt8):amongS (32 :: wordsT) s=isWord s:=by
 by_cases h:s.isEmpty=false∧s.contains 32=false
 ·rw [amongS_eq _ _ h.1 h.2,amongR,words_text,isWord]
 ·have h1:amongS (32 :: wordsT) s=false:=by
   unfold amongS
   rcases Classical.not_and_iff_not_or_not.1 h with h | h
   ·simp at h;simp [h]
   ·simp at h;simp [h]
  rw [h1]
  cases h2:isWord s
  ·rfl
  ·have:=List.all_eq_true.1 words_clean s (by simpa [isWord] using h2)
   simp at this
   exact absurd (by simpa using this) h
theorem among_pairs (s:List UInt8):amongS (32 :: pairsT) s=pairsL.contains s:=by
 by_cases h:s.isEmpty=false∧s.contains 32=false
 ·rw [amongS_eq _ _ h.1 h.2,amongR,pairs_text]
 ·have h1:amongS (32 :: pairsT) s=false:=by
   unfold amongS
   rcases Classical.not_and_iff_not_or_not.1 h with h | h
   ·simp at h;simp [h]
   ·simp at h;simp [h]
  rw [h1]
  cases h2:pairsL.contains s
  ·rfl
  ·have:=List.all_eq_true.1 pairs_clean s (by simpa using h2)
   simp at this
   exact absurd (by simpa using this) h
theorem bitLen_le (v w:Nat) (hv:v<2 ^ 64):decide (Lib.bitLen v≤w)=decide (v<2 ^ w):=by
 have key:∀ f x,x<2 ^ f→∀ w,(Lib.bitLenAux f x≤w ↔ x<2 ^ w):=by
  intro f
  induction f with
  | zero=>intro x hx w;simp [Lib.bitLenAux] at *;subst hx;exact Nat.two_pow_pos w
  | succ f ih=>
   intro x hx w
   unfold Lib.bitLenAux
   by_cases h0:x=0
   ·subst h0;simp [Nat.two_pow_pos]
   ·rw [if_neg h0]
    have:=ih (x / 2) (by rw [Nat.pow_succ] at hx;omega)
    match w with
    | 0=>simp;omega
    | w+1=>rw [Nat.add_comm 1,Nat.add_le_add_iff_right,this,Nat.pow_succ];omega
 rw [decide_eq_decide]
 exact key 64 v hv w
end Go.Proofs.Scn
namespace Go.Proofs.Spl
open Go.Lib (hid)
open Go Go.RowKit Go.Proofs.Scn
theorem six_later {B:Nat} {W W':World} (h:Below B W W') {q o:Nat} (hq:q<B) {v0 v1 v2 v3 v4 v5:Value} (a0:W.cell? ⟨q,o,none⟩=some v0) (a1:W.cell? ⟨q,o+1,none⟩=some v1) (a2:W.cell? ⟨q,o+2,none⟩=some v2) (a3:W.cell? ⟨q,o+3,none⟩=some v3) (a4:W.cell? ⟨q,o+4,none⟩=some v4) (a5:W.cell? ⟨q,o+5,none⟩=some v5) :
  W'.cell? ⟨q,o,none⟩=some v0∧W'.cell? ⟨q,o+1,none⟩=some v1∧W'.cell? ⟨q,o+2,none⟩=some v2∧W'.cell? ⟨q,o+3,none⟩=some v3∧W'.cell? ⟨q,o+4,none⟩=some v4∧W'.cell? ⟨q,o+5,none⟩=some v5:=
 ⟨(h.cell (p:=⟨q,o,none⟩) hq).trans a0,(h.cell (p:=⟨q,o+1,none⟩) hq).trans a1,(h.cell (p:=⟨q,o+2,none⟩) hq).trans a2,(h.cell (p:=⟨q,o+3,none⟩) hq).trans a3,(h.cell (p:=⟨q,o+4,none⟩) hq).trans a4,(h.cell (p:=⟨q,o+5,none⟩) hq).trans a5⟩
theorem new_box (W:World) (o:Obj):∃ W1,Hid (Below W.heap.size W W1)∧W1.heap[W.heap.size]?=some o∧W1.heap.size=W.heap.size+1∧W.alloc o=W1:=⟨_,hid ((Below.refl _ _).alloc (Nat.le_refl _) _),World.alloc_heap_new W o,World.size_alloc W o,rfl⟩
theorem box_at {W:World} {b:Nat} {a:Array Value} {T:TypeId} (h:W.heap[b]?=some (.cells a T (0,0))) (j:Nat) {v:Value} (hj:a[j]?=some v):W.cell? ⟨b,j,none⟩=some v:=by simp [World.cell?,h,hj]
theorem rows4 {W w:World} (hb:Below W.heap.size W w) {q o:Nat} (hq:q<W.heap.size) {v0 v1 v2 v3:Value} (hc:∀ j,j<4→W.cell? ⟨q,o+j,none⟩=[v0,v1,v2,v3][j]?):w.cell? ⟨q,o,none⟩=some v0∧w.cell? ⟨q,o+1,none⟩=some v1∧w.cell? ⟨q,o+2,none⟩=some v2∧w.cell? ⟨q,o+3,none⟩=some v3:=
 ⟨(hb.cell (p:=⟨q,o,none⟩) hq).trans (hc 0 (by omega)),(hb.cell (p:=⟨q,o+1,none⟩) hq).trans (hc 1 (by omega)),(hb.cell (p:=⟨q,o+2,none⟩) hq).trans (hc 2 (by omega)),(hb.cell (p:=⟨q,o+3,none⟩) hq).trans (hc 3 (by omega))⟩
theorem rows6 {W w:World} (hb:Below W.heap.size W w) {q o:Nat} (hq:q<W.heap.size) {v0 v1 v2 v3 v4 v5:Value} (hc:∀ j,j<6→W.cell? ⟨q,o+j,none⟩=[v0,v1,v2,v3,v4,v5][j]?):w.cell? ⟨q,o,none⟩=some v0∧w.cell? ⟨q,o+1,none⟩=some v1∧w.cell? ⟨q,o+2,none⟩=some v2∧w.cell? ⟨q,o+3,none⟩=some v3∧w.cell? ⟨q,o+4,none⟩=some v4∧w.cell? ⟨q,o+5,none⟩=some v5:=
 ⟨(hb.cell (p:=⟨q,o,none⟩) hq).trans (hc 0 (by omega)),(hb.cell (p:=⟨q,o+1,none⟩) hq).trans (hc 1 (by omega)),(hb.cell (p:=⟨q,o+2,none⟩) hq).trans (hc 2 (by omega)),(hb.cell (p:=⟨q,o+3,none⟩) hq).trans (hc 3 (by omega)),(hb.cell (p:=⟨q,o+4,none⟩) hq).trans (hc 4 (by omega)),(hb.cell (p:=⟨q,o+5,none⟩) hq).trans (hc 5 (by omega))⟩
theorem rows7 {W w:World} (hb:Below W.heap.size W w) {q o:Nat} (hq:q<W.heap.size) {v0 v1 v2 v3 v4 v5 v6:Value} (hc:∀ j,j<7→W.cell? ⟨q,o+j,none⟩=[v0,v1,v2,v3,v4,v5,v6][j]?):w.cell? ⟨q,o,none⟩=some v0∧w.cell? ⟨q,o+1,none⟩=some v1∧w.cell? ⟨q,o+2,none⟩=some v2∧w.cell? ⟨q,o+3,none⟩=some v3∧w.cell? ⟨q,o+4,none⟩=some v4∧w.cell? ⟨q,o+5,none⟩=some v5∧w.cell? ⟨q,o+6,none⟩=some v6:=
 ⟨(hb.cell (p:=⟨q,o,none⟩) hq).trans (hc 0 (by omega)),(hb.cell (p:=⟨q,o+1,none⟩) hq).trans (hc 1 (by omega)),(hb.cell (p:=⟨q,o+2,none⟩) hq).trans (hc 2 (by omega)),(hb.cell (p:=⟨q,o+3,none⟩) hq).trans (hc 3 (by omega)),(hb.cell (p:=⟨q,o+4,none⟩) hq).trans (hc 4 (by omega)),(hb.cell (p:=⟨q,o+5,none⟩) hq).trans (hc 5 (by omega)),(hb.cell (p:=⟨q,o+6,none⟩) hq).trans (hc 6 (by omega))⟩
theorem rows8 {W w:World} (hb:Below W.heap.size W w) {q o:Nat} (hq:q<W.heap.size) {v0 v1 v2 v3 v4 v5 v6 v7:Value} (hc:∀ j,j<8→W.cell? ⟨q,o+j,none⟩=[v0,v1,v2,v3,v4,v5,v6,v7][j]?):w.cell? ⟨q,o,none⟩=some v0∧w.cell? ⟨q,o+1,none⟩=some v1∧w.cell? ⟨q,o+2,none⟩=some v2∧w.cell? ⟨q,o+3,none⟩=some v3∧w.cell? ⟨q,o+4,none⟩=some v4∧w.cell? ⟨q,o+5,none⟩=some v5∧w.cell? ⟨q,o+6,none⟩=some v6∧w.cell? ⟨q,o+7,none⟩=some v7:=
 ⟨(hb.cell (p:=⟨q,o,none⟩) hq).trans (hc 0 (by omega)),(hb.cell (p:=⟨q,o+1,none⟩) hq).trans (hc 1 (by omega)),(hb.cell (p:=⟨q,o+2,none⟩) hq).trans (hc 2 (by omega)),(hb.cell (p:=⟨q,o+3,none⟩) hq).trans (hc 3 (by omega)),(hb.cell (p:=⟨q,o+4,none⟩) hq).trans (hc 4 (by omega)),(hb.cell (p:=⟨q,o+5,none⟩) hq).trans (hc 5 (by omega)),(hb.cell (p:=⟨q,o+6,none⟩) hq).trans (hc 6 (by omega)),(hb.cell (p:=⟨q,o+7,none⟩) hq).trans (hc 7 (by omega))⟩
theorem rows9 {W w:World} (hb:Below W.heap.size W w) {q o:Nat} (hq:q<W.heap.size) {v0 v1 v2 v3 v4 v5 v6 v7 v8:Value} (hc:∀ j,j<9→W.cell? ⟨q,o+j,none⟩=[v0,v1,v2,v3,v4,v5,v6,v7,v8][j]?):w.cell? ⟨q,o,none⟩=some v0∧w.cell? ⟨q,o+1,none⟩=some v1∧w.cell? ⟨q,o+2,none⟩=some v2∧w.cell? ⟨q,o+3,none⟩=some v3∧w.cell? ⟨q,o+4,none⟩=some v4∧w.cell? ⟨q,o+5,none⟩=some v5∧w.cell? ⟨q,o+6,none⟩=some v6∧w.cell? ⟨q,o+7,none⟩=some v7∧w.cell? ⟨q,o+8,none⟩=some v8:=
 ⟨(hb.cell (p:=⟨q,o,none⟩) hq).trans (hc 0 (by omega)),(hb.cell (p:=⟨q,o+1,none⟩) hq).trans (hc 1 (by omega)),(hb.cell (p:=⟨q,o+2,none⟩) hq).trans (hc 2 (by omega)),(hb.cell (p:=⟨q,o+3,none⟩) hq).trans (hc 3 (by omega)),(hb.cell (p:=⟨q,o+4,none⟩) hq).trans (hc 4 (by omega)),(hb.cell (p:=⟨q,o+5,none⟩) hq).trans (hc 5 (by omega)),(hb.cell (p:=⟨q,o+6,none⟩) hq).trans (hc 6 (by omega)),(hb.cell (p:=⟨q,o+7,none⟩) hq).trans (hc 7 (by omega)),(hb.cell (p:=⟨q,o+8,none⟩) hq).trans (hc 8 (by omega))⟩
def Rows {α:Type} (w:World) (m:Nat) (R:α→List Value→Prop) (b off:Nat) (l:List α):Prop:=
 ∀ k (h:k<l.length),∃ cs,R l[k] cs∧∀ j,j<m→w.cell? ⟨b,off+k * m+j,none⟩=cs[j]?
def Els {α:Type} (w:World) (m:Nat) (R:α→List Value→Prop) (v:Value) (l:List α):Prop:=
 ∃ p cap,v=.slice p l.length cap∧l.length≤cap∧(l=[]∨∃ b off,p=some ⟨b,off,none⟩∧b<w.heap.size∧Rows w m R b off l)
mutual
def XR (w:World):X→List Value→Prop
 | .mk op name n wd v l,cs=>v<two64∧∃ p cap,cs=[.int .i64 op,.string (bs name),.int .i64 n,.int .i64 wd,.int .u64 v,.slice p l.length cap]∧l.length≤cap∧(l=[]∨∃ b off,p=some ⟨b,off,none⟩∧b<w.heap.size∧XRs w b off l)
def XRs (w:World) (b off:Nat):List X→Prop
 | []=>True
 | x :: l=>(∃ cs,XR w x cs∧∀ j,j<6→w.cell? ⟨b,off+j,none⟩=cs[j]?)∧XRs w b (off+6) l
end
theorem XRs_rows (w:World) (b:Nat):∀ (l:List X) (off:Nat),XRs w b off l ↔ Rows w 6 (XR w) b off l
 | [],off=>by
  rw [XRs]
  exact ⟨fun _ k h=>absurd h (by simp),fun _=>trivial⟩
 | x :: l,off=>by
  rw [XRs,XRs_rows w b l (off+6)]
  constructor
  ·rintro ⟨⟨cs,h1,h2⟩,h3⟩ k hk
   match k with
   | 0=>exact ⟨cs,h1,fun j hj=>by rw [Nat.zero_mul,Nat.add_zero];exact h2 j hj⟩
   | k+1=>
    obtain ⟨cs,h4,h5⟩:=h3 k (by simpa using hk)
    exact ⟨cs,h4,fun j hj=>by rw [← h5 j hj];congr 2;omega⟩
  ·intro h
   refine ⟨?_,fun k hk=>?_⟩
   ·obtain ⟨cs,h1,h2⟩:=h 0 (by simp)
    exact ⟨cs,h1,fun j hj=>by have:=h2 j hj;rwa [Nat.zero_mul,Nat.add_zero] at this⟩
   ·obtain ⟨cs,h1,h2⟩:=h (k+1) (by simpa using hk)
    exact ⟨cs,h1,fun j hj=>by rw [← h2 j hj];congr 2;omega⟩
theorem XR_iff {w:World} {x:X} {cs:List Value}:XR w x cs ↔ x.v<two64∧∃ ls,cs=[.int .i64 x.op,.string (bs x.name),.int .i64 x.n,.int .i64 x.w,.int .u64 x.v,ls]∧Els w 6 (XR w) ls x.l:=by
 obtain ⟨op,name,n,wd,v,l⟩:=x
 rw [XR]
 simp only [X.op,X.name,X.n,X.w,X.v,X.l,Els]
 constructor
 ·rintro ⟨h0,p,cap,h1,h2,h3⟩
  refine ⟨h0,_,h1,p,cap,rfl,h2,?_⟩
  rcases h3 with h3 | ⟨b,off,h4,h5,h6⟩
  ·exact .inl h3
  ·exact .inr ⟨b,off,h4,h5,(XRs_rows ..).1 h6⟩
 ·rintro ⟨h0,ls,h1,p,cap,rfl,h2,h3⟩
  refine ⟨h0,p,cap,h1,h2,?_⟩
  rcases h3 with h3 | ⟨b,off,h4,h5,h6⟩
  ·exact .inl h3
  ·exact .inr ⟨b,off,h4,h5,(XRs_rows ..).2 h6⟩
theorem Rows.later {α:Type} {w w':World} {m:Nat} {R R':α→List Value→Prop} {b off:Nat} {l:List α} (h:Rows w m R b off l) (hlt:b<w.heap.size) (hb:Below w.heap.size w w') (hR:∀ x ∈ l,∀ cs,R x cs→R' x cs):Rows w' m R' b off l:=by
 intro k hk
 obtain ⟨cs,h1,h2⟩:=h k hk
 exact ⟨cs,hR _ (List.getElem_mem _) _ h1,fun j hj=>(hb.cell (p:=⟨b,off+k * m+j,none⟩) hlt).trans (h2 j hj)⟩
theorem Els.later {α:Type} {w w':World} {m:Nat} {R R':α→List Value→Prop} {v:Value} {l:List α} (h:Els w m R v l) (hb:Below w.heap.size w w') (hR:∀ x ∈ l,∀ cs,R x cs→R' x cs):Els w' m R' v l:=by
 obtain ⟨p,cap,h1,h2,h3⟩:=h
 refine ⟨p,cap,h1,h2,?_⟩
 rcases h3 with h3 | ⟨b,off,h4,h5,h6⟩
 ·exact .inl h3
 ·exact .inr ⟨b,off,h4,Nat.lt_of_lt_of_le h5 hb.size,h6.later h5 hb hR⟩
theorem XR.later {w w':World} (hb:Below w.heap.size w w'):∀ (x:X) (cs:List Value),XR w x cs→XR w' x cs:=by
 refine X.ind ?_
 intro x ih cs h
 rw [XR_iff] at h ⊢
 obtain ⟨h0,ls,h1,h2⟩:=h
 exact ⟨h0,ls,h1,h2.later hb ih⟩
abbrev XsR (w:World) (v:Value) (l:List X):Prop:=Els w 6 (XR w) v l
theorem XsR.later {w w':World} {v:Value} {l:List X} (h:XsR w v l) (hb:Below w.heap.size w w'):XsR w' v l:=Els.later h hb fun x _=>XR.later hb x
mutual
def SR (w:World):S→List Value→Prop
 | .mk op name x l,cs=>∃ xs p cap,cs=[.int .i64 op,.string (bs name),xs,.slice p l.length cap]∧XsR w xs x∧l.length≤cap∧(l=[]∨∃ b off,p=some ⟨b,off,none⟩∧b<w.heap.size∧SRs w b off l)
def SRs (w:World) (b off:Nat):List S→Prop
 | []=>True
 | x :: l=>(∃ cs,SR w x cs∧∀ j,j<4→w.cell? ⟨b,off+j,none⟩=cs[j]?)∧SRs w b (off+4) l
end
theorem SRs_rows (w:World) (b:Nat):∀ (l:List S) (off:Nat),SRs w b off l ↔ Rows w 4 (SR w) b off l
 | [],off=>by
  rw [SRs]
  exact ⟨fun _ k h=>absurd h (by simp),fun _=>trivial⟩
 | x :: l,off=>by
  rw [SRs,SRs_rows w b l (off+4)]
  constructor
  ·rintro ⟨⟨cs,h1,h2⟩,h3⟩ k hk
   match k with
   | 0=>exact ⟨cs,h1,fun j hj=>by rw [Nat.zero_mul,Nat.add_zero];exact h2 j hj⟩
   | k+1=>
    obtain ⟨cs,h4,h5⟩:=h3 k (by simpa using hk)
    exact ⟨cs,h4,fun j hj=>by rw [← h5 j hj];congr 2;omega⟩
  ·intro h
   refine ⟨?_,fun k hk=>?_⟩
   ·obtain ⟨cs,h1,h2⟩:=h 0 (by simp)
    exact ⟨cs,h1,fun j hj=>by have:=h2 j hj;rwa [Nat.zero_mul,Nat.add_zero] at this⟩
   ·obtain ⟨cs,h1,h2⟩:=h (k+1) (by simpa using hk)
    exact ⟨cs,h1,fun j hj=>by rw [← h2 j hj];congr 2;omega⟩
theorem SR_iff {w:World} {x:S} {cs:List Value}:SR w x cs ↔ ∃ xs ls,cs=[.int .i64 x.op,.string (bs x.name),xs,ls]∧XsR w xs x.x∧Els w 4 (SR w) ls x.l:=by
 obtain ⟨op,name,x,l⟩:=x
 rw [SR]
 simp only [S.op,S.name,S.x,S.l]
 constructor
 ·rintro ⟨xs,p,cap,h1,hx,h2,h3⟩
  refine ⟨xs,_,h1,hx,p,cap,rfl,h2,?_⟩
  rcases h3 with h3 | ⟨b,off,h4,h5,h6⟩
  ·exact .inl h3
  ·exact .inr ⟨b,off,h4,h5,(SRs_rows ..).1 h6⟩
 ·rintro ⟨xs,ls,h1,hx,p,cap,rfl,h2,h3⟩
  refine ⟨xs,p,cap,h1,hx,h2,?_⟩
  rcases h3 with h3 | ⟨b,off,h4,h5,h6⟩
  ·exact .inl h3
  ·exact .inr ⟨b,off,h4,h5,(SRs_rows ..).2 h6⟩
theorem SR.later {w w':World} (hb:Below w.heap.size w w'):∀ (x:S) (cs:List Value),SR w x cs→SR w' x cs:=by
 refine S.ind ?_
 intro x ih cs h
 rw [SR_iff] at h ⊢
 obtain ⟨xs,ls,h1,h2,h3⟩:=h
 exact ⟨xs,ls,h1,h2.later hb,h3.later hb ih⟩
abbrev SsR (w:World) (v:Value) (l:List S):Prop:=Els w 4 (SR w) v l
theorem SsR.later {w w':World} {v:Value} {l:List S} (h:SsR w v l) (hb:Below w.heap.size w w'):SsR w' v l:=Els.later h hb fun x _=>SR.later hb x
def BR (w:World) (b:Bd) (cs:List Value):Prop:=∃ xs,cs=.string (bs b.name) :: xs∧XR w b.x xs
def PR (w:World) (b:Pt) (cs:List Value):Prop:=∃ xs,cs=.string (bs b.name) :: .bool b.out :: xs∧XR w b.w xs
theorem BR.later {w w':World} (hb:Below w.heap.size w w') (x:Bd) (cs:List Value):BR w x cs→BR w' x cs:=fun ⟨xs,h1,h2⟩=>⟨xs,h1,h2.later hb⟩
theorem PR.later {w w':World} (hb:Below w.heap.size w w') (x:Pt) (cs:List Value):PR w x cs→PR w' x cs:=fun ⟨xs,h1,h2⟩=>⟨xs,h1,h2.later hb⟩
abbrev BsR (w:World) (v:Value) (l:List Bd):Prop:=Els w 7 (BR w) v l
abbrev PsR (w:World) (v:Value) (l:List Pt):Prop:=Els w 8 (PR w) v l
theorem BsR.later {w w':World} {v:Value} {l:List Bd} (h:BsR w v l) (hb:Below w.heap.size w w'):BsR w' v l:=Els.later h hb fun x _=>BR.later hb x
theorem PsR.later {w w':World} {v:Value} {l:List Pt} (h:PsR w v l) (hb:Below w.heap.size w w'):PsR w' v l:=Els.later h hb fun x _=>PR.later hb x
mutual
def IR (w:World):It→List Value→Prop
 | .mk op name f x s l e ps bs',cs=>∃ xs ss p cap q cap' vp vb,cs=[.int .i64 op,.string (bs name),.string (bs f),xs,ss,.slice p l.length cap,.slice q e.length cap',vp,vb]∧XsR w xs x∧SsR w ss s∧BsR w vp ps∧BsR w vb bs' ∧
  (l.length≤cap∧(l=[]∨∃ b off,p=some ⟨b,off,none⟩∧b<w.heap.size∧IRs w b off l))∧(e.length≤cap'∧(e=[]∨∃ b off,q=some ⟨b,off,none⟩∧b<w.heap.size∧IRs w b off e))
def IRs (w:World) (b off:Nat):List It→Prop
 | []=>True
 | x :: l=>(∃ cs,IR w x cs∧∀ j,j<9→w.cell? ⟨b,off+j,none⟩=cs[j]?)∧IRs w b (off+9) l
end
theorem IRs_rows (w:World) (b:Nat):∀ (l:List It) (off:Nat),IRs w b off l ↔ Rows w 9 (IR w) b off l
 | [],off=>by
  rw [IRs]
  exact ⟨fun _ k h=>absurd h (by simp),fun _=>trivial⟩
 | x :: l,off=>by
  rw [IRs,IRs_rows w b l (off+9)]
  constructor
  ·rintro ⟨⟨cs,h1,h2⟩,h3⟩ k hk
   match k with
   | 0=>exact ⟨cs,h1,fun j hj=>by rw [Nat.zero_mul,Nat.add_zero];exact h2 j hj⟩
   | k+1=>
    obtain ⟨cs,h4,h5⟩:=h3 k (by simpa using hk)
    exact ⟨cs,h4,fun j hj=>by rw [← h5 j hj];congr 2;omega⟩
  ·intro h
   refine ⟨?_,fun k hk=>?_⟩
   ·obtain ⟨cs,h1,h2⟩:=h 0 (by simp)
    exact ⟨cs,h1,fun j hj=>by have:=h2 j hj;rwa [Nat.zero_mul,Nat.add_zero] at this⟩
   ·obtain ⟨cs,h1,h2⟩:=h (k+1) (by simpa using hk)
    exact ⟨cs,h1,fun j hj=>by rw [← h2 j hj];congr 2;omega⟩
theorem IR_iff {w:World} {x:It} {cs:List Value}:IR w x cs ↔ ∃ xs ss ls es vp vb,cs=[.int .i64 x.op,.string (bs x.name),.string (bs x.of),xs,ss,ls,es,vp,vb]∧XsR w xs x.x∧SsR w ss x.s∧BsR w vp x.ps∧BsR w vb x.bs∧Els w 9 (IR w) ls x.l∧Els w 9 (IR w) es x.e:=by
 obtain ⟨op,name,f,x,s,l,e,ps,bs'⟩:=x
 rw [IR]
 simp only [It.op,It.name,It.of,It.x,It.s,It.l,It.e,It.ps,It.bs]
 constructor
 ·rintro ⟨xs,ss,p,cap,q,cap',vp,vb,h1,hx,hs,hp,hb,⟨h2,h3⟩,⟨h4,h5⟩⟩
  refine ⟨xs,ss,_,_,vp,vb,h1,hx,hs,hp,hb,⟨p,cap,rfl,h2,?_⟩,⟨q,cap',rfl,h4,?_⟩⟩
  ·rcases h3 with h3 | ⟨b,off,h4,h5,h6⟩
   ·exact .inl h3
   ·exact .inr ⟨b,off,h4,h5,(IRs_rows ..).1 h6⟩
  ·rcases h5 with h3 | ⟨b,off,h4,h5,h6⟩
   ·exact .inl h3
   ·exact .inr ⟨b,off,h4,h5,(IRs_rows ..).1 h6⟩
 ·rintro ⟨xs,ss,ls,es,vp,vb,h1,hx,hs,hp,hb,⟨p,cap,rfl,h2,h3⟩,⟨q,cap',rfl,h4,h5⟩⟩
  refine ⟨xs,ss,p,cap,q,cap',vp,vb,h1,hx,hs,hp,hb,⟨h2,?_⟩,⟨h4,?_⟩⟩
  ·rcases h3 with h3 | ⟨b,off,h4,h5,h6⟩
   ·exact .inl h3
   ·exact .inr ⟨b,off,h4,h5,(IRs_rows ..).2 h6⟩
  ·rcases h5 with h3 | ⟨b,off,h4,h5,h6⟩
   ·exact .inl h3
   ·exact .inr ⟨b,off,h4,h5,(IRs_rows ..).2 h6⟩
theorem IR.later {w w':World} (hb:Below w.heap.size w w'):∀ (x:It) (cs:List Value),IR w x cs→IR w' x cs:=by
 refine It.ind ?_
 intro x ihl ihe cs h
 rw [IR_iff] at h ⊢
 obtain ⟨xs,ss,ls,es,vp,vb,h1,hx,hs,hp,hbb,hl,he⟩:=h
 exact ⟨xs,ss,ls,es,vp,vb,h1,hx.later hb,hs.later hb,hp.later hb,hbb.later hb,hl.later hb ihl,he.later hb ihe⟩
abbrev IsR (w:World) (v:Value) (l:List It):Prop:=Els w 9 (IR w) v l
theorem IsR.later {w w':World} {v:Value} {l:List It} (h:IsR w v l) (hb:Below w.heap.size w w'):IsR w' v l:=Els.later h hb fun x _=>IR.later hb x
def MR (w:World) (m:Md) (cs:List Value):Prop:=∃ vp vt vi,cs=[.string (bs m.name),vp,vt,vi]∧BsR w vp m.ps∧PsR w vt m.pts∧IsR w vi m.l
theorem MR.later {w w':World} (hb:Below w.heap.size w w') (x:Md) (cs:List Value):MR w x cs→MR w' x cs:=fun ⟨vp,vt,vi,h1,h2,h3,h4⟩=>⟨vp,vt,vi,h1,h2.later hb,h3.later hb,h4.later hb⟩
abbrev MsR (w:World) (v:Value) (l:List Md):Prop:=Els w 4 (MR w) v l
theorem MsR.later {w w':World} {v:Value} {l:List Md} (h:MsR w v l) (hb:Below w.heap.size w w'):MsR w' v l:=Els.later h hb fun x _=>MR.later hb x
end Go.Proofs.Spl
namespace Go.Proofs.YtlcfpdmicpggbaaGreatDoor
open Go.Lib (hid)
open Go.RowKit Go.Proofs.Scn
theorem ret_bool {a b:Bool} (h:a=b):Ending.returned (.bool a)=.returned (.bool b):=by rw [h]
theorem ret_int {k:IntKind} {a b:Int} (h:a=b):Ending.returned (.int k a)=.returned (.int k b):=by rw [h]
theorem forall_u8k {P:UInt8→Prop} (h:∀ n:Fin 256,P (UInt8.ofNat n.val)) (c:UInt8):P c:=by
 have:=h ⟨c.toNat,c.toNat_lt⟩
 simpa using this
theorem digit_any (c:UInt8) (W:World):Calls Tryz.prog 192 #[.int .u8 c.toNat] W fun e W'=>e=.returned (.bool (isDigit c))∧W=W':=by
 by_cases h0:48≤(c.toNat:Int)
 all_goals
  go_enter Tryz.func192,Tryz.ntmps192
  go_wp2
  go_ret
  exact ⟨ret_bool (by rw [Bool.eq_iff_iff];simp only [isDigit,Bool.and_eq_true,decide_eq_true_eq,Bool.false_eq_true,false_iff];omega),rfl⟩
theorem low_letter (c:UInt8):isLetter c=(decide ((c.toNat:Int)=95) || (decide (97≤bits .or .u8 c.toNat 32) && decide (bits .or .u8 c.toNat 32≤122))):=by
 refine forall_u8k (P:=fun c=>isLetter c=(decide ((c.toNat:Int)=95) || (decide (97≤bits .or .u8 c.toNat 32) && decide (bits .or .u8 c.toNat 32≤122)))) ?_ c
 decide +kernel
theorem letter_any (c:UInt8) (W:World):Calls Tryz.prog 203 #[.int .u8 c.toNat] W fun e W'=>e=.returned (.bool (isLetter c))∧W=W':=by
 rw [low_letter c]
 by_cases h0:(c.toNat:Int)=95
 ·rw [h0]
  go_enter Tryz.func203,Tryz.ntmps203
  go_wp2
  go_ret
  exact ⟨rfl,rfl⟩
 ·have hd:((c.toNat:Int) == 95)=false:=by simpa using h0
  by_cases h1:97≤bits .or .u8 c.toNat 32
  all_goals
   go_enter Tryz.func203,Tryz.ntmps203
   go_wp2
   go_ret
   exact ⟨ret_bool (by rw [Bool.eq_iff_iff];simp only [Bool.or_eq_true,Bool.and_eq_true,decide_eq_true_eq,Bool.false_eq_true,false_iff];omega),rfl⟩
end Go.Proofs.YtlcfpdmicpggbaaGreatDoor
namespace Go.Proofs
open Go.Lib (hid)
open Go.Shelf
open Go.RowKit in
open Go.RowKit in
open Go.RowKit in
def Tryz.lays129_ren:Go.Shelf.Ren:=⟨fun | 129=>196 | n=>n,fun | 53=>25 | 3=>3 | 4=>4 | 46=>220 | 5=>5 | 9=>9 | n=>n,fun | n=>n⟩
theorem Tryz.lays129:Go.Proofs.Lays.n129 Tryz.prog Tryz.lays129_ren:={
 mixed:=by kernel_rfl
 f129:=Tryz.func196.trans (congrArg some (by kernel_rfl))
 t3:=Tryz.underlying3
 a3:=Tryz.isAgg3
 z3:=Tryz.sizeOf3
 v3:=Tryz.zeroValue3
 t4:=Tryz.underlying4
 a4:=Tryz.isAgg4
 z4:=Tryz.sizeOf4
 v4:=Tryz.zeroValue4
 t5:=Tryz.underlying5
 a5:=Tryz.isAgg5
 z5:=Tryz.sizeOf5
 v5:=Tryz.zeroValue5
 t9:=Tryz.underlying9
 a9:=Tryz.isAgg9
 z9:=Tryz.sizeOf9
 v9:=Tryz.zeroValue9
 t46:=Tryz.underlying220
 a46:=Tryz.isAgg220
 z46:=Tryz.sizeOf220
 v46:=Tryz.zeroValue220
 t53:=Tryz.underlying25
 a53:=Tryz.isAgg25
 z53:=Tryz.sizeOf25
 v53:=Tryz.zeroValue25 }
theorem Tryz.bits_Len64 (x:Int) (w:World) (h0:0≤x) (h1:x≤18446744073709551615) :
  Calls Tryz.prog 196 #[.int .u64 x] w fun e w'=>e=.returned (.int .i64 (Lib.bitLen x.toNat))∧w'=w:=Any.bits_Len64 Tryz.lays129 x w h0 h1
open Go.Lib in
open Go.Lib in
def Tryz.lays283_ren:Go.Shelf.Ren:=⟨fun | 283=>235 | n=>n,fun | 3=>3 | 9=>9 | 4=>4 | n=>n,fun | n=>n⟩
theorem Tryz.lays283:Go.Proofs.Lays.n283 Tryz.prog Tryz.lays283_ren:={
 mixed:=by kernel_rfl
 f283:=Tryz.func235.trans (congrArg some (by kernel_rfl))
 t3:=Tryz.underlying3
 a3:=Tryz.isAgg3
 z3:=Tryz.sizeOf3
 v3:=Tryz.zeroValue3
 t4:=Tryz.underlying4
 a4:=Tryz.isAgg4
 z4:=Tryz.sizeOf4
 v4:=Tryz.zeroValue4
 t9:=Tryz.underlying9
 a9:=Tryz.isAgg9
 z9:=Tryz.sizeOf9
 v9:=Tryz.zeroValue9 }
open Go.Lib in
theorem Tryz.internal_strconv_small (i:Nat) (h:i<100) (w:World) :
  Calls Tryz.prog 235 #[.int .i64 i] w fun e w'=>e=.returned (.string ⟨(Lib.decDigits i).toArray⟩)∧w'=w:=Any.internal_strconv_small Tryz.lays283 i h w
def Tryz.laysM284_ren:Go.Shelf.Ren:=⟨fun | 284=>236 | 129=>196 | 317=>244 | 318=>245 | n=>n,fun | 53=>25 | 3=>3 | 212=>250 | 0=>0 | 4=>4 | 46=>220 | 5=>5 | 9=>9 | n=>n,fun | 17=>5 | n=>n⟩
theorem Tryz.laysM284:Go.Proofs.LaysM.n284 Tryz.prog Tryz.laysM284_ren:={
 mixed:=by kernel_rfl
 f129:=Tryz.func196.trans (congrArg some (by kernel_rfl))
 f284:=Tryz.func236.trans (congrArg some (by kernel_rfl))
 f317:=Tryz.func244.trans (congrArg some (by kernel_rfl))
 f318:=Tryz.func245.trans (congrArg some (by kernel_rfl))
 t0:=Tryz.underlying0
 a0:=Tryz.isAgg0
 z0:=Tryz.sizeOf0
 v0:=Tryz.zeroValue0
 t3:=Tryz.underlying3
 a3:=Tryz.isAgg3
 z3:=Tryz.sizeOf3
 v3:=Tryz.zeroValue3
 t4:=Tryz.underlying4
 a4:=Tryz.isAgg4
 z4:=Tryz.sizeOf4
 v4:=Tryz.zeroValue4
 t5:=Tryz.underlying5
 a5:=Tryz.isAgg5
 z5:=Tryz.sizeOf5
 v5:=Tryz.zeroValue5
 t9:=Tryz.underlying9
 a9:=Tryz.isAgg9
 z9:=Tryz.sizeOf9
 v9:=Tryz.zeroValue9
 t46:=Tryz.underlying220
 a46:=Tryz.isAgg220
 z46:=Tryz.sizeOf220
 v46:=Tryz.zeroValue220
 t53:=Tryz.underlying25
 a53:=Tryz.isAgg25
 z53:=Tryz.sizeOf25
 v53:=Tryz.zeroValue25
 t212:=Tryz.underlying250
 a212:=Tryz.isAgg250
 z212:=Tryz.sizeOf250
 v212:=Tryz.zeroValue250
 g17:=by kernel_rfl
 i0:=by kernel_rfl
 i3:=by kernel_rfl
 i4:=by kernel_rfl
 i5:=by kernel_rfl
 i9:=by kernel_rfl
 i46:=by kernel_rfl
 i53:=by kernel_rfl
 i212:=by kernel_rfl
 m17:=by kernel_rfl }
open Go.Lib in
theorem Tryz.internal_strconv_numDigits (u:Nat) (h1:1≤u) (h2:u<18446744073709551616) (w:World) (htab:Lib.TabIs Tryz.prog w "internal/strconv.uint64pow10" .u64 Lib.pow10Tab) :
  Calls Tryz.prog 236 #[.int .u64 u] w fun e w'=>e=.returned (.int .i64 (Lib.nDigits u))∧w'=w:=Any.internal_strconv_numDigits Tryz.laysM284 u h1 h2 w htab
def Tryz.lays285_ren:Go.Shelf.Ren:=⟨fun | 285=>237 | n=>n,fun | 37=>44 | 53=>25 | 3=>3 | 4=>4 | 51=>246 | 9=>9 | 5=>5 | 0=>0 | n=>n,fun | n=>n⟩
theorem Tryz.lays285:Go.Proofs.Lays.n285 Tryz.prog Tryz.lays285_ren:={
 mixed:=by kernel_rfl
 f285:=Tryz.func237.trans (congrArg some (by kernel_rfl))
 t0:=Tryz.underlying0
 a0:=Tryz.isAgg0
 z0:=Tryz.sizeOf0
 v0:=Tryz.zeroValue0
 t3:=Tryz.underlying3
 a3:=Tryz.isAgg3
 z3:=Tryz.sizeOf3
 v3:=Tryz.zeroValue3
 t4:=Tryz.underlying4
 a4:=Tryz.isAgg4
 z4:=Tryz.sizeOf4
 v4:=Tryz.zeroValue4
 t5:=Tryz.underlying5
 a5:=Tryz.isAgg5
 z5:=Tryz.sizeOf5
 v5:=Tryz.zeroValue5
 t9:=Tryz.underlying9
 a9:=Tryz.isAgg9
 z9:=Tryz.sizeOf9
 v9:=Tryz.zeroValue9
 t37:=Tryz.underlying44
 a37:=Tryz.isAgg44
 z37:=Tryz.sizeOf44
 v37:=Tryz.zeroValue44
 t51:=Tryz.underlying246
 a51:=Tryz.isAgg246
 z51:=Tryz.sizeOf246
 v51:=Tryz.zeroValue246
 t53:=Tryz.underlying25
 a53:=Tryz.isAgg25
 z53:=Tryz.sizeOf25
 v53:=Tryz.zeroValue25 }
open Go.RowKit Go.Sort Go.Lib in
theorem Tryz.internal_strconv_formatBase10 (blk off cap:Nat) (u:Nat) (d:Array UInt8) (w:World) (hH:Holds (fun (b:UInt8)=>Value.int .u8 (b.toNat:Int)) w blk off d) (hu:u<10 ^ d.size) (hu64:u<18446744073709551616) (hsz:d.size<4611686018427387904) :
  Calls Tryz.prog 237 #[.slice (some ⟨blk,off,none⟩) d.size cap,.int .u64 u] w fun e w'=>
   e=.returned (.tuple #[])∧∃ (n v':Nat) (dk:Array UInt8),w'=(putRow (fun (b:UInt8)=>Value.int .u8 (b.toNat:Int)) w blk off dk).drewN n∧FmtInv d.size u 0 v' dk:=Any.internal_strconv_formatBase10 Tryz.lays285 blk off cap u d w hH hu hu64 hsz
open Go.RowKit Go.Sort Go.Lib in
open Go.RowKit Go.Sort Go.Lib in
open Go.RowKit Go.Sort Go.Lib in
open Go.RowKit Go.Sort Go.Lib in
open Go.RowKit Go.Sort Go.Lib in
def Tryz.lays171_ren:Go.Shelf.Ren:=⟨fun | 171=>211 | 243=>224 | 246=>239 | 283=>235 | 284=>236 | 285=>237 | 286=>238 | 129=>196 | 317=>244 | 318=>245 | 319=>246 | 320=>247 | 337=>248 | 338=>249 | n=>n,fun | 3=>3 | 9=>9 | 2=>2 | 4=>4 | 171=>236 | 0=>0 | 53=>25 | 37=>44 | 5=>5 | 173=>238 | 212=>250 | 51=>246 | 20=>20 | 213=>251 | 46=>220 | 232=>254 | 233=>255 | n=>n,fun | 17=>5 | 18=>6 | 19=>7 | n=>n⟩
theorem Tryz.lays171:Go.Proofs.Lays.n171 Tryz.prog Tryz.lays171_ren:={
 mixed:=by kernel_rfl
 f129:=Tryz.func196.trans (congrArg some (by kernel_rfl))
 f171:=Tryz.func211.trans (congrArg some (by kernel_rfl))
 f243:=Tryz.func224.trans (congrArg some (by kernel_rfl))
 f246:=Tryz.func239.trans (congrArg some (by kernel_rfl))
 f283:=Tryz.func235.trans (congrArg some (by kernel_rfl))
 f284:=Tryz.func236.trans (congrArg some (by kernel_rfl))
 f285:=Tryz.func237.trans (congrArg some (by kernel_rfl))
 f286:=Tryz.func238.trans (congrArg some (by kernel_rfl))
 f317:=Tryz.func244.trans (congrArg some (by kernel_rfl))
 f318:=Tryz.func245.trans (congrArg some (by kernel_rfl))
 f319:=Tryz.func246.trans (congrArg some (by kernel_rfl))
 f320:=Tryz.func247.trans (congrArg some (by kernel_rfl))
 f337:=Tryz.func248.trans (congrArg some (by kernel_rfl))
 f338:=Tryz.func249.trans (congrArg some (by kernel_rfl))
 t0:=Tryz.underlying0
 a0:=Tryz.isAgg0
 z0:=Tryz.sizeOf0
 v0:=Tryz.zeroValue0
 t2:=Tryz.underlying2
 a2:=Tryz.isAgg2
 z2:=Tryz.sizeOf2
 v2:=Tryz.zeroValue2
 t3:=Tryz.underlying3
 a3:=Tryz.isAgg3
 z3:=Tryz.sizeOf3
 v3:=Tryz.zeroValue3
 t4:=Tryz.underlying4
 a4:=Tryz.isAgg4
 z4:=Tryz.sizeOf4
 v4:=Tryz.zeroValue4
 t5:=Tryz.underlying5
 a5:=Tryz.isAgg5
 z5:=Tryz.sizeOf5
 v5:=Tryz.zeroValue5
 t9:=Tryz.underlying9
 a9:=Tryz.isAgg9
 z9:=Tryz.sizeOf9
 v9:=Tryz.zeroValue9
 t20:=Tryz.underlying20
 a20:=Tryz.isAgg20
 z20:=Tryz.sizeOf20
 v20:=Tryz.zeroValue20
 t37:=Tryz.underlying44
 a37:=Tryz.isAgg44
 z37:=Tryz.sizeOf44
 v37:=Tryz.zeroValue44
 t46:=Tryz.underlying220
 a46:=Tryz.isAgg220
 z46:=Tryz.sizeOf220
 v46:=Tryz.zeroValue220
 t51:=Tryz.underlying246
 a51:=Tryz.isAgg246
 z51:=Tryz.sizeOf246
 v51:=Tryz.zeroValue246
 t53:=Tryz.underlying25
 a53:=Tryz.isAgg25
 z53:=Tryz.sizeOf25
 v53:=Tryz.zeroValue25
 t171:=Tryz.underlying236
 a171:=Tryz.isAgg236
 z171:=Tryz.sizeOf236
 v171:=Tryz.zeroValue236
 t173:=Tryz.underlying238
 a173:=Tryz.isAgg238
 z173:=Tryz.sizeOf238
 v173:=Tryz.zeroValue238
 t212:=Tryz.underlying250
 a212:=Tryz.isAgg250
 z212:=Tryz.sizeOf250
 v212:=Tryz.zeroValue250
 t213:=Tryz.underlying251
 a213:=Tryz.isAgg251
 z213:=Tryz.sizeOf251
 t232:=Tryz.underlying254
 a232:=Tryz.isAgg254
 z232:=Tryz.sizeOf254
 v232:=Tryz.zeroValue254
 t233:=Tryz.underlying255
 a233:=Tryz.isAgg255
 z233:=Tryz.sizeOf255
 v233:=Tryz.zeroValue255
 g17:=by kernel_rfl
 g18:=by kernel_rfl
 g19:=by kernel_rfl }
open Go.RowKit Go.Sort Go.Lib in
theorem Tryz.strconv_Itoa_small (i:Nat) (hi:i<100) (w:World) :
  Calls Tryz.prog 211 #[.int .i64 i] w fun e w'=>e=.returned (.string ⟨(Lib.decDigits i).toArray⟩)∧w'=w:=Any.strconv_Itoa_small Tryz.lays171 i hi w
open Go.RowKit Go.Lib in
open Go.RowKit Go.Lib in
open Go.RowKit Go.Lib in
open Go.RowKit Go.Lib in
open Go.RowKit Go.Lib in
open Go.RowKit Go.Lib in
open Go.RowKit Go.Lib in
open Go.RowKit Go.Lib in
def Tryz.lays144_ren:Go.Shelf.Ren:=⟨fun | 144=>195 | 143=>215 | 219=>219 | 217=>228 | 225=>229 | 224=>230 | 267=>231 | 266=>242 | 314=>243 | n=>n,fun | 9=>9 | 4=>4 | 3=>3 | 5=>5 | 46=>220 | 146=>247 | 51=>246 | n=>n,fun | 1=>2 | n=>n⟩
theorem Tryz.lays144:Go.Proofs.Lays.n144 Tryz.prog Tryz.lays144_ren:={
 mixed:=by kernel_rfl
 f143:=Tryz.func215.trans (congrArg some (by kernel_rfl))
 f144:=Tryz.func195.trans (congrArg some (by kernel_rfl))
 f217:=Tryz.func228.trans (congrArg some (by kernel_rfl))
 f219:=Tryz.func219.trans (congrArg some (by kernel_rfl))
 f224:=Tryz.func230.trans (congrArg some (by kernel_rfl))
 f225:=Tryz.func229.trans (congrArg some (by kernel_rfl))
 f266:=Tryz.func242.trans (congrArg some (by kernel_rfl))
 f267:=Tryz.func231.trans (congrArg some (by kernel_rfl))
 f314:=Tryz.func243.trans (congrArg some (by kernel_rfl))
 t3:=Tryz.underlying3
 a3:=Tryz.isAgg3
 z3:=Tryz.sizeOf3
 v3:=Tryz.zeroValue3
 t4:=Tryz.underlying4
 a4:=Tryz.isAgg4
 z4:=Tryz.sizeOf4
 v4:=Tryz.zeroValue4
 t5:=Tryz.underlying5
 a5:=Tryz.isAgg5
 z5:=Tryz.sizeOf5
 v5:=Tryz.zeroValue5
 t9:=Tryz.underlying9
 a9:=Tryz.isAgg9
 z9:=Tryz.sizeOf9
 v9:=Tryz.zeroValue9
 t46:=Tryz.underlying220
 a46:=Tryz.isAgg220
 z46:=Tryz.sizeOf220
 v46:=Tryz.zeroValue220
 t51:=Tryz.underlying246
 a51:=Tryz.isAgg246
 z51:=Tryz.sizeOf246
 v51:=Tryz.zeroValue246
 t146:=Tryz.underlying247
 a146:=Tryz.isAgg247
 z146:=Tryz.sizeOf247
 v146:=Tryz.zeroValue247
 g1:=by kernel_rfl }
open Go.RowKit Go.Lib in
theorem Tryz.strings_Contains_one (s:ByteArray) (c:UInt8) (w:World) :
  Calls Tryz.prog 195 #[.string s,.string ⟨#[c]⟩] w fun e w'=>e=.returned (.bool (decide (0≤Lib.indexByte s.data.toList c)))∧w'=w:=Any.strings_Contains_one Tryz.lays144 s c w
open Go.RowKit Go.Lib in
theorem Tryz.strings_Contains (s sub:ByteArray) (m:Int) (w:World) (hs:s.size<4294967281) (hm:w.cell? ⟨2,0,none⟩=some (.int .i64 m)) :
  Calls Tryz.prog 195 #[.string s,.string sub] w fun e w'=>e=.returned (.bool (Lib.contains s.data.toList sub.data.toList))∧w'=w:=Any.strings_Contains Tryz.lays144 s sub m w hs hm
open Go.RowKit Go.Lib in
open Go.RowKit Go.Lib in
open Go.RowKit Go.Lib in
open Go.RowKit Go.Lib in
open Go.RowKit Go.Lib in
open Go.RowKit Go.Lib in
open Go.RowKit Go.Lib in
open Go.RowKit Go.Lib in
open Go.RowKit Go.Lib in
open Go.RowKit Go.Lib in
open Go.RowKit Go.Lib in
open Go.RowKit Go.Lib in
open Go.RowKit Go.Lib in
open Go.RowKit Go.Lib in
open Go.RowKit Go.Lib in
open Go.RowKit Go.Lib in
open Go.RowKit Go.Lib in
open Go.Lib in
open Go.Lib in
open Go.Lib in
open Go.Lib in
def Tryz.lays7n27_ren:Go.Shelf.Ren:=⟨fun | 27=>247 | 28=>248 | 29=>249 | n=>n,fun | 25=>220 | 3=>3 | 27=>246 | 22=>25 | 4=>4 | 53=>254 | 0=>0 | 5=>5 | 54=>255 | n=>n,fun | 0=>6 | 1=>7 | n=>n⟩
theorem Tryz.lays7n27:Go.Proofs.Lays7.n27 Tryz.prog Tryz.lays7n27_ren:={
 mixed:=by kernel_rfl
 f27:=Tryz.func247.trans (congrArg some (by kernel_rfl))
 f28:=Tryz.func248.trans (congrArg some (by kernel_rfl))
 f29:=Tryz.func249.trans (congrArg some (by kernel_rfl))
 t0:=Tryz.underlying0
 a0:=Tryz.isAgg0
 z0:=Tryz.sizeOf0
 v0:=Tryz.zeroValue0
 i0:=by kernel_rfl
 t3:=Tryz.underlying3
 a3:=Tryz.isAgg3
 z3:=Tryz.sizeOf3
 v3:=Tryz.zeroValue3
 i3:=by kernel_rfl
 t4:=Tryz.underlying4
 a4:=Tryz.isAgg4
 z4:=Tryz.sizeOf4
 v4:=Tryz.zeroValue4
 i4:=by kernel_rfl
 t5:=Tryz.underlying5
 a5:=Tryz.isAgg5
 z5:=Tryz.sizeOf5
 v5:=Tryz.zeroValue5
 i5:=by kernel_rfl
 t22:=Tryz.underlying25
 a22:=Tryz.isAgg25
 z22:=Tryz.sizeOf25
 v22:=Tryz.zeroValue25
 i22:=by kernel_rfl
 t25:=Tryz.underlying220
 a25:=Tryz.isAgg220
 z25:=Tryz.sizeOf220
 v25:=Tryz.zeroValue220
 i25:=by kernel_rfl
 t27:=Tryz.underlying246
 a27:=Tryz.isAgg246
 z27:=Tryz.sizeOf246
 v27:=Tryz.zeroValue246
 i27:=by kernel_rfl
 t53:=Tryz.underlying254
 a53:=Tryz.isAgg254
 z53:=Tryz.sizeOf254
 v53:=Tryz.zeroValue254
 i53:=by kernel_rfl
 t54:=Tryz.underlying255
 a54:=Tryz.isAgg255
 z54:=Tryz.sizeOf255
 g0:=by kernel_rfl
 g1:=by kernel_rfl }
end Go.Proofs
namespace Go.Proofs.YtlcfpdmicpggbaaGreatDoor
open Go.Lib (hid)
open Go.RowKit Go.Proofs.Scn
theorem ret_str {a b:ByteArray} (h:a=b):Ending.returned (.string a)=.returned (.string b):=by rw [h]
theorem part_cases {c:UInt8} (h:isPart c=true):isLetter c=true∨isLetter c=false∧isDigit c=true:=by
 unfold isPart at h
 cases hl:isLetter c
 ·right;rw [hl] at h;exact ⟨rfl,by simpa using h⟩
 ·left;rfl
theorem part_not {c:UInt8} (h:isPart c=false):isLetter c=false∧isDigit c=false:=by
 unfold isPart at h
 rw [Bool.or_eq_false_iff] at h
 exact h
theorem head_facts (p:UInt8→Bool) (s:ByteArray):∃ N,N=headN p s.data.toList∧N≤s.size∧(∀ k (h:k<s.size),k<N→p s[k]=true)∧(∀ h:N<s.size,p s[N]=false):=
 ⟨_,rfl,headN_le p _,fun k h hk=>headN_lt hk h,fun h=>headN_at h⟩
theorem run_any (s:ByteArray) (hs:s.size≤4611686018427387904) (W:World) :
  Calls Tryz.prog 193 #[.string s] W fun e W'=>e=.returned (.string (bs (runL s.data.toList)))∧W=W':=by
 obtain ⟨N,hN,hle,h1,h2⟩:=head_facts isPart s
 have hfin:s.extract 0 N=bs (runL s.data.toList):=by
  rw [extract_bs,hN,List.drop_zero,take_headN];rfl
 have HF:=hid hfin
 have H1:=hid h1
 have H2:=hid h2
 clear hfin h1 h2 hN
 go_enter Tryz.func193,Tryz.ntmps193
 go_wp2
 go_loop [3] (fun i=>∃ k:Nat,k≤N∧i=.int .i64 k) (fun i=>s.size - (intOf i).toNat)
 case atStart=>exact ⟨0,Nat.zero_le _,rfl⟩
 case round=>
  obtain ⟨k,hk,rfl⟩:=hrel
  by_cases hlt:k<N
  ·have hks:k<s.size:=by omega
   have kl:=letter_any s[k]
   have kd:=digit_any s[k]
   rcases part_cases (H1.out k hks hlt) with hl | ⟨hl,hd⟩
   ·rw [hl] at kl
    have KL:=hid kl
    clear kl kd hl
    go_wp2_with (go_at_call 203;refine (KL.out _).mono ?_;rintro e w' ⟨rfl,rfl⟩)
    go_round
    case rel=>exact ⟨k+1,by omega,by go_num⟩
    case measure=>simp [intOf];omega
   ·rw [hl] at kl
    rw [hd] at kd
    have KL:=hid kl
    have KD:=hid kd
    clear kl kd hl hd
    go_wp2_with (first | (go_at_call 203;refine (KL.out _).mono ?_;rintro e w' ⟨rfl,rfl⟩) | (go_at_call 192;refine (KD.out _).mono ?_;rintro e w' ⟨rfl,rfl⟩))
    go_round
    case rel=>exact ⟨k+1,by omega,by go_num⟩
    case measure=>simp [intOf];omega
  ·obtain rfl:k=N:=by omega
   by_cases hks:k<s.size
   ·have kl:=letter_any s[k]
    have kd:=digit_any s[k]
    obtain ⟨hl,hd⟩:=part_not (H2.out hks)
    rw [hl] at kl
    rw [hd] at kd
    have KL:=hid kl
    have KD:=hid kd
    clear kl kd hl hd
    go_wp2_with (first | (go_at_call 203;refine (KL.out _).mono ?_;rintro e w' ⟨rfl,rfl⟩) | (go_at_call 192;refine (KD.out _).mono ?_;rintro e w' ⟨rfl,rfl⟩))
    go_ret
    exact ⟨ret_str HF.out,rfl⟩
   ·obtain rfl:k=s.size:=by omega
    go_wp2
    go_ret
    exact ⟨ret_str (HF.out ▸ by simp),rfl⟩
end Go.Proofs.YtlcfpdmicpggbaaGreatDoor
namespace Go.Proofs.YtlcfpdmicpggbaaGreatDoor
open Go.Lib (hid)
open Go.RowKit Go.Proofs.Scn
theorem empty_of {s:ByteArray} (h:s.data.toList=[]):s=⟨#[]⟩:=by
 rw [← bs_list s,h];rfl
theorem toList_eq (s:ByteArray):s.toList=s.data.toList:=Lib.toList_data s
theorem among_any (list s:ByteArray) (hl:list.size<4294967281) (hs:s.size≤4611686018427387904) (W:World) (m:Int) (hm:W.cell? ⟨2,0,none⟩=some (.int .i64 m)) :
  Calls Tryz.prog 194 #[.string list,.string s] W fun e W'=>e=.returned (.bool (amongS list.data.toList s.data.toList))∧W=W':=by
 by_cases he:s.data.toList=[]
 ·obtain rfl:=empty_of he
  go_enter Tryz.func194,Tryz.ntmps194
  go_wp2
  go_ret
  exact ⟨rfl,rfl⟩
 ·have hb:s.toList.isEmpty=false:=by rw [toList_eq];simpa using he
  have k1:∀ W,Calls Tryz.prog 195 #[.string s,.string ⟨#[32]⟩] W fun e W'=>e=.returned (.bool (s.data.toList.contains 32))∧W=W':=fun W=>
   (Tryz.strings_Contains_one s 32 W).mono fun e W' h=>⟨by rw [h.1,Lib.contains_iff_indexByte],h.2.symm⟩
  have k2:=Tryz.strings_Contains list (⟨#[32]⟩ ++ s ++ ⟨#[32]⟩) m W hl hm
  rw [show (⟨#[32]⟩ ++ s ++ ⟨#[32]⟩:ByteArray).data.toList=32 :: s.data.toList ++ [32] by simp] at k2
  have eS:amongS list.data.toList s.data.toList=(!s.data.toList.contains 32 && Lib.contains list.data.toList (32 :: s.data.toList ++ [32])):=by
   unfold amongS
   have:s.data.toList.isEmpty=false:=by simpa using he
   rw [this]
   simp
  rw [eS]
  clear he eS
  generalize hc:s.data.toList.contains 32=c at *
  have K1:=hid k1
  have K2:=hid k2
  clear k1 k2
  cases c
  ·go_enter Tryz.func194,Tryz.ntmps194
   go_wp2_with fail
   refine (K1.out _).mono ?_
   rintro e w' ⟨rfl,rfl⟩
   go_wp2_with fail
   refine K2.out.mono ?_
   rintro e w' ⟨rfl,rfl⟩
   go_wp2
   go_ret
   exact ⟨rfl,rfl⟩
  ·go_enter Tryz.func194,Tryz.ntmps194
   go_wp2_with fail
   refine (K1.out _).mono ?_
   rintro e w' ⟨rfl,rfl⟩
   go_wp2
   go_ret
   exact ⟨rfl,rfl⟩
theorem word_any (s:ByteArray) (hs:s.size≤4611686018427387904) (W:World) (m:Int) (hm:W.cell? ⟨2,0,none⟩=some (.int .i64 m)) :
  Calls Tryz.prog 135 #[.string s] W fun e W'=>e=.returned (.bool (isWord s.data.toList))∧W=W':=by
 go_enter Tryz.func135,Tryz.ntmps135
 go_wp2_with fail
 refine (among_any _ s (by decide +kernel) hs _ m hm).mono ?_
 rintro e w' ⟨rfl,rfl⟩
 go_wp2
 go_ret
 exact ⟨ret_bool ((congrArg (fun l=>amongS l s.data.toList) (by decide +kernel)).trans (among_words _)),rfl⟩
theorem sign_any (s:ByteArray) (hs:s.size≤4611686018427387904) (W:World) (m:Int) (hm:W.cell? ⟨2,0,none⟩=some (.int .i64 m)) :
  Calls Tryz.prog 136 #[.string s] W fun e W'=>e=.returned (.bool (isSign s.data.toList))∧W=W':=by
 have kp:∀ list:ByteArray,list.data.toList=32 :: pairsT→list.size<4294967281→Calls Tryz.prog 194 #[.string list,.string s] W fun e W'=>e=.returned (.bool (pairsL.contains s.data.toList))∧W=W':=fun list h1 h2=>
  (among_any list s h2 hs W m hm).mono fun e W' h=>⟨by rw [h.1,h1,among_pairs],h.2⟩
 by_cases h1:s.size=1
 ·obtain ⟨c,hc⟩:∃ c,s.data.toList=[c]:=by
   have:s.data.toList.length=1:=h1
   exact List.length_eq_one_iff.1 this
  obtain rfl:s=⟨#[c]⟩:=by rw [← bs_list s,hc];rfl
  have hsg:isSign [c]=(pairsL.contains [c] || loneL.contains c):=by simp [isSign]
  have kc:∀ list:ByteArray,list.data.toList=loneL→Calls Tryz.prog 195 #[.string list,.string ⟨#[c]⟩] W fun e W'=>e=.returned (.bool (loneL.contains c))∧W=W':=fun list h1=>
   (Tryz.strings_Contains_one list c W).mono fun e W' h=>⟨by rw [h.1,← Lib.contains_iff_indexByte,h1],h.2.symm⟩
  show Calls Tryz.prog 136 _ W fun e W'=>e=.returned (.bool (isSign [c]))∧W=W'
  rw [hsg]
  clear h1 hc hs hsg
  change ∀ list:ByteArray,list.data.toList=32 :: pairsT→list.size<4294967281→Calls Tryz.prog 194 #[.string list,.string ⟨#[c]⟩] W fun e W'=>e=.returned (.bool (pairsL.contains [c]))∧W=W' at kp
  generalize pairsL.contains [c]=b1 at *
  generalize loneL.contains c=b2 at *
  have KP:=hid kp
  have KC:=hid kc
  clear kp kc
  cases b1
  ·go_enter Tryz.func136,Tryz.ntmps136
   go_wp2_with fail
   refine (KP.out _ (by decide +kernel) (by decide +kernel)).mono ?_
   rintro e w' ⟨rfl,rfl⟩
   go_wp2_with fail
   refine (KC.out _ (by decide +kernel)).mono ?_
   rintro e w' ⟨rfl,rfl⟩
   go_wp2
   go_ret
   exact ⟨rfl,rfl⟩
  ·go_enter Tryz.func136,Tryz.ntmps136
   go_wp2_with fail
   refine (KP.out _ (by decide +kernel) (by decide +kernel)).mono ?_
   rintro e w' ⟨rfl,rfl⟩
   go_wp2
   go_ret
   exact ⟨rfl,rfl⟩
 ·have hsg:isSign s.data.toList=pairsL.contains s.data.toList:=by
   have:(s.data.toList.length == 1)=false:=by simpa using h1
   unfold isSign
   rw [this]
   simp
  have hd:((s.size:Int) == 1)=false:=by rw [beq_eq_false_iff_ne];omega
  rw [hsg]
  clear hsg h1
  generalize pairsL.contains s.data.toList=b1 at *
  have KP:=hid kp
  clear kp
  cases b1
  ·go_enter Tryz.func136,Tryz.ntmps136
   go_wp2_with fail
   refine (KP.out _ (by decide +kernel) (by decide +kernel)).mono ?_
   rintro e w' ⟨rfl,rfl⟩
   go_wp2
   go_ret
   exact ⟨rfl,rfl⟩
  ·go_enter Tryz.func136,Tryz.ntmps136
   go_wp2_with fail
   refine (KP.out _ (by decide +kernel) (by decide +kernel)).mono ?_
   rintro e w' ⟨rfl,rfl⟩
   go_wp2
   go_ret
   exact ⟨rfl,rfl⟩
theorem all_run {l:List UInt8}:runL l=l ↔ l.all isPart=true:=by
 constructor
 ·intro h;rw [← h];exact all_takeWhile l
 ·intro h;have:=(takeWhile_ends (r:=[]) h (.inl rfl)).1;rwa [List.append_nil] at this
theorem name_cases (l:List UInt8) (c:UInt8) (r:List UInt8) (h:l=c :: r) :
  (64<l.length→isName l=false)∧(isDigit c=true→isName l=false)∧(isLetter c=false→isName l=false)∧(runL l ≠ l→isName l=false) ∧
  (l.length≤64→isDigit c=false→runL l=l→isName l = !isWord l)∧(l.length≤64→isLetter c=true→runL l=l→isName l = !isWord l):=by
 subst h
 refine ⟨fun h=>?_,fun h=>?_,fun h=>?_,fun h=>?_,fun h1 h2 h3=>?_,fun h1 h2 h3=>?_⟩
 ·simp [isName];intro h';simp at h;omega
 ·have:=(digit_not h).1
  simp [isName,this]
 ·simp [isName,h]
 ·have:(c :: r).all isPart=false:=by
   cases hh:(c :: r).all isPart
   ·rfl
   ·exact absurd (all_run.2 hh) h
  unfold isName
  rw [this]
  simp
 ·have ha:=all_run.1 h3
  have hl:isLetter c=true:=by
   simp only [List.all_cons,Bool.and_eq_true] at ha
   have:=ha.1
   unfold isPart at this
   rw [h2] at this
   simpa using this
  unfold isName
  rw [ha]
  simp only [List.isEmpty_cons,List.headD_cons,hl,decide_eq_true h1]
  simp
 ·have ha:=all_run.1 h3
  unfold isName
  rw [ha]
  simp only [List.isEmpty_cons,List.headD_cons,h2,decide_eq_true h1]
  simp
theorem head_get (s:ByteArray) (c:UInt8) (r:List UInt8) (h:s.data.toList=c :: r):∃ h0:0<s.size,s[0]=c:=by
 have h0:0<s.size:=by rw [size_list,h];simp
 refine ⟨h0,?_⟩
 have:s[0]=s.data.toList[0]'h0:=rfl
 rw [this]
 simp [h]
theorem name_any (s:ByteArray) (hs:s.size≤4611686018427387904) (W:World) (m:Int) (hm:W.cell? ⟨2,0,none⟩=some (.int .i64 m)) :
  Calls Tryz.prog 134 #[.string s] W fun e W'=>e=.returned (.bool (isName s.data.toList))∧W=W':=by
 by_cases he:s.data.toList=[]
 ·obtain rfl:=empty_of he
  go_enter Tryz.func134,Tryz.ntmps134
  go_wp2
  go_ret
  exact ⟨rfl,rfl⟩
 ·obtain ⟨c,r,hcr⟩:∃ c r,s.data.toList=c :: r:=List.exists_cons_of_ne_nil he
  obtain ⟨h0,hg⟩:=head_get s c r hcr
  have hb:s.toList.isEmpty=false:=by rw [toList_eq,hcr];rfl
  have hb2:¬ s.toList=[]:=by rw [toList_eq];exact he
  obtain ⟨n1,n2,_,n4,n5,_⟩:=name_cases _ c r hcr
  have hsz:s.data.toList.length=s.size:=rfl
  have kr:=run_any s hs W
  have kw:=word_any s hs W m hm
  have kd:=digit_any s[0]
  rw [hg] at kd
  by_cases h64:64<s.size
  ·rw [n1 (by omega)]
   have hd:decide ((s.size:Int)≤64)=false:=by simp only [decide_eq_false_iff_not];omega
   clear n1 n2 n4 n5 kr kw kd hsz h64 hcr he
   go_enter Tryz.func134,Tryz.ntmps134
   go_wp2
   go_ret
   exact ⟨rfl,rfl⟩
  ·have hd:(s.size:Int)≤64:=by omega
   cases hdg:isDigit c
   ·have kd':=kd
    rw [hdg] at kd'
    by_cases hrun:runL s.data.toList=s.data.toList
    ·rw [n5 (by omega) hdg hrun]
     have heq:((bs (runL s.data.toList)).toList == s.toList)=true:=by rw [toList_eq,toList_eq,list_bs,hrun];simp
     rw [← hg] at kd'
     have KD:=hid kd'
     have KR:=hid kr
     generalize isWord s.data.toList=wd at *
     have KW:=hid kw
     clear n1 n2 n4 n5 kr kw kd kd' hsz h64 hcr he hdg hrun hg
     go_enter Tryz.func134,Tryz.ntmps134
     go_wp2_with fail
     refine (KD.out _).mono ?_
     rintro e w' ⟨rfl,rfl⟩
     go_wp2_with fail
     refine KR.out.mono ?_
     rintro e w' ⟨rfl,rfl⟩
     go_wp2_with fail
     refine KW.out.mono ?_
     rintro e w' ⟨rfl,rfl⟩
     go_wp2
     go_ret
     exact ⟨rfl,rfl⟩
    ·rw [n4 hrun]
     have heq:((bs (runL s.data.toList)).toList == s.toList)=false:=by rw [toList_eq,toList_eq,list_bs];simpa using hrun
     rw [← hg] at kd'
     have KD:=hid kd'
     have KR:=hid kr
     clear n1 n2 n4 n5 kr kw kd kd' hsz h64 hcr he hdg hrun hg
     go_enter Tryz.func134,Tryz.ntmps134
     go_wp2_with fail
     refine (KD.out _).mono ?_
     rintro e w' ⟨rfl,rfl⟩
     go_wp2_with fail
     refine KR.out.mono ?_
     rintro e w' ⟨rfl,rfl⟩
     go_wp2
     go_ret
     exact ⟨rfl,rfl⟩
   ·rw [n2 hdg]
    rw [hdg,← hg] at kd
    have KD:=hid kd
    clear n1 n2 n4 n5 kr kw kd hsz h64 hcr he hdg hg
    go_enter Tryz.func134,Tryz.ntmps134
    go_wp2_with fail
    refine (KD.out _).mono ?_
    rintro e w' ⟨rfl,rfl⟩
    go_wp2
    go_ret
    exact ⟨rfl,rfl⟩
end Go.Proofs.YtlcfpdmicpggbaaGreatDoor
