/- Texts of the seat, merged. -/
import Derived.Deep.AppendLies
import Derived.Laws.BytesArg
import Derived.Lib.AppendIntMem
import Derived.Lib.ConvBytes
import Derived.Lib.QuietBelow
import Derived.Lib.SmallJoins
import Derived.Orders
import Derived.OwnWalk
import Derived.ScopeJumps
import Derived.Shelf.Bytes.SlSmallAll
import Derived.StillTail
import Derived.Test.YtlcfpdmicpggbaaGreatDoorD1
set_option linter.unusedVariables false
set_option linter.unusedSimpArgs false
set_option maxRecDepth 100000
set_option maxHeartbeats 16000000
namespace Go.Proofs.YtlcfpdmicpggbaaGreatDoor
open Go.Lib (hid)
open Go.RowKit Go.Proofs.Scn
structure Base (w:World):Prop where
 max:∃ m,w.cell? ⟨2,0,none⟩=some (.int .i64 m)
 pow:Lib.TabIs Tryz.prog w "internal/strconv.uint64pow10" .u64 Lib.pow10Tab
 tz:TabAt 7 Lib.deBruijn64tab w
theorem Base.later {w w':World} (h:Base w) (hb:Below w.heap.size w w'):Base w':=by
 obtain ⟨⟨m,h1⟩,h2,h3⟩:=h
 exact ⟨⟨m,(hb.cell (World.block_lt_of_cell? w _ h1)).trans h1⟩,Joins.tab_stays (g:=5) (by kernel_rfl) h2 hb (Nat.le_refl _),fun j hj=>(hb.cell (World.block_lt_of_cell? w _ (h3 j hj))).trans (h3 j hj)⟩
theorem Base.alloc {w:World} (h:Base w) (o:Obj):Base (w.alloc o):=h.later ((Below.refl _ _).alloc (Nat.le_refl _) _)
theorem fitsV_nat (k v:Nat):fitsV (k:Int) v=(decide (1≤k) && decide (k≤64) && decide (v<2 ^ k)):=by
 unfold fitsV
 rw [Int.toNat_natCast]
 congr 1
 congr 1
 ·rw [decide_eq_decide];omega
 ·rw [decide_eq_decide];omega
theorem fits_any (w:Int) (v:Nat) (hv:v<18446744073709551616) (W:World) :
  Calls Tryz.prog 137 #[.int .i64 w,.int .u64 v] W fun e W'=>e=.returned (.bool (fitsV w v))∧W=W':=by
 by_cases h1:1≤w
 ·by_cases h2:w≤64
  ·obtain ⟨k,rfl⟩:∃ k:Nat,w=k:=⟨w.toNat,by omega⟩
   have kl:=Tryz.bits_Len64 (v:Int) W (by omega) (by omega)
   rw [Int.toNat_natCast] at kl
   have hf:fitsV (k:Int) v=decide (Lib.bitLen v≤k):=by
    rw [fitsV_nat,decide_eq_true (show 1≤k by omega),decide_eq_true (show k≤64 by omega),← bitLen_le v k hv]
    simp
   rw [hf]
   clear hf
   have KL:=hid kl
   clear kl
   go_enter Tryz.func137,Tryz.ntmps137
   go_wp2_with fail
   refine KL.out.mono ?_
   rintro e w' ⟨rfl,rfl⟩
   go_wp2
   go_ret
   exact ⟨rfl,rfl⟩
  ·have hf:fitsV w v=false:=by simp [fitsV,h2]
   rw [hf]
   go_enter Tryz.func137,Tryz.ntmps137
   go_wp2
   go_ret
   exact ⟨rfl,rfl⟩
 ·have hf:fitsV w v=false:=by simp [fitsV,h1]
  rw [hf]
  go_enter Tryz.func137,Tryz.ntmps137
  go_wp2
  go_ret
  exact ⟨rfl,rfl⟩
def errB (b:Bool):Int:=if b then 0 else 1
theorem check_calls (w:Int) (s:ByteArray) (v:Nat) (hs:s.size≤4611686018427387904) (hv:v<18446744073709551616) (W:World) (hB:Base W) :
  (∀ o,Calls Tryz.prog 134 #[.string s] (W.alloc o) fun e W'=>e=.returned (.bool (isName s.data.toList))∧W.alloc o=W') ∧
  (∀ o,Calls Tryz.prog 135 #[.string s] (W.alloc o) fun e W'=>e=.returned (.bool (isWord s.data.toList))∧W.alloc o=W') ∧
  (∀ o,Calls Tryz.prog 136 #[.string s] (W.alloc o) fun e W'=>e=.returned (.bool (isSign s.data.toList))∧W.alloc o=W') ∧
  (∀ o,Calls Tryz.prog 137 #[.int .i64 w,.int .u64 v] (W.alloc o) fun e W'=>e=.returned (.bool (fitsV w v))∧W.alloc o=W'):=
 ⟨fun o=>(hB.alloc o).max.elim fun m hm=>name_any s hs _ m hm,fun o=>(hB.alloc o).max.elim fun m hm=>word_any s hs _ m hm,fun o=>(hB.alloc o).max.elim fun m hm=>sign_any s hs _ m hm,fun o=>fits_any w v hv _⟩
theorem check_np (p:Int) (s:ByteArray) (b:Bool) (W:World) (hbel:∀ o,Below W.heap.size W (W.alloc o)) (kc:∀ o,Calls Tryz.prog 134 #[.string s] (W.alloc o) fun e W'=>e=.returned (.bool b)∧W.alloc o=W') :
  Calls Tryz.prog 69 #[.agg #[.int .i64 1,.string s,.int .i64 0,.int .u64 0,.int .i64 p]] W fun e W'=>e=.returned (.int .i64 (errB (b && decide (0≤p))))∧Below W.heap.size W W':=by
 have HB:=hid hbel
 clear hbel
 have KC:=hid kc
 clear kc
 by_cases hp:0≤p
 all_goals
  cases b
  all_goals
   go_enter Tryz.func69,Tryz.ntmps69
   go_wp2_with fail
   refine (KC.out _).mono ?_
   rintro e w' ⟨rfl,rfl⟩
   go_wp2
   go_ret
   exact ⟨ret_int (by simp [errB];try omega),HB.out _⟩
theorem check_nw (w p:Int) (s:ByteArray) (v:Nat) (hw:w ≠ 0) (W:World) (hbel:∀ o,Below W.heap.size W (W.alloc o)) :
  Calls Tryz.prog 69 #[.agg #[.int .i64 1,.string s,.int .i64 w,.int .u64 v,.int .i64 p]] W fun e W'=>e=.returned (.int .i64 (errB (false && decide (0≤p))))∧Below W.heap.size W W':=by
 have hw':(w == 0)=false:=by rw [beq_eq_false_iff_ne];exact hw
 clear hw
 have HB:=hid hbel
 clear hbel
 by_cases hp:0≤p
 all_goals
  go_enter Tryz.func69,Tryz.ntmps69
  go_wp2
  go_ret
  exact ⟨ret_int (by simp [errB];try omega),HB.out _⟩
theorem check_nv (p:Int) (s:ByteArray) (v:Nat) (hv:v ≠ 0) (W:World) (hbel:∀ o,Below W.heap.size W (W.alloc o)) :
  Calls Tryz.prog 69 #[.agg #[.int .i64 1,.string s,.int .i64 0,.int .u64 v,.int .i64 p]] W fun e W'=>e=.returned (.int .i64 (errB (false && decide (0≤p))))∧Below W.heap.size W W':=by
 have hv':((v:Int) == 0)=false:=by rw [beq_eq_false_iff_ne];omega
 clear hv
 have HB:=hid hbel
 clear hbel
 by_cases hp:0≤p
 all_goals
  go_enter Tryz.func69,Tryz.ntmps69
  go_wp2
  go_ret
  exact ⟨ret_int (by simp [errB];try omega),HB.out _⟩
theorem check_wp (p:Int) (s:ByteArray) (b:Bool) (W:World) (hbel:∀ o,Below W.heap.size W (W.alloc o)) (kc:∀ o,Calls Tryz.prog 135 #[.string s] (W.alloc o) fun e W'=>e=.returned (.bool b)∧W.alloc o=W') :
  Calls Tryz.prog 69 #[.agg #[.int .i64 2,.string s,.int .i64 0,.int .u64 0,.int .i64 p]] W fun e W'=>e=.returned (.int .i64 (errB (b && decide (0≤p))))∧Below W.heap.size W W':=by
 have HB:=hid hbel
 clear hbel
 have KC:=hid kc
 clear kc
 by_cases hp:0≤p
 all_goals
  cases b
  all_goals
   go_enter Tryz.func69,Tryz.ntmps69
   go_wp2_with fail
   refine (KC.out _).mono ?_
   rintro e w' ⟨rfl,rfl⟩
   go_wp2
   go_ret
   exact ⟨ret_int (by simp [errB];try omega),HB.out _⟩
theorem check_ww (w p:Int) (s:ByteArray) (v:Nat) (hw:w ≠ 0) (W:World) (hbel:∀ o,Below W.heap.size W (W.alloc o)) :
  Calls Tryz.prog 69 #[.agg #[.int .i64 2,.string s,.int .i64 w,.int .u64 v,.int .i64 p]] W fun e W'=>e=.returned (.int .i64 (errB (false && decide (0≤p))))∧Below W.heap.size W W':=by
 have hw':(w == 0)=false:=by rw [beq_eq_false_iff_ne];exact hw
 clear hw
 have HB:=hid hbel
 clear hbel
 by_cases hp:0≤p
 all_goals
  go_enter Tryz.func69,Tryz.ntmps69
  go_wp2
  go_ret
  exact ⟨ret_int (by simp [errB];try omega),HB.out _⟩
theorem check_wv (p:Int) (s:ByteArray) (v:Nat) (hv:v ≠ 0) (W:World) (hbel:∀ o,Below W.heap.size W (W.alloc o)) :
  Calls Tryz.prog 69 #[.agg #[.int .i64 2,.string s,.int .i64 0,.int .u64 v,.int .i64 p]] W fun e W'=>e=.returned (.int .i64 (errB (false && decide (0≤p))))∧Below W.heap.size W W':=by
 have hv':((v:Int) == 0)=false:=by rw [beq_eq_false_iff_ne];omega
 clear hv
 have HB:=hid hbel
 clear hbel
 by_cases hp:0≤p
 all_goals
  go_enter Tryz.func69,Tryz.ntmps69
  go_wp2
  go_ret
  exact ⟨ret_int (by simp [errB];try omega),HB.out _⟩
theorem check_sp (p:Int) (s:ByteArray) (b:Bool) (W:World) (hbel:∀ o,Below W.heap.size W (W.alloc o)) (kc:∀ o,Calls Tryz.prog 136 #[.string s] (W.alloc o) fun e W'=>e=.returned (.bool b)∧W.alloc o=W') :
  Calls Tryz.prog 69 #[.agg #[.int .i64 4,.string s,.int .i64 0,.int .u64 0,.int .i64 p]] W fun e W'=>e=.returned (.int .i64 (errB (b && decide (0≤p))))∧Below W.heap.size W W':=by
 have HB:=hid hbel
 clear hbel
 have KC:=hid kc
 clear kc
 by_cases hp:0≤p
 all_goals
  cases b
  all_goals
   go_enter Tryz.func69,Tryz.ntmps69
   go_wp2_with fail
   refine (KC.out _).mono ?_
   rintro e w' ⟨rfl,rfl⟩
   go_wp2
   go_ret
   exact ⟨ret_int (by simp [errB];try omega),HB.out _⟩
theorem check_sw (w p:Int) (s:ByteArray) (v:Nat) (hw:w ≠ 0) (W:World) (hbel:∀ o,Below W.heap.size W (W.alloc o)) :
  Calls Tryz.prog 69 #[.agg #[.int .i64 4,.string s,.int .i64 w,.int .u64 v,.int .i64 p]] W fun e W'=>e=.returned (.int .i64 (errB (false && decide (0≤p))))∧Below W.heap.size W W':=by
 have hw':(w == 0)=false:=by rw [beq_eq_false_iff_ne];exact hw
 clear hw
 have HB:=hid hbel
 clear hbel
 by_cases hp:0≤p
 all_goals
  go_enter Tryz.func69,Tryz.ntmps69
  go_wp2
  go_ret
  exact ⟨ret_int (by simp [errB];try omega),HB.out _⟩
theorem check_sv (p:Int) (s:ByteArray) (v:Nat) (hv:v ≠ 0) (W:World) (hbel:∀ o,Below W.heap.size W (W.alloc o)) :
  Calls Tryz.prog 69 #[.agg #[.int .i64 4,.string s,.int .i64 0,.int .u64 v,.int .i64 p]] W fun e W'=>e=.returned (.int .i64 (errB (false && decide (0≤p))))∧Below W.heap.size W W':=by
 have hv':((v:Int) == 0)=false:=by rw [beq_eq_false_iff_ne];omega
 clear hv
 have HB:=hid hbel
 clear hbel
 by_cases hp:0≤p
 all_goals
  go_enter Tryz.func69,Tryz.ntmps69
  go_wp2
  go_ret
  exact ⟨ret_int (by simp [errB];try omega),HB.out _⟩
theorem check_fsw (p:Int) (s:ByteArray) (hs:s.data.toList ≠ []) (w:Int) (v:Nat) (hw:w ≠ 0) (W:World) (hbel:∀ o,Below W.heap.size W (W.alloc o)) :
  Calls Tryz.prog 69 #[.agg #[.int .i64 3,.string s,.int .i64 w,.int .u64 v,.int .i64 p]] W fun e W'=>e=.returned (.int .i64 (errB (false && decide (0≤p))))∧Below W.heap.size W W':=by
 have hs1:s.toList.isEmpty=false:=by rw [toList_eq];simpa using hs
 have hs2:¬ s.toList=[]:=by rw [toList_eq];exact hs
 clear hs
 have hw':(w == 0)=false:=by rw [beq_eq_false_iff_ne];exact hw
 clear hw
 have HB:=hid hbel
 clear hbel
 by_cases hp:0≤p
 all_goals
  go_enter Tryz.func69,Tryz.ntmps69
  go_wp2
  go_ret
  exact ⟨ret_int (by simp [errB];try omega),HB.out _⟩
theorem check_few (p:Int) (b:Bool) (w:Int) (v:Nat) (hw:w ≠ 0) (W:World) (hbel:∀ o,Below W.heap.size W (W.alloc o)) (kc:∀ o,Calls Tryz.prog 137 #[.int .i64 w,.int .u64 v] (W.alloc o) fun e W'=>e=.returned (.bool b)∧W.alloc o=W') :
  Calls Tryz.prog 69 #[.agg #[.int .i64 3,.string ⟨#[]⟩,.int .i64 w,.int .u64 v,.int .i64 p]] W fun e W'=>e=.returned (.int .i64 (errB (b && decide (0≤p))))∧Below W.heap.size W W':=by
 have hw':(w == 0)=false:=by rw [beq_eq_false_iff_ne];exact hw
 clear hw
 have HB:=hid hbel
 clear hbel
 have KC:=hid kc
 clear kc
 by_cases hp:0≤p
 all_goals
  cases b
  all_goals
   go_enter Tryz.func69,Tryz.ntmps69
   go_wp2_with fail
   refine (KC.out _).mono ?_
   rintro e w' ⟨rfl,rfl⟩
   go_wp2
   go_ret
   exact ⟨ret_int (by simp [errB];try omega),HB.out _⟩
theorem check_fsv (p:Int) (s:ByteArray) (hs:s.data.toList ≠ []) (v:Nat) (hv:v ≠ 0) (W:World) (hbel:∀ o,Below W.heap.size W (W.alloc o)) :
  Calls Tryz.prog 69 #[.agg #[.int .i64 3,.string s,.int .i64 0,.int .u64 v,.int .i64 p]] W fun e W'=>e=.returned (.int .i64 (errB (false && decide (0≤p))))∧Below W.heap.size W W':=by
 have hs1:s.toList.isEmpty=false:=by rw [toList_eq];simpa using hs
 have hs2:¬ s.toList=[]:=by rw [toList_eq];exact hs
 clear hs
 have hv':((v:Int) == 0)=false:=by rw [beq_eq_false_iff_ne];omega
 clear hv
 have HB:=hid hbel
 clear hbel
 by_cases hp:0≤p
 all_goals
  go_enter Tryz.func69,Tryz.ntmps69
  go_wp2
  go_ret
  exact ⟨ret_int (by simp [errB];try omega),HB.out _⟩
theorem check_fev (p:Int) (v:Nat) (hv:v ≠ 0) (W:World) (hbel:∀ o,Below W.heap.size W (W.alloc o)) :
  Calls Tryz.prog 69 #[.agg #[.int .i64 3,.string ⟨#[]⟩,.int .i64 0,.int .u64 v,.int .i64 p]] W fun e W'=>e=.returned (.int .i64 (errB (true && decide (0≤p))))∧Below W.heap.size W W':=by
 have hv':((v:Int) == 0)=false:=by rw [beq_eq_false_iff_ne];omega
 clear hv
 have HB:=hid hbel
 clear hbel
 by_cases hp:0≤p
 all_goals
  go_enter Tryz.func69,Tryz.ntmps69
  go_wp2
  go_ret
  exact ⟨ret_int (by simp [errB];try omega),HB.out _⟩
theorem check_fsp (p:Int) (s:ByteArray) (hs:s.data.toList ≠ []) (W:World) (hbel:∀ o,Below W.heap.size W (W.alloc o)) :
  Calls Tryz.prog 69 #[.agg #[.int .i64 3,.string s,.int .i64 0,.int .u64 0,.int .i64 p]] W fun e W'=>e=.returned (.int .i64 (errB (false && decide (0≤p))))∧Below W.heap.size W W':=by
 have hs1:s.toList.isEmpty=false:=by rw [toList_eq];simpa using hs
 have hs2:¬ s.toList=[]:=by rw [toList_eq];exact hs
 clear hs
 have HB:=hid hbel
 clear hbel
 by_cases hp:0≤p
 all_goals
  go_enter Tryz.func69,Tryz.ntmps69
  go_wp2
  go_ret
  exact ⟨ret_int (by simp [errB];try omega),HB.out _⟩
theorem check_fep (p:Int) (W:World) (hbel:∀ o,Below W.heap.size W (W.alloc o)) :
  Calls Tryz.prog 69 #[.agg #[.int .i64 3,.string ⟨#[]⟩,.int .i64 0,.int .u64 0,.int .i64 p]] W fun e W'=>e=.returned (.int .i64 (errB (true && decide (0≤p))))∧Below W.heap.size W W':=by
 have HB:=hid hbel
 clear hbel
 by_cases hp:0≤p
 all_goals
  go_enter Tryz.func69,Tryz.ntmps69
  go_wp2
  go_ret
  exact ⟨ret_int (by simp [errB];try omega),HB.out _⟩
theorem check_op (p:Int) (s:ByteArray) (k:Int) (h1:k ≠ 1) (h2:k ≠ 2) (h3:k ≠ 3) (h4:k ≠ 4) (W:World) (hbel:∀ o,Below W.heap.size W (W.alloc o)) :
  Calls Tryz.prog 69 #[.agg #[.int .i64 k,.string s,.int .i64 0,.int .u64 0,.int .i64 p]] W fun e W'=>e=.returned (.int .i64 (errB (false && decide (0≤p))))∧Below W.heap.size W W':=by
 have q1:(k == 1)=false:=by rw [beq_eq_false_iff_ne];exact h1
 have q2:(k == 2)=false:=by rw [beq_eq_false_iff_ne];exact h2
 have q3:(k == 3)=false:=by rw [beq_eq_false_iff_ne];exact h3
 have q4:(k == 4)=false:=by rw [beq_eq_false_iff_ne];exact h4
 clear h1 h2 h3 h4
 have HB:=hid hbel
 clear hbel
 by_cases hp:0≤p
 all_goals
  go_enter Tryz.func69,Tryz.ntmps69
  go_wp2
  go_ret
  exact ⟨ret_int (by simp [errB];try omega),HB.out _⟩
theorem check_ow (p:Int) (s:ByteArray) (k:Int) (h1:k ≠ 1) (h2:k ≠ 2) (h3:k ≠ 3) (h4:k ≠ 4) (w:Int) (v:Nat) (hw:w ≠ 0) (W:World) (hbel:∀ o,Below W.heap.size W (W.alloc o)) :
  Calls Tryz.prog 69 #[.agg #[.int .i64 k,.string s,.int .i64 w,.int .u64 v,.int .i64 p]] W fun e W'=>e=.returned (.int .i64 (errB (false && decide (0≤p))))∧Below W.heap.size W W':=by
 have q1:(k == 1)=false:=by rw [beq_eq_false_iff_ne];exact h1
 have q2:(k == 2)=false:=by rw [beq_eq_false_iff_ne];exact h2
 have q3:(k == 3)=false:=by rw [beq_eq_false_iff_ne];exact h3
 have q4:(k == 4)=false:=by rw [beq_eq_false_iff_ne];exact h4
 clear h1 h2 h3 h4
 have hw':(w == 0)=false:=by rw [beq_eq_false_iff_ne];exact hw
 clear hw
 have HB:=hid hbel
 clear hbel
 by_cases hp:0≤p
 all_goals
  go_enter Tryz.func69,Tryz.ntmps69
  go_wp2
  go_ret
  exact ⟨ret_int (by simp [errB];try omega),HB.out _⟩
theorem check_ov (p:Int) (s:ByteArray) (k:Int) (h1:k ≠ 1) (h2:k ≠ 2) (h3:k ≠ 3) (h4:k ≠ 4) (v:Nat) (hv:v ≠ 0) (W:World) (hbel:∀ o,Below W.heap.size W (W.alloc o)) :
  Calls Tryz.prog 69 #[.agg #[.int .i64 k,.string s,.int .i64 0,.int .u64 v,.int .i64 p]] W fun e W'=>e=.returned (.int .i64 (errB (false && decide (0≤p))))∧Below W.heap.size W W':=by
 have q1:(k == 1)=false:=by rw [beq_eq_false_iff_ne];exact h1
 have q2:(k == 2)=false:=by rw [beq_eq_false_iff_ne];exact h2
 have q3:(k == 3)=false:=by rw [beq_eq_false_iff_ne];exact h3
 have q4:(k == 4)=false:=by rw [beq_eq_false_iff_ne];exact h4
 clear h1 h2 h3 h4
 have hv':((v:Int) == 0)=false:=by rw [beq_eq_false_iff_ne];omega
 clear hv
 have HB:=hid hbel
 clear hbel
 by_cases hp:0≤p
 all_goals
  go_enter Tryz.func69,Tryz.ntmps69
  go_wp2
  go_ret
  exact ⟨ret_int (by simp [errB];try omega),HB.out _⟩
theorem check_any (k w p:Int) (s:ByteArray) (v:Nat) (hs:s.size≤4611686018427387904) (hv:v<18446744073709551616) (W:World) (hB:Base W) :
  Calls Tryz.prog 69 #[.agg #[.int .i64 k,.string s,.int .i64 w,.int .u64 v,.int .i64 p]] W fun e W'=>e=.returned (.int .i64 (errB (checkT ⟨k,s.data.toList,w,v,p⟩)))∧Below W.heap.size W W':=by
 have hb:∀ o,Below W.heap.size W (W.alloc o):=fun o=>(Below.refl _ _).alloc (Nat.le_refl _) _
 obtain ⟨kn,kw,ks,kf⟩:=check_calls w s v hs hv W hB
 have put:∀ {b:Bool},(checkT ⟨k,s.data.toList,w,v,p⟩=(b && decide (0≤p)))→Calls Tryz.prog 69 #[.agg #[.int .i64 k,.string s,.int .i64 w,.int .u64 v,.int .i64 p]] W (fun e W'=>e=.returned (.int .i64 (errB (b && decide (0≤p))))∧Below W.heap.size W W') →
   Calls Tryz.prog 69 #[.agg #[.int .i64 k,.string s,.int .i64 w,.int .u64 v,.int .i64 p]] W fun e W'=>e=.returned (.int .i64 (errB (checkT ⟨k,s.data.toList,w,v,p⟩)))∧Below W.heap.size W W':=fun h1 h2=>by rw [h1];exact h2
 by_cases h1:k=1
 ·subst h1
  by_cases hw:w=0
  ·subst hw
   by_cases hz:v=0
   ·subst hz
    exact put (by simp [checkT,Bool.and_comm]) (check_np p s _ W hb kn)
   ·exact put (by simp [checkT,hz]) (check_nv p s v hz W hb)
  ·exact put (by simp [checkT,hw]) (check_nw w p s v hw W hb)
 by_cases h2:k=2
 ·subst h2
  by_cases hw:w=0
  ·subst hw
   by_cases hz:v=0
   ·subst hz
    exact put (by simp [checkT,Bool.and_comm]) (check_wp p s _ W hb kw)
   ·exact put (by simp [checkT,hz]) (check_wv p s v hz W hb)
  ·exact put (by simp [checkT,hw]) (check_ww w p s v hw W hb)
 by_cases h4:k=4
 ·subst h4
  by_cases hw:w=0
  ·subst hw
   by_cases hz:v=0
   ·subst hz
    exact put (by simp [checkT,Bool.and_comm]) (check_sp p s _ W hb ks)
   ·exact put (by simp [checkT,hz]) (check_sv p s v hz W hb)
  ·exact put (by simp [checkT,hw]) (check_sw w p s v hw W hb)
 by_cases h3:k=3
 ·subst h3
  by_cases he:s.data.toList=[]
  ·obtain rfl:=empty_of he
   by_cases hw:w=0
   ·subst hw
    by_cases hz:v=0
    ·subst hz
     exact put (by simp [checkT]) (check_fep p W hb)
    ·exact put (by simp [checkT]) (check_fev p v hz W hb)
   ·have hw':(w == 0)=false:=by simpa using hw
    exact put (by simp [checkT,hw',Bool.and_comm]) (check_few p _ w v hw W hb kf)
  ·have he':s.data.toList.isEmpty=false:=by simpa using he
   by_cases hw:w=0
   ·subst hw
    by_cases hz:v=0
    ·subst hz
     exact put (by unfold checkT;rw [he'];simp) (check_fsp p s he W hb)
    ·exact put (by unfold checkT;rw [he'];simp) (check_fsv p s he v hz W hb)
   ·exact put (by unfold checkT;rw [he'];simp) (check_fsw p s he w v hw W hb)
 ·have hc:checkT ⟨k,s.data.toList,w,v,p⟩=(false && decide (0≤p)):=by simp [checkT,h1,h2,h3,h4]
  by_cases hw:w=0
  ·subst hw
   by_cases hz:v=0
   ·subst hz
    exact put hc (check_op p s k h1 h2 h3 h4 W hb)
   ·exact put hc (check_ov p s k h1 h2 h3 h4 v hz W hb)
  ·exact put hc (check_ow p s k h1 h2 h3 h4 w v hw W hb)
end Go.Proofs.YtlcfpdmicpggbaaGreatDoor
namespace Go.Proofs.YtlcfpdmicpggbaaGreatDoor
open Go.Lib (hid)
open Go.RowKit Go.Proofs.Scn
theorem conv_run (s:ByteArray) (w:World):(convert 9 44 (.string s)).run Tryz.prog w=.ok (.slice (some ⟨w.heap.size,0,none⟩) s.size (grownCap w s.size 0 5)) (Lib.bytesWorld w 5 s):=
 Lib.run_convert_string_bytes (P:=Tryz.prog) (u:=.string) w 9 44 5 s (by kernel_rfl) (by kernel_rfl) (by kernel_rfl)
end Go.Proofs.YtlcfpdmicpggbaaGreatDoor
namespace Go.Proofs.YtlcfpdmicpggbaaGreatDoor
open Go.Lib (hid)
open Go.RowKit Go.Proofs.Scn
structure Box5 (w:World) (n:Nat) (a b c d e:Value):Prop where
 c0:w.cell? ⟨n,0,none⟩=some a
 c1:w.cell? ⟨n,1,none⟩=some b
 c2:w.cell? ⟨n,2,none⟩=some c
 c3:w.cell? ⟨n,3,none⟩=some d
 c4:w.cell? ⟨n,4,none⟩=some e
 f0:w.frozen? ⟨n,0,none⟩=false
 f1:w.frozen? ⟨n,1,none⟩=false
 f2:w.frozen? ⟨n,2,none⟩=false
 f3:w.frozen? ⟨n,3,none⟩=false
 f4:w.frozen? ⟨n,4,none⟩=false
 lt:n<w.heap.size
theorem Box5.new (w:World) (a b c d e:Value) (t:TypeId):Box5 (w.alloc (.cells #[a,b,c,d,e] t)) w.heap.size a b c d e:=
 ⟨by simp [World.cell?_alloc_new],by simp [World.cell?_alloc_new],by simp [World.cell?_alloc_new],by simp [World.cell?_alloc_new],by simp [World.cell?_alloc_new],by simp [go_sem],by simp [go_sem],by simp [go_sem],by simp [go_sem],by simp [go_sem],by simp⟩
theorem Box5.later {w w':World} {n:Nat} {a b c d e:Value} (h:Box5 w n a b c d e) (hb:Below w.heap.size w w'):Box5 w' n a b c d e:=
 ⟨(hb.cell (p:=⟨n,0,none⟩) h.lt).trans h.c0,(hb.cell (p:=⟨n,1,none⟩) h.lt).trans h.c1,(hb.cell (p:=⟨n,2,none⟩) h.lt).trans h.c2,(hb.cell (p:=⟨n,3,none⟩) h.lt).trans h.c3,(hb.cell (p:=⟨n,4,none⟩) h.lt).trans h.c4,
  (hb.frozen (p:=⟨n,0,none⟩) h.lt).trans h.f0,(hb.frozen (p:=⟨n,1,none⟩) h.lt).trans h.f1,(hb.frozen (p:=⟨n,2,none⟩) h.lt).trans h.f2,(hb.frozen (p:=⟨n,3,none⟩) h.lt).trans h.f3,(hb.frozen (p:=⟨n,4,none⟩) h.lt).trans h.f4,Nat.lt_of_lt_of_le h.lt hb.size⟩
end Go.Proofs.YtlcfpdmicpggbaaGreatDoor
namespace Go.Flow
open Go.Lib (hid)
open Go.RowKit
variable {P:Program} {ops:Array Oper} {Q:Exit→Act→World→Prop}
theorem mem_ready {md:Region.Mode} {L:Array Bool} {i:Nat} (h:i ∈ Region.ready md ops L) :
  i<ops.size∧L.getD i true=false∧∀ o,ops[i]?=some o→∀ e ∈ o.after.toList,Region.binds md e=true→L.getD e.on false=true:=by
 simp only [Region.ready,List.mem_filter,List.mem_range,Bool.and_eq_true,Bool.not_eq_true'] at h
 obtain ⟨h1,h2,h3⟩:=h
 refine ⟨h1,h2,fun o ho e he hb=>?_⟩
 rw [ho] at h3
 simp only [Option.map_some,Option.getD_some,Array.all_eq_true'] at h3
 have:=h3 e (Array.mem_toList_iff.1 he)
 simp only [hb,Bool.not_true,Bool.false_or] at this
 exact this
def dst (ops:Array Oper) (i:Nat):Option Tmp:=(ops[i]?).bind (·.dst)
structure Inv (ops:Array Oper) (a0:Act) (R:Array Bool→World→Prop) (φ:Array Bool→Nat→Value→World→Prop) (L:Array Bool) (a:Act) (w:World):Prop where
 defers:a.defers=a0.defers
 size:a.tmps.size=a0.tmps.size
 same:∀ t,(∀ j,j<ops.size→dst ops j ≠ some t)→a.tmps.getD t undef=a0.tmps.getD t undef
 world:R L w
 vals:∀ j d,j<ops.size→dst ops j=some d→L.getD j false=true→φ L j (a.tmps.getD d undef) w
theorem getD_set_ne {α:Type} (x:Array α) (i j:Nat) (v z:α) (h:j ≠ i):(x.setIfInBounds i v).getD j z=x.getD j z:=by
 simp [Array.getD_eq_getD_getElem?,Array.getElem?_setIfInBounds,h.symm]
theorem getD_set_self {α:Type} (x:Array α) (i:Nat) (v z:α) (h:i<x.size):(x.setIfInBounds i v).getD i z=v:=by
 simp [Array.getD_eq_getD_getElem?,h]
end Go.Flow
namespace Go.Flow
open Go.Lib (hid)
open Go.RowKit Go.Sort
variable {ops:Array Oper}
def fastFrom (ops:Array Oper):Nat→List Oper→Bool
 | _,[]=>true
 | k,o :: rest=>(o.after.toList.all fun e=>!Region.binds .any e || Nat.blt e.on k) && (rest.all fun oj=>(oj.after.toList.any fun e=>Region.binds .any e && Nat.beq e.on k) || o.apart ops oj) && fastFrom ops (k+1) rest
structure UpTo (n k:Nat) (L:Array Bool):Prop where
 size:L.size=n
 at_:∀ j,j<n→L.getD j true=decide (j<k)
theorem UpTo.at_false {n k:Nat} {L:Array Bool} (h:UpTo n k L) (j:Nat) (hj:j<n):L.getD j false=decide (j<k):=by
 have:=h.at_ j hj
 have hs:j<L.size:=by rw [h.size];exact hj
 simp only [Array.getD_eq_getD_getElem?,Array.getElem?_eq_getElem hs,Option.getD_some] at this ⊢
 exact this
theorem UpTo.next {n k:Nat} {L:Array Bool} (h:UpTo n k L) (hk:k<n):UpTo n (k+1) (L.setIfInBounds k true):=by
 refine ⟨by simpa using h.size,fun j hj=>?_⟩
 by_cases e:j=k
 ·subst e
  rw [Flow.getD_set_self _ _ _ _ (by rw [h.size];exact hk)]
  simp
 ·rw [Flow.getD_set_ne _ _ _ _ _ e,h.at_ j hj,decide_eq_decide]
  omega
theorem lexFrom_of_fast:∀ (l:List Oper) (k:Nat) (L:Array Bool),(∀ j,l[j]?=ops[k+j]?)→k+l.length=ops.size→UpTo ops.size k L→fastFrom ops k l=true→Region.lexFrom .any ops l.length k L=true
 | [],k,L,_,hk,hu,_=>by
  simp only [List.length_nil,Nat.add_zero] at hk
  simp only [List.length_nil,Region.lexFrom,List.isEmpty_iff]
  unfold Region.ready
  rw [List.filter_eq_nil_iff]
  intro i hi
  have hi':=List.mem_range.1 hi
  rw [hu.at_ i hi']
  simp [hk,hi']
 | o :: l,k,L,hl,hk,hu,hf=>by
  have h0:ops[k]?=some o:=by simpa using (hl 0).symm
  have hkn:k<ops.size:=by simp only [List.length_cons] at hk;omega
  simp only [fastFrom,Bool.and_eq_true] at hf
  obtain ⟨⟨h1,h2⟩,h3⟩:=hf
  have ih:=lexFrom_of_fast l (k+1) (L.setIfInBounds k true) (fun j=>by have:=hl (j+1);simpa [Nat.add_assoc,Nat.add_comm 1 j] using this) (by simp only [List.length_cons] at hk;omega) (hu.next hkn) h3
  simp only [List.length_cons,Region.lexFrom,Bool.and_eq_true]
  refine ⟨⟨?_,?_⟩,ih⟩
  ·rw [List.contains_iff_mem]
   unfold Region.ready
   rw [List.mem_filter,List.mem_range,h0,hu.at_ k hkn]
   refine ⟨hkn,?_⟩
   simp only [Nat.lt_irrefl,decide_false,Bool.not_false,Bool.true_and,Option.map_some,Option.getD_some,Array.all_eq_true']
   intro e he
   have:=List.all_eq_true.1 h1 e (Array.mem_toList_iff.2 he)
   cases hb:Region.binds .any e
   ·simp
   ·rw [hb] at this
    simp only [Bool.not_true,Bool.false_or,Nat.blt_eq] at this
    rw [hu.at_false e.on (by omega)]
    simp [this]
  ·unfold Region.free
   rw [h0]
   simp only [List.all_eq_true,List.mem_range]
   intro j hj
   by_cases e:j=k
   ·simp [e]
   ·rcases Nat.lt_or_ge j k with hlt | hge
    ·rw [hu.at_ j hj]
     simp [hlt]
    ·have hjl:l[j - (k+1)]?=ops[j]?:=by
      have:=hl (j - k)
      rw [show k+(j - k)=j by omega,show j - k=(j - (k+1))+1 by omega,List.getElem?_cons_succ] at this
      exact this
     have hoj:ops[j]?=some ops[j]:=Array.getElem?_eq_getElem hj
     rw [hoj] at hjl ⊢
     have:=List.all_eq_true.1 h2 ops[j] (List.mem_of_getElem? hjl)
     simp only [Bool.or_eq_true] at this ⊢
     right
     rcases this with h | h
     ·left
      rw [List.any_eq_true] at h
      obtain ⟨x,hx,hx2⟩:=h
      rw [Array.any_eq_true']
      refine ⟨x,Array.mem_toList_iff.1 hx,?_⟩
      simp only [Bool.and_eq_true] at hx2 ⊢
      exact ⟨hx2.1,by simpa using hx2.2⟩
     ·right
      exact h
theorem lexB_of_fast (hs:Region.noSelect ops=true) (hf:fastFrom ops 0 ops.toList=true):Region.lexB .any ops=true:=by
 unfold Region.lexB
 rw [hs,Bool.true_and]
 have:=lexFrom_of_fast (ops:=ops) ops.toList 0 (Array.replicate ops.size false) (by simp) (by simp) ⟨by simp,fun j hj=>by simp [Array.getD_eq_getD_getElem?,hj]⟩ hf
 simpa using this
theorem wp_region_quiet_fast {P:Program} {id:Nat} {Q:Exit→Act→World→Prop} {a:Act} {w:World} {l:List Oper} (hm:P.follows .mixedOrders=true) (hs:Region.noSelect l.toArray=true) (hf:fastFrom l.toArray 0 l=true)
  (h:wpQuiet P l.toArray (fun w'=>∃ p:Regrown,w'=grow (redrawn w p.d) p.os) (fun a'=>∀ w',(∃ p:Regrown,w'=grow (redrawn w p.d) p.os)→Q .normal a' w') l a):(Code.region id l.toArray true).wp P Q a w:=
 wp_region_quiet_below hm (lexB_of_fast hs (by simpa using hf)) h
end Go.Flow
namespace Go.Flow
open Go.Lib (hid)
open Go.RowKit Go.Sort
section
variable {P:Program} {ops:Array Oper} {C:World→Prop}
end
structure FInv (ops:Array Oper) (bs:List Bool) (p:Nat) (d:Tmp) (O:Obj) (a aF:Act) (w:World) (L:Array Bool) (a':Act) (w':World):Prop where
 head:HeadInv .any ops bs.length L
 size:a'.tmps.size=a.tmps.size
 defers:a'.defers=a.defers
 below:Below w.heap.size w w'
 same:∀ t,(∀ j,j<bs.length→dst ops j ≠ some t)→a'.tmps.getD t undef=a.tmps.getD t undef
 vals:∀ j t,bs[j]?=some false→L.getD j false=true→dst ops j=some t→a'.tmps.getD t undef=aF.tmps.getD t undef
 flt:L.getD p false=true→∃ m,a'.tmps.getD d undef=.pointer (some ⟨m,0,none⟩)∧w.heap.size≤m∧w'.heap[m]?=some O
end Go.Flow
namespace Go.Flow
open Go.Lib (hid)
open Go.RowKit Go.Sort
structure BInv (ops:Array Oper) (bs:List Bool) (p q:Nat) (d:Tmp) (O O2:Obj) (a aF:Act) (w:World) (L:Array Bool) (a':Act) (w':World):Prop where
 size:a'.tmps.size=a.tmps.size
 defers:a'.defers=a.defers
 below:Below w.heap.size w w'
 same:∀ t,(∀ j,dst ops j ≠ some t)→a'.tmps.getD t undef=a.tmps.getD t undef
 vals:∀ j t,bs[j]?=some false→L.getD j false=true→dst ops j=some t→a'.tmps.getD t undef=aF.tmps.getD t undef
 flt:L.getD p false=true→∃ m,a'.tmps.getD d undef=.pointer (some ⟨m,0,none⟩)∧w.heap.size≤m∧w'.heap[m]?=some (if L.getD q false then O2 else O)
 order:L.getD q false=true→L.getD p false=true
end Go.Flow
namespace Go.Flow
open Go.Lib (hid)
open Go.RowKit Go.Sort
structure SInv (ops:Array Oper) (bs:List Bool) (q m0 B:Nat) (O O2:Obj) (a aF:Act) (w:World) (L:Array Bool) (a':Act) (w':World):Prop where
 size:a'.tmps.size=a.tmps.size
 defers:a'.defers=a.defers
 below:Below B w w'
 same:∀ t,(∀ j,L.getD j false=true→dst ops j ≠ some t)→a'.tmps.getD t undef=a.tmps.getD t undef
 closed:∀ j o,ops[j]?=some o→L.getD j false=true→∀ e ∈ o.after.toList,Region.binds .any e=true→L.getD e.on false=true
 vals:∀ j t,bs[j]?=some false→L.getD j false=true→dst ops j=some t→a'.tmps.getD t undef=aF.tmps.getD t undef
 blk:w'.heap[m0]?=some (if L.getD q false then O2 else O)
end Go.Flow
namespace Go.Proofs.YtlcfpdmicpggbaaGreatDoor
open Go.Lib (hid)
open Go.RowKit Go.Proofs.Scn Go.Flow Go.Sort
structure Box3 (w:World) (n:Nat) (a b c:Value):Prop where
 c0:w.cell? ⟨n,0,none⟩=some a
 c1:w.cell? ⟨n,1,none⟩=some b
 c2:w.cell? ⟨n,2,none⟩=some c
 f0:w.frozen? ⟨n,0,none⟩=false
 f1:w.frozen? ⟨n,1,none⟩=false
 f2:w.frozen? ⟨n,2,none⟩=false
 lt:n<w.heap.size
theorem Box3.new (w:World) (a b c:Value) (t:TypeId):Box3 (w.alloc (.cells #[a,b,c] t)) w.heap.size a b c:=
 ⟨by simp [World.cell?_alloc_new],by simp [World.cell?_alloc_new],by simp [World.cell?_alloc_new],by simp [go_sem],by simp [go_sem],by simp [go_sem],by simp⟩
theorem Box3.later {w w':World} {n:Nat} {a b c:Value} (h:Box3 w n a b c) (hb:Below w.heap.size w w'):Box3 w' n a b c:=
 ⟨(hb.cell (p:=⟨n,0,none⟩) h.lt).trans h.c0,(hb.cell (p:=⟨n,1,none⟩) h.lt).trans h.c1,(hb.cell (p:=⟨n,2,none⟩) h.lt).trans h.c2,(hb.frozen (p:=⟨n,0,none⟩) h.lt).trans h.f0,(hb.frozen (p:=⟨n,1,none⟩) h.lt).trans h.f1,(hb.frozen (p:=⟨n,2,none⟩) h.lt).trans h.f2,Nat.lt_of_lt_of_le h.lt hb.size⟩
theorem Box3.below {w w':World} {n B:Nat} {a b c:Value} (h:Box3 w n a b c) (hn:n<B) (hb:Below B w w'):Box3 w' n a b c:=
 ⟨(hb.cell (p:=⟨n,0,none⟩) hn).trans h.c0,(hb.cell (p:=⟨n,1,none⟩) hn).trans h.c1,(hb.cell (p:=⟨n,2,none⟩) hn).trans h.c2,(hb.frozen (p:=⟨n,0,none⟩) hn).trans h.f0,(hb.frozen (p:=⟨n,1,none⟩) hn).trans h.f1,(hb.frozen (p:=⟨n,2,none⟩) hn).trans h.f2,Nat.lt_of_lt_of_le h.lt hb.size⟩
structure Box7 (w:World) (n:Nat) (a b c d e f g:Value):Prop where
 c0:w.cell? ⟨n,0,none⟩=some a
 c1:w.cell? ⟨n,1,none⟩=some b
 c2:w.cell? ⟨n,2,none⟩=some c
 c3:w.cell? ⟨n,3,none⟩=some d
 c4:w.cell? ⟨n,4,none⟩=some e
 c5:w.cell? ⟨n,5,none⟩=some f
 c6:w.cell? ⟨n,6,none⟩=some g
 f0:w.frozen? ⟨n,0,none⟩=false
 f1:w.frozen? ⟨n,1,none⟩=false
 f2:w.frozen? ⟨n,2,none⟩=false
 f3:w.frozen? ⟨n,3,none⟩=false
 f4:w.frozen? ⟨n,4,none⟩=false
 f5:w.frozen? ⟨n,5,none⟩=false
 f6:w.frozen? ⟨n,6,none⟩=false
 lt:n<w.heap.size
theorem Box7.new (w:World) (a b c d e f g:Value) (t:TypeId):Box7 (w.alloc (.cells #[a,b,c,d,e,f,g] t)) w.heap.size a b c d e f g:=
 ⟨by simp [World.cell?_alloc_new],by simp [World.cell?_alloc_new],by simp [World.cell?_alloc_new],by simp [World.cell?_alloc_new],by simp [World.cell?_alloc_new],by simp [World.cell?_alloc_new],by simp [World.cell?_alloc_new],by simp [go_sem],by simp [go_sem],by simp [go_sem],by simp [go_sem],by simp [go_sem],by simp [go_sem],by simp [go_sem],by simp⟩
theorem Box7.later {w w':World} {n:Nat} {a b c d e f g:Value} (h:Box7 w n a b c d e f g) (hb:Below w.heap.size w w'):Box7 w' n a b c d e f g:=
 ⟨(hb.cell (p:=⟨n,0,none⟩) h.lt).trans h.c0,(hb.cell (p:=⟨n,1,none⟩) h.lt).trans h.c1,(hb.cell (p:=⟨n,2,none⟩) h.lt).trans h.c2,(hb.cell (p:=⟨n,3,none⟩) h.lt).trans h.c3,(hb.cell (p:=⟨n,4,none⟩) h.lt).trans h.c4,(hb.cell (p:=⟨n,5,none⟩) h.lt).trans h.c5,(hb.cell (p:=⟨n,6,none⟩) h.lt).trans h.c6,(hb.frozen (p:=⟨n,0,none⟩) h.lt).trans h.f0,(hb.frozen (p:=⟨n,1,none⟩) h.lt).trans h.f1,(hb.frozen (p:=⟨n,2,none⟩) h.lt).trans h.f2,(hb.frozen (p:=⟨n,3,none⟩) h.lt).trans h.f3,(hb.frozen (p:=⟨n,4,none⟩) h.lt).trans h.f4,(hb.frozen (p:=⟨n,5,none⟩) h.lt).trans h.f5,(hb.frozen (p:=⟨n,6,none⟩) h.lt).trans h.f6,Nat.lt_of_lt_of_le h.lt hb.size⟩
theorem Box7.below {w w':World} {n B:Nat} {a b c d e f g:Value} (h:Box7 w n a b c d e f g) (hn:n<B) (hb:Below B w w'):Box7 w' n a b c d e f g:=
 ⟨(hb.cell (p:=⟨n,0,none⟩) hn).trans h.c0,(hb.cell (p:=⟨n,1,none⟩) hn).trans h.c1,(hb.cell (p:=⟨n,2,none⟩) hn).trans h.c2,(hb.cell (p:=⟨n,3,none⟩) hn).trans h.c3,(hb.cell (p:=⟨n,4,none⟩) hn).trans h.c4,(hb.cell (p:=⟨n,5,none⟩) hn).trans h.c5,(hb.cell (p:=⟨n,6,none⟩) hn).trans h.c6,(hb.frozen (p:=⟨n,0,none⟩) hn).trans h.f0,(hb.frozen (p:=⟨n,1,none⟩) hn).trans h.f1,(hb.frozen (p:=⟨n,2,none⟩) hn).trans h.f2,(hb.frozen (p:=⟨n,3,none⟩) hn).trans h.f3,(hb.frozen (p:=⟨n,4,none⟩) hn).trans h.f4,(hb.frozen (p:=⟨n,5,none⟩) hn).trans h.f5,(hb.frozen (p:=⟨n,6,none⟩) hn).trans h.f6,Nat.lt_of_lt_of_le h.lt hb.size⟩
end Go.Proofs.YtlcfpdmicpggbaaGreatDoor
namespace Go.Proofs.YtlcfpdmicpggbaaGreatDoor
open Go.Lib (hid)
open Go.RowKit Go.Proofs.Scn Go.Flow Go.Sort
def Bytes (w:World) (v:Value) (s:ByteArray):Prop:=
 (s.size=0∧∃ p cap,v=.slice p 0 cap) ∨
 ∃ b off cap,v=.slice (some ⟨b,off,none⟩) s.size cap∧b<w.heap.size∧∀ k (h:k<s.size),w.cell? ⟨b,off+k,none⟩=some (.int .u8 s[k].toNat)
theorem Bytes.later {w w':World} {v:Value} {s:ByteArray} (h:Bytes w v s) (hb:Below w.heap.size w w'):Bytes w' v s:=by
 rcases h with h | ⟨b,off,cap,hv,hlt,hc⟩
 ·exact .inl h
 ·exact .inr ⟨b,off,cap,hv,Nat.lt_of_lt_of_le hlt hb.size,fun k hk=>(hb.cell (p:=⟨b,off+k,none⟩) hlt).trans (hc k hk)⟩
theorem strOfNums_bytes (s:ByteArray):strOfNums (s.data.toList.map fun c=>(c.toNat:Int))=s:=by
 unfold strOfNums
 rw [List.map_map]
 have:((fun n:Int=>UInt8.ofNat n.toNat) ∘ fun c:UInt8=>(c.toNat:Int))=id:=by
  funext c
  simp
 rw [this,List.map_id]
theorem str_run {w:World} {v:Value} {s:ByteArray} (h:Bytes w v s):(convert 44 9 v).run Tryz.prog w=.ok (.string s) w:=by
 rcases h with ⟨h0,p,cap,rfl⟩ | ⟨b,off,cap,rfl,hlt,hc⟩
 ·rw [Go.Proofs.run_convert_bytes_zero (P:=Tryz.prog) w 44 5 (by kernel_rfl) (by kernel_rfl) p cap 9 (by kernel_rfl)]
  have:s=ByteArray.empty:=by
   apply ByteArray.ext
   have h1:s.data.size=0:=h0
   exact Array.eq_empty_of_size_eq_zero h1
  rw [this]
 ·rw [run_convert_bytes_arg (P:=Tryz.prog) w 44 5 (by kernel_rfl) (by kernel_rfl) b off s.size cap (s.data.toList.map fun c=>(c.toNat:Int)) (by simp) (fun i hi=>by
   rw [hc i hi]
   have h':i<s.data.toList.length:=hi
   simp [List.getD_eq_getElem?_getD,List.getElem?_eq_getElem h']
   rfl) 9 (by kernel_rfl),strOfNums_bytes]
def cellsT (t:Tok):List Value:=[.int .i64 t.k,.string (bs t.s),.int .i64 t.w,.int .u64 t.v,.int .i64 t.p]
def cellsTs (ts:List Tok):List Value:=ts.flatMap cellsT
def OwnT (B:Nat) (w:World) (v:Value) (ts:List Tok):Prop:=w.ownsRow B 55 5 v ts.length (cellsTs ts)
theorem OwnT.later {B:Nat} {w w':World} {v:Value} {ts:List Tok} (h:OwnT B w v ts) (hb:Below w.heap.size w w'):OwnT B w' v ts:=by
 refine ⟨h.1,?_⟩
 rcases h.2 with h0 | ⟨g,cap,cur,hv,hB,hg,h1⟩
 ·exact .inl h0
 ·exact .inr ⟨g,cap,cur,hv,hB,(hb.block g (Array.getElem?_eq_some_iff.1 hg).1).trans hg,h1⟩
theorem OwnT.nil (B:Nat) (w:World):OwnT B w (.slice none 0 0) []:=World.ownsRow_nil w B _ 5
theorem OwnT.base {B:Nat} {w:World} {v:Value} {ts:List Tok} (h:OwnT B w v ts):∀ k,v.ownBlock=some k→B≤k:=by
 intro k hk
 rcases h.2 with ⟨rfl,_⟩ | ⟨g,cap,cur,rfl,hB,hg,h1⟩
 ·cases hk
 ·simp [Value.ownBlock] at hk;omega
end Go.Proofs.YtlcfpdmicpggbaaGreatDoor
namespace Go.Proofs.YtlcfpdmicpggbaaGreatDoor
open Go.Lib (hid)
open Go.RowKit Go.Proofs.Scn Go.Flow Go.Sort
theorem news5 (w:World) (o:Obj) (cs:Array Value) (t:TypeId):∀ j u,cs.toList[j]?=some u→((w.alloc o).alloc (.cells cs t)).cell? ((⟨w.heap.size+1,0,none⟩:Addr).add j)=some u:=
 World.news_of_block (fr:=(0,0)) (t:=t) (by have:=heap_alloc_new (w.alloc o) (.cells cs t);simpa using this)
end Go.Proofs.YtlcfpdmicpggbaaGreatDoor
namespace Go.Proofs.YtlcfpdmicpggbaaGreatDoor
open Go.Lib (hid)
open Go.RowKit Go.Proofs.Scn Go.Flow Go.Sort
structure TokAt (w:World) (b o:Nat) (t:Tok):Prop where
 c0:w.cell? ⟨b,o,none⟩=some (.int .i64 t.k)
 c1:w.cell? ⟨b,o+1,none⟩=some (.string (bs t.s))
 c2:w.cell? ⟨b,o+2,none⟩=some (.int .i64 t.w)
 c3:w.cell? ⟨b,o+3,none⟩=some (.int .u64 t.v)
 c4:w.cell? ⟨b,o+4,none⟩=some (.int .i64 t.p)
theorem TokAt.later {w w':World} {b o:Nat} {t:Tok} (h:TokAt w b o t) (hlt:b<w.heap.size) (hb:Below w.heap.size w w'):TokAt w' b o t:=
 ⟨(hb.cell (p:=⟨b,o,none⟩) hlt).trans h.c0,(hb.cell (p:=⟨b,o+1,none⟩) hlt).trans h.c1,(hb.cell (p:=⟨b,o+2,none⟩) hlt).trans h.c2,(hb.cell (p:=⟨b,o+3,none⟩) hlt).trans h.c3,(hb.cell (p:=⟨b,o+4,none⟩) hlt).trans h.c4⟩
def Toks (w:World) (v:Value) (ts:List Tok):Prop:=
 (ts=[]∧∃ p cap,v=.slice p 0 cap) ∨
 ∃ b off cap,v=.slice (some ⟨b,off,none⟩) ts.length cap∧b<w.heap.size∧∀ k (h:k<ts.length),TokAt w b (off+k * 5) ts[k]
theorem Toks.later {w w':World} {v:Value} {ts:List Tok} (h:Toks w v ts) (hb:Below w.heap.size w w'):Toks w' v ts:=by
 rcases h with h | ⟨b,off,cap,hv,hlt,hc⟩
 ·exact .inl h
 ·exact .inr ⟨b,off,cap,hv,Nat.lt_of_lt_of_le hlt hb.size,fun k hk=>(hc k hk).later hlt hb⟩
theorem cellsTs_at (ts:List Tok) (k j:Nat) (h:k<ts.length) (hj:j<5):(cellsTs ts)[k * 5+j]?=(cellsT ts[k])[j]?:=by
 induction ts generalizing k with
 | nil=>simp at h
 | cons t ts ih=>
  rw [cellsTs,List.flatMap_cons]
  have hl:(cellsT t).length=5:=rfl
  match k with
  | 0=>rw [List.getElem?_append_left (by rw [hl];omega),Nat.zero_mul,Nat.zero_add];rfl
  | k+1=>
   rw [List.getElem?_append_right (by rw [hl];omega),hl,show (k+1) * 5+j - 5=k * 5+j from by omega]
   exact ih k (by simpa using h)
theorem OwnT.toks {B:Nat} {w:World} {v:Value} {ts:List Tok} (h:OwnT B w v ts):Toks w v ts:=by
 rcases h.2 with ⟨rfl,h0⟩ | ⟨g,cap,cur,rfl,hB,hg,hn,hc,hs,ht⟩
 ·exact .inl ⟨List.eq_nil_of_length_eq_zero h0,_,_,rfl⟩
 ·refine .inr ⟨g,0,cap,rfl,(Array.getElem?_eq_some_iff.1 hg).1,fun k hk=>?_⟩
  have key:∀ j,j<5→w.cell? ⟨g,0+k * 5+j,none⟩=(cellsT ts[k])[j]?:=by
   intro j hj
   rw [← cellsTs_at ts k j hk hj,← ht,List.getElem?_take,if_pos (by omega),Nat.zero_add,cell_of_row w g (k * 5+j) cur _ (0,0) hg]
   simp
  exact ⟨key 0 (by omega),key 1 (by omega),key 2 (by omega),key 3 (by omega),key 4 (by omega)⟩
end Go.Proofs.YtlcfpdmicpggbaaGreatDoor
namespace Go.Proofs.YtlcfpdmicpggbaaGreatDoor
open Go.Lib (hid)
open Go.RowKit Go.Proofs.Scn Go.Flow Go.Sort
theorem dec_dig (n:Nat):Lib.decDigits n=digL 10 n:=by
 induction n using Nat.strongRecOn with
 | _ n ih=>
  rw [Lib.decDigits]
  split
  ·rename_i h
   rw [digL_lt (.inl h),if_pos h]
  ·rename_i h
   rw [digL_ge (by omega),ih (n / 10) (by omega),if_pos (by omega)]
theorem fmt10_small (u:Nat) (h:u<100) (W:World) :
  Calls Tryz.prog 223 #[.int .u64 u,.int .i64 10] W fun e W'=>e=.returned (.string (bs (digL 10 u)))∧W=W':=by
 have hs:=fun w=>(Tryz.internal_strconv_small u h w)
 rw [dec_dig] at hs
 have HS:=hid hs
 clear hs
 go_enter Tryz.func223,Tryz.ntmps223
 go_wp2_with fail
 refine (HS.out _).mono ?_
 rintro e w' ⟨rfl,rfl⟩
 go_wp2
 go_ret
 exact ⟨rfl,rfl⟩
theorem fmt10_big (u:Nat) (h100:100≤u) (hu64:u<18446744073709551616) (W:World) (hB:Base W) :
  Calls Tryz.prog 223 #[.int .u64 u,.int .i64 10] W fun e W'=>e=.returned (.string (bs (digL 10 u)))∧Below W.heap.size W W':=by
 have hu1:1≤u:=by omega
 have hnd20:Lib.nDigits u≤20:=by have:=Lib.numDigits_eq u hu1 hu64;split at this <;> omega
 have hsl:∀ w,(Instr.sliceAt 236 (.pointer (some ⟨W.heap.size,0,none⟩)) none (some (.int .i64 (Lib.nDigits u:Int))) none).run Tryz.prog w=.ok (.slice (some ⟨W.heap.size,0,none⟩) (Lib.nDigits u) 24) w:=fun w=>by
  rw [run_sliceAt_array_h w 236 ⟨W.heap.size,0,none⟩ (by kernel_rfl) .i64 (Lib.nDigits u:Int) (by omega) (by rw [show Tryz.prog.arrayLen 236=24 from by kernel_rfl];omega)]
  go_simp
 have hH0:Holds (fun (b:UInt8)=>Value.int .u8 (b.toNat:Int)) (W.alloc (.cells Lib.zeros24 236)) W.heap.size 0 (Array.replicate (Lib.nDigits u) (0:UInt8)):=fun j hj=>by
  have hj':j<Lib.nDigits u:=by simpa using hj
  refine ⟨?_,World.frozen?_alloc_new _ _ _ _⟩
  rw [World.cell?_alloc_new,Lib.zeros24_at _ (by omega),getElem!_pos _ j hj]
  simp
 have hfmt:=Tryz.internal_strconv_formatBase10 W.heap.size 0 24 u (Array.replicate (Lib.nDigits u) 0) (W.alloc (.cells Lib.zeros24 236)) hH0 (by rw [Array.size_replicate];exact Lib.lt_pow_nDigits u) hu64 (by rw [Array.size_replicate];omega)
 rw [Array.size_replicate] at hfmt
 have hnd:=Tryz.internal_strconv_numDigits u hu1 hu64 (W.alloc (.cells Lib.zeros24 236)) (Lib.tabIs_alloc hB.pow _)
 have HH0:=hid hH0
 have HF:=hid hfmt
 have HN:=hid hnd
 clear hH0 hB hfmt hnd
 go_enter Tryz.func223,Tryz.ntmps223
 go_wp2_with fail
 refine HN.out.mono ?_
 rintro e w' ⟨rfl,rfl⟩
 go_wp2_with fail
 refine HF.out.mono ?_
 rintro e w' ⟨rfl,k,v',dk,rfl,hF⟩
 have hcv:(convert 44 9 (.slice (some ⟨W.heap.size,0,none⟩) (Lib.nDigits u) 24)).run Tryz.prog ((putRow (fun (b:UInt8)=>Value.int .u8 (b.toNat:Int)) (W.alloc (.cells Lib.zeros24 236)) W.heap.size 0 dk).drewN k)=.ok (.string (bs (digL 10 u))) ((putRow (fun (b:UInt8)=>Value.int .u8 (b.toNat:Int)) (W.alloc (.cells Lib.zeros24 236)) W.heap.size 0 dk).drewN k):=by
  have h:=run_convert_bytes_back (P:=Tryz.prog) ((putRow (fun (b:UInt8)=>Value.int .u8 (b.toNat:Int)) (W.alloc (.cells Lib.zeros24 236)) W.heap.size 0 dk).drewN k) 44 9 5 ⟨W.heap.size,0,none⟩ 24 (Lib.decDigits u) (by kernel_rfl) (by kernel_rfl) (by kernel_rfl) (fun j hj=>by
   rw [Lib.row_is_numeral hF j hj,Lib.add_plain,World.cell?_drewN]
   exact cell?_putRow (fun (b:UInt8)=>Value.int .u8 (b.toNat:Int)) _ W.heap.size 0 _ dk HH0.out (by rw [hF.size,Array.size_replicate]) j (by rw [hF.size];rw [Lib.decDigits_length] at hj;exact hj))
  rw [Lib.decDigits_length,dec_dig] at h
  exact h
 go_wp2
 go_ret
 obtain ⟨os,eo⟩:∃ os,(putRow (fun (b:UInt8)=>Value.int .u8 (b.toNat:Int)) (W.alloc (.cells Lib.zeros24 236)) W.heap.size 0 dk).drewN k=grow (W.drewN k) os:=by
  rw [alloc_eq_grow]
  obtain ⟨os',_,e⟩:=putRow_grow_new (fun (b:UInt8)=>Value.int .u8 (b.toNat:Int)) W #[.cells Lib.zeros24 236] W.heap.size 0 dk (Nat.le_refl _)
  exact ⟨os',by rw [e];rfl⟩
 rw [eo]
 exact ⟨rfl,Go.Lib.below_grow _ _ (Nat.le_refl _) _ _⟩
theorem fmt10_any (u:Nat) (hu64:u<18446744073709551616) (W:World) (hB:Base W) :
  Calls Tryz.prog 223 #[.int .u64 u,.int .i64 10] W fun e W'=>e=.returned (.string (bs (digL 10 u)))∧Below W.heap.size W W':=by
 by_cases h:u<100
 ·exact (fmt10_small u h W).mono fun e W' h=>⟨h.1,h.2 ▸ Below.refl _ _⟩
 ·exact fmt10_big u (by omega) hu64 W hB
structure Hex (w:World) (m i:Nat) (R:List UInt8):Prop where
 block:∃ cur,w.heap[m]?=some (.cells cur 251 (0,0))∧cur.size=65
 room:i+R.length=65
 byte:∀ j (h:j<R.length),w.cell? ⟨m,i+j,none⟩=some (.int .u8 R[j].toNat)
theorem Hex.cell {w:World} {m i:Nat} {R:List UInt8} (h:Hex w m i R) (j:Nat) (hj:j<65):∃ x,w.cell? ⟨m,j,none⟩=some x:=by
 obtain ⟨cur,hc,hs⟩:=h.block
 exact ⟨cur[j],by rw [cell_of_row w m j cur _ _ hc];exact Array.getElem?_eq_getElem (by omega)⟩
theorem Hex.free {w:World} {m i:Nat} {R:List UInt8} (h:Hex w m i R) (j:Nat):w.frozen? ⟨m,j,none⟩=false:=by
 obtain ⟨cur,hc,hs⟩:=h.block
 simp [World.frozen?,hc]
theorem Hex.push {w:World} {m i:Nat} {R:List UInt8} (h:Hex w m (i+1) R) (c:UInt8):Hex (w.setCell ⟨m,i,none⟩ (.int .u8 c.toNat)) m i (c :: R):=by
 obtain ⟨cur,hc,hs⟩:=h.block
 obtain ⟨x,hx⟩:=h.cell i (by have:=h.room;omega)
 refine ⟨?_,by have:=h.room;simp;omega,fun j hj=>?_⟩
 ·exact ⟨cur.setIfInBounds i (.int .u8 c.toNat),by simp [World.setCell,Array.getElem?_modify,hc],by simp [hs]⟩
 ·cases j with
  | zero=>exact World.cell?_setCell_same _ _ _ hx
  | succ j=>
   rw [World.cell?_setCell_other _ _ _ _ (by simp),show i+(j+1)=i+1+j from by omega]
   exact h.byte j (by simpa using hj)
theorem Hex.later {w w':World} {m i:Nat} {R:List UInt8} (h:Hex w m i R) (hb:Below w.heap.size w w'):Hex w' m i R:=by
 obtain ⟨cur,hc,hs⟩:=h.block
 have hlt:=(Array.getElem?_eq_some_iff.1 hc).1
 exact ⟨⟨cur,(hb.block m hlt).trans hc,hs⟩,h.room,fun j hj=>(hb.cell (p:=⟨m,i+j,none⟩) hlt).trans (h.byte j hj)⟩
theorem Hex.bytes {w:World} {m i:Nat} {R:List UInt8} (h:Hex w m i R) (c:Nat):Bytes w (.slice (some ⟨m,i,none⟩) R.length c) (bs R):=by
 obtain ⟨cur,hc,hs⟩:=h.block
 exact .inr ⟨m,i,c,rfl,(Array.getElem?_eq_some_iff.1 hc).1,fun k hk=>h.byte k hk⟩
end Go.Proofs.YtlcfpdmicpggbaaGreatDoor
namespace Go.Proofs.YtlcfpdmicpggbaaGreatDoor
open Go.Lib (hid)
open Go.RowKit Go.Proofs.Scn Go.Flow Go.Sort
theorem pow2_16 (W:World):Calls Tryz.prog 246 #[.int .i64 16] W fun e W'=>e=.returned (.bool true)∧W=W':=by
 go_enter Tryz.func246,Tryz.ntmps246
 go_wp2
 go_ret
 exact ⟨rfl,rfl⟩
theorem tz_16 (W:World) (hB:Base W):Calls Tryz.prog 247 #[.int .u64 16] W fun e W'=>e=.returned (.int .i64 4)∧W=W':=by
 refine Calls.mono (Any7.bits_TrailingZeros Tryz.lays7n27 16 (by decide) W (fun _=>hB.tz)) ?_
 rintro e w' h
 exact ⟨h.1.trans (by rw [show Lib.ctz 64 16=4 from by decide];rfl),h.2.symm⟩
theorem and15 (n:Nat) (h:n<18446744073709551616):bits BinOp.and IntKind.u64 (n:Int) 15=((n % 16:Nat):Int):=by
 have:=bits_and_u64_nat n 15 h (by omega)
 rw [show n &&& 15=n % 16 from Nat.and_two_pow_sub_one_eq_mod n 4] at this
 exact this
def dig16 (n:Nat):UInt8:=UInt8.ofNat (if n<10 then 48+n else 87+n)
theorem lit_dig:∀ d (h:d<36),d<16→(ByteArray.mk #[48,49,50,51,52,53,54,55,56,57,97,98,99,100,101,102,103,104,105,106,107,108,109,110,111,112,113,114,115,116,117,118,119,120,121,122])[d]=dig16 d:=by decide
theorem digL_16 (n:Nat) (h:16≤n):digL 16 n=digL 16 (n / 16) ++ [dig16 (n % 16)]:=digL_ge (by omega)
theorem digL_1 (n:Nat) (h:n<16):digL 16 n=[dig16 n]:=digL_lt (.inl h)
theorem bits16 (v:Nat) (hv:v<18446744073709551616) (W:World) (hB:Base W) :
  Calls Tryz.prog 238 #[.slice none 0 0,.int .u64 v,.int .i64 16,.bool false,.bool false] W fun e W'=>e=.returned (.tuple #[.slice none 0 0,.string (bs (digL 16 v))])∧Below W.heap.size W W':=by
 have kp:=pow2_16
 have kt:=tz_16
 have KP:=hid kp
 have KT:=hid kt
 have HBase:=hid hB
 clear kp kt hB
 have hzero:Hex (W.alloc (.cells (Array.replicate 65 (.int .u8 0)) 251)) W.heap.size 65 []:=⟨⟨Array.replicate 65 (.int .u8 0),heap_alloc_new _ _,by simp⟩,rfl,fun j hj=>by simp at hj⟩
 have hW:Below W.heap.size W (W.alloc (.cells (Array.replicate 65 (.int .u8 0)) 251)):=(Below.refl _ _).alloc (Nat.le_refl _) _
 have HZ:=hid hzero
 have HW:=hid hW
 clear hzero hW
 go_enter Tryz.func238,Tryz.ntmps238
 go_wp2_with fail
 refine (KP.out _).mono ?_
 rintro e w' ⟨rfl,rfl⟩
 go_wp2_with fail
 refine (KT.out _ (HBase.out.alloc _)).mono ?_
 rintro e w' ⟨rfl,rfl⟩
 go_wp2_with fail
 go_loopw [1,13] (fun u i wr=>∃ (n k:Nat) (R:List UInt8),u=.int .u64 n∧i=.int .i64 k∧n≤v∧R.length≤15∧k+R.length=65∧Hid (n * 16 ^ R.length≤v)∧Hid (digL 16 v=digL 16 n ++ R)∧Hid (Hex wr W.heap.size k R)∧Hid (Below W.heap.size W wr)) (fun u _ _=>(intOf u).toNat)
 case atStart=>exact ⟨v,65,[],rfl,rfl,Nat.le_refl _,by simp,rfl,hid (by simp),hid (by simp),HZ,HW⟩
 case round=>
  obtain ⟨n,k,R,rfl,rfl,hn,hR,hk,HV,HD,HX,HB⟩:=hrel
  by_cases hlt:16≤n
  ·have hlt':(16:Int)≤(n:Int):=by omega
   obtain ⟨j,rfl⟩:∃ j,k=j+1:=⟨k - 1,by omega⟩
   have hs:((j+1:Nat):Int) - 1=(j:Int):=by omega
   obtain ⟨x,hx⟩:=HX.out.cell j (by omega)
   have hf:=HX.out.free j
   have hand:=and15 n (by omega)
   have hd16:n % 16<16:=Nat.mod_lt _ (by omega)
   have hdig:=digL_16 n hlt
   generalize n % 16=d at hand hd16 hdig
   have hd36:d<36:=by omega
   have hlit:=lit_dig d hd36 hd16
   have hval:n / 16 * 16 ^ (R.length+1)≤v:=by
    have h1:=Nat.div_mul_le_self n 16
    have h2:=Nat.mul_le_mul_right (16 ^ R.length) h1
    rw [Nat.pow_succ,Nat.mul_comm (16 ^ R.length) 16,← Nat.mul_assoc]
    exact Nat.le_trans h2 HV.out
   have hlen:R.length+1≤15:=by
    have h1:=Nat.mul_le_mul_right (16 ^ R.length) hlt
    have h2:=Nat.le_trans h1 HV.out
    rcases Nat.lt_or_ge R.length 15 with h3 | h3
    ·omega
    ·have h4:(16:Nat) ^ 15≤16 ^ R.length:=Nat.pow_le_pow_right (by omega) h3
     have h5:(16:Nat) ^ 15=1152921504606846976:=by decide
     omega
   have HDig:=hid (show digL 16 v=digL 16 (n / 16) ++ (dig16 d :: R) by rw [HD.out,hdig,List.append_assoc];rfl)
   have HVal:=hid hval
   have HP:=HX.out.push (dig16 d)
   have HBel:=hid (show Below W.heap.size W (wr.setCell ⟨W.heap.size,j,none⟩ (.int .u8 (dig16 d).toNat)) from HB.out.setCell (Nat.le_refl _) _)
   have HPush:=hid HP
   clear hval hdig HP
   have hdiv:n / 16<n:=by omega
   have hq:((n:Int) / 16)=((n / 16:Nat):Int):=by omega
   generalize n / 16=n' at *
   go_wp2_with fail
   go_roundw
   case rel=>exact ⟨n',j,dig16 d :: R,rfl,rfl,by omega,by simp;omega,by simp;omega,HVal,HDig,HPush,HBel⟩
   case measure=>simp [intOf];omega
  ·have hlt':¬ (16:Int)≤(n:Int):=by omega
   obtain ⟨j,rfl⟩:∃ j,k=j+1:=⟨k - 1,by omega⟩
   have hs:((j+1:Nat):Int) - 1=(j:Int):=by omega
   obtain ⟨x,hx⟩:=HX.out.cell j (by omega)
   have hf:=HX.out.free j
   have hn36:n<36:=by omega
   have hlit:=lit_dig n hn36 (by omega)
   have hP:=HX.out.push (dig16 n)
   have hBel:=(show Below W.heap.size W (wr.setCell ⟨W.heap.size,j,none⟩ (.int .u8 (dig16 n).toNat)) from HB.out.setCell (Nat.le_refl _) _)
   have hdig:digL 16 v=dig16 n :: R:=by rw [HD.out,digL_1 n (by omega)];rfl
   have hconv:=str_run (hP.bytes (65 - j))
   have HDig:=hid hdig
   have HBel:=hid hBel
   have hjl:(dig16 n :: R).length=65 - j:=by have:=hP.room;omega
   rw [hjl] at hconv
   have hsl:∀ w,(Instr.sliceAt 251 (.pointer (some ⟨W.heap.size,0,none⟩)) (some (.int .i64 (j:Int))) none none).run Tryz.prog w=.ok (.slice (some ⟨W.heap.size,j,none⟩) (65 - j) (65 - j)) w:=fun w=>by
    rw [run_sliceAt_array_l w 251 ⟨W.heap.size,0,none⟩ (by kernel_rfl) .i64 (j:Int) (by omega) (by rw [show Tryz.prog.arrayLen 251=65 from by kernel_rfl];omega)]
    go_simp
    omega
   clear hBel hdig hP hjl
   go_wp2
   refine bodyPost_ret (v:=.tuple #[.slice none 0 0,.string (bs (dig16 n :: R))]) ?_ rfl ⟨by rw [HDig.out],HBel.out⟩
   simp [results,Tryz.results238,go_sem]
theorem fmt16_in (v:Nat) (hv:v<18446744073709551616) (W:World) (hB:Base W) :
  Calls Tryz.prog 223 #[.int .u64 v,.int .i64 16] W fun e W'=>e=.returned (.string (bs (digL 16 v)))∧Below W.heap.size W W':=by
 have K:=hid (bits16 v hv W hB)
 clear hB
 go_enter Tryz.func223,Tryz.ntmps223
 go_wp2_with fail
 refine K.out.mono ?_
 rintro e w' ⟨rfl,hb⟩
 go_wp2
 go_ret
 exact ⟨rfl,hb⟩
theorem fmt16_any (v:Nat) (hv:v<18446744073709551616) (W:World) (hB:Base W) :
  Calls Tryz.prog 210 #[.int .u64 v,.int .i64 16] W fun e W'=>e=.returned (.string (bs (digL 16 v)))∧Below W.heap.size W W':=by
 have K:=hid (fmt16_in v hv W hB)
 clear hB
 go_enter Tryz.func210,Tryz.ntmps210
 go_wp2_with fail
 refine K.out.mono ?_
 rintro e w' ⟨rfl,hb⟩
 go_wp2
 go_ret
 exact ⟨rfl,hb⟩
theorem fmtd_any (v:Nat) (hv:v<18446744073709551616) (W:World) (hB:Base W) :
  Calls Tryz.prog 210 #[.int .u64 v,.int .i64 10] W fun e W'=>e=.returned (.string (bs (digL 10 v)))∧Below W.heap.size W W':=by
 have K:=hid (fmt10_any v hv W hB)
 clear hB
 go_enter Tryz.func210,Tryz.ntmps210
 go_wp2_with fail
 refine K.out.mono ?_
 rintro e w' ⟨rfl,hb⟩
 go_wp2
 go_ret
 exact ⟨rfl,hb⟩
end Go.Proofs.YtlcfpdmicpggbaaGreatDoor
namespace Go.Proofs.YtlcfpdmicpggbaaGreatDoor
open Go.Lib (hid)
open Go.RowKit Go.Proofs.Scn Go.Flow Go.Sort
theorem written_text (k w p:Int) (S:ByteArray) (v:Nat) (hk:¬ k=3) (W:World) :
  Calls Tryz.prog 186 #[.agg #[.int .i64 k,.string S,.int .i64 w,.int .u64 v,.int .i64 p]] W fun e W'=>e=.returned (.string S)∧Below W.heap.size W W':=by
 go_enter Tryz.func186,Tryz.ntmps186
 go_wp2
 go_ret
 exact ⟨rfl,(Below.refl _ _).alloc (Nat.le_refl _) _⟩
theorem written_plain (p:Int) (S:ByteArray) (v:Nat) (hv:v<18446744073709551616) (W:World) (hB:Base W) :
  Calls Tryz.prog 186 #[.agg #[.int .i64 3,.string S,.int .i64 0,.int .u64 v,.int .i64 p]] W fun e W'=>e=.returned (.string (bs (digL 10 v)))∧Below W.heap.size W W':=by
 have kd:=fun W hB=>fmtd_any v hv W hB
 have KD:=hid kd
 have HB:=hid hB
 have HW:=hid ((Below.refl W.heap.size W).alloc (Nat.le_refl _) (.cells #[.int .i64 3,.string S,.int .i64 0,.int .u64 v,.int .i64 p] 55))
 clear kd hB
 go_enter Tryz.func186,Tryz.ntmps186
 go_wp2_with fail
 refine (KD.out _ (HB.out.alloc _)).mono ?_
 rintro e w' ⟨rfl,hb⟩
 have HV:=hid (HW.out.trans (hb.mono HW.out.size))
 clear hb
 go_wp2
 go_ret
 exact ⟨rfl,HV.out⟩
theorem written_wide (p:Int) (S:ByteArray) (w v:Nat) (hw:1≤w) (hw2:w≤64) (hv:v<18446744073709551616) (W:World) (hB:Base W) :
  Calls Tryz.prog 186 #[.agg #[.int .i64 3,.string S,.int .i64 w,.int .u64 v,.int .i64 p]] W fun e W'=>e=.returned (.string (bs (digL 10 w ++ [39,104] ++ digL 16 v)))∧Below W.heap.size W W':=by
 have B5:=Box5.new W (.int .i64 3) (.string S) (.int .i64 w) (.int .u64 v) (.int .i64 p) 55
 have hW:=(Below.refl W.heap.size W).alloc (Nat.le_refl _) (.cells #[.int .i64 3,.string S,.int .i64 w,.int .u64 v,.int .i64 p] 55)
 have hBX:=hB.alloc (.cells #[.int .i64 3,.string S,.int .i64 w,.int .u64 v,.int .i64 p] 55)
 have hw0:¬ (w:Int)=0:=by omega
 have HBX:=hid hBX
 have HW:=hid hW
 have HB5:=hid B5
 have hl1:=digL_len 10 (by omega) 20 w (by omega) (by omega)
 have hl2:=digL_len 16 (by omega) 16 v (by omega) (by omega)
 have HL1:=hid hl1
 have HL2:=hid hl2
 clear hB B5 hW hBX hl1 hl2
 go_enter Tryz.func186,Tryz.ntmps186
 go_wp2_with fail
 generalize hX:W.alloc (.cells #[.int .i64 3,.string S,.int .i64 w,.int .u64 v,.int .i64 p] 55)=X at *
 have hm:W.heap.size<X.heap.size:=by rw [← hX];simp
 clear hX
 have b2:=cell_regrown HB5.out.c2
 have b3:=cell_regrown HB5.out.c3
 have ci:=fun d os=>Calls.regrown_of ((Tryz.strconv_Itoa_small w (by omega) (grow (redrawn X d) os)).mono fun e W' h=>(⟨h.1,h.2 ▸ Below.refl _ _⟩:e=.returned (.string (bs (Lib.decDigits w)))∧Below (grow (redrawn X d) os).heap.size (grow (redrawn X d) os) W'))
 have cf:=fun d os=>Calls.regrown_of (fmt16_any v hv (grow (redrawn X d) os) (HBX.out.later (below_regrown X d os)))
 rw [dec_dig] at ci
 have hA:(bs (digL 10 w)).size≤20:=HL1.out
 have hF:(bs (digL 16 v)).size≤16:=HL2.out
 have hE:bs (digL 10 w ++ [39,104] ++ digL 16 v)=bs (digL 10 w) ++ ⟨#[39,104]⟩ ++ bs (digL 16 v):=by
  apply ByteArray.ext
  simp [bs]
 have hS:(bs (digL 10 w) ++ (⟨#[39,104]⟩:ByteArray)).size=(bs (digL 10 w)).size+2:=by rw [ByteArray.size_append];rfl
 have HE:=hid hE
 generalize bs (digL 10 w)=A at *
 generalize bs (digL 16 v)=F at *
 clear hE
 refine wp_region_quiet_fast (by kernel_rfl) (by kernel_rfl) (by kernel_rfl) ?_
 try simp only [List.append_eq,List.cons_append,List.nil_append]
 repeat (go_big_quiet_step (first | with_reducible exact ci _ _ | with_reducible exact cf _ _))
 refine wpQuiet_nil ?_
 intro _ hw'
 obtain ⟨⟨dq,osq⟩,hw''⟩:=hw'
 subst hw''
 go_wp2
 go_ret
 exact ⟨by rw [HE.out];rfl,HW.out.trans ((below_regrown X dq osq).mono HW.out.size)⟩
theorem written_any (t:Tok) (ht:checkT t=true) (hv:t.v<two64) (W:World) (hB:Base W) :
  Calls Tryz.prog 186 #[.agg #[.int .i64 t.k,.string (bs t.s),.int .i64 t.w,.int .u64 t.v,.int .i64 t.p]] W fun e W'=>e=.returned (.string (bs (oneT t)))∧Below W.heap.size W W':=by
 obtain ⟨k,s,w,v,p⟩:=t
 have hv':v<18446744073709551616:=hv
 unfold oneT
 simp only
 by_cases hk:k=3
 ·subst hk
  simp only [ne_eq,not_true_eq_false,if_false]
  by_cases hw:w=0
  ·subst hw
   simp only [if_true]
   exact written_plain p (bs s) v hv' W hB
  ·rw [if_neg hw]
   have hf:fitsV w v=true:=by
    simp [checkT,hw] at ht
    exact ht.2.2
   simp only [fitsV,Bool.and_eq_true,decide_eq_true_eq] at hf
   obtain ⟨n,rfl⟩:∃ n:Nat,w=n:=⟨w.toNat,by omega⟩
   exact written_wide p (bs s) n v (by omega) (by omega) hv' W hB
 ·rw [if_pos hk]
  exact written_text k w p (bs s) v hk W
end Go.Proofs.YtlcfpdmicpggbaaGreatDoor
