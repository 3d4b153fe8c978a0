/- Texts of the seat, merged. -/
import Derived.Test.YtlcfpdmicpggbaaGreatDoorD7
set_option linter.unusedVariables false
set_option linter.unusedSimpArgs false
set_option maxRecDepth 100000
set_option maxHeartbeats 16000000
namespace Go.Proofs.Scn
open Go.Lib (hid)
inductive Got where
 | tok (t:Tok) (n:Nat)
 | bad (e:Int)
deriving DecidableEq
theorem takeWhile_le {p:UInt8→Bool} (l:List UInt8):(l.takeWhile p).length≤l.length:=(List.takeWhile_sublist p).length_le
end Go.Proofs.Scn
namespace Go.Proofs.Scn
open Go.Lib (hid)
def signsT:List UInt8:=(loneL.map ([·]) ++ pairsL).flatMap (· ++ [32])
theorem signs_text:cutsF [] signsT=loneL.map ([·]) ++ pairsL:=by decide +kernel
theorem amongR_words (s:List UInt8):amongR wordsT s=isWord s:=by rw [amongR,words_text,isWord]
theorem amongR_signs (s:List UInt8):amongR signsT s=isSign s:=by
 rw [amongR,signs_text,isSign_iff,Bool.eq_iff_iff]
 simp only [List.contains_iff_mem,List.mem_append]
 exact Or.comm
end Go.Proofs.Scn
namespace Go.Proofs.YtlcfpdmicpggbaaGreatDoor
open Go.Lib (hid)
open Go.RowKit Go.Proofs.Scn
theorem refDigit_any (c:UInt8) (W:World):Calls Tryz.prog 225 #[.int .u8 c.toNat] W fun e W'=>e=.returned (.bool (isDigit c))∧W=W':=by
 by_cases h0:48≤(c.toNat:Int)
 all_goals
  go_enter Tryz.func225,Tryz.ntmps225
  go_wp2
  go_ret
  exact ⟨ret_bool (by rw [Bool.eq_iff_iff];simp only [isDigit,Bool.and_eq_true,decide_eq_true_eq,Bool.false_eq_true,false_iff];omega),rfl⟩
theorem refLetter_any (c:UInt8) (W:World):Calls Tryz.prog 212 #[.int .u8 c.toNat] W fun e W'=>e=.returned (.bool (isLetter c))∧W=W':=by
 have fin:∀ b:Bool,(b=true ↔ (c.toNat:Int)=95∨(97≤(c.toNat:Int)∧(c.toNat:Int)≤122)∨(65≤(c.toNat:Int)∧(c.toNat:Int)≤90))→b=isLetter c:=by
  intro b hb
  rw [Bool.eq_iff_iff,hb]
  simp only [isLetter,Bool.or_eq_true,Bool.and_eq_true,decide_eq_true_eq]
  omega
 have Fin:=hid fin
 clear fin
 by_cases h1:97≤(c.toNat:Int)
 ·by_cases h2:(c.toNat:Int)≤122
  ·go_enter Tryz.func212,Tryz.ntmps212
   go_wp2
   go_ret
   exact ⟨ret_bool (Fin.out _ (by simp only [true_iff];omega)),rfl⟩
  ·have h3:decide ((c.toNat:Int)≤90)=false:=by simp only [decide_eq_false_iff_not];omega
   have h4:65≤(c.toNat:Int):=by omega
   have h5:((c.toNat:Int) == 95)=false:=by rw [beq_eq_false_iff_ne];omega
   go_enter Tryz.func212,Tryz.ntmps212
   go_wp2
   go_ret
   exact ⟨ret_bool (Fin.out _ (by simp only [Bool.false_eq_true,false_iff];omega)),rfl⟩
 ·by_cases h3:65≤(c.toNat:Int)
  ·by_cases h4:(c.toNat:Int)≤90
   ·go_enter Tryz.func212,Tryz.ntmps212
    go_wp2
    go_ret
    exact ⟨ret_bool (Fin.out _ (by simp only [true_iff];omega)),rfl⟩
   ·go_enter Tryz.func212,Tryz.ntmps212
    go_wp2
    go_ret
    exact ⟨ret_bool (Fin.out _ (by simp only [beq_iff_eq];omega)),rfl⟩
  ·have h5:((c.toNat:Int) == 95)=false:=by rw [beq_eq_false_iff_ne];omega
   go_enter Tryz.func212,Tryz.ntmps212
   go_wp2
   go_ret
   exact ⟨ret_bool (Fin.out _ (by simp only [Bool.false_eq_true,false_iff];omega)),rfl⟩
end Go.Proofs.YtlcfpdmicpggbaaGreatDoor
namespace Go.Proofs.YtlcfpdmicpggbaaGreatDoor
open Go.Lib (hid)
open Go.RowKit Go.Proofs.Scn
theorem head_from (p:UInt8→Bool) (s:ByteArray) (i:Nat) (hi:i≤s.size):∃ N,N=headN p (s.data.toList.drop i)∧i+N≤s.size∧(∀ k (h:i+k<s.size),k<N→p s[i+k]=true)∧(∀ h:i+N<s.size,p s[i+N]=false):=by
 refine ⟨_,rfl,?_,fun k h hk=>?_,fun h=>?_⟩
 ·have:=headN_le p (s.data.toList.drop i)
  rw [List.length_drop] at this
  have e:s.data.toList.length=s.size:=rfl
  omega
 ·have:=headN_lt hk (by rw [List.length_drop];have e:s.data.toList.length=s.size:=rfl;omega)
  rw [List.getElem_drop] at this
  exact this
 ·have h2:headN p (s.data.toList.drop i)<(s.data.toList.drop i).length:=by
   rw [List.length_drop];have e:s.data.toList.length=s.size:=rfl;omega
  have:=headN_at h2
  rw [List.getElem_drop] at this
  exact this
theorem refRun_any (s:ByteArray) (i:Nat) (hi:i≤s.size) (hs:s.size≤4611686018427387904) (W:World) :
  Calls Tryz.prog 213 #[.string s,.int .i64 i] W fun e W'=>e=.returned (.int .i64 ((headN isPart (s.data.toList.drop i):Nat):Int))∧W=W':=by
 obtain ⟨N,hN,hle,h1,h2⟩:=head_from isPart s i hi
 rw [← hN]
 have H1:=hid h1
 have H2:=hid h2
 clear h1 h2 hN
 go_enter Tryz.func213,Tryz.ntmps213
 go_wp2
 go_loop [5] (fun t=>∃ k:Nat,k≤N∧t=.int .i64 k) (fun t=>s.size - (intOf t).toNat)
 case atStart=>exact ⟨0,Nat.zero_le _,rfl⟩
 case round=>
  obtain ⟨k,hk,rfl⟩:=hrel
  by_cases hlt:k<N
  ·have hks:i+k<s.size:=by omega
   have kl:=refLetter_any s[i+k]
   have kd:=refDigit_any s[i+k]
   rcases part_cases (H1.out k hks hlt) with hl | ⟨hl,hd⟩
   ·rw [hl] at kl
    have KL:=hid kl
    clear kl kd hl
    go_wp2_with (go_at_call 212;refine (KL.out _).mono ?_;rintro e w' ⟨rfl,rfl⟩)
    go_round
    case rel=>exact ⟨k+1,by omega,by go_num⟩
    case measure=>simp [intOf];omega
   ·rw [hl] at kl
    rw [hd] at kd
    have KL:=hid kl
    have KD:=hid kd
    clear kl kd hl hd
    go_wp2_with (first | (go_at_call 212;refine (KL.out _).mono ?_;rintro e w' ⟨rfl,rfl⟩) | (go_at_call 225;refine (KD.out _).mono ?_;rintro e w' ⟨rfl,rfl⟩))
    go_round
    case rel=>exact ⟨k+1,by omega,by go_num⟩
    case measure=>simp [intOf];omega
  ·obtain rfl:k=N:=by omega
   by_cases hks:i+k<s.size
   ·have kl:=refLetter_any s[i+k]
    have kd:=refDigit_any s[i+k]
    obtain ⟨hl,hd⟩:=part_not (H2.out hks)
    rw [hl] at kl
    rw [hd] at kd
    have KL:=hid kl
    have KD:=hid kd
    clear kl kd hl hd
    go_wp2_with (first | (go_at_call 212;refine (KL.out _).mono ?_;rintro e w' ⟨rfl,rfl⟩) | (go_at_call 225;refine (KD.out _).mono ?_;rintro e w' ⟨rfl,rfl⟩))
    go_ret
    exact ⟨rfl,rfl⟩
   ·go_wp2
    go_ret
    exact ⟨rfl,rfl⟩
end Go.Proofs.YtlcfpdmicpggbaaGreatDoor
namespace Go.Proofs.YtlcfpdmicpggbaaGreatDoor
open Go.Lib (hid)
open Go.RowKit Go.Proofs.Scn
theorem takeSucc (l:List UInt8) (k:Nat) (h:k<l.length):l.take (k+1)=l.take k ++ [l[k]]:=by
 rw [List.take_succ_eq_append_getElem h]
theorem cuts_at (l:List UInt8) (f i:Nat) (hf:f≤i) (hi:i<l.length) (done:List (List UInt8)) (h:cutsF [] l=done ++ cutsF ((l.take i).drop f) (l.drop i)) :
  (l[i]=32→cutsF [] l=(done ++ [(l.take i).drop f]) ++ cutsF ((l.take (i+1)).drop (i+1)) (l.drop (i+1))) ∧
  (l[i] ≠ 32→cutsF [] l=done ++ cutsF ((l.take (i+1)).drop f) (l.drop (i+1))):=by
 rw [List.drop_eq_getElem_cons hi] at h
 constructor
 ·intro hc
  rw [h]
  have e:(l.take (i+1)).drop (i+1)=[]:=List.drop_of_length_le (by simp;omega)
  simp only [cutsF,hc,if_true,List.append_assoc,List.singleton_append,e]
 ·intro hc
  rw [h]
  simp only [cutsF,if_neg hc]
  rw [takeSucc l i hi,List.drop_append_of_le_length (by simp;omega)]
theorem refAmong_any (list s:ByteArray) (hl:list.size≤4611686018427387904) (W:World) :
  Calls Tryz.prog 214 #[.string list,.string s] W fun e W'=>e=.returned (.bool (amongR list.data.toList s.data.toList))∧W=W':=by
 have hfin:∀ done,cutsF [] list.data.toList=done→(∀ x ∈ done,x ≠ s.data.toList)→amongR list.data.toList s.data.toList=false:=by
  intro done h1 h2
  unfold amongR
  rw [h1]
  cases h:done.contains s.data.toList
  ·rfl
  ·exact absurd rfl (h2 _ (List.contains_iff_mem.1 h))
 have hyes:∀ done cur rest,cutsF [] list.data.toList=done ++ [cur] ++ rest→cur=s.data.toList→amongR list.data.toList s.data.toList=true:=by
  intro done cur rest h1 h2
  unfold amongR
  rw [h1,h2]
  simp
 have HF:=hid hfin
 have HY:=hid hyes
 have hcut:=cuts_at list.data.toList
 have HC:=hid hcut
 have hll:list.data.toList.length=list.size:=rfl
 have HL:=hid hll
 clear hfin hyes hcut hll
 go_enter Tryz.func214,Tryz.ntmps214
 go_wp2
 go_loop [5,6] (fun f t=>∃ (a k:Nat) (done:List (List UInt8)),a≤k∧k≤list.size∧t=.int .i64 k∧f=.int .i64 a∧Hid (cutsF [] list.data.toList=done ++ cutsF ((list.data.toList.take k).drop a) (list.data.toList.drop k))∧Hid (∀ x ∈ done,x ≠ s.data.toList)) (fun _ t=>list.size - (intOf t).toNat)
 case atStart=>exact ⟨0,0,[],Nat.le_refl _,Nat.zero_le _,rfl,rfl,hid (by simp),hid (by simp)⟩
 case round=>
  obtain ⟨a,k,done,hak,hk,rfl,rfl,hD,hN⟩:=hrel
  by_cases hlt:k<list.size
  ·obtain ⟨c1,c2⟩:=HC.out a k hak (by rw [HL.out];exact hlt) done hD.out
   have hge:list[k]=list.data.toList[k]:=rfl
   by_cases h32:list[k]=32
   ·have hb:((list[k].toNat:Int) == 32)=true:=by rw [h32];rfl
    have C1:=hid (c1 h32)
    clear c1 c2 hge h32
    by_cases heq:(list.data.toList.take k).drop a=s.data.toList
    ·have HQ:=hid heq
     have hex:(list.extract a k).toList == s.toList:=by rw [toList_eq,toList_eq,extract_bs,list_bs,heq];simp
     clear heq
     go_wp2
     go_ret
     exact ⟨ret_bool (HY.out _ _ _ C1.out HQ.out).symm,rfl⟩
    ·have HQ:=hid heq
     have hex:((list.extract a k).toList == s.toList)=false:=by rw [toList_eq,toList_eq,extract_bs,list_bs];simpa using heq
     clear heq
     go_wp2
     go_round
     case rel=>
      refine ⟨k+1,k+1,done ++ [(list.data.toList.take k).drop a],Nat.le_refl _,by omega,by go_num,by go_num,C1,hid fun x hx=>?_⟩
      rcases List.mem_append.1 hx with hx | hx
      ·exact hN.out x hx
      ·rw [List.mem_singleton.1 hx];exact HQ.out
     case measure=>simp [intOf];omega
   ·have hb:((list[k].toNat:Int) == 32)=false:=by
     rw [beq_eq_false_iff_ne]
     intro h
     exact h32 (by rw [← UInt8.toNat_inj];exact Int.ofNat_inj.1 h)
    have C2:=hid (c2 h32)
    clear c1 c2 hge h32
    go_wp2
    go_round
    case rel=>exact ⟨a,k+1,done,by omega,by omega,by go_num,rfl,C2,hN⟩
    case measure=>simp [intOf];omega
  ·obtain rfl:k=list.size:=by omega
   have hfin:amongR list.data.toList s.data.toList=false:=by
    have:=hD.out
    have e:list.data.toList.drop list.size=[]:=List.drop_of_length_le (by rw [HL.out];exact Nat.le_refl _)
    rw [e] at this
    simp only [cutsF,List.append_nil] at this
    exact HF.out done this hN.out
   have HG:=hid hfin
   clear hfin
   go_wp2
   go_ret
   exact ⟨ret_bool HG.out.symm,rfl⟩
theorem refWord_any (s:ByteArray) (W:World) :
  Calls Tryz.prog 188 #[.string s] W fun e W'=>e=.returned (.bool (isWord s.data.toList))∧W=W':=by
 go_enter Tryz.func188,Tryz.ntmps188
 go_wp2_with fail
 refine (refAmong_any _ s (by decide +kernel) _).mono ?_
 rintro e w' ⟨rfl,rfl⟩
 go_wp2
 go_ret
 exact ⟨ret_bool ((congrArg (fun l=>amongR l s.data.toList) (by decide +kernel)).trans (amongR_words _)),rfl⟩
theorem refSign_any (s:ByteArray) (W:World) :
  Calls Tryz.prog 189 #[.string s] W fun e W'=>e=.returned (.bool (isSign s.data.toList))∧W=W':=by
 go_enter Tryz.func189,Tryz.ntmps189
 go_wp2_with fail
 refine (refAmong_any _ s (by decide +kernel) _).mono ?_
 rintro e w' ⟨rfl,rfl⟩
 go_wp2
 go_ret
 exact ⟨ret_bool ((congrArg (fun l=>amongR l s.data.toList) (by decide +kernel)).trans (amongR_signs _)),rfl⟩
theorem refName_any (s:ByteArray) (hs:s.size≤4611686018427387904) (W:World) :
  Calls Tryz.prog 187 #[.string s] W fun e W'=>e=.returned (.bool (isName s.data.toList))∧W=W':=by
 by_cases he:s.data.toList=[]
 ·obtain rfl:=empty_of he
  go_enter Tryz.func187,Tryz.ntmps187
  go_wp2
  go_ret
  exact ⟨rfl,rfl⟩
 ·obtain ⟨c,r,hcr⟩:∃ c r,s.data.toList=c :: r:=List.exists_cons_of_ne_nil he
  obtain ⟨h0,hg⟩:=head_get s c r hcr
  obtain ⟨n1,_,n3,n4,_,n6⟩:=name_cases _ c r hcr
  have hsz:s.data.toList.length=s.size:=rfl
  have kr:=refRun_any s 0 (Nat.zero_le _) hs W
  rw [List.drop_zero] at kr
  have kw:=refWord_any s W
  have kd:=refLetter_any s[0]
  rw [hg] at kd
  by_cases h64:64<s.size
  ·rw [n1 (by omega)]
   have hd:decide ((s.size:Int)≤64)=false:=by simp only [decide_eq_false_iff_not];omega
   clear n1 n3 n4 n6 kr kw kd hsz h64 hcr he
   go_enter Tryz.func187,Tryz.ntmps187
   go_wp2
   go_ret
   exact ⟨rfl,rfl⟩
  ·have hd:(s.size:Int)≤64:=by omega
   cases hdg:isLetter c
   ·rw [n3 hdg]
    rw [hdg,← hg] at kd
    have KD:=hid kd
    clear n1 n3 n4 n6 kr kw kd hsz h64 hcr he hdg hg
    go_enter Tryz.func187,Tryz.ntmps187
    go_wp2_with fail
    refine (KD.out _).mono ?_
    rintro e w' ⟨rfl,rfl⟩
    go_wp2
    go_ret
    exact ⟨rfl,rfl⟩
   ·have kd':=kd
    rw [hdg] at kd'
    have hN:headN isPart s.data.toList=(runL s.data.toList).length:=rfl
    rw [hN] at kr
    by_cases hrun:runL s.data.toList=s.data.toList
    ·rw [n6 (by omega) hdg hrun]
     rw [hrun,hsz] at kr
     rw [← hg] at kd'
     have KD:=hid kd'
     have KR:=hid kr
     generalize isWord s.data.toList=wd at *
     have KW:=hid kw
     clear n1 n3 n4 n6 kr kw kd kd' hsz h64 hcr he hdg hrun hg hN
     go_enter Tryz.func187,Tryz.ntmps187
     go_wp2_with fail
     refine (KD.out _).mono ?_
     rintro e w' ⟨rfl,rfl⟩
     go_wp2_with fail
     refine KR.out.mono ?_
     rintro e w' ⟨rfl,rfl⟩
     go_wp2_with fail
     refine KW.out.mono ?_
     rintro e w' ⟨rfl,rfl⟩
     go_wp2
     go_ret
     exact ⟨rfl,rfl⟩
    ·rw [n4 hrun]
     have hlt:(runL s.data.toList).length<s.size:=by
      have h1:=takeWhile_le (p:=isPart) s.data.toList
      have h2:(runL s.data.toList).length ≠ s.size:=fun h=>hrun (by
       have:=take_takeWhile (p:=isPart) s.data.toList
       have h3:(s.data.toList.takeWhile isPart).length=s.data.toList.length:=h
       rw [h3,List.take_length] at this
       exact this.symm)
      have h4:(runL s.data.toList).length≤s.size:=h1
      omega
     generalize (runL s.data.toList).length=N at *
     have hne:((N:Int) == (s.size:Int))=false:=by rw [beq_eq_false_iff_ne];omega
     rw [← hg] at kd'
     have KD:=hid kd'
     have KR:=hid kr
     clear n1 n3 n4 n6 kr kw kd kd' hsz h64 hcr he hdg hrun hg hN
     go_enter Tryz.func187,Tryz.ntmps187
     go_wp2_with fail
     refine (KD.out _).mono ?_
     rintro e w' ⟨rfl,rfl⟩
     go_wp2_with fail
     refine KR.out.mono ?_
     rintro e w' ⟨rfl,rfl⟩
     go_wp2
     go_ret
     exact ⟨rfl,rfl⟩
end Go.Proofs.YtlcfpdmicpggbaaGreatDoor
namespace Go.Proofs.YtlcfpdmicpggbaaGreatDoor
open Go.Lib (hid)
open Go.RowKit Go.Proofs.Scn
theorem pow_walk (k:Nat) (h:k<64):IntKind.u64.wrap ((2:Int) ^ k)=((2 ^ k:Nat):Int):=by
 have:(2:Nat) ^ k<2 ^ 64:=Nat.pow_lt_pow_right (by omega) h
 have e:((2:Int) ^ k)=((2 ^ k:Nat):Int):=by simp
 rw [e]
 generalize 2 ^ k=t at *
 have e64:(2:Nat) ^ 64=18446744073709551616:=rfl
 rw [e64] at this
 simp only [IntKind.wrap,IntKind.signed,IntKind.bits]
 simp
 omega
theorem refFits_any (w:Int) (v:Nat) (hv:v<18446744073709551616) (W:World) :
  Calls Tryz.prog 190 #[.int .i64 w,.int .u64 v] W fun e W'=>e=.returned (.bool (fitsV w v))∧W=W':=by
 by_cases h64:w=64
 ·subst h64
  have hf:fitsV 64 v=true:=by
   have:=fitsV_nat 64 v
   rw [show ((64:Nat):Int)=64 from rfl] at this
   rw [this]
   simp
   exact hv
  rw [hf]
  go_enter Tryz.func190,Tryz.ntmps190
  go_wp2
  go_ret
  exact ⟨rfl,rfl⟩
 have hd:(w == 64)=false:=by rw [beq_eq_false_iff_ne];exact h64
 by_cases h1:1≤w
 ·by_cases h2:w<64
  ·obtain ⟨k,rfl⟩:∃ k:Nat,w=k:=⟨w.toNat,by omega⟩
   have hf:fitsV (k:Int) v=decide ((v:Int)<IntKind.u64.wrap ((2:Int) ^ k)):=by
    rw [fitsV_nat,decide_eq_true (show 1≤k by omega),decide_eq_true (show k≤64 by omega),pow_walk k (by omega)]
    simp only [Bool.true_and]
    rw [decide_eq_decide]
    omega
   rw [hf]
   clear hf h64
   go_enter Tryz.func190,Tryz.ntmps190
   go_wp2
   go_ret
   exact ⟨rfl,rfl⟩
  ·have hf:fitsV w v=false:=by
    have:¬ w≤64:=by omega
    simp [fitsV,this]
   rw [hf]
   clear h64
   go_enter Tryz.func190,Tryz.ntmps190
   go_wp2
   go_ret
   exact ⟨rfl,rfl⟩
 ·have hf:fitsV w v=false:=by simp [fitsV,h1]
  rw [hf]
  clear h64
  go_enter Tryz.func190,Tryz.ntmps190
  go_wp2
  go_ret
  exact ⟨rfl,rfl⟩
theorem refCheck_calls (w:Int) (s:ByteArray) (v:Nat) (hs:s.size≤4611686018427387904) (hv:v<18446744073709551616) (W:World) (hB:Base W) :
  (∀ o,Calls Tryz.prog 187 #[.string s] (W.alloc o) fun e W'=>e=.returned (.bool (isName s.data.toList))∧W.alloc o=W') ∧
  (∀ o,Calls Tryz.prog 188 #[.string s] (W.alloc o) fun e W'=>e=.returned (.bool (isWord s.data.toList))∧W.alloc o=W') ∧
  (∀ o,Calls Tryz.prog 189 #[.string s] (W.alloc o) fun e W'=>e=.returned (.bool (isSign s.data.toList))∧W.alloc o=W') ∧
  (∀ o,Calls Tryz.prog 190 #[.int .i64 w,.int .u64 v] (W.alloc o) fun e W'=>e=.returned (.bool (fitsV w v))∧W.alloc o=W'):=
 ⟨fun o=>refName_any s hs _,fun o=>refWord_any s _,fun o=>refSign_any s _,fun o=>refFits_any w v hv _⟩
theorem refCheck_np (p:Int) (s:ByteArray) (b:Bool) (W:World) (hbel:∀ o,Below W.heap.size W (W.alloc o)) (kc:∀ o,Calls Tryz.prog 187 #[.string s] (W.alloc o) fun e W'=>e=.returned (.bool b)∧W.alloc o=W') :
  Calls Tryz.prog 128 #[.agg #[.int .i64 1,.string s,.int .i64 0,.int .u64 0,.int .i64 p]] W fun e W'=>e=.returned (.int .i64 (errB (b && decide (0≤p))))∧Below W.heap.size W W':=by
 have HB:=hid hbel
 clear hbel
 have KC:=hid kc
 clear kc
 by_cases hp:0≤p
 all_goals
  cases b
  all_goals
   go_enter Tryz.func128,Tryz.ntmps128
   go_wp2_with fail
   refine (KC.out _).mono ?_
   rintro e w' ⟨rfl,rfl⟩
   go_wp2
   go_ret
   exact ⟨ret_int (by simp [errB];try omega),HB.out _⟩
theorem refCheck_nw (w p:Int) (s:ByteArray) (v:Nat) (hw:w ≠ 0) (W:World) (hbel:∀ o,Below W.heap.size W (W.alloc o)) :
  Calls Tryz.prog 128 #[.agg #[.int .i64 1,.string s,.int .i64 w,.int .u64 v,.int .i64 p]] W fun e W'=>e=.returned (.int .i64 (errB (false && decide (0≤p))))∧Below W.heap.size W W':=by
 have hw':(w == 0)=false:=by rw [beq_eq_false_iff_ne];exact hw
 clear hw
 have HB:=hid hbel
 clear hbel
 by_cases hp:0≤p
 all_goals
  go_enter Tryz.func128,Tryz.ntmps128
  go_wp2
  go_ret
  exact ⟨ret_int (by simp [errB];try omega),HB.out _⟩
theorem refCheck_nv (p:Int) (s:ByteArray) (v:Nat) (hv:v ≠ 0) (W:World) (hbel:∀ o,Below W.heap.size W (W.alloc o)) :
  Calls Tryz.prog 128 #[.agg #[.int .i64 1,.string s,.int .i64 0,.int .u64 v,.int .i64 p]] W fun e W'=>e=.returned (.int .i64 (errB (false && decide (0≤p))))∧Below W.heap.size W W':=by
 have hv':((v:Int) == 0)=false:=by rw [beq_eq_false_iff_ne];omega
 clear hv
 have HB:=hid hbel
 clear hbel
 by_cases hp:0≤p
 all_goals
  go_enter Tryz.func128,Tryz.ntmps128
  go_wp2
  go_ret
  exact ⟨ret_int (by simp [errB];try omega),HB.out _⟩
theorem refCheck_wp (p:Int) (s:ByteArray) (b:Bool) (W:World) (hbel:∀ o,Below W.heap.size W (W.alloc o)) (kc:∀ o,Calls Tryz.prog 188 #[.string s] (W.alloc o) fun e W'=>e=.returned (.bool b)∧W.alloc o=W') :
  Calls Tryz.prog 128 #[.agg #[.int .i64 2,.string s,.int .i64 0,.int .u64 0,.int .i64 p]] W fun e W'=>e=.returned (.int .i64 (errB (b && decide (0≤p))))∧Below W.heap.size W W':=by
 have HB:=hid hbel
 clear hbel
 have KC:=hid kc
 clear kc
 by_cases hp:0≤p
 all_goals
  cases b
  all_goals
   go_enter Tryz.func128,Tryz.ntmps128
   go_wp2_with fail
   refine (KC.out _).mono ?_
   rintro e w' ⟨rfl,rfl⟩
   go_wp2
   go_ret
   exact ⟨ret_int (by simp [errB];try omega),HB.out _⟩
theorem refCheck_ww (w p:Int) (s:ByteArray) (v:Nat) (hw:w ≠ 0) (W:World) (hbel:∀ o,Below W.heap.size W (W.alloc o)) :
  Calls Tryz.prog 128 #[.agg #[.int .i64 2,.string s,.int .i64 w,.int .u64 v,.int .i64 p]] W fun e W'=>e=.returned (.int .i64 (errB (false && decide (0≤p))))∧Below W.heap.size W W':=by
 have hw':(w == 0)=false:=by rw [beq_eq_false_iff_ne];exact hw
 clear hw
 have HB:=hid hbel
 clear hbel
 by_cases hp:0≤p
 all_goals
  go_enter Tryz.func128,Tryz.ntmps128
  go_wp2
  go_ret
  exact ⟨ret_int (by simp [errB];try omega),HB.out _⟩
theorem refCheck_wv (p:Int) (s:ByteArray) (v:Nat) (hv:v ≠ 0) (W:World) (hbel:∀ o,Below W.heap.size W (W.alloc o)) :
  Calls Tryz.prog 128 #[.agg #[.int .i64 2,.string s,.int .i64 0,.int .u64 v,.int .i64 p]] W fun e W'=>e=.returned (.int .i64 (errB (false && decide (0≤p))))∧Below W.heap.size W W':=by
 have hv':((v:Int) == 0)=false:=by rw [beq_eq_false_iff_ne];omega
 clear hv
 have HB:=hid hbel
 clear hbel
 by_cases hp:0≤p
 all_goals
  go_enter Tryz.func128,Tryz.ntmps128
  go_wp2
  go_ret
  exact ⟨ret_int (by simp [errB];try omega),HB.out _⟩
theorem refCheck_sp (p:Int) (s:ByteArray) (b:Bool) (W:World) (hbel:∀ o,Below W.heap.size W (W.alloc o)) (kc:∀ o,Calls Tryz.prog 189 #[.string s] (W.alloc o) fun e W'=>e=.returned (.bool b)∧W.alloc o=W') :
  Calls Tryz.prog 128 #[.agg #[.int .i64 4,.string s,.int .i64 0,.int .u64 0,.int .i64 p]] W fun e W'=>e=.returned (.int .i64 (errB (b && decide (0≤p))))∧Below W.heap.size W W':=by
 have HB:=hid hbel
 clear hbel
 have KC:=hid kc
 clear kc
 by_cases hp:0≤p
 all_goals
  cases b
  all_goals
   go_enter Tryz.func128,Tryz.ntmps128
   go_wp2_with fail
   refine (KC.out _).mono ?_
   rintro e w' ⟨rfl,rfl⟩
   go_wp2
   go_ret
   exact ⟨ret_int (by simp [errB];try omega),HB.out _⟩
theorem refCheck_sw (w p:Int) (s:ByteArray) (v:Nat) (hw:w ≠ 0) (W:World) (hbel:∀ o,Below W.heap.size W (W.alloc o)) :
  Calls Tryz.prog 128 #[.agg #[.int .i64 4,.string s,.int .i64 w,.int .u64 v,.int .i64 p]] W fun e W'=>e=.returned (.int .i64 (errB (false && decide (0≤p))))∧Below W.heap.size W W':=by
 have hw':(w == 0)=false:=by rw [beq_eq_false_iff_ne];exact hw
 clear hw
 have HB:=hid hbel
 clear hbel
 by_cases hp:0≤p
 all_goals
  go_enter Tryz.func128,Tryz.ntmps128
  go_wp2
  go_ret
  exact ⟨ret_int (by simp [errB];try omega),HB.out _⟩
theorem refCheck_sv (p:Int) (s:ByteArray) (v:Nat) (hv:v ≠ 0) (W:World) (hbel:∀ o,Below W.heap.size W (W.alloc o)) :
  Calls Tryz.prog 128 #[.agg #[.int .i64 4,.string s,.int .i64 0,.int .u64 v,.int .i64 p]] W fun e W'=>e=.returned (.int .i64 (errB (false && decide (0≤p))))∧Below W.heap.size W W':=by
 have hv':((v:Int) == 0)=false:=by rw [beq_eq_false_iff_ne];omega
 clear hv
 have HB:=hid hbel
 clear hbel
 by_cases hp:0≤p
 all_goals
  go_enter Tryz.func128,Tryz.ntmps128
  go_wp2
  go_ret
  exact ⟨ret_int (by simp [errB];try omega),HB.out _⟩
theorem refCheck_fsw (p:Int) (s:ByteArray) (hs:s.data.toList ≠ []) (w:Int) (v:Nat) (hw:w ≠ 0) (W:World) (hbel:∀ o,Below W.heap.size W (W.alloc o)) :
  Calls Tryz.prog 128 #[.agg #[.int .i64 3,.string s,.int .i64 w,.int .u64 v,.int .i64 p]] W fun e W'=>e=.returned (.int .i64 (errB (false && decide (0≤p))))∧Below W.heap.size W W':=by
 have hs1:s.toList.isEmpty=false:=by rw [toList_eq];simpa using hs
 have hs2:¬ s.toList=[]:=by rw [toList_eq];exact hs
 clear hs
 have hw':(w == 0)=false:=by rw [beq_eq_false_iff_ne];exact hw
 clear hw
 have HB:=hid hbel
 clear hbel
 by_cases hp:0≤p
 all_goals
  go_enter Tryz.func128,Tryz.ntmps128
  go_wp2
  go_ret
  exact ⟨ret_int (by simp [errB];try omega),HB.out _⟩
theorem refCheck_few (p:Int) (b:Bool) (w:Int) (v:Nat) (hw:w ≠ 0) (W:World) (hbel:∀ o,Below W.heap.size W (W.alloc o)) (kc:∀ o,Calls Tryz.prog 190 #[.int .i64 w,.int .u64 v] (W.alloc o) fun e W'=>e=.returned (.bool b)∧W.alloc o=W') :
  Calls Tryz.prog 128 #[.agg #[.int .i64 3,.string ⟨#[]⟩,.int .i64 w,.int .u64 v,.int .i64 p]] W fun e W'=>e=.returned (.int .i64 (errB (b && decide (0≤p))))∧Below W.heap.size W W':=by
 have hw':(w == 0)=false:=by rw [beq_eq_false_iff_ne];exact hw
 clear hw
 have HB:=hid hbel
 clear hbel
 have KC:=hid kc
 clear kc
 by_cases hp:0≤p
 all_goals
  cases b
  all_goals
   go_enter Tryz.func128,Tryz.ntmps128
   go_wp2_with fail
   refine (KC.out _).mono ?_
   rintro e w' ⟨rfl,rfl⟩
   go_wp2
   go_ret
   exact ⟨ret_int (by simp [errB];try omega),HB.out _⟩
theorem refCheck_fsv (p:Int) (s:ByteArray) (hs:s.data.toList ≠ []) (v:Nat) (hv:v ≠ 0) (W:World) (hbel:∀ o,Below W.heap.size W (W.alloc o)) :
  Calls Tryz.prog 128 #[.agg #[.int .i64 3,.string s,.int .i64 0,.int .u64 v,.int .i64 p]] W fun e W'=>e=.returned (.int .i64 (errB (false && decide (0≤p))))∧Below W.heap.size W W':=by
 have hs1:s.toList.isEmpty=false:=by rw [toList_eq];simpa using hs
 have hs2:¬ s.toList=[]:=by rw [toList_eq];exact hs
 clear hs
 have hv':((v:Int) == 0)=false:=by rw [beq_eq_false_iff_ne];omega
 clear hv
 have HB:=hid hbel
 clear hbel
 by_cases hp:0≤p
 all_goals
  go_enter Tryz.func128,Tryz.ntmps128
  go_wp2
  go_ret
  exact ⟨ret_int (by simp [errB];try omega),HB.out _⟩
theorem refCheck_fev (p:Int) (v:Nat) (hv:v ≠ 0) (W:World) (hbel:∀ o,Below W.heap.size W (W.alloc o)) :
  Calls Tryz.prog 128 #[.agg #[.int .i64 3,.string ⟨#[]⟩,.int .i64 0,.int .u64 v,.int .i64 p]] W fun e W'=>e=.returned (.int .i64 (errB (true && decide (0≤p))))∧Below W.heap.size W W':=by
 have hv':((v:Int) == 0)=false:=by rw [beq_eq_false_iff_ne];omega
 clear hv
 have HB:=hid hbel
 clear hbel
 by_cases hp:0≤p
 all_goals
  go_enter Tryz.func128,Tryz.ntmps128
  go_wp2
  go_ret
  exact ⟨ret_int (by simp [errB];try omega),HB.out _⟩
theorem refCheck_fsp (p:Int) (s:ByteArray) (hs:s.data.toList ≠ []) (W:World) (hbel:∀ o,Below W.heap.size W (W.alloc o)) :
  Calls Tryz.prog 128 #[.agg #[.int .i64 3,.string s,.int .i64 0,.int .u64 0,.int .i64 p]] W fun e W'=>e=.returned (.int .i64 (errB (false && decide (0≤p))))∧Below W.heap.size W W':=by
 have hs1:s.toList.isEmpty=false:=by rw [toList_eq];simpa using hs
 have hs2:¬ s.toList=[]:=by rw [toList_eq];exact hs
 clear hs
 have HB:=hid hbel
 clear hbel
 by_cases hp:0≤p
 all_goals
  go_enter Tryz.func128,Tryz.ntmps128
  go_wp2
  go_ret
  exact ⟨ret_int (by simp [errB];try omega),HB.out _⟩
theorem refCheck_fep (p:Int) (W:World) (hbel:∀ o,Below W.heap.size W (W.alloc o)) :
  Calls Tryz.prog 128 #[.agg #[.int .i64 3,.string ⟨#[]⟩,.int .i64 0,.int .u64 0,.int .i64 p]] W fun e W'=>e=.returned (.int .i64 (errB (true && decide (0≤p))))∧Below W.heap.size W W':=by
 have HB:=hid hbel
 clear hbel
 by_cases hp:0≤p
 all_goals
  go_enter Tryz.func128,Tryz.ntmps128
  go_wp2
  go_ret
  exact ⟨ret_int (by simp [errB];try omega),HB.out _⟩
theorem refCheck_op (p:Int) (s:ByteArray) (k:Int) (h1:k ≠ 1) (h2:k ≠ 2) (h3:k ≠ 3) (h4:k ≠ 4) (W:World) (hbel:∀ o,Below W.heap.size W (W.alloc o)) :
  Calls Tryz.prog 128 #[.agg #[.int .i64 k,.string s,.int .i64 0,.int .u64 0,.int .i64 p]] W fun e W'=>e=.returned (.int .i64 (errB (false && decide (0≤p))))∧Below W.heap.size W W':=by
 have q1:(k == 1)=false:=by rw [beq_eq_false_iff_ne];exact h1
 have q2:(k == 2)=false:=by rw [beq_eq_false_iff_ne];exact h2
 have q3:(k == 3)=false:=by rw [beq_eq_false_iff_ne];exact h3
 have q4:(k == 4)=false:=by rw [beq_eq_false_iff_ne];exact h4
 clear h1 h2 h3 h4
 have HB:=hid hbel
 clear hbel
 by_cases hp:0≤p
 all_goals
  go_enter Tryz.func128,Tryz.ntmps128
  go_wp2
  go_ret
  exact ⟨ret_int (by simp [errB];try omega),HB.out _⟩
theorem refCheck_ow (p:Int) (s:ByteArray) (k:Int) (h1:k ≠ 1) (h2:k ≠ 2) (h3:k ≠ 3) (h4:k ≠ 4) (w:Int) (v:Nat) (hw:w ≠ 0) (W:World) (hbel:∀ o,Below W.heap.size W (W.alloc o)) :
  Calls Tryz.prog 128 #[.agg #[.int .i64 k,.string s,.int .i64 w,.int .u64 v,.int .i64 p]] W fun e W'=>e=.returned (.int .i64 (errB (false && decide (0≤p))))∧Below W.heap.size W W':=by
 have q1:(k == 1)=false:=by rw [beq_eq_false_iff_ne];exact h1
 have q2:(k == 2)=false:=by rw [beq_eq_false_iff_ne];exact h2
 have q3:(k == 3)=false:=by rw [beq_eq_false_iff_ne];exact h3
 have q4:(k == 4)=false:=by rw [beq_eq_false_iff_ne];exact h4
 clear h1 h2 h3 h4
 have hw':(w == 0)=false:=by rw [beq_eq_false_iff_ne];exact hw
 clear hw
 have HB:=hid hbel
 clear hbel
 by_cases hp:0≤p
 all_goals
  go_enter Tryz.func128,Tryz.ntmps128
  go_wp2
  go_ret
  exact ⟨ret_int (by simp [errB];try omega),HB.out _⟩
theorem refCheck_ov (p:Int) (s:ByteArray) (k:Int) (h1:k ≠ 1) (h2:k ≠ 2) (h3:k ≠ 3) (h4:k ≠ 4) (v:Nat) (hv:v ≠ 0) (W:World) (hbel:∀ o,Below W.heap.size W (W.alloc o)) :
  Calls Tryz.prog 128 #[.agg #[.int .i64 k,.string s,.int .i64 0,.int .u64 v,.int .i64 p]] W fun e W'=>e=.returned (.int .i64 (errB (false && decide (0≤p))))∧Below W.heap.size W W':=by
 have q1:(k == 1)=false:=by rw [beq_eq_false_iff_ne];exact h1
 have q2:(k == 2)=false:=by rw [beq_eq_false_iff_ne];exact h2
 have q3:(k == 3)=false:=by rw [beq_eq_false_iff_ne];exact h3
 have q4:(k == 4)=false:=by rw [beq_eq_false_iff_ne];exact h4
 clear h1 h2 h3 h4
 have hv':((v:Int) == 0)=false:=by rw [beq_eq_false_iff_ne];omega
 clear hv
 have HB:=hid hbel
 clear hbel
 by_cases hp:0≤p
 all_goals
  go_enter Tryz.func128,Tryz.ntmps128
  go_wp2
  go_ret
  exact ⟨ret_int (by simp [errB];try omega),HB.out _⟩
theorem refCheck_any (k w p:Int) (s:ByteArray) (v:Nat) (hs:s.size≤4611686018427387904) (hv:v<18446744073709551616) (W:World) (hB:Base W) :
  Calls Tryz.prog 128 #[.agg #[.int .i64 k,.string s,.int .i64 w,.int .u64 v,.int .i64 p]] W fun e W'=>e=.returned (.int .i64 (errB (checkT ⟨k,s.data.toList,w,v,p⟩)))∧Below W.heap.size W W':=by
 have hb:∀ o,Below W.heap.size W (W.alloc o):=fun o=>(Below.refl _ _).alloc (Nat.le_refl _) _
 obtain ⟨kn,kw,ks,kf⟩:=refCheck_calls w s v hs hv W hB
 have put:∀ {b:Bool},(checkT ⟨k,s.data.toList,w,v,p⟩=(b && decide (0≤p)))→Calls Tryz.prog 128 #[.agg #[.int .i64 k,.string s,.int .i64 w,.int .u64 v,.int .i64 p]] W (fun e W'=>e=.returned (.int .i64 (errB (b && decide (0≤p))))∧Below W.heap.size W W') →
   Calls Tryz.prog 128 #[.agg #[.int .i64 k,.string s,.int .i64 w,.int .u64 v,.int .i64 p]] W fun e W'=>e=.returned (.int .i64 (errB (checkT ⟨k,s.data.toList,w,v,p⟩)))∧Below W.heap.size W W':=fun h1 h2=>by rw [h1];exact h2
 by_cases h1:k=1
 ·subst h1
  by_cases hw:w=0
  ·subst hw
   by_cases hz:v=0
   ·subst hz
    exact put (by simp [checkT,Bool.and_comm]) (refCheck_np p s _ W hb kn)
   ·exact put (by simp [checkT,hz]) (refCheck_nv p s v hz W hb)
  ·exact put (by simp [checkT,hw]) (refCheck_nw w p s v hw W hb)
 by_cases h2:k=2
 ·subst h2
  by_cases hw:w=0
  ·subst hw
   by_cases hz:v=0
   ·subst hz
    exact put (by simp [checkT,Bool.and_comm]) (refCheck_wp p s _ W hb kw)
   ·exact put (by simp [checkT,hz]) (refCheck_wv p s v hz W hb)
  ·exact put (by simp [checkT,hw]) (refCheck_ww w p s v hw W hb)
 by_cases h4:k=4
 ·subst h4
  by_cases hw:w=0
  ·subst hw
   by_cases hz:v=0
   ·subst hz
    exact put (by simp [checkT,Bool.and_comm]) (refCheck_sp p s _ W hb ks)
   ·exact put (by simp [checkT,hz]) (refCheck_sv p s v hz W hb)
  ·exact put (by simp [checkT,hw]) (refCheck_sw w p s v hw W hb)
 by_cases h3:k=3
 ·subst h3
  by_cases he:s.data.toList=[]
  ·obtain rfl:=empty_of he
   by_cases hw:w=0
   ·subst hw
    by_cases hz:v=0
    ·subst hz
     exact put (by simp [checkT]) (refCheck_fep p W hb)
    ·exact put (by simp [checkT]) (refCheck_fev p v hz W hb)
   ·have hw':(w == 0)=false:=by simpa using hw
    exact put (by simp [checkT,hw',Bool.and_comm]) (refCheck_few p _ w v hw W hb kf)
  ·have he':s.data.toList.isEmpty=false:=by simpa using he
   by_cases hw:w=0
   ·subst hw
    by_cases hz:v=0
    ·subst hz
     exact put (by unfold checkT;rw [he'];simp) (refCheck_fsp p s he W hb)
    ·exact put (by unfold checkT;rw [he'];simp) (refCheck_fsv p s he v hz W hb)
   ·exact put (by unfold checkT;rw [he'];simp) (refCheck_fsw p s he w v hw W hb)
 ·have hc:checkT ⟨k,s.data.toList,w,v,p⟩=(false && decide (0≤p)):=by simp [checkT,h1,h2,h3,h4]
  by_cases hw:w=0
  ·subst hw
   by_cases hz:v=0
   ·subst hz
    exact put hc (refCheck_op p s k h1 h2 h3 h4 W hb)
   ·exact put hc (refCheck_ov p s k h1 h2 h3 h4 v hz W hb)
  ·exact put hc (refCheck_ow p s k h1 h2 h3 h4 w v hw W hb)
end Go.Proofs.YtlcfpdmicpggbaaGreatDoor
namespace Go.Proofs.YtlcfpdmicpggbaaGreatDoor
open Go.Lib (hid)
open Go.RowKit Go.Proofs.Scn Go.Flow Go.Sort
theorem cellsTs_length (ts:List Tok):(cellsTs ts).length=ts.length * 5:=by
 induction ts with
 | nil=>rfl
 | cons t ts ih=>rw [cellsTs,List.flatMap_cons,List.length_append,show (List.flatMap cellsT ts)=cellsTs ts from rfl,ih,List.length_cons];simp [cellsT];omega
end Go.Proofs.YtlcfpdmicpggbaaGreatDoor
namespace Go.Proofs.Scn
open Go.Lib (hid)
def shiftT (d:Nat) (t:Tok):Tok:={ t with p:=t.p+d }
end Go.Proofs.Scn
namespace Go.Proofs.YtlcfpdmicpggbaaGreatDoor
open Go.Lib (hid)
open Go.RowKit Go.Proofs.Scn Go.Flow Go.Sort
theorem cellsB_one (l:List UInt8):∀ u ∈ cellsB l,u.oneCell'=true:=by
 intro u hu
 simp only [cellsB,List.mem_map] at hu
 obtain ⟨c,_,rfl⟩:=hu
 rfl
theorem wpList_append_src {w:World} {ops:Array Oper} {rest:List Oper} {o:Oper} {a:Act} {Q:Exit→Act→World→Prop} (hgd:o.guard=none) (s x:Operand)
  (ho:o.op=.call { callee:=.builtin .append,args:=#[s,x],argTypes:=#[44,44] })
  (base:Nat) (v:Value) (L l:List UInt8) (hs:a.eval s=v) (hown:OwnB base w v L) (y:Value) (hx:a.eval x=y) (hsrc:Src w y l)
  (h63:L.length+l.length≤140737488355328) (hbase:base≤w.heap.size)
  (h:∀ v' w',OwnB base w' v' (L ++ l)→w.grownBy w' v.ownBlock→wpList Tryz.prog ops Q rest (a.put o.dst v') w'):wpList Tryz.prog ops Q (o :: rest) a w:=by
 obtain ⟨i0,hi,hz0,hz1,hz2⟩:=info_parts byteInfo
 rcases hsrc with ⟨rfl,rfl⟩ | ⟨ad,c,rfl,hc⟩
 ·refine wpList_append_own_none hgd s x 44 ho base 5 i0 1 byteSlice hi v L.length (cellsB L) hs hown hx ?_
  refine h v w (by rw [List.append_nil];exact hown) ?_
  exact ⟨rfl,rfl,rfl,Nat.le_refl _,fun k _ _=>rfl⟩
 ·refine wpList_append_own w hgd s x 44 ho base 5 i0 (.int .u8 0) 1 1 byteSlice hi hz0 hz1 hz2 rfl (by decide) v L.length (cellsB L) hs hown ad l.length c (cellsB l) hx (by rw [cellsB_length];omega) hc (cellsB_one l) (by unfold maxLen;omega) (by omega) hbase ?_
  intro v' w' h1 h2 _
  refine h v' w' ?_ h2
  unfold OwnB
  rw [List.length_append,show cellsB (L ++ l)=cellsB L ++ cellsB l from List.map_append]
  exact h1
end Go.Proofs.YtlcfpdmicpggbaaGreatDoor
namespace Go.Proofs.Spl
open Go.Lib (hid)
open Go.Proofs.Scn
def Itm.tok (i:Itm):List Tok:=if i.b then parT (exprT i.x) else exprT i.x
end Go.Proofs.Spl
