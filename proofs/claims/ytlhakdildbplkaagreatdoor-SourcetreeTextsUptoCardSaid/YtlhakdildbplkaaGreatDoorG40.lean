/- Part of the claim: its words. -/
import Derived.Test.YtlhakdildbplkaaGreatDoorG39
set_option maxRecDepth 100000
set_option maxHeartbeats 4000000
namespace Go.Proofs.YtlhakdildbplkaaGreatDoor
set_option linter.unusedSimpArgs false
set_option linter.unusedVariables false
open Go.RowKit
theorem tail_list {s:ByteArray} (h:0 < s.size):(s.extract 1 s.size).data.toList=s.data.toList.drop 1:=by
 rw [←ByteArray.toList_eq,Lib.extract_toList,List.take_of_length_le]
 rw [List.length_drop]
 exact Nat.le_refl _
theorem head_list {s:ByteArray} (h:0 < s.size):s.data.toList=s[0]'h :: s.data.toList.drop 1:=by
 have hll:0 < s.data.toList.length:=by rw [Array.length_toList];exact h
 conv=>lhs;rw [←List.drop_zero (l:=s.data.toList),List.drop_eq_getElem_cons hll]
 rfl
theorem drop_list {s:ByteArray} {k:Nat} (h:k < s.size):s.data.toList.drop k=s[k]'h :: s.data.toList.drop (k+1):=by
 have hll:k < s.data.toList.length:=by rw [Array.length_toList];exact h
 rw [List.drop_eq_getElem_cons hll]
 rfl
theorem numV_minus (s:List UInt8):numV (45 :: s)=numS true s:=rfl
theorem numV_else {s:List UInt8} (h:s.head? ≠ some 45):numV s=numS false s:=by
 unfold numV
 split
 ·exact absurd rfl h
 ·rfl
def badN (ng:Bool) (s:List UInt8):Bool:=decide (s.length < 1∨19 < s.length∨(s.head? = some 48∧(1 < s.length∨ng=true)))
def restN (ng:Bool):Option Int→Option Int
 | none=>none
 | some n=>if ng then some n else if n = -9223372036854775808 then none else some (-n)
theorem numS_bad {ng:Bool} {s:List UInt8} (h:badN ng s=true):numS ng s=none:=by
 unfold numS
 rw [if_pos (of_decide_eq_true h)]
theorem numS_ok {ng:Bool} {s:List UInt8} (h:badN ng s=false):numS ng s=restN ng (numR 0 s):=by
 unfold numS
 rw [if_neg (of_decide_eq_false h)]
 cases numR 0 s <;> rfl
theorem numR_cons {n:Int} {c:UInt8} {r:List UInt8} (h:digB c=true):numR n (c :: r)=if -9223372036854775808≤n*10 - ((c.toNat - 48:Nat):Int) then numR (n*10 - ((c.toNat - 48:Nat):Int)) r else none:=by
 rw [numR,if_pos h]
theorem numR_no {n:Int} {c:UInt8} {r:List UInt8} (h:digB c=false):numR n (c :: r)=none:=by
 rw [numR,h];rfl
theorem quo_ten {d:Nat} (hd:d≤9):Int.tdiv (-9223372036854775808+(d:Int)) 10 = -((9223372036854775808 - (d:Int)) / 10):=by
 rw [show(-9223372036854775808+(d:Int)) = -(9223372036854775808 - (d:Int)) by omega,Int.neg_tdiv,Int.tdiv_eq_ediv_of_nonneg (by omega)]
def NumA (s:ByteArray) (w:World) (e:Ending) (w':World):Prop:=∃n ok,e=.returned (.tuple #[.int .i64 n,.bool ok])∧(ok=true→numW s=some n)∧(ok=false→numW s=none)∧Below w.heap.size w w'
theorem rnumber_any (s:ByteArray) (hs:s.size≤1000000) (w:World):Calls Tryz.prog 139 #[.string s] w (NumA s w):=by
 have HV:=hide (numV_is s)
 have hsl:s.data.toList.length=s.size:=Array.length_toList
 have HL:Live w []:=trivial
 go_enter Tryz.func139,Tryz.ntmps139
 obtain⟨B,hB⟩:∃B,decide (s.data.toList.head? = some 45)=B:=⟨_,rfl⟩
 have HB:=hide hB
 go_upto_region 3 with fail
 go_cut [17] (fun b wx=>b=.bool B∧w=wx)
 case first=>
  rcases Nat.eq_zero_or_pos s.size with h0 | h0
  ·have hb1:B=false:=by rw [←hB,List.length_eq_zero_iff.1 (hsl.trans h0)];rfl
   clear hsl hB
   subst hb1
   go_wp2_with fail
   go_meet
   exact⟨rfl,rfl⟩
  ·have HL:=hide (head_list h0)
   by_cases hc:s[0]'h0=45
   ·have hcb:(((s[0]'h0).toNat:Int) == 45)=true:=by rw [hc];rfl
    have hb1:B=true:=by rw [←hB];exact decide_eq_true (by rw [HL.out,hc];rfl)
    clear hc hsl hB
    subst hb1
    go_wp2_with fail
    go_meet
    exact⟨rfl,rfl⟩
   ·have hcb:(((s[0]'h0).toNat:Int) == 45)=false:=by
     rw [beq_eq_false_iff_ne];intro h;exact hc (UInt8.toNat_inj.1 (by simpa using (show((s[0]'h0).toNat)=45 by omega)))
    have hb1:B=false:=by rw [←hB];exact decide_eq_false (by rw [HL.out];intro h;injection h with h;exact hc h)
    clear hc hsl hB
    subst hb1
    go_wp2_with fail
    go_meet
    exact⟨rfl,rfl⟩
 case rest=>
 obtain⟨rfl,rfl⟩:=hcut
 clear hB
 go_upto_if 17 with fail
 go_cut [4,5] (fun sv nv wx=>∃(S:ByteArray) (ng:Bool),sv=.string S∧nv=.bool ng∧w=wx∧numV s.data.toList=numS ng S.data.toList∧S.size≤1000000)
 case first=>
  cases B
  ·have HN:=hide (show numV s.data.toList=numS false s.data.toList from numV_else (of_decide_eq_false HB.out))
   clear hsl HB
   go_wp2_with fail
   go_meet
   exact⟨s,false,rfl,rfl,rfl,HN.out,hs⟩
  ·have h0:0 < s.size:=by
    rcases Nat.eq_zero_or_pos s.size with h0 | h0
    ·have:=of_decide_eq_true HB.out
     rw [List.length_eq_zero_iff.1 (hsl.trans h0)] at this
     cases this
    ·exact h0
   have HL:=hide (head_list h0)
   have HT:=hide (tail_list h0)
   have hc:s[0]'h0=45:=by
    have:=of_decide_eq_true HB.out
    rw [HL.out] at this
    injection this
   have HN:=hide (show numV s.data.toList=numS true (s.extract 1 s.size).data.toList by
    rw [HT.out]
    have e:=HL.out
    rw [hc] at e
    exact(congrArg numV e).trans (numV_minus _))
   have hz1:(s.extract 1 s.size).size≤1000000:=by rw [ByteArray.size_extract];omega
   clear hc hsl HB
   go_wp2_with fail
   go_meet
   exact⟨_,true,rfl,rfl,rfl,HN.out,hz1⟩
 case rest=>
 obtain⟨S,ng,rfl,rfl,rfl,hnv,hS⟩:=hcut
 rw [HV.out] at hnv
 have HNV:=hide hnv
 have hSl:S.data.toList.length=S.size:=Array.length_toList
 clear hnv HV hsl hs
 obtain⟨bad,hbad⟩:∃b,badN ng S.data.toList=b:=⟨_,rfl⟩
 have HBAD:=hide hbad
 have hbd:decide (S.size < 1∨19 < S.size∨(S.data.toList.head? = some 48∧(1 < S.size∨ng=true)))=bad:=by rw [←hbad,←hSl];rfl
 clear hbad
 go_upto_region 6 with fail
 go_cut [40] (fun b wx=>b=.bool bad∧w=wx)
 case first=>
  rcases Nat.eq_zero_or_pos S.size with h0 | h0
  ·have hb1:bad=true:=by rw [←hbd];exact decide_eq_true (Or.inl (by omega))
   clear hbd hSl
   subst hb1
   go_wp2_with fail
   go_meet
   exact⟨rfl,rfl⟩
  ·have HL:=hide (head_list h0)
   by_cases h19:19 < S.size
   ·have hb1:bad=true:=by rw [←hbd];exact decide_eq_true (Or.inr (Or.inl h19))
    have hq:(19:Int) < (S.size:Int):=by omega
    clear hbd hSl
    subst hb1
    go_wp2_with fail
    go_meet
    exact⟨rfl,rfl⟩
   ·have hq:¬(19:Int) < (S.size:Int):=by omega
    by_cases hc:S[0]'h0=48
    ·have hcb:(((S[0]'h0).toNat:Int) == 48)=true:=by rw [hc];rfl
     have hd2:decide (S.data.toList.head? = some 48)=true:=decide_eq_true (by rw [HL.out,hc];rfl)
     by_cases h1:1 < S.size
     ·have hb1:bad=true:=by rw [←hbd];exact decide_eq_true (Or.inr (Or.inr ⟨of_decide_eq_true hd2,Or.inl h1⟩))
      have hq1:(1:Int) < (S.size:Int):=by omega
      clear hbd hSl hd2 hc
      subst hb1
      go_wp2_with fail
      go_meet
      exact⟨rfl,rfl⟩
     ·have hq1:¬(1:Int) < (S.size:Int):=by omega
      have hb1:bad=ng:=by
       rw [←hbd]
       cases ng
       ·exact decide_eq_false (by rintro (h | h | ⟨_,h | h⟩);omega;omega;omega;cases h)
       ·exact decide_eq_true (Or.inr (Or.inr ⟨of_decide_eq_true hd2,Or.inr rfl⟩))
      clear hbd hSl hd2 hc
      subst hb1
      go_wp2_with fail
      go_meet
      exact⟨by rw [decide_eq_false (by omega),Bool.false_or],rfl⟩
    ·have hcb:(((S[0]'h0).toNat:Int) == 48)=false:=by
      rw [beq_eq_false_iff_ne];intro h;exact hc (UInt8.toNat_inj.1 (by simpa using (show((S[0]'h0).toNat)=48 by omega)))
     have hb1:bad=false:=by
      rw [←hbd]
      refine decide_eq_false ?_
      rintro (h | h | ⟨h,_⟩)
      ·omega
      ·omega
      ·rw [HL.out] at h
       injection h with h
       exact hc h
     clear hbd hSl hc
     subst hb1
     go_wp2_with fail
     go_meet
     exact⟨by rw [decide_eq_false (by omega)],rfl⟩
 case rest=>
 obtain⟨rfl,rfl⟩:=hcut
 cases bad
 case true=>
  have HR:=hide (numS_bad HBAD.out)
  clear hbd HBAD
  go_wp2_with fail
  go_ret2
  exact⟨0,false,rfl,fun h=>Bool.noConfusion h,fun _=>HNV.out.trans HR.out,Below.refl _ _⟩
 case false=>
  have HR:=hide (HNV.out.trans (numS_ok HBAD.out))
  have hb:=of_decide_eq_false hbd
  have h19:S.size≤19:=by
   rcases Nat.lt_or_ge 19 S.size with h | h
   ·exact absurd (Or.inr (Or.inl h)) hb
   ·exact h
  clear hbd HBAD HNV hb
  go_wp2_with fail
  go_loopw [6,7] (fun n i wr=>∃(k:Nat) (m:Int),i=.int .i64 (k:Int)∧n=.int .i64 m∧k≤S.size∧(-9223372036854775808≤m∧m≤0)∧numR 0 S.data.toList=numR m (S.data.toList.drop k)∧w=wr) (fun _ i _=>S.size - (intOf i).toNat)
  case atStart=>exact⟨0,0,rfl,rfl,Nat.zero_le _,⟨by omega,by omega⟩,by rw [List.drop_zero],rfl⟩
  case round=>
   obtain⟨k,m,rfl,rfl,hk,hm,hnr,rfl⟩:=hrel
   have HNR:=hide hnr
   clear hnr
   by_cases hlt:k < S.size
   case neg=>
    obtain rfl:k=S.size:=by omega
    have HF:=hide (show numW s=restN ng (some m) by
     rw [HR.out,HNR.out,List.drop_of_length_le (by rw [hSl];exact Nat.le_refl _)];rfl)
    clear HNR HR hSl
    cases ng
    case true=>
     go_wp2_with fail
     go_ret2
     exact⟨m,true,rfl,fun _=>HF.out,fun h=>Bool.noConfusion h,Below.refl _ _⟩
    case false=>
     by_cases hm2:m = -9223372036854775808
     ·subst hm2
      go_wp2_with fail
      go_ret2
      exact⟨_,false,rfl,fun h=>Bool.noConfusion h,fun _=>HF.out,Below.refl _ _⟩
     ·have hwn:IntKind.i64.wrap (-m) = -m:=IntWalk.i64_in _ (by omega)
      have hmb:(m == -9223372036854775808)=false:=beq_eq_false_iff_ne.2 hm2
      have HF2:=hide (show numW s=some (-m) by rw [HF.out];show(if false=true then some m else if m = -9223372036854775808 then none else some (-m))=_;rw [if_neg (by decide),if_neg hm2])
      clear hm2 HF
      go_wp2_with fail
      go_ret2
      exact⟨-m,(m != -9223372036854775808),rfl,fun _=>HF2.out,fun h=>absurd h (by rw [bne,hmb];decide),Below.refl _ _⟩
   case pos=>
    have HD:=hide (drop_list hlt)
    obtain⟨c,hc⟩:∃c,S[k]'hlt=c:=⟨_,rfl⟩
    rw [hc] at HD
    have hcl:=c.toNat_lt
    by_cases hd:digB c=true
    case neg=>
     have HF:=hide (show numW s=none by
      rw [HR.out,HNR.out,HD.out,numR_no (by simpa using hd)];rfl)
     have hd2:¬(48≤c.toNat∧c.toNat≤57):=fun h=>hd (decide_eq_true h)
     clear HNR HR hd HD
     by_cases h48:c.toNat < 48
     ·have hq:(((S[k]'hlt).toNat:Int) < 48):=by rw [hc];omega
      clear hd2 hc
      go_wp2_with fail
      go_ret2
      exact⟨0,false,rfl,fun h=>Bool.noConfusion h,fun _=>HF.out,Below.refl _ _⟩
     ·have hq:¬(((S[k]'hlt).toNat:Int) < 48):=by rw [hc];omega
      have hq2:(57:Int) < ((S[k]'hlt).toNat:Int):=by rw [hc];omega
      clear hd2 hc
      go_wp2_with fail
      go_ret2
      exact⟨0,false,rfl,fun h=>Bool.noConfusion h,fun _=>HF.out,Below.refl _ _⟩
    case pos=>
     have hd2:48≤c.toNat∧c.toNat≤57:=of_decide_eq_true hd
     have HS:=hide (numR_cons (n:=m) (r:=S.data.toList.drop (k+1)) hd)
     have hq:¬(((S[k]'hlt).toNat:Int) < 48):=by rw [hc];omega
     have hq2:¬(57:Int) < ((S[k]'hlt).toNat:Int):=by rw [hc];omega
     obtain⟨d,hdd⟩:∃d,c.toNat - 48=d:=⟨_,rfl⟩
     have hd9:d≤9:=by omega
     have hdc:((S[k]'hlt).toNat:Int)=(d:Int)+48:=by rw [hc];omega
     have hw8:IntKind.u8.wrap (((S[k]'hlt).toNat:Int) - 48)=(d:Int):=by rw [hdc,IntWalk.u8_in _ (by omega)];omega
     have hw64:IntKind.i64.wrap (d:Int)=(d:Int):=IntWalk.i64_in _ (by omega)
     have hwa:IntKind.i64.wrap (-9223372036854775808+(d:Int)) = -9223372036854775808+(d:Int):=IntWalk.i64_in _ (by omega)
     have hqt:=quo_ten hd9
     have hwq:IntKind.i64.wrap (-((9223372036854775808 - (d:Int)) / 10)) = -((9223372036854775808 - (d:Int)) / 10):=IntWalk.i64_in _ (by omega)
     rw [hdd] at HS
     clear hd hd2 hc hdd hdc
     by_cases hge : -9223372036854775808≤m*10 - (d:Int)
     ·have hql:¬(m < -((9223372036854775808 - (d:Int)) / 10)):=by omega
      have hwm:IntKind.i64.wrap (m*10)=m*10:=IntWalk.i64_in _ (by omega)
      have hws:IntKind.i64.wrap (m*10 - (d:Int))=m*10 - (d:Int):=IntWalk.i64_in _ (by omega)
      have HN2:=hide (show numR 0 S.data.toList=numR (m*10 - (d:Int)) (S.data.toList.drop (k+1)) by rw [HNR.out,HD.out,HS.out,if_pos hge])
      have hup:m*10 - (d:Int)≤0:=by omega
      clear HNR HD HS HR
      go_wp2_with fail
      go_roundw
      case rel=>exact⟨k+1,m*10 - (d:Int),by go_num,by go_num,by omega,⟨by omega,by omega⟩,HN2.out,by first | exact trivial | rfl⟩
      case measure=>simp [intOf];omega
     ·have hql:(m < -((9223372036854775808 - (d:Int)) / 10)):=by omega
      have HF:=hide (show numW s=none by rw [HR.out,HNR.out,HD.out,HS.out,if_neg hge];rfl)
      clear HNR HD HS HR
      go_wp2_with fail
      go_ret2
      exact⟨0,false,rfl,fun h=>Bool.noConfusion h,fun _=>HF.out,Below.refl _ _⟩
def partsC (c:UInt8):List UInt8→List UInt8→List (List UInt8)
 | [],p=>[p]
 | x :: r,p=>if x=c then p :: partsC c r [] else partsC c r (p++[x])
theorem partsC_pieces (c:UInt8):∀(l p:List UInt8),∃x r,piecesC c l=x :: r∧partsC c l p=(p++x) :: r
 | [],p=>⟨[],[],rfl,by rw [partsC,List.append_nil]⟩
 | y :: l,p=>by
  rw [piecesC,partsC]
  by_cases h:y=c
  ·rw [if_pos h,if_pos h]
   obtain⟨x,r,e1,e2⟩:=partsC_pieces c l []
   exact⟨[],piecesC c l,rfl,by rw [e2,e1,List.append_nil,List.nil_append]⟩
  ·rw [if_neg h,if_neg h]
   obtain⟨x,r,e1,e2⟩:=partsC_pieces c l (p++[y])
   exact⟨y :: x,r,by rw [e1],by rw [e2,List.append_assoc];rfl⟩
theorem partsC_is (c:UInt8) (l:List UInt8):partsC c l []=piecesC c l:=by
 obtain⟨x,r,e1,e2⟩:=partsC_pieces c l []
 rw [e1,e2,List.nil_append]
theorem partsC_hit {c:UInt8} {s:ByteArray} {k:Nat} {done:List (List UInt8)} {q:List UInt8} (h:partsC c s.data.toList []=done++partsC c (s.data.toList.drop k) q) (hk:k < s.size) (hc:(s[k]'hk)=c) :
  partsC c s.data.toList []=(done++[q])++partsC c (s.data.toList.drop (k+1)) []:=by
 rw [h,drop_list hk,partsC,if_pos hc]
 simp
theorem partsC_miss {c:UInt8} {s:ByteArray} {k:Nat} {done:List (List UInt8)} {q:List UInt8} (h:partsC c s.data.toList []=done++partsC c (s.data.toList.drop k) q) (hk:k < s.size) (hc:(s[k]'hk)≠c) :
  partsC c s.data.toList []=done++partsC c (s.data.toList.drop (k+1)) (q++[s[k]'hk]):=by
 rw [h,drop_list hk,partsC,if_neg hc]
def strsC (c:UInt8) (s:ByteArray):List ByteArray:=(piecesC c s.data.toList).map fun p=>⟨p.toArray⟩
theorem strsC_cells (c:UInt8) (s:ByteArray):strsOf (partsC c s.data.toList [])=strV (strsC c s):=by
 rw [partsC_is]
 unfold strsOf strV strsC
 rw [List.map_map]
 rfl
theorem rsplitC (c:UInt8) (s:ByteArray) (hs:s.size≤1000000) (w:World):Calls Tryz.prog 62 #[.string s,.int .u8 (c.toNat:Int)] w fun e w'=>∃v,e=.returned v∧StrsR w' w.heap.size v (strsC c s)∧Below w.heap.size w w':=by
 have HS:=hide (strsC_cells c s)
 have HLEN:=hide (show(strsC c s).length=(partsC c s.data.toList []).length by rw [partsC_is];unfold strsC;rw [List.length_map])
 have HL:Live w []:=trivial
 go_enter Tryz.func62,Tryz.ntmps62
 go_wp2_with fail
 go_loopw [5,6,7] (fun o p i wr=>∃(k:Nat) (done:List (List UInt8)) (q:List UInt8),k≤s.size∧i=.int .i64 k∧p=.string ⟨q.toArray⟩∧wr.ownsRow w.heap.size 9 1 o done.length (strsOf done)∧partsC c s.data.toList []=done++partsC c (s.data.toList.drop k) q∧q.length≤k∧done.length≤k∧Below w.heap.size w wr) (fun _ _ i _=>s.size - (intOf i).toNat)
 case atStart=>exact⟨0,[],[],by omega,rfl,rfl,World.ownsRow_lit w #[] 0 (Nat.le_refl _) (by decide) rfl,by simp,by simp,by simp,by(exact bl)⟩
 case round=>
  obtain⟨k,done,q,hk,rfl,rfl,hown,hpt,hq,hdn,hbel⟩:=hrel
  have HP:=hide hpt
  have HO:=hide hown
  clear hpt hown
  have hsz:=hbel.size
  by_cases hlt:k < s.size
  ·by_cases hc:(s[k]'hlt)=c
   ·have hcc:=hide hc
    have hcb:(((s[k]'hlt).toNat:Int) == (c.toNat:Int))=true:=by rw [hc];exact beq_self_eq_true _
    clear hc
    go_wp2_with (at_builtin;refine wpList_append_one _ rfl _ _ 38 rfl w.heap.size 9 strInfo Tryz.underlying38 rfl (by decide) _ _ _ HO.out #[.string ⟨q.toArray⟩] rfl rfl rfl (by simp [Value.oneCell']) (by unfold maxLen;omega) (by omega) (by omega) ?_;intro v2 w2 hown2 hb2 hot2 hz2)
    (try rw [show(#[Value.string ⟨q.toArray⟩]:Array Value).toList=[Value.string ⟨q.toArray⟩] from rfl] at hown2);rw [strs_snoc] at hown2
    go_roundw
    case rel=>exact⟨k+1,done++[q],[],by omega,by go_num,rfl,by simpa using hown2,partsC_hit HP.out hlt hcc.out,by simp,by simp;omega,hbel.trans hb2⟩
    case measure=>simp [intOf];omega
   ·have hcc:=hide hc
    have hcb:(((s[k]'hlt).toNat:Int) == (c.toNat:Int))=false:=by
     rw [beq_eq_false_iff_ne];intro h;exact hc (UInt8.toNat_inj.1 (by omega))
    clear hc
    go_wp2
    go_roundw
    case rel=>exact⟨k+1,done,q++[s[k]'hlt],by omega,by go_num,congrArg Value.string (str_snoc s q k hlt),HO.out,partsC_miss HP.out hlt hcc.out,by simp;omega,by omega,hbel⟩
    case measure=>simp [intOf];omega
  ·obtain rfl:k=s.size:=by omega
   have e:=HP.out
   rw [List.drop_of_length_le (by simp),partsC] at e
   have HE:=hide e
   clear e HP
   go_wp2_with (at_builtin;refine wpList_append_one _ rfl _ _ 38 rfl w.heap.size 9 strInfo Tryz.underlying38 rfl (by decide) _ _ _ HO.out #[.string ⟨q.toArray⟩] rfl rfl rfl (by simp [Value.oneCell']) (by unfold maxLen;omega) (by omega) (by omega) ?_;intro v2 w2 hown2 hb2 hot2 hz2)
   (try rw [show(#[Value.string ⟨q.toArray⟩]:Array Value).toList=[Value.string ⟨q.toArray⟩] from rfl] at hown2);rw [strs_snoc] at hown2
   go_ret
   refine⟨_,rfl,?_,hbel.trans hb2⟩
   unfold StrsR
   rw [←HS.out,HLEN.out,HE.out]
   simpa using hown2
end Go.Proofs.YtlhakdildbplkaaGreatDoor
