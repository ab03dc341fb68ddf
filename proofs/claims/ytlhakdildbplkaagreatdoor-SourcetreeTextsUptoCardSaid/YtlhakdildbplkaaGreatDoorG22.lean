/- Part of the claim: its words. -/
import Derived.Lib.SplitLaws
import Derived.Lib.IndexLaws
import Derived.Shelf.Strings.Split
import Derived.Shelf.Strings.Prefix
import Derived.Test.YtlhakdildbplkaaGreatDoorG19
import Derived.Test.YtlhakdildbplkaaGreatDoorG21
set_option maxHeartbeats 1000000
namespace Go.Proofs.YtlhakdildbplkaaGreatDoor
set_option linter.unusedSimpArgs false
set_option linter.unusedVariables false
open Go.RowKit
theorem piecesC_ne (c:UInt8):∀l,piecesC c l≠[]
 | []=>by simp [piecesC]
 | x :: l=>by
  rw [piecesC]
  split
  ·simp
  ·cases piecesC c l <;> simp
theorem piecesC_none (c:UInt8):∀l:List UInt8,(∀x∈l,x≠c)→piecesC c l=[l]
 | [],_=>rfl
 | x :: r,h=>by rw [piecesC,if_neg (h x (by simp)),piecesC_none c r (fun y hy=>h y (by simp [hy]))]
theorem piecesC_hit (c:UInt8):∀(a r:List UInt8),(∀x∈a,x≠c)→piecesC c (a++c :: r)=a :: piecesC c r
 | [],r,_=>by rw [List.nil_append,piecesC,if_pos rfl]
 | x :: a,r,h=>by rw [List.cons_append,piecesC,if_neg (h x (by simp)),piecesC_hit c a r (fun y hy=>h y (by simp [hy]))]
def tailed (c:UInt8) (sv:Nat):List (List UInt8)→List (List UInt8)
 | []=>[]
 | [p]=>[p]
 | p :: q :: r=>(if sv=1 then p++[c] else p) :: tailed c sv (q :: r)
theorem tailed_cons (c:UInt8) (sv:Nat) (p:List UInt8):∀r:List (List UInt8),r≠[]→tailed c sv (p :: r)=(if sv=1 then p++[c] else p) :: tailed c sv r
 | [],h=>absurd rfl h
 | q :: r,_=>rfl
theorem tailed_zero (c:UInt8):∀r:List (List UInt8),tailed c 0 r=r
 | []=>rfl
 | [p]=>rfl
 | p :: q :: r=>by rw [tailed,if_neg (by decide),tailed_zero c (q :: r)]
theorem split_pieces (c:UInt8) (sv:Nat) (hsv:sv≤1):∀(k:Nat) (s:ByteArray),s.size≤k→(Lib.splitB ⟨#[c]⟩ sv (Lib.countB s ⟨#[c]⟩) s).map (·.data.toList)=tailed c sv (piecesC c s.data.toList)
 | k,s,hk=>by
  have h1:1≤(⟨#[c]⟩:ByteArray).size:=Nat.le_refl _
  rcases Lib.indexB_cases s (⟨#[c]⟩:ByteArray) with hm | ⟨i,hi,hle⟩
  ·rw [Lib.countB_miss s (⟨#[c]⟩:ByteArray) hm,Lib.splitB_zero]
   have hn:Lib.indexByte s.data.toList c = -1:=by rw [←Lib.index_one];exact hm
   have:=Lib.indexByte_none hn
   rw [piecesC_none c _ (fun x hc e=>by
    obtain⟨j,hj,hx⟩:=List.getElem_of_mem hc
    exact this j (by rw [List.getElem?_eq_getElem hj,hx,e]))]
   rfl
  ·have hn:Lib.indexByte s.data.toList c=(i:Int):=by rw [←Lib.index_one];exact hi
   obtain⟨hat,hbf⟩:=Lib.indexByte_some hn
   have hil:i < s.data.toList.length:=(List.getElem?_eq_some_iff.1 hat).1
   have hsz:s.size=s.data.toList.length:=by rw [Array.length_toList];rfl
   have hcnt:Lib.countB s (⟨#[c]⟩:ByteArray)=Lib.countB (s.extract (i+1) s.size) (⟨#[c]⟩:ByteArray)+1:=by
    have:=Lib.countB_hit s (⟨#[c]⟩:ByteArray) i h1 hi
    show Lib.countB s (⟨#[c]⟩:ByteArray)=_
    rw [this]
    show 1+Lib.countB (s.extract (i+1) s.size) (⟨#[c]⟩:ByteArray)=_
    omega
   rw [hcnt,Lib.splitB_hit (⟨#[c]⟩:ByteArray) sv _ s i hi,List.map_cons]
   have ih:=split_pieces c sv hsv (k - 1) (s.extract (i+1) s.size) (by simp;omega)
   show(s.extract 0 (i+sv)).data.toList :: (Lib.splitB (⟨#[c]⟩:ByteArray) sv (Lib.countB (s.extract (i+1) s.size) (⟨#[c]⟩:ByteArray)) (s.extract (i+1) s.size)).map (·.data.toList)=_
   rw [ih]
   have e0:(s.extract 0 (i+sv)).data.toList=if sv=1 then s.data.toList.take i++[c] else s.data.toList.take i:=by
    rw [←ByteArray.toList_eq,Lib.extract_toList,List.drop_zero,Nat.sub_zero]
    split
    ·rename_i e1
     subst e1
     rw [List.take_add_one,hat];rfl
    ·rw [show i+sv=i by omega]
   have e1:(s.extract (i+1) s.size).data.toList=s.data.toList.drop (i+1):=by
    rw [←ByteArray.toList_eq,Lib.extract_toList,List.take_of_length_le]
    rw [List.length_drop,←hsz];omega
   have es:s.data.toList=s.data.toList.take i++c :: s.data.toList.drop (i+1):=by
    conv=>lhs;rw [←List.take_append_drop i s.data.toList]
    congr 1
    rw [List.drop_eq_getElem_cons hil]
    congr 1
    exact(List.getElem?_eq_some_iff.1 hat).2
   rw [e0,e1]
   conv=>rhs;rw [es]
   rw [piecesC_hit c _ _ (fun x hc e=>by
    obtain⟨j,hj,hx⟩:=List.getElem_of_mem hc
    have hj2:j < i:=by simp at hj;omega
    exact hbf j hj2 (by rw [List.getElem?_eq_getElem (by omega)];rw [List.getElem_take] at hx;rw [hx,e]))]
   rw [tailed_cons _ _ _ _ (piecesC_ne _ _)]
termination_by k=>k
theorem sEq {s t:ByteArray} (h:s=t):(s.toList == t.toList)=true:=by rw [h];simp
theorem sNe {s t:ByteArray} (h:s≠t):(s.toList == t.toList)=false:=beq_eq_false_iff_ne.2 fun e=>h (toL_inj e)
def IdxP (ss:List ByteArray) (x:ByteArray) (i:Int):Prop:=(∃k:Nat,ss[k]? = some x∧i=(k:Int)∧x ∉ ss.take k)∨(x ∉ ss∧i = -1)
theorem idx_str (g c:Nat) (ss:List ByteArray) (x:ByteArray) (w:World) (hn:ss.length≤1000) (hc:∀j s,ss[j]? = some s→w.cell? ⟨g,j,none⟩=some (.string s)) :
  Calls Tryz.prog 92 #[.slice (some ⟨g,0,none⟩) ss.length c,.string x] w fun e w'=>(∃i,e=.returned (.int .i64 i)∧IdxP ss x i)∧w=w':=by
 have HC:=hide hc
 clear hc
 have HL:Live w []:=trivial
 go_enter Tryz.func92,Tryz.ntmps92
 go_wp2_with fail
 go_loop [8] (fun i=>∃k:Nat,k≤ss.length∧i=.int .i64 k∧x ∉ ss.take k) (fun i=>ss.length - (intOf i).toNat)
 case atStart=>exact⟨0,by omega,rfl,by simp⟩
 case round=>
  obtain⟨k,hk,rfl,ha⟩:=hrel
  have HA:=hide ha
  clear ha
  by_cases hlt:k < ss.length
  ·obtain⟨s,hx⟩:∃s,ss[k]? = some s:=⟨_,List.getElem?_eq_getElem hlt⟩
   have hcell:=HC.out k s hx
   have HX:=hide hx
   clear hx
   by_cases he:x=s
   ·have hb:=sEq he
    have HE:=hide he
    clear he
    go_wp2
    go_ret
    exact⟨⟨k,rfl,Or.inl ⟨k,by rw [HX.out,HE.out],rfl,HA.out⟩⟩,rfl⟩
   ·have hb:=sNe he
    have HE:=hide he
    clear he
    go_wp2
    go_round
    case rel=>exact⟨k+1,by omega,by go_num,by
     obtain⟨hi,e⟩:=List.getElem?_eq_some_iff.1 HX.out
     rw [List.take_succ_eq_append_getElem hi,e,List.mem_append]
     rintro (h | h)
     ·exact HA.out h
     ·exact HE.out (List.mem_singleton.1 h)⟩
    case measure=>simp [intOf];omega
  ·obtain rfl:k=ss.length:=by omega
   go_wp2
   go_ret
   exact⟨⟨-1,rfl,Or.inr ⟨by have:=HA.out;rw [List.take_length] at this;exact this,rfl⟩⟩,rfl⟩
def kinds:List ByteArray:=[wDir,wFile,wLink,wStream]
theorem kind_is {x:ByteArray} {i:Int} (h:IdxP kinds x i):i=kindOf x:=by
 have d1:wDir≠wFile:=by decide
 have d2:wDir≠wLink:=by decide
 have d3:wDir≠wStream:=by decide
 have d4:wFile≠wLink:=by decide
 have d5:wFile≠wStream:=by decide
 have d6:wLink≠wStream:=by decide
 unfold kindOf
 rcases h with⟨k,hk,rfl,_⟩ | ⟨hn,rfl⟩
 ·match k,hk with
  | 0,hk=>
   injection hk with hk
   subst hk
   rw [if_pos rfl];rfl
  | 1,hk=>
   injection hk with hk
   subst hk
   rw [if_neg (Ne.symm d1),if_pos rfl];rfl
  | 2,hk=>
   injection hk with hk
   subst hk
   rw [if_neg (Ne.symm d2),if_neg (Ne.symm d4),if_pos rfl];rfl
  | 3,hk=>
   injection hk with hk
   subst hk
   rw [if_neg (Ne.symm d3),if_neg (Ne.symm d5),if_neg (Ne.symm d6),if_pos rfl];rfl
  | k+4,hk=>simp [kinds] at hk
 ·have m:x≠wDir∧x≠wFile∧x≠wLink∧x≠wStream:=by
   refine⟨?_,?_,?_,?_⟩ <;> (intro e;exact hn (by rw [e];simp [kinds]))
  rw [if_neg m.1,if_neg m.2.1,if_neg m.2.2.1,if_neg m.2.2.2]
theorem kidx_any (g:Nat) (x:ByteArray) (w:World) (hc:∀j s,kinds[j]? = some s→w.cell? ⟨g,j,none⟩=some (.string s)) :
  Calls Tryz.prog 92 #[.slice (some ⟨g,0,none⟩) 4 4,.string x] w fun e w'=>e=.returned (.int .i64 (kindOf x))∧w=w':=
 (idx_str g 4 kinds x w (by decide) hc).mono fun e w' ⟨⟨i,he,hi⟩,hw⟩=>⟨by rw [he,kind_is hi],hw⟩
/-! Splitting. -/
theorem list_of {L:List ByteArray} {M:List (List UInt8)} (h:L.map (·.data.toList)=M):L=M.map fun p=>⟨p.toArray⟩:=by
 rw [←h,List.map_map]
 have:∀x:ByteArray,((fun p:List UInt8=>(⟨p.toArray⟩:ByteArray)) ∘ fun x:ByteArray=>x.data.toList) x=x:=fun x=>by
  cases x with
  | mk d=>cases d;rfl
 conv=>lhs;rw [←List.map_id L]
 exact List.map_congr_left fun x _=>(this x).symm
theorem wsplit (x:ByteArray) (hx:x.size≤100000) (w:World) (hT:TabV w):Calls Tryz.prog 60 #[.string x,.string ⟨#[32]⟩] w fun e w'=>
  e=.returned (.slice (some ⟨w.heap.size,0,none⟩) (wordsOf x.data.toList).length (wordsOf x.data.toList).length)∧w'=w.alloc (.cells ((wordsOf x.data.toList).map Value.string).toArray 9):=by
 obtain⟨-,m,hm⟩:=hT
 refine(Any.strings_Split { Tryz.laysM146 with } Tryz.laysM146.i9 x ⟨#[32]⟩ m w (by omega) hm (by decide)).mono fun e w' ⟨he,hw⟩=>?_
 have e1:Lib.splitB ⟨#[32]⟩ 0 (Lib.countB x ⟨#[32]⟩) x=wordsOf x.data.toList:=by
  have:=split_pieces 32 0 (by omega) x.size x (Nat.le_refl _)
  rw [tailed_zero] at this
  exact list_of this
 have e2:Lib.countB x ⟨#[32]⟩+1=(wordsOf x.data.toList).length:=by
  rw [←e1,Lib.splitB_all ⟨#[32]⟩ (by decide) 0 _ x rfl]
 rw [e2] at he
 rw [e1] at hw
 exact⟨he,hw⟩
def linesOf (l:List UInt8):List ByteArray:=(tailed 10 1 (piecesC 10 l)).map fun p=>⟨p.toArray⟩
theorem lsplit (x:ByteArray) (hx:x.size≤100000) (w:World) (hT:TabV w):Calls Tryz.prog 89 #[.string x,.string ⟨#[10]⟩] w fun e w'=>
  e=.returned (.slice (some ⟨w.heap.size,0,none⟩) (linesOf x.data.toList).length (linesOf x.data.toList).length)∧w'=w.alloc (.cells ((linesOf x.data.toList).map Value.string).toArray 9):=by
 have GS:=hide (show Calls Tryz.prog 119 #[.string x,.string ⟨#[10]⟩,.int .i64 1,.int .i64 (-1)] w fun e w'=>
  e=.returned (.slice (some ⟨w.heap.size,0,none⟩) (linesOf x.data.toList).length (linesOf x.data.toList).length)∧w'=w.alloc (.cells ((linesOf x.data.toList).map Value.string).toArray 9) by
  obtain⟨-,m,hm⟩:=hT
  have hle:=Lib.countB_le ⟨#[10]⟩ (by decide) x.size x (Nat.le_refl _)
  have e1:Lib.splitB ⟨#[10]⟩ 1 (Lib.countB x ⟨#[10]⟩) x=linesOf x.data.toList:=list_of (split_pieces 10 1 (by omega) x.size x (Nat.le_refl _))
  have e2:Lib.countB x ⟨#[10]⟩+1=(linesOf x.data.toList).length:=by
   rw [←e1,Lib.splitB_all ⟨#[10]⟩ (by decide) 1 _ x rfl]
  refine(Any.strings_genSplit { Tryz.lays221 with } Tryz.laysM146.i9 x ⟨#[10]⟩ 1 (-1) (Lib.countB x ⟨#[10]⟩+1) m w (by omega) hm (by decide) (by decide) (by decide) (by decide) (by rw [if_pos (by decide)];omega)).mono fun e w' ⟨he,hw⟩=>?_
  rw [Nat.add_sub_cancel] at he hw
  have e3:=Lib.cellsOf_full (linesOf x.data.toList)
  rw [e1,e2] at he hw
  rw [e3] at hw
  exact⟨he,hw⟩)
 clear hT
 have HL:Live w []:=trivial
 go_enter Tryz.func89,Tryz.ntmps89
 go_wp2_with (go_at_call 119;refine GS.out.mono ?_;rintro e w' ⟨rfl,rfl⟩)
 go_ret
 exact⟨rfl,rfl⟩
theorem hassuf (x:ByteArray) (hx:x.size≤100000) (w:World):Calls Tryz.prog 91 #[.string x,.string ⟨#[10]⟩] w fun e w'=>e=.returned (.bool (Lib.hasSuffix x.data.toList [10]))∧w=w':=
 (Any.strings_HasSuffix Tryz.lays100 x ⟨#[10]⟩ w (by omega)).mono fun e w' ⟨he,hw⟩=>⟨he,hw.symm⟩
def takesI:Nat→Option (List ByteArray)→Option (List Int × List ByteArray)
 | 0,o=>o.map fun r=>([],r)
 | k+1,o=>(takesI k o).bind fun p=>(rdI (some p.2)).map fun q=>(p.1++[q.1],q.2)
theorem takesI_step {k:Nat} {o ok o':Option (List ByteArray)} {ns:List Int} {n:Int} (h1:ok=(takesI k o).map (·.2)) (h2:∀p,takesI k o=some p→ns=p.1) (h3:o'=(rdI ok).map (·.2)) (h4:∀p,rdI ok=some p→n=p.1) :
  o'=(takesI (k+1) o).map (·.2)∧∀p,takesI (k+1) o=some p→ns++[n]=p.1:=by
 rw [takesI]
 cases ht:takesI k o with
 | none=>
  rw [ht] at h1
  subst h1
  exact⟨by rw [h3];rfl,fun p hp=>by cases hp⟩
 | some q=>
  rw [ht] at h1
  have h1':ok=some q.2:=h1
  subst h1'
  have e:=h2 q ht
  subst e
  simp only [Option.bind_some]
  cases hr:rdI (some q.2) with
  | none=>exact⟨by rw [h3,hr];rfl,fun p hp=>by cases hp⟩
  | some z=>
   have e2:=h4 z hr
   subst e2
   exact⟨by rw [h3,hr];rfl,fun p hp=>by injection hp with hp;rw [←hp]⟩
def hdN (nm:ByteArray) (kd:Int) (ns:List Int):Hd:=⟨nm,kd,eS,eS,ns.getD 0 0,ns.getD 1 0,ns.getD 2 0,ns.getD 3 0,ns.getD 4 0,ns.getD 5 0⟩
theorem hdN_snoc (nm:ByteArray) (kd:Int) (kv sv:Value) (n:Int) (ns:List Int) (h:ns.length < 6):((hdN nm kd ns).cells kv sv).setIfInBounds (4+ns.length) (.int .i64 n)=(hdN nm kd (ns++[n])).cells kv sv:=by
 match ns,h with
 | [],_=>rfl
 | [a],_=>rfl
 | [a,b],_=>rfl
 | [a,b,c],_=>rfl
 | [a,b,c,d],_=>rfl
 | [a,b,c,d,e],_=>rfl
 | a :: b :: c :: d :: e :: f :: r,h=>simp only [List.length_cons] at h;omega
theorem rdI_cons (x:ByteArray) (r:List ByteArray):rdI (some (x :: r))=(numW x).map (·,r):=rfl
theorem rdI_nil:rdI (some [])=none:=rfl
theorem rdT_cons (x:ByteArray) (r:List ByteArray):rdT (some (x :: r))=(unword x).map (·,r):=rfl
theorem rdT_nil:rdT (some [])=none:=rfl
theorem takesI_succ (k:Nat) (o:Option (List ByteArray)):takesI (k+1) o=(takesI k o).bind fun p=>(rdI (some p.2)).map fun q=>(p.1++[q.1],q.2):=rfl
theorem takesI_zero (o:Option (List ByteArray)):takesI 0 o=o.map fun r=>([],r):=rfl
theorem headW_is (ws:List ByteArray):headW ws=(rdI (some ws)).bind fun p=>(rdT (some p.2)).bind fun q=>(takesI 6 (some q.2)).map fun z=>(p.1,hdN q.1 0 z.1,z.2):=by
 match ws with
 | []=>rfl
 | [l]=>
  cases h1:numW l with
  | none=>simp only [headW,rdI_cons,rdI_nil,rdT_cons,rdT_nil,takesI_succ,takesI_zero,Option.map_some,Option.map_none,Option.bind_some,Option.bind_none,h1]
  | some l'=>
  simp only [headW,rdI_cons,rdI_nil,rdT_cons,rdT_nil,takesI_succ,takesI_zero,Option.map_some,Option.map_none,Option.bind_some,Option.bind_none,h1]
 | [l,n]=>
  cases h1:numW l with
  | none=>simp only [headW,rdI_cons,rdI_nil,rdT_cons,rdT_nil,takesI_succ,takesI_zero,Option.map_some,Option.map_none,Option.bind_some,Option.bind_none,h1]
  | some l'=>
  cases h2:unword n with
  | none=>simp only [headW,rdI_cons,rdI_nil,rdT_cons,rdT_nil,takesI_succ,takesI_zero,Option.map_some,Option.map_none,Option.bind_some,Option.bind_none,h1,h2]
  | some n'=>
  simp only [headW,rdI_cons,rdI_nil,rdT_cons,rdT_nil,takesI_succ,takesI_zero,Option.map_some,Option.map_none,Option.bind_some,Option.bind_none,h1,h2]
 | [l,n,a]=>
  cases h1:numW l with
  | none=>simp only [headW,rdI_cons,rdI_nil,rdT_cons,rdT_nil,takesI_succ,takesI_zero,Option.map_some,Option.map_none,Option.bind_some,Option.bind_none,h1]
  | some l'=>
  cases h2:unword n with
  | none=>simp only [headW,rdI_cons,rdI_nil,rdT_cons,rdT_nil,takesI_succ,takesI_zero,Option.map_some,Option.map_none,Option.bind_some,Option.bind_none,h1,h2]
  | some n'=>
  cases h3:numW a with
  | none=>simp only [headW,rdI_cons,rdI_nil,rdT_cons,rdT_nil,takesI_succ,takesI_zero,Option.map_some,Option.map_none,Option.bind_some,Option.bind_none,h1,h2,h3]
  | some a'=>
  simp only [headW,rdI_cons,rdI_nil,rdT_cons,rdT_nil,takesI_succ,takesI_zero,Option.map_some,Option.map_none,Option.bind_some,Option.bind_none,h1,h2,h3]
 | [l,n,a,b]=>
  cases h1:numW l with
  | none=>simp only [headW,rdI_cons,rdI_nil,rdT_cons,rdT_nil,takesI_succ,takesI_zero,Option.map_some,Option.map_none,Option.bind_some,Option.bind_none,h1]
  | some l'=>
  cases h2:unword n with
  | none=>simp only [headW,rdI_cons,rdI_nil,rdT_cons,rdT_nil,takesI_succ,takesI_zero,Option.map_some,Option.map_none,Option.bind_some,Option.bind_none,h1,h2]
  | some n'=>
  cases h3:numW a with
  | none=>simp only [headW,rdI_cons,rdI_nil,rdT_cons,rdT_nil,takesI_succ,takesI_zero,Option.map_some,Option.map_none,Option.bind_some,Option.bind_none,h1,h2,h3]
  | some a'=>
  cases h4:numW b with
  | none=>simp only [headW,rdI_cons,rdI_nil,rdT_cons,rdT_nil,takesI_succ,takesI_zero,Option.map_some,Option.map_none,Option.bind_some,Option.bind_none,h1,h2,h3,h4]
  | some b'=>
  simp only [headW,rdI_cons,rdI_nil,rdT_cons,rdT_nil,takesI_succ,takesI_zero,Option.map_some,Option.map_none,Option.bind_some,Option.bind_none,h1,h2,h3,h4]
 | [l,n,a,b,c]=>
  cases h1:numW l with
  | none=>simp only [headW,rdI_cons,rdI_nil,rdT_cons,rdT_nil,takesI_succ,takesI_zero,Option.map_some,Option.map_none,Option.bind_some,Option.bind_none,h1]
  | some l'=>
  cases h2:unword n with
  | none=>simp only [headW,rdI_cons,rdI_nil,rdT_cons,rdT_nil,takesI_succ,takesI_zero,Option.map_some,Option.map_none,Option.bind_some,Option.bind_none,h1,h2]
  | some n'=>
  cases h3:numW a with
  | none=>simp only [headW,rdI_cons,rdI_nil,rdT_cons,rdT_nil,takesI_succ,takesI_zero,Option.map_some,Option.map_none,Option.bind_some,Option.bind_none,h1,h2,h3]
  | some a'=>
  cases h4:numW b with
  | none=>simp only [headW,rdI_cons,rdI_nil,rdT_cons,rdT_nil,takesI_succ,takesI_zero,Option.map_some,Option.map_none,Option.bind_some,Option.bind_none,h1,h2,h3,h4]
  | some b'=>
  cases h5:numW c with
  | none=>simp only [headW,rdI_cons,rdI_nil,rdT_cons,rdT_nil,takesI_succ,takesI_zero,Option.map_some,Option.map_none,Option.bind_some,Option.bind_none,h1,h2,h3,h4,h5]
  | some c'=>
  simp only [headW,rdI_cons,rdI_nil,rdT_cons,rdT_nil,takesI_succ,takesI_zero,Option.map_some,Option.map_none,Option.bind_some,Option.bind_none,h1,h2,h3,h4,h5]
 | [l,n,a,b,c,d]=>
  cases h1:numW l with
  | none=>simp only [headW,rdI_cons,rdI_nil,rdT_cons,rdT_nil,takesI_succ,takesI_zero,Option.map_some,Option.map_none,Option.bind_some,Option.bind_none,h1]
  | some l'=>
  cases h2:unword n with
  | none=>simp only [headW,rdI_cons,rdI_nil,rdT_cons,rdT_nil,takesI_succ,takesI_zero,Option.map_some,Option.map_none,Option.bind_some,Option.bind_none,h1,h2]
  | some n'=>
  cases h3:numW a with
  | none=>simp only [headW,rdI_cons,rdI_nil,rdT_cons,rdT_nil,takesI_succ,takesI_zero,Option.map_some,Option.map_none,Option.bind_some,Option.bind_none,h1,h2,h3]
  | some a'=>
  cases h4:numW b with
  | none=>simp only [headW,rdI_cons,rdI_nil,rdT_cons,rdT_nil,takesI_succ,takesI_zero,Option.map_some,Option.map_none,Option.bind_some,Option.bind_none,h1,h2,h3,h4]
  | some b'=>
  cases h5:numW c with
  | none=>simp only [headW,rdI_cons,rdI_nil,rdT_cons,rdT_nil,takesI_succ,takesI_zero,Option.map_some,Option.map_none,Option.bind_some,Option.bind_none,h1,h2,h3,h4,h5]
  | some c'=>
  cases h6:numW d with
  | none=>simp only [headW,rdI_cons,rdI_nil,rdT_cons,rdT_nil,takesI_succ,takesI_zero,Option.map_some,Option.map_none,Option.bind_some,Option.bind_none,h1,h2,h3,h4,h5,h6]
  | some d'=>
  simp only [headW,rdI_cons,rdI_nil,rdT_cons,rdT_nil,takesI_succ,takesI_zero,Option.map_some,Option.map_none,Option.bind_some,Option.bind_none,h1,h2,h3,h4,h5,h6]
 | [l,n,a,b,c,d,e]=>
  cases h1:numW l with
  | none=>simp only [headW,rdI_cons,rdI_nil,rdT_cons,rdT_nil,takesI_succ,takesI_zero,Option.map_some,Option.map_none,Option.bind_some,Option.bind_none,h1]
  | some l'=>
  cases h2:unword n with
  | none=>simp only [headW,rdI_cons,rdI_nil,rdT_cons,rdT_nil,takesI_succ,takesI_zero,Option.map_some,Option.map_none,Option.bind_some,Option.bind_none,h1,h2]
  | some n'=>
  cases h3:numW a with
  | none=>simp only [headW,rdI_cons,rdI_nil,rdT_cons,rdT_nil,takesI_succ,takesI_zero,Option.map_some,Option.map_none,Option.bind_some,Option.bind_none,h1,h2,h3]
  | some a'=>
  cases h4:numW b with
  | none=>simp only [headW,rdI_cons,rdI_nil,rdT_cons,rdT_nil,takesI_succ,takesI_zero,Option.map_some,Option.map_none,Option.bind_some,Option.bind_none,h1,h2,h3,h4]
  | some b'=>
  cases h5:numW c with
  | none=>simp only [headW,rdI_cons,rdI_nil,rdT_cons,rdT_nil,takesI_succ,takesI_zero,Option.map_some,Option.map_none,Option.bind_some,Option.bind_none,h1,h2,h3,h4,h5]
  | some c'=>
  cases h6:numW d with
  | none=>simp only [headW,rdI_cons,rdI_nil,rdT_cons,rdT_nil,takesI_succ,takesI_zero,Option.map_some,Option.map_none,Option.bind_some,Option.bind_none,h1,h2,h3,h4,h5,h6]
  | some d'=>
  cases h7:numW e with
  | none=>simp only [headW,rdI_cons,rdI_nil,rdT_cons,rdT_nil,takesI_succ,takesI_zero,Option.map_some,Option.map_none,Option.bind_some,Option.bind_none,h1,h2,h3,h4,h5,h6,h7]
  | some e'=>
  simp only [headW,rdI_cons,rdI_nil,rdT_cons,rdT_nil,takesI_succ,takesI_zero,Option.map_some,Option.map_none,Option.bind_some,Option.bind_none,h1,h2,h3,h4,h5,h6,h7]
 | l :: n :: a :: b :: c :: d :: e :: f :: r=>
  cases h1:numW l with
  | none=>simp only [headW,rdI_cons,rdI_nil,rdT_cons,rdT_nil,takesI_succ,takesI_zero,Option.map_some,Option.map_none,Option.bind_some,Option.bind_none,h1]
  | some l'=>
  cases h2:unword n with
  | none=>simp only [headW,rdI_cons,rdI_nil,rdT_cons,rdT_nil,takesI_succ,takesI_zero,Option.map_some,Option.map_none,Option.bind_some,Option.bind_none,h1,h2]
  | some n'=>
  cases h3:numW a with
  | none=>simp only [headW,rdI_cons,rdI_nil,rdT_cons,rdT_nil,takesI_succ,takesI_zero,Option.map_some,Option.map_none,Option.bind_some,Option.bind_none,h1,h2,h3]
  | some a'=>
  cases h4:numW b with
  | none=>simp only [headW,rdI_cons,rdI_nil,rdT_cons,rdT_nil,takesI_succ,takesI_zero,Option.map_some,Option.map_none,Option.bind_some,Option.bind_none,h1,h2,h3,h4]
  | some b'=>
  cases h5:numW c with
  | none=>simp only [headW,rdI_cons,rdI_nil,rdT_cons,rdT_nil,takesI_succ,takesI_zero,Option.map_some,Option.map_none,Option.bind_some,Option.bind_none,h1,h2,h3,h4,h5]
  | some c'=>
  cases h6:numW d with
  | none=>simp only [headW,rdI_cons,rdI_nil,rdT_cons,rdT_nil,takesI_succ,takesI_zero,Option.map_some,Option.map_none,Option.bind_some,Option.bind_none,h1,h2,h3,h4,h5,h6]
  | some d'=>
  cases h7:numW e with
  | none=>simp only [headW,rdI_cons,rdI_nil,rdT_cons,rdT_nil,takesI_succ,takesI_zero,Option.map_some,Option.map_none,Option.bind_some,Option.bind_none,h1,h2,h3,h4,h5,h6,h7]
  | some e'=>
  cases h8:numW f with
  | none=>simp only [headW,rdI_cons,rdI_nil,rdT_cons,rdT_nil,takesI_succ,takesI_zero,Option.map_some,Option.map_none,Option.bind_some,Option.bind_none,h1,h2,h3,h4,h5,h6,h7,h8]
  | some f'=>
  simp only [headW,rdI_cons,rdI_nil,rdT_cons,rdT_nil,takesI_succ,takesI_zero,Option.map_some,Option.map_none,Option.bind_some,Option.bind_none,h1,h2,h3,h4,h5,h6,h7,h8]
  rfl
theorem line_head {ws:List ByteArray} {o1 o2 o3:Option (List ByteArray)} {l:Int} {nm:ByteArray} {ns:List Int} (h1:o1=(rdI (some ws)).map (·.2)) (h1':∀p,rdI (some ws)=some p→l=p.1) (h2:o2=(rdT o1).map (·.2)) (h2':∀p,rdT o1=some p→nm=p.1) (h3:o3=(takesI 6 o2).map (·.2)) (h3':∀p,takesI 6 o2=some p→ns=p.1) :
  headW ws=o3.map fun r=>(l,hdN nm 0 ns,r):=by
 rw [headW_is]
 cases e1:rdI (some ws) with
 | none=>
  rw [e1] at h1
  subst h1
  subst h2
  subst h3
  rfl
 | some p=>
  rw [e1] at h1
  have h1b:o1=some p.2:=h1
  subst h1b
  have e:=h1' p e1
  subst e
  simp only [Option.bind_some]
  cases e2:rdT (some p.2) with
  | none=>
   rw [e2] at h2
   subst h2
   subst h3
   rfl
  | some q=>
   rw [e2] at h2
   have h2b:o2=some q.2:=h2
   subst h2b
   have e:=h2' q e2
   subst e
   simp only [Option.bind_some]
   cases e3:takesI 6 (some q.2) with
   | none=>
    rw [e3] at h3
    subst h3
    rfl
   | some z=>
    rw [e3] at h3
    subst h3
    have e:=h3' z e3
    subst e
    rfl
theorem lineW_no {w0:ByteArray} {ws:List ByteArray} (hk:kindOf w0≠3):lineW (w0 :: ws)=if kindOf w0 < 0 then none else match headW ws with
  | some (l,h,r)=>
   if kindOf w0=0 then (if r=[] then some (.inr (h,l)) else none)
   else match r with
    | [x]=>match unword x with
     | some s=>if kindOf w0=1 then some (.inr ({ h with kind:=1,data:=s },l)) else some (.inr ({ h with kind:=2,target:=s },l))
     | none=>none
    | _=>none
  | none=>none:=by
 unfold lineW
 simp only []
 rw [if_neg hk]
 rfl
theorem line_bad {w0:ByteArray} {ws:List ByteArray} (hk:kindOf w0 < 0):lineW (w0 :: ws)=none:=by
 rw [lineW_no (by omega),if_pos hk]
theorem line_dir {w0:ByteArray} {ws:List ByteArray} {o3:Option (List ByteArray)} {l:Int} {h:Hd} (hk:kindOf w0=0) (hh:headW ws=o3.map fun r=>(l,h,r)):lineW (w0 :: ws)=if o3=some [] then some (.inr (h,l)) else none:=by
 rw [lineW_no (by omega),if_neg (by omega),hh]
 cases o3 with
 | none=>rfl
 | some r=>
  simp only [Option.map_some,hk,if_true]
  cases r with
  | nil=>rfl
  | cons x r=>simp
theorem line_two {w0:ByteArray} {ws:List ByteArray} {o3 o4:Option (List ByteArray)} {l:Int} {h:Hd} {x:ByteArray} (hk:kindOf w0=1∨kindOf w0=2) (hh:headW ws=o3.map fun r=>(l,h,r)) (h4:o4=(rdT o3).map (·.2)) (h4':∀p,rdT o3=some p→x=p.1) :
  lineW (w0 :: ws)=if o4=some [] then some (.inr (if kindOf w0=1 then { h with kind:=1,data:=x } else { h with kind:=2,target:=x },l)) else none:=by
 rw [lineW_no (by omega),if_neg (by omega),hh]
 cases o3 with
 | none=>subst h4;rfl
 | some r=>
  simp only [Option.map_some,if_neg (show ¬kindOf w0=0 by omega)]
  cases r with
  | nil=>subst h4;rfl
  | cons y t=>
   rw [rdT_cons] at h4 h4'
   cases hu:unword y with
   | none=>
    rw [hu] at h4
    subst h4
    cases t <;> simp [hu]
   | some s=>
    rw [hu] at h4 h4'
    have e:=h4' _ rfl
    simp only [] at e
    subst e
    subst h4
    cases t with
    | nil=>simp [hu];split <;> rfl
    | cons z t=>simp
theorem Stk.below {lo b:Nat} {st:List Tr} {O:Nat→Prop} {w w':World} (h:Stk lo b st O w) (hb:Below w.heap.size w w'):Stk lo b st O w':=by
 obtain⟨sl,h1,h2,h3⟩:=h
 exact⟨sl,Blk.below hb h1,h2.below hb,fun j hj=>⟨(h3 j hj).1,Nat.lt_of_lt_of_le (h3 j hj).2 hb.size⟩⟩
theorem Stk.top {lo b:Nat} {t:Tr} {r:List Tr} {O:Nat→Prop} {w:World} (h:Stk lo b (t :: r) O w):∃g cap,w.cell? ⟨b,0,none⟩=some (.slice (some ⟨g,0,none⟩) (r.length+1) cap)∧w.cell? ⟨g,r.length*12+1,none⟩=some (.int .i64 t.h.kind):=by
 obtain⟨sl,hb,⟨xk,Ok,hown,hrow,hok,hslO⟩,hO⟩:=h
 have eF:Fo.of (t :: r).reverse=(Fo.of r.reverse).app (.node t.h t.ss t.ks .nil):=by rw [List.reverse_cons,Fo.of_snoc]
 have hlen:(Fo.of (t :: r).reverse).len=r.length+1:=by rw [Fo.of_len,List.length_reverse,List.length_cons]
 rw [hlen] at hown
 rw [eF] at hrow
 obtain⟨x1,kva,sva,Oa,O1,rfl,hsa,hka,hr1,ho1,hoa⟩:=RowS.unsnoc hrow
 obtain⟨g,cap,cur,rfl,hlg,hB,hnc,hcm,hcs,hcx⟩:=own_blk hown (by omega)
 have hx1:x1.length=r.length*12:=by rw [hr1.len,Fo.of_len,List.length_reverse]
 refine⟨g,cap,hb.cells 0,(hB.cells _).trans (hcx _ _ ?_)⟩
 rw [←hx1,List.getElem?_append_right (by omega),Nat.add_sub_cancel_left]
 rfl
theorem tailed_snoc (c:UInt8) (pl:List UInt8):∀cl:List (List UInt8),tailed c 1 (cl++[pl])=cl.map (· ++ [c])++[pl]
 | []=>rfl
 | p :: cl=>by
  rw [List.cons_append,tailed_cons _ _ _ _ (by simp),if_pos rfl,tailed_snoc c pl cl]
  rfl
theorem pieces_no (c:UInt8):∀(l:List UInt8),∀p∈piecesC c l,c ∉ p
 | [],p,h=>by simp [piecesC] at h;subst h;simp
 | x :: l,p,h=>by
  have ih:=pieces_no c l
  rw [piecesC] at h
  split at h
  ·rcases List.mem_cons.1 h with rfl | h
   ·simp
   ·exact ih p h
  ·rename_i hx
   cases hp:piecesC c l with
   | nil=>
    rw [hp] at h
    simp at h
    subst h
    intro e
    simp at e
    exact hx e.symm
   | cons q r=>
    rw [hp] at h ih
    rcases List.mem_cons.1 h with rfl | h
    ·intro e
     rcases List.mem_cons.1 e with e | e
     ·exact hx e.symm
     ·exact ih q (List.mem_cons_self ..) e
    ·exact ih p (List.mem_cons_of_mem _ h)
theorem pieces_split (c:UInt8) (l:List UInt8):∃cl pl,piecesC c l=cl++[pl]:=⟨_,_,(List.dropLast_concat_getLast (piecesC_ne c l)).symm⟩
theorem linesOf_at {l:List UInt8} {cl:List (List UInt8)} {pl:List UInt8} (h:piecesC 10 l=cl++[pl]):linesOf l=(cl.map fun p=>⟨(p++[10]).toArray⟩)++[⟨pl.toArray⟩]:=by
 unfold linesOf
 rw [h,tailed_snoc,List.map_append,List.map_map]
 rfl
theorem suf_yes (p:List UInt8):Lib.hasSuffix (⟨(p++[10]).toArray⟩:ByteArray).data.toList [10]=true:=by
 show List.isSuffixOf [10] (p++[10])=true
 rw [List.isSuffixOf_iff_suffix]
 exact⟨p,rfl⟩
theorem suf_no {p:List UInt8} (h:(10:UInt8) ∉ p):Lib.hasSuffix (⟨p.toArray⟩:ByteArray).data.toList [10]=false:=by
 cases hh:Lib.hasSuffix (⟨p.toArray⟩:ByteArray).data.toList [10] with
 | false=>rfl
 | true=>
  have h2:List.isSuffixOf [10] p=true:=hh
  rw [List.isSuffixOf_iff_suffix] at h2
  exact absurd (h2.subset (List.mem_singleton.2 rfl)) h
theorem pieces_size (c:UInt8):∀(l:List UInt8),∀p∈piecesC c l,p.length≤l.length
 | [],p,h=>by simp [piecesC] at h;subst h;simp
 | x :: l,p,h=>by
  have ih:=pieces_size c l
  rw [piecesC] at h
  rw [List.length_cons]
  split at h
  ·rcases List.mem_cons.1 h with rfl | h
   ·simp
   ·have:=ih p h;omega
  ·cases hp:piecesC c l with
   | nil=>
    rw [hp] at h
    simp at h
    subst h
    simp
   | cons q r=>
    rw [hp] at h ih
    rcases List.mem_cons.1 h with rfl | h
    ·have:=ih q (List.mem_cons_self ..)
     rw [List.length_cons];omega
    ·have:=ih p (List.mem_cons_of_mem _ h);omega
theorem pieces_len (c:UInt8):∀(l:List UInt8),(piecesC c l).length≤l.length+1
 | []=>Nat.le_refl _
 | x :: l=>by
  have ih:=pieces_len c l
  rw [piecesC]
  split
  ·rw [List.length_cons,List.length_cons];omega
  ·cases hp:piecesC c l with
   | nil=>simp
   | cons q r=>
    rw [hp] at ih
    simp only [List.length_cons] at ih ⊢
    omega
theorem linesS_next {l:List UInt8} {r:List (List UInt8)} {i:Nat} {st:List Tr}:linesS (l :: r) i st=match stepS st (wordsOf l) with
 | some st=>linesS r (i+1) st
 | none=>.error (i+1):=rfl
theorem results_cell3 {P:Program} {fn:Func} {p q q2:Tmp} {ty:TypeId} (h:fn.results=#[.cell p ty,.tmp q,.tmp q2]) (tmps:Array Value) (w:World) (g:Nat) (t:TypeId) (cs:Array Value) (fr:Nat × Nat) (d:TypeDesc)
  (hp:tmps.getD p undef=.pointer (some ⟨g,0,none⟩)) (hg:w.heap[g]? = some (.cells cs t fr)) (v v2:Value) (hq:tmps.getD q undef=v) (hq2:tmps.getD q2 undef=v2)
  (hu:P.underlying ty=some d) (hd:(match d with | .struct _ | .array _ _=>true | _=>false)=true) (hi:(P.info? ty).map (·.size)=some cs.size) :
  (results fn tmps).run P w=.ok (.tuple #[.agg cs,v,v2]) w:=by
 have hp':tmps[p]?.getD undef=.pointer (some ⟨g,0,none⟩):=by simpa using hp
 have hq':tmps[q]?.getD undef=v:=by simpa using hq
 have hq2':tmps[q2]?.getD undef=v2:=by simpa using hq2
 simp [results,h,hp',hq',hq2',asAddr,run_loadVar_row w g t ty cs fr d hg hu hd hi]
def ParP (s:ByteArray) (w:World) (e:Ending) (w':World):Prop:=∃r,e=.returned (.tuple #[r,.int .i64 (parseT s).2.1,.int .i64 (parseT s).2.2])∧TreeR w' w'.heap.size r (parseT s).1∧Below w.heap.size w w'
theorem par_err {s:ByteArray} {w W:World} {b2:Nat} {i k:Int} (a:Act) (hd:a.defers=[]) (h2:a.tmps.getD 2 undef=.pointer (some ⟨b2,0,none⟩)) (h3:a.tmps.getD 3 undef=.int .i64 i) (h4:a.tmps.getD 4 undef=.int .i64 k) (hB:Blk W b2 zeroN 25) (hD:parseT s=(Tr.zero,i,k)) (hbel:Below w.heap.size w W) :
  bodyPost Tryz.prog Tryz.f36 (ParP s w) .ret a W:=
 bodyPost_ret (results_cell3 Tryz.results36 a.tmps W b2 25 zeroN (0,0) _ h2 hB _ _ h3 h4 Tryz.underlying25 rfl (infN rfl)) hd ⟨_,by rw [hD],by rw [hD];exact zero_reads _ _,hbel⟩
theorem store_two {w2:World} {lo ob gk ck m:Nat} {xk:List Value} {AC:Array Value} {v0 v:Value} {T:TypeId} (hob:ob≠gk) (hBo:Blk w2 ob #[v0] T) (hown:w2.ownsRow lo 25 12 (.slice (some ⟨gk,0,none⟩) (m+1) ck) (m+1) (xk++zeroN.toList)) (hxk:xk.length=m*12) (h12:AC.size=12) (W:World)
  (hW:W=(w2.setCells gk (m*12) AC.toList).setCell ⟨ob,0,none⟩ v∨W=(w2.setCell ⟨ob,0,none⟩ v).setCells gk (m*12) AC.toList) :
  FrO (fun j=>j=ob∨j=gk) w2 W∧Blk W ob #[v] T∧W.ownsRow lo 25 12 (.slice (some ⟨gk,0,none⟩) (m+1) ck) (m+1) (xk++AC.toList):=by
 have e:=setsL_app AC.toList xk zeroN.toList [] (by show 12=_;rw [Array.length_toList,h12])
 rw [hxk,List.append_nil,List.append_nil] at e
 have hne:(Value.slice (some ⟨gk,0,none⟩) (m+1) ck).ownBlock≠some ob:=fun h=>hob (Option.some.inj h).symm
 rcases hW with rfl | rfl
 ·have h1:=own_cells AC.toList (m*12) _ _ hown
  rw [e] at h1
  have hb1:Blk (w2.setCells gk (m*12) AC.toList) ob #[v0] T:=(FrO.sets (O:=fun j=>j=gk) rfl _ _ _).blk hBo hob
  exact⟨(FrO.sets (O:=fun j=>j=ob∨j=gk) (Or.inr rfl) _ _ _).trans (FrO.set (O:=fun j=>j=ob∨j=gk) (Or.inl rfl)) (fun j h=>Or.inl h),hb1.put rfl,own_set h1 hne⟩
 ·have h1:=own_cells AC.toList (m*12) _ _ (own_set (i:=0) (u:=v) hown hne)
  rw [e] at h1
  have hb1:Blk (w2.setCell ⟨ob,0,none⟩ v) ob #[v] T:=hBo.put rfl
  exact⟨(FrO.set (O:=fun j=>j=ob∨j=gk) (Or.inl rfl)).trans (FrO.sets (O:=fun j=>j=ob∨j=gk) (Or.inr rfl) _ _ _) (fun j h=>Or.inl h),(FrO.sets (O:=fun j=>j=gk) rfl _ _ _).blk hb1 hob,h1⟩
theorem there_own {w:World} {lo gk ck m:Nat} {xs:List Value} (h:w.ownsRow lo 25 12 (.slice (some ⟨gk,0,none⟩) (m+1) ck) (m+1) xs):w.there gk (m*12) 12:=by
 obtain⟨g,cap,cur,hs,hl,hB,hnc,hcm,hcs,hcx⟩:=own_blk h (by omega)
 injection hs with hs1 hs2 hs3
 injection hs1 with hs1
 injection hs1 with hs1
 subst hs1
 exact fun j hj=>⟨by rw [hB.cells,Array.getElem?_eq_getElem (show m*12+j < cur.size by rw [hcs];have h2:=Nat.mul_le_mul_right 12 hnc;omega)];rfl,hB.free _⟩
theorem Stk.one {lo b:Nat} {t:Tr} {O:Nat→Prop} {w:World} (h:Stk lo b [t] O w):∃(g cap:Nat) (A:Option Addr) (n c:Nat) (A2:Option Addr) (n2 c2:Nat),Blk w b #[.slice (some ⟨g,0,none⟩) 1 cap] 22∧w.rangeAt g 0 (t.h.cells (.slice A n c) (.slice A2 n2 c2)).toList∧OwnT w lo (.agg (t.h.cells (.slice A n c) (.slice A2 n2 c2))) t∧g < w.heap.size∧lo≤g:=by
 obtain⟨sl,hb,⟨xk,Ok,hown,hrow,hok,hslO⟩,hO⟩:=h
 have eF:Fo.of [t].reverse=.node t.h t.ss t.ks .nil:=rfl
 rw [eF] at hown hrow
 obtain⟨kv,sv,xs',O1,On,e,hs,hk,hn,h3,_⟩:=hrow
 have hk':KidS w lo kv t.ks O1:=hk
 obtain⟨A,c,rfl⟩:=hk'.slice
 obtain⟨A2,c2,rfl⟩:=own_slice hs
 obtain⟨g,cap,cur,rfl,hlg,hB,hnc,hcm,hcs,hcx⟩:=own_blk hown (by rw [Fo.len_node];omega)
 refine⟨g,cap,A,_,c,A2,_,c2,hb,rangeAt_of fun j u hj=>?_,⟨_,_,O1,rfl,hs,hk',fun j hj=>hO j (hok j (h3 j hj).1).1⟩,hB.lt,hlg⟩
 rw [Nat.zero_add]
 refine(hB.cells _).trans (hcx _ _ ?_)
 rw [e,List.getElem?_append_left (List.getElem?_eq_some_iff.1 hj).1]
 exact hj
theorem popS_len (st:List Tr):(popS st).length=if 2≤st.length then st.length - 1 else st.length:=by
 match st with
 | []=>rfl
 | [a]=>rfl
 | a :: b :: r=>simp [popS]
theorem leave_one:∀(n:Nat) (st:List Tr),st≠[]→st.length≤n→∃t,leaveS 1 n st=[t]
 | 0,st,h,hn=>absurd (List.eq_nil_of_length_eq_zero (by omega)) h
 | n+1,st,h,hn=>by
  rw [leaveS]
  have h0:0 < st.length:=List.length_pos_iff.2 h
  split
  ·rename_i h1
   have hp:=popS_len st
   rw [if_pos (by omega)] at hp
   exact leave_one n (popS st) (fun e=>by rw [e] at hp;simp at hp;omega) (by omega)
  ·rename_i h1
   have h2:st.length=1:=by omega
   match st,h2 with
   | [a],_=>exact⟨a,rfl⟩
theorem par_ok {s:ByteArray} {w W:World} {b2:Nat} {AC:Array Value} {t:Tr} (a:Act) (hd:a.defers=[]) (h2:a.tmps.getD 2 undef=.pointer (some ⟨b2,0,none⟩)) (h3:a.tmps.getD 3 undef=.int .i64 0) (h4:a.tmps.getD 4 undef=.int .i64 0) (hz:AC.size=12) (hB:Blk W b2 AC 25) (hD:parseT s=(t,0,0)) (hT:TreeR W W.heap.size (.agg AC) t) (hbel:Below w.heap.size w W) :
  bodyPost Tryz.prog Tryz.f36 (ParP s w) .ret a W:=
 bodyPost_ret (results_cell3 Tryz.results36 a.tmps W b2 25 AC (0,0) _ h2 hB _ _ h3 h4 Tryz.underlying25 rfl (infN hz)) hd ⟨_,by rw [hD],by rw [hD];exact hT,hbel⟩
theorem Rd.grow {b:Nat} {o:Option (List ByteArray)} {w w':World} (h:Rd b o w) (hb:Below w.heap.size w w'):Rd b o w':=h.fr (FrO.of (O:=fun _=>False) hb) (fun _ _ h=>h)
theorem Rd.new (ws:List ByteArray) (hz:∀s∈ws,s.size≤100000) (hl:ws.length≤100000) (w:World):Rd (w.heap.size+1) (some ws) ((w.alloc (.cells (ws.map Value.string).toArray 9)).alloc (.cells #[.slice (some ⟨w.heap.size,0,none⟩) ws.length ws.length,.bool true] 95)):=by
 refine⟨true,ws,some ⟨w.heap.size,0,none⟩,rfl,Blk.newAt (by rw [World.size_alloc]),fun _=>⟨w.heap.size,0,rfl,by omega,fun j s hj=>?_⟩,hz,hl⟩
 refine(((Blk.new w _ _).alloc _).cells _).trans ?_
 rw [Nat.zero_add,List.getElem?_toArray,List.getElem?_map,hj]
 rfl
theorem built_hd (nm:ByteArray) (kd:Int):Tryz.prog.built 25 [(1,.int .i64 kd),(0,.string nm)]=some ((hdN nm kd []).cells (.slice none 0 0) (.slice none 0 0)):=by kernel_rfl
def ptrC (nb:Nat):Array Value:=#[.pointer (some ⟨nb,4,none⟩),.pointer (some ⟨nb,5,none⟩),.pointer (some ⟨nb,6,none⟩),.pointer (some ⟨nb,7,none⟩),.pointer (some ⟨nb,8,none⟩),.pointer (some ⟨nb,9,none⟩)]
theorem ptr_get (nb:Nat):∀k:Nat,k < 6→(ptrC nb)[k]? = some (.pointer (some ⟨nb,4+k,none⟩))
 | 0,_=>rfl
 | 1,_=>rfl
 | 2,_=>rfl
 | 3,_=>rfl
 | 4,_=>rfl
 | 5,_=>rfl
 | k+6,h=>absurd h (by omega)
def topK (st:List Tr):Bool:=match st with | []=>true | t :: _=>decide (t.h.kind=0)
def mostS (st:List Tr):Nat:=if topK st then st.length+1 else st.length
theorem mostS_is (st:List Tr):mostS st=(match st with | []=>1 | t :: _=>if t.h.kind=0 then st.length+1 else st.length:Nat):=by
 cases st with
 | nil=>rfl
 | cons t r=>
  by_cases h:t.h.kind=0
  ·simp [mostS,topK,h]
  ·simp [mostS,topK,h]
theorem stepS_node {st:List Tr} {ws:List ByteArray} {h:Hd} {l:Int} (e:lineW ws=some (.inr (h,l))):stepS st ws=if (mostS st:Int) < l∨(l < 2∧st≠[])∨l < 1 then none else some (⟨h,[],.nil⟩ :: leaveS (l.toNat - 1) st.length st):=by
 unfold stepS
 rw [e,mostS_is]
 cases st <;> rfl
theorem stepS_none {st:List Tr} {ws:List ByteArray} (e:lineW ws=none):stepS st ws=none:=by
 unfold stepS
 rw [e]
def kindC:Array Value:=#[.string wDir,.string wFile,.string wLink,.string wStream]
theorem kinds_get:∀(j:Nat) (s:ByteArray),kinds[j]? = some s→kindC[j]? = some (.string s)
 | 0,s,h=>by injection h with h;subst h;rfl
 | 1,s,h=>by injection h with h;subst h;rfl
 | 2,s,h=>by injection h with h;subst h;rfl
 | 3,s,h=>by injection h with h;subst h;rfl
 | j+4,s,h=>by simp [kinds] at h
theorem kind_cells {w:World} {k:Nat} (h:Blk w k kindC 9) (j:Nat) (s:ByteArray) (hj:kinds[j]? = some s):w.cell? ⟨k,j,none⟩=some (.string s):=(h.cells j).trans (kinds_get j s hj)
end Go.Proofs.YtlhakdildbplkaaGreatDoor
