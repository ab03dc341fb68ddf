/- Part of the claim: its words. -/
import Derived.Lib.ItoaNum
import Derived.Test.YtlhakdildbplkaaGreatDoorG11
import Derived.Lib.AtoiAll
import Derived.Sort.Walk0
import Derived.Deep.DeepAppendRoom
set_option maxHeartbeats 2000000
set_option maxRecDepth 100000
namespace Go.Proofs.YtlhakdildbplkaaGreatDoor
set_option linter.unusedSimpArgs false
set_option linter.unusedVariables false
def kindW (k:Int):List UInt8:=if k=0 then [100,105,114,101,99,116,111,114,121] else if k=1 then [102,105,108,101] else [115,121,109,108,105,110,107]
def spI (n:Int):List UInt8:=32 :: Lib.itoa n
def spW (s:ByteArray):List UInt8:=32 :: (wordS s).data.toList
def headL (h:Hd) (l:Nat):List UInt8:=spI l++spW h.name++spI h.mode++spI h.uid++spI h.gid++spI h.time++spI h.weight++spI h.hidden
def tailL (h:Hd):List UInt8:=if h.kind=1 then spW h.data else if h.kind=2 then spW h.target else []
def strmL (s:St):List UInt8:=[115,116,114,101,97,109]++spW s.1++spW s.2++[10]
def nodeL (t:Tr) (l:Nat):List UInt8:=kindW t.h.kind++headL t.h l++tailL t.h++[10]++t.ss.flatMap strmL
def linesF:Fo→Nat→List UInt8
 | .nil,_=>[]
 | .node h ss ks nx,l=>nodeL ⟨h,ss,ks⟩ (l+1)++linesF ks (l+1)++linesF nx l
def linesT (t:Tr):List UInt8:=nodeL t 1++linesF t.ks 1
def formatT (t:Tr):ByteArray × Int:=if validB t=false then (eS,1) else if 65536 < (linesT t).length then (eS,7) else (⟨(linesT t).toArray⟩,0)
def fmtStep (s:List UInt8) (t:Tr) (_:ByteArray) (l:Nat):Bool × List UInt8:=(decide ((s++nodeL t l).length≤65536),s++nodeL t l)
theorem walk_fmt:∀(f:Fo) (p:ByteArray) (l:Nat) (s:List UInt8),s.length≤65536 →
  ((walkF fmtStep f p l s).1=true∧(walkF fmtStep f p l s).2=s++linesF f l∧(s++linesF f l).length≤65536) ∨
  ((walkF fmtStep f p l s).1=false∧65536 < (walkF fmtStep f p l s).2.length∧(walkF fmtStep f p l s).2.length≤(s++linesF f l).length)
 | .nil,_,_,s,h=>Or.inl ⟨rfl,(List.append_nil s).symm,by rw [linesF,List.append_nil];exact h⟩
 | .node h ss ks nx,p,l,s,hs=>by
  unfold walkF linesF
  by_cases h1:(s++nodeL ⟨h,ss,ks⟩ (l+1)).length≤65536
  ·have e:fmtStep s ⟨h,ss,ks⟩ (belowP p h.name l) (l+1)=(true,s++nodeL ⟨h,ss,ks⟩ (l+1)):=by unfold fmtStep;rw [decide_eq_true h1]
   rw [e]
   dsimp only
   rw [if_pos rfl]
   rcases walk_fmt ks (belowP p h.name l) (l+1) _ h1 with⟨a1,a2,a3⟩ | ⟨a1,a2,a3⟩
   ·rw [if_pos a1,a2]
    rcases walk_fmt nx p l _ a3 with⟨b1,b2,b3⟩ | ⟨b1,b2,b3⟩
    ·left
     refine⟨b1,?_,?_⟩
     ·rw [b2];simp
     ·simpa using b3
    ·right
     refine⟨b1,b2,?_⟩
     simpa using b3
   ·rw [if_neg (by rw [a1];decide)]
    right
    refine⟨a1,a2,?_⟩
    simp only [List.length_append] at a3 ⊢
    omega
  ·have e:fmtStep s ⟨h,ss,ks⟩ (belowP p h.name l) (l+1)=(false,s++nodeL ⟨h,ss,ks⟩ (l+1)):=by unfold fmtStep;rw [decide_eq_false h1]
   rw [e]
   dsimp only
   rw [if_neg (by decide)]
   right
   refine⟨rfl,Nat.lt_of_not_le h1,?_⟩
   simp only [List.length_append]
   omega
def numW (w:ByteArray):Option Int:=match Lib.atoiAll w.data.toList with
 | .ok n=>if Lib.itoa n=w.data.toList then some n else none
 | _=>none
def wDir:ByteArray:=⟨#[100,105,114,101,99,116,111,114,121]⟩
def wFile:ByteArray:=⟨#[102,105,108,101]⟩
def wLink:ByteArray:=⟨#[115,121,109,108,105,110,107]⟩
def wStream:ByteArray:=⟨#[115,116,114,101,97,109]⟩
def kindOf (w:ByteArray):Int:=if w=wDir then 0 else if w=wFile then 1 else if w=wLink then 2 else if w=wStream then 3 else -1
def headW:List ByteArray→Option (Int × Hd × List ByteArray)
 | l :: n :: a :: b :: c :: d :: e :: f :: r=>
  match numW l,unword n,numW a,numW b,numW c,numW d,numW e,numW f with
  | some l,some n,some a,some b,some c,some d,some e,some f=>some (l,⟨n,0,eS,eS,a,b,c,d,e,f⟩,r)
  | _,_,_,_,_,_,_,_=>none
 | _=>none
def lineW:List ByteArray→Option (St ⊕ (Hd × Int))
 | []=>none
 | w :: ws=>
  if kindOf w=3 then match ws with
   | [a,b]=>match unword a,unword b with
    | some a,some b=>some (.inl (a,b))
    | _,_=>none
   | _=>none
  else if kindOf w < 0 then none
  else match headW ws with
   | some (l,h,r)=>
    if kindOf w=0 then (if r=[] then some (.inr (h,l)) else none)
    else match r with
     | [x]=>match unword x with
      | some s=>if kindOf w=1 then some (.inr ({ h with kind:=1,data:=s },l)) else some (.inr ({ h with kind:=2,target:=s },l))
      | none=>none
     | _=>none
   | none=>none
def popS:List Tr→List Tr
 | a :: b :: r=>⟨b.h,b.ss,b.ks.app (.node a.h a.ss a.ks .nil)⟩ :: r
 | l=>l
def leaveS (k:Nat):Nat→List Tr→List Tr
 | 0,l=>l
 | n+1,l=>if k < l.length then leaveS k n (popS l) else l
def stepS (st:List Tr) (ws:List ByteArray):Option (List Tr):=match lineW ws with
 | none=>none
 | some (.inl s)=>match st with
  | t :: r=>if t.h.kind=1 then some (⟨t.h,t.ss++[s],t.ks⟩ :: r) else none
  | []=>none
 | some (.inr (h,l))=>
  if ((match st with | []=>1 | t :: _=>if t.h.kind=0 then st.length+1 else st.length:Nat):Int) < l∨(l < 2∧st≠[])∨l < 1 then none
  else some (⟨h,[],.nil⟩ :: leaveS (l.toNat - 1) st.length st)
def piecesC (c:UInt8):List UInt8→List (List UInt8)
 | []=>[[]]
 | x :: l=>if x=c then [] :: piecesC c l else match piecesC c l with
  | p :: r=>(x :: p) :: r
  | []=>[[x]]
def wordsOf (l:List UInt8):List ByteArray:=(piecesC 32 l).map fun p=>⟨p.toArray⟩
def linesS:List (List UInt8)→Nat→List Tr→Except Nat (List Tr)
 | [],_,st=>.ok st
 | l :: r,i,st=>match stepS st (wordsOf l) with
  | some st=>linesS r (i+1) st
  | none=>.error (i+1)
def parseT (s:ByteArray):Tr × Int × Int:=
 if 65536 < s.size then (Tr.zero,0,7)
 else match linesS (piecesC 10 s.data.toList).dropLast 0 [] with
  | .error i=>(Tr.zero,i,3)
  | .ok st=>
   if (piecesC 10 s.data.toList).length < 2∨(piecesC 10 s.data.toList).getLast? ≠ some [] then (Tr.zero,(piecesC 10 s.data.toList).length,3)
   else match leaveS 1 st.length st with
    | [t]=>if (checkT t).2≠0 then (Tr.zero,0,(checkT t).2) else (t,0,0)
    | _=>(Tr.zero,0,0)
theorem partsL_snoc:∀(a b p:List UInt8),(∀c∈b,c≠47)→partsL (a++47 :: b) p=partsL a p++[b]
 | [],b,p,h=>by
  rw [List.nil_append,partsL,partsL,if_pos rfl,partsL_none b [] h]
  rfl
 | c :: a,b,p,h=>by
  rw [List.cons_append,partsL,partsL]
  split
  ·rw [partsL_snoc a b [] h];rfl
  ·rw [partsL_snoc a b (p++[c]) h]
theorem words_bytes (s:ByteArray):(words s).map (·.data.toList)=partsL s.data.toList []:=split_parts s.size s (Nat.le_refl _)
theorem bytes_inj {a b:ByteArray} (h:a.data.toList=b.data.toList):a=b:=ByteArray.ext (Array.toList_inj.1 h)
theorem map_bytes_inj {a b:List ByteArray} (h:a.map (·.data.toList)=b.map (·.data.toList)):a=b:=by
 induction a generalizing b with
 | nil=>cases b with
  | nil=>rfl
  | cons y b=>simp at h
 | cons x a ih=>cases b with
  | nil=>simp at h
  | cons y b=>
   rw [List.map_cons,List.map_cons,List.cons.injEq] at h
   rw [bytes_inj h.1,ih h.2]
theorem words_one {p:ByteArray} (h:∀c∈p.data.toList,c≠47):words p=[p]:=by
 apply map_bytes_inj
 rw [words_bytes,partsL_none _ _ h]
 rfl
theorem words_cut {p a b:ByteArray} (e:p.data.toList=a.data.toList++47 :: b.data.toList) (h:∀c∈b.data.toList,c≠47):words p=words a++[b]:=by
 apply map_bytes_inj
 rw [List.map_append,words_bytes,words_bytes,e,partsL_snoc _ _ _ h]
 rfl
def updT:List ByteArray→Tr→Fo→Tr
 | [],t,f=>⟨t.h,t.ss,f⟩
 | n :: l,t,f=>match kidI t.ks n with
  | some i=>match t.ks.list[i]? with
   | some k=>⟨t.h,t.ss,t.ks.setAt i (updT l k f)⟩
   | none=>t
  | none=>t
theorem updT_cons {t k:Tr} {n:ByteArray} {i:Nat} (h1:kidI t.ks n=some i) (h2:t.ks.list[i]? = some k) (l:List ByteArray) (f:Fo):updT (n :: l) t f=⟨t.h,t.ss,t.ks.setAt i (updT l k f)⟩:=by
 conv=>lhs;unfold updT
 rw [h1]
 dsimp only
 rw [h2]
theorem updT_snoc {x k:Tr} {n:ByteArray} {i:Nat} (h1:kidI x.ks n=some i) (h2:x.ks.list[i]? = some k) (f:Fo):∀(p:List ByteArray) (t:Tr),findT t p=some x→updT (p++[n]) t f=updT p t (x.ks.setAt i ⟨k.h,k.ss,f⟩)
 | [],t,h=>by
  have e:t=x:=by rw [findT_nil] at h;injection h
  subst e
  rw [List.nil_append,updT_cons h1 h2]
  rfl
 | m :: p,t,h=>by
  cases hm:kidI t.ks m with
  | none=>rw [findT_miss (kid_none hm)] at h;cases h
  | some j=>
   obtain⟨y,e1,e2,-⟩:=kid_some hm
   rw [findT_hit e2] at h
   rw [List.cons_append,updT_cons hm e1,updT_cons hm e1,updT_snoc h1 h2 f p y h]
theorem Way.upd {t x:Tr} {p:List ByteArray} {U:Fo→Tr} (h:Way t p x U):∀f,U f=updT p t f:=by
 induction h with
 | here=>intro f;rfl
 | kid h h1 h2 ih=>
  intro f
  rw [updT_snoc h1 h2 f _ _ h.find]
  exact ih _
def Fo.dropAt:Fo→Nat→Fo
 | .nil,_=>.nil
 | .node _ _ _ nx,0=>nx
 | .node h ss ks nx,i+1=>.node h ss ks (nx.dropAt i)
theorem Fo.dropAt_list:∀(f:Fo) (i:Nat),(f.dropAt i).list=f.list.eraseIdx i
 | .nil,_=>rfl
 | .node _ _ _ nx,0=>rfl
 | .node h ss ks nx,i+1=>by rw [Fo.dropAt,Fo.list,Fo.list,List.eraseIdx_cons_succ,Fo.dropAt_list nx]
theorem Fo.dropAt_len {f:Fo} {i:Nat} (h:i < f.len):(f.dropAt i).len=f.len - 1:=by
 rw [←Fo.list_len,Fo.dropAt_list,List.length_eraseIdx,Fo.list_len,if_pos h]
/-! Removing: what the program does. -/
def dirs (p:ByteArray):List ByteArray:=(words p).dropLast
def base (p:ByteArray):ByteArray:=(words p).getLast?.getD eS
theorem dirs_cut {p a b:ByteArray} (e:p.data.toList=a.data.toList++47 :: b.data.toList) (h:∀c∈b.data.toList,c≠47):dirs p=words a∧base p=b:=by
 unfold dirs base
 rw [words_cut e h]
 simp
theorem dirs_one {p:ByteArray} (h:∀c∈p.data.toList,c≠47):dirs p=[]∧base p=p:=by
 unfold dirs base
 rw [words_one h]
 exact⟨rfl,rfl⟩
def remQ (t:Tr) (p:ByteArray):Tr × Int:=if validB t=false then (Tr.zero,1) else if p=eS then (Tr.zero,8) else match findT t (dirs p) with
 | none=>(Tr.zero,6)
 | some x=>match kidI x.ks (base p) with
  | none=>(Tr.zero,6)
  | some i=>(updT (dirs p) t (x.ks.dropAt i),0)
/-! What a valid tree's nodes are. -/
theorem firstE_zero {l:List Int} (h:firstE l=0):∀e∈l,e=0:=by
 induction l with
 | nil=>intro e he;cases he
 | cons a l ih=>
  rw [firstE] at h
  by_cases ha:a=0
  ·rw [if_neg (fun h=>h ha)] at h
   intro e he
   cases he with
   | head=>exact ha
   | tail _ he=>exact ih h e he
  ·rw [if_pos ha] at h
   exact absurd h ha
theorem oneE_name {t:Tr} {l:Nat} (h:oneE t l=0) (hl:1 < l):nameB t.h.name=true:=by
 have:=firstE_zero h (nameE t.h l) (by simp)
 unfold nameE at this
 split at this
 ·cases this
 ·rename_i h2
  cases hn:nameB t.h.name with
  | true=>rfl
  | false=>exact absurd (Or.inr ⟨hl,hn⟩) h2
theorem oneE_kids {t:Tr} {l:Nat} (h:oneE t l=0):kidsE t.ks.names=0:=firstE_zero h _ (by simp)
theorem oneE_size {t:Tr} {l:Nat} (h:oneE t l=0):largeB t l=false:=by
 have:=firstE_zero h (sizeE t l) (by simp)
 unfold sizeE at this
 cases hb:largeB t l with
 | false=>rfl
 | true=>rw [hb] at this;cases this
theorem chkF_none {h:Hd} {ss:List St} {ks nx:Fo} {p:ByteArray} {l:Nat} (e:chkF (.node h ss ks nx) p l=none):oneE ⟨h,ss,ks⟩ (l+1)=0∧chkF ks (belowP p h.name l) (l+1)=none∧chkF nx p l=none:=by
 rw [chkF] at e
 by_cases h1:oneE ⟨h,ss,ks⟩ (l+1)=0
 ·rw [if_neg (fun h=>h h1)] at e
  cases hk:chkF ks (belowP p h.name l) (l+1) with
  | some r=>rw [hk] at e;cases e
  | none=>rw [hk] at e;exact⟨h1,rfl,e⟩
 ·rw [if_pos h1] at e
  cases e
theorem chkF_at:∀ {f:Fo} {p:ByteArray} {l i:Nat} {k:Tr},chkF f p l=none→f.list[i]? = some k→oneE k (l+1)=0∧chkF k.ks (belowP p k.h.name l) (l+1)=none
 | .nil,_,_,_,_,_,h=>by simp [Fo.list] at h
 | .node h ss ks nx,p,l,0,k,e,hi=>by
  have e2:(⟨h,ss,ks⟩:Tr)=k:=by simpa [Fo.list] using hi
  subst e2
  obtain⟨h1,h2,-⟩:=chkF_none e
  exact⟨h1,h2⟩
 | .node h ss ks nx,p,l,i+1,k,e,hi=>chkF_at (chkF_none e).2.2 (show nx.list[i]? = some k by simpa [Fo.list] using hi)
theorem valid_chk {t:Tr} (h:validB t=true):t.count≤256∧oneE t 1=0∧chkF t.ks eS 1=none:=by
 unfold validB checkT at h
 have h:=of_decide_eq_true h
 split at h
 ·cases h
 ·rename_i hc
  refine⟨by omega,?_⟩
  have hn:chkT t=none:=by
   cases hk:chkT t with
   | none=>rfl
   | some r=>
    rw [hk] at h
    unfold chkT at hk
    split at hk
    ·rename_i h1
     injection hk with hk
     subst hk
     exact absurd h h1
    ·exact absurd h (chkF_ne _ _ _ _ hk)
  unfold chkT at hn
  split at hn
  ·cases hn
  ·rename_i h1
   exact⟨by omega,hn⟩
theorem nameB_empty:nameB eS=false:=by decide +kernel
theorem kidF_empty {f:Fo} {p:ByteArray} {l:Nat} (h:chkF f p l=none) (hl:1≤l):kidF f eS=none:=by
 cases hi:kidI f eS with
 | none=>exact kid_none hi
 | some i=>
  obtain⟨k,h1,h2,h3⟩:=kid_some hi
  have:=oneE_name (chkF_at h h1).1 (by omega)
  rw [h3,nameB_empty] at this
  cases this
theorem remQ_no {t:Tr} {p:ByteArray} (h:validB t=false):remQ t p=(Tr.zero,1):=by unfold remQ;rw [if_pos h]
theorem remQ_root {t:Tr} (h:validB t=true):remQ t eS=(Tr.zero,8):=by unfold remQ;rw [if_neg (by rw [h];decide),if_pos rfl]
theorem remQ_go {t:Tr} {p:ByteArray} (h:validB t=true) (hp:p≠eS):remQ t p=match findT t (dirs p) with
 | none=>(Tr.zero,6)
 | some x=>match kidI x.ks (base p) with
  | none=>(Tr.zero,6)
  | some i=>(updT (dirs p) t (x.ks.dropAt i),0):=by
 conv=>lhs;unfold remQ
 rw [if_neg (by rw [h];decide),if_neg hp]
theorem remQ_none {t:Tr} {p:ByteArray} (h:validB t=true) (hp:p≠eS) (hf:findT t (dirs p)=none):remQ t p=(Tr.zero,6):=by rw [remQ_go h hp,hf]
theorem remQ_miss {t x:Tr} {p:ByteArray} (h:validB t=true) (hp:p≠eS) (hf:findT t (dirs p)=some x) (hk:kidI x.ks (base p)=none):remQ t p=(Tr.zero,6):=by rw [remQ_go h hp,hf];dsimp only;rw [hk]
theorem remQ_hit {t x:Tr} {p:ByteArray} {i:Nat} (h:validB t=true) (hp:p≠eS) (hf:findT t (dirs p)=some x) (hk:kidI x.ks (base p)=some i):remQ t p=(updT (dirs p) t (x.ks.dropAt i),0):=by rw [remQ_go h hp,hf];dsimp only;rw [hk]
theorem words_nil2:words eS=[eS]:=by decide +kernel
theorem remQ_slash {t:Tr} {p b:ByteArray} (h:validB t=true) (e:p.data.toList=47 :: b.data.toList) (hb:∀c∈b.data.toList,c≠47):remQ t p=(Tr.zero,6):=by
 have hp:p≠eS:=by
  intro e2
  rw [e2] at e
  cases e
 obtain⟨h1,h2,h3⟩:=valid_chk h
 refine remQ_none h hp ?_
 rw [(dirs_cut (a:=eS) (b:=b) e hb).1,words_nil2]
 exact findT_miss (kidF_empty h3 (Nat.le_refl _))
theorem blt_iff (a b:ByteArray):bltB a b=true↔a.toList < b.toList:=by unfold bltB;rw [bytesLess_eq,decide_eq_true_iff]
theorem blt_not (a b:ByteArray):bltB a b=false↔¬a.toList < b.toList:=by rw [←blt_iff];simp
theorem toL_inj {a b:ByteArray} (h:a.toList=b.toList):a=b:=bytes_inj (by rw [←ByteArray.toList_eq,←ByteArray.toList_eq];exact h)
theorem blt_trans {a b c:ByteArray} (h1:bltB a b=true) (h2:bltB b c=true):bltB a c=true:=by
 rw [blt_iff] at *
 exact List.lt_trans h1 h2
theorem blt_total {a b:ByteArray} (h1:bltB a b=false) (h2:bltB b a=false):a=b:=by
 rw [blt_not] at h1 h2
 exact toL_inj (List.le_antisymm h2 h1)
theorem ordE_zero {a b:ByteArray} (h:ordE a b=0):bltB a b=true:=by
 unfold ordE at h
 split at h
 ·cases h
 ·rename_i h1
  split at h
  ·cases h
  ·rename_i h2
   cases hb:bltB a b with
   | true=>rfl
   | false=>exact absurd (blt_total hb (by unfold bltB;simpa using h2)) h1
def SortedN (l:List ByteArray):Prop:=l.Pairwise fun a b=>bltB a b=true
theorem kidsE_sorted:∀ {l:List ByteArray},kidsE l=0→SortedN l
 | [],_=>List.Pairwise.nil
 | [a],_=>List.pairwise_singleton _ _
 | a :: b :: l,h=>by
  rw [kidsE] at h
  by_cases h1:ordE a b=0
  ·rw [if_neg (fun h=>h h1)] at h
   have ih:=kidsE_sorted h
   refine List.Pairwise.cons (fun c hc=>?_) ih
   cases hc with
   | head=>exact ordE_zero h1
   | tail _ hc=>exact blt_trans (ordE_zero h1) (List.rel_of_pairwise_cons ih hc)
  ·rw [if_pos h1] at h
   exact absurd h h1
theorem Fo.names_map:∀f:Fo,f.names=f.list.map (·.h.name)
 | .nil=>rfl
 | .node h ss ks nx=>by rw [Fo.names,Fo.list,List.map_cons,Fo.names_map nx]
theorem Fo.names_at {f:Fo} {i:Nat} {k:Tr} (h:f.list[i]? = some k):f.names[i]? = some k.h.name:=by rw [Fo.names_map,List.getElem?_map,h];rfl
theorem Fo.names_len (f:Fo):f.names.length=f.len:=by rw [Fo.names_map,List.length_map,Fo.list_len]
theorem sorted_lt {l:List ByteArray} (h:SortedN l) {i j:Nat} {a b:ByteArray} (hij:i < j) (ha:l[i]? = some a) (hb:l[j]? = some b):bltB a b=true:=by
 obtain⟨h1,e1⟩:=List.getElem?_eq_some_iff.1 ha
 obtain⟨h2,e2⟩:=List.getElem?_eq_some_iff.1 hb
 rw [←e1,←e2]
 exact List.pairwise_iff_getElem.1 h i j h1 h2 hij
def lowI:Fo→ByteArray→Nat
 | .nil,_=>0
 | .node h _ _ nx,n=>if bltB h.name n then lowI nx n+1 else 0
theorem lowI_of:∀(f:Fo) (n:ByteArray) (i:Nat),i≤f.len→(∀a nm,a < i→f.names[a]? = some nm→bltB nm n=true)→(∀nm,f.names[i]? = some nm→bltB nm n=false)→lowI f n=i
 | .nil,_,i,h,_,_=>by rw [Fo.len_nil] at h;rw [lowI];omega
 | .node h ss ks nx,n,0,_,_,h2=>by
  rw [lowI,h2 h.name rfl]
  rfl
 | .node h ss ks nx,n,i+1,hl,h1,h2=>by
  rw [lowI,h1 0 h.name (by omega) rfl,if_pos rfl,lowI_of nx n i (by rw [Fo.len_node] at hl;omega) (fun a nm ha hn=>h1 (a+1) nm (by omega) hn) (fun nm hn=>h2 nm hn)]
theorem lowI_le:∀(f:Fo) (n:ByteArray),lowI f n≤f.len
 | .nil,_=>Nat.le_refl _
 | .node h ss ks nx,n=>by
  rw [lowI,Fo.len_node]
  have:=lowI_le nx n
  split <;> omega
def Fo.insAt:Fo→Nat→Tr→Fo
 | f,0,k=>.node k.h k.ss k.ks f
 | .nil,_+1,k=>.node k.h k.ss k.ks .nil
 | .node h ss ks nx,i+1,k=>.node h ss ks (nx.insAt i k)
theorem Fo.insAt_len:∀(f:Fo) (i:Nat) (k:Tr),(f.insAt i k).len=f.len+1
 | .nil,0,_=>rfl
 | .node _ _ _ _,0,_=>rfl
 | .nil,_+1,_=>rfl
 | .node h ss ks nx,i+1,k=>by rw [Fo.insAt,Fo.len,Fo.len,Fo.insAt_len nx]
def foundB (f:Fo) (n:ByteArray):Bool:=match f.list[lowI f n]? with
 | some k=>decide (k.h.name=n)
 | none=>false
def putK (f:Fo) (k:Tr):Fo:=if foundB f k.h.name then f.setAt (lowI f k.h.name) k else f.insAt (lowI f k.h.name) k
def putQ (t:Tr) (dir:ByteArray) (k:Tr):Tr × Int:=if validB t=false then (Tr.zero,1) else match findT t (partsP dir) with
 | none=>(Tr.zero,6)
 | some x=>if x.h.kind≠0 then (Tr.zero,8) else
  if (checkT (updT (partsP dir) t (putK x.ks k))).2≠0 then (Tr.zero,(checkT (updT (partsP dir) t (putK x.ks k))).2) else (updT (partsP dir) t (putK x.ks k),0)
theorem putQ_no {t:Tr} {p:ByteArray} {k:Tr} (h:validB t=false):putQ t p k=(Tr.zero,1):=by unfold putQ;rw [if_pos h]
theorem putQ_none {t:Tr} {p:ByteArray} {k:Tr} (h:validB t=true) (hf:findT t (partsP p)=none):putQ t p k=(Tr.zero,6):=by unfold putQ;rw [if_neg (by rw [h];decide),hf]
theorem putQ_kind {t x:Tr} {p:ByteArray} {k:Tr} (h:validB t=true) (hf:findT t (partsP p)=some x) (hk:x.h.kind≠0):putQ t p k=(Tr.zero,8):=by unfold putQ;rw [if_neg (by rw [h];decide),hf];exact if_pos hk
theorem putQ_go {t x:Tr} {p:ByteArray} {k:Tr} (h:validB t=true) (hf:findT t (partsP p)=some x) (hk:x.h.kind=0):putQ t p k=if (checkT (updT (partsP p) t (putK x.ks k))).2≠0 then (Tr.zero,(checkT (updT (partsP p) t (putK x.ks k))).2) else (updT (partsP p) t (putK x.ks k),0):=by unfold putQ;rw [if_neg (by rw [h];decide),hf];exact if_neg (fun e=>e hk)
theorem find_chk:∀ {l:List ByteArray} {t x:Tr} {p:ByteArray} {lv:Nat},oneE t lv=0→chkF t.ks p lv=none→findT t l=some x→∃p' l',oneE x l'=0∧chkF x.ks p' l'=none∧l'=lv+l.length
 | [],t,x,p,lv,h1,h2,h=>by
  rw [findT_nil] at h
  injection h with h
  subst h
  exact⟨p,lv,h1,h2,rfl⟩
 | n :: l,t,x,p,lv,h1,h2,h=>by
  cases hk:kidI t.ks n with
  | none=>rw [findT_miss (kid_none hk)] at h;cases h
  | some i=>
   obtain⟨k,e1,e2,-⟩:=kid_some hk
   rw [findT_hit e2] at h
   obtain⟨a1,a2⟩:=chkF_at h2 e1
   obtain⟨p',l',b1,b2,b3⟩:=find_chk a1 a2 h
   exact⟨p',l',b1,b2,by rw [b3,List.length_cons];omega⟩
theorem find_sorted {t x:Tr} {l:List ByteArray} (h:validB t=true) (hf:findT t l=some x):SortedN x.ks.names:=by
 obtain⟨_,h2,h3⟩:=valid_chk h
 obtain⟨p',l',b1,_,_⟩:=find_chk h2 h3 hf
 exact kidsE_sorted (oneE_kids b1)
theorem setAt_sz:∀ {f:Fo} {i:Nat} {k k':Tr},f.list[i]? = some k→(f.setAt i k').sz+k.sz=f.sz+k'.sz
 | .nil,_,_,_,h=>by simp [Fo.list] at h
 | .node h ss ks nx,0,k,k',e=>by
  have e2:(⟨h,ss,ks⟩:Tr)=k:=by simpa [Fo.list] using e
  subst e2
  show k'.h.sz+szS k'.ss+k'.ks.sz+nx.sz+(h.sz+szS ss+ks.sz)=h.sz+szS ss+ks.sz+nx.sz+(k'.h.sz+szS k'.ss+k'.ks.sz)
  omega
 | .node h ss ks nx,i+1,k,k',e=>by
  have:=setAt_sz (f:=nx) (i:=i) (k:=k) (k':=k') (by simpa [Fo.list] using e)
  show h.sz+szS ss+ks.sz+(nx.setAt i k').sz+k.sz=h.sz+szS ss+ks.sz+nx.sz+k'.sz
  omega
theorem updT_sz:∀ {l:List ByteArray} {t x:Tr} {f:Fo},findT t l=some x→(updT l t f).sz+x.ks.sz=t.sz+f.sz
 | [],t,x,f,h=>by
  rw [findT_nil] at h
  injection h with h
  subst h
  show t.h.sz+szS t.ss+f.sz+t.ks.sz=t.h.sz+szS t.ss+t.ks.sz+f.sz
  omega
 | n :: l,t,x,f,h=>by
  cases hk:kidI t.ks n with
  | none=>rw [findT_miss (kid_none hk)] at h;cases h
  | some i=>
   obtain⟨k,e1,e2,-⟩:=kid_some hk
   rw [findT_hit e2] at h
   have ih:=updT_sz (f:=f) h
   have hs:=setAt_sz (k':=updT l k f) e1
   rw [updT_cons hk e1]
   show t.h.sz+szS t.ss+(t.ks.setAt i (updT l k f)).sz+x.ks.sz=t.h.sz+szS t.ss+t.ks.sz+f.sz
   omega
theorem insAt_sz:∀(f:Fo) (i:Nat) (k:Tr),(f.insAt i k).sz=f.sz+k.sz
 | .nil,0,k=>by show k.h.sz+szS k.ss+k.ks.sz+0=0+(k.h.sz+szS k.ss+k.ks.sz);omega
 | .node h ss ks nx,0,k=>by show k.h.sz+szS k.ss+k.ks.sz+_=_+(k.h.sz+szS k.ss+k.ks.sz);omega
 | .nil,_+1,k=>by show k.h.sz+szS k.ss+k.ks.sz+0=0+(k.h.sz+szS k.ss+k.ks.sz);omega
 | .node h ss ks nx,i+1,k=>by
  have:=insAt_sz nx i k
  show h.sz+szS ss+ks.sz+(nx.insAt i k).sz=h.sz+szS ss+ks.sz+nx.sz+k.sz
  omega
theorem putK_sz (f:Fo) (k:Tr):(putK f k).sz≤f.sz+k.sz:=by
 unfold putK
 split
 ·rename_i h
  unfold foundB at h
  cases hl:f.list[lowI f k.h.name]? with
  | none=>rw [hl] at h;cases h
  | some k0=>
   have:=setAt_sz (k':=k) hl
   omega
 ·rw [insAt_sz]
  exact Nat.le_refl _
set_option linter.unusedSimpArgs false
set_option linter.unusedVariables false
open Go.RowKit
def LastAt (s:ByteArray) (r:Int):Prop:=(r = -1∧∀c∈s.data.toList,c≠47)∨(∃i:Nat,r=(i:Int)∧s.data.toList[i]? = some 47∧∀j,i < j→s.data.toList[j]? ≠ some 47)
theorem lastidx_any (s:ByteArray) (hs:s.size≤2000000000) (w:World):Calls Tryz.prog 127 #[.string s,.int .u8 47] w fun e w'=>∃r,e=.returned (.int .i64 r)∧LastAt s r∧w=w':=by
 have HL:Live w []:=trivial
 go_enter Tryz.func127,Tryz.ntmps127
 go_wp2_with fail
 go_loopw [5] (fun i wr=>∃k:Nat,i=.int .i64 ((k:Int) - 1)∧k≤s.size∧(∀j,k≤j→s.data.toList[j]? ≠ some 47)∧w=wr) (fun i _=>(intOf i+1).toNat)
 case atStart=>exact⟨s.size,by go_num,Nat.le_refl _,fun j hj=>by rw [List.getElem?_eq_none (by rw [Array.length_toList];exact hj)];simp,rfl⟩
 case round=>
  obtain⟨k,rfl,hk,hn,rfl⟩:=hrel
  have HN:=hide hn
  clear hn
  cases k with
  | zero=>
   go_wp2_with fail
   go_ret
   refine⟨_,rfl,Or.inl ⟨rfl,fun c hc e=>?_⟩,rfl⟩
   obtain⟨j,hj,e2⟩:=List.getElem_of_mem hc
   exact HN.out j (Nat.zero_le _) (by rw [List.getElem?_eq_getElem hj,e2,e])
  | succ k=>
   have ek:((k+1:Nat):Int) - 1=(k:Int):=by omega
   rw [ek]
   have hlt:k < s.size:=by omega
   have hl:k < s.data.toList.length:=by rw [Array.length_toList];exact hlt
   have hat:s.data.toList[k]? = some (s[k]'hlt):=by rw [List.getElem?_eq_getElem hl];rfl
   have HAT:=hide hat
   clear ek hl hat
   by_cases hc:(s[k]'hlt)=47
   ·have hcb:(((s[k]'hlt).toNat:Int) == 47)=true:=by rw [hc];rfl
    have HC:=hide hc
    clear hc
    go_wp2_with fail
    go_ret
    exact⟨_,rfl,Or.inr ⟨k,rfl,by rw [HAT.out,HC.out],fun j hj=>HN.out j hj⟩,rfl⟩
   ·have hcb:(((s[k]'hlt).toNat:Int) == 47)=false:=by
     rw [beq_eq_false_iff_ne];intro h;exact hc (UInt8.toNat_inj.1 (by simpa using (show((s[k]'hlt).toNat)=47 by omega)))
    have HC:=hide hc
    clear hc
    go_wp2_with fail
    go_roundw
    case rel=>exact⟨k,by go_num,by omega,fun j hj e=>by
     rcases Nat.lt_or_ge k j with h | h
     ·exact HN.out j h e
     ·obtain rfl:j=k:=by omega
      rw [HAT.out] at e
      injection e with e
      exact HC.out e,trivial⟩
    case measure=>simp [intOf]
theorem lastIndex_any (s:ByteArray) (hs:s.size≤2000000000) (w:World):Calls Tryz.prog 76 #[.string s,.int .u8 47] w fun e w'=>∃r,e=.returned (.int .i64 r)∧LastAt s r∧w=w':=by
 have LI:=hide (fun W=>lastidx_any s hs W)
 have HL:Live w []:=trivial
 go_enter Tryz.func76,Tryz.ntmps76
 go_wp2_with ((first | (go_at_call 127;(with_reducible refine(LI.out _).mono ?_);rintro e w' ⟨r,rfl,hr,rfl⟩)))
 go_ret
 exact⟨_,rfl,hr,rfl⟩
/-! slices.Delete. -/
theorem step_append_spare {P:Program} {w:World} {ops:Array Oper} {o:Oper} {a:Act} {K:Act→World→Prop} {Q:Exit→Act→World→Prop} {E:Prop} (hgd:o.guard=none) (s x:Operand) (t:TypeId)
  (ho:o.op=.call { callee:=.builtin .append,args:=#[s,x],argTypes:=#[t,t] })
  (base:Nat) (e:TypeId) {z:Value} {size bytes:Nat} (hinfo:(P.info? e).map (fun i=>(i.zero,i.size,i.bytes))=some (some z,size,bytes)) (ht:P.underlying t=some (.slice e))
  (g n cap:Nat) (xs:List Value) (hs:a.eval s=.slice (some ⟨g,0,none⟩) n cap) (hown:w.ownsRow base e size (.slice (some ⟨g,0,none⟩) n cap) n xs)
  (ad:Addr) (m c:Nat) (news:List Value) (hx:a.eval x=.slice (some ad) m c) (hl:news.length=m*size) (hnews:∀j u,news[j]? = some u→w.cell? (ad.add j)=some u) (h1:∀u∈news,u.oneCell'=true)
  (hroom:n+m≤cap)
  (h:∀w',w'.ownsRow base e size (.slice (some ⟨g,0,none⟩) (n+m) cap) (n+m) (xs++news)→w.grownBy w' (some g)→K (a.put o.dst (.slice (some ⟨g,0,none⟩) (n+m) cap)) w'):if Region.wanted o (yielded ops a.tmps)=true then Oper.wp P o a w K Q else E:=by
 have hw:Region.wanted o (yielded ops a.tmps)=true:=by simp [Region.wanted,hgd]
 rw [if_pos hw]
 obtain⟨i,hi,hz0,hz1,hz2⟩:=info_parts hinfo
 exact wp_append_own_spare w s x t ho base e i size ht hi hz1 g n cap xs hs hown ad m c news hx hl hnews h1 hroom h
theorem own_take {w:World} {B:Nat} {T:TypeId} {g n k cap i:Nat} {xs:List Value} (h:w.ownsRow B T k (.slice (some ⟨g,0,none⟩) n cap) n xs) (hi:i≤n):w.ownsRow B T k (.slice (some ⟨g,0,none⟩) i cap) i (xs.take (i*k)):=by
 have hle:i*k≤n*k:=Nat.mul_le_mul_right _ hi
 refine⟨by rw [List.length_take,h.1,Nat.min_eq_left hle],?_⟩
 rcases h.2 with⟨h0,_⟩ | ⟨g',cap',cur,hv,hg,hh,hnc,hcm,hcs,htake⟩
 ·cases h0
 ·cases hv
  exact Or.inr ⟨g,cap,cur,rfl,hg,hh,Nat.le_trans hi hnc,hcm,hcs,by rw [←htake,List.take_take,Nat.min_eq_left hle]⟩
theorem own_room {w:World} {B:Nat} {T:TypeId} {g n k cap i:Nat} {v:Value} {xs:List Value} (h:w.ownsRow B T k (.slice (some ⟨g,0,none⟩) n cap) n xs) (hi:n*k≤i):(w.setCell ⟨g,i,none⟩ v).ownsRow B T k (.slice (some ⟨g,0,none⟩) n cap) n xs:=by
 refine⟨h.1,?_⟩
 rcases h.2 with⟨h0,_⟩ | ⟨g',cap',cur,hv,hg,hh,hnc,hcm,hcs,htake⟩
 ·cases h0
 ·cases hv
  refine Or.inr ⟨g,cap,cur.setIfInBounds i v,rfl,hg,Blk.put (T:=T) rfl hh,hnc,hcm,by rw [Array.size_setIfInBounds,hcs],?_⟩
  rw [←htake,Array.toList_setIfInBounds]
  apply List.ext_getElem?
  intro j
  rw [List.getElem?_take,List.getElem?_take]
  split
  ·rw [List.getElem?_set_ne (by omega)]
  ·rfl
theorem own_rooms {B:Nat} {T:TypeId} {g n k cap:Nat} {xs:List Value}:∀(vs:List Value) (i:Nat) (w:World),w.ownsRow B T k (.slice (some ⟨g,0,none⟩) n cap) n xs→n*k≤i→(w.setCells g i vs).ownsRow B T k (.slice (some ⟨g,0,none⟩) n cap) n xs
 | [],_,_,h,_=>h
 | v :: vs,i,w,h,hi=>own_rooms vs (i+1) _ (own_room h hi) (by omega)
theorem FrO.sets {O:Nat→Prop} {g:Nat} (h:O g):∀(vs:List Value) (i:Nat) (w:World),FrO O w (w.setCells g i vs)
 | [],_,w=>FrO.of (Below.refl _ _)
 | v :: vs,i,w=>(FrO.set (O:=O) (i:=i) (v:=v) h).trans (FrO.sets h vs (i+1) _) fun j h=>Or.inl h
theorem zeroN_run (w:World):(zeroValue 25).run Tryz.prog w=.ok (.agg zeroN) w:=by
 obtain⟨i,hi,hz0,hz1,hz2⟩:=info_parts nodeInfo
 simp [zeroValue,typeInfo,hi,hz0]
 rfl
theorem zeroN_cells:(Builtin.zeroCells (Value.agg zeroN).cells 1).toList=zeroN.toList:=by kernel_rfl
theorem clearN (w:World) (b o c:Nat) (hc:∀j,j < 12→(w.cell? ⟨b,o+j,none⟩).isSome=true) (hf:∀j,j < 12→w.frozen? ⟨b,o+j,none⟩=false) (ty:TypeId) :
  (Builtin.clear_ #[22] ty #[.slice (some ⟨b,o,none⟩) 1 c]).run Tryz.prog w=.ok (.tuple #[]) (w.setCells b o zeroN.toList):=by
 have hst:=run_storeCells_cells (P:=Tryz.prog) b o zeroN.toList 0 w (by simpa using hc) (by simpa using hf) (by decide)
 simp only [Nat.add_zero] at hst
 simp only [Builtin.clear_,List.getElem?_toArray,List.getElem?_cons_zero,Sem.run_bind,Sem.run_pure,run_underlying Tryz.underlying22,Result.andThen_ok,zeroN_run,zeroN_cells,hst]
theorem delete_any (lo g cap m i:Nat) (xs:List Value) (w:World) (hown:w.ownsRow lo 25 12 (.slice (some ⟨g,0,none⟩) (m+1) cap) (m+1) xs) (h1:∀u∈xs,u.oneCell'=true) (hi:i < m+1) (hn:m≤1000000) :
  Calls Tryz.prog 79 #[.slice (some ⟨g,0,none⟩) (m+1) cap,.int .i64 (i:Int),.int .i64 ((i:Int)+1)] w fun e w'=>e=.returned (.slice (some ⟨g,0,none⟩) m cap)∧w'.ownsRow lo 25 12 (.slice (some ⟨g,0,none⟩) m cap) m (xs.take (i*12)++xs.drop ((i+1)*12))∧FrO (fun j=>j=g) w w':=by
 obtain⟨g',cap',cur,hv,hlg,hB,hnc,hcm,hcs,hxs⟩:=own_blk hown (by omega)
 cases hv
 have hlen:=hown.1
 have hcm2:cap≤9223372036854775807:=by unfold maxLen at hcm;omega
 have HO:=hide hown
 have H1:=hide h1
 have q:((i:Int) == (i:Int)+1)=false:=by simp;omega
 obtain⟨ad,had,hsrc⟩:∃ad:Addr,(if cap=i+1 then some (⟨g,0,none⟩:Addr) else some ⟨g,(i+1)*12,none⟩)=some ad∧Hid (∀j u,(xs.drop ((i+1)*12))[j]? = some u→w.drew.cell? (ad.add j)=some u):=by
  by_cases h:cap=i+1
  ·refine⟨⟨g,0,none⟩,by simp [h],fun j u hu=>?_⟩
   rw [List.drop_of_length_le (by omega)] at hu
   simp at hu
  ·refine⟨⟨g,(i+1)*12,none⟩,by simp [h],fun j u hu=>?_⟩
   rw [List.getElem?_drop] at hu
   rw [addr_add]
   exact(hB.cells _).trans (hxs _ _ hu)
 have HCS:=hide (show cur.size=cap*12 from hcs)
 have HB:=hide hB
 clear hown h1 hxs hB hcs hcm
 have hlo:lo≤g:=hlg
 have hic:i≤cap:=by omega
 have him:i≤m:=by omega
 have hj1:(0:Int)≤(i:Int)+1:=by omega
 have hj2:(i:Int)+1≤((m+1:Nat):Int):=by omega
 have HL:Live w []:=trivial
 go_enter Tryz.func79,Tryz.ntmps79
 go_upto_region 5 with fail
 have hkeep:True∧True:=⟨trivial,trivial⟩
 refine wp_region_noPanic ?_
 refine wp_region_held_drew (S:=(fun _=>True∧True)) (by kernel_rfl) kp (fun hHeld=>?_)
 refine tkZ 0 ⟨some 20,.move (.tmp 0),22, "slices.go:232",#[],none⟩ ?_
 refine tkZ 1 ⟨some 21,.move (.tmp 1),3, "slices.go:232",#[],none⟩ ?_
 refine tkZ 2 ⟨some 22,.slice 22 (.tmp 20) none (some (.tmp 21)) none,22, "slices.go:232",#[⟨0,.data⟩,⟨1,.data⟩],none⟩ ?_
 refine tkZ 3 ⟨some 23,.move (.tmp 0),22, "slices.go:232",#[],none⟩ ?_
 refine tkZ 4 ⟨some 24,.move (.tmp 2),3, "slices.go:232",#[],none⟩ ?_
 refine tkZ 5 ⟨some 25,.slice 22 (.tmp 23) (some (.tmp 24)) none none,22, "slices.go:232",#[⟨3,.data⟩,⟨4,.data⟩],none⟩ ?_
 refine rqS [6] (rqC ⟨some 26,.call ⟨.builtin .append,#[.tmp 22,.tmp 25],#[22,22]⟩,22, "slices.go:232",#[⟨2,.data⟩,⟨5,.data⟩],none⟩ (fun K hK=>?_) rq0)
 refine step_append_spare (by rfl) _ _ 22 (by rfl) lo 25 nodeInfo Tryz.underlying22 g i cap (xs.take (i*12)) (by rfl) (own_take HO.out (by omega)) ad (m - i) (cap - (i+1)) (xs.drop ((i+1)*12)) (by rfl) (by rw [List.length_drop];omega) hsrc.out (fun u hu=>H1.out u (List.mem_of_mem_drop hu)) (by omega) ?_;intro w2 hown2 hg2
 refine hK.out _ _ kp (fun hHeld=>?_)
 clear hK K
 try simp only [PT]
 refine tkZ 7 ⟨some 0,.assign (.tmp 26),22, "slices.go:232",(phs [⟨6,.data⟩,⟨6,.chain⟩] 7),none⟩ ?_
 refine wpAnyH_done (by kernel_rfl) ?_ _
 refine NoPanic.normal ?_
 rw [show i+(m - i)=m by omega] at hown2 ⊢
 have HO2:=hide hown2
 obtain⟨cur2,hB2,hcs2⟩:∃cur2,Blk w2 g cur2 25∧cur2.size=cap*12:=by
  rcases hown2.2 with⟨h0,_⟩ | ⟨g',cap',cur,hv,hg,hh,hnc,hcm,hcs,htake⟩
  ·cases h0
  ·cases hv
   exact⟨cur,hh,hcs⟩
 have CL:=fun ty=>clearN w2 g (m*12) (cap - m) (fun j hj=>by rw [hB2.cells,Array.getElem?_eq_getElem (show m*12+j < cur2.size by omega)];rfl) (fun j _=>hB2.free _) ty
 have hne:¬cap=m:=by omega
 have hmc:m+1≤cap:=hnc
 have HG2:=hide hg2
 clear hown2 hB2 hcs2 hg2 hkeep hHeld
 go_wp2_with fail
 go_ret
 exact⟨rfl,own_rooms zeroN.toList (m*12) w2 HO2.out (Nat.le_refl _),((FrO.of (O:=fun j=>j=g) ((Below.refl _ _).drew)).trans (FrO.grown (O:=fun j=>j=g) HG2.out (fun j h=>by injection h with h;exact h.symm)) (fun j h=>Or.inl h)).trans (FrO.sets (O:=fun j=>j=g) rfl zeroN.toList (m*12) w2) (fun j h=>Or.inl h)⟩
end Go.Proofs.YtlhakdildbplkaaGreatDoor
