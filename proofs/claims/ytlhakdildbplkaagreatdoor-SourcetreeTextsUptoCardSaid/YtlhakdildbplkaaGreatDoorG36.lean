/- Contracts and plain words for the laws of this chapter,part 36: Lw2,Pl4,Pl5,Pl6,Pl7,Pl8. No condition. -/
import Derived.Test.YtlhakdildbplkaaGreatDoorG35
import Derived.Test.YtlhakdildbplkaaGreatDoorG11
import Derived.Test.YtlhakdildbplkaaGreatDoorG9
import Derived.Test.YtlhakdildbplkaaGreatDoorG32
import Derived.Test.YtlhakdildbplkaaGreatDoorG22
import Derived.Lib.AtoiAllCases
import Derived.Test.YtlhakdildbplkaaGreatDoorG34
namespace Go.Proofs.YtlhakdildbplkaaGreatDoor
set_option linter.unusedSimpArgs false
set_option linter.unusedVariables false
open Go.RowKit
theorem Nd.stored {W w2:World} {cells:Array Value} {t:Tr} (h:TreeR w2 w2.heap.size (.agg cells) t) (hz:cells.size=12) (hb:Below W.heap.size W w2):Nd (w2.alloc (.cells cells 25)) w2.heap.size cells t∧Below W.heap.size W (w2.alloc (.cells cells 25)):=
 ⟨Nd.new h hz,hb.alloc hb.size _⟩
theorem req_true (t:Tr) (hz:t.sz≤500000) (a b:Value) (W:World) (h1:TreeR W W.heap.size a t) (h2:TreeR W W.heap.size b t):Calls Tryz.prog 29 #[a,b] W fun e w'=>e=.returned (.bool true)∧Below W.heap.size W w':=by
 have h3:=requal_any t.count t t (Nat.le_refl _) hz hz a b W h1 h2
 rwa [decide_eq_true rfl] at h3
set_option linter.unusedSimpArgs false
set_option linter.unusedVariables false
def itemL:St ⊕ (Hd × Int)→List UInt8
 | .inl s=>[115,116,114,101,97,109]++spW s.1++spW s.2
 | .inr (h,l)=>kindW h.kind++(spI l++spW h.name++spI h.mode++spI h.uid++spI h.gid++spI h.time++spI h.weight++spI h.hidden)++tailL h
def itemsF:Fo→Nat→List (St ⊕ (Hd × Int))
 | .nil,_=>[]
 | .node h ss ks nx,l=>.inr (h,((l+1:Nat):Int)) :: (ss.map Sum.inl++itemsF ks (l+1)++itemsF nx l)
def itemsT (t:Tr):List (St ⊕ (Hd × Int)):=.inr (t.h,1) :: (t.ss.map Sum.inl++itemsF t.ks 1)
def linesI (xs:List (St ⊕ (Hd × Int))):List UInt8:=xs.flatMap fun x=>itemL x++[10]
theorem linesI_app (a b:List (St ⊕ (Hd × Int))):linesI (a++b)=linesI a++linesI b:=List.flatMap_append
theorem linesI_str (ss:List St):linesI (ss.map Sum.inl)=ss.flatMap strmL:=by
 induction ss with
 | nil=>rfl
 | cons s ss ih=>
  rw [List.map_cons,List.flatMap_cons,←ih]
  rfl
theorem nodeL_item (h:Hd) (ss:List St) (ks:Fo) (l:Nat):nodeL ⟨h,ss,ks⟩ l=linesI (.inr (h,(l:Int)) :: ss.map Sum.inl):=by
 have e:linesI (.inr (h,(l:Int)) :: ss.map Sum.inl)=(itemL (.inr (h,(l:Int)))++[10])++linesI (ss.map Sum.inl):=rfl
 rw [e,linesI_str]
 rfl
theorem linesF_items:∀(f:Fo) (l:Nat),linesF f l=linesI (itemsF f l)
 | .nil,_=>rfl
 | .node h ss ks nx,l=>by
  have e:itemsF (.node h ss ks nx) l=(.inr (h,((l+1:Nat):Int)) :: ss.map Sum.inl)++(itemsF ks (l+1)++itemsF nx l):=by
   rw [itemsF,List.cons_append,List.append_assoc]
  rw [e,linesI_app,linesI_app,linesF,nodeL_item,linesF_items ks,linesF_items nx,List.append_assoc]
theorem linesT_items (t:Tr):linesT t=linesI (itemsT t):=by
 have e:itemsT t=(.inr (t.h,((1:Nat):Int)) :: t.ss.map Sum.inl)++itemsF t.ks 1:=rfl
 rw [e,linesI_app,←linesF_items,←nodeL_item]
 rfl
theorem itemsF_app:∀(a b:Fo) (l:Nat),itemsF (a.app b) l=itemsF a l++itemsF b l
 | .nil,_,_=>rfl
 | .node h ss ks nx,b,l=>by
  rw [Fo.app,itemsF,itemsF,itemsF_app nx b]
  simp
def itemsS:List Tr→List (St ⊕ (Hd × Int))
 | []=>[]
 | t :: r=>itemsS r++.inr (t.h,((r.length+1:Nat):Int)) :: (t.ss.map Sum.inl++itemsF t.ks (r.length+1))
theorem itemsS_pop:∀st:List Tr,itemsS (popS st)=itemsS st
 | []=>rfl
 | [_]=>rfl
 | a :: b :: r=>by
  show itemsS (⟨b.h,b.ss,b.ks.app (.node a.h a.ss a.ks .nil)⟩ :: r)=_
  simp only [itemsS,itemsF_app,itemsF,List.length_cons,List.append_nil,List.append_assoc,List.cons_append]
theorem itemsS_leave (k:Nat):∀(n:Nat) (st:List Tr),itemsS (leaveS k n st)=itemsS st
 | 0,_=>rfl
 | n+1,st=>by
  rw [leaveS]
  split
  ·rw [itemsS_leave k n,itemsS_pop]
  ·rfl
theorem leaveS_len (k:Nat):∀(n:Nat) (st:List Tr),st.length≤n→0 < k→(leaveS k n st).length=min k st.length
 | 0,st,h,_=>by
  rw [leaveS]
  omega
 | n+1,st,h,hk=>by
  rw [leaveS]
  split
  ·rename_i h1
   have hp:=popS_len st
   rw [if_pos (by omega)] at hp
   rw [leaveS_len k n _ (by omega) hk,hp]
   omega
  ·omega
def mostP:List Tr→Nat
 | []=>1
 | t :: r=>if t.h.kind=0 then r.length+2 else r.length+1
def stepI (st:List Tr):St ⊕ (Hd × Int)→Option (List Tr)
 | .inl s=>match st with
  | t :: r=>if t.h.kind=1 then some (⟨t.h,t.ss++[s],t.ks⟩ :: r) else none
  | []=>none
 | .inr (h,l)=>
  if (mostP st:Int) < l∨(l < 2∧st≠[])∨l < 1 then none
  else some (⟨h,[],.nil⟩ :: leaveS (l.toNat - 1) st.length st)
theorem stepS_item (st:List Tr) (ws:List ByteArray):stepS st ws=(lineW ws).bind (stepI st):=by
 unfold stepS
 cases lineW ws with
 | none=>rfl
 | some x=>
  cases x with
  | inl s=>cases st <;> rfl
  | inr p=>cases st <;> rfl
def topNil:List Tr→Prop
 | []=>True
 | t :: _=>t.ks=.nil
theorem most_le (st:List Tr):mostP st≤st.length+1:=by
 cases st with
 | nil=>exact Nat.le_refl _
 | cons t r=>
  rw [mostP,List.length_cons]
  split <;> omega
theorem stepI_items {st st2:List Tr} {x:St ⊕ (Hd × Int)} (ht:topNil st) (h:stepI st x=some st2):itemsS st2=itemsS st++[x]∧topNil st2:=by
 cases x with
 | inl s=>
  cases st with
  | nil=>cases h
  | cons t r=>
   obtain⟨hd,ss,ks⟩:=t
   have ht':ks=.nil:=ht
   subst ht'
   unfold stepI at h
   dsimp only at h
   split at h
   ·injection h with h
    subst h
    refine⟨?_,rfl⟩
    simp [itemsS,itemsF]
   ·cases h
 | inr p=>
  obtain⟨hd,l⟩:=p
  have e0:stepI st (.inr (hd,l))=if (mostP st:Int) < l∨(l < 2∧st≠[])∨l < 1 then none else some (⟨hd,[],.nil⟩ :: leaveS (l.toNat - 1) st.length st):=rfl
  rw [e0] at h
  by_cases hc:(mostP st:Int) < l∨(l < 2∧st≠[])∨l < 1
  ·rw [if_pos hc] at h;cases h
  ·rw [if_neg hc] at h
   injection h with h
   subst h
   have h1:¬(mostP st:Int) < l:=fun e=>hc (Or.inl e)
   have h2:¬(l < 2∧st≠[]):=fun e=>hc (Or.inr (Or.inl e))
   have h3:¬l < 1:=fun e=>hc (Or.inr (Or.inr e))
   have hm:=most_le st
   have hlen:(leaveS (l.toNat - 1) st.length st).length=l.toNat - 1:=by
    by_cases h4:l < 2
    ·have hst:st=[]:=Classical.byContradiction fun e=>h2 ⟨h4,e⟩
     subst hst
     show 0=_
     omega
    ·rw [leaveS_len _ _ _ (Nat.le_refl _) (by omega)]
     omega
   refine⟨?_,rfl⟩
   rw [itemsS,itemsS_leave,hlen]
   have e:((l.toNat - 1+1:Nat):Int)=l:=by omega
   rw [e]
   rfl
def foldI:List (St ⊕ (Hd × Int))→List Tr→Option (List Tr)
 | [],st=>some st
 | x :: xs,st=>(stepI st x).bind (foldI xs)
theorem foldI_app:∀(a b:List (St ⊕ (Hd × Int))) (st:List Tr),foldI (a++b) st=(foldI a st).bind (foldI b)
 | [],_,_=>rfl
 | x :: a,b,st=>by
  rw [List.cons_append,foldI,foldI]
  cases stepI st x with
  | none=>rfl
  | some s2=>exact foldI_app a b s2
theorem foldI_items:∀(xs:List (St ⊕ (Hd × Int))) (st st2:List Tr),topNil st→foldI xs st=some st2→itemsS st2=itemsS st++xs∧topNil st2
 | [],st,st2,ht,h=>by
  injection h with h
  subst h
  exact⟨(List.append_nil _).symm,ht⟩
 | x :: xs,st,st2,ht,h=>by
  rw [foldI] at h
  cases e:stepI st x with
  | none=>rw [e] at h;cases h
  | some s1=>
   rw [e] at h
   obtain⟨h1,h2⟩:=stepI_items ht e
   obtain⟨h3,h4⟩:=foldI_items xs s1 st2 h2 h
   exact⟨by rw [h3,h1,List.append_assoc];rfl,h4⟩
def lv (k:Nat) (st:List Tr):List Tr:=leaveS k st.length st
theorem leaveS_more (k:Nat):∀(n m:Nat) (st:List Tr),0 < k→st.length≤n→st.length≤m→leaveS k n st=leaveS k m st
 | 0,m,st,hk,h,_=>by
  have e:st=[]:=List.eq_nil_of_length_eq_zero (by omega)
  subst e
  cases m with
  | zero=>rfl
  | succ m=>rw [leaveS,leaveS,if_neg (by show ¬k < 0;omega)]
 | n+1,0,st,hk,_,h=>by
  have e:st=[]:=List.eq_nil_of_length_eq_zero (by omega)
  subst e
  rw [leaveS,leaveS,if_neg (by show ¬k < 0;omega)]
 | n+1,m+1,st,hk,h1,h2=>by
  rw [leaveS,leaveS]
  split
  ·rename_i hlt
   have hp:=popS_len st
   rw [if_pos (by omega)] at hp
   exact leaveS_more k n m (popS st) hk (by omega) (by omega)
  ·rfl
theorem lv_step {k:Nat} {st:List Tr} (hk:0 < k) (h:k < st.length):lv k st=lv k (popS st):=by
 unfold lv
 obtain⟨n,hn⟩:∃n,st.length=n+1:=⟨st.length - 1,by omega⟩
 have hp:=popS_len st
 rw [if_pos (by omega)] at hp
 rw [hn,leaveS,if_pos (by omega)]
 exact leaveS_more k n _ _ hk (by omega) (Nat.le_refl _)
theorem lv_done {k:Nat} {st:List Tr} (h:st.length≤k):lv k st=st:=by
 unfold lv
 cases hn:st.length with
 | zero=>rfl
 | succ n=>rw [leaveS,if_neg (by omega)]
theorem lv_lv {k k2:Nat} (hk:0 < k) (h:k≤k2):∀(n:Nat) (st:List Tr),st.length≤n→lv k (lv k2 st)=lv k st
 | 0,st,hn=>by rw [lv_done (k:=k2) (by omega)]
 | n+1,st,hn=>by
  by_cases h2:k2 < st.length
  ·have hp:=popS_len st
   rw [if_pos (by omega)] at hp
   rw [lv_step (k:=k2) (by omega) h2,lv_step hk (by omega:k < st.length),lv_lv hk h n (popS st) (by omega)]
  ·rw [lv_done (k:=k2) (by omega)]
theorem lv_two {l:Nat} {x b:Tr} {r:List Tr} (hl:(b :: r).length=l):lv l (x :: b :: r)=⟨b.h,b.ss,b.ks.app (.node x.h x.ss x.ks .nil)⟩ :: r:=by
 have h0:0 < l:=by rw [←hl];simp
 rw [lv_step h0 (by rw [←hl];simp)]
 exact lv_done (by rw [←hl];exact Nat.le_refl _)
theorem foldI_str (h:Hd) (hk:h.kind=1):∀(ss s0:List St) (r:List Tr),foldI (ss.map Sum.inl) (⟨h,s0,.nil⟩ :: r)=some (⟨h,s0++ss,.nil⟩ :: r)
 | [],s0,r=>by rw [List.append_nil];rfl
 | s :: ss,s0,r=>by
  rw [List.map_cons,foldI]
  have e:stepI (⟨h,s0,.nil⟩ :: r) (.inl s)=some (⟨h,s0++[s],.nil⟩ :: r):=if_pos hk
  rw [e,Option.bind_some,foldI_str h hk ss,List.append_assoc]
  rfl
theorem fo_assoc:∀(a b c:Fo),(a.app b).app c=a.app (b.app c)
 | .nil,_,_=>rfl
 | .node h ss ks nx,b,c=>by rw [Fo.app,Fo.app,Fo.app,fo_assoc nx b c]
def OKF:Fo→Prop
 | .nil=>True
 | .node h ss ks nx=>(h.kind≠1→ss=[])∧(h.kind≠0→ks=.nil)∧OKF ks∧OKF nx
theorem lv_most {l:Nat} {st:List Tr} {a:Tr} {r:List Tr} (h:lv l st=a :: r) (hl:(a :: r).length=l) (hk:a.h.kind=0):l+1≤mostP st∧st≠[]:=by
 have h0:0 < l:=by rw [←hl];simp
 have hn:st≠[]:=fun e=>by subst e;cases h
 refine⟨?_,hn⟩
 by_cases h1:l < st.length
 ·cases st with
  | nil=>exact absurd rfl hn
  | cons t q=>
   rw [mostP]
   simp only [List.length_cons] at h1
   split <;> omega
 ·have e:=lv_done (k:=l) (st:=st) (by omega)
  rw [e] at h
  subst h
  rw [mostP,if_pos hk]
  simp only [List.length_cons] at hl
  omega
theorem foldI_forest:∀(f:Fo) (l:Nat) (st:List Tr) (a:Tr) (r:List Tr),OKF f→lv l st=a :: r→(a :: r).length=l→(f=.nil∨a.h.kind=0)→∃st2,foldI (itemsF f l) st=some st2∧lv l st2=⟨a.h,a.ss,a.ks.app f⟩ :: r
 | .nil,l,st,a,r,_,h,_,_=>⟨st,rfl,by rw [h,Fo.app_nil]⟩
 | .node hd ss ks nx,l,st,a,r,⟨o1,o2,o3,o4⟩,h,hl,hk=>by
  have hk0:a.h.kind=0:=hk.elim (fun e=>by cases e) id
  obtain⟨hm,hne⟩:=lv_most h hl hk0
  have h0:0 < l:=by rw [←hl];simp
  have e1:stepI st (.inr (hd,((l+1:Nat):Int)))=some (⟨hd,[],.nil⟩ :: a :: r):=by
   have e:stepI st (.inr (hd,((l+1:Nat):Int)))=if (mostP st:Int) < ((l+1:Nat):Int)∨(((l+1:Nat):Int) < 2∧st≠[])∨((l+1:Nat):Int) < 1 then none else some (⟨hd,[],.nil⟩ :: leaveS (((l+1:Nat):Int).toNat - 1) st.length st):=rfl
   rw [e,if_neg (by omega),show(((l+1:Nat):Int).toNat - 1)=l by omega]
   show some (_ :: lv l st)=_
   rw [h]
  have e2:foldI (ss.map Sum.inl) (⟨hd,[],.nil⟩ :: a :: r)=some (⟨hd,ss,.nil⟩ :: a :: r):=by
   by_cases hk1:hd.kind=1
   ·exact foldI_str hd hk1 ss [] _
   ·rw [o1 hk1];rfl
  obtain⟨s3,e3,h3⟩:=foldI_forest ks (l+1) (⟨hd,ss,.nil⟩ :: a :: r) ⟨hd,ss,.nil⟩ (a :: r) o3 (lv_done (by simp only [List.length_cons] at hl ⊢;omega)) (by simp only [List.length_cons] at hl ⊢;omega) (by
   by_cases h9:hd.kind=0
   ·exact Or.inr h9
   ·exact Or.inl (o2 h9))
  have h4:lv l s3=⟨a.h,a.ss,a.ks.app (.node hd ss ks .nil)⟩ :: r:=by
   rw [←lv_lv h0 (Nat.le_succ l) s3.length s3 (Nat.le_refl _),h3]
   exact lv_two hl
  obtain⟨s5,e5,h5⟩:=foldI_forest nx l s3 ⟨a.h,a.ss,a.ks.app (.node hd ss ks .nil)⟩ r o4 h4 hl (Or.inr hk0)
  refine⟨s5,?_,?_⟩
  ·rw [itemsF,foldI,e1,Option.bind_some,foldI_app,foldI_app,e2,Option.bind_some]
   show Option.bind (foldI (itemsF ks (l+1)) _) _=_
   rw [e3,Option.bind_some,e5]
  ·rw [h5,fo_assoc]
   rfl
/-! Numbers. -/
theorem u8_dig {d:Nat} (hd:d < 10):(UInt8.ofNat (48+d)).toNat=48+d:=by simp;omega
theorem parse_snoc:∀(l:List UInt8) (acc v d:Nat),d < 10→Lib.parseUint10 acc l=.ok v→v*10+d < 18446744073709551616→Lib.parseUint10 acc (l++[UInt8.ofNat (48+d)])=.ok (v*10+d)
 | [],acc,v,d,hd,h,hv=>by
  rw [Lib.parseUint10] at h
  injection h with h
  subst h
  rw [List.nil_append,Lib.parseUint10,u8_dig hd,if_pos (by omega),if_neg (by omega),if_neg (by omega),Lib.parseUint10]
  congr 2
  omega
 | c :: r,acc,v,d,hd,h,hv=>by
  rw [List.cons_append]
  rw [Lib.parseUint10] at h ⊢
  by_cases h1:48≤c.toNat∧c.toNat≤57
  ·rw [if_pos h1] at h ⊢
   by_cases h2:1844674407370955162≤acc
   ·rw [if_pos h2] at h;cases h
   ·rw [if_neg h2] at h ⊢
    by_cases h3:18446744073709551616≤acc*10+(c.toNat - 48)
    ·rw [if_pos h3] at h;cases h
    ·rw [if_neg h3] at h ⊢
     exact parse_snoc r _ v d hd h hv
  ·rw [if_neg h1] at h;cases h
theorem parse_dec (u:Nat) (h:u < 18446744073709551616):Lib.parseUint10 0 (Lib.decDigits u)=.ok u:=by
 induction u using Nat.strongRecOn with
 | _ u ih=>
  rw [Lib.decDigits]
  split
  ·rename_i h1
   have:=parse_snoc [] 0 0 u (by omega) rfl (by omega)
   rw [List.nil_append] at this
   rw [this]
   congr 1
   omega
  ·have:=parse_snoc _ 0 (u / 10) (u % 10) (by omega) (ih (u / 10) (by omega) (by omega)) (by omega)
   rw [this]
   congr 1
   omega
theorem dec_dig (u:Nat):∀c∈Lib.decDigits u,48≤c.toNat∧c.toNat≤57:=by
 induction u using Nat.strongRecOn with
 | _ u ih=>
  intro c hc
  rw [Lib.decDigits] at hc
  split at hc
  ·rename_i h
   rw [List.mem_singleton] at hc
   subst hc
   rw [u8_dig h]
   omega
  ·rcases List.mem_append.1 hc with hc | hc
   ·exact ih (u / 10) (by omega) c hc
   ·rw [List.mem_singleton] at hc
    subst hc
    rw [u8_dig (Nat.mod_lt _ (by decide))]
    omega
theorem dec_ne (u:Nat):Lib.decDigits u≠[]:=by
 rw [Lib.decDigits]
 split <;> simp
theorem atoi_itoa {n:Int} (h0 : -9223372036854775808≤n) (h1:n≤9223372036854775807):Lib.atoiAll (Lib.itoa n)=.ok n:=by
 unfold Lib.itoa
 split
 ·rw [Lib.atoiAll_minus,Lib.parseMag,if_neg (dec_ne _),parse_dec _ (by omega)]
  unfold Lib.signed
  dsimp only
  rw [if_neg (by omega)]
  congr 1
  omega
 ·have hd:=dec_dig n.toNat
  have hp:=parse_dec n.toNat (by omega)
  have hn:=dec_ne n.toNat
  cases e:Lib.decDigits n.toNat with
  | nil=>exact absurd e hn
  | cons c r=>
   rw [e] at hd hp
   have hc:=hd c (List.mem_cons_self ..)
   rw [Lib.atoiAll_plain c r (by omega) (by omega),Lib.parseMag,if_neg (by simp),hp]
   unfold Lib.signless
   dsimp only
   rw [if_neg (by omega)]
   congr 1
   omega
def N64 (n:Int):Prop := -9223372036854775808≤n∧n≤9223372036854775807
abbrev bsA (l:List UInt8):ByteArray:=⟨l.toArray⟩
theorem bsA_list (s:ByteArray):bsA s.data.toList=s:=by
 apply ByteArray.ext
 simp
theorem numW_itoa {n:Int} (h:N64 n):numW (bsA (Lib.itoa n))=some n:=by
 unfold numW
 have e:(bsA (Lib.itoa n)).data.toList=Lib.itoa n:=by simp
 rw [e,atoi_itoa h.1 h.2]
 simp
theorem numW_spec {w:ByteArray} {n:Int} (h:numW w=some n):w.data.toList=Lib.itoa n:=by
 unfold numW at h
 split at h
 ·split at h
  ·rename_i h2
   injection h with h
   subst h
   exact h2.symm
  ·cases h
 ·cases h
def Wd (s:ByteArray):List UInt8:=(wordS s).data.toList
theorem unword_back {w s:ByteArray} (h:unword w=some s):w.data.toList=Wd s:=by
 have:=unword_spec.1 h
 unfold Wd
 rw [this]
def sp (ws:List (List UInt8)):List UInt8:=ws.flatMap (fun w=>32 :: w)
theorem sp_cons (w:List UInt8) (ws:List (List UInt8)):sp (w :: ws)=32 :: (w++sp ws):=rfl
theorem sp_pieces:∀(l w:List UInt8) (ws:List (List UInt8)),piecesC 32 l=w :: ws→l=w++sp ws
 | [],w,ws,h=>by
  rw [piecesC] at h
  injection h with h1 h2
  subst h1;subst h2
  rfl
 | x :: l,w,ws,h=>by
  rw [piecesC] at h
  by_cases hx:x=32
  ·rw [if_pos hx] at h
   injection h with h1 h2
   subst h1
   cases e:piecesC 32 l with
   | nil=>exact absurd e (piecesC_ne 32 l)
   | cons p r=>
    rw [e] at h2
    subst h2
    rw [sp_cons,List.nil_append,←sp_pieces l p r e,hx]
  ·rw [if_neg hx] at h
   cases e:piecesC 32 l with
   | nil=>exact absurd e (piecesC_ne 32 l)
   | cons p r=>
    rw [e] at h
    injection h with h1 h2
    subst h1;subst h2
    rw [List.cons_append,←sp_pieces l p r e]
theorem pieces_join (c:UInt8):∀(l pl:List UInt8) (cl:List (List UInt8)),piecesC c l=cl++[pl]→l=cl.flatMap (· ++ [c])++pl
 | [],pl,cl,h=>by
  rw [piecesC] at h
  cases cl with
  | nil=>
   have h1:[]=pl:=(List.cons.inj h).1
   rw [←h1]
   rfl
  | cons a cl=>simp at h
 | x :: l,pl,cl,h=>by
  rw [piecesC] at h
  by_cases hx:x=c
  ·rw [if_pos hx] at h
   cases cl with
   | nil=>
    injection h with h1 h2
    exact absurd h2 (piecesC_ne c l)
   | cons a cl=>
    injection h with h1 h2
    subst h1
    have:=pieces_join c l pl cl h2
    rw [List.flatMap_cons,List.nil_append,List.append_assoc,←this,hx]
    rfl
  ·rw [if_neg hx] at h
   cases e:piecesC c l with
   | nil=>exact absurd e (piecesC_ne c l)
   | cons p r=>
    rw [e] at h
    cases cl with
    | nil=>
     injection h with h1 h2
     subst h1;subst h2
     have:=pieces_join c l p [] e
     rw [List.flatMap_nil,List.nil_append] at this ⊢
     rw [←this]
    | cons a cl=>
     injection h with h1 h2
     subst h1;subst h2
     have:=pieces_join c l pl (p :: cl) e
     rw [List.flatMap_cons] at this ⊢
     rw [List.cons_append,List.cons_append,List.cons_append,←this]
/-! A line. -/
def tailA (h:Hd):List (List UInt8):=if h.kind=1 then [Wd h.data] else if h.kind=2 then [Wd h.target] else []
def headA (h:Hd) (l:Int):List (List UInt8):=[Lib.itoa l,Wd h.name,Lib.itoa h.mode,Lib.itoa h.uid,Lib.itoa h.gid,Lib.itoa h.time,Lib.itoa h.weight,Lib.itoa h.hidden]
def firstI:St ⊕ (Hd × Int)→List UInt8
 | .inl _=>[115,116,114,101,97,109]
 | .inr (h,_)=>kindW h.kind
def argsI:St ⊕ (Hd × Int)→List (List UInt8)
 | .inl s=>[Wd s.1,Wd s.2]
 | .inr (h,l)=>headA h l++tailA h
theorem sp_app (a b:List (List UInt8)):sp (a++b)=sp a++sp b:=List.flatMap_append
theorem tailL_sp (h:Hd):tailL h=sp (tailA h):=by
 unfold tailL tailA
 split
 ·exact(List.append_nil _).symm
 ·split
  ·exact(List.append_nil _).symm
  ·rfl
theorem itemL_sp (x:St ⊕ (Hd × Int)):itemL x=firstI x++sp (argsI x):=by
 cases x with
 | inl s=>
  show [115,116,114,101,97,109]++spW s.1++spW s.2=[115,116,114,101,97,109]++(spW s.1++(spW s.2++[]))
  rw [List.append_nil,List.append_assoc]
 | inr p=>
  obtain⟨h,l⟩:=p
  show kindW h.kind++(spI l++spW h.name++spI h.mode++spI h.uid++spI h.gid++spI h.time++spI h.weight++spI h.hidden)++tailL h=kindW h.kind++sp (headA h l++tailA h)
  rw [sp_app,←tailL_sp]
  have e:sp (headA h l)=spI l++(spW h.name++(spI h.mode++(spI h.uid++(spI h.gid++(spI h.time++(spI h.weight++(spI h.hidden++[]))))))):=rfl
  rw [e]
  simp only [List.append_assoc,List.append_nil]
def okI:St ⊕ (Hd × Int)→Prop
 | .inl _=>True
 | .inr (h,l)=>((h.kind=0∧h.data=eS∧h.target=eS)∨(h.kind=1∧h.target=eS)∨(h.kind=2∧h.data=eS))∧N64 l∧N64 h.mode∧N64 h.uid∧N64 h.gid∧N64 h.time∧N64 h.weight∧N64 h.hidden
theorem headW_back {ws r:List ByteArray} {l:Int} {h:Hd} (e:headW ws=some (l,h,r)):ws.map (·.data.toList)=headA h l++r.map (·.data.toList)∧h.kind=0∧h.data=eS∧h.target=eS:=by
 unfold headW at e
 split at e
 ·split at e
  ·rename_i e1 e2 e3 e4 e5 e6 e7 e8
   injection e with e
   injection e with e9 e
   injection e with e10 e
   subst e9;subst e10;subst e
   refine⟨?_,rfl,rfl,rfl⟩
   simp only [List.map_cons,headA]
   rw [numW_spec e1,unword_back e2,numW_spec e3,numW_spec e4,numW_spec e5,numW_spec e6,numW_spec e7,numW_spec e8]
   rfl
  ·cases e
 ·cases e
theorem kindOf_cases (w:ByteArray):(w=wDir∧kindOf w=0)∨(w=wFile∧kindOf w=1)∨(w=wLink∧kindOf w=2)∨(w=wStream∧kindOf w=3)∨kindOf w = -1:=by
 unfold kindOf
 split
 ·exact Or.inl ⟨by assumption,rfl⟩
 ·split
  ·exact Or.inr (Or.inl ⟨by assumption,rfl⟩)
  ·split
   ·exact Or.inr (Or.inr (Or.inl ⟨by assumption,rfl⟩))
   ·split
    ·exact Or.inr (Or.inr (Or.inr (Or.inl ⟨by assumption,rfl⟩)))
    ·exact Or.inr (Or.inr (Or.inr (Or.inr rfl)))
def okK:St ⊕ (Hd × Int)→Prop
 | .inl _=>True
 | .inr (h,_)=>(h.kind=0∧h.data=eS∧h.target=eS)∨(h.kind=1∧h.target=eS)∨(h.kind=2∧h.data=eS)
theorem line_back {w:ByteArray} {ws:List ByteArray} {x:St ⊕ (Hd × Int)} (e:lineW (w :: ws)=some x):firstI x=w.data.toList∧argsI x=ws.map (·.data.toList)∧okK x:=by
 unfold lineW at e
 simp only [] at e
 rcases kindOf_cases w with⟨hw,hk⟩ | ⟨hw,hk⟩ | ⟨hw,hk⟩ | ⟨hw,hk⟩ | hk
 ·rw [hk,if_neg (by decide),if_neg (by decide)] at e
  cases eh:headW ws with
  | none=>rw [eh] at e;cases e
  | some p=>
   obtain⟨l,h,r⟩:=p
   rw [eh] at e
   simp only [if_true] at e
   obtain⟨h1,h2,h3,h4⟩:=headW_back eh
   split at e
   ·rename_i hr
    injection e with e
    subst e;subst hr
    refine⟨?_,?_,Or.inl ⟨h2,h3,h4⟩⟩
    ·show kindW h.kind=_
     rw [h2,hw];rfl
    ·show headA h l++tailA h=_
     rw [h1]
     unfold tailA
     rw [if_neg (by omega),if_neg (by omega)]
     rfl
   ·cases e
 ·rw [hk,if_neg (by decide),if_neg (by decide)] at e
  cases eh:headW ws with
  | none=>rw [eh] at e;cases e
  | some p=>
   obtain⟨l,h,r⟩:=p
   rw [eh] at e
   simp only [] at e
   rw [if_neg (by decide)] at e
   obtain⟨h1,h2,h3,h4⟩:=headW_back eh
   match r,e with
   | [],e=>cases e
   | _ :: _ :: _,e=>cases e
   | [y],e=>
    simp only [] at e
    cases hy:unword y with
    | none=>rw [hy] at e;cases e
    | some s=>
     rw [hy] at e
     simp only [if_true] at e
     injection e with e
     subst e
     refine⟨?_,?_,Or.inr (Or.inl ⟨rfl,h4⟩)⟩
     ·show kindW 1=_
      rw [hw];rfl
     ·show headA h l++tailA _=_
      rw [h1,List.map_cons,unword_back hy]
      rfl
 ·rw [hk,if_neg (by decide),if_neg (by decide)] at e
  cases eh:headW ws with
  | none=>rw [eh] at e;cases e
  | some p=>
   obtain⟨l,h,r⟩:=p
   rw [eh] at e
   simp only [] at e
   rw [if_neg (by decide)] at e
   obtain⟨h1,h2,h3,h4⟩:=headW_back eh
   match r,e with
   | [],e=>cases e
   | _ :: _ :: _,e=>cases e
   | [y],e=>
    simp only [] at e
    cases hy:unword y with
    | none=>rw [hy] at e;cases e
    | some s=>
     rw [hy] at e
     simp only [] at e
     rw [if_neg (by decide)] at e
     injection e with e
     subst e
     refine⟨?_,?_,Or.inr (Or.inr ⟨rfl,h3⟩)⟩
     ·show kindW 2=_
      rw [hw];rfl
     ·show headA h l++tailA _=_
      rw [h1,List.map_cons,unword_back hy]
      rfl
 ·rw [hk,if_pos rfl] at e
  match ws,e with
  | [],e=>cases e
  | [_],e=>cases e
  | _ :: _ :: _ :: _,e=>cases e
  | [a,b],e=>
   simp only [] at e
   cases ha:unword a with
   | none=>rw [ha] at e;cases e
   | some sa=>
    cases hb:unword b with
    | none=>rw [ha,hb] at e;cases e
    | some sb=>
     rw [ha,hb] at e
     injection e with e
     subst e
     refine⟨?_,?_,trivial⟩
     ·rw [hw];rfl
     ·show [Wd sa,Wd sb]=_
      rw [List.map_cons,List.map_cons,unword_back ha,unword_back hb]
      rfl
 ·rw [hk,if_neg (by decide),if_pos (by decide)] at e
  cases e
theorem item_back {l:List UInt8} {x:St ⊕ (Hd × Int)} (e:lineW (wordsOf l)=some x):l=itemL x∧okK x:=by
 cases hp:piecesC 32 l with
 | nil=>exact absurd hp (piecesC_ne 32 l)
 | cons w ws=>
  unfold wordsOf at e
  rw [hp,List.map_cons] at e
  obtain⟨h1,h2,h3⟩:=line_back e
  have hm:∀q:List (List UInt8),(q.map fun p=>(⟨p.toArray⟩:ByteArray)).map (·.data.toList)=q:=fun q=>by
   rw [List.map_map]
   exact(List.map_congr_left (fun a _=>by simp)).trans (List.map_id q)
  rw [hm] at h2
  exact⟨by rw [sp_pieces l w ws hp,itemL_sp,h1,h2],h3⟩
theorem linesI_cons (x:St ⊕ (Hd × Int)) (xs:List (St ⊕ (Hd × Int))):linesI (x :: xs)=itemL x++10 :: linesI xs:=by
 show itemL x++[10]++linesI xs=_
 rw [List.append_assoc]
 rfl
theorem lines_back:∀(ls:List (List UInt8)) (i:Nat) (st st2:List Tr),linesS ls i st=.ok st2→∃xs,ls=xs.map itemL∧foldI xs st=some st2∧∀x∈xs,okK x
 | [],i,st,st2,h=>by
  injection h with h
  subst h
  exact⟨[],rfl,rfl,fun x hx=>by cases hx⟩
 | l :: ls,i,st,st2,h=>by
  rw [linesS,stepS_item] at h
  cases e:lineW (wordsOf l) with
  | none=>rw [e] at h;cases h
  | some x=>
   rw [e,Option.bind_some] at h
   cases e1:stepI st x with
   | none=>rw [e1] at h;cases h
   | some s1=>
    rw [e1] at h
    obtain⟨xs,h1,h2,h3⟩:=lines_back ls (i+1) s1 st2 h
    obtain⟨h4,h5⟩:=item_back e
    refine⟨x :: xs,by rw [List.map_cons,h1,h4],by rw [foldI,e1];exact h2,fun y hy=>?_⟩
    rcases List.mem_cons.1 hy with rfl | hy
    ·exact h5
    ·exact h3 y hy
/-! Valid trees. -/
theorem ranged_i64 {h:Hd} (e:numE h=0):N64 h.mode∧N64 h.uid∧N64 h.gid∧N64 h.time∧N64 h.weight∧N64 h.hidden:=by
 unfold numE at e
 split at e
 ·rename_i hr
  unfold rangedB at hr
  have:=of_decide_eq_true hr
  unfold N64
  omega
 ·cases e
theorem kind_ok {t:Tr} {l:Nat} (h1:kindE t.h l=0) (h2:partsE t=0):okK (.inr (t.h,(l:Int)))∧(t.h.kind≠1→t.ss=[])∧(t.h.kind≠0→t.ks=.nil):=by
 unfold kindE at h1
 split at h1
 ·cases h1
 ·rename_i hk
  unfold partsE at h2
  split at h2
  ·cases h2
  ·rename_i hp
   have p1:t.h.kind≠1→t.h.data=eS∧t.ss.length=0:=fun e=>Classical.byContradiction fun hn=>hp (Or.inl ⟨e,by
    by_cases hd:t.h.data=eS
    ·right
     by_cases hs:t.ss.length=0
     ·exact absurd ⟨hd,hs⟩ hn
     ·omega
    ·exact Or.inl hd⟩)
   have p2:t.h.kind≠2→t.h.target=eS:=fun e=>Classical.byContradiction fun hn=>hp (Or.inr (Or.inl ⟨e,hn⟩))
   have p3:t.h.kind≠0→t.ks.len=0:=fun e=>Classical.byContradiction fun hn=>hp (Or.inr (Or.inr ⟨e,by omega⟩))
   refine⟨?_,fun e=>List.eq_nil_of_length_eq_zero (p1 e).2,fun e=>?_⟩
   ·have hc:t.h.kind=0∨t.h.kind=1∨t.h.kind=2:=by omega
    rcases hc with e | e | e
    ·exact Or.inl ⟨e,(p1 (by omega)).1,p2 (by omega)⟩
    ·exact Or.inr (Or.inl ⟨e,p2 (by omega)⟩)
    ·exact Or.inr (Or.inr ⟨e,(p1 (by omega)).1⟩)
   ·have:=p3 e
    cases hks:t.ks with
    | nil=>rfl
    | node h ss ks nx=>rw [hks,Fo.len_node] at this;omega
theorem size_lev {t:Tr} {l:Nat} (h:oneE t l=0):l≤16:=by
 have:=oneE_size h
 unfold largeB at this
 rw [Bool.or_eq_false_iff] at this
 have h2:=of_decide_eq_false this.1
 omega
theorem item_ok {t:Tr} {l:Nat} (h:oneE t l=0):okI (.inr (t.h,(l:Int))):=by
 obtain⟨h1,_,h3,_,h5,_⟩:=oneE_iff.1 h
 obtain⟨k1,_,_⟩:=kind_ok h1 h3
 have:=size_lev h
 exact⟨k1,⟨by omega,by omega⟩,ranged_i64 h5⟩
theorem itemsF_ok:∀ {f:Fo} {l:Nat},okF f l→(∀x∈itemsF f l,okI x)∧OKF f
 | .nil,_,_=>⟨fun x hx=>(by cases hx),trivial⟩
 | .node h ss ks nx,l,⟨h1,h2,h3⟩=>by
  obtain⟨a1,a2⟩:=itemsF_ok h2
  obtain⟨b1,b2⟩:=itemsF_ok h3
  obtain⟨i1,_,i3,_⟩:=oneE_iff.1 h1
  obtain⟨_,k2,k3⟩:=kind_ok (t:=⟨h,ss,ks⟩) i1 i3
  refine⟨fun x hx=>?_,k2,k3,a2,b2⟩
  rw [itemsF] at hx
  rcases List.mem_cons.1 hx with rfl | hx
  ·exact item_ok (t:=⟨h,ss,ks⟩) h1
  ·rcases List.mem_append.1 hx with hx | hx
   ·rcases List.mem_append.1 hx with hx | hx
    ·obtain⟨s,_,rfl⟩:=List.mem_map.1 hx
     exact trivial
    ·exact a1 x hx
   ·exact b1 x hx
theorem tr_items {t:Tr} (h:validB t=true):(∀x∈itemsT t,okI x)∧∃st,foldI (itemsT t) []=some st∧leaveS 1 st.length st=[t]:=by
 obtain⟨_,h1,h2⟩:=valid_chk h
 obtain⟨a1,a2⟩:=itemsF_ok (okF_of h2)
 obtain⟨i1,_,i3,_⟩:=oneE_iff.1 h1
 obtain⟨_,k2,_⟩:=kind_ok i1 i3
 have hk:t.h.kind=0:=by
  unfold kindE at i1
  split at i1
  ·cases i1
  ·rename_i hk
   exact Classical.byContradiction fun hn=>hk (Or.inr (Or.inr ⟨rfl,hn⟩))
 have hs:t.ss=[]:=k2 (by omega)
 refine⟨fun x hx=>?_,?_⟩
 ·unfold itemsT at hx
  rw [hs] at hx
  rcases List.mem_cons.1 hx with rfl | hx
  ·exact item_ok h1
  ·exact a1 x hx
 ·obtain⟨st,e1,e2⟩:=foldI_forest t.ks 1 [⟨t.h,[],.nil⟩] ⟨t.h,[],.nil⟩ [] a2 (lv_done (Nat.le_refl _)) rfl (Or.inr hk)
  refine⟨st,?_,?_⟩
  ·unfold itemsT
   rw [hs,foldI]
   have e:stepI [] (.inr (t.h,1))=some [⟨t.h,[],.nil⟩]:=by
    show(if ((mostP []:Nat):Int) < 1∨((1:Int) < 2∧([]:List Tr)≠[])∨(1:Int) < 1 then none else some (⟨t.h,[],.nil⟩ :: leaveS ((1:Int).toNat - 1) ([]:List Tr).length []))=_
    rw [if_neg]
    ·rfl
    ·rintro (h | ⟨_,h⟩ | h)
     ·revert h;decide
     ·exact h rfl
     ·revert h;decide
   rw [e,Option.bind_some]
   exact e1
  ·have:leaveS 1 st.length st=⟨t.h,[],(Fo.nil).app t.ks⟩ :: []:=e2
   rw [this]
   show [(⟨t.h,[],t.ks⟩:Tr)]=[t]
   rw [←hs]
theorem itemsS_one (t:Tr):itemsS [t]=itemsT t:=rfl
theorem parse_items {s:ByteArray} {st:List Tr} {t:Tr} (h1:linesS (piecesC 10 s.data.toList).dropLast 0 []=.ok st) (h2:leaveS 1 st.length st=[t]):(piecesC 10 s.data.toList).dropLast=(itemsT t).map itemL∧∀x∈itemsT t,okK x:=by
 obtain⟨xs,e1,e2,e3⟩:=lines_back _ _ _ _ h1
 obtain⟨e4,_⟩:=foldI_items xs [] st trivial e2
 have e5:=itemsS_leave 1 st.length st
 rw [h2,itemsS_one,e4] at e5
 have e6:itemsT t=xs:=e5
 rw [e6]
 exact⟨e1,e3⟩
theorem flat_items (xs:List (St ⊕ (Hd × Int))):(xs.map itemL).flatMap (· ++ [10])=linesI xs:=by
 unfold linesI
 rw [List.flatMap_map]
theorem parse_lines {s:ByteArray} {st:List Tr} {t:Tr} (h1:linesS (piecesC 10 s.data.toList).dropLast 0 []=.ok st) (h2:leaveS 1 st.length st=[t]):∃r,s.data.toList=linesT t++r∧(piecesC 10 s.data.toList).getLast? = some r:=by
 obtain⟨cl,pl,hp⟩:∃cl pl,piecesC 10 s.data.toList=cl++[pl]:=⟨_,_,(List.dropLast_concat_getLast (piecesC_ne 10 s.data.toList)).symm⟩
 obtain⟨h3,_⟩:=parse_items h1 h2
 refine⟨pl,?_,by rw [hp];exact List.getLast?_concat⟩
 rw [hp,List.dropLast_concat] at h3
 have:=pieces_join 10 _ _ _ hp
 rw [h3,flat_items,←linesT_items] at this
 exact this
/-! Sizes. -/
def itSz:St ⊕ (Hd × Int)→Nat
 | .inl s=>20+s.1.size+s.2.size
 | .inr (h,_)=>h.sz
def sumI (xs:List (St ⊕ (Hd × Int))):Nat:=(xs.map itSz).sum
theorem sumI_app (a b:List (St ⊕ (Hd × Int))):sumI (a++b)=sumI a+sumI b:=by unfold sumI;rw [List.map_append,List.sum_append]
theorem sumI_cons (x:St ⊕ (Hd × Int)) (xs:List (St ⊕ (Hd × Int))):sumI (x :: xs)=itSz x+sumI xs:=by unfold sumI;rw [List.map_cons,List.sum_cons]
theorem sumI_str:∀ss:List St,sumI (ss.map Sum.inl)=szS ss
 | []=>rfl
 | s :: ss=>by rw [List.map_cons,sumI_cons,sumI_str ss];rfl
theorem sumI_F:∀(f:Fo) (l:Nat),sumI (itemsF f l)=f.sz
 | .nil,_=>rfl
 | .node h ss ks nx,l=>by
  rw [itemsF,sumI_cons,sumI_app,sumI_app,sumI_str,sumI_F ks,sumI_F nx,Fo.sz]
  show h.sz+_=_
  omega
theorem sumI_T (t:Tr):sumI (itemsT t)=t.sz:=by
 unfold itemsT
 rw [sumI_cons,sumI_app,sumI_str,sumI_F,Tr.sz]
 show t.h.sz+_=_
 omega
theorem wd_len (s:ByteArray):s.size≤(Wd s).length∧1≤(Wd s).length:=by
 unfold Wd wordS
 split
 ·rename_i h
  rw [h]
  exact⟨Nat.zero_le _,Nat.le_refl _⟩
 ·rename_i h
  have h1:=(wordL_len s.data.toList).1
  have e:(⟨(wordL s.data.toList).toArray⟩:ByteArray).data.toList=wordL s.data.toList:=by simp
  have e2:s.data.toList.length=s.size:=by rw [Array.length_toList];rfl
  rw [e]
  omega
theorem itoa_pos (n:Int):1≤(Lib.itoa n).length:=by
 unfold Lib.itoa
 split
 ·simp
 ·have:=dec_ne n.toNat
  exact List.length_pos_iff.2 this
theorem kindW_len (k:Int):4≤(kindW k).length:=by
 unfold kindW
 split
 ·decide
 ·split <;> decide
theorem item_size {x:St ⊕ (Hd × Int)} (h:okK x):itSz x≤3*((itemL x).length+1):=by
 rw [itemL_sp,List.length_append]
 cases x with
 | inl s=>
  have h1:=wd_len s.1
  have h2:=wd_len s.2
  show 20+s.1.size+s.2.size≤3*(6+(sp [Wd s.1,Wd s.2]).length+1)
  rw [sp_cons,sp_cons]
  simp only [List.length_cons,List.length_append,sp,List.flatMap_nil,List.length_nil]
  omega
 | inr p=>
  obtain⟨hd,l⟩:=p
  have h0:=kindW_len hd.kind
  have h1:=wd_len hd.name
  have i0:=itoa_pos l
  have i1:=itoa_pos hd.mode
  have i2:=itoa_pos hd.uid
  have i3:=itoa_pos hd.gid
  have i4:=itoa_pos hd.time
  have i5:=itoa_pos hd.weight
  have i6:=itoa_pos hd.hidden
  show hd.sz≤3*((kindW hd.kind).length+(sp (headA hd l++tailA hd)).length+1)
  rw [sp_app,List.length_append]
  have e:(sp (headA hd l)).length=8+(Lib.itoa l).length+(Wd hd.name).length+(Lib.itoa hd.mode).length+(Lib.itoa hd.uid).length+(Lib.itoa hd.gid).length+(Lib.itoa hd.time).length+(Lib.itoa hd.weight).length+(Lib.itoa hd.hidden).length:=by
   unfold headA
   simp only [sp_cons,List.length_cons,List.length_append]
   simp only [sp,List.flatMap_nil,List.length_nil]
   omega
  have e2:hd.data.size+hd.target.size≤(sp (tailA hd)).length:=by
   rcases h with⟨hk,h2,h3⟩ | ⟨hk,h3⟩ | ⟨hk,h2⟩
   ·rw [h2,h3]
    exact Nat.zero_le _
   ·unfold tailA
    rw [if_pos hk,h3,sp_cons]
    have:=wd_len hd.data
    have e0:(eS:ByteArray).size=0:=rfl
    simp only [List.length_cons,List.length_append]
    omega
   ·unfold tailA
    rw [if_neg (by omega),if_pos hk,h2,sp_cons]
    have:=wd_len hd.target
    have e0:(eS:ByteArray).size=0:=rfl
    simp only [List.length_cons,List.length_append]
    omega
  rw [Hd.sz,e]
  omega
theorem items_size:∀xs:List (St ⊕ (Hd × Int)),(∀x∈xs,okK x)→sumI xs≤3*(linesI xs).length
 | [],_=>Nat.zero_le _
 | x :: xs,h=>by
  have h1:=item_size (h x (List.mem_cons_self ..))
  have h2:=items_size xs (fun y hy=>h y (List.mem_cons_of_mem _ hy))
  rw [sumI_cons,linesI_cons,List.length_append,List.length_cons]
  omega
theorem parse_small {s:ByteArray} (hs:s.size≤20000):∀st t,linesS (piecesC 10 s.data.toList).dropLast 0 []=.ok st→leaveS 1 st.length st=[t]→t.sz≤60000:=by
 intro st t h1 h2
 obtain⟨_,h3⟩:=parse_items h1 h2
 obtain⟨r,h4,_⟩:=parse_lines h1 h2
 have h5:=items_size _ h3
 rw [sumI_T,←linesT_items] at h5
 have h6:s.data.toList.length=s.size:=by rw [Array.length_toList];rfl
 rw [h4,List.length_append] at h6
 omega
/-! What is read is written as the same text. -/
theorem step_ne {st st2:List Tr} {x:St ⊕ (Hd × Int)} (h:stepI st x=some st2):st2≠[]:=by
 cases x with
 | inl s=>
  cases st with
  | nil=>cases h
  | cons t r=>
   unfold stepI at h
   dsimp only at h
   split at h
   ·injection h with h
    subst h
    simp
   ·cases h
 | inr p=>
  obtain⟨hd,l⟩:=p
  have e0:stepI st (.inr (hd,l))=if (mostP st:Int) < l∨(l < 2∧st≠[])∨l < 1 then none else some (⟨hd,[],.nil⟩ :: leaveS (l.toNat - 1) st.length st):=rfl
  rw [e0] at h
  split at h
  ·cases h
  ·injection h with h
   subst h
   simp
theorem fold_ne:∀(xs:List (St ⊕ (Hd × Int))) (st st2:List Tr),foldI xs st=some st2→xs≠[]→st2≠[]
 | [],_,_,_,h=>absurd rfl h
 | [x],st,st2,h,_=>by
  rw [foldI] at h
  cases e:stepI st x with
  | none=>rw [e] at h;cases h
  | some s1=>
   rw [e] at h
   injection h with h
   subst h
   exact step_ne e
 | x :: y :: xs,st,st2,h,_=>by
  rw [foldI] at h
  cases e:stepI st x with
  | none=>rw [e] at h;cases h
  | some s1=>
   rw [e] at h
   exact fold_ne (y :: xs) s1 st2 h (by simp)
theorem parse_format {s:ByteArray} {t:Tr} {i:Int} (h:parseT s=(t,i,0)):i=0∧formatT t=(s,0)∧validB t=true:=by
 unfold parseT at h
 split at h
 ·cases h
 ·rename_i hsz
  cases e:linesS (piecesC 10 s.data.toList).dropLast 0 [] with
  | error k=>rw [e] at h;cases h
  | ok st=>
   rw [e] at h
   simp only [] at h
   split at h
   ·cases h
   ·rename_i hc
    obtain⟨xs,x1,x2,_⟩:=lines_back _ _ _ _ e
    have hne:st≠[]:=by
     refine fold_ne xs [] st x2 fun e0=>?_
     subst e0
     have:(piecesC 10 s.data.toList).dropLast.length=0:=by rw [x1];rfl
     rw [List.length_dropLast] at this
     exact hc (Or.inl (by omega))
    obtain⟨t',ht'⟩:=leave_one st.length st hne (Nat.le_refl _)
    rw [ht'] at h
    simp only [] at h
    split at h
    ·rename_i hk
     injection h with _ h
     injection h with _ h
     exact absurd h hk
    ·rename_i hk
     injection h with h1 h2
     injection h2 with h2 _
     subst h1;subst h2
     have hv:validB t'=true:=decide_eq_true (Classical.byContradiction hk)
     obtain⟨r,p1,p2⟩:=parse_lines e ht'
     have hr:r=[]:=by
      have:(piecesC 10 s.data.toList).getLast? = some []:=Classical.byContradiction fun hn=>hc (Or.inr hn)
      rw [this] at p2
      exact(Option.some.inj p2).symm
     subst hr
     rw [List.append_nil] at p1
     refine⟨rfl,?_,hv⟩
     have h6:s.data.toList.length=s.size:=by rw [Array.length_toList];rfl
     unfold formatT
     rw [if_neg (by rw [hv];decide),if_neg (by rw [←p1];omega),←p1]
end Go.Proofs.YtlhakdildbplkaaGreatDoor
