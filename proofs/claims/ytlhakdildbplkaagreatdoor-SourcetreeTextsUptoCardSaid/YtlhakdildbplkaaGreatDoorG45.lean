/- Contracts and plain words for the laws of this chapter,part 45: Pl13. No condition. -/
import Derived.Test.YtlhakdildbplkaaGreatDoorG39
namespace Go.Proofs.YtlhakdildbplkaaGreatDoor
set_option linter.unusedSimpArgs false
set_option linter.unusedVariables false
def kindTop:List Tr→Int
 | []=>0
 | t :: _=>t.h.kind
theorem mostP_is (st:List Tr):mostP st=if kindTop st=0 then st.length+1 else st.length:=by
 cases st with
 | nil=>rfl
 | cons t r=>rfl
theorem linesS_split:∀(a b:List (List UInt8)) (i:Nat) (st:List Tr),linesS (a++b) i st=match linesS a i st with
  | .ok s=>linesS b (i+a.length) s
  | .error e=>.error e
 | [],_,_,_=>rfl
 | l :: a,b,i,st=>by
  rw [List.cons_append,linesS,linesS]
  cases stepS st (wordsOf l) with
  | none=>rfl
  | some s1=>
   dsimp only
   rw [linesS_split a b (i+1) s1,List.length_cons,show i+1+a.length=i+(a.length+1) by omega]
def AtL (cl:List (List UInt8)) (q:Nat) (st:List Tr):Prop:=linesS (cl.take q) 0 []=.ok st
theorem AtL.zero (cl:List (List UInt8)):AtL cl 0 []:=rfl
theorem AtL.cut {cl:List (List UInt8)} {q:Nat} {st:List Tr} {p:List UInt8} (h:AtL cl q st) (hp:cl[q]? = some p):linesS (cl.take (q+1)) 0 []=match stepS st (wordsOf p) with
  | some s=>.ok s
  | none=>.error (q+1):=by
 rw [List.take_add_one,hp]
 have hl:(cl.take q).length=q:=by rw [List.length_take,Nat.min_eq_left (Nat.le_of_lt (List.getElem?_eq_some_iff.1 hp).1)]
 rw [linesS_split,h]
 dsimp only
 rw [hl,Nat.zero_add]
 show linesS [p] q st=_
 rw [linesS]
 cases stepS st (wordsOf p) <;> rfl
theorem AtL.next {cl:List (List UInt8)} {q:Nat} {st st2:List Tr} {p:List UInt8} (h:AtL cl q st) (hp:cl[q]? = some p) (hs:stepS st (wordsOf p)=some st2):AtL cl (q+1) st2:=by
 have:=h.cut hp
 rw [hs] at this
 exact this
theorem AtL.err {cl:List (List UInt8)} {q:Nat} {st:List Tr} {p:List UInt8} (h:AtL cl q st) (hp:cl[q]? = some p) (hs:stepS st (wordsOf p)=none):linesS cl 0 []=.error (q+1):=by
 have:=h.cut hp
 rw [hs] at this
 conv=>lhs;rw [←List.take_append_drop (q+1) cl]
 rw [linesS_split,this]
theorem AtL.fin {cl:List (List UInt8)} {st:List Tr} (h:AtL cl cl.length st):linesS cl 0 []=.ok st:=by
 unfold AtL at h
 rwa [List.take_length] at h
theorem itemsS_len:∀st:List Tr,st.length≤(itemsS st).length
 | []=>Nat.zero_le _
 | t :: r=>by
  have:=itemsS_len r
  rw [itemsS,List.length_append,List.length_cons,List.length_cons]
  omega
theorem close_sz {st:List Tr} (h:st≠[]):(closeS st).sz=sumI (itemsS st):=by
 obtain⟨t,ht⟩:=leave_one st.length st h (Nat.le_refl _)
 have e:=close_one ht
 have e2:=itemsS_leave 1 st.length st
 rw [ht,itemsS_one] at e2
 rw [←e,←sumI_T,e2]
theorem AtL.facts {cl:List (List UInt8)} {q:Nat} {st:List Tr} (h:AtL cl q st) (hq:q≤cl.length):topNil st∧(0 < q→st≠[])∧(q=0→st=[])∧st.length≤q∧(closeS st).sz≤20+3*(cl.flatMap (· ++ [10])).length:=by
 obtain⟨xs,e1,e2,e3⟩:=lines_back _ _ _ _ h
 obtain⟨e4,e5⟩:=foldI_items xs [] st trivial e2
 have e6:itemsS st=xs:=e4
 have hl:xs.length=q:=by
  have:=congrArg List.length e1
  rw [List.length_take,Nat.min_eq_left hq,List.length_map] at this
  exact this.symm
 have h0:0 < q→st≠[]:=fun h1=>fold_ne xs [] st e2 (by intro e;rw [e] at hl;simp at hl;omega)
 refine⟨e5,h0,fun h1=>?_,?_,?_⟩
 ·have:xs=[]:=List.length_eq_zero_iff.1 (by omega)
  rw [this] at e2
  injection e2 with e2
  exact e2.symm
 ·have:=itemsS_len st
  rw [e6] at this
  omega
 ·by_cases hs:st=[]
  ·rw [hs]
   show 20≤_
   omega
  ·rw [close_sz hs,e6]
   have h1:=items_size xs e3
   have h2:linesI xs=(cl.take q).flatMap (· ++ [10]):=by rw [e1,flat_items]
   have h3:(cl.flatMap (· ++ [10])).length=((cl.take q).flatMap (· ++ [10])).length+((cl.drop q).flatMap (· ++ [10])).length:=by
    rw [←List.length_append,←List.flatMap_append,List.take_append_drop]
   rw [h2] at h1
   omega
theorem nodeW_stream (ws:List ByteArray):nodeW (wStream :: ws)=none:=nodeW_other (by decide) (by decide) (by decide)
theorem lineW_stream (ws:List ByteArray):lineW (wStream :: ws)=match ws with
  | [a,b]=>match unword a,unword b with
   | some a,some b=>some (.inl (a,b))
   | _,_=>none
  | _=>none:=by
 unfold lineW
 simp only []
 rw [if_pos (show kindOf wStream=3 from rfl)]
 rfl
theorem step_str_ok {t:Tr} {r:List Tr} {a b x y:ByteArray} (hk:t.h.kind=1) (ha:unword a=some x) (hb:unword b=some y):stepS (t :: r) [wStream,a,b]=some (⟨t.h,t.ss++[(x,y)],t.ks⟩ :: r):=by
 rw [stepS_item,lineW_stream]
 simp only [ha,hb,Option.bind_some]
 unfold stepI
 simp only []
 rw [if_pos hk]
theorem step_str_no {st:List Tr} {a b:ByteArray} (h:unword a=none∨unword b=none):stepS st [wStream,a,b]=none:=by
 rw [stepS_item,lineW_stream]
 simp only []
 rcases h with h | h
 ·rw [h];rfl
 ·rw [h]
  cases unword a <;> rfl
theorem step_else {st:List Tr} {w0:ByteArray} {ws:List ByteArray} (hC:¬(w0=wStream∧ws.length=2∧st≠[]∧kindTop st=1)):stepS st (w0 :: ws)=match nodeW (w0 :: ws) with
  | none=>none
  | some (h,l)=>if (mostP st:Int) < l∨(l < 2∧st≠[])∨l < 1 then none else some (⟨h,[],.nil⟩ :: leaveS (l.toNat - 1) st.length st):=by
 by_cases hw:w0=wStream
 ·subst hw
  rw [nodeW_stream,stepS_item,lineW_stream]
  match ws,hC with
  | [],_=>rfl
  | [_],_=>rfl
  | _ :: _ :: _ :: _,_=>rfl
  | [a,b],hC=>
   simp only []
   cases unword a with
   | none=>rfl
   | some x=>
    cases unword b with
    | none=>rfl
    | some y=>
     cases st with
     | nil=>rfl
     | cons t r=>
      show stepI (t :: r) (.inl (x,y))=none
      unfold stepI
      simp only []
      rw [if_neg (show ¬t.h.kind=1 from fun hk=>hC ⟨rfl,rfl,by simp,hk⟩)]
 ·have hk:kindOf w0≠3:=by
   rcases kindOf_cases w0 with⟨_,h⟩ | ⟨_,h⟩ | ⟨_,h⟩ | ⟨h,_⟩ | h
   ·omega
   ·omega
   ·omega
   ·exact absurd h hw
   ·omega
  rw [stepS_item]
  unfold nodeW
  cases e:lineW (w0 :: ws) with
  | none=>rfl
  | some x=>
   cases x with
   | inr p=>rfl
   | inl s=>
    exfalso
    have h1:=(line_back e).1
    have h2:w0=wStream:=by
     apply ByteArray.ext
     apply Array.toList_inj.1
     rw [←h1]
     rfl
    exact hw h2
theorem parse_at {s:ByteArray} {cl:List (List UInt8)} {pl:List UInt8} (hs:s.size≤65536) (hp:piecesC 10 s.data.toList=cl++[pl]):parseT s=match linesS cl 0 [] with
  | .error i=>(Tr.zero,(i:Int),3)
  | .ok st=>
   if cl.length+1 < 2∨pl≠[] then (Tr.zero,((cl.length+1:Nat):Int),3)
   else match leaveS 1 st.length st with
    | [t]=>if (checkT t).2≠0 then (Tr.zero,0,(checkT t).2) else (t,0,0)
    | _=>(Tr.zero,0,0):=by
 have hdl:(piecesC 10 s.data.toList).dropLast=cl:=by rw [hp,List.dropLast_concat]
 unfold parseT
 rw [if_neg (by omega),hdl,hp]
 simp
 rfl
theorem parse_E {s:ByteArray} {cl:List (List UInt8)} {pl:List UInt8} {i:Nat} (hs:s.size≤65536) (hp:piecesC 10 s.data.toList=cl++[pl]) (h:linesS cl 0 []=.error i):parseT s=(Tr.zero,(i:Int),3):=by
 rw [parse_at hs hp,h]
theorem parse_L {s:ByteArray} {cl:List (List UInt8)} {pl:List UInt8} {st:List Tr} (hs:s.size≤65536) (hp:piecesC 10 s.data.toList=cl++[pl]) (h:linesS cl 0 []=.ok st) (hc:cl.length+1 < 2∨pl≠[]):parseT s=(Tr.zero,((cl.length+1:Nat):Int),3):=by
 rw [parse_at hs hp,h]
 dsimp only
 rw [if_pos hc]
theorem parse_C {s:ByteArray} {cl:List (List UInt8)} {pl:List UInt8} {st:List Tr} (hs:s.size≤65536) (hp:piecesC 10 s.data.toList=cl++[pl]) (h:linesS cl 0 []=.ok st) (hc:¬(cl.length+1 < 2∨pl≠[])) (hne:st≠[]):parseT s=if (checkT (closeS st)).2≠0 then (Tr.zero,0,(checkT (closeS st)).2) else (closeS st,0,0):=by
 rw [parse_at hs hp,h]
 dsimp only
 rw [if_neg hc]
 obtain⟨t,ht⟩:=leave_one st.length st hne (Nat.le_refl _)
 rw [ht,close_one ht]
theorem parse_big {s:ByteArray} (hs:65536 < s.size):parseT s=(Tr.zero,0,7):=by
 unfold parseT
 rw [if_pos hs]
end Go.Proofs.YtlhakdildbplkaaGreatDoor
