/- Contracts and plain words for the laws of this chapter,part 42: Ed2,Ed3,Ed4,Ed5. No condition. -/
import Derived.Test.YtlhakdildbplkaaGreatDoorG34
import Derived.Test.YtlhakdildbplkaaGreatDoorG11
import Derived.Test.YtlhakdildbplkaaGreatDoorG21
import Derived.Test.YtlhakdildbplkaaGreatDoorG16
import Derived.Test.YtlhakdildbplkaaGreatDoorG3
namespace Go.Proofs.YtlhakdildbplkaaGreatDoor
set_option linter.unusedSimpArgs false
set_option linter.unusedVariables false
open Go.RowKit
def RowV (w:World) (B:Nat):List Tr→List Value→Prop
 | [],xs=>xs=[]
 | t :: l,xs=>∃(cs:Array Value) (xs':List Value),xs=cs.toList++xs'∧TreeR w B (.agg cs) t∧RowV w B l xs'
theorem TreeR.size12 {w:World} {B:Nat} {cs:Array Value} {t:Tr} (h:TreeR w B (.agg cs) t):cs.size=12:=by
 obtain⟨c,e,hz,_⟩:=h.cells
 injection e with e
 rw [e];exact hz
theorem TreeR.one12 {w:World} {B:Nat} {cs:Array Value} {t:Tr} (h:TreeR w B (.agg cs) t):cs.all (·.oneCell')=true:=by
 obtain⟨c,e,_,h1⟩:=h.cells
 injection e with e
 rw [e];exact h1
theorem RowV.snoc {w:World} {B:Nat} {cs:Array Value} {t:Tr} (ht:TreeR w B (.agg cs) t):∀ {l:List Tr} {xs:List Value},RowV w B l xs→RowV w B (l++[t]) (xs++cs.toList)
 | [],xs,h=>by
  have h:xs=[]:=h
  subst h
  exact⟨cs,[],by simp,ht,rfl⟩
 | _ :: l,xs,⟨cs0,xs',e,h1,h2⟩=>⟨cs0,xs'++cs.toList,by rw [e,List.append_assoc],h1,RowV.snoc ht h2⟩
theorem RowV.later {w w':World} {B B':Nat} (hb:Below B w w') (hB:B≤B'):∀ {l:List Tr} {xs:List Value},RowV w B l xs→RowV w' B' l xs
 | [],_,h=>h
 | _ :: _,_,⟨cs0,xs',e,h1,h2⟩=>⟨cs0,xs',e,(h1.below hb).mono hB,RowV.later hb hB h2⟩
theorem RowV.forR {w:World} {B g:Nat}:∀ {l:List Tr} {xs:List Value} (o:Nat),RowV w B l xs→(∀j u,xs[j]? = some u→w.cell? ⟨g,o+j,none⟩=some u)→ForR w B (Fo.of l) g o
 | [],_,_,_,_=>trivial
 | t :: l,xs,o,⟨cs,xs',e,h1,h2⟩,hc=>by
  have hz:cs.toList.length=12:=by rw [Array.length_toList];exact h1.size12
  subst e
  obtain⟨kv,sv,e2,hs,hk⟩:=h1
  injection e2 with e2
  subst e2
  refine⟨⟨kv,sv,rangeAt_of fun j u hj=>hc j u ?_,hs,hk⟩,RowV.forR (o+12) h2 fun j u hj=>?_⟩
  ·rw [List.getElem?_append_left (List.getElem?_eq_some_iff.1 hj).1]
   exact hj
  ·rw [show o+12+j=o+(12+j) by omega]
   refine hc (12+j) u ?_
   rw [List.getElem?_append_right (by omega),hz,Nat.add_sub_cancel_left]
   exact hj
theorem RowV.kids {w:World} {B lo:Nat} {v:Value} {l:List Tr} {xs:List Value} (hr:RowV w B l xs) (hB:B≤w.heap.size) (ho:w.ownsRow lo 25 12 v l.length xs):KidR w w.heap.size v (Fo.of l):=by
 obtain⟨A,c,rfl⟩:=own_slice ho
 refine⟨A,c,by rw [Fo.of_len],fun h0=>?_⟩
 rw [Fo.of_len] at h0
 obtain⟨g,cap,e,_,hl,_,hc⟩:=own_at ho h0
 injection e with e1 _ _
 exact⟨g,0,e1,hl,RowV.forR 0 (hr.later (Below.refl _ _) hB) fun j u hj=>by rw [Nat.zero_add];exact hc j u hj⟩
def TreeX (O:Nat→Prop) (w:World) (v:Value) (t:Tr):Prop:=∀w',FrO O w w'→TreeR w' w'.heap.size v t
def LeftX (O:Nat→Prop) (w:World) (A:Option Addr) (r:Fo) (k:Nat):Prop:=∀w',FrO O w w'→Left w' w'.heap.size A r k
theorem FrO.refl (O:Nat→Prop) (w:World):FrO O w w:=FrO.of (Below.refl _ _)
theorem TreeX.here {O:Nat→Prop} {w:World} {v:Value} {t:Tr} (h:TreeX O w v t):TreeR w w.heap.size v t:=h w (FrO.refl O w)
theorem TreeX.later {O:Nat→Prop} {w w':World} {v:Value} {t:Tr} (h:TreeX O w v t) (hb:Below w.heap.size w w') (hO:∀j,O j→j < w.heap.size):TreeX O w' v t:=fun w2 hf=>h w2 ((FrO.of hb).trans hf fun j hj=>Or.inl hj)
theorem TreeX.of {O:Nat→Prop} {w:World} {B:Nat} {v:Value} {t:Tr} (h:TreeR w B v t) (hB:B≤w.heap.size) (hO:∀j,O j→B≤j):TreeX O w v t:=fun w2 hf=>(h.below (hf.below hB hO)).mono (Nat.le_trans hB hf.size)
theorem TreeX.left {O:Nat→Prop} {w:World} {A:Option Addr} {c:Nat} {sv:Value} {t:Tr} (h:TreeX O w (.agg (t.h.cells (.slice A t.ks.len c) sv)) t):LeftX O w A t.ks 0:=fun w2 hf=>by
 obtain⟨A',c',A2,c2,e,hk,_⟩:=(h w2 hf).openL
 injection e with e
 have e2:=congrArg (fun a:Array Value=>a[10]?) e
 have e3:Value.slice A t.ks.len c=Value.slice A' t.ks.len c':=by injection e2
 injection e3 with e4 _ _
 rw [e4]
 exact hk
theorem cell_gone (w:World) (g p:Nat):(w.setRow g #[]).cell? ⟨g,p,none⟩=none:=by
 unfold World.cell? World.setRow
 simp only [Array.getElem?_modify]
 cases h:w.heap[g]? with
 | none=>simp
 | some o=>cases o <;> simp
theorem TreeX.parts {O:Nat→Prop} {w:World} {h:Hd} {ss:List St} {ks nx:Fo} {A:Option Addr} {k:Nat} (hl:LeftX O w A (.node h ss ks nx) k) :
  ∃g o kv sv,A=some ⟨g,o,none⟩∧g < w.heap.size∧¬O g∧w.rangeAt g (o+k*12) (h.cells kv sv).toList∧(h.cells kv sv).all (·.oneCell')=true∧TreeX O w (.agg (h.cells kv sv)) ⟨h,ss,ks⟩∧LeftX O w A nx (k+1):=by
 have hpos:0 < (Fo.node h ss ks nx).len:=by unfold Fo.len;omega
 obtain⟨g,o,rfl,hg,⟨kv,sv,hr,hs,A1,c1,rfl,hk⟩,hn⟩:=hl w (FrO.refl O w) hpos
 have hgo:¬O g:=fun ho=>by
  obtain⟨g',o',e,_,⟨kv',sv',hr',_⟩,_⟩:=hl (w.setRow g #[]) (FrO.setRow ho) hpos
  injection e with e
  injection e with e1 e2 _
  subst e1;subst e2
  have:=hr' 0 (.string h.name) rfl
  rw [cell_gone] at this
  cases this
 have key:∀w',FrO O w w'→TreeR w' w'.heap.size (.agg (h.cells (.slice A1 ks.len c1) sv)) ⟨h,ss,ks⟩∧Left w' w'.heap.size (some ⟨g,o,none⟩) nx (k+1):=fun w' hf=>by
  obtain⟨g',o',e,hg',⟨kv',sv',hr',hs',hk'⟩,hn'⟩:=hl w' hf hpos
  injection e with e
  injection e with e1 e2 _
  subst e1;subst e2
  have hcell:∀p,w'.cell? ⟨g,p,none⟩=w.cell? ⟨g,p,none⟩:=fun p=>World.cell?_of_block (hf.block g hg hgo)
  have h10:=(hr' 10 kv' rfl).symm.trans ((hcell _).trans (hr 10 (.slice A1 ks.len c1) rfl))
  have h11:=(hr' 11 sv' rfl).symm.trans ((hcell _).trans (hr 11 sv rfl))
  injection h10 with h10
  injection h11 with h11
  rw [←h10,←h11]
  exact⟨⟨kv',sv',rfl,hs',hk'⟩,fun _=>⟨g,o,rfl,hg',by rw [show o+(k+1)*12=o+k*12+12 by omega];exact hn'⟩⟩
 obtain⟨A2,c2,rfl,_⟩:=hs
 exact⟨g,o,_,_,rfl,hg,hgo,hr,nodeLit _ _ _ _ _ _ _,fun w' hf=>(key w' hf).1,fun w' hf=>(key w' hf).2⟩
def RowX (O:Nat→Prop) (w:World):List Tr→List Value→Prop
 | [],xs=>xs=[]
 | t :: l,xs=>∃(cs:Array Value) (xs':List Value),xs=cs.toList++xs'∧TreeX O w (.agg cs) t∧RowX O w l xs'
theorem RowX.snoc {O:Nat→Prop} {w:World} {cs:Array Value} {t:Tr} (ht:TreeX O w (.agg cs) t):∀ {l:List Tr} {xs:List Value},RowX O w l xs→RowX O w (l++[t]) (xs++cs.toList)
 | [],xs,h=>by
  have h:xs=[]:=h
  subst h
  exact⟨cs,[],by simp,ht,rfl⟩
 | _ :: l,xs,⟨cs0,xs',e,h1,h2⟩=>⟨cs0,xs'++cs.toList,by rw [e,List.append_assoc],h1,RowX.snoc ht h2⟩
theorem RowX.at {O:Nat→Prop} {w w':World} (hf:FrO O w w'):∀ {l:List Tr} {xs:List Value},RowX O w l xs→RowV w' w'.heap.size l xs
 | [],_,h=>h
 | _ :: _,_,⟨cs0,xs',e,h1,h2⟩=>⟨cs0,xs',e,h1 w' hf,RowX.at hf h2⟩
theorem Fo.of_app (a b:List Tr):Fo.of (a++b)=(Fo.of a).app (Fo.of b):=by
 induction a with
 | nil=>rfl
 | cons x a ih=>rw [List.cons_append,Fo.of,ih,Fo.of,Fo.app]
theorem wpList_buildNodeA {ops:Array Oper} {rest:List Oper} {o:Oper} {a:Act} {w:World} {Q:Exit→Act→World→Prop} (hgd:o.guard=none) (x:Operand) (ho:o.op=.buildSlice 22 1 #[(0,x)]) (AC:Array Value) (hz:AC.size=12) (hx:a.eval x=.agg AC)
  (hK:wpList Tryz.prog ops Q rest (a.put o.dst (.slice (some ⟨w.heap.size,0,none⟩) 1 1)) (w.alloc (.cells AC 25))):wpList Tryz.prog ops Q (o :: rest) a w:=by
 refine wpList_plain hgd fun K hKK=>?_
 have h:=step_buildNodeA (ops:=ops) (Q:=Q) (E:=True) (K:=K) hgd x ho AC hz hx (hKK _ _ hK)
 rwa [if_pos (by simp [Region.wanted,hgd])] at h
theorem TreeX.wide {O O':Nat→Prop} {w W:World} {v:Value} {t:Tr} (h:TreeX O w v t) (hb:Below w.heap.size w W) (hO:∀j,O' j→O j∨w.heap.size≤j):TreeX O' W v t:=fun w2 hf=>h w2 ((FrO.of hb).trans hf hO)
theorem LeftX.at {O:Nat→Prop} {w:World} {A:Option Addr}:∀ {f:Fo} {j i:Nat} {k:Tr},LeftX O w A f j→f.list[i]? = some k→∃g o kv sv,A=some ⟨g,o,none⟩∧g < w.heap.size∧w.rangeAt g (o+(j+i)*12) (k.h.cells kv sv).toList∧(k.h.cells kv sv).all (·.oneCell')=true∧TreeX O w (.agg (k.h.cells kv sv)) k
 | .nil,_,_,_,_,h=>by simp [Fo.list] at h
 | .node h ss ks nx,j,0,k,hl,hi=>by
  have e:(⟨h,ss,ks⟩:Tr)=k:=by simpa [Fo.list] using hi
  subst e
  obtain⟨g,o,kv,sv,h1,h2,_,h3,h4,h5,_⟩:=TreeX.parts hl
  exact⟨g,o,kv,sv,h1,h2,h3,h4,h5⟩
 | .node h ss ks nx,j,i+1,k,hl,hi=>by
  obtain⟨g,o,kv,sv,h1,h2,_,h3,h4,h5,h6⟩:=TreeX.parts hl
  obtain⟨g',o',kv',sv',a1,a2,a3,a4,a5⟩:=LeftX.at h6 (by simpa [Fo.list] using hi)
  exact⟨g',o',kv',sv',a1,a2,by rw [show j+(i+1)=j+1+i by omega];exact a3,a4,a5⟩
def SlC (w:World) (B:Nat) (v:Value) (l:List ByteArray):Prop:=∃A c,v=.slice A l.length c∧l.length≤c∧(0 < l.length→∃g o,A=some ⟨g,o,none⟩∧g < B∧∀j s,l[j]? = some s→w.cell? ⟨g,o+j,none⟩=some (.string s))
theorem SlC.of {w:World} {B:Nat} {v:Value} {l:List ByteArray} (h:StrsR w B v l):SlC w w.heap.size v l:=by
 rcases Nat.eq_zero_or_pos l.length with h0 | h0
 ·obtain⟨A,c,rfl⟩:=own_slice h
  exact⟨A,c,rfl,by omega,fun h1=>by omega⟩
 ·obtain⟨g,cap,cur,rfl,hlg,hB,hnc,hcm,hcs,hcx⟩:=own_blk h h0
  obtain⟨g',cap',e,_,hl,_,hc⟩:=own_at h h0
  injection e with e1 _ _
  injection e1 with e1
  injection e1 with e1 _ _
  subst e1
  exact⟨_,cap,rfl,hnc,fun _=>⟨g,0,rfl,hl,fun j s hj=>by
   rw [Nat.zero_add]
   refine hc j _ ?_
   unfold strV
   rw [List.getElem?_map,hj]
   rfl⟩⟩
def KpP (bn:Nat) (cn:Array Value) (bk:Nat) (ck:Array Value) (g q:Nat) (kc:Array Value) (z:World):Prop:=Blk z bn cn 25∧Blk z bk ck 25∧g < z.heap.size∧z.rangeAt g q kc.toList
theorem KpP.below {bn bk g q:Nat} {cn ck kc:Array Value} {z z':World} (h:KpP bn cn bk ck g q kc z) (hb:Below z.heap.size z z'):KpP bn cn bk ck g q kc z':=⟨Blk.below hb h.1,Blk.below hb h.2.1,Nat.lt_of_lt_of_le h.2.2.1 hb.size,range_below hb h.2.2.1 h.2.2.2⟩
theorem KpP.row {bn bk g q br:Nat} {cn ck kc cs:Array Value} {z:World} (h:KpP bn cn bk ck g q kc z) (h1:bn≠br) (h2:bk≠br) (h3:g≠br):KpP bn cn bk ck g q kc (z.setRow br cs):=by
 have hf:FrO (fun j=>j=br) z (z.setRow br cs):=FrO.setRow rfl
 exact⟨hf.blk h.1 h1,hf.blk h.2.1 h2,Nat.lt_of_lt_of_le h.2.2.1 hf.size,fun j u hu=>(World.cell?_of_block (hf.block g h.2.2.1 h3)).trans (h.2.2.2 j u hu)⟩
theorem CapF.below {w w':World} (hb:Below w.heap.size w w'):∀ {f:Fo} {g o:Nat},CapF w f g o→CapF w' f g o
 | .nil,_,_,_=>trivial
 | .node _ _ ks nx,g,o,⟨⟨A,c,h1,h2,h3⟩,h4⟩=>⟨⟨A,c,(hb.cell (p:=⟨g,o+10,none⟩) (cell_lt h1)).trans h1,h2,fun h0=>by
  obtain⟨g',o',e,h5⟩:=h3 h0
  exact⟨g',o',e,CapF.below hb h5⟩⟩,CapF.below hb h4⟩
theorem CapT.below {w w':World} (hb:Below w.heap.size w w') {v:Value} {t:Tr} (h:CapT w v t):CapT w' v t:=by
 obtain⟨A,c,sv,e,h1,h2⟩:=h
 exact⟨A,c,sv,e,h1,fun h0=>by
  obtain⟨g,o,e2,h3⟩:=h2 h0
  exact⟨g,o,e2,h3.below hb⟩⟩
theorem CapF.at {w:World}:∀ {f:Fo} {g o i:Nat} {k:Tr},CapF w f g o→f.list[i]? = some k→∃A c,w.cell? ⟨g,o+i*12+10,none⟩=some (.slice A k.ks.len c)∧k.ks.len≤c∧(0 < k.ks.len→∃g' o',A=some ⟨g',o',none⟩∧CapF w k.ks g' o')
 | .nil,_,_,_,_,_,h=>by simp [Fo.list] at h
 | .node h ss ks nx,g,o,0,k,⟨h1,_⟩,hi=>by
  have e:(⟨h,ss,ks⟩:Tr)=k:=by simpa [Fo.list] using hi
  subst e
  simpa using h1
 | .node h ss ks nx,g,o,i+1,k,⟨_,h2⟩,hi=>by
  have:=CapF.at h2 (i:=i) (k:=k) (by simpa [Fo.list] using hi)
  rwa [show o+12+i*12=o+(i+1)*12 by omega] at this
theorem LeftX.row {O:Nat→Prop} {w:World} {A:Option Addr}:∀ {f:Fo} {j:Nat},LeftX O w A f j→∃xs,RowX O w f.list xs∧xs.length=f.len*12∧(∀u∈xs,u.oneCell'=true)∧(0 < f.len→∃g o,A=some ⟨g,o,none⟩∧g < w.heap.size∧∀q u,xs[q]? = some u→w.cell? ⟨g,o+j*12+q,none⟩=some u)
 | .nil,_,_=>⟨[],rfl,rfl,(fun u hu=>by cases hu),fun h=>absurd h (by simp [Fo.len])⟩
 | .node h ss ks nx,j,hl=>by
  obtain⟨g,o,kv,sv,rfl,hg,_,hr,h1,hx,hn⟩:=TreeX.parts hl
  obtain⟨xs,h2,h3,h4,h5⟩:=LeftX.row hn
  refine⟨(h.cells kv sv).toList++xs,⟨_,xs,rfl,hx,h2⟩,by rw [List.length_append,h3,Fo.len_node];show 12+_=_;omega,fun u hu=>?_,fun _=>⟨g,o,rfl,hg,fun q u hq=>?_⟩⟩
  ·rcases List.mem_append.1 hu with hu | hu
   ·exact List.all_eq_true.1 ((Array.all_toList ..).trans h1) u hu
   ·exact h4 u hu
  ·have hz:(h.cells kv sv).toList.length=12:=rfl
   rcases Nat.lt_or_ge q 12 with hq2 | hq2
   ·rw [List.getElem?_append_left (by omega)] at hq
    exact hr q u hq
   ·rw [List.getElem?_append_right (by omega),hz] at hq
    have hpos:0 < nx.len:=by
     rcases Nat.eq_zero_or_pos nx.len with h0 | h0
     ·rw [h0] at h3
      have:xs=[]:=List.length_eq_zero_iff.1 (by omega)
      rw [this] at hq
      simp at hq
     ·exact h0
    obtain⟨g',o',e,_,hc⟩:=h5 hpos
    injection e with e
    injection e with e1 e2 _
    subst e1;subst e2
    have:=hc (q - 12) u hq
    rwa [show o+(j+1)*12+(q - 12)=o+j*12+q by omega] at this
theorem RowX.len {O:Nat→Prop} {w:World}:∀ {l:List Tr} {xs:List Value},RowX O w l xs→xs.length=l.length*12
 | [],_,h=>by
  have h:_=[]:=h
  rw [h];rfl
 | _ :: l,_,⟨cs,xs',e,h1,h2⟩=>by
  rw [e,List.length_append,RowX.len h2,List.length_cons,Array.length_toList,h1.here.size12]
  omega
theorem RowX.drop {O:Nat→Prop} {w:World}:∀ {l:List Tr} {xs:List Value} (i:Nat),RowX O w l xs→RowX O w (l.drop i) (xs.drop (i*12))
 | [],xs,i,h=>by
  have h:xs=[]:=h
  subst h
  simp [RowX]
 | _ :: l,xs,0,h=>by simpa using h
 | t :: l,xs,i+1,⟨cs,xs',e,h1,h2⟩=>by
  have hz:cs.toList.length=12:=by rw [Array.length_toList];exact h1.here.size12
  subst e
  rw [show(i+1)*12=12+i*12 by omega,List.drop_append,hz,Nat.add_sub_cancel_left,List.drop_of_length_le (i:=12+i*12) (l:=cs.toList) (by omega),List.nil_append,List.drop_succ_cons]
  exact RowX.drop i h2
theorem RowX.take {O:Nat→Prop} {w:World}:∀ {l:List Tr} {xs:List Value} (i:Nat),RowX O w l xs→RowX O w (l.take i) (xs.take (i*12))
 | [],xs,i,h=>by
  have h:xs=[]:=h
  subst h
  simp [RowX]
 | _ :: l,xs,0,h=>by simp [RowX]
 | t :: l,xs,i+1,⟨cs,xs',e,h1,h2⟩=>by
  have hz:cs.toList.length=12:=by rw [Array.length_toList];exact h1.here.size12
  subst e
  refine⟨cs,xs'.take (i*12),?_,h1,RowX.take i h2⟩
  rw [show(i+1)*12=12+i*12 by omega,List.take_append,hz,Nat.add_sub_cancel_left,List.take_of_length_le (by omega)]
theorem RowX.app {O:Nat→Prop} {w:World} {m:List Tr} {ys:List Value} (hm:RowX O w m ys):∀ {l:List Tr} {xs:List Value},RowX O w l xs→RowX O w (l++m) (xs++ys)
 | [],xs,h=>by
  have h:xs=[]:=h
  subst h
  simpa using hm
 | _ :: l,xs,⟨cs,xs',e,h1,h2⟩=>⟨cs,xs'++ys,by rw [e,List.append_assoc],h1,RowX.app hm h2⟩
theorem addP (b o i:Nat):(⟨b,o,none⟩:Addr).add i=⟨b,o+i,none⟩:=by unfold Addr.add;split <;> simp_all
def KpR (bn:Nat) (cn:Array Value) (g q:Nat) (kc:Array Value) (z:World):Prop:=Blk z bn cn 25∧g < z.heap.size∧z.rangeAt g q kc.toList
theorem KpR.below {bn g q:Nat} {cn kc:Array Value} {z z':World} (h:KpR bn cn g q kc z) (hb:Below z.heap.size z z'):KpR bn cn g q kc z':=⟨Blk.below hb h.1,Nat.lt_of_lt_of_le h.2.1 hb.size,range_below hb h.2.1 h.2.2⟩
theorem KpR.row {bn g q br:Nat} {cn kc cs:Array Value} {z:World} (h:KpR bn cn g q kc z) (h1:bn≠br) (h3:g≠br):KpR bn cn g q kc (z.setRow br cs):=by
 have hf:FrO (fun j=>j=br) z (z.setRow br cs):=FrO.setRow rfl
 exact⟨hf.blk h.1 h1,Nat.lt_of_lt_of_le h.2.1 hf.size,fun j u hu=>(World.cell?_of_block (hf.block g h.2.1 h3)).trans (h.2.2 j u hu)⟩
end Go.Proofs.YtlhakdildbplkaaGreatDoor
