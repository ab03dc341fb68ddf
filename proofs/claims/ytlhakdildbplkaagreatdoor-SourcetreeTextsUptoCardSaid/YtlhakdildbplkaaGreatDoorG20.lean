/- Contracts and plain words for the laws of this chapter,part 20: X34. No condition. -/
import Derived.Test.YtlhakdildbplkaaGreatDoorG19
namespace Go.Proofs.YtlhakdildbplkaaGreatDoor
set_option linter.unusedSimpArgs false
set_option linter.unusedVariables false
open Go.RowKit
theorem RowS.unsnoc {w:World} {lo:Nat} {h:Hd} {ss:List St} {ks:Fo}:∀ {f:Fo} {xs:List Value} {O:Nat→Prop},RowS w lo (f.app (.node h ss ks .nil)) xs O→∃(xs':List Value) (kv sv:Value) (O1 Of:Nat→Prop),xs=xs'++(h.cells kv sv).toList∧w.ownsRow lo 69 2 sv ss.length (stV ss)∧KidS w lo kv ks O1∧RowS w lo f xs' Of∧(∀j,Of j→O j∧¬O1 j)∧(∀j,O1 j→O j)
 | .nil,xs,O,⟨kv,sv,xs',O1,On,e,hs,hk,hn,h3,h4⟩=>by
  have hn':xs'=[]:=hn
  subst hn'
  exact⟨[],kv,sv,O1,fun _=>False,by rw [e];simp,hs,hk,rfl,fun _ h=>h.elim,fun j hj=>(h3 j hj).1⟩
 | .node h' ss' ks' nx,xs,O,⟨kv,sv,xs',O1,On,e,hs,hk,hn,h3,h4⟩=>by
  obtain⟨xn,kv2,sv2,O2,Of,e2,hs2,hk2,hr2,ho2,ho3⟩:=RowS.unsnoc (f:=nx) hn
  subst e2
  refine⟨(h'.cells kv sv).toList++xn,kv2,sv2,O2,fun j=>O1 j∨Of j,by rw [e,List.append_assoc],hs2,hk2,⟨kv,sv,xn,O1,Of,rfl,hs,hk,hr2,fun j hj=>⟨Or.inl hj,fun hf=>(h3 j hj).2 (ho2 j hf).1⟩,fun j hj=>Or.inr hj⟩,fun j hj=>?_,fun j hj=>h4 j (ho3 j hj)⟩
  rcases hj with hj | hj
  ·exact⟨(h3 j hj).1,fun h2=>(h3 j hj).2 (ho3 j h2)⟩
  ·exact⟨h4 j (ho2 j hj).1,(ho2 j hj).2⟩
theorem Blk.notStrS {w:World} {g:Nat} {cs:Array Value} (h:Blk w g cs 22) (cs':Array Value) (fr:Nat × Nat):w.heap[g]? ≠ some (Obj.cells cs' 69 fr):=by
 unfold Blk at h
 rw [h]
 intro e
 injection e with e
 injection e with _ e
 cases e
def Stk (lo b:Nat) (st:List Tr) (O:Nat→Prop) (w:World):Prop:=∃sl,Blk w b #[sl] 22∧KidS w lo sl (Fo.of st.reverse) O∧∀j,O j→lo≤j∧j < w.heap.size
theorem Fo.of_snoc (l:List Tr) (a:Tr):Fo.of (l++[a])=(Fo.of l).app (.node a.h a.ss a.ks .nil):=by
 induction l with
 | nil=>rfl
 | cons x l ih=>rw [List.cons_append,Fo.of,ih,Fo.of,Fo.app]
theorem Fo.of_len (l:List Tr):(Fo.of l).len=l.length:=by
 induction l with
 | nil=>rfl
 | cons x l ih=>rw [Fo.of,Fo.len_node,ih,List.length_cons]
def StkP (lo b:Nat) (st:List Tr) (O:Nat→Prop) (w w':World):Prop:=∃O',Stk lo b st O' w'∧(∀j,O' j→O j∨w.heap.size≤j)∧FrO (fun j=>j=b∨O j) w w'
theorem Stk.len {lo b:Nat} {st:List Tr} {O:Nat→Prop} {w:World} (h:Stk lo b st O w):∃A c,w.cell? ⟨b,0,none⟩=some (.slice A st.length c):=by
 obtain⟨sl,hb,hk,_⟩:=h
 obtain⟨A,c,rfl⟩:=hk.slice
 exact⟨A,c,by rw [hb.cells,Fo.of_len,List.length_reverse];rfl⟩
theorem Stk.pop {lo b:Nat} {a bt:Tr} {r:List Tr} {O:Nat→Prop} {w:World} (hbl:b < lo) (h:Stk lo b (a :: bt :: r) O w):∃(g cap:Nat) (x0:List Value) (kva sva svb:Value) (AB:Option Addr) (cB:Nat) (xkb:List Value) (Okb:Nat→Prop),
  x0.length=r.length*12∧Blk w b #[.slice (some ⟨g,0,none⟩) (r.length+2) cap] 22∧w.ownsRow lo 25 12 (.slice (some ⟨g,0,none⟩) (r.length+2) cap) (r.length+2) (x0++(bt.h.cells (.slice AB bt.ks.len cB) svb).toList++(a.h.cells kva sva).toList) ∧
  w.ownsRow lo 25 12 (.slice AB bt.ks.len cB) bt.ks.len xkb∧RowS w lo bt.ks xkb Okb∧(∃A2 n2 c2,kva=.slice A2 n2 c2)∧(∃A2 n2 c2,sva=.slice A2 n2 c2)∧(∃A2 n2 c2,svb=.slice A2 n2 c2)∧(Value.slice AB bt.ks.len cB).ownBlock≠some g∧O g∧(∀j,(Value.slice AB bt.ks.len cB).ownBlock=some j→O j) ∧
  ∀(wz:World) (A2:Option Addr) (c2:Nat),FrO (fun j=>j=g∨(Value.slice AB bt.ks.len cB).ownBlock=some j) w wz→Blk wz b #[.slice (some ⟨g,0,none⟩) (r.length+2) cap] 22→StrK w wz →
   wz.ownsRow lo 25 12 (.slice (some ⟨g,0,none⟩) (r.length+2) cap) (r.length+2) (x0++(bt.h.cells (.slice A2 (bt.ks.len+1) c2) svb).toList++(a.h.cells kva sva).toList) →
   wz.ownsRow lo 25 12 (.slice A2 (bt.ks.len+1) c2) (bt.ks.len+1) (xkb++(a.h.cells kva sva).toList) →
   (∀j,(Value.slice A2 (bt.ks.len+1) c2).ownBlock=some j→(Value.slice AB bt.ks.len cB).ownBlock=some j∨w.heap.size≤j)→StkP lo b (popS (a :: bt :: r)) O w (wz.setCell ⟨b,0,none⟩ (.slice (some ⟨g,0,none⟩) (r.length+1) cap)):=by
 obtain⟨sl,hb,⟨xk,Ok,hown,hrow,hok,hslO⟩,hO⟩:=h
 have eF:Fo.of (a :: bt :: r).reverse=((Fo.of r.reverse).app (.node bt.h bt.ss bt.ks .nil)).app (.node a.h a.ss a.ks .nil):=by
  rw [List.reverse_cons,List.reverse_cons,Fo.of_snoc,Fo.of_snoc]
 have hlen:(Fo.of (a :: bt :: r).reverse).len=r.length+2:=by rw [Fo.of_len,List.length_reverse,List.length_cons,List.length_cons]
 rw [hlen] at hown
 rw [eF] at hrow
 obtain⟨x1,kva,sva,Oa,O1,rfl,hsa,hka,hr1,ho1,hoa⟩:=RowS.unsnoc hrow
 obtain⟨x0,kvb,svb,Ob,O0,rfl,hsb,hkb,hr0,ho0,hob⟩:=RowS.unsnoc hr1
 obtain⟨g,cap,cur,rfl,hlg,hB,hnc,hcm,hcs,hcx⟩:=own_blk hown (by omega)
 obtain⟨AB,cB,rfl⟩:=hkb.slice
 obtain⟨A3,c3,rfl⟩:=hka.slice
 obtain⟨A4,c4,rfl⟩:=own_slice hsa
 obtain⟨A5,c5,rfl⟩:=own_slice hsb
 obtain⟨xkb,Okb,hkb1,hkb2,hkb3,hkb4⟩:=hkb
 have hx0:x0.length=r.length*12:=by rw [hr0.len,Fo.of_len,List.length_reverse]
 have hgO:O g:=hslO g rfl
 have hne:∀j,Ok j→j≠g:=fun j hj e=>(hok j hj).2 (by rw [e];rfl)
 have hbO:∀j,Ob j→Ok j:=fun j hj=>(ho1 j (hob j hj)).1
 refine⟨g,cap,x0,_,_,_,AB,cB,xkb,Okb,hx0,hb,hown,hkb1,hkb2,⟨_,_,_,rfl⟩,⟨_,_,_,rfl⟩,⟨_,_,_,rfl⟩,fun e=>hne g (hbO g (hkb4 g e)) rfl,hgO,fun j hj=>(hok j (hbO j (hkb4 j hj))).1,?_⟩
 intro wz A2 c2 hf hbz hSK hown2 hk2 hnew
 have hlt:∀j,O j→j < w.heap.size:=fun j hj=>(hO j hj).2
 have hz:w.heap.size≤wz.heap.size:=hf.size
 have hfs:FrO (fun j=>j=b) wz (wz.setCell ⟨b,0,none⟩ (.slice (some ⟨g,0,none⟩) (r.length+1) cap)):=FrO.set rfl
 have hSK2:StrK wz (wz.setCell ⟨b,0,none⟩ (.slice (some ⟨g,0,none⟩) (r.length+1) cap)):=StrK.of hfs (fun j cs fr e=>by subst e;exact hbz.notStrS cs fr)
 have hbn:∀j,lo≤j→j≠b:=fun j hj=>by omega
 have keepS:∀ {sv:Value} {ss:List St},w.ownsRow lo 69 2 sv ss.length (stV ss)→(wz.setCell ⟨b,0,none⟩ (.slice (some ⟨g,0,none⟩) (r.length+1) cap)).ownsRow lo 69 2 sv ss.length (stV ss):=fun hs=>own_keep (own_keep hs fun q cs _ hq=>hSK q cs _ hq) fun q cs _ hq=>hSK2 q cs _ hq
 have keepB:∀j,j < w.heap.size→j≠g→(Value.slice AB bt.ks.len cB).ownBlock≠some j→wz.heap[j]? = w.heap[j]? := fun j hj h1 h2=>hf.block j hj (fun e=>e.elim h1 h2)
 have h2b:∀j,(Value.slice A2 (bt.ks.len+1) c2).ownBlock=some j→(Ob j∨w.heap.size≤j):=fun j hj=>(hnew j hj).elim (fun e=>Or.inl (hkb4 j e)) Or.inr
 have kA:KidS (wz.setCell ⟨b,0,none⟩ (.slice (some ⟨g,0,none⟩) (r.length+1) cap)) lo (.slice A3 a.ks.len c3) a.ks Oa:=(hka.frame hSK fun j hj ho=>keepB j hj (hne j (hoa j ho)) (fun e=>(ho1 j (hob j (hkb4 j e))).2 ho)).frame hSK2 fun j hj ho=>hfs.block j hj (hbn j (hO j (hok j (hoa j ho)).1).1)
 have kB:RowS (wz.setCell ⟨b,0,none⟩ (.slice (some ⟨g,0,none⟩) (r.length+1) cap)) lo bt.ks xkb Okb:=(hkb2.frame hSK fun j hj ho=>keepB j hj (hne j (hbO j (hkb3 j ho).1)) (hkb3 j ho).2).frame hSK2 fun j hj ho=>hfs.block j hj (hbn j (hO j (hok j (hbO j (hkb3 j ho).1)).1).1)
 have k0:RowS (wz.setCell ⟨b,0,none⟩ (.slice (some ⟨g,0,none⟩) (r.length+1) cap)) lo (Fo.of r.reverse) x0 O0:=(hr0.frame hSK fun j hj ho=>keepB j hj (hne j (ho1 j (ho0 j ho).1).1) (fun e=>(ho0 j ho).2 (hkb4 j e))).frame hSK2 fun j hj ho=>hfs.block j hj (hbn j (hO j (hok j (ho1 j (ho0 j ho).1).1).1).1)
 have hrowK:=RowS.snoc (h:=a.h) (keepS hsa) kA (f:=bt.ks) (O:=Okb) (fun j hj ho=>(ho1 j (hob j (hkb3 j ho).1)).2 hj) kB
 have hlo2:∀j,(Value.slice A2 (bt.ks.len+1) c2).ownBlock=some j→lo≤j∧j < wz.heap.size:=fun j hj=>hk2.lt j hj
 have hnb2:∀q,(Value.slice A2 (bt.ks.len+1) c2).ownBlock=some q→q≠b:=fun q e=>hbn q (hlo2 q e).1
 have hkid:KidS (wz.setCell ⟨b,0,none⟩ (.slice (some ⟨g,0,none⟩) (r.length+1) cap)) lo (.slice A2 (bt.ks.len+1) c2) (bt.ks.app (.node a.h a.ss a.ks .nil)) (fun j=>Ob j∨Oa j∨(Value.slice A2 (bt.ks.len+1) c2).ownBlock=some j):=
  ⟨_,_,by rw [Fo.len_app];exact own_fr hfs hk2 hnb2,hrowK,fun j hj=>by
   rcases hj with hj | hj
   ·refine⟨Or.inl (hkb3 j hj).1,fun e=>?_⟩
    rcases hnew j e with h1 | h1
    ·exact(hkb3 j hj).2 h1
    ·have:=hlt j (hok j (hbO j (hkb3 j hj).1)).1;omega
   ·refine⟨Or.inr (Or.inl hj),fun e=>?_⟩
    rcases hnew j e with h1 | h1
    ·exact(ho1 j (hob j (hkb4 j h1))).2 hj
    ·have:=hlt j (hok j (hoa j hj)).1;omega,fun j hj=>Or.inr (Or.inr hj)⟩
 have hrowF:=RowS.snoc (h:=bt.h) (keepS hsb) hkid (f:=Fo.of r.reverse) (O:=O0) (fun j hj ho=>by
  rcases hj with hj | hj | hj
  ·exact(ho0 j ho).2 hj
  ·exact(ho1 j (ho0 j ho).1).2 hj
  ·rcases h2b j hj with h1 | h1
   ·exact(ho0 j ho).2 h1
   ·have:=hlt j (hok j (ho1 j (ho0 j ho).1).1).1;omega) k0
 have eT:(x0++(bt.h.cells (.slice A2 (bt.ks.len+1) c2) (.slice A5 bt.ss.length c5)).toList++(a.h.cells (.slice A3 a.ks.len c3) (.slice A4 a.ss.length c4)).toList).take ((r.length+1)*12)=x0++(bt.h.cells (.slice A2 (bt.ks.len+1) c2) (.slice A5 bt.ss.length c5)).toList:=by
  have e1:(r.length+1)*12=(x0++(bt.h.cells (.slice A2 (bt.ks.len+1) c2) (.slice A5 bt.ss.length c5)).toList).length:=by rw [List.length_append,hx0];show _=_+12;omega
  rw [e1,List.take_left]
 have hrowG:=own_take hown2 (i:=r.length+1) (by omega)
 rw [eT] at hrowG
 have hgb:g≠b:=hbn g hlg
 have hin:∀j,(O0 j∨Ob j∨Oa j∨(Value.slice A2 (bt.ks.len+1) c2).ownBlock=some j)→(Ok j∨(w.heap.size≤j∧(Value.slice A2 (bt.ks.len+1) c2).ownBlock=some j)):=fun j hj=>by
  rcases hj with hj | hj | hj | hj
  ·exact Or.inl (ho1 j (ho0 j hj).1).1
  ·exact Or.inl (hbO j hj)
  ·exact Or.inl (hoa j hj)
  ·rcases h2b j hj with h1 | h1
   ·exact Or.inl (hbO j h1)
   ·exact Or.inr ⟨h1,hj⟩
 refine⟨fun j=>O0 j∨(Ob j∨Oa j∨(Value.slice A2 (bt.ks.len+1) c2).ownBlock=some j)∨j=g,⟨.slice (some ⟨g,0,none⟩) (r.length+1) cap,hbz.put rfl,⟨x0++(bt.h.cells (.slice A2 (bt.ks.len+1) c2) (.slice A5 bt.ss.length c5)).toList,fun j=>O0 j∨(Ob j∨Oa j∨(Value.slice A2 (bt.ks.len+1) c2).ownBlock=some j),?_,?_,fun j hj=>⟨hj.elim Or.inl (fun h=>Or.inr (Or.inl h)),fun e=>?_⟩,fun j (hj:(Value.slice (some ⟨g,0,none⟩) (r.length+1) cap).ownBlock=some j)=>Or.inr (Or.inr (show g=j from Option.some.inj hj).symm)⟩,fun j hj=>?_⟩,fun j hj=>?_,?_⟩
 ·have:(Fo.of (popS (a :: bt :: r)).reverse).len=r.length+1:=by rw [Fo.of_len,List.length_reverse];rfl
  rw [this]
  exact own_fr hfs hrowG (fun q e=>by have e2:g=q:=Option.some.inj e;omega)
 ·have:Fo.of (popS (a :: bt :: r)).reverse=(Fo.of r.reverse).app (.node bt.h bt.ss (bt.ks.app (.node a.h a.ss a.ks .nil)) .nil):=by
   show Fo.of (_ :: r).reverse=_
   rw [List.reverse_cons,Fo.of_snoc]
  rw [this]
  exact hrowF
 ·have e2:g=j:=Option.some.inj e
  rcases hin j hj with h1 | h1
  ·exact hne j h1 e2.symm
  ·have:=hB.lt;omega
 ·have hsz:(wz.setCell ⟨b,0,none⟩ (.slice (some ⟨g,0,none⟩) (r.length+1) cap)).heap.size=wz.heap.size:=World.size_setCell ..
  rw [hsz]
  have key:Ok j∨(w.heap.size≤j∧(Value.slice A2 (bt.ks.len+1) c2).ownBlock=some j)∨j=g:=by
   rcases hj with hj | hj | hj
   ·exact(hin j (Or.inl hj)).elim Or.inl (fun h=>Or.inr (Or.inl h))
   ·exact(hin j (Or.inr hj)).elim Or.inl (fun h=>Or.inr (Or.inl h))
   ·exact Or.inr (Or.inr hj)
  rcases key with h1 | h1 | h1
  ·have:=hO j (hok j h1).1;omega
  ·exact hlo2 j h1.2
  ·have:=hO g hgO;omega
 ·have key:Ok j∨(w.heap.size≤j∧(Value.slice A2 (bt.ks.len+1) c2).ownBlock=some j)∨j=g:=by
   rcases hj with hj | hj | hj
   ·exact(hin j (Or.inl hj)).elim Or.inl (fun h=>Or.inr (Or.inl h))
   ·exact(hin j (Or.inr hj)).elim Or.inl (fun h=>Or.inr (Or.inl h))
   ·exact Or.inr (Or.inr hj)
  rcases key with h1 | h1 | h1
  ·exact Or.inl (hok j h1).1
  ·exact Or.inr h1.1
  ·exact Or.inl (h1 ▸ hgO)
 ·exact(FrO.mono (fun j hj=>by
   rcases hj with h1 | h1
   ·exact Or.inr (h1 ▸ hgO)
   ·exact Or.inr (hok j (hbO j (hkb4 j h1))).1) hf).trans (FrO.mono (fun j h=>Or.inl h) hfs) (fun j h=>Or.inl h)
end Go.Proofs.YtlhakdildbplkaaGreatDoor
