/- Part of the claim: its words. -/
import Derived.Test.YtlhakdildbplkaaGreatDoorG22
import Derived.Test.YtlhakdildbplkaaGreatDoorG11
set_option maxRecDepth 100000
set_option maxHeartbeats 2000000
namespace Go.Proofs.YtlhakdildbplkaaGreatDoor
set_option linter.unusedSimpArgs false
set_option linter.unusedVariables false
open Go.RowKit
def StkT (lo b:Nat) (st:List Tr) (O:Nat→Prop) (w:World):Prop:=match st with
 | []=>Stk lo b [] O w
 | t :: r=>t.ks=.nil∧∃(wp:World) (xk:List Value) (Ok:Nat→Prop) (g cap:Nat) (sv:Value),RowS wp lo (Fo.of r.reverse) xk Ok∧Blk w b #[.slice (some ⟨g,0,none⟩) (r.length+1) cap] 22 ∧
  w.ownsRow lo 25 12 (.slice (some ⟨g,0,none⟩) (r.length+1) cap) (r.length+1) (xk++(t.h.cells (.slice none 0 0) sv).toList)∧w.ownsRow wp.heap.size 69 2 sv t.ss.length (stV t.ss) ∧
  (∀j,Ok j→O j∧j≠g)∧O g∧(∀j,O j→lo≤j∧j < wp.heap.size)∧StrK wp w∧(∀j,j < wp.heap.size→Ok j→w.heap[j]? = wp.heap[j]?)∧lo≤wp.heap.size∧wp.heap.size≤w.heap.size
theorem StkT.stk {lo b:Nat} {st:List Tr} {O:Nat→Prop} {w:World} (h:StkT lo b st O w):Stk lo b st O w:=by
 cases st with
 | nil=>exact h
 | cons t r=>
  obtain⟨h,ss,ks⟩:=t
  obtain⟨hks,wp,xk,Ok,g,cap,sv,hrow,hb,hown,hsv,hok,hg,hO,hSK,hsame,hlo,hz⟩:=h
  have hks':ks=.nil:=hks
  subst hks'
  have krow:=hrow.frame hSK hsame
  have hrow2:=RowS.snoc (h:=h) (ss:=ss) (ks:=.nil) (kv:=.slice none 0 0) (sv:=sv) (O1:=fun _=>False) (own_base hsv hlo) ⟨[],fun _=>False,World.ownsRow_nil _ _ _ _,rfl,fun _ h=>h.elim,fun _ h=>by cases h⟩ (fun _ h=>h.elim) krow
  have eF:Fo.of ((⟨h,ss,.nil⟩:Tr) :: r).reverse=(Fo.of r.reverse).app (.node h ss .nil .nil):=by rw [List.reverse_cons,Fo.of_snoc]
  have hlen:(Fo.of r.reverse).len=r.length:=by rw [Fo.of_len,List.length_reverse]
  refine⟨_,hb,⟨xk++(h.cells (.slice none 0 0) sv).toList,fun j=>Ok j∨False,?_,?_,fun j hj=>?_,fun j hj=>?_⟩,fun j hj=>?_⟩
  ·rw [eF,Fo.len_app,hlen];exact hown
  ·rw [eF];exact hrow2
  ·rcases hj with hj | hj
   ·exact⟨(hok j hj).1,fun e=>(hok j hj).2 (Option.some.inj e).symm⟩
   ·exact hj.elim
  ·have e:g=j:=Option.some.inj hj
   exact e ▸ hg
  ·have:=hO j hj;omega
theorem StkT.below {lo b:Nat} {st:List Tr} {O:Nat→Prop} {w w':World} (h:StkT lo b st O w) (hb:Below w.heap.size w w'):StkT lo b st O w':=by
 cases st with
 | nil=>exact Stk.below h hb
 | cons t r=>
  obtain⟨hks,wp,xk,Ok,g,cap,sv,hrow,hbk,hown,hsv,hok,hg,hO,hSK,hsame,hlo,hz⟩:=h
  refine⟨hks,wp,xk,Ok,g,cap,sv,hrow,Blk.below hb hbk,below_row' hown hb,below_row' hsv hb,hok,hg,hO,fun j cs fr hj=>?_,fun j hj ho=>(hb.block j (by omega)).trans (hsame j hj ho),hlo,Nat.le_trans hz hb.size⟩
  have hlt:j < wp.heap.size:=by
   rcases Nat.lt_or_ge j wp.heap.size with h' | h'
   ·exact h'
   ·rw [Array.getElem?_eq_none h'] at hj;cases hj
  exact(hb.block j (by omega)).trans (hSK j cs fr hj)
theorem StkT.nil {lo b:Nat} {O:Nat→Prop} {w:World} (h:Stk lo b [] O w):StkT lo b [] O w:=h
def StkPT (lo b:Nat) (st:List Tr) (O:Nat→Prop) (w w':World):Prop:=∃O',StkT lo b st O' w'∧(∀j,O' j→O j∨w.heap.size≤j)∧FrO (fun j=>j=b∨O j) w w'
theorem Stk.pushT {lo b:Nat} {st:List Tr} {O:Nat→Prop} {w:World} (hbl:b < lo) (h:Stk lo b st O w):∃(A:Option Addr) (c:Nat) (xk:List Value),Blk w b #[.slice A st.length c] 22∧w.ownsRow lo 25 12 (.slice A st.length c) st.length xk∧(∀j,(Value.slice A st.length c).ownBlock=some j→O j) ∧
  ∀(wf:World) (A2:Option Addr) (c2:Nat) (hd:Hd),FrO (fun j=>j=b∨(Value.slice A st.length c).ownBlock=some j) w wf→StrK w wf→Blk wf b #[.slice A2 (st.length+1) c2] 22→wf.ownsRow lo 25 12 (.slice A2 (st.length+1) c2) (st.length+1) (xk++(hd.cells (.slice none 0 0) (.slice none 0 0)).toList) →
   (∀j,(Value.slice A2 (st.length+1) c2).ownBlock=some j→(Value.slice A st.length c).ownBlock=some j∨w.heap.size≤j)→StkPT lo b (⟨hd,[],.nil⟩ :: st) O w wf:=by
 obtain⟨sl,hb,⟨xk,Ok,hown,hrow,hok,hslO⟩,hO⟩:=h
 have hlen:(Fo.of st.reverse).len=st.length:=by rw [Fo.of_len,List.length_reverse]
 rw [hlen] at hown
 obtain⟨A,c,rfl⟩:=own_slice hown
 refine⟨A,c,xk,hb,hown,hslO,?_⟩
 intro wf A2 c2 hd hf hSK hbf hown2 hnew
 have hz:=hf.size
 have krow:RowS wf lo (Fo.of st.reverse) xk Ok:=hrow.frame hSK fun j hj ho=>hf.block j hj (fun e=>by
  rcases e with e | e
  ·have:=(hO j (hok j ho).1).1;omega
  ·exact(hok j ho).2 e)
 obtain⟨g,cap,cur,hv,hlg,hB,hnc,hcm,hcs,hcx⟩:=own_blk hown2 (by omega)
 injection hv with hv1 hv2 hv3
 subst hv1
 have hlo2:∀j,(Value.slice (some (⟨g,0,none⟩:Addr)) (st.length+1) c2).ownBlock=some j→lo≤j∧j < wf.heap.size:=fun j hj=>hown2.lt j hj
 have hgz:=hlo2 g rfl
 refine⟨fun j=>Ok j∨j=g,⟨rfl,wf,xk,Ok,g,c2,.slice none 0 0,krow,hbf,hown2,World.ownsRow_nil _ _ _ _,fun j hj=>⟨Or.inl hj,fun e=>?_⟩,Or.inr rfl,fun j hj=>?_,fun _ _ _ _=>rfl,fun _ _ _=>rfl,by omega,Nat.le_refl _⟩,fun j hj=>?_,?_⟩
 ·rcases hnew g rfl with h1 | h1
  ·exact(hok j hj).2 (e ▸ h1)
  ·have:=(hO j (hok j hj).1).2;omega
 ·rcases hj with hj | hj
  ·have:=hO j (hok j hj).1;omega
  ·omega
 ·rcases hj with hj | hj
  ·exact Or.inl (hok j hj).1
  ·exact(hnew j (by rw [hj];rfl)).elim (fun e=>Or.inl (hslO j e)) Or.inr
 ·exact FrO.mono (fun j hj=>by
   rcases hj with h1 | h1
   ·exact Or.inl h1
   ·exact Or.inr (hslO j h1)) hf
theorem push_endT {lo ob m c gk ck:Nat} {A:Option Addr} {xk:List Value} {st:List Tr} {O:Nat→Prop} {w W3 w2 W:World} {AC:Array Value} {hd:Hd} (hbl:ob < lo) (hm:st.length=m)
  (hBb:Blk w ob #[.slice A m c] 22) (hown:w.ownsRow lo 25 12 (.slice A m c) m xk)
  (close:∀(wf:World) (A2:Option Addr) (c2:Nat) (hd:Hd),FrO (fun j=>j=ob∨(Value.slice A m c).ownBlock=some j) w wf→StrK w wf→Blk wf ob #[.slice A2 (m+1) c2] 22→wf.ownsRow lo 25 12 (.slice A2 (m+1) c2) (m+1) (xk++(hd.cells (.slice none 0 0) (.slice none 0 0)).toList) →
   (∀j,(Value.slice A2 (m+1) c2).ownBlock=some j→(Value.slice A m c).ownBlock=some j∨w.heap.size≤j)→StkPT lo ob (⟨hd,[],.nil⟩ :: st) O w wf)
  (hb3:Below w.heap.size w W3) (hg2:W3.grownBy w2 (Value.slice A m c).ownBlock) (hnb2:(Value.slice (some ⟨gk,0,none⟩) (m+1) ck).ownBlock=(Value.slice A m c).ownBlock∨(Value.slice (some ⟨gk,0,none⟩) (m+1) ck).ownBlock=some W3.heap.size)
  (hown2:w2.ownsRow lo 25 12 (.slice (some ⟨gk,0,none⟩) (m+1) ck) (m+1) (xk++zeroN.toList)) (hAC:AC=hd.cells (.slice none 0 0) (.slice none 0 0))
  (hW:W=(w2.setCells gk (m*12) AC.toList).setCell ⟨ob,0,none⟩ (.slice (some ⟨gk,0,none⟩) (m+1) ck)∨W=(w2.setCell ⟨ob,0,none⟩ (.slice (some ⟨gk,0,none⟩) (m+1) ck)).setCells gk (m*12) AC.toList):StkPT lo ob (⟨hd,[],.nil⟩ :: st) O w W:=by
 have hob:ob≠gk:=by have:=(hown2.lt gk rfl).1;omega
 have hOb:∀j,(Value.slice A m c).ownBlock=some j→j≠ob:=fun j hj=>by have:=(hown.lt j hj).1;omega
 have hnew:∀j,(Value.slice (some ⟨gk,0,none⟩) (m+1) ck).ownBlock=some j→(Value.slice A m c).ownBlock=some j∨w.heap.size≤j:=fun j hj=>by
  rcases hnb2 with h | h
  ·exact Or.inl (h ▸ hj)
  ·right
   rw [h] at hj
   have hj2:W3.heap.size=j:=Option.some.inj hj
   have:=hb3.size
   omega
 have hf2:FrO (fun j=>(Value.slice A m c).ownBlock=some j) w w2:=(FrO.of (O:=fun j=>(Value.slice A m c).ownBlock=some j) hb3).trans (FrO.grown (O:=fun j=>(Value.slice A m c).ownBlock=some j) hg2 (fun j h=>h)) (fun j h=>Or.inl h)
 have hB2:Blk w2 ob #[.slice A m c] 22:=hf2.blk hBb (fun e=>hOb ob e rfl)
 obtain⟨h1,h2,h3⟩:=store_two hob hB2 hown2 hown.1 (by rw [hAC];rfl) W hW
 have hfW:FrO (fun j=>j=ob∨(Value.slice A m c).ownBlock=some j) w W:=(FrO.mono (fun j h=>Or.inr h) hf2).trans h1 (fun j hj=>by
  rcases hj with h | h
  ·exact Or.inl (Or.inl h)
  ·exact(hnew j (by rw [h];rfl)).elim (fun e=>Or.inl (Or.inr e)) Or.inr)
 refine close W _ _ hd hfW (StrK.of hfW fun j cs fr hj=>?_) h2 (by rw [←hAC];exact h3) hnew
 rcases hj with h | h
 ·subst h
  exact hBb.notStrS cs fr
 ·exact own_notStr hown h cs fr
theorem StkT.stream {lo b:Nat} {t:Tr} {r:List Tr} {O:Nat→Prop} {w:World} (hbl:b < lo) (h:StkT lo b (t :: r) O w):∃(base g cap c:Nat) (A:Option Addr) (cur:Array Value),Blk w b #[.slice (some ⟨g,0,none⟩) (r.length+1) cap] 22∧Blk w g cur 25 ∧
  cur[r.length*12+1]? = some (.int .i64 t.h.kind)∧cur[r.length*12+11]? = some (.slice A t.ss.length c)∧w.ownsRow base 69 2 (.slice A t.ss.length c) t.ss.length (stV t.ss)∧base≤w.heap.size∧lo≤g∧g < base∧O g ∧
  ∀(w2:World) (A2:Option Addr) (c2:Nat) (s:St),FrO (fun j=>(Value.slice A t.ss.length c).ownBlock=some j) w w2→w2.ownsRow base 69 2 (.slice A2 (t.ss.length+1) c2) (t.ss.length+1) (stV t.ss++[.string s.1,.string s.2]) →
   StkT lo b (⟨t.h,t.ss++[s],t.ks⟩ :: r) O (w2.setCell ⟨g,r.length*12+11,none⟩ (.slice A2 (t.ss.length+1) c2)):=by
 obtain⟨h,ss,ks⟩:=t
 obtain⟨hks,wp,xk,Ok,g,cap,sv,hrow,hbk,hown,hsv,hok,hg,hO,hSK,hsame,hlo,hz⟩:=h
 obtain⟨A,c,rfl⟩:=own_slice hsv
 obtain⟨g',cap',cur,hv,hlg,hB,hnc,hcm,hcs,hcx⟩:=own_blk hown (by omega)
 injection hv with hv1 hv2 hv3
 injection hv1 with hv1
 injection hv1 with hv1
 subst hv1;subst hv3
 have hx:xk.length=r.length*12:=by rw [hrow.len,Fo.of_len,List.length_reverse]
 have hat:∀(j:Nat) (u:Value),(h.cells (.slice none 0 0) (.slice A ss.length c)).toList[j]? = some u→cur[r.length*12+j]? = some u:=fun j u hj=>hcx _ _ (by rw [←hx,List.getElem?_append_right (by omega),Nat.add_sub_cancel_left];exact hj)
 have hgb:=hO g hg
 refine⟨wp.heap.size,g,cap,c,A,cur,hbk,hB,hat 1 _ rfl,hat 11 _ rfl,hsv,hz,hgb.1,hgb.2,hg,?_⟩
 intro w2 A2 c2 s hf hown2
 have hsvl:∀j,(Value.slice A ss.length c).ownBlock=some j→wp.heap.size≤j:=fun j hj=>(hsv.lt j hj).1
 have hfs:FrO (fun j=>j=g) w2 (w2.setCell ⟨g,r.length*12+11,none⟩ (.slice A2 (ss.length+1) c2)):=FrO.set rfl
 have hkeep:∀j,j < wp.heap.size→j≠g→(w2.setCell ⟨g,r.length*12+11,none⟩ (.slice A2 (ss.length+1) c2)).heap[j]? = w.heap[j]? := fun j hj hn=>
  (hfs.block j (by have:=hf.size;omega) hn).trans (hf.block j (by omega) (fun e=>by have:=hsvl j e;omega))
 have hrowg:w2.ownsRow lo 25 12 (.slice (some ⟨g,0,none⟩) (r.length+1) cap) (r.length+1) (xk++(h.cells (.slice none 0 0) (.slice A ss.length c)).toList):=own_fr hf hown (fun q e he=>by have e2:g=q:=Option.some.inj e;have:=hsvl q he;omega)
 have hrow3:=own_cell (i:=r.length*12+11) (v:=.slice A2 (ss.length+1) c2) hrowg
 rw [←hx,List.set_append_right _ _ (by omega),Nat.add_sub_cancel_left,hx] at hrow3
 refine⟨hks,wp,xk,Ok,g,cap,.slice A2 (ss.length+1) c2,hrow,?_,hrow3,?_,hok,hg,hO,fun j cs fr hj=>?_,fun j hj ho=>(hkeep j hj (hok j ho).2).trans (hsame j hj ho),hlo,?_⟩
 ·exact hfs.blk (hf.blk hbk (fun e=>by have:=hsvl b e;omega)) (by omega)
 ·have e1:(ss++[s]).length=ss.length+1:=by simp
  have e2:stV (ss++[s])=stV ss++[.string s.1,.string s.2]:=stV_app ss [s]
  show World.ownsRow _ _ _ _ _ (ss++[s]).length (stV (ss++[s]))
  rw [e1,e2]
  exact own_set hown2 (fun e=>by have:=(hown2.lt g e).1;omega)
 ·have hlt:j < wp.heap.size:=by
   rcases Nat.lt_or_ge j wp.heap.size with h' | h'
   ·exact h'
   ·rw [Array.getElem?_eq_none h'] at hj;cases hj
  have hjw:=hSK j cs fr hj
  refine(hkeep j hlt (fun e=>?_)).trans hjw
  subst e
  rw [hj] at hjw
  exact Blk.notStr hB cs fr hjw
 ·exact Nat.le_trans hz (Nat.le_trans hf.size hfs.size)
theorem infS2:(Tryz.prog.info? 69).map (·.size)=some 2:=by kernel_rfl
theorem exec_strm_neq {o:Oper} {ev:Operand→Value} {w:World} (x y:St) (a b:Operand) (ho:o.op=.binOp .neq 69 a b 69) (ha:ev a=.agg #[.string x.1,.string x.2]) (hb:ev b=.agg #[.string y.1,.string y.2]) (nq:Bool) (hq:(!decide (x=y))=nq):(execOp ev o).run Tryz.prog w=.ok (.value (.bool nq)) w:=by
 subst hq
 unfold execOp
 simp only [ho,ha,hb]
 by_cases h1:x.1=y.1
 ·have q1:(x.1.toList == y.1.toList)=true:=seq_y h1
  by_cases h2:x.2=y.2
  ·have q2:(x.2.toList == y.2.toList)=true:=seq_y h2
   have e:decide (x=y)=true:=decide_eq_true (Prod.ext h1 h2)
   rw [e]
   go_simp
  ·have q2:(x.2.toList == y.2.toList)=false:=seq_n h2
   have e:decide (x=y)=false:=decide_eq_false (fun e=>h2 (by rw [e]))
   rw [e]
   go_simp
 ·have q1:(x.1.toList == y.1.toList)=false:=seq_n h1
  have e:decide (x=y)=false:=decide_eq_false (fun e=>h1 (by rw [e]))
  rw [e]
  go_simp
def twoC (x y:St) (g o g2 o2:Nat) (z:World):Prop:=z.rangeAt g o (#[.string x.1,.string x.2]:Array Value).toList∧z.rangeAt g2 o2 (#[.string y.1,.string y.2]:Array Value).toList
theorem streq_any (L M:List St) (A A2:Option Addr) (c c2 B:Nat) (hL:L.length≤1000000) (hM:M.length≤1000000) (w:World) (hB:B≤w.heap.size) (ha:StL w B A L) (hb:StL w B A2 M):Calls Tryz.prog 105 #[.slice A L.length c,.slice A2 M.length c2] w fun e w'=>e=.returned (.bool (decide (L=M)))∧Below w.heap.size w w':=by
 have HA:=hide ha
 have HB:=hide hb
 clear ha hb
 have HL:Live w []:=trivial
 go_enter Tryz.func105,Tryz.ntmps105
 by_cases hlen:L.length=M.length
 case neg=>
  have HZ:=hide (show decide (L=M)=false from decide_eq_false (fun e=>hlen (by rw [e])))
  have q:((L.length:Int) != (M.length:Int))=true:=by simp;omega
  have HQ:=hide hlen
  clear hlen
  go_wp2_with fail
  go_ret
  exact⟨ret_b HZ.out.symm,Below.refl _ _⟩
 case pos=>
 have HLN:=hide hlen
 have q:((L.length:Int) != (M.length:Int))=false:=by simp;omega
 clear hlen
 go_wp2_with fail
 go_loopw [13] (fun i wr=>∃k:Nat,i=.int .i64 (k:Int)∧k≤L.length∧(L=M↔L.drop k=M.drop k)∧Below w.heap.size w wr) (fun i _=>L.length - (intOf i).toNat)
 case atStart=>exact⟨0,rfl,by omega,Iff.rfl,Below.refl _ _⟩
 case round=>
  obtain⟨k,rfl,hk,hiff,hbel⟩:=hrel
  have HI:=hide hiff
  clear hiff
  by_cases hlt:k < L.length
  case neg=>
   have HZ:=hide (show decide (L=M)=true from decide_eq_true (HI.out.2 (by rw [List.drop_of_length_le (by omega),List.drop_of_length_le (by have:=HLN.out;omega)])))
   go_wp2_with fail
   go_ret
   exact⟨ret_b HZ.out.symm,hbel⟩
  case pos=>
  have hltM:k < M.length:=by have:=HLN.out;omega
  obtain⟨x,hx⟩:∃x,L[k]? = some x:=⟨_,List.getElem?_eq_getElem hlt⟩
  obtain⟨y,hy⟩:∃y,M[k]? = some y:=⟨_,List.getElem?_eq_getElem hltM⟩
  obtain⟨g,o,rfl,hg,hc⟩:=HA.out.row (hbel.mono hB) hx
  obtain⟨g2,o2,rfl,hg2,hc2⟩:=HB.out.row (hbel.mono hB) hy
  have hkeep:twoC x y g (o+k*2) g2 (o2+k*2) wr∧True:=⟨⟨hc,hc2⟩,trivial⟩
  have hkeepd:twoC x y g (o+k*2) g2 (o2+k*2) wr.drew∧True:=⟨⟨hc,hc2⟩,trivial⟩
  have HD:=hide (drop_eq_cons hx hy)
  clear hx hy hc hc2
  go_upto_region 6 with fail
  obtain⟨nq,hnq⟩:∃nq,(!decide (x=y))=nq:=⟨_,rfl⟩
  have HNQ:=hide hnq
  clear hnq
  go_cut [24] (fun v wx=>v=.bool nq∧wx=wr.drew)
  case first=>
   refine wp_region_noPanic ?_
   refine wp_region_held_drew (S:=(fun z=>twoC x y g (o+k*2) g2 (o2+k*2) z∧True)) (by kernel_rfl) kp (fun hHeld=>?_)
   refine tkZ 0 ⟨some 16,.move (.tmp 0),23, "slices.go:25",#[],none⟩ ?_
   refine tkZ 1 ⟨some 17,.move (.tmp 5),3, "slices.go:25",#[],none⟩ ?_
   refine tkZ 2 ⟨some 18,.indexAddr 23 (.tmp 16) (.tmp 17),0, "slices.go:25",#[⟨0,.data⟩,⟨1,.data⟩],none⟩ ?_
   refine tkZ 3 ⟨some 19,.load 69 (.tmp 18),69, "slices.go:25",#[⟨2,.data⟩],none⟩ ?_ (by intro w hSw;(try dsimp only at hSw);refine(exec_load_mid 69 (.tmp 18) (by rfl) g (o+k*2) (by rfl) #[.string x.1,.string x.2] _ hSw.1.1 Tryz.underlying69 (by rfl) (by exact infS2)).trans ?_;with_reducible rfl)
   refine tkZ 4 ⟨some 20,.move (.tmp 1),23, "slices.go:25",#[],none⟩ ?_
   refine tkZ 5 ⟨some 21,.move (.tmp 5),3, "slices.go:25",#[],none⟩ ?_
   refine tkZ 6 ⟨some 22,.indexAddr 23 (.tmp 20) (.tmp 21),0, "slices.go:25",#[⟨4,.data⟩,⟨5,.data⟩],none⟩ ?_
   refine tkZ 7 ⟨some 23,.load 69 (.tmp 22),69, "slices.go:25",#[⟨6,.data⟩],none⟩ ?_ (by intro w hSw;(try dsimp only at hSw);refine(exec_load_mid 69 (.tmp 22) (by rfl) g2 (o2+k*2) (by rfl) #[.string y.1,.string y.2] _ hSw.1.2 Tryz.underlying69 (by rfl) (by exact infS2)).trans ?_;with_reducible rfl)
   refine tkZ 8 ⟨some 24,.binOp .neq 69 (.tmp 19) (.tmp 23) 69,4, "slices.go:25",#[⟨3,.data⟩,⟨7,.data⟩],none⟩ ?_ (by intro w hSw;(try dsimp only at hSw);refine(exec_strm_neq x y (.tmp 19) (.tmp 23) (by rfl) (by rfl) (by rfl) nq HNQ.out).trans ?_;with_reducible rfl)
   refine wpAnyH_done (by kernel_rfl) ?_ _
   refine NoPanic.normal ?_
   go_wp2_with fail
   go_meet
   exact⟨rfl,rfl⟩
  case rest=>
  obtain⟨rfl,rfl⟩:=hcut
  clear hkeep hkeepd
  cases nq
  ·have hxy:x=y:=by simpa using HNQ.out
   have HE:=hide (show(L=M↔L.drop (k+1)=M.drop (k+1)) by rw [HI.out,HD.out];simp [hxy])
   clear hxy HD
   go_wp2_with fail
   go_roundw
   case rel=>exact⟨k+1,by go_num,by omega,HE.out,hbel.drew⟩
   case measure=>simp [intOf];omega
  ·have hxy:¬x=y:=by simpa using HNQ.out
   have HE:=hide (show decide (L=M)=false from decide_eq_false (fun e=>hxy (HD.out.1 (HI.out.1 e)).1))
   clear hxy HD
   go_wp2_with fail
   go_ret
   exact⟨ret_b HE.out.symm,hbel.drew⟩
end Go.Proofs.YtlhakdildbplkaaGreatDoor
