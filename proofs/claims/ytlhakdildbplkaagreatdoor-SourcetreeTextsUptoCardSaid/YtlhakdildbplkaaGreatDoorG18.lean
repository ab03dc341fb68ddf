/- Part of the claim: its words. -/
import Derived.Test.YtlhakdildbplkaaGreatDoorG17
set_option maxRecDepth 100000
set_option maxHeartbeats 4000000
namespace Go.Proofs.YtlhakdildbplkaaGreatDoor
set_option linter.unusedSimpArgs false
set_option linter.unusedVariables false
open Go.RowKit
def setsL:List Value→Nat→List Value→List Value
 | xs,_,[]=>xs
 | xs,o,v :: vs=>setsL (xs.set o v) (o+1) vs
theorem setsL_app:∀(vs xa ys xb:List Value),ys.length=vs.length→setsL (xa++ys++xb) xa.length vs=xa++vs++xb
 | [],xa,ys,xb,h=>by
  have:ys=[]:=List.eq_nil_of_length_eq_zero h
  subst this
  rfl
 | v :: vs,xa,[],xb,h=>by simp at h
 | v :: vs,xa,y :: ys,xb,h=>by
  have ih:=setsL_app vs (xa++[v]) ys xb (by simpa using h)
  rw [setsL]
  have e:(xa++y :: ys++xb).set xa.length v=xa++[v]++ys++xb:=by simp
  rw [e]
  rw [List.length_append] at ih
  rw [show xa.length+1=xa.length+[v].length from rfl,ih]
  simp
theorem own_cell {w:World} {B:Nat} {T:TypeId} {g n k cap i:Nat} {v:Value} {xs:List Value} (h:w.ownsRow B T k (.slice (some ⟨g,0,none⟩) n cap) n xs):(w.setCell ⟨g,i,none⟩ v).ownsRow B T k (.slice (some ⟨g,0,none⟩) n cap) n (xs.set i v):=by
 refine⟨by rw [List.length_set];exact h.1,?_⟩
 rcases h.2 with⟨h0,_⟩ | ⟨g',cap',cur,hv,hg,hh,hnc,hcm,hcs,htake⟩
 ·cases h0
 ·cases hv
  refine Or.inr ⟨g,cap,cur.setIfInBounds i v,rfl,hg,Blk.put (T:=T) rfl hh,hnc,hcm,by rw [Array.size_setIfInBounds,hcs],?_⟩
  rw [←htake,Array.toList_setIfInBounds]
  apply List.ext_getElem?
  intro j
  rw [List.getElem?_take,List.getElem?_set,List.getElem?_set,List.getElem?_take,List.length_take]
  by_cases hij:i=j
  ·subst hij
   by_cases hin:i < n*k
   ·have hle:n*k≤cur.size:=by rw [hcs];exact Nat.mul_le_mul_right _ hnc
    simp only [hin,if_true,Array.length_toList,Nat.min_eq_left hle]
    rw [if_pos (by omega)]
   ·simp [hin]
    omega
  ·simp [hij]
theorem own_cells {B:Nat} {T:TypeId} {g n k cap:Nat}:∀(vs:List Value) (i:Nat) (w:World) (xs:List Value),w.ownsRow B T k (.slice (some ⟨g,0,none⟩) n cap) n xs→(w.setCells g i vs).ownsRow B T k (.slice (some ⟨g,0,none⟩) n cap) n (setsL xs i vs)
 | [],_,_,_,h=>h
 | v :: vs,i,w,xs,h=>own_cells vs (i+1) _ _ (own_cell h)
theorem RowR.app {w:World} {B:Nat}:∀ {f:Fo} {xs ys:List Value} {g:Fo},RowR w B f xs→RowR w B g ys→RowR w B (f.app g) (xs++ys)
 | .nil,xs,ys,g,h,h2=>by
  have h':xs=[]:=h
  subst h'
  exact h2
 | .node h ss ks nx,xs,ys,g,⟨kv,sv,xs',e,hs,hk,hn⟩,h2=>⟨kv,sv,xs'++ys,by rw [e,List.append_assoc],hs,hk,RowR.app hn h2⟩
theorem own_notStr {w:World} {B:Nat} {v:Value} {n k:Nat} {xs:List Value} (h:w.ownsRow B 25 k v n xs) {j:Nat} (hj:v.ownBlock=some j) (cs:Array Value) (fr:Nat × Nat):w.heap[j]? ≠ some (Obj.cells cs 69 fr):=by
 rcases h.2 with⟨h2,_⟩ | ⟨g',cap,cg,hv,_,hh,_⟩
 ·rw [h2] at hj;cases hj
 ·rw [hv] at hj
  injection hj with hj
  have h':g'=j:=hj
  subst h'
  exact Blk.notStr hh cs fr
theorem RowR.ins {w:World} {B:Nat} {k:Tr} {kv sv:Value} (hs:StR w B sv k.ss) (hk:KidR w B kv k.ks):∀ {f:Fo} {xs:List Value} (i:Nat),i≤f.len→RowR w B f xs→RowR w B (f.insAt i k) (xs.take (i*12)++(k.h.cells kv sv).toList++xs.drop (i*12))
 | .nil,xs,0,_,h=>by
  have h':xs=[]:=h
  subst h'
  exact⟨kv,sv,[],by simp,hs,hk,rfl⟩
 | .nil,xs,i+1,hi,_=>by rw [Fo.len_nil] at hi;omega
 | .node h ss ks nx,xs,0,_,hr=>⟨kv,sv,xs,by simp,hs,hk,hr⟩
 | .node h ss ks nx,xs,i+1,hi,⟨kv',sv',xs',e,hs',hk',hn⟩=>by
  subst e
  have e1:(h.cells kv' sv').toList.length=12:=rfl
  rw [Fo.len_node] at hi
  refine⟨kv',sv',xs'.take (i*12)++(k.h.cells kv sv).toList++xs'.drop (i*12),?_,hs',hk',RowR.ins hs hk i (by omega) hn⟩
  rw [List.take_append,List.drop_append,e1,List.take_of_length_le (by rw [e1];omega),List.drop_of_length_le (by rw [e1];omega),show(i+1)*12 - 12=i*12 by omega,List.nil_append]
  simp only [List.append_assoc]
theorem KidR.of_row {w:World} {lo B:Nat} {kv:Value} {ks:Fo} {n:Nat} {xs:List Value} (hn:n=ks.len) (hB:w.heap.size≤B) (h:w.ownsRow lo 25 12 kv n xs) (hr:RowR w B ks xs):KidR w B kv ks:=by
 subst hn
 exact KidR.of_own hB h hr
def PutW (w:World) (b r:Nat) (tr:Tr) (wc:World):Prop:=∃A7 c7 A8 c8,Blk wc b (tr.h.cells (.slice A7 tr.ks.len c7) (.slice A8 tr.ss.length c8)) 25∧(∀w',FrO (fun j=>j=r) wc w'→TreeR w' w'.heap.size (.agg (tr.h.cells (.slice A7 tr.ks.len c7) (.slice A8 tr.ss.length c8))) tr)∧Blk wc r zeroN 25∧Below w.heap.size w wc
theorem step_store_mid {P:Program} {w:World} {ops:Array Oper} {o:Oper} {a:Act} {K:Act→World→Prop} {Q:Exit→Act→World→Prop} {E:Prop} (hgd:o.guard=none) (ty:TypeId) (x y:Operand) (ho:o.op=.store ty x y)
  (b q:Nat) (cells:Array Value) (hx:a.eval x=.pointer (some ⟨b,q,none⟩)) (hy:a.eval y=.agg cells)
  (ht:w.there b q cells.size) (hi:(P.info? ty).map (·.size)=some cells.size) (h1:cells.all (·.oneCell')=true)
  (h:K (a.put o.dst undef) (w.setCells b q cells.toList)):if Region.wanted o (yielded ops a.tmps)=true then Oper.wp P o a w K Q else E:=by
 have hw:Region.wanted o (yielded ops a.tmps)=true:=by simp [Region.wanted,hgd]
 rw [if_pos hw]
 exact wp_store_mid ty x y ho b q cells hx hy ht hi h1 h
theorem put_any (t k:Tr) (p:ByteArray) (hsz:t.sz≤30000) (hks:k.sz≤30000) (hp:p.size≤2000000) (v vk:Value) (w:World) (hT:TabV w) (hv:TreeR w w.heap.size v t) (hvk:TreeR w w.heap.size vk k):Calls Tryz.prog 30 #[v,.string p,vk] w fun e w'=>∃r,e=.returned (.tuple #[r,.int .i64 (putQ t p k).2])∧TreeR w' w'.heap.size r (putQ t p k).1∧Below w.heap.size w w':=by
 have VN:=hide (fun W hTW hW=>valid_any t (Or.inl (by omega)) v W hTW hW)
 have CL:=hide (fun W hW=>clone_any 60000 t (by have:=t.count_sz;omega) (by omega) v W hW)
 have CK:=hide (fun W hW=>clone_any 60000 k (by have:=k.count_sz;omega) (by omega) vk W hW)
 have HV:=hide hv
 have HVK:=hide hvk
 obtain⟨A,c,A2,c2,rfl,hkl,hstl⟩:=hv.openL
 obtain⟨AK,cK,AK2,cK2,rfl,hkl2,hstl2⟩:=hvk.openL
 clear hv hvk hkl hstl hkl2 hstl2
 have HL:Live w []:=trivial
 go_enter Tryz.func30,Tryz.ntmps30
 go_upto_region 1 with fail
 have HB:=hide (show Blk (((w.alloc (.cells (t.h.cells (.slice A t.ks.len c) (.slice A2 t.ss.length c2)) 25)).alloc (.cells (k.h.cells (.slice AK k.ks.len cK) (.slice AK2 k.ss.length cK2)) 25)).alloc (.cells zeroN 25)) w.heap.size (t.h.cells (.slice A t.ks.len c) (.slice A2 t.ss.length c2)) 25 from((Blk.newAt rfl).alloc _).alloc _)
 have HKB:=hide (show Blk (((w.alloc (.cells (t.h.cells (.slice A t.ks.len c) (.slice A2 t.ss.length c2)) 25)).alloc (.cells (k.h.cells (.slice AK k.ks.len cK) (.slice AK2 k.ss.length cK2)) 25)).alloc (.cells zeroN 25)) (w.heap.size+1) (k.h.cells (.slice AK k.ks.len cK) (.slice AK2 k.ss.length cK2)) 25 from(Blk.newAt (by rw [World.size_alloc])).alloc _)
 have HR:=hide (show Blk (((w.alloc (.cells (t.h.cells (.slice A t.ks.len c) (.slice A2 t.ss.length c2)) 25)).alloc (.cells (k.h.cells (.slice AK k.ks.len cK) (.slice AK2 k.ss.length cK2)) 25)).alloc (.cells zeroN 25)) (w.heap.size+1+1) zeroN 25 from Blk.newAt (by rw [World.size_alloc,World.size_alloc]))
 have hbel1:Below w.heap.size w (((w.alloc (.cells (t.h.cells (.slice A t.ks.len c) (.slice A2 t.ss.length c2)) 25)).alloc (.cells (k.h.cells (.slice AK k.ks.len cK) (.slice AK2 k.ss.length cK2)) 25)).alloc (.cells zeroN 25)):=(((Below.refl _ _).alloc (Nat.le_refl _) _).alloc (by rw [World.size_alloc];omega) _).alloc (by rw [World.size_alloc,World.size_alloc];omega) _
 obtain⟨W1,hW1⟩:∃W1,W1=(((w.alloc (.cells (t.h.cells (.slice A t.ks.len c) (.slice A2 t.ss.length c2)) 25)).alloc (.cells (k.h.cells (.slice AK k.ks.len cK) (.slice AK2 k.ss.length cK2)) 25)).alloc (.cells zeroN 25)):=⟨_,rfl⟩
 rw [←hW1] at HB HKB HR hbel1
 unfold zeroN at hW1
 rw [←hW1]
 clear hW1
 obtain⟨r,hr⟩:∃r,r=w.heap.size+1+1:=⟨_,rfl⟩
 rw [←hr] at HR ⊢
 obtain⟨kb,hkb⟩:∃kb,kb=w.heap.size+1:=⟨_,rfl⟩
 rw [←hkb] at HKB ⊢
 obtain⟨b,hb⟩:∃b,b=w.heap.size:=⟨_,rfl⟩
 rw [←hb] at HB ⊢
 have hlo:b≠r∧b≠kb∧kb≠r∧w.heap.size≤b∧w.heap.size≤r∧w.heap.size≤kb:=by omega
 obtain⟨hbr,hbk,hkr,hwb,hwr,hwk⟩:=hlo
 clear hb hkb hr
 have HT1:=hide (hT.below hbel1)
 have HV1:=hide (HV.out.own_below hbel1)
 have HTW:=hide hT
 have BZ:=hide built_zero
 clear hT HV
 cases hvb:validB t
 case false=>
  have HZ:=hide (putQ_no (p:=p) (k:=k) hvb)
  rw [hvb] at VN
  clear hvb
  go_wp2_with (first | (refine wpList_load_row rfl 25 (.tmp 3) rfl b rfl 25 (t.h.cells (.slice A t.ks.len c) (.slice A2 t.ss.length c2)) (0,0) _ HB.out Tryz.underlying25 rfl (infN rfl) ?_) | (go_at_call 20;refine(VN.out _ HT1.out HV1.out).mono ?_;rintro e w3 ⟨rfl,hb3⟩;have HR3:=hide (Blk.below hb3 HR.out)) | (refine wpList_build_is rfl 25 #[] rfl [] (by simp) _ BZ.out ?_) | (refine wpList_store_row rfl 25 (.tmp 6) (.tmp 16) rfl r zeroN rfl rfl 25 zeroN HR3.out (infN rfl) rfl (by kernel_rfl) ?_))
  have hbel3:=hbel1.trans (hb3.mono hbel1.size)
  refine bodyPost_ret (results_cell2 rfl _ _ r 25 zeroN (0,0) _ rfl (setRow_heap _ _ _ _ _ _ HR3.out) (.int .i64 1) rfl Tryz.underlying25 rfl (infN rfl)) rfl ?_
  exact⟨_,by rw [HZ.out],by rw [HZ.out];exact zero_reads _ _,hbel3.trans ((FrO.setRow (O:=fun j=>j=r) rfl).below hbel3.size fun j hj=>by subst hj;exact hwr)⟩
 case true=>
 have HVB:=hide hvb
 rw [hvb] at VN
 clear hvb
 go_upto_region 4 with (first | (refine wpList_load_row rfl 25 (.tmp 3) rfl b rfl 25 (t.h.cells (.slice A t.ks.len c) (.slice A2 t.ss.length c2)) (0,0) _ HB.out Tryz.underlying25 rfl (infN rfl) ?_) | (go_at_call 20;refine(VN.out _ HT1.out HV1.out).mono ?_;rintro e w3 ⟨rfl,hb3⟩;have HB3:=hide (Blk.below hb3 HB.out);have HV3:=hide (HV1.out.own_below hb3)) | (refine wpList_load_row rfl 25 (.tmp 3) rfl b rfl 25 (t.h.cells (.slice A t.ks.len c) (.slice A2 t.ss.length c2)) (0,0) _ HB3.out Tryz.underlying25 rfl (infN rfl) ?_) | (go_at_call 64;refine(CL.out _ HV3.out).mono ?_;rintro e w5 ⟨r5,rfl,ho5,hb5⟩;obtain⟨kv5,sv5,O5,rfl,hs5,hk5,hO5⟩:=ho5;obtain⟨A5,c5,rfl⟩:=hk5.slice;obtain⟨A6,c6,rfl⟩:=own_slice hs5;have HB5:=hide (Blk.below hb5 HB3.out)) | (refine wpList_store_row rfl 25 (.tmp 3) (.tmp 18) rfl b (t.h.cells (.slice A5 t.ks.len c5) (.slice A6 t.ss.length c6)) rfl rfl 25 (t.h.cells (.slice A t.ks.len c) (.slice A2 t.ss.length c2)) HB5.out (infN rfl) rfl (nodeLit _ _ _ _ _ _ _) ?_))
 dsimp only [Act.put]
 have hbel3:=hbel1.trans (hb3.mono hbel1.size)
 have hf56:FrO (fun j=>j=b) w5 (w5.setRow b (t.h.cells (.slice A5 t.ks.len c5) (.slice A6 t.ss.length c6))):=FrO.setRow rfl
 have hSK:StrK w5 (w5.setRow b (t.h.cells (.slice A5 t.ks.len c5) (.slice A6 t.ss.length c6))):=StrK.of hf56 (fun j cs fr e=>by subst e;exact HB5.out.notStr cs fr)
 have hb3w:=HB3.out.lt
 have hr3w:=(Blk.below hb3 HR.out).lt
 have hk3w:=(Blk.below hb3 HKB.out).lt
 have hw3:=hbel3.size
 have hO6:=fun j (hj:O5 j)=>(show w.heap.size≤j∧j≠b∧j≠r∧j≠kb by have:=(hO5 j hj).1;exact⟨by omega,by omega,by omega,by omega⟩)
 have HO6:=hide hO6
 have HS6:=hide (own_base (own_fr hf56 hs5 (fun g hg=>by have:=(hs5.lt g hg).1;omega)) hw3)
 have HK6:=hide (KidS.base hw3 (hk5.frame hSK fun j hj hoj=>hf56.block j hj (fun e=>(hO6 j hoj).2.1 e)))
 have HB6:=hide (show Blk (w5.setRow b (t.h.cells (.slice A5 t.ks.len c5) (.slice A6 t.ss.length c6))) b (t.h.cells (.slice A5 t.ks.len c5) (.slice A6 t.ss.length c6)) 25 from setRow_heap _ _ _ _ _ _ HB5.out)
 have HR6:=hide (hf56.blk (Blk.below hb5 (Blk.below hb3 HR.out)) (fun e=>hbr e.symm))
 have HKB6:=hide (hf56.blk (Blk.below hb5 (Blk.below hb3 HKB.out)) (fun e=>hbk e.symm))
 have hbel6:Below w.heap.size w (w5.setRow b (t.h.cells (.slice A5 t.ks.len c5) (.slice A6 t.ss.length c6))):=(hbel3.trans (hb5.mono hw3)).trans (hf56.below (by have:=hb5.size;omega) fun j hj=>by subst hj;exact hwb)
 generalize w5.setRow b (t.h.cells (.slice A5 t.ks.len c5) (.slice A6 t.ss.length c6))=wc at *
 clear hf56 hSK hs5 hk5 hO5 HB5 hb5 HB3 HV3 HB HR HKB HT1 HV1 hbel3 hb3w hr3w hk3w hw3 hO6 CL VN hb3
 have HTC:=hide (HTW.out.below hbel6)
 have h0:AtH wc w.heap.size b O5 t 30000 [] t b 0:=⟨_,.here,Hole.root hwb HB6.out HS6.out HK6.out (fun j hj=>⟨(HO6.out j hj).1,(HO6.out j hj).2.1⟩),hsz⟩
 have FN:=hide (find_any (AtH wc w.heap.size b O5 t 30000) t b 0 p hp wc HTC.out (AtH.down wc w.heap.size b O5 t 30000 (by omega)) h0)
 clear h0 HK6 HS6
 cases hfd:findT t (partsP p) with
 | none=>
  have HZ:=hide (putQ_none (k:=k) HVB.out hfd)
  rw [hfd] at FN
  clear hfd
  go_wp2_with (first | (go_at_call 63;refine FN.out.mono ?_;rintro e w12 ⟨r4,rfl,hr4,hb12⟩;have hr4':r4=none:=hr4;subst hr4';have HR12:=hide (Blk.below hb12 HR6.out)) | (refine wpList_build_is rfl 25 #[] rfl [] (by simp) _ BZ.out ?_) | (refine wpList_store_row rfl 25 (.tmp 6) (.tmp 23) rfl r zeroN rfl rfl 25 zeroN HR12.out (infN rfl) rfl (by kernel_rfl) ?_))
  have hbel12:=hbel6.trans (hb12.mono hbel6.size)
  refine bodyPost_ret (results_cell2 rfl _ _ r 25 zeroN (0,0) _ rfl (setRow_heap _ _ _ _ _ _ HR12.out) (.int .i64 6) rfl Tryz.underlying25 rfl (infN rfl)) rfl ?_
  exact⟨_,by rw [HZ.out],by rw [HZ.out];exact zero_reads _ _,hbel12.trans ((FrO.setRow (O:=fun j=>j=r) rfl).below hbel12.size fun j hj=>by subst hj;exact hwr)⟩
 | some x=>
 have HFD:=hide hfd
 rw [hfd] at FN
 clear hfd
 go_upto_region 7 with (go_at_call 63;refine FN.out.mono ?_;rintro e w12 ⟨r12,rfl,⟨xb,xo,rfl,⟨U,hU,hH,hxs⟩⟩,hb12⟩)
 clear FN
 obtain⟨kvx,svx,Ox,cur,hxb,hOb,hBx,hcx,⟨xk,Ok,hown,hrow,hok1,hok2⟩,hOx,hrest⟩:=hH
 have HKx:=hide (show KidS wc w.heap.size kvx x.ks Ox from⟨xk,Ok,hown,hrow,hok1,hok2⟩)
 obtain⟨Ak,ck,rfl⟩:=own_slice hown
 have hbel12:=hbel6.trans (hb12.mono hbel6.size)
 have HBx:=hide hBx
 have HUP:=hide hU.upd
 have HREST:=hide hrest
 have HROW:=hide hrow
 have HOWN:=hide hown
 have HOX:=hide hOx
 have HOK1:=hide hok1
 have HOK2:=hide hok2
 have HOB:=hide hOb
 have HCX:=hide hcx
 have hxlen:x.ks.len≤60000:=by have:=x.ks.len_sz;unfold Tr.sz at hxs;omega
 have HBx12:=hide (Blk.below hb12 hBx)
 have k1:w12.cell? ⟨xb,xo+1,none⟩=some (.int .i64 x.h.kind):=(HBx12.out.cells (xo+1)).trans (hcx 1 _ rfl)
 clear hU hrest hrow hown hOx hok1 hok2 hBx hcx hOb
 by_cases hkd:x.h.kind=0
 case neg=>
  have HZ:=hide (putQ_kind (k:=k) HVB.out HFD.out hkd)
  have q:(x.h.kind != 0)=true:=by simpa using hkd
  have HR12:=hide (Blk.below hb12 HR6.out)
  have HKD:=hide hkd
  clear hkd
  go_wp2_with (first | (refine wpList_build_is rfl 25 #[] rfl [] (by simp) _ BZ.out ?_) | (refine wpList_store_row rfl 25 (.tmp 6) (.tmp 29) rfl r zeroN rfl rfl 25 zeroN HR12.out (infN rfl) rfl (by kernel_rfl) ?_))
  refine bodyPost_ret (results_cell2 rfl _ _ r 25 zeroN (0,0) _ rfl (setRow_heap _ _ _ _ _ _ HR12.out) (.int .i64 8) rfl Tryz.underlying25 rfl (infN rfl)) rfl ?_
  exact⟨_,by rw [HZ.out],by rw [HZ.out];exact zero_reads _ _,hbel12.trans ((FrO.setRow (O:=fun j=>j=r) rfl).below hbel12.size fun j hj=>by subst hj;exact hwr)⟩
 case pos=>
 have q:(x.h.kind != 0)=false:=by rw [hkd];rfl
 have HGO:=hide (putQ_go (k:=k) HVB.out HFD.out hkd)
 have HSN:=hide (find_sorted HVB.out HFD.out)
 have HKD:=hide hkd
 clear hkd
 have HWC:=hide (show wc.heap.size=wc.heap.size from rfl)
 have hl12:Left w12 w12.heap.size Ak x.ks 0:=by
  obtain⟨A',c',e,hk⟩:=(HKx.out.below hb12).read (Nat.le_refl _)
  injection e with e1 e2 e3
  subst e1
  exact Left.of hk
 have BS:=hide (fun W (hW:Below w12.heap.size w12 W)=>bsearch_any x.ks k.h.name HSN.out Ak ck w12.heap.size (by omega) W hW.size (hl12.below hW))
 have c10:w12.cell? ⟨xb,xo+10,none⟩=some (.slice Ak x.ks.len ck):=(HBx12.out.cells (xo+10)).trans (HCX.out 10 _ rfl)
 have HKB12:=hide (Blk.below hb12 HKB6.out)
 have kc0:w12.cell? ⟨kb,0,none⟩=some (.string k.h.name):=(HKB12.out.cells 0).trans rfl
 have hkeep:w12.cell? ⟨xb,xo+10,none⟩=some (.slice Ak x.ks.len ck)∧w12.cell? ⟨kb,0,none⟩=some (.string k.h.name):=⟨c10,kc0⟩
 have hkeepd:w12.drew.cell? ⟨xb,xo+10,none⟩=some (.slice Ak x.ks.len ck)∧w12.drew.cell? ⟨kb,0,none⟩=some (.string k.h.name):=⟨c10,kc0⟩
 clear hl12
 go_upto_region 9 with fail
 refine wp_region_noPanic ?_
 refine wp_region_held_drew (S:=(fun z=>z.cell? ⟨xb,xo+10,none⟩=some (.slice Ak x.ks.len ck)∧z.cell? ⟨kb,0,none⟩=some (.string k.h.name))) (by kernel_rfl) kp (fun hHeld=>?_)
 refine tkZ 0 ⟨some 31,.move (.tmp 8),64, "sourcetree.go:267",#[],none⟩ ?_
 refine tkZ 1 ⟨some 32,.nilCheck (.tmp 31),0, "sourcetree.go:267",#[⟨0,.data⟩],none⟩ ?_
 refine tkZ 2 ⟨some 33,.fieldAddr 25 (.tmp 32) 10,0, "sourcetree.go:267",#[⟨1,.data⟩],none⟩ ?_
 refine tkZ 3 ⟨some 34,.load 22 (.tmp 33),22, "sourcetree.go:267",#[⟨2,.data⟩],none⟩ ?_
 refine tkZ 4 ⟨some 35,.fieldAddr 25 (.tmp 5) 0,0, "sourcetree.go:267",#[],none⟩ ?_
 refine tkZ 5 ⟨some 36,.load 9 (.tmp 35),9, "sourcetree.go:267",#[⟨4,.data⟩],none⟩ ?_
 refine rqS [6] (rqC ⟨some 37,.call ⟨.value (.func 71),#[.tmp 34,.tmp 36,.func 72],#[22,9,66]⟩,70, "sourcetree.go:267",#[⟨3,.data⟩,⟨5,.data⟩],none⟩ (fun K hK=>?_) rq0)
 go_simp
 (go_at_call 71;(with_reducible refine(BS.out _ ((Below.refl _ _).drew)).mono ?_);rintro e w8 ⟨rfl,hb8⟩;have hkeep8:w8.cell? ⟨xb,xo+10,none⟩=some (.slice Ak x.ks.len ck)∧w8.cell? ⟨kb,0,none⟩=some (.string k.h.name):=⟨(hb8.cell (p:=⟨xb,xo+10,none⟩) (cell_lt hkeepd.1)).trans hkeepd.1,(hb8.cell (p:=⟨kb,0,none⟩) (cell_lt hkeepd.2)).trans hkeepd.2⟩)
 go_wp2_with fail
 refine hK.out _ _ kp (fun hHeld=>?_)
 clear hK K
 try simp only [PT]
 refine tkZ 7 ⟨some 30,.move (.tmp 37),70, "sourcetree.go:267",#[⟨6,.data⟩],none⟩ ?_
 refine tkZ 8 ⟨some 38,.extract (.tmp 30) 0,3, "sourcetree.go:267",#[⟨7,.data⟩],none⟩ ?_
 refine tkZ 9 ⟨some 39,.extract (.tmp 30) 1,4, "sourcetree.go:267",#[⟨7,.data⟩,⟨10,.gcOnly .lateStores⟩],none⟩ ?_
 refine tkZ 10 ⟨some 9,.assign (.tmp 38),3, "sourcetree.go:267",#[⟨8,.data⟩,⟨6,.chain⟩,⟨0,.phase⟩,⟨1,.phase⟩,⟨2,.phase⟩,⟨3,.phase⟩,⟨4,.phase⟩,⟨5,.phase⟩,⟨6,.phase⟩,⟨7,.phase⟩,⟨8,.phase⟩,⟨9,.textOnly .lateStores⟩],none⟩ ?_
 refine tkZ 11 ⟨some 10,.assign (.tmp 39),4, "sourcetree.go:267",(phs [⟨9,.data⟩,⟨10,.chain⟩] 11),none⟩ ?_
 refine wpAnyH_done (by kernel_rfl) ?_ _
 refine NoPanic.normal ?_
 have hb128:Below w12.heap.size w12 w8:=(Below.refl w12.heap.size w12).drew.trans hb8
 have hbc8:Below wc.heap.size wc w8:=hb12.trans (hb128.mono hb12.size)
 have hbel8:=hbel6.trans (hbc8.mono hbel6.size)
 have d10:=hkeep8.1
 clear hkeep hkeepd hkeep8 hHeld c10 kc0 BS HBx12 HKB12 hb8 hb128
 have HKB8:=hide (Blk.below hbc8 HKB6.out)
 have hxr:xb≠r:=by
  rcases HOB.out with h | h
  ·exact(HO6.out xb h).2.2.1
  ·rw [h];exact hbr
 have hxk:xb≠kb:=by
  rcases HOB.out with h | h
  ·exact(HO6.out xb h).2.2.2
  ·rw [h];exact hbk
 have hown:∀j,(Value.slice Ak x.ks.len ck).ownBlock=some j→Ox j∧j≠xb∧j≠b∧j≠r∧j≠kb∧w.heap.size≤j:=fun j hj=>by
  have h1:=HOK2.out j hj
  obtain⟨a1,a2,a3,a4⟩:=HOX.out j h1
  have:=HO6.out j a1
  exact⟨h1,a3,a4,this.2.2.1,this.2.2.2,a2⟩
 have HOJ:=hide hown
 clear hown
 have fin:∀(wz:World) (kv':Value) (f':Fo),FrO (fun j=>(Value.slice Ak x.ks.len ck).ownBlock=some j∨j=xb) wc wz→Blk wz xb (cur.setIfInBounds (xo+10) kv') 25→(∀w',FrO (fun j=>j=r) wz w'→StrK wz w'→StrK wc w'→(∀j,j < wc.heap.size→Ok j→w'.heap[j]? = wc.heap[j]?)→KidR w' w'.heap.size kv' f')→PutW w b r (updT (partsP p) t f') wz:=fun wz kv' f' hfr0 hB0 hk'=>by
  have hZ0:Blk wz r zeroN 25:=hfr0.blk HR6.out (fun e=>by
   rcases e with e | e
   ·exact(HOJ.out r e).2.2.2.1 rfl
   ·exact hxr e.symm)
  have main:∀w',FrO (fun j=>j=r) wz w'→∃A7 c7 A8 c8,Blk w' b ((updT (partsP p) t f').h.cells (.slice A7 (updT (partsP p) t f').ks.len c7) (.slice A8 (updT (partsP p) t f').ss.length c8)) 25∧TreeR w' w'.heap.size (.agg ((updT (partsP p) t f').h.cells (.slice A7 (updT (partsP p) t f').ks.len c7) (.slice A8 (updT (partsP p) t f').ss.length c8))) (updT (partsP p) t f'):=fun w' hfr'=>by
   have hfr:FrO (fun j=>((Value.slice Ak x.ks.len ck).ownBlock=some j∨j=xb)∨j=r) wc w':=(FrO.mono (fun j h=>Or.inl h) hfr0).trans hfr' (fun j h=>Or.inl (Or.inr h))
   have hSK:StrK wc w':=StrK.of hfr (fun j cs fr h=>by
    rcases h with (h | rfl) | rfl
    ·rcases HOWN.out.2 with⟨h2,_⟩ | ⟨g',cap,cg,hv,_,hh,_⟩
     ·rw [h2] at h;cases h
     ·rw [hv] at h
      injection h with h
      have h':g'=j:=h
      subst h'
      exact Blk.notStr hh cs fr
    ·exact HBx.out.notStr cs fr
    ·exact HR6.out.notStr cs fr)
   have hSKz:StrK wz w':=StrK.of hfr' (fun j cs fr h=>by subst h;exact hZ0.notStr cs fr)
   have hOkk:∀j,j < wc.heap.size→Ok j→w'.heap[j]? = wc.heap[j]? := fun j hj hoj=>hfr.block j hj (fun e=>by
    obtain⟨a1,a2⟩:=HOK1.out j hoj
    have a3:=HOX.out j a1
    rcases e with (e | e) | e
    ·exact a2 e
    ·exact a3.2.2.1 e
    ·exact(HO6.out j a3.1).2.2.1 e)
   obtain⟨kvR,svR,hBR,⟨A8,c8,rfl,hs8⟩,A7,c7,rfl,hk8⟩:=HREST.out w' w'.heap.size kv' f' hSK (fun j hj h3 h4 h5=>hfr.block j hj (fun e=>by
    rcases e with (e | e) | e
    ·exact h4 (HOJ.out j e).1
    ·exact h5 e
    ·rcases h3 with h3 | h3
     ·exact(HO6.out j h3).2.2.1 e
     ·exact hbr (h3 ▸ e))) (hfr'.blk hB0 hxr) (Nat.le_refl _) (hk' w' hfr' hSKz hSK hOkk)
   rw [HUP.out] at hBR hs8 hk8
   exact⟨A7,c7,A8,c8,hBR,⟨_,_,rfl,⟨A8,c8,rfl,hs8⟩,A7,c7,rfl,hk8⟩⟩
  obtain⟨A7,c7,A8,c8,hB1,hT1⟩:=main wz (FrO.of (Below.refl _ _))
  refine⟨A7,c7,A8,c8,hB1,fun w' hfr'=>?_,hZ0,hbel6.trans (hfr0.below hbel6.size fun j hj=>?_)⟩
  ·obtain⟨A7',c7',A8',c8',hB2,hT2⟩:=main w' hfr'
   have hB3:=hfr'.blk hB1 hbr
   unfold Blk at hB2 hB3
   rw [hB3] at hB2
   injection hB2 with hB2
   injection hB2 with hB2
   rw [hB2]
   exact hT2
  ·rcases hj with hj | rfl
   ·exact(HOJ.out j hj).2.2.2.2.2
   ·exact hxb
 have FIN:=hide fin
 clear fin HREST
 have hlow:=lowI_le x.ks k.h.name
 have HPK:=hide (show putK x.ks k=if foundB x.ks k.h.name then x.ks.setAt (lowI x.ks k.h.name) k else x.ks.insAt (lowI x.ks k.h.name) k from rfl)
 have HFK:=hide (show foundB x.ks k.h.name=true→∃k0,x.ks.list[lowI x.ks k.h.name]? = some k0 from fun hfo=>by
  unfold foundB at hfo
  cases hl:x.ks.list[lowI x.ks k.h.name]? with
  | none=>rw [hl] at hfo;cases hfo
  | some k0=>exact⟨k0,rfl⟩)
 generalize foundB x.ks k.h.name=fb at *
 generalize lowI x.ks k.h.name=i at *
 go_upto_if 40 with fail
 go_cut [9] from 41 (fun _ wz=>PutW w b r (updT (partsP p) t (putK x.ks k)) wz)
 case first=>
  cases fb
  case true=>
   have HPK2:=hide (show putK x.ks k=x.ks.setAt i k by rw [HPK.out,if_pos rfl])
   obtain⟨k0,hk0⟩:=HFK.out rfl
   have hil:i < x.ks.len:=by rw [←Fo.list_len];exact(List.getElem?_eq_some_iff.1 hk0).1
   have HK0:=hide hk0
   clear hk0 HPK HFK
   obtain⟨g,cap,cg,hsl,hlg,hBg,hnc,hcm,hcs,hxs2⟩:=own_blk HOWN.out (by omega)
   injection hsl with hsl1 hsl2 hsl3
   subst hsl1;subst hsl3
   obtain⟨hgO,hgx,hgb,hgr,hgk,hgw⟩:=HOJ.out g rfl
   obtain⟨kv0,sv0,O1,xa,xb',hxk2,hxa,-,-,-,hrest0⟩:=RowS.at HROW.out HK0.out
   have HRES:=hide hrest0
   have HXK:=hide hxk2
   have hcap1:i+1≤ck:=by omega
   have hkeep:Blk w8 kb (k.h.cells (.slice AK k.ks.len cK) (.slice AK2 k.ss.length cK2)) 25∧w8.cell? ⟨xb,xo+10,none⟩=some (.slice (some ⟨g,0,none⟩) x.ks.len ck):=⟨HKB8.out,d10⟩
   have hkeepd:Blk w8.drew kb (k.h.cells (.slice AK k.ks.len cK) (.slice AK2 k.ss.length cK2)) 25∧w8.drew.cell? ⟨xb,xo+10,none⟩=some (.slice (some ⟨g,0,none⟩) x.ks.len ck):=⟨HKB8.out,d10⟩
   have hg8:Blk w8 g cg 25:=Blk.below hbc8 hBg
   have HG8:=hide hg8
   have hbel8d:Below w.heap.size w w8.drew:=hbel8.drew
   clear hsl2 hBg hxs2 hxk2 hrest0 hg8 hnc
   go_upto_region 11 with fail
   refine wp_region_noPanic ?_
   refine wp_region_held_drew (S:=(fun z=>Blk z kb (k.h.cells (.slice AK k.ks.len cK) (.slice AK2 k.ss.length cK2)) 25∧z.cell? ⟨xb,xo+10,none⟩=some (.slice (some ⟨g,0,none⟩) x.ks.len ck))) (by kernel_rfl) kp (fun hHeld=>?_)
   refine tkZ 0 ⟨some 41,.move (.tmp 8),64, "sourcetree.go:269",#[],none⟩ ?_
   refine tkZ 1 ⟨some 42,.nilCheck (.tmp 41),0, "sourcetree.go:269",#[⟨0,.data⟩],none⟩ ?_
   refine tkZ 2 ⟨some 43,.fieldAddr 25 (.tmp 42) 10,0, "sourcetree.go:269",#[⟨1,.data⟩],none⟩ ?_
   refine tkZ 3 ⟨some 44,.load 22 (.tmp 43),22, "sourcetree.go:269",#[⟨2,.data⟩],none⟩ ?_ (by intro w hSw;(try dsimp only at hSw);have c1:=hSw.2;go_simp;(try with_reducible rfl))
   refine tkZ 4 ⟨some 45,.move (.tmp 9),3, "sourcetree.go:269",#[],none⟩ ?_
   refine tkZ 5 ⟨some 46,.load 25 (.tmp 5),25, "sourcetree.go:269",#[],none⟩ ?_ (by intro w hSw;(try dsimp only at hSw);refine(exec_load_row 25 (.tmp 5) (by rfl) kb (by rfl) 25 (k.h.cells (.slice AK k.ks.len cK) (.slice AK2 k.ss.length cK2)) (0,0) _ hSw.1 Tryz.underlying25 (by rfl) (infN rfl)).trans ?_;with_reducible rfl)
   refine rqS [6] (rqC ⟨some 47,.call ⟨.value (.func 64),#[.tmp 46],#[25]⟩,25, "sourcetree.go:269",#[⟨5,.data⟩],none⟩ (fun K hK=>?_) rq0)
   go_simp
   (go_at_call 64;(with_reducible refine(CK.out _ (HVK.out.own_below hbel8d)).mono ?_);rintro e w10 ⟨r10,rfl,⟨kvk,svk,OK,rfl,hsk,hkk,hOk⟩,hb10⟩;obtain⟨AL,cL,rfl⟩:=hkk.slice;obtain⟨AM,cM,rfl⟩:=own_slice hsk;have hb810:Below w8.heap.size w8 w10:=(Below.refl w8.heap.size w8).drew.trans hb10;have hkeep10:Blk w10 kb (k.h.cells (.slice AK k.ks.len cK) (.slice AK2 k.ss.length cK2)) 25∧w10.cell? ⟨xb,xo+10,none⟩=w8.drew.cell? ⟨xb,xo+10,none⟩:=⟨Blk.below hb10 hkeepd.1,hb10.cell (p:=⟨xb,xo+10,none⟩) (cell_lt hkeepd.2)⟩;rw [hkeepd.2] at hkeep10)
   go_wp2_with fail
   refine hK.out _ _ kp (fun hHeld=>?_)
   clear hK K
   try simp only [PT]
   refine tkZ 7 ⟨some 48,.indexAddr 22 (.tmp 44) (.tmp 45),0, "sourcetree.go:269",(phs [⟨3,.data⟩,⟨4,.data⟩] 7),none⟩ ?_
   refine rqS [8] (rqC ⟨none,.store 25 (.tmp 48) (.tmp 47),0, "sourcetree.go:269",(phs [⟨7,.data⟩,⟨6,.data⟩,⟨6,.chain⟩] 7),none⟩ (fun K hK=>?_) rq0)
   refine step_store_mid (by rfl) 25 _ _ (by rfl) g (i*12) (k.h.cells (.slice AL k.ks.len cL) (.slice AM k.ss.length cM)) (by rfl) (by rfl) (fun j hj=>?_) (infN rfl) (nodeLit _ _ _ _ _ _ _) ?_;exact⟨by rw [(Blk.below hb810 HG8.out).cells,Array.getElem?_eq_getElem (show i*12+j < cg.size by rw [hcs];have:j < 12:=hj;have h2:=Nat.mul_le_mul_right 12 hcap1;omega)];rfl,(Blk.below hb810 HG8.out).free _⟩;have hkeep11:Blk (w10.setCells g (i*12) (k.h.cells (.slice AL k.ks.len cL) (.slice AM k.ss.length cM)).toList) kb (k.h.cells (.slice AK k.ks.len cK) (.slice AK2 k.ss.length cK2)) 25∧(w10.setCells g (i*12) (k.h.cells (.slice AL k.ks.len cL) (.slice AM k.ss.length cM)).toList).cell? ⟨xb,xo+10,none⟩=some (.slice (some ⟨g,0,none⟩) x.ks.len ck):=⟨(FrO.sets (O:=fun j=>j=g) rfl _ _ _).blk hkeep10.1 (fun e=>hgk e.symm),(World.cell?_of_block ((FrO.sets (O:=fun j=>j=g) rfl _ _ _).block xb (cell_lt hkeep10.2) (fun e=>hgx e.symm))).trans hkeep10.2⟩
   refine hK.out _ _ kp (fun hHeld=>?_)
   clear hK K
   try simp only [PT]
   refine wpAnyH_done (by kernel_rfl) ?_ _
   refine NoPanic.normal ?_
   go_wp2_with fail
   go_meet
   rw [HPK2.out]
   have hz8:=hbc8.size
   have hg8:g < w8.heap.size:=HG8.out.lt
   have hfs:FrO (fun j=>j=g) w10 (w10.setCells g (i*12) (k.h.cells (.slice AL k.ks.len cL) (.slice AM k.ss.length cM)).toList):=FrO.sets (O:=fun j=>j=g) rfl _ _ _
   have hbc10:=hbc8.trans (hb810.mono hz8)
   have hSK10:StrK w10 (w10.setCells g (i*12) (k.h.cells (.slice AL k.ks.len cL) (.slice AM k.ss.length cM)).toList):=StrK.of hfs (fun j cs fr e=>by subst e;exact(Blk.below hb810 HG8.out).notStr cs fr)
   have e8:w8.drew.heap.size=w8.heap.size:=rfl
   rw [e8] at hsk hkk hOk
   refine FIN.out _ (.slice (some ⟨g,0,none⟩) x.ks.len ck) _ ((FrO.of (O:=fun j=>(Value.slice (some ⟨g,0,none⟩) x.ks.len ck).ownBlock=some j∨j=xb) hbc10).trans hfs (fun j h=>Or.inl (Or.inl (by rw [h];rfl)))) ?_ (fun w' hfr' hSKz hSK hOkk=>?_)
   ·rw [set_self (HCX.out 10 _ rfl)]
    exact hfs.blk (Blk.below hbc10 HBx.out) (fun e=>hgx e.symm)
   ·have hr8:r < w8.heap.size:=(Blk.below hbc8 HR6.out).lt
    have hz10:w10.heap.size≤(w10.setCells g (i*12) (k.h.cells (.slice AL k.ks.len cL) (.slice AM k.ss.length cM)).toList).heap.size:=hfs.size
    have hown':=own_fr hfr' (own_cells (k.h.cells (.slice AL k.ks.len cL) (.slice AM k.ss.length cM)).toList (i*12) w10 xk (below_row' HOWN.out hbc10)) (fun q hq=>by injection hq with hq;rw [←hq];exact hgr)
    refine KidR.of_row (n:=x.ks.len) (Fo.setAt_len _ _ _).symm (Nat.le_refl _) hown' ?_
    rw [HXK.out,show i*12=xa.length from hxa.symm,setsL_app (k.h.cells (.slice AL k.ks.len cL) (.slice AM k.ss.length cM)).toList xa (k0.h.cells kv0 sv0).toList xb' rfl]
    refine HRES.out _ _ k _ _ hSK (fun j hj ho _=>hOkk j hj ho) (Nat.le_refl _) (StR.of_own (Nat.le_refl _) (own_keep (own_fr hfs hsk (fun q hq=>by have:=(hsk.lt q hq).1;omega)) fun q cs _ hq=>hSKz q cs _ hq)) (KidS.read (Nat.le_refl _) ((hkk.frame hSK10 fun j hj ho=>hfs.block j hj (fun e=>by have:=(hOk j ho).1;omega)).frame hSKz fun j hj ho=>hfr'.block j hj (fun e=>by have:=(hOk j ho).1;omega)))
  case false=>
   have HPK2:=hide (show putK x.ks k=x.ks.insAt i k by rw [HPK.out];rfl)
   clear HPK HFK
   have hkeep:Blk w8 kb (k.h.cells (.slice AK k.ks.len cK) (.slice AK2 k.ss.length cK2)) 25∧True:=⟨HKB8.out,trivial⟩
   have hkeepd:Blk w8.drew kb (k.h.cells (.slice AK k.ks.len cK) (.slice AK2 k.ss.length cK2)) 25∧True:=⟨HKB8.out,trivial⟩
   have CK2:=hide CK.out
   have d10d:w8.drew.cell? ⟨xb,xo+10,none⟩=some (.slice Ak x.ks.len ck):=d10
   have hbel8d:Below w.heap.size w w8.drew:=hbel8.drew
   have HX1:=hide (HROW.out.one)
   have hz8:=hbc8.size
   have hwc8:=hbel6.size
   have HO8:=hide (below_row' HOWN.out hbc8)
   have HX8:=hide (Blk.below hbc8 HBx.out)
   have hxb8:xb < w8.heap.size:=HX8.out.lt
   have hkb8:kb < w8.heap.size:=HKB8.out.lt
   have hr8:r < w8.heap.size:=(Blk.below hbc8 HR6.out).lt
   go_upto_region 12 with fail
   refine wp_region_noPanic ?_
   refine wp_region_held_drew (S:=(fun z=>Blk z kb (k.h.cells (.slice AK k.ks.len cK) (.slice AK2 k.ss.length cK2)) 25∧True)) (by kernel_rfl) kp (fun hHeld=>?_)
   refine tkZ 0 ⟨some 49,.move (.tmp 8),64, "sourcetree.go:271",#[],none⟩ ?_
   refine tkZ 1 ⟨some 50,.move (.tmp 8),64, "sourcetree.go:271",#[],none⟩ ?_
   refine tkZ 2 ⟨some 51,.nilCheck (.tmp 50),0, "sourcetree.go:271",#[⟨1,.data⟩],none⟩ ?_
   refine tkZ 3 ⟨some 52,.fieldAddr 25 (.tmp 51) 10,0, "sourcetree.go:271",#[⟨2,.data⟩],none⟩ ?_
   refine tkZ 5 ⟨some 54,.move (.tmp 9),3, "sourcetree.go:271",#[],none⟩ ?_
   refine tkZ 6 ⟨some 55,.load 25 (.tmp 5),25, "sourcetree.go:271",#[],none⟩ ?_ (by intro w hSw;(try dsimp only at hSw);refine(exec_load_row 25 (.tmp 5) (by rfl) kb (by rfl) 25 (k.h.cells (.slice AK k.ks.len cK) (.slice AK2 k.ss.length cK2)) (0,0) _ hSw.1 Tryz.underlying25 (by rfl) (infN rfl)).trans ?_;with_reducible rfl)
   refine rqS [4,7] (rqC ⟨some 53,.load 22 (.tmp 52),22, "sourcetree.go:271",#[⟨3,.data⟩],none⟩ (fun K hK=>?_) (rqC ⟨some 56,.call ⟨.value (.func 64),#[.tmp 55],#[25]⟩,25, "sourcetree.go:271",#[⟨6,.data⟩],none⟩ (fun K hK=>?_) rq0))
   focus
    go_simp
    refine hK.out _ _ kp (fun hHeld=>?_)
    clear hK K
    try simp only [PT]
    refine rqS [7] (rqC ⟨some 56,.call ⟨.value (.func 64),#[.tmp 55],#[25]⟩,25, "sourcetree.go:271",#[⟨6,.data⟩],none⟩ (fun K hK=>?_) rq0)
    go_simp
    (go_at_call 64;(with_reducible refine(CK2.out _ (HVK.out.own_below hbel8d)).mono ?_);rintro e w10 ⟨r10,rfl,⟨kvk,svk,OK,rfl,hsk,hkk,hOk⟩,hb10⟩;obtain⟨AL,cL,rfl⟩:=hkk.slice;obtain⟨AM,cM,rfl⟩:=own_slice hsk;have hb810:Below w8.heap.size w8 w10:=(Below.refl w8.heap.size w8).drew.trans hb10;have d10b:w10.cell? ⟨xb,xo+10,none⟩=some (.slice Ak x.ks.len ck):=(hb10.cell (p:=⟨xb,xo+10,none⟩) (cell_lt d10d)).trans d10d;have hkeep10:Blk w10 kb (k.h.cells (.slice AK k.ks.len cK) (.slice AK2 k.ss.length cK2)) 25∧True:=⟨Blk.below hb10 hkeepd.1,trivial⟩)
    go_wp2_with fail
    refine hK.out _ _ kp (fun hHeld=>?_)
    clear hK K
    try simp only [PT]
    refine rqS [8] (rqC ⟨some 57,.buildSlice 22 1 #[(0,.tmp 56)],22, "sourcetree.go:271",#[⟨7,.data⟩],none⟩ (fun K hK=>?_) rq0)
    refine step_buildNode (by rfl) (.tmp 56) (by rfl) k.h (.slice AL k.ks.len cL) (.slice AM k.ss.length cM) (by rfl) ?_;have hb811:Below w8.heap.size w8 (w10.alloc (.cells (k.h.cells (.slice AL k.ks.len cL) (.slice AM k.ss.length cM)) 25)):=hb810.alloc hb810.size _;have HV11:=hide (show Blk (w10.alloc (.cells (k.h.cells (.slice AL k.ks.len cL) (.slice AM k.ss.length cM)) 25)) w10.heap.size (k.h.cells (.slice AL k.ks.len cL) (.slice AM k.ss.length cM)) 25 from Blk.newAt rfl);have hz11:(w10.alloc (.cells (k.h.cells (.slice AL k.ks.len cL) (.slice AM k.ss.length cM)) 25)).heap.size=w10.heap.size+1:=World.size_alloc ..;have hs11:=own_keep hsk fun q cs _ hq=>(StrK.below ((Below.refl w10.heap.size w10).alloc (Nat.le_refl _) (.cells (k.h.cells (.slice AL k.ks.len cL) (.slice AM k.ss.length cM)) 25))) q cs _ hq;have hk11:=hkk.below ((Below.refl w10.heap.size w10).alloc (Nat.le_refl _) (.cells (k.h.cells (.slice AL k.ks.len cL) (.slice AM k.ss.length cM)) 25));have hkeep11:Blk (w10.alloc (.cells (k.h.cells (.slice AL k.ks.len cL) (.slice AM k.ss.length cM)) 25)) kb (k.h.cells (.slice AK k.ks.len cK) (.slice AK2 k.ss.length cK2)) 25∧True:=⟨hkeep10.1.alloc _,trivial⟩;have d11:=cell_alloc_some d10b (.cells (k.h.cells (.slice AL k.ks.len cL) (.slice AM k.ss.length cM)) 25);obtain⟨w11,hw11⟩:∃w11,w11=(w10.alloc (.cells (k.h.cells (.slice AL k.ks.len cL) (.slice AM k.ss.length cM)) 25)):=⟨_,rfl⟩;rw [←hw11] at hb811 HV11 hz11 hkeep11 hs11 hk11 d11;rw [←hw11];clear hw11;have hz811:=hb811.size;have hvb11:(Value.slice Ak x.ks.len ck).ownBlock≠some w10.heap.size:=(fun e=>(by have h1:=(HO8.out.lt _ e).2;have h2:=hb810.size;omega));have hlo11:w.heap.size≤w11.heap.size:=(by have h1:=hb811.size;omega)
    refine hK.out _ _ kp (fun hHeld=>?_)
    clear hK K
    try simp only [PT]
    refine rqS [9] (rqC ⟨some 58,.call ⟨.value (.func 74),#[.tmp 53,.tmp 54,.tmp 57],#[22,3,22]⟩,22, "sourcetree.go:271",#[⟨4,.data⟩,⟨5,.data⟩,⟨8,.data⟩,⟨7,.chain⟩],none⟩ (fun K hK=>?_) rq0)
    go_simp
    (go_at_call 74;(with_reducible refine(insert_any w.heap.size (.slice Ak x.ks.len ck) x.ks.len i xk w10.heap.size (k.h.cells (.slice AL k.ks.len cL) (.slice AM k.ss.length cM)) w11 (below_row' HO8.out hb811) HX1.out hlow (by omega) HV11.out rfl (fun u hu=>List.all_eq_true.1 ((Array.all_toList ..).trans (nodeLit k.h AL k.ks.len cL AM k.ss.length cM)) u hu) hvb11 hlo11).mono ?_);rintro e w12b ⟨r12,rfl,hown12,hr12,hf12⟩;obtain⟨A12,c12,rfl⟩:=own_slice hown12;have HX12:=hide (hf12.blk (Blk.below hb811 HX8.out) (fun e=>(HOJ.out xb e).2.1 rfl));have f12:=HX12.out.free (xo+10);have e12:w12b.cell? ⟨xb,xo+10,none⟩=some (.slice Ak x.ks.len ck):=(World.cell?_of_block (hf12.block xb (by omega) (fun e=>(HOJ.out xb e).2.1 rfl))).trans d11;have hkeep12:Blk w12b kb (k.h.cells (.slice AK k.ks.len cK) (.slice AK2 k.ss.length cK2)) 25∧True:=⟨hf12.blk hkeep11.1 (fun e=>(HOJ.out kb e).2.2.2.2.1 rfl),trivial⟩)
    go_wp2_with fail
    refine hK.out _ _ kp (fun hHeld=>?_)
    clear hK K
    try simp only [PT]
    refine tkZ 10 ⟨some 59,.nilCheck (.tmp 49),0, "sourcetree.go:271",(phs [⟨0,.data⟩] 10),none⟩ ?_
    refine tkZ 11 ⟨some 60,.fieldAddr 25 (.tmp 59) 10,0, "sourcetree.go:271",(phs [⟨10,.data⟩] 10),none⟩ ?_
    refine rqS [12] (rqC ⟨none,.store 22 (.tmp 60) (.tmp 58),0, "sourcetree.go:271",(phs [⟨11,.data⟩,⟨9,.data⟩,⟨9,.chain⟩] 10),none⟩ (fun K hK=>?_) rq0)
    go_simp;have hkeep13:Blk (w12b.setCell ⟨xb,xo+10,none⟩ (.slice A12 (x.ks.len+1) c12)) kb (k.h.cells (.slice AK k.ks.len cK) (.slice AK2 k.ss.length cK2)) 25∧True:=⟨Blk.other (fun e=>hxk e.symm) hkeep12.1,trivial⟩
    refine hK.out _ _ kp (fun hHeld=>?_)
    clear hK K
    try simp only [PT]
    refine wpAnyH_done (by kernel_rfl) ?_ _
    refine NoPanic.normal ?_
   rotate_left 1
   focus
    go_simp
    (go_at_call 64;(with_reducible refine(CK2.out _ (HVK.out.own_below hbel8d)).mono ?_);rintro e w10 ⟨r10,rfl,⟨kvk,svk,OK,rfl,hsk,hkk,hOk⟩,hb10⟩;obtain⟨AL,cL,rfl⟩:=hkk.slice;obtain⟨AM,cM,rfl⟩:=own_slice hsk;have hb810:Below w8.heap.size w8 w10:=(Below.refl w8.heap.size w8).drew.trans hb10;have d10b:w10.cell? ⟨xb,xo+10,none⟩=some (.slice Ak x.ks.len ck):=(hb10.cell (p:=⟨xb,xo+10,none⟩) (cell_lt d10d)).trans d10d;have hkeep10:Blk w10 kb (k.h.cells (.slice AK k.ks.len cK) (.slice AK2 k.ss.length cK2)) 25∧True:=⟨Blk.below hb10 hkeepd.1,trivial⟩)
    go_wp2_with fail
    refine hK.out _ _ kp (fun hHeld=>?_)
    clear hK K
    try simp only [PT]
    refine rqS [4,8] (rqC ⟨some 53,.load 22 (.tmp 52),22, "sourcetree.go:271",#[⟨3,.data⟩],none⟩ (fun K hK=>?_) (rqC ⟨some 57,.buildSlice 22 1 #[(0,.tmp 56)],22, "sourcetree.go:271",#[⟨7,.data⟩],none⟩ (fun K hK=>?_) rq0))
    focus
     go_simp
     refine hK.out _ _ kp (fun hHeld=>?_)
     clear hK K
     try simp only [PT]
     refine rqS [8] (rqC ⟨some 57,.buildSlice 22 1 #[(0,.tmp 56)],22, "sourcetree.go:271",#[⟨7,.data⟩],none⟩ (fun K hK=>?_) rq0)
     refine step_buildNode (by rfl) (.tmp 56) (by rfl) k.h (.slice AL k.ks.len cL) (.slice AM k.ss.length cM) (by rfl) ?_;have hb811:Below w8.heap.size w8 (w10.alloc (.cells (k.h.cells (.slice AL k.ks.len cL) (.slice AM k.ss.length cM)) 25)):=hb810.alloc hb810.size _;have HV11:=hide (show Blk (w10.alloc (.cells (k.h.cells (.slice AL k.ks.len cL) (.slice AM k.ss.length cM)) 25)) w10.heap.size (k.h.cells (.slice AL k.ks.len cL) (.slice AM k.ss.length cM)) 25 from Blk.newAt rfl);have hz11:(w10.alloc (.cells (k.h.cells (.slice AL k.ks.len cL) (.slice AM k.ss.length cM)) 25)).heap.size=w10.heap.size+1:=World.size_alloc ..;have hs11:=own_keep hsk fun q cs _ hq=>(StrK.below ((Below.refl w10.heap.size w10).alloc (Nat.le_refl _) (.cells (k.h.cells (.slice AL k.ks.len cL) (.slice AM k.ss.length cM)) 25))) q cs _ hq;have hk11:=hkk.below ((Below.refl w10.heap.size w10).alloc (Nat.le_refl _) (.cells (k.h.cells (.slice AL k.ks.len cL) (.slice AM k.ss.length cM)) 25));have hkeep11:Blk (w10.alloc (.cells (k.h.cells (.slice AL k.ks.len cL) (.slice AM k.ss.length cM)) 25)) kb (k.h.cells (.slice AK k.ks.len cK) (.slice AK2 k.ss.length cK2)) 25∧True:=⟨hkeep10.1.alloc _,trivial⟩;have d11:=cell_alloc_some d10b (.cells (k.h.cells (.slice AL k.ks.len cL) (.slice AM k.ss.length cM)) 25);obtain⟨w11,hw11⟩:∃w11,w11=(w10.alloc (.cells (k.h.cells (.slice AL k.ks.len cL) (.slice AM k.ss.length cM)) 25)):=⟨_,rfl⟩;rw [←hw11] at hb811 HV11 hz11 hkeep11 hs11 hk11 d11;rw [←hw11];clear hw11;have hz811:=hb811.size;have hvb11:(Value.slice Ak x.ks.len ck).ownBlock≠some w10.heap.size:=(fun e=>(by have h1:=(HO8.out.lt _ e).2;have h2:=hb810.size;omega));have hlo11:w.heap.size≤w11.heap.size:=(by have h1:=hb811.size;omega)
     refine hK.out _ _ kp (fun hHeld=>?_)
     clear hK K
     try simp only [PT]
     refine rqS [9] (rqC ⟨some 58,.call ⟨.value (.func 74),#[.tmp 53,.tmp 54,.tmp 57],#[22,3,22]⟩,22, "sourcetree.go:271",#[⟨4,.data⟩,⟨5,.data⟩,⟨8,.data⟩,⟨7,.chain⟩],none⟩ (fun K hK=>?_) rq0)
     go_simp
     (go_at_call 74;(with_reducible refine(insert_any w.heap.size (.slice Ak x.ks.len ck) x.ks.len i xk w10.heap.size (k.h.cells (.slice AL k.ks.len cL) (.slice AM k.ss.length cM)) w11 (below_row' HO8.out hb811) HX1.out hlow (by omega) HV11.out rfl (fun u hu=>List.all_eq_true.1 ((Array.all_toList ..).trans (nodeLit k.h AL k.ks.len cL AM k.ss.length cM)) u hu) hvb11 hlo11).mono ?_);rintro e w12b ⟨r12,rfl,hown12,hr12,hf12⟩;obtain⟨A12,c12,rfl⟩:=own_slice hown12;have HX12:=hide (hf12.blk (Blk.below hb811 HX8.out) (fun e=>(HOJ.out xb e).2.1 rfl));have f12:=HX12.out.free (xo+10);have e12:w12b.cell? ⟨xb,xo+10,none⟩=some (.slice Ak x.ks.len ck):=(World.cell?_of_block (hf12.block xb (by omega) (fun e=>(HOJ.out xb e).2.1 rfl))).trans d11;have hkeep12:Blk w12b kb (k.h.cells (.slice AK k.ks.len cK) (.slice AK2 k.ss.length cK2)) 25∧True:=⟨hf12.blk hkeep11.1 (fun e=>(HOJ.out kb e).2.2.2.2.1 rfl),trivial⟩)
     go_wp2_with fail
     refine hK.out _ _ kp (fun hHeld=>?_)
     clear hK K
     try simp only [PT]
     refine tkZ 10 ⟨some 59,.nilCheck (.tmp 49),0, "sourcetree.go:271",(phs [⟨0,.data⟩] 10),none⟩ ?_
     refine tkZ 11 ⟨some 60,.fieldAddr 25 (.tmp 59) 10,0, "sourcetree.go:271",(phs [⟨10,.data⟩] 10),none⟩ ?_
     refine rqS [12] (rqC ⟨none,.store 22 (.tmp 60) (.tmp 58),0, "sourcetree.go:271",(phs [⟨11,.data⟩,⟨9,.data⟩,⟨9,.chain⟩] 10),none⟩ (fun K hK=>?_) rq0)
     go_simp;have hkeep13:Blk (w12b.setCell ⟨xb,xo+10,none⟩ (.slice A12 (x.ks.len+1) c12)) kb (k.h.cells (.slice AK k.ks.len cK) (.slice AK2 k.ss.length cK2)) 25∧True:=⟨Blk.other (fun e=>hxk e.symm) hkeep12.1,trivial⟩
     refine hK.out _ _ kp (fun hHeld=>?_)
     clear hK K
     try simp only [PT]
     refine wpAnyH_done (by kernel_rfl) ?_ _
     refine NoPanic.normal ?_
    rotate_left 1
    focus
     refine step_buildNode (by rfl) (.tmp 56) (by rfl) k.h (.slice AL k.ks.len cL) (.slice AM k.ss.length cM) (by rfl) ?_;have hb811:Below w8.heap.size w8 (w10.alloc (.cells (k.h.cells (.slice AL k.ks.len cL) (.slice AM k.ss.length cM)) 25)):=hb810.alloc hb810.size _;have HV11:=hide (show Blk (w10.alloc (.cells (k.h.cells (.slice AL k.ks.len cL) (.slice AM k.ss.length cM)) 25)) w10.heap.size (k.h.cells (.slice AL k.ks.len cL) (.slice AM k.ss.length cM)) 25 from Blk.newAt rfl);have hz11:(w10.alloc (.cells (k.h.cells (.slice AL k.ks.len cL) (.slice AM k.ss.length cM)) 25)).heap.size=w10.heap.size+1:=World.size_alloc ..;have hs11:=own_keep hsk fun q cs _ hq=>(StrK.below ((Below.refl w10.heap.size w10).alloc (Nat.le_refl _) (.cells (k.h.cells (.slice AL k.ks.len cL) (.slice AM k.ss.length cM)) 25))) q cs _ hq;have hk11:=hkk.below ((Below.refl w10.heap.size w10).alloc (Nat.le_refl _) (.cells (k.h.cells (.slice AL k.ks.len cL) (.slice AM k.ss.length cM)) 25));have hkeep11:Blk (w10.alloc (.cells (k.h.cells (.slice AL k.ks.len cL) (.slice AM k.ss.length cM)) 25)) kb (k.h.cells (.slice AK k.ks.len cK) (.slice AK2 k.ss.length cK2)) 25∧True:=⟨hkeep10.1.alloc _,trivial⟩;have d11:=cell_alloc_some d10b (.cells (k.h.cells (.slice AL k.ks.len cL) (.slice AM k.ss.length cM)) 25);obtain⟨w11,hw11⟩:∃w11,w11=(w10.alloc (.cells (k.h.cells (.slice AL k.ks.len cL) (.slice AM k.ss.length cM)) 25)):=⟨_,rfl⟩;rw [←hw11] at hb811 HV11 hz11 hkeep11 hs11 hk11 d11;rw [←hw11];clear hw11;have hz811:=hb811.size;have hvb11:(Value.slice Ak x.ks.len ck).ownBlock≠some w10.heap.size:=(fun e=>(by have h1:=(HO8.out.lt _ e).2;have h2:=hb810.size;omega));have hlo11:w.heap.size≤w11.heap.size:=(by have h1:=hb811.size;omega)
     refine hK.out _ _ kp (fun hHeld=>?_)
     clear hK K
     try simp only [PT]
     refine rqS [4] (rqC ⟨some 53,.load 22 (.tmp 52),22, "sourcetree.go:271",#[⟨3,.data⟩],none⟩ (fun K hK=>?_) rq0)
     go_simp
     refine hK.out _ _ kp (fun hHeld=>?_)
     clear hK K
     try simp only [PT]
     refine rqS [9] (rqC ⟨some 58,.call ⟨.value (.func 74),#[.tmp 53,.tmp 54,.tmp 57],#[22,3,22]⟩,22, "sourcetree.go:271",#[⟨4,.data⟩,⟨5,.data⟩,⟨8,.data⟩,⟨7,.chain⟩],none⟩ (fun K hK=>?_) rq0)
     go_simp
     (go_at_call 74;(with_reducible refine(insert_any w.heap.size (.slice Ak x.ks.len ck) x.ks.len i xk w10.heap.size (k.h.cells (.slice AL k.ks.len cL) (.slice AM k.ss.length cM)) w11 (below_row' HO8.out hb811) HX1.out hlow (by omega) HV11.out rfl (fun u hu=>List.all_eq_true.1 ((Array.all_toList ..).trans (nodeLit k.h AL k.ks.len cL AM k.ss.length cM)) u hu) hvb11 hlo11).mono ?_);rintro e w12b ⟨r12,rfl,hown12,hr12,hf12⟩;obtain⟨A12,c12,rfl⟩:=own_slice hown12;have HX12:=hide (hf12.blk (Blk.below hb811 HX8.out) (fun e=>(HOJ.out xb e).2.1 rfl));have f12:=HX12.out.free (xo+10);have e12:w12b.cell? ⟨xb,xo+10,none⟩=some (.slice Ak x.ks.len ck):=(World.cell?_of_block (hf12.block xb (by omega) (fun e=>(HOJ.out xb e).2.1 rfl))).trans d11;have hkeep12:Blk w12b kb (k.h.cells (.slice AK k.ks.len cK) (.slice AK2 k.ss.length cK2)) 25∧True:=⟨hf12.blk hkeep11.1 (fun e=>(HOJ.out kb e).2.2.2.2.1 rfl),trivial⟩)
     go_wp2_with fail
     refine hK.out _ _ kp (fun hHeld=>?_)
     clear hK K
     try simp only [PT]
     refine tkZ 10 ⟨some 59,.nilCheck (.tmp 49),0, "sourcetree.go:271",(phs [⟨0,.data⟩] 10),none⟩ ?_
     refine tkZ 11 ⟨some 60,.fieldAddr 25 (.tmp 59) 10,0, "sourcetree.go:271",(phs [⟨10,.data⟩] 10),none⟩ ?_
     refine rqS [12] (rqC ⟨none,.store 22 (.tmp 60) (.tmp 58),0, "sourcetree.go:271",(phs [⟨11,.data⟩,⟨9,.data⟩,⟨9,.chain⟩] 10),none⟩ (fun K hK=>?_) rq0)
     go_simp;have hkeep13:Blk (w12b.setCell ⟨xb,xo+10,none⟩ (.slice A12 (x.ks.len+1) c12)) kb (k.h.cells (.slice AK k.ks.len cK) (.slice AK2 k.ss.length cK2)) 25∧True:=⟨Blk.other (fun e=>hxk e.symm) hkeep12.1,trivial⟩
     refine hK.out _ _ kp (fun hHeld=>?_)
     clear hK K
     try simp only [PT]
     refine wpAnyH_done (by kernel_rfl) ?_ _
     refine NoPanic.normal ?_
    rotate_left 1
   rotate_left 2
   all_goals
    go_wp2_with fail
    go_meet
    rw [HPK2.out]
    have e8:w8.drew.heap.size=w8.heap.size:=rfl
    rw [e8] at hs11 hk11 hOk
    have hfs:FrO (fun j=>j=xb) w12b (w12b.setCell ⟨xb,xo+10,none⟩ (.slice A12 (x.ks.len+1) c12)):=FrO.set rfl
    have hbc11:=hbc8.trans (hb811.mono hz8)
    have hz12:=hf12.size
    have ho11:=below_row' HO8.out hb811
    have hSK12:StrK w11 w12b:=StrK.of hf12 (fun j cs fr h=>own_notStr ho11 h cs fr)
    have hSKs:StrK w12b (w12b.setCell ⟨xb,xo+10,none⟩ (.slice A12 (x.ks.len+1) c12)):=StrK.of hfs (fun j cs fr h=>by subst h;exact HX12.out.notStr cs fr)
    have hnx:(Value.slice A12 (x.ks.len+1) c12).ownBlock≠some xb:=fun e=>(hr12 xb e).elim (fun h=>(HOJ.out xb h).2.1 rfl) (fun h=>by omega)
    have hnr:∀q,(Value.slice A12 (x.ks.len+1) c12).ownBlock=some q→¬q=r:=fun q e h=>(hr12 q e).elim (fun h2=>(HOJ.out q h2).2.2.2.1 h) (fun h2=>by omega)
    have hlt8:∀q,(Value.slice Ak x.ks.len ck).ownBlock=some q→q < w8.heap.size:=fun q e=>(HO8.out.lt q e).2
    refine FIN.out _ (.slice A12 (x.ks.len+1) c12) _ (((FrO.of (O:=fun j=>(Value.slice Ak x.ks.len ck).ownBlock=some j∨j=xb) hbc11).trans hf12 (fun j h=>Or.inl (Or.inl h))).trans hfs (fun j h=>Or.inl (Or.inr h))) (HX12.out.put rfl) (fun w' hfr' hSKz hSK hOkk=>?_)
    refine KidR.of_row (n:=x.ks.len+1) (Fo.insAt_len _ _ _).symm (Nat.le_refl _) (own_fr hfr' (own_set hown12 hnx) hnr) (RowR.ins (StR.of_own (Nat.le_refl _) (own_keep (own_keep (own_keep hs11 fun q cs _ hq=>hSK12 q cs _ hq) fun q cs _ hq=>hSKs q cs _ hq) fun q cs _ hq=>hSKz q cs _ hq)) (KidS.read (Nat.le_refl _) (((hk11.frame hSK12 fun j hj ho=>hf12.block j hj (fun e=>by have:=(hOk j ho).1;have:=hlt8 j e;omega)).frame hSKs fun j hj ho=>hfs.block j hj (fun e=>by have:=(hOk j ho).1;omega)).frame hSKz fun j hj ho=>hfr'.block j hj (fun e=>by have:=(hOk j ho).1;omega))) i hlow ((HROW.out.frame hSK hOkk).read (Nat.le_refl _)))
 case rest=>
 clear HROW HOWN
 obtain⟨A7,c7,A8,c8,hBt,hRt,hZt,hbz⟩:=hcut
 have htr:(updT (partsP p) t (putK x.ks k)).sz≤60000:=by
  have h1:=updT_sz (f:=putK x.ks k) HFD.out
  have h2:=putK_sz x.ks k
  omega
 clear FIN
 have HGO3:=hide HGO.out
 clear HGO
 generalize updT (partsP p) t (putK x.ks k)=tr at *
 have HBt:=hide hBt
 have HRt:=hide hRt
 have HZt:=hide hZt
 have CH:=hide (check_any tr (Or.inl htr) _ wc (HTW.out.below hbz) (HRt.out wc (FrO.of (Below.refl _ _))))
 clear hBt hRt hZt
 by_cases hce:(checkT tr).2=0
 case neg=>
  have HZ:=hide (show putQ t p k=(Tr.zero,(checkT tr).2) by rw [HGO3.out,if_pos hce])
  have q3:((checkT tr).2 != 0)=true:=by simpa using hce
  have HCE:=hide hce
  clear hce HGO3
  generalize (checkT tr).2=ce at *
  generalize (checkT tr).1=cp at *
  go_wp2_with (first | (refine wpList_load_row rfl 25 (.tmp 3) rfl b rfl 25 (tr.h.cells (.slice A7 tr.ks.len c7) (.slice A8 tr.ss.length c8)) (0,0) _ HBt.out Tryz.underlying25 rfl (infN rfl) ?_) | (go_at_call 14;refine CH.out.mono ?_;rintro e w14 ⟨rfl,hb14⟩;have HR14:=hide (Blk.below hb14 HZt.out)) | (refine wpList_build_is rfl 25 #[] rfl [] (by simp) _ BZ.out ?_) | (refine wpList_store_row rfl 25 (.tmp 6) (.tmp 68) rfl r zeroN rfl rfl 25 zeroN HR14.out (infN rfl) rfl (by kernel_rfl) ?_))
  have hbel14:=hbz.trans (hb14.mono hbz.size)
  refine bodyPost_ret (results_cell2 rfl _ _ r 25 zeroN (0,0) _ rfl (setRow_heap _ _ _ _ _ _ HR14.out) (.int .i64 ce) rfl Tryz.underlying25 rfl (infN rfl)) rfl ?_
  exact⟨_,by rw [HZ.out],by rw [HZ.out];exact zero_reads _ _,hbel14.trans ((FrO.setRow (O:=fun j=>j=r) rfl).below hbel14.size fun j hj=>by subst hj;exact hwr)⟩
 case pos=>
  have HZ:=hide (show putQ t p k=(tr,0) by rw [HGO3.out,if_neg (fun h=>h hce)])
  have q3:((checkT tr).2 != 0)=false:=by rw [hce];rfl
  have HCE:=hide hce
  clear hce HGO3
  generalize (checkT tr).2=ce at *
  generalize (checkT tr).1=cp at *
  go_wp2_with (first | (refine wpList_load_row rfl 25 (.tmp 3) rfl b rfl 25 (tr.h.cells (.slice A7 tr.ks.len c7) (.slice A8 tr.ss.length c8)) (0,0) _ HBt.out Tryz.underlying25 rfl (infN rfl) ?_) | (go_at_call 14;refine CH.out.mono ?_;rintro e w14 ⟨rfl,hb14⟩;have HR14:=hide (Blk.below hb14 HZt.out);have HB14:=hide (Blk.below hb14 HBt.out)) | (refine wpList_load_row rfl 25 (.tmp 3) rfl b rfl 25 (tr.h.cells (.slice A7 tr.ks.len c7) (.slice A8 tr.ss.length c8)) (0,0) _ HB14.out Tryz.underlying25 rfl (infN rfl) ?_) | (refine wpList_store_row rfl 25 (.tmp 6) (.tmp 70) rfl r (tr.h.cells (.slice A7 tr.ks.len c7) (.slice A8 tr.ss.length c8)) rfl rfl 25 zeroN HR14.out (infN rfl) rfl (nodeLit _ _ _ _ _ _ _) ?_))
  have hbel14:=hbz.trans (hb14.mono hbz.size)
  refine bodyPost_ret (results_cell2 rfl _ _ r 25 (tr.h.cells (.slice A7 tr.ks.len c7) (.slice A8 tr.ss.length c8)) (0,0) _ rfl (setRow_heap _ _ _ _ _ _ HR14.out) (.int .i64 0) rfl Tryz.underlying25 rfl (infN rfl)) rfl ?_
  have hfs:FrO (fun j=>j=r) w14 (w14.setRow r (tr.h.cells (.slice A7 tr.ks.len c7) (.slice A8 tr.ss.length c8))):=FrO.setRow rfl
  have hff:FrO (fun j=>j=r) wc (w14.setRow r (tr.h.cells (.slice A7 tr.ks.len c7) (.slice A8 tr.ss.length c8))):=(FrO.of (O:=fun j=>j=r) hb14).trans hfs (fun j h=>Or.inl h)
  exact⟨_,by rw [HZ.out],by rw [HZ.out];exact HRt.out _ hff,hbel14.trans (hfs.below hbel14.size fun j hj=>by subst hj;exact hwr)⟩
end Go.Proofs.YtlhakdildbplkaaGreatDoor
