/- Part of the claim: its words. -/
import Derived.Test.YtlhakdildbplkaaGreatDoorG20
set_option maxRecDepth 100000
set_option maxHeartbeats 4000000
namespace Go.Proofs.YtlhakdildbplkaaGreatDoor
set_option linter.unusedSimpArgs false
set_option linter.unusedVariables false
open Go.RowKit
def wid (st:List Tr):Nat:=(st.map fun t=>t.ks.len+1).sum
theorem wid_len (st:List Tr):st.length≤wid st:=by
 induction st with
 | nil=>exact Nat.zero_le _
 | cons t r ih=>
  show r.length+1≤wid (t :: r)
  unfold wid at *
  rw [List.map_cons,List.sum_cons]
  omega
theorem wid_pop (st:List Tr):wid (popS st)≤wid st:=by
 unfold wid
 match st with
 | []=>exact Nat.le_refl _
 | [a]=>exact Nat.le_refl _
 | a :: bt :: r=>
  simp only [popS,List.map_cons,List.sum_cons]
  rw [Fo.len_app]
  show bt.ks.len+1+1+_≤_
  omega
theorem wid_leave (k:Nat):∀(n:Nat) (st:List Tr),wid (leaveS k n st)≤wid st
 | 0,_=>Nat.le_refl _
 | n+1,st=>by
  rw [leaveS]
  split
  ·exact Nat.le_trans (wid_leave k n _) (wid_pop st)
  ·exact Nat.le_refl _
theorem set_mid (x0 B C:List Value) (i:Nat) (v:Value) (h:i < B.length):(x0++B++C).set (x0.length+i) v=x0++B.set i v++C:=by
 rw [List.append_assoc,List.append_assoc,List.set_append_right _ _ (by omega),Nat.add_sub_cancel_left,List.set_append_left _ _ h]
theorem fillA (c0 c1 c2 c3 c4 c5 c6 c7 c8 c9 c10 c11:Value):Instr.fill (fun i=>some (i*12,12)) ((Array.range (1*12)).map ((Value.agg #[.string ByteArray.empty,.int .i64 0,.string ByteArray.empty,.string ByteArray.empty,.int .i64 0,.int .i64 0,.int .i64 0,.int .i64 0,.int .i64 0,.int .i64 0,.slice none 0 0,.slice none 0 0]).cells[· % (Value.agg #[.string ByteArray.empty,.int .i64 0,.string ByteArray.empty,.string ByteArray.empty,.int .i64 0,.int .i64 0,.int .i64 0,.int .i64 0,.int .i64 0,.int .i64 0,.slice none 0 0,.slice none 0 0]).cells.size]!)) [(0,.agg (#[c0,c1,c2,c3,c4,c5,c6,c7,c8,c9,c10,c11]))]=some (#[c0,c1,c2,c3,c4,c5,c6,c7,c8,c9,c10,c11]):=by kernel_rfl
theorem step_buildNodeA {ops:Array Oper} {o:Oper} {a:Act} {w:World} {K:Act→World→Prop} {Q:Exit→Act→World→Prop} {E:Prop} (hgd:o.guard=none) (x:Operand) (ho:o.op=.buildSlice 22 1 #[(0,x)]) (AC:Array Value) (hz:AC.size=12) (hx:a.eval x=.agg AC)
  (hK:K (a.put o.dst (.slice (some ⟨w.heap.size,0,none⟩) 1 1)) (w.alloc (.cells AC 25))):if Region.wanted o (yielded ops a.tmps)=true then Oper.wp Tryz.prog o a w K Q else E:=by
 have hw:Region.wanted o (yielded ops a.tmps)=true:=by simp [Region.wanted,hgd]
 rw [if_pos hw]
 obtain⟨L⟩:=AC
 obtain⟨c0,c1,c2,c3,c4,c5,c6,c7,c8,c9,c10,c11,rfl⟩:∃c0 c1 c2 c3 c4 c5 c6 c7 c8 c9 c10 c11,L=[c0,c1,c2,c3,c4,c5,c6,c7,c8,c9,c10,c11]:=by
  match L,hz with
  | [c0,c1,c2,c3,c4,c5,c6,c7,c8,c9,c10,c11],_=>exact⟨c0,c1,c2,c3,c4,c5,c6,c7,c8,c9,c10,c11,rfl⟩
 obtain⟨i,hi,hz0,hz1,hz2⟩:=info_parts nodeInfo
 refine wp_buildSlice 22 25 1 _ ho _ i _ Tryz.underlying22 hi hz0 (by rw [hz1];omega) (by rw [hz1];omega) ?_ hK
 rw [hz1]
 have e:(#[(0,x)].map fun (i,x)=>(i,a.eval x)).toList=[(0,Value.agg #[c0,c1,c2,c3,c4,c5,c6,c7,c8,c9,c10,c11])]:=by
  rw [←hx];simp
 rw [e]
 exact fillA c0 c1 c2 c3 c4 c5 c6 c7 c8 c9 c10 c11
theorem wpList_store_midA {P:Program} {ops:Array Oper} {rest:List Oper} {o:Oper} {a:Act} {w:World} {Q:Exit→Act→World→Prop} (hgd:o.guard=none) (ty:TypeId) (x y:Operand) (ho:o.op=.store ty x y)
  (b q:Nat) (cells:Array Value) (hx:a.eval x=.pointer (some ⟨b,q,none⟩)) (hy:a.eval y=.agg cells)
  (ht:w.there b q cells.size) (hi:(P.info? ty).map (·.size)=some cells.size) (h1:cells.all (·.oneCell')=true)
  (h:wpList P ops Q rest (a.put o.dst undef) (w.setCells b q cells.toList)):wpList P ops Q (o :: rest) a w:=
 wpList_plain hgd fun _ hK=>wp_store_mid ty x y ho b q cells hx hy ht hi h1 (hK _ _ h)
theorem rangeAt_of {w:World} {g o:Nat} {l:List Value} (h:∀j u,l[j]? = some u→w.cell? ⟨g,o+j,none⟩=some u):w.rangeAt g o l:=h
theorem leave_any (lo b k:Nat) (hbl:b < lo) (hk2:k≤1000000):∀(n:Nat) (st:List Tr) (O:Nat→Prop) (w:World),(0 < k∨st.length=0)→lo≤w.heap.size→st.length≤n→n≤1000000→wid st≤1000000→Stk lo b st O w →
  Calls Tryz.prog 90 #[.int .i64 (k:Int),.pointer (some ⟨b,0,none⟩)] w fun e w'=>e=.returned (.tuple #[])∧StkP lo b (leaveS k st.length st) O w w':=by
 intro n st O w hk0 hlo hn hn2 hwd hst
 have HST:=hide hst
 clear hst
 have HL:Live w []:=trivial
 go_enter Tryz.func90,Tryz.ntmps90
 go_wp2_with fail
 go_loopw [3] (fun _ wr=>∃(m:Nat) (s2:List Tr) (O2:Nat→Prop),s2.length≤st.length∧leaveS k m s2=leaveS k st.length st∧s2.length≤m∧wid s2≤1000000∧Stk lo b s2 O2 wr∧(∀j,O2 j→O j∨w.heap.size≤j)∧FrO (fun j=>j=b∨O j) w wr) (fun _ wr=>match wr.cell? ⟨b,0,none⟩ with | some (.slice _ n _)=>n | _=>0)
 case atStart=>exact⟨st.length,st,O,Nat.le_refl _,rfl,Nat.le_refl _,hwd,HST.out,fun j h=>Or.inl h,FrO.of (Below.refl _ _)⟩
 case round=>
  obtain⟨m,s2,O2,hs2,hle,hm,hwd2,hS,hO2,hf⟩:=hrel
  obtain⟨A,c,hc⟩:=hS.len
  have HS:=hide hS
  have HF:=hide hf
  have HO2:=hide hO2
  have HLE:=hide hle
  clear hS hf hO2 HST hle
  by_cases hlt:k < s2.length
  case neg=>
   have hki:¬((k:Int) < (s2.length:Int)):=by omega
   have HE:=hide (show leaveS k m s2=s2 by cases m with
    | zero=>rfl
    | succ m=>rw [leaveS,if_neg hlt])
   go_wp2_with fail
   go_end0
   exact⟨rfl,O2,by rw [←HLE.out,HE.out];exact HS.out,HO2.out,HF.out⟩
  case pos=>
   have hk:0 < k:=by omega
   obtain⟨a,bt,r,rfl⟩:∃a bt r,s2=a :: bt :: r:=by
    cases s2 with
    | nil=>simp at hlt
    | cons a t=>
     cases t with
     | nil=>simp at hlt;omega
     | cons bt r=>exact⟨a,bt,r,rfl⟩
   obtain⟨g,cap,x0,kva,sva,svb,AB,cB,xkb,Okb,hx0,hb,hown,hkb1,hkb2,⟨Aa,na,ca,hkva⟩,⟨As,ns,cs,hsva⟩,⟨At,nt,ct,hsvb⟩,hgne,hOg,hOB,hfin⟩:=Stk.pop hbl HS.out
   subst hkva;subst hsva;subst hsvb
   obtain⟨qq,hqq⟩:∃qq,r.length=qq:=⟨_,rfl⟩
   rw [hqq] at hx0 hb hown hfin
   obtain⟨ll,hll⟩:∃ll,ll=qq+1:=⟨_,rfl⟩
   obtain⟨nn,hnn⟩:∃nn,nn=qq+2:=⟨_,rfl⟩
   rw [←hnn] at hb hown hfin
   rw [←hll] at hfin
   have hsl:(a :: bt :: r).length=nn:=by rw [hnn,←hqq];rfl
   rw [hsl] at hlt hs2 hm
   have hki:(k:Int) < (nn:Int):=by omega
   have e1:(nn:Int) - 1=(ll:Int):=by omega
   have e2:(ll:Int) - 1=(qq:Int):=by omega
   have l1:ll < nn:=by omega
   have l2:qq < nn:=by omega
   have hnl:nn≤1000000:=by omega
   have li1:(ll:Int) < (nn:Int):=by omega
   have li2:(qq:Int) < (nn:Int):=by omega
   have hw1:IntKind.i64.wrap (ll:Int)=(ll:Int):=by rw [IntKind.wrap_i64];omega
   have hw2:IntKind.i64.wrap (qq:Int)=(qq:Int):=by rw [IntKind.wrap_i64];omega
   obtain⟨g',cap',cur,hsg,hlg,hB,hnc,hcm,hcs,hcx⟩:=own_blk hown (by omega)
   injection hsg with hsg1 hsg2 hsg3
   injection hsg1 with hsg1
   injection hsg1 with hsg1
   subst hsg1;subst hsg3
   obtain⟨AC,hAC⟩:∃AC,AC=a.h.cells (.slice Aa na ca) (.slice As ns cs):=⟨_,rfl⟩
   have hACz:AC.size=12:=by rw [hAC];rfl
   have hAC1:AC.all (·.oneCell')=true:=by rw [hAC];exact nodeLit _ _ _ _ _ _ _
   have hxl:(x0++(bt.h.cells (.slice AB bt.ks.len cB) (.slice At nt ct)).toList).length=ll*12:=by rw [List.length_append,hx0,hll];show _+12=_;omega
   have hra:∀j u,AC.toList[j]? = some u→cur[ll*12+j]? = some u:=fun j u hj=>hcx _ _ (by rw [←hxl,List.getElem?_append_right (by omega),Nat.add_sub_cancel_left,←hAC];exact hj)
   have hrb:cur[qq*12+10]? = some (.slice AB bt.ks.len cB):=hcx _ _ (by rw [List.append_assoc,←hx0,List.getElem?_append_right (by omega),Nat.add_sub_cancel_left,List.getElem?_append_left (by show 10 < 12;omega)];rfl)
   have c0:wr.cell? ⟨b,0,none⟩=some (.slice (some ⟨g,0,none⟩) nn cap):=hb.cells 0
   have HC0:=hide c0
   have HB:=hide hb
   have HG:=hide hB
   have HRA:=hide hra
   have HRB:=hide hrb
   have HFIN:=hide hfin
   rw [←hAC] at hown
   have HOWN:=hide hown
   have HKB1:=hide hkb1
   have HXKL:=hide (show xkb.length=bt.ks.len*12 from hkb1.1)
   have HACZ:=hide hACz
   have HAC1:=hide hAC1
   have HAC:=hide hAC
   have HX0:=hide hx0
   have HCS:=hide hcs
   have HEQ:=hide (And.intro hll (And.intro hnn hsl))
   have HM:=hide (And.intro hlt hm)
   have hwb:bt.ks.len≤1000000:=by
    have:a.ks.len+1+(bt.ks.len+1+wid r)≤1000000:=by
     have h:=hwd2
     unfold wid at h ⊢
     rw [List.map_cons,List.map_cons,List.sum_cons,List.sum_cons] at h
     exact h
    omega
   have HWD:=hide hwd2
   have hgw:=hB.lt
   have HKN:=hide (fun (j:Nat) (hj:(Value.slice AB bt.ks.len cB).ownBlock=some j)=>(show lo≤j∧j < wr.heap.size from hkb1.lt j hj))
   have hbg:b≠g:=by omega
   have hgne2:=hide hgne
   have hkbS:=fun j (hj:(Value.slice AB bt.ks.len cB).ownBlock=some j) cs fr=>own_notStr hkb1 hj cs fr
   have HKS:=hide hkbS
   -- what the round leaves,whichever way it went
   have close:∀(wz:World) (A2:Option Addr) (c2:Nat),FrO (fun j=>j=g∨(Value.slice AB bt.ks.len cB).ownBlock=some j) wr wz→wz.ownsRow lo 25 12 (.slice (some ⟨g,0,none⟩) nn cap) nn ((x0++(bt.h.cells (.slice AB bt.ks.len cB) (.slice At nt ct)).toList++AC.toList).set (qq*12+10) (.slice A2 (bt.ks.len+1) c2)) →
     wz.ownsRow lo 25 12 (.slice A2 (bt.ks.len+1) c2) (bt.ks.len+1) (xkb++AC.toList)→(∀j,(Value.slice A2 (bt.ks.len+1) c2).ownBlock=some j→(Value.slice AB bt.ks.len cB).ownBlock=some j∨wr.heap.size≤j) →
     ∃(m:Nat) (s2:List Tr) (O2:Nat→Prop),s2.length≤st.length∧leaveS k m s2=leaveS k st.length st∧s2.length≤m∧wid s2≤1000000∧Stk lo b s2 O2 (wz.setCell ⟨b,0,none⟩ (.slice (some ⟨g,0,none⟩) ll cap))∧(∀j,O2 j→O j∨w.heap.size≤j)∧FrO (fun j=>j=b∨O j) w (wz.setCell ⟨b,0,none⟩ (.slice (some ⟨g,0,none⟩) ll cap)):=by
    intro wz A2 c2 hf h1 h2 h3
    obtain⟨hll,hnn,hsl⟩:=HEQ.out
    obtain⟨hlt,hm⟩:=HM.out
    have hSK:StrK wr wz:=StrK.of hf (fun j cs fr hj=>by
     rcases hj with hj | hj
     ·subst hj;exact HG.out.notStr cs fr
     ·exact HKS.out j hj cs fr)
    have hbz:Blk wz b #[.slice (some ⟨g,0,none⟩) nn cap] 22:=hf.blk HB.out (fun e=>e.elim hbg (fun e=>by have:=(HKN.out b e).1;omega))
    rw [←HX0.out,set_mid _ _ _ 10 _ (by show 10 < 12;omega)] at h1
    rw [HAC.out] at h1 h2
    obtain⟨O3,hst3,hO3,hf3⟩:=HFIN.out wz A2 c2 hf hbz hSK h1 h2 h3
    cases m with
    | zero=>omega
    | succ m=>
     refine⟨m,popS (a :: bt :: r),O3,?_,?_,?_,Nat.le_trans (wid_pop _) HWD.out,hst3,fun j hj=>?_,?_⟩
     ·show r.length+1≤_
      simp only [List.length_cons] at hsl;omega
     ·rw [←HLE.out,leaveS,if_pos (by rw [hsl];exact hlt)]
     ·show r.length+1≤_
      simp only [List.length_cons] at hsl;omega
     ·rcases hO3 j hj with h | h
      ·exact HO2.out j h
      ·exact Or.inr (Nat.le_trans HF.out.size h)
     ·exact HF.out.trans hf3 (fun j hj=>by
       rcases hj with hj | hj
       ·exact Or.inl (Or.inl hj)
       ·exact(HO2.out j hj).elim (fun h=>Or.inl (Or.inr h)) Or.inr)
   have CLOSE:=hide close
   clear close hb hB hra hrb hfin hown hkb1 hkb2 hACz hAC1 hAC hx0 hcs hcx hc hsg2 hxl hll hnn hsl hqq hcm hlt hm hgne hwd2 hkbS
   go_upto_region 2 with fail
   have hkeep:True∧True:=⟨trivial,trivial⟩
   refine wp_region_noPanic ?_
   refine wp_region_held_drew (S:=(fun _=>True∧True)) (by kernel_rfl) kp (fun hHeld=>?_)
   refine rqS [0] (rqC ⟨some 11,.alloc 4,0, "sourcetree.go:454",#[],none⟩ (fun K hK=>?_) rq0)
   go_simp
   refine hK.out _ _ kp (fun hHeld=>?_)
   clear hK K
   try simp only [PT]
   refine rqS [1,2] (rqC ⟨none,.store 4 (.tmp 11) (.const (.bool true)),0, "sourcetree.go:454",#[⟨0,.data⟩],none⟩ (fun K hK=>?_) (rqC ⟨none,.store 4 (.tmp 11) (.const (.bool false)),0, "sourcetree.go:454",#[⟨0,.data⟩,⟨1,.textOnly .appendInPlace⟩,⟨1,.gcOnly .appendInPlace⟩],none⟩ (fun K hK=>?_) rq0))
   focus
    go_simp
    refine hK.out _ _ kp (fun hHeld=>?_)
    clear hK K
    try simp only [PT]
    refine rqS [2] (rqC ⟨none,.store 4 (.tmp 11) (.const (.bool false)),0, "sourcetree.go:454",#[⟨0,.data⟩,⟨1,.textOnly .appendInPlace⟩,⟨1,.gcOnly .appendInPlace⟩],none⟩ (fun K hK=>?_) rq0)
    go_simp
    refine hK.out _ _ kp (fun hHeld=>?_)
    clear hK K
    try simp only [PT]
    refine rqS [3] (rqC ⟨some 12,.load 4 (.tmp 11),4, "sourcetree.go:454",#[⟨0,.data⟩,⟨0,.phase⟩,⟨1,.phase⟩,⟨2,.phase⟩],none⟩ (fun K hK=>?_) rq0)
    go_simp
    refine hK.out _ _ kp (fun hHeld=>?_)
    clear hK K
    try simp only [PT]
    refine wpAnyH_done (by kernel_rfl) ?_ _
    refine NoPanic.normal ?_
   rotate_left 1
   focus
    go_simp
    refine hK.out _ _ kp (fun hHeld=>?_)
    clear hK K
    try simp only [PT]
    refine rqS [1] (rqC ⟨none,.store 4 (.tmp 11) (.const (.bool true)),0, "sourcetree.go:454",#[⟨0,.data⟩],none⟩ (fun K hK=>?_) rq0)
    go_simp
    refine hK.out _ _ kp (fun hHeld=>?_)
    clear hK K
    try simp only [PT]
    refine rqS [3] (rqC ⟨some 12,.load 4 (.tmp 11),4, "sourcetree.go:454",#[⟨0,.data⟩,⟨0,.phase⟩,⟨1,.phase⟩,⟨2,.phase⟩],none⟩ (fun K hK=>?_) rq0)
    go_simp
    refine hK.out _ _ kp (fun hHeld=>?_)
    clear hK K
    try simp only [PT]
    refine wpAnyH_done (by kernel_rfl) ?_ _
    refine NoPanic.normal ?_
   rotate_left 1
   case' refine_1=>
    clear hkeep c0
    have hb1:Below wr.heap.size wr ((wr.alloc (.cells #[.bool false] 4)).drew):=((Below.refl _ _).alloc (Nat.le_refl _) _).drew
    go_upto_region 5 with fail
    generalize (wr.alloc (.cells #[.bool false] 4)).drew=W2 at *
   case' refine_2=>
    clear hkeep c0
    have hb1:Below wr.heap.size wr ((wr.alloc (.cells #[.bool true] 4)).drew):=((Below.refl _ _).alloc (Nat.le_refl _) _).drew
    go_upto_region 3 with fail
    generalize (wr.alloc (.cells #[.bool true] 4)).drew=W2 at *
   all_goals
    have HB2:=hide (Blk.below hb1 HB.out)
    have HG2:=hide (Blk.below hb1 HG.out)
    have HR2:=hide (show W2.rangeAt g (ll*12) AC.toList from rangeAt_of fun j u hj=>(HG2.out.cells _).trans (HRA.out j u hj))
    have c8:W2.drew.cell? ⟨g,qq*12+10,none⟩=some (.slice AB bt.ks.len cB):=(HG2.out.cells _).trans HRB.out
    have hkeep:Blk W2 b #[.slice (some ⟨g,0,none⟩) nn cap] 22∧W2.rangeAt g (ll*12) AC.toList:=⟨HB2.out,HR2.out⟩
    have hkeepd:Blk W2.drew b #[.slice (some ⟨g,0,none⟩) nn cap] 22∧W2.drew.rangeAt g (ll*12) AC.toList:=⟨HB2.out,HR2.out⟩
   case' refine_1=>
    refine wp_region_noPanic ?_
    refine wp_region_held_drew (S:=(fun z=>Blk z b #[.slice (some ⟨g,0,none⟩) nn cap] 22∧z.rangeAt g (ll*12) AC.toList)) (by kernel_rfl) kp (fun hHeld=>?_)
    refine tkZ 0 ⟨some 32,.load 22 (.tmp 1),22, "sourcetree.go:454",#[],none⟩ ?_ (by intro w hSw;(try dsimp only at hSw);have c1:=hSw.1.cells 0;go_simp;(try with_reducible rfl))
    refine tkZ 1 ⟨some 33,.move (.tmp 3),3, "sourcetree.go:454",#[],none⟩ ?_
    refine tkZ 2 ⟨some 34,.binOp .sub 3 (.tmp 33) (.const (.int .i64 1)) 3,3, "sourcetree.go:454",#[⟨1,.data⟩],none⟩ ?_
    refine tkZ 3 ⟨some 35,.load 22 (.tmp 1),22, "sourcetree.go:454",#[],none⟩ ?_ (by intro w hSw;(try dsimp only at hSw);have c1:=hSw.1.cells 0;go_simp;(try with_reducible rfl))
    refine tkZ 4 ⟨some 36,.move (.tmp 3),3, "sourcetree.go:454",#[],none⟩ ?_
    refine tkZ 5 ⟨some 37,.binOp .sub 3 (.tmp 36) (.const (.int .i64 1)) 3,3, "sourcetree.go:454",#[⟨4,.data⟩],none⟩ ?_
    refine tkZ 6 ⟨some 38,.indexAddr 22 (.tmp 35) (.tmp 37),0, "sourcetree.go:454",#[⟨3,.data⟩,⟨5,.data⟩],none⟩ ?_
    refine tkZ 7 ⟨some 39,.fieldAddr 25 (.tmp 38) 10,0, "sourcetree.go:454",#[⟨6,.data⟩],none⟩ ?_
    refine tkZ 9 ⟨some 41,.load 22 (.tmp 1),22, "sourcetree.go:454",#[],none⟩ ?_ (by intro w hSw;(try dsimp only at hSw);have c1:=hSw.1.cells 0;go_simp;(try with_reducible rfl))
    refine tkZ 10 ⟨some 42,.move (.tmp 3),3, "sourcetree.go:454",#[],none⟩ ?_
    refine tkZ 11 ⟨some 43,.indexAddr 22 (.tmp 41) (.tmp 42),0, "sourcetree.go:454",#[⟨9,.data⟩,⟨10,.data⟩],none⟩ ?_
    refine tkZ 12 ⟨some 44,.load 25 (.tmp 43),25, "sourcetree.go:454",#[⟨11,.data⟩],none⟩ ?_ (by intro w hSw;(try dsimp only at hSw);refine(exec_load_mid 25 (.tmp 43) (by rfl) g (ll*12) (by rfl) AC _ hSw.2 Tryz.underlying25 (by rfl) (infNl HACZ.out)).trans ?_;with_reducible rfl)
    refine rqS [8,13] (rqC ⟨some 40,.load 22 (.tmp 39),22, "sourcetree.go:454",#[⟨7,.data⟩],none⟩ (fun K hK=>?_) (rqC ⟨some 45,.buildSlice 22 1 #[(0,.tmp 44)],22, "sourcetree.go:454",#[⟨12,.data⟩],none⟩ (fun K hK=>?_) rq0))
    focus
     go_simp
     refine hK.out _ _ kp (fun hHeld=>?_)
     clear hK K
     try simp only [PT]
     refine rqS [13] (rqC ⟨some 45,.buildSlice 22 1 #[(0,.tmp 44)],22, "sourcetree.go:454",#[⟨12,.data⟩],none⟩ (fun K hK=>?_) rq0)
     refine step_buildNodeA (by rfl) (.tmp 44) (by rfl) AC HACZ.out (by rfl) ?_;have hb3:Below wr.heap.size wr (W2.drew.alloc (.cells AC 25)):=(hb1.drew).alloc hb1.size _;have HN3:=hide (show Blk (W2.drew.alloc (.cells AC 25)) W2.heap.size AC 25 from Blk.newAt rfl);have hz3:(W2.drew.alloc (.cells AC 25)).heap.size=W2.heap.size+1:=World.size_alloc ..;obtain⟨W3,hW3⟩:∃W3,W3=W2.drew.alloc (.cells AC 25):=⟨_,rfl⟩;rw [←hW3] at hb3 HN3 hz3;rw [←hW3];clear hW3;have HB3:=hide (Blk.below hb3 HB.out);have HG3:=hide (Blk.below hb3 HG.out);have HK3:=hide (below_row' HKB1.out hb3);have hsz3:=hb1.size;have c83:W3.cell? ⟨g,qq*12+10,none⟩=some (.slice AB bt.ks.len cB):=(HG3.out.cells _).trans HRB.out;have hkeep3:Blk W3 b #[.slice (some ⟨g,0,none⟩) nn cap] 22∧W3.rangeAt g (ll*12) AC.toList:=⟨HB3.out,rangeAt_of fun j u hj=>(HG3.out.cells _).trans (HRA.out j u hj)⟩
     refine hK.out _ _ kp (fun hHeld=>?_)
     clear hK K
     try simp only [PT]
     refine rqS [14] (rqC ⟨some 46,.call ⟨.builtin .append,#[.tmp 40,.tmp 45],#[22,22]⟩,22, "sourcetree.go:454",#[⟨8,.data⟩,⟨13,.data⟩],none⟩ (fun K hK=>?_) rq0)
     refine step_append_rows W3 (by rfl) _ _ 22 (by rfl) lo 25 nodeInfo Tryz.underlying22 (by rfl) (by decide) (.slice AB bt.ks.len cB) bt.ks.len xkb HK3.out ⟨W2.heap.size,0,none⟩ 1 1 AC.toList (by rfl) (by rfl) (by rw [Array.length_toList,HACZ.out]) (World.news_of_block HN3.out) (fun u hu=>List.all_eq_true.1 ((Array.all_toList ..).trans HAC1.out) u hu) (by unfold maxLen;omega) (by omega) (by omega) ?_;intro v2 w2 hown2 hnb2 hg2;obtain⟨A2,c2,rfl⟩:=own_slice hown2;have HG4:=hide (show Blk w2 g cur 25 from(hg2.block g HG3.out.lt (fun e=>hgne2.out e.symm)).trans HG3.out);have HB4:=hide (show Blk w2 b #[.slice (some ⟨g,0,none⟩) nn cap] 22 from(hg2.block b HB3.out.lt (fun e=>by have:=(HKN.out b e.symm).1;omega)).trans HB3.out);have e10:w2.cell? ⟨g,qq*12+10,none⟩=some (.slice AB bt.ks.len cB):=(HG4.out.cells _).trans HRB.out;have f10:w2.frozen? ⟨g,qq*12+10,none⟩=false:=HG4.out.free _;have hkeep4:Blk w2 b #[.slice (some ⟨g,0,none⟩) nn cap] 22∧w2.rangeAt g (ll*12) AC.toList:=⟨HB4.out,rangeAt_of fun j u hj=>(HG4.out.cells _).trans (HRA.out j u hj)⟩
     refine hK.out _ _ kp (fun hHeld=>?_)
     clear hK K
     try simp only [PT]
     refine tkZ 15 ⟨some 47,.indexAddr 22 (.tmp 32) (.tmp 34),0, "sourcetree.go:454",(phs [⟨0,.data⟩,⟨2,.data⟩] 15),none⟩ ?_
     refine tkZ 16 ⟨some 48,.fieldAddr 25 (.tmp 47) 10,0, "sourcetree.go:454",(phs [⟨15,.data⟩] 15),none⟩ ?_
     refine rqS [17] (rqC ⟨none,.store 22 (.tmp 48) (.tmp 46),0, "sourcetree.go:454",(phs [⟨16,.data⟩,⟨14,.data⟩,⟨14,.chain⟩] 15),none⟩ (fun K hK=>?_) rq0)
     go_simp;have hkeep17:Blk (w2.setCell ⟨g,qq*12+10,none⟩ (.slice A2 (bt.ks.len+1) c2)) b #[.slice (some ⟨g,0,none⟩) nn cap] 22∧(w2.setCell ⟨g,qq*12+10,none⟩ (.slice A2 (bt.ks.len+1) c2)).rangeAt g (ll*12) AC.toList:=⟨Blk.other (fun e=>hbg e) HB4.out,rangeAt_of fun j u hj=>(by rw [(HG4.out.put (j:=qq*12+10) (v:=.slice A2 (bt.ks.len+1) c2) rfl).cells,Array.getElem?_setIfInBounds_ne (by omega)];exact HRA.out j u hj)⟩
     refine hK.out _ _ kp (fun hHeld=>?_)
     clear hK K
     try simp only [PT]
     refine wpAnyH_done (by kernel_rfl) ?_ _
     refine NoPanic.normal ?_
    rotate_left 1
    focus
     refine step_buildNodeA (by rfl) (.tmp 44) (by rfl) AC HACZ.out (by rfl) ?_;have hb3:Below wr.heap.size wr (W2.drew.alloc (.cells AC 25)):=(hb1.drew).alloc hb1.size _;have HN3:=hide (show Blk (W2.drew.alloc (.cells AC 25)) W2.heap.size AC 25 from Blk.newAt rfl);have hz3:(W2.drew.alloc (.cells AC 25)).heap.size=W2.heap.size+1:=World.size_alloc ..;obtain⟨W3,hW3⟩:∃W3,W3=W2.drew.alloc (.cells AC 25):=⟨_,rfl⟩;rw [←hW3] at hb3 HN3 hz3;rw [←hW3];clear hW3;have HB3:=hide (Blk.below hb3 HB.out);have HG3:=hide (Blk.below hb3 HG.out);have HK3:=hide (below_row' HKB1.out hb3);have hsz3:=hb1.size;have c83:W3.cell? ⟨g,qq*12+10,none⟩=some (.slice AB bt.ks.len cB):=(HG3.out.cells _).trans HRB.out;have hkeep3:Blk W3 b #[.slice (some ⟨g,0,none⟩) nn cap] 22∧W3.rangeAt g (ll*12) AC.toList:=⟨HB3.out,rangeAt_of fun j u hj=>(HG3.out.cells _).trans (HRA.out j u hj)⟩
     refine hK.out _ _ kp (fun hHeld=>?_)
     clear hK K
     try simp only [PT]
     refine rqS [8] (rqC ⟨some 40,.load 22 (.tmp 39),22, "sourcetree.go:454",#[⟨7,.data⟩],none⟩ (fun K hK=>?_) rq0)
     go_simp
     refine hK.out _ _ kp (fun hHeld=>?_)
     clear hK K
     try simp only [PT]
     refine rqS [14] (rqC ⟨some 46,.call ⟨.builtin .append,#[.tmp 40,.tmp 45],#[22,22]⟩,22, "sourcetree.go:454",#[⟨8,.data⟩,⟨13,.data⟩],none⟩ (fun K hK=>?_) rq0)
     refine step_append_rows W3 (by rfl) _ _ 22 (by rfl) lo 25 nodeInfo Tryz.underlying22 (by rfl) (by decide) (.slice AB bt.ks.len cB) bt.ks.len xkb HK3.out ⟨W2.heap.size,0,none⟩ 1 1 AC.toList (by rfl) (by rfl) (by rw [Array.length_toList,HACZ.out]) (World.news_of_block HN3.out) (fun u hu=>List.all_eq_true.1 ((Array.all_toList ..).trans HAC1.out) u hu) (by unfold maxLen;omega) (by omega) (by omega) ?_;intro v2 w2 hown2 hnb2 hg2;obtain⟨A2,c2,rfl⟩:=own_slice hown2;have HG4:=hide (show Blk w2 g cur 25 from(hg2.block g HG3.out.lt (fun e=>hgne2.out e.symm)).trans HG3.out);have HB4:=hide (show Blk w2 b #[.slice (some ⟨g,0,none⟩) nn cap] 22 from(hg2.block b HB3.out.lt (fun e=>by have:=(HKN.out b e.symm).1;omega)).trans HB3.out);have e10:w2.cell? ⟨g,qq*12+10,none⟩=some (.slice AB bt.ks.len cB):=(HG4.out.cells _).trans HRB.out;have f10:w2.frozen? ⟨g,qq*12+10,none⟩=false:=HG4.out.free _;have hkeep4:Blk w2 b #[.slice (some ⟨g,0,none⟩) nn cap] 22∧w2.rangeAt g (ll*12) AC.toList:=⟨HB4.out,rangeAt_of fun j u hj=>(HG4.out.cells _).trans (HRA.out j u hj)⟩
     refine hK.out _ _ kp (fun hHeld=>?_)
     clear hK K
     try simp only [PT]
     refine tkZ 15 ⟨some 47,.indexAddr 22 (.tmp 32) (.tmp 34),0, "sourcetree.go:454",(phs [⟨0,.data⟩,⟨2,.data⟩] 15),none⟩ ?_
     refine tkZ 16 ⟨some 48,.fieldAddr 25 (.tmp 47) 10,0, "sourcetree.go:454",(phs [⟨15,.data⟩] 15),none⟩ ?_
     refine rqS [17] (rqC ⟨none,.store 22 (.tmp 48) (.tmp 46),0, "sourcetree.go:454",(phs [⟨16,.data⟩,⟨14,.data⟩,⟨14,.chain⟩] 15),none⟩ (fun K hK=>?_) rq0)
     go_simp;have hkeep17:Blk (w2.setCell ⟨g,qq*12+10,none⟩ (.slice A2 (bt.ks.len+1) c2)) b #[.slice (some ⟨g,0,none⟩) nn cap] 22∧(w2.setCell ⟨g,qq*12+10,none⟩ (.slice A2 (bt.ks.len+1) c2)).rangeAt g (ll*12) AC.toList:=⟨Blk.other (fun e=>hbg e) HB4.out,rangeAt_of fun j u hj=>(by rw [(HG4.out.put (j:=qq*12+10) (v:=.slice A2 (bt.ks.len+1) c2) rfl).cells,Array.getElem?_setIfInBounds_ne (by omega)];exact HRA.out j u hj)⟩
     refine hK.out _ _ kp (fun hHeld=>?_)
     clear hK K
     try simp only [PT]
     refine wpAnyH_done (by kernel_rfl) ?_ _
     refine NoPanic.normal ?_
    rotate_left 1
    all_goals
     have hbg2:¬b=g:=hbg
     have hz2:=hb1.size
     have hf2:FrO (fun j=>(Value.slice AB bt.ks.len cB).ownBlock=some j) wr w2:=(FrO.of (O:=fun j=>(Value.slice AB bt.ks.len cB).ownBlock=some j) hb3).trans (FrO.grown (O:=fun j=>(Value.slice AB bt.ks.len cB).ownBlock=some j) hg2 (fun j h=>h)) (fun j h=>Or.inl h)
     have hnew:∀j,(Value.slice A2 (bt.ks.len+1) c2).ownBlock=some j→(Value.slice AB bt.ks.len cB).ownBlock=some j∨wr.heap.size≤j:=fun j hj=>by
      rcases hnb2 with h | h
      ·exact Or.inl (h ▸ hj)
      ·right
       rw [h] at hj
       have hj2:W3.heap.size=j:=Option.some.inj hj
       have:=hb3.size
       omega
     have hgn:(Value.slice A2 (bt.ks.len+1) c2).ownBlock≠some g:=fun e=>(hnew g e).elim hgne2.out (fun h=>by omega)
     have hfz:FrO (fun j=>j=g∨(Value.slice AB bt.ks.len cB).ownBlock=some j) wr (w2.setCell ⟨g,qq*12+10,none⟩ (.slice A2 (bt.ks.len+1) c2)):=(FrO.mono (fun j h=>Or.inr h) hf2).trans (FrO.set (O:=fun j=>j=g) rfl) (fun j h=>Or.inl (Or.inl h))
     have HZ:=hide (CLOSE.out _ A2 c2 hfz (own_cell (own_fr hf2 HOWN.out (fun q e=>by have e2:g=q:=Option.some.inj e;subst e2;exact hgne2.out))) (own_set hown2 hgn) hnew)
     have c0:(w2.setCell ⟨g,qq*12+10,none⟩ (.slice A2 (bt.ks.len+1) c2)).cell? ⟨b,0,none⟩=some (.slice (some ⟨g,0,none⟩) nn cap):=hkeep17.1.cells 0
     have f0:=hkeep17.1.free 0
     have HB9:=hide hkeep17.1
     generalize (w2.setCell ⟨g,qq*12+10,none⟩ (.slice A2 (bt.ks.len+1) c2))=wz at *
     clear hf2 hnew hgn hfz hown2 hnb2 hg2 hkeep17 hkeep4 hkeep3 hkeep hkeepd c8 CLOSE
     go_wp2_with fail
     go_roundw
     case rel=>exact HZ.out
     case measure=>
      rw [show(wz.setCell ⟨b,0,none⟩ (.slice (some ⟨g,0,none⟩) ll cap)).cell? ⟨b,0,none⟩=some (.slice (some ⟨g,0,none⟩) ll cap) from(HB9.out.put (j:=0) (v:=.slice (some ⟨g,0,none⟩) ll cap) (cs':=#[.slice (some ⟨g,0,none⟩) ll cap]) rfl).cells 0,HC0.out]
      exact l1
   case' refine_2=>
    refine wp_region_noPanic ?_
    refine wp_region_held_drew (S:=(fun z=>Blk z b #[.slice (some ⟨g,0,none⟩) nn cap] 22∧z.rangeAt g (ll*12) AC.toList)) (by kernel_rfl) kp (fun hHeld=>?_)
    refine tkZ 0 ⟨some 13,.load 22 (.tmp 1),22, "sourcetree.go:454",#[],none⟩ ?_ (by intro w hSw;(try dsimp only at hSw);have c1:=hSw.1.cells 0;go_simp;(try with_reducible rfl))
    refine tkZ 1 ⟨some 14,.move (.tmp 3),3, "sourcetree.go:454",#[],none⟩ ?_
    refine tkZ 2 ⟨some 15,.binOp .sub 3 (.tmp 14) (.const (.int .i64 1)) 3,3, "sourcetree.go:454",#[⟨1,.data⟩],none⟩ ?_
    refine tkZ 3 ⟨some 16,.load 22 (.tmp 1),22, "sourcetree.go:454",#[],none⟩ ?_ (by intro w hSw;(try dsimp only at hSw);have c1:=hSw.1.cells 0;go_simp;(try with_reducible rfl))
    refine tkZ 4 ⟨some 17,.move (.tmp 3),3, "sourcetree.go:454",#[],none⟩ ?_
    refine tkZ 5 ⟨some 18,.binOp .sub 3 (.tmp 17) (.const (.int .i64 1)) 3,3, "sourcetree.go:454",#[⟨4,.data⟩],none⟩ ?_
    refine tkZ 6 ⟨some 19,.indexAddr 22 (.tmp 16) (.tmp 18),0, "sourcetree.go:454",#[⟨3,.data⟩,⟨5,.data⟩],none⟩ ?_
    refine tkZ 7 ⟨some 20,.fieldAddr 25 (.tmp 19) 10,0, "sourcetree.go:454",#[⟨6,.data⟩],none⟩ ?_
    refine tkZ 9 ⟨some 22,.load 22 (.tmp 1),22, "sourcetree.go:454",#[],none⟩ ?_ (by intro w hSw;(try dsimp only at hSw);have c1:=hSw.1.cells 0;go_simp;(try with_reducible rfl))
    refine tkZ 10 ⟨some 23,.move (.tmp 3),3, "sourcetree.go:454",#[],none⟩ ?_
    refine tkZ 11 ⟨some 24,.indexAddr 22 (.tmp 22) (.tmp 23),0, "sourcetree.go:454",#[⟨9,.data⟩,⟨10,.data⟩],none⟩ ?_
    refine tkZ 12 ⟨some 25,.load 25 (.tmp 24),25, "sourcetree.go:454",#[⟨11,.data⟩],none⟩ ?_ (by intro w hSw;(try dsimp only at hSw);refine(exec_load_mid 25 (.tmp 24) (by rfl) g (ll*12) (by rfl) AC _ hSw.2 Tryz.underlying25 (by rfl) (infNl HACZ.out)).trans ?_;with_reducible rfl)
    refine rqS [8,14] (rqC ⟨some 21,.load 22 (.tmp 20),22, "sourcetree.go:454",#[⟨7,.data⟩],none⟩ (fun K hK=>?_) (rqC ⟨some 27,.buildSlice 22 1 #[(0,.const (.agg #[.string { data:=#[] },.int .i64 0,.string { data:=#[] },.string { data:=#[] },.int .i64 0,.int .i64 0,.int .i64 0,.int .i64 0,.int .i64 0,.int .i64 0,.slice none 0 0,.slice none 0 0]))],22, "sourcetree.go:454",#[],none⟩ (fun K hK=>?_) rq0))
    focus
     go_simp
     refine hK.out _ _ kp (fun hHeld=>?_)
     clear hK K
     try simp only [PT]
     refine rqS [13,14] (rqC ⟨some 26,.call ⟨.builtin .len,#[.tmp 21],#[22]⟩,3, "sourcetree.go:454",#[⟨8,.data⟩],none⟩ (fun K hK=>?_) (rqC ⟨some 27,.buildSlice 22 1 #[(0,.const (.agg #[.string { data:=#[] },.int .i64 0,.string { data:=#[] },.string { data:=#[] },.int .i64 0,.int .i64 0,.int .i64 0,.int .i64 0,.int .i64 0,.int .i64 0,.slice none 0 0,.slice none 0 0]))],22, "sourcetree.go:454",#[],none⟩ (fun K hK=>?_) rq0))
     focus
      go_simp
      refine hK.out _ _ kp (fun hHeld=>?_)
      clear hK K
      try simp only [PT]
      refine rqS [14] (rqC ⟨some 27,.buildSlice 22 1 #[(0,.const (.agg #[.string { data:=#[] },.int .i64 0,.string { data:=#[] },.string { data:=#[] },.int .i64 0,.int .i64 0,.int .i64 0,.int .i64 0,.int .i64 0,.int .i64 0,.slice none 0 0,.slice none 0 0]))],22, "sourcetree.go:454",#[],none⟩ (fun K hK=>?_) rq0)
      refine step_buildNodeA (by rfl) (.const (.agg zeroN)) (by rfl) zeroN (by rfl) (by rfl) ?_;have hb3:Below wr.heap.size wr (W2.drew.alloc (.cells zeroN 25)):=(hb1.drew).alloc hb1.size _;have HN3:=hide (show Blk (W2.drew.alloc (.cells zeroN 25)) W2.heap.size zeroN 25 from Blk.newAt rfl);have hz3:(W2.drew.alloc (.cells zeroN 25)).heap.size=W2.heap.size+1:=World.size_alloc ..;obtain⟨W3,hW3⟩:∃W3,W3=W2.drew.alloc (.cells zeroN 25):=⟨_,rfl⟩;rw [←hW3] at hb3 HN3 hz3;rw [←hW3];clear hW3;have HB3:=hide (Blk.below hb3 HB.out);have HG3:=hide (Blk.below hb3 HG.out);have HK3:=hide (below_row' HKB1.out hb3);have hsz3:=hb1.size;have c83:W3.cell? ⟨g,qq*12+10,none⟩=some (.slice AB bt.ks.len cB):=(HG3.out.cells _).trans HRB.out;have hkeep3:Blk W3 b #[.slice (some ⟨g,0,none⟩) nn cap] 22∧W3.rangeAt g (ll*12) AC.toList:=⟨HB3.out,rangeAt_of fun j u hj=>(HG3.out.cells _).trans (HRA.out j u hj)⟩
      refine hK.out _ _ kp (fun hHeld=>?_)
      clear hK K
      try simp only [PT]
      refine rqS [15] (rqC ⟨some 28,.call ⟨.builtin .append,#[.tmp 21,.tmp 27],#[22,22]⟩,22, "sourcetree.go:454",(phs [⟨8,.data⟩,⟨14,.data⟩] 15),none⟩ (fun K hK=>?_) rq0)
      refine step_append_rows W3 (by rfl) _ _ 22 (by rfl) lo 25 nodeInfo Tryz.underlying22 (by rfl) (by decide) (.slice AB bt.ks.len cB) bt.ks.len xkb HK3.out ⟨W2.heap.size,0,none⟩ 1 1 zeroN.toList (by rfl) (by rfl) (by rfl) (World.news_of_block HN3.out) (by decide) (by unfold maxLen;omega) (by omega) (by omega) ?_;intro v2 w2 hown2 hnb2 hg2;obtain⟨A2,c2,rfl⟩:=own_slice hown2;have HG4:=hide (show Blk w2 g cur 25 from(hg2.block g HG3.out.lt (fun e=>hgne2.out e.symm)).trans HG3.out);have HB4:=hide (show Blk w2 b #[.slice (some ⟨g,0,none⟩) nn cap] 22 from(hg2.block b HB3.out.lt (fun e=>by have:=(HKN.out b e.symm).1;omega)).trans HB3.out);have e10:w2.cell? ⟨g,qq*12+10,none⟩=some (.slice AB bt.ks.len cB):=(HG4.out.cells _).trans HRB.out;have f10:w2.frozen? ⟨g,qq*12+10,none⟩=false:=HG4.out.free _;have hkeep4:Blk w2 b #[.slice (some ⟨g,0,none⟩) nn cap] 22∧w2.rangeAt g (ll*12) AC.toList:=⟨HB4.out,rangeAt_of fun j u hj=>(HG4.out.cells _).trans (HRA.out j u hj)⟩
      refine hK.out _ _ kp (fun hHeld=>?_)
      clear hK K
      try simp only [PT]
      refine tkZ 16 ⟨some 29,.indexAddr 22 (.tmp 13) (.tmp 15),0, "sourcetree.go:454",(phs [⟨0,.data⟩,⟨2,.data⟩] 16),none⟩ ?_
      refine tkZ 17 ⟨some 30,.fieldAddr 25 (.tmp 29) 10,0, "sourcetree.go:454",(phs [⟨16,.data⟩] 16),none⟩ ?_
      refine rqS [18] (rqC ⟨none,.store 22 (.tmp 30) (.tmp 28),0, "sourcetree.go:454",(phs [⟨17,.data⟩,⟨15,.data⟩,⟨15,.chain⟩] 16),none⟩ (fun K hK=>?_) rq0)
      go_simp;have hkeep18:Blk (w2.setCell ⟨g,qq*12+10,none⟩ (.slice A2 (bt.ks.len+1) c2)) b #[.slice (some ⟨g,0,none⟩) nn cap] 22∧(w2.setCell ⟨g,qq*12+10,none⟩ (.slice A2 (bt.ks.len+1) c2)).rangeAt g (ll*12) AC.toList:=⟨Blk.other (fun e=>hbg e) HB4.out,rangeAt_of fun j u hj=>(by rw [(HG4.out.put (j:=qq*12+10) (v:=.slice A2 (bt.ks.len+1) c2) rfl).cells,Array.getElem?_setIfInBounds_ne (by omega)];exact HRA.out j u hj)⟩
      refine hK.out _ _ kp (fun hHeld=>?_)
      clear hK K
      try simp only [PT]
      refine wpAnyH_done (by kernel_rfl) ?_ _
      refine NoPanic.normal ?_
     rotate_left 1
     focus
      refine step_buildNodeA (by rfl) (.const (.agg zeroN)) (by rfl) zeroN (by rfl) (by rfl) ?_;have hb3:Below wr.heap.size wr (W2.drew.alloc (.cells zeroN 25)):=(hb1.drew).alloc hb1.size _;have HN3:=hide (show Blk (W2.drew.alloc (.cells zeroN 25)) W2.heap.size zeroN 25 from Blk.newAt rfl);have hz3:(W2.drew.alloc (.cells zeroN 25)).heap.size=W2.heap.size+1:=World.size_alloc ..;obtain⟨W3,hW3⟩:∃W3,W3=W2.drew.alloc (.cells zeroN 25):=⟨_,rfl⟩;rw [←hW3] at hb3 HN3 hz3;rw [←hW3];clear hW3;have HB3:=hide (Blk.below hb3 HB.out);have HG3:=hide (Blk.below hb3 HG.out);have HK3:=hide (below_row' HKB1.out hb3);have hsz3:=hb1.size;have c83:W3.cell? ⟨g,qq*12+10,none⟩=some (.slice AB bt.ks.len cB):=(HG3.out.cells _).trans HRB.out;have hkeep3:Blk W3 b #[.slice (some ⟨g,0,none⟩) nn cap] 22∧W3.rangeAt g (ll*12) AC.toList:=⟨HB3.out,rangeAt_of fun j u hj=>(HG3.out.cells _).trans (HRA.out j u hj)⟩
      refine hK.out _ _ kp (fun hHeld=>?_)
      clear hK K
      try simp only [PT]
      refine rqS [13] (rqC ⟨some 26,.call ⟨.builtin .len,#[.tmp 21],#[22]⟩,3, "sourcetree.go:454",#[⟨8,.data⟩],none⟩ (fun K hK=>?_) rq0)
      go_simp
      refine hK.out _ _ kp (fun hHeld=>?_)
      clear hK K
      try simp only [PT]
      refine rqS [15] (rqC ⟨some 28,.call ⟨.builtin .append,#[.tmp 21,.tmp 27],#[22,22]⟩,22, "sourcetree.go:454",(phs [⟨8,.data⟩,⟨14,.data⟩] 15),none⟩ (fun K hK=>?_) rq0)
      refine step_append_rows W3 (by rfl) _ _ 22 (by rfl) lo 25 nodeInfo Tryz.underlying22 (by rfl) (by decide) (.slice AB bt.ks.len cB) bt.ks.len xkb HK3.out ⟨W2.heap.size,0,none⟩ 1 1 zeroN.toList (by rfl) (by rfl) (by rfl) (World.news_of_block HN3.out) (by decide) (by unfold maxLen;omega) (by omega) (by omega) ?_;intro v2 w2 hown2 hnb2 hg2;obtain⟨A2,c2,rfl⟩:=own_slice hown2;have HG4:=hide (show Blk w2 g cur 25 from(hg2.block g HG3.out.lt (fun e=>hgne2.out e.symm)).trans HG3.out);have HB4:=hide (show Blk w2 b #[.slice (some ⟨g,0,none⟩) nn cap] 22 from(hg2.block b HB3.out.lt (fun e=>by have:=(HKN.out b e.symm).1;omega)).trans HB3.out);have e10:w2.cell? ⟨g,qq*12+10,none⟩=some (.slice AB bt.ks.len cB):=(HG4.out.cells _).trans HRB.out;have f10:w2.frozen? ⟨g,qq*12+10,none⟩=false:=HG4.out.free _;have hkeep4:Blk w2 b #[.slice (some ⟨g,0,none⟩) nn cap] 22∧w2.rangeAt g (ll*12) AC.toList:=⟨HB4.out,rangeAt_of fun j u hj=>(HG4.out.cells _).trans (HRA.out j u hj)⟩
      refine hK.out _ _ kp (fun hHeld=>?_)
      clear hK K
      try simp only [PT]
      refine tkZ 16 ⟨some 29,.indexAddr 22 (.tmp 13) (.tmp 15),0, "sourcetree.go:454",(phs [⟨0,.data⟩,⟨2,.data⟩] 16),none⟩ ?_
      refine tkZ 17 ⟨some 30,.fieldAddr 25 (.tmp 29) 10,0, "sourcetree.go:454",(phs [⟨16,.data⟩] 16),none⟩ ?_
      refine rqS [18] (rqC ⟨none,.store 22 (.tmp 30) (.tmp 28),0, "sourcetree.go:454",(phs [⟨17,.data⟩,⟨15,.data⟩,⟨15,.chain⟩] 16),none⟩ (fun K hK=>?_) rq0)
      go_simp;have hkeep18:Blk (w2.setCell ⟨g,qq*12+10,none⟩ (.slice A2 (bt.ks.len+1) c2)) b #[.slice (some ⟨g,0,none⟩) nn cap] 22∧(w2.setCell ⟨g,qq*12+10,none⟩ (.slice A2 (bt.ks.len+1) c2)).rangeAt g (ll*12) AC.toList:=⟨Blk.other (fun e=>hbg e) HB4.out,rangeAt_of fun j u hj=>(by rw [(HG4.out.put (j:=qq*12+10) (v:=.slice A2 (bt.ks.len+1) c2) rfl).cells,Array.getElem?_setIfInBounds_ne (by omega)];exact HRA.out j u hj)⟩
      refine hK.out _ _ kp (fun hHeld=>?_)
      clear hK K
      try simp only [PT]
      refine wpAnyH_done (by kernel_rfl) ?_ _
      refine NoPanic.normal ?_
     rotate_left 1
    rotate_left 2
    focus
     refine step_buildNodeA (by rfl) (.const (.agg zeroN)) (by rfl) zeroN (by rfl) (by rfl) ?_;have hb3:Below wr.heap.size wr (W2.drew.alloc (.cells zeroN 25)):=(hb1.drew).alloc hb1.size _;have HN3:=hide (show Blk (W2.drew.alloc (.cells zeroN 25)) W2.heap.size zeroN 25 from Blk.newAt rfl);have hz3:(W2.drew.alloc (.cells zeroN 25)).heap.size=W2.heap.size+1:=World.size_alloc ..;obtain⟨W3,hW3⟩:∃W3,W3=W2.drew.alloc (.cells zeroN 25):=⟨_,rfl⟩;rw [←hW3] at hb3 HN3 hz3;rw [←hW3];clear hW3;have HB3:=hide (Blk.below hb3 HB.out);have HG3:=hide (Blk.below hb3 HG.out);have HK3:=hide (below_row' HKB1.out hb3);have hsz3:=hb1.size;have c83:W3.cell? ⟨g,qq*12+10,none⟩=some (.slice AB bt.ks.len cB):=(HG3.out.cells _).trans HRB.out;have hkeep3:Blk W3 b #[.slice (some ⟨g,0,none⟩) nn cap] 22∧W3.rangeAt g (ll*12) AC.toList:=⟨HB3.out,rangeAt_of fun j u hj=>(HG3.out.cells _).trans (HRA.out j u hj)⟩
     refine hK.out _ _ kp (fun hHeld=>?_)
     clear hK K
     try simp only [PT]
     refine rqS [8] (rqC ⟨some 21,.load 22 (.tmp 20),22, "sourcetree.go:454",#[⟨7,.data⟩],none⟩ (fun K hK=>?_) rq0)
     go_simp
     refine hK.out _ _ kp (fun hHeld=>?_)
     clear hK K
     try simp only [PT]
     refine rqS [13] (rqC ⟨some 26,.call ⟨.builtin .len,#[.tmp 21],#[22]⟩,3, "sourcetree.go:454",#[⟨8,.data⟩],none⟩ (fun K hK=>?_) rq0)
     go_simp
     refine hK.out _ _ kp (fun hHeld=>?_)
     clear hK K
     try simp only [PT]
     refine rqS [15] (rqC ⟨some 28,.call ⟨.builtin .append,#[.tmp 21,.tmp 27],#[22,22]⟩,22, "sourcetree.go:454",(phs [⟨8,.data⟩,⟨14,.data⟩] 15),none⟩ (fun K hK=>?_) rq0)
     refine step_append_rows W3 (by rfl) _ _ 22 (by rfl) lo 25 nodeInfo Tryz.underlying22 (by rfl) (by decide) (.slice AB bt.ks.len cB) bt.ks.len xkb HK3.out ⟨W2.heap.size,0,none⟩ 1 1 zeroN.toList (by rfl) (by rfl) (by rfl) (World.news_of_block HN3.out) (by decide) (by unfold maxLen;omega) (by omega) (by omega) ?_;intro v2 w2 hown2 hnb2 hg2;obtain⟨A2,c2,rfl⟩:=own_slice hown2;have HG4:=hide (show Blk w2 g cur 25 from(hg2.block g HG3.out.lt (fun e=>hgne2.out e.symm)).trans HG3.out);have HB4:=hide (show Blk w2 b #[.slice (some ⟨g,0,none⟩) nn cap] 22 from(hg2.block b HB3.out.lt (fun e=>by have:=(HKN.out b e.symm).1;omega)).trans HB3.out);have e10:w2.cell? ⟨g,qq*12+10,none⟩=some (.slice AB bt.ks.len cB):=(HG4.out.cells _).trans HRB.out;have f10:w2.frozen? ⟨g,qq*12+10,none⟩=false:=HG4.out.free _;have hkeep4:Blk w2 b #[.slice (some ⟨g,0,none⟩) nn cap] 22∧w2.rangeAt g (ll*12) AC.toList:=⟨HB4.out,rangeAt_of fun j u hj=>(HG4.out.cells _).trans (HRA.out j u hj)⟩
     refine hK.out _ _ kp (fun hHeld=>?_)
     clear hK K
     try simp only [PT]
     refine tkZ 16 ⟨some 29,.indexAddr 22 (.tmp 13) (.tmp 15),0, "sourcetree.go:454",(phs [⟨0,.data⟩,⟨2,.data⟩] 16),none⟩ ?_
     refine tkZ 17 ⟨some 30,.fieldAddr 25 (.tmp 29) 10,0, "sourcetree.go:454",(phs [⟨16,.data⟩] 16),none⟩ ?_
     refine rqS [18] (rqC ⟨none,.store 22 (.tmp 30) (.tmp 28),0, "sourcetree.go:454",(phs [⟨17,.data⟩,⟨15,.data⟩,⟨15,.chain⟩] 16),none⟩ (fun K hK=>?_) rq0)
     go_simp;have hkeep18:Blk (w2.setCell ⟨g,qq*12+10,none⟩ (.slice A2 (bt.ks.len+1) c2)) b #[.slice (some ⟨g,0,none⟩) nn cap] 22∧(w2.setCell ⟨g,qq*12+10,none⟩ (.slice A2 (bt.ks.len+1) c2)).rangeAt g (ll*12) AC.toList:=⟨Blk.other (fun e=>hbg e) HB4.out,rangeAt_of fun j u hj=>(by rw [(HG4.out.put (j:=qq*12+10) (v:=.slice A2 (bt.ks.len+1) c2) rfl).cells,Array.getElem?_setIfInBounds_ne (by omega)];exact HRA.out j u hj)⟩
     refine hK.out _ _ kp (fun hHeld=>?_)
     clear hK K
     try simp only [PT]
     refine wpAnyH_done (by kernel_rfl) ?_ _
     refine NoPanic.normal ?_
    rotate_left 1
    all_goals
     have hbg2:¬b=g:=hbg
     have hz2:=hb1.size
     have hf2:FrO (fun j=>(Value.slice AB bt.ks.len cB).ownBlock=some j) wr w2:=(FrO.of (O:=fun j=>(Value.slice AB bt.ks.len cB).ownBlock=some j) hb3).trans (FrO.grown (O:=fun j=>(Value.slice AB bt.ks.len cB).ownBlock=some j) hg2 (fun j h=>h)) (fun j h=>Or.inl h)
     have hnew:∀j,(Value.slice A2 (bt.ks.len+1) c2).ownBlock=some j→(Value.slice AB bt.ks.len cB).ownBlock=some j∨wr.heap.size≤j:=fun j hj=>by
      rcases hnb2 with h | h
      ·exact Or.inl (h ▸ hj)
      ·right
       rw [h] at hj
       have hj2:W3.heap.size=j:=Option.some.inj hj
       have:=hb3.size
       omega
     have hgn:(Value.slice A2 (bt.ks.len+1) c2).ownBlock≠some g:=fun e=>(hnew g e).elim hgne2.out (fun h=>by omega)
     have hfz:FrO (fun j=>j=g∨(Value.slice AB bt.ks.len cB).ownBlock=some j) wr (w2.setCell ⟨g,qq*12+10,none⟩ (.slice A2 (bt.ks.len+1) c2)):=(FrO.mono (fun j h=>Or.inr h) hf2).trans (FrO.set (O:=fun j=>j=g) rfl) (fun j h=>Or.inl (Or.inl h))
     have hro:=own_cell (i:=qq*12+10) (v:=.slice A2 (bt.ks.len+1) c2) (own_fr hf2 HOWN.out (fun q e=>by have e2:g=q:=Option.some.inj e;subst e2;exact hgne2.out))
     have hrk:=own_set (i:=qq*12+10) (u:=.slice A2 (bt.ks.len+1) c2) hown2 hgn
     obtain⟨gk,ck,curk,hsk,hlk,hBk,hnck,hcmk,hcsk,hcxk⟩:=own_blk hrk (by omega)
     injection hsk with hsk1 hsk2 hsk3
     subst hsk1;subst hsk3
     have hgk:gk≠g:=fun e=>hgn (by rw [e];rfl)
     have hgkb:gk≠b:=by omega
     have HZ:=hide (CLOSE.out ((w2.setCell ⟨g,qq*12+10,none⟩ (.slice (some ⟨gk,0,none⟩) (bt.ks.len+1) c2)).setCells gk (bt.ks.len*12) AC.toList) (some ⟨gk,0,none⟩) c2 (hfz.trans (FrO.sets (O:=fun j=>j=gk) rfl _ _ _) (fun j h=>(hnew gk rfl).elim (fun e=>Or.inl (Or.inr (h ▸ e))) (fun e=>Or.inr (h ▸ e)))) (own_fr (FrO.sets (O:=fun j=>j=gk) rfl _ _ _) hro (fun q e=>by have e2:g=q:=Option.some.inj e;omega)) (by
      have h:=own_cells AC.toList (bt.ks.len*12) _ _ hrk
      have e:=setsL_app AC.toList xkb zeroN.toList [] (by show 12=_;rw [Array.length_toList,HACZ.out])
      rw [HXKL.out,List.append_nil,List.append_nil] at e
      rw [e] at h
      exact h) hnew)
     have HB9:=hide (show Blk ((w2.setCell ⟨g,qq*12+10,none⟩ (.slice (some ⟨gk,0,none⟩) (bt.ks.len+1) c2)).setCells gk (bt.ks.len*12) AC.toList) b #[.slice (some ⟨g,0,none⟩) nn cap] 22 from(FrO.sets (O:=fun j=>j=gk) rfl _ _ _).blk hkeep18.1 (fun e=>hgkb e.symm))
     have hth:(w2.setCell ⟨g,qq*12+10,none⟩ (.slice (some ⟨gk,0,none⟩) (bt.ks.len+1) c2)).there gk (bt.ks.len*12) AC.size:=fun j hj=>⟨by rw [hBk.cells,Array.getElem?_eq_getElem (show bt.ks.len*12+j < curk.size by rw [hcsk];have h12:=HACZ.out;have h2:=Nat.mul_le_mul_right 12 hnck;omega)];rfl,hBk.free _⟩
     have HTH:=hide hth
     have HBK:=hide hBk
     have hkl:(bt.ks.len:Int) < (bt.ks.len:Int)+1:=by omega
     generalize (w2.setCell ⟨g,qq*12+10,none⟩ (.slice (some ⟨gk,0,none⟩) (bt.ks.len+1) c2))=wy at *
     clear hf2 hnew hgn hfz hown2 hnb2 hg2 hkeep18 hkeep4 hkeep3 hkeep hkeepd c8 CLOSE hro hrk hcsk hcxk hsk2 hBk hth hcmk
     go_upto_region 6 with (refine wpList_store_midA rfl 25 _ _ rfl gk (bt.ks.len*12) AC rfl rfl HTH.out (infN HACZ.out) HAC1.out ?_)
     have c0:(wy.setCells gk (bt.ks.len*12) AC.toList).cell? ⟨b,0,none⟩=some (.slice (some ⟨g,0,none⟩) nn cap):=HB9.out.cells 0
     have f0:=HB9.out.free 0
     generalize (wy.setCells gk (bt.ks.len*12) AC.toList)=wz at *
     go_wp2_with fail
     go_roundw
     case rel=>exact HZ.out
     case measure=>
      rw [show(wz.setCell ⟨b,0,none⟩ (.slice (some ⟨g,0,none⟩) ll cap)).cell? ⟨b,0,none⟩=some (.slice (some ⟨g,0,none⟩) ll cap) from(HB9.out.put (j:=0) (v:=.slice (some ⟨g,0,none⟩) ll cap) (cs':=#[.slice (some ⟨g,0,none⟩) ll cap]) rfl).cells 0,HC0.out]
      exact l1
end Go.Proofs.YtlhakdildbplkaaGreatDoor
