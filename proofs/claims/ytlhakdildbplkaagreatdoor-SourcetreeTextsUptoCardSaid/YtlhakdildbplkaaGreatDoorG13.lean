/- Part of the claim: its words. -/
import Derived.Test.YtlhakdildbplkaaGreatDoorG12
import Derived.Lib.AppendStr
import Derived.Test.YtlhakdildbplkaaGreatDoorG11
set_option maxRecDepth 100000
set_option maxHeartbeats 4000000
namespace Go.Proofs.YtlhakdildbplkaaGreatDoor
set_option linter.unusedSimpArgs false
set_option linter.unusedVariables false
open Go.RowKit
theorem RowS.drop {w:World} {lo:Nat}:∀ {f:Fo} {xs:List Value} {O:Nat→Prop} (i:Nat),RowS w lo f xs O→RowS w lo (f.dropAt i) (xs.take (i*12)++xs.drop ((i+1)*12)) O
 | .nil,xs,_,i,h=>by
  have h':xs=[]:=h
  subst h'
  simp [Fo.dropAt,RowS]
 | .node h ss ks nx,xs,O,0,⟨kv,sv,xs',O1,On,e,hs,hk,hn,h3,h4⟩=>by
  subst e
  have e2:((h.cells kv sv).toList++xs').take (0*12)++((h.cells kv sv).toList++xs').drop ((0+1)*12)=xs':=rfl
  rw [e2]
  exact hn.sub h4
 | .node h ss ks nx,xs,O,i+1,⟨kv,sv,xs',O1,On,e,hs,hk,hn,h3,h4⟩=>by
  subst e
  have e1:(h.cells kv sv).toList.length=12:=rfl
  refine⟨kv,sv,xs'.take (i*12)++xs'.drop ((i+1)*12),O1,On,?_,hs,hk,RowS.drop i hn,h3,h4⟩
  rw [List.take_append,List.drop_append,e1,List.take_of_length_le (by rw [e1];omega),List.drop_of_length_le (by rw [e1];omega),show(i+1)*12 - 12=i*12 by omega,show(i+1+1)*12 - 12=(i+1)*12 by omega,List.nil_append,List.append_assoc]
theorem RowS.one {w:World} {lo:Nat}:∀ {f:Fo} {xs:List Value} {O:Nat→Prop},RowS w lo f xs O→∀u∈xs,u.oneCell'=true
 | .nil,xs,_,h=>by
  have h':xs=[]:=h
  subst h'
  simp
 | .node h ss ks nx,xs,O,⟨kv,sv,xs',O1,On,e,hs,⟨xk,Ok,hk,_⟩,hn,h3,h4⟩=>by
  subst e
  obtain⟨A,c,rfl⟩:=own_slice hk
  obtain⟨A2,c2,rfl⟩:=own_slice hs
  intro u hu
  rcases List.mem_append.1 hu with hu | hu
  ·exact List.all_eq_true.1 ((Array.all_toList ..).trans (nodeLit h A ks.len c A2 ss.length c2)) u hu
  ·exact RowS.one hn u hu
theorem last_size {p:ByteArray} {i:Nat} (h:p.data.toList[i]? = some 47):i < p.size:=by
 have:=(List.getElem?_eq_some_iff.1 h).1
 rw [Array.length_toList] at this
 exact this
theorem last_cut {p:ByteArray} {i:Nat} (h:p.data.toList[i]? = some 47) (hn:∀j,i < j→p.data.toList[j]? ≠ some 47):p.data.toList=(p.extract 0 i).data.toList++47 :: (p.extract (i+1) p.size).data.toList∧∀c∈(p.extract (i+1) p.size).data.toList,c≠47:=by
 have hil:=(List.getElem?_eq_some_iff.1 h).1
 have hsz:p.size=p.data.toList.length:=by rw [Array.length_toList];rfl
 have e0:(p.extract 0 i).data.toList=p.data.toList.take i:=by
  rw [←ByteArray.toList_eq,Lib.extract_toList];simp
 have e1:(p.extract (i+1) p.size).data.toList=p.data.toList.drop (i+1):=by
  rw [←ByteArray.toList_eq,Lib.extract_toList,List.take_of_length_le]
  rw [List.length_drop,←hsz];omega
 refine⟨?_,fun c hc e=>?_⟩
 ·rw [e0,e1]
  conv=>lhs;rw [←List.take_append_drop i p.data.toList]
  congr 1
  rw [List.drop_eq_getElem_cons hil]
  congr 1
  exact(List.getElem?_eq_some_iff.1 h).2
 ·rw [e1] at hc
  obtain⟨j,hj,e2⟩:=List.getElem_of_mem hc
  refine hn (i+1+j) (by omega) ?_
  rw [←List.getElem?_drop,List.getElem?_eq_getElem hj,e2,e]
theorem Blk.notStrT {w:World} {g:Nat} {cs:Array Value} {T:TypeId} (hT:T≠69) (h:Blk w g cs T) (cs':Array Value) (fr:Nat × Nat):w.heap[g]? ≠ some (Obj.cells cs' 69 fr):=by
 unfold Blk at h
 rw [h]
 intro e
 injection e with e
 injection e with _ e
 exact hT e
def CutP (p par nm:ByteArray):Prop:=partsP par=dirs p∧base p=nm∧par.size≤p.size
theorem cutP_one {p:ByteArray} (h:∀c∈p.data.toList,c≠47):CutP p ⟨#[]⟩ p:=by
 obtain⟨h1,h2⟩:=dirs_one h
 exact⟨by rw [h1];rfl,h2,Nat.zero_le _⟩
theorem cutP_at {p:ByteArray} {i:Nat} (h:p.data.toList[i]? = some 47) (hn:∀j,i < j→p.data.toList[j]? ≠ some 47) (hne:p.extract 0 i≠eS):CutP p (p.extract 0 i) (p.extract (i+1) p.size):=by
 obtain⟨e,hb⟩:=last_cut h hn
 obtain⟨h1,h2⟩:=dirs_cut e hb
 exact⟨by rw [h1];unfold partsP;rw [if_neg hne],h2,by simp;omega⟩
theorem cutP_slash {t:Tr} {p:ByteArray} {i:Nat} (hv:validB t=true) (h:p.data.toList[i]? = some 47) (hn:∀j,i < j→p.data.toList[j]? ≠ some 47) (he:p.extract 0 i=eS):remQ t p=(Tr.zero,6):=by
 obtain⟨e,hb⟩:=last_cut h hn
 rw [he] at e
 exact remQ_slash hv e hb
theorem remove_any (t:Tr) (p:ByteArray) (hsz:t.sz≤60000) (hp:p.size≤2000000) (v:Value) (w:World) (hT:TabV w) (hv:TreeR w w.heap.size v t):Calls Tryz.prog 32 #[v,.string p] w fun e w'=>∃r,e=.returned (.tuple #[r,.int .i64 (remQ t p).2])∧TreeR w' w'.heap.size r (remQ t p).1∧Below w.heap.size w w':=by
 have VN:=hide (fun W hTW hW=>valid_any t (Or.inl hsz) v W hTW hW)
 have CL:=hide (fun W hW=>clone_any 60000 t (by have:=t.count_sz;omega) (by omega) v W hW)
 have HV:=hide hv
 obtain⟨A,c,A2,c2,rfl,hkl,hstl⟩:=hv.openL
 clear hv hkl hstl
 have HL:Live w []:=trivial
 go_enter Tryz.func32,Tryz.ntmps32
 go_upto_region 1 with fail
 have HB:=hide (show Blk ((w.alloc (.cells (t.h.cells (.slice A t.ks.len c) (.slice A2 t.ss.length c2)) 25)).alloc (.cells zeroN 25)) w.heap.size (t.h.cells (.slice A t.ks.len c) (.slice A2 t.ss.length c2)) 25 from(Blk.newAt rfl).alloc _)
 have HR:=hide (show Blk ((w.alloc (.cells (t.h.cells (.slice A t.ks.len c) (.slice A2 t.ss.length c2)) 25)).alloc (.cells zeroN 25)) (w.heap.size+1) zeroN 25 from Blk.newAt (by rw [World.size_alloc]))
 have hbel1:Below w.heap.size w ((w.alloc (.cells (t.h.cells (.slice A t.ks.len c) (.slice A2 t.ss.length c2)) 25)).alloc (.cells zeroN 25)):=((Below.refl _ _).alloc (Nat.le_refl _) _).alloc (by rw [World.size_alloc];omega) _
 obtain⟨W1,hW1⟩:∃W1,W1=(w.alloc (.cells (t.h.cells (.slice A t.ks.len c) (.slice A2 t.ss.length c2)) 25)).alloc (.cells zeroN 25):=⟨_,rfl⟩
 rw [←hW1] at HB HR hbel1
 unfold zeroN at hW1
 rw [←hW1]
 clear hW1
 obtain⟨r,hr⟩:∃r,r=w.heap.size+1:=⟨_,rfl⟩
 rw [←hr] at HR ⊢
 obtain⟨b,hb⟩:∃b,b=w.heap.size:=⟨_,rfl⟩
 rw [←hb] at HB ⊢
 have hlo:b≠r∧w.heap.size≤b∧w.heap.size≤r:=by omega
 obtain⟨hbr,hwb,hwr⟩:=hlo
 clear hb hr
 have HT1:=hide (hT.below hbel1)
 have HV1:=hide (HV.out.own_below hbel1)
 have HTW:=hide hT
 have BZ:=hide built_zero
 clear hT HV
 cases hvb:validB t
 case false=>
  have HZ:=hide (remQ_no (p:=p) hvb)
  rw [hvb] at VN
  clear hvb
  go_wp2_with (first | (refine wpList_load_row rfl 25 (.tmp 2) rfl b rfl 25 (t.h.cells (.slice A t.ks.len c) (.slice A2 t.ss.length c2)) (0,0) _ HB.out Tryz.underlying25 rfl (infN rfl) ?_) | (go_at_call 20;refine(VN.out _ HT1.out HV1.out).mono ?_;rintro e w3 ⟨rfl,hb3⟩;have HR3:=hide (Blk.below hb3 HR.out)) | (refine wpList_build_is rfl 25 #[] rfl [] (by simp) _ BZ.out ?_) | (refine wpList_store_row rfl 25 (.tmp 4) (.tmp 14) rfl r zeroN rfl rfl 25 zeroN HR3.out (infN rfl) rfl (by kernel_rfl) ?_))
  refine bodyPost_ret (results_cell2 rfl _ _ r 25 zeroN (0,0) _ rfl (setRow_heap _ _ _ _ _ _ HR3.out) (.int .i64 1) rfl Tryz.underlying25 rfl (infN rfl)) rfl ?_
  exact⟨_,by rw [HZ.out],by rw [HZ.out];exact zero_reads _ _,(hbel1.trans (hb3.mono hbel1.size)).trans ((FrO.setRow (O:=fun j=>j=r) rfl).below (by have:=hbel1.size;have:=hb3.size;omega) fun j hj=>by subst hj;exact hwr)⟩
 case true=>
 have HVB:=hide hvb
 rw [hvb] at VN
 clear hvb
 go_upto_region 3 with (first | (refine wpList_load_row rfl 25 (.tmp 2) rfl b rfl 25 (t.h.cells (.slice A t.ks.len c) (.slice A2 t.ss.length c2)) (0,0) _ HB.out Tryz.underlying25 rfl (infN rfl) ?_) | (go_at_call 20;refine(VN.out _ HT1.out HV1.out).mono ?_;rintro e w3 ⟨rfl,hb3⟩;have HR3:=hide (Blk.below hb3 HR.out)))
 have hbel3:=hbel1.trans (hb3.mono hbel1.size)
 have HB3:=hide (Blk.below hb3 HB.out)
 have HT3:=hide (HT1.out.below hb3)
 have HV3:=hide (HV1.out.own_below hb3)
 clear HB HR HT1 HV1 hb3 VN
 by_cases hpe:p=eS
 case pos=>
  have HZ:=hide (show remQ t p=(Tr.zero,8) by rw [hpe];exact remQ_root HVB.out)
  have q:(p.toList == [])=true:=by rw [hpe,ByteArray.toList_eq];rfl
  have HQ:=hide hpe
  clear hpe
  go_wp2_with (first | (refine wpList_build_is rfl 25 #[] rfl [] (by simp) _ BZ.out ?_) | (refine wpList_store_row rfl 25 (.tmp 4) (.tmp 17) rfl r zeroN rfl rfl 25 zeroN HR3.out (infN rfl) rfl (by kernel_rfl) ?_))
  refine bodyPost_ret (results_cell2 rfl _ _ r 25 zeroN (0,0) _ rfl (setRow_heap _ _ _ _ _ _ HR3.out) (.int .i64 8) rfl Tryz.underlying25 rfl (infN rfl)) rfl ?_
  exact⟨_,by rw [HZ.out],by rw [HZ.out];exact zero_reads _ _,hbel3.trans ((FrO.setRow (O:=fun j=>j=r) rfl).below hbel3.size fun j hj=>by subst hj;exact hwr)⟩
 case neg=>
 have q1:(p.toList == [])=false:=by
  rw [beq_eq_false_iff_ne]
  exact fun e=>hpe (nil_list e)
 have HPE:=hide hpe
 clear hpe
 go_upto_region 6 with (first | (refine wpList_load_row rfl 25 (.tmp 2) rfl b rfl 25 (t.h.cells (.slice A t.ks.len c) (.slice A2 t.ss.length c2)) (0,0) _ HB3.out Tryz.underlying25 rfl (infN rfl) ?_) | (go_at_call 64;refine(CL.out _ HV3.out).mono ?_;rintro e w5 ⟨r5,rfl,ho5,hb5⟩;obtain⟨kv5,sv5,O5,rfl,hs5,hk5,hO5⟩:=ho5;obtain⟨A5,c5,rfl⟩:=hk5.slice;obtain⟨A6,c6,rfl⟩:=own_slice hs5;have HB5:=hide (Blk.below hb5 HB3.out)) | (refine wpList_store_row rfl 25 (.tmp 2) (.tmp 19) rfl b (t.h.cells (.slice A5 t.ks.len c5) (.slice A6 t.ss.length c6)) rfl rfl 25 (t.h.cells (.slice A t.ks.len c) (.slice A2 t.ss.length c2)) HB5.out (infN rfl) rfl (nodeLit _ _ _ _ _ _ _) ?_))
 dsimp only [Act.put]
 have hf56:FrO (fun j=>j=b) w5 (w5.setRow b (t.h.cells (.slice A5 t.ks.len c5) (.slice A6 t.ss.length c6))):=FrO.setRow rfl
 have hSK:StrK w5 (w5.setRow b (t.h.cells (.slice A5 t.ks.len c5) (.slice A6 t.ss.length c6))):=StrK.of hf56 (fun j cs fr e=>by subst e;exact HB5.out.notStr cs fr)
 have hb3w:=HB3.out.lt
 have hr3w:=HR3.out.lt
 have hw3:=hbel3.size
 have hO6:=fun j (hj:O5 j)=>(show w.heap.size≤j∧j≠b∧j≠r by have:=(hO5 j hj).1;exact⟨by omega,by omega,by omega⟩)
 have HO6:=hide hO6
 have hO7:=fun j (hj:O5 j)=>(show j < w5.heap.size from(hO5 j hj).2)
 have HO7a:=hide hO7
 have HS6:=hide (own_base (own_fr hf56 hs5 (fun g hg=>by have:=(hs5.lt g hg).1;omega)) hw3)
 have HK6:=hide (KidS.base hw3 (hk5.frame hSK fun j hj hoj=>hf56.block j hj (fun e=>(hO6 j hoj).2.1 e)))
 have HB6:=hide (show Blk (w5.setRow b (t.h.cells (.slice A5 t.ks.len c5) (.slice A6 t.ss.length c6))) b (t.h.cells (.slice A5 t.ks.len c5) (.slice A6 t.ss.length c6)) 25 from setRow_heap _ _ _ _ _ _ HB5.out)
 have HR6:=hide (hf56.blk (Blk.below hb5 HR3.out) (fun e=>hbr e.symm))
 have hbel6:Below w.heap.size w (w5.setRow b (t.h.cells (.slice A5 t.ks.len c5) (.slice A6 t.ss.length c6))):=(hbel3.trans (hb5.mono hw3)).trans (hf56.below (by have:=hb5.size;omega) fun j hj=>by subst hj;exact hwb)
 have hz56:=hf56.size
 generalize w5.setRow b (t.h.cells (.slice A5 t.ks.len c5) (.slice A6 t.ss.length c6))=W6 at *
 clear hf56 hSK hs5 hk5 hO5 HB5 hb5 HB3 HR3 HT3 HV3 hbel3 hb3w hr3w hw3 hO6 hO7 CL
 go_upto_region 7 with fail
 have hb7:Below W6.heap.size W6 (W6.alloc (.cells #[.string p] 9)):=(Below.refl _ _).alloc (Nat.le_refl _) _
 have HS7:=hide (below_row' HS6.out hb7)
 have HK7:=hide (HK6.out.below hb7)
 have HB7:=hide (Blk.below hb7 HB6.out)
 have HR7:=hide (Blk.below hb7 HR6.out)
 have HC7:=hide (show Blk (W6.alloc (.cells #[.string p] 9)) W6.heap.size #[.string p] 9 from Blk.newAt rfl)
 have hbel7:=hbel6.trans (hb7.mono hbel6.size)
 have hlt6:b < W6.heap.size∧r < W6.heap.size∧w.heap.size≤W6.heap.size:=⟨HB6.out.lt,HR6.out.lt,hbel6.size⟩
 generalize W6.alloc (.cells #[.string p] 9)=W7 at *
 have hO7b:∀j,O5 j→¬j=W6.heap.size:=fun j hj e=>by have:=HO7a.out j hj;omega
 have HO7:=hide hO7b
 clear hO7b HO7a
 generalize W6.heap.size=cn at *
 clear HS6 HK6 HB6 HR6 hb7 hbel6
 have LI:=hide (fun W=>lastIndex_any p (by omega) W)
 go_upto_region 8 with (go_at_call 76;refine(LI.out _).mono ?_;rintro e w' ⟨ri,rfl,hri,rfl⟩)
 have HRI:=hide hri
 clear LI hri
 go_upto_if 24 with fail
 go_cut [6] from 11 (fun s6 wc=>∃par nm,s6=.string par∧CutP p par nm∧Blk wc cn #[.string nm] 9∧FrO (fun j=>j=cn) W7 wc)
 case first=>
  rcases HRI.out with⟨rfl,hno⟩ | ⟨i,rfl,hat,hnx⟩
  ·have HNO:=hide hno
   clear hno
   go_wp2_with fail
   go_meet
   exact⟨_,_,rfl,cutP_one HNO.out,HC7.out,FrO.of (Below.refl _ _)⟩
  ·have hil:=last_size hat
   have HAT:=hide hat
   have HNX:=hide hnx
   have hi0:(0:Int)≤(i:Int):=by omega
   have c7:W7.cell? ⟨cn,0,none⟩=some (.string p):=HC7.out.cells 0
   have f7:=HC7.out.free 0
   clear hat hnx
   have hkeep:True∧True:=⟨trivial,trivial⟩
   have hwrp:IntKind.i64.wrap ((i:Int)+1)=(i:Int)+1:=IntWalk.i64_in _ (by omega)
   have hnat:((i:Int)+1).toNat=i+1:=by omega
   have hip:i≤p.size:=Nat.le_of_lt hil
   have hip1:(i:Int)+1≤(p.size:Int):=by omega
   have hi1:(0:Int)≤(i:Int)+1:=by omega
   go_upto_region 9 with fail
   refine wp_region_noPanic ?_
   refine wp_region_held_drew (S:=(fun _=>True∧True)) (by kernel_rfl) kp (fun hHeld=>?_)
   refine tkZ 0 ⟨some 25,.move (.tmp 1),9, "sourcetree.go:290",#[],none⟩ ?_
   refine tkZ 1 ⟨some 26,.move (.tmp 8),3, "sourcetree.go:290",#[],none⟩ ?_
   refine tkZ 2 ⟨some 27,.slice 9 (.tmp 25) none (some (.tmp 26)) none,9, "sourcetree.go:290",#[⟨0,.data⟩,⟨1,.data⟩],none⟩ ?_
   refine tkZ 3 ⟨some 28,.move (.tmp 1),9, "sourcetree.go:290",#[],none⟩ ?_
   refine tkZ 4 ⟨some 29,.move (.tmp 8),3, "sourcetree.go:290",#[],none⟩ ?_
   refine tkZ 5 ⟨some 30,.binOp .add 3 (.tmp 29) (.const (.int .i64 1)) 3,3, "sourcetree.go:290",#[⟨4,.data⟩],none⟩ ?_
   refine tkZ 6 ⟨some 31,.slice 9 (.tmp 28) (some (.tmp 30)) none none,9, "sourcetree.go:290",#[⟨3,.data⟩,⟨5,.data⟩],none⟩ ?_
   refine tkZ 7 ⟨some 6,.assign (.tmp 27),9, "sourcetree.go:290",#[⟨2,.data⟩,⟨0,.phase⟩,⟨1,.phase⟩,⟨2,.phase⟩,⟨3,.textOnly .lateStores⟩,⟨4,.textOnly .lateStores⟩,⟨5,.textOnly .lateStores⟩,⟨6,.textOnly .lateStoresUnsure⟩],none⟩ ?_
   refine rqS [8] (rqC ⟨none,.store 9 (.tmp 7) (.tmp 31),0, "sourcetree.go:290",(phs [⟨6,.data⟩,⟨7,.chain⟩] 8),none⟩ (fun K hK=>?_) rq0)
   go_simp
   refine hK.out _ _ kp (fun hHeld=>?_)
   clear hK K
   try simp only [PT]
   refine wpAnyH_done (by kernel_rfl) ?_ _
   refine NoPanic.normal ?_
   by_cases hpar:p.extract 0 i=eS
   ·have q2:((p.extract 0 i).toList == [])=true:=by rw [hpar,ByteArray.toList_eq];rfl
    have HZ:=hide (cutP_slash HVB.out HAT.out HNX.out hpar)
    have hf9:FrO (fun j=>j=cn) W7 (W7.drew.setCell ⟨cn,0,none⟩ (.string (p.extract (i+1) p.size))):=(FrO.of (O:=fun j=>j=cn) ((Below.refl _ _).drew)).trans (FrO.set (O:=fun j=>j=cn) rfl) (fun j h=>Or.inl h)
    have HR9:=hide (hf9.blk HR7.out (fun e=>by omega))
    have hbel9:=hbel7.trans (hf9.below hbel7.size fun j hj=>by subst hj;exact hlt6.2.2)
    clear hpar
    go_wp2_with (first | (refine wpList_build_is rfl 25 #[] rfl [] (by simp) _ BZ.out ?_) | (refine wpList_store_row rfl 25 (.tmp 4) (.tmp 34) rfl r zeroN rfl rfl 25 zeroN HR9.out (infN rfl) rfl (by kernel_rfl) ?_))
    refine bodyPost_ret (results_cell2 rfl _ _ r 25 zeroN (0,0) _ rfl (setRow_heap _ _ _ _ _ _ HR9.out) (.int .i64 6) rfl Tryz.underlying25 rfl (infN rfl)) rfl ?_
    exact⟨_,by rw [HZ.out],by rw [HZ.out];exact zero_reads _ _,hbel9.trans ((FrO.setRow (O:=fun j=>j=r) rfl).below hbel9.size fun j hj=>by subst hj;exact hwr)⟩
   ·have q2:((p.extract 0 i).toList == [])=false:=by
     rw [beq_eq_false_iff_ne]
     exact fun e=>hpar (nil_list e)
    have HCP:=hide (cutP_at HAT.out HNX.out hpar)
    clear hpar
    go_wp2_with fail
    go_meet
    exact⟨_,_,rfl,HCP.out,(Blk.drew HC7.out).put rfl,(FrO.of (O:=fun j=>j=cn) ((Below.refl _ _).drew)).trans (FrO.set (O:=fun j=>j=cn) rfl) (fun j h=>Or.inl h)⟩
 case rest=>
 obtain⟨par,nm,rfl,⟨hp1,hp2,hp3⟩,hC,hF⟩:=hcut
 have hSKc:=StrK.of hF (fun j cs fr e=>by subst e;exact Blk.notStrT (by decide) HC7.out cs fr)
 have hbelc:=hbel7.trans (hF.below hbel7.size fun j hj=>by subst hj;exact hlt6.2.2)
 have HBc:=hide (hF.blk HB7.out (fun e=>by omega))
 have HRc:=hide (hF.blk HR7.out (fun e=>by omega))
 have HCc:=hide hC
 have hOc:∀j,O5 j→w.heap.size≤j∧j≠b:=fun j hj=>⟨(HO6.out j hj).1,(HO6.out j hj).2.1⟩
 have hO7:∀j,O5 j→j < W7.heap.size→¬j=cn:=fun j hj _=>HO7.out j hj
 have HSc:=own_keep HS7.out fun g cs _ hg=>hSKc g cs _ hg
 have HKc:=HK7.out.frame hSKc fun j hj hoj=>hF.block j hj (hO7 j hoj hj)
 have h0:AtH wc w.heap.size b O5 t 60000 [] t b 0:=⟨_,.here,Hole.root hwb HBc.out HSc HKc hOc,hsz⟩
 have FN:=hide (find_any (AtH wc w.heap.size b O5 t 60000) t b 0 par (by omega) wc (HTW.out.below hbelc) (AtH.down wc w.heap.size b O5 t 60000 (by omega)) h0)
 rw [hp1] at FN
 have HNM:=hide hp2
 clear HSc HKc h0 hOc hO7 hSKc hp1 hp2 hF hC HS7 HK7 HB7 HR7 HC7 HRI
 cases hfd:findT t (dirs p) with
 | none=>
  have HZ:=hide (remQ_none HVB.out HPE.out hfd)
  rw [hfd] at FN
  clear hfd
  go_wp2_with (first | (go_at_call 63;refine FN.out.mono ?_;rintro e w12 ⟨r4,rfl,hr4,hb12⟩;have hr4':r4=none:=hr4;subst hr4';have HR12:=hide (Blk.below hb12 HRc.out)) | (refine wpList_build_is rfl 25 #[] rfl [] (by simp) _ BZ.out ?_) | (refine wpList_store_row rfl 25 (.tmp 4) (.tmp 39) rfl r zeroN rfl rfl 25 zeroN HR12.out (infN rfl) rfl (by kernel_rfl) ?_))
  refine bodyPost_ret (results_cell2 rfl _ _ r 25 zeroN (0,0) _ rfl (setRow_heap _ _ _ _ _ _ HR12.out) (.int .i64 6) rfl Tryz.underlying25 rfl (infN rfl)) rfl ?_
  exact⟨_,by rw [HZ.out],by rw [HZ.out];exact zero_reads _ _,(hbelc.trans (hb12.mono hbelc.size)).trans ((FrO.setRow (O:=fun j=>j=r) rfl).below (by have:=hbelc.size;have:=hb12.size;omega) fun j hj=>by subst hj;exact hwr)⟩
 | some x=>
  have HFD:=hide hfd
  rw [hfd] at FN
  clear hfd
  go_upto_region 15 with (go_at_call 63;refine FN.out.mono ?_;rintro e w12 ⟨r12,rfl,⟨xb,xo,rfl,⟨U,hU,hH,hxs⟩⟩,hb12⟩)
  clear FN
  obtain⟨kvx,svx,Ox,cur,hxb,hOb,hBx,hcx,⟨xk,Ok,hown,hrow,hok1,hok2⟩,hOx,hrest⟩:=hH
  have HKx:=hide (show KidS wc w.heap.size kvx x.ks Ox from⟨xk,Ok,hown,hrow,hok1,hok2⟩)
  obtain⟨Ak,ck,rfl⟩:=own_slice hown
  have hbel12:=hbelc.trans (hb12.mono hbelc.size)
  have HBx:=hide hBx
  have HUP:=hide hU.upd
  have HREST:=hide hrest
  have HROW:=hide hrow
  have HOWN:=hide hown
  have HOX:=hide hOx
  have HOK1:=hide hok1
  have HOK2:=hide hok2
  have HOB:=hide hOb
  have HCX:=hide hcx
  have hxlen:x.ks.len≤60000:=by have:=x.ks.len_sz;unfold Tr.sz at hxs;omega
  have hl12:Left w12 w12.heap.size (Ak) x.ks 0:=by
   obtain⟨A',c',e,hk⟩:=(HKx.out.below hb12).read (Nat.le_refl _)
   injection e with e1 e2 e3
   subst e1
   exact Left.of hk
  have IX:=hide (index_any 78 nm cn (rem_name nm cn) x.ks Ak ck w12.heap.size (by omega) w12 (Nat.le_refl _) hl12 (Blk.below hb12 HCc.out))
  have c10:w12.cell? ⟨xb,xo+10,none⟩=some (.slice Ak x.ks.len ck):=(hb12.cell (p:=⟨xb,xo+10,none⟩) HBx.out.lt).trans ((HBx.out.cells (xo+10)).trans (HCX.out 10 _ rfl))
  clear hl12 hU hrest hrow hown hOx hok1 hok2 hBx hcx hOb
  cases hki:kidI x.ks nm with
  | none=>
   have HZ:=hide (remQ_miss HVB.out HPE.out HFD.out (by rw [HNM.out];exact hki))
   rw [hki] at IX
   have HR12:=hide (Blk.below hb12 HRc.out)
   clear hki
   go_wp2_with (first | (go_at_call 77;refine IX.out.mono ?_;rintro e w15 ⟨rfl,hb15⟩;have HR15:=hide (Blk.below hb15 HR12.out)) | (refine wpList_build_is rfl 25 #[] rfl [] (by simp) _ BZ.out ?_) | (refine wpList_store_row rfl 25 (.tmp 4) (.tmp 48) rfl r zeroN rfl rfl 25 zeroN HR15.out (infN rfl) rfl (by kernel_rfl) ?_))
   refine bodyPost_ret (results_cell2 rfl _ _ r 25 zeroN (0,0) _ rfl (setRow_heap _ _ _ _ _ _ HR15.out) (.int .i64 6) rfl Tryz.underlying25 rfl (infN rfl)) rfl ?_
   exact⟨_,by rw [HZ.out],by rw [HZ.out];exact zero_reads _ _,(hbel12.trans (hb15.mono hbel12.size)).trans ((FrO.setRow (O:=fun j=>j=r) rfl).below (by have:=hbel12.size;have:=hb15.size;omega) fun j hj=>by subst hj;exact hwr)⟩
  | some i=>
   have HZ:=hide (remQ_hit HVB.out HPE.out HFD.out (by rw [HNM.out];exact hki))
   rw [hki] at IX
   have hil:=kidI_lt hki
   clear hki
   obtain⟨g,cap,cg,hsl,hlg,hBg,hnc,-,-,-⟩:=own_blk HOWN.out (by omega)
   injection hsl with hsl1 hsl2 hsl3
   subst hsl1;subst hsl3
   have hg:=HOK2.out g rfl
   have hgx:g≠xb:=(HOX.out g hg).2.2.1
   have hgb:g≠b:=(HOX.out g hg).2.2.2
   have hgr:g≠r:=(HO6.out g (HOX.out g hg).1).2.2
   have hxr:xb≠r:=by
    rcases HOB.out with h | h
    ·exact(HO6.out xb h).2.2
    ·rw [h];exact hbr
   obtain⟨m,hm⟩:∃m,x.ks.len=m+1:=⟨x.ks.len - 1,by omega⟩
   have HLM:=hide (show(x.ks.dropAt i).len=m by rw [Fo.dropAt_len hil,hm];rfl)
   have HM:=hide hm
   have him:i < m+1∧m≤1000000:=by omega
   clear hm
   have IX2:=hide (show Calls Tryz.prog 77 #[.slice (some ⟨g,0,none⟩) x.ks.len ck,.func (.func 78) #[] #[.pointer (some ⟨cn,0,none⟩)]] w12 fun e w'=>e=.returned (.int .i64 (i:Int))∧Below w12.heap.size w12 w' from IX.out)
   clear IX
   go_upto_region 16 with (go_at_call 77;refine IX2.out.mono ?_;rintro e w15 ⟨rfl,hb15⟩)
   have hbW:=hb12.trans (hb15.mono hb12.size)
   have DL0:=delete_any w.heap.size g ck m i xk w15 (by rw [←HM.out];exact below_row' HOWN.out hbW) (HROW.out.one) him.1 him.2
   rw [←HM.out] at DL0
   have DL:=hide DL0
   have d10:w15.cell? ⟨xb,xo+10,none⟩=some (.slice (some ⟨g,0,none⟩) x.ks.len ck):=(hb15.cell (p:=⟨xb,xo+10,none⟩) (cell_lt c10)).trans c10
   clear IX2 c10 DL0
   go_upto_region 19 with (go_at_call 79;refine DL.out.mono ?_;rintro e w18 ⟨rfl,hown18,hfr18⟩;have HB18:=hide (hfr18.blk (Blk.below hbW HBx.out) (fun e=>hgx e.symm));have e10:w18.cell? ⟨xb,xo+10,none⟩=some (.slice (some ⟨g,0,none⟩) x.ks.len ck):=(HB18.out.cells (xo+10)).trans (HCX.out 10 _ rfl);have f10:=HB18.out.free (xo+10))
   have hfr0:FrO (fun j=>j=g∨j=xb∨j=r) wc w18:=(FrO.of (O:=fun j=>j=g∨j=xb∨j=r) hbW).trans hfr18 (fun j h=>Or.inl (Or.inl h))
   have hfr:FrO (fun j=>j=g∨j=xb∨j=r) wc (w18.setCell ⟨xb,xo+10,none⟩ (.slice (some ⟨g,0,none⟩) m ck)):=hfr0.trans (FrO.set (O:=fun j=>j=xb) rfl) (fun j h=>Or.inl (Or.inr (Or.inl h)))
   have hsn:(Value.slice (some ⟨g,0,none⟩) m ck).ownBlock≠some xb:=fun e=>hgx (by injection e)
   have HOWN9:=hide (own_set (i:=xo+10) (u:=.slice (some ⟨g,0,none⟩) m ck) hown18 hsn)
   have HB9:=hide (show Blk (w18.setCell ⟨xb,xo+10,none⟩ (.slice (some ⟨g,0,none⟩) m ck)) xb (cur.setIfInBounds (xo+10) (.slice (some ⟨g,0,none⟩) m ck)) 25 from HB18.out.put rfl)
   have hbrw:b < wc.heap.size∧r < wc.heap.size:=⟨HBc.out.lt,HRc.out.lt⟩
   have HR9:=hide (show Blk (w18.setCell ⟨xb,xo+10,none⟩ (.slice (some ⟨g,0,none⟩) m ck)) r zeroN 25 from Blk.other (Ne.symm hxr) (hfr18.blk (Blk.below hbW HRc.out) (fun e=>hgr e.symm)))
   have fin:∀w',FrO (fun j=>j=g∨j=xb∨j=r) wc w'→Blk w' xb (cur.setIfInBounds (xo+10) (.slice (some ⟨g,0,none⟩) m ck)) 25→w'.ownsRow w.heap.size 25 12 (.slice (some ⟨g,0,none⟩) m ck) m (xk.take (i*12)++xk.drop ((i+1)*12))→∃kvR svR,Blk w' b ((U (x.ks.dropAt i)).h.cells kvR svR) 25∧StR w' w'.heap.size svR (U (x.ks.dropAt i)).ss∧KidR w' w'.heap.size kvR (U (x.ks.dropAt i)).ks:=fun w' hfr hBw hownw=>by
    have hSK:=StrK.of hfr (fun j cs fr h=>by
     rcases h with rfl | rfl | rfl
     ·exact hBg.notStr cs fr
     ·exact HBx.out.notStr cs fr
     ·exact HRc.out.notStr cs fr)
    refine HREST.out w' w'.heap.size _ _ hSK (fun j hj h3 h4 h5=>hfr.block j hj (fun e=>?_)) hBw (Nat.le_refl _) ?_
    ·rcases e with rfl | rfl | rfl
     ·exact h4 hg
     ·exact h5 rfl
     ·rcases h3 with h | h
      ·exact(HO6.out _ h).2.2 rfl
      ·exact hbr h.symm
    ·refine KidR.of_own (lo:=w.heap.size) (xs:=xk.take (i*12)++xk.drop ((i+1)*12)) (Nat.le_refl _) (by rw [HLM.out];exact hownw) (((RowS.drop i HROW.out).frame hSK fun j hj hoj=>hfr.block j hj (fun e=>?_)).read (Nat.le_refl _))
     obtain⟨a1,a2⟩:=HOK1.out j hoj
     obtain⟨b1,b2,b3,b4⟩:=HOX.out j a1
     rcases e with rfl | rfl | rfl
     ·exact a2 rfl
     ·exact b3 rfl
     ·exact(HO6.out _ b1).2.2 rfl
   obtain⟨kvR,svR,hBR,⟨A8,c8,rfl,hs8⟩,A7,c7,rfl,hk8⟩:=fin _ hfr HB9.out HOWN9.out
   have HBR:=hide hBR
   have FIN:=hide fin
   have HFR:=hide hfr
   have hbel19:Below w.heap.size w (w18.setCell ⟨xb,xo+10,none⟩ (.slice (some ⟨g,0,none⟩) m ck)):=hbelc.trans (hfr.below hbelc.size fun j hj=>by
    rcases hj with rfl | rfl | rfl
    ·exact hlg
    ·exact hxb
    ·exact hwr)
   clear hs8 hk8 hBR fin hfr hfr0 hown18 hfr18 e10 f10 DL d10 HREST
   generalize w18.setCell ⟨xb,xo+10,none⟩ (.slice (some ⟨g,0,none⟩) m ck)=W19 at *
   have HU:=hide (HUP.out (x.ks.dropAt i))
   generalize U (x.ks.dropAt i)=tr at *
   go_wp2_with (first | (refine wpList_load_row rfl 25 (.tmp 2) rfl b rfl 25 (tr.h.cells (.slice A7 tr.ks.len c7) (.slice A8 tr.ss.length c8)) (0,0) _ HBR.out Tryz.underlying25 rfl (infN rfl) ?_) | (refine wpList_store_row rfl 25 (.tmp 4) (.tmp 60) rfl r (tr.h.cells (.slice A7 tr.ks.len c7) (.slice A8 tr.ss.length c8)) rfl rfl 25 zeroN HR9.out (infN rfl) rfl (nodeLit _ _ _ _ _ _ _) ?_))
   refine bodyPost_ret (results_cell2 rfl _ _ r 25 (tr.h.cells (.slice A7 tr.ks.len c7) (.slice A8 tr.ss.length c8)) (0,0) _ rfl (setRow_heap _ _ _ _ _ _ HR9.out) (.int .i64 0) rfl Tryz.underlying25 rfl (infN rfl)) rfl ?_
   have hfs:FrO (fun j=>j=r) W19 (W19.setRow r (tr.h.cells (.slice A7 tr.ks.len c7) (.slice A8 tr.ss.length c8))):=FrO.setRow rfl
   obtain⟨kvF,svF,hBF,hsF,hkF⟩:=FIN.out _ (HFR.out.trans hfs (fun j h=>Or.inl (Or.inr (Or.inr h)))) (hfs.blk HB9.out hxr) (own_fr hfs HOWN9.out (fun j e=>by injection e with e;exact fun h=>hgr (by rw [←h,←e])))
   have hBF2:=hfs.blk HBR.out hbr
   unfold Blk at hBF hBF2
   rw [hBF2] at hBF
   injection hBF with hBF
   injection hBF with hBF
   refine⟨_,by rw [HZ.out],?_,hbel19.trans (hfs.below hbel19.size fun j hj=>by subst hj;exact hwr)⟩
   rw [HZ.out,←HU.out]
   exact⟨kvF,svF,by rw [hBF],hsF,hkF⟩
theorem append_blockS {P:Program} (w:World) (base:Nat) (t u ty e:TypeId) (i:TypeInfo) (ht:P.underlying t=some (.slice e)) (hu:P.underlying u=some .string) (hi:P.info? e=some i) (hz:i.zero=some (.int .u8 0)) (hsize:i.size=1) (hby:i.bytes=1)
  (v:Value) (n:Nat) (xs:List Value) (hown:w.ownsRow base e 1 v n xs) (s:ByteArray) (h63:n+s.size≤maxLen) (hbytes:n+s.size≤140737488355328) (v':Value) (w':World)
  (hr:(Builtin.append_ #[t,u] ty #[v,.string s]).run P w=.ok v' w'):v'.ownBlock=v.ownBlock∨v'.ownBlock=some w.heap.size:=by
 have hsmall:n+s.size≤9223372036854775807:=by simp only [maxLen] at h63;omega
 have hxl:xs.length=n:=by simpa using hown.1
 rcases hown.2 with⟨rfl,rfl⟩ | ⟨g,cap,cur,rfl,hbg,hg,hnc,hcm,hcs,htake⟩
 ·by_cases hm:s.size=0
  ·have hf:=Lib.run_firstCells_string (P:=P) w 1 s
   have hn:Lib.strCells s=[]:=List.eq_nil_of_length_eq_zero (by rw [Lib.strCells_length];exact hm)
   rw [hm,hn] at hf
   simp [Builtin.append_,run_underlying ht,run_underlying hu,sizeOf,typeInfo,hi,hsize,Builtin.lenOf,hm,hf] at hr
   exact Or.inl (by rw [←hr.1])
  ·rw [run_append_nil_string (P:=P) w t u ty e i (.int .u8 0) ht hu hi hz s (by omega) (by omega) (by rw [hby];omega)] at hr
   injection hr with h1 h2
   exact Or.inr (by rw [←h1];rfl)
 ·by_cases hroom:n+s.size≤cap
  ·have hcs':cur.size=cap:=by simpa using hcs
   rw [Lib.run_append_room_string (P:=P) w t u ty e i ht hu hi hsize g n cap cur hg s hroom (by omega)] at hr
   injection hr with h1 h2
   exact Or.inl (by rw [←h1];rfl)
  ·have holds:∀j u,xs[j]? = some u→w.cell? ((⟨g,0,none⟩:Addr).add j)=some u:=hown.cells (g:=g) rfl
   rw [Lib.run_append_grow_string (P:=P) w t u ty e i (.int .u8 0) ht hu hi hz ⟨g,0,none⟩ n cap xs (by rw [hsize];simpa using hxl) holds s (by omega) (by omega) (by rw [hby];exact growslice_fits (by omega) (by omega))] at hr
   injection hr with h1 h2
   exact Or.inr (by rw [←h1];rfl)
theorem wpList_append_strB (w:World) {ops:Array Oper} {rest:List Oper} {o:Oper} {a:Act} {Q:Exit→Act→World→Prop} (hgd:o.guard=none) (sl x:Operand)
  (ho:o.op=.call { callee:=.builtin .append,args:=#[sl,x],argTypes:=#[79,9] })
  (base:Nat) (v:Value) (n:Nat) (xs:List Value) (hs:a.eval sl=v) (hown:w.ownsRow base 5 1 v n xs) (s:ByteArray) (hx:a.eval x=.string s)
  (h63:n+s.size≤1000000000) (hbase:base≤w.heap.size)
  (h:∀v' w',w'.ownsRow base 5 1 v' (n+s.size) (xs++Lib.strCells s)→(v'.ownBlock=v.ownBlock∨v'.ownBlock=some w.heap.size)→w.grownBy w' v.ownBlock→wpList Tryz.prog ops Q rest (a.put o.dst v') w'):wpList Tryz.prog ops Q (o :: rest) a w:=by
 obtain⟨i,hi,hz0,hz1,hz2⟩:=info_parts u8Info
 refine wpList_plain hgd fun K hK=>?_
 have h63':n+s.size≤maxLen:=by unfold maxLen;omega
 obtain⟨v',w',hr,h2,h3,h4⟩:=Lib.run_append_own_string (P:=Tryz.prog) w base 79 9 o.type 5 i Tryz.underlying79 Tryz.underlying9 hi hz0 hz1 hz2 v n xs hown s h63' (by omega) hbase
 have hb:=append_blockS w base 79 9 o.type 5 i Tryz.underlying79 Tryz.underlying9 hi hz0 hz1 hz2 v n xs hown s h63' (by omega) v' w' hr
 unfold Oper.wp execOp
 simp only [ho,resolve,invoke,builtin,Sem.run_bind,Sem.run_pure,Result.andThen_ok,List.map_toArray,List.map_cons,List.map_nil,hs,hx,hr]
 exact hK _ _ (h v' w' h2 hb h3)
def BR (B b:Nat) (l:List UInt8) (v:Value) (w:World):Prop:=∃p,(p=.pointer none∨p=.pointer (some ⟨b,0,none⟩))∧Blk w b #[p,v] 81∧w.ownsRow B 5 1 v l.length (Lib.byteCells l)∧B≤b
theorem BR.below {B b:Nat} {l:List UInt8} {v:Value} {w w':World} (h:BR B b l v w) (hb:Below w.heap.size w w'):BR B b l v w':=by
 obtain⟨p,hp,h1,h2,h3⟩:=h
 exact⟨p,hp,Blk.below hb h1,below_row' h2 hb,h3⟩
theorem BR.lt {B b:Nat} {l:List UInt8} {v:Value} {w:World} (h:BR B b l v w):b < w.heap.size:=by
 obtain⟨p,hp,h1,h2,h3⟩:=h
 exact h1.lt
theorem BR.ge {B b:Nat} {l:List UInt8} {v:Value} {w:World} (h:BR B b l v w):B≤b:=by
 obtain⟨p,hp,h1,h2,h3⟩:=h
 exact h3
theorem BR.row {B b:Nat} {l:List UInt8} {v:Value} {w:World} (h:BR B b l v w) (j:Nat) (hj:v.ownBlock=some j):B≤j∧j < w.heap.size∧j≠b:=by
 obtain⟨p,hp,h1,h2,h3⟩:=h
 refine⟨(h2.lt j hj).1,(h2.lt j hj).2,fun e=>own_neBlk h2 h1 (by decide) (by rw [hj,e])⟩
theorem BR.fresh {w:World} {B n:Nat} (hn:w.heap.size=n) (hB:B≤n):BR B n [] (.slice none 0 0) (w.alloc (.cells #[.pointer none,.slice none 0 0] 81)):=
 ⟨_,Or.inl rfl,Blk.newAt hn,World.ownsRow_nil _ _ _ _,hB⟩
theorem BR.is {B b:Nat} {l:List UInt8} {v:Value} {w:World} (h:BR B b l v w):Lib.IsBuilder 81 5 B b (Lib.byteCells l) w:=by
 have hr:=fun j hj=>(h.row j hj).2.2
 obtain⟨p,hp,h1,h2,h3⟩:=h
 have hb:Lib.BuilderAt 81 5 B b p (Lib.byteCells l) w:=⟨h3,v,h1,by rw [Lib.byteCells_length];exact h2,fun e=>hr b e rfl⟩
 rcases hp with rfl | rfl
 ·exact Or.inl hb
 ·exact Or.inr hb
theorem BR.base {B B' b:Nat} {l:List UInt8} {v:Value} {w:World} (h:BR B b l v w) (hB:B'≤B):BR B' b l v w:=by
 obtain⟨p,hp,h1,h2,h3⟩:=h
 exact⟨p,hp,h1,own_base h2 hB,Nat.le_trans hB h3⟩
def WrP (B b:Nat) (l:List UInt8) (v:Value) (w w':World):Prop:=∃v',BR B b l v' w'∧(∀j,v'.ownBlock=some j→v.ownBlock=some j∨w.heap.size≤j)∧FrO (fun j=>j=b∨v.ownBlock=some j) w w'
theorem ccheck_any (B b:Nat) (l:List UInt8) (v:Value) (w:World) (h:BR B b l v w):Calls Tryz.prog 131 #[.pointer (some ⟨b,0,none⟩)] w fun e w'=>e=.returned (.tuple #[])∧Blk w' b #[.pointer (some ⟨b,0,none⟩),v] 81∧FrO (fun j=>j=b) w w':=by
 obtain⟨p,hp,h1,h2,h3⟩:=h
 rcases hp with rfl | rfl
 ·refine(Any.Builder_copyCheck_fresh (ρ:=Tryz.lays166_ren) { Tryz.lays166 with } Tryz.Builder_Extra_166.toX72 b w (h1.cells 0) (by simp [World.shape?,show w.heap[b]? = _ from h1];rfl) (h1.free 0)).mono fun e w' ⟨he,hw⟩=>?_
  subst hw
  exact⟨he,Blk.put rfl h1,FrO.set rfl⟩
 ·refine(Any.Builder_copyCheck_used (ρ:=Tryz.lays166_ren) { Tryz.lays166 with } Tryz.Builder_Extra_166.toX72 b w (h1.cells 0)).mono fun e w' ⟨he,hw⟩=>?_
  subst hw
  exact⟨he,h1,FrO.of (Below.refl _ _)⟩
theorem wb_any (B b:Nat) (l:List UInt8) (v:Value) (c:UInt8) (w:World) (h:BR B b l v w) (hlen:l.length≤100000000) (hBw:B≤w.heap.size):Calls Tryz.prog 130 #[.pointer (some ⟨b,0,none⟩),.int .u8 (c.toNat:Int)] w fun e w'=>e=.returned .nilIface∧WrP B b (l++[c]) v w w':=by
 have HB:=hide h
 have CC:=hide (ccheck_any B b l v w h)
 have hne:∀j,v.ownBlock=some j→j≠b:=fun j hj=>(h.row j hj).2.2
 have HNE:=hide hne
 have HBB:=hide h.ge
 have HOWN:=hide (show w.ownsRow B 5 1 v l.length (Lib.byteCells l) by obtain⟨p,hp,h1,h2,h3⟩:=h;exact h2)
 clear h hne
 have HL:Live w []:=trivial
 go_enter Tryz.func130,Tryz.ntmps130
 go_upto_region 2 with (go_at_call 131;refine CC.out.mono ?_;rintro e w1 ⟨rfl,hb1,hf1⟩)
 have HB1:=hide hb1
 have HO1:=hide (own_fr hf1 HOWN.out (fun g e=>HNE.out g e))
 have c1:=hb1.cells 1
 have hz1:=hf1.size
 clear hb1
 go_wp2_with (at_builtin;refine wpList_append_blk _ rfl _ _ 79 rfl B 5 u8Info Tryz.underlying79 rfl (by decide) v _ _ (HO1.out.alloc _) w1.heap.size #[.int .u8 (c.toNat:Int)] (Blk.newAt rfl) rfl rfl rfl (by simp [Value.oneCell']) (by unfold maxLen;omega) (by omega) (by rw [World.size_alloc];omega) ?_;intro v2 w2 hown2 hnb2 hg2;obtain⟨A2,cap2,hv2⟩:=own_slice hown2;subst hv2;have HB2:=hide (show Blk w2 b #[.pointer (some ⟨b,0,none⟩),v] 81 from(hg2.block b (by rw [World.size_alloc];have:=HB1.out.lt;omega) (fun e=>HNE.out b e.symm rfl)).trans (HB1.out.alloc _));have f2:=HB2.out.free 1;have c2:=HB2.out.cells 1)
 go_ret
 have hbw:b < w1.heap.size:=HB1.out.lt
 have hn2:(Value.slice A2 (l.length+1) cap2).ownBlock≠some b:=by
  rcases hnb2 with h | h
  ·rw [h];exact fun e=>HNE.out b e rfl
  ·rw [h,World.size_alloc];intro e;injection e with e;omega
 refine⟨rfl,_,⟨_,Or.inr rfl,HB2.out.put rfl,?_,HBB.out⟩,fun j hj=>?_,?_⟩
 ·have e1:Lib.byteCells (l++[c])=Lib.byteCells l++(#[Value.int .u8 (c.toNat:Int)]:Array Value).toList:=by
   rw [Lib.byteCells_append]
   simp only [Lib.byteCells,List.map_cons,List.map_nil]
  rw [List.length_append,e1]
  exact own_set hown2 hn2
 ·rcases hnb2 with h | h
  ·left;rw [←h];exact hj
  ·right;rw [h,World.size_alloc] at hj;injection hj with hj;omega
 ·have f1:FrO (fun j=>j=b∨v.ownBlock=some j) w w1:=FrO.mono (fun j h=>Or.inl h) hf1
  have f2:FrO (fun j=>j=b∨v.ownBlock=some j) w (w1.alloc (.cells #[.int .u8 (c.toNat:Int)] 5)):=f1.trans (FrO.of (O:=fun j=>j=b∨v.ownBlock=some j) ((Below.refl _ _).alloc (Nat.le_refl _) _)) (fun j h=>Or.inl h)
  have f3:FrO (fun j=>j=b∨v.ownBlock=some j) w w2:=f2.trans (FrO.grown (O:=fun j=>j=b∨v.ownBlock=some j) hg2 (fun j h=>by exact Or.inr h)) (fun j h=>Or.inl h)
  exact f3.trans (FrO.set (O:=fun j=>j=b∨v.ownBlock=some j) (by exact Or.inl rfl)) (fun j h=>Or.inl h)
theorem ws_any (B b:Nat) (l:List UInt8) (v:Value) (s:ByteArray) (w:World) (h:BR B b l v w) (hlen:l.length+s.size≤100000000) (hBw:B≤w.heap.size):Calls Tryz.prog 84 #[.pointer (some ⟨b,0,none⟩),.string s] w fun e w'=>e=.returned (.tuple #[.int .i64 s.size,.nilIface])∧WrP B b (l++s.data.toList) v w w':=by
 have HB:=hide h
 have CC:=hide (ccheck_any B b l v w h)
 have hne:∀j,v.ownBlock=some j→j≠b:=fun j hj=>(h.row j hj).2.2
 have HNE:=hide hne
 have HBB:=hide h.ge
 have HOWN:=hide (show w.ownsRow B 5 1 v l.length (Lib.byteCells l) by obtain⟨p,hp,h1,h2,h3⟩:=h;exact h2)
 clear h hne
 have HL:Live w []:=trivial
 go_enter Tryz.func84,Tryz.ntmps84
 go_upto_region 2 with (go_at_call 131;refine CC.out.mono ?_;rintro e w1 ⟨rfl,hb1,hf1⟩)
 have HB1:=hide hb1
 have HO1:=hide (own_fr hf1 HOWN.out (fun g e=>HNE.out g e))
 have c1:=hb1.cells 1
 have hz1:=hf1.size
 clear hb1
 go_wp2_with (at_builtin;refine wpList_append_strB _ rfl _ _ rfl B v _ _ rfl HO1.out s rfl (by omega) (by omega) ?_;intro v2 w2 hown2 hnb2 hg2;obtain⟨A2,cap2,hv2⟩:=own_slice hown2;subst hv2;have HB2:=hide (show Blk w2 b #[.pointer (some ⟨b,0,none⟩),v] 81 from(hg2.block b HB1.out.lt (fun e=>HNE.out b e.symm rfl)).trans HB1.out);have f2:=HB2.out.free 1;have c2:=HB2.out.cells 1)
 go_ret2
 have hbw:b < w1.heap.size:=HB1.out.lt
 have hn2:(Value.slice A2 (l.length+s.size) cap2).ownBlock≠some b:=by
  rcases hnb2 with h | h
  ·rw [h];exact fun e=>HNE.out b e rfl
  ·rw [h];intro e;injection e with e;omega
 refine⟨rfl,_,⟨_,Or.inr rfl,HB2.out.put rfl,?_,HBB.out⟩,fun j hj=>?_,?_⟩
 ·have e1:Lib.byteCells (l++s.data.toList)=Lib.byteCells l++Lib.strCells s:=by rw [Lib.strCells_eq,Lib.byteCells_append]
  have e2:(l++s.data.toList).length=l.length+s.size:=by rw [List.length_append,Array.length_toList];rfl
  rw [e2,e1]
  exact own_set hown2 hn2
 ·rcases hnb2 with h | h
  ·left;rw [←h];exact hj
  ·right;rw [h] at hj;injection hj with hj;omega
 ·have f1:FrO (fun j=>j=b∨v.ownBlock=some j) w w1:=FrO.mono (fun j h=>Or.inl h) hf1
  have f3:FrO (fun j=>j=b∨v.ownBlock=some j) w w2:=f1.trans (FrO.grown (O:=fun j=>j=b∨v.ownBlock=some j) hg2 (fun j h=>by exact Or.inr h)) (fun j h=>Or.inl h)
  exact f3.trans (FrO.set (O:=fun j=>j=b∨v.ownBlock=some j) (by exact Or.inl rfl)) (fun j h=>Or.inl h)
theorem bstr_any (B b:Nat) (l:List UInt8) (v:Value) (w:World) (h:BR B b l v w) (hBw:B≤w.heap.size):Calls Tryz.prog 87 #[.pointer (some ⟨b,0,none⟩)] w fun e w'=>e=.returned (.string ⟨l.toArray⟩)∧Below B w w':=
 (bstring B b l w (Lib.IsBuilderF.of h.is) hBw).mono fun e w' ⟨he,h2⟩=>⟨he,h2.2.1⟩
theorem blen_any (B b:Nat) (l:List UInt8) (v:Value) (w:World) (h:BR B b l v w):Calls Tryz.prog 86 #[.pointer (some ⟨b,0,none⟩)] w fun e w'=>e=.returned (.int .i64 (l.length:Int))∧w=w':=blen B b l w (Lib.IsBuilderF.of h.is)
end Go.Proofs.YtlhakdildbplkaaGreatDoor
