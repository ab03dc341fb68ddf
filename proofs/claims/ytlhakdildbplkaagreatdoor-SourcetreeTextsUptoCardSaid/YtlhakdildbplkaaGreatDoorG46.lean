/- Part of the claim: its words. -/
import Derived.Test.YtlhakdildbplkaaGreatDoorG44
import Derived.Test.YtlhakdildbplkaaGreatDoorG45
import Derived.Test.YtlhakdildbplkaaGreatDoorG6
set_option maxRecDepth 100000
set_option maxHeartbeats 40000000
namespace Go.Proofs.YtlhakdildbplkaaGreatDoor
set_option linter.unusedSimpArgs false
set_option linter.unusedVariables false
open Go.RowKit
theorem rpar_err {s:ByteArray} {w W:World} {b2:Nat} {i k:Int} (a:Act) (hd:a.defers=[]) (h2:a.tmps.getD 2 undef=.pointer (some ⟨b2,0,none⟩)) (h3:a.tmps.getD 3 undef=.int .i64 i) (h4:a.tmps.getD 4 undef=.int .i64 k) (hB:Blk W b2 zeroN 25) (hD:parseT s=(Tr.zero,i,k)) (hbel:Below w.heap.size w W) :
  bodyPost Tryz.prog Tryz.f37 (ParP s w) .ret a W:=
 bodyPost_ret (results_cell3 Tryz.results37 a.tmps W b2 25 zeroN (0,0) _ h2 hB _ _ h3 h4 Tryz.underlying25 rfl (infN rfl)) hd ⟨_,by rw [hD],by rw [hD];exact zero_reads _ _,hbel⟩
theorem rpar_ok {s:ByteArray} {w W:World} {b2:Nat} {AC:Array Value} {t:Tr} (a:Act) (hd:a.defers=[]) (h2:a.tmps.getD 2 undef=.pointer (some ⟨b2,0,none⟩)) (h3:a.tmps.getD 3 undef=.int .i64 0) (h4:a.tmps.getD 4 undef=.int .i64 0) (hz:AC.size=12) (hB:Blk W b2 AC 25) (hD:parseT s=(t,0,0)) (hT:TreeR W W.heap.size (.agg AC) t) (hbel:Below w.heap.size w W) :
  bodyPost Tryz.prog Tryz.f37 (ParP s w) .ret a W:=
 bodyPost_ret (results_cell3 Tryz.results37 a.tmps W b2 25 AC (0,0) _ h2 hB _ _ h3 h4 Tryz.underlying25 rfl (infN hz)) hd ⟨_,by rw [hD],by rw [hD];exact hT,hbel⟩
theorem strs_words (p:List UInt8):strsC 32 ⟨p.toArray⟩=wordsOf p:=rfl
theorem words_ne (p:List UInt8):∃w0 ws,wordsOf p=w0 :: ws:=by
 unfold wordsOf
 cases h:piecesC 32 p with
 | nil=>exact absurd h (piecesC_ne 32 p)
 | cons x r=>exact⟨_,_,rfl⟩
theorem words_size {p:List UInt8} {x:ByteArray} (h:x∈wordsOf p):x.size≤p.length:=by
 unfold wordsOf at h
 obtain⟨y,hy,rfl⟩:=List.mem_map.1 h
 show y.toArray.size≤_
 rw [List.size_toArray]
 exact pieces_size 32 p y hy
theorem TreeX.leaf (O:Nat→Prop) (w:World) (h:Hd):TreeX O w (.agg (cz h)) ⟨h,[],.nil⟩:=fun _ _=>⟨.slice none 0 0,.slice none 0 0,rfl,⟨none,0,rfl,fun h=>absurd h (Nat.lt_irrefl _)⟩,⟨none,0,rfl,fun h=>absurd h (Nat.lt_irrefl _)⟩⟩
theorem TreeX.none (O:Nat→Prop) (w:World):TreeX O w (.agg zeroN) Tr.zero:=fun w' _=>zero_reads w' w'.heap.size
def PrsI (cl:List (List UInt8)) (rb b2:Nat) (W:World) (q:Nat) (st:List Tr) (wr:World):Prop:=∃cr:Array Value,AtL cl q st∧Blk wr rb cr 25∧TreeX (fun j=>j=rb∨j=b2) wr (.agg cr) (closeS st)∧FrO (fun j=>j=rb) W wr
theorem PrsI.set {cl:List (List UInt8)} {rb b2:Nat} {W w':World} {q:Nat} {st:List Tr} {cr cr':Array Value} (ha:AtL cl q st) (hb:Blk w' rb cr 25) (hx:TreeX (fun j=>j=rb∨j=b2) w' (.agg cr') (closeS st)) (hf:FrO (fun j=>j=rb) W w'):PrsI cl rb b2 W q st (w'.setRow rb cr'):=
 ⟨cr',ha,setRow_heap _ _ _ _ _ _ hb,fun w2 h2=>hx w2 ((FrO.setRow (O:=fun j=>j=rb∨j=b2) (Or.inl rfl)).trans h2 fun j hj=>Or.inl hj),hf.trans (FrO.setRow (O:=fun j=>j=rb) rfl) fun j hj=>Or.inl hj⟩
theorem PrsI.below {cl:List (List UInt8)} {rb b2:Nat} {W wr w':World} {q:Nat} {st:List Tr} (h:PrsI cl rb b2 W q st wr) (hb:Below wr.heap.size wr w'):PrsI cl rb b2 W q st w':=by
 obtain⟨cr,h1,h2,h3,h4⟩:=h
 exact⟨cr,h1,Blk.below hb h2,fun w2 hf=>h3 w2 ((FrO.of (O:=fun j=>j=rb∨j=b2) hb).trans hf fun j hj=>Or.inl hj),h4.trans (FrO.of (O:=fun j=>j=rb) hb) fun j hj=>Or.inl hj⟩
theorem list_two {α:Type} {l:List α} (h:l.length=2):∃a b,l=[a,b]:=by
 match l,h with
 | [a,b],_=>exact⟨a,b,rfl⟩
theorem rparse_big (s:ByteArray) (hs:65536 < s.size) (w:World):Calls Tryz.prog 37 #[.string s] w (ParP s w):=by
 have HPB:=hide (parse_big hs)
 have BZ:=hide built_zero
 have hs2:((65536:Int) < (s.size:Int)):=by omega
 have HL:Live w []:=trivial
 go_enter Tryz.func37,Tryz.ntmps37
 go_upto_region 1 with fail
 have hbel1:Below w.heap.size w (w.alloc (.cells zeroN 25)):=(Below.refl _ _).alloc (Nat.le_refl _) _
 have HB2:=hide (show Blk (w.alloc (.cells zeroN 25)) w.heap.size zeroN 25 from Blk.newAt rfl)
 obtain⟨W1,hW1⟩:∃W1,W1=w.alloc (.cells zeroN 25):=⟨_,rfl⟩
 rw [←hW1] at hbel1 HB2
 unfold zeroN at hW1
 rw [←hW1]
 clear hW1
 obtain⟨b2,hb2e⟩:∃b,b=w.heap.size:=⟨_,rfl⟩
 rw [←hb2e] at HB2 ⊢
 have hb2:w.heap.size≤b2∧True:=⟨by omega,trivial⟩
 have HBE:=hide hbel1
 clear hb2e hbel1
 go_wp2_with (first | ((with_reducible show wpList _ _ _ (Oper.mk (some 24) _ _ _ _ _ :: _) _ _);refine wpList_build_is rfl 25 #[] rfl [] (by simp) _ BZ.out ?_) | ((with_reducible show wpList _ _ _ (Oper.mk none _ _ _ _ _ :: _) _ _);refine wpList_store_row rfl 25 (.tmp 2) (.tmp 24) rfl b2 zeroN rfl rfl 25 zeroN HB2.out (infN rfl) (by first | rfl | (rw [rfl];rfl) | exact OLDZ.out | (rw [HZR.out.1];rfl) | (rw [HZR.out.1,rfl])) (by kernel_rfl) ?_))
 exact rpar_err (i:=0) (k:=7) _ rfl rfl rfl rfl (setRow_heap _ _ _ _ _ _ HB2.out) HPB.out ((HBE.out).trans ((FrO.setRow (O:=fun j=>j=b2) rfl).below (Below.size HBE.out) fun j hj=>by subst hj;exact hb2.1))
theorem rparse_any (s:ByteArray) (hs:s.size≤3000) (w:World):Calls Tryz.prog 37 #[.string s] w (ParP s w):=by
 obtain⟨cl,pl,hcp⟩:=pieces_split 10 s.data.toList
 have hsl:s.data.toList.length=s.size:=Array.length_toList
 have hlen:cl.length≤3000:=by
  have:=pieces_len 10 s.data.toList
  rw [hcp,List.length_append,hsl,List.length_singleton] at this
  omega
 have htot:(cl.flatMap (· ++ [10])).length≤3000:=by
  have:=congrArg List.length (pieces_join 10 _ _ _ hcp)
  rw [List.length_append,hsl] at this
  omega
 have HPZ:=hide (show ∀p∈cl++[pl],p.length≤3000 from fun p hp=>by
  have:=pieces_size 10 s.data.toList p (by rw [hcp];exact hp)
  omega)
 have HPE:=hide (fun i (h:linesS cl 0 []=.error i)=>parse_E (s:=s) (by omega) hcp h)
 have HPL:=hide (fun st (h:linesS cl 0 []=.ok st) hc=>parse_L (s:=s) (by omega) hcp h hc)
 have HPC:=hide (fun st (h:linesS cl 0 []=.ok st) hc hne=>parse_C (s:=s) (by omega) hcp h hc hne)
 have HFA:=hide (show ∀q st,AtL cl q st→q≤cl.length→topNil st∧(0 < q→st≠[])∧(q=0→st=[])∧st.length≤q∧(closeS st).sz≤10000 from fun q st h hq=>by
  obtain⟨h1,h2,h3,h4,h5⟩:=h.facts hq
  exact⟨h1,h2,h3,h4,by omega⟩)
 have HSC:=hide (show strsC 10 s=(cl++[pl]).map (fun p=>⟨p.toArray⟩) by unfold strsC;rw [hcp])
 have BZ:=hide built_zero
 obtain⟨m,hm⟩:∃m,cl.length=m:=⟨_,rfl⟩
 have HM:=hide hm
 have hm3:m≤3000:=by omega
 have hs2:¬((65536:Int) < (s.size:Int)):=by omega
 have hs3:s.size≤1000000:=by omega
 clear hcp hsl hlen htot hm
 have HL:Live w []:=trivial
 go_enter Tryz.func37,Tryz.ntmps37
 go_upto_region 1 with fail
 have hbel1:Below w.heap.size w (w.alloc (.cells zeroN 25)):=(Below.refl _ _).alloc (Nat.le_refl _) _
 have HB2:=hide (show Blk (w.alloc (.cells zeroN 25)) w.heap.size zeroN 25 from Blk.newAt rfl)
 obtain⟨W1,hW1⟩:∃W1,W1=w.alloc (.cells zeroN 25):=⟨_,rfl⟩
 rw [←hW1] at hbel1 HB2
 unfold zeroN at hW1
 rw [←hW1]
 clear hW1
 obtain⟨b2,hb2e⟩:∃b,b=w.heap.size:=⟨_,rfl⟩
 rw [←hb2e] at HB2 ⊢
 have hb2:w.heap.size≤b2∧True:=⟨by omega,trivial⟩
 have HBE:=hide hbel1
 clear hb2e hbel1
 have SP0:=hide (show Calls Tryz.prog 62 #[.string s,.int .u8 10] W1 fun e w'=>∃v,e=.returned v∧StrsR w' W1.heap.size v (strsC 10 s)∧Below W1.heap.size W1 w' from rsplitC 10 s hs3 W1)
 go_upto_region 4 with (go_at_call 62;refine SP0.out.mono ?_;rintro e w2 ⟨lv,rfl,hl2,hb12⟩)
 have hln:(strsC 10 s).length=m+1:=by rw [HSC.out,List.length_map,List.length_append,HM.out];rfl
 have hl2':w2.ownsRow W1.heap.size 9 1 lv (strsC 10 s).length (strV (strsC 10 s)):=hl2
 rw [hln] at hl2'
 obtain⟨gl,capl,rfl,hgl1,hgl2,-,hcl2⟩:=own_at hl2' (by omega)
 have hgb:b2 < gl:=by have:=HB2.out.lt;omega
 have HCL2:=hide (show ∀j x,(cl++[pl])[j]? = some x→w2.cell? ⟨gl,j,none⟩=some (.string ⟨x.toArray⟩) from fun j x hj=>hcl2 j _ (by
  unfold strV
  rw [HSC.out,List.getElem?_map,List.getElem?_map,hj];rfl))
 have HB22:=hide (Blk.below hb12 HB2.out)
 have HBE2:=hide (HBE.out.trans (hb12.mono HBE.out.size))
 clear hl2 hl2' hln hcl2 hgl1 hb12 SP0 HB2 HBE HSC
 have HR3:=hide (show Blk (w2.alloc (.cells zeroN 25)) w2.heap.size zeroN 25 from Blk.newAt rfl)
 unfold zeroN at HR3
 go_upto_region 5 with (first | ((with_reducible show wpList _ _ _ (Oper.mk (some 27) _ _ _ _ _ :: _) _ _);refine wpList_build_is rfl 25 #[] rfl [] (by simp) _ BZ.out ?_) | ((with_reducible show wpList _ _ _ (Oper.mk none _ _ _ _ _ :: _) _ _);refine wpList_store_row rfl 25 (.tmp 6) (.tmp 27) rfl w2.heap.size zeroN rfl rfl 25 zeroN HR3.out (infN rfl) (by first | rfl | (rw [rfl];rfl) | exact OLDZ.out | (rw [HZR.out.1];rfl) | (rw [HZR.out.1,rfl])) (by kernel_rfl) ?_))
 have hw23:Below w2.heap.size w2 ((w2.alloc (.cells #[.string ⟨#[]⟩,.int .i64 0,.string ⟨#[]⟩,.string ⟨#[]⟩,.int .i64 0,.int .i64 0,.int .i64 0,.int .i64 0,.int .i64 0,.int .i64 0,.slice none 0 0,.slice none 0 0] 25)).setRow w2.heap.size zeroN):=((Below.refl _ _).alloc (Nat.le_refl _) _).trans ((FrO.setRow (O:=fun j=>j=w2.heap.size) rfl).below (by rw [World.size_alloc];omega) fun j hj=>by omega)
 have hr4:Blk ((w2.alloc (.cells #[.string ⟨#[]⟩,.int .i64 0,.string ⟨#[]⟩,.string ⟨#[]⟩,.int .i64 0,.int .i64 0,.int .i64 0,.int .i64 0,.int .i64 0,.int .i64 0,.slice none 0 0,.slice none 0 0] 25)).setRow w2.heap.size zeroN) w2.heap.size zeroN 25:=setRow_heap _ _ _ _ _ _ HR3.out
 obtain⟨W4,hW4⟩:∃W4,W4=(w2.alloc (.cells #[.string ⟨#[]⟩,.int .i64 0,.string ⟨#[]⟩,.string ⟨#[]⟩,.int .i64 0,.int .i64 0,.int .i64 0,.int .i64 0,.int .i64 0,.int .i64 0,.slice none 0 0,.slice none 0 0] 25)).setRow w2.heap.size zeroN:=⟨_,rfl⟩
 rw [←hW4] at hw23 hr4 ⊢
 clear hW4 HR3
 obtain⟨rb,hrb⟩:∃rb,rb=w2.heap.size:=⟨_,rfl⟩
 rw [←hrb] at hr4 ⊢
 have HR4:=hide hr4
 have HB24:=hide (Blk.below hw23 HB22.out)
 have hbel4:=HBE2.out.trans (hw23.mono HBE2.out.size)
 have hrw:w.heap.size≤rb∧gl < rb∧b2 < rb∧rb < W4.heap.size:=⟨by have:=HBE2.out.size;omega,by omega,by have:=HB22.out.lt;omega,hr4.lt⟩
 have HCL4:=hide (show ∀W,FrO (fun j=>j=rb) W4 W→∀j x,(cl++[pl])[j]? = some x→W.cell? ⟨gl,j,none⟩=some (.string ⟨x.toArray⟩) from fun W hf j x hj=>(World.cell?_of_block (hf.block gl (by omega) (by omega))).trans ((hw23.cell (p:=⟨gl,j,none⟩) hgl2).trans (HCL2.out j x hj)))
 have HBL4:=hide hbel4
 clear hrb hr4 hw23 HB22 HBE2 HCL2 hbel4 hgl2
 go_wp2_with fail
 go_loopw [7,8,9] (fun la ki i wr=>∃(q:Nat) (st:List Tr),i=.int .i64 (q:Int)∧q≤m∧la=.int .i64 (st.length:Int)∧ki=.int .i64 (kindTop st)∧PrsI cl rb b2 W4 q st wr) (fun _ _ i _=>m - (intOf i).toNat)
 case atStart=>exact⟨0,[],rfl,Nat.zero_le _,rfl,rfl,zeroN,AtL.zero cl,HR4.out,TreeX.none _ _,FrO.refl _ _⟩
 case round=>
  obtain⟨q,st,rfl,hqm,rfl,rfl,cr,hat,hbr,hxr,hfr⟩:=hrel
  have HAT:=hide hat
  have HBR:=hide hbr
  have HXR:=hide hxr
  have HFR:=hide hfr
  obtain⟨htn,hne,hnil,hstq,hcz⟩:=HFA.out q st hat (by rw [HM.out];exact hqm)
  have HTN:=hide htn
  have HNE:=hide hne
  have HNI:=hide hnil
  have hcr12:=hxr.here.size12
  have hcr1:=hxr.here.one12
  have HZR:=hide (And.intro hcr12 hcr1)
  have OLDZ:=hide (show zeroN.size=cr.size by rw [hcr12];rfl)
  have hwz:W4.heap.size≤wr.heap.size:=hfr.size
  have HB2r:=hide (show Blk wr b2 zeroN 25 from(hfr.block b2 (by omega) (by omega)).trans HB24.out)
  have HBWr:=hide (show Below w.heap.size w wr from HBL4.out.trans (hfr.below HBL4.out.size fun j hj=>by omega))
  have hw1:IntKind.i64.wrap ((q:Int)+1)=(q:Int)+1:=IntWalk.i64_in _ (by omega)
  clear hat hbr hxr hfr htn hne hnil hcr12 hcr1
  by_cases hlt:q < m
  case neg=>
    as_aux_lemma=>
     have hqm2:q=m:=by omega
     subst hqm2
     have HFIN:=hide (show linesS cl 0 []=.ok st from AtL.fin (by rw [HM.out];exact HAT.out))
     have cq:wr.cell? ⟨gl,q,none⟩=some (.string ⟨pl.toArray⟩):=HCL4.out wr HFR.out q pl (by rw [List.getElem?_append_right (by rw [HM.out];exact Nat.le_refl _),HM.out,Nat.sub_self];rfl)
     have hw2:IntKind.i64.wrap ((q:Int)+1 - 1)=(q:Int):=by rw [IntWalk.i64_in _ (by omega)];omega
     clear hlt
     go_upto_region 26 with fail
     obtain⟨D,hD⟩:∃D:Bool,decide (q+1 < 2∨pl≠[])=D:=⟨_,rfl⟩
     go_cut [143] from 132 to 143 (fun b wx=>b=.bool D∧wr=wx)
     case first=>
      by_cases e0:q+1 < 2
      ·have q2:(q:Int)+1 < 2:=by omega
       have hd1:D=true:=by rw [←hD];exact decide_eq_true (Or.inl e0)
       clear hD e0
       subst hd1
       go_wp2_with fail
       go_meet
       exact⟨by first | rfl | simp,rfl⟩
      ·have q2:¬(q:Int)+1 < 2:=by omega
       by_cases e1:pl=[]
       ·have q3:pl.isEmpty=true:=by rw [e1];rfl
        have hd1:D=false:=by rw [←hD];exact decide_eq_false fun h=>h.elim e0 (fun h=>h e1)
        clear hD e0 e1
        subst hd1
        go_wp2_with fail
        go_meet
        exact⟨by first | rfl | simp,rfl⟩
       ·have q3:pl.isEmpty=false:=by
         cases pl with
         | nil=>exact absurd rfl e1
         | cons _ _=>rfl
        have hd1:D=true:=by rw [←hD];exact decide_eq_true (Or.inr e1)
        clear hD e0 e1
        subst hd1
        go_wp2_with fail
        go_meet
        exact⟨by first | rfl | simp,rfl⟩
     case rest=>
     obtain⟨rfl,rfl⟩:=hcut
     have HD:=hide hD
     clear hD cq hw2
     cases D
     case true=>
      have HPQ:=hide (show parseT s=(Tr.zero,(q:Int)+1,3) by
       have h:=HPL.out st HFIN.out (by rw [HM.out];exact of_decide_eq_true HD.out)
       rw [h,HM.out]
       rfl)
      go_wp2_with (first | ((with_reducible show wpList _ _ _ (Oper.mk (some 144) _ _ _ _ _ :: _) _ _);refine wpList_build_is rfl 25 #[] rfl [] (by simp) _ BZ.out ?_) | ((with_reducible show wpList _ _ _ (Oper.mk none _ _ _ _ _ :: _) _ _);refine wpList_store_row rfl 25 (.tmp 2) (.tmp 144) rfl b2 zeroN rfl rfl 25 zeroN HB2r.out (infN rfl) (by first | rfl | (rw [rfl];rfl) | exact OLDZ.out | (rw [HZR.out.1];rfl) | (rw [HZR.out.1,rfl])) (by kernel_rfl) ?_))
      exact rpar_err (i:=(q:Int)+1) (k:=3) _ rfl rfl rfl rfl (setRow_heap _ _ _ _ _ _ HB2r.out) HPQ.out ((HBWr.out).trans ((FrO.setRow (O:=fun j=>j=b2) rfl).below (Below.size HBWr.out) fun j hj=>by subst hj;exact hb2.1))
     case false=>
     have hne:=HNE.out (by have:=of_decide_eq_false HD.out;omega)
     have hpc:=HPC.out st HFIN.out (by rw [HM.out];exact of_decide_eq_false HD.out) hne
     have CK:=hide (fun W hW=>rcheckT_any (closeS st) (Or.inl (by omega)) (.agg cr) W hW)
     have HXH:=hide HXR.out.here
     obtain⟨ce,hce⟩:∃ce,checkT (closeS st)=ce:=⟨_,rfl⟩
     rw [hce] at CK hpc
     have HPC2:=hide hpc
     clear hpc hne hce
     go_upto_region 29 with (first | ((with_reducible show wpList _ _ _ (Oper.mk (some 148) _ _ _ _ _ :: _) _ _);refine wpList_load_row rfl 25 (.tmp 6) rfl rb rfl 25 cr (0,0) _ HBR.out Tryz.underlying25 rfl (infN HZR.out.1) ?_) | (go_at_call 15;refine(CK.out _ HXH.out).mono ?_;rintro e w13 ⟨rfl,hb13⟩))
     have HBR13:=hide (Blk.below hb13 HBR.out)
     have HB213:=hide (Blk.below hb13 HB2r.out)
     have HBW13:=hide (HBWr.out.trans (hb13.mono HBWr.out.size))
     by_cases hc2:ce.2=0
     case neg=>
      have q5:(ce.2 != 0)=true:=by simp [hc2]
      have HPQ:=hide (show parseT s=(Tr.zero,0,ce.2) by rw [HPC2.out,if_pos hc2])
      clear hc2 hb13
      go_wp2_with (first | ((with_reducible show wpList _ _ _ (Oper.mk (some 154) _ _ _ _ _ :: _) _ _);refine wpList_build_is rfl 25 #[] rfl [] (by simp) _ BZ.out ?_) | ((with_reducible show wpList _ _ _ (Oper.mk none _ _ _ _ _ :: _) _ _);refine wpList_store_row rfl 25 (.tmp 2) (.tmp 154) rfl b2 zeroN rfl rfl 25 zeroN HB213.out (infN rfl) (by first | rfl | (rw [rfl];rfl) | exact OLDZ.out | (rw [HZR.out.1];rfl) | (rw [HZR.out.1,rfl])) (by kernel_rfl) ?_))
      exact rpar_err (i:=0) (k:=ce.2) _ rfl rfl rfl rfl (setRow_heap _ _ _ _ _ _ HB213.out) HPQ.out ((HBW13.out).trans ((FrO.setRow (O:=fun j=>j=b2) rfl).below (Below.size HBW13.out) fun j hj=>by subst hj;exact hb2.1))
     case pos=>
      have q5:(ce.2 != 0)=false:=by simp [hc2]
      have HPQ:=hide (show parseT s=(closeS st,0,0) by rw [HPC2.out,if_neg (fun h=>h hc2)])
      have HX13:=hide (HXR.out.later hb13 (fun j hj=>by rcases hj with rfl | rfl;exact HBR.out.lt;exact HB2r.out.lt))
      clear hc2 hb13
      go_wp2_with (first | ((with_reducible show wpList _ _ _ (Oper.mk (some 156) _ _ _ _ _ :: _) _ _);refine wpList_load_row rfl 25 (.tmp 6) rfl rb rfl 25 cr (0,0) _ HBR13.out Tryz.underlying25 rfl (infN HZR.out.1) ?_) | ((with_reducible show wpList _ _ _ (Oper.mk none _ _ _ _ _ :: _) _ _);refine wpList_store_row rfl 25 (.tmp 2) (.tmp 156) rfl b2 cr rfl rfl 25 zeroN HB213.out (infN HZR.out.1) (by first | rfl | (rw [HZR.out.1];rfl) | exact OLDZ.out | (rw [HZR.out.1];rfl) | (rw [HZR.out.1,HZR.out.1])) HZR.out.2 ?_))
      exact rpar_ok _ rfl rfl rfl rfl HZR.out.1 (setRow_heap _ _ _ _ _ _ HB213.out) HPQ.out (HX13.out _ (FrO.setRow (O:=fun j=>j=rb∨j=b2) (Or.inr rfl))) (HBW13.out.trans ((FrO.setRow (O:=fun j=>j=b2) rfl).below HBW13.out.size fun j hj=>by subst hj;exact hb2.1))
  case pos=>
  obtain⟨p,hp⟩:∃p,cl[q]? = some p:=⟨_,List.getElem?_eq_getElem (by rw [HM.out];exact hlt)⟩
  have HP:=hide hp
  have hpa:(cl++[pl])[q]? = some p:=by rw [List.getElem?_append_left (List.getElem?_eq_some_iff.1 hp).1];exact hp
  have cq:wr.cell? ⟨gl,q,none⟩=some (.string ⟨p.toArray⟩):=HCL4.out wr HFR.out q p hpa
  have hpz:p.length≤3000:=HPZ.out p (List.mem_of_getElem? hpa)
  obtain⟨w0,ws,hws⟩:=words_ne p
  have HWS:=hide hws
  have hwl:ws.length≤3000:=by
    have:=pieces_len 32 p
    have h2:(wordsOf p).length=(piecesC 32 p).length:=List.length_map ..
    rw [hws,List.length_cons] at h2
    omega
  have HWZ:=hide (show ∀x∈w0 :: ws,x.size≤3000 from fun x hx=>by
    rw [←hws] at hx
    have:=words_size hx
    omega)
  have SPW:=hide (show ∀W,Calls Tryz.prog 62 #[.string ⟨p.toArray⟩,.int .u8 32] W fun e w'=>∃v,e=.returned v∧StrsR w' W.heap.size v (w0 :: ws)∧Below W.heap.size W w' from fun W=>by
    have h:=rsplitC 32 ⟨p.toArray⟩ (by show p.toArray.size≤_;rw [List.size_toArray];omega) W
    rw [strs_words,hws] at h
    exact h)
  have hq1:(q:Int)+1 < (m:Int)+1:=by omega
  clear hp hpa hws
  go_upto_region 10 with (go_at_call 62;refine(SPW.out _).mono ?_;rintro e w9 ⟨v9,rfl,hl9,hb9⟩)
  obtain⟨gw,capw,rfl,hgw1,hgw2,-,hcw⟩:=own_at (show w9.ownsRow wr.heap.size 9 1 v9 (ws.length+1) (strV (w0 :: ws)) from hl9) (by omega)
  have HSL:=hide (SlR.of hl9)
  have HCW:=hide (show ∀W,Below w9.heap.size w9 W→∀j x,(w0 :: ws)[j]? = some x→W.cell? ⟨gw,j,none⟩=some (.string x) from fun W hb j x hj=>(hb.cell (p:=⟨gw,j,none⟩) hgw2).trans (hcw j _ (by unfold strV;rw [List.getElem?_map,hj];rfl)))
  have HBR9:=hide (Blk.below hb9 HBR.out)
  have HX9:=hide (HXR.out.later hb9 (fun j hj=>by rcases hj with rfl | rfl;exact HBR.out.lt;exact HB2r.out.lt))
  have HF9:=hide (HFR.out.trans (FrO.of (O:=fun j=>j=rb) hb9) fun j hj=>Or.inl hj)
  have HB29:=hide (Blk.below hb9 HB2r.out)
  have HBW9:=hide (HBWr.out.trans (hb9.mono HBWr.out.size))
  have cw0:w9.cell? ⟨gw,0,none⟩=some (.string w0):=HCW.out w9 (Below.refl _ _) 0 w0 rfl
  clear hl9 hcw hb9 hgw1 cq SPW HBR HXR HFR HB2r HBWr hq1
  obtain⟨C,hC⟩:∃C:Bool,decide (w0=wStream∧ws.length=2∧0 < q∧kindTop st=1)=C:=⟨_,rfl⟩
  go_cut [56] from 40 to 56 (fun b wx=>b=.bool C∧w9=wx)
  case first=>
   as_aux_lemma=>
    by_cases e0:w0=wStream
    ·have q1:=lit_y (l:=[115,116,114,101,97,109]) e0
     by_cases e1:ws.length=2
     ·have q2:((ws.length:Int)+1 == 3)=true:=by rw [e1];rfl
      by_cases e2:0 < q
      ·have q3:(0:Int) < (q:Int):=by omega
       by_cases e3:kindTop st=1
       ·have q4:(kindTop st == 1)=true:=by rw [e3];rfl
        have hc1:C=true:=by rw [←hC];exact decide_eq_true ⟨e0,e1,e2,e3⟩
        clear hC e0 e1 e2 e3
        subst hc1
        go_wp2_with fail
        go_meet
        exact⟨rfl,rfl⟩
       ·have q4:(kindTop st == 1)=false:=beq_eq_false_iff_ne.2 e3
        have hc1:C=false:=by rw [←hC];exact decide_eq_false fun h=>e3 h.2.2.2
        clear hC e0 e1 e2 e3
        subst hc1
        go_wp2_with fail
        go_meet
        exact⟨rfl,rfl⟩
      ·have q3:¬(0:Int) < (q:Int):=by omega
       have hc1:C=false:=by rw [←hC];exact decide_eq_false fun h=>e2 h.2.2.1
       clear hC e0 e1 e2
       subst hc1
       go_wp2_with fail
       go_meet
       exact⟨by first | rfl | simp,rfl⟩
     ·have q2:((ws.length:Int)+1 == 3)=false:=beq_eq_false_iff_ne.2 (by omega)
      have hc1:C=false:=by rw [←hC];exact decide_eq_false fun h=>e1 h.2.1
      clear hC e0 e1
      subst hc1
      go_wp2_with fail
      go_meet
      exact⟨by first | rfl | simp,rfl⟩
    ·have q1:=lit_n (l:=[115,116,114,101,97,109]) e0
     have hc1:C=false:=by rw [←hC];exact decide_eq_false fun h=>e0 h.1
     clear hC e0
     subst hc1
     go_wp2_with fail
     go_meet
     exact⟨by first | rfl | simp,rfl⟩
  case rest=>
  obtain⟨rfl,rfl⟩:=hcut
  clear cw0
  have HC:=hide hC
  clear hC
  cases C
  case true=>
    obtain⟨rfl,e1,e2,e3⟩:=of_decide_eq_true HC.out
    as_aux_lemma=>
     obtain⟨a,b,rfl⟩:=list_two e1
     have hst0:=HNE.out e2
     obtain⟨t,r,rfl⟩:∃t r,st=t :: r:=by
      cases st with
      | nil=>exact absurd rfl hst0
      | cons t r=>exact⟨t,r,rfl⟩
     have HK1:=hide (show t.h.kind=1 from e3)
     clear e1 e3 hst0
     have za:a.size≤3000:=HWZ.out a (by simp)
     have zb:b.size≤3000:=HWZ.out b (by simp)
     have cw1:w9.cell? ⟨gw,1,none⟩=some (.string a):=HCW.out w9 (Below.refl _ _) 1 a rfl
     have UA:=hide (fun W=>runword_any a (by omega) W)
     have UB:=hide (fun W=>runword_any b (by omega) W)
     go_upto_region 12 with (go_at_call 97;refine(UA.out _).mono ?_;rintro e w10 ⟨xa,oka,rfl,hya,hxa,hb10⟩)
     have cw2:w10.cell? ⟨gw,2,none⟩=some (.string b):=HCW.out w10 hb10 2 b rfl
     clear cw1
     go_upto_region 13 with (go_at_call 97;refine(UB.out _).mono ?_;rintro e w11 ⟨xb,okb,rfl,hyb,hxb,hb11⟩)
     have hb911:=hb10.trans (hb11.mono hb10.size)
     have HBR11:=hide (Blk.below hb911 HBR9.out)
     have HX11:=hide (HX9.out.later hb911 (fun j hj=>by rcases hj with rfl | rfl;exact HBR9.out.lt;exact HB29.out.lt))
     have HF11:=hide (HF9.out.trans (FrO.of (O:=fun j=>j=rb) hb911) fun j hj=>Or.inl hj)
     have HB211:=hide (Blk.below hb911 HB29.out)
     have HBW11:=hide (HBW9.out.trans (hb911.mono HBW9.out.size))
     have HYA:=hide (And.intro hya hxa)
     have HYB:=hide (And.intro hyb hxb)
     clear cw2 hb10 hb11 hb911 hya hxa hyb hxb HBR9 HX9 HF9 HB29 HBW9 UA UB HCW HSL
     cases oka
     case false=>
      have HPQ:=hide (show parseT s=(Tr.zero,(q:Int)+1,3) from HPE.out (q+1) (HAT.out.err HP.out (by rw [HWS.out];exact step_str_no (Or.inl (HYA.out.2 rfl)))))
      go_wp2_with (first | ((with_reducible show wpList _ _ _ (Oper.mk (some 77) _ _ _ _ _ :: _) _ _);refine wpList_build_is rfl 25 #[] rfl [] (by simp) _ BZ.out ?_) | ((with_reducible show wpList _ _ _ (Oper.mk none _ _ _ _ _ :: _) _ _);refine wpList_store_row rfl 25 (.tmp 2) (.tmp 77) rfl b2 zeroN rfl rfl 25 zeroN HB211.out (infN rfl) (by first | rfl | (rw [rfl];rfl) | exact OLDZ.out | (rw [HZR.out.1];rfl) | (rw [HZR.out.1,rfl])) (by kernel_rfl) ?_))
      exact rpar_err (i:=(q:Int)+1) (k:=3) _ rfl rfl rfl rfl (setRow_heap _ _ _ _ _ _ HB211.out) HPQ.out ((HBW11.out).trans ((FrO.setRow (O:=fun j=>j=b2) rfl).below (Below.size HBW11.out) fun j hj=>by subst hj;exact hb2.1))
     case true=>
     cases okb
     case false=>
      have HPQ:=hide (show parseT s=(Tr.zero,(q:Int)+1,3) from HPE.out (q+1) (HAT.out.err HP.out (by rw [HWS.out];exact step_str_no (Or.inr (HYB.out.2 rfl)))))
      go_wp2_with (first | ((with_reducible show wpList _ _ _ (Oper.mk (some 77) _ _ _ _ _ :: _) _ _);refine wpList_build_is rfl 25 #[] rfl [] (by simp) _ BZ.out ?_) | ((with_reducible show wpList _ _ _ (Oper.mk none _ _ _ _ _ :: _) _ _);refine wpList_store_row rfl 25 (.tmp 2) (.tmp 77) rfl b2 zeroN rfl rfl 25 zeroN HB211.out (infN rfl) (by first | rfl | (rw [rfl];rfl) | exact OLDZ.out | (rw [HZR.out.1];rfl) | (rw [HZR.out.1,rfl])) (by kernel_rfl) ?_))
      exact rpar_err (i:=(q:Int)+1) (k:=3) _ rfl rfl rfl rfl (setRow_heap _ _ _ _ _ _ HB211.out) HPQ.out ((HBW11.out).trans ((FrO.setRow (O:=fun j=>j=b2) rfl).below (Below.size HBW11.out) fun j hj=>by subst hj;exact hb2.1))
     case true=>
     have hks:t.ks=.nil:=HTN.out
     have HCT:=hide (show closeS (⟨t.h,t.ss++[(xa,xb)],t.ks⟩ :: r)=strT (xa,xb) (closeS (t :: r)) from close_top hks)
     have HNX:=hide (show AtL cl (q+1) (⟨t.h,t.ss++[(xa,xb)],t.ks⟩ :: r) from HAT.out.next HP.out (by rw [HWS.out];exact step_str_ok HK1.out (HYA.out.1 rfl) (HYB.out.1 rfl)))
     have RS:=hide (show Calls Tryz.prog 98 #[.agg cr,.agg #[.string xa,.string xb]] w11 fun e w'=>∃r',e=.returned r'∧TreeX (fun j=>j=rb∨j=b2) w' r' (strT (xa,xb) (closeS (t :: r)))∧Below w11.heap.size w11 w' from rstream_any (xa,xb) _ _ (closeS (t :: r)) (Nat.le_refl _) (by omega) (.agg cr) w11 (fun j hj=>by rcases hj with rfl | rfl;exact HBR11.out.lt;exact HB211.out.lt) HX11.out)
     have BST:=hide (built_st xa xb)
     clear hks HYA HYB HX11
     go_wp2_with (first | ((with_reducible show wpList _ _ _ (Oper.mk (some 80) _ _ _ _ _ :: _) _ _);refine wpList_load_row rfl 25 (.tmp 6) rfl rb rfl 25 cr (0,0) _ HBR11.out Tryz.underlying25 rfl (infN HZR.out.1) ?_) | ((with_reducible show wpList _ _ _ (Oper.mk (some 83) _ _ _ _ _ :: _) _ _);refine wpList_build_is rfl 69 #[(0,.tmp 81),(1,.tmp 82)] rfl [(0,.string xa),(1,.string xb)] (by first | rfl | (simp;exact⟨rfl,rfl⟩)) _ BST.out ?_) | (go_at_call 98;refine RS.out.mono ?_;rintro e w12 ⟨r12,rfl,hr12,hb12⟩;have HR12:=hide hr12;obtain⟨c12,rfl,hz12,h112⟩:=HR12.out.here.cells;have HZ12:=hide (And.intro hz12 h112);have HBR12:=hide (Blk.below hb12 HBR11.out);have HF12:=hide (HF11.out.trans (FrO.of (O:=fun j=>j=rb) hb12) fun j hj=>Or.inl hj);clear hr12 hz12 h112 hb12) | ((with_reducible show wpList _ _ _ (Oper.mk none _ _ _ _ _ :: _) _ _);refine wpList_store_row rfl 25 (.tmp 6) (.tmp 84) rfl rb c12 rfl rfl 25 cr HBR12.out (infN HZ12.out.1) (by first | rfl | (rw [HZ12.out.1];rfl) | exact OLDZ.out | (rw [HZR.out.1];rfl) | (rw [HZR.out.1,HZ12.out.1])) HZ12.out.2 ?_))
     go_roundw
     case rel=>exact⟨q+1,⟨t.h,t.ss++[(xa,xb)],t.ks⟩ :: r,by go_num,by omega,by first | rfl | simp,rfl,PrsI.set HNX.out HBR12.out (by rw [HCT.out];exact HR12.out) HF12.out⟩
     case measure=>simp [intOf];omega
  case false=>
    as_aux_lemma=>
     have hcn:¬(w0=wStream∧ws.length=2∧st≠[]∧kindTop st=1):=fun h=>of_decide_eq_false HC.out ⟨h.1,h.2.1,by
      rcases Nat.eq_zero_or_pos q with h0 | h0
      ·exact absurd (HNI.out h0) h.2.2.1
      ·exact h0,h.2.2.2⟩
     have HST:=hide (step_else hcn)
     have ND:=hide (rnode_any w0 ws (fun x hx=>by have:=HWZ.out x hx;omega) (by omega) _ w9 HSL.out)
     clear hcn
     go_upto_region 17 with (first | (go_at_call 99;refine ND.out.mono ?_;rintro e w10 ⟨h,n,ok,rfl,hy,hx,hb10⟩;have HN0:=hide (show Blk (w10.alloc (.cells #[.string ⟨#[]⟩,.int .i64 0,.string ⟨#[]⟩,.string ⟨#[]⟩,.int .i64 0,.int .i64 0,.int .i64 0,.int .i64 0,.int .i64 0,.int .i64 0,.slice none 0 0,.slice none 0 0] 25)) w10.heap.size zeroN 25 from Blk.newAt rfl)) | ((with_reducible show wpList _ _ _ (Oper.mk none _ _ _ _ _ :: _) _ _);refine wpList_store_row rfl 25 (.tmp 15) (.tmp 88) rfl w10.heap.size (cz h) rfl rfl 25 zeroN HN0.out (infN (cz_size _)) (by first | rfl | (rw [(cz_size _)];rfl) | exact OLDZ.out | (rw [HZR.out.1];rfl) | (rw [HZR.out.1,(cz_size _)])) (cz_one _) ?_))
     have hw10:Below w10.heap.size w10 ((w10.alloc (.cells #[.string ⟨#[]⟩,.int .i64 0,.string ⟨#[]⟩,.string ⟨#[]⟩,.int .i64 0,.int .i64 0,.int .i64 0,.int .i64 0,.int .i64 0,.int .i64 0,.slice none 0 0,.slice none 0 0] 25)).setRow w10.heap.size (cz h)):=((Below.refl _ _).alloc (Nat.le_refl _) _).trans ((FrO.setRow (O:=fun j=>j=w10.heap.size) rfl).below (by rw [World.size_alloc];omega) fun j hj=>by omega)
     have hn11:Blk ((w10.alloc (.cells #[.string ⟨#[]⟩,.int .i64 0,.string ⟨#[]⟩,.string ⟨#[]⟩,.int .i64 0,.int .i64 0,.int .i64 0,.int .i64 0,.int .i64 0,.int .i64 0,.slice none 0 0,.slice none 0 0] 25)).setRow w10.heap.size (cz h)) w10.heap.size (cz h) 25:=setRow_heap _ _ _ _ _ _ HN0.out
     obtain⟨W11,hW11⟩:∃W11,W11=(w10.alloc (.cells #[.string ⟨#[]⟩,.int .i64 0,.string ⟨#[]⟩,.string ⟨#[]⟩,.int .i64 0,.int .i64 0,.int .i64 0,.int .i64 0,.int .i64 0,.int .i64 0,.slice none 0 0,.slice none 0 0] 25)).setRow w10.heap.size (cz h):=⟨_,rfl⟩
     rw [←hW11] at hw10 hn11 ⊢
     obtain⟨nb,hnb⟩:∃nb,nb=w10.heap.size:=⟨_,rfl⟩
     rw [←hnb] at hn11 ⊢
     have hb911:Below w9.heap.size w9 W11:=hb10.trans (hw10.mono hb10.size)
     have HN11:=hide hn11
     have HBR11:=hide (Blk.below hb911 HBR9.out)
     have hnr:rb < nb:=by have h1:=HBR9.out.lt;have h2:=hb10.size;omega
     have HX11:=hide (HX9.out.later hb911 (fun j hj=>by rcases hj with rfl | rfl;exact HBR9.out.lt;exact HB29.out.lt))
     have HF11:=hide (HF9.out.trans (FrO.of (O:=fun j=>j=rb) hb911) fun j hj=>Or.inl hj)
     have HB211:=hide (Blk.below hb911 HB29.out)
     have HBW11:=hide (HBW9.out.trans (hb911.mono HBW9.out.size))
     have HY:=hide hy
     have HX:=hide hx
     clear hW11 hnb hw10 hn11 hb10 hb911 hy hx HN0 HBR9 HX9 HF9 HB29 HBW9 HCW HSL ND
     have hw3:IntKind.i64.wrap ((st.length:Int)+1)=(st.length:Int)+1:=IntWalk.i64_in _ (by omega)
     have HMP:=hide (mostP_is st)
     have hmp:mostP st≤st.length+1:=most_le st
     go_upto_if 93 with fail
     go_cut [18] from 94 to 95 (fun v wx=>v=.int .i64 (mostP st:Int)∧W11=wx)
     case first=>
      by_cases e0:kindTop st=0
      ·have q4:(kindTop st == 0)=true:=by rw [e0];rfl
       have hmq:=HMP.out
       rw [if_pos e0] at hmq
       have HMQ:=hide hmq
       clear e0 hmq
       go_wp2_with fail
       go_meet
       exact⟨by rw [HMQ.out];first | rfl | simp,rfl⟩
      ·have q4:(kindTop st == 0)=false:=beq_eq_false_iff_ne.2 e0
       have hmq:=HMP.out
       rw [if_neg e0] at hmq
       have HMQ:=hide hmq
       clear e0 hmq
       go_wp2_with fail
       go_meet
       exact⟨by rw [HMQ.out],rfl⟩
     case rest=>
     obtain⟨rfl,rfl⟩:=hcut
     clear hw3
     obtain⟨bad,hbad⟩:∃b:Bool,decide (ok=false∨(mostP st:Int) < n∨(q=0∧n≠1)∨(0 < q∧n < 2))=b:=⟨_,rfl⟩
     go_upto_region 20 with fail
     go_cut [118] from 96 to 118 (fun b wx=>b=.bool bad∧W11=wx)
     case first=>
      cases ok
      case false=>
       have hb1:bad=true:=by rw [←hbad];exact decide_eq_true (Or.inl rfl)
       clear hbad
       subst hb1
       go_wp2_with fail
       go_meet
       exact⟨by first | rfl | simp,rfl⟩
      case true=>
       by_cases e0:(mostP st:Int) < n
       ·have hb1:bad=true:=by rw [←hbad];exact decide_eq_true (Or.inr (Or.inl e0))
        clear hbad
        subst hb1
        go_wp2_with fail
        go_meet
        exact⟨by first | rfl | simp,rfl⟩
       ·by_cases e1:q=0
        ·have q5:((q:Int) == 0)=true:=by rw [e1];rfl
         have q6:¬(0:Int) < (q:Int):=by omega
         by_cases e2:n=1
         ·have q7:(n != 1)=false:=by rw [e2];rfl
          have hb1:bad=false:=by rw [←hbad];exact decide_eq_false (by rintro (h | h | h | h);cases h;exact e0 h;exact h.2 e2;omega)
          clear hbad e1 e2
          subst hb1
          go_wp2_with fail
          go_meet
          exact⟨by first | rfl | simp,rfl⟩
         ·have q7:(n != 1)=true:=by simp [e2]
          have hb1:bad=true:=by rw [←hbad];exact decide_eq_true (Or.inr (Or.inr (Or.inl ⟨e1,e2⟩)))
          clear hbad e1 e2
          subst hb1
          go_wp2_with fail
          go_meet
          exact⟨by first | rfl | simp,rfl⟩
        ·have q5:((q:Int) == 0)=false:=beq_eq_false_iff_ne.2 (by omega)
         have q6:(0:Int) < (q:Int):=by omega
         by_cases e2:n < 2
         ·have hb1:bad=true:=by rw [←hbad];exact decide_eq_true (Or.inr (Or.inr (Or.inr ⟨by omega,e2⟩)))
          clear hbad e1
          subst hb1
          go_wp2_with fail
          go_meet
          exact⟨by first | rfl | simp,rfl⟩
         ·have hb1:bad=false:=by rw [←hbad];exact decide_eq_false (by rintro (h | h | h | h);cases h;exact e0 h;exact e1 h.1;exact e2 h.2)
          clear hbad e1
          subst hb1
          go_wp2_with fail
          go_meet
          exact⟨by first | rfl | simp [e2] | (simp;omega),rfl⟩
     case rest=>
     obtain⟨rfl,rfl⟩:=hcut
     have HBAD:=hide hbad
     clear hbad
     cases bad
     case true=>
      have HPQ:=hide (show parseT s=(Tr.zero,(q:Int)+1,3) from HPE.out (q+1) (HAT.out.err HP.out (by
       rw [HWS.out,HST.out]
       cases hok:ok with
       | false=>rw [HX.out hok]
       | true=>
        rw [HY.out hok]
        dsimp only
        rw [if_pos ?_]
        rcases of_decide_eq_true HBAD.out with h | h | h | h
        ·rw [hok] at h;cases h
        ·exact Or.inl h
        ·obtain⟨h1,h2⟩:=h
         rw [HNI.out h1]
         show((1:Nat):Int) < n∨_
         omega
        ·exact Or.inr (Or.inl ⟨h.2,HNE.out h.1⟩))))
      go_wp2_with (first | ((with_reducible show wpList _ _ _ (Oper.mk (some 119) _ _ _ _ _ :: _) _ _);refine wpList_build_is rfl 25 #[] rfl [] (by simp) _ BZ.out ?_) | ((with_reducible show wpList _ _ _ (Oper.mk none _ _ _ _ _ :: _) _ _);refine wpList_store_row rfl 25 (.tmp 2) (.tmp 119) rfl b2 zeroN rfl rfl 25 zeroN HB211.out (infN rfl) (by first | rfl | (rw [rfl];rfl) | exact OLDZ.out | (rw [HZR.out.1];rfl) | (rw [HZR.out.1,rfl])) (by kernel_rfl) ?_))
      exact rpar_err (i:=(q:Int)+1) (k:=3) _ rfl rfl rfl rfl (setRow_heap _ _ _ _ _ _ HB211.out) HPQ.out ((HBW11.out).trans ((FrO.setRow (O:=fun j=>j=b2) rfl).below (Below.size HBW11.out) fun j hj=>by subst hj;exact hb2.1))
     case false=>
     have hnb:=of_decide_eq_false HBAD.out
     have hok:ok=true:=by
      cases ok
      ·exact absurd (Or.inl rfl) hnb
      ·rfl
     have hn1:n≤(mostP st:Int):=by
      rcases Int.lt_or_le (mostP st:Int) n with h | h
      ·exact absurd (Or.inr (Or.inl h)) hnb
      ·exact h
     have hn2:(q=0→n=1)∧(0 < q→2≤n):=⟨fun h0=>by
      rcases Decidable.em (n=1) with h | h
      ·exact h
      ·exact absurd (Or.inr (Or.inr (Or.inl ⟨h0,h⟩))) hnb,fun h0=>by
      rcases Int.lt_or_le n 2 with h | h
      ·exact absurd (Or.inr (Or.inr (Or.inr ⟨h0,h⟩))) hnb
      ·exact h⟩
     obtain⟨k,rfl⟩:∃k:Nat,n=(k:Int):=⟨n.toNat,by omega⟩
     have hk1:1≤k∧k≤st.length+1:=by omega
     obtain⟨st2,hst2⟩:∃st2,st2=⟨h,[],.nil⟩ :: leaveS (k - 1) st.length st:=⟨_,rfl⟩
     have HNX:=hide (show AtL cl (q+1) st2 from HAT.out.next HP.out (by
      rw [HWS.out,HST.out,HY.out hok]
      dsimp only
      rw [if_neg ?_,hst2]
      ·rfl
      ·rintro (h | h | h)
       ·omega
       ·have hq0:0 < q:=by
         rcases Nat.eq_zero_or_pos q with h0 | h0
         ·exact absurd (HNI.out h0) h.2
         ·exact h0
        have:=hn2.2 hq0
        omega
       ·omega))
     have HS2:=hide hst2
     have HN2:=hide hn2
     have HL2:=hide (show st2.length=k by
      rw [hst2,List.length_cons]
      rcases Nat.eq_zero_or_pos q with h0 | h0
      ·have h1:=hn2.1 h0
       rw [HNI.out h0]
       show(leaveS (k - 1) 0 []).length+1=k
       rw [leaveS]
       show 0+1=k
       omega
      ·have h1:=hn2.2 h0
       rw [leaveS_len (k - 1) st.length st (Nat.le_refl _) (by omega)]
       omega)
     have HKT:=hide (show kindTop st2=h.kind by rw [hst2];rfl)
     subst hok
     clear hnb hn1 hn2 HBAD HST HX HY hst2 HMP hmp
     go_upto_if 123 with fail
     go_cut [124] from 119 to 128 (fun _ wx=>PrsI cl rb b2 W4 (q+1) st2 wx∧Blk wx nb (cz h) 25∧W11.heap.size≤wx.heap.size)
     case first=>
      by_cases e1:q=0
      ·have q5:((q:Int) == 0)=true:=by rw [e1];rfl
       have HCL:=hide (show closeS st2=⟨h,[],.nil⟩ by
        rw [HS2.out,HNI.out e1]
        have h1:=HN2.out.1 e1
        show nest ⟨h,[],.nil⟩ (leaveS (k - 1) 0 [])=_
        rw [leaveS]
        rfl)
       clear e1
       go_wp2_with (first | ((with_reducible show wpList _ _ _ (Oper.mk (some 124) _ _ _ _ _ :: _) _ _);refine wpList_load_row rfl 25 (.tmp 15) rfl nb rfl 25 (cz h) (0,0) _ HN11.out Tryz.underlying25 rfl (infN (cz_size _)) ?_) | ((with_reducible show wpList _ _ _ (Oper.mk none _ _ _ _ _ :: _) _ _);refine wpList_store_row rfl 25 (.tmp 6) (.tmp 124) rfl rb (cz h) rfl rfl 25 cr HBR11.out (infN (cz_size _)) (by first | rfl | (rw [(cz_size _)];rfl) | exact OLDZ.out | (rw [HZR.out.1];rfl) | (rw [HZR.out.1,(cz_size _)])) (cz_one _) ?_))
       go_meet
       exact⟨PrsI.set HNX.out HBR11.out (by rw [HCL.out];exact TreeX.leaf _ _ h) HF11.out,(FrO.setRow (O:=fun j=>j=rb) rfl).blk HN11.out (by omega),(FrO.setRow (O:=fun j=>j=rb) rfl).size⟩
      ·have q5:((q:Int) == 0)=false:=beq_eq_false_iff_ne.2 (by omega)
       have h2:=HN2.out.2 (by omega)
       obtain⟨hcp1,hcp2⟩:=close_push (st:=st) (l:=k) h (by omega) hk1.2
       have HCL:=hide (show closeS st2=addT ⟨h,[],.nil⟩ (k - 2) (closeS st) by rw [HS2.out];exact hcp1)
       have RA:=hide (show Calls Tryz.prog 100 #[.agg cr,.agg (cz h),.int .i64 (k:Int)] W11 fun e w'=>∃r',e=.returned r'∧TreeX (fun j=>j=rb∨j=b2) w' r' (addT ⟨h,[],.nil⟩ (k - 2) (closeS st))∧Below W11.heap.size W11 w' from radd_any ⟨h,[],.nil⟩ (k - 2) _ (closeS st) hcp2 (by omega) k (by omega) (by omega) (.agg cr) (.agg (cz h)) W11 (fun j hj=>by rcases hj with rfl | rfl;exact HBR11.out.lt;exact HB211.out.lt) HX11.out (TreeX.leaf _ _ h))
       clear e1 h2 hcp1 hcp2
       go_wp2_with (first | ((with_reducible show wpList _ _ _ (Oper.mk (some 125) _ _ _ _ _ :: _) _ _);refine wpList_load_row rfl 25 (.tmp 6) rfl rb rfl 25 cr (0,0) _ HBR11.out Tryz.underlying25 rfl (infN HZR.out.1) ?_) | ((with_reducible show wpList _ _ _ (Oper.mk (some 126) _ _ _ _ _ :: _) _ _);refine wpList_load_row rfl 25 (.tmp 15) rfl nb rfl 25 (cz h) (0,0) _ HN11.out Tryz.underlying25 rfl (infN (cz_size _)) ?_) | (go_at_call 100;refine RA.out.mono ?_;rintro e w12 ⟨r12,rfl,hr12,hb12⟩;have HR12:=hide hr12;obtain⟨c12,rfl,hz12,h112⟩:=HR12.out.here.cells;have HZ12:=hide (And.intro hz12 h112);have HBR12:=hide (Blk.below hb12 HBR11.out);have HF12:=hide (HF11.out.trans (FrO.of (O:=fun j=>j=rb) hb12) fun j hj=>Or.inl hj);have HN12:=hide (Blk.below hb12 HN11.out);have hsz12:=hb12.size;clear hr12 hz12 h112 hb12) | ((with_reducible show wpList _ _ _ (Oper.mk none _ _ _ _ _ :: _) _ _);refine wpList_store_row rfl 25 (.tmp 6) (.tmp 128) rfl rb c12 rfl rfl 25 cr HBR12.out (infN HZ12.out.1) (by first | rfl | (rw [HZ12.out.1];rfl) | exact OLDZ.out | (rw [HZR.out.1];rfl) | (rw [HZR.out.1,HZ12.out.1])) HZ12.out.2 ?_))
       go_meet
       exact⟨PrsI.set HNX.out HBR12.out (by rw [HCL.out];exact HR12.out) HF12.out,(FrO.setRow (O:=fun j=>j=rb) rfl).blk HN12.out (by omega),Nat.le_trans hsz12 (FrO.setRow (O:=fun j=>j=rb) rfl).size⟩
     case rest=>
     obtain⟨hps,hnc,-⟩:=hcut
     have HPS:=hide hps
     have c1:wc.cell? ⟨nb,1,none⟩=some (.int .i64 h.kind):=hnc.cells 1
     clear hps hnc HN11 HBR11 HX11 HF11
     go_upto_region 25 with fail
     go_quiet (fail)
     go_wp2_with fail
     go_roundw
     case rel=>exact⟨q+1,st2,by go_num,by omega,by rw [HL2.out],by rw [HKT.out],HPS.out.below (below_drewN' (Below.refl _ _))⟩
     case measure=>simp [intOf];omega
end Go.Proofs.YtlhakdildbplkaaGreatDoor
