/- Part of the claim: its words. -/
import Derived.Test.YtlhakdildbplkaaGreatDoorG37
import Derived.Test.YtlhakdildbplkaaGreatDoorG46
set_option maxRecDepth 100000
set_option maxHeartbeats 8000000
namespace Go.Proofs.YtlhakdildbplkaaGreatDoor
set_option linter.unusedSimpArgs false
set_option linter.unusedVariables false
open Go.RowKit
theorem parse_zero {s:ByteArray} {t:Tr} {i e:Int} (h:parseT s=(t,i,e)) (he:e≠0):t=Tr.zero:=by
 unfold parseT at h
 split at h
 ·exact(Prod.mk.inj h).1.symm
 ·split at h
  ·exact(Prod.mk.inj h).1.symm
  ·split at h
   ·exact(Prod.mk.inj h).1.symm
   ·split at h
    ·split at h
     ·exact(Prod.mk.inj h).1.symm
     ·exact absurd (Prod.mk.inj (Prod.mk.inj h).2).2.symm he
    ·exact(Prod.mk.inj h).1.symm
theorem parse_szs {s:ByteArray} {t:Tr} {i e:Int} (h:parseT s=(t,i,e)) (hs:s.size≤3000∨65536 < s.size):t.sz≤9000:=by
 by_cases he:e=0
 ·subst he
  rcases hs with hs | hs
  ·exact parse_sz h hs
  ·rw [parse_big hs] at h
   injection h with _ h
   injection h with _ h
   cases h
 ·rw [parse_zero h he]
  decide
theorem parse_bigP (s:ByteArray) (hs:65536 < s.size) (w:World):Calls Tryz.prog 36 #[.string s] w (ParP s w):=by
 have HPB:=hide (parse_big hs)
 have BZ:=hide built_zero
 have hs2:((65536:Int) < (s.size:Int)):=by omega
 have HL:Live w []:=trivial
 go_enter Tryz.func36,Tryz.ntmps36
 go_upto_region 1 with fail
 have hbel1:Below w.heap.size w (w.alloc (.cells zeroN 25)):=(Below.refl _ _).alloc (Nat.le_refl _) _
 have HB2:=hide (show Blk (w.alloc (.cells zeroN 25)) w.heap.size zeroN 25 from Blk.newAt rfl)
 obtain⟨W1,hW1⟩:∃W1,W1=w.alloc (.cells zeroN 25):=⟨_,rfl⟩
 rw [←hW1] at hbel1 HB2
 unfold zeroN at hW1
 rw [←hW1]
 clear hW1
 obtain⟨b2,hb2e⟩:∃b,b=w.heap.size:=⟨_,rfl⟩
 rw [←hb2e] at HB2 ⊢
 have hb2:w.heap.size≤b2∧True:=⟨by omega,trivial⟩
 have HBE:=hide hbel1
 clear hb2e hbel1
 go_wp2_with (first | ((with_reducible show wpList _ _ _ (Oper.mk (some 25) _ _ _ _ _ :: _) _ _);refine wpList_build_is rfl 25 #[] rfl [] (by simp) _ BZ.out ?_) | ((with_reducible show wpList _ _ _ (Oper.mk none _ _ _ _ _ :: _) _ _);refine wpList_store_row rfl 25 (.tmp 2) (.tmp 25) rfl b2 zeroN rfl rfl 25 zeroN HB2.out (infN rfl) rfl (by kernel_rfl) ?_))
 exact par_err (i:=0) (k:=7) _ rfl rfl rfl rfl (setRow_heap _ _ _ _ _ _ HB2.out) HPB.out ((HBE.out).trans ((FrO.setRow (O:=fun j=>j=b2) rfl).below (Below.size HBE.out) fun j hj=>by subst hj;exact hb2.1))
theorem parses (x:ByteArray) (hs:x.size≤3000∨65536 < x.size) (w:World) (hT:TabA w):Calls Tryz.prog 36 #[.string x] w (ParP x w):=by
 rcases hs with hs | hs
 ·exact parse_all x (by omega) (parse_small (by omega)) w hT.1 hT.2.1 hT.2.2
 ·exact parse_bigP x hs w
theorem rparses (x:ByteArray) (hs:x.size≤3000∨65536 < x.size) (w:World):Calls Tryz.prog 37 #[.string x] w (ParP x w):=by
 rcases hs with hs | hs
 ·exact rparse_any x hs w
 ·exact rparse_big x hs w
theorem law_texts (t:Tr) (v:Value) (x:ByteArray) (w:World) (hT:TabA w) (hv:TreeR w w.heap.size v t) (hz:t.sz≤20971520) (hx:x.size≤1048576) :
  Calls Tryz.prog 6 #[v,.string x] w fun e w'=>e=.returned (.bool true)∧Below w.heap.size w w':=by
 obtain⟨cn,rfl,hzc⟩:=Nd.cells hv
 have HTA:=hide hT
 have HV:=hide hv
 have HZ:=hide hz
 clear hv hz hT
 have HL:Live w []:=trivial
 go_enter Tryz.func6,Tryz.ntmps6
 go_upto_region 1 with fail
 have HN1:=hide (Nd.new HV.out hzc)
 have hbel1:Below w.heap.size w (w.alloc (.cells cn 25)):=(Below.refl _ _).alloc (Nat.le_refl _) _
 generalize w.alloc (.cells cn 25)=W1 at *
 obtain⟨b,hb⟩:∃b,b=w.heap.size:=⟨_,rfl⟩
 rw [←hb] at HN1 ⊢
 clear hb HV hzc
 have AW:=hide (awake_any W1 (HTA.out.below hbel1))
 go_upto_if 16 with (go_at_call 11;refine AW.out.mono ?_;rintro e w2 ⟨rfl,hb2⟩)
 have HN2:=hide (HN1.out.below hb2)
 have hbel2:=hbel1.trans (hb2.mono hbel1.size)
 clear HN1 hbel1 hb2 AW
 cases hfew:fewB t 20000 with
 | false=>
  have FW:=hide (few_any w2 cn t false hfew HZ.out HN2.out.2.1)
  go_wp2_with (first | ((with_reducible show wpList _ _ _ _ _ _);refine wpList_load_row rfl 25 (.tmp 2) rfl b rfl 25 cn (0,0) _ HN2.out.1 Tryz.underlying25 rfl (infN HN2.out.2.2) ?_) | (go_at_call 12;refine(FW.out).mono ?_;rintro e w3 ⟨rfl,hb3⟩))
  go_ret
  exact⟨rfl,hbel2.trans (hb3.mono hbel2.size)⟩
 | true=>
  obtain⟨hct,hsz⟩:=few_sz hfew
  have FW:=hide (few_any w2 cn t true hfew HZ.out HN2.out.2.1)
  clear hfew
  by_cases hxm:3000 < x.size∧x.size≤65536
  case pos=>
   have q1:(x.size:Int) > 3000:=by omega
   have q2:(x.size:Int)≤65536:=by omega
   clear hxm
   go_wp2_with (first | ((with_reducible show wpList _ _ _ _ _ _);refine wpList_load_row rfl 25 (.tmp 2) rfl b rfl 25 cn (0,0) _ HN2.out.1 Tryz.underlying25 rfl (infN HN2.out.2.2) ?_) | (go_at_call 12;refine(FW.out).mono ?_;rintro e w3 ⟨rfl,hb3⟩))
   go_ret
   exact⟨rfl,hbel2.trans (hb3.mono hbel2.size)⟩
  case neg=>
  have hxs:x.size≤3000∨65536 < x.size:=by omega
  have HXS:=hide hxs
  obtain⟨cc,hcc⟩:∃cc:Bool,cc=true:=⟨true,rfl⟩
  go_upto_region 3 with fail
  go_cut [29] from 17 to 29 (fun b wz=>b=.bool false∧Below w2.heap.size w2 wz)
  case first=>
   rcases hxs with hxs | hxs
   ·have q1:¬(x.size:Int) > 3000:=by omega
    clear hxm
    go_wp2_with (first | ((with_reducible show wpList _ _ _ _ _ _);refine wpList_load_row rfl 25 (.tmp 2) rfl b rfl 25 cn (0,0) _ HN2.out.1 Tryz.underlying25 rfl (infN HN2.out.2.2) ?_) | (go_at_call 12;refine(FW.out).mono ?_;rintro e w3 ⟨rfl,hb3⟩))
    go_meet
    exact⟨rfl,hb3⟩
   ·have q1:(x.size:Int) > 3000:=by omega
    have q2:¬(x.size:Int)≤65536:=by omega
    clear hxm
    go_wp2_with (first | ((with_reducible show wpList _ _ _ _ _ _);refine wpList_load_row rfl 25 (.tmp 2) rfl b rfl 25 cn (0,0) _ HN2.out.1 Tryz.underlying25 rfl (infN HN2.out.2.2) ?_) | (go_at_call 12;refine(FW.out).mono ?_;rintro e w3 ⟨rfl,hb3⟩))
    go_meet
    exact⟨by first | rfl | (simp;omega) | simp,hb3⟩
  case rest=>
  obtain⟨rfl,hb3⟩:=hcut
  have HN3:=hide (HN2.out.below hb3)
  have hbel3:=hbel2.trans (hb3.mono hbel2.size)
  clear HN2 hbel2 hb3 FW hxm hxs hcc
  have FM:=hide (format_any t (by omega) (.agg cn) wc (HTA.out.below hbel3).1 (HTA.out.below hbel3).2.1 HN3.out.2.1)
  obtain⟨s,er,hfm⟩:∃s er,formatT t=(s,er):=⟨_,_,rfl⟩
  have FR:=hide (show ∀W,Below wc.heap.size wc W→Calls Tryz.prog 35 #[.agg cn] W fun e w'=>e=.returned (.tuple #[.string s,.int .i64 er])∧Below W.heap.size W w' from fun W h=>by
   have h1:=rformat_any t (by omega) (.agg cn) W (HN3.out.2.1.later h)
   rw [hfm] at h1
   exact h1)
  rw [hfm] at FM
  clear hfm
  go_upto_region 6 with (first | ((with_reducible show wpList _ _ _ _ _ _);refine wpList_load_row rfl 25 (.tmp 2) rfl b rfl 25 cn (0,0) _ HN3.out.1 Tryz.underlying25 rfl (infN HN3.out.2.2) ?_) | (go_at_call 34;refine(FM.out).mono ?_;rintro e w4 ⟨rfl,hb4⟩))
  have HN4:=hide (HN3.out.below hb4)
  have FR4:=hide (FR.out w4 hb4)
  have hbel4:=hbel3.trans (hb4.mono hbel3.size)
  clear HN3 hbel3 hb4 FM FR
  go_upto_region 7 with (first | ((with_reducible show wpList _ _ _ _ _ _);refine wpList_load_row rfl 25 (.tmp 2) rfl b rfl 25 cn (0,0) _ HN4.out.1 Tryz.underlying25 rfl (infN HN4.out.2.2) ?_) | (go_at_call 35;refine(FR4.out).mono ?_;rintro e w5 ⟨rfl,hb5⟩))
  have hbel5:=hbel4.trans (hb5.mono hbel4.size)
  clear HN4 hbel4 hb5 FR4
  obtain⟨m,i,er2,hpm⟩:∃m i er,parseT x=(m,i,er):=⟨_,_,_,rfl⟩
  have hmz:=parse_szs hpm HXS.out
  have PT:=hide (parses x HXS.out w5 (HTA.out.below hbel5))
  unfold ParP at PT
  rw [hpm] at PT
  go_upto_region 8 with (first | (go_at_call 36;refine(PT.out).mono ?_;rintro e w6 ⟨v6,rfl,HV60,HB60⟩;have HV6:=hide HV60;have HB6:=hide HB60;clear HV60 HB60) | ((with_reducible show wpList _ _ _ _ _ _);refine store_tree rfl (.tmp 9) (.tmp 43) rfl v6 _ rfl rfl rfl HV6.out ?_;rintro cp rfl hzcp h1cp))
  obtain⟨hM,hb7⟩:=Nd.stored HV6.out hzcp HB6.out
  have HM:=hide hM
  have hbel7:=hbel5.trans (hb7.mono hbel5.size)
  clear hM hb7 HV6 HB6 hzcp h1cp PT hbel5
  generalize w6.alloc (.cells cp 25)=W7 at *
  obtain⟨bp,hbp⟩:∃bp,bp=w6.heap.size:=⟨_,rfl⟩
  rw [←hbp] at HM ⊢
  clear hbp
  have PR:=hide (rparses x HXS.out W7)
  unfold ParP at PR
  rw [hpm] at PR
  clear hpm
  go_upto_region 9 with (first | (go_at_call 37;refine(PR.out).mono ?_;rintro e w8 ⟨v8,rfl,HV80,HB80⟩;have HV8:=hide HV80;have HB8:=hide HB80;clear HV80 HB80) | ((with_reducible show wpList _ _ _ _ _ _);refine store_tree rfl (.tmp 12) (.tmp 49) rfl v8 _ rfl rfl rfl HV8.out ?_;rintro cq rfl hzcq h1cq))
  obtain⟨hQ,hb9⟩:=Nd.stored HV8.out hzcq HB8.out
  have HQ:=hide hQ
  have HM9:=hide (HM.out.below hb9)
  have hbel9:=hbel7.trans (hb9.mono hbel7.size)
  clear hQ hb9 HV8 HB8 hzcq h1cq PR hbel7 HM
  generalize w8.alloc (.cells cq 25)=W9 at *
  obtain⟨bq,hbq⟩:∃bq,bq=w8.heap.size:=⟨_,rfl⟩
  rw [←hbq] at HQ ⊢
  clear hbq
  have QE:=hide (req_true m (by omega) (.agg cp) (.agg cq) W9 HM9.out.2.1 HQ.out.2.1)
  go_wp2_with (first | ((with_reducible show wpList _ _ _ (Oper.mk (some 71) _ _ _ _ _ :: _) _ _);refine wpList_load_rowG 25 (.tmp 9) rfl rfl bp rfl 25 cp (0,0) _ (HM9.out.1) Tryz.underlying25 rfl (infN HM9.out.2.2) ?_) | ((with_reducible show wpList _ _ _ (Oper.mk (some 72) _ _ _ _ _ :: _) _ _);refine wpList_load_rowG 25 (.tmp 12) rfl rfl bq rfl 25 cq (0,0) _ (HQ.out.1) Tryz.underlying25 rfl (infN HQ.out.2.2) ?_) | (go_at_call 29;refine(QE.out).mono ?_;rintro e w10 ⟨rfl,hb10⟩))
  go_ret
  exact⟨rfl,hbel9.trans (hb10.mono hbel9.size)⟩
end Go.Proofs.YtlhakdildbplkaaGreatDoor
