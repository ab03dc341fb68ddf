/- Part of the claim: its words. -/
import Derived.Test.YtlhakdildbplkaaGreatDoorG37
import Derived.Test.YtlhakdildbplkaaGreatDoorG16
import Derived.Test.YtlhakdildbplkaaGreatDoorG15
set_option maxRecDepth 100000
set_option maxHeartbeats 4000000
namespace Go.Proofs.YtlhakdildbplkaaGreatDoor
set_option linter.unusedSimpArgs false
set_option linter.unusedVariables false
open Go.RowKit
theorem unword_R {w s:ByteArray} (hw:w≠⟨#[61]⟩) (h:unword w=some s):unwR w.data.toList=some s.data.toList∧wordS s=w∧w≠eS:=by
 have h1:=unword_spec.1 h
 have hne:s≠eS:=fun e=>hw (by rw [←h1,e];rfl)
 have h2:=wordS_ne hne
 rw [h1] at h2
 refine⟨by rw [h2];exact unwR_word _,h1,fun e=>?_⟩
 rw [h2] at e
 have h3:(wordL s.data.toList).toArray=#[]:=congrArg ByteArray.data e
 have h4:wordL s.data.toList=[]:=by simpa using h3
 exact hne (ByteArray.ext (by simpa using wordL_eq_empty h4))
theorem unwR_stop {c:UInt8} {l:List UInt8} (h:c=37→l.length < 2):unwR (c :: l)=if c=37 then none else (unwR l).map (c :: ·):=by
 rw [unwR]
 intro a b l' e1 e2
 have:=h e1
 rw [e2] at this
 simp at this
 omega
def UnwA (s:ByteArray) (w:World) (e:Ending) (w':World):Prop:=∃x ok,e=.returned (.tuple #[.string x,.bool ok])∧(ok=true→unword s=some x)∧(ok=false→unword s=none)∧Below w.heap.size w w'
theorem runword_any (s:ByteArray) (hs:s.size≤1000000) (w:World):Calls Tryz.prog 97 #[.string s] w (UnwA s w):=by
 by_cases h0:s=⟨#[61]⟩
 case pos=>
  subst h0
  have HL:Live w []:=trivial
  go_enter Tryz.func97,Tryz.ntmps97
  go_wp2_with fail
  go_ret2
  exact⟨⟨#[]⟩,true,rfl,fun _=>by unfold unword;rw [if_pos rfl],fun h=>Bool.noConfusion h,Below.refl _ _⟩
 case neg=>
 have q1:(s.toList == [61])=false:=by
  rw [beq_eq_false_iff_ne]
  exact fun e=>h0 (bytes_inj (by rw [←ByteArray.toList_eq];exact e))
 have HU:=hide (fun x=>unword_R (s:=x) h0)
 have hsl:s.data.toList.length=s.size:=Array.length_toList
 have HSL:=hide hsl
 clear h0 hsl
 have HL:Live w []:=trivial
 go_enter Tryz.func97,Tryz.ntmps97
 go_wp2_with fail
 go_loopw [4,5] (fun v i wr=>∃(k:Nat) (l:List UInt8) (V:Value),V=v∧i=.int .i64 (k:Int)∧k≤s.size∧l.length≤k∧RowBt w.heap.size v l wr∧unwR s.data.toList=(unwR (s.data.toList.drop k)).map (l ++ ·)∧Below w.heap.size w wr) (fun _ i _=>s.size - (intOf i).toNat)
 case atStart=>exact⟨0,[],_,rfl,rfl,Nat.zero_le _,Nat.le_refl _,RowBt.nil _ _,by rw [List.drop_zero];cases unwR s.data.toList <;> rfl,Below.refl _ _⟩
 case round=>
  obtain⟨k,l,V,rfl,rfl,hk,hlk,hR,hun,hbel⟩:=hrel
  have HR:=hide hR
  have HUN:=hide hun
  have hsz:=hbel.size
  clear hR hun
  by_cases hlt:k < s.size
  case neg=>
   obtain rfl:k=s.size:=by omega
   have hun2:unwR s.data.toList=some l:=by rw [HUN.out,List.drop_of_length_le (by rw [HSL.out];exact Nat.le_refl _)];simp [unwR]
   clear HUN
   by_cases hE:s=eS
   case pos=>
    have q0:(s.toList == [])=true:=by rw [hE,ByteArray.toList_eq];rfl
    have hno:unword s=none:=by
     cases e:unword s with
     | none=>rfl
     | some x=>exact absurd hE (HU.out x e).2.2
    have HNO:=hide hno
    clear hno hun2 hE
    have hk0:RowBt w.heap.size V l wr∧True:=⟨HR.out,trivial⟩
    have hk1:RowBt w.heap.size V l wr.drew∧True:=⟨HR.out.below (Below.refl _ _).drew,trivial⟩
    go_upto_region 13 with fail
    refine wp_region_noPanic ?_
    refine wp_region_held_drew (S:=(fun z=>RowBt w.heap.size V l z∧True)) (by kernel_rfl) kp (fun hHeld=>?_)
    refine tkZ 0 ⟨some 63,.move (.tmp 4),79, "ref.go:391",#[],none⟩ ?_
    refine tkZ 1 ⟨some 64,.convert 79 9 (.tmp 63),9, "ref.go:391",#[⟨0,.data⟩],none⟩ ?_ (by intro w hSw;(try dsimp only at hSw);have CV:=hSw.1.conv;go_simp;(try with_reducible rfl))
    refine tkZ 2 ⟨some 65,.move (.tmp 0),9, "ref.go:391",#[],none⟩ ?_
    refine tkZ 3 ⟨some 66,.binOp .neq 9 (.tmp 65) (.const (.string { data:=#[] })) 9,4, "ref.go:391",#[⟨2,.data⟩],none⟩ ?_
    refine tkZ 4 ⟨some 67,.move (.tmp 66),4, "ref.go:391",#[⟨3,.data⟩],none⟩ ?_
    refine tkM 5 ⟨some 68,.move (.tmp 4),79, "ref.go:391",#[⟨4,.guard⟩],some (4,true)⟩ ?_
    refine tkM 6 ⟨some 69,.convert 79 9 (.tmp 68),9, "ref.go:391",#[⟨5,.data⟩,⟨4,.guard⟩],some (4,true)⟩ ?_
    refine tkM 7 ⟨some 70,.call ⟨.value (.func 134),#[.tmp 69],#[9]⟩,9, "ref.go:391",#[⟨6,.data⟩,⟨4,.chain⟩,⟨4,.guard⟩],some (4,true)⟩ ?_
    refine tkM 8 ⟨some 71,.move (.tmp 0),9, "ref.go:391",#[⟨4,.guard⟩,⟨11,.gcOnly .lateStores⟩],some (4,true)⟩ ?_
    refine tkM 9 ⟨some 72,.binOp .eql 9 (.tmp 70) (.tmp 71) 9,4, "ref.go:391",#[⟨7,.data⟩,⟨8,.data⟩,⟨4,.guard⟩,⟨11,.gcOnly .lateStores⟩],some (4,true)⟩ ?_
    refine tkZ 10 ⟨some 73,.pick (.tmp 67) (.tmp 72) (.const (.bool false)),4, "ref.go:391",#[⟨4,.data⟩,⟨9,.data⟩,⟨11,.gcOnly .lateStores⟩],none⟩ ?_
    refine tkZ 11 ⟨some 2,.assign (.tmp 64),9, "ref.go:391",#[⟨1,.data⟩,⟨7,.chain⟩,⟨0,.phase⟩,⟨1,.phase⟩,⟨2,.textOnly .lateStores⟩,⟨3,.textOnly .lateStores⟩,⟨4,.textOnly .lateStores⟩,⟨5,.textOnly .lateStores⟩,⟨6,.textOnly .lateStores⟩,⟨7,.textOnly .lateStoresUnsure⟩,⟨8,.textOnly .lateStores⟩,⟨9,.textOnly .lateStores⟩,⟨10,.textOnly .lateStores⟩],none⟩ ?_
    refine tkZ 12 ⟨some 3,.assign (.tmp 73),4, "ref.go:391",(phs [⟨10,.data⟩,⟨11,.chain⟩] 12),none⟩ ?_
    refine wpAnyH_done (by kernel_rfl) ?_ _
    refine NoPanic.normal ?_
    go_wp2_with fail
    go_ret2
    exact⟨_,false,rfl,fun h=>Bool.noConfusion h,fun _=>HNO.out,hbel.drew⟩
   case neg=>
    have q0:(s.toList == [])=false:=by
     rw [beq_eq_false_iff_ne]
     exact fun e=>hE (nil_list e)
    have HS:=hide (fun (h:wordS ⟨l.toArray⟩=s)=>unword_spec.2 h)
    have HN:=hide (show wordS ⟨l.toArray⟩≠s→unword s=none from fun h=>by
     cases e:unword s with
     | none=>rfl
     | some x=>
      have h1:=HU.out x e
      rw [hun2] at h1
      have h2:l=x.data.toList:=Option.some.inj h1.1
      subst h2
      exact absurd h1.2.1 h)
    have WD:=hide (fun W=>rword_any ⟨l.toArray⟩ (by show l.toArray.size≤_;rw [List.size_toArray];omega) W)
    have q2:((wordS ⟨l.toArray⟩).toList == s.toList)=decide (wordS ⟨l.toArray⟩=s):=by
     cases hd:decide (wordS ⟨l.toArray⟩=s)
     ·exact beq_eq_false_iff_ne.2 (fun e=>of_decide_eq_false hd (toL_inj e))
     ·rw [of_decide_eq_true hd];exact beq_self_eq_true _
    generalize hdd:decide (wordS ⟨l.toArray⟩=s)=dd at q2
    have HD:=hide hdd
    clear hdd hun2 hE
    have hk0:RowBt w.heap.size V l wr∧True:=⟨HR.out,trivial⟩
    have hk1:RowBt w.heap.size V l wr.drew∧True:=⟨HR.out.below (Below.refl _ _).drew,trivial⟩
    go_upto_region 13 with fail
    refine wp_region_noPanic ?_
    refine wp_region_held_drew (S:=(fun z=>RowBt w.heap.size V l z∧True)) (by kernel_rfl) kp (fun hHeld=>?_)
    refine tkZ 0 ⟨some 63,.move (.tmp 4),79, "ref.go:391",#[],none⟩ ?_
    refine tkZ 1 ⟨some 64,.convert 79 9 (.tmp 63),9, "ref.go:391",#[⟨0,.data⟩],none⟩ ?_ (by intro w hSw;(try dsimp only at hSw);have CV:=hSw.1.conv;go_simp;(try with_reducible rfl))
    refine tkZ 2 ⟨some 65,.move (.tmp 0),9, "ref.go:391",#[],none⟩ ?_
    refine tkZ 3 ⟨some 66,.binOp .neq 9 (.tmp 65) (.const (.string { data:=#[] })) 9,4, "ref.go:391",#[⟨2,.data⟩],none⟩ ?_
    refine tkZ 4 ⟨some 67,.move (.tmp 66),4, "ref.go:391",#[⟨3,.data⟩],none⟩ ?_
    refine tkZ 5 ⟨some 68,.move (.tmp 4),79, "ref.go:391",#[⟨4,.guard⟩],some (4,true)⟩ ?_
    refine tkZ 6 ⟨some 69,.convert 79 9 (.tmp 68),9, "ref.go:391",#[⟨5,.data⟩,⟨4,.guard⟩],some (4,true)⟩ ?_ (by intro w hSw;(try dsimp only at hSw);have CV:=hSw.1.conv;go_simp;(try with_reducible rfl))
    refine tkZ 8 ⟨some 71,.move (.tmp 0),9, "ref.go:391",#[⟨4,.guard⟩,⟨11,.gcOnly .lateStores⟩],some (4,true)⟩ ?_
    refine rqS [7] (rqC ⟨some 70,.call ⟨.value (.func 134),#[.tmp 69],#[9]⟩,9, "ref.go:391",#[⟨6,.data⟩,⟨4,.chain⟩,⟨4,.guard⟩],some (4,true)⟩ (fun K hK=>?_) rq0)
    go_simp
    (go_at_call 134;(with_reducible refine(WD.out _).mono ?_);rintro e w5 ⟨rfl,hb5⟩;have hkeepx:RowBt w.heap.size V l w5∧True:=⟨hHeld.1.below hb5,trivial⟩)
    go_wp2_with fail
    refine hK.out _ _ kp (fun hHeld=>?_)
    clear hK K
    try simp only [PT]
    refine tkZ 9 ⟨some 72,.binOp .eql 9 (.tmp 70) (.tmp 71) 9,4, "ref.go:391",#[⟨7,.data⟩,⟨8,.data⟩,⟨4,.guard⟩,⟨11,.gcOnly .lateStores⟩],some (4,true)⟩ ?_
    refine tkZ 10 ⟨some 73,.pick (.tmp 67) (.tmp 72) (.const (.bool false)),4, "ref.go:391",#[⟨4,.data⟩,⟨9,.data⟩,⟨11,.gcOnly .lateStores⟩],none⟩ ?_
    refine tkZ 11 ⟨some 2,.assign (.tmp 64),9, "ref.go:391",#[⟨1,.data⟩,⟨7,.chain⟩,⟨0,.phase⟩,⟨1,.phase⟩,⟨2,.textOnly .lateStores⟩,⟨3,.textOnly .lateStores⟩,⟨4,.textOnly .lateStores⟩,⟨5,.textOnly .lateStores⟩,⟨6,.textOnly .lateStores⟩,⟨7,.textOnly .lateStoresUnsure⟩,⟨8,.textOnly .lateStores⟩,⟨9,.textOnly .lateStores⟩,⟨10,.textOnly .lateStores⟩],none⟩ ?_
    refine tkZ 12 ⟨some 3,.assign (.tmp 73),4, "ref.go:391",(phs [⟨10,.data⟩,⟨11,.chain⟩] 12),none⟩ ?_
    refine wpAnyH_done (by kernel_rfl) ?_ _
    refine NoPanic.normal ?_
    go_wp2_with fail
    go_ret2
    refine⟨_,dd,rfl,fun e=>?_,fun e=>?_,hbel.trans ((show Below wr.heap.size wr w5 from(Below.refl _ _).drew.trans hb5).mono hsz)⟩
    ·rw [e] at HD
     exact HS.out (of_decide_eq_true HD.out)
    ·rw [e] at HD
     exact HN.out (of_decide_eq_false HD.out)
  case pos=>
  have hll:k < s.data.toList.length:=by rw [HSL.out];exact hlt
  have hdr:s.data.toList.drop k=s[k]'hlt :: s.data.toList.drop (k+1):=by
   rw [List.drop_eq_getElem_cons hll];rfl
  have HDR:=hide hdr
  clear hll hdr
  by_cases hc:s[k]'hlt=37
  case neg=>
   have hcb:(((s[k]'hlt).toNat:Int) == 37)=false:=by
    rw [beq_eq_false_iff_ne];intro h;exact hc (UInt8.toNat_inj.1 (by simpa using (show((s[k]'hlt).toNat)=37 by omega)))
   have HUN2:=hide (show unwR s.data.toList=(unwR (s.data.toList.drop (k+1))).map (l++[s[k]'hlt] ++ ·) by
    rw [HUN.out,HDR.out,unwR_stop (fun e=>absurd e hc),if_neg hc]
    cases unwR (s.data.toList.drop (k+1)) <;> simp)
   clear HUN HDR hc
   have HR2:=hide (HR.out.below ((Below.refl _ _).alloc (Nat.le_refl _) (.cells #[.int .u8 ((s[k]'hlt).toNat:Int)] 5)))
   have HN:=hide (show Blk (wr.alloc (.cells #[.int .u8 ((s[k]'hlt).toNat:Int)] 5)) wr.heap.size #[.int .u8 ((s[k]'hlt).toNat:Int)] 5 from Blk.newAt rfl)
   have hz2:(wr.alloc (.cells #[.int .u8 ((s[k]'hlt).toNat:Int)] 5)).heap.size=wr.heap.size+1:=World.size_alloc ..
   have hbel2:Below w.heap.size w (wr.alloc (.cells #[.int .u8 ((s[k]'hlt).toNat:Int)] 5)):=hbel.alloc hsz _
   go_wp2_with (at_builtin;refine wpList_append_rows _ rfl _ _ 79 rfl w.heap.size 5 u8InfoR Tryz.underlying79 rfl (by decide) _ l.length (Lib.byteCells l) HR2.out ⟨wr.heap.size,0,none⟩ 1 1 [.int .u8 ((s[k]'hlt).toNat:Int)] rfl rfl rfl (World.news_of_block HN.out) (by simp [Value.oneCell']) (by unfold maxLen;omega) (by omega) (by omega) ?_;intro v2 w2 hown2 hnb2 hg2)
   have HR3:=hide (show RowBt w.heap.size v2 (l++[s[k]'hlt]) w2 by
    show w2.ownsRow _ _ _ v2 (l++[_]).length _
    rw [←byteCells_one,List.length_append]
    exact hown2)
   have hbel3:=grown_row HR2.out hg2 hbel2 (by omega)
   go_roundw
   case rel=>exact⟨k+1,_,_,rfl,by go_num,by omega,by rw [List.length_append];show _+1≤_;omega,HR3.out,HUN2.out,hbel3⟩
   case measure=>simp [intOf];omega
  case pos=>
  have hcb:(((s[k]'hlt).toNat:Int) == 37)=true:=by rw [hc];rfl
  have hw2:IntKind.i64.wrap ((k:Int)+2)=(k:Int)+2:=by rw [IntKind.wrap_i64];omega
  have hw1:IntKind.i64.wrap ((k:Int)+1)=(k:Int)+1:=by rw [IntKind.wrap_i64];omega
  by_cases hk2:k+2 < s.size
  case neg=>
   have hno:unword s=none:=by
    cases e:unword s with
    | none=>rfl
    | some x=>
     have h1:=(HU.out x e).1
     rw [HUN.out,HDR.out,unwR_stop (fun _=>by rw [List.length_drop,HSL.out];omega),if_pos hc] at h1
     cases h1
   have HNO:=hide hno
   have hki:¬((k:Int)+2 < (s.size:Int)):=by omega
   have hkg:(s.size:Int)≤(k:Int)+2:=by omega
   clear hno HUN HDR hc
   go_wp2_with fail
   go_ret2
   exact⟨_,false,rfl,fun h=>Bool.noConfusion h,fun _=>HNO.out,hbel⟩
  case pos=>
   have hk1:k+1 < s.size:=by omega
   have hdr2:s.data.toList.drop (k+1)=s[k+1]'hk1 :: s[k+2]'hk2 :: s.data.toList.drop (k+3):=by
    rw [List.drop_eq_getElem_cons (show k+1 < s.data.toList.length by rw [HSL.out];exact hk1),List.drop_eq_getElem_cons (show k+1+1 < s.data.toList.length by rw [HSL.out];exact hk2)]
    rfl
   rw [HDR.out,hdr2,hc] at HUN
   clear HDR hc hdr2
   have hi1:(k:Int)+1 < (s.size:Int):=by omega
   have hi2:(k:Int)+2 < (s.size:Int):=by omega
   have hkg:¬(s.size:Int)≤(k:Int)+2:=by omega
   have hp1:(0:Int)≤(k:Int)+1:=by omega
   have hp2:(0:Int)≤(k:Int)+2:=by omega
   have ht1:((k:Int)+1).toNat=k+1:=by omega
   have ht2:((k:Int)+2).toNat=k+2:=by omega
   have D1:=hide (fun W=>rdigit_any (s[k+1]'hk1) W)
   have D2:=hide (fun W=>rdigit_any (s[k+2]'hk2) W)
   generalize ha:(s[k+1]'hk1)=a at *
   generalize hb:(s[k+2]'hk2)=b at *
   by_cases hd:digV a < 16∧digV b < 16
   case neg=>
    have hno:unword s=none:=by
     cases e:unword s with
     | none=>rfl
     | some x=>
      have h1:=(HU.out x e).1
      rw [HUN.out,unwR,if_neg hd] at h1
      cases h1
    have HNO:=hide hno
    clear hno HUN
    have hle1:=digV_le a
    have hle2:=digV_le b
    by_cases hd1:digV a < 16
    ·have hd2:digV b=16:=by omega
     rw [hd2] at D2
     have hg1:¬(15:Int) < (digV a:Int):=by omega
     clear hd hd2 hle1 hle2
     generalize digV a=x at *
     go_wp2_with (first | (first | (go_at_call 138;(with_reducible refine(D1.out _).mono ?_);rintro e w1 ⟨rfl,hb1⟩)) | (first | (go_at_call 138;(with_reducible refine(D2.out _).mono ?_);rintro e w2 ⟨rfl,hb2⟩)))
     go_ret2
     exact⟨_,false,rfl,fun h=>Bool.noConfusion h,fun _=>HNO.out,(hbel.trans (hb1.mono hsz)).trans (hb2.mono (Nat.le_trans hsz hb1.size))⟩
    ·have hd2:digV a=16:=by omega
     rw [hd2] at D1
     clear hd hd2 hle1 hle2 hd1
     go_wp2_with (first | (first | (go_at_call 138;(with_reducible refine(D1.out _).mono ?_);rintro e w1 ⟨rfl,hb1⟩)) | (first | (go_at_call 138;(with_reducible refine(D2.out _).mono ?_);rintro e w2 ⟨rfl,hb2⟩)))
     go_ret2
     exact⟨_,false,rfl,fun h=>Bool.noConfusion h,fun _=>HNO.out,hbel.trans (hb1.mono hsz)⟩
   case pos=>
    obtain⟨hd1,hd2⟩:=hd
    have HUN2:=hide (show unwR s.data.toList=(unwR (s.data.toList.drop (k+3))).map (l++[UInt8.ofNat (16*digV a+digV b)] ++ ·) by
     rw [HUN.out,unwR,if_pos ⟨hd1,hd2⟩]
     cases unwR (s.data.toList.drop (k+3)) <;> simp)
    clear HUN
    have D3:=hide D1.out
    have D4:=hide D2.out
    generalize digV a=x at *
    generalize digV b=y at *
    have hg1:¬(15:Int) < (x:Int):=by omega
    have hg2:¬(15:Int) < (y:Int):=by omega
    have e1:IntKind.i64.wrap (16*(x:Int))=16*(x:Int):=by rw [IntKind.wrap_i64];omega
    have e2:IntKind.i64.wrap (16*(x:Int)+(y:Int))=16*(x:Int)+(y:Int):=by rw [IntKind.wrap_i64];omega
    have e3:IntKind.u8.wrap (16*(x:Int)+(y:Int))=16*(x:Int)+(y:Int):=by rw [IntKind.wrap_u8];omega
    have ec:((UInt8.ofNat (16*x+y)).toNat:Int)=16*(x:Int)+(y:Int):=by
     rw [UInt8.toNat_ofNat']
     omega
    have EC:=hide ec
    clear ec
    go_upto_region 11 with (first | (first | (go_at_call 138;(with_reducible refine(D1.out _).mono ?_);rintro e w1 ⟨rfl,hb1⟩)) | (first | (go_at_call 138;(with_reducible refine(D2.out _).mono ?_);rintro e w2 ⟨rfl,hb2⟩)))
    have hbw2:Below w.heap.size w w2:=(hbel.trans (hb1.mono hsz)).trans (hb2.mono (Nat.le_trans hsz hb1.size))
    have HR2:=hide (HR.out.below (hb1.trans (hb2.mono hb1.size)))
    have hsz2:=hbw2.size
    refine wp_region_noPanic ?_
    refine wp_region_held_drew (S:=(fun _=>True∧True)) (by kernel_rfl) kp (fun hHeld=>?_)
    refine tkZ 0 ⟨some 45,.move (.tmp 4),79, "ref.go:388",#[],none⟩ ?_
    refine tkZ 1 ⟨some 46,.move (.tmp 0),9, "ref.go:388",#[],none⟩ ?_
    refine tkZ 2 ⟨some 47,.move (.tmp 5),3, "ref.go:388",#[],none⟩ ?_
    refine tkZ 3 ⟨some 48,.binOp .add 3 (.tmp 47) (.const (.int .i64 1)) 3,3, "ref.go:388",#[⟨2,.data⟩],none⟩ ?_
    refine tkZ 4 ⟨some 49,.index 9 (.tmp 46) (.tmp 48),5, "ref.go:388",#[⟨1,.data⟩,⟨3,.data⟩],none⟩ ?_
    refine tkZ 7 ⟨some 52,.move (.tmp 0),9, "ref.go:388",#[],none⟩ ?_
    refine tkZ 8 ⟨some 53,.move (.tmp 5),3, "ref.go:388",#[],none⟩ ?_
    refine tkZ 9 ⟨some 54,.binOp .add 3 (.tmp 53) (.const (.int .i64 2)) 3,3, "ref.go:388",#[⟨8,.data⟩],none⟩ ?_
    refine tkZ 10 ⟨some 55,.index 9 (.tmp 52) (.tmp 54),5, "ref.go:388",#[⟨7,.data⟩,⟨9,.data⟩],none⟩ ?_
    refine rqS [5] (rqC ⟨some 50,.call ⟨.value (.func 138),#[.tmp 49],#[5]⟩,3, "ref.go:388",#[⟨4,.data⟩],none⟩ (fun K hK=>?_) rq0)
    go_simp
    (first | (go_at_call 138;(with_reducible refine(D3.out _).mono ?_);rintro e w3 ⟨rfl,hb3⟩;have hkeepx:True∧True:=⟨trivial,trivial⟩) | (go_at_call 138;(with_reducible refine(D4.out _).mono ?_);rintro e w4 ⟨rfl,hb4⟩;have hkeepx:True∧True:=⟨trivial,trivial⟩))
    go_wp2_with fail
    refine hK.out _ _ kp (fun hHeld=>?_)
    clear hK K
    try simp only [PT]
    refine tkZ 6 ⟨some 51,.binOp .mul 3 (.const (.int .i64 16)) (.tmp 50) 3,3, "ref.go:388",#[⟨5,.data⟩],none⟩ ?_
    refine rqS [11] (rqC ⟨some 56,.call ⟨.value (.func 138),#[.tmp 55],#[5]⟩,3, "ref.go:388",#[⟨10,.data⟩,⟨5,.chain⟩],none⟩ (fun K hK=>?_) rq0)
    go_simp
    (first | (go_at_call 138;(with_reducible refine(D3.out _).mono ?_);rintro e w3 ⟨rfl,hb3⟩;have hkeepx:True∧True:=⟨trivial,trivial⟩) | (go_at_call 138;(with_reducible refine(D4.out _).mono ?_);rintro e w4 ⟨rfl,hb4⟩;have hkeepx:True∧True:=⟨trivial,trivial⟩))
    go_wp2_with fail
    refine hK.out _ _ kp (fun hHeld=>?_)
    clear hK K
    try simp only [PT]
    refine tkZ 12 ⟨some 57,.binOp .add 3 (.tmp 51) (.tmp 56) 3,3, "ref.go:388",#[⟨6,.data⟩,⟨11,.data⟩],none⟩ ?_
    refine tkZ 13 ⟨some 58,.convert 3 5 (.tmp 57),5, "ref.go:388",#[⟨12,.data⟩],none⟩ ?_
    refine rqS [14] (rqC ⟨some 59,.buildSlice 79 1 #[(0,.tmp 58)],79, "ref.go:388",#[⟨13,.data⟩],none⟩ (fun K hK=>?_) rq0)
    go_simp
    refine hK.out _ _ kp (fun hHeld=>?_)
    clear hK K
    try simp only [PT]
    refine rqS [15] (rqC ⟨some 60,.call ⟨.builtin .append,#[.tmp 45,.tmp 59],#[79,79]⟩,79, "ref.go:388",#[⟨0,.data⟩,⟨14,.data⟩,⟨11,.chain⟩],none⟩ (fun K hK=>?_) rq0)
    have hb5:Below w2.heap.size w2 w4:=(Below.refl _ _).drew.trans (show Below w2.heap.size w2.drew w4 from hb3.trans (hb4.mono hb3.size));refine step_append_rows _ (by rfl) _ _ 79 (by rfl) w.heap.size 5 u8InfoR Tryz.underlying79 (by rfl) (by decide) _ l.length (Lib.byteCells l) (HR2.out.below (hb5.alloc hb5.size _)) ⟨w4.heap.size,0,none⟩ 1 1 _ (by rfl) (by rfl) (by rfl) (World.news_of_block (Blk.newAt rfl)) (by simp [Value.oneCell']) (by unfold maxLen;omega) (by omega) (Nat.le_trans hsz2 (hb5.alloc hb5.size _).size) ?_;intro v2 w6 hown2 hnb2 hg6
    refine hK.out _ _ kp (fun hHeld=>?_)
    clear hK K
    try simp only [PT]
    refine tkZ 16 ⟨some 4,.assign (.tmp 60),79, "ref.go:388",(phs [⟨15,.data⟩,⟨15,.chain⟩] 16),none⟩ ?_
    refine wpAnyH_done (by kernel_rfl) ?_ _
    refine NoPanic.normal ?_
    have hbel3:=grown_row (HR2.out.below (hb5.alloc hb5.size _)) hg6 (hbw2.trans ((hb5.alloc hb5.size _).mono hsz2)) (Nat.le_trans hsz2 (hb5.alloc hb5.size _).size)
    have HR3:=hide (show RowBt w.heap.size v2 (l++[UInt8.ofNat (16*x+y)]) w6 by
     show w6.ownsRow _ _ _ v2 (l++[_]).length _
     rw [←byteCells_one,List.length_append,EC.out]
     exact hown2)
    clear hg6 hown2 hnb2 EC
    go_wp2_with fail
    go_roundw
    case rel=>exact⟨k+3,_,_,rfl,by go_num,by omega,by rw [List.length_append];show _+1≤_;omega,HR3.out,HUN2.out,hbel3⟩
    case measure=>simp [intOf];omega
theorem rdec_any (n:Int) (h1 : -9223372036854775808 < n) (h2:n≤9223372036854775807) (w:World):Calls Tryz.prog 154 #[.int .i64 n] w fun e w'=>e=.returned (.string ⟨(Lib.itoa n).toArray⟩)∧Below w.heap.size w w':=by
 by_cases h0:n < 0
 ·have HI:=hide (show(⟨(Lib.itoa n).toArray⟩:ByteArray)=(⟨#[45]⟩:ByteArray)++⟨(Lib.decDigits n.natAbs).toArray⟩ by
   unfold Lib.itoa
   rw [if_pos h0]
   exact ofl_app [45] (Lib.decDigits n.natAbs))
  have DA:=hide (show ∀W,Calls Tryz.prog 154 #[.int .i64 (-n)] W fun e w'=>e=.returned (.string ⟨(Lib.decDigits n.natAbs).toArray⟩)∧Below W.heap.size W w' from fun W=>by
   rw [show -n=((n.natAbs:Nat):Int) by omega]
   exact rdec_nat n.natAbs n.natAbs (Nat.le_refl _) (by omega) W)
  have hl1:(⟨(Lib.decDigits n.natAbs).toArray⟩:ByteArray).size≤19:=dec_len _ (by omega)
  have hwr:IntKind.i64.wrap (-n) = -n:=by rw [IntKind.wrap_i64];omega
  generalize (⟨(Lib.decDigits n.natAbs).toArray⟩:ByteArray)=sa at *
  have HL:Live w []:=trivial
  go_enter Tryz.func154,Tryz.ntmps154
  go_wp2_with (first | (go_at_call 154;(with_reducible refine(DA.out _).mono ?_);rintro e w1 ⟨rfl,hb1⟩))
  go_ret
  exact⟨by rw [HI.out];rfl,hb1⟩
 ·have e:Lib.itoa n=Lib.decDigits n.toNat:=by unfold Lib.itoa;rw [if_neg h0]
  rw [e,show n=((n.toNat:Nat):Int) by omega]
  exact rdec_nat n.toNat n.toNat (Nat.le_refl _) (by omega) w
theorem itoa_len {n:Int} (h1 : -9223372036854775808 < n) (h2:n≤9223372036854775807):(Lib.itoa n).length≤20:=by
 unfold Lib.itoa
 split
 ·have:=dec_len19 n.natAbs (by omega)
  simp only [List.length_cons]
  omega
 ·have:=dec_len19 n.toNat (by omega)
  omega
theorem headL_is (h:Hd) (l:Nat):headL h l=spI l++spW h.name++(numsL h).flatMap spI:=by
 unfold headL numsL
 simp
theorem rhead_any (t:Tr) (l:Nat) (hl:l≤2000000000) (hn:t.h.name.size≤1000000) (hnum:∀n∈numsL t.h,-9223372036854775808 < n∧n≤9223372036854775807) (v:Value) (w:World) (hv:TreeR w w.heap.size v t):Calls Tryz.prog 133 #[v,.int .i64 (l:Int)] w fun e w'=>e=.returned (.string ⟨(headL t.h l).toArray⟩)∧Below w.heap.size w w':=by
 obtain⟨A,c,A2,c2,rfl,-,-⟩:=hv.open
 have HNUM:=hide hnum
 clear hv hnum
 have HL:Live w []:=trivial
 go_enter Tryz.func133,Tryz.ntmps133
 go_upto_region 1 with fail
 have HN:=NodeB.new w t.h (.slice A t.ks.len c) (.slice A2 t.ss.length c2)
 have hbel1:Below w.heap.size w (w.alloc (.cells (t.h.cells (.slice A t.ks.len c) (.slice A2 t.ss.length c2)) 25)):=by(exact bl)
 generalize w.alloc (.cells (t.h.cells (.slice A t.ks.len c) (.slice A2 t.ss.length c2)) 25)=W1 at *
 obtain⟨b,hb⟩:∃b,b=w.heap.size:=⟨_,rfl⟩
 rw [←hb] at HN ⊢
 clear hb
 have d4:=HN.c4
 have d5:=HN.c5
 have d6:=HN.c6
 have d7:=HN.c7
 have d8:=HN.c8
 have d9:=HN.c9
 go_upto_region 2 with fail
 have HY:=hide (show Blk (W1.alloc (.cells #[.int .i64 t.h.mode,.int .i64 t.h.uid,.int .i64 t.h.gid,.int .i64 t.h.time,.int .i64 t.h.weight,.int .i64 t.h.hidden] 3)) W1.heap.size (((numsL t.h).map (Value.int .i64)).toArray) 3 from Blk.newAt rfl)
 have HB:=hide (Blk.alloc HN.blk (.cells #[.int .i64 t.h.mode,.int .i64 t.h.uid,.int .i64 t.h.gid,.int .i64 t.h.time,.int .i64 t.h.weight,.int .i64 t.h.hidden] 3))
 have hbel2:Below w.heap.size w (W1.alloc (.cells #[.int .i64 t.h.mode,.int .i64 t.h.uid,.int .i64 t.h.gid,.int .i64 t.h.time,.int .i64 t.h.weight,.int .i64 t.h.hidden] 3)):=hbel1.alloc hbel1.size _
 clear d4 d5 d6 d7 d8 d9 HN hbel1
 generalize W1.alloc (.cells #[.int .i64 t.h.mode,.int .i64 t.h.uid,.int .i64 t.h.gid,.int .i64 t.h.time,.int .i64 t.h.weight,.int .i64 t.h.hidden] 3)=W2 at *
 generalize W1.heap.size=y at *
 obtain⟨cn,hcn⟩:∃cn,cn=t.h.cells (.slice A t.ks.len c) (.slice A2 t.ss.length c2):=⟨_,rfl⟩
 have cn0:cn[0]? = some (.string t.h.name):=by rw [hcn];rfl
 rw [←hcn] at HB
 have CN:=hide cn0
 clear hcn cn0
 have DL:=hide (show ∀W,Calls Tryz.prog 154 #[.int .i64 (l:Int)] W fun e w'=>e=.returned (.string ⟨(Lib.itoa (l:Int)).toArray⟩)∧Below W.heap.size W w' from fun W=>rdec_any (l:Int) (by omega) (by omega) W)
 have WN:=hide (fun W=>rword_any t.h.name hn W)
 have hsa:(⟨(Lib.itoa (l:Int)).toArray⟩:ByteArray).size≤20:=by
  show(Lib.itoa (l:Int)).toArray.size≤20
  rw [List.size_toArray]
  exact itoa_len (n:=(l:Int)) (by omega) (by omega)
 have hsb:(wordS t.h.name).size≤3000001:=by
  unfold wordS
  split
  ·decide
  ·have:=(wordL_len t.h.name.data.toList).2
   show(wordL t.h.name.data.toList).toArray.size≤_
   rw [List.size_toArray]
   have:t.h.name.data.toList.length=t.h.name.size:=Array.length_toList
   omega
 have HS0:=hide (show(⟨#[32]⟩:ByteArray)++⟨(Lib.itoa (l:Int)).toArray⟩++⟨#[32]⟩++wordS t.h.name=⟨(spI l++spW t.h.name).toArray⟩ by
  apply ByteArray.ext
  simp [spI,spW])
 have hk0:Blk W2 b cn 25∧True:=⟨HB.out,trivial⟩
 have hk1:Blk W2.drew b cn 25∧True:=⟨Blk.below (Below.refl _ _).drew HB.out,trivial⟩
 generalize (⟨(Lib.itoa (l:Int)).toArray⟩:ByteArray)=sa at *
 generalize wordS t.h.name=sb at *
 refine wp_region_noPanic ?_
 refine wp_region_held_drew (S:=(fun z=>Blk z b cn 25∧True)) (by kernel_rfl) kp (fun hHeld=>?_)
 refine tkZ 0 ⟨some 21,.move (.tmp 1),3, "ref.go:397",#[],none⟩ ?_
 refine tkZ 4 ⟨some 25,.fieldAddr 25 (.tmp 2) 0,0, "ref.go:397",#[],none⟩ ?_
 refine tkZ 5 ⟨some 26,.load 9 (.tmp 25),9, "ref.go:397",#[⟨4,.data⟩],none⟩ ?_ (by intro w hSw;(try dsimp only at hSw);have c1:=(hSw.1.cells 0).trans CN.out;go_simp;(try with_reducible rfl))
 refine rqS [1] (rqC ⟨some 22,.call ⟨.value (.func 154),#[.tmp 21],#[3]⟩,9, "ref.go:397",#[⟨0,.data⟩],none⟩ (fun K hK=>?_) rq0)
 go_simp
 (go_at_call 154;(with_reducible refine(DL.out _).mono ?_);rintro e w3 ⟨rfl,hb3⟩;have hk3:Blk w3 b cn 25∧True:=⟨Blk.below hb3 hHeld.1,trivial⟩)
 go_wp2_with fail
 refine hK.out _ _ kp (fun hHeld=>?_)
 clear hK K
 try simp only [PT]
 refine tkZ 2 ⟨some 23,.binOp .add 9 (.const (.string { data:=#[32] })) (.tmp 22) 9,9, "ref.go:397",#[⟨1,.data⟩],none⟩ ?_ (by intro w hSw;(try dsimp only at hSw);go_simp;rw [if_neg (by omega)];(try with_reducible rfl))
 refine tkZ 3 ⟨some 24,.binOp .add 9 (.tmp 23) (.const (.string { data:=#[32] })) 9,9, "ref.go:397",#[⟨2,.data⟩],none⟩ ?_ (by intro w hSw;(try dsimp only at hSw);go_simp;rw [if_neg (by omega)];(try with_reducible rfl))
 refine rqS [6] (rqC ⟨some 27,.call ⟨.value (.func 134),#[.tmp 26],#[9]⟩,9, "ref.go:397",#[⟨5,.data⟩,⟨1,.chain⟩],none⟩ (fun K hK=>?_) rq0)
 go_simp
 (go_at_call 134;(with_reducible refine(WN.out _).mono ?_);rintro e w4 ⟨rfl,hb4⟩;have hk4:Blk w4 b cn 25∧True:=⟨Blk.below hb4 hHeld.1,trivial⟩)
 go_wp2_with fail
 refine hK.out _ _ kp (fun hHeld=>?_)
 clear hK K
 try simp only [PT]
 refine tkZ 7 ⟨some 28,.binOp .add 9 (.tmp 24) (.tmp 27) 9,9, "ref.go:397",#[⟨3,.data⟩,⟨6,.data⟩],none⟩ ?_ (by intro w hSw;(try dsimp only at hSw);go_simp;rw [if_neg (by omega)];(try with_reducible rfl))
 refine tkZ 8 ⟨some 6,.assign (.tmp 28),9, "ref.go:397",(phs [⟨7,.data⟩,⟨6,.chain⟩] 8),none⟩ ?_
 refine wpAnyH_done (by kernel_rfl) ?_ _
 refine NoPanic.normal ?_
 go_wp2_with fail
 have hbel4:Below w.heap.size w w4:=hbel2.trans ((show Below W2.heap.size W2 w4 from(Below.refl _ _).drew.trans (show Below W2.heap.size W2.drew w4 from hb3.trans (hb4.mono hb3.size))).mono hbel2.size)
 have HY4:=hide (show Blk w4 y (((numsL t.h).map (Value.int .i64)).toArray) 3 from Blk.below (show Below W2.heap.size W2 w4 from(Below.refl _ _).drew.trans (show Below W2.heap.size W2.drew w4 from hb3.trans (hb4.mono hb3.size))) HY.out)
 have hns:numsL t.h=numsL t.h:=rfl
 have HHD:=hide (headL_is t.h l)
 have HPL:=hide (show(spI (l:Int)++spW t.h.name).length≤3000100 by
  have h1:=congrArg ByteArray.size HS0.out
  have h2:(⟨(spI (l:Int)++spW t.h.name).toArray⟩:ByteArray).size=(spI (l:Int)++spW t.h.name).length:=List.size_toArray ..
  rw [h2] at h1
  simp only [ByteArray.size_append] at h1
  have h3:(⟨#[32]⟩:ByteArray).size=1:=rfl
  omega)
 obtain⟨P,hP⟩:∃P,P=spI (l:Int)++spW t.h.name:=⟨_,rfl⟩
 obtain⟨N,hN⟩:∃N,N=numsL t.h:=⟨_,rfl⟩
 have hN6:N.length=6:=by rw [hN];rfl
 rw [←hP] at HS0 HPL HHD
 rw [←hN] at HY4 HNUM HHD
 have HW4:=hide hbel4
 rw [HS0.out]
 clear hP hN hns hbel2 hk0 hk1 hb3 hb4 hHeld HY HB DL WN hbel4
 go_loopw [6,7] (fun s i wr=>∃k:Nat,i=.int .i64 (k:Int)∧k≤6∧s=.string ⟨(P++(N.take k).flatMap spI).toArray⟩∧(P++(N.take k).flatMap spI).length≤3000100+21*k∧Blk wr y ((N.map (Value.int .i64)).toArray) 3∧Below w.heap.size w wr) (fun _ i _=>6 - (intOf i).toNat)
 case atStart=>exact⟨0,rfl,by omega,by simp,by simpa using HPL.out,HY4.out,HW4.out⟩
 case round=>
  obtain⟨k,rfl,hk,rfl,hlen,hy,hbel⟩:=hrel
  have HY:=hide hy
  have HBW:=hide hbel
  clear HY4 HW4 hy hbel
  by_cases hlt:k < 6
  case neg=>
   obtain rfl:k=6:=by omega
   have HE:=hide (show P++(N.take 6).flatMap spI=headL t.h l by rw [HHD.out,List.take_of_length_le (by omega)])
   go_wp2_with fail
   go_ret
   exact⟨by rw [HE.out];rfl,HBW.out⟩
  case pos=>
   obtain⟨n,hn2⟩:∃n,N[k]? = some n:=⟨_,List.getElem?_eq_getElem (by omega)⟩
   have hnb:=HNUM.out n (List.mem_of_getElem? hn2)
   have c1:wr.cell? ⟨y,k,none⟩=some (.int .i64 n):=(HY.out.cells k).trans (by simp [hn2])
   have DE:=hide (fun W=>rdec_any n hnb.1 hnb.2 W)
   have hsn:(⟨(Lib.itoa n).toArray⟩:ByteArray).size≤20:=by
    show(Lib.itoa n).toArray.size≤20
    rw [List.size_toArray]
    exact itoa_len hnb.1 hnb.2
   have HT:=hide (show(⟨(P++(N.take k).flatMap spI).toArray⟩:ByteArray)++⟨#[32]⟩++⟨(Lib.itoa n).toArray⟩=⟨(P++(N.take (k+1)).flatMap spI).toArray⟩ by
    rw [List.take_add_one,hn2]
    apply ByteArray.ext
    simp [spI])
   have hps:(⟨(P++(N.take k).flatMap spI).toArray⟩:ByteArray).size=(P++(N.take k).flatMap spI).length:=List.size_toArray ..
   have HLN:=hide (show(P++(N.take (k+1)).flatMap spI).length≤3000100+21*(k+1) by
    have h1:=congrArg ByteArray.size HT.out
    have h2:(⟨(P++(N.take (k+1)).flatMap spI).toArray⟩:ByteArray).size=(P++(N.take (k+1)).flatMap spI).length:=List.size_toArray ..
    rw [h2] at h1
    simp only [ByteArray.size_append] at h1
    have h3:(⟨#[32]⟩:ByteArray).size=1:=rfl
    omega)
   generalize (⟨(P++(N.take k).flatMap spI).toArray⟩:ByteArray)=sp at *
   generalize (⟨(Lib.itoa n).toArray⟩:ByteArray)=sn at *
   have hsp:sp.size≤4000000:=by omega
   clear hn2 hnb hps hlen
   go_wp2_with (first | (go_at_call 154;(with_reducible refine(DE.out _).mono ?_);rintro e w5 ⟨rfl,hb5⟩))
   go_roundw
   case rel=>exact⟨k+1,by go_num,by omega,by rw [←HT.out],HLN.out,Blk.below hb5 HY.out,HBW.out.trans (hb5.mono HBW.out.size)⟩
   case measure=>simp [intOf];omega
def OkH (h:Hd):Prop:=∀n∈numsL h,-9223372036854775808 < n∧n≤9223372036854775807
def OkF:Fo→Prop
 | .nil=>True
 | .node h _ ks nx=>OkH h∧OkF ks∧OkF nx
theorem spI_len {n:Int} (h : -9223372036854775808 < n∧n≤9223372036854775807):(spI n).length≤21:=by
 have:=itoa_len h.1 h.2
 unfold spI
 rw [List.length_cons]
 omega
theorem nodeL_sz (h:Hd) (ss:List St) (ks:Fo) (l:Nat) (ok:OkH h) (hl:l≤9000000000):(nodeL ⟨h,ss,ks⟩ l).length≤10*(h.sz+szS ss):=by
 have a0:=spI_len (n:=(l:Int)) ⟨by omega,by omega⟩
 have a1:=spI_len (ok h.mode (by simp [numsL]));have a2:=spI_len (ok h.uid (by simp [numsL]));have a3:=spI_len (ok h.gid (by simp [numsL]))
 have a4:=spI_len (ok h.time (by simp [numsL]));have a5:=spI_len (ok h.weight (by simp [numsL]));have a6:=spI_len (ok h.hidden (by simp [numsL]))
 have b1:=wordS_len h.name
 have b2:=wordS_len h.data
 have b3:=wordS_len h.target
 have c1:=strms_len ss
 have k1:(kindW h.kind).length≤9:=by unfold kindW;(repeat' split) <;> decide
 have hq:h.sz=20+h.name.size+h.data.size+h.target.size:=rfl
 have t1:(tailL h).length≤3*(h.data.size+h.target.size)+10:=by
  unfold tailL
  split
  ·unfold spW;rw [List.length_cons];omega
  ·split
   ·unfold spW;rw [List.length_cons];omega
   ·simp
 unfold nodeL headL spW
 simp only [List.length_append,List.length_cons,List.length_nil]
 omega
theorem linesF_sz:∀(f:Fo) (l:Nat),OkF f→l+f.sz≤8000000000→(linesF f l).length≤10*f.sz
 | .nil,_,_,_=>Nat.zero_le _
 | .node h ss ks nx,l,ok,hl=>by
  have hz:(Fo.node h ss ks nx).sz=h.sz+szS ss+ks.sz+nx.sz:=rfl
  have hq:h.sz=20+h.name.size+h.data.size+h.target.size:=rfl
  have h1:=nodeL_sz h ss ks (l+1) ok.1 (by omega)
  have h2:=linesF_sz ks (l+1) ok.2.1 (by omega)
  have h3:=linesF_sz nx l ok.2.2 (by omega)
  rw [linesF]
  simp only [List.length_append]
  omega
end Go.Proofs.YtlhakdildbplkaaGreatDoor
