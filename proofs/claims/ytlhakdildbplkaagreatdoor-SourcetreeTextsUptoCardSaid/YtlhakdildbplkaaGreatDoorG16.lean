/- Part of the claim: its words. -/
import Derived.Test.YtlhakdildbplkaaGreatDoorG15
import Derived.Shelf.Small.Strs
import Derived.Test.YtlhakdildbplkaaGreatDoorG13
import Derived.Lib.Overlaps
import Derived.Lib.AppendZeros
import Derived.Laws.Externs
import Derived.Laws.CopyRow
import Derived.Shelf.Spec.SlicesInsert
set_option maxRecDepth 100000
set_option maxHeartbeats 4000000
namespace Go.Proofs.YtlhakdildbplkaaGreatDoor
set_option linter.unusedSimpArgs false
set_option linter.unusedVariables false
open Go.RowKit
theorem fmt_visit (W0:World) (hT:TabP W0) (b:Nat):VisitOK fmtStep FmtG (FmtI W0 b) W0.heap.size 60000 81 #[.pointer (some ⟨b,0,none⟩)]:=
 ⟨enters_of Tryz.func81 (by kernel_rfl) rfl,
 fun s O w j ⟨v,hB,hO,hb⟩ h=>by
  rcases (hO j).1 h with rfl | h
  ·exact⟨hB.ge,hB.lt⟩
  ·exact⟨(hB.row j h).1,(hB.row j h).2.1⟩,
 fun s O w w' ⟨v,hB,hO,hb⟩ h=>⟨v,hB.below h,hO,hb.trans (h.mono hb.size)⟩,
 fun s t p l v O w hG hsz hl1 hpl hI hBw hv=>by
  refine(fmt1_any W0 hT b s t p l v O w hG hsz (by omega) hI hBw hv).mono fun e w' h=>?_
  exact h⟩
theorem oneE_kind {t:Tr} {l:Nat} (h:oneE t l=0):0≤t.h.kind∧t.h.kind < 3:=by
 have:=firstE_zero h (kindE t.h l) (by simp)
 unfold kindE at this
 split at this
 ·cases this
 ·rename_i h2
  constructor
  ·rcases Int.lt_or_le t.h.kind 0 with h3 | h3
   ·exact absurd (Or.inl h3) h2
   ·exact h3
  ·rcases Int.lt_or_le 2 t.h.kind with h3 | h3
   ·exact absurd (Or.inr (Or.inl h3)) h2
   ·omega
theorem oneE_num {t:Tr} {l:Nat} (h:oneE t l=0):rangedB t.h=true:=by
 have:=firstE_zero h (numE t.h) (by simp)
 unfold numE at this
 cases hb:rangedB t.h with
 | true=>rfl
 | false=>rw [hb] at this;cases this
theorem good_one {t:Tr} {l:Nat} {s:List UInt8} (h:oneE t l=0) (hs:s.length≤65536):FmtG s t:=by
 have hr:=of_decide_eq_true (oneE_num h)
 obtain⟨h1,h2,h3,h4,h5,h6,h7,h8,h9,h10,h11,h12⟩:=hr
 exact⟨hs,oneE_kind h,⟨by omega,by omega⟩,⟨by omega,by omega⟩,⟨by omega,by omega⟩,⟨by omega,by omega⟩,⟨by omega,by omega⟩,⟨by omega,by omega⟩⟩
theorem good_fmt:∀(f:Fo) (p:ByteArray) (l:Nat) (s:List UInt8),chkF f p l=none→s.length≤65536→goodF fmtStep FmtG f p l s
 | .nil,_,_,_,_,_=>trivial
 | .node h ss ks nx,p,l,s,hc,hs=>by
  obtain⟨h1,h2,h3⟩:=chkF_none hc
  refine⟨⟨good_one h1 hs,fun e=>good_fmt ks _ _ _ h2 (of_decide_eq_true e)⟩,fun e=>good_fmt nx _ _ _ h3 ?_⟩
  unfold walkT at e ⊢
  split at e
  ·rename_i h4
   rw [if_pos h4]
   rcases walk_fmt ks (belowP p h.name l) (l+1) (fmtStep s ⟨h,ss,ks⟩ (belowP p h.name l) (l+1)).2 (of_decide_eq_true h4) with⟨a1,a2,a3⟩ | ⟨a1,a2,a3⟩
   ·rw [a2];exact a3
   ·rw [a1] at e;cases e
  ·rename_i h4
   exact absurd e h4
theorem fmt_walk (t:Tr):((walkT fmtStep t eS 1 []).2.length≤65536→(walkT fmtStep t eS 1 []).2=linesT t∧(linesT t).length≤65536)∧(65536 < (walkT fmtStep t eS 1 []).2.length→65536 < (linesT t).length)∧(walkT fmtStep t eS 1 []).2.length≤(linesT t).length:=by
 unfold walkT linesT
 by_cases h:(nodeL t 1).length≤65536
 ·have e:fmtStep [] t eS 1=(true,nodeL t 1):=by unfold fmtStep;rw [List.nil_append,decide_eq_true h]
  rw [e]
  dsimp only
  rw [if_pos rfl]
  rcases walk_fmt t.ks eS 1 (nodeL t 1) h with⟨a1,a2,a3⟩ | ⟨a1,a2,a3⟩
  ·rw [a2]
   exact⟨fun _=>⟨rfl,a3⟩,fun h=>h,Nat.le_refl _⟩
  ·exact⟨fun h=>by omega,fun _=>by omega,a3⟩
 ·have e:fmtStep [] t eS 1=(false,nodeL t 1):=by unfold fmtStep;rw [List.nil_append,decide_eq_false h]
  rw [e]
  dsimp only
  rw [if_neg (by decide)]
  dsimp only
  rw [List.length_append]
  exact⟨fun h2=>absurd h2 h,fun _=>by omega,by omega⟩
theorem fmt_no {t:Tr} (h:validB t=false):formatT t=(eS,1):=by unfold formatT;rw [if_pos h]
theorem fmt_big {t:Tr} (h:validB t=true) (h2:65536 < (linesT t).length):formatT t=(eS,7):=by unfold formatT;rw [if_neg (by rw [h];decide),if_pos h2]
theorem fmt_ok {t:Tr} (h:validB t=true) (h2:(linesT t).length≤65536):formatT t=(⟨(linesT t).toArray⟩,0):=by unfold formatT;rw [if_neg (by rw [h];decide),if_neg (by omega)]
theorem format_any (t:Tr) (hsz:t.sz≤60000) (v:Value) (w:World) (hT:TabV w) (hP:TabP w) (hv:TreeR w w.heap.size v t):Calls Tryz.prog 34 #[v] w fun e w'=>e=.returned (.tuple #[.string (formatT t).1,.int .i64 (formatT t).2])∧Below w.heap.size w w':=by
 have VN:=hide (fun W hTW hW=>valid_any t (Or.inl hsz) v W hTW hW)
 have HV:=hide hv
 have HP:=hide hP
 obtain⟨cells,rfl,hz,h1c⟩:=hv.cells
 have HZ:=hide hz
 clear hv hz h1c hP
 have HL:Live w []:=trivial
 go_enter Tryz.func34,Tryz.ntmps34
 go_upto_region 1 with fail
 have HB:=hide (show Blk (w.alloc (.cells cells 25)) w.heap.size cells 25 from Blk.newAt rfl)
 have hbel1:Below w.heap.size w (w.alloc (.cells cells 25)):=by(exact bl)
 have HV1:=hide (HV.out.later hbel1)
 have HT1:=hide (hT.below hbel1)
 generalize w.alloc (.cells cells 25)=W1 at *
 obtain⟨b,hb⟩:∃b,b=w.heap.size:=⟨_,rfl⟩
 rw [←hb] at HB ⊢
 clear hb hT
 cases hvb:validB t
 case false=>
  have HR:=hide (fmt_no hvb)
  rw [hvb] at VN
  clear hvb
  go_wp2_with (first | (refine wpList_load_row rfl 25 (.tmp 1) rfl b rfl 25 cells (0,0) _ HB.out Tryz.underlying25 rfl (infN HZ.out) ?_) | (go_at_call 20;refine(VN.out _ HT1.out HV1.out).mono ?_;rintro e w3 ⟨rfl,hb3⟩))
  go_ret2
  exact⟨by rw [HR.out];rfl,hbel1.trans (hb3.mono hbel1.size)⟩
 case true=>
  have HVB:=hide hvb
  rw [hvb] at VN
  clear hvb
  go_upto_region 4 with (first | (refine wpList_load_row rfl 25 (.tmp 1) rfl b rfl 25 cells (0,0) _ HB.out Tryz.underlying25 rfl (infN HZ.out) ?_) | (go_at_call 20;refine(VN.out _ HT1.out HV1.out).mono ?_;rintro e w3 ⟨rfl,hb3⟩))
  have hbel3:=hbel1.trans (hb3.mono hbel1.size)
  have HB3:=hide ((Blk.below hb3 HB.out).alloc (.cells #[.pointer none,.slice none 0 0] 81))
  have hbel4:Below w.heap.size w (w3.alloc (.cells #[.pointer none,.slice none 0 0] 81)):=hbel3.alloc hbel3.size _
  have HI:=hide (show FmtI w w3.heap.size [] (fun j=>j=w3.heap.size∨(Value.slice none 0 0).ownBlock=some j) (w3.alloc (.cells #[.pointer none,.slice none 0 0] 81)) from⟨_,BR.fresh rfl hbel3.size,fun j=>Iff.rfl,hbel4⟩)
  have hc0:w.heap.size≤w3.heap.size:=hbel3.size
  generalize w3.alloc (.cells #[.pointer none,.slice none 0 0] 81)=W4 at *
  generalize w3.heap.size=c at *
  obtain⟨-,hv1,hv2⟩:=valid_chk HVB.out
  have hcn:t.count≤500000:=by have:=t.count_sz;omega
  have WK0:=walk_any (fmt_visit w HP.out c) 500000 t hcn hsz (by omega) eS 1 (by omega) (by have:=t.ks.wt_sz;unfold Tr.sz at hsz;show 0+1+_≤_;omega) [] _ (.agg cells) W4
   ⟨good_one hv1 (by simp),fun e=>good_fmt t.ks eS 1 _ hv2 (of_decide_eq_true e)⟩ HI.out hbel4.size (HV.out.below hbel4)
  have FW:=hide (fmt_walk t)
  obtain⟨r,hr⟩:∃r,walkT fmtStep t eS 1 []=r:=⟨_,rfl⟩
  rw [hr] at WK0 FW
  have WK:=hide (show Calls Tryz.prog 46 #[.agg cells,.string ⟨#[]⟩,.int .i64 1,.func (.func 81) #[] #[.pointer (some ⟨c,0,none⟩)]] W4 (WPost (FmtI w c) (fun j=>j=c∨(Value.slice none 0 0).ownBlock=some j) W4 r) from WK0)
  clear WK0 HI hr hv1 hv2 hcn
  go_upto_region 5 with (first | (refine wpList_load_row rfl 25 (.tmp 1) rfl b rfl 25 cells (0,0) _ HB3.out Tryz.underlying25 rfl (infN HZ.out) ?_) | (go_at_call 46;refine WK.out.mono ?_;rintro e w5 ⟨rfl,⟨O5,⟨v5,hB5,hO5,hbel5⟩,hO52⟩,hf5⟩))
  obtain⟨r1,l⟩:=r
  dsimp only at hB5 FW ⊢
  have HB5:=hide hB5
  have hz5:=hbel5.size
  have LEN:=hide (blen_any w.heap.size c l v5 w5 HB5.out)
  have STR:=hide (bstr_any w.heap.size c l v5 w5 HB5.out hz5)
  clear WK HB3 hO52 hf5 hO5 hB5
  by_cases hl:l.length≤65536
  ·obtain⟨e1,e2⟩:=FW.out.1 hl
   have HF:=hide (show formatT t=(⟨l.toArray⟩,0) by rw [fmt_ok HVB.out e2,e1])
   have hq:decide ((65536:Int) < (l.length:Int))=false:=decide_eq_false (by omega)
   clear e1 e2
   go_wp2_with (first | (go_at_call 86;refine LEN.out.mono ?_;rintro e w7 ⟨rfl,rfl⟩) | (go_at_call 87;refine STR.out.mono ?_;rintro e w8 ⟨rfl,hb8⟩))
   go_ret2
   exact⟨by rw [HF.out];rfl,hbel5.trans hb8⟩
  ·have HF:=hide (show formatT t=(eS,7) from fmt_big HVB.out (FW.out.2.1 (by omega)))
   have hq:decide ((65536:Int) < (l.length:Int))=true:=decide_eq_true (by omega)
   go_wp2_with (first | (go_at_call 86;refine LEN.out.mono ?_;rintro e w7 ⟨rfl,rfl⟩))
   go_ret2
   exact⟨by rw [HF.out];rfl,hbel5⟩
def hexI (c:UInt8):Int:=if digV c < 16 then (digV c:Int) else -1
theorem hexI_is:∀n:Fin 256,Lib.indexByte hexL (UInt8.ofNat n.1)=hexI (UInt8.ofNat n.1):=by decide
theorem idxb_any (c:UInt8) (w:World):Calls Tryz.prog 156 #[.string ⟨#[48,49,50,51,52,53,54,55,56,57,65,66,67,68,69,70]⟩,.int .u8 (c.toNat:Int)] w fun e w'=>e=.returned (.int .i64 (hexI c))∧w=w':=
 (Any.strings_IndexByte Tryz.lays137 _ _ w).mono fun e w' ⟨he,hw⟩=>⟨by
  have h:=hexI_is ⟨c.toNat,c.toNat_lt⟩
  simp only [UInt8.ofNat_toNat] at h
  rw [he,←h]
  simp
  rfl,hw.symm⟩
theorem unwP_stop {c:UInt8} {l:List UInt8} (h:c=37→l.length < 2):unwP (c :: l)=if plainB c then (unwP l).map (c :: ·) else none:=by
 rw [unwP]
 intro a b l' e1 e2
 have:=h e1
 rw [e2] at this
 simp at this
 omega
theorem unword_one {s:ByteArray} (h:s≠⟨#[61]⟩):(unwP s.data.toList=none→unword s=none)∧∀l,unwP s.data.toList=some l→unword s=if wordS ⟨l.toArray⟩=s then some ⟨l.toArray⟩ else none:=by
 unfold unword
 rw [if_neg h]
 exact⟨fun e=>by rw [e],fun l e=>by rw [e]⟩
theorem or16:∀x y:Fin 16,bits BinOp.or IntKind.i64 ((x.1:Int)*16) (y.1:Int) % 256=((UInt8.ofNat (x.1*16+y.1)).toNat:Int):=by decide
theorem unword_any (s:ByteArray) (hs:s.size≤1000000) (w:World):Calls Tryz.prog 136 #[.string s] w fun e w'=>∃x ok,e=.returned (.tuple #[.string x,.bool ok])∧(ok=true→unword s=some x)∧(ok=false→unword s=none)∧Below w.heap.size w w':=by
 by_cases h0:s=⟨#[61]⟩
 case pos=>
  subst h0
  have HL:Live w []:=trivial
  go_enter Tryz.func136,Tryz.ntmps136
  go_wp2_with fail
  go_ret2
  exact⟨⟨#[]⟩,true,rfl,fun _=>by unfold unword;rw [if_pos rfl],fun h=>Bool.noConfusion h,Below.refl _ _⟩
 case neg=>
 have q1:(s.toList == [61])=false:=by
  rw [beq_eq_false_iff_ne]
  exact fun e=>h0 (bytes_inj (by rw [←ByteArray.toList_eq];exact e))
 have HU:=hide (unword_one h0)
 have hsl:s.data.toList.length=s.size:=Array.length_toList
 have HSL:=hide hsl
 clear h0 hsl
 have HL:Live w []:=trivial
 go_enter Tryz.func136,Tryz.ntmps136
 go_upto_region 4 with fail
 obtain⟨b,hb⟩:∃b,b=w.heap.size:=⟨_,rfl⟩
 have HB:=hide (show BR w.heap.size b [] (.slice none 0 0) (w.alloc (.cells #[.pointer none,.slice none 0 0] 81)) by rw [hb];exact BR.fresh rfl (Nat.le_refl _))
 have hbel1:Below w.heap.size w (w.alloc (.cells #[.pointer none,.slice none 0 0] 81)):=(Below.refl _ _).alloc (Nat.le_refl _) _
 generalize w.alloc (.cells #[.pointer none,.slice none 0 0] 81)=W1 at *
 rw [←hb]
 clear hb
 go_wp2_with fail
 go_loopw [5] (fun i wr=>∃(k:Nat) (l:List UInt8) (v:Value),i=.int .i64 (k:Int)∧k≤s.size∧l.length≤k∧BR w.heap.size b l v wr∧unwP s.data.toList=(unwP (s.data.toList.drop k)).map (l ++ ·)∧Below w.heap.size w wr) (fun i _=>s.size - (intOf i).toNat)
 case atStart=>exact⟨0,[],_,rfl,Nat.zero_le _,Nat.le_refl _,HB.out,by rw [List.drop_zero];cases unwP s.data.toList <;> rfl,hbel1⟩
 case round=>
  clear HB hbel1
  obtain⟨k,l,v,rfl,hk,hlk,hB,hun,hbel⟩:=hrel
  have HB:=hide hB
  have HUN:=hide hun
  have hsz:=hbel.size
  clear hB hun
  by_cases hlt:k < s.size
  case neg=>
   obtain rfl:k=s.size:=by omega
   have hun2:unwP s.data.toList=some l:=by rw [HUN.out,List.drop_of_length_le (by rw [HSL.out];exact Nat.le_refl _)];simp [unwP]
   have HE:=hide (HU.out.2 l hun2)
   clear hun2
   have ST:=hide (bstring w.heap.size b l wr (Lib.IsBuilderF.of HB.out.is) hsz)
   have WD:=hide (fun W=>word_any ⟨l.toArray⟩ (by show l.toArray.size≤_;rw [List.size_toArray];omega) W)
   have q2:((wordS ⟨l.toArray⟩).toList == s.toList)=decide (wordS ⟨l.toArray⟩=s):=by
    cases hd:decide (wordS ⟨l.toArray⟩=s)
    ·exact beq_eq_false_iff_ne.2 (fun e=>of_decide_eq_false hd (toL_inj e))
    ·rw [of_decide_eq_true hd];exact beq_self_eq_true _
   generalize hdd:decide (wordS ⟨l.toArray⟩=s)=dd at q2
   have HD:=hide hdd
   clear hdd
   go_wp2_with (first | (go_at_call 87;refine ST.out.mono ?_;rintro e w3 ⟨rfl,hf3,hb3,_⟩;have ST3:=hide (bstring w.heap.size b l w3 hf3 (Nat.le_trans hsz hb3.size));have HB3:=hide hb3;clear ST hb3 hf3) | (go_at_call 87;refine ST3.out.mono ?_;rintro e w4 ⟨rfl,_,hb4,_⟩) | (go_at_call 83;refine(WD.out _).mono ?_;rintro e w5 ⟨rfl,hb5⟩))
   go_ret2
   refine⟨_,dd,rfl,fun e=>?_,fun e=>?_,((hbel.trans HB3.out).trans hb4).trans (hb5.mono (by have:=HB3.out.size;have:=hb4.size;omega))⟩
   ·rw [e] at HD
    have h2:=of_decide_eq_true HD.out
    rw [HE.out,if_pos h2]
   ·rw [e] at HD
    rw [HE.out,if_neg (of_decide_eq_false HD.out)]
  case pos=>
  have hll:k < s.data.toList.length:=by rw [HSL.out];exact hlt
  have hdr:s.data.toList.drop k=s[k]'hlt :: s.data.toList.drop (k+1):=by
   rw [List.drop_eq_getElem_cons hll];rfl
  have HDR:=hide hdr
  clear hll hdr
  by_cases h37:s[k]'hlt=37∧k+2 < s.size
  case pos=>
   obtain⟨hc,hk2⟩:=h37
   have hk1:k+1 < s.size:=by omega
   have hdr2:s.data.toList.drop (k+1)=s[k+1]'hk1 :: s[k+2]'hk2 :: s.data.toList.drop (k+3):=by
    rw [List.drop_eq_getElem_cons (show k+1 < s.data.toList.length by rw [HSL.out];exact hk1),List.drop_eq_getElem_cons (show k+1+1 < s.data.toList.length by rw [HSL.out];exact hk2)]
    rfl
   have hcb:(((s[k]'hlt).toNat:Int) == 37)=true:=by rw [hc];rfl
   rw [HDR.out,hdr2,hc] at HUN
   clear HDR hc hdr2
   have hi1:(k:Int)+1 < (s.size:Int):=by omega
   have hi2:(k:Int)+2 < (s.size:Int):=by omega
   have hp1:(0:Int)≤(k:Int)+1:=by omega
   have hp2:(0:Int)≤(k:Int)+2:=by omega
   have hw1:IntKind.i64.wrap ((k:Int)+1)=(k:Int)+1:=by rw [IntKind.wrap_i64];omega
   have hw2:IntKind.i64.wrap ((k:Int)+2)=(k:Int)+2:=by rw [IntKind.wrap_i64];omega
   have ht1:((k:Int)+1).toNat=k+1:=by omega
   have ht2:((k:Int)+2).toNat=k+2:=by omega
   have IB:=hide (fun c W=>idxb_any c W)
   have hkeep:True∧True:=⟨trivial,trivial⟩
   have hkeepd:True∧True:=⟨trivial,trivial⟩
   go_upto_region 9 with fail
   refine wp_region_noPanic ?_
   refine wp_region_held_drew (S:=(fun _=>True∧True)) (by kernel_rfl) kp (fun hHeld=>?_)
   refine tkZ 0 ⟨some 29,.move (.tmp 0),9, "sourcetree.go:357",#[],none⟩ ?_
   refine tkZ 1 ⟨some 30,.move (.tmp 5),3, "sourcetree.go:357",#[],none⟩ ?_
   refine tkZ 2 ⟨some 31,.binOp .add 3 (.tmp 30) (.const (.int .i64 1)) 3,3, "sourcetree.go:357",#[⟨1,.data⟩],none⟩ ?_
   refine tkZ 3 ⟨some 32,.index 9 (.tmp 29) (.tmp 31),5, "sourcetree.go:357",#[⟨0,.data⟩,⟨2,.data⟩],none⟩ ?_
   refine tkZ 5 ⟨some 34,.move (.tmp 0),9, "sourcetree.go:357",#[],none⟩ ?_
   refine tkZ 6 ⟨some 35,.move (.tmp 5),3, "sourcetree.go:357",#[],none⟩ ?_
   refine tkZ 7 ⟨some 36,.binOp .add 3 (.tmp 35) (.const (.int .i64 2)) 3,3, "sourcetree.go:357",#[⟨6,.data⟩],none⟩ ?_
   refine tkZ 8 ⟨some 37,.index 9 (.tmp 34) (.tmp 36),5, "sourcetree.go:357",#[⟨5,.data⟩,⟨7,.data⟩],none⟩ ?_
   refine rqS [4] (rqC ⟨some 33,.call { callee:=.value (.func 156),args:=#[.const (.string { data:=#[48,49,50,51,52,53,54,55,56,57,65,66,67,68,69,70] }),.tmp 32],argTypes:=#[9,5] },3, "sourcetree.go:357",#[⟨3,.data⟩],none⟩ (fun K hK=>?_) rq0)
   go_simp
   (go_at_call 156;(with_reducible refine(IB.out _ _).mono ?_);rintro e w' ⟨rfl,rfl⟩;have hkeepx:True∧True:=⟨trivial,trivial⟩)
   go_wp2_with fail
   refine hK.out _ _ kp (fun hHeld=>?_)
   clear hK K
   try simp only [PT]
   refine rqS [9] (rqC ⟨some 38,.call { callee:=.value (.func 156),args:=#[.const (.string { data:=#[48,49,50,51,52,53,54,55,56,57,65,66,67,68,69,70] }),.tmp 37],argTypes:=#[9,5] },3, "sourcetree.go:357",#[⟨8,.data⟩,⟨4,.chain⟩],none⟩ (fun K hK=>?_) rq0)
   go_simp
   (go_at_call 156;(with_reducible refine(IB.out _ _).mono ?_);rintro e w' ⟨rfl,rfl⟩;have hkeepx:True∧True:=⟨trivial,trivial⟩)
   go_wp2_with fail
   refine hK.out _ _ kp (fun hHeld=>?_)
   clear hK K
   try simp only [PT]
   refine tkZ 10 ⟨some 7,.assign (.tmp 33),3, "sourcetree.go:357",#[⟨4,.data⟩,⟨9,.chain⟩,⟨0,.phase⟩,⟨1,.phase⟩,⟨2,.phase⟩,⟨3,.phase⟩,⟨4,.phase⟩,⟨5,.textOnly .lateStores⟩,⟨6,.textOnly .lateStores⟩,⟨7,.textOnly .lateStores⟩,⟨8,.textOnly .lateStores⟩,⟨9,.textOnly .lateStoresUnsure⟩],none⟩ ?_
   refine tkZ 11 ⟨some 8,.assign (.tmp 38),3, "sourcetree.go:357",(phs [⟨9,.data⟩,⟨10,.chain⟩] 11),none⟩ ?_
   refine wpAnyH_done (by kernel_rfl) ?_ _
   refine NoPanic.normal ?_
   generalize (s[k+1]'hk1)=a at *
   generalize (s[k+2]'hk2)=a2 at *
   by_cases hd:digV a < 16∧digV a2 < 16
   case pos=>
    have ha:hexI a=(digV a:Int):=if_pos hd.1
    have ha2:hexI a2=(digV a2:Int):=if_pos hd.2
    have HUN2:=hide (show unwP s.data.toList=(unwP (s.data.toList.drop (k+3))).map (l++[UInt8.ofNat (digV a*16+digV a2)] ++ ·) by
     rw [HUN.out,unwP,if_pos hd]
     cases unwP (s.data.toList.drop (k+3)) <;> simp)
    clear HUN
    rw [ha,ha2]
    obtain⟨hd1,hd2⟩:=hd
    clear ha ha2
    generalize digV a=x at *
    generalize digV a2=y at *
    go_upto_region 16 with fail
    have ho:=or16 ⟨x,hd1⟩ ⟨y,hd2⟩
    simp only [] at ho
    rw [ho]
    clear ho
    have WB:=hide (wb_any w.heap.size b l v (UInt8.ofNat (x*16+y)) wr.drew (HB.out.below ((Below.refl _ _).drew)) (by omega) hsz)
    generalize UInt8.ofNat (x*16+y)=c3 at *
    go_wp2_with (go_at_call 130;refine WB.out.mono ?_;rintro e w3 ⟨rfl,v3,hB3,hv3,hf3⟩)
    have hbd:Below wr.heap.size wr wr.drew:=(Below.refl _ _).drew
    go_roundw
    case rel=>exact⟨k+3,_,v3,by go_num,by omega,by rw [List.length_append];show _+1≤_;omega,hB3,HUN2.out,(hbel.trans (hbd.mono hsz)).trans (hf3.below hsz fun j hj=>by
     rcases hj with rfl | hj
     ·exact HB.out.ge
     ·exact(HB.out.row j hj).1)⟩
    case measure=>simp [intOf];omega
   case neg=>
    have hno:unword s=none:=HU.out.1 (by rw [HUN.out,unwP,if_neg hd];rfl)
    have HNO:=hide hno
    have hbd:Below wr.heap.size wr wr.drew:=(Below.refl _ _).drew
    clear hno HUN
    by_cases hd1:digV a < 16
    ·have hd2:¬digV a2 < 16:=fun h=>hd ⟨hd1,h⟩
     have ha:hexI a=(digV a:Int):=if_pos hd1
     have ha2:hexI a2 = -1:=if_neg hd2
     rw [ha,ha2]
     clear ha ha2 hd hd2
     generalize digV a=x at *
     go_wp2_with fail
     go_ret2
     exact⟨_,false,rfl,fun h=>Bool.noConfusion h,fun _=>HNO.out,hbel.trans (hbd.mono hsz)⟩
    ·have ha:hexI a = -1:=if_neg hd1
     rw [ha]
     clear ha hd hd1
     generalize hexI a2=x at *
     go_wp2_with fail
     go_ret2
     exact⟨_,false,rfl,fun h=>Bool.noConfusion h,fun _=>HNO.out,hbel.trans (hbd.mono hsz)⟩
  case neg=>
  have hst:s[k]'hlt=37→(s.data.toList.drop (k+1)).length < 2:=fun e=>by
   have:¬(k+2 < s.size):=fun h=>h37 ⟨e,h⟩
   rw [List.length_drop,HSL.out]
   omega
  have HST:=hide (unwP_stop hst)
  rw [HDR.out] at HUN
  by_cases hc:s[k]'hlt=37
  case pos=>
   have hk2:¬(k+2 < s.size):=fun h=>h37 ⟨hc,h⟩
   have hki:¬((k:Int)+2 < (s.size:Int)):=by omega
   have hcb:(((s[k]'hlt).toNat:Int) == 37)=true:=by rw [hc];rfl
   have hno:unword s=none:=HU.out.1 (by rw [HUN.out,HST.out,hc,if_neg (by decide)];rfl)
   have HNO:=hide hno
   have PL:=hide (fun W=>plain_any (s[k]'hlt) W)
   rw [show plainB (s[k]'hlt)=false by rw [hc];decide] at PL
   clear hno HUN hst h37 HDR HST hc
   go_wp2_with ((first | (go_at_call 129;(with_reducible refine(PL.out _).mono ?_);rintro e w' ⟨rfl,rfl⟩)))
   go_ret2
   exact⟨_,false,rfl,fun h=>Bool.noConfusion h,fun _=>HNO.out,hbel⟩
  case neg=>
   have hcb:(((s[k]'hlt).toNat:Int) == 37)=false:=by
    rw [beq_eq_false_iff_ne];intro h;exact hc (UInt8.toNat_inj.1 (by simpa using (show((s[k]'hlt).toNat)=37 by omega)))
   rw [HST.out] at HUN
   clear hst h37 HDR HST hc
   have PL:=hide (fun W=>plain_any (s[k]'hlt) W)
   cases hpl:plainB (s[k]'hlt)
   case true=>
    have HUN2:=hide (show unwP s.data.toList=(unwP (s.data.toList.drop (k+1))).map (l++[s[k]'hlt] ++ ·) by
     rw [HUN.out,if_pos hpl]
     cases unwP (s.data.toList.drop (k+1)) <;> simp)
    rw [hpl] at PL
    clear hpl HUN
    have WB:=hide (wb_any w.heap.size b l v (s[k]'hlt) wr HB.out (by omega) hsz)
    go_wp2_with (first | (first | (go_at_call 129;(with_reducible refine(PL.out _).mono ?_);rintro e w' ⟨rfl,rfl⟩)) | (go_at_call 130;refine WB.out.mono ?_;rintro e w3 ⟨rfl,v3,hB3,hv3,hf3⟩))
    go_roundw
    case rel=>exact⟨k+1,_,v3,by go_num,by omega,by rw [List.length_append];show _+1≤_;omega,hB3,HUN2.out,hbel.trans (hf3.below hsz fun j hj=>by
     rcases hj with rfl | hj
     ·exact HB.out.ge
     ·exact(HB.out.row j hj).1)⟩
    case measure=>simp [intOf];omega
   case false=>
    have hno:unword s=none:=HU.out.1 (by rw [HUN.out,if_neg (by rw [hpl];decide)];rfl)
    have HNO:=hide hno
    rw [hpl] at PL
    clear hno HUN hpl
    go_wp2_with ((first | (go_at_call 129;(with_reducible refine(PL.out _).mono ?_);rintro e w' ⟨rfl,rfl⟩)))
    go_ret2
    exact⟨_,false,rfl,fun h=>Bool.noConfusion h,fun _=>HNO.out,hbel⟩
theorem cmp_neg:∀(a b:List UInt8),Lib.compareBytes a b < 0↔Op.bytesLess a b=true
 | [],[]=>by simp [Lib.compareBytes,Op.bytesLess]
 | [],_ :: _=>by simp [Lib.compareBytes,Op.bytesLess]
 | _ :: _,[]=>by simp [Lib.compareBytes,Op.bytesLess]
 | x :: a,y :: b=>by
  unfold Lib.compareBytes Op.bytesLess
  by_cases h1:x < y
  ·rw [if_pos h1];simp [h1]
  ·rw [if_neg h1]
   by_cases h2:y < x
   ·have h4:x≠y:=fun h=>by subst h;exact absurd h2 (UInt8.lt_irrefl _)
    rw [if_pos h2];simp [h1,h4]
   ·rw [if_neg h2,cmp_neg a b]
    have e:x=y:=UInt8.le_antisymm (UInt8.not_lt.1 h2) (UInt8.not_lt.1 h1)
    subst e
    simp [h1]
theorem cmpB_lt (a b:ByteArray):decide (cmpB a b < 0)=bltB a b:=by
 have:cmpB a b < 0↔bltB a b=true:=by unfold cmpB bltB;rw [cmp_neg,ByteArray.toList_eq,ByteArray.toList_eq]
 cases hb:bltB a b with
 | true=>exact decide_eq_true (this.2 hb)
 | false=>exact decide_eq_false (fun h=>by rw [this.1 h] at hb;cases hb)
theorem cmpB_eq (a b:ByteArray):(cmpB a b == 0)=decide (a=b):=by
 have:cmpB a b=0↔a=b:=by
  unfold cmpB
  rw [cmp_0]
  exact⟨fun e=>ByteArray.ext (Array.toList_inj.1 e),fun e=>by rw [e]⟩
 by_cases h:a=b
 ·rw [decide_eq_true h,this.2 h];rfl
 ·rw [decide_eq_false h,beq_eq_false_iff_ne];exact fun e=>h (this.1 e)
theorem put1_any (h:Hd) (kv sv:Value) (n:ByteArray) (w:World):Calls Tryz.prog 72 #[.agg (h.cells kv sv),.string n] w fun e w'=>e=.returned (.int .i64 (cmpB h.name n))∧Below w.heap.size w w':=by
 have SC:=hide (fun W=>scmp_any h.name n W)
 generalize cmpB h.name n=c at *
 have HL:Live w []:=trivial
 go_enter Tryz.func72,Tryz.ntmps72
 go_upto_region 1 with fail
 have HN:=hide (NodeB.new w h kv sv)
 have hbel1:Below w.heap.size w (w.alloc (.cells (h.cells kv sv) 25)):=by(exact bl)
 generalize w.alloc (.cells (h.cells kv sv) 25)=W1 at *
 obtain⟨b,hb⟩:∃b,b=w.heap.size:=⟨_,rfl⟩
 rw [←hb] at HN ⊢
 clear hb
 have d0:=HN.out.c0
 go_wp2_with ((first | (go_at_call 73;(with_reducible refine(SC.out _).mono ?_);rintro e w' ⟨rfl,rfl⟩)))
 go_ret
 exact⟨rfl,hbel1⟩
theorem wpList_load_midG {P:Program} {ops:Array Oper} {rest:List Oper} {op:Oper} {a:Act} {w:World} {Q:Exit→Act→World→Prop} (ty:TypeId) (x:Operand) (ho:op.op=.load ty x) (hw:Region.wanted op (yielded ops a.tmps)=true)
  (b o:Nat) (hx:a.eval x=.pointer (some ⟨b,o,none⟩)) (cells:Array Value) (d:TypeDesc) (hc:w.rangeAt b o cells.toList)
  (hu:P.underlying ty=some d) (hd:d.isRow=true) (hi:(P.info? ty).map (·.size)=some cells.toList.length)
  (h:wpList P ops Q rest (a.put op.dst (.agg cells)) w):wpList P ops Q (op :: rest) a w:=
 wpList_step fun K hK=>by
  rw [if_pos hw]
  refine wp_load_mid ty x ho b o hx cells.toList d hc hu hd hi ?_
  rw [Array.toArray_toList]
  exact hK _ _ h
theorem Left.at {w:World} {B:Nat} {A:Option Addr} {f:Fo} {i:Nat} {k:Tr} (h:Left w B A f 0) (hi:f.list[i]? = some k):∃g o kv sv,A=some ⟨g,o,none⟩∧g < B∧w.rangeAt g (o+i*12) (k.h.cells kv sv).toList∧StR w B sv k.ss∧KidR w B kv k.ks:=by
 have hil:i < f.len:=by rw [←Fo.list_len];exact(List.getElem?_eq_some_iff.1 hi).1
 obtain⟨g,o,e,hg,hf⟩:=h (by omega)
 obtain⟨_,kv,sv,h1,h2,h3⟩:=hf.at hi
 exact⟨g,o,kv,sv,e,hg,by rw [show o+i*12=o+0*12+i*12 by omega];exact h1,h2,h3⟩
theorem bsearch_any (ks:Fo) (n:ByteArray) (hs:SortedN ks.names) (A:Option Addr) (cap B:Nat) (hlen:ks.len≤2000000000) (w:World) (hB:B≤w.heap.size) (hk:Left w B A ks 0) :
  Calls Tryz.prog 71 #[.slice A ks.len cap,.string n,.func (.func 72) #[] #[]] w fun e w'=>e=.returned (.tuple #[.int .i64 (lowI ks n:Int),.bool (foundB ks n)])∧Below w.heap.size w w':=by
 have HLK:=hide hk
 have HS:=hide hs
 have eg:=enters_of Tryz.func72 (by kernel_rfl) rfl
 clear hk hs
 have HL:Live w []:=trivial
 go_enter Tryz.func71,Tryz.ntmps71
 go_wp2_with fail
 go_loopw [9,10] (fun i j wr=>∃(a b:Nat),i=.int .i64 (a:Int)∧j=.int .i64 (b:Int)∧a≤b∧b≤ks.len∧(∀q nm,q < a→ks.names[q]? = some nm→bltB nm n=true)∧(∀q nm,b≤q→ks.names[q]? = some nm→bltB nm n=false)∧Below w.heap.size w wr) (fun i j _=>(intOf j).toNat - (intOf i).toNat)
 case atStart=>exact⟨0,ks.len,rfl,rfl,Nat.zero_le _,Nat.le_refl _,fun q nm h _=>absurd h (by omega),fun q nm h e=>(by rw [List.getElem?_eq_none (by rw [Fo.names_len];exact h)] at e;cases e),Below.refl _ _⟩
 case round=>
  obtain⟨a,b,rfl,rfl,hab,hb,h1,h2,hbel⟩:=hrel
  have H1:=hide h1
  have H2:=hide h2
  clear h1 h2
  by_cases hlt:a < b
  case neg=>
   obtain rfl:a=b:=by omega
   have HLW:=hide (lowI_of ks n a hb H1.out (fun nm e=>H2.out a nm (Nat.le_refl _) e))
   by_cases hend:a < ks.len
   ·obtain⟨k,hk⟩:∃k,ks.list[a]? = some k:=⟨_,List.getElem?_eq_getElem (by rw [Fo.list_len];exact hend)⟩
    have HF:=hide (show foundB ks n=decide (k.h.name=n) by unfold foundB;rw [HLW.out,hk])
    obtain⟨g,o,kv,sv,rfl,hg,hr,-,-⟩:=(HLK.out.below (hbel.mono hB)).at hk
    have R1:=hide hr
    have P1:=hide (put1_any k.h kv sv n wr)
    have HE:=hide (cmpB_eq k.h.name n)
    generalize cmpB k.h.name n=cv at *
    generalize decide (k.h.name=n)=dv at *
    clear hr hk
    go_wp2_with (first | (refine wpList_load_midG 25 (.tmp 43) rfl rfl g (o+a*12) rfl (k.h.cells kv sv) _ R1.out Tryz.underlying25 rfl (infNl rfl) ?_) | ((first | go_at_fn 72 | go_at_call 72);refine P1.out.mono ?_;rintro e w7 ⟨rfl,hb7⟩))
    go_ret2
    exact⟨by rw [HLW.out,HF.out,←HE.out];rfl,hbel.trans (hb7.mono hbel.size)⟩
   ·have HF:=hide (show foundB ks n=false by unfold foundB;rw [HLW.out,List.getElem?_eq_none (by rw [Fo.list_len];omega)])
    go_wp2_with fail
    have HT:=hide (show Ending.returned (Value.tuple #[.int .i64 (lowI ks n:Int),.bool (foundB ks n)])=.returned (.tuple #[.int .i64 (a:Int),.bool false]) by rw [HLW.out,HF.out])
    refine bodyPost_ret (results_tmp2 rfl _ _ _) rfl ?_
    exact⟨HT.out.symm,hbel⟩
  case pos=>
   go_upto_region 5 with fail
   have e2:((a:Int)+(b:Int)) / 2=(((a+b) / 2:Nat):Int):=by omega
   have hh:a≤(a+b) / 2∧(a+b) / 2 < b:=by omega
   rw [e2]
   clear e2
   generalize (a+b) / 2=h at *
   obtain⟨ha,hhb⟩:=hh
   have hhl:h < ks.len:=by omega
   obtain⟨k,hk⟩:∃k,ks.list[h]? = some k:=⟨_,List.getElem?_eq_getElem (by rw [Fo.list_len];exact hhl)⟩
   have HNM:=hide (Fo.names_at hk)
   obtain⟨g,o,kv,sv,rfl,hg,hr,-,-⟩:=(HLK.out.below (hbel.mono hB)).at hk
   have R1:=hide hr
   have P1:=hide (put1_any k.h kv sv n wr)
   have HE:=hide (cmpB_lt k.h.name n)
   generalize cmpB k.h.name n=cv at *
   clear hr hk
   cases hlb:bltB k.h.name n
   case true=>
    have hcv:decide (cv < 0)=true:=by rw [HE.out,hlb]
    have hcv2:cv < 0:=of_decide_eq_true hcv
    have HLB:=hide hlb
    clear hlb HE
    go_wp2_with (first | (refine wpList_load_midA rfl 25 (.tmp 27) rfl g (o+h*12) rfl (k.h.cells kv sv) _ R1.out Tryz.underlying25 rfl (infNl rfl) ?_) | ((first | go_at_fn 72 | go_at_call 72);refine P1.out.mono ?_;rintro e w7 ⟨rfl,hb7⟩))
    go_roundw
    case rel=>exact⟨h+1,b,by go_num,rfl,by omega,hb,fun q nm hq e=>by
     rcases Nat.lt_or_ge q h with hq2 | hq2
     ·exact blt_trans (sorted_lt HS.out hq2 e HNM.out) HLB.out
     ·obtain rfl:q=h:=by omega
      rw [HNM.out] at e
      injection e with e
      rw [←e]
      exact HLB.out,H2.out,hbel.trans (hb7.mono hbel.size)⟩
    case measure=>simp [intOf];omega
   case false=>
    have hcv:decide (cv < 0)=false:=by rw [HE.out,hlb]
    have hcv2:¬cv < 0:=of_decide_eq_false hcv
    have hcv3:0≤cv:=by omega
    have HLB:=hide hlb
    clear hlb HE
    go_wp2_with (first | (refine wpList_load_midA rfl 25 (.tmp 27) rfl g (o+h*12) rfl (k.h.cells kv sv) _ R1.out Tryz.underlying25 rfl (infNl rfl) ?_) | ((first | go_at_fn 72 | go_at_call 72);refine P1.out.mono ?_;rintro e w7 ⟨rfl,hb7⟩))
    go_roundw
    case rel=>exact⟨a,h,rfl,by go_num,ha,by omega,H1.out,fun q nm hq e=>by
     rcases Nat.lt_or_ge h q with hq2 | hq2
     ·cases hb1:bltB nm n with
      | false=>rfl
      | true=>exact absurd (blt_trans (sorted_lt HS.out hq2 HNM.out e) hb1) (by rw [HLB.out];decide)
     ·obtain rfl:q=h:=by omega
      rw [HNM.out] at e
      injection e with e
      rw [←e]
      exact HLB.out,hbel.trans (hb7.mono hbel.size)⟩
    case measure=>simp [intOf];omega
def InsP (lo:Nat) (sv:Value) (n:Nat) (xs:List Value) (w:World) (e:Ending) (w':World):Prop:=∃r,e=.returned r∧w'.ownsRow lo 25 12 r (n+1) xs∧(∀j,r.ownBlock=some j→sv.ownBlock=some j∨w.heap.size≤j)∧FrO (fun j=>sv.ownBlock=some j) w w'
theorem insert_end (lo:Nat) (sv:Value) (n:Nat) (xs:List Value) (vb:Nat) (cells:Array Value) (w:World) (hown:w.ownsRow lo 25 12 sv n xs) (hn:n≤1000000) (hv:Blk w vb cells 25) (h12:cells.size=12) (h1:∀u∈cells.toList,u.oneCell'=true) (hlo:lo≤w.heap.size) :
  Calls Tryz.prog 74 #[sv,.int .i64 (n:Int),.slice (some ⟨vb,0,none⟩) 1 1] w (InsP lo sv n (xs++cells.toList) w):=by
 have HO:=hide hown
 have HV:=hide hv
 have H12:=hide h12
 have H1:=hide h1
 have hcap:∀A c,sv=.slice A n c→n≤c∧c≤9223372036854775807:=fun A c e=>by
  rcases hown.2 with⟨rfl,rfl⟩ | ⟨g,cap,cur,rfl,_,_,hnc,hcm,_⟩
  ·injection e with _ _ e3;omega
  ·injection e with _ _ e3
   unfold maxLen at hcm
   omega
 rcases hown.2 with⟨rfl,rfl⟩ | ⟨g,cap,cur,rfl,_,_,hnc,hcm,_⟩
 ·clear hown hv h12 h1 hcap
  have HL:Live w []:=trivial
  go_enter Tryz.func74,Tryz.ntmps74
  go_wp2_with (at_builtin;refine wpList_append_rows _ rfl _ _ 22 rfl lo 25 nodeInfo Tryz.underlying22 rfl (by decide) _ 0 xs HO.out ⟨vb,0,none⟩ 1 1 cells.toList rfl rfl (by rw [Array.length_toList,H12.out]) (fun j u hj=>by rw [addr_add,Nat.zero_add,HV.out.cells j,←Array.getElem?_toList];exact hj) H1.out (by unfold maxLen;omega) (by omega) hlo ?_;intro v2 w2 hown2 hnb2 hg2)
  go_ret
  exact⟨v2,rfl,hown2,fun j hj=>by
   rcases hnb2 with h | h
   ·left;rw [←h];exact hj
   ·right;rw [h] at hj;injection hj with hj;omega,FrO.grown hg2 fun j h=>h⟩
 ·have hc2:=(hcap _ _ rfl).2
  clear hown hv h12 h1 hcap hcm
  by_cases hnc2:cap=n
  ·subst hnc2
   have HL:Live w []:=trivial
   go_enter Tryz.func74,Tryz.ntmps74
   go_wp2_with (at_builtin;refine wpList_append_rows _ rfl _ _ 22 rfl lo 25 nodeInfo Tryz.underlying22 rfl (by decide) _ cap xs HO.out ⟨vb,0,none⟩ 1 1 cells.toList rfl rfl (by rw [Array.length_toList,H12.out]) (fun j u hj=>by rw [addr_add,Nat.zero_add,HV.out.cells j,←Array.getElem?_toList];exact hj) H1.out (by unfold maxLen;omega) (by omega) hlo ?_;intro v2 w2 hown2 hnb2 hg2)
   go_ret
   exact⟨v2,rfl,hown2,fun j hj=>by
    rcases hnb2 with h | h
    ·left;rw [←h];exact hj
    ·right;rw [h] at hj;injection hj with hj;omega,FrO.grown hg2 fun j h=>h⟩
  ·have HL:Live w []:=trivial
   go_enter Tryz.func74,Tryz.ntmps74
   go_wp2_with (at_builtin;refine wpList_append_rows _ rfl _ _ 22 rfl lo 25 nodeInfo Tryz.underlying22 rfl (by decide) _ n xs HO.out ⟨vb,0,none⟩ 1 1 cells.toList rfl rfl (by rw [Array.length_toList,H12.out]) (fun j u hj=>by rw [addr_add,Nat.zero_add,HV.out.cells j,←Array.getElem?_toList];exact hj) H1.out (by unfold maxLen;omega) (by omega) hlo ?_;intro v2 w2 hown2 hnb2 hg2)
   go_ret
   exact⟨v2,rfl,hown2,fun j hj=>by
    rcases hnb2 with h | h
    ·left;rw [←h];exact hj
    ·right;rw [h] at hj;injection hj with hj;omega,FrO.grown hg2 fun j h=>h⟩
theorem run_copy_rowK {P:Program} (w:World) (dT sT ty elem:TypeId) (k g o dLen dCap:Nat) (a:Addr) (sLen sCap:Nat) (cur:Array Value) (t:TypeId) (cs:List Value)
  (hu:P.underlying dT=some (.slice elem)) (hs:(P.info? elem).map (·.size)=some k)
  (hg:w.heap[g]? = some (.cells cur t (0,0))) (hn:cs.length=Nat.min sLen dLen*k)
  (hsrc:∀j v,cs[j]? = some v→w.cell? (a.add j)=some v) (hfit:o+cs.length≤cur.size) (h1:∀v∈cs,v.oneCell'=true) :
  (Builtin.copy_ #[dT,sT] ty #[.slice (some ⟨g,o,none⟩) dLen dCap,.slice (some a) sLen sCap]).run P w =
   .ok (goInt (Nat.min sLen dLen)) (w.setRow g (cur.toList.take o++cs++cur.toList.drop (o+cs.length)).toArray):=by
 have hl:=run_loadCells_list (P:=P) w a cs hsrc
 have hst:=run_storeCells_at P g o t cs 0 cur w hg (by simpa using hfit) h1
 cases hq:P.info? elem with
 | none=>simp [hq] at hs
 | some i=>
  have hi:i.size=k:=by simpa [hq] using hs
  simp [Builtin.copy_,run_underlying hu,Builtin.lenOf,Builtin.firstCells,sizeOf,typeInfo,hq,hi,←hn,hl,hst]
theorem run_append_grow_zeros {P:Program} (w:World) (t tn ty e:TypeId) (i:TypeInfo) (z:Value) (k kn:IntKind) (ht:P.underlying t=some (.slice e)) (htn:P.underlying tn=some (.int kn)) (hi:P.info? e=some i) (hz:i.zero=some z)
  (b:Addr) (sLen sCap:Nat) (olds:List Value) (hlo:olds.length=sLen*i.size) (holds:∀j v,olds[j]? = some v→w.cell? (b.add j)=some v)
  (n:Nat) (h0:0 < n) (hs:0 < i.size) (hg:sCap < sLen+n) (h63:((sLen+n:Nat):Int)≤9223372036854775807) (hfit:Builtin.nextslicecap (sLen+n) sCap*i.bytes≤281474976710656) (h48:n*i.bytes≤281474976710656) :
  (Builtin.append_ #[t,tn] ty #[.slice (some b) sLen sCap,.int k n]).run P w =
   .ok (.slice (some ⟨w.heap.size,0,none⟩) (sLen+n) (grownCap w (sLen+n) sCap e))
    (w.drew.alloc (.cells (olds.toArray++Builtin.zeroCells z.cells n++Builtin.zeroCells z.cells (grownCap w (sLen+n) sCap e - (sLen+n))) e)):=by
 have hn:n≠0:=by omega
 have hw:IntKind.i64.wrap (n:Int)=n:=by rw [IntKind.wrap_i64];omega
 have hle:¬(sLen+n≤sCap):=by omega
 have h63':¬(9223372036854775807 < ((sLen:Int)+(n:Int))):=by omega
 have h48':¬(281474976710656 < Builtin.nextslicecap (sLen+n) sCap*i.bytes):=by omega
 have h48i:¬(281474976710656 < (n:Int)*(i.bytes:Int)):=by
  rw [←Int.natCast_mul]
  omega
 have hneg:¬((n:Int) < 0):=by omega
 have hns:¬(n*i.size=0):=Nat.mul_ne_zero hn (by omega)
 have hfo:=run_firstCells_some (P:=P) w.drew i.size sLen b sLen sCap olds hlo (by simpa using holds)
 simp [Builtin.append_,run_underlying ht,run_underlying htn,sizeOf,typeInfo,zeroValue,hi,hz,asInt,asIntOf,hw,hle,hneg,hns,h63',h48',h48i,Question.forced,hfo,newRow,grownCap]
theorem ins_room (xs cells tl:List Value) (i n:Nat) (hx:xs.length=n*12) (hc:cells.length=12) (hi:i≤n) (ht:12≤tl.length) :
  ∀(r:List Value),r=((xs++tl).take ((i+1)*12)++xs.drop (i*12)++(xs++tl).drop ((i+1)*12+(xs.drop (i*12)).length)) →
   r.take (i*12)++cells++r.drop (i*12+cells.length)=(xs.take (i*12)++cells++xs.drop (i*12))++tl.drop 12:=by
 intro r hr
 have e1:(xs.drop (i*12)).length=(n - i)*12:=by rw [List.length_drop,hx];omega
 have e2:(i+1)*12+(n - i)*12=n*12+12:=by omega
 have e3:(xs++tl).drop (n*12+12)=tl.drop 12:=by
  rw [←hx,List.drop_append,List.drop_of_length_le (by omega),List.nil_append,Nat.add_sub_cancel_left]
 have hlt:((xs++tl).take ((i+1)*12)).length=(i+1)*12:=by rw [List.length_take,List.length_append];omega
 have e4:r.take (i*12)=xs.take (i*12):=by
  rw [hr,List.append_assoc,List.take_append_of_le_length (by omega),List.take_take,Nat.min_eq_left (by omega),List.take_append_of_le_length (by omega)]
 have e5:r.drop (i*12+12)=xs.drop (i*12)++tl.drop 12:=by
  rw [hr,e1,e2,e3,List.append_assoc]
  have:i*12+12=((xs++tl).take ((i+1)*12)).length:=by omega
  rw [this,List.drop_left]
 rw [e4,hc,e5]
 simp [List.append_assoc]
theorem ins_grow (xs cells tl:List Value) (i n:Nat) (hx:xs.length=n*12) (hc:cells.length=12) (hi:i≤n) (ht:(n+1 - i)*12≤tl.length) :
  ∀(r:List Value),r=(xs.take (i*12)++tl).take (i*12)++cells++(xs.take (i*12)++tl).drop (i*12+cells.length) →
   r.take ((i+1)*12)++xs.drop (i*12)++r.drop ((i+1)*12+(xs.drop (i*12)).length)=(xs.take (i*12)++cells++xs.drop (i*12))++tl.drop ((n+1 - i)*12):=by
 intro r hr
 have e1:(xs.drop (i*12)).length=(n - i)*12:=by rw [List.length_drop,hx];omega
 have e0:(xs.take (i*12)).length=i*12:=by rw [List.length_take,hx];omega
 have e2:(xs.take (i*12)++tl).take (i*12)=xs.take (i*12):=by rw [List.take_append_of_le_length (by omega),List.take_take,Nat.min_self]
 have e3:∀d,(xs.take (i*12)++tl).drop (i*12+d)=tl.drop d:=fun d=>by
  rw [List.drop_append,List.drop_of_length_le (by omega),List.nil_append,e0,Nat.add_sub_cancel_left]
 have hr2:r=(xs.take (i*12)++cells)++tl.drop 12:=by rw [hr,e2,hc,e3]
 have hl2:(xs.take (i*12)++cells).length=(i+1)*12:=by rw [List.length_append];omega
 have e4:r.take ((i+1)*12)=xs.take (i*12)++cells:=by rw [hr2,←hl2,List.take_left]
 have e5:r.drop ((i+1)*12+(n - i)*12)=tl.drop ((n+1 - i)*12):=by
  rw [hr2,List.drop_append,List.drop_of_length_le (by omega),List.nil_append,hl2,Nat.add_sub_cancel_left,List.drop_drop]
  congr 1
  omega
 rw [e4,e1,e5]
end Go.Proofs.YtlhakdildbplkaaGreatDoor
