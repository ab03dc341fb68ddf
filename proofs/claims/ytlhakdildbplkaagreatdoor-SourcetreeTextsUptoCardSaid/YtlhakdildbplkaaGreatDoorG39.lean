/- Part of the claim: its words. -/
import Derived.Test.YtlhakdildbplkaaGreatDoorG38
import Derived.Test.YtlhakdildbplkaaGreatDoorG16
import Derived.Test.YtlhakdildbplkaaGreatDoorG6
import Derived.Test.YtlhakdildbplkaaGreatDoorG36
import Derived.Test.YtlhakdildbplkaaGreatDoorG37
set_option maxRecDepth 100000
set_option maxHeartbeats 4000000
namespace Go.Proofs.YtlhakdildbplkaaGreatDoor
set_option linter.unusedSimpArgs false
set_option linter.unusedVariables false
open Go.RowKit
def OkN (h:Hd):Prop:=OkH h∧(0≤h.kind∧h.kind < 3)
def OkG:Fo→Prop
 | .nil=>True
 | .node h _ ks nx=>OkN h∧OkG ks∧OkG nx
theorem OkG.f:∀ {f:Fo},OkG f→OkF f
 | .nil,_=>trivial
 | .node _ _ ks nx,h=>⟨h.1.1,OkG.f h.2.1,OkG.f h.2.2⟩
theorem oneE_ok {t:Tr} {l:Nat} (h:oneE t l=0):OkN t.h:=by
 have hr:=of_decide_eq_true (oneE_num h)
 obtain⟨h1,h2,h3,h4,h5,h6,h7,h8,h9,h10,h11,h12⟩:=hr
 refine⟨fun n hn=>?_,oneE_kind h⟩
 simp only [numsL,List.mem_cons,List.not_mem_nil,or_false] at hn
 rcases hn with rfl | rfl | rfl | rfl | rfl | rfl <;> omega
theorem chkF_ok:∀(f:Fo) (p:ByteArray) (l:Nat),chkF f p l=none→OkG f
 | .nil,_,_,_=>trivial
 | .node h ss ks nx,p,l,hc=>by
  obtain⟨h1,h2,h3⟩:=chkF_none hc
  exact⟨oneE_ok h1,chkF_ok ks _ _ h2,chkF_ok nx _ _ h3⟩
theorem flat_take1 {α:Type} {ss:List α} {k:Nat} {s:α} (f:α→List UInt8) (h:ss[k]? = some s):(ss.take (k+1)).flatMap f=(ss.take k).flatMap f++f s:=by
 rw [List.take_add_one,h]
 simp
def KpS (b:Nat) (cn:Array Value) (g q:Nat) (s:St) (z:World):Prop:=Blk z b cn 25∧g < z.heap.size∧z.cell? ⟨g,q,none⟩=some (.string s.1)∧z.cell? ⟨g,q+1,none⟩=some (.string s.2)
theorem KpS.below {b g q:Nat} {cn:Array Value} {s:St} {z z':World} (h:KpS b cn g q s z) (hb:Below z.heap.size z z'):KpS b cn g q s z':=
 ⟨Blk.below hb h.1,Nat.lt_of_lt_of_le h.2.1 hb.size,(hb.cell (p:=⟨g,q,none⟩) h.2.1).trans h.2.2.1,(hb.cell (p:=⟨g,q+1,none⟩) h.2.1).trans h.2.2.2⟩
theorem rlines_any:∀(N:Nat),N≤60000→∀(t:Tr),t.sz≤N→OkN t.h→OkG t.ks→∀(l:Nat),l+N≤2000000→∀(v:Value) (w:World),TreeR w w.heap.size v t→Calls Tryz.prog 88 #[v,.int .i64 (l:Int)] w fun e w'=>e=.returned (.string ⟨(nodeL t l++linesF t.ks l).toArray⟩)∧Below w.heap.size w w'
 | 0,_,t,ht,_,_,_,_,_,_,_=>by unfold Tr.sz Hd.sz at ht;omega
 | N+1,hN,t,ht,hok,hog,l,hl,v,w,hv=>by
  have IH:=hide (rlines_any N (by omega))
  have HVT:=hide hv
  have HOG:=hide hog
  have hkc:t.sz=20+t.h.name.size+t.h.data.size+t.h.target.size+szS t.ss+t.ks.sz:=rfl
  have hlc:=t.ks.len_sz
  have hls:=szS_len t.ss
  have hnl:=nodeL_sz t.h t.ss t.ks l hok.1 (by omega)
  have hfl:=linesF_sz t.ks l hog.f (by omega)
  have hhz:t.h.sz+szS t.ss+t.ks.sz=t.sz:=rfl
  have HD0:=hide (show ∀W,Below w.heap.size w W→Calls Tryz.prog 133 #[v,.int .i64 (l:Int)] W fun e w'=>e=.returned (.string ⟨(headL t.h l).toArray⟩)∧Below W.heap.size W w' from fun W hb=>rhead_any t l (by omega) (by omega) hok.1 v W (HVT.out.later hb))
  obtain⟨A,c,A2,c2,rfl,hk,hs⟩:=hv.open
  have HL0:=hide (Left.of hk)
  have HST:=hide (show StL w w.heap.size A2 t.ss from hs)
  obtain⟨cells,hcs⟩:∃cells,t.h.cells (.slice A t.ks.len c) (.slice A2 t.ss.length c2)=cells:=⟨_,rfl⟩
  have h1c:cells[1]? = some (.int .i64 t.h.kind):=by rw [←hcs];rfl
  have h2c:cells[2]? = some (.string t.h.data):=by rw [←hcs];rfl
  have h3c:cells[3]? = some (.string t.h.target):=by rw [←hcs];rfl
  have h10:cells[10]? = some (.slice A t.ks.len c):=by rw [←hcs];rfl
  have h11:cells[11]? = some (.slice A2 t.ss.length c2):=by rw [←hcs];rfl
  have hzc:cells.size=12:=by rw [←hcs];rfl
  rw [hcs] at HD0 ⊢
  have HKI:=hide hok.2
  have hND:t.h.data.size≤60000∧t.h.target.size≤60000:=by omega
  have hnode:(nodeL t l).length≤600010:=by show(nodeL ⟨t.h,t.ss,t.ks⟩ l).length≤_;omega
  have hall:(nodeL t l).length+(linesF t.ks l).length≤600010:=by show(nodeL ⟨t.h,t.ss,t.ks⟩ l).length+_≤_;omega
  clear hcs hv hk hs hok hog hnl hfl HVT
  have HL:Live w []:=trivial
  go_enter Tryz.func88,Tryz.ntmps88
  go_upto_region 1 with fail
  have HB:=hide (show Blk (w.alloc (.cells cells 25)) w.heap.size cells 25 from Blk.newAt rfl)
  have hbel1:Below w.heap.size w (w.alloc (.cells cells 25)):=by(exact bl)
  generalize w.alloc (.cells cells 25)=W1 at *
  obtain⟨b,hb⟩:∃b,b=w.heap.size:=⟨_,rfl⟩
  rw [←hb] at HB ⊢
  have lb:w.heap.size≤b:=by omega
  clear hb
  have d1:W1.cell? ⟨b,1,none⟩=some (.int .i64 t.h.kind):=(HB.out.cells 1).trans h1c
  obtain⟨κ,hκ⟩:∃ κ,t.h.kind=κ:=⟨_,rfl⟩
  rw [hκ] at d1
  go_upto_block 0 with fail
  clear d1
  obtain⟨P,hP⟩:∃P,P=kindW t.h.kind++headL t.h l++tailL t.h++[10]:=⟨_,rfl⟩
  have HP:=hide hP
  have HPN:=hide (show nodeL t l=P++t.ss.flatMap strmL by rw [hP];rfl)
  have hPl:P.length+(t.ss.flatMap strmL).length=(nodeL t l).length:=by rw [HPN.out,List.length_append]
  clear hP
  go_cut [5] (fun v wx=>v=.string ⟨P.toArray⟩∧Below w.heap.size w wx∧Blk wx b cells 25)
  case first=>
   have HDC:=hide (show ∀W,Below W1.heap.size W1 W→Calls Tryz.prog 133 #[.agg cells,.int .i64 (l:Int)] W fun e w'=>e=.returned (.string ⟨(headL t.h l).toArray⟩)∧Below W.heap.size W w' from fun W hb=>HD0.out W (hbel1.trans (hb.mono hbel1.size)))
   have hkeep1:Blk W1 b cells 25∧True:=⟨HB.out,trivial⟩
   have hkeep2:Blk W1.drew b cells 25∧True:=⟨Blk.below (Below.refl _ _).drew HB.out,trivial⟩
   have C2:=hide h2c
   have C3:=hide h3c
   have hhs:(⟨(headL t.h l).toArray⟩:ByteArray).size≤600010:=by
    show(headL t.h l).toArray.size≤_
    rw [List.size_toArray]
    have:(headL t.h l).length≤P.length:=by rw [HP.out];simp only [List.length_append];omega
    omega
   have HX:=hide hbel1
   clear IH HL0 HST h1c h2c h3c h10 h11 HD0 HPN hPl hall hbel1
   rcases (show κ=0∨κ=1∨κ=2 by have:=HKI.out;omega) with rfl | rfl | rfl
   ·have HE:=hide (show(⟨#[100,105,114,101,99,116,111,114,121]⟩:ByteArray)++⟨(headL t.h l).toArray⟩++⟨#[10]⟩=⟨P.toArray⟩ by
     rw [HP.out,hκ];apply ByteArray.ext;simp [kindW,tailL,hκ])
    clear hκ HP
    generalize (⟨(headL t.h l).toArray⟩:ByteArray)=sh at *
    go_wp2_with (first | (refine wpList_load_row rfl 25 (.tmp 2) rfl b rfl 25 cells (0,0) _ HB.out Tryz.underlying25 rfl (infN hzc) ?_) | (go_at_call 133;refine(HDC.out _ (Below.refl _ _)).mono ?_;rintro e w3 ⟨rfl,hb3⟩))
    go_meet
    exact⟨by rw [HE.out],HX.out.trans (hb3.mono HX.out.size),Blk.below hb3 HB.out⟩
   ·have HE:=hide (show(⟨#[102,105,108,101]⟩:ByteArray)++⟨(headL t.h l).toArray⟩++⟨#[32]⟩++wordS t.h.data++⟨#[10]⟩=⟨P.toArray⟩ by
     rw [HP.out,hκ];apply ByteArray.ext;simp [kindW,tailL,hκ,spW])
    have WDC:=hide (fun W=>rword_any t.h.data (by omega) W)
    have hws:(wordS t.h.data).size≤200000:=by have:=wordS_len t.h.data;have h2:(wordS t.h.data).data.toList.length=(wordS t.h.data).size:=Array.length_toList;omega
    clear hκ HP
    generalize (⟨(headL t.h l).toArray⟩:ByteArray)=sh at *
    generalize wordS t.h.data=sw at *
    go_upto_region 6 with fail
    refine wp_region_noPanic ?_
    refine wp_region_held_drew (S:=(fun z=>Blk z b cells 25∧True)) (by kernel_rfl) kp (fun hHeld=>?_)
    refine tkZ 0 ⟨some 19,.load 25 (.tmp 2),25, "ref.go:411",#[],none⟩ ?_ (by intro w hSw;(try dsimp only at hSw);refine(exec_load_row 25 (.tmp 2) (by rfl) b (by rfl) 25 cells (0,0) _ hSw.1 Tryz.underlying25 (by rfl) (infN hzc)).trans ?_;with_reducible rfl)
    refine tkZ 1 ⟨some 20,.move (.tmp 1),3, "ref.go:411",#[],none⟩ ?_
    refine tkZ 5 ⟨some 24,.fieldAddr 25 (.tmp 2) 2,0, "ref.go:411",#[],none⟩ ?_
    refine tkZ 6 ⟨some 25,.load 9 (.tmp 24),9, "ref.go:411",#[⟨5,.data⟩],none⟩ ?_ (by intro w hSw;(try dsimp only at hSw);have c1:=(hSw.1.cells 2).trans C2.out;go_simp;(try with_reducible rfl))
    refine rqS [2] (rqC ⟨some 21,.call ⟨.value (.func 133),#[.tmp 19,.tmp 20],#[25,3]⟩,9, "ref.go:411",#[⟨0,.data⟩,⟨1,.data⟩],none⟩ (fun K hK=>?_) rq0)
    go_simp
    (go_at_call 133;(with_reducible refine(HDC.out _ (Below.refl _ _).drew).mono ?_);rintro e w3 ⟨rfl,hb3⟩;have hkeep3:Blk w3 b cells 25∧True:=⟨Blk.below hb3 hHeld.1,trivial⟩)
    go_wp2_with fail
    refine hK.out _ _ kp (fun hHeld=>?_)
    clear hK K
    try simp only [PT]
    refine tkZ 3 ⟨some 22,.binOp .add 9 (.const (.string { data:=#[102,105,108,101] })) (.tmp 21) 9,9, "ref.go:411",#[⟨2,.data⟩],none⟩ ?_ (by intro w hSw;(try dsimp only at hSw);go_simp;rw [if_neg (by omega)];(try with_reducible rfl))
    refine tkZ 4 ⟨some 23,.binOp .add 9 (.tmp 22) (.const (.string { data:=#[32] })) 9,9, "ref.go:411",#[⟨3,.data⟩],none⟩ ?_ (by intro w hSw;(try dsimp only at hSw);go_simp;rw [if_neg (by omega)];(try with_reducible rfl))
    refine rqS [7] (rqC ⟨some 26,.call ⟨.value (.func 134),#[.tmp 25],#[9]⟩,9, "ref.go:411",#[⟨6,.data⟩,⟨2,.chain⟩],none⟩ (fun K hK=>?_) rq0)
    go_simp
    (go_at_call 134;(with_reducible refine(WDC.out _).mono ?_);rintro e w4 ⟨rfl,hb4⟩;have hkeep4:Blk w4 b cells 25∧True:=⟨Blk.below hb4 hHeld.1,trivial⟩)
    go_wp2_with fail
    refine hK.out _ _ kp (fun hHeld=>?_)
    clear hK K
    try simp only [PT]
    refine tkZ 8 ⟨some 27,.binOp .add 9 (.tmp 23) (.tmp 26) 9,9, "ref.go:411",#[⟨4,.data⟩,⟨7,.data⟩],none⟩ ?_ (by intro w hSw;(try dsimp only at hSw);go_simp;rw [if_neg (by omega)];(try with_reducible rfl))
    refine tkZ 9 ⟨some 28,.binOp .add 9 (.tmp 27) (.const (.string { data:=#[10] })) 9,9, "ref.go:411",#[⟨8,.data⟩],none⟩ ?_ (by intro w hSw;(try dsimp only at hSw);go_simp;rw [if_neg (by omega)];(try with_reducible rfl))
    refine tkZ 10 ⟨some 5,.assign (.tmp 28),9, "ref.go:411",(phs [⟨9,.data⟩,⟨7,.chain⟩] 10),none⟩ ?_
    refine wpAnyH_done (by kernel_rfl) ?_ _
    refine NoPanic.normal ?_
    go_wp2_with fail
    go_meet
    have hbx:=(Below.refl W1.heap.size W1).drew.trans (show Below W1.heap.size W1.drew w4 from hb3.trans (hb4.mono hb3.size))
    exact⟨by rw [HE.out],HX.out.trans (hbx.mono HX.out.size),Blk.below hbx HB.out⟩
   ·have HE:=hide (show(⟨#[115,121,109,108,105,110,107]⟩:ByteArray)++⟨(headL t.h l).toArray⟩++⟨#[32]⟩++wordS t.h.target++⟨#[10]⟩=⟨P.toArray⟩ by
     rw [HP.out,hκ];apply ByteArray.ext;simp [kindW,tailL,hκ,spW])
    have WDC:=hide (fun W=>rword_any t.h.target (by omega) W)
    have hws:(wordS t.h.target).size≤200000:=by have:=wordS_len t.h.target;have h2:(wordS t.h.target).data.toList.length=(wordS t.h.target).size:=Array.length_toList;omega
    clear hκ HP
    generalize (⟨(headL t.h l).toArray⟩:ByteArray)=sh at *
    generalize wordS t.h.target=sw at *
    go_upto_region 8 with fail
    refine wp_region_noPanic ?_
    refine wp_region_held_drew (S:=(fun z=>Blk z b cells 25∧True)) (by kernel_rfl) kp (fun hHeld=>?_)
    refine tkZ 0 ⟨some 31,.load 25 (.tmp 2),25, "ref.go:413",#[],none⟩ ?_ (by intro w hSw;(try dsimp only at hSw);refine(exec_load_row 25 (.tmp 2) (by rfl) b (by rfl) 25 cells (0,0) _ hSw.1 Tryz.underlying25 (by rfl) (infN hzc)).trans ?_;with_reducible rfl)
    refine tkZ 1 ⟨some 32,.move (.tmp 1),3, "ref.go:413",#[],none⟩ ?_
    refine tkZ 5 ⟨some 36,.fieldAddr 25 (.tmp 2) 3,0, "ref.go:413",#[],none⟩ ?_
    refine tkZ 6 ⟨some 37,.load 9 (.tmp 36),9, "ref.go:413",#[⟨5,.data⟩],none⟩ ?_ (by intro w hSw;(try dsimp only at hSw);have c1:=(hSw.1.cells 3).trans C3.out;go_simp;(try with_reducible rfl))
    refine rqS [2] (rqC ⟨some 33,.call ⟨.value (.func 133),#[.tmp 31,.tmp 32],#[25,3]⟩,9, "ref.go:413",#[⟨0,.data⟩,⟨1,.data⟩],none⟩ (fun K hK=>?_) rq0)
    go_simp
    (go_at_call 133;(with_reducible refine(HDC.out _ (Below.refl _ _).drew).mono ?_);rintro e w3 ⟨rfl,hb3⟩;have hkeep3:Blk w3 b cells 25∧True:=⟨Blk.below hb3 hHeld.1,trivial⟩)
    go_wp2_with fail
    refine hK.out _ _ kp (fun hHeld=>?_)
    clear hK K
    try simp only [PT]
    refine tkZ 3 ⟨some 34,.binOp .add 9 (.const (.string { data:=#[115,121,109,108,105,110,107] })) (.tmp 33) 9,9, "ref.go:413",#[⟨2,.data⟩],none⟩ ?_ (by intro w hSw;(try dsimp only at hSw);go_simp;rw [if_neg (by omega)];(try with_reducible rfl))
    refine tkZ 4 ⟨some 35,.binOp .add 9 (.tmp 34) (.const (.string { data:=#[32] })) 9,9, "ref.go:413",#[⟨3,.data⟩],none⟩ ?_ (by intro w hSw;(try dsimp only at hSw);go_simp;rw [if_neg (by omega)];(try with_reducible rfl))
    refine rqS [7] (rqC ⟨some 38,.call ⟨.value (.func 134),#[.tmp 37],#[9]⟩,9, "ref.go:413",#[⟨6,.data⟩,⟨2,.chain⟩],none⟩ (fun K hK=>?_) rq0)
    go_simp
    (go_at_call 134;(with_reducible refine(WDC.out _).mono ?_);rintro e w4 ⟨rfl,hb4⟩;have hkeep4:Blk w4 b cells 25∧True:=⟨Blk.below hb4 hHeld.1,trivial⟩)
    go_wp2_with fail
    refine hK.out _ _ kp (fun hHeld=>?_)
    clear hK K
    try simp only [PT]
    refine tkZ 8 ⟨some 39,.binOp .add 9 (.tmp 35) (.tmp 38) 9,9, "ref.go:413",#[⟨4,.data⟩,⟨7,.data⟩],none⟩ ?_ (by intro w hSw;(try dsimp only at hSw);go_simp;rw [if_neg (by omega)];(try with_reducible rfl))
    refine tkZ 9 ⟨some 40,.binOp .add 9 (.tmp 39) (.const (.string { data:=#[10] })) 9,9, "ref.go:413",#[⟨8,.data⟩],none⟩ ?_ (by intro w hSw;(try dsimp only at hSw);go_simp;rw [if_neg (by omega)];(try with_reducible rfl))
    refine tkZ 10 ⟨some 5,.assign (.tmp 40),9, "ref.go:413",(phs [⟨9,.data⟩,⟨7,.chain⟩] 10),none⟩ ?_
    refine wpAnyH_done (by kernel_rfl) ?_ _
    refine NoPanic.normal ?_
    go_wp2_with fail
    go_meet
    have hbx:=(Below.refl W1.heap.size W1).drew.trans (show Below W1.heap.size W1.drew w4 from hb3.trans (hb4.mono hb3.size))
    exact⟨by rw [HE.out],HX.out.trans (hbx.mono HX.out.size),Blk.below hbx HB.out⟩
  case rest=>
  obtain⟨rfl,hbel2,hB2⟩:=hcut
  clear HB hbel1 HD0 HP hκ h1c h2c h3c HKI
  have HB2:=hide hB2
  clear hB2
  go_upto_block 1 with fail
  go_cut [5] (fun v wx=>v=.string ⟨(nodeL t l).toArray⟩∧Below w.heap.size w wx∧Blk wx b cells 25)
  case first=>
   clear IH HL0 HOG
   go_wp2_with fail
   go_loopw [5,6] (fun s i wr=>∃k:Nat,i=.int .i64 (k:Int)∧k≤t.ss.length∧s=.string ⟨(P++(t.ss.take k).flatMap strmL).toArray⟩∧Below w.heap.size w wr∧Blk wr b cells 25) (fun _ i _=>t.ss.length - (intOf i).toNat)
   case atStart=>exact⟨0,rfl,by omega,by simp,hbel2,HB2.out⟩
   case round=>
    clear HB2 hbel2
    obtain⟨k,rfl,hkl,rfl,hbel,hB⟩:=hrel
    have HB:=hide hB
    have c11:wr.cell? ⟨b,11,none⟩=some (.slice A2 t.ss.length c2):=(HB.out.cells 11).trans h11
    have C11:=hide h11
    clear hB
    by_cases hlt:k < t.ss.length
    case neg=>
     obtain rfl:k=t.ss.length:=by omega
     have HE:=hide (show P++(t.ss.take t.ss.length).flatMap strmL=nodeL t l by rw [HPN.out,List.take_of_length_le (by omega)])
     go_wp2_with fail
     go_meet
     exact⟨by rw [HE.out],hbel,HB.out⟩
    case pos=>
    obtain⟨s,hs⟩:∃s,t.ss[k]? = some s:=⟨_,List.getElem?_eq_getElem hlt⟩
    obtain⟨g,o,rfl,hg,s1,s2⟩:=HST.out.at hbel hs
    have hsb:s.1.size≤60000∧s.2.size≤60000:=by have:=szS_mem hs;omega
    have hpre:(P++(t.ss.take (k+1)).flatMap strmL).length≤600010:=by
     have h1:=List.take_append_drop (k+1) t.ss
     have h2:((t.ss.take (k+1)).flatMap strmL).length≤(t.ss.flatMap strmL).length:=by
      rw [←h1,List.flatMap_append,List.length_append,h1];omega
     rw [List.length_append];omega
    have HT:=hide (show(⟨(P++(t.ss.take k).flatMap strmL).toArray⟩:ByteArray)++⟨#[115,116,114,101,97,109,32]⟩++wordS s.1++⟨#[32]⟩++wordS s.2++⟨#[10]⟩=⟨(P++(t.ss.take (k+1)).flatMap strmL).toArray⟩ by
     rw [flat_take1 strmL hs];apply ByteArray.ext;simp [strmL,spW])
    have hz0:(⟨(P++(t.ss.take k).flatMap strmL).toArray⟩:ByteArray).size≤600010:=by
     show(P++(t.ss.take k).flatMap strmL).toArray.size≤_
     rw [List.size_toArray]
     rw [flat_take1 strmL hs,←List.append_assoc,List.length_append] at hpre
     omega
    have WA:=hide (fun W=>rword_any s.1 (by omega) W)
    have WB:=hide (fun W=>rword_any s.2 (by omega) W)
    have hwa:(wordS s.1).size≤200000:=by have:=wordS_len s.1;have h2:(wordS s.1).data.toList.length=(wordS s.1).size:=Array.length_toList;omega
    have hwb:(wordS s.2).size≤200000:=by have:=wordS_len s.2;have h2:(wordS s.2).data.toList.length=(wordS s.2).size:=Array.length_toList;omega
    have hgr:g < wr.heap.size:=Nat.lt_of_lt_of_le hg hbel.size
    have HKS:=hide (show KpS b cells g (o+k*2) s wr from⟨HB.out,hgr,s1,s2⟩)
    have hkeep0:KpS b cells g (o+k*2) s wr∧True:=⟨HKS.out,trivial⟩
    have hkeepd:KpS b cells g (o+k*2) s wr.drew∧True:=⟨HKS.out.below (Below.refl _ _).drew,trivial⟩
    have HBW:=hide hbel
    clear hs hpre s1 s2 hbel HST
    generalize (⟨(P++(t.ss.take k).flatMap strmL).toArray⟩:ByteArray)=sp at *
    generalize wordS s.1=sa at *
    generalize wordS s.2=sb at *
    go_upto_region 12 with fail
    refine wp_region_noPanic ?_
    refine wp_region_held_drew (S:=(fun z=>KpS b cells g (o+k*2) s z∧True)) (by kernel_rfl) kp (fun hHeld=>?_)
    refine tkZ 0 ⟨some 48,.move (.tmp 5),9, "ref.go:416",#[],none⟩ ?_
    refine tkZ 1 ⟨some 49,.binOp .add 9 (.tmp 48) (.const (.string { data:=#[115,116,114,101,97,109,32] })) 9,9, "ref.go:416",#[⟨0,.data⟩],none⟩ ?_ (by intro w hSw;(try dsimp only at hSw);go_simp;rw [if_neg (by omega)];(try with_reducible rfl))
    refine tkZ 2 ⟨some 50,.fieldAddr 25 (.tmp 2) 11,0, "ref.go:416",#[],none⟩ ?_
    refine tkZ 3 ⟨some 51,.load 23 (.tmp 50),23, "ref.go:416",#[⟨2,.data⟩],none⟩ ?_ (by intro w hSw;(try dsimp only at hSw);have c1:=(hSw.1.1.cells 11).trans C11.out;go_simp;(try with_reducible rfl))
    refine tkZ 4 ⟨some 52,.move (.tmp 6),3, "ref.go:416",#[],none⟩ ?_
    refine tkZ 5 ⟨some 53,.indexAddr 23 (.tmp 51) (.tmp 52),0, "ref.go:416",#[⟨3,.data⟩,⟨4,.data⟩],none⟩ ?_
    refine tkZ 6 ⟨some 54,.fieldAddr 69 (.tmp 53) 0,0, "ref.go:416",#[⟨5,.data⟩],none⟩ ?_
    refine tkZ 7 ⟨some 55,.load 9 (.tmp 54),9, "ref.go:416",#[⟨6,.data⟩],none⟩ ?_ (by intro w hSw;(try dsimp only at hSw);have c1:=hSw.1.2.2.1;go_simp;(try with_reducible rfl))
    refine tkZ 11 ⟨some 59,.fieldAddr 25 (.tmp 2) 11,0, "ref.go:416",#[],none⟩ ?_
    refine tkZ 12 ⟨some 60,.load 23 (.tmp 59),23, "ref.go:416",#[⟨11,.data⟩],none⟩ ?_ (by intro w hSw;(try dsimp only at hSw);have c1:=(hSw.1.1.cells 11).trans C11.out;go_simp;(try with_reducible rfl))
    refine tkZ 13 ⟨some 61,.move (.tmp 6),3, "ref.go:416",#[],none⟩ ?_
    refine tkZ 14 ⟨some 62,.indexAddr 23 (.tmp 60) (.tmp 61),0, "ref.go:416",#[⟨12,.data⟩,⟨13,.data⟩],none⟩ ?_
    refine tkZ 15 ⟨some 63,.fieldAddr 69 (.tmp 62) 1,0, "ref.go:416",#[⟨14,.data⟩],none⟩ ?_
    refine tkZ 16 ⟨some 64,.load 9 (.tmp 63),9, "ref.go:416",#[⟨15,.data⟩],none⟩ ?_ (by intro w hSw;(try dsimp only at hSw);have c1:=hSw.1.2.2.2;go_simp;(try with_reducible rfl))
    refine rqS [8] (rqC ⟨some 56,.call ⟨.value (.func 134),#[.tmp 55],#[9]⟩,9, "ref.go:416",#[⟨7,.data⟩],none⟩ (fun K hK=>?_) rq0)
    go_simp
    (first | (go_at_call 134;(with_reducible refine(WA.out _).mono ?_);rintro e w5 ⟨rfl,hb5⟩;have hkeep5:KpS b cells g (o+k*2) s w5∧True:=⟨hHeld.1.below hb5,trivial⟩) | (go_at_call 134;(with_reducible refine(WB.out _).mono ?_);rintro e w6 ⟨rfl,hb6⟩;have hkeep6:KpS b cells g (o+k*2) s w6∧True:=⟨hHeld.1.below hb6,trivial⟩))
    go_wp2_with fail
    refine hK.out _ _ kp (fun hHeld=>?_)
    clear hK K
    try simp only [PT]
    refine tkZ 9 ⟨some 57,.binOp .add 9 (.tmp 49) (.tmp 56) 9,9, "ref.go:416",#[⟨1,.data⟩,⟨8,.data⟩],none⟩ ?_ (by intro w hSw;(try dsimp only at hSw);go_simp;rw [if_neg (by omega)];(try with_reducible rfl))
    refine tkZ 10 ⟨some 58,.binOp .add 9 (.tmp 57) (.const (.string { data:=#[32] })) 9,9, "ref.go:416",#[⟨9,.data⟩],none⟩ ?_ (by intro w hSw;(try dsimp only at hSw);go_simp;rw [if_neg (by omega)];(try with_reducible rfl))
    refine rqS [17] (rqC ⟨some 65,.call ⟨.value (.func 134),#[.tmp 64],#[9]⟩,9, "ref.go:416",#[⟨16,.data⟩,⟨8,.chain⟩],none⟩ (fun K hK=>?_) rq0)
    go_simp
    (first | (go_at_call 134;(with_reducible refine(WA.out _).mono ?_);rintro e w5 ⟨rfl,hb5⟩;have hkeep5:KpS b cells g (o+k*2) s w5∧True:=⟨hHeld.1.below hb5,trivial⟩) | (go_at_call 134;(with_reducible refine(WB.out _).mono ?_);rintro e w6 ⟨rfl,hb6⟩;have hkeep6:KpS b cells g (o+k*2) s w6∧True:=⟨hHeld.1.below hb6,trivial⟩))
    go_wp2_with fail
    refine hK.out _ _ kp (fun hHeld=>?_)
    clear hK K
    try simp only [PT]
    refine tkZ 18 ⟨some 66,.binOp .add 9 (.tmp 58) (.tmp 65) 9,9, "ref.go:416",#[⟨10,.data⟩,⟨17,.data⟩],none⟩ ?_ (by intro w hSw;(try dsimp only at hSw);go_simp;rw [if_neg (by omega)];(try with_reducible rfl))
    refine tkZ 19 ⟨some 67,.binOp .add 9 (.tmp 66) (.const (.string { data:=#[10] })) 9,9, "ref.go:416",#[⟨18,.data⟩],none⟩ ?_ (by intro w hSw;(try dsimp only at hSw);go_simp;rw [if_neg (by omega)];(try with_reducible rfl))
    refine tkZ 20 ⟨some 5,.assign (.tmp 67),9, "ref.go:416",(phs [⟨19,.data⟩,⟨17,.chain⟩] 20),none⟩ ?_
    refine wpAnyH_done (by kernel_rfl) ?_ _
    refine NoPanic.normal ?_
    have hbx:=HBW.out.trans ((show Below wr.heap.size wr w6 from(Below.refl wr.heap.size wr).drew.trans (show Below wr.heap.size wr.drew w6 from hb5.trans (hb6.mono hb5.size))).mono HBW.out.size)
    have HBX:=hide hbx
    have HB6:=hide hkeep6.1.1
    clear hbx hkeep0 hkeepd hkeep5 hkeep6 hHeld
    go_wp2_with fail
    go_roundw
    case rel=>exact⟨k+1,by go_num,by omega,by rw [←HT.out],HBX.out,HB6.out⟩
    case measure=>simp [intOf];omega
  case rest=>
  obtain⟨rfl,hbel3,hB3⟩:=hcut
  have HB3:=hide hB3
  clear HB2 hbel2 HST h11 HPN hPl hB3
  have HSZ:=hide hall
  clear hall hnode
  go_wp2_with fail
  go_loopw [5,7] (fun s i wr=>∃(k:Nat) (r:Fo) (p:List UInt8),i=.int .i64 (k:Int)∧s=.string ⟨p.toArray⟩∧k+r.len=t.ks.len∧p++linesF r l=nodeL t l++linesF t.ks l∧r.sz≤t.ks.sz∧OkG r∧Left w w.heap.size A r k∧Below w.heap.size w wr∧Blk wr b cells 25) (fun _ i _=>t.ks.len - (intOf i).toNat)
  case atStart=>exact⟨0,t.ks,nodeL t l,rfl,rfl,by omega,rfl,Nat.le_refl _,HOG.out,HL0.out,hbel3,HB3.out⟩
  case round=>
   clear HB3 hbel3 HL0 HOG
   obtain⟨k,r,p,rfl,rfl,hkr,hpr,hrz,hog,hlf,hbel,hB⟩:=hrel
   have HLr:=hide hlf
   have HB:=hide hB
   have HPR:=hide hpr
   have hsz:=hbel.size
   have c10:wr.cell? ⟨b,10,none⟩=some (.slice A t.ks.len c):=(HB.out.cells 10).trans h10
   have hrc:=r.len_sz
   clear hlf hB hpr
   by_cases hlt:k < t.ks.len
   case neg=>
    have hr0:r.len=0:=by omega
    have hm:=HPR.out
    have:=Fo.nil_of hr0
    subst this
    rw [linesF,List.append_nil] at hm
    have HM:=hide hm
    clear hm hr0
    go_wp2_with fail
    go_ret
    exact⟨by rw [HM.out];rfl,hbel⟩
   case pos=>
   cases r with
   | nil=>rw [Fo.len_nil] at hkr;omega
   | node h ss ks nx=>
   obtain⟨g,o,kc,rfl,hg,hr,hz,-,htr,hln⟩:=HLr.out.next
   have R1:=hide (range_below hbel hg hr)
   have HN:=hide hln
   have HZ:=hide hz
   have hq2:Tr.sz ⟨h,ss,ks⟩=h.sz+szS ss+ks.sz:=rfl
   have hnx:=nx.len_sz
   rw [Fo.sz_node] at hrz hrc
   rw [Fo.len_node] at hkr hrc
   have hh2:20≤t.h.sz:=by unfold Hd.sz;omega
   have CC:=IH.out ⟨h,ss,ks⟩ (by omega) hog.1 hog.2.1 (l+1) (by omega) (.agg kc) wr ((htr.below hbel).mono hsz)
   have HOX:=hide hog.2.2
   have HQ:=hide (show(p++(nodeL ⟨h,ss,ks⟩ (l+1)++linesF ks (l+1)))++linesF nx l=nodeL t l++linesF t.ks l by
    rw [←HPR.out,linesF];simp only [List.append_assoc])
   have hwl:IntKind.i64.wrap ((l:Int)+1)=((l+1:Nat):Int):=by rw [IntWalk.i64_in _ (by omega)];omega
   have hps:(⟨p.toArray⟩:ByteArray).size≤600010:=by
    show p.toArray.size≤_
    rw [List.size_toArray]
    have:=congrArg List.length HPR.out
    simp only [List.length_append] at this
    have:=HSZ.out
    omega
   have hqs:(⟨(nodeL ⟨h,ss,ks⟩ (l+1)++linesF ks (l+1)).toArray⟩:ByteArray).size≤600010:=by
    show(nodeL ⟨h,ss,ks⟩ (l+1)++linesF ks (l+1)).toArray.size≤_
    rw [List.size_toArray]
    have:=congrArg List.length HQ.out
    simp only [List.length_append] at this
    have:=HSZ.out
    simp only [List.length_append]
    omega
   have HJ:=hide (show(⟨p.toArray⟩:ByteArray)++⟨(nodeL ⟨h,ss,ks⟩ (l+1)++linesF ks (l+1)).toArray⟩=⟨(p++(nodeL ⟨h,ss,ks⟩ (l+1)++linesF ks (l+1))).toArray⟩ by
    apply ByteArray.ext;simp)
   obtain⟨q,hqe⟩:∃q,q=nodeL ⟨h,ss,ks⟩ (l+1)++linesF ks (l+1):=⟨_,rfl⟩
   rw [←hqe] at HQ HJ hqs
   have CC2:Calls Tryz.prog 88 #[.agg kc,.int .i64 ((l+1:Nat):Int)] wr fun e w'=>e=.returned (.string ⟨q.toArray⟩)∧Below wr.heap.size wr w':=by rw [hqe];exact CC
   have CQ:=hide CC2
   clear CC CC2 hqe hr hln hz htr HLr IH hog HPR
   generalize (⟨p.toArray⟩:ByteArray)=sp at *
   generalize (⟨q.toArray⟩:ByteArray)=sq at *
   go_wp2_with (first | (refine wpList_load_midA rfl 25 (.tmp 79) rfl g (o+k*12) rfl kc _ R1.out Tryz.underlying25 rfl (infNl HZ.out) ?_) | (go_at_call 88;refine CQ.out.mono ?_;rintro e w3 ⟨rfl,hb3⟩))
   go_roundw
   case rel=>
    exact⟨k+1,nx,p++q,by go_num,by rw [←HJ.out],by omega,HQ.out,by omega,HOX.out,HN.out,hbel.trans (hb3.mono hsz),Blk.below hb3 HB.out⟩
   case measure=>simp [intOf];omega
theorem rformat_any (t:Tr) (hsz:t.sz≤60000) (v:Value) (w:World) (hv:TreeR w w.heap.size v t):Calls Tryz.prog 35 #[v] w fun e w'=>e=.returned (.tuple #[.string (formatT t).1,.int .i64 (formatT t).2])∧Below w.heap.size w w':=by
 have VN:=hide (fun W hW=>rvalid_any t (Or.inl hsz) v W hW)
 have HV:=hide hv
 obtain⟨cells,rfl,hz,h1c⟩:=hv.cells
 have HZ:=hide hz
 clear hv hz h1c
 have HL:Live w []:=trivial
 go_enter Tryz.func35,Tryz.ntmps35
 go_upto_region 1 with fail
 have HB:=hide (show Blk (w.alloc (.cells cells 25)) w.heap.size cells 25 from Blk.newAt rfl)
 have hbel1:Below w.heap.size w (w.alloc (.cells cells 25)):=by(exact bl)
 have HV1:=hide (HV.out.later hbel1)
 generalize w.alloc (.cells cells 25)=W1 at *
 obtain⟨b,hb⟩:∃b,b=w.heap.size:=⟨_,rfl⟩
 rw [←hb] at HB ⊢
 clear hb
 cases hvb:validB t
 case false=>
  have HR:=hide (fmt_no hvb)
  rw [hvb] at VN
  clear hvb
  go_wp2_with (first | (refine wpList_load_row rfl 25 (.tmp 1) rfl b rfl 25 cells (0,0) _ HB.out Tryz.underlying25 rfl (infN HZ.out) ?_) | (go_at_call 65;refine(VN.out _ HV1.out).mono ?_;rintro e w3 ⟨rfl,hb3⟩))
  go_ret2
  exact⟨by rw [HR.out];rfl,hbel1.trans (hb3.mono hbel1.size)⟩
 case true=>
  have HVB:=hide hvb
  rw [hvb] at VN
  have hcn:=t.count_sz
  obtain⟨-,hv1,hv2⟩:=valid_chk hvb
  have ok1:=oneE_ok hv1
  have ok2:=chkF_ok _ _ _ hv2
  have hlen:(linesT t).length≤600010:=by
   have h1:=nodeL_sz t.h t.ss t.ks 1 ok1.1 (by omega)
   have h2:=linesF_sz t.ks 1 ok2.f (by unfold Tr.sz at hsz;omega)
   unfold linesT
   rw [List.length_append]
   unfold Tr.sz at hsz
   show(nodeL ⟨t.h,t.ss,t.ks⟩ 1).length+_≤_
   omega
  have LN:=hide (show ∀W,Below W1.heap.size W1 W→Calls Tryz.prog 88 #[.agg cells,.int .i64 1] W fun e w'=>e=.returned (.string ⟨(linesT t).toArray⟩)∧Below W.heap.size W w' from fun W hb=>rlines_any 60000 (Nat.le_refl _) t hsz ok1 ok2 1 (by omega) (.agg cells) W (HV1.out.later hb))
  have hls:(⟨(linesT t).toArray⟩:ByteArray).size=(linesT t).length:=List.size_toArray ..
  clear hv1 hv2 ok1 ok2 hvb
  by_cases h6:65536 < (linesT t).length
  ·have HR:=hide (fmt_big HVB.out h6)
   have q:(65536:Int) < ((linesT t).length:Int):=by omega
   clear h6 HVB
   generalize (⟨(linesT t).toArray⟩:ByteArray)=sx at *
   rw [←hls] at q hlen
   clear hls
   go_wp2_with (first | (refine wpList_load_row rfl 25 (.tmp 1) rfl b rfl 25 cells (0,0) _ HB3.out Tryz.underlying25 rfl (infN HZ.out) ?_) | (refine wpList_load_row rfl 25 (.tmp 1) rfl b rfl 25 cells (0,0) _ HB.out Tryz.underlying25 rfl (infN HZ.out) ?_) | (go_at_call 65;refine(VN.out _ HV1.out).mono ?_;rintro e w3 ⟨rfl,hb3⟩;have HB3:=hide (Blk.below hb3 HB.out);have HX3:=hide hb3;clear hb3) | (go_at_call 88;refine(LN.out _ HX3.out).mono ?_;rintro e w4 ⟨rfl,hb4⟩))
   go_ret2
   have hbel3:=hbel1.trans (HX3.out.mono hbel1.size)
   exact⟨by rw [HR.out];rfl,hbel3.trans (hb4.mono hbel3.size)⟩
  ·have HR:=hide (fmt_ok HVB.out (by omega:(linesT t).length≤65536))
   have q:¬(65536:Int) < ((linesT t).length:Int):=by omega
   clear h6 HVB
   generalize (⟨(linesT t).toArray⟩:ByteArray)=sx at *
   rw [←hls] at q hlen
   clear hls
   go_wp2_with (first | (refine wpList_load_row rfl 25 (.tmp 1) rfl b rfl 25 cells (0,0) _ HB3.out Tryz.underlying25 rfl (infN HZ.out) ?_) | (refine wpList_load_row rfl 25 (.tmp 1) rfl b rfl 25 cells (0,0) _ HB.out Tryz.underlying25 rfl (infN HZ.out) ?_) | (go_at_call 65;refine(VN.out _ HV1.out).mono ?_;rintro e w3 ⟨rfl,hb3⟩;have HB3:=hide (Blk.below hb3 HB.out);have HX3:=hide hb3;clear hb3) | (go_at_call 88;refine(LN.out _ HX3.out).mono ?_;rintro e w4 ⟨rfl,hb4⟩))
   go_ret2
   have hbel3:=hbel1.trans (HX3.out.mono hbel1.size)
   exact⟨by rw [HR.out];rfl,hbel3.trans (hb4.mono hbel3.size)⟩
set_option linter.unusedSimpArgs false
set_option linter.unusedVariables false
def single (k:Tr):Fo:=.node k.h k.ss k.ks .nil
def nest:Tr→List Tr→Tr
 | a,[]=>a
 | a,b :: r=>nest ⟨b.h,b.ss,b.ks.app (single a)⟩ r
def closeS:List Tr→Tr
 | []=>Tr.zero
 | a :: r=>nest a r
def Fo.onLast (g:Tr→Tr):Fo→Fo
 | .nil=>.nil
 | .node h ss ks .nil=>single (g ⟨h,ss,ks⟩)
 | .node h ss ks (.node h2 ss2 ks2 nx2)=>.node h ss ks (Fo.onLast g (.node h2 ss2 ks2 nx2))
def addT (k:Tr):Nat→Tr→Tr
 | 0,t=>⟨t.h,t.ss,t.ks.app (single k)⟩
 | n+1,t=>⟨t.h,t.ss,t.ks.onLast (addT k n)⟩
def Fo.last:Fo→Option Tr
 | .nil=>none
 | .node h ss ks .nil=>some ⟨h,ss,ks⟩
 | .node _ _ _ (.node h2 ss2 ks2 nx2)=>Fo.last (.node h2 ss2 ks2 nx2)
def deepT:Nat→Tr→Prop
 | 0,_=>True
 | n+1,t=>∃x,t.ks.last=some x∧deepT n x
theorem onLast_app (g:Tr→Tr) (a:Tr):∀f:Fo,(f.app (single a)).onLast g=f.app (single (g a))
 | .nil=>rfl
 | .node h ss ks .nil=>rfl
 | .node h ss ks (.node h2 ss2 ks2 nx2)=>by
  have:=onLast_app g a (.node h2 ss2 ks2 nx2)
  rw [Fo.app] at this
  rw [Fo.app,Fo.app]
  rw [Fo.onLast,this]
  rfl
theorem last_app (a:Tr):∀f:Fo,(f.app (single a)).last=some a
 | .nil=>rfl
 | .node h ss ks .nil=>rfl
 | .node h ss ks (.node h2 ss2 ks2 nx2)=>by
  have:=last_app a (.node h2 ss2 ks2 nx2)
  rw [Fo.app] at this
  rw [Fo.app,Fo.app]
  rw [Fo.last,this]
theorem last_none:∀ {f:Fo},f.last=none→f=.nil
 | .nil,_=>rfl
 | .node h ss ks .nil,h1=>by cases h1
 | .node h ss ks (.node h2 ss2 ks2 nx2),h1=>by
  rw [Fo.last] at h1
  have:=last_none h1
  cases this
theorem last_split:∀ {f:Fo} {x:Tr},f.last=some x→∃f0:Fo,f=f0.app (single x)
 | .nil,_,h1=>by cases h1
 | .node h ss ks .nil,x,h1=>by
  injection h1 with h1
  subst h1
  exact⟨.nil,rfl⟩
 | .node h ss ks (.node h2 ss2 ks2 nx2),x,h1=>by
  rw [Fo.last] at h1
  obtain⟨f0,e⟩:=last_split h1
  exact⟨.node h ss ks f0,by rw [Fo.app,e]⟩
theorem add_nest (k:Tr):∀(r:List Tr) (m:Nat) (a:Tr),addT k (r.length+m) (nest a r)=nest (addT k m a) r
 | [],m,a=>by rw [List.length_nil,Nat.zero_add];rfl
 | b :: r,m,a=>by
  rw [nest,nest,List.length_cons,show r.length+1+m=r.length+(m+1) by omega,add_nest k r (m+1),addT,onLast_app]
theorem deep_nest:∀(r:List Tr) (m:Nat) (a:Tr),deepT m a→deepT (r.length+m) (nest a r)
 | [],m,a,h=>by rw [List.length_nil,Nat.zero_add];exact h
 | b :: r,m,a,h=>by
  rw [nest,List.length_cons,show r.length+1+m=r.length+(m+1) by omega]
  exact deep_nest r (m+1) _ ⟨a,last_app a b.ks,h⟩
def strF (s:St):Fo→Fo
 | .nil=>.nil
 | .node h ss .nil .nil=>.node h (ss++[s]) .nil .nil
 | .node h ss (.node h1 ss1 ks1 nx1) .nil=>.node h ss (strF s (.node h1 ss1 ks1 nx1)) .nil
 | .node h ss ks (.node h2 ss2 ks2 nx2)=>.node h ss ks (strF s (.node h2 ss2 ks2 nx2))
def strT (s:St) (t:Tr):Tr:=match t.ks with
 | .nil=>⟨t.h,t.ss++[s],.nil⟩
 | .node h ss ks nx=>⟨t.h,t.ss,strF s (.node h ss ks nx)⟩
theorem strF_last (s:St):∀f:Fo,strF s f=f.onLast (strT s)
 | .nil=>rfl
 | .node h ss .nil .nil=>rfl
 | .node h ss (.node h1 ss1 ks1 nx1) .nil=>by rw [strF,Fo.onLast];rfl
 | .node h ss ks (.node h2 ss2 ks2 nx2)=>by
  rw [Fo.onLast,←strF_last s (.node h2 ss2 ks2 nx2),strF]
theorem strT_kids {s:St} {t:Tr} (h:t.ks≠.nil):strT s t=⟨t.h,t.ss,t.ks.onLast (strT s)⟩:=by
 obtain⟨hh,ss,ks⟩:=t
 cases ks with
 | nil=>exact absurd rfl h
 | node h1 ss1 ks1 nx1=>
  show(⟨hh,ss,strF s (.node h1 ss1 ks1 nx1)⟩:Tr)=_
  rw [strF_last]
theorem strT_none {s:St} {t:Tr} (h:t.ks=.nil):strT s t=⟨t.h,t.ss++[s],.nil⟩:=by
 obtain⟨hh,ss,ks⟩:=t
 have h:ks=.nil:=h
 subst h
 rfl
theorem app_ne (f:Fo) (a:Tr):f.app (single a)≠.nil:=by
 cases f <;> intro e <;> cases e
theorem str_nest (s:St):∀(r:List Tr) (a:Tr),strT s (nest a r)=nest (strT s a) r
 | [],_=>rfl
 | b :: r,a=>by
  rw [nest,nest,str_nest s r,strT_kids (app_ne b.ks a),onLast_app]
theorem close_pop:∀st:List Tr,closeS (popS st)=closeS st
 | []=>rfl
 | [_]=>rfl
 | _ :: _ :: _=>rfl
theorem close_leave (k:Nat):∀(n:Nat) (st:List Tr),closeS (leaveS k n st)=closeS st
 | 0,_=>rfl
 | n+1,st=>by
  rw [leaveS]
  split
  ·rw [close_leave k n,close_pop]
  ·rfl
theorem close_one {st:List Tr} {t:Tr} (h:leaveS 1 st.length st=[t]):t=closeS st:=by
 have:=close_leave 1 st.length st
 rw [h] at this
 exact this
theorem close_push {st:List Tr} {l:Nat} (h:Hd) (h1:2≤l) (h2:l≤st.length+1):closeS (⟨h,[],.nil⟩ :: leaveS (l - 1) st.length st)=addT ⟨h,[],.nil⟩ (l - 2) (closeS st)∧deepT (l - 2) (closeS st):=by
 have hl:=leaveS_len (l - 1) st.length st (Nat.le_refl _) (by omega)
 have hc:=close_leave (l - 1) st.length st
 rw [Nat.min_eq_left (by omega)] at hl
 cases hr:leaveS (l - 1) st.length st with
 | nil=>rw [hr] at hl;simp at hl;omega
 | cons a r=>
  rw [hr] at hl hc
  rw [List.length_cons] at hl
  have e:r.length+0=l - 2:=by omega
  rw [←hc]
  constructor
  ·show nest ⟨h,[],.nil⟩ (a :: r)=addT _ _ (nest a r)
   rw [←e,add_nest,nest]
   rfl
  ·show deepT (l - 2) (nest a r)
   rw [←e]
   exact deep_nest r 0 a trivial
theorem close_top {a:Tr} {r:List Tr} {s:St} (h:a.ks=.nil):closeS (⟨a.h,a.ss++[s],a.ks⟩ :: r)=strT s (closeS (a :: r)):=by
 show nest _ r=strT s (nest a r)
 rw [str_nest,strT_none h,h]
def nodeW (ws:List ByteArray):Option (Hd × Int):=match lineW ws with
 | some (.inr p)=>some p
 | _=>none
theorem headW_none {wl wn a b c d e f:ByteArray} {r:List ByteArray} (h:numW wl=none∨unword wn=none∨∃x∈[a,b,c,d,e,f],numW x=none):headW (wl :: wn :: a :: b :: c :: d :: e :: f :: r)=none:=by
 unfold headW
 simp only []
 split
 ·rename_i e1 e2 e3 e4 e5 e6 e7 e8
  exfalso
  rcases h with h | h | ⟨x,hx,h⟩
  ·rw [h] at e1;cases e1
  ·rw [h] at e2;cases e2
  ·simp only [List.mem_cons,List.not_mem_nil,or_false] at hx
   rcases hx with rfl | rfl | rfl | rfl | rfl | rfl
   ·rw [h] at e3;cases e3
   ·rw [h] at e4;cases e4
   ·rw [h] at e5;cases e5
   ·rw [h] at e6;cases e6
   ·rw [h] at e7;cases e7
   ·rw [h] at e8;cases e8
 ·rfl
theorem headW_some {wl wn a b c d e f:ByteArray} {r:List ByteArray} {n0 n1 n2 n3 n4 n5 l:Int} {nm:ByteArray} (h1:numW wl=some l) (h2:unword wn=some nm) (h3:numW a=some n0) (h4:numW b=some n1) (h5:numW c=some n2) (h6:numW d=some n3) (h7:numW e=some n4) (h8:numW f=some n5) :
  headW (wl :: wn :: a :: b :: c :: d :: e :: f :: r)=some (l,⟨nm,0,eS,eS,n0,n1,n2,n3,n4,n5⟩,r):=by
 unfold headW
 simp only [h1,h2,h3,h4,h5,h6,h7,h8]
theorem headW_len {ws r:List ByteArray} {l:Int} {h:Hd} (e:headW ws=some (l,h,r)):ws.length=8+r.length:=by
 have:=congrArg List.length (headW_back e).1
 simp only [headA,List.length_map,List.length_append,List.length_cons,List.length_nil] at this
 omega
theorem nodeW_other {w0:ByteArray} {ws:List ByteArray} (h0:w0≠wDir) (h1:w0≠wFile) (h2:w0≠wLink):nodeW (w0 :: ws)=none:=by
 unfold nodeW
 rcases kindOf_cases w0 with⟨h,_⟩ | ⟨h,_⟩ | ⟨h,_⟩ | ⟨_,h⟩ | h
 ·exact absurd h h0
 ·exact absurd h h1
 ·exact absurd h h2
 ·unfold lineW
  simp only []
  rw [h,if_pos rfl]
  split
  ·rename_i e
   split at e
   ·split at e
    ·cases e
    ·cases e
   ·cases e
  ·rfl
 ·unfold lineW
  simp only []
  rw [h,if_neg (by decide),if_pos (by decide)]
theorem lineW_node {w0:ByteArray} {ws:List ByteArray} (hk:kindOf w0=0∨kindOf w0=1∨kindOf w0=2):lineW (w0 :: ws)=match headW ws with
  | some (l,h,r)=>
   if kindOf w0=0 then (if r=[] then some (.inr (h,l)) else none)
   else match r with
    | [x]=>match unword x with
     | some s=>if kindOf w0=1 then some (.inr ({ h with kind:=1,data:=s },l)) else some (.inr ({ h with kind:=2,target:=s },l))
     | none=>none
    | _=>none
  | none=>none:=by
 unfold lineW
 simp only []
 rw [if_neg (by omega),if_neg (by omega)]
 rfl
theorem nodeW_none {w0:ByteArray} {ws:List ByteArray} (hk:kindOf w0=0∨kindOf w0=1∨kindOf w0=2) (h:headW ws=none):nodeW (w0 :: ws)=none:=by
 unfold nodeW
 rw [lineW_node hk,h]
theorem nodeW_dir {w0:ByteArray} {ws:List ByteArray} {l:Int} {h:Hd} (hk:kindOf w0=0) (hh:headW ws=some (l,h,[])):nodeW (w0 :: ws)=some (h,l):=by
 unfold nodeW
 rw [lineW_node (Or.inl hk),hh]
 simp only [hk,if_true]
theorem nodeW_file {w0 x:ByteArray} {ws:List ByteArray} {l:Int} {h:Hd} (hk:kindOf w0=1) (hh:headW ws=some (l,h,[x])):nodeW (w0 :: ws)=(unword x).map fun s=>({ h with kind:=1,data:=s },l):=by
 unfold nodeW
 rw [lineW_node (Or.inr (Or.inl hk)),hh]
 simp only [hk]
 cases unword x <;> rfl
theorem nodeW_link {w0 x:ByteArray} {ws:List ByteArray} {l:Int} {h:Hd} (hk:kindOf w0=2) (hh:headW ws=some (l,h,[x])):nodeW (w0 :: ws)=(unword x).map fun s=>({ h with kind:=2,target:=s },l):=by
 unfold nodeW
 rw [lineW_node (Or.inr (Or.inr hk)),hh]
 simp only [hk]
 cases unword x <;> rfl
theorem nodeW_len {w0:ByteArray} {ws:List ByteArray} (h:(kindOf w0=0∧ws.length≠8)∨((kindOf w0=1∨kindOf w0=2)∧ws.length≠9)):nodeW (w0 :: ws)=none:=by
 unfold nodeW
 rw [lineW_node (by rcases h with h | h <;> omega)]
 cases hh:headW ws with
 | none=>rfl
 | some p=>
  obtain⟨l,hd,r⟩:=p
  have hl:=headW_len hh
  rcases h with⟨hk,h⟩ | ⟨hk,h⟩
  ·simp only [hk,if_true]
   rw [if_neg (by intro e;rw [e] at hl;simp at hl;omega)]
  ·have hk0:¬kindOf w0=0:=by omega
   simp only [hk0,if_false]
   match r,hl with
   | [],_=>rfl
   | _ :: _ :: _,_=>rfl
   | [x],hl=>exact absurd hl (by simpa using h)
end Go.Proofs.YtlhakdildbplkaaGreatDoor
