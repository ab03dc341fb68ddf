/- Part of the claim: its words. -/
import Derived.Test.YtlhakdildbplkaaGreatDoorG14
set_option maxRecDepth 100000
set_option maxHeartbeats 4000000
namespace Go.Proofs.YtlhakdildbplkaaGreatDoor
set_option linter.unusedSimpArgs false
set_option linter.unusedVariables false
open Go.RowKit
def kindS (k:Nat):ByteArray:=⟨(kindW (k:Int)).toArray⟩
abbrev kindA:Array Value:=#[.string ⟨#[100,105,114,101,99,116,111,114,121]⟩,.string ⟨#[102,105,108,101]⟩,.string ⟨#[115,121,109,108,105,110,107]⟩]
theorem kind_cell (k:Nat) (h:k < 3):kindA[k]? = some (.string (kindS k)):=by
 match k,h with
 | 0,_=>rfl
 | 1,_=>rfl
 | 2,_=>rfl
def FmtG (s:List UInt8) (t:Tr):Prop:=s.length≤65536∧(0≤t.h.kind∧t.h.kind < 3)∧I64 t.h.mode∧I64 t.h.uid∧I64 t.h.gid∧I64 t.h.time∧I64 t.h.weight∧I64 t.h.hidden
def FmtI (W0:World) (b:Nat) (s:List UInt8) (O:Nat→Prop) (w:World):Prop:=∃v,BR W0.heap.size b s v w∧(∀j,O j↔(j=b∨v.ownBlock=some j))∧Below W0.heap.size W0 w
def itoaB (n:Int):ByteArray:=⟨(Lib.itoa n).toArray⟩
def numsL (h:Hd):List Int:=[h.mode,h.uid,h.gid,h.time,h.weight,h.hidden]
def tailW (h:Hd):List ByteArray:=if h.kind=1 then [wordS h.data] else if h.kind=2 then [wordS h.target] else []
def hdW (t:Tr) (l κ:Nat):List ByteArray:=[kindS κ,itoaB (l:Int),wordS t.h.name]++(numsL t.h).map itoaB++tailW t.h
theorem node_line (t:Tr) (l κ:Nat) (h:t.h.kind=(κ:Int)):lineS (hdW t l κ)++t.ss.flatMap strmL=nodeL t l:=by
 unfold nodeL lineS hdW tailL tailW headL numsL
 have hk:(kindS κ).data.toList=kindW t.h.kind:=by rw [h];rfl
 have hi:∀n,(itoaB n).data.toList=Lib.itoa n:=fun n=>rfl
 split
 ·simp [Lib.join_cons,Lib.joinTail,hk,hi,spI,spW]
 ·split
  ·simp [Lib.join_cons,Lib.joinTail,hk,hi,spI,spW]
  ·simp [Lib.join_cons,Lib.joinTail,hk,hi,spI,spW]
theorem lit_own {w:World} {B x:Nat} {cs:Array Value} {n:Nat} (hB:B≤x) (h:Blk w x cs 9) (hn:cs.size=n) (hm:n≤maxLen):w.ownsRow B 9 1 (.slice (some ⟨x,0,none⟩) n n) n cs.toList:=
 ⟨by rw [Array.length_toList,hn,Nat.mul_one],Or.inr ⟨x,n,cs,rfl,hB,h,Nat.le_refl _,hm,by rw [hn,Nat.mul_one],by rw [List.take_of_length_le (by rw [Array.length_toList,hn,Nat.mul_one];exact Nat.le_refl _)]⟩⟩
theorem SrsR_below {w w':World} {B:Nat} {v:Value} {l:List ByteArray} (h:StrsR w B v l) (hb:Below w.heap.size w w'):StrsR w' B v l:=below_row' h hb
theorem wordS_len (x:ByteArray):(wordS x).data.toList.length≤3*x.size+1:=by
 unfold wordS
 split
 ·show 1≤_;omega
 ·have:=(wordL_len x.data.toList).2
  have e:x.data.toList.length=x.size:=Array.length_toList
  show(wordL x.data.toList).toArray.toList.length≤_
  rw [List.toList_toArray]
  omega
theorem strm_len (s:St):(strmL s).length≤20+3*(s.1.size+s.2.size):=by
 have h1:=wordS_len s.1
 have h2:=wordS_len s.2
 unfold strmL spW
 simp only [List.length_append,List.length_cons,List.length_nil]
 omega
theorem strms_len:∀ss:List St,(ss.flatMap strmL).length≤3*szS ss
 | []=>Nat.le_refl _
 | s :: l=>by
  have h1:=strm_len s
  have h2:=strms_len l
  rw [List.flatMap_cons,List.length_append]
  show _≤3*(20+s.1.size+s.2.size+szS l)
  omega
theorem nodeL_len (t:Tr) (l:Nat) (hsz:t.sz≤60000) (hr:I64 t.h.mode∧I64 t.h.uid∧I64 t.h.gid∧I64 t.h.time∧I64 t.h.weight∧I64 t.h.hidden) (hl:l≤100000000):(nodeL t l).length≤900000:=by
 have hi:∀n,I64 n→(spI n).length≤22:=fun n h=>by
  have:=Lib.itoa_length_le n h.1 h.2
  unfold spI
  rw [List.length_cons]
  omega
 obtain⟨r1,r2,r3,r4,r5,r6⟩:=hr
 have a0:=hi l ⟨by omega,by omega⟩
 have a1:=hi _ r1;have a2:=hi _ r2;have a3:=hi _ r3;have a4:=hi _ r4;have a5:=hi _ r5;have a6:=hi _ r6
 have b1:=wordS_len t.h.name
 have b2:=wordS_len t.h.data
 have b3:=wordS_len t.h.target
 have c1:=strms_len t.ss
 have k1:(kindW t.h.kind).length≤9:=by unfold kindW;(repeat' split) <;> decide
 have hq:t.h.sz=20+t.h.name.size+t.h.data.size+t.h.target.size:=rfl
 have ht:t.sz=t.h.sz+szS t.ss+t.ks.sz:=rfl
 have t1:(tailL t.h).length≤3*(t.h.data.size+t.h.target.size)+10:=by
  unfold tailL
  split
  ·unfold spW;rw [List.length_cons];omega
  ·split
   ·unfold spW;rw [List.length_cons];omega
   ·simp
 unfold nodeL headL spW
 simp only [List.length_append,List.length_cons,List.length_nil]
 omega
abbrev strmS:ByteArray:=⟨#[115,116,114,101,97,109]⟩
theorem strm_line (s:St):lineS [strmS,wordS s.1,wordS s.2]=strmL s:=by
 unfold lineS strmL spW strmS
 simp [Lib.join_cons,Lib.joinTail]
def InvS (W6:World) (d:Nat) (sx:St) (z:World):Prop:=Below W6.heap.size W6 z∧Blk z d (strC sx) 69
theorem InvS.below {W6 z z':World} {d:Nat} {sx:St} (h:InvS W6 d sx z) (hb:Below z.heap.size z z'):InvS W6 d sx z':=⟨h.1.trans (hb.mono h.1.size),Blk.below hb h.2⟩
theorem InvS.alloc {W6 z:World} {d:Nat} {sx:St} (h:InvS W6 d sx z) (o:Obj):InvS W6 d sx (z.alloc o):=h.below ((Below.refl _ _).alloc (Nat.le_refl _) o)
theorem fmt1_any (W0:World) (hT:TabP W0) (b:Nat) (s:List UInt8) (t:Tr) (p:ByteArray) (l:Nat) (v:Value) (O:Nat→Prop) (w:World) (hG:FmtG s t) (hsz:t.sz≤60000) (hl:l≤100000000) (hI:FmtI W0 b s O w) (hBw:W0.heap.size≤w.heap.size) (hv:TreeR w W0.heap.size v t) :
  Calls Tryz.prog 81 #[v,.string p,.int .i64 (l:Int),.pointer (some ⟨b,0,none⟩)] w fun e w'=>e=.returned (.bool (decide ((s++nodeL t l).length≤65536)))∧(∃O',FmtI W0 b (s++nodeL t l) O' w'∧∀j,O' j→O j∨w.heap.size≤j)∧FrO O w w':=by
 obtain⟨bv,hB,hO,hb0⟩:=hI
 obtain⟨hs,⟨hk0,hk3⟩,i1,i2,i3,i4,i5,i6⟩:=hG
 obtain⟨A,c,A2,c2,rfl,-,hst⟩:=hv.openL
 have HST:=hide hst
 have HB:=hide hB
 have HO:=hide hO
 have HV:=hide hv
 obtain⟨κ,hκ⟩:∃ κ:Nat,t.h.kind=(κ:Int):=⟨t.h.kind.toNat,by omega⟩
 have hκ3:κ < 3:=by omega
 have hKC:=kind_cell κ hκ3
 have HKC:=hide hKC
 have HTP:=hide (hT.below hb0)
 have HGR:=hide (And.intro i1 (And.intro i2 (And.intro i3 (And.intro i4 (And.intro i5 i6)))))
 have HI1:=hide i1;have HI2:=hide i2;have HI3:=hide i3;have HI4:=hide i4;have HI5:=hide i5;have HI6:=hide i6
 have HK:=hide hκ
 have hnm:t.h.name.size≤1000000:=by unfold Tr.sz Hd.sz at hsz;omega
 clear hv hst hB hO i1 i2 i3 i4 i5 i6 hKC hκ hk0 hk3 hT
 have HL:Live w []:=trivial
 go_enter Tryz.func81,Tryz.ntmps81
 go_upto_region 1 with fail
 have HN:=hide (NodeB.new w t.h (.slice A t.ks.len c) (.slice A2 t.ss.length c2))
 have hbel1:Below w.heap.size w (w.alloc (.cells (t.h.cells (.slice A t.ks.len c) (.slice A2 t.ss.length c2)) 25)):=by(exact bl)
 have hz1:(w.alloc (.cells (t.h.cells (.slice A t.ks.len c) (.slice A2 t.ss.length c2)) 25)).heap.size=w.heap.size+1:=World.size_alloc ..
 generalize w.alloc (.cells (t.h.cells (.slice A t.ks.len c) (.slice A2 t.ss.length c2)) 25)=W1 at *
 obtain⟨nb,hnb⟩:∃nb,nb=w.heap.size:=⟨_,rfl⟩
 rw [←hnb] at HN ⊢
 have HN0:=hide (show w.heap.size≤nb by omega)
 have hT1:=HTP.out.below hbel1
 have c1:W1.cell? ⟨nb,1,none⟩=some (.int .i64 (κ:Int)):=by rw [HN.out.blk.cells 1,←HK.out];rfl
 have c0:=HN.out.c0
 have IT:=hide (fun W hW=>itoa_any (l:Int) ⟨by omega,by omega⟩ W hW)
 have WD:=hide (fun W=>word_any t.h.name hnm W)
 have hnbl:nb < W1.heap.size:=by omega
 have hk0:(0:Int)≤(κ:Int):=by omega
 have hk3:(κ:Int) < 3:=by omega
 clear hnb
 refine' region_linF (RL:=LB 3 _ _ :: LV _ :: LV _ :: LI _ _ _ :: LV _ :: LV _ :: LV _ :: LV _ :: LV _ :: LV _ :: LN _ 3 _ _ :: LN _ _ _ _ :: []) (by kernel_rfl) (by kernel_rfl) ?main
 case main=>
  refine⟨fun u=>?_,?_,?_,?_⟩
  ·simp only [putsL,Act.put,List.setIfInBounds_toArray,List.set_cons_zero,List.set_cons_succ,Nat.reduceAdd]
   rfl
  ·repeat (first | exact LAll.nil | refine LAll.cons (by first | exact LV.st _ | exact LB.st _ _ _ | exact LN.st _ _ _ _ | exact LI.st _ _ _ | exact LP.st _ _ | exact LT.st) ?_)
  ·refine LinStepsF.cons (fun u wx hbx hd K hK=>?_) ?_
   ·(have c1x:=(hbx.cell (p:=⟨nb,1,none⟩) hnbl).trans c1;have c0x:=(hbx.cell (p:=⟨nb,0,none⟩) hnbl).trans c0;have hTx:=hT1.below hbx)
    go_simp
    refine hK.out _ _ (by simp only [PT];rfl) bl lbC
   refine LinStepsF.cons (fun u wx hbx hd K hK=>?_) ?_
   ·(have c1x:=(hbx.cell (p:=⟨nb,1,none⟩) hnbl).trans c1;have c0x:=(hbx.cell (p:=⟨nb,0,none⟩) hnbl).trans c0;have hTx:=hT1.below hbx)
    go_simp
    refine hK.out _ _ (by simp only [PT];rfl) bl lvC
   refine LinStepsF.cons (fun u wx hbx hd K hK=>?_) ?_
   ·have e1:u 1=_:=(show LV _ (u 1) wx from hd.out 1 (by kernel_rfl))
    (have c1x:=(hbx.cell (p:=⟨nb,1,none⟩) hnbl).trans c1;have c0x:=(hbx.cell (p:=⟨nb,0,none⟩) hnbl).trans c0;have hTx:=hT1.below hbx)
    go_simp
    refine hK.out _ _ (by simp only [PT,e1];rfl) bl lvC
   refine LinStepsF.cons (fun u wx hbx hd K hK=>?_) ?_
   ·obtain⟨x0,e0,b0⟩:=(show LB _ _ _ (u 0) wx from hd.out 0 (by kernel_rfl))
    have e2:u 2=_:=(show LV _ (u 2) wx from hd.out 2 (by kernel_rfl))
    (have c1x:=(hbx.cell (p:=⟨nb,1,none⟩) hnbl).trans c1;have c0x:=(hbx.cell (p:=⟨nb,0,none⟩) hnbl).trans c0;have hTx:=hT1.below hbx)
    go_simp
    refine hK.out _ _ (by simp only [PT,e0,e2];rfl) bl (by(show LI _ _ _ _ _);refine⟨x0,?_,?_⟩;rotate_left;exact b0;unfold outOf;go_simp;exact rfl)
   refine LinStepsF.cons (fun u wx hbx hd K hK=>?_) ?_
   ·obtain⟨x3,e3,b3⟩:=(show LI _ _ _ (u 3) wx from hd.out 3 (by kernel_rfl))
    (have c1x:=(hbx.cell (p:=⟨nb,1,none⟩) hnbl).trans c1;have c0x:=(hbx.cell (p:=⟨nb,0,none⟩) hnbl).trans c0;have hTx:=hT1.below hbx)
    (have cc:=(b3.cells κ).trans HKC.out;go_simp)
    refine hK.out _ _ (by simp only [PT,e3];rfl) bl lvC
   refine LinStepsF.cons (fun u wx hbx hd K hK=>?_) ?_
   ·(have c1x:=(hbx.cell (p:=⟨nb,1,none⟩) hnbl).trans c1;have c0x:=(hbx.cell (p:=⟨nb,0,none⟩) hnbl).trans c0;have hTx:=hT1.below hbx)
    go_simp
    refine hK.out _ _ (by simp only [PT];rfl) bl lvC
   refine LinStepsF.cons (fun u wx hbx hd K hK=>?_) ?_
   ·have e5:u 5=_:=(show LV _ (u 5) wx from hd.out 5 (by kernel_rfl))
    (have c1x:=(hbx.cell (p:=⟨nb,1,none⟩) hnbl).trans c1;have c0x:=(hbx.cell (p:=⟨nb,0,none⟩) hnbl).trans c0;have hTx:=hT1.below hbx)
    go_simp
    (go_at_call 82;(with_reducible refine(IT.out _ hTx).mono ?_);rintro e w' ⟨rfl,hb⟩)
    go_wp2_with fail
    refine hK.out _ _ (by simp only [PT,e5];rfl) bl lvC
   refine LinStepsF.cons (fun u wx hbx hd K hK=>?_) ?_
   ·(have c1x:=(hbx.cell (p:=⟨nb,1,none⟩) hnbl).trans c1;have c0x:=(hbx.cell (p:=⟨nb,0,none⟩) hnbl).trans c0;have hTx:=hT1.below hbx)
    go_simp
    refine hK.out _ _ (by simp only [PT];rfl) bl lvC
   refine LinStepsF.cons (fun u wx hbx hd K hK=>?_) ?_
   ·have e7:u 7=_:=(show LV _ (u 7) wx from hd.out 7 (by kernel_rfl))
    (have c1x:=(hbx.cell (p:=⟨nb,1,none⟩) hnbl).trans c1;have c0x:=(hbx.cell (p:=⟨nb,0,none⟩) hnbl).trans c0;have hTx:=hT1.below hbx)
    go_simp
    refine hK.out _ _ (by simp only [PT,e7];rfl) bl lvC
   refine LinStepsF.cons (fun u wx hbx hd K hK=>?_) ?_
   ·have e6:u 6=_:=(show LV _ (u 6) wx from hd.out 6 (by kernel_rfl))
    have e8:u 8=_:=(show LV _ (u 8) wx from hd.out 8 (by kernel_rfl))
    (have c1x:=(hbx.cell (p:=⟨nb,1,none⟩) hnbl).trans c1;have c0x:=(hbx.cell (p:=⟨nb,0,none⟩) hnbl).trans c0;have hTx:=hT1.below hbx)
    go_simp
    (go_at_call 83;(with_reducible refine(WD.out _).mono ?_);rintro e w' ⟨rfl,hb⟩)
    go_wp2_with fail
    refine hK.out _ _ (by simp only [PT,e6,e8];rfl) bl lvC
   refine LinStepsF.cons (fun u wx hbx hd K hK=>?_) ?_
   ·have e4:u 4=_:=(show LV _ (u 4) wx from hd.out 4 (by kernel_rfl))
    have e6:u 6=_:=(show LV _ (u 6) wx from hd.out 6 (by kernel_rfl))
    have e9:u 9=_:=(show LV _ (u 9) wx from hd.out 9 (by kernel_rfl))
    (have c1x:=(hbx.cell (p:=⟨nb,1,none⟩) hnbl).trans c1;have c0x:=(hbx.cell (p:=⟨nb,0,none⟩) hnbl).trans c0;have hTx:=hT1.below hbx)
    go_simp
    refine hK.out _ _ (by simp only [PT,e4,e6,e9];rfl) bl lnC
   refine LinStepsF.cons (fun u wx hbx hd K hK=>?_) ?_
   ·obtain⟨x0,e0,b0⟩:=(show LB _ _ _ (u 0) wx from hd.out 0 (by kernel_rfl))
    have e1:u 1=_:=(show LV _ (u 1) wx from hd.out 1 (by kernel_rfl))
    have e2:u 2=_:=(show LV _ (u 2) wx from hd.out 2 (by kernel_rfl))
    obtain⟨x3,e3,b3⟩:=(show LI _ _ _ (u 3) wx from hd.out 3 (by kernel_rfl))
    have e4:u 4=_:=(show LV _ (u 4) wx from hd.out 4 (by kernel_rfl))
    have e5:u 5=_:=(show LV _ (u 5) wx from hd.out 5 (by kernel_rfl))
    have e6:u 6=_:=(show LV _ (u 6) wx from hd.out 6 (by kernel_rfl))
    have e7:u 7=_:=(show LV _ (u 7) wx from hd.out 7 (by kernel_rfl))
    have e8:u 8=_:=(show LV _ (u 8) wx from hd.out 8 (by kernel_rfl))
    have e9:u 9=_:=(show LV _ (u 9) wx from hd.out 9 (by kernel_rfl))
    obtain⟨x10,h10,e10,b10⟩:=(show LN _ _ _ _ (u 10) wx from hd.out 10 (by kernel_rfl))
    (have c1x:=(hbx.cell (p:=⟨nb,1,none⟩) hnbl).trans c1;have c0x:=(hbx.cell (p:=⟨nb,0,none⟩) hnbl).trans c0;have hTx:=hT1.below hbx)
    go_simp
    refine hK.out _ _ (by simp only [PT,e0,e1,e2,e3,e4,e5,e6,e7,e8,e9,e10];rfl) bl (by(show LN _ _ _ _ _ _);refine⟨x10,?_,?_,?_⟩;exact h10;rotate_left;exact b10;unfold outOf;go_simp;exact rfl)
   exact LinStepsF.nil
  ·intro u wx hbx hall
   obtain⟨x,hx,e11,bx⟩:=(show LN _ _ _ _ (u 11) wx from hall.out 11 (by decide))
   have HO1:=hide (show StrsR wx w.heap.size (.slice (some ⟨x,0,none⟩) 3 3) [kindS κ,itoaB (l:Int),wordS t.h.name] from lit_own (by omega) bx rfl (by decide))
   have hbelx:=hbel1.trans (hbx.mono (by omega))
   have HNx:=hide (HN.out.below hbx)
   have HTx:=hide (hT1.below hbx)
   rw [e11]
   clear hall e11 bx hx HN c1 c0 hT1 hbx IT WD
   have g4:wx.cell? ⟨nb,4,none⟩=some (.int .i64 t.h.mode):=HNx.out.blk.cells 4
   have g5:wx.cell? ⟨nb,5,none⟩=some (.int .i64 t.h.uid):=HNx.out.blk.cells 5
   have g6:wx.cell? ⟨nb,6,none⟩=some (.int .i64 t.h.gid):=HNx.out.blk.cells 6
   have g7:wx.cell? ⟨nb,7,none⟩=some (.int .i64 t.h.time):=HNx.out.blk.cells 7
   have g8:wx.cell? ⟨nb,8,none⟩=some (.int .i64 t.h.weight):=HNx.out.blk.cells 8
   have g9:wx.cell? ⟨nb,9,none⟩=some (.int .i64 t.h.hidden):=HNx.out.blk.cells 9
   have hzx:=hbelx.size
   have hnbx:nb < wx.heap.size:=HNx.out.blk.lt
   go_upto_block 0 with fail
   have hby:Below w.heap.size w (wx.alloc (.cells #[.int .i64 t.h.mode,.int .i64 t.h.uid,.int .i64 t.h.gid,.int .i64 t.h.time,.int .i64 t.h.weight,.int .i64 t.h.hidden] 3)):=hbelx.alloc hzx _
   have hbxy:Below wx.heap.size wx (wx.alloc (.cells #[.int .i64 t.h.mode,.int .i64 t.h.uid,.int .i64 t.h.gid,.int .i64 t.h.time,.int .i64 t.h.weight,.int .i64 t.h.hidden] 3)):=(Below.refl _ _).alloc (Nat.le_refl _) _
   have HY:=hide (show Blk (wx.alloc (.cells #[.int .i64 t.h.mode,.int .i64 t.h.uid,.int .i64 t.h.gid,.int .i64 t.h.time,.int .i64 t.h.weight,.int .i64 t.h.hidden] 3)) wx.heap.size (((numsL t.h).map (Value.int .i64)).toArray) 3 from Blk.newAt rfl)
   have HO2:=hide (SrsR_below HO1.out hbxy)
   have HN2:=hide (HNx.out.below hbxy)
   have HT2:=hide (HTx.out.below hbxy)
   have hz2:=hby.size
   generalize wx.alloc (.cells #[.int .i64 t.h.mode,.int .i64 t.h.uid,.int .i64 t.h.gid,.int .i64 t.h.time,.int .i64 t.h.weight,.int .i64 t.h.hidden] 3)=W2 at *
   have HYL:=hide hzx
   generalize wx.heap.size=y at *
   have hnums:∀n∈numsL t.h,I64 n:=by
    intro n hn
    unfold numsL at hn
    simp at hn
    rcases hn with rfl | rfl | rfl | rfl | rfl | rfl
    ·exact HI1.out
    ·exact HI2.out
    ·exact HI3.out
    ·exact HI4.out
    ·exact HI5.out
    ·exact HI6.out
   have HNU:=hide hnums
   have hl6:(numsL t.h).length=6:=rfl
   have HL6:=hide hl6
   clear g4 g5 g6 g7 g8 g9 HI1 HI2 HI3 HI4 HI5 HI6 HO1 HNx HTx hbxy hnums hbelx
   clear hl6
   go_wp2_with fail
   go_loopw [8,38] (fun ws i wr=>∃(k:Nat) (L:List ByteArray),i=.int .i64 (k:Int)∧k≤6∧L=[kindS κ,itoaB (l:Int),wordS t.h.name]++((numsL t.h).take k).map itoaB∧L.length=3+k∧StrsR wr w.heap.size ws L∧Blk wr y (((numsL t.h).map (Value.int .i64)).toArray) 3∧NodeB wr nb t.h (.slice A t.ks.len c) (.slice A2 t.ss.length c2)∧TabP wr∧Below w.heap.size w wr) (fun _ i _=>6 - (intOf i).toNat)
   case atStart=>exact⟨0,_,rfl,by omega,rfl,rfl,HO2.out,HY.out,HN2.out,HT2.out,hby⟩
   case round=>
    clear HO2 HY HN2 HT2 hby hz2
    obtain⟨k,L,rfl,hk,hL,hLl,hws,hY,hN,hTr,hbel⟩:=hrel
    have HWS:=hide hws
    have HY:=hide hY
    have HN:=hide hN
    have HT:=hide hTr
    have HL:=hide hL
    have HLL:=hide hLl
    have hLb:L.length≤20:=by omega
    clear hLl
    have hsz3:=hbel.size
    obtain⟨Aw,cw,rfl⟩:=own_slice hws
    clear hws hY hN hTr hL
    by_cases hlt:k < 6
    case pos=>
     obtain⟨n,hn⟩:∃n,(numsL t.h)[k]? = some n:=⟨_,List.getElem?_eq_getElem (by rw [HL6.out];exact hlt)⟩
     have HIN:=hide (HNU.out n (List.mem_of_getElem? hn))
     have c1:wr.cell? ⟨y,k,none⟩=some (.int .i64 n):=(HY.out.cells k).trans (by rw [List.getElem?_toArray,List.getElem?_map,hn];rfl)
     have HTK:=hide (show L++[itoaB n]=[kindS κ,itoaB (l:Int),wordS t.h.name]++((numsL t.h).take (k+1)).map itoaB by rw [HL.out,List.take_add_one,hn];simp)
     have IT:=hide (show Calls Tryz.prog 82 #[.int .i64 n] wr fun e w'=>e=.returned (.string (itoaB n))∧Below wr.heap.size wr w' from itoa_any n HIN.out wr HT.out)
     have hnw:w.heap.size≤nb:=HN0.out
     have hyw:=HYL.out
     clear hn
     go_wp2_with (first | (go_at_call 82;refine IT.out.mono ?_;rintro e w3 ⟨rfl,hb3⟩) | (at_builtin;refine wpList_append_blk _ rfl _ _ 38 rfl w.heap.size 9 strInfo Tryz.underlying38 rfl (by decide) (.slice Aw L.length cw) _ _ ((SrsR_below HWS.out hb3).alloc _) w3.heap.size #[.string (itoaB n)] (Blk.newAt rfl) rfl rfl rfl (by simp [Value.oneCell']) (by unfold maxLen;omega) (by omega) (by rw [World.size_alloc];have:=hb3.size;omega) ?_;intro v2 w4 hown4 hnb4 hg4;obtain⟨A4,c4,hv4⟩:=own_slice hown4;subst hv4))
     have hz3:=hb3.size
     have hrow:∀j,(Value.slice Aw L.length cw).ownBlock=some j→w.heap.size≤j:=fun j hj=>(HWS.out.lt j hj).1
     have hb4:Below w.heap.size w w4:=by
      refine((hbel.trans (hb3.mono hsz3)).alloc (by omega) _).grown hg4 (by rw [World.size_alloc];omega) fun j hj=>hrow j hj
     have ha3:Below wr.heap.size wr (w3.alloc (.cells #[.string (itoaB n)] 9)):=hb3.alloc hz3 _
     have hYn:(Value.slice Aw L.length cw).ownBlock≠some y:=own_neBlk HWS.out HY.out (by decide)
     have hNn:(Value.slice Aw L.length cw).ownBlock≠some nb:=own_neBlk HWS.out HN.out.blk (by decide)
     have HY4:=hide ((hg4.block y (by have:=(HY.out.below ha3).lt;exact this) (fun e=>hYn e.symm)).trans (Blk.below ha3 HY.out))
     have HN4:=hide (NodeB.mk ((hg4.block nb (by have:=(Blk.below ha3 HN.out.blk).lt;exact this) (fun e=>hNn e.symm)).trans (Blk.below ha3 HN.out.blk)))
     have HT4:=hide (HTP.out.below hb4)
     have hown5:w4.ownsRow w.heap.size 9 1 (.slice A4 (L.length+1) c4) (L.length+1) (strV (L++[itoaB n])):=by rw [←strV_snoc];exact hown4
     clear IT HWS HY HN HT HL hown4 hnb4 hg4 ha3
     go_roundw
     case rel=>exact⟨k+1,L++[itoaB n],by go_num,by omega,HTK.out,by rw [List.length_append,HLL.out];show 3+k+1=_;omega,by unfold StrsR;rw [List.length_append];exact hown5,HY4.out,HN4.out,HT4.out,hb4⟩
     case measure=>simp [intOf];omega
    case neg=>
     obtain rfl:k=6:=by omega
     have k1:wr.cell? ⟨nb,1,none⟩=some (.int .i64 (κ:Int)):=by rw [HN.out.blk.cells 1,←HK.out];rfl
     have HLE:=hide (show hdW t l κ=L++tailW t.h by rw [HL.out];rfl)
     go_upto_block 2 with fail
     go_cut [8] from 50 (fun ws wc=>∃L':List ByteArray,StrsR wc w.heap.size ws L'∧L'=hdW t l κ∧0 < L'.length∧L'.length≤30∧Below w.heap.size w wc∧NodeB wc nb t.h (.slice A t.ks.len c) (.slice A2 t.ss.length c2))
     case first=>
      have hκ:κ=0∨κ=1∨κ=2:=by omega
      rcases hκ with rfl | rfl | rfl
      ·go_wp2_with fail
       go_meet
       exact⟨L,HWS.out,by rw [HLE.out];unfold tailW;rw [HK.out];exact(List.append_nil _).symm,by have:=HLL.out;omega,by omega,hbel,HN.out⟩
      ·skip
       have k2:wr.cell? ⟨nb,2,none⟩=some (.string t.h.data):=HN.out.blk.cells 2
       have hds:t.h.data.size≤1000000:=by unfold Tr.sz Hd.sz at hsz;omega
       have WD:=hide (word_any t.h.data hds wr)
       go_wp2_with (first | (go_at_call 83;refine WD.out.mono ?_;rintro e w3 ⟨rfl,hb3⟩) | (at_builtin;refine wpList_append_blk _ rfl _ _ 38 rfl w.heap.size 9 strInfo Tryz.underlying38 rfl (by decide) (.slice Aw L.length cw) _ _ ((SrsR_below HWS.out hb3).alloc _) w3.heap.size #[.string (wordS t.h.data)] (Blk.newAt rfl) rfl rfl rfl (by simp [Value.oneCell']) (by unfold maxLen;omega) (by omega) (by rw [World.size_alloc];have:=hb3.size;omega) ?_;intro v2 w4 hown4 hnb4 hg4;obtain⟨A4,c4,hv4⟩:=own_slice hown4;subst hv4))
       go_meet
       have hz3:=hb3.size
       have hrow:∀j,(Value.slice Aw L.length cw).ownBlock=some j→w.heap.size≤j:=fun j hj=>(HWS.out.lt j hj).1
       have hb4:Below w.heap.size w w4:=by
        refine((hbel.trans (hb3.mono hsz3)).alloc (by omega) _).grown hg4 (by rw [World.size_alloc];omega) fun j hj=>hrow j hj
       have ha3:Below wr.heap.size wr (w3.alloc (.cells #[.string (wordS t.h.data)] 9)):=hb3.alloc hz3 _
       have hNn:(Value.slice Aw L.length cw).ownBlock≠some nb:=own_neBlk HWS.out HN.out.blk (by decide)
       refine⟨L++[wordS t.h.data],?_,by rw [HLE.out];unfold tailW;rw [HK.out];rfl,by rw [List.length_append];show 0 < L.length+1;omega,by rw [List.length_append];show L.length+1≤30;omega,hb4,NodeB.mk ((hg4.block nb (by have:=(Blk.below ha3 HN.out.blk).lt;exact this) (fun e=>hNn e.symm)).trans (Blk.below ha3 HN.out.blk))⟩
       unfold StrsR
       rw [List.length_append,←strV_snoc]
       exact hown4
      ·skip
       have k2:wr.cell? ⟨nb,3,none⟩=some (.string t.h.target):=HN.out.blk.cells 3
       have hds:t.h.target.size≤1000000:=by unfold Tr.sz Hd.sz at hsz;omega
       have WD:=hide (word_any t.h.target hds wr)
       go_wp2_with (first | (go_at_call 83;refine WD.out.mono ?_;rintro e w3 ⟨rfl,hb3⟩) | (at_builtin;refine wpList_append_blk _ rfl _ _ 38 rfl w.heap.size 9 strInfo Tryz.underlying38 rfl (by decide) (.slice Aw L.length cw) _ _ ((SrsR_below HWS.out hb3).alloc _) w3.heap.size #[.string (wordS t.h.target)] (Blk.newAt rfl) rfl rfl rfl (by simp [Value.oneCell']) (by unfold maxLen;omega) (by omega) (by rw [World.size_alloc];have:=hb3.size;omega) ?_;intro v2 w4 hown4 hnb4 hg4;obtain⟨A4,c4,hv4⟩:=own_slice hown4;subst hv4))
       go_meet
       have hz3:=hb3.size
       have hrow:∀j,(Value.slice Aw L.length cw).ownBlock=some j→w.heap.size≤j:=fun j hj=>(HWS.out.lt j hj).1
       have hb4:Below w.heap.size w w4:=by
        refine((hbel.trans (hb3.mono hsz3)).alloc (by omega) _).grown hg4 (by rw [World.size_alloc];omega) fun j hj=>hrow j hj
       have ha3:Below wr.heap.size wr (w3.alloc (.cells #[.string (wordS t.h.target)] 9)):=hb3.alloc hz3 _
       have hNn:(Value.slice Aw L.length cw).ownBlock≠some nb:=own_neBlk HWS.out HN.out.blk (by decide)
       refine⟨L++[wordS t.h.target],?_,by rw [HLE.out];unfold tailW;rw [HK.out];rfl,by rw [List.length_append];show 0 < L.length+1;omega,by rw [List.length_append];show L.length+1≤30;omega,hb4,NodeB.mk ((hg4.block nb (by have:=(Blk.below ha3 HN.out.blk).lt;exact this) (fun e=>hNn e.symm)).trans (Blk.below ha3 HN.out.blk))⟩
       unfold StrsR
       rw [List.length_append,←strV_snoc]
       exact hown4
     case rest=>
     clear HWS HY HN HT HL HLL HLE
     obtain⟨L',hws,hLe,hp,hlb,hbelc,hNc⟩:=hcut
     obtain⟨Ac,cc,rfl⟩:=own_slice hws
     have HNL:=hide (node_line t l κ HK.out)
     rw [←hLe] at HNL
     have hnl:=nodeL_len t l hsz HGR.out hl
     have hll:(lineS L').length≤1000000:=by rw [←HNL.out,List.length_append] at hnl;omega
     have LNC:=hide (line_any L' _ w.heap.size wc hws hp (by omega) (by omega))
     have hszc:=hbelc.size
     have HBc:=hide (HB.out.below hbelc)
     have HNc:=hide hNc
     have hbl:b < w.heap.size:=HB.out.lt
     clear hws hLe hNc
     go_upto_region 13 with (first | (go_at_call 85;refine LNC.out.mono ?_;rintro e w5 ⟨rfl,hb5⟩) | (go_at_call 84;refine(ws_any W0.heap.size b s bv ⟨(lineS L').toArray⟩ _ (HBc.out.below hb5) (by show s.length+(Array.size _)≤_;rw [List.size_toArray];omega) (by have:=hb5.size;omega)).mono ?_;rintro e w6 ⟨rfl,v6,hB6,hv6,hf6⟩))
     have hbel5:=hbelc.trans (hb5.mono hszc)
     have hf06:FrO (fun j=>j=b∨bv.ownBlock=some j) w w6:=(FrO.of (O:=fun j=>j=b∨bv.ownBlock=some j) hbel5).trans hf6 (fun j h=>Or.inl h)
     have hrow0:=fun j hj=>(HB.out.row j hj).2.1
     have HN6:=hide (hf6.blk (Blk.below hb5 HNc.out.blk) (fun e=>by
      rcases e with e | e
      ·have:=HN0.out;omega
      ·have:=hrow0 nb e;have:=HN0.out;omega))
     have hv06:∀j,v6.ownBlock=some j→bv.ownBlock=some j∨w.heap.size≤j:=fun j hj=>(hv6 j hj).imp id (fun h=>by have:=hbel5.size;omega)
     have k11:w6.cell? ⟨nb,11,none⟩=some (.slice A2 t.ss.length c2):=HN6.out.cells 11
     have HB6:=hide hB6
     have hge:=HB.out.ge
     have hrow1:=fun j hj=>(HB.out.row j hj).1
     clear LNC HBc HNc hf6 hv6 hb5 hB6 hbel hbelc hbel5
     go_upto_block 3 with fail
     clear k11 HN6
     go_wp2_with fail
     go_loopw [72] (fun i wr=>∃(k:Nat) (v:Value),i=.int .i64 (k:Int)∧k≤t.ss.length∧BR W0.heap.size b (s++lineS L'++(t.ss.take k).flatMap strmL) v wr∧(∀j,v.ownBlock=some j→bv.ownBlock=some j∨w.heap.size≤j)∧FrO (fun j=>j=b∨bv.ownBlock=some j) w wr) (fun i _=>t.ss.length - (intOf i).toNat)
     case atStart=>exact⟨0,v6,rfl,Nat.zero_le _,by simpa using HB6.out,hv06,hf06⟩
     case round=>
      clear HB6 hv06 hf06
      obtain⟨k,v,rfl,hk,hBr,hv,hfr⟩:=hrel
      have HBr:=hide hBr
      have HVr:=hide hv
      have HFr:=hide hfr
      have hlo:∀j,(j=b∨bv.ownBlock=some j)→W0.heap.size≤j:=fun j hj=>hj.elim (fun e=>by rw [e];exact hge) (hrow1 j)
      have hzr:=hfr.size
      have hbW:Below W0.heap.size w wr:=hfr.below hBw hlo
      clear hBr hv hfr
      by_cases hlt:k < t.ss.length
      case neg=>
       obtain rfl:k=t.ss.length:=by omega
       have hfull:s++lineS L'++(t.ss.take t.ss.length).flatMap strmL=s++nodeL t l:=by rw [List.take_length,List.append_assoc,HNL.out]
       have HB7:=hide (show BR W0.heap.size b (s++nodeL t l) v wr by rw [←hfull];exact HBr.out)
       obtain⟨n,hnn⟩:∃n,(s++nodeL t l).length=n:=⟨_,rfl⟩
       have LEN0:=blen_any W0.heap.size b _ v wr HB7.out
       rw [hnn] at LEN0
       have LEN:=hide LEN0
       have HNN:=hide hnn
       clear hfull LEN0 hnn
       by_cases hn:n≤65536
       ·have hq:decide ((n:Int)≤65536)=true:=decide_eq_true (by omega)
        have HD:=hide (show decide (n≤65536)=true from decide_eq_true hn)
        go_wp2_with (go_at_call 86;refine LEN.out.mono ?_;rintro e w7 ⟨rfl,rfl⟩)
        go_ret
        refine⟨ret_b (by rw [HNN.out];exact HD.out.symm),⟨fun j=>j=b∨v.ownBlock=some j,⟨v,HB7.out,fun j=>Iff.rfl,hb0.trans hbW⟩,fun j hj=>?_⟩,?_⟩
        ·rcases hj with rfl | h
         ·exact Or.inl ((HO.out _).2 (Or.inl rfl))
         ·exact(HVr.out j h).imp (fun h=>(HO.out _).2 (Or.inr h)) id
        ·exact FrO.mono (fun j h=>(HO.out j).2 h) HFr.out
       ·have hq:decide ((n:Int)≤65536)=false:=decide_eq_false (by omega)
        have HD:=hide (show decide (n≤65536)=false from decide_eq_false hn)
        go_wp2_with (go_at_call 86;refine LEN.out.mono ?_;rintro e w7 ⟨rfl,rfl⟩)
        go_ret
        refine⟨ret_b (by rw [HNN.out];exact HD.out.symm),⟨fun j=>j=b∨v.ownBlock=some j,⟨v,HB7.out,fun j=>Iff.rfl,hb0.trans hbW⟩,fun j hj=>?_⟩,?_⟩
        ·rcases hj with rfl | h
         ·exact Or.inl ((HO.out _).2 (Or.inl rfl))
         ·exact(HVr.out j h).imp (fun h=>(HO.out _).2 (Or.inr h)) id
        ·exact FrO.mono (fun j h=>(HO.out j).2 h) HFr.out
      case pos=>
      obtain⟨sx,hsx⟩:∃sx,t.ss[k]? = some sx:=⟨_,List.getElem?_eq_getElem hlt⟩
      have hszx:=szS_mem hsx
      have hts:t.sz=t.h.sz+szS t.ss+t.ks.sz:=rfl
      have hlss:=szS_len t.ss
      obtain⟨g,o,rfl,hg,hc1,hc2⟩:=HST.out.at hbW hsx
      have HTK:=hide (show s++lineS L'++(t.ss.take (k+1)).flatMap strmL=s++lineS L'++(t.ss.take k).flatMap strmL++strmL sx by rw [List.take_add_one,hsx];simp)
      have hlen2:(s++lineS L'++(t.ss.take k).flatMap strmL).length≤5000000:=by
       have:=strms_len t.ss
       have h2:((t.ss.take k).flatMap strmL).length≤(t.ss.flatMap strmL).length:=by
        conv=>rhs;rw [←List.take_append_drop k t.ss]
        rw [List.flatMap_append,List.length_append]
        omega
       rw [List.length_append,List.length_append]
       omega
      clear hsx
      go_upto_region 16 with fail
      have HD6:=hide (show Blk (wr.alloc (.cells #[.string sx.1,.string sx.2] 69)) wr.heap.size (strC sx) 69 from Blk.newAt rfl)
      have hbd:Below wr.heap.size wr (wr.alloc (.cells #[.string sx.1,.string sx.2] 69)):=(Below.refl _ _).alloc (Nat.le_refl _) _
      have HB6:=hide (HBr.out.below hbd)
      generalize wr.alloc (.cells #[.string sx.1,.string sx.2] 69)=W6 at *
      obtain⟨d,hd⟩:∃d,d=wr.heap.size:=⟨_,rfl⟩
      rw [←hd] at HD6
      rw [←hd]
      have hbd2:d≠b:=by have:=HBr.out.lt;omega
      have hbl2:=HBr.out.lt
      have hkeep:Blk W6 d (strC sx) 69∧True:=⟨HD6.out,trivial⟩
      have hkeepd:Blk W6.drew d (strC sx) 69∧True:=⟨HD6.out,trivial⟩
      have hId:InvS W6 d sx W6.drew:=⟨(Below.refl _ _).drew,HD6.out⟩
      have hdo:¬(d=b∨v.ownBlock=some d):=fun e=>e.elim hbd2 (fun e=>by have:=(HBr.out.row d e).2.1;omega)
      clear hd
      have WD1:=hide (fun W (hW:InvS W6 d sx W)=>(word_any sx.1 (by omega) W).mono (R':=fun e w'=>e=.returned (.string (wordS sx.1))∧InvS W6 d sx w') fun e w' h=>⟨h.1,hW.below h.2⟩)
      have WD2:=hide (fun W (hW:InvS W6 d sx W)=>(word_any sx.2 (by omega) W).mono (R':=fun e w'=>e=.returned (.string (wordS sx.2))∧InvS W6 d sx w') fun e w' h=>⟨h.1,hW.below h.2⟩)
      have hls:(lineS [strmS,wordS sx.1,wordS sx.2]).length≤1000000:=by
       rw [strm_line]
       have:=strm_len sx
       omega
      have LK:=hide (fun W (hW:InvS W6 d sx W)=>(line_any [strmS,wordS sx.1,wordS sx.2] (.slice (some ⟨W.heap.size,0,none⟩) 3 3) W.heap.size (W.alloc (.cells #[.string strmS,.string (wordS sx.1),.string (wordS sx.2)] 9)) (lit_own (Nat.le_refl _) (Blk.newAt rfl) rfl (by decide)) (by show 0 < 3;omega) (by show 3≤1000;omega) (by omega)).mono (R':=fun e w'=>e=.returned (.string ⟨(lineS [strmS,wordS sx.1,wordS sx.2]).toArray⟩)∧InvS W6 d sx w') fun e w' h=>⟨h.1,(hW.alloc _).below h.2⟩)
      have WK:=hide (fun W (hW:InvS W6 d sx W)=>ws_any W0.heap.size b _ v ⟨(lineS [strmS,wordS sx.1,wordS sx.2]).toArray⟩ W (HB6.out.below hW.1) (by show _+(Array.size _)≤_;rw [List.size_toArray];omega) (by have:=hW.1.size;have:=hbd.size;have:=hbW.size;omega))
      refine wp_region_noPanic ?_
      refine wp_region_held_drew (S:=(fun z=>Blk z d (strC sx) 69∧True)) (by kernel_rfl) kp (fun hHeld=>?_)
      refine tkZ 0 ⟨some 76,.fieldAddr 69 (.tmp 12) 0,0, "sourcetree.go:393",#[],none⟩ ?_
      refine tkZ 1 ⟨some 77,.load 9 (.tmp 76),9, "sourcetree.go:393",#[⟨0,.data⟩],none⟩ ?_ (by intro w hSw;(try dsimp only at hSw);have c1:=(hSw.1.cells 0).trans (show(strC sx)[0]? = some (Value.string sx.1) from rfl);go_simp;(try with_reducible rfl))
      refine tkZ 3 ⟨some 79,.fieldAddr 69 (.tmp 12) 1,0, "sourcetree.go:393",#[],none⟩ ?_
      refine tkZ 4 ⟨some 80,.load 9 (.tmp 79),9, "sourcetree.go:393",#[⟨3,.data⟩],none⟩ ?_ (by intro w hSw;(try dsimp only at hSw);have c2:=(hSw.1.cells 1).trans (show(strC sx)[1]? = some (Value.string sx.2) from rfl);go_simp;(try with_reducible rfl))
      refine rqS [2] (rqC ⟨some 78,.call ⟨.value (.func 83),#[.tmp 77],#[9]⟩,9, "sourcetree.go:393",#[⟨1,.data⟩],none⟩ (fun K hK=>?_) rq0)
      go_simp
      (first | (go_at_call 83;(with_reducible refine(WD1.out _ (by first | exact hIL | exact hId)).mono ?_);rintro e wL ⟨rfl,hIL⟩;have hkeepL:Blk wL d (strC sx) 69∧True:=⟨hIL.2,trivial⟩) | (go_at_call 83;(with_reducible refine(WD2.out _ (by first | exact hIL | exact hId)).mono ?_);rintro e wL ⟨rfl,hIL⟩;have hkeepL:Blk wL d (strC sx) 69∧True:=⟨hIL.2,trivial⟩))
      go_wp2_with fail
      refine hK.out _ _ kp (fun hHeld=>?_)
      clear hK K
      try simp only [PT]
      refine rqS [5] (rqC ⟨some 81,.call ⟨.value (.func 83),#[.tmp 80],#[9]⟩,9, "sourcetree.go:393",#[⟨4,.data⟩,⟨2,.chain⟩],none⟩ (fun K hK=>?_) rq0)
      go_simp
      (first | (go_at_call 83;(with_reducible refine(WD1.out _ (by first | exact hIL | exact hId)).mono ?_);rintro e wL ⟨rfl,hIL⟩;have hkeepL:Blk wL d (strC sx) 69∧True:=⟨hIL.2,trivial⟩) | (go_at_call 83;(with_reducible refine(WD2.out _ (by first | exact hIL | exact hId)).mono ?_);rintro e wL ⟨rfl,hIL⟩;have hkeepL:Blk wL d (strC sx) 69∧True:=⟨hIL.2,trivial⟩))
      go_wp2_with fail
      refine hK.out _ _ kp (fun hHeld=>?_)
      clear hK K
      try simp only [PT]
      refine rqS [6] (rqC ⟨some 82,.buildSlice 38 3 #[(0,.const (.string { data:=#[115,116,114,101,97,109] })),(1,.tmp 78),(2,.tmp 81)],38, "sourcetree.go:393",#[⟨2,.data⟩,⟨5,.data⟩],none⟩ (fun K hK=>?_) rq0)
      go_simp;have hI6:=InvS.alloc hIL (.cells #[.string strmS,.string (wordS sx.1),.string (wordS sx.2)] 9);have hkeep6:=And.intro hI6.2 trivial
      refine hK.out _ _ kp (fun hHeld=>?_)
      clear hK K
      try simp only [PT]
      refine rqS [7] (rqC ⟨some 83,.call ⟨.value (.func 85),#[.tmp 82],#[38]⟩,9, "sourcetree.go:393",#[⟨6,.data⟩,⟨5,.chain⟩],none⟩ (fun K hK=>?_) rq0)
      go_simp
      (go_at_call 85;(with_reducible refine(LK.out _ hIL).mono ?_);rintro e wM ⟨rfl,hIM⟩;have hkeepM:Blk wM d (strC sx) 69∧True:=⟨hIM.2,trivial⟩)
      go_wp2_with fail
      refine hK.out _ _ kp (fun hHeld=>?_)
      clear hK K
      try simp only [PT]
      refine rqS [8] (rqC ⟨some 84,.call ⟨.value (.func 84),#[.tmp 3,.tmp 83],#[81,9]⟩,86, "sourcetree.go:393",#[⟨7,.data⟩,⟨7,.chain⟩],none⟩ (fun K hK=>?_) rq0)
      go_simp
      (go_at_call 84;(with_reducible refine(WK.out _ hIM).mono ?_);rintro e w9 ⟨rfl,v9,hB9,hv9,hf9⟩;have hkeep9:Blk w9 d (strC sx) 69∧True:=⟨hf9.blk hIM.2 hdo,trivial⟩)
      go_wp2_with fail
      refine hK.out _ _ kp (fun hHeld=>?_)
      clear hK K
      try simp only [PT]
      refine wpAnyH_done (by kernel_rfl) ?_ _
      refine NoPanic.normal ?_
      all_goals
       have hbWM:Below wr.heap.size wr wM:=hbd.trans (hIM.1.mono hbd.size)
       have hzM:=hbWM.size
       have hf0:FrO (fun j=>j=b∨bv.ownBlock=some j) w w9:=HFr.out.trans ((FrO.of (O:=fun j=>j=b∨v.ownBlock=some j) hbWM).trans hf9 (fun j h=>Or.inl h)) (fun j hj=>hj.elim (fun h=>Or.inl (Or.inl h)) fun h=>(HVr.out j h).elim (fun h=>Or.inl (Or.inr h)) Or.inr)
       have hv0:∀j,v9.ownBlock=some j→bv.ownBlock=some j∨w.heap.size≤j:=fun j hj=>(hv9 j hj).elim (HVr.out j) (fun h=>Or.inr (by omega))
       have HB9:=hide (show BR W0.heap.size b (s++lineS L'++(t.ss.take (k+1)).flatMap strmL) v9 w9 by rw [HTK.out,←strm_line];exact hB9)
       clear WD1 WD2 LK WK hkeep hkeepd hkeep6 hkeepL hkeepM hkeep9 hHeld hI6 hIL hIM hId hf9 hv9 hB9 HBr HB6 HD6 hbd hbWM
       go_wp2_with fail
       go_roundw
       case rel=>exact⟨k+1,v9,by go_num,by omega,HB9.out,hv0,hf0⟩
       case measure=>simp [intOf];omega
end Go.Proofs.YtlhakdildbplkaaGreatDoor
