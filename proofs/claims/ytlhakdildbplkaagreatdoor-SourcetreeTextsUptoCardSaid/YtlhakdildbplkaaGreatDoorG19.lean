/- Part of the claim: its words. -/
import Derived.Test.YtlhakdildbplkaaGreatDoorG18
import Derived.Shelf.Strconv.ErrVarAll
import Derived.Lib.AtoiAllCases
import Derived.Test.YtlhakdildbplkaaGreatDoorG16
import Derived.Test.YtlhakdildbplkaaGreatDoorG12
set_option maxHeartbeats 40000000
set_option maxRecDepth 100000
namespace Go.Proofs.YtlhakdildbplkaaGreatDoor
set_option linter.unusedSimpArgs false
set_option linter.unusedVariables false
open Go.RowKit
theorem insS1 (A:Option Addr) (n c:Nat) (hn:n≤1) (f:Value) (w:World):Calls Tryz.prog 159 #[.slice A n c,.int .i64 0,.int .i64 (n:Int),f] w fun e w'=>e=.returned (.tuple #[])∧w=w':=by
 have HL:Live w []:=trivial
 go_enter Tryz.func159,Tryz.ntmps159
 go_wp2_with fail
 go_loopw [8] (fun i wr=>i=.int .i64 1∧w=wr) (fun i _=>0)
 case atStart=>exact⟨rfl,rfl⟩
 case round=>
  obtain⟨rfl,rfl⟩:=hrel
  have hlt:¬((1:Int) < (n:Int)):=by omega
  go_wp2_with fail
  go_end0
  exact⟨rfl,rfl⟩
theorem stabS1 (A:Option Addr) (n c:Nat) (hn:n≤1) (f:Value) (w:World):Calls Tryz.prog 140 #[.slice A n c,.int .i64 (n:Int),f] w fun e w'=>e=.returned (.tuple #[])∧w=w':=by
 have IS:=hide (fun W=>insS1 A n c hn f W)
 have hlt:¬((20:Int)≤(n:Int)):=by omega
 have hlt2:¬((20:Int) < (n:Int)):=by omega
 have HL:Live w []:=trivial
 go_enter Tryz.func140,Tryz.ntmps140
 go_wp2_with fail
 go_loopw [7,8] (fun a i wr=>a=.int .i64 0∧i=.int .i64 20∧w=wr) (fun _ _ _=>0)
 case atStart=>exact⟨rfl,rfl,rfl⟩
 case round=>
  obtain⟨rfl,rfl,rfl⟩:=hrel
  go_wp2_with ((first | (go_at_call 159;(with_reducible refine(IS.out _).mono ?_);rintro e w' ⟨rfl,rfl⟩)))
  go_loopw [6] (fun i wr=>i=.int .i64 20∧w=wr) (fun i _=>0)
  case atStart=>exact⟨rfl,rfl⟩
  case round=>
   obtain⟨rfl,rfl⟩:=hrel
   go_wp2_with fail
   go_end0
   exact⟨rfl,rfl⟩
theorem sortS1 (A:Option Addr) (n c:Nat) (hn:n≤1) (f:Value) (w:World):Calls Tryz.prog 101 #[.slice A n c,f] w fun e w'=>e=.returned (.tuple #[])∧w=w':=by
 have SS:=hide (fun W=>stabS1 A n c hn f W)
 have HL:Live w []:=trivial
 go_enter Tryz.func101,Tryz.ntmps101
 go_wp2_with ((first | (go_at_call 140;(with_reducible refine(SS.out _).mono ?_);rintro e w' ⟨rfl,rfl⟩)))
 go_end0
 exact⟨rfl,rfl⟩
theorem insN1 (A:Option Addr) (n c:Nat) (hn:n≤1) (f:Value) (w:World):Calls Tryz.prog 161 #[.slice A n c,.int .i64 0,.int .i64 (n:Int),f] w fun e w'=>e=.returned (.tuple #[])∧w=w':=by
 have HL:Live w []:=trivial
 go_enter Tryz.func161,Tryz.ntmps161
 go_wp2_with fail
 go_loopw [8] (fun i wr=>i=.int .i64 1∧w=wr) (fun i _=>0)
 case atStart=>exact⟨rfl,rfl⟩
 case round=>
  obtain⟨rfl,rfl⟩:=hrel
  have hlt:¬((1:Int) < (n:Int)):=by omega
  go_wp2_with fail
  go_end0
  exact⟨rfl,rfl⟩
theorem stabN1 (A:Option Addr) (n c:Nat) (hn:n≤1) (f:Value) (w:World):Calls Tryz.prog 141 #[.slice A n c,.int .i64 (n:Int),f] w fun e w'=>e=.returned (.tuple #[])∧w=w':=by
 have IN:=hide (fun W=>insN1 A n c hn f W)
 have hlt:¬((20:Int)≤(n:Int)):=by omega
 have hlt2:¬((20:Int) < (n:Int)):=by omega
 have HL:Live w []:=trivial
 go_enter Tryz.func141,Tryz.ntmps141
 go_wp2_with fail
 go_loopw [7,8] (fun a i wr=>a=.int .i64 0∧i=.int .i64 20∧w=wr) (fun _ _ _=>0)
 case atStart=>exact⟨rfl,rfl,rfl⟩
 case round=>
  obtain⟨rfl,rfl,rfl⟩:=hrel
  go_wp2_with ((first | (go_at_call 161;(with_reducible refine(IN.out _).mono ?_);rintro e w' ⟨rfl,rfl⟩)))
  go_loopw [6] (fun i wr=>i=.int .i64 20∧w=wr) (fun i _=>0)
  case atStart=>exact⟨rfl,rfl⟩
  case round=>
   obtain⟨rfl,rfl⟩:=hrel
   go_wp2_with fail
   go_end0
   exact⟨rfl,rfl⟩
theorem sortN1 (A:Option Addr) (n c:Nat) (hn:n≤1) (f:Value) (w:World):Calls Tryz.prog 103 #[.slice A n c,f] w fun e w'=>e=.returned (.tuple #[])∧w=w':=by
 have SN:=hide (fun W=>stabN1 A n c hn f W)
 have HL:Live w []:=trivial
 go_enter Tryz.func103,Tryz.ntmps103
 go_wp2_with ((first | (go_at_call 141;(with_reducible refine(SN.out _).mono ?_);rintro e w' ⟨rfl,rfl⟩)))
 go_end0
 exact⟨rfl,rfl⟩
def thinF:Fo→Prop
 | .nil=>True
 | .node _ ss ks nx=>ss.length≤1∧thinF ks∧nx=.nil
def thinT (t:Tr):Prop:=t.ss.length≤1∧thinF t.ks
theorem thinF_len:∀f:Fo,thinF f→f.len≤1
 | .nil,_=>Nat.zero_le _
 | .node _ _ _ nx,⟨_,_,e⟩=>by rw [e];exact Nat.le_refl _
theorem thinF_one:∀f:Fo,thinF f→0 < f.len→∃h ss ks,f=.node h ss ks .nil∧ss.length≤1∧thinF ks
 | .nil,_,h=>by rw [Fo.len_nil] at h;omega
 | .node h ss ks nx,⟨h1,h2,e⟩,_=>⟨h,ss,ks,by rw [e],h1,h2⟩
theorem sort_thin:∀(N:Nat),∀(t:Tr),t.count≤N→t.sz≤500000→thinT t→∀(v:Value) (w:World),TreeR w w.heap.size v t→Calls Tryz.prog 38 #[v] w fun e w'=>∃r,e=.returned r∧OwnT w' w.heap.size r t∧Below w.heap.size w w'
 | 0,t,ht,_,_,_,_,_=>by unfold Tr.count at ht;omega
 | N+1,t,ht,hsz,hth,v,w,hv=>by
  have IH:=hide (sort_thin N)
  have CL:=hide (fun W hW=>clone_any t.count t (Nat.le_refl _) hsz v W hW)
  have HV:=hide hv
  obtain⟨A,c,A2,c2,rfl,hk,hst⟩:=hv.openL
  have hl1:t.ks.len≤1:=thinF_len _ hth.2
  have hl2:t.ss.length≤1:=hth.1
  have HTH:=hide hth
  clear hk hv hst hth
  have HL:Live w []:=trivial
  go_enter Tryz.func38,Tryz.ntmps38
  go_upto_region 1 with fail
  have HB:=hide (show Blk ((w.alloc (.cells (t.h.cells (.slice A t.ks.len c) (.slice A2 t.ss.length c2)) 25)).alloc (.cells zeroN 25)) w.heap.size (t.h.cells (.slice A t.ks.len c) (.slice A2 t.ss.length c2)) 25 from(Blk.newAt rfl).alloc _)
  have HR:=hide (show Blk ((w.alloc (.cells (t.h.cells (.slice A t.ks.len c) (.slice A2 t.ss.length c2)) 25)).alloc (.cells zeroN 25)) (w.heap.size+1) zeroN 25 from Blk.newAt (by rw [World.size_alloc]))
  have hbel1:Below w.heap.size w ((w.alloc (.cells (t.h.cells (.slice A t.ks.len c) (.slice A2 t.ss.length c2)) 25)).alloc (.cells zeroN 25)):=((Below.refl _ _).alloc (Nat.le_refl _) _).alloc (by rw [World.size_alloc];omega) _
  have hz1:((w.alloc (.cells (t.h.cells (.slice A t.ks.len c) (.slice A2 t.ss.length c2)) 25)).alloc (.cells zeroN 25)).heap.size=w.heap.size+2:=by rw [World.size_alloc,World.size_alloc]
  obtain⟨W1,hW1⟩:∃W1,W1=(w.alloc (.cells (t.h.cells (.slice A t.ks.len c) (.slice A2 t.ss.length c2)) 25)).alloc (.cells zeroN 25):=⟨_,rfl⟩
  rw [←hW1] at HB HR hbel1 hz1
  unfold zeroN at hW1
  rw [←hW1]
  clear hW1
  obtain⟨r,hr⟩:∃r,r=w.heap.size+1:=⟨_,rfl⟩
  rw [←hr] at HR ⊢
  obtain⟨b,hb⟩:∃b,b=w.heap.size:=⟨_,rfl⟩
  rw [←hb] at HB ⊢
  have hlo:b < W1.heap.size∧r < W1.heap.size∧b≠r∧w.heap.size≤b∧w.heap.size≤r:=by omega
  obtain⟨hbW,hrW,hbr,hwb,hwr⟩:=hlo
  clear hb hr hz1
  have HV1:=hide (HV.out.own_below hbel1)
  clear HV
  go_upto_region 2 with (first | (refine wpList_load_row rfl 25 (.tmp 1) rfl b rfl 25 (t.h.cells (.slice A t.ks.len c) (.slice A2 t.ss.length c2)) (0,0) _ HB.out Tryz.underlying25 rfl (infN rfl) ?_) | (first | (go_at_call 64;(with_reducible refine(CL.out _ HV1.out).mono ?_);rintro e w3 ⟨r3,rfl,⟨kv3,sv3,O3,rfl,hs3,hk3,ho3⟩,hb3⟩;obtain⟨A3,c3,rfl⟩:=hk3.slice;obtain⟨A4,c4,rfl⟩:=own_slice hs3;have HB3:=hide (Blk.below hb3 HB.out))) | (refine wpList_store_row rfl 25 (.tmp 1) (.tmp 6) rfl b (t.h.cells (.slice A3 t.ks.len c3) (.slice A4 t.ss.length c4)) rfl rfl 25 (t.h.cells (.slice A t.ks.len c) (.slice A2 t.ss.length c2)) HB3.out (infN rfl) rfl (nodeLit _ _ _ _ _ _ _) ?_))
  have hf:FrO (fun j=>j=b) w3 (w3.setRow b (t.h.cells (.slice A3 t.ks.len c3) (.slice A4 t.ss.length c4))):=FrO.setRow rfl
  have hSK:StrK w3 (w3.setRow b (t.h.cells (.slice A3 t.ks.len c3) (.slice A4 t.ss.length c4))):=StrK.of hf (fun j cs fr e=>by subst e;exact HB3.out.notStr cs fr)
  have HB4:=hide (show Blk (w3.setRow b (t.h.cells (.slice A3 t.ks.len c3) (.slice A4 t.ss.length c4))) b (t.h.cells (.slice A3 t.ks.len c3) (.slice A4 t.ss.length c4)) 25 from setRow_heap _ _ _ _ _ _ HB3.out)
  have HR4:=hide (hf.blk (Blk.below hb3 HR.out) (fun e=>hbr e.symm))
  have HS4:=hide (own_fr hf hs3 (fun g e=>by have:=(hs3.lt g e).1;omega))
  obtain⟨xk,Ok,hk4,hrow4,ho4,hon4⟩:=hk3.frame hSK (fun j hj ho=>hf.block j hj (by have:=(ho3 j ho).1;omega))
  have hbel4:Below w.heap.size w (w3.setRow b (t.h.cells (.slice A3 t.ks.len c3) (.slice A4 t.ss.length c4))):=(hbel1.trans (hb3.mono hbel1.size)).trans (hf.below (by have:=hbel1.size;have:=hb3.size;omega) fun j hj=>by subst hj;exact hwb)
  have hz4:W1.heap.size≤(w3.setRow b (t.h.cells (.slice A3 t.ks.len c3) (.slice A4 t.ss.length c4))).heap.size:=by have:=hf.size;have:=hb3.size;omega
  have HO4:=hide (fun j (hj:Ok j)=>(show W1.heap.size≤j∧j < (w3.setRow b (t.h.cells (.slice A3 t.ks.len c3) (.slice A4 t.ss.length c4))).heap.size∧(Value.slice A3 t.ks.len c3).ownBlock≠some j by have h1:=ho4 j hj;have h2:=ho3 j h1.1;have h3:=hf.size;exact⟨h2.1,by omega,h1.2⟩))
  have HK4:=hide hk4
  have HRow4:=hide hrow4
  generalize w3.setRow b (t.h.cells (.slice A3 t.ks.len c3) (.slice A4 t.ss.length c4))=W3 at *
  clear HB HR HB3 HV1 CL hs3 hk3 ho3 hb3 hf hSK hk4 hrow4 ho4 hon4 hbel1
  have SS:=hide (fun W f=>sortS1 A4 t.ss.length c4 hl2 f W)
  have SN:=hide (fun W f=>sortN1 A3 t.ks.len c3 hl1 f W)
  have c11:W3.cell? ⟨b,11,none⟩=some (.slice A4 t.ss.length c4):=HB4.out.cells 11
  have c10:W3.cell? ⟨b,10,none⟩=some (.slice A3 t.ks.len c3):=HB4.out.cells 10
  go_wp2_with ((first | (go_at_call 101;(with_reducible refine(SS.out _ _).mono ?_);rintro e w' ⟨rfl,rfl⟩) | (go_at_call 103;(with_reducible refine(SN.out _ _).mono ?_);rintro e w' ⟨rfl,rfl⟩)))
  clear SS SN c11 c10
  go_loopw [16] (fun i wr=>∃(k:Nat) (xs:List Value) (O:Nat→Prop),i=.int .i64 (k:Int)∧k≤t.ks.len∧Below w.heap.size w wr∧W1.heap.size≤wr.heap.size∧Blk wr b (t.h.cells (.slice A3 t.ks.len c3) (.slice A4 t.ss.length c4)) 25∧Blk wr r zeroN 25∧wr.ownsRow W1.heap.size 69 2 (.slice A4 t.ss.length c4) t.ss.length (stV t.ss)∧wr.ownsRow W1.heap.size 25 12 (.slice A3 t.ks.len c3) t.ks.len xs∧RowS wr W1.heap.size t.ks xs O∧(∀j,O j→W1.heap.size≤j∧j < wr.heap.size∧(Value.slice A3 t.ks.len c3).ownBlock≠some j)) (fun i _=>t.ks.len - (intOf i).toNat)
  case atStart=>exact⟨0,xk,Ok,rfl,Nat.zero_le _,hbel4,hz4,HB4.out,HR4.out,HS4.out,HK4.out,HRow4.out,HO4.out⟩
  case round=>
   clear HB4 HR4 HS4 HK4 HRow4 HO4 hbel4 hz4
   obtain⟨k,xs,O,rfl,hkl,hbel,hzr,hB,hRz,hSt,hK,hRow,hO⟩:=hrel
   have HB:=hide hB
   have HR:=hide hRz
   have HSt:=hide hSt
   have HK:=hide hK
   have HRow:=hide hRow
   have HO:=hide hO
   clear hB hRz hSt hK hRow hO
   rcases Nat.lt_or_ge k t.ks.len with hlt | hge
   case inr=>
    have hki:k=t.ks.len:=by omega
    subst hki
    clear hge
    go_wp2_with (first | (refine wpList_load_row rfl 25 (.tmp 1) rfl b rfl 25 (t.h.cells (.slice A3 t.ks.len c3) (.slice A4 t.ss.length c4)) (0,0) _ HB.out Tryz.underlying25 rfl (infN rfl) ?_) | (refine wpList_store_row rfl 25 (.tmp 2) (.tmp 28) rfl r (t.h.cells (.slice A3 t.ks.len c3) (.slice A4 t.ss.length c4)) rfl rfl 25 zeroN HR.out (infN rfl) rfl (nodeLit _ _ _ _ _ _ _) ?_))
    refine bodyPost_ret (results_cell_row rfl _ _ r 25 (t.h.cells (.slice A3 t.ks.len c3) (.slice A4 t.ss.length c4)) (0,0) _ rfl (setRow_heap _ _ _ _ _ _ HR.out) Tryz.underlying25 rfl (infN rfl)) rfl ?_
    have hf:FrO (fun j=>j=r) wr (wr.setRow r (t.h.cells (.slice A3 t.ks.len c3) (.slice A4 t.ss.length c4))):=FrO.setRow rfl
    have hSK:=StrK.of hf (fun j cs fr e=>by subst e;exact HR.out.notStr cs fr)
    have hn1:∀g,(Value.slice A4 t.ss.length c4).ownBlock=some g→¬g=r:=fun g e=>by have:=(HSt.out.lt g e).1;omega
    have hn2:∀g,(Value.slice A3 t.ks.len c3).ownBlock=some g→¬g=r:=fun g e=>by have:=(HK.out.lt g e).1;omega
    have hwl:w.heap.size≤W1.heap.size:=by omega
    refine⟨_,rfl,⟨_,_,fun j=>O j∨(Value.slice A3 t.ks.len c3).ownBlock=some j,rfl,own_base (own_fr hf HSt.out hn1) hwl,⟨xs,O,own_base (own_fr hf HK.out hn2) hwl,(HRow.out.frame hSK fun j hj ho=>hf.block j hj (by have:=(HO.out j ho).1;omega)).base hwl,fun j hj=>⟨Or.inl hj,(HO.out j hj).2.2⟩,fun j hj=>Or.inr hj⟩,fun j hj=>?_⟩,hbel.trans (hf.below (by omega) fun j hj=>by subst hj;exact hwr)⟩
    have hsz:wr.heap.size≤(wr.setRow r (t.h.cells (.slice A3 t.ks.len c3) (.slice A4 t.ss.length c4))).heap.size:=hf.size
    rcases hj with h | h
    ·have:=HO.out j h;omega
    ·have:=HK.out.lt j h;omega
   case inl=>
   obtain⟨h,ss,ks,hks,hss,hthk⟩:=thinF_one t.ks HTH.out.2 (by omega)
   have hcnt:ks.count+1≤N∧h.sz+szS ss+ks.sz≤500000:=by
    have e1:t.count=t.ks.count+1:=rfl
    have e2:t.sz=t.h.sz+szS t.ss+t.ks.sz:=rfl
    rw [hks,Fo.count_node] at e1
    rw [hks,Fo.sz_node] at e2
    omega
   obtain⟨hcn,hsn⟩:=hcnt
   have hl:t.ks.len=1:=by omega
   have hk0:k=0:=by omega
   have HL1:=hide hl
   clear hl
   obtain⟨g,cap,cur,hsl,hlg,hBg,hnc,hcm,hcs,hxs2⟩:=own_blk HK.out (by omega)
   injection hsl with hsl1 hsl2 hsl3
   subst hsl1;subst hsl3
   have hrw:=HRow.out
   rw [hks] at hrw
   obtain⟨kv1,sv1,xs',O1,On,hxs,hs1,hk1,hnx,hO1,hOn⟩:=hrw
   have hxn:xs'=[]:=hnx
   subst hxn
   rw [List.append_nil] at hxs
   obtain⟨AK,cK,hkv⟩:∃AK cK,kv1=.slice AK ks.len cK:=by obtain⟨xk1,Ok1,hk2,_⟩:=hk1;exact own_slice hk2
   subst hkv
   obtain⟨AS,cS,hsv⟩:=own_slice hs1
   subst hsv
   have HT:=hide (show TreeR wr wr.heap.size (.agg (h.cells (.slice AK ks.len cK) (.slice AS ss.length cS))) ⟨h,ss,ks⟩ from⟨_,_,rfl,StR.of_own (Nat.le_refl _) hs1,(show KidS wr W1.heap.size (.slice AK ks.len cK) ks O1 from hk1).read (Nat.le_refl _)⟩)
   obtain⟨kc,hkc⟩:∃kc,kc=h.cells (.slice AK ks.len cK) (.slice AS ss.length cS):=⟨_,rfl⟩
   have HZ:=hide (show kc.size=12 by rw [hkc];rfl)
   have H1C:=hide (show kc.all (·.oneCell')=true by rw [hkc];exact nodeLit _ _ _ _ _ _ _)
   have R1:=hide (show ∀j u,kc.toList[j]? = some u→wr.cell? ⟨g,k*12+j,none⟩=some u from fun j u hj=>by rw [hk0,Nat.zero_mul,Nat.zero_add,hBg.cells];exact hxs2 j u (by rw [hxs,←hkc];exact hj))
   rw [←hkc] at HT
   have HK0:=hide hk0
   have HKS:=hide hks
   have hgW:W1.heap.size≤g:=hlg
   have HBG:=hide hBg
   have HXL:=hide (show xs.length=12 by rw [hxs];rfl)
   have HCS:=hide hcs
   clear hsl2 hBg hxs2 hxs hs1 hk1 hnx hO1 hOn hkc hk0 hks hcs hcm
   go_upto_region 7 with (first | (refine wpList_load_midA rfl 25 (.tmp 19) rfl g (k*12) rfl kc _ R1.out Tryz.underlying25 rfl (infNl HZ.out) ?_) | (refine wpList_store_new rfl 25 (.tmp 4) (.tmp 20) rfl kc rfl rfl 25 _ (infN HZ.out) (by rw [HZ.out];rfl) H1C.out ?_))
   have hbN:Below wr.heap.size wr (wr.alloc (.cells kc 25)):=(Below.refl _ _).alloc (Nat.le_refl _) _
   have HD5:=hide (show Blk (wr.alloc (.cells kc 25)) wr.heap.size kc 25 from Blk.newAt rfl)
   have HB5:=hide (Blk.below hbN HB.out)
   have HR5:=hide (Blk.below hbN HR.out)
   have HG5:=hide (Blk.below hbN HBG.out)
   have HSt5:=hide (below_row' HSt.out hbN)
   have HK5:=hide (below_row' HK.out hbN)
   have hbel5:Below w.heap.size w (wr.alloc (.cells kc 25)):=hbel.alloc hbel.size _
   have hz5:(wr.alloc (.cells kc 25)).heap.size=wr.heap.size+1:=by rw [World.size_alloc]
   have HT5:=hide (HT.out.own_below hbN)
   have hgw:g < wr.heap.size:=HBG.out.lt
   generalize wr.alloc (.cells kc 25)=W5 at *
   obtain⟨d,hd⟩:∃d,d=wr.heap.size:=⟨_,rfl⟩
   rw [←hd] at HD5 hz5 hgw ⊢
   have hzd:W1.heap.size≤d:=by omega
   clear HB HR HSt HK HRow HT HO hbN R1 hbel hd hzr HBG
   have SO:=hide (fun W (hW:TreeR W W.heap.size (.agg kc) ⟨h,ss,ks⟩)=>IH.out ⟨h,ss,ks⟩ hcn hsn ⟨hss,hthk⟩ (.agg kc) W hW)
   have HTD:=hide (show TreeR W5.drew W5.drew.heap.size (.agg kc) ⟨h,ss,ks⟩ from HT5.out.below ((Below.refl _ _).drew))
   have hkeepd:Blk W5.drew d kc 25∧W5.drew.cell? ⟨b,10,none⟩=some (.slice (some ⟨g,0,none⟩) t.ks.len c3):=⟨HD5.out,HB5.out.cells 10⟩
   have hkeep5:Blk W5 d kc 25∧W5.cell? ⟨b,10,none⟩=some (.slice (some ⟨g,0,none⟩) t.ks.len c3):=⟨HD5.out,HB5.out.cells 10⟩
   have hgb:g≠b∧g≠d∧g≠r:=by omega
   have hcap1:k+1≤c3:=by omega
   clear IH
   refine wp_region_noPanic ?_
   refine wp_region_held_drew (S:=(fun z=>Blk z d kc 25∧z.cell? ⟨b,10,none⟩=some (.slice (some ⟨g,0,none⟩) t.ks.len c3))) (by kernel_rfl) kp (fun hHeld=>?_)
   refine tkZ 0 ⟨some 21,.fieldAddr 25 (.tmp 1) 10,0, "sourcetree.go:313",#[],none⟩ ?_
   refine tkZ 1 ⟨some 22,.load 22 (.tmp 21),22, "sourcetree.go:313",#[⟨0,.data⟩],none⟩ ?_ (by intro w hSw;(try dsimp only at hSw);have c1:=hSw.2;go_simp;(try with_reducible rfl))
   refine tkZ 2 ⟨some 23,.move (.tmp 3),3, "sourcetree.go:313",#[],none⟩ ?_
   refine tkZ 3 ⟨some 24,.load 25 (.tmp 4),25, "sourcetree.go:313",#[],none⟩ ?_ (by intro w hSw;(try dsimp only at hSw);refine(exec_load_row 25 (.tmp 4) (by rfl) d (by rfl) 25 kc (0,0) _ hSw.1 Tryz.underlying25 (by rfl) (infN HZ.out)).trans ?_;with_reducible rfl)
   refine rqS [4] (rqC ⟨some 25,.call ⟨.value (.func 38),#[.tmp 24],#[25]⟩,25, "sourcetree.go:313",#[⟨3,.data⟩],none⟩ (fun K hK=>?_) rq0)
   go_simp
   (go_at_call 38;(with_reducible refine(SO.out _ HTD.out).mono ?_);rintro e w8 ⟨r8,rfl,⟨kv8,sv8,O8,rfl,hs8,hk8,ho8⟩,hb8⟩;obtain⟨A8,c8,rfl⟩:=hk8.slice;obtain⟨A9,c9,rfl⟩:=own_slice hs8;have hb58:Below W5.heap.size W5 w8:=(Below.refl W5.heap.size W5).drew.trans hb8;have hkeep8:Blk w8 d kc 25∧w8.cell? ⟨b,10,none⟩=some (.slice (some ⟨g,0,none⟩) t.ks.len c3):=⟨Blk.below hb8 hkeepd.1,(hb8.cell (p:=⟨b,10,none⟩) (cell_lt hkeepd.2)).trans hkeepd.2⟩)
   go_wp2_with fail
   refine hK.out _ _ kp (fun hHeld=>?_)
   clear hK K
   try simp only [PT]
   refine tkZ 5 ⟨some 26,.indexAddr 22 (.tmp 22) (.tmp 23),0, "sourcetree.go:313",(phs [⟨1,.data⟩,⟨2,.data⟩] 5),none⟩ ?_
   refine rqS [6] (rqC ⟨none,.store 25 (.tmp 26) (.tmp 25),0, "sourcetree.go:313",(phs [⟨5,.data⟩,⟨4,.data⟩,⟨4,.chain⟩] 5),none⟩ (fun K hK=>?_) rq0)
   refine step_store_mid (by rfl) 25 _ _ (by rfl) g (k*12) (h.cells (.slice A8 ks.len c8) (.slice A9 ss.length c9)) (by rfl) (by rfl) (fun j hj=>?_) (infN rfl) (nodeLit _ _ _ _ _ _ _) ?_;exact⟨by rw [(Blk.below hb58 HG5.out).cells,Array.getElem?_eq_getElem (show k*12+j < cur.size by rw [HCS.out];have:j < 12:=hj;have h2:=Nat.mul_le_mul_right 12 hcap1;omega)];rfl,(Blk.below hb58 HG5.out).free _⟩;have hkeep11:Blk (w8.setCells g (k*12) (h.cells (.slice A8 ks.len c8) (.slice A9 ss.length c9)).toList) d kc 25∧(w8.setCells g (k*12) (h.cells (.slice A8 ks.len c8) (.slice A9 ss.length c9)).toList).cell? ⟨b,10,none⟩=some (.slice (some ⟨g,0,none⟩) t.ks.len c3):=⟨(FrO.sets (O:=fun j=>j=g) rfl _ _ _).blk hkeep8.1 (fun e=>hgb.2.1 e.symm),(World.cell?_of_block ((FrO.sets (O:=fun j=>j=g) rfl _ _ _).block b (cell_lt hkeep8.2) (fun e=>hgb.1 e.symm))).trans hkeep8.2⟩
   refine hK.out _ _ kp (fun hHeld=>?_)
   clear hK K
   try simp only [PT]
   refine wpAnyH_done (by kernel_rfl) ?_ _
   refine NoPanic.normal ?_
   have hfs:FrO (fun j=>j=g) w8 (w8.setCells g (k*12) (h.cells (.slice A8 ks.len c8) (.slice A9 ss.length c9)).toList):=FrO.sets (O:=fun j=>j=g) rfl _ _ _
   have hG8:=Blk.below hb58 HG5.out
   have hSK:StrK w8 (w8.setCells g (k*12) (h.cells (.slice A8 ks.len c8) (.slice A9 ss.length c9)).toList):=StrK.of hfs (fun j cs fr e=>by subst e;exact hG8.notStr cs fr)
   have e5:W5.drew.heap.size=W5.heap.size:=rfl
   rw [e5] at hs8 hk8 ho8
   have hwl:W1.heap.size≤W5.heap.size:=by omega
   have key:∀C:List Value,C.length=12→setsL xs (k*12) C=C:=fun C hC=>by
    have e:=setsL_app C [] xs [] (by rw [HXL.out,hC])
    rw [HK0.out]
    simpa using e
   have hrowN:RowS (w8.setCells g (k*12) (h.cells (.slice A8 ks.len c8) (.slice A9 ss.length c9)).toList) W1.heap.size t.ks (setsL xs (k*12) (h.cells (.slice A8 ks.len c8) (.slice A9 ss.length c9)).toList) O8:=by
    rw [key _ rfl,HKS.out]
    exact⟨_,_,[],O8,fun _=>False,(List.append_nil _).symm,own_base (own_keep hs8 fun q cs _ hq=>hSK q cs _ hq) hwl,KidS.base hwl (hk8.frame hSK fun j hj ho=>hfs.block j hj (fun e=>by have:=(ho8 j ho).1;omega)),rfl,fun j hj=>⟨hj,id⟩,fun _ h=>h.elim⟩
   have HRN:=hide hrowN
   have HKN:=hide (own_cells (h.cells (.slice A8 ks.len c8) (.slice A9 ss.length c9)).toList (k*12) w8 xs (below_row' HK5.out hb58))
   have HBN:=hide (hfs.blk (Blk.below hb58 HB5.out) (fun e=>hgb.1 e.symm))
   have HRZ:=hide (hfs.blk (Blk.below hb58 HR5.out) (fun e=>hgb.2.2 e.symm))
   have HSN:=hide (own_keep (below_row' HSt5.out hb58) fun q cs _ hq=>hSK q cs _ hq)
   have hbelN:Below w.heap.size w (w8.setCells g (k*12) (h.cells (.slice A8 ks.len c8) (.slice A9 ss.length c9)).toList):=(hbel5.trans (hb58.mono hbel5.size)).trans (hfs.below (Nat.le_trans hbel5.size hb58.size) (fun j hj=>by subst hj;omega))
   have hzN:W1.heap.size≤(w8.setCells g (k*12) (h.cells (.slice A8 ks.len c8) (.slice A9 ss.length c9)).toList).heap.size:=by have:=hfs.size;have:=hb58.size;omega
   have HON:=hide (fun j (hj:O8 j)=>(show W1.heap.size≤j∧j < (w8.setCells g (k*12) (h.cells (.slice A8 ks.len c8) (.slice A9 ss.length c9)).toList).heap.size∧(Value.slice (some ⟨g,0,none⟩) t.ks.len c3).ownBlock≠some j from⟨by have:=(ho8 j hj).1;omega,by have:=(ho8 j hj).2;have:=hfs.size;omega,fun e=>by have:=(ho8 j hj).1;have e2:g=j:=Option.some.inj e;omega⟩))
   generalize w8.setCells g (k*12) (h.cells (.slice A8 ks.len c8) (.slice A9 ss.length c9)).toList=wn at *
   clear hrowN hSK hfs hG8 hs8 hk8 ho8 hkeep11 hkeep8 hkeepd hkeep5
   go_wp2_with fail
   go_roundw
   case rel=>exact⟨k+1,_,_,by go_num,by omega,hbelN,hzN,HBN.out,HRZ.out,HSN.out,HKN.out,HRN.out,HON.out⟩
   case measure=>simp [intOf];omega
def Rd (b:Nat) (o:Option (List ByteArray)) (w:World):Prop:=∃(ok:Bool) (ws:List ByteArray) (A:Option Addr),o=(if ok then some ws else none)∧Blk w b #[.slice A ws.length ws.length,.bool ok] 95 ∧
 (0 < ws.length→∃g p,A=some ⟨g,p,none⟩∧g < b∧∀j s,ws[j]? = some s→w.cell? ⟨g,p+j,none⟩=some (.string s))∧(∀s∈ws,s.size≤100000)∧ws.length≤100000
theorem Rd.fr {b:Nat} {o:Option (List ByteArray)} {O:Nat→Prop} {w w':World} (h:Rd b o w) (hf:FrO O w w') (hO:∀j,j≤b→¬O j):Rd b o w':=by
 obtain⟨ok,ws,A,ho,hB,hw,hs,hl⟩:=h
 refine⟨ok,ws,A,ho,hf.blk hB (hO b (Nat.le_refl _)),fun h0=>?_,hs,hl⟩
 obtain⟨g,p,hA,hg,hc⟩:=hw h0
 refine⟨g,p,hA,hg,fun j s hj=>?_⟩
 rw [←hc j s hj]
 exact World.cell?_of_block (hf.block g (by have:=hB.lt;omega) (hO g (by omega)))
def rdN:Option (List ByteArray)→Option (ByteArray × List ByteArray)
 | some (x :: r)=>some (x,r)
 | _=>none
def rdT (o:Option (List ByteArray)):Option (ByteArray × List ByteArray):=(rdN o).bind fun p=>(unword p.1).map (·,p.2)
def rdI (o:Option (List ByteArray)):Option (Int × List ByteArray):=(rdN o).bind fun p=>(numW p.1).map (·,p.2)
theorem Rd.next {b:Nat} {ws:List ByteArray} {ok:Bool} {A:Option Addr} {w w':World} {x:ByteArray} {g p:Nat} (hf:FrO (fun j=>j=b) w w') (hb:b < w.heap.size) (hA:A=if ws.length=0 then some ⟨g,p,none⟩ else some ⟨g,p+1,none⟩) (hB:Blk w' b #[.slice A ws.length ws.length,.bool ok] 95) (hg:g < b) (hc:∀j s,(x :: ws)[j]? = some s→w.cell? ⟨g,p+j,none⟩=some (.string s)) (hs:∀s∈x :: ws,s.size≤100000) (hl:(x :: ws).length≤100000):Rd b (if ok then some ws else none) w':=by
 refine⟨ok,ws,A,rfl,hB,fun h0=>⟨g,p+1,by rw [hA,if_neg (by omega)],hg,fun j s hj=>?_⟩,fun s h=>hs s (List.mem_cons_of_mem _ h),by rw [List.length_cons] at hl;omega⟩
 rw [←hc (j+1) s hj,show p+1+j=p+(j+1) by omega]
 exact World.cell?_of_block (hf.block g (by omega) (by omega))
theorem next_any (b:Nat) (o:Option (List ByteArray)) (w:World) (h:Rd b o w):Calls Tryz.prog 93 #[.pointer (some ⟨b,0,none⟩)] w fun e w'=>∃s o',e=.returned (.string s)∧Rd b o' w'∧o'=(rdN o).map (·.2)∧(∀p,rdN o=some p→s=p.1)∧s.size≤100000∧FrO (fun j=>j=b) w w':=by
 obtain⟨ok,ws,A,ho,hB,hw,hs,hl⟩:=h
 have HO:=hide ho
 have HB:=hide hB
 have HS:=hide hs
 have c0:=hB.cells 0
 have c1:=hB.cells 1
 have f0:=hB.free 0
 have f1:=hB.free 1
 simp at c0 c1
 clear hB hs ho
 cases ws with
 | nil=>
  clear hw hl
  have HL:Live w []:=trivial
  go_enter Tryz.func93,Tryz.ntmps93
  go_wp2_with fail
  go_ret
  refine⟨_,none,rfl,⟨false,[],A,rfl,HB.out.put rfl,fun h=>absurd h (by decide),fun _ h=>(by cases h),Nat.zero_le _⟩,?_,fun p hp=>?_,Nat.zero_le _,FrO.set rfl⟩
  ·rw [HO.out];cases ok <;> rfl
  ·rw [HO.out] at hp;cases ok <;> cases hp
 | cons x r=>
  obtain⟨g,p,rfl,hg,hc⟩:=hw (Nat.succ_pos _)
  have HC:=hide hc
  have HL2:=hide hl
  have d0:w.cell? ⟨g,p,none⟩=some (.string x):=hc 0 x rfl
  have hlr:r.length≤100000:=by rw [List.length_cons] at hl;omega
  have HSS:=hide (show ∀s∈x :: r,s.size≤100000 from HS.out)
  have fin:∀(A:Option Addr) (w':World),FrO (fun j=>j=b) w w'→Blk w' b #[.slice A r.length r.length,.bool ok] 95→(A=if r.length=0 then some ⟨g,p,none⟩ else some ⟨g,p+1,none⟩)→∃s o',Ending.returned (.string x)=.returned (.string s)∧Rd b o' w'∧o'=(rdN o).map (·.2)∧(∀p,rdN o=some p→s=p.1)∧s.size≤100000∧FrO (fun j=>j=b) w w':=fun A w' hf hB' hA=>
   ⟨x,_,rfl,Rd.next (g:=g) (p:=p) (x:=x) (ok:=ok) hf HB.out.lt hA hB' hg HC.out HSS.out HL2.out,by rw [HO.out];cases ok <;> rfl,fun q hq=>by
    rw [HO.out] at hq
    cases ok
    ·cases hq
    ·injection hq with hq;rw [←hq],HSS.out x (List.mem_cons_self ..),hf⟩
  have FIN:=hide fin
  clear fin hc hl hw
  cases r with
  | nil=>
   have HL:Live w []:=trivial
   go_enter Tryz.func93,Tryz.ntmps93
   go_wp2_with fail
   go_ret
   exact FIN.out _ _ (FrO.set rfl) (HB.out.put rfl) rfl
  | cons y r'=>
   have hn0:((r'.length:Int)+1+1 == 0)=false:=by rw [beq_eq_false_iff_ne];omega
   have hi1:(1:Int)≤(r'.length:Int)+1+1:=by omega
   have hlr2:r'.length≤100000:=by rw [List.length_cons] at hlr;omega
   clear hlr
   have HL:Live w []:=trivial
   go_enter Tryz.func93,Tryz.ntmps93
   go_wp2_with fail
   go_ret
   exact FIN.out _ _ (FrO.set rfl) (HB.out.put rfl) (by rw [if_neg (by rw [List.length_cons];omega)])
theorem rdT_end {o o3:Option (List ByteArray)} {ok ok4:Bool} {ws:List ByteArray} {s x:ByteArray} (h1:o3=(rdN o).map (·.2)) (h2:o3=if ok then some ws else none) (h3:∀p,rdN o=some p→s=p.1) (h4:ok4=true→unword s=some x) (h5:ok4=false→unword s=none) :
  (if (ok && ok4) then some ws else none)=(rdT o).map (·.2)∧∀p,rdT o=some p→x=p.1:=by
 unfold rdT
 cases hn:rdN o with
 | none=>
  rw [hn,h2] at h1
  cases ok
  ·exact⟨rfl,fun p hp=>by cases hp⟩
  ·cases h1
 | some q=>
  obtain⟨y,r⟩:=q
  rw [hn,h2] at h1
  have e:=h3 _ hn
  simp only [] at e
  subst e
  cases ok
  ·cases h1
  ·have h1':some ws=some r:=h1
   injection h1' with h1'
   subst h1'
   cases ok4
   ·simp only [Option.bind_some,h5 rfl]
    exact⟨rfl,fun p hp=>by cases hp⟩
   ·simp only [Option.bind_some,h4 rfl]
    exact⟨rfl,fun p hp=>by injection hp with hp;rw [←hp]⟩
theorem rdI_end {o o3:Option (List ByteArray)} {ok ok4:Bool} {ws:List ByteArray} {s:ByteArray} {x:Int} (h1:o3=(rdN o).map (·.2)) (h2:o3=if ok then some ws else none) (h3:∀p,rdN o=some p→s=p.1) (h4:ok4=true→numW s=some x) (h5:ok4=false→numW s=none) :
  (if (ok && ok4) then some ws else none)=(rdI o).map (·.2)∧∀p,rdI o=some p→x=p.1:=by
 unfold rdI
 cases hn:rdN o with
 | none=>
  rw [hn,h2] at h1
  cases ok
  ·exact⟨rfl,fun p hp=>by cases hp⟩
  ·cases h1
 | some q=>
  obtain⟨y,r⟩:=q
  rw [hn,h2] at h1
  have e:=h3 _ hn
  simp only [] at e
  subst e
  cases ok
  ·cases h1
  ·have h1':some ws=some r:=h1
   injection h1' with h1'
   subst h1'
   cases ok4
   ·simp only [Option.bind_some,h5 rfl]
    exact⟨rfl,fun p hp=>by cases hp⟩
   ·simp only [Option.bind_some,h4 rfl]
    exact⟨rfl,fun p hp=>by injection hp with hp;rw [←hp]⟩
theorem Rd.lt {b:Nat} {o:Option (List ByteArray)} {w:World} (h:Rd b o w):b < w.heap.size:=by
 obtain⟨ok,ws,A,ho,hB,hw,hs,hl⟩:=h
 exact hB.lt
theorem text_any (b:Nat) (o:Option (List ByteArray)) (w:World) (h:Rd b o w):Calls Tryz.prog 94 #[.pointer (some ⟨b,0,none⟩)] w fun e w'=>∃s o',e=.returned (.string s)∧Rd b o' w'∧o'=(rdT o).map (·.2)∧(∀p,rdT o=some p→s=p.1)∧FrO (fun j=>j=b) w w':=by
 have NX:=hide (next_any b o w h)
 have UW:=hide (fun s (hs:s.size≤100000) W=>unword_any s (by omega) W)
 have HWb:=hide h.lt
 clear h
 have HL:Live w []:=trivial
 go_enter Tryz.func94,Tryz.ntmps94
 go_wp2_with (first | (go_at_call 93;refine NX.out.mono ?_;rintro e w3 ⟨s,o3,rfl,hR3,ho3,hs3,hz3,hf3⟩;have UW3:=hide (UW.out s hz3 w3);have HR3:=hide hR3;have HO3:=hide ho3;have HS3:=hide hs3;have HF3:=hide hf3;clear hR3 ho3 hs3 hz3 hf3) | (go_at_call 136;refine UW3.out.mono ?_;rintro e w4 ⟨x,ok4,rfl,hy4,hn4,hb4⟩;obtain⟨ok,ws,A,ho,hB,hw,hs,hl⟩:=HR3.out.fr (O:=fun j=>w3.heap.size≤j) (FrO.of hb4) (fun j hj h=>by have:=HR3.out.lt;omega);have HO:=hide ho;have HB:=hide hB;have c1:=hB.cells 1;have f1:=hB.free 1;simp at c1;have HW:=hide hw;have HS:=hide hs;have HL:=hide hl;have HY4:=hide hy4;have HN4:=hide hn4;have HB4:=hide hb4;clear ho hB hw hs hl hy4 hn4 hb4))
 all_goals
  have hff:FrO (fun j=>j=b) w w4:=HF3.out.trans (FrO.of (O:=fun _=>False) HB4.out) (fun j h=>h.elim)
  have E:=rdT_end HO3.out HO.out HS3.out HY4.out HN4.out
  have fin:∀(vb:Bool) (w':World),vb=(ok && ok4)→FrO (fun j=>j=b) w4 w'→Blk w' b #[.slice A ws.length ws.length,.bool vb] 95→∃s o',Ending.returned (.string x)=.returned (.string s)∧Rd b o' w'∧o'=(rdT o).map (·.2)∧(∀p,rdT o=some p→s=p.1)∧FrO (fun j=>j=b) w w':=fun vb w' hvb hf hB'=>
   ⟨x,_,rfl,⟨vb,ws,A,rfl,hB',fun h0=>by
    obtain⟨g,p,hA,hg,hc⟩:=HW.out h0
    exact⟨g,p,hA,hg,fun j s hj=>(World.cell?_of_block (hf.block g (by have:=HB.out.lt;omega) (by omega))).trans (hc j s hj)⟩,HS.out,HL.out⟩,by rw [hvb];exact E.1,E.2,hff.trans hf (fun j h=>Or.inl h)⟩
  go_ret
  exact fin _ _ (by cases ok <;> first | rfl | contradiction) (FrO.set rfl) (HB.out.put rfl)
theorem rend_any (b:Nat) (o:Option (List ByteArray)) (w:World) (h:Rd b o w):Calls Tryz.prog 95 #[.pointer (some ⟨b,0,none⟩)] w fun e w'=>e=.returned (.bool (decide (o=some [])))∧w=w':=by
 obtain⟨ok,ws,A,ho,hB,hw,hs,hl⟩:=h
 have c0:=hB.cells 0
 have c1:=hB.cells 1
 simp at c0 c1
 have HO:=hide ho
 clear ho hB hw hs
 cases ok
 case false=>
  have HL:Live w []:=trivial
  go_enter Tryz.func95,Tryz.ntmps95
  go_wp2_with fail
  go_ret
  exact⟨by rw [HO.out];rfl,rfl⟩
 case true=>
  cases ws with
  | nil=>
   have HL:Live w []:=trivial
   go_enter Tryz.func95,Tryz.ntmps95
   go_wp2_with fail
   go_ret
   exact⟨by rw [HO.out];rfl,rfl⟩
  | cons x r=>
   have hn0:((r.length:Int)+1 == 0)=false:=by rw [beq_eq_false_iff_ne];omega
   have HL:Live w []:=trivial
   go_enter Tryz.func95,Tryz.ntmps95
   go_wp2_with fail
   go_ret
   exact⟨by rw [HO.out];simp,rfl⟩
def TabE (w:World):Prop:=(∃tp p,w.var? Tryz.prog "strconv.ErrSyntax" = some #[.iface tp p])∧(∃tp p,w.var? Tryz.prog "strconv.ErrRange" = some #[.iface tp p])
theorem synG:Tryz.prog.globalNamed "strconv.ErrSyntax" = some 4:=by kernel_rfl
theorem rngG:Tryz.prog.globalNamed "strconv.ErrRange" = some 5:=by kernel_rfl
theorem var_lt {n:String} {g:Nat} {cs:Array Value} {w:World} (hg:Tryz.prog.globalNamed n=some g) (h:w.var? Tryz.prog n=some cs):g < w.heap.size:=by
 rcases Nat.lt_or_ge g w.heap.size with h' | h'
 ·exact h'
 ·unfold World.var? at h
  rw [hg] at h
  simp only [Option.bind_some] at h
  rw [Array.getElem?_eq_none h'] at h
  cases h
theorem TabE.below {w w':World} (h:TabE w) (hb:Below w.heap.size w w'):TabE w':=by
 obtain⟨⟨t1,p1,h1⟩,⟨t2,p2,h2⟩⟩:=h
 exact⟨⟨t1,p1,var?_below hb synG (var_lt synG h1) h1⟩,⟨t2,p2,var?_below hb rngG (var_lt rngG h2) h2⟩⟩
theorem below_bytesW2 {w w':World} {T:TypeId} (h:w'=w∨∃t,w'=Lib.bytesWorld w T t):Below w.heap.size w w':=by
 rcases h with rfl | ⟨t,rfl⟩
 ·exact Below.refl _ _
 ·exact Lib.bytesWorld_below _ _ _
theorem atoi_ok (s:ByteArray) (v:Int) (hs:s.size≤100000) (h:Lib.atoiAll s.data.toList=.ok v) (w:World):Calls Tryz.prog 137 #[.string s] w fun e w'=>e=.returned (.tuple #[.int .i64 v,.nilIface])∧Below w.heap.size w w':=
 (Any.strconv_Atoi_ok Tryz.laysC172 s (by omega) _ h w).mono fun e w' ⟨he,hw⟩=>⟨he,below_bytesW2 hw⟩
def Fails (w:World) (e:Ending) (w':World):Prop:=∃(v:Int) (T:TypeId) (N:Nat),e=.returned (.tuple #[.int .i64 v,.iface T (.pointer (some ⟨N,0,none⟩))])∧Below w.heap.size w w'
theorem atoi_no (s:ByteArray) (hs:s.size≤100000) (h:∀v,Lib.atoiAll s.data.toList≠.ok v) (w:World) (hT:TabE w):Calls Tryz.prog 137 #[.string s] w (Fails w):=by
 obtain⟨⟨t1,p1,h1⟩,⟨t2,p2,h2⟩⟩:=hT
 cases hh:Lib.atoiAll s.data.toList with
 | ok v=>exact absurd hh (h v)
 | range=>exact(Any.strconv_Atoi_range_var Tryz.laysC172 s (by omega) hh t2 p2 w h2).mono fun e w' ⟨N,he,_,_,hb⟩=>⟨_,_,N,he,hb⟩
 | _=>exact(Any.strconv_Atoi_syntax_var Tryz.laysC172 s (by omega) hh t1 p1 w h1).mono fun e w' ⟨N,he,_,_,hb⟩=>⟨_,_,N,he,hb⟩
theorem Rd.fin {b:Nat} {o3:Option (List ByteArray)} {w4 w':World} (h:Rd b o3 w4) (vb ok4:Bool):∃(ok:Bool) (ws:List ByteArray) (A:Option Addr),o3=(if ok then some ws else none)∧Blk w4 b #[.slice A ws.length ws.length,.bool ok] 95 ∧
  ∀(vb:Bool) (w':World),FrO (fun j=>j=b) w4 w'→Blk w' b #[.slice A ws.length ws.length,.bool vb] 95→Rd b (if vb then some ws else none) w':=by
 obtain⟨ok,ws,A,ho,hB,hw,hs,hl⟩:=h
 exact⟨ok,ws,A,ho,hB,fun vb w' hf hB'=>⟨vb,ws,A,rfl,hB',fun h0=>by
  obtain⟨g,p,hA,hg,hc⟩:=hw h0
  exact⟨g,p,hA,hg,fun j s hj=>(World.cell?_of_block (hf.block g (by have:=hB.lt;omega) (by omega))).trans (hc j s hj)⟩,hs,hl⟩⟩
theorem number_any (b:Nat) (o:Option (List ByteArray)) (w w0:World) (h:Rd b o w) (hT:TabP w0) (hE:TabE w0) (hb0:Below w0.heap.size w0 w) (hlb:w0.heap.size≤b):Calls Tryz.prog 96 #[.pointer (some ⟨b,0,none⟩)] w fun e w'=>∃n o',e=.returned (.int .i64 n)∧Rd b o' w'∧o'=(rdI o).map (·.2)∧(∀p,rdI o=some p→n=p.1)∧FrO (fun j=>j=b) w w':=by
 have NX:=hide (next_any b o w h)
 have HWb:=hide h.lt
 have HT:=hide hT
 have HE:=hide hE
 have HB0:=hide hb0
 have HLB:=hide hlb
 clear h hT hE hb0 hlb
 have HL:Live w []:=trivial
 go_enter Tryz.func96,Tryz.ntmps96
 go_upto_region 2 with (go_at_call 93;refine NX.out.mono ?_;rintro e w3 ⟨s,o3,rfl,hR3,ho3,hs3,hz3,hf3⟩)
 have hb3:Below w0.heap.size w0 w3:=HB0.out.trans (hf3.below HB0.out.size fun j hj=>by have:=HLB.out;omega)
 have HR3:=hide hR3
 have HO3:=hide ho3
 have HS3:=hide hs3
 have HF3:=hide hf3
 have HB3:=hide hb3
 have hlt3:=hR3.lt
 clear hR3 ho3 hs3 hf3 hb3 NX
 have main:∀(ok4:Bool) (x:Int) (w4:World),Below w3.heap.size w3 w4→(ok4=true→numW s=some x)→(ok4=false→numW s=none)→∃(ok:Bool) (ws:List ByteArray) (A:Option Addr),Blk w4 b #[.slice A ws.length ws.length,.bool ok] 95∧∀(vb:Bool) (w':World),vb=(ok && ok4)→FrO (fun j=>j=b) w4 w'→Blk w' b #[.slice A ws.length ws.length,.bool vb] 95→∃n o',Ending.returned (.int .i64 x)=.returned (.int .i64 n)∧Rd b o' w'∧o'=(rdI o).map (·.2)∧(∀p,rdI o=some p→n=p.1)∧FrO (fun j=>j=b) w w':=by
  intro ok4 x w4 hb4 hy hn
  have h4:=HR3.out.fr (FrO.of (O:=fun _=>False) hb4) (fun _ _ h=>h)
  obtain⟨ok,ws,A,ho,hB,hfin⟩:=h4.fin (w':=w4) true true
  refine⟨ok,ws,A,hB,fun vb w' hvb hf hB'=>?_⟩
  have E:=rdI_end HO3.out ho HS3.out hy hn
  exact⟨x,_,rfl,hfin vb w' hf hB',by rw [hvb];exact E.1,E.2,(HF3.out.trans (FrO.of (O:=fun _=>False) hb4) (fun j h=>h.elim)).trans hf (fun j h=>Or.inl h)⟩
 have MAIN:=hide main
 clear main
 have okc:(∃n,Lib.atoiAll s.data.toList=.ok n)∨∀v,Lib.atoiAll s.data.toList≠.ok v:=by
  cases hh:Lib.atoiAll s.data.toList with
  | ok v=>exact Or.inl ⟨v,rfl⟩
  | range=>exact Or.inr fun v e=>by cases e
  | _=>exact Or.inr fun v e=>by cases e
 rcases okc with⟨n,hn⟩ | hno
 case inl=>
  have AT:=hide (atoi_ok s n hz3 hn w3)
  have h64:I64 n:=Lib.atoiAll_bounds hn
  have IT:=hide (fun W (hW:TabP W)=>itoa_any n h64 W hW)
  by_cases hd:Lib.itoa n=s.data.toList
  case pos=>
   have HY:=hide (show numW s=some n by unfold numW;rw [hn];simp only [];rw [if_pos hd])
   have q1:(Lib.itoa n == s.toList)=true:=by
    rw [ByteArray.toList_eq]
    simp [hd]
   clear hd hn
   go_wp2_with (first | (go_at_call 137;refine AT.out.mono ?_;rintro e w4 ⟨rfl,hb4⟩;have HT4:=hide (HT.out.below (HB3.out.trans (hb4.mono HB3.out.size)));have HB4:=hide hb4;clear hb4) | (go_at_call 82;refine(IT.out _ HT4.out).mono ?_;rintro e w5 ⟨rfl,hb5⟩))
   go_ret
   obtain⟨ok,ws,A,hB,fin⟩:=MAIN.out true n w5 (HB4.out.trans (hb5.mono HB4.out.size)) (fun _=>HY.out) (fun h=>Bool.noConfusion h)
   exact fin ok w5 (Bool.and_true _).symm (FrO.of (Below.refl _ _)) hB
  case neg=>
   have HN:=hide (show numW s=none by unfold numW;rw [hn];simp only [];rw [if_neg hd])
   have q1:(Lib.itoa n == s.toList)=false:=by
    rw [ByteArray.toList_eq]
    simpa using hd
   clear hd hn
   go_wp2_with (first | (go_at_call 137;refine AT.out.mono ?_;rintro e w4 ⟨rfl,hb4⟩;have HT4:=hide (HT.out.below (HB3.out.trans (hb4.mono HB3.out.size)));have HB4:=hide hb4;clear hb4) | (go_at_call 82;refine(IT.out _ HT4.out).mono ?_;rintro e w5 ⟨rfl,hb5⟩;obtain⟨ok,ws,A,hB,fin⟩:=MAIN.out false n w5 (HB4.out.trans (hb5.mono HB4.out.size)) (fun h=>Bool.noConfusion h) (fun _=>HN.out);have c1:=hB.cells 1;have f1:=hB.free 1;simp at c1;have HBB:=hide hB;have FIN:=hide fin;clear fin hB))
   go_ret
   exact FIN.out false _ (Bool.and_false _).symm (FrO.set rfl) (HBB.out.put rfl)
 case inr=>
  have AT:=hide (atoi_no s hz3 hno w3 (HE.out.below HB3.out))
  have HN:=hide (show numW s=none by
   unfold numW
   cases hh:Lib.atoiAll s.data.toList with
   | ok v=>exact absurd hh (hno v)
   | range=>rfl
   | _=>rfl)
  clear hno
  go_wp2_with (first | (go_at_call 137;refine AT.out.mono ?_;rintro e w4 ⟨v,T,N,rfl,hb4⟩;obtain⟨ok,ws,A,hB,fin⟩:=MAIN.out false v w4 hb4 (fun h=>Bool.noConfusion h) (fun _=>HN.out);have c1:=hB.cells 1;have f1:=hB.free 1;simp at c1;have HBB:=hide hB;have FIN:=hide fin;clear fin hB hb4))
  go_ret
  exact FIN.out false _ (Bool.and_false _).symm (FrO.set rfl) (HBB.out.put rfl)
end Go.Proofs.YtlhakdildbplkaaGreatDoor
