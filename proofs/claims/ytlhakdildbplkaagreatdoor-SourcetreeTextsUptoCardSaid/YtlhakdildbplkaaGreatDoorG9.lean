/- Part of the claim: its words. -/
import Derived.Test.YtlhakdildbplkaaGreatDoorG8
import Derived.Test.YtlhakdildbplkaaGreatDoorG6
import Derived.Great.BuildSlice
set_option maxRecDepth 100000
set_option maxHeartbeats 2000000
namespace Go.Proofs.YtlhakdildbplkaaGreatDoor
set_option linter.unusedSimpArgs false
set_option linter.unusedVariables false
open Go.RowKit
def strV (l:List ByteArray):List Value:=l.map .string
theorem strV_snoc (l:List ByteArray) (s:ByteArray):strV l++(#[Value.string s]:Array Value).toList=strV (l++[s]):=by unfold strV;rw [List.map_append];rfl
def PthI (B c:Nat) (s:List ByteArray) (O:Nat→Prop) (w:World):Prop:=∃v,Blk w c #[v] 38∧w.ownsRow B 9 1 v s.length (strV s)∧O=(fun j=>j=c∨v.ownBlock=some j)∧v.ownBlock≠some c
theorem FrO.grown {O:Nat→Prop} {w w':World} {row:Option Nat} (h:w.grownBy w' row) (ho:∀j,row=some j→O j):FrO O w w':=⟨h.os,h.tape,h.output,h.size,fun j hj hn=>h.block j hj (fun e=>hn (ho j e.symm))⟩
theorem own_neBlk {w:World} {B g:Nat} {T U:TypeId} {v:Value} {n k:Nat} {xs:List Value} {cs:Array Value} (h:w.ownsRow B T k v n xs) (hb:Blk w g cs U) (hTU:T≠U):v.ownBlock≠some g:=by
 intro e
 rcases h.2 with⟨rfl,_⟩ | ⟨g',cap,cur,rfl,_,hh,_⟩
 ·cases e
 ·injection e with e
  have e':g'=g:=e
  subst e'
  unfold Blk at hb
  rw [hb] at hh
  injection hh with hh
  injection hh with _ h2
  exact hTU h2.symm
theorem own_slice {w:World} {B:Nat} {T:TypeId} {v:Value} {n k:Nat} {xs:List Value} (h:w.ownsRow B T k v n xs):∃A cap,v=.slice A n cap:=by
 rcases h.2 with⟨rfl,rfl⟩ | ⟨g',cap,cur,rfl,_⟩
 ·exact⟨_,_,rfl⟩
 ·exact⟨_,_,rfl⟩
theorem own_set {w:World} {B:Nat} {T:TypeId} {v u:Value} {n k g i:Nat} {xs:List Value} (h:w.ownsRow B T k v n xs) (hn:v.ownBlock≠some g):(w.setCell ⟨g,i,none⟩ u).ownsRow B T k v n xs:=by
 refine⟨h.1,?_⟩
 rcases h.2 with h2 | ⟨g',cap,cur,hv,hg,hh,r⟩
 ·exact Or.inl h2
 ·exact Or.inr ⟨g',cap,cur,hv,hg,(Below.heap_setCell _ _ _ _ (fun e=>hn (by rw [hv,e];rfl))).trans hh,r⟩
theorem pth1_any (B c:Nat) (s:List ByteArray) (cells:Array Value) (p:ByteArray) (l:Int) (O:Nat→Prop) (w:World) (hs:s.length≤1000000) (hBw:B≤w.heap.size) (hc:PthI B c s O w) :
  Calls Tryz.prog 69 #[.agg cells,.string p,.int .i64 l,.pointer (some ⟨c,0,none⟩)] w fun e w'=>e=.returned (.bool true)∧(∃O',PthI B c (s++[p]) O' w'∧∀j,O' j→O j∨w.heap.size≤j)∧FrO O w w':=by
 obtain⟨v,hv,hown,rfl,hne⟩:=hc
 have HV:=hide hv
 have HO:=hide hown
 have hlt:=hv.lt
 clear hv hown
 have HL:Live w []:=trivial
 go_enter Tryz.func69,Tryz.ntmps69
 go_upto_region 1 with fail
 have HV1:=hide (HV.out.alloc (.cells cells 25))
 have HO1:=hide (HO.out.alloc (.cells cells 25))
 have hbel1:Below w.heap.size w (w.alloc (.cells cells 25)):=by(exact bl)
 generalize w.alloc (.cells cells 25)=W1 at *
 have c0:W1.cell? ⟨c,0,none⟩=some v:=HV1.out.cells 0
 have hB1:=hbel1.size
 clear HV HO
 go_upto_region 2 with ((at_builtin;refine wpList_append_blk _ rfl _ _ 38 rfl B 9 strInfo Tryz.underlying38 rfl (by decide) v _ _ (HO1.out.alloc _) W1.heap.size #[.string p] (Blk.newAt rfl) rfl rfl rfl (by simp [Value.oneCell']) (by unfold maxLen;omega) (by omega) (by rw [World.size_alloc];omega) ?_;intro v2 w2 hown2 hnb2 hg2;obtain⟨A2,cap2,hv2⟩:=own_slice hown2;subst hv2;have HV2:=hide (show Blk w2 c #[v] 38 from(hg2.block c (by rw [World.size_alloc];omega) (fun e=>hne e.symm)).trans (HV1.out.alloc _));have f2:=HV2.out.free 0;have c2:=HV2.out.cells 0))
 go_wp2_with fail
 go_ret
 have hn2:(Value.slice A2 (s.length+1) cap2).ownBlock≠some c:=by
  rcases hnb2 with h | h
  ·rw [h];exact hne
  ·rw [h,World.size_alloc];intro e;injection e with e;omega
 refine⟨rfl,⟨fun j=>j=c∨(Value.slice A2 (s.length+1) cap2).ownBlock=some j,⟨_,HV2.out.put rfl,?_,rfl,hn2⟩,?_⟩,?_⟩
 ·rw [List.length_append,←strV_snoc]
  exact own_set hown2 hn2
 ·intro j hj
  rcases hj with h | h
  ·left;exact Or.inl h
  ·rcases hnb2 with h2 | h2
   ·left;exact Or.inr (h2 ▸ h)
   ·right;rw [h2,World.size_alloc] at h;injection h with h;omega
 ·have f1:FrO (fun j=>j=c∨v.ownBlock=some j) w W1:=FrO.of hbel1
  have f2:FrO (fun j=>j=c∨v.ownBlock=some j) w (W1.alloc (.cells #[.string p] 9)):=f1.trans (FrO.of (O:=fun j=>j=c∨v.ownBlock=some j) ((Below.refl _ _).alloc (Nat.le_refl _) _)) (fun j h=>Or.inl h)
  have f3:FrO (fun j=>j=c∨v.ownBlock=some j) w w2:=f2.trans (FrO.grown (O:=fun j=>j=c∨v.ownBlock=some j) hg2 (fun j h=>by exact Or.inr h)) (fun j h=>Or.inl h)
  exact f3.trans (FrO.set (O:=fun j=>j=c∨v.ownBlock=some j) (by exact Or.inl rfl)) (fun j h=>Or.inl h)
theorem pth_visit (B c Z:Nat) (hc:B≤c):VisitOK (fun (s:List ByteArray) _ p _=>(true,s++[p])) (fun s _=>s.length≤1000000) (PthI B c) B Z 69 #[.pointer (some ⟨c,0,none⟩)]:=
 ⟨enters_of Tryz.func69 (by kernel_rfl) rfl,
 fun s O w j ⟨v,hb,ho,e,_⟩ h=>by
  subst e
  rcases h with rfl | h
  ·exact⟨hc,hb.lt⟩
  ·exact ho.lt j h,
 fun s O w w' ⟨v,hb,ho,e,h4⟩ h=>⟨v,Blk.below h hb,below_row' ho h,e,h4⟩,
 fun s t p l v O w hG _ _ _ hI hBw hv=>by
  obtain⟨cells,rfl,-,-⟩:=hv.cells
  exact pth1_any B c s cells p l O w hG hBw hI⟩
theorem pathsF_len:∀(f:Fo) (p:ByteArray) (l:Nat),(pathsF f p l).length=f.count
 | .nil,_,_=>rfl
 | .node h ss ks nx,p,l=>by
  unfold pathsF Fo.count
  rw [List.length_append,List.length_cons,pathsF_len ks,pathsF_len nx]
theorem good_paths:∀(f:Fo) (p:ByteArray) (l:Nat) (s:List ByteArray) (M:Nat),s.length+f.count≤M+1→goodF (fun (s:List ByteArray) (_:Tr) p (_:Nat)=>(true,s++[p])) (fun s _=>s.length≤M) f p l s
 | .nil,_,_,_,_,_=>trivial
 | .node h ss ks nx,p,l,s,M,hM=>by
  rw [Fo.count_node] at hM
  have hw:walkT (fun (s:List ByteArray) (_:Tr) p (_:Nat)=>(true,s++[p])) ⟨h,ss,ks⟩ (belowP p h.name l) (l+1) s=(true,s++[belowP p h.name l]++pathsF ks (belowP p h.name l) (l+1)):=by
   unfold walkT
   dsimp only
   rw [if_pos rfl,walk_paths]
  refine⟨⟨by omega,fun _=>good_paths ks _ _ _ M (by rw [List.length_append];show s.length+1+_≤_;omega)⟩,fun _=>?_⟩
  rw [hw]
  exact good_paths nx _ _ _ M (by simp only [List.length_append,List.length_cons,List.length_nil,pathsF_len];omega)
def StrsR (w:World) (B:Nat) (v:Value) (l:List ByteArray):Prop:=w.ownsRow B 9 1 v l.length (strV l)
theorem paths_any (t:Tr) (hsz:t.sz≤60000) (v:Value) (w:World) (hT:TabV w) (hv:TreeR w w.heap.size v t):Calls Tryz.prog 27 #[v] w fun e w'=>∃r,e=.returned r∧StrsR w' w.heap.size r (pathsT t)∧Below w.heap.size w w':=by
 have HP:=hide (show pathsT t=if validB t then eS :: pathsF t.ks eS 1 else [] from rfl)
 have VN:=hide (fun W hTW hW=>valid_any t (Or.inl hsz) v W hTW hW)
 have HV:=hide hv
 obtain⟨cells,rfl,hz,h1c⟩:=hv.cells
 have HZ:=hide hz
 clear hv hz h1c
 have HL:Live w []:=trivial
 go_enter Tryz.func27,Tryz.ntmps27
 go_upto_region 1 with fail
 have HB:=hide (show Blk (w.alloc (.cells cells 25)) w.heap.size cells 25 from Blk.newAt rfl)
 have hbel1:Below w.heap.size w (w.alloc (.cells cells 25)):=by(exact bl)
 have HV1:=hide (HV.out.later hbel1)
 have HT1:=hide (hT.below hbel1)
 generalize w.alloc (.cells cells 25)=W1 at *
 obtain⟨b,hb⟩:∃b,b=w.heap.size:=⟨_,rfl⟩
 rw [←hb] at HB ⊢
 clear hb hT
 cases hvb:validB t
 case false=>
  have HR:=hide (show pathsT t=[] by rw [HP.out,hvb];rfl)
  rw [hvb] at VN
  clear hvb
  go_wp2_with (first | (refine wpList_load_row rfl 25 (.tmp 1) rfl b rfl 25 cells (0,0) _ HB.out Tryz.underlying25 rfl (infN HZ.out) ?_) | (go_at_call 20;refine(VN.out _ HT1.out HV1.out).mono ?_;rintro e w3 ⟨rfl,hb3⟩))
  go_ret
  exact⟨_,rfl,by rw [HR.out];exact World.ownsRow_nil _ _ _ _,hbel1.trans (hb3.mono hbel1.size)⟩
 case true=>
  have HR:=hide (show pathsT t=eS :: pathsF t.ks eS 1 by rw [HP.out,hvb];rfl)
  rw [hvb] at VN
  clear hvb
  go_upto_region 4 with (first | (refine wpList_load_row rfl 25 (.tmp 1) rfl b rfl 25 cells (0,0) _ HB.out Tryz.underlying25 rfl (infN HZ.out) ?_) | (go_at_call 20;refine(VN.out _ HT1.out HV1.out).mono ?_;rintro e w3 ⟨rfl,hb3⟩))
  have hbel3:=hbel1.trans (hb3.mono hbel1.size)
  have HB3:=hide ((Blk.below hb3 HB.out).alloc (.cells #[.slice none 0 0] 38))
  have hbel4:Below w.heap.size w (w3.alloc (.cells #[.slice none 0 0] 38)):=hbel3.alloc hbel3.size _
  have HI:=hide (show PthI w.heap.size w3.heap.size [] (fun j=>j=w3.heap.size∨(Value.slice none 0 0).ownBlock=some j) (w3.alloc (.cells #[.slice none 0 0] 38)) from⟨_,Blk.newAt rfl,World.ownsRow_nil _ _ _ _,rfl,fun e=>by cases e⟩)
  have hc0:w.heap.size≤w3.heap.size:=hbel3.size
  generalize w3.alloc (.cells #[.slice none 0 0] 38)=W4 at *
  generalize w3.heap.size=c at *
  have hcn:t.count≤500000:=by have:=t.count_sz;omega
  have WK0:=walk_any (pth_visit w.heap.size c 60000 hc0) 500000 t hcn hsz (by omega) eS 1 (by omega) (by have:=t.ks.wt_sz;unfold Tr.sz at hsz;show 0+1+_≤_;omega) [] _ (.agg cells) W4
   ⟨by simp,fun _=>good_paths t.ks eS 1 _ 1000000 (by unfold Tr.count at hcn;simp;omega)⟩ HI.out hbel4.size (HV.out.below hbel4)
  rw [walkT_paths] at WK0
  have WK:=hide (show Calls Tryz.prog 46 #[.agg cells,.string ⟨#[]⟩,.int .i64 1,.func (.func 69) #[] #[.pointer (some ⟨c,0,none⟩)]] W4 (WPost (PthI w.heap.size c) (fun j=>j=c∨(Value.slice none 0 0).ownBlock=some j) W4 (true,eS :: pathsF t.ks eS 1)) from WK0)
  clear WK0 HI
  go_upto_region 5 with (first | (refine wpList_load_row rfl 25 (.tmp 1) rfl b rfl 25 cells (0,0) _ HB3.out Tryz.underlying25 rfl (infN HZ.out) ?_) | (go_at_call 46;refine WK.out.mono ?_;rintro e w5 ⟨rfl,⟨O5,⟨v5,hv5,ho5,hO5,hne5⟩,hO52⟩,hf5⟩))
  have c0:=hv5.cells 0
  have hbel5:Below w.heap.size w w5:=hbel4.trans (hf5.below hbel4.size (fun j h=>by rcases h with rfl | h;exact hc0;cases h))
  have HO5:=hide ho5
  clear WK HB3 hv5 hO52 hf5 ho5 hO5 hne5
  go_wp2_with fail
  go_ret
  exact⟨_,rfl,by rw [HR.out];exact HO5.out,hbel5⟩
theorem own_base {w:World} {B B':Nat} {T:TypeId} {v:Value} {n k:Nat} {xs:List Value} (h:w.ownsRow B' T k v n xs) (hB:B≤B'):w.ownsRow B T k v n xs:=by
 refine⟨h.1,?_⟩
 rcases h.2 with h2 | ⟨g',cap,cur,hv,hg,r⟩
 ·exact Or.inl h2
 ·exact Or.inr ⟨g',cap,cur,hv,Nat.le_trans hB hg,r⟩
theorem KeepC.grown {g o k b:Nat} {kc:Array Value} {nm:ByteArray} {v:Value} {z z':World} {row:Option Nat} (hg:g < z.heap.size) (hb:b < z.heap.size) (hgr:row≠some g) (hbr:row≠some b) (h:KeepC g o k b kc nm v z) (hz:z.grownBy z' row):KeepC g o k b kc nm v z':=
 have e:∀i j,i < z.heap.size→row≠some i→z'.cell? ⟨i,j,none⟩=z.cell? ⟨i,j,none⟩:=fun i j h1 h2=>World.cell?_of_block (hz.block i h1 (fun e=>h2 e.symm))
 ⟨fun j u hu=>(e g _ hg hgr).trans (h.1 j u hu),(e g _ hg hgr).trans h.2.1,(e b _ hb hbr).trans h.2.2⟩
def SlR (w:World) (B:Nat) (v:Value) (l:List ByteArray):Prop:=∃A c,v=.slice A l.length c∧(0 < l.length→∃g o,A=some ⟨g,o,none⟩∧g < B∧∀j s,l[j]? = some s→w.cell? ⟨g,o+j,none⟩=some (.string s))
theorem SlR.of {w:World} {B:Nat} {v:Value} {l:List ByteArray} (h:StrsR w B v l):SlR w w.heap.size v l:=by
 obtain⟨A,c,rfl⟩:=own_slice h
 refine⟨A,c,rfl,fun h0=>?_⟩
 obtain⟨g,cap,e,_,hl,_,hc⟩:=own_at h h0
 injection e with e1 e2 e3
 subst e1
 exact⟨g,0,rfl,hl,fun j s hs=>by rw [Nat.zero_add];exact hc j _ (by unfold strV;rw [List.getElem?_map,hs];rfl)⟩
theorem SlR.below {w w':World} {B:Nat} {v:Value} {l:List ByteArray} (hb:Below B w w') (h:SlR w B v l):SlR w' B v l:=by
 obtain⟨A,c,e,h⟩:=h
 exact⟨A,c,e,fun h0=>by
  obtain⟨g,o,e2,hg,hc⟩:=h h0
  exact⟨g,o,e2,hg,fun j s hs=>(hb.cell (p:=⟨g,o+j,none⟩) hg).trans (hc j s hs)⟩⟩
theorem SlR.mono {w:World} {B B':Nat} {v:Value} {l:List ByteArray} (hB:B≤B') (h:SlR w B v l):SlR w B' v l:=by
 obtain⟨A,c,e,h⟩:=h
 exact⟨A,c,e,fun h0=>by
  obtain⟨g,o,e2,hg,hc⟩:=h h0
  exact⟨g,o,e2,Nat.lt_of_lt_of_le hg hB,hc⟩⟩
theorem sne_y {a b:ByteArray} (h:a≠b):(a.toList != b.toList)=true:=by rw [bne,seq_n h];rfl
theorem drop_eq_cons {α:Type} {l m:List α} {k:Nat} {x y:α} (hx:l[k]? = some x) (hy:m[k]? = some y):(l.drop k=m.drop k↔x=y∧l.drop (k+1)=m.drop (k+1)):=by
 obtain⟨h1,e1⟩:=List.getElem?_eq_some_iff.1 hx
 obtain⟨h2,e2⟩:=List.getElem?_eq_some_iff.1 hy
 rw [List.drop_eq_getElem_cons h1,List.drop_eq_getElem_cons h2,e1,e2,List.cons.injEq]
theorem sequal_any (L M:List ByteArray) (a b:Value) (B:Nat) (hL:L.length≤100000) (hM:M.length≤100000) (w:World) (ha:SlR w B a L) (hb:SlR w B b M):Calls Tryz.prog 43 #[a,b] w fun e w'=>e=.returned (.bool (decide (L=M)))∧Below w.heap.size w w':=by
 obtain⟨A,c,rfl,ha⟩:=ha
 obtain⟨A2,c2,rfl,hb⟩:=hb
 have HA:=hide ha
 have HB:=hide hb
 clear ha hb
 have HL:Live w []:=trivial
 go_enter Tryz.func43,Tryz.ntmps43
 by_cases hlen:L.length=M.length
 case neg=>
  have HZ:=hide (show decide (L=M)=false from decide_eq_false (fun e=>hlen (by rw [e])))
  have q:((L.length:Int) != (M.length:Int))=true:=by simp;omega
  have HQ:=hide hlen
  clear hlen
  go_wp2_with fail
  go_ret
  exact⟨ret_b HZ.out.symm,Below.refl _ _⟩
 case pos=>
 have HLN:=hide hlen
 have q:((L.length:Int) != (M.length:Int))=false:=by simp;omega
 clear hlen
 go_wp2_with fail
 go_loopw [13] (fun i wr=>∃k:Nat,i=.int .i64 (k:Int)∧k≤L.length∧(L=M↔L.drop k=M.drop k)∧Below w.heap.size w wr∧(∀g,wr.cell? g=w.cell? g)) (fun i _=>L.length - (intOf i).toNat)
 case atStart=>exact⟨0,rfl,by omega,Iff.rfl,Below.refl _ _,fun _=>rfl⟩
 case round=>
  obtain⟨k,rfl,hk,hiff,hbel,hcs⟩:=hrel
  have HI:=hide hiff
  have HCS:=hide hcs
  clear hiff hcs
  by_cases hlt:k < L.length
  case neg=>
   have HZ:=hide (show decide (L=M)=true from decide_eq_true (HI.out.2 (by rw [List.drop_of_length_le (by omega),List.drop_of_length_le (by have:=HLN.out;omega)])))
   go_wp2_with fail
   go_ret
   exact⟨ret_b HZ.out.symm,hbel⟩
  case pos=>
  have hltM:k < M.length:=by have:=HLN.out;omega
  obtain⟨x,hx⟩:∃x,L[k]? = some x:=⟨_,List.getElem?_eq_getElem hlt⟩
  obtain⟨y,hy⟩:∃y,M[k]? = some y:=⟨_,List.getElem?_eq_getElem hltM⟩
  obtain⟨g,o,rfl,hg,hc⟩:=HA.out (by omega)
  obtain⟨g2,o2,rfl,hg2,hc2⟩:=HB.out (by omega)
  have c1:wr.cell? ⟨g,o+k,none⟩=some (.string x):=(HCS.out _).trans (hc k x hx)
  have c2':wr.cell? ⟨g2,o2+k,none⟩=some (.string y):=(HCS.out _).trans (hc2 k y hy)
  have HD:=hide (drop_eq_cons hx hy)
  clear hx hy hc hc2
  by_cases hxy:x=y
  ·have q1:=seq_y hxy
   have HE:=hide (show(L=M↔L.drop (k+1)=M.drop (k+1)) by rw [HI.out,HD.out];simp [hxy])
   clear hxy HD
   go_upto_region 6 with fail
   go_quiet (fail)
   go_wp2_with fail
   go_roundw
   case rel=>exact⟨k+1,by go_num,by omega,HE.out,below_drewN' hbel,fun g=>HCS.out g⟩
   case measure=>simp [intOf];omega
  ·have q1:=seq_n hxy
   have HE:=hide (show decide (L=M)=false from decide_eq_false (fun e=>hxy (HD.out.1 (HI.out.1 e)).1))
   clear hxy HD
   go_upto_region 6 with fail
   go_quiet (fail)
   go_wp2_with fail
   go_ret
   exact⟨ret_b HE.out.symm,below_drewN' hbel⟩
def stV (ss:List St):List Value:=ss.flatMap fun s=>[.string s.1,.string s.2]
theorem stV_len (ss:List St):(stV ss).length=ss.length*2:=by
 induction ss with
 | nil=>rfl
 | cons s l ih=>show(stV l).length+2=_;rw [ih,List.length_cons];omega
theorem stV_get:∀(ss:List St) (j:Nat) (s:St),ss[j]? = some s→(stV ss)[j*2]? = some (.string s.1)∧(stV ss)[j*2+1]? = some (.string s.2)
 | [],_,_,h=>by simp at h
 | a :: l,0,s,h=>by
  have e:a=s:=by simpa using h
  subst e
  exact⟨rfl,rfl⟩
 | a :: l,j+1,s,h=>by
  have ih:=stV_get l j s (by simpa using h)
  have e1:(j+1)*2=j*2+2:=by omega
  have e2:(j+1)*2+1=j*2+1+2:=by omega
  show(Value.string a.1 :: Value.string a.2 :: stV l)[_]? = _ ∧ (Value.string a.1 :: Value.string a.2 :: stV l)[_]? = _
  rw [e2,e1]
  exact ih
theorem stV_app (a b:List St):stV (a++b)=stV a++stV b:=by unfold stV;exact List.flatMap_append
theorem stV_one (ss:List St):∀u∈stV ss,u.oneCell'=true:=by
 intro u hu
 unfold stV at hu
 obtain⟨s,_,hs⟩:=List.mem_flatMap.1 hu
 simp at hs
 rcases hs with rfl | rfl <;> rfl
theorem StR.of_own {w:World} {lo B:Nat} {sv:Value} {ss:List St} (hB:w.heap.size≤B) (h:w.ownsRow lo 69 2 sv ss.length (stV ss)):StR w B sv ss:=by
 obtain⟨A,c,rfl⟩:=own_slice h
 refine⟨A,c,rfl,fun h0=>?_⟩
 obtain⟨g,cap,e,_,hl,_,hc⟩:=own_at h h0
 injection e with e1 e2 e3
 subst e1
 refine⟨g,0,rfl,by omega,fun j s hs=>?_⟩
 have:=stV_get ss j s hs
 rw [Nat.zero_add,Nat.zero_add]
 exact⟨hc _ _ this.1,hc _ _ this.2⟩
def RowR (w:World) (B:Nat):Fo→List Value→Prop
 | .nil,xs=>xs=[]
 | .node h ss ks nx,xs=>∃kv sv xs',xs=(h.cells kv sv).toList++xs'∧StR w B sv ss∧KidR w B kv ks∧RowR w B nx xs'
theorem RowR.len {w:World} {B:Nat}:∀ {f:Fo} {xs:List Value},RowR w B f xs→xs.length=f.len*12
 | .nil,_,h=>by
  have h':_=[]:=h
  rw [h'];rfl
 | .node h ss ks nx,_,⟨kv,sv,xs',e,_,_,hn⟩=>by
  have:=RowR.len hn
  rw [e,List.length_append,this,Fo.len]
  show 12+_=_
  omega
theorem RowR.for {w:World} {B:Nat} {g:Nat}:∀ {f:Fo} {xs:List Value} {o:Nat},RowR w B f xs→(∀j u,xs[j]? = some u→w.cell? ⟨g,o+j,none⟩=some u)→ForR w B f g o
 | .nil,_,_,_,_=>trivial
 | .node h ss ks nx,xs,o,⟨kv,sv,xs',e,hs,hk,hn⟩,hc=>by
  subst e
  refine⟨⟨kv,sv,fun j u hu=>hc j u ?_,hs,hk⟩,RowR.for hn fun j u hu=>?_⟩
  ·have hj:j < (h.cells kv sv).toList.length:=(List.getElem?_eq_some_iff.1 hu).1
   rw [List.getElem?_append_left hj];exact hu
  ·have:=hc (12+j) u (by rw [List.getElem?_append_right (show(h.cells kv sv).toList.length≤12+j from Nat.le_add_right _ _)];show xs'[12+j - 12]? = _;rw [Nat.add_sub_cancel_left];exact hu)
   rw [show o+12+j=o+(12+j) by omega]
   exact this
theorem KidR.of_own {w:World} {lo B:Nat} {kv:Value} {ks:Fo} {xs:List Value} (hB:w.heap.size≤B) (h:w.ownsRow lo 25 12 kv ks.len xs) (hr:RowR w B ks xs):KidR w B kv ks:=by
 obtain⟨A,c,rfl⟩:=own_slice h
 refine⟨A,c,rfl,fun h0=>?_⟩
 obtain⟨g,cap,e,_,hl,_,hc⟩:=own_at h h0
 injection e with e1 e2 e3
 subst e1
 exact⟨g,0,rfl,by omega,hr.for fun j u hu=>by rw [Nat.zero_add];exact hc j u hu⟩
def RowS (w:World) (lo:Nat):Fo→List Value→(Nat→Prop)→Prop
 | .nil,xs,_=>xs=[]
 | .node h ss ks nx,xs,O=>∃(kv sv:Value) (xs':List Value) (O1 On:Nat→Prop),xs=(h.cells kv sv).toList++xs'∧w.ownsRow lo 69 2 sv ss.length (stV ss) ∧
  (∃(xk:List Value) (Ok:Nat→Prop),w.ownsRow lo 25 12 kv ks.len xk∧RowS w lo ks xk Ok∧(∀j,Ok j→O1 j∧kv.ownBlock≠some j)∧(∀j,kv.ownBlock=some j→O1 j)) ∧
  RowS w lo nx xs' On∧(∀j,O1 j→O j∧¬On j)∧(∀j,On j→O j)
def KidS (w:World) (lo:Nat) (kv:Value) (ks:Fo) (O:Nat→Prop):Prop:=∃xk Ok,w.ownsRow lo 25 12 kv ks.len xk∧RowS w lo ks xk Ok∧(∀j,Ok j→O j∧kv.ownBlock≠some j)∧(∀j,kv.ownBlock=some j→O j)
theorem RowS.len {w:World} {lo:Nat}:∀ {f:Fo} {xs:List Value} {O:Nat→Prop},RowS w lo f xs O→xs.length=f.len*12
 | .nil,_,_,h=>by
  have h':_=[]:=h
  rw [h'];rfl
 | .node h ss ks nx,_,_,⟨kv,sv,xs',O1,On,e,_,_,hn,_,_⟩=>by
  have:=RowS.len hn
  rw [e,List.length_append,this,Fo.len]
  show 12+_=_
  omega
def StrK (w w':World):Prop:=∀(j:Nat) (cs:Array Value) (fr:Nat × Nat),w.heap[j]? = some (Obj.cells cs 69 fr)→w'.heap[j]? = w.heap[j]?
theorem own_keep {w w':World} {B:Nat} {T:TypeId} {v:Value} {n k:Nat} {xs:List Value} (h:w.ownsRow B T k v n xs) (he:∀(g:Nat) (cs:Array Value),v.ownBlock=some g→w.heap[g]? = some (Obj.cells cs T (0,0))→w'.heap[g]? = w.heap[g]?):w'.ownsRow B T k v n xs:=by
 refine⟨h.1,?_⟩
 rcases h.2 with h2 | ⟨g',cap,cur,hv,hg,hh,r⟩
 ·exact Or.inl h2
 ·exact Or.inr ⟨g',cap,cur,hv,hg,(he g' cur (by rw [hv];rfl) hh).trans hh,r⟩
theorem RowS.frame {w w':World} {lo:Nat} (hS:StrK w w'):∀ {f:Fo} {xs:List Value} {O:Nat→Prop},(∀j,j < w.heap.size→O j→w'.heap[j]? = w.heap[j]?)→RowS w lo f xs O→RowS w' lo f xs O
 | .nil,_,_,_,h=>h
 | .node h ss ks nx,_,O,hO,⟨kv,sv,xs',O1,On,e,hs,⟨xk,Ok,hk,hr,h1,h2⟩,hn,h3,h4⟩=>
  ⟨kv,sv,xs',O1,On,e,own_keep hs fun g cs _ hg=>hS g cs _ hg,⟨xk,Ok,own_keep hk fun g cs hg hh=>hO g (by
   rcases Nat.lt_or_ge g w.heap.size with h' | h'
   ·exact h'
   ·rw [Array.getElem?_eq_none h'] at hh;cases hh) (h3 g (h2 g hg)).1,RowS.frame hS (fun j hj hoj=>hO j hj (h3 j (h1 j hoj).1).1) hr,h1,h2⟩,
   RowS.frame hS (fun j hj hoj=>hO j hj (h4 j hoj)) hn,h3,h4⟩
theorem KidS.frame {w w':World} {lo:Nat} {kv:Value} {ks:Fo} {O:Nat→Prop} (hS:StrK w w') (hO:∀j,j < w.heap.size→O j→w'.heap[j]? = w.heap[j]?) (h:KidS w lo kv ks O):KidS w' lo kv ks O:=by
 obtain⟨xk,Ok,hk,hr,h1,h2⟩:=h
 exact⟨xk,Ok,own_keep hk fun g cs hg hh=>hO g (by
  rcases Nat.lt_or_ge g w.heap.size with h' | h'
  ·exact h'
  ·rw [Array.getElem?_eq_none h'] at hh;cases hh) (h2 g hg),hr.frame hS (fun j hj hoj=>hO j hj (h1 j hoj).1),h1,h2⟩
theorem StrK.below {w w':World} (h:Below w.heap.size w w'):StrK w w':=fun j cs fr hj=>h.block j (by
 rcases Nat.lt_or_ge j w.heap.size with h' | h'
 ·exact h'
 ·rw [Array.getElem?_eq_none h'] at hj;cases hj)
theorem RowS.below {w w':World} {lo:Nat} {f:Fo} {xs:List Value} {O:Nat→Prop} (hb:Below w.heap.size w w') (h:RowS w lo f xs O):RowS w' lo f xs O:=h.frame (StrK.below hb) fun j hj _=>hb.block j hj
theorem KidS.below {w w':World} {lo:Nat} {kv:Value} {ks:Fo} {O:Nat→Prop} (hb:Below w.heap.size w w') (h:KidS w lo kv ks O):KidS w' lo kv ks O:=h.frame (StrK.below hb) fun j hj _=>hb.block j hj
theorem RowS.sub {w:World} {lo:Nat}:∀ {f:Fo} {xs:List Value} {O O':Nat→Prop},(∀j,O j→O' j)→RowS w lo f xs O→RowS w lo f xs O'
 | .nil,_,_,_,_,h=>h
 | .node _ _ _ _,_,_,_,hO,⟨kv,sv,xs',O1,On,e,hs,hk,hn,h3,h4⟩=>⟨kv,sv,xs',O1,On,e,hs,hk,hn,fun j hj=>⟨hO j (h3 j hj).1,(h3 j hj).2⟩,fun j hj=>hO j (h4 j hj)⟩
theorem RowS.base {w:World} {lo lo':Nat} (hl:lo'≤lo):∀ {f:Fo} {xs:List Value} {O:Nat→Prop},RowS w lo f xs O→RowS w lo' f xs O
 | .nil,_,_,h=>h
 | .node _ _ _ _,_,_,⟨kv,sv,xs',O1,On,e,hs,⟨xk,Ok,hk,hr,h1,h2⟩,hn,h3,h4⟩=>⟨kv,sv,xs',O1,On,e,own_base hs hl,⟨xk,Ok,own_base hk hl,RowS.base hl hr,h1,h2⟩,RowS.base hl hn,h3,h4⟩
theorem KidS.base {w:World} {lo lo':Nat} {kv:Value} {ks:Fo} {O:Nat→Prop} (hl:lo'≤lo) (h:KidS w lo kv ks O):KidS w lo' kv ks O:=by
 obtain⟨xk,Ok,hk,hr,h1,h2⟩:=h
 exact⟨xk,Ok,own_base hk hl,hr.base hl,h1,h2⟩
theorem RowS.read {w:World} {lo B:Nat} (hB:w.heap.size≤B):∀ {f:Fo} {xs:List Value} {O:Nat→Prop},RowS w lo f xs O→RowR w B f xs
 | .nil,_,_,h=>h
 | .node _ _ _ _,_,_,⟨kv,sv,xs',O1,On,e,hs,⟨xk,Ok,hk,hr,h1,h2⟩,hn,h3,h4⟩=>⟨kv,sv,xs',e,StR.of_own hB hs,KidR.of_own hB hk (RowS.read hB hr),RowS.read hB hn⟩
theorem KidS.read {w:World} {lo B:Nat} {kv:Value} {ks:Fo} {O:Nat→Prop} (hB:w.heap.size≤B) (h:KidS w lo kv ks O):KidR w B kv ks:=by
 obtain⟨xk,Ok,hk,hr,h1,h2⟩:=h
 exact KidR.of_own hB hk (hr.read hB)
theorem Fo.len_app:∀a b:Fo,(a.app b).len=a.len+b.len
 | .nil,b=>(Nat.zero_add _).symm
 | .node h ss ks nx,b=>by rw [Fo.app,Fo.len,Fo.len,Fo.len_app nx b];omega
theorem RowS.snoc {w:World} {lo:Nat} {h:Hd} {ss:List St} {ks:Fo} {kv sv:Value} {O1:Nat→Prop} (hs:w.ownsRow lo 69 2 sv ss.length (stV ss)) (hk:KidS w lo kv ks O1) :
  ∀ {f:Fo} {xs:List Value} {O:Nat→Prop},(∀j,O1 j→¬O j)→RowS w lo f xs O→RowS w lo (f.app (.node h ss ks .nil)) (xs++(h.cells kv sv).toList) (fun j=>O j∨O1 j)
 | .nil,xs,O,hd,e=>by
  have e':xs=[]:=e
  subst e'
  exact⟨kv,sv,[],O1,fun _=>False,by simp,hs,hk,rfl,fun j hj=>⟨Or.inr hj,id⟩,fun _ h=>h.elim⟩
 | .node h' ss' ks' nx,xs,O,hd,⟨kv',sv',xs',P1,Pn,e,hs',hk',hn,h3,h4⟩=>by
  subst e
  refine⟨kv',sv',xs'++(h.cells kv sv).toList,P1,fun j=>Pn j∨O1 j,by rw [List.append_assoc],hs',hk',RowS.snoc hs hk (fun j hj hp=>hd j hj (h4 j hp)) hn,fun j hj=>⟨Or.inl (h3 j hj).1,fun e=>e.elim (h3 j hj).2 fun e=>hd j e (h3 j hj).1⟩,fun j hj=>hj.elim (fun e=>Or.inl (h4 j e)) Or.inr⟩
def Fo.setAt:Fo→Nat→Tr→Fo
 | .nil,_,_=>.nil
 | .node _ _ _ nx,0,k=>.node k.h k.ss k.ks nx
 | .node h ss ks nx,i+1,k=>.node h ss ks (nx.setAt i k)
theorem Fo.setAt_len:∀(f:Fo) (i:Nat) (k:Tr),(f.setAt i k).len=f.len
 | .nil,_,_=>rfl
 | .node _ _ _ nx,0,_=>rfl
 | .node _ _ _ nx,i+1,k=>by rw [Fo.setAt,Fo.len,Fo.len,Fo.setAt_len nx]
theorem RowS.at {w:World} {lo:Nat}:∀ {f:Fo} {i:Nat} {k:Tr} {xs:List Value} {O:Nat→Prop},RowS w lo f xs O→f.list[i]? = some k→∃kv sv O1 xa xb,xs=xa++(k.h.cells kv sv).toList++xb∧xa.length=i*12 ∧
   w.ownsRow lo 69 2 sv k.ss.length (stV k.ss)∧KidS w lo kv k.ks O1∧(∀j,O1 j→O j) ∧
   ∀(w':World) (B':Nat) (k':Tr) (kv' sv':Value),StrK w w'→(∀j,j < w.heap.size→O j→¬O1 j→w'.heap[j]? = w.heap[j]?)→w'.heap.size≤B'→StR w' B' sv' k'.ss→KidR w' B' kv' k'.ks→RowR w' B' (f.setAt i k') (xa++(k'.h.cells kv' sv').toList++xb)
 | .nil,_,_,_,_,_,hi=>by simp [Fo.list] at hi
 | .node h ss ks nx,0,k,xs,O,⟨kv,sv,xs',O1,On,e,hs,hk,hn,h3,h4⟩,hi=>by
  have e2:(⟨h,ss,ks⟩:Tr)=k:=by simpa [Fo.list] using hi
  subst e2
  refine⟨kv,sv,O1,[],xs',by rw [e];rfl,rfl,hs,hk,fun j hj=>(h3 j hj).1,fun w' B' k' kv' sv' hS hO hB hs' hk'=>?_⟩
  exact⟨kv',sv',xs',rfl,hs',hk',(hn.frame hS fun j hj hoj=>hO j hj (h4 j hoj) fun e=>(h3 j e).2 hoj).read hB⟩
 | .node h ss ks nx,i+1,k,xs,O,⟨kv,sv,xs',O1,On,e,hs,hk,hn,h3,h4⟩,hi=>by
  obtain⟨kv2,sv2,O2,xa,xb,e2,hl,hs2,hk2,ho2,hw⟩:=RowS.at hn (i:=i) (k:=k) (by simpa [Fo.list] using hi)
  subst e2
  refine⟨kv2,sv2,O2,(h.cells kv sv).toList++xa,xb,by rw [e];simp only [List.append_assoc],by rw [List.length_append,hl];show 12+_=_;omega,hs2,hk2,fun j hj=>h4 j (ho2 j hj),fun w' B' k' kv' sv' hS hO hB hs' hk'=>?_⟩
  refine⟨kv,sv,xa++(k'.h.cells kv' sv').toList++xb,by simp only [List.append_assoc],?_,?_,hw w' B' k' kv' sv' hS (fun j hj hoj hn2=>hO j hj (h4 j hoj) hn2) hB hs' hk'⟩
  ·exact StR.of_own hB (own_keep hs fun g cs _ hg=>hS g cs _ hg)
  ·exact KidS.read hB (KidS.frame hS (fun j hj hoj=>hO j hj (h3 j hoj).1 (fun e=>(h3 j hoj).2 (ho2 j e))) hk)
theorem strmInfo:(Tryz.prog.info? 69).map (fun i=>(i.zero,i.size,i.bytes))=some (some (.agg #[.string ByteArray.empty,.string ByteArray.empty]),2,32):=by kernel_rfl
theorem nodeInfo:(Tryz.prog.info? 25).map (fun i=>(i.zero,i.size,i.bytes))=some (some (.agg #[.string ByteArray.empty,.int .i64 0,.string ByteArray.empty,.string ByteArray.empty,.int .i64 0,.int .i64 0,.int .i64 0,.int .i64 0,.int .i64 0,.int .i64 0,.slice none 0 0,.slice none 0 0]),12,152):=by kernel_rfl
theorem fillN (h:Hd) (kv sv:Value):Instr.fill (fun i=>some (i*12,12)) ((Array.range (1*12)).map ((Value.agg #[.string ByteArray.empty,.int .i64 0,.string ByteArray.empty,.string ByteArray.empty,.int .i64 0,.int .i64 0,.int .i64 0,.int .i64 0,.int .i64 0,.int .i64 0,.slice none 0 0,.slice none 0 0]).cells[· % (Value.agg #[.string ByteArray.empty,.int .i64 0,.string ByteArray.empty,.string ByteArray.empty,.int .i64 0,.int .i64 0,.int .i64 0,.int .i64 0,.int .i64 0,.int .i64 0,.slice none 0 0,.slice none 0 0]).cells.size]!)) [(0,.agg (h.cells kv sv))]=some (h.cells kv sv):=by kernel_rfl
theorem wp_buildNode {o:Oper} {a:Act} {w:World} {K:Act→World→Prop} {Q:Exit→Act→World→Prop} (x:Operand) (ho:o.op=.buildSlice 22 1 #[(0,x)]) (h:Hd) (kv sv:Value) (hx:a.eval x=.agg (h.cells kv sv))
  (hK:K (a.put o.dst (.slice (some ⟨w.heap.size,0,none⟩) 1 1)) (w.alloc (.cells (h.cells kv sv) 25))):o.wp Tryz.prog a w K Q:=by
 obtain⟨i,hi,hz0,hz1,hz2⟩:=info_parts nodeInfo
 refine wp_buildSlice 22 25 1 _ ho _ i _ Tryz.underlying22 hi hz0 (by rw [hz1];omega) (by rw [hz1];omega) ?_ hK
 rw [hz1]
 have e:(#[(0,x)].map fun (i,x)=>(i,a.eval x)).toList=[(0,Value.agg (h.cells kv sv))]:=by
  rw [←hx];simp
 rw [e]
 exact fillN h kv sv
theorem step_buildNode {ops:Array Oper} {o:Oper} {a:Act} {w:World} {K:Act→World→Prop} {Q:Exit→Act→World→Prop} {E:Prop} (hgd:o.guard=none) (x:Operand) (ho:o.op=.buildSlice 22 1 #[(0,x)]) (h:Hd) (kv sv:Value) (hx:a.eval x=.agg (h.cells kv sv))
  (hK:K (a.put o.dst (.slice (some ⟨w.heap.size,0,none⟩) 1 1)) (w.alloc (.cells (h.cells kv sv) 25))):if Region.wanted o (yielded ops a.tmps)=true then Oper.wp Tryz.prog o a w K Q else E:=by
 have hw:Region.wanted o (yielded ops a.tmps)=true:=by simp [Region.wanted,hgd]
 rw [if_pos hw]
 exact wp_buildNode x ho h kv sv hx hK
theorem addr_add (g o j:Nat):(⟨g,o,none⟩:Addr).add j=⟨g,o+j,none⟩:=by
 unfold Addr.add
 split
 ·rename_i h0;rw [h0,Nat.add_zero]
 ·rfl
theorem stV_at:∀(ss:List St) (j:Nat) (u:Value),(stV ss)[j]? = some u→∃q s,ss[q]? = some s∧((j=q*2∧u=.string s.1)∨(j=q*2+1∧u=.string s.2))
 | [],j,u,h=>by simp [stV] at h
 | a :: l,0,u,h=>⟨0,a,rfl,Or.inl ⟨rfl,(show Value.string a.1=u by simpa [stV] using h).symm⟩⟩
 | a :: l,1,u,h=>⟨0,a,rfl,Or.inr ⟨rfl,(show Value.string a.2=u by simpa [stV] using h).symm⟩⟩
 | a :: l,j+2,u,h=>by
  obtain⟨q,s,h1,h2⟩:=stV_at l j u h
  exact⟨q+1,s,by simpa using h1,h2.elim (fun e=>Or.inl ⟨by omega,e.2⟩) fun e=>Or.inr ⟨by omega,e.2⟩⟩
theorem cell_alloc_some {w:World} {a:Addr} {v:Value} (h:w.cell? a=some v) (o:Obj):(w.alloc o).cell? a=some v:=(World.cell?_alloc_lt w o a (World.block_lt_of_cell? w a h)).trans h
theorem sclone_any (ss:List St) (sv:Value) (hl:ss.length≤1000000) (w:World) (hs:StR w w.heap.size sv ss):Calls Tryz.prog 122 #[sv] w fun e w'=>∃r,e=.returned r∧w'.ownsRow w.heap.size 69 2 r ss.length (stV ss)∧Below w.heap.size w w':=by
 obtain⟨A,c,rfl,hc⟩:=hs
 cases A with
 | none=>
  have h0:ss.length=0:=by
   rcases Nat.eq_zero_or_pos ss.length with h | h
   ·exact h
   ·obtain⟨g,o,e,_⟩:=hc h
    cases e
  have e0:ss=[]:=List.eq_nil_of_length_eq_zero h0
  subst e0
  clear hc
  have nq:=fun W:World=>Lib.run_eql_slice_nil (P:=Tryz.prog) W 23 69 none 0 c 0 0 Tryz.underlying23
  have HL:Live w []:=trivial
  go_enter Tryz.func122,Tryz.ntmps122
  go_wp2_with fail
  go_ret
  exact⟨_,rfl,World.ownsRow_nil _ _ _ _,Below.refl _ _⟩
 | some ad=>
  have HC:=hide (show ∀j u,(stV ss)[j]? = some u→w.cell? (ad.add j)=some u from fun j u hj=>by
   obtain⟨q,s,h1,h2⟩:=stV_at ss j u hj
   obtain⟨g,o,e,_,hcc⟩:=hc (Nat.lt_of_le_of_lt (Nat.zero_le _) (List.getElem?_eq_some_iff.1 h1).1)
   injection e with e
   subst e
   rw [addr_add]
   rcases h2 with⟨rfl,rfl⟩ | ⟨rfl,rfl⟩
   ·exact(hcc q s h1).1
   ·exact(hcc q s h1).2)
  clear hc
  have nq:=fun W:World=>Lib.run_eql_slice_nil (P:=Tryz.prog) W 23 69 (some ad) ss.length c 0 0 Tryz.underlying23
  have HL:Live w []:=trivial
  go_enter Tryz.func122,Tryz.ntmps122
  go_upto_region 3 with fail
  go_wp2_with (at_builtin;refine wpList_append_rows _ rfl _ _ 23 rfl w.heap.size 69 strmInfo Tryz.underlying23 rfl (by decide) _ 0 [] (World.ownsRow_lit w #[] 0 (Nat.le_refl _) (by decide) rfl) ad ss.length c (stV ss) rfl rfl (stV_len ss) (fun j u hj=>(cell_alloc_some (HC.out j u hj) _)) (stV_one ss) (by unfold maxLen;omega) (by omega) (by rw [World.size_alloc];omega) ?_;intro v2 w2 hown2 hnb2 hg2)
  go_ret
  rw [Nat.zero_add,List.nil_append] at hown2
  refine⟨_,rfl,hown2,((Below.refl w.heap.size w).alloc (Nat.le_refl _) _).grown hg2 (by rw [World.size_alloc];omega) fun q hq=>?_⟩
  injection hq with hq
  exact Nat.le_of_eq hq
end Go.Proofs.YtlhakdildbplkaaGreatDoor
