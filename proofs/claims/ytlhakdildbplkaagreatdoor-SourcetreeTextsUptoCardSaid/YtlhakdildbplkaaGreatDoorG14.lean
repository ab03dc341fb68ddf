/- Part of the claim: its words. -/
import Derived.Lib.ConvBytes
import Derived.Laws.IdiomStrings
import Derived.Test.YtlhakdildbplkaaGreatDoorG13
import Derived.Test.YtlhakdildbplkaaGreatDoorG12
import Derived.Shelf.Strings.OnBuilder
import Derived.Shelf.Strconv.Itoa3
import Derived.Lib.ItoaLen
import Derived.Test.YtlhakdildbplkaaGreatDoorG0
set_option maxHeartbeats 2000000
set_option maxRecDepth 100000
namespace Go.Proofs.YtlhakdildbplkaaGreatDoor
set_option linter.unusedSimpArgs false
set_option linter.unusedVariables false
open Go.RowKit
theorem plain_any (c:UInt8) (w:World):Calls Tryz.prog 129 #[.int .u8 (c.toNat:Int)] w fun e w'=>e=.returned (.bool (plainB c))∧w=w':=by
 have HP:=hide (show plainB c=decide (65≤c.toNat∧c.toNat≤90∨97≤c.toNat∧c.toNat≤122∨48≤c.toNat∧c.toNat≤57∨c.toNat=46∨c.toNat=95∨c.toNat=45) from rfl)
 have hc:=c.toNat_lt
 generalize c.toNat=n at *
 go_enter Tryz.func129,Tryz.ntmps129
 go_wp2_with fail
 all_goals
  go_ret
  refine⟨ret_b ?_,rfl⟩
  rw [HP.out]
  symm
  first
   | (apply decide_eq_true;omega)
   | (apply decide_eq_false;omega)
   | (rw [Bool.eq_iff_iff];simp only [beq_iff_eq,decide_eq_true_eq];omega)
   | (rw [Bool.eq_iff_iff];simp;omega)
theorem cvs (s:ByteArray) (W:World):(convert 9 79 (.string s)).run Tryz.prog W=.ok (.slice (some ⟨W.heap.size,0,none⟩) s.size (grownCap W s.size 0 5)) (Lib.bytesWorld W 5 s):=
 Lib.run_convert_string_bytes W 9 79 5 s Tryz.underlying9 Tryz.underlying79 Tryz.underlying5
theorem wordL_take {s:ByteArray} {k:Nat} (h:k < s.size):wordL (s.data.toList.take (k+1))=wordL (s.data.toList.take k)++wb (s[k]'h):=by
 rw [List.take_add_one,List.getElem?_eq_getElem (by rw [Array.length_toList];exact h)]
 unfold wordL
 rw [List.flatMap_append]
 congr 1
 show List.flatMap wb [s.data.toList[k]]=_
 rw [List.flatMap_cons,List.flatMap_nil,List.append_nil]
 rfl
theorem wordS_ne {s:ByteArray} (h:s≠eS):wordS s=⟨(wordL s.data.toList).toArray⟩:=by
 unfold wordS
 rw [if_neg]
 intro h0
 exact h (ByteArray.ext (Array.eq_empty_of_size_eq_zero h0))
def RawB (g:Nat) (s:ByteArray) (w:World):Prop:=∀j (hj:j < s.size),w.cell? ⟨g,j,none⟩=some (.int .u8 ((s[j]'hj).toNat:Int))
theorem RawB.of {w w':World} {g:Nat} {s:ByteArray} (h:RawB g s w) (e:w'.heap[g]? = w.heap[g]?):RawB g s w':=fun j hj=>(World.cell?_of_block e).trans (h j hj)
theorem RawB.new (w:World) (e:TypeId) (s:ByteArray):RawB w.heap.size s (Lib.bytesWorld w e s):=fun j hj=>by
 have hl:s.data.toList.length=s.size:=Array.length_toList
 rw [Lib.bytesWorld_cell w e s j hj,List.getD_eq_getElem?_getD,List.getElem?_eq_getElem (by omega)]
 rfl
theorem below_bytes (w:World) (e:TypeId) (s:ByteArray):Below w.heap.size w (Lib.bytesWorld w e s):=
 ⟨rfl,rfl,rfl,by rw [Lib.bytesWorld_size];omega,fun j hj=>Lib.bytesWorld_at_old w e s j hj⟩
theorem wb_yes {c:UInt8} (h:plainB c=true):wb c=[c]:=by unfold wb;rw [if_pos h]
theorem wb_no {c:UInt8} (h:plainB c=false):wb c=[37,hexd (c.toNat / 16),hexd (c.toNat % 16)]:=by unfold wb;rw [if_neg (by rw [h];decide)]
theorem hexS:∀i:Fin 16,(⟨#[48,49,50,51,52,53,54,55,56,57,65,66,67,68,69,70]⟩:ByteArray)[i.1]'i.2=hexd i.1:=by decide
theorem wr_two {b:Nat} {v v1 v2:Value} {w w1 w2:World} (hv1:∀j,v1.ownBlock=some j→v.ownBlock=some j∨w.heap.size≤j) (hf1:FrO (fun j=>j=b∨v.ownBlock=some j) w w1)
  (hv2:∀j,v2.ownBlock=some j→v1.ownBlock=some j∨w1.heap.size≤j) (hf2:FrO (fun j=>j=b∨v1.ownBlock=some j) w1 w2):(∀j,v2.ownBlock=some j→v.ownBlock=some j∨w.heap.size≤j)∧FrO (fun j=>j=b∨v.ownBlock=some j) w w2:=
 ⟨fun j hj=>(hv2 j hj).elim (hv1 j) (fun h=>Or.inr (Nat.le_trans hf1.size h)),hf1.trans hf2 fun j hj=>hj.elim (fun h=>Or.inl (Or.inl h)) fun h=>(hv1 j h).elim (fun h=>Or.inl (Or.inr h)) Or.inr⟩
theorem word_any (s:ByteArray) (hs:s.size≤1000000) (w:World):Calls Tryz.prog 83 #[.string s] w fun e w'=>e=.returned (.string (wordS s))∧Below w.heap.size w w':=by
 by_cases h0:s=eS
 case pos=>
  subst h0
  have HL:Live w []:=trivial
  go_enter Tryz.func83,Tryz.ntmps83
  go_wp2_with fail
  go_ret
  exact⟨rfl,Below.refl _ _⟩
 case neg=>
 have q1:(s.toList == [])=false:=by
  rw [beq_eq_false_iff_ne]
  exact fun e=>h0 (nil_list e)
 have HW:=hide (wordS_ne h0)
 clear h0
 have HL:Live w []:=trivial
 go_enter Tryz.func83,Tryz.ntmps83
 go_upto_region 4 with fail
 obtain⟨b,hb⟩:∃b,b=w.heap.size:=⟨_,rfl⟩
 have HB:=hide (show BR w.heap.size b [] (.slice none 0 0) (w.alloc (.cells #[.pointer none,.slice none 0 0] 81)) by rw [hb];exact BR.fresh rfl (Nat.le_refl _))
 have hbel1:Below w.heap.size w (w.alloc (.cells #[.pointer none,.slice none 0 0] 81)):=(Below.refl _ _).alloc (Nat.le_refl _) _
 generalize w.alloc (.cells #[.pointer none,.slice none 0 0] 81)=W1 at *
 rw [←hb]
 clear hb
 have CV:=cvs s W1
 go_upto_block 0 with fail
 obtain⟨cap,hcap⟩:∃cap,grownCap W1 s.size 0 5=cap:=⟨_,rfl⟩
 rw [hcap]
 have hbw:=below_bytes W1 5 s
 have HR:=hide (RawB.new W1 5 s)
 have HB2:=hide (HB.out.below hbw)
 have hbel2:=hbel1.trans (hbw.mono hbel1.size)
 have hbg:b < W1.heap.size:=HB.out.lt
 have hgz:W1.heap.size < (Lib.bytesWorld W1 5 s).heap.size:=by rw [Lib.bytesWorld_size];omega
 generalize Lib.bytesWorld W1 5 s=W2 at *
 generalize W1.heap.size=g at *
 clear HB hbw CV hcap hbel1
 go_wp2_with fail
 go_loopw [11] (fun i wr=>∃(k:Nat) (v:Value),i=.int .i64 (k:Int)∧k≤s.size∧BR w.heap.size b (wordL (s.data.toList.take k)) v wr∧(∀j,v.ownBlock=some j→j≠g)∧RawB g s wr∧Below w.heap.size w wr∧W2.heap.size≤wr.heap.size) (fun i _=>s.size - (intOf i).toNat)
 case atStart=>exact⟨0,_,rfl,Nat.zero_le _,HB2.out,fun j e=>(by cases e),HR.out,hbel2,Nat.le_refl _⟩
 case round=>
  clear HB2 HR hbel2
  obtain⟨k,v,rfl,hk,hB,hv,hR,hbel,hzr⟩:=hrel
  have HB:=hide hB
  have HV:=hide hv
  have HR:=hide hR
  have hsz:=hbel.size
  have hlen:(wordL (s.data.toList.take k)).length≤3000000:=by
   have h1:=(wordL_len (s.data.toList.take k)).2
   have h2:(s.data.toList.take k).length≤k:=List.length_take_le _ _
   omega
  clear hB hv hR
  by_cases hlt:k < s.size
  case neg=>
   obtain rfl:k=s.size:=by omega
   have HE:=hide (show(⟨(wordL (s.data.toList.take s.size)).toArray⟩:ByteArray)=wordS s by rw [HW.out,List.take_of_length_le (by rw [Array.length_toList];exact Nat.le_refl _)])
   have ST:=hide (bstr_any w.heap.size b _ v wr HB.out hsz)
   go_wp2_with (go_at_call 87;refine ST.out.mono ?_;rintro e w3 ⟨rfl,hb3⟩)
   go_ret
   exact⟨ret_s HE.out,hbel.trans hb3⟩
  case pos=>
  have HT:=hide (wordL_take hlt)
  have c1:wr.cell? ⟨g,k,none⟩=some (.int .u8 ((s[k]'hlt).toNat:Int)):=HR.out k hlt
  generalize (s[k]'hlt)=c at *
  have PL:=hide (fun W=>plain_any c W)
  cases hpl:plainB c
  case true=>
   have HL:=hide (show wordL (s.data.toList.take (k+1))=wordL (s.data.toList.take k)++[c] by rw [HT.out,wb_yes hpl])
   rw [hpl] at PL
   clear hpl HT
   have WB:=hide (wb_any w.heap.size b _ v c wr HB.out (by omega) hsz)
   go_wp2_with (first | (first | (go_at_call 129;(with_reducible refine(PL.out _).mono ?_);rintro e w' ⟨rfl,rfl⟩)) | (go_at_call 130;refine WB.out.mono ?_;rintro e w3 ⟨rfl,v3,hB3,hv3,hf3⟩))
   go_roundw
   case rel=>exact⟨k+1,v3,by go_num,by omega,by rw [HL.out];exact hB3,fun j e h=>by
    subst h
    rcases hv3 j e with h | h
    ·exact HV.out j h rfl
    ·omega,HR.out.of (hf3.block g (by omega) (fun e=>by rcases e with e | e;omega;exact HV.out g e rfl)),hbel.trans (hf3.below hsz fun j hj=>by
    rcases hj with rfl | hj
    ·exact HB.out.ge
    ·exact(HB.out.row j hj).1),Nat.le_trans hzr hf3.size⟩
   case measure=>simp [intOf];omega
  case false=>
   have HL:=hide (show wordL (s.data.toList.take (k+1))=wordL (s.data.toList.take k)++[37]++[hexd (c.toNat / 16)]++[hexd (c.toNat % 16)] by rw [HT.out,wb_no hpl];simp)
   rw [hpl] at PL
   clear hpl HT
   have WB:=hide (wb_any w.heap.size b _ v 37 wr HB.out (by omega) hsz)
   go_upto_region 10 with (first | (first | (go_at_call 129;(with_reducible refine(PL.out _).mono ?_);rintro e w' ⟨rfl,rfl⟩)) | (go_at_call 130;refine WB.out.mono ?_;rintro e w3 ⟨rfl,v3,hB3,hv3,hf3⟩))
   have hc:=c.toNat_lt
   have h16:(c.toNat:Int) / 16 < 16:=by omega
   go_upto_region 11 with (go_at_call 130;refine(wb_any w.heap.size b _ v3 _ w3 hB3 (by simp only [List.length_append,List.length_singleton];omega) (Nat.le_trans hsz hf3.size)).mono ?_;rintro e w4 ⟨rfl,v4,hB4,hv4,hf4⟩)
   have hz4:=hf4.size
   have hz3:=hf3.size
   go_wp2_with (go_at_call 130;refine(wb_any w.heap.size b _ v4 _ w4 hB4 (by simp only [List.length_append,List.length_singleton];omega) (by omega)).mono ?_;rintro e w5 ⟨rfl,v5,hB5,hv5,hf5⟩)
   obtain⟨hv35,hf35⟩:=wr_two hv3 hf3 hv4 hf4
   obtain⟨hv5',hf5'⟩:=wr_two hv35 hf35 hv5 hf5
   have HB5:=hide (show BR w.heap.size b (wordL (s.data.toList.take (k+1))) v5 w5 by
    rw [HL.out,←hexS ⟨c.toNat / 16,by omega⟩,←hexS ⟨c.toNat % 16,by omega⟩]
    exact hB5)
   clear hv35 hf35 hv5 hf5 hv4 hf4 hv3 hf3 hB3 hB4 hB5 PL WB HL
   go_roundw
   case rel=>exact⟨k+1,v5,by go_num,by omega,HB5.out,fun j e h=>by
    subst h
    rcases hv5' j e with h | h
    ·exact HV.out j h rfl
    ·omega,HR.out.of (hf5'.block g (by omega) (fun e=>by rcases e with e | e;omega;exact HV.out g e rfl)),hbel.trans (hf5'.below hsz fun j hj=>by
    rcases hj with rfl | hj
    ·exact HB.out.ge
    ·exact(HB.out.row j hj).1),Nat.le_trans hzr hf5'.size⟩
   case measure=>simp [intOf];omega
def TabP (w:World):Prop:=Lib.TabIs Tryz.prog w "internal/strconv.uint64pow10" .u64 Lib.pow10Tab
theorem tabG:Tryz.prog.globalNamed "internal/strconv.uint64pow10" = some 3:=by kernel_rfl
theorem TabP.lt {w:World} (h:TabP w):3 < w.heap.size:=by
 rcases Nat.lt_or_ge 3 w.heap.size with h' | h'
 ·exact h'
 ·unfold TabP Lib.TabIs World.var? at h
  rw [tabG] at h
  simp only [Option.bind_some] at h
  rw [Array.getElem?_eq_none h'] at h
  cases h
theorem TabP.below {w w':World} (h:TabP w) (hb:Below w.heap.size w w'):TabP w':=var?_below hb tabG h.lt h
theorem below_grow (w:World) (k:Nat) (os:Array Obj):Below w.heap.size w (Go.Sort.grow (w.drewN k) os):=by
 refine⟨rfl,rfl,rfl,?_,?_⟩
 ·show w.heap.size≤(w.heap++os).size
  simp
 ·intro i hi
  show(w.heap++os)[i]? = _
  rw [Array.getElem?_append_left hi]
def I64 (n:Int):Prop := -9223372036854775808≤n∧n≤9223372036854775807
theorem itoa_any (n:Int) (h:I64 n) (w:World) (ht:TabP w):Calls Tryz.prog 82 #[.int .i64 n] w fun e w'=>e=.returned (.string ⟨(Lib.itoa n).toArray⟩)∧Below w.heap.size w w':=
 (Any.strconv_Itoa Tryz.laysM171 n h.1 h.2 w ht).mono fun e w' ⟨he,k,os,hw⟩=>⟨he,by rw [hw];exact below_grow w k os⟩
theorem join_any (L:List ByteArray) (a:Value) (sep:ByteArray) (w:World) (ha:SlR w w.heap.size a L) (h1:0 < L.length) (hn:L.length≤1000) (hsep:sep.size≤100) (hc:∀A c,a=.slice A L.length c→L.length≤c) (hl:(Lib.join (L.map (·.data.toList)) sep.data.toList).length≤100000000) :
  Calls Tryz.prog 132 #[a,.string sep] w fun e w'=>e=.returned (.string ⟨(Lib.join (L.map (·.data.toList)) sep.data.toList).toArray⟩)∧Below w.heap.size w w':=by
 obtain⟨A,c,rfl,ha⟩:=ha
 obtain⟨g,o,rfl,hg,hc2⟩:=ha h1
 exact Any.strings_Join Tryz.lays156 Tryz.Builder_Extra_156 g o c L sep w (fun j x hx=>hc2 j x hx) hg (by omega) (hc _ _ rfl) (by omega)
def lineS (L:List ByteArray):List UInt8:=Lib.join (L.map (·.data.toList)) [32]++[10]
theorem own_cap {w:World} {B:Nat} {T:TypeId} {v:Value} {n k:Nat} {xs:List Value} (h:w.ownsRow B T k v n xs) (A:Option Addr) (c:Nat) (e:v=.slice A n c):n≤c:=by
 rcases h.2 with⟨rfl,rfl⟩ | ⟨g,cap,cur,rfl,_,_,hnc,_⟩
 ·exact Nat.zero_le _
 ·injection e with _ _ e3
  omega
theorem line_any (L:List ByteArray) (a:Value) (B:Nat) (w:World) (ha:StrsR w B a L) (h1:0 < L.length) (hn:L.length≤1000) (hl:(lineS L).length≤100000000) :
  Calls Tryz.prog 85 #[a] w fun e w'=>e=.returned (.string ⟨(lineS L).toArray⟩)∧Below w.heap.size w w':=by
 have hlen:(Lib.join (L.map (·.data.toList)) [32]).length≤100000000:=by unfold lineS at hl;rw [List.length_append] at hl;omega
 have JN:=hide (join_any L a ⟨#[32]⟩ w (SlR.of ha) h1 hn (by decide) (fun A c e=>own_cap ha A c e) hlen)
 obtain⟨A,c,rfl⟩:=own_slice ha
 have HS:=hide (show(⟨(Lib.join (L.map (·.data.toList)) (⟨#[32]⟩:ByteArray).data.toList).toArray⟩:ByteArray)++⟨#[10]⟩=⟨(lineS L).toArray⟩ by
  apply ByteArray.ext
  apply Array.toList_inj.1
  rw [ByteArray.data_append,Array.toList_append]
  rfl)
 have hz:(⟨(Lib.join (L.map (·.data.toList)) (⟨#[32]⟩:ByteArray).data.toList).toArray⟩:ByteArray).size≤100000000:=by
  show(Array.size _)≤_
  rw [List.size_toArray]
  exact hlen
 clear ha hlen hl
 generalize (⟨(Lib.join (L.map (·.data.toList)) (⟨#[32]⟩:ByteArray).data.toList).toArray⟩:ByteArray)=J at *
 have e1:(⟨#[10]⟩:ByteArray).size=1:=rfl
 have HL:Live w []:=trivial
 go_enter Tryz.func85,Tryz.ntmps85
 go_wp2_with (go_at_call 132;refine JN.out.mono ?_;rintro e w3 ⟨rfl,hb3⟩)
 go_ret
 exact⟨ret_s HS.out,hb3⟩
theorem filter_lt {p q:Nat→Bool}:∀ {l:List Nat} {i:Nat},(∀j,q j=true→p j=true)→i∈l→p i=true→q i=false→(l.filter q).length < (l.filter p).length
 | [],_,_,h,_,_=>by cases h
 | x :: l,i,hi,hm,hp,hq=>by
  have mono:(l.filter q).length≤(l.filter p).length:=by
   clear hm
   induction l with
   | nil=>simp
   | cons y l ih=>
    rw [List.filter_cons,List.filter_cons]
    cases hy:q y
    ·cases p y
     ·simpa using ih
     ·simp;omega
    ·rw [hi y hy];simp;exact ih
  rw [List.filter_cons,List.filter_cons]
  by_cases hx:x=i
  ·subst hx
   rw [hp,hq];simp;omega
  ·have hm2:i∈l:=by
    rcases List.mem_cons.1 hm with h | h
    ·exact absurd h.symm hx
    ·exact h
   have ih:=filter_lt hi hm2 hp hq
   cases hy:q x
   ·cases p x
    ·simpa using ih
    ·simp;omega
   ·rw [hi x hy];simp;exact ih
def dstOf (ops:Array Oper) (i:Nat):Option Tmp:=(ops[i]?).bind (·.dst)
def Fr (ops:Array Oper) (a:Act) (u:Nat→Value):Act:=(List.range ops.size).foldl (fun b i=>b.put (dstOf ops i) (u i)) a
def upd (u:Nat→Value) (i:Nat) (v:Value):Nat→Value:=fun j=>if j=i then v else u j
def linOk (ops:Array Oper):Bool:=(List.range ops.size).all fun i=>((List.range i).all fun j=>decide (dstOf ops i=none∨dstOf ops j≠dstOf ops i)) && (match ops[i]? with
 | some o=>o.after.all fun e => !Region.binds .any e || decide (e.on < i)
 | none=>true)
theorem put_same (a:Act) (d:Option Tmp) (x v:Value):(a.put d x).put d v=a.put d v:=by
 cases d with
 | none=>rfl
 | some d=>simp [Act.put]
theorem put_through (d:Nat→Option Tmp) (u:Nat→Value) (k:Nat) (v:Value):∀(l:List Nat) (a:Act),(∀j∈l,d k=none∨d j≠d k)→(l.foldl (fun b i=>b.put (d i) (u i)) a).put (d k) v=l.foldl (fun b i=>b.put (d i) (u i)) (a.put (d k) v)
 | [],_,_=>rfl
 | j :: l,a,h=>by
  rw [List.foldl_cons,List.foldl_cons,put_through d u k v l _ (fun x hx=>h x (List.mem_cons_of_mem _ hx))]
  congr 1
  rcases h j (List.mem_cons_self) with h1 | h1
  ·rw [h1];rfl
  ·exact Act.put_comm a _ _ (fun x hx hy=>h1 (hx.trans hy.symm))
theorem fold_upd (d:Nat→Option Tmp) (u:Nat→Value) (k:Nat) (v:Value):∀(l:List Nat) (a:Act),k ∉ l→l.foldl (fun b i=>b.put (d i) (upd u k v i)) a=l.foldl (fun b i=>b.put (d i) (u i)) a
 | [],_,_=>rfl
 | j :: l,a,h=>by
  have h1:j≠k:=fun e=>h (by rw [e];exact List.mem_cons_self)
  rw [List.foldl_cons,List.foldl_cons,fold_upd d u k v l _ (fun hx=>h (List.mem_cons_of_mem _ hx))]
  unfold upd
  rw [if_neg h1]
theorem linOk_dst {ops:Array Oper} (h:linOk ops=true) {i j:Nat} (hi:i < ops.size) (hj:j < ops.size) (hne:j≠i):dstOf ops i=none∨dstOf ops j≠dstOf ops i:=by
 unfold linOk at h
 rw [List.all_eq_true] at h
 rcases Nat.lt_or_gt_of_ne hne with hlt | hlt
 ·have h1:=h i (List.mem_range.2 hi)
  rw [Bool.and_eq_true,List.all_eq_true] at h1
  exact of_decide_eq_true (h1.1 j (List.mem_range.2 hlt))
 ·have h1:=h j (List.mem_range.2 hj)
  rw [Bool.and_eq_true,List.all_eq_true] at h1
  rcases of_decide_eq_true (h1.1 i (List.mem_range.2 hlt)) with h2 | h2
  ·by_cases h3:dstOf ops i=none
   ·exact Or.inl h3
   ·exact Or.inr (fun e=>h3 (e ▸ h2))
  ·exact Or.inr (Ne.symm h2)
theorem Fr_put {ops:Array Oper} (h:linOk ops=true) (a:Act) (u:Nat→Value) (k:Nat) (v:Value) (hk:k < ops.size):(Fr ops a u).put (dstOf ops k) v=Fr ops a (upd u k v):=by
 unfold Fr
 have key:∀(l:List Nat) (a:Act),k∈l→l.Nodup→(∀j∈l,j < ops.size)→(l.foldl (fun b i=>b.put (dstOf ops i) (u i)) a).put (dstOf ops k) v=l.foldl (fun b i=>b.put (dstOf ops i) (upd u k v i)) a:=by
  intro l
  induction l with
  | nil=>intro a hm;cases hm
  | cons j l ih=>
   intro a hm hn hl
   have hn2:=List.nodup_cons.1 hn
   rw [List.foldl_cons,List.foldl_cons]
   by_cases hj:j=k
   ·subst hj
    rw [put_through (dstOf ops) u j v l _ (fun x hx=>linOk_dst h hk (hl x (List.mem_cons_of_mem _ hx)) (fun e=>hn2.1 (e ▸ hx))),put_same,fold_upd (dstOf ops) u j v l _ hn2.1]
    congr 1
    unfold upd
    rw [if_pos rfl]
   ·have hm2:k∈l:=by
     rcases List.mem_cons.1 hm with e | e
     ·exact absurd e.symm hj
     ·exact e
    rw [ih _ hm2 hn2.2 (fun x hx=>hl x (List.mem_cons_of_mem _ hx))]
    congr 2
    unfold upd
    rw [if_neg hj]
 exact key _ a (List.mem_range.2 hk) List.nodup_range (fun j hj=>List.mem_range.1 hj)
def own0 (ops:Array Oper) (a:Act) (i:Nat):Value:=match dstOf ops i with
 | some d=>a.tmps.getD d undef
 | none=>undef
theorem put_own (a:Act) (d:Option Tmp):a.put d (match d with | some d=>a.tmps.getD d undef | none=>undef)=a:=by
 cases d with
 | none=>rfl
 | some d=>
  unfold Act.put
  simp only
  congr 1
  apply Array.ext
  ·simp
  ·intro i h1 h2
   rw [Array.getElem_setIfInBounds]
   ·split
    ·rename_i e;subst e;simp [Array.getD,h2]
    ·rfl
theorem Fr_own (ops:Array Oper) (a:Act):Fr ops a (own0 ops a)=a:=by
 unfold Fr
 have key:∀l:List Nat,l.foldl (fun b i=>b.put (dstOf ops i) (own0 ops a i)) a=a:=by
  intro l
  induction l with
  | nil=>rfl
  | cons j l ih=>
   rw [List.foldl_cons]
   have:a.put (dstOf ops j) (own0 ops a j)=a:=put_own a (dstOf ops j)
   rw [this,ih]
 exact key _
def waits (o:Oper) (j:Nat):Bool:=o.after.any fun e=>Region.binds .any e && decide (e.on=j)
def LinStep (P:Program) (ops:Array Oper) (Q:Exit→Act→World→Prop) (R:Nat→Value→World→Prop) (a:Act) (w:World) (i:Nat) (o:Oper):Prop:=
 ∀(u:Nat→Value) (wx:World),Below w.heap.size w wx→(∀j,waits o j=true→R j (u j) wx)→∀K:Act→World→Prop,(∀v wy a',a'=(Fr ops a u).put o.dst v→Below wx.heap.size wx wy→R i v wy→K a' wy) →
  if Region.wanted o (yielded ops (Fr ops a u).tmps)=true then Oper.wp P o (Fr ops a u) wx K Q else K ((Fr ops a u).put o.dst undef) wx
def LinSteps (P:Program) (ops:Array Oper) (Q:Exit→Act→World→Prop) (R:Nat→Value→World→Prop) (a:Act) (w:World):List Oper→Nat→Prop
 | [],_=>True
 | o :: l,i=>LinStep P ops Q R a w i o∧LinSteps P ops Q R a w l (i+1)
theorem LinSteps.nil {P:Program} {ops:Array Oper} {Q:Exit→Act→World→Prop} {R:Nat→Value→World→Prop} {a:Act} {w:World} {i:Nat}:LinSteps P ops Q R a w [] i:=trivial
theorem LinSteps.cons {P:Program} {ops:Array Oper} {Q:Exit→Act→World→Prop} {R:Nat→Value→World→Prop} {a:Act} {w:World} {i:Nat} {o:Oper} {l:List Oper} (h:LinStep P ops Q R a w i o) (hl:LinSteps P ops Q R a w l (i+1)):LinSteps P ops Q R a w (o :: l) i:=⟨h,hl⟩
theorem LinSteps.at {P:Program} {ops:Array Oper} {Q:Exit→Act→World→Prop} {R:Nat→Value→World→Prop} {a:Act} {w:World}:∀ {l:List Oper} {i:Nat},LinSteps P ops Q R a w l i→∀ {k:Nat} {o:Oper},l[k]? = some o→LinStep P ops Q R a w (i+k) o
 | [],_,_,_,_,h=>by simp at h
 | x :: l,i,hs,0,o,h=>by
  simp at h;subst h;exact hs.1
 | x :: l,i,hs,k+1,o,h=>by
  have:=LinSteps.at hs.2 (k:=k) (o:=o) (by simpa using h)
  rw [show i+(k+1)=i+1+k by omega]
  exact this
theorem region_lin {P:Program} {ops:Array Oper} {Q:Exit→Act→World→Prop} {id:Nat} {a:Act} {w:World} (R:Nat→Value→World→Prop) (hm:P.follows .mixedOrders=true) (hok:linOk ops=true)
  (hR:∀j v wx wy,Below wx.heap.size wx wy→R j v wx→R j v wy)
  (hsteps:LinSteps P ops Q R a w ops.toList 0)
  (hend:∀(u:Nat→Value) (wx:World),Below w.heap.size w wx→(∀j,j < ops.size→R j (u j) wx)→Q .normal (Fr ops a u) wx) :
  (Code.region id ops true).wp P Q a w:=by
 refine wp_region_any hm ?_
 have hsteps2:∀i o,ops[i]? = some o→LinStep P ops Q R a w i o:=fun i o h=>by
  have:=hsteps.at (k:=i) (o:=o) (by rw [Array.getElem?_toList];exact h)
  rw [Nat.zero_add] at this;exact this
 have main:∀(fuel:Nat) (listed:Array Bool) (u:Nat→Value) (wx:World),listed.size=ops.size→((List.range ops.size).filter fun j => !listed.getD j true).length≤fuel→Below w.heap.size w wx →
   (∀j,listed.getD j false=true→R j (u j) wx)→wpAny P .any ops Q fuel listed (Fr ops a u) wx:=by
  intro fuel
  induction fuel with
  | zero=>
   intro listed u wx hsz hc hb hr
   have hall:∀j,j < ops.size→listed.getD j true=true:=fun j hj=>by
    cases h:listed.getD j true with
    | true=>rfl
    | false=>
     have hmem:j∈(List.range ops.size).filter fun j => !listed.getD j true:=List.mem_filter.2 ⟨List.mem_range.2 hj,by rw [h];rfl⟩
     have:=List.length_pos_of_mem hmem
     omega
   refine⟨?_,hend u wx hb (fun j hj=>hr j ?_)⟩
   ·refine List.eq_nil_iff_forall_not_mem.2 (fun i hi=>?_)
    have h1:=(mem_ready.1 hi).1
    rcases Nat.lt_or_ge i ops.size with h2 | h2
    ·rw [hall i h2] at h1;cases h1
    ·have:listed.getD i true=true:=by simp [Array.getD,show ¬i < listed.size by omega]
     rw [this] at h1;cases h1
   ·have:=hall j hj
    simp [Array.getD,show j < listed.size by omega] at this ⊢
    exact this
  | succ fuel ih=>
   intro listed u wx hsz hc hb hr
   refine⟨fun hnil=>hend u wx hb (fun j hj=>hr j ?_),fun i hi=>?_⟩
   ·-- all are listed
    have hall:∀n j,j < n→j < ops.size→listed.getD j false=true:=by
     intro n
     induction n with
     | zero=>intro j h;omega
     | succ n ihn=>
      intro j hj hjs
      cases h:listed.getD j false with
      | true=>rfl
      | false=>
       exfalso
       have hmem:j∈Region.ready .any ops listed:=by
        refine mem_ready.2 ⟨?_,ops[j],by simp [hjs],fun e he hbd=>ihn e.on ?_ ?_⟩
        ·simp [Array.getD,show j < listed.size by omega] at h ⊢;exact h
        ·have h1:=hok
         unfold linOk at h1
         rw [List.all_eq_true] at h1
         have h2:=h1 j (List.mem_range.2 hjs)
         rw [Bool.and_eq_true] at h2
         have h3:=h2.2
         rw [show ops[j]? = some ops[j] by simp [hjs]] at h3
         simp only at h3
         rw [Array.all_eq_true_iff_forall_mem] at h3
         have h4:=h3 e he
         rw [hbd] at h4
         have h5:e.on < j:=by simpa using h4
         omega
        ·have h1:=hok
         unfold linOk at h1
         rw [List.all_eq_true] at h1
         have h2:=h1 j (List.mem_range.2 hjs)
         rw [Bool.and_eq_true] at h2
         have h3:=h2.2
         rw [show ops[j]? = some ops[j] by simp [hjs]] at h3
         simp only at h3
         rw [Array.all_eq_true_iff_forall_mem] at h3
         have h4:=h3 e he
         rw [hbd] at h4
         have h5:e.on < j:=by simpa using h4
         omega
       rw [hnil] at hmem
       cases hmem
    exact hall (j+1) j (Nat.lt_succ_self j) hj
   ·obtain⟨hun,o,ho,hdeps⟩:=mem_ready.1 hi
    have his:i < ops.size:=by
     rcases Nat.lt_or_ge i ops.size with h | h
     ·exact h
     ·rw [Array.getElem?_eq_none h] at ho;cases ho
    refine wpOp_step ho (fun K hK=>?_)
    refine hsteps2 i o ho u wx hb (fun j hj=>?_) K (fun v wy a' ha' hbe hv=>?_)
    ·unfold waits at hj
     obtain⟨k,hk,hbe⟩:=Array.any_eq_true.1 hj
     generalize hge:o.after[k]=e at hbe
     have he:e∈o.after:=by rw [←hge];exact Array.getElem_mem hk
     rw [Bool.and_eq_true] at hbe
     have:=of_decide_eq_true hbe.2
     subst this
     exact hr _ (hdeps e he hbe.1)
    ·have hdst:dstOf ops i=o.dst:=by unfold dstOf;rw [ho];rfl
     rw [ha',←hdst,Fr_put hok a u i v his] at *
     refine hK _ _ (ih _ (upd u i v) wy (by simp [hsz]) ?_ (hb.trans (hbe.mono hb.size)) ?_)
     ·have:=filter_lt (p:=fun j => !listed.getD j true) (q:=fun j => !(listed.setIfInBounds i true).getD j true) (l:=List.range ops.size) (i:=i) (fun j hj=>?_) (List.mem_range.2 his) (by simp only [hun];rfl) (by simp [Array.getD,show i < listed.size by omega])
      ·omega
      ·by_cases hji:i=j
       ·subst hji;simp only [hun];rfl
       ·rw [getD_set_ne true hji] at hj;exact hj
     ·intro j hj
      unfold upd
      by_cases hji:j=i
      ·rw [if_pos hji];subst hji;exact hv
      ·rw [if_neg hji]
       rw [getD_set_ne false (Ne.symm hji)] at hj
       exact hR _ _ _ _ hbe (hr j hj)
 have h0:=main ops.size (Array.replicate ops.size false) (own0 ops a) { w with drawn:=w.drawn+1 } (by simp) (Nat.le_trans (List.length_filter_le _ _) (by simp)) ((Below.refl _ w).drew) (fun j hj=>by
  exfalso
  rcases Nat.lt_or_ge j ops.size with h | h
  ·simp [Array.getD,h] at hj
  ·simp [Array.getD,show ¬j < ops.size by omega] at hj)
 rw [Fr_own] at h0
 exact h0
def LV (x:Value):Value→World→Prop:=fun v _=>v=x
def LB (n:Nat) (cs:Array Value) (T:TypeId):Value→World→Prop:=fun v w=>∃x,v=.slice (some ⟨x,0,none⟩) n n∧Blk w x cs T
def LP (cs:Array Value) (T:TypeId):Value→World→Prop:=fun v w=>∃x,v=.pointer (some ⟨x,0,none⟩)∧Blk w x cs T
def LN (B n:Nat) (cs:Array Value) (T:TypeId):Value→World→Prop:=fun v w=>∃x,B≤x∧v=.slice (some ⟨x,0,none⟩) n n∧Blk w x cs T
def LI (i:Nat) (cs:Array Value) (T:TypeId):Value→World→Prop:=fun v w=>∃x,v=.pointer (some ⟨x,i,none⟩)∧Blk w x cs T
def LT:Value→World→Prop:=fun _ _=>True
def LStable (r:Value→World→Prop):Prop:=∀v wx wy,Below wx.heap.size wx wy→r v wx→r v wy
theorem LV.st (x:Value):LStable (LV x):=fun _ _ _ _ h=>h
theorem LT.st:LStable LT:=fun _ _ _ _ h=>h
theorem LB.st (n:Nat) (cs:Array Value) (T:TypeId):LStable (LB n cs T):=fun _ _ _ hb ⟨x,h1,h2⟩=>⟨x,h1,Blk.below hb h2⟩
theorem LN.st (B n:Nat) (cs:Array Value) (T:TypeId):LStable (LN B n cs T):=fun _ _ _ hb ⟨x,h0,h1,h2⟩=>⟨x,h0,h1,Blk.below hb h2⟩
theorem LI.st (i:Nat) (cs:Array Value) (T:TypeId):LStable (LI i cs T):=fun _ _ _ hb ⟨x,h1,h2⟩=>⟨x,h1,Blk.below hb h2⟩
theorem LP.st (cs:Array Value) (T:TypeId):LStable (LP cs T):=fun _ _ _ hb ⟨x,h1,h2⟩=>⟨x,h1,Blk.below hb h2⟩
def LAll:List (Value→World→Prop)→Prop
 | []=>True
 | r :: l=>LStable r∧LAll l
theorem LAll.nil:LAll []:=trivial
theorem LAll.cons {r:Value→World→Prop} {l:List (Value→World→Prop)} (h:LStable r) (hl:LAll l):LAll (r :: l):=⟨h,hl⟩
theorem LAll.at:∀ {l:List (Value→World→Prop)},LAll l→∀j,LStable (l.getD j LT)
 | [],_,_=>LT.st
 | _ :: _,h,0=>h.1
 | _ :: _,h,j+1=>LAll.at h.2 j
def outOf (d:Option Tmp) (a:Act):Value:=match d with
 | some d=>a.tmps.getD d undef
 | none=>undef
def LinStepF (P:Program) (ops:Array Oper) (Q:Exit→Act→World→Prop) (RL:List (Value→World→Prop)) (F:(Nat→Value)→Act) (w:World) (r:Value→World→Prop) (o:Oper):Prop:=
 ∀(u:Nat→Value) (wx:World),Below w.heap.size w wx→Hid (∀j,waits o j=true→RL.getD j LT (u j) wx)→∀K:Act→World→Prop,Hid (∀wy a',a'=(F u).put o.dst (outOf o.dst a')→Below wx.heap.size wx wy→r (outOf o.dst a') wy→K a' wy) →
  if Region.wanted o (yielded ops (F u).tmps)=true then Oper.wp P o (F u) wx K Q else K ((F u).put o.dst undef) wx
def LinStepsF (P:Program) (ops:Array Oper) (Q:Exit→Act→World→Prop) (RL:List (Value→World→Prop)) (F:(Nat→Value)→Act) (w:World):List Oper→List (Value→World→Prop)→Prop
 | [],_=>True
 | _ :: _,[]=>False
 | o :: l,r :: rs=>LinStepF P ops Q RL F w r o∧LinStepsF P ops Q RL F w l rs
theorem LinStepsF.nil {P:Program} {ops:Array Oper} {Q:Exit→Act→World→Prop} {RL:List (Value→World→Prop)} {F:(Nat→Value)→Act} {w:World} {rs:List (Value→World→Prop)}:LinStepsF P ops Q RL F w [] rs:=by unfold LinStepsF;trivial
theorem LinStepsF.cons {P:Program} {ops:Array Oper} {Q:Exit→Act→World→Prop} {RL:List (Value→World→Prop)} {F:(Nat→Value)→Act} {w:World} {r:Value→World→Prop} {rs:List (Value→World→Prop)} {o:Oper} {l:List Oper} (h:LinStepF P ops Q RL F w r o) (hl:LinStepsF P ops Q RL F w l rs):LinStepsF P ops Q RL F w (o :: l) (r :: rs):=⟨h,hl⟩
theorem LinStepsF.to {P:Program} {ops:Array Oper} {Q:Exit→Act→World→Prop} {RL:List (Value→World→Prop)} {F:(Nat→Value)→Act} {a:Act} {w:World} (hF:∀u,Fr ops a u=F u):∀ {l:List Oper} {rs:List (Value→World→Prop)} {i:Nat},(∀k,k < rs.length→RL.getD (i+k) LT=rs.getD k LT)→LinStepsF P ops Q RL F w l rs→LinSteps P ops Q (fun j=>RL.getD j LT) a w l i
 | [],_,_,_,_=>trivial
 | _ :: _,[],_,_,h=>h.elim
 | o :: l,r :: rs,i,hr,h=>⟨fun u wx hb hd K hK=>by
  have e:RL.getD i LT=r:=hr 0 (by simp)
  rw [hF u] at hK ⊢
  have hK2:∀v wy a',a'=(F u).put o.dst v→Below wx.heap.size wx wy→r v wy→K a' wy:=fun v wy a' h1 h2 h3=>hK v wy a' h1 h2 (show RL.getD i LT v wy by rw [e];exact h3)
  exact h.1 u wx hb (hide hd) K (hide fun wy a' h1 h2 h3=>hK2 _ wy a' h1 h2 h3),LinStepsF.to hF (fun k hk=>by rw [show i+1+k=i+(k+1) by omega];exact hr (k+1) (by simp;omega)) h.2⟩
theorem LB.mk {d:Option Tmp} {a:Act} {w:World} {cs:Array Value} {T:TypeId} {n:Nat} (h:outOf d a=.slice (some ⟨w.heap.size,0,none⟩) n n):LB n cs T (outOf d a) (w.alloc (.cells cs T)):=⟨_,h,Blk.new _ _ _⟩
theorem LP.mk {d:Option Tmp} {a:Act} {w:World} {cs:Array Value} {T:TypeId} (h:outOf d a=.pointer (some ⟨w.heap.size,0,none⟩)):LP cs T (outOf d a) (w.alloc (.cells cs T)):=⟨_,h,Blk.new _ _ _⟩
def putsL (a:Act) (u:Nat→Value):List Oper→Nat→Act
 | [],_=>a
 | o :: l,i=>putsL (a.put o.dst (u i)) u l (i+1)
theorem Fr_puts (ops:Array Oper) (a:Act) (u:Nat→Value):Fr ops a u=putsL a u ops.toList 0:=by
 have key:∀(n k:Nat) (b:Act),k+n=ops.size→(List.range' k n).foldl (fun b i=>b.put (dstOf ops i) (u i)) b=putsL b u (ops.toList.drop k) k:=by
  intro n
  induction n with
  | zero=>
   intro k b h
   rw [List.drop_of_length_le (by rw [Array.length_toList];omega)]
   rfl
  | succ n ih=>
   intro k b h
   have hk:k < ops.toList.length:=by rw [Array.length_toList];omega
   rw [List.range'_succ,List.foldl_cons,ih (k+1) _ (by omega),List.drop_eq_getElem_cons hk]
   show _=putsL (b.put (ops.toList[k]).dst (u k)) u (ops.toList.drop (k+1)) (k+1)
   have:dstOf ops k=(ops.toList[k]).dst:=by
    unfold dstOf
    have h2:k < ops.size:=by omega
    rw [Array.getElem?_eq_getElem h2]
    rfl
   rw [this]
 have:=key ops.size 0 a (by omega)
 unfold Fr
 rw [List.range_eq_range',this]
 rfl
theorem region_linF {P:Program} {ops:Array Oper} {Q:Exit→Act→World→Prop} {id:Nat} {a:Act} {w:World} {F:(Nat→Value)→Act} (RL:List (Value→World→Prop)) (hm:P.follows .mixedOrders=true) (hok:linOk ops=true)
  (h:(∀u,putsL a u ops.toList 0=F u)∧LAll RL∧LinStepsF P ops Q RL F w ops.toList RL ∧
   (∀(u:Nat→Value) (wx:World),Below w.heap.size w wx→Hid (∀j,j < ops.size→RL.getD j LT (u j) wx)→Q .normal (F u) wx)) :
  (Code.region id ops true).wp P Q a w:=by
 obtain⟨hF,hst,hs,he⟩:=h
 have hF2:∀u,Fr ops a u=F u:=fun u=>(Fr_puts ops a u).trans (hF u)
 refine region_lin (fun j=>RL.getD j LT) hm hok (fun j v wx wy hb hr=>hst.at j v wx wy hb hr) (LinStepsF.to hF2 (fun k _=>by rw [Nat.zero_add]) hs) (fun u wx hb hall=>?_)
 rw [hF2 u]
 exact he u wx hb (hide hall)
/-! An operation's value meets its relation. -/
theorem lvC {p:Prop} (h:p:=by(show LV _ _ _);unfold LV outOf;go_simp;exact rfl):p:=h
theorem lbC {p:Prop} (h:p:=by(show LB _ _ _ _ _);refine⟨wx.heap.size,?_,?_⟩;rotate_left;exact Blk.new _ _ _;unfold outOf;go_simp):p:=h
theorem lnC {p:Prop} (h:p:=by(show LN _ _ _ _ _ _);refine⟨wx.heap.size,?_,?_,?_⟩;exact hbx.size;rotate_left;exact Blk.new _ _ _;unfold outOf;go_simp):p:=h
end Go.Proofs.YtlhakdildbplkaaGreatDoor
