/- Part of the claim: its words. -/
import Derived.Test.YtlhakdildbplkaaGreatDoorG22
import Derived.Test.YtlhakdildbplkaaGreatDoorG23
set_option maxRecDepth 100000
set_option maxHeartbeats 40000000
namespace Go.Proofs.YtlhakdildbplkaaGreatDoor
set_option linter.unusedSimpArgs false
set_option linter.unusedVariables false
open Go.RowKit
theorem built_st (a b:ByteArray):Tryz.prog.built 69 [(0,.string a),(1,.string b)]=some #[.string a,.string b]:=by kernel_rfl
theorem fillS (a b:ByteArray):Instr.fill (fun i=>some (i*2,2)) ((Array.range (1*2)).map ((Value.agg #[.string ByteArray.empty,.string ByteArray.empty]).cells[· % (Value.agg #[.string ByteArray.empty,.string ByteArray.empty]).cells.size]!)) [(0,.agg #[.string a,.string b])]=some #[.string a,.string b]:=by kernel_rfl
theorem step_buildStrm {ops:Array Oper} {o:Oper} {a:Act} {w:World} {K:Act→World→Prop} {Q:Exit→Act→World→Prop} {E:Prop} (hgd:o.guard=none) (x:Operand) (ho:o.op=.buildSlice 23 1 #[(0,x)]) (sa sb:ByteArray) (hx:a.eval x=.agg #[.string sa,.string sb])
  (hK:K (a.put o.dst (.slice (some ⟨w.heap.size,0,none⟩) 1 1)) (w.alloc (.cells #[.string sa,.string sb] 69))):if Region.wanted o (yielded ops a.tmps)=true then Oper.wp Tryz.prog o a w K Q else E:=by
 have hw:Region.wanted o (yielded ops a.tmps)=true:=by simp [Region.wanted,hgd]
 rw [if_pos hw]
 obtain⟨i,hi,hz0,hz1,hz2⟩:=info_parts strmInfo
 refine wp_buildSlice 23 69 1 _ ho _ i _ Tryz.underlying23 hi hz0 (by rw [hz1];omega) (by rw [hz1];omega) ?_ hK
 rw [hz1]
 have e:(#[(0,x)].map fun (i,x)=>(i,a.eval x)).toList=[(0,Value.agg #[.string sa,.string sb])]:=by
  rw [←hx];simp
 rw [e]
 exact fillS sa sb
def topSS:List Tr→Nat
 | []=>0
 | t :: _=>t.ss.length
def strOK:List Tr→Bool
 | []=>false
 | t :: _=>decide (t.h.kind=1)
theorem line_str {w0:ByteArray} {ws:List ByteArray} {o1 o2:Option (List ByteArray)} {a b:ByteArray} (hk:kindOf w0=3) (h1:o1=(rdT (some ws)).map (·.2)) (h1':∀p,rdT (some ws)=some p→a=p.1) (h2:o2=(rdT o1).map (·.2)) (h2':∀p,rdT o1=some p→b=p.1) :
  lineW (w0 :: ws)=if o2=some [] then some (.inl (a,b)) else none:=by
 unfold lineW
 simp only []
 rw [if_pos hk]
 cases ws with
 | nil=>rw [rdT_nil] at h1;subst h1;subst h2;rfl
 | cons x r=>
  rw [rdT_cons] at h1 h1'
  cases hx:unword x with
  | none=>
   rw [hx] at h1
   subst h1
   subst h2
   match r with
   | []=>rfl
   | [y]=>simp [hx];exact fun x h=>by cases h
   | _ :: _ :: _=>rfl
  | some sx=>
   rw [hx] at h1 h1'
   have e:=h1' _ rfl
   simp only [] at e
   subst e
   have h1b:o1=some r:=h1
   subst h1b
   cases r with
   | nil=>rw [rdT_nil] at h2;subst h2;rfl
   | cons y t=>
    rw [rdT_cons] at h2 h2'
    cases hy:unword y with
    | none=>
     rw [hy] at h2
     subst h2
     cases t <;> simp [hy]
    | some sy=>
     rw [hy] at h2 h2'
     have e:=h2' _ rfl
     simp only [] at e
     subst e
     subst h2
     cases t with
     | nil=>simp [hx,hy]
     | cons z t=>simp
theorem stepS_str {st:List Tr} {ws:List ByteArray} {s:St} (e:lineW ws=some (.inl s)):stepS st ws=match st with
  | t :: r=>if t.h.kind=1 then some (⟨t.h,t.ss++[s],t.ks⟩ :: r) else none
  | []=>none:=by
 unfold stepS
 rw [e]
 cases st <;> rfl
theorem parse_all (s:ByteArray) (hs:s.size≤65536) (hsz:∀st t,linesS (piecesC 10 s.data.toList).dropLast 0 []=.ok st→leaveS 1 st.length st=[t]→t.sz≤60000) (w:World) (hT:TabV w) (hP:TabP w) (hE:TabE w) :
  Calls Tryz.prog 36 #[.string s] w (ParP s w):=by
 obtain⟨cl,pl,hcp⟩:=pieces_split 10 s.data.toList
 have hdl:(piecesC 10 s.data.toList).dropLast=cl:=by rw [hcp,List.dropLast_concat]
 have hsl:s.data.toList.length=s.size:=Array.length_toList
 have hlen:cl.length≤65536:=by
  have:=pieces_len 10 s.data.toList
  rw [hcp,List.length_append,hsl,List.length_singleton] at this
  omega
 have HPT:=hide (show parseT s=(match linesS cl 0 [] with
   | .error i=>(Tr.zero,(i:Int),3)
   | .ok st=>
    if cl.length+1 < 2∨pl≠[] then (Tr.zero,((cl.length+1:Nat):Int),3)
    else match leaveS 1 st.length st with
     | [t]=>if (checkT t).2≠0 then (Tr.zero,0,(checkT t).2) else (t,0,0)
     | _=>(Tr.zero,0,0)) by
  unfold parseT
  rw [if_neg (by omega),hdl,hcp]
  simp
  rfl)
 have HLN:=hide (linesOf_at hcp)
 have HNP:=hide (show ∀p∈cl++[pl],(10:UInt8) ∉ p from fun p hp=>pieces_no 10 s.data.toList p (by rw [hcp];exact hp))
 have HPZ:=hide (show ∀p∈cl++[pl],p.length≤65536 from fun p hp=>by
  have:=pieces_size 10 s.data.toList p (by rw [hcp];exact hp)
  rw [hsl] at this
  exact Nat.le_trans this hs)
 rw [hdl] at hsz
 have HSZ:=hide hsz
 have HTW:=hide hT
 have HPW:=hide hP
 have HEW:=hide hE
 have hs2:¬((65536:Int) < (s.size:Int)):=by omega
 have BZ:=hide built_zero
 clear hcp hdl hsz hT hP hE hsl
 have HL:Live w []:=trivial
 go_enter Tryz.func36,Tryz.ntmps36
 go_upto_region 1 with fail
 have hb1:Below w.heap.size w (w.alloc (.cells zeroN 25)):=(Below.refl _ _).alloc (Nat.le_refl _) _
 have HR1:=hide (show Blk (w.alloc (.cells zeroN 25)) w.heap.size zeroN 25 from Blk.newAt rfl)
 have hz1:(w.alloc (.cells zeroN 25)).heap.size=w.heap.size+1:=World.size_alloc ..
 obtain⟨W1,hW1⟩:∃W1,W1=w.alloc (.cells zeroN 25):=⟨_,rfl⟩
 rw [←hW1] at hb1 HR1 hz1
 unfold zeroN at hW1
 rw [←hW1]
 clear hW1
 obtain⟨rn,hrn⟩:∃rn,rn=w.heap.size:=⟨_,rfl⟩
 rw [←hrn] at HR1 ⊢
 obtain⟨q,hq⟩:∃q,cl.length=q:=⟨_,rfl⟩
 obtain⟨LL,hLL⟩:∃LL:List ByteArray,LL=(cl.map fun p=>⟨(p++[10]).toArray⟩)++[⟨pl.toArray⟩]:=⟨_,rfl⟩
 have hLn:LL.length=q+1:=by rw [hLL,List.length_append,List.length_map,hq];rfl
 have HLC:=hide (show ∀(j:Nat) (p:List UInt8),cl[j]? = some p→LL[j]? = some (⟨(p++[10]).toArray⟩:ByteArray) from fun j p hj=>by
  rw [hLL,List.getElem?_append_left (by rw [List.length_map];exact(List.getElem?_eq_some_iff.1 hj).1),List.getElem?_map,hj];rfl)
 have HLL:=hide (show LL[q]? = some ⟨pl.toArray⟩ by
  rw [hLL,List.getElem?_append_right (by rw [List.length_map,hq];exact Nat.le_refl _),List.length_map,hq,Nat.sub_self];rfl)
 have hrl:=HR1.out.lt
 obtain⟨gl,hgl⟩:∃gl,gl=W1.heap.size:=⟨_,rfl⟩
 have LS:=hide (show Calls Tryz.prog 89 #[.string s,.string ⟨#[10]⟩] W1 fun e w2=>e=.returned (.slice (some ⟨gl,0,none⟩) (q+1) (q+1))∧Below w.heap.size w w2∧Blk w2 rn zeroN 25∧(∀(j:Nat) (x:ByteArray),LL[j]? = some x→w2.cell? ⟨gl,j,none⟩=some (.string x))∧gl < w2.heap.size from(lsplit s (by omega) W1 (HTW.out.below hb1)).mono fun e w2 ⟨he,hw⟩=>by
  rw [HLN.out,←hLL,hLn] at he
  rw [HLN.out,←hLL] at hw
  refine⟨by rw [he,hgl],by rw [hw];exact hb1.alloc hb1.size _,by rw [hw];exact HR1.out.alloc _,fun j x hj=>?_,by rw [hw,World.size_alloc];omega⟩
  rw [hw,hgl,(Blk.new W1 _ _).cells,List.getElem?_toArray,List.getElem?_map,hj]
  rfl)
 have hrg:rn < gl:=by omega
 have hrw:w.heap.size≤rn:=by omega
 have HQ:=hide hq
 have HLN2:=hide hLn
 rw [hq] at hlen
 clear hq hLL HLN hLn hrn hgl hz1 hrl
 go_upto_region 4 with (go_at_call 89;refine LS.out.mono ?_;rintro e w2 ⟨rfl,hb2,hR2,hlr2,hgl2⟩)
 have HR2:=hide hR2
 have HLR:=hide hlr2
 clear hR2 hlr2 HR1 LS hb1
 have cq:w2.cell? ⟨gl,q,none⟩=some (.string ⟨pl.toArray⟩):=HLR.out q _ HLL.out
 go_cut [39] from 28 to 39 (fun v wz=>v=.bool (decide (pl=[]∧0 < q))∧w2=wz)
 case first=>
  by_cases hp:pl=[]
  case pos=>
   have q1:pl.isEmpty=true:=by rw [hp];rfl
   by_cases hq0:0 < q
   ·have q2:(1:Int) < (q:Int)+1:=by omega
    have HA:=hide (decide_eq_true (show pl=[]∧0 < q from⟨hp,hq0⟩))
    clear hp
    go_wp2_with fail
    go_meet
    exact⟨by rw [HA.out],rfl⟩
   ·have q2:¬((1:Int) < (q:Int)+1):=by omega
    have HA:=hide (decide_eq_false (show ¬(pl=[]∧0 < q) from fun h=>hq0 h.2))
    clear hp
    go_wp2_with fail
    go_meet
    exact⟨by rw [HA.out],rfl⟩
  case neg=>
   have q1:pl.isEmpty=false:=by
    cases pl with
    | nil=>exact absurd rfl hp
    | cons _ _=>rfl
   have HA:=hide (decide_eq_false (show ¬(pl=[]∧0 < q) from fun h=>hp h.1))
   clear hp
   go_wp2_with fail
   go_meet
   exact⟨by rw [HA.out],rfl⟩
 case rest=>
 obtain⟨rfl,rfl⟩:=hcut
 obtain⟨bb,hbb⟩:∃bb,bb=decide (pl=[]∧0 < q):=⟨_,rfl⟩
 rw [←hbb]
 have HBB:=hide hbb
 clear hbb
 go_upto_if 39 with fail
 go_cut [5] from 40 to 44 (fun v wz=>∃n:Nat,v=.slice (some ⟨gl,0,none⟩) n (q+1)∧((n=q∧pl=[]∧0 < q)∨(n=q+1∧¬(pl=[]∧0 < q)))∧w2=wz)
 case first=>
  cases bb
  case true=>
   have HA:=hide (of_decide_eq_true HBB.out.symm)
   go_wp2_with fail
   go_meet
   exact⟨q,rfl,Or.inl ⟨rfl,HA.out⟩,rfl⟩
  case false=>
   have HA:=hide (of_decide_eq_false HBB.out.symm)
   go_wp2_with fail
   go_meet
   exact⟨q+1,rfl,Or.inr ⟨rfl,HA.out⟩,rfl⟩
 case rest=>
 obtain⟨n,rfl,hn,rfl⟩:=hcut
 go_upto_region 8 with fail
 have hb6:Below w.heap.size w (w2.alloc (.cells #[.slice none 0 0] 22)):=hb2.alloc hb2.size _
 have HR6:=hide (show Blk (w2.alloc (.cells #[.slice none 0 0] 22)) rn zeroN 25 from HR2.out.alloc _)
 have HL6:=hide (show ∀(j:Nat) (x:ByteArray),LL[j]? = some x→(w2.alloc (.cells #[.slice none 0 0] 22)).cell? ⟨gl,j,none⟩=some (.string x) from fun j x hj=>by
  rw [←HLR.out j x hj]
  exact((Below.refl w2.heap.size w2).alloc (Nat.le_refl _) _).cell (p:=⟨gl,j,none⟩) hgl2)
 have HK6:=hide (show Stk (w2.heap.size+1) w2.heap.size [] (fun _=>False) (w2.alloc (.cells #[.slice none 0 0] 22)) from⟨_,Blk.newAt rfl,⟨[],fun _=>False,World.ownsRow_nil _ _ _ _,rfl,fun _ h=>h.elim,fun _ h=>by cases h⟩,fun _ h=>h.elim⟩)
 have hz6:(w2.alloc (.cells #[.slice none 0 0] 22)).heap.size=w2.heap.size+1:=World.size_alloc ..
 generalize w2.alloc (.cells #[.slice none 0 0] 22)=W6 at *
 obtain⟨ob,hob⟩:∃ob,ob=w2.heap.size:=⟨_,rfl⟩
 rw [←hob] at HK6 hgl2 hz6 ⊢
 have hwo:w.heap.size≤ob:=by have:=hb2.size;omega
 have hso:ob < W6.heap.size:=by omega
 have hso2:W6.heap.size≤ob+1:=by omega
 have hro:rn < ob:=by omega
 clear hob hb2 HR2 HLR cq hz6
 have hnq:n≤q+1:=by omega
 have hnq2:q≤n:=by omega
 have HN:=hide hn
 clear hn
 go_wp2_with fail
 go_loopw [48] (fun v wr=>∃(i:Nat) (st:List Tr) (O:Nat→Prop),v=.int .i64 (i:Int)∧i≤q∧i≤n∧linesS (cl.drop i) i st=linesS cl 0 []∧wid st≤i∧(0 < i→st≠[])∧topSS st≤i∧StkT (ob+1) ob st O wr∧Below ob W6 wr) (fun v _=>n - (intOf v).toNat)
 case atStart=>exact⟨0,[],fun _=>False,rfl,Nat.zero_le _,Nat.zero_le _,rfl,Nat.le_refl _,fun h=>absurd h (by omega),Nat.le_refl _,StkT.nil HK6.out,Below.refl _ _⟩
 case round=>
  clear HK6
  obtain⟨i,st,O,rfl,hiq,hin,hln,hwd,hne,htop,hST,hbl⟩:=hrel
  have HST:=hide hST.stk
  have HSTT:=hide hST
  have HTOP:=hide htop
  have HLN:=hide hln
  have HWD:=hide hwd
  have HNE:=hide hne
  have HBL:=hide hbl
  have hbw:Below w.heap.size w wr:=hb6.trans (hbl.mono hwo)
  have HRr:=hide (show Blk wr rn zeroN 25 from(hbl.block rn hro).trans HR6.out)
  have hszr:W6.heap.size≤wr.heap.size:=hbl.size
  have hcl:∀x,LL[i]? = some x→wr.cell? ⟨gl,i,none⟩=some (.string x):=fun x hx=>(World.cell?_of_block (hbl.block gl hgl2)).trans (HL6.out i x hx)
  have HCL:=hide hcl
  clear hST hln hwd hne hbl hcl htop
  by_cases hlt:i < n
  case neg=>
   have hin2:i=n:=by omega
   have hqn:n=q:=by omega
   have HNN:=hide (show pl=[]∧0 < q by
    rcases HN.out with⟨_,h1,h2⟩ | ⟨h1,_⟩
    ·exact⟨h1,h2⟩
    ·omega)
   have hst0:st≠[]:=HNE.out (by have:=HNN.out.2;omega)
   obtain⟨t,ht⟩:=leave_one st.length st hst0 (Nat.le_refl _)
   have HLD:=hide (show linesS cl 0 []=.ok st by
    rw [←HLN.out,hin2,hqn,List.drop_of_length_le (by rw [HQ.out];exact Nat.le_refl _)]
    rfl)
   have hsz:t.sz≤60000:=HSZ.out st t HLD.out ht
   have HPE:=hide (show parseT s=if (checkT t).2≠0 then (Tr.zero,0,(checkT t).2) else (t,0,0) by
    rw [HPT.out,HLD.out]
    dsimp only
    rw [if_neg (by rw [HNN.out.1,HQ.out];have:=HNN.out.2;simp;omega),ht])
   have hwl:=wid_len st
   have hwd2:=HWD.out
   have LV:=hide (show Calls Tryz.prog 90 #[.int .i64 1,.pointer (some ⟨ob,0,none⟩)] wr fun e w'=>e=.returned (.tuple #[])∧StkP (ob+1) ob [t] O wr w' by
    have h:=leave_any (ob+1) ob 1 (by omega) (by omega) st.length st O wr (Or.inl (by omega)) (by omega) (Nat.le_refl _) (by omega) (by omega) HST.out
    rw [ht] at h
    exact h)
   have HOL:=hide (show ∀j,O j→ob+1≤j from by obtain⟨_,_,_,h⟩:=HST.out;exact fun j hj=>(h j hj).1)
   clear hst0 ht hwl hwd2 HWD HNE HLN HLD HSZ HNN HPT HCL HL6 HN HST
   have hni:¬((i:Int) < (n:Int)):=by omega
   go_upto_region 42 with fail
   clear hni hlt hin2 hqn
   go_upto_region 43 with (go_at_call 90;refine LV.out.mono ?_;rintro e w12 ⟨rfl,O2,hS2,hO2,hf2⟩;have HS2:=hide hS2;have HF2:=hide hf2;clear hS2 hO2 hf2)
   obtain⟨g,cap,A,n1,c1,A2,n2,c2,hBb,hrg2,hTR,hgz,hlg⟩:=HS2.out.one
   obtain⟨AC,hAC⟩:∃AC,AC=t.h.cells (.slice A n1 c1) (.slice A2 n2 c2):=⟨_,rfl⟩
   rw [←hAC] at hrg2 hTR
   have hz:AC.size=12:=by rw [hAC];rfl
   have h1c:AC.all (·.oneCell')=true:=by rw [hAC];exact nodeLit _ _ _ _ _ _ _
   have HZ:=hide hz
   have H1C:=hide h1c
   have HRG:=hide hrg2
   have HTR:=hide hTR
   have HBB:=hide hBb
   have hb12:Below ob wr w12:=HF2.out.below (by omega) (fun j hj=>by
    rcases hj with h | h
    ·omega
    ·have:=HOL.out j h;omega)
   have HR12:=hide (show Blk w12 rn zeroN 25 from(hb12.block rn hro).trans HRr.out)
   have hbw12:Below w.heap.size w w12:=hbw.trans (hb12.mono hwo)
   have HBW:=hide hbw12
   have CK:=hide (check_any t (Or.inl hsz) (.agg AC) w12 (HTW.out.below hbw12) hTR.read)
   have c0:w12.cell? ⟨ob,0,none⟩=some (.slice (some ⟨g,0,none⟩) 1 cap):=hBb.cells 0
   clear hAC hrg2 hTR hBb hz h1c hb12 hbw12 HS2 HF2 LV hsz HRr hbw HBL HOL
   obtain⟨ce,hce⟩:∃ce,ce=checkT t:=⟨_,rfl⟩
   rw [←hce] at CK HPE
   clear hce
   have c00:(some (⟨g,0,none⟩:Addr))=some ⟨g,0,none⟩:=rfl
   go_upto_region 44 with (first | (go_at_call 14;refine CK.out.mono ?_;rintro e w13 ⟨rfl,hb13⟩;have HB13:=hide hb13;clear hb13) | ((with_reducible show wpList _ _ _ _ _ _);refine wpList_load_midA rfl 25 (.tmp 208) rfl g 0 rfl AC _ HRG.out Tryz.underlying25 rfl (infNl HZ.out) ?_))
   clear c00
   have hb13:Below w12.heap.size w12 w13:=HB13.out
   have HR13:=hide (Blk.below hb13 HR12.out)
   have HBW13:=hide (HBW.out.trans (hb13.mono HBW.out.size))
   by_cases hc2:ce.2=0
   case neg=>
    have q1:(ce.2 != 0)=true:=by simp [hc2]
    have HPE2:=hide (show parseT s=(Tr.zero,0,ce.2) by rw [HPE.out,if_pos hc2])
    have hbw14:Below w.heap.size w (w13.setRow rn zeroN):=HBW13.out.trans ((FrO.setRow (O:=fun j=>j=rn) rfl).below HBW13.out.size fun j hj=>by subst hj;exact hrw)
    have HBW14:=hide hbw14
    clear hc2 hb13 hbw14
    go_upto_region 45 with fail
    go_wp2_with ((with_reducible show wpList _ _ _ _ _ _);(first | (refine wpList_build_is rfl 25 #[] rfl [] (by simp) _ BZ.out ?_) | (refine wpList_store_row rfl 25 (.tmp 2) (.tmp 215) rfl rn zeroN rfl rfl 25 zeroN HR13.out (infN rfl) rfl (by kernel_rfl) ?_)))
    exact par_err _ rfl rfl rfl rfl (setRow_heap _ _ _ _ _ _ HR13.out) HPE2.out HBW14.out
   case pos=>
    have q1:(ce.2 != 0)=false:=by simp [hc2]
    have HPE2:=hide (show parseT s=(t,0,0) by rw [HPE.out,if_neg (fun h=>h hc2)])
    have c1:w13.cell? ⟨ob,0,none⟩=some (.slice (some ⟨g,0,none⟩) 1 cap):=(Blk.below hb13 HBB.out).cells 0
    have HRG13:=hide (show w13.rangeAt g 0 AC.toList from rangeAt_of fun j u hj=>(hb13.cell (p:=⟨g,0+j,none⟩) hgz).trans (HRG.out j u hj))
    have HRES:=hide (show TreeR (w13.setRow rn AC) (w13.setRow rn AC).heap.size (.agg AC) t from((HTR.out.below hb13).fr (FrO.setRow (O:=fun j=>j=rn) rfl) (fun j cs fr e=>by subst e;exact Blk.notStr HR13.out cs fr) (fun j hj e=>by omega)).read)
    have hbw14:Below w.heap.size w (w13.setRow rn AC):=HBW13.out.trans ((FrO.setRow (O:=fun j=>j=rn) rfl).below HBW13.out.size fun j hj=>by subst hj;exact hrw)
    have HBW14:=hide hbw14
    have HBR14:=hide (show Blk (w13.setRow rn AC) rn AC 25 from setRow_heap _ _ _ _ _ _ HR13.out)
    clear hc2 hb13 hbw14 c0
    go_upto_region 46 with fail
    go_wp2_with ((with_reducible show wpList _ _ _ _ _ _);(first | (refine wpList_load_midA rfl 25 (.tmp 218) rfl g 0 rfl AC _ HRG13.out Tryz.underlying25 rfl (infNl HZ.out) ?_) | (refine wpList_store_row rfl 25 (.tmp 2) (.tmp 219) rfl rn AC rfl rfl 25 zeroN HR13.out (infN HZ.out) (by rw [HZ.out];rfl) H1C.out ?_)))
    exact par_ok _ rfl rfl rfl rfl HZ.out HBR14.out HPE2.out HRES.out HBW14.out
  case pos=>
  by_cases hiq2:i < q
  case neg=>
   have hi:i=q:=by omega
   have hce:wr.cell? ⟨gl,i,none⟩=some (.string ⟨pl.toArray⟩):=HCL.out _ (by rw [hi];exact HLL.out)
   have HP:=hide (show parseT s=(Tr.zero,(i:Int)+1,3) by
    have h0:=HLN.out
    rw [hi,List.drop_of_length_le (by rw [HQ.out];exact Nat.le_refl _)] at h0
    rw [HPT.out,←h0]
    simp only [linesS]
    have hcond:cl.length+1 < 2∨pl≠[]:=by
     rcases HN.out with⟨h1,_⟩ | ⟨h1,h2⟩
     ·omega
     ·rw [HQ.out]
      rcases Nat.eq_zero_or_pos q with h | h
      ·exact Or.inl (by omega)
      ·exact Or.inr (fun e=>h2 ⟨e,h⟩)
    rw [if_pos hcond,HQ.out,hi]
    simp)
   have hp65:pl.length≤65536:=HPZ.out pl (by simp)
   have HS:=hide (hassuf ⟨pl.toArray⟩ (by show pl.toArray.size≤_;rw [List.size_toArray];omega) wr)
   rw [suf_no (HNP.out pl (by simp))] at HS
   clear hi hiq2
   have hiw:IntKind.i64.wrap ((i:Int)+1)=(i:Int)+1:=by rw [IntKind.wrap_i64];omega
   go_wp2_with (first | (go_at_call 91;refine HS.out.mono ?_;rintro e w3 ⟨rfl,rfl⟩) | (refine wpList_build_is rfl 25 #[] rfl [] (by simp) _ BZ.out ?_) | (refine wpList_store_row rfl 25 (.tmp 2) (.tmp 56) rfl rn zeroN rfl rfl 25 zeroN HRr.out (infN rfl) rfl (by kernel_rfl) ?_))
   exact par_err _ rfl rfl rfl rfl (setRow_heap _ _ _ _ _ _ HRr.out) HP.out (hbw.trans ((FrO.setRow (O:=fun j=>j=rn) rfl).below hbw.size fun j hj=>by subst hj;exact hrw))
  case pos=>
  generalize wr=wo at *
  obtain⟨p,hp⟩:∃p,cl[i]? = some p:=⟨_,List.getElem?_eq_getElem (by rw [HQ.out];exact hiq2)⟩
  have hpm:p∈cl:=List.mem_of_getElem? hp
  have hce:wo.cell? ⟨gl,i,none⟩=some (.string ⟨(p++[10]).toArray⟩):=HCL.out _ (HLC.out i p hp)
  have HP:=hide hp
  have hp65:p.length≤65536:=HPZ.out p (List.mem_append_left _ hpm)
  obtain⟨w0,ws,hws⟩:∃w0 ws,wordsOf p=w0 :: ws:=by
   cases hw:wordsOf p with
   | nil=>unfold wordsOf at hw;exact absurd (List.map_eq_nil_iff.1 hw) (piecesC_ne _ _)
   | cons a b=>exact⟨a,b,rfl⟩
  have HWS:=hide hws
  have hwn:(w0 :: ws).length≤65537:=by
   rw [←hws];unfold wordsOf;rw [List.length_map]
   have:=pieces_len 32 p;omega
  have hwz:∀s∈w0 :: ws,s.size≤100000:=fun s hs=>by
   rw [←hws] at hs
   unfold wordsOf at hs
   obtain⟨x,hx,rfl⟩:=List.mem_map.1 hs
   have:=pieces_size 32 p x hx
   show x.toArray.size≤_
   rw [List.size_toArray];omega
  have HWZ:=hide hwz
  have HWN:=hide hwn
  have HS:=hide (hassuf ⟨(p++[10]).toArray⟩ (by show(p++[10]).toArray.size≤_;rw [List.size_toArray,List.length_append,List.length_singleton];omega) wo)
  rw [suf_yes] at HS
  have hsz1:(⟨(p++[10]).toArray⟩:ByteArray).size=p.length+1:=by show(p++[10]).toArray.size=_;rw [List.size_toArray,List.length_append,List.length_singleton]
  have hex:(⟨(p++[10]).toArray⟩:ByteArray).extract 0 p.length=⟨p.toArray⟩:=by
   apply bytes_inj
   rw [ByteArray.data_extract,Array.toList_extract]
   simp
  have hws2:wordsOf (⟨p.toArray⟩:ByteArray).data.toList=w0 :: ws:=hws
  have WS:=hide (show Calls Tryz.prog 60 #[.string ⟨p.toArray⟩,.string ⟨#[32]⟩] wo fun e w'=>e=.returned (.slice (some ⟨wo.heap.size,0,none⟩) (ws.length+1) (ws.length+1))∧w'=wo.alloc (.cells ((w0 :: ws).map Value.string).toArray 9) from(wsplit ⟨p.toArray⟩ (by show p.toArray.size≤_;rw [List.size_toArray];omega) wo (HTW.out.below hbw)).mono fun e w' h=>by rw [hws2] at h;exact h)
  clear hws hws2 hwz hwn hp hiq hin hiq2 hpm
  go_upto_region 13 with (first | (go_at_call 91;refine HS.out.mono ?_;rintro e w3 ⟨rfl,rfl⟩))
  go_upto_region 14 with (first | (go_at_call 60;refine WS.out.mono ?_;rintro e w3 ⟨rfl,rfl⟩))
  have hb13:Below wo.heap.size wo ((wo.alloc (.cells ((w0 :: ws).map Value.string).toArray 9)).alloc (.cells #[.slice (some ⟨wo.heap.size,0,none⟩) (ws.length+1) (ws.length+1),.bool true] 95)):=((Below.refl _ _).alloc (Nat.le_refl _) _).alloc (by rw [World.size_alloc];omega) _
  have HR13:=hide (Rd.new (w0 :: ws) HWZ.out (by have:=HWN.out;omega) wo)
  have hz13:((wo.alloc (.cells ((w0 :: ws).map Value.string).toArray 9)).alloc (.cells #[.slice (some ⟨wo.heap.size,0,none⟩) (ws.length+1) (ws.length+1),.bool true] 95)).heap.size=wo.heap.size+2:=by rw [World.size_alloc,World.size_alloc]
  simp only [List.length_cons,List.map_cons] at hb13 HR13 hz13
  generalize (wo.alloc (.cells (Value.string w0 :: List.map Value.string ws).toArray 9)).alloc (.cells #[.slice (some ⟨wo.heap.size,0,none⟩) (ws.length+1) (ws.length+1),.bool true] 95)=W13 at *
  obtain⟨rb,hrb⟩:∃rb,rb=wo.heap.size+1:=⟨_,rfl⟩
  rw [←hrb] at HR13 ⊢
  obtain⟨kd,hkd⟩:∃kd,kd=kindOf w0:=⟨_,rfl⟩
  have HKD:=hide hkd
  have hrw2:wo.heap.size≤rb:=by omega
  have hrw3:rb < W13.heap.size:=by omega
  have hww:w.heap.size≤wo.heap.size:=hbw.size
  have hW14:Below W13.heap.size W13 (W13.alloc (.cells kindC 9)):=(Below.refl _ _).alloc (Nat.le_refl _) _
  have hB14:Blk (W13.alloc (.cells kindC 9)) W13.heap.size kindC 9:=Blk.newAt rfl
  have NX:=hide (show Calls Tryz.prog 93 #[.pointer (some ⟨rb,0,none⟩)] (W13.alloc (.cells #[.string ⟨#[100,105,114,101,99,116,111,114,121]⟩,.string ⟨#[102,105,108,101]⟩,.string ⟨#[115,121,109,108,105,110,107]⟩,.string ⟨#[115,116,114,101,97,109]⟩] 9)) fun e w'=>e=.returned (.string w0)∧Rd rb (some ws) w'∧Below wo.heap.size wo w'∧Blk w' W13.heap.size kindC 9 from(next_any rb _ _ (HR13.out.grow hW14)).mono fun e w' ⟨s1,o1,he,hR,ho,hs,_,hf⟩=>by
   have e1:=hs (w0,ws) rfl
   subst e1
   have e2:o1=some ws:=ho
   subst e2
   exact⟨he,hR,(hb13.trans (hW14.mono hb13.size)).trans (hf.below (Nat.le_trans hb13.size hW14.size) fun j hj=>by omega),hf.blk hB14 (by omega)⟩)
  clear hW14 hB14
  have KX:=hide (show ∀W,Blk W W13.heap.size kindC 9→Calls Tryz.prog 92 #[.slice (some ⟨W13.heap.size,0,none⟩) 4 4,.string w0] W fun e w'=>e=.returned (.int .i64 kd)∧W=w' from fun W hB=>by rw [HKD.out];exact kidx_any _ w0 W (kind_cells hB))
  clear hkd hrb hex hsz1 WS HS hce hz13
  go_upto_region 15 with (first | (go_at_call 93;refine NX.out.mono ?_;rintro e w4 ⟨rfl,hR4,hb4,hk4⟩;have HR4:=hide hR4;have HB4:=hide hb4;have HK4:=hide hk4;clear hR4 hb4 hk4) | (go_at_call 92;refine(KX.out _ HK4.out).mono ?_;rintro e w5 ⟨rfl,rfl⟩))
  have RDN:=hide (show ∀o W,Rd rb o W→Below wo.heap.size wo W→Calls Tryz.prog 96 #[.pointer (some ⟨rb,0,none⟩)] W fun e w'=>∃n o',e=.returned (.int .i64 n)∧Rd rb o' w'∧Below wo.heap.size wo w'∧o'=(rdI o).map (·.2)∧(∀p,rdI o=some p→n=p.1)∧FrO (fun j=>j=rb) W w' from fun o W h hb=>(number_any rb o W w h HPW.out HEW.out (hbw.trans (hb.mono hww)) (by omega)).mono fun e w' ⟨n,o',he,hR,h1,h2,hf⟩=>⟨n,o',he,hR,hb.trans (hf.below hb.size fun j hj=>by omega),h1,h2,hf⟩)
  have RDT:=hide (show ∀o W,Rd rb o W→Below wo.heap.size wo W→Calls Tryz.prog 94 #[.pointer (some ⟨rb,0,none⟩)] W fun e w'=>∃s o',e=.returned (.string s)∧Rd rb o' w'∧Below wo.heap.size wo w'∧o'=(rdT o).map (·.2)∧(∀p,rdT o=some p→s=p.1)∧FrO (fun j=>j=rb) W w' from fun o W h hb=>(text_any rb o W h).mono fun e w' ⟨n,o',he,hR,h1,h2,hf⟩=>⟨n,o',he,hR,hb.trans (hf.below hb.size fun j hj=>by omega),h1,h2,hf⟩)
  have h4z:rb < w4.heap.size:=HR4.out.lt
  clear NX KX hb13 HR13 hrw3
  rcases Decidable.em (kd=3) with hk3 | hk3
  case inl=>
   have k3:(kd == 3)=true:=by rw [hk3];rfl
   have hk3w:kindOf w0=3:=by rw [←HKD.out];exact hk3
   go_upto_region 17 with (first | (go_at_call 94;first | (refine(RDT.out _ _ HR4.out HB4.out).mono ?_;rintro e w5 ⟨sa,o1,rfl,hR5,hb5,ho1,hl1,hf5⟩;have HR5:=hide hR5;have HB5:=hide hb5;have HO1:=hide ho1;have HL1:=hide hl1;clear hR5 hb5 ho1 hl1 hf5 HR4 HB4) | (refine(RDT.out _ _ HR5.out HB5.out).mono ?_;rintro e w6 ⟨sb,o2,rfl,hR6,hb6,ho2,hl2,hf6⟩;have HR6:=hide hR6;have HB6:=hide hb6;have HO2:=hide ho2;have HL2:=hide hl2;clear hR6 hb6 ho2 hl2 hf6 HR5 HB5)) | (refine wpList_build_is rfl 69 #[(0,.tmp 74),(1,.tmp 76)] rfl [(0,.string sa),(1,.string sb)] rfl _ (built_st sa sb) ?_) | (refine wpList_store_new rfl 69 (.tmp 12) (.tmp 77) rfl #[.string sa,.string sb] rfl rfl 69 #[.string ByteArray.empty,.string ByteArray.empty] infS2 rfl (by kernel_rfl) ?_))
   have hb7:Below wo.heap.size wo (w6.alloc (.cells #[.string sa,.string sb] 69)):=HB6.out.alloc HB6.out.size _
   have HR7:=hide (HR6.out.grow (((Below.refl _ _).alloc (Nat.le_refl _) _:Below w6.heap.size w6 (w6.alloc (.cells #[.string sa,.string sb] 69)))))
   have HN7:=hide (show Blk (w6.alloc (.cells #[.string sa,.string sb] 69)) w6.heap.size #[.string sa,.string sb] 69 from Blk.newAt rfl)
   generalize w6.alloc (.cells #[.string sa,.string sb] 69)=wc at *
   obtain⟨nb,hnb⟩:∃nb,nb=w6.heap.size:=⟨_,rfl⟩
   rw [←hnb] at HN7 ⊢
   have hnw:wo.heap.size≤nb:=by rw [hnb];exact HB6.out.size
   have HST7:=hide (HSTT.out.below hb7)
   have HB7:=hide hb7
   have HLW:=hide (line_str hk3w HO1.out HL1.out HO2.out HL2.out)
   have RE:=hide (rend_any rb o2 wc HR7.out)
   clear hnb HR6 HB6 HO1 HL1 HO2 HL2 RDN RDT hk3 hb7 HR7
   obtain⟨A,c,hc0⟩:=HST7.out.stk.len
   obtain⟨bd,hbd⟩:∃bd,bd=(!(strOK st && decide (o2=some []))):=⟨_,rfl⟩
   have HBD:=hide hbd
   clear hbd
   simp only [PT]
   go_cut [95] from 78 to 95 (fun v wz=>v=.bool bd∧wc=wz)
   case first=>
    cases st with
    | nil=>
     have hd1:=hide (show bd=true by rw [HBD.out];rfl)
     clear hk3w
     go_wp2_with fail
     go_meet
     exact⟨by rw [hd1.out],rfl⟩
    | cons tt r=>
     obtain⟨gs,cap,hc1,hc2⟩:=HST7.out.stk.top
     clear hc0 hk3w
     have hr0:((r.length:Int)+1 == 0)=false:=by rw [beq_eq_false_iff_ne];omega
     have hrl:r.length≤200000:=by have:=HWD.out;have:=wid_len (tt :: r);simp only [List.length_cons] at this;omega
     by_cases h1:tt.h.kind=1
     case pos=>
      have q1:(tt.h.kind != 1)=false:=by rw [h1];rfl
      have hd1:=hide (show bd = !(decide (o2=some [])) by rw [HBD.out];show(!(decide (tt.h.kind=1) && _))=_;rw [decide_eq_true h1];rfl)
      obtain⟨e5,he5⟩:∃e5,e5=decide (o2=some []):=⟨_,rfl⟩
      rw [←he5] at RE hd1
      clear he5 h1
      cases e5
      all_goals
       go_wp2_with (go_at_call 95;refine RE.out.mono ?_;rintro e w11 ⟨rfl,rfl⟩)
       go_meet
       exact⟨by rw [hd1.out];rfl,rfl⟩
     case neg=>
      have q1:(tt.h.kind != 1)=true:=by simp [h1]
      have hd1:=hide (show bd=true by rw [HBD.out];show(!(decide (tt.h.kind=1) && _))=_;rw [decide_eq_false h1];rfl)
      clear h1
      go_wp2_with fail
      go_meet
      exact⟨by rw [hd1.out],rfl⟩
   case rest=>
   obtain⟨rfl,rfl⟩:=hcut
   have hdr:=List.drop_eq_getElem_cons (show i < cl.length from(List.getElem?_eq_some_iff.1 HP.out).1)
   rw [(List.getElem?_eq_some_iff.1 HP.out).2] at hdr
   have HDR:=hide hdr
   have hiw:IntKind.i64.wrap ((i:Int)+1)=(i:Int)+1:=by rw [IntKind.wrap_i64];omega
   have hql:i < q:=by have h1:=(List.getElem?_eq_some_iff.1 HP.out).1;have h2:=HQ.out;omega
   clear hdr RE
   cases bd
   case true=>
    have HSTEP:=hide (show stepS st (w0 :: ws)=none by
     have h1:=HLW.out
     have h2:(strOK st && decide (o2=some []))=false:=by
      have h:=HBD.out
      cases hX:(strOK st && decide (o2=some [])) with
      | false=>rfl
      | true=>rw [hX] at h;cases h
     by_cases h5:o2=some []
     ·rw [if_pos h5] at h1
      rw [stepS_str h1]
      rw [decide_eq_true h5,Bool.and_true] at h2
      cases st with
      | nil=>rfl
      | cons t r=>exact if_neg (of_decide_eq_false h2)
     ·rw [if_neg h5] at h1
      exact stepS_none h1)
    have HPE:=hide (show parseT s=(Tr.zero,(i:Int)+1,3) by
     have h0:=HLN.out
     rw [HDR.out,linesS_next,HWS.out,HSTEP.out] at h0
     rw [HPT.out,←h0]
     simp)
    have HRz:=hide (show Blk wc rn zeroN 25 from(HB7.out.block rn (by omega)).trans HRr.out)
    have HBw:=hide (hbw.trans (HB7.out.mono hww))
    clear HSTEP HLN HN7 HST7 hc0
    go_upto_region 18 with fail
    have hfin:∀(a:Act),a.defers=[]→a.tmps.getD 2 undef=.pointer (some ⟨rn,0,none⟩)→a.tmps.getD 3 undef=.int .i64 ((i:Int)+1)→a.tmps.getD 4 undef=.int .i64 3→bodyPost Tryz.prog Tryz.f36 (ParP s w) .ret a (wc.setRow rn zeroN):=fun a h1 h2 h3 h4=>
     par_err a h1 h2 h3 h4 (setRow_heap _ _ _ _ _ _ HRz.out) HPE.out (HBw.out.trans ((FrO.setRow (O:=fun j=>j=rn) rfl).below HBw.out.size fun j hj=>by subst hj;exact hrw))
    have HFIN:=hide hfin
    clear hfin
    go_wp2_with ((with_reducible show wpList _ _ _ _ _ _);(first | (refine wpList_build_is rfl 25 #[] rfl [] (by simp) _ BZ.out ?_) | (refine wpList_store_row rfl 25 (.tmp 2) (.tmp 96) rfl rn zeroN rfl rfl 25 zeroN HRz.out (infN rfl) rfl (by kernel_rfl) ?_;go_step;go_step;go_step;go_step;go_step;go_step;go_step;go_step;go_step;go_step;go_step;refine Hid.out ?_)))
    refine hide ?_
    show bodyPost Tryz.prog Tryz.f36 (ParP s w) .ret _ _
    exact HFIN.out _ rfl rfl rfl rfl
   case false=>
   have hBD:(strOK st && decide (o2=some []))=true:=by have:=HBD.out;simpa using this
   rw [Bool.and_eq_true] at hBD
   obtain⟨t,r,rfl⟩:∃t r,st=t :: r:=by
    cases st with
    | nil=>exact absurd hBD.1 (by decide)
    | cons t r=>exact⟨t,r,rfl⟩
   have HSTEP:=hide (show stepS (t :: r) (w0 :: ws)=some (⟨t.h,t.ss++[(sa,sb)],t.ks⟩ :: r) by
    have h1:=HLW.out
    rw [if_pos (of_decide_eq_true hBD.2)] at h1
    rw [stepS_str h1]
    exact if_pos (of_decide_eq_true hBD.1))
   have hrl:r.length≤200000:=by have:=HWD.out;have:=wid_len (t :: r);simp only [List.length_cons] at this;omega
   have htl:t.ss.length≤65537:=by have h1:=HTOP.out;have:topSS (t :: r)=t.ss.length:=rfl;omega
   clear hBD HBD HLW hc0
   obtain⟨base,g,cap,c,A,cur,hBo0,hBg0,hck,hcs,hsv0,hbz,hlg,hgb,hOg,hclose⟩:=HSTT.out.stream (by omega)
   have hBo:=Blk.below HB7.out hBo0
   have hBg:=Blk.below HB7.out hBg0
   have hsv:=below_row' hsv0 HB7.out
   have hz7:wo.heap.size≤wc.heap.size:=HB7.out.size
   have HSVN:=hide (show(Value.slice A t.ss.length c).ownBlock≠some nb from fun e=>by have:=(hsv0.lt nb e).2;omega)
   clear hBo0 hBg0 hsv0
   obtain⟨qq,hqq⟩:∃qq,r.length=qq:=⟨_,rfl⟩
   obtain⟨m,hm⟩:∃m,t.ss.length=m:=⟨_,rfl⟩
   rw [hqq] at hBo hck hcs hclose hrl
   rw [hm] at hcs hsv hclose htl HSVN
   have HCL2:=hide hclose
   have HBo:=hide hBo
   have HBg:=hide hBg
   have HCS:=hide hcs
   have HSV:=hide hsv
   have HSVL:=hide (show ∀j,(Value.slice A m c).ownBlock=some j→base≤j from fun j hj=>(hsv.lt j hj).1)
   have c0:wc.cell? ⟨ob,0,none⟩=some (.slice (some ⟨g,0,none⟩) (qq+1) cap):=hBo.cells 0
   have hli:(qq:Int) < (qq:Int)+1:=by omega
   clear hclose hBo hBg hck hcs hsv HST7 hOg HSTT
   go_upto_region 20 with fail
   have c4:wc.drew.cell? ⟨g,qq*12+11,none⟩=some (.slice A m c):=(HBg.out.cells _).trans HCS.out
   have hkeep:Blk wc nb #[.string sa,.string sb] 69∧True:=⟨HN7.out,trivial⟩
   have hkeepd:Blk wc.drew nb #[.string sa,.string sb] 69∧True:=⟨HN7.out,trivial⟩
   refine wp_region_noPanic ?_
   refine wp_region_held_drew (S:=(fun z=>Blk z nb #[.string sa,.string sb] 69∧True)) (by kernel_rfl) kp (fun hHeld=>?_)
   refine tkZ 0 ⟨some 104,.move (.tmp 13),64, "sourcetree.go:470",#[],none⟩ ?_
   refine tkZ 1 ⟨some 105,.move (.tmp 13),64, "sourcetree.go:470",#[],none⟩ ?_
   refine tkZ 2 ⟨some 106,.nilCheck (.tmp 105),0, "sourcetree.go:470",#[⟨1,.data⟩],none⟩ ?_
   refine tkZ 3 ⟨some 107,.fieldAddr 25 (.tmp 106) 11,0, "sourcetree.go:470",#[⟨2,.data⟩],none⟩ ?_
   refine tkZ 5 ⟨some 109,.load 69 (.tmp 12),69, "sourcetree.go:470",#[],none⟩ ?_ (by intro w hSw;(try dsimp only at hSw);refine(exec_load_row 69 (.tmp 12) (by rfl) nb (by rfl) 69 #[.string sa,.string sb] (0,0) _ hSw.1 Tryz.underlying69 (by rfl) infS2).trans ?_;with_reducible rfl)
   refine rqS [4,6] (rqC ⟨some 108,.load 23 (.tmp 107),23, "sourcetree.go:470",#[⟨3,.data⟩],none⟩ (fun K hK=>?_) (rqC ⟨some 110,.buildSlice 23 1 #[(0,.tmp 109)],23, "sourcetree.go:470",#[⟨5,.data⟩],none⟩ (fun K hK=>?_) rq0))
   focus
    go_simp
    refine hK.out _ _ kp (fun hHeld=>?_)
    clear hK K
    try simp only [PT]
    refine rqS [6] (rqC ⟨some 110,.buildSlice 23 1 #[(0,.tmp 109)],23, "sourcetree.go:470",#[⟨5,.data⟩],none⟩ (fun K hK=>?_) rq0)
    refine step_buildStrm (by rfl) (.tmp 109) (by rfl) sa sb (by rfl) ?_;have hb3:Below wc.heap.size wc (wc.drew.alloc (.cells #[.string sa,.string sb] 69)):=((Below.refl wc.heap.size wc).drew).alloc (Nat.le_refl _) _;have HN3:=hide (show Blk (wc.drew.alloc (.cells #[.string sa,.string sb] 69)) wc.drew.heap.size #[.string sa,.string sb] 69 from Blk.newAt rfl);obtain⟨W3,hW3⟩:∃W3,W3=wc.drew.alloc (.cells #[.string sa,.string sb] 69):=⟨_,rfl⟩;rw [←hW3] at hb3 HN3;rw [←hW3];clear hW3;have HBg3:=hide (Blk.below hb3 HBg.out);have c43:W3.cell? ⟨g,qq*12+11,none⟩=some (.slice A m c):=(HBg3.out.cells _).trans HCS.out;have HK3:=hide (below_row' HSV.out hb3);have hkeep3:Blk W3 nb #[.string sa,.string sb] 69∧True:=⟨Blk.below hb3 HN7.out,trivial⟩;have HB3:=hide hb3;have hsz3:=hb3.size
    refine hK.out _ _ kp (fun hHeld=>?_)
    clear hK K
    try simp only [PT]
    refine rqS [7] (rqC ⟨some 111,.call ⟨.builtin .append,#[.tmp 108,.tmp 110],#[23,23]⟩,23, "sourcetree.go:470",#[⟨4,.data⟩,⟨6,.data⟩],none⟩ (fun K hK=>?_) rq0)
    refine step_append_rows W3 (by rfl) _ _ 23 (by rfl) base 69 strmInfo Tryz.underlying23 (by rfl) (by decide) (.slice A m c) m (stV t.ss) HK3.out ⟨wc.drew.heap.size,0,none⟩ 1 1 (#[.string sa,.string sb]:Array Value).toList (by rfl) (by rfl) (by rfl) (World.news_of_block HN3.out) (by intro u hu;simp at hu;rcases hu with rfl | rfl <;> rfl) (by unfold maxLen;omega) (by omega) (by omega) ?_;intro v2 w2 hown2 hnb2 hg2;obtain⟨A2,c2,rfl⟩:=own_slice hown2;have HG2:=hide hg2;have HOW2:=hide hown2;have HBg2:=hide (show Blk w2 g cur 25 from(hg2.block g HBg3.out.lt (fun e=>by have:=HSVL.out g e.symm;omega)).trans HBg3.out);have e10:w2.cell? ⟨g,qq*12+11,none⟩=some (.slice A m c):=(HBg2.out.cells _).trans HCS.out;have f10:w2.frozen? ⟨g,qq*12+11,none⟩=false:=HBg2.out.free _;have hkeepa:Blk w2 nb #[.string sa,.string sb] 69∧True:=⟨(hg2.block nb hkeep3.1.lt (fun e=>HSVN.out e.symm)).trans hkeep3.1,trivial⟩;have hkeepb:Blk (w2.setCell ⟨g,qq*12+11,none⟩ (.slice A2 (m+1) c2)) nb #[.string sa,.string sb] 69∧True:=⟨hkeepa.1.other (by omega),trivial⟩;clear hown2 hnb2 hg2 c4 c43
    refine hK.out _ _ kp (fun hHeld=>?_)
    clear hK K
    try simp only [PT]
    refine tkZ 8 ⟨some 112,.nilCheck (.tmp 104),0, "sourcetree.go:470",(phs [⟨0,.data⟩] 8),none⟩ ?_
    refine tkZ 9 ⟨some 113,.fieldAddr 25 (.tmp 112) 11,0, "sourcetree.go:470",(phs [⟨8,.data⟩] 8),none⟩ ?_
    refine rqS [10] (rqC ⟨none,.store 23 (.tmp 113) (.tmp 111),0, "sourcetree.go:470",(phs [⟨9,.data⟩,⟨7,.data⟩,⟨7,.chain⟩] 8),none⟩ (fun K hK=>?_) rq0)
    go_simp
    refine hK.out _ _ kp (fun hHeld=>?_)
    clear hK K
    try simp only [PT]
    refine wpAnyH_done (by kernel_rfl) ?_ _
    refine NoPanic.normal ?_
   rotate_left 1
   focus
    refine step_buildStrm (by rfl) (.tmp 109) (by rfl) sa sb (by rfl) ?_;have hb3:Below wc.heap.size wc (wc.drew.alloc (.cells #[.string sa,.string sb] 69)):=((Below.refl wc.heap.size wc).drew).alloc (Nat.le_refl _) _;have HN3:=hide (show Blk (wc.drew.alloc (.cells #[.string sa,.string sb] 69)) wc.drew.heap.size #[.string sa,.string sb] 69 from Blk.newAt rfl);obtain⟨W3,hW3⟩:∃W3,W3=wc.drew.alloc (.cells #[.string sa,.string sb] 69):=⟨_,rfl⟩;rw [←hW3] at hb3 HN3;rw [←hW3];clear hW3;have HBg3:=hide (Blk.below hb3 HBg.out);have c43:W3.cell? ⟨g,qq*12+11,none⟩=some (.slice A m c):=(HBg3.out.cells _).trans HCS.out;have HK3:=hide (below_row' HSV.out hb3);have hkeep3:Blk W3 nb #[.string sa,.string sb] 69∧True:=⟨Blk.below hb3 HN7.out,trivial⟩;have HB3:=hide hb3;have hsz3:=hb3.size
    refine hK.out _ _ kp (fun hHeld=>?_)
    clear hK K
    try simp only [PT]
    refine rqS [4] (rqC ⟨some 108,.load 23 (.tmp 107),23, "sourcetree.go:470",#[⟨3,.data⟩],none⟩ (fun K hK=>?_) rq0)
    go_simp
    refine hK.out _ _ kp (fun hHeld=>?_)
    clear hK K
    try simp only [PT]
    refine rqS [7] (rqC ⟨some 111,.call ⟨.builtin .append,#[.tmp 108,.tmp 110],#[23,23]⟩,23, "sourcetree.go:470",#[⟨4,.data⟩,⟨6,.data⟩],none⟩ (fun K hK=>?_) rq0)
    refine step_append_rows W3 (by rfl) _ _ 23 (by rfl) base 69 strmInfo Tryz.underlying23 (by rfl) (by decide) (.slice A m c) m (stV t.ss) HK3.out ⟨wc.drew.heap.size,0,none⟩ 1 1 (#[.string sa,.string sb]:Array Value).toList (by rfl) (by rfl) (by rfl) (World.news_of_block HN3.out) (by intro u hu;simp at hu;rcases hu with rfl | rfl <;> rfl) (by unfold maxLen;omega) (by omega) (by omega) ?_;intro v2 w2 hown2 hnb2 hg2;obtain⟨A2,c2,rfl⟩:=own_slice hown2;have HG2:=hide hg2;have HOW2:=hide hown2;have HBg2:=hide (show Blk w2 g cur 25 from(hg2.block g HBg3.out.lt (fun e=>by have:=HSVL.out g e.symm;omega)).trans HBg3.out);have e10:w2.cell? ⟨g,qq*12+11,none⟩=some (.slice A m c):=(HBg2.out.cells _).trans HCS.out;have f10:w2.frozen? ⟨g,qq*12+11,none⟩=false:=HBg2.out.free _;have hkeepa:Blk w2 nb #[.string sa,.string sb] 69∧True:=⟨(hg2.block nb hkeep3.1.lt (fun e=>HSVN.out e.symm)).trans hkeep3.1,trivial⟩;have hkeepb:Blk (w2.setCell ⟨g,qq*12+11,none⟩ (.slice A2 (m+1) c2)) nb #[.string sa,.string sb] 69∧True:=⟨hkeepa.1.other (by omega),trivial⟩;clear hown2 hnb2 hg2 c4 c43
    refine hK.out _ _ kp (fun hHeld=>?_)
    clear hK K
    try simp only [PT]
    refine tkZ 8 ⟨some 112,.nilCheck (.tmp 104),0, "sourcetree.go:470",(phs [⟨0,.data⟩] 8),none⟩ ?_
    refine tkZ 9 ⟨some 113,.fieldAddr 25 (.tmp 112) 11,0, "sourcetree.go:470",(phs [⟨8,.data⟩] 8),none⟩ ?_
    refine rqS [10] (rqC ⟨none,.store 23 (.tmp 113) (.tmp 111),0, "sourcetree.go:470",(phs [⟨9,.data⟩,⟨7,.data⟩,⟨7,.chain⟩] 8),none⟩ (fun K hK=>?_) rq0)
    go_simp
    refine hK.out _ _ kp (fun hHeld=>?_)
    clear hK K
    try simp only [PT]
    refine wpAnyH_done (by kernel_rfl) ?_ _
    refine NoPanic.normal ?_
   rotate_left 1
   all_goals
    have hf2:FrO (fun j=>(Value.slice A m c).ownBlock=some j) wo w2:=(FrO.of (O:=fun j=>(Value.slice A m c).ownBlock=some j) (HB7.out.trans (HB3.out.mono hz7))).trans (FrO.grown (O:=fun j=>(Value.slice A m c).ownBlock=some j) HG2.out (fun j h=>h)) (fun j h=>Or.inl h)
    have HY:=hide (HCL2.out w2 A2 c2 (sa,sb) hf2 HOW2.out)
    have hbf:Below ob W6 (w2.setCell ⟨g,qq*12+11,none⟩ (.slice A2 (m+1) c2)):=(HBL.out.trans (hf2.below (by omega) (fun j hj=>by have:=HSVL.out j hj;omega))).trans ((FrO.set (O:=fun j=>j=g) rfl).below (by have:=HB7.out.size;have:=hf2.size;omega) (fun j hj=>by omega))
    have HBF:=hide hbf
    generalize (w2.setCell ⟨g,qq*12+11,none⟩ (.slice A2 (m+1) c2))=W9 at *
    clear hf2 hbf HCL2 HBo HBg HSV HG2 HOW2 HBg2 HN7 HN3 HB3 HK3 HBg3 hkeep3 hkeep hkeepd hkeepa hkeepb
    have HRel:=hide (show linesS (cl.drop (i+1)) (i+1) (⟨t.h,t.ss++[(sa,sb)],t.ks⟩ :: r)=linesS cl 0 []∧wid (⟨t.h,t.ss++[(sa,sb)],t.ks⟩ :: r)≤i+1∧topSS (⟨t.h,t.ss++[(sa,sb)],t.ks⟩ :: r)≤i+1 from by
     refine⟨?_,?_,?_⟩
     ·have h0:=HLN.out
      rw [HDR.out,linesS_next,HWS.out,HSTEP.out] at h0
      exact h0
     ·have h0:=HWD.out
      have e:wid (⟨t.h,t.ss++[(sa,sb)],t.ks⟩ :: r)=wid (t :: r):=rfl
      omega
     ·have h0:=HTOP.out
      have e1:topSS (⟨t.h,t.ss++[(sa,sb)],t.ks⟩ :: r)=(t.ss++[(sa,sb)]).length:=rfl
      have e2:topSS (t :: r)=t.ss.length:=rfl
      rw [e1,List.length_append,List.length_singleton]
      omega)
    go_wp2_with fail
    go_roundw
    case rel=>exact⟨i+1,_,O,by go_num,by omega,by omega,HRel.out.1,HRel.out.2.1,(fun _ e=>by cases e),HRel.out.2.2,HY.out,HBF.out⟩
    case measure=>simp [intOf];omega
  case inr=>
  have k3:(kd == 3)=false:=by rw [beq_eq_false_iff_ne];exact hk3
  go_upto_region 22 with (go_at_call 96;refine(RDN.out _ _ HR4.out HB4.out).mono ?_;rintro e w5 ⟨lv,o1,rfl,hR5,hb5,ho1,hl1,hf5⟩)
  have HR5:=hide hR5
  have HB5:=hide hb5
  have HO1:=hide ho1
  have HL1:=hide hl1
  have h5z:=hR5.lt
  clear hR5 hb5 ho1 hl1 hf5 HR4 HB4 HK4 h4z
  go_upto_region 23 with (first | (go_at_call 94;refine(RDT.out _ _ HR5.out HB5.out).mono ?_;rintro e w6 ⟨nm,o2,rfl,hR6,hb6,ho2,hl2,hf6⟩;have HR6:=hide hR6;have HB6:=hide hb6;have HO2:=hide ho2;have HL2:=hide hl2;have h6z:=hR6.lt;clear hR6 hb6 ho2 hl2 hf6) | (refine wpList_build_is rfl 25 #[(1,.tmp 116),(0,.tmp 118)] rfl [(1,.int .i64 kd),(0,.string nm)] rfl _ (built_hd nm kd) ?_) | (refine wpList_store_new rfl 25 (.tmp 15) (.tmp 119) rfl ((hdN nm kd []).cells (.slice none 0 0) (.slice none 0 0)) rfl rfl 25 zeroN (infN rfl) rfl (by kernel_rfl) ?_))
  have hb7:Below wo.heap.size wo (w6.alloc (.cells ((hdN nm kd []).cells (.slice none 0 0) (.slice none 0 0)) 25)):=HB6.out.alloc HB6.out.size _
  have HR7:=hide (HR6.out.grow (((Below.refl _ _).alloc (Nat.le_refl _) _:Below w6.heap.size w6 (w6.alloc (.cells ((hdN nm kd []).cells (.slice none 0 0) (.slice none 0 0)) 25)))))
  have HN7:=hide (show Blk (w6.alloc (.cells ((hdN nm kd []).cells (.slice none 0 0) (.slice none 0 0)) 25)) w6.heap.size ((hdN nm kd []).cells (.slice none 0 0) (.slice none 0 0)) 25 from Blk.newAt rfl)
  generalize w6.alloc (.cells ((hdN nm kd []).cells (.slice none 0 0) (.slice none 0 0)) 25)=W7 at *
  obtain⟨nb,hnb⟩:∃nb,nb=w6.heap.size:=⟨_,rfl⟩
  rw [←hnb] at HN7 h6z ⊢
  have hnw:wo.heap.size≤nb:=by rw [hnb];exact HB6.out.size
  clear hnb HR6 HB6 HR5 HB5 h5z
  go_wp2_with fail
  have hb8:Below wo.heap.size wo (W7.alloc (.cells (ptrC nb) 97)):=hb7.alloc hb7.size _
  have HR8:=hide (HR7.out.grow (((Below.refl _ _).alloc (Nat.le_refl _) _:Below W7.heap.size W7 (W7.alloc (.cells (ptrC nb) 97)))))
  have HN8:=hide (show Blk (W7.alloc (.cells (ptrC nb) 97)) nb ((hdN nm kd []).cells (.slice none 0 0) (.slice none 0 0)) 25 from HN7.out.alloc _)
  have HF8:=hide (show Blk (W7.alloc (.cells (ptrC nb) 97)) W7.heap.size (ptrC nb) 97 from Blk.newAt rfl)
  have hnz:nb < W7.heap.size:=HN7.out.lt
  unfold ptrC at hb8 HR8 HN8
  generalize hW8:W7.alloc (.cells #[.pointer (some ⟨nb,4,none⟩),.pointer (some ⟨nb,5,none⟩),.pointer (some ⟨nb,6,none⟩),.pointer (some ⟨nb,7,none⟩),.pointer (some ⟨nb,8,none⟩),.pointer (some ⟨nb,9,none⟩)] 97)=W8 at *
  rw [show W7.alloc (.cells (ptrC nb) 97)=W8 from hW8] at HF8
  clear hW8
  obtain⟨fb,hfb⟩:∃fb,fb=W7.heap.size:=⟨_,rfl⟩
  rw [←hfb] at HF8 hnz ⊢
  clear hfb HN7 HR7 hb7
  go_loopw [128] (fun v wl=>∃(k:Nat) (ns:List Int) (o:Option (List ByteArray)),v=.int .i64 (k:Int)∧k≤6∧ns.length=k∧Rd rb o wl∧o=(takesI k o2).map (·.2)∧(∀p,takesI k o2=some p→ns=p.1)∧Blk wl nb ((hdN nm kd ns).cells (.slice none 0 0) (.slice none 0 0)) 25∧Blk wl fb (ptrC nb) 97∧Below wo.heap.size wo wl) (fun v _=>6 - (intOf v).toNat)
  case atStart=>exact⟨0,[],o2,rfl,Nat.zero_le _,rfl,HR8.out,by cases o2 <;> rfl,fun p hp=>by
   rw [takesI_zero] at hp
   cases o2 with
   | none=>cases hp
   | some r=>injection hp with hp;rw [←hp],HN8.out,HF8.out,hb8⟩
  case round=>
  clear HR8 HN8 HF8 hb8
  obtain⟨k,ns,o3,rfl,hk6,hns,hRl,ho3,hp3,hNl,hFl,hbl⟩:=hrel
  have HRl:=hide hRl
  have HO3:=hide ho3
  have HP3:=hide hp3
  have HNl:=hide hNl
  have HFl:=hide hFl
  have HBl:=hide hbl
  have hlz:=hRl.lt
  have hlf:=hFl.lt
  by_cases hk:k < 6
  case pos=>
   have ck:wr.cell? ⟨fb,k,none⟩=some (.pointer (some ⟨nb,4+k,none⟩)):=(hFl.cells k).trans (ptr_get nb k hk)
   have hkw:IntKind.i64.wrap ((k:Int)+1)=(k:Int)+1:=by rw [IntKind.wrap_i64];omega
   clear hRl ho3 hp3 hNl hFl hbl
   go_upto_region 27 with (go_at_call 96;refine(RDN.out _ _ HRl.out HBl.out).mono ?_;rintro e w9 ⟨nv,o4,rfl,hR9,hb9,ho4,hl4,hf9⟩;have HR9:=hide hR9;have HB9:=hide hb9;have HO4:=hide ho4;have HL4:=hide hl4;have HN9:=hide (hf9.blk HNl.out (by omega));have HF9:=hide (hf9.blk HFl.out (by omega));obtain⟨vv,c9⟩:∃vv,w9.cell? ⟨nb,4+k,none⟩=some vv:=⟨_,(HN9.out.cells (4+k)).trans (Array.getElem?_eq_getElem (by show 4+k < 12;omega))⟩;have f9:=HN9.out.free (4+k);clear hR9 hb9 ho4 hl4 hf9)
   go_wp2_with fail
   go_roundw
   case rel=>
    have hst:=takesI_step HO3.out HP3.out HO4.out HL4.out
    exact⟨k+1,ns++[nv],o4,by go_num,by omega,by rw [List.length_append,hns,List.length_singleton],HR9.out.fr (FrO.set (O:=fun j=>j=nb) rfl) (fun j hj e=>by omega),hst.1,hst.2,HN9.out.put (by rw [←hns];exact hdN_snoc nm kd _ _ nv ns (by omega)),HF9.out.other (by omega),HB9.out.trans ((FrO.set (O:=fun j=>j=nb) rfl).below HB9.out.size (fun j hj=>by omega))⟩
   case measure=>simp [intOf];omega
  case neg=>
  have hki:¬((k:Int) < 6):=by omega
  have hk6e:k=6:=by omega
  have HH:=hide (show headW ws=o3.map fun r=>(lv,hdN nm 0 ns,r) from line_head (o3:=o3) HO1.out HL1.out HO2.out HL2.out (by rw [←hk6e];exact HO3.out) (by rw [←hk6e];exact HP3.out))
  clear hRl ho3 hp3 hNl hFl hbl HO1 HL1 HO2 HL2 HO3 HP3 hk6e hk hk6 hns HFl hlf
  go_upto_region 28 with fail
  clear hki
  go_upto_block 4 with fail
  have hkr:kd = -1∨kd=0∨kd=1∨kd=2:=by
   have e:=HKD.out
   unfold kindOf at e
   repeat' split at e
   all_goals omega
  have c2:wr.cell? ⟨nb,2,none⟩=some (.string eS):=HNl.out.cells 2
  have c3:wr.cell? ⟨nb,3,none⟩=some (.string eS):=HNl.out.cells 3
  have f2:=HNl.out.free 2
  have f3:=HNl.out.free 3
  go_cut [] from 140 to 149 (fun wz=>∃(hd:Hd) (o5:Option (List ByteArray)),Rd rb o5 wz∧Blk wz nb (hd.cells (.slice none 0 0) (.slice none 0 0)) 25∧Below wo.heap.size wo wz∧(kd < 0∨lineW (w0 :: ws)=if o5=some [] then some (.inr (hd,lv)) else none))
  case first=>
   by_cases h1:kd=1
   case pos=>
    have k1:(kd == 1)=true:=by rw [h1];rfl
    have HE:=hide h1
    clear h1 hkr c2 c3 f2 f3 hk3 k3
    go_wp2_with (go_at_call 94;refine(RDT.out _ _ HRl.out HBl.out).mono ?_;rintro e w10 ⟨x,o5,rfl,hR10,hb10,ho5,hx5,hf10⟩;have HR10:=hide hR10;have HB10:=hide hb10;have HO5:=hide ho5;have HX5:=hide hx5;have HN10:=hide (hf10.blk HNl.out (by omega));have c2:w10.cell? ⟨nb,2,none⟩=some (.string eS):=HN10.out.cells 2;have f2:=HN10.out.free 2;clear hR10 hb10 ho5 hx5 hf10)
    go_meet
    refine⟨{ hdN nm 0 ns with kind:=1,data:=x },o5,HR10.out.fr (FrO.set (O:=fun j=>j=nb) rfl) (fun j hj e=>by omega),HN10.out.put (by rw [HE.out];rfl),HB10.out.trans ((FrO.set (O:=fun j=>j=nb) rfl).below HB10.out.size (fun j hj=>by omega)),Or.inr ?_⟩
    have hk1:kindOf w0=1:=by rw [←HKD.out];exact HE.out
    have:=line_two (Or.inl hk1) HH.out HO5.out HX5.out
    rw [if_pos hk1] at this
    exact this
   case neg=>
   by_cases h2:kd=2
   case pos=>
    have k1:(kd == 1)=false:=by rw [h2];rfl
    have k2:(kd == 2)=true:=by rw [h2];rfl
    have HE:=hide h2
    clear h1 h2 hkr c2 c3 f2 f3 hk3 k3
    go_wp2_with (go_at_call 94;refine(RDT.out _ _ HRl.out HBl.out).mono ?_;rintro e w10 ⟨x,o5,rfl,hR10,hb10,ho5,hx5,hf10⟩;have HR10:=hide hR10;have HB10:=hide hb10;have HO5:=hide ho5;have HX5:=hide hx5;have HN10:=hide (hf10.blk HNl.out (by omega));have c2:w10.cell? ⟨nb,3,none⟩=some (.string eS):=HN10.out.cells 3;have f2:=HN10.out.free 3;clear hR10 hb10 ho5 hx5 hf10)
    go_meet
    refine⟨{ hdN nm 0 ns with kind:=2,target:=x },o5,HR10.out.fr (FrO.set (O:=fun j=>j=nb) rfl) (fun j hj e=>by omega),HN10.out.put (by rw [HE.out];rfl),HB10.out.trans ((FrO.set (O:=fun j=>j=nb) rfl).below HB10.out.size (fun j hj=>by omega)),Or.inr ?_⟩
    have hk1:kindOf w0=2:=by rw [←HKD.out];exact HE.out
    have:=line_two (Or.inr hk1) HH.out HO5.out HX5.out
    rw [if_neg (show ¬kindOf w0=1 by omega)] at this
    exact this
   case neg=>
    have k1:(kd == 1)=false:=by rw [beq_eq_false_iff_ne];exact h1
    have k2:(kd == 2)=false:=by rw [beq_eq_false_iff_ne];exact h2
    have hR:=hide (show kd < 0∨lineW (w0 :: ws)=if o3=some [] then some (.inr (hdN nm kd ns,lv)) else none by
     by_cases h0:kd=0
     ·right
      rw [h0]
      exact line_dir (by rw [←HKD.out];exact h0) HH.out
     ·left;omega)
    clear h1 h2 hkr c2 c3 f2 f3 hk3 k3
    go_wp2_with fail
    go_meet
    exact⟨hdN nm kd ns,o3,HRl.out,HNl.out,HBl.out,hR.out⟩
  case rest=>
  obtain⟨hd,o5,hRz,hNz,hbz,hLW⟩:=hcut
  have HRz:=hide hRz
  have HNz:=hide hNz
  have HLW:=hide hLW
  have HBz:=hide hbz
  have HSTz:=hide (HST.out.below (hbz.mono (Nat.le_refl _)))
  have HOL:=hide (show ∀j,O j→ob+1≤j∧j < wo.heap.size from by obtain⟨_,_,_,h⟩:=HST.out;exact h)
  have hrz:=hRz.lt
  have hnzz:=hNz.lt
  clear hRz hNz hbz hLW HRl HNl HBl HST HH c2 c3 f2 f3 hkr hlz RDN RDT
  obtain⟨A,c,hc0⟩:=HSTz.out.len
  go_upto_region 35 with fail
  go_cut [162] from 152 to 162 (fun v wz=>v=.bool (topK st)∧wc=wz)
  case first=>
   cases st with
   | nil=>
    clear hc0
    go_wp2_with fail
    go_meet
    exact⟨rfl,rfl⟩
   | cons tt r=>
    obtain⟨gs,cap,hc1,hc2⟩:=HSTz.out.top
    clear hc0
    have hr0:((r.length:Int)+1 == 0)=false:=by rw [beq_eq_false_iff_ne];omega
    have hrl:r.length≤200000:=by have:=HWD.out;have:=wid_len (tt :: r);simp only [List.length_cons] at this;omega
    by_cases h0:tt.h.kind=0
    ·have k0:(tt.h.kind == 0)=true:=by rw [h0];rfl
     have HT:=hide (decide_eq_true h0)
     clear h0
     go_wp2_with fail
     go_meet
     exact⟨by unfold topK;simp only [HT.out],rfl⟩
    ·have k0:(tt.h.kind == 0)=false:=by rw [beq_eq_false_iff_ne];exact h0
     have HT:=hide (decide_eq_false h0)
     clear h0
     go_wp2_with fail
     go_meet
     exact⟨by unfold topK;simp only [HT.out],rfl⟩
  case rest=>
  obtain⟨rfl,rfl⟩:=hcut
  go_upto_if 162 with fail
  obtain⟨tk,htk⟩:∃tk,tk=topK st:=⟨_,rfl⟩
  have HTK:=hide htk
  rw [←htk]
  have hsl:st.length≤65537:=by have:=HWD.out;have:=wid_len st;omega
  clear htk
  go_cut [19] from 163 to 164 (fun v wz=>v=.int .i64 (mostS st:Int)∧wc=wz)
  case first=>
   cases tk
   case true=>
    have hm:=hide (show mostS st=st.length+1 by unfold mostS;rw [if_pos HTK.out.symm])
    go_wp2_with fail
    go_meet
    exact⟨by rw [hm.out];rfl,rfl⟩
   case false=>
    have hm:=hide (show mostS st=st.length by unfold mostS;rw [←HTK.out];rfl)
    go_wp2_with fail
    go_meet
    exact⟨by rw [hm.out],rfl⟩
  case rest=>
  obtain⟨rfl,rfl⟩:=hcut
  go_upto_region 37 with fail
  obtain⟨ms,hms⟩:∃ms,ms=mostS st:=⟨_,rfl⟩
  have HMS:=hide hms
  have hmb:ms≤65538:=by
   rw [hms];unfold mostS;split <;> omega
  rw [←hms]
  clear hms
  have RE:=hide (rend_any rb o5 wc HRz.out)
  obtain⟨sn,hsn⟩:∃sn,sn=st.length:=⟨_,rfl⟩
  have HSN:=hide hsn
  rw [←hsn] at hc0 hsl ⊢
  clear hsn
  obtain⟨bd,hbd⟩:∃bd,bd=decide (kd < 0∨o5≠some []∨(ms:Int) < lv∨(lv < 2∧0 < sn)∨lv < 1):=⟨_,rfl⟩
  have HBD:=hide hbd
  clear hbd
  go_cut [189] from 150 to 189 (fun v wz=>v=.bool bd∧wc=wz)
  case first=>
   by_cases g1:kd < 0
   case pos=>
    have q1:=decide_eq_true g1
    have hd1:=hide (show bd=true by rw [HBD.out];exact decide_eq_true (Or.inl g1))
    clear g1
    go_wp2_with fail
    go_meet
    exact⟨by rw [hd1.out],rfl⟩
   case neg=>
   have q1:=decide_eq_false g1
   obtain⟨e5,he5⟩:∃e5,e5=decide (o5=some []):=⟨_,rfl⟩
   have HE5:=hide he5
   rw [←he5] at RE
   clear he5
   cases e5
   case false=>
    have hd1:=hide (show bd=true by rw [HBD.out];exact decide_eq_true (Or.inr (Or.inl (of_decide_eq_false HE5.out.symm))))
    clear g1
    go_wp2_with (go_at_call 95;refine RE.out.mono ?_;rintro e w11 ⟨rfl,rfl⟩)
    go_meet
    exact⟨by rw [hd1.out],rfl⟩
   case true=>
   by_cases g3:(ms:Int) < lv
   case pos=>
    have q3:=decide_eq_true g3
    have hd1:=hide (show bd=true by rw [HBD.out];exact decide_eq_true (Or.inr (Or.inr (Or.inl g3))))
    clear g1 g3
    go_wp2_with (go_at_call 95;refine RE.out.mono ?_;rintro e w11 ⟨rfl,rfl⟩)
    go_meet
    exact⟨by rw [hd1.out],rfl⟩
   case neg=>
   have q3:=decide_eq_false g3
   by_cases g4:lv < 2
   case pos=>
    have q4:=decide_eq_true g4
    by_cases g5:0 < sn
    case pos=>
     have q5:=decide_eq_true g5
     have hd1:=hide (show bd=true by rw [HBD.out];exact decide_eq_true (Or.inr (Or.inr (Or.inr (Or.inl ⟨g4,g5⟩)))))
     clear g1 g3 g4 g5
     go_wp2_with (go_at_call 95;refine RE.out.mono ?_;rintro e w11 ⟨rfl,rfl⟩)
     go_meet
     exact⟨by rw [hd1.out],rfl⟩
    case neg=>
    have q5:=decide_eq_false g5
    by_cases g6:lv < 1
    case pos=>
     have q6:=decide_eq_true g6
     have hd1:=hide (show bd=true by rw [HBD.out];exact decide_eq_true (Or.inr (Or.inr (Or.inr (Or.inr g6)))))
     clear g1 g3 g4 g5 g6
     go_wp2_with (go_at_call 95;refine RE.out.mono ?_;rintro e w11 ⟨rfl,rfl⟩)
     go_meet
     exact⟨by rw [hd1.out],rfl⟩
    case neg=>
     have q6:=decide_eq_false g6
     have hd1:=hide (show bd=false by
      rw [HBD.out]
      refine decide_eq_false ?_
      rintro (h | h | h | h | h)
      ·exact g1 h
      ·exact h (of_decide_eq_true HE5.out.symm)
      ·exact g3 h
      ·exact g5 h.2
      ·exact g6 h)
     skip
     clear g1 g3 g4 g5 g6
     go_wp2_with (go_at_call 95;refine RE.out.mono ?_;rintro e w11 ⟨rfl,rfl⟩)
     go_meet
     exact⟨by rw [hd1.out],rfl⟩
   case neg=>
    have q4:=decide_eq_false g4
    have g6:¬lv < 1:=by omega
    have q6:=decide_eq_false g6
    have hd1:=hide (show bd=false by
     rw [HBD.out]
     refine decide_eq_false ?_
     rintro (h | h | h | h | h)
     ·exact g1 h
     ·exact h (of_decide_eq_true HE5.out.symm)
     ·exact g3 h
     ·exact g4 h.1
     ·exact g6 h)
    skip
    clear g1 g3 g4 g6
    go_wp2_with (go_at_call 95;refine RE.out.mono ?_;rintro e w11 ⟨rfl,rfl⟩)
    go_meet
    exact⟨by rw [hd1.out],rfl⟩
  case rest=>
  obtain⟨rfl,rfl⟩:=hcut
  have hlen2:(0 < sn)↔st≠[]:=by
   rw [HSN.out]
   cases st with
   | nil=>simp
   | cons t r=>simp
  have HSTEP:=hide (show stepS st (w0 :: ws)=if bd=true then none else some (⟨hd,[],.nil⟩ :: leaveS (lv.toNat - 1) st.length st) by
   have e1:=HBD.out
   rcases HLW.out with h1 | h1
   ·have hk0:kindOf w0 < 0:=by rw [←HKD.out];exact h1
    rw [stepS_none (line_bad hk0),if_pos (by rw [e1];exact decide_eq_true (Or.inl h1))]
   ·by_cases h5:o5=some []
    ·rw [if_pos h5] at h1
     rw [stepS_node h1,←HMS.out]
     by_cases h0:kd < 0
     ·exact absurd h1 (by rw [line_bad (by rw [←HKD.out];exact h0)];simp)
     ·by_cases h6:(ms:Int) < lv∨(lv < 2∧st≠[])∨lv < 1
      ·rw [if_pos h6,if_pos]
       rw [e1]
       refine decide_eq_true (Or.inr (Or.inr ?_))
       rw [hlen2];exact h6
      ·rw [if_neg h6,if_neg]
       rw [e1,decide_eq_true_iff,hlen2]
       rintro (h | h | h)
       ·exact h0 h
       ·exact h h5
       ·exact h6 h
    ·rw [if_neg h5] at h1
     rw [stepS_none h1,if_pos (by rw [e1];exact decide_eq_true (Or.inr (Or.inl h5)))])
  have HLO:=hide (show bd=false→1≤lv∧lv≤ms∧(2≤lv∨st.length=0) from fun hb=>by
   have e1:=HBD.out
   rw [hb] at e1
   have e2:=of_decide_eq_false e1.symm
   have e3:=HSN.out
   refine⟨?_,?_,?_⟩ <;> omega)
  clear hlen2 HBD HLW RE HRz HTK HMS HKD
  have hdr:=List.drop_eq_getElem_cons (show i < cl.length from(List.getElem?_eq_some_iff.1 HP.out).1)
  rw [(List.getElem?_eq_some_iff.1 HP.out).2] at hdr
  have HDR:=hide hdr
  have hiw:IntKind.i64.wrap ((i:Int)+1)=(i:Int)+1:=by rw [IntKind.wrap_i64];omega
  clear hdr
  cases bd
  case true=>
   have HPE:=hide (show parseT s=(Tr.zero,(i:Int)+1,3) by
    have h0:=HLN.out
    rw [HDR.out,linesS_next,HWS.out,HSTEP.out,if_pos rfl] at h0
    rw [HPT.out,←h0]
    simp)
   have HRz:=hide (show Blk wc rn zeroN 25 from(HBz.out.block rn (by omega)).trans HRr.out)
   have HBw:=hide (hbw.trans (HBz.out.mono hww))
   clear HLO HSTEP HLN HNz HSTz hc0
   go_upto_region 38 with fail
   have hfin:∀(a:Act),a.defers=[]→a.tmps.getD 2 undef=.pointer (some ⟨rn,0,none⟩)→a.tmps.getD 3 undef=.int .i64 ((i:Int)+1)→a.tmps.getD 4 undef=.int .i64 3→bodyPost Tryz.prog Tryz.f36 (ParP s w) .ret a (wc.setRow rn zeroN):=fun a h1 h2 h3 h4=>
    par_err a h1 h2 h3 h4 (setRow_heap _ _ _ _ _ _ HRz.out) HPE.out (HBw.out.trans ((FrO.setRow (O:=fun j=>j=rn) rfl).below HBw.out.size fun j hj=>by subst hj;exact hrw))
   have HFIN:=hide hfin
   clear hfin
   go_wp2_with ((with_reducible show wpList _ _ _ _ _ _);(first | (refine wpList_build_is rfl 25 #[] rfl [] (by simp) _ BZ.out ?_) | (refine wpList_store_row rfl 25 (.tmp 2) (.tmp 190) rfl rn zeroN rfl rfl 25 zeroN HRz.out (infN rfl) rfl (by kernel_rfl) ?_;go_step;go_step;go_step;go_step;go_step;go_step;go_step;go_step;go_step;go_step;go_step;refine Hid.out ?_)))
   refine hide ?_
   show bodyPost Tryz.prog Tryz.f36 (ParP s w) .ret _ _
   exact HFIN.out _ rfl rfl rfl rfl
  case false=>
  obtain⟨hl1,hl2,hl3⟩:=HLO.out rfl
  obtain⟨kk,hkk⟩:∃kk:Nat,lv=(kk:Int)+1:=⟨(lv - 1).toNat,by omega⟩
  subst hkk
  have hlw:IntKind.i64.wrap (kk:Int)=(kk:Int):=by rw [IntKind.wrap_i64];omega
  have HW1:=hide (Nat.le_trans (wid_leave kk st.length st) HWD.out)
  have LV:=hide (leave_any (ob+1) ob kk (by omega) (by omega) st.length st O wc (by have:=HSN.out;omega) (by have:=HBz.out.size;omega) (Nat.le_refl _) (by have:=HSN.out;omega) (by have:=HWD.out;omega) HSTz.out)
  have hstep:=HSTEP.out
  rw [if_neg (by decide),show((kk:Int)+1).toNat - 1=kk by omega] at hstep
  have HSTEP2:=hide hstep
  clear hl1 hl2 hl3 HLO HSTEP hstep hc0 hsl hmb
  go_upto_region 40 with (go_at_call 90;refine LV.out.mono ?_;rintro e w12 ⟨rfl,O2,hS2,hO2,hf2⟩;have HS2:=hide hS2;have HO2:=hide hO2;have HF2:=hide hf2;clear hS2 hO2 hf2)
  have hS2:=HS2.out
  have hO2:=HO2.out
  have hf2:=HF2.out
  clear HS2 HO2 HF2
  obtain⟨sl,hsl⟩:∃sl,sl=leaveS kk st.length st:=⟨_,rfl⟩
  rw [←hsl] at hS2
  have HSL:=hide hsl
  obtain⟨m,hm⟩:∃m,sl.length=m:=⟨_,rfl⟩
  have hm6:m≤65538:=by have h1:=HW1.out;have h2:=wid_len (leaveS kk st.length st);rw [←hsl] at h1 h2;omega
  have hnbO:¬(nb=ob∨O nb):=by
   rintro (h | h)
   ·have:=hso;omega
   ·have:=(HOL.out nb h).2;omega
  have HN12:=hide (hf2.blk HNz.out hnbO)
  have hobz:ob≤wo.heap.size:=by omega
  have hb12:Below ob wc w12:=hf2.below (by have:=HBz.out.size;omega) (fun j hj=>by
   rcases hj with h | h
   ·omega
   ·have:=(HOL.out j h).1;omega)
  have HB12:=hide (show Below ob wo w12 from(HBz.out.mono hobz).trans hb12)
  have HOL2:=hide (show ∀j,O2 j→ob+1≤j from by obtain⟨_,_,_,h⟩:=hS2;exact fun j hj=>(h j hj).1)
  obtain⟨A2,c2,xk,hBb,hown,hAO,hclose⟩:=hS2.pushT (by omega)
  rw [hm] at hBb hown hAO hclose
  have HOW:=hide hown
  have HBb:=hide hBb
  have HCL2:=hide hclose
  have hAnb:(Value.slice A2 m c2).ownBlock≠some nb:=fun e=>by
   rcases hO2 nb (hAO nb e) with h | h
   ·exact hnbO (Or.inr h)
   ·omega
  have HANB:=hide hAnb
  have HAOB:=hide (show(Value.slice A2 m c2).ownBlock≠some ob from fun e=>by have:=(hown.lt ob e).1;omega)
  clear hsl hnbO hown hBb hclose hAnb hAO hS2 hO2 hf2 HNz LV HSTz HBz hrz hnzz
  have c0:w12.drew.cell? ⟨ob,0,none⟩=some (.slice A2 m c2):=HBb.out.cells 0
  have hkeep:Blk w12 nb (hd.cells (.slice none 0 0) (.slice none 0 0)) 25∧True:=⟨HN12.out,trivial⟩
  have hkeepd:Blk w12.drew nb (hd.cells (.slice none 0 0) (.slice none 0 0)) 25∧True:=⟨HN12.out,trivial⟩
  refine wp_region_noPanic ?_
  refine wp_region_held_drew (S:=(fun z=>Blk z nb (hd.cells (.slice none 0 0) (.slice none 0 0)) 25∧True)) (by kernel_rfl) kp (fun hHeld=>?_)
  refine tkZ 1 ⟨some 198,.load 25 (.tmp 15),25, "sourcetree.go:493",#[],none⟩ ?_ (by intro w hSw;(try dsimp only at hSw);refine(exec_load_row 25 (.tmp 15) (by rfl) nb (by rfl) 25 (hd.cells (.slice none 0 0) (.slice none 0 0)) (0,0) _ hSw.1 Tryz.underlying25 (by rfl) (infN rfl)).trans ?_;with_reducible rfl)
  refine rqS [0,3] (rqC ⟨some 197,.load 22 (.tmp 6),22, "sourcetree.go:493",#[],none⟩ (fun K hK=>?_) (rqC ⟨some 200,.buildSlice 22 1 #[(0,.const (.agg #[.string { data:=#[] },.int .i64 0,.string { data:=#[] },.string { data:=#[] },.int .i64 0,.int .i64 0,.int .i64 0,.int .i64 0,.int .i64 0,.int .i64 0,.slice none 0 0,.slice none 0 0]))],22, "sourcetree.go:493",#[],none⟩ (fun K hK=>?_) rq0))
  focus
   go_simp
   refine hK.out _ _ kp (fun hHeld=>?_)
   clear hK K
   try simp only [PT]
   refine tkZ 2 ⟨some 199,.call ⟨.builtin .len,#[.tmp 197],#[22]⟩,3, "sourcetree.go:493",#[⟨0,.data⟩],none⟩ ?_
   refine rqS [3] (rqC ⟨some 200,.buildSlice 22 1 #[(0,.const (.agg #[.string { data:=#[] },.int .i64 0,.string { data:=#[] },.string { data:=#[] },.int .i64 0,.int .i64 0,.int .i64 0,.int .i64 0,.int .i64 0,.int .i64 0,.slice none 0 0,.slice none 0 0]))],22, "sourcetree.go:493",#[],none⟩ (fun K hK=>?_) rq0)
   refine step_buildNodeA (by rfl) (.const (.agg zeroN)) (by rfl) zeroN (by rfl) (by rfl) ?_;have hb3:Below w12.heap.size w12 (w12.drew.alloc (.cells zeroN 25)):=((Below.refl w12.heap.size w12).drew).alloc (Nat.le_refl _) _;have HN3:=hide (show Blk (w12.drew.alloc (.cells zeroN 25)) w12.drew.heap.size zeroN 25 from Blk.newAt rfl);obtain⟨W3,hW3⟩:∃W3,W3=w12.drew.alloc (.cells zeroN 25):=⟨_,rfl⟩;rw [←hW3] at hb3 HN3;rw [←hW3];clear hW3;have HBo3:=hide (Blk.below hb3 HBb.out);have c03:W3.cell? ⟨ob,0,none⟩=some (.slice A2 m c2):=HBo3.out.cells 0;have HK3:=hide (below_row' HOW.out hb3);have hkeep3:Blk W3 nb (hd.cells (.slice none 0 0) (.slice none 0 0)) 25∧True:=⟨Blk.below hb3 HN12.out,trivial⟩;have HB3:=hide hb3;have hsz3:=hb3.size;have hsz4:ob+1≤W3.heap.size:=(by have:=HBo3.out.lt;omega)
   refine hK.out _ _ kp (fun hHeld=>?_)
   clear hK K
   try simp only [PT]
   refine rqS [4] (rqC ⟨some 201,.call ⟨.builtin .append,#[.tmp 197,.tmp 200],#[22,22]⟩,22, "sourcetree.go:493",(phs [⟨0,.data⟩,⟨3,.data⟩] 4),none⟩ (fun K hK=>?_) rq0)
   refine step_append_rows W3 (by rfl) _ _ 22 (by rfl) (ob+1) 25 nodeInfo Tryz.underlying22 (by rfl) (by decide) (.slice A2 m c2) m xk HK3.out ⟨w12.drew.heap.size,0,none⟩ 1 1 zeroN.toList (by rfl) (by rfl) (by rfl) (World.news_of_block HN3.out) (by decide) (by unfold maxLen;omega) (by omega) (by omega) ?_;intro v2 w2 hown2 hnb2 hg2;have HG2:=hide hg2;have HN2:=hide hnb2;obtain⟨gk,ck,curk,rfl,hlk,hBk,hnck,hcmk,hcsk,hcxk⟩:=own_blk hown2 (by omega);clear hlk hBk hnck hcmk hcsk hcxk;have HOW2:=hide hown2;have HTH:=hide (there_own hown2);have hgob:ob≠gk:=(by have:=(hown2.lt gk rfl).1;omega);have hgnb:nb≠gk:=fun e=>hnb2.elim (fun h=>HANB.out (h.symm.trans (congrArg some e.symm))) (fun h=>by(have h2:gk=W3.heap.size:=Option.some.inj h;have:=HN12.out.lt;omega));have HBo2:=hide (show Blk w2 ob #[.slice A2 m c2] 22 from(hg2.block ob HBo3.out.lt (fun e=>HAOB.out e.symm)).trans HBo3.out);have HNn2:=hide (show Blk w2 nb (hd.cells (.slice none 0 0) (.slice none 0 0)) 25 from(hg2.block nb hkeep3.1.lt (fun e=>HANB.out e.symm)).trans hkeep3.1);have hkeepa:Blk w2 nb (hd.cells (.slice none 0 0) (.slice none 0 0)) 25∧True:=⟨HNn2.out,trivial⟩;obtain⟨W4,hW4⟩:∃W4,W4=w2.setCells gk (m*12) (hd.cells (.slice none 0 0) (.slice none 0 0)).toList:=⟨_,rfl⟩;have HW4:=hide hW4;have hkeepb:Blk W4 nb (hd.cells (.slice none 0 0) (.slice none 0 0)) 25∧True:=⟨by(rw [hW4];exact(FrO.sets (O:=fun j=>j=gk) rfl _ _ _).blk HNn2.out hgnb),trivial⟩;have hkeepc:Blk (w2.setCell ⟨ob,0,none⟩ (.slice (some ⟨gk,0,none⟩) (m+1) ck)) nb (hd.cells (.slice none 0 0) (.slice none 0 0)) 25∧True:=⟨HNn2.out.other (by omega),trivial⟩;have hkeepe:Blk (W4.setCell ⟨ob,0,none⟩ (.slice (some ⟨gk,0,none⟩) (m+1) ck)) nb (hd.cells (.slice none 0 0) (.slice none 0 0)) 25∧True:=⟨hkeepb.1.other (by omega),trivial⟩;have hkeepf:Blk ((w2.setCell ⟨ob,0,none⟩ (.slice (some ⟨gk,0,none⟩) (m+1) ck)).setCells gk (m*12) (hd.cells (.slice none 0 0) (.slice none 0 0)).toList) nb (hd.cells (.slice none 0 0) (.slice none 0 0)) 25∧True:=⟨(FrO.sets (O:=fun j=>j=gk) rfl _ _ _).blk hkeepc.1 hgnb,trivial⟩;have HTHc:=hide (there_own (own_set (g:=ob) (i:=0) (u:=.slice (some ⟨gk,0,none⟩) (m+1) ck) hown2 (fun e=>hgob (Option.some.inj e).symm)));have c02:=HBo2.out.cells 0;have f02:=HBo2.out.free 0;have HBo2b:=hide (show Blk W4 ob #[.slice A2 m c2] 22 from by(rw [hW4];exact(FrO.sets (O:=fun j=>j=gk) (g:=gk) rfl (hd.cells (.slice none 0 0) (.slice none 0 0)).toList (m*12) w2).blk HBo2.out hgob));have c02b:=HBo2b.out.cells 0;have f02b:=HBo2b.out.free 0;simp at c02 c02b;clear hown2 hnb2 hg2 c0 c03 hW4;have hmm:(m:Int) < (m:Int)+1:=by omega
   refine hK.out _ _ kp (fun hHeld=>?_)
   clear hK K
   try simp only [PT]
   refine tkZ 5 ⟨some 202,.indexAddr 22 (.tmp 201) (.tmp 199),0, "sourcetree.go:493",#[⟨4,.data⟩,⟨2,.data⟩,⟨0,.phase⟩,⟨1,.phase⟩,⟨2,.phase⟩,⟨3,.phase⟩,⟨4,.phase⟩,⟨7,.gcOnly .appendInPlace⟩],none⟩ ?_
   refine rqS [6,7] (rqC ⟨none,.store 25 (.tmp 202) (.tmp 198),0, "sourcetree.go:493",#[⟨5,.data⟩,⟨1,.data⟩,⟨4,.chain⟩,⟨0,.phase⟩,⟨1,.phase⟩,⟨2,.phase⟩,⟨3,.phase⟩,⟨4,.phase⟩,⟨7,.gcOnly .appendInPlace⟩],none⟩ (fun K hK=>?_) (rqC ⟨none,.store 22 (.tmp 6) (.tmp 201),0, "sourcetree.go:493",#[⟨4,.data⟩,⟨4,.chain⟩,⟨6,.textOnly .appendInPlace⟩,⟨0,.phase⟩,⟨1,.phase⟩,⟨2,.phase⟩,⟨3,.phase⟩,⟨4,.phase⟩,⟨5,.textOnly .appendInPlace⟩,⟨6,.textOnly .appendInPlace⟩],none⟩ (fun K hK=>?_) rq0))
   focus
    refine step_store_mid (by rfl) 25 (.tmp 202) (.tmp 198) (by rfl) gk (m*12) (hd.cells (.slice none 0 0) (.slice none 0 0)) (by rfl) (by rfl) (by first | exact HTH.out | exact HTHc.out) (infN rfl) (by kernel_rfl) ?_;(try rw [←HW4.out])
    refine hK.out _ _ kp (fun hHeld=>?_)
    clear hK K
    try simp only [PT]
    refine rqS [7] (rqC ⟨none,.store 22 (.tmp 6) (.tmp 201),0, "sourcetree.go:493",#[⟨4,.data⟩,⟨4,.chain⟩,⟨6,.textOnly .appendInPlace⟩,⟨0,.phase⟩,⟨1,.phase⟩,⟨2,.phase⟩,⟨3,.phase⟩,⟨4,.phase⟩,⟨5,.textOnly .appendInPlace⟩,⟨6,.textOnly .appendInPlace⟩],none⟩ (fun K hK=>?_) rq0)
    go_simp
    refine hK.out _ _ kp (fun hHeld=>?_)
    clear hK K
    try simp only [PT]
    refine wpAnyH_done (by kernel_rfl) ?_ _
    refine NoPanic.normal ?_
   rotate_left 1
   focus
    go_simp
    refine hK.out _ _ kp (fun hHeld=>?_)
    clear hK K
    try simp only [PT]
    refine rqS [6] (rqC ⟨none,.store 25 (.tmp 202) (.tmp 198),0, "sourcetree.go:493",#[⟨5,.data⟩,⟨1,.data⟩,⟨4,.chain⟩,⟨0,.phase⟩,⟨1,.phase⟩,⟨2,.phase⟩,⟨3,.phase⟩,⟨4,.phase⟩,⟨7,.gcOnly .appendInPlace⟩],none⟩ (fun K hK=>?_) rq0)
    refine step_store_mid (by rfl) 25 (.tmp 202) (.tmp 198) (by rfl) gk (m*12) (hd.cells (.slice none 0 0) (.slice none 0 0)) (by rfl) (by rfl) (by first | exact HTH.out | exact HTHc.out) (infN rfl) (by kernel_rfl) ?_;(try rw [←HW4.out])
    refine hK.out _ _ kp (fun hHeld=>?_)
    clear hK K
    try simp only [PT]
    refine wpAnyH_done (by kernel_rfl) ?_ _
    refine NoPanic.normal ?_
   rotate_left 1
  rotate_left 2
  focus
   refine step_buildNodeA (by rfl) (.const (.agg zeroN)) (by rfl) zeroN (by rfl) (by rfl) ?_;have hb3:Below w12.heap.size w12 (w12.drew.alloc (.cells zeroN 25)):=((Below.refl w12.heap.size w12).drew).alloc (Nat.le_refl _) _;have HN3:=hide (show Blk (w12.drew.alloc (.cells zeroN 25)) w12.drew.heap.size zeroN 25 from Blk.newAt rfl);obtain⟨W3,hW3⟩:∃W3,W3=w12.drew.alloc (.cells zeroN 25):=⟨_,rfl⟩;rw [←hW3] at hb3 HN3;rw [←hW3];clear hW3;have HBo3:=hide (Blk.below hb3 HBb.out);have c03:W3.cell? ⟨ob,0,none⟩=some (.slice A2 m c2):=HBo3.out.cells 0;have HK3:=hide (below_row' HOW.out hb3);have hkeep3:Blk W3 nb (hd.cells (.slice none 0 0) (.slice none 0 0)) 25∧True:=⟨Blk.below hb3 HN12.out,trivial⟩;have HB3:=hide hb3;have hsz3:=hb3.size;have hsz4:ob+1≤W3.heap.size:=(by have:=HBo3.out.lt;omega)
   refine hK.out _ _ kp (fun hHeld=>?_)
   clear hK K
   try simp only [PT]
   refine rqS [0] (rqC ⟨some 197,.load 22 (.tmp 6),22, "sourcetree.go:493",#[],none⟩ (fun K hK=>?_) rq0)
   go_simp
   refine hK.out _ _ kp (fun hHeld=>?_)
   clear hK K
   try simp only [PT]
   refine tkZ 2 ⟨some 199,.call ⟨.builtin .len,#[.tmp 197],#[22]⟩,3, "sourcetree.go:493",#[⟨0,.data⟩],none⟩ ?_
   refine rqS [4] (rqC ⟨some 201,.call ⟨.builtin .append,#[.tmp 197,.tmp 200],#[22,22]⟩,22, "sourcetree.go:493",(phs [⟨0,.data⟩,⟨3,.data⟩] 4),none⟩ (fun K hK=>?_) rq0)
   refine step_append_rows W3 (by rfl) _ _ 22 (by rfl) (ob+1) 25 nodeInfo Tryz.underlying22 (by rfl) (by decide) (.slice A2 m c2) m xk HK3.out ⟨w12.drew.heap.size,0,none⟩ 1 1 zeroN.toList (by rfl) (by rfl) (by rfl) (World.news_of_block HN3.out) (by decide) (by unfold maxLen;omega) (by omega) (by omega) ?_;intro v2 w2 hown2 hnb2 hg2;have HG2:=hide hg2;have HN2:=hide hnb2;obtain⟨gk,ck,curk,rfl,hlk,hBk,hnck,hcmk,hcsk,hcxk⟩:=own_blk hown2 (by omega);clear hlk hBk hnck hcmk hcsk hcxk;have HOW2:=hide hown2;have HTH:=hide (there_own hown2);have hgob:ob≠gk:=(by have:=(hown2.lt gk rfl).1;omega);have hgnb:nb≠gk:=fun e=>hnb2.elim (fun h=>HANB.out (h.symm.trans (congrArg some e.symm))) (fun h=>by(have h2:gk=W3.heap.size:=Option.some.inj h;have:=HN12.out.lt;omega));have HBo2:=hide (show Blk w2 ob #[.slice A2 m c2] 22 from(hg2.block ob HBo3.out.lt (fun e=>HAOB.out e.symm)).trans HBo3.out);have HNn2:=hide (show Blk w2 nb (hd.cells (.slice none 0 0) (.slice none 0 0)) 25 from(hg2.block nb hkeep3.1.lt (fun e=>HANB.out e.symm)).trans hkeep3.1);have hkeepa:Blk w2 nb (hd.cells (.slice none 0 0) (.slice none 0 0)) 25∧True:=⟨HNn2.out,trivial⟩;obtain⟨W4,hW4⟩:∃W4,W4=w2.setCells gk (m*12) (hd.cells (.slice none 0 0) (.slice none 0 0)).toList:=⟨_,rfl⟩;have HW4:=hide hW4;have hkeepb:Blk W4 nb (hd.cells (.slice none 0 0) (.slice none 0 0)) 25∧True:=⟨by(rw [hW4];exact(FrO.sets (O:=fun j=>j=gk) rfl _ _ _).blk HNn2.out hgnb),trivial⟩;have hkeepc:Blk (w2.setCell ⟨ob,0,none⟩ (.slice (some ⟨gk,0,none⟩) (m+1) ck)) nb (hd.cells (.slice none 0 0) (.slice none 0 0)) 25∧True:=⟨HNn2.out.other (by omega),trivial⟩;have hkeepe:Blk (W4.setCell ⟨ob,0,none⟩ (.slice (some ⟨gk,0,none⟩) (m+1) ck)) nb (hd.cells (.slice none 0 0) (.slice none 0 0)) 25∧True:=⟨hkeepb.1.other (by omega),trivial⟩;have hkeepf:Blk ((w2.setCell ⟨ob,0,none⟩ (.slice (some ⟨gk,0,none⟩) (m+1) ck)).setCells gk (m*12) (hd.cells (.slice none 0 0) (.slice none 0 0)).toList) nb (hd.cells (.slice none 0 0) (.slice none 0 0)) 25∧True:=⟨(FrO.sets (O:=fun j=>j=gk) rfl _ _ _).blk hkeepc.1 hgnb,trivial⟩;have HTHc:=hide (there_own (own_set (g:=ob) (i:=0) (u:=.slice (some ⟨gk,0,none⟩) (m+1) ck) hown2 (fun e=>hgob (Option.some.inj e).symm)));have c02:=HBo2.out.cells 0;have f02:=HBo2.out.free 0;have HBo2b:=hide (show Blk W4 ob #[.slice A2 m c2] 22 from by(rw [hW4];exact(FrO.sets (O:=fun j=>j=gk) (g:=gk) rfl (hd.cells (.slice none 0 0) (.slice none 0 0)).toList (m*12) w2).blk HBo2.out hgob));have c02b:=HBo2b.out.cells 0;have f02b:=HBo2b.out.free 0;simp at c02 c02b;clear hown2 hnb2 hg2 c0 c03 hW4;have hmm:(m:Int) < (m:Int)+1:=by omega
   refine hK.out _ _ kp (fun hHeld=>?_)
   clear hK K
   try simp only [PT]
   refine tkZ 5 ⟨some 202,.indexAddr 22 (.tmp 201) (.tmp 199),0, "sourcetree.go:493",#[⟨4,.data⟩,⟨2,.data⟩,⟨0,.phase⟩,⟨1,.phase⟩,⟨2,.phase⟩,⟨3,.phase⟩,⟨4,.phase⟩,⟨7,.gcOnly .appendInPlace⟩],none⟩ ?_
   refine rqS [6,7] (rqC ⟨none,.store 25 (.tmp 202) (.tmp 198),0, "sourcetree.go:493",#[⟨5,.data⟩,⟨1,.data⟩,⟨4,.chain⟩,⟨0,.phase⟩,⟨1,.phase⟩,⟨2,.phase⟩,⟨3,.phase⟩,⟨4,.phase⟩,⟨7,.gcOnly .appendInPlace⟩],none⟩ (fun K hK=>?_) (rqC ⟨none,.store 22 (.tmp 6) (.tmp 201),0, "sourcetree.go:493",#[⟨4,.data⟩,⟨4,.chain⟩,⟨6,.textOnly .appendInPlace⟩,⟨0,.phase⟩,⟨1,.phase⟩,⟨2,.phase⟩,⟨3,.phase⟩,⟨4,.phase⟩,⟨5,.textOnly .appendInPlace⟩,⟨6,.textOnly .appendInPlace⟩],none⟩ (fun K hK=>?_) rq0))
   focus
    refine step_store_mid (by rfl) 25 (.tmp 202) (.tmp 198) (by rfl) gk (m*12) (hd.cells (.slice none 0 0) (.slice none 0 0)) (by rfl) (by rfl) (by first | exact HTH.out | exact HTHc.out) (infN rfl) (by kernel_rfl) ?_;(try rw [←HW4.out])
    refine hK.out _ _ kp (fun hHeld=>?_)
    clear hK K
    try simp only [PT]
    refine rqS [7] (rqC ⟨none,.store 22 (.tmp 6) (.tmp 201),0, "sourcetree.go:493",#[⟨4,.data⟩,⟨4,.chain⟩,⟨6,.textOnly .appendInPlace⟩,⟨0,.phase⟩,⟨1,.phase⟩,⟨2,.phase⟩,⟨3,.phase⟩,⟨4,.phase⟩,⟨5,.textOnly .appendInPlace⟩,⟨6,.textOnly .appendInPlace⟩],none⟩ (fun K hK=>?_) rq0)
    go_simp
    refine hK.out _ _ kp (fun hHeld=>?_)
    clear hK K
    try simp only [PT]
    refine wpAnyH_done (by kernel_rfl) ?_ _
    refine NoPanic.normal ?_
   rotate_left 1
   focus
    go_simp
    refine hK.out _ _ kp (fun hHeld=>?_)
    clear hK K
    try simp only [PT]
    refine rqS [6] (rqC ⟨none,.store 25 (.tmp 202) (.tmp 198),0, "sourcetree.go:493",#[⟨5,.data⟩,⟨1,.data⟩,⟨4,.chain⟩,⟨0,.phase⟩,⟨1,.phase⟩,⟨2,.phase⟩,⟨3,.phase⟩,⟨4,.phase⟩,⟨7,.gcOnly .appendInPlace⟩],none⟩ (fun K hK=>?_) rq0)
    refine step_store_mid (by rfl) 25 (.tmp 202) (.tmp 198) (by rfl) gk (m*12) (hd.cells (.slice none 0 0) (.slice none 0 0)) (by rfl) (by rfl) (by first | exact HTH.out | exact HTHc.out) (infN rfl) (by kernel_rfl) ?_;(try rw [←HW4.out])
    refine hK.out _ _ kp (fun hHeld=>?_)
    clear hK K
    try simp only [PT]
    refine wpAnyH_done (by kernel_rfl) ?_ _
    refine NoPanic.normal ?_
   rotate_left 1
  rotate_left 2
  all_goals
   have HZ:∀W,(W=(w2.setCells gk (m*12) (hd.cells (.slice none 0 0) (.slice none 0 0)).toList).setCell ⟨ob,0,none⟩ (.slice (some ⟨gk,0,none⟩) (m+1) ck)∨W=(w2.setCell ⟨ob,0,none⟩ (.slice (some ⟨gk,0,none⟩) (m+1) ck)).setCells gk (m*12) (hd.cells (.slice none 0 0) (.slice none 0 0)).toList)→StkPT (ob+1) ob (⟨hd,[],.nil⟩ :: sl) O2 w12 W:=fun W hW=>push_endT (by omega) hm HBb.out HOW.out HCL2.out HB3.out HG2.out HN2.out HOW2.out rfl hW
   first
    | (obtain⟨W9,hW9⟩:∃W9,W9=W4.setCell ⟨ob,0,none⟩ (.slice (some ⟨gk,0,none⟩) (m+1) ck):=⟨_,rfl⟩;rw [←hW9];have HY:=hide (HZ W9 (Or.inl (by rw [hW9,HW4.out]))))
    | (obtain⟨W9,hW9⟩:∃W9,W9=(w2.setCell ⟨ob,0,none⟩ (.slice (some ⟨gk,0,none⟩) (m+1) ck)).setCells gk (m*12) (hd.cells (.slice none 0 0) (.slice none 0 0)).toList:=⟨_,rfl⟩;rw [←hW9];have HY:=hide (HZ W9 (Or.inr hW9)))
   clear HZ HBb HOW HCL2 HB3 HG2 HN2 HOW2 HW4 hW9
   have hql:i < q:=by have h1:=(List.getElem?_eq_some_iff.1 HP.out).1;have h2:=HQ.out;omega
   have HRel:=hide (show ∃(O9:Nat→Prop),linesS (cl.drop (i+1)) (i+1) (⟨hd,[],.nil⟩ :: sl)=linesS cl 0 []∧wid (⟨hd,[],.nil⟩ :: sl)≤i+1∧StkT (ob+1) ob (⟨hd,[],.nil⟩ :: sl) O9 W9∧Below ob W6 W9 from by
    obtain⟨O9,h1,h2,h3⟩:=HY.out
    refine⟨O9,?_,?_,h1,(HBL.out.trans HB12.out).trans (h3.below (by have:=HB12.out.size;omega) (fun j hj=>by
     rcases hj with h | h
     ·omega
     ·have:=HOL2.out j h;omega))⟩
    ·have h0:=HLN.out
     rw [HDR.out,linesS_next,HWS.out,HSTEP2.out,←HSL.out] at h0
     exact h0
    ·show 0+1+wid sl≤i+1
     have:=HW1.out
     rw [←HSL.out] at this
     omega)
   clear HY HOL2
   go_wp2_with fail
   go_roundw
   case rel=>
    obtain⟨O9,h1,h2,h3,h4⟩:=HRel.out
    exact⟨i+1,_,O9,by go_num,by omega,by omega,h1,h2,(fun _ e=>by cases e),Nat.zero_le _,h3,h4⟩
   case measure=>simp [intOf];omega
end Go.Proofs.YtlhakdildbplkaaGreatDoor
