/- Part of the claim: its words. -/
import Derived.Test.YtlhakdildbplkaaGreatDoorG43
import Derived.Test.YtlhakdildbplkaaGreatDoorG24
set_option maxRecDepth 100000
set_option maxHeartbeats 8000000
namespace Go.Proofs.YtlhakdildbplkaaGreatDoor
set_option linter.unusedSimpArgs false
set_option linter.unusedVariables false
open Go.RowKit
theorem run_buildEmpty {P:Program} (w:World) (t e:TypeId) (ie:TypeInfo) (hu:P.underlying t=some (.slice e)) (hie:P.info? e=some ie):(Instr.buildSlice t 0 #[]).run P w=.ok (.slice (some ⟨w.heap.size,0,none⟩) 0 0) (w.alloc (.cells #[] e)):=by
 simp [Instr.buildSlice,run_underlying hu,sizeOf,typeInfo,hie,newRow,Instr.fill]
 rw [show Array.map (fun _:Nat=>(default:Value)) (Array.range 0)=#[] from Array.eq_empty_of_size_eq_zero (by simp)]
theorem step_emptyS {ops:Array Oper} {o:Oper} {a:Act} {w:World} {K:Act→World→Prop} {Q:Exit→Act→World→Prop} {E:Prop} (hgd:o.guard=none) (ho:o.op=.buildSlice 23 0 #[]) (lo:Nat) (hlo:lo≤w.heap.size)
  (hK:∀g W,W.ownsRow lo 69 2 (.slice (some ⟨g,0,none⟩) 0 0) 0 []→Below w.heap.size w W→lo≤g→w.heap.size≤g→g < W.heap.size→K (a.put o.dst (.slice (some ⟨g,0,none⟩) 0 0)) W):if Region.wanted o (yielded ops a.tmps)=true then Oper.wp Tryz.prog o a w K Q else E:=by
 have hw:Region.wanted o (yielded ops a.tmps)=true:=by simp [Region.wanted,hgd]
 rw [if_pos hw]
 obtain⟨i,hi,hz0,hz1,hz2⟩:=info_parts strmInfo
 have hr:=run_buildEmpty w 23 69 i Tryz.underlying23 hi
 unfold Oper.wp execOp
 simp only [ho,Sem.run_bind,List.map_toArray,List.map_nil,hr,Result.andThen_ok]
 exact hK w.heap.size _ (World.ownsRow_lit w #[] 0 hlo (by decide) rfl) ((Below.refl _ _).alloc (Nat.le_refl _) _) hlo (Nat.le_refl _) (by rw [World.size_alloc];omega)
theorem step_oneS {ops:Array Oper} {o:Oper} {a:Act} {w:World} {K:Act→World→Prop} {Q:Exit→Act→World→Prop} {E:Prop} (hgd:o.guard=none) (x:Operand) (ho:o.op=.buildSlice 23 1 #[(0,x)]) (s:St) (hx:a.eval x=.agg (strC s))
  (hK:∀g W,Blk W g (strC s) 69→Below w.heap.size w W→w.heap.size≤g→g < W.heap.size→K (a.put o.dst (.slice (some ⟨g,0,none⟩) 1 1)) W):if Region.wanted o (yielded ops a.tmps)=true then Oper.wp Tryz.prog o a w K Q else E:=
 step_buildStrm hgd x ho s.1 s.2 hx (hK w.heap.size _ (Blk.newAt rfl) ((Below.refl _ _).alloc (Nat.le_refl _) _) (Nat.le_refl _) (by rw [World.size_alloc];omega))
def SrA (w:World) (bk br:Nat) (s:St) (z:World):Prop:=Below w.heap.size w z∧Blk z bk (strC s) 69∧Blk z br zeroN 25
def SrB (bn lo:Nat) (cn:Array Value) (z:World):Prop:=Blk z bn cn 25∧lo≤z.heap.size
theorem SrA.bel {w z:World} {bk br:Nat} {s:St} (h:SrA w bk br s z):Below w.heap.size w z:=h.1
theorem SrA.res {w z:World} {bk br:Nat} {s:St} (h:SrA w bk br s z):Blk z br zeroN 25:=h.2.2
theorem SrA.below {w z z':World} {bk br:Nat} {s:St} (h:SrA w bk br s z) (hb:Below z.heap.size z z'):SrA w bk br s z':=⟨h.1.trans (hb.mono h.1.size),Blk.below hb h.2.1,Blk.below hb h.2.2⟩
theorem SrA.set {w z:World} {bk br bn j:Nat} {s:St} {v:Value} (h:SrA w bk br s z) (h0:w.heap.size≤bn) (h1:bk≠bn) (h2:br≠bn):SrA w bk br s (z.setCell ⟨bn,j,none⟩ v):=⟨h.1.setCell h0 _,h.2.1.other h1,h.2.2.other h2⟩
theorem SrA.grown {w z z':World} {bk br lo k n:Nat} {s:St} {T:TypeId} {v:Value} {xs:List Value} (h:SrA w bk br s z) (hw:w.heap.size≤lo∧bk < lo∧br < lo) (hown:z.ownsRow lo T k v n xs) (hg:z.grownBy z' v.ownBlock):SrA w bk br s z':=
 ⟨grown_row (own_base hown hw.1) hg h.1 h.1.size,(hg.block bk h.2.1.lt (fun e=>by have:=(hown.lt bk e.symm).1;omega)).trans h.2.1,(hg.block br h.2.2.lt (fun e=>by have:=(hown.lt br e.symm).1;omega)).trans h.2.2⟩
theorem SrB.below {bn lo:Nat} {cn:Array Value} {z z':World} (h:SrB bn lo cn z) (hb:Below z.heap.size z z'):SrB bn lo cn z':=⟨Blk.below hb h.1,Nat.le_trans h.2 hb.size⟩
theorem SrB.grown {bn lo k n:Nat} {cn:Array Value} {z z':World} {T:TypeId} {v:Value} {xs:List Value} (h:SrB bn lo cn z) (hbn:bn < lo) (hown:z.ownsRow lo T k v n xs) (hg:z.grownBy z' v.ownBlock):SrB bn lo cn z':=
 ⟨(hg.block bn h.1.lt (fun e=>by have:=(hown.lt bn e.symm).1;omega)).trans h.1,Nat.le_trans h.2 hg.size⟩
theorem st_0 {ops:Array Oper} {o:Oper} {a:Act} {w z:World} {K:Act→World→Prop} {Q:Exit→Act→World→Prop} {E:Prop} {bk br bn lo:Nat} {s:St} {cn:Array Value} (hgd:o.guard=none) (ho:o.op=.buildSlice 23 0 #[]) (hA:SrA w bk br s z) (hB:SrB bn lo cn z)
  (hK:∀g W,SrA w bk br s W→Hid (SrB bn lo cn W)→Hid (W.ownsRow lo 69 2 (.slice (some ⟨g,0,none⟩) 0 0) 0 [])→Hid (Below z.heap.size z W∧z.heap.size≤g∧g < W.heap.size)→K (a.put o.dst (.slice (some ⟨g,0,none⟩) 0 0)) W):if Region.wanted o (yielded ops a.tmps)=true then Oper.wp Tryz.prog o a z K Q else E:=
 step_emptyS hgd ho lo hB.2 fun g W h1 h2 _ h4 h5=>hK g W (hA.below h2) (hide (hB.below h2)) (hide h1) (hide ⟨h2,h4,h5⟩)
theorem st_5 {ops:Array Oper} {o:Oper} {a:Act} {w z:World} {K:Act→World→Prop} {Q:Exit→Act→World→Prop} {E:Prop} {bk br bn lo:Nat} {s:St} {cn:Array Value} (hgd:o.guard=none) (x:Operand) (ho:o.op=.buildSlice 23 1 #[(0,x)]) (hx:a.eval x=.agg (strC s)) (hA:SrA w bk br s z) (hB:SrB bn lo cn z)
  (hK:∀g W,SrA w bk br s W→Hid (SrB bn lo cn W)→Hid (Blk W g (strC s) 69)→Hid (Below z.heap.size z W∧z.heap.size≤g∧g < W.heap.size)→K (a.put o.dst (.slice (some ⟨g,0,none⟩) 1 1)) W):if Region.wanted o (yielded ops a.tmps)=true then Oper.wp Tryz.prog o a z K Q else E:=
 step_oneS hgd x ho s hx fun g W h1 h2 h3 h4=>hK g W (hA.below h2) (hide (hB.below h2)) (hide h1) (hide ⟨h2,h3,h4⟩)
theorem ne_5 {z W:World} {g5 g0:Nat} {s:St} (h:Blk z g5 (strC s) 69) (hf:Below z.heap.size z W∧z.heap.size≤g0∧g0 < W.heap.size):∀j,(Value.slice (some ⟨g0,0,none⟩) 0 0).ownBlock=some j→g5≠j:=fun j hj=>by
 have h1:g0=j:=Option.some.inj hj
 have:=h.lt
 omega
theorem ne_0 {z W:World} {g5 lo n:Nat} {v:Value} {xs:List Value} (h:z.ownsRow lo 69 2 v n xs) (hf:Below z.heap.size z W∧z.heap.size≤g5∧g5 < W.heap.size):∀j,v.ownBlock=some j→g5≠j:=fun j hj=>by
 have:=(h.lt j hj).2
 omega
theorem st_3 {ops:Array Oper} {o:Oper} {a:Act} {w z:World} {K:Act→World→Prop} {Q:Exit→Act→World→Prop} {E:Prop} {bk br bn lo g0 c2:Nat} {s:St} {ss:List St} {A2:Option Addr} {cn:Array Value} (hgd:o.guard=none) (s0 x0:Operand)
  (ho:o.op=.call { callee:=.builtin .append,args:=#[s0,x0],argTypes:=#[23,23] }) (hA:SrA w bk br s z) (hB:SrB bn lo cn z) (hV:z.ownsRow lo 69 2 (.slice (some ⟨g0,0,none⟩) 0 0) 0 []) (hw:w.heap.size≤lo∧bn < lo∧bk < lo∧br < lo) (hss:ss.length≤30000)
  (hN:∀z,Below w.heap.size w z→0 < ss.length→∃ad,A2=some ad∧∀j u,(stV ss)[j]? = some u→z.cell? ((ad:Addr).add j)=some u) (hs:a.eval s0=.slice (some ⟨g0,0,none⟩) 0 0) (hx:a.eval x0=.slice A2 ss.length c2)
  (hK:∀A3 c3 W,SrA w bk br s W→Hid (SrB bn lo cn W)→Hid (W.ownsRow lo 69 2 (.slice A3 ss.length c3) ss.length (stV ss))→Hid (∀g5,g5≠g0→Blk z g5 (strC s) 69→Blk W g5 (strC s) 69)→K (a.put o.dst (.slice A3 ss.length c3)) W) :
  if Region.wanted o (yielded ops a.tmps)=true then Oper.wp Tryz.prog o a z K Q else E:=by
 refine step_append_opt z hgd s0 x0 23 ho lo 69 strmInfo Tryz.underlying23 rfl (by decide) _ 0 [] hV A2 ss.length c2 (stV ss) hs hx (stV_len _) (hN z hA.1) (stV_one _) (by unfold maxLen;omega) (by omega) hB.2 fun v W h1 _ h3=>?_
 rw [Nat.zero_add,List.nil_append] at h1
 obtain⟨A3,c3,rfl⟩:=own_slice h1
 exact hK A3 c3 W (hA.grown ⟨hw.1,hw.2.2.1,hw.2.2.2⟩ hV h3) (hide (hB.grown hw.2.1 hV h3)) (hide h1) (hide fun g5 hne hb=>(h3.block g5 hb.lt (fun e=>hne (Option.some.inj e))).trans hb)
theorem st_6 {ops:Array Oper} {o:Oper} {a:Act} {w z:World} {K:Act→World→Prop} {Q:Exit→Act→World→Prop} {E:Prop} {bk br bn lo g5 c3:Nat} {s:St} {ss:List St} {A3:Option Addr} {cn:Array Value} (hgd:o.guard=none) (s0 x0:Operand)
  (ho:o.op=.call { callee:=.builtin .append,args:=#[s0,x0],argTypes:=#[23,23] }) (hA:SrA w bk br s z) (hB:SrB bn lo cn z) (hV:z.ownsRow lo 69 2 (.slice A3 ss.length c3) ss.length (stV ss)) (h5:Blk z g5 (strC s) 69) (hw:w.heap.size≤lo∧bn < lo∧bk < lo∧br < lo) (hss:ss.length≤30000)
  (hs:a.eval s0=.slice A3 ss.length c3) (hx:a.eval x0=.slice (some ⟨g5,0,none⟩) 1 1)
  (hK:∀A6 c6 W,SrA w bk br s W→Hid (SrB bn lo cn W)→Hid (W.ownsRow lo 69 2 (.slice A6 (ss.length+1) c6) (ss.length+1) (stV ss++stV [s]))→K (a.put o.dst (.slice A6 (ss.length+1) c6)) W) :
  if Region.wanted o (yielded ops a.tmps)=true then Oper.wp Tryz.prog o a z K Q else E:=by
 refine step_append_rows z hgd s0 x0 23 ho lo 69 strmInfo Tryz.underlying23 rfl (by decide) _ ss.length (stV ss) hV ⟨g5,0,none⟩ 1 1 (stV [s]) hs hx rfl (World.news_of_block h5) (stV_one _) (by unfold maxLen;omega) (by omega) hB.2 fun v W h1 _ h3=>?_
 obtain⟨A6,c6,rfl⟩:=own_slice h1
 exact hK A6 c6 W (hA.grown ⟨hw.1,hw.2.2.1,hw.2.2.2⟩ hV h3) (hide (hB.grown hw.2.1 hV h3)) (hide h1)
theorem str_fin {O:Nat→Prop} {w w6:World} {t:Tr} {s:St} {A A2 A6:Option Addr} {c c2 c6 bn br lo:Nat} (hO:∀j,O j→j < w.heap.size) (hv:TreeX O w (.agg (t.h.cells (.slice A t.ks.len c) (.slice A2 t.ss.length c2))) t) (hnil:t.ks=.nil)
  (hlo:w.heap.size≤lo∧bn < lo∧br < lo∧w.heap.size≤bn∧w.heap.size≤br) (hown:w6.ownsRow lo 69 2 (.slice A6 (t.ss.length+1) c6) (t.ss.length+1) (stV t.ss++stV [s])) (hb:Below w.heap.size w w6) :
  ∃r,Ending.returned (.agg (t.h.cells (.slice A t.ks.len c) (.slice A6 (t.ss.length+1) c6)))=.returned r∧TreeX O ((w6.setCell ⟨bn,11,none⟩ (.slice A6 (t.ss.length+1) c6)).setRow br (t.h.cells (.slice A t.ks.len c) (.slice A6 (t.ss.length+1) c6))) r (strT s t) ∧
   Below w.heap.size w ((w6.setCell ⟨bn,11,none⟩ (.slice A6 (t.ss.length+1) c6)).setRow br (t.h.cells (.slice A t.ks.len c) (.slice A6 (t.ss.length+1) c6))):=by
 have hf:FrO (fun j=>j=bn∨j=br) w6 ((w6.setCell ⟨bn,11,none⟩ (.slice A6 (t.ss.length+1) c6)).setRow br (t.h.cells (.slice A t.ks.len c) (.slice A6 (t.ss.length+1) c6))):=(FrO.set (O:=fun j=>j=bn∨j=br) (Or.inl rfl)).trans (FrO.setRow (O:=fun j=>j=bn∨j=br) (Or.inr rfl)) (fun j h=>Or.inl h)
 have hbf:=hb.trans (hf.below hb.size fun j hj=>by rcases hj with rfl | rfl <;> omega)
 have h4:=own_fr hf hown fun g hg hj=>by
  have:=(hown.lt g hg).1
  rcases hj with rfl | rfl <;> omega
 refine⟨_,rfl,fun w5 hf5=>?_,hbf⟩
 have hf3:FrO O w w5:=(FrO.of hbf).trans hf5 fun j hj=>Or.inl hj
 obtain⟨kv2,sv2,e2,_,hk2⟩:=hv w5 hf3
 injection e2 with e2
 have e3:=congrArg (fun a:Array Value=>a[10]?) e2
 have e4:Value.slice A t.ks.len c=kv2:=by injection e3
 rw [←e4] at hk2
 rw [strT_none hnil]
 refine⟨.slice A t.ks.len c,.slice A6 (t.ss.length+1) c6,rfl,?_,by rw [hnil] at hk2 ⊢;exact hk2⟩
 have h5:=own_fr hf5 h4 fun g hg hj=>by
  have h5:=(hown.lt g hg).1
  have h6:=hO g hj
  omega
 rw [←stV_app] at h5
 have hl:(t.ss++[s]).length=t.ss.length+1:=by rw [List.length_append];rfl
 rw [←hl] at h5 ⊢
 exact StR.of_own (Nat.le_refl _) h5
theorem last_some {f:Fo} (h:f≠.nil):∃x,f.last=some x:=by
 cases e:f.last with
 | none=>exact absurd (last_none e) h
 | some x=>exact⟨x,rfl⟩
theorem last_count {f:Fo} {x:Tr} (h:f.last=some x):x.count≤f.count:=by
 obtain⟨f0,e,-,-⟩:=last_list h
 subst e
 clear h
 induction f0 with
 | nil=>show x.ks.count+1≤x.ks.count+1+0;omega
 | node h ss ks nx _ ih=>rw [Fo.app,Fo.count_node];omega
theorem rstream_any (s:St):∀(l:Nat) (O:Nat→Prop) (t:Tr),t.count≤l→t.sz≤500000→∀(v:Value) (w:World),(∀j,O j→j < w.heap.size)→TreeX O w v t →
  Calls Tryz.prog 98 #[v,.agg (strC s)] w fun e w'=>∃r,e=.returned r∧TreeX O w' r (strT s t)∧Below w.heap.size w w':=by
 intro l
 induction l with
 | zero=>intro O t h;unfold Tr.count at h;omega
 | succ l ih=>
  intro O t hct hsz v w hO hv
  obtain⟨A,c,A2,c2,rfl,-,hst0⟩:=hv.here.openL
  obtain⟨cn,hcn⟩:∃cn,cn=t.h.cells (.slice A t.ks.len c) (.slice A2 t.ss.length c2):=⟨_,rfl⟩
  obtain⟨xs,hrx,hxl,hx1,hxc⟩:=LeftX.row hv.left
  have hlk2:t.ks.len≤500000:=by have h1:=t.ks.len_sz;unfold Tr.sz at hsz;omega
  have HRX:=hide hrx
  have HXC:=hide hxc
  have HX1:=hide hx1
  have HV:=hide hv
  have HO:=hide hO
  have HCN:=hide hcn
  rw [←hcn]
  rw [←hcn] at HV
  have hzn:cn.size=12:=by rw [hcn];rfl
  have cn10:cn[10]? = some (.slice A t.ks.len c):=by rw [hcn];rfl
  have cn11:cn[11]? = some (.slice A2 t.ss.length c2):=by rw [hcn];rfl
  have HSET:=hide (show ∀v,cn.setIfInBounds 10 v=t.h.cells v (.slice A2 t.ss.length c2) from fun v=>by rw [hcn];rfl)
  have HSET2:=hide (show ∀v,cn.setIfInBounds 11 v=t.h.cells (.slice A t.ks.len c) v from fun v=>by rw [hcn];rfl)
  clear hv hO hcn hrx hxc hx1
  have HL:Live w []:=trivial
  go_enter Tryz.func98,Tryz.ntmps98
  go_upto_region 1 with fail
  have hbel3:Below w.heap.size w (((w.alloc (.cells cn 25)).alloc (.cells (strC s) 69)).alloc (.cells zeroN 25)):=by(exact bl)
  have HBn:=hide (show Blk (((w.alloc (.cells cn 25)).alloc (.cells (strC s) 69)).alloc (.cells zeroN 25)) w.heap.size cn 25 from((Blk.newAt rfl).alloc _).alloc _)
  have HB2:=hide (show Blk (((w.alloc (.cells cn 25)).alloc (.cells (strC s) 69)).alloc (.cells zeroN 25)) (w.heap.size+1) (strC s) 69 from(Blk.newAt (by simp only [World.size_alloc])).alloc _)
  have HBr:=hide (show Blk (((w.alloc (.cells cn 25)).alloc (.cells (strC s) 69)).alloc (.cells zeroN 25)) (w.heap.size+1+1) zeroN 25 from Blk.newAt (by simp only [World.size_alloc]))
  have hz3:(((w.alloc (.cells cn 25)).alloc (.cells (strC s) 69)).alloc (.cells zeroN 25)).heap.size=w.heap.size+3:=by simp only [World.size_alloc]
  obtain⟨W3,hW⟩:∃W3,W3=((w.alloc (.cells cn 25)).alloc (.cells (strC s) 69)).alloc (.cells #[.string ⟨#[]⟩,.int .i64 0,.string ⟨#[]⟩,.string ⟨#[]⟩,.int .i64 0,.int .i64 0,.int .i64 0,.int .i64 0,.int .i64 0,.int .i64 0,.slice none 0 0,.slice none 0 0] 25):=⟨_,rfl⟩
  have hW':W3=((w.alloc (.cells cn 25)).alloc (.cells (strC s) 69)).alloc (.cells zeroN 25):=hW
  rw [←hW'] at HBn HB2 HBr hz3 hbel3
  rw [←hW]
  clear hW hW'
  obtain⟨bn,hbn⟩:∃b,b=w.heap.size:=⟨_,rfl⟩
  obtain⟨bk,hbk⟩:∃b,b=w.heap.size+1:=⟨_,rfl⟩
  obtain⟨br,hbr⟩:∃b,b=w.heap.size+1+1:=⟨_,rfl⟩
  rw [←hbr,←hbk,←hbn]
  rw [←hbn] at HBn
  rw [←hbk] at HB2
  rw [←hbr] at HBr
  have hrw:w.heap.size≤bn∧w.heap.size≤bk∧w.heap.size≤br∧bn≠bk∧bn≠br∧bk≠br∧bn < W3.heap.size∧bk < W3.heap.size∧br < W3.heap.size∧w.heap.size≤W3.heap.size:=by omega
  clear hbr hbk hbn hz3
  by_cases hnil:t.ks=.nil
  case pos=>
   have hks:t.ks.len=0:=by rw [hnil];rfl
   have HNIL:=hide hnil
   have hss:t.ss.length≤30000:=by have h1:=szS_len t.ss;unfold Tr.sz at hsz;omega
   have HN2:=hide (show ∀z,Below w.heap.size w z→0 < t.ss.length→∃ad,A2=some ad∧∀j u,(stV t.ss)[j]? = some u→z.cell? ((ad:Addr).add j)=some u from fun z hz h0=>by
    obtain⟨g,o,e,hg,hc⟩:=hst0 h0
    refine⟨_,e,fun j u hu=>?_⟩
    rw [addP]
    refine(hz.cell (p:=⟨g,o+j,none⟩) hg).trans ?_
    obtain⟨q,s',h1,h2 | h2⟩:=stV_at t.ss j u hu
    ·obtain⟨rfl,rfl⟩:=h2
     exact(hc q s' h1).1
    ·obtain⟨rfl,rfl⟩:=h2
     exact(hc q s' h1).2)
   clear hst0 hnil
   have q1:((t.ks.len:Int) == 0)=true:=by rw [hks];rfl
   have c10:W3.cell? ⟨bn,10,none⟩=some (.slice A t.ks.len c):=(HBn.out.cells 10).trans cn10
   go_upto_region 2 with fail
   clear c10
   obtain⟨lo,hlo⟩:∃lo,lo=W3.heap.size:=⟨_,rfl⟩
   have hw3:w.heap.size≤lo∧bn < lo∧bk < lo∧br < lo:=by omega
   have HB:=hide (show SrB bn lo cn W3 from⟨HBn.out,by omega⟩)
   have hkeepz:SrA w bk br s W3:=⟨hbel3,HB2.out,HBr.out⟩
   have hkeepd:SrA w bk br s W3.drew:=⟨hbel3.drew,HB2.out,HBr.out⟩
   have HV0:=hide HV.out
   clear hlo HBn HB2 HBr HV
   refine wp_region_noPanic ?_
   refine wp_region_held_drew (S:=(fun z=>SrA w bk br s z)) (by kernel_rfl) kp (fun hHeld=>?_)
   refine tkZ 1 ⟨some 11,.fieldAddr 25 (.tmp 2) 11,0, "ref.go:527",#[],none⟩ ?_
   refine tkZ 4 ⟨some 14,.load 69 (.tmp 3),69, "ref.go:527",#[],none⟩ ?_ (by intro w hSw;(try dsimp only at hSw);refine(exec_load_row 69 (.tmp 3) (by rfl) bk (by rfl) 69 (strC s) (0,0) _ hSw.2.1 Tryz.underlying69 (by rfl) infS2).trans ?_;with_reducible rfl)
   refine rqS [0,2,5] (rqC ⟨some 10,.buildSlice 23 0 #[],23, "ref.go:527",#[],none⟩ (fun K hK=>?_) (rqC ⟨some 12,.load 23 (.tmp 11),23, "ref.go:527",#[⟨1,.data⟩],none⟩ (fun K hK=>?_) (rqC ⟨some 15,.buildSlice 23 1 #[(0,.tmp 14)],23, "ref.go:527",#[⟨4,.data⟩],none⟩ (fun K hK=>?_) rq0)))
   focus
    refine st_0 (by rfl) (by rfl) hHeld HB.out ?_;intro g0 W0 hA HB HV HF;(try have HN:=hide (ne_5 H5.out HF.out));(try have H5:=hide (Blk.below HF.out.1 H5.out))
    refine hK.out _ _ kp (fun hHeld=>?_)
    clear hK K
    try simp only [PT]
    refine rqS [2,5] (rqC ⟨some 12,.load 23 (.tmp 11),23, "ref.go:527",#[⟨1,.data⟩],none⟩ (fun K hK=>?_) (rqC ⟨some 15,.buildSlice 23 1 #[(0,.tmp 14)],23, "ref.go:527",#[⟨4,.data⟩],none⟩ (fun K hK=>?_) rq0))
    focus
     have c1:=(HB.out.1.cells 11).trans cn11;go_simp;(try with_reducible rfl)
     refine hK.out _ _ kp (fun hHeld=>?_)
     clear hK K
     try simp only [PT]
     refine rqS [3,5] (rqC ⟨some 13,.call ⟨.builtin .append,#[.tmp 10,.tmp 12],#[23,23]⟩,23, "ref.go:527",#[⟨0,.data⟩,⟨2,.data⟩],none⟩ (fun K hK=>?_) (rqC ⟨some 15,.buildSlice 23 1 #[(0,.tmp 14)],23, "ref.go:527",#[⟨4,.data⟩],none⟩ (fun K hK=>?_) rq0))
     focus
      refine st_3 (by rfl) (.tmp 10) (.tmp 12) (by rfl) hHeld HB.out HV.out hw3 hss HN2.out (by rfl) (by rfl) ?_;intro A3 c3 w3 hA HB HV HT;(try have H5:=hide (HT.out g5 (HN.out g0 rfl) H5.out))
      refine hK.out _ _ kp (fun hHeld=>?_)
      clear hK K
      try simp only [PT]
      refine rqS [5] (rqC ⟨some 15,.buildSlice 23 1 #[(0,.tmp 14)],23, "ref.go:527",#[⟨4,.data⟩],none⟩ (fun K hK=>?_) rq0)
      refine st_5 (by rfl) (.tmp 14) (by rfl) (by rfl) hHeld HB.out ?_;intro g5 W5 hA HB H5 HF;(try have HN:=hide (ne_0 HV.out HF.out));(try have HV:=hide (below_row' HV.out HF.out.1))
      refine hK.out _ _ kp (fun hHeld=>?_)
      clear hK K
      try simp only [PT]
      refine rqS [6] (rqC ⟨some 16,.call ⟨.builtin .append,#[.tmp 13,.tmp 15],#[23,23]⟩,23, "ref.go:527",#[⟨3,.data⟩,⟨5,.data⟩,⟨3,.chain⟩],none⟩ (fun K hK=>?_) rq0)
      refine st_6 (by rfl) (.tmp 13) (.tmp 15) (by rfl) hHeld HB.out HV.out H5.out hw3 hss (by rfl) (by rfl) ?_;intro A6 c6 w6 hA HB HV;have d11:=(HB.out.1.cells 11).trans cn11;have f11:=HB.out.1.free 11
      refine hK.out _ _ kp (fun hHeld=>?_)
      clear hK K
      try simp only [PT]
      refine tkZ 7 ⟨some 17,.fieldAddr 25 (.tmp 2) 11,0, "ref.go:527",(phs [] 7),none⟩ ?_
      refine rqS [8] (rqC ⟨none,.store 23 (.tmp 17) (.tmp 16),0, "ref.go:527",(phs [⟨7,.data⟩,⟨6,.data⟩,⟨6,.chain⟩] 7),none⟩ (fun K hK=>?_) rq0)
      go_simp;have hk8:SrA w bk br s (w6.setCell ⟨bn,11,none⟩ (.slice A6 (t.ss.length+1) c6)):=hA.set hrw.1 (by omega) (by omega)
      refine hK.out _ _ kp (fun hHeld=>?_)
      clear hK K
      try simp only [PT]
      refine wpAnyH_done (by kernel_rfl) ?_ _
      refine NoPanic.normal ?_
      have HN8:=hide (show Blk (w6.setCell ⟨bn,11,none⟩ (.slice A6 (t.ss.length+1) c6)) bn (t.h.cells (.slice A t.ks.len c) (.slice A6 (t.ss.length+1) c6)) 25 from by rw [←HSET2.out];exact HB.out.1.put rfl);have HR8:=hide hk8.res;clear d11 f11;go_wp2_with (first | ((with_reducible show wpList _ _ _ (Oper.mk (some 18) _ _ _ _ _ :: _) _ _);refine wpList_load_row rfl 25 (.tmp 2) rfl bn rfl 25 _ (0,0) _ HN8.out Tryz.underlying25 rfl (infN rfl) ?_) | ((with_reducible show wpList _ _ _ (Oper.mk none _ _ _ _ _ :: _) _ _);refine wpList_store_row rfl 25 (.tmp 4) (.tmp 18) rfl br (t.h.cells (.slice A t.ks.len c) (.slice A6 (t.ss.length+1) c6)) rfl rfl 25 zeroN HR8.out (infN rfl) rfl (nodeLit _ _ _ _ _ _ _) ?_))
      refine bodyPost_ret (results_cell_row Tryz.results98 _ _ br 25 _ (0,0) _ rfl (setRow_heap _ _ _ _ _ _ HR8.out) Tryz.underlying25 rfl (infN rfl)) rfl ?_
      exact str_fin HO.out (by have h2:=HV0.out;rw [HCN.out] at h2;exact h2) HNIL.out (by omega) HV.out hA.bel
     focus
      refine st_5 (by rfl) (.tmp 14) (by rfl) (by rfl) hHeld HB.out ?_;intro g5 W5 hA HB H5 HF;(try have HN:=hide (ne_0 HV.out HF.out));(try have HV:=hide (below_row' HV.out HF.out.1))
      refine hK.out _ _ kp (fun hHeld=>?_)
      clear hK K
      try simp only [PT]
      refine rqS [3] (rqC ⟨some 13,.call ⟨.builtin .append,#[.tmp 10,.tmp 12],#[23,23]⟩,23, "ref.go:527",#[⟨0,.data⟩,⟨2,.data⟩],none⟩ (fun K hK=>?_) rq0)
      refine st_3 (by rfl) (.tmp 10) (.tmp 12) (by rfl) hHeld HB.out HV.out hw3 hss HN2.out (by rfl) (by rfl) ?_;intro A3 c3 w3 hA HB HV HT;(try have H5:=hide (HT.out g5 (HN.out g0 rfl) H5.out))
      refine hK.out _ _ kp (fun hHeld=>?_)
      clear hK K
      try simp only [PT]
      refine rqS [6] (rqC ⟨some 16,.call ⟨.builtin .append,#[.tmp 13,.tmp 15],#[23,23]⟩,23, "ref.go:527",#[⟨3,.data⟩,⟨5,.data⟩,⟨3,.chain⟩],none⟩ (fun K hK=>?_) rq0)
      refine st_6 (by rfl) (.tmp 13) (.tmp 15) (by rfl) hHeld HB.out HV.out H5.out hw3 hss (by rfl) (by rfl) ?_;intro A6 c6 w6 hA HB HV;have d11:=(HB.out.1.cells 11).trans cn11;have f11:=HB.out.1.free 11
      refine hK.out _ _ kp (fun hHeld=>?_)
      clear hK K
      try simp only [PT]
      refine tkZ 7 ⟨some 17,.fieldAddr 25 (.tmp 2) 11,0, "ref.go:527",(phs [] 7),none⟩ ?_
      refine rqS [8] (rqC ⟨none,.store 23 (.tmp 17) (.tmp 16),0, "ref.go:527",(phs [⟨7,.data⟩,⟨6,.data⟩,⟨6,.chain⟩] 7),none⟩ (fun K hK=>?_) rq0)
      go_simp;have hk8:SrA w bk br s (w6.setCell ⟨bn,11,none⟩ (.slice A6 (t.ss.length+1) c6)):=hA.set hrw.1 (by omega) (by omega)
      refine hK.out _ _ kp (fun hHeld=>?_)
      clear hK K
      try simp only [PT]
      refine wpAnyH_done (by kernel_rfl) ?_ _
      refine NoPanic.normal ?_
      have HN8:=hide (show Blk (w6.setCell ⟨bn,11,none⟩ (.slice A6 (t.ss.length+1) c6)) bn (t.h.cells (.slice A t.ks.len c) (.slice A6 (t.ss.length+1) c6)) 25 from by rw [←HSET2.out];exact HB.out.1.put rfl);have HR8:=hide hk8.res;clear d11 f11;go_wp2_with (first | ((with_reducible show wpList _ _ _ (Oper.mk (some 18) _ _ _ _ _ :: _) _ _);refine wpList_load_row rfl 25 (.tmp 2) rfl bn rfl 25 _ (0,0) _ HN8.out Tryz.underlying25 rfl (infN rfl) ?_) | ((with_reducible show wpList _ _ _ (Oper.mk none _ _ _ _ _ :: _) _ _);refine wpList_store_row rfl 25 (.tmp 4) (.tmp 18) rfl br (t.h.cells (.slice A t.ks.len c) (.slice A6 (t.ss.length+1) c6)) rfl rfl 25 zeroN HR8.out (infN rfl) rfl (nodeLit _ _ _ _ _ _ _) ?_))
      refine bodyPost_ret (results_cell_row Tryz.results98 _ _ br 25 _ (0,0) _ rfl (setRow_heap _ _ _ _ _ _ HR8.out) Tryz.underlying25 rfl (infN rfl)) rfl ?_
      exact str_fin HO.out (by have h2:=HV0.out;rw [HCN.out] at h2;exact h2) HNIL.out (by omega) HV.out hA.bel
    focus
     refine st_5 (by rfl) (.tmp 14) (by rfl) (by rfl) hHeld HB.out ?_;intro g5 W5 hA HB H5 HF;(try have HN:=hide (ne_0 HV.out HF.out));(try have HV:=hide (below_row' HV.out HF.out.1))
     refine hK.out _ _ kp (fun hHeld=>?_)
     clear hK K
     try simp only [PT]
     refine rqS [2] (rqC ⟨some 12,.load 23 (.tmp 11),23, "ref.go:527",#[⟨1,.data⟩],none⟩ (fun K hK=>?_) rq0)
     have c1:=(HB.out.1.cells 11).trans cn11;go_simp;(try with_reducible rfl)
     refine hK.out _ _ kp (fun hHeld=>?_)
     clear hK K
     try simp only [PT]
     refine rqS [3] (rqC ⟨some 13,.call ⟨.builtin .append,#[.tmp 10,.tmp 12],#[23,23]⟩,23, "ref.go:527",#[⟨0,.data⟩,⟨2,.data⟩],none⟩ (fun K hK=>?_) rq0)
     refine st_3 (by rfl) (.tmp 10) (.tmp 12) (by rfl) hHeld HB.out HV.out hw3 hss HN2.out (by rfl) (by rfl) ?_;intro A3 c3 w3 hA HB HV HT;(try have H5:=hide (HT.out g5 (HN.out g0 rfl) H5.out))
     refine hK.out _ _ kp (fun hHeld=>?_)
     clear hK K
     try simp only [PT]
     refine rqS [6] (rqC ⟨some 16,.call ⟨.builtin .append,#[.tmp 13,.tmp 15],#[23,23]⟩,23, "ref.go:527",#[⟨3,.data⟩,⟨5,.data⟩,⟨3,.chain⟩],none⟩ (fun K hK=>?_) rq0)
     refine st_6 (by rfl) (.tmp 13) (.tmp 15) (by rfl) hHeld HB.out HV.out H5.out hw3 hss (by rfl) (by rfl) ?_;intro A6 c6 w6 hA HB HV;have d11:=(HB.out.1.cells 11).trans cn11;have f11:=HB.out.1.free 11
     refine hK.out _ _ kp (fun hHeld=>?_)
     clear hK K
     try simp only [PT]
     refine tkZ 7 ⟨some 17,.fieldAddr 25 (.tmp 2) 11,0, "ref.go:527",(phs [] 7),none⟩ ?_
     refine rqS [8] (rqC ⟨none,.store 23 (.tmp 17) (.tmp 16),0, "ref.go:527",(phs [⟨7,.data⟩,⟨6,.data⟩,⟨6,.chain⟩] 7),none⟩ (fun K hK=>?_) rq0)
     go_simp;have hk8:SrA w bk br s (w6.setCell ⟨bn,11,none⟩ (.slice A6 (t.ss.length+1) c6)):=hA.set hrw.1 (by omega) (by omega)
     refine hK.out _ _ kp (fun hHeld=>?_)
     clear hK K
     try simp only [PT]
     refine wpAnyH_done (by kernel_rfl) ?_ _
     refine NoPanic.normal ?_
     have HN8:=hide (show Blk (w6.setCell ⟨bn,11,none⟩ (.slice A6 (t.ss.length+1) c6)) bn (t.h.cells (.slice A t.ks.len c) (.slice A6 (t.ss.length+1) c6)) 25 from by rw [←HSET2.out];exact HB.out.1.put rfl);have HR8:=hide hk8.res;clear d11 f11;go_wp2_with (first | ((with_reducible show wpList _ _ _ (Oper.mk (some 18) _ _ _ _ _ :: _) _ _);refine wpList_load_row rfl 25 (.tmp 2) rfl bn rfl 25 _ (0,0) _ HN8.out Tryz.underlying25 rfl (infN rfl) ?_) | ((with_reducible show wpList _ _ _ (Oper.mk none _ _ _ _ _ :: _) _ _);refine wpList_store_row rfl 25 (.tmp 4) (.tmp 18) rfl br (t.h.cells (.slice A t.ks.len c) (.slice A6 (t.ss.length+1) c6)) rfl rfl 25 zeroN HR8.out (infN rfl) rfl (nodeLit _ _ _ _ _ _ _) ?_))
     refine bodyPost_ret (results_cell_row Tryz.results98 _ _ br 25 _ (0,0) _ rfl (setRow_heap _ _ _ _ _ _ HR8.out) Tryz.underlying25 rfl (infN rfl)) rfl ?_
     exact str_fin HO.out (by have h2:=HV0.out;rw [HCN.out] at h2;exact h2) HNIL.out (by omega) HV.out hA.bel
   focus
    have c1:=(HB.out.1.cells 11).trans cn11;go_simp;(try with_reducible rfl)
    refine hK.out _ _ kp (fun hHeld=>?_)
    clear hK K
    try simp only [PT]
    refine rqS [0,5] (rqC ⟨some 10,.buildSlice 23 0 #[],23, "ref.go:527",#[],none⟩ (fun K hK=>?_) (rqC ⟨some 15,.buildSlice 23 1 #[(0,.tmp 14)],23, "ref.go:527",#[⟨4,.data⟩],none⟩ (fun K hK=>?_) rq0))
    focus
     refine st_0 (by rfl) (by rfl) hHeld HB.out ?_;intro g0 W0 hA HB HV HF;(try have HN:=hide (ne_5 H5.out HF.out));(try have H5:=hide (Blk.below HF.out.1 H5.out))
     refine hK.out _ _ kp (fun hHeld=>?_)
     clear hK K
     try simp only [PT]
     refine rqS [3,5] (rqC ⟨some 13,.call ⟨.builtin .append,#[.tmp 10,.tmp 12],#[23,23]⟩,23, "ref.go:527",#[⟨0,.data⟩,⟨2,.data⟩],none⟩ (fun K hK=>?_) (rqC ⟨some 15,.buildSlice 23 1 #[(0,.tmp 14)],23, "ref.go:527",#[⟨4,.data⟩],none⟩ (fun K hK=>?_) rq0))
     focus
      refine st_3 (by rfl) (.tmp 10) (.tmp 12) (by rfl) hHeld HB.out HV.out hw3 hss HN2.out (by rfl) (by rfl) ?_;intro A3 c3 w3 hA HB HV HT;(try have H5:=hide (HT.out g5 (HN.out g0 rfl) H5.out))
      refine hK.out _ _ kp (fun hHeld=>?_)
      clear hK K
      try simp only [PT]
      refine rqS [5] (rqC ⟨some 15,.buildSlice 23 1 #[(0,.tmp 14)],23, "ref.go:527",#[⟨4,.data⟩],none⟩ (fun K hK=>?_) rq0)
      refine st_5 (by rfl) (.tmp 14) (by rfl) (by rfl) hHeld HB.out ?_;intro g5 W5 hA HB H5 HF;(try have HN:=hide (ne_0 HV.out HF.out));(try have HV:=hide (below_row' HV.out HF.out.1))
      refine hK.out _ _ kp (fun hHeld=>?_)
      clear hK K
      try simp only [PT]
      refine rqS [6] (rqC ⟨some 16,.call ⟨.builtin .append,#[.tmp 13,.tmp 15],#[23,23]⟩,23, "ref.go:527",#[⟨3,.data⟩,⟨5,.data⟩,⟨3,.chain⟩],none⟩ (fun K hK=>?_) rq0)
      refine st_6 (by rfl) (.tmp 13) (.tmp 15) (by rfl) hHeld HB.out HV.out H5.out hw3 hss (by rfl) (by rfl) ?_;intro A6 c6 w6 hA HB HV;have d11:=(HB.out.1.cells 11).trans cn11;have f11:=HB.out.1.free 11
      refine hK.out _ _ kp (fun hHeld=>?_)
      clear hK K
      try simp only [PT]
      refine tkZ 7 ⟨some 17,.fieldAddr 25 (.tmp 2) 11,0, "ref.go:527",(phs [] 7),none⟩ ?_
      refine rqS [8] (rqC ⟨none,.store 23 (.tmp 17) (.tmp 16),0, "ref.go:527",(phs [⟨7,.data⟩,⟨6,.data⟩,⟨6,.chain⟩] 7),none⟩ (fun K hK=>?_) rq0)
      go_simp;have hk8:SrA w bk br s (w6.setCell ⟨bn,11,none⟩ (.slice A6 (t.ss.length+1) c6)):=hA.set hrw.1 (by omega) (by omega)
      refine hK.out _ _ kp (fun hHeld=>?_)
      clear hK K
      try simp only [PT]
      refine wpAnyH_done (by kernel_rfl) ?_ _
      refine NoPanic.normal ?_
      have HN8:=hide (show Blk (w6.setCell ⟨bn,11,none⟩ (.slice A6 (t.ss.length+1) c6)) bn (t.h.cells (.slice A t.ks.len c) (.slice A6 (t.ss.length+1) c6)) 25 from by rw [←HSET2.out];exact HB.out.1.put rfl);have HR8:=hide hk8.res;clear d11 f11;go_wp2_with (first | ((with_reducible show wpList _ _ _ (Oper.mk (some 18) _ _ _ _ _ :: _) _ _);refine wpList_load_row rfl 25 (.tmp 2) rfl bn rfl 25 _ (0,0) _ HN8.out Tryz.underlying25 rfl (infN rfl) ?_) | ((with_reducible show wpList _ _ _ (Oper.mk none _ _ _ _ _ :: _) _ _);refine wpList_store_row rfl 25 (.tmp 4) (.tmp 18) rfl br (t.h.cells (.slice A t.ks.len c) (.slice A6 (t.ss.length+1) c6)) rfl rfl 25 zeroN HR8.out (infN rfl) rfl (nodeLit _ _ _ _ _ _ _) ?_))
      refine bodyPost_ret (results_cell_row Tryz.results98 _ _ br 25 _ (0,0) _ rfl (setRow_heap _ _ _ _ _ _ HR8.out) Tryz.underlying25 rfl (infN rfl)) rfl ?_
      exact str_fin HO.out (by have h2:=HV0.out;rw [HCN.out] at h2;exact h2) HNIL.out (by omega) HV.out hA.bel
     focus
      refine st_5 (by rfl) (.tmp 14) (by rfl) (by rfl) hHeld HB.out ?_;intro g5 W5 hA HB H5 HF;(try have HN:=hide (ne_0 HV.out HF.out));(try have HV:=hide (below_row' HV.out HF.out.1))
      refine hK.out _ _ kp (fun hHeld=>?_)
      clear hK K
      try simp only [PT]
      refine rqS [3] (rqC ⟨some 13,.call ⟨.builtin .append,#[.tmp 10,.tmp 12],#[23,23]⟩,23, "ref.go:527",#[⟨0,.data⟩,⟨2,.data⟩],none⟩ (fun K hK=>?_) rq0)
      refine st_3 (by rfl) (.tmp 10) (.tmp 12) (by rfl) hHeld HB.out HV.out hw3 hss HN2.out (by rfl) (by rfl) ?_;intro A3 c3 w3 hA HB HV HT;(try have H5:=hide (HT.out g5 (HN.out g0 rfl) H5.out))
      refine hK.out _ _ kp (fun hHeld=>?_)
      clear hK K
      try simp only [PT]
      refine rqS [6] (rqC ⟨some 16,.call ⟨.builtin .append,#[.tmp 13,.tmp 15],#[23,23]⟩,23, "ref.go:527",#[⟨3,.data⟩,⟨5,.data⟩,⟨3,.chain⟩],none⟩ (fun K hK=>?_) rq0)
      refine st_6 (by rfl) (.tmp 13) (.tmp 15) (by rfl) hHeld HB.out HV.out H5.out hw3 hss (by rfl) (by rfl) ?_;intro A6 c6 w6 hA HB HV;have d11:=(HB.out.1.cells 11).trans cn11;have f11:=HB.out.1.free 11
      refine hK.out _ _ kp (fun hHeld=>?_)
      clear hK K
      try simp only [PT]
      refine tkZ 7 ⟨some 17,.fieldAddr 25 (.tmp 2) 11,0, "ref.go:527",(phs [] 7),none⟩ ?_
      refine rqS [8] (rqC ⟨none,.store 23 (.tmp 17) (.tmp 16),0, "ref.go:527",(phs [⟨7,.data⟩,⟨6,.data⟩,⟨6,.chain⟩] 7),none⟩ (fun K hK=>?_) rq0)
      go_simp;have hk8:SrA w bk br s (w6.setCell ⟨bn,11,none⟩ (.slice A6 (t.ss.length+1) c6)):=hA.set hrw.1 (by omega) (by omega)
      refine hK.out _ _ kp (fun hHeld=>?_)
      clear hK K
      try simp only [PT]
      refine wpAnyH_done (by kernel_rfl) ?_ _
      refine NoPanic.normal ?_
      have HN8:=hide (show Blk (w6.setCell ⟨bn,11,none⟩ (.slice A6 (t.ss.length+1) c6)) bn (t.h.cells (.slice A t.ks.len c) (.slice A6 (t.ss.length+1) c6)) 25 from by rw [←HSET2.out];exact HB.out.1.put rfl);have HR8:=hide hk8.res;clear d11 f11;go_wp2_with (first | ((with_reducible show wpList _ _ _ (Oper.mk (some 18) _ _ _ _ _ :: _) _ _);refine wpList_load_row rfl 25 (.tmp 2) rfl bn rfl 25 _ (0,0) _ HN8.out Tryz.underlying25 rfl (infN rfl) ?_) | ((with_reducible show wpList _ _ _ (Oper.mk none _ _ _ _ _ :: _) _ _);refine wpList_store_row rfl 25 (.tmp 4) (.tmp 18) rfl br (t.h.cells (.slice A t.ks.len c) (.slice A6 (t.ss.length+1) c6)) rfl rfl 25 zeroN HR8.out (infN rfl) rfl (nodeLit _ _ _ _ _ _ _) ?_))
      refine bodyPost_ret (results_cell_row Tryz.results98 _ _ br 25 _ (0,0) _ rfl (setRow_heap _ _ _ _ _ _ HR8.out) Tryz.underlying25 rfl (infN rfl)) rfl ?_
      exact str_fin HO.out (by have h2:=HV0.out;rw [HCN.out] at h2;exact h2) HNIL.out (by omega) HV.out hA.bel
    focus
     refine st_5 (by rfl) (.tmp 14) (by rfl) (by rfl) hHeld HB.out ?_;intro g5 W5 hA HB H5 HF;(try have HN:=hide (ne_0 HV.out HF.out));(try have HV:=hide (below_row' HV.out HF.out.1))
     refine hK.out _ _ kp (fun hHeld=>?_)
     clear hK K
     try simp only [PT]
     refine rqS [0] (rqC ⟨some 10,.buildSlice 23 0 #[],23, "ref.go:527",#[],none⟩ (fun K hK=>?_) rq0)
     refine st_0 (by rfl) (by rfl) hHeld HB.out ?_;intro g0 W0 hA HB HV HF;(try have HN:=hide (ne_5 H5.out HF.out));(try have H5:=hide (Blk.below HF.out.1 H5.out))
     refine hK.out _ _ kp (fun hHeld=>?_)
     clear hK K
     try simp only [PT]
     refine rqS [3] (rqC ⟨some 13,.call ⟨.builtin .append,#[.tmp 10,.tmp 12],#[23,23]⟩,23, "ref.go:527",#[⟨0,.data⟩,⟨2,.data⟩],none⟩ (fun K hK=>?_) rq0)
     refine st_3 (by rfl) (.tmp 10) (.tmp 12) (by rfl) hHeld HB.out HV.out hw3 hss HN2.out (by rfl) (by rfl) ?_;intro A3 c3 w3 hA HB HV HT;(try have H5:=hide (HT.out g5 (HN.out g0 rfl) H5.out))
     refine hK.out _ _ kp (fun hHeld=>?_)
     clear hK K
     try simp only [PT]
     refine rqS [6] (rqC ⟨some 16,.call ⟨.builtin .append,#[.tmp 13,.tmp 15],#[23,23]⟩,23, "ref.go:527",#[⟨3,.data⟩,⟨5,.data⟩,⟨3,.chain⟩],none⟩ (fun K hK=>?_) rq0)
     refine st_6 (by rfl) (.tmp 13) (.tmp 15) (by rfl) hHeld HB.out HV.out H5.out hw3 hss (by rfl) (by rfl) ?_;intro A6 c6 w6 hA HB HV;have d11:=(HB.out.1.cells 11).trans cn11;have f11:=HB.out.1.free 11
     refine hK.out _ _ kp (fun hHeld=>?_)
     clear hK K
     try simp only [PT]
     refine tkZ 7 ⟨some 17,.fieldAddr 25 (.tmp 2) 11,0, "ref.go:527",(phs [] 7),none⟩ ?_
     refine rqS [8] (rqC ⟨none,.store 23 (.tmp 17) (.tmp 16),0, "ref.go:527",(phs [⟨7,.data⟩,⟨6,.data⟩,⟨6,.chain⟩] 7),none⟩ (fun K hK=>?_) rq0)
     go_simp;have hk8:SrA w bk br s (w6.setCell ⟨bn,11,none⟩ (.slice A6 (t.ss.length+1) c6)):=hA.set hrw.1 (by omega) (by omega)
     refine hK.out _ _ kp (fun hHeld=>?_)
     clear hK K
     try simp only [PT]
     refine wpAnyH_done (by kernel_rfl) ?_ _
     refine NoPanic.normal ?_
     have HN8:=hide (show Blk (w6.setCell ⟨bn,11,none⟩ (.slice A6 (t.ss.length+1) c6)) bn (t.h.cells (.slice A t.ks.len c) (.slice A6 (t.ss.length+1) c6)) 25 from by rw [←HSET2.out];exact HB.out.1.put rfl);have HR8:=hide hk8.res;clear d11 f11;go_wp2_with (first | ((with_reducible show wpList _ _ _ (Oper.mk (some 18) _ _ _ _ _ :: _) _ _);refine wpList_load_row rfl 25 (.tmp 2) rfl bn rfl 25 _ (0,0) _ HN8.out Tryz.underlying25 rfl (infN rfl) ?_) | ((with_reducible show wpList _ _ _ (Oper.mk none _ _ _ _ _ :: _) _ _);refine wpList_store_row rfl 25 (.tmp 4) (.tmp 18) rfl br (t.h.cells (.slice A t.ks.len c) (.slice A6 (t.ss.length+1) c6)) rfl rfl 25 zeroN HR8.out (infN rfl) rfl (nodeLit _ _ _ _ _ _ _) ?_))
     refine bodyPost_ret (results_cell_row Tryz.results98 _ _ br 25 _ (0,0) _ rfl (setRow_heap _ _ _ _ _ _ HR8.out) Tryz.underlying25 rfl (infN rfl)) rfl ?_
     exact str_fin HO.out (by have h2:=HV0.out;rw [HCN.out] at h2;exact h2) HNIL.out (by omega) HV.out hA.bel
   focus
    refine st_5 (by rfl) (.tmp 14) (by rfl) (by rfl) hHeld HB.out ?_;intro g5 W5 hA HB H5 HF;(try have HN:=hide (ne_0 HV.out HF.out));(try have HV:=hide (below_row' HV.out HF.out.1))
    refine hK.out _ _ kp (fun hHeld=>?_)
    clear hK K
    try simp only [PT]
    refine rqS [0,2] (rqC ⟨some 10,.buildSlice 23 0 #[],23, "ref.go:527",#[],none⟩ (fun K hK=>?_) (rqC ⟨some 12,.load 23 (.tmp 11),23, "ref.go:527",#[⟨1,.data⟩],none⟩ (fun K hK=>?_) rq0))
    focus
     refine st_0 (by rfl) (by rfl) hHeld HB.out ?_;intro g0 W0 hA HB HV HF;(try have HN:=hide (ne_5 H5.out HF.out));(try have H5:=hide (Blk.below HF.out.1 H5.out))
     refine hK.out _ _ kp (fun hHeld=>?_)
     clear hK K
     try simp only [PT]
     refine rqS [2] (rqC ⟨some 12,.load 23 (.tmp 11),23, "ref.go:527",#[⟨1,.data⟩],none⟩ (fun K hK=>?_) rq0)
     have c1:=(HB.out.1.cells 11).trans cn11;go_simp;(try with_reducible rfl)
     refine hK.out _ _ kp (fun hHeld=>?_)
     clear hK K
     try simp only [PT]
     refine rqS [3] (rqC ⟨some 13,.call ⟨.builtin .append,#[.tmp 10,.tmp 12],#[23,23]⟩,23, "ref.go:527",#[⟨0,.data⟩,⟨2,.data⟩],none⟩ (fun K hK=>?_) rq0)
     refine st_3 (by rfl) (.tmp 10) (.tmp 12) (by rfl) hHeld HB.out HV.out hw3 hss HN2.out (by rfl) (by rfl) ?_;intro A3 c3 w3 hA HB HV HT;(try have H5:=hide (HT.out g5 (HN.out g0 rfl) H5.out))
     refine hK.out _ _ kp (fun hHeld=>?_)
     clear hK K
     try simp only [PT]
     refine rqS [6] (rqC ⟨some 16,.call ⟨.builtin .append,#[.tmp 13,.tmp 15],#[23,23]⟩,23, "ref.go:527",#[⟨3,.data⟩,⟨5,.data⟩,⟨3,.chain⟩],none⟩ (fun K hK=>?_) rq0)
     refine st_6 (by rfl) (.tmp 13) (.tmp 15) (by rfl) hHeld HB.out HV.out H5.out hw3 hss (by rfl) (by rfl) ?_;intro A6 c6 w6 hA HB HV;have d11:=(HB.out.1.cells 11).trans cn11;have f11:=HB.out.1.free 11
     refine hK.out _ _ kp (fun hHeld=>?_)
     clear hK K
     try simp only [PT]
     refine tkZ 7 ⟨some 17,.fieldAddr 25 (.tmp 2) 11,0, "ref.go:527",(phs [] 7),none⟩ ?_
     refine rqS [8] (rqC ⟨none,.store 23 (.tmp 17) (.tmp 16),0, "ref.go:527",(phs [⟨7,.data⟩,⟨6,.data⟩,⟨6,.chain⟩] 7),none⟩ (fun K hK=>?_) rq0)
     go_simp;have hk8:SrA w bk br s (w6.setCell ⟨bn,11,none⟩ (.slice A6 (t.ss.length+1) c6)):=hA.set hrw.1 (by omega) (by omega)
     refine hK.out _ _ kp (fun hHeld=>?_)
     clear hK K
     try simp only [PT]
     refine wpAnyH_done (by kernel_rfl) ?_ _
     refine NoPanic.normal ?_
     have HN8:=hide (show Blk (w6.setCell ⟨bn,11,none⟩ (.slice A6 (t.ss.length+1) c6)) bn (t.h.cells (.slice A t.ks.len c) (.slice A6 (t.ss.length+1) c6)) 25 from by rw [←HSET2.out];exact HB.out.1.put rfl);have HR8:=hide hk8.res;clear d11 f11;go_wp2_with (first | ((with_reducible show wpList _ _ _ (Oper.mk (some 18) _ _ _ _ _ :: _) _ _);refine wpList_load_row rfl 25 (.tmp 2) rfl bn rfl 25 _ (0,0) _ HN8.out Tryz.underlying25 rfl (infN rfl) ?_) | ((with_reducible show wpList _ _ _ (Oper.mk none _ _ _ _ _ :: _) _ _);refine wpList_store_row rfl 25 (.tmp 4) (.tmp 18) rfl br (t.h.cells (.slice A t.ks.len c) (.slice A6 (t.ss.length+1) c6)) rfl rfl 25 zeroN HR8.out (infN rfl) rfl (nodeLit _ _ _ _ _ _ _) ?_))
     refine bodyPost_ret (results_cell_row Tryz.results98 _ _ br 25 _ (0,0) _ rfl (setRow_heap _ _ _ _ _ _ HR8.out) Tryz.underlying25 rfl (infN rfl)) rfl ?_
     exact str_fin HO.out (by have h2:=HV0.out;rw [HCN.out] at h2;exact h2) HNIL.out (by omega) HV.out hA.bel
    focus
     have c1:=(HB.out.1.cells 11).trans cn11;go_simp;(try with_reducible rfl)
     refine hK.out _ _ kp (fun hHeld=>?_)
     clear hK K
     try simp only [PT]
     refine rqS [0] (rqC ⟨some 10,.buildSlice 23 0 #[],23, "ref.go:527",#[],none⟩ (fun K hK=>?_) rq0)
     refine st_0 (by rfl) (by rfl) hHeld HB.out ?_;intro g0 W0 hA HB HV HF;(try have HN:=hide (ne_5 H5.out HF.out));(try have H5:=hide (Blk.below HF.out.1 H5.out))
     refine hK.out _ _ kp (fun hHeld=>?_)
     clear hK K
     try simp only [PT]
     refine rqS [3] (rqC ⟨some 13,.call ⟨.builtin .append,#[.tmp 10,.tmp 12],#[23,23]⟩,23, "ref.go:527",#[⟨0,.data⟩,⟨2,.data⟩],none⟩ (fun K hK=>?_) rq0)
     refine st_3 (by rfl) (.tmp 10) (.tmp 12) (by rfl) hHeld HB.out HV.out hw3 hss HN2.out (by rfl) (by rfl) ?_;intro A3 c3 w3 hA HB HV HT;(try have H5:=hide (HT.out g5 (HN.out g0 rfl) H5.out))
     refine hK.out _ _ kp (fun hHeld=>?_)
     clear hK K
     try simp only [PT]
     refine rqS [6] (rqC ⟨some 16,.call ⟨.builtin .append,#[.tmp 13,.tmp 15],#[23,23]⟩,23, "ref.go:527",#[⟨3,.data⟩,⟨5,.data⟩,⟨3,.chain⟩],none⟩ (fun K hK=>?_) rq0)
     refine st_6 (by rfl) (.tmp 13) (.tmp 15) (by rfl) hHeld HB.out HV.out H5.out hw3 hss (by rfl) (by rfl) ?_;intro A6 c6 w6 hA HB HV;have d11:=(HB.out.1.cells 11).trans cn11;have f11:=HB.out.1.free 11
     refine hK.out _ _ kp (fun hHeld=>?_)
     clear hK K
     try simp only [PT]
     refine tkZ 7 ⟨some 17,.fieldAddr 25 (.tmp 2) 11,0, "ref.go:527",(phs [] 7),none⟩ ?_
     refine rqS [8] (rqC ⟨none,.store 23 (.tmp 17) (.tmp 16),0, "ref.go:527",(phs [⟨7,.data⟩,⟨6,.data⟩,⟨6,.chain⟩] 7),none⟩ (fun K hK=>?_) rq0)
     go_simp;have hk8:SrA w bk br s (w6.setCell ⟨bn,11,none⟩ (.slice A6 (t.ss.length+1) c6)):=hA.set hrw.1 (by omega) (by omega)
     refine hK.out _ _ kp (fun hHeld=>?_)
     clear hK K
     try simp only [PT]
     refine wpAnyH_done (by kernel_rfl) ?_ _
     refine NoPanic.normal ?_
     have HN8:=hide (show Blk (w6.setCell ⟨bn,11,none⟩ (.slice A6 (t.ss.length+1) c6)) bn (t.h.cells (.slice A t.ks.len c) (.slice A6 (t.ss.length+1) c6)) 25 from by rw [←HSET2.out];exact HB.out.1.put rfl);have HR8:=hide hk8.res;clear d11 f11;go_wp2_with (first | ((with_reducible show wpList _ _ _ (Oper.mk (some 18) _ _ _ _ _ :: _) _ _);refine wpList_load_row rfl 25 (.tmp 2) rfl bn rfl 25 _ (0,0) _ HN8.out Tryz.underlying25 rfl (infN rfl) ?_) | ((with_reducible show wpList _ _ _ (Oper.mk none _ _ _ _ _ :: _) _ _);refine wpList_store_row rfl 25 (.tmp 4) (.tmp 18) rfl br (t.h.cells (.slice A t.ks.len c) (.slice A6 (t.ss.length+1) c6)) rfl rfl 25 zeroN HR8.out (infN rfl) rfl (nodeLit _ _ _ _ _ _ _) ?_))
     refine bodyPost_ret (results_cell_row Tryz.results98 _ _ br 25 _ (0,0) _ rfl (setRow_heap _ _ _ _ _ _ HR8.out) Tryz.underlying25 rfl (infN rfl)) rfl ?_
     exact str_fin HO.out (by have h2:=HV0.out;rw [HCN.out] at h2;exact h2) HNIL.out (by omega) HV.out hA.bel
  case neg=>
  have HSK:=hide (strT_kids (s:=s) hnil)
  obtain⟨x,hlast⟩:=last_some hnil
  have hxz:x.sz≤500000:=by have h1:=last_sz hlast;unfold Tr.sz at hsz;omega
  have hxc:x.count≤l:=by have h1:=last_count hlast;unfold Tr.count at hct;omega
  have IH:=hide (fun O' v w=>ih O' x hxc hxz v w)
  have hkl:0 < t.ks.len:=by
   cases e:t.ks with
   | nil=>exact absurd e hnil
   | node=>rw [Fo.len_node];omega
  have q1:((t.ks.len:Int) == 0)=false:=beq_eq_false_iff_ne.2 (by omega)
  have c10:W3.cell? ⟨bn,10,none⟩=some (.slice A t.ks.len c):=(HBn.out.cells 10).trans cn10
  clear hst0 hnil hxz hxc ih
  go_upto_region 4 with fail
  clear c10
  have HO4:=hide (show(W3.alloc (.cells #[] 25)).ownsRow W3.heap.size 25 12 (.slice (some ⟨W3.heap.size,0,none⟩) 0 0) 0 [] from World.ownsRow_lit W3 #[] 0 (Nat.le_refl _) (by decide) rfl)
  have d10:(W3.alloc (.cells #[] 25)).cell? ⟨bn,10,none⟩=some (.slice A t.ks.len c):=((HBn.out.alloc _).cells 10).trans cn10
  have HN1:=hide (show 0 < t.ks.len→∃ad,A=some ad∧∀j u,xs[j]? = some u→(W3.alloc (.cells #[] 25)).cell? ((ad:Addr).add j)=some u from fun h0=>by
   obtain⟨g,o,e,hg,hc⟩:=HXC.out h0
   refine⟨_,e,fun j u hu=>?_⟩
   rw [addP]
   have h1:=hc j u hu
   rw [Nat.zero_mul,Nat.add_zero] at h1
   exact((hbel3.alloc hbel3.size (.cells #[] 25)).cell (p:=⟨g,o+j,none⟩) hg).trans h1)
  go_upto_region 5 with (at_builtin;refine wpList_append_opt _ rfl _ _ 22 rfl W3.heap.size 25 nodeInfo Tryz.underlying22 rfl (by decide) (.slice (some ⟨W3.heap.size,0,none⟩) 0 0) 0 [] HO4.out A t.ks.len c xs rfl rfl hxl HN1.out HX1.out (by unfold maxLen;omega) (by omega) (by rw [World.size_alloc];omega) ?_;intro v2 w2 hown2 hnb2 hg2;have HG2:=hide (And.intro hown2 hg2);clear hown2 hnb2 hg2)
  have hg2:=HG2.out.2
  have hown2:=HG2.out.1
  rw [Nat.zero_add,List.nil_append] at hown2
  obtain⟨A9,c9,rfl⟩:=own_slice hown2
  have hb82:Below W3.heap.size W3 w2:=((FrO.of (O:=fun j=>j=W3.heap.size) ((Below.refl W3.heap.size W3).alloc (Nat.le_refl _) (.cells #[] 25))).trans (FrO.grown (O:=fun j=>j=W3.heap.size) hg2 (fun j h=>by have h2:W3.heap.size=j:=Option.some.inj h;exact h2.symm)) (fun j h=>Or.inl h)).below (Nat.le_refl _) (fun j hj=>by omega)
  have HOW2:=hide hown2
  have HBn2:=hide (Blk.below hb82 HBn.out)
  have HB22:=hide (Blk.below hb82 HB2.out)
  have HBr2:=hide (Blk.below hb82 HBr.out)
  have hbel2:=hbel3.trans (hb82.mono hbel3.size)
  have hlo2:W3.heap.size≤w2.heap.size:=hb82.size
  have hcap:t.ks.len≤c9:=own_cap hown2 A9 c9 rfl
  clear hg2 hown2 HG2 d10 HN1 HO4 hb82 HBn HB2 HBr
  generalize hlo:W3.heap.size=lo at *
  clear hlo
  obtain⟨f0,hf0,hfl,hfn⟩:=last_list hlast
  rw [hfl] at HRX
  obtain⟨xa,cs,hxs,hra,hcX⟩:=RowX.unsnoc HRX.out
  have hzc:=hcX.here.size12
  have h1c:=hcX.here.one12
  have hxal:xa.length=f0.len*12:=by
   have h:=congrArg List.length hxs
   rw [List.length_append,hxl,hfn,show cs.toList.length=12 from(Array.length_toList ..).trans hzc] at h
   omega
  have HRA:=hide hra
  have HCX:=hide hcX
  have HXS:=hide hxs
  have HF0:=hide hf0
  have HZC:=hide (And.intro hzc h1c)
  have HXAL:=hide hxal
  obtain⟨m,hm⟩:∃m,m=f0.len:=⟨_,rfl⟩
  rw [←hm] at hfn HXAL
  have hfi:m+1≤t.ks.len∧t.ks.len≤m+1:=by omega
  clear hfn
  have hmn:(m:Int) < (t.ks.len:Int)∧(0:Int)≤(m:Int):=by omega
  have hw1:IntKind.i64.wrap ((t.ks.len:Int) - 1)=(m:Int):=by rw [IntWalk.i64_in _ (by omega)];omega
  have hxsc:=HOW2.out
  rw [hxs] at hxsc
  obtain⟨gk,cap,hve,hgk,hgl,-,hcv⟩:=own_at hxsc (by omega)
  injection hve with e1 e2 e3
  subst e1;subst e3
  have HG:=hide (show w2.rangeAt gk (m*12) cs.toList from fun j u hu=>hcv _ u (by
   rw [List.getElem?_append_right (by rw [HXAL.out];omega),HXAL.out,Nat.add_sub_cancel_left]
   exact hu))
  have HK2:=hide hxsc
  obtain⟨cur,HCUR,-,-,-,hcsz,-⟩:=own_fits hxsc
  have HTH:=hide (show ∀W,Blk W gk cur 25→∀C:Array Value,C.size=12→W.there gk (m*12) C.size from fun W hW C hC j hj=>⟨by
   rw [hW.cells,Array.getElem?_eq_getElem (show m*12+j < cur.size by rw [hcsz];have h2:=Nat.mul_le_mul_right 12 (show m+1≤c9 by omega);omega)];rfl,hW.free _⟩)
  have HBG:=hide HCUR
  clear hra hcX hxs hf0 hfl hzc h1c hxal hm hxsc hcv HCUR hcsz hlast HRX HOW2
  have HO2:=hide (show ∀j,(O j∨(w.heap.size≤j∧j < w2.heap.size))→j < w2.heap.size from fun j hj=>by
   rcases hj with hj | hj
   ·have:=HO.out j hj;have:=hbel2.size;omega
   ·exact hj.2)
  have HOw:=hide (show ∀j,(O j∨(w.heap.size≤j∧j < w2.heap.size))→O j∨w.heap.size≤j from fun j hj=>hj.imp id (·.1))
  have RC:=hide (show ∀W,Below w2.heap.size w2 W→Calls Tryz.prog 98 #[.agg cs,.agg (strC s)] W fun e w'=>∃r,e=.returned r∧TreeX (fun j=>O j∨(w.heap.size≤j∧j < w2.heap.size)) w' r (strT s x)∧Below W.heap.size W w' from fun W h=>by
   have hbW:Below w.heap.size w W:=hbel2.trans (h.mono hbel2.size)
   exact IH.out _ _ W (fun j hj=>Nat.lt_of_lt_of_le (HO2.out j hj) h.size) (HCX.out.wide hbW HOw.out))
  have hkeep2:Blk w2 bk (strC s) 69∧True:=⟨HB22.out,trivial⟩
  have hkeepd:Blk w2.drew bk (strC s) 69∧True:=⟨HB22.out,trivial⟩
  have HGd:=hide (show w2.drew.rangeAt gk (m*12) cs.toList from HG.out)
  go_upto_region 5 with fail
  refine wp_region_noPanic ?_
  refine wp_region_held_drew (S:=(fun z=>Blk z bk (strC s) 69∧True)) (by kernel_rfl) kp (fun hHeld=>?_)
  refine tkZ 0 ⟨some 23,.move (.tmp 5),22, "ref.go:531",#[],none⟩ ?_
  refine tkZ 1 ⟨some 24,.move (.tmp 5),22, "ref.go:531",#[],none⟩ ?_
  refine tkZ 2 ⟨some 25,.call ⟨.builtin .len,#[.tmp 24],#[22]⟩,3, "ref.go:531",#[⟨1,.data⟩],none⟩ ?_
  refine tkZ 3 ⟨some 26,.binOp .sub 3 (.tmp 25) (.const (.int .i64 1)) 3,3, "ref.go:531",#[⟨2,.data⟩],none⟩ ?_
  refine tkZ 4 ⟨some 27,.move (.tmp 5),22, "ref.go:531",#[],none⟩ ?_
  refine tkZ 5 ⟨some 28,.move (.tmp 5),22, "ref.go:531",#[],none⟩ ?_
  refine tkZ 6 ⟨some 29,.call ⟨.builtin .len,#[.tmp 28],#[22]⟩,3, "ref.go:531",#[⟨5,.data⟩],none⟩ ?_
  refine tkZ 7 ⟨some 30,.binOp .sub 3 (.tmp 29) (.const (.int .i64 1)) 3,3, "ref.go:531",#[⟨6,.data⟩],none⟩ ?_
  refine tkZ 8 ⟨some 31,.indexAddr 22 (.tmp 27) (.tmp 30),0, "ref.go:531",#[⟨4,.data⟩,⟨7,.data⟩],none⟩ ?_
  refine tkZ 10 ⟨some 33,.load 69 (.tmp 3),69, "ref.go:531",#[],none⟩ ?_ (by intro w hSw;(try dsimp only at hSw);refine(exec_load_row 69 (.tmp 3) (by rfl) bk (by rfl) 69 (strC s) (0,0) _ hSw.1 Tryz.underlying69 (by rfl) infS2).trans ?_;with_reducible rfl)
  refine rqS [9] (rqC ⟨some 32,.load 25 (.tmp 31),25, "ref.go:531",#[⟨8,.data⟩],none⟩ (fun K hK=>?_) rq0)
  (first | (refine step_load_mid (by rfl) 25 (.tmp 31) (by rfl) gk (m*12) (by rfl) cs _ HGd.out Tryz.underlying25 (by rfl) (infNl HZC.out.1) ?_) | (refine step_load_mid (by rfl) 25 (.tmp 31) (by rfl) gk (m*12) (by rfl) cs _ HG.out Tryz.underlying25 (by rfl) (infNl HZC.out.1) ?_))
  refine hK.out _ _ kp (fun hHeld=>?_)
  clear hK K
  try simp only [PT]
  refine rqS [11] (rqC ⟨some 34,.call ⟨.value (.func 98),#[.tmp 32,.tmp 33],#[25,69]⟩,25, "ref.go:531",#[⟨9,.data⟩,⟨10,.data⟩],none⟩ (fun K hK=>?_) rq0)
  go_simp
  (go_at_call 98;(with_reducible refine(RC.out _ (Below.refl _ _).drew).mono ?_);rintro e w6 ⟨r6,rfl,hr6,hb6⟩;have HR6:=hide hr6;obtain⟨c6,rfl,hz6,h16⟩:=HR6.out.here.cells;have HZ6:=hide (And.intro hz6 h16);have hkeep6:Blk w6 bk (strC s) 69∧True:=⟨Blk.below hb6 hkeepd.1,trivial⟩;have HBG6:=hide (Blk.below hb6 (show Blk w2.drew gk cur 25 from HBG.out)))
  go_wp2_with fail
  refine hK.out _ _ kp (fun hHeld=>?_)
  clear hK K
  try simp only [PT]
  refine tkZ 12 ⟨some 35,.indexAddr 22 (.tmp 23) (.tmp 26),0, "ref.go:531",(phs [⟨0,.data⟩,⟨3,.data⟩] 12),none⟩ ?_
  refine rqS [13] (rqC ⟨none,.store 25 (.tmp 35) (.tmp 34),0, "ref.go:531",(phs [⟨12,.data⟩,⟨11,.data⟩,⟨11,.chain⟩] 12),none⟩ (fun K hK=>?_) rq0)
  refine step_store_mid (by rfl) 25 _ _ (by rfl) gk (m*12) c6 (by rfl) (by rfl) (HTH.out _ HBG6.out c6 HZ6.out.1) (infN HZ6.out.1) HZ6.out.2 ?_;have hkeep7:Blk (w6.setCells gk (m*12) c6.toList) bk (strC s) 69∧True:=⟨(FrO.sets (O:=fun j=>j=gk) rfl _ _ _).blk hkeep6.1 (fun e=>by omega),trivial⟩
  refine hK.out _ _ kp (fun hHeld=>?_)
  clear hK K
  try simp only [PT]
  refine wpAnyH_done (by kernel_rfl) ?_ _
  refine NoPanic.normal ?_
  have hfs:FrO (fun j=>j=gk) w6 (w6.setCells gk (m*12) c6.toList):=FrO.sets (O:=fun j=>j=gk) rfl _ _ _
  have HFS:=hide hfs
  have hb26:Below w2.heap.size w2 w6:=(Below.refl w2.heap.size w2).drew.trans hb6
  have HOW6:=hide (show(w6.setCells gk (m*12) c6.toList).ownsRow lo 25 12 (.slice (some ⟨gk,0,none⟩) t.ks.len c9) t.ks.len (xa++c6.toList) from by
   have h:=own_cells c6.toList (m*12) w6 _ (below_row' HK2.out hb26)
   have h7:=setsL_app c6.toList xa cs.toList [] (by rw [Array.length_toList,Array.length_toList,HZC.out.1,HZ6.out.1])
   rw [List.append_nil,List.append_nil,HXAL.out] at h7
   rwa [h7] at h)
  have HBn6:=hide (hfs.blk (Blk.below hb26 HBn2.out) (fun e=>by omega))
  have HBr6:=hide (hfs.blk (Blk.below hb26 HBr2.out) (fun e=>by omega))
  have hbel6:Below w.heap.size w (w6.setCells gk (m*12) c6.toList):=(hbel2.trans (hb26.mono hbel2.size)).trans (hfs.below (Nat.le_trans hbel2.size hb26.size) fun j hj=>by subst hj;omega)
  have HB6:=hide hbel6
  have hsz26:w2.heap.size≤w6.heap.size:=hb26.size
  clear hkeep2 hkeepd hHeld hkeep6 hkeep7 hb6 hfs hb26 hbel6 RC HG HGd HBG6
  obtain⟨W7,hW7⟩:∃W7,W7=w6.setCells gk (m*12) c6.toList:=⟨_,rfl⟩
  rw [←hW7] at HOW6 HBn6 HBr6 HB6 HFS ⊢
  clear hW7
  have e11:W7.cell? ⟨bn,10,none⟩=some (.slice A t.ks.len c):=(HBn6.out.cells 10).trans cn10
  have f11:W7.frozen? ⟨bn,10,none⟩=false:=HBn6.out.free 10
  go_upto_region 7 with fail
  have HN8:=hide (show Blk (W7.setCell ⟨bn,10,none⟩ (.slice (some ⟨gk,0,none⟩) t.ks.len c9)) bn (t.h.cells (.slice (some ⟨gk,0,none⟩) t.ks.len c9) (.slice A2 t.ss.length c2)) 25 from by rw [←HSET.out];exact HBn6.out.put rfl)
  have HR8:=hide (show Blk (W7.setCell ⟨bn,10,none⟩ (.slice (some ⟨gk,0,none⟩) t.ks.len c9)) br zeroN 25 from HBr6.out.other (Ne.symm hrw.2.2.2.2.1))
  have HF8:=hide (show FrO (fun j=>j=bn∨j=br) W7 ((W7.setCell ⟨bn,10,none⟩ (.slice (some ⟨gk,0,none⟩) t.ks.len c9)).setRow br (t.h.cells (.slice (some ⟨gk,0,none⟩) t.ks.len c9) (.slice A2 t.ss.length c2))) from(FrO.set (O:=fun j=>j=bn∨j=br) (Or.inl rfl)).trans (FrO.setRow (O:=fun j=>j=bn∨j=br) (Or.inr rfl)) (fun j h=>Or.inl h))
  clear e11 f11
  go_wp2_with (first | ((with_reducible show wpList _ _ _ (Oper.mk (some 38) _ _ _ _ _ :: _) _ _);refine wpList_load_row rfl 25 (.tmp 2) rfl bn rfl 25 (t.h.cells (.slice (some ⟨gk,0,none⟩) t.ks.len c9) (.slice A2 t.ss.length c2)) (0,0) _ HN8.out Tryz.underlying25 rfl (infN rfl) ?_) | ((with_reducible show wpList _ _ _ (Oper.mk none _ _ _ _ _ :: _) _ _);refine wpList_store_row rfl 25 (.tmp 4) (.tmp 38) rfl br (t.h.cells (.slice (some ⟨gk,0,none⟩) t.ks.len c9) (.slice A2 t.ss.length c2)) rfl rfl 25 zeroN HR8.out (infN rfl) rfl (nodeLit _ _ _ _ _ _ _) ?_))
  refine bodyPost_ret (results_cell_row Tryz.results98 _ _ br 25 (t.h.cells (.slice (some ⟨gk,0,none⟩) t.ks.len c9) (.slice A2 t.ss.length c2)) (0,0) _ rfl (setRow_heap _ _ _ _ _ _ HR8.out) Tryz.underlying25 rfl (infN rfl)) rfl ?_
  have hbf:=HB6.out.trans (HF8.out.below HB6.out.size fun j hj=>by rcases hj with rfl | rfl;exact hrw.1;exact hrw.2.2.1)
  have h3:=HOW6.out
  have h4:=own_fr HF8.out h3 fun g hg hj=>by
   have:=(h3.lt g hg).1
   rcases hj with rfl | rfl <;> omega
  refine⟨_,rfl,fun w5 hf5=>?_,hbf⟩
  have hf3:FrO O w w5:=(FrO.of hbf).trans hf5 fun j hj=>Or.inl hj
  obtain⟨kv2,sv2,e2,hs2,_⟩:=HV.out w5 hf3
  injection e2 with e2
  rw [HCN.out] at e2
  have e3:=congrArg (fun a:Array Value=>a[11]?) e2
  have e4:Value.slice A2 t.ss.length c2=sv2:=by injection e3
  rw [←e4] at hs2
  rw [HSK.out]
  refine⟨_,_,rfl,hs2,?_⟩
  have hf6:FrO (fun j=>O j∨(w.heap.size≤j∧j < w2.heap.size)) w6 w5:=by
   refine(FrO.mono (O:=fun j=>j=gk) (fun j hj=>Or.inr (by subst hj;omega)) HFS.out).trans ((FrO.mono (O:=fun j=>j=bn∨j=br) (O':=fun j=>O j∨(w.heap.size≤j∧j < w2.heap.size)) (fun j hj=>Or.inr (by rcases hj with rfl | rfl <;> omega)) HF8.out).trans hf5 fun j hj=>Or.inl (Or.inl hj)) fun j hj=>Or.inl hj
  have hrow:=RowV.snoc (HR6.out w5 hf6) (RowX.at hf3 HRA.out)
  have h5:=own_fr hf5 h4 fun g hg hj=>by
   have h5:=(h3.lt g hg).1
   have h6:=HO.out g hj
   omega
  show KidR _ _ _ (t.ks.onLast (strT s))
  rw [onLast_of _ HF0.out]
  have hll:(f0.list++[(strT s x)]).length=t.ks.len:=by rw [List.length_append,HF0.out,←Fo.list_len (f0.app _),Fo.app_list,List.length_append];rfl
  rw [←hll] at h5 ⊢
  exact RowV.kids hrow (Nat.le_refl _) h5
end Go.Proofs.YtlhakdildbplkaaGreatDoor
