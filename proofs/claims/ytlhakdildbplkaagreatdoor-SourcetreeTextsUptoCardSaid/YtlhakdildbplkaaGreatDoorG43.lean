/- Part of the claim: its words. -/
import Derived.Test.YtlhakdildbplkaaGreatDoorG41
import Derived.Test.YtlhakdildbplkaaGreatDoorG42
import Derived.Test.YtlhakdildbplkaaGreatDoorG18
import Derived.Sort.Defs
import Derived.Shelf.SlSortCmp.InsertionK
import Derived.Test.YtlhakdildbplkaaGreatDoorG23
import Derived.Test.YtlhakdildbplkaaGreatDoorG19
import Derived.Test.YtlhakdildbplkaaGreatDoorG34
import Derived.Test.YtlhakdildbplkaaGreatDoorG24
set_option maxRecDepth 100000
set_option maxHeartbeats 8000000
namespace Go.Proofs.YtlhakdildbplkaaGreatDoor
set_option linter.unusedSimpArgs false
set_option linter.unusedVariables false
open Go.RowKit
theorem run_append_none {P:Program} (w:World) (t ty e:TypeId) (i:TypeInfo) (ht:P.underlying t=some (.slice e)) (hi:P.info? e=some i) (B:Option Addr) (n cap:Nat) (hle:n≤cap) (A:Option Addr) (c:Nat):(Builtin.append_ #[t,t] ty #[.slice B n cap,.slice A 0 c]).run P w=.ok (.slice B n cap) w:=by
 cases B <;> cases A <;> simp [Builtin.append_,run_underlying ht,sizeOf,typeInfo,hi,Builtin.lenOf,Builtin.firstCells,loadCells,loadCellsFrom,hle,storeCells]
theorem wp_append_opt {P:Program} (w:World) {o:Oper} {a:Act} {K:Act→World→Prop} {Q:Exit→Act→World→Prop} (s x:Operand) (t:TypeId)
  (ho:o.op=.call { callee:=.builtin .append,args:=#[s,x],argTypes:=#[t,t] })
  (base:Nat) (e:TypeId) {z:Value} {size bytes:Nat} (hinfo:(P.info? e).map (fun i=>(i.zero,i.size,i.bytes))=some (some z,size,bytes)) (ht:P.underlying t=some (.slice e))
  (hzs:z.cells.size=size) (hsz:0 < size)
  (v:Value) (n:Nat) (xs:List Value) (hown:w.ownsRow base e size v n xs) (A:Option Addr) (m c:Nat) (news:List Value)
  (hs:a.eval s=v) (hx:a.eval x=.slice A m c) (hl:news.length=m*size) (hA:0 < m→∃ad,A=some ad∧∀j u,news[j]? = some u→w.cell? (ad.add j)=some u) (h1:∀u∈news,u.oneCell'=true)
  (h63:n+m≤maxLen) (hbytes:((n+m)+(n+m) / 4+192)*bytes≤281474976710656) (hbase:base≤w.heap.size)
  (h:∀v' w',w'.ownsRow base e size v' (n+m) (xs++news)→(v'.ownBlock=v.ownBlock∨v'.ownBlock=some w.heap.size)→w.grownBy w' v.ownBlock→K (a.put o.dst v') w'):o.wp P a w K Q:=by
 rcases Nat.eq_zero_or_pos m with h0 | h0
 ·subst h0
  obtain rfl:news=[]:=List.length_eq_zero_iff.1 (by simpa using hl)
  obtain⟨B,cap,rfl⟩:=own_slice hown
  have hle:=own_cap hown B cap rfl
  obtain⟨i,hi,hz0,hz1,hz2⟩:=info_parts hinfo
  have hr:=run_append_none (P:=P) w t o.type e i ht hi B n cap hle A c
  unfold Oper.wp execOp
  simp only [ho,resolve,invoke,builtin,Sem.run_bind,Sem.run_pure,Result.andThen_ok,List.map_toArray,List.map_cons,List.map_nil,hs,hx,hr]
  exact h _ w (by simpa using hown) (Or.inl rfl) (World.grownBy.refl _ _)
 ·obtain⟨ad,rfl,hnews⟩:=hA h0
  exact wp_append_rows w s x t ho base e hinfo ht hzs hsz v n xs hown ad m c news hs hx hl hnews h1 h63 hbytes hbase h
theorem wpList_append_opt {P:Program} (w:World) {ops:Array Oper} {rest:List Oper} {o:Oper} {a:Act} {Q:Exit→Act→World→Prop} (hgd:o.guard=none) (s x:Operand) (t:TypeId)
  (ho:o.op=.call { callee:=.builtin .append,args:=#[s,x],argTypes:=#[t,t] })
  (base:Nat) (e:TypeId) {z:Value} {size bytes:Nat} (hinfo:(P.info? e).map (fun i=>(i.zero,i.size,i.bytes))=some (some z,size,bytes)) (ht:P.underlying t=some (.slice e))
  (hzs:z.cells.size=size) (hsz:0 < size)
  (v:Value) (n:Nat) (xs:List Value) (hown:w.ownsRow base e size v n xs) (A:Option Addr) (m c:Nat) (news:List Value)
  (hs:a.eval s=v) (hx:a.eval x=.slice A m c) (hl:news.length=m*size) (hA:0 < m→∃ad,A=some ad∧∀j u,news[j]? = some u→w.cell? (ad.add j)=some u) (h1:∀u∈news,u.oneCell'=true)
  (h63:n+m≤maxLen) (hbytes:((n+m)+(n+m) / 4+192)*bytes≤281474976710656) (hbase:base≤w.heap.size)
  (h:∀v' w',w'.ownsRow base e size v' (n+m) (xs++news)→(v'.ownBlock=v.ownBlock∨v'.ownBlock=some w.heap.size)→w.grownBy w' v.ownBlock→wpList P ops Q rest (a.put o.dst v') w'):wpList P ops Q (o :: rest) a w:=
 wpList_plain hgd fun _ hK=>wp_append_opt w s x t ho base e hinfo ht hzs hsz v n xs hown A m c news hs hx hl hA h1 h63 hbytes hbase fun v' w' h2 h3 h4=>hK _ _ (h v' w' h2 h3 h4)
theorem step_append_opt {P:Program} (w:World) {ops:Array Oper} {o:Oper} {a:Act} {K:Act→World→Prop} {Q:Exit→Act→World→Prop} {E:Prop} (hgd:o.guard=none) (s x:Operand) (t:TypeId)
  (ho:o.op=.call { callee:=.builtin .append,args:=#[s,x],argTypes:=#[t,t] })
  (base:Nat) (e:TypeId) {z:Value} {size bytes:Nat} (hinfo:(P.info? e).map (fun i=>(i.zero,i.size,i.bytes))=some (some z,size,bytes)) (ht:P.underlying t=some (.slice e))
  (hzs:z.cells.size=size) (hsz:0 < size)
  (v:Value) (n:Nat) (xs:List Value) (hown:w.ownsRow base e size v n xs) (A:Option Addr) (m c:Nat) (news:List Value)
  (hs:a.eval s=v) (hx:a.eval x=.slice A m c) (hl:news.length=m*size) (hA:0 < m→∃ad,A=some ad∧∀j u,news[j]? = some u→w.cell? (ad.add j)=some u) (h1:∀u∈news,u.oneCell'=true)
  (h63:n+m≤maxLen) (hbytes:((n+m)+(n+m) / 4+192)*bytes≤281474976710656) (hbase:base≤w.heap.size)
  (h:∀v' w',w'.ownsRow base e size v' (n+m) (xs++news)→(v'.ownBlock=v.ownBlock∨v'.ownBlock=some w.heap.size)→w.grownBy w' v.ownBlock→K (a.put o.dst v') w') :
  if Region.wanted o (yielded ops a.tmps)=true then Oper.wp P o a w K Q else E:=by
 have hw:Region.wanted o (yielded ops a.tmps)=true:=by simp [Region.wanted,hgd]
 rw [if_pos hw]
 exact wp_append_opt w s x t ho base e hinfo ht hzs hsz v n xs hown A m c news hs hx hl hA h1 h63 hbytes hbase h
theorem step_load_mid {P:Program} {w:World} {ops:Array Oper} {o:Oper} {a:Act} {K:Act→World→Prop} {Q:Exit→Act→World→Prop} {E:Prop} (hgd:o.guard=none) (ty:TypeId) (x:Operand) (ho:o.op=.load ty x)
  (b p:Nat) (hx:a.eval x=.pointer (some ⟨b,p,none⟩)) (cs:Array Value) (d:TypeDesc) (hc:w.rangeAt b p cs.toList)
  (hu:P.underlying ty=some d) (hd:d.isRow=true) (hi:(P.info? ty).map (·.size)=some cs.toList.length)
  (h:K (a.put o.dst (.agg cs)) w):if Region.wanted o (yielded ops a.tmps)=true then Oper.wp P o a w K Q else E:=by
 have hw:Region.wanted o (yielded ops a.tmps)=true:=by simp [Region.wanted,hgd]
 rw [if_pos hw]
 exact wp_load_mid ty x ho b p hx cs.toList d hc hu hd hi (by rw [Array.toArray_toList];exact h)
theorem RowX.unsnoc {O:Nat→Prop} {w:World} {t:Tr}:∀ {l:List Tr} {xs:List Value},RowX O w (l++[t]) xs→∃xa cs,xs=xa++Array.toList cs∧RowX O w l xa∧TreeX O w (.agg cs) t
 | [],xs,⟨cs,xs',e,h1,h2⟩=>by
  have h2:xs'=[]:=h2
  subst h2
  exact⟨[],cs,by simpa using e,rfl,h1⟩
 | _ :: l,xs,⟨cs,xs',e,h1,h2⟩=>by
  obtain⟨xa,cs2,e2,h3,h4⟩:=RowX.unsnoc h2
  exact⟨cs.toList++xa,cs2,by rw [e,e2,List.append_assoc],⟨cs,xa,rfl,h1,h3⟩,h4⟩
theorem of_single (k:Tr):Fo.of [k]=single k:=rfl
theorem last_list {f:Fo} {x:Tr} (h:f.last=some x):∃f0:Fo,f=f0.app (single x)∧f.list=f0.list++[x]∧f.len=f0.len+1:=by
 obtain⟨f0,e⟩:=last_split h
 have e2:f.list=f0.list++[x]:=by rw [e,Fo.app_list];rfl
 refine⟨f0,e,e2,?_⟩
 rw [←Fo.list_len,e2,List.length_append,Fo.list_len]
 rfl
theorem last_sz {f:Fo} {x:Tr} (h:f.last=some x):x.sz≤f.sz:=by
 obtain⟨f0,e,-,-⟩:=last_list h
 subst e
 clear h
 induction f0 with
 | nil=>show x.sz≤x.h.sz+szS x.ss+x.ks.sz+0;unfold Tr.sz;omega
 | node h ss ks nx _ ih=>rw [Fo.app,Fo.sz_node];omega
theorem onLast_of {f0 f:Fo} {x:Tr} (g:Tr→Tr) (h:f=f0.app (single x)):f.onLast g=Fo.of (f0.list++[g x]):=by
 rw [h,onLast_app,Fo.of_app,Fo.of_list,of_single]
theorem of_snoc (f:Fo) (k:Tr):f.app (single k)=Fo.of (f.list++[k]):=by rw [Fo.of_app,Fo.of_list,of_single]
theorem radd_any (k:Tr):∀(l:Nat) (O:Nat→Prop) (t:Tr),deepT l t→t.sz≤500000→∀(q:Nat),q=l+2→q≤1000000→∀(v vk:Value) (w:World),(∀j,O j→j < w.heap.size)→TreeX O w v t→TreeX O w vk k →
  Calls Tryz.prog 100 #[v,vk,.int .i64 (q:Int)] w fun e w'=>∃r,e=.returned r∧TreeX O w' r (addT k l t)∧Below w.heap.size w w':=by
 intro l
 induction l with
 | zero=>
  intro O t _ hsz q hq _ v vk w hO hv hvk
  have hq2:((q:Int) == 2)=true:=by rw [hq];rfl
  obtain⟨ck,rfl,hzk,h1k⟩:=hvk.here.cells
  have HVK:=hide hvk
  have HZK:=hide (And.intro hzk h1k)
  clear hvk hzk h1k hq
  obtain⟨A,c,A2,c2,rfl,-,-⟩:=hv.here.openL
  obtain⟨cn,hcn⟩:∃cn,cn=t.h.cells (.slice A t.ks.len c) (.slice A2 t.ss.length c2):=⟨_,rfl⟩
  obtain⟨xs,hrx,hxl,hx1,hxc⟩:=LeftX.row hv.left
  have hlk2:t.ks.len≤500000:=by have h1:=t.ks.len_sz;unfold Tr.sz at hsz;omega
  have HRX:=hide hrx
  have HXC:=hide hxc
  have HX1:=hide hx1
  have HV:=hide hv
  have HO:=hide hO
  have HCN:=hide hcn
  rw [←hcn]
  rw [←hcn] at HV
  have hzn:cn.size=12:=by rw [hcn];rfl
  have cn10:cn[10]? = some (.slice A t.ks.len c):=by rw [hcn];rfl
  have cn11:cn[11]? = some (.slice A2 t.ss.length c2):=by rw [hcn];rfl
  have HSET:=hide (show ∀v,cn.setIfInBounds 10 v=t.h.cells v (.slice A2 t.ss.length c2) from fun v=>by rw [hcn];rfl)
  have HSET2:=hide (show ∀v,cn.setIfInBounds 11 v=t.h.cells (.slice A t.ks.len c) v from fun v=>by rw [hcn];rfl)
  clear hv hO hcn hrx hxc hx1
  have HL:Live w []:=trivial
  go_enter Tryz.func100,Tryz.ntmps100
  go_upto_region 1 with fail
  have hbel3:Below w.heap.size w (((w.alloc (.cells cn 25)).alloc (.cells ck 25)).alloc (.cells zeroN 25)):=by(exact bl)
  have HBn:=hide (show Blk (((w.alloc (.cells cn 25)).alloc (.cells ck 25)).alloc (.cells zeroN 25)) w.heap.size cn 25 from((Blk.newAt rfl).alloc _).alloc _)
  have HB2:=hide (show Blk (((w.alloc (.cells cn 25)).alloc (.cells ck 25)).alloc (.cells zeroN 25)) (w.heap.size+1) ck 25 from(Blk.newAt (by simp only [World.size_alloc])).alloc _)
  have HBr:=hide (show Blk (((w.alloc (.cells cn 25)).alloc (.cells ck 25)).alloc (.cells zeroN 25)) (w.heap.size+1+1) zeroN 25 from Blk.newAt (by simp only [World.size_alloc]))
  have hz3:(((w.alloc (.cells cn 25)).alloc (.cells ck 25)).alloc (.cells zeroN 25)).heap.size=w.heap.size+3:=by simp only [World.size_alloc]
  obtain⟨W3,hW⟩:∃W3,W3=((w.alloc (.cells cn 25)).alloc (.cells ck 25)).alloc (.cells #[.string ⟨#[]⟩,.int .i64 0,.string ⟨#[]⟩,.string ⟨#[]⟩,.int .i64 0,.int .i64 0,.int .i64 0,.int .i64 0,.int .i64 0,.int .i64 0,.slice none 0 0,.slice none 0 0] 25):=⟨_,rfl⟩
  have hW':W3=((w.alloc (.cells cn 25)).alloc (.cells ck 25)).alloc (.cells zeroN 25):=hW
  rw [←hW'] at HBn HB2 HBr hz3 hbel3
  rw [←hW]
  clear hW hW'
  obtain⟨bn,hbn⟩:∃b,b=w.heap.size:=⟨_,rfl⟩
  obtain⟨bk,hbk⟩:∃b,b=w.heap.size+1:=⟨_,rfl⟩
  obtain⟨br,hbr⟩:∃b,b=w.heap.size+1+1:=⟨_,rfl⟩
  rw [←hbr,←hbk,←hbn]
  rw [←hbn] at HBn
  rw [←hbk] at HB2
  rw [←hbr] at HBr
  have hrw:w.heap.size≤bn∧w.heap.size≤bk∧w.heap.size≤br∧bn≠bk∧bn≠br∧bk≠br∧bn < W3.heap.size∧bk < W3.heap.size∧br < W3.heap.size∧w.heap.size≤W3.heap.size:=by omega
  clear hbr hbk hbn hz3
  have HO4:=hide (show(W3.alloc (.cells #[] 25)).ownsRow W3.heap.size 25 12 (.slice (some ⟨W3.heap.size,0,none⟩) 0 0) 0 [] from World.ownsRow_lit W3 #[] 0 (Nat.le_refl _) (by decide) rfl)
  have d10:(W3.alloc (.cells #[] 25)).cell? ⟨bn,10,none⟩=some (.slice A t.ks.len c):=((HBn.out.alloc _).cells 10).trans cn10
  have HN1:=hide (show 0 < t.ks.len→∃ad,A=some ad∧∀j u,xs[j]? = some u→(W3.alloc (.cells #[] 25)).cell? ((ad:Addr).add j)=some u from fun h0=>by
   obtain⟨g,o,e,hg,hc⟩:=HXC.out h0
   refine⟨_,e,fun j u hu=>?_⟩
   rw [addP]
   have h1:=hc j u hu
   rw [Nat.zero_mul,Nat.add_zero] at h1
   exact((hbel3.alloc hbel3.size (.cells #[] 25)).cell (p:=⟨g,o+j,none⟩) hg).trans h1)
  go_upto_region 2 with (at_builtin;refine wpList_append_opt _ rfl _ _ 22 rfl W3.heap.size 25 nodeInfo Tryz.underlying22 rfl (by decide) (.slice (some ⟨W3.heap.size,0,none⟩) 0 0) 0 [] HO4.out A t.ks.len c xs rfl rfl hxl HN1.out HX1.out (by unfold maxLen;omega) (by omega) (by rw [World.size_alloc];omega) ?_;intro v2 w2 hown2 hnb2 hg2;have HG2:=hide (And.intro hown2 hg2);clear hown2 hnb2 hg2)
  have hg2:=HG2.out.2
  have hown2:=HG2.out.1
  rw [Nat.zero_add,List.nil_append] at hown2
  obtain⟨A9,c9,rfl⟩:=own_slice hown2
  have hb82:Below W3.heap.size W3 w2:=((FrO.of (O:=fun j=>j=W3.heap.size) ((Below.refl W3.heap.size W3).alloc (Nat.le_refl _) (.cells #[] 25))).trans (FrO.grown (O:=fun j=>j=W3.heap.size) hg2 (fun j h=>by have h2:W3.heap.size=j:=Option.some.inj h;exact h2.symm)) (fun j h=>Or.inl h)).below (Nat.le_refl _) (fun j hj=>by omega)
  have HOW2:=hide hown2
  have HBn2:=hide (Blk.below hb82 HBn.out)
  have HB22:=hide (Blk.below hb82 HB2.out)
  have HBr2:=hide (Blk.below hb82 HBr.out)
  have hbel2:=hbel3.trans (hb82.mono hbel3.size)
  have hlo2:W3.heap.size≤w2.heap.size:=hb82.size
  have hcap:t.ks.len≤c9:=own_cap hown2 A9 c9 rfl
  clear hg2 hown2 HG2 d10 HN1 HO4 hb82 HBn HB2 HBr
  generalize hlo:W3.heap.size=lo at *
  clear hlo
  go_upto_region 3 with fail
  have e10:w2.cell? ⟨bn,10,none⟩=some (.slice A t.ks.len c):=(HBn2.out.cells 10).trans cn10
  clear e10
  go_upto_region 4 with (first | ((with_reducible show wpList _ _ _ (Oper.mk (some 15) _ _ _ _ _ :: _) _ _);refine wpList_load_row rfl 25 (.tmp 4) rfl bk rfl 25 ck (0,0) _ HB22.out Tryz.underlying25 rfl (infN HZK.out.1) ?_) | ((with_reducible show wpList _ _ _ (Oper.mk (some 16) _ _ _ _ _ :: _) _ _);refine wpList_buildNodeA rfl (.tmp 15) rfl ck HZK.out.1 rfl ?_) | (at_builtin;refine wpList_append_one _ rfl _ _ 22 rfl lo 25 nodeInfo Tryz.underlying22 rfl (by decide) _ t.ks.len xs HOW2.out ck rfl rfl HZK.out.1 (fun u hu=>List.all_eq_true.1 ((Array.all_toList ..).trans HZK.out.2) u hu) (by unfold maxLen;omega) (by omega) (by omega) ?_;intro v3 w3 hown3 hb3 hot3 hz3;obtain⟨A10,c10,rfl⟩:=own_slice hown3;have HBn3:=hide (show Blk w3 bn cn 25 from(hb3.block bn hrw.2.2.2.2.2.2.1).trans HBn2.out);have HBr3:=hide (show Blk w3 br zeroN 25 from(hb3.block br hrw.2.2.2.2.2.2.2.2.1).trans HBr2.out);have HOW3:=hide hown3;have HF3:=hide hb3;clear hown3 hb3 hot3 hz3;have e11:w3.cell? ⟨bn,10,none⟩=some (.slice A t.ks.len c):=(HBn3.out.cells 10).trans cn10;have f11:w3.frozen? ⟨bn,10,none⟩=false:=HBn3.out.free 10))
  have HN6:=hide (show Blk (w3.setCell ⟨bn,10,none⟩ (.slice A10 (t.ks.len+1) c10)) bn (t.h.cells (.slice A10 (t.ks.len+1) c10) (.slice A2 t.ss.length c2)) 25 from by rw [←HSET.out];exact HBn3.out.put rfl)
  have HR6:=hide (show Blk (w3.setCell ⟨bn,10,none⟩ (.slice A10 (t.ks.len+1) c10)) br zeroN 25 from HBr3.out.other (Ne.symm hrw.2.2.2.2.1))
  have HF6:=hide (show FrO (fun j=>j=bn∨j=br) w3 ((w3.setCell ⟨bn,10,none⟩ (.slice A10 (t.ks.len+1) c10)).setRow br (t.h.cells (.slice A10 (t.ks.len+1) c10) (.slice A2 t.ss.length c2))) from(FrO.set (O:=fun j=>j=bn∨j=br) (Or.inl rfl)).trans (FrO.setRow (O:=fun j=>j=bn∨j=br) (Or.inr rfl)) (fun j h=>Or.inl h))
  have hbel3':Below w.heap.size w w3:=hbel2.trans (HF3.out.mono hrw.2.2.2.2.2.2.2.2.2 |>.mono (Nat.le_refl _))
  clear e11 f11
  go_wp2_with (first | ((with_reducible show wpList _ _ _ (Oper.mk (some 19) _ _ _ _ _ :: _) _ _);refine wpList_load_row rfl 25 (.tmp 3) rfl bn rfl 25 (t.h.cells (.slice A10 (t.ks.len+1) c10) (.slice A2 t.ss.length c2)) (0,0) _ HN6.out Tryz.underlying25 rfl (infN rfl) ?_) | ((with_reducible show wpList _ _ _ (Oper.mk none _ _ _ _ _ :: _) _ _);refine wpList_store_row rfl 25 (.tmp 6) (.tmp 19) rfl br (t.h.cells (.slice A10 (t.ks.len+1) c10) (.slice A2 t.ss.length c2)) rfl rfl 25 zeroN HR6.out (infN rfl) rfl (nodeLit _ _ _ _ _ _ _) ?_))
  refine bodyPost_ret (results_cell_row Tryz.results100 _ _ br 25 (t.h.cells (.slice A10 (t.ks.len+1) c10) (.slice A2 t.ss.length c2)) (0,0) _ rfl (setRow_heap _ _ _ _ _ _ HR6.out) Tryz.underlying25 rfl (infN rfl)) rfl ?_
  have hbf:=hbel3'.trans (HF6.out.below hbel3'.size fun j hj=>by rcases hj with rfl | rfl;exact hrw.1;exact hrw.2.2.1)
  have h3:=HOW3.out
  have h4:=own_fr HF6.out h3 fun g hg hj=>by
   have:=(h3.lt g hg).1
   rcases hj with rfl | rfl <;> omega
  refine⟨_,rfl,fun w5 hf5=>?_,hbf⟩
  have hf3:FrO O w w5:=(FrO.of hbf).trans hf5 fun j hj=>Or.inl hj
  obtain⟨kv2,sv2,e2,hs2,_⟩:=HV.out w5 hf3
  injection e2 with e2
  rw [HCN.out] at e2
  have e3:=congrArg (fun a:Array Value=>a[11]?) e2
  have e4:Value.slice A2 t.ss.length c2=sv2:=by injection e3
  rw [←e4] at hs2
  refine⟨_,_,rfl,hs2,?_⟩
  show KidR _ _ _ (t.ks.app (single k))
  rw [of_snoc]
  have hrow:=RowX.snoc HVK.out HRX.out
  have hll:(t.ks.list++[k]).length=t.ks.len+1:=by rw [List.length_append,Fo.list_len];rfl
  have h5:=own_fr hf5 h4 fun g hg hj=>by
   have h5:=(h3.lt g hg).1
   have h6:=HO.out g hj
   omega
  rw [←hll] at h5 ⊢
  exact RowV.kids (hrow.at hf3) (Nat.le_refl _) h5
 | succ l ih=>
  intro O t hdp hsz q hq hqb v vk w hO hv hvk
  have hq2:((q:Int) == 2)=false:=beq_eq_false_iff_ne.2 (by omega)
  have hwq:IntKind.i64.wrap ((q:Int) - 1)=((q - 1:Nat):Int):=by rw [IntWalk.i64_in _ (by omega)];omega
  obtain⟨x,hlast,hdx⟩:=hdp
  have hxz:x.sz≤500000:=by have h1:=last_sz hlast;unfold Tr.sz at hsz;omega
  obtain⟨ck,rfl,hzk,h1k⟩:=hvk.here.cells
  have HVK:=hide hvk
  have HZK:=hide (And.intro hzk h1k)
  have IH:=hide (fun O' v w=>ih O' x hdx hxz (q - 1) (by omega) (by omega) v (.agg ck) w)
  clear hvk hzk h1k hq hqb ih hdx
  obtain⟨A,c,A2,c2,rfl,-,-⟩:=hv.here.openL
  obtain⟨cn,hcn⟩:∃cn,cn=t.h.cells (.slice A t.ks.len c) (.slice A2 t.ss.length c2):=⟨_,rfl⟩
  obtain⟨xs,hrx,hxl,hx1,hxc⟩:=LeftX.row hv.left
  have hlk2:t.ks.len≤500000:=by have h1:=t.ks.len_sz;unfold Tr.sz at hsz;omega
  have HRX:=hide hrx
  have HXC:=hide hxc
  have HX1:=hide hx1
  have HV:=hide hv
  have HO:=hide hO
  have HCN:=hide hcn
  rw [←hcn]
  rw [←hcn] at HV
  have hzn:cn.size=12:=by rw [hcn];rfl
  have cn10:cn[10]? = some (.slice A t.ks.len c):=by rw [hcn];rfl
  have cn11:cn[11]? = some (.slice A2 t.ss.length c2):=by rw [hcn];rfl
  have HSET:=hide (show ∀v,cn.setIfInBounds 10 v=t.h.cells v (.slice A2 t.ss.length c2) from fun v=>by rw [hcn];rfl)
  have HSET2:=hide (show ∀v,cn.setIfInBounds 11 v=t.h.cells (.slice A t.ks.len c) v from fun v=>by rw [hcn];rfl)
  clear hv hO hcn hrx hxc hx1
  have HL:Live w []:=trivial
  go_enter Tryz.func100,Tryz.ntmps100
  go_upto_region 1 with fail
  have hbel3:Below w.heap.size w (((w.alloc (.cells cn 25)).alloc (.cells ck 25)).alloc (.cells zeroN 25)):=by(exact bl)
  have HBn:=hide (show Blk (((w.alloc (.cells cn 25)).alloc (.cells ck 25)).alloc (.cells zeroN 25)) w.heap.size cn 25 from((Blk.newAt rfl).alloc _).alloc _)
  have HB2:=hide (show Blk (((w.alloc (.cells cn 25)).alloc (.cells ck 25)).alloc (.cells zeroN 25)) (w.heap.size+1) ck 25 from(Blk.newAt (by simp only [World.size_alloc])).alloc _)
  have HBr:=hide (show Blk (((w.alloc (.cells cn 25)).alloc (.cells ck 25)).alloc (.cells zeroN 25)) (w.heap.size+1+1) zeroN 25 from Blk.newAt (by simp only [World.size_alloc]))
  have hz3:(((w.alloc (.cells cn 25)).alloc (.cells ck 25)).alloc (.cells zeroN 25)).heap.size=w.heap.size+3:=by simp only [World.size_alloc]
  obtain⟨W3,hW⟩:∃W3,W3=((w.alloc (.cells cn 25)).alloc (.cells ck 25)).alloc (.cells #[.string ⟨#[]⟩,.int .i64 0,.string ⟨#[]⟩,.string ⟨#[]⟩,.int .i64 0,.int .i64 0,.int .i64 0,.int .i64 0,.int .i64 0,.int .i64 0,.slice none 0 0,.slice none 0 0] 25):=⟨_,rfl⟩
  have hW':W3=((w.alloc (.cells cn 25)).alloc (.cells ck 25)).alloc (.cells zeroN 25):=hW
  rw [←hW'] at HBn HB2 HBr hz3 hbel3
  rw [←hW]
  clear hW hW'
  obtain⟨bn,hbn⟩:∃b,b=w.heap.size:=⟨_,rfl⟩
  obtain⟨bk,hbk⟩:∃b,b=w.heap.size+1:=⟨_,rfl⟩
  obtain⟨br,hbr⟩:∃b,b=w.heap.size+1+1:=⟨_,rfl⟩
  rw [←hbr,←hbk,←hbn]
  rw [←hbn] at HBn
  rw [←hbk] at HB2
  rw [←hbr] at HBr
  have hrw:w.heap.size≤bn∧w.heap.size≤bk∧w.heap.size≤br∧bn≠bk∧bn≠br∧bk≠br∧bn < W3.heap.size∧bk < W3.heap.size∧br < W3.heap.size∧w.heap.size≤W3.heap.size:=by omega
  clear hbr hbk hbn hz3
  have HO4:=hide (show(W3.alloc (.cells #[] 25)).ownsRow W3.heap.size 25 12 (.slice (some ⟨W3.heap.size,0,none⟩) 0 0) 0 [] from World.ownsRow_lit W3 #[] 0 (Nat.le_refl _) (by decide) rfl)
  have d10:(W3.alloc (.cells #[] 25)).cell? ⟨bn,10,none⟩=some (.slice A t.ks.len c):=((HBn.out.alloc _).cells 10).trans cn10
  have HN1:=hide (show 0 < t.ks.len→∃ad,A=some ad∧∀j u,xs[j]? = some u→(W3.alloc (.cells #[] 25)).cell? ((ad:Addr).add j)=some u from fun h0=>by
   obtain⟨g,o,e,hg,hc⟩:=HXC.out h0
   refine⟨_,e,fun j u hu=>?_⟩
   rw [addP]
   have h1:=hc j u hu
   rw [Nat.zero_mul,Nat.add_zero] at h1
   exact((hbel3.alloc hbel3.size (.cells #[] 25)).cell (p:=⟨g,o+j,none⟩) hg).trans h1)
  go_upto_region 2 with (at_builtin;refine wpList_append_opt _ rfl _ _ 22 rfl W3.heap.size 25 nodeInfo Tryz.underlying22 rfl (by decide) (.slice (some ⟨W3.heap.size,0,none⟩) 0 0) 0 [] HO4.out A t.ks.len c xs rfl rfl hxl HN1.out HX1.out (by unfold maxLen;omega) (by omega) (by rw [World.size_alloc];omega) ?_;intro v2 w2 hown2 hnb2 hg2;have HG2:=hide (And.intro hown2 hg2);clear hown2 hnb2 hg2)
  have hg2:=HG2.out.2
  have hown2:=HG2.out.1
  rw [Nat.zero_add,List.nil_append] at hown2
  obtain⟨A9,c9,rfl⟩:=own_slice hown2
  have hb82:Below W3.heap.size W3 w2:=((FrO.of (O:=fun j=>j=W3.heap.size) ((Below.refl W3.heap.size W3).alloc (Nat.le_refl _) (.cells #[] 25))).trans (FrO.grown (O:=fun j=>j=W3.heap.size) hg2 (fun j h=>by have h2:W3.heap.size=j:=Option.some.inj h;exact h2.symm)) (fun j h=>Or.inl h)).below (Nat.le_refl _) (fun j hj=>by omega)
  have HOW2:=hide hown2
  have HBn2:=hide (Blk.below hb82 HBn.out)
  have HB22:=hide (Blk.below hb82 HB2.out)
  have HBr2:=hide (Blk.below hb82 HBr.out)
  have hbel2:=hbel3.trans (hb82.mono hbel3.size)
  have hlo2:W3.heap.size≤w2.heap.size:=hb82.size
  have hcap:t.ks.len≤c9:=own_cap hown2 A9 c9 rfl
  clear hg2 hown2 HG2 d10 HN1 HO4 hb82 HBn HB2 HBr
  generalize hlo:W3.heap.size=lo at *
  clear hlo
  obtain⟨f0,hf0,hfl,hfn⟩:=last_list hlast
  rw [hfl] at HRX
  obtain⟨xa,cs,hxs,hra,hcX⟩:=RowX.unsnoc HRX.out
  have hzc:=hcX.here.size12
  have h1c:=hcX.here.one12
  have hxal:xa.length=f0.len*12:=by
   have h:=congrArg List.length hxs
   rw [List.length_append,hxl,hfn,show cs.toList.length=12 from(Array.length_toList ..).trans hzc] at h
   omega
  have HRA:=hide hra
  have HCX:=hide hcX
  have HXS:=hide hxs
  have HF0:=hide hf0
  have HZC:=hide (And.intro hzc h1c)
  have HXAL:=hide hxal
  obtain⟨m,hm⟩:∃m,m=f0.len:=⟨_,rfl⟩
  rw [←hm] at hfn HXAL
  have hfi:m+1≤t.ks.len∧t.ks.len≤m+1:=by omega
  clear hfn
  have hmn:(m:Int) < (t.ks.len:Int)∧(0:Int)≤(m:Int):=by omega
  have hw1:IntKind.i64.wrap ((t.ks.len:Int) - 1)=(m:Int):=by rw [IntWalk.i64_in _ (by omega)];omega
  have hxsc:=HOW2.out
  rw [hxs] at hxsc
  obtain⟨gk,cap,hve,hgk,hgl,-,hcv⟩:=own_at hxsc (by omega)
  injection hve with e1 e2 e3
  subst e1;subst e3
  have HG:=hide (show w2.rangeAt gk (m*12) cs.toList from fun j u hu=>hcv _ u (by
   rw [List.getElem?_append_right (by rw [HXAL.out];omega),HXAL.out,Nat.add_sub_cancel_left]
   exact hu))
  have HK2:=hide hxsc
  obtain⟨cur,HCUR,-,-,-,hcsz,-⟩:=own_fits hxsc
  have HTH:=hide (show ∀W,Blk W gk cur 25→∀C:Array Value,C.size=12→W.there gk (m*12) C.size from fun W hW C hC j hj=>⟨by
   rw [hW.cells,Array.getElem?_eq_getElem (show m*12+j < cur.size by rw [hcsz];have h2:=Nat.mul_le_mul_right 12 (show m+1≤c9 by omega);omega)];rfl,hW.free _⟩)
  have HBG:=hide HCUR
  clear hra hcX hxs hf0 hfl hzc h1c hxal hm hxsc hcv HCUR hcsz hlast HRX HOW2
  have HO2:=hide (show ∀j,(O j∨(w.heap.size≤j∧j < w2.heap.size))→j < w2.heap.size from fun j hj=>by
   rcases hj with hj | hj
   ·have:=HO.out j hj;have:=hbel2.size;omega
   ·exact hj.2)
  have HOw:=hide (show ∀j,(O j∨(w.heap.size≤j∧j < w2.heap.size))→O j∨w.heap.size≤j from fun j hj=>hj.imp id (·.1))
  have RC:=hide (show ∀W,Below w2.heap.size w2 W→Calls Tryz.prog 100 #[.agg cs,.agg ck,.int .i64 ((q - 1:Nat):Int)] W fun e w'=>∃r,e=.returned r∧TreeX (fun j=>O j∨(w.heap.size≤j∧j < w2.heap.size)) w' r (addT k l x)∧Below W.heap.size W w' from fun W h=>by
   have hbW:Below w.heap.size w W:=hbel2.trans (h.mono hbel2.size)
   exact IH.out _ _ W (fun j hj=>Nat.lt_of_lt_of_le (HO2.out j hj) h.size) (HCX.out.wide hbW HOw.out) (HVK.out.wide hbW HOw.out))
  have hkeep2:Blk w2 bk ck 25∧True:=⟨HB22.out,trivial⟩
  have hkeepd:Blk w2.drew bk ck 25∧True:=⟨HB22.out,trivial⟩
  have HGd:=hide (show w2.drew.rangeAt gk (m*12) cs.toList from HG.out)
  go_upto_region 5 with fail
  refine wp_region_noPanic ?_
  refine wp_region_held_drew (S:=(fun z=>Blk z bk ck 25∧True)) (by kernel_rfl) kp (fun hHeld=>?_)
  refine tkZ 0 ⟨some 20,.move (.tmp 7),22, "ref.go:519",#[],none⟩ ?_
  refine tkZ 1 ⟨some 21,.move (.tmp 7),22, "ref.go:519",#[],none⟩ ?_
  refine tkZ 2 ⟨some 22,.call ⟨.builtin .len,#[.tmp 21],#[22]⟩,3, "ref.go:519",#[⟨1,.data⟩],none⟩ ?_
  refine tkZ 3 ⟨some 23,.binOp .sub 3 (.tmp 22) (.const (.int .i64 1)) 3,3, "ref.go:519",#[⟨2,.data⟩],none⟩ ?_
  refine tkZ 4 ⟨some 24,.move (.tmp 7),22, "ref.go:519",#[],none⟩ ?_
  refine tkZ 5 ⟨some 25,.move (.tmp 7),22, "ref.go:519",#[],none⟩ ?_
  refine tkZ 6 ⟨some 26,.call ⟨.builtin .len,#[.tmp 25],#[22]⟩,3, "ref.go:519",#[⟨5,.data⟩],none⟩ ?_
  refine tkZ 7 ⟨some 27,.binOp .sub 3 (.tmp 26) (.const (.int .i64 1)) 3,3, "ref.go:519",#[⟨6,.data⟩],none⟩ ?_
  refine tkZ 8 ⟨some 28,.indexAddr 22 (.tmp 24) (.tmp 27),0, "ref.go:519",#[⟨4,.data⟩,⟨7,.data⟩],none⟩ ?_
  refine tkZ 10 ⟨some 30,.load 25 (.tmp 4),25, "ref.go:519",#[],none⟩ ?_ (by intro w hSw;(try dsimp only at hSw);refine(exec_load_row 25 (.tmp 4) (by rfl) bk (by rfl) 25 ck (0,0) _ hSw.1 Tryz.underlying25 (by rfl) (infN HZK.out.1)).trans ?_;with_reducible rfl)
  refine tkZ 11 ⟨some 31,.move (.tmp 2),3, "ref.go:519",#[],none⟩ ?_
  refine tkZ 12 ⟨some 32,.binOp .sub 3 (.tmp 31) (.const (.int .i64 1)) 3,3, "ref.go:519",#[⟨11,.data⟩],none⟩ ?_
  refine rqS [9] (rqC ⟨some 29,.load 25 (.tmp 28),25, "ref.go:519",#[⟨8,.data⟩],none⟩ (fun K hK=>?_) rq0)
  (first | (refine step_load_mid (by rfl) 25 (.tmp 28) (by rfl) gk (m*12) (by rfl) cs _ HGd.out Tryz.underlying25 (by rfl) (infNl HZC.out.1) ?_) | (refine step_load_mid (by rfl) 25 (.tmp 28) (by rfl) gk (m*12) (by rfl) cs _ HG.out Tryz.underlying25 (by rfl) (infNl HZC.out.1) ?_))
  refine hK.out _ _ kp (fun hHeld=>?_)
  clear hK K
  try simp only [PT]
  refine rqS [13] (rqC ⟨some 33,.call ⟨.value (.func 100),#[.tmp 29,.tmp 30,.tmp 32],#[25,25,3]⟩,25, "ref.go:519",#[⟨9,.data⟩,⟨10,.data⟩,⟨12,.data⟩],none⟩ (fun K hK=>?_) rq0)
  go_simp
  (go_at_call 100;(with_reducible refine(RC.out _ (Below.refl _ _).drew).mono ?_);rintro e w6 ⟨r6,rfl,hr6,hb6⟩;have HR6:=hide hr6;obtain⟨c6,rfl,hz6,h16⟩:=HR6.out.here.cells;have HZ6:=hide (And.intro hz6 h16);have hkeep6:Blk w6 bk ck 25∧True:=⟨Blk.below hb6 hkeepd.1,trivial⟩;have HBG6:=hide (Blk.below hb6 (show Blk w2.drew gk cur 25 from HBG.out)))
  go_wp2_with fail
  refine hK.out _ _ kp (fun hHeld=>?_)
  clear hK K
  try simp only [PT]
  refine tkZ 14 ⟨some 34,.indexAddr 22 (.tmp 20) (.tmp 23),0, "ref.go:519",(phs [⟨0,.data⟩,⟨3,.data⟩] 14),none⟩ ?_
  refine rqS [15] (rqC ⟨none,.store 25 (.tmp 34) (.tmp 33),0, "ref.go:519",(phs [⟨14,.data⟩,⟨13,.data⟩,⟨13,.chain⟩] 14),none⟩ (fun K hK=>?_) rq0)
  refine step_store_mid (by rfl) 25 _ _ (by rfl) gk (m*12) c6 (by rfl) (by rfl) (HTH.out _ HBG6.out c6 HZ6.out.1) (infN HZ6.out.1) HZ6.out.2 ?_;have hkeep7:Blk (w6.setCells gk (m*12) c6.toList) bk ck 25∧True:=⟨(FrO.sets (O:=fun j=>j=gk) rfl _ _ _).blk hkeep6.1 (fun e=>by omega),trivial⟩
  refine hK.out _ _ kp (fun hHeld=>?_)
  clear hK K
  try simp only [PT]
  refine wpAnyH_done (by kernel_rfl) ?_ _
  refine NoPanic.normal ?_
  have hfs:FrO (fun j=>j=gk) w6 (w6.setCells gk (m*12) c6.toList):=FrO.sets (O:=fun j=>j=gk) rfl _ _ _
  have HFS:=hide hfs
  have hb26:Below w2.heap.size w2 w6:=(Below.refl w2.heap.size w2).drew.trans hb6
  have HOW6:=hide (show(w6.setCells gk (m*12) c6.toList).ownsRow lo 25 12 (.slice (some ⟨gk,0,none⟩) t.ks.len c9) t.ks.len (xa++c6.toList) from by
   have h:=own_cells c6.toList (m*12) w6 _ (below_row' HK2.out hb26)
   have h7:=setsL_app c6.toList xa cs.toList [] (by rw [Array.length_toList,Array.length_toList,HZC.out.1,HZ6.out.1])
   rw [List.append_nil,List.append_nil,HXAL.out] at h7
   rwa [h7] at h)
  have HBn6:=hide (hfs.blk (Blk.below hb26 HBn2.out) (fun e=>by omega))
  have HBr6:=hide (hfs.blk (Blk.below hb26 HBr2.out) (fun e=>by omega))
  have hbel6:Below w.heap.size w (w6.setCells gk (m*12) c6.toList):=(hbel2.trans (hb26.mono hbel2.size)).trans (hfs.below (Nat.le_trans hbel2.size hb26.size) fun j hj=>by subst hj;omega)
  have HB6:=hide hbel6
  have hsz26:w2.heap.size≤w6.heap.size:=hb26.size
  clear hkeep2 hkeepd hHeld hkeep6 hkeep7 hb6 hfs hb26 hbel6 RC HG HGd HBG6
  obtain⟨W7,hW7⟩:∃W7,W7=w6.setCells gk (m*12) c6.toList:=⟨_,rfl⟩
  rw [←hW7] at HOW6 HBn6 HBr6 HB6 HFS ⊢
  clear hW7
  have e11:W7.cell? ⟨bn,10,none⟩=some (.slice A t.ks.len c):=(HBn6.out.cells 10).trans cn10
  have f11:W7.frozen? ⟨bn,10,none⟩=false:=HBn6.out.free 10
  go_upto_region 7 with fail
  have HN8:=hide (show Blk (W7.setCell ⟨bn,10,none⟩ (.slice (some ⟨gk,0,none⟩) t.ks.len c9)) bn (t.h.cells (.slice (some ⟨gk,0,none⟩) t.ks.len c9) (.slice A2 t.ss.length c2)) 25 from by rw [←HSET.out];exact HBn6.out.put rfl)
  have HR8:=hide (show Blk (W7.setCell ⟨bn,10,none⟩ (.slice (some ⟨gk,0,none⟩) t.ks.len c9)) br zeroN 25 from HBr6.out.other (Ne.symm hrw.2.2.2.2.1))
  have HF8:=hide (show FrO (fun j=>j=bn∨j=br) W7 ((W7.setCell ⟨bn,10,none⟩ (.slice (some ⟨gk,0,none⟩) t.ks.len c9)).setRow br (t.h.cells (.slice (some ⟨gk,0,none⟩) t.ks.len c9) (.slice A2 t.ss.length c2))) from(FrO.set (O:=fun j=>j=bn∨j=br) (Or.inl rfl)).trans (FrO.setRow (O:=fun j=>j=bn∨j=br) (Or.inr rfl)) (fun j h=>Or.inl h))
  clear e11 f11
  go_wp2_with (first | ((with_reducible show wpList _ _ _ (Oper.mk (some 37) _ _ _ _ _ :: _) _ _);refine wpList_load_row rfl 25 (.tmp 3) rfl bn rfl 25 (t.h.cells (.slice (some ⟨gk,0,none⟩) t.ks.len c9) (.slice A2 t.ss.length c2)) (0,0) _ HN8.out Tryz.underlying25 rfl (infN rfl) ?_) | ((with_reducible show wpList _ _ _ (Oper.mk none _ _ _ _ _ :: _) _ _);refine wpList_store_row rfl 25 (.tmp 6) (.tmp 37) rfl br (t.h.cells (.slice (some ⟨gk,0,none⟩) t.ks.len c9) (.slice A2 t.ss.length c2)) rfl rfl 25 zeroN HR8.out (infN rfl) rfl (nodeLit _ _ _ _ _ _ _) ?_))
  refine bodyPost_ret (results_cell_row Tryz.results100 _ _ br 25 (t.h.cells (.slice (some ⟨gk,0,none⟩) t.ks.len c9) (.slice A2 t.ss.length c2)) (0,0) _ rfl (setRow_heap _ _ _ _ _ _ HR8.out) Tryz.underlying25 rfl (infN rfl)) rfl ?_
  have hbf:=HB6.out.trans (HF8.out.below HB6.out.size fun j hj=>by rcases hj with rfl | rfl;exact hrw.1;exact hrw.2.2.1)
  have h3:=HOW6.out
  have h4:=own_fr HF8.out h3 fun g hg hj=>by
   have:=(h3.lt g hg).1
   rcases hj with rfl | rfl <;> omega
  refine⟨_,rfl,fun w5 hf5=>?_,hbf⟩
  have hf3:FrO O w w5:=(FrO.of hbf).trans hf5 fun j hj=>Or.inl hj
  obtain⟨kv2,sv2,e2,hs2,_⟩:=HV.out w5 hf3
  injection e2 with e2
  rw [HCN.out] at e2
  have e3:=congrArg (fun a:Array Value=>a[11]?) e2
  have e4:Value.slice A2 t.ss.length c2=sv2:=by injection e3
  rw [←e4] at hs2
  refine⟨_,_,rfl,hs2,?_⟩
  have hf6:FrO (fun j=>O j∨(w.heap.size≤j∧j < w2.heap.size)) w6 w5:=by
   refine(FrO.mono (O:=fun j=>j=gk) (fun j hj=>Or.inr (by subst hj;omega)) HFS.out).trans ((FrO.mono (O:=fun j=>j=bn∨j=br) (O':=fun j=>O j∨(w.heap.size≤j∧j < w2.heap.size)) (fun j hj=>Or.inr (by rcases hj with rfl | rfl <;> omega)) HF8.out).trans hf5 fun j hj=>Or.inl (Or.inl hj)) fun j hj=>Or.inl hj
  have hrow:=RowV.snoc (HR6.out w5 hf6) (RowX.at hf3 HRA.out)
  have h5:=own_fr hf5 h4 fun g hg hj=>by
   have h5:=(h3.lt g hg).1
   have h6:=HO.out g hj
   omega
  show KidR _ _ _ (t.ks.onLast (addT k l))
  rw [onLast_of _ HF0.out]
  have hll:(f0.list++[(addT k l x)]).length=t.ks.len:=by rw [List.length_append,HF0.out,←Fo.list_len (f0.app _),Fo.app_list,List.length_append];rfl
  rw [←hll] at h5 ⊢
  exact RowV.kids hrow (Nat.le_refl _) h5
set_option linter.unusedSimpArgs false
set_option linter.unusedVariables false
open Go.Sort
def ins {α:Type} (lt:α→α→Bool) (x:α):List α→List α
 | []=>[x]
 | y :: l=>if lt x y then x :: y :: l else y :: ins lt x l
def srt {α:Type} (lt:α→α→Bool) (l:List α):List α:=l.foldl (fun acc x=>ins lt x acc) []
theorem ins_len {α:Type} (lt:α→α→Bool) (x:α):∀l:List α,(ins lt x l).length=l.length+1
 | []=>rfl
 | y :: l=>by
  rw [ins]
  split
  ·rfl
  ·rw [List.length_cons,ins_len lt x l,List.length_cons]
theorem srt_len {α:Type} (lt:α→α→Bool) (l:List α):(srt lt l).length=l.length:=by
 have:∀(l acc:List α),(l.foldl (fun acc x=>ins lt x acc) acc).length=acc.length+l.length:=by
  intro l
  induction l with
  | nil=>intro acc;rfl
  | cons x l ih=>intro acc;rw [List.foldl_cons,ih,ins_len,List.length_cons];omega
 have e:=this l []
 rw [List.length_nil,Nat.zero_add] at e
 exact e
/-! Rows sorted in parts of k. -/
inductive Chk {α:Type} (lt:α→α→Bool) (k:Nat):List α→List α→Prop
 | one {c:List α} (h:c.length≤k):Chk lt k c (srt lt c)
 | cons {c l r:List α} (h:c.length=k) (t:Chk lt k l r):Chk lt k (c++l) (srt lt c++r)
inductive Full {α:Type} (lt:α→α→Bool) (k:Nat):List α→List α→Prop
 | nil:Full lt k [] []
 | cons {c l r:List α} (h:c.length=k) (t:Full lt k l r):Full lt k (c++l) (srt lt c++r)
theorem Full.snoc {α:Type} {lt:α→α→Bool} {k:Nat} {l r c:List α} (h:Full lt k l r) (hc:c.length=k):Full lt k (l++c) (r++srt lt c):=by
 induction h with
 | nil=>
  have:=Full.cons hc (Full.nil (lt:=lt) (k:=k))
  simpa using this
 | cons h t ih=>
  rw [List.append_assoc,List.append_assoc]
  exact Full.cons h ih
theorem Full.fin {α:Type} {lt:α→α→Bool} {k:Nat} {l r l2 r2:List α} (h:Full lt k l r) (h2:Chk lt k l2 r2):Chk lt k (l++l2) (r++r2):=by
 induction h with
 | nil=>exact h2
 | cons h t ih=>
  rw [List.append_assoc,List.append_assoc]
  exact Chk.cons h ih
theorem Full.len {α:Type} {lt:α→α→Bool} {k:Nat} {l r:List α} (h:Full lt k l r):r.length=l.length:=by
 induction h with
 | nil=>rfl
 | cons h t ih=>rw [List.length_append,List.length_append,srt_len,ih]
theorem Chk.len {α:Type} {lt:α→α→Bool} {k:Nat} {l r:List α} (h:Chk lt k l r):r.length=l.length:=by
 induction h with
 | one h=>rw [srt_len]
 | cons h t ih=>rw [List.length_append,List.length_append,srt_len,ih]
theorem Chk.small {α:Type} {lt:α→α→Bool} {k:Nat} {l r:List α} (h:Chk lt k l r) (hl:l.length≤k):r=srt lt l:=by
 cases h with
 | one h=>rfl
 | @cons c l r h t=>
  rw [List.length_append] at hl
  have e:l=[]:=List.eq_nil_of_length_eq_zero (by omega)
  subst e
  have e2:r=[]:=List.eq_nil_of_length_eq_zero (by rw [t.len];rfl)
  subst e2
  simp
theorem Chk.big {α:Type} {lt:α→α→Bool} {k:Nat} {l r:List α} (h:Chk lt k l r) (hl:k < l.length):∃c l2 r2,l=c++l2∧r=srt lt c++r2∧c.length=k∧Chk lt k l2 r2:=by
 cases h with
 | one h=>omega
 | cons h t=>exact⟨_,_,_,rfl,rfl,h,t⟩
theorem Chk.last {α:Type} {lt:α→α→Bool} {k:Nat} {l r:List α} (h:Chk lt k l r) (h1:k < l.length) (h2:l.length < 2*k):∃c1 c2,l=c1++c2∧r=srt lt c1++srt lt c2∧c1.length=k∧0 < c2.length:=by
 obtain⟨c,l2,r2,rfl,rfl,hc,t⟩:=h.big h1
 rw [List.length_append] at h1 h2
 have:=t.small (by omega)
 subst this
 exact⟨c,l2,rfl,rfl,hc,by omega⟩
set_option linter.unusedSimpArgs false
set_option linter.unusedVariables false
open Go.Shelf Go.RowKit Go.Lib Go.Sort
structure It where
 t:Tr
 kv:Value
 sv:Value
 O:Nat→Prop
instance:Inhabited It:=⟨⟨Tr.zero,.slice none 0 0,.slice none 0 0,fun _=>False⟩⟩
def encI (x:It):List Value:=(x.t.h.cells x.kv x.sv).toList
def ItS (w:World) (lo:Nat) (x:It):Prop:=w.ownsRow lo 69 2 x.sv x.t.ss.length (stV x.t.ss)∧KidS w lo x.kv x.t.ks x.O
def RowL (w:World) (lo:Nat) (l:List It):Prop:=(∀x∈l,ItS w lo x)∧l.Pairwise (fun x y=>∀j,x.O j→¬y.O j)
theorem ItS.frame {w w':World} {lo:Nat} {x:It} (hS:StrK w w') (hO:∀j,j < w.heap.size→x.O j→w'.heap[j]? = w.heap[j]?) (h:ItS w lo x):ItS w' lo x:=⟨own_keep h.1 fun g cs _ hg=>hS g cs _ hg,h.2.frame hS hO⟩
theorem RowL.frame {w w':World} {lo:Nat} {l:List It} (hS:StrK w w') (hO:∀x∈l,∀j,j < w.heap.size→x.O j→w'.heap[j]? = w.heap[j]?) (h:RowL w lo l):RowL w' lo l:=⟨fun x hx=>(h.1 x hx).frame hS (hO x hx),h.2⟩
theorem RowL.below {w w':World} {lo:Nat} {l:List It} (hb:Below w.heap.size w w') (h:RowL w lo l):RowL w' lo l:=h.frame (StrK.below hb) (fun _ _ j hj _=>hb.block j hj)
set_option linter.unusedSimpArgs false
set_option linter.unusedVariables false
def RdL (w:World) (B:Nat) (l:List It):Prop:=∀x∈l,StR w B x.sv x.t.ss∧KidR w B x.kv x.t.ks
theorem RdL.below {w w':World} {l:List It} (hb:Below w.heap.size w w') (h:RdL w w.heap.size l):RdL w' w'.heap.size l:=fun x hx=>⟨((h x hx).1.below hb).mono hb.size,((h x hx).2.below hb).mono hb.size⟩
theorem RdL.row {w:World} {B:Nat}:∀ {l:List It},RdL w B l→RowR w B (Fo.of (l.map (·.t))) (l.flatMap encI)
 | [],_=>rfl
 | x :: l,h=>⟨x.kv,x.sv,l.flatMap encI,rfl,(h x (List.mem_cons_self ..)).1,(h x (List.mem_cons_self ..)).2,RdL.row (fun y hy=>h y (List.mem_cons_of_mem _ hy))⟩
end Go.Proofs.YtlhakdildbplkaaGreatDoor
