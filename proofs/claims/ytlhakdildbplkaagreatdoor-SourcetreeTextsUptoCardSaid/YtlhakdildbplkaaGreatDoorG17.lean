/- Part of the claim: its words. -/
import Derived.Test.YtlhakdildbplkaaGreatDoorG16
set_option maxRecDepth 100000
set_option maxHeartbeats 4000000
namespace Go.Proofs.YtlhakdildbplkaaGreatDoor
set_option linter.unusedSimpArgs false
set_option linter.unusedVariables false
open Go.RowKit
theorem own_fits {w:World} {lo:Nat} {T:TypeId} {k g n cap:Nat} {xs:List Value} (h:w.ownsRow lo T k (.slice (some ⟨g,0,none⟩) n cap) n xs):∃cur,Blk w g cur T∧lo≤g∧n≤cap∧cap≤maxLen∧cur.size=cap*k∧cur.toList=xs++cur.toList.drop (n*k):=by
 rcases h.2 with⟨h0,_⟩ | ⟨g',cap',cur,hv,hg,hh,hnc,hcm,hcs,htake⟩
 ·cases h0
 ·cases hv
  exact⟨cur,hh,hg,hnc,hcm,hcs,by rw [←htake,List.take_append_drop]⟩
theorem own_mk {w:World} {lo:Nat} {T:TypeId} {k g n cap:Nat} {xs tl:List Value} {cur:Array Value} (hb:Blk w g cur T) (hlo:lo≤g) (hn:n≤cap) (hm:cap≤maxLen) (hx:xs.length=n*k) (hl:cur.size=cap*k) (e:cur.toList=xs++tl):w.ownsRow lo T k (.slice (some ⟨g,0,none⟩) n cap) n xs:=
 ⟨hx,Or.inr ⟨g,cap,cur,rfl,hlo,hb,hn,hm,hl,by rw [e,←hx,List.take_left]⟩⟩
theorem insRow_len {xs cells:List Value} {i n:Nat} (hx:xs.length=n*12) (hc:cells.length=12) (hi:i≤n):(xs.take (i*12)++cells++xs.drop (i*12)).length=(n+1)*12:=by
 rw [List.length_append,List.length_append,List.length_take,List.length_drop];omega
theorem nodeSize:(Tryz.prog.info? 25).map (·.size)=some 12:=by
 obtain⟨i,hi,hz0,hz1,hz2⟩:=info_parts nodeInfo
 rw [hi];simp [hz1]
theorem insert_room (lo g cap n i:Nat) (xs:List Value) (vb:Nat) (cells:Array Value) (w:World) (hown:w.ownsRow lo 25 12 (.slice (some ⟨g,0,none⟩) n cap) n xs) (hx1:∀u∈xs,u.oneCell'=true) (hi:i < n) (hn:n≤1000000) (hroom:n+1≤cap) (hv:Blk w vb cells 25) (h12:cells.size=12) (h1:∀u∈cells.toList,u.oneCell'=true) (hvb:vb≠g) :
  Calls Tryz.prog 74 #[.slice (some ⟨g,0,none⟩) n cap,.int .i64 (i:Int),.slice (some ⟨vb,0,none⟩) 1 1] w fun e w'=>e=.returned (.slice (some ⟨g,0,none⟩) (n+1) cap)∧w'.ownsRow lo 25 12 (.slice (some ⟨g,0,none⟩) (n+1) cap) (n+1) (xs.take (i*12)++cells.toList++xs.drop (i*12))∧FrO (fun j=>j=g) w w':=by
 obtain⟨cur,hB,hlo,hnc,hcm,hcs,htk⟩:=own_fits hown
 have hcm2:cap≤9223372036854775807:=by unfold maxLen at hcm;omega
 have hlen:=hown.1
 have hcl:cells.toList.length=12:=by rw [Array.length_toList];exact h12
 have htl:12≤(cur.toList.drop (n*12)).length:=by rw [List.length_drop,Array.length_toList,hcs];omega
 have hdl:(xs.drop (i*12)).length=Nat.min (n+1 - i) (n - i)*12:=by
  rw [List.length_drop,hlen,show Nat.min (n+1 - i) (n - i)=n - i by simp only [Nat.min_def];split <;> omega];omega
 have hov:∀lb cb,(callFunc 124 #[.slice (some ⟨vb,0,none⟩) 1 1,.slice (some ⟨g,(i+1)*12,none⟩) lb cb]).run Tryz.prog w=.ok (.value (.bool false)) w:=fun lb cb=>by
  rw [run_callFunc_extern Tryz.func124 (by kernel_rfl) (by kernel_rfl) (by kernel_rfl) (e:=Extern.SlicesOverlaps.overlaps #[22,22] #[4]) (by kernel_rfl),
   Lib.run_overlaps_apart w 22 4 25 Tryz.underlying22 12 (fun w=>by obtain⟨i,hi,hz0,hz1,hz2⟩:=info_parts nodeInfo;simp [sizeOf,typeInfo,hi,hz1]) ⟨vb,0,none⟩ ⟨g,(i+1)*12,none⟩ 1 1 lb cb hvb 25 25 cells.size cur.size (by simp [World.shape?,show w.heap[vb]? = _ from hv]) (by simp [World.shape?,show w.heap[g]? = _ from hB]) (by omega) (hv.free _) (hv.free _)]
  rfl
 have hcp1:∀ty dc sc,(Builtin.copy_ #[22,22] ty #[.slice (some ⟨g,(i+1)*12,none⟩) (n - i) dc,.slice (some ⟨g,i*12,none⟩) (n+1 - i) sc]).run Tryz.prog w.drew=.ok (goInt (Nat.min (n+1 - i) (n - i))) (w.drew.setRow g (cur.toList.take ((i+1)*12)++xs.drop (i*12)++cur.toList.drop ((i+1)*12+(xs.drop (i*12)).length)).toArray):=fun ty dc sc=>
  run_copy_rowK w.drew _ _ ty 25 12 g ((i+1)*12) (n - i) dc ⟨g,i*12,none⟩ (n+1 - i) sc cur _ (xs.drop (i*12)) Tryz.underlying22 nodeSize hB.drew hdl
   (fun j v hj=>by
    rw [addr_add,hB.drew.cells,←Array.getElem?_toList,htk]
    rw [List.getElem?_drop] at hj
    rw [List.getElem?_append_left (by have:=(List.getElem?_eq_some_iff.1 hj).1;omega)]
    exact hj)
   (by rw [hcs,List.length_drop,hlen];omega) (fun u hu=>hx1 u (List.mem_of_mem_drop hu))
 obtain⟨r1,hr1⟩:∃r1,r1=cur.toList.take ((i+1)*12)++xs.drop (i*12)++cur.toList.drop ((i+1)*12+(xs.drop (i*12)).length):=⟨_,rfl⟩
 have hr1l:r1.length=cap*12:=by
  rw [hr1,List.length_append,List.length_append,List.length_take,List.length_drop,List.length_drop,Array.length_toList,hcs,hlen];omega
 rw [←hr1] at hcp1
 obtain⟨W1,hW1⟩:∃W1,W1=w.drew.setRow g r1.toArray:=⟨_,rfl⟩
 rw [←hW1] at hcp1
 have hB1:Blk W1 g r1.toArray 25:=by rw [hW1];exact setRow_heap w.drew g _ _ _ _ hB.drew
 have hV1:Blk W1 vb cells 25:=by rw [hW1];exact(setRow_other w.drew g vb _ hvb).trans hv.drew
 obtain⟨r2,hr2⟩:∃r2,r2=r1.take (i*12)++cells.toList++r1.drop (i*12+cells.toList.length):=⟨_,rfl⟩
 have hcp2:∀ty dc,(Builtin.copy_ #[22,22] ty #[.slice (some ⟨g,i*12,none⟩) (n+1 - i) dc,.slice (some ⟨vb,0,none⟩) 1 1]).run Tryz.prog W1=.ok (goInt (Nat.min 1 (n+1 - i))) (W1.setRow g r2.toArray):=fun ty dc=>by
  rw [hr2]
  exact run_copy_rowK W1 _ _ ty 25 12 g (i*12) (n+1 - i) dc ⟨vb,0,none⟩ 1 1 r1.toArray _ cells.toList Tryz.underlying22 nodeSize hB1 (by rw [hcl,show Nat.min 1 (n+1 - i)=1 by simp only [Nat.min_def];split <;> omega])
   (fun j v hj=>by rw [addr_add,Nat.zero_add,hV1.cells,←Array.getElem?_toList];exact hj)
   (by rw [List.size_toArray,hr1l,hcl];omega) h1
 have hB2:Blk (W1.setRow g r2.toArray) g r2.toArray 25:=setRow_heap W1 g _ _ _ _ hB1
 have hfin:=ins_room xs cells.toList (cur.toList.drop (n*12)) i n hlen hcl (by omega) htl r1 (by rw [hr1,←htk])
 rw [←hr2] at hfin
 have hr2l:r2.length=cap*12:=by
  rw [hr2,List.length_append,List.length_append,List.length_take,List.length_drop,hr1l,hcl];omega
 have hOut:=own_mk (lo:=lo) (k:=12) (n:=n+1) (cap:=cap) (tl:=(cur.toList.drop (n*12)).drop 12) hB2 hlo hroom hcm (insRow_len (i:=i) hlen hcl (Nat.le_of_lt hi)) (by rw [List.size_toArray,hr2l]) hfin
 have hFr:FrO (fun j=>j=g) w (W1.setRow g r2.toArray):=by
  rw [hW1]
  exact(((FrO.of (O:=fun j=>j=g) ((Below.refl _ _).drew)).trans (FrO.setRow (O:=fun j=>j=g) (w:=w.drew) (n:=g) (cs:=r1.toArray) rfl) (fun j h=>Or.inl h)).trans (FrO.setRow (O:=fun j=>j=g) rfl) (fun j h=>Or.inl h))
 have HP:=hide (And.intro hOut hFr)
 have HW1:=hide hW1
 have hw1:IntKind.i64.wrap ((i:Int)+1)=(i:Int)+1:=by rw [IntKind.wrap_i64];omega
 have hb1:(0:Int)≤(i:Int)+1:=by omega
 have hin:i≤n:=by omega
 have htn:((i:Int)+1).toNat=i+1:=by omega
 have hb2:¬(cap=i+1):=by omega
 have hb3:(i:Int)≤(n:Int)+1:=by omega
 have hb4:¬(cap=i):=by omega
 clear hown hx1 hB hlo hcm hcs htk hlen hcl htl hdl hr1 hr1l hB1 hV1 hr2 hB2 hfin hr2l hOut hFr hW1 hv h12 h1
 have mixed:Tryz.prog.follows Departure.mixedOrders=true:=by kernel_rfl
 have HL:Live w []:=trivial
 go_enter Tryz.func74,Tryz.ntmps74
 go_wp2_with (simp only [hov])
 go_region_law_o (refine step_copy_runI rfl _ _ 22 22 rfl _ _ (by simp [Act.eval,Act.put]) (by simp [Act.eval,Act.put]) (hcp1 _ _ _) ?_)
 go_wp2_with (at_builtin;refine wpList_copy_runI _ rfl _ _ 22 22 rfl _ _ rfl rfl (hcp2 _ _) ?_)
 go_ret
 exact⟨rfl,HP.out.1,HP.out.2⟩
theorem insert_full (lo g n i:Nat) (xs:List Value) (vb:Nat) (cells:Array Value) (w:World) (hown:w.ownsRow lo 25 12 (.slice (some ⟨g,0,none⟩) n n) n xs) (hx1:∀u∈xs,u.oneCell'=true) (hi:i < n) (hn:n≤1000000) (hv:Blk w vb cells 25) (h12:cells.size=12) (h1:∀u∈cells.toList,u.oneCell'=true) (hvb:vb≠g) (hlw:lo≤w.heap.size) :
  Calls Tryz.prog 74 #[.slice (some ⟨g,0,none⟩) n n,.int .i64 (i:Int),.slice (some ⟨vb,0,none⟩) 1 1] w fun e w'=>∃cap',e=.returned (.slice (some ⟨w.heap.size,0,none⟩) (n+1) cap')∧w'.ownsRow lo 25 12 (.slice (some ⟨w.heap.size,0,none⟩) (n+1) cap') (n+1) (xs.take (i*12)++cells.toList++xs.drop (i*12))∧FrO (fun j=>j=g) w w':=by
 obtain⟨cur,hB,hlo,hnc,hcm,hcs,htk⟩:=own_fits hown
 have hlen:=hown.1
 have hcl:cells.toList.length=12:=by rw [Array.length_toList];exact h12
 have hdl:(xs.drop (i*12)).length=Nat.min (n - i) (n - i)*12:=by
  rw [List.length_drop,hlen,show Nat.min (n - i) (n - i)=n - i by simp only [Nat.min_def];split <;> rfl];omega
 obtain⟨inf,hi2,hz0,hz1,hz2⟩:=info_parts nodeInfo
 have hrun:∀ty,(Builtin.append_ #[22,3] ty #[.slice (some ⟨g,0,none⟩) i n,.int .i64 ((n+1 - i:Nat):Int)]).run Tryz.prog w=_:=fun ty=>
  run_append_grow_zeros w 22 3 ty 25 inf (.agg zeroN) .i64 .i64 Tryz.underlying22 Tryz.underlying3 hi2 hz0 ⟨g,0,none⟩ i n (xs.take (i*12)) (by rw [hz1,List.length_take,hlen];omega)
   (fun j v hj=>by
    rw [addr_add,Nat.zero_add,hB.cells,←Array.getElem?_toList,htk]
    rw [List.getElem?_take] at hj
    split at hj
    ·rw [List.getElem?_append_left (by have:=(List.getElem?_eq_some_iff.1 hj).1;omega)]
     exact hj
    ·cases hj)
   (n+1 - i) (by omega) (by omega) (by omega) (by omega) (growslice_fits (by omega) (by rw [hz2];omega)) (by rw [hz2];omega)
 have hneed:i+(n+1 - i)=n+1:=by omega
 simp only [hneed] at hrun
 obtain⟨C,hC⟩:∃C,C=grownCap w (n+1) n 25:=⟨_,rfl⟩
 have hCge:n+1≤C:=by rw [hC];exact grownCap_ge w (n+1) n _
 have hCmx:C≤maxLen:=by rw [hC];exact grownCap_le_maxLen w (n+1) n _ (by unfold maxLen;omega)
 have hCm2:C≤9223372036854775807:=by unfold maxLen at hCmx;omega
 rw [←hC] at hrun
 obtain⟨tl,htl⟩:∃tl:List Value,tl=(Builtin.zeroCells (Value.agg zeroN).cells (n+1 - i)).toList++(Builtin.zeroCells (Value.agg zeroN).cells (C - (n+1))).toList:=⟨_,rfl⟩
 have hzc:(Value.agg zeroN).cells.size=12:=by kernel_rfl
 have htll:tl.length=(C - i)*12:=by
  rw [htl,List.length_append,Array.length_toList,Array.length_toList,size_zeroCells,size_zeroCells,hzc];omega
 obtain⟨W0,hW0⟩:∃W0,W0=w.drew.alloc (.cells ((xs.take (i*12)).toArray++Builtin.zeroCells (Value.agg zeroN).cells (n+1 - i)++Builtin.zeroCells (Value.agg zeroN).cells (C - (n+1))) 25):=⟨_,rfl⟩
 rw [←hW0] at hrun
 obtain⟨G,hG⟩:∃G,G=w.heap.size:=⟨_,rfl⟩
 rw [←hG] at hrun
 rw [←hG] at hlw
 have hgG:g≠G:=by have:=hB.lt;omega
 have hvG:vb≠G:=by have:=hv.lt;omega
 have hB0:Blk W0 G ((xs.take (i*12))++tl).toArray 25:=by
  rw [hW0,hG,htl]
  have:=heap_alloc_new w.drew (.cells ((xs.take (i*12)).toArray++Builtin.zeroCells (Value.agg zeroN).cells (n+1 - i)++Builtin.zeroCells (Value.agg zeroN).cells (C - (n+1))) 25)
  refine Eq.trans this ?_
  congr 2
  apply Array.ext'
  simp [List.append_assoc]
 have hs0:Blk W0 g cur 25:=by rw [hW0];exact hB.drew.alloc _
 have hv0:Blk W0 vb cells 25:=by rw [hW0];exact hv.drew.alloc _
 have htk1:(xs.take (i*12)).length=i*12:=by rw [List.length_take,hlen];omega
 obtain⟨r1,hr1⟩:∃r1,r1=(xs.take (i*12)++tl).take (i*12)++cells.toList++(xs.take (i*12)++tl).drop (i*12+cells.toList.length):=⟨_,rfl⟩
 have hr1l:r1.length=C*12:=by
  rw [hr1,List.length_append,List.length_append,List.length_take,List.length_drop,List.length_append,htk1,htll,hcl];omega
 have hcp1:∀ty dc,(Builtin.copy_ #[22,22] ty #[.slice (some ⟨G,i*12,none⟩) (n+1 - i) dc,.slice (some ⟨vb,0,none⟩) 1 1]).run Tryz.prog W0=.ok (goInt (Nat.min 1 (n+1 - i))) (W0.setRow G r1.toArray):=fun ty dc=>by
  rw [hr1]
  exact run_copy_rowK W0 _ _ ty 25 12 G (i*12) (n+1 - i) dc ⟨vb,0,none⟩ 1 1 (xs.take (i*12)++tl).toArray _ cells.toList Tryz.underlying22 nodeSize hB0 (by rw [hcl,show Nat.min 1 (n+1 - i)=1 by simp only [Nat.min_def];split <;> omega])
   (fun j v hj=>by rw [addr_add,Nat.zero_add,hv0.cells,←Array.getElem?_toList];exact hj)
   (by rw [List.size_toArray,List.length_append,htk1,htll,hcl];omega) h1
 obtain⟨W1,hW1⟩:∃W1,W1=W0.setRow G r1.toArray:=⟨_,rfl⟩
 rw [←hW1] at hcp1
 have hB1:Blk W1 G r1.toArray 25:=by rw [hW1];exact setRow_heap W0 G _ _ _ _ hB0
 have hs1:Blk W1 g cur 25:=by rw [hW1];exact(setRow_other W0 G g _ hgG).trans hs0
 obtain⟨r2,hr2⟩:∃r2,r2=r1.take ((i+1)*12)++xs.drop (i*12)++r1.drop ((i+1)*12+(xs.drop (i*12)).length):=⟨_,rfl⟩
 have hcp2:∀ty dc sc,(Builtin.copy_ #[22,22] ty #[.slice (some ⟨G,(i+1)*12,none⟩) (n - i) dc,.slice (some ⟨g,i*12,none⟩) (n - i) sc]).run Tryz.prog W1.drew=.ok (goInt (Nat.min (n - i) (n - i))) (W1.drew.setRow G r2.toArray):=fun ty dc sc=>by
  rw [hr2]
  exact run_copy_rowK W1.drew _ _ ty 25 12 G ((i+1)*12) (n - i) dc ⟨g,i*12,none⟩ (n - i) sc r1.toArray _ (xs.drop (i*12)) Tryz.underlying22 nodeSize hB1.drew hdl
   (fun j v hj=>by
    rw [addr_add,hs1.drew.cells,←Array.getElem?_toList,htk]
    rw [List.getElem?_drop] at hj
    rw [List.getElem?_append_left (by have:=(List.getElem?_eq_some_iff.1 hj).1;omega)]
    exact hj)
   (by rw [List.size_toArray,hr1l,List.length_drop,hlen];omega) (fun u hu=>hx1 u (List.mem_of_mem_drop hu))
 have hB2:Blk (W1.drew.setRow G r2.toArray) G r2.toArray 25:=setRow_heap W1.drew G _ _ _ _ hB1.drew
 have hfin:=ins_grow xs cells.toList tl i n hlen hcl (by omega) (by rw [htll];omega) r1 hr1
 rw [←hr2] at hfin
 have hr2l:r2.length=C*12:=by
  rw [hr2,List.length_append,List.length_append,List.length_take,List.length_drop,List.length_drop,hr1l,hlen];omega
 have hOut:=own_mk (lo:=lo) (k:=12) (n:=n+1) (cap:=C) (tl:=tl.drop ((n+1 - i)*12)) hB2 hlw hCge hCmx (insRow_len (i:=i) hlen hcl (Nat.le_of_lt hi)) (by rw [List.size_toArray,hr2l]) hfin
 have hFr:FrO (fun j=>j=g) w (W1.drew.setRow G r2.toArray):=by
  have f0:Below w.heap.size w W0:=by rw [hW0];exact((Below.refl _ w).drew).alloc (Nat.le_refl _) _
  have f1:FrO (fun j=>j=G) W0 W1:=by rw [hW1];exact FrO.setRow (O:=fun j=>j=G) rfl
  have f2:FrO (fun j=>j=G) W1 W1.drew:=FrO.of (O:=fun j=>j=G) ((Below.refl _ _).drew)
  have f3:FrO (fun j=>j=G) W1.drew (W1.drew.setRow G r2.toArray):=FrO.setRow (O:=fun j=>j=G) rfl
  exact(((FrO.of (O:=fun j=>j=g) f0).trans f1 (fun j h=>Or.inr (by omega))).trans f2 (fun j h=>Or.inr (by omega))).trans f3 (fun j h=>Or.inr (by omega))
 have HP:=hide (And.intro hOut hFr)
 subst hG
 have hw1:IntKind.i64.wrap ((i:Int)+1)=(i:Int)+1:=by rw [IntKind.wrap_i64];omega
 have hw2:IntKind.i64.wrap ((n:Int)+1 - (i:Int))=((n+1 - i:Nat):Int):=by rw [IntKind.wrap_i64];omega
 have hb1:(0:Int)≤(i:Int)+1:=by omega
 have hin:i≤n:=by omega
 have htn:((i:Int)+1).toNat=i+1:=by omega
 have hb2:¬(C=i+1):=by omega
 have hb3:(i:Int)≤(n:Int)+1:=by omega
 have hb4:¬(C=i):=by omega
 have hb5:¬(n=i):=by omega
 clear hown hx1 hB hlo hcm hcs htk hlen hcl htl hdl hr1 hr1l hB1 hr2 hB2 hfin hr2l hOut hFr hW1 hv h12 h1 hC hCmx hzc htll hW0 hB0 hs0 hv0 htk1 hs1 hi2 hz0 hz1 hz2 hneed hlw
 have mixed:Tryz.prog.follows Departure.mixedOrders=true:=by kernel_rfl
 have HL:Live w []:=trivial
 go_enter Tryz.func74,Tryz.ntmps74
 go_wp2_with (at_builtin;refine Lib.wpList_append_run _ rfl _ _ _ _ rfl _ _ rfl rfl _ _ (hrun _) ?_)
 go_wp2_with (at_builtin;refine wpList_copy_runI _ rfl _ _ 22 22 rfl _ _ rfl rfl (hcp1 _ _) ?_)
 go_region_law_o (refine step_copy_runI rfl _ _ 22 22 rfl _ _ (by simp [Act.eval,Act.put]) (by simp [Act.eval,Act.put]) (hcp2 _ _ _) ?_)
 go_wp2_with fail
 go_ret
 exact⟨C,rfl,HP.out.1,HP.out.2⟩
theorem insert_mid (lo:Nat) (sv:Value) (n i:Nat) (xs:List Value) (vb:Nat) (cells:Array Value) (w:World) (hown:w.ownsRow lo 25 12 sv n xs) (hx1:∀u∈xs,u.oneCell'=true) (hi:i < n) (hn:n≤1000000) (hv:Blk w vb cells 25) (h12:cells.size=12) (h1:∀u∈cells.toList,u.oneCell'=true) (hvb:sv.ownBlock≠some vb) (hlo:lo≤w.heap.size) :
  Calls Tryz.prog 74 #[sv,.int .i64 (i:Int),.slice (some ⟨vb,0,none⟩) 1 1] w (InsP lo sv n (xs.take (i*12)++cells.toList++xs.drop (i*12)) w):=by
 rcases hown.2 with⟨rfl,rfl⟩ | ⟨g,cap,cur,rfl,_,_,hnc,hcm,_⟩
 ·omega
 ·have hne:vb≠g:=fun e=>hvb (by rw [e];rfl)
  rcases Nat.lt_or_ge n cap with hc | hc
  ·refine Calls.mono (insert_room lo g cap n i xs vb cells w hown hx1 hi hn hc hv h12 h1 hne) ?_
   rintro e w' ⟨rfl,h2,h3⟩
   exact⟨_,rfl,h2,fun j hj=>Or.inl hj,FrO.mono (fun j h=>by rw [h];rfl) h3⟩
  ·obtain rfl:cap=n:=by omega
   refine Calls.mono (insert_full lo g cap i xs vb cells w hown hx1 hi hn hv h12 h1 hne hlo) ?_
   rintro e w' ⟨cap',rfl,h2,h3⟩
   exact⟨_,rfl,h2,fun j hj=>Or.inr (Nat.le_of_eq (Option.some.inj hj)),FrO.mono (fun j h=>by rw [h];rfl) h3⟩
theorem insert_any (lo:Nat) (sv:Value) (n i:Nat) (xs:List Value) (vb:Nat) (cells:Array Value) (w:World) (hown:w.ownsRow lo 25 12 sv n xs) (hx1:∀u∈xs,u.oneCell'=true) (hi:i≤n) (hn:n≤1000000) (hv:Blk w vb cells 25) (h12:cells.size=12) (h1:∀u∈cells.toList,u.oneCell'=true) (hvb:sv.ownBlock≠some vb) (hlo:lo≤w.heap.size) :
  Calls Tryz.prog 74 #[sv,.int .i64 (i:Int),.slice (some ⟨vb,0,none⟩) 1 1] w (InsP lo sv n (xs.take (i*12)++cells.toList++xs.drop (i*12)) w):=by
 rcases Nat.lt_or_ge i n with h | h
 ·exact insert_mid lo sv n i xs vb cells w hown hx1 h hn hv h12 h1 hvb hlo
 ·obtain rfl:i=n:=by omega
  have hl:=hown.1
  rw [List.take_of_length_le (by omega),List.drop_of_length_le (by omega),List.append_nil]
  exact insert_end lo sv i xs vb cells w hown hn hv h12 h1 hlo
end Go.Proofs.YtlhakdildbplkaaGreatDoor
