/- Part of the claim: its words. -/
import Derived.Test.YtlhakdildbplkaaGreatDoorG22
import Derived.Test.YtlhakdildbplkaaGreatDoorG23
set_option maxRecDepth 100000
set_option maxHeartbeats 4000000
namespace Go.Proofs.YtlhakdildbplkaaGreatDoor
set_option linter.unusedSimpArgs false
set_option linter.unusedVariables false
def exK:Tr:=⟨⟨⟨#[97,32,98]⟩,1,⟨#[104,105]⟩,eS,420,0,0,1000000000,0,0⟩,[],.nil⟩
def exT:Tr:=⟨⟨eS,0,eS,eS,493,0,0,1000000000,0,0⟩,[],.node exK.h [] .nil .nil⟩
def exL:Tr:=⟨⟨eS,0,eS,eS,493,0,0,1000000000,0,0⟩,[],.nil⟩
def exB:List UInt8:=[100,105,114,101,99,116,111,114,121,32,49,32,61,32,52,57,51,32,48,32,48,32,49,48,48,48,48,48,48,48,48,48,32,48,32,48,10,102,105,108,101,32,50,32,97,37,50,48,98,32,52,50,48,32,48,32,48,32,49,48,48,48,48,48,48,48,48,48,32,48,32,48,32,104,105,10]
def exS:ByteArray:=⟨exB.toArray⟩
theorem ex_check:checkT exT=(eS,0):=by decide +kernel
theorem ex_valid:validB exT=true:=by unfold validB;rw [ex_check];rfl
theorem ex_format:formatT exT=(exS,0):=by decide +kernel
theorem ex_parse:parseT exS=(exT,0,0):=by decide +kernel
theorem ex_get:getT exT ⟨#[97,32,98]⟩=(exK,0):=by decide +kernel
theorem ex_rem:remQ exT ⟨#[97,32,98]⟩=(exL,0):=by decide +kernel
theorem ex_put:putQ exL eS exK=(exT,0):=by decide +kernel
theorem ex_count:exT.count=2:=by decide
theorem ex_lev:exT.lev=2:=by decide
theorem ex_paths:pathsT exT=[eS,⟨#[97,32,98]⟩]:=by decide +kernel
theorem ex_name:nameB ⟨#[97,32,98]⟩=true:=by decide +kernel
theorem ex_noname:nameB ⟨#[97,47,98]⟩=false:=by decide +kernel
theorem ex_target:targetB ⟨#[47,97,47,46,46]⟩=true:=by decide +kernel
theorem ex_notarget:targetB ⟨#[97,47]⟩=false:=by decide +kernel
theorem ex_sz:exT.sz≤100∧exK.sz≤100∧exL.sz≤100:=by decide
theorem ex_ne:exL≠exT:=by decide
theorem parse_is {s:ByteArray} {x t:Tr} {st:List Tr} (h:parseT s=(x,0,0)) (h1:linesS (piecesC 10 s.data.toList).dropLast 0 []=.ok st) (h2:leaveS 1 st.length st=[t]):t=x:=by
 unfold parseT at h
 split at h
 ·simp at h
 ·rw [h1] at h
  dsimp only at h
  split at h
  ·simp at h
  ·rw [h2] at h
   dsimp only at h
   split at h
   ·rename_i h3
    exact absurd (by simpa using (Prod.mk.inj (Prod.mk.inj h).2).2) h3
   ·exact(Prod.mk.inj h).1
theorem ex_small:∀st t,linesS (piecesC 10 exS.data.toList).dropLast 0 []=.ok st→leaveS 1 st.length st=[t]→t.sz≤60000:=fun st t h1 h2=>by
 rw [parse_is ex_parse h1 h2]
 have:=ex_sz.1
 omega
set_option linter.unusedSimpArgs false
set_option linter.unusedVariables false
open Go.RowKit
def exKC:Array Value:=exK.h.cells (.slice none 0 0) (.slice none 0 0)
theorem built_k:Tryz.prog.built 25 [(0,.string ⟨#[97,32,98]⟩),(1,.int .i64 1),(2,.string ⟨#[104,105]⟩),(4,.int .i64 420),(7,.int .i64 1000000000)]=some exKC:=by kernel_rfl
theorem built_t (g:Nat):Tryz.prog.built 25 [(4,.int .i64 493),(7,.int .i64 1000000000),(10,.slice (some ⟨g,0,none⟩) 1 1)]=some (exT.h.cells (.slice (some ⟨g,0,none⟩) 1 1) (.slice none 0 0)):=by kernel_rfl
theorem ex_reads (w:World):TreeR (w.alloc (.cells exKC 25)) (w.heap.size+1) (.agg (exT.h.cells (.slice (some ⟨w.heap.size,0,none⟩) 1 1) (.slice none 0 0))) exT:=by
 refine⟨_,_,rfl,⟨none,0,rfl,fun h=>absurd h (Nat.lt_irrefl _)⟩,⟨some ⟨w.heap.size,0,none⟩,1,rfl,fun _=>⟨w.heap.size,0,rfl,Nat.lt_succ_self _,⟨_,_,rangeAt_of fun j u hj=>?_,⟨none,0,rfl,fun h=>absurd h (Nat.lt_irrefl _)⟩,none,0,rfl,fun h=>absurd h (Nat.lt_irrefl _)⟩,trivial⟩⟩⟩
 rw [Nat.zero_add]
 exact((Blk.new w exKC 25).cells j).trans (by rw [←Array.getElem?_toList];exact hj)
theorem example_any (w:World):Calls Tryz.prog 44 #[] w fun e w'=>∃v,e=.returned v∧TreeR w' w'.heap.size v exT∧Below w.heap.size w w':=by
 have HL:Live w []:=trivial
 go_enter Tryz.func44,Tryz.ntmps44
 go_upto_region 1 with fail
 have hbel1:Below w.heap.size w (w.alloc (.cells zeroN 25)):=(Below.refl _ _).alloc (Nat.le_refl _) _
 have HB:=hide (show Blk (w.alloc (.cells zeroN 25)) w.heap.size zeroN 25 from Blk.newAt rfl)
 unfold zeroN at hbel1
 generalize hW:w.alloc (.cells #[.string ⟨#[]⟩,.int .i64 0,.string ⟨#[]⟩,.string ⟨#[]⟩,.int .i64 0,.int .i64 0,.int .i64 0,.int .i64 0,.int .i64 0,.int .i64 0,.slice none 0 0,.slice none 0 0] 25)=W1 at *
 (try rw [show w.alloc (.cells zeroN 25)=W1 from hW] at HB)
 clear hW
 obtain⟨b,hb⟩:∃b,b=w.heap.size:=⟨_,rfl⟩
 have hbw:w.heap.size≤b:=by omega
 rw [←hb] at HB ⊢
 clear hb
 have hz:=hbel1.size
 have HR:=hide (ex_reads W1)
 have HB2:=hide (HB.out.alloc (.cells exKC 25))
 have hbel2:Below w.heap.size w (W1.alloc (.cells exKC 25)):=hbel1.alloc hz _
 have HBE:=hide hbel2
 clear hbel1 hbel2
 have HBR:=hide (show Blk ((W1.alloc (.cells exKC 25)).setRow b (exT.h.cells (.slice (some ⟨W1.heap.size,0,none⟩) 1 1) (.slice none 0 0))) b (exT.h.cells (.slice (some ⟨W1.heap.size,0,none⟩) 1 1) (.slice none 0 0)) 25 from setRow_heap _ _ _ _ _ _ HB2.out)
 have HBF:=hide (show Below w.heap.size w ((W1.alloc (.cells exKC 25)).setRow b (exT.h.cells (.slice (some ⟨W1.heap.size,0,none⟩) 1 1) (.slice none 0 0))) from HBE.out.trans ((FrO.setRow (O:=fun j=>j=b) rfl).below HBE.out.size fun j hj=>by omega))
 have HRF:=hide (show TreeR ((W1.alloc (.cells exKC 25)).setRow b (exT.h.cells (.slice (some ⟨W1.heap.size,0,none⟩) 1 1) (.slice none 0 0))) ((W1.alloc (.cells exKC 25)).setRow b (exT.h.cells (.slice (some ⟨W1.heap.size,0,none⟩) 1 1) (.slice none 0 0))).heap.size (.agg (exT.h.cells (.slice (some ⟨W1.heap.size,0,none⟩) 1 1) (.slice none 0 0))) exT from by
  have hs:((W1.alloc (.cells exKC 25)).setRow b (exT.h.cells (.slice (some ⟨W1.heap.size,0,none⟩) 1 1) (.slice none 0 0))).heap.size=W1.heap.size+1:=by simp [World.setRow,World.size_alloc]
  rw [hs]
  obtain⟨g,hg⟩:∃g,g=W1.heap.size:=⟨_,rfl⟩
  have hgb:g≠b:=by have:=HB.out.lt;omega
  rw [←hg]
  refine⟨_,_,rfl,⟨none,0,rfl,fun h=>absurd h (Nat.lt_irrefl _)⟩,⟨some ⟨g,0,none⟩,1,rfl,fun _=>⟨g,0,rfl,Nat.lt_succ_self _,⟨_,_,rangeAt_of fun j u hj=>?_,⟨none,0,rfl,fun h=>absurd h (Nat.lt_irrefl _)⟩,none,0,rfl,fun h=>absurd h (Nat.lt_irrefl _)⟩,trivial⟩⟩⟩
  rw [Nat.zero_add]
  have hB:Blk ((W1.alloc (.cells exKC 25)).setRow b (exT.h.cells (.slice (some ⟨g,0,none⟩) 1 1) (.slice none 0 0))) g exKC 25:=(setRow_other _ _ _ _ hgb).trans (Blk.newAt hg.symm)
  exact(hB.cells j).trans (by rw [←Array.getElem?_toList];exact hj))
 go_wp2_with ((with_reducible show wpList _ _ _ _ _ _);(first | (refine wpList_build_is rfl 25 #[(0,.const (.string ⟨#[97,32,98]⟩)),(1,.const (.int .i64 1)),(2,.const (.string ⟨#[104,105]⟩)),(4,.const (.int .i64 420)),(7,.const (.int .i64 1000000000))] rfl _ rfl _ built_k ?_) | (refine wpList_build_is rfl 25 #[(4,.const (.int .i64 493)),(7,.const (.int .i64 1000000000)),(10,.tmp 2)] rfl _ rfl _ (built_t W1.heap.size) ?_) | (refine wpList_store_row rfl 25 (.tmp 0) (.tmp 3) rfl b (exT.h.cells (.slice (some ⟨W1.heap.size,0,none⟩) 1 1) (.slice none 0 0)) rfl rfl 25 zeroN HB2.out (infN rfl) rfl (nodeLit _ _ _ _ _ _ _) ?_)))
 show bodyPost Tryz.prog Tryz.f44 _ .ret _ _
 refine bodyPost_ret (results_cell_row Tryz.results44 _ _ b 25 (exT.h.cells (.slice (some ⟨W1.heap.size,0,none⟩) 1 1) (.slice none 0 0)) (0,0) _ rfl HBR.out Tryz.underlying25 rfl (infN rfl)) rfl ?_
 exact⟨_,rfl,HRF.out,HBF.out⟩
theorem ForR.eq_node {h h':Hd} {ss ss':List St} {ks ks' nx nx':Fo}:Fo.node h ss ks nx=.node h' ss' ks' nx'↔(⟨h,ss,ks⟩:Tr)=⟨h',ss',ks'⟩∧nx=nx':=by
 rw [Fo.node.injEq,Tr.mk.injEq]
 constructor
 ·rintro⟨a,b,c,d⟩;exact⟨⟨a,b,c⟩,d⟩
 ·rintro⟨⟨a,b,c⟩,d⟩;exact⟨a,b,c,d⟩
def EqOK (g:FuncId) (N:Nat):Prop:=∀a b:Tr,a.count≤N→a.sz≤500000→b.sz≤500000→∀(v1 v2:Value) (W:World),TreeR W W.heap.size v1 a→TreeR W W.heap.size v2 b→Calls Tryz.prog g #[v1,v2] W fun e w'=>e=.returned (.bool (decide (a=b)))∧Below W.heap.size W w'
theorem eqfunc_any (N:Nat) (EQ:EqOK 40 N) (L M:Fo) (A A2:Option Addr) (c c2 B:Nat) (hLc:L.count≤N) (hL:L.sz≤500000) (hM:M.sz≤500000) (w:World) (hB:B≤w.heap.size) (ha:Left w B A L 0) (hb:Left w B A2 M 0) :
  Calls Tryz.prog 106 #[.slice A L.len c,.slice A2 M.len c2,.func (.func 40) #[] #[]] w fun e w'=>e=.returned (.bool (decide (L=M)))∧Below w.heap.size w w':=by
 have HA:=hide ha
 have HB:=hide hb
 have HEQ:=hide EQ
 have hL2:=L.len_sz
 have hM2:=M.len_sz
 have hL3:L.len≤500000:=by omega
 have hM3:M.len≤500000:=by omega
 have eg:=enters_of Tryz.func40 (by kernel_rfl) rfl
 clear ha hb EQ hL2 hM2
 have HL:Live w []:=trivial
 go_enter Tryz.func106,Tryz.ntmps106
 by_cases hlen:L.len=M.len
 case neg=>
  have HZ:=hide (show decide (L=M)=false from decide_eq_false (fun e=>hlen (by rw [e])))
  have q:((L.len:Int) != (M.len:Int))=true:=by simp;omega
  have HQ:=hide hlen
  clear hlen
  go_wp2_with fail
  go_ret
  exact⟨ret_b HZ.out.symm,Below.refl _ _⟩
 case pos=>
 have HLN:=hide hlen
 have q:((L.len:Int) != (M.len:Int))=false:=by simp;omega
 clear hlen
 go_wp2_with fail
 go_loopw [17] (fun i wr=>∃(k:Nat) (r s:Fo),i=.int .i64 (k:Int)∧k+r.len=L.len∧k+s.len=M.len∧(L=M↔r=s)∧r.count≤N∧r.sz≤500000∧s.sz≤500000∧Left w B A r k∧Left w B A2 s k∧Below w.heap.size w wr) (fun i _=>L.len - (intOf i).toNat)
 case atStart=>exact⟨0,L,M,rfl,by omega,by omega,Iff.rfl,hLc,hL,hM,HA.out,HB.out,Below.refl _ _⟩
 case round=>
  clear HA HB
  obtain⟨k,r,s,rfl,hkr,hks,hiff,hrc,hrs,hss,hl,hm,hbel⟩:=hrel
  have HI:=hide hiff
  have HLr:=hide hl
  have HMr:=hide hm
  clear hiff hl hm
  have HLN2:=HLN.out
  cases r with
  | nil=>
   rw [Fo.len_nil] at hkr
   obtain rfl:k=L.len:=by omega
   have hs0:s=.nil:=Fo.nil_of (by omega)
   have HZ:=hide (show decide (L=M)=true from decide_eq_true (HI.out.2 hs0.symm))
   clear HLN2 hs0 HI
   go_wp2_with fail
   go_ret
   exact⟨ret_b HZ.out.symm,hbel⟩
  | node h ss ks nx=>
  cases s with
  | nil=>rw [Fo.len_nil] at hks;rw [Fo.len_node] at hkr;omega
  | node h' ss' ks' nx'=>
  rw [Fo.len_node] at hkr hks
  rw [Fo.count_node] at hrc
  rw [Fo.sz_node] at hrs hss
  have hlt:k < L.len:=by omega
  have hltM:k < M.len:=by omega
  clear HLN2
  obtain⟨g,o,kc,rfl,hg,hr,hz,h1c,htr,hln⟩:=HLr.out.next
  obtain⟨g2,o2,kc2,rfl,hg2,hr2,hz2,h1c2,htr2,hln2⟩:=HMr.out.next
  have R1:=hide (range_below (hbel.mono hB) hg hr)
  have R2:=hide (range_below (hbel.mono hB) hg2 hr2)
  have HLn:=hide hln
  have HMn:=hide hln2
  have HZ1:=hide hz
  have HZ2:=hide hz2
  have H1C:=hide h1c
  have H1D:=hide h1c2
  have hBr:B≤wr.heap.size:=Nat.le_trans hB hbel.size
  have HT1:=hide ((htr.below (hbel.mono hB)).mono hBr)
  have HT2:=hide ((htr2.below (hbel.mono hB)).mono hBr)
  clear hr hr2 hz hz2 h1c h1c2 htr htr2 hln hln2 HLr HMr
  go_upto_region 6 with (first | (refine wpList_load_midA rfl 25 (.tmp 20) rfl g (o+k*12) rfl kc _ R1.out Tryz.underlying25 rfl (infNl HZ1.out) ?_) | (refine wpList_store_new rfl 25 (.tmp 8) (.tmp 21) rfl kc rfl rfl 25 _ (infN HZ1.out) (by rw [HZ1.out];rfl) H1C.out ?_))
  have hb5:Below wr.heap.size wr (wr.alloc (.cells kc 25)):=(Below.refl _ _).alloc (Nat.le_refl _) _
  have HB5:=hide (show Blk (wr.alloc (.cells kc 25)) wr.heap.size kc 25 from Blk.newAt rfl)
  generalize wr.alloc (.cells kc 25)=W5 at *
  obtain⟨d,hd⟩:∃d,d=wr.heap.size:=⟨_,rfl⟩
  rw [←hd] at HB5 ⊢
  have R25:=hide (range_below hb5 (by omega) R2.out)
  clear hd R1 R2
  go_upto_region 7 with (first | (refine wpList_load_midA rfl 25 (.tmp 24) rfl g2 (o2+k*12) rfl kc2 _ R25.out Tryz.underlying25 rfl (infNl HZ2.out) ?_) | (refine wpList_store_new rfl 25 (.tmp 9) (.tmp 25) rfl kc2 rfl rfl 25 _ (infN HZ2.out) (by rw [HZ2.out];rfl) H1D.out ?_))
  have hb6:Below wr.heap.size wr (W5.alloc (.cells kc2 25)):=hb5.alloc hb5.size _
  have HB6:=hide (HB5.out.alloc (.cells kc2 25))
  have HC6:=hide (show Blk (W5.alloc (.cells kc2 25)) W5.heap.size kc2 25 from Blk.newAt rfl)
  generalize W5.alloc (.cells kc2 25)=W6 at *
  generalize W5.heap.size=d2 at *
  have HT16:=hide (HT1.out.own_below hb6)
  have HT26:=hide (HT2.out.own_below hb6)
  have hbel6:=hbel.trans (hb6.mono hbel.size)
  have CE0:=HEQ.out ⟨h,ss,ks⟩ ⟨h',ss',ks'⟩ (by show ks.count+1≤N;omega) (by show h.sz+szS ss+ks.sz≤_;omega) (by show h'.sz+szS ss'+ks'.sz≤_;omega) (.agg kc) (.agg kc2) W6 HT16.out HT26.out
  have HD:=hide (show(L=M↔(⟨h,ss,ks⟩:Tr)=⟨h',ss',ks'⟩∧nx=nx') by rw [HI.out,ForR.eq_node])
  obtain⟨q2,hq2⟩:∃q2,decide ((⟨h,ss,ks⟩:Tr)=⟨h',ss',ks'⟩)=q2:=⟨_,rfl⟩
  rw [hq2] at CE0
  have CE:=hide CE0
  clear HB5 R25 hb5 HI CE0 HT1 HT2 HT16 HT26
  cases q2
  case true=>
   have HE:=hide (show(L=M↔nx=nx') by rw [HD.out];simp only [of_decide_eq_true hq2,true_and])
   clear hq2 HD
   go_wp2_with (first | (refine wpList_load_row rfl 25 (.tmp 8) rfl d rfl 25 kc (0,0) _ HB6.out Tryz.underlying25 rfl (infN HZ1.out) ?_) | (refine wpList_load_row rfl 25 (.tmp 9) rfl d2 rfl 25 kc2 (0,0) _ HC6.out Tryz.underlying25 rfl (infN HZ2.out) ?_) | ((first | go_at_fn 40 | go_at_call 40);refine CE.out.mono ?_;rintro e w7 ⟨rfl,hb7⟩))
   go_roundw
   case rel=>exact⟨k+1,nx,nx',by go_num,by omega,by omega,HE.out,by omega,by omega,by omega,HLn.out,HMn.out,hbel6.trans (hb7.mono hbel6.size)⟩
   case measure=>simp [intOf];omega
  case false=>
   have HE:=hide (show decide (L=M)=false from decide_eq_false (fun e=>of_decide_eq_false hq2 (HD.out.1 e).1))
   clear hq2 HD
   go_wp2_with (first | (refine wpList_load_row rfl 25 (.tmp 8) rfl d rfl 25 kc (0,0) _ HB6.out Tryz.underlying25 rfl (infN HZ1.out) ?_) | (refine wpList_load_row rfl 25 (.tmp 9) rfl d2 rfl 25 kc2 (0,0) _ HC6.out Tryz.underlying25 rfl (infN HZ2.out) ?_) | ((first | go_at_fn 40 | go_at_call 40);refine CE.out.mono ?_;rintro e w7 ⟨rfl,hb7⟩))
   go_ret
   exact⟨ret_b HE.out.symm,hbel6.trans (hb7.mono hbel6.size)⟩
end Go.Proofs.YtlhakdildbplkaaGreatDoor
