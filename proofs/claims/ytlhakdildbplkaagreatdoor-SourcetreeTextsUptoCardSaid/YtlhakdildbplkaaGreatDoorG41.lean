/- Part of the claim: its words. -/
import Derived.Test.YtlhakdildbplkaaGreatDoorG40
import Derived.Test.YtlhakdildbplkaaGreatDoorG22
set_option maxRecDepth 100000
set_option maxHeartbeats 8000000
namespace Go.Proofs.YtlhakdildbplkaaGreatDoor
set_option linter.unusedSimpArgs false
set_option linter.unusedVariables false
open Go.RowKit
theorem intInfoN:(Tryz.prog.info? 3).map (fun i=>(i.zero,i.size,i.bytes))=some (some (.int .i64 0),1,8):=by kernel_rfl
def cz (h:Hd):Array Value:=h.cells (.slice none 0 0) (.slice none 0 0)
theorem cz_size (h:Hd):(cz h).size=12:=rfl
theorem cz_one (h:Hd):(cz h).all (·.oneCell')=true:=nodeLit h none 0 0 none 0 0
def hd0 (k:Int):Hd:=⟨eS,k,eS,eS,0,0,0,0,0,0⟩
theorem Blk.kind {w:World} {n:Nat} (H:Blk w n (cz (hd0 0)) 25) (k:Int):Blk (w.setCell ⟨n,1,none⟩ (.int .i64 k)) n (cz (hd0 k)) 25:=H.put rfl
theorem Blk.name {w:World} {n:Nat} {h:Hd} (H:Blk w n (cz h) 25) (s:ByteArray):Blk (w.setCell ⟨n,0,none⟩ (.string s)) n (cz { h with name:=s }) 25:=H.put rfl
theorem Blk.data {w:World} {n:Nat} {h:Hd} (H:Blk w n (cz h) 25) (s:ByteArray):Blk (w.setCell ⟨n,2,none⟩ (.string s)) n (cz { h with data:=s }) 25:=H.put rfl
theorem Blk.target {w:World} {n:Nat} {h:Hd} (H:Blk w n (cz h) 25) (s:ByteArray):Blk (w.setCell ⟨n,3,none⟩ (.string s)) n (cz { h with target:=s }) 25:=H.put rfl
def hdN6 (h:Hd) (a b c d e f:Int):Hd:={ h with mode:=a,uid:=b,gid:=c,time:=d,weight:=e,hidden:=f }
theorem Blk.six {w:World} {n:Nat} {h:Hd} (H:Blk w n (cz h) 25) (a b c d e f:Int):Blk ((((((w.setCell ⟨n,4,none⟩ (.int .i64 a)).setCell ⟨n,5,none⟩ (.int .i64 b)).setCell ⟨n,6,none⟩ (.int .i64 c)).setCell ⟨n,7,none⟩ (.int .i64 d)).setCell ⟨n,8,none⟩ (.int .i64 e)).setCell ⟨n,9,none⟩ (.int .i64 f)) n (cz (hdN6 h a b c d e f)) 25:=by
 have h1:Blk (w.setCell ⟨n,4,none⟩ (.int .i64 a)) n (cz { h with mode:=a }) 25:=H.put rfl
 have h2:Blk _ n (cz { h with mode:=a,uid:=b }) 25:=h1.put (j:=5) (v:=.int .i64 b) rfl
 have h3:Blk _ n (cz { h with mode:=a,uid:=b,gid:=c }) 25:=h2.put (j:=6) (v:=.int .i64 c) rfl
 have h4:Blk _ n (cz { h with mode:=a,uid:=b,gid:=c,time:=d }) 25:=h3.put (j:=7) (v:=.int .i64 d) rfl
 have h5:Blk _ n (cz { h with mode:=a,uid:=b,gid:=c,time:=d,weight:=e }) 25:=h4.put (j:=8) (v:=.int .i64 e) rfl
 exact h5.put (j:=9) (v:=.int .i64 f) rfl
def NodA (L:List ByteArray) (w:World) (e:Ending) (w':World):Prop:=∃(h:Hd) (n:Int) (ok:Bool),e=.returned (.tuple #[.agg (cz h),.int .i64 n,.bool ok])∧(ok=true→nodeW L=some (h,n))∧(ok=false→nodeW L=none)∧Below w.heap.size w w'
theorem nod_end {L:List ByteArray} {w W:World} {b2:Nat} {h:Hd} {n:Int} {ok:Bool} (a:Act) (hd:a.defers=[]) (h2:a.tmps.getD 2 undef=.pointer (some ⟨b2,0,none⟩)) (h3:a.tmps.getD 3 undef=.int .i64 n) (h4:a.tmps.getD 4 undef=.bool ok) (hB:Blk W b2 (cz h) 25)
  (hbel:Below w.heap.size w W) (h5:ok=true→nodeW L=some (h,n)) (h6:ok=false→nodeW L=none):bodyPost Tryz.prog Tryz.f99 (NodA L w) .ret a W:=
 bodyPost_ret (results_cell3 Tryz.results99 a.tmps W b2 25 (cz h) (0,0) _ h2 hB _ _ h3 h4 Tryz.underlying25 rfl (infN (cz_size _))) hd ⟨h,n,ok,rfl,h5,h6,hbel⟩
def rd6 (L:List ByteArray) (ns:List Int):Prop:=ns.length≤L.length∧∀j x,L[j]? = some x→j < ns.length→numW x=ns[j]?
theorem rd6_snoc {L:List ByteArray} {ns:List Int} {x:ByteArray} {n:Int} (h:rd6 L ns) (hx:L[ns.length]? = some x) (hn:numW x=some n):rd6 L (ns++[n]):=by
 refine⟨?_,fun j y hy hj=>?_⟩
 ·rw [List.length_append];exact(List.getElem?_eq_some_iff.1 hx).1
 ·rw [List.length_append] at hj
  rcases Nat.lt_or_ge j ns.length with h1 | h1
  ·rw [List.getElem?_append_left h1];exact h.2 j y hy h1
  ·have:j=ns.length:=by simp at hj;omega
   subst this
   rw [hx] at hy
   injection hy with hy
   subst hy
   rw [hn];simp
theorem lit_n {s:ByteArray} {l:List UInt8} (h:s≠⟨l.toArray⟩):(s.toList == l)=false:=beq_eq_false_iff_ne.2 (fun e=>h (ByteArray.ext (Array.toList_inj.1 (by rw [←ByteArray.toList_eq,e]))))
theorem lit_y {s:ByteArray} {l:List UInt8} (h:s=⟨l.toArray⟩):(s.toList == l)=true:=by rw [h,ByteArray.toList_eq];exact beq_self_eq_true _
theorem list_eight {α:Type} {l:List α} (h:8≤l.length):∃a b c d e f g i r,l=a :: b :: c :: d :: e :: f :: g :: i :: r:=by
 match l,h with
 | a :: b :: c :: d :: e :: f :: g :: i :: r,_=>exact⟨a,b,c,d,e,f,g,i,r,rfl⟩
theorem six_list {ns:List Int} (h:ns.length=6):∃a b c d e f,ns=[a,b,c,d,e,f]:=by
 match ns,h with
 | [a,b,c,d,e,f],_=>exact⟨a,b,c,d,e,f,rfl⟩
theorem rnode_any (w0:ByteArray) (ws:List ByteArray) (hsz:∀s∈w0 :: ws,s.size≤100000) (hlen:ws.length≤100000) (lv:Value) (w:World) (hl:SlR w w.heap.size lv (w0 :: ws)):Calls Tryz.prog 99 #[lv] w (NodA (w0 :: ws) w):=by
 obtain⟨A,c,rfl,hc⟩:=hl
 obtain⟨g,o,rfl,hg,hcl⟩:=hc (Nat.succ_pos _)
 have HC:=hide (show ∀W,Below w.heap.size w W→∀j s,(w0 :: ws)[j]? = some s→W.cell? ⟨g,o+j,none⟩=some (.string s) from fun W hb j s hj=>(hb.cell (p:=⟨g,o+j,none⟩) hg).trans (hcl j s hj))
 have BZ:=hide built_zero
 have HSZ:=hide hsz
 obtain⟨n,hn⟩:∃n,(w0 :: ws).length=n:=⟨_,rfl⟩
 have hn1:ws.length+1=n:=hn
 rw [hn]
 clear hc hcl hsz hn
 have HL:Live w []:=trivial
 go_enter Tryz.func99,Tryz.ntmps99
 go_upto_region 1 with fail
 have HR1:=hide (show Blk ((w.alloc (.cells zeroN 25)).alloc (.cells zeroN 25)) w.heap.size zeroN 25 from(Blk.newAt rfl).alloc _)
 have HR2:=hide (show Blk ((w.alloc (.cells zeroN 25)).alloc (.cells zeroN 25)) (w.heap.size+1) zeroN 25 from Blk.newAt (by rw [World.size_alloc]))
 have hbel1:Below w.heap.size w ((w.alloc (.cells zeroN 25)).alloc (.cells zeroN 25)):=((Below.refl _ _).alloc (Nat.le_refl _) _).alloc (by rw [World.size_alloc];omega) _
 unfold zeroN at hbel1 HR1 HR2
 go_upto_region 2 with (first | ((with_reducible show wpList _ _ _ (Oper.mk (some 17) _ _ _ _ _ :: _) _ _);refine wpList_build_is rfl 25 #[] rfl [] (by simp) _ BZ.out ?_) | ((with_reducible show wpList _ _ _ (Oper.mk none _ _ _ _ _ :: _) _ _);refine wpList_store_row rfl 25 (.tmp 5) (.tmp 17) rfl (w.heap.size+1) zeroN rfl rfl 25 zeroN HR2.out (infN rfl) rfl (by kernel_rfl) ?_))
 have key:Blk (((w.alloc (.cells #[.string ⟨#[]⟩,.int .i64 0,.string ⟨#[]⟩,.string ⟨#[]⟩,.int .i64 0,.int .i64 0,.int .i64 0,.int .i64 0,.int .i64 0,.int .i64 0,.slice none 0 0,.slice none 0 0] 25)).alloc (.cells #[.string ⟨#[]⟩,.int .i64 0,.string ⟨#[]⟩,.string ⟨#[]⟩,.int .i64 0,.int .i64 0,.int .i64 0,.int .i64 0,.int .i64 0,.int .i64 0,.slice none 0 0,.slice none 0 0] 25)).setRow (w.heap.size+1) zeroN) (w.heap.size+1) (cz (hd0 0)) 25∧Blk (((w.alloc (.cells #[.string ⟨#[]⟩,.int .i64 0,.string ⟨#[]⟩,.string ⟨#[]⟩,.int .i64 0,.int .i64 0,.int .i64 0,.int .i64 0,.int .i64 0,.int .i64 0,.slice none 0 0,.slice none 0 0] 25)).alloc (.cells #[.string ⟨#[]⟩,.int .i64 0,.string ⟨#[]⟩,.string ⟨#[]⟩,.int .i64 0,.int .i64 0,.int .i64 0,.int .i64 0,.int .i64 0,.int .i64 0,.slice none 0 0,.slice none 0 0] 25)).setRow (w.heap.size+1) zeroN) w.heap.size zeroN 25∧Below w.heap.size w (((w.alloc (.cells #[.string ⟨#[]⟩,.int .i64 0,.string ⟨#[]⟩,.string ⟨#[]⟩,.int .i64 0,.int .i64 0,.int .i64 0,.int .i64 0,.int .i64 0,.int .i64 0,.slice none 0 0,.slice none 0 0] 25)).alloc (.cells #[.string ⟨#[]⟩,.int .i64 0,.string ⟨#[]⟩,.string ⟨#[]⟩,.int .i64 0,.int .i64 0,.int .i64 0,.int .i64 0,.int .i64 0,.int .i64 0,.slice none 0 0,.slice none 0 0] 25)).setRow (w.heap.size+1) zeroN):=
  ⟨setRow_heap _ _ _ _ _ _ HR2.out,(FrO.setRow (O:=fun j=>j=w.heap.size+1) rfl).blk HR1.out (by omega),hbel1.trans ((FrO.setRow (O:=fun j=>j=w.heap.size+1) rfl).below hbel1.size fun j hj=>by omega)⟩
 obtain⟨W2,hW2⟩:∃W2,W2=((w.alloc (.cells #[.string ⟨#[]⟩,.int .i64 0,.string ⟨#[]⟩,.string ⟨#[]⟩,.int .i64 0,.int .i64 0,.int .i64 0,.int .i64 0,.int .i64 0,.int .i64 0,.slice none 0 0,.slice none 0 0] 25)).alloc (.cells #[.string ⟨#[]⟩,.int .i64 0,.string ⟨#[]⟩,.string ⟨#[]⟩,.int .i64 0,.int .i64 0,.int .i64 0,.int .i64 0,.int .i64 0,.int .i64 0,.slice none 0 0,.slice none 0 0] 25)).setRow (w.heap.size+1) zeroN:=⟨_,rfl⟩
 rw [←hW2] at key ⊢
 obtain⟨nb,hnbe⟩:∃b,b=w.heap.size+1:=⟨_,rfl⟩
 obtain⟨b2,hb2e⟩:∃b,b=w.heap.size:=⟨_,rfl⟩
 rw [←hnbe] at key ⊢
 obtain⟨hkn,hkb,hbel2⟩:=key
 rw [←hb2e] at hkb ⊢
 have hb2:w.heap.size≤b2∧w.heap.size≤nb∧nb≠b2∧b2≠nb∧g≠nb∧g≠b2:=by omega
 have HKN:=hide hkn
 have HKB:=hide hkb
 clear hW2 hnbe hb2e HR1 HR2 hbel1 hkn hkb
 have c0:W2.cell? ⟨g,o,none⟩=some (.string w0):=HC.out W2 hbel2 0 w0 rfl
 go_upto_block 0 with fail
 clear c0
 have k1:W2.cell? ⟨nb,1,none⟩=some (.int .i64 0):=HKN.out.cells 1
 have k1f:W2.frozen? ⟨nb,1,none⟩=false:=HKN.out.free 1
 go_cut [6] (fun v wx=>∃(κ m:Nat),v=.int .i64 (m:Int)∧kindOf w0=(κ:Int)∧((κ=0∧m=9)∨((κ=1∨κ=2)∧m=10))∧Below w.heap.size w wx∧Blk wx nb (cz (hd0 κ)) 25∧Blk wx b2 zeroN 25)
 case first=>
  by_cases e1:w0=wFile
  ·have q1:=lit_y (l:=[102,105,108,101]) e1
   have HK:=hide (show kindOf w0=((1:Nat):Int) by rw [e1];rfl)
   clear e1
   go_wp2_with fail
   go_meet
   exact⟨1,10,rfl,HK.out,Or.inr ⟨Or.inl rfl,rfl⟩,hbel2.setCell hb2.2.1 _,HKN.out.kind 1,HKB.out.other hb2.2.2.2.1⟩
  ·have q1:=lit_n (l:=[102,105,108,101]) e1
   by_cases e2:w0=wLink
   ·have q2:=lit_y (l:=[115,121,109,108,105,110,107]) e2
    have HK:=hide (show kindOf w0=((2:Nat):Int) by rw [e2];rfl)
    clear e1 e2
    go_wp2_with fail
    go_meet
    exact⟨2,10,rfl,HK.out,Or.inr ⟨Or.inr rfl,rfl⟩,hbel2.setCell hb2.2.1 _,HKN.out.kind 2,HKB.out.other hb2.2.2.2.1⟩
   ·have q2:=lit_n (l:=[115,121,109,108,105,110,107]) e2
    by_cases e3:w0=wDir
    ·have q3:=lit_y (l:=[100,105,114,101,99,116,111,114,121]) e3
     have HK:=hide (show kindOf w0=((0:Nat):Int) by rw [e3];rfl)
     clear e1 e2 e3
     go_wp2_with fail
     go_meet
     exact⟨0,9,rfl,HK.out,Or.inl ⟨rfl,rfl⟩,hbel2,HKN.out,HKB.out⟩
    ·have q3:=lit_n (l:=[100,105,114,101,99,116,111,114,121]) e3
     have HNO:=hide (show nodeW (w0 :: ws)=none from nodeW_other e3 e1 e2)
     clear e1 e2 e3
     go_wp2_with (first | ((with_reducible show wpList _ _ _ (Oper.mk (some 21) _ _ _ _ _ :: _) _ _);refine wpList_load_row rfl 25 (.tmp 5) rfl nb rfl 25 (cz (hd0 0)) (0,0) _ HKN.out Tryz.underlying25 rfl (infN (cz_size _)) ?_) | ((with_reducible show wpList _ _ _ (Oper.mk none _ _ _ _ _ :: _) _ _);refine wpList_store_row rfl 25 (.tmp 2) (.tmp 21) rfl b2 (cz (hd0 0)) rfl rfl 25 zeroN HKB.out (infN (cz_size _)) (by rw [cz_size];rfl) (cz_one _) ?_))
     refine nod_end (ok:=false) (n:=0) _ ?_ ?_ ?_ ?_ (setRow_heap _ _ _ _ _ _ HKB.out) ((hbel2).trans ((FrO.setRow (O:=fun j=>j=b2) rfl).below (Below.size hbel2) fun j hj=>by subst hj;exact hb2.1)) (fun h=>Bool.noConfusion h) (fun _=>HNO.out) <;> rfl
 case rest=>
 obtain⟨κ,m,rfl,hκ,hm,hbel3,hkn,hkb⟩:=hcut
 clear HKN HKB hbel2 k1 k1f
 have HKN:=hide hkn
 have HKB:=hide hkb
 have HK:=hide hκ
 have HM:=hide hm
 have hm10:9≤m∧m≤10:=by omega
 have hwsl:(ws.length+1=m)=(n=m):=by rw [hn1]
 clear hkn hkb hκ hm
 by_cases hl:n=m
 case neg=>
  have hq:((n:Int) != (m:Int))=true:=by simp;omega
  have HNO:=hide (show nodeW (w0 :: ws)=none from nodeW_len (by have:=HM.out;have:=HK.out;omega))
  clear hl hwsl
  go_wp2_with (first | ((with_reducible show wpList _ _ _ (Oper.mk (some 34) _ _ _ _ _ :: _) _ _);refine wpList_load_row rfl 25 (.tmp 5) rfl nb rfl 25 (cz (hd0 κ)) (0,0) _ HKN.out Tryz.underlying25 rfl (infN (cz_size _)) ?_) | ((with_reducible show wpList _ _ _ (Oper.mk none _ _ _ _ _ :: _) _ _);refine wpList_store_row rfl 25 (.tmp 2) (.tmp 34) rfl b2 (cz (hd0 κ)) rfl rfl 25 zeroN HKB.out (infN (cz_size _)) (by rw [cz_size];rfl) (cz_one _) ?_))
  refine nod_end (ok:=false) (n:=0) _ ?_ ?_ ?_ ?_ (setRow_heap _ _ _ _ _ _ HKB.out) ((hbel3).trans ((FrO.setRow (O:=fun j=>j=b2) rfl).below (Below.size hbel3) fun j hj=>by subst hj;exact hb2.1)) (fun h=>Bool.noConfusion h) (fun _=>HNO.out) <;> rfl
 case pos=>
 have HNM:=hide hl
 have hq:((n:Int) != (m:Int))=false:=by simp;omega
 obtain⟨wl,wn,a,b,c',d,e',f,R,hws⟩:=list_eight (l:=ws) (by omega)
 have hRl:R.length+9=m:=by
  have:=congrArg List.length hws
  simp only [List.length_cons] at this
  omega
 have HRL:=hide hRl
 have hn9:9≤n:=by omega
 have zl:wl.size≤100000:=HSZ.out wl (by rw [hws];simp)
 have zn:wn.size≤100000:=HSZ.out wn (by rw [hws];simp)
 have HW1:=hide (show(w0 :: ws)[1]? = some wl∧(w0 :: ws)[2]? = some wn∧(∀j x,[a,b,c',d,e',f][j]? = some x→(w0 :: ws)[j+3]? = some x) by
  rw [hws]
  exact⟨rfl,rfl,fun j x hj=>by
   match j,hj with
   | 0,hj=>exact hj
   | 1,hj=>exact hj
   | 2,hj=>exact hj
   | 3,hj=>exact hj
   | 4,hj=>exact hj
   | 5,hj=>exact hj
   | _+6,hj=>simp at hj⟩)
 have HHN:=hide (show(numW wl=none∨unword wn=none∨∃x∈[a,b,c',d,e',f],numW x=none)→nodeW (w0 :: ws)=none from fun h=>by
  rw [hws]
  exact nodeW_none (by have:=HK.out;have:=HM.out;omega) (headW_none h))
 have HHS:=hide (fun (n0 n1 n2 n3 n4 n5 l:Int) (nm:ByteArray)=>headW_some (wl:=wl) (wn:=wn) (a:=a) (b:=b) (c:=c') (d:=d) (e:=e') (f:=f) (r:=R) (n0:=n0) (n1:=n1) (n2:=n2) (n3:=n3) (n4:=n4) (n5:=n5) (l:=l) (nm:=nm))
 have HWS:=hide hws
 clear hl hwsl hws hRl
 have c1:wc.cell? ⟨g,o+1,none⟩=some (.string wl):=HC.out wc hbel3 1 wl HW1.out.1
 have HB3:=hide hbel3
 have NU:=hide (fun W=>rnumber_any wl (by omega) W)
 go_upto_region 15 with (go_at_call 139;refine(NU.out _).mono ?_;rintro e w4 ⟨l1,ok1,rfl,hy1,hx1,hb4⟩)
 have hbel4:=HB3.out.trans (hb4.mono HB3.out.size)
 have HN4:=hide (Blk.below hb4 HKN.out)
 have HR4:=hide (Blk.below hb4 HKB.out)
 have c2:w4.cell? ⟨g,o+2,none⟩=some (.string wn):=HC.out w4 hbel4 2 wn HW1.out.2.1
 have HB4:=hide hbel4
 have UW:=hide (fun W=>runword_any wn (by omega) W)
 have HY1:=hide hy1
 have HX1:=hide hx1
 clear c1 hbel3 hb4 hbel4 HKN HKB HB3 hy1 hx1
 go_upto_region 16 with (go_at_call 97;refine(UW.out _).mono ?_;rintro e w5 ⟨nm,ok2,rfl,hy2,hx2,hb5⟩)
 have hbel5:=HB4.out.trans (hb5.mono HB4.out.size)
 have HN5:=hide (Blk.below hb5 HN4.out)
 have HR5:=hide (Blk.below hb5 HR4.out)
 have HY2:=hide hy2
 have HX2:=hide hx2
 have HB5:=hide hbel5
 clear c2 hb5 HN4 HR4 HB4 hy2 hx2 NU UW hbel5
 cases ok1
 case false=>
  have HNO:=hide (HHN.out (Or.inl (HX1.out rfl)))
  go_wp2_with (first | ((with_reducible show wpList _ _ _ (Oper.mk (some 55) _ _ _ _ _ :: _) _ _);refine wpList_load_row rfl 25 (.tmp 5) rfl nb rfl 25 (cz (hd0 κ)) (0,0) _ HN5.out Tryz.underlying25 rfl (infN (cz_size _)) ?_) | ((with_reducible show wpList _ _ _ (Oper.mk none _ _ _ _ _ :: _) _ _);refine wpList_store_row rfl 25 (.tmp 2) (.tmp 55) rfl b2 (cz (hd0 κ)) rfl rfl 25 zeroN HR5.out (infN (cz_size _)) (by rw [cz_size];rfl) (cz_one _) ?_))
  refine nod_end (ok:=false) (n:=0) _ ?_ ?_ ?_ ?_ (setRow_heap _ _ _ _ _ _ HR5.out) ((HB5.out).trans ((FrO.setRow (O:=fun j=>j=b2) rfl).below (Below.size HB5.out) fun j hj=>by subst hj;exact hb2.1)) (fun h=>Bool.noConfusion h) (fun _=>HNO.out) <;> rfl
 case true=>
 cases ok2
 case false=>
  have HNO:=hide (HHN.out (Or.inr (Or.inl (HX2.out rfl))))
  go_wp2_with (first | ((with_reducible show wpList _ _ _ (Oper.mk (some 55) _ _ _ _ _ :: _) _ _);refine wpList_load_row rfl 25 (.tmp 5) rfl nb rfl 25 (cz (hd0 κ)) (0,0) _ HN5.out Tryz.underlying25 rfl (infN (cz_size _)) ?_) | ((with_reducible show wpList _ _ _ (Oper.mk none _ _ _ _ _ :: _) _ _);refine wpList_store_row rfl 25 (.tmp 2) (.tmp 55) rfl b2 (cz (hd0 κ)) rfl rfl 25 zeroN HR5.out (infN (cz_size _)) (by rw [cz_size];rfl) (cz_one _) ?_))
  refine nod_end (ok:=false) (n:=0) _ ?_ ?_ ?_ ?_ (setRow_heap _ _ _ _ _ _ HR5.out) ((HB5.out).trans ((FrO.setRow (O:=fun j=>j=b2) rfl).below (Below.size HB5.out) fun j hj=>by subst hj;exact hb2.1)) (fun h=>Bool.noConfusion h) (fun _=>HNO.out) <;> rfl
 case true=>
 have HL1:=hide (HY1.out rfl)
 have HL2:=hide (HY2.out rfl)
 clear HY1 HY2 HX1 HX2
 have k0:w5.cell? ⟨nb,0,none⟩=some (.string (hd0 κ).name):=HN5.out.cells 0
 have k0f:w5.frozen? ⟨nb,0,none⟩=false:=HN5.out.free 0
 go_upto_region 20 with fail
 clear k0 k0f
 have HN6:=hide ((HN5.out.name nm).alloc (.cells #[] 3))
 have HR6:=hide ((HR5.out.other (v:=.string nm) (j:=0) hb2.2.2.2.1).alloc (.cells #[] 3))
 have hbel6:=(HB5.out.setCell (p:=⟨nb,0,none⟩) hb2.2.1 (.string nm)).alloc (by rw [World.size_setCell];exact HB5.out.size) (.cells #[] 3)
 have HO6:=hide (show((w5.setCell ⟨nb,0,none⟩ (.string nm)).alloc (.cells #[] 3)).ownsRow w5.heap.size 3 1 (.slice (some ⟨w5.heap.size,0,none⟩) 0 0) 0 [] from by
  have h:=World.ownsRow_lit (w5.setCell ⟨nb,0,none⟩ (.string nm)) (e:=3) (size:=1) #[] 0 (Nat.le_refl _) (by decide) rfl
  rwa [World.size_setCell] at h)
 have hz6:((w5.setCell ⟨nb,0,none⟩ (.string nm)).alloc (.cells #[] 3)).heap.size=w5.heap.size+1:=by rw [World.size_alloc,World.size_setCell]
 have hlo:w.heap.size≤w5.heap.size∧nb < w5.heap.size∧b2 < w5.heap.size:=⟨HB5.out.size,HN5.out.lt,HR5.out.lt⟩
 obtain⟨W6,hW6⟩:∃W6,W6=(w5.setCell ⟨nb,0,none⟩ (.string nm)).alloc (.cells #[] 3):=⟨_,rfl⟩
 rw [←hW6] at HN6 HR6 hbel6 HO6 hz6 ⊢
 have hz56:(w5.setCell ⟨nb,0,none⟩ (.string nm)).heap.size=w5.heap.size:=World.size_setCell ..
 (try rw [hz56])
 obtain⟨lo,hloe⟩:∃lo,lo=w5.heap.size:=⟨_,rfl⟩
 rw [←hloe] at HO6 hz6 hlo ⊢
 have HB6:=hide hbel6
 clear hW6 hloe hz56 hbel6 HN5 HR5 HB5
 have HLO:=hide (show lo≤W6.heap.size by omega)
 clear hz6
 go_wp2_with fail
 go_loopw [11,12] (fun v i wr=>∃(q:Nat) (ns:List Int),i=.int .i64 (q:Int)∧(3≤q∧q≤9)∧Hid (ns.length+3=q)∧rd6 [a,b,c',d,e',f] ns∧wr.ownsRow lo 3 1 v ns.length (ns.map (Value.int .i64))∧Below lo W6 wr) (fun _ i _=>9 - (intOf i).toNat)
 case atStart=>exact⟨3,[],rfl,⟨by omega,by omega⟩,hide rfl,⟨by simp,fun j x _ h=>absurd h (Nat.not_lt_zero _)⟩,HO6.out,Below.refl _ _⟩
 case round=>
  clear HO6
  obtain⟨q,ns,rfl,hq9,HQ,hrd,hown,hb67⟩:=hrel
  rename_i wr
  have HRD:=hide hrd
  have HO:=hide hown
  have hbelr:Below w.heap.size w wr:=HB6.out.trans (hb67.mono hlo.1)
  have HBR:=hide hbelr
  have HLR:=hide (Nat.le_trans HLO.out hb67.size)
  have HNr:=hide (show Blk wr nb (cz { hd0 κ with name:=nm }) 25 from(hb67.block nb hlo.2.1).trans HN6.out)
  have HRr:=hide (show Blk wr b2 zeroN 25 from(hb67.block b2 hlo.2.2).trans HR6.out)
  have HB67:=hide hb67
  clear hrd hown hb67 hbelr
  by_cases hlt:q < 9
  case pos=>
   obtain⟨x,hx⟩:∃x,[a,b,c',d,e',f][ns.length]? = some x:=⟨_,List.getElem?_eq_getElem (by have:=HQ.out;simp;omega)⟩
   have HX:=hide hx
   have hxq:(w0 :: ws)[q]? = some x:=by rw [←HQ.out];exact HW1.out.2.2 _ _ hx
   have zx:x.size≤100000:=HSZ.out x (List.mem_of_getElem? hxq)
   have cq:wr.cell? ⟨g,o+q,none⟩=some (.string x):=HC.out wr HBR.out q x hxq
   have NX:=hide (fun W=>rnumber_any x (by omega) W)
   have hnsl:ns.length≤6:=by have:=HQ.out;omega
   clear hx hxq
   go_upto_region 24 with (go_at_call 139;refine(NX.out _).mono ?_;rintro e w7 ⟨n7,ok7,rfl,hy7,hx7,hb7⟩)
   have HN7:=hide (Blk.below hb7 HNr.out)
   have HR7:=hide (Blk.below hb7 HRr.out)
   have HB7:=hide (HBR.out.trans (hb7.mono HBR.out.size))
   cases ok7
   case false=>
    have HNO:=hide (HHN.out (Or.inr (Or.inr ⟨x,List.mem_of_getElem? HX.out,hx7 rfl⟩)))
    clear hy7 hx7 hb7 cq
    go_wp2_with (first | ((with_reducible show wpList _ _ _ (Oper.mk (some 73) _ _ _ _ _ :: _) _ _);refine wpList_load_row rfl 25 (.tmp 5) rfl nb rfl 25 (cz { hd0 κ with name:=nm }) (0,0) _ HN7.out Tryz.underlying25 rfl (infN (cz_size _)) ?_) | ((with_reducible show wpList _ _ _ (Oper.mk none _ _ _ _ _ :: _) _ _);refine wpList_store_row rfl 25 (.tmp 2) (.tmp 73) rfl b2 (cz { hd0 κ with name:=nm }) rfl rfl 25 zeroN HR7.out (infN (cz_size _)) (by rw [cz_size];rfl) (cz_one _) ?_))
    refine nod_end (ok:=false) (n:=0) _ ?_ ?_ ?_ ?_ (setRow_heap _ _ _ _ _ _ HR7.out) ((HB7.out).trans ((FrO.setRow (O:=fun j=>j=b2) rfl).below (Below.size HB7.out) fun j hj=>by subst hj;exact hb2.1)) (fun h=>Bool.noConfusion h) (fun _=>HNO.out) <;> rfl
   case true=>
   have HY7:=hide (rd6_snoc HRD.out HX.out (hy7 rfl))
   have HO7:=hide (below_row' HO.out hb7)
   have HB8:=hide (HB67.out.trans (hb7.mono HLR.out))
   have hlr7:lo≤w7.heap.size:=Nat.le_trans HLR.out hb7.size
   clear hy7 hx7 hb7 cq HNr HRr HBR HO HB67
   go_wp2_with (at_builtin;refine wpList_append_one _ rfl _ _ 58 rfl lo 3 intInfoN Tryz.underlying58 rfl (by decide) _ _ _ HO7.out #[.int .i64 n7] rfl rfl rfl (by simp [Value.oneCell']) (by unfold maxLen;omega) (by omega) (by omega) ?_;intro v2 w8 hown8 hb8 hot8 hz8)
   go_roundw
   case rel=>exact⟨q+1,ns++[n7],by go_num,⟨by omega,by omega⟩,hide (by rw [List.length_append];have:=HQ.out;show ns.length+1+3=q+1;omega),HY7.out,by rw [List.length_append,List.map_append];exact hown8,HB8.out.trans hb8⟩
   case measure=>simp [intOf];omega
  case neg=>
  obtain rfl:q=9:=by omega
  obtain⟨n0,n1,n2,n3,n4,n5,rfl⟩:=six_list (ns:=ns) (by have:=HQ.out;omega)
  obtain⟨gv,cap,hve,hgv,hgl,-,hcv⟩:=own_at HO.out (by simp)
  have d0:wr.cell? ⟨gv,0,none⟩=some (.int .i64 n0):=hcv 0 _ rfl
  have d1:wr.cell? ⟨gv,1,none⟩=some (.int .i64 n1):=hcv 1 _ rfl
  have d2:wr.cell? ⟨gv,2,none⟩=some (.int .i64 n2):=hcv 2 _ rfl
  have d3:wr.cell? ⟨gv,3,none⟩=some (.int .i64 n3):=hcv 3 _ rfl
  have d4:wr.cell? ⟨gv,4,none⟩=some (.int .i64 n4):=hcv 4 _ rfl
  have d5:wr.cell? ⟨gv,5,none⟩=some (.int .i64 n5):=hcv 5 _ rfl
  subst hve
  have hgn:gv≠nb∧gv≠b2:=by omega
  have HHD:=hide (show headW (wl :: wn :: a :: b :: c' :: d :: e' :: f :: R)=some (l1,⟨nm,0,eS,eS,n0,n1,n2,n3,n4,n5⟩,R) from HHS.out n0 n1 n2 n3 n4 n5 l1 nm HL1.out HL2.out (HRD.out.2 0 _ rfl (by simp)) (HRD.out.2 1 _ rfl (by simp)) (HRD.out.2 2 _ rfl (by simp)) (HRD.out.2 3 _ rfl (by simp)) (HRD.out.2 4 _ rfl (by simp)) (HRD.out.2 5 _ rfl (by simp)))
  clear hcv HO HQ HRD HHS HB67 hlt
  go_upto_region 27 with fail
  have f4:wr.cell? ⟨nb,4,none⟩=some (.int .i64 0)∧wr.cell? ⟨nb,5,none⟩=some (.int .i64 0)∧wr.cell? ⟨nb,6,none⟩=some (.int .i64 0)∧wr.cell? ⟨nb,7,none⟩=some (.int .i64 0)∧wr.cell? ⟨nb,8,none⟩=some (.int .i64 0)∧wr.cell? ⟨nb,9,none⟩=some (.int .i64 0):=⟨HNr.out.cells 4,HNr.out.cells 5,HNr.out.cells 6,HNr.out.cells 7,HNr.out.cells 8,HNr.out.cells 9⟩
  have f9:wr.frozen? ⟨nb,4,none⟩=false∧wr.frozen? ⟨nb,5,none⟩=false∧wr.frozen? ⟨nb,6,none⟩=false∧wr.frozen? ⟨nb,7,none⟩=false∧wr.frozen? ⟨nb,8,none⟩=false∧wr.frozen? ⟨nb,9,none⟩=false:=⟨HNr.out.free 4,HNr.out.free 5,HNr.out.free 6,HNr.out.free 7,HNr.out.free 8,HNr.out.free 9⟩
  have hkeep0:wr.cell? ⟨gv,0,none⟩=some (.int .i64 n0)∧wr.cell? ⟨gv,1,none⟩=some (.int .i64 n1)∧wr.cell? ⟨gv,2,none⟩=some (.int .i64 n2)∧wr.cell? ⟨gv,3,none⟩=some (.int .i64 n3)∧wr.cell? ⟨gv,4,none⟩=some (.int .i64 n4)∧wr.cell? ⟨gv,5,none⟩=some (.int .i64 n5):=⟨d0,d1,d2,d3,d4,d5⟩
  have hkeepd:wr.drew.cell? ⟨gv,0,none⟩=some (.int .i64 n0)∧wr.drew.cell? ⟨gv,1,none⟩=some (.int .i64 n1)∧wr.drew.cell? ⟨gv,2,none⟩=some (.int .i64 n2)∧wr.drew.cell? ⟨gv,3,none⟩=some (.int .i64 n3)∧wr.drew.cell? ⟨gv,4,none⟩=some (.int .i64 n4)∧wr.drew.cell? ⟨gv,5,none⟩=some (.int .i64 n5):=⟨d0,d1,d2,d3,d4,d5⟩
  refine wp_region_noPanic ?_
  refine wp_region_held_drew (S:=(fun z=>z.cell? ⟨gv,0,none⟩=some (.int .i64 n0)∧z.cell? ⟨gv,1,none⟩=some (.int .i64 n1)∧z.cell? ⟨gv,2,none⟩=some (.int .i64 n2)∧z.cell? ⟨gv,3,none⟩=some (.int .i64 n3)∧z.cell? ⟨gv,4,none⟩=some (.int .i64 n4)∧z.cell? ⟨gv,5,none⟩=some (.int .i64 n5))) (by kernel_rfl) kp (fun hHeld=>?_)
  refine tkZ 0 ⟨some 78,.move (.tmp 11),58, "ref.go:497",#[],none⟩ ?_
  refine tkZ 1 ⟨some 79,.indexAddr 58 (.tmp 78) (.const (.int .i64 0)),0, "ref.go:497",#[⟨0,.data⟩],none⟩ ?_
  refine tkZ 2 ⟨some 80,.load 3 (.tmp 79),3, "ref.go:497",#[⟨1,.data⟩],none⟩ ?_ (by intro w hSw;(try dsimp only at hSw);have c1:=hSw.1;go_simp;(try with_reducible rfl))
  refine tkZ 3 ⟨some 81,.move (.tmp 11),58, "ref.go:497",#[⟨19,.gcOnly .lateStores⟩],none⟩ ?_
  refine tkZ 4 ⟨some 82,.indexAddr 58 (.tmp 81) (.const (.int .i64 1)),0, "ref.go:497",#[⟨3,.data⟩,⟨19,.gcOnly .lateStores⟩],none⟩ ?_
  refine tkZ 5 ⟨some 83,.load 3 (.tmp 82),3, "ref.go:497",#[⟨4,.data⟩,⟨19,.gcOnly .lateStores⟩],none⟩ ?_ (by intro w hSw;(try dsimp only at hSw);have c1:=hSw.2.1;go_simp;(try with_reducible rfl))
  refine tkZ 6 ⟨some 84,.move (.tmp 11),58, "ref.go:497",#[⟨21,.gcOnly .lateStores⟩],none⟩ ?_
  refine tkZ 7 ⟨some 85,.indexAddr 58 (.tmp 84) (.const (.int .i64 2)),0, "ref.go:497",#[⟨6,.data⟩,⟨21,.gcOnly .lateStores⟩],none⟩ ?_
  refine tkZ 8 ⟨some 86,.load 3 (.tmp 85),3, "ref.go:497",#[⟨7,.data⟩,⟨21,.gcOnly .lateStores⟩],none⟩ ?_ (by intro w hSw;(try dsimp only at hSw);have c1:=hSw.2.2.1;go_simp;(try with_reducible rfl))
  refine tkZ 9 ⟨some 87,.move (.tmp 11),58, "ref.go:497",#[⟨23,.gcOnly .lateStores⟩],none⟩ ?_
  refine tkZ 10 ⟨some 88,.indexAddr 58 (.tmp 87) (.const (.int .i64 3)),0, "ref.go:497",#[⟨9,.data⟩,⟨23,.gcOnly .lateStores⟩],none⟩ ?_
  refine tkZ 11 ⟨some 89,.load 3 (.tmp 88),3, "ref.go:497",#[⟨10,.data⟩,⟨23,.gcOnly .lateStores⟩],none⟩ ?_ (by intro w hSw;(try dsimp only at hSw);have c1:=hSw.2.2.2.1;go_simp;(try with_reducible rfl))
  refine tkZ 12 ⟨some 90,.move (.tmp 11),58, "ref.go:497",#[⟨25,.gcOnly .lateStores⟩],none⟩ ?_
  refine tkZ 13 ⟨some 91,.indexAddr 58 (.tmp 90) (.const (.int .i64 4)),0, "ref.go:497",#[⟨12,.data⟩,⟨25,.gcOnly .lateStores⟩],none⟩ ?_
  refine tkZ 14 ⟨some 92,.load 3 (.tmp 91),3, "ref.go:497",#[⟨13,.data⟩,⟨25,.gcOnly .lateStores⟩],none⟩ ?_ (by intro w hSw;(try dsimp only at hSw);have c1:=hSw.2.2.2.2.1;go_simp;(try with_reducible rfl))
  refine tkZ 15 ⟨some 93,.move (.tmp 11),58, "ref.go:497",#[⟨27,.gcOnly .lateStores⟩],none⟩ ?_
  refine tkZ 16 ⟨some 94,.indexAddr 58 (.tmp 93) (.const (.int .i64 5)),0, "ref.go:497",#[⟨15,.data⟩,⟨27,.gcOnly .lateStores⟩],none⟩ ?_
  refine tkZ 17 ⟨some 95,.load 3 (.tmp 94),3, "ref.go:497",#[⟨16,.data⟩,⟨27,.gcOnly .lateStores⟩],none⟩ ?_ (by intro w hSw;(try dsimp only at hSw);have c1:=hSw.2.2.2.2.2;go_simp;(try with_reducible rfl))
  refine tkZ 18 ⟨some 96,.fieldAddr 25 (.tmp 5) 4,0, "ref.go:497",#[⟨0,.phase⟩,⟨1,.phase⟩,⟨2,.phase⟩,⟨3,.textOnly .lateStores⟩,⟨4,.textOnly .lateStores⟩,⟨5,.textOnly .lateStores⟩,⟨6,.textOnly .lateStores⟩,⟨7,.textOnly .lateStores⟩,⟨8,.textOnly .lateStores⟩,⟨9,.textOnly .lateStores⟩,⟨10,.textOnly .lateStores⟩,⟨11,.textOnly .lateStores⟩,⟨12,.textOnly .lateStores⟩,⟨13,.textOnly .lateStores⟩,⟨14,.textOnly .lateStores⟩,⟨15,.textOnly .lateStores⟩,⟨16,.textOnly .lateStores⟩,⟨17,.textOnly .lateStores⟩],none⟩ ?_
  refine rqS [19] (rqC ⟨none,.store 3 (.tmp 96) (.tmp 80),0, "ref.go:497",#[⟨18,.data⟩,⟨2,.data⟩,⟨0,.phase⟩,⟨1,.phase⟩,⟨2,.phase⟩,⟨3,.textOnly .lateStores⟩,⟨4,.textOnly .lateStores⟩,⟨5,.textOnly .lateStores⟩,⟨6,.textOnly .lateStores⟩,⟨7,.textOnly .lateStores⟩,⟨8,.textOnly .lateStores⟩,⟨9,.textOnly .lateStores⟩,⟨10,.textOnly .lateStores⟩,⟨11,.textOnly .lateStores⟩,⟨12,.textOnly .lateStores⟩,⟨13,.textOnly .lateStores⟩,⟨14,.textOnly .lateStores⟩,⟨15,.textOnly .lateStores⟩,⟨16,.textOnly .lateStores⟩,⟨17,.textOnly .lateStores⟩],none⟩ (fun K hK=>?_) rq0)
  go_simp
  refine hK.out _ _ kp (fun hHeld=>?_)
  clear hK K
  try simp only [PT]
  refine tkZ 20 ⟨some 97,.fieldAddr 25 (.tmp 5) 5,0, "ref.go:497",#[⟨0,.phase⟩,⟨1,.phase⟩,⟨2,.phase⟩,⟨3,.phase⟩,⟨4,.phase⟩,⟨5,.phase⟩,⟨6,.textOnly .lateStores⟩,⟨7,.textOnly .lateStores⟩,⟨8,.textOnly .lateStores⟩,⟨9,.textOnly .lateStores⟩,⟨10,.textOnly .lateStores⟩,⟨11,.textOnly .lateStores⟩,⟨12,.textOnly .lateStores⟩,⟨13,.textOnly .lateStores⟩,⟨14,.textOnly .lateStores⟩,⟨15,.textOnly .lateStores⟩,⟨16,.textOnly .lateStores⟩,⟨17,.textOnly .lateStores⟩,⟨18,.phase⟩,⟨19,.phase⟩],none⟩ ?_
  refine rqS [21] (rqC ⟨none,.store 3 (.tmp 97) (.tmp 83),0, "ref.go:497",#[⟨20,.data⟩,⟨5,.data⟩,⟨19,.chain⟩,⟨0,.phase⟩,⟨1,.phase⟩,⟨2,.phase⟩,⟨3,.phase⟩,⟨4,.phase⟩,⟨5,.phase⟩,⟨6,.textOnly .lateStores⟩,⟨7,.textOnly .lateStores⟩,⟨8,.textOnly .lateStores⟩,⟨9,.textOnly .lateStores⟩,⟨10,.textOnly .lateStores⟩,⟨11,.textOnly .lateStores⟩,⟨12,.textOnly .lateStores⟩,⟨13,.textOnly .lateStores⟩,⟨14,.textOnly .lateStores⟩,⟨15,.textOnly .lateStores⟩,⟨16,.textOnly .lateStores⟩,⟨17,.textOnly .lateStores⟩,⟨18,.phase⟩,⟨19,.phase⟩],none⟩ (fun K hK=>?_) rq0)
  go_simp
  refine hK.out _ _ kp (fun hHeld=>?_)
  clear hK K
  try simp only [PT]
  refine tkZ 22 ⟨some 98,.fieldAddr 25 (.tmp 5) 6,0, "ref.go:497",#[⟨0,.phase⟩,⟨1,.phase⟩,⟨2,.phase⟩,⟨3,.phase⟩,⟨4,.phase⟩,⟨5,.phase⟩,⟨6,.phase⟩,⟨7,.phase⟩,⟨8,.phase⟩,⟨9,.textOnly .lateStores⟩,⟨10,.textOnly .lateStores⟩,⟨11,.textOnly .lateStores⟩,⟨12,.textOnly .lateStores⟩,⟨13,.textOnly .lateStores⟩,⟨14,.textOnly .lateStores⟩,⟨15,.textOnly .lateStores⟩,⟨16,.textOnly .lateStores⟩,⟨17,.textOnly .lateStores⟩,⟨18,.phase⟩,⟨19,.phase⟩,⟨20,.phase⟩,⟨21,.phase⟩],none⟩ ?_
  refine rqS [23] (rqC ⟨none,.store 3 (.tmp 98) (.tmp 86),0, "ref.go:497",#[⟨22,.data⟩,⟨8,.data⟩,⟨21,.chain⟩,⟨0,.phase⟩,⟨1,.phase⟩,⟨2,.phase⟩,⟨3,.phase⟩,⟨4,.phase⟩,⟨5,.phase⟩,⟨6,.phase⟩,⟨7,.phase⟩,⟨8,.phase⟩,⟨9,.textOnly .lateStores⟩,⟨10,.textOnly .lateStores⟩,⟨11,.textOnly .lateStores⟩,⟨12,.textOnly .lateStores⟩,⟨13,.textOnly .lateStores⟩,⟨14,.textOnly .lateStores⟩,⟨15,.textOnly .lateStores⟩,⟨16,.textOnly .lateStores⟩,⟨17,.textOnly .lateStores⟩,⟨18,.phase⟩,⟨19,.phase⟩,⟨20,.phase⟩,⟨21,.phase⟩],none⟩ (fun K hK=>?_) rq0)
  go_simp
  refine hK.out _ _ kp (fun hHeld=>?_)
  clear hK K
  try simp only [PT]
  refine tkZ 24 ⟨some 99,.fieldAddr 25 (.tmp 5) 7,0, "ref.go:497",#[⟨0,.phase⟩,⟨1,.phase⟩,⟨2,.phase⟩,⟨3,.phase⟩,⟨4,.phase⟩,⟨5,.phase⟩,⟨6,.phase⟩,⟨7,.phase⟩,⟨8,.phase⟩,⟨9,.phase⟩,⟨10,.phase⟩,⟨11,.phase⟩,⟨12,.textOnly .lateStores⟩,⟨13,.textOnly .lateStores⟩,⟨14,.textOnly .lateStores⟩,⟨15,.textOnly .lateStores⟩,⟨16,.textOnly .lateStores⟩,⟨17,.textOnly .lateStores⟩,⟨18,.phase⟩,⟨19,.phase⟩,⟨20,.phase⟩,⟨21,.phase⟩,⟨22,.phase⟩,⟨23,.phase⟩],none⟩ ?_
  refine rqS [25] (rqC ⟨none,.store 3 (.tmp 99) (.tmp 89),0, "ref.go:497",#[⟨24,.data⟩,⟨11,.data⟩,⟨23,.chain⟩,⟨0,.phase⟩,⟨1,.phase⟩,⟨2,.phase⟩,⟨3,.phase⟩,⟨4,.phase⟩,⟨5,.phase⟩,⟨6,.phase⟩,⟨7,.phase⟩,⟨8,.phase⟩,⟨9,.phase⟩,⟨10,.phase⟩,⟨11,.phase⟩,⟨12,.textOnly .lateStores⟩,⟨13,.textOnly .lateStores⟩,⟨14,.textOnly .lateStores⟩,⟨15,.textOnly .lateStores⟩,⟨16,.textOnly .lateStores⟩,⟨17,.textOnly .lateStores⟩,⟨18,.phase⟩,⟨19,.phase⟩,⟨20,.phase⟩,⟨21,.phase⟩,⟨22,.phase⟩,⟨23,.phase⟩],none⟩ (fun K hK=>?_) rq0)
  go_simp
  refine hK.out _ _ kp (fun hHeld=>?_)
  clear hK K
  try simp only [PT]
  refine tkZ 26 ⟨some 100,.fieldAddr 25 (.tmp 5) 8,0, "ref.go:497",#[⟨0,.phase⟩,⟨1,.phase⟩,⟨2,.phase⟩,⟨3,.phase⟩,⟨4,.phase⟩,⟨5,.phase⟩,⟨6,.phase⟩,⟨7,.phase⟩,⟨8,.phase⟩,⟨9,.phase⟩,⟨10,.phase⟩,⟨11,.phase⟩,⟨12,.phase⟩,⟨13,.phase⟩,⟨14,.phase⟩,⟨15,.textOnly .lateStores⟩,⟨16,.textOnly .lateStores⟩,⟨17,.textOnly .lateStores⟩,⟨18,.phase⟩,⟨19,.phase⟩,⟨20,.phase⟩,⟨21,.phase⟩,⟨22,.phase⟩,⟨23,.phase⟩,⟨24,.phase⟩,⟨25,.phase⟩],none⟩ ?_
  refine rqS [27] (rqC ⟨none,.store 3 (.tmp 100) (.tmp 92),0, "ref.go:497",#[⟨26,.data⟩,⟨14,.data⟩,⟨25,.chain⟩,⟨0,.phase⟩,⟨1,.phase⟩,⟨2,.phase⟩,⟨3,.phase⟩,⟨4,.phase⟩,⟨5,.phase⟩,⟨6,.phase⟩,⟨7,.phase⟩,⟨8,.phase⟩,⟨9,.phase⟩,⟨10,.phase⟩,⟨11,.phase⟩,⟨12,.phase⟩,⟨13,.phase⟩,⟨14,.phase⟩,⟨15,.textOnly .lateStores⟩,⟨16,.textOnly .lateStores⟩,⟨17,.textOnly .lateStores⟩,⟨18,.phase⟩,⟨19,.phase⟩,⟨20,.phase⟩,⟨21,.phase⟩,⟨22,.phase⟩,⟨23,.phase⟩,⟨24,.phase⟩,⟨25,.phase⟩],none⟩ (fun K hK=>?_) rq0)
  go_simp
  refine hK.out _ _ kp (fun hHeld=>?_)
  clear hK K
  try simp only [PT]
  refine tkZ 28 ⟨some 101,.fieldAddr 25 (.tmp 5) 9,0, "ref.go:497",(phs [] 28),none⟩ ?_
  refine rqS [29] (rqC ⟨none,.store 3 (.tmp 101) (.tmp 95),0, "ref.go:497",(phs [⟨28,.data⟩,⟨17,.data⟩,⟨27,.chain⟩] 28),none⟩ (fun K hK=>?_) rq0)
  go_simp
  refine hK.out _ _ kp (fun hHeld=>?_)
  clear hK K
  try simp only [PT]
  refine wpAnyH_done (by kernel_rfl) ?_ _
  refine NoPanic.normal ?_
  have HN9:=hide ((Blk.six HNr.out n0 n1 n2 n3 n4 n5).drew)
  have HR9:=hide ((((((HRr.out.other (v:=.int .i64 n0) (j:=4) hb2.2.2.2.1).other (v:=.int .i64 n1) (j:=5) hb2.2.2.2.1).other (v:=.int .i64 n2) (j:=6) hb2.2.2.2.1).other (v:=.int .i64 n3) (j:=7) hb2.2.2.2.1).other (v:=.int .i64 n4) (j:=8) hb2.2.2.2.1).other (v:=.int .i64 n5) (j:=9) hb2.2.2.2.1).drew
  have HB9:=hide ((((((HBR.out.setCell (p:=⟨nb,4,none⟩) hb2.2.1 (.int .i64 n0)).setCell (p:=⟨nb,5,none⟩) hb2.2.1 (.int .i64 n1)).setCell (p:=⟨nb,6,none⟩) hb2.2.1 (.int .i64 n2)).setCell (p:=⟨nb,7,none⟩) hb2.2.1 (.int .i64 n3)).setCell (p:=⟨nb,8,none⟩) hb2.2.1 (.int .i64 n4)).setCell (p:=⟨nb,9,none⟩) hb2.2.1 (.int .i64 n5)).drew
  clear d0 d1 d2 d3 d4 d5 f4 f9 hkeep0 hkeepd hHeld
  obtain⟨W9,hW9⟩:∃W9,W9=((((((wr.setCell ⟨nb,4,none⟩ (.int .i64 n0)).setCell ⟨nb,5,none⟩ (.int .i64 n1)).setCell ⟨nb,6,none⟩ (.int .i64 n2)).setCell ⟨nb,7,none⟩ (.int .i64 n3)).setCell ⟨nb,8,none⟩ (.int .i64 n4)).setCell ⟨nb,9,none⟩ (.int .i64 n5)).drew:=⟨_,rfl⟩
  rw [←hW9] at HN9 HR9 HB9 ⊢
  obtain⟨hf,hhf⟩:∃hf,hf=hdN6 { hd0 κ with name:=nm } n0 n1 n2 n3 n4 n5:=⟨_,rfl⟩
  rw [←hhf] at HN9
  have HHF:=hide hhf
  have hfk:hf.kind=(κ:Int):=by rw [hhf];rfl
  clear hW9 HNr HRr HBR hhf
  rcases HM.out with⟨rfl,rfl⟩ | ⟨hκ,rfl⟩
  ·have hR:R=[]:=List.length_eq_zero_iff.1 (by have:=HRL.out;omega)
   subst hR
   have HSO:=hide (show nodeW (w0 :: ws)=some (hf,l1) by rw [HWS.out,nodeW_dir HK.out HHD.out,HHF.out];rfl)
   clear hfk
   go_wp2_with (first | ((with_reducible show wpList _ _ _ (Oper.mk (some 121) _ _ _ _ _ :: _) _ _);refine wpList_load_row rfl 25 (.tmp 5) rfl nb rfl 25 (cz hf) (0,0) _ HN9.out Tryz.underlying25 rfl (infN (cz_size _)) ?_) | ((with_reducible show wpList _ _ _ (Oper.mk none _ _ _ _ _ :: _) _ _);refine wpList_store_row rfl 25 (.tmp 2) (.tmp 121) rfl b2 (cz hf) rfl rfl 25 zeroN HR9.out (infN (cz_size _)) (by rw [cz_size];rfl) (cz_one _) ?_))
   refine nod_end (ok:=true) (n:=l1) _ ?_ ?_ ?_ ?_ (setRow_heap _ _ _ _ _ _ HR9.out) ((HB9.out).trans ((FrO.setRow (O:=fun j=>j=b2) rfl).below (Below.size HB9.out) fun j hj=>by subst hj;exact hb2.1)) (fun _=>HSO.out) (fun h=>Bool.noConfusion h) <;> rfl
  ·obtain⟨x,hRx⟩:∃x,R=[x]:=List.length_eq_one_iff.1 (by have:=HRL.out;omega)
   subst hRx
   have hx9:(w0 :: ws)[9]? = some x:=by rw [HWS.out];rfl
   have zx:x.size≤100000:=HSZ.out x (List.mem_of_getElem? hx9)
   have c9:W9.cell? ⟨g,o+9,none⟩=some (.string x):=HC.out W9 HB9.out 9 x hx9
   have UX:=hide (fun W=>runword_any x (by omega) W)
   have hn10:10≤n:=by have:=HNM.out;omega
   clear hx9
   go_upto_region 30 with (go_at_call 97;refine(UX.out _).mono ?_;rintro e w10 ⟨sx,ok10,rfl,hy10,hx10,hb10⟩)
   have HN10:=hide (Blk.below hb10 HN9.out)
   have HR10:=hide (Blk.below hb10 HR9.out)
   have HB10:=hide (HB9.out.trans (hb10.mono HB9.out.size))
   have k1:w10.cell? ⟨nb,1,none⟩=some (.int .i64 (κ:Int)):=by rw [←hfk];exact HN10.out.cells 1
   have k2:w10.cell? ⟨nb,2,none⟩=some (.string hf.data)∧w10.cell? ⟨nb,3,none⟩=some (.string hf.target):=⟨HN10.out.cells 2,HN10.out.cells 3⟩
   have k2f:w10.frozen? ⟨nb,2,none⟩=false∧w10.frozen? ⟨nb,3,none⟩=false:=⟨HN10.out.free 2,HN10.out.free 3⟩
   clear c9 hb10 HN9 HR9 HB9 hfk
   cases ok10
   case false=>
    have HNO:=hide (show nodeW (w0 :: ws)=none by
     rw [HWS.out]
     rcases hκ with rfl | rfl
     ·rw [nodeW_file HK.out HHD.out,hx10 rfl];rfl
     ·rw [nodeW_link HK.out HHD.out,hx10 rfl];rfl)
    clear hy10 hx10 k1 k2 k2f
    go_wp2_with (first | ((with_reducible show wpList _ _ _ (Oper.mk (some 113) _ _ _ _ _ :: _) _ _);refine wpList_load_row rfl 25 (.tmp 5) rfl nb rfl 25 (cz hf) (0,0) _ HN10.out Tryz.underlying25 rfl (infN (cz_size _)) ?_) | ((with_reducible show wpList _ _ _ (Oper.mk none _ _ _ _ _ :: _) _ _);refine wpList_store_row rfl 25 (.tmp 2) (.tmp 113) rfl b2 (cz hf) rfl rfl 25 zeroN HR10.out (infN (cz_size _)) (by rw [cz_size];rfl) (cz_one _) ?_))
    refine nod_end (ok:=false) (n:=0) _ ?_ ?_ ?_ ?_ (setRow_heap _ _ _ _ _ _ HR10.out) ((HB10.out).trans ((FrO.setRow (O:=fun j=>j=b2) rfl).below (Below.size HB10.out) fun j hj=>by subst hj;exact hb2.1)) (fun h=>Bool.noConfusion h) (fun _=>HNO.out) <;> rfl
   case true=>
   have hy:=hy10 rfl
   rcases hκ with rfl | rfl
   ·have HSO:=hide (show nodeW (w0 :: ws)=some ({ hf with data:=sx },l1) by rw [HWS.out,nodeW_file HK.out HHD.out,hy,HHF.out];rfl)
    have HN11:=hide (HN10.out.data sx)
    have HR11:=hide (HR10.out.other (v:=.string sx) (j:=2) hb2.2.2.2.1)
    have HB11:=hide (HB10.out.setCell (p:=⟨nb,2,none⟩) hb2.2.1 (.string sx))
    clear hy10 hx10 hy
    go_wp2_with (first | ((with_reducible show wpList _ _ _ (Oper.mk (some 121) _ _ _ _ _ :: _) _ _);refine wpList_load_row rfl 25 (.tmp 5) rfl nb rfl 25 (cz ({ hf with data:=sx })) (0,0) _ HN11.out Tryz.underlying25 rfl (infN (cz_size _)) ?_) | ((with_reducible show wpList _ _ _ (Oper.mk none _ _ _ _ _ :: _) _ _);refine wpList_store_row rfl 25 (.tmp 2) (.tmp 121) rfl b2 (cz ({ hf with data:=sx })) rfl rfl 25 zeroN HR11.out (infN (cz_size _)) (by rw [cz_size];rfl) (cz_one _) ?_))
    refine nod_end (ok:=true) (n:=l1) _ ?_ ?_ ?_ ?_ (setRow_heap _ _ _ _ _ _ HR11.out) ((HB11.out).trans ((FrO.setRow (O:=fun j=>j=b2) rfl).below (Below.size HB11.out) fun j hj=>by subst hj;exact hb2.1)) (fun _=>HSO.out) (fun h=>Bool.noConfusion h) <;> rfl
   ·have HSO:=hide (show nodeW (w0 :: ws)=some ({ hf with target:=sx },l1) by rw [HWS.out,nodeW_link HK.out HHD.out,hy,HHF.out];rfl)
    have HN11:=hide (HN10.out.target sx)
    have HR11:=hide (HR10.out.other (v:=.string sx) (j:=3) hb2.2.2.2.1)
    have HB11:=hide (HB10.out.setCell (p:=⟨nb,3,none⟩) hb2.2.1 (.string sx))
    clear hy10 hx10 hy
    go_wp2_with (first | ((with_reducible show wpList _ _ _ (Oper.mk (some 121) _ _ _ _ _ :: _) _ _);refine wpList_load_row rfl 25 (.tmp 5) rfl nb rfl 25 (cz ({ hf with target:=sx })) (0,0) _ HN11.out Tryz.underlying25 rfl (infN (cz_size _)) ?_) | ((with_reducible show wpList _ _ _ (Oper.mk none _ _ _ _ _ :: _) _ _);refine wpList_store_row rfl 25 (.tmp 2) (.tmp 121) rfl b2 (cz ({ hf with target:=sx })) rfl rfl 25 zeroN HR11.out (infN (cz_size _)) (by rw [cz_size];rfl) (cz_one _) ?_))
    refine nod_end (ok:=true) (n:=l1) _ ?_ ?_ ?_ ?_ (setRow_heap _ _ _ _ _ _ HR11.out) ((HB11.out).trans ((FrO.setRow (O:=fun j=>j=b2) rfl).below (Below.size HB11.out) fun j hj=>by subst hj;exact hb2.1)) (fun _=>HSO.out) (fun h=>Bool.noConfusion h) <;> rfl
end Go.Proofs.YtlhakdildbplkaaGreatDoor
