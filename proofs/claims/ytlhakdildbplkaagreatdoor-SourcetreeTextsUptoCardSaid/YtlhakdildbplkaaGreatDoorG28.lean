/- Part of the claim: its words. -/
import Derived.Test.YtlhakdildbplkaaGreatDoorG26
import Derived.Test.YtlhakdildbplkaaGreatDoorG27
set_option maxRecDepth 100000
set_option maxHeartbeats 4000000
namespace Go.Proofs.YtlhakdildbplkaaGreatDoor
set_option linter.unusedSimpArgs false
set_option linter.unusedVariables false
open Go.RowKit
theorem StL.later {w w':World} {B:Nat} {A:Option Addr} {ss:List St} (h:StL w B A ss) (hb:Below B w w'):StL w' B A ss:=fun h0=>by
 obtain⟨g,o,e,hg,hc⟩:=h h0
 exact⟨g,o,e,hg,fun j s hj=>⟨(hb.cell (p:=⟨g,o+j*2,none⟩) hg).trans (hc j s hj).1,(hb.cell (p:=⟨g,o+(j*2+1),none⟩) hg).trans (hc j s hj).2⟩⟩
theorem EqOK.mono {g:FuncId} {N N':Nat} (h:N'≤N) (e:EqOK g N):EqOK g N':=fun a b hc=>e a b (Nat.le_trans hc h)
theorem equal_any:∀N:Nat,EqOK 40 N
 | 0,a,_,h,_,_,_,_,_,_,_=>by unfold Tr.count at h;omega
 | N+1,a,b,hN,hsa,hsb,v1,v2,w,hv1,hv2=>by
  have IH:=hide (equal_any N)
  obtain⟨A,c,A2,c2,rfl,hk,hs⟩:=hv1.openL
  obtain⟨A3,c3,A4,c4,rfl,hk',hs'⟩:=hv2.openL
  have hca:a.ks.count≤N:=by unfold Tr.count at hN;omega
  have hka:a.ks.sz≤500000:=by unfold Tr.sz at hsa;omega
  have hkb:b.ks.sz≤500000:=by unfold Tr.sz at hsb;omega
  have hla:a.ss.length≤500000:=by have:=szS_len a.ss;unfold Tr.sz at hsa;omega
  have hlb:b.ss.length≤500000:=by have:=szS_len b.ss;unfold Tr.sz at hsb;omega
  clear hv1 hv2 hN hsa hsb
  obtain⟨⟨n,k,d,tg,m,u,gi,ti,we,hi⟩,ss,ks⟩:=a
  obtain⟨⟨n',k',d',tg',m',u',gi',ti',we',hi'⟩,ss',ks'⟩:=b
  dsimp only at hca hka hkb hla hlb hk hs hk' hs' ⊢
  have HK:=hide hk
  have HS:=hide hs
  have HK':=hide hk'
  have HS':=hide hs'
  have HCA:=hide hca
  clear hk hs hk' hs' hca
  by_cases h0:n=n'
  case neg=>
   have hz:decide ((⟨⟨n,k,d,tg,m,u,gi,ti,we,hi⟩,ss,ks⟩:Tr)=(⟨⟨n',k',d',tg',m',u',gi',ti',we',hi'⟩,ss',ks'⟩:Tr))=false:=decide_eq_false (fun e=>h0 (by injection e with e;injection e))
   rw [hz]
   exact eq_n0 n n' d d' tg tg' k k' m m' u u' gi gi' ti ti' we we' hi hi' _ _ _ _ h0 w
  case pos=>
  subst h0
  by_cases h1:k=k'
  case neg=>
   have hz:decide ((⟨⟨n,k,d,tg,m,u,gi,ti,we,hi⟩,ss,ks⟩:Tr)=(⟨⟨n,k',d',tg',m',u',gi',ti',we',hi'⟩,ss',ks'⟩:Tr))=false:=decide_eq_false (fun e=>h1 (by injection e with e;injection e))
   rw [hz]
   exact eq_n1 n d d' tg tg' k k' m m' u u' gi gi' ti ti' we we' hi hi' _ _ _ _ h1 w
  case pos=>
  subst h1
  by_cases h2:d=d'
  case neg=>
   have hz:decide ((⟨⟨n,k,d,tg,m,u,gi,ti,we,hi⟩,ss,ks⟩:Tr)=(⟨⟨n,k,d',tg',m',u',gi',ti',we',hi'⟩,ss',ks'⟩:Tr))=false:=decide_eq_false (fun e=>h2 (by injection e with e;injection e))
   rw [hz]
   exact eq_n2 n d d' tg tg' k m m' u u' gi gi' ti ti' we we' hi hi' _ _ _ _ h2 w
  case pos=>
  subst h2
  by_cases h3:tg=tg'
  case neg=>
   have hz:decide ((⟨⟨n,k,d,tg,m,u,gi,ti,we,hi⟩,ss,ks⟩:Tr)=(⟨⟨n,k,d,tg',m',u',gi',ti',we',hi'⟩,ss',ks'⟩:Tr))=false:=decide_eq_false (fun e=>h3 (by injection e with e;injection e))
   rw [hz]
   exact eq_n3 n d tg tg' k m m' u u' gi gi' ti ti' we we' hi hi' _ _ _ _ h3 w
  case pos=>
  subst h3
  by_cases h4:m=m'
  case neg=>
   have hz:decide ((⟨⟨n,k,d,tg,m,u,gi,ti,we,hi⟩,ss,ks⟩:Tr)=(⟨⟨n,k,d,tg,m',u',gi',ti',we',hi'⟩,ss',ks'⟩:Tr))=false:=decide_eq_false (fun e=>h4 (by injection e with e;injection e))
   rw [hz]
   exact eq_n4 n d tg k m m' u u' gi gi' ti ti' we we' hi hi' _ _ _ _ h4 w
  case pos=>
  subst h4
  by_cases h5:u=u'
  case neg=>
   have hz:decide ((⟨⟨n,k,d,tg,m,u,gi,ti,we,hi⟩,ss,ks⟩:Tr)=(⟨⟨n,k,d,tg,m,u',gi',ti',we',hi'⟩,ss',ks'⟩:Tr))=false:=decide_eq_false (fun e=>h5 (by injection e with e;injection e))
   rw [hz]
   exact eq_n5 n d tg k m u u' gi gi' ti ti' we we' hi hi' _ _ _ _ h5 w
  case pos=>
  subst h5
  by_cases h6:gi=gi'
  case neg=>
   have hz:decide ((⟨⟨n,k,d,tg,m,u,gi,ti,we,hi⟩,ss,ks⟩:Tr)=(⟨⟨n,k,d,tg,m,u,gi',ti',we',hi'⟩,ss',ks'⟩:Tr))=false:=decide_eq_false (fun e=>h6 (by injection e with e;injection e))
   rw [hz]
   exact eq_n6 n d tg k m u gi gi' ti ti' we we' hi hi' _ _ _ _ h6 w
  case pos=>
  subst h6
  by_cases h7:ti=ti'
  case neg=>
   have hz:decide ((⟨⟨n,k,d,tg,m,u,gi,ti,we,hi⟩,ss,ks⟩:Tr)=(⟨⟨n,k,d,tg,m,u,gi,ti',we',hi'⟩,ss',ks'⟩:Tr))=false:=decide_eq_false (fun e=>h7 (by injection e with e;injection e))
   rw [hz]
   exact eq_n7 n d tg k m u gi ti ti' we we' hi hi' _ _ _ _ h7 w
  case pos=>
  subst h7
  by_cases h8:we=we'
  case neg=>
   have hz:decide ((⟨⟨n,k,d,tg,m,u,gi,ti,we,hi⟩,ss,ks⟩:Tr)=(⟨⟨n,k,d,tg,m,u,gi,ti,we',hi'⟩,ss',ks'⟩:Tr))=false:=decide_eq_false (fun e=>h8 (by injection e with e;injection e))
   rw [hz]
   exact eq_n8 n d tg k m u gi ti we we' hi hi' _ _ _ _ h8 w
  case pos=>
  subst h8
  by_cases h9:hi=hi'
  case neg=>
   have hz:decide ((⟨⟨n,k,d,tg,m,u,gi,ti,we,hi⟩,ss,ks⟩:Tr)=(⟨⟨n,k,d,tg,m,u,gi,ti,we,hi'⟩,ss',ks'⟩:Tr))=false:=decide_eq_false (fun e=>h9 (by injection e with e;injection e))
   rw [hz]
   exact eq_n9 n d tg k m u gi ti we hi hi' _ _ _ _ h9 w
  case pos=>
  subst h9
  have HL:Live w []:=trivial
  go_enter Tryz.func40,Tryz.ntmps40
  go_upto_region 1 with fail
  have HN:=hide ((NodeB.new w ⟨n,k,d,tg,m,u,gi,ti,we,hi⟩ (.slice A ks.len c) (.slice A2 ss.length c2)).below ((Below.refl _ _).alloc (Nat.le_refl _) (.cells (Hd.cells ⟨n,k,d,tg,m,u,gi,ti,we,hi⟩ (.slice A3 ks'.len c3) (.slice A4 ss'.length c4)) 25)))
  have HM:=hide (NodeB.new (w.alloc (.cells (Hd.cells ⟨n,k,d,tg,m,u,gi,ti,we,hi⟩ (.slice A ks.len c) (.slice A2 ss.length c2)) 25)) ⟨n,k,d,tg,m,u,gi,ti,we,hi⟩ (.slice A3 ks'.len c3) (.slice A4 ss'.length c4))
  have hbel:Below w.heap.size w ((w.alloc (.cells (Hd.cells ⟨n,k,d,tg,m,u,gi,ti,we,hi⟩ (.slice A ks.len c) (.slice A2 ss.length c2)) 25)).alloc (.cells (Hd.cells ⟨n,k,d,tg,m,u,gi,ti,we,hi⟩ (.slice A3 ks'.len c3) (.slice A4 ss'.length c4)) 25)):=((Below.refl _ _).alloc (Nat.le_refl _) _).alloc (by rw [World.size_alloc];omega) _
  rw [World.size_alloc] at HM
  generalize ((w.alloc (.cells (Hd.cells ⟨n,k,d,tg,m,u,gi,ti,we,hi⟩ (.slice A ks.len c) (.slice A2 ss.length c2)) 25)).alloc (.cells (Hd.cells ⟨n,k,d,tg,m,u,gi,ti,we,hi⟩ (.slice A3 ks'.len c3) (.slice A4 ss'.length c4)) 25))=W1 at *
  obtain⟨b2,hb2⟩:∃b2,b2=w.heap.size+1:=⟨_,rfl⟩
  rw [←hb2] at HM ⊢
  clear hb2
  obtain⟨b1,hb1⟩:∃b1,b1=w.heap.size:=⟨_,rfl⟩
  rw [←hb1] at HN ⊢
  clear hb1
  have l0:W1.cell? ⟨b1,0,none⟩=some (.string n):=HN.out.blk.cells 0
  have r0:W1.cell? ⟨b2,0,none⟩=some (.string n):=HM.out.blk.cells 0
  have l1:W1.cell? ⟨b1,1,none⟩=some (.int .i64 k):=HN.out.blk.cells 1
  have r1:W1.cell? ⟨b2,1,none⟩=some (.int .i64 k):=HM.out.blk.cells 1
  have l2:W1.cell? ⟨b1,2,none⟩=some (.string d):=HN.out.blk.cells 2
  have r2:W1.cell? ⟨b2,2,none⟩=some (.string d):=HM.out.blk.cells 2
  have l3:W1.cell? ⟨b1,3,none⟩=some (.string tg):=HN.out.blk.cells 3
  have r3:W1.cell? ⟨b2,3,none⟩=some (.string tg):=HM.out.blk.cells 3
  have l4:W1.cell? ⟨b1,4,none⟩=some (.int .i64 m):=HN.out.blk.cells 4
  have r4:W1.cell? ⟨b2,4,none⟩=some (.int .i64 m):=HM.out.blk.cells 4
  have l5:W1.cell? ⟨b1,5,none⟩=some (.int .i64 u):=HN.out.blk.cells 5
  have r5:W1.cell? ⟨b2,5,none⟩=some (.int .i64 u):=HM.out.blk.cells 5
  have l6:W1.cell? ⟨b1,6,none⟩=some (.int .i64 gi):=HN.out.blk.cells 6
  have r6:W1.cell? ⟨b2,6,none⟩=some (.int .i64 gi):=HM.out.blk.cells 6
  have l7:W1.cell? ⟨b1,7,none⟩=some (.int .i64 ti):=HN.out.blk.cells 7
  have r7:W1.cell? ⟨b2,7,none⟩=some (.int .i64 ti):=HM.out.blk.cells 7
  have l8:W1.cell? ⟨b1,8,none⟩=some (.int .i64 we):=HN.out.blk.cells 8
  have r8:W1.cell? ⟨b2,8,none⟩=some (.int .i64 we):=HM.out.blk.cells 8
  have l9:W1.cell? ⟨b1,9,none⟩=some (.int .i64 hi):=HN.out.blk.cells 9
  have r9:W1.cell? ⟨b2,9,none⟩=some (.int .i64 hi):=HM.out.blk.cells 9
  have l10:W1.cell? ⟨b1,10,none⟩=some (.slice A ks.len c):=HN.out.blk.cells 10
  have r10:W1.cell? ⟨b2,10,none⟩=some (.slice A3 ks'.len c3):=HM.out.blk.cells 10
  have l11:W1.cell? ⟨b1,11,none⟩=some (.slice A2 ss.length c2):=HN.out.blk.cells 11
  have r11:W1.cell? ⟨b2,11,none⟩=some (.slice A4 ss'.length c4):=HM.out.blk.cells 11
  clear HN HM
  have HD:=hide (show((⟨⟨n,k,d,tg,m,u,gi,ti,we,hi⟩,ss,ks⟩:Tr)=(⟨⟨n,k,d,tg,m,u,gi,ti,we,hi⟩,ss',ks'⟩:Tr)↔ss=ss'∧ks=ks') by rw [Tr.mk.injEq];simp)
  have SE:=hide (fun W (hW:Below w.heap.size w W)=>streq_any ss ss' A2 A4 c2 c4 w.heap.size (by omega) (by omega) W hW.size (HS.out.later hW) (HS'.out.later hW))
  have KE:=hide (fun W (hW:Below w.heap.size w W)=>eqfunc_any N IH.out ks ks' A A3 c c3 w.heap.size HCA.out hka hkb W hW.size (HK.out.below hW) (HK'.out.below hW))
  have lt1:b1 < W1.heap.size:=cell_lt l10
  have lt2:b2 < W1.heap.size:=cell_lt r10
  cases hs:decide (ss=ss')
  case false=>
   have HZ:=hide (show decide ((⟨⟨n,k,d,tg,m,u,gi,ti,we,hi⟩,ss,ks⟩:Tr)=(⟨⟨n,k,d,tg,m,u,gi,ti,we,hi⟩,ss',ks'⟩:Tr))=false from decide_eq_false (fun e=>of_decide_eq_false hs (HD.out.1 e).1))
   rw [hs] at SE
   clear hs HD
   go_wp2_with (go_at_call 105;refine(SE.out _ hbel).mono ?_;rintro e w3 ⟨rfl,hb3⟩)
   go_ret
   exact⟨ret_b HZ.out.symm,hbel.trans (hb3.mono hbel.size)⟩
  case true=>
  have HD2:=hide (show((⟨⟨n,k,d,tg,m,u,gi,ti,we,hi⟩,ss,ks⟩:Tr)=(⟨⟨n,k,d,tg,m,u,gi,ti,we,hi⟩,ss',ks'⟩:Tr)↔ks=ks') by rw [HD.out];simp only [of_decide_eq_true hs,true_and])
  rw [hs] at SE
  clear hs HD
  have HD3:=hide (show decide ((⟨⟨n,k,d,tg,m,u,gi,ti,we,hi⟩,ss,ks⟩:Tr)=(⟨⟨n,k,d,tg,m,u,gi,ti,we,hi⟩,ss',ks'⟩:Tr))=decide (ks=ks') from decide_eq_decide.2 HD2.out)
  generalize decide (ks=ks')=q at *
  go_wp2_with (first | (go_at_call 105;refine(SE.out _ hbel).mono ?_;rintro e w3 ⟨rfl,hb3⟩;have m10:=(hb3.cell (p:=⟨b1,10,none⟩) lt1).trans l10;have n10:=(hb3.cell (p:=⟨b2,10,none⟩) lt2).trans r10;have hbel3:=hbel.trans (hb3.mono hbel.size)) | (go_at_call 106;refine(KE.out _ hbel3).mono ?_;rintro e w4 ⟨rfl,hb4⟩))
  all_goals
   go_ret
   exact⟨ret_b HD3.out.symm,hbel3.trans (hb4.mono hbel3.size)⟩
end Go.Proofs.YtlhakdildbplkaaGreatDoor
