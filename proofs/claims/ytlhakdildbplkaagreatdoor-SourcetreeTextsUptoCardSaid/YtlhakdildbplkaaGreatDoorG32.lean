/- Part of the claim: its words. -/
import Derived.Test.YtlhakdildbplkaaGreatDoorG29
import Derived.Test.YtlhakdildbplkaaGreatDoorG30
import Derived.Test.YtlhakdildbplkaaGreatDoorG31
set_option maxRecDepth 100000
set_option maxHeartbeats 4000000
namespace Go.Proofs.YtlhakdildbplkaaGreatDoor
set_option linter.unusedSimpArgs false
set_option linter.unusedVariables false
open Go.RowKit
def KeepE (b1 b2 j:Nat) (x1 x2:Value) (g o g2 o2:Nat) (k1 k2:Array Value) (z:World):Prop:=z.cell? ⟨b1,j,none⟩=some x1∧z.cell? ⟨b2,j,none⟩=some x2∧z.rangeAt g o k1.toList∧z.rangeAt g2 o2 k2.toList
theorem KeepE.below {b1 b2 j:Nat} {x1 x2:Value} {g o g2 o2:Nat} {k1 k2:Array Value} {z z':World} (hg:g < z.heap.size) (hg2:g2 < z.heap.size) (h:KeepE b1 b2 j x1 x2 g o g2 o2 k1 k2 z) (hz:Below z.heap.size z z'):KeepE b1 b2 j x1 x2 g o g2 o2 k1 k2 z':=
 ⟨(hz.cell (p:=⟨b1,j,none⟩) (cell_lt h.1)).trans h.1,(hz.cell (p:=⟨b2,j,none⟩) (cell_lt h.2.1)).trans h.2.1,range_below hz hg h.2.2.1,range_below hz hg2 h.2.2.2⟩
theorem requal_any:∀N:Nat,EqOK 29 N
 | 0,a,_,h,_,_,_,_,_,_,_=>by unfold Tr.count at h;omega
 | N+1,a,b,hN,hsa,hsb,v1,v2,w,hv1,hv2=>by
  have IH:=hide (requal_any N)
  obtain⟨A,c,A2,c2,rfl,hk,hs⟩:=hv1.openL
  obtain⟨A3,c3,A4,c4,rfl,hk',hs'⟩:=hv2.openL
  have hca:a.ks.count≤N:=by unfold Tr.count at hN;omega
  have hka:a.ks.sz≤500000:=by unfold Tr.sz at hsa;omega
  have hkb:b.ks.sz≤500000:=by unfold Tr.sz at hsb;omega
  have hla:a.ss.length≤500000:=by have:=szS_len a.ss;unfold Tr.sz at hsa;omega
  have hlb:b.ss.length≤500000:=by have:=szS_len b.ss;unfold Tr.sz at hsb;omega
  clear hv1 hv2 hN hsa hsb
  obtain⟨⟨n,k,d,tg,m,u,gi,ti,we,hi⟩,ss,ks⟩:=a
  obtain⟨⟨n',k',d',tg',m',u',gi',ti',we',hi'⟩,ss',ks'⟩:=b
  dsimp only at hca hka hkb hla hlb hk hs hk' hs' ⊢
  have HK:=hide hk
  have HS:=hide hs
  have HK':=hide hk'
  have HS':=hide hs'
  have HCA:=hide hca
  have hL2:=ks.len_sz
  have hM2:=ks'.len_sz
  have hL3:ks.len≤500000:=by omega
  have hM3:ks'.len≤500000:=by omega
  clear hk hs hk' hs' hca hL2 hM2
  by_cases h0:n=n'
  case neg=>
   have hz:decide ((⟨⟨n,k,d,tg,m,u,gi,ti,we,hi⟩,ss,ks⟩:Tr)=(⟨⟨n',k',d',tg',m',u',gi',ti',we',hi'⟩,ss',ks'⟩:Tr))=false:=decide_eq_false (fun e=>h0 (by injection e with e;injection e))
   rw [hz]
   exact req_n0 n n' d d' tg tg' k k' m m' u u' gi gi' ti ti' we we' hi hi' _ _ _ _ h0 w
  case pos=>
  subst h0
  by_cases h1:k=k'
  case neg=>
   have hz:decide ((⟨⟨n,k,d,tg,m,u,gi,ti,we,hi⟩,ss,ks⟩:Tr)=(⟨⟨n,k',d',tg',m',u',gi',ti',we',hi'⟩,ss',ks'⟩:Tr))=false:=decide_eq_false (fun e=>h1 (by injection e with e;injection e))
   rw [hz]
   exact req_n1 n d d' tg tg' k k' m m' u u' gi gi' ti ti' we we' hi hi' _ _ _ _ h1 w
  case pos=>
  subst h1
  by_cases h2:d=d'
  case neg=>
   have hz:decide ((⟨⟨n,k,d,tg,m,u,gi,ti,we,hi⟩,ss,ks⟩:Tr)=(⟨⟨n,k,d',tg',m',u',gi',ti',we',hi'⟩,ss',ks'⟩:Tr))=false:=decide_eq_false (fun e=>h2 (by injection e with e;injection e))
   rw [hz]
   exact req_n2 n d d' tg tg' k m m' u u' gi gi' ti ti' we we' hi hi' _ _ _ _ h2 w
  case pos=>
  subst h2
  by_cases h3:tg=tg'
  case neg=>
   have hz:decide ((⟨⟨n,k,d,tg,m,u,gi,ti,we,hi⟩,ss,ks⟩:Tr)=(⟨⟨n,k,d,tg',m',u',gi',ti',we',hi'⟩,ss',ks'⟩:Tr))=false:=decide_eq_false (fun e=>h3 (by injection e with e;injection e))
   rw [hz]
   exact req_n3 n d tg tg' k m m' u u' gi gi' ti ti' we we' hi hi' _ _ _ _ h3 w
  case pos=>
  subst h3
  by_cases h4:m=m'
  case neg=>
   have hz:decide ((⟨⟨n,k,d,tg,m,u,gi,ti,we,hi⟩,ss,ks⟩:Tr)=(⟨⟨n,k,d,tg,m',u',gi',ti',we',hi'⟩,ss',ks'⟩:Tr))=false:=decide_eq_false (fun e=>h4 (by injection e with e;injection e))
   rw [hz]
   exact req_n4 n d tg k m m' u u' gi gi' ti ti' we we' hi hi' _ _ _ _ h4 w
  case pos=>
  subst h4
  by_cases h5:u=u'
  case neg=>
   have hz:decide ((⟨⟨n,k,d,tg,m,u,gi,ti,we,hi⟩,ss,ks⟩:Tr)=(⟨⟨n,k,d,tg,m,u',gi',ti',we',hi'⟩,ss',ks'⟩:Tr))=false:=decide_eq_false (fun e=>h5 (by injection e with e;injection e))
   rw [hz]
   exact req_n5 n d tg k m u u' gi gi' ti ti' we we' hi hi' _ _ _ _ h5 w
  case pos=>
  subst h5
  by_cases h6:gi=gi'
  case neg=>
   have hz:decide ((⟨⟨n,k,d,tg,m,u,gi,ti,we,hi⟩,ss,ks⟩:Tr)=(⟨⟨n,k,d,tg,m,u,gi',ti',we',hi'⟩,ss',ks'⟩:Tr))=false:=decide_eq_false (fun e=>h6 (by injection e with e;injection e))
   rw [hz]
   exact req_n6 n d tg k m u gi gi' ti ti' we we' hi hi' _ _ _ _ h6 w
  case pos=>
  subst h6
  by_cases h7:ti=ti'
  case neg=>
   have hz:decide ((⟨⟨n,k,d,tg,m,u,gi,ti,we,hi⟩,ss,ks⟩:Tr)=(⟨⟨n,k,d,tg,m,u,gi,ti',we',hi'⟩,ss',ks'⟩:Tr))=false:=decide_eq_false (fun e=>h7 (by injection e with e;injection e))
   rw [hz]
   exact req_n7 n d tg k m u gi ti ti' we we' hi hi' _ _ _ _ h7 w
  case pos=>
  subst h7
  by_cases h8:we=we'
  case neg=>
   have hz:decide ((⟨⟨n,k,d,tg,m,u,gi,ti,we,hi⟩,ss,ks⟩:Tr)=(⟨⟨n,k,d,tg,m,u,gi,ti,we',hi'⟩,ss',ks'⟩:Tr))=false:=decide_eq_false (fun e=>h8 (by injection e with e;injection e))
   rw [hz]
   exact req_n8 n d tg k m u gi ti we we' hi hi' _ _ _ _ h8 w
  case pos=>
  subst h8
  by_cases h9:hi=hi'
  case neg=>
   have hz:decide ((⟨⟨n,k,d,tg,m,u,gi,ti,we,hi⟩,ss,ks⟩:Tr)=(⟨⟨n,k,d,tg,m,u,gi,ti,we,hi'⟩,ss',ks'⟩:Tr))=false:=decide_eq_false (fun e=>h9 (by injection e with e;injection e))
   rw [hz]
   exact req_n9 n d tg k m u gi ti we hi hi' _ _ _ _ h9 w
  case pos=>
  subst h9
  have HD:=hide (show(decide ((⟨⟨n,k,d,tg,m,u,gi,ti,we,hi⟩,ss,ks⟩:Tr)=(⟨⟨n,k,d,tg,m,u,gi,ti,we,hi⟩,ss',ks'⟩:Tr))=true↔ss=ss'∧ks=ks') by rw [decide_eq_true_iff,Tr.mk.injEq];simp)
  generalize decide ((⟨⟨n,k,d,tg,m,u,gi,ti,we,hi⟩,ss,ks⟩:Tr)=(⟨⟨n,k,d,tg,m,u,gi,ti,we,hi⟩,ss',ks'⟩:Tr))=dd at *
  by_cases hlk:ks.len=ks'.len
  case neg=>
   have hz:dd=false:=Bool.eq_false_iff.2 (fun e=>hlk (by rw [(HD.out.1 e).2]))
   rw [hz]
   exact req_nk n d tg k m u gi ti we hi _ _ _ _ _ _ _ _ _ _ _ _ hlk w
  case pos=>
  by_cases hls:ss.length=ss'.length
  case neg=>
   have hz:dd=false:=Bool.eq_false_iff.2 (fun e=>hls (by rw [(HD.out.1 e).1]))
   rw [hz]
   rw [←hlk]
   exact req_ns n d tg k m u gi ti we hi _ _ _ _ _ _ _ _ _ _ _ hls w
  case pos=>
  have HLK:=hide hlk
  have HLS:=hide hls
  clear hlk hls
  have HL:Live w []:=trivial
  go_enter Tryz.func29,Tryz.ntmps29
  go_upto_region 1 with fail
  have HN:=hide ((NodeB.new w ⟨n,k,d,tg,m,u,gi,ti,we,hi⟩ (.slice A ks.len c) (.slice A2 ss.length c2)).below ((Below.refl _ _).alloc (Nat.le_refl _) (.cells (Hd.cells ⟨n,k,d,tg,m,u,gi,ti,we,hi⟩ (.slice A3 ks'.len c3) (.slice A4 ss'.length c4)) 25)))
  have HM:=hide (NodeB.new (w.alloc (.cells (Hd.cells ⟨n,k,d,tg,m,u,gi,ti,we,hi⟩ (.slice A ks.len c) (.slice A2 ss.length c2)) 25)) ⟨n,k,d,tg,m,u,gi,ti,we,hi⟩ (.slice A3 ks'.len c3) (.slice A4 ss'.length c4))
  have hbel:Below w.heap.size w ((w.alloc (.cells (Hd.cells ⟨n,k,d,tg,m,u,gi,ti,we,hi⟩ (.slice A ks.len c) (.slice A2 ss.length c2)) 25)).alloc (.cells (Hd.cells ⟨n,k,d,tg,m,u,gi,ti,we,hi⟩ (.slice A3 ks'.len c3) (.slice A4 ss'.length c4)) 25)):=((Below.refl _ _).alloc (Nat.le_refl _) _).alloc (by rw [World.size_alloc];omega) _
  rw [World.size_alloc] at HM
  generalize ((w.alloc (.cells (Hd.cells ⟨n,k,d,tg,m,u,gi,ti,we,hi⟩ (.slice A ks.len c) (.slice A2 ss.length c2)) 25)).alloc (.cells (Hd.cells ⟨n,k,d,tg,m,u,gi,ti,we,hi⟩ (.slice A3 ks'.len c3) (.slice A4 ss'.length c4)) 25))=W1 at *
  obtain⟨b2,hb2⟩:∃b2,b2=w.heap.size+1:=⟨_,rfl⟩
  rw [←hb2] at HM ⊢
  clear hb2
  obtain⟨b1,hb1⟩:∃b1,b1=w.heap.size:=⟨_,rfl⟩
  rw [←hb1] at HN ⊢
  clear hb1
  have l0:W1.cell? ⟨b1,0,none⟩=some (.string n):=HN.out.blk.cells 0
  have r0:W1.cell? ⟨b2,0,none⟩=some (.string n):=HM.out.blk.cells 0
  have l1:W1.cell? ⟨b1,1,none⟩=some (.int .i64 k):=HN.out.blk.cells 1
  have r1:W1.cell? ⟨b2,1,none⟩=some (.int .i64 k):=HM.out.blk.cells 1
  have l2:W1.cell? ⟨b1,2,none⟩=some (.string d):=HN.out.blk.cells 2
  have r2:W1.cell? ⟨b2,2,none⟩=some (.string d):=HM.out.blk.cells 2
  have l3:W1.cell? ⟨b1,3,none⟩=some (.string tg):=HN.out.blk.cells 3
  have r3:W1.cell? ⟨b2,3,none⟩=some (.string tg):=HM.out.blk.cells 3
  have l4:W1.cell? ⟨b1,4,none⟩=some (.int .i64 m):=HN.out.blk.cells 4
  have r4:W1.cell? ⟨b2,4,none⟩=some (.int .i64 m):=HM.out.blk.cells 4
  have l5:W1.cell? ⟨b1,5,none⟩=some (.int .i64 u):=HN.out.blk.cells 5
  have r5:W1.cell? ⟨b2,5,none⟩=some (.int .i64 u):=HM.out.blk.cells 5
  have l6:W1.cell? ⟨b1,6,none⟩=some (.int .i64 gi):=HN.out.blk.cells 6
  have r6:W1.cell? ⟨b2,6,none⟩=some (.int .i64 gi):=HM.out.blk.cells 6
  have l7:W1.cell? ⟨b1,7,none⟩=some (.int .i64 ti):=HN.out.blk.cells 7
  have r7:W1.cell? ⟨b2,7,none⟩=some (.int .i64 ti):=HM.out.blk.cells 7
  have l8:W1.cell? ⟨b1,8,none⟩=some (.int .i64 we):=HN.out.blk.cells 8
  have r8:W1.cell? ⟨b2,8,none⟩=some (.int .i64 we):=HM.out.blk.cells 8
  have l9:W1.cell? ⟨b1,9,none⟩=some (.int .i64 hi):=HN.out.blk.cells 9
  have r9:W1.cell? ⟨b2,9,none⟩=some (.int .i64 hi):=HM.out.blk.cells 9
  have l10:W1.cell? ⟨b1,10,none⟩=some (.slice A ks.len c):=HN.out.blk.cells 10
  have r10:W1.cell? ⟨b2,10,none⟩=some (.slice A3 ks'.len c3):=HM.out.blk.cells 10
  have l11:W1.cell? ⟨b1,11,none⟩=some (.slice A2 ss.length c2):=HN.out.blk.cells 11
  have r11:W1.cell? ⟨b2,11,none⟩=some (.slice A4 ss'.length c4):=HM.out.blk.cells 11
  clear HN HM
  have HL10:=hide l10
  have HR10:=hide r10
  have lt1:b1 < W1.heap.size:=cell_lt l10
  have lt2:b2 < W1.heap.size:=cell_lt r10
  have q0:((ks.len:Int) != (ks'.len:Int))=false:=by have:=HLK.out;simp;omega
  have q1:((ss.length:Int) != (ss'.length:Int))=false:=by have:=HLS.out;simp;omega
  go_wp2_with fail
  go_loopw [5] (fun i wr=>∃k:Nat,i=.int .i64 (k:Int)∧k≤ss.length∧(ss=ss'↔ss.drop k=ss'.drop k)∧Below W1.heap.size W1 wr) (fun i _=>ss.length - (intOf i).toNat)
  case atStart=>exact⟨0,rfl,by omega,Iff.rfl,Below.refl _ _⟩
  case round=>
   obtain⟨k,rfl,hkl,hiff,hbr⟩:=hrel
   have HI:=hide hiff
   clear hiff
   have hbelr:=hbel.trans (hbr.mono hbel.size)
   have m11:=(hbr.cell (p:=⟨b1,11,none⟩) lt1).trans l11
   have n11:=(hbr.cell (p:=⟨b2,11,none⟩) lt2).trans r11
   have m10:=(hbr.cell (p:=⟨b1,10,none⟩) lt1).trans l10
   have n10:=(hbr.cell (p:=⟨b2,10,none⟩) lt2).trans r10
   by_cases hlt:k < ss.length
   case neg=>
    have HSS:=hide (HI.out.2 (by rw [List.drop_of_length_le (by omega),List.drop_of_length_le (by have:=HLS.out;omega)]))
    have HD2:=hide (show(dd=true↔ks=ks') by rw [HD.out];simp only [HSS.out,true_and])
    have hbr0:=hbr.size
    clear HI HD HSS l10 r10 l11 r11
    go_wp2_with fail
    clear m11 n11 m10 n10
    go_loopw [6] (fun i wx=>∃(k:Nat) (r s:Fo),i=.int .i64 (k:Int)∧k+r.len=ks.len∧k+s.len=ks'.len∧(ks=ks'↔r=s)∧r.count≤N∧r.sz≤500000∧s.sz≤500000∧Left w w.heap.size A r k∧Left w w.heap.size A3 s k∧wx.cell? ⟨b1,10,none⟩=some (.slice A ks.len c)∧wx.cell? ⟨b2,10,none⟩=some (.slice A3 ks'.len c3)∧Below w.heap.size w wx) (fun i _=>ks.len - (intOf i).toNat)
    case atStart=>exact⟨0,ks,ks',rfl,by omega,by omega,Iff.rfl,HCA.out,hka,hkb,HK.out,HK'.out,(hbr.cell (p:=⟨b1,10,none⟩) lt1).trans (HL10.out),(hbr.cell (p:=⟨b2,10,none⟩) lt2).trans (HR10.out),hbelr⟩
    case round=>
     clear HK HK'
     obtain⟨k,r,s,rfl,hkr,hks,hiff,hrc,hrs,hss,hl,hm,m10,n10,hbel4⟩:=hrel
     have HI:=hide hiff
     have HLr:=hide hl
     have HMr:=hide hm
     clear hiff hl hm
     have HLN2:=HLK.out
     cases r with
     | nil=>
      rw [Fo.len_nil] at hkr
      obtain rfl:k=ks.len:=by omega
      have hs0:s=.nil:=Fo.nil_of (by omega)
      have HZ:=hide (show dd=true from HD2.out.2 (HI.out.2 hs0.symm))
      clear HLN2 hs0 HI HD2
      go_wp2_with fail
      go_ret
      exact⟨ret_b HZ.out.symm,hbel4⟩
     | node h ss1 ks1 nx=>
     cases s with
     | nil=>rw [Fo.len_nil] at hks;rw [Fo.len_node] at hkr;omega
     | node h' ss1' ks1' nx'=>
     rw [Fo.len_node] at hkr hks
     rw [Fo.count_node] at hrc
     rw [Fo.sz_node] at hrs hss
     have hlt2:k < ks.len:=by omega
     have hltM:k < ks'.len:=by omega
     clear HLN2
     obtain⟨g,o,kc,rfl,hg,hr,hz,h1c,htr,hln⟩:=HLr.out.next
     obtain⟨g2,o2,kc2,rfl,hg2,hr2,hz2,h1c2,htr2,hln2⟩:=HMr.out.next
     have hsz4:=hbel4.size
     have hgw:g < wr.heap.size:=by omega
     have hgw2:g2 < wr.heap.size:=by omega
     have hkeep:KeepE b1 b2 10 (.slice (some ⟨g,o,none⟩) ks.len c) (.slice (some ⟨g2,o2,none⟩) ks'.len c3) g (o+k*12) g2 (o2+k*12) kc kc2 wr∧True:=⟨⟨m10,n10,range_below hbel4 hg hr,range_below hbel4 hg2 hr2⟩,trivial⟩
     have hkeepd:KeepE b1 b2 10 (.slice (some ⟨g,o,none⟩) ks.len c) (.slice (some ⟨g2,o2,none⟩) ks'.len c3) g (o+k*12) g2 (o2+k*12) kc kc2 wr.drew∧True:=hkeep
     have HLn:=hide hln
     have HMn:=hide hln2
     have HZ1:=hide hz
     have HZ2:=hide hz2
     have hbd:Below w.heap.size w wr.drew:=hbel4.drew
     have HTD1:=hide ((htr.below hbd).mono hbd.size)
     have HTD2:=hide ((htr2.below hbd).mono hbd.size)
     clear hr hr2 hz hz2 h1c h1c2 htr htr2 hln hln2 HLr HMr hbd
     have hc1:Tr.count ⟨h,ss1,ks1⟩≤N:=by show ks1.count+1≤N;omega
     have hc2:Tr.sz ⟨h,ss1,ks1⟩≤500000:=by show h.sz+szS ss1+ks1.sz≤_;omega
     have hc3:Tr.sz ⟨h',ss1',ks1'⟩≤500000:=by show h'.sz+szS ss1'+ks1'.sz≤_;omega
     have HDD:=hide (show(ks=ks'↔(⟨h,ss1,ks1⟩:Tr)=⟨h',ss1',ks1'⟩∧nx=nx') by rw [HI.out,ForR.eq_node])
     have EQ0:=fun W hW1 hW2=>IH.out ⟨h,ss1,ks1⟩ ⟨h',ss1',ks1'⟩ hc1 hc2 hc3 (.agg kc) (.agg kc2) W hW1 hW2
     obtain⟨q2,hq2⟩:∃q2,decide ((⟨h,ss1,ks1⟩:Tr)=⟨h',ss1',ks1'⟩)=q2:=⟨_,rfl⟩
     rw [hq2] at EQ0
     have HQ2:=hide hq2
     have EQ:=hide EQ0
     clear hc1 hc2 hc3 HI EQ0 hq2
     go_upto_region 11 with fail
     refine wp_region_noPanic ?_
     refine wp_region_held_drew (S:=(fun z=>KeepE b1 b2 10 (.slice (some ⟨g,o,none⟩) ks.len c) (.slice (some ⟨g2,o2,none⟩) ks'.len c3) g (o+k*12) g2 (o2+k*12) kc kc2 z∧True)) (by kernel_rfl) kp (fun hHeld=>?_)
     refine tkZ 0 ⟨some 118,.fieldAddr 25 (.tmp 2) 10,0, "ref.go:325",#[],none⟩ ?_
     refine tkZ 1 ⟨some 119,.load 22 (.tmp 118),22, "ref.go:325",#[⟨0,.data⟩],none⟩ ?_ (by intro w hSw;(try dsimp only at hSw);have c1:=hSw.1.1;go_simp;(try with_reducible rfl))
     refine tkZ 2 ⟨some 120,.move (.tmp 6),3, "ref.go:325",#[],none⟩ ?_
     refine tkZ 3 ⟨some 121,.indexAddr 22 (.tmp 119) (.tmp 120),0, "ref.go:325",#[⟨1,.data⟩,⟨2,.data⟩],none⟩ ?_
     refine tkZ 4 ⟨some 122,.load 25 (.tmp 121),25, "ref.go:325",#[⟨3,.data⟩],none⟩ ?_ (by intro w hSw;(try dsimp only at hSw);refine(exec_load_mid 25 (.tmp 121) (by rfl) g (o+k*12) (by rfl) kc _ hSw.1.2.2.1 Tryz.underlying25 (by rfl) (infNl HZ1.out)).trans ?_;with_reducible rfl)
     refine tkZ 5 ⟨some 123,.fieldAddr 25 (.tmp 3) 10,0, "ref.go:325",#[],none⟩ ?_
     refine tkZ 6 ⟨some 124,.load 22 (.tmp 123),22, "ref.go:325",#[⟨5,.data⟩],none⟩ ?_ (by intro w hSw;(try dsimp only at hSw);have c1:=hSw.1.2.1;go_simp;(try with_reducible rfl))
     refine tkZ 7 ⟨some 125,.move (.tmp 6),3, "ref.go:325",#[],none⟩ ?_
     refine tkZ 8 ⟨some 126,.indexAddr 22 (.tmp 124) (.tmp 125),0, "ref.go:325",#[⟨6,.data⟩,⟨7,.data⟩],none⟩ ?_
     refine tkZ 9 ⟨some 127,.load 25 (.tmp 126),25, "ref.go:325",#[⟨8,.data⟩],none⟩ ?_ (by intro w hSw;(try dsimp only at hSw);refine(exec_load_mid 25 (.tmp 126) (by rfl) g2 (o2+k*12) (by rfl) kc2 _ hSw.1.2.2.2 Tryz.underlying25 (by rfl) (infNl HZ2.out)).trans ?_;with_reducible rfl)
     refine rqS [10] (rqC ⟨some 128,.call ⟨.value (.func 29),#[.tmp 122,.tmp 127],#[25,25]⟩,4, "ref.go:325",#[⟨4,.data⟩,⟨9,.data⟩],none⟩ (fun K hK=>?_) rq0)
     go_simp
     (go_at_call 29;(with_reducible refine Calls.mono (EQ.out _ HTD1.out HTD2.out) ?_);rintro e w8 ⟨rfl,hb8⟩;have hkeep8:KeepE b1 b2 10 (.slice (some ⟨g,o,none⟩) ks.len c) (.slice (some ⟨g2,o2,none⟩) ks'.len c3) g (o+k*12) g2 (o2+k*12) kc kc2 w8∧True:=⟨KeepE.below (z:=wr.drew) hgw hgw2 hkeepd.1 hb8,trivial⟩)
     go_wp2_with fail
     refine hK.out _ _ kp (fun hHeld=>?_)
     clear hK K
     try simp only [PT]
     refine tkZ 11 ⟨some 129,.unOp .not 4 (.tmp 128),4, "ref.go:325",#[⟨10,.data⟩],none⟩ ?_
     refine wpAnyH_done (by kernel_rfl) ?_ _
     refine NoPanic.normal ?_
     have hb48:Below wr.heap.size wr w8:=(Below.refl wr.heap.size wr).drew.trans hb8
     have m18:=hkeep8.1.1
     have n18:=hkeep8.1.2.1
     have hbel8:=hbel4.trans (hb48.mono hbel4.size)
     clear hkeep hkeepd hkeep8 hHeld HTD1 HTD2 EQ
     cases q2
     case true=>
      have HE:=hide (show(ks=ks'↔nx=nx') by rw [HDD.out];simp only [of_decide_eq_true HQ2.out,true_and])
      clear HQ2 HDD
      go_wp2_with fail
      go_roundw
      case rel=>exact⟨k+1,nx,nx',by go_num,by omega,by omega,HE.out,by omega,by omega,by omega,HLn.out,HMn.out,m18,n18,hbel8⟩
      case measure=>simp [intOf];omega
     case false=>
      have HE:=hide (show dd=false from Bool.eq_false_iff.2 (fun e=>of_decide_eq_false HQ2.out (HDD.out.1 (HD2.out.1 e)).1))
      clear HQ2 HDD
      go_wp2_with fail
      go_ret
      exact⟨ret_b HE.out.symm,hbel8⟩
   case pos=>
   have hltM:k < ss'.length:=by have:=HLS.out;omega
   obtain⟨x,hx⟩:∃x,ss[k]? = some x:=⟨_,List.getElem?_eq_getElem hlt⟩
   obtain⟨y,hy⟩:∃y,ss'[k]? = some y:=⟨_,List.getElem?_eq_getElem hltM⟩
   obtain⟨g,o,rfl,hg,hc⟩:=HS.out.row hbelr hx
   obtain⟨g2,o2,rfl,hg2,hc2⟩:=HS'.out.row hbelr hy
   have hkeep:KeepE b1 b2 11 (.slice (some ⟨g,o,none⟩) ss.length c2) (.slice (some ⟨g2,o2,none⟩) ss'.length c4) g (o+k*2) g2 (o2+k*2) (strC x) (strC y) wr∧True:=⟨⟨m11,n11,hc,hc2⟩,trivial⟩
   have hkeepd:KeepE b1 b2 11 (.slice (some ⟨g,o,none⟩) ss.length c2) (.slice (some ⟨g2,o2,none⟩) ss'.length c4) g (o+k*2) g2 (o2+k*2) (strC x) (strC y) wr.drew∧True:=hkeep
   have HDD:=hide (drop_eq_cons hx hy)
   clear hx hy hc hc2
   go_upto_region 6 with fail
   obtain⟨nq,hnq⟩:∃nq,(!decide (x=y))=nq:=⟨_,rfl⟩
   have HNQ:=hide hnq
   clear hnq m11 n11
   go_cut [110] (fun v wx=>v=.bool nq∧wx=wr.drew)
   case first=>
    refine wp_region_noPanic ?_
    refine wp_region_held_drew (S:=(fun z=>KeepE b1 b2 11 (.slice (some ⟨g,o,none⟩) ss.length c2) (.slice (some ⟨g2,o2,none⟩) ss'.length c4) g (o+k*2) g2 (o2+k*2) (strC x) (strC y) z∧True)) (by kernel_rfl) kp (fun hHeld=>?_)
    refine tkZ 0 ⟨some 100,.fieldAddr 25 (.tmp 2) 11,0, "ref.go:320",#[],none⟩ ?_
    refine tkZ 1 ⟨some 101,.load 23 (.tmp 100),23, "ref.go:320",#[⟨0,.data⟩],none⟩ ?_ (by intro w hSw;(try dsimp only at hSw);have c1:=hSw.1.1;go_simp;(try with_reducible rfl))
    refine tkZ 2 ⟨some 102,.move (.tmp 5),3, "ref.go:320",#[],none⟩ ?_
    refine tkZ 3 ⟨some 103,.indexAddr 23 (.tmp 101) (.tmp 102),0, "ref.go:320",#[⟨1,.data⟩,⟨2,.data⟩],none⟩ ?_
    refine tkZ 4 ⟨some 104,.load 69 (.tmp 103),69, "ref.go:320",#[⟨3,.data⟩],none⟩ ?_ (by intro w hSw;(try dsimp only at hSw);refine(exec_load_mid 69 (.tmp 103) (by rfl) g (o+k*2) (by rfl) (strC x) _ hSw.1.2.2.1 Tryz.underlying69 (by rfl) (by exact infS2)).trans ?_;with_reducible rfl)
    refine tkZ 5 ⟨some 105,.fieldAddr 25 (.tmp 3) 11,0, "ref.go:320",#[],none⟩ ?_
    refine tkZ 6 ⟨some 106,.load 23 (.tmp 105),23, "ref.go:320",#[⟨5,.data⟩],none⟩ ?_ (by intro w hSw;(try dsimp only at hSw);have c1:=hSw.1.2.1;go_simp;(try with_reducible rfl))
    refine tkZ 7 ⟨some 107,.move (.tmp 5),3, "ref.go:320",#[],none⟩ ?_
    refine tkZ 8 ⟨some 108,.indexAddr 23 (.tmp 106) (.tmp 107),0, "ref.go:320",#[⟨6,.data⟩,⟨7,.data⟩],none⟩ ?_
    refine tkZ 9 ⟨some 109,.load 69 (.tmp 108),69, "ref.go:320",#[⟨8,.data⟩],none⟩ ?_ (by intro w hSw;(try dsimp only at hSw);refine(exec_load_mid 69 (.tmp 108) (by rfl) g2 (o2+k*2) (by rfl) (strC y) _ hSw.1.2.2.2 Tryz.underlying69 (by rfl) (by exact infS2)).trans ?_;with_reducible rfl)
    refine tkZ 10 ⟨some 110,.binOp .neq 69 (.tmp 104) (.tmp 109) 69,4, "ref.go:320",#[⟨4,.data⟩,⟨9,.data⟩],none⟩ ?_ (by intro w hSw;(try dsimp only at hSw);refine(exec_strm_neq x y (.tmp 104) (.tmp 109) (by rfl) (by rfl) (by rfl) nq HNQ.out).trans ?_;with_reducible rfl)
    refine wpAnyH_done (by kernel_rfl) ?_ _
    refine NoPanic.normal ?_
    go_wp2_with fail
    go_meet
    exact⟨rfl,rfl⟩
   case rest=>
   obtain⟨rfl,rfl⟩:=hcut
   clear hkeep hkeepd
   cases nq
   ·have hxy:x=y:=by simpa using HNQ.out
    have HE:=hide (show(ss=ss'↔ss.drop (k+1)=ss'.drop (k+1)) by rw [HI.out,HDD.out];simp [hxy])
    clear hxy HDD
    go_wp2_with fail
    go_roundw
    case rel=>exact⟨k+1,by go_num,by omega,HE.out,hbr.drew⟩
    case measure=>simp [intOf];omega
   ·have hxy:¬x=y:=by simpa using HNQ.out
    have HE:=hide (show dd=false from Bool.eq_false_iff.2 (fun e=>hxy (HDD.out.1 (HI.out.1 (HD.out.1 e).1)).1))
    clear hxy HDD
    go_wp2_with fail
    go_ret
    exact⟨ret_b HE.out.symm,hbelr.drew⟩
end Go.Proofs.YtlhakdildbplkaaGreatDoor
