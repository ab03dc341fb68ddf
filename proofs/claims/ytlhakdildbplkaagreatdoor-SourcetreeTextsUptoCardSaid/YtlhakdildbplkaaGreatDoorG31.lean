/- Part of the claim: its words. -/
import Derived.Test.YtlhakdildbplkaaGreatDoorG29
set_option maxRecDepth 100000
set_option maxHeartbeats 4000000
namespace Go.Proofs.YtlhakdildbplkaaGreatDoor
set_option linter.unusedSimpArgs false
set_option linter.unusedVariables false
open Go.RowKit
theorem req_nk (n d tg:ByteArray) (k m u gi ti we hi:Int) (A A2 A3 A4:Option Addr) (L1 L2 L3 L4 c c2 c3 c4:Nat) (h:L1≠L3) (w:World):Calls Tryz.prog 29 #[.agg (Hd.cells ⟨n,k,d,tg,m,u,gi,ti,we,hi⟩ (.slice A L1 c) (.slice A2 L2 c2)),.agg (Hd.cells ⟨n,k,d,tg,m,u,gi,ti,we,hi⟩ (.slice A3 L3 c3) (.slice A4 L4 c4))] w fun e w'=>e=.returned (.bool false)∧Below w.heap.size w w':=by
 have HL:Live w []:=trivial
 go_enter Tryz.func29,Tryz.ntmps29
 go_upto_region 1 with fail
 have HN:=hide ((NodeB.new w ⟨n,k,d,tg,m,u,gi,ti,we,hi⟩ (.slice A L1 c) (.slice A2 L2 c2)).below ((Below.refl _ _).alloc (Nat.le_refl _) (.cells (Hd.cells ⟨n,k,d,tg,m,u,gi,ti,we,hi⟩ (.slice A3 L3 c3) (.slice A4 L4 c4)) 25)))
 have HM:=hide (NodeB.new (w.alloc (.cells (Hd.cells ⟨n,k,d,tg,m,u,gi,ti,we,hi⟩ (.slice A L1 c) (.slice A2 L2 c2)) 25)) ⟨n,k,d,tg,m,u,gi,ti,we,hi⟩ (.slice A3 L3 c3) (.slice A4 L4 c4))
 have hbel:Below w.heap.size w ((w.alloc (.cells (Hd.cells ⟨n,k,d,tg,m,u,gi,ti,we,hi⟩ (.slice A L1 c) (.slice A2 L2 c2)) 25)).alloc (.cells (Hd.cells ⟨n,k,d,tg,m,u,gi,ti,we,hi⟩ (.slice A3 L3 c3) (.slice A4 L4 c4)) 25)):=((Below.refl _ _).alloc (Nat.le_refl _) _).alloc (by rw [World.size_alloc];omega) _
 rw [World.size_alloc] at HM
 generalize ((w.alloc (.cells (Hd.cells ⟨n,k,d,tg,m,u,gi,ti,we,hi⟩ (.slice A L1 c) (.slice A2 L2 c2)) 25)).alloc (.cells (Hd.cells ⟨n,k,d,tg,m,u,gi,ti,we,hi⟩ (.slice A3 L3 c3) (.slice A4 L4 c4)) 25))=W1 at *
 obtain⟨b2,hb2⟩:∃b2,b2=w.heap.size+1:=⟨_,rfl⟩
 rw [←hb2] at HM ⊢
 clear hb2
 obtain⟨b1,hb1⟩:∃b1,b1=w.heap.size:=⟨_,rfl⟩
 rw [←hb1] at HN ⊢
 clear hb1
 have l0:W1.cell? ⟨b1,0,none⟩=some (.string n):=HN.out.blk.cells 0
 have r0:W1.cell? ⟨b2,0,none⟩=some (.string n):=HM.out.blk.cells 0
 have l1:W1.cell? ⟨b1,1,none⟩=some (.int .i64 k):=HN.out.blk.cells 1
 have r1:W1.cell? ⟨b2,1,none⟩=some (.int .i64 k):=HM.out.blk.cells 1
 have l2:W1.cell? ⟨b1,2,none⟩=some (.string d):=HN.out.blk.cells 2
 have r2:W1.cell? ⟨b2,2,none⟩=some (.string d):=HM.out.blk.cells 2
 have l3:W1.cell? ⟨b1,3,none⟩=some (.string tg):=HN.out.blk.cells 3
 have r3:W1.cell? ⟨b2,3,none⟩=some (.string tg):=HM.out.blk.cells 3
 have l4:W1.cell? ⟨b1,4,none⟩=some (.int .i64 m):=HN.out.blk.cells 4
 have r4:W1.cell? ⟨b2,4,none⟩=some (.int .i64 m):=HM.out.blk.cells 4
 have l5:W1.cell? ⟨b1,5,none⟩=some (.int .i64 u):=HN.out.blk.cells 5
 have r5:W1.cell? ⟨b2,5,none⟩=some (.int .i64 u):=HM.out.blk.cells 5
 have l6:W1.cell? ⟨b1,6,none⟩=some (.int .i64 gi):=HN.out.blk.cells 6
 have r6:W1.cell? ⟨b2,6,none⟩=some (.int .i64 gi):=HM.out.blk.cells 6
 have l7:W1.cell? ⟨b1,7,none⟩=some (.int .i64 ti):=HN.out.blk.cells 7
 have r7:W1.cell? ⟨b2,7,none⟩=some (.int .i64 ti):=HM.out.blk.cells 7
 have l8:W1.cell? ⟨b1,8,none⟩=some (.int .i64 we):=HN.out.blk.cells 8
 have r8:W1.cell? ⟨b2,8,none⟩=some (.int .i64 we):=HM.out.blk.cells 8
 have l9:W1.cell? ⟨b1,9,none⟩=some (.int .i64 hi):=HN.out.blk.cells 9
 have r9:W1.cell? ⟨b2,9,none⟩=some (.int .i64 hi):=HM.out.blk.cells 9
 have l10:W1.cell? ⟨b1,10,none⟩=some (.slice A L1 c):=HN.out.blk.cells 10
 have r10:W1.cell? ⟨b2,10,none⟩=some (.slice A3 L3 c3):=HM.out.blk.cells 10
 have l11:W1.cell? ⟨b1,11,none⟩=some (.slice A2 L2 c2):=HN.out.blk.cells 11
 have r11:W1.cell? ⟨b2,11,none⟩=some (.slice A4 L4 c4):=HM.out.blk.cells 11
 have q:((L1:Int) != (L3:Int))=true:=by simp;omega
 clear h
 clear HN HM
 go_wp2_with fail
 go_ret
 exact⟨rfl,hbel⟩
theorem req_ns (n d tg:ByteArray) (k m u gi ti we hi:Int) (A A2 A3 A4:Option Addr) (L1 L2 L4 c c2 c3 c4:Nat) (h:L2≠L4) (w:World):Calls Tryz.prog 29 #[.agg (Hd.cells ⟨n,k,d,tg,m,u,gi,ti,we,hi⟩ (.slice A L1 c) (.slice A2 L2 c2)),.agg (Hd.cells ⟨n,k,d,tg,m,u,gi,ti,we,hi⟩ (.slice A3 L1 c3) (.slice A4 L4 c4))] w fun e w'=>e=.returned (.bool false)∧Below w.heap.size w w':=by
 have HL:Live w []:=trivial
 go_enter Tryz.func29,Tryz.ntmps29
 go_upto_region 1 with fail
 have HN:=hide ((NodeB.new w ⟨n,k,d,tg,m,u,gi,ti,we,hi⟩ (.slice A L1 c) (.slice A2 L2 c2)).below ((Below.refl _ _).alloc (Nat.le_refl _) (.cells (Hd.cells ⟨n,k,d,tg,m,u,gi,ti,we,hi⟩ (.slice A3 L1 c3) (.slice A4 L4 c4)) 25)))
 have HM:=hide (NodeB.new (w.alloc (.cells (Hd.cells ⟨n,k,d,tg,m,u,gi,ti,we,hi⟩ (.slice A L1 c) (.slice A2 L2 c2)) 25)) ⟨n,k,d,tg,m,u,gi,ti,we,hi⟩ (.slice A3 L1 c3) (.slice A4 L4 c4))
 have hbel:Below w.heap.size w ((w.alloc (.cells (Hd.cells ⟨n,k,d,tg,m,u,gi,ti,we,hi⟩ (.slice A L1 c) (.slice A2 L2 c2)) 25)).alloc (.cells (Hd.cells ⟨n,k,d,tg,m,u,gi,ti,we,hi⟩ (.slice A3 L1 c3) (.slice A4 L4 c4)) 25)):=((Below.refl _ _).alloc (Nat.le_refl _) _).alloc (by rw [World.size_alloc];omega) _
 rw [World.size_alloc] at HM
 generalize ((w.alloc (.cells (Hd.cells ⟨n,k,d,tg,m,u,gi,ti,we,hi⟩ (.slice A L1 c) (.slice A2 L2 c2)) 25)).alloc (.cells (Hd.cells ⟨n,k,d,tg,m,u,gi,ti,we,hi⟩ (.slice A3 L1 c3) (.slice A4 L4 c4)) 25))=W1 at *
 obtain⟨b2,hb2⟩:∃b2,b2=w.heap.size+1:=⟨_,rfl⟩
 rw [←hb2] at HM ⊢
 clear hb2
 obtain⟨b1,hb1⟩:∃b1,b1=w.heap.size:=⟨_,rfl⟩
 rw [←hb1] at HN ⊢
 clear hb1
 have l0:W1.cell? ⟨b1,0,none⟩=some (.string n):=HN.out.blk.cells 0
 have r0:W1.cell? ⟨b2,0,none⟩=some (.string n):=HM.out.blk.cells 0
 have l1:W1.cell? ⟨b1,1,none⟩=some (.int .i64 k):=HN.out.blk.cells 1
 have r1:W1.cell? ⟨b2,1,none⟩=some (.int .i64 k):=HM.out.blk.cells 1
 have l2:W1.cell? ⟨b1,2,none⟩=some (.string d):=HN.out.blk.cells 2
 have r2:W1.cell? ⟨b2,2,none⟩=some (.string d):=HM.out.blk.cells 2
 have l3:W1.cell? ⟨b1,3,none⟩=some (.string tg):=HN.out.blk.cells 3
 have r3:W1.cell? ⟨b2,3,none⟩=some (.string tg):=HM.out.blk.cells 3
 have l4:W1.cell? ⟨b1,4,none⟩=some (.int .i64 m):=HN.out.blk.cells 4
 have r4:W1.cell? ⟨b2,4,none⟩=some (.int .i64 m):=HM.out.blk.cells 4
 have l5:W1.cell? ⟨b1,5,none⟩=some (.int .i64 u):=HN.out.blk.cells 5
 have r5:W1.cell? ⟨b2,5,none⟩=some (.int .i64 u):=HM.out.blk.cells 5
 have l6:W1.cell? ⟨b1,6,none⟩=some (.int .i64 gi):=HN.out.blk.cells 6
 have r6:W1.cell? ⟨b2,6,none⟩=some (.int .i64 gi):=HM.out.blk.cells 6
 have l7:W1.cell? ⟨b1,7,none⟩=some (.int .i64 ti):=HN.out.blk.cells 7
 have r7:W1.cell? ⟨b2,7,none⟩=some (.int .i64 ti):=HM.out.blk.cells 7
 have l8:W1.cell? ⟨b1,8,none⟩=some (.int .i64 we):=HN.out.blk.cells 8
 have r8:W1.cell? ⟨b2,8,none⟩=some (.int .i64 we):=HM.out.blk.cells 8
 have l9:W1.cell? ⟨b1,9,none⟩=some (.int .i64 hi):=HN.out.blk.cells 9
 have r9:W1.cell? ⟨b2,9,none⟩=some (.int .i64 hi):=HM.out.blk.cells 9
 have l10:W1.cell? ⟨b1,10,none⟩=some (.slice A L1 c):=HN.out.blk.cells 10
 have r10:W1.cell? ⟨b2,10,none⟩=some (.slice A3 L1 c3):=HM.out.blk.cells 10
 have l11:W1.cell? ⟨b1,11,none⟩=some (.slice A2 L2 c2):=HN.out.blk.cells 11
 have r11:W1.cell? ⟨b2,11,none⟩=some (.slice A4 L4 c4):=HM.out.blk.cells 11
 have q:((L2:Int) != (L4:Int))=true:=by simp;omega
 have q0:((L1:Int) != (L1:Int))=false:=by simp
 clear h
 clear HN HM
 go_wp2_with fail
 go_ret
 exact⟨rfl,hbel⟩
end Go.Proofs.YtlhakdildbplkaaGreatDoor
