/- Part of the claim: its words. -/
import Derived.Test.YtlhakdildbplkaaGreatDoorG25
set_option maxRecDepth 100000
set_option maxHeartbeats 4000000
namespace Go.Proofs.YtlhakdildbplkaaGreatDoor
set_option linter.unusedSimpArgs false
set_option linter.unusedVariables false
open Go.RowKit
theorem eq_n5 (n d tg:ByteArray) (k m u u' gi gi' ti ti' we we' hi hi':Int) (kv sv kv' sv':Value) (h:u≠u') (w:World):Calls Tryz.prog 40 #[.agg (Hd.cells ⟨n,k,d,tg,m,u,gi,ti,we,hi⟩ kv sv),.agg (Hd.cells ⟨n,k,d,tg,m,u',gi',ti',we',hi'⟩ kv' sv')] w fun e w'=>e=.returned (.bool false)∧Below w.heap.size w w':=by
 have HL:Live w []:=trivial
 go_enter Tryz.func40,Tryz.ntmps40
 go_upto_region 1 with fail
 have HN:=hide ((NodeB.new w ⟨n,k,d,tg,m,u,gi,ti,we,hi⟩ kv sv).below ((Below.refl _ _).alloc (Nat.le_refl _) (.cells (Hd.cells ⟨n,k,d,tg,m,u',gi',ti',we',hi'⟩ kv' sv') 25)))
 have HM:=hide (NodeB.new (w.alloc (.cells (Hd.cells ⟨n,k,d,tg,m,u,gi,ti,we,hi⟩ kv sv) 25)) ⟨n,k,d,tg,m,u',gi',ti',we',hi'⟩ kv' sv')
 have hbel:Below w.heap.size w ((w.alloc (.cells (Hd.cells ⟨n,k,d,tg,m,u,gi,ti,we,hi⟩ kv sv) 25)).alloc (.cells (Hd.cells ⟨n,k,d,tg,m,u',gi',ti',we',hi'⟩ kv' sv') 25)):=((Below.refl _ _).alloc (Nat.le_refl _) _).alloc (by rw [World.size_alloc];omega) _
 rw [World.size_alloc] at HM
 generalize ((w.alloc (.cells (Hd.cells ⟨n,k,d,tg,m,u,gi,ti,we,hi⟩ kv sv) 25)).alloc (.cells (Hd.cells ⟨n,k,d,tg,m,u',gi',ti',we',hi'⟩ kv' sv') 25))=W1 at *
 obtain⟨b2,hb2⟩:∃b2,b2=w.heap.size+1:=⟨_,rfl⟩
 rw [←hb2] at HM ⊢
 clear hb2
 obtain⟨b1,hb1⟩:∃b1,b1=w.heap.size:=⟨_,rfl⟩
 rw [←hb1] at HN ⊢
 clear hb1
 have l0:W1.cell? ⟨b1,0,none⟩=some (.string n):=HN.out.blk.cells 0
 have r0:W1.cell? ⟨b2,0,none⟩=some (.string n):=HM.out.blk.cells 0
 have l1:W1.cell? ⟨b1,1,none⟩=some (.int .i64 k):=HN.out.blk.cells 1
 have r1:W1.cell? ⟨b2,1,none⟩=some (.int .i64 k):=HM.out.blk.cells 1
 have l2:W1.cell? ⟨b1,2,none⟩=some (.string d):=HN.out.blk.cells 2
 have r2:W1.cell? ⟨b2,2,none⟩=some (.string d):=HM.out.blk.cells 2
 have l3:W1.cell? ⟨b1,3,none⟩=some (.string tg):=HN.out.blk.cells 3
 have r3:W1.cell? ⟨b2,3,none⟩=some (.string tg):=HM.out.blk.cells 3
 have l4:W1.cell? ⟨b1,4,none⟩=some (.int .i64 m):=HN.out.blk.cells 4
 have r4:W1.cell? ⟨b2,4,none⟩=some (.int .i64 m):=HM.out.blk.cells 4
 have l5:W1.cell? ⟨b1,5,none⟩=some (.int .i64 u):=HN.out.blk.cells 5
 have r5:W1.cell? ⟨b2,5,none⟩=some (.int .i64 u'):=HM.out.blk.cells 5
 have q:(u == u')=false:=by simpa using h
 have q2:(u != u')=true:=by simpa using h
 clear h HN HM
 go_wp2_with fail
 go_ret
 exact⟨rfl,hbel⟩
theorem eq_n6 (n d tg:ByteArray) (k m u gi gi' ti ti' we we' hi hi':Int) (kv sv kv' sv':Value) (h:gi≠gi') (w:World):Calls Tryz.prog 40 #[.agg (Hd.cells ⟨n,k,d,tg,m,u,gi,ti,we,hi⟩ kv sv),.agg (Hd.cells ⟨n,k,d,tg,m,u,gi',ti',we',hi'⟩ kv' sv')] w fun e w'=>e=.returned (.bool false)∧Below w.heap.size w w':=by
 have HL:Live w []:=trivial
 go_enter Tryz.func40,Tryz.ntmps40
 go_upto_region 1 with fail
 have HN:=hide ((NodeB.new w ⟨n,k,d,tg,m,u,gi,ti,we,hi⟩ kv sv).below ((Below.refl _ _).alloc (Nat.le_refl _) (.cells (Hd.cells ⟨n,k,d,tg,m,u,gi',ti',we',hi'⟩ kv' sv') 25)))
 have HM:=hide (NodeB.new (w.alloc (.cells (Hd.cells ⟨n,k,d,tg,m,u,gi,ti,we,hi⟩ kv sv) 25)) ⟨n,k,d,tg,m,u,gi',ti',we',hi'⟩ kv' sv')
 have hbel:Below w.heap.size w ((w.alloc (.cells (Hd.cells ⟨n,k,d,tg,m,u,gi,ti,we,hi⟩ kv sv) 25)).alloc (.cells (Hd.cells ⟨n,k,d,tg,m,u,gi',ti',we',hi'⟩ kv' sv') 25)):=((Below.refl _ _).alloc (Nat.le_refl _) _).alloc (by rw [World.size_alloc];omega) _
 rw [World.size_alloc] at HM
 generalize ((w.alloc (.cells (Hd.cells ⟨n,k,d,tg,m,u,gi,ti,we,hi⟩ kv sv) 25)).alloc (.cells (Hd.cells ⟨n,k,d,tg,m,u,gi',ti',we',hi'⟩ kv' sv') 25))=W1 at *
 obtain⟨b2,hb2⟩:∃b2,b2=w.heap.size+1:=⟨_,rfl⟩
 rw [←hb2] at HM ⊢
 clear hb2
 obtain⟨b1,hb1⟩:∃b1,b1=w.heap.size:=⟨_,rfl⟩
 rw [←hb1] at HN ⊢
 clear hb1
 have l0:W1.cell? ⟨b1,0,none⟩=some (.string n):=HN.out.blk.cells 0
 have r0:W1.cell? ⟨b2,0,none⟩=some (.string n):=HM.out.blk.cells 0
 have l1:W1.cell? ⟨b1,1,none⟩=some (.int .i64 k):=HN.out.blk.cells 1
 have r1:W1.cell? ⟨b2,1,none⟩=some (.int .i64 k):=HM.out.blk.cells 1
 have l2:W1.cell? ⟨b1,2,none⟩=some (.string d):=HN.out.blk.cells 2
 have r2:W1.cell? ⟨b2,2,none⟩=some (.string d):=HM.out.blk.cells 2
 have l3:W1.cell? ⟨b1,3,none⟩=some (.string tg):=HN.out.blk.cells 3
 have r3:W1.cell? ⟨b2,3,none⟩=some (.string tg):=HM.out.blk.cells 3
 have l4:W1.cell? ⟨b1,4,none⟩=some (.int .i64 m):=HN.out.blk.cells 4
 have r4:W1.cell? ⟨b2,4,none⟩=some (.int .i64 m):=HM.out.blk.cells 4
 have l5:W1.cell? ⟨b1,5,none⟩=some (.int .i64 u):=HN.out.blk.cells 5
 have r5:W1.cell? ⟨b2,5,none⟩=some (.int .i64 u):=HM.out.blk.cells 5
 have l6:W1.cell? ⟨b1,6,none⟩=some (.int .i64 gi):=HN.out.blk.cells 6
 have r6:W1.cell? ⟨b2,6,none⟩=some (.int .i64 gi'):=HM.out.blk.cells 6
 have q:(gi == gi')=false:=by simpa using h
 have q2:(gi != gi')=true:=by simpa using h
 clear h HN HM
 go_wp2_with fail
 go_ret
 exact⟨rfl,hbel⟩
theorem eq_n7 (n d tg:ByteArray) (k m u gi ti ti' we we' hi hi':Int) (kv sv kv' sv':Value) (h:ti≠ti') (w:World):Calls Tryz.prog 40 #[.agg (Hd.cells ⟨n,k,d,tg,m,u,gi,ti,we,hi⟩ kv sv),.agg (Hd.cells ⟨n,k,d,tg,m,u,gi,ti',we',hi'⟩ kv' sv')] w fun e w'=>e=.returned (.bool false)∧Below w.heap.size w w':=by
 have HL:Live w []:=trivial
 go_enter Tryz.func40,Tryz.ntmps40
 go_upto_region 1 with fail
 have HN:=hide ((NodeB.new w ⟨n,k,d,tg,m,u,gi,ti,we,hi⟩ kv sv).below ((Below.refl _ _).alloc (Nat.le_refl _) (.cells (Hd.cells ⟨n,k,d,tg,m,u,gi,ti',we',hi'⟩ kv' sv') 25)))
 have HM:=hide (NodeB.new (w.alloc (.cells (Hd.cells ⟨n,k,d,tg,m,u,gi,ti,we,hi⟩ kv sv) 25)) ⟨n,k,d,tg,m,u,gi,ti',we',hi'⟩ kv' sv')
 have hbel:Below w.heap.size w ((w.alloc (.cells (Hd.cells ⟨n,k,d,tg,m,u,gi,ti,we,hi⟩ kv sv) 25)).alloc (.cells (Hd.cells ⟨n,k,d,tg,m,u,gi,ti',we',hi'⟩ kv' sv') 25)):=((Below.refl _ _).alloc (Nat.le_refl _) _).alloc (by rw [World.size_alloc];omega) _
 rw [World.size_alloc] at HM
 generalize ((w.alloc (.cells (Hd.cells ⟨n,k,d,tg,m,u,gi,ti,we,hi⟩ kv sv) 25)).alloc (.cells (Hd.cells ⟨n,k,d,tg,m,u,gi,ti',we',hi'⟩ kv' sv') 25))=W1 at *
 obtain⟨b2,hb2⟩:∃b2,b2=w.heap.size+1:=⟨_,rfl⟩
 rw [←hb2] at HM ⊢
 clear hb2
 obtain⟨b1,hb1⟩:∃b1,b1=w.heap.size:=⟨_,rfl⟩
 rw [←hb1] at HN ⊢
 clear hb1
 have l0:W1.cell? ⟨b1,0,none⟩=some (.string n):=HN.out.blk.cells 0
 have r0:W1.cell? ⟨b2,0,none⟩=some (.string n):=HM.out.blk.cells 0
 have l1:W1.cell? ⟨b1,1,none⟩=some (.int .i64 k):=HN.out.blk.cells 1
 have r1:W1.cell? ⟨b2,1,none⟩=some (.int .i64 k):=HM.out.blk.cells 1
 have l2:W1.cell? ⟨b1,2,none⟩=some (.string d):=HN.out.blk.cells 2
 have r2:W1.cell? ⟨b2,2,none⟩=some (.string d):=HM.out.blk.cells 2
 have l3:W1.cell? ⟨b1,3,none⟩=some (.string tg):=HN.out.blk.cells 3
 have r3:W1.cell? ⟨b2,3,none⟩=some (.string tg):=HM.out.blk.cells 3
 have l4:W1.cell? ⟨b1,4,none⟩=some (.int .i64 m):=HN.out.blk.cells 4
 have r4:W1.cell? ⟨b2,4,none⟩=some (.int .i64 m):=HM.out.blk.cells 4
 have l5:W1.cell? ⟨b1,5,none⟩=some (.int .i64 u):=HN.out.blk.cells 5
 have r5:W1.cell? ⟨b2,5,none⟩=some (.int .i64 u):=HM.out.blk.cells 5
 have l6:W1.cell? ⟨b1,6,none⟩=some (.int .i64 gi):=HN.out.blk.cells 6
 have r6:W1.cell? ⟨b2,6,none⟩=some (.int .i64 gi):=HM.out.blk.cells 6
 have l7:W1.cell? ⟨b1,7,none⟩=some (.int .i64 ti):=HN.out.blk.cells 7
 have r7:W1.cell? ⟨b2,7,none⟩=some (.int .i64 ti'):=HM.out.blk.cells 7
 have q:(ti == ti')=false:=by simpa using h
 have q2:(ti != ti')=true:=by simpa using h
 clear h HN HM
 go_wp2_with fail
 go_ret
 exact⟨rfl,hbel⟩
theorem eq_n8 (n d tg:ByteArray) (k m u gi ti we we' hi hi':Int) (kv sv kv' sv':Value) (h:we≠we') (w:World):Calls Tryz.prog 40 #[.agg (Hd.cells ⟨n,k,d,tg,m,u,gi,ti,we,hi⟩ kv sv),.agg (Hd.cells ⟨n,k,d,tg,m,u,gi,ti,we',hi'⟩ kv' sv')] w fun e w'=>e=.returned (.bool false)∧Below w.heap.size w w':=by
 have HL:Live w []:=trivial
 go_enter Tryz.func40,Tryz.ntmps40
 go_upto_region 1 with fail
 have HN:=hide ((NodeB.new w ⟨n,k,d,tg,m,u,gi,ti,we,hi⟩ kv sv).below ((Below.refl _ _).alloc (Nat.le_refl _) (.cells (Hd.cells ⟨n,k,d,tg,m,u,gi,ti,we',hi'⟩ kv' sv') 25)))
 have HM:=hide (NodeB.new (w.alloc (.cells (Hd.cells ⟨n,k,d,tg,m,u,gi,ti,we,hi⟩ kv sv) 25)) ⟨n,k,d,tg,m,u,gi,ti,we',hi'⟩ kv' sv')
 have hbel:Below w.heap.size w ((w.alloc (.cells (Hd.cells ⟨n,k,d,tg,m,u,gi,ti,we,hi⟩ kv sv) 25)).alloc (.cells (Hd.cells ⟨n,k,d,tg,m,u,gi,ti,we',hi'⟩ kv' sv') 25)):=((Below.refl _ _).alloc (Nat.le_refl _) _).alloc (by rw [World.size_alloc];omega) _
 rw [World.size_alloc] at HM
 generalize ((w.alloc (.cells (Hd.cells ⟨n,k,d,tg,m,u,gi,ti,we,hi⟩ kv sv) 25)).alloc (.cells (Hd.cells ⟨n,k,d,tg,m,u,gi,ti,we',hi'⟩ kv' sv') 25))=W1 at *
 obtain⟨b2,hb2⟩:∃b2,b2=w.heap.size+1:=⟨_,rfl⟩
 rw [←hb2] at HM ⊢
 clear hb2
 obtain⟨b1,hb1⟩:∃b1,b1=w.heap.size:=⟨_,rfl⟩
 rw [←hb1] at HN ⊢
 clear hb1
 have l0:W1.cell? ⟨b1,0,none⟩=some (.string n):=HN.out.blk.cells 0
 have r0:W1.cell? ⟨b2,0,none⟩=some (.string n):=HM.out.blk.cells 0
 have l1:W1.cell? ⟨b1,1,none⟩=some (.int .i64 k):=HN.out.blk.cells 1
 have r1:W1.cell? ⟨b2,1,none⟩=some (.int .i64 k):=HM.out.blk.cells 1
 have l2:W1.cell? ⟨b1,2,none⟩=some (.string d):=HN.out.blk.cells 2
 have r2:W1.cell? ⟨b2,2,none⟩=some (.string d):=HM.out.blk.cells 2
 have l3:W1.cell? ⟨b1,3,none⟩=some (.string tg):=HN.out.blk.cells 3
 have r3:W1.cell? ⟨b2,3,none⟩=some (.string tg):=HM.out.blk.cells 3
 have l4:W1.cell? ⟨b1,4,none⟩=some (.int .i64 m):=HN.out.blk.cells 4
 have r4:W1.cell? ⟨b2,4,none⟩=some (.int .i64 m):=HM.out.blk.cells 4
 have l5:W1.cell? ⟨b1,5,none⟩=some (.int .i64 u):=HN.out.blk.cells 5
 have r5:W1.cell? ⟨b2,5,none⟩=some (.int .i64 u):=HM.out.blk.cells 5
 have l6:W1.cell? ⟨b1,6,none⟩=some (.int .i64 gi):=HN.out.blk.cells 6
 have r6:W1.cell? ⟨b2,6,none⟩=some (.int .i64 gi):=HM.out.blk.cells 6
 have l7:W1.cell? ⟨b1,7,none⟩=some (.int .i64 ti):=HN.out.blk.cells 7
 have r7:W1.cell? ⟨b2,7,none⟩=some (.int .i64 ti):=HM.out.blk.cells 7
 have l8:W1.cell? ⟨b1,8,none⟩=some (.int .i64 we):=HN.out.blk.cells 8
 have r8:W1.cell? ⟨b2,8,none⟩=some (.int .i64 we'):=HM.out.blk.cells 8
 have q:(we == we')=false:=by simpa using h
 have q2:(we != we')=true:=by simpa using h
 clear h HN HM
 go_wp2_with fail
 go_ret
 exact⟨rfl,hbel⟩
theorem eq_n9 (n d tg:ByteArray) (k m u gi ti we hi hi':Int) (kv sv kv' sv':Value) (h:hi≠hi') (w:World):Calls Tryz.prog 40 #[.agg (Hd.cells ⟨n,k,d,tg,m,u,gi,ti,we,hi⟩ kv sv),.agg (Hd.cells ⟨n,k,d,tg,m,u,gi,ti,we,hi'⟩ kv' sv')] w fun e w'=>e=.returned (.bool false)∧Below w.heap.size w w':=by
 have HL:Live w []:=trivial
 go_enter Tryz.func40,Tryz.ntmps40
 go_upto_region 1 with fail
 have HN:=hide ((NodeB.new w ⟨n,k,d,tg,m,u,gi,ti,we,hi⟩ kv sv).below ((Below.refl _ _).alloc (Nat.le_refl _) (.cells (Hd.cells ⟨n,k,d,tg,m,u,gi,ti,we,hi'⟩ kv' sv') 25)))
 have HM:=hide (NodeB.new (w.alloc (.cells (Hd.cells ⟨n,k,d,tg,m,u,gi,ti,we,hi⟩ kv sv) 25)) ⟨n,k,d,tg,m,u,gi,ti,we,hi'⟩ kv' sv')
 have hbel:Below w.heap.size w ((w.alloc (.cells (Hd.cells ⟨n,k,d,tg,m,u,gi,ti,we,hi⟩ kv sv) 25)).alloc (.cells (Hd.cells ⟨n,k,d,tg,m,u,gi,ti,we,hi'⟩ kv' sv') 25)):=((Below.refl _ _).alloc (Nat.le_refl _) _).alloc (by rw [World.size_alloc];omega) _
 rw [World.size_alloc] at HM
 generalize ((w.alloc (.cells (Hd.cells ⟨n,k,d,tg,m,u,gi,ti,we,hi⟩ kv sv) 25)).alloc (.cells (Hd.cells ⟨n,k,d,tg,m,u,gi,ti,we,hi'⟩ kv' sv') 25))=W1 at *
 obtain⟨b2,hb2⟩:∃b2,b2=w.heap.size+1:=⟨_,rfl⟩
 rw [←hb2] at HM ⊢
 clear hb2
 obtain⟨b1,hb1⟩:∃b1,b1=w.heap.size:=⟨_,rfl⟩
 rw [←hb1] at HN ⊢
 clear hb1
 have l0:W1.cell? ⟨b1,0,none⟩=some (.string n):=HN.out.blk.cells 0
 have r0:W1.cell? ⟨b2,0,none⟩=some (.string n):=HM.out.blk.cells 0
 have l1:W1.cell? ⟨b1,1,none⟩=some (.int .i64 k):=HN.out.blk.cells 1
 have r1:W1.cell? ⟨b2,1,none⟩=some (.int .i64 k):=HM.out.blk.cells 1
 have l2:W1.cell? ⟨b1,2,none⟩=some (.string d):=HN.out.blk.cells 2
 have r2:W1.cell? ⟨b2,2,none⟩=some (.string d):=HM.out.blk.cells 2
 have l3:W1.cell? ⟨b1,3,none⟩=some (.string tg):=HN.out.blk.cells 3
 have r3:W1.cell? ⟨b2,3,none⟩=some (.string tg):=HM.out.blk.cells 3
 have l4:W1.cell? ⟨b1,4,none⟩=some (.int .i64 m):=HN.out.blk.cells 4
 have r4:W1.cell? ⟨b2,4,none⟩=some (.int .i64 m):=HM.out.blk.cells 4
 have l5:W1.cell? ⟨b1,5,none⟩=some (.int .i64 u):=HN.out.blk.cells 5
 have r5:W1.cell? ⟨b2,5,none⟩=some (.int .i64 u):=HM.out.blk.cells 5
 have l6:W1.cell? ⟨b1,6,none⟩=some (.int .i64 gi):=HN.out.blk.cells 6
 have r6:W1.cell? ⟨b2,6,none⟩=some (.int .i64 gi):=HM.out.blk.cells 6
 have l7:W1.cell? ⟨b1,7,none⟩=some (.int .i64 ti):=HN.out.blk.cells 7
 have r7:W1.cell? ⟨b2,7,none⟩=some (.int .i64 ti):=HM.out.blk.cells 7
 have l8:W1.cell? ⟨b1,8,none⟩=some (.int .i64 we):=HN.out.blk.cells 8
 have r8:W1.cell? ⟨b2,8,none⟩=some (.int .i64 we):=HM.out.blk.cells 8
 have l9:W1.cell? ⟨b1,9,none⟩=some (.int .i64 hi):=HN.out.blk.cells 9
 have r9:W1.cell? ⟨b2,9,none⟩=some (.int .i64 hi'):=HM.out.blk.cells 9
 have q:(hi == hi')=false:=by simpa using h
 have q2:(hi != hi')=true:=by simpa using h
 clear h HN HM
 go_wp2_with fail
 go_ret
 exact⟨rfl,hbel⟩
end Go.Proofs.YtlhakdildbplkaaGreatDoor
