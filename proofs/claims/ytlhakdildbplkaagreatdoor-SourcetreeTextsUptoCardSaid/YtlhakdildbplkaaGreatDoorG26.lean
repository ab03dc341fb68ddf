/- Part of the claim: its words. -/
import Derived.Test.YtlhakdildbplkaaGreatDoorG25
set_option maxRecDepth 100000
set_option maxHeartbeats 4000000
namespace Go.Proofs.YtlhakdildbplkaaGreatDoor
set_option linter.unusedSimpArgs false
set_option linter.unusedVariables false
open Go.RowKit
theorem eq_n0 (n n' d d' tg tg':ByteArray) (k k' m m' u u' gi gi' ti ti' we we' hi hi':Int) (kv sv kv' sv':Value) (h:n≠n') (w:World):Calls Tryz.prog 40 #[.agg (Hd.cells ⟨n,k,d,tg,m,u,gi,ti,we,hi⟩ kv sv),.agg (Hd.cells ⟨n',k',d',tg',m',u',gi',ti',we',hi'⟩ kv' sv')] w fun e w'=>e=.returned (.bool false)∧Below w.heap.size w w':=by
 have HL:Live w []:=trivial
 go_enter Tryz.func40,Tryz.ntmps40
 go_upto_region 1 with fail
 have HN:=hide ((NodeB.new w ⟨n,k,d,tg,m,u,gi,ti,we,hi⟩ kv sv).below ((Below.refl _ _).alloc (Nat.le_refl _) (.cells (Hd.cells ⟨n',k',d',tg',m',u',gi',ti',we',hi'⟩ kv' sv') 25)))
 have HM:=hide (NodeB.new (w.alloc (.cells (Hd.cells ⟨n,k,d,tg,m,u,gi,ti,we,hi⟩ kv sv) 25)) ⟨n',k',d',tg',m',u',gi',ti',we',hi'⟩ kv' sv')
 have hbel:Below w.heap.size w ((w.alloc (.cells (Hd.cells ⟨n,k,d,tg,m,u,gi,ti,we,hi⟩ kv sv) 25)).alloc (.cells (Hd.cells ⟨n',k',d',tg',m',u',gi',ti',we',hi'⟩ kv' sv') 25)):=((Below.refl _ _).alloc (Nat.le_refl _) _).alloc (by rw [World.size_alloc];omega) _
 rw [World.size_alloc] at HM
 generalize ((w.alloc (.cells (Hd.cells ⟨n,k,d,tg,m,u,gi,ti,we,hi⟩ kv sv) 25)).alloc (.cells (Hd.cells ⟨n',k',d',tg',m',u',gi',ti',we',hi'⟩ kv' sv') 25))=W1 at *
 obtain⟨b2,hb2⟩:∃b2,b2=w.heap.size+1:=⟨_,rfl⟩
 rw [←hb2] at HM ⊢
 clear hb2
 obtain⟨b1,hb1⟩:∃b1,b1=w.heap.size:=⟨_,rfl⟩
 rw [←hb1] at HN ⊢
 clear hb1
 have l0:W1.cell? ⟨b1,0,none⟩=some (.string n):=HN.out.blk.cells 0
 have r0:W1.cell? ⟨b2,0,none⟩=some (.string n'):=HM.out.blk.cells 0
 have q:(n.toList == n'.toList)=false:=seq_n h
 clear h HN HM
 go_wp2_with fail
 go_ret
 exact⟨rfl,hbel⟩
theorem eq_n1 (n d d' tg tg':ByteArray) (k k' m m' u u' gi gi' ti ti' we we' hi hi':Int) (kv sv kv' sv':Value) (h:k≠k') (w:World):Calls Tryz.prog 40 #[.agg (Hd.cells ⟨n,k,d,tg,m,u,gi,ti,we,hi⟩ kv sv),.agg (Hd.cells ⟨n,k',d',tg',m',u',gi',ti',we',hi'⟩ kv' sv')] w fun e w'=>e=.returned (.bool false)∧Below w.heap.size w w':=by
 have HL:Live w []:=trivial
 go_enter Tryz.func40,Tryz.ntmps40
 go_upto_region 1 with fail
 have HN:=hide ((NodeB.new w ⟨n,k,d,tg,m,u,gi,ti,we,hi⟩ kv sv).below ((Below.refl _ _).alloc (Nat.le_refl _) (.cells (Hd.cells ⟨n,k',d',tg',m',u',gi',ti',we',hi'⟩ kv' sv') 25)))
 have HM:=hide (NodeB.new (w.alloc (.cells (Hd.cells ⟨n,k,d,tg,m,u,gi,ti,we,hi⟩ kv sv) 25)) ⟨n,k',d',tg',m',u',gi',ti',we',hi'⟩ kv' sv')
 have hbel:Below w.heap.size w ((w.alloc (.cells (Hd.cells ⟨n,k,d,tg,m,u,gi,ti,we,hi⟩ kv sv) 25)).alloc (.cells (Hd.cells ⟨n,k',d',tg',m',u',gi',ti',we',hi'⟩ kv' sv') 25)):=((Below.refl _ _).alloc (Nat.le_refl _) _).alloc (by rw [World.size_alloc];omega) _
 rw [World.size_alloc] at HM
 generalize ((w.alloc (.cells (Hd.cells ⟨n,k,d,tg,m,u,gi,ti,we,hi⟩ kv sv) 25)).alloc (.cells (Hd.cells ⟨n,k',d',tg',m',u',gi',ti',we',hi'⟩ kv' sv') 25))=W1 at *
 obtain⟨b2,hb2⟩:∃b2,b2=w.heap.size+1:=⟨_,rfl⟩
 rw [←hb2] at HM ⊢
 clear hb2
 obtain⟨b1,hb1⟩:∃b1,b1=w.heap.size:=⟨_,rfl⟩
 rw [←hb1] at HN ⊢
 clear hb1
 have l0:W1.cell? ⟨b1,0,none⟩=some (.string n):=HN.out.blk.cells 0
 have r0:W1.cell? ⟨b2,0,none⟩=some (.string n):=HM.out.blk.cells 0
 have l1:W1.cell? ⟨b1,1,none⟩=some (.int .i64 k):=HN.out.blk.cells 1
 have r1:W1.cell? ⟨b2,1,none⟩=some (.int .i64 k'):=HM.out.blk.cells 1
 have q:(k == k')=false:=by simpa using h
 have q2:(k != k')=true:=by simpa using h
 clear h HN HM
 go_wp2_with fail
 go_ret
 exact⟨rfl,hbel⟩
theorem eq_n2 (n d d' tg tg':ByteArray) (k m m' u u' gi gi' ti ti' we we' hi hi':Int) (kv sv kv' sv':Value) (h:d≠d') (w:World):Calls Tryz.prog 40 #[.agg (Hd.cells ⟨n,k,d,tg,m,u,gi,ti,we,hi⟩ kv sv),.agg (Hd.cells ⟨n,k,d',tg',m',u',gi',ti',we',hi'⟩ kv' sv')] w fun e w'=>e=.returned (.bool false)∧Below w.heap.size w w':=by
 have HL:Live w []:=trivial
 go_enter Tryz.func40,Tryz.ntmps40
 go_upto_region 1 with fail
 have HN:=hide ((NodeB.new w ⟨n,k,d,tg,m,u,gi,ti,we,hi⟩ kv sv).below ((Below.refl _ _).alloc (Nat.le_refl _) (.cells (Hd.cells ⟨n,k,d',tg',m',u',gi',ti',we',hi'⟩ kv' sv') 25)))
 have HM:=hide (NodeB.new (w.alloc (.cells (Hd.cells ⟨n,k,d,tg,m,u,gi,ti,we,hi⟩ kv sv) 25)) ⟨n,k,d',tg',m',u',gi',ti',we',hi'⟩ kv' sv')
 have hbel:Below w.heap.size w ((w.alloc (.cells (Hd.cells ⟨n,k,d,tg,m,u,gi,ti,we,hi⟩ kv sv) 25)).alloc (.cells (Hd.cells ⟨n,k,d',tg',m',u',gi',ti',we',hi'⟩ kv' sv') 25)):=((Below.refl _ _).alloc (Nat.le_refl _) _).alloc (by rw [World.size_alloc];omega) _
 rw [World.size_alloc] at HM
 generalize ((w.alloc (.cells (Hd.cells ⟨n,k,d,tg,m,u,gi,ti,we,hi⟩ kv sv) 25)).alloc (.cells (Hd.cells ⟨n,k,d',tg',m',u',gi',ti',we',hi'⟩ kv' sv') 25))=W1 at *
 obtain⟨b2,hb2⟩:∃b2,b2=w.heap.size+1:=⟨_,rfl⟩
 rw [←hb2] at HM ⊢
 clear hb2
 obtain⟨b1,hb1⟩:∃b1,b1=w.heap.size:=⟨_,rfl⟩
 rw [←hb1] at HN ⊢
 clear hb1
 have l0:W1.cell? ⟨b1,0,none⟩=some (.string n):=HN.out.blk.cells 0
 have r0:W1.cell? ⟨b2,0,none⟩=some (.string n):=HM.out.blk.cells 0
 have l1:W1.cell? ⟨b1,1,none⟩=some (.int .i64 k):=HN.out.blk.cells 1
 have r1:W1.cell? ⟨b2,1,none⟩=some (.int .i64 k):=HM.out.blk.cells 1
 have l2:W1.cell? ⟨b1,2,none⟩=some (.string d):=HN.out.blk.cells 2
 have r2:W1.cell? ⟨b2,2,none⟩=some (.string d'):=HM.out.blk.cells 2
 have q:(d.toList == d'.toList)=false:=seq_n h
 clear h HN HM
 go_wp2_with fail
 go_ret
 exact⟨rfl,hbel⟩
theorem eq_n3 (n d tg tg':ByteArray) (k m m' u u' gi gi' ti ti' we we' hi hi':Int) (kv sv kv' sv':Value) (h:tg≠tg') (w:World):Calls Tryz.prog 40 #[.agg (Hd.cells ⟨n,k,d,tg,m,u,gi,ti,we,hi⟩ kv sv),.agg (Hd.cells ⟨n,k,d,tg',m',u',gi',ti',we',hi'⟩ kv' sv')] w fun e w'=>e=.returned (.bool false)∧Below w.heap.size w w':=by
 have HL:Live w []:=trivial
 go_enter Tryz.func40,Tryz.ntmps40
 go_upto_region 1 with fail
 have HN:=hide ((NodeB.new w ⟨n,k,d,tg,m,u,gi,ti,we,hi⟩ kv sv).below ((Below.refl _ _).alloc (Nat.le_refl _) (.cells (Hd.cells ⟨n,k,d,tg',m',u',gi',ti',we',hi'⟩ kv' sv') 25)))
 have HM:=hide (NodeB.new (w.alloc (.cells (Hd.cells ⟨n,k,d,tg,m,u,gi,ti,we,hi⟩ kv sv) 25)) ⟨n,k,d,tg',m',u',gi',ti',we',hi'⟩ kv' sv')
 have hbel:Below w.heap.size w ((w.alloc (.cells (Hd.cells ⟨n,k,d,tg,m,u,gi,ti,we,hi⟩ kv sv) 25)).alloc (.cells (Hd.cells ⟨n,k,d,tg',m',u',gi',ti',we',hi'⟩ kv' sv') 25)):=((Below.refl _ _).alloc (Nat.le_refl _) _).alloc (by rw [World.size_alloc];omega) _
 rw [World.size_alloc] at HM
 generalize ((w.alloc (.cells (Hd.cells ⟨n,k,d,tg,m,u,gi,ti,we,hi⟩ kv sv) 25)).alloc (.cells (Hd.cells ⟨n,k,d,tg',m',u',gi',ti',we',hi'⟩ kv' sv') 25))=W1 at *
 obtain⟨b2,hb2⟩:∃b2,b2=w.heap.size+1:=⟨_,rfl⟩
 rw [←hb2] at HM ⊢
 clear hb2
 obtain⟨b1,hb1⟩:∃b1,b1=w.heap.size:=⟨_,rfl⟩
 rw [←hb1] at HN ⊢
 clear hb1
 have l0:W1.cell? ⟨b1,0,none⟩=some (.string n):=HN.out.blk.cells 0
 have r0:W1.cell? ⟨b2,0,none⟩=some (.string n):=HM.out.blk.cells 0
 have l1:W1.cell? ⟨b1,1,none⟩=some (.int .i64 k):=HN.out.blk.cells 1
 have r1:W1.cell? ⟨b2,1,none⟩=some (.int .i64 k):=HM.out.blk.cells 1
 have l2:W1.cell? ⟨b1,2,none⟩=some (.string d):=HN.out.blk.cells 2
 have r2:W1.cell? ⟨b2,2,none⟩=some (.string d):=HM.out.blk.cells 2
 have l3:W1.cell? ⟨b1,3,none⟩=some (.string tg):=HN.out.blk.cells 3
 have r3:W1.cell? ⟨b2,3,none⟩=some (.string tg'):=HM.out.blk.cells 3
 have q:(tg.toList == tg'.toList)=false:=seq_n h
 clear h HN HM
 go_wp2_with fail
 go_ret
 exact⟨rfl,hbel⟩
theorem eq_n4 (n d tg:ByteArray) (k m m' u u' gi gi' ti ti' we we' hi hi':Int) (kv sv kv' sv':Value) (h:m≠m') (w:World):Calls Tryz.prog 40 #[.agg (Hd.cells ⟨n,k,d,tg,m,u,gi,ti,we,hi⟩ kv sv),.agg (Hd.cells ⟨n,k,d,tg,m',u',gi',ti',we',hi'⟩ kv' sv')] w fun e w'=>e=.returned (.bool false)∧Below w.heap.size w w':=by
 have HL:Live w []:=trivial
 go_enter Tryz.func40,Tryz.ntmps40
 go_upto_region 1 with fail
 have HN:=hide ((NodeB.new w ⟨n,k,d,tg,m,u,gi,ti,we,hi⟩ kv sv).below ((Below.refl _ _).alloc (Nat.le_refl _) (.cells (Hd.cells ⟨n,k,d,tg,m',u',gi',ti',we',hi'⟩ kv' sv') 25)))
 have HM:=hide (NodeB.new (w.alloc (.cells (Hd.cells ⟨n,k,d,tg,m,u,gi,ti,we,hi⟩ kv sv) 25)) ⟨n,k,d,tg,m',u',gi',ti',we',hi'⟩ kv' sv')
 have hbel:Below w.heap.size w ((w.alloc (.cells (Hd.cells ⟨n,k,d,tg,m,u,gi,ti,we,hi⟩ kv sv) 25)).alloc (.cells (Hd.cells ⟨n,k,d,tg,m',u',gi',ti',we',hi'⟩ kv' sv') 25)):=((Below.refl _ _).alloc (Nat.le_refl _) _).alloc (by rw [World.size_alloc];omega) _
 rw [World.size_alloc] at HM
 generalize ((w.alloc (.cells (Hd.cells ⟨n,k,d,tg,m,u,gi,ti,we,hi⟩ kv sv) 25)).alloc (.cells (Hd.cells ⟨n,k,d,tg,m',u',gi',ti',we',hi'⟩ kv' sv') 25))=W1 at *
 obtain⟨b2,hb2⟩:∃b2,b2=w.heap.size+1:=⟨_,rfl⟩
 rw [←hb2] at HM ⊢
 clear hb2
 obtain⟨b1,hb1⟩:∃b1,b1=w.heap.size:=⟨_,rfl⟩
 rw [←hb1] at HN ⊢
 clear hb1
 have l0:W1.cell? ⟨b1,0,none⟩=some (.string n):=HN.out.blk.cells 0
 have r0:W1.cell? ⟨b2,0,none⟩=some (.string n):=HM.out.blk.cells 0
 have l1:W1.cell? ⟨b1,1,none⟩=some (.int .i64 k):=HN.out.blk.cells 1
 have r1:W1.cell? ⟨b2,1,none⟩=some (.int .i64 k):=HM.out.blk.cells 1
 have l2:W1.cell? ⟨b1,2,none⟩=some (.string d):=HN.out.blk.cells 2
 have r2:W1.cell? ⟨b2,2,none⟩=some (.string d):=HM.out.blk.cells 2
 have l3:W1.cell? ⟨b1,3,none⟩=some (.string tg):=HN.out.blk.cells 3
 have r3:W1.cell? ⟨b2,3,none⟩=some (.string tg):=HM.out.blk.cells 3
 have l4:W1.cell? ⟨b1,4,none⟩=some (.int .i64 m):=HN.out.blk.cells 4
 have r4:W1.cell? ⟨b2,4,none⟩=some (.int .i64 m'):=HM.out.blk.cells 4
 have q:(m == m')=false:=by simpa using h
 have q2:(m != m')=true:=by simpa using h
 clear h HN HM
 go_wp2_with fail
 go_ret
 exact⟨rfl,hbel⟩
end Go.Proofs.YtlhakdildbplkaaGreatDoor
