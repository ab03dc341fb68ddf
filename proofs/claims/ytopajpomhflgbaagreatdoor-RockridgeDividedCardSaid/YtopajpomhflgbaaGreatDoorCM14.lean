/- Contract of rockridge.Read at the entries that say something: the walk. -/
import Derived.Test.YtopajpomhflgbaaGreatDoorCM15
namespace Go.Proofs.YtopajpomhflgbaaGreatDoor
set_option linter.unusedSimpArgs false
set_option linter.unusedVariables false
open Go.RowKit

set_option maxRecDepth 100000 in
set_option maxHeartbeats 16000000 in
theorem read_says (L : List En) (r : RR) (h : Says L r) (a : Value) (w : World) (hT : TabV w) (ha : ReadsE w a L) : Calls Tryz.prog 20 #[a] w fun e w' => e = .returned (.tuple #[.agg r.cells, .int .i64 0]) ∧ Below w.heap.size w w' := by
  have F1 := hide (fun W hW => first_any L sPX a W h.len hW)
  rw [h.px] at F1
  have HS := hide h
  have hok := h.ok
  have hLn := h.len
  clear h
  obtain ⟨z1, z2, z3, z4, z5, z6, z7, z8, z9⟩ := chk_zero hok
  obtain ⟨y1, y2, y3, y4⟩ := chk_more hok
  have HOK := hide hok
  clear hok
  have HL : Live w [] := trivial
  go_enter Tryz.func20, Tryz.ntmps20
  go_upto_region 2 with fail
  obtain ⟨W0, hW0⟩ : ∃ W0, W0 = (w.alloc (.cells rc0 23)).alloc (.cells rc0 23) := ⟨_, rfl⟩
  obtain ⟨rb, hrb⟩ : ∃ rb, rb = w.heap.size + 1 := ⟨_, rfl⟩
  have hRW0 : RW w rb rc0 W0 := ⟨by rw [hW0]; exact (Blk.newAt rfl).alloc _, by rw [hW0, hrb]; exact Blk.newAt (World.size_alloc _ _), by rw [hW0]; (repeat' (first | (with_reducible exact Below.refl _ _) | (with_reducible refine Below.alloc ?_ ?_ _) | (with_reducible refine Below.setCell ?_ ?_ _) | (with_reducible refine Below.drew ?_) | (with_reducible refine below_drewN' ?_) | (with_reducible refine below_bytesW ?_ ?_) | (with_reducible refine Below.trans ?_ (Below.mono (by assumption) ?_)) | omega | (simp only [World.size_alloc, World.size_setCell, World.size_drew]; omega) | (simp [size_bytesW]; omega) | (simp; omega)))⟩
  unfold rc0 RR.cells RR.zero at hW0
  simp only at hW0
  rw [← hrb, ← hW0]
  have hrw : w.heap.size < rb := by omega
  clear hW0 hrb
  have hsz0 := hRW0.size
  have ha0 := ha.below hRW0.2.2
  go_wp2_with fail
  refine (F1.out _ ha0).mono ?_
  rintro e w1 ⟨rfl, hb1⟩
  have hz1 := hb1.size
  have hRW1 : RW w rb rc0 (w1.alloc (.cells #[.string (pxD r)] 9)) := ⟨(hRW0.1.below hb1).alloc _, (hRW0.2.1.below hb1).alloc _, (hRW0.2.2.trans (hb1.mono (by omega))).alloc (by omega) _⟩
  go_upto_if 30 with fail
  go_cut [4, 5, 6] (fun p q s wx => p = .pointer (some ⟨rb, 0, none⟩) ∧ RW w rb (rcA r) wx)
  case first =>
    cases ea : r.att
    case false =>
      obtain ⟨k1, k2, k3, k4, k5⟩ := y1 ea
      have E := hide (show rcA r = rc0 by unfold rcA rc0; rw [ea, k1, k2, k3, k4, k5]; rfl)
      clear ea k1 k2 k3 k4 k5
      go_wp2
      go_meet
      exact ⟨rfl, by rw [E.out]; exact hRW1⟩
    case true =>
      have hk := z1 ea
      have HPX := hide (px_le r HOK.out ea)
      have hps := pxS_size r
      have HA := hide ea
      have hpd : pxD r = pxS r := by unfold pxD; rw [ea]; rfl
      rw [hpd] at hRW1 ⊢
      clear ea hpd
      obtain ⟨db, hdb⟩ : ∃ db, db = w1.heap.size := ⟨_, rfl⟩
      obtain ⟨W1, hW1⟩ : ∃ W1, W1 = w1.alloc (.cells #[.string (pxS r)] 9) := ⟨_, rfl⟩
      rw [← hW1] at hRW1
      rw [← hdb, ← hW1]
      have hDB : Blk W1 db #[.string (pxS r)] 9 := by rw [hW1, hdb]; exact Blk.newAt rfl
      have hdlt := hDB.lt
      have hrdb : rb < db := by omega
      clear hW1 hdb
      have hdc : W1.cell? ⟨db, 0, none⟩ = some (.string (pxS r)) := hDB.cells 0
      have IK := hide (fun g c W (hc : W.cell? ⟨db, 0, none⟩ = some (.string (pxS r))) h0 h1 h2 => idx_kind g c db r.kind r.mode (pxS r) W hk z3 (by omega) (by omega) HPX.out.1 hc h0 h1 h2)
      go_wp2_with fail
      refine Calls.mono (IK.out _ _ _ (by go_simp) (by go_simp) (by go_simp) (by go_simp)) ?_
      rintro e w2 ⟨rfl, hb2⟩
      have hz2 := hb2.size
      rw [World.size_alloc] at hz2
      have hRW2 : RW w rb rc0 w2 := ⟨(hRW1.1.alloc _).below hb2, (hRW1.2.1.alloc _).below hb2, (hRW1.2.2.alloc (by have := hRW1.2.2.size; omega) _).trans (hb2.mono (by rw [World.size_alloc]; have := hRW1.2.2.size; omega))⟩
      have hDB2 := (hDB.alloc (.cells #[.int .i64 0, .int .i64 1, .int .i64 2] 3)).below hb2
      have hdc2 : w2.cell? ⟨db, 0, none⟩ = some (.string (pxS r)) := hDB2.cells 0
      have hrr2 := RRat.of (r := RR.zero) hRW2.2.1
      unfold RRat RR.zero at hrr2
      simp only at hrr2
      have hfz2 := hRW2.2.1.free
      have NX0 := hide (fun W => num_px r 0 0 _ rfl (by omega) HPX.out.1 W)
      have NX1 := hide (fun W => num_px r 1 8 _ rfl (by omega) HPX.out.2.1 W)
      have NX2 := hide (fun W => num_px r 2 16 _ rfl (by omega) HPX.out.2.2.1 W)
      have NX3 := hide (fun W => num_px r 3 24 _ rfl (by omega) HPX.out.2.2.2 W)
      have hand : bits .and .i64 (r.mode + kindN r.kind * 4096) 4095 = r.mode := and_low _ _ z3 (kindN_cases _)
      have hkk : decide (r.kind < 0) = false := by simp; omega
      obtain ⟨H1, H2, H3⟩ := hRW2
      clear hRW1 hdc hDB hps IK
      have c1 : ((0 : Nat) : Int) = 0 := rfl
      have c2 : ((1 : Nat) : Int) = 1 := rfl
      have c3 : ((2 : Nat) : Int) = 2 := rfl
      have c4 : ((3 : Nat) : Int) = 3 := rfl
      rw [c1] at NX0
      rw [c2] at NX1
      rw [c3] at NX2
      rw [c4] at NX3
      clear c1 c2 c3 c4
      go_upto_region 10 with (first | (go_at_call 51; (with_reducible refine (NX0.out _).mono ?_); rintro e w' ⟨rfl, rfl⟩))
      obtain ⟨W3, hW3⟩ : ∃ W3, W3 = ((w2.setCell ⟨rb, 0, none⟩ (.bool true)).setCell ⟨rb, 1, none⟩ (.int .i64 r.kind)).setCell ⟨rb, 2, none⟩ (.int .i64 r.mode) := ⟨_, rfl⟩
      rw [← hW3]
      have hA3 : Blk W3 w.heap.size rc0 23 := by rw [hW3]; exact ((H1.other (by omega)).other (by omega)).other (by omega)
      have hR3 : Blk W3 rb (RR.cells { RR.zero with att := true, kind := r.kind, mode := r.mode }) 23 := by rw [hW3]; exact (((H2.put1).put1).put1).cast rfl
      have hD3 : Blk W3 db #[.string (pxS r)] 9 := by rw [hW3]; exact ((hDB2.other (by omega)).other (by omega)).other (by omega)
      have hb3 : Below w.heap.size w W3 := by rw [hW3]; exact ((H3.setCell (by show w.heap.size ≤ rb; omega) _).setCell (by show w.heap.size ≤ rb; omega) _).setCell (by show w.heap.size ≤ rb; omega) _
      have hrc : rcA r = RR.cells { RR.zero with att := true, kind := r.kind, mode := r.mode, links := r.links, uid := r.uid, gid := r.gid } := by unfold rcA; rw [HA.out]
      clear hW3 H1 H2 H3 hrr2 hfz2 hDB2 hdc2 hb2
      have hrr3 := RRat.of hR3
      unfold RRat RR.zero at hrr3
      simp only at hrr3
      have hfz3 := hR3.free
      have hdc3 : W3.cell? ⟨db, 0, none⟩ = some (.string (pxS r)) := hD3.cells 0
      have HRC := hide hrc
      clear hrc
      refine wp_region_noPanic ?_
      refine wp_region_held_drew (S := (fun x => x.cell? ⟨db, 0, none⟩ = some (.string (pxS r)))) (by kernel_rfl) (by (try dsimp only); first | assumption | (simp [*, go_sem]; done) | (refine ⟨?_, ?_⟩ <;> simp [*, go_sem])) (fun hHeld => ?_)
      refine wpAnyH_take (i := 0) (oi := { dst := some 48, op := Go.Op.load 9 (Go.Operand.tmp 5), type := 9, pos := "rockridge.go:169", after := #[], guard := none }) (v := ?_) rfl (by kernel_rfl) (by kernel_rfl) (by kernel_rfl) (fun _ _ _ h => h) (Or.inl ⟨by rfl, ?_⟩) (by assumption) ?_
      rotate_left
      · intro w hSw; (try dsimp only at hSw); go_simp; (try with_reducible rfl)
      try simp only [Act.put, List.setIfInBounds_toArray, List.set_cons_zero, List.set_cons_succ]
      refine wpAnyH_take (i := 2) (oi := { dst := some 50, op := Go.Op.load 9 (Go.Operand.tmp 5), type := 9, pos := "rockridge.go:169", after := #[], guard := none }) (v := ?_) rfl (by kernel_rfl) (by kernel_rfl) (by kernel_rfl) (fun _ _ _ h => h) (Or.inl ⟨by rfl, ?_⟩) (by assumption) ?_
      rotate_left
      · intro w hSw; (try dsimp only at hSw); go_simp; (try with_reducible rfl)
      try simp only [Act.put, List.setIfInBounds_toArray, List.set_cons_zero, List.set_cons_succ]
      refine wpAnyH_take (i := 4) (oi := { dst := some 52, op := Go.Op.load 9 (Go.Operand.tmp 5), type := 9, pos := "rockridge.go:169", after := #[], guard := none }) (v := ?_) rfl (by kernel_rfl) (by kernel_rfl) (by kernel_rfl) (fun _ _ _ h => h) (Or.inl ⟨by rfl, ?_⟩) (by assumption) ?_
      rotate_left
      · intro w hSw; (try dsimp only at hSw); go_simp; (try with_reducible rfl)
      try simp only [Act.put, List.setIfInBounds_toArray, List.set_cons_zero, List.set_cons_succ]
      refine wpAnyH_ready (rs := [1]) (by kernel_rfl) (by simp) ?_
      refine AllReadyH.cons (o := { dst := some 49, op := Go.Op.call { callee := Go.Callee.value (Go.Operand.func 51), args := #[Go.Operand.tmp 48, Go.Operand.const (Go.Value.int Go.IntKind.i64 1)], argTypes := #[9, 3] }, type := 3, pos := "rockridge.go:169", after := #[{ on := 0, ground := Go.Ground.data }], guard := none }) rfl (fun K hK => ?_) AllReadyH.nil
      go_simp
      (first | (go_at_call 51; (with_reducible refine (NX1.out _).mono ?_); rintro e w' ⟨rfl, rfl⟩) | (go_at_call 51; (with_reducible refine (NX2.out _).mono ?_); rintro e w' ⟨rfl, rfl⟩) | (go_at_call 51; (with_reducible refine (NX3.out _).mono ?_); rintro e w' ⟨rfl, rfl⟩))
      go_wp2_with fail
      refine hK.out _ _ (by (try dsimp only); first | assumption | (simp [*, go_sem]; done) | (refine ⟨?_, ?_⟩ <;> simp [*, go_sem])) (fun hHeld => ?_)
      clear hK K
      try simp only [Act.put, List.setIfInBounds_toArray, List.set_cons_zero, List.set_cons_succ]
      refine wpAnyH_ready (rs := [3]) (by kernel_rfl) (by simp) ?_
      refine AllReadyH.cons (o := { dst := some 51, op := Go.Op.call { callee := Go.Callee.value (Go.Operand.func 51), args := #[Go.Operand.tmp 50, Go.Operand.const (Go.Value.int Go.IntKind.i64 2)], argTypes := #[9, 3] }, type := 3, pos := "rockridge.go:169", after := #[{ on := 2, ground := Go.Ground.data }, { on := 1, ground := Go.Ground.chain }], guard := none }) rfl (fun K hK => ?_) AllReadyH.nil
      go_simp
      (first | (go_at_call 51; (with_reducible refine (NX1.out _).mono ?_); rintro e w' ⟨rfl, rfl⟩) | (go_at_call 51; (with_reducible refine (NX2.out _).mono ?_); rintro e w' ⟨rfl, rfl⟩) | (go_at_call 51; (with_reducible refine (NX3.out _).mono ?_); rintro e w' ⟨rfl, rfl⟩))
      go_wp2_with fail
      refine hK.out _ _ (by (try dsimp only); first | assumption | (simp [*, go_sem]; done) | (refine ⟨?_, ?_⟩ <;> simp [*, go_sem])) (fun hHeld => ?_)
      clear hK K
      try simp only [Act.put, List.setIfInBounds_toArray, List.set_cons_zero, List.set_cons_succ]
      refine wpAnyH_ready (rs := [5]) (by kernel_rfl) (by simp) ?_
      refine AllReadyH.cons (o := { dst := some 53, op := Go.Op.call { callee := Go.Callee.value (Go.Operand.func 51), args := #[Go.Operand.tmp 52, Go.Operand.const (Go.Value.int Go.IntKind.i64 3)], argTypes := #[9, 3] }, type := 3, pos := "rockridge.go:169", after := #[{ on := 4, ground := Go.Ground.data }, { on := 3, ground := Go.Ground.chain }], guard := none }) rfl (fun K hK => ?_) AllReadyH.nil
      go_simp
      (first | (go_at_call 51; (with_reducible refine (NX1.out _).mono ?_); rintro e w' ⟨rfl, rfl⟩) | (go_at_call 51; (with_reducible refine (NX2.out _).mono ?_); rintro e w' ⟨rfl, rfl⟩) | (go_at_call 51; (with_reducible refine (NX3.out _).mono ?_); rintro e w' ⟨rfl, rfl⟩))
      go_wp2_with fail
      refine hK.out _ _ (by (try dsimp only); first | assumption | (simp [*, go_sem]; done) | (refine ⟨?_, ?_⟩ <;> simp [*, go_sem])) (fun hHeld => ?_)
      clear hK K
      try simp only [Act.put, List.setIfInBounds_toArray, List.set_cons_zero, List.set_cons_succ]
      refine wpAnyH_take (i := 6) (oi := { dst := some 54, op := Go.Op.fieldAddr 23 (Go.Operand.tmp 4) 3, type := 0, pos := "rockridge.go:169", after := #[{ on := 0, ground := Go.Ground.phase }, { on := 1, ground := Go.Ground.phase }, { on := 2, ground := Go.Ground.textOnly Go.Departure.lateStores }, { on := 3, ground := Go.Ground.phase }, { on := 4, ground := Go.Ground.textOnly Go.Departure.lateStores }, { on := 5, ground := Go.Ground.phase }], guard := none }) (v := ?_) rfl (by kernel_rfl) (by kernel_rfl) (by kernel_rfl) (fun _ _ _ h => h) (Or.inl ⟨by rfl, ?_⟩) (by assumption) ?_
      rotate_left
      · intro w hSw; (try dsimp only at hSw); go_simp; (try with_reducible rfl)
      try simp only [Act.put, List.setIfInBounds_toArray, List.set_cons_zero, List.set_cons_succ]
      refine wpAnyH_ready (rs := [7]) (by kernel_rfl) (by simp) ?_
      refine AllReadyH.cons (o := { dst := none, op := Go.Op.store 3 (Go.Operand.tmp 54) (Go.Operand.tmp 49), type := 0, pos := "rockridge.go:169", after := #[{ on := 6, ground := Go.Ground.data }, { on := 1, ground := Go.Ground.data }, { on := 5, ground := Go.Ground.chain }, { on := 0, ground := Go.Ground.phase }, { on := 1, ground := Go.Ground.phase }, { on := 2, ground := Go.Ground.textOnly Go.Departure.lateStores }, { on := 3, ground := Go.Ground.phase }, { on := 4, ground := Go.Ground.textOnly Go.Departure.lateStores }, { on := 5, ground := Go.Ground.phase }], guard := none }) rfl (fun K hK => ?_) AllReadyH.nil
      go_simp
      refine hK.out _ _ (by (try dsimp only); first | assumption | (simp [*, go_sem]; done) | (refine ⟨?_, ?_⟩ <;> simp [*, go_sem])) (fun hHeld => ?_)
      clear hK K
      try simp only [Act.put, List.setIfInBounds_toArray, List.set_cons_zero, List.set_cons_succ]
      refine wpAnyH_take (i := 8) (oi := { dst := some 55, op := Go.Op.fieldAddr 23 (Go.Operand.tmp 4) 4, type := 0, pos := "rockridge.go:169", after := #[{ on := 0, ground := Go.Ground.phase }, { on := 1, ground := Go.Ground.phase }, { on := 2, ground := Go.Ground.phase }, { on := 3, ground := Go.Ground.phase }, { on := 4, ground := Go.Ground.textOnly Go.Departure.lateStores }, { on := 5, ground := Go.Ground.phase }, { on := 6, ground := Go.Ground.phase }, { on := 7, ground := Go.Ground.phase }], guard := none }) (v := ?_) rfl (by kernel_rfl) (by kernel_rfl) (by kernel_rfl) (fun _ _ _ h => h) (Or.inl ⟨by rfl, ?_⟩) (by assumption) ?_
      rotate_left
      · intro w hSw; (try dsimp only at hSw); go_simp; (try with_reducible rfl)
      try simp only [Act.put, List.setIfInBounds_toArray, List.set_cons_zero, List.set_cons_succ]
      refine wpAnyH_ready (rs := [9]) (by kernel_rfl) (by simp) ?_
      refine AllReadyH.cons (o := { dst := none, op := Go.Op.store 3 (Go.Operand.tmp 55) (Go.Operand.tmp 51), type := 0, pos := "rockridge.go:169", after := #[{ on := 8, ground := Go.Ground.data }, { on := 3, ground := Go.Ground.data }, { on := 7, ground := Go.Ground.chain }, { on := 0, ground := Go.Ground.phase }, { on := 1, ground := Go.Ground.phase }, { on := 2, ground := Go.Ground.phase }, { on := 3, ground := Go.Ground.phase }, { on := 4, ground := Go.Ground.textOnly Go.Departure.lateStores }, { on := 5, ground := Go.Ground.phase }, { on := 6, ground := Go.Ground.phase }, { on := 7, ground := Go.Ground.phase }], guard := none }) rfl (fun K hK => ?_) AllReadyH.nil
      go_simp
      refine hK.out _ _ (by (try dsimp only); first | assumption | (simp [*, go_sem]; done) | (refine ⟨?_, ?_⟩ <;> simp [*, go_sem])) (fun hHeld => ?_)
      clear hK K
      try simp only [Act.put, List.setIfInBounds_toArray, List.set_cons_zero, List.set_cons_succ]
      refine wpAnyH_take (i := 10) (oi := { dst := some 56, op := Go.Op.fieldAddr 23 (Go.Operand.tmp 4) 5, type := 0, pos := "rockridge.go:169", after := #[{ on := 0, ground := Go.Ground.phase }, { on := 1, ground := Go.Ground.phase }, { on := 2, ground := Go.Ground.phase }, { on := 3, ground := Go.Ground.phase }, { on := 4, ground := Go.Ground.phase }, { on := 5, ground := Go.Ground.phase }, { on := 6, ground := Go.Ground.phase }, { on := 7, ground := Go.Ground.phase }, { on := 8, ground := Go.Ground.phase }, { on := 9, ground := Go.Ground.phase }], guard := none }) (v := ?_) rfl (by kernel_rfl) (by kernel_rfl) (by kernel_rfl) (fun _ _ _ h => h) (Or.inl ⟨by rfl, ?_⟩) (by assumption) ?_
      rotate_left
      · intro w hSw; (try dsimp only at hSw); go_simp; (try with_reducible rfl)
      try simp only [Act.put, List.setIfInBounds_toArray, List.set_cons_zero, List.set_cons_succ]
      refine wpAnyH_ready (rs := [11]) (by kernel_rfl) (by simp) ?_
      refine AllReadyH.cons (o := { dst := none, op := Go.Op.store 3 (Go.Operand.tmp 56) (Go.Operand.tmp 53), type := 0, pos := "rockridge.go:169", after := #[{ on := 10, ground := Go.Ground.data }, { on := 5, ground := Go.Ground.data }, { on := 9, ground := Go.Ground.chain }, { on := 0, ground := Go.Ground.phase }, { on := 1, ground := Go.Ground.phase }, { on := 2, ground := Go.Ground.phase }, { on := 3, ground := Go.Ground.phase }, { on := 4, ground := Go.Ground.phase }, { on := 5, ground := Go.Ground.phase }, { on := 6, ground := Go.Ground.phase }, { on := 7, ground := Go.Ground.phase }, { on := 8, ground := Go.Ground.phase }, { on := 9, ground := Go.Ground.phase }], guard := none }) rfl (fun K hK => ?_) AllReadyH.nil
      go_simp
      refine hK.out _ _ (by (try dsimp only); first | assumption | (simp [*, go_sem]; done) | (refine ⟨?_, ?_⟩ <;> simp [*, go_sem])) (fun hHeld => ?_)
      clear hK K
      try simp only [Act.put, List.setIfInBounds_toArray, List.set_cons_zero, List.set_cons_succ]
      refine wpAnyH_done (by kernel_rfl) ?_ _
      refine NoPanic.normal ?_
      all_goals
        go_wp2
        go_meet
        refine ⟨rfl, ?_, ?_, ?_⟩
        · exact ((hA3.drew.other (by omega)).other (by omega)).other (by omega)
        · rw [HRC.out]
          exact (((hR3.drew.put1).put1).put1).cast rfl
        · exact ((hb3.drew.setCell (by show w.heap.size ≤ rb; omega) _).setCell (by show w.heap.size ≤ rb; omega) _).setCell (by show w.heap.size ≤ rb; omega) _
  case rest =>
  obtain ⟨rfl, hRW2⟩ := hcut
  clear hRW0 hRW1 ha0 hb1 hz1 hsz0
  generalize wc = W2 at *
  have hs2 := hRW2.size
  have ha2 := ha.below hRW2.2.2
  have JN := hide (fun W hW => joined_nm L sNM a W HS.out.len HS.out.size hW)
  rw [HS.out.nmv] at JN
  have JS := hide (fun W hW => joined_sl L sSL a W HS.out.len HS.out.size hW)
  rw [HS.out.slv] at JS
  go_wp2_with fail
  refine (JN.out _ ha2).mono ?_
  rintro e w3 ⟨rfl, hb3⟩
  have ha3 := ha2.below hb3
  go_wp2_with fail
  refine (JS.out _ ha3).mono ?_
  rintro e w4 ⟨rfl, hb4⟩
  have hRW4 := (hRW2.below hb3).below hb4
  have hs4 := hRW4.size
  clear hRW2 hb3 hb4 ha2 ha3 hs2 JN JS
  have hT4 := hT.below hRW4.2.2
  have hU4 : TabU w4 := hT4.1
  go_upto_region 13 with fail
  go_cut [8, 9, 11, 12, 82] (fun nm nd cm lk v wx => nm = .string r.name ∧ nd = .bool r.named ∧ cm = .string (slD r) ∧ lk = .bool (!r.target.toList.isEmpty) ∧ v = .bool false ∧ RW w rb (rcA r) wx)
  case first =>
    cases en : r.named
    case false =>
      have EN := hide en
      clear en
      go_wp2
      go_meet
      exact ⟨rfl, by rw [EN.out], rfl, rfl, rfl, hRW4⟩
    case true =>
      have EN := hide en
      have hnn := y4 en
      have NM := hide (fun W hW => name_any r.name (by have := name_size hnn; omega) W hW)
      rw [hnn] at NM
      clear en hnn
      go_wp2_with fail
      refine (NM.out _ hU4).mono ?_
      rintro e w5 ⟨rfl, hb5⟩
      go_wp2
      go_meet
      exact ⟨rfl, by rw [EN.out], rfl, rfl, rfl, hRW4.below hb5⟩
  case rest =>
  obtain ⟨rfl, rfl, rfl, rfl, rfl, hRW5⟩ := hcut
  clear hRW4 hT4 hU4 hs4
  generalize wc = W5 at *
  have hs5 := hRW5.size
  have hrr5 := RRat.of hRW5.2.1
  unfold RRat RR.zero at hrr5
  simp only at hrr5
  have hfz5 := hRW5.2.1.free
  go_upto_if 88 with fail
  obtain ⟨W6, hW6⟩ : ∃ W6, W6 = (W5.setCell ⟨rb, 6, none⟩ (.bool r.named)).setCell ⟨rb, 7, none⟩ (.string r.name) := ⟨_, rfl⟩
  rw [← hW6]
  have hRW6 : RW w rb (rcB r) W6 := by rw [hW6]; exact ((hRW5.put hrw).put hrw).cast rfl
  clear hW6 hrr5 hfz5 hRW5 hs5
  have hs6 := hRW6.size
  go_cut [11, 12, 14, 15] (fun cm lk tg ee wx => RW w rb (rcC r) wx)
  case first =>
    cases ei : r.target.toList.isEmpty
    case true =>
      have E := hide (show rcC r = rcB r by unfold rcC rcB; rw [empty_of ei]; rfl)
      clear ei
      go_wp2
      go_meet
      exact (by rw [E.out]; exact hRW6)
    case false =>
      have htg := z2 ei
      have hsl : slD r = compsB r.target := by unfold slD; rw [ei]; rfl
      have TG := hide (fun W hW => tgt_comps r.target htg W hW)
      have hT6 := hT.below hRW6.2.2
      rw [hsl]
      clear ei hsl
      go_wp2_with fail
      refine (TG.out _ hT6).mono ?_
      rintro e w7 ⟨rfl, hb7⟩
      have hRW7 := hRW6.below hb7
      have hs7 := hRW7.size
      have hrr7 := RRat.of hRW7.2.1
      unfold RRat RR.zero at hrr7
      simp only at hrr7
      have hfz7 := hRW7.2.1.free
      go_wp2
      go_meet
      exact ((hRW7.put hrw).cast rfl)
  case rest =>
  have hRW8 : RW w rb (rcC r) wc := hcut
  clear hcut hRW6 hs6
  generalize wc = W8 at *
  have hs8 := hRW8.size
  have F2 := hide (fun W hW => first_any L sTF a W HS.out.len hW)
  rw [HS.out.tf] at F2
  go_wp2_with fail
  refine (F2.out _ (ha.below hRW8.2.2)).mono ?_
  rintro e w9 ⟨rfl, hb9⟩
  have hRW9 := hRW8.below hb9
  have hs9 := hRW9.size
  clear hRW8 hs8 hb9 F2
  go_upto_if 105 with fail
  go_cut [16, 17, 18, 19, 20] (fun q1 q2 q3 q4 q5 wx => RW w rb (rcD r) wx)
  case first =>
    cases et : r.timed
    case false =>
      have E := hide (show rcD r = rcC r by unfold rcD rcC; simp [RR.cells, RR.zero, et, y3 et])
      clear et
      go_wp2
      go_meet
      exact (by rw [E.out]; exact hRW9)
    case true =>
      have htm := z9 et
      have htf : tfD r = cat2 [2] (Dt.recT r.time) := by unfold tfD; rw [et]; rfl
      have MD := hide (fun W => modified_tf r.time htm W)
      have HET := hide et
      rw [htf]
      clear et htf
      go_wp2_with fail
      refine (MD.out _).mono ?_
      rintro e w10 ⟨rfl, hb10⟩
      have hRW10 := hRW9.below hb10
      have hs10 := hRW10.size
      have hrr10 := RRat.of hRW10.2.1
      unfold RRat RR.zero at hrr10
      simp only at hrr10
      have hfz10 := hRW10.2.1.free
      have E := hide (show (((rcC r).setIfInBounds 9 (.bool true)).setIfInBounds 10 (.int .i64 r.time)) = rcD r by unfold rcD; rw [← HET.out]; rfl)
      go_wp2
      go_meet
      exact (((hRW10.put hrw).put hrw).cast E.out)
  case rest =>
  have hRW11 : RW w rb (rcD r) wc := hcut
  clear hcut hRW9 hs9
  generalize wc = W11 at *
  have hs11 := hRW11.size
  obtain ⟨dC, okC, eC, hC⟩ := says_b HS.out.cl
  obtain ⟨dL, okL, eL, hLp⟩ := says_b HS.out.pl
  have FC := hide (fun W hW => first_any L sCL a W HS.out.len hW)
  rw [eC] at FC
  have FP := hide (fun W hW => first_any L sPL a W HS.out.len hW)
  rw [eL] at FP
  have NC := hide (num_says hC)
  have NP := hide (num_says hLp)
  clear eC eL
  have hmm := @run_makeMap Tryz.prog
  have hk9 : Tryz.prog.underlying 9 = some .string := Tryz.underlying9
  obtain ⟨m1, hrun1, hown1, hg1⟩ := (World.ownsMap_made W11 Tryz.prog 9 Rptr).update (Maps.string_keyed hk9) Tryz.underlying88 (by unfold maxLen; omega) (key := .string ⟨#[67, 76]⟩) (val := .pointer (some ⟨rb, 11, none⟩)) (kl := kCL) (d := dP rb 11) (ps := []) (Go.WideMaps.keyOf_string_mk hk9 (by unfold maxLen; decide)) rfl
  obtain ⟨m2, hrun2, hown2, hg2⟩ := hown1.update (Maps.string_keyed hk9) Tryz.underlying88 (by unfold maxLen; omega) (key := .string ⟨#[80, 76]⟩) (val := .pointer (some ⟨rb, 12, none⟩)) (kl := kPL) (d := dP rb 12) (ps := []) (Go.WideMaps.keyOf_string_mk hk9 (by unfold maxLen; decide)) rfl
  rw [d2_put] at hown2
  obtain ⟨m3, hrun3, hrg, hg3, hs3⟩ := hown2.range (Maps.string_keyed hk9) Tryz.underlying88
  have hRWm := (((((hRW11.alloc (.map #[] 0)).grown hg1 (by omega) (by omega)).grown hg2 (by omega) (by omega))).grown0 hg3)
  have hmlt : W11.heap.size < m2.heap.size := by have h1 := hg1.size; have h2 := hg2.size; rw [World.size_alloc] at h1; omega
  have HRG := hide hrg
  have HKL := hide hk9
  clear hown1 hown2 hg1 hg2 hg3 hrg hk9
  go_wp2_with fail
  go_loopw [21, 22, 23, 24] (fun s1 s2 s3 s4 wr => MRel w rb W11.heap.size m2.heap.size r wr) (fun _ _ _ _ wr => wr.rangeLeft W11.heap.size m2.heap.size)
  case atStart => exact ⟨_, _, false, false, fun kl hk => hk, rfl, rfl, by rw [cs2_0]; exact hRWm, HRG.out⟩
  case round =>
    obtain ⟨left, cnt, bC, bP, hl0, hlC, hlP, hRWr, hrg⟩ := hrel
    have hrne := hrg.ne
    have hrlt := hrg.lt
    rcases next_d2 HKL.out hrg hl0 0 with ⟨hnone, hrun⟩ | ⟨n1, cnt', kl, hcase, hleft, hrg2, hgr2, hsz2, hltc⟩
    · have hbC : bC = true := by have := hnone kCL; rw [hlC] at this; simpa using this
      have hbP : bP = true := by have := hnone kPL; rw [hlP] at this; simpa using this
      subst hbC hbP
      clear hnone hlC hlP hl0 hrg
      obtain ⟨dR, eR⟩ := HS.out.rev
      have FR := hide (fun W hW => first_any L sRE a W HS.out.len hW)
      rw [eR] at FR
      clear eR
      go_wp2_with fail
      refine (FR.out _ (ha.below hRWr.2.2)).mono ?_
      rintro e n2 ⟨rfl, hbn⟩
      have hRWo := hRWr.below hbn
      have hso := hRWo.size
      have hrro := RRat.of (r := { r with reloc := false }) (hRWo.2.1.cast (show cs2 r true true = RR.cells { r with reloc := false } from rfl))
      unfold RRat at hrro
      simp only at hrro
      have hfzo := hRWo.2.1.free
      go_upto_region 35 with fail
      obtain ⟨W9, hW9⟩ : ∃ W9, W9 = n2.setCell ⟨rb, 13, none⟩ (.bool r.reloc) := ⟨_, rfl⟩
      rw [← hW9]
      have hRW9 : RW w rb r.cells W9 := by rw [hW9]; exact (hRWo.put hrw).cast (cs2_e r)
      clear hW9 hrro hfzo hRWo hso hbn hRWr
      have hs9 := hRW9.size
      have hrr9 := RRat.of hRW9.2.1
      have hzz9 := RRat.of (r := RR.zero) hRW9.1
      unfold RRat at hrr9 hzz9
      unfold RR.zero at hzz9
      simp only at hrr9 hzz9
      have hfz9 := hRW9.1.free
      have hbf := hRW9.2.2
      go_wp2_with fail
      ((try simp only [Exit.inBlock, Exit.then]); refine bodyPost_ret (by simp only [results, Tryz.results20]; go_simp; try rfl) rfl ?_)
      exact ⟨rfl, by (repeat' (first | (with_reducible exact Below.refl _ _) | (with_reducible refine Below.alloc ?_ ?_ _) | (with_reducible refine Below.setCell ?_ ?_ _) | (with_reducible refine Below.drew ?_) | (with_reducible refine below_drewN' ?_) | (with_reducible refine below_bytesW ?_ ?_) | (with_reducible refine Below.trans ?_ (Below.mono (by assumption) ?_)) | omega | (simp only [World.size_alloc, World.size_setCell, World.size_drew]; omega) | (simp [size_bytesW]; omega) | (simp; omega)))⟩
    · have hRWn := hRWr.grown hgr2 (by omega) (by omega)
      rcases hcase with ⟨rfl, hrun, hent⟩ | ⟨rfl, hrun, hent⟩
      · have hbx : bC = false := by rw [hlC] at hleft; simpa using hleft
        subst hbx
        rcases hC with ⟨hk1, hk2, hk3⟩ | ⟨hk1, hk2, hk3, hk4⟩
        all_goals
          have HK3 := hide hk3
          clear hk3
          subst hk1
          try subst hk2
          go_wp2_with fail
          refine (FC.out _ (ha.below hRWn.2.2)).mono ?_
          rintro e n2 ⟨rfl, hbn⟩
          have hRWo := hRWn.below hbn
          have hso := hRWo.size
          have hrro := RRat.of (r := { r with child := 0, parent := if bP then r.parent else 0, reloc := false }) (hRWo.2.1.cast rfl)
          unfold RRat at hrro
          simp only at hrro
          have hfzo := hRWo.2.1.free
          go_wp2_with (go_at_call 51; refine (NC.out _).mono ?_; rintro e w' ⟨rfl, rfl⟩)
          have hrgz := fun (j : Nat) (v : Value) => (hrg2.kept (grown_below hbn) (by simp) (by simp)).kept (grown_set n2 rb j v) (by simp; omega) (by simp; omega)
          have HRZ := hide hrgz
          clear hrgz
          go_roundw
          case rel => exact ⟨_, cnt', true, bP, fun kl hk => hl0 kl (by revert hk; cases left kl <;> simp), by simp [kCL, Lit.sameKey], by show (left kPL && !(kPL.sameKey kCL)) = !bP; rw [hlP, show kPL.sameKey kCL = false from rfl]; simp, (hRWo.put hrw).cast (cs2_c r bP), HRZ.out _ _⟩
          case measure => rw [(HRZ.out _ _).left_eq, hrg.left_eq]; exact hltc
      · have hbx : bP = false := by rw [hlP] at hleft; simpa using hleft
        subst hbx
        rcases hLp with ⟨hk1, hk2, hk3⟩ | ⟨hk1, hk2, hk3, hk4⟩
        all_goals
          have HK3 := hide hk3
          clear hk3
          subst hk1
          try subst hk2
          go_wp2_with fail
          refine (FP.out _ (ha.below hRWn.2.2)).mono ?_
          rintro e n2 ⟨rfl, hbn⟩
          have hRWo := hRWn.below hbn
          have hso := hRWo.size
          have hrro := RRat.of (r := { r with child := if bC then r.child else 0, parent := 0, reloc := false }) (hRWo.2.1.cast rfl)
          unfold RRat at hrro
          simp only at hrro
          have hfzo := hRWo.2.1.free
          go_wp2_with (go_at_call 51; refine (NP.out _).mono ?_; rintro e w' ⟨rfl, rfl⟩)
          have hrgz := fun (j : Nat) (v : Value) => (hrg2.kept (grown_below hbn) (by simp) (by simp)).kept (grown_set n2 rb j v) (by simp; omega) (by simp; omega)
          have HRZ := hide hrgz
          clear hrgz
          go_roundw
          case rel => exact ⟨_, cnt', bC, true, fun kl hk => hl0 kl (by revert hk; cases left kl <;> simp), by show (left kCL && !(kCL.sameKey kPL)) = !bC; rw [hlC, show kCL.sameKey kPL = false from rfl]; simp, by simp [kPL, Lit.sameKey], (hRWo.put hrw).cast (cs2_p r bC), HRZ.out _ _⟩
          case measure => rw [(HRZ.out _ _).left_eq, hrg.left_eq]; exact hltc
end Go.Proofs.YtopajpomhflgbaaGreatDoor
