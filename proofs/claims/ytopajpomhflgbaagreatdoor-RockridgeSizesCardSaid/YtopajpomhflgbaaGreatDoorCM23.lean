/- Contract of the reference's Decode of entries that were encoded. -/
import Derived.Test.YtopajpomhflgbaaGreatDoorCM22
import Derived.Test.YtopajpomhflgbaaGreatDoorCM5
namespace Go.Proofs.YtopajpomhflgbaaGreatDoor
set_option linter.unusedSimpArgs false
set_option linter.unusedVariables false
open Go.RowKit
open Go.PlainAid (bt get_bt bt_nonneg bt_le)

def DecP (L : List En) (w : World) (e : Ending) (w' : World) : Prop := ∃ v, e = .returned (.tuple #[v, .int .i64 0]) ∧ ReadsE w' v L ∧ Below w.heap.size w w'
theorem enc_drop (L : List En) (k : Nat) (e : En) (h : L[k]? = some e) : encEs (L.drop k) = encE e ++ encEs (L.drop (k + 1)) := by
  obtain ⟨hi, e2⟩ := List.getElem?_eq_some_iff.1 h
  rw [List.drop_eq_getElem_cons hi, e2]
  rfl
theorem take_entsV (L : List En) (k : Nat) (e : En) (h : L[k]? = some e) (hv : e.ver = 1) : entsV (L.take (k + 1)) = entsV (L.take k) ++ [.string e.sig, .int .i64 1, .string e.data] := by
  obtain ⟨hi, e2⟩ := List.getElem?_eq_some_iff.1 h
  rw [List.take_succ_eq_append_getElem hi, e2, entsV_snoc]
  unfold En.cells
  rw [hv]
set_option maxRecDepth 100000 in
set_option maxHeartbeats 4000000 in
theorem dec24 (L : List En) (hL : L.length ≤ 1000) (hG : ∀ e ∈ L, GoodE e) (w : World) : Calls Tryz.prog 22 #[.string ⟨(encEs L).toArray⟩] w (DecP L w) := by
  have HG := hide hG
  clear hG
  have HL : Live w [] := trivial
  go_enter Tryz.func22, Tryz.ntmps22
  go_wp2_with fail
  go_loopw [0, 4] (fun s o wr => ∃ k : Nat, k ≤ L.length ∧ s = .string ⟨(encEs (L.drop k)).toArray⟩ ∧ wr.ownsRow w.heap.size 32 3 o k (entsV (L.take k)) ∧ Below w.heap.size w wr) (fun s _ _ => strLen s)
  case atStart => exact ⟨0, by omega, rfl, World.ownsRow_nil _ _ _ _, Below.refl _ _⟩
  case round =>
    obtain ⟨k, hk, rfl, hown, hbel⟩ := hrel
    have HO := hide hown
    clear hown
    have hsz := hbel.size
    by_cases hlt : k < L.length
    · obtain ⟨e, he⟩ : ∃ e, L[k]? = some e := ⟨_, List.getElem?_eq_getElem hlt⟩
      have hge := HG.out e (List.mem_of_getElem? he)
      obtain ⟨X, hX⟩ : ∃ X : ByteArray, X = ⟨(encE e ++ encEs (L.drop (k + 1))).toArray⟩ := ⟨_, rfl⟩
      obtain ⟨f0, f1, f2, f3, f4, f5, f6⟩ := dec_facts e _ hge X hX
      have hXd : (⟨(encEs (L.drop k)).toArray⟩ : ByteArray) = X := by rw [hX, enc_drop L k e he]
      rw [hXd]
      have HT := hide (take_entsV L k e he hge.ver)
      obtain ⟨N, hN⟩ : ∃ N : Nat, N = 4 + e.data.size := ⟨_, rfl⟩
      rw [← hN] at f0 f5 f6
      have hN4 : 4 ≤ N := by omega
      have hNX : N ≤ X.size := by omega
      have hX4 : 4 ≤ X.size := by omega
      have hd := hge.size
      have hX6 : X.size ≤ 300000 := by
        have h1 := encEs_len (L.drop (k + 1)) (fun x hx => HG.out x (List.mem_of_mem_drop hx))
        have h2 : (L.drop (k + 1)).length ≤ 1000 := by rw [List.length_drop]; omega
        omega
      have i0 : 0 < X.size := Nat.lt_of_lt_of_le (by decide) hX4
      have i2 : 2 < X.size := Nat.lt_of_lt_of_le (by decide) hX4
      have i3 : 3 < X.size := Nat.lt_of_lt_of_le (by decide) hX4
      have g0 : 65 ≤ ((X[0]'i0).toNat : Int) := by rw [get_bt]; exact f2
      have g0' : (((X[0]'i0).toNat : Int) != 0) = true := by rw [bne_iff_ne]; omega
      have g2 : ((X[2]'i2).toNat : Int) = N := by rw [get_bt, f3]; omega
      have g3 : ((X[3]'i3).toNat : Int) = 1 := by rw [get_bt]; exact f4
      obtain ⟨⟨x, y, hs, hx, hy, hst⟩, hv, _⟩ := hge
      have gs : (e.sig.toList == [83, 84]) = false := eq_list (by
        rw [hs]; intro h; apply hst
        injection h with h; simpa using h)
      have SG := hide (fun W => sig_good x y hx hy W)
      rw [← hs] at SG
      have HR := hide (show (⟨(encEs (L.drop (k + 1))).toArray⟩ : ByteArray) = X.extract N X.size from f6.symm)
      clear hX hXd hs hst hx hy hv f0 f2 f3 f4 f6 he hN
      go_upto_region 8 with (first | (go_at_call 58; (with_reducible refine (SG.out _).mono ?_); rintro e w' ⟨rfl, rfl⟩))
      have j2 : (2 : Int) ≤ (X.size : Int) := by omega
      have j3 : (3 : Int) < (X.size : Int) := by omega
      have j4 : (N : Int) ≤ (X.size : Int) := by omega
      have j5 : (4 : Int) ≤ (N : Int) := by omega
      refine wp_region_noPanic ?_
      refine wp_region_held_drew (S := (fun x => True ∧ True)) (by kernel_rfl) (by (try dsimp only); first | assumption | (simp [*, go_sem]; done) | (refine ⟨?_, ?_⟩ <;> simp [*, go_sem])) (fun hHeld => ?_)
      refine wpAnyH_take (i := 0) (oi := { dst := some 35, op := Go.Op.move (Go.Operand.tmp 4), type := 26, pos := "ref.go:74", after := #[], guard := none }) (v := ?_) rfl (by kernel_rfl) (by kernel_rfl) (by kernel_rfl) (fun _ _ _ h => h) (Or.inl ⟨by rfl, ?_⟩) (by assumption) ?_
      rotate_left
      · intro w hSw; (try dsimp only at hSw); go_simp; (try with_reducible rfl)
      try simp only [Act.put, List.setIfInBounds_toArray, List.set_cons_zero, List.set_cons_succ]
      refine wpAnyH_take (i := 1) (oi := { dst := some 36, op := Go.Op.move (Go.Operand.tmp 0), type := 9, pos := "ref.go:74", after := #[], guard := none }) (v := ?_) rfl (by kernel_rfl) (by kernel_rfl) (by kernel_rfl) (fun _ _ _ h => h) (Or.inl ⟨by rfl, ?_⟩) (by assumption) ?_
      rotate_left
      · intro w hSw; (try dsimp only at hSw); go_simp; (try with_reducible rfl)
      try simp only [Act.put, List.setIfInBounds_toArray, List.set_cons_zero, List.set_cons_succ]
      refine wpAnyH_take (i := 2) (oi := { dst := some 37, op := Go.Op.slice 9 (Go.Operand.tmp 36) none (some (Go.Operand.const (Go.Value.int Go.IntKind.i64 2))) none, type := 9, pos := "ref.go:74", after := #[{ on := 1, ground := Go.Ground.data }], guard := none }) (v := ?_) rfl (by kernel_rfl) (by kernel_rfl) (by kernel_rfl) (fun _ _ _ h => h) (Or.inl ⟨by rfl, ?_⟩) (by assumption) ?_
      rotate_left
      · intro w hSw; (try dsimp only at hSw); go_simp; (try with_reducible rfl)
      try simp only [Act.put, List.setIfInBounds_toArray, List.set_cons_zero, List.set_cons_succ]
      refine wpAnyH_take (i := 3) (oi := { dst := some 38, op := Go.Op.move (Go.Operand.tmp 0), type := 9, pos := "ref.go:74", after := #[], guard := none }) (v := ?_) rfl (by kernel_rfl) (by kernel_rfl) (by kernel_rfl) (fun _ _ _ h => h) (Or.inl ⟨by rfl, ?_⟩) (by assumption) ?_
      rotate_left
      · intro w hSw; (try dsimp only at hSw); go_simp; (try with_reducible rfl)
      try simp only [Act.put, List.setIfInBounds_toArray, List.set_cons_zero, List.set_cons_succ]
      refine wpAnyH_take (i := 4) (oi := { dst := some 39, op := Go.Op.index 9 (Go.Operand.tmp 38) (Go.Operand.const (Go.Value.int Go.IntKind.i64 3)), type := 5, pos := "ref.go:74", after := #[{ on := 3, ground := Go.Ground.data }], guard := none }) (v := ?_) rfl (by kernel_rfl) (by kernel_rfl) (by kernel_rfl) (fun _ _ _ h => h) (Or.inl ⟨by rfl, ?_⟩) (by assumption) ?_
      rotate_left
      · intro w hSw; (try dsimp only at hSw); go_simp; (try with_reducible rfl)
      try simp only [Act.put, List.setIfInBounds_toArray, List.set_cons_zero, List.set_cons_succ]
      refine wpAnyH_take (i := 5) (oi := { dst := some 40, op := Go.Op.convert 5 3 (Go.Operand.tmp 39), type := 3, pos := "ref.go:74", after := #[{ on := 4, ground := Go.Ground.data }], guard := none }) (v := ?_) rfl (by kernel_rfl) (by kernel_rfl) (by kernel_rfl) (fun _ _ _ h => h) (Or.inl ⟨by rfl, ?_⟩) (by assumption) ?_
      rotate_left
      · intro w hSw; (try dsimp only at hSw); go_simp; (try with_reducible rfl)
      try simp only [Act.put, List.setIfInBounds_toArray, List.set_cons_zero, List.set_cons_succ]
      refine wpAnyH_take (i := 6) (oi := { dst := some 41, op := Go.Op.move (Go.Operand.tmp 0), type := 9, pos := "ref.go:74", after := #[], guard := none }) (v := ?_) rfl (by kernel_rfl) (by kernel_rfl) (by kernel_rfl) (fun _ _ _ h => h) (Or.inl ⟨by rfl, ?_⟩) (by assumption) ?_
      rotate_left
      · intro w hSw; (try dsimp only at hSw); go_simp; (try with_reducible rfl)
      try simp only [Act.put, List.setIfInBounds_toArray, List.set_cons_zero, List.set_cons_succ]
      refine wpAnyH_take (i := 7) (oi := { dst := some 42, op := Go.Op.move (Go.Operand.tmp 5), type := 3, pos := "ref.go:74", after := #[], guard := none }) (v := ?_) rfl (by kernel_rfl) (by kernel_rfl) (by kernel_rfl) (fun _ _ _ h => h) (Or.inl ⟨by rfl, ?_⟩) (by assumption) ?_
      rotate_left
      · intro w hSw; (try dsimp only at hSw); go_simp; (try with_reducible rfl)
      try simp only [Act.put, List.setIfInBounds_toArray, List.set_cons_zero, List.set_cons_succ]
      refine wpAnyH_take (i := 8) (oi := { dst := some 43, op := Go.Op.slice 9 (Go.Operand.tmp 41) (some (Go.Operand.const (Go.Value.int Go.IntKind.i64 4))) (some (Go.Operand.tmp 42)) none, type := 9, pos := "ref.go:74", after := #[{ on := 6, ground := Go.Ground.data }, { on := 7, ground := Go.Ground.data }], guard := none }) (v := ?_) rfl (by kernel_rfl) (by kernel_rfl) (by kernel_rfl) (fun _ _ _ h => h) (Or.inl ⟨by rfl, ?_⟩) (by assumption) ?_
      rotate_left
      · intro w hSw; (try dsimp only at hSw); go_simp; (try with_reducible rfl)
      try simp only [Act.put, List.setIfInBounds_toArray, List.set_cons_zero, List.set_cons_succ]
      refine wpAnyH_take (i := 9) (oi := { dst := some 44, op := Go.Op.build 32 #[(0, Go.Operand.tmp 37), (1, Go.Operand.tmp 40), (2, Go.Operand.tmp 43)], type := 32, pos := "ref.go:74", after := #[{ on := 2, ground := Go.Ground.data }, { on := 5, ground := Go.Ground.data }, { on := 8, ground := Go.Ground.data }], guard := none }) (v := ?_) rfl (by kernel_rfl) (by kernel_rfl) (by kernel_rfl) (fun _ _ _ h => h) (Or.inl ⟨by rfl, ?_⟩) (by assumption) ?_
      rotate_left
      · intro w hSw; (try dsimp only at hSw); go_simp; (try with_reducible rfl)
      try simp only [Act.put, List.setIfInBounds_toArray, List.set_cons_zero, List.set_cons_succ]
      refine wpAnyH_ready (rs := [10]) (by kernel_rfl) (by simp) ?_
      refine AllReadyH.cons (o := { dst := some 45, op := Go.Op.buildSlice 26 1 #[(0, Go.Operand.tmp 44)], type := 26, pos := "ref.go:74", after := #[{ on := 9, ground := Go.Ground.data }], guard := none }) rfl (fun K hK => ?_) AllReadyH.nil
      go_simp
      refine hK.out _ _ (by (try dsimp only); first | assumption | (simp [*, go_sem]; done) | (refine ⟨?_, ?_⟩ <;> simp [*, go_sem])) (fun hHeld => ?_)
      clear hK K
      try simp only [Act.put, List.setIfInBounds_toArray, List.set_cons_zero, List.set_cons_succ]
      refine wpAnyH_ready (rs := [11]) (by kernel_rfl) (by simp) ?_
      refine AllReadyH.cons (o := { dst := some 46, op := Go.Op.call { callee := Go.Callee.builtin Go.Builtin.append, args := #[Go.Operand.tmp 35, Go.Operand.tmp 45], argTypes := #[26, 26] }, type := 26, pos := "ref.go:74", after := #[{ on := 0, ground := Go.Ground.data }, { on := 10, ground := Go.Ground.data }], guard := none }) rfl (fun K hK => ?_) AllReadyH.nil
      refine step_append_blk _ (by rfl) _ _ _ (by rfl) w.heap.size 32 entInfo Tryz.underlying26 (by rfl) (by decide) _ k (entsV (L.take k)) (HO.out.drew.alloc _) wr.heap.size #[.string e.sig, .int .i64 1, .string e.data] (Blk.newAt rfl) (by rfl) (by rfl) rfl (by simp [Value.oneCell']) (by unfold maxLen; omega) (by omega) (by simp; omega) ?_; intro v2 w2 hown2 hb2 hot2 hz2
      refine hK.out _ _ (by (try dsimp only); first | assumption | (simp [*, go_sem]; done) | (refine ⟨?_, ?_⟩ <;> simp [*, go_sem])) (fun hHeld => ?_)
      clear hK K
      try simp only [Act.put, List.setIfInBounds_toArray, List.set_cons_zero, List.set_cons_succ]
      refine wpAnyH_take (i := 12) (oi := { dst := some 4, op := Go.Op.assign (Go.Operand.tmp 46), type := 26, pos := "ref.go:74", after := #[{ on := 11, ground := Go.Ground.data }, { on := 11, ground := Go.Ground.chain }, { on := 0, ground := Go.Ground.phase }, { on := 1, ground := Go.Ground.phase }, { on := 2, ground := Go.Ground.phase }, { on := 3, ground := Go.Ground.phase }, { on := 4, ground := Go.Ground.phase }, { on := 5, ground := Go.Ground.phase }, { on := 6, ground := Go.Ground.phase }, { on := 7, ground := Go.Ground.phase }, { on := 8, ground := Go.Ground.phase }, { on := 9, ground := Go.Ground.phase }, { on := 10, ground := Go.Ground.phase }, { on := 11, ground := Go.Ground.phase }], guard := none }) (v := ?_) rfl (by kernel_rfl) (by kernel_rfl) (by kernel_rfl) (fun _ _ _ h => h) (Or.inl ⟨by rfl, ?_⟩) (by assumption) ?_
      rotate_left
      · intro w hSw; (try dsimp only at hSw); go_simp; (try with_reducible rfl)
      try simp only [Act.put, List.setIfInBounds_toArray, List.set_cons_zero, List.set_cons_succ]
      refine wpAnyH_done (by kernel_rfl) ?_ _
      refine NoPanic.normal ?_
      all_goals
        go_wp2
        go_roundw
        case rel => exact ⟨k + 1, by omega, congrArg Value.string HR.out.symm, by rw [HT.out]; exact hown2, by (repeat' (first | (with_reducible exact Below.refl _ _) | (with_reducible refine Below.alloc ?_ ?_ _) | (with_reducible refine Below.setCell ?_ ?_ _) | (with_reducible refine Below.drew ?_) | (with_reducible refine below_drewN' ?_) | (with_reducible refine below_bytesW ?_ ?_) | (with_reducible refine Below.trans ?_ (Below.mono (by assumption) ?_)) | omega | (simp only [World.size_alloc, World.size_setCell, World.size_drew]; omega) | (simp [size_bytesW]; omega) | (simp; omega)))⟩
        case measure => simp [strLen]; omega
    · obtain rfl : k = L.length := by omega
      obtain ⟨X, hX⟩ : ∃ X : ByteArray, X = ⟨(encEs (L.drop L.length)).toArray⟩ := ⟨_, rfl⟩
      have h0 : X.size = 0 := by rw [hX, List.drop_length]; rfl
      have h1 : X.size < 4 := by omega
      rw [← hX]
      clear hX h0
      go_wp2
      go_ret2
      refine ⟨_, rfl, ?_, hbel⟩
      have := HO.out
      rw [List.take_length] at this
      exact ReadsE.of this
end Go.Proofs.YtopajpomhflgbaaGreatDoor
