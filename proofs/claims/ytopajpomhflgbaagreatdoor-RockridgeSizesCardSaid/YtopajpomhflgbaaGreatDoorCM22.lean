/- Contracts of the reference's Check and Encode of entries. -/
import Derived.Test.YtopajpomhflgbaaGreatDoorCM21
namespace Go.Proofs.YtopajpomhflgbaaGreatDoor
set_option linter.unusedSimpArgs false
set_option linter.unusedVariables false
open Go.RowKit
open Go.PlainAid (bt get_bt bt_nonneg bt_le)

set_option maxHeartbeats 1000000 in
theorem sig_good (a b : UInt8) (ha : 65 ≤ (a.toNat : Int) ∧ (a.toNat : Int) ≤ 90) (hb : 65 ≤ (b.toNat : Int) ∧ (b.toNat : Int) ≤ 90) (w : World) : Calls Tryz.prog 58 #[.string ⟨#[a, b]⟩] w fun e w' => e = .returned (.bool true) ∧ w = w' := by
  obtain ⟨s, hs⟩ : ∃ s : ByteArray, s = ⟨#[a, b]⟩ := ⟨_, rfl⟩
  have h2 : s.size = 2 := by rw [hs]; rfl
  have hat : ∀ (k : Nat) (hk : k < s.size), 65 ≤ ((s[k]'hk).toNat : Int) ∧ ((s[k]'hk).toNat : Int) ≤ 90 := by
    subst hs
    intro k hk
    match k, hk with
    | 0, _ => exact ha
    | 1, _ => exact hb
    | k + 2, hk => exact absurd hk (by show ¬ k + 2 < 2; omega)
  rw [← hs]
  clear hs
  have HA := hide hat
  have H2 := hide h2
  have hlo : ¬ (s.size : Int) < 2 := by omega
  clear hat
  have HL : Live w [] := trivial
  go_enter Tryz.func58, Tryz.ntmps58
  go_wp2_with fail
  go_loop [3] (fun i => ∃ k : Nat, k ≤ 2 ∧ i = .int .i64 k) (fun i => 2 - (intOf i).toNat)
  case atStart => exact ⟨0, by omega, rfl⟩
  case round =>
    obtain ⟨k, hk, rfl⟩ := hrel
    by_cases hlt : k < 2
    · have hks : k < s.size := by have := H2.out; omega
      obtain ⟨g1, g2⟩ := HA.out k hks
      go_wp2
      all_goals
        go_round
        case rel => exact ⟨k + 1, by omega, by go_num⟩
        case measure => simp [intOf]; omega
    · obtain rfl : k = 2 := by omega
      go_wp2
      go_ret
      exact ⟨rfl, rfl⟩
set_option maxHeartbeats 1000000 in
theorem chk24 (L : List En) (a : Value) (hL : L.length ≤ 1000) (hG : ∀ e ∈ L, GoodE e) (w : World) (ha : ReadsE w a L) : Calls Tryz.prog 57 #[a] w fun e w' => e = .returned (.int .i64 0) ∧ w = w' := by
  obtain ⟨A, c, rfl, hA⟩ := ha
  have HA := hide hA
  have HG := hide hG
  clear hA hG
  have HL : Live w [] := trivial
  go_enter Tryz.func57, Tryz.ntmps57
  go_wp2_with fail
  go_loop [3] (fun i => ∃ k : Nat, k ≤ L.length ∧ i = .int .i64 k) (fun i => L.length - (intOf i).toNat)
  case atStart => exact ⟨0, by omega, rfl⟩
  case round =>
    obtain ⟨k, hk, rfl⟩ := hrel
    by_cases hlt : k < L.length
    · obtain ⟨e, he⟩ : ∃ e, L[k]? = some e := ⟨_, List.getElem?_eq_getElem hlt⟩
      obtain ⟨g, rfl, hg, hc⟩ := HA.out (by omega)
      obtain ⟨⟨x, y, hs, hx, hy, _⟩, hv, hd⟩ := HG.out e (List.mem_of_getElem? he)
      obtain ⟨v0, v1, v2⟩ := entsV_at L k e he
      rw [hs] at v0
      rw [hv] at v1
      have c0 := hc _ _ v0
      have c1 := hc _ _ v1
      have c2 := hc _ _ v2
      have SG := hide (fun W => sig_good x y hx hy W)
      clear he hc v0 v1 v2 hs hv hx hy
      go_wp2_with (first | (go_at_call 58; (with_reducible refine (SG.out _).mono ?_); rintro e w' ⟨rfl, rfl⟩))
      go_round
      case rel => exact ⟨k + 1, by omega, by go_num⟩
      case measure => simp [intOf]; omega
    · obtain rfl : k = L.length := by omega
      go_wp2
      go_ret
      exact ⟨rfl, rfl⟩
theorem enc_take (L : List En) (k : Nat) (e : En) (h : L[k]? = some e) : encEs (L.take (k + 1)) = encEs (L.take k) ++ encE e := by
  obtain ⟨hi, e2⟩ := List.getElem?_eq_some_iff.1 h
  unfold encEs
  rw [List.take_succ_eq_append_getElem hi, e2]
  simp
theorem encEs_len : ∀ (L : List En), (∀ e ∈ L, GoodE e) → (encEs L).length ≤ 255 * L.length
  | [], _ => by simp [encEs]
  | e :: r, h => by
    have h1 := encEs_len r (fun x hx => h x (by simp [hx]))
    have h2 := encE_len (h e (by simp))
    have h3 := (h e (by simp)).size
    unfold encEs at *
    simp only [List.flatMap_cons, List.length_append, List.length_cons]
    omega
theorem conv_two {P : Program} (src dst e : TypeId) (hs : P.underlying src = some (.slice e)) (he : P.underlying e = some (.int .u8)) (hd : P.underlying dst = some .string) (W : World) (t : TypeId) (x y : Int) :
    (convert src dst (.slice (some ⟨W.heap.size, 0, none⟩) 2 2)).run P (W.alloc (.cells #[.int .u8 x, .int .u8 y] t)).drew = .ok (.string ⟨#[UInt8.ofNat x.toNat, UInt8.ofNat y.toNat]⟩) (W.alloc (.cells #[.int .u8 x, .int .u8 y] t)).drew :=
  conv_lit src dst e hs he hd W.drew t [x, y] #[.int .u8 x, .int .u8 y] rfl 2 2 rfl
theorem conv_two' {P : Program} (src dst e : TypeId) (hs : P.underlying src = some (.slice e)) (he : P.underlying e = some (.int .u8)) (hd : P.underlying dst = some .string) (W : World) (t : TypeId) (x y : Int) :
    (convert src dst (.slice (some ⟨W.heap.size, 0, none⟩) 2 2)).run P (W.alloc (.cells #[.int .u8 x, .int .u8 y] t)) = .ok (.string ⟨#[UInt8.ofNat x.toNat, UInt8.ofNat y.toNat]⟩) (W.alloc (.cells #[.int .u8 x, .int .u8 y] t)) :=
  conv_lit src dst e hs he hd W t [x, y] #[.int .u8 x, .int .u8 y] rfl 2 2 rfl
theorem cat_enc (M : List UInt8) (e : En) (y : Int) (hy : UInt8.ofNat y.toNat = 1) : ByteArray.mk M.toArray ++ e.sig ++ ByteArray.mk #[UInt8.ofNat (4 + (e.data.size : Int)).toNat, UInt8.ofNat y.toNat] ++ e.data = ⟨(M ++ encE e).toArray⟩ := by
  have e4 : (4 + (e.data.size : Int)).toNat = 4 + e.data.size := by omega
  rw [e4, hy]
  unfold encE
  apply ByteArray.ext
  apply Array.toList_inj.1
  simp [ByteArray.data_append, Array.toList_append]
set_option maxHeartbeats 4000000 in
theorem enc24 (L : List En) (a : Value) (hL : L.length ≤ 1000) (hG : ∀ e ∈ L, GoodE e) (w : World) (ha : ReadsE w a L) : Calls Tryz.prog 21 #[a] w fun e w' => e = .returned (.tuple #[.string ⟨(encEs L).toArray⟩, .int .i64 0]) ∧ Below w.heap.size w w' := by
  have CH24 := hide (chk24 L a hL hG w ha)
  obtain ⟨A, c, rfl, hA⟩ := ha
  have HA := hide hA
  have HG := hide hG
  clear hA hG
  have cv := fun (W : World) (x y : Int) => conv_two (P := Tryz.prog) 62 9 5 Tryz.underlying62 Tryz.underlying5 Tryz.underlying9 W 5 x y
  have cv' := fun (W : World) (x y : Int) => conv_two' (P := Tryz.prog) 62 9 5 Tryz.underlying62 Tryz.underlying5 Tryz.underlying9 W 5 x y
  have HL : Live w [] := trivial
  go_enter Tryz.func21, Tryz.ntmps21
  go_wp2_with fail
  refine CH24.out.mono ?_
  rintro e w' ⟨rfl, rfl⟩
  go_wp2_with fail
  go_loopw [5, 6] (fun s i wr => ∃ k : Nat, k ≤ L.length ∧ i = .int .i64 k ∧ s = .string ⟨(encEs (L.take k)).toArray⟩ ∧ Below w.heap.size w wr) (fun _ i _ => L.length - (intOf i).toNat)
  case atStart => exact ⟨0, by omega, rfl, rfl, Below.refl _ _⟩
  case round =>
    obtain ⟨k, hk, rfl, rfl, hbel⟩ := hrel
    have hsz := hbel.size
    by_cases hlt : k < L.length
    · obtain ⟨e, he⟩ : ∃ e, L[k]? = some e := ⟨_, List.getElem?_eq_getElem hlt⟩
      obtain ⟨g, rfl, hg, hc⟩ := HA.out (by omega)
      obtain ⟨_, hv, hd⟩ := HG.out e (List.mem_of_getElem? he)
      obtain ⟨v0, v1, v2⟩ := entsV_at L k e he
      rw [hv] at v1
      have c0 : wr.cell? ⟨g, k * 3, none⟩ = some (.string e.sig) := (hbel.cell (p := ⟨g, _, none⟩) hg).trans (hc _ _ v0)
      have c1 : wr.cell? ⟨g, k * 3 + 1, none⟩ = some (.int .i64 1) := (hbel.cell (p := ⟨g, _, none⟩) hg).trans (hc _ _ v1)
      have c2 : wr.cell? ⟨g, k * 3 + 1 + 1, none⟩ = some (.string e.data) := (hbel.cell (p := ⟨g, _, none⟩) hg).trans (hc _ _ v2)
      have hl := encEs_len (L.take k) (fun x hx => HG.out x (List.mem_of_mem_take hx))
      have h3 : (L.take k).length ≤ k := List.length_take_le _ _
      have hs2 : e.sig.size = 2 := by obtain ⟨⟨x, y, hs, _⟩, _, _⟩ := HG.out e (List.mem_of_getElem? he); rw [hs]; rfl
      have HT := hide (enc_take L k e he)
      generalize encEs (L.take k) = M at *
      have hML : M.length ≤ 300000 := by omega
      clear he hc v0 v1 v2 hv hl h3
      go_upto_region 8 with fail
      have hgl : g < wr.heap.size := by omega
      have hw1 : IntKind.i64.wrap (4 + (e.data.size : Int)) = 4 + e.data.size := IntWalk.i64_in _ (by omega)
      have hw2 : IntKind.u8.wrap (4 + (e.data.size : Int)) = 4 + e.data.size := IntWalk.u8_in _ (by omega)
      have n1 : ¬ 9223372036854775807 < M.length + e.sig.size := by omega
      have n2 : ¬ 9223372036854775807 < M.length + e.sig.size + 1 + 1 := by omega
      have n3 : ¬ 9223372036854775807 < M.length + e.sig.size + 2 + e.data.size := by omega
      have HS2 := hide hs2
      clear hs2
      refine wp_region_noPanic ?_
      refine wp_region_held_drew (S := (fun x => x.cell? ⟨g, k * 3, none⟩ = some (.string e.sig) ∧ x.cell? ⟨g, k * 3 + 1, none⟩ = some (.int .i64 1) ∧ x.cell? ⟨g, k * 3 + 1 + 1, none⟩ = some (.string e.data))) (by kernel_rfl) (by (try dsimp only); first | assumption | (simp [*, go_sem]; done) | (refine ⟨?_, ?_⟩ <;> simp [*, go_sem])) (fun hHeld => ?_)
      refine wpAnyH_take (i := 0) (oi := { dst := some 18, op := Go.Op.move (Go.Operand.tmp 5), type := 9, pos := "ref.go:58", after := #[], guard := none }) (v := ?_) rfl (by kernel_rfl) (by kernel_rfl) (by kernel_rfl) (fun _ _ _ h => h) (Or.inl ⟨by rfl, ?_⟩) (by assumption) ?_
      rotate_left
      · intro w hSw; (try dsimp only at hSw); go_simp; (try with_reducible rfl)
      try simp only [Act.put, List.setIfInBounds_toArray, List.set_cons_zero, List.set_cons_succ]
      refine wpAnyH_take (i := 1) (oi := { dst := some 19, op := Go.Op.move (Go.Operand.tmp 0), type := 26, pos := "ref.go:58", after := #[], guard := none }) (v := ?_) rfl (by kernel_rfl) (by kernel_rfl) (by kernel_rfl) (fun _ _ _ h => h) (Or.inl ⟨by rfl, ?_⟩) (by assumption) ?_
      rotate_left
      · intro w hSw; (try dsimp only at hSw); go_simp; (try with_reducible rfl)
      try simp only [Act.put, List.setIfInBounds_toArray, List.set_cons_zero, List.set_cons_succ]
      refine wpAnyH_take (i := 2) (oi := { dst := some 20, op := Go.Op.move (Go.Operand.tmp 6), type := 3, pos := "ref.go:58", after := #[], guard := none }) (v := ?_) rfl (by kernel_rfl) (by kernel_rfl) (by kernel_rfl) (fun _ _ _ h => h) (Or.inl ⟨by rfl, ?_⟩) (by assumption) ?_
      rotate_left
      · intro w hSw; (try dsimp only at hSw); go_simp; (try with_reducible rfl)
      try simp only [Act.put, List.setIfInBounds_toArray, List.set_cons_zero, List.set_cons_succ]
      refine wpAnyH_take (i := 3) (oi := { dst := some 21, op := Go.Op.indexAddr 26 (Go.Operand.tmp 19) (Go.Operand.tmp 20), type := 0, pos := "ref.go:58", after := #[{ on := 1, ground := Go.Ground.data }, { on := 2, ground := Go.Ground.data }], guard := none }) (v := ?_) rfl (by kernel_rfl) (by kernel_rfl) (by kernel_rfl) (fun _ _ _ h => h) (Or.inl ⟨by rfl, ?_⟩) (by assumption) ?_
      rotate_left
      · intro w hSw; (try dsimp only at hSw); go_simp; (try with_reducible rfl)
      try simp only [Act.put, List.setIfInBounds_toArray, List.set_cons_zero, List.set_cons_succ]
      refine wpAnyH_take (i := 4) (oi := { dst := some 22, op := Go.Op.fieldAddr 32 (Go.Operand.tmp 21) 0, type := 0, pos := "ref.go:58", after := #[{ on := 3, ground := Go.Ground.data }], guard := none }) (v := ?_) rfl (by kernel_rfl) (by kernel_rfl) (by kernel_rfl) (fun _ _ _ h => h) (Or.inl ⟨by rfl, ?_⟩) (by assumption) ?_
      rotate_left
      · intro w hSw; (try dsimp only at hSw); go_simp; (try with_reducible rfl)
      try simp only [Act.put, List.setIfInBounds_toArray, List.set_cons_zero, List.set_cons_succ]
      refine wpAnyH_take (i := 5) (oi := { dst := some 23, op := Go.Op.load 9 (Go.Operand.tmp 22), type := 9, pos := "ref.go:58", after := #[{ on := 4, ground := Go.Ground.data }], guard := none }) (v := ?_) rfl (by kernel_rfl) (by kernel_rfl) (by kernel_rfl) (fun _ _ _ h => h) (Or.inl ⟨by rfl, ?_⟩) (by assumption) ?_
      rotate_left
      · intro w hSw; (try dsimp only at hSw); go_simp; (try with_reducible rfl)
      try simp only [Act.put, List.setIfInBounds_toArray, List.set_cons_zero, List.set_cons_succ]
      refine wpAnyH_take (i := 6) (oi := { dst := some 24, op := Go.Op.binOp Go.BinOp.add 9 (Go.Operand.tmp 18) (Go.Operand.tmp 23) 9, type := 9, pos := "ref.go:58", after := #[{ on := 0, ground := Go.Ground.data }, { on := 5, ground := Go.Ground.data }], guard := none }) (v := ?_) rfl (by kernel_rfl) (by kernel_rfl) (by kernel_rfl) (fun _ _ _ h => h) (Or.inl ⟨by rfl, ?_⟩) (by assumption) ?_
      rotate_left
      · intro w hSw; (try dsimp only at hSw); go_simp; (try with_reducible rfl)
      try simp only [Act.put, List.setIfInBounds_toArray, List.set_cons_zero, List.set_cons_succ]
      refine wpAnyH_take (i := 7) (oi := { dst := some 25, op := Go.Op.move (Go.Operand.tmp 0), type := 26, pos := "ref.go:58", after := #[], guard := none }) (v := ?_) rfl (by kernel_rfl) (by kernel_rfl) (by kernel_rfl) (fun _ _ _ h => h) (Or.inl ⟨by rfl, ?_⟩) (by assumption) ?_
      rotate_left
      · intro w hSw; (try dsimp only at hSw); go_simp; (try with_reducible rfl)
      try simp only [Act.put, List.setIfInBounds_toArray, List.set_cons_zero, List.set_cons_succ]
      refine wpAnyH_take (i := 8) (oi := { dst := some 26, op := Go.Op.move (Go.Operand.tmp 6), type := 3, pos := "ref.go:58", after := #[], guard := none }) (v := ?_) rfl (by kernel_rfl) (by kernel_rfl) (by kernel_rfl) (fun _ _ _ h => h) (Or.inl ⟨by rfl, ?_⟩) (by assumption) ?_
      rotate_left
      · intro w hSw; (try dsimp only at hSw); go_simp; (try with_reducible rfl)
      try simp only [Act.put, List.setIfInBounds_toArray, List.set_cons_zero, List.set_cons_succ]
      refine wpAnyH_take (i := 9) (oi := { dst := some 27, op := Go.Op.indexAddr 26 (Go.Operand.tmp 25) (Go.Operand.tmp 26), type := 0, pos := "ref.go:58", after := #[{ on := 7, ground := Go.Ground.data }, { on := 8, ground := Go.Ground.data }], guard := none }) (v := ?_) rfl (by kernel_rfl) (by kernel_rfl) (by kernel_rfl) (fun _ _ _ h => h) (Or.inl ⟨by rfl, ?_⟩) (by assumption) ?_
      rotate_left
      · intro w hSw; (try dsimp only at hSw); go_simp; (try with_reducible rfl)
      try simp only [Act.put, List.setIfInBounds_toArray, List.set_cons_zero, List.set_cons_succ]
      refine wpAnyH_take (i := 10) (oi := { dst := some 28, op := Go.Op.fieldAddr 32 (Go.Operand.tmp 27) 2, type := 0, pos := "ref.go:58", after := #[{ on := 9, ground := Go.Ground.data }], guard := none }) (v := ?_) rfl (by kernel_rfl) (by kernel_rfl) (by kernel_rfl) (fun _ _ _ h => h) (Or.inl ⟨by rfl, ?_⟩) (by assumption) ?_
      rotate_left
      · intro w hSw; (try dsimp only at hSw); go_simp; (try with_reducible rfl)
      try simp only [Act.put, List.setIfInBounds_toArray, List.set_cons_zero, List.set_cons_succ]
      refine wpAnyH_take (i := 11) (oi := { dst := some 29, op := Go.Op.load 9 (Go.Operand.tmp 28), type := 9, pos := "ref.go:58", after := #[{ on := 10, ground := Go.Ground.data }], guard := none }) (v := ?_) rfl (by kernel_rfl) (by kernel_rfl) (by kernel_rfl) (fun _ _ _ h => h) (Or.inl ⟨by rfl, ?_⟩) (by assumption) ?_
      rotate_left
      · intro w hSw; (try dsimp only at hSw); go_simp; (try with_reducible rfl)
      try simp only [Act.put, List.setIfInBounds_toArray, List.set_cons_zero, List.set_cons_succ]
      refine wpAnyH_take (i := 15) (oi := { dst := some 33, op := Go.Op.move (Go.Operand.tmp 0), type := 26, pos := "ref.go:58", after := #[], guard := none }) (v := ?_) rfl (by kernel_rfl) (by kernel_rfl) (by kernel_rfl) (fun _ _ _ h => h) (Or.inl ⟨by rfl, ?_⟩) (by assumption) ?_
      rotate_left
      · intro w hSw; (try dsimp only at hSw); go_simp; (try with_reducible rfl)
      try simp only [Act.put, List.setIfInBounds_toArray, List.set_cons_zero, List.set_cons_succ]
      refine wpAnyH_take (i := 16) (oi := { dst := some 34, op := Go.Op.move (Go.Operand.tmp 6), type := 3, pos := "ref.go:58", after := #[], guard := none }) (v := ?_) rfl (by kernel_rfl) (by kernel_rfl) (by kernel_rfl) (fun _ _ _ h => h) (Or.inl ⟨by rfl, ?_⟩) (by assumption) ?_
      rotate_left
      · intro w hSw; (try dsimp only at hSw); go_simp; (try with_reducible rfl)
      try simp only [Act.put, List.setIfInBounds_toArray, List.set_cons_zero, List.set_cons_succ]
      refine wpAnyH_take (i := 17) (oi := { dst := some 35, op := Go.Op.indexAddr 26 (Go.Operand.tmp 33) (Go.Operand.tmp 34), type := 0, pos := "ref.go:58", after := #[{ on := 15, ground := Go.Ground.data }, { on := 16, ground := Go.Ground.data }], guard := none }) (v := ?_) rfl (by kernel_rfl) (by kernel_rfl) (by kernel_rfl) (fun _ _ _ h => h) (Or.inl ⟨by rfl, ?_⟩) (by assumption) ?_
      rotate_left
      · intro w hSw; (try dsimp only at hSw); go_simp; (try with_reducible rfl)
      try simp only [Act.put, List.setIfInBounds_toArray, List.set_cons_zero, List.set_cons_succ]
      refine wpAnyH_take (i := 18) (oi := { dst := some 36, op := Go.Op.fieldAddr 32 (Go.Operand.tmp 35) 1, type := 0, pos := "ref.go:58", after := #[{ on := 17, ground := Go.Ground.data }], guard := none }) (v := ?_) rfl (by kernel_rfl) (by kernel_rfl) (by kernel_rfl) (fun _ _ _ h => h) (Or.inl ⟨by rfl, ?_⟩) (by assumption) ?_
      rotate_left
      · intro w hSw; (try dsimp only at hSw); go_simp; (try with_reducible rfl)
      try simp only [Act.put, List.setIfInBounds_toArray, List.set_cons_zero, List.set_cons_succ]
      refine wpAnyH_take (i := 19) (oi := { dst := some 37, op := Go.Op.load 3 (Go.Operand.tmp 36), type := 3, pos := "ref.go:58", after := #[{ on := 18, ground := Go.Ground.data }], guard := none }) (v := ?_) rfl (by kernel_rfl) (by kernel_rfl) (by kernel_rfl) (fun _ _ _ h => h) (Or.inl ⟨by rfl, ?_⟩) (by assumption) ?_
      rotate_left
      · intro w hSw; (try dsimp only at hSw); go_simp; (try with_reducible rfl)
      try simp only [Act.put, List.setIfInBounds_toArray, List.set_cons_zero, List.set_cons_succ]
      refine wpAnyH_take (i := 20) (oi := { dst := some 38, op := Go.Op.convert 3 5 (Go.Operand.tmp 37), type := 5, pos := "ref.go:58", after := #[{ on := 19, ground := Go.Ground.data }], guard := none }) (v := ?_) rfl (by kernel_rfl) (by kernel_rfl) (by kernel_rfl) (fun _ _ _ h => h) (Or.inl ⟨by rfl, ?_⟩) (by assumption) ?_
      rotate_left
      · intro w hSw; (try dsimp only at hSw); go_simp; (try with_reducible rfl)
      try simp only [Act.put, List.setIfInBounds_toArray, List.set_cons_zero, List.set_cons_succ]
      refine wpAnyH_take (i := 24) (oi := { dst := some 42, op := Go.Op.move (Go.Operand.tmp 0), type := 26, pos := "ref.go:58", after := #[], guard := none }) (v := ?_) rfl (by kernel_rfl) (by kernel_rfl) (by kernel_rfl) (fun _ _ _ h => h) (Or.inl ⟨by rfl, ?_⟩) (by assumption) ?_
      rotate_left
      · intro w hSw; (try dsimp only at hSw); go_simp; (try with_reducible rfl)
      try simp only [Act.put, List.setIfInBounds_toArray, List.set_cons_zero, List.set_cons_succ]
      refine wpAnyH_take (i := 25) (oi := { dst := some 43, op := Go.Op.move (Go.Operand.tmp 6), type := 3, pos := "ref.go:58", after := #[], guard := none }) (v := ?_) rfl (by kernel_rfl) (by kernel_rfl) (by kernel_rfl) (fun _ _ _ h => h) (Or.inl ⟨by rfl, ?_⟩) (by assumption) ?_
      rotate_left
      · intro w hSw; (try dsimp only at hSw); go_simp; (try with_reducible rfl)
      try simp only [Act.put, List.setIfInBounds_toArray, List.set_cons_zero, List.set_cons_succ]
      refine wpAnyH_take (i := 26) (oi := { dst := some 44, op := Go.Op.indexAddr 26 (Go.Operand.tmp 42) (Go.Operand.tmp 43), type := 0, pos := "ref.go:58", after := #[{ on := 24, ground := Go.Ground.data }, { on := 25, ground := Go.Ground.data }], guard := none }) (v := ?_) rfl (by kernel_rfl) (by kernel_rfl) (by kernel_rfl) (fun _ _ _ h => h) (Or.inl ⟨by rfl, ?_⟩) (by assumption) ?_
      rotate_left
      · intro w hSw; (try dsimp only at hSw); go_simp; (try with_reducible rfl)
      try simp only [Act.put, List.setIfInBounds_toArray, List.set_cons_zero, List.set_cons_succ]
      refine wpAnyH_take (i := 27) (oi := { dst := some 45, op := Go.Op.fieldAddr 32 (Go.Operand.tmp 44) 2, type := 0, pos := "ref.go:58", after := #[{ on := 26, ground := Go.Ground.data }], guard := none }) (v := ?_) rfl (by kernel_rfl) (by kernel_rfl) (by kernel_rfl) (fun _ _ _ h => h) (Or.inl ⟨by rfl, ?_⟩) (by assumption) ?_
      rotate_left
      · intro w hSw; (try dsimp only at hSw); go_simp; (try with_reducible rfl)
      try simp only [Act.put, List.setIfInBounds_toArray, List.set_cons_zero, List.set_cons_succ]
      refine wpAnyH_take (i := 28) (oi := { dst := some 46, op := Go.Op.load 9 (Go.Operand.tmp 45), type := 9, pos := "ref.go:58", after := #[{ on := 27, ground := Go.Ground.data }], guard := none }) (v := ?_) rfl (by kernel_rfl) (by kernel_rfl) (by kernel_rfl) (fun _ _ _ h => h) (Or.inl ⟨by rfl, ?_⟩) (by assumption) ?_
      rotate_left
      · intro w hSw; (try dsimp only at hSw); go_simp; (try with_reducible rfl)
      try simp only [Act.put, List.setIfInBounds_toArray, List.set_cons_zero, List.set_cons_succ]
      refine wpAnyH_ready (rs := [12]) (by kernel_rfl) (by simp) ?_
      refine AllReadyH.cons (o := { dst := some 30, op := Go.Op.call { callee := Go.Callee.builtin Go.Builtin.len, args := #[Go.Operand.tmp 29], argTypes := #[9] }, type := 3, pos := "ref.go:58", after := #[{ on := 11, ground := Go.Ground.data }], guard := none }) rfl (fun K hK => ?_) AllReadyH.nil
      go_simp
      refine hK.out _ _ (by (try dsimp only); first | assumption | (simp [*, go_sem]; done) | (refine ⟨?_, ?_⟩ <;> simp [*, go_sem])) (fun hHeld => ?_)
      clear hK K
      try simp only [Act.put, List.setIfInBounds_toArray, List.set_cons_zero, List.set_cons_succ]
      refine wpAnyH_take (i := 13) (oi := { dst := some 31, op := Go.Op.binOp Go.BinOp.add 3 (Go.Operand.const (Go.Value.int Go.IntKind.i64 4)) (Go.Operand.tmp 30) 3, type := 3, pos := "ref.go:58", after := #[{ on := 12, ground := Go.Ground.data }], guard := none }) (v := ?_) rfl (by kernel_rfl) (by kernel_rfl) (by kernel_rfl) (fun _ _ _ h => h) (Or.inl ⟨by rfl, ?_⟩) (by assumption) ?_
      rotate_left
      · intro w hSw; (try dsimp only at hSw); go_simp; (try with_reducible rfl)
      try simp only [Act.put, List.setIfInBounds_toArray, List.set_cons_zero, List.set_cons_succ]
      refine wpAnyH_take (i := 14) (oi := { dst := some 32, op := Go.Op.convert 3 5 (Go.Operand.tmp 31), type := 5, pos := "ref.go:58", after := #[{ on := 13, ground := Go.Ground.data }], guard := none }) (v := ?_) rfl (by kernel_rfl) (by kernel_rfl) (by kernel_rfl) (fun _ _ _ h => h) (Or.inl ⟨by rfl, ?_⟩) (by assumption) ?_
      rotate_left
      · intro w hSw; (try dsimp only at hSw); go_simp; (try with_reducible rfl)
      try simp only [Act.put, List.setIfInBounds_toArray, List.set_cons_zero, List.set_cons_succ]
      refine wpAnyH_ready (rs := [21]) (by kernel_rfl) (by simp) ?_
      refine AllReadyH.cons (o := { dst := some 39, op := Go.Op.buildSlice 62 2 #[(0, Go.Operand.tmp 32), (1, Go.Operand.tmp 38)], type := 62, pos := "ref.go:58", after := #[{ on := 14, ground := Go.Ground.data }, { on := 20, ground := Go.Ground.data }], guard := none }) rfl (fun K hK => ?_) AllReadyH.nil
      go_simp
      refine hK.out _ _ (by (try dsimp only); first | assumption | (simp [*, go_sem]; done) | (refine ⟨?_, ?_⟩ <;> simp [*, go_sem])) (fun hHeld => ?_)
      clear hK K
      try simp only [Act.put, List.setIfInBounds_toArray, List.set_cons_zero, List.set_cons_succ]
      refine wpAnyH_ready (rs := [22]) (by kernel_rfl) (by simp) ?_
      refine AllReadyH.cons (o := { dst := some 40, op := Go.Op.convert 62 9 (Go.Operand.tmp 39), type := 9, pos := "ref.go:58", after := #[{ on := 21, ground := Go.Ground.data }], guard := none }) rfl (fun K hK => ?_) AllReadyH.nil
      go_simp
      refine hK.out _ _ (by (try dsimp only); first | assumption | (simp [*, go_sem]; done) | (refine ⟨?_, ?_⟩ <;> simp [*, go_sem])) (fun hHeld => ?_)
      clear hK K
      try simp only [Act.put, List.setIfInBounds_toArray, List.set_cons_zero, List.set_cons_succ]
      refine wpAnyH_take (i := 23) (oi := { dst := some 41, op := Go.Op.binOp Go.BinOp.add 9 (Go.Operand.tmp 24) (Go.Operand.tmp 40) 9, type := 9, pos := "ref.go:58", after := #[{ on := 6, ground := Go.Ground.data }, { on := 22, ground := Go.Ground.data }], guard := none }) (v := ?_) rfl (by kernel_rfl) (by kernel_rfl) (by kernel_rfl) (fun _ _ _ h => h) (Or.inl ⟨by rfl, ?_⟩) (by assumption) ?_
      rotate_left
      · intro w hSw; (try dsimp only at hSw); go_simp; (try with_reducible rfl)
      try simp only [Act.put, List.setIfInBounds_toArray, List.set_cons_zero, List.set_cons_succ]
      refine wpAnyH_take (i := 29) (oi := { dst := some 47, op := Go.Op.binOp Go.BinOp.add 9 (Go.Operand.tmp 41) (Go.Operand.tmp 46) 9, type := 9, pos := "ref.go:58", after := #[{ on := 23, ground := Go.Ground.data }, { on := 28, ground := Go.Ground.data }], guard := none }) (v := ?_) rfl (by kernel_rfl) (by kernel_rfl) (by kernel_rfl) (fun _ _ _ h => h) (Or.inl ⟨by rfl, ?_⟩) (by assumption) ?_
      rotate_left
      · intro w hSw; (try dsimp only at hSw); go_simp; (try with_reducible rfl)
      try simp only [Act.put, List.setIfInBounds_toArray, List.set_cons_zero, List.set_cons_succ]
      refine wpAnyH_take (i := 30) (oi := { dst := some 5, op := Go.Op.assign (Go.Operand.tmp 47), type := 9, pos := "ref.go:58", after := #[{ on := 29, ground := Go.Ground.data }, { on := 0, ground := Go.Ground.phase }, { on := 1, ground := Go.Ground.phase }, { on := 2, ground := Go.Ground.phase }, { on := 3, ground := Go.Ground.phase }, { on := 4, ground := Go.Ground.phase }, { on := 5, ground := Go.Ground.phase }, { on := 6, ground := Go.Ground.phase }, { on := 7, ground := Go.Ground.phase }, { on := 8, ground := Go.Ground.phase }, { on := 9, ground := Go.Ground.phase }, { on := 10, ground := Go.Ground.phase }, { on := 11, ground := Go.Ground.phase }, { on := 12, ground := Go.Ground.phase }, { on := 13, ground := Go.Ground.phase }, { on := 14, ground := Go.Ground.phase }, { on := 15, ground := Go.Ground.phase }, { on := 16, ground := Go.Ground.phase }, { on := 17, ground := Go.Ground.phase }, { on := 18, ground := Go.Ground.phase }, { on := 19, ground := Go.Ground.phase }, { on := 20, ground := Go.Ground.phase }, { on := 21, ground := Go.Ground.phase }, { on := 22, ground := Go.Ground.phase }, { on := 23, ground := Go.Ground.phase }, { on := 24, ground := Go.Ground.phase }, { on := 25, ground := Go.Ground.phase }, { on := 26, ground := Go.Ground.phase }, { on := 27, ground := Go.Ground.phase }, { on := 28, ground := Go.Ground.phase }, { on := 29, ground := Go.Ground.phase }], guard := none }) (v := ?_) rfl (by kernel_rfl) (by kernel_rfl) (by kernel_rfl) (fun _ _ _ h => h) (Or.inl ⟨by rfl, ?_⟩) (by assumption) ?_
      rotate_left
      · intro w hSw; (try dsimp only at hSw); go_simp; (try with_reducible rfl)
      try simp only [Act.put, List.setIfInBounds_toArray, List.set_cons_zero, List.set_cons_succ]
      refine wpAnyH_done (by kernel_rfl) ?_ _
      refine NoPanic.normal ?_
      go_wp2
      go_roundw
      case rel => exact ⟨k + 1, by omega, by go_num, congrArg Value.string ((cat_enc M e _ rfl).trans (by rw [HT.out])), hbel.trans (((Below.refl wr.heap.size wr).alloc (Nat.le_refl _) _).drew.mono hsz)⟩
      case measure => simp [intOf]; omega
    · obtain rfl : k = L.length := by omega
      go_wp2
      go_ret2
      exact ⟨ret2_s (by rw [List.take_length]), hbel⟩
end Go.Proofs.YtopajpomhflgbaaGreatDoor
