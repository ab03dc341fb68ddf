/- Contract of rockridge.Target. -/
import Derived.Test.YtopajpomhflgbaaGreatDoorCX
namespace Go.Proofs.YtopajpomhflgbaaGreatDoor
set_option linter.unusedSimpArgs false
set_option linter.unusedVariables false
open Go.RowKit
open Go.PlainAid (bt get_bt bt_nonneg bt_le)

/-- strings.Join of a row of the call's own, with slashes. -/
theorem join_row (v : Value) (ps : List (List UInt8)) (B : Nat) (w : World) (h : w.ownsRow B 9 1 v ps.length (strsOf ps)) (hl : ps.length ≤ 100000) (hs : Lib.lens ps ≤ 100000) :
    Calls Tryz.prog 29 #[v, .string ⟨#[47]⟩] w fun e w' => e = .returned (.string ⟨(Lib.join ps [47]).toArray⟩) ∧ Below w.heap.size w w' := by
  rcases Go.Joins.ownsRow_forms h with ⟨rfl, h0⟩ | ⟨g, cap, rfl⟩
  · obtain rfl : ps = [] := List.eq_nil_of_length_eq_zero h0
    refine (Any.strings_Join_none Tryz.lays156 Tryz.Builder_Extra_156 none 0 ⟨#[47]⟩ w).mono ?_
    rintro e w' ⟨rfl, rfl⟩
    exact ⟨rfl, Below.refl _ _⟩
  · have hlt := (h.lt g rfl).2
    have hcap : ps.length ≤ cap := by
      rcases h.2 with ⟨h1, _⟩ | ⟨g', cap', cur, h1, _, _, h4, _⟩
      · simp at h1
      · simp at h1; omega
    have hj := Go.Lib.Pa.join_len_le ps
    have := Any.strings_Join Tryz.lays156 Tryz.Builder_Extra_156 g 0 cap (ps.map fun p => ⟨p.toArray⟩) ⟨#[47]⟩ w (by
      intro j x hx
      rw [Nat.zero_add, h.cellAt j (by
        have := (List.getElem?_eq_some_iff.1 hx).1
        simp at this
        omega)]
      unfold strsOf
      simp only [List.getElem?_map] at hx ⊢
      cases hp : ps[j]? with
      | none => rw [hp] at hx; cases hx
      | some p => rw [hp] at hx; simp at hx ⊢; exact hx) hlt (by simp; omega) (by simp; omega) (by simp only [List.map_map]; show (Lib.join (ps.map (fun p => p)) [47]).length ≤ _; rw [List.map_id']; omega)
    simp only [List.length_map, List.map_map] at this
    have e : (List.map ((fun x : ByteArray => x.data.toList) ∘ fun p : List UInt8 => ⟨p.toArray⟩) ps) = ps := by
      show ps.map (fun p => p) = ps
      exact List.map_id' _
    rw [e] at this
    exact this
def TRel (s : ByteArray) (B : Nat) (w : World) (pv av bv ov : Value) (k : Nat) (wr : World) : Prop :=
  ∃ (abs : Bool) (parts : List (List UInt8)) (part : List UInt8) (on : Bool), av = .string (pfx abs) ∧ bv = .string ⟨part.toArray⟩ ∧ ov = .bool on ∧ wr.ownsRow B 9 1 pv parts.length (strsOf parts) ∧
    decF s 0 false [] [] false = decF s k abs parts part on ∧ Lib.lens parts + part.length ≤ k ∧ parts.length ≤ k ∧ Below B w wr
set_option maxRecDepth 100000 in
set_option maxHeartbeats 8000000 in
theorem tgt_any (s : ByteArray) (hs : s.size ≤ 20000) (w : World) (hT : TabV w) : Calls Tryz.prog 17 #[.string s] w fun e w' => e = tgtR (decF s 0 false [] [] false) ∧ Below w.heap.size w w' := by
  have hg := get_bt s
  have HL : Live w [] := trivial
  go_enter Tryz.func17, Tryz.ntmps17
  go_wp2_with fail
  go_loopw [4, 5, 6, 7, 8] (fun p a b o i wr => ∃ k : Nat, k ≤ s.size ∧ i = .int .i64 k ∧ TRel s w.heap.size w p a b o k wr) (fun _ _ _ _ i _ => s.size - (intOf i).toNat)
  case atStart => exact ⟨0, by omega, rfl, false, [], [], false, rfl, rfl, rfl, World.ownsRow_nil _ _ _ _, rfl, by simp [Lib.lens], by simp, by (repeat' (first | (with_reducible exact Below.refl _ _) | (with_reducible refine Below.alloc ?_ ?_ _) | (with_reducible refine Below.setCell ?_ ?_ _) | (with_reducible refine Below.drew ?_) | (with_reducible refine below_drewN' ?_) | (with_reducible refine below_bytesW ?_ ?_) | (with_reducible refine Below.trans ?_ (Below.mono (by assumption) ?_)) | omega | (simp only [World.size_alloc, World.size_setCell, World.size_drew]; omega) | (simp [size_bytesW]; omega) | (simp; omega)))⟩
  case round =>
    obtain ⟨k, hk, rfl, abs, parts, part, on, rfl, rfl, rfl, hown, hdec, hl1, hl2, hbel⟩ := hrel
    have HD := hide hdec
    have HO := hide hown
    clear hdec hown
    have hsz := hbel.size
    by_cases hlt : k < s.size
    · by_cases h2 : k + 2 ≤ s.size
      · obtain ⟨n, hn⟩ := Int.eq_ofNat_of_zero_le (bt_nonneg s (k + 1))
        have hn255 := bt_le s (k + 1)
        by_cases h3 : k + 2 + n ≤ s.size
        · have HG := hide (fun abs parts part on => decF_go (abs := abs) (parts := parts) (part := part) (on := on) h3 hn)
          have f0 := bt_nonneg s k
          have f1 := bt_le s k
          have hsl := sub_len s (k + 2) n
          go_upto_region 7 with fail
          have ka : IntKind.i64.wrap ((k : Int) + 1) = (k : Int) + 1 := IntWalk.i64_in _ (by omega)
          have kb : IntKind.i64.wrap ((k : Int) + 2) = (k : Int) + 2 := IntWalk.i64_in _ (by omega)
          have kc : IntKind.i64.wrap ((k : Int) + 2 + (n : Int)) = (k : Int) + 2 + (n : Int) := IntWalk.i64_in _ (by omega)
          have kd : IntKind.i64.wrap (n : Int) = (n : Int) := IntWalk.i64_in _ (by omega)
          have ke : 0 ≤ (k : Int) + 2 + (n : Int) ∧ (k : Int) + 2 + (n : Int) ≤ (s.size : Int) := by omega
          have kf : 0 ≤ (k : Int) + 2 ∧ (k : Int) + 2 ≤ (k : Int) + 2 + (n : Int) := by omega
          have kg : ((k : Int) + 2).toNat = k + 2 := by omega
          have kh : ((k : Int) + 2 + (n : Int)).toNat = k + 2 + n := by omega
          refine wp_region_noPanic ?_
          refine wp_region_held_drew (S := (fun _ => True ∧ True)) (by kernel_rfl) (by (try dsimp only); first | assumption | (simp [*, go_sem]; done) | (refine ⟨?_, ?_⟩ <;> simp [*, go_sem])) (fun hHeld => ?_)
          refine wpAnyH_take (i := 0) (oi := { dst := some 34, op := Go.Op.move (Go.Operand.tmp 0), type := 9, pos := "rockridge.go:238", after := #[], guard := none }) (v := ?_) rfl (by kernel_rfl) (by kernel_rfl) (by kernel_rfl) (fun _ _ _ h => h) (Or.inl ⟨by rfl, ?_⟩) (by assumption) ?_
          rotate_left
          · intro w hSw; (try dsimp only at hSw); go_simp; (try with_reducible rfl)
          try simp only [Act.put, List.setIfInBounds_toArray, List.set_cons_zero, List.set_cons_succ]
          refine wpAnyH_take (i := 1) (oi := { dst := some 35, op := Go.Op.move (Go.Operand.tmp 8), type := 3, pos := "rockridge.go:238", after := #[], guard := none }) (v := ?_) rfl (by kernel_rfl) (by kernel_rfl) (by kernel_rfl) (fun _ _ _ h => h) (Or.inl ⟨by rfl, ?_⟩) (by assumption) ?_
          rotate_left
          · intro w hSw; (try dsimp only at hSw); go_simp; (try with_reducible rfl)
          try simp only [Act.put, List.setIfInBounds_toArray, List.set_cons_zero, List.set_cons_succ]
          refine wpAnyH_take (i := 2) (oi := { dst := some 36, op := Go.Op.index 9 (Go.Operand.tmp 34) (Go.Operand.tmp 35), type := 5, pos := "rockridge.go:238", after := #[{ on := 0, ground := Go.Ground.data }, { on := 1, ground := Go.Ground.data }], guard := none }) (v := ?_) rfl (by kernel_rfl) (by kernel_rfl) (by kernel_rfl) (fun _ _ _ h => h) (Or.inl ⟨by rfl, ?_⟩) (by assumption) ?_
          rotate_left
          · intro w hSw; (try dsimp only at hSw); go_simp; (try with_reducible rfl)
          try simp only [Act.put, List.setIfInBounds_toArray, List.set_cons_zero, List.set_cons_succ]
          refine wpAnyH_take (i := 3) (oi := { dst := some 37, op := Go.Op.move (Go.Operand.tmp 0), type := 9, pos := "rockridge.go:238", after := #[], guard := none }) (v := ?_) rfl (by kernel_rfl) (by kernel_rfl) (by kernel_rfl) (fun _ _ _ h => h) (Or.inl ⟨by rfl, ?_⟩) (by assumption) ?_
          rotate_left
          · intro w hSw; (try dsimp only at hSw); go_simp; (try with_reducible rfl)
          try simp only [Act.put, List.setIfInBounds_toArray, List.set_cons_zero, List.set_cons_succ]
          refine wpAnyH_take (i := 4) (oi := { dst := some 38, op := Go.Op.move (Go.Operand.tmp 8), type := 3, pos := "rockridge.go:238", after := #[], guard := none }) (v := ?_) rfl (by kernel_rfl) (by kernel_rfl) (by kernel_rfl) (fun _ _ _ h => h) (Or.inl ⟨by rfl, ?_⟩) (by assumption) ?_
          rotate_left
          · intro w hSw; (try dsimp only at hSw); go_simp; (try with_reducible rfl)
          try simp only [Act.put, List.setIfInBounds_toArray, List.set_cons_zero, List.set_cons_succ]
          refine wpAnyH_take (i := 5) (oi := { dst := some 39, op := Go.Op.binOp Go.BinOp.add 3 (Go.Operand.tmp 38) (Go.Operand.const (Go.Value.int Go.IntKind.i64 2)) 3, type := 3, pos := "rockridge.go:238", after := #[{ on := 4, ground := Go.Ground.data }], guard := none }) (v := ?_) rfl (by kernel_rfl) (by kernel_rfl) (by kernel_rfl) (fun _ _ _ h => h) (Or.inl ⟨by rfl, ?_⟩) (by assumption) ?_
          rotate_left
          · intro w hSw; (try dsimp only at hSw); go_simp; (try with_reducible rfl)
          try simp only [Act.put, List.setIfInBounds_toArray, List.set_cons_zero, List.set_cons_succ]
          refine wpAnyH_take (i := 6) (oi := { dst := some 40, op := Go.Op.move (Go.Operand.tmp 8), type := 3, pos := "rockridge.go:238", after := #[], guard := none }) (v := ?_) rfl (by kernel_rfl) (by kernel_rfl) (by kernel_rfl) (fun _ _ _ h => h) (Or.inl ⟨by rfl, ?_⟩) (by assumption) ?_
          rotate_left
          · intro w hSw; (try dsimp only at hSw); go_simp; (try with_reducible rfl)
          try simp only [Act.put, List.setIfInBounds_toArray, List.set_cons_zero, List.set_cons_succ]
          refine wpAnyH_take (i := 7) (oi := { dst := some 41, op := Go.Op.binOp Go.BinOp.add 3 (Go.Operand.tmp 40) (Go.Operand.const (Go.Value.int Go.IntKind.i64 2)) 3, type := 3, pos := "rockridge.go:238", after := #[{ on := 6, ground := Go.Ground.data }], guard := none }) (v := ?_) rfl (by kernel_rfl) (by kernel_rfl) (by kernel_rfl) (fun _ _ _ h => h) (Or.inl ⟨by rfl, ?_⟩) (by assumption) ?_
          rotate_left
          · intro w hSw; (try dsimp only at hSw); go_simp; (try with_reducible rfl)
          try simp only [Act.put, List.setIfInBounds_toArray, List.set_cons_zero, List.set_cons_succ]
          refine wpAnyH_take (i := 8) (oi := { dst := some 42, op := Go.Op.move (Go.Operand.tmp 0), type := 9, pos := "rockridge.go:238", after := #[], guard := none }) (v := ?_) rfl (by kernel_rfl) (by kernel_rfl) (by kernel_rfl) (fun _ _ _ h => h) (Or.inl ⟨by rfl, ?_⟩) (by assumption) ?_
          rotate_left
          · intro w hSw; (try dsimp only at hSw); go_simp; (try with_reducible rfl)
          try simp only [Act.put, List.setIfInBounds_toArray, List.set_cons_zero, List.set_cons_succ]
          refine wpAnyH_take (i := 9) (oi := { dst := some 43, op := Go.Op.move (Go.Operand.tmp 8), type := 3, pos := "rockridge.go:238", after := #[], guard := none }) (v := ?_) rfl (by kernel_rfl) (by kernel_rfl) (by kernel_rfl) (fun _ _ _ h => h) (Or.inl ⟨by rfl, ?_⟩) (by assumption) ?_
          rotate_left
          · intro w hSw; (try dsimp only at hSw); go_simp; (try with_reducible rfl)
          try simp only [Act.put, List.setIfInBounds_toArray, List.set_cons_zero, List.set_cons_succ]
          refine wpAnyH_take (i := 10) (oi := { dst := some 44, op := Go.Op.binOp Go.BinOp.add 3 (Go.Operand.tmp 43) (Go.Operand.const (Go.Value.int Go.IntKind.i64 1)) 3, type := 3, pos := "rockridge.go:238", after := #[{ on := 9, ground := Go.Ground.data }], guard := none }) (v := ?_) rfl (by kernel_rfl) (by kernel_rfl) (by kernel_rfl) (fun _ _ _ h => h) (Or.inl ⟨by rfl, ?_⟩) (by assumption) ?_
          rotate_left
          · intro w hSw; (try dsimp only at hSw); go_simp; (try with_reducible rfl)
          try simp only [Act.put, List.setIfInBounds_toArray, List.set_cons_zero, List.set_cons_succ]
          refine wpAnyH_take (i := 11) (oi := { dst := some 45, op := Go.Op.index 9 (Go.Operand.tmp 42) (Go.Operand.tmp 44), type := 5, pos := "rockridge.go:238", after := #[{ on := 8, ground := Go.Ground.data }, { on := 10, ground := Go.Ground.data }], guard := none }) (v := ?_) rfl (by kernel_rfl) (by kernel_rfl) (by kernel_rfl) (fun _ _ _ h => h) (Or.inl ⟨by rfl, ?_⟩) (by assumption) ?_
          rotate_left
          · intro w hSw; (try dsimp only at hSw); go_simp; (try with_reducible rfl)
          try simp only [Act.put, List.setIfInBounds_toArray, List.set_cons_zero, List.set_cons_succ]
          refine wpAnyH_take (i := 12) (oi := { dst := some 46, op := Go.Op.convert 5 3 (Go.Operand.tmp 45), type := 3, pos := "rockridge.go:238", after := #[{ on := 11, ground := Go.Ground.data }], guard := none }) (v := ?_) rfl (by kernel_rfl) (by kernel_rfl) (by kernel_rfl) (fun _ _ _ h => h) (Or.inl ⟨by rfl, ?_⟩) (by assumption) ?_
          rotate_left
          · intro w hSw; (try dsimp only at hSw); go_simp; (try with_reducible rfl)
          try simp only [Act.put, List.setIfInBounds_toArray, List.set_cons_zero, List.set_cons_succ]
          refine wpAnyH_take (i := 13) (oi := { dst := some 47, op := Go.Op.binOp Go.BinOp.add 3 (Go.Operand.tmp 41) (Go.Operand.tmp 46) 3, type := 3, pos := "rockridge.go:238", after := #[{ on := 7, ground := Go.Ground.data }, { on := 12, ground := Go.Ground.data }], guard := none }) (v := ?_) rfl (by kernel_rfl) (by kernel_rfl) (by kernel_rfl) (fun _ _ _ h => h) (Or.inl ⟨by rfl, ?_⟩) (by assumption) ?_
          rotate_left
          · intro w hSw; (try dsimp only at hSw); go_simp; (try with_reducible rfl)
          try simp only [Act.put, List.setIfInBounds_toArray, List.set_cons_zero, List.set_cons_succ]
          refine wpAnyH_take (i := 14) (oi := { dst := some 48, op := Go.Op.slice 9 (Go.Operand.tmp 37) (some (Go.Operand.tmp 39)) (some (Go.Operand.tmp 47)) none, type := 9, pos := "rockridge.go:238", after := #[{ on := 3, ground := Go.Ground.data }, { on := 5, ground := Go.Ground.data }, { on := 13, ground := Go.Ground.data }], guard := none }) (v := ?_) rfl (by kernel_rfl) (by kernel_rfl) (by kernel_rfl) (fun _ _ _ h => h) (Or.inl ⟨by rfl, ?_⟩) (by assumption) ?_
          rotate_left
          · intro w hSw; (try dsimp only at hSw); go_simp; (try with_reducible rfl)
          try simp only [Act.put, List.setIfInBounds_toArray, List.set_cons_zero, List.set_cons_succ]
          refine wpAnyH_take (i := 15) (oi := { dst := some 9, op := Go.Op.assign (Go.Operand.tmp 36), type := 5, pos := "rockridge.go:238", after := #[{ on := 2, ground := Go.Ground.data }, { on := 0, ground := Go.Ground.phase }, { on := 1, ground := Go.Ground.phase }, { on := 2, ground := Go.Ground.phase }, { on := 3, ground := Go.Ground.textOnly Go.Departure.lateStores }, { on := 4, ground := Go.Ground.textOnly Go.Departure.lateStores }, { on := 5, ground := Go.Ground.textOnly Go.Departure.lateStores }, { on := 6, ground := Go.Ground.textOnly Go.Departure.lateStores }, { on := 7, ground := Go.Ground.textOnly Go.Departure.lateStores }, { on := 8, ground := Go.Ground.textOnly Go.Departure.lateStores }, { on := 9, ground := Go.Ground.textOnly Go.Departure.lateStores }, { on := 10, ground := Go.Ground.textOnly Go.Departure.lateStores }, { on := 11, ground := Go.Ground.textOnly Go.Departure.lateStores }, { on := 12, ground := Go.Ground.textOnly Go.Departure.lateStores }, { on := 13, ground := Go.Ground.textOnly Go.Departure.lateStores }, { on := 14, ground := Go.Ground.textOnly Go.Departure.lateStoresUnsure }], guard := none }) (v := ?_) rfl (by kernel_rfl) (by kernel_rfl) (by kernel_rfl) (fun _ _ _ h => h) (Or.inl ⟨by rfl, ?_⟩) (by assumption) ?_
          rotate_left
          · intro w hSw; (try dsimp only at hSw); go_simp; (try with_reducible rfl)
          try simp only [Act.put, List.setIfInBounds_toArray, List.set_cons_zero, List.set_cons_succ]
          refine wpAnyH_take (i := 16) (oi := { dst := some 10, op := Go.Op.assign (Go.Operand.tmp 48), type := 9, pos := "rockridge.go:238", after := #[{ on := 14, ground := Go.Ground.data }, { on := 15, ground := Go.Ground.chain }, { on := 0, ground := Go.Ground.phase }, { on := 1, ground := Go.Ground.phase }, { on := 2, ground := Go.Ground.phase }, { on := 3, ground := Go.Ground.phase }, { on := 4, ground := Go.Ground.phase }, { on := 5, ground := Go.Ground.phase }, { on := 6, ground := Go.Ground.phase }, { on := 7, ground := Go.Ground.phase }, { on := 8, ground := Go.Ground.phase }, { on := 9, ground := Go.Ground.phase }, { on := 10, ground := Go.Ground.phase }, { on := 11, ground := Go.Ground.phase }, { on := 12, ground := Go.Ground.phase }, { on := 13, ground := Go.Ground.phase }, { on := 14, ground := Go.Ground.phase }, { on := 15, ground := Go.Ground.phase }], guard := none }) (v := ?_) rfl (by kernel_rfl) (by kernel_rfl) (by kernel_rfl) (fun _ _ _ h => h) (Or.inl ⟨by rfl, ?_⟩) (by assumption) ?_
          rotate_left
          · intro w hSw; (try dsimp only at hSw); go_simp; (try with_reducible rfl)
          try simp only [Act.put, List.setIfInBounds_toArray, List.set_cons_zero, List.set_cons_succ]
          refine wpAnyH_done (by kernel_rfl) ?_ _
          refine NoPanic.normal ?_
          all_goals
            clear ka kb kc kd ke kf kg kh
            have HOd := hide (HO.out.drew)
            obtain ⟨X, hX⟩ : ∃ X, X = s.extract (k + 2) (k + 2 + n) := ⟨_, rfl⟩
            rw [← hX]
            have hXc := cat_sub part s (k + 2) n
            have hXs : X.size = n := by rw [hX]; simp; omega
            rw [← hX] at hXc
            have HX := hide hXc
            clear hX hXc
            have hpl : (part ++ sub s (k + 2) n).length ≤ part.length + n := by rw [List.length_append]; omega
            rcases (show bt s k = 0 ∨ bt s k = 1 ∨ bt s k = 2 ∨ bt s k = 4 ∨ bt s k = 8 ∨ (bt s k ≠ 0 ∧ bt s k ≠ 1 ∧ bt s k ≠ 2 ∧ bt s k ≠ 4 ∧ bt s k ≠ 8) by omega) with hf | hf | hf | hf | hf | hf
            · have HG2 := hide (HG.out abs parts part on)
              rw [hf, if_pos rfl] at HG2
              go_wp2_with (at_builtin; refine wpList_append_one _ rfl _ _ 46 rfl w.heap.size 9 strInfo Tryz.underlying46 rfl (by decide) _ _ _ HOd.out #[.string (ByteArray.mk part.toArray ++ X)] rfl rfl rfl (by simp [Value.oneCell']) (by unfold maxLen; omega) (by omega) (by simp only [World.size_drew]; omega) ?_; intro v2 w2 hown2 hb2 hot2 hz2)
              rw [show (#[Value.string (ByteArray.mk part.toArray ++ X)] : Array Value).toList = [Value.string (ByteArray.mk part.toArray ++ X)] from rfl, HX.out, strs_snoc] at hown2
              go_roundw
              case rel => exact ⟨k + 2 + n, h3, by go_num, abs, parts ++ [part ++ sub s (k + 2) n], [], false, rfl, rfl, rfl, by simpa using hown2, by rw [HD.out, HG2.out], by rw [lens_snoc]; simp; omega, by simp; omega, (hbel.drew).trans hb2⟩
              case measure => simp [intOf]; omega
            · have HG2 := hide (HG.out abs parts part on)
              rw [hf, if_neg (by decide), if_pos rfl] at HG2
              go_wp2
              go_roundw
              case rel => exact ⟨k + 2 + n, h3, by go_num, abs, parts, part ++ sub s (k + 2) n, true, rfl, congrArg Value.string HX.out, rfl, HOd.out, by rw [HD.out, HG2.out], by omega, by omega, hbel.drew⟩
              case measure => simp [intOf]; omega
            · have HG2 := hide (HG.out abs parts part on)
              rw [hf, if_neg (by decide), if_neg (by decide), if_pos (by decide)] at HG2
              cases on with
              | true =>
                rw [if_pos (by simp)] at HG2
                go_wp2
                go_ret2
                exact ⟨by rw [HD.out, HG2.out]; rfl, hbel.drew⟩
              | false =>
                rw [if_neg (by simp), if_neg (by decide), if_pos rfl] at HG2
                go_wp2_with (at_builtin; refine wpList_append_one _ rfl _ _ 46 rfl w.heap.size 9 strInfo Tryz.underlying46 rfl (by decide) _ _ _ HOd.out #[.string (ByteArray.mk part.toArray ++ ByteArray.mk #[46])] rfl rfl rfl (by simp [Value.oneCell']) (by unfold maxLen; omega) (by omega) (by simp only [World.size_drew]; omega) ?_; intro v2 w2 hown2 hb2 hot2 hz2)
                rw [show (#[Value.string (ByteArray.mk part.toArray ++ ByteArray.mk #[46])] : Array Value).toList = [Value.string (ByteArray.mk part.toArray ++ ByteArray.mk #[46])] from rfl, cat_arr part [46], strs_snoc] at hown2
                go_roundw
                case rel => exact ⟨k + 2 + n, h3, by go_num, abs, parts ++ [part ++ [46]], [], false, rfl, rfl, rfl, by simpa using hown2, by rw [HD.out, HG2.out], by rw [lens_snoc]; simp; omega, by simp; omega, (hbel.drew).trans hb2⟩
                case measure => simp [intOf]; omega
            · have HG2 := hide (HG.out abs parts part on)
              rw [hf, if_neg (by decide), if_neg (by decide), if_pos (by decide)] at HG2
              cases on with
              | true =>
                rw [if_pos (by simp)] at HG2
                go_wp2
                go_ret2
                exact ⟨by rw [HD.out, HG2.out]; rfl, hbel.drew⟩
              | false =>
                rw [if_neg (by simp), if_neg (by decide), if_neg (by decide)] at HG2
                go_wp2_with (at_builtin; refine wpList_append_one _ rfl _ _ 46 rfl w.heap.size 9 strInfo Tryz.underlying46 rfl (by decide) _ _ _ HOd.out #[.string (ByteArray.mk part.toArray ++ ByteArray.mk #[46, 46])] rfl rfl rfl (by simp [Value.oneCell']) (by unfold maxLen; omega) (by omega) (by simp only [World.size_drew]; omega) ?_; intro v2 w2 hown2 hb2 hot2 hz2)
                rw [show (#[Value.string (ByteArray.mk part.toArray ++ ByteArray.mk #[46, 46])] : Array Value).toList = [Value.string (ByteArray.mk part.toArray ++ ByteArray.mk #[46, 46])] from rfl, cat_arr part [46, 46], strs_snoc] at hown2
                go_roundw
                case rel => exact ⟨k + 2 + n, h3, by go_num, abs, parts ++ [part ++ [46, 46]], [], false, rfl, rfl, rfl, by simpa using hown2, by rw [HD.out, HG2.out], by rw [lens_snoc]; simp; omega, by simp; omega, (hbel.drew).trans hb2⟩
                case measure => simp [intOf]; omega
            · have HG2 := hide (HG.out abs parts part on)
              rw [hf, if_neg (by decide), if_neg (by decide), if_pos (by decide)] at HG2
              cases on with
              | true =>
                rw [if_pos (by simp)] at HG2
                go_wp2
                go_ret2
                exact ⟨by rw [HD.out, HG2.out]; rfl, hbel.drew⟩
              | false =>
                by_cases hk0 : 0 < k
                · rw [if_pos (by simp [hk0])] at HG2
                  go_wp2
                  go_ret2
                  exact ⟨by rw [HD.out, HG2.out]; rfl, hbel.drew⟩
                · rw [if_neg (by simp [hk0]), if_pos rfl] at HG2
                  go_wp2
                  go_roundw
                  case rel => exact ⟨k + 2 + n, h3, by go_num, true, parts, part, false, rfl, rfl, rfl, HOd.out, by rw [HD.out, HG2.out], by omega, by omega, hbel.drew⟩
                  case measure => simp [intOf]; omega
            · have HG2 := hide (HG.out abs parts part on)
              rw [if_neg hf.1, if_neg hf.2.1, if_neg (by simp [hf.2.2])] at HG2
              have b0 : (bt s k == 0) = false := by rw [beq_eq_false_iff_ne]; exact hf.1
              have b1 : (bt s k == 1) = false := by rw [beq_eq_false_iff_ne]; exact hf.2.1
              have b2 : (bt s k == 2) = false := by rw [beq_eq_false_iff_ne]; exact hf.2.2.1
              have b4 : (bt s k == 4) = false := by rw [beq_eq_false_iff_ne]; exact hf.2.2.2.1
              have b8 : (bt s k == 8) = false := by rw [beq_eq_false_iff_ne]; exact hf.2.2.2.2
              clear hf
              go_wp2
              go_ret2
              exact ⟨by rw [HD.out, HG2.out]; rfl, hbel.drew⟩
        · have HB := hide (decF_bad (abs := abs) (parts := parts) (part := part) (on := on) hlt (Or.inr (by omega)))
          go_wp2
          go_ret2
          exact ⟨by rw [HD.out, HB.out]; rfl, hbel⟩
      · have HB := hide (decF_bad (abs := abs) (parts := parts) (part := part) (on := on) hlt (Or.inl (by omega)))
        go_wp2
        go_ret2
        exact ⟨by rw [HD.out, HB.out]; rfl, hbel⟩
    · obtain rfl : k = s.size := by omega
      have HB := hide (decF_end (abs := abs) (parts := parts) (part := part) (on := on) (Nat.le_refl s.size))
      have hTr := hT.below hbel
      have HJ := hide (join_row _ parts w.heap.size wr HO.out (by omega) (by omega))
      have hjl := Go.Lib.Pa.join_len_le parts
      have hpx : (pfx abs).size ≤ 1 := by cases abs <;> decide
      go_wp2_with fail
      refine HJ.out.mono ?_
      rintro e w2 ⟨rfl, hb2⟩
      have hz2 := hb2.size
      have hTr2 := hTr.below hb2
      obtain ⟨J, hJ⟩ : ∃ J, J = Lib.join parts [47] := ⟨_, rfl⟩
      have HJJ := hide hJ
      rw [← hJ] at hjl ⊢
      clear hJ
      cases on with
      | true =>
        have HF := hide (show Ending.returned (.tuple #[.string ⟨#[]⟩, .int .i64 10]) = tgtR (decF s 0 false [] [] false) by rw [HD.out, HB.out]; simp [tgtR])
        go_wp2
        go_ret2
        exact ⟨HF.out, hbel.trans (hb2.mono hsz)⟩
      | false =>
        obtain ⟨Z, hZ⟩ : ∃ Z, Z = pfx abs ++ ⟨J.toArray⟩ := ⟨_, rfl⟩
        have hZs : Z.size ≤ 60000 := by rw [hZ, ByteArray.size_append]; show _ + J.toArray.size ≤ _; simp; omega
        have HZ := hide (show tgtS abs parts = Z by rw [hZ, HJJ.out]; rfl)
        have HZ0 := hide hZ
        clear hZ
        cases htg : targetB Z with
        | true =>
          have HF := hide (show Ending.returned (.tuple #[.string Z, .int .i64 0]) = tgtR (decF s 0 false [] [] false) by rw [HD.out, HB.out, tgtR_fin (by rw [HZ.out]; exact htg), HZ.out])
          have TG := hide (fun W hW => target_any Z hZs W hW)
          rw [htg] at TG
          clear htg
          go_wp2_with fail
          rw [← HZ0.out]
          refine (TG.out _ hTr2).mono ?_
          rintro e w3 ⟨rfl, hb3⟩
          go_wp2
          go_ret2
          exact ⟨HF.out, (hbel.trans (hb2.mono hsz)).trans (hb3.mono (by omega))⟩
        | false =>
          have HF := hide (show Ending.returned (.tuple #[.string ⟨#[]⟩, .int .i64 10]) = tgtR (decF s 0 false [] [] false) by rw [HD.out, HB.out]; simp [tgtR, HZ.out, htg])
          have TG := hide (fun W hW => target_any Z hZs W hW)
          rw [htg] at TG
          clear htg
          go_wp2_with fail
          rw [← HZ0.out]
          refine (TG.out _ hTr2).mono ?_
          rintro e w3 ⟨rfl, hb3⟩
          go_wp2
          go_ret2
          exact ⟨HF.out, (hbel.trans (hb2.mono hsz)).trans (hb3.mono (by omega))⟩
end Go.Proofs.YtopajpomhflgbaaGreatDoor
