/- Contract of the reference's Components. -/
import Derived.Test.YtopajpomhflgbaaGreatDoorCUV
namespace Go.Proofs.YtopajpomhflgbaaGreatDoor
set_option linter.unusedSimpArgs false
set_option linter.unusedVariables false
open Go.RowKit

theorem cat_arr (a b : List UInt8) : ByteArray.mk a.toArray ++ ByteArray.mk b.toArray = ⟨(a ++ b).toArray⟩ := by
  apply ByteArray.ext
  rw [ByteArray.data_append]
  simp
theorem arr_of (p : ByteArray) : p = ⟨p.data.toList.toArray⟩ := by
  apply ByteArray.ext
  simp
theorem conv_one {P : Program} (src dst e : TypeId) (hs : P.underlying src = some (.slice e)) (he : P.underlying e = some (.int .u8)) (hd : P.underlying dst = some .string) (W : World) (t : TypeId) (x : Int) :
    (convert src dst (.slice (some ⟨W.heap.size, 0, none⟩) 1 1)).run P (W.alloc (.cells #[.int .u8 x] t)).drew = .ok (.string ⟨#[UInt8.ofNat x.toNat]⟩) (W.alloc (.cells #[.int .u8 x] t)).drew :=
  conv_lit src dst e hs he hd W.drew t [x] #[.int .u8 x] rfl 1 1 rfl
theorem conv_one' {P : Program} (src dst e : TypeId) (hs : P.underlying src = some (.slice e)) (he : P.underlying e = some (.int .u8)) (hd : P.underlying dst = some .string) (W : World) (t : TypeId) (x : Int) :
    (convert src dst (.slice (some ⟨W.heap.size, 0, none⟩) 1 1)).run P (W.alloc (.cells #[.int .u8 x] t)) = .ok (.string ⟨#[UInt8.ofNat x.toNat]⟩) (W.alloc (.cells #[.int .u8 x] t)) :=
  conv_lit src dst e hs he hd W t [x] #[.int .u8 x] rfl 1 1 rfl
theorem cat_comp (L : List UInt8) (p : ByteArray) : ByteArray.mk L.toArray ++ ByteArray.mk #[0] ++ ByteArray.mk #[UInt8.ofNat ((p.size : Int)).toNat] ++ p = ⟨(L ++ comp 0 p.data.toList).toArray⟩ := by
  obtain ⟨⟨l⟩⟩ := p
  have e : UInt8.ofNat (((ByteArray.mk ⟨l⟩).size : Int)).toNat = UInt8.ofNat l.length := rfl
  rw [e]
  show _ = ByteArray.mk (L ++ ((0 : UInt8) :: UInt8.ofNat l.length :: l)).toArray
  generalize UInt8.ofNat l.length = x
  have h1 := cat_arr L [0]
  have h2 := cat_arr (L ++ [0]) [x]
  have h3 := cat_arr (L ++ [0] ++ [x]) l
  have h : ByteArray.mk L.toArray ++ ByteArray.mk #[0] ++ ByteArray.mk #[x] ++ ByteArray.mk ⟨l⟩ = ⟨(L ++ [0] ++ [x] ++ l).toArray⟩ := by
    rw [← h3, ← h2, ← h1]
  rw [h]
  congr 2
  simp
theorem part_ne {p : ByteArray} (h : partB p = true) : p ≠ ⟨#[]⟩ := by
  rintro rfl
  revert h
  decide +kernel
theorem words_nil : words ⟨#[]⟩ = [⟨#[]⟩] := by decide +kernel
theorem strip_ne {s : ByteArray} (h : targetB s = true) (hs : s ≠ slash) : strip s ≠ ⟨#[]⟩ := by
  intro e
  rw [target_all (target_len h) hs, e, words_nil] at h
  revert h
  decide +kernel
theorem abs_yes {s : ByteArray} (h : 1 ≤ s.size) (hc : s[0]'(by omega) = 47) : absB s = true := by
  unfold absB
  rw [data_one h, hc]; simp [Lib.hasPrefix]
theorem abs_no {s : ByteArray} (h : 1 ≤ s.size) (hc : s[0]'(by omega) ≠ 47) : absB s = false := by
  unfold absB
  rw [data_one h]
  have : ((47 : UInt8) == s[0]'(by omega)) = false := by rw [beq_eq_false_iff_ne]; exact fun e => hc e.symm
  simp [Lib.hasPrefix, List.isPrefixOf, this]
theorem compOf_name {p : ByteArray} (h0 : p ≠ ⟨#[]⟩) (h1 : p ≠ dot) (h2 : p ≠ dots) : compOf p = comp 0 p.data.toList := by simp [compOf, h0, h1, h2]
set_option maxHeartbeats 1000000 in
theorem rcomps_no (s : ByteArray) (hs : s.size ≤ 60000) (h : targetB s = false) (w : World) : Calls Tryz.prog 35 #[.string s] w fun e w' => e = .returned (.tuple #[.string ⟨#[]⟩, .int .i64 4]) ∧ Below w.heap.size w w' := by
  have RTG := hide (fun W => rtarget_any s hs W)
  rw [h] at RTG
  have HL : Live w [] := trivial
  go_enter Tryz.func35, Tryz.ntmps35
  go_wp2_with (first | (go_at_call 16; (with_reducible refine (RTG.out _).mono ?_); rintro e w' ⟨rfl, hb⟩; have hz := hb.size; (try simp only [World.size_alloc, World.size_setCell, World.size_drew, Nat.add_assoc, Nat.reduceAdd] at hz); (first | obtain ⟨HL, hk⟩ := HL.call hb hz (by simp only [World.size_alloc, World.size_setCell, World.size_drew, Nat.add_assoc, Nat.reduceAdd]) | obtain ⟨HL, hk⟩ := HL.call0 hb hz (by first | rfl | simp only [World.size_alloc, World.size_setCell, World.size_drew, Nat.add_assoc, Nat.reduceAdd])); (try simp only [addN, Nat.add_zero] at HL hk); have hl := HL; simp only [Live] at hl; (try simp only [Kept] at hk)))
  go_ret2
  exact ⟨rfl, by (repeat' (first | (with_reducible exact Below.refl _ _) | (with_reducible refine Below.alloc ?_ ?_ _) | (with_reducible refine Below.setCell ?_ ?_ _) | (with_reducible refine Below.drew ?_) | (with_reducible refine below_drewN' ?_) | (with_reducible refine below_bytesW ?_ ?_) | (with_reducible refine Below.trans ?_ (Below.mono (by assumption) ?_)) | omega | (simp only [World.size_alloc, World.size_setCell, World.size_drew]; omega) | (simp [size_bytesW]; omega) | (simp; omega)))⟩
set_option maxHeartbeats 1000000 in
theorem rcomps_slash (w : World) : Calls Tryz.prog 35 #[.string slash] w fun e w' => e = .returned (.tuple #[.string (compsB slash), .int .i64 0]) ∧ Below w.heap.size w w' := by
  have RTG := hide (fun W => rtarget_any slash (by decide) W)
  rw [show targetB slash = true by decide +kernel] at RTG
  have E : compsB slash = ⟨#[8, 0]⟩ := by decide +kernel
  rw [E]
  unfold slash at *
  have HL : Live w [] := trivial
  go_enter Tryz.func35, Tryz.ntmps35
  go_wp2_with (first | (go_at_call 16; (with_reducible refine (RTG.out _).mono ?_); rintro e w' ⟨rfl, hb⟩; have hz := hb.size; (try simp only [World.size_alloc, World.size_setCell, World.size_drew, Nat.add_assoc, Nat.reduceAdd] at hz); (first | obtain ⟨HL, hk⟩ := HL.call hb hz (by simp only [World.size_alloc, World.size_setCell, World.size_drew, Nat.add_assoc, Nat.reduceAdd]) | obtain ⟨HL, hk⟩ := HL.call0 hb hz (by first | rfl | simp only [World.size_alloc, World.size_setCell, World.size_drew, Nat.add_assoc, Nat.reduceAdd])); (try simp only [addN, Nat.add_zero] at HL hk); have hl := HL; simp only [Live] at hl; (try simp only [Kept] at hk)))
  go_ret2
  exact ⟨rfl, by (repeat' (first | (with_reducible exact Below.refl _ _) | (with_reducible refine Below.alloc ?_ ?_ _) | (with_reducible refine Below.setCell ?_ ?_ _) | (with_reducible refine Below.drew ?_) | (with_reducible refine below_drewN' ?_) | (with_reducible refine below_bytesW ?_ ?_) | (with_reducible refine Below.trans ?_ (Below.mono (by assumption) ?_)) | omega | (simp only [World.size_alloc, World.size_setCell, World.size_drew]; omega) | (simp [size_bytesW]; omega) | (simp; omega)))⟩
set_option maxHeartbeats 4000000 in
theorem rcomps_yes (s : ByteArray) (h : targetB s = true) (h3 : s ≠ slash) (w : World) : Calls Tryz.prog 35 #[.string s] w fun e w' => e = .returned (.tuple #[.string (compsB s), .int .i64 0]) ∧ Below w.heap.size w w' := by
  have hlen := target_len h
  have RTG := hide (fun W => rtarget_any s (by omega) W)
  rw [h] at RTG
  have hst := strip_size s
  have hne := strip_ne h h3
  have hall : (words (strip s)).all partB = true := by rw [← target_all hlen h3]; exact h
  have hps : ∀ p ∈ words (strip s), p.size ≤ 128 := fun p hp => by have := piece_size slash 0 _ _ p hp; omega
  have hwl := words_len (strip s)
  have hmx : (words (strip s)).length ≤ 129 := by rw [hwl]; have := Lib.countB_le slash (by decide) (strip s).size (strip s) (Nat.le_refl _); omega
  have hE : compsB s = ⟨(compsL (absB s) (words (strip s))).toArray⟩ := rfl
  have cv := fun (W : World) (x : Int) => conv_one (P := Tryz.prog) 62 9 5 Tryz.underlying62 Tryz.underlying5 Tryz.underlying9 W 5 x
  have cv' := fun (W : World) (x : Int) => conv_one' (P := Tryz.prog) 62 9 5 Tryz.underlying62 Tryz.underlying5 Tryz.underlying9 W 5 x
  have hlt0 : 0 < s.size := by omega
  obtain ⟨X, hX, hXs, hXe⟩ : ∃ X : ByteArray, X = strip s ∧ X.size ≤ 60000 ∧ (if s[0]'hlt0 = 47 then X = s.extract 1 s.size ∧ absB s = true else X = s ∧ absB s = false) := by
    by_cases hc : s[0]'hlt0 = 47
    · exact ⟨_, rfl, by omega, by rw [if_pos hc, strip_yes hlen.1 hc]; exact ⟨rfl, abs_yes hlen.1 hc⟩⟩
    · exact ⟨_, rfl, by omega, by rw [if_neg hc]; exact ⟨(strip_no hlen.1 hc).symm, abs_no hlen.1 hc⟩⟩
  have SP := hide (fun W => rsplit_words hX hXs W)
  rw [← hX] at hne
  have x0 : (X.toList == []) = false := eq_list hne
  have x1 : X.toList.isEmpty = false := by rw [List.isEmpty_eq_false_iff]; intro e; rw [e] at x0; simp at x0
  clear hX hwl h hne
  have HE := hide hE
  have HA := hide hall
  clear hE hall
  generalize words (strip s) = ws at *
  by_cases hc : s[0]'hlt0 = 47
  all_goals
    first
      | (have hcb : (((s[0]'hlt0).toNat : Int) == 47) = true := by rw [hc]; rfl
         rw [if_pos hc] at hXe)
      | (have hcb : (((s[0]'hlt0).toNat : Int) == 47) = false := by
          rw [beq_eq_false_iff_ne]; intro h; exact hc (UInt8.toNat_inj.1 (by simpa using (show ((s[0]'hlt0).toNat) = 47 by omega)))
         rw [if_neg hc] at hXe)
    obtain ⟨hXe, hab⟩ := hXe
    rw [hXe] at SP x0 x1
    obtain ⟨ab, hab2⟩ : ∃ ab, ab = absB s := ⟨_, rfl⟩
    rw [← hab2] at HE hab
    have HAB := hide hab
    clear hc hXe hab hab2
    have HL : Live w [] := trivial
    go_enter Tryz.func35, Tryz.ntmps35
    go_wp2_with fail
    refine (RTG.out _).mono ?_
    rintro e w1 ⟨rfl, hb1⟩
    have hz1 := hb1.size
    go_wp2_with fail
    refine (SP.out _).mono ?_
    rintro e w2 ⟨g, cap, rfl, hown, hb2⟩
    have hg := hown.lt g rfl
    have hz2 := hb2.size
    have hOwn := hide hown
    clear hown
    go_wp2_with fail
    go_loopw [4, 6] (fun a c wr => ∃ i : Nat, i ≤ ws.length ∧ c = .int .i64 i ∧ a = .string ⟨(compsL ab (ws.take i)).toArray⟩ ∧ Below w2.heap.size w2 wr) (fun _ c _ => ws.length - (intOf c).toNat)
    case atStart => exact ⟨0, by omega, rfl, by rw [HAB.out]; rfl, by (repeat' (first | (with_reducible exact Below.refl _ _) | (with_reducible refine Below.alloc ?_ ?_ _) | (with_reducible refine Below.setCell ?_ ?_ _) | (with_reducible refine Below.drew ?_) | (with_reducible refine below_drewN' ?_) | (with_reducible refine below_bytesW ?_ ?_) | (with_reducible refine Below.trans ?_ (Below.mono (by assumption) ?_)) | omega | (simp only [World.size_alloc, World.size_setCell, World.size_drew]; omega) | (simp [size_bytesW]; omega) | (simp; omega)))⟩
    case round =>
      obtain ⟨i, hi, rfl, rfl, hbel⟩ := hrel
      have hsz := hbel.size
      by_cases hlt : i < ws.length
      · obtain ⟨p, hp⟩ : ∃ p, ws[i]? = some p := ⟨_, List.getElem?_eq_getElem hlt⟩
        have hcell : wr.cell? ⟨g, i, none⟩ = some (.string p) := by
          rw [hbel.cell (p := ⟨g, i, none⟩) hg.2, hOwn.out.cellAt i (by omega)]; simp [hp]
        have hpm : p.size ≤ 128 := hps p (List.mem_of_getElem? hp)
        have d0 : p ≠ ⟨#[]⟩ := part_ne (List.all_eq_true.1 HA.out p (List.mem_of_getElem? hp))
        have hL := comps_len (ws.take i) ab (fun q hq => by have := hps q (List.mem_of_mem_take hq); omega)
        have h3 : (ws.take i).length ≤ i := List.length_take_le _ _
        have HT := comps_take ws ab i p hp
        generalize compsL ab (ws.take i) = L at *
        have HT := hide HT
        have hLL : L.length ≤ 100000 := by omega
        clear hp hps hL h3
        by_cases d1 : p = dot
        · subst d1
          unfold dot at hcell
          go_wp2
          go_roundw
          case rel => exact ⟨i + 1, by omega, by go_num, congrArg Value.string (by rw [HT.out]; exact cat_arr L [2, 0]), hbel⟩
          case measure => simp [intOf]; omega
        by_cases d2 : p = dots
        · subst d2
          unfold dots at hcell
          go_wp2
          go_roundw
          case rel => exact ⟨i + 1, by omega, by go_num, congrArg Value.string (by rw [HT.out]; exact cat_arr L [4, 0]), hbel⟩
          case measure => simp [intOf]; omega
        have g1 : (p.toList == [46]) = false := eq_list d1
        have g2 : (p.toList == [46, 46]) = false := eq_list d2
        have HC := hide (compOf_name d0 d1 d2)
        clear d0 d1 d2
        go_upto_region 14 with fail
        have hwp : IntKind.u8.wrap (p.size : Int) = p.size := IntWalk.u8_in _ (by omega)
        have hgl : g < wr.heap.size := by omega
        have n1 : ¬ 9223372036854775807 < L.length + 1 := by omega
        have n2 : ¬ 9223372036854775807 < L.length + 1 + 1 := by omega
        have n3 : ¬ 9223372036854775807 < L.length + 1 + 1 + p.size := by omega
        refine wp_region_noPanic ?_
        refine wp_region_held_drew (S := (fun x => x.cell? ⟨g, i, none⟩ = some (.string p))) (by kernel_rfl) (by (try dsimp only); first | assumption | (simp [*, go_sem]; done) | (refine ⟨?_, ?_⟩ <;> simp [*, go_sem])) (fun hHeld => ?_)
        refine wpAnyH_take (i := 0) (oi := { dst := some 30, op := Go.Op.move (Go.Operand.tmp 4), type := 9, pos := "ref.go:56", after := #[], guard := none }) (v := ?_) rfl (by kernel_rfl) (by kernel_rfl) (by kernel_rfl) (fun _ _ _ h => h) (Or.inl ⟨by rfl, ?_⟩) (by assumption) ?_
        rotate_left
        · intro w hSw; (try dsimp only at hSw); go_simp; (try with_reducible rfl)
        try simp only [Act.put, List.setIfInBounds_toArray, List.set_cons_zero, List.set_cons_succ]
        refine wpAnyH_take (i := 1) (oi := { dst := some 31, op := Go.Op.binOp Go.BinOp.add 9 (Go.Operand.tmp 30) (Go.Operand.const (Go.Value.string { data := #[0] })) 9, type := 9, pos := "ref.go:56", after := #[{ on := 0, ground := Go.Ground.data }], guard := none }) (v := ?_) rfl (by kernel_rfl) (by kernel_rfl) (by kernel_rfl) (fun _ _ _ h => h) (Or.inl ⟨by rfl, ?_⟩) (by assumption) ?_
        rotate_left
        · intro w hSw; (try dsimp only at hSw); go_simp; (try with_reducible rfl)
        try simp only [Act.put, List.setIfInBounds_toArray, List.set_cons_zero, List.set_cons_succ]
        refine wpAnyH_take (i := 2) (oi := { dst := some 32, op := Go.Op.move (Go.Operand.tmp 5), type := 46, pos := "ref.go:56", after := #[], guard := none }) (v := ?_) rfl (by kernel_rfl) (by kernel_rfl) (by kernel_rfl) (fun _ _ _ h => h) (Or.inl ⟨by rfl, ?_⟩) (by assumption) ?_
        rotate_left
        · intro w hSw; (try dsimp only at hSw); go_simp; (try with_reducible rfl)
        try simp only [Act.put, List.setIfInBounds_toArray, List.set_cons_zero, List.set_cons_succ]
        refine wpAnyH_take (i := 3) (oi := { dst := some 33, op := Go.Op.move (Go.Operand.tmp 6), type := 3, pos := "ref.go:56", after := #[], guard := none }) (v := ?_) rfl (by kernel_rfl) (by kernel_rfl) (by kernel_rfl) (fun _ _ _ h => h) (Or.inl ⟨by rfl, ?_⟩) (by assumption) ?_
        rotate_left
        · intro w hSw; (try dsimp only at hSw); go_simp; (try with_reducible rfl)
        try simp only [Act.put, List.setIfInBounds_toArray, List.set_cons_zero, List.set_cons_succ]
        refine wpAnyH_take (i := 4) (oi := { dst := some 34, op := Go.Op.indexAddr 46 (Go.Operand.tmp 32) (Go.Operand.tmp 33), type := 0, pos := "ref.go:56", after := #[{ on := 2, ground := Go.Ground.data }, { on := 3, ground := Go.Ground.data }], guard := none }) (v := ?_) rfl (by kernel_rfl) (by kernel_rfl) (by kernel_rfl) (fun _ _ _ h => h) (Or.inl ⟨by rfl, ?_⟩) (by assumption) ?_
        rotate_left
        · intro w hSw; (try dsimp only at hSw); go_simp; (try with_reducible rfl)
        try simp only [Act.put, List.setIfInBounds_toArray, List.set_cons_zero, List.set_cons_succ]
        refine wpAnyH_take (i := 5) (oi := { dst := some 35, op := Go.Op.load 9 (Go.Operand.tmp 34), type := 9, pos := "ref.go:56", after := #[{ on := 4, ground := Go.Ground.data }], guard := none }) (v := ?_) rfl (by kernel_rfl) (by kernel_rfl) (by kernel_rfl) (fun _ _ _ h => h) (Or.inl ⟨by rfl, ?_⟩) (by assumption) ?_
        rotate_left
        · intro w hSw; (try dsimp only at hSw); go_simp; (try with_reducible rfl)
        try simp only [Act.put, List.setIfInBounds_toArray, List.set_cons_zero, List.set_cons_succ]
        refine wpAnyH_take (i := 11) (oi := { dst := some 41, op := Go.Op.move (Go.Operand.tmp 5), type := 46, pos := "ref.go:56", after := #[], guard := none }) (v := ?_) rfl (by kernel_rfl) (by kernel_rfl) (by kernel_rfl) (fun _ _ _ h => h) (Or.inl ⟨by rfl, ?_⟩) (by assumption) ?_
        rotate_left
        · intro w hSw; (try dsimp only at hSw); go_simp; (try with_reducible rfl)
        try simp only [Act.put, List.setIfInBounds_toArray, List.set_cons_zero, List.set_cons_succ]
        refine wpAnyH_take (i := 12) (oi := { dst := some 42, op := Go.Op.move (Go.Operand.tmp 6), type := 3, pos := "ref.go:56", after := #[], guard := none }) (v := ?_) rfl (by kernel_rfl) (by kernel_rfl) (by kernel_rfl) (fun _ _ _ h => h) (Or.inl ⟨by rfl, ?_⟩) (by assumption) ?_
        rotate_left
        · intro w hSw; (try dsimp only at hSw); go_simp; (try with_reducible rfl)
        try simp only [Act.put, List.setIfInBounds_toArray, List.set_cons_zero, List.set_cons_succ]
        refine wpAnyH_take (i := 13) (oi := { dst := some 43, op := Go.Op.indexAddr 46 (Go.Operand.tmp 41) (Go.Operand.tmp 42), type := 0, pos := "ref.go:56", after := #[{ on := 11, ground := Go.Ground.data }, { on := 12, ground := Go.Ground.data }], guard := none }) (v := ?_) rfl (by kernel_rfl) (by kernel_rfl) (by kernel_rfl) (fun _ _ _ h => h) (Or.inl ⟨by rfl, ?_⟩) (by assumption) ?_
        rotate_left
        · intro w hSw; (try dsimp only at hSw); go_simp; (try with_reducible rfl)
        try simp only [Act.put, List.setIfInBounds_toArray, List.set_cons_zero, List.set_cons_succ]
        refine wpAnyH_take (i := 14) (oi := { dst := some 44, op := Go.Op.load 9 (Go.Operand.tmp 43), type := 9, pos := "ref.go:56", after := #[{ on := 13, ground := Go.Ground.data }], guard := none }) (v := ?_) rfl (by kernel_rfl) (by kernel_rfl) (by kernel_rfl) (fun _ _ _ h => h) (Or.inl ⟨by rfl, ?_⟩) (by assumption) ?_
        rotate_left
        · intro w hSw; (try dsimp only at hSw); go_simp; (try with_reducible rfl)
        try simp only [Act.put, List.setIfInBounds_toArray, List.set_cons_zero, List.set_cons_succ]
        refine wpAnyH_ready (rs := [6]) (by kernel_rfl) (by simp) ?_
        refine AllReadyH.cons (o := { dst := some 36, op := Go.Op.call { callee := Go.Callee.builtin Go.Builtin.len, args := #[Go.Operand.tmp 35], argTypes := #[9] }, type := 3, pos := "ref.go:56", after := #[{ on := 5, ground := Go.Ground.data }], guard := none }) rfl (fun K hK => ?_) AllReadyH.nil
        go_simp
        refine hK.out _ _ (by (try dsimp only); first | assumption | (simp [*, go_sem]; done) | (refine ⟨?_, ?_⟩ <;> simp [*, go_sem])) (fun hHeld => ?_)
        clear hK K
        try simp only [Act.put, List.setIfInBounds_toArray, List.set_cons_zero, List.set_cons_succ]
        refine wpAnyH_take (i := 7) (oi := { dst := some 37, op := Go.Op.convert 3 5 (Go.Operand.tmp 36), type := 5, pos := "ref.go:56", after := #[{ on := 6, ground := Go.Ground.data }], guard := none }) (v := ?_) rfl (by kernel_rfl) (by kernel_rfl) (by kernel_rfl) (fun _ _ _ h => h) (Or.inl ⟨by rfl, ?_⟩) (by assumption) ?_
        rotate_left
        · intro w hSw; (try dsimp only at hSw); go_simp; (try with_reducible rfl)
        try simp only [Act.put, List.setIfInBounds_toArray, List.set_cons_zero, List.set_cons_succ]
        refine wpAnyH_ready (rs := [8]) (by kernel_rfl) (by simp) ?_
        refine AllReadyH.cons (o := { dst := some 38, op := Go.Op.buildSlice 62 1 #[(0, Go.Operand.tmp 37)], type := 62, pos := "ref.go:56", after := #[{ on := 7, ground := Go.Ground.data }], guard := none }) rfl (fun K hK => ?_) AllReadyH.nil
        go_simp
        refine hK.out _ _ (by (try dsimp only); first | assumption | (simp [*, go_sem]; done) | (refine ⟨?_, ?_⟩ <;> simp [*, go_sem])) (fun hHeld => ?_)
        clear hK K
        try simp only [Act.put, List.setIfInBounds_toArray, List.set_cons_zero, List.set_cons_succ]
        refine wpAnyH_ready (rs := [9]) (by kernel_rfl) (by simp) ?_
        refine AllReadyH.cons (o := { dst := some 39, op := Go.Op.convert 62 9 (Go.Operand.tmp 38), type := 9, pos := "ref.go:56", after := #[{ on := 8, ground := Go.Ground.data }], guard := none }) rfl (fun K hK => ?_) AllReadyH.nil
        go_simp
        refine hK.out _ _ (by (try dsimp only); first | assumption | (simp [*, go_sem]; done) | (refine ⟨?_, ?_⟩ <;> simp [*, go_sem])) (fun hHeld => ?_)
        clear hK K
        try simp only [Act.put, List.setIfInBounds_toArray, List.set_cons_zero, List.set_cons_succ]
        refine wpAnyH_take (i := 10) (oi := { dst := some 40, op := Go.Op.binOp Go.BinOp.add 9 (Go.Operand.tmp 31) (Go.Operand.tmp 39) 9, type := 9, pos := "ref.go:56", after := #[{ on := 1, ground := Go.Ground.data }, { on := 9, ground := Go.Ground.data }], guard := none }) (v := ?_) rfl (by kernel_rfl) (by kernel_rfl) (by kernel_rfl) (fun _ _ _ h => h) (Or.inl ⟨by rfl, ?_⟩) (by assumption) ?_
        rotate_left
        · intro w hSw; (try dsimp only at hSw); go_simp; (try with_reducible rfl)
        try simp only [Act.put, List.setIfInBounds_toArray, List.set_cons_zero, List.set_cons_succ]
        refine wpAnyH_take (i := 15) (oi := { dst := some 45, op := Go.Op.binOp Go.BinOp.add 9 (Go.Operand.tmp 40) (Go.Operand.tmp 44) 9, type := 9, pos := "ref.go:56", after := #[{ on := 10, ground := Go.Ground.data }, { on := 14, ground := Go.Ground.data }], guard := none }) (v := ?_) rfl (by kernel_rfl) (by kernel_rfl) (by kernel_rfl) (fun _ _ _ h => h) (Or.inl ⟨by rfl, ?_⟩) (by assumption) ?_
        rotate_left
        · intro w hSw; (try dsimp only at hSw); go_simp; (try with_reducible rfl)
        try simp only [Act.put, List.setIfInBounds_toArray, List.set_cons_zero, List.set_cons_succ]
        refine wpAnyH_take (i := 16) (oi := { dst := some 4, op := Go.Op.assign (Go.Operand.tmp 45), type := 9, pos := "ref.go:56", after := #[{ on := 15, ground := Go.Ground.data }, { on := 0, ground := Go.Ground.phase }, { on := 1, ground := Go.Ground.phase }, { on := 2, ground := Go.Ground.phase }, { on := 3, ground := Go.Ground.phase }, { on := 4, ground := Go.Ground.phase }, { on := 5, ground := Go.Ground.phase }, { on := 6, ground := Go.Ground.phase }, { on := 7, ground := Go.Ground.phase }, { on := 8, ground := Go.Ground.phase }, { on := 9, ground := Go.Ground.phase }, { on := 10, ground := Go.Ground.phase }, { on := 11, ground := Go.Ground.phase }, { on := 12, ground := Go.Ground.phase }, { on := 13, ground := Go.Ground.phase }, { on := 14, ground := Go.Ground.phase }, { on := 15, ground := Go.Ground.phase }], guard := none }) (v := ?_) rfl (by kernel_rfl) (by kernel_rfl) (by kernel_rfl) (fun _ _ _ h => h) (Or.inl ⟨by rfl, ?_⟩) (by assumption) ?_
        rotate_left
        · intro w hSw; (try dsimp only at hSw); go_simp; (try with_reducible rfl)
        try simp only [Act.put, List.setIfInBounds_toArray, List.set_cons_zero, List.set_cons_succ]
        refine wpAnyH_done (by kernel_rfl) ?_ _
        refine NoPanic.normal ?_
        go_wp2
        go_roundw
        case rel => exact ⟨i + 1, by omega, by go_num, congrArg Value.string (by rw [HT.out, HC.out]; exact cat_comp L p), hbel.trans (((Below.refl wr.heap.size wr).alloc (Nat.le_refl _) _).drew.mono hsz)⟩
        case measure => simp [intOf]; omega
      · obtain rfl : i = ws.length := by omega
        go_wp2
        go_ret2
        exact ⟨ret2_s (by rw [HE.out]; try rw [List.take_length]), (hb1.trans (hb2.mono hz1)).trans (hbel.mono (by omega))⟩
/-- Components of the reference, at any short string. -/
def CompP (s : ByteArray) (w : World) (e : Ending) (w' : World) : Prop :=
  (e = if targetB s then .returned (.tuple #[.string (compsB s), .int .i64 0]) else .returned (.tuple #[.string ⟨#[]⟩, .int .i64 4])) ∧ Below w.heap.size w w'
theorem rcomps_any (s : ByteArray) (hs : s.size ≤ 60000) (w : World) : Calls Tryz.prog 35 #[.string s] w (CompP s w) := by
  unfold CompP
  cases h : targetB s
  · exact rcomps_no s hs h w
  · by_cases h3 : s = slash
    · subst h3; exact rcomps_slash w
    · exact rcomps_yes s h h3 w
theorem comps_any (s : ByteArray) (hs : s.size ≤ 60000) (w : World) (hT : TabV w) : Calls Tryz.prog 15 #[.string s] w (CompP s w) := by
  unfold CompP
  cases h : targetB s
  · exact comps_no s hs h w hT
  · exact comps_yes s h w hT
end Go.Proofs.YtopajpomhflgbaaGreatDoor
