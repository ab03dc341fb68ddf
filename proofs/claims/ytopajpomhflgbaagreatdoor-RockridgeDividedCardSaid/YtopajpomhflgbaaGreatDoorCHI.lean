/- Contracts of the reference's Bytes, Reverse, Little and Both at four bytes. -/
import Derived.Test.YtopajpomhflgbaaGreatDoorCEFG
namespace Go.Proofs.YtopajpomhflgbaaGreatDoor
set_option linter.unusedSimpArgs false
set_option linter.unusedVariables false
open Go.RowKit

theorem u8Info : (Tryz.prog.info? 5).map (fun i => (i.zero, i.size, i.bytes)) = some (some (.int .u8 0), 1, 1) := by kernel_rfl
set_option maxRecDepth 100000 in
set_option maxHeartbeats 4000000 in
theorem rbytes_any (n : Int) (h : 0 ≤ n ∧ n ≤ 4294967295) (w : World) : Calls Tryz.prog 121 #[.int .i64 n, .int .i64 4] w fun e w' => e = .returned (.string ⟨#[u8 (n % 256), u8 (n / 256 % 256), u8 (n / 256 / 256 % 256), u8 (n / 256 / 256 / 256 % 256)]⟩) ∧ Below w.heap.size w w' := by
  have hm := World.ownsRow_made w #[] 0 (base := w.heap.size) (e := 5) (size := 1) (Nat.le_refl _) (by unfold maxLen; omega) rfl
  obtain ⟨i0, hi, hz0, hz1, hz2⟩ := info_parts u8Info
  have b0 : Below w.heap.size w (w.alloc (.cells #[] 5)) := Below.alloc (Below.refl _ _) (Nat.le_refl _) _
  have H0 := hide (And.intro hm b0)
  clear hm b0
  have HL : Live w [] := trivial
  go_enter Tryz.func121, Tryz.ntmps121
  go_wp2
  generalize hw0 : w.alloc (.cells #[] 5) = w0 at *
  clear hw0
  refine wp_loop_rounds 5 ?_
  rw [rounds_succ]
  go_wp2_with (at_builtin; refine wpList_append_own _ rfl _ _ 62 rfl w.heap.size 5 i0 (.int .u8 0) 1 1 Tryz.underlying62 hi hz0 hz1 hz2 rfl (by decide) _ 0 [] rfl (H0.out.1.alloc _) ⟨w0.heap.size, 0, none⟩ 1 1 [.int .u8 (n % 256)] rfl rfl (World.news_of_block (cs := #[.int .u8 (n % 256)]) (t := 5) (fr := (0, 0)) (heap_alloc_new w0 _)) (by simp [Value.oneCell']) (by unfold maxLen; omega) (by omega) (by show w.heap.size ≤ (World.alloc w0 _).heap.size; rw [World.size_alloc]; have := H0.out.2.size; omega) ?_; intro v1 w1 hown hgrow _; have H1 := hide (And.intro hown (H0.out.2.trans (((Below.refl w.heap.size w0).alloc (by have := H0.out.2.size; omega) _).grown hgrow (by show w.heap.size ≤ (World.alloc w0 _).heap.size; rw [World.size_alloc]; have := H0.out.2.size; omega) (fun q hq => (H0.out.1.lt q hq).1)))); clear hown hgrow)
  rw [rounds_succ]
  go_wp2_with (at_builtin; refine wpList_append_own _ rfl _ _ 62 rfl w.heap.size 5 i0 (.int .u8 0) 1 1 Tryz.underlying62 hi hz0 hz1 hz2 rfl (by decide) _ 1 [.int .u8 (n % 256)] rfl (H1.out.1.alloc _) ⟨w1.heap.size, 0, none⟩ 1 1 [.int .u8 (n / 256 % 256)] rfl rfl (World.news_of_block (cs := #[.int .u8 (n / 256 % 256)]) (t := 5) (fr := (0, 0)) (heap_alloc_new w1 _)) (by simp [Value.oneCell']) (by unfold maxLen; omega) (by omega) (by show w.heap.size ≤ (World.alloc w1 _).heap.size; rw [World.size_alloc]; have := H1.out.2.size; omega) ?_; intro v2 w2 hown hgrow _; have H2 := hide (And.intro hown (H1.out.2.trans (((Below.refl w.heap.size w1).alloc (by have := H1.out.2.size; omega) _).grown hgrow (by show w.heap.size ≤ (World.alloc w1 _).heap.size; rw [World.size_alloc]; have := H1.out.2.size; omega) (fun q hq => (H1.out.1.lt q hq).1)))); clear hown hgrow)
  rw [rounds_succ]
  go_wp2_with (at_builtin; refine wpList_append_own _ rfl _ _ 62 rfl w.heap.size 5 i0 (.int .u8 0) 1 1 Tryz.underlying62 hi hz0 hz1 hz2 rfl (by decide) _ 2 [.int .u8 (n % 256), .int .u8 (n / 256 % 256)] rfl (H2.out.1.alloc _) ⟨w2.heap.size, 0, none⟩ 1 1 [.int .u8 (n / 256 / 256 % 256)] rfl rfl (World.news_of_block (cs := #[.int .u8 (n / 256 / 256 % 256)]) (t := 5) (fr := (0, 0)) (heap_alloc_new w2 _)) (by simp [Value.oneCell']) (by unfold maxLen; omega) (by omega) (by show w.heap.size ≤ (World.alloc w2 _).heap.size; rw [World.size_alloc]; have := H2.out.2.size; omega) ?_; intro v3 w3 hown hgrow _; have H3 := hide (And.intro hown (H2.out.2.trans (((Below.refl w.heap.size w2).alloc (by have := H2.out.2.size; omega) _).grown hgrow (by show w.heap.size ≤ (World.alloc w2 _).heap.size; rw [World.size_alloc]; have := H2.out.2.size; omega) (fun q hq => (H2.out.1.lt q hq).1)))); clear hown hgrow)
  rw [rounds_succ]
  go_wp2_with (at_builtin; refine wpList_append_own _ rfl _ _ 62 rfl w.heap.size 5 i0 (.int .u8 0) 1 1 Tryz.underlying62 hi hz0 hz1 hz2 rfl (by decide) _ 3 [.int .u8 (n % 256), .int .u8 (n / 256 % 256), .int .u8 (n / 256 / 256 % 256)] rfl (H3.out.1.alloc _) ⟨w3.heap.size, 0, none⟩ 1 1 [.int .u8 (n / 256 / 256 / 256 % 256)] rfl rfl (World.news_of_block (cs := #[.int .u8 (n / 256 / 256 / 256 % 256)]) (t := 5) (fr := (0, 0)) (heap_alloc_new w3 _)) (by simp [Value.oneCell']) (by unfold maxLen; omega) (by omega) (by show w.heap.size ≤ (World.alloc w3 _).heap.size; rw [World.size_alloc]; have := H3.out.2.size; omega) ?_; intro v4 w4 hown hgrow _; have H4 := hide (And.intro hown (H3.out.2.trans (((Below.refl w.heap.size w3).alloc (by have := H3.out.2.size; omega) _).grown hgrow (by show w.heap.size ≤ (World.alloc w3 _).heap.size; rw [World.size_alloc]; have := H3.out.2.size; omega) (fun q hq => (H3.out.1.lt q hq).1)))); clear hown hgrow)
  obtain ⟨g, cap, rfl⟩ := Go.Joins.ownsRow_form H4.out.1 (by omega)
  have cvx : (convert 62 9 (.slice (some ⟨g, 0, none⟩) 4 cap)).run Tryz.prog w4 = .ok (.string ⟨#[u8 (n % 256), u8 (n / 256 % 256), u8 (n / 256 / 256 % 256), u8 (n / 256 / 256 / 256 % 256)]⟩) w4 :=
    run_conv_bytes w4 62 9 5 Tryz.underlying62 Tryz.underlying5 Tryz.underlying9 ⟨g, 0, none⟩ cap [n % 256, n / 256 % 256, n / 256 / 256 % 256, n / 256 / 256 / 256 % 256] (H4.out.1.cells rfl)
  rw [rounds_succ]
  go_wp2_with fail
  go_ret
  exact ⟨rfl, H4.out.2⟩

open Go.PlainAid (bt get_bt bt_nonneg bt_le)
set_option maxRecDepth 100000 in
set_option maxHeartbeats 4000000 in
theorem rrev_any (s : ByteArray) (hs : s.size = 4) (w : World) : Calls Tryz.prog 98 #[.string s] w fun e w' => e = .returned (.string ⟨#[u8 (bt s 3), u8 (bt s 2), u8 (bt s 1), u8 (bt s 0)]⟩) ∧ Below w.heap.size w w' := by
  have hg := get_bt s
  have hm := World.ownsRow_made w #[] 0 (base := w.heap.size) (e := 5) (size := 1) (Nat.le_refl _) (by unfold maxLen; omega) rfl
  obtain ⟨i0, hi, hz0, hz1, hz2⟩ := info_parts u8Info
  have b0 : Below w.heap.size w (w.alloc (.cells #[] 5)) := Below.alloc (Below.refl _ _) (Nat.le_refl _) _
  have H0 := hide (And.intro hm b0)
  clear hm b0
  have HL : Live w [] := trivial
  go_enter Tryz.func98, Tryz.ntmps98
  go_wp2
  generalize hw0 : w.alloc (.cells #[] 5) = w0 at *
  clear hw0
  refine wp_loop_rounds 5 ?_
  rw [rounds_succ]
  go_wp2_with (at_builtin; refine wpList_append_own _ rfl _ _ 62 rfl w.heap.size 5 i0 (.int .u8 0) 1 1 Tryz.underlying62 hi hz0 hz1 hz2 rfl (by decide) _ 0 [] rfl (H0.out.1.alloc _) ⟨w0.heap.size, 0, none⟩ 1 1 [.int .u8 (bt s 3)] rfl rfl (World.news_of_block (cs := #[.int .u8 (bt s 3)]) (t := 5) (fr := (0, 0)) (heap_alloc_new w0 _)) (by simp [Value.oneCell']) (by unfold maxLen; omega) (by omega) (by show w.heap.size ≤ (World.alloc w0 _).heap.size; rw [World.size_alloc]; have := H0.out.2.size; omega) ?_; intro v1 w1 hown hgrow _; have H1 := hide (And.intro hown (H0.out.2.trans (((Below.refl w.heap.size w0).alloc (by have := H0.out.2.size; omega) _).grown hgrow (by show w.heap.size ≤ (World.alloc w0 _).heap.size; rw [World.size_alloc]; have := H0.out.2.size; omega) (fun q hq => (H0.out.1.lt q hq).1)))); clear hown hgrow)
  rw [rounds_succ]
  go_wp2_with (at_builtin; refine wpList_append_own _ rfl _ _ 62 rfl w.heap.size 5 i0 (.int .u8 0) 1 1 Tryz.underlying62 hi hz0 hz1 hz2 rfl (by decide) _ 1 [.int .u8 (bt s 3)] rfl (H1.out.1.alloc _) ⟨w1.heap.size, 0, none⟩ 1 1 [.int .u8 (bt s 2)] rfl rfl (World.news_of_block (cs := #[.int .u8 (bt s 2)]) (t := 5) (fr := (0, 0)) (heap_alloc_new w1 _)) (by simp [Value.oneCell']) (by unfold maxLen; omega) (by omega) (by show w.heap.size ≤ (World.alloc w1 _).heap.size; rw [World.size_alloc]; have := H1.out.2.size; omega) ?_; intro v2 w2 hown hgrow _; have H2 := hide (And.intro hown (H1.out.2.trans (((Below.refl w.heap.size w1).alloc (by have := H1.out.2.size; omega) _).grown hgrow (by show w.heap.size ≤ (World.alloc w1 _).heap.size; rw [World.size_alloc]; have := H1.out.2.size; omega) (fun q hq => (H1.out.1.lt q hq).1)))); clear hown hgrow)
  rw [rounds_succ]
  go_wp2_with (at_builtin; refine wpList_append_own _ rfl _ _ 62 rfl w.heap.size 5 i0 (.int .u8 0) 1 1 Tryz.underlying62 hi hz0 hz1 hz2 rfl (by decide) _ 2 [.int .u8 (bt s 3), .int .u8 (bt s 2)] rfl (H2.out.1.alloc _) ⟨w2.heap.size, 0, none⟩ 1 1 [.int .u8 (bt s 1)] rfl rfl (World.news_of_block (cs := #[.int .u8 (bt s 1)]) (t := 5) (fr := (0, 0)) (heap_alloc_new w2 _)) (by simp [Value.oneCell']) (by unfold maxLen; omega) (by omega) (by show w.heap.size ≤ (World.alloc w2 _).heap.size; rw [World.size_alloc]; have := H2.out.2.size; omega) ?_; intro v3 w3 hown hgrow _; have H3 := hide (And.intro hown (H2.out.2.trans (((Below.refl w.heap.size w2).alloc (by have := H2.out.2.size; omega) _).grown hgrow (by show w.heap.size ≤ (World.alloc w2 _).heap.size; rw [World.size_alloc]; have := H2.out.2.size; omega) (fun q hq => (H2.out.1.lt q hq).1)))); clear hown hgrow)
  rw [rounds_succ]
  go_wp2_with (at_builtin; refine wpList_append_own _ rfl _ _ 62 rfl w.heap.size 5 i0 (.int .u8 0) 1 1 Tryz.underlying62 hi hz0 hz1 hz2 rfl (by decide) _ 3 [.int .u8 (bt s 3), .int .u8 (bt s 2), .int .u8 (bt s 1)] rfl (H3.out.1.alloc _) ⟨w3.heap.size, 0, none⟩ 1 1 [.int .u8 (bt s 0)] rfl rfl (World.news_of_block (cs := #[.int .u8 (bt s 0)]) (t := 5) (fr := (0, 0)) (heap_alloc_new w3 _)) (by simp [Value.oneCell']) (by unfold maxLen; omega) (by omega) (by show w.heap.size ≤ (World.alloc w3 _).heap.size; rw [World.size_alloc]; have := H3.out.2.size; omega) ?_; intro v4 w4 hown hgrow _; have H4 := hide (And.intro hown (H3.out.2.trans (((Below.refl w.heap.size w3).alloc (by have := H3.out.2.size; omega) _).grown hgrow (by show w.heap.size ≤ (World.alloc w3 _).heap.size; rw [World.size_alloc]; have := H3.out.2.size; omega) (fun q hq => (H3.out.1.lt q hq).1)))); clear hown hgrow)
  obtain ⟨g, cap, rfl⟩ := Go.Joins.ownsRow_form H4.out.1 (by omega)
  have cvx : (convert 62 9 (.slice (some ⟨g, 0, none⟩) 4 cap)).run Tryz.prog w4 = .ok (.string ⟨#[u8 (bt s 3), u8 (bt s 2), u8 (bt s 1), u8 (bt s 0)]⟩) w4 :=
    run_conv_bytes w4 62 9 5 Tryz.underlying62 Tryz.underlying5 Tryz.underlying9 ⟨g, 0, none⟩ cap [bt s 3, bt s 2, bt s 1, bt s 0] (H4.out.1.cells rfl)
  rw [rounds_succ]
  go_wp2_with fail
  go_ret
  exact ⟨rfl, H4.out.2⟩
end Go.Proofs.YtopajpomhflgbaaGreatDoor
/- Contracts of the reference's Little and Both at four bytes. -/
namespace Go.Proofs.YtopajpomhflgbaaGreatDoor
set_option linter.unusedSimpArgs false
set_option linter.unusedVariables false
open Go.RowKit
open Go.PlainAid (bt get_bt bt_nonneg bt_le)

set_option maxHeartbeats 1000000 in
theorem rfits4 (n : Int) (h : 0 ≤ n ∧ n ≤ 4294967295) (w : World) : Calls Tryz.prog 120 #[.int .i64 n, .int .i64 4] w fun e w' => e = .returned (.bool true) ∧ w = w' := by
  have hz : n / 256 / 256 / 256 / 256 = 0 := by omega
  have HL : Live w [] := trivial
  go_enter Tryz.func120, Tryz.ntmps120
  go_wp2
  refine wp_loop_rounds 5 ?_
  repeat any_goals (rw [rounds_succ]; go_wp2)
  go_ret
  exact ⟨rfl, rfl⟩
def litS (n : Int) : ByteArray := ⟨#[u8 (n % 256), u8 (n / 256 % 256), u8 (n / 256 / 256 % 256), u8 (n / 256 / 256 / 256 % 256)]⟩
set_option maxHeartbeats 1000000 in
theorem rlittle4 (n : Int) (h : 0 ≤ n ∧ n ≤ 4294967295) (w : World) : Calls Tryz.prog 97 #[.int .i64 n, .int .i64 4] w fun e w' => e = .returned (.tuple #[.string (litS n), .int .i64 0]) ∧ Below w.heap.size w w' := by
  have HL : Live w [] := trivial
  go_enter Tryz.func97, Tryz.ntmps97
  go_wp2_with (first | (go_at_call 120; (with_reducible refine (rfits4 _ (by omega) _).mono ?_); rintro e w' ⟨rfl, rfl⟩) | (go_at_call 121; (with_reducible refine (rbytes_any _ (by omega) _).mono ?_); rintro e w' ⟨rfl, hb⟩; have hz := hb.size; (try simp only [World.size_alloc, World.size_setCell, World.size_drew, Nat.add_assoc, Nat.reduceAdd] at hz); (first | obtain ⟨HL, hk⟩ := HL.call hb hz (by simp only [World.size_alloc, World.size_setCell, World.size_drew, Nat.add_assoc, Nat.reduceAdd]) | obtain ⟨HL, hk⟩ := HL.call0 hb hz (by first | rfl | simp only [World.size_alloc, World.size_setCell, World.size_drew, Nat.add_assoc, Nat.reduceAdd])); (try simp only [addN, Nat.add_zero] at HL hk); have hl := HL; simp only [Live] at hl; (try simp only [Kept] at hk)))
  go_ret2
  exact ⟨rfl, by (repeat' (first | (with_reducible exact Below.refl _ _) | (with_reducible refine Below.alloc ?_ ?_ _) | (with_reducible refine Below.setCell ?_ ?_ _) | (with_reducible refine Below.drew ?_) | (with_reducible refine below_drewN' ?_) | (with_reducible refine below_bytesW ?_ ?_) | (with_reducible refine Below.trans ?_ (Below.mono (by assumption) ?_)) | omega | (simp only [World.size_alloc, World.size_setCell, World.size_drew]; omega) | (simp [size_bytesW]; omega) | (simp; omega)))⟩
theorem bt_u8 (l : List UInt8) (i : Nat) (v : Int) (h : l[i]? = some (u8 v)) (hv : 0 ≤ v ∧ v ≤ 255) : bt ⟨l.toArray⟩ i = v := by
  obtain ⟨hi, hx⟩ := List.getElem?_eq_some_iff.1 h
  unfold bt
  rw [dif_pos (show i < (ByteArray.mk l.toArray).size from hi)]
  show (((l.toArray)[i]).toNat : Int) = _
  simp only [List.getElem_toArray, hx]
  unfold u8
  rw [UInt8.toNat_ofNat']; omega
def revS (n : Int) : ByteArray := ⟨#[u8 (n / 256 / 256 / 256 % 256), u8 (n / 256 / 256 % 256), u8 (n / 256 % 256), u8 (n % 256)]⟩
theorem rrev_lit (n : Int) (h : 0 ≤ n ∧ n ≤ 4294967295) (w : World) : Calls Tryz.prog 98 #[.string (litS n)] w fun e w' => e = .returned (.string (revS n)) ∧ Below w.heap.size w w' := by
  have h0 : bt (litS n) 0 = n % 256 := bt_u8 _ 0 _ rfl (by omega)
  have h1 : bt (litS n) 1 = n / 256 % 256 := bt_u8 _ 1 _ rfl (by omega)
  have h2 : bt (litS n) 2 = n / 256 / 256 % 256 := bt_u8 _ 2 _ rfl (by omega)
  have h3 : bt (litS n) 3 = n / 256 / 256 / 256 % 256 := bt_u8 _ 3 _ rfl (by omega)
  have := rrev_any (litS n) rfl w
  rw [h0, h1, h2, h3] at this
  exact this
theorem both_eq (n : Int) : litS n ++ revS n = bothS n := by
  have e1 : n / 256 / 256 = n / 65536 := by omega
  have e2 : n / 256 / 256 / 256 = n / 16777216 := by omega
  unfold litS revS bothS
  rw [e2, e1]
  rfl
theorem ret2_s {a b : ByteArray} {v : Value} (h : a = b) : Ending.returned (.tuple #[.string a, v]) = .returned (.tuple #[.string b, v]) := by rw [h]
set_option maxHeartbeats 1000000 in
theorem rboth_any (n : Int) (h : 0 ≤ n ∧ n ≤ 4294967295) (w : World) : Calls Tryz.prog 68 #[.int .i64 n, .int .i64 4] w fun e w' => e = .returned (.tuple #[.string (bothS n), .int .i64 0]) ∧ Below w.heap.size w w' := by
  have l1 : (litS n).size = 4 := rfl
  have l2 : (revS n).size = 4 := rfl
  have HL : Live w [] := trivial
  go_enter Tryz.func68, Tryz.ntmps68
  go_wp2_with (first | (go_at_call 97; (with_reducible refine (rlittle4 _ (by omega) _).mono ?_); rintro e w' ⟨rfl, hb⟩; have hz := hb.size; (try simp only [World.size_alloc, World.size_setCell, World.size_drew, Nat.add_assoc, Nat.reduceAdd] at hz); (first | obtain ⟨HL, hk⟩ := HL.call hb hz (by simp only [World.size_alloc, World.size_setCell, World.size_drew, Nat.add_assoc, Nat.reduceAdd]) | obtain ⟨HL, hk⟩ := HL.call0 hb hz (by first | rfl | simp only [World.size_alloc, World.size_setCell, World.size_drew, Nat.add_assoc, Nat.reduceAdd])); (try simp only [addN, Nat.add_zero] at HL hk); have hl := HL; simp only [Live] at hl; (try simp only [Kept] at hk)) | (go_at_call 98; (with_reducible refine (rrev_lit _ (by omega) _).mono ?_); rintro e w' ⟨rfl, hb⟩; have hz := hb.size; (try simp only [World.size_alloc, World.size_setCell, World.size_drew, Nat.add_assoc, Nat.reduceAdd] at hz); (first | obtain ⟨HL, hk⟩ := HL.call hb hz (by simp only [World.size_alloc, World.size_setCell, World.size_drew, Nat.add_assoc, Nat.reduceAdd]) | obtain ⟨HL, hk⟩ := HL.call0 hb hz (by first | rfl | simp only [World.size_alloc, World.size_setCell, World.size_drew, Nat.add_assoc, Nat.reduceAdd])); (try simp only [addN, Nat.add_zero] at HL hk); have hl := HL; simp only [Live] at hl; (try simp only [Kept] at hk)))
  go_ret2
  exact ⟨ret2_s (both_eq n), by (repeat' (first | (with_reducible exact Below.refl _ _) | (with_reducible refine Below.alloc ?_ ?_ _) | (with_reducible refine Below.setCell ?_ ?_ _) | (with_reducible refine Below.drew ?_) | (with_reducible refine below_drewN' ?_) | (with_reducible refine below_bytesW ?_ ?_) | (with_reducible refine Below.trans ?_ (Below.mono (by assumption) ?_)) | omega | (simp only [World.size_alloc, World.size_setCell, World.size_drew]; omega) | (simp [size_bytesW]; omega) | (simp; omega)))⟩
end Go.Proofs.YtopajpomhflgbaaGreatDoor
