/- Parse of package address at strings that are no text of an address. -/
import Derived.Test.YtihnkanmlbgidaaDoorI
namespace Go.Proofs.YtihnkanmlbgidaaDoor
set_option linter.unusedSimpArgs false
set_option linter.unusedVariables false
open Go.RowKit

theorem three {α : Type} {l : List α} (h : l.length = 3) : ∃ a b c, l = [a, b, c] := by
  match l, h with
  | [a, b, c], _ => exact ⟨a, b, c, rfl⟩
def PBad (w : World) (e : Ending) (w' : World) : Prop := e = .returned (.tuple #[.agg #[.int .i64 0, .int .i64 0, .int .i64 0], .int .i64 3]) ∧ Below w.heap.size w w'
theorem txt_ne {m s f : Int} {x : ByteArray} (h : x ≠ txtS m s f) : ((txtS m s f).toList == x.toList) = false := by
  rw [beq_eq_false_iff_ne]
  intro e
  apply h
  rw [ByteArray.toList_eq, ByteArray.toList_eq] at e
  obtain ⟨⟨l⟩⟩ := x
  show _ = ByteArray.mk _
  have : (txtS m s f).data.toList = l := e
  rw [← this]; rfl

set_option maxHeartbeats 2000000 in
theorem parse_a (x a b c : ByteArray) (hx : x.size ≤ 20) (hc : Lib.countB x colon = 2) (hl : Lib.splitB colon 0 2 x = [a, b, c]) (ha : a.size ≤ 20) (n0 : ∀ v, Lib.atoiAll a.data.toList ≠ .ok v) (w : World) (hT : TabP w) :
    Calls Tryd.prog 13 #[.string x] w (PBad w) := by
  have hs := hide (And.intro hc hl)
  have N0 := hide n0
  clear hc hl n0
  have hT0 := hT.alloc (.cells #[.int .i64 0, .int .i64 0, .int .i64 0] 23)
  have HL : Live w [] := trivial
  go_enter Tryd.func13, Tryd.ntmps13
  go_wp2_with fail
  refine (splitC x hx _ hT0).mono ?_
  rintro e w' ⟨rfl, rfl⟩
  rw [hs.out.1, hs.out.2]
  go_wp2_with fail
  refine wp_loop_rounds 4 ?_
  rw [rounds_succ]
  go_wp2_with fail
  (first | ((with_reducible refine (atoi_no a ha N0.out _ (hT.below (by (exact bl)))).mono ?_); rintro e w1 ⟨v, T, N, rfl, hb⟩; have hz := hb.size; (try simp only [SZ, Nat.reduceAdd] at hz); (first | obtain ⟨HL, hk⟩ := HL.callA hb hz | obtain ⟨HL, hk⟩ := HL.call0A hb hz); (try simp only [addN, Nat.add_zero] at HL hk); have hl := HL; simp only [Live] at hl; (try simp only [Kept] at hk)))
  go_wp2_with fail
  have c0 : w1.cell? ⟨w.heap.size, 0, none⟩ = some (.int .i64 0) := by go_simp
  have c1 : w1.cell? ⟨w.heap.size, 1, none⟩ = some (.int .i64 0) := by go_simp
  have c2 : w1.cell? ⟨w.heap.size, 2, none⟩ = some (.int .i64 0) := by go_simp
  clear hk
  ((try simp only [Exit.inBlock, Exit.then]); refine bodyPost_ret (by simp only [results, Tryd.results13]; go_simp; try rfl) rfl ?_)
  exact ⟨rfl, by (exact bl)⟩
set_option maxHeartbeats 2000000 in
theorem parse_b (x a b c : ByteArray) (v0 : Int) (hx : x.size ≤ 20) (hc : Lib.countB x colon = 2) (hl : Lib.splitB colon 0 2 x = [a, b, c]) (ha : a.size ≤ 20) (hb0 : b.size ≤ 20) (k0 : Lib.atoiAll a.data.toList = .ok v0) (n0 : ∀ v, Lib.atoiAll b.data.toList ≠ .ok v) (w : World) (hT : TabP w) :
    Calls Tryd.prog 13 #[.string x] w (PBad w) := by
  have hs := hide (And.intro hc hl)
  have N0 := hide n0
  have K0 := hide k0
  clear hc hl n0 k0
  have hT0 := hT.alloc (.cells #[.int .i64 0, .int .i64 0, .int .i64 0] 23)
  have HL : Live w [] := trivial
  go_enter Tryd.func13, Tryd.ntmps13
  go_wp2_with fail
  refine (splitC x hx _ hT0).mono ?_
  rintro e w' ⟨rfl, rfl⟩
  rw [hs.out.1, hs.out.2]
  go_wp2_with fail
  refine wp_loop_rounds 4 ?_
  rw [rounds_succ]
  go_wp2_with fail
  (first | ((with_reducible refine (atoi_ok a v0 ha K0.out _).mono ?_); rintro e w1 ⟨rfl, hb⟩; have hz := hb.size; (try simp only [SZ, Nat.reduceAdd] at hz); (first | obtain ⟨HL, hk⟩ := HL.callA hb hz | obtain ⟨HL, hk⟩ := HL.call0A hb hz); (try simp only [addN, Nat.add_zero] at HL hk); have hl := HL; simp only [Live] at hl; (try simp only [Kept] at hk)))
  go_wp2_with fail
  rw [rounds_succ]
  go_wp2_with fail
  (first | ((with_reducible refine (atoi_no b hb0 N0.out _ (hT.below (by (exact bl)))).mono ?_); rintro e w2 ⟨v, T, N, rfl, hb⟩; have hz := hb.size; (try simp only [SZ, Nat.reduceAdd] at hz); (first | obtain ⟨HL, hk⟩ := HL.callA hb hz | obtain ⟨HL, hk⟩ := HL.call0A hb hz); (try simp only [addN, Nat.add_zero] at HL hk); have hl := HL; simp only [Live] at hl; (try simp only [Kept] at hk)))
  go_wp2_with fail
  have c0 : w2.cell? ⟨w.heap.size, 0, none⟩ = some (.int .i64 0) := by go_simp
  have c1 : w2.cell? ⟨w.heap.size, 1, none⟩ = some (.int .i64 0) := by go_simp
  have c2 : w2.cell? ⟨w.heap.size, 2, none⟩ = some (.int .i64 0) := by go_simp
  clear hk
  ((try simp only [Exit.inBlock, Exit.then]); refine bodyPost_ret (by simp only [results, Tryd.results13]; go_simp; try rfl) rfl ?_)
  exact ⟨rfl, by (exact bl)⟩
set_option maxHeartbeats 2000000 in
theorem parse_c (x a b c : ByteArray) (v0 v1 : Int) (hx : x.size ≤ 20) (hc : Lib.countB x colon = 2) (hl : Lib.splitB colon 0 2 x = [a, b, c]) (ha : a.size ≤ 20) (hb0 : b.size ≤ 20) (hc0 : c.size ≤ 20) (k0 : Lib.atoiAll a.data.toList = .ok v0) (k1 : Lib.atoiAll b.data.toList = .ok v1) (n0 : ∀ v, Lib.atoiAll c.data.toList ≠ .ok v) (w : World) (hT : TabP w) :
    Calls Tryd.prog 13 #[.string x] w (PBad w) := by
  have hs := hide (And.intro hc hl)
  have N0 := hide n0
  have K0 := hide k0
  have K1 := hide k1
  clear hc hl n0 k0 k1
  have hT0 := hT.alloc (.cells #[.int .i64 0, .int .i64 0, .int .i64 0] 23)
  have HL : Live w [] := trivial
  go_enter Tryd.func13, Tryd.ntmps13
  go_wp2_with fail
  refine (splitC x hx _ hT0).mono ?_
  rintro e w' ⟨rfl, rfl⟩
  rw [hs.out.1, hs.out.2]
  go_wp2_with fail
  refine wp_loop_rounds 4 ?_
  rw [rounds_succ]
  go_wp2_with fail
  (first | ((with_reducible refine (atoi_ok a v0 ha K0.out _).mono ?_); rintro e w1 ⟨rfl, hb⟩; have hz := hb.size; (try simp only [SZ, Nat.reduceAdd] at hz); (first | obtain ⟨HL, hk⟩ := HL.callA hb hz | obtain ⟨HL, hk⟩ := HL.call0A hb hz); (try simp only [addN, Nat.add_zero] at HL hk); have hl := HL; simp only [Live] at hl; (try simp only [Kept] at hk)))
  go_wp2_with fail
  rw [rounds_succ]
  go_wp2_with fail
  (first | ((with_reducible refine (atoi_ok b v1 hb0 K1.out _).mono ?_); rintro e w2 ⟨rfl, hb⟩; have hz := hb.size; (try simp only [SZ, Nat.reduceAdd] at hz); (first | obtain ⟨HL, hk⟩ := HL.callA hb hz | obtain ⟨HL, hk⟩ := HL.call0A hb hz); (try simp only [addN, Nat.add_zero] at HL hk); have hl := HL; simp only [Live] at hl; (try simp only [Kept] at hk)))
  go_wp2_with fail
  rw [rounds_succ]
  go_wp2_with fail
  (first | ((with_reducible refine (atoi_no c hc0 N0.out _ (hT.below (by (exact bl)))).mono ?_); rintro e w3 ⟨v, T, N, rfl, hb⟩; have hz := hb.size; (try simp only [SZ, Nat.reduceAdd] at hz); (first | obtain ⟨HL, hk⟩ := HL.callA hb hz | obtain ⟨HL, hk⟩ := HL.call0A hb hz); (try simp only [addN, Nat.add_zero] at HL hk); have hl := HL; simp only [Live] at hl; (try simp only [Kept] at hk)))
  go_wp2_with fail
  have c0 : w3.cell? ⟨w.heap.size, 0, none⟩ = some (.int .i64 0) := by go_simp
  have c1 : w3.cell? ⟨w.heap.size, 1, none⟩ = some (.int .i64 0) := by go_simp
  have c2 : w3.cell? ⟨w.heap.size, 2, none⟩ = some (.int .i64 0) := by go_simp
  clear hk
  ((try simp only [Exit.inBlock, Exit.then]); refine bodyPost_ret (by simp only [results, Tryd.results13]; go_simp; try rfl) rfl ?_)
  exact ⟨rfl, by (exact bl)⟩
set_option maxHeartbeats 2000000 in
theorem parse_d (x a b c : ByteArray) (v0 v1 v2 : Int) (hx : x.size ≤ 20) (hc : Lib.countB x colon = 2) (hl : Lib.splitB colon 0 2 x = [a, b, c]) (ha : a.size ≤ 20) (hb0 : b.size ≤ 20) (hc0 : c.size ≤ 20) (k0 : Lib.atoiAll a.data.toList = .ok v0) (k1 : Lib.atoiAll b.data.toList = .ok v1) (k2 : Lib.atoiAll c.data.toList = .ok v2)
    (hn : validB v0 v1 v2 = true → x ≠ txtS v0 v1 v2) (w : World) (hT : TabP w) :
    Calls Tryd.prog 13 #[.string x] w (PBad w) := by
  have hs := hide (And.intro hc hl)
  have K0 := hide k0
  have K1 := hide k1
  have K2 := hide k2
  clear hc hl k0 k1 k2
  have hT0 := hT.alloc (.cells #[.int .i64 0, .int .i64 0, .int .i64 0] 23)
  cases hv : validB v0 v1 v2
  all_goals
    first
      | have hq := txt_ne (hn hv)
      | skip
    clear hn
    have HL : Live w [] := trivial
    go_enter Tryd.func13, Tryd.ntmps13
    go_wp2_with fail
    refine (splitC x hx _ hT0).mono ?_
    rintro e w' ⟨rfl, rfl⟩
    rw [hs.out.1, hs.out.2]
    go_wp2_with fail
    refine wp_loop_rounds 4 ?_
    rw [rounds_succ]
    go_wp2_with fail
    (first | ((with_reducible refine (atoi_ok a v0 ha K0.out _).mono ?_); rintro e w1 ⟨rfl, hb⟩; have hz := hb.size; (try simp only [SZ, Nat.reduceAdd] at hz); (first | obtain ⟨HL, hk⟩ := HL.callA hb hz | obtain ⟨HL, hk⟩ := HL.call0A hb hz); (try simp only [addN, Nat.add_zero] at HL hk); have hl := HL; simp only [Live] at hl; (try simp only [Kept] at hk)))
    go_wp2_with fail
    rw [rounds_succ]
    go_wp2_with fail
    (first | ((with_reducible refine (atoi_ok b v1 hb0 K1.out _).mono ?_); rintro e w2 ⟨rfl, hb⟩; have hz := hb.size; (try simp only [SZ, Nat.reduceAdd] at hz); (first | obtain ⟨HL, hk⟩ := HL.callA hb hz | obtain ⟨HL, hk⟩ := HL.call0A hb hz); (try simp only [addN, Nat.add_zero] at HL hk); have hl := HL; simp only [Live] at hl; (try simp only [Kept] at hk)))
    go_wp2_with fail
    rw [rounds_succ]
    go_wp2_with fail
    (first | ((with_reducible refine (atoi_ok c v2 hc0 K2.out _).mono ?_); rintro e w3 ⟨rfl, hb⟩; have hz := hb.size; (try simp only [SZ, Nat.reduceAdd] at hz); (first | obtain ⟨HL, hk⟩ := HL.callA hb hz | obtain ⟨HL, hk⟩ := HL.call0A hb hz); (try simp only [addN, Nat.add_zero] at HL hk); have hl := HL; simp only [Live] at hl; (try simp only [Kept] at hk)))
    go_wp2_with fail
    rw [rounds_succ]
    go_wp2_with fail
    (first | ((with_reducible refine (join_any _ _ _ _).mono ?_); rintro e w4 ⟨rfl, hb⟩; have hz := hb.size; (try simp only [SZ, Nat.reduceAdd] at hz); (first | obtain ⟨HL, hk⟩ := HL.callA hb hz | obtain ⟨HL, hk⟩ := HL.call0A hb hz); (try simp only [addN, Nat.add_zero] at HL hk); have hl := HL; simp only [Live] at hl; (try simp only [Kept] at hk)))
    go_wp2_with fail
    go_wp2_with fail
    (first | ((with_reducible refine (format_yes _ _ _ (by assumption) _).mono ?_); rintro e w5 ⟨rfl, hb⟩; have hz := hb.size; (try simp only [SZ, Nat.reduceAdd] at hz); (first | obtain ⟨HL, hk⟩ := HL.callA hb hz | obtain ⟨HL, hk⟩ := HL.call0A hb hz); (try simp only [addN, Nat.add_zero] at HL hk); have hl := HL; simp only [Live] at hl; (try simp only [Kept] at hk)) | ((with_reducible refine (format_no _ _ _ (by assumption) _).mono ?_); rintro e w5 ⟨rfl, hb⟩; have hz := hb.size; (try simp only [SZ, Nat.reduceAdd] at hz); (first | obtain ⟨HL, hk⟩ := HL.callA hb hz | obtain ⟨HL, hk⟩ := HL.call0A hb hz); (try simp only [addN, Nat.add_zero] at HL hk); have hl := HL; simp only [Live] at hl; (try simp only [Kept] at hk)))
    go_wp2_with fail
    have c0 : w5.cell? ⟨w.heap.size, 0, none⟩ = some (.int .i64 0) := by go_simp
    have c1 : w5.cell? ⟨w.heap.size, 1, none⟩ = some (.int .i64 0) := by go_simp
    have c2 : w5.cell? ⟨w.heap.size, 2, none⟩ = some (.int .i64 0) := by go_simp
    clear hk
    ((try simp only [Exit.inBlock, Exit.then]); refine bodyPost_ret (by simp only [results, Tryd.results13]; go_simp; try rfl) rfl ?_)
    exact ⟨rfl, by (exact bl)⟩
theorem parse_bad (x : ByteArray) (hx : x.size ≤ 20) (hn : ∀ m s f, validB m s f = true → x ≠ txtS m s f) (w : World) (hT : TabP w) :
    Calls Tryd.prog 13 #[.string x] w fun e w' => e = .returned (.tuple #[.agg #[.int .i64 0, .int .i64 0, .int .i64 0], .int .i64 3]) ∧ Below w.heap.size w w' := by
  by_cases hc : Lib.countB x colon = 2
  case neg => exact parse_few x hx hc w hT
  obtain ⟨a, b, c, hl⟩ := three (Lib.splitB_all colon (by decide) 0 2 x hc)
  have hp := fun p hm => piece_size colon 0 2 x p hm
  rw [hl] at hp
  have ha := hp a (by simp)
  have hb := hp b (by simp)
  have hd := hp c (by simp)
  cases e0 : Lib.atoiAll a.data.toList with
  | range => exact parse_a x a b c hx hc hl (by omega) (fun v h => by rw [e0] at h; cases h) w hT
  | ok v0 =>
    cases e1 : Lib.atoiAll b.data.toList with
    | range => exact parse_b x a b c v0 hx hc hl (by omega) (by omega) e0 (fun v h => by rw [e1] at h; cases h) w hT
    | ok v1 =>
      cases e2 : Lib.atoiAll c.data.toList with
      | range => exact parse_c x a b c v0 v1 hx hc hl (by omega) (by omega) (by omega) e0 e1 (fun v h => by rw [e2] at h; cases h) w hT
      | ok v2 => exact parse_d x a b c v0 v1 v2 hx hc hl (by omega) (by omega) (by omega) e0 e1 e2 (hn v0 v1 v2) w hT
      | _ => exact parse_c x a b c v0 v1 hx hc hl (by omega) (by omega) (by omega) e0 e1 (fun v h => by rw [e2] at h; cases h) w hT
    | _ => exact parse_b x a b c v0 hx hc hl (by omega) (by omega) e0 (fun v h => by rw [e1] at h; cases h) w hT
  | _ => exact parse_a x a b c hx hc hl (by omega) (fun v h => by rw [e0] at h; cases h) w hT
end Go.Proofs.YtihnkanmlbgidaaDoor
