/- Contracts of Parse of package address. -/
import Derived.Test.YtihnkanmlbgidaaDoorH
namespace Go.Proofs.YtihnkanmlbgidaaDoor
set_option linter.unusedSimpArgs false
set_option linter.unusedVariables false
open Go.RowKit

set_option maxHeartbeats 2000000 in
theorem parse_txt (m s f : Int) (hv : validB m s f = true) (w : World) (hT : TabP w) :
    Calls Tryd.prog 13 #[.string (txtS m s f)] w fun e w' => e = .returned (.tuple #[.agg #[.int .i64 m, .int .i64 s, .int .i64 f], .int .i64 0]) ∧ Below w.heap.size w w' := by
  have h := validB_true.1 hv
  have hs := hide (split_txt h)
  have hT0 := hT.alloc (.cells #[.int .i64 0, .int .i64 0, .int .i64 0] 23)
  have z0 : ((txtS 0 0 0).toList == [48, 48, 58, 48, 48, 58, 48, 48]) = true := by decide +kernel
  have HL : Live w [] := trivial
  go_enter Tryd.func13, Tryd.ntmps13
  go_wp2_with fail
  refine (splitC (txtS m s f) (by show 8 ≤ 20; omega) _ hT0).mono ?_
  rintro e w' ⟨rfl, rfl⟩
  rw [hs.out.1, hs.out.2]
  go_wp2_with fail
  refine wp_loop_rounds 4 ?_
  repeat any_goals (rw [rounds_succ]; go_wp2_with (first | (go_at_call 29; (with_reducible refine (atoi_dd _ (by omega) _).mono ?_); rintro e w' ⟨rfl, hb⟩; have hz := hb.size; (try simp only [SZ, Nat.reduceAdd] at hz); (first | obtain ⟨HL, hk⟩ := HL.callA hb hz | obtain ⟨HL, hk⟩ := HL.call0A hb hz); (try simp only [addN, Nat.add_zero] at HL hk); have hl := HL; simp only [Live] at hl; (try simp only [Kept] at hk)) | (go_at_call 30; (with_reducible refine (join_any _ _ _ _).mono ?_); rintro e w' ⟨rfl, hb⟩; have hz := hb.size; (try simp only [SZ, Nat.reduceAdd] at hz); (first | obtain ⟨HL, hk⟩ := HL.callA hb hz | obtain ⟨HL, hk⟩ := HL.call0A hb hz); (try simp only [addN, Nat.add_zero] at HL hk); have hl := HL; simp only [Live] at hl; (try simp only [Kept] at hk)) | (go_at_call 10; (with_reducible refine (format_yes _ _ _ (by assumption) _).mono ?_); rintro e w' ⟨rfl, hb⟩; have hz := hb.size; (try simp only [SZ, Nat.reduceAdd] at hz); (first | obtain ⟨HL, hk⟩ := HL.callA hb hz | obtain ⟨HL, hk⟩ := HL.call0A hb hz); (try simp only [addN, Nat.add_zero] at HL hk); have hl := HL; simp only [Live] at hl; (try simp only [Kept] at hk))))
  all_goals
    have c0 : w'.cell? ⟨w.heap.size, 0, none⟩ = some (.int .i64 0) := by go_simp
    have c1 : w'.cell? ⟨w.heap.size, 1, none⟩ = some (.int .i64 0) := by go_simp
    have c2 : w'.cell? ⟨w.heap.size, 2, none⟩ = some (.int .i64 0) := by go_simp
    clear hk
    ((try simp only [Exit.inBlock, Exit.then]); refine bodyPost_ret (by simp only [results, Tryd.results13]; go_simp; try rfl) rfl ?_)
    refine ⟨?_, by (exact bl)⟩
    first | rfl | (simp [*]; done)
set_option maxHeartbeats 2000000 in
theorem parse_few (x : ByteArray) (hx : x.size ≤ 20) (hc : Lib.countB x colon ≠ 2) (w : World) (hT : TabP w) :
    Calls Tryd.prog 13 #[.string x] w fun e w' => e = .returned (.tuple #[.agg #[.int .i64 0, .int .i64 0, .int .i64 0], .int .i64 3]) ∧ Below w.heap.size w w' := by
  have hT0 := hT.alloc (.cells #[.int .i64 0, .int .i64 0, .int .i64 0] 23)
  have hle := Lib.countB_le colon (by decide) x.size x (Nat.le_refl _)
  have HL : Live w [] := trivial
  go_enter Tryd.func13, Tryd.ntmps13
  go_wp2_with fail
  refine (splitC x hx _ hT0).mono ?_
  rintro e w' ⟨rfl, rfl⟩
  generalize Lib.splitB colon 0 (Lib.countB x colon) x = L
  generalize Lib.countB x colon = n at *
  have h3 : ((n : Int) + 1 == 3) = false := by simp; omega
  have h4 : ((n : Int) + 1 != 3) = true := by simp; omega
  go_wp2_with fail
  ((try simp only [Exit.inBlock, Exit.then]); refine bodyPost_ret (by simp only [results, Tryd.results13]; go_simp; try rfl) rfl ?_)
  exact ⟨rfl, by (exact bl)⟩
end Go.Proofs.YtihnkanmlbgidaaDoor
