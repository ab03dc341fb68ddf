/- Encode of package address and its reference. -/
import Derived.Test.YtihnkanmlbgidaaDoorB
import Derived.Test.YtihnkanmlbgidaaDoorShelf
namespace Go.Proofs.YtihnkanmlbgidaaDoor
set_option linter.unusedSimpArgs false
set_option linter.unusedVariables false
open Go.RowKit

theorem some_below {W w1 : World} {k : Nat} {o : Obj} (hb : Below W.heap.size W w1) (h : W.heap[k]? = some o) : w1.heap[k]? = some o := by
  have : k < W.heap.size := by
    rcases Nat.lt_or_ge k W.heap.size with h' | h'
    · exact h'
    · rw [Array.getElem?_eq_none h'] at h; cases h
  rw [hb.block k this, h]
theorem ownsRow_below {W w1 : World} {B : Nat} {e : TypeId} {size : Nat} {v : Value} {n : Nat} {xs : List Value} (h : W.ownsRow B e size v n xs) (hb : Below W.heap.size W w1) : w1.ownsRow B e size v n xs := by
  refine ⟨h.1, ?_⟩
  rcases h.2 with h2 | ⟨g, cap, cur, hv, hg, hh, r⟩
  · exact Or.inl h2
  · exact Or.inr ⟨g, cap, cur, hv, hg, some_below hb hh, r⟩
theorem builder_below {W w1 : World} {T e : TypeId} {B b : Nat} {bs : List Value} (h : Lib.IsBuilder T e B b bs W) (hb : Below W.heap.size W w1) : Lib.IsBuilder T e B b bs w1 := by
  rcases h with ⟨h1, v, h2, h3, h4⟩ | ⟨h1, v, h2, h3, h4⟩
  · exact Or.inl ⟨h1, v, some_below hb h2, ownsRow_below h3 hb, h4⟩
  · exact Or.inr ⟨h1, v, some_below hb h2, ownsRow_below h3 hb, h4⟩

def bcdS (n : Int) : ByteArray := ⟨#[UInt8.ofNat (n / 10 * 16 + n % 10).toNat]⟩
theorem bcdS_size (n : Int) : (bcdS n).size = 1 := rfl
set_option maxHeartbeats 400000 in
theorem encLit_any (n : Int) (h0 : 0 ≤ n) (h1 : n ≤ 99) (w : World) :
    Calls Tryd.prog 20 #[.int .i64 n] w fun e w' => e = .returned (.string (bcdS n)) ∧ Below w.heap.size w w' := by
  have cv := fun (W : World) (x : Int) => conv_lit (P := Tryd.prog) 44 9 5 Tryd.underlying44 Tryd.underlying5 Tryd.underlying9 W 5 [x] #[.int .u8 x] rfl 1 1 rfl
  have HL : Live w [] := trivial
  go_enter Tryd.func20, Tryd.ntmps20
  go_wp2_with (first | (go_at_call 21; (with_reducible refine (bcd_any _ (by omega) (by omega) _).mono ?_); rintro e w' ⟨rfl, rfl⟩))
  go_ret
  exact ⟨rfl, by (exact bl)⟩

theorem strs3 (a b c : ByteArray) : Lib.strCells a ++ Lib.strCells b ++ Lib.strCells c = Lib.byteCells (a.data.toList ++ b.data.toList ++ c.data.toList) := by
  simp only [Lib.strCells_eq, Lib.byteCells_append]
theorem strs_len (a : ByteArray) : (Lib.strCells a).length = a.size := Lib.strCells_length a

set_option maxHeartbeats 1000000 in
theorem write_enc (m s f : Int) (h0 : 0 ≤ m ∧ m ≤ 99) (h1 : 0 ≤ s ∧ s ≤ 99) (h2 : 0 ≤ f ∧ f ≤ 99) (w : World) :
    Calls Tryd.prog 19 #[.agg #[.int .i64 m, .int .i64 s, .int .i64 f], .func (.func 20) #[] #[]] w fun e w' => e = .returned (.string ⟨((bcdS m).data.toList ++ (bcdS s).data.toList ++ (bcdS f).data.toList).toArray⟩) ∧ Below w.heap.size w w' := by
  have i0 : ∀ w, (Instr.index 51 (.agg #[.int .i64 m, .int .i64 s, .int .i64 f]) (.int .i64 0)).run Tryd.prog w = .ok (.int .i64 m) w := fun _ => by kernel_rfl
  have i1 : ∀ w, (Instr.index 51 (.agg #[.int .i64 m, .int .i64 s, .int .i64 f]) (.int .i64 1)).run Tryd.prog w = .ok (.int .i64 s) w := fun _ => by kernel_rfl
  have i2 : ∀ w, (Instr.index 51 (.agg #[.int .i64 m, .int .i64 s, .int .i64 f]) (.int .i64 2)).run Tryd.prog w = .ok (.int .i64 f) w := fun _ => by kernel_rfl
  have HL : Live w [] := trivial
  go_enter Tryd.func19, Tryd.ntmps19
  have HB := Lib.fresh_isBuilder 63 5 (w.alloc (.cells #[.int .i64 m, .int .i64 s, .int .i64 f] 23))
  simp only [World.size_alloc] at HB
  go_wp2_with ((first | (go_at_call 32; (with_reducible refine (split_any _ _ _ _).mono ?_); rintro e w' ⟨rfl, hb⟩; have hz := hb.size; (try simp only [SZ, Nat.reduceAdd] at hz); (first | obtain ⟨HL, hk⟩ := HL.callA hb hz | obtain ⟨HL, hk⟩ := HL.call0A hb hz); (try simp only [addN, Nat.add_zero] at HL hk); have hl := HL; simp only [Live] at hl; (try simp only [Kept] at hk))); have HB := builder_below HB hb)
  refine wp_loop_rounds 4 ?_
  repeat any_goals (rw [rounds_succ]; go_wp2_with (first | ((go_at_call 20; (with_reducible refine (encLit_any _ (by omega) (by omega) _).mono ?_); rintro e w' ⟨rfl, hb⟩; have hz := hb.size; (try simp only [SZ, Nat.reduceAdd] at hz); (first | obtain ⟨HL, hk⟩ := HL.callA hb hz | obtain ⟨HL, hk⟩ := HL.call0A hb hz); (try simp only [addN, Nat.add_zero] at HL hk); have hl := HL; simp only [Live] at hl; (try simp only [Kept] at hk)); have HB := builder_below HB hb) | (go_at_call 34; (with_reducible refine (Tryd.Builder_WriteString _ _ _ _ _ HB (by simp [Lib.strCells_length, bcdS_size]) (by omega)).mono ?_); rintro e w' ⟨rfl, hB, hb⟩; have HB : Lib.IsBuilder _ _ _ _ _ _ := Or.inr hB; have hz := hb.size; have HL := Live.lift hz HL)))
  simp only [List.nil_append, strs3] at HB
  go_wp2_with (go_at_call 35; (with_reducible refine (Tryd.Builder_String_any _ _ _ _ HB (by omega)).mono ?_); rintro e w' ⟨rfl, hb⟩; have hz := hb.size)
  go_ret
  exact ⟨rfl, by (exact bl)⟩

set_option maxHeartbeats 400000 in
theorem encode_no (m s f : Int) (hv : validB m s f = false) (w : World) :
    Calls Tryd.prog 9 #[.agg #[.int .i64 m, .int .i64 s, .int .i64 f]] w fun e w' => e = .returned (.tuple #[.string ⟨#[]⟩, .int .i64 1]) ∧ Below w.heap.size w w' := by
  have HL : Live w [] := trivial
  go_enter Tryd.func9, Tryd.ntmps9
  go_wp2_with (first | (go_at_call 17; (with_reducible refine (valid_any _ _ _ _).mono ?_); rintro e w' ⟨rfl, hb⟩; have hz := hb.size; (try simp only [SZ, Nat.reduceAdd] at hz); (first | obtain ⟨HL, hk⟩ := HL.callA hb hz | obtain ⟨HL, hk⟩ := HL.call0A hb hz); (try simp only [addN, Nat.add_zero] at HL hk); have hl := HL; simp only [Live] at hl; (try simp only [Kept] at hk)))
  go_ret2
  exact ⟨rfl, by (exact bl)⟩
set_option maxHeartbeats 400000 in
theorem encode_yes (m s f : Int) (hv : validB m s f = true) (w : World) :
    Calls Tryd.prog 9 #[.agg #[.int .i64 m, .int .i64 s, .int .i64 f]] w fun e w' => e = .returned (.tuple #[.string ⟨#[UInt8.ofNat (m / 10 * 16 + m % 10).toNat, UInt8.ofNat (s / 10 * 16 + s % 10).toNat, UInt8.ofNat (f / 10 * 16 + f % 10).toNat]⟩, .int .i64 0]) ∧ Below w.heap.size w w' := by
  have hr := validB_true.1 hv
  have HL : Live w [] := trivial
  go_enter Tryd.func9, Tryd.ntmps9
  go_wp2_with (first | (go_at_call 17; (with_reducible refine (valid_any _ _ _ _).mono ?_); rintro e w' ⟨rfl, hb⟩; have hz := hb.size; (try simp only [SZ, Nat.reduceAdd] at hz); (first | obtain ⟨HL, hk⟩ := HL.callA hb hz | obtain ⟨HL, hk⟩ := HL.call0A hb hz); (try simp only [addN, Nat.add_zero] at HL hk); have hl := HL; simp only [Live] at hl; (try simp only [Kept] at hk)) | (go_at_call 19; (with_reducible refine (write_enc _ _ _ (by omega) (by omega) (by omega) _).mono ?_); rintro e w' ⟨rfl, hb⟩; have hz := hb.size; (try simp only [SZ, Nat.reduceAdd] at hz); (first | obtain ⟨HL, hk⟩ := HL.callA hb hz | obtain ⟨HL, hk⟩ := HL.call0A hb hz); (try simp only [addN, Nat.add_zero] at HL hk); have hl := HL; simp only [Live] at hl; (try simp only [Kept] at hk)))
  go_ret2
  exact ⟨rfl, by (exact bl)⟩
end Go.Proofs.YtihnkanmlbgidaaDoor
