/- Contracts and plain words for the laws of volume descriptors, part 8: E, N, F, F2, F3, F4, F5, Shelf, Shelf2, U. No condition. -/
import Derived.Lib.IndexLaws
import Derived.Lib.IndexAny
import Derived.Test.YtjbhokmkmapkoaaGreatDoorC7
import Derived.Test.YtjbhokmkmapkoaaGreatDoorC0
import Derived.Laws.OwnMore
import Derived.Deep.AppendLies
import Derived.OwnWalk
import Derived.Lib.SmallJoins
import Derived.Lib.BufferRead
import Derived.Lib.AppendStr
import Derived.Lib.BufferWrite
import Derived.Shelf.Strings.Repeat
import Derived.Shelf.Strings.Trim
import Derived.Lib.PathFns
import Derived.Shelf.Strings.Builder1
import Derived.Test.YtjbhokmkmapkoaaGreatDoorProg
import Derived.Shelf.Strings.BuilderRune
import Derived.Shelf.Strings.BuilderK
import Derived.Lib.FrozenHead2
namespace Go.Proofs.YtjbhokmkmapkoaaGreatDoor
set_option linter.unusedSimpArgs false
set_option linter.unusedVariables false
open Go.RowKit
open Go.PlainAid (bt get_bt bt_nonneg bt_le bt_end)
theorem all_snoc {f : UInt8 → Bool} {s : ByteArray} {k : Nat} (hk : k < s.size) (h : (s.data.toList.take k).all f = true) (hc : f (s[k]'hk) = true) : (s.data.toList.take (k + 1)).all f = true := by
  rw [List.take_succ_eq_append_getElem (by simpa using hk), List.all_append, h]
  have e : s.data.toList[k]'(by simpa using hk) = s[k]'hk := Array.getElem_toList _
  rw [e]; simp [hc]
theorem all_stop {f : UInt8 → Bool} {s : ByteArray} {k : Nat} (hk : k < s.size) (hc : f (s[k]'hk) = false) : s.data.toList.all f = false := by
  rw [List.all_eq_false]
  refine ⟨s[k]'hk, ?_, by rw [hc]; simp⟩
  have e : s.data.toList[k]'(by simpa using hk) = s[k]'hk := Array.getElem_toList _
  rw [← e]; exact List.getElem_mem _
theorem all_end {f : UInt8 → Bool} {s : ByteArray} (h : (s.data.toList.take s.size).all f = true) : s.data.toList.all f = true := by
  rw [List.take_of_length_le (by rw [Array.length_toList]; exact Nat.le_refl _)] at h; exact h
set_option maxHeartbeats 1000000 in
theorem d_any (c : UInt8) (w : World) : Calls Tryz.prog 151 #[.int .u8 (c.toNat : Int)] w fun e w' => e = .returned (.bool (dB c)) ∧ w = w' := by
  have HL : Live w [] := trivial
  go_enter Tryz.func151, Tryz.ntmps151
  go_wp2
  all_goals
    go_ret
    exact ⟨ret_b (by rw [Bool.eq_iff_iff]; simp [dB] <;> omega), rfl⟩
theorem idxA (s : ByteArray) (c : UInt8) (w : World) : Calls Tryz.prog 54 #[.string s, .int .u8 (c.toNat : Int)] w fun e w' => e = .returned (.int .i64 (Lib.indexByte s.data.toList c)) ∧ w = w' := by
  refine (Any.strings_IndexByte Tryz.lays137 s (c.toNat : Int) w).mono ?_
  rintro e w' ⟨rfl, rfl⟩
  have : ((c.toNat : Int)).toNat.toUInt8 = c := by simp
  rw [this]
  exact ⟨rfl, rfl⟩
set_option maxHeartbeats 1000000 in
theorem a1_any (c : UInt8) (w : World) : Calls Tryz.prog 152 #[.int .u8 (c.toNat : Int)] w fun e w' => e = .returned (.bool (inB aStr c)) ∧ w = w' := by
  have IB := hide (fun W => idxA aStr c W)
  unfold aStr at IB
  have HX := hide (Lib.contains_iff_indexByte aStr.data.toList c)
  have HL : Live w [] := trivial
  go_enter Tryz.func152, Tryz.ntmps152
  go_wp2_with (first | (go_at_call 54; (with_reducible refine (IB.out _).mono ?_); rintro e w' ⟨rfl, rfl⟩))
  go_ret
  exact ⟨ret_b HX.out.symm, rfl⟩
set_option maxRecDepth 100000 in
set_option maxHeartbeats 4000000 in
theorem all_d (s : ByteArray) (hs : s.size ≤ 65536) (g : Nat) (w : World) (hc : w.cell? ⟨g, 0, none⟩ = some (.func (.func 151) #[] #[])) : Calls Tryz.prog 150 #[.string s, .slice (some ⟨g, 0, none⟩) 1 1] w fun e w' => e = .returned (.bool (dsB s)) ∧ w = w' := by
  have hs2 : ¬ (65536 : Int) < (s.size : Int) := by omega
  have HL : Live w [] := trivial
  go_enter Tryz.func150, Tryz.ntmps150
  go_wp2_with fail
  go_loop [14] (fun i => ∃ k : Nat, k ≤ s.size ∧ i = .int .i64 k ∧ (s.data.toList.take k).all dB = true) (fun i => s.size - (intOf i).toNat)
  case atStart => exact ⟨0, by omega, rfl, rfl⟩
  case round =>
    obtain ⟨k, hk, rfl, hall⟩ := hrel
    have HL := hide hall
    clear hall
    by_cases hlt : k < s.size
    · cases hd : dB (s[k]'hlt)
      case true =>
        have DA := hide (fun W => d_any (s[k]'hlt) W)
        rw [hd] at DA
        have HN := hide (all_snoc hlt HL.out hd)
        clear hd
        go_wp2_with fail
        refine wp_loop_rounds 2 ?_
        rw [rounds_succ]
        go_wp2_with (go_at_call 151; (with_reducible refine (DA.out _).mono ?_); rintro e w' ⟨rfl, rfl⟩)
        rw [rounds_succ]
        go_wp2_with fail
        go_round
        case rel => exact ⟨k + 1, by omega, by go_num, HN.out⟩
        case measure => simp [intOf]; omega
      case false =>
        have DA := hide (fun W => d_any (s[k]'hlt) W)
        rw [hd] at DA
        have HN := hide (all_stop hlt hd)
        clear hd
        go_wp2_with fail
        refine wp_loop_rounds 2 ?_
        rw [rounds_succ]
        go_wp2_with (go_at_call 151; (with_reducible refine (DA.out _).mono ?_); rintro e w' ⟨rfl, rfl⟩)
        rw [rounds_succ]
        go_wp2_with fail
        go_ret
        exact ⟨ret_b HN.out.symm, rfl⟩
    · obtain rfl : k = s.size := by omega
      go_wp2_with fail
      go_ret
      exact ⟨ret_b (all_end HL.out).symm, rfl⟩
set_option maxRecDepth 100000 in
set_option maxHeartbeats 4000000 in
theorem all_a (s : ByteArray) (hs : s.size ≤ 65536) (g : Nat) (w : World) (hc : w.cell? ⟨g, 0, none⟩ = some (.func (.func 151) #[] #[])) (hc2 : w.cell? ⟨g, 1, none⟩ = some (.func (.func 152) #[] #[])) : Calls Tryz.prog 150 #[.string s, .slice (some ⟨g, 0, none⟩) 2 2] w fun e w' => e = .returned (.bool (asB s)) ∧ w = w' := by
  have hs2 : ¬ (65536 : Int) < (s.size : Int) := by omega
  have HL : Live w [] := trivial
  go_enter Tryz.func150, Tryz.ntmps150
  go_wp2_with fail
  go_loop [14] (fun i => ∃ k : Nat, k ≤ s.size ∧ i = .int .i64 k ∧ (s.data.toList.take k).all aB = true) (fun i => s.size - (intOf i).toNat)
  case atStart => exact ⟨0, by omega, rfl, rfl⟩
  case round =>
    obtain ⟨k, hk, rfl, hall⟩ := hrel
    have HL := hide hall
    clear hall
    by_cases hlt : k < s.size
    · have DA := hide (fun W => d_any (s[k]'hlt) W)
      have AA := hide (fun W => a1_any (s[k]'hlt) W)
      cases hd : dB (s[k]'hlt)
      case true =>
        rw [hd] at DA
        have HN := hide (all_snoc hlt HL.out (show aB (s[k]'hlt) = true by unfold aB; rw [hd]; rfl))
        clear hd
        go_wp2_with fail
        refine wp_loop_rounds 3 ?_
        rw [rounds_succ]
        go_wp2_with (go_at_call 151; (with_reducible refine (DA.out _).mono ?_); rintro e w' ⟨rfl, rfl⟩)
        rw [rounds_succ]
        go_wp2_with fail
        rw [rounds_succ]
        go_wp2_with fail
        go_round
        case rel => exact ⟨k + 1, by omega, by go_num, HN.out⟩
        case measure => simp [intOf]; omega
      case false =>
        rw [hd] at DA
        cases ha : inB aStr (s[k]'hlt)
        case true =>
          rw [ha] at AA
          have HN := hide (all_snoc hlt HL.out (show aB (s[k]'hlt) = true by unfold aB; rw [hd, ha]; rfl))
          clear hd ha
          go_wp2_with fail
          refine wp_loop_rounds 3 ?_
          rw [rounds_succ]
          go_wp2_with (go_at_call 151; (with_reducible refine (DA.out _).mono ?_); rintro e w' ⟨rfl, rfl⟩)
          rw [rounds_succ]
          go_wp2_with (go_at_call 152; (with_reducible refine (AA.out _).mono ?_); rintro e w' ⟨rfl, rfl⟩)
          rw [rounds_succ]
          go_wp2_with fail
          go_round
          case rel => exact ⟨k + 1, by omega, by go_num, HN.out⟩
          case measure => simp [intOf]; omega
        case false =>
          rw [ha] at AA
          have HN := hide (all_stop hlt (show aB (s[k]'hlt) = false by unfold aB; rw [hd, ha]; rfl))
          clear hd ha
          go_wp2_with fail
          refine wp_loop_rounds 3 ?_
          rw [rounds_succ]
          go_wp2_with (go_at_call 151; (with_reducible refine (DA.out _).mono ?_); rintro e w' ⟨rfl, rfl⟩)
          rw [rounds_succ]
          go_wp2_with (go_at_call 152; (with_reducible refine (AA.out _).mono ?_); rintro e w' ⟨rfl, rfl⟩)
          rw [rounds_succ]
          go_wp2_with fail
          go_ret
          exact ⟨ret_b HN.out.symm, rfl⟩
    · obtain rfl : k = s.size := by omega
      go_wp2_with fail
      go_ret
      exact ⟨ret_b (all_end HL.out).symm, rfl⟩
set_option maxHeartbeats 1000000 in
theorem dchars_any (s : ByteArray) (hs : s.size ≤ 65536) (w : World) : Calls Tryz.prog 103 #[.string s] w fun e w' => e = .returned (.bool (dsB s)) ∧ Below w.heap.size w w' := by
  have HL : Live w [] := trivial
  go_enter Tryz.func103, Tryz.ntmps103
  go_wp2_with fail
  refine (all_d s hs _ _ (by go_simp)).mono ?_
  rintro e w' ⟨rfl, rfl⟩
  go_wp2
  go_ret
  exact ⟨rfl, by (repeat' (first | (with_reducible exact Below.refl _ _) | (with_reducible refine Below.alloc ?_ ?_ _) | (with_reducible refine Below.setCell ?_ ?_ _) | (with_reducible refine Below.drew ?_) | (with_reducible refine below_drewN' ?_) | (with_reducible refine below_bytesW ?_ ?_) | (with_reducible refine Below.trans ?_ (Below.mono (by assumption) ?_)) | omega | (simp only [World.size_alloc, World.size_setCell, World.size_drew]; omega) | (simp [size_bytesW]; omega) | (simp; omega)))⟩
set_option maxHeartbeats 1000000 in
theorem achars_any (s : ByteArray) (hs : s.size ≤ 65536) (w : World) : Calls Tryz.prog 104 #[.string s] w fun e w' => e = .returned (.bool (asB s)) ∧ Below w.heap.size w w' := by
  have HL : Live w [] := trivial
  go_enter Tryz.func104, Tryz.ntmps104
  go_wp2_with fail
  refine (all_a s hs _ _ (by go_simp) (by go_simp)).mono ?_
  rintro e w' ⟨rfl, rfl⟩
  go_wp2
  go_ret
  exact ⟨rfl, by (repeat' (first | (with_reducible exact Below.refl _ _) | (with_reducible refine Below.alloc ?_ ?_ _) | (with_reducible refine Below.setCell ?_ ?_ _) | (with_reducible refine Below.drew ?_) | (with_reducible refine below_drewN' ?_) | (with_reducible refine below_bytesW ?_ ?_) | (with_reducible refine Below.trans ?_ (Below.mono (by assumption) ?_)) | omega | (simp only [World.size_alloc, World.size_setCell, World.size_drew]; omega) | (simp [size_bytesW]; omega) | (simp; omega)))⟩
end Go.Proofs.YtjbhokmkmapkoaaGreatDoor
namespace Go.Proofs.YtjbhokmkmapkoaaGreatDoor
set_option linter.unusedSimpArgs false
set_option linter.unusedVariables false
open Go.RowKit
/-- One element more: it was laid in a new block just before. -/
theorem wpList_append_one {P : Program} (w : World) {ops : Array Oper} {rest : List Oper} {o : Oper} {a : Act} {Q : Exit → Act → World → Prop} (hgd : o.guard = none) (s x : Operand) (t : TypeId)
    (ho : o.op = .call { callee := .builtin .append, args := #[s, x], argTypes := #[t, t] })
    (base : Nat) (e : TypeId) {z : Value} {size bytes : Nat} (hinfo : (P.info? e).map (fun i => (i.zero, i.size, i.bytes)) = some (some z, size, bytes)) (ht : P.underlying t = some (.slice e))
    (hzs : z.cells.size = size) (hsz : 0 < size)
    (v : Value) (n : Nat) (xs : List Value) (hown : w.ownsRow base e size v n xs) (news : Array Value)
    (hs : a.eval s = v) (hx : a.eval x = .slice (some ⟨w.heap.size, 0, none⟩) 1 1) (hl : news.size = size) (h1 : ∀ u ∈ news.toList, u.oneCell' = true)
    (h63 : n + 1 ≤ maxLen) (hbytes : (n + 1) * bytes ≤ 140737488355328) (hbase : base ≤ w.heap.size)
    (h : ∀ v' w', w'.ownsRow base e size v' (n + 1) (xs ++ news.toList) → Below base w w' → (∀ b, b < w.heap.size → v.ownBlock ≠ some b → w'.heap[b]? = w.heap[b]?) → w.heap.size ≤ w'.heap.size → wpList P ops Q rest (a.put o.dst v') w') : wpList P ops Q (o :: rest) a (w.alloc (.cells news e)) := by
  obtain ⟨i, hi, hz0, hz1, hz2⟩ := info_parts hinfo
  refine wpList_append_own _ hgd s x t ho base e i z size bytes ht hi hz0 hz1 hz2 hzs hsz v n xs hs (hown.alloc _) ⟨w.heap.size, 0, none⟩ 1 1 news.toList hx (by simp [hl]) (World.news_of_block (heap_alloc_new w _)) h1 h63 hbytes (by rw [World.size_alloc]; omega) ?_
  intro v' w' hown' hg hn
  have hb1 : Below base w (w.alloc (.cells news e)) := (Below.refl base w).alloc hbase _
  have hb : Below base w w' := hb1.grown hg (by rw [World.size_alloc]; omega) (fun q hq => (hown.lt q hq).1)
  refine h v' w' hown' hb ?_ ?_
  · intro b hlt hne
    rw [hg.block b (by rw [World.size_alloc]; omega) (fun e => hne e.symm)]
    exact Below.heap_alloc w _ b hlt
  · have := hg.size; rw [World.size_alloc] at this; omega
end Go.Proofs.YtjbhokmkmapkoaaGreatDoor
namespace Go.Proofs.YtjbhokmkmapkoaaGreatDoor
set_option linter.unusedSimpArgs false
set_option linter.unusedVariables false
open Go.RowKit
open Go.PlainAid (bt get_bt bt_nonneg bt_le bt_end)
theorem u8Info : (Tryz.prog.info? 5).map (fun i => (i.zero, i.size, i.bytes)) = some (some (.int .u8 0), 1, 1) := by kernel_rfl
/-- A row of the call's own holds some bytes. -/
def RowB (B : Nat) (v : Value) (l : List UInt8) (w : World) : Prop := w.ownsRow B 5 1 v l.length (Lib.byteCells l)
theorem RowB.nil (B : Nat) (w : World) : RowB B (.slice none 0 0) [] w := World.ownsRow_nil _ _ _ _
theorem RowB.below {W w1 : World} {B : Nat} {v : Value} {l : List UInt8} (h : RowB B v l W) (hb : Below W.heap.size W w1) : RowB B v l w1 := ownsRow_below h hb
theorem conv_row {w : World} {B : Nat} {v : Value} {l : List UInt8} (h : RowB B v l w) : (convert 48 9 v).run Tryz.prog w = .ok (.string ⟨l.toArray⟩) w := by
  unfold RowB at h
  rcases Go.Joins.ownsRow_forms h with ⟨rfl, h0⟩ | ⟨g, cap, rfl⟩
  · have : l = [] := List.length_eq_zero_iff.1 h0
    subst this
    exact Lib.run_convert_nil_bytes w _ _ 5 0 Tryz.underlying48 Tryz.underlying5 Tryz.underlying9
  · exact run_convert_bytes_back w _ _ 5 ⟨g, 0, none⟩ cap l Tryz.underlying48 Tryz.underlying5 Tryz.underlying9 (fun j hj => h.cells rfl j _ (by simp [Lib.byteCells, hj]))
/-- Two bytes more, laid just before. -/
theorem wp_two {x y : Int} {w : World} {ops : Array Oper} {rest : List Oper} {o : Oper} {a : Act} {Q : Exit → Act → World → Prop} (hgd : o.guard = none) (sl xo : Operand)
    (ho : o.op = .call { callee := .builtin .append, args := #[sl, xo], argTypes := #[48, 48] })
    (B : Nat) (v : Value) (l : List UInt8) (hs : a.eval sl = v) (W0 : World) (h : RowB B v l w) (hb : Below B W0 w) (hB : B ≤ w.heap.size) (p q : UInt8) (ex : x = (p.toNat : Int)) (ey : y = (q.toNat : Int)) (hx : a.eval xo = .slice (some ⟨w.heap.size, 0, none⟩) 2 2) (hlen : l.length ≤ 100000000)
    (hk : ∀ v' w', RowB B v' (l ++ [p, q]) w' → Below B W0 w' → w.heap.size ≤ w'.heap.size → wpList Tryz.prog ops Q rest (a.put o.dst v') w') : wpList Tryz.prog ops Q (o :: rest) a (w.alloc (.cells #[.int .u8 x, .int .u8 y] 5)) := by
  subst ex ey
  obtain ⟨i0, hi, hz0, hz1, hz2⟩ := info_parts u8Info
  have h' : (w.alloc (.cells #[.int .u8 (p.toNat : Int), .int .u8 (q.toNat : Int)] 5)).ownsRow B 5 1 v l.length (Lib.byteCells l) := World.ownsRow.alloc h _
  have hsz : (w.alloc (.cells #[.int .u8 (p.toNat : Int), .int .u8 (q.toNat : Int)] 5)).heap.size = w.heap.size + 1 := World.size_alloc _ _
  refine wpList_append_own _ hgd sl xo 48 ho B 5 i0 (.int .u8 0) 1 1 Tryz.underlying48 hi hz0 hz1 hz2 rfl (by decide) v l.length (Lib.byteCells l) hs h' ⟨w.heap.size, 0, none⟩ 2 2 (Lib.byteCells [p, q]) hx rfl (World.news_of_block (heap_alloc_new w _)) (Lib.byteCells_one _) (by unfold maxLen; omega) (by omega) (by omega) ?_
  intro v' w' ho' hg _
  have hg2 := hg.size
  refine hk v' w' ?_ ((hb.alloc hB _).grown hg (by omega) (fun k hk => (World.ownsRow.lt h k hk).1)) (by omega)
  unfold RowB
  rw [List.length_append, Lib.byteCells_append]
  exact ho'
theorem rep_any (s : ByteArray) (n : Int) (h0 : 0 < s.size) (hs : s.size ≤ 2) (hn : 0 ≤ n ∧ n ≤ 65536) (w : World) : Calls Tryz.prog 71 #[.string s, .int .i64 n] w fun e w' => e = .returned (.string ⟨(Lib.repeatL s.data.toList n.toNat).toArray⟩) ∧ Below w.heap.size w w' := by
  obtain ⟨k, rfl⟩ : ∃ k : Nat, n = (k : Int) := ⟨n.toNat, by omega⟩
  rw [Int.toNat_natCast]
  rcases (show k = 0 ∨ k = 1 ∨ 2 ≤ k by omega) with rfl | rfl | h2
  · refine (Any.strings_Repeat_zero Tryz.lays105 s w).mono ?_
    rintro e w' ⟨rfl, rfl⟩
    exact ⟨rfl, Below.refl _ _⟩
  · refine (Any.strings_Repeat_one Tryz.lays105 s w).mono ?_
    rintro e w' ⟨rfl, rfl⟩
    exact ⟨by rw [Lib.repeatL_one], Below.refl _ _⟩
  · refine (Any.strings_Repeat_main Tryz.lays105 Tryz.Builder_Extra_105 s k w h2 (by omega) ?_ h0).mono ?_
    · have := Nat.mul_le_mul hs (show k ≤ 65536 by omega)
      omega
    rintro e w' ⟨rfl, hb⟩
    exact ⟨rfl, hb⟩
theorem rep_one (n : Nat) : Lib.repeatL [32] n = List.replicate n 32 := by
  have := Lib.repeatL_replicate 32 1 n
  rw [Nat.mul_one] at this
  exact this
/-- A string with blanks behind it. -/
def padS (s : ByteArray) (n : Int) : ByteArray := ⟨(fieldS s n.toNat).toArray⟩
theorem pad_cat (s : ByteArray) (n : Int) (h : (s.size : Int) ≤ n) : s ++ (⟨(Lib.repeatL [32] (n - s.size).toNat).toArray⟩ : ByteArray) = padS s n := by
  apply ByteArray.ext
  apply Array.toList_inj.1
  rw [ByteArray.data_append, Array.toList_append]
  show s.data.toList ++ Lib.repeatL [32] (n - s.size).toNat = fieldS s n.toNat
  unfold fieldS
  rw [rep_one]
  have : (n - s.size).toNat = n.toNat - s.size := by omega
  rw [this]
end Go.Proofs.YtjbhokmkmapkoaaGreatDoor
namespace Go.Proofs.YtjbhokmkmapkoaaGreatDoor
set_option linter.unusedSimpArgs false
set_option linter.unusedVariables false
open Go.RowKit
open Go.PlainAid (bt get_bt bt_nonneg bt_le bt_end)
def blk (n : Int) : ByteArray := ⟨(Lib.repeatL [32] n.toNat).toArray⟩
theorem blk_size (n : Int) : (blk n).size = n.toNat := by
  show (Lib.repeatL [32] n.toNat).toArray.size = _
  rw [List.size_toArray, Lib.repeatL_length]; simp
theorem rep_pad (n : Int) (w : World) (hn : 0 ≤ n ∧ n ≤ 65536) : Calls Tryz.prog 71 #[.string ⟨#[32]⟩, .int .i64 n] w fun e w' => e = .returned (.string (blk n)) ∧ Below w.heap.size w w' :=
  rep_any ⟨#[32]⟩ n (by decide) (by decide) hn w
theorem ret_s0 {a b : ByteArray} (h : a = b) : Ending.returned (.tuple #[.string a, .int .i64 0]) = .returned (.tuple #[.string b, .int .i64 0]) := by rw [h]
set_option maxHeartbeats 2000000 in
theorem field_any (s : ByteArray) (n : Int) (h : (s.size : Int) ≤ n ∧ n ≤ 65536) (w : World) : Calls Tryz.prog 30 #[.string s, .int .i64 n] w fun e w' => e = .returned (.tuple #[.string (padS s n), .int .i64 0]) ∧ Below w.heap.size w w' := by
  have PC := hide (show s ++ blk (n - s.size) = padS s n from pad_cat s n h.1)
  have hbz := blk_size (n - s.size)
  have HL : Live w [] := trivial
  go_enter Tryz.func30, Tryz.ntmps30
  go_wp2_with (first | (go_at_call 71; (with_reducible refine (rep_pad _ _ (by omega)).mono ?_); rintro e w' ⟨rfl, hb⟩; have hz := hb.size; (try simp only [World.size_alloc, World.size_setCell, World.size_drew, Nat.add_assoc, Nat.reduceAdd] at hz); (first | obtain ⟨HL, hk⟩ := HL.call hb hz (by simp only [World.size_alloc, World.size_setCell, World.size_drew, Nat.add_assoc, Nat.reduceAdd]) | obtain ⟨HL, hk⟩ := HL.call0 hb hz (by first | rfl | simp only [World.size_alloc, World.size_setCell, World.size_drew, Nat.add_assoc, Nat.reduceAdd])); (try simp only [addN, Nat.add_zero] at HL hk); have hl := HL; simp only [Live] at hl; (try simp only [Kept] at hk)))
  go_ret2
  exact ⟨ret_s0 PC.out, by (repeat' (first | (with_reducible exact Below.refl _ _) | (with_reducible refine Below.alloc ?_ ?_ _) | (with_reducible refine Below.setCell ?_ ?_ _) | (with_reducible refine Below.drew ?_) | (with_reducible refine below_drewN' ?_) | (with_reducible refine below_bytesW ?_ ?_) | (with_reducible refine Below.trans ?_ (Below.mono (by assumption) ?_)) | omega | (simp only [World.size_alloc, World.size_setCell, World.size_drew]; omega) | (simp [size_bytesW]; omega) | (simp; omega)))⟩
theorem trimK_32 (s : ByteArray) : ∀ k j, trimK s k ≤ j → j < k → bt s j = 32
  | 0, j, _, h => by omega
  | k + 1, j, h1, h2 => by
    unfold trimK at h1
    split at h1
    · rename_i hb
      by_cases e : j = k
      · rw [e]; exact hb
      · exact trimK_32 s k j h1 (by omega)
    · omega
theorem trimK_no (s : ByteArray) : ∀ k, 0 < trimK s k → bt s (trimK s k - 1) ≠ 32
  | 0, h => by unfold trimK at h; omega
  | k + 1, h => by
    unfold trimK at h ⊢
    split
    · rename_i hb
      rw [if_pos hb] at h
      exact trimK_no s k h
    · rename_i hb
      simpa using hb
theorem bt_32 {s : ByteArray} {j : Nat} {b : UInt8} (h : s.data.toList[j]? = some b) : bt s j = b.toNat := by
  rw [lst s]
  exact bt_of h
theorem trim_take (s : ByteArray) : (⟨(Lib.trimRightB s.data.toList 32).toArray⟩ : ByteArray) = trimS s := by
  have hl : s.data.toList.length = s.size := Array.length_toList
  rw [Lib.trimRightB_take s.data.toList 32 (trimK s s.size) (by rw [hl]; exact trimK_le _ _)]
  · unfold trimS
    apply ByteArray.ext
    apply Array.toList_inj.1
    rw [← ByteArray.toList_eq (s.extract _ _), Lib.extract_toList]
    simp
  · intro j b hj hb
    have h1 := bt_32 hb
    have hlt : j < s.size := by rw [← hl]; exact (List.getElem?_eq_some_iff.1 hb).1
    rw [trimK_32 s s.size j hj hlt] at h1
    exact UInt8.toNat_inj.1 (show b.toNat = 32 by omega)
  · intro b h0 hb e
    have h1 := bt_32 hb
    exact trimK_no s s.size h0 (by rw [h1, e]; rfl)
theorem trimR (s : ByteArray) (hs : s.size ≤ 65536) (w : World) : Calls Tryz.prog 110 #[.string s, .string ⟨#[32]⟩] w fun e w' => e = .returned (.string (trimS s)) ∧ w = w' := by
  refine (Any.strings_TrimRight_one Tryz.lays162 s 32 (by decide) w (by omega)).mono ?_
  rintro e w' ⟨rfl, rfl⟩
  exact ⟨by rw [trim_take], rfl⟩
set_option maxHeartbeats 2000000 in
theorem trim_any (s : ByteArray) (hs : s.size ≤ 65536) (w : World) : Calls Tryz.prog 55 #[.string s] w fun e w' => e = .returned (.string (trimS s)) ∧ w = w' := by
  have HL : Live w [] := trivial
  go_enter Tryz.func55, Tryz.ntmps55
  go_wp2_with (first | (go_at_call 110; (with_reducible refine (trimR _ (by omega) _).mono ?_); rintro e w' ⟨rfl, rfl⟩))
  go_ret
  exact ⟨rfl, rfl⟩
theorem ext_ext (s : ByteArray) (k j : Nat) (h : j ≤ k) : (s.extract 0 k).extract 0 j = s.extract 0 j := by
  apply ByteArray.ext
  apply Array.toList_inj.1
  rw [← ByteArray.toList_eq ((s.extract 0 k).extract 0 j), ← ByteArray.toList_eq (s.extract 0 j), Lib.extract_toList, Lib.extract_toList, ← ByteArray.toList_eq (s.extract 0 k), Lib.extract_toList]
  simp [List.take_take, Nat.min_eq_left h]
theorem ext_size (s : ByteArray) (k : Nat) (h : k ≤ s.size) : (s.extract 0 k).size = k := by
  rw [ByteArray.size_extract]; omega
end Go.Proofs.YtjbhokmkmapkoaaGreatDoor
namespace Go.Proofs.YtjbhokmkmapkoaaGreatDoor
set_option linter.unusedSimpArgs false
set_option linter.unusedVariables false
open Go.RowKit
open Go.PlainAid (bt get_bt bt_nonneg bt_le bt_end)
theorem charsY (s : ByteArray) (hs : s.size ≤ 65536) (cs : List Int) (hc : charL s = some cs) (w : World) (hT : TabU w) : Calls Tryz.prog 102 #[.string s] w fun e w' => ∃ v, e = .returned (.tuple #[v, .int .i64 0]) ∧ w'.ownsRow w.heap.size 3 1 v cs.length (cs.map (Value.int .i64)) ∧ Below w.heap.size w w' := by
  refine (chars_any s hs w hT).mono ?_
  rintro e w' h
  unfold CharsP at h
  rw [hc] at h
  obtain ⟨⟨v, h1, h2⟩, h3⟩ := h
  exact ⟨v, h1, h2, h3⟩
theorem add_off (g k : Nat) : ((⟨g, 0, none⟩ : Addr).add k) = ⟨g, k, none⟩ := by
  unfold Addr.add
  split
  · rename_i h; subst h; rfl
  · simp
def ucsS (cs : List Int) : ByteArray := ⟨(ucsL cs).toArray⟩
theorem ucs_more {cs : List Int} {k : Nat} (h : k < cs.length) : ucsL (cs.take (k + 1)) = ucsL (cs.take k) ++ [u8 (cs[k] / 256), u8 (cs[k] % 256)] := by
  rw [List.take_succ_eq_append_getElem h, ucsL_snoc]
theorem ch_in {cs : List Int} (h : ∀ c ∈ cs, chB c = true) {k : Nat} (hk : k < cs.length) : 0 ≤ cs[k] ∧ cs[k] ≤ 65535 := by
  have := h _ (List.getElem_mem hk)
  unfold chB at this
  have := of_decide_eq_true this
  omega
set_option maxRecDepth 100000 in
set_option maxHeartbeats 4000000 in
theorem ucs_any (s : ByteArray) (hs : s.size ≤ 65536) (cs : List Int) (hc : charL s = some cs) (w : World) (hT : TabU w) : Calls Tryz.prog 72 #[.string s] w fun e w' => e = .returned (.tuple #[.string (ucsS cs), .int .i64 0]) ∧ Below w.heap.size w w' := by
  obtain ⟨i0, hi, hz0, hz1, hz2⟩ := info_parts u8Info
  have hct := charL_text s.size s cs (Nat.le_refl _) hc
  have hcl := hct.2.2
  have HB := hide hct.2.1
  have CY := hide (charsY s hs cs hc)
  clear hct hc
  have HL : Live w [] := trivial
  go_enter Tryz.func72, Tryz.ntmps72
  go_wp2_with (first | (go_at_call 102; (with_reducible refine (CY.out _ hT).mono ?_); rintro e w1 ⟨v, rfl, hrow, hb⟩; have hsz := hb.size; (rcases Go.Joins.ownsRow_forms hrow with ⟨rfl, h0⟩ | ⟨g, cap, rfl⟩)) | (at_make; refine wpList_make_own _ rfl _ _ 48 rfl w1.heap.size 5 i0 (.int .u8 0) 1 Tryz.underlying48 hi hz0 hz1 .i64 .i64 _ (2 * cs.length) rfl rfl (by first | rfl | omega) (by rw [hz2]; omega) (by unfold maxLen; omega) (Nat.le_refl _) ?_; intro w2 hown2 hgrow2) | (at_make; refine wpList_make_own _ rfl _ _ 48 rfl w1.heap.size 5 i0 (.int .u8 0) 1 Tryz.underlying48 hi hz0 hz1 .i64 .i64 _ 0 rfl rfl (by first | rfl | omega) (by rw [hz2]; omega) (by unfold maxLen; omega) (Nat.le_refl _) ?_; intro w2 hown2 hgrow2))
  · refine wp_loop_rounds 1 ?_
    rw [rounds_succ]
    have hr0 : RowB w1.heap.size (.slice (some ⟨w1.heap.size, 0, none⟩) 0 0) [] w2 := by rw [show 2 * cs.length = 0 by omega] at hown2; exact hown2
    have cv := conv_row hr0
    have hcs : cs = [] := List.length_eq_zero_iff.1 h0
    have e0 : ucsS [] = ⟨#[]⟩ := rfl
    have E0 := hide e0
    subst hcs
    clear e0
    go_wp2
    go_ret2
    exact ⟨ret_s0 E0.out.symm, hb.trans (((Below.refl _ _).grown hgrow2 (Nat.le_refl _) (fun k h => by cases h)).mono hsz)⟩
  · have hb2 : Below w1.heap.size w1 w2 := (Below.refl _ _).grown hgrow2 (Nat.le_refl _) (fun k h => by cases h)
    have hr0 : RowB w1.heap.size (.slice (some ⟨w1.heap.size, 0, none⟩) 0 (2 * cs.length)) [] w2 := hown2
    go_loopw [6, 23] (fun out i wr => ∃ k : Nat, k ≤ cs.length ∧ i = .int .i64 k ∧ RowB w1.heap.size out (ucsL (cs.take k)) wr ∧ Below w1.heap.size w1 wr) (fun _ i _ => cs.length - (intOf i).toNat)
    case atStart => exact ⟨0, by omega, rfl, hr0, hb2⟩
    case round =>
      obtain ⟨k, hk, rfl, hr, hbr⟩ := hrel
      have HR := hide hr
      clear hr hr0 hown2 hgrow2
      have hszr := hbr.size
      by_cases hlt : k < cs.length
      · have hcr := ownsRow_below hrow hbr
        have hcell : wr.cell? ⟨g, k, none⟩ = some (.int .i64 (cs[k]'hlt)) := by
          have := hcr.cells rfl k (.int .i64 (cs[k]'hlt)) (by simp [hlt])
          rw [add_off] at this; exact this
        have hci := ch_in HB.out hlt
        have E1 := hide (ucs_more hlt)
        generalize hcc : cs[k]'hlt = c at *
        have hl : (ucsL (cs.take k)).length ≤ 100000000 := by rw [ucsL_len, List.length_take]; omega
        go_wp2_with (at_builtin; (refine wp_two rfl _ _ rfl w1.heap.size _ (ucsL (cs.take k)) rfl w1 HR.out hbr hszr (Go.Proofs.YtjbhokmkmapkoaaGreatDoor.u8 (c / 256)) (Go.Proofs.YtjbhokmkmapkoaaGreatDoor.u8 (c % 256)) (u8_nat (v := c / 256) (by omega)).symm (u8_nat (v := c % 256) (by omega)).symm rfl hl ?_); intro v2 w3 hrow3 hbel3 hsz3)
        go_roundw
        case rel => exact ⟨k + 1, by omega, by go_num, by rw [E1.out]; exact hrow3, hbel3⟩
        case measure => simp [intOf]; omega
      · obtain rfl : k = cs.length := by omega
        have cv := conv_row HR.out
        have e1 : cs.take cs.length = cs := List.take_length
        go_wp2
        go_ret2
        exact ⟨ret_s0 rfl, hb.trans (hbr.mono hsz)⟩
end Go.Proofs.YtjbhokmkmapkoaaGreatDoor
namespace Go.Proofs.YtjbhokmkmapkoaaGreatDoor
set_option linter.unusedSimpArgs false
set_option linter.unusedVariables false
open Go.RowKit
open Go.PlainAid (bt get_bt bt_nonneg bt_le bt_end)
theorem RowB.drew {B : Nat} {v : Value} {l : List UInt8} {w : World} (h : RowB B v l w) : RowB B v l w.drew := World.ownsRow.drew h
end Go.Proofs.YtjbhokmkmapkoaaGreatDoor
namespace Go.Proofs.YtjbhokmkmapkoaaGreatDoor
set_option linter.unusedSimpArgs false
set_option linter.unusedVariables false
open Go.RowKit
open Go.PlainAid (bt get_bt bt_nonneg bt_le bt_end)
/-- A string and an error. -/
def fromP (r : List UInt8 × Int) (w : World) (e : Ending) (w' : World) : Prop := e = .returned (.tuple #[.string ⟨r.1.toArray⟩, .int .i64 r.2]) ∧ Below w.heap.size w w'
theorem fromP.mk {r : List UInt8 × Int} {l : List UInt8} {x : Int} {w : World} {e : Ending} {w' : World} (h : r = (l, x)) (he : e = .returned (.tuple #[.string ⟨l.toArray⟩, .int .i64 x])) (hb : Below w.heap.size w w') : fromP r w e w' := by
  subst h; exact ⟨he, hb⟩
theorem encL_len (n : Int) : (encL n).length ≤ 3 := by unfold encL; split <;> (try split) <;> simp
theorem fromU_odd {s : ByteArray} (h : s.size % 2 = 1) : fromU s = ([], 3) := by unfold fromU; rw [if_pos h]
theorem fromU_even {s : ByteArray} (h : ¬ s.size % 2 = 1) : fromU s = unuF s 0 [] := by unfold fromU; rw [if_neg h]; rfl
end Go.Proofs.YtjbhokmkmapkoaaGreatDoor
namespace Go.Proofs
set_option linter.unusedSimpArgs false
set_option linter.unusedVariables false
open Go.Shelf
def Tryz.lays166_ren : Go.Shelf.Ren := ⟨fun | 166 => 79 | 240 => 137 | 276 => 173 | n => n, fun | 0 => 0 | 3 => 3 | 4 => 4 | 9 => 9 | 20 => 20 | 37 => 48 | 70 => 99 | 72 => 101 | 75 => 103 | 164 => 161 | 5 => 5 | 80 => 67 | n => n, fun | n => n⟩
theorem Tryz.lays166 : Go.Proofs.Lays.n166 Tryz.prog Tryz.lays166_ren := {
  mixed := by kernel_rfl
  f166 := Tryz.func79.trans (congrArg some (by kernel_rfl))
  f240 := Tryz.func137.trans (congrArg some (by kernel_rfl))
  f276 := Tryz.func173.trans (congrArg some (by kernel_rfl))
  t0 := Tryz.underlying0
  a0 := Tryz.isAgg0
  z0 := Tryz.sizeOf0
  v0 := Tryz.zeroValue0
  t3 := Tryz.underlying3
  a3 := Tryz.isAgg3
  z3 := Tryz.sizeOf3
  v3 := Tryz.zeroValue3
  t4 := Tryz.underlying4
  a4 := Tryz.isAgg4
  z4 := Tryz.sizeOf4
  v4 := Tryz.zeroValue4
  t9 := Tryz.underlying9
  a9 := Tryz.isAgg9
  z9 := Tryz.sizeOf9
  v9 := Tryz.zeroValue9
  t20 := Tryz.underlying20
  a20 := Tryz.isAgg20
  z20 := Tryz.sizeOf20
  v20 := Tryz.zeroValue20
  t37 := Tryz.underlying48
  a37 := Tryz.isAgg48
  z37 := Tryz.sizeOf48
  v37 := Tryz.zeroValue48
  t70 := Tryz.underlying99
  a70 := Tryz.isAgg99
  z70 := Tryz.sizeOf99
  v70 := Tryz.zeroValue99
  t72 := Tryz.underlying101
  a72 := Tryz.isAgg101
  z72 := Tryz.sizeOf101
  v72 := Tryz.zeroValue101
  t75 := Tryz.underlying103
  a75 := Tryz.isAgg103
  z75 := Tryz.sizeOf103
  v75 := Tryz.zeroValue103
  t164 := Tryz.underlying161
  a164 := Tryz.isAgg161
  z164 := Tryz.sizeOf161
  v164 := Tryz.zeroValue161 }
theorem Tryz.Builder_Extra_166 : Builder.Extra Tryz.prog Tryz.lays166_ren := {
  sizeBuilder := by kernel_rfl
  liesBuilder := by kernel_rfl
  t5 := Tryz.underlying5
  a5 := Tryz.isAgg5
  z5 := Tryz.sizeOf5
  v5 := Tryz.zeroValue5
  infoByte := by kernel_rfl
  cellsByte := by kernel_rfl
  sizeByte := by kernel_rfl
  neB5 := by decide }
def Tryz.lays169_ren : Go.Shelf.Ren := ⟨fun | 169 => 82 | n => n, fun | 0 => 0 | 3 => 3 | 9 => 9 | 37 => 48 | 70 => 99 | 72 => 101 | 127 => 134 | 5 => 5 | n => n, fun | n => n⟩
theorem Tryz.lays169 : Go.Proofs.Lays.n169 Tryz.prog Tryz.lays169_ren := {
  mixed := by kernel_rfl
  f169 := Tryz.func82.trans (congrArg some (by kernel_rfl))
  t0 := Tryz.underlying0
  a0 := Tryz.isAgg0
  z0 := Tryz.sizeOf0
  v0 := Tryz.zeroValue0
  t3 := Tryz.underlying3
  a3 := Tryz.isAgg3
  z3 := Tryz.sizeOf3
  v3 := Tryz.zeroValue3
  t9 := Tryz.underlying9
  a9 := Tryz.isAgg9
  z9 := Tryz.sizeOf9
  v9 := Tryz.zeroValue9
  t37 := Tryz.underlying48
  a37 := Tryz.isAgg48
  z37 := Tryz.sizeOf48
  v37 := Tryz.zeroValue48
  t70 := Tryz.underlying99
  a70 := Tryz.isAgg99
  z70 := Tryz.sizeOf99
  v70 := Tryz.zeroValue99
  t72 := Tryz.underlying101
  a72 := Tryz.isAgg101
  z72 := Tryz.sizeOf101
  v72 := Tryz.zeroValue101
  t127 := Tryz.underlying134
  a127 := Tryz.isAgg134
  z127 := Tryz.sizeOf134
  v127 := Tryz.zeroValue134 }
theorem Tryz.Builder_Extra_169 : Builder.Extra Tryz.prog Tryz.lays169_ren := {
  sizeBuilder := by kernel_rfl
  liesBuilder := by kernel_rfl
  t5 := Tryz.underlying5
  a5 := Tryz.isAgg5
  z5 := Tryz.sizeOf5
  v5 := Tryz.zeroValue5
  infoByte := by kernel_rfl
  cellsByte := by kernel_rfl
  sizeByte := by kernel_rfl
  neB5 := by decide }
end Go.Proofs
namespace Go.Proofs
set_option linter.unusedSimpArgs false
set_option linter.unusedVariables false
open Go.Shelf
def Tryz.lays167_ren : Go.Shelf.Ren := ⟨fun | 167 => 81 | 240 => 137 | 276 => 173 | n => n, fun | 0 => 0 | 4 => 4 | 5 => 5 | 9 => 9 | 20 => 20 | 37 => 48 | 70 => 99 | 72 => 101 | 75 => 103 | 164 => 161 | 80 => 67 | n => n, fun | n => n⟩
theorem Tryz.lays167 : Go.Proofs.Lays.n167 Tryz.prog Tryz.lays167_ren := {
  mixed := by kernel_rfl
  f167 := Tryz.func81.trans (congrArg some (by kernel_rfl))
  f240 := Tryz.func137.trans (congrArg some (by kernel_rfl))
  f276 := Tryz.func173.trans (congrArg some (by kernel_rfl))
  t0 := Tryz.underlying0
  a0 := Tryz.isAgg0
  z0 := Tryz.sizeOf0
  v0 := Tryz.zeroValue0
  t4 := Tryz.underlying4
  a4 := Tryz.isAgg4
  z4 := Tryz.sizeOf4
  v4 := Tryz.zeroValue4
  t5 := Tryz.underlying5
  a5 := Tryz.isAgg5
  z5 := Tryz.sizeOf5
  v5 := Tryz.zeroValue5
  t9 := Tryz.underlying9
  a9 := Tryz.isAgg9
  z9 := Tryz.sizeOf9
  v9 := Tryz.zeroValue9
  t20 := Tryz.underlying20
  a20 := Tryz.isAgg20
  z20 := Tryz.sizeOf20
  v20 := Tryz.zeroValue20
  t37 := Tryz.underlying48
  a37 := Tryz.isAgg48
  z37 := Tryz.sizeOf48
  v37 := Tryz.zeroValue48
  t70 := Tryz.underlying99
  a70 := Tryz.isAgg99
  z70 := Tryz.sizeOf99
  v70 := Tryz.zeroValue99
  t72 := Tryz.underlying101
  a72 := Tryz.isAgg101
  z72 := Tryz.sizeOf101
  v72 := Tryz.zeroValue101
  t75 := Tryz.underlying103
  a75 := Tryz.isAgg103
  z75 := Tryz.sizeOf103
  v75 := Tryz.zeroValue103
  t164 := Tryz.underlying161
  a164 := Tryz.isAgg161
  z164 := Tryz.sizeOf161
  v164 := Tryz.zeroValue161 }
theorem Tryz.Builder_Extra_167 : Builder.Extra Tryz.prog Tryz.lays167_ren := {
  sizeBuilder := by kernel_rfl
  liesBuilder := by kernel_rfl
  t5 := Tryz.underlying5
  a5 := Tryz.isAgg5
  z5 := Tryz.sizeOf5
  v5 := Tryz.zeroValue5
  infoByte := by kernel_rfl
  cellsByte := by kernel_rfl
  sizeByte := by kernel_rfl
  neB5 := by decide }
def Tryz.lays168_ren : Go.Shelf.Ren := ⟨fun | 168 => 161 | 240 => 137 | 242 => 183 | 276 => 173 | 278 => 196 | n => n, fun | 0 => 0 | 3 => 3 | 4 => 4 | 5 => 5 | 9 => 9 | 20 => 20 | 21 => 21 | 37 => 48 | 46 => 129 | 51 => 156 | 70 => 99 | 72 => 101 | 75 => 103 | 164 => 161 | 80 => 67 | n => n, fun | n => n⟩
theorem Tryz.lays168 : Go.Proofs.Lays.n168 Tryz.prog Tryz.lays168_ren := {
  mixed := by kernel_rfl
  f168 := Tryz.func161.trans (congrArg some (by kernel_rfl))
  f240 := Tryz.func137.trans (congrArg some (by kernel_rfl))
  f242 := Tryz.func183.trans (congrArg some (by kernel_rfl))
  f276 := Tryz.func173.trans (congrArg some (by kernel_rfl))
  f278 := Tryz.func196.trans (congrArg some (by kernel_rfl))
  t0 := Tryz.underlying0
  a0 := Tryz.isAgg0
  z0 := Tryz.sizeOf0
  v0 := Tryz.zeroValue0
  t3 := Tryz.underlying3
  a3 := Tryz.isAgg3
  z3 := Tryz.sizeOf3
  v3 := Tryz.zeroValue3
  t4 := Tryz.underlying4
  a4 := Tryz.isAgg4
  z4 := Tryz.sizeOf4
  v4 := Tryz.zeroValue4
  t5 := Tryz.underlying5
  a5 := Tryz.isAgg5
  z5 := Tryz.sizeOf5
  v5 := Tryz.zeroValue5
  t9 := Tryz.underlying9
  a9 := Tryz.isAgg9
  z9 := Tryz.sizeOf9
  v9 := Tryz.zeroValue9
  t20 := Tryz.underlying20
  a20 := Tryz.isAgg20
  z20 := Tryz.sizeOf20
  v20 := Tryz.zeroValue20
  t21 := Tryz.underlying21
  a21 := Tryz.isAgg21
  z21 := Tryz.sizeOf21
  v21 := Tryz.zeroValue21
  t37 := Tryz.underlying48
  a37 := Tryz.isAgg48
  z37 := Tryz.sizeOf48
  v37 := Tryz.zeroValue48
  t46 := Tryz.underlying129
  a46 := Tryz.isAgg129
  z46 := Tryz.sizeOf129
  v46 := Tryz.zeroValue129
  t51 := Tryz.underlying156
  a51 := Tryz.isAgg156
  z51 := Tryz.sizeOf156
  v51 := Tryz.zeroValue156
  t70 := Tryz.underlying99
  a70 := Tryz.isAgg99
  z70 := Tryz.sizeOf99
  v70 := Tryz.zeroValue99
  t72 := Tryz.underlying101
  a72 := Tryz.isAgg101
  z72 := Tryz.sizeOf101
  v72 := Tryz.zeroValue101
  t75 := Tryz.underlying103
  a75 := Tryz.isAgg103
  z75 := Tryz.sizeOf103
  v75 := Tryz.zeroValue103
  t164 := Tryz.underlying161
  a164 := Tryz.isAgg161
  z164 := Tryz.sizeOf161
  v164 := Tryz.zeroValue161 }
theorem Tryz.Builder_Extra_168 : Builder.Extra Tryz.prog Tryz.lays168_ren := {
  sizeBuilder := by kernel_rfl
  liesBuilder := by kernel_rfl
  t5 := Tryz.underlying5
  a5 := Tryz.isAgg5
  z5 := Tryz.sizeOf5
  v5 := Tryz.zeroValue5
  infoByte := by kernel_rfl
  cellsByte := by kernel_rfl
  sizeByte := by kernel_rfl
  neB5 := by decide }
end Go.Proofs
namespace Go.Proofs.YtjbhokmkmapkoaaGreatDoor
set_option linter.unusedSimpArgs false
set_option linter.unusedVariables false
open Go.RowKit
open Go.PlainAid (bt get_bt bt_nonneg bt_le bt_end)
/-- A builder in a block of its own that holds some bytes. -/
def BF (B b : Nat) (l : List UInt8) (w : World) : Prop := Lib.IsBuilderF 101 5 B b (Lib.byteCells l) w
theorem rowF_below {W w1 : World} {B : Nat} {e : TypeId} {size : Nat} {v : Value} {n : Nat} {xs : List Value} (h : W.ownsRowF B e size v n xs) (hb : Below W.heap.size W w1) : w1.ownsRowF B e size v n xs := by
  refine ⟨h.1, ?_⟩
  rcases h.2 with h2 | ⟨g, cap, cur, fz, hv, hg, hh, r⟩
  · exact Or.inl h2
  · exact Or.inr ⟨g, cap, cur, fz, hv, hg, some_below hb hh, r⟩
theorem BF.below {W w1 : World} {B b : Nat} {l : List UInt8} (h : BF B b l W) (hb : Below W.heap.size W w1) : BF B b l w1 := by
  rcases h with ⟨h1, v, h2, h3, h4⟩ | ⟨h1, v, h2, h3, h4⟩
  · exact Or.inl ⟨h1, v, some_below hb h2, rowF_below h3 hb, h4⟩
  · exact Or.inr ⟨h1, v, some_below hb h2, rowF_below h3 hb, h4⟩
theorem BF.lt {W : World} {B b : Nat} {l : List UInt8} (h : BF B b l W) : b < W.heap.size := by
  rcases h with h | h
  · exact h.lt
  · exact h.lt
theorem BF.alloc {W : World} {B b : Nat} {l : List UInt8} (h : BF B b l W) (o : Obj) : BF B b l (W.alloc o) := h.below ((Below.refl _ _).alloc (Nat.le_refl _) _)
theorem BF.drew {W : World} {B b : Nat} {l : List UInt8} (h : BF B b l W) : BF B b l W.drew := h
theorem BF.fresh (w : World) : BF w.heap.size w.heap.size [] (w.alloc (.cells #[.pointer none, .slice none 0 0] 101)) := Lib.IsBuilderF.of (Lib.fresh_isBuilder 101 5 w)
/-- Every block that is not the builder's and no row of bytes stands as it stood. -/
abbrev OK8 (b : Nat) (w w' : World) : Prop := Lib.OthersKept 5 (some b) w w'
/-- What a writer leaves. -/
def BWP (B b : Nat) (l : List UInt8) (w w' : World) : Prop := BF B b l w' ∧ Below B w w' ∧ OK8 b w w'
theorem wstring (B b : Nat) (l : List UInt8) (s : ByteArray) (w : World) (h : BF B b l w) (hlen : l.length + s.size ≤ 140737488355328) (hBw : B ≤ w.heap.size) :
    Calls Tryz.prog 79 #[.pointer (some ⟨b, 0, none⟩), .string s] w fun e w' => e = .returned (.tuple #[.int .i64 s.size, .nilIface]) ∧ BWP B b (l ++ s.data.toList) w w' :=
  (Any.Builder_WriteString_k Tryz.lays166 Tryz.Builder_Extra_166 B b (Lib.byteCells l) s w h (by rw [Lib.byteCells_length]; exact hlen) hBw).mono fun e w' ⟨he, h1, h2, h3⟩ =>
    ⟨he, Or.inr (by rw [Lib.strCells_eq, ← Lib.byteCells_append] at h1; exact h1), h2, h3⟩
theorem bstring (B b : Nat) (l : List UInt8) (w : World) (h : BF B b l w) (hBw : B ≤ w.heap.size) :
    Calls Tryz.prog 82 #[.pointer (some ⟨b, 0, none⟩)] w fun e w' => e = .returned (.string ⟨l.toArray⟩) ∧ BWP B b l w w' :=
  (Any.Builder_String_any_k Tryz.lays169 Tryz.Builder_Extra_169 B b l w h hBw).mono fun e w' ⟨he, h1, h2, h3⟩ => ⟨he, h1, h2, h3⟩
theorem rune_enc {c : Int} (h : chB c = true) : Lib.byteCells (encL c) = Lib.runeCells c := by
  unfold chB at h
  have h := of_decide_eq_true h
  unfold Lib.runeCells Lib.byteCells encL
  by_cases h1 : c < 128
  · rw [if_pos h1, Lib.encodeRuneZ_one (by omega) (by omega)]
    simp [u8_nat (v := c) (by omega)]
  · rw [if_neg h1]
    by_cases h2 : c < 2048
    · rw [if_pos h2, Lib.encodeRuneZ_two (by omega) (by omega)]
      simp [u8_nat (v := 192 + c / 64) (by omega), u8_nat (v := 128 + c % 64) (by omega)]
    · rw [if_neg h2, Lib.encodeRuneZ_three (by omega)]
      simp [u8_nat (v := 224 + c / 4096) (by omega), u8_nat (v := 128 + c / 64 % 64) (by omega), u8_nat (v := 128 + c % 64) (by omega)]
theorem wrune (B b : Nat) (l : List UInt8) (c : Int) (w : World) (h : BF B b l w) (hc : chB c = true) (hlen : l.length ≤ 100000000) (hBw : B ≤ w.heap.size) :
    Calls Tryz.prog 161 #[.pointer (some ⟨b, 0, none⟩), .int .i32 c] w fun e w' => e = .returned (.tuple #[.int .i64 (encL c).length, .nilIface]) ∧ BWP B b (l ++ encL c) w w' := by
  have hcc := of_decide_eq_true (show decide (32 ≤ c ∧ c ≤ 65533 ∧ (c < 55296 ∨ 57343 < c)) = true from hc)
  refine (Any.Builder_WriteRune_k Tryz.lays168 Tryz.Builder_Extra_168 B b (Lib.byteCells l) c (by omega) (by omega) w h (by rw [Lib.byteCells_length]; omega) hBw).mono ?_
  rintro e w' ⟨he, h1, h2, h3⟩
  rw [← rune_enc hc] at he h1
  rw [Lib.byteCells_length] at he
  exact ⟨he, Or.inr (by rw [← Lib.byteCells_append] at h1; exact h1), h2, h3⟩
end Go.Proofs.YtjbhokmkmapkoaaGreatDoor
