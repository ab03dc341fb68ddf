/- Contracts and plain words for the laws of volume descriptors, part 14: D, N, F, F2, F3, F4. No condition. -/
import Derived.Test.YtjbhokmkmapkoaaGreatDoorC13
import Derived.Laws.OwnMore
import Derived.Deep.AppendLies
import Derived.OwnWalk
import Derived.Lib.SmallJoins
import Derived.Test.YtjbhokmkmapkoaaGreatDoorC1
import Derived.Lib.BufferRead
import Derived.Lib.AppendStr
import Derived.Lib.BufferWrite
import Derived.Shelf.Strings.Repeat
import Derived.Shelf.Strings.Trim
import Derived.Test.YtjbhokmkmapkoaaGreatDoorC12
import Derived.Test.YtjbhokmkmapkoaaGreatDoorC0
import Derived.Lib.PathFns
namespace Go.Proofs.YtjbhokmkmapkoaaGreatDoor
set_option linter.unusedSimpArgs false
set_option linter.unusedVariables false
open Go.RowKit
open Go.PlainAid (bt get_bt bt_nonneg bt_le bt_end)
theorem rfirst_at (t : ByteArray) (kk : Int) (h1 : 1 ≤ t.size) (h64 : (t.size : Int) ≤ 65536) (hk : (hd t : Int) = kk) (w : World) : Calls Tryz.prog 153 #[.string t] w fun e w' => e = .returned (.tuple #[.int .i64 (fc t), .int .i64 kk]) ∧ Below w.heap.size w w' := by
  subst hk; exact rfirst_any t h1 h64 w
theorem hd_cases (t : ByteArray) : hd t = 0 ∨ hd t = 1 ∨ hd t = 2 ∨ hd t = 3 := by
  unfold hd; repeat' split
  all_goals omega
set_option maxRecDepth 100000 in
set_option maxHeartbeats 4000000 in
theorem rchars_any (s : ByteArray) (hs : s.size ≤ 65536) (w : World) : Calls Tryz.prog 105 #[.string s] w (CharsP (charL s) w) := by
  obtain ⟨i0, hi, hz0, hz1, hz2⟩ := info_parts intInfo
  have HL : Live w [] := trivial
  go_enter Tryz.func105, Tryz.ntmps105
  go_wp2
  go_loopw [0, 4] (fun sv out wr => CRel s sv out w.heap.size w wr) (fun sv _ _ => strLen sv)
  case atStart => exact ⟨s, [], rfl, by simp, by simp, World.ownsRow_nil _ _ _ _, by (exact bl)⟩
  case round =>
    obtain ⟨t, pre, rfl, hk, hc, hown, hbel⟩ := hrel
    have HC := hide hc
    clear hc
    have hsz := hbel.size
    by_cases h0 : t.size = 0
    · have HH := hide h0
      have hz : ¬ (0 : Int) < (t.size : Int) := by omega
      clear h0
      have HO := hide hown
      clear hown
      go_wp2
      go_ret2
      exact CharsP.yes (by rw [HC.out, charL_nil HH.out]; simp) rfl HO.out hbel
    · have hz : (0 : Int) < (t.size : Int) := by omega
      have hl := hd_le t
      have HO := hide hown
      clear hown h0
      rcases hd_cases t with hh | hh | hh | hh
      · have HD := hide hh
        have DC := hide (fun W => rfirst_at t 0 (by omega) (by omega) (by rw [hh]; rfl) W)
        clear hh hl
        go_wp2_with (go_at_call 153; (with_reducible refine (DC.out _).mono ?_); rintro e w1 ⟨rfl, hb⟩; have hz1' := hb.size)
        go_ret2
        exact CharsP.no (by rw [HC.out, charL_no (by omega) HD.out]; rfl) rfl (hbel.trans (hb.mono hsz))
      · have HD := hide hh
        have DC := hide (fun W => rfirst_at t 1 (by omega) (by omega) (by rw [hh]; rfl) W)
        have hl2 : 1 ≤ t.size := by omega
        clear hh hl
        go_wp2_with (first | (go_at_call 153; (with_reducible refine (DC.out _).mono ?_); rintro e w1 ⟨rfl, hb⟩; have hz1' := hb.size) | (at_builtin; refine wpList_append_own _ rfl _ _ 37 rfl w.heap.size 3 i0 (.int .i64 0) 1 8 Tryz.underlying37 hi hz0 hz1 hz2 rfl (by decide) _ pre.length (pre.map (Value.int .i64)) rfl ((ownsRow_below HO.out hb).alloc _) ⟨w1.heap.size, 0, none⟩ 1 1 [.int .i64 (fc t)] rfl rfl (World.news_of_block (cs := #[.int .i64 (fc t)]) (t := 3) (fr := (0, 0)) (heap_alloc_new w1 _)) (by simp [Value.oneCell']) (by unfold maxLen; omega) (by omega) (by show w.heap.size ≤ (w1.alloc _).heap.size; rw [World.size_alloc]; omega) ?_; intro v2 w2 hown2 hgrow2 _))
        go_roundw
        case rel => exact ⟨t.extract 1 t.size, pre ++ [fc t], rfl, by simp; omega, chars_next HC.out HD.out rfl (by omega), row_snoc hown2, (hbel.trans (hb.mono hsz)).trans (((Below.refl w.heap.size w1).alloc (by omega) _).grown hgrow2 (by show w.heap.size ≤ (w1.alloc _).heap.size; rw [World.size_alloc]; omega) (fun q hq => (HO.out.lt q hq).1))⟩
        case measure => simp [strLen]; omega
      · have HD := hide hh
        have DC := hide (fun W => rfirst_at t 2 (by omega) (by omega) (by rw [hh]; rfl) W)
        have hl2 : 2 ≤ t.size := by omega
        clear hh hl
        go_wp2_with (first | (go_at_call 153; (with_reducible refine (DC.out _).mono ?_); rintro e w1 ⟨rfl, hb⟩; have hz1' := hb.size) | (at_builtin; refine wpList_append_own _ rfl _ _ 37 rfl w.heap.size 3 i0 (.int .i64 0) 1 8 Tryz.underlying37 hi hz0 hz1 hz2 rfl (by decide) _ pre.length (pre.map (Value.int .i64)) rfl ((ownsRow_below HO.out hb).alloc _) ⟨w1.heap.size, 0, none⟩ 1 1 [.int .i64 (fc t)] rfl rfl (World.news_of_block (cs := #[.int .i64 (fc t)]) (t := 3) (fr := (0, 0)) (heap_alloc_new w1 _)) (by simp [Value.oneCell']) (by unfold maxLen; omega) (by omega) (by show w.heap.size ≤ (w1.alloc _).heap.size; rw [World.size_alloc]; omega) ?_; intro v2 w2 hown2 hgrow2 _))
        go_roundw
        case rel => exact ⟨t.extract 2 t.size, pre ++ [fc t], rfl, by simp; omega, chars_next HC.out HD.out rfl (by omega), row_snoc hown2, (hbel.trans (hb.mono hsz)).trans (((Below.refl w.heap.size w1).alloc (by omega) _).grown hgrow2 (by show w.heap.size ≤ (w1.alloc _).heap.size; rw [World.size_alloc]; omega) (fun q hq => (HO.out.lt q hq).1))⟩
        case measure => simp [strLen]; omega
      · have HD := hide hh
        have DC := hide (fun W => rfirst_at t 3 (by omega) (by omega) (by rw [hh]; rfl) W)
        have hl2 : 3 ≤ t.size := by omega
        clear hh hl
        go_wp2_with (first | (go_at_call 153; (with_reducible refine (DC.out _).mono ?_); rintro e w1 ⟨rfl, hb⟩; have hz1' := hb.size) | (at_builtin; refine wpList_append_own _ rfl _ _ 37 rfl w.heap.size 3 i0 (.int .i64 0) 1 8 Tryz.underlying37 hi hz0 hz1 hz2 rfl (by decide) _ pre.length (pre.map (Value.int .i64)) rfl ((ownsRow_below HO.out hb).alloc _) ⟨w1.heap.size, 0, none⟩ 1 1 [.int .i64 (fc t)] rfl rfl (World.news_of_block (cs := #[.int .i64 (fc t)]) (t := 3) (fr := (0, 0)) (heap_alloc_new w1 _)) (by simp [Value.oneCell']) (by unfold maxLen; omega) (by omega) (by show w.heap.size ≤ (w1.alloc _).heap.size; rw [World.size_alloc]; omega) ?_; intro v2 w2 hown2 hgrow2 _))
        go_roundw
        case rel => exact ⟨t.extract 3 t.size, pre ++ [fc t], rfl, by simp; omega, chars_next HC.out HD.out rfl (by omega), row_snoc hown2, (hbel.trans (hb.mono hsz)).trans (((Below.refl w.heap.size w1).alloc (by omega) _).grown hgrow2 (by show w.heap.size ≤ (w1.alloc _).heap.size; rw [World.size_alloc]; omega) (fun q hq => (HO.out.lt q hq).1))⟩
        case measure => simp [strLen]; omega
end Go.Proofs.YtjbhokmkmapkoaaGreatDoor
namespace Go.Proofs.YtjbhokmkmapkoaaGreatDoor
set_option linter.unusedSimpArgs false
set_option linter.unusedVariables false
open Go.RowKit
/-- One element more: it was laid in a new block just before. -/
theorem wpList_append_one {P : Program} (w : World) {ops : Array Oper} {rest : List Oper} {o : Oper} {a : Act} {Q : Exit → Act → World → Prop} (hgd : o.guard = none) (s x : Operand) (t : TypeId)
    (ho : o.op = .call { callee := .builtin .append, args := #[s, x], argTypes := #[t, t] })
    (base : Nat) (e : TypeId) {z : Value} {size bytes : Nat} (hinfo : (P.info? e).map (fun i => (i.zero, i.size, i.bytes)) = some (some z, size, bytes)) (ht : P.underlying t = some (.slice e))
    (hzs : z.cells.size = size) (hsz : 0 < size)
    (v : Value) (n : Nat) (xs : List Value) (hown : w.ownsRow base e size v n xs) (news : Array Value)
    (hs : a.eval s = v) (hx : a.eval x = .slice (some ⟨w.heap.size, 0, none⟩) 1 1) (hl : news.size = size) (h1 : ∀ u ∈ news.toList, u.oneCell' = true)
    (h63 : n + 1 ≤ maxLen) (hbytes : (n + 1) * bytes ≤ 140737488355328) (hbase : base ≤ w.heap.size)
    (h : ∀ v' w', w'.ownsRow base e size v' (n + 1) (xs ++ news.toList) → Below base w w' → (∀ b, b < w.heap.size → v.ownBlock ≠ some b → w'.heap[b]? = w.heap[b]?) → w.heap.size ≤ w'.heap.size → wpList P ops Q rest (a.put o.dst v') w') : wpList P ops Q (o :: rest) a (w.alloc (.cells news e)) := by
  obtain ⟨i, hi, hz0, hz1, hz2⟩ := info_parts hinfo
  refine wpList_append_own _ hgd s x t ho base e i z size bytes ht hi hz0 hz1 hz2 hzs hsz v n xs hs (hown.alloc _) ⟨w.heap.size, 0, none⟩ 1 1 news.toList hx (by simp [hl]) (World.news_of_block (heap_alloc_new w _)) h1 h63 hbytes (by rw [World.size_alloc]; omega) ?_
  intro v' w' hown' hg hn
  have hb1 : Below base w (w.alloc (.cells news e)) := (Below.refl base w).alloc hbase _
  have hb : Below base w w' := hb1.grown hg (by rw [World.size_alloc]; omega) (fun q hq => (hown.lt q hq).1)
  refine h v' w' hown' hb ?_ ?_
  · intro b hlt hne
    rw [hg.block b (by rw [World.size_alloc]; omega) (fun e => hne e.symm)]
    exact Below.heap_alloc w _ b hlt
  · have := hg.size; rw [World.size_alloc] at this; omega
end Go.Proofs.YtjbhokmkmapkoaaGreatDoor
namespace Go.Proofs.YtjbhokmkmapkoaaGreatDoor
set_option linter.unusedSimpArgs false
set_option linter.unusedVariables false
open Go.RowKit
open Go.PlainAid (bt get_bt bt_nonneg bt_le bt_end)
theorem u8Info : (Tryz.prog.info? 5).map (fun i => (i.zero, i.size, i.bytes)) = some (some (.int .u8 0), 1, 1) := by kernel_rfl
/-- A row of the call's own holds some bytes. -/
def RowB (B : Nat) (v : Value) (l : List UInt8) (w : World) : Prop := w.ownsRow B 5 1 v l.length (Lib.byteCells l)
theorem RowB.nil (B : Nat) (w : World) : RowB B (.slice none 0 0) [] w := World.ownsRow_nil _ _ _ _
theorem RowB.below {W w1 : World} {B : Nat} {v : Value} {l : List UInt8} (h : RowB B v l W) (hb : Below W.heap.size W w1) : RowB B v l w1 := ownsRow_below h hb
theorem conv_row {w : World} {B : Nat} {v : Value} {l : List UInt8} (h : RowB B v l w) : (convert 48 9 v).run Tryz.prog w = .ok (.string ⟨l.toArray⟩) w := by
  unfold RowB at h
  rcases Go.Joins.ownsRow_forms h with ⟨rfl, h0⟩ | ⟨g, cap, rfl⟩
  · have : l = [] := List.length_eq_zero_iff.1 h0
    subst this
    exact Lib.run_convert_nil_bytes w _ _ 5 0 Tryz.underlying48 Tryz.underlying5 Tryz.underlying9
  · exact run_convert_bytes_back w _ _ 5 ⟨g, 0, none⟩ cap l Tryz.underlying48 Tryz.underlying5 Tryz.underlying9 (fun j hj => h.cells rfl j _ (by simp [Lib.byteCells, hj]))
/-- A string more. -/
theorem wp_str {w : World} {ops : Array Oper} {rest : List Oper} {o : Oper} {a : Act} {Q : Exit → Act → World → Prop} (hgd : o.guard = none) (sl x : Operand)
    (ho : o.op = .call { callee := .builtin .append, args := #[sl, x], argTypes := #[48, 9] })
    (B : Nat) (v : Value) (l : List UInt8) (hs : a.eval sl = v) (W0 : World) (h : RowB B v l w) (hb : Below B W0 w) (hB : B ≤ w.heap.size) (s : ByteArray) (hx : a.eval x = .string s) (hlen : l.length + s.size ≤ 100000000)
    (hk : ∀ v' w', RowB B v' (l ++ s.data.toList) w' → Below B W0 w' → w.heap.size ≤ w'.heap.size → wpList Tryz.prog ops Q rest (a.put o.dst v') w') : wpList Tryz.prog ops Q (o :: rest) a w := by
  obtain ⟨i0, hi, hz0, hz1, hz2⟩ := info_parts u8Info
  refine Lib.wpList_append_own_string w hgd sl x 48 9 ho B 5 i0 Tryz.underlying48 Tryz.underlying9 hi hz0 hz1 hz2 v l.length (Lib.byteCells l) hs h s hx (by unfold maxLen; omega) (by omega) hB ?_
  intro v' w' ho' hg _
  refine hk v' w' ?_ (hb.grown hg hB (fun k hk => (World.ownsRow.lt h k hk).1)) hg.size
  unfold RowB
  rw [List.length_append, Lib.byteCells_append]
  exact ho'
/-- Two bytes more, laid just before. -/
theorem wp_two {x y : Int} {w : World} {ops : Array Oper} {rest : List Oper} {o : Oper} {a : Act} {Q : Exit → Act → World → Prop} (hgd : o.guard = none) (sl xo : Operand)
    (ho : o.op = .call { callee := .builtin .append, args := #[sl, xo], argTypes := #[48, 48] })
    (B : Nat) (v : Value) (l : List UInt8) (hs : a.eval sl = v) (W0 : World) (h : RowB B v l w) (hb : Below B W0 w) (hB : B ≤ w.heap.size) (p q : UInt8) (ex : x = (p.toNat : Int)) (ey : y = (q.toNat : Int)) (hx : a.eval xo = .slice (some ⟨w.heap.size, 0, none⟩) 2 2) (hlen : l.length ≤ 100000000)
    (hk : ∀ v' w', RowB B v' (l ++ [p, q]) w' → Below B W0 w' → w.heap.size ≤ w'.heap.size → wpList Tryz.prog ops Q rest (a.put o.dst v') w') : wpList Tryz.prog ops Q (o :: rest) a (w.alloc (.cells #[.int .u8 x, .int .u8 y] 5)) := by
  subst ex ey
  obtain ⟨i0, hi, hz0, hz1, hz2⟩ := info_parts u8Info
  have h' : (w.alloc (.cells #[.int .u8 (p.toNat : Int), .int .u8 (q.toNat : Int)] 5)).ownsRow B 5 1 v l.length (Lib.byteCells l) := World.ownsRow.alloc h _
  have hsz : (w.alloc (.cells #[.int .u8 (p.toNat : Int), .int .u8 (q.toNat : Int)] 5)).heap.size = w.heap.size + 1 := World.size_alloc _ _
  refine wpList_append_own _ hgd sl xo 48 ho B 5 i0 (.int .u8 0) 1 1 Tryz.underlying48 hi hz0 hz1 hz2 rfl (by decide) v l.length (Lib.byteCells l) hs h' ⟨w.heap.size, 0, none⟩ 2 2 (Lib.byteCells [p, q]) hx rfl (World.news_of_block (heap_alloc_new w _)) (Lib.byteCells_one _) (by unfold maxLen; omega) (by omega) (by omega) ?_
  intro v' w' ho' hg _
  have hg2 := hg.size
  refine hk v' w' ?_ ((hb.alloc hB _).grown hg (by omega) (fun k hk => (World.ownsRow.lt h k hk).1)) (by omega)
  unfold RowB
  rw [List.length_append, Lib.byteCells_append]
  exact ho'
set_option maxRecDepth 100000 in
set_option maxHeartbeats 4000000 in
theorem rrep_any (s : ByteArray) (n : Int) (hs : s.size ≤ 2) (hn : 0 ≤ n ∧ n ≤ 65536) (w : World) : Calls Tryz.prog 145 #[.string s, .int .i64 n] w fun e w' => e = .returned (.string ⟨(Lib.repeatL s.data.toList n.toNat).toArray⟩) ∧ Below w.heap.size w w' := by
  have hsl : s.data.toList.length = s.size := Array.length_toList
  have HL : Live w [] := trivial
  go_enter Tryz.func145, Tryz.ntmps145
  go_wp2
  go_loopw [5, 6] (fun out i wr => ∃ k : Nat, (k : Int) ≤ n ∧ i = .int .i64 k ∧ RowB w.heap.size out (Lib.repeatL s.data.toList k) wr ∧ Below w.heap.size w wr) (fun _ i _ => n.toNat - (intOf i).toNat)
  case atStart => exact ⟨0, by omega, rfl, RowB.nil _ _, by (exact bl)⟩
  case round =>
    obtain ⟨k, hk, rfl, hrow, hbel⟩ := hrel
    have HR := hide hrow
    clear hrow
    have hsz := hbel.size
    by_cases hlt : (k : Int) < n
    · have hlen : (Lib.repeatL s.data.toList k).length + s.size ≤ 100000000 := by
        rw [Lib.repeatL_length, hsl]
        have := Nat.mul_le_mul (show k ≤ 65536 by omega) hs
        omega
      have e1 : Lib.repeatL s.data.toList (k + 1) = Lib.repeatL s.data.toList k ++ s.data.toList := by rw [Lib.repeatL_add, Lib.repeatL_one]
      have E1 := hide e1
      clear e1
      go_wp2_with (at_builtin; refine wp_str rfl _ _ rfl w.heap.size _ (Lib.repeatL s.data.toList k) rfl w HR.out hbel hsz s rfl hlen ?_; intro v2 w2 hrow2 hbel2 hsz2)
      go_roundw
      case rel => exact ⟨k + 1, by omega, by go_num, by rw [E1.out]; exact hrow2, hbel2⟩
      case measure => simp [intOf]; omega
    · obtain rfl : n = k := by omega
      have cv := conv_row HR.out
      go_wp2
      go_ret
      exact ⟨rfl, hbel⟩
theorem rep_any (s : ByteArray) (n : Int) (h0 : 0 < s.size) (hs : s.size ≤ 2) (hn : 0 ≤ n ∧ n ≤ 65536) (w : World) : Calls Tryz.prog 71 #[.string s, .int .i64 n] w fun e w' => e = .returned (.string ⟨(Lib.repeatL s.data.toList n.toNat).toArray⟩) ∧ Below w.heap.size w w' := by
  obtain ⟨k, rfl⟩ : ∃ k : Nat, n = (k : Int) := ⟨n.toNat, by omega⟩
  rw [Int.toNat_natCast]
  rcases (show k = 0 ∨ k = 1 ∨ 2 ≤ k by omega) with rfl | rfl | h2
  · refine (Any.strings_Repeat_zero Tryz.lays105 s w).mono ?_
    rintro e w' ⟨rfl, rfl⟩
    exact ⟨rfl, Below.refl _ _⟩
  · refine (Any.strings_Repeat_one Tryz.lays105 s w).mono ?_
    rintro e w' ⟨rfl, rfl⟩
    exact ⟨by rw [Lib.repeatL_one], Below.refl _ _⟩
  · refine (Any.strings_Repeat_main Tryz.lays105 Tryz.Builder_Extra_105 s k w h2 (by omega) ?_ h0).mono ?_
    · have := Nat.mul_le_mul hs (show k ≤ 65536 by omega)
      omega
    rintro e w' ⟨rfl, hb⟩
    exact ⟨rfl, hb⟩
theorem rep_one (n : Nat) : Lib.repeatL [32] n = List.replicate n 32 := by
  have := Lib.repeatL_replicate 32 1 n
  rw [Nat.mul_one] at this
  exact this
/-- A string with blanks behind it. -/
def padS (s : ByteArray) (n : Int) : ByteArray := ⟨(fieldS s n.toNat).toArray⟩
theorem pad_cat (s : ByteArray) (n : Int) (h : (s.size : Int) ≤ n) : s ++ (⟨(Lib.repeatL [32] (n - s.size).toNat).toArray⟩ : ByteArray) = padS s n := by
  apply ByteArray.ext
  apply Array.toList_inj.1
  rw [ByteArray.data_append, Array.toList_append]
  show s.data.toList ++ Lib.repeatL [32] (n - s.size).toNat = fieldS s n.toNat
  unfold fieldS
  rw [rep_one]
  have : (n - s.size).toNat = n.toNat - s.size := by omega
  rw [this]
end Go.Proofs.YtjbhokmkmapkoaaGreatDoor
namespace Go.Proofs.YtjbhokmkmapkoaaGreatDoor
set_option linter.unusedSimpArgs false
set_option linter.unusedVariables false
open Go.RowKit
open Go.PlainAid (bt get_bt bt_nonneg bt_le bt_end)
def blk (n : Int) : ByteArray := ⟨(Lib.repeatL [32] n.toNat).toArray⟩
theorem blk_size (n : Int) : (blk n).size = n.toNat := by
  show (Lib.repeatL [32] n.toNat).toArray.size = _
  rw [List.size_toArray, Lib.repeatL_length]; simp
theorem rep_pad (n : Int) (w : World) (hn : 0 ≤ n ∧ n ≤ 65536) : Calls Tryz.prog 71 #[.string ⟨#[32]⟩, .int .i64 n] w fun e w' => e = .returned (.string (blk n)) ∧ Below w.heap.size w w' :=
  rep_any ⟨#[32]⟩ n (by decide) (by decide) hn w
theorem rrep_pad (n : Int) (w : World) (hn : 0 ≤ n ∧ n ≤ 65536) : Calls Tryz.prog 145 #[.string ⟨#[32]⟩, .int .i64 n] w fun e w' => e = .returned (.string (blk n)) ∧ Below w.heap.size w w' :=
  rrep_any ⟨#[32]⟩ n (by decide) hn w
theorem ret_s0 {a b : ByteArray} (h : a = b) : Ending.returned (.tuple #[.string a, .int .i64 0]) = .returned (.tuple #[.string b, .int .i64 0]) := by rw [h]
set_option maxHeartbeats 2000000 in
theorem field_any (s : ByteArray) (n : Int) (h : (s.size : Int) ≤ n ∧ n ≤ 65536) (w : World) : Calls Tryz.prog 30 #[.string s, .int .i64 n] w fun e w' => e = .returned (.tuple #[.string (padS s n), .int .i64 0]) ∧ Below w.heap.size w w' := by
  have PC := hide (show s ++ blk (n - s.size) = padS s n from pad_cat s n h.1)
  have hbz := blk_size (n - s.size)
  have HL : Live w [] := trivial
  go_enter Tryz.func30, Tryz.ntmps30
  go_wp2_with (first | (go_at_call 71; (with_reducible refine (rep_pad _ _ (by omega)).mono ?_); rintro e w' ⟨rfl, hb⟩; have hz := hb.size; (try simp only [SZ, Nat.reduceAdd] at hz); (first | obtain ⟨HL, hk⟩ := HL.callA hb hz | obtain ⟨HL, hk⟩ := HL.call0A hb hz); (try simp only [addN, Nat.add_zero] at HL hk); have hl := HL; simp only [Live] at hl; (try simp only [Kept] at hk)))
  go_ret2
  exact ⟨ret_s0 PC.out, by (exact bl)⟩
set_option maxHeartbeats 2000000 in
theorem rfield_any (s : ByteArray) (n : Int) (h : (s.size : Int) ≤ n ∧ n ≤ 65536) (w : World) : Calls Tryz.prog 98 #[.string s, .int .i64 n] w fun e w' => e = .returned (.tuple #[.string (padS s n), .int .i64 0]) ∧ Below w.heap.size w w' := by
  have PC := hide (show s ++ blk (n - s.size) = padS s n from pad_cat s n h.1)
  have hbz := blk_size (n - s.size)
  have HL : Live w [] := trivial
  go_enter Tryz.func98, Tryz.ntmps98
  go_wp2_with (first | (go_at_call 145; (with_reducible refine (rrep_pad _ _ (by omega)).mono ?_); rintro e w' ⟨rfl, hb⟩; have hz := hb.size; (try simp only [SZ, Nat.reduceAdd] at hz); (first | obtain ⟨HL, hk⟩ := HL.callA hb hz | obtain ⟨HL, hk⟩ := HL.call0A hb hz); (try simp only [addN, Nat.add_zero] at HL hk); have hl := HL; simp only [Live] at hl; (try simp only [Kept] at hk)))
  go_ret2
  exact ⟨ret_s0 PC.out, by (exact bl)⟩
theorem trimK_32 (s : ByteArray) : ∀ k j, trimK s k ≤ j → j < k → bt s j = 32
  | 0, j, _, h => by omega
  | k + 1, j, h1, h2 => by
    unfold trimK at h1
    split at h1
    · rename_i hb
      by_cases e : j = k
      · rw [e]; exact hb
      · exact trimK_32 s k j h1 (by omega)
    · omega
theorem trimK_no (s : ByteArray) : ∀ k, 0 < trimK s k → bt s (trimK s k - 1) ≠ 32
  | 0, h => by unfold trimK at h; omega
  | k + 1, h => by
    unfold trimK at h ⊢
    split
    · rename_i hb
      rw [if_pos hb] at h
      exact trimK_no s k h
    · rename_i hb
      simpa using hb
theorem bt_32 {s : ByteArray} {j : Nat} {b : UInt8} (h : s.data.toList[j]? = some b) : bt s j = b.toNat := by
  rw [lst s]
  exact bt_of h
theorem trim_take (s : ByteArray) : (⟨(Lib.trimRightB s.data.toList 32).toArray⟩ : ByteArray) = trimS s := by
  have hl : s.data.toList.length = s.size := Array.length_toList
  rw [Lib.trimRightB_take s.data.toList 32 (trimK s s.size) (by rw [hl]; exact trimK_le _ _)]
  · unfold trimS
    apply ByteArray.ext
    apply Array.toList_inj.1
    rw [← ByteArray.toList_eq (s.extract _ _), Lib.extract_toList]
    simp
  · intro j b hj hb
    have h1 := bt_32 hb
    have hlt : j < s.size := by rw [← hl]; exact (List.getElem?_eq_some_iff.1 hb).1
    rw [trimK_32 s s.size j hj hlt] at h1
    exact UInt8.toNat_inj.1 (show b.toNat = 32 by omega)
  · intro b h0 hb e
    have h1 := bt_32 hb
    exact trimK_no s s.size h0 (by rw [h1, e]; rfl)
theorem trimR (s : ByteArray) (hs : s.size ≤ 65536) (w : World) : Calls Tryz.prog 110 #[.string s, .string ⟨#[32]⟩] w fun e w' => e = .returned (.string (trimS s)) ∧ w = w' := by
  refine (Any.strings_TrimRight_one Tryz.lays162 s 32 (by decide) w (by omega)).mono ?_
  rintro e w' ⟨rfl, rfl⟩
  exact ⟨by rw [trim_take], rfl⟩
set_option maxHeartbeats 2000000 in
theorem trim_any (s : ByteArray) (hs : s.size ≤ 65536) (w : World) : Calls Tryz.prog 55 #[.string s] w fun e w' => e = .returned (.string (trimS s)) ∧ w = w' := by
  have HL : Live w [] := trivial
  go_enter Tryz.func55, Tryz.ntmps55
  go_wp2_with (first | (go_at_call 110; (with_reducible refine (trimR _ (by omega) _).mono ?_); rintro e w' ⟨rfl, rfl⟩))
  go_ret
  exact ⟨rfl, rfl⟩
theorem ext_ext (s : ByteArray) (k j : Nat) (h : j ≤ k) : (s.extract 0 k).extract 0 j = s.extract 0 j := by
  apply ByteArray.ext
  apply Array.toList_inj.1
  rw [← ByteArray.toList_eq ((s.extract 0 k).extract 0 j), ← ByteArray.toList_eq (s.extract 0 j), Lib.extract_toList, Lib.extract_toList, ← ByteArray.toList_eq (s.extract 0 k), Lib.extract_toList]
  simp [List.take_take, Nat.min_eq_left h]
theorem ext_size (s : ByteArray) (k : Nat) (h : k ≤ s.size) : (s.extract 0 k).size = k := by
  rw [ByteArray.size_extract]; omega
def TRel (s : ByteArray) (v : Value) : Prop := ∃ t : ByteArray, v = .string t ∧ t.size ≤ s.size ∧ t = s.extract 0 t.size ∧ trimK s s.size = trimK s t.size
theorem tgo {s t : ByteArray} (h1 : t.size ≤ s.size) (h2 : t = s.extract 0 t.size) (h3 : trimK s s.size = trimK s t.size) (h0 : 0 < t.size) (hb : bt t (t.size - 1) = 32) : (t.extract 0 (t.size - 1)).size ≤ s.size ∧ t.extract 0 (t.size - 1) = s.extract 0 (t.extract 0 (t.size - 1)).size ∧ trimK s s.size = trimK s (t.extract 0 (t.size - 1)).size := by
  have e := ext_size t (t.size - 1) (by omega)
  rw [e]
  refine ⟨by omega, ?_, ?_⟩
  · exact (show t.extract 0 (t.size - 1) = (s.extract 0 t.size).extract 0 (t.size - 1) from congrArg (fun x : ByteArray => x.extract 0 (t.size - 1)) h2).trans (ext_ext s t.size (t.size - 1) (by omega))
  · rw [h3]
    obtain ⟨k, hk⟩ : ∃ k, t.size = k + 1 := ⟨t.size - 1, by omega⟩
    have hb2 : bt s k = 32 := by
      have := bt_extract s 0 t.size (t.size - 1) h1 (by omega)
      rw [← h2, hb, hk] at this
      simpa using this.symm
    rw [hk]
    show trimK s (k + 1) = trimK s k
    rw [trimK, if_pos hb2]
theorem tend {s t : ByteArray} (h1 : t.size ≤ s.size) (h2 : t = s.extract 0 t.size) (h3 : trimK s s.size = trimK s t.size) (h0 : t.size = 0 ∨ bt t (t.size - 1) ≠ 32) : t = trimS s := by
  unfold trimS
  rw [h3]
  have : trimK s t.size = t.size := by
    rcases h0 with h0 | h0
    · rw [h0]; rfl
    · by_cases hz : t.size = 0
      · rw [hz]; rfl
      obtain ⟨k, hk⟩ : ∃ k, t.size = k + 1 := ⟨t.size - 1, by omega⟩
      have hb2 : bt s k ≠ 32 := by
        have := bt_extract s 0 t.size (t.size - 1) h1 (by omega)
        rw [← h2, hk] at this
        rw [hk] at h0
        intro e
        apply h0
        rw [this]
        simpa using e
      rw [hk, trimK, if_neg hb2]
  rw [this]
  exact h2
set_option maxHeartbeats 4000000 in
theorem rtrim_any (s : ByteArray) (hs : s.size ≤ 65536) (w : World) : Calls Tryz.prog 123 #[.string s] w fun e w' => e = .returned (.string (trimS s)) ∧ w = w' := by
  have hs2 : (s.size : Int) ≤ 65536 := by omega
  have HL : Live w [] := trivial
  go_enter Tryz.func123, Tryz.ntmps123
  go_wp2
  go_loop [0] (fun sv => TRel s sv) (fun sv => strLen sv)
  case atStart => exact ⟨s, rfl, by omega, (Lib.Pa.extract_all s).symm, rfl⟩
  case round =>
    obtain ⟨t, rfl, h1, h2, h3⟩ := hrel
    have H2 := hide h2
    have H3 := hide h3
    clear h2 h3
    by_cases h0 : 0 < t.size
    · by_cases hb : bt t (t.size - 1) = 32
      · have HB := hide hb
        have hbb := get_bt t
        have hq : (bt t (t.size - 1) == 32) = true := by rw [hb]; rfl
        clear hb
        go_wp2
        go_round
        case rel => exact ⟨_, rfl, tgo h1 H2.out H3.out h0 HB.out⟩
        case measure => simp [strLen]; omega
      · have HB := hide hb
        have hbb := get_bt t
        have hq : (bt t (t.size - 1) == 32) = false := by simpa using hb
        clear hb
        go_wp2
        go_ret
        exact ⟨ret_s (tend h1 H2.out H3.out (Or.inr HB.out)), rfl⟩
    · go_wp2
      go_ret
      exact ⟨ret_s (tend h1 H2.out H3.out (Or.inl (by omega))), rfl⟩
end Go.Proofs.YtjbhokmkmapkoaaGreatDoor
namespace Go.Proofs.YtjbhokmkmapkoaaGreatDoor
set_option linter.unusedSimpArgs false
set_option linter.unusedVariables false
open Go.RowKit
open Go.PlainAid (bt get_bt bt_nonneg bt_le bt_end)
theorem charsY (s : ByteArray) (hs : s.size ≤ 65536) (cs : List Int) (hc : charL s = some cs) (w : World) (hT : TabU w) : Calls Tryz.prog 102 #[.string s] w fun e w' => ∃ v, e = .returned (.tuple #[v, .int .i64 0]) ∧ w'.ownsRow w.heap.size 3 1 v cs.length (cs.map (Value.int .i64)) ∧ Below w.heap.size w w' := by
  refine (chars_any s hs w hT).mono ?_
  rintro e w' h
  unfold CharsP at h
  rw [hc] at h
  obtain ⟨⟨v, h1, h2⟩, h3⟩ := h
  exact ⟨v, h1, h2, h3⟩
theorem rcharsY (s : ByteArray) (hs : s.size ≤ 65536) (cs : List Int) (hc : charL s = some cs) (w : World) : Calls Tryz.prog 105 #[.string s] w fun e w' => ∃ v, e = .returned (.tuple #[v, .int .i64 0]) ∧ w'.ownsRow w.heap.size 3 1 v cs.length (cs.map (Value.int .i64)) ∧ Below w.heap.size w w' := by
  refine (rchars_any s hs w).mono ?_
  rintro e w' h
  unfold CharsP at h
  rw [hc] at h
  obtain ⟨⟨v, h1, h2⟩, h3⟩ := h
  exact ⟨v, h1, h2, h3⟩
theorem add_off (g k : Nat) : ((⟨g, 0, none⟩ : Addr).add k) = ⟨g, k, none⟩ := by
  unfold Addr.add
  split
  · rename_i h; subst h; rfl
  · simp
def ucsS (cs : List Int) : ByteArray := ⟨(ucsL cs).toArray⟩
theorem ucs_more {cs : List Int} {k : Nat} (h : k < cs.length) : ucsL (cs.take (k + 1)) = ucsL (cs.take k) ++ [u8 (cs[k] / 256), u8 (cs[k] % 256)] := by
  rw [List.take_succ_eq_append_getElem h, ucsL_snoc]
theorem ch_in {cs : List Int} (h : ∀ c ∈ cs, chB c = true) {k : Nat} (hk : k < cs.length) : 0 ≤ cs[k] ∧ cs[k] ≤ 65535 := by
  have := h _ (List.getElem_mem hk)
  unfold chB at this
  have := of_decide_eq_true this
  omega
set_option maxRecDepth 100000 in
set_option maxHeartbeats 4000000 in
theorem ucs_any (s : ByteArray) (hs : s.size ≤ 65536) (cs : List Int) (hc : charL s = some cs) (w : World) (hT : TabU w) : Calls Tryz.prog 72 #[.string s] w fun e w' => e = .returned (.tuple #[.string (ucsS cs), .int .i64 0]) ∧ Below w.heap.size w w' := by
  obtain ⟨i0, hi, hz0, hz1, hz2⟩ := info_parts u8Info
  have hct := charL_text s.size s cs (Nat.le_refl _) hc
  have hcl := hct.2.2
  have HB := hide hct.2.1
  have CY := hide (charsY s hs cs hc)
  clear hct hc
  have HL : Live w [] := trivial
  go_enter Tryz.func72, Tryz.ntmps72
  go_wp2_with (first | (go_at_call 102; (with_reducible refine (CY.out _ hT).mono ?_); rintro e w1 ⟨v, rfl, hrow, hb⟩; have hsz := hb.size; (rcases Go.Joins.ownsRow_forms hrow with ⟨rfl, h0⟩ | ⟨g, cap, rfl⟩)) | (at_make; refine wpList_make_own _ rfl _ _ 48 rfl w1.heap.size 5 i0 (.int .u8 0) 1 Tryz.underlying48 hi hz0 hz1 .i64 .i64 _ (2 * cs.length) rfl rfl (by first | rfl | omega) (by rw [hz2]; omega) (by unfold maxLen; omega) (Nat.le_refl _) ?_; intro w2 hown2 hgrow2) | (at_make; refine wpList_make_own _ rfl _ _ 48 rfl w1.heap.size 5 i0 (.int .u8 0) 1 Tryz.underlying48 hi hz0 hz1 .i64 .i64 _ 0 rfl rfl (by first | rfl | omega) (by rw [hz2]; omega) (by unfold maxLen; omega) (Nat.le_refl _) ?_; intro w2 hown2 hgrow2))
  · refine wp_loop_rounds 1 ?_
    rw [rounds_succ]
    have hr0 : RowB w1.heap.size (.slice (some ⟨w1.heap.size, 0, none⟩) 0 0) [] w2 := by rw [show 2 * cs.length = 0 by omega] at hown2; exact hown2
    have cv := conv_row hr0
    have hcs : cs = [] := List.length_eq_zero_iff.1 h0
    have e0 : ucsS [] = ⟨#[]⟩ := rfl
    have E0 := hide e0
    subst hcs
    clear e0
    go_wp2
    go_ret2
    exact ⟨ret_s0 E0.out.symm, hb.trans (((Below.refl _ _).grown hgrow2 (Nat.le_refl _) (fun k h => by cases h)).mono hsz)⟩
  · have hb2 : Below w1.heap.size w1 w2 := (Below.refl _ _).grown hgrow2 (Nat.le_refl _) (fun k h => by cases h)
    have hr0 : RowB w1.heap.size (.slice (some ⟨w1.heap.size, 0, none⟩) 0 (2 * cs.length)) [] w2 := hown2
    go_loopw [6, 23] (fun out i wr => ∃ k : Nat, k ≤ cs.length ∧ i = .int .i64 k ∧ RowB w1.heap.size out (ucsL (cs.take k)) wr ∧ Below w1.heap.size w1 wr) (fun _ i _ => cs.length - (intOf i).toNat)
    case atStart => exact ⟨0, by omega, rfl, hr0, hb2⟩
    case round =>
      obtain ⟨k, hk, rfl, hr, hbr⟩ := hrel
      have HR := hide hr
      clear hr hr0 hown2 hgrow2
      have hszr := hbr.size
      by_cases hlt : k < cs.length
      · have hcr := ownsRow_below hrow hbr
        have hcell : wr.cell? ⟨g, k, none⟩ = some (.int .i64 (cs[k]'hlt)) := by
          have := hcr.cells rfl k (.int .i64 (cs[k]'hlt)) (by simp [hlt])
          rw [add_off] at this; exact this
        have hci := ch_in HB.out hlt
        have E1 := hide (ucs_more hlt)
        generalize hcc : cs[k]'hlt = c at *
        have hl : (ucsL (cs.take k)).length ≤ 100000000 := by rw [ucsL_len, List.length_take]; omega
        go_wp2_with (at_builtin; (refine wp_two rfl _ _ rfl w1.heap.size _ (ucsL (cs.take k)) rfl w1 HR.out hbr hszr (Go.Proofs.YtjbhokmkmapkoaaGreatDoor.u8 (c / 256)) (Go.Proofs.YtjbhokmkmapkoaaGreatDoor.u8 (c % 256)) (u8_nat (v := c / 256) (by omega)).symm (u8_nat (v := c % 256) (by omega)).symm rfl hl ?_); intro v2 w3 hrow3 hbel3 hsz3)
        go_roundw
        case rel => exact ⟨k + 1, by omega, by go_num, by rw [E1.out]; exact hrow3, hbel3⟩
        case measure => simp [intOf]; omega
      · obtain rfl : k = cs.length := by omega
        have cv := conv_row HR.out
        have e1 : cs.take cs.length = cs := List.take_length
        go_wp2
        go_ret2
        exact ⟨ret_s0 rfl, hb.trans (hbr.mono hsz)⟩
end Go.Proofs.YtjbhokmkmapkoaaGreatDoor
namespace Go.Proofs.YtjbhokmkmapkoaaGreatDoor
set_option linter.unusedSimpArgs false
set_option linter.unusedVariables false
open Go.RowKit
open Go.PlainAid (bt get_bt bt_nonneg bt_le bt_end)
/-- Two bytes more, at a step of a region that draws its order. -/
theorem step_two {x y : Int} {w : World} {ops : Array Oper} {o : Oper} {a : Act} {K : Act → World → Prop} {Q : Exit → Act → World → Prop} {E : Prop} (hgd : o.guard = none) (sl xo : Operand)
    (ho : o.op = .call { callee := .builtin .append, args := #[sl, xo], argTypes := #[48, 48] })
    (B : Nat) (v : Value) (l : List UInt8) (hs : a.eval sl = v) (W0 : World) (h : RowB B v l w) (hb : Below B W0 w) (hB : B ≤ w.heap.size) (p q : UInt8) (ex : x = (p.toNat : Int)) (ey : y = (q.toNat : Int)) (hx : a.eval xo = .slice (some ⟨w.heap.size, 0, none⟩) 2 2) (hlen : l.length ≤ 100000000)
    (hk : ∀ v' w', RowB B v' (l ++ [p, q]) w' → Below B W0 w' → w.heap.size ≤ w'.heap.size → K (a.put o.dst v') w') :
    if Region.wanted o (yielded ops a.tmps) = true then Oper.wp Tryz.prog o a (w.alloc (.cells #[.int .u8 x, .int .u8 y] 5)) K Q else E := by
  subst ex ey
  obtain ⟨i0, hi, hz0, hz1, hz2⟩ := info_parts u8Info
  have hw : Region.wanted o (yielded ops a.tmps) = true := by simp [Region.wanted, hgd]
  rw [if_pos hw]
  have h' : (w.alloc (.cells #[.int .u8 (p.toNat : Int), .int .u8 (q.toNat : Int)] 5)).ownsRow B 5 1 v l.length (Lib.byteCells l) := World.ownsRow.alloc h _
  have hsz : (w.alloc (.cells #[.int .u8 (p.toNat : Int), .int .u8 (q.toNat : Int)] 5)).heap.size = w.heap.size + 1 := World.size_alloc _ _
  refine wp_append_own _ sl xo 48 ho B 5 i0 (.int .u8 0) 1 1 Tryz.underlying48 hi hz0 hz1 hz2 rfl (by decide) v l.length (Lib.byteCells l) hs h' ⟨w.heap.size, 0, none⟩ 2 2 (Lib.byteCells [p, q]) hx rfl (World.news_of_block (heap_alloc_new w _)) (Lib.byteCells_one _) (by unfold maxLen; omega) (by omega) (by omega) ?_
  intro v' w' ho' hg _
  have hg2 := hg.size
  refine hk v' w' ?_ ((hb.alloc hB _).grown hg (by omega) (fun k hk => (World.ownsRow.lt h k hk).1)) (by omega)
  unfold RowB
  rw [List.length_append, Lib.byteCells_append]
  exact ho'
theorem RowB.drew {B : Nat} {v : Value} {l : List UInt8} {w : World} (h : RowB B v l w) : RowB B v l w.drew := World.ownsRow.drew h
set_option maxRecDepth 100000 in
set_option maxHeartbeats 4000000 in
theorem rucs_any (s : ByteArray) (hs : s.size ≤ 65536) (cs : List Int) (hc : charL s = some cs) (w : World) : Calls Tryz.prog 146 #[.string s] w fun e w' => e = .returned (.tuple #[.string (ucsS cs), .int .i64 0]) ∧ Below w.heap.size w w' := by
  have hct := charL_text s.size s cs (Nat.le_refl _) hc
  have hcl := hct.2.2
  have HB := hide hct.2.1
  have CY := hide (rcharsY s hs cs hc)
  clear hct hc
  have HL : Live w [] := trivial
  go_enter Tryz.func146, Tryz.ntmps146
  go_wp2_with (go_at_call 105; (with_reducible refine (CY.out _).mono ?_); rintro e w1 ⟨v, rfl, hrow, hb⟩; have hsz := hb.size; (rcases Go.Joins.ownsRow_forms hrow with ⟨rfl, h0⟩ | ⟨g, cap, rfl⟩))
  · refine wp_loop_rounds 1 ?_
    rw [rounds_succ]
    have hcs : cs = [] := List.length_eq_zero_iff.1 h0
    have e0 : ucsS [] = ⟨#[]⟩ := rfl
    have E0 := hide e0
    subst hcs
    clear e0
    have cv := conv_row (RowB.nil w1.heap.size w1)
    go_wp2
    go_ret2
    exact ⟨ret_s0 E0.out.symm, hb⟩
  · go_loopw [6, 7] (fun out i wr => ∃ k : Nat, k ≤ cs.length ∧ i = .int .i64 k ∧ RowB w1.heap.size out (ucsL (cs.take k)) wr ∧ Below w1.heap.size w1 wr) (fun _ i _ => cs.length - (intOf i).toNat)
    case atStart => exact ⟨0, by omega, rfl, RowB.nil _ _, by (exact bl)⟩
    case round =>
      obtain ⟨k, hk, rfl, hr, hbr⟩ := hrel
      have HR := hide hr
      clear hr
      have hszr := hbr.size
      by_cases hlt : k < cs.length
      · have hcr := ownsRow_below hrow hbr
        have hcell : wr.cell? ⟨g, k, none⟩ = some (.int .i64 (cs[k]'hlt)) := by
          have := hcr.cells rfl k (.int .i64 (cs[k]'hlt)) (by simp [hlt])
          rw [add_off] at this; exact this
        have hci := ch_in HB.out hlt
        have E1 := hide (ucs_more hlt)
        have hc1 : w1.cell? ⟨g, k, none⟩ = some (.int .i64 (cs[k]'hlt)) := by
          have := hrow.cells rfl k (.int .i64 (cs[k]'hlt)) (by simp [hlt])
          rw [add_off] at this; exact this
        have hgl : g < w1.heap.size := cell_lt hc1
        have hgr : g < wr.heap.size := by omega
        generalize hcc : cs[k]'hlt = c at *
        have hl : (ucsL (cs.take k)).length ≤ 100000000 := by rw [ucsL_len, List.length_take]; omega
        have U1 := hide (u8_nat (v := c / 256) (by omega)).symm
        have U2 := hide (u8_nat (v := c % 256) (by omega)).symm
        go_upto_region 8 with fail
        have t1 : c.tdiv 256 = c / 256 := Int.tdiv_eq_ediv_of_nonneg hci.1
        have t2 : c.tmod 256 = c % 256 := Int.tmod_eq_emod_of_nonneg hci.1
        have wq : IntKind.i64.wrap (c / 256) = c / 256 := IntWalk.i64_in _ (by omega)
        have wr2 : IntKind.i64.wrap (c % 256) = c % 256 := IntWalk.i64_in _ (by omega)
        have wq8 : IntKind.u8.wrap (c / 256) = c / 256 := IntWalk.u8_in _ (by omega)
        have wr8 : IntKind.u8.wrap (c % 256) = c % 256 := IntWalk.u8_in _ (by omega)
        refine wp_region_noPanic ?_
        refine wp_region_held_drew (S := (fun x => x.cell? ⟨g, k, none⟩ = some (.int .i64 c) ∧ True)) (by kernel_rfl) kp (fun hHeld => ?_)
        refine tkY 0 ⟨some 22, .move (.tmp 6), 48, "ref.go:164", #[], none⟩ ?_ ?_ ?_
        rotate_left
        · intro w hSw; (try dsimp only at hSw); go_simp; (try with_reducible rfl)
        try simp only [PT]
        refine tkY 1 ⟨some 23, .move (.tmp 4), 37, "ref.go:164", #[], none⟩ ?_ ?_ ?_
        rotate_left
        · intro w hSw; (try dsimp only at hSw); go_simp; (try with_reducible rfl)
        try simp only [PT]
        refine tkY 2 ⟨some 24, .move (.tmp 7), 3, "ref.go:164", #[], none⟩ ?_ ?_ ?_
        rotate_left
        · intro w hSw; (try dsimp only at hSw); go_simp; (try with_reducible rfl)
        try simp only [PT]
        refine tkY 3 ⟨some 25, .indexAddr 37 (.tmp 23) (.tmp 24), 0, "ref.go:164", #[⟨1, .data⟩, ⟨2, .data⟩], none⟩ ?_ ?_ ?_
        rotate_left
        · intro w hSw; (try dsimp only at hSw); go_simp; (try with_reducible rfl)
        try simp only [PT]
        refine tkY 4 ⟨some 26, .load 3 (.tmp 25), 3, "ref.go:164", #[⟨3, .data⟩], none⟩ ?_ ?_ ?_
        rotate_left
        · intro w hSw; (try dsimp only at hSw); go_simp; (try with_reducible rfl)
        try simp only [PT]
        refine tkY 5 ⟨some 27, .binOp .quo 3 (.tmp 26) (.const (.int .i64 256)) 3, 3, "ref.go:164", #[⟨4, .data⟩], none⟩ ?_ ?_ ?_
        rotate_left
        · intro w hSw; (try dsimp only at hSw); go_simp; (try with_reducible rfl)
        try simp only [PT]
        refine tkY 6 ⟨some 28, .convert 3 5 (.tmp 27), 5, "ref.go:164", #[⟨5, .data⟩], none⟩ ?_ ?_ ?_
        rotate_left
        · intro w hSw; (try dsimp only at hSw); go_simp; (try with_reducible rfl)
        try simp only [PT]
        refine tkY 7 ⟨some 29, .move (.tmp 4), 37, "ref.go:164", #[], none⟩ ?_ ?_ ?_
        rotate_left
        · intro w hSw; (try dsimp only at hSw); go_simp; (try with_reducible rfl)
        try simp only [PT]
        refine tkY 8 ⟨some 30, .move (.tmp 7), 3, "ref.go:164", #[], none⟩ ?_ ?_ ?_
        rotate_left
        · intro w hSw; (try dsimp only at hSw); go_simp; (try with_reducible rfl)
        try simp only [PT]
        refine tkY 9 ⟨some 31, .indexAddr 37 (.tmp 29) (.tmp 30), 0, "ref.go:164", #[⟨7, .data⟩, ⟨8, .data⟩], none⟩ ?_ ?_ ?_
        rotate_left
        · intro w hSw; (try dsimp only at hSw); go_simp; (try with_reducible rfl)
        try simp only [PT]
        refine tkY 10 ⟨some 32, .load 3 (.tmp 31), 3, "ref.go:164", #[⟨9, .data⟩], none⟩ ?_ ?_ ?_
        rotate_left
        · intro w hSw; (try dsimp only at hSw); go_simp; (try with_reducible rfl)
        try simp only [PT]
        refine tkY 11 ⟨some 33, .binOp .rem 3 (.tmp 32) (.const (.int .i64 256)) 3, 3, "ref.go:164", #[⟨10, .data⟩], none⟩ ?_ ?_ ?_
        rotate_left
        · intro w hSw; (try dsimp only at hSw); go_simp; (try with_reducible rfl)
        try simp only [PT]
        refine tkY 12 ⟨some 34, .convert 3 5 (.tmp 33), 5, "ref.go:164", #[⟨11, .data⟩], none⟩ ?_ ?_ ?_
        rotate_left
        · intro w hSw; (try dsimp only at hSw); go_simp; (try with_reducible rfl)
        try simp only [PT]
        refine wpAnyH_ready (rs := [13]) (by kernel_rfl) (by simp) ?_
        refine AllReadyH.cons (o := ⟨some 35, .buildSlice 48 2 #[(0, .tmp 28), (1, .tmp 34)], 48, "ref.go:164", #[⟨6, .data⟩, ⟨12, .data⟩], none⟩) rfl (fun K hK => ?_) AllReadyH.nil
        go_simp
        refine hK.out _ _ kp (fun hHeld => ?_)
        clear hK K
        try simp only [PT]
        refine wpAnyH_ready (rs := [14]) (by kernel_rfl) (by simp) ?_
        refine AllReadyH.cons (o := ⟨some 36, .call ⟨.builtin .append, #[.tmp 22, .tmp 35], #[48, 48]⟩, 48, "ref.go:164", #[⟨0, .data⟩, ⟨13, .data⟩], none⟩) rfl (fun K hK => ?_) AllReadyH.nil
        refine step_two (by rfl) _ _ (by rfl) w1.heap.size _ (ucsL (cs.take k)) (by rfl) w1 HR.out.drew hbr.drew hszr (Go.Proofs.YtjbhokmkmapkoaaGreatDoor.u8 (c / 256)) (Go.Proofs.YtjbhokmkmapkoaaGreatDoor.u8 (c % 256)) U1.out U2.out (by rfl) hl ?_; intro v2 w3 hrow3 hbel3 hsz3; have hc3 : w3.cell? ⟨g, k, none⟩ = some (.int .i64 c) := by rw [hbel3.cell (p := ⟨g, k, none⟩) hgl]; exact hc1
        refine hK.out _ _ kp (fun hHeld => ?_)
        clear hK K
        try simp only [PT]
        refine tkY 15 ⟨some 6, .assign (.tmp 36), 48, "ref.go:164", #[⟨14, .data⟩, ⟨14, .chain⟩, ⟨0, .phase⟩, ⟨1, .phase⟩, ⟨2, .phase⟩, ⟨3, .phase⟩, ⟨4, .phase⟩, ⟨5, .phase⟩, ⟨6, .phase⟩, ⟨7, .phase⟩, ⟨8, .phase⟩, ⟨9, .phase⟩, ⟨10, .phase⟩, ⟨11, .phase⟩, ⟨12, .phase⟩, ⟨13, .phase⟩, ⟨14, .phase⟩], none⟩ ?_ ?_ ?_
        rotate_left
        · intro w hSw; (try dsimp only at hSw); go_simp; (try with_reducible rfl)
        try simp only [PT]
        refine wpAnyH_done (by kernel_rfl) ?_ _
        refine NoPanic.normal ?_
        go_wp2
        go_roundw
        case rel => exact ⟨k + 1, by omega, by go_num, by rw [E1.out]; exact hrow3, hbel3⟩
        case measure => simp [intOf]; omega
      · obtain rfl : k = cs.length := by omega
        have cv := conv_row HR.out
        go_wp2
        go_ret2
        exact ⟨ret_s0 rfl, hb.trans (hbr.mono hsz)⟩
end Go.Proofs.YtjbhokmkmapkoaaGreatDoor
