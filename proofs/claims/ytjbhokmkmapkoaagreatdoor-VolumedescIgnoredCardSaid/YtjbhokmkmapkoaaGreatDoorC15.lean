/- Contracts and plain words for the laws of volume descriptors, part 15: F5, Shelf, Shelf2, U, F6, F7. No condition. -/
import Derived.Test.YtjbhokmkmapkoaaGreatDoorC14
import Derived.Test.YtjbhokmkmapkoaaGreatDoorC13
import Derived.Shelf.Strings.Builder1
import Derived.Test.YtjbhokmkmapkoaaGreatDoorProg
import Derived.Shelf.Strings.BuilderRune
import Derived.Shelf.Strings.BuilderK
import Derived.Lib.FrozenHead2
import Derived.Test.YtjbhokmkmapkoaaGreatDoorC5
namespace Go.Proofs.YtjbhokmkmapkoaaGreatDoor
set_option linter.unusedSimpArgs false
set_option linter.unusedVariables false
open Go.RowKit
open Go.PlainAid (bt get_bt bt_nonneg bt_le bt_end)
/-- A string and an error. -/
def fromP (r : List UInt8 × Int) (w : World) (e : Ending) (w' : World) : Prop := e = .returned (.tuple #[.string ⟨r.1.toArray⟩, .int .i64 r.2]) ∧ Below w.heap.size w w'
theorem fromP.mk {r : List UInt8 × Int} {l : List UInt8} {x : Int} {w : World} {e : Ending} {w' : World} (h : r = (l, x)) (he : e = .returned (.tuple #[.string ⟨l.toArray⟩, .int .i64 x])) (hb : Below w.heap.size w w') : fromP r w e w' := by
  subst h; exact ⟨he, hb⟩
theorem encL_len (n : Int) : (encL n).length ≤ 3 := by unfold encL; split <;> (try split) <;> simp
theorem encS_size (n : Int) : (encS n).size ≤ 3 := encL_len n
theorem fromU_odd {s : ByteArray} (h : s.size % 2 = 1) : fromU s = ([], 3) := by unfold fromU; rw [if_pos h]
theorem fromU_even {s : ByteArray} (h : ¬ s.size % 2 = 1) : fromU s = unuF s 0 [] := by unfold fromU; rw [if_neg h]; rfl
set_option maxRecDepth 100000 in
set_option maxHeartbeats 4000000 in
theorem rfrom_any (s : ByteArray) (hs : s.size ≤ 65536) (w : World) : Calls Tryz.prog 166 #[.string s] w (fromP (fromU s) w) := by
  have hs2 : (s.size : Int) ≤ 65536 := by omega
  by_cases hodd : s.size % 2 = 1
  · have FO := hide (fromU_odd hodd)
    have ho2 : ((s.size : Int) % 2 == 1) = true := by
      rw [beq_iff_eq]; omega
    clear hodd
    have HL : Live w [] := trivial
    go_enter Tryz.func166, Tryz.ntmps166
    go_wp2
    go_ret2
    exact fromP.mk FO.out rfl (by (exact bl))
  · have FE := hide (fromU_even hodd)
    have hev : s.size % 2 = 0 := by omega
    have ho2 : ((s.size : Int) % 2 == 1) = false := by
      rw [beq_eq_false_iff_ne]; omega
    clear hodd
    have HL : Live w [] := trivial
    go_enter Tryz.func166, Tryz.ntmps166
    go_wp2
    go_loopw [4, 5] (fun out i wr => ∃ (p : Nat) (l : List UInt8), p ≤ s.size ∧ p % 2 = 0 ∧ i = .int .i64 p ∧ l.length ≤ 2 * p ∧ unuF s 0 [] = unuF s p l ∧ RowB w.heap.size out l wr ∧ Below w.heap.size w wr) (fun _ i _ => s.size - (intOf i).toNat)
    case atStart => exact ⟨0, [], by omega, rfl, rfl, by simp, rfl, RowB.nil _ _, by (exact bl)⟩
    case round =>
      obtain ⟨p, l, hp, hp2, rfl, hl, hu, hr, hbr⟩ := hrel
      have HR := hide hr
      have HU := hide hu
      clear hr hu
      have hszr := hbr.size
      have HL : Live wr [] := trivial
      by_cases hlt : p < s.size
      · have a0 := bt_nonneg s p
        have a1 := bt_le s p
        have b0 := bt_nonneg s (p + 1)
        have b1 := bt_le s (p + 1)
        have hg := get_bt s
        obtain ⟨c, hcc⟩ : ∃ c, c = bt s p * 256 + bt s (p + 1) := ⟨_, rfl⟩
        have hc0 : 0 ≤ c ∧ c ≤ 65535 := by omega
        have j1 : (p : Int) < (s.size : Int) := by omega
        have j2 : (p : Int) + 1 < (s.size : Int) := by omega
        have j0 : (0 : Int) ≤ (p : Int) + 1 := by omega
        have j3 : p + 1 < s.size := by omega
        go_upto_region 9 with fail
        have wp1 : IntKind.i64.wrap ((p : Int) + 1) = (p : Int) + 1 := IntWalk.i64_in _ (by omega)
        have wm : IntKind.i64.wrap (bt s p * 256) = bt s p * 256 := IntWalk.i64_in _ (by omega)
        have wa : IntKind.i64.wrap (bt s p * 256 + bt s (p + 1)) = bt s p * 256 + bt s (p + 1) := IntWalk.i64_in _ (by omega)
        have wi : IntKind.i64.wrap (bt s p) = bt s p := IntWalk.i64_in _ (by omega)
        have wj : IntKind.i64.wrap (bt s (p + 1)) = bt s (p + 1) := IntWalk.i64_in _ (by omega)
        refine wp_region_noPanic ?_
        refine wp_region_held_drew (S := (fun _ => True ∧ True)) (by kernel_rfl) kp (fun hHeld => ?_)
        refine tkY 0 ⟨some 20, .move (.tmp 0), 9, "ref.go:179", #[], none⟩ ?_ ?_ ?_
        rotate_left
        · intro w hSw; (try dsimp only at hSw); go_simp; (try with_reducible rfl)
        try simp only [PT]
        refine tkY 1 ⟨some 21, .move (.tmp 5), 3, "ref.go:179", #[], none⟩ ?_ ?_ ?_
        rotate_left
        · intro w hSw; (try dsimp only at hSw); go_simp; (try with_reducible rfl)
        try simp only [PT]
        refine tkY 2 ⟨some 22, .index 9 (.tmp 20) (.tmp 21), 5, "ref.go:179", #[⟨0, .data⟩, ⟨1, .data⟩], none⟩ ?_ ?_ ?_
        rotate_left
        · intro w hSw; (try dsimp only at hSw); go_simp; (try with_reducible rfl)
        try simp only [PT]
        refine tkY 3 ⟨some 23, .convert 5 3 (.tmp 22), 3, "ref.go:179", #[⟨2, .data⟩], none⟩ ?_ ?_ ?_
        rotate_left
        · intro w hSw; (try dsimp only at hSw); go_simp; (try with_reducible rfl)
        try simp only [PT]
        refine tkY 4 ⟨some 24, .binOp .mul 3 (.tmp 23) (.const (.int .i64 256)) 3, 3, "ref.go:179", #[⟨3, .data⟩], none⟩ ?_ ?_ ?_
        rotate_left
        · intro w hSw; (try dsimp only at hSw); go_simp; (try with_reducible rfl)
        try simp only [PT]
        refine tkY 5 ⟨some 25, .move (.tmp 0), 9, "ref.go:179", #[], none⟩ ?_ ?_ ?_
        rotate_left
        · intro w hSw; (try dsimp only at hSw); go_simp; (try with_reducible rfl)
        try simp only [PT]
        refine tkY 6 ⟨some 26, .move (.tmp 5), 3, "ref.go:179", #[], none⟩ ?_ ?_ ?_
        rotate_left
        · intro w hSw; (try dsimp only at hSw); go_simp; (try with_reducible rfl)
        try simp only [PT]
        refine tkY 7 ⟨some 27, .binOp .add 3 (.tmp 26) (.const (.int .i64 1)) 3, 3, "ref.go:179", #[⟨6, .data⟩], none⟩ ?_ ?_ ?_
        rotate_left
        · intro w hSw; (try dsimp only at hSw); go_simp; (try with_reducible rfl)
        try simp only [PT]
        refine tkY 8 ⟨some 28, .index 9 (.tmp 25) (.tmp 27), 5, "ref.go:179", #[⟨5, .data⟩, ⟨7, .data⟩], none⟩ ?_ ?_ ?_
        rotate_left
        · intro w hSw; (try dsimp only at hSw); go_simp; (try with_reducible rfl)
        try simp only [PT]
        refine tkY 9 ⟨some 29, .convert 5 3 (.tmp 28), 3, "ref.go:179", #[⟨8, .data⟩], none⟩ ?_ ?_ ?_
        rotate_left
        · intro w hSw; (try dsimp only at hSw); go_simp; (try with_reducible rfl)
        try simp only [PT]
        refine tkY 10 ⟨some 30, .binOp .add 3 (.tmp 24) (.tmp 29) 3, 3, "ref.go:179", #[⟨4, .data⟩, ⟨9, .data⟩], none⟩ ?_ ?_ ?_
        rotate_left
        · intro w hSw; (try dsimp only at hSw); go_simp; (try with_reducible rfl)
        try simp only [PT]
        refine tkY 11 ⟨some 6, .assign (.tmp 30), 3, "ref.go:179", #[⟨10, .data⟩, ⟨0, .phase⟩, ⟨1, .phase⟩, ⟨2, .phase⟩, ⟨3, .phase⟩, ⟨4, .phase⟩, ⟨5, .phase⟩, ⟨6, .phase⟩, ⟨7, .phase⟩, ⟨8, .phase⟩, ⟨9, .phase⟩, ⟨10, .phase⟩], none⟩ ?_ ?_ ?_
        rotate_left
        · intro w hSw; (try dsimp only at hSw); go_simp; (try with_reducible rfl)
        try simp only [PT]
        refine wpAnyH_done (by kernel_rfl) ?_ _
        refine NoPanic.normal ?_
        rw [← hcc]
        cases hch : chB c
        case false =>
          have HX := hide (unuF_bad (out := l) hlt (show chB (bt s p * 256 + bt s (p + 1)) = false by rw [← hcc]; exact hch))
          clear hcc
          go_wp2_with (first | (go_at_call 178; (with_reducible refine (rchar_any _ _).mono ?_); rintro e w' ⟨rfl, rfl⟩))
          go_ret2
          exact fromP.mk (by rw [FE.out, HU.out, HX.out]) rfl (by (exact bl))
        case true =>
          have HX := hide (unuF_go (out := l) hlt (show chB (bt s p * 256 + bt s (p + 1)) = true by rw [← hcc]; exact hch))
          rw [← hcc] at HX
          have hes := encS_size c
          have hll : l.length + (encS c).size ≤ 100000000 := by omega
          have hel := encL_len c
          clear hcc
          go_wp2_with (first | (go_at_call 178; (with_reducible refine (rchar_any _ _).mono ?_); rintro e w' ⟨rfl, rfl⟩) | (go_at_call 179; (with_reducible refine (rencode_any _ (by omega) _).mono ?_); rintro e w' ⟨rfl, hb⟩; have hz := hb.size; (try simp only [SZ, Nat.reduceAdd] at hz); (first | obtain ⟨HL, hk⟩ := HL.callA hb hz | obtain ⟨HL, hk⟩ := HL.call0A hb hz); (try simp only [addN, Nat.add_zero] at HL hk); have hl := HL; simp only [Live] at hl; (try simp only [Kept] at hk)) | (at_builtin; refine wp_str rfl _ _ rfl w.heap.size _ l rfl w (RowB.below HR.out.drew hb) (hbr.drew.trans (hb.mono hszr)) (by omega) (encS c) rfl hll ?_; intro v2 w3 hrow3 hbel3 hsz3))
          go_roundw
          case rel => exact ⟨p + 2, l ++ encL c, by omega, by omega, by go_num, by rw [List.length_append]; omega, by rw [HU.out, HX.out], hrow3, hbel3⟩
          case measure => simp [intOf]; omega
      · obtain rfl : p = s.size := by omega
        have cv := conv_row HR.out
        go_wp2
        go_ret2
        exact fromP.mk (by rw [FE.out, HU.out, unuF_end (Nat.le_refl _)]) rfl hbr
end Go.Proofs.YtjbhokmkmapkoaaGreatDoor
namespace Go.Proofs
set_option linter.unusedSimpArgs false
set_option linter.unusedVariables false
open Go.Shelf
def Tryz.lays166_ren : Go.Shelf.Ren := ⟨fun | 166 => 79 | 240 => 137 | 276 => 173 | n => n, fun | 0 => 0 | 3 => 3 | 4 => 4 | 9 => 9 | 20 => 20 | 37 => 48 | 70 => 99 | 72 => 101 | 75 => 103 | 164 => 161 | 5 => 5 | 80 => 67 | n => n, fun | n => n⟩
theorem Tryz.lays166 : Go.Proofs.Lays.n166 Tryz.prog Tryz.lays166_ren := {
  mixed := by kernel_rfl
  f166 := Tryz.func79.trans (congrArg some (by kernel_rfl))
  f240 := Tryz.func137.trans (congrArg some (by kernel_rfl))
  f276 := Tryz.func173.trans (congrArg some (by kernel_rfl))
  t0 := Tryz.underlying0
  a0 := Tryz.isAgg0
  z0 := Tryz.sizeOf0
  v0 := Tryz.zeroValue0
  t3 := Tryz.underlying3
  a3 := Tryz.isAgg3
  z3 := Tryz.sizeOf3
  v3 := Tryz.zeroValue3
  t4 := Tryz.underlying4
  a4 := Tryz.isAgg4
  z4 := Tryz.sizeOf4
  v4 := Tryz.zeroValue4
  t9 := Tryz.underlying9
  a9 := Tryz.isAgg9
  z9 := Tryz.sizeOf9
  v9 := Tryz.zeroValue9
  t20 := Tryz.underlying20
  a20 := Tryz.isAgg20
  z20 := Tryz.sizeOf20
  v20 := Tryz.zeroValue20
  t37 := Tryz.underlying48
  a37 := Tryz.isAgg48
  z37 := Tryz.sizeOf48
  v37 := Tryz.zeroValue48
  t70 := Tryz.underlying99
  a70 := Tryz.isAgg99
  z70 := Tryz.sizeOf99
  v70 := Tryz.zeroValue99
  t72 := Tryz.underlying101
  a72 := Tryz.isAgg101
  z72 := Tryz.sizeOf101
  v72 := Tryz.zeroValue101
  t75 := Tryz.underlying103
  a75 := Tryz.isAgg103
  z75 := Tryz.sizeOf103
  v75 := Tryz.zeroValue103
  t164 := Tryz.underlying161
  a164 := Tryz.isAgg161
  z164 := Tryz.sizeOf161
  v164 := Tryz.zeroValue161 }
theorem Tryz.Builder_Extra_166 : Builder.Extra Tryz.prog Tryz.lays166_ren := {
  sizeBuilder := by kernel_rfl
  liesBuilder := by kernel_rfl
  t5 := Tryz.underlying5
  a5 := Tryz.isAgg5
  z5 := Tryz.sizeOf5
  v5 := Tryz.zeroValue5
  infoByte := by kernel_rfl
  cellsByte := by kernel_rfl
  sizeByte := by kernel_rfl
  neB5 := by decide }
def Tryz.lays169_ren : Go.Shelf.Ren := ⟨fun | 169 => 82 | n => n, fun | 0 => 0 | 3 => 3 | 9 => 9 | 37 => 48 | 70 => 99 | 72 => 101 | 127 => 134 | 5 => 5 | n => n, fun | n => n⟩
theorem Tryz.lays169 : Go.Proofs.Lays.n169 Tryz.prog Tryz.lays169_ren := {
  mixed := by kernel_rfl
  f169 := Tryz.func82.trans (congrArg some (by kernel_rfl))
  t0 := Tryz.underlying0
  a0 := Tryz.isAgg0
  z0 := Tryz.sizeOf0
  v0 := Tryz.zeroValue0
  t3 := Tryz.underlying3
  a3 := Tryz.isAgg3
  z3 := Tryz.sizeOf3
  v3 := Tryz.zeroValue3
  t9 := Tryz.underlying9
  a9 := Tryz.isAgg9
  z9 := Tryz.sizeOf9
  v9 := Tryz.zeroValue9
  t37 := Tryz.underlying48
  a37 := Tryz.isAgg48
  z37 := Tryz.sizeOf48
  v37 := Tryz.zeroValue48
  t70 := Tryz.underlying99
  a70 := Tryz.isAgg99
  z70 := Tryz.sizeOf99
  v70 := Tryz.zeroValue99
  t72 := Tryz.underlying101
  a72 := Tryz.isAgg101
  z72 := Tryz.sizeOf101
  v72 := Tryz.zeroValue101
  t127 := Tryz.underlying134
  a127 := Tryz.isAgg134
  z127 := Tryz.sizeOf134
  v127 := Tryz.zeroValue134 }
theorem Tryz.Builder_Extra_169 : Builder.Extra Tryz.prog Tryz.lays169_ren := {
  sizeBuilder := by kernel_rfl
  liesBuilder := by kernel_rfl
  t5 := Tryz.underlying5
  a5 := Tryz.isAgg5
  z5 := Tryz.sizeOf5
  v5 := Tryz.zeroValue5
  infoByte := by kernel_rfl
  cellsByte := by kernel_rfl
  sizeByte := by kernel_rfl
  neB5 := by decide }
end Go.Proofs
namespace Go.Proofs
set_option linter.unusedSimpArgs false
set_option linter.unusedVariables false
open Go.Shelf
def Tryz.lays167_ren : Go.Shelf.Ren := ⟨fun | 167 => 81 | 240 => 137 | 276 => 173 | n => n, fun | 0 => 0 | 4 => 4 | 5 => 5 | 9 => 9 | 20 => 20 | 37 => 48 | 70 => 99 | 72 => 101 | 75 => 103 | 164 => 161 | 80 => 67 | n => n, fun | n => n⟩
theorem Tryz.lays167 : Go.Proofs.Lays.n167 Tryz.prog Tryz.lays167_ren := {
  mixed := by kernel_rfl
  f167 := Tryz.func81.trans (congrArg some (by kernel_rfl))
  f240 := Tryz.func137.trans (congrArg some (by kernel_rfl))
  f276 := Tryz.func173.trans (congrArg some (by kernel_rfl))
  t0 := Tryz.underlying0
  a0 := Tryz.isAgg0
  z0 := Tryz.sizeOf0
  v0 := Tryz.zeroValue0
  t4 := Tryz.underlying4
  a4 := Tryz.isAgg4
  z4 := Tryz.sizeOf4
  v4 := Tryz.zeroValue4
  t5 := Tryz.underlying5
  a5 := Tryz.isAgg5
  z5 := Tryz.sizeOf5
  v5 := Tryz.zeroValue5
  t9 := Tryz.underlying9
  a9 := Tryz.isAgg9
  z9 := Tryz.sizeOf9
  v9 := Tryz.zeroValue9
  t20 := Tryz.underlying20
  a20 := Tryz.isAgg20
  z20 := Tryz.sizeOf20
  v20 := Tryz.zeroValue20
  t37 := Tryz.underlying48
  a37 := Tryz.isAgg48
  z37 := Tryz.sizeOf48
  v37 := Tryz.zeroValue48
  t70 := Tryz.underlying99
  a70 := Tryz.isAgg99
  z70 := Tryz.sizeOf99
  v70 := Tryz.zeroValue99
  t72 := Tryz.underlying101
  a72 := Tryz.isAgg101
  z72 := Tryz.sizeOf101
  v72 := Tryz.zeroValue101
  t75 := Tryz.underlying103
  a75 := Tryz.isAgg103
  z75 := Tryz.sizeOf103
  v75 := Tryz.zeroValue103
  t164 := Tryz.underlying161
  a164 := Tryz.isAgg161
  z164 := Tryz.sizeOf161
  v164 := Tryz.zeroValue161 }
theorem Tryz.Builder_Extra_167 : Builder.Extra Tryz.prog Tryz.lays167_ren := {
  sizeBuilder := by kernel_rfl
  liesBuilder := by kernel_rfl
  t5 := Tryz.underlying5
  a5 := Tryz.isAgg5
  z5 := Tryz.sizeOf5
  v5 := Tryz.zeroValue5
  infoByte := by kernel_rfl
  cellsByte := by kernel_rfl
  sizeByte := by kernel_rfl
  neB5 := by decide }
def Tryz.lays168_ren : Go.Shelf.Ren := ⟨fun | 168 => 161 | 240 => 137 | 242 => 183 | 276 => 173 | 278 => 196 | n => n, fun | 0 => 0 | 3 => 3 | 4 => 4 | 5 => 5 | 9 => 9 | 20 => 20 | 21 => 21 | 37 => 48 | 46 => 129 | 51 => 156 | 70 => 99 | 72 => 101 | 75 => 103 | 164 => 161 | 80 => 67 | n => n, fun | n => n⟩
theorem Tryz.lays168 : Go.Proofs.Lays.n168 Tryz.prog Tryz.lays168_ren := {
  mixed := by kernel_rfl
  f168 := Tryz.func161.trans (congrArg some (by kernel_rfl))
  f240 := Tryz.func137.trans (congrArg some (by kernel_rfl))
  f242 := Tryz.func183.trans (congrArg some (by kernel_rfl))
  f276 := Tryz.func173.trans (congrArg some (by kernel_rfl))
  f278 := Tryz.func196.trans (congrArg some (by kernel_rfl))
  t0 := Tryz.underlying0
  a0 := Tryz.isAgg0
  z0 := Tryz.sizeOf0
  v0 := Tryz.zeroValue0
  t3 := Tryz.underlying3
  a3 := Tryz.isAgg3
  z3 := Tryz.sizeOf3
  v3 := Tryz.zeroValue3
  t4 := Tryz.underlying4
  a4 := Tryz.isAgg4
  z4 := Tryz.sizeOf4
  v4 := Tryz.zeroValue4
  t5 := Tryz.underlying5
  a5 := Tryz.isAgg5
  z5 := Tryz.sizeOf5
  v5 := Tryz.zeroValue5
  t9 := Tryz.underlying9
  a9 := Tryz.isAgg9
  z9 := Tryz.sizeOf9
  v9 := Tryz.zeroValue9
  t20 := Tryz.underlying20
  a20 := Tryz.isAgg20
  z20 := Tryz.sizeOf20
  v20 := Tryz.zeroValue20
  t21 := Tryz.underlying21
  a21 := Tryz.isAgg21
  z21 := Tryz.sizeOf21
  v21 := Tryz.zeroValue21
  t37 := Tryz.underlying48
  a37 := Tryz.isAgg48
  z37 := Tryz.sizeOf48
  v37 := Tryz.zeroValue48
  t46 := Tryz.underlying129
  a46 := Tryz.isAgg129
  z46 := Tryz.sizeOf129
  v46 := Tryz.zeroValue129
  t51 := Tryz.underlying156
  a51 := Tryz.isAgg156
  z51 := Tryz.sizeOf156
  v51 := Tryz.zeroValue156
  t70 := Tryz.underlying99
  a70 := Tryz.isAgg99
  z70 := Tryz.sizeOf99
  v70 := Tryz.zeroValue99
  t72 := Tryz.underlying101
  a72 := Tryz.isAgg101
  z72 := Tryz.sizeOf101
  v72 := Tryz.zeroValue101
  t75 := Tryz.underlying103
  a75 := Tryz.isAgg103
  z75 := Tryz.sizeOf103
  v75 := Tryz.zeroValue103
  t164 := Tryz.underlying161
  a164 := Tryz.isAgg161
  z164 := Tryz.sizeOf161
  v164 := Tryz.zeroValue161 }
theorem Tryz.Builder_Extra_168 : Builder.Extra Tryz.prog Tryz.lays168_ren := {
  sizeBuilder := by kernel_rfl
  liesBuilder := by kernel_rfl
  t5 := Tryz.underlying5
  a5 := Tryz.isAgg5
  z5 := Tryz.sizeOf5
  v5 := Tryz.zeroValue5
  infoByte := by kernel_rfl
  cellsByte := by kernel_rfl
  sizeByte := by kernel_rfl
  neB5 := by decide }
end Go.Proofs
namespace Go.Proofs.YtjbhokmkmapkoaaGreatDoor
set_option linter.unusedSimpArgs false
set_option linter.unusedVariables false
open Go.RowKit
open Go.PlainAid (bt get_bt bt_nonneg bt_le bt_end)
/-- A builder in a block of its own that holds some bytes. -/
def BF (B b : Nat) (l : List UInt8) (w : World) : Prop := Lib.IsBuilderF 101 5 B b (Lib.byteCells l) w
theorem rowF_below {W w1 : World} {B : Nat} {e : TypeId} {size : Nat} {v : Value} {n : Nat} {xs : List Value} (h : W.ownsRowF B e size v n xs) (hb : Below W.heap.size W w1) : w1.ownsRowF B e size v n xs := by
  refine ⟨h.1, ?_⟩
  rcases h.2 with h2 | ⟨g, cap, cur, fz, hv, hg, hh, r⟩
  · exact Or.inl h2
  · exact Or.inr ⟨g, cap, cur, fz, hv, hg, some_below hb hh, r⟩
theorem BF.below {W w1 : World} {B b : Nat} {l : List UInt8} (h : BF B b l W) (hb : Below W.heap.size W w1) : BF B b l w1 := by
  rcases h with ⟨h1, v, h2, h3, h4⟩ | ⟨h1, v, h2, h3, h4⟩
  · exact Or.inl ⟨h1, v, some_below hb h2, rowF_below h3 hb, h4⟩
  · exact Or.inr ⟨h1, v, some_below hb h2, rowF_below h3 hb, h4⟩
theorem BF.lt {W : World} {B b : Nat} {l : List UInt8} (h : BF B b l W) : b < W.heap.size := by
  rcases h with h | h
  · exact h.lt
  · exact h.lt
theorem BF.alloc {W : World} {B b : Nat} {l : List UInt8} (h : BF B b l W) (o : Obj) : BF B b l (W.alloc o) := h.below ((Below.refl _ _).alloc (Nat.le_refl _) _)
theorem BF.drew {W : World} {B b : Nat} {l : List UInt8} (h : BF B b l W) : BF B b l W.drew := h
theorem BF.fresh (w : World) : BF w.heap.size w.heap.size [] (w.alloc (.cells #[.pointer none, .slice none 0 0] 101)) := Lib.IsBuilderF.of (Lib.fresh_isBuilder 101 5 w)
/-- Every block that is not the builder's and no row of bytes stands as it stood. -/
abbrev OK8 (b : Nat) (w w' : World) : Prop := Lib.OthersKept 5 (some b) w w'
/-- What a writer leaves. -/
def BWP (B b : Nat) (l : List UInt8) (w w' : World) : Prop := BF B b l w' ∧ Below B w w' ∧ OK8 b w w'
theorem wstring (B b : Nat) (l : List UInt8) (s : ByteArray) (w : World) (h : BF B b l w) (hlen : l.length + s.size ≤ 140737488355328) (hBw : B ≤ w.heap.size) :
    Calls Tryz.prog 79 #[.pointer (some ⟨b, 0, none⟩), .string s] w fun e w' => e = .returned (.tuple #[.int .i64 s.size, .nilIface]) ∧ BWP B b (l ++ s.data.toList) w w' :=
  (Any.Builder_WriteString_k Tryz.lays166 Tryz.Builder_Extra_166 B b (Lib.byteCells l) s w h (by rw [Lib.byteCells_length]; exact hlen) hBw).mono fun e w' ⟨he, h1, h2, h3⟩ =>
    ⟨he, Or.inr (by rw [Lib.strCells_eq, ← Lib.byteCells_append] at h1; exact h1), h2, h3⟩
theorem bstring (B b : Nat) (l : List UInt8) (w : World) (h : BF B b l w) (hBw : B ≤ w.heap.size) :
    Calls Tryz.prog 82 #[.pointer (some ⟨b, 0, none⟩)] w fun e w' => e = .returned (.string ⟨l.toArray⟩) ∧ BWP B b l w w' :=
  (Any.Builder_String_any_k Tryz.lays169 Tryz.Builder_Extra_169 B b l w h hBw).mono fun e w' ⟨he, h1, h2, h3⟩ => ⟨he, h1, h2, h3⟩
theorem rune_enc {c : Int} (h : chB c = true) : Lib.byteCells (encL c) = Lib.runeCells c := by
  unfold chB at h
  have h := of_decide_eq_true h
  unfold Lib.runeCells Lib.byteCells encL
  by_cases h1 : c < 128
  · rw [if_pos h1, Lib.encodeRuneZ_one (by omega) (by omega)]
    simp [u8_nat (v := c) (by omega)]
  · rw [if_neg h1]
    by_cases h2 : c < 2048
    · rw [if_pos h2, Lib.encodeRuneZ_two (by omega) (by omega)]
      simp [u8_nat (v := 192 + c / 64) (by omega), u8_nat (v := 128 + c % 64) (by omega)]
    · rw [if_neg h2, Lib.encodeRuneZ_three (by omega)]
      simp [u8_nat (v := 224 + c / 4096) (by omega), u8_nat (v := 128 + c / 64 % 64) (by omega), u8_nat (v := 128 + c % 64) (by omega)]
theorem wrune (B b : Nat) (l : List UInt8) (c : Int) (w : World) (h : BF B b l w) (hc : chB c = true) (hlen : l.length ≤ 100000000) (hBw : B ≤ w.heap.size) :
    Calls Tryz.prog 161 #[.pointer (some ⟨b, 0, none⟩), .int .i32 c] w fun e w' => e = .returned (.tuple #[.int .i64 (encL c).length, .nilIface]) ∧ BWP B b (l ++ encL c) w w' := by
  have hcc := of_decide_eq_true (show decide (32 ≤ c ∧ c ≤ 65533 ∧ (c < 55296 ∨ 57343 < c)) = true from hc)
  refine (Any.Builder_WriteRune_k Tryz.lays168 Tryz.Builder_Extra_168 B b (Lib.byteCells l) c (by omega) (by omega) w h (by rw [Lib.byteCells_length]; omega) hBw).mono ?_
  rintro e w' ⟨he, h1, h2, h3⟩
  rw [← rune_enc hc] at he h1
  rw [Lib.byteCells_length] at he
  exact ⟨he, Or.inr (by rw [← Lib.byteCells_append] at h1; exact h1), h2, h3⟩
end Go.Proofs.YtjbhokmkmapkoaaGreatDoor
namespace Go.Proofs.YtjbhokmkmapkoaaGreatDoor
set_option linter.unusedSimpArgs false
set_option linter.unusedVariables false
open Go.RowKit
open Go.PlainAid (bt get_bt bt_nonneg bt_le bt_end)
theorem or256' (a b : Int) (h1 : 0 ≤ a) (h2 : a ≤ 255) (h3 : 0 ≤ b) (h4 : b ≤ 255) : bits .or .i64 (b * 256) a = b * 256 + a := by
  obtain ⟨A, rfl⟩ := Int.eq_ofNat_of_zero_le h1
  obtain ⟨B, rfl⟩ := Int.eq_ofNat_of_zero_le h3
  have e : ((B : Int) * 256) = ((B * 256 : Nat) : Int) := by omega
  have h := Nat.shiftLeft_add_eq_or_of_lt (show A < 2 ^ 8 by omega) B
  rw [e, Dt.i64_or_nat (B * 256) A (by omega) (by omega)]
  rw [Nat.shiftLeft_eq] at h
  have : B * 256 ||| A = B * 256 + A := h.symm
  rw [this]; omega
set_option maxRecDepth 100000 in
set_option maxHeartbeats 4000000 in
theorem from_any (s : ByteArray) (hs : s.size ≤ 65536) (w : World) : Calls Tryz.prog 111 #[.string s] w (fromP (fromU s) w) := by
  have hs2 : (s.size : Int) ≤ 65536 := by omega
  by_cases hodd : s.size % 2 = 1
  · have FO := hide (fromU_odd hodd)
    have ho2 : ((s.size : Int) % 2 != 0) = true := by
      rw [bne_iff_ne]; omega
    clear hodd
    have HL : Live w [] := trivial
    go_enter Tryz.func111, Tryz.ntmps111
    go_wp2
    go_ret2
    exact fromP.mk FO.out rfl (by (exact bl))
  · have FE := hide (fromU_even hodd)
    have hev : s.size % 2 = 0 := by omega
    have ho2 : ((s.size : Int) % 2 != 0) = false := by
      rw [bne_eq_false_iff_eq]; omega
    clear hodd
    have HL : Live w [] := trivial
    go_enter Tryz.func111, Tryz.ntmps111
    go_wp2
    go_loopw [5] (fun i wr => ∃ (p : Nat) (l : List UInt8), p ≤ s.size ∧ p % 2 = 0 ∧ i = .int .i64 p ∧ l.length ≤ 2 * p ∧ unuF s 0 [] = unuF s p l ∧ BF w.heap.size w.heap.size l wr ∧ Below w.heap.size w wr) (fun i _ => s.size - (intOf i).toNat)
    case atStart => exact ⟨0, [], by omega, rfl, rfl, by simp, rfl, BF.fresh w, by (exact bl)⟩
    case round =>
      obtain ⟨p, l, hp, hp2, rfl, hl, hu, hr, hbr⟩ := hrel
      have HR := hide hr
      have HU := hide hu
      clear hr hu
      have hszr := hbr.size
      have HL : Live wr [] := trivial
      by_cases hlt : p < s.size
      · have a0 := bt_nonneg s p
        have a1 := bt_le s p
        have b0 := bt_nonneg s (p + 1)
        have b1 := bt_le s (p + 1)
        have hg := get_bt s
        obtain ⟨c, hcc⟩ : ∃ c, c = bt s p * 256 + bt s (p + 1) := ⟨_, rfl⟩
        have hc0 : 0 ≤ c ∧ c ≤ 65535 := by omega
        have j1 : (p : Int) < (s.size : Int) := by omega
        have j2 : (p : Int) + 1 < (s.size : Int) := by omega
        have j0 : (0 : Int) ≤ (p : Int) + 1 := by omega
        have j3 : p + 1 < s.size := by omega
        go_upto_region 9 with fail
        have wp1 : IntKind.i64.wrap ((p : Int) + 1) = (p : Int) + 1 := IntWalk.i64_in _ (by omega)
        have wm : IntKind.i64.wrap (bt s p * 256) = bt s p * 256 := IntWalk.i64_in _ (by omega)
        have wa : bits .or .i64 (bt s p * 256) (bt s (p + 1)) = bt s p * 256 + bt s (p + 1) := or256' _ _ b0 b1 a0 a1
        have wi : IntKind.i64.wrap (bt s p) = bt s p := IntWalk.i64_in _ (by omega)
        have wj : IntKind.i64.wrap (bt s (p + 1)) = bt s (p + 1) := IntWalk.i64_in _ (by omega)
        refine wp_region_noPanic ?_
        refine wp_region_held_drew (S := (fun _ => True ∧ True)) (by kernel_rfl) kp (fun hHeld => ?_)
        refine tkY 0 ⟨some 20, .move (.tmp 0), 9, "charset.go:136", #[], none⟩ ?_ ?_ ?_
        rotate_left
        · intro w hSw; (try dsimp only at hSw); go_simp; (try with_reducible rfl)
        try simp only [PT]
        refine tkY 1 ⟨some 21, .move (.tmp 5), 3, "charset.go:136", #[], none⟩ ?_ ?_ ?_
        rotate_left
        · intro w hSw; (try dsimp only at hSw); go_simp; (try with_reducible rfl)
        try simp only [PT]
        refine tkY 2 ⟨some 22, .index 9 (.tmp 20) (.tmp 21), 5, "charset.go:136", #[⟨0, .data⟩, ⟨1, .data⟩], none⟩ ?_ ?_ ?_
        rotate_left
        · intro w hSw; (try dsimp only at hSw); go_simp; (try with_reducible rfl)
        try simp only [PT]
        refine tkY 3 ⟨some 23, .convert 5 3 (.tmp 22), 3, "charset.go:136", #[⟨2, .data⟩], none⟩ ?_ ?_ ?_
        rotate_left
        · intro w hSw; (try dsimp only at hSw); go_simp; (try with_reducible rfl)
        try simp only [PT]
        refine tkY 4 ⟨some 24, .binOp .shl 3 (.tmp 23) (.const (.int .u64 8)) 129, 3, "charset.go:136", #[⟨3, .data⟩], none⟩ ?_ ?_ ?_
        rotate_left
        · intro w hSw; (try dsimp only at hSw); go_simp; (try with_reducible rfl)
        try simp only [PT]
        refine tkY 5 ⟨some 25, .move (.tmp 0), 9, "charset.go:136", #[], none⟩ ?_ ?_ ?_
        rotate_left
        · intro w hSw; (try dsimp only at hSw); go_simp; (try with_reducible rfl)
        try simp only [PT]
        refine tkY 6 ⟨some 26, .move (.tmp 5), 3, "charset.go:136", #[], none⟩ ?_ ?_ ?_
        rotate_left
        · intro w hSw; (try dsimp only at hSw); go_simp; (try with_reducible rfl)
        try simp only [PT]
        refine tkY 7 ⟨some 27, .binOp .add 3 (.tmp 26) (.const (.int .i64 1)) 3, 3, "charset.go:136", #[⟨6, .data⟩], none⟩ ?_ ?_ ?_
        rotate_left
        · intro w hSw; (try dsimp only at hSw); go_simp; (try with_reducible rfl)
        try simp only [PT]
        refine tkY 8 ⟨some 28, .index 9 (.tmp 25) (.tmp 27), 5, "charset.go:136", #[⟨5, .data⟩, ⟨7, .data⟩], none⟩ ?_ ?_ ?_
        rotate_left
        · intro w hSw; (try dsimp only at hSw); go_simp; (try with_reducible rfl)
        try simp only [PT]
        refine tkY 9 ⟨some 29, .convert 5 3 (.tmp 28), 3, "charset.go:136", #[⟨8, .data⟩], none⟩ ?_ ?_ ?_
        rotate_left
        · intro w hSw; (try dsimp only at hSw); go_simp; (try with_reducible rfl)
        try simp only [PT]
        refine tkY 10 ⟨some 30, .binOp .or 3 (.tmp 24) (.tmp 29) 3, 3, "charset.go:136", #[⟨4, .data⟩, ⟨9, .data⟩], none⟩ ?_ ?_ ?_
        rotate_left
        · intro w hSw; (try dsimp only at hSw); go_simp; (try with_reducible rfl)
        try simp only [PT]
        refine tkY 11 ⟨some 6, .assign (.tmp 30), 3, "charset.go:136", #[⟨10, .data⟩, ⟨0, .phase⟩, ⟨1, .phase⟩, ⟨2, .phase⟩, ⟨3, .phase⟩, ⟨4, .phase⟩, ⟨5, .phase⟩, ⟨6, .phase⟩, ⟨7, .phase⟩, ⟨8, .phase⟩, ⟨9, .phase⟩, ⟨10, .phase⟩], none⟩ ?_ ?_ ?_
        rotate_left
        · intro w hSw; (try dsimp only at hSw); go_simp; (try with_reducible rfl)
        try simp only [PT]
        refine wpAnyH_done (by kernel_rfl) ?_ _
        refine NoPanic.normal ?_
        rw [← hcc]
        cases hch : chB c
        case false =>
          have HX := hide (unuF_bad (out := l) hlt (show chB (bt s p * 256 + bt s (p + 1)) = false by rw [← hcc]; exact hch))
          clear hcc
          go_wp2_with (first | (go_at_call 149; (with_reducible refine (char_any _ _).mono ?_); rintro e w' ⟨rfl, rfl⟩))
          go_ret2
          exact fromP.mk (by rw [FE.out, HU.out, HX.out]) rfl (by (exact bl))
        case true =>
          have HX := hide (unuF_go (out := l) hlt (show chB (bt s p * 256 + bt s (p + 1)) = true by rw [← hcc]; exact hch))
          rw [← hcc] at HX
          have hll : l.length ≤ 100000000 := by omega
          have hel := encL_len c
          clear hcc
          go_wp2_with (first | (go_at_call 149; (with_reducible refine (char_any _ _).mono ?_); rintro e w' ⟨rfl, rfl⟩) | (go_at_call 161; refine (wrune w.heap.size w.heap.size l c _ HR.out.drew hch hll (by simp; omega)).mono ?_; rintro e w3 ⟨rfl, hr3, hb3, hk3⟩))
          go_roundw
          case rel => exact ⟨p + 2, l ++ encL c, by omega, by omega, by go_num, by rw [List.length_append]; omega, by rw [HU.out, HX.out], hr3, hbr.drew.trans hb3⟩
          case measure => simp [intOf]; omega
      · obtain rfl : p = s.size := by omega
        go_wp2_with (go_at_call 82; refine (bstring w.heap.size w.heap.size l _ HR.out hszr).mono ?_; rintro e w3 ⟨rfl, hr3, hb3, hk3⟩)
        go_ret2
        exact fromP.mk (by rw [FE.out, HU.out, unuF_end (Nat.le_refl _)]) rfl (hbr.trans hb3)
end Go.Proofs.YtjbhokmkmapkoaaGreatDoor
namespace Go.Proofs.YtjbhokmkmapkoaaGreatDoor
set_option linter.unusedSimpArgs false
set_option linter.unusedVariables false
open Go.RowKit
open Go.PlainAid (bt get_bt bt_nonneg bt_le bt_end)
def blkW (n : Int) : ByteArray := ⟨(blanks n.toNat).toArray⟩
def blk0 (n : Int) : ByteArray := ⟨(List.replicate n.toNat (0 : UInt8)).toArray⟩
theorem blkW_size (n : Int) : (blkW n).size = 2 * n.toNat := by
  show (blanks n.toNat).toArray.size = _
  rw [List.size_toArray, blanks_len]
theorem blk0_size (n : Int) : (blk0 n).size = n.toNat := by
  show (List.replicate n.toNat (0 : UInt8)).toArray.size = _
  rw [List.size_toArray, List.length_replicate]
theorem ucsS_size (cs : List Int) : (ucsS cs).size = 2 * cs.length := by
  show (ucsL cs).toArray.size = _
  rw [List.size_toArray, ucsL_len]
theorem rep_W : ∀ n : Nat, Lib.repeatL [0, 32] n = blanks n
  | 0 => rfl
  | n + 1 => by
    show [0, 32] ++ Lib.repeatL [0, 32] n = _
    rw [rep_W n]
    unfold blanks
    rw [List.replicate_succ]
    rfl
theorem rep_0 (n : Nat) : Lib.repeatL [0] n = List.replicate n 0 := by
  have := Lib.repeatL_replicate 0 1 n
  rw [Nat.mul_one] at this
  exact this
theorem repW (n : Int) (w : World) (hn : 0 ≤ n ∧ n ≤ 65536) : Calls Tryz.prog 71 #[.string ⟨#[0, 32]⟩, .int .i64 n] w fun e w' => e = .returned (.string (blkW n)) ∧ Below w.heap.size w w' :=
  (rep_any ⟨#[0, 32]⟩ n (by decide) (by decide) hn w).mono fun e w' h => ⟨by rw [h.1, show (⟨#[0, 32]⟩ : ByteArray).data.toList = [0, 32] from rfl, rep_W]; rfl, h.2⟩
theorem rep0 (n : Int) (w : World) (hn : 0 ≤ n ∧ n ≤ 65536) : Calls Tryz.prog 71 #[.string ⟨#[0]⟩, .int .i64 n] w fun e w' => e = .returned (.string (blk0 n)) ∧ Below w.heap.size w w' :=
  (rep_any ⟨#[0]⟩ n (by decide) (by decide) hn w).mono fun e w' h => ⟨by rw [h.1, show (⟨#[0]⟩ : ByteArray).data.toList = [0] from rfl, rep_0]; rfl, h.2⟩
theorem rrepW (n : Int) (w : World) (hn : 0 ≤ n ∧ n ≤ 65536) : Calls Tryz.prog 145 #[.string ⟨#[0, 32]⟩, .int .i64 n] w fun e w' => e = .returned (.string (blkW n)) ∧ Below w.heap.size w w' :=
  (rrep_any ⟨#[0, 32]⟩ n (by decide) hn w).mono fun e w' h => ⟨by rw [h.1, show (⟨#[0, 32]⟩ : ByteArray).data.toList = [0, 32] from rfl, rep_W]; rfl, h.2⟩
theorem rrep0 (n : Int) (w : World) (hn : 0 ≤ n ∧ n ≤ 65536) : Calls Tryz.prog 145 #[.string ⟨#[0]⟩, .int .i64 n] w fun e w' => e = .returned (.string (blk0 n)) ∧ Below w.heap.size w w' :=
  (rrep_any ⟨#[0]⟩ n (by decide) hn w).mono fun e w' h => ⟨by rw [h.1, show (⟨#[0]⟩ : ByteArray).data.toList = [0] from rfl, rep_0]; rfl, h.2⟩
/-- A wide field. -/
def wpad (cs : List Int) (n : Int) : ByteArray := ⟨(wideS cs n.toNat).toArray⟩
theorem wpad_cat (cs : List Int) (n k j : Int) (h : 2 * (cs.length : Int) ≤ n) (hk : k = (n - 2 * cs.length) / 2) (hj : j = (n - 2 * cs.length) % 2) : ucsS cs ++ blkW k ++ blk0 j = wpad cs n := by
  apply ByteArray.ext
  apply Array.toList_inj.1
  rw [ByteArray.data_append, Array.toList_append, ByteArray.data_append, Array.toList_append]
  show ucsL cs ++ blanks k.toNat ++ List.replicate j.toNat 0 = wideS cs n.toNat
  unfold wideS
  have e1 : k.toNat = (n.toNat - 2 * cs.length) / 2 := by omega
  have e2 : j.toNat = (n.toNat - 2 * cs.length) % 2 := by omega
  rw [e1, e2]
set_option maxHeartbeats 4000000 in
theorem wfield_any (s : ByteArray) (hs : s.size ≤ 65536) (cs : List Int) (hc : charL s = some cs) (n : Int) (h : 2 * (cs.length : Int) ≤ n ∧ n ≤ 65536) (w : World) (hT : TabU w) : Calls Tryz.prog 31 #[.string s, .int .i64 n] w fun e w' => e = .returned (.tuple #[.string (wpad cs n), .int .i64 0]) ∧ Below w.heap.size w w' := by
  have UC := hide (fun W hW => ucs_any s hs cs hc W hW)
  obtain ⟨u, hu⟩ : ∃ u, u = ucsS cs := ⟨_, rfl⟩
  rw [← hu] at UC
  have hus : (u.size : Int) = 2 * cs.length := by rw [hu, ucsS_size]; omega
  have hbw : ((blkW ((n - 2 * cs.length) / 2)).size : Int) = 2 * ((n - 2 * cs.length) / 2) := by rw [blkW_size]; omega
  have hbn : ¬ 9223372036854775807 < u.size + (blkW ((n - 2 * cs.length) / 2)).size := by omega
  have hb0 : ((blk0 (n - (2 * cs.length + 2 * ((n - 2 * cs.length) / 2)))).size : Int) = n - (2 * cs.length + 2 * ((n - 2 * cs.length) / 2)) := by rw [blk0_size]; omega
  have hbm : ¬ 9223372036854775807 < u.size + (blkW ((n - 2 * cs.length) / 2)).size + (blk0 (n - (2 * cs.length + 2 * ((n - 2 * cs.length) / 2)))).size := by omega
  have PC := hide (wpad_cat cs n ((n - 2 * cs.length) / 2) (n - (2 * cs.length + 2 * ((n - 2 * cs.length) / 2))) h.1 rfl (by omega))
  rw [← hu] at PC
  clear hu hc
  have HL : Live w [] := trivial
  go_enter Tryz.func31, Tryz.ntmps31
  go_wp2_with (first | (go_at_call 72; (with_reducible refine (UC.out _ (by assumption)).mono ?_); rintro e w' ⟨rfl, hb⟩; have hz := hb.size; (try simp only [SZ, Nat.reduceAdd] at hz); (first | obtain ⟨HL, hk⟩ := HL.callA hb hz | obtain ⟨HL, hk⟩ := HL.call0A hb hz); (try simp only [addN, Nat.add_zero] at HL hk); have hl := HL; simp only [Live] at hl; (try simp only [Kept] at hk)) | (go_at_call 71; (with_reducible refine (repW _ _ (by omega)).mono ?_); rintro e w' ⟨rfl, hb⟩; have hz := hb.size; (try simp only [SZ, Nat.reduceAdd] at hz); (first | obtain ⟨HL, hk⟩ := HL.callA hb hz | obtain ⟨HL, hk⟩ := HL.call0A hb hz); (try simp only [addN, Nat.add_zero] at HL hk); have hl := HL; simp only [Live] at hl; (try simp only [Kept] at hk)) | (go_at_call 71; (with_reducible refine (rep0 _ _ (by omega)).mono ?_); rintro e w' ⟨rfl, hb⟩; have hz := hb.size; (try simp only [SZ, Nat.reduceAdd] at hz); (first | obtain ⟨HL, hk⟩ := HL.callA hb hz | obtain ⟨HL, hk⟩ := HL.call0A hb hz); (try simp only [addN, Nat.add_zero] at HL hk); have hl := HL; simp only [Live] at hl; (try simp only [Kept] at hk)))
  go_ret2
  exact ⟨ret_s0 PC.out, by (exact bl)⟩
set_option maxHeartbeats 4000000 in
theorem rwfield_any (s : ByteArray) (hs : s.size ≤ 65536) (cs : List Int) (hc : charL s = some cs) (n : Int) (h : 2 * (cs.length : Int) ≤ n ∧ n ≤ 65536) (w : World) : Calls Tryz.prog 99 #[.string s, .int .i64 n] w fun e w' => e = .returned (.tuple #[.string (wpad cs n), .int .i64 0]) ∧ Below w.heap.size w w' := by
  have RUC := hide (fun W => rucs_any s hs cs hc W)
  obtain ⟨u, hu⟩ : ∃ u, u = ucsS cs := ⟨_, rfl⟩
  rw [← hu] at RUC
  have hus : (u.size : Int) = 2 * cs.length := by rw [hu, ucsS_size]; omega
  have hbw : ((blkW ((n - 2 * cs.length) / 2)).size : Int) = 2 * ((n - 2 * cs.length) / 2) := by rw [blkW_size]; omega
  have hbn : ¬ 9223372036854775807 < u.size + (blkW ((n - 2 * cs.length) / 2)).size := by omega
  have hb0 : ((blk0 (n - (2 * cs.length + 2 * ((n - 2 * cs.length) / 2)))).size : Int) = n - (2 * cs.length + 2 * ((n - 2 * cs.length) / 2)) := by rw [blk0_size]; omega
  have hbm : ¬ 9223372036854775807 < u.size + (blkW ((n - 2 * cs.length) / 2)).size + (blk0 (n - (2 * cs.length + 2 * ((n - 2 * cs.length) / 2)))).size := by omega
  have PC := hide (wpad_cat cs n ((n - 2 * cs.length) / 2) (n - (2 * cs.length + 2 * ((n - 2 * cs.length) / 2))) h.1 rfl (by omega))
  rw [← hu] at PC
  clear hu hc
  have HL : Live w [] := trivial
  go_enter Tryz.func99, Tryz.ntmps99
  go_wp2_with (first | (go_at_call 146; (with_reducible refine (RUC.out _).mono ?_); rintro e w' ⟨rfl, hb⟩; have hz := hb.size; (try simp only [SZ, Nat.reduceAdd] at hz); (first | obtain ⟨HL, hk⟩ := HL.callA hb hz | obtain ⟨HL, hk⟩ := HL.call0A hb hz); (try simp only [addN, Nat.add_zero] at HL hk); have hl := HL; simp only [Live] at hl; (try simp only [Kept] at hk)) | (go_at_call 145; (with_reducible refine (rrepW _ _ (by omega)).mono ?_); rintro e w' ⟨rfl, hb⟩; have hz := hb.size; (try simp only [SZ, Nat.reduceAdd] at hz); (first | obtain ⟨HL, hk⟩ := HL.callA hb hz | obtain ⟨HL, hk⟩ := HL.call0A hb hz); (try simp only [addN, Nat.add_zero] at HL hk); have hl := HL; simp only [Live] at hl; (try simp only [Kept] at hk)) | (go_at_call 145; (with_reducible refine (rrep0 _ _ (by omega)).mono ?_); rintro e w' ⟨rfl, hb⟩; have hz := hb.size; (try simp only [SZ, Nat.reduceAdd] at hz); (first | obtain ⟨HL, hk⟩ := HL.callA hb hz | obtain ⟨HL, hk⟩ := HL.call0A hb hz); (try simp only [addN, Nat.add_zero] at HL hk); have hl := HL; simp only [Live] at hl; (try simp only [Kept] at hk)))
  go_ret2
  exact ⟨ret_s0 PC.out, by (exact bl)⟩
end Go.Proofs.YtjbhokmkmapkoaaGreatDoor
