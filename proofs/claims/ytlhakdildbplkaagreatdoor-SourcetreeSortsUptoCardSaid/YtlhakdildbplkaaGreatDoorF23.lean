/- Contracts and plain words for the laws of this chapter, part 23: Ss. No condition. -/
import Derived.Shelf.SlSortCmp.InsertionK
import Derived.Test.YtlhakdildbplkaaGreatDoorF21
import Derived.Test.YtlhakdildbplkaaGreatDoorF22
namespace Go.Proofs.YtlhakdildbplkaaGreatDoor
set_option linter.unusedSimpArgs false
set_option linter.unusedVariables false
open Go.Shelf Go.RowKit Go.Lib Go.Sort
theorem agg_s (w : World) : (isAgg 69).run Tryz.prog w = .ok true w := by kernel_rfl
theorem siz_s (w : World) : (Go.sizeOf 69).run Tryz.prog w = .ok 2 w := by kernel_rfl
section
variable {α : Type} [Inhabited α]
def SwapOK_s (enc : α → List Value) (k : Nat) (cv : Value) (blk off cap : Nat) (w : World) (N : Nat) : Prop :=
  ∀ (a b n m : Nat) (os : Array Obj) (p A M B s : List α) (d : Array α), d.size = N → d.toList = p ++ (A ++ (M ++ (B ++ s))) → a = p.length → b = a + n + M.length → A.length = n → B.length = n →
    Calls Tryz.prog 191 #[.slice (some ⟨blk, off, none⟩) N cap, .int .i64 a, .int .i64 b, .int .i64 n, cv] (sortWorldK enc k w blk off m d os) fun e w' =>
      e = .returned (.tuple #[]) ∧ ∃ (m' : Nat) (d' : Array α), d'.size = N ∧ d'.toList = p ++ (B ++ (M ++ (A ++ s))) ∧ w' = sortWorldK enc k w blk off m' d' os
set_option maxHeartbeats 8000000 in
set_option maxRecDepth 1000000 in
theorem swapRange_s (enc : α → List Value) (k : Nat) (hk2 : k = 2) (hk : ∀ x, (enc x).length = k) (h1 : ∀ x, ∀ v ∈ enc x, v.oneCell' = true) (cv : Value) (blk off cap : Nat) (d0 : Array α) (w : World)
    (hH : HoldsK enc k w blk off d0) (hblk : blk < w.heap.size) (hsz : d0.size < 4611686018427387904) : SwapOK_s enc k cv blk off cap w d0.size := by
  intro a b n m os p A M B s d hd he ha hb hA hB
  have aE := agg_s
  have zE : ∀ w, (Go.sizeOf 69).run Tryz.prog w = .ok k w := fun w => by rw [hk2]; exact siz_s w
  have mixed : Tryz.prog.follows .mixedOrders = true := by kernel_rfl
  have hlen : p.length + n + M.length + n + s.length = d0.size := by
    rw [← hd, ← Array.length_toList, he]
    simp only [List.length_append]
    omega
  have HH : Hid (HoldsK enc k w blk off d0) := hH
  have HK : Hid (∀ x, (enc x).length = k) := hk
  have H1 : Hid (∀ x, ∀ v ∈ enc x, v.oneCell' = true) := h1
  have HE : Hid (d.toList = swr p A M B s 0) := by show _ = _; rw [swr_zero]; exact he
  have HP : Hid (a = p.length ∧ b = a + n + M.length ∧ A.length = n ∧ B.length = n) := ⟨ha, hb, hA, hB⟩
  have hab : b + n ≤ d0.size ∧ a + n ≤ b := by omega
  clear hH hk h1 he ha hb hA hB hlen hk2
  have HL : Live w [] := trivial
  go_enter Tryz.func191, Tryz.ntmps191
  go_wp2
  go_loopg [10] n (fun g vi wr => ∃ (i mk : Nat) (dk : Array α), vi = .int .i64 i ∧ i ≤ n ∧ n - i ≤ g ∧ dk.size = d0.size ∧ wr = sortWorldK enc k w blk off mk dk os ∧ Hid (dk.toList = swr p A M B s i))
  case atStart => exact ⟨0, m, d, rfl, Nat.zero_le _, by omega, hd, rfl, HE.out⟩
  case round =>
    obtain ⟨i, mk, dk, rfl, hin, hg, hsk, rfl, HO⟩ := hrel
    by_cases hlt : i < n
    · have hltz : (i : Int) < (n : Int) := by omega
      have wa : IntKind.i64.wrap ((a : Int) + (i : Int)) = (a : Int) + (i : Int) := by rw [IntKind.wrap_i64]; omega
      have wb : IntKind.i64.wrap ((b : Int) + (i : Int)) = (b : Int) + (i : Int) := by rw [IntKind.wrap_i64]; omega
      have ja0 : (0 : Int) ≤ (a : Int) + (i : Int) := by omega
      have ja1 : (a : Int) + (i : Int) < (d0.size : Int) := by omega
      have jb0 : (0 : Int) ≤ (b : Int) + (i : Int) := by omega
      have jb1 : (b : Int) + (i : Int) < (d0.size : Int) := by omega
      have ea : ((a : Int) + (i : Int)).toNat = a + i := by omega
      have eb : ((b : Int) + (i : Int)).toNat = b + i := by omega
      obtain ⟨xa, hxa⟩ : ∃ x, dk[a + i]! = x := ⟨_, rfl⟩
      obtain ⟨xb, hxb⟩ : ∃ x, dk[b + i]! = x := ⟨_, rfl⟩
      have hHd : HoldsK enc k (sortWorldK enc k w blk off mk dk os).drew blk off dk := holdsK_sortWorldK_c enc k w blk off d0 dk mk os HH.out hblk hsk
      have bnd : ∀ x, x < dk.size → x * k + k ≤ dk.size * k := fun x hx => by
        have := Nat.mul_le_mul_right k (show x + 1 ≤ dk.size from hx); rwa [Nat.add_mul, Nat.one_mul] at this
      obtain ⟨wq, hwq⟩ : ∃ wq, wq = sortWorldK enc k w blk off mk dk os := ⟨_, rfl⟩
      rw [← hwq] at hHd ⊢
      have la : Sem.run Tryz.prog (loadCellsFrom ⟨blk, off + (a + i) * k, none⟩ 0 k #[]) wq.drew = .ok (enc xa).toArray wq.drew := by rw [← hxa]; exact run_loadCellsFrom_list Tryz.prog _ _ _ k (HK.out _) (HoldsK.cells hHd HK.out (by omega))
      have lb : Sem.run Tryz.prog (loadCellsFrom ⟨blk, off + (b + i) * k, none⟩ 0 k #[]) wq.drew = .ok (enc xb).toArray wq.drew := by rw [← hxb]; exact run_loadCellsFrom_list Tryz.prog _ _ _ k (HK.out _) (HoldsK.cells hHd HK.out (by omega))
      have s1 : Sem.run Tryz.prog (storeCells ⟨blk, off + (a + i) * k, none⟩ (enc xb) 0) wq.drew = .ok () (wq.drew.setCells blk (off + (a + i) * k) (enc xb)) := stores_of_holds Tryz.prog hHd ((a + i) * k) _ (by rw [HK.out, size_flatK]; exact bnd (a + i) (by omega)) (H1.out _)
      have s2 : Sem.run Tryz.prog (storeCells ⟨blk, off + (b + i) * k, none⟩ (enc xa) 0) (wq.drew.setCells blk (off + (a + i) * k) (enc xb)) = .ok () ((wq.drew.setCells blk (off + (a + i) * k) (enc xb)).setCells blk (off + (b + i) * k) (enc xa)) :=
        stores_of_holds Tryz.prog (holds_setCells_c hHd ((a + i) * k) _ (by rw [HK.out, size_flatK]; exact bnd (a + i) (by omega))) ((b + i) * k) _ (by rw [HK.out, size_setMany, size_flatK]; exact bnd (b + i) (by omega)) (H1.out _)
      have hsA : (enc xa).length = k := HK.out _
      have hsB : (enc xb).length = k := HK.out _
      have HW : Hid (wq = sortWorldK enc k w blk off mk dk os) := hwq
      clear hwq hHd bnd
      obtain ⟨cA, hcA⟩ : ∃ c, c = enc xa := ⟨_, rfl⟩
      obtain ⟨cB, hcB⟩ : ∃ c, c = enc xb := ⟨_, rfl⟩
      rw [← hcB] at s1 lb hsB
      rw [← hcA] at la hsA
      rw [← hcA, ← hcB] at s2
      have CC : Hid (cA = enc xa ∧ cB = enc xb) := ⟨hcA, hcB⟩
      clear hcA hcB
      go_wp2_with fail
      go_big_region_o
      all_goals go_wp2
      go_roundg (n - (i + 1))
      case measure => omega
      case rel =>
        refine ⟨i + 1, mk + 1, swp dk (a + i) (b + i), by first | rfl | go_num, by omega, Nat.le_refl _, by rw [swp_size]; exact hsk, ?_, (show _ = _ from ?_)⟩
        · rw [CC.out.1, CC.out.2, HW.out, ← hxa, ← hxb]
          exact sortWorldK_swp_c enc k w blk off HK.out mk dk os hblk (a + i) (b + i) (by omega) (by omega)
        · obtain ⟨p1, p2, p3, p4⟩ := HP.out
          exact swr_step p3 p4 hlt HO.out (by omega) (by omega)
    · have hltz : ¬ (i : Int) < (n : Int) := by omega
      have hin2 : i = n := by omega
      subst hin2
      go_wp2
      go_end0
      obtain ⟨p1, p2, p3, p4⟩ := HP.out
      exact ⟨rfl, mk, dk, hsk, by rw [HO.out, swr_end p3 p4], rfl⟩
def RotOK_s (enc : α → List Value) (k : Nat) (cv : Value) (blk off cap : Nat) (w : World) (N : Nat) : Prop :=
  ∀ (a m b mk : Nat) (os : Array Obj) (p l r s : List α) (d : Array α), d.size = N → d.toList = p ++ (l ++ (r ++ s)) → a = p.length → m = a + l.length → b = m + r.length → 0 < l.length → 0 < r.length →
    Calls Tryz.prog 178 #[.slice (some ⟨blk, off, none⟩) N cap, .int .i64 a, .int .i64 m, .int .i64 b, cv] (sortWorldK enc k w blk off mk d os) fun e w' =>
      e = .returned (.tuple #[]) ∧ ∃ (m' : Nat) (d' : Array α), d'.size = N ∧ d'.toList = p ++ (r ++ (l ++ s)) ∧ w' = sortWorldK enc k w blk off m' d' os
set_option maxHeartbeats 8000000 in
set_option maxRecDepth 1000000 in
theorem rotate_s (enc : α → List Value) (k : Nat) (cv : Value) (blk off cap : Nat) (w : World) (N : Nat) (hsz : N < 4611686018427387904) (hS : SwapOK_s enc k cv blk off cap w N) : RotOK_s enc k cv blk off cap w N := by
  intro a m b mk os p l r s d hd he ha hm hb hl hr
  have hlen : p.length + l.length + r.length + s.length = N := by
    rw [← hd, ← Array.length_toList, he]
    simp only [List.length_append]
    omega
  have SW := hide hS
  have HE := hide (show RotI p l r s m l.length r.length d.toList by rw [he, hm, ha]; exact rot_start)
  clear hS he
  have wi : IntKind.i64.wrap ((m : Int) - (a : Int)) = (l.length : Int) := by rw [IntKind.wrap_i64]; omega
  have wj : IntKind.i64.wrap ((b : Int) - (m : Int)) = (r.length : Int) := by rw [IntKind.wrap_i64]; omega
  have wi2 : (m : Int) - (a : Int) = (l.length : Int) := by omega
  have wj2 : (b : Int) - (m : Int) = (r.length : Int) := by omega
  have hbN : b ≤ N := by omega
  have hmm : l.length ≤ m := by omega
  have hbm : m + r.length ≤ b := by omega
  clear hlen ha hm hb
  generalize hli : l.length = li at *
  generalize hri : r.length = ri at *
  have HL : Live w [] := trivial
  go_enter Tryz.func178, Tryz.ntmps178
  go_wp2
  clear wi wj wi2 wj2
  go_loopg [10, 11] (li + ri) (fun g vi vj wr => ∃ (i j m1 : Nat) (dk : Array α), vi = .int .i64 i ∧ vj = .int .i64 j ∧ 0 < i ∧ 0 < j ∧ i + j ≤ g ∧ i ≤ m ∧ m + j ≤ b ∧ dk.size = N ∧ wr = sortWorldK enc k w blk off m1 dk os ∧ Hid (RotI p l r s m i j dk.toList))
  case atStart => exact ⟨li, ri, mk, d, rfl, rfl, hl, hr, Nat.le_refl _, by omega, by omega, hd, rfl, HE.out⟩
  case round =>
    obtain ⟨i, j, m1, dk, rfl, rfl, hi0, hj0, hg, him, hjb, hsk, rfl, HO⟩ := hrel
    have hmi : IntKind.i64.wrap ((m : Int) - (i : Int)) = ((m - i : Nat) : Int) := by rw [IntKind.wrap_i64]; omega
    have hmi2 : (m : Int) - (i : Int) = ((m - i : Nat) : Int) := by omega
    by_cases hij : i = j
    · subst hij
      obtain ⟨p1, a1, b1, s1, e1, e2, e3, e4, e5⟩ := rot_eq HO.out rfl
      have CS := hide (SW.out (m - i) m i m1 os p1 a1 [] b1 s1 dk hsk e1 (by omega) (by simp; omega) e3 e4)
      have E5 := hide e5
      clear e1 e2 e3 e4 e5 SW HO
      generalize m - i = q at *
      go_wp2_with (go_at_call 191; (with_reducible refine CS.out.mono ?_); rintro e w' ⟨rfl, m', d', hd', hl', rfl⟩)
      go_end0
      exact ⟨rfl, m', d', hd', by rw [hl', E5.out], rfl⟩
    · have hne : ((i : Int) == (j : Int)) = false := by simp; omega
      have hne2 : ¬ (i : Int) = (j : Int) := by omega
      by_cases hgt : j < i
      · have hgz : (i : Int) > (j : Int) := by omega
        have hgz2 : (j : Int) < (i : Int) := by omega
        obtain ⟨p1, a1, m2, b1, s1, e1, e2, e3, e4, e5, e6⟩ := rot_gt HO.out hgt
        have CS := hide (SW.out (m - i) m j m1 os p1 a1 m2 b1 s1 dk hsk e1 (by omega) (by omega) e3 e4)
        have E6 := hide e6
        clear e1 e2 e3 e4 e5 e6 HO
        have hs1 : IntKind.i64.wrap ((i : Int) - (j : Int)) = ((i - j : Nat) : Int) := by rw [IntKind.wrap_i64]; omega
        have hs2 : (i : Int) - (j : Int) = ((i - j : Nat) : Int) := by omega
        generalize m - i = q at *
        go_wp2_with (go_at_call 191; (with_reducible refine CS.out.mono ?_); rintro e w' ⟨rfl, m', d', hd', hl', rfl⟩)
        go_roundg ((i - j) + j)
        case measure => omega
        case rel => exact ⟨i - j, j, m', d', by first | rfl | go_num, rfl, by omega, hj0, Nat.le_refl _, by omega, hjb, hd', rfl, by show RotI _ _ _ _ _ _ _ _; rw [hl']; exact E6.out⟩
      · have hgz : ¬ (i : Int) > (j : Int) := by omega
        have hgz2 : ¬ (j : Int) < (i : Int) := by omega
        obtain ⟨p1, a1, m2, b1, s1, e1, e2, e3, e4, e5, e6⟩ := rot_lt HO.out (by omega : i < j)
        have CS := hide (SW.out (m - i) (m + j - i) i m1 os p1 a1 m2 b1 s1 dk hsk e1 (by omega) (by omega) e3 e4)
        have E6 := hide e6
        clear e1 e2 e3 e4 e5 e6 HO
        have hs1 : IntKind.i64.wrap ((j : Int) - (i : Int)) = ((j - i : Nat) : Int) := by rw [IntKind.wrap_i64]; omega
        have hs2 : (j : Int) - (i : Int) = ((j - i : Nat) : Int) := by omega
        have hs3 : IntKind.i64.wrap ((m : Int) + (j : Int)) = (m : Int) + (j : Int) := by rw [IntKind.wrap_i64]; omega
        have hs4 : IntKind.i64.wrap ((m : Int) + (j : Int) - (i : Int)) = ((m + j - i : Nat) : Int) := by rw [IntKind.wrap_i64]; omega
        have hs5 : (m : Int) + (j : Int) - (i : Int) = ((m + j - i : Nat) : Int) := by omega
        generalize hq2 : m + j - i = q2 at *
        generalize m - i = q at *
        go_wp2_with (go_at_call 191; (with_reducible refine CS.out.mono ?_); rintro e w' ⟨rfl, m', d', hd', hl', rfl⟩)
        go_roundg (i + (j - i))
        case measure => omega
        case rel => exact ⟨i, j - i, m', d', rfl, by first | rfl | go_num, hi0, by omega, Nat.le_refl _, him, by omega, hd', rfl, by show RotI _ _ _ _ _ _ _ _; rw [hl']; exact E6.out⟩
def SymOK_s (lt : α → α → Bool) (enc : α → List Value) (k : Nat) (cv : Value) (blk off cap : Nat) (w : World) (N D : Nat) : Prop :=
  ∀ (a m b mk : Nat) (os : Array Obj) (p l r s : List α) (d : Array α), b - a ≤ D → d.size = N → d.toList = p ++ (l ++ (r ++ s)) → a = p.length → m = a + l.length → b = m + r.length → 0 < l.length → 0 < r.length → Srt lt l → Srt lt r →
    Calls Tryz.prog 160 #[.slice (some ⟨blk, off, none⟩) N cap, .int .i64 a, .int .i64 m, .int .i64 b, cv] (sortWorldK enc k w blk off mk d os) fun e w' =>
      e = .returned (.tuple #[]) ∧ ∃ (m' : Nat) (d' : Array α) (os' : Array Obj), d'.size = N ∧ d'.toList = p ++ (mrg lt l r ++ s) ∧ w' = sortWorldK enc k w blk off m' d' os'
set_option maxHeartbeats 8000000 in
set_option maxRecDepth 1000000 in
theorem symLeft_s (enc : α → List Value) (k : Nat) (hk2 : k = 2) (hk : ∀ x, (enc x).length = k) (h1 : ∀ x, ∀ v ∈ enc x, v.oneCell' = true) (cf : α → α → Int) (hlt : Swo (ltOf cf)) (g0 : Nat) (cb : Array Value) (blk off cap : Nat) (d0 : Array α) (w : World)
    (eg : ∀ args w, (callFunc g0 args).run Tryz.prog w = .ok (.enter g0 args) w) (hcmp : CmpLays Tryz.prog g0 cb enc k cf blk off d0.size w) (hH : HoldsK enc k w blk off d0) (hblk : blk < w.heap.size) (hsz : d0.size < 4611686018427387904)
    (a m b mk : Nat) (os : Array Obj) (p r s : List α) (x : α) (d : Array α) (hd : d.size = d0.size) (he : d.toList = p ++ (x :: (r ++ s))) (ha : a = p.length) (hm : m = a + 1) (hb : b = m + r.length) (hr : Srt (ltOf cf) r) :
    Calls Tryz.prog 160 #[.slice (some ⟨blk, off, none⟩) d0.size cap, .int .i64 a, .int .i64 m, .int .i64 b, .func (.func g0) #[] cb] (sortWorldK enc k w blk off mk d os) fun e w' =>
      e = .returned (.tuple #[]) ∧ ∃ (m' : Nat) (d' : Array α) (os' : Array Obj), d'.size = d0.size ∧ d'.toList = p ++ (mrg (ltOf cf) [x] r ++ s) ∧ w' = sortWorldK enc k w blk off m' d' os' := by
  have aE := agg_s
  have zE : ∀ w, (Go.sizeOf 69).run Tryz.prog w = .ok k w := fun w => by rw [hk2]; exact siz_s w
  have mixed : Tryz.prog.follows .mixedOrders = true := by kernel_rfl
  have hlen : p.length + 1 + r.length + s.length = d0.size := by
    rw [← hd, ← Array.length_toList, he]
    simp only [List.length_append, List.length_cons]
    omega
  have HH : Hid (HoldsK enc k w blk off d0) := hH
  have HK : Hid (∀ x, (enc x).length = k) := hk
  have H1 : Hid (∀ x, ∀ v ∈ enc x, v.oneCell' = true) := h1
  have HC : Aside _ := hcmp
  have HP := hide (show (d.toList = p ++ (x :: (r ++ s)) ∧ a = p.length ∧ m = a + 1 ∧ b = m + r.length) ∧ Srt (ltOf cf) r from ⟨⟨he, ha, hm, hb⟩, hr⟩)
  have HSW := hide hlt
  have hab : a < m ∧ m ≤ b ∧ b ≤ d0.size := by omega
  have wm : IntKind.i64.wrap ((m : Int) - (a : Int)) = 1 := by rw [IntKind.wrap_i64]; omega
  have wm2 : (m : Int) - (a : Int) = 1 := by omega
  clear hH hk h1 hcmp he ha hm hb hr hlen hlt hk2
  have HL : Live w [] := trivial
  go_enter Tryz.func160, Tryz.ntmps160
  go_wp2
  clear wm wm2
  go_loopg [10, 11] (b - m) (fun g vi vj wr => ∃ (i j mj : Nat) (oj : Array Obj), vi = .int .i64 i ∧ vj = .int .i64 j ∧ m ≤ i ∧ i ≤ j ∧ j ≤ b ∧ j - i ≤ g ∧ wr = sortWorldK enc k w blk off mj d oj ∧ Hid (i = m ∨ ltOf cf d[i - 1]! d[a]! = true) ∧ Hid (j = b ∨ ltOf cf d[j]! d[a]! = false))
  case atStart => exact ⟨m, b, mk, os, rfl, rfl, Nat.le_refl _, hab.2.1, Nat.le_refl _, Nat.le_refl _, rfl, Or.inl rfl, Or.inl rfl⟩
  case round =>
    clear os mk
    obtain ⟨i, j, mk, os, rfl, rfl, hmi, hij, hjb, hg, rfl, C1, C2⟩ := hrel
    obtain ⟨ham, hmb, hbd⟩ := hab
    by_cases hlt : i < j
    · have hltz : (i : Int) < (j : Int) := by omega
      go_upto_region 5 with fail
      have e2 : ((i : Int) + (j : Int)) / 2 = (((i + j) / 2 : Nat) : Int) := by omega
      have hh : i ≤ (i + j) / 2 ∧ (i + j) / 2 < j := by omega
      rw [e2]
      clear e2
      generalize (i + j) / 2 = h at *
      obtain ⟨hih, hhj⟩ := hh
      have hz1 : (h : Int) < (d0.size : Int) := by omega
      have hz2 : (a : Int) < (d0.size : Int) := by omega
      obtain ⟨xj, hxj⟩ : ∃ x, d[h]! = x := ⟨_, rfl⟩
      obtain ⟨xp, hxp⟩ : ∃ x, d[a]! = x := ⟨_, rfl⟩
      have hcls : ∀ n' os', grow ((sortWorldK enc k w blk off mk d os).drewN n') os' = sortWorldK enc k w blk off (mk + n') d (os ++ os') := fun n' os' => sortWorldK_grown_c enc k w blk off mk n' d os os'
      have hHc : ∀ n' os', HoldsK enc k (grow ((sortWorldK enc k w blk off mk d os).drewN n') os') blk off d := fun n' os' => by rw [hcls]; exact holdsK_sortWorldK_c enc k w blk off d0 d _ _ HH.out hblk hd
      have lj : ∀ n' os', Sem.run Tryz.prog (loadCellsFrom ⟨blk, off + (h) * k, none⟩ 0 k #[]) (grow ((sortWorldK enc k w blk off mk d os).drewN n') os') = .ok (enc xj).toArray (grow ((sortWorldK enc k w blk off mk d os).drewN n') os') := fun n' os' => by
        rw [← hxj]; exact run_loadCellsFrom_list Tryz.prog _ _ _ k (HK.out _) (HoldsK.cells (hHc n' os') HK.out (by omega))
      have lp : ∀ n' os', Sem.run Tryz.prog (loadCellsFrom ⟨blk, off + (a) * k, none⟩ 0 k #[]) (grow ((sortWorldK enc k w blk off mk d os).drewN n') os') = .ok (enc xp).toArray (grow ((sortWorldK enc k w blk off mk d os).drewN n') os') := fun n' os' => by
        rw [← hxp]; exact run_loadCellsFrom_list Tryz.prog _ _ _ k (HK.out _) (HoldsK.cells (hHc n' os') HK.out (by omega))
      have hcg : ∀ n' os', Calls Tryz.prog g0 (#[.agg (enc xj).toArray, .agg (enc xp).toArray] ++ cb) (grow ((sortWorldK enc k w blk off mk d os).drewN n') os') fun e w' => e = .returned (.int .i64 (cf xj xp)) ∧ ∃ q os'', w' = grow ((grow ((sortWorldK enc k w blk off mk d os).drewN n') os').drewN q) os'' := fun n' os' => by
        rw [hcls]; exact HC.out _ _ d hd xj xp
      have CLS : Hid _ := hcls
      clear hcls hHc
      obtain ⟨wq, hwq⟩ : ∃ wq, wq = sortWorldK enc k w blk off mk d os := ⟨_, rfl⟩
      rw [← hwq] at lj lp hcg CLS ⊢
      clear hwq
      have HLT : Hid (ltOf cf d[h]! d[a]! = decide (cf xj xp < 0)) := by show _ = _; rw [hxj, hxp]; rfl
      by_cases hlv : cf xj xp < 0
      · go_quiet_grown (first | (go_at_fn g0; refine Calls.grown_of (hcg _ _)))
        go_wp2_with fail
        go_roundg (j - (h + 1))
        case measure => omega
        case rel => exact ⟨h + 1, j, mk + nq, os ++ osq, by first | rfl | go_num, rfl, by omega, by omega, hjb, by omega, CLS.out nq osq, (show _ ∨ _ from Or.inr (by rw [Nat.add_sub_cancel, HLT.out]; exact decide_eq_true hlv)), C2.out⟩
      · go_quiet_grown (first | (go_at_fn g0; refine Calls.grown_of (hcg _ _)))
        go_wp2_with fail
        go_roundg (h - i)
        case measure => omega
        case rel => exact ⟨i, h, mk + nq, os ++ osq, rfl, by first | rfl | go_num, hmi, hih, by omega, by omega, CLS.out nq osq, C1.out, (show _ ∨ _ from Or.inr (by rw [HLT.out]; exact decide_eq_false (by omega)))⟩
    · have hltz : ¬ (i : Int) < (j : Int) := by omega
      obtain rfl : i = j := by omega
      have HM := hide (show mrg (ltOf cf) [x] r = r.take (i - m) ++ x :: r.drop (i - m) from sym_left HSW.out HP.out.1.1 HP.out.1.2.1 HP.out.1.2.2.1 HP.out.1.2.2.2 HP.out.2 ⟨hmi, hjb⟩ C1.out C2.out)
      have wi : IntKind.i64.wrap ((i : Int) - 1) = ((i - 1 : Nat) : Int) := by rw [IntKind.wrap_i64]; omega
      have wi2 : (i : Int) - 1 = ((i - 1 : Nat) : Int) := by omega
      clear C1 C2 hltz hlt HC HSW
      obtain ⟨i1, hi1⟩ : ∃ i1, i1 = i - 1 := ⟨_, rfl⟩
      rw [← hi1] at wi wi2
      have HI := hide hi1
      have hi2 : a ≤ i1 ∧ i1 < d0.size := by omega
      clear hi1
      go_wp2
      go_loopg [13] (i1 - a) (fun g vi wr => ∃ (q mj : Nat) (dj : Array α), vi = .int .i64 q ∧ a ≤ q ∧ q ≤ i1 ∧ i1 - q ≤ g ∧ dj.size = d0.size ∧ wr = sortWorldK enc k w blk off mj dj os ∧ Hid (dj.toList = p ++ (r.take (q - a) ++ x :: (r.drop (q - a) ++ s))))
      case atStart => exact ⟨a, mk, d, rfl, Nat.le_refl _, hi2.1, Nat.le_refl _, hd, rfl, by show _ = _; rw [Nat.sub_self]; exact HP.out.1.1⟩
      case round =>
        clear mk
        obtain ⟨q, mk, dk, rfl, haq, hqi, hg2, hsk, rfl, HO⟩ := hrel
        by_cases hq : q < i1
        · have hqz : (q : Int) < (i1 : Int) := by omega
          have wq1 : IntKind.i64.wrap ((q : Int) + 1) = (q : Int) + 1 := by rw [IntKind.wrap_i64]; omega
          have jz : (q : Int) + 1 < (d0.size : Int) := by omega
          have jz1 : (q : Int) < (d0.size : Int) := by omega
          have p0 : (0 : Int) ≤ (q : Int) + 1 := by omega
          have e0 : ((q : Int) + 1).toNat = q + 1 := by omega
          have hHd : HoldsK enc k (sortWorldK enc k w blk off mk dk os).drew blk off dk := holdsK_sortWorldK_c enc k w blk off d0 dk mk os HH.out hblk hsk
          have bnd : ∀ x, x < dk.size → x * k + k ≤ dk.size * k := fun x hx => by
            have := Nat.mul_le_mul_right k (show x + 1 ≤ dk.size from hx); rwa [Nat.add_mul, Nat.one_mul] at this
          obtain ⟨xi, hxi⟩ : ∃ x, dk[q]! = x := ⟨_, rfl⟩
          obtain ⟨xj, hxj⟩ : ∃ x, dk[q + 1]! = x := ⟨_, rfl⟩
          obtain ⟨wq, hwq⟩ : ∃ wq, wq = sortWorldK enc k w blk off mk dk os := ⟨_, rfl⟩
          rw [← hwq] at hHd ⊢
          have li : Sem.run Tryz.prog (loadCellsFrom ⟨blk, off + (q) * k, none⟩ 0 k #[]) wq.drew = .ok (enc xi).toArray wq.drew := by rw [← hxi]; exact run_loadCellsFrom_list Tryz.prog _ _ _ k (HK.out _) (HoldsK.cells hHd HK.out (by omega))
          have lj : Sem.run Tryz.prog (loadCellsFrom ⟨blk, off + (q + 1) * k, none⟩ 0 k #[]) wq.drew = .ok (enc xj).toArray wq.drew := by rw [← hxj]; exact run_loadCellsFrom_list Tryz.prog _ _ _ k (HK.out _) (HoldsK.cells hHd HK.out (by omega))
          have s1 : Sem.run Tryz.prog (storeCells ⟨blk, off + (q) * k, none⟩ (enc xj) 0) wq.drew = .ok () (wq.drew.setCells blk (off + (q) * k) (enc xj)) := stores_of_holds Tryz.prog hHd ((q) * k) _ (by rw [HK.out, size_flatK]; exact bnd (q) (by omega)) (H1.out _)
          have s2 : Sem.run Tryz.prog (storeCells ⟨blk, off + (q + 1) * k, none⟩ (enc xi) 0) (wq.drew.setCells blk (off + (q) * k) (enc xj)) = .ok () ((wq.drew.setCells blk (off + (q) * k) (enc xj)).setCells blk (off + (q + 1) * k) (enc xi)) :=
            stores_of_holds Tryz.prog (holds_setCells_c hHd ((q) * k) _ (by rw [HK.out, size_flatK]; exact bnd (q) (by omega))) ((q + 1) * k) _ (by rw [HK.out, size_setMany, size_flatK]; exact bnd (q + 1) (by omega)) (H1.out _)
          have hsI : (enc xi).length = k := HK.out _
          have hsJ : (enc xj).length = k := HK.out _
          have HW : Hid (wq = sortWorldK enc k w blk off mk dk os) := hwq
          clear hwq hHd bnd
          obtain ⟨cI, hcI⟩ : ∃ c, c = enc xi := ⟨_, rfl⟩
          obtain ⟨cJ, hcJ⟩ : ∃ c, c = enc xj := ⟨_, rfl⟩
          rw [← hcJ] at s1 lj hsJ
          rw [← hcI] at li hsI
          rw [← hcI, ← hcJ] at s2
          have CC : Hid (cI = enc xi ∧ cJ = enc xj) := ⟨hcI, hcJ⟩
          clear hcI hcJ
          go_wp2_with fail
          go_big_region_o
          all_goals go_wp2
          go_roundg (i1 - (q + 1))
          case measure => omega
          case rel =>
            refine ⟨q + 1, mk + 1, swp dk q (q + 1), by first | rfl | go_num, by omega, by omega, Nat.le_refl _, by rw [swp_size]; exact hsk, ?_, (show _ = _ from ?_)⟩
            · rw [CC.out.1, CC.out.2, HW.out, ← hxi, ← hxj]; exact sortWorldK_swp_c enc k w blk off HK.out mk dk os hblk (q) (q + 1) (by omega) (by omega)
            · obtain ⟨⟨q1, q2, q3, q4⟩, _⟩ := HP.out
              have hI := HI.out
              have ql : q - a < r.length := by omega
              have er : r.drop (q - a) = r[q - a] :: r.drop (q - a + 1) := List.drop_eq_getElem_cons ql
              have et : r.take (q - a + 1) = r.take (q - a) ++ [r[q - a]] := by rw [List.take_add_one, List.getElem?_eq_getElem ql]; rfl
              have e3 : dk.toList = (p ++ r.take (q - a)) ++ x :: ([] ++ r[q - a] :: (r.drop (q - a + 1) ++ s)) := by rw [HO.out, er]; simp only [List.append_assoc, List.cons_append, List.nil_append]
              obtain ⟨e4, _⟩ := swp_list (i := q) (j := q + 1) e3 (by rw [List.length_append, List.length_take]; omega) (by rw [List.length_append, List.length_take, List.length_nil]; omega)
              rw [e4, show q + 1 - a = q - a + 1 by omega, et]
              simp only [List.append_assoc, List.cons_append, List.nil_append]
        · have hqz : ¬ (q : Int) < (i1 : Int) := by omega
          obtain rfl : q = i1 := by omega
          go_wp2
          ((try simp only [Exit.inBlock, Exit.then]); refine bodyPost_ret (results_none rfl _ _ _) rfl ?_)
          refine ⟨rfl, mk, dk, hsk, ?_, os, rfl⟩
          have hI := HI.out
          obtain ⟨⟨q1, q2, q3, q4⟩, _⟩ := HP.out
          rw [HM.out, HO.out, show q - a = i - m by omega]
          simp only [List.append_assoc, List.cons_append]
set_option maxHeartbeats 8000000 in
set_option maxRecDepth 1000000 in
theorem symRight_s (enc : α → List Value) (k : Nat) (hk2 : k = 2) (hk : ∀ x, (enc x).length = k) (h1 : ∀ x, ∀ v ∈ enc x, v.oneCell' = true) (cf : α → α → Int) (hlt : Swo (ltOf cf)) (g0 : Nat) (cb : Array Value) (blk off cap : Nat) (d0 : Array α) (w : World)
    (eg : ∀ args w, (callFunc g0 args).run Tryz.prog w = .ok (.enter g0 args) w) (hcmp : CmpLays Tryz.prog g0 cb enc k cf blk off d0.size w) (hH : HoldsK enc k w blk off d0) (hblk : blk < w.heap.size) (hsz : d0.size < 4611686018427387904)
    (a m b mk : Nat) (os : Array Obj) (p l s : List α) (y : α) (d : Array α) (hd : d.size = d0.size) (he : d.toList = p ++ (l ++ y :: s)) (ha : a = p.length) (hm : m = a + l.length) (hb : b = m + 1) (h2 : 2 ≤ l.length) (hl : Srt (ltOf cf) l) :
    Calls Tryz.prog 160 #[.slice (some ⟨blk, off, none⟩) d0.size cap, .int .i64 a, .int .i64 m, .int .i64 b, .func (.func g0) #[] cb] (sortWorldK enc k w blk off mk d os) fun e w' =>
      e = .returned (.tuple #[]) ∧ ∃ (m' : Nat) (d' : Array α) (os' : Array Obj), d'.size = d0.size ∧ d'.toList = p ++ (mrg (ltOf cf) l [y] ++ s) ∧ w' = sortWorldK enc k w blk off m' d' os' := by
  have aE := agg_s
  have zE : ∀ w, (Go.sizeOf 69).run Tryz.prog w = .ok k w := fun w => by rw [hk2]; exact siz_s w
  have mixed : Tryz.prog.follows .mixedOrders = true := by kernel_rfl
  have hlen : p.length + l.length + 1 + s.length = d0.size := by
    rw [← hd, ← Array.length_toList, he]
    simp only [List.length_append, List.length_cons]
    omega
  have HH : Hid (HoldsK enc k w blk off d0) := hH
  have HK : Hid (∀ x, (enc x).length = k) := hk
  have H1 : Hid (∀ x, ∀ v ∈ enc x, v.oneCell' = true) := h1
  have HC : Aside _ := hcmp
  have HP := hide (show (d.toList = p ++ (l ++ y :: s) ∧ a = p.length ∧ m = a + l.length) ∧ Srt (ltOf cf) l from ⟨⟨he, ha, hm⟩, hl⟩)
  have HSW := hide hlt
  have hab : a ≤ m ∧ m < b ∧ b ≤ d0.size := by omega
  have wm : IntKind.i64.wrap ((b : Int) - (m : Int)) = 1 := by rw [IntKind.wrap_i64]; omega
  have wm2 : (b : Int) - (m : Int) = 1 := by omega
  have wn0 : IntKind.i64.wrap ((m : Int) - (a : Int)) = (m : Int) - (a : Int) := by rw [IntKind.wrap_i64]; omega
  have wn : (((m : Int) - (a : Int)) == 1) = false := by simp; omega
  clear hH hk h1 hcmp he ha hm hb hl hlen hlt hk2 h2
  have HL : Live w [] := trivial
  go_enter Tryz.func160, Tryz.ntmps160
  go_wp2
  clear wm wm2 wn0 wn
  go_loopg [14, 15] (m - a) (fun g vi vj wr => ∃ (i j mj : Nat) (oj : Array Obj), vi = .int .i64 i ∧ vj = .int .i64 j ∧ a ≤ i ∧ i ≤ j ∧ j ≤ m ∧ j - i ≤ g ∧ wr = sortWorldK enc k w blk off mj d oj ∧ Hid (i = a ∨ ltOf cf d[m]! d[i - 1]! = false) ∧ Hid (j = m ∨ ltOf cf d[m]! d[j]! = true))
  case atStart => exact ⟨a, m, mk, os, rfl, rfl, Nat.le_refl _, hab.1, Nat.le_refl _, Nat.le_refl _, rfl, Or.inl rfl, Or.inl rfl⟩
  case round =>
    clear os mk
    obtain ⟨i, j, mk, os, rfl, rfl, hmi, hij, hjb, hg, rfl, C1, C2⟩ := hrel
    obtain ⟨ham, hmb, hbd⟩ := hab
    by_cases hlt : i < j
    · have hltz : (i : Int) < (j : Int) := by omega
      go_upto_region 17 with fail
      have e2 : ((i : Int) + (j : Int)) / 2 = (((i + j) / 2 : Nat) : Int) := by omega
      have hh : i ≤ (i + j) / 2 ∧ (i + j) / 2 < j := by omega
      rw [e2]
      clear e2
      generalize (i + j) / 2 = h at *
      obtain ⟨hih, hhj⟩ := hh
      have hz1 : (h : Int) < (d0.size : Int) := by omega
      have hz2 : (m : Int) < (d0.size : Int) := by omega
      obtain ⟨xj, hxj⟩ : ∃ x, d[m]! = x := ⟨_, rfl⟩
      obtain ⟨xp, hxp⟩ : ∃ x, d[h]! = x := ⟨_, rfl⟩
      have hcls : ∀ n' os', grow ((sortWorldK enc k w blk off mk d os).drewN n') os' = sortWorldK enc k w blk off (mk + n') d (os ++ os') := fun n' os' => sortWorldK_grown_c enc k w blk off mk n' d os os'
      have hHc : ∀ n' os', HoldsK enc k (grow ((sortWorldK enc k w blk off mk d os).drewN n') os') blk off d := fun n' os' => by rw [hcls]; exact holdsK_sortWorldK_c enc k w blk off d0 d _ _ HH.out hblk hd
      have lj : ∀ n' os', Sem.run Tryz.prog (loadCellsFrom ⟨blk, off + (m) * k, none⟩ 0 k #[]) (grow ((sortWorldK enc k w blk off mk d os).drewN n') os') = .ok (enc xj).toArray (grow ((sortWorldK enc k w blk off mk d os).drewN n') os') := fun n' os' => by
        rw [← hxj]; exact run_loadCellsFrom_list Tryz.prog _ _ _ k (HK.out _) (HoldsK.cells (hHc n' os') HK.out (by omega))
      have lp : ∀ n' os', Sem.run Tryz.prog (loadCellsFrom ⟨blk, off + (h) * k, none⟩ 0 k #[]) (grow ((sortWorldK enc k w blk off mk d os).drewN n') os') = .ok (enc xp).toArray (grow ((sortWorldK enc k w blk off mk d os).drewN n') os') := fun n' os' => by
        rw [← hxp]; exact run_loadCellsFrom_list Tryz.prog _ _ _ k (HK.out _) (HoldsK.cells (hHc n' os') HK.out (by omega))
      have hcg : ∀ n' os', Calls Tryz.prog g0 (#[.agg (enc xj).toArray, .agg (enc xp).toArray] ++ cb) (grow ((sortWorldK enc k w blk off mk d os).drewN n') os') fun e w' => e = .returned (.int .i64 (cf xj xp)) ∧ ∃ q os'', w' = grow ((grow ((sortWorldK enc k w blk off mk d os).drewN n') os').drewN q) os'' := fun n' os' => by
        rw [hcls]; exact HC.out _ _ d hd xj xp
      have CLS : Hid _ := hcls
      clear hcls hHc
      obtain ⟨wq, hwq⟩ : ∃ wq, wq = sortWorldK enc k w blk off mk d os := ⟨_, rfl⟩
      rw [← hwq] at lj lp hcg CLS ⊢
      clear hwq
      have HLT : Hid (ltOf cf d[m]! d[h]! = decide (cf xj xp < 0)) := by show _ = _; rw [hxj, hxp]; rfl
      by_cases hlv : cf xj xp < 0
      · go_quiet_grown (first | (go_at_fn g0; refine Calls.grown_of (hcg _ _)))
        go_wp2_with fail
        go_roundg (h - i)
        case measure => omega
        case rel => exact ⟨i, h, mk + nq, os ++ osq, rfl, by first | rfl | go_num, hmi, hih, by omega, by omega, CLS.out nq osq, C1.out, (show _ ∨ _ from Or.inr (by rw [HLT.out]; exact decide_eq_true hlv))⟩
      · go_quiet_grown (first | (go_at_fn g0; refine Calls.grown_of (hcg _ _)))
        go_wp2_with fail
        go_roundg (j - (h + 1))
        case measure => omega
        case rel => exact ⟨h + 1, j, mk + nq, os ++ osq, by first | rfl | go_num, rfl, by omega, by omega, hjb, by omega, CLS.out nq osq, (show _ ∨ _ from Or.inr (by rw [Nat.add_sub_cancel, HLT.out]; exact decide_eq_false (by omega))), C2.out⟩
    · have hltz : ¬ (i : Int) < (j : Int) := by omega
      obtain rfl : i = j := by omega
      have HM := hide (show mrg (ltOf cf) l [y] = l.take (i - a) ++ y :: l.drop (i - a) from sym_right HSW.out HP.out.1.1 HP.out.1.2.1 HP.out.1.2.2 HP.out.2 ⟨hmi, hjb⟩ C1.out C2.out)
      clear C1 C2 hltz hlt HC HSW
      go_wp2
      go_loopg [17] (m - i) (fun g vi wr => ∃ (q mj : Nat) (dj : Array α), vi = .int .i64 q ∧ i ≤ q ∧ q ≤ m ∧ q - i ≤ g ∧ dj.size = d0.size ∧ wr = sortWorldK enc k w blk off mj dj os ∧ Hid (dj.toList = p ++ (l.take (q - a) ++ y :: (l.drop (q - a) ++ s))))
      case atStart => exact ⟨m, mk, d, rfl, hjb, Nat.le_refl _, Nat.le_refl _, hd, rfl, by
        show _ = _
        have hma := HP.out.1.2.2
        rw [List.take_of_length_le (by omega), List.drop_of_length_le (by omega)]
        exact HP.out.1.1⟩
      case round =>
        clear mk
        obtain ⟨q, mk, dk, rfl, haq, hqi, hg2, hsk, rfl, HO⟩ := hrel
        by_cases hq : i < q
        · obtain ⟨qp, rfl⟩ : ∃ qp, q = qp + 1 := ⟨q - 1, by omega⟩
          have hqz : (i : Int) < (qp : Int) + 1 := by omega
          have hqz2 : (qp : Int) + 1 > (i : Int) := by omega
          have wq0 : IntKind.i64.wrap (qp : Int) = (qp : Int) := by rw [IntKind.wrap_i64]; omega
          have jz : (qp : Int) + 1 < (d0.size : Int) := by omega
          have jz1 : (qp : Int) < (d0.size : Int) := by omega
          have p0 : (0 : Int) ≤ (qp : Int) + 1 := by omega
          have e0 : ((qp : Int) + 1).toNat = qp + 1 := by omega
          have hHd : HoldsK enc k (sortWorldK enc k w blk off mk dk os).drew blk off dk := holdsK_sortWorldK_c enc k w blk off d0 dk mk os HH.out hblk hsk
          have bnd : ∀ x, x < dk.size → x * k + k ≤ dk.size * k := fun x hx => by
            have := Nat.mul_le_mul_right k (show x + 1 ≤ dk.size from hx); rwa [Nat.add_mul, Nat.one_mul] at this
          obtain ⟨xi, hxi⟩ : ∃ x, dk[qp + 1]! = x := ⟨_, rfl⟩
          obtain ⟨xj, hxj⟩ : ∃ x, dk[qp]! = x := ⟨_, rfl⟩
          obtain ⟨wq, hwq⟩ : ∃ wq, wq = sortWorldK enc k w blk off mk dk os := ⟨_, rfl⟩
          rw [← hwq] at hHd ⊢
          have li : Sem.run Tryz.prog (loadCellsFrom ⟨blk, off + (qp + 1) * k, none⟩ 0 k #[]) wq.drew = .ok (enc xi).toArray wq.drew := by rw [← hxi]; exact run_loadCellsFrom_list Tryz.prog _ _ _ k (HK.out _) (HoldsK.cells hHd HK.out (by omega))
          have lj : Sem.run Tryz.prog (loadCellsFrom ⟨blk, off + (qp) * k, none⟩ 0 k #[]) wq.drew = .ok (enc xj).toArray wq.drew := by rw [← hxj]; exact run_loadCellsFrom_list Tryz.prog _ _ _ k (HK.out _) (HoldsK.cells hHd HK.out (by omega))
          have s1 : Sem.run Tryz.prog (storeCells ⟨blk, off + (qp + 1) * k, none⟩ (enc xj) 0) wq.drew = .ok () (wq.drew.setCells blk (off + (qp + 1) * k) (enc xj)) := stores_of_holds Tryz.prog hHd ((qp + 1) * k) _ (by rw [HK.out, size_flatK]; exact bnd (qp + 1) (by omega)) (H1.out _)
          have s2 : Sem.run Tryz.prog (storeCells ⟨blk, off + (qp) * k, none⟩ (enc xi) 0) (wq.drew.setCells blk (off + (qp + 1) * k) (enc xj)) = .ok () ((wq.drew.setCells blk (off + (qp + 1) * k) (enc xj)).setCells blk (off + (qp) * k) (enc xi)) :=
            stores_of_holds Tryz.prog (holds_setCells_c hHd ((qp + 1) * k) _ (by rw [HK.out, size_flatK]; exact bnd (qp + 1) (by omega))) ((qp) * k) _ (by rw [HK.out, size_setMany, size_flatK]; exact bnd (qp) (by omega)) (H1.out _)
          have hsI : (enc xi).length = k := HK.out _
          have hsJ : (enc xj).length = k := HK.out _
          have HW : Hid (wq = sortWorldK enc k w blk off mk dk os) := hwq
          clear hwq hHd bnd
          obtain ⟨cI, hcI⟩ : ∃ c, c = enc xi := ⟨_, rfl⟩
          obtain ⟨cJ, hcJ⟩ : ∃ c, c = enc xj := ⟨_, rfl⟩
          rw [← hcJ] at s1 lj hsJ
          rw [← hcI] at li hsI
          rw [← hcI, ← hcJ] at s2
          have CC : Hid (cI = enc xi ∧ cJ = enc xj) := ⟨hcI, hcJ⟩
          clear hcI hcJ
          go_wp2_with fail
          go_big_region_o
          all_goals go_wp2
          go_roundg (qp - i)
          case measure => omega
          case rel =>
            refine ⟨qp, mk + 1, swp dk (qp + 1) qp, by first | rfl | go_num | (congr 1; omega), by omega, by omega, Nat.le_refl _, by rw [swp_size]; exact hsk, ?_, (show _ = _ from ?_)⟩
            · rw [CC.out.1, CC.out.2, HW.out, ← hxi, ← hxj]; exact sortWorldK_swp_c enc k w blk off HK.out mk dk os hblk (qp + 1) (qp) (by omega) (by omega)
            · obtain ⟨⟨q1, q2, q3⟩, _⟩ := HP.out
              have ql : qp - a < l.length := by omega
              have er : l.drop (qp - a) = l[qp - a] :: l.drop (qp - a + 1) := List.drop_eq_getElem_cons ql
              have et : l.take (qp - a + 1) = l.take (qp - a) ++ [l[qp - a]] := by rw [List.take_add_one, List.getElem?_eq_getElem ql]; rfl
              have hO := HO.out
              rw [show qp + 1 - a = qp - a + 1 by omega, et] at hO
              have e3 : dk.toList = (p ++ l.take (qp - a)) ++ l[qp - a] :: ([] ++ y :: (l.drop (qp - a + 1) ++ s)) := by rw [hO]; simp only [List.append_assoc, List.cons_append, List.nil_append]
              obtain ⟨_, e4⟩ := swp_list (i := qp) (j := qp + 1) e3 (by rw [List.length_append, List.length_take]; omega) (by rw [List.length_append, List.length_take, List.length_nil]; omega)
              rw [e4, er]
              simp only [List.append_assoc, List.cons_append, List.nil_append]
        · have hqz : ¬ (i : Int) < (q : Int) := by omega
          have hqz2 : ¬ (q : Int) > (i : Int) := by omega
          obtain rfl : q = i := by omega
          go_wp2
          ((try simp only [Exit.inBlock, Exit.then]); refine bodyPost_ret (results_none rfl _ _ _) rfl ?_)
          refine ⟨rfl, mk, dk, hsk, ?_, os, rfl⟩
          rw [HM.out, HO.out]
          simp only [List.append_assoc, List.cons_append]
end
end Go.Proofs.YtlhakdildbplkaaGreatDoor
