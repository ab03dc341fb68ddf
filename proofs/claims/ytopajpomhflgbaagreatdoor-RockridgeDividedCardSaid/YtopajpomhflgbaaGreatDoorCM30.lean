/- Contract of the law's split. -/
import Derived.Test.YtopajpomhflgbaaGreatDoorCM29
import Derived.Test.YtopajpomhflgbaaGreatDoorCM27
namespace Go.Proofs.YtopajpomhflgbaaGreatDoor
set_option linter.unusedSimpArgs false
set_option linter.unusedVariables false
open Go.RowKit

theorem cat_one (x : UInt8) (b : ByteArray) : ByteArray.mk #[x] ++ b = cat2 [x] b := by
  conv => lhs; rw [arr_of b]
  exact cat_arr [x] b.data.toList
def SplE (F : List En) (w : World) (e : Ending) (w' : World) : Prop := ∃ v, e = .returned v ∧ OwnE w.heap.size F v w' ∧ Below w.heap.size w w'
set_option maxRecDepth 100000 in
set_option maxHeartbeats 4000000 in
theorem split_any (sig s : ByteArray) (ns : List Int) (a : Value) (w : World) (hs : s.size ≤ 100000) (hn : ns.length ≤ 1000) (ha : ReadsI w a ns) : Calls Tryz.prog 19 #[.string sig, .string s, a] w (SplE (splitF sig ns s) w) := by
  obtain ⟨A, c, rfl, hA⟩ := ha
  have HA := hide hA
  clear hA
  have HL : Live w [] := trivial
  go_enter Tryz.func19, Tryz.ntmps19
  go_wp2_with fail
  go_loopw [1, 7, 12] (fun sv o c wr => ∃ (k : Nat) (done : List En) (x : ByteArray), k ≤ ns.length ∧ c = .int .i64 k ∧ sv = .string x ∧ OwnE w.heap.size done o wr ∧ splitF sig ns s = done ++ splitF sig (ns.drop k) x ∧ x.size ≤ s.size ∧ done.length ≤ k ∧ Below w.heap.size w wr) (fun _ _ c _ => ns.length - (intOf c).toNat)
  case atStart => exact ⟨0, [], s, by omega, rfl, rfl, World.ownsRow_nil _ _ _ _, rfl, by omega, by simp, Below.refl _ _⟩
  case round =>
    obtain ⟨k, done, x, hk, rfl, rfl, hown, heq, hx, hdn, hbel⟩ := hrel
    have HW := hide hown
    have HE := hide heq
    clear hown heq
    have hsz := hbel.size
    by_cases hlt : k < ns.length
    · obtain ⟨n, hy⟩ : ∃ n, ns[k]? = some n := ⟨_, List.getElem?_eq_getElem hlt⟩
      obtain ⟨g, o, rfl, hg, hc⟩ := HA.out (by omega)
      have c0 : wr.cell? ⟨g, o + k, none⟩ = some (.int .i64 n) := (hbel.cell (p := ⟨g, _, none⟩) hg).trans (hc _ _ hy)
      have hd : ns.drop k = n :: ns.drop (k + 1) := by
        obtain ⟨hi, e⟩ := List.getElem?_eq_some_iff.1 hy
        rw [List.drop_eq_getElem_cons hi, e]
      have HD := hide hd
      clear hc hy hd
      by_cases hb : n < 0 ∨ (x.size : Int) < n
      · have HE2 := hide (show splitF sig ns s = done ++ splitF sig (ns.drop (k + 1)) x by rw [HE.out, HD.out, splitF_bad hb])
        rcases hb with hb | hb
        · go_wp2
          go_roundw
          case rel => exact ⟨k + 1, done, x, by omega, by go_num, rfl, HW.out, HE2.out, hx, by omega, hbel⟩
          case measure => simp [intOf]; omega
        · have hb0 : ¬ n < 0 := by omega
          go_wp2
          go_roundw
          case rel => exact ⟨k + 1, done, x, by omega, by go_num, rfl, HW.out, HE2.out, hx, by omega, hbel⟩
          case measure => simp [intOf]; omega
      · have h0 : 0 ≤ n := by omega
        have hnx : n ≤ x.size := by omega
        obtain ⟨m, rfl⟩ := Int.eq_ofNat_of_zero_le h0
        have HE2 := hide (show splitF sig ns s = (done ++ [⟨sig, 1, cat2 [1] (x.extract 0 m)⟩]) ++ splitF sig (ns.drop (k + 1)) (x.extract m x.size) by
          rw [HE.out, HD.out, splitF_cut h0 hnx]; simp)
        have hmx : m ≤ x.size := by omega
        clear hb h0 hnx
        go_wp2_with (at_builtin; refine wpList_append_one _ rfl _ _ 26 rfl w.heap.size 32 entInfo Tryz.underlying26 rfl (by decide) _ _ _ HW.out #[.string sig, .int .i64 1, .string (ByteArray.mk #[1] ++ x.extract 0 m)] rfl rfl rfl (by simp [Value.oneCell']) (by unfold maxLen; omega) (by omega) hsz ?_; intro v2 w2 hown2 hb2 hot2 hz2)
        have hown2 := hide (OwnE.snoc (y := ⟨sig, 1, ByteArray.mk #[1] ++ x.extract 0 m⟩) hown2)
        rw [cat_one] at hown2
        go_roundw
        case rel => exact ⟨k + 1, _, _, by omega, by go_num, rfl, hown2.out, HE2.out, by simp; omega, by simp; omega, hbel.trans hb2⟩
        case measure => simp [intOf]; omega
    · obtain rfl : k = ns.length := by omega
      have HE2 := hide (show splitF sig ns s = done ++ [⟨sig, 1, cat2 [0] x⟩] by rw [HE.out, List.drop_length]; rfl)
      go_wp2_with (at_builtin; refine wpList_append_one _ rfl _ _ 26 rfl w.heap.size 32 entInfo Tryz.underlying26 rfl (by decide) _ _ _ HW.out #[.string sig, .int .i64 1, .string (ByteArray.mk #[0] ++ x)] rfl rfl rfl (by simp [Value.oneCell']) (by unfold maxLen; omega) (by omega) hsz ?_; intro v2 w2 hown2 hb2 hot2 hz2)
      have hown2 := hide (OwnE.snoc (y := ⟨sig, 1, ByteArray.mk #[0] ++ x⟩) hown2)
      rw [cat_one] at hown2
      go_ret
      exact ⟨_, rfl, by rw [HE2.out]; exact hown2.out, hbel.trans hb2⟩
end Go.Proofs.YtopajpomhflgbaaGreatDoor
