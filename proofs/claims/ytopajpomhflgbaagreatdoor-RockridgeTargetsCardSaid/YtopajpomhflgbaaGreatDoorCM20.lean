/- The statement RockridgeTargets, walked. -/
import Derived.Test.YtopajpomhflgbaaGreatDoorCM17
namespace Go.Proofs.YtopajpomhflgbaaGreatDoor
set_option linter.unusedSimpArgs false
set_option linter.unusedVariables false
open Go.RowKit

theorem decT_err {s : ByteArray} {c : Int} : ∀ {k p : Nat} {abs : Bool} {parts : List (List UInt8)} {part : List UInt8} {on : Bool}, decT s k p abs parts part on = .err c → c = 10 ∨ c = 14
  | 0, _, _, _, _, _, h => by cases h
  | k + 1, p, abs, parts, part, on, h => by
    unfold decT at h
    split at h
    · cases h
    split at h
    · injection h with h; exact Or.inl h.symm
    split at h
    · exact decT_err h
    split at h
    · exact decT_err h
    split at h
    · split at h
      · injection h with h; exact Or.inl h.symm
      · split at h
        · exact decT_err h
        · exact decT_err h
    · injection h with h; exact Or.inr h.symm
theorem tgt_cases (s : ByteArray) : tgtR (decF s 0 false [] [] false) = .returned (.tuple #[.string ⟨#[]⟩, .int .i64 10]) ∨ tgtR (decF s 0 false [] [] false) = .returned (.tuple #[.string ⟨#[]⟩, .int .i64 14]) ∨ ∃ t, targetB t = true ∧ tgtR (decF s 0 false [] [] false) = .returned (.tuple #[.string t, .int .i64 0]) := by
  cases h : decF s 0 false [] [] false with
  | err c =>
    rcases decT_err h with rfl | rfl
    · exact Or.inl rfl
    · exact Or.inr (Or.inl rfl)
  | fin abs parts on =>
    unfold tgtR
    simp only
    split
    · exact Or.inl rfl
    · rename_i hn
      refine Or.inr (Or.inr ⟨_, ?_, rfl⟩)
      cases hb : targetB (tgtS abs parts)
      · exact absurd (Or.inr hb) hn
      · rfl
theorem tgt_is (s : ByteArray) (v : Ending) (h : tgtR (decF s 0 false [] [] false) = v) (hs : s.size ≤ 20000) (w : World) (hT : TabV w) : Calls Tryz.prog 17 #[.string s] w fun e w' => e = v ∧ Below w.heap.size w w' := by
  rw [← h]; exact tgt_any s hs w hT
set_option maxRecDepth 100000 in
set_option maxHeartbeats 4000000 in
theorem law_targets (t s : ByteArray) (w : World) (hT : TabV w) (ht : t.size ≤ maxLen) (hs : s.size ≤ maxLen) : Calls Tryz.prog 4 #[.string t, .string s] w fun e w' => e = .returned (.bool true) ∧ Below w.heap.size w w' := by
  unfold maxLen at ht hs
  have HL : Live w [] := trivial
  go_enter Tryz.func4, Tryz.ntmps4
  go_wp2_with fail
  refine (awake_any _ hT).mono ?_
  rintro e w1 ⟨rfl, hb1⟩
  have hT1 := hT.below hb1
  have hz1 := hb1.size
  by_cases h1 : t.size ≤ 400
  case neg =>
    go_wp2_with fail
    go_ret
    exact ⟨rfl, hb1⟩
  by_cases h2 : s.size ≤ 400
  case neg =>
    go_wp2_with fail
    go_ret
    exact ⟨rfl, hb1⟩
  have hR : ∀ (x : ByteArray) (hx : targetB x = true) (W : World), Calls Tryz.prog 16 #[.string x] W fun e w' => e = .returned (.bool true) ∧ Below W.heap.size W w' := fun x hx W => by
    have := rtarget_any x (by have := target_len hx; omega) W
    rw [hx] at this
    exact this
  have HR := hide hR
  clear hR
  have TC := tgt_cases s
  cases htb : targetB t
  · have HN : Hid (∀ W, Calls Tryz.prog 16 #[.string t] W fun e w' => e = .returned (.bool false) ∧ Below W.heap.size W w') := hide (fun W => by
      have := rtarget_any t (by omega) W
      rw [htb] at this
      exact this)
    have HC := hide (comps_no t (by omega) htb _ hT1)
    clear htb
    go_wp2_with fail
    refine HC.out.mono ?_
    rintro e w2 ⟨rfl, hb2⟩
    have hT2 := hT1.below hb2
    have hz2 := hb2.size
    go_wp2_with fail
    refine (HN.out _).mono ?_
    rintro e w3 ⟨rfl, hb3⟩
    have hT3 := hT2.below hb3
    have hz3 := hb3.size
    rcases TC with hts | hts | ⟨u, hu, hts⟩
    · have HT := hide (tgt_is s _ hts (by omega) _ hT3)
      clear hts
      go_wp2_with fail
      refine HT.out.mono ?_
      rintro e w4 ⟨rfl, hb4⟩
      go_wp2_with fail
      go_ret
      exact ⟨rfl, by (repeat' (first | (with_reducible exact Below.refl _ _) | (with_reducible refine Below.alloc ?_ ?_ _) | (with_reducible refine Below.setCell ?_ ?_ _) | (with_reducible refine Below.drew ?_) | (with_reducible refine below_drewN' ?_) | (with_reducible refine below_bytesW ?_ ?_) | (with_reducible refine Below.trans ?_ (Below.mono (by assumption) ?_)) | omega | (simp only [World.size_alloc, World.size_setCell, World.size_drew]; omega) | (simp [size_bytesW]; omega) | (simp; omega)))⟩
    · have HT := hide (tgt_is s _ hts (by omega) _ hT3)
      clear hts
      go_wp2_with fail
      refine HT.out.mono ?_
      rintro e w4 ⟨rfl, hb4⟩
      go_wp2_with fail
      go_ret
      exact ⟨rfl, by (repeat' (first | (with_reducible exact Below.refl _ _) | (with_reducible refine Below.alloc ?_ ?_ _) | (with_reducible refine Below.setCell ?_ ?_ _) | (with_reducible refine Below.drew ?_) | (with_reducible refine below_drewN' ?_) | (with_reducible refine below_bytesW ?_ ?_) | (with_reducible refine Below.trans ?_ (Below.mono (by assumption) ?_)) | omega | (simp only [World.size_alloc, World.size_setCell, World.size_drew]; omega) | (simp [size_bytesW]; omega) | (simp; omega)))⟩
    · have HT := hide (tgt_is s _ hts (by omega) _ hT3)
      have HU := hide hu
      have hl := target_len hu
      clear hts hu
      go_wp2_with fail
      refine HT.out.mono ?_
      rintro e w4 ⟨rfl, hb4⟩
      have hT4 := hT3.below hb4
      have hz4 := hb4.size
      go_wp2_with fail
      refine (comps_yes u HU.out _ hT4).mono ?_
      rintro e w5 ⟨rfl, hb5⟩
      have hT5 := hT4.below hb5
      have hz5 := hb5.size
      go_wp2_with fail
      refine (tgt_comps u HU.out _ hT5).mono ?_
      rintro e w6 ⟨rfl, hb6⟩
      have hz6 := hb6.size
      go_wp2_with fail
      refine (HR.out u HU.out _).mono ?_
      rintro e w7 ⟨rfl, hb7⟩
      go_wp2_with fail
      go_ret
      exact ⟨rfl, by (repeat' (first | (with_reducible exact Below.refl _ _) | (with_reducible refine Below.alloc ?_ ?_ _) | (with_reducible refine Below.setCell ?_ ?_ _) | (with_reducible refine Below.drew ?_) | (with_reducible refine below_drewN' ?_) | (with_reducible refine below_bytesW ?_ ?_) | (with_reducible refine Below.trans ?_ (Below.mono (by assumption) ?_)) | omega | (simp only [World.size_alloc, World.size_setCell, World.size_drew]; omega) | (simp [size_bytesW]; omega) | (simp; omega)))⟩
  · have HC := hide (comps_yes t htb _ hT1)
    have HB := hide htb
    clear htb
    go_wp2_with fail
    refine HC.out.mono ?_
    rintro e w2 ⟨rfl, hb2⟩
    have hT2 := hT1.below hb2
    have hz2 := hb2.size
    go_wp2_with fail
    refine (HR.out t HB.out _).mono ?_
    rintro e w3 ⟨rfl, hb3⟩
    have hT3 := hT2.below hb3
    have hz3 := hb3.size
    go_wp2_with fail
    refine (tgt_comps t HB.out _ hT3).mono ?_
    rintro e w4 ⟨rfl, hb4⟩
    have hT4 := hT3.below hb4
    have hz4 := hb4.size
    rcases TC with hts | hts | ⟨u, hu, hts⟩
    · have HT := hide (tgt_is s _ hts (by omega) _ hT4)
      clear hts
      go_wp2_with fail
      refine HT.out.mono ?_
      rintro e w5 ⟨rfl, hb5⟩
      go_wp2_with fail
      go_ret
      exact ⟨rfl, by (repeat' (first | (with_reducible exact Below.refl _ _) | (with_reducible refine Below.alloc ?_ ?_ _) | (with_reducible refine Below.setCell ?_ ?_ _) | (with_reducible refine Below.drew ?_) | (with_reducible refine below_drewN' ?_) | (with_reducible refine below_bytesW ?_ ?_) | (with_reducible refine Below.trans ?_ (Below.mono (by assumption) ?_)) | omega | (simp only [World.size_alloc, World.size_setCell, World.size_drew]; omega) | (simp [size_bytesW]; omega) | (simp; omega)))⟩
    · have HT := hide (tgt_is s _ hts (by omega) _ hT4)
      clear hts
      go_wp2_with fail
      refine HT.out.mono ?_
      rintro e w5 ⟨rfl, hb5⟩
      go_wp2_with fail
      go_ret
      exact ⟨rfl, by (repeat' (first | (with_reducible exact Below.refl _ _) | (with_reducible refine Below.alloc ?_ ?_ _) | (with_reducible refine Below.setCell ?_ ?_ _) | (with_reducible refine Below.drew ?_) | (with_reducible refine below_drewN' ?_) | (with_reducible refine below_bytesW ?_ ?_) | (with_reducible refine Below.trans ?_ (Below.mono (by assumption) ?_)) | omega | (simp only [World.size_alloc, World.size_setCell, World.size_drew]; omega) | (simp [size_bytesW]; omega) | (simp; omega)))⟩
    · have HT := hide (tgt_is s _ hts (by omega) _ hT4)
      have HU := hide hu
      have hl := target_len hu
      clear hts hu
      go_wp2_with fail
      refine HT.out.mono ?_
      rintro e w5 ⟨rfl, hb5⟩
      have hT5 := hT4.below hb5
      have hz5 := hb5.size
      go_wp2_with fail
      refine (comps_yes u HU.out _ hT5).mono ?_
      rintro e w6 ⟨rfl, hb6⟩
      have hT6 := hT5.below hb6
      have hz6 := hb6.size
      go_wp2_with fail
      refine (tgt_comps u HU.out _ hT6).mono ?_
      rintro e w7 ⟨rfl, hb7⟩
      have hz7 := hb7.size
      go_wp2_with fail
      refine (HR.out u HU.out _).mono ?_
      rintro e w8 ⟨rfl, hb8⟩
      go_wp2_with fail
      go_ret
      exact ⟨rfl, by (repeat' (first | (with_reducible exact Below.refl _ _) | (with_reducible refine Below.alloc ?_ ?_ _) | (with_reducible refine Below.setCell ?_ ?_ _) | (with_reducible refine Below.drew ?_) | (with_reducible refine below_drewN' ?_) | (with_reducible refine below_bytesW ?_ ?_) | (with_reducible refine Below.trans ?_ (Below.mono (by assumption) ?_)) | omega | (simp only [World.size_alloc, World.size_setCell, World.size_drew]; omega) | (simp [size_bytesW]; omega) | (simp; omega)))⟩
end Go.Proofs.YtopajpomhflgbaaGreatDoor
