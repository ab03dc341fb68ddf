/- Contracts and plain words for the laws of this chapter, part 24: Qd. No condition. -/
import Derived.Test.YtocgindpjjolpaaGreatDoorG22
import Derived.Test.YtocgindpjjolpaaGreatDoorG23
namespace Go.Proofs.YtocgindpjjolpaaGreatDoor
set_option linter.unusedSimpArgs false
set_option linter.unusedVariables false
open Go.RowKit
theorem SlR.of_blk {w : World} {g : Nat} {cs : Array Value} {l : List ByteArray} (h : Blk w g cs 9) (e : cs = (strV l).toArray) : SlR w w.heap.size (.slice (some ⟨g, 0, none⟩) l.length l.length) l :=
  ⟨_, _, rfl, fun _ => ⟨g, 0, rfl, h.lt, fun j s hj => by
    rw [Nat.zero_add, h.cells j, e, ← Array.getElem?_toList]
    unfold strV
    rw [List.getElem?_map, hj]
    rfl⟩⟩
theorem SlR.lit3 (w : World) (a b c : ByteArray) : SlR (w.alloc (.cells #[.string a, .string b, .string c] 9)) (w.alloc (.cells #[.string a, .string b, .string c] 9)).heap.size (.slice (some ⟨w.heap.size, 0, none⟩) 3 3) [a, b, c] := SlR.of_blk (l := [a, b, c]) (Blk.newAt rfl) rfl
theorem SlR.lit2 (w : World) (a b : ByteArray) : SlR (w.alloc (.cells #[.string a, .string b] 9)) (w.alloc (.cells #[.string a, .string b] 9)).heap.size (.slice (some ⟨w.heap.size, 0, none⟩) 2 2) [a, b] := SlR.of_blk (l := [a, b]) (Blk.newAt rfl) rfl
theorem SlR.lit1 (w : World) (a : ByteArray) : SlR (w.alloc (.cells #[.string a] 9)) (w.alloc (.cells #[.string a] 9)).heap.size (.slice (some ⟨w.heap.size, 0, none⟩) 1 1) [a] := SlR.of_blk (l := [a]) (Blk.newAt rfl) rfl
theorem SlF.later2 {w w' : World} {v : Value} {l : List Ext} (h : SlF w w.heap.size v l) (hb : Below w.heap.size w w') : SlF w' w'.heap.size v l := (h.below hb).mono hb.size
theorem SlF.lit3 (w : World) (a b c : Ext) : SlF (w.alloc (.cells #[.string a.path, .int .i64 a.start, .int .i64 a.len, .string b.path, .int .i64 b.start, .int .i64 b.len, .string c.path, .int .i64 c.start, .int .i64 c.len] 69)) (w.alloc (.cells #[.string a.path, .int .i64 a.start, .int .i64 a.len, .string b.path, .int .i64 b.start, .int .i64 b.len, .string c.path, .int .i64 c.start, .int .i64 c.len] 69)).heap.size (.slice (some ⟨w.heap.size, 0, none⟩) 3 3) [a, b, c] := by
  refine ⟨_, _, rfl, fun _ => ⟨w.heap.size, 0, rfl, by rw [World.size_alloc]; exact Nat.lt_succ_self _, fun j f hf i u hu => ?_⟩⟩
  have h := (Blk.newAt rfl : Blk (w.alloc (.cells #[.string a.path, .int .i64 a.start, .int .i64 a.len, .string b.path, .int .i64 b.start, .int .i64 b.len, .string c.path, .int .i64 c.start, .int .i64 c.len] 69)) w.heap.size _ _).cells (0 + j * 3 + i)
  refine h.trans ?_
  rw [Nat.zero_add]
  have h2 := extV_at (l := [a, b, c]) hf i u hu
  rw [← h2, ← Array.getElem?_toList]
  rfl
abbrev exFs : List Ext := [⟨exDB, 20, 10⟩, ⟨exA, 21, 3000⟩, ⟨exCn, 23, 1⟩]
theorem exFs_ok : (∀ f ∈ exFs, extOK f) ∧ (∀ p ∈ [exCn, exA], p.size ≤ 2000000) ∧ (∀ p ∈ [exDB, exA, exCn], p.size ≤ 2000000) := by
  unfold extOK
  decide
set_option maxRecDepth 100000 in
set_option maxHeartbeats 8000000 in
theorem awake_any (w : World) (hT : TabV w) : Calls Tryz.prog 11 #[] w fun e w' => e = .returned (.bool true) ∧ Below w.heap.size w w' := by
  have TR := hide (fun W => tree_any W)
  have BW := hide (show ∀ W v, TabV W → TreeR W W.heap.size v exT → Calls Tryz.prog 18 #[v] W fun e w' => ∃ r, e = .returned r ∧ StrsR w' W.heap.size r [exDB, exA, exCn] ∧ Below W.heap.size W w' from fun W v h1 h2 => by have h := byWeight_any exT (by have := ex_sz; omega) v W h1 h2; rw [ex_byW] at h; exact h)
  have PL := hide (show ∀ W v vo, TabV W → TreeR W W.heap.size v exT → SlR W W.heap.size vo [exDB, exA, exCn] → Calls Tryz.prog 22 #[v, vo, .int .i64 20] W fun e w' => ∃ r, e = .returned (.tuple #[r, .int .i64 0]) ∧ w'.ownsRow W.heap.size 69 3 r exFs.length (extV exFs) ∧ Below W.heap.size W w' from fun W v vo h1 h2 h3 => by have h := place_any exT [exDB, exA, exCn] 20 (by have := ex_sz; omega) (by decide) exFs_ok.2.2 (by omega) v vo W h1 h2 h3; rw [ex_place] at h; exact h)
  have CO := hide (show ∀ W v vo, SlF W W.heap.size v exFs → SlR W W.heap.size vo [exCn, exA] → Calls Tryz.prog 27 #[v, vo] W fun e w' => e = .returned (.tuple #[.int .i64 26, .int .i64 0]) ∧ Below W.heap.size W w' from fun W v vo h1 h2 => by have h := cost_any exFs [exCn, exA] exFs_ok.1 exFs_ok.2.1 (by decide) (by decide) v vo W h1 h2; rw [ex_cost] at h; exact h)
  have BE := hide (show ∀ W v vo, TabV W → TreeR W W.heap.size v exT → SlR W W.heap.size vo [exCn, exA] → Calls Tryz.prog 29 #[v, vo] W fun e w' => ∃ r, e = .returned (.tuple #[r, .int .i64 0]) ∧ StrsR w' W.heap.size r [exCn, exA, exDB] ∧ Below W.heap.size W w' from fun W v vo h1 h2 h3 => by have h := best_any exT [exCn, exA] (by have := ex_sz; omega) (by decide) exFs_ok.2.1 v vo W h1 h2 h3; rw [ex_best] at h; exact h)
  have BA := hide (show ∀ W v vo, TabV W → TreeR W W.heap.size v exT → SlR W W.heap.size vo [exCn] → Calls Tryz.prog 20 #[v, vo] W fun e w' => ∃ r, e = .returned r ∧ StrsR w' W.heap.size r [exCn, exDB, exA] ∧ Below W.heap.size W w' from fun W v vo h1 h2 h3 => by have h := byAccess_any exT [exCn] (by have := ex_sz; omega) (by decide) v vo W h1 h2 h3; rw [ex_byA] at h; exact h)
  have FI := hide (show ∀ W v, TabV W → TreeR W W.heap.size v exT → Calls Tryz.prog 16 #[v] W fun e w' => ∃ r, e = .returned r ∧ StrsR w' W.heap.size r [exA, exCn, exDB] ∧ Below W.heap.size W w' from fun W v h1 h2 => by have h := files_any exT (by have := ex_sz; omega) v W h1 h2; rw [ex_files] at h; exact h)
  have BL := hide (show ∀ W, Calls Tryz.prog 24 #[.int .i64 2049] W fun e w' => e = .returned (.int .i64 2) ∧ W = w' from fun W => blocks_any 2049 (by omega) W)
  have SQ := hide (show ∀ W a b l, l.length ≤ 100000 → SlR W W.heap.size a l → SlR W W.heap.size b l → Calls Tryz.prog 15 #[a, b] W fun e w' => e = .returned (.bool true) ∧ Below W.heap.size W w' from fun W a b l h0 h1 h2 => by have h := sequal_any l l a b W.heap.size h0 h0 W h1 h2; rwa [decide_eq_true rfl] at h)
  have FQ := hide (show ∀ W a b, SlF W W.heap.size a exFs → SlF W W.heap.size b exFs → Calls Tryz.prog 46 #[a, b] W fun e w' => e = .returned (.bool true) ∧ Below W.heap.size W w' from fun W a b h1 h2 => by have h := feq_any exFs exFs a b (by decide) (by decide) W h1 h2; rwa [decide_eq_true rfl] at h)
  have HTV := hide hT
  clear hT
  have HL : Live w [] := trivial
  go_enter Tryz.func11, Tryz.ntmps11
  go_upto_region 2 with (first | (go_at_call 45; refine (TR.out _).mono ?_; rintro e w1 ⟨v1, rfl, hv1, hb1⟩; have HV1 := hide hv1; have HB1 := hide hb1) | (go_at_call 18; refine (BW.out _ _ (HTV.out.below HB1.out) HV1.out).mono ?_; rintro e w2 ⟨r2, rfl, hr2, hb2⟩; have HL2 := hide (SlR.of hr2); have HB2 := hide (HB1.out.trans (hb2.mono HB1.out.size))))
  clear hr2 hb2 hv1 hb1 HV1 HB1
  go_upto_region 3 with (first | (go_at_call 45; refine (TR.out _).mono ?_; rintro e w3 ⟨v3, rfl, hv3, hb3⟩; have HB3 := hide hb3; have HV3 := hide hv3) | (go_at_call 22; refine (PL.out _ _ _ (HTV.out.below (((HB2.out.trans (HB3.out.mono HB2.out.size)).trans ((Below.one _ _).mono (HB2.out.trans (HB3.out.mono HB2.out.size)).size)))) (HV3.out.later (Below.one _ _)) (SlR.lit3 _ _ _ _)).mono ?_; rintro e w4 ⟨r4, rfl, hr4, hb4⟩))
  have hbl3 : Below w3.heap.size w3 w4 := ((Below.one w3 _).trans (hb4.mono (Below.one w3 _).size))
  have HF4 := hide (SlF.of (own_base hr4 (Nat.le_refl _)))
  have HL4 := hide ((HL2.out.later2 HB3.out).later2 hbl3)
  have HB4 := hide ((HB2.out.trans (HB3.out.mono HB2.out.size)).trans (hbl3.mono (HB2.out.trans (HB3.out.mono HB2.out.size)).size))
  clear hr4 hb4 hb3 hv3 hbl3 HB3 HB2 HL2 HV3
  go_upto_region 4 with (go_at_call 27; refine (CO.out _ _ _ (HF4.out.later2 (Below.one _ _)) (SlR.lit2 _ _ _)).mono ?_; rintro e w5 ⟨rfl, hb5⟩)
  have hbl4 : Below w4.heap.size w4 w5 := ((Below.one w4 _).trans (hb5.mono (Below.one w4 _).size))
  have HF5 := hide (HF4.out.later2 hbl4)
  have HL5 := hide (HL4.out.later2 hbl4)
  have HB5 := hide (HB4.out.trans (hbl4.mono HB4.out.size))
  clear hb5 hbl4 HF4 HL4 HB4
  go_upto_region 5 with (first | (go_at_call 45; refine (TR.out _).mono ?_; rintro e w6 ⟨v6, rfl, hv6, hb6⟩; have HB6 := hide hb6; have HV6 := hide hv6) | (go_at_call 29; refine (BE.out _ _ _ (HTV.out.below (((HB5.out.trans (HB6.out.mono HB5.out.size)).trans ((Below.one _ _).mono (HB5.out.trans (HB6.out.mono HB5.out.size)).size)))) (HV6.out.later (Below.one _ _)) (SlR.lit2 _ _ _)).mono ?_; rintro e w7 ⟨r7, rfl, hr7, hb7⟩))
  have hbl6 : Below w5.heap.size w5 w7 := HB6.out.trans (((Below.one w6 _).trans (hb7.mono (Below.one w6 _).size)).mono HB6.out.size)
  have HR7 := hide (SlR.of hr7)
  have HF7 := hide (HF5.out.later2 hbl6)
  have HL7 := hide (HL5.out.later2 hbl6)
  have HB7 := hide (HB5.out.trans (hbl6.mono HB5.out.size))
  have HT7 := hide (show ∀ W, Below w7.heap.size w7 W → TabV W from fun W h => HTV.out.below (HB7.out.trans (h.mono HB7.out.size)))
  clear hb6 hv6 hb7 hr7 hbl6 HB6 HV6 HB5 HF5 HL5
  go_wp2_with (first | (go_at_call 15; refine (SQ.out _ _ _ _ (by decide) (HR5.out.later2 (Below.one _ _)) (SlR.lit3 _ _ _ _)).mono ?_; rintro e w9j ⟨rfl, hb9⟩; have Hw9j := hide ((Hw9i.out.alloc Hw9i.out.size _).trans (hb9.mono (Hw9i.out.alloc Hw9i.out.size _).size)); clear hb9) | (go_at_call 15; refine (SQ.out _ _ _ _ (by decide) (HR7.out.later2 (Hw9e.out.trans ((Below.one w9e _).mono Hw9e.out.size))) (SlR.lit3 _ _ _ _)).mono ?_; rintro e w9f ⟨rfl, hb9⟩; have Hw9f := hide ((Hw9e.out.alloc Hw9e.out.size _).trans (hb9.mono (Hw9e.out.alloc Hw9e.out.size _).size)); clear hb9) | (go_at_call 15; refine (SQ.out _ _ _ _ (by decide) (HR4.out.later2 (Below.one _ _)) (SlR.lit3 _ _ _ _)).mono ?_; rintro e w9d ⟨rfl, hb9⟩; have Hw9d := hide ((Hw9c.out.alloc Hw9c.out.size _).trans (hb9.mono (Hw9c.out.alloc Hw9c.out.size _).size)); clear hb9) | (go_at_call 15; refine (SQ.out _ _ _ _ (by decide) (HL7.out.later2 (Below.one _ _)) (SlR.lit3 _ _ _ _)).mono ?_; rintro e w9a ⟨rfl, hb9⟩; have Hw9a := hide (((Below.refl w7.heap.size w7).alloc (Below.refl w7.heap.size w7).size _).trans (hb9.mono ((Below.refl w7.heap.size w7).alloc (Below.refl w7.heap.size w7).size _).size)); clear hb9) | (go_at_call 45; refine (TR.out _).mono ?_; rintro e w9h ⟨v9h, rfl, hv9h, hb9⟩; have Hw9h := hide (Hw9f.out.trans (hb9.mono Hw9f.out.size)); have Hv9h := hide hv9h; clear hb9 hv9h) | (go_at_call 45; refine (TR.out _).mono ?_; rintro e w9b ⟨v9b, rfl, hv9b, hb9⟩; have Hw9b := hide (Hw9a.out.trans (hb9.mono Hw9a.out.size)); have Hv9b := hide hv9b; clear hb9 hv9b) | (go_at_call 16; refine (FI.out _ _ (HT7.out _ Hw9b.out) Hv9b.out).mono ?_; rintro e w9c ⟨r9c, rfl, hr9, hb9⟩; have HR4 := hide (SlR.of hr9); have Hw9c := hide (Hw9b.out.trans (hb9.mono Hw9b.out.size)); clear hb9 hr9) | (go_at_call 46; refine (FQ.out _ _ _ (HF7.out.later2 (Hw9d.out.trans ((Below.one w9d _).mono Hw9d.out.size))) (SlF.lit3 _ ⟨exDB, 20, 10⟩ ⟨exA, 21, 3000⟩ ⟨exCn, 23, 1⟩)).mono ?_; rintro e w9e ⟨rfl, hb9⟩; have Hw9e := hide ((Hw9d.out.alloc Hw9d.out.size _).trans (hb9.mono (Hw9d.out.alloc Hw9d.out.size _).size)); clear hb9) | (go_at_call 24; refine (BL.out _).mono ?_; rintro e w9g ⟨rfl, hw9⟩; subst hw9) | (go_at_call 20; refine (BA.out _ _ _ (HT7.out _ (Hw9h.out.trans ((Below.one w9h _).mono Hw9h.out.size))) (Hv9h.out.later (Below.one _ _)) (SlR.lit1 _ _)).mono ?_; rintro e w9i ⟨r9i, rfl, hr9, hb9⟩; have HR5 := hide (SlR.of hr9); have Hw9i := hide ((Hw9h.out.alloc Hw9h.out.size _).trans (hb9.mono (Hw9h.out.alloc Hw9h.out.size _).size)); clear hb9 hr9))
  go_ret
  exact ⟨rfl, HB7.out.trans (Hw9j.out.mono HB7.out.size)⟩
end Go.Proofs.YtocgindpjjolpaaGreatDoor
