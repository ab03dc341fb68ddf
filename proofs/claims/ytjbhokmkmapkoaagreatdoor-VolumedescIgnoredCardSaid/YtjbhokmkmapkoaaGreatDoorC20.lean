/- Contracts and plain words for the laws of volume descriptors, part 20: J2, I2, I3, I4, J3. No condition. -/
import Derived.Test.YtjbhokmkmapkoaaGreatDoorC19
import Derived.Test.YtjbhokmkmapkoaaGreatDoorC18
import Derived.Laws.Tables
namespace Go.Proofs.YtjbhokmkmapkoaaGreatDoor
set_option linter.unusedSimpArgs false
set_option linter.unusedVariables false
open Go.RowKit
open Go.PlainAid (bt get_bt bt_nonneg bt_le bt_end)
/-- The strings of a volume with their places. -/
def fldCells (b o : Nat) : Array Value := #[.int .i64 40, .int .i64 32, .bool true, .pointer (some ⟨b, o, none⟩), .int .i64 190, .int .i64 128, .bool true, .pointer (some ⟨b, o + 1, none⟩), .int .i64 318, .int .i64 128, .bool false, .pointer (some ⟨b, o + 2, none⟩),
  .int .i64 446, .int .i64 128, .bool false, .pointer (some ⟨b, o + 3, none⟩), .int .i64 574, .int .i64 128, .bool false, .pointer (some ⟨b, o + 4, none⟩)]
def FldP (b o : Nat) (w : World) (e : Ending) (w' : World) : Prop := ∃ g, e = .returned (.slice (some ⟨g, 0, none⟩) 5 5) ∧ Blk w' g (fldCells b o) 65 ∧ Below w.heap.size w w' ∧ w.heap.size ≤ g
set_option maxRecDepth 100000 in
set_option maxHeartbeats 2000000 in
theorem fields_any (b o : Nat) (w : World) : Calls Tryz.prog 33 #[.pointer (some ⟨b, o, none⟩)] w (FldP b o w) := by
  have HL : Live w [] := trivial
  go_enter Tryz.func33, Tryz.ntmps33
  go_upto_region 1 with fail
  refine wp_region_noPanic ?_
  refine wp_region_held_drew (S := (fun x => True ∧ True)) (by kernel_rfl) kp (fun hHeld => ?_)
  refine tkY 0 ⟨some 3, .build 63 #[(0, .const (.int .i64 40)), (1, .const (.int .i64 32)), (2, .const (.bool true))], 63, "volumedesc.go:31", #[], none⟩ ?_ ?_ ?_
  rotate_left
  · intro w hSw; (try dsimp only at hSw); go_simp; (try with_reducible rfl)
  try simp only [PT]
  refine tkY 1 ⟨some 4, .move (.tmp 0), 61, "volumedesc.go:31", #[], none⟩ ?_ ?_ ?_
  rotate_left
  · intro w hSw; (try dsimp only at hSw); go_simp; (try with_reducible rfl)
  try simp only [PT]
  refine tkY 2 ⟨some 5, .nilCheck (.tmp 4), 0, "volumedesc.go:31", #[⟨1, .data⟩], none⟩ ?_ ?_ ?_
  rotate_left
  · intro w hSw; (try dsimp only at hSw); go_simp; (try with_reducible rfl)
  try simp only [PT]
  refine tkY 3 ⟨some 6, .fieldAddr 23 (.tmp 5) 0, 0, "volumedesc.go:31", #[⟨2, .data⟩], none⟩ ?_ ?_ ?_
  rotate_left
  · intro w hSw; (try dsimp only at hSw); go_simp; (try with_reducible rfl)
  try simp only [PT]
  refine tkY 4 ⟨some 7, .build 65 #[(0, .tmp 3), (1, .tmp 6)], 65, "volumedesc.go:31", #[⟨0, .data⟩, ⟨3, .data⟩], none⟩ ?_ ?_ ?_
  rotate_left
  · intro w hSw; (try dsimp only at hSw); go_simp; (try with_reducible rfl)
  try simp only [PT]
  refine tkY 5 ⟨some 8, .build 63 #[(0, .const (.int .i64 190)), (1, .const (.int .i64 128)), (2, .const (.bool true))], 63, "volumedesc.go:31", #[], none⟩ ?_ ?_ ?_
  rotate_left
  · intro w hSw; (try dsimp only at hSw); go_simp; (try with_reducible rfl)
  try simp only [PT]
  refine tkY 6 ⟨some 9, .move (.tmp 0), 61, "volumedesc.go:31", #[], none⟩ ?_ ?_ ?_
  rotate_left
  · intro w hSw; (try dsimp only at hSw); go_simp; (try with_reducible rfl)
  try simp only [PT]
  refine tkY 7 ⟨some 10, .nilCheck (.tmp 9), 0, "volumedesc.go:31", #[⟨6, .data⟩], none⟩ ?_ ?_ ?_
  rotate_left
  · intro w hSw; (try dsimp only at hSw); go_simp; (try with_reducible rfl)
  try simp only [PT]
  refine tkY 8 ⟨some 11, .fieldAddr 23 (.tmp 10) 1, 0, "volumedesc.go:31", #[⟨7, .data⟩], none⟩ ?_ ?_ ?_
  rotate_left
  · intro w hSw; (try dsimp only at hSw); go_simp; (try with_reducible rfl)
  try simp only [PT]
  refine tkY 9 ⟨some 12, .build 65 #[(0, .tmp 8), (1, .tmp 11)], 65, "volumedesc.go:31", #[⟨5, .data⟩, ⟨8, .data⟩], none⟩ ?_ ?_ ?_
  rotate_left
  · intro w hSw; (try dsimp only at hSw); go_simp; (try with_reducible rfl)
  try simp only [PT]
  refine tkY 10 ⟨some 13, .build 63 #[(0, .const (.int .i64 318)), (1, .const (.int .i64 128)), (2, .const (.bool false))], 63, "volumedesc.go:31", #[], none⟩ ?_ ?_ ?_
  rotate_left
  · intro w hSw; (try dsimp only at hSw); go_simp; (try with_reducible rfl)
  try simp only [PT]
  refine tkY 11 ⟨some 14, .move (.tmp 0), 61, "volumedesc.go:31", #[], none⟩ ?_ ?_ ?_
  rotate_left
  · intro w hSw; (try dsimp only at hSw); go_simp; (try with_reducible rfl)
  try simp only [PT]
  refine tkY 12 ⟨some 15, .nilCheck (.tmp 14), 0, "volumedesc.go:31", #[⟨11, .data⟩], none⟩ ?_ ?_ ?_
  rotate_left
  · intro w hSw; (try dsimp only at hSw); go_simp; (try with_reducible rfl)
  try simp only [PT]
  refine tkY 13 ⟨some 16, .fieldAddr 23 (.tmp 15) 2, 0, "volumedesc.go:31", #[⟨12, .data⟩], none⟩ ?_ ?_ ?_
  rotate_left
  · intro w hSw; (try dsimp only at hSw); go_simp; (try with_reducible rfl)
  try simp only [PT]
  refine tkY 14 ⟨some 17, .build 65 #[(0, .tmp 13), (1, .tmp 16)], 65, "volumedesc.go:31", #[⟨10, .data⟩, ⟨13, .data⟩], none⟩ ?_ ?_ ?_
  rotate_left
  · intro w hSw; (try dsimp only at hSw); go_simp; (try with_reducible rfl)
  try simp only [PT]
  refine tkY 15 ⟨some 18, .build 63 #[(0, .const (.int .i64 446)), (1, .const (.int .i64 128)), (2, .const (.bool false))], 63, "volumedesc.go:31", #[], none⟩ ?_ ?_ ?_
  rotate_left
  · intro w hSw; (try dsimp only at hSw); go_simp; (try with_reducible rfl)
  try simp only [PT]
  refine tkY 16 ⟨some 19, .move (.tmp 0), 61, "volumedesc.go:31", #[], none⟩ ?_ ?_ ?_
  rotate_left
  · intro w hSw; (try dsimp only at hSw); go_simp; (try with_reducible rfl)
  try simp only [PT]
  refine tkY 17 ⟨some 20, .nilCheck (.tmp 19), 0, "volumedesc.go:31", #[⟨16, .data⟩], none⟩ ?_ ?_ ?_
  rotate_left
  · intro w hSw; (try dsimp only at hSw); go_simp; (try with_reducible rfl)
  try simp only [PT]
  refine tkY 18 ⟨some 21, .fieldAddr 23 (.tmp 20) 3, 0, "volumedesc.go:31", #[⟨17, .data⟩], none⟩ ?_ ?_ ?_
  rotate_left
  · intro w hSw; (try dsimp only at hSw); go_simp; (try with_reducible rfl)
  try simp only [PT]
  refine tkY 19 ⟨some 22, .build 65 #[(0, .tmp 18), (1, .tmp 21)], 65, "volumedesc.go:31", #[⟨15, .data⟩, ⟨18, .data⟩], none⟩ ?_ ?_ ?_
  rotate_left
  · intro w hSw; (try dsimp only at hSw); go_simp; (try with_reducible rfl)
  try simp only [PT]
  refine tkY 20 ⟨some 23, .build 63 #[(0, .const (.int .i64 574)), (1, .const (.int .i64 128)), (2, .const (.bool false))], 63, "volumedesc.go:31", #[], none⟩ ?_ ?_ ?_
  rotate_left
  · intro w hSw; (try dsimp only at hSw); go_simp; (try with_reducible rfl)
  try simp only [PT]
  refine tkY 21 ⟨some 24, .move (.tmp 0), 61, "volumedesc.go:31", #[], none⟩ ?_ ?_ ?_
  rotate_left
  · intro w hSw; (try dsimp only at hSw); go_simp; (try with_reducible rfl)
  try simp only [PT]
  refine tkY 22 ⟨some 25, .nilCheck (.tmp 24), 0, "volumedesc.go:31", #[⟨21, .data⟩], none⟩ ?_ ?_ ?_
  rotate_left
  · intro w hSw; (try dsimp only at hSw); go_simp; (try with_reducible rfl)
  try simp only [PT]
  refine tkY 23 ⟨some 26, .fieldAddr 23 (.tmp 25) 4, 0, "volumedesc.go:31", #[⟨22, .data⟩], none⟩ ?_ ?_ ?_
  rotate_left
  · intro w hSw; (try dsimp only at hSw); go_simp; (try with_reducible rfl)
  try simp only [PT]
  refine tkY 24 ⟨some 27, .build 65 #[(0, .tmp 23), (1, .tmp 26)], 65, "volumedesc.go:31", #[⟨20, .data⟩, ⟨23, .data⟩], none⟩ ?_ ?_ ?_
  rotate_left
  · intro w hSw; (try dsimp only at hSw); go_simp; (try with_reducible rfl)
  try simp only [PT]
  refine wpAnyH_ready (rs := [25]) (by kernel_rfl) (by simp) ?_
  refine AllReadyH.cons (o := ⟨some 28, .buildSlice 59 5 #[(0, .tmp 7), (1, .tmp 12), (2, .tmp 17), (3, .tmp 22), (4, .tmp 27)], 59, "volumedesc.go:31", #[⟨4, .data⟩, ⟨9, .data⟩, ⟨14, .data⟩, ⟨19, .data⟩, ⟨24, .data⟩], none⟩) rfl (fun K hK => ?_) AllReadyH.nil
  go_simp
  refine hK.out _ _ kp (fun hHeld => ?_)
  clear hK K
  try simp only [PT]
  refine tkY 26 ⟨some 2, .assign (.tmp 28), 59, "volumedesc.go:31", #[⟨25, .data⟩, ⟨0, .phase⟩, ⟨1, .phase⟩, ⟨2, .phase⟩, ⟨3, .phase⟩, ⟨4, .phase⟩, ⟨5, .phase⟩, ⟨6, .phase⟩, ⟨7, .phase⟩, ⟨8, .phase⟩, ⟨9, .phase⟩, ⟨10, .phase⟩, ⟨11, .phase⟩, ⟨12, .phase⟩, ⟨13, .phase⟩, ⟨14, .phase⟩, ⟨15, .phase⟩, ⟨16, .phase⟩, ⟨17, .phase⟩, ⟨18, .phase⟩, ⟨19, .phase⟩, ⟨20, .phase⟩, ⟨21, .phase⟩, ⟨22, .phase⟩, ⟨23, .phase⟩, ⟨24, .phase⟩, ⟨25, .phase⟩], none⟩ ?_ ?_ ?_
  rotate_left
  · intro w hSw; (try dsimp only at hSw); go_simp; (try with_reducible rfl)
  try simp only [PT]
  refine wpAnyH_done (by kernel_rfl) ?_ _
  refine NoPanic.normal ?_
  go_wp2_with fail
  go_ret
  exact ⟨w.heap.size, rfl, Blk.newAt rfl, by (exact bl), Nat.le_refl _⟩
set_option maxHeartbeats 400000 in
theorem rblock_any (n : Int) (w : World) : Calls Tryz.prog 49 #[.int .i64 n] w fun e w' => e = .returned (.bool (wordB n)) ∧ w = w' := by
  have HL : Live w [] := trivial
  go_enter Tryz.func49, Tryz.ntmps49
  go_wp2
  all_goals
    go_ret
    exact ⟨ret_b (by rw [Bool.eq_iff_iff]; simp [wordB] <;> omega), rfl⟩
end Go.Proofs.YtjbhokmkmapkoaaGreatDoor
namespace Go.Proofs.YtjbhokmkmapkoaaGreatDoor
set_option linter.unusedSimpArgs false
set_option linter.unusedVariables false
open Go.RowKit
open Go.PlainAid (bt get_bt bt_nonneg bt_le bt_end)
def fL (fs : List (Int × Int)) : List UInt8 := fs.flatMap fun p => bS p.1 p.2
def fV (fs : List (Int × Int)) : List Value := fs.flatMap fun p => [.int .i64 p.1, .int .i64 p.2]
def fE (fs : List (Int × Int)) (k : Int) : Int := if (fs.all fun p => okP p.1 p.2) = true then k else 2
theorem fV_at : ∀ (fs : List (Int × Int)) (j : Nat) (p : Int × Int), fs[j]? = some p → (fV fs)[2 * j]? = some (.int .i64 p.1) ∧ (fV fs)[2 * j + 1]? = some (.int .i64 p.2)
  | [], _, _, h => by simp at h
  | q :: fs, 0, p, h => by
    simp at h; subst h
    exact ⟨rfl, rfl⟩
  | q :: fs, j + 1, p, h => by
    have := fV_at fs j p (by simpa using h)
    show (Value.int .i64 q.1 :: .int .i64 q.2 :: fV fs)[2 * (j + 1)]? = _ ∧ (Value.int .i64 q.1 :: .int .i64 q.2 :: fV fs)[2 * (j + 1) + 1]? = _
    rw [show 2 * (j + 1) = 2 * j + 2 by omega, show 2 * j + 2 + 1 = (2 * j + 1) + 2 by omega]
    simpa using this
theorem fL_snoc {fs : List (Int × Int)} {j : Nat} {p : Int × Int} (h : fs[j]? = some p) : fL (fs.take (j + 1)) = fL (fs.take j) ++ bS p.1 p.2 := by
  obtain ⟨hi, e⟩ := List.getElem?_eq_some_iff.1 h
  unfold fL
  rw [List.take_succ_eq_append_getElem hi, List.flatMap_append, e]
  simp
theorem fE_snoc {fs : List (Int × Int)} {j : Nat} {p : Int × Int} {k : Int} (h : fs[j]? = some p) : fE (fs.take (j + 1)) k = if okP p.1 p.2 = true then fE (fs.take j) k else 2 := by
  obtain ⟨hi, e⟩ := List.getElem?_eq_some_iff.1 h
  unfold fE
  rw [List.take_succ_eq_append_getElem hi, List.all_append, e]
  have e1 : ([p].all fun p => okP p.1 p.2) = okP p.1 p.2 := by simp
  rw [e1]
  cases okP p.1 p.2 <;> cases ((fs.take j).all fun p => okP p.1 p.2) <;> rfl
theorem fL_len : ∀ fs : List (Int × Int), (fL fs).length ≤ 8 * fs.length
  | [] => by simp [fL]
  | p :: fs => by
    have h1 := fL_len fs
    have h2 := bS_len p.1 p.2
    unfold fL at *
    rw [List.flatMap_cons, List.length_append, List.length_cons]; omega
theorem BF.set {w : World} {B b : Nat} {l : List UInt8} {g j : Nat} {v : Value} {cs : Array Value} {T : TypeId} (h : BF B b l w) (hg : Blk w g cs T) (hT : T ≠ 5) (hne : g ≠ b) : BF B b l (w.setCell ⟨g, j, none⟩ v) := by
  have hb : ∀ n, n ≠ g → (w.setCell ⟨g, j, none⟩ v).heap[n]? = w.heap[n]? := fun n hn => Below.heap_setCell _ _ _ _ hn
  have row : ∀ (v' : Value) (n : Nat) (xs : List Value), w.ownsRowF B 5 1 v' n xs → (w.setCell ⟨g, j, none⟩ v).ownsRowF B 5 1 v' n xs := by
    intro v' n xs h3
    refine ⟨h3.1, ?_⟩
    rcases h3.2 with h2 | ⟨g', cap, cur, fz, hv, hg', hh, r⟩
    · exact Or.inl h2
    · refine Or.inr ⟨g', cap, cur, fz, hv, hg', ?_, r⟩
      rw [hb g' ?_, hh]
      rintro rfl
      unfold Blk at hg
      rw [hg] at hh
      injection hh with hh
      injection hh with _ e2
      exact hT e2
  rcases h with ⟨h1, v', h2, h3, h4⟩ | ⟨h1, v', h2, h3, h4⟩
  · exact Or.inl ⟨h1, v', by rw [hb b (Ne.symm hne), h2], row _ _ _ h3, h4⟩
  · exact Or.inr ⟨h1, v', by rw [hb b (Ne.symm hne), h2], row _ _ _ h3, h4⟩
/-- Rows that are neither the builder's nor of bytes nor the block g stand as they stood. -/
def KX (b g : Nat) (w w' : World) : Prop := ∀ (n : Nat) (cs : Array Value) (T : TypeId), n ≠ b → n ≠ g → T ≠ 5 → Blk w n cs T → Blk w' n cs T
theorem KX.refl (b g : Nat) (w : World) : KX b g w w := fun _ _ _ _ _ _ h => h
theorem KX.trans {b g : Nat} {w w1 w2 : World} (h1 : KX b g w w1) (h2 : KX b g w1 w2) : KX b g w w2 := fun n cs T a c d h => h2 n cs T a c d (h1 n cs T a c d h)
theorem KX.below {b g : Nat} {w w1 : World} (hb : Below w.heap.size w w1) : KX b g w w1 := fun _ _ _ _ _ _ h => Blk.below hb h
theorem KX.ok8 {b g : Nat} {w w1 : World} (hk : OK8 b w w1) : KX b g w w1 := fun _ _ _ a _ c h => h.ok8 hk c a
theorem KX.set {b g : Nat} (w : World) (j : Nat) (v : Value) : KX b g w (w.setCell ⟨g, j, none⟩ v) := fun _ _ _ _ a _ h => Blk.other a h
/-- What the literal leaves. -/
def LitP (B b g : Nat) (l : List UInt8) (k : Int) (w w' : World) : Prop := BF B b l w' ∧ Below B w w' ∧ Blk w' g #[.int .i64 k] 30 ∧ KX b g w w'
set_option maxRecDepth 100000 in
set_option maxHeartbeats 4000000 in
theorem lit_any (B b g s c : Nat) (fs : List (Int × Int)) (n : Nat) (hn : n = 2 * fs.length) (hfs : ∀ p ∈ fs, p.2 = 2 ∨ p.2 = 4) (hlen : fs.length ≤ 10) (l : List UInt8) (hl : l.length ≤ 1000) (k : Int) (w : World) (hF : BF B b l w) (hg : Blk w g #[.int .i64 k] 30)
    (hs : Blk w s (fV fs).toArray 3) (hgb : g ≠ b) (hsb : s ≠ b) (hsg : s ≠ g) (hgB : B ≤ g) (hBw : B ≤ w.heap.size) :
    Calls Tryz.prog 78 #[.slice (some ⟨s, 0, none⟩) n c, .pointer (some ⟨g, 0, none⟩), .pointer (some ⟨b, 0, none⟩)] w fun e w' => e = .returned (.tuple #[]) ∧ LitP B b g (l ++ fL fs) (fE fs k) w w' := by
  have mixed : Tryz.prog.follows .mixedOrders = true := by kernel_rfl
  have HN := hide hn
  have hn10 : n ≤ 20 := by omega
  clear hn
  have HL : Live w [] := trivial
  go_enter Tryz.func78, Tryz.ntmps78
  go_wp2
  go_loopw [4] (fun i wr => ∃ j m : Nat, m = 2 * j ∧ j ≤ fs.length ∧ i = .int .i64 m ∧ BF B b (l ++ fL (fs.take j)) wr ∧ Below B w wr ∧ Blk wr g #[.int .i64 (fE (fs.take j) k)] 30 ∧ KX b g w wr) (fun i _ => 30 - (intOf i).toNat)
  case atStart => exact ⟨0, 0, rfl, by omega, rfl, by simpa [fL] using hF, Below.refl _ _, by simpa [fE] using hg, KX.refl _ _ _⟩
  case round =>
    obtain ⟨j, m, hm, hj, rfl, hBF, hbel, hgr, hkx⟩ := hrel
    have HM := hide hm
    have hsz := hbel.size
    have hm20 : m ≤ 20 := by omega
    have hsr := hkx s _ _ hsb hsg (by decide) hs
    have hblt := hBF.lt
    have hglt := hgr.lt
    have hslt := hsr.lt
    by_cases hlt : j < fs.length
    · have hmn : (m : Int) + 1 < (n : Int) := by have := HN.out; omega
      obtain ⟨p, hp⟩ : ∃ p, fs[j]? = some p := ⟨_, List.getElem?_eq_getElem hlt⟩
      obtain ⟨p1, p2⟩ := p
      have hcells := fV_at fs j (p1, p2) hp
      have hc0 : wr.cell? ⟨s, m, none⟩ = some (.int .i64 p1) := by rw [hsr.cells, hm]; simpa using hcells.1
      have hc1 : wr.cell? ⟨s, m + 1, none⟩ = some (.int .i64 p2) := by rw [hsr.cells, hm]; simpa using hcells.2
      have hps : p2 = 2 ∨ p2 = 4 := hfs _ (List.mem_of_getElem? hp)
      have BA := fun W => both_any p1 p2 hps W
      have FL := hide (fL_snoc hp)
      have FE := hide (fE_snoc (k := k) hp)
      have LB := hide (show (l ++ fL (fs.take j)).length + (bS p1 p2).length ≤ 140737488355328 from by
        have h1 := fL_len (fs.take j)
        have h2 : (fs.take j).length ≤ j := List.length_take_le _ _
        have h3 := bS_len p1 p2
        rw [List.length_append]; omega)
      have HF := hide hBF
      have HG := hide hgr
      have HS := hide hsr
      have HK := hide hkx
      clear hBF hgr hkx hsr hcells hm hp
      have w1 : IntKind.i64.wrap ((m : Int) + 1) = (m : Int) + 1 := IntWalk.i64_in _ (by omega)
      have t1 : ((m : Int) + 1).toNat = m + 1 := by omega
      have p0 : (0 : Int) ≤ (m : Int) + 1 := by omega
      have hszB : (ByteArray.mk (bS p1 p2).toArray).size = (bS p1 p2).length := by show (bS p1 p2).toArray.size = _; simp
      have LB2 := hide (show (l ++ fL (fs.take j)).length + (ByteArray.mk (bS p1 p2).toArray).size ≤ 140737488355328 from by rw [hszB]; exact LB.out)
      have hEL : l ++ fL (fs.take j) ++ (ByteArray.mk (bS p1 p2).toArray).data.toList = l ++ fL (fs.take (j + 1)) := by rw [FL.out]; simp
      have HE := hide hEL
      clear hszB hEL
      cases hok : okP p1 p2
      case true =>
        have e2 : eP p1 p2 = 0 := by unfold eP; rw [hok]; rfl
        rw [e2] at BA
        have BA := hide BA
        have HFE := hide (show fE (fs.take (j + 1)) k = fE (fs.take j) k from by rw [FE.out]; show (if okP p1 p2 = true then _ else _) = _; rw [hok]; rfl)
        clear hok e2
        go_upto_region 3 with fail
        go_region_with_o (refine (BA.out _).mono ?_; rintro e w2 ⟨rfl, hb2⟩)
        all_goals
          clear w1 t1 p0
          have hbd : Below wr.heap.size wr w2 := by (exact bl)
          have hz2 := hbd.size
          go_wp2_with fail
          refine (wstring B b (l ++ fL (fs.take j)) ⟨(bS p1 p2).toArray⟩ w2 (HF.out.below hbd) LB2.out (by omega)).mono ?_
          rintro e w3 ⟨rfl, h3, hb3, hk3⟩
          rw [HE.out] at h3
          go_wp2_with fail
          go_roundw
          case rel => exact ⟨j + 1, m + 2, by have := HM.out; omega, by omega, by go_num, h3, (hbel.trans (hbd.mono (by omega))).trans hb3, by rw [HFE.out]; exact (Blk.below hbd HG.out).ok8 hk3 (by decide) hgb, (HK.out.trans (KX.below hbd)).trans (KX.ok8 hk3)⟩
          case measure => simp [intOf]; omega
      case false =>
        have e2 : eP p1 p2 = 2 := by unfold eP; rw [hok]; rfl
        rw [e2] at BA
        have BA := hide BA
        have HFE := hide (show fE (fs.take (j + 1)) k = 2 from by rw [FE.out]; show (if okP p1 p2 = true then _ else _) = _; rw [hok]; rfl)
        clear hok e2
        go_upto_region 3 with fail
        go_region_with_o (refine (BA.out _).mono ?_; rintro e w2 ⟨rfl, hb2⟩)
        all_goals
          clear w1 t1 p0
          have hbd : Below wr.heap.size wr w2 := by (exact bl)
          have hz2 := hbd.size
          have hg2 := Blk.below hbd HG.out
          have hcg : w2.cell? ⟨g, 0, none⟩ = some (.int .i64 (fE (fs.take j) k)) := hg2.cells 0
          have hfg : w2.frozen? ⟨g, 0, none⟩ = false := hg2.free 0
          have HG2 := hide hg2
          clear hg2
          go_wp2_with fail
          refine (wstring B b (l ++ fL (fs.take j)) ⟨(bS p1 p2).toArray⟩ _ ((HF.out.below hbd).set HG2.out (by decide) hgb) LB2.out (by rw [World.size_setCell]; omega)).mono ?_
          rintro e w3 ⟨rfl, h3, hb3, hk3⟩
          rw [HE.out] at h3
          have hg3 : Blk w3 g #[.int .i64 2] 30 := (Blk.put (cs' := #[.int .i64 2]) (by rfl) HG2.out).ok8 hk3 (by decide) hgb
          have HG3 := hide hg3
          clear hg3
          go_wp2_with fail
          go_roundw
          case rel => exact ⟨j + 1, m + 2, by have := HM.out; omega, by omega, by go_num, h3, ((hbel.trans (hbd.mono (by omega))).setCell hgB _).trans hb3, by rw [HFE.out]; exact HG3.out, ((HK.out.trans (KX.below hbd)).trans (KX.set _ _ _)).trans (KX.ok8 hk3)⟩
          case measure => simp [intOf]; omega
    · have hmn : ¬ (m : Int) + 1 < (n : Int) := by have := HN.out; omega
      have ej : j = fs.length := by omega
      have FT := hide (show fs.take j = fs from by rw [ej]; exact List.take_length)
      clear ej hm
      go_wp2
      go_end0
      rw [FT.out] at hBF hgr
      exact ⟨rfl, hBF, hbel, hgr, hkx⟩
end Go.Proofs.YtjbhokmkmapkoaaGreatDoor
namespace Go.Proofs.YtjbhokmkmapkoaaGreatDoor
set_option linter.unusedSimpArgs false
set_option linter.unusedVariables false
open Go.RowKit
open Go.PlainAid (bt get_bt bt_nonneg bt_le bt_end)
/-- What a record is written as. -/
def encRS (r : Rec) : ByteArray := if recE r = 0 then ⟨(encR r).toArray⟩ else ⟨#[]⟩
/-- A time's bytes and error. -/
def TimD (r : Rec) (d : ByteArray) (k : Int) : Prop := d.size ≤ 7 ∧ (((tmB r.time && zoneB r.zone) = true ∧ k = 0 ∧ d = recT2 r.time r.zone) ∨ ((tmB r.time && zoneB r.zone) = false ∧ k = 2))
theorem rec_call (r : Rec) : ∃ d k, (∀ W, Calls Tryz.prog 77 #[.int .i64 r.time, .int .i64 r.zone] W fun e w' => e = .returned (.tuple #[.string d, .int .i64 k]) ∧ Below W.heap.size W w') ∧ TimD r d k := by
  cases h : (tmB r.time && zoneB r.zone)
  · exact ⟨⟨#[]⟩, 2, fun W => recT_no _ _ h W, by show (0 : Nat) ≤ 7; omega, Or.inr ⟨h, rfl⟩⟩
  · exact ⟨recT2 r.time r.zone, 0, fun W => recT_yes _ _ h W, by rw [recT2_size (tz_of h).1 (tz_of h).2]; exact Nat.le_refl 7, Or.inl ⟨h, rfl, rfl⟩⟩
theorem rrec_call (r : Rec) : ∃ d k, (∀ W, Calls Tryz.prog 90 #[.int .i64 r.time, .int .i64 r.zone] W fun e w' => e = .returned (.tuple #[.string d, .int .i64 k]) ∧ Below W.heap.size W w') ∧ TimD r d k := by
  cases h : (tmB r.time && zoneB r.zone)
  · exact ⟨⟨#[]⟩, 2, fun W => rrecT_no _ _ h W, by show (0 : Nat) ≤ 7; omega, Or.inr ⟨h, rfl⟩⟩
  · exact ⟨recT2 r.time r.zone, 0, fun W => rrecT_yes _ _ h W, by rw [recT2_size (tz_of h).1 (tz_of h).2]; exact Nat.le_refl 7, Or.inl ⟨h, rfl, rfl⟩⟩
theorem recE_self {r : Rec} (hi : r.id = selfS) (hu : r.use = ⟨#[]⟩) : recE r = if (tmB r.time && zoneB r.zone && wordB r.lba && wordB r.len && halfB r.seq && byteB r.flags) = true then 0 else 2 := by
  unfold recE
  rw [hi, hu, if_neg (by decide), if_neg (by decide)]
theorem BF.weaken {B B' b : Nat} {l : List UInt8} {w : World} (h : BF B b l w) (hB : B' ≤ B) : BF B' b l w := by
  have row : ∀ (v' : Value) (n : Nat) (xs : List Value), w.ownsRowF B 5 1 v' n xs → w.ownsRowF B' 5 1 v' n xs := by
    intro v' n xs h3
    refine ⟨h3.1, ?_⟩
    rcases h3.2 with h2 | ⟨g', cap, cur, fz, hv, hg', hh, r⟩
    · exact Or.inl h2
    · exact Or.inr ⟨g', cap, cur, fz, hv, Nat.le_trans hB hg', hh, r⟩
  rcases h with ⟨h1, v', h2, h3, h4⟩ | ⟨h1, v', h2, h3, h4⟩
  · exact Or.inl ⟨Nat.le_trans hB h1, v', h2, row _ _ _ h3, h4⟩
  · exact Or.inr ⟨Nat.le_trans hB h1, v', h2, row _ _ _ h3, h4⟩
/-- The state of dirrecord.Encode: the record's block, the error's, the builder's. -/
structure ES (w : World) (r : Rec) (g b : Nat) (l : List UInt8) (k : Int) (W : World) : Prop where
  bf : BF g b l W
  bel : Below w.heap.size w W
  rb : Blk W w.heap.size r.cells 25
  gb : Blk W g #[.int .i64 k] 30
  l1 : w.heap.size < g
  l2 : g < b
theorem ES.alloc {w : World} {r : Rec} {g b : Nat} {l : List UInt8} {k : Int} {W : World} (h : ES w r g b l k W) (o : Obj) : ES w r g b l k (W.alloc o) :=
  ⟨h.bf.alloc _, h.bel.alloc h.bel.size _, h.rb.alloc _, h.gb.alloc _, h.l1, h.l2⟩
theorem ES.bwp {w : World} {r : Rec} {g b : Nat} {l l' : List UInt8} {k : Int} {W W' : World} (h : ES w r g b l k W) (hw : BWP g b l' W W') : ES w r g b l' k W' :=
  ⟨hw.1, h.bel.trans (hw.2.1.mono (Nat.le_of_lt h.l1)), h.rb.ok8 hw.2.2 (by decide) (by have := h.l1; have := h.l2; omega), h.gb.ok8 hw.2.2 (by decide) (by have := h.l2; omega), h.l1, h.l2⟩
theorem ES.lit {w : World} {r : Rec} {g b : Nat} {l l' : List UInt8} {k k' : Int} {W W' : World} (h : ES w r g b l k W) (hw : LitP g b g l' k' W W') : ES w r g b l' k' W' :=
  ⟨hw.1, h.bel.trans (hw.2.1.mono (Nat.le_of_lt h.l1)), hw.2.2.2 _ _ _ (by have := h.l1; have := h.l2; omega) (by have := h.l1; omega) (by decide) h.rb, hw.2.2.1, h.l1, h.l2⟩
theorem ES.bl {w : World} {r : Rec} {g b : Nat} {l : List UInt8} {k : Int} {W : World} (h : ES w r g b l k W) : b < W.heap.size := h.bf.lt
theorem ES.rat {w : World} {r : Rec} {g b : Nat} {l : List UInt8} {k : Int} {W : World} (h : ES w r g b l k W) : Rat W w.heap.size r := Rat.of h.rb
/-- The error that is left. -/
theorem wrong_iff {r : Rec} {d : ByteArray} {k : Int} (h : TimD r d k) : fE [(r.seq, 2)] (fE [(r.lba, 4), (r.len, 4)] k) = if (tmB r.time && zoneB r.zone && wordB r.lba && wordB r.len && halfB r.seq) = true then 0 else 2 := by
  have e1 : okP r.seq 2 = halfB r.seq := rfl
  have e2 : okP r.lba 4 = wordB r.lba := rfl
  have e3 : okP r.len 4 = wordB r.len := rfl
  unfold fE
  simp only [List.all_cons, List.all_nil, e1, e2, e3, Bool.and_true]
  rcases h.2 with ⟨h1, h2, _⟩ | ⟨h1, h2⟩
  · rw [h1, h2]
    cases wordB r.lba <;> cases wordB r.len <;> cases halfB r.seq <;> rfl
  · rw [h1, h2]
    cases wordB r.lba <;> cases wordB r.len <;> cases halfB r.seq <;> rfl
theorem enc_bytes {r : Rec} {d : ByteArray} {k : Int} (hi : r.id = selfS) (hu : r.use = ⟨#[]⟩) (ht : TimD r d k) (h : recE r = 0) :
    [] ++ [u8 34, u8 0] ++ fL [(r.lba, 4), (r.len, 4)] ++ d.data.toList ++ [u8 r.flags, u8 0, u8 0] ++ fL [(r.seq, 2)] ++ [u8 1] ++ (⟨#[0]⟩ : ByteArray).data.toList ++ (⟨#[]⟩ : ByteArray).data.toList = encR r := by
  obtain ⟨⟨htm, hz⟩, h1, h2, h3, h4⟩ := recE_zero h
  have hsz : recSz r.id.size r.use.size = 34 := by rw [hi, hu]; rfl
  have hi1 : r.id.size = 1 := by rw [hi]; rfl
  have hd : d = recT2 r.time r.zone := by
    rcases ht.2 with ⟨_, _, e⟩ | ⟨e, _⟩
    · exact e
    · rw [htm, hz] at e; cases e
  have b1 : bS r.lba 4 = both4 r.lba := by unfold bS; rw [if_pos (show okP r.lba 4 = true from decide_eq_true h1)]; rfl
  have b2 : bS r.len 4 = both4 r.len := by unfold bS; rw [if_pos (show okP r.len 4 = true from decide_eq_true h2)]; rfl
  have b3 : bS r.seq 2 = both2 r.seq := by unfold bS; rw [if_pos (show okP r.seq 2 = true from decide_eq_true h3)]; rfl
  have hp : padL r = [] := by unfold padL; rw [hi1]; rfl
  unfold encR segsR fL
  simp only [List.flatMap_cons, List.flatMap_nil, b1, b2, b3, hsz, hi1, hd, hp, List.flatten_cons, List.flatten_nil, List.append_nil, List.nil_append, List.append_assoc]
  rw [hi, hu]
  rfl
end Go.Proofs.YtjbhokmkmapkoaaGreatDoor
namespace Go.Proofs.YtjbhokmkmapkoaaGreatDoor
set_option linter.unusedSimpArgs false
set_option linter.unusedVariables false
open Go.RowKit
open Go.PlainAid (bt get_bt bt_nonneg bt_le bt_end)
theorem news3 (w : World) (a b c : Int) (ha : 0 ≤ a ∧ a ≤ 255) (hb : 0 ≤ b ∧ b ≤ 255) (hc : 0 ≤ c ∧ c ≤ 255) (T : TypeId) : ∀ j u, (Lib.byteCells [u8 a, u8 b, u8 c])[j]? = some u → (w.alloc (.cells #[.int .u8 a, .int .u8 b, .int .u8 c] T)).cell? ((⟨w.heap.size, 0, none⟩ : Addr).add j) = some u := by
  have eb : Lib.byteCells [u8 a, u8 b, u8 c] = (#[Value.int .u8 a, Value.int .u8 b, .int .u8 c] : Array Value).toList := by
    simp only [Lib.byteCells, List.map_cons, List.map_nil, u8_nat ha, u8_nat hb, u8_nat hc]
  rw [eb]
  exact World.news_of_block (heap_alloc_new w _)
theorem news2 (w : World) (a b : Int) (ha : 0 ≤ a ∧ a ≤ 255) (hb : 0 ≤ b ∧ b ≤ 255) (T : TypeId) : ∀ j u, (Lib.byteCells [u8 a, u8 b])[j]? = some u → (w.alloc (.cells #[.int .u8 a, .int .u8 b] T)).cell? ((⟨w.heap.size, 0, none⟩ : Addr).add j) = some u := by
  have eb : Lib.byteCells [u8 a, u8 b] = (#[Value.int .u8 a, Value.int .u8 b] : Array Value).toList := by
    simp only [Lib.byteCells, List.map_cons, List.map_nil, u8_nat ha, u8_nat hb]
  rw [eb]
  exact World.news_of_block (heap_alloc_new w _)
set_option maxRecDepth 100000 in
set_option maxHeartbeats 4000000 in
theorem dirEnc_any (r : Rec) (hi : r.id = selfS) (hu : r.use = ⟨#[]⟩) (w : World) : Calls Tryz.prog 36 #[.agg r.cells] w fun e w' => e = .returned (.tuple #[.string (encRS r), .int .i64 (recE r)]) ∧ Below w.heap.size w w' := by
  obtain ⟨d, k, RT0, hdk⟩ := rec_call r
  have RT := hide RT0
  have HD := hide hdk
  have hd7 : d.size ≤ 7 := hdk.1
  have HI := hide hi
  have HU := hide hu
  clear RT0 hdk hi hu
  have HL : Live w [] := trivial
  go_enter Tryz.func36, Tryz.ntmps36
  go_upto_region 1 with fail
  have hB1 : Blk (w.alloc (.cells r.cells 25)) w.heap.size r.cells 25 := Blk.newAt rfl
  have hbel1 : Below w.heap.size w (w.alloc (.cells r.cells 25)) := by (exact bl)
  generalize w.alloc (.cells r.cells 25) = W1 at *
  have hlt1 := hB1.lt
  have hrr := Rat.of hB1
  unfold Rat at hrr
  rw [HI.out, HU.out] at hrr
  unfold selfS at hrr
  have HL : Live W1 [w.heap.size] := ⟨hlt1, trivial⟩
  go_upto_region 9 with (first | (go_at_call 76; (with_reducible refine (size_self _).mono ?_); rintro e w' ⟨rfl, rfl⟩) | (go_at_call 77; (with_reducible refine (RT.out _).mono ?_); rintro e w' ⟨rfl, hb⟩; have hz := hb.size; (try simp only [SZ, Nat.reduceAdd] at hz); (first | obtain ⟨HL, hk⟩ := HL.callA hb hz | obtain ⟨HL, hk⟩ := HL.call0A hb hz); (try simp only [addN, Nat.add_zero] at HL hk); have hl := HL; simp only [Live] at hl; (try simp only [Kept] at hk)))
  have hz1 : w.heap.size < w'.heap.size := hl.1
  have hB2 : Below w.heap.size w w' := hbel1.trans (hb.mono (by omega))
  have hR2 : Blk w' w.heap.size r.cells 25 := Blk.below hb hB1
  have hS : ES w r w'.heap.size (w'.heap.size + 1) [] k ((w'.alloc (.cells #[.int .i64 k] 30)).alloc (.cells #[.pointer none, .slice none 0 0] 101)) := by
    refine ⟨?_, (hB2.alloc (by omega) _).alloc (by rw [World.size_alloc]; omega) _, (hR2.alloc _).alloc _, (Blk.newAt rfl).alloc _, hz1, by omega⟩
    have := BF.fresh (w'.alloc (.cells #[.int .i64 k] 30))
    simp only [World.size_alloc] at this
    exact this.weaken (by omega)
  generalize (w'.alloc (.cells #[.int .i64 k] 30)).alloc (.cells #[.pointer none, .slice none 0 0] 101) = W2 at *
  clear hk HL hl hz hB1 hrr hlt1 hB2 hR2 hbel1 hb
  have hb2 := hS.bl
  go_wp2_with fail
  refine (wbytes w'.heap.size (w'.heap.size + 1) [] [u8 34, u8 0] W2.heap.size 2 2 _ (hS.bf.alloc _) (by simp) (by rw [World.size_alloc]; omega) rfl (by omega) (news2 W2 34 0 (by omega) (by omega) _)).mono ?_
  rintro e W3 ⟨rfl, h3⟩
  have hS3 := (hS.alloc _).bwp h3
  clear h3 hS
  have hb3 := hS3.bl
  have hrr := hS3.rat
  unfold Rat at hrr
  go_wp2_with fail
  refine (lit_any w'.heap.size (w'.heap.size + 1) w'.heap.size W3.heap.size 4 [(r.lba, 4), (r.len, 4)] 4 rfl (by simp) (by simp) _ (by simp) k _ (hS3.bf.alloc _) (hS3.gb.alloc _) (Blk.newAt rfl) (by omega) (by omega) (by omega) (by omega) (by rw [World.size_alloc]; omega)).mono ?_
  rintro e W4 ⟨rfl, h4⟩
  have hS4 := (hS3.alloc _).lit h4
  clear h4 hS3 hrr
  have hb4 := hS4.bl
  have hrr := hS4.rat
  unfold Rat at hrr
  obtain ⟨l4, e4⟩ : ∃ l4, l4 = [] ++ [u8 34, u8 0] ++ fL [(r.lba, 4), (r.len, 4)] := ⟨_, rfl⟩
  have n4 : l4.length ≤ 20 := by
    have h1 := fL_len [(r.lba, 4), (r.len, 4)]
    rw [e4, List.length_append]; simp at *; omega
  rw [← e4] at hS4
  have E4 := hide e4
  clear e4
  obtain ⟨k4, ek4⟩ : ∃ k4, k4 = fE [(r.lba, 4), (r.len, 4)] k := ⟨_, rfl⟩
  rw [← ek4] at hS4
  have EK4 := hide ek4
  clear ek4
  go_wp2_with fail
  refine (wstring w'.heap.size (w'.heap.size + 1) l4 d W4 hS4.bf (by omega) (by omega)).mono ?_
  rintro e W5 ⟨rfl, h5⟩
  have hS5 := hS4.bwp h5
  clear h5 hS4 hrr
  have hb5 := hS5.bl
  have hrr := hS5.rat
  unfold Rat at hrr
  have n5 : (l4 ++ d.data.toList).length ≤ 40 := by have h1 : d.data.toList.length = d.size := Array.length_toList; rw [List.length_append]; omega
  have N5 := hide n5
  clear n5
  have fb : 0 ≤ r.flags % 256 ∧ r.flags % 256 ≤ 255 := by omega
  go_wp2_with fail
  refine (wbytes w'.heap.size (w'.heap.size + 1) (l4 ++ d.data.toList) [u8 (r.flags % 256), u8 0, u8 0] W5.heap.size 3 3 _ (hS5.bf.alloc _) (by have : [u8 (r.flags % 256), u8 0, u8 0].length = 3 := rfl; have := N5.out; omega) (by rw [World.size_alloc]; omega) rfl (by omega) (news3 W5 (r.flags % 256) 0 0 fb (by omega) (by omega) _)).mono ?_
  rintro e W6 ⟨rfl, h6⟩
  have hS6 := (hS5.alloc _).bwp h6
  clear h6 hS5 hrr
  have hb6 := hS6.bl
  have hrr := hS6.rat
  unfold Rat at hrr
  go_wp2_with fail
  refine (lit_any w'.heap.size (w'.heap.size + 1) w'.heap.size W6.heap.size 2 [(r.seq, 2)] 2 rfl (by simp) (by simp) _ (by rw [List.length_append]; have : [u8 (r.flags % 256), u8 0, u8 0].length = 3 := rfl; have := N5.out; omega) k4 _ (hS6.bf.alloc _) (hS6.gb.alloc _) (Blk.newAt rfl) (by omega) (by omega) (by omega) (by omega) (by rw [World.size_alloc]; omega)).mono ?_
  rintro e W7 ⟨rfl, h7⟩
  have hS7 := (hS6.alloc _).lit h7
  clear h7 hS6 hrr
  have hb7 := hS7.bl
  have hk4 : fE [(r.seq, 2)] k4 = if (tmB r.time && zoneB r.zone && wordB r.lba && wordB r.len && halfB r.seq) = true then 0 else 2 := by rw [EK4.out]; exact wrong_iff HD.out
  rw [hk4] at hS7
  clear hk4
  have hrr := hS7.rat
  unfold Rat at hrr
  rw [HI.out, HU.out] at hrr
  unfold selfS at hrr
  have hEq := recE_self HI.out HU.out
  cases hgd : (tmB r.time && zoneB r.zone && wordB r.lba && wordB r.len && halfB r.seq)
  case false =>
    rw [hgd] at hS7 hEq
    have hE : recE r = 2 := hEq
    have hEE := hide hE
    have hER := hide (show encRS r = ⟨#[]⟩ by unfold encRS; rw [hE]; rfl)
    clear hgd hEq hE
    have hcg : W7.cell? ⟨w'.heap.size, 0, none⟩ = some (.int .i64 2) := hS7.gb.cells 0
    go_wp2_with fail
    go_ret2
    exact ⟨ret2_sb hER.out.symm hEE.out.symm, hS7.bel⟩
  case true =>
    rw [hgd] at hS7 hEq
    have hcg : W7.cell? ⟨w'.heap.size, 0, none⟩ = some (.int .i64 0) := hS7.gb.cells 0
    by_cases hf : 0 ≤ r.flags ∧ r.flags ≤ 255
    case neg =>
      have hE : recE r = 2 := by rw [hEq, show byteB r.flags = false from decide_eq_false hf]; rfl
      have hEE := hide hE
      have hER := hide (show encRS r = ⟨#[]⟩ by unfold encRS; rw [hE]; rfl)
      clear hgd hEq hE
      by_cases hf0 : r.flags < 0
      · go_wp2_with fail
        go_ret2
        exact ⟨ret2_sb hER.out.symm hEE.out.symm, hS7.bel⟩
      · have hf1 : 255 < r.flags := by omega
        go_wp2_with fail
        go_ret2
        exact ⟨ret2_sb hER.out.symm hEE.out.symm, hS7.bel⟩
    case pos =>
      obtain ⟨hf0, hf1⟩ := hf
      have hE : recE r = 0 := by rw [hEq, show byteB r.flags = true from decide_eq_true ⟨hf0, hf1⟩]; rfl
      have hEE := hide hE
      have hER := hide (show encRS r = ⟨(encR r).toArray⟩ by unfold encRS; rw [hE]; rfl)
      have hfm : r.flags % 256 = r.flags := by omega
      rw [hfm] at hS7
      have hBy := enc_bytes HI.out HU.out HD.out hE
      clear hgd hEq hE hfm
      obtain ⟨l7, e7⟩ : ∃ l7, l7 = l4 ++ d.data.toList ++ [u8 r.flags, u8 0, u8 0] ++ fL [(r.seq, 2)] := ⟨_, rfl⟩
      rw [← e7] at hS7
      have n7 : l7.length ≤ 60 := by
        have h1 := fL_len [(r.seq, 2)]
        have h2 : [u8 r.flags, u8 0, u8 0].length = 3 := rfl
        have h3 : [(r.seq, (2 : Int))].length = 1 := rfl
        have := N5.out
        rw [e7, List.length_append, List.length_append]; omega
      rw [← E4.out, ← e7] at hBy
      have HB := hide hBy
      clear hBy e7
      go_wp2_with fail
      refine (wbyte w'.heap.size (w'.heap.size + 1) l7 1 W7 hS7.bf (by omega) (by omega) (by omega)).mono ?_
      rintro e W8 ⟨rfl, h8⟩
      have hS8 := hS7.bwp h8
      clear h8 hS7 hrr
      have hb8 := hS8.bl
      have hrr := hS8.rat
      unfold Rat at hrr
      rw [HI.out, HU.out] at hrr
      unfold selfS at hrr
      go_wp2_with fail
      refine (wstring w'.heap.size (w'.heap.size + 1) (l7 ++ [u8 1]) ⟨#[0]⟩ W8 hS8.bf (by rw [List.length_append]; show l7.length + 1 + 1 ≤ _; omega) (by omega)).mono ?_
      rintro e W9 ⟨rfl, h9⟩
      have hS9 := hS8.bwp h9
      clear h9 hS8 hrr
      have hb9 := hS9.bl
      have hrr := hS9.rat
      unfold Rat at hrr
      rw [HI.out, HU.out] at hrr
      unfold selfS at hrr
      go_wp2_with fail
      refine (wstring w'.heap.size (w'.heap.size + 1) (l7 ++ [u8 1] ++ (⟨#[0]⟩ : ByteArray).data.toList) ⟨#[]⟩ W9 hS9.bf (by rw [List.length_append, List.length_append]; show l7.length + 1 + 1 + 0 ≤ _; omega) (by omega)).mono ?_
      rintro e W10 ⟨rfl, h10⟩
      have hS10 := hS9.bwp h10
      clear h10 hS9 hrr
      have hb10 := hS10.bl
      rw [HB.out] at hS10
      go_wp2_with fail
      refine (bstring w'.heap.size (w'.heap.size + 1) (encR r) W10 hS10.bf (by omega)).mono ?_
      rintro e W11 ⟨rfl, h11⟩
      have hS11 := hS10.bwp h11
      clear h11 hS10
      go_wp2_with fail
      go_ret2
      exact ⟨ret2_sb hER.out.symm hEE.out.symm, hS11.bel⟩
end Go.Proofs.YtjbhokmkmapkoaaGreatDoor
namespace Go.Proofs.YtjbhokmkmapkoaaGreatDoor
set_option linter.unusedSimpArgs false
set_option linter.unusedVariables false
open Go.RowKit
open Go.PlainAid (bt get_bt bt_nonneg bt_le bt_end)
def fAt : Nat → Nat
  | 0 => 40
  | 1 => 190
  | 2 => 318
  | 3 => 446
  | _ => 574
def fSz : Nat → Nat
  | 0 => 32
  | _ => 128
def fSt : Nat → Bool
  | 0 => true
  | 1 => true
  | _ => false
def fTx (d : DR) : Nat → ByteArray
  | 0 => d.name
  | 1 => d.set
  | 2 => d.pub
  | 3 => d.prep
  | _ => d.app
theorem five {k : Nat} (h : k < 5) : k = 0 ∨ k = 1 ∨ k = 2 ∨ k = 3 ∨ k = 4 := by omega
theorem fld_at (b k : Nat) (h : k < 5) : (fldCells b 2)[k * 4]? = some (.int .i64 (fAt k)) ∧ (fldCells b 2)[k * 4 + 1]? = some (.int .i64 (fSz k)) ∧ (fldCells b 2)[k * 4 + 1 + 1]? = some (.bool (fSt k)) ∧ (fldCells b 2)[k * 4 + 1 + 1 + 1]? = some (.pointer (some ⟨b, 2 + k, none⟩)) := by
  rcases five h with rfl | rfl | rfl | rfl | rfl <;> exact ⟨rfl, rfl, rfl, rfl⟩
theorem txt_at (d : DR) (k : Nat) (h : k < 5) : d.cells[2 + k]? = some (.string (fTx d k)) := by
  rcases five h with rfl | rfl | rfl | rfl | rfl <;> rfl
/-- A field of a descriptor is right. -/
def fok (d : DR) (k : Nat) : Bool := okB (fTx d k) (fSz k) (fSt k) (wide d)
theorem names_fok (d : DR) : namesB d = (fok d 0 && fok d 1 && fok d 2 && fok d 3 && fok d 4) := rfl
theorem names_all {d : DR} (h : ∀ k, k < 5 → fok d k = true) : namesB d = true := by
  rw [names_fok, h 0 (by omega), h 1 (by omega), h 2 (by omega), h 3 (by omega), h 4 (by omega)]; rfl
theorem names_no {d : DR} {k : Nat} (hk : k < 5) (h : fok d k = false) : namesB d = false := by
  rw [names_fok]
  rcases five hk with rfl | rfl | rfl | rfl | rfl
  all_goals (rw [h]; simp)
/-- Short strings. -/
def ShortD (d : DR) : Prop := (∀ k, k < 5 → (fTx d k).size ≤ 1000) ∧ d.root.id.size ≤ 1000 ∧ d.root.use.size ≤ 1000
/-- A block reads as a descriptor. -/
def Dat (w : World) (b : Nat) (d : DR) : Prop := w.cell? ⟨b, 0, none⟩ = some (.int .i64 d.typ) ∧ w.cell? ⟨b, 1, none⟩ = some (.int .i64 d.cat) ∧ w.cell? ⟨b, 2, none⟩ = some (.string d.name) ∧ w.cell? ⟨b, 3, none⟩ = some (.string d.set) ∧ w.cell? ⟨b, 4, none⟩ = some (.string d.pub) ∧ w.cell? ⟨b, 5, none⟩ = some (.string d.prep) ∧ w.cell? ⟨b, 6, none⟩ = some (.string d.app)
  ∧ w.cell? ⟨b, 7, none⟩ = some (.int .i64 d.number) ∧ w.cell? ⟨b, 8, none⟩ = some (.int .i64 d.discs) ∧ w.cell? ⟨b, 9, none⟩ = some (.int .i64 d.time) ∧ w.cell? ⟨b, 10, none⟩ = some (.int .i64 d.zone) ∧ w.cell? ⟨b, 11, none⟩ = some (.int .i64 d.space) ∧ w.cell? ⟨b, 12, none⟩ = some (.int .i64 d.psize) ∧ w.cell? ⟨b, 13, none⟩ = some (.int .i64 d.pl) ∧ w.cell? ⟨b, 14, none⟩ = some (.int .i64 d.pm)
  ∧ w.cell? ⟨b, 15, none⟩ = some (.string d.root.id) ∧ w.cell? ⟨b, 16, none⟩ = some (.int .i64 d.root.lba) ∧ w.cell? ⟨b, 17, none⟩ = some (.int .i64 d.root.len) ∧ w.cell? ⟨b, 18, none⟩ = some (.int .i64 d.root.time) ∧ w.cell? ⟨b, 19, none⟩ = some (.int .i64 d.root.zone) ∧ w.cell? ⟨b, 20, none⟩ = some (.int .i64 d.root.flags) ∧ w.cell? ⟨b, 21, none⟩ = some (.int .i64 d.root.seq) ∧ w.cell? ⟨b, 22, none⟩ = some (.string d.root.use)
theorem Dat.of {w : World} {b : Nat} {d : DR} {T : TypeId} (h : Blk w b d.cells T) : Dat w b d := by
  unfold Dat
  have hc := h.cells
  exact ⟨(hc 0).trans rfl, (hc 1).trans rfl, (hc 2).trans rfl, (hc 3).trans rfl, (hc 4).trans rfl, (hc 5).trans rfl, (hc 6).trans rfl, (hc 7).trans rfl, (hc 8).trans rfl, (hc 9).trans rfl, (hc 10).trans rfl, (hc 11).trans rfl, (hc 12).trans rfl, (hc 13).trans rfl, (hc 14).trans rfl, (hc 15).trans rfl, (hc 16).trans rfl, (hc 17).trans rfl, (hc 18).trans rfl, (hc 19).trans rfl, (hc 20).trans rfl, (hc 21).trans rfl, (hc 22).trans rfl⟩
/-- A time's seventeen bytes and its error. -/
def DesD (d : DR) (x : ByteArray) (k : Int) : Prop := x.size ≤ 17 ∧ (((tmB d.time && zoneB d.zone) = true ∧ k = 0 ∧ x = desT2 d.time d.zone) ∨ ((tmB d.time && zoneB d.zone) = false ∧ k = 2))
theorem des_call (d : DR) : ∃ x k, (∀ W, Tab W → Calls Tryz.prog 37 #[.int .i64 d.time, .int .i64 d.zone] W fun e w' => e = .returned (.tuple #[.string x, .int .i64 k]) ∧ Below W.heap.size W w') ∧ DesD d x k := by
  cases h : (tmB d.time && zoneB d.zone)
  · exact ⟨⟨#[]⟩, 2, fun W _ => desT_no _ _ h W, by show (0 : Nat) ≤ 17; omega, Or.inr ⟨h, rfl⟩⟩
  · exact ⟨desT2 d.time d.zone, 0, fun W hT => desT_yes _ _ h W hT, by rw [desT2_size (tz_of h).1 (tz_of h).2]; exact Nat.le_refl 17, Or.inl ⟨h, rfl, rfl⟩⟩
theorem rdes_call (d : DR) : ∃ x k, (∀ W, Calls Tryz.prog 43 #[.int .i64 d.time, .int .i64 d.zone] W fun e w' => e = .returned (.tuple #[.string x, .int .i64 k]) ∧ Below W.heap.size W w') ∧ DesD d x k := by
  cases h : (tmB d.time && zoneB d.zone)
  · exact ⟨⟨#[]⟩, 2, fun W => rdesT_no _ _ h W, by show (0 : Nat) ≤ 17; omega, Or.inr ⟨h, rfl⟩⟩
  · exact ⟨desT2 d.time d.zone, 0, fun W => rdesT_yes _ _ h W, by rw [desT2_size (tz_of h).1 (tz_of h).2]; exact Nat.le_refl 17, Or.inl ⟨h, rfl, rfl⟩⟩
def badRoot (d : DR) : Bool := decide (d.root.id ≠ selfS ∨ d.root.use ≠ ⟨#[]⟩)
theorem chkD_12 {d : DR} (ht : d.typ = 1 ∨ d.typ = 2) : chkD d = if d.cat ≠ 0 then 1 else if namesB d = false then 4 else if badRoot d = true then 1 else if (rangesB d && (tmB d.time && zoneB d.zone) && decide (recE d.root = 0)) = true then 0 else 2 := by
  unfold chkD badRoot
  rw [if_neg (by omega), if_pos ht]
  simp only [decide_eq_true_eq, Bool.and_assoc]
/-- Both tables. -/
def TabD (w : World) : Prop := TabU w ∧ Tab w
theorem TabD.below {w w' : World} (h : TabD w) (hb : Below w.heap.size w w') : TabD w' := ⟨h.1.below hb, h.2.below hb⟩
/-- A store of a whole row into the block laid just before. -/
theorem setRow_alloc (W : World) (old cells : Array Value) (T : TypeId) : (W.alloc (.cells old T)).setRow W.heap.size cells = W.alloc (.cells cells T) := by
  have key : (W.heap.push (Obj.cells old T)).modify W.heap.size (fun x => match x with
      | .cells _ elem frozen => .cells cells elem frozen
      | o => o) = W.heap.push (Obj.cells cells T) := by
    apply Array.ext
    · simp
    · intro i h1 h2
      rw [Array.getElem_modify, Array.getElem_push, Array.getElem_push]
      by_cases hi : i < W.heap.size
      · rw [if_neg (by omega), dif_pos hi, dif_pos hi]
      · have : i = W.heap.size := by simp at h2; omega
        subst this
        simp
  show ({ W with heap := _ } : World) = { W with heap := _ }
  congr 1
theorem wpList_store_new {P : Program} {ops : Array Oper} {rest : List Oper} {o : Oper} {a : Act} {W : World} {Q : Exit → Act → World → Prop} (hgd : o.guard = none) (ty : TypeId) (x y : Operand) (ho : o.op = .store ty x y)
    (cells : Array Value) (hx : a.eval x = .pointer (some ⟨W.heap.size, 0, none⟩)) (hy : a.eval y = .agg cells)
    (t : TypeId) (old : Array Value) (hi : (P.info? ty).map (·.size) = some cells.size)
    (hold : old.size = cells.size) (h1 : cells.all (·.oneCell') = true)
    (h : wpList P ops Q rest (a.put o.dst undef) (W.alloc (.cells cells t))) : wpList P ops Q (o :: rest) a (W.alloc (.cells old t)) := by
  refine wpList_store_row hgd ty x y ho W.heap.size cells hx hy t old (heap_alloc_new W _) hi hold h1 ?_
  rw [setRow_alloc]
  exact h
end Go.Proofs.YtjbhokmkmapkoaaGreatDoor
