/- Splitting at colons; the library's contracts at words. -/
import Derived.Test.YtihnkanmlbgidaaDoorF
import Derived.Test.YtihnkanmlbgidaaDoorD
import Derived.Lib.SplitLaws
import Derived.Lib.IndexBytes
namespace Go.Proofs.YtihnkanmlbgidaaDoor
set_option linter.unusedSimpArgs false
set_option linter.unusedVariables false
open Go.RowKit

/-- What Parse reads of the library's variables. -/
def TabP (w : World) : Prop := (∃ m, w.cell? ⟨3, 0, none⟩ = some (.int .i64 m)) ∧ (∃ tp p, w.var? Tryd.prog "strconv.ErrSyntax" = some #[.iface tp p]) ∧ (∃ tp p, w.var? Tryd.prog "strconv.ErrRange" = some #[.iface tp p])
theorem synG : Tryd.prog.globalNamed "strconv.ErrSyntax" = some 0 := by kernel_rfl
theorem rngG : Tryd.prog.globalNamed "strconv.ErrRange" = some 1 := by kernel_rfl
theorem cell_lt {w : World} {b o : Nat} {v : Value} (h : w.cell? ⟨b, o, none⟩ = some v) : b < w.heap.size := by
  rcases Nat.lt_or_ge b w.heap.size with h' | h'
  · exact h'
  · simp [World.cell?, Array.getElem?_eq_none h'] at h
theorem var_below {n : String} {g : Nat} {cs : Array Value} {w w' : World} (hg : Tryd.prog.globalNamed n = some g) (h : w.var? Tryd.prog n = some cs) (hb : Below w.heap.size w w') : w'.var? Tryd.prog n = some cs := by
  have hlt : g < w.heap.size := by
    rcases Nat.lt_or_ge g w.heap.size with h' | h'
    · exact h'
    · unfold World.var? at h
      simp only [hg, Option.bind_some] at h
      rw [Array.getElem?_eq_none h'] at h
      cases h
  unfold World.var? at h ⊢
  simp only [hg, Option.bind_some] at h ⊢
  rw [hb.block g hlt]
  exact h
theorem TabP.below {w w' : World} (h : TabP w) (hb : Below w.heap.size w w') : TabP w' := by
  obtain ⟨⟨m, hm⟩, ⟨t1, p1, h1⟩, ⟨t2, p2, h2⟩⟩ := h
  exact ⟨⟨m, (hb.cell (p := ⟨3, 0, none⟩) (cell_lt hm)).trans hm⟩, ⟨t1, p1, var_below synG h1 hb⟩, ⟨t2, p2, var_below rngG h2 hb⟩⟩
theorem TabP.alloc {w : World} (h : TabP w) (o : Obj) : TabP (w.alloc o) := h.below (Below.alloc (Below.refl _ _) (Nat.le_refl _) _)
theorem TabP.drew {w : World} (h : TabP w) : TabP w.drew := h.below (Below.drew (Below.refl _ _))

def colon : ByteArray := ⟨#[58]⟩
theorem idx2 (a b : UInt8) (r : List UInt8) (ha : a ≠ 58) (hb : b ≠ 58) : Lib.index (a :: b :: 58 :: r) [58] = 2 := by
  have e1 : (a == 58) = false := by simp [ha]
  have e2 : (b == 58) = false := by simp [hb]
  rw [Lib.index_one]
  simp [Lib.indexByte, e1, e2]
theorem idx0 (a b : UInt8) (ha : a ≠ 58) (hb : b ≠ 58) : Lib.index [a, b] [58] = -1 := by
  have e1 : (a == 58) = false := by simp [ha]
  have e2 : (b == 58) = false := by simp [hb]
  rw [Lib.index_one]
  simp [Lib.indexByte, e1, e2]
theorem dg_ne (v : Int) (h : 0 ≤ v ∧ v ≤ 9) : UInt8.ofNat (48 + v).toNat ≠ 58 := by
  intro e
  have := congrArg UInt8.toNat e
  rw [UInt8.toNat_ofNat'] at this
  have e2 : (58 : UInt8).toNat = 58 := rfl
  omega
theorem dg_nat (v : Int) (h : 0 ≤ v ∧ v ≤ 9) : (UInt8.ofNat (48 + v).toNat).toNat = (48 + v).toNat := by
  rw [UInt8.toNat_ofNat']; omega
theorem split_txt {m s f : Int} (h : 0 ≤ m ∧ m ≤ 99 ∧ 0 ≤ s ∧ s ≤ 59 ∧ 0 ≤ f ∧ f ≤ 74) : Lib.countB (txtS m s f) colon = 2 ∧ Lib.splitB colon 0 2 (txtS m s f) = [d2 m, d2 s, d2 f] := by
  have i1 : Lib.indexB (txtS m s f) colon = (2 : Nat) := idx2 _ _ _ (dg_ne _ (by omega)) (dg_ne _ (by omega))
  have e1 : (txtS m s f).extract 3 (txtS m s f).size = ⟨#[UInt8.ofNat (48 + s / 10).toNat, UInt8.ofNat (48 + s % 10).toNat, 58, UInt8.ofNat (48 + f / 10).toNat, UInt8.ofNat (48 + f % 10).toNat]⟩ := rfl
  have i2 : Lib.indexB ⟨#[UInt8.ofNat (48 + s / 10).toNat, UInt8.ofNat (48 + s % 10).toNat, 58, UInt8.ofNat (48 + f / 10).toNat, UInt8.ofNat (48 + f % 10).toNat]⟩ colon = (2 : Nat) := idx2 _ _ _ (dg_ne _ (by omega)) (dg_ne _ (by omega))
  have i3 : Lib.indexB (d2 f) colon = -1 := idx0 _ _ (dg_ne _ (by omega)) (dg_ne _ (by omega))
  have hc : 1 ≤ colon.size := by decide
  constructor
  · rw [Lib.countB_hit _ _ 2 hc i1]
    show 1 + Lib.countB ((txtS m s f).extract 3 (txtS m s f).size) colon = 2
    rw [e1, Lib.countB_hit _ _ 2 hc i2]
    show 1 + (1 + Lib.countB (d2 f) colon) = 2
    rw [Lib.countB_miss _ _ i3]
  · rw [Lib.splitB_hit _ _ _ _ 2 i1]
    show d2 m :: Lib.splitB colon 0 1 ((txtS m s f).extract 3 (txtS m s f).size) = _
    rw [e1, Lib.splitB_hit _ _ _ _ 2 i2]
    rfl
theorem piece_size (sep : ByteArray) (sv : Nat) : ∀ (k : Nat) (s p : ByteArray), p ∈ Lib.splitB sep sv k s → p.size ≤ s.size
  | 0, s, p, h => by
    rw [Lib.splitB_zero] at h
    simp at h; rw [h]; exact Nat.le_refl _
  | k + 1, s, p, h => by
    rcases Lib.indexB_cases s sep with hm | ⟨i, hi, _⟩
    · rw [Lib.splitB_miss _ _ _ _ hm] at h
      simp at h; rw [h]; exact Nat.le_refl _
    · rw [Lib.splitB_hit _ _ _ _ i hi] at h
      rcases List.mem_cons.1 h with rfl | h
      · simp; omega
      · have := piece_size sep sv k _ p h
        have e : (s.extract (i + sep.size) s.size).size ≤ s.size := by simp
        omega

theorem splitC (x : ByteArray) (hx : x.size ≤ 20) (w : World) (hT : TabP w) : Calls Tryd.prog 28 #[.string x, .string colon] w fun e w' =>
    e = .returned (.slice (some ⟨w.heap.size, 0, none⟩) (Lib.countB x colon + 1) (Lib.countB x colon + 1)) ∧ w' = w.alloc (.cells ((Lib.splitB colon 0 (Lib.countB x colon) x).map Value.string).toArray 9) := by
  obtain ⟨⟨m, hm⟩, -, -⟩ := hT
  exact Any.strings_Split { Tryd.laysM146 with } Tryd.laysM146.i9 x colon m w (by omega) hm (by decide)

theorem below_bytesW2 {w w' : World} {T : TypeId} (h : w' = w ∨ ∃ t, w' = Lib.bytesWorld w T t) : Below w.heap.size w w' := by
  rcases h with rfl | ⟨t, rfl⟩
  · exact Below.refl _ _
  · exact Lib.bytesWorld_below _ _ _
theorem atoi_ok (s : ByteArray) (v : Int) (hs : s.size ≤ 20) (h : Lib.atoiAll s.data.toList = .ok v) (w : World) : Calls Tryd.prog 29 #[.string s] w fun e w' => e = .returned (.tuple #[.int .i64 v, .nilIface]) ∧ Below w.heap.size w w' :=
  (Any.strconv_Atoi_ok Tryd.laysC172 s (by omega) _ h w).mono fun e w' ⟨he, hw⟩ => ⟨he, below_bytesW2 hw⟩
/-- An error's value and type stand behind the letters. -/
def Fails (w : World) (e : Ending) (w' : World) : Prop := ∃ (v : Int) (T : TypeId) (N : Nat), e = .returned (.tuple #[.int .i64 v, .iface T (.pointer (some ⟨N, 0, none⟩))]) ∧ Below w.heap.size w w'
theorem atoi_no (s : ByteArray) (hs : s.size ≤ 20) (h : ∀ v, Lib.atoiAll s.data.toList ≠ .ok v) (w : World) (hT : TabP w) : Calls Tryd.prog 29 #[.string s] w (Fails w) := by
  obtain ⟨-, ⟨t1, p1, h1⟩, ⟨t2, p2, h2⟩⟩ := hT
  cases hh : Lib.atoiAll s.data.toList with
  | ok v => exact absurd hh (h v)
  | range => exact (Any.strconv_Atoi_range_var Tryd.laysC172 s (by omega) hh t2 p2 w h2).mono fun e w' ⟨N, he, _, _, hb⟩ => ⟨_, _, N, he, hb⟩
  | _ => exact (Any.strconv_Atoi_syntax_var Tryd.laysC172 s (by omega) hh t1 p1 w h1).mono fun e w' ⟨N, he, _, _, hb⟩ => ⟨_, _, N, he, hb⟩
theorem atoi_d2 (n : Int) (h : 0 ≤ n ∧ n ≤ 99) : Lib.atoiAll (d2 n).data.toList = .ok n := by
  have u0 := dg_nat (n / 10) (by omega)
  have u1 := dg_nat (n % 10) (by omega)
  show Lib.atoiAll [UInt8.ofNat (48 + n / 10).toNat, UInt8.ofNat (48 + n % 10).toNat] = _
  simp only [Lib.atoiAll, Lib.parseMag, Lib.parseUint10, u0, u1]
  rw [if_neg (show ¬ ((48 + n / 10).toNat = 43 ∨ (48 + n / 10).toNat = 45) by omega), if_neg (List.cons_ne_nil _ _)]
  simp only [Lib.parseUint10, u0, u1]
  rw [if_pos (by omega), if_neg (by omega), if_neg (by omega), if_pos (by omega), if_neg (by omega), if_neg (by omega)]
  simp only
  rw [if_neg (by omega), if_neg (by omega), if_neg (by omega)]
  congr 1
  omega
theorem atoi_dd (n : Int) (h : 0 ≤ n ∧ n ≤ 99) (w : World) : Calls Tryd.prog 29 #[.string (d2 n)] w fun e w' => e = .returned (.tuple #[.int .i64 n, .nilIface]) ∧ Below w.heap.size w w' := atoi_ok (d2 n) n (by rw [d2_size]; omega) (atoi_d2 n h) w
end Go.Proofs.YtihnkanmlbgidaaDoor
