/- Readers at what the writers wrote. -/
import Derived.Test.YtkkkfbhpphngmaaDoorW2
import Derived.Test.YtkkkfbhpphngmaaDoorH2
namespace Go.Proofs.YtkkkfbhpphngmaaDoor
set_option linter.unusedSimpArgs false
set_option linter.unusedVariables false
open Go.RowKit
open Go.PlainAid (bt get_bt bt_nonneg bt_le)

theorem bt_lit (l : List UInt8) (i : Nat) (x : UInt8) (h : l[i]? = some x) : bt ⟨l.toArray⟩ i = (x.toNat : Int) := by
  obtain ⟨hi, hx⟩ := List.getElem?_eq_some_iff.1 h
  unfold bt
  rw [dif_pos (show i < (ByteArray.mk l.toArray).size from hi)]
  show (((l.toArray)[i]).toNat : Int) = _
  simp [hx]
theorem u8v (v : Int) (h : 0 ≤ v ∧ v ≤ 255) : ((UInt8.ofNat v.toNat).toNat : Int) = v := by
  rw [UInt8.toNat_ofNat']; omega
theorem bt_at (l : List UInt8) (i : Nat) (v : Int) (h : l[i]? = some (UInt8.ofNat v.toNat)) (hv : 0 ≤ v ∧ v ≤ 255) : bt ⟨l.toArray⟩ i = v := (bt_lit l i _ h).trans (u8v v hv)

theorem ro_yes {Y M D h m s z t : Int} (hv : vClk Y M D h m s) (he : secs Y M D h m s = t + 60 * z) (ht : 315532800 ≤ t ∧ t ≤ 4102444799) :
    ro1 Y M D h m s z true = t ∧ ro2 Y M D h m s z true = z ∧ ro3 Y M D h m s z true = 0 := by
  have hv' := vClkB_true.2 hv
  have e1 : secs Y M D h m s - 60 * z = t := by omega
  have tb := timeB_true.2 ht
  unfold ro1 ro2 ro3
  rw [e1, hv', tb]
  exact ⟨rfl, rfl, rfl⟩
theorem k_z {k z : Int} (hk : k = 4096 + z % 4096) (hz : -1440 ≤ z ∧ z ≤ 1440) : rsZ k = z ∧ rsR k = true := by
  have h1 : z1 k = z := by unfold z1; split <;> omega
  have h2 : ¬ k < 4096 := by omega
  have h3 : k < 8192 := by omega
  unfold rsZ rsR
  rw [h1]
  constructor
  · rw [if_neg (by omega)]
  · exact decide_eq_true (by omega)

theorem readStamp_at (t z Y M D h m s : Int) (hv : vClk Y M D h m s) (he : secs Y M D h m s = t + 60 * z) (ht : 315532800 ≤ t ∧ t ≤ 4102444799) (hz : -1440 ≤ z ∧ z ≤ 1440) (w : World) :
    Calls Tryd.prog 25 #[.string (stS Y M D h m s z)] w fun e w' => e = .returned (.tuple #[.int .i64 t, .int .i64 z, .int .i64 0]) ∧ Below w.heap.size w w' := by
  have hvv := hv
  unfold vClk at hvv
  have hmd := mdays_bd Y M
  refine (readStamp_yes _ rfl w).mono fun e w' ⟨h1, h2⟩ => ⟨?_, h2⟩
  have b0 : bt (stS Y M D h m s z) 0 = (4096 + z % 4096) % 256 := bt_at _ 0 _ rfl (by omega)
  have b1 : bt (stS Y M D h m s z) 1 = (4096 + z % 4096) / 256 := bt_at _ 1 _ rfl (by omega)
  have b2 : bt (stS Y M D h m s z) 2 = Y % 256 := bt_at _ 2 _ rfl (by omega)
  have b3 : bt (stS Y M D h m s z) 3 = Y / 256 := bt_at _ 3 _ rfl (by omega)
  have b4 : bt (stS Y M D h m s z) 4 = M := bt_at _ 4 _ rfl (by omega)
  have b5 : bt (stS Y M D h m s z) 5 = D := bt_at _ 5 _ rfl (by omega)
  have b6 : bt (stS Y M D h m s z) 6 = h := bt_at _ 6 _ rfl (by omega)
  have b7 : bt (stS Y M D h m s z) 7 = m := bt_at _ 7 _ rfl (by omega)
  have b8 : bt (stS Y M D h m s z) 8 = s := bt_at _ 8 _ rfl (by omega)
  have b9 : bt (stS Y M D h m s z) 9 = 0 := bt_at _ 9 0 rfl (by omega)
  have b10 : bt (stS Y M D h m s z) 10 = 0 := bt_at _ 10 0 rfl (by omega)
  have b11 : bt (stS Y M D h m s z) 11 = 0 := bt_at _ 11 0 rfl (by omega)
  have tl : tailB (stS Y M D h m s z) = true := by unfold tailB; rw [b9, b10, b11]; decide
  have kz := k_z (k := (4096 + z % 4096) % 256 + 256 * ((4096 + z % 4096) / 256)) (z := z) (by omega) hz
  have ey : Y % 256 + 256 * (Y / 256) = Y := by omega
  rw [h1, b0, b1, b2, b3, b4, b5, b6, b7, b8, tl, kz.1, kz.2, ey]
  obtain ⟨r1, r2, r3⟩ := ro_yes hv he ht
  show Ending.returned (.tuple #[.int .i64 (ro1 Y M D h m s z true), .int .i64 (ro2 Y M D h m s z true), .int .i64 (ro3 Y M D h m s z true)]) = _
  rw [r1, r2, r3]

theorem readRecord_at (t z q Y M D h m s : Int) (hv : vClk Y M D h m s) (he : secs Y M D h m s = t + 60 * z) (ht : 315532800 ≤ t ∧ t ≤ 4102444799) (hz : z = 15 * q) (hq : -48 ≤ q ∧ q ≤ 52) (w : World) :
    Calls Tryd.prog 21 #[.string (recS Y M D h m s q)] w fun e w' => e = .returned (.tuple #[.int .i64 t, .int .i64 z, .int .i64 0]) ∧ Below w.heap.size w w' := by
  have hvv := hv
  unfold vClk at hvv
  have hmd := mdays_bd Y M
  refine (readRecord_yes _ rfl w).mono fun e w' ⟨h1, h2⟩ => ⟨?_, h2⟩
  have b0 : bt (recS Y M D h m s q) 0 = Y - 1900 := bt_at _ 0 _ rfl (by omega)
  have b1 : bt (recS Y M D h m s q) 1 = M := bt_at _ 1 _ rfl (by omega)
  have b2 : bt (recS Y M D h m s q) 2 = D := bt_at _ 2 _ rfl (by omega)
  have b3 : bt (recS Y M D h m s q) 3 = h := bt_at _ 3 _ rfl (by omega)
  have b4 : bt (recS Y M D h m s q) 4 = m := bt_at _ 4 _ rfl (by omega)
  have b5 : bt (recS Y M D h m s q) 5 = s := bt_at _ 5 _ rfl (by omega)
  have b6 : bt (recS Y M D h m s q) 6 = q % 256 := bt_at _ 6 _ rfl (by omega)
  have sq : sg (q % 256) = q := by unfold sg; split <;> omega
  have qb : qB q = true := decide_eq_true hq
  have ey : 1900 + (Y - 1900) = Y := by omega
  rw [h1, b0, b1, b2, b3, b4, b5, b6, sq, qb, ey, ← hz]
  obtain ⟨r1, r2, r3⟩ := ro_yes hv he ht
  rw [r1, r2, r3]

theorem readDesc_at (t z q Y M D h m s : Int) (hv : vClk Y M D h m s) (he : secs Y M D h m s = t + 60 * z) (ht : 315532800 ≤ t ∧ t ≤ 4102444799) (hz : z = 15 * q) (hq : -48 ≤ q ∧ q ≤ 52) (w : World) :
    Calls Tryd.prog 29 #[.string (descS Y M D h m s q)] w fun e w' => e = .returned (.tuple #[.int .i64 t, .int .i64 z, .int .i64 0]) ∧ Below w.heap.size w w' := by
  have hvv := hv
  unfold vClk at hvv
  have hmd := mdays_bd Y M
  have b0 : bt (descS Y M D h m s q) 0 = 48 + Y / 1000 := bt_at (dig4 Y ++ dig2 M ++ dig2 D ++ dig2 h ++ dig2 m ++ dig2 s ++ [48, 48] ++ [zby q]) 0 _ rfl (by omega)
  have b1 : bt (descS Y M D h m s q) 1 = 48 + Y / 100 % 10 := bt_at (dig4 Y ++ dig2 M ++ dig2 D ++ dig2 h ++ dig2 m ++ dig2 s ++ [48, 48] ++ [zby q]) 1 _ rfl (by omega)
  have b2 : bt (descS Y M D h m s q) 2 = 48 + Y / 10 % 10 := bt_at (dig4 Y ++ dig2 M ++ dig2 D ++ dig2 h ++ dig2 m ++ dig2 s ++ [48, 48] ++ [zby q]) 2 _ rfl (by omega)
  have b3 : bt (descS Y M D h m s q) 3 = 48 + Y % 10 := bt_at (dig4 Y ++ dig2 M ++ dig2 D ++ dig2 h ++ dig2 m ++ dig2 s ++ [48, 48] ++ [zby q]) 3 _ rfl (by omega)
  have b4 : bt (descS Y M D h m s q) 4 = 48 + M / 10 := bt_at (dig4 Y ++ dig2 M ++ dig2 D ++ dig2 h ++ dig2 m ++ dig2 s ++ [48, 48] ++ [zby q]) 4 _ rfl (by omega)
  have b5 : bt (descS Y M D h m s q) 5 = 48 + M % 10 := bt_at (dig4 Y ++ dig2 M ++ dig2 D ++ dig2 h ++ dig2 m ++ dig2 s ++ [48, 48] ++ [zby q]) 5 _ rfl (by omega)
  have b6 : bt (descS Y M D h m s q) 6 = 48 + D / 10 := bt_at (dig4 Y ++ dig2 M ++ dig2 D ++ dig2 h ++ dig2 m ++ dig2 s ++ [48, 48] ++ [zby q]) 6 _ rfl (by omega)
  have b7 : bt (descS Y M D h m s q) 7 = 48 + D % 10 := bt_at (dig4 Y ++ dig2 M ++ dig2 D ++ dig2 h ++ dig2 m ++ dig2 s ++ [48, 48] ++ [zby q]) 7 _ rfl (by omega)
  have b8 : bt (descS Y M D h m s q) 8 = 48 + h / 10 := bt_at (dig4 Y ++ dig2 M ++ dig2 D ++ dig2 h ++ dig2 m ++ dig2 s ++ [48, 48] ++ [zby q]) 8 _ rfl (by omega)
  have b9 : bt (descS Y M D h m s q) 9 = 48 + h % 10 := bt_at (dig4 Y ++ dig2 M ++ dig2 D ++ dig2 h ++ dig2 m ++ dig2 s ++ [48, 48] ++ [zby q]) 9 _ rfl (by omega)
  have b10 : bt (descS Y M D h m s q) 10 = 48 + m / 10 := bt_at (dig4 Y ++ dig2 M ++ dig2 D ++ dig2 h ++ dig2 m ++ dig2 s ++ [48, 48] ++ [zby q]) 10 _ rfl (by omega)
  have b11 : bt (descS Y M D h m s q) 11 = 48 + m % 10 := bt_at (dig4 Y ++ dig2 M ++ dig2 D ++ dig2 h ++ dig2 m ++ dig2 s ++ [48, 48] ++ [zby q]) 11 _ rfl (by omega)
  have b12 : bt (descS Y M D h m s q) 12 = 48 + s / 10 := bt_at (dig4 Y ++ dig2 M ++ dig2 D ++ dig2 h ++ dig2 m ++ dig2 s ++ [48, 48] ++ [zby q]) 12 _ rfl (by omega)
  have b13 : bt (descS Y M D h m s q) 13 = 48 + s % 10 := bt_at (dig4 Y ++ dig2 M ++ dig2 D ++ dig2 h ++ dig2 m ++ dig2 s ++ [48, 48] ++ [zby q]) 13 _ rfl (by omega)
  have b14 : bt (descS Y M D h m s q) 14 = 48 := bt_at (dig4 Y ++ dig2 M ++ dig2 D ++ dig2 h ++ dig2 m ++ dig2 s ++ [48, 48] ++ [zby q]) 14 48 rfl (by omega)
  have b15 : bt (descS Y M D h m s q) 15 = 48 := bt_at (dig4 Y ++ dig2 M ++ dig2 D ++ dig2 h ++ dig2 m ++ dig2 s ++ [48, 48] ++ [zby q]) 15 48 rfl (by omega)
  have b16 : bt (descS Y M D h m s q) 16 = q % 256 := bt_at (dig4 Y ++ dig2 M ++ dig2 D ++ dig2 h ++ dig2 m ++ dig2 s ++ [48, 48] ++ [zby q]) 16 _ rfl (by omega)
  have hu : descS Y M D h m s q ≠ unS := by
    intro e
    rw [e] at b0
    have : bt unS 0 = 48 := by decide
    omega
  have hd : DigTo (descS Y M D h m s q) 16 := by
    intro k hk
    unfold Dig
    rcases (show k = 0 ∨ k = 1 ∨ k = 2 ∨ k = 3 ∨ k = 4 ∨ k = 5 ∨ k = 6 ∨ k = 7 ∨ k = 8 ∨ k = 9 ∨ k = 10 ∨ k = 11 ∨ k = 12 ∨ k = 13 ∨ k = 14 ∨ k = 15 by omega) with rfl | rfl | rfl | rfl | rfl | rfl | rfl | rfl | rfl | rfl | rfl | rfl | rfl | rfl | rfl | rfl <;> omega
  refine (readDesc_yes _ rfl hu hd w).mono fun e w' ⟨h1, h2⟩ => ⟨?_, h2⟩
  have n0 : num4 (descS Y M D h m s q) 0 = Y := by simp only [num4, Nat.zero_add]; omega
  have n4 : num2 (descS Y M D h m s q) 4 = M := by simp only [num2, Nat.reduceAdd]; omega
  have n6 : num2 (descS Y M D h m s q) 6 = D := by simp only [num2, Nat.reduceAdd]; omega
  have n8 : num2 (descS Y M D h m s q) 8 = h := by simp only [num2, Nat.reduceAdd]; omega
  have n10 : num2 (descS Y M D h m s q) 10 = m := by simp only [num2, Nat.reduceAdd]; omega
  have n12 : num2 (descS Y M D h m s q) 12 = s := by simp only [num2, Nat.reduceAdd]; omega
  have sq : sg (q % 256) = q := by unfold sg; split <;> omega
  have qb : qB q = true := decide_eq_true hq
  rw [h1, n0, n4, n6, n8, n10, n12, b16, sq, qb, ← hz]
  obtain ⟨r1, r2, r3⟩ := ro_yes hv he ht
  rw [r1, r2, r3]
end Go.Proofs.YtkkkfbhpphngmaaDoor
