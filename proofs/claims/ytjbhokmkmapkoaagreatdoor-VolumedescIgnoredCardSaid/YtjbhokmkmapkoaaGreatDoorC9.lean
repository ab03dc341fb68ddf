/- Contracts and plain words for the laws of volume descriptors, part 9: Wt. No condition. -/
import Derived.Test.YtjbhokmkmapkoaaGreatDoorC0
import Derived.Test.YtjbhokmkmapkoaaGreatDoorC8
namespace Go.Proofs.YtjbhokmkmapkoaaGreatDoor
set_option linter.unusedSimpArgs false
set_option linter.unusedVariables false
open Go.RowKit
open Go.PlainAid (bt get_bt bt_nonneg bt_le bt_end)
def yrF (n : Int) : Nat → Int
  | 0 => 1970
  | k + 1 => if Dt.dby (1970 + ((k + 1 : Nat) : Int)) ≤ n then 1970 + ((k + 1 : Nat) : Int) else yrF n k
def moF (y n : Int) : Nat → Int
  | 0 => 1
  | k + 1 => if Dt.cum y (1 + ((k + 1 : Nat) : Int)) ≤ n then 1 + ((k + 1 : Nat) : Int) else moF y n k
theorem yr_ok (n : Int) (h0 : Dt.dby 1970 ≤ n) : ∀ k : Nat, n < Dt.dby (1970 + ((k + 1 : Nat) : Int)) → 1970 ≤ yrF n k ∧ yrF n k ≤ 1970 + k ∧ Dt.dby (yrF n k) ≤ n ∧ n < Dt.dby (yrF n k + 1)
  | 0, h => ⟨by simp [yrF], by simp [yrF], h0, h⟩
  | k + 1, h => by
    unfold yrF
    split
    · rename_i hk
      exact ⟨by omega, by omega, hk, by rw [show (1970 : Int) + ((k + 1 : Nat) : Int) + 1 = 1970 + ((k + 1 + 1 : Nat) : Int) from by omega]; exact h⟩
    · rename_i hk
      obtain ⟨h1, h2, h3, h4⟩ := yr_ok n h0 k (by omega)
      exact ⟨h1, by omega, h3, h4⟩
theorem mo_ok (y n : Int) (h0 : 0 ≤ n) : ∀ k : Nat, n < Dt.cum y (1 + ((k + 1 : Nat) : Int)) → 1 ≤ moF y n k ∧ moF y n k ≤ 1 + k ∧ Dt.cum y (moF y n k) ≤ n ∧ n < Dt.cum y (moF y n k + 1)
  | 0, h => ⟨by simp [moF], by simp [moF], by simp [moF, Dt.cum_one]; exact h0, h⟩
  | k + 1, h => by
    unfold moF
    split
    · rename_i hk
      exact ⟨by omega, by omega, hk, by rw [show (1 : Int) + ((k + 1 : Nat) : Int) + 1 = 1 + ((k + 1 + 1 : Nat) : Int) from by omega]; exact h⟩
    · rename_i hk
      obtain ⟨h1, h2, h3, h4⟩ := mo_ok y n h0 k (by omega)
      exact ⟨h1, by omega, h3, h4⟩
def Clk (L Y M D h m s : Int) : Prop := Dt.vClk Y M D h m s ∧ Dt.secs Y M D h m s = L
def yOf (t : Int) : Int := yrF (t / 86400 + 719528) 130
def mOf (t : Int) : Int := moF (yOf t) (t / 86400 + 719528 - Dt.dby (yOf t)) 11
def dOf (t : Int) : Int := t / 86400 + 719528 - Dt.dby (yOf t) - Dt.cum (yOf t) (mOf t) + 1
theorem clk_of (t : Int) (ht : 315489600 ≤ t ∧ t ≤ 4102491599) : Clk t (yOf t) (mOf t) (dOf t) (t % 86400 / 3600) (t % 86400 / 60 % 60) (t % 86400 % 60) := by
  unfold dOf
  obtain ⟨h1, h2, h3, h4⟩ := yr_ok (t / 86400 + 719528) (by rw [Dt.dby1970]; omega) 130 (by
    rw [show (1970 : Int) + ((130 + 1 : Nat) : Int) = 2101 from rfl]
    have : 767300 ≤ Dt.dby 2101 := by decide +kernel
    omega)
  have hy : yrF (t / 86400 + 719528) 130 = yOf t := rfl
  rw [hy] at h1 h2 h3 h4
  rw [Dt.dby_succ] at h4
  obtain ⟨h5, h6, h7, h8⟩ := mo_ok (yOf t) (t / 86400 + 719528 - Dt.dby (yOf t)) (by omega) 11 (by
    rw [show (1 : Int) + ((11 + 1 : Nat) : Int) = 13 from rfl, Dt.cum_end]; omega)
  have hm : moF (yOf t) (t / 86400 + 719528 - Dt.dby (yOf t)) 11 = mOf t := rfl
  rw [hm] at h5 h6 h7 h8
  rw [Dt.cum_succ _ _ h5 (by omega)] at h8
  exact Dt.split_fin (by omega) (by omega) h1 (by omega) h5 (by omega) (by omega) (by omega) (by omega)
/-- The seven bytes of a time. -/
def recT2 (t z : Int) : ByteArray := Dt.recS (yOf (t + 60 * z)) (mOf (t + 60 * z)) (dOf (t + 60 * z)) ((t + 60 * z) % 86400 / 3600) ((t + 60 * z) % 86400 / 60 % 60) ((t + 60 * z) % 86400 % 60) (z / 15)
/-- The seventeen bytes of a time. -/
def desT2 (t z : Int) : ByteArray := Dt.descS (yOf (t + 60 * z)) (mOf (t + 60 * z)) (dOf (t + 60 * z)) ((t + 60 * z) % 86400 / 3600) ((t + 60 * z) % 86400 / 60 % 60) ((t + 60 * z) % 86400 % 60) (z / 15)
def roV (Y M D h m s z : Int) (r : Bool) : Int × Int × Int := (Dt.ro1 Y M D h m s z r, Dt.ro2 Y M D h m s z r, Dt.ro3 Y M D h m s z r)
/-- The time and zone of seven bytes, and the error. -/
def rrT (s : ByteArray) : Int × Int × Int := if s.size = 7 then roV (1900 + bt s 0) (bt s 1) (bt s 2) (bt s 3) (bt s 4) (bt s 5) (15 * Dt.sg (bt s 6)) (Dt.qB (Dt.sg (bt s 6))) else (0, 0, 1)
def digB (s : ByteArray) : Bool := (List.range 16).all fun m => decide (48 ≤ bt s m ∧ bt s m ≤ 57)
/-- The time and zone of seventeen bytes, and the error. -/
def rdT (s : ByteArray) : Int × Int × Int :=
  if s.size ≠ 17 then (0, 0, 1) else if s = Dt.unS then (0, 0, 0)
  else if digB s = true then roV (Dt.num4 s 0) (Dt.num2 s 4) (Dt.num2 s 6) (Dt.num2 s 8) (Dt.num2 s 10) (Dt.num2 s 12) (15 * Dt.sg (bt s 16)) (Dt.qB (Dt.sg (bt s 16))) else (0, 0, 10)
def unL : List UInt8 := [48, 48, 48, 48, 48, 48, 48, 48, 48, 48, 48, 48, 48, 48, 48, 48, 0]
theorem zone_of {z : Int} (h : zoneB z = true) : z = 15 * (z / 15) ∧ -48 ≤ z / 15 ∧ z / 15 ≤ 52 ∧ -720 ≤ z ∧ z ≤ 780 := by
  obtain ⟨h1, h2, h3⟩ := of_decide_eq_true h
  have : (15 : Int) ∣ z := Int.dvd_of_tmod_eq_zero h3
  omega
theorem time_of {t : Int} (h : tmB t = true) : 315532800 ≤ t ∧ t ≤ 4102444799 := of_decide_eq_true h
theorem clk_at {t z : Int} (ht : tmB t = true) (hz : zoneB z = true) : Clk (t + 60 * z) (yOf (t + 60 * z)) (mOf (t + 60 * z)) (dOf (t + 60 * z)) ((t + 60 * z) % 86400 / 3600) ((t + 60 * z) % 86400 / 60 % 60) ((t + 60 * z) % 86400 % 60) := by
  have h1 := time_of ht
  have h2 := zone_of hz
  exact clk_of _ (by omega)
theorem recT2_size {t z : Int} (_ : tmB t = true) (_ : zoneB z = true) : (recT2 t z).size = 7 := rfl
theorem desT2_size {t z : Int} (_ : tmB t = true) (_ : zoneB z = true) : (desT2 t z).size = 17 := rfl
theorem ro_yes {Y M D h m s z t : Int} (hv : Dt.vClk Y M D h m s) (he : Dt.secs Y M D h m s = t + 60 * z) (ht : 315532800 ≤ t ∧ t ≤ 4102444799) : roV Y M D h m s z true = (t, z, 0) := by
  have hv' := Dt.vClkB_true.2 hv
  have e1 : Dt.secs Y M D h m s - 60 * z = t := by omega
  have tb := Dt.timeB_true.2 ht
  unfold roV Dt.ro1 Dt.ro2 Dt.ro3
  rw [e1, hv', tb]
  rfl
theorem bt_u {l : List UInt8} {i : Nat} {v : Int} (h : l[i]? = some (UInt8.ofNat v.toNat)) (hv : 0 ≤ v ∧ v ≤ 255) : bt ⟨l.toArray⟩ i = v := by
  rw [bt_of h, UInt8.toNat_ofNat']; omega
theorem rr_at {t z q Y M D h m s : Int} (hv : Dt.vClk Y M D h m s) (he : Dt.secs Y M D h m s = t + 60 * z) (ht : 315532800 ≤ t ∧ t ≤ 4102444799) (hz : z = 15 * q) (hq : -48 ≤ q ∧ q ≤ 52) : rrT (Dt.recS Y M D h m s q) = (t, z, 0) := by
  have hvv := hv
  unfold Dt.vClk at hvv
  have hmd := Dt.mdays_bd Y M
  have b0 : bt (Dt.recS Y M D h m s q) 0 = Y - 1900 := bt_u (i := 0) rfl (by omega)
  have b1 : bt (Dt.recS Y M D h m s q) 1 = M := bt_u (i := 1) rfl (by omega)
  have b2 : bt (Dt.recS Y M D h m s q) 2 = D := bt_u (i := 2) rfl (by omega)
  have b3 : bt (Dt.recS Y M D h m s q) 3 = h := bt_u (i := 3) rfl (by omega)
  have b4 : bt (Dt.recS Y M D h m s q) 4 = m := bt_u (i := 4) rfl (by omega)
  have b5 : bt (Dt.recS Y M D h m s q) 5 = s := bt_u (i := 5) rfl (by omega)
  have b6 : bt (Dt.recS Y M D h m s q) 6 = q % 256 := bt_u (i := 6) rfl (by omega)
  have sq : Dt.sg (q % 256) = q := by unfold Dt.sg; split <;> omega
  have qb : Dt.qB q = true := decide_eq_true hq
  have ey : 1900 + (Y - 1900) = Y := by omega
  unfold rrT
  rw [if_pos (show (Dt.recS Y M D h m s q).size = 7 from rfl), b0, b1, b2, b3, b4, b5, b6, sq, qb, ey, ← hz]
  exact ro_yes hv he ht
theorem rd_at {t z q Y M D h m s : Int} (hv : Dt.vClk Y M D h m s) (he : Dt.secs Y M D h m s = t + 60 * z) (ht : 315532800 ≤ t ∧ t ≤ 4102444799) (hz : z = 15 * q) (hq : -48 ≤ q ∧ q ≤ 52) : rdT (Dt.descS Y M D h m s q) = (t, z, 0) := by
  have hvv := hv
  unfold Dt.vClk at hvv
  have hmd := Dt.mdays_bd Y M
  have hS : Dt.descS Y M D h m s q = ⟨(Dt.dig4 Y ++ Dt.dig2 M ++ Dt.dig2 D ++ Dt.dig2 h ++ Dt.dig2 m ++ Dt.dig2 s ++ [48, 48] ++ [Dt.zby q]).toArray⟩ := rfl
  have b0 : bt (Dt.descS Y M D h m s q) 0 = 48 + Y / 1000 := bt_u (l := Dt.dig4 Y ++ Dt.dig2 M ++ Dt.dig2 D ++ Dt.dig2 h ++ Dt.dig2 m ++ Dt.dig2 s ++ [48, 48] ++ [Dt.zby q]) (i := 0) rfl (by omega)
  have b1 : bt (Dt.descS Y M D h m s q) 1 = 48 + Y / 100 % 10 := bt_u (l := Dt.dig4 Y ++ Dt.dig2 M ++ Dt.dig2 D ++ Dt.dig2 h ++ Dt.dig2 m ++ Dt.dig2 s ++ [48, 48] ++ [Dt.zby q]) (i := 1) rfl (by omega)
  have b2 : bt (Dt.descS Y M D h m s q) 2 = 48 + Y / 10 % 10 := bt_u (l := Dt.dig4 Y ++ Dt.dig2 M ++ Dt.dig2 D ++ Dt.dig2 h ++ Dt.dig2 m ++ Dt.dig2 s ++ [48, 48] ++ [Dt.zby q]) (i := 2) rfl (by omega)
  have b3 : bt (Dt.descS Y M D h m s q) 3 = 48 + Y % 10 := bt_u (l := Dt.dig4 Y ++ Dt.dig2 M ++ Dt.dig2 D ++ Dt.dig2 h ++ Dt.dig2 m ++ Dt.dig2 s ++ [48, 48] ++ [Dt.zby q]) (i := 3) rfl (by omega)
  have b4 : bt (Dt.descS Y M D h m s q) 4 = 48 + M / 10 := bt_u (l := Dt.dig4 Y ++ Dt.dig2 M ++ Dt.dig2 D ++ Dt.dig2 h ++ Dt.dig2 m ++ Dt.dig2 s ++ [48, 48] ++ [Dt.zby q]) (i := 4) rfl (by omega)
  have b5 : bt (Dt.descS Y M D h m s q) 5 = 48 + M % 10 := bt_u (l := Dt.dig4 Y ++ Dt.dig2 M ++ Dt.dig2 D ++ Dt.dig2 h ++ Dt.dig2 m ++ Dt.dig2 s ++ [48, 48] ++ [Dt.zby q]) (i := 5) rfl (by omega)
  have b6 : bt (Dt.descS Y M D h m s q) 6 = 48 + D / 10 := bt_u (l := Dt.dig4 Y ++ Dt.dig2 M ++ Dt.dig2 D ++ Dt.dig2 h ++ Dt.dig2 m ++ Dt.dig2 s ++ [48, 48] ++ [Dt.zby q]) (i := 6) rfl (by omega)
  have b7 : bt (Dt.descS Y M D h m s q) 7 = 48 + D % 10 := bt_u (l := Dt.dig4 Y ++ Dt.dig2 M ++ Dt.dig2 D ++ Dt.dig2 h ++ Dt.dig2 m ++ Dt.dig2 s ++ [48, 48] ++ [Dt.zby q]) (i := 7) rfl (by omega)
  have b8 : bt (Dt.descS Y M D h m s q) 8 = 48 + h / 10 := bt_u (l := Dt.dig4 Y ++ Dt.dig2 M ++ Dt.dig2 D ++ Dt.dig2 h ++ Dt.dig2 m ++ Dt.dig2 s ++ [48, 48] ++ [Dt.zby q]) (i := 8) rfl (by omega)
  have b9 : bt (Dt.descS Y M D h m s q) 9 = 48 + h % 10 := bt_u (l := Dt.dig4 Y ++ Dt.dig2 M ++ Dt.dig2 D ++ Dt.dig2 h ++ Dt.dig2 m ++ Dt.dig2 s ++ [48, 48] ++ [Dt.zby q]) (i := 9) rfl (by omega)
  have b10 : bt (Dt.descS Y M D h m s q) 10 = 48 + m / 10 := bt_u (l := Dt.dig4 Y ++ Dt.dig2 M ++ Dt.dig2 D ++ Dt.dig2 h ++ Dt.dig2 m ++ Dt.dig2 s ++ [48, 48] ++ [Dt.zby q]) (i := 10) rfl (by omega)
  have b11 : bt (Dt.descS Y M D h m s q) 11 = 48 + m % 10 := bt_u (l := Dt.dig4 Y ++ Dt.dig2 M ++ Dt.dig2 D ++ Dt.dig2 h ++ Dt.dig2 m ++ Dt.dig2 s ++ [48, 48] ++ [Dt.zby q]) (i := 11) rfl (by omega)
  have b12 : bt (Dt.descS Y M D h m s q) 12 = 48 + s / 10 := bt_u (l := Dt.dig4 Y ++ Dt.dig2 M ++ Dt.dig2 D ++ Dt.dig2 h ++ Dt.dig2 m ++ Dt.dig2 s ++ [48, 48] ++ [Dt.zby q]) (i := 12) rfl (by omega)
  have b13 : bt (Dt.descS Y M D h m s q) 13 = 48 + s % 10 := bt_u (l := Dt.dig4 Y ++ Dt.dig2 M ++ Dt.dig2 D ++ Dt.dig2 h ++ Dt.dig2 m ++ Dt.dig2 s ++ [48, 48] ++ [Dt.zby q]) (i := 13) rfl (by omega)
  have b14 : bt (Dt.descS Y M D h m s q) 14 = 48 := bt_u (l := Dt.dig4 Y ++ Dt.dig2 M ++ Dt.dig2 D ++ Dt.dig2 h ++ Dt.dig2 m ++ Dt.dig2 s ++ [48, 48] ++ [Dt.zby q]) (v := 48) (i := 14) rfl (by omega)
  have b15 : bt (Dt.descS Y M D h m s q) 15 = 48 := bt_u (l := Dt.dig4 Y ++ Dt.dig2 M ++ Dt.dig2 D ++ Dt.dig2 h ++ Dt.dig2 m ++ Dt.dig2 s ++ [48, 48] ++ [Dt.zby q]) (v := 48) (i := 15) rfl (by omega)
  have b16 : bt (Dt.descS Y M D h m s q) 16 = q % 256 := bt_u (l := Dt.dig4 Y ++ Dt.dig2 M ++ Dt.dig2 D ++ Dt.dig2 h ++ Dt.dig2 m ++ Dt.dig2 s ++ [48, 48] ++ [Dt.zby q]) (i := 16) rfl (by omega)
  have hu : Dt.descS Y M D h m s q ≠ Dt.unS := by
    intro e
    rw [e] at b0
    have : bt Dt.unS 0 = 48 := by decide
    omega
  have hd : digB (Dt.descS Y M D h m s q) = true := by
    unfold digB
    rw [List.all_eq_true]
    intro k hk
    have hk := List.mem_range.1 hk
    refine decide_eq_true ?_
    rcases (show k = 0 ∨ k = 1 ∨ k = 2 ∨ k = 3 ∨ k = 4 ∨ k = 5 ∨ k = 6 ∨ k = 7 ∨ k = 8 ∨ k = 9 ∨ k = 10 ∨ k = 11 ∨ k = 12 ∨ k = 13 ∨ k = 14 ∨ k = 15 by omega) with rfl | rfl | rfl | rfl | rfl | rfl | rfl | rfl | rfl | rfl | rfl | rfl | rfl | rfl | rfl | rfl <;> omega
  have n0 : Dt.num4 (Dt.descS Y M D h m s q) 0 = Y := by simp only [Dt.num4, Nat.zero_add]; omega
  have n4 : Dt.num2 (Dt.descS Y M D h m s q) 4 = M := by simp only [Dt.num2, Nat.reduceAdd]; omega
  have n6 : Dt.num2 (Dt.descS Y M D h m s q) 6 = D := by simp only [Dt.num2, Nat.reduceAdd]; omega
  have n8 : Dt.num2 (Dt.descS Y M D h m s q) 8 = h := by simp only [Dt.num2, Nat.reduceAdd]; omega
  have n10 : Dt.num2 (Dt.descS Y M D h m s q) 10 = m := by simp only [Dt.num2, Nat.reduceAdd]; omega
  have n12 : Dt.num2 (Dt.descS Y M D h m s q) 12 = s := by simp only [Dt.num2, Nat.reduceAdd]; omega
  have sq : Dt.sg (q % 256) = q := by unfold Dt.sg; split <;> omega
  have qb : Dt.qB q = true := decide_eq_true hq
  unfold rdT
  rw [if_neg (fun h => h rfl), if_neg hu, if_pos hd, n0, n4, n6, n8, n10, n12, b16, sq, qb, ← hz]
  exact ro_yes hv he ht
theorem rrT_rec {t z : Int} (ht : tmB t = true) (hz : zoneB z = true) : rrT (recT2 t z) = (t, z, 0) := by
  obtain ⟨h1, h2⟩ := clk_at ht hz
  have h3 := zone_of hz
  exact rr_at h1 h2 (time_of ht) h3.1 ⟨h3.2.1, h3.2.2.1⟩
theorem rdT_des {t z : Int} (ht : tmB t = true) (hz : zoneB z = true) : rdT (desT2 t z) = (t, z, 0) := by
  obtain ⟨h1, h2⟩ := clk_at ht hz
  have h3 := zone_of hz
  exact rd_at h1 h2 (time_of ht) h3.1 ⟨h3.2.1, h3.2.2.1⟩
end Go.Proofs.YtjbhokmkmapkoaaGreatDoor
