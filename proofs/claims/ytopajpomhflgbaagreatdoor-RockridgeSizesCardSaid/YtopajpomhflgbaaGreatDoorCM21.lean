/- Entries that can be encoded: plain. -/
import Derived.Test.YtopajpomhflgbaaGreatDoorCM17
namespace Go.Proofs.YtopajpomhflgbaaGreatDoor
set_option linter.unusedSimpArgs false
set_option linter.unusedVariables false
open Go.RowKit
open Go.PlainAid (bt get_bt bt_nonneg bt_le)

theorem name_192 {s : ByteArray} (h : nameB s = true) : s.size ≤ 192 := by
  by_cases h1 : s = dot
  · subst h1; decide
  by_cases h2 : s = dots
  · subst h2; decide
  cases h3 : hasC s 47
  case true => rw [name_false (Or.inr (Or.inl h3))] at h; cases h
  cases hc : chars s with
  | none => rw [name_false (Or.inr (Or.inr hc))] at h; cases h
  | some n =>
    rw [name_some h1 h2 h3 hc] at h
    have := of_decide_eq_true h
    have := (chars_le s.size s n (Nat.le_refl _) hc).2
    omega
theorem join_len : ∀ (ps : List (List UInt8)), ps ≠ [] → (Lib.join ps [47]).length + 1 = (ps.map List.length).sum + ps.length
  | [], h => absurd rfl h
  | [x], _ => by rw [Lib.join_one]; simp
  | x :: y :: r, _ => by
    have ih := join_len (y :: r) (by simp)
    rw [join_cons2]
    simp only [List.length_append, List.length_cons, List.map_cons, List.sum_cons] at *
    omega
theorem comps_tot : ∀ (ws : List ByteArray), (ws.flatMap compOf).length ≤ (ws.map ByteArray.size).sum + 2 * ws.length
  | [] => by simp
  | p :: r => by
    have := comps_tot r
    have := compOf_len p
    simp only [List.flatMap_cons, List.length_append, List.map_cons, List.sum_cons, List.length_cons]
    omega
theorem tot_ge : ∀ (ws : List ByteArray), (∀ p ∈ ws, p ≠ ⟨#[]⟩) → ws.length ≤ (ws.map ByteArray.size).sum
  | [], _ => by simp
  | p :: r, h => by
    have := tot_ge r (fun q hq => h q (by simp [hq]))
    have h0 : p.size ≠ 0 := by
      intro e
      apply h p (by simp)
      obtain ⟨⟨l⟩⟩ := p
      have : l.length = 0 := e
      rw [List.length_eq_zero_iff.1 this]
    simp only [List.map_cons, List.sum_cons, List.length_cons]
    omega
theorem words_ne (x : ByteArray) : words x ≠ [] := by
  intro h
  have := words_len x
  rw [h] at this
  simp at this
theorem comps_250 {s : ByteArray} (h : targetB s = true) : (compsB s).size ≤ 200 := by
  by_cases hs : s = slash
  · subst hs
    have : (compsB slash).size = 2 := by decide +kernel
    omega
  have hlen := target_len h
  have hst := strip_size s
  have hok := words_ok h hs
  have hj := join_words (strip s)
  have hl := join_len ((words (strip s)).map (·.data.toList)) (by intro e; exact words_ne _ (by simpa using e))
  rw [hj] at hl
  have e1 : (strip s).data.toList.length = (strip s).size := Array.length_toList
  have e2 : (((words (strip s)).map (·.data.toList)).map List.length) = (words (strip s)).map ByteArray.size := by
    rw [List.map_map]
    apply List.map_congr_left
    intro p _
    exact Array.length_toList
  rw [e1, e2, List.length_map] at hl
  have ht := comps_tot (words (strip s))
  have hg := tot_ge (words (strip s)) (fun p hp => (hok p hp).2)
  show (compsL _ _).toArray.size ≤ _
  rw [List.size_toArray]
  unfold compsL
  rw [List.length_append]
  have h8 : (if absB s = true then comp 8 [] else []).length ≤ 2 := by
    split
    · rw [comp_len]; simp
    · simp
  omega
/-- An entry that can be encoded. -/
structure GoodE (e : En) : Prop where
  sg : ∃ a b : UInt8, e.sig = ⟨#[a, b]⟩ ∧ (65 ≤ (a.toNat : Int) ∧ (a.toNat : Int) ≤ 90) ∧ (65 ≤ (b.toNat : Int) ∧ (b.toNat : Int) ≤ 90) ∧ ¬ (a = 83 ∧ b = 84)
  ver : e.ver = 1
  size : e.data.size ≤ 251
def encE (e : En) : List UInt8 := e.sig.data.toList ++ (UInt8.ofNat (4 + e.data.size) :: 1 :: e.data.data.toList)
def encEs (L : List En) : List UInt8 := L.flatMap encE
theorem ext_sub {X : ByteArray} {i j n : Nat} {l : List UInt8} (h : sub X i n = l) (hj : j = i + n) : X.extract i j = ⟨l.toArray⟩ := by
  subst hj
  unfold sub at h
  apply ByteArray.ext
  apply Array.toList_inj.1
  rw [h]
theorem encE_len {e : En} (h : GoodE e) : (encE e).length = 4 + e.data.size := by
  obtain ⟨⟨a, b, hs, _⟩, _, _⟩ := h
  unfold encE
  rw [hs]
  simp only [List.length_append, List.length_cons, List.length_nil, Array.length_toList]
  show 2 + (e.data.size + 1 + 1) = _
  omega
theorem dec_facts (e : En) (R : List UInt8) (h : GoodE e) (X : ByteArray) (hX : X = ⟨(encE e ++ R).toArray⟩) :
    X.size = 4 + e.data.size + R.length ∧ X.extract 0 2 = e.sig ∧ 65 ≤ bt X 0 ∧ bt X 2 = 4 + e.data.size ∧ bt X 3 = 1 ∧ X.extract 4 (4 + e.data.size) = e.data ∧ X.extract (4 + e.data.size) X.size = ⟨R.toArray⟩ := by
  have hl := encE_len h
  have hsz : X.size = 4 + e.data.size + R.length := by
    rw [hX]; show (encE e ++ R).toArray.size = _
    rw [List.size_toArray, List.length_append, hl]
  obtain ⟨⟨a, b, hs, ha, hb, _⟩, hv, hd⟩ := h
  have hE : encE e ++ R = a :: b :: UInt8.ofNat (4 + e.data.size) :: 1 :: (e.data.data.toList ++ R) := by
    unfold encE; rw [hs]; rfl
  have hdl : e.data.data.toList.length = e.data.size := Array.length_toList
  refine ⟨hsz, ?_, ?_, ?_, ?_, ?_, ?_⟩
  · rw [hs]
    exact ext_sub (n := 2) (by rw [hX, hE]; exact sub_mid [] [a, b] _ 0 2 rfl rfl) rfl
  · rw [hX, hE]
    exact le_of_le_of_eq ha.1 (bt_mid [] (b :: UInt8.ofNat (4 + e.data.size) :: 1 :: (e.data.data.toList ++ R)) a 0 rfl).symm
  · rw [hX, hE]
    refine (bt_mid [a, b] (1 :: (e.data.data.toList ++ R)) (UInt8.ofNat (4 + e.data.size)) 2 rfl).trans ?_
    rw [UInt8.toNat_ofNat']; omega
  · rw [hX, hE]
    exact bt_mid [a, b, UInt8.ofNat (4 + e.data.size)] (e.data.data.toList ++ R) 1 3 rfl
  · have := ext_sub (X := X) (i := 4) (n := e.data.size) (l := e.data.data.toList) (by rw [hX, hE]; exact sub_mid [a, b, UInt8.ofNat (4 + e.data.size), 1] e.data.data.toList R 4 _ rfl hdl.symm) rfl
    rw [this]
  · have := ext_sub (X := X) (i := 4 + e.data.size) (j := X.size) (n := R.length) (l := R) (by
      rw [hX]
      have := sub_mid (encE e) R [] (4 + e.data.size) R.length hl.symm rfl
      rw [List.append_nil] at this
      exact this) hsz
    rw [this]
theorem good_ents (r : RR) (h : chk r = 0) : ∀ e ∈ ents r, GoodE e := by
  obtain ⟨z1, z2, z3, z4, z5, z6, z7, z8, z9⟩ := chk_zero h
  obtain ⟨y1, y2, y3, y4⟩ := chk_more h
  intro e he
  unfold ents at he
  simp only [List.mem_append] at he
  rcases he with (((((he | he) | he) | he) | he) | he) | he
  · unfold en1 at he; split at he
    · simp at he; rw [he]; exact ⟨⟨80, 88, rfl, by decide, by decide, by decide⟩, rfl, by show (pxS r).size ≤ _; rw [pxS_size]; omega⟩
    · simp at he
  · unfold en2 at he; split at he
    · rename_i hn
      simp at he; rw [he]; exact ⟨⟨78, 77, rfl, by decide, by decide, by decide⟩, rfl, by show (cat2 [0] r.name).size ≤ _; rw [cat2_size]; have := name_192 (y4 hn); simp; omega⟩
    · simp at he
  · unfold en3 at he; split at he
    · simp at he
    · rename_i hn
      simp at he; rw [he]; exact ⟨⟨83, 76, rfl, by decide, by decide, by decide⟩, rfl, by show (cat2 [0] (compsB r.target)).size ≤ _; rw [cat2_size]; have := comps_250 (z2 (by simpa using hn)); simp; omega⟩
  · unfold en4 at he; split at he
    · rename_i hn
      simp at he; rw [he]; exact ⟨⟨84, 70, rfl, by decide, by decide, by decide⟩, rfl, by show (cat2 [2] (Dt.recT r.time)).size ≤ _; rw [cat2_size, Dt.recT_size _ (z9 hn)]; simp⟩
    · simp at he
  · unfold en5 at he; split at he
    · simp at he
    · simp at he; rw [he]; exact ⟨⟨67, 76, rfl, by decide, by decide, by decide⟩, rfl, by show 8 ≤ _; omega⟩
  · unfold en6 at he; split at he
    · simp at he
    · simp at he; rw [he]; exact ⟨⟨80, 76, rfl, by decide, by decide, by decide⟩, rfl, by show 8 ≤ _; omega⟩
  · unfold en7 at he; split at he
    · simp at he; rw [he]; exact ⟨⟨82, 69, rfl, by decide, by decide, by decide⟩, rfl, by show 0 ≤ _; omega⟩
    · simp at he
end Go.Proofs.YtopajpomhflgbaaGreatDoor
