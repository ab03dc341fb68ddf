/- Contracts and plain words for the laws of this chapter, part 19: X42. No condition. -/
import Derived.Test.YtlhakdildbplkaaGreatDoorF18
namespace Go.Proofs.YtlhakdildbplkaaGreatDoor
set_option linter.unusedSimpArgs false
set_option linter.unusedVariables false
open Go.RowKit
theorem store_two {w2 : World} {lo ob gk ck m : Nat} {xk : List Value} {AC : Array Value} {v0 v : Value} {T : TypeId} (hob : ob ≠ gk) (hBo : Blk w2 ob #[v0] T) (hown : w2.ownsRow lo 25 12 (.slice (some ⟨gk, 0, none⟩) (m + 1) ck) (m + 1) (xk ++ zeroN.toList)) (hxk : xk.length = m * 12) (h12 : AC.size = 12) (W : World)
    (hW : W = (w2.setCells gk (m * 12) AC.toList).setCell ⟨ob, 0, none⟩ v ∨ W = (w2.setCell ⟨ob, 0, none⟩ v).setCells gk (m * 12) AC.toList) :
    FrO (fun j => j = ob ∨ j = gk) w2 W ∧ Blk W ob #[v] T ∧ W.ownsRow lo 25 12 (.slice (some ⟨gk, 0, none⟩) (m + 1) ck) (m + 1) (xk ++ AC.toList) := by
  have e := setsL_app AC.toList xk zeroN.toList [] (by show 12 = _; rw [Array.length_toList, h12])
  rw [hxk, List.append_nil, List.append_nil] at e
  have hne : (Value.slice (some ⟨gk, 0, none⟩) (m + 1) ck).ownBlock ≠ some ob := fun h => hob (Option.some.inj h).symm
  rcases hW with rfl | rfl
  · have h1 := own_cells AC.toList (m * 12) _ _ hown
    rw [e] at h1
    have hb1 : Blk (w2.setCells gk (m * 12) AC.toList) ob #[v0] T := (FrO.sets (O := fun j => j = gk) rfl _ _ _).blk hBo hob
    exact ⟨(FrO.sets (O := fun j => j = ob ∨ j = gk) (Or.inr rfl) _ _ _).trans (FrO.set (O := fun j => j = ob ∨ j = gk) (Or.inl rfl)) (fun j h => Or.inl h), hb1.put rfl, own_set h1 hne⟩
  · have h1 := own_cells AC.toList (m * 12) _ _ (own_set (i := 0) (u := v) hown hne)
    rw [e] at h1
    have hb1 : Blk (w2.setCell ⟨ob, 0, none⟩ v) ob #[v] T := hBo.put rfl
    exact ⟨(FrO.set (O := fun j => j = ob ∨ j = gk) (Or.inl rfl)).trans (FrO.sets (O := fun j => j = ob ∨ j = gk) (Or.inr rfl) _ _ _) (fun j h => Or.inl h), (FrO.sets (O := fun j => j = gk) rfl _ _ _).blk hb1 hob, h1⟩
theorem push_end {lo ob m c gk ck : Nat} {A : Option Addr} {xk : List Value} {st : List Tr} {O : Nat → Prop} {w W3 w2 W : World} {AC : Array Value} {hd : Hd} (hbl : ob < lo) (hm : st.length = m)
    (hBb : Blk w ob #[.slice A m c] 22) (hown : w.ownsRow lo 25 12 (.slice A m c) m xk)
    (close : ∀ (wf : World) (A2 : Option Addr) (c2 : Nat) (hd : Hd), FrO (fun j => j = ob ∨ (Value.slice A m c).ownBlock = some j) w wf → StrK w wf → Blk wf ob #[.slice A2 (m + 1) c2] 22 → wf.ownsRow lo 25 12 (.slice A2 (m + 1) c2) (m + 1) (xk ++ (hd.cells (.slice none 0 0) (.slice none 0 0)).toList) →
      (∀ j, (Value.slice A2 (m + 1) c2).ownBlock = some j → (Value.slice A m c).ownBlock = some j ∨ w.heap.size ≤ j) → StkP lo ob (⟨hd, [], .nil⟩ :: st) O w wf)
    (hb3 : Below w.heap.size w W3) (hg2 : W3.grownBy w2 (Value.slice A m c).ownBlock) (hnb2 : (Value.slice (some ⟨gk, 0, none⟩) (m + 1) ck).ownBlock = (Value.slice A m c).ownBlock ∨ (Value.slice (some ⟨gk, 0, none⟩) (m + 1) ck).ownBlock = some W3.heap.size)
    (hown2 : w2.ownsRow lo 25 12 (.slice (some ⟨gk, 0, none⟩) (m + 1) ck) (m + 1) (xk ++ zeroN.toList)) (hAC : AC = hd.cells (.slice none 0 0) (.slice none 0 0))
    (hW : W = (w2.setCells gk (m * 12) AC.toList).setCell ⟨ob, 0, none⟩ (.slice (some ⟨gk, 0, none⟩) (m + 1) ck) ∨ W = (w2.setCell ⟨ob, 0, none⟩ (.slice (some ⟨gk, 0, none⟩) (m + 1) ck)).setCells gk (m * 12) AC.toList) : StkP lo ob (⟨hd, [], .nil⟩ :: st) O w W := by
  have hob : ob ≠ gk := by have := (hown2.lt gk rfl).1; omega
  have hOb : ∀ j, (Value.slice A m c).ownBlock = some j → j ≠ ob := fun j hj => by have := (hown.lt j hj).1; omega
  have hnew : ∀ j, (Value.slice (some ⟨gk, 0, none⟩) (m + 1) ck).ownBlock = some j → (Value.slice A m c).ownBlock = some j ∨ w.heap.size ≤ j := fun j hj => by
    rcases hnb2 with h | h
    · exact Or.inl (h ▸ hj)
    · right
      rw [h] at hj
      have hj2 : W3.heap.size = j := Option.some.inj hj
      have := hb3.size
      omega
  have hf2 : FrO (fun j => (Value.slice A m c).ownBlock = some j) w w2 := (FrO.of (O := fun j => (Value.slice A m c).ownBlock = some j) hb3).trans (FrO.grown (O := fun j => (Value.slice A m c).ownBlock = some j) hg2 (fun j h => h)) (fun j h => Or.inl h)
  have hB2 : Blk w2 ob #[.slice A m c] 22 := hf2.blk hBb (fun e => hOb ob e rfl)
  obtain ⟨h1, h2, h3⟩ := store_two hob hB2 hown2 hown.1 (by rw [hAC]; rfl) W hW
  have hfW : FrO (fun j => j = ob ∨ (Value.slice A m c).ownBlock = some j) w W := (FrO.mono (fun j h => Or.inr h) hf2).trans h1 (fun j hj => by
    rcases hj with h | h
    · exact Or.inl (Or.inl h)
    · exact (hnew j (by rw [h]; rfl)).elim (fun e => Or.inl (Or.inr e)) Or.inr)
  refine close W _ _ hd hfW (StrK.of hfW fun j cs fr hj => ?_) h2 (by rw [← hAC]; exact h3) hnew
  rcases hj with h | h
  · subst h
    exact hBb.notStrS cs fr
  · exact own_notStr hown h cs fr
theorem there_own {w : World} {lo gk ck m : Nat} {xs : List Value} (h : w.ownsRow lo 25 12 (.slice (some ⟨gk, 0, none⟩) (m + 1) ck) (m + 1) xs) : w.there gk (m * 12) 12 := by
  obtain ⟨g, cap, cur, hs, hl, hB, hnc, hcm, hcs, hcx⟩ := own_blk h (by omega)
  injection hs with hs1 hs2 hs3
  injection hs1 with hs1
  injection hs1 with hs1
  subst hs1
  exact fun j hj => ⟨by rw [hB.cells, Array.getElem?_eq_getElem (show m * 12 + j < cur.size by rw [hcs]; have h2 := Nat.mul_le_mul_right 12 hnc; omega)]; rfl, hB.free _⟩
theorem Stk.one {lo b : Nat} {t : Tr} {O : Nat → Prop} {w : World} (h : Stk lo b [t] O w) : ∃ (g cap : Nat) (A : Option Addr) (n c : Nat) (A2 : Option Addr) (n2 c2 : Nat), Blk w b #[.slice (some ⟨g, 0, none⟩) 1 cap] 22 ∧ w.rangeAt g 0 (t.h.cells (.slice A n c) (.slice A2 n2 c2)).toList ∧ OwnT w lo (.agg (t.h.cells (.slice A n c) (.slice A2 n2 c2))) t ∧ g < w.heap.size ∧ lo ≤ g := by
  obtain ⟨sl, hb, ⟨xk, Ok, hown, hrow, hok, hslO⟩, hO⟩ := h
  have eF : Fo.of [t].reverse = .node t.h t.ss t.ks .nil := rfl
  rw [eF] at hown hrow
  obtain ⟨kv, sv, xs', O1, On, e, hs, hk, hn, h3, _⟩ := hrow
  have hk' : KidS w lo kv t.ks O1 := hk
  obtain ⟨A, c, rfl⟩ := hk'.slice
  obtain ⟨A2, c2, rfl⟩ := own_slice hs
  obtain ⟨g, cap, cur, rfl, hlg, hB, hnc, hcm, hcs, hcx⟩ := own_blk hown (by rw [Fo.len_node]; omega)
  refine ⟨g, cap, A, _, c, A2, _, c2, hb, rangeAt_of fun j u hj => ?_, ⟨_, _, O1, rfl, hs, hk', fun j hj => hO j (hok j (h3 j hj).1).1⟩, hB.lt, hlg⟩
  rw [Nat.zero_add]
  refine (hB.cells _).trans (hcx _ _ ?_)
  rw [e, List.getElem?_append_left (List.getElem?_eq_some_iff.1 hj).1]
  exact hj
theorem popS_len (st : List Tr) : (popS st).length = if 2 ≤ st.length then st.length - 1 else st.length := by
  match st with
  | [] => rfl
  | [a] => rfl
  | a :: b :: r => simp [popS]
theorem leave_one : ∀ (n : Nat) (st : List Tr), st ≠ [] → st.length ≤ n → ∃ t, leaveS 1 n st = [t]
  | 0, st, h, hn => absurd (List.eq_nil_of_length_eq_zero (by omega)) h
  | n + 1, st, h, hn => by
    rw [leaveS]
    have h0 : 0 < st.length := List.length_pos_iff.2 h
    split
    · rename_i h1
      have hp := popS_len st
      rw [if_pos (by omega)] at hp
      exact leave_one n (popS st) (fun e => by rw [e] at hp; simp at hp; omega) (by omega)
    · rename_i h1
      have h2 : st.length = 1 := by omega
      match st, h2 with
      | [a], _ => exact ⟨a, rfl⟩
theorem par_ok {s : ByteArray} {w W : World} {b2 : Nat} {AC : Array Value} {t : Tr} (a : Act) (hd : a.defers = []) (h2 : a.tmps.getD 2 undef = .pointer (some ⟨b2, 0, none⟩)) (h3 : a.tmps.getD 3 undef = .int .i64 0) (h4 : a.tmps.getD 4 undef = .int .i64 0) (hz : AC.size = 12) (hB : Blk W b2 AC 25) (hD : parseT s = (t, 0, 0)) (hT : TreeR W W.heap.size (.agg AC) t) (hbel : Below w.heap.size w W) :
    bodyPost Tryz.prog Tryz.f36 (ParP s w) .ret a W :=
  bodyPost_ret (results_cell3 Tryz.results36 a.tmps W b2 25 AC (0, 0) _ h2 hB _ _ h3 h4 Tryz.underlying25 rfl (infN hz)) hd ⟨_, by rw [hD], by rw [hD]; exact hT, hbel⟩
end Go.Proofs.YtlhakdildbplkaaGreatDoor
