/- Contracts and plain words for the laws of this chapter, part 40: Lw2, Pl10, X43. No condition. -/
import Derived.Test.YtlhakdildbplkaaGreatDoorF39
import Derived.Test.YtlhakdildbplkaaGreatDoorF8
import Derived.Test.YtlhakdildbplkaaGreatDoorF5
import Derived.Test.YtlhakdildbplkaaGreatDoorF36
import Derived.Test.YtlhakdildbplkaaGreatDoorF29
import Derived.Test.YtlhakdildbplkaaGreatDoorF38
import Derived.Test.YtlhakdildbplkaaGreatDoorF19
namespace Go.Proofs.YtlhakdildbplkaaGreatDoor
set_option linter.unusedSimpArgs false
set_option linter.unusedVariables false
open Go.RowKit
theorem Nd.stored {W w2 : World} {cells : Array Value} {t : Tr} (h : TreeR w2 w2.heap.size (.agg cells) t) (hz : cells.size = 12) (hb : Below W.heap.size W w2) : Nd (w2.alloc (.cells cells 25)) w2.heap.size cells t ∧ Below W.heap.size W (w2.alloc (.cells cells 25)) :=
  ⟨Nd.new h hz, hb.alloc hb.size _⟩
end Go.Proofs.YtlhakdildbplkaaGreatDoor
namespace Go.Proofs.YtlhakdildbplkaaGreatDoor
set_option linter.unusedSimpArgs false
set_option linter.unusedVariables false
theorem sortL_id {β : Type} (key : β → ByteArray) (l : List β) (h : Srt (fun a b => bltB (key a) (key b)) l) : sortL key l = l := by rw [sortL_srt]; exact srt_id l h
theorem sortL_srtd {β : Type} (key : β → ByteArray) (l : List β) : Srt (fun a b => bltB (key a) (key b)) (sortL key l) := by rw [sortL_srt]; exact srt_sorted (swo_blt key) l
theorem srt_mapT {β γ : Type} (key : β → ByteArray) (k2 : γ → ByteArray) (f : β → γ) (hf : ∀ x, k2 (f x) = key x) {l : List β} (h : Srt (fun a b => bltB (key a) (key b)) l) : Srt (fun a b => bltB (k2 a) (k2 b)) (l.map f) := by
  unfold Srt at *
  rw [List.pairwise_map]
  exact h.imp fun {a b} hab => by
    show bltB (k2 (f b)) (k2 (f a)) = false
    rw [hf, hf]
    exact hab
theorem sortT_twice : ∀ (N : Nat) (t : Tr), t.count ≤ N → sortT (sortT t) = sortT t
  | 0, t, h => by unfold Tr.count at h; omega
  | N + 1, t, h => by
    have e1 := sortT_kids t
    have hk : ∀ x ∈ sortL (·.h.name) t.ks.list, sortT (sortT x) = sortT x := fun x hx => by
      have h1 := list_parts t.ks x ((sortL_mem _ _ x).1 hx)
      exact sortT_twice N x (by unfold Tr.count at h h1; unfold Tr.count; omega)
    rw [e1, sortT_kids]
    simp only [Fo.list_of]
    have e2 : sortL (·.1) (sortL (·.1) t.ss) = sortL (·.1) t.ss := sortL_id _ _ (sortL_srtd _ _)
    have e3 : sortL (·.h.name) ((sortL (·.h.name) t.ks.list).map sortT) = (sortL (·.h.name) t.ks.list).map sortT := sortL_id _ _ (srt_mapT (·.h.name) (·.h.name) sortT (fun _ => rfl) (sortL_srtd (fun x : Tr => x.h.name) t.ks.list))
    rw [e2, e3, List.map_map]
    congr 2
    exact List.map_congr_left fun x hx => hk x hx
theorem strE_srt : ∀ (p : Option ByteArray) (ss : List St), strE p ss = 0 → Srt (fun a b : St => bltB a.1 b.1) ss ∧ ∀ q, p = some q → ∀ s ∈ ss, bltB q s.1 = true
  | p, [], _ => ⟨List.Pairwise.nil, fun q _ s hs => by cases hs⟩
  | p, s :: l, h => by
    rw [strE] at h
    split at h
    · cases h
    · split at h
      · rename_i h1
        exact absurd h h1
      · rename_i h1
        have ho : ordO p s.1 = 0 := Classical.byContradiction h1
        obtain ⟨a1, a2⟩ := strE_srt (some s.1) l h
        have hq : ∀ q, p = some q → bltB q s.1 = true := fun q e => by
          subst e
          have h2 : ordE q s.1 = 0 := ho
          unfold ordE at h2
          split at h2
          · cases h2
          · rename_i hne
            split at h2
            · cases h2
            · rename_i hnb
              cases hb : bltB q s.1 with
              | true => rfl
              | false =>
                have hb2 : bltB s.1 q = false := by
                  cases hc : bltB s.1 q with
                  | false => rfl
                  | true => exact absurd hc hnb
                exact absurd (blt_total hb hb2) hne
        refine ⟨List.pairwise_cons.2 ⟨fun x hx => ?_, a1⟩, fun q e x hx => ?_⟩
        · have h3 := a2 s.1 rfl x hx
          cases h4 : bltB x.1 s.1 with
          | false => exact h4
          | true => have := blt_irrefl s.1; rw [blt_trans h3 h4] at this; cases this
        · rcases List.mem_cons.1 hx with rfl | hx
          · exact hq q e
          · exact blt_trans (hq q e) (a2 s.1 rfl x hx)
theorem kidsE_srt : ∀ f : Fo, kidsE f.names = 0 → Srt (fun a b : Tr => bltB a.h.name b.h.name) f.list
  | .nil, _ => List.Pairwise.nil
  | .node h ss ks .nil, _ => by rw [Fo.list, Fo.list]; exact List.pairwise_singleton ..
  | .node h ss ks (.node h2 ss2 ks2 nx), e => by
    have e' : kidsE (h.name :: h2.name :: nx.names) = 0 := e
    rw [kidsE] at e'
    split at e'
    · rename_i h1
      exact absurd e' h1
    · rename_i h1
      have ho : ordE h.name h2.name = 0 := Classical.byContradiction h1
      have ih := kidsE_srt (.node h2 ss2 ks2 nx) e'
      have hlt : bltB h2.name h.name = false := by
        unfold ordE at ho
        split at ho
        · cases ho
        · split at ho
          · cases ho
          · rename_i hnb
            cases hc : bltB h2.name h.name with
            | false => rfl
            | true => exact absurd hc hnb
      rw [Fo.list]
      refine List.pairwise_cons.2 ⟨fun x hx => ?_, ih⟩
      have ih2 : Srt (fun a b : Tr => bltB a.h.name b.h.name) ((⟨h2, ss2, ks2⟩ : Tr) :: nx.list) := ih
      rcases List.mem_cons.1 (show x ∈ (⟨h2, ss2, ks2⟩ : Tr) :: nx.list from hx) with rfl | hx
      · exact hlt
      · exact (swo_blt (fun a : Tr => a.h.name)).neg x ⟨h2, ss2, ks2⟩ ⟨h, ss, ks⟩ ((List.pairwise_cons.1 ih2).1 x hx) hlt
theorem okF_mem : ∀ {f : Fo} {l : Nat}, okF f l → ∀ x ∈ f.list, oneE x (l + 1) = 0 ∧ okF x.ks (l + 1)
  | .nil, _, _, x, hx => by cases hx
  | .node h ss ks nx, l, ⟨h1, h2, h3⟩, x, hx => by
    rw [Fo.list] at hx
    rcases List.mem_cons.1 hx with rfl | hx
    · exact ⟨h1, h2⟩
    · exact okF_mem h3 x hx
theorem sortT_ok : ∀ (N : Nat) (t : Tr) (l : Nat), t.count ≤ N → oneE t l = 0 → okF t.ks l → sortT t = t
  | 0, t, _, h, _, _ => by unfold Tr.count at h; omega
  | N + 1, t, l, h, h1, h2 => by
    obtain ⟨_, _, _, _, _, _, i7, i8⟩ := oneE_iff.1 h1
    rw [sortT_kids, sortL_id _ _ (strE_srt none t.ss i7).1, sortL_id _ _ (kidsE_srt t.ks i8)]
    have e : t.ks.list.map sortT = t.ks.list := by
      conv => rhs; rw [← List.map_id t.ks.list]
      refine List.map_congr_left fun x hx => ?_
      obtain ⟨k1, k2⟩ := okF_mem h2 x hx
      have h3 := list_parts t.ks x hx
      exact sortT_ok N x (l + 1) (by unfold Tr.count at h h3; unfold Tr.count; omega) k1 k2
    rw [e, Fo.of_list]
theorem sortT_valid {t : Tr} (h : validB t = true) : sortT t = t := by
  obtain ⟨_, h1, h2⟩ := valid_chk h
  exact sortT_ok t.count t 1 (Nat.le_refl _) h1 (okF_of h2)
/-! Sizes. -/
theorem perm_sum {α : Type} (f : α → Nat) {a b : List α} (h : a.Perm b) : (a.map f).sum = (b.map f).sum := by
  induction h with
  | nil => rfl
  | cons x _ ih => rw [List.map_cons, List.map_cons, List.sum_cons, List.sum_cons, ih]
  | swap x y l => simp only [List.map_cons, List.sum_cons]; omega
  | trans _ _ h1 h2 => rw [h1, h2]
theorem sortL_perm {β : Type} (key : β → ByteArray) (l : List β) : (sortL key l).Perm l := by rw [sortL_srt]; exact srt_perm _ l
theorem szS_sum : ∀ ss : List St, szS ss = (ss.map fun s => 20 + s.1.size + s.2.size).sum
  | [] => rfl
  | s :: l => by rw [szS, szS_sum l, List.map_cons, List.sum_cons]
theorem sz_sum : ∀ f : Fo, f.sz = (f.list.map Tr.sz).sum
  | .nil => rfl
  | .node h ss ks nx => by
    rw [Fo.sz_node, Fo.list, List.map_cons, List.sum_cons, ← sz_sum nx]
    show _ = h.sz + szS ss + ks.sz + nx.sz
    rfl
theorem sz_of (l : List Tr) : (Fo.of l).sz = (l.map Tr.sz).sum := by rw [sz_sum, Fo.list_of]
theorem sortT_sz : ∀ (N : Nat) (t : Tr), t.count ≤ N → (sortT t).sz = t.sz
  | 0, t, h => by unfold Tr.count at h; omega
  | N + 1, t, h => by
    rw [sortT_kids]
    show t.h.sz + szS (sortL (·.1) t.ss) + (Fo.of ((sortL (·.h.name) t.ks.list).map sortT)).sz = t.h.sz + szS t.ss + t.ks.sz
    rw [szS_sum, szS_sum t.ss, perm_sum _ (sortL_perm _ t.ss), sz_of, List.map_map, sz_sum t.ks, ← perm_sum Tr.sz (sortL_perm (·.h.name) t.ks.list)]
    congr 2
    refine List.map_congr_left fun x hx => ?_
    have h3 := list_parts t.ks x ((sortL_mem _ _ x).1 hx)
    exact sortT_sz N x (by unfold Tr.count at h h3; unfold Tr.count; omega)
end Go.Proofs.YtlhakdildbplkaaGreatDoor
namespace Go.Proofs.YtlhakdildbplkaaGreatDoor
set_option linter.unusedSimpArgs false
set_option linter.unusedVariables false
open Go.RowKit
def StkT (lo b : Nat) (st : List Tr) (O : Nat → Prop) (w : World) : Prop := match st with
  | [] => Stk lo b [] O w
  | t :: r => t.ks = .nil ∧ ∃ (wp : World) (xk : List Value) (Ok : Nat → Prop) (g cap : Nat) (sv : Value), RowS wp lo (Fo.of r.reverse) xk Ok ∧ Blk w b #[.slice (some ⟨g, 0, none⟩) (r.length + 1) cap] 22 ∧
      w.ownsRow lo 25 12 (.slice (some ⟨g, 0, none⟩) (r.length + 1) cap) (r.length + 1) (xk ++ (t.h.cells (.slice none 0 0) sv).toList) ∧ w.ownsRow wp.heap.size 69 2 sv t.ss.length (stV t.ss) ∧
      (∀ j, Ok j → O j ∧ j ≠ g) ∧ O g ∧ (∀ j, O j → lo ≤ j ∧ j < wp.heap.size) ∧ StrK wp w ∧ (∀ j, j < wp.heap.size → Ok j → w.heap[j]? = wp.heap[j]?) ∧ lo ≤ wp.heap.size ∧ wp.heap.size ≤ w.heap.size
theorem StkT.below {lo b : Nat} {st : List Tr} {O : Nat → Prop} {w w' : World} (h : StkT lo b st O w) (hb : Below w.heap.size w w') : StkT lo b st O w' := by
  cases st with
  | nil => exact Stk.below h hb
  | cons t r =>
    obtain ⟨hks, wp, xk, Ok, g, cap, sv, hrow, hbk, hown, hsv, hok, hg, hO, hSK, hsame, hlo, hz⟩ := h
    refine ⟨hks, wp, xk, Ok, g, cap, sv, hrow, Blk.below hb hbk, below_row' hown hb, below_row' hsv hb, hok, hg, hO, fun j cs fr hj => ?_, fun j hj ho => (hb.block j (by omega)).trans (hsame j hj ho), hlo, Nat.le_trans hz hb.size⟩
    have hlt : j < wp.heap.size := by
      rcases Nat.lt_or_ge j wp.heap.size with h' | h'
      · exact h'
      · rw [Array.getElem?_eq_none h'] at hj; cases hj
    exact (hb.block j (by omega)).trans (hSK j cs fr hj)
theorem StkT.nil {lo b : Nat} {O : Nat → Prop} {w : World} (h : Stk lo b [] O w) : StkT lo b [] O w := h
end Go.Proofs.YtlhakdildbplkaaGreatDoor
