/- Contracts and plain words for the laws of this chapter, part 25: So1. No condition. -/
import Derived.Test.YtlhakdildbplkaaGreatDoorF24
import Derived.Test.YtlhakdildbplkaaGreatDoorF16
namespace Go.Proofs.YtlhakdildbplkaaGreatDoor
set_option linter.unusedSimpArgs false
set_option linter.unusedVariables false
open Go.Shelf Go.RowKit Go.Lib Go.Sort
theorem flat_len {α : Type} (enc : α → List Value) (k : Nat) (hk : ∀ x, (enc x).length = k) : ∀ l : List α, (l.flatMap enc).length = l.length * k
  | [] => by rw [List.length_nil, Nat.zero_mul]; rfl
  | a :: l => by rw [List.flatMap_cons, List.length_append, hk, flat_len enc k hk l, List.length_cons, Nat.add_mul, Nat.one_mul, Nat.add_comm]
section
variable {α : Type} [Inhabited α]
theorem flat_at (enc : α → List Value) (k : Nat) (h0 : 0 < k) (hk : ∀ x, (enc x).length = k) : ∀ (l : List α) (t : Nat), t < l.length * k → (l.flatMap enc)[t]? = some ((enc l.toArray[t / k]!)[t % k]!)
  | [], t, h => by rw [List.length_nil, Nat.zero_mul] at h; omega
  | a :: l, t, h => by
    rw [List.flatMap_cons]
    rw [List.length_cons, Nat.add_mul, Nat.one_mul] at h
    have hm := Nat.mod_lt t h0
    by_cases ht : t < k
    · rw [List.getElem?_append_left (by rw [hk]; exact ht), Nat.div_eq_of_lt ht, Nat.mod_eq_of_lt ht]
      have e : (a :: l).toArray[0]! = a := rfl
      rw [e, List.getElem?_eq_getElem (by rw [hk]; exact ht), getElem!_pos (enc a) t (by rw [hk]; exact ht)]
    · rw [List.getElem?_append_right (by rw [hk]; omega), hk, flat_at enc k h0 hk l (t - k) (by omega)]
      have e1 : t / k = (t - k) / k + 1 := by
        conv => lhs; rw [show t = t - k + k by omega, Nat.add_div_right _ h0]
      have e2 : (t - k) % k = t % k := by
        conv => rhs; rw [show t = t - k + k by omega, Nat.add_mod_right]
      have e3 : (a :: l).toArray[(t - k) / k + 1]! = l.toArray[(t - k) / k]! := by
        rw [List.getElem!_toArray, List.getElem!_toArray, List.getElem!_cons_succ]
      rw [e1, e2, e3]
theorem flatK_list (enc : α → List Value) (k : Nat) (h0 : 0 < k) (hk : ∀ x, (enc x).length = k) (d : Array α) : (flatK enc k d).toList = d.toList.flatMap enc := by
  apply List.ext_getElem?
  intro t
  by_cases ht : t < d.size * k
  · have h1 := flat_at enc k h0 hk d.toList t (by rw [Array.length_toList]; exact ht)
    have h2 := get_flatK enc k d t ht
    rw [h1, Array.getElem?_toList, Array.getElem?_eq_getElem (by rw [size_flatK]; exact ht), ← getElem!_pos (flatK enc k d) t (by rw [size_flatK]; exact ht), h2]
  · rw [List.getElem?_eq_none (by rw [Array.length_toList, size_flatK]; omega), List.getElem?_eq_none (by rw [flat_len enc k hk, Array.length_toList]; omega)]
theorem row_holds {enc : α → List Value} {k : Nat} (h0 : 0 < k) (hk : ∀ x, (enc x).length = k) {w : World} {lo : Nat} {T : TypeId} {v : Value} {l : List α} (h : w.ownsRow lo T k v l.length (l.flatMap enc)) (hn : 0 < l.length) :
    ∃ (g cap : Nat) (cur : Array Value), v = .slice (some ⟨g, 0, none⟩) l.length cap ∧ lo ≤ g ∧ Blk w g cur T ∧ l.length ≤ cap ∧ cap ≤ maxLen ∧ cur.size = cap * k ∧ HoldsK enc k w g 0 l.toArray := by
  obtain ⟨g, cap, cur, hv, hg, hb, hnc, hcm, hcs, hx⟩ := own_blk h hn
  refine ⟨g, cap, cur, hv, hg, hb, hnc, hcm, hcs, fun j hj => ⟨?_, hb.free _⟩⟩
  rw [size_flatK] at hj
  rw [Nat.zero_add, hb.cells]
  refine hx j _ ?_
  have h1 := flat_at enc k h0 hk l j hj
  have h2 := get_flatK enc k l.toArray j hj
  rw [h1]
  show some _ = some (flatK enc k l.toArray)[j]!
  rw [h2]
theorem putCells_take {F c : Array Value} (h : F.size ≤ c.size) : (putCells id 0 F c).toList.take F.size = F.toList ∧ (putCells id 0 F c).size = c.size := by
  have hs : (putCells id 0 F c).size = c.size := by unfold putCells; rw [Array.size_mapIdx]
  refine ⟨?_, hs⟩
  apply List.ext_getElem?
  intro t
  rw [List.getElem?_take]
  by_cases ht : t < F.size
  · rw [if_pos ht, Array.getElem?_toList, Array.getElem?_toList]
    unfold putCells
    rw [Array.getElem?_mapIdx, Array.getElem?_eq_getElem (show t < c.size by omega), Option.map_some, if_pos ⟨Nat.zero_le _, by omega⟩, Nat.sub_zero, Array.getElem?_eq_getElem ht, getElem!_pos F t ht]
    rfl
  · rw [if_neg ht, List.getElem?_eq_none (by rw [Array.length_toList]; omega)]
theorem row_back {enc : α → List Value} {k : Nat} (h0 : 0 < k) (hk : ∀ x, (enc x).length = k) {w : World} {lo g cap m : Nat} {T : TypeId} {l : List α} {cur : Array Value} {d : Array α} {os : Array Obj} (hg : lo ≤ g) (hb : Blk w g cur T) (hnc : l.length ≤ cap) (hcm : cap ≤ maxLen) (hcs : cur.size = cap * k) (hd : d.size = l.length) :
    (sortWorldK enc k w g 0 m d os).ownsRow lo T k (.slice (some ⟨g, 0, none⟩) l.length cap) l.length (d.toList.flatMap enc) ∧ FrO (fun j => j = g) w (sortWorldK enc k w g 0 m d os) := by
  have hgl := hb.lt
  have hfs : (flatK enc k d).size ≤ cur.size := by
    rw [size_flatK, hd, hcs]
    exact Nat.mul_le_mul_right k hnc
  have hmod : (putRowK enc k (Sort.ahead w m) g 0 d).heap = w.heap.modify g (onCells (putCells id 0 (flatK enc k d))) := rfl
  have hsz : (putRowK enc k (Sort.ahead w m) g 0 d).heap.size = w.heap.size := by rw [hmod, Array.size_modify]
  have hget : ∀ j, j < w.heap.size → (sortWorldK enc k w g 0 m d os).heap[j]? = (w.heap.modify g (onCells (putCells id 0 (flatK enc k d))))[j]? := fun j hj => by
    show ((putRowK enc k (Sort.ahead w m) g 0 d).heap ++ os)[j]? = _
    rw [Array.getElem?_append_left (by rw [hsz]; exact hj), hmod]
  constructor
  · refine ⟨by rw [flat_len enc k hk, Array.length_toList, hd], Or.inr ⟨g, cap, putCells id 0 (flatK enc k d) cur, rfl, hg, ?_, hnc, hcm, ?_, ?_⟩⟩
    · rw [hget g hgl, Array.getElem?_modify, if_pos rfl]
      have hb' : w.heap[g]? = some (.cells cur T (0, 0)) := hb
      rw [hb']
      rfl
    · rw [(putCells_take hfs).2, hcs]
    · have := (putCells_take hfs).1
      rw [size_flatK, hd] at this
      rw [this, flatK_list enc k h0 hk]
  · refine ⟨rfl, rfl, rfl, ?_, fun j hj hn => ?_⟩
    · show w.heap.size ≤ ((putRowK enc k (Sort.ahead w m) g 0 d).heap ++ os).size
      rw [Array.size_append, hsz]
      omega
    · rw [hget j hj, Array.getElem?_modify, if_neg (fun e => hn e.symm)]
end
/-! The order of names. -/
theorem swo_blt {β : Type} (key : β → ByteArray) : Swo (fun a b => bltB (key a) (key b)) := by
  refine ⟨fun x => blt_irrefl _, fun x y z h1 h2 => blt_trans h1 h2, fun x y z h1 h2 => ?_⟩
  cases h3 : bltB (key x) (key z) with
  | false => rfl
  | true =>
    cases h4 : bltB (key z) (key y) with
    | true => rw [blt_trans h3 h4] at h1; cases h1
    | false =>
      rw [blt_total h2 h4, h3] at h1
      cases h1
theorem swo_key {β : Type} (key : β → ByteArray) (cf : β → β → Int) (h : ∀ x y, ltOf cf x y = bltB (key x) (key y)) : Swo (ltOf cf) := by
  have e : ltOf cf = fun a b => bltB (key a) (key b) := funext fun a => funext fun b => h a b
  rw [e]
  exact swo_blt key
theorem insR_ins {β : Type} (key : β → ByteArray) (x : β) : ∀ (n : Nat) (l : List β), l.length = n → Srt (fun a b => bltB (key a) (key b)) l → (insR key x l.reverse).reverse = ins (fun a b => bltB (key a) (key b)) x l
  | 0, l, hn, _ => by
    have : l = [] := List.eq_nil_of_length_eq_zero hn
    subst this
    rfl
  | n + 1, l, hn, hs => by
    obtain ⟨l', y, rfl⟩ : ∃ l' y, l = l' ++ [y] := by
      have hne : l ≠ [] := fun e0 => by rw [e0] at hn; simp at hn
      exact ⟨l.dropLast, l.getLast hne, (List.dropLast_concat_getLast hne).symm⟩
    rw [List.length_append, List.length_singleton] at hn
    have hs' := List.pairwise_append.1 hs
    rw [List.reverse_append, List.reverse_singleton, List.singleton_append, insR]
    cases hxy : bltB (key x) (key y) with
    | true =>
      rw [if_pos rfl, List.reverse_cons, insR_ins key x n l' (by omega) hs'.1]
      exact (ins_snoc (lt := fun a b => bltB (key a) (key b)) hxy l').symm
    | false =>
      rw [if_neg (by decide), List.reverse_cons, List.reverse_cons, List.reverse_reverse]
      refine (ins_end (lt := fun a b => bltB (key a) (key b)) (l' ++ [y]) (fun z hz => ?_)).symm
      rcases List.mem_append.1 hz with hz | hz
      · exact (swo_blt key).neg x y z hxy (hs'.2.2 z hz y (List.mem_singleton.2 rfl))
      · rw [List.mem_singleton] at hz
        subst hz
        exact hxy
theorem sortL_srt {β : Type} (key : β → ByteArray) (l : List β) : sortL key l = srt (fun a b => bltB (key a) (key b)) l := by
  have : ∀ (l acc : List β), Srt (fun a b => bltB (key a) (key b)) acc → (l.foldl (fun acc x => insR key x acc) acc.reverse).reverse = l.foldl (fun acc x => ins (fun a b => bltB (key a) (key b)) x acc) acc := by
    intro l
    induction l with
    | nil => intro acc _; rw [List.foldl_nil, List.foldl_nil, List.reverse_reverse]
    | cons x l ih =>
      intro acc ha
      rw [List.foldl_cons, List.foldl_cons, ← ih _ (ins_sorted (swo_blt key) x ha), ← insR_ins key x _ acc rfl ha, List.reverse_reverse]
  exact this l [] List.Pairwise.nil
theorem alloc_grow (w : World) (o : Obj) : w.alloc o = grow w #[o] := by
  unfold grow World.alloc
  rw [Array.push_eq_append]
/-! Streams. -/
def encSt (s : St) : List Value := [.string s.1, .string s.2]
theorem encSt_len (s : St) : (encSt s).length = 2 := rfl
theorem encSt_one (s : St) : ∀ v ∈ encSt s, v.oneCell' = true := by
  intro v hv
  simp only [encSt, List.mem_cons, List.not_mem_nil, or_false] at hv
  rcases hv with rfl | rfl <;> rfl
theorem stV_enc (ss : List St) : stV ss = ss.flatMap encSt := rfl
def cfSt (a b : St) : Int := cmpB a.1 b.1
theorem cfSt_lt (a b : St) : ltOf cfSt a b = bltB a.1 b.1 := cmpB_lt a.1 b.1
set_option maxRecDepth 100000 in
set_option maxHeartbeats 1000000 in
theorem sort1_any (a b : St) (w : World) : Calls Tryz.prog 102 #[.agg (encSt a).toArray, .agg (encSt b).toArray] w fun e w' => e = .returned (.int .i64 (cfSt a b)) ∧ ∃ q os', w' = grow (w.drewN q) os' := by
  obtain ⟨an, ad⟩ := a
  obtain ⟨bn, bd⟩ := b
  have SC2 := hide (fun W => scmp_any an bn W)
  have HC := hide (show cfSt (an, ad) (bn, bd) = cmpB an bn from rfl)
  have e0 : (encSt (an, ad)).toArray = #[.string an, .string ad] := rfl
  have e1 : (encSt (bn, bd)).toArray = #[.string bn, .string bd] := rfl
  rw [HC.out, e0, e1]
  clear HC e0 e1
  generalize cmpB an bn = c at *
  have HL : Live w [] := trivial
  go_enter Tryz.func102, Tryz.ntmps102
  go_upto_region 1 with fail
  have HB1 := hide (show Blk ((w.alloc (.cells #[.string an, .string ad] 69)).alloc (.cells #[.string bn, .string bd] 69)) w.heap.size #[.string an, .string ad] 69 from (Blk.newAt rfl).alloc _)
  have HB2 := hide (show Blk ((w.alloc (.cells #[.string an, .string ad] 69)).alloc (.cells #[.string bn, .string bd] 69)) (w.heap.size + 1) #[.string bn, .string bd] 69 from Blk.newAt (by rw [World.size_alloc]))
  have HG := hide (show (w.alloc (.cells #[.string an, .string ad] 69)).alloc (.cells #[.string bn, .string bd] 69) = grow (w.drewN 0) #[.cells #[.string an, .string ad] 69 (0, 0), .cells #[.string bn, .string bd] 69 (0, 0)] by rw [alloc_grow, alloc_grow, grow_grow]; rfl)
  generalize (w.alloc (.cells #[.string an, .string ad] 69)).alloc (.cells #[.string bn, .string bd] 69) = W1 at *
  obtain ⟨p, hp⟩ : ∃ p, p = w.heap.size + 1 := ⟨_, rfl⟩
  obtain ⟨q, hq⟩ : ∃ q, q = w.heap.size := ⟨_, rfl⟩
  rw [← hp] at HB2 ⊢
  rw [← hq] at HB1 ⊢
  clear hp hq
  have c1 : W1.cell? ⟨q, 0, none⟩ = some (.string an) := HB1.out.cells 0
  have c2 : W1.cell? ⟨p, 0, none⟩ = some (.string bn) := HB2.out.cells 0
  go_wp2_with ((first | (go_at_call 73; (with_reducible refine (SC2.out _).mono ?_); rintro e w' ⟨rfl, rfl⟩)))
  go_ret
  exact ⟨rfl, 0, _, HG.out⟩
set_option maxRecDepth 100000 in
set_option maxHeartbeats 1000000 in
theorem sortS_any (lo : Nat) (v : Value) (ss : List St) (hl : ss.length ≤ 2000000000) (w : World) (h : w.ownsRow lo 69 2 v ss.length (stV ss)) :
    Calls Tryz.prog 101 #[v, .func (.func 102) #[] #[]] w fun e w' => e = .returned (.tuple #[]) ∧ w'.ownsRow lo 69 2 v ss.length (stV (sortL (·.1) ss)) ∧ FrO (fun j => v.ownBlock = some j) w w' := by
  by_cases h1 : ss.length ≤ 1
  · obtain ⟨A, c, rfl⟩ := own_slice h
    have e : sortL (·.1) ss = ss := by
      match ss, h1 with
      | [], _ => rfl
      | [_], _ => rfl
    rw [e]
    exact (sortS1 A ss.length c h1 _ w).mono fun e w' ⟨h2, h3⟩ => by subst h3; exact ⟨h2, h, FrO.of (Below.refl _ _)⟩
  · obtain ⟨g, cap, cur, rfl, hg, hb, hnc, hcm, hcs, hH⟩ := row_holds (k := 2) (by decide) encSt_len (by rw [← stV_enc]; exact h) (by omega)
    have eg := enters_of Tryz.func102 (by kernel_rfl) rfl
    have sw : Swo (ltOf cfSt) := swo_key (·.1) cfSt cfSt_lt
    have hs0 : ss.toArray.size = ss.length := by simp
    have ST := hide (stable_s encSt 2 rfl encSt_len encSt_one cfSt sw 102 #[] g 0 cap ss.toArray w eg (fun m os dk _ x y => sort1_any x y _) hH hb.lt (by rw [hs0]; omega) 0 #[] ss.toArray rfl)
    have e0 : sortWorldK encSt 2 w g 0 0 ss.toArray #[] = w := by
      unfold sortWorldK
      rw [grow_empty]
      exact putRowK_self encSt 2 w g 0 ss.toArray hH
    rw [e0, hs0] at ST
    have HB := hide (fun (m : Nat) (d : Array St) (os : Array Obj) (hd : d.size = ss.length) => row_back (l := ss) (m := m) (os := os) (k := 2) (by decide) encSt_len hg hb hnc hcm hcs hd)
    have HSR := hide (show srt (ltOf cfSt) ss = sortL (·.1) ss by
      rw [sortL_srt]
      congr 1
      funext a b
      exact cfSt_lt a b)
    clear hH hb eg sw e0 hs0 h hcs hcm hnc
    have HL : Live w [] := trivial
    go_enter Tryz.func101, Tryz.ntmps101
    go_wp2_with (go_at_call 140; (with_reducible refine ST.out.mono ?_); rintro e w' ⟨rfl, m', d', os', hd', hl', rfl⟩)
    go_end0
    obtain ⟨r1, r2⟩ := HB.out m' d' os' hd'
    refine ⟨rfl, ?_, ?_⟩
    · rw [hl', HSR.out] at r1
      exact r1
    · exact FrO.mono (fun j hj => by rw [hj]; rfl) r2
end Go.Proofs.YtlhakdildbplkaaGreatDoor
