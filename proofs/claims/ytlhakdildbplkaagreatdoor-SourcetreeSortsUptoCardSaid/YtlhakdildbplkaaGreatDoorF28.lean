/- Contracts and plain words for the laws of this chapter, part 28: So2. No condition. -/
import Derived.Test.YtlhakdildbplkaaGreatDoorF25
import Derived.Test.YtlhakdildbplkaaGreatDoorF27
namespace Go.Proofs.YtlhakdildbplkaaGreatDoor
set_option linter.unusedSimpArgs false
set_option linter.unusedVariables false
open Go.Shelf Go.RowKit Go.Lib Go.Sort
structure It where
  t : Tr
  kv : Value
  sv : Value
  O : Nat → Prop
instance : Inhabited It := ⟨⟨Tr.zero, .slice none 0 0, .slice none 0 0, fun _ => False⟩⟩
def encI (x : It) : List Value := (x.t.h.cells x.kv x.sv).toList
theorem encI_len (x : It) : (encI x).length = 12 := rfl
theorem encI_one (x : It) (h1 : x.kv.oneCell' = true) (h2 : x.sv.oneCell' = true) : ∀ v ∈ encI x, v.oneCell' = true := by
  intro v hv
  simp only [encI, Hd.cells, List.mem_cons, List.not_mem_nil, or_false] at hv
  rcases hv with rfl | rfl | rfl | rfl | rfl | rfl | rfl | rfl | rfl | rfl | rfl | rfl <;> first | rfl | assumption
def ItS (w : World) (lo : Nat) (x : It) : Prop := w.ownsRow lo 69 2 x.sv x.t.ss.length (stV x.t.ss) ∧ KidS w lo x.kv x.t.ks x.O
def RowL (w : World) (lo : Nat) (l : List It) : Prop := (∀ x ∈ l, ItS w lo x) ∧ l.Pairwise (fun x y => ∀ j, x.O j → ¬ y.O j)
theorem RowS.toL {w : World} {lo : Nat} : ∀ {f : Fo} {xs : List Value} {O : Nat → Prop}, RowS w lo f xs O → ∃ l : List It, l.map (·.t) = f.list ∧ xs = l.flatMap encI ∧ RowL w lo l ∧ ∀ x ∈ l, ∀ j, x.O j → O j
  | .nil, xs, O, h => ⟨[], rfl, h, ⟨fun x hx => (by cases hx), List.Pairwise.nil⟩, fun x hx => by cases hx⟩
  | .node h ss ks nx, xs, O, ⟨kv, sv, xs', O1, On, e, hs, hk, hn, h3, h4⟩ => by
    obtain ⟨l, l1, l2, ⟨l3, l4⟩, l5⟩ := RowS.toL hn
    refine ⟨⟨⟨h, ss, ks⟩, kv, sv, O1⟩ :: l, by rw [List.map_cons, l1]; rfl, by rw [e, l2]; rfl, ⟨fun x hx => ?_, List.pairwise_cons.2 ⟨fun y hy j hj hjy => (h3 j hj).2 (l5 y hy j hjy), l4⟩⟩, fun x hx j hj => ?_⟩
    · rcases List.mem_cons.1 hx with rfl | hx
      · exact ⟨hs, hk⟩
      · exact l3 x hx
    · rcases List.mem_cons.1 hx with rfl | hx
      · exact (h3 j hj).1
      · exact h4 j (l5 x hx j hj)
theorem RowS.ofL {w : World} {lo : Nat} : ∀ {l : List It} {O : Nat → Prop}, RowL w lo l → (∀ x ∈ l, ∀ j, x.O j → O j) → RowS w lo (Fo.of (l.map (·.t))) (l.flatMap encI) O
  | [], O, _, _ => rfl
  | x :: l, O, ⟨h1, h2⟩, hO => by
    have h2' := List.pairwise_cons.1 h2
    obtain ⟨hs, hk⟩ := h1 x (List.mem_cons_self ..)
    exact ⟨x.kv, x.sv, l.flatMap encI, x.O, fun j => ∃ y ∈ l, y.O j, rfl, hs, hk, RowS.ofL ⟨fun y hy => h1 y (List.mem_cons_of_mem _ hy), h2'.2⟩ (fun y hy j hj => ⟨y, hy, hj⟩), fun j hj => ⟨hO x (List.mem_cons_self ..) j hj, fun ⟨y, hy, e⟩ => h2'.1 y hy j hj e⟩, fun j ⟨y, hy, e⟩ => hO y (List.mem_cons_of_mem _ hy) j e⟩
theorem ItS.frame {w w' : World} {lo : Nat} {x : It} (hS : StrK w w') (hO : ∀ j, j < w.heap.size → x.O j → w'.heap[j]? = w.heap[j]?) (h : ItS w lo x) : ItS w' lo x := ⟨own_keep h.1 fun g cs _ hg => hS g cs _ hg, h.2.frame hS hO⟩
theorem ins_perm {α : Type} (lt : α → α → Bool) (x : α) : ∀ l : List α, (ins lt x l).Perm (x :: l)
  | [] => List.Perm.refl _
  | y :: l => by
    rw [ins]
    split
    · exact List.Perm.refl _
    · exact ((ins_perm lt x l).cons y).trans (List.Perm.swap x y l)
theorem srt_perm {α : Type} (lt : α → α → Bool) (l : List α) : (srt lt l).Perm l := by
  have : ∀ (l acc : List α), (l.foldl (fun acc x => ins lt x acc) acc).Perm (acc ++ l) := by
    intro l
    induction l with
    | nil => intro acc; rw [List.append_nil]; exact List.Perm.refl _
    | cons x l ih =>
      intro acc
      rw [List.foldl_cons]
      refine (ih _).trans ?_
      refine ((ins_perm lt x acc).append_right l).trans ?_
      exact List.perm_middle.symm
  exact this l []
theorem ins_map {α β : Type} (f : α → β) (l1 : α → α → Bool) (l2 : β → β → Bool) (h : ∀ x y, l2 (f x) (f y) = l1 x y) (x : α) : ∀ l : List α, ins l2 (f x) (l.map f) = (ins l1 x l).map f
  | [] => rfl
  | y :: l => by
    rw [List.map_cons, ins, ins, h]
    split
    · rfl
    · rw [List.map_cons, ins_map f l1 l2 h x l]
theorem srt_map {α β : Type} (f : α → β) (l1 : α → α → Bool) (l2 : β → β → Bool) (h : ∀ x y, l2 (f x) (f y) = l1 x y) (l : List α) : srt l2 (l.map f) = (srt l1 l).map f := by
  have : ∀ (l acc : List α), (l.map f).foldl (fun acc x => ins l2 x acc) (acc.map f) = (l.foldl (fun acc x => ins l1 x acc) acc).map f := by
    intro l
    induction l with
    | nil => intro acc; rfl
    | cons x l ih => intro acc; rw [List.map_cons, List.foldl_cons, List.foldl_cons, ins_map f l1 l2 h, ih]
  exact this l []
theorem sortL_small {β : Type} (key : β → ByteArray) : ∀ l : List β, l.length ≤ 1 → sortL key l = l
  | [], _ => rfl
  | [_], _ => rfl
  | _ :: _ :: _, h => by simp only [List.length_cons] at h; omega
def cfI (x y : It) : Int := cmpB x.t.h.name y.t.h.name
theorem cfI_lt (x y : It) : ltOf cfI x y = bltB x.t.h.name y.t.h.name := cmpB_lt _ _
theorem cells_enc (x : It) : (encI x).toArray = x.t.h.cells x.kv x.sv := by unfold encI; simp
set_option maxRecDepth 100000 in
set_option maxHeartbeats 2000000 in
theorem sort2_any (h1 h2 : Hd) (kv1 sv1 kv2 sv2 : Value) (w : World) : Calls Tryz.prog 104 #[.agg (h1.cells kv1 sv1), .agg (h2.cells kv2 sv2)] w fun e w' => e = .returned (.int .i64 (cmpB h1.name h2.name)) ∧ ∃ q os', w' = grow (w.drewN q) os' := by
  have SC3 := hide (fun W => scmp_any h1.name h2.name W)
  generalize cmpB h1.name h2.name = c at *
  have HL : Live w [] := trivial
  go_enter Tryz.func104, Tryz.ntmps104
  go_upto_region 1 with fail
  have HB1 := hide (show Blk ((w.alloc (.cells (h1.cells kv1 sv1) 25)).alloc (.cells (h2.cells kv2 sv2) 25)) w.heap.size (h1.cells kv1 sv1) 25 from (Blk.newAt rfl).alloc _)
  have HB2 := hide (show Blk ((w.alloc (.cells (h1.cells kv1 sv1) 25)).alloc (.cells (h2.cells kv2 sv2) 25)) (w.heap.size + 1) (h2.cells kv2 sv2) 25 from Blk.newAt (by rw [World.size_alloc]))
  have HG := hide (show (w.alloc (.cells (h1.cells kv1 sv1) 25)).alloc (.cells (h2.cells kv2 sv2) 25) = grow (w.drewN 0) #[.cells (h1.cells kv1 sv1) 25 (0, 0), .cells (h2.cells kv2 sv2) 25 (0, 0)] by rw [alloc_grow, alloc_grow, grow_grow]; rfl)
  generalize (w.alloc (.cells (h1.cells kv1 sv1) 25)).alloc (.cells (h2.cells kv2 sv2) 25) = W1 at *
  obtain ⟨p, hp⟩ : ∃ p, p = w.heap.size + 1 := ⟨_, rfl⟩
  obtain ⟨q, hq⟩ : ∃ q, q = w.heap.size := ⟨_, rfl⟩
  rw [← hp] at HB2 ⊢
  rw [← hq] at HB1 ⊢
  clear hp hq
  have c1 : W1.cell? ⟨q, 0, none⟩ = some (.string h1.name) := HB1.out.cells 0
  have c2 : W1.cell? ⟨p, 0, none⟩ = some (.string h2.name) := HB2.out.cells 0
  go_wp2_with ((first | (go_at_call 73; (with_reducible refine (SC3.out _).mono ?_); rintro e w' ⟨rfl, rfl⟩)))
  go_ret
  exact ⟨rfl, 0, _, HG.out⟩
theorem own_oneCell {w : World} {lo : Nat} {T : TypeId} {k n : Nat} {v : Value} {xs : List Value} (h : w.ownsRow lo T k v n xs) : v.oneCell' = true := by
  obtain ⟨A, c, rfl⟩ := own_slice h
  rfl
def encJ (x : It) : List Value := encI ⟨x.t, (if x.kv.oneCell' then x.kv else .slice none 0 0), (if x.sv.oneCell' then x.sv else .slice none 0 0), x.O⟩
theorem encJ_one (x : It) : ∀ v ∈ encJ x, v.oneCell' = true := by
  refine encI_one _ ?_ ?_
  · show (if x.kv.oneCell' then x.kv else Value.slice none 0 0).oneCell' = true
    split
    · assumption
    · rfl
  · show (if x.sv.oneCell' then x.sv else Value.slice none 0 0).oneCell' = true
    split
    · assumption
    · rfl
theorem encJ_eq {w : World} {lo : Nat} {x : It} (h : ItS w lo x) : encJ x = encI x := by
  have h1 := own_oneCell h.1
  obtain ⟨xk, Ok, h2, _⟩ := h.2
  have h3 := own_oneCell h2
  unfold encJ
  rw [if_pos h1, if_pos h3]
theorem flat_eq {w : World} {lo : Nat} : ∀ {l : List It}, (∀ x ∈ l, ItS w lo x) → l.flatMap encJ = l.flatMap encI
  | [], _ => rfl
  | x :: l, h => by rw [List.flatMap_cons, List.flatMap_cons, encJ_eq (h x (List.mem_cons_self ..)), flat_eq (fun y hy => h y (List.mem_cons_of_mem _ hy))]
set_option maxRecDepth 100000 in
set_option maxHeartbeats 2000000 in
theorem sortN_any (lo : Nat) (v : Value) (l : List It) (hl : l.length ≤ 2000000000) (w : World) (h : w.ownsRow lo 25 12 v l.length (l.flatMap encI)) (hr : RowL w lo l) (hO : ∀ x ∈ l, ∀ j, x.O j → v.ownBlock ≠ some j) :
    Calls Tryz.prog 103 #[v, .func (.func 104) #[] #[]] w fun e w' => e = .returned (.tuple #[]) ∧
      (∃ l2 : List It, l2.Perm l ∧ l2.map (·.t) = sortL (·.h.name) (l.map (·.t)) ∧ w'.ownsRow lo 25 12 v l.length (l2.flatMap encI) ∧ RowL w' lo l2) ∧ FrO (fun j => v.ownBlock = some j) w w' := by
  by_cases h1 : l.length ≤ 1
  · obtain ⟨A, c, rfl⟩ := own_slice h
    have e : sortL (·.h.name) (l.map (·.t)) = l.map (·.t) := sortL_small _ _ (by rw [List.length_map]; exact h1)
    exact (sortN1 A l.length c h1 _ w).mono fun e' w' ⟨h2, h3⟩ => by subst h3; exact ⟨h2, ⟨l, List.Perm.refl _, e.symm, h, hr⟩, FrO.of (Below.refl _ _)⟩
  · have hfe := flat_eq hr.1
    obtain ⟨g, cap, cur, rfl, hg, hb, hnc, hcm, hcs, hH⟩ := row_holds (enc := encJ) (k := 12) (by decide) (fun x => rfl) (by rw [hfe]; exact h) (by omega)
    have eg := enters_of Tryz.func104 (by kernel_rfl) rfl
    have sw : Swo (ltOf cfI) := swo_key (·.t.h.name) cfI cfI_lt
    have hs0 : l.toArray.size = l.length := by simp
    have ST := hide (stable_n encJ 12 rfl (fun x => rfl) encJ_one cfI sw 104 #[] g 0 cap l.toArray w eg (fun m os dk _ x y => by
      have := sort2_any x.t.h y.t.h (if x.kv.oneCell' then x.kv else .slice none 0 0) (if x.sv.oneCell' then x.sv else .slice none 0 0) (if y.kv.oneCell' then y.kv else .slice none 0 0) (if y.sv.oneCell' then y.sv else .slice none 0 0) (sortWorldK encJ 12 w g 0 m dk os)
      have e1 : (encJ x).toArray = x.t.h.cells (if x.kv.oneCell' then x.kv else .slice none 0 0) (if x.sv.oneCell' then x.sv else .slice none 0 0) := cells_enc _
      have e2 : (encJ y).toArray = y.t.h.cells (if y.kv.oneCell' then y.kv else .slice none 0 0) (if y.sv.oneCell' then y.sv else .slice none 0 0) := cells_enc _
      rw [e1, e2]
      exact this) hH hb.lt (by rw [hs0]; omega) 0 #[] l.toArray rfl)
    have e0 : sortWorldK encJ 12 w g 0 0 l.toArray #[] = w := by
      unfold sortWorldK
      rw [grow_empty]
      exact putRowK_self encJ 12 w g 0 l.toArray hH
    rw [e0, hs0] at ST
    have HB := hide (fun (m : Nat) (d : Array It) (os : Array Obj) (hd : d.size = l.length) => row_back (l := l) (enc := encJ) (m := m) (os := os) (k := 12) (by decide) (fun x => rfl) hg hb hnc hcm hcs hd)
    have HR := hide hr
    have HO := hide hO
    have HBG := hide hb
    clear hH hb eg sw e0 hs0 h hcs hcm hnc hr hO hfe
    have HL : Live w [] := trivial
    go_enter Tryz.func103, Tryz.ntmps103
    go_wp2_with (go_at_call 141; (with_reducible refine ST.out.mono ?_); rintro e w' ⟨rfl, m', d', os', hd', hl', rfl⟩)
    go_end0
    obtain ⟨r1, r2⟩ := HB.out m' d' os' hd'
    have hp : d'.toList.Perm l := by rw [hl']; exact srt_perm _ _
    have hSK := StrK.of r2 (fun j cs fr e => by subst e; exact HBG.out.notStr cs fr)
    have hrl : RowL (sortWorldK encJ 12 w g 0 m' d' os') lo d'.toList := by
      refine ⟨fun x hx => ?_, ?_⟩
      · have hx2 := hp.mem_iff.1 hx
        exact (HR.out.1 x hx2).frame hSK (fun j hj ho => r2.block j hj (fun e => HO.out x hx2 j ho (by rw [e]; rfl)))
      · exact (hp.pairwise_iff (fun {x y} hxy j hy hx => hxy j hx hy)).2 HR.out.2
    refine ⟨rfl, ⟨d'.toList, hp, ?_, ?_, hrl⟩, FrO.mono (fun j hj => by rw [hj]; rfl) r2⟩
    · rw [hl', sortL_srt]
      have e1 : ltOf cfI = fun x y : It => bltB x.t.h.name y.t.h.name := funext fun a => funext fun b => cfI_lt a b
      rw [e1]
      exact (srt_map (fun x : It => x.t) (fun x y : It => bltB x.t.h.name y.t.h.name) (fun a b : Tr => bltB a.h.name b.h.name) (fun _ _ => rfl) l).symm
    · rw [flat_eq hrl.1] at r1
      exact r1
end Go.Proofs.YtlhakdildbplkaaGreatDoor
