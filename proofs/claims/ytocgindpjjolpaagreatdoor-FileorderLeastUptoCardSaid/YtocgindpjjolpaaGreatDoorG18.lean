/- Contracts and plain words for the laws of this chapter, part 18: Sw4, Mp, Fw4, Fw5. No condition. -/
import Derived.Test.YtocgindpjjolpaaGreatDoorG17
import Derived.Maps.OwnOps
import Derived.Maps.Views
import Derived.Test.YtocgindpjjolpaaGreatDoorG0
import Derived.Test.YtocgindpjjolpaaGreatDoorG16
namespace Go.Proofs.YtocgindpjjolpaaGreatDoor
set_option linter.unusedSimpArgs false
set_option linter.unusedVariables false
open Go.Shelf Go.RowKit Go.Lib Go.Sort
theorem flat_len {α : Type} (enc : α → List Value) (k : Nat) (hk : ∀ x, (enc x).length = k) : ∀ l : List α, (l.flatMap enc).length = l.length * k
  | [] => by rw [List.length_nil, Nat.zero_mul]; rfl
  | a :: l => by rw [List.flatMap_cons, List.length_append, hk, flat_len enc k hk l, List.length_cons, Nat.add_mul, Nat.one_mul, Nat.add_comm]
section
variable {α : Type} [Inhabited α]
theorem flat_at (enc : α → List Value) (k : Nat) (h0 : 0 < k) (hk : ∀ x, (enc x).length = k) : ∀ (l : List α) (t : Nat), t < l.length * k → (l.flatMap enc)[t]? = some ((enc l.toArray[t / k]!)[t % k]!)
  | [], t, h => by rw [List.length_nil, Nat.zero_mul] at h; omega
  | a :: l, t, h => by
    rw [List.flatMap_cons]
    rw [List.length_cons, Nat.add_mul, Nat.one_mul] at h
    have hm := Nat.mod_lt t h0
    by_cases ht : t < k
    · rw [List.getElem?_append_left (by rw [hk]; exact ht), Nat.div_eq_of_lt ht, Nat.mod_eq_of_lt ht]
      have e : (a :: l).toArray[0]! = a := rfl
      rw [e, List.getElem?_eq_getElem (by rw [hk]; exact ht), getElem!_pos (enc a) t (by rw [hk]; exact ht)]
    · rw [List.getElem?_append_right (by rw [hk]; omega), hk, flat_at enc k h0 hk l (t - k) (by omega)]
      have e1 : t / k = (t - k) / k + 1 := by
        conv => lhs; rw [show t = t - k + k by omega, Nat.add_div_right _ h0]
      have e2 : (t - k) % k = t % k := by
        conv => rhs; rw [show t = t - k + k by omega, Nat.add_mod_right]
      have e3 : (a :: l).toArray[(t - k) / k + 1]! = l.toArray[(t - k) / k]! := by
        rw [List.getElem!_toArray, List.getElem!_toArray, List.getElem!_cons_succ]
      rw [e1, e2, e3]
theorem flatK_list (enc : α → List Value) (k : Nat) (h0 : 0 < k) (hk : ∀ x, (enc x).length = k) (d : Array α) : (flatK enc k d).toList = d.toList.flatMap enc := by
  apply List.ext_getElem?
  intro t
  by_cases ht : t < d.size * k
  · have h1 := flat_at enc k h0 hk d.toList t (by rw [Array.length_toList]; exact ht)
    have h2 := get_flatK enc k d t ht
    rw [h1, Array.getElem?_toList, Array.getElem?_eq_getElem (by rw [size_flatK]; exact ht), ← getElem!_pos (flatK enc k d) t (by rw [size_flatK]; exact ht), h2]
  · rw [List.getElem?_eq_none (by rw [Array.length_toList, size_flatK]; omega), List.getElem?_eq_none (by rw [flat_len enc k hk, Array.length_toList]; omega)]
theorem row_holds {enc : α → List Value} {k : Nat} (h0 : 0 < k) (hk : ∀ x, (enc x).length = k) {w : World} {lo : Nat} {T : TypeId} {v : Value} {l : List α} (h : w.ownsRow lo T k v l.length (l.flatMap enc)) (hn : 0 < l.length) :
    ∃ (g cap : Nat) (cur : Array Value), v = .slice (some ⟨g, 0, none⟩) l.length cap ∧ lo ≤ g ∧ Blk w g cur T ∧ l.length ≤ cap ∧ cap ≤ maxLen ∧ cur.size = cap * k ∧ HoldsK enc k w g 0 l.toArray := by
  obtain ⟨g, cap, cur, hv, hg, hb, hnc, hcm, hcs, hx⟩ := own_blk h hn
  refine ⟨g, cap, cur, hv, hg, hb, hnc, hcm, hcs, fun j hj => ⟨?_, hb.free _⟩⟩
  rw [size_flatK] at hj
  rw [Nat.zero_add, hb.cells]
  refine hx j _ ?_
  have h1 := flat_at enc k h0 hk l j hj
  have h2 := get_flatK enc k l.toArray j hj
  rw [h1]
  show some _ = some (flatK enc k l.toArray)[j]!
  rw [h2]
theorem putCells_take {F c : Array Value} (h : F.size ≤ c.size) : (putCells id 0 F c).toList.take F.size = F.toList ∧ (putCells id 0 F c).size = c.size := by
  have hs : (putCells id 0 F c).size = c.size := by unfold putCells; rw [Array.size_mapIdx]
  refine ⟨?_, hs⟩
  apply List.ext_getElem?
  intro t
  rw [List.getElem?_take]
  by_cases ht : t < F.size
  · rw [if_pos ht, Array.getElem?_toList, Array.getElem?_toList]
    unfold putCells
    rw [Array.getElem?_mapIdx, Array.getElem?_eq_getElem (show t < c.size by omega), Option.map_some, if_pos ⟨Nat.zero_le _, by omega⟩, Nat.sub_zero, Array.getElem?_eq_getElem ht, getElem!_pos F t ht]
    rfl
  · rw [if_neg ht, List.getElem?_eq_none (by rw [Array.length_toList]; omega)]
theorem row_back {enc : α → List Value} {k : Nat} (h0 : 0 < k) (hk : ∀ x, (enc x).length = k) {w : World} {lo g cap m : Nat} {T : TypeId} {l : List α} {cur : Array Value} {d : Array α} {os : Array Obj} (hg : lo ≤ g) (hb : Blk w g cur T) (hnc : l.length ≤ cap) (hcm : cap ≤ maxLen) (hcs : cur.size = cap * k) (hd : d.size = l.length) :
    (sortWorldK enc k w g 0 m d os).ownsRow lo T k (.slice (some ⟨g, 0, none⟩) l.length cap) l.length (d.toList.flatMap enc) ∧ FrO (fun j => j = g) w (sortWorldK enc k w g 0 m d os) := by
  have hgl := hb.lt
  have hfs : (flatK enc k d).size ≤ cur.size := by
    rw [size_flatK, hd, hcs]
    exact Nat.mul_le_mul_right k hnc
  have hmod : (putRowK enc k (Sort.ahead w m) g 0 d).heap = w.heap.modify g (onCells (putCells id 0 (flatK enc k d))) := rfl
  have hsz : (putRowK enc k (Sort.ahead w m) g 0 d).heap.size = w.heap.size := by rw [hmod, Array.size_modify]
  have hget : ∀ j, j < w.heap.size → (sortWorldK enc k w g 0 m d os).heap[j]? = (w.heap.modify g (onCells (putCells id 0 (flatK enc k d))))[j]? := fun j hj => by
    show ((putRowK enc k (Sort.ahead w m) g 0 d).heap ++ os)[j]? = _
    rw [Array.getElem?_append_left (by rw [hsz]; exact hj), hmod]
  constructor
  · refine ⟨by rw [flat_len enc k hk, Array.length_toList, hd], Or.inr ⟨g, cap, putCells id 0 (flatK enc k d) cur, rfl, hg, ?_, hnc, hcm, ?_, ?_⟩⟩
    · rw [hget g hgl, Array.getElem?_modify, if_pos rfl]
      have hb' : w.heap[g]? = some (.cells cur T (0, 0)) := hb
      rw [hb']
      rfl
    · rw [(putCells_take hfs).2, hcs]
    · have := (putCells_take hfs).1
      rw [size_flatK, hd] at this
      rw [this, flatK_list enc k h0 hk]
  · refine ⟨rfl, rfl, rfl, ?_, fun j hj hn => ?_⟩
    · show w.heap.size ≤ ((putRowK enc k (Sort.ahead w m) g 0 d).heap ++ os).size
      rw [Array.size_append, hsz]
      omega
    · rw [hget j hj, Array.getElem?_modify, if_neg (fun e => hn e.symm)]
end
set_option maxHeartbeats 2000000 in
theorem insW1 (A : Option Addr) (n c : Nat) (hn : n ≤ 1) (f : Value) (w : World) : Calls Tryz.prog 115 #[.slice A n c, .int .i64 0, .int .i64 (n : Int), f] w fun e w' => e = .returned (.tuple #[]) ∧ w = w' := by
  have HL : Live w [] := trivial
  go_enter Tryz.func115, Tryz.ntmps115
  go_wp2_with fail
  go_loopw [8] (fun i wr => i = .int .i64 1 ∧ w = wr) (fun i _ => 0)
  case atStart => exact ⟨rfl, rfl⟩
  case round =>
    obtain ⟨rfl, rfl⟩ := hrel
    have hlt : ¬ ((1 : Int) < (n : Int)) := by omega
    go_wp2_with fail
    go_end0
    exact ⟨rfl, rfl⟩
set_option maxHeartbeats 2000000 in
theorem stabW1 (A : Option Addr) (n c : Nat) (hn : n ≤ 1) (f : Value) (w : World) : Calls Tryz.prog 82 #[.slice A n c, .int .i64 (n : Int), f] w fun e w' => e = .returned (.tuple #[]) ∧ w = w' := by
  have ISW := hide (fun W => insW1 A n c hn f W)
  have hlt : ¬ ((20 : Int) ≤ (n : Int)) := by omega
  have hlt2 : ¬ ((20 : Int) < (n : Int)) := by omega
  have HL : Live w [] := trivial
  go_enter Tryz.func82, Tryz.ntmps82
  go_wp2_with fail
  go_loopw [7, 8] (fun a i wr => a = .int .i64 0 ∧ i = .int .i64 20 ∧ w = wr) (fun _ _ _ => 0)
  case atStart => exact ⟨rfl, rfl, rfl⟩
  case round =>
    obtain ⟨rfl, rfl, rfl⟩ := hrel
    go_wp2_with ((first | (go_at_call 115; (with_reducible refine (ISW.out _).mono ?_); rintro e w' ⟨rfl, rfl⟩)))
    go_loopw [6] (fun i wr => i = .int .i64 20 ∧ w = wr) (fun i _ => 0)
    case atStart => exact ⟨rfl, rfl⟩
    case round =>
      obtain ⟨rfl, rfl⟩ := hrel
      go_wp2_with fail
      go_end0
      exact ⟨rfl, rfl⟩
set_option maxHeartbeats 2000000 in
theorem sortW1 (A : Option Addr) (n c : Nat) (hn : n ≤ 1) (f : Value) (w : World) : Calls Tryz.prog 52 #[.slice A n c, f] w fun e w' => e = .returned (.tuple #[]) ∧ w = w' := by
  have SSW := hide (fun W => stabW1 A n c hn f W)
  have HL : Live w [] := trivial
  go_enter Tryz.func52, Tryz.ntmps52
  go_wp2_with ((first | (go_at_call 82; (with_reducible refine (SSW.out _).mono ?_); rintro e w' ⟨rfl, rfl⟩)))
  go_end0
  exact ⟨rfl, rfl⟩
def encW (s : BS) : List Value := [.string s.1]
theorem encW_len (s : BS) : (encW s).length = 1 := rfl
theorem encW_one (s : BS) : ∀ v ∈ encW s, v.oneCell' = true := by
  intro v hv
  rw [encW, List.mem_singleton] at hv
  rw [hv]
  rfl
theorem strV_enc (l : List BS) : strV (l.map (·.1)) = l.flatMap encW := by
  induction l with
  | nil => rfl
  | cons s l ih =>
    rw [List.flatMap_cons, ← ih]
    rfl
theorem ins_map (lt : ByteArray → ByteArray → Bool) (x : BS) : ∀ l : List BS, (ins (fun a b : BS => lt a.1 b.1) x l).map (·.1) = ins lt x.1 (l.map (·.1))
  | [] => rfl
  | y :: l => by
    rw [ins, List.map_cons, ins]
    split
    · rfl
    · rw [List.map_cons, ins_map lt x l]
theorem srt_map (lt : ByteArray → ByteArray → Bool) (l : List BS) : (srt (fun a b : BS => lt a.1 b.1) l).map (·.1) = srt lt (l.map (·.1)) := by
  have : ∀ (l acc : List BS), (l.foldl (fun acc x => ins (fun a b : BS => lt a.1 b.1) x acc) acc).map (·.1) = (l.map (·.1)).foldl (fun acc x => ins lt x acc) (acc.map (·.1)) := by
    intro l
    induction l with
    | nil => intro acc; rfl
    | cons x l ih => intro acc; rw [List.foldl_cons, List.map_cons, List.foldl_cons, ih, ins_map]
  exact this l []
theorem bs_of : ∀ l : List ByteArray, (∀ s ∈ l, s.size ≤ maxLen) → ∃ m : List BS, l = m.map (·.1)
  | [], _ => ⟨[], rfl⟩
  | s :: l, h => by
    obtain ⟨m, e⟩ := bs_of l (fun x hx => h x (List.mem_cons_of_mem _ hx))
    exact ⟨⟨s, h s (List.mem_cons_self)⟩ :: m, by rw [List.map_cons, ← e]⟩
def CmpW (g : FuncId) (cb : Array Value) (cf : ByteArray → ByteArray → Int) (b : Nat) (w : World) : Prop :=
  ∀ (W : World) (x y : ByteArray), x.size ≤ maxLen → y.size ≤ maxLen → (∀ j, j < w.heap.size → j ≠ b → W.heap[j]? = w.heap[j]?) → Calls Tryz.prog g (#[.string x, .string y] ++ cb) W fun e w' => e = .returned (.int .i64 (cf x y)) ∧ ∃ q, w' = W.drewN q
set_option maxRecDepth 100000 in
set_option maxHeartbeats 1000000 in
theorem sortB_any (lo : Nat) (v : Value) (l : List BS) (cf : ByteArray → ByteArray → Int) (sw : Swo (ltOf fun a b : BS => cf a.1 b.1)) (g0 : FuncId) (cb : Array Value) (hl : l.length ≤ 2000000000) (w : World) (eg : ∀ args w, (callFunc g0 args).run Tryz.prog w = .ok (.enter g0 args) w)
    (h : w.ownsRow lo 9 1 v l.length (strV (l.map (·.1)))) (hC : ∀ b, v.ownBlock = some b → CmpW g0 cb cf b w) :
    Calls Tryz.prog 52 #[v, .func (.func g0) #[] cb] w fun e w' => e = .returned (.tuple #[]) ∧ w'.ownsRow lo 9 1 v l.length (strV ((srt (ltOf fun a b : BS => cf a.1 b.1) l).map (·.1))) ∧ FrO (fun j => v.ownBlock = some j) w w' := by
  by_cases h1 : l.length ≤ 1
  · obtain ⟨A, c, rfl⟩ := own_slice h
    have e : srt (ltOf fun a b : BS => cf a.1 b.1) l = l := by
      match l, h1 with
      | [], _ => rfl
      | [_], _ => rfl
    rw [e]
    exact (sortW1 A l.length c h1 _ w).mono fun e w' ⟨h2, h3⟩ => by subst h3; exact ⟨h2, h, FrO.of (Below.refl _ _)⟩
  · obtain ⟨g, cap, cur, rfl, hg, hb, hnc, hcm, hcs, hH⟩ := row_holds (k := 1) (by decide) encW_len (by rw [← strV_enc]; exact h) (by omega)
    have hC1 := hC g rfl
    have hs0 : l.toArray.size = l.length := by simp
    have ST := hide (stable_w encW (fun _ => rfl) encW_len encW_one (fun a b : BS => cf a.1 b.1) sw g0 cb g 0 cap l.toArray w eg (fun m os dk hdk x y => by
      refine hC1 _ x.1 y.1 x.2 y.2 fun j hj hne => ?_
      have hcap : dk.size ≤ cap := by rw [hdk, hs0]; exact hnc
      exact (row_back (l := l) (m := m) (os := os) (k := 1) (by decide) encW_len hg hb hnc hcm hcs (by rw [hdk, hs0])).2.block j hj hne) hH hb.lt (by rw [hs0]; omega) 0 #[] l.toArray rfl)
    have e0 : sortWorldK encW 1 w g 0 0 l.toArray #[] = w := by
      unfold sortWorldK
      rw [grow_empty]
      exact putRowK_self encW 1 w g 0 l.toArray hH
    rw [e0, hs0] at ST
    have HB := hide (fun (m : Nat) (d : Array BS) (os : Array Obj) (hd : d.size = l.length) => row_back (l := l) (m := m) (os := os) (k := 1) (by decide) encW_len hg hb hnc hcm hcs hd)
    clear hH hb eg sw e0 hs0 h hcs hcm hnc hC hC1
    have HL : Live w [] := trivial
    go_enter Tryz.func52, Tryz.ntmps52
    go_wp2_with (go_at_call 82; (with_reducible refine ST.out.mono ?_); rintro e w' ⟨rfl, m', d', os', hd', hl', rfl⟩)
    go_end0
    obtain ⟨r1, r2⟩ := HB.out m' d' os' hd'
    refine ⟨rfl, ?_, ?_⟩
    · rw [hl', ← strV_enc] at r1
      exact r1
    · exact FrO.mono (fun j hj => by rw [hj]; rfl) r2
theorem sortW_any (lo : Nat) (v : Value) (l : List ByteArray) (cf : ByteArray → ByteArray → Int) (sw : Swo (ltOf cf)) (g0 : FuncId) (cb : Array Value) (hl : l.length ≤ 2000000000) (hk : ∀ s ∈ l, s.size ≤ maxLen) (w : World) (eg : ∀ args w, (callFunc g0 args).run Tryz.prog w = .ok (.enter g0 args) w)
    (h : w.ownsRow lo 9 1 v l.length (strV l)) (hC : ∀ b, v.ownBlock = some b → CmpW g0 cb cf b w) :
    Calls Tryz.prog 52 #[v, .func (.func g0) #[] cb] w fun e w' => e = .returned (.tuple #[]) ∧ w'.ownsRow lo 9 1 v l.length (strV (srt (ltOf cf) l)) ∧ FrO (fun j => v.ownBlock = some j) w w' := by
  obtain ⟨m, rfl⟩ := bs_of l hk
  rw [List.length_map] at h hl ⊢
  have e : (srt (ltOf fun a b : BS => cf a.1 b.1) m).map (·.1) = srt (ltOf cf) (m.map (·.1)) := srt_map (ltOf cf) m
  rw [← e]
  exact sortB_any lo v m cf ⟨fun x => sw.irr _, fun x y z => sw.tr _ _ _, fun x y z => sw.neg _ _ _⟩ g0 cb hl w eg h hC
end Go.Proofs.YtocgindpjjolpaaGreatDoor
namespace Go.Proofs.YtocgindpjjolpaaGreatDoor
set_option linter.unusedSimpArgs false
set_option linter.unusedVariables false
open Go.RowKit Go.Maps Go.WideMaps
def rv (v : Value) : Option (DataW Value × List MemPlace) := some (.held v, [])
abbrev keyL (s : ByteArray) : Lit := .string s.data.toList
def MapV (P : Program) (k : TypeId) (z : Value) (b n : Nat) (M : ByteArray → Value) (w : World) : Prop := ∃ D : DataW Value, w.ownsMap P k rv b n D ∧ ∀ s : ByteArray, s.size ≤ maxLen → D.atKey (keyL s) (.held z) = .held (M s)
theorem MapV.made (P : Program) (k : TypeId) (z : Value) (w : World) : MapV P k z w.heap.size 0 (fun _ => z) (w.alloc (.map #[] 0)) := ⟨_, World.ownsMap_made w P k rv, fun _ _ => rfl⟩
theorem MapV.lt {P : Program} {k : TypeId} {z : Value} {b n : Nat} {M : ByteArray → Value} {w : World} (h : MapV P k z b n M w) : b < w.heap.size := by obtain ⟨D, h, _⟩ := h; exact h.lt
theorem MapV.block {P : Program} {k : TypeId} {z : Value} {b n : Nat} {M : ByteArray → Value} {w w' : World} (h : MapV P k z b n M w) (e : w'.heap[b]? = w.heap[b]?) : MapV P k z b n M w' := by
  obtain ⟨D, ⟨es, clock, hb, F, hs, hD⟩, h2⟩ := h
  exact ⟨D, ⟨es, clock, e.trans hb, F, hs, hD⟩, h2⟩
theorem MapV.below {P : Program} {k : TypeId} {z : Value} {b n : Nat} {M : ByteArray → Value} {w w' : World} (h : MapV P k z b n M w) (hb : Below w.heap.size w w') : MapV P k z b n M w' := h.block (hb.block b h.lt)
theorem MapV.grown {P : Program} {k : TypeId} {z : Value} {b n : Nat} {M : ByteArray → Value} {w w' : World} {row : Option Nat} (h : MapV P k z b n M w) (hg : w.grownBy w' row) (hne : row ≠ some b) : MapV P k z b n M w' := h.block (hg.block b h.lt (fun e => hne e.symm))
theorem MapV.alloc {P : Program} {k : TypeId} {z : Value} {b n : Nat} {M : ByteArray → Value} {w : World} (h : MapV P k z b n M w) (o : Obj) : MapV P k z b n M (w.alloc o) := h.grown (World.grownBy_alloc w o none) (by simp)
theorem MapV.other {P : Program} {k : TypeId} {z : Value} {b n g j : Nat} {v : Value} {M : ByteArray → Value} {w : World} (h : MapV P k z b n M w) (hne : b ≠ g) : MapV P k z b n M (w.setCell ⟨g, j, none⟩ v) := h.block (Below.heap_setCell _ _ _ _ hne)
theorem MapV.mono {P : Program} {k : TypeId} {z : Value} {b n n' : Nat} {M : ByteArray → Value} {w : World} (h : MapV P k z b n M w) (hn : n ≤ n') : MapV P k z b n' M w := by
  obtain ⟨D, h1, h2⟩ := h
  exact ⟨D, h1.mono hn, h2⟩
theorem MapV.look {P : Program} {k e t : TypeId} {z : Value} {b n : Nat} {M : ByteArray → Value} {w : World} (h : MapV P k z b n M w) (hk : P.underlying k = some .string) (ht : P.underlying t = some (.map k e)) (hz : (zeroValue e).run P w = .ok z w) (s : ByteArray) (hs : s.size ≤ maxLen) :
    (Instr.lookup t (.map (some b)) (.string s) false).run P w = .ok (M s) w := by
  obtain ⟨D, h1, h2⟩ := h
  obtain ⟨v, ps, hrun, hv⟩ := h1.lookup (string_keyed hk) ht hz (zd := .held z) (zp := []) rfl (keyOf_string_mk hk hs)
  rw [h2 s hs] at hv
  unfold rv at hv
  injection hv with hv
  injection hv with hv
  injection hv with hv
  rw [hrun, hv]
theorem isMap_own {P : Program} {k : TypeId} {R : Value → Option (DataW Value × List MemPlace)} {w : World} {b n : Nat} {D : DataW Value} (h : w.ownsMap P k R b n D) : IsMap D := by
  obtain ⟨es, clock, _, _, _, rfl⟩ := h
  exact ⟨_, rfl⟩
theorem MapV.store {P : Program} {k e t : TypeId} {z : Value} {b n : Nat} {M : ByteArray → Value} {w : World} (h : MapV P k z b n M w) (hk : P.underlying k = some .string) (ht : P.underlying t = some (.map k e)) (hn : n < maxLen) (s : ByteArray) (hs : s.size ≤ maxLen) (v : Value) :
    ∃ w', (Instr.mapUpdate t (.map (some b)) (.string s) v).run P w = .ok () w' ∧ MapV P k z b (n + 1) (fun r => if r = s then v else M r) w' ∧ w.grownBy w' (some b) := by
  obtain ⟨D, h1, h2⟩ := h
  obtain ⟨w', hrun, ho, hg⟩ := h1.update (string_keyed hk) ht hn (d := .held v) (ps := []) (keyOf_string_mk hk hs) rfl
  refine ⟨w', hrun, ⟨_, ho, fun r hr => ?_⟩, hg⟩
  show _ = DataW.held (if r = s then v else M r)
  by_cases e : r = s
  · subst e
    rw [if_pos rfl]
    exact atKey_put_same (isMap_own h1) (show WideAt.IsKeyLit (keyL r) from trivial) _ _
  · rw [if_neg e, atKey_put_other (k' := keyL r) (k := keyL s) ?_, h2 r hr]
    intro h3
    apply e
    injection h3 with h3
    have h4 := Array.toList_inj.1 h3
    cases r; cases s
    exact congrArg ByteArray.mk h4
theorem wpList_look {P : Program} (w : World) {ops : Array Oper} {rest : List Oper} {o : Oper} {a : Act} {Q : Exit → Act → World → Prop}
    (hg : o.guard = none) (m x : Operand) (t k e : TypeId) (hop : o.op = Op.lookup t m x false) (hk : P.underlying k = some .string) (ht : P.underlying t = some (.map k e)) (z : Value) (hz : (zeroValue e).run P w = .ok z w) (b n : Nat) (M : ByteArray → Value)
    (hm : a.eval m = .map (some b)) (h : MapV P k z b n M w) (s : ByteArray) (hx : a.eval x = .string s) (hs : s.size ≤ maxLen) (hK : wpList P ops Q rest (a.put o.dst (M s)) w) : wpList P ops Q (o :: rest) a w := by
  refine wpList_plain hg fun K' hK' => ?_
  have hrun := h.look hk ht hz s hs
  unfold Oper.wp
  simp [execOp, hop, hm, hx, hrun, Result.andThen]
  exact hK' _ _ hK
theorem wpList_lookU {P : Program} (w : World) {ops : Array Oper} {rest : List Oper} {o : Oper} {a : Act} {Q : Exit → Act → World → Prop}
    (hg : o.guard = none) (m x : Operand) (t k e : TypeId) (hop : o.op = Op.lookup t m x false) (hk : P.underlying k = some .string) (ht : P.underlying t = some (.map k e)) (z : Value) (hz : (zeroValue e).run P w = .ok z w) (b n : Nat) (M : ByteArray → Value)
    (hm : a.eval m = .map (some b)) (h : MapV P k z b n M w) (s : ByteArray) (u : Value) (hu : M s = u) (hx : a.eval x = .string s) (hs : s.size ≤ maxLen) (hK : wpList P ops Q rest (a.put o.dst u) w) : wpList P ops Q (o :: rest) a w := by
  subst hu
  exact wpList_look w hg m x t k e hop hk ht z hz b n M hm h s hx hs hK
theorem step_lookU {P : Program} {w : World} {ops : Array Oper} {o : Oper} {a : Act} {K : Act → World → Prop} {Q : Exit → Act → World → Prop} {E : Prop} (hgd : o.guard = none) (m x : Operand) (t k e : TypeId) (hop : o.op = Op.lookup t m x false) (hk : P.underlying k = some .string) (ht : P.underlying t = some (.map k e)) (z : Value) (hz : (zeroValue e).run P w = .ok z w) (b n : Nat) (M : ByteArray → Value)
    (hm : a.eval m = .map (some b)) (h : MapV P k z b n M w) (s : ByteArray) (u : Value) (hu : M s = u) (hx : a.eval x = .string s) (hs : s.size ≤ maxLen)
    (hK : K (a.put o.dst u) w) : if Region.wanted o (yielded ops a.tmps) = true then Oper.wp P o a w K Q else E := by
  have hw : Region.wanted o (yielded ops a.tmps) = true := by simp [Region.wanted, hgd]
  rw [if_pos hw]
  subst hu
  have hrun := h.look hk ht hz s hs
  unfold Oper.wp
  simp [execOp, hop, hm, hx, hrun, Result.andThen]
  exact hK
theorem step_map {P : Program} {w : World} {ops : Array Oper} {o : Oper} {a : Act} {K : Act → World → Prop} {Q : Exit → Act → World → Prop} {E : Prop} (hgd : o.guard = none) (m x v : Operand) (t k e : TypeId) (hop : o.op = Op.mapUpdate t m x v) (hk : P.underlying k = some .string) (ht : P.underlying t = some (.map k e)) (z : Value) (b n : Nat) (M : ByteArray → Value)
    (hm : a.eval m = .map (some b)) (h : MapV P k z b n M w) (hn : n < maxLen) (s : ByteArray) (hx : a.eval x = .string s) (hs : s.size ≤ maxLen) (u : Value) (hv : a.eval v = u)
    (hK : ∀ w', MapV P k z b (n + 1) (fun r => if r = s then u else M r) w' → w.grownBy w' (some b) → K (a.put o.dst undef) w') : if Region.wanted o (yielded ops a.tmps) = true then Oper.wp P o a w K Q else E := by
  have hw : Region.wanted o (yielded ops a.tmps) = true := by simp [Region.wanted, hgd]
  rw [if_pos hw]
  obtain ⟨w', hrun, h1, h2⟩ := h.store hk ht hn s hs u
  unfold Oper.wp
  simp [execOp, hop, hm, hx, hv, hrun, Result.andThen]
  exact hK w' h1 h2
end Go.Proofs.YtocgindpjjolpaaGreatDoor
namespace Go.Proofs.YtocgindpjjolpaaGreatDoor
set_option linter.unusedSimpArgs false
set_option linter.unusedVariables false
open Go.RowKit Go.Sort
abbrev WMap (mb n : Nat) (M : ByteArray → Int) (w : World) : Prop := MapV Tryz.prog 9 (.int .i64 0) mb n (fun s => .int .i64 (M s)) w
def cfW (M : ByteArray → Int) (a b : ByteArray) : Int := Lib.compareInt (M b) (M a)
theorem cfW_lt (M : ByteArray → Int) (a b : ByteArray) : ltOf (cfW M) a b = decide (M b < M a) := by
  unfold ltOf cfW Lib.compareInt
  rcases Int.lt_trichotomy (M b) (M a) with h | h | h
  · simp [h]
  · simp [h]
  · have h1 : ¬ M b < M a := by omega
    simp [h1, h]
theorem ccmp (x y : Int) (w : World) : Calls Tryz.prog 54 #[.int .i64 x, .int .i64 y] w fun e w' => e = .returned (.int .i64 (Lib.compareInt x y)) ∧ w = w' :=
  (Any.cmp_Compare_int Tryz.lays122 x y w).mono fun e w' ⟨he, hw⟩ => ⟨he, hw.symm⟩
set_option maxHeartbeats 2000000 in
theorem byw1_any (c mb n : Nat) (M : ByteArray → Int) (x y : ByteArray) (hx : x.size ≤ maxLen) (hy : y.size ≤ maxLen) (w : World) (hc : Blk w c #[.map (some mb)] 76) (hm : WMap mb n M w) :
    Calls Tryz.prog 53 #[.string x, .string y, .pointer (some ⟨c, 0, none⟩)] w fun e w' => e = .returned (.int .i64 (cfW M x y)) ∧ ∃ q, w' = w.drewN q := by
  have CI := hide (fun W => ccmp (M y) (M x) W)
  have c0 := hc.cells 0
  have HM := hide hm
  have HR := hide (show cfW M x y = Lib.compareInt (M y) (M x) from rfl)
  clear hc hm
  have HL : Live w [] := trivial
  go_enter Tryz.func53, Tryz.ntmps53
  go_wp2_with (first | (at_lookup; refine wpList_look _ rfl _ _ 76 9 3 rfl Tryz.underlying9 Tryz.underlying76 (.int .i64 0) (by kernel_rfl) mb n _ rfl HM.out _ rfl (by assumption) ?_) | (go_at_call 54; (with_reducible refine (CI.out _).mono ?_); rintro e w' ⟨rfl, rfl⟩))
  go_ret
  exact ⟨ret_i HR.out.symm, 0, rfl⟩
theorem ins_congr {α : Type} {lt lt' : α → α → Bool} (x : α) : ∀ l : List α, (∀ y ∈ l, lt x y = lt' x y) → ins lt x l = ins lt' x l
  | [], _ => rfl
  | y :: l, h => by
    rw [ins, ins, h y List.mem_cons_self, ins_congr x l fun z hz => h z (List.mem_cons_of_mem _ hz)]
theorem srt_congr {α : Type} {lt lt' : α → α → Bool} (l : List α) (h : ∀ x ∈ l, ∀ y ∈ l, lt x y = lt' x y) : srt lt l = srt lt' l := by
  have : ∀ (m acc : List α), (∀ x ∈ m, x ∈ l) → (∀ x ∈ acc, x ∈ l) → m.foldl (fun acc x => ins lt x acc) acc = m.foldl (fun acc x => ins lt' x acc) acc := by
    intro m
    induction m with
    | nil => intro acc _ _; rfl
    | cons x m ih =>
      intro acc hm ha
      rw [List.foldl_cons, List.foldl_cons, ins_congr x acc fun y hy => h x (hm x List.mem_cons_self) y (ha y hy)]
      exact ih _ (fun z hz => hm z (List.mem_cons_of_mem _ hz)) fun z hz => by
        rcases ins_mem.1 hz with rfl | h2
        · exact hm z List.mem_cons_self
        · exact ha z h2
  exact this l [] (fun _ h => h) (fun _ h => by cases h)
theorem swo_dec {α : Type} (f : α → Int) : Swo (fun a b : α => decide (f b < f a)) := by
  refine ⟨fun x => decide_eq_false (by omega), fun x y z h1 h2 => ?_, fun x y z h1 h2 => ?_⟩
  · have := of_decide_eq_true h1
    have := of_decide_eq_true h2
    exact decide_eq_true (by omega)
  · have := of_decide_eq_false h1
    have := of_decide_eq_false h2
    exact decide_eq_false (by omega)
theorem cfW_swo (M : ByteArray → Int) : Swo (ltOf (cfW M)) := by
  have e : ltOf (cfW M) = fun a b => decide (M b < M a) := funext fun a => funext fun b => cfW_lt M a b
  rw [e]
  exact swo_dec M
theorem files_mem {t : Tr} {p : ByteArray} (h : p ∈ filesT t) : validB t = true ∧ p.size ≤ t.sz ∧ weightT t p = (weightP t p, 0) ∧ ∃ x, findT t (partsP p) = some x ∧ fileB x = true := by
  have h1 := List.mem_filter.1 h
  have hv := mem_valid h1.1
  have h2 := h1.2
  unfold isF at h2
  cases hx : findT t (partsP p) with
  | none => rw [hx] at h2; cases h2
  | some x =>
    rw [hx] at h2
    exact ⟨hv, pathsT_size h1.1, weightT_some hv hx, x, rfl, h2⟩
theorem byW_is {t : Tr} {M : ByteArray → Int} (h : ∀ s ∈ filesT t, M s = (weightT t s).1) : srt (ltOf (cfW M)) (filesT t) = byW t := by
  refine srt_congr _ fun x hx y hy => ?_
  rw [cfW_lt, h x hx, h y hy, (files_mem hx).2.2.1, (files_mem hy).2.2.1]
  rfl
set_option maxRecDepth 100000 in
set_option maxHeartbeats 4000000 in
theorem byWeight_any (t : Tr) (hsz : t.sz ≤ 120000) (v : Value) (w : World) (hT : TabV w) (hv : TreeR w w.heap.size v t) : Calls Tryz.prog 18 #[v] w fun e w' => ∃ r, e = .returned r ∧ StrsR w' w.heap.size r (byW t) ∧ Below w.heap.size w w' := by
  have FN := hide (fun W hTW hW => files_any t hsz v W hTW hW)
  have WN0 := hide (fun p hp W hTW hW => weight_any t p hsz hp v W hTW hW)
  have hfl : (filesT t).length ≤ 6000 := by have h1 := paths_count t; have h2 := t.count_sz; have h3 : (filesT t).length ≤ (pathsT t).length := List.length_filter_le _ _; omega
  have HFM := hide (fun p (hp : p ∈ filesT t) => Nat.le_trans (files_mem hp).2.1 hsz)
  have HBW := hide (fun (M : ByteArray → Int) h => byW_is (t := t) (M := M) h)
  obtain ⟨cn, rfl, hzc⟩ := Nd.cells hv
  have HV := hide hv
  clear hv
  have hmm := @run_makeMap Tryz.prog
  have HL : Live w [] := trivial
  go_enter Tryz.func18, Tryz.ntmps18
  go_upto_region 1 with fail
  have HN1 := hide (Nd.new HV.out hzc)
  have hbel1 : Below w.heap.size w (w.alloc (.cells cn 25)) := (Below.refl _ _).alloc (Nat.le_refl _) _
  have HT1 := hide (hT.below hbel1)
  generalize w.alloc (.cells cn 25) = W1 at *
  obtain ⟨b, hb⟩ : ∃ b, b = w.heap.size := ⟨_, rfl⟩
  rw [← hb] at HN1 ⊢
  clear hb HV hzc hT
  have FA := hide (FN.out W1 HT1.out HN1.out.2.1)
  clear FN
  generalize filesT t = fs at *
  go_upto_region 2 with (first | ((with_reducible show wpList _ _ _ (Oper.mk (some 7) _ _ _ _ _ :: _) _ _); refine wpList_load_row rfl 25 (.tmp 1) rfl b rfl 25 cn (0, 0) _ HN1.out.1 Tryz.underlying25 rfl (infN HN1.out.2.2) ?_) | (go_at_call 16; refine (FA.out).mono ?_; rintro e w3 ⟨r3, rfl, hr3, hb3⟩; have HR3 := hide hr3; have HP3 := hide (SlR.of hr3); have hbel3 := hide (hbel1.trans (hb3.mono hbel1.size)); have HN3 := hide (HN1.out.below hb3); have HT3 := hide (HT1.out.below hb3); obtain ⟨A, cp, hvs⟩ := own_slice hr3; subst hvs; clear hr3 hb3))
  clear FA HN1 HT1
  obtain ⟨A', c', ev, hps⟩ := HP3.out
  injection ev with ev1 ev2 ev3
  subst ev1; subst ev3
  have HRD := hide hps
  clear hps HP3
  go_upto_region 3 with fail
  have HMP := hide (show ∃ M : ByteArray → Int, WMap w3.heap.size 0 M ((w3.alloc (.map #[] 0)).alloc (.cells #[.map (some w3.heap.size)] 76)) ∧ ∀ s ∈ fs.take 0, M s = (weightT t s).1 from ⟨fun _ => 0, MapV.alloc (MapV.made _ _ _ _) _, fun s hs => by cases hs⟩)
  have HC := hide (show Blk ((w3.alloc (.map #[] 0)).alloc (.cells #[.map (some w3.heap.size)] 76)) (w3.heap.size + 1) #[.map (some w3.heap.size)] 76 from Blk.newAt (by rw [World.size_alloc]))
  have hb4 : Below w3.heap.size w3 ((w3.alloc (.map #[] 0)).alloc (.cells #[.map (some w3.heap.size)] 76)) := ((Below.refl _ _).alloc (Nat.le_refl _) _).alloc (by rw [World.size_alloc]; omega) _
  have hRb : ∀ j, (Value.slice A fs.length cp).ownBlock = some j → w.heap.size ≤ j ∧ j < w3.heap.size := fun j hj => ⟨Nat.le_trans hbel1.size (HR3.out.lt j hj).1, (HR3.out.lt j hj).2⟩
  generalize (w3.alloc (.map #[] 0)).alloc (.cells #[.map (some w3.heap.size)] 76) = W4 at *
  obtain ⟨c, hc⟩ : ∃ c, c = w3.heap.size + 1 := ⟨_, rfl⟩
  obtain ⟨mb, hmb⟩ : ∃ mb, mb = w3.heap.size := ⟨_, rfl⟩
  have hcm : mb < c ∧ w3.heap.size ≤ mb := by omega
  rw [← hc, ← hmb] at HC ⊢
  rw [← hmb] at HMP
  clear hc hmb
  go_wp2_with fail
  go_loopw [12] (fun i wr => ∃ (k : Nat) (M : ByteArray → Int), i = .int .i64 (k : Int) ∧ k ≤ fs.length ∧ WMap mb k M wr ∧ (∀ s ∈ fs.take k, M s = (weightT t s).1) ∧ Blk wr c #[.map (some mb)] 76 ∧ Below w3.heap.size w3 wr) (fun i _ => fs.length - (intOf i).toNat)
  case atStart =>
    obtain ⟨M, h1, h2⟩ := HMP.out
    exact ⟨0, M, rfl, Nat.zero_le _, h1, h2, HC.out, hb4⟩
  case round =>
    clear HMP HC hb4
    obtain ⟨k, M, rfl, hk, hmap, hM, hCb, hbelr⟩ := hrel
    have HB := hide hbelr
    have HMM := hide hM
    have HC := hide hCb
    have hszr := hbelr.size
    clear hbelr hM hCb
    by_cases hlt : k < fs.length
    · obtain ⟨p, hp⟩ : ∃ p, fs[k]? = some p := ⟨fs[k], List.getElem?_eq_getElem hlt⟩
      obtain ⟨g, o, rfl, hg, hcl⟩ := HRD.out (by omega)
      have c0 : wr.cell? ⟨g, o + k, none⟩ = some (.string p) := (HB.out.cell (p := ⟨g, o + k, none⟩) hg).trans (hcl k p hp)
      have hps1 := HFM.out p (List.mem_of_getElem? hp)
      have hps3 : p.size ≤ 2000000 := by omega
      have HNX := hide (show ∀ s ∈ fs.take (k + 1), s = p ∨ s ∈ fs.take k from fun s hs => by
        rw [List.take_add_one, hp] at hs
        rcases List.mem_append.1 hs with h | h
        · exact Or.inr h
        · exact Or.inl (by simpa using h))
      have HNr := hide (HN3.out.below HB.out)
      have WGT := hide (show ∀ W, Below wr.heap.size wr W → Calls Tryz.prog 13 #[.agg cn, .string p] W fun e w' => e = .returned (.tuple #[.int .i64 (weightT t p).1, .int .i64 (weightT t p).2]) ∧ Below W.heap.size W w' from fun W hW => WN0.out p hps3 W ((HT3.out.below HB.out).below hW) (HNr.out.2.1.later hW))
      have hkeep0 : Blk wr.drew b cn 25 ∧ Blk wr.drew c #[.map (some mb)] 76 := ⟨HNr.out.1, HC.out⟩
      have HBd := hide ((Below.refl wr.heap.size wr).drew)
      clear hcl hp
      obtain ⟨wt, hwt⟩ : ∃ wt, weightT t p = wt := ⟨_, rfl⟩
      rw [hwt] at WGT
      have HWT := hide hwt
      clear hwt
      go_upto_region 6 with fail
      refine wp_region_noPanic ?_
      refine wp_region_held_drew (S := (fun z => Blk z b cn 25 ∧ Blk z c #[.map (some mb)] 76)) (by kernel_rfl) kp (fun hHeld => ?_)
      refine tkZ 0 ⟨some 17, .load 76 (.tmp 4), 76, "fileorder.go:63", #[], none⟩ ?_ (by intro w hSw; (try dsimp only at hSw); have c1 := hSw.2.cells 0; go_simp; (try with_reducible rfl))
      refine tkZ 1 ⟨some 18, .move (.tmp 6), 9, "fileorder.go:63", #[], none⟩ ?_
      refine tkZ 2 ⟨some 19, .load 25 (.tmp 1), 25, "fileorder.go:63", #[], none⟩ ?_ (by intro w hSw; (try dsimp only at hSw); refine (exec_load_row 25 (.tmp 1) (by rfl) b (by rfl) 25 cn (0, 0) _ hSw.1 Tryz.underlying25 (by rfl) (infN HNr.out.2.2)).trans ?_; with_reducible rfl)
      refine tkZ 3 ⟨some 20, .move (.tmp 6), 9, "fileorder.go:63", #[], none⟩ ?_
      refine rqS [4] (rqC ⟨some 21, .call ⟨.value (.func 13), #[.tmp 19, .tmp 20], #[25, 9]⟩, 30, "fileorder.go:63", #[⟨2, .data⟩, ⟨3, .data⟩], none⟩ (fun K hK => ?_) rq0)
      go_simp
      (go_at_call 13; (with_reducible refine (WGT.out _ HBd.out).mono ?_); rintro e w8 ⟨rfl, hb8⟩; have hkeep8 : Blk w8 b cn 25 ∧ Blk w8 c #[.map (some mb)] 76 := ⟨Blk.below hb8 hHeld.1, Blk.below hb8 hHeld.2⟩; have hmap8 : WMap mb k M w8 := MapV.below (w := wr.drew) (MapV.block hmap rfl) hb8)
      go_wp2_with fail
      refine hK.out _ _ kp (fun hHeld => ?_)
      clear hK K
      try simp only [PT]
      refine tkZ 5 ⟨some 16, .move (.tmp 21), 30, "fileorder.go:63", #[⟨4, .data⟩], none⟩ ?_
      refine tkZ 6 ⟨some 22, .extract (.tmp 16) 0, 3, "fileorder.go:63", #[⟨5, .data⟩], none⟩ ?_
      refine tkZ 7 ⟨some 23, .extract (.tmp 16) 1, 29, "fileorder.go:63", #[⟨5, .data⟩, ⟨8, .gcOnly .lateStores⟩], none⟩ ?_
      refine rqS [8] (rqC ⟨none, .mapUpdate 76 (.tmp 17) (.tmp 18) (.tmp 22), 0, "fileorder.go:63", #[⟨0, .data⟩, ⟨1, .data⟩, ⟨6, .data⟩, ⟨4, .chain⟩, ⟨0, .phase⟩, ⟨1, .phase⟩, ⟨2, .phase⟩, ⟨3, .phase⟩, ⟨4, .phase⟩, ⟨5, .phase⟩, ⟨6, .phase⟩, ⟨7, .textOnly .lateStores⟩], none⟩ (fun K hK => ?_) rq0)
      refine step_map rfl _ _ _ 76 9 3 rfl Tryz.underlying9 Tryz.underlying76 (.int .i64 0) mb k (fun s => .int .i64 (M s)) rfl hmap8 (by unfold maxLen; omega) p rfl (by unfold maxLen; omega) _ rfl ?_; intro w9 hmap9 hg9; have hkeep9 : Blk w9 b cn 25 ∧ Blk w9 c #[.map (some mb)] 76 := ⟨(hg9.block b hkeep8.1.lt (fun e => by injection e with e; have := HN3.out.lt; omega)).trans hkeep8.1, (hg9.block c hkeep8.2.lt (fun e => by injection e with e; omega)).trans hkeep8.2⟩
      refine hK.out _ _ kp (fun hHeld => ?_)
      clear hK K
      try simp only [PT]
      refine wpAnyH_done (by kernel_rfl) ?_ _
      refine NoPanic.normal ?_
      have hb9 : Below w3.heap.size w3 w9 := (HB.out.trans ((((Below.refl wr.heap.size wr).drew).trans hb8).mono hszr)).grown hg9 (Nat.le_trans hszr hb8.size) (fun j hj => by injection hj with hj; omega)
      have HMP9 := hide (show ∃ M' : ByteArray → Int, WMap mb (k + 1) M' w9 ∧ ∀ s ∈ fs.take (k + 1), M' s = (weightT t s).1 from ⟨fun r => if r = p then wt.1 else M r, by
        have e : (fun r => Value.int .i64 (if r = p then wt.1 else M r)) = fun r => if r = p then Value.int .i64 wt.1 else Value.int .i64 (M r) := by
          funext r
          split <;> rfl
        show MapV _ _ _ _ _ (fun r => Value.int .i64 (if r = p then wt.1 else M r)) _
        rw [e]
        exact hmap9, fun s hs => by
        show (if s = p then wt.1 else M s) = _
        by_cases hsp : s = p
        · rw [if_pos hsp, hsp, HWT.out]
        · rw [if_neg hsp]
          rcases HNX.out s hs with h | h
          · exact absurd h hsp
          · exact HMM.out s h⟩)
      clear hmap9 hg9 hmap8 hkeep8
      go_wp2_with fail
      go_roundw
      case rel =>
        obtain ⟨M', h1, h2⟩ := HMP9.out
        exact ⟨k + 1, M', by go_num, by omega, h1, h2, hkeep9.2, hb9⟩
      case measure => simp [intOf]; omega
    · obtain rfl : k = fs.length := by omega
      have hM2 : ∀ s ∈ fs, M s = (weightT t s).1 := fun s hs => HMM.out s (by rw [List.take_length]; exact hs)
      have HE := hide (HBW.out M hM2)
      have HRr := hide (below_row' HR3.out HB.out)
      have SO := hide (sortW_any W1.heap.size (.slice A fs.length cp) fs (cfW M) (cfW_swo M) 53 #[.pointer (some ⟨c, 0, none⟩)] (by omega) (fun s hs => by have := HFM.out s hs; unfold maxLen; omega) wr (enters_of Tryz.func53 (by kernel_rfl) rfl) HRr.out (fun j hj W x y hx hy hW => by
        have hjl := hRb j hj
        exact byw1_any c mb fs.length M x y hx hy W ((hW c HC.out.lt (by omega)).trans HC.out) (MapV.block hmap (hW mb hmap.lt (by omega)))))
      have hbw := hbel3.out.trans (HB.out.mono hbel3.out.size)
      clear hM2 hmap HMM
      go_wp2_with (go_at_call 52; (with_reducible refine SO.out.mono ?_); rintro e w8 ⟨rfl, hr8, hf8⟩; have HR8 := hide hr8; have HF8 := hide hf8; clear hr8 hf8)
      go_ret
      refine ⟨_, rfl, ?_, hbw.trans (HF8.out.below (Nat.le_trans hbel3.out.size hszr) (fun j hj => (hRb j hj).1))⟩
      have h := HR8.out
      rw [HE.out] at h
      have hl : (byW t).length = fs.length := by rw [← HE.out]; exact srt_len _ _
      unfold StrsR
      rw [hl]
      exact own_base h hbel1.size
end Go.Proofs.YtocgindpjjolpaaGreatDoor
