/- Contracts and plain words for the laws of volume descriptors, part 21: J4, Lin, J5. No condition. -/
import Derived.Laws.Rows
import Derived.Test.YtjbhokmkmapkoaaGreatDoorC20
import Derived.Test.YtjbhokmkmapkoaaGreatDoorC1
namespace Go.Proofs.YtjbhokmkmapkoaaGreatDoor
set_option linter.unusedSimpArgs false
set_option linter.unusedVariables false
open Go.RowKit
open Go.PlainAid (bt get_bt bt_nonneg bt_le bt_end)
theorem chk_no {d : DR} (h0 : d.typ ≠ 0) (h255 : d.typ ≠ 255) (h1 : d.typ ≠ 1) (h2 : d.typ ≠ 2) : chkD d = 1 := by unfold chkD; rw [if_neg (by omega), if_neg (by omega)]
theorem chk_0 {d : DR} (h : d.typ = 0) : chkD d = if decide (d = { DR.zero with typ := d.typ, cat := d.cat }) = true then (if wordB d.cat = true then 0 else 2) else 1 := by
  unfold chkD onlyD
  rw [if_pos (Or.inl h), if_pos h]
  by_cases hd : d = { DR.zero with typ := d.typ, cat := d.cat }
  · rw [if_neg (fun h => h hd), if_pos (decide_eq_true hd)]
  · rw [if_pos hd, if_neg (by rw [decide_eq_false hd]; simp)]
theorem chk_255 {d : DR} (h : d.typ = 255) : chkD d = if decide (d = { DR.zero with typ := d.typ }) = true then 0 else 1 := by
  unfold chkD onlyD
  rw [if_pos (Or.inr h), if_neg (show ¬ d.typ = 0 by omega)]
  by_cases hd : d = { DR.zero with typ := d.typ }
  · rw [if_neg (fun h => h hd), if_pos (decide_eq_true hd)]
    have : d.cat = 0 := by rw [hd]; rfl
    rw [this, if_pos (by decide)]
  · rw [if_pos hd, if_neg (by rw [decide_eq_false hd]; simp)]
set_option maxRecDepth 100000 in
set_option maxHeartbeats 4000000 in
theorem check_no (d : DR) (h0 : d.typ ≠ 0) (h255 : d.typ ≠ 255) (h1 : d.typ ≠ 1) (h2 : d.typ ≠ 2) (w : World) : Calls Tryz.prog 15 #[.agg d.cells] w fun e w' => e = .returned (.int .i64 (chkD d)) ∧ Below w.heap.size w w' := by
  have E := hide (chk_no h0 h255 h1 h2)
  have q0 : (d.typ == 0) = false := by simpa using h0
  have q1 : (d.typ == 1) = false := by simpa using h1
  have q2 : (d.typ == 2) = false := by simpa using h2
  have q3 : (d.typ == 255) = false := by simpa using h255
  clear h0 h255 h1 h2
  have HL : Live w [] := trivial
  go_enter Tryz.func15, Tryz.ntmps15
  go_upto_region 1 with fail
  have hB1 : Blk (w.alloc (.cells d.cells 27)) w.heap.size d.cells 27 := Blk.newAt rfl
  have hbel1 : Below w.heap.size w (w.alloc (.cells d.cells 27)) := by (exact bl)
  generalize w.alloc (.cells d.cells 27) = W1 at *
  have hdd := Dat.of hB1
  unfold Dat at hdd
  go_wp2_with fail
  go_ret
  exact ⟨ret_i E.out.symm, hbel1⟩
/-- The bare descriptors. -/
abbrev bare0 (t c : Int) : DR := ⟨t, c, ⟨#[]⟩, ⟨#[]⟩, ⟨#[]⟩, ⟨#[]⟩, ⟨#[]⟩, 0, 0, 0, 0, 0, 0, 0, 0, ⟨⟨#[]⟩, 0, 0, 0, 0, 0, 0, ⟨#[]⟩⟩⟩
theorem neq_bare (d : DR) (t c : Int) (b : Bool) (hb : decide (d = bare0 t c) = b) (W : World) : (binOp .neq 27 (.agg d.cells) (.agg #[.int .i64 t, .int .i64 c, .string ⟨#[]⟩, .string ⟨#[]⟩, .string ⟨#[]⟩, .string ⟨#[]⟩, .string ⟨#[]⟩, .int .i64 0, .int .i64 0, .int .i64 0, .int .i64 0, .int .i64 0, .int .i64 0, .int .i64 0, .int .i64 0, .string ⟨#[]⟩, .int .i64 0, .int .i64 0, .int .i64 0, .int .i64 0, .int .i64 0, .int .i64 0, .string ⟨#[]⟩])).run Tryz.prog W = .ok (.bool (!b)) W := by
  subst hb
  exact neqD d (bare0 t c) W
set_option maxRecDepth 100000 in
set_option maxHeartbeats 8000000 in
theorem check_0 (d : DR) (h0 : d.typ = 0) (w : World) : Calls Tryz.prog 15 #[.agg d.cells] w fun e w' => e = .returned (.int .i64 (chkD d)) ∧ Below w.heap.size w w' := by
  have E := chk_0 h0
  have q0 : (d.typ == 0) = true := by simpa using h0
  obtain ⟨b, hb⟩ : ∃ b, decide (d = bare0 d.typ d.cat) = b := ⟨_, rfl⟩
  have NQ := neq_bare d d.typ d.cat b hb
  have EE := hide (show chkD d = if b = true then (if wordB d.cat = true then 0 else 2) else 1 from by rw [E, ← hb]; rfl)
  clear h0 E hb
  have HL : Live w [] := trivial
  go_enter Tryz.func15, Tryz.ntmps15
  go_upto_region 1 with fail
  have hB1 : Blk (w.alloc (.cells d.cells 27)) w.heap.size d.cells 27 := Blk.newAt rfl
  have hbel1 : Below w.heap.size w (w.alloc (.cells d.cells 27)) := by (exact bl)
  generalize w.alloc (.cells d.cells 27) = W1 at *
  have hlt1 := hB1.lt
  have hdd := Dat.of hB1
  unfold Dat at hdd
  go_wp2_with (first | (refine wpList_store_new rfl 27 (.tmp 3) (.tmp 18) rfl #[.int .i64 d.typ, .int .i64 0, .string ⟨#[]⟩, .string ⟨#[]⟩, .string ⟨#[]⟩, .string ⟨#[]⟩, .string ⟨#[]⟩, .int .i64 0, .int .i64 0, .int .i64 0, .int .i64 0, .int .i64 0, .int .i64 0, .int .i64 0, .int .i64 0, .string ⟨#[]⟩, .int .i64 0, .int .i64 0, .int .i64 0, .int .i64 0, .int .i64 0, .int .i64 0, .string ⟨#[]⟩] rfl rfl 27 _ (by as_aux_lemma => kernel_rfl) rfl (by as_aux_lemma => kernel_rfl) ?_) | (refine wpList_load_row rfl 27 (.tmp 1) rfl w.heap.size rfl 27 d.cells (0, 0) _ (hB1.alloc _) Tryz.underlying27 rfl (by as_aux_lemma => kernel_rfl) ?_) | (refine wpList_load_row rfl 27 (.tmp 3) rfl W1.heap.size rfl 27 #[.int .i64 d.typ, .int .i64 d.cat, .string ⟨#[]⟩, .string ⟨#[]⟩, .string ⟨#[]⟩, .string ⟨#[]⟩, .string ⟨#[]⟩, .int .i64 0, .int .i64 0, .int .i64 0, .int .i64 0, .int .i64 0, .int .i64 0, .int .i64 0, .int .i64 0, .string ⟨#[]⟩, .int .i64 0, .int .i64 0, .int .i64 0, .int .i64 0, .int .i64 0, .int .i64 0, .string ⟨#[]⟩] (0, 0) _ (heap_alloc_new W1 _) Tryz.underlying27 rfl (by as_aux_lemma => kernel_rfl) ?_) | (go_at_call 47; (with_reducible refine (word_any _ _).mono ?_); rintro e w' ⟨rfl, rfl⟩))
  all_goals
    go_ret
    exact ⟨ret_i (by rw [EE.out]; clear NQ; cases b <;> simp_all), by (exact bl)⟩
set_option maxRecDepth 100000 in
set_option maxHeartbeats 8000000 in
theorem check_255 (d : DR) (h0 : d.typ = 255) (w : World) : Calls Tryz.prog 15 #[.agg d.cells] w fun e w' => e = .returned (.int .i64 (chkD d)) ∧ Below w.heap.size w w' := by
  have E := chk_255 h0
  have q0 : (d.typ == 0) = false := by rw [h0]; rfl
  have q3 : (d.typ == 255) = true := by simpa using h0
  obtain ⟨b, hb⟩ : ∃ b, decide (d = bare0 d.typ 0) = b := ⟨_, rfl⟩
  have NQ := neq_bare d d.typ 0 b hb
  have EE := hide (show chkD d = if b = true then 0 else 1 from by rw [E, ← hb]; rfl)
  have HW := hide (show b = true → wordB d.cat = true from fun h => by rw [h] at hb; rw [of_decide_eq_true hb]; rfl)
  clear h0 E hb
  have HL : Live w [] := trivial
  go_enter Tryz.func15, Tryz.ntmps15
  go_upto_region 1 with fail
  have hB1 : Blk (w.alloc (.cells d.cells 27)) w.heap.size d.cells 27 := Blk.newAt rfl
  have hbel1 : Below w.heap.size w (w.alloc (.cells d.cells 27)) := by (exact bl)
  generalize w.alloc (.cells d.cells 27) = W1 at *
  have hlt1 := hB1.lt
  have hdd := Dat.of hB1
  unfold Dat at hdd
  go_wp2_with (first | (refine wpList_store_new rfl 27 (.tmp 3) (.tmp 18) rfl #[.int .i64 d.typ, .int .i64 0, .string ⟨#[]⟩, .string ⟨#[]⟩, .string ⟨#[]⟩, .string ⟨#[]⟩, .string ⟨#[]⟩, .int .i64 0, .int .i64 0, .int .i64 0, .int .i64 0, .int .i64 0, .int .i64 0, .int .i64 0, .int .i64 0, .string ⟨#[]⟩, .int .i64 0, .int .i64 0, .int .i64 0, .int .i64 0, .int .i64 0, .int .i64 0, .string ⟨#[]⟩] rfl rfl 27 _ (by as_aux_lemma => kernel_rfl) rfl (by as_aux_lemma => kernel_rfl) ?_) | (refine wpList_load_row rfl 27 (.tmp 1) rfl w.heap.size rfl 27 d.cells (0, 0) _ (hB1.alloc _) Tryz.underlying27 rfl (by as_aux_lemma => kernel_rfl) ?_) | (refine wpList_load_row rfl 27 (.tmp 3) rfl W1.heap.size rfl 27 #[.int .i64 d.typ, .int .i64 0, .string ⟨#[]⟩, .string ⟨#[]⟩, .string ⟨#[]⟩, .string ⟨#[]⟩, .string ⟨#[]⟩, .int .i64 0, .int .i64 0, .int .i64 0, .int .i64 0, .int .i64 0, .int .i64 0, .int .i64 0, .int .i64 0, .string ⟨#[]⟩, .int .i64 0, .int .i64 0, .int .i64 0, .int .i64 0, .int .i64 0, .int .i64 0, .string ⟨#[]⟩] (0, 0) _ (heap_alloc_new W1 _) Tryz.underlying27 rfl (by as_aux_lemma => kernel_rfl) ?_) | (go_at_call 47; (with_reducible refine (word_any _ _).mono ?_); rintro e w' ⟨rfl, rfl⟩))
  all_goals
    go_ret
    exact ⟨ret_i (by rw [EE.out]; have HW2 := HW.out; clear NQ; cases b <;> simp_all), by (exact bl)⟩
end Go.Proofs.YtjbhokmkmapkoaaGreatDoor
namespace Go.Proofs.YtjbhokmkmapkoaaGreatDoor
set_option linter.unusedSimpArgs false
set_option linter.unusedVariables false
open Go.RowKit
theorem filter_lt {p q : Nat → Bool} : ∀ {l : List Nat} {i : Nat}, (∀ j, q j = true → p j = true) → i ∈ l → p i = true → q i = false → (l.filter q).length < (l.filter p).length
  | [], _, _, h, _, _ => by cases h
  | x :: l, i, hi, hm, hp, hq => by
    have mono : (l.filter q).length ≤ (l.filter p).length := by
      clear hm
      induction l with
      | nil => simp
      | cons y l ih =>
        rw [List.filter_cons, List.filter_cons]
        cases hy : q y
        · cases p y
          · simpa using ih
          · simp; omega
        · rw [hi y hy]; simp; exact ih
    rw [List.filter_cons, List.filter_cons]
    by_cases hx : x = i
    · subst hx
      rw [hp, hq]; simp; omega
    · have hm2 : i ∈ l := by
        rcases List.mem_cons.1 hm with h | h
        · exact absurd h.symm hx
        · exact h
      have ih := filter_lt hi hm2 hp hq
      cases hy : q x
      · cases p x
        · simpa using ih
        · simp; omega
      · rw [hi x hy]; simp; exact ih
/-- The operation's destination. -/
def dstOf (ops : Array Oper) (i : Nat) : Option Tmp := (ops[i]?).bind (·.dst)
/-- The frame: each operation's destination holds its value. -/
def Fr (ops : Array Oper) (a : Act) (u : Nat → Value) : Act := (List.range ops.size).foldl (fun b i => b.put (dstOf ops i) (u i)) a
def upd (u : Nat → Value) (i : Nat) (v : Value) : Nat → Value := fun j => if j = i then v else u j
/-- No two operations have one destination; edges lead back. -/
def linOk (ops : Array Oper) : Bool := (List.range ops.size).all fun i => ((List.range i).all fun j => decide (dstOf ops i = none ∨ dstOf ops j ≠ dstOf ops i)) && (match ops[i]? with
  | some o => o.after.all fun e => !Region.binds .any e || decide (e.on < i)
  | none => true)
theorem put_same (a : Act) (d : Option Tmp) (x v : Value) : (a.put d x).put d v = a.put d v := by
  cases d with
  | none => rfl
  | some d => simp [Act.put]
theorem put_through (d : Nat → Option Tmp) (u : Nat → Value) (k : Nat) (v : Value) : ∀ (l : List Nat) (a : Act), (∀ j ∈ l, d k = none ∨ d j ≠ d k) → (l.foldl (fun b i => b.put (d i) (u i)) a).put (d k) v = l.foldl (fun b i => b.put (d i) (u i)) (a.put (d k) v)
  | [], _, _ => rfl
  | j :: l, a, h => by
    rw [List.foldl_cons, List.foldl_cons, put_through d u k v l _ (fun x hx => h x (List.mem_cons_of_mem _ hx))]
    congr 1
    rcases h j (List.mem_cons_self) with h1 | h1
    · rw [h1]; rfl
    · exact Act.put_comm a _ _ (fun x hx hy => h1 (hx.trans hy.symm))
theorem fold_upd (d : Nat → Option Tmp) (u : Nat → Value) (k : Nat) (v : Value) : ∀ (l : List Nat) (a : Act), k ∉ l → l.foldl (fun b i => b.put (d i) (upd u k v i)) a = l.foldl (fun b i => b.put (d i) (u i)) a
  | [], _, _ => rfl
  | j :: l, a, h => by
    have h1 : j ≠ k := fun e => h (by rw [e]; exact List.mem_cons_self)
    rw [List.foldl_cons, List.foldl_cons, fold_upd d u k v l _ (fun hx => h (List.mem_cons_of_mem _ hx))]
    unfold upd
    rw [if_neg h1]
theorem linOk_dst {ops : Array Oper} (h : linOk ops = true) {i j : Nat} (hi : i < ops.size) (hj : j < ops.size) (hne : j ≠ i) : dstOf ops i = none ∨ dstOf ops j ≠ dstOf ops i := by
  unfold linOk at h
  rw [List.all_eq_true] at h
  rcases Nat.lt_or_gt_of_ne hne with hlt | hlt
  · have h1 := h i (List.mem_range.2 hi)
    rw [Bool.and_eq_true, List.all_eq_true] at h1
    exact of_decide_eq_true (h1.1 j (List.mem_range.2 hlt))
  · have h1 := h j (List.mem_range.2 hj)
    rw [Bool.and_eq_true, List.all_eq_true] at h1
    rcases of_decide_eq_true (h1.1 i (List.mem_range.2 hlt)) with h2 | h2
    · by_cases h3 : dstOf ops i = none
      · exact Or.inl h3
      · exact Or.inr (fun e => h3 (e ▸ h2))
    · exact Or.inr (Ne.symm h2)
theorem Fr_put {ops : Array Oper} (h : linOk ops = true) (a : Act) (u : Nat → Value) (k : Nat) (v : Value) (hk : k < ops.size) : (Fr ops a u).put (dstOf ops k) v = Fr ops a (upd u k v) := by
  unfold Fr
  have key : ∀ (l : List Nat) (a : Act), k ∈ l → l.Nodup → (∀ j ∈ l, j < ops.size) → (l.foldl (fun b i => b.put (dstOf ops i) (u i)) a).put (dstOf ops k) v = l.foldl (fun b i => b.put (dstOf ops i) (upd u k v i)) a := by
    intro l
    induction l with
    | nil => intro a hm; cases hm
    | cons j l ih =>
      intro a hm hn hl
      have hn2 := List.nodup_cons.1 hn
      rw [List.foldl_cons, List.foldl_cons]
      by_cases hj : j = k
      · subst hj
        rw [put_through (dstOf ops) u j v l _ (fun x hx => linOk_dst h hk (hl x (List.mem_cons_of_mem _ hx)) (fun e => hn2.1 (e ▸ hx))), put_same, fold_upd (dstOf ops) u j v l _ hn2.1]
        congr 1
        unfold upd
        rw [if_pos rfl]
      · have hm2 : k ∈ l := by
          rcases List.mem_cons.1 hm with e | e
          · exact absurd e.symm hj
          · exact e
        rw [ih _ hm2 hn2.2 (fun x hx => hl x (List.mem_cons_of_mem _ hx))]
        congr 2
        unfold upd
        rw [if_neg hj]
  exact key _ a (List.mem_range.2 hk) List.nodup_range (fun j hj => List.mem_range.1 hj)
def own0 (ops : Array Oper) (a : Act) (i : Nat) : Value := match dstOf ops i with
  | some d => a.tmps.getD d undef
  | none => undef
theorem put_own (a : Act) (d : Option Tmp) : a.put d (match d with | some d => a.tmps.getD d undef | none => undef) = a := by
  cases d with
  | none => rfl
  | some d =>
    unfold Act.put
    simp only
    congr 1
    apply Array.ext
    · simp
    · intro i h1 h2
      rw [Array.getElem_setIfInBounds]
      · split
        · rename_i e; subst e; simp [Array.getD, h2]
        · rfl
theorem Fr_own (ops : Array Oper) (a : Act) : Fr ops a (own0 ops a) = a := by
  unfold Fr
  have key : ∀ l : List Nat, l.foldl (fun b i => b.put (dstOf ops i) (own0 ops a i)) a = a := by
    intro l
    induction l with
    | nil => rfl
    | cons j l ih =>
      rw [List.foldl_cons]
      have : a.put (dstOf ops j) (own0 ops a j) = a := put_own a (dstOf ops j)
      rw [this, ih]
  exact key _
/-- It waits for that one. -/
def waits (o : Oper) (j : Nat) : Bool := o.after.any fun e => Region.binds .any e && decide (e.on = j)
/-- One operation, met in whatever world of the region. -/
def LinStep (P : Program) (ops : Array Oper) (Q : Exit → Act → World → Prop) (R : Nat → Value → World → Prop) (a : Act) (w : World) (i : Nat) (o : Oper) : Prop :=
  ∀ (u : Nat → Value) (wx : World), Below w.heap.size w wx → (∀ j, waits o j = true → R j (u j) wx) → ∀ K : Act → World → Prop, (∀ v wy a', a' = (Fr ops a u).put o.dst v → Below wx.heap.size wx wy → R i v wy → K a' wy) →
    if Region.wanted o (yielded ops (Fr ops a u).tmps) = true then Oper.wp P o (Fr ops a u) wx K Q else K ((Fr ops a u).put o.dst undef) wx
def LinSteps (P : Program) (ops : Array Oper) (Q : Exit → Act → World → Prop) (R : Nat → Value → World → Prop) (a : Act) (w : World) : List Oper → Nat → Prop
  | [], _ => True
  | o :: l, i => LinStep P ops Q R a w i o ∧ LinSteps P ops Q R a w l (i + 1)
theorem LinSteps.nil {P : Program} {ops : Array Oper} {Q : Exit → Act → World → Prop} {R : Nat → Value → World → Prop} {a : Act} {w : World} {i : Nat} : LinSteps P ops Q R a w [] i := trivial
theorem LinSteps.cons {P : Program} {ops : Array Oper} {Q : Exit → Act → World → Prop} {R : Nat → Value → World → Prop} {a : Act} {w : World} {i : Nat} {o : Oper} {l : List Oper} (h : LinStep P ops Q R a w i o) (hl : LinSteps P ops Q R a w l (i + 1)) : LinSteps P ops Q R a w (o :: l) i := ⟨h, hl⟩
theorem LinSteps.at {P : Program} {ops : Array Oper} {Q : Exit → Act → World → Prop} {R : Nat → Value → World → Prop} {a : Act} {w : World} : ∀ {l : List Oper} {i : Nat}, LinSteps P ops Q R a w l i → ∀ {k : Nat} {o : Oper}, l[k]? = some o → LinStep P ops Q R a w (i + k) o
  | [], _, _, _, _, h => by simp at h
  | x :: l, i, hs, 0, o, h => by
    simp at h; subst h; exact hs.1
  | x :: l, i, hs, k + 1, o, h => by
    have := LinSteps.at hs.2 (k := k) (o := o) (by simpa using h)
    rw [show i + (k + 1) = i + 1 + k by omega]
    exact this
theorem region_lin {P : Program} {ops : Array Oper} {Q : Exit → Act → World → Prop} {id : Nat} {a : Act} {w : World} (R : Nat → Value → World → Prop) (hm : P.follows .mixedOrders = true) (hok : linOk ops = true)
    (hR : ∀ j v wx wy, Below wx.heap.size wx wy → R j v wx → R j v wy)
    (hsteps : LinSteps P ops Q R a w ops.toList 0)
    (hend : ∀ (u : Nat → Value) (wx : World), Below w.heap.size w wx → (∀ j, j < ops.size → R j (u j) wx) → Q .normal (Fr ops a u) wx) :
    (Code.region id ops true).wp P Q a w := by
  refine wp_region_any hm ?_
  have hsteps2 : ∀ i o, ops[i]? = some o → LinStep P ops Q R a w i o := fun i o h => by
    have := hsteps.at (k := i) (o := o) (by rw [Array.getElem?_toList]; exact h)
    rw [Nat.zero_add] at this; exact this
  have main : ∀ (fuel : Nat) (listed : Array Bool) (u : Nat → Value) (wx : World), listed.size = ops.size → ((List.range ops.size).filter fun j => !listed.getD j true).length ≤ fuel → Below w.heap.size w wx →
      (∀ j, listed.getD j false = true → R j (u j) wx) → wpAny P .any ops Q fuel listed (Fr ops a u) wx := by
    intro fuel
    induction fuel with
    | zero =>
      intro listed u wx hsz hc hb hr
      have hall : ∀ j, j < ops.size → listed.getD j true = true := fun j hj => by
        cases h : listed.getD j true with
        | true => rfl
        | false =>
          have hmem : j ∈ (List.range ops.size).filter fun j => !listed.getD j true := List.mem_filter.2 ⟨List.mem_range.2 hj, by rw [h]; rfl⟩
          have := List.length_pos_of_mem hmem
          omega
      refine ⟨?_, hend u wx hb (fun j hj => hr j ?_)⟩
      · refine List.eq_nil_iff_forall_not_mem.2 (fun i hi => ?_)
        have h1 := (mem_ready.1 hi).1
        rcases Nat.lt_or_ge i ops.size with h2 | h2
        · rw [hall i h2] at h1; cases h1
        · have : listed.getD i true = true := by simp [Array.getD, show ¬ i < listed.size by omega]
          rw [this] at h1; cases h1
      · have := hall j hj
        simp [Array.getD, show j < listed.size by omega] at this ⊢
        exact this
    | succ fuel ih =>
      intro listed u wx hsz hc hb hr
      refine ⟨fun hnil => hend u wx hb (fun j hj => hr j ?_), fun i hi => ?_⟩
      · -- all are listed
        have hall : ∀ n j, j < n → j < ops.size → listed.getD j false = true := by
          intro n
          induction n with
          | zero => intro j h; omega
          | succ n ihn =>
            intro j hj hjs
            cases h : listed.getD j false with
            | true => rfl
            | false =>
              exfalso
              have hmem : j ∈ Region.ready .any ops listed := by
                refine mem_ready.2 ⟨?_, ops[j], by simp [hjs], fun e he hbd => ihn e.on ?_ ?_⟩
                · simp [Array.getD, show j < listed.size by omega] at h ⊢; exact h
                · have h1 := hok
                  unfold linOk at h1
                  rw [List.all_eq_true] at h1
                  have h2 := h1 j (List.mem_range.2 hjs)
                  rw [Bool.and_eq_true] at h2
                  have h3 := h2.2
                  rw [show ops[j]? = some ops[j] by simp [hjs]] at h3
                  simp only at h3
                  rw [Array.all_eq_true_iff_forall_mem] at h3
                  have h4 := h3 e he
                  rw [hbd] at h4
                  have h5 : e.on < j := by simpa using h4
                  omega
                · have h1 := hok
                  unfold linOk at h1
                  rw [List.all_eq_true] at h1
                  have h2 := h1 j (List.mem_range.2 hjs)
                  rw [Bool.and_eq_true] at h2
                  have h3 := h2.2
                  rw [show ops[j]? = some ops[j] by simp [hjs]] at h3
                  simp only at h3
                  rw [Array.all_eq_true_iff_forall_mem] at h3
                  have h4 := h3 e he
                  rw [hbd] at h4
                  have h5 : e.on < j := by simpa using h4
                  omega
              rw [hnil] at hmem
              cases hmem
        exact hall (j + 1) j (Nat.lt_succ_self j) hj
      · obtain ⟨hun, o, ho, hdeps⟩ := mem_ready.1 hi
        have his : i < ops.size := by
          rcases Nat.lt_or_ge i ops.size with h | h
          · exact h
          · rw [Array.getElem?_eq_none h] at ho; cases ho
        refine wpOp_step ho (fun K hK => ?_)
        refine hsteps2 i o ho u wx hb (fun j hj => ?_) K (fun v wy a' ha' hbe hv => ?_)
        · unfold waits at hj
          obtain ⟨k, hk, hbe⟩ := Array.any_eq_true.1 hj
          generalize hge : o.after[k] = e at hbe
          have he : e ∈ o.after := by rw [← hge]; exact Array.getElem_mem hk
          rw [Bool.and_eq_true] at hbe
          have := of_decide_eq_true hbe.2
          subst this
          exact hr _ (hdeps e he hbe.1)
        · have hdst : dstOf ops i = o.dst := by unfold dstOf; rw [ho]; rfl
          rw [ha', ← hdst, Fr_put hok a u i v his] at *
          refine hK _ _ (ih _ (upd u i v) wy (by simp [hsz]) ?_ (hb.trans (hbe.mono hb.size)) ?_)
          · have := filter_lt (p := fun j => !listed.getD j true) (q := fun j => !(listed.setIfInBounds i true).getD j true) (l := List.range ops.size) (i := i) (fun j hj => ?_) (List.mem_range.2 his) (by simp only [hun]; rfl) (by simp [Array.getD, show i < listed.size by omega])
            · omega
            · by_cases hji : i = j
              · subst hji; simp only [hun]; rfl
              · rw [getD_set_ne true hji] at hj; exact hj
          · intro j hj
            unfold upd
            by_cases hji : j = i
            · rw [if_pos hji]; subst hji; exact hv
            · rw [if_neg hji]
              rw [getD_set_ne false (Ne.symm hji)] at hj
              exact hR _ _ _ _ hbe (hr j hj)
  have h0 := main ops.size (Array.replicate ops.size false) (own0 ops a) { w with drawn := w.drawn + 1 } (by simp) (Nat.le_trans (List.length_filter_le _ _) (by simp)) ((Below.refl _ w).drew) (fun j hj => by
    exfalso
    rcases Nat.lt_or_ge j ops.size with h | h
    · simp [Array.getD, h] at hj
    · simp [Array.getD, show ¬ j < ops.size by omega] at hj)
  rw [Fr_own] at h0
  exact h0
/-- The value is this. -/
def LV (x : Value) : Value → World → Prop := fun v _ => v = x
/-- The value is a slice of a new block that holds these cells. -/
def LB (n : Nat) (cs : Array Value) (T : TypeId) : Value → World → Prop := fun v w => ∃ x, v = .slice (some ⟨x, 0, none⟩) n n ∧ Blk w x cs T
/-- The value is a pointer to a new block that holds these cells. -/
def LP (cs : Array Value) (T : TypeId) : Value → World → Prop := fun v w => ∃ x, v = .pointer (some ⟨x, 0, none⟩) ∧ Blk w x cs T
/-- Nothing is said. -/
def LT : Value → World → Prop := fun _ _ => True
def LStable (r : Value → World → Prop) : Prop := ∀ v wx wy, Below wx.heap.size wx wy → r v wx → r v wy
theorem LV.st (x : Value) : LStable (LV x) := fun _ _ _ _ h => h
theorem LT.st : LStable LT := fun _ _ _ _ h => h
theorem LB.st (n : Nat) (cs : Array Value) (T : TypeId) : LStable (LB n cs T) := fun _ _ _ hb ⟨x, h1, h2⟩ => ⟨x, h1, Blk.below hb h2⟩
theorem LP.st (cs : Array Value) (T : TypeId) : LStable (LP cs T) := fun _ _ _ hb ⟨x, h1, h2⟩ => ⟨x, h1, Blk.below hb h2⟩
def LAll : List (Value → World → Prop) → Prop
  | [] => True
  | r :: l => LStable r ∧ LAll l
theorem LAll.nil : LAll [] := trivial
theorem LAll.cons {r : Value → World → Prop} {l : List (Value → World → Prop)} (h : LStable r) (hl : LAll l) : LAll (r :: l) := ⟨h, hl⟩
theorem LAll.at : ∀ {l : List (Value → World → Prop)}, LAll l → ∀ j, LStable (l.getD j LT)
  | [], _, _ => LT.st
  | _ :: _, h, 0 => h.1
  | _ :: _, h, j + 1 => LAll.at h.2 j
/-- What stands in the destination. -/
def outOf (d : Option Tmp) (a : Act) : Value := match d with
  | some d => a.tmps.getD d undef
  | none => undef
/-- One operation, with the frame spelt out. -/
def LinStepF (P : Program) (ops : Array Oper) (Q : Exit → Act → World → Prop) (RL : List (Value → World → Prop)) (F : (Nat → Value) → Act) (w : World) (r : Value → World → Prop) (o : Oper) : Prop :=
  ∀ (u : Nat → Value) (wx : World), Below w.heap.size w wx → Hid (∀ j, waits o j = true → RL.getD j LT (u j) wx) → ∀ K : Act → World → Prop, Hid (∀ wy a', a' = (F u).put o.dst (outOf o.dst a') → Below wx.heap.size wx wy → r (outOf o.dst a') wy → K a' wy) →
    if Region.wanted o (yielded ops (F u).tmps) = true then Oper.wp P o (F u) wx K Q else K ((F u).put o.dst undef) wx
def LinStepsF (P : Program) (ops : Array Oper) (Q : Exit → Act → World → Prop) (RL : List (Value → World → Prop)) (F : (Nat → Value) → Act) (w : World) : List Oper → List (Value → World → Prop) → Prop
  | [], _ => True
  | _ :: _, [] => False
  | o :: l, r :: rs => LinStepF P ops Q RL F w r o ∧ LinStepsF P ops Q RL F w l rs
theorem LinStepsF.nil {P : Program} {ops : Array Oper} {Q : Exit → Act → World → Prop} {RL : List (Value → World → Prop)} {F : (Nat → Value) → Act} {w : World} {rs : List (Value → World → Prop)} : LinStepsF P ops Q RL F w [] rs := by unfold LinStepsF; trivial
theorem LinStepsF.cons {P : Program} {ops : Array Oper} {Q : Exit → Act → World → Prop} {RL : List (Value → World → Prop)} {F : (Nat → Value) → Act} {w : World} {r : Value → World → Prop} {rs : List (Value → World → Prop)} {o : Oper} {l : List Oper} (h : LinStepF P ops Q RL F w r o) (hl : LinStepsF P ops Q RL F w l rs) : LinStepsF P ops Q RL F w (o :: l) (r :: rs) := ⟨h, hl⟩
theorem LinStepsF.to {P : Program} {ops : Array Oper} {Q : Exit → Act → World → Prop} {RL : List (Value → World → Prop)} {F : (Nat → Value) → Act} {a : Act} {w : World} (hF : ∀ u, Fr ops a u = F u) : ∀ {l : List Oper} {rs : List (Value → World → Prop)} {i : Nat}, (∀ k, k < rs.length → RL.getD (i + k) LT = rs.getD k LT) → LinStepsF P ops Q RL F w l rs → LinSteps P ops Q (fun j => RL.getD j LT) a w l i
  | [], _, _, _, _ => trivial
  | _ :: _, [], _, _, h => h.elim
  | o :: l, r :: rs, i, hr, h => ⟨fun u wx hb hd K hK => by
      have e : RL.getD i LT = r := hr 0 (by simp)
      rw [hF u] at hK ⊢
      have hK2 : ∀ v wy a', a' = (F u).put o.dst v → Below wx.heap.size wx wy → r v wy → K a' wy := fun v wy a' h1 h2 h3 => hK v wy a' h1 h2 (show RL.getD i LT v wy by rw [e]; exact h3)
      exact h.1 u wx hb (hide hd) K (hide fun wy a' h1 h2 h3 => hK2 _ wy a' h1 h2 h3), LinStepsF.to hF (fun k hk => by rw [show i + 1 + k = i + (k + 1) by omega]; exact hr (k + 1) (by simp; omega)) h.2⟩
theorem LB.mk {d : Option Tmp} {a : Act} {w : World} {cs : Array Value} {T : TypeId} {n : Nat} (h : outOf d a = .slice (some ⟨w.heap.size, 0, none⟩) n n) : LB n cs T (outOf d a) (w.alloc (.cells cs T)) := ⟨_, h, Blk.new _ _ _⟩
theorem LP.mk {d : Option Tmp} {a : Act} {w : World} {cs : Array Value} {T : TypeId} (h : outOf d a = .pointer (some ⟨w.heap.size, 0, none⟩)) : LP cs T (outOf d a) (w.alloc (.cells cs T)) := ⟨_, h, Blk.new _ _ _⟩
/-- The destinations put one behind the other. -/
def putsL (a : Act) (u : Nat → Value) : List Oper → Nat → Act
  | [], _ => a
  | o :: l, i => putsL (a.put o.dst (u i)) u l (i + 1)
theorem Fr_puts (ops : Array Oper) (a : Act) (u : Nat → Value) : Fr ops a u = putsL a u ops.toList 0 := by
  have key : ∀ (n k : Nat) (b : Act), k + n = ops.size → (List.range' k n).foldl (fun b i => b.put (dstOf ops i) (u i)) b = putsL b u (ops.toList.drop k) k := by
    intro n
    induction n with
    | zero =>
      intro k b h
      rw [List.drop_of_length_le (by rw [Array.length_toList]; omega)]
      rfl
    | succ n ih =>
      intro k b h
      have hk : k < ops.toList.length := by rw [Array.length_toList]; omega
      rw [List.range'_succ, List.foldl_cons, ih (k + 1) _ (by omega), List.drop_eq_getElem_cons hk]
      show _ = putsL (b.put (ops.toList[k]).dst (u k)) u (ops.toList.drop (k + 1)) (k + 1)
      have : dstOf ops k = (ops.toList[k]).dst := by
        unfold dstOf
        have h2 : k < ops.size := by omega
        rw [Array.getElem?_eq_getElem h2]
        rfl
      rw [this]
  have := key ops.size 0 a (by omega)
  unfold Fr
  rw [List.range_eq_range', this]
  rfl
theorem region_linF {P : Program} {ops : Array Oper} {Q : Exit → Act → World → Prop} {id : Nat} {a : Act} {w : World} {F : (Nat → Value) → Act} (RL : List (Value → World → Prop)) (hm : P.follows .mixedOrders = true) (hok : linOk ops = true)
    (h : (∀ u, putsL a u ops.toList 0 = F u) ∧ LAll RL ∧ LinStepsF P ops Q RL F w ops.toList RL ∧
      (∀ (u : Nat → Value) (wx : World), Below w.heap.size w wx → Hid (∀ j, j < ops.size → RL.getD j LT (u j) wx) → Q .normal (F u) wx)) :
    (Code.region id ops true).wp P Q a w := by
  obtain ⟨hF, hst, hs, he⟩ := h
  have hF2 : ∀ u, Fr ops a u = F u := fun u => (Fr_puts ops a u).trans (hF u)
  refine region_lin (fun j => RL.getD j LT) hm hok (fun j v wx wy hb hr => hst.at j v wx wy hb hr) (LinStepsF.to hF2 (fun k _ => by rw [Nat.zero_add]) hs) (fun u wx hb hall => ?_)
  rw [hF2 u]
  exact he u wx hb (hide hall)
/-! An operation's value meets its relation. -/
theorem lvC {p : Prop} (h : p := by (show LV _ _ _); unfold LV outOf; go_simp; exact rfl) : p := h
theorem lbC {p : Prop} (h : p := by (show LB _ _ _ _ _); refine ⟨wx.heap.size, ?_, ?_⟩; rotate_left; exact Blk.new _ _ _; unfold outOf; go_simp) : p := h
end Go.Proofs.YtjbhokmkmapkoaaGreatDoor
namespace Go.Proofs.YtjbhokmkmapkoaaGreatDoor
set_option linter.unusedSimpArgs false
set_option linter.unusedVariables false
open Go.RowKit
open Go.PlainAid (bt get_bt bt_nonneg bt_le bt_end)
theorem sz_cases (k : Nat) : ∃ m, fSz k = 2 * m ∧ m ≤ 64 := by
  match k with
  | 0 => exact ⟨16, rfl, by omega⟩
  | _ + 1 => exact ⟨64, rfl, by omega⟩
/-- One field is asked. -/
theorem alw_call (d : DR) (hsh : ShortD d) (k : Nat) (hk : k < 5) (W : World) (hT : TabD W) : Calls Tryz.prog 48 #[.string (fTx d k), .agg #[.int .i64 (fAt k), .int .i64 (fSz k), .bool (fSt k)], .bool (wide d)] W fun e w' => e = .returned (.bool (fok d k)) ∧ Below W.heap.size W w' := by
  obtain ⟨m, hm, hm2⟩ := sz_cases k
  have := hsh.1 k hk
  exact allowed_any (fTx d k) (fAt k) (fSz k) m (by omega) (wide d) (fSt k) hm (by omega) W hT.1
end Go.Proofs.YtjbhokmkmapkoaaGreatDoor
