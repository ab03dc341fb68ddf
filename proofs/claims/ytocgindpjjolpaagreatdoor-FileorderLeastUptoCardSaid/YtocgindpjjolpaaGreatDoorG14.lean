/- Contracts and plain words for the laws of this chapter, part 14: Rg, Fb, Rv, Rw, Ro, Rp. No condition. -/
import Derived.RangeFuncNested
import Derived.RangeFuncCalls
import Derived.RangeFuncLeaves
import Derived.Test.YtocgindpjjolpaaGreatDoorG13
import Derived.Shelf.Slices.Clone
import Derived.Test.YtocgindpjjolpaaGreatDoorG0
import Derived.RangeFuncBound
import Derived.Shelf.Abstract
import Derived.Shelf.RegionOpen
import Derived.OwnWalkIn
import Derived.TacticsInMore
import Derived.LoopNIn
import Derived.LoopIn
import Derived.Maps.AppendAt
import Derived.Sort.OwnSorted
namespace Go.Proofs.YtocgindpjjolpaaGreatDoor
set_option linter.unusedSimpArgs false
set_option linter.unusedVariables false
open Go.RowKit
theorem FrO.alloc (O : Nat → Prop) (w : World) (o : Obj) : FrO O w (w.alloc o) := FrO.of ((Below.refl _ _).alloc (Nat.le_refl _) _)
theorem FrO.put {O : Nat → Prop} {w : World} {l : Nat} {o : Obj} (h : O l) : FrO O w (w.putObj l o) := ⟨rfl, rfl, rfl, by rw [World.putObj_size]; exact Nat.le_refl _, fun j _ hn => World.putObj_heap_other (fun e => hn (e ▸ h))⟩
theorem FrO.imp {O O' : Nat → Prop} {w w' : World} (h : FrO O w w') (hO : ∀ j, O j → O' j) : FrO O' w w' := ⟨h.os, h.tape, h.output, h.size, fun j hj hn => h.block j hj fun h2 => hn (hO j h2)⟩
def Feeds {α : Type} (P : Program) (g : Nat) (lb : Array Value) (rd : Nat → α → Value → World → Prop) (R : Nat → Nat → Prop) (St : Nat → World → World → Prop) (xs : List α) (w : World) : Prop :=
  ∀ (l : Nat) (J Jx : List α → World → Prop) (W : World), Below w.heap.size w W → l < W.heap.size →
    (∀ pre A B, J pre A → St W.heap.size A B → J pre B) →
    (∀ pre x suf v A, xs = pre ++ x :: suf → J pre A → rd W.heap.size x v A → ∀ m, YieldAt Fence.wide m P l #[v] A fun e B => (e = .returned (.bool true) ∧ J (pre ++ [x]) B ∧ FrO (R W.heap.size) A B) ∨ (e = .returned (.bool false) ∧ Jx (pre ++ [x]) B ∧ FrO (R W.heap.size) A B)) →
    J [] W → Calls P g (#[.func (.yield l) #[] #[]] ++ lb) W fun e B => (∃ v, e = .returned v) ∧ (J xs B ∨ ∃ pre, Jx pre B)
def fdPost {α : Type} (Rb : Nat → Prop) (I Ix : List α → World → Prop) (xs : List α) (W : World) : Exit → Act → World → Prop
  | .normal, _, B => I xs B ∧ FrO Rb W B
  | .ret, _, B => Ix xs B ∧ FrO Rb W B
  | _, _, _ => False
theorem wp_feed {α : Type} {P : Program} {g : Operand} {p : Tmp} {assign body : Code} {Q : Exit → Act → World → Prop} {a : Act} {w : World} {n : Nat} {gf : Nat} {lb : Array Value} (hg : a.eval g = .func (.func gf) #[] lb)
    (eg : ∀ args w, (callFunc gf args).run P w = .ok (.enter gf args) w) {rd : Nat → α → Value → World → Prop} {R : Nat → Nat → Prop} {St : Nat → World → World → Prop} {xs : List α} {w0 : World} (hf : Feeds P gf lb rd R St xs w0) (hb0 : Below w0.heap.size w0 w)
    (I Ix : List α → World → Prop) (Rb : Nat → Prop) (h0 : I [] w)
    (hI : ∀ pre A B, I pre A → FrO (fun j => j = w.heap.size ∨ j = w.heap.size + 1) A B → I pre B) (hIx : ∀ pre A B, Ix pre A → FrO (fun j => j = w.heap.size ∨ j = w.heap.size + 1) A B → Ix pre B)
    (hSt : ∀ pre A B, I pre A → w.heap.size + 2 ≤ A.heap.size → St (w.heap.size + 2) A B → I pre B)
    (hSk : ∀ A B, w.heap.size + 2 ≤ A.heap.size → St (w.heap.size + 2) A B → w.heap.size + 2 ≤ B.heap.size ∧ ∀ j, j < w.heap.size + 2 → B.heap[j]? = A.heap[j]?)
    (hR1 : R (w.heap.size + 2) (w.heap.size + 1)) (hRb : ∀ j, Rb j → R (w.heap.size + 2) j ∧ j ≠ w.heap.size ∧ j ≠ w.heap.size + 1)
    (hrd : ∀ x v A B, rd (w.heap.size + 2) x v A → FrO (fun j => j = w.heap.size ∨ j = w.heap.size + 1) A B → rd (w.heap.size + 2) x v B)
    (a₁ : Value → Act) (hassign : ∀ m v W (K : Act → World → Prop), K (a₁ v) W → assign.wpIn (Fence.wide.inRound (w.heap.size + 1)) m P (Exit.then K (fun _ _ _ => False)) { tmps := a.tmps.setIfInBounds p v, defers := [] } W)
    (hbody : ∀ m pre x suf v W, xs = pre ++ x :: suf → I pre W → rd (w.heap.size + 2) x v W → Below w0.heap.size w0 w → w.heap.size + 2 ≤ W.heap.size → body.wpIn (Fence.wide.inRound (w.heap.size + 1)) m P (fdPost Rb I Ix (pre ++ [x]) W) (a₁ v) W)
    (hdone : ∀ W, I xs W → W.heap[w.heap.size]? = some (.deferred (some [])) → Q .normal { a with defers := { target := .collected w.heap.size, args := #[] } :: a.defers } W)
    (hstop : ∀ pre W, Ix pre W → W.heap[w.heap.size]? = some (.deferred (some [])) → Code.ret.wpIn Fence.wide n P Q { a with defers := { target := .collected w.heap.size, args := #[] } :: a.defers } W) :
    (Code.rangeFunc g #[p] assign body).wpIn Fence.wide n P Q a w := by
  refine wpIn_rangeFunc ?_
  intro fn hfn
  obtain ⟨rec, hrec⟩ : ∃ rec : LoopState → Option Code → Loop, rec = fun st pe => { state := st, pending := pe, fn, tmps := a.tmps, params := #[p], assign, body, defers := w.heap.size } := ⟨_, rfl⟩
  obtain ⟨W1, hW1⟩ : ∃ W1, (w.alloc (.deferred (some []))).alloc (.loop (rec .ready none)) = W1 := ⟨_, rfl⟩
  have hs1 : W1.heap.size = w.heap.size + 2 := by rw [← hW1]; simp
  have hL1 : W1.heap[w.heap.size + 1]? = some (.loop (rec .ready none)) := by
    rw [← hW1]; have := World.alloc_heap_new (w.alloc (.deferred (some []))) (.loop (rec .ready none)); rwa [World.size_alloc] at this
  have hK1 : W1.heap[w.heap.size]? = some (.deferred (some [])) := by
    rw [← hW1]; exact (Below.heap_alloc _ _ _ (by simp)).trans (World.alloc_heap_new w _)
  have hI1 : I [] W1 := by rw [← hW1]; exact hI _ _ _ (hI _ _ _ h0 (FrO.alloc _ _ _)) (FrO.alloc _ _ _)
  have hb1 : Below w0.heap.size w0 W1 := by
    rw [← hW1]; exact hb0.trans ((((Below.refl _ w).alloc (Nat.le_refl _) _).alloc (by simp) _).mono hb0.size)
  refine ⟨w.heap.size + 1, [{ target := .collected w.heap.size, args := #[] }], W1, { target := .fn (.func gf) lb, args := #[.func (.yield (w.heap.size + 1)) #[] #[]] }, W1, gf,
    #[.func (.yield (w.heap.size + 1)) #[] #[]] ++ lb, W1, ?_, ?_, ?_, ?_, (by intro h; cases h), ?_⟩
  · rw [← hW1, hrec]; exact run_enterLoop_outer _ _ _ _ _
  · simp only [resolve, hg]
    simp [go_sem]
  · intro f' hf'; trivial
  · simp [invoke, go_sem, eg]
  · have hFD : ∀ {A B : World} (o o' : Obj), FrO (fun j => j = w.heap.size ∨ j = w.heap.size + 1) A (A.putObj (w.heap.size + 1) o) := fun o o' => FrO.put (Or.inr rfl)
    refine callsIn_wide.2 ((hf (w.heap.size + 1)
      (fun pre W => I pre W ∧ W.heap[w.heap.size + 1]? = some (.loop (rec .ready none)) ∧ W.heap[w.heap.size]? = some (.deferred (some [])) ∧ w.heap.size + 2 ≤ W.heap.size)
      (fun pre W => Ix pre W ∧ W.heap[w.heap.size + 1]? = some (.loop (rec .done (some .ret))) ∧ W.heap[w.heap.size]? = some (.deferred (some [])))
      W1 hb1 (by omega) ?_ ?_ ⟨hI1, hL1, hK1, by omega⟩).mono ?_)
    · rintro pre A B ⟨h1, h2, h3, h4⟩ hst
      rw [hs1] at hst
      obtain ⟨k1, k2⟩ := hSk A B h4 hst
      exact ⟨hSt pre A B h1 h4 hst, (k2 _ (by omega)).trans h2, (k2 _ (by omega)).trans h3, k1⟩
    · rintro pre x suf v A hxs ⟨hi, hl, hk, hsz⟩ hx m
      rw [hs1] at hx ⊢
      have hy : (Instr.yield (w.heap.size + 1) #[v]).run P A = .ok (.round (w.heap.size + 1) fn (a.tmps.setIfInBounds p v) assign body) A := by
        have h := run_yield (P := P) (args := #[v]) hl (by rw [hrec]; rfl)
        rw [hrec] at h
        simpa using h
      refine ⟨fn, _, assign, body, hy, roundIn_of_wpIn hfn (hassign m v A _ ?_)⟩
      clear hy
      refine ⟨_, run_beginRound hl (by rw [hrec]), ?_⟩
      have hlt : w.heap.size + 1 < A.heap.size := by omega
      have hl2 : (A.putObj (w.heap.size + 1) (.loop { rec .ready none with state := .busy })).heap[w.heap.size + 1]? = some (.loop { rec .ready none with state := .busy }) := World.putObj_heap_same hlt
      have hk2 : (A.putObj (w.heap.size + 1) (.loop { rec .ready none with state := .busy })).heap[w.heap.size]? = some (.deferred (some [])) := (World.putObj_heap_other (by omega)).trans hk
      have hf2 : FrO (fun j => j = w.heap.size ∨ j = w.heap.size + 1) A (A.putObj (w.heap.size + 1) (.loop { rec .ready none with state := .busy })) := FrO.put (Or.inr rfl)
      have hf2R : FrO (R (w.heap.size + 2)) A (A.putObj (w.heap.size + 1) (.loop { rec .ready none with state := .busy })) := FrO.put hR1
      have hz2 : w.heap.size + 2 ≤ (A.putObj (w.heap.size + 1) (.loop { rec .ready none with state := .busy })).heap.size := by rw [World.putObj_size]; exact hsz
      refine wpIn_mono (hbody m pre x suf v _ hxs (hI _ _ _ hi hf2) (hrd _ _ _ _ hx hf2) hb0 hz2) ?_
      rintro e a3 W3 hp
      have fin : ∀ (jump : Option Code), FrO Rb (A.putObj (w.heap.size + 1) (.loop { rec .ready none with state := .busy })) W3 →
          (Instr.endRound (w.heap.size + 1) jump).run P W3 = .ok (.bool jump.isNone) (W3.putObj (w.heap.size + 1) (.loop (rec (if jump.isNone then .ready else .done) jump))) ∧
          (W3.putObj (w.heap.size + 1) (.loop (rec (if jump.isNone then .ready else .done) jump))).heap[w.heap.size + 1]? = some (.loop (rec (if jump.isNone then .ready else .done) jump)) ∧
          (W3.putObj (w.heap.size + 1) (.loop (rec (if jump.isNone then .ready else .done) jump))).heap[w.heap.size]? = some (.deferred (some [])) ∧ w.heap.size + 2 ≤ W3.heap.size := fun jump hk3 => by
        have hl3 := (hk3.block (w.heap.size + 1) (by omega) (fun h => (hRb _ h).2.2 rfl)).trans hl2
        have hd3 := (hk3.block w.heap.size (by omega) (fun h => (hRb _ h).2.1 rfl)).trans hk2
        have hz3 := Nat.le_trans hz2 hk3.size
        have := run_endRound (P := P) jump hl3
        rw [hrec] at this ⊢
        exact ⟨this, World.putObj_heap_same (by omega), (World.putObj_heap_other (by omega)).trans hd3, hz3⟩
      cases e with
      | normal =>
        obtain ⟨hi3, hf3⟩ := hp
        obtain ⟨hr, hl4, hk4, hz4⟩ := fin none hf3
        refine ⟨_, _, hr, .inl ⟨rfl, ⟨hI _ _ _ hi3 (FrO.put (Or.inr rfl)), hl4, hk4, by rw [World.putObj_size]; exact hz4⟩, ?_⟩⟩
        exact (hf2R.trans (hf3.imp fun j h => (hRb j h).1) (fun j h => Or.inl h)).trans (FrO.put (O := R (w.heap.size + 2)) hR1) (fun j h => Or.inl h)
      | ret =>
        obtain ⟨hi3, hf3⟩ := hp
        obtain ⟨hr, hl4, hk4, hz4⟩ := fin (some .ret) hf3
        exact ⟨_, _, hr, .inr ⟨rfl, ⟨hIx _ _ _ hi3 (FrO.put (Or.inr rfl)), hl4, hk4⟩, (hf2R.trans (hf3.imp fun j h => (hRb j h).1) (fun j h => Or.inl h)).trans (FrO.put (O := R (w.heap.size + 2)) hR1) (fun j h => Or.inl h)⟩⟩
      | exit id => exact hp.elim
      | goto t => exact hp.elim
      | panic ch => exact hp.elim
      | outgrown => exact hp.elim
    · rintro e W2 ⟨⟨v, rfl⟩, (⟨hi, hl, hk, -⟩ | ⟨pre, hi, hl, hk⟩)⟩
      · exact ⟨none, _, by have := run_endLoop (P := P) hl (by rw [hrec]; simp); rw [hrec] at this; exact this, hdone _ (hI _ _ _ hi (FrO.put (Or.inr rfl))) ((World.putObj_heap_other (by omega)).trans hk)⟩
      · exact ⟨some .ret, _, by have := run_endLoop (P := P) hl (by rw [hrec]; simp); rw [hrec] at this; exact this, hstop pre _ (hIx _ _ _ hi (FrO.put (Or.inr rfl))) ((World.putObj_heap_other (by omega)).trans hk)⟩
end Go.Proofs.YtocgindpjjolpaaGreatDoor
namespace Go.Proofs.YtocgindpjjolpaaGreatDoor
set_option linter.unusedSimpArgs false
set_option linter.unusedVariables false
open Go.RowKit Go.Lib
theorem own_cap {w : World} {B : Nat} {T : TypeId} {v : Value} {n k : Nat} {xs : List Value} (h : w.ownsRow B T k v n xs) (A : Option Addr) (c : Nat) (e : v = .slice A n c) : n ≤ c := by
  rcases h.2 with ⟨rfl, rfl⟩ | ⟨g, cap, cur, rfl, _, _, hnc, _⟩
  · exact Nat.zero_le _
  · injection e with _ _ e3
    omega
theorem run_append_none {P : Program} (w : World) (t ty e : TypeId) (i : TypeInfo) (ht : P.underlying t = some (.slice e)) (hi : P.info? e = some i) (B : Option Addr) (n cap : Nat) (hle : n ≤ cap) (A : Option Addr) (c : Nat) : (Builtin.append_ #[t, t] ty #[.slice B n cap, .slice A 0 c]).run P w = .ok (.slice B n cap) w := by
  cases B <;> cases A <;> simp [Builtin.append_, run_underlying ht, sizeOf, typeInfo, hi, Builtin.lenOf, Builtin.firstCells, loadCells, loadCellsFrom, hle, storeCells]
theorem wp_append_opt {P : Program} (w : World) {o : Oper} {a : Act} {K : Act → World → Prop} {Q : Exit → Act → World → Prop} (s x : Operand) (t : TypeId)
    (ho : o.op = .call { callee := .builtin .append, args := #[s, x], argTypes := #[t, t] })
    (base : Nat) (e : TypeId) {z : Value} {size bytes : Nat} (hinfo : (P.info? e).map (fun i => (i.zero, i.size, i.bytes)) = some (some z, size, bytes)) (ht : P.underlying t = some (.slice e))
    (hzs : z.cells.size = size) (hsz : 0 < size)
    (v : Value) (n : Nat) (xs : List Value) (hown : w.ownsRow base e size v n xs) (A : Option Addr) (m c : Nat) (news : List Value)
    (hs : a.eval s = v) (hx : a.eval x = .slice A m c) (hl : news.length = m * size) (hA : 0 < m → ∃ ad, A = some ad ∧ ∀ j u, news[j]? = some u → w.cell? (ad.add j) = some u) (h1 : ∀ u ∈ news, u.oneCell' = true)
    (h63 : n + m ≤ maxLen) (hbytes : ((n + m) + (n + m) / 4 + 192) * bytes ≤ 281474976710656) (hbase : base ≤ w.heap.size)
    (h : ∀ v' w', w'.ownsRow base e size v' (n + m) (xs ++ news) → (v'.ownBlock = v.ownBlock ∨ v'.ownBlock = some w.heap.size) → w.grownBy w' v.ownBlock → K (a.put o.dst v') w') : o.wp P a w K Q := by
  rcases Nat.eq_zero_or_pos m with h0 | h0
  · subst h0
    obtain rfl : news = [] := List.length_eq_zero_iff.1 (by simpa using hl)
    obtain ⟨B, cap, rfl⟩ := own_slice hown
    have hle := own_cap hown B cap rfl
    obtain ⟨i, hi, hz0, hz1, hz2⟩ := info_parts hinfo
    have hr := run_append_none (P := P) w t o.type e i ht hi B n cap hle A c
    unfold Oper.wp execOp
    simp only [ho, resolve, invoke, builtin, Sem.run_bind, Sem.run_pure, Result.andThen_ok, List.map_toArray, List.map_cons, List.map_nil, hs, hx, hr]
    exact h _ w (by simpa using hown) (Or.inl rfl) (World.grownBy.refl _ _)
  · obtain ⟨ad, rfl, hnews⟩ := hA h0
    exact wp_append_rows w s x t ho base e hinfo ht hzs hsz v n xs hown ad m c news hs hx hl hnews h1 h63 hbytes hbase h
theorem wpList_append_opt {P : Program} (w : World) {ops : Array Oper} {rest : List Oper} {o : Oper} {a : Act} {Q : Exit → Act → World → Prop} (hgd : o.guard = none) (s x : Operand) (t : TypeId)
    (ho : o.op = .call { callee := .builtin .append, args := #[s, x], argTypes := #[t, t] })
    (base : Nat) (e : TypeId) {z : Value} {size bytes : Nat} (hinfo : (P.info? e).map (fun i => (i.zero, i.size, i.bytes)) = some (some z, size, bytes)) (ht : P.underlying t = some (.slice e))
    (hzs : z.cells.size = size) (hsz : 0 < size)
    (v : Value) (n : Nat) (xs : List Value) (hown : w.ownsRow base e size v n xs) (A : Option Addr) (m c : Nat) (news : List Value)
    (hs : a.eval s = v) (hx : a.eval x = .slice A m c) (hl : news.length = m * size) (hA : 0 < m → ∃ ad, A = some ad ∧ ∀ j u, news[j]? = some u → w.cell? (ad.add j) = some u) (h1 : ∀ u ∈ news, u.oneCell' = true)
    (h63 : n + m ≤ maxLen) (hbytes : ((n + m) + (n + m) / 4 + 192) * bytes ≤ 281474976710656) (hbase : base ≤ w.heap.size)
    (h : ∀ v' w', w'.ownsRow base e size v' (n + m) (xs ++ news) → (v'.ownBlock = v.ownBlock ∨ v'.ownBlock = some w.heap.size) → w.grownBy w' v.ownBlock → wpList P ops Q rest (a.put o.dst v') w') : wpList P ops Q (o :: rest) a w :=
  wpList_plain hgd fun _ hK => wp_append_opt w s x t ho base e hinfo ht hzs hsz v n xs hown A m c news hs hx hl hA h1 h63 hbytes hbase fun v' w' h2 h3 h4 => hK _ _ (h v' w' h2 h3 h4)
theorem step_append_opt {P : Program} (w : World) {ops : Array Oper} {o : Oper} {a : Act} {K : Act → World → Prop} {Q : Exit → Act → World → Prop} {E : Prop} (hgd : o.guard = none) (s x : Operand) (t : TypeId)
    (ho : o.op = .call { callee := .builtin .append, args := #[s, x], argTypes := #[t, t] })
    (base : Nat) (e : TypeId) {z : Value} {size bytes : Nat} (hinfo : (P.info? e).map (fun i => (i.zero, i.size, i.bytes)) = some (some z, size, bytes)) (ht : P.underlying t = some (.slice e))
    (hzs : z.cells.size = size) (hsz : 0 < size)
    (v : Value) (n : Nat) (xs : List Value) (hown : w.ownsRow base e size v n xs) (A : Option Addr) (m c : Nat) (news : List Value)
    (hs : a.eval s = v) (hx : a.eval x = .slice A m c) (hl : news.length = m * size) (hA : 0 < m → ∃ ad, A = some ad ∧ ∀ j u, news[j]? = some u → w.cell? (ad.add j) = some u) (h1 : ∀ u ∈ news, u.oneCell' = true)
    (h63 : n + m ≤ maxLen) (hbytes : ((n + m) + (n + m) / 4 + 192) * bytes ≤ 281474976710656) (hbase : base ≤ w.heap.size)
    (h : ∀ v' w', w'.ownsRow base e size v' (n + m) (xs ++ news) → (v'.ownBlock = v.ownBlock ∨ v'.ownBlock = some w.heap.size) → w.grownBy w' v.ownBlock → K (a.put o.dst v') w') :
    if Region.wanted o (yielded ops a.tmps) = true then Oper.wp P o a w K Q else E := by
  have hw : Region.wanted o (yielded ops a.tmps) = true := by simp [Region.wanted, hgd]
  rw [if_pos hw]
  exact wp_append_opt w s x t ho base e hinfo ht hzs hsz v n xs hown A m c news hs hx hl hA h1 h63 hbytes hbase h
theorem SlR.cellsD {w : World} {B g o : Nat} {l : List ByteArray} (h : ∀ j s, l[j]? = some s → w.cell? ⟨g, o + j, none⟩ = some (.string s)) : ∀ j, j < l.length → w.cell? ⟨g, o + j, none⟩ = some (.string (l.getD j ByteArray.empty)) := fun j hj => by
  rw [h j (l[j]) (List.getElem?_eq_getElem hj)]
  congr 2
  simp [List.getD, List.getElem?_eq_getElem hj]
theorem hasS_contains (l : List ByteArray) (s : ByteArray) : Lib.containsS l s = hasS l s := by
  rw [Bool.eq_iff_iff, Lib.containsS_iff, hasS_iff]
theorem contains_any (L : List ByteArray) (s : ByteArray) (v : Value) (B : Nat) (hL : L.length ≤ 100000) (w : World) (hv : SlR w B v L) : Calls Tryz.prog 32 #[v, .string s] w fun e w' => e = .returned (.bool (hasS L s)) ∧ w = w' := by
  obtain ⟨A, c, rfl, h⟩ := hv
  rcases Nat.eq_zero_or_pos L.length with h0 | h0
  · rw [h0]
    have e : hasS L s = false := by rw [List.length_eq_zero_iff.1 h0]; rfl
    rw [e]
    exact (Any.slices_Contains_string_empty Tryz.lays110 A c s w).mono fun e w' ⟨h1, h2⟩ => ⟨h1, h2.symm⟩
  · obtain ⟨g, o, rfl, -, hc⟩ := h h0
    refine (Any.slices_Contains_string Tryz.lays110 g o L.length c L s w (Nat.le_refl _) (by omega) (SlR.cellsD (B := 0) hc)).mono fun e w' ⟨h1, h2⟩ => ⟨?_, h2.symm⟩
    rw [h1, List.take_length, hasS_contains]
theorem cloneS_any (L : List ByteArray) (v : Value) (B : Nat) (hL : L.length ≤ 100000) (w : World) (hv : SlR w B v L) : Calls Tryz.prog 38 #[v] w fun e w' => ∃ r, e = .returned r ∧ StrsR w' w.heap.size r L ∧ Below w.heap.size w w' := by
  obtain ⟨A, c, rfl, h⟩ := hv
  rcases Nat.eq_zero_or_pos L.length with h0 | h0
  · obtain rfl := List.length_eq_zero_iff.1 h0
    cases A with
    | none => exact (Any.slices_Clone_string_nil Tryz.laysNm216 0 c w).mono fun e w' ⟨h1, h2⟩ => ⟨_, h1, by subst h2; exact World.ownsRow_nil _ _ _ _, by subst h2; exact Below.refl _ _⟩
    | some a => exact (Any.slices_Clone_string_zero Tryz.laysNm216 a c w).mono fun e w' ⟨r, h1, h2, _, h4⟩ => ⟨r, h1, h2, h4⟩
  · obtain ⟨g, o, rfl, -, hc⟩ := h h0
    refine (Any.slices_Clone_string Tryz.laysNm216 g o L.length c L w (Nat.le_refl _) (by omega) (SlR.cellsD (B := 0) hc)).mono fun e w' ⟨r, h1, h2, _, h4⟩ => ⟨r, h1, ?_, h4⟩
    rw [List.take_length] at h2
    exact h2
end Go.Proofs.YtocgindpjjolpaaGreatDoor
namespace Go.Proofs.YtocgindpjjolpaaGreatDoor
set_option linter.unusedSimpArgs false
set_option linter.unusedVariables false
open Go.RowKit Go.Shelf
attribute [local go_sem] Oper.semAt_some
set_option maxHeartbeats 1000000 in
theorem values_any (a : Option Addr) (n c : Nat) (w : World) : Calls Tryz.prog 43 #[.slice a n c] w fun e w' => e = .returned (.func (.func 72) #[] #[.pointer (some ⟨w.heap.size, 0, none⟩)]) ∧ w' = w.alloc (.cells #[.slice a n c] 26) := by
  have HL : Live w [] := trivial
  go_enter Tryz.func43, Tryz.ntmps43
  go_wp2
  go_ret
  exact ⟨rfl, rfl⟩
set_option maxRecDepth 100000 in
set_option maxHeartbeats 2000000 in
theorem values_feed (L : List ByteArray) (hL : L.length ≤ 100000) (Bs n1 : Nat) (sv : Value) (w : World) (hBs : Bs < n1) (hn : n1 ≤ w.heap.size) (hc : w.cell? ⟨Bs, 0, none⟩ = some sv) (hs : SlR w n1 sv L) :
    Feeds Tryz.prog 72 #[.pointer (some ⟨Bs, 0, none⟩)] (fun _ x v _ => v = .string x) (fun _ j => n1 ≤ j) (fun _ A B => Below A.heap.size A B) L w := by
  intro l J Jx W hW hlW hJ hY h0
  have hcW := (hW.cell (p := ⟨Bs, 0, none⟩) (show Bs < w.heap.size by omega)).trans hc
  obtain ⟨A, c, rfl, hs2⟩ := (hs.below (hW.mono hn))
  have HS := hide hs2
  have HY := hide hY
  have HJ := hide hJ
  clear hs hs2 hY hJ hc
  refine (callsIn_wide (n := 1)).1 ?_
  refine callsIn_of_wp Tryz.func72 rfl trivial ?_ rfl
  simp only [Tryz.ntmps72, List.size_toArray, List.length_cons, List.length_nil, Nat.reduceAdd, Nat.reduceSub, Array.replicate_succ, Array.replicate_zero, List.push_toArray, List.append_toArray, List.nil_append, List.cons_append]
  gi_wp2
  gi_loopw [7] (fun i wr => ∃ k : Nat, k ≤ L.length ∧ i = .int .i64 k ∧ J (L.take k) wr ∧ FrO (fun j => n1 ≤ j) W wr)
    (fun i _ => L.length - (intOf i).toNat)
  case atStart => exact ⟨0, Nat.zero_le _, rfl, h0, FrO.of (Below.refl _ _)⟩
  case round =>
    obtain ⟨k, hk, rfl, hJs, hnx⟩ := hrel
    by_cases hlt : k < L.length
    · obtain ⟨x, hx⟩ : ∃ x, L[k]? = some x := ⟨L[k], List.getElem?_eq_getElem hlt⟩
      obtain ⟨g, o, rfl, hg, hcl⟩ := HS.out (by omega)
      have hcx : wr.cell? ⟨g, o + k, none⟩ = some (.string x) := (World.cell?_of_block (hnx.block g (by have := hW.size; omega) (by omega))).trans (hcl k x hx)
      have hsplit : L = L.take k ++ x :: L.drop (k + 1) := by
        conv => lhs; rw [← List.take_append_drop k L]
        congr 1
        rw [List.drop_eq_getElem_cons hlt]
        rw [List.getElem?_eq_getElem hlt] at hx
        injection hx with hx
        rw [hx]
      have hnext : L.take (k + 1) = L.take k ++ [x] := by rw [List.take_add_one, hx]; rfl
      have HNX := hide hnext
      obtain ⟨fn, tmps, assign, body, hy, hR⟩ := HY.out (L.take k) x (L.drop (k + 1)) (.string x) wr hsplit hJs rfl 0
      clear hsplit hnext hx hcl
      gi_wp2
      refine hR.mono ?_
      rintro e W3 (⟨rfl, hJ3, hk3⟩ | ⟨rfl, hJx3, -⟩)
      · gi_wp2
        go_roundw
        case rel => exact ⟨k + 1, by omega, by simp, by rw [HNX.out]; exact hJ3, hnx.trans hk3 (fun j h => Or.inl h)⟩
        case measure => simp [intOf]; omega
      · gi_wp2
        refine bodyPost_ret (results_none rfl _ _ _) rfl ?_
        exact ⟨⟨_, rfl⟩, .inr ⟨_, hJx3⟩⟩
    · obtain rfl : k = L.length := by omega
      have hJs2 : J L wr := by rw [List.take_length] at hJs; exact hJs
      clear hJs
      gi_wp2
      go_end0
      exact ⟨⟨_, rfl⟩, .inl hJs2⟩
attribute [local go_sem] Oper.semAt_some
theorem own_frO {O : Nat → Prop} {w w' : World} {B : Nat} {T : TypeId} {v : Value} {n k : Nat} {xs : List Value} (h : w.ownsRow B T k v n xs) (hf : FrO O w w') (ho : ∀ j, v.ownBlock = some j → ¬ O j) : w'.ownsRow B T k v n xs := by
  refine ⟨h.1, ?_⟩
  rcases h.2 with h2 | ⟨g', cap, cur, rfl, hg, hh, r⟩
  · exact Or.inl h2
  · exact Or.inr ⟨g', cap, cur, rfl, hg, (hf.block g' (h.lt g' rfl).2 (ho g' rfl)).trans hh, r⟩
theorem FrO.grown2 {O : Nat → Prop} {w w' w2 : World} {row : Option Nat} (h : FrO O w w') (hg : w'.grownBy w2 row) (ho : ∀ j, row = some j → O j ∨ w.heap.size ≤ j) : FrO O w w2 := by
  refine ⟨hg.os.trans h.os, hg.tape.trans h.tape, hg.output.trans h.output, Nat.le_trans h.size hg.size, fun j hj hn => (hg.block j (Nat.lt_of_lt_of_le hj h.size) (fun e => ?_)).trans (h.block j hj hn)⟩
  rcases ho j e.symm with h2 | h2
  · exact hn h2
  · omega
set_option maxRecDepth 100000 in
set_option maxHeartbeats 4000000 in
theorem appendSeq_any (L : List ByteArray) (hL : L.length ≤ 100000) (g : Nat) (lb : Array Value) (eg : ∀ args w, (callFunc g args).run Tryz.prog w = .ok (.enter g args) w) (n1 : Nat) (w : World) (hn : n1 ≤ w.heap.size)
    (hf : Feeds Tryz.prog g lb (fun _ x v _ => v = .string x) (fun _ j => n1 ≤ j) (fun _ A B => Below A.heap.size A B) L w) :
    Calls Tryz.prog 103 #[.slice none 0 0, .func (.func g) #[] lb] w fun e w' => ∃ r, e = .returned r ∧ StrsR w' w.heap.size r L ∧ Below w.heap.size w w' := by
  obtain ⟨i0, hi, hz0, hz1, hz2⟩ := info_parts strInfo
  have HF := hide hf
  have HEG := hide eg
  clear hf eg
  refine (callsIn_wide (n := 1)).1 ?_
  refine callsIn_of_wp_marks Tryz.func103 rfl trivial ?_ rfl
  simp only [Tryz.ntmps103, List.size_toArray, List.length_cons, List.length_nil, Nat.reduceAdd, Nat.reduceSub, Array.replicate_succ, Array.replicate_zero, List.push_toArray, List.append_toArray, List.nil_append, List.cons_append]
  gi_wp2
  have hbel1 : Below w.heap.size w (w.alloc (.cells #[.slice none 0 0] 26)) := (Below.refl _ _).alloc (Nat.le_refl _) _
  have HB1 := hide (show Blk (w.alloc (.cells #[.slice none 0 0] 26)) w.heap.size #[.slice none 0 0] 26 from Blk.newAt rfl)
  have hs1 : (w.alloc (.cells #[.slice none 0 0] 26)).heap.size = w.heap.size + 1 := World.size_alloc _ _
  generalize w.alloc (.cells #[.slice none 0 0] 26) = W1 at *
  obtain ⟨b, hb⟩ : ∃ b, w.heap.size = b := ⟨_, rfl⟩
  rw [hb] at HB1 hs1 ⊢
  refine wp_feed rfl HEG.out HF.out hbel1
    (fun pre W => (∃ v, Blk W b #[v] 26 ∧ W.ownsRow (b + 3) 9 1 v pre.length (strV pre)) ∧ Below w.heap.size w W) (fun _ _ => False) (fun j => j = b ∨ b + 3 ≤ j) ⟨⟨_, HB1.out, World.ownsRow_nil _ _ _ _⟩, hbel1⟩
    ?hI (fun _ _ _ h _ => h) ?hSt ?hSk ?hR1 ?hRb (fun _ _ _ _ h _ => h)
    (fun v => { tmps := #[.slice none 0 0, .func (.func g) #[] lb, .pointer (some ⟨b, 0, none⟩), undef, .slice none 0 0, v, .func (.func g) #[] lb, v, undef, undef, undef, undef, undef], defers := [] }) ?assign ?body ?done ?stop
  case hI =>
    rintro pre A B ⟨⟨v, h1, h2⟩, h3⟩ hf
    rw [hs1] at hf
    exact ⟨⟨v, hf.blk h1 (by omega), own_frO h2 hf (fun j hj => by have := (h2.lt j hj).1; omega)⟩, h3.trans (hf.below h3.size (fun j hj => by omega))⟩
  case hSt =>
    rintro pre A B ⟨⟨v, h1, h2⟩, h3⟩ hz hst
    exact ⟨⟨v, Blk.below hst h1, below_row' h2 hst⟩, h3.trans (hst.mono h3.size)⟩
  case hSk =>
    intro A B hz hst
    rw [hs1] at hz ⊢
    exact ⟨Nat.le_trans hz hst.size, fun j hj => hst.block j (by omega)⟩
  case hR1 =>
    show n1 ≤ W1.heap.size + 1
    omega
  case hRb =>
    intro j hj
    rw [hs1]
    show n1 ≤ j ∧ _
    omega
  case assign =>
    intro m v W K hK
    gi_wp2
    exact hK
  case body =>
    rintro m pre x suf v W hxs ⟨⟨u, h1, h2⟩, h3⟩ rfl hb0 hz
    rw [hs1] at hz
    obtain ⟨ao, cap, rfl⟩ := own_slice h2
    have c0 := h1.cells 0
    have f0 := h1.free 0
    have HU := hide h1
    have HO := hide h2
    have hlen : pre.length < L.length := by rw [hxs, List.length_append, List.length_cons]; omega
    have hsz := h3.size
    have hub : ¬ (Value.slice ao pre.length cap).ownBlock = some b := fun e => by
      have := (HO.out.lt b e).1
      omega
    clear h1 h2 hxs hb0
    gi_wp2_with (gi_at_builtin; refine wpListIn_append_own _ rfl _ _ 26 rfl (b + 3) 9 i0 (.string ⟨#[]⟩) 1 16 Tryz.underlying26 hi hz0 hz1 hz2 rfl (by decide) _ _ _ rfl (HO.out.alloc _) ⟨W.heap.size, 0, none⟩ 1 1 [.string x] rfl rfl (cell_one_new _ _ _) (by simp [Value.oneCell']) (by unfold maxLen; omega) (by omega) (by rw [World.size_alloc]; omega) ?_; intro v' w1 hown' hgrow _; obtain ⟨g', cap', rfl⟩ := ownsRow_succ hown'; have hfr := hide ((FrO.alloc (fun j => (Value.slice ao pre.length cap).ownBlock = some j) W (.cells #[.string x] 9)).grown2 hgrow (fun j h => Or.inl h)); have HU1 := hide (hfr.out.blk HU.out hub); have c1 := HU1.out.cells 0; have f1 := HU1.out.free 0)
    have hfr2 : FrO (fun j => j = b ∨ b + 3 ≤ j) W (w1.setCell ⟨b, 0, none⟩ (.slice (some ⟨g', 0, none⟩) (pre.length + 1) cap')) := (hfr.out.imp (fun j hj => Or.inr (HO.out.lt j hj).1)).trans (FrO.set (O := fun j => j = b ∨ b + 3 ≤ j) (Or.inl rfl)) (fun j h => Or.inl h)
    have hgb : (Value.slice (some ⟨g', 0, none⟩) (pre.length + 1) cap').ownBlock ≠ some b := fun e => by have := (hown'.lt b e).1; omega
    refine ⟨⟨⟨_, HU1.out.put rfl, ?_⟩, h3.trans (hfr2.below hsz (fun j hj => by omega))⟩, hfr2⟩
    rw [List.length_append, ← strV_snoc]
    exact own_set hown' hgb
  case done =>
    rintro W ⟨⟨v, h1, h2⟩, h3⟩ hK
    obtain ⟨ao, cap, rfl⟩ := own_slice h2
    have c0 := h1.cells 0
    rw [hs1] at hK ⊢
    gi_wp2
    refine ⟨by simp, .inl ⟨_, _, rfl, run_takeDeferred hK, ?_⟩⟩
    refine ⟨_, results_tmp rfl _ _ _, _, rfl, ?_, ?_⟩
    · exact own_base (own_frO h2 (FrO.put (O := fun j => j = b + 1) rfl) (fun j hj e => by have := (h2.lt j hj).1; omega)) (by omega)
    · exact h3.trans ((FrO.put (O := fun j => j = b + 1) rfl).below h3.size (fun j hj => by omega))
  case stop =>
    rintro pre W h
    exact h.elim
attribute [local go_sem] Oper.semAt_some
def intV (l : List Nat) : List Value := l.map fun (i : Nat) => .int .i64 (i : Int)
def RdI (w : World) (lo : Nat) (v : Value) (l : List Nat) : Prop := ∃ A c, v = .slice A l.length c ∧ (0 < l.length → ∃ g, A = some ⟨g, 0, none⟩ ∧ lo ≤ g ∧ g < w.heap.size ∧ ∀ (j i : Nat), l[j]? = some i → w.cell? ⟨g, j, none⟩ = some (.int .i64 (i : Int)))
theorem RdI.of {w : World} {B : Nat} {v : Value} {l : List Nat} (h : w.ownsRow B 3 1 v l.length (intV l)) : RdI w B v l := by
  obtain ⟨A, c, rfl⟩ := own_slice h
  refine ⟨A, c, rfl, fun h0 => ?_⟩
  obtain ⟨g, cap, e, hg, hl, _, hc⟩ := own_at h h0
  injection e with e1 e2 e3
  subst e1
  exact ⟨g, rfl, hg, hl, fun j i hi => hc j _ (by unfold intV; rw [List.getElem?_map, hi]; rfl)⟩
theorem RdI.frO {O : Nat → Prop} {w w' : World} {lo : Nat} {v : Value} {l : List Nat} (h : RdI w lo v l) (hf : FrO O w w') (ho : ∀ j, lo ≤ j → ¬ O j) : RdI w' lo v l := by
  obtain ⟨A, c, e, h⟩ := h
  refine ⟨A, c, e, fun h0 => ?_⟩
  obtain ⟨g, e2, h1, h2, h3⟩ := h h0
  exact ⟨g, e2, h1, Nat.lt_of_lt_of_le h2 hf.size, fun j i hi => (World.cell?_of_block (hf.block g h2 (ho g h1))).trans (h3 j i hi)⟩
theorem RdI.below {w w' : World} {lo : Nat} {v : Value} {l : List Nat} (h : RdI w lo v l) (hb : Below w.heap.size w w') : RdI w' lo v l := h.frO (O := fun _ => False) (FrO.of hb) (fun _ _ h => h)
theorem RdI.mono {w : World} {lo lo' : Nat} {v : Value} {l : List Nat} (h : RdI w lo v l) (hl : lo' ≤ lo) : RdI w lo' v l := by
  obtain ⟨A, c, e, h⟩ := h
  exact ⟨A, c, e, fun h0 => by
    obtain ⟨g, e2, h1, r⟩ := h h0
    exact ⟨g, e2, Nat.le_trans hl h1, r⟩⟩
theorem intD (l : List Nat) (j : Nat) (hj : j < l.length) : (l.map fun i : Nat => (i : Int)).getD j 0 = ((l[j] : Nat) : Int) := by
  simp [List.getD, List.getElem?_eq_getElem hj]
theorem intV_map (l : List Nat) : (l.map fun i : Nat => (i : Int)).map (Value.int .i64) = intV l := by unfold intV; rw [List.map_map]; rfl
theorem containsN (l : List Nat) (i : Nat) : (l.map fun i : Nat => (i : Int)).contains (i : Int) = l.contains i := by
  rw [Bool.eq_iff_iff, List.contains_iff_mem, List.contains_iff_mem, List.mem_map]
  constructor
  · rintro ⟨j, h1, h2⟩
    rwa [show j = i by omega] at h1
  · exact fun h => ⟨i, h, rfl⟩
theorem containsI_any (l : List Nat) (i : Nat) (v : Value) (lo : Nat) (hl : l.length ≤ 100000) (w : World) (hv : RdI w lo v l) : Calls Tryz.prog 89 #[v, .int .i64 (i : Int)] w fun e w' => e = .returned (.bool (l.contains i)) ∧ w = w' := by
  obtain ⟨A, c, rfl, h⟩ := hv
  rcases Nat.eq_zero_or_pos l.length with h0 | h0
  · obtain rfl := List.length_eq_zero_iff.1 h0
    exact (Any.slices_Contains_int_empty Tryz.lays107 A c (i : Int) w).mono fun e w' ⟨h1, h2⟩ => ⟨h1, h2.symm⟩
  · obtain ⟨g, rfl, -, -, hc⟩ := h h0
    have hm : (l.map fun i : Nat => (i : Int)).length = l.length := List.length_map _
    refine (Any.slices_Contains_int Tryz.lays107 g 0 l.length c (l.map fun i : Nat => (i : Int)) (i : Int) w (by rw [hm]; exact Nat.le_refl _) (by omega) (fun j hj => ?_)).mono fun e w' ⟨h1, h2⟩ => ⟨?_, h2.symm⟩
    · rw [hm] at hj
      rw [Nat.zero_add, hc j l[j] (List.getElem?_eq_getElem hj), intD l j hj]
    · rw [h1, List.take_of_length_le (by rw [hm]; exact Nat.le_refl _), containsN]
theorem cloneI_any (l : List Nat) (v : Value) (lo : Nat) (hl : l.length ≤ 100000) (w : World) (hv : RdI w lo v l) : Calls Tryz.prog 88 #[v] w fun e w' => ∃ r, e = .returned r ∧ w'.ownsRow w.heap.size 3 1 r l.length (intV l) ∧ Below w.heap.size w w' := by
  obtain ⟨A, c, rfl, h⟩ := hv
  rcases Nat.eq_zero_or_pos l.length with h0 | h0
  · obtain rfl := List.length_eq_zero_iff.1 h0
    cases A with
    | none => exact (Any.slices_Clone_int_nil Tryz.laysNm215 0 c w).mono fun e w' ⟨h1, h2⟩ => ⟨_, h1, by subst h2; exact World.ownsRow_nil _ _ _ _, by subst h2; exact Below.refl _ _⟩
    | some a => exact (Any.slices_Clone_int_zero Tryz.laysNm215 a c w).mono fun e w' ⟨r, h1, h2, _, h4⟩ => ⟨r, h1, h2, h4⟩
  · obtain ⟨g, rfl, -, -, hc⟩ := h h0
    have hm : (l.map fun i : Nat => (i : Int)).length = l.length := List.length_map _
    refine (Any.slices_Clone_int Tryz.laysNm215 g 0 l.length c (l.map fun i : Nat => (i : Int)) w (by rw [hm]; exact Nat.le_refl _) (by omega) (fun j hj => ?_)).mono fun e w' ⟨r, h1, h2, _, h4⟩ => ⟨r, h1, ?_, h4⟩
    · rw [hm] at hj
      rw [Nat.zero_add, hc j l[j] (List.getElem?_eq_getElem hj), intD l j hj]
    · rw [List.take_of_length_le (by rw [hm]; exact Nat.le_refl _), intV_map] at h2
      exact h2
/-! The orders, one number at a time. -/
def ordG (n k : Nat) (l : List Nat) (i : Nat) : List (List Nat) := if l.contains i then [] else ordersL n k (l ++ [i])
theorem ordersL_at {n : Nat} {l : List Nat} (h : l.length = n) : ordersL n 0 l = [l] := by rw [ordersL, if_pos h]
theorem ordersL_go {n k : Nat} {l : List Nat} (h : l.length + (k + 1) = n) : ordersL n (k + 1) l = (List.range n).flatMap (ordG n k l) := by
  rw [ordersL, if_neg (by omega)]
  rfl
theorem range_split {n i : Nat} (h : i < n) : List.range n = List.range i ++ i :: (List.range n).drop (i + 1) := by
  have hl : i < (List.range n).length := by rw [List.length_range]; exact h
  conv => lhs; rw [← List.take_append_drop i (List.range n)]
  rw [List.take_range, Nat.min_eq_left (Nat.le_of_lt h), List.drop_eq_getElem_cons hl, List.getElem_range]
theorem ord_split {n k i : Nat} {l : List Nat} (hl : l.length + (k + 1) = n) (h : i < n) : ordersL n (k + 1) l = (List.range i).flatMap (ordG n k l) ++ (ordG n k l i ++ ((List.range n).drop (i + 1)).flatMap (ordG n k l)) := by
  have e : (List.range n).flatMap (ordG n k l) = (List.range i ++ i :: (List.range n).drop (i + 1)).flatMap (ordG n k l) := congrArg (fun x => x.flatMap (ordG n k l)) (range_split h)
  rw [ordersL_go hl, e, List.flatMap_append, List.flatMap_cons]
theorem ord_next (n k i : Nat) (l : List Nat) : (List.range (i + 1)).flatMap (ordG n k l) = (List.range i).flatMap (ordG n k l) ++ ordG n k l i := by
  rw [List.range_succ, List.flatMap_append, List.flatMap_cons, List.flatMap_nil, List.append_nil]
attribute [local go_sem] Oper.semAt_some
def VisP (J Jx : List (List Nat) → World → Prop) (R : Nat → Prop) (ls : List (List Nat)) (w : World) (bl : Bool) (w' : World) : Prop := FrO R w w' ∧ (bl = true → J ls w') ∧ (bl = false → ∃ q, Jx q w')
theorem yield_bl {e : Ending} {A B C : Prop} (h : (e = .returned (.bool true) ∧ A ∧ C) ∨ (e = .returned (.bool false) ∧ B ∧ C)) : ∃ bl : Bool, e = .returned (.bool bl) ∧ C ∧ (bl = true → A) ∧ (bl = false → B) := by
  rcases h with ⟨h1, h2, h3⟩ | ⟨h1, h2, h3⟩
  · exact ⟨true, h1, h3, fun _ => h2, fun h => (by cases h)⟩
  · exact ⟨false, h1, h3, fun h => (by cases h), fun _ => h2⟩
set_option maxRecDepth 100000 in
set_option maxHeartbeats 4000000 in
theorem visit_leaf (n : Nat) (hn : n ≤ 1000) (l0 nb yb vb s : Nat) (R : Nat → Prop) (J Jx : List (List Nat) → World → Prop) (hR : ∀ j, R j → j < s ∧ j ≠ nb) (hs : s ≤ yb) (l : List Nat) (hl : l.length = n) (pre : List (List Nat)) (lv : Value) (w : World)
    (hJ : ∀ A B, J pre A → Below A.heap.size A B → J pre B)
    (hY : ∀ v A, J pre A → RdI A s v l → ∀ m, YieldAt Fence.wide m Tryz.prog l0 #[v] A fun e B => (e = .returned (.bool true) ∧ J (pre ++ [l]) B ∧ FrO R A B) ∨ (e = .returned (.bool false) ∧ Jx (pre ++ [l]) B ∧ FrO R A B))
    (h0 : J pre w) (hnb : Blk w nb #[.int .i64 (n : Int)] 3) (hyb : Blk w yb #[.func (.yield l0) #[] #[]] 105) (hv : RdI w s lv l) (hsw : s ≤ w.heap.size) :
    Calls Tryz.prog 87 #[lv, .pointer (some ⟨nb, 0, none⟩), .pointer (some ⟨yb, 0, none⟩), .pointer (some ⟨vb, 0, none⟩)] w fun e w' => ∃ bl : Bool, e = .returned (.bool bl) ∧ VisP J Jx R (pre ++ [l]) w bl w' := by
  subst hl
  have HYB := hide hyb
  have H0 := hide h0
  have HJ := hide hJ
  have HY := hide hY
  have HRR := hide hR
  have CL := hide (show ∀ W, Below w.heap.size w W → Calls Tryz.prog 88 #[lv] W fun e w' => ∃ r, e = .returned r ∧ w'.ownsRow W.heap.size 3 1 r l.length (intV l) ∧ Below W.heap.size W w' from fun W hW => cloneI_any l lv s (by omega) W (hv.below hW))
  obtain ⟨A, c, rfl, -⟩ := hv
  have c0 := hnb.cells 0
  have hmx : Tryz.prog.follows .mixedOrders = true := by kernel_rfl
  have hbd : Below w.heap.size w w.drew := (Below.refl w.heap.size w).drew
  have d0 : w.drew.cell? ⟨yb, 0, none⟩ = some (.func (.yield l0) #[] #[]) := hyb.cells 0
  clear hyb h0 hJ hY hR hnb
  have HL : Live w [] := trivial
  go_enter Tryz.func87, Tryz.ntmps87
  go_upto_region 2 with fail
  refine (wpIn_wide (n := 1)).1 ?_
  gi_region_with_o (first | (refine ⟨trivial, ?_⟩; gi_at_call 88; refine (callsIn_wide.2 (CL.out _ hbd)).mono ?_; rintro e w2 ⟨r2, rfl, hr2, hb2⟩; have hz2 : s ≤ w2.heap.size := Nat.le_trans hsw hb2.size; have d2 : w2.cell? ⟨yb, 0, none⟩ = some (.func (.yield l0) #[] #[]) := (Blk.below hb2 (show Blk w.drew yb #[.func (.yield l0) #[] #[]] 105 from HYB.out)).cells 0; obtain ⟨fn, tmps, assign, body, hy, hRd⟩ := HY.out r2 w2 (HJ.out _ _ H0.out (hbd.trans hb2)) ((RdI.of hr2).mono hsw) 0) | (refine hRd.mono ?_; rintro e w3 hP; obtain ⟨bl, rfl, hf3, hj3, hx3⟩ := yield_bl hP))
  all_goals go_wp2_with fail
  all_goals go_ret
  all_goals exact ⟨bl, rfl, (FrO.of (hbd.trans hb2)).trans hf3 (fun j h => Or.inl h), hj3, fun h => ⟨_, hx3 h⟩⟩
end Go.Proofs.YtocgindpjjolpaaGreatDoor
