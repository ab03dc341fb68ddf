/- Words of my own for walks: which blocks a walk still knows behind a call ('Live'), and what it knows of them ('Kept'). No program is named. -/
import Derived.WalkKit
import Derived.WalkSpells
import Derived.WalkLawsBesides
import Derived.Deep.QuietTactic
import Derived.BigQuiet
import Derived.Handy
import Derived.Deep.RegionHeld3
import Derived.Deep.RegionWith
import Derived.Laws.OwnMore
import Derived.Deep.AppendLies
import Derived.OwnWalk
import Derived.Lib.SmallJoins
namespace Go.Proofs.YtopajpomhflgbaaGreatDoor
set_option linter.unusedSimpArgs false
set_option linter.unusedVariables false
open Go.RowKit

theorem hide {p : Prop} (h : p) : Hid p := h
theorem ret_i {k : IntKind} {a b : Int} (h : a = b) : Ending.returned (.int k a) = .returned (.int k b) := by rw [h]
theorem ret2_i {k : IntKind} {a b : Int} {v : Value} (h : a = b) : Ending.returned (.tuple #[.int k a, v]) = .returned (.tuple #[.int k b, v]) := by rw [h]
/-- Each block of the list lies in the heap. -/
def Live (w : World) : List Nat → Prop
  | [] => True
  | n :: l => n < w.heap.size ∧ Live w l
/-- Each block of the list reads in w1 as in W. -/
def Kept (W w1 : World) : List Nat → Prop
  | [] => True
  | n :: l => ((∀ o, w1.cell? ⟨n, o, none⟩ = W.cell? ⟨n, o, none⟩) ∧ (∀ o, w1.frozen? ⟨n, o, none⟩ = W.frozen? ⟨n, o, none⟩)) ∧ Kept W w1 l
/-- k new blocks from s on, ahead of a list. -/
def addN (s : Nat) : Nat → List Nat → List Nat
  | 0, l => l
  | k + 1, l => addN (s + 1) k (s :: l)

theorem Live.lift {a b : World} (h : a.heap.size ≤ b.heap.size) : ∀ {l : List Nat}, Live a l → Live b l
  | [], _ => trivial
  | _ :: _, ⟨h1, h2⟩ => ⟨Nat.lt_of_lt_of_le h1 h, Live.lift h h2⟩
theorem Live.more {w : World} : ∀ (k : Nat) {s : Nat} {l : List Nat}, s + k ≤ w.heap.size → Live w l → Live w (addN s k l)
  | 0, _, _, _, h => h
  | k + 1, s, _, hs, h => Live.more k (s := s + 1) (by omega) ⟨by omega, h⟩
theorem Kept.of {W w1 : World} (hb : Below W.heap.size W w1) : ∀ {l : List Nat}, Live W l → Kept W w1 l
  | [], _ => trivial
  | n :: _, ⟨h1, h2⟩ => ⟨⟨fun o => hb.cell (p := ⟨n, o, none⟩) h1, fun o => hb.frozen (p := ⟨n, o, none⟩) h1⟩, Kept.of hb h2⟩
/-- Behind a call: W is the world in which it began, w0 the one of the call before, k blocks came between. -/
theorem Live.call {w0 W w1 : World} {k : Nat} {l : List Nat} (h : Live w0 l) (hb : Below W.heap.size W w1) (hz : w0.heap.size + k ≤ w1.heap.size) (hs : W.heap.size = w0.heap.size + k) :
    Live w1 (addN w0.heap.size k l) ∧ Kept W w1 (addN w0.heap.size k l) :=
  have h0 : Live W (addN w0.heap.size k l) := Live.more k (by omega) (Live.lift (by omega) h)
  ⟨Live.more k hz (Live.lift (by omega) h), Kept.of hb h0⟩
theorem Live.call0 {w0 W w1 : World} {l : List Nat} (h : Live w0 l) (hb : Below W.heap.size W w1) (hz : w0.heap.size ≤ w1.heap.size) (hs : W.heap.size = w0.heap.size) :
    Live w1 l ∧ Kept W w1 l :=
  ⟨Live.lift hz h, Kept.of hb (Live.lift (by omega) h)⟩

/-- string([]byte) of known cells. -/
theorem run_conv_bytes {P : Program} (w : World) (src dst e : TypeId) (hs : P.underlying src = some (.slice e)) (he : P.underlying e = some (.int .u8)) (hd : P.underlying dst = some .string)
    (a : Addr) (cap : Nat) (ns : List Int) (h : ∀ j v, (ns.map (Value.int .u8))[j]? = some v → w.cell? (a.add j) = some v) :
    (convert src dst (.slice (some a) ns.length cap)).run P w = .ok (.string ⟨(ns.map fun n => UInt8.ofNat n.toNat).toArray⟩) w := by
  have h1 := run_loadCells_list (P := P) (w := w) a (ns.map (Value.int .u8)) h
  rw [List.length_map] at h1
  rw [run_convert_bytes_string w src dst e _ _ _ hs he hd, run_bytesToString w a ns.length cap ns h1]
  congr 2
  have : ∀ (l : List Int) (s : ByteArray), l.foldl (fun r n => r.push (UInt8.ofNat n.toNat)) s = ⟨s.data ++ (l.map fun n => UInt8.ofNat n.toNat).toArray⟩ := by
    intro l
    induction l with
    | nil => intro s; simp
    | cons x l ih => intro s; rw [List.foldl_cons, ih]; simp [ByteArray.push]
  rw [this]; simp
theorem conv_lit {P : Program} (src dst e : TypeId) (hs : P.underlying src = some (.slice e)) (he : P.underlying e = some (.int .u8)) (hd : P.underlying dst = some .string)
    (W : World) (t : TypeId) (ns : List Int) (C : Array Value) (hC : C = (ns.map (Value.int .u8)).toArray) (n cap : Nat) (hn : n = ns.length) :
    (convert src dst (.slice (some ⟨W.heap.size, 0, none⟩) n cap)).run P (W.alloc (.cells C t)) = .ok (.string ⟨(ns.map fun n => UInt8.ofNat n.toNat).toArray⟩) (W.alloc (.cells C t)) := by
  subst hC hn
  refine run_conv_bytes _ src dst e hs he hd _ cap ns ?_
  intro j v hj
  have : (Addr.add ⟨W.heap.size, 0, none⟩ j) = ⟨W.heap.size, j, none⟩ := by simp [Addr.add]; intro h; exact h.symm
  rw [this, World.cell?_alloc_new]
  simpa using hj

theorem below_drewN' {B n : Nat} {a w : World} (h : Below B a w) : Below B a (w.drewN n) := ⟨h.os, h.tape, h.output, h.size, h.block⟩
/-- Block n is a row of the cells cs, nothing of it frozen. -/
def Blk (w : World) (n : Nat) (cs : Array Value) (T : TypeId) : Prop := w.heap[n]? = some (.cells cs T (0, 0))
theorem Blk.cells {w : World} {n : Nat} {cs : Array Value} {T : TypeId} (h : Blk w n cs T) : ∀ o, w.cell? ⟨n, o, none⟩ = cs[o]? := fun o => by
  unfold Blk at h; simp [World.cell?, h]
theorem Blk.free {w : World} {n : Nat} {cs : Array Value} {T : TypeId} (h : Blk w n cs T) : ∀ o, w.frozen? ⟨n, o, none⟩ = false := fun o => by
  unfold Blk at h; simp [World.frozen?, h]
theorem Blk.lt {w : World} {n : Nat} {cs : Array Value} {T : TypeId} (h : Blk w n cs T) : n < w.heap.size := by
  unfold Blk at h
  rcases Nat.lt_or_ge n w.heap.size with h' | h'
  · exact h'
  · rw [Array.getElem?_eq_none h'] at h; cases h
theorem Blk.new (w : World) (cs : Array Value) (T : TypeId) : Blk (w.alloc (.cells cs T)) w.heap.size cs T := heap_alloc_new w _
theorem Blk.newAt {w : World} {n : Nat} {cs : Array Value} {T : TypeId} (h : w.heap.size = n) : Blk (w.alloc (.cells cs T)) n cs T := by subst h; exact heap_alloc_new w _
theorem Blk.alloc {w : World} {n : Nat} {cs : Array Value} {T : TypeId} (h : Blk w n cs T) (o : Obj) : Blk (w.alloc o) n cs T := by
  have := h.lt
  show (w.heap.push o)[n]? = _
  rw [Array.getElem?_push, if_neg (by omega)]; exact h
theorem Blk.drew {w : World} {n : Nat} {cs : Array Value} {T : TypeId} (h : Blk w n cs T) : Blk w.drew n cs T := h
theorem Blk.other {w : World} {n m j : Nat} {v : Value} {cs : Array Value} {T : TypeId} (hne : n ≠ m) (h : Blk w n cs T) : Blk (w.setCell ⟨m, j, none⟩ v) n cs T := by
  show (w.setCell ⟨m, j, none⟩ v).heap[n]? = _
  rw [Below.heap_setCell _ _ _ _ hne]; exact h
theorem Blk.put {w : World} {n j : Nat} {v : Value} {cs cs' : Array Value} {T : TypeId} (e : cs.setIfInBounds j v = cs') (h : Blk w n cs T) : Blk (w.setCell ⟨n, j, none⟩ v) n cs' T := by
  subst e
  unfold Blk at h ⊢
  have hn := Blk.lt h
  simp [World.setCell, Array.getElem?_modify, h]
theorem Blk.below {W w1 : World} {n : Nat} {cs : Array Value} {T : TypeId} (hb : Below W.heap.size W w1) (h : Blk W n cs T) : Blk w1 n cs T := by
  show w1.heap[n]? = _
  rw [hb.block n h.lt]; exact h
theorem Blk.under {W w1 : World} {B n : Nat} {cs : Array Value} {T : TypeId} (hb : Below B W w1) (hn : n < B) (h : Blk W n cs T) : Blk w1 n cs T := by
  show w1.heap[n]? = _
  rw [hb.block n hn]; exact h

end Go.Proofs.YtopajpomhflgbaaGreatDoor
/- Words of my own for append: one element more onto a row of the call's own. No program is named. -/
namespace Go.Proofs.YtopajpomhflgbaaGreatDoor
set_option linter.unusedSimpArgs false
set_option linter.unusedVariables false
open Go.RowKit

theorem below_row {W w1 : World} {B B' : Nat} {e : TypeId} {size : Nat} {v : Value} {n : Nat} {xs : List Value} (h : W.ownsRow B e size v n xs) (hb : Below B' W w1) (hk : ∀ g, v.ownBlock = some g → g < B') : w1.ownsRow B e size v n xs := by
  refine ⟨h.1, ?_⟩
  rcases h.2 with h2 | ⟨g, cap, cur, hv, hg, hh, r⟩
  · exact Or.inl h2
  · refine Or.inr ⟨g, cap, cur, hv, hg, ?_, r⟩
    rw [hb.block g (hk g (by rw [hv]; rfl)), hh]
theorem below_row' {W w1 : World} {B : Nat} {e : TypeId} {size : Nat} {v : Value} {n : Nat} {xs : List Value} (h : W.ownsRow B e size v n xs) (hb : Below W.heap.size W w1) : w1.ownsRow B e size v n xs :=
  below_row h hb (fun g hg => (h.lt g hg).2)
/-- One element more: it was laid in a new block just before. -/
theorem wpList_append_one {P : Program} (w : World) {ops : Array Oper} {rest : List Oper} {o : Oper} {a : Act} {Q : Exit → Act → World → Prop} (hgd : o.guard = none) (s x : Operand) (t : TypeId)
    (ho : o.op = .call { callee := .builtin .append, args := #[s, x], argTypes := #[t, t] })
    (base : Nat) (e : TypeId) {z : Value} {size bytes : Nat} (hinfo : (P.info? e).map (fun i => (i.zero, i.size, i.bytes)) = some (some z, size, bytes)) (ht : P.underlying t = some (.slice e))
    (hzs : z.cells.size = size) (hsz : 0 < size)
    (v : Value) (n : Nat) (xs : List Value) (hown : w.ownsRow base e size v n xs) (news : Array Value)
    (hs : a.eval s = v) (hx : a.eval x = .slice (some ⟨w.heap.size, 0, none⟩) 1 1) (hl : news.size = size) (h1 : ∀ u ∈ news.toList, u.oneCell' = true)
    (h63 : n + 1 ≤ maxLen) (hbytes : (n + 1) * bytes ≤ 140737488355328) (hbase : base ≤ w.heap.size)
    (h : ∀ v' w', w'.ownsRow base e size v' (n + 1) (xs ++ news.toList) → Below base w w' → (∀ b, b < w.heap.size → v.ownBlock ≠ some b → w'.heap[b]? = w.heap[b]?) → w.heap.size ≤ w'.heap.size → wpList P ops Q rest (a.put o.dst v') w') : wpList P ops Q (o :: rest) a (w.alloc (.cells news e)) := by
  obtain ⟨i, hi, hz0, hz1, hz2⟩ := info_parts hinfo
  refine wpList_append_own _ hgd s x t ho base e i z size bytes ht hi hz0 hz1 hz2 hzs hsz v n xs hs (hown.alloc _) ⟨w.heap.size, 0, none⟩ 1 1 news.toList hx (by simp [hl]) (World.news_of_block (heap_alloc_new w _)) h1 h63 hbytes (by rw [World.size_alloc]; omega) ?_
  intro v' w' hown' hg hn
  have hb1 : Below base w (w.alloc (.cells news e)) := (Below.refl base w).alloc hbase _
  have hb : Below base w w' := hb1.grown hg (by rw [World.size_alloc]; omega) (fun q hq => (hown.lt q hq).1)
  refine h v' w' hown' hb ?_ ?_
  · intro b hlt hne
    rw [hg.block b (by rw [World.size_alloc]; omega) (fun e => hne e.symm)]
    exact Below.heap_alloc w _ b hlt
  · have := hg.size; rw [World.size_alloc] at this; omega
/-- The same at a step of a region that draws its order; the new element lies in a block that is known whole. -/
theorem step_append_blk {P : Program} (w : World) {ops : Array Oper} {o : Oper} {a : Act} {K : Act → World → Prop} {Q : Exit → Act → World → Prop} {E : Prop} (hgd : o.guard = none) (s x : Operand) (t : TypeId)
    (ho : o.op = .call { callee := .builtin .append, args := #[s, x], argTypes := #[t, t] })
    (base : Nat) (e : TypeId) {z : Value} {size bytes : Nat} (hinfo : (P.info? e).map (fun i => (i.zero, i.size, i.bytes)) = some (some z, size, bytes)) (ht : P.underlying t = some (.slice e))
    (hzs : z.cells.size = size) (hsz : 0 < size)
    (v : Value) (n : Nat) (xs : List Value) (hown : w.ownsRow base e size v n xs) (g : Nat) (news : Array Value) (hblk : Blk w g news e)
    (hs : a.eval s = v) (hx : a.eval x = .slice (some ⟨g, 0, none⟩) 1 1) (hl : news.size = size) (h1 : ∀ u ∈ news.toList, u.oneCell' = true)
    (h63 : n + 1 ≤ maxLen) (hbytes : (n + 1) * bytes ≤ 140737488355328) (hbase : base ≤ w.heap.size)
    (h : ∀ v' w', w'.ownsRow base e size v' (n + 1) (xs ++ news.toList) → Below base w w' → (∀ b, b < w.heap.size → v.ownBlock ≠ some b → w'.heap[b]? = w.heap[b]?) → w.heap.size ≤ w'.heap.size → K (a.put o.dst v') w') :
    if Region.wanted o (yielded ops a.tmps) = true then Oper.wp P o a w K Q else E := by
  obtain ⟨i, hi, hz0, hz1, hz2⟩ := info_parts hinfo
  have hw : Region.wanted o (yielded ops a.tmps) = true := by simp [Region.wanted, hgd]
  rw [if_pos hw]
  refine wp_append_own w s x t ho base e i z size bytes ht hi hz0 hz1 hz2 hzs hsz v n xs hs hown ⟨g, 0, none⟩ 1 1 news.toList hx (by simp [hl]) (World.news_of_block hblk) h1 h63 hbytes hbase ?_
  intro v' w' hown' hg hn
  refine h v' w' hown' ((Below.refl base w).grown hg hbase (fun q hq => (hown.lt q hq).1)) ?_ hg.size
  intro b hlt hne
  exact hg.block b hlt (fun e => hne e.symm)
end Go.Proofs.YtopajpomhflgbaaGreatDoor
