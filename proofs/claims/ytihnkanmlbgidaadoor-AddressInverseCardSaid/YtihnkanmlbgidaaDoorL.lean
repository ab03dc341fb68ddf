/- Words of my own for walks: which blocks a walk still knows behind a call ('Live'), and what it knows of them ('Kept'). No program is named. -/
import Derived.WalkKit
import Derived.WalkSpells
import Derived.WalkLawsBesides
import Derived.Deep.QuietTactic
import Derived.BigQuiet
import Derived.Handy
import Derived.Deep.RegionHeld3
import Derived.Deep.RegionWith
namespace Go.Proofs.YtihnkanmlbgidaaDoor
set_option linter.unusedSimpArgs false
set_option linter.unusedVariables false
open Go.RowKit

theorem hide {p : Prop} (h : p) : Hid p := h
theorem ret_i {k : IntKind} {a b : Int} (h : a = b) : Ending.returned (.int k a) = .returned (.int k b) := by rw [h]
theorem ret2_i {k : IntKind} {a b : Int} {v : Value} (h : a = b) : Ending.returned (.tuple #[.int k a, v]) = .returned (.tuple #[.int k b, v]) := by rw [h]
/-- Each block of the list lies in the heap. -/
def Live (w : World) : List Nat → Prop
  | [] => True
  | n :: l => n < w.heap.size ∧ Live w l
/-- Each block of the list reads in w1 as in W. -/
def Kept (W w1 : World) : List Nat → Prop
  | [] => True
  | n :: l => ((∀ o, w1.cell? ⟨n, o, none⟩ = W.cell? ⟨n, o, none⟩) ∧ (∀ o, w1.frozen? ⟨n, o, none⟩ = W.frozen? ⟨n, o, none⟩)) ∧ Kept W w1 l
/-- k new blocks from s on, ahead of a list. -/
def addN (s : Nat) : Nat → List Nat → List Nat
  | 0, l => l
  | k + 1, l => addN (s + 1) k (s :: l)

theorem Live.lift {a b : World} (h : a.heap.size ≤ b.heap.size) : ∀ {l : List Nat}, Live a l → Live b l
  | [], _ => trivial
  | _ :: _, ⟨h1, h2⟩ => ⟨Nat.lt_of_lt_of_le h1 h, Live.lift h h2⟩
theorem Live.more {w : World} : ∀ (k : Nat) {s : Nat} {l : List Nat}, s + k ≤ w.heap.size → Live w l → Live w (addN s k l)
  | 0, _, _, _, h => h
  | k + 1, s, _, hs, h => Live.more k (s := s + 1) (by omega) ⟨by omega, h⟩
theorem Kept.of {W w1 : World} (hb : Below W.heap.size W w1) : ∀ {l : List Nat}, Live W l → Kept W w1 l
  | [], _ => trivial
  | n :: _, ⟨h1, h2⟩ => ⟨⟨fun o => hb.cell (p := ⟨n, o, none⟩) h1, fun o => hb.frozen (p := ⟨n, o, none⟩) h1⟩, Kept.of hb h2⟩
/-- Behind a call: W is the world in which it began, w0 the one of the call before, k blocks came between. -/
theorem Live.call {w0 W w1 : World} {k : Nat} {l : List Nat} (h : Live w0 l) (hb : Below W.heap.size W w1) (hz : w0.heap.size + k ≤ w1.heap.size) (hs : W.heap.size = w0.heap.size + k) :
    Live w1 (addN w0.heap.size k l) ∧ Kept W w1 (addN w0.heap.size k l) :=
  have h0 : Live W (addN w0.heap.size k l) := Live.more k (by omega) (Live.lift (by omega) h)
  ⟨Live.more k hz (Live.lift (by omega) h), Kept.of hb h0⟩
theorem Live.call0 {w0 W w1 : World} {l : List Nat} (h : Live w0 l) (hb : Below W.heap.size W w1) (hz : w0.heap.size ≤ w1.heap.size) (hs : W.heap.size = w0.heap.size) :
    Live w1 l ∧ Kept W w1 l :=
  ⟨Live.lift hz h, Kept.of hb (Live.lift (by omega) h)⟩

/-- string([]byte) of known cells. -/
theorem run_conv_bytes {P : Program} (w : World) (src dst e : TypeId) (hs : P.underlying src = some (.slice e)) (he : P.underlying e = some (.int .u8)) (hd : P.underlying dst = some .string)
    (a : Addr) (cap : Nat) (ns : List Int) (h : ∀ j v, (ns.map (Value.int .u8))[j]? = some v → w.cell? (a.add j) = some v) :
    (convert src dst (.slice (some a) ns.length cap)).run P w = .ok (.string ⟨(ns.map fun n => UInt8.ofNat n.toNat).toArray⟩) w := by
  have h1 := run_loadCells_list (P := P) (w := w) a (ns.map (Value.int .u8)) h
  rw [List.length_map] at h1
  rw [run_convert_bytes_string w src dst e _ _ _ hs he hd, run_bytesToString w a ns.length cap ns h1]
  congr 2
  have : ∀ (l : List Int) (s : ByteArray), l.foldl (fun r n => r.push (UInt8.ofNat n.toNat)) s = ⟨s.data ++ (l.map fun n => UInt8.ofNat n.toNat).toArray⟩ := by
    intro l
    induction l with
    | nil => intro s; simp
    | cons x l ih => intro s; rw [List.foldl_cons, ih]; simp [ByteArray.push]
  rw [this]; simp
theorem conv_lit {P : Program} (src dst e : TypeId) (hs : P.underlying src = some (.slice e)) (he : P.underlying e = some (.int .u8)) (hd : P.underlying dst = some .string)
    (W : World) (t : TypeId) (ns : List Int) (C : Array Value) (hC : C = (ns.map (Value.int .u8)).toArray) (n cap : Nat) (hn : n = ns.length) :
    (convert src dst (.slice (some ⟨W.heap.size, 0, none⟩) n cap)).run P (W.alloc (.cells C t)) = .ok (.string ⟨(ns.map fun n => UInt8.ofNat n.toNat).toArray⟩) (W.alloc (.cells C t)) := by
  subst hC hn
  refine run_conv_bytes _ src dst e hs he hd _ cap ns ?_
  intro j v hj
  have : (Addr.add ⟨W.heap.size, 0, none⟩ j) = ⟨W.heap.size, j, none⟩ := by simp [Addr.add]; intro h; exact h.symm
  rw [this, World.cell?_alloc_new]
  simpa using hj

theorem below_drewN' {B n : Nat} {a w : World} (h : Below B a w) : Below B a (w.drewN n) := ⟨h.os, h.tape, h.output, h.size, h.block⟩
/-- Block n is a row of the cells cs, nothing of it frozen. -/
def Blk (w : World) (n : Nat) (cs : Array Value) (T : TypeId) : Prop := w.heap[n]? = some (.cells cs T (0, 0))
theorem Blk.cells {w : World} {n : Nat} {cs : Array Value} {T : TypeId} (h : Blk w n cs T) : ∀ o, w.cell? ⟨n, o, none⟩ = cs[o]? := fun o => by
  unfold Blk at h; simp [World.cell?, h]
theorem Blk.free {w : World} {n : Nat} {cs : Array Value} {T : TypeId} (h : Blk w n cs T) : ∀ o, w.frozen? ⟨n, o, none⟩ = false := fun o => by
  unfold Blk at h; simp [World.frozen?, h]
theorem Blk.lt {w : World} {n : Nat} {cs : Array Value} {T : TypeId} (h : Blk w n cs T) : n < w.heap.size := by
  unfold Blk at h
  rcases Nat.lt_or_ge n w.heap.size with h' | h'
  · exact h'
  · rw [Array.getElem?_eq_none h'] at h; cases h
theorem Blk.new (w : World) (cs : Array Value) (T : TypeId) : Blk (w.alloc (.cells cs T)) w.heap.size cs T := heap_alloc_new w _
theorem Blk.newAt {w : World} {n : Nat} {cs : Array Value} {T : TypeId} (h : w.heap.size = n) : Blk (w.alloc (.cells cs T)) n cs T := by subst h; exact heap_alloc_new w _
theorem Blk.alloc {w : World} {n : Nat} {cs : Array Value} {T : TypeId} (h : Blk w n cs T) (o : Obj) : Blk (w.alloc o) n cs T := by
  have := h.lt
  show (w.heap.push o)[n]? = _
  rw [Array.getElem?_push, if_neg (by omega)]; exact h
theorem Blk.drew {w : World} {n : Nat} {cs : Array Value} {T : TypeId} (h : Blk w n cs T) : Blk w.drew n cs T := h
theorem Blk.other {w : World} {n m j : Nat} {v : Value} {cs : Array Value} {T : TypeId} (hne : n ≠ m) (h : Blk w n cs T) : Blk (w.setCell ⟨m, j, none⟩ v) n cs T := by
  show (w.setCell ⟨m, j, none⟩ v).heap[n]? = _
  rw [Below.heap_setCell _ _ _ _ hne]; exact h
theorem Blk.put {w : World} {n j : Nat} {v : Value} {cs cs' : Array Value} {T : TypeId} (e : cs.setIfInBounds j v = cs') (h : Blk w n cs T) : Blk (w.setCell ⟨n, j, none⟩ v) n cs' T := by
  subst e
  unfold Blk at h ⊢
  have hn := Blk.lt h
  simp [World.setCell, Array.getElem?_modify, h]
theorem Blk.below {W w1 : World} {n : Nat} {cs : Array Value} {T : TypeId} (hb : Below W.heap.size W w1) (h : Blk W n cs T) : Blk w1 n cs T := by
  show w1.heap[n]? = _
  rw [hb.block n h.lt]; exact h
theorem Blk.under {W w1 : World} {B n : Nat} {cs : Array Value} {T : TypeId} (hb : Below B W w1) (hn : n < B) (h : Blk W n cs T) : Blk w1 n cs T := by
  show w1.heap[n]? = _
  rw [hb.block n hn]; exact h
/-! What the walks use again and again, under short names. -/
theorem SZ : (∀ (w : World) (o : Obj), (w.alloc o).heap.size = w.heap.size + 1) ∧ (∀ (w : World) (a : Addr) (v : Value), (w.setCell a v).heap.size = w.heap.size) ∧ (∀ w : World, w.drew.heap.size = w.heap.size) ∧ (∀ n m k : Nat, n + m + k = n + (m + k)) :=
  ⟨World.size_alloc, World.size_setCell, World.size_drew, Nat.add_assoc⟩
theorem PT : (∀ (a : Act) (v : Value), a.put none v = a) ∧ (∀ (a : Act) (d : Tmp) (v : Value), a.put (some d) v = ⟨a.tmps.setIfInBounds d v, a.defers⟩) ∧ (∀ (l : List Value) (i : Nat) (v : Value), l.toArray.setIfInBounds i v = (l.set i v).toArray) ∧
    (∀ (x : Value) (l : List Value) (v : Value), (x :: l).set 0 v = v :: l) ∧ (∀ (x : Value) (l : List Value) (i : Nat) (v : Value), (x :: l).set (i + 1) v = x :: l.set i v) :=
  ⟨fun _ _ => rfl, fun _ _ _ => rfl, fun l i v => List.setIfInBounds_toArray l i v, fun _ _ _ => rfl, fun _ _ _ _ => rfl⟩
/-- What a region keeps, shown. -/
theorem kp {p : Prop} (h : p := by ((try dsimp only); first | with_reducible assumption | (simp [*, go_sem]; done) | (refine ⟨?_, ?_⟩ <;> simp [*, go_sem]))) : p := h
/-- Nothing that existed has changed. -/
theorem bl {p : Prop} (h : p := by (repeat' (first | (with_reducible exact Below.refl _ _) | (with_reducible refine Below.alloc ?_ ?_ _) | (with_reducible refine Below.setCell ?_ ?_ _) | (with_reducible refine Below.drew ?_) | (with_reducible refine below_drewN' ?_) | (with_reducible refine below_bytesW ?_ ?_) | (with_reducible refine Below.trans ?_ (Below.mono (by assumption) ?_)) | omega | (simp only [World.size_alloc, World.size_setCell, World.size_drew]; omega) | (simp [size_bytesW]; omega) | (simp; omega)))) : p := h
theorem Live.callA {w0 W w1 : World} {k : Nat} {l : List Nat} (h : Live w0 l) (hb : Below W.heap.size W w1) (hz : w0.heap.size + k ≤ w1.heap.size) (hs : W.heap.size = w0.heap.size + k := by simp only [SZ, Nat.reduceAdd]) :
    Live w1 (addN w0.heap.size k l) ∧ Kept W w1 (addN w0.heap.size k l) := Live.call h hb hz hs
theorem Live.call0A {w0 W w1 : World} {l : List Nat} (h : Live w0 l) (hb : Below W.heap.size W w1) (hz : w0.heap.size ≤ w1.heap.size) (hs : W.heap.size = w0.heap.size := by first | rfl | simp only [SZ, Nat.reduceAdd]) :
    Live w1 l ∧ Kept W w1 l := Live.call0 h hb hz hs
section
variable {P : Program} {md : Region.Mode} {ops : Array Oper} {Q : Exit → Act → World → Prop} {S : World → Prop} {fuel : Nat} {listed : Array Bool} {a : Act} {w : World}
/-- One operation of a region that only reads, taken first. -/
theorem tkY (i : Nat) (oi : Oper) (v : Value) (hy : ∀ w, S w → (execOp a.eval oi).run P w = .ok (.value v) w) (h : wpAnyH P md ops Q S fuel (listed.setIfInBounds i true) (a.put oi.dst v) w) (hi : ops[i]? = some oi := by rfl)
    (hs : Region.noSelect ops = true := by kernel_rfl) (hf : Region.free md ops listed i = true := by kernel_rfl) (hr : (Region.ready md ops listed).contains i = true := by kernel_rfl)
    (hQ : ∀ c a w, Q (.panic c) (a.put oi.dst v) w → Q (.panic c) a w := by exact fun _ _ _ h => h) (hw : Region.wanted oi (yielded ops a.tmps) = true := by rfl) (hS : S w := by assumption) : wpAnyH P md ops Q S (fuel + 1) listed a w :=
  wpAnyH_take hi hs hf hr hQ (Or.inl ⟨hw, hy⟩) hS h
/-- One operation of a region whose guard is false. -/
theorem tkN (i : Nat) (oi : Oper) (h : wpAnyH P md ops Q S fuel (listed.setIfInBounds i true) (a.put oi.dst undef) w) (hi : ops[i]? = some oi := by rfl)
    (hs : Region.noSelect ops = true := by kernel_rfl) (hf : Region.free md ops listed i = true := by kernel_rfl) (hr : (Region.ready md ops listed).contains i = true := by kernel_rfl)
    (hQ : ∀ c a w, Q (.panic c) (a.put oi.dst undef) w → Q (.panic c) a w := by exact fun _ _ _ h => h) (hw : Region.wanted oi (yielded ops a.tmps) = false := by rfl) (hS : S w := by assumption) : wpAnyH P md ops Q S (fuel + 1) listed a w :=
  wpAnyH_take hi hs hf hr hQ (Or.inr ⟨hw, rfl⟩) hS h
end
end Go.Proofs.YtihnkanmlbgidaaDoor
