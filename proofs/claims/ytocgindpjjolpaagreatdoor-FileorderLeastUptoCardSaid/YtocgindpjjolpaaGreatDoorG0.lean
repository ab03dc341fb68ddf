/- Contracts and plain words for the laws of this chapter, part 0: L, Lib, P, Q. No condition. -/
import Derived.WalkKit
import Derived.WalkSpells
import Derived.WalkLawsBesides
import Derived.Deep.QuietTactic
import Derived.BigQuiet
import Derived.Handy
import Derived.Deep.RegionHeld3
import Derived.Deep.RegionWith
import Derived.Shelf.Strings.Builder1
import Derived.Shelf.Strings.Builder2
import Derived.Shelf.Small.Bits
import Derived.Shelf.Small.Strs
import Derived.Shelf.Small.Wraps
import Derived.Shelf.Strings.BuilderF
import Derived.Shelf.Strings.BuilderK
import Derived.Shelf.Utf8.RuneCount
import Derived.Shelf.Strings.Builder2Cap
import Derived.Shelf.Strconv.Itoa0
import Derived.Shelf.Strings.Search1
import Derived.Shelf.Strings.Search2
import Derived.Shelf.Strings.Search3
import Derived.Shelf.Strings.Count
import Derived.Shelf.LaysM
import Derived.Shelf.Strings.Shaped
import Derived.Shelf.Sort.Plain
import Derived.Shelf.Strings.LastIndex
import Derived.Shelf.Strings.Prefix
import Derived.Shelf.Strings.Split
import Derived.Shelf.Strings.SplitShaped
import Derived.Shelf.Unicode.Decode
import Derived.Shelf.Strings.RuneCount
import Derived.Shelf.Strings.Explode
import Derived.Shelf.Bits.Mul64
import Derived.Shelf.Strings.Repeat
import Derived.Shelf.Unicode.DecodeSlow
import Derived.Shelf.Unicode.DecodeAny
import Derived.Shelf.Strings.BuilderCap
import Derived.Shelf.Slices.Turned
import Derived.Shelf.Slices.Equal
import Derived.Ground.Names2Prog
import Derived.Shelf.Slices.Clone
import Derived.Shelf.Slices.CompactS
import Derived.Shelf.Slices.Cells
import Derived.Shelf.Slices.In.SortNone
import Derived.Shelf.Slices.Empties2
import Derived.Ground.SlsfProg
import Derived.Ground.GgzProg
import Derived.Shelf.SlIter.Sorted
import Derived.Shelf.SlSortCmp.Insertion
import Derived.Test.YtocgindpjjolpaaGreatDoorProg
import Derived.Lib.DecodeN
import Derived.Lib.TrimU
import Derived.PlainAid
import Derived.Lib.SplitLaws
import Derived.Lib.IndexBytes
namespace Go.Proofs.YtocgindpjjolpaaGreatDoor
set_option linter.unusedSimpArgs false
set_option linter.unusedVariables false
open Go.RowKit
theorem hide {p : Prop} (h : p) : Hid p := h
theorem ret_i {k : IntKind} {a b : Int} (h : a = b) : Ending.returned (.int k a) = .returned (.int k b) := by rw [h]
def Live (w : World) : List Nat → Prop
  | [] => True
  | n :: l => n < w.heap.size ∧ Live w l
def Kept (W w1 : World) : List Nat → Prop
  | [] => True
  | n :: l => ((∀ o, w1.cell? ⟨n, o, none⟩ = W.cell? ⟨n, o, none⟩) ∧ (∀ o, w1.frozen? ⟨n, o, none⟩ = W.frozen? ⟨n, o, none⟩)) ∧ Kept W w1 l
def addN (s : Nat) : Nat → List Nat → List Nat
  | 0, l => l
  | k + 1, l => addN (s + 1) k (s :: l)
theorem Live.lift {a b : World} (h : a.heap.size ≤ b.heap.size) : ∀ {l : List Nat}, Live a l → Live b l
  | [], _ => trivial
  | _ :: _, ⟨h1, h2⟩ => ⟨Nat.lt_of_lt_of_le h1 h, Live.lift h h2⟩
theorem Live.more {w : World} : ∀ (k : Nat) {s : Nat} {l : List Nat}, s + k ≤ w.heap.size → Live w l → Live w (addN s k l)
  | 0, _, _, _, h => h
  | k + 1, s, _, hs, h => Live.more k (s := s + 1) (by omega) ⟨by omega, h⟩
theorem Kept.of {W w1 : World} (hb : Below W.heap.size W w1) : ∀ {l : List Nat}, Live W l → Kept W w1 l
  | [], _ => trivial
  | n :: _, ⟨h1, h2⟩ => ⟨⟨fun o => hb.cell (p := ⟨n, o, none⟩) h1, fun o => hb.frozen (p := ⟨n, o, none⟩) h1⟩, Kept.of hb h2⟩
theorem Live.call {w0 W w1 : World} {k : Nat} {l : List Nat} (h : Live w0 l) (hb : Below W.heap.size W w1) (hz : w0.heap.size + k ≤ w1.heap.size) (hs : W.heap.size = w0.heap.size + k) :
    Live w1 (addN w0.heap.size k l) ∧ Kept W w1 (addN w0.heap.size k l) :=
  have h0 : Live W (addN w0.heap.size k l) := Live.more k (by omega) (Live.lift (by omega) h)
  ⟨Live.more k hz (Live.lift (by omega) h), Kept.of hb h0⟩
theorem Live.call0 {w0 W w1 : World} {l : List Nat} (h : Live w0 l) (hb : Below W.heap.size W w1) (hz : w0.heap.size ≤ w1.heap.size) (hs : W.heap.size = w0.heap.size) :
    Live w1 l ∧ Kept W w1 l :=
  ⟨Live.lift hz h, Kept.of hb (Live.lift (by omega) h)⟩
theorem run_conv_bytes {P : Program} (w : World) (src dst e : TypeId) (hs : P.underlying src = some (.slice e)) (he : P.underlying e = some (.int .u8)) (hd : P.underlying dst = some .string)
    (a : Addr) (cap : Nat) (ns : List Int) (h : ∀ j v, (ns.map (Value.int .u8))[j]? = some v → w.cell? (a.add j) = some v) :
    (convert src dst (.slice (some a) ns.length cap)).run P w = .ok (.string ⟨(ns.map fun n => UInt8.ofNat n.toNat).toArray⟩) w := by
  have h1 := run_loadCells_list (P := P) (w := w) a (ns.map (Value.int .u8)) h
  rw [List.length_map] at h1
  rw [run_convert_bytes_string w src dst e _ _ _ hs he hd, run_bytesToString w a ns.length cap ns h1]
  congr 2
  have : ∀ (l : List Int) (s : ByteArray), l.foldl (fun r n => r.push (UInt8.ofNat n.toNat)) s = ⟨s.data ++ (l.map fun n => UInt8.ofNat n.toNat).toArray⟩ := by
    intro l
    induction l with
    | nil => intro s; simp
    | cons x l ih => intro s; rw [List.foldl_cons, ih]; simp [ByteArray.push]
  rw [this]; simp
theorem conv_lit {P : Program} (src dst e : TypeId) (hs : P.underlying src = some (.slice e)) (he : P.underlying e = some (.int .u8)) (hd : P.underlying dst = some .string)
    (W : World) (t : TypeId) (ns : List Int) (C : Array Value) (hC : C = (ns.map (Value.int .u8)).toArray) (n cap : Nat) (hn : n = ns.length) :
    (convert src dst (.slice (some ⟨W.heap.size, 0, none⟩) n cap)).run P (W.alloc (.cells C t)) = .ok (.string ⟨(ns.map fun n => UInt8.ofNat n.toNat).toArray⟩) (W.alloc (.cells C t)) := by
  subst hC hn
  refine run_conv_bytes _ src dst e hs he hd _ cap ns ?_
  intro j v hj
  have : (Addr.add ⟨W.heap.size, 0, none⟩ j) = ⟨W.heap.size, j, none⟩ := by simp [Addr.add]; intro h; exact h.symm
  rw [this, World.cell?_alloc_new]
  simpa using hj
theorem below_drewN' {B n : Nat} {a w : World} (h : Below B a w) : Below B a (w.drewN n) := ⟨h.os, h.tape, h.output, h.size, h.block⟩
def Blk (w : World) (n : Nat) (cs : Array Value) (T : TypeId) : Prop := w.heap[n]? = some (.cells cs T (0, 0))
theorem Blk.cells {w : World} {n : Nat} {cs : Array Value} {T : TypeId} (h : Blk w n cs T) : ∀ o, w.cell? ⟨n, o, none⟩ = cs[o]? := fun o => by
  unfold Blk at h; simp [World.cell?, h]
theorem Blk.free {w : World} {n : Nat} {cs : Array Value} {T : TypeId} (h : Blk w n cs T) : ∀ o, w.frozen? ⟨n, o, none⟩ = false := fun o => by
  unfold Blk at h; simp [World.frozen?, h]
theorem Blk.lt {w : World} {n : Nat} {cs : Array Value} {T : TypeId} (h : Blk w n cs T) : n < w.heap.size := by
  unfold Blk at h
  rcases Nat.lt_or_ge n w.heap.size with h' | h'
  · exact h'
  · rw [Array.getElem?_eq_none h'] at h; cases h
theorem Blk.new (w : World) (cs : Array Value) (T : TypeId) : Blk (w.alloc (.cells cs T)) w.heap.size cs T := heap_alloc_new w _
theorem Blk.newAt {w : World} {n : Nat} {cs : Array Value} {T : TypeId} (h : w.heap.size = n) : Blk (w.alloc (.cells cs T)) n cs T := by subst h; exact heap_alloc_new w _
theorem Blk.alloc {w : World} {n : Nat} {cs : Array Value} {T : TypeId} (h : Blk w n cs T) (o : Obj) : Blk (w.alloc o) n cs T := by
  have := h.lt
  show (w.heap.push o)[n]? = _
  rw [Array.getElem?_push, if_neg (by omega)]; exact h
theorem Blk.drew {w : World} {n : Nat} {cs : Array Value} {T : TypeId} (h : Blk w n cs T) : Blk w.drew n cs T := h
theorem Blk.other {w : World} {n m j : Nat} {v : Value} {cs : Array Value} {T : TypeId} (hne : n ≠ m) (h : Blk w n cs T) : Blk (w.setCell ⟨m, j, none⟩ v) n cs T := by
  show (w.setCell ⟨m, j, none⟩ v).heap[n]? = _
  rw [Below.heap_setCell _ _ _ _ hne]; exact h
theorem Blk.put {w : World} {n j : Nat} {v : Value} {cs cs' : Array Value} {T : TypeId} (e : cs.setIfInBounds j v = cs') (h : Blk w n cs T) : Blk (w.setCell ⟨n, j, none⟩ v) n cs' T := by
  subst e
  unfold Blk at h ⊢
  have hn := Blk.lt h
  simp [World.setCell, Array.getElem?_modify, h]
theorem Blk.below {W w1 : World} {n : Nat} {cs : Array Value} {T : TypeId} (hb : Below W.heap.size W w1) (h : Blk W n cs T) : Blk w1 n cs T := by
  show w1.heap[n]? = _
  rw [hb.block n h.lt]; exact h
/-! What the walks use again and again, under short names. -/
theorem SZ : (∀ (w : World) (o : Obj), (w.alloc o).heap.size = w.heap.size + 1) ∧ (∀ (w : World) (a : Addr) (v : Value), (w.setCell a v).heap.size = w.heap.size) ∧ (∀ w : World, w.drew.heap.size = w.heap.size) ∧ (∀ n m k : Nat, n + m + k = n + (m + k)) :=
  ⟨World.size_alloc, World.size_setCell, World.size_drew, Nat.add_assoc⟩
theorem PT : (∀ (a : Act) (v : Value), a.put none v = a) ∧ (∀ (a : Act) (d : Tmp) (v : Value), a.put (some d) v = ⟨a.tmps.setIfInBounds d v, a.defers⟩) ∧ (∀ (l : List Value) (i : Nat) (v : Value), l.toArray.setIfInBounds i v = (l.set i v).toArray) ∧
    (∀ (x : Value) (l : List Value) (v : Value), (x :: l).set 0 v = v :: l) ∧ (∀ (x : Value) (l : List Value) (i : Nat) (v : Value), (x :: l).set (i + 1) v = x :: l.set i v) :=
  ⟨fun _ _ => rfl, fun _ _ _ => rfl, fun l i v => List.setIfInBounds_toArray l i v, fun _ _ _ => rfl, fun _ _ _ _ => rfl⟩
theorem kp {p : Prop} (h : p := by ((try dsimp only); first | with_reducible assumption | (simp [*, go_sem]; done) | (refine ⟨?_, ?_⟩ <;> simp [*, go_sem]))) : p := h
theorem bl {p : Prop} (h : p := by (repeat' (first | (with_reducible exact Below.refl _ _) | (with_reducible refine Below.alloc ?_ ?_ _) | (with_reducible refine Below.setCell ?_ ?_ _) | (with_reducible refine Below.drew ?_) | (with_reducible refine below_drewN' ?_) | (with_reducible refine below_bytesW ?_ ?_) | (with_reducible refine Below.trans ?_ (Below.mono (by assumption) ?_)) | omega | (simp only [World.size_alloc, World.size_setCell, World.size_drew]; omega) | (simp [size_bytesW]; omega) | (simp; omega)))) : p := h
theorem Live.callA {w0 W w1 : World} {k : Nat} {l : List Nat} (h : Live w0 l) (hb : Below W.heap.size W w1) (hz : w0.heap.size + k ≤ w1.heap.size) (hs : W.heap.size = w0.heap.size + k := by simp only [SZ, Nat.reduceAdd]) :
    Live w1 (addN w0.heap.size k l) ∧ Kept W w1 (addN w0.heap.size k l) := Live.call h hb hz hs
theorem Live.call0A {w0 W w1 : World} {l : List Nat} (h : Live w0 l) (hb : Below W.heap.size W w1) (hz : w0.heap.size ≤ w1.heap.size) (hs : W.heap.size = w0.heap.size := by first | rfl | simp only [SZ, Nat.reduceAdd]) :
    Live w1 l ∧ Kept W w1 l := Live.call0 h hb hz hs
def phG : Nat → Nat → List Edge
  | _, 0 => []
  | i, n + 1 => ⟨i, .phase⟩ :: phG (i + 1) n
def phs (l : List Edge) (n : Nat) : Array Edge := List.toArray (l ++ phG 0 n)
section
variable {P : Program} {md : Region.Mode} {ops : Array Oper} {Q : Exit → Act → World → Prop} {S : World → Prop} {fuel : Nat} {listed : Array Bool} {a : Act} {w : World}
theorem tkZ (i : Nat) (oi : Oper) {v : Value} {a' : Act} {l' : Array Bool} (h : wpAnyH P md ops Q S fuel l' a' w) (hy : ∀ w, S w → (execOp a.eval oi).run P w = .ok (.value v) w := by intro w hSw; (try dsimp only at hSw); go_simp; (try with_reducible rfl))
    (ha : a.put oi.dst v = a' := by (try simp only [PT]); exact rfl) (hl : listed.setIfInBounds i true = l' := by (try simp only [PT]); exact rfl) (hi : ops[i]? = some oi := by rfl)
    (hs : Region.noSelect ops = true := by kernel_rfl) (hf : Region.free md ops listed i = true := by kernel_rfl) (hr : (Region.ready md ops listed).contains i = true := by kernel_rfl)
    (hQ : ∀ c a w, Q (.panic c) (a.put oi.dst v) w → Q (.panic c) a w := by exact fun _ _ _ h => h) (hw : Region.wanted oi (yielded ops a.tmps) = true := by rfl) (hS : S w := by assumption) : wpAnyH P md ops Q S (fuel + 1) listed a w := by
  subst ha; subst hl
  exact wpAnyH_take hi hs hf hr hQ (Or.inl ⟨hw, hy⟩) hS h
theorem tkM (i : Nat) (oi : Oper) {a' : Act} {l' : Array Bool} (h : wpAnyH P md ops Q S fuel l' a' w) (ha : a.put oi.dst undef = a' := by (try simp only [PT]); exact rfl) (hl : listed.setIfInBounds i true = l' := by (try simp only [PT]); exact rfl) (hi : ops[i]? = some oi := by rfl)
    (hs : Region.noSelect ops = true := by kernel_rfl) (hf : Region.free md ops listed i = true := by kernel_rfl) (hr : (Region.ready md ops listed).contains i = true := by kernel_rfl)
    (hQ : ∀ c a w, Q (.panic c) (a.put oi.dst undef) w → Q (.panic c) a w := by exact fun _ _ _ h => h) (hw : Region.wanted oi (yielded ops a.tmps) = false := by rfl) (hS : S w := by assumption) : wpAnyH P md ops Q S (fuel + 1) listed a w := by
  subst ha; subst hl
  exact wpAnyH_take hi hs hf hr hQ (Or.inr ⟨hw, rfl⟩) hS h
theorem rq0 : AllReadyH P md ops Q S fuel listed a w [] := AllReadyH.nil
theorem rqC {i : Nat} (o : Oper) {rs : List Nat} (h : ∀ K' : Act → World → Prop, Shut (∀ a w, S w → (S w → wpAnyH P md ops Q S fuel (listed.setIfInBounds i true) a w) → K' a w) → if Region.wanted o (yielded ops a.tmps) = true then Oper.wp P o a w K' Q else K' (a.put o.dst undef) w)
    (hs : AllReadyH P md ops Q S fuel listed a w rs) (ho : ops[i]? = some o := by rfl) : AllReadyH P md ops Q S fuel listed a w (i :: rs) := AllReadyH.cons ho h hs
theorem rqS (rs : List Nat) (h : AllReadyH P md ops Q S fuel listed a w rs) (hr : Region.ready md ops listed = rs := by kernel_rfl) (hne : rs ≠ [] := by simp) : wpAnyH P md ops Q S (fuel + 1) listed a w := wpAnyH_ready hr hne h
end
end Go.Proofs.YtocgindpjjolpaaGreatDoor
namespace Go.Proofs
open Go.Shelf
def Tryz.lays106_ren : Go.Shelf.Ren := ⟨fun | 106 => 161 | 213 => 169 | 265 => 176 | n => n, fun | 9 => 9 | 3 => 3 | n => n, fun | n => n⟩
theorem Tryz.lays106 : Go.Proofs.Lays.n106 Tryz.prog Tryz.lays106_ren := {
  mixed := by kernel_rfl
  f106 := Tryz.func161.trans (congrArg some (by kernel_rfl))
  f213 := Tryz.func169.trans (congrArg some (by kernel_rfl))
  f265 := Tryz.func176.trans (congrArg some (by kernel_rfl))
  t3 := Tryz.underlying3
  a3 := Tryz.isAgg3
  z3 := Tryz.sizeOf3
  v3 := Tryz.zeroValue3
  t9 := Tryz.underlying9
  a9 := Tryz.isAgg9
  z9 := Tryz.sizeOf9
  v9 := Tryz.zeroValue9 }
def Tryz.lays122_ren : Go.Shelf.Ren := ⟨fun | 122 => 54 | 215 => 83 | n => n, fun | 3 => 3 | 4 => 4 | n => n, fun | n => n⟩
theorem Tryz.lays122 : Go.Proofs.Lays.n122 Tryz.prog Tryz.lays122_ren := {
  mixed := by kernel_rfl
  f122 := Tryz.func54.trans (congrArg some (by kernel_rfl))
  f215 := Tryz.func83.trans (congrArg some (by kernel_rfl))
  t3 := Tryz.underlying3
  a3 := Tryz.isAgg3
  z3 := Tryz.sizeOf3
  v3 := Tryz.zeroValue3
  t4 := Tryz.underlying4
  a4 := Tryz.isAgg4
  z4 := Tryz.sizeOf4
  v4 := Tryz.zeroValue4 }
def Tryz.lays144_ren : Go.Shelf.Ren := ⟨fun | 144 => 158 | 143 => 156 | 219 => 166 | 217 => 172 | 225 => 173 | 224 => 174 | 267 => 175 | 266 => 179 | 314 => 180 | n => n, fun | 9 => 9 | 4 => 4 | 3 => 3 | 5 => 5 | 46 => 93 | 146 => 154 | 51 => 119 | n => n, fun | 1 => 0 | n => n⟩
theorem Tryz.lays144 : Go.Proofs.Lays.n144 Tryz.prog Tryz.lays144_ren := {
  mixed := by kernel_rfl
  f143 := Tryz.func156.trans (congrArg some (by kernel_rfl))
  f144 := Tryz.func158.trans (congrArg some (by kernel_rfl))
  f217 := Tryz.func172.trans (congrArg some (by kernel_rfl))
  f219 := Tryz.func166.trans (congrArg some (by kernel_rfl))
  f224 := Tryz.func174.trans (congrArg some (by kernel_rfl))
  f225 := Tryz.func173.trans (congrArg some (by kernel_rfl))
  f266 := Tryz.func179.trans (congrArg some (by kernel_rfl))
  f267 := Tryz.func175.trans (congrArg some (by kernel_rfl))
  f314 := Tryz.func180.trans (congrArg some (by kernel_rfl))
  t3 := Tryz.underlying3
  a3 := Tryz.isAgg3
  z3 := Tryz.sizeOf3
  v3 := Tryz.zeroValue3
  t4 := Tryz.underlying4
  a4 := Tryz.isAgg4
  z4 := Tryz.sizeOf4
  v4 := Tryz.zeroValue4
  t5 := Tryz.underlying5
  a5 := Tryz.isAgg5
  z5 := Tryz.sizeOf5
  v5 := Tryz.zeroValue5
  t9 := Tryz.underlying9
  a9 := Tryz.isAgg9
  z9 := Tryz.sizeOf9
  v9 := Tryz.zeroValue9
  t46 := Tryz.underlying93
  a46 := Tryz.isAgg93
  z46 := Tryz.sizeOf93
  v46 := Tryz.zeroValue93
  t51 := Tryz.underlying119
  a51 := Tryz.isAgg119
  z51 := Tryz.sizeOf119
  v51 := Tryz.zeroValue119
  t146 := Tryz.underlying154
  a146 := Tryz.isAgg154
  z146 := Tryz.sizeOf154
  v146 := Tryz.zeroValue154
  g1 := by kernel_rfl }
def Tryz.lays190_ren : Go.Shelf.Ren := ⟨fun | 190 => 41 | 125 => 70 | 258 => 69 | 128 => 101 | 129 => 102 | 302 => 92 | 303 => 93 | 304 => 94 | 305 => 95 | 306 => 96 | 307 => 97 | 308 => 98 | 309 => 99 | 310 => 100 | 333 => 129 | 329 => 130 | 330 => 131 | 334 => 132 | 335 => 133 | 336 => 134 | 344 => 151 | n => n, fun | 31 => 26 | 9 => 9 | 3 => 3 | 46 => 93 | 0 => 0 | 51 => 119 | 53 => 121 | 4 => 4 | 183 => 112 | 182 => 111 | 131 => 57 | 5 => 5 | 218 => 148 | 222 => 152 | 228 => 162 | 229 => 163 | n => n, fun | n => n⟩
theorem Tryz.lays190 : Go.Proofs.Lays.n190 Tryz.prog Tryz.lays190_ren := {
  mixed := by kernel_rfl
  f125 := Tryz.func70.trans (congrArg some (by kernel_rfl))
  f128 := Tryz.func101.trans (congrArg some (by kernel_rfl))
  f129 := Tryz.func102.trans (congrArg some (by kernel_rfl))
  f190 := Tryz.func41.trans (congrArg some (by kernel_rfl))
  f258 := Tryz.func69.trans (congrArg some (by kernel_rfl))
  f302 := Tryz.func92.trans (congrArg some (by kernel_rfl))
  f303 := Tryz.func93.trans (congrArg some (by kernel_rfl))
  f304 := Tryz.func94.trans (congrArg some (by kernel_rfl))
  f305 := Tryz.func95.trans (congrArg some (by kernel_rfl))
  f306 := Tryz.func96.trans (congrArg some (by kernel_rfl))
  f307 := Tryz.func97.trans (congrArg some (by kernel_rfl))
  f308 := Tryz.func98.trans (congrArg some (by kernel_rfl))
  f309 := Tryz.func99.trans (congrArg some (by kernel_rfl))
  f310 := Tryz.func100.trans (congrArg some (by kernel_rfl))
  f329 := Tryz.func130.trans (congrArg some (by kernel_rfl))
  f330 := Tryz.func131.trans (congrArg some (by kernel_rfl))
  f333 := Tryz.func129.trans (congrArg some (by kernel_rfl))
  f334 := Tryz.func132.trans (congrArg some (by kernel_rfl))
  f335 := Tryz.func133.trans (congrArg some (by kernel_rfl))
  f336 := Tryz.func134.trans (congrArg some (by kernel_rfl))
  f344 := Tryz.func151.trans (congrArg some (by kernel_rfl))
  t0 := Tryz.underlying0
  a0 := Tryz.isAgg0
  z0 := Tryz.sizeOf0
  v0 := Tryz.zeroValue0
  t3 := Tryz.underlying3
  a3 := Tryz.isAgg3
  z3 := Tryz.sizeOf3
  v3 := Tryz.zeroValue3
  t4 := Tryz.underlying4
  a4 := Tryz.isAgg4
  z4 := Tryz.sizeOf4
  v4 := Tryz.zeroValue4
  t5 := Tryz.underlying5
  a5 := Tryz.isAgg5
  z5 := Tryz.sizeOf5
  v5 := Tryz.zeroValue5
  t9 := Tryz.underlying9
  a9 := Tryz.isAgg9
  z9 := Tryz.sizeOf9
  v9 := Tryz.zeroValue9
  t31 := Tryz.underlying26
  a31 := Tryz.isAgg26
  z31 := Tryz.sizeOf26
  v31 := Tryz.zeroValue26
  t46 := Tryz.underlying93
  a46 := Tryz.isAgg93
  z46 := Tryz.sizeOf93
  v46 := Tryz.zeroValue93
  t51 := Tryz.underlying119
  a51 := Tryz.isAgg119
  z51 := Tryz.sizeOf119
  v51 := Tryz.zeroValue119
  t53 := Tryz.underlying121
  a53 := Tryz.isAgg121
  z53 := Tryz.sizeOf121
  v53 := Tryz.zeroValue121
  t131 := Tryz.underlying57
  a131 := Tryz.isAgg57
  z131 := Tryz.sizeOf57
  v131 := Tryz.zeroValue57
  t182 := Tryz.underlying111
  a182 := Tryz.isAgg111
  z182 := Tryz.sizeOf111
  v182 := Tryz.zeroValue111
  t183 := Tryz.underlying112
  a183 := Tryz.isAgg112
  z183 := Tryz.sizeOf112
  v183 := Tryz.zeroValue112
  t218 := Tryz.underlying148
  a218 := Tryz.isAgg148
  z218 := Tryz.sizeOf148
  v218 := Tryz.zeroValue148
  t222 := Tryz.underlying152
  a222 := Tryz.isAgg152
  z222 := Tryz.sizeOf152
  v222 := Tryz.zeroValue152
  t228 := Tryz.underlying162
  a228 := Tryz.isAgg162
  z228 := Tryz.sizeOf162
  v228 := Tryz.zeroValue162
  t229 := Tryz.underlying163
  a229 := Tryz.isAgg163
  z229 := Tryz.sizeOf163
  v229 := Tryz.zeroValue163 }
def Tryz.lays101_ren : Go.Shelf.Ren := ⟨fun | 101 => 160 | 208 => 168 | 206 => 137 | n => n, fun | 9 => 9 | 4 => 4 | 3 => 3 | n => n, fun | n => n⟩
theorem Tryz.lays101 : Go.Proofs.Lays.n101 Tryz.prog Tryz.lays101_ren := {
  mixed := by kernel_rfl
  f101 := Tryz.func160.trans (congrArg some (by kernel_rfl))
  f206 := Tryz.func137.trans (congrArg some (by kernel_rfl))
  f208 := Tryz.func168.trans (congrArg some (by kernel_rfl))
  t3 := Tryz.underlying3
  a3 := Tryz.isAgg3
  z3 := Tryz.sizeOf3
  v3 := Tryz.zeroValue3
  t4 := Tryz.underlying4
  a4 := Tryz.isAgg4
  z4 := Tryz.sizeOf4
  v4 := Tryz.zeroValue4
  t9 := Tryz.underlying9
  a9 := Tryz.isAgg9
  z9 := Tryz.sizeOf9
  v9 := Tryz.zeroValue9 }
def Tryz.laysM146_ren : Go.Shelf.Ren := ⟨fun | 146 => 110 | 221 => 140 | 268 => 154 | 138 => 155 | 143 => 156 | 195 => 163 | 197 => 164 | 218 => 165 | 219 => 166 | 260 => 171 | 217 => 172 | 225 => 173 | 224 => 174 | 267 => 175 | 266 => 179 | 314 => 180 | n => n, fun | 9 => 9 | 31 => 26 | 3 => 3 | 4 => 4 | 0 => 0 | 105 => 173 | 21 => 21 | 5 => 5 | 46 => 93 | 119 => 177 | 139 => 180 | 138 => 179 | 146 => 154 | 51 => 119 | n => n, fun | 1 => 0 | 3 => 1 | 4 => 2 | n => n⟩
theorem Tryz.laysM146 : Go.Proofs.LaysM.n146 Tryz.prog Tryz.laysM146_ren := {
  mixed := by kernel_rfl
  f138 := Tryz.func155.trans (congrArg some (by kernel_rfl))
  f143 := Tryz.func156.trans (congrArg some (by kernel_rfl))
  f146 := Tryz.func110.trans (congrArg some (by kernel_rfl))
  f195 := Tryz.func163.trans (congrArg some (by kernel_rfl))
  f197 := Tryz.func164.trans (congrArg some (by kernel_rfl))
  f217 := Tryz.func172.trans (congrArg some (by kernel_rfl))
  f218 := Tryz.func165.trans (congrArg some (by kernel_rfl))
  f219 := Tryz.func166.trans (congrArg some (by kernel_rfl))
  f221 := Tryz.func140.trans (congrArg some (by kernel_rfl))
  f224 := Tryz.func174.trans (congrArg some (by kernel_rfl))
  f225 := Tryz.func173.trans (congrArg some (by kernel_rfl))
  f260 := Tryz.func171.trans (congrArg some (by kernel_rfl))
  f266 := Tryz.func179.trans (congrArg some (by kernel_rfl))
  f267 := Tryz.func175.trans (congrArg some (by kernel_rfl))
  f268 := Tryz.func154.trans (congrArg some (by kernel_rfl))
  f314 := Tryz.func180.trans (congrArg some (by kernel_rfl))
  t0 := Tryz.underlying0
  a0 := Tryz.isAgg0
  z0 := Tryz.sizeOf0
  v0 := Tryz.zeroValue0
  t3 := Tryz.underlying3
  a3 := Tryz.isAgg3
  z3 := Tryz.sizeOf3
  v3 := Tryz.zeroValue3
  t4 := Tryz.underlying4
  a4 := Tryz.isAgg4
  z4 := Tryz.sizeOf4
  v4 := Tryz.zeroValue4
  t5 := Tryz.underlying5
  a5 := Tryz.isAgg5
  z5 := Tryz.sizeOf5
  v5 := Tryz.zeroValue5
  t9 := Tryz.underlying9
  a9 := Tryz.isAgg9
  z9 := Tryz.sizeOf9
  v9 := Tryz.zeroValue9
  t21 := Tryz.underlying21
  a21 := Tryz.isAgg21
  z21 := Tryz.sizeOf21
  v21 := Tryz.zeroValue21
  t31 := Tryz.underlying26
  a31 := Tryz.isAgg26
  z31 := Tryz.sizeOf26
  v31 := Tryz.zeroValue26
  t46 := Tryz.underlying93
  a46 := Tryz.isAgg93
  z46 := Tryz.sizeOf93
  v46 := Tryz.zeroValue93
  t51 := Tryz.underlying119
  a51 := Tryz.isAgg119
  z51 := Tryz.sizeOf119
  v51 := Tryz.zeroValue119
  t105 := Tryz.underlying173
  a105 := Tryz.isAgg173
  z105 := Tryz.sizeOf173
  v105 := Tryz.zeroValue173
  t119 := Tryz.underlying177
  a119 := Tryz.isAgg177
  z119 := Tryz.sizeOf177
  t138 := Tryz.underlying179
  a138 := Tryz.isAgg179
  z138 := Tryz.sizeOf179
  v138 := Tryz.zeroValue179
  t139 := Tryz.underlying180
  a139 := Tryz.isAgg180
  z139 := Tryz.sizeOf180
  v139 := Tryz.zeroValue180
  t146 := Tryz.underlying154
  a146 := Tryz.isAgg154
  z146 := Tryz.sizeOf154
  v146 := Tryz.zeroValue154
  g1 := by kernel_rfl
  g3 := by kernel_rfl
  g4 := by kernel_rfl
  i0 := by kernel_rfl
  i3 := by kernel_rfl
  i4 := by kernel_rfl
  i5 := by kernel_rfl
  i9 := by kernel_rfl
  i21 := by kernel_rfl
  i31 := by kernel_rfl
  i46 := by kernel_rfl
  i51 := by kernel_rfl
  i105 := by kernel_rfl
  i138 := by kernel_rfl
  i139 := by kernel_rfl
  i146 := by kernel_rfl
  m1 := by kernel_rfl
  s1_3 := fun w h => Go.Proofs.cell_of_shapedOpen_int (zero := #[.int .i64 0]) (t := 3) h (of_decide_eq_true (by kernel_rfl)) (by kernel_rfl) rfl (by kernel_rfl) (by kernel_rfl) Tryz.underlying3
  m3 := by kernel_rfl
  m4 := by kernel_rfl }
def Tryz.lays197_ren : Go.Shelf.Ren := ⟨fun | 197 => 164 | 260 => 171 | n => n, fun | 9 => 9 | 21 => 21 | 3 => 3 | 4 => 4 | 5 => 5 | 105 => 173 | 119 => 177 | 0 => 0 | 46 => 93 | 139 => 180 | 138 => 179 | n => n, fun | 3 => 1 | 4 => 2 | n => n⟩
theorem Tryz.lays197 : Go.Proofs.Lays.n197 Tryz.prog Tryz.lays197_ren := {
  mixed := by kernel_rfl
  f197 := Tryz.func164.trans (congrArg some (by kernel_rfl))
  f260 := Tryz.func171.trans (congrArg some (by kernel_rfl))
  t0 := Tryz.underlying0
  a0 := Tryz.isAgg0
  z0 := Tryz.sizeOf0
  v0 := Tryz.zeroValue0
  t3 := Tryz.underlying3
  a3 := Tryz.isAgg3
  z3 := Tryz.sizeOf3
  v3 := Tryz.zeroValue3
  t4 := Tryz.underlying4
  a4 := Tryz.isAgg4
  z4 := Tryz.sizeOf4
  v4 := Tryz.zeroValue4
  t5 := Tryz.underlying5
  a5 := Tryz.isAgg5
  z5 := Tryz.sizeOf5
  v5 := Tryz.zeroValue5
  t9 := Tryz.underlying9
  a9 := Tryz.isAgg9
  z9 := Tryz.sizeOf9
  v9 := Tryz.zeroValue9
  t21 := Tryz.underlying21
  a21 := Tryz.isAgg21
  z21 := Tryz.sizeOf21
  v21 := Tryz.zeroValue21
  t46 := Tryz.underlying93
  a46 := Tryz.isAgg93
  z46 := Tryz.sizeOf93
  v46 := Tryz.zeroValue93
  t105 := Tryz.underlying173
  a105 := Tryz.isAgg173
  z105 := Tryz.sizeOf173
  v105 := Tryz.zeroValue173
  t119 := Tryz.underlying177
  a119 := Tryz.isAgg177
  z119 := Tryz.sizeOf177
  t138 := Tryz.underlying179
  a138 := Tryz.isAgg179
  z138 := Tryz.sizeOf179
  v138 := Tryz.zeroValue179
  t139 := Tryz.underlying180
  a139 := Tryz.isAgg180
  z139 := Tryz.sizeOf180
  v139 := Tryz.zeroValue180
  g3 := by kernel_rfl
  g4 := by kernel_rfl }
def Tryz.lays105_ren : Go.Shelf.Ren := ⟨fun | 105 => 74 | 212 => 104 | 99 => 105 | 165 => 106 | 166 => 107 | 170 => 108 | 169 => 109 | 263 => 135 | 264 => 136 | 206 => 137 | 240 => 138 | 241 => 139 | 276 => 152 | 277 => 153 | n => n, fun | 9 => 9 | 3 => 3 | 4 => 4 | 20 => 20 | 0 => 0 | 46 => 93 | 109 => 123 | 5 => 5 | 72 => 127 | 76 => 131 | 51 => 119 | 146 => 154 | 53 => 121 | 148 => 156 | 70 => 125 | 37 => 55 | 75 => 130 | 127 => 158 | 164 => 165 | 80 => 134 | n => n, fun | n => n⟩
theorem Tryz.lays105 : Go.Proofs.Lays.n105 Tryz.prog Tryz.lays105_ren := {
  mixed := by kernel_rfl
  f99 := Tryz.func105.trans (congrArg some (by kernel_rfl))
  f105 := Tryz.func74.trans (congrArg some (by kernel_rfl))
  f165 := Tryz.func106.trans (congrArg some (by kernel_rfl))
  f166 := Tryz.func107.trans (congrArg some (by kernel_rfl))
  f169 := Tryz.func109.trans (congrArg some (by kernel_rfl))
  f170 := Tryz.func108.trans (congrArg some (by kernel_rfl))
  f206 := Tryz.func137.trans (congrArg some (by kernel_rfl))
  f212 := Tryz.func104.trans (congrArg some (by kernel_rfl))
  f240 := Tryz.func138.trans (congrArg some (by kernel_rfl))
  f241 := Tryz.func139.trans (congrArg some (by kernel_rfl))
  f263 := Tryz.func135.trans (congrArg some (by kernel_rfl))
  f264 := Tryz.func136.trans (congrArg some (by kernel_rfl))
  f276 := Tryz.func152.trans (congrArg some (by kernel_rfl))
  f277 := Tryz.func153.trans (congrArg some (by kernel_rfl))
  t0 := Tryz.underlying0
  a0 := Tryz.isAgg0
  z0 := Tryz.sizeOf0
  v0 := Tryz.zeroValue0
  t3 := Tryz.underlying3
  a3 := Tryz.isAgg3
  z3 := Tryz.sizeOf3
  v3 := Tryz.zeroValue3
  t4 := Tryz.underlying4
  a4 := Tryz.isAgg4
  z4 := Tryz.sizeOf4
  v4 := Tryz.zeroValue4
  t5 := Tryz.underlying5
  a5 := Tryz.isAgg5
  z5 := Tryz.sizeOf5
  v5 := Tryz.zeroValue5
  t9 := Tryz.underlying9
  a9 := Tryz.isAgg9
  z9 := Tryz.sizeOf9
  v9 := Tryz.zeroValue9
  t20 := Tryz.underlying20
  a20 := Tryz.isAgg20
  z20 := Tryz.sizeOf20
  v20 := Tryz.zeroValue20
  t37 := Tryz.underlying55
  a37 := Tryz.isAgg55
  z37 := Tryz.sizeOf55
  v37 := Tryz.zeroValue55
  t46 := Tryz.underlying93
  a46 := Tryz.isAgg93
  z46 := Tryz.sizeOf93
  v46 := Tryz.zeroValue93
  t51 := Tryz.underlying119
  a51 := Tryz.isAgg119
  z51 := Tryz.sizeOf119
  v51 := Tryz.zeroValue119
  t53 := Tryz.underlying121
  a53 := Tryz.isAgg121
  z53 := Tryz.sizeOf121
  v53 := Tryz.zeroValue121
  t70 := Tryz.underlying125
  a70 := Tryz.isAgg125
  z70 := Tryz.sizeOf125
  v70 := Tryz.zeroValue125
  t72 := Tryz.underlying127
  a72 := Tryz.isAgg127
  z72 := Tryz.sizeOf127
  v72 := Tryz.zeroValue127
  t75 := Tryz.underlying130
  a75 := Tryz.isAgg130
  z75 := Tryz.sizeOf130
  v75 := Tryz.zeroValue130
  t76 := Tryz.underlying131
  a76 := Tryz.isAgg131
  z76 := Tryz.sizeOf131
  v76 := Tryz.zeroValue131
  t109 := Tryz.underlying123
  a109 := Tryz.isAgg123
  z109 := Tryz.sizeOf123
  v109 := Tryz.zeroValue123
  t127 := Tryz.underlying158
  a127 := Tryz.isAgg158
  z127 := Tryz.sizeOf158
  v127 := Tryz.zeroValue158
  t146 := Tryz.underlying154
  a146 := Tryz.isAgg154
  z146 := Tryz.sizeOf154
  v146 := Tryz.zeroValue154
  t148 := Tryz.underlying156
  a148 := Tryz.isAgg156
  z148 := Tryz.sizeOf156
  v148 := Tryz.zeroValue156
  t164 := Tryz.underlying165
  a164 := Tryz.isAgg165
  z164 := Tryz.sizeOf165
  v164 := Tryz.zeroValue165 }
def Tryz.lays107_ren : Go.Shelf.Ren := ⟨fun | 107 => 89 | 108 => 127 | n => n, fun | 28 => 85 | 3 => 3 | 4 => 4 | 0 => 0 | n => n, fun | n => n⟩
theorem Tryz.lays107 : Go.Proofs.Lays.n107 Tryz.prog Tryz.lays107_ren := {
  mixed := by kernel_rfl
  f107 := Tryz.func89.trans (congrArg some (by kernel_rfl))
  f108 := Tryz.func127.trans (congrArg some (by kernel_rfl))
  t0 := Tryz.underlying0
  a0 := Tryz.isAgg0
  z0 := Tryz.sizeOf0
  v0 := Tryz.zeroValue0
  t3 := Tryz.underlying3
  a3 := Tryz.isAgg3
  z3 := Tryz.sizeOf3
  v3 := Tryz.zeroValue3
  t4 := Tryz.underlying4
  a4 := Tryz.isAgg4
  z4 := Tryz.sizeOf4
  v4 := Tryz.zeroValue4
  t28 := Tryz.underlying85
  a28 := Tryz.isAgg85
  z28 := Tryz.sizeOf85
  v28 := Tryz.zeroValue85 }
def Tryz.lays109_ren : Go.Shelf.Ren := ⟨fun | 109 => 33 | n => n, fun | 31 => 26 | 9 => 9 | 3 => 3 | 0 => 0 | 4 => 4 | n => n, fun | n => n⟩
theorem Tryz.lays109 : Go.Proofs.Lays.n109 Tryz.prog Tryz.lays109_ren := {
  mixed := by kernel_rfl
  f109 := Tryz.func33.trans (congrArg some (by kernel_rfl))
  t0 := Tryz.underlying0
  a0 := Tryz.isAgg0
  z0 := Tryz.sizeOf0
  v0 := Tryz.zeroValue0
  t3 := Tryz.underlying3
  a3 := Tryz.isAgg3
  z3 := Tryz.sizeOf3
  v3 := Tryz.zeroValue3
  t4 := Tryz.underlying4
  a4 := Tryz.isAgg4
  z4 := Tryz.sizeOf4
  v4 := Tryz.zeroValue4
  t9 := Tryz.underlying9
  a9 := Tryz.isAgg9
  z9 := Tryz.sizeOf9
  v9 := Tryz.zeroValue9
  t31 := Tryz.underlying26
  a31 := Tryz.isAgg26
  z31 := Tryz.sizeOf26
  v31 := Tryz.zeroValue26 }
def Tryz.lays110_ren : Go.Shelf.Ren := ⟨fun | 110 => 32 | 109 => 33 | n => n, fun | 31 => 26 | 9 => 9 | 4 => 4 | 3 => 3 | 0 => 0 | n => n, fun | n => n⟩
theorem Tryz.lays110 : Go.Proofs.Lays.n110 Tryz.prog Tryz.lays110_ren := {
  mixed := by kernel_rfl
  f109 := Tryz.func33.trans (congrArg some (by kernel_rfl))
  f110 := Tryz.func32.trans (congrArg some (by kernel_rfl))
  t0 := Tryz.underlying0
  a0 := Tryz.isAgg0
  z0 := Tryz.sizeOf0
  v0 := Tryz.zeroValue0
  t3 := Tryz.underlying3
  a3 := Tryz.isAgg3
  z3 := Tryz.sizeOf3
  v3 := Tryz.zeroValue3
  t4 := Tryz.underlying4
  a4 := Tryz.isAgg4
  z4 := Tryz.sizeOf4
  v4 := Tryz.zeroValue4
  t9 := Tryz.underlying9
  a9 := Tryz.isAgg9
  z9 := Tryz.sizeOf9
  v9 := Tryz.zeroValue9
  t31 := Tryz.underlying26
  a31 := Tryz.isAgg26
  z31 := Tryz.sizeOf26
  v31 := Tryz.zeroValue26 }
def Tryz.laysNm215_ren : Go.Shelf.Ren := ⟨fun | 15 => 88 | n => n, fun | 22 => 85 | 3 => 3 | 4 => 4 | n => n, fun | n => n⟩
theorem Tryz.laysNm215 : Go.Proofs.Lays2.n15 Tryz.prog Tryz.laysNm215_ren := {
  mixed := by kernel_rfl
  f15 := Tryz.func88.trans (congrArg some (by kernel_rfl))
  t3 := Tryz.underlying3
  a3 := Tryz.isAgg3
  z3 := Tryz.sizeOf3
  v3 := Tryz.zeroValue3
  t4 := Tryz.underlying4
  a4 := Tryz.isAgg4
  z4 := Tryz.sizeOf4
  v4 := Tryz.zeroValue4
  t22 := Tryz.underlying85
  a22 := Tryz.isAgg85
  z22 := Tryz.sizeOf85
  v22 := Tryz.zeroValue85
  i3 := by kernel_rfl }
def Tryz.laysNm216_ren : Go.Shelf.Ren := ⟨fun | 16 => 38 | n => n, fun | 24 => 26 | 9 => 9 | 4 => 4 | n => n, fun | n => n⟩
theorem Tryz.laysNm216 : Go.Proofs.Lays2.n16 Tryz.prog Tryz.laysNm216_ren := {
  mixed := by kernel_rfl
  f16 := Tryz.func38.trans (congrArg some (by kernel_rfl))
  t4 := Tryz.underlying4
  a4 := Tryz.isAgg4
  z4 := Tryz.sizeOf4
  v4 := Tryz.zeroValue4
  t9 := Tryz.underlying9
  a9 := Tryz.isAgg9
  z9 := Tryz.sizeOf9
  v9 := Tryz.zeroValue9
  t24 := Tryz.underlying26
  a24 := Tryz.isAgg26
  z24 := Tryz.sizeOf26
  v24 := Tryz.zeroValue26
  i9 := by kernel_rfl }
def Tryz.laysSlF20_f115_ren : Go.Shelf.Ren := ⟨fun | 20 => 115 | n => n, fun | 24 => 9 | 22 => 26 | 3 => 3 | 25 => 60 | 4 => 4 | 0 => 0 | n => n, fun | n => n⟩
theorem Tryz.laysSlF20_f115 : Go.Proofs.SlLaysF.n20 Tryz.prog Tryz.laysSlF20_f115_ren := {
  mixed := by kernel_rfl
  f20 := ⟨Tryz.f115.name, by decide, Tryz.func115.trans (congrArg some (by kernel_rfl))⟩
  t0 := Tryz.underlying0
  a0 := Tryz.isAgg0
  z0 := Tryz.sizeOf0
  v0 := Tryz.zeroValue0
  t3 := Tryz.underlying3
  a3 := Tryz.isAgg3
  z3 := Tryz.sizeOf3
  v3 := Tryz.zeroValue3
  t4 := Tryz.underlying4
  a4 := Tryz.isAgg4
  z4 := Tryz.sizeOf4
  v4 := Tryz.zeroValue4
  t22 := Tryz.underlying26
  a22 := Tryz.isAgg26
  z22 := Tryz.sizeOf26
  v22 := Tryz.zeroValue26
  a24 := Tryz.isAgg9
  z24 := Tryz.sizeOf9
  t25 := Tryz.underlying60
  a25 := Tryz.isAgg60
  z25 := Tryz.sizeOf60
  v25 := Tryz.zeroValue60 }
end Go.Proofs
namespace Go.Proofs.YtocgindpjjolpaaGreatDoor
set_option linter.unusedSimpArgs false
set_option linter.unusedVariables false
open Go.PlainAid (bt get_bt bt_nonneg bt_le bt_end)
def chB (n : Int) : Bool := decide (32 ≤ n ∧ n ≤ 65533 ∧ (n < 55296 ∨ 57343 < n))
def c2 (s : ByteArray) : Int := (bt s 0 - 192) * 64 + bt s 1 - 128
def c3 (s : ByteArray) : Int := (bt s 0 - 224) * 4096 + (bt s 1 - 128) * 64 + bt s 2 - 128
def H1 (s : ByteArray) : Prop := 1 ≤ s.size ∧ 32 ≤ bt s 0 ∧ bt s 0 < 128
def H2 (s : ByteArray) : Prop := 2 ≤ s.size ∧ 194 ≤ bt s 0 ∧ bt s 0 ≤ 223 ∧ 128 ≤ bt s 1 ∧ bt s 1 ≤ 191
def H3 (s : ByteArray) : Prop := 3 ≤ s.size ∧ 224 ≤ bt s 0 ∧ bt s 0 ≤ 239 ∧ 128 ≤ bt s 1 ∧ bt s 1 ≤ 191 ∧ 128 ≤ bt s 2 ∧ bt s 2 ≤ 191 ∧ 2048 ≤ c3 s ∧ chB (c3 s) = true
theorem bt_get! (s : ByteArray) (i : Nat) : bt s i = ((s.get! i).toNat : Int) := by
  unfold bt
  split
  · rename_i h
    rw [Utf8W.get!_of_lt s i h]
  · rename_i h
    have : s.get! i = 0 := by
      obtain ⟨⟨l⟩⟩ := s
      have h' : l.length ≤ i := by simpa [ByteArray.size] using h
      simp [ByteArray.get!, h']
      rfl
    rw [this]; rfl
theorem dec_eq (s : ByteArray) (h : 1 ≤ s.size) : Lib.decodeGo s = Lib.decodeN s.size (s.get! 0).toNat (s.get! 1).toNat (s.get! 2).toNat (s.get! 3).toNat := by
  unfold Lib.decodeGo
  rw [if_neg (by omega), Lib.decode_at]
  rfl
theorem dec_1 {s : ByteArray} (h : H1 s) : ((Lib.decodeGo s).1 : Int) = bt s 0 ∧ (Lib.decodeGo s).2 = 1 := by
  obtain ⟨h0, h1, h2⟩ := h
  rw [bt_get!] at *
  rw [dec_eq s h0]
  unfold Lib.decodeN
  rw [if_pos (by omega)]
  exact ⟨rfl, rfl⟩
theorem dec_2 {s : ByteArray} (h : H2 s) : ((Lib.decodeGo s).1 : Int) = c2 s ∧ (Lib.decodeGo s).2 = 2 := by
  obtain ⟨h0, h1, h2, h3, h4⟩ := h
  unfold c2
  rw [bt_get!] at h1 h2 h3 h4
  rw [bt_get! s 0, bt_get! s 1, dec_eq s (by omega)]
  unfold Lib.decodeN
  rw [if_neg (by omega), if_pos (by omega), if_pos (by omega)]
  exact ⟨by simp only; omega, rfl⟩
theorem dec_3 {s : ByteArray} (h : H3 s) : ((Lib.decodeGo s).1 : Int) = c3 s ∧ (Lib.decodeGo s).2 = 3 := by
  obtain ⟨h0, h1, h2, h3, h4, h5, h6, h7, h8⟩ := h
  unfold chB at h8
  have h8 := of_decide_eq_true h8
  unfold c3 at *
  rw [bt_get! s 0, bt_get! s 1, bt_get! s 2] at *
  rw [dec_eq s (by omega)]
  unfold Lib.decodeN
  rw [if_neg (by omega), if_neg (by omega), if_pos (by omega), if_pos (by omega)]
  exact ⟨by simp only; omega, rfl⟩
theorem dec_0 {s : ByteArray} (h : 1 ≤ s.size) (n1 : ¬ H1 s) (n2 : ¬ H2 s) (n3 : ¬ H3 s) :
    chB ((Lib.decodeGo s).1 : Int) = false ∨ ((Lib.decodeGo s).1 = 65533 ∧ (Lib.decodeGo s).2 = 1) := by
  unfold H1 at n1
  unfold H2 at n2
  unfold H3 chB c3 at n3
  simp only [decide_eq_true_eq] at n3
  rw [bt_get! s 0] at n1
  rw [bt_get! s 0, bt_get! s 1] at n2
  rw [bt_get! s 0, bt_get! s 1, bt_get! s 2] at n3
  rw [dec_eq s h]
  have u0 := (s.get! 0).toNat_lt
  have u1 := (s.get! 1).toNat_lt
  have u2 := (s.get! 2).toNat_lt
  have u3 := (s.get! 3).toNat_lt
  generalize (s.get! 0).toNat = x0 at *
  generalize (s.get! 1).toNat = x1 at *
  generalize (s.get! 2).toNat = x2 at *
  generalize (s.get! 3).toNat = x3 at *
  unfold chB
  simp only [decide_eq_false_iff_not]
  unfold Lib.decodeN
  split
  · left; simp only; omega
  split
  · split
    · exfalso; omega
    · right; exact ⟨rfl, rfl⟩
  split
  · split
    · left; simp only; omega
    · right; exact ⟨rfl, rfl⟩
  split
  · split
    · left; simp only; omega
    · right; exact ⟨rfl, rfl⟩
  · right; exact ⟨rfl, rfl⟩
open Go.PlainAid (bt get_bt bt_nonneg bt_le bt_end)
instance (s : ByteArray) : Decidable (H1 s) := by unfold H1; infer_instance
instance (s : ByteArray) : Decidable (H2 s) := by unfold H2; infer_instance
instance (s : ByteArray) : Decidable (H3 s) := by unfold H3; infer_instance
def hd (s : ByteArray) : Nat := if H1 s then 1 else if H2 s then 2 else if H3 s then 3 else 0
def nch : Nat → ByteArray → Option Nat
  | 0, s => if s.size = 0 then some 0 else none
  | k + 1, s => if s.size = 0 then some 0 else if hd s = 0 then none else (nch k (s.extract (hd s) s.size)).map (· + 1)
def chars (s : ByteArray) : Option Nat := nch s.size s
theorem hd_le (s : ByteArray) : hd s ≤ s.size := by
  unfold hd
  split
  · rename_i h; exact h.1
  · split
    · rename_i h; exact h.1
    · split
      · rename_i h; exact h.1
      · omega
theorem nch_more : ∀ (k j : Nat) (s : ByteArray), s.size ≤ k → s.size ≤ j → nch k s = nch j s
  | 0, 0, _, _, _ => rfl
  | 0, j + 1, s, h, _ => by simp [nch, show s.size = 0 by omega]
  | k + 1, 0, s, _, h => by simp [nch, show s.size = 0 by omega]
  | k + 1, j + 1, s, h1, h2 => by
    unfold nch
    by_cases h0 : s.size = 0
    · simp [h0]
    · by_cases hh : hd s = 0
      · simp [hh]
      · simp only [h0, hh, if_false]
        rw [nch_more k j (s.extract (hd s) s.size) (by simp; omega) (by simp; omega)]
theorem chars_nil {s : ByteArray} (h : s.size = 0) : chars s = some 0 := by unfold chars; rw [h]; simp [nch, h]
theorem chars_no {s : ByteArray} (h : s.size ≠ 0) (hh : hd s = 0) : chars s = none := by
  unfold chars
  obtain ⟨k, hk⟩ : ∃ k, s.size = k + 1 := ⟨s.size - 1, by omega⟩
  rw [hk]
  simp [nch, h, hh]
theorem chars_step {s : ByteArray} (hh : hd s ≠ 0) : chars s = (chars (s.extract (hd s) s.size)).map (· + 1) := by
  have h := hd_le s
  unfold chars
  obtain ⟨k, hk⟩ : ∃ k, s.size = k + 1 := ⟨s.size - 1, by omega⟩
  have h0 : s.size ≠ 0 := by omega
  have e : nch s.size s = nch (k + 1) s := by rw [hk]
  rw [e]
  conv => lhs; unfold nch
  simp only [h0, hh, if_false]
  rw [nch_more k _ (s.extract (hd s) s.size) (by simp; omega) (Nat.le_refl _)]
theorem chars_le : ∀ (k : Nat) (s : ByteArray) (n : Nat), s.size ≤ k → chars s = some n → n ≤ s.size ∧ s.size ≤ 3 * n
  | 0, s, n, h, e => by
    rw [chars_nil (by omega)] at e; injection e with e; omega
  | k + 1, s, n, h, e => by
    by_cases h0 : s.size = 0
    · rw [chars_nil h0] at e; injection e with e; omega
    · by_cases hh : hd s = 0
      · rw [chars_no h0 hh] at e; cases e
      · rw [chars_step hh] at e
        have hl := hd_le s
        have h3 : hd s ≤ 3 := by unfold hd; repeat' split
                                 all_goals omega
        cases hc : chars (s.extract (hd s) s.size) with
        | none => rw [hc] at e; cases e
        | some m =>
          rw [hc] at e
          have hsz : (s.extract (hd s) s.size).size = s.size - hd s := by simp
          have ih := chars_le k (s.extract (hd s) s.size) m (by rw [hsz]; omega) hc
          rw [hsz] at ih
          simp only [Option.map_some, Option.some.injEq] at e
          omega
def hasC (s : ByteArray) (c : UInt8) : Bool := s.data.toList.contains c
def dot : ByteArray := ⟨#[46]⟩
def dots : ByteArray := ⟨#[46, 46]⟩
def slash : ByteArray := ⟨#[47]⟩
def nameB (s : ByteArray) : Bool := decide (s ≠ dot ∧ s ≠ dots) && !hasC s 47 && (match chars s with | some n => decide (1 ≤ n ∧ n ≤ 64) | none => false)
theorem nameB_long {s : ByteArray} (h : 300 < s.size) : nameB s = false := by
  unfold nameB
  cases hc : chars s with
  | none => simp
  | some n =>
    have := chars_le s.size s n (Nat.le_refl _) hc
    have : ¬ (1 ≤ n ∧ n ≤ 64) := by omega
    simp [this]
def partsL : List UInt8 → List UInt8 → List (List UInt8)
  | [], p => [p]
  | c :: r, p => if c = 47 then p :: partsL r [] else partsL r (p ++ [c])
end Go.Proofs.YtocgindpjjolpaaGreatDoor
