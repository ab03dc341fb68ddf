/- Trees that are arguments, opened: how they lie in memory, and how large they are. -/
import Derived.Test.YtocgindpjjolpaaGreatDoorG3
import Derived.Test.YtocgindpjjolpaaGreatDoorG4
import Derived.Test.YtocgindpjjolpaaGreatDoorG3
import Derived.Test.YtocgindpjjolpaaGreatDoorRows
import Derived.ProofKit
import Derived.OpenShut
import Derived.ChangeArms
import Derived.WideShapes
namespace Go.Proofs.YtocgindpjjolpaaGreatDoor
set_option linter.unusedSimpArgs false
set_option linter.unusedVariables false
open Go.ChangeShapes Go.WideShapes Go.ChangeAt Go.RowKit

theorem cells1s : Tryz.prog.cellsOf 9 = 1 := by kernel_rfl
theorem cells1 : Tryz.prog.cellsOf 3 = 1 := by kernel_rfl
theorem cells2t : Tryz.prog.cellsOf 136 = 2 := by kernel_rfl
theorem cells12 : Tryz.prog.cellsOf 25 = 12 := by kernel_rfl
theorem cells1a : Tryz.prog.cellsOf 23 = 1 := by kernel_rfl
theorem cells1b : Tryz.prog.cellsOf 22 = 1 := by kernel_rfl
section
variable {H : Type} {enc : TypeId × Value → H} {P : Program} {w : World} {base : Nat} {spare : Nat → Bool} {held : Bool}
/-- The fields of a struct that is walked. -/
theorem fieldX {t : TypeId} {fs : Array Field} {fuel : Nat} {cs : List Value} {x : DataW H × List MemPlace} (hs : P.underlying t = some (.struct fs)) (h : DataW.trod enc P w base spare held fuel t cs = some x) :
    ∃ (xs : List (DataW H × List MemPlace)) (n : Nat), fuel = n + 1 ∧ x.1 = .agg (xs.map (·.1)) ∧ xs.length = fs.size ∧ ∀ (i : Nat) (T : TypeId) (o k : Nat), (fs[i]?).map (fun f => (f.type, f.offset)) = some (T, o) → P.cellsOf T = k → DataW.trod enc P w base spare held n T ((cs.drop o).take k) = xs[i]? := by
  obtain ⟨xs, n, h1, h2, _, hxl, hall⟩ := DataW.trod_struct hs h
  refine ⟨xs, n, h1, by rw [h2], hxl, fun i T o k hi hk => ?_⟩
  obtain ⟨f, hf, e⟩ := Option.map_eq_some_iff.1 hi
  obtain ⟨e1, e2⟩ := Prod.mk.inj e
  have h1 := hall i f hf
  rw [e1, e2, hk] at h1
  exact h1
theorem bulk_str (l : List UInt8) : Rows.uptoBulk (DataW.lit (H := H) (.string l)) = l.length + 1 := by simp [Rows.uptoBulk]
theorem bulk_agg (l : List (DataW H)) : Rows.uptoBulk (DataW.agg l) = Rows.uptoBulkAll l + 1 := by simp [Rows.uptoBulk]
theorem bulk_slice (l m : List (DataW H)) : Rows.uptoBulkAll l + 1 ≤ Rows.uptoBulk (DataW.slice l m) := by simp only [Rows.uptoBulk]; omega
theorem bulk_cons (d : DataW H) (l : List (DataW H)) : Rows.uptoBulkAll (d :: l) = Rows.uptoBulk d + Rows.uptoBulkAll l := by simp [Rows.uptoBulkAll]
theorem bulk_int (k : IntKind) (n : Int) : Rows.uptoBulk (DataW.lit (H := H) (.int k n)) = 1 := by simp [Rows.uptoBulk]
theorem str_len (s : ByteArray) : s.data.toList.length = s.size := by rw [Array.length_toList]; rfl
/-- One stream. -/
theorem cells_st {fuel : Nat} {cs : List Value} {x : DataW H × List MemPlace} (hl : cs.length = 2) (h : DataW.trod enc Tryz.prog w base spare held fuel 136 cs = some x) :
    ∃ s : St, cs = [.string s.1, .string s.2] ∧ 20 + s.1.size + s.2.size ≤ 20 * Rows.uptoBulk x.1 := by
  obtain ⟨xs, n, _, hx, hxl, hall⟩ := fieldX Tryz.underlying136 h
  match cs, hl, xs, hxl, hall, hx with
  | [c0, c1], _, [y0, y1], _, hall, hx =>
    have h0 : DataW.trod enc Tryz.prog w base spare held n 9 [c0] = some y0 := hall 0 9 0 1 (by kernel_rfl) cells1s
    have h1 : DataW.trod enc Tryz.prog w base spare held n 9 [c1] = some y1 := hall 1 9 1 1 (by kernel_rfl) cells1s
    obtain ⟨s0, e0, rfl, -⟩ := DataW.trod_string Tryz.underlying9 h0
    obtain ⟨s1, e1, rfl, -⟩ := DataW.trod_string Tryz.underlying9 h1
    obtain rfl := (List.cons.inj e0).1
    obtain rfl := (List.cons.inj e1).1
    refine ⟨(s0, s1), rfl, ?_⟩
    rw [hx]
    simp only [List.map_cons, List.map_nil, bulk_agg, bulk_cons, bulk_str, str_len]
    omega
/-- The elements of a slice that is walked. -/
theorem elemsX {t e : TypeId} {fuel k : Nat} {c : Value} {x : DataW H × List MemPlace} (ht : P.underlying t = some (.slice e)) (hk : P.cellsOf e = k) (h : DataW.trod enc P w base spare held fuel t [c] = some x) :
    (c = .slice none 0 0 ∧ 1 ≤ Rows.uptoBulk x.1) ∨
    ∃ (a : Addr) (len cap n : Nat) (ds : List (DataW H)), fuel = n + 1 ∧ c = .slice (some a) len cap ∧ len ≤ cap ∧ ds.length = len ∧ Rows.uptoBulkAll ds + 1 ≤ Rows.uptoBulk x.1 ∧
      ∀ i, i < len → ∃ cs y, cs.length = k ∧ (∀ q u, cs[q]? = some u → w.cell? ((a.add (i * k)).add q) = some u) ∧ DataW.trod enc P w base spare held n e cs = some y ∧ ds[i]? = some y.1 := by
  rcases DataW.trod_slice ht h with ⟨h0, h1⟩ | ⟨a, len, cap, elems, rest, n, hf, hc, rfl, _, hlc, _, hlen, hel, _, _⟩
  · exact Or.inl ⟨(List.cons.inj h0).1, by rw [h1]; simp [Rows.uptoBulk]⟩
  · right
    refine ⟨a, len, cap, n, elems.map (·.1), hf, (List.cons.inj hc).1, hlc, by rw [List.length_map, hlen], bulk_slice _ _, fun i hi => ?_⟩
    have h2 := hel i hi
    rw [hk] at h2
    have hil : i < elems.length := by omega
    rw [List.getElem?_eq_getElem hil] at h2
    obtain ⟨cs, h3, h4⟩ := Option.bind_eq_some_iff.1 h2
    obtain ⟨_, h5, h6⟩ := World.cells?_some h3
    refine ⟨cs, elems[i], h5, fun q u hq => ?_, h4, by rw [List.getElem?_map, List.getElem?_eq_getElem hil]; rfl⟩
    have := (List.getElem?_eq_some_iff.1 hq).1
    rw [h6 q (by omega), hq]
theorem szS_le : ∀ (l : List St) (ds : List (DataW H)), l.length = ds.length → (∀ (i : Nat) (s : St) (d : DataW H), l[i]? = some s → ds[i]? = some d → 20 + s.1.size + s.2.size ≤ 20 * Rows.uptoBulk d) → szS l ≤ 20 * Rows.uptoBulkAll ds
  | [], _, _, _ => by simp [szS]
  | s :: l, [], h, _ => by simp at h
  | s :: l, d :: ds, h, hh => by
    have h1 := hh 0 s d rfl rfl
    have h2 := szS_le l ds (by simpa using h) (fun i s d h3 h4 => hh (i + 1) s d (by simpa using h3) (by simpa using h4))
    rw [bulk_cons]
    unfold szS
    omega
theorem szF_le : ∀ (l : List Tr) (ds : List (DataW H)), l.length = ds.length → (∀ (i : Nat) (t : Tr) (d : DataW H), l[i]? = some t → ds[i]? = some d → t.sz ≤ 20 * Rows.uptoBulk d) → (Fo.of l).sz ≤ 20 * Rows.uptoBulkAll ds
  | [], _, _, _ => by simp [Fo.of, Fo.sz]
  | s :: l, [], h, _ => by simp at h
  | t :: l, d :: ds, h, hh => by
    have h1 := hh 0 t d rfl rfl
    have h2 := szF_le l ds (by simpa using h) (fun i s d h3 h4 => hh (i + 1) s d (by simpa using h3) (by simpa using h4))
    rw [bulk_cons]
    unfold Fo.of Fo.sz
    unfold Tr.sz at h1
    omega
theorem spot_none {w : World} {a : Addr} {v : Value} (h : w.cell? a = some v) : a.spot = none := World.cell?_spot h
/-- A slice of streams. -/
theorem cells_sts {fuel : Nat} {c : Value} {x : DataW H × List MemPlace} (h : DataW.trod enc Tryz.prog w base spare held fuel 23 [c] = some x) :
    ∃ ss : List St, StR w w.heap.size c ss ∧ szS ss + 20 ≤ 20 * Rows.uptoBulk x.1 := by
  rcases elemsX Tryz.underlying23 cells2t h with ⟨rfl, h1⟩ | ⟨a, len, cap, n, ds, _, rfl, -, hdl, hb, hel⟩
  · exact ⟨[], ⟨none, 0, rfl, fun h => absurd h (by simp)⟩, by unfold szS; omega⟩
  · have each : ∀ i, ∃ s : St, i < len → (∀ q u, [Value.string s.1, Value.string s.2][q]? = some u → w.cell? ((a.add (i * 2)).add q) = some u) ∧ ∃ d, ds[i]? = some d ∧ 20 + s.1.size + s.2.size ≤ 20 * Rows.uptoBulk d := by
      intro i
      by_cases hi : i < len
      · obtain ⟨cs, y, h1, h2, h3, h4⟩ := hel i hi
        obtain ⟨s, rfl, h5⟩ := cells_st h1 h3
        exact ⟨s, fun _ => ⟨h2, _, h4, h5⟩⟩
      · exact ⟨(eS, eS), fun h => absurd h hi⟩
    obtain ⟨E, hE⟩ := Classical.axiomOfChoice each
    have hL : ((List.range len).map E).length = len := by simp
    have hget : ∀ i s, ((List.range len).map E)[i]? = some s → i < len ∧ s = E i := fun i s hs => by
      have hi : i < len := by have := (List.getElem?_eq_some_iff.1 hs).1; rwa [hL] at this
      exact ⟨hi, by simpa [hi] using hs.symm⟩
    refine ⟨(List.range len).map E, ⟨some a, cap, by rw [hL], fun h0 => ?_⟩, ?_⟩
    · rw [hL] at h0
      obtain ⟨b, off, spot⟩ := a
      have hc0 := (hE 0 h0).1 0 _ rfl
      have hsp : spot = none := by simpa [Addr.add] using World.cell?_spot hc0
      subst hsp
      refine ⟨b, off, rfl, cell_lt (b := b) (o := off) (by simpa [Addr.add] using hc0), fun j s hj => ?_⟩
      obtain ⟨hi, rfl⟩ := hget j s hj
      have q0 := (hE j hi).1 0 _ rfl
      have q1 := (hE j hi).1 1 _ rfl
      simp only [add_plain] at q0 q1
      exact ⟨by simpa using q0, by rw [← Nat.add_assoc]; exact q1⟩
    · have := szS_le ((List.range len).map E) ds (by rw [hL, hdl]) (fun i s d h3 h4 => by
        obtain ⟨hi, rfl⟩ := hget i s h3
        obtain ⟨-, d', h5, h6⟩ := hE i hi
        rw [h4] at h5
        injection h5 with h5
        rw [h5]; exact h6)
      omega
theorem forR_of {w : World} {B g : Nat} : ∀ (l : List Tr) (o : Nat), (∀ j t, l[j]? = some t → ∃ kv sv, w.rangeAt g (o + j * 12) (t.h.cells kv sv).toList ∧ StR w B sv t.ss ∧ KidR w B kv t.ks) → ForR w B (Fo.of l) g o
  | [], _, _ => trivial
  | t :: l, o, h => by
    obtain ⟨kv, sv, h1, h2, h3⟩ := h 0 t rfl
    exact ⟨⟨kv, sv, by simpa using h1, h2, h3⟩, forR_of l (o + 12) fun j u hu => by
      obtain ⟨kv, sv, h1, h2, h3⟩ := h (j + 1) u (by simpa using hu)
      exact ⟨kv, sv, by rw [show o + 12 + j * 12 = o + (j + 1) * 12 by omega]; exact h1, h2, h3⟩⟩
theorem len_of : ∀ l : List Tr, (Fo.of l).len = l.length
  | [] => rfl
  | t :: l => by rw [Fo.of, Fo.len, len_of l]; rfl
set_option maxRecDepth 100000 in
set_option maxHeartbeats 1000000 in
/-- The cells of a node. -/
theorem cells_tr : ∀ (N fuel : Nat), fuel ≤ N → ∀ (cs : List Value) (x : DataW H × List MemPlace), cs.length = 12 → DataW.trod enc Tryz.prog w base spare held fuel 25 cs = some x →
    ∃ (t : Tr) (kv sv : Value), cs = (t.h.cells kv sv).toList ∧ StR w w.heap.size sv t.ss ∧ KidR w w.heap.size kv t.ks ∧ CapK w kv t.ks ∧ t.sz ≤ 20 * Rows.uptoBulk x.1
  | 0, fuel, hf, cs, x, _, h => by
    obtain rfl : fuel = 0 := by omega
    simp [DataW.trod] at h
  | N + 1, fuel, hf, cs, x, hl, h => by
    obtain ⟨xs, n, hfn, hx, hxl, hall⟩ := fieldX Tryz.underlying25 h
    match cs, hl, xs, hxl, hall, hx with
    | [c0, c1, c2, c3, c4, c5, c6, c7, c8, c9, c10, c11], _, [y0, y1, y2, y3, y4, y5, y6, y7, y8, y9, y10, y11], _, hall, hx =>
      have h0 : DataW.trod enc Tryz.prog w base spare held n 9 [c0] = some y0 := hall 0 9 0 1 (by kernel_rfl) cells1s
      have h1 : DataW.trod enc Tryz.prog w base spare held n 3 [c1] = some y1 := hall 1 3 1 1 (by kernel_rfl) cells1
      have h2 : DataW.trod enc Tryz.prog w base spare held n 9 [c2] = some y2 := hall 2 9 2 1 (by kernel_rfl) cells1s
      have h3 : DataW.trod enc Tryz.prog w base spare held n 9 [c3] = some y3 := hall 3 9 3 1 (by kernel_rfl) cells1s
      have h4 : DataW.trod enc Tryz.prog w base spare held n 3 [c4] = some y4 := hall 4 3 4 1 (by kernel_rfl) cells1
      have h5 : DataW.trod enc Tryz.prog w base spare held n 3 [c5] = some y5 := hall 5 3 5 1 (by kernel_rfl) cells1
      have h6 : DataW.trod enc Tryz.prog w base spare held n 3 [c6] = some y6 := hall 6 3 6 1 (by kernel_rfl) cells1
      have h7 : DataW.trod enc Tryz.prog w base spare held n 3 [c7] = some y7 := hall 7 3 7 1 (by kernel_rfl) cells1
      have h8 : DataW.trod enc Tryz.prog w base spare held n 3 [c8] = some y8 := hall 8 3 8 1 (by kernel_rfl) cells1
      have h9 : DataW.trod enc Tryz.prog w base spare held n 3 [c9] = some y9 := hall 9 3 9 1 (by kernel_rfl) cells1
      have h10 : DataW.trod enc Tryz.prog w base spare held n 22 [c10] = some y10 := hall 10 22 10 1 (by kernel_rfl) cells1b
      have h11 : DataW.trod enc Tryz.prog w base spare held n 23 [c11] = some y11 := hall 11 23 11 1 (by kernel_rfl) cells1a
      obtain ⟨s0, e0, rfl, -⟩ := DataW.trod_string Tryz.underlying9 h0
      obtain ⟨s2, e2, rfl, -⟩ := DataW.trod_string Tryz.underlying9 h2
      obtain ⟨s3, e3, rfl, -⟩ := DataW.trod_string Tryz.underlying9 h3
      obtain ⟨i1, e1, rfl, -⟩ := DataW.trod_int Tryz.underlying3 h1
      obtain ⟨i4, e4, rfl, -⟩ := DataW.trod_int Tryz.underlying3 h4
      obtain ⟨i5, e5, rfl, -⟩ := DataW.trod_int Tryz.underlying3 h5
      obtain ⟨i6, e6, rfl, -⟩ := DataW.trod_int Tryz.underlying3 h6
      obtain ⟨i7, e7, rfl, -⟩ := DataW.trod_int Tryz.underlying3 h7
      obtain ⟨i8, e8, rfl, -⟩ := DataW.trod_int Tryz.underlying3 h8
      obtain ⟨i9, e9, rfl, -⟩ := DataW.trod_int Tryz.underlying3 h9
      obtain rfl := (List.cons.inj e0).1
      obtain rfl := (List.cons.inj e1).1
      obtain rfl := (List.cons.inj e2).1
      obtain rfl := (List.cons.inj e3).1
      obtain rfl := (List.cons.inj e4).1
      obtain rfl := (List.cons.inj e5).1
      obtain rfl := (List.cons.inj e6).1
      obtain rfl := (List.cons.inj e7).1
      obtain rfl := (List.cons.inj e8).1
      obtain rfl := (List.cons.inj e9).1
      obtain ⟨ss, hss, hsz⟩ := cells_sts h11
      have hks : ∃ ks : Fo, KidR w w.heap.size c10 ks ∧ CapK w c10 ks ∧ ks.sz + 20 ≤ 20 * Rows.uptoBulk y10.1 := by
        rcases elemsX Tryz.underlying22 cells12 h10 with ⟨rfl, h1⟩ | ⟨a, len, cap, m, ds, hnm, rfl, hlc, hdl, hb, hel⟩
        · exact ⟨.nil, ⟨none, 0, rfl, fun h => absurd h (by simp [Fo.len])⟩, ⟨none, 0, rfl, Nat.le_refl _, fun h => absurd h (by simp [Fo.len])⟩, by unfold Fo.sz; omega⟩
        · have each : ∀ i, ∃ t : Tr, i < len → ∃ kv sv, (∀ q u, (t.h.cells kv sv).toList[q]? = some u → w.cell? ((a.add (i * 12)).add q) = some u) ∧ StR w w.heap.size sv t.ss ∧ KidR w w.heap.size kv t.ks ∧ CapK w kv t.ks ∧ ∃ d, ds[i]? = some d ∧ t.sz ≤ 20 * Rows.uptoBulk d := by
            intro i
            by_cases hi : i < len
            · obtain ⟨cs, y, h1, h2, h3, h4⟩ := hel i hi
              obtain ⟨t, kv, sv, rfl, h5, h6, h8, h7⟩ := cells_tr N m (by omega) cs y h1 h3
              exact ⟨t, fun _ => ⟨kv, sv, h2, h5, h6, h8, _, h4, h7⟩⟩
            · exact ⟨Tr.zero, fun h => absurd h hi⟩
          obtain ⟨E, hE⟩ := Classical.axiomOfChoice each
          have hL : ((List.range len).map E).length = len := by simp
          have hget : ∀ i s, ((List.range len).map E)[i]? = some s → i < len ∧ s = E i := fun i s hs => by
            have hi : i < len := by have := (List.getElem?_eq_some_iff.1 hs).1; rwa [hL] at this
            exact ⟨hi, by simpa [hi] using hs.symm⟩
          have hfl : (Fo.of ((List.range len).map E)).len = len := by rw [len_of, hL]
          refine ⟨Fo.of ((List.range len).map E), ⟨some a, cap, by rw [hfl], fun h0 => ?_⟩, ⟨some a, cap, by rw [hfl], by rw [hfl]; exact hlc, fun h0 => ?_⟩, ?_⟩
          · rw [hfl] at h0
            obtain ⟨b, off, spot⟩ := a
            obtain ⟨_, _, hc, _⟩ := hE 0 h0
            have hc0 := hc 0 _ rfl
            have hsp : spot = none := by simpa [Addr.add] using World.cell?_spot hc0
            subst hsp
            refine ⟨b, off, rfl, cell_lt (b := b) (o := off) (by simpa [Addr.add] using hc0), forR_of _ _ fun j t hj => ?_⟩
            obtain ⟨hi, rfl⟩ := hget j t hj
            obtain ⟨kv, sv, q0, q1, q2, _⟩ := hE j hi
            simp only [add_plain] at q0
            exact ⟨kv, sv, q0, q1, q2⟩
          · rw [hfl] at h0
            obtain ⟨b, off, spot⟩ := a
            obtain ⟨_, _, hc, _⟩ := hE 0 h0
            have hc0 := hc 0 _ rfl
            have hsp : spot = none := by simpa [Addr.add] using World.cell?_spot hc0
            subst hsp
            refine ⟨b, off, rfl, capF_of _ _ fun j t hj => ?_⟩
            obtain ⟨hi, rfl⟩ := hget j t hj
            obtain ⟨kv, sv, q0, _, _, q3, _⟩ := hE j hi
            have q4 := q0 10 kv rfl
            simp only [add_plain] at q4
            exact ⟨kv, q4, q3⟩
          · have := szF_le ((List.range len).map E) ds (by rw [hL, hdl]) (fun i s d h3 h4 => by
              obtain ⟨hi, rfl⟩ := hget i s h3
              obtain ⟨_, _, _, _, _, _, d', h5, h6⟩ := hE i hi
              rw [h4] at h5
              injection h5 with h5
              rw [h5]; exact h6)
            omega
      obtain ⟨ks, hkr, hcpk, hkz⟩ := hks
      refine ⟨⟨⟨s0, i1, s2, s3, i4, i5, i6, i7, i8, i9⟩, ss, ks⟩, c10, c11, rfl, hss, hkr, hcpk, ?_⟩
      rw [hx]
      simp only [List.map_cons, List.map_nil, bulk_agg, bulk_cons, bulk_str, bulk_int, str_len]
      unfold Tr.sz Hd.sz
      show 20 + s0.size + s2.size + s3.size + szS ss + ks.sz ≤ _
      omega
end
abbrev tree_wit : Value := .agg (Tr.zero.h.cells (.slice none 0 0) (.slice none 0 0))
set_option maxRecDepth 100000 in
/-- A tree that is an argument. -/
theorem open_Tree {H : Type} {enc : TypeId × Value → H} {w : World} {base b0 : Nat} {spare : Nat → Bool} {held : Bool} {r : Reach} {v : Value} {d : DataW H} {p : List MemPlace} (hv : Value.okWide Tryz.prog w r b0 25 v) (h : DataW.Trod enc Tryz.prog w base spare held 25 v d p) :
    ∃ t : Tr, TreeR w w.heap.size v t ∧ t.sz ≤ 20 * Rows.uptoBulk d := by
  obtain ⟨cs, rfl, hsz⟩ := okWide_struct Tryz.underlying25 hv
  obtain ⟨l⟩ := cs
  obtain ⟨fuel, hf⟩ := h
  obtain ⟨t, kv, sv, h1, h2, h3, -, h4⟩ := cells_tr fuel fuel (Nat.le_refl _) l _ (by rw [← List.size_toArray, hsz, cells12]) hf
  exact ⟨t, ⟨kv, sv, by rw [h1], h2, h3⟩, h4⟩
abbrev treec_wit : Value := tree_wit
set_option maxRecDepth 100000 in
/-- The same, with the room of the rows. -/
theorem open_TreeC {H : Type} {enc : TypeId × Value → H} {w : World} {base b0 : Nat} {spare : Nat → Bool} {held : Bool} {r : Reach} {v : Value} {d : DataW H} {p : List MemPlace} (hv : Value.okWide Tryz.prog w r b0 25 v) (h : DataW.Trod enc Tryz.prog w base spare held 25 v d p) :
    ∃ t : Tr, (TreeR w w.heap.size v t ∧ CapT w v t) ∧ t.sz ≤ 20 * Rows.uptoBulk d := by
  obtain ⟨cs, rfl, hsz⟩ := okWide_struct Tryz.underlying25 hv
  obtain ⟨l⟩ := cs
  obtain ⟨fuel, hf⟩ := h
  obtain ⟨t, kv, sv, h1, h2, h3, ⟨A, c, e, h5, h6⟩, h4⟩ := cells_tr fuel fuel (Nat.le_refl _) l _ (by rw [← List.size_toArray, hsz, cells12]) hf
  exact ⟨t, ⟨⟨kv, sv, by rw [h1], h2, h3⟩, ⟨A, c, sv, by rw [h1, e], h5, h6⟩⟩, h4⟩
end Go.Proofs.YtocgindpjjolpaaGreatDoor
