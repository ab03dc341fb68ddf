/- Contracts and plain words for the laws of this chapter, part 4: T4, U1, U2, U3, U4, U5, U6, U8, N. No condition. -/
import Derived.Test.YtocgindpjjolpaaGreatDoorG3
import Derived.Deep.MidRow
import Derived.Deep.DeepCutAuto
import Derived.Laws.OwnMore
import Derived.Deep.AppendLies
import Derived.OwnWalk
import Derived.Lib.SmallJoins
import Derived.Test.YtocgindpjjolpaaGreatDoorG0
namespace Go.Proofs.YtocgindpjjolpaaGreatDoor
set_option linter.unusedSimpArgs false
set_option linter.unusedVariables false
def szS : List St → Nat
  | [] => 0
  | s :: l => 20 + s.1.size + s.2.size + szS l
def Hd.sz (h : Hd) : Nat := 20 + h.name.size + h.data.size + h.target.size
def Fo.sz : Fo → Nat
  | .nil => 0
  | .node h ss ks nx => h.sz + szS ss + ks.sz + nx.sz
def Tr.sz (t : Tr) : Nat := t.h.sz + szS t.ss + t.ks.sz
def fewB (t : Tr) (n : Nat) : Bool := decide (t.count ≤ 40 ∧ t.lev ≤ 20 ∧ t.sz ≤ n)
theorem szS_len : ∀ ss : List St, 20 * ss.length ≤ szS ss
  | [] => Nat.le_refl _
  | s :: l => by have := szS_len l; simp only [szS, List.length_cons]; omega
theorem Fo.count_sz : ∀ f : Fo, 20 * f.count ≤ f.sz
  | .nil => Nat.le_refl _
  | .node h ss ks nx => by have := Fo.count_sz ks; have := Fo.count_sz nx; simp only [Fo.sz, Fo.count, Hd.sz]; omega
theorem Fo.len_sz (f : Fo) : 20 * f.len ≤ f.sz := by have := f.len_count; have := f.count_sz; omega
theorem Tr.count_sz (t : Tr) : 20 * t.count ≤ t.sz := by have := t.ks.count_sz; unfold Tr.count Tr.sz Hd.sz; omega
theorem bel_size (p n : ByteArray) (l : Nat) : (belowP p n l).size ≤ p.size + 1 + n.size := by
  unfold belowP
  split
  · omega
  · simp only [ByteArray.size_append]
    show p.size + 1 + n.size ≤ _
    omega
theorem szS_mem : ∀ {ss : List St} {j : Nat} {s : St}, ss[j]? = some s → s.1.size + s.2.size ≤ szS ss
  | [], _, _, h => by simp at h
  | a :: l, 0, s, h => by
    have e : a = s := by simpa using h
    subst e
    unfold szS; omega
  | a :: l, j + 1, s, h => by
    have := szS_mem (ss := l) (j := j) (s := s) (by simpa using h)
    unfold szS; omega
def Fo.wt : Fo → Nat
  | .nil => 0
  | .node h _ ks nx => h.name.size + 2 + ks.wt + nx.wt
theorem Fo.wt_node (h : Hd) (ss : List St) (ks nx : Fo) : (Fo.node h ss ks nx).wt = h.name.size + 2 + ks.wt + nx.wt := rfl
theorem Fo.wt_sz : ∀ f : Fo, f.wt ≤ f.sz
  | .nil => Nat.le_refl _
  | .node h ss ks nx => by have := Fo.wt_sz ks; have := Fo.wt_sz nx; simp only [Fo.wt, Fo.sz, Hd.sz]; omega
end Go.Proofs.YtocgindpjjolpaaGreatDoor
namespace Go.Proofs.YtocgindpjjolpaaGreatDoor
set_option linter.unusedSimpArgs false
set_option linter.unusedVariables false
open Go.RowKit
theorem infN {cells : Array Value} (h : cells.size = 12) : (Tryz.prog.info? 25).map (·.size) = some cells.size := by rw [h]; kernel_rfl
theorem infNl {cells : Array Value} (h : cells.size = 12) : (Tryz.prog.info? 25).map (·.size) = some cells.toList.length := by rw [Array.length_toList, h]; kernel_rfl
theorem wpList_load_midA {P : Program} {ops : Array Oper} {rest : List Oper} {op : Oper} {a : Act} {w : World} {Q : Exit → Act → World → Prop} (hgd : op.guard = none) (ty : TypeId) (x : Operand) (ho : op.op = .load ty x)
    (b o : Nat) (hx : a.eval x = .pointer (some ⟨b, o, none⟩)) (cells : Array Value) (d : TypeDesc) (hc : w.rangeAt b o cells.toList)
    (hu : P.underlying ty = some d) (hd : d.isRow = true) (hi : (P.info? ty).map (·.size) = some cells.toList.length)
    (h : wpList P ops Q rest (a.put op.dst (.agg cells)) w) : wpList P ops Q (op :: rest) a w :=
  Go.wpList_load_mid hgd ty x ho b o hx cells.toList d hc hu hd hi (by rw [Array.toArray_toList]; exact h)
theorem Fo.nil_of {f : Fo} (h : f.len = 0) : f = .nil := by
  cases f with
  | nil => rfl
  | node _ _ _ nx => unfold Fo.len at h; omega
set_option maxRecDepth 100000 in
set_option maxHeartbeats 1000000 in
theorem rcount_any : ∀ (N : Nat), N ≤ 100000000 → ∀ (t : Tr), t.count ≤ N → ∀ (v : Value) (w : World), TreeR w w.heap.size v t → Calls Tryz.prog 75 #[v] w fun e w' => e = .returned (.int .i64 (t.count : Int)) ∧ Below w.heap.size w w'
  | 0, _, t, ht, _, _, _ => by unfold Tr.count at ht; omega
  | N + 1, hN, t, ht, v, w, hv => by
    have IH := hide (rcount_any N (by omega))
    obtain ⟨A, c, A2, c2, rfl, hk, -⟩ := hv.open
    have HL0 := hide (Left.of hk)
    clear hk hv
    obtain ⟨cells, hcs⟩ : ∃ cells, t.h.cells (.slice A t.ks.len c) (.slice A2 t.ss.length c2) = cells := ⟨_, rfl⟩
    have h10 : cells[10]? = some (.slice A t.ks.len c) := by rw [← hcs]; rfl
    rw [hcs]
    clear hcs
    have hkc : t.count = t.ks.count + 1 := rfl
    have hlc := t.ks.len_count
    have HL : Live w [] := trivial
    go_enter Tryz.func75, Tryz.ntmps75
    go_upto_region 1 with fail
    have HB := hide (show Blk (w.alloc (.cells cells 25)) w.heap.size cells 25 from Blk.newAt rfl)
    have hbel1 : Below w.heap.size w (w.alloc (.cells cells 25)) := by (exact bl)
    generalize w.alloc (.cells cells 25) = W1 at *
    obtain ⟨b, hb⟩ : ∃ b, b = w.heap.size := ⟨_, rfl⟩
    rw [← hb] at HB ⊢
    have lb : w.heap.size ≤ b := by omega
    clear hb
    go_wp2_with fail
    go_loopw [3, 4] (fun s i wr => ∃ (k m : Nat) (r : Fo), i = .int .i64 (k : Int) ∧ s = .int .i64 (m : Int) ∧ k + r.len = t.ks.len ∧ m + r.count = t.count ∧ 1 ≤ m ∧ Left w w.heap.size A r k ∧ Below w.heap.size w wr ∧ Blk wr b cells 25) (fun _ i _ => t.ks.len - (intOf i).toNat)
    case atStart => exact ⟨0, 1, t.ks, rfl, rfl, by omega, by omega, by omega, HL0.out, hbel1, HB.out⟩
    case round =>
      clear HB hbel1 HL0
      obtain ⟨k, m, r, rfl, rfl, hkr, hmr, hm1, hl, hbel, hB⟩ := hrel
      have HLr := hide hl
      have HB := hide hB
      have hsz := hbel.size
      have c10 : wr.cell? ⟨b, 10, none⟩ = some (.slice A t.ks.len c) := (HB.out.cells 10).trans h10
      have hrc := r.len_count
      clear hl hB
      by_cases hlt : k < t.ks.len
      case neg =>
        have hr0 : r.len = 0 := by omega
        have hm : m = t.count := by
          have := Fo.nil_of hr0
          subst this
          rw [Fo.count_nil] at hmr; omega
        have HM := hide hm
        clear hm hr0
        go_wp2_with fail
        go_ret
        exact ⟨ret_i (by rw [HM.out]), hbel⟩
      case pos =>
      cases r with
      | nil => rw [Fo.len_nil] at hkr; omega
      | node h ss ks nx =>
      obtain ⟨g, o, kc, rfl, hg, hr, hz, -, htr, hln⟩ := HLr.out.next
      have R1 := hide (range_below hbel hg hr)
      have HN := hide hln
      have HZ := hide hz
      obtain ⟨q, hq⟩ : ∃ q, Tr.count ⟨h, ss, ks⟩ = q := ⟨_, rfl⟩
      have hq2 : q = ks.count + 1 := hq.symm
      have hnx := nx.len_count
      rw [Fo.count_node] at hmr hrc
      rw [Fo.len_node] at hkr hrc
      have CC := IH.out ⟨h, ss, ks⟩ (by omega) (.agg kc) wr ((htr.below hbel).mono hsz)
      rw [hq] at CC
      have CQ := hide CC
      clear CC hq hr hln hz htr HLr IH
      go_wp2_with (first | (refine wpList_load_midA rfl 25 (.tmp 16) rfl g (o + k * 12) rfl kc _ R1.out Tryz.underlying25 rfl (infNl HZ.out) ?_) | (go_at_call 75; refine CQ.out.mono ?_; rintro e w3 ⟨rfl, hb3⟩))
      go_roundw
      case rel => exact ⟨k + 1, m + q, nx, by go_num, by go_num, by omega, by omega, by omega, HN.out, hbel.trans (hb3.mono hsz), Blk.below hb3 HB.out⟩
      case measure => simp [intOf]; omega
set_option maxRecDepth 100000 in
set_option maxHeartbeats 1000000 in
theorem rlev_any : ∀ (N : Nat), N ≤ 100000000 → ∀ (t : Tr), t.count ≤ N → ∀ (v : Value) (w : World), TreeR w w.heap.size v t → Calls Tryz.prog 76 #[v] w fun e w' => e = .returned (.int .i64 (t.lev : Int)) ∧ Below w.heap.size w w'
  | 0, _, t, ht, _, _, _ => by unfold Tr.count at ht; omega
  | N + 1, hN, t, ht, v, w, hv => by
    have IH := hide (rlev_any N (by omega))
    obtain ⟨A, c, A2, c2, rfl, hk, -⟩ := hv.open
    have HL0 := hide (Left.of hk)
    clear hk hv
    obtain ⟨cells, hcs⟩ : ∃ cells, t.h.cells (.slice A t.ks.len c) (.slice A2 t.ss.length c2) = cells := ⟨_, rfl⟩
    have h10 : cells[10]? = some (.slice A t.ks.len c) := by rw [← hcs]; rfl
    rw [hcs]
    clear hcs
    have hkc : t.count = t.ks.count + 1 := rfl
    have hlv := t.ks.lev_count
    have hlc := t.ks.len_count
    have HL : Live w [] := trivial
    go_enter Tryz.func76, Tryz.ntmps76
    go_upto_region 1 with fail
    have HB := hide (show Blk (w.alloc (.cells cells 25)) w.heap.size cells 25 from Blk.newAt rfl)
    have hbel1 : Below w.heap.size w (w.alloc (.cells cells 25)) := by (exact bl)
    generalize w.alloc (.cells cells 25) = W1 at *
    obtain ⟨b, hb⟩ : ∃ b, b = w.heap.size := ⟨_, rfl⟩
    rw [← hb] at HB ⊢
    have lb : w.heap.size ≤ b := by omega
    clear hb
    go_wp2_with fail
    go_loopw [3, 4] (fun s i wr => ∃ (k m : Nat) (r : Fo), i = .int .i64 (k : Int) ∧ s = .int .i64 (m : Int) ∧ k + r.len = t.ks.len ∧ r.count + 1 ≤ t.count ∧ max m r.lev = t.ks.lev ∧ Left w w.heap.size A r k ∧ Below w.heap.size w wr ∧ Blk wr b cells 25) (fun _ i _ => t.ks.len - (intOf i).toNat)
    case atStart => exact ⟨0, 0, t.ks, rfl, rfl, by omega, by omega, by omega, HL0.out, hbel1, HB.out⟩
    case round =>
      clear HB hbel1 HL0
      obtain ⟨k, m, r, rfl, rfl, hkr, hmr, hm1, hl, hbel, hB⟩ := hrel
      have HLr := hide hl
      have HB := hide hB
      have hsz := hbel.size
      have c10 : wr.cell? ⟨b, 10, none⟩ = some (.slice A t.ks.len c) := (HB.out.cells 10).trans h10
      have hrc := r.len_count
      clear hl hB
      by_cases hlt : k < t.ks.len
      case neg =>
        have hr0 : r.len = 0 := by omega
        have hm : ((m : Int) + 1) = (t.lev : Int) := by
          have := Fo.nil_of hr0
          subst this
          rw [Fo.lev_nil] at hm1; show _ = ((t.ks.lev + 1 : Nat) : Int); omega
        have HM := hide hm
        clear hm hr0
        go_wp2_with fail
        go_ret
        exact ⟨ret_i (by rw [HM.out]), hbel⟩
      case pos =>
      cases r with
      | nil => rw [Fo.len_nil] at hkr; omega
      | node h ss ks nx =>
      obtain ⟨g, o, kc, rfl, hg, hr, hz, -, htr, hln⟩ := HLr.out.next
      have R1 := hide (range_below hbel hg hr)
      have HN := hide hln
      have HZ := hide hz
      obtain ⟨q, hq⟩ : ∃ q, Tr.lev ⟨h, ss, ks⟩ = q := ⟨_, rfl⟩
      have hq2 : q = ks.lev + 1 := hq.symm
      have hkl := ks.lev_count
      have hqc : Tr.count ⟨h, ss, ks⟩ = ks.count + 1 := rfl
      rw [Fo.lev_node] at hm1
      have hnx := nx.len_count
      rw [Fo.count_node] at hmr hrc
      rw [Fo.len_node] at hkr hrc
      have CC := IH.out ⟨h, ss, ks⟩ (by omega) (.agg kc) wr ((htr.below hbel).mono hsz)
      rw [hq] at CC
      have CQ := hide CC
      clear CC hq hr hln hz htr HLr IH
      go_wp2_with (first | (refine wpList_load_midA rfl 25 (.tmp 16) rfl g (o + k * 12) rfl kc _ R1.out Tryz.underlying25 rfl (infNl HZ.out) ?_) | (go_at_call 76; refine CQ.out.mono ?_; rintro e w3 ⟨rfl, hb3⟩))
      go_roundw
      case rel => exact ⟨k + 1, max m q, nx, by go_num, by (try go_num), by omega, by omega, by omega, HN.out, hbel.trans (hb3.mono hsz), Blk.below hb3 HB.out⟩
      case measure => simp [intOf]; omega
theorem Fo.sz_nil : Fo.nil.sz = 0 := rfl
theorem Fo.sz_node (h : Hd) (ss : List St) (ks nx : Fo) : (Fo.node h ss ks nx).sz = h.sz + szS ss + ks.sz + nx.sz := rfl
theorem szS_drop {ss : List St} {k : Nat} {s : St} (h : ss[k]? = some s) : szS (ss.drop k) = 20 + s.1.size + s.2.size + szS (ss.drop (k + 1)) := by
  have hk := (List.getElem?_eq_some_iff.1 h).1
  rw [List.drop_eq_getElem_cons hk]
  have e : ss[k] = s := by rw [List.getElem?_eq_getElem hk] at h; exact Option.some.inj h
  rw [e]; rfl
theorem szS_drop_all (ss : List St) : szS (ss.drop ss.length) = 0 := by rw [List.drop_length]; rfl
def StL (w : World) (B : Nat) (A : Option Addr) (ss : List St) : Prop := 0 < ss.length → ∃ g o, A = some ⟨g, o, none⟩ ∧ g < B ∧ ∀ j s, ss[j]? = some s → w.cell? ⟨g, o + j * 2, none⟩ = some (.string s.1) ∧ w.cell? ⟨g, o + (j * 2 + 1), none⟩ = some (.string s.2)
theorem StL.at {w w' : World} {B k : Nat} {A : Option Addr} {ss : List St} {s : St} (h : StL w B A ss) (hb : Below B w w') (hs : ss[k]? = some s) : ∃ g o, A = some ⟨g, o, none⟩ ∧ g < B ∧ w'.cell? ⟨g, o + k * 2, none⟩ = some (.string s.1) ∧ w'.cell? ⟨g, o + k * 2 + 1, none⟩ = some (.string s.2) := by
  obtain ⟨g, o, e, hg, hc⟩ := h (by have := (List.getElem?_eq_some_iff.1 hs).1; omega)
  exact ⟨g, o, e, hg, (hb.cell (p := ⟨g, o + k * 2, none⟩) hg).trans (hc k s hs).1, by rw [Nat.add_assoc]; exact (hb.cell (p := ⟨g, o + (k * 2 + 1), none⟩) hg).trans (hc k s hs).2⟩
set_option maxRecDepth 100000 in
set_option maxHeartbeats 1000000 in
theorem rsize_any : ∀ (N : Nat), N ≤ 2000000000 → ∀ (t : Tr), t.sz ≤ N → ∀ (v : Value) (w : World), TreeR w w.heap.size v t → Calls Tryz.prog 77 #[v] w fun e w' => e = .returned (.int .i64 (t.sz : Int)) ∧ Below w.heap.size w w'
  | 0, _, t, ht, _, _, _ => by unfold Tr.sz Hd.sz at ht; omega
  | N + 1, hN, t, ht, v, w, hv => by
    have IH := hide (rsize_any N (by omega))
    obtain ⟨A, c, A2, c2, rfl, hk, hs⟩ := hv.open
    have HL0 := hide (Left.of hk)
    have HST := hide (show StL w w.heap.size A2 t.ss from hs)
    clear hk hv hs
    obtain ⟨cells, hcs⟩ : ∃ cells, t.h.cells (.slice A t.ks.len c) (.slice A2 t.ss.length c2) = cells := ⟨_, rfl⟩
    have h10 : cells[10]? = some (.slice A t.ks.len c) := by rw [← hcs]; rfl
    have h11 : cells[11]? = some (.slice A2 t.ss.length c2) := by rw [← hcs]; rfl
    have h0 : cells[0]? = some (.string t.h.name) := by rw [← hcs]; rfl
    have h2 : cells[2]? = some (.string t.h.data) := by rw [← hcs]; rfl
    have h3 : cells[3]? = some (.string t.h.target) := by rw [← hcs]; rfl
    rw [hcs]
    clear hcs
    have hkc : t.sz = 20 + t.h.name.size + t.h.data.size + t.h.target.size + szS t.ss + t.ks.sz := rfl
    have hlc := t.ks.len_sz
    have hls := szS_len t.ss
    have HL : Live w [] := trivial
    go_enter Tryz.func77, Tryz.ntmps77
    go_upto_region 1 with fail
    have HB := hide (show Blk (w.alloc (.cells cells 25)) w.heap.size cells 25 from Blk.newAt rfl)
    have hbel1 : Below w.heap.size w (w.alloc (.cells cells 25)) := by (exact bl)
    generalize w.alloc (.cells cells 25) = W1 at *
    obtain ⟨b, hb⟩ : ∃ b, b = w.heap.size := ⟨_, rfl⟩
    rw [← hb] at HB ⊢
    have lb : w.heap.size ≤ b := by omega
    clear hb
    have d0 : W1.cell? ⟨b, 0, none⟩ = some (.string t.h.name) := (HB.out.cells 0).trans h0
    have d2 : W1.cell? ⟨b, 2, none⟩ = some (.string t.h.data) := (HB.out.cells 2).trans h2
    have d3 : W1.cell? ⟨b, 3, none⟩ = some (.string t.h.target) := (HB.out.cells 3).trans h3
    clear h0 h2 h3
    go_upto_block 0 with fail
    clear d0 d2 d3
    obtain ⟨m0, hm0⟩ : ∃ m0 : Nat, (20 : Int) + (t.h.name.size : Int) + (t.h.data.size : Int) + (t.h.target.size : Int) = (m0 : Int) := ⟨20 + t.h.name.size + t.h.data.size + t.h.target.size, by omega⟩
    have hm1 : m0 = 20 + t.h.name.size + t.h.data.size + t.h.target.size := by omega
    rw [hm0]
    have HM1 := hide hm1
    clear hm0 hm1
    go_cut [3] (fun v wx => ∃ m : Nat, v = .int .i64 (m : Int) ∧ m = m0 + szS t.ss ∧ Below w.heap.size w wx ∧ Blk wx b cells 25)
    case first =>
      go_wp2_with fail
      have hm0 := HM1.out
      have hm2 : m0 + szS t.ss ≤ 2000000000 := by omega
      clear hm0
      go_loopw [3, 4] (fun s i wr => ∃ k m : Nat, i = .int .i64 (k : Int) ∧ s = .int .i64 (m : Int) ∧ k ≤ t.ss.length ∧ m + szS (t.ss.drop k) = m0 + szS t.ss ∧ Below w.heap.size w wr ∧ Blk wr b cells 25) (fun _ i _ => t.ss.length - (intOf i).toNat)
      case atStart => exact ⟨0, m0, rfl, rfl, by omega, by rw [List.drop_zero], hbel1, HB.out⟩
      case round =>
        clear HB hbel1 HL0 IH
        obtain ⟨k, m, rfl, rfl, hkl, hms, hbel, hB⟩ := hrel
        have HB := hide hB
        have c11 : wr.cell? ⟨b, 11, none⟩ = some (.slice A2 t.ss.length c2) := (HB.out.cells 11).trans h11
        clear hB
        by_cases hlt : k < t.ss.length
        case neg =>
          obtain rfl : k = t.ss.length := by omega
          rw [szS_drop_all] at hms
          have HM := hide hms
          clear hms
          go_wp2_with fail
          go_meet
          exact ⟨m, rfl, HM.out, hbel, HB.out⟩
        case pos =>
        obtain ⟨s, hs⟩ : ∃ s, t.ss[k]? = some s := ⟨_, List.getElem?_eq_getElem hlt⟩
        obtain ⟨g, o, rfl, hg, s1, s2⟩ := HST.out.at hbel hs
        rw [szS_drop hs] at hms
        have w1 : IntKind.i64.wrap ((m : Int) + 20) = (m : Int) + 20 := IntWalk.i64_in _ (by omega)
        have w2 : IntKind.i64.wrap ((m : Int) + 20 + (s.1.size : Int)) = (m : Int) + 20 + (s.1.size : Int) := IntWalk.i64_in _ (by omega)
        have w3 : IntKind.i64.wrap ((m : Int) + 20 + (s.1.size : Int) + (s.2.size : Int)) = ((m + 20 + s.1.size + s.2.size : Nat) : Int) := by rw [IntWalk.i64_in _ (by omega)]; omega
        have hms2 : m + 20 + s.1.size + s.2.size + szS (t.ss.drop (k + 1)) = m0 + szS t.ss := by omega
        have HM := hide hms2
        have hm9 : m + 20 + s.1.size + s.2.size ≤ 2000000000 := by omega
        clear hms hms2 hs
        generalize m + 20 + s.1.size + s.2.size = m9 at *
        go_upto_region 5 with fail
        go_quiet (fail)
        clear w1 w2 w3
        go_wp2_with fail
        go_roundw
        case rel => exact ⟨k + 1, m9, by go_num, rfl, by omega, HM.out, below_drewN' hbel, HB.out⟩
        case measure => simp [intOf]; omega
    case rest =>
    obtain ⟨M0, rfl, hM0, hbel2, hB2⟩ := hcut
    have hM1 : M0 + t.ks.sz = t.sz := by have := HM1.out; omega
    have hM2 : 20 ≤ M0 := by have := HM1.out; omega
    clear hM0
    clear HB hbel1 HST h11
    have HB2 := hide hB2
    clear hB2
    go_wp2_with fail
    go_loopw [3, 5] (fun s i wr => ∃ (k m : Nat) (r : Fo), i = .int .i64 (k : Int) ∧ s = .int .i64 (m : Int) ∧ k + r.len = t.ks.len ∧ m + r.sz = t.sz ∧ 20 ≤ m ∧ Left w w.heap.size A r k ∧ Below w.heap.size w wr ∧ Blk wr b cells 25) (fun _ i _ => t.ks.len - (intOf i).toNat)
    case atStart => exact ⟨0, M0, t.ks, rfl, rfl, by omega, by omega, by omega, HL0.out, hbel2, HB2.out⟩
    case round =>
      clear HB2 hbel2 HL0
      obtain ⟨k, m, r, rfl, rfl, hkr, hmr, hm1, hl, hbel, hB⟩ := hrel
      have HLr := hide hl
      have HB := hide hB
      have hsz := hbel.size
      have c10 : wr.cell? ⟨b, 10, none⟩ = some (.slice A t.ks.len c) := (HB.out.cells 10).trans h10
      have hrc := r.len_sz
      clear hl hB
      by_cases hlt : k < t.ks.len
      case neg =>
        have hr0 : r.len = 0 := by omega
        have hm : m = t.sz := by
          have := Fo.nil_of hr0
          subst this
          rw [Fo.sz_nil] at hmr; omega
        have HM := hide hm
        clear hm hr0
        go_wp2_with fail
        go_ret
        exact ⟨ret_i (by rw [HM.out]), hbel⟩
      case pos =>
      cases r with
      | nil => rw [Fo.len_nil] at hkr; omega
      | node h ss ks nx =>
      obtain ⟨g, o, kc, rfl, hg, hr, hz, -, htr, hln⟩ := HLr.out.next
      have R1 := hide (range_below hbel hg hr)
      have HN := hide hln
      have HZ := hide hz
      obtain ⟨q, hq⟩ : ∃ q, Tr.sz ⟨h, ss, ks⟩ = q := ⟨_, rfl⟩
      have hq2 : q = h.sz + szS ss + ks.sz := hq.symm
      have hnx := nx.len_sz
      rw [Fo.sz_node] at hmr hrc
      rw [Fo.len_node] at hkr hrc
      have CC := IH.out ⟨h, ss, ks⟩ (by omega) (.agg kc) wr ((htr.below hbel).mono hsz)
      rw [hq] at CC
      have CQ := hide CC
      have HQ2 := hide hq2
      have hmq : m + q ≤ 2000000000 := by omega
      clear CC hq hq2 hr hln hz htr HLr IH
      go_wp2_with (first | (refine wpList_load_midA rfl 25 (.tmp 54) rfl g (o + k * 12) rfl kc _ R1.out Tryz.underlying25 rfl (infNl HZ.out) ?_) | (go_at_call 77; refine CQ.out.mono ?_; rintro e w3 ⟨rfl, hb3⟩))
      go_roundw
      case rel =>
        have hq2 := HQ2.out
        exact ⟨k + 1, m + q, nx, by go_num, by go_num, by omega, by omega, by omega, HN.out, hbel.trans (hb3.mono hsz), Blk.below hb3 HB.out⟩
      case measure => simp [intOf]; omega
theorem TreeR.later {W W' : World} {v : Value} {t : Tr} (h : TreeR W W.heap.size v t) (hb : Below W.heap.size W W') : TreeR W' W'.heap.size v t := (h.below hb).mono hb.size
theorem wpList_load_rowG {P : Program} {ops : Array Oper} {rest : List Oper} {o : Oper} {a : Act} {w : World} {Q : Exit → Act → World → Prop} (ty : TypeId) (x : Operand) (ho : o.op = .load ty x) (hw : Region.wanted o (yielded ops a.tmps) = true)
    (g : Nat) (hx : a.eval x = .pointer (some ⟨g, 0, none⟩)) (t : TypeId) (cs : Array Value) (fr : Nat × Nat) (d : TypeDesc) (hg : w.heap[g]? = some (.cells cs t fr))
    (hu : P.underlying ty = some d) (hd : (match d with | .struct _ | .array _ _ => true | _ => false) = true) (hi : (P.info? ty).map (·.size) = some cs.size)
    (h : wpList P ops Q rest (a.put o.dst (.agg cs)) w) : wpList P ops Q (o :: rest) a w :=
  wpList_step fun K hK => by
    rw [if_pos hw]
    exact wp_load_row ty x ho g hx t cs fr d hg hu hd hi (hK _ _ h)
theorem TreeR.cells {w : World} {B : Nat} {v : Value} {t : Tr} (h : TreeR w B v t) : ∃ cells : Array Value, v = .agg cells ∧ cells.size = 12 ∧ cells.all (·.oneCell') = true := by
  obtain ⟨A, c, A2, c2, rfl, _⟩ := h.open
  exact ⟨_, rfl, rfl, by kernel_rfl⟩
set_option maxRecDepth 100000 in
set_option maxHeartbeats 1000000 in
theorem rfew_any (t : Tr) (ht : t.sz ≤ 2000000000) (n : Nat) (v : Value) (w : World) (hv : TreeR w w.heap.size v t) : Calls Tryz.prog 47 #[v, .int .i64 (n : Int)] w fun e w' => e = .returned (.bool (fewB t n)) ∧ Below w.heap.size w w' := by
  obtain ⟨cells, rfl, hz, h1⟩ := hv.cells
  have HZ := hide hz
  have HV := hide hv
  have C1 := hide (fun W hW => rcount_any 100000000 (by omega) t (by have := t.count_sz; omega) (.agg cells) W hW)
  have C2 := hide (fun W hW => rlev_any 100000000 (by omega) t (by have := t.count_sz; omega) (.agg cells) W hW)
  have C3 := hide (fun W hW => rsize_any 2000000000 (by omega) t ht (.agg cells) W hW)
  have HF := hide (show fewB t n = decide (t.count ≤ 40 ∧ t.lev ≤ 20 ∧ t.sz ≤ n) from rfl)
  clear hv hz h1
  have HL : Live w [] := trivial
  go_enter Tryz.func47, Tryz.ntmps47
  go_upto_region 1 with fail
  have HB := hide (show Blk (w.alloc (.cells cells 25)) w.heap.size cells 25 from Blk.newAt rfl)
  have hbel1 : Below w.heap.size w (w.alloc (.cells cells 25)) := by (exact bl)
  have HT1 := hide (HV.out.later hbel1)
  generalize w.alloc (.cells cells 25) = W1 at *
  obtain ⟨b, hb⟩ : ∃ b, b = w.heap.size := ⟨_, rfl⟩
  rw [← hb] at HB ⊢
  clear hb HV
  by_cases q1 : (t.count : Int) ≤ 40
  case neg =>
    have q : decide ((t.count : Int) ≤ 40) = false := decide_eq_false q1
    have HQ := hide q1
    clear q1
    go_wp2_with (first | (refine wpList_load_row rfl 25 (.tmp 2) rfl b rfl 25 cells (0, 0) _ HB.out Tryz.underlying25 rfl (infN HZ.out) ?_) | (go_at_call 75; refine (C1.out _ HT1.out).mono ?_; rintro e w3 ⟨rfl, hb3⟩))
    go_ret
    exact ⟨ret_b (by have := HQ.out; rw [HF.out]; simp; omega), hbel1.trans (hb3.mono hbel1.size)⟩
  have q : decide ((t.count : Int) ≤ 40) = true := decide_eq_true q1
  by_cases q2 : (t.lev : Int) ≤ 20
  case neg =>
    have q' : decide ((t.lev : Int) ≤ 20) = false := decide_eq_false q2
    have HQ := hide q2
    clear q1 q2
    go_wp2_with (first | (refine wpList_load_row rfl 25 (.tmp 2) rfl b rfl 25 cells (0, 0) _ HB.out Tryz.underlying25 rfl (infN HZ.out) ?_) | (refine wpList_load_rowG 25 (.tmp 2) rfl rfl b rfl 25 cells (0, 0) _ HB3.out Tryz.underlying25 rfl (infN HZ.out) ?_) | (go_at_call 75; refine (C1.out _ HT1.out).mono ?_; rintro e w3 ⟨rfl, hb3⟩; have HT3 := hide (HT1.out.later hb3); have HB3 := hide (Blk.below hb3 HB.out); have hbel3 := hbel1.trans (hb3.mono hbel1.size)) | (go_at_call 76; refine (C2.out _ HT3.out).mono ?_; rintro e w4 ⟨rfl, hb4⟩))
    go_ret
    exact ⟨ret_b (by have := HQ.out; rw [HF.out]; simp; omega), hbel3.trans (hb4.mono hbel3.size)⟩
  have q' : decide ((t.lev : Int) ≤ 20) = true := decide_eq_true q2
  have HQ := hide (And.intro q1 q2)
  clear q1 q2
  go_wp2_with (first | (refine wpList_load_row rfl 25 (.tmp 2) rfl b rfl 25 cells (0, 0) _ HB.out Tryz.underlying25 rfl (infN HZ.out) ?_) | (refine wpList_load_rowG 25 (.tmp 2) rfl rfl b rfl 25 cells (0, 0) _ HB4.out Tryz.underlying25 rfl (infN HZ.out) ?_) | (refine wpList_load_rowG 25 (.tmp 2) rfl rfl b rfl 25 cells (0, 0) _ HB3.out Tryz.underlying25 rfl (infN HZ.out) ?_) | (go_at_call 75; refine (C1.out _ HT1.out).mono ?_; rintro e w3 ⟨rfl, hb3⟩; have HT3 := hide (HT1.out.later hb3); have HB3 := hide (Blk.below hb3 HB.out); have hbel3 := hbel1.trans (hb3.mono hbel1.size)) | (go_at_call 76; refine (C2.out _ HT3.out).mono ?_; rintro e w4 ⟨rfl, hb4⟩; have HT4 := hide (HT3.out.later hb4); have HB4 := hide (Blk.below hb4 HB3.out); have hbel4 := hbel3.trans (hb4.mono hbel3.size)) | (go_at_call 77; refine (C3.out _ HT4.out).mono ?_; rintro e w5 ⟨rfl, hb5⟩))
  go_ret
  exact ⟨ret_b (by have := HQ.out; rw [HF.out, Bool.eq_iff_iff]; simp; omega), hbel4.trans (hb5.mono hbel4.size)⟩
set_option maxHeartbeats 1000000 in
theorem rbelow_any (p n : ByteArray) (l : Nat) (h1 : 1 ≤ l) (hp : p.size + n.size ≤ 2000000000) (w : World) : Calls Tryz.prog 91 #[.string p, .string n, .int .i64 (l : Int)] w fun e w' => e = .returned (.string (belowP p n l)) ∧ w = w' := by
  have HE := hide (show belowP p n l = if l ≤ 1 then n else p ++ ⟨#[47]⟩ ++ n from rfl)
  go_enter Tryz.func91, Tryz.ntmps91
  by_cases q : l = 1
  · have q1 : ((l : Int) == 1) = true := by simp; omega
    have HQ := hide q
    clear q h1
    go_wp2_with fail
    go_ret
    exact ⟨ret_s (by rw [HE.out, if_pos (by rw [HQ.out]; omega)]), rfl⟩
  · have q1 : ((l : Int) == 1) = false := by simp; omega
    have HQ := hide (show ¬ l ≤ 1 by omega)
    clear q h1
    have e1 : (⟨#[47]⟩ : ByteArray).size = 1 := rfl
    go_wp2_with fail
    go_ret
    exact ⟨ret_s (by rw [HE.out, if_neg HQ.out]), rfl⟩
structure NodeB (w : World) (b : Nat) (h : Hd) (kv sv : Value) : Prop where
  blk : Blk w b (h.cells kv sv) 25
theorem NodeB.below {w w' : World} {b : Nat} {h : Hd} {kv sv : Value} (hb : Below w.heap.size w w') (n : NodeB w b h kv sv) : NodeB w' b h kv sv := ⟨Blk.below hb n.blk⟩
section
variable {w : World} {b : Nat} {h : Hd} {kv sv : Value} (n : NodeB w b h kv sv)
include n
theorem NodeB.c0 : w.cell? ⟨b, 0, none⟩ = some (.string h.name) := n.blk.cells 0
theorem NodeB.c1 : w.cell? ⟨b, 1, none⟩ = some (.int .i64 h.kind) := n.blk.cells 1
theorem NodeB.c2 : w.cell? ⟨b, 2, none⟩ = some (.string h.data) := n.blk.cells 2
theorem NodeB.c3 : w.cell? ⟨b, 3, none⟩ = some (.string h.target) := n.blk.cells 3
theorem NodeB.c4 : w.cell? ⟨b, 4, none⟩ = some (.int .i64 h.mode) := n.blk.cells 4
theorem NodeB.c5 : w.cell? ⟨b, 5, none⟩ = some (.int .i64 h.uid) := n.blk.cells 5
theorem NodeB.c6 : w.cell? ⟨b, 6, none⟩ = some (.int .i64 h.gid) := n.blk.cells 6
theorem NodeB.c7 : w.cell? ⟨b, 7, none⟩ = some (.int .i64 h.time) := n.blk.cells 7
theorem NodeB.c8 : w.cell? ⟨b, 8, none⟩ = some (.int .i64 h.weight) := n.blk.cells 8
theorem NodeB.c9 : w.cell? ⟨b, 9, none⟩ = some (.int .i64 h.hidden) := n.blk.cells 9
theorem NodeB.c10 : w.cell? ⟨b, 10, none⟩ = some kv := n.blk.cells 10
theorem NodeB.c11 : w.cell? ⟨b, 11, none⟩ = some sv := n.blk.cells 11
end
theorem NodeB.new (w : World) (h : Hd) (kv sv : Value) : NodeB (w.alloc (.cells (h.cells kv sv) 25)) w.heap.size h kv sv := ⟨Blk.newAt rfl⟩
set_option maxRecDepth 100000 in
set_option maxHeartbeats 2000000 in
theorem rranged_any (t : Tr) (v : Value) (B : Nat) (w : World) (hv : TreeR w B v t) : Calls Tryz.prog 149 #[v] w fun e w' => e = .returned (.bool (rangedB t.h)) ∧ Below w.heap.size w w' := by
  obtain ⟨A, c, A2, c2, rfl, -, -⟩ := hv.open
  clear hv
  have HL : Live w [] := trivial
  go_enter Tryz.func149, Tryz.ntmps149
  go_upto_region 1 with fail
  have HN := NodeB.new w t.h (.slice A t.ks.len c) (.slice A2 t.ss.length c2)
  have hbel1 : Below w.heap.size w (w.alloc (.cells (t.h.cells (.slice A t.ks.len c) (.slice A2 t.ss.length c2)) 25)) := by (exact bl)
  generalize w.alloc (.cells (t.h.cells (.slice A t.ks.len c) (.slice A2 t.ss.length c2)) 25) = W1 at *
  obtain ⟨b, hb⟩ : ∃ b, b = w.heap.size := ⟨_, rfl⟩
  rw [← hb] at HN ⊢
  clear hb
  have d4 := HN.c4
  have d5 := HN.c5
  have d6 := HN.c6
  have d7 := HN.c7
  have d8 := HN.c8
  have d9 := HN.c9
  clear HN
  obtain ⟨hd, ss, ks⟩ := t
  dsimp only at *
  obtain ⟨name, kind, data, target, mode, uid, gid, time, weight, hidden⟩ := hd
  dsimp only at *
  go_wp2_with fail
  all_goals
    go_ret
    refine ⟨ret_b ?_, hbel1⟩
    unfold rangedB
    rw [Bool.eq_iff_iff]
    simp
    omega
def bigS (s : St) : Bool := decide (262144 < s.2.size)
def large1 (t : Tr) (l : Nat) : Bool := decide (16 < l ∨ 262144 < t.h.data.size ∨ 64 < t.ks.len ∨ 4 < t.ss.length)
theorem largeB_eq (t : Tr) (l : Nat) : largeB t l = (large1 t l || t.ss.any bigS) := rfl
theorem any_take_succ {α : Type} {f : α → Bool} {l : List α} {k : Nat} {x : α} (h : l[k]? = some x) (h0 : (l.take k).any f = false) (h1 : f x = false) : (l.take (k + 1)).any f = false := by
  rw [List.take_add_one, h, List.any_append, h0]
  simp [h1]
theorem any_hit {α : Type} {f : α → Bool} {l : List α} {k : Nat} {x : α} (h : l[k]? = some x) (h1 : f x = true) : l.any f = true :=
  List.any_eq_true.2 ⟨x, List.mem_of_getElem? h, h1⟩
set_option maxRecDepth 100000 in
set_option maxHeartbeats 2000000 in
theorem rlarge_any (t : Tr) (l : Nat) (hl : l ≤ 2000000000) (hsz : t.sz ≤ 2000000000) (v : Value) (w : World) (hv : TreeR w w.heap.size v t) : Calls Tryz.prog 150 #[v, .int .i64 (l : Int)] w fun e w' => e = .returned (.bool (largeB t l)) ∧ Below w.heap.size w w' := by
  obtain ⟨A, c, A2, c2, rfl, -, hs⟩ := hv.open
  have HST := hide (show StL w w.heap.size A2 t.ss from hs)
  have hlk := t.ks.len_sz
  have hls := szS_len t.ss
  have hts : t.sz = t.h.sz + szS t.ss + t.ks.sz := rfl
  have hlk2 : t.ks.len ≤ 2000000000 := by omega
  have hls2 : t.ss.length ≤ 2000000000 := by omega
  have hds : t.h.data.size ≤ 2000000000 := by unfold Hd.sz at hts; omega
  clear hv hs hlk hls hts hsz
  have HL : Live w [] := trivial
  go_enter Tryz.func150, Tryz.ntmps150
  go_upto_region 1 with fail
  have HN := hide (NodeB.new w t.h (.slice A t.ks.len c) (.slice A2 t.ss.length c2))
  have hbel1 : Below w.heap.size w (w.alloc (.cells (t.h.cells (.slice A t.ks.len c) (.slice A2 t.ss.length c2)) 25)) := by (exact bl)
  generalize w.alloc (.cells (t.h.cells (.slice A t.ks.len c) (.slice A2 t.ss.length c2)) 25) = W1 at *
  obtain ⟨b, hb⟩ : ∃ b, b = w.heap.size := ⟨_, rfl⟩
  rw [← hb] at HN ⊢
  clear hb
  have d2 := HN.out.c2
  have d10 := HN.out.c10
  have d11 := HN.out.c11
  go_cut [25] (fun v wx => v = .bool (large1 t l) ∧ wx = W1)
  case first =>
    clear HST HN hbel1
    go_wp2_with fail
    all_goals
      go_meet
      refine ⟨?_, rfl⟩
      unfold large1
      refine congrArg Value.bool ?_
      rw [Bool.eq_iff_iff]
      simp
      omega
  case rest =>
  obtain ⟨rfl, rfl⟩ := hcut
  cases h1 : large1 t l
  case true =>
    have HR := hide (show largeB t l = true by rw [largeB_eq, h1]; rfl)
    clear h1
    go_wp2_with fail
    go_ret
    exact ⟨ret_b HR.out.symm, hbel1⟩
  case false =>
  have HR := hide (show largeB t l = t.ss.any bigS by rw [largeB_eq, h1]; rfl)
  clear h1 d2 d10
  go_wp2_with fail
  go_loop [5] (fun i => ∃ k : Nat, k ≤ t.ss.length ∧ i = .int .i64 (k : Int) ∧ (t.ss.take k).any bigS = false) (fun i => t.ss.length - (intOf i).toNat)
  case atStart => exact ⟨0, by omega, rfl, rfl⟩
  case round =>
    obtain ⟨k, hk, rfl, hno⟩ := hrel
    have HNO := hide hno
    clear hno
    by_cases hlt : k < t.ss.length
    case neg =>
      obtain rfl : k = t.ss.length := by omega
      go_wp2_with fail
      go_ret
      exact ⟨ret_b (by rw [HR.out]; have := HNO.out; rw [List.take_length] at this; exact this.symm), hbel1⟩
    case pos =>
    obtain ⟨s, hs⟩ : ∃ s, t.ss[k]? = some s := ⟨_, List.getElem?_eq_getElem hlt⟩
    obtain ⟨g, o, rfl, hg, -, s2⟩ := HST.out.at hbel1 hs
    have HS := hide hs
    clear hs
    by_cases hq : (s.2.size : Int) ≤ 262144
    · have q : decide ((262144 : Int) < (s.2.size : Int)) = false := decide_eq_false (by omega)
      have HB := hide (show bigS s = false from decide_eq_false (by omega))
      clear hq
      go_wp2_with fail
      go_round
      case rel => exact ⟨k + 1, by omega, by go_num, any_take_succ HS.out HNO.out HB.out⟩
      case measure => simp [intOf]; omega
    · have q : decide ((262144 : Int) < (s.2.size : Int)) = true := decide_eq_true (by omega)
      have HB := hide (show bigS s = true from decide_eq_true (by omega))
      clear hq
      go_wp2_with fail
      go_ret
      exact ⟨ret_b (by rw [HR.out]; exact (any_hit HS.out HB.out).symm), hbel1⟩
theorem seq_y {a b : ByteArray} (h : a = b) : (a.toList == b.toList) = true := by rw [h]; exact beq_self_eq_true _
theorem seq_n {a b : ByteArray} (h : a ≠ b) : (a.toList == b.toList) = false := by
  rw [beq_eq_false_iff_ne]
  intro e
  apply h
  apply ByteArray.ext
  apply Array.toList_inj.1
  rw [← ByteArray.toList_eq, ← ByteArray.toList_eq, e]
def kidI : Fo → ByteArray → Option Nat
  | .nil, _ => none
  | .node h _ _ nx, n => if h.name = n then some 0 else (kidI nx n).map (· + 1)
def kidV (o : Option Nat) : Int := match o with
  | some i => (i : Int)
  | none => -1
theorem kidI_hit {h : Hd} {ss : List St} {ks nx : Fo} {n : ByteArray} (e : h.name = n) : kidI (.node h ss ks nx) n = some 0 := by rw [kidI, if_pos e]
theorem kidI_miss {h : Hd} {ss : List St} {ks nx : Fo} {n : ByteArray} (e : h.name ≠ n) : kidI (.node h ss ks nx) n = (kidI nx n).map (· + 1) := by rw [kidI, if_neg e]
theorem ForR.name {w : World} {B : Nat} {h : Hd} {ss : List St} {ks nx : Fo} {g o : Nat} (hf : ForR w B (.node h ss ks nx) g o) : w.cell? ⟨g, o, none⟩ = some (.string h.name) := by
  obtain ⟨⟨kv, sv, hr, _⟩, _⟩ := hf
  exact hr 0 _ rfl
theorem Left.name {w w' : World} {B : Nat} {A : Option Addr} {h : Hd} {ss : List St} {ks nx : Fo} {k : Nat} (hl : Left w B A (.node h ss ks nx) k) (hb : Below B w w') : ∃ g o, A = some ⟨g, o, none⟩ ∧ g < B ∧ w'.cell? ⟨g, o + k * 12, none⟩ = some (.string h.name) ∧ Left w B A nx (k + 1) := by
  obtain ⟨g, o, e, hg, hf⟩ := hl (by unfold Fo.len; omega)
  exact ⟨g, o, e, hg, (hb.cell (p := ⟨g, o + k * 12, none⟩) hg).trans hf.name, fun _ => ⟨g, o, e, hg, by rw [show o + (k + 1) * 12 = o + k * 12 + 12 by omega]; exact hf.tail⟩⟩
set_option maxRecDepth 100000 in
set_option maxHeartbeats 2000000 in
theorem rkid_any (t : Tr) (n : ByteArray) (hlen : t.ks.len ≤ 2000000000) (v : Value) (w : World) (hv : TreeR w w.heap.size v t) : Calls Tryz.prog 67 #[v, .string n] w fun e w' => e = .returned (.int .i64 (kidV (kidI t.ks n))) ∧ Below w.heap.size w w' := by
  obtain ⟨A, c, A2, c2, rfl, hk, -⟩ := hv.open
  have HL0 := hide (Left.of hk)
  clear hv hk
  have HL : Live w [] := trivial
  go_enter Tryz.func67, Tryz.ntmps67
  go_upto_region 1 with fail
  have HN := hide (NodeB.new w t.h (.slice A t.ks.len c) (.slice A2 t.ss.length c2))
  have hbel1 : Below w.heap.size w (w.alloc (.cells (t.h.cells (.slice A t.ks.len c) (.slice A2 t.ss.length c2)) 25)) := by (exact bl)
  generalize w.alloc (.cells (t.h.cells (.slice A t.ks.len c) (.slice A2 t.ss.length c2)) 25) = W1 at *
  obtain ⟨b, hb⟩ : ∃ b, b = w.heap.size := ⟨_, rfl⟩
  rw [← hb] at HN ⊢
  clear hb
  have d10 := HN.out.c10
  clear HN
  go_wp2_with fail
  go_loop [5] (fun i => ∃ (k : Nat) (r : Fo), i = .int .i64 (k : Int) ∧ k + r.len = t.ks.len ∧ kidI t.ks n = (kidI r n).map (· + k) ∧ Left w w.heap.size A r k) (fun i => t.ks.len - (intOf i).toNat)
  case atStart => exact ⟨0, t.ks, rfl, by omega, by simp, HL0.out⟩
  case round =>
    clear HL0
    obtain ⟨k, r, rfl, hkr, hki, hl⟩ := hrel
    have HI := hide hki
    have HLr := hide hl
    clear hki hl
    cases r with
    | nil =>
      rw [Fo.len_nil] at hkr
      obtain rfl : k = t.ks.len := by omega
      go_wp2_with fail
      go_ret
      exact ⟨ret_i (by rw [HI.out]; rfl), hbel1⟩
    | node h ss ks nx =>
      rw [Fo.len_node] at hkr
      have hlt : k < t.ks.len := by omega
      obtain ⟨g, o, rfl, hg, s1, hln⟩ := HLr.out.name hbel1
      have HLn := hide hln
      clear hln HLr
      by_cases q : h.name = n
      · have q1 : (h.name.toList == n.toList) = true := seq_y q
        have HQ := hide q
        clear q
        go_wp2_with fail
        go_ret
        exact ⟨ret_i (by rw [HI.out, kidI_hit HQ.out]; show (k : Int) = ((0 + k : Nat) : Int); omega), hbel1⟩
      · have q1 : (h.name.toList == n.toList) = false := seq_n q
        have HQ := hide q
        clear q
        go_wp2_with fail
        go_round
        case rel => exact ⟨k + 1, nx, by go_num, by omega, by rw [HI.out, kidI_miss HQ.out, Option.map_map]; congr 1; funext x; show x + 1 + k = x + (k + 1); omega, HLn.out⟩
        case measure => simp [intOf]; omega
theorem below_row {W w1 : World} {B B' : Nat} {e : TypeId} {size : Nat} {v : Value} {n : Nat} {xs : List Value} (h : W.ownsRow B e size v n xs) (hb : Below B' W w1) (hk : ∀ g, v.ownBlock = some g → g < B') : w1.ownsRow B e size v n xs := by
  refine ⟨h.1, ?_⟩
  rcases h.2 with h2 | ⟨g, cap, cur, hv, hg, hh, r⟩
  · exact Or.inl h2
  · refine Or.inr ⟨g, cap, cur, hv, hg, ?_, r⟩
    rw [hb.block g (hk g (by rw [hv]; rfl)), hh]
theorem below_row' {W w1 : World} {B : Nat} {e : TypeId} {size : Nat} {v : Value} {n : Nat} {xs : List Value} (h : W.ownsRow B e size v n xs) (hb : Below W.heap.size W w1) : w1.ownsRow B e size v n xs :=
  below_row h hb (fun g hg => (h.lt g hg).2)
theorem wpList_append_one {P : Program} (w : World) {ops : Array Oper} {rest : List Oper} {o : Oper} {a : Act} {Q : Exit → Act → World → Prop} (hgd : o.guard = none) (s x : Operand) (t : TypeId)
    (ho : o.op = .call { callee := .builtin .append, args := #[s, x], argTypes := #[t, t] })
    (base : Nat) (e : TypeId) {z : Value} {size bytes : Nat} (hinfo : (P.info? e).map (fun i => (i.zero, i.size, i.bytes)) = some (some z, size, bytes)) (ht : P.underlying t = some (.slice e))
    (hzs : z.cells.size = size) (hsz : 0 < size)
    (v : Value) (n : Nat) (xs : List Value) (hown : w.ownsRow base e size v n xs) (news : Array Value)
    (hs : a.eval s = v) (hx : a.eval x = .slice (some ⟨w.heap.size, 0, none⟩) 1 1) (hl : news.size = size) (h1 : ∀ u ∈ news.toList, u.oneCell' = true)
    (h63 : n + 1 ≤ maxLen) (hbytes : (n + 1) * bytes ≤ 140737488355328) (hbase : base ≤ w.heap.size)
    (h : ∀ v' w', w'.ownsRow base e size v' (n + 1) (xs ++ news.toList) → Below base w w' → (∀ b, b < w.heap.size → v.ownBlock ≠ some b → w'.heap[b]? = w.heap[b]?) → w.heap.size ≤ w'.heap.size → wpList P ops Q rest (a.put o.dst v') w') : wpList P ops Q (o :: rest) a (w.alloc (.cells news e)) := by
  obtain ⟨i, hi, hz0, hz1, hz2⟩ := info_parts hinfo
  refine wpList_append_own _ hgd s x t ho base e i z size bytes ht hi hz0 hz1 hz2 hzs hsz v n xs hs (hown.alloc _) ⟨w.heap.size, 0, none⟩ 1 1 news.toList hx (by simp [hl]) (World.news_of_block (heap_alloc_new w _)) h1 h63 hbytes (by rw [World.size_alloc]; omega) ?_
  intro v' w' hown' hg hn
  have hb1 : Below base w (w.alloc (.cells news e)) := (Below.refl base w).alloc hbase _
  have hb : Below base w w' := hb1.grown hg (by rw [World.size_alloc]; omega) (fun q hq => (hown.lt q hq).1)
  refine h v' w' hown' hb ?_ ?_
  · intro b hlt hne
    rw [hg.block b (by rw [World.size_alloc]; omega) (fun e => hne e.symm)]
    exact Below.heap_alloc w _ b hlt
  · have := hg.size; rw [World.size_alloc] at this; omega
end Go.Proofs.YtocgindpjjolpaaGreatDoor
