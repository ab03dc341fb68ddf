/- Contracts and plain words for the laws of this chapter, part 16: X29, X32, X33, X34. No condition. -/
import Derived.Test.YtlhakdildbplkaaGreatDoorF15
import Derived.Shelf.Strconv.ErrVarAll
import Derived.Lib.AtoiAllCases
import Derived.Test.YtlhakdildbplkaaGreatDoorF13
import Derived.Test.YtlhakdildbplkaaGreatDoorF9
namespace Go.Proofs.YtlhakdildbplkaaGreatDoor
set_option linter.unusedSimpArgs false
set_option linter.unusedVariables false
open Go.RowKit
set_option maxHeartbeats 2000000 in
theorem insS1 (A : Option Addr) (n c : Nat) (hn : n ≤ 1) (f : Value) (w : World) : Calls Tryz.prog 159 #[.slice A n c, .int .i64 0, .int .i64 (n : Int), f] w fun e w' => e = .returned (.tuple #[]) ∧ w = w' := by
  have HL : Live w [] := trivial
  go_enter Tryz.func159, Tryz.ntmps159
  go_wp2_with fail
  go_loopw [8] (fun i wr => i = .int .i64 1 ∧ w = wr) (fun i _ => 0)
  case atStart => exact ⟨rfl, rfl⟩
  case round =>
    obtain ⟨rfl, rfl⟩ := hrel
    have hlt : ¬ ((1 : Int) < (n : Int)) := by omega
    go_wp2_with fail
    go_end0
    exact ⟨rfl, rfl⟩
set_option maxHeartbeats 2000000 in
theorem stabS1 (A : Option Addr) (n c : Nat) (hn : n ≤ 1) (f : Value) (w : World) : Calls Tryz.prog 140 #[.slice A n c, .int .i64 (n : Int), f] w fun e w' => e = .returned (.tuple #[]) ∧ w = w' := by
  have IS := hide (fun W => insS1 A n c hn f W)
  have hlt : ¬ ((20 : Int) ≤ (n : Int)) := by omega
  have hlt2 : ¬ ((20 : Int) < (n : Int)) := by omega
  have HL : Live w [] := trivial
  go_enter Tryz.func140, Tryz.ntmps140
  go_wp2_with fail
  go_loopw [7, 8] (fun a i wr => a = .int .i64 0 ∧ i = .int .i64 20 ∧ w = wr) (fun _ _ _ => 0)
  case atStart => exact ⟨rfl, rfl, rfl⟩
  case round =>
    obtain ⟨rfl, rfl, rfl⟩ := hrel
    go_wp2_with ((first | (go_at_call 159; (with_reducible refine (IS.out _).mono ?_); rintro e w' ⟨rfl, rfl⟩)))
    go_loopw [6] (fun i wr => i = .int .i64 20 ∧ w = wr) (fun i _ => 0)
    case atStart => exact ⟨rfl, rfl⟩
    case round =>
      obtain ⟨rfl, rfl⟩ := hrel
      go_wp2_with fail
      go_end0
      exact ⟨rfl, rfl⟩
set_option maxHeartbeats 2000000 in
theorem sortS1 (A : Option Addr) (n c : Nat) (hn : n ≤ 1) (f : Value) (w : World) : Calls Tryz.prog 101 #[.slice A n c, f] w fun e w' => e = .returned (.tuple #[]) ∧ w = w' := by
  have SS := hide (fun W => stabS1 A n c hn f W)
  have HL : Live w [] := trivial
  go_enter Tryz.func101, Tryz.ntmps101
  go_wp2_with ((first | (go_at_call 140; (with_reducible refine (SS.out _).mono ?_); rintro e w' ⟨rfl, rfl⟩)))
  go_end0
  exact ⟨rfl, rfl⟩
set_option maxHeartbeats 2000000 in
theorem insN1 (A : Option Addr) (n c : Nat) (hn : n ≤ 1) (f : Value) (w : World) : Calls Tryz.prog 161 #[.slice A n c, .int .i64 0, .int .i64 (n : Int), f] w fun e w' => e = .returned (.tuple #[]) ∧ w = w' := by
  have HL : Live w [] := trivial
  go_enter Tryz.func161, Tryz.ntmps161
  go_wp2_with fail
  go_loopw [8] (fun i wr => i = .int .i64 1 ∧ w = wr) (fun i _ => 0)
  case atStart => exact ⟨rfl, rfl⟩
  case round =>
    obtain ⟨rfl, rfl⟩ := hrel
    have hlt : ¬ ((1 : Int) < (n : Int)) := by omega
    go_wp2_with fail
    go_end0
    exact ⟨rfl, rfl⟩
set_option maxHeartbeats 2000000 in
theorem stabN1 (A : Option Addr) (n c : Nat) (hn : n ≤ 1) (f : Value) (w : World) : Calls Tryz.prog 141 #[.slice A n c, .int .i64 (n : Int), f] w fun e w' => e = .returned (.tuple #[]) ∧ w = w' := by
  have IN := hide (fun W => insN1 A n c hn f W)
  have hlt : ¬ ((20 : Int) ≤ (n : Int)) := by omega
  have hlt2 : ¬ ((20 : Int) < (n : Int)) := by omega
  have HL : Live w [] := trivial
  go_enter Tryz.func141, Tryz.ntmps141
  go_wp2_with fail
  go_loopw [7, 8] (fun a i wr => a = .int .i64 0 ∧ i = .int .i64 20 ∧ w = wr) (fun _ _ _ => 0)
  case atStart => exact ⟨rfl, rfl, rfl⟩
  case round =>
    obtain ⟨rfl, rfl, rfl⟩ := hrel
    go_wp2_with ((first | (go_at_call 161; (with_reducible refine (IN.out _).mono ?_); rintro e w' ⟨rfl, rfl⟩)))
    go_loopw [6] (fun i wr => i = .int .i64 20 ∧ w = wr) (fun i _ => 0)
    case atStart => exact ⟨rfl, rfl⟩
    case round =>
      obtain ⟨rfl, rfl⟩ := hrel
      go_wp2_with fail
      go_end0
      exact ⟨rfl, rfl⟩
set_option maxHeartbeats 2000000 in
theorem sortN1 (A : Option Addr) (n c : Nat) (hn : n ≤ 1) (f : Value) (w : World) : Calls Tryz.prog 103 #[.slice A n c, f] w fun e w' => e = .returned (.tuple #[]) ∧ w = w' := by
  have SN := hide (fun W => stabN1 A n c hn f W)
  have HL : Live w [] := trivial
  go_enter Tryz.func103, Tryz.ntmps103
  go_wp2_with ((first | (go_at_call 141; (with_reducible refine (SN.out _).mono ?_); rintro e w' ⟨rfl, rfl⟩)))
  go_end0
  exact ⟨rfl, rfl⟩
def Rd (b : Nat) (o : Option (List ByteArray)) (w : World) : Prop := ∃ (ok : Bool) (ws : List ByteArray) (A : Option Addr), o = (if ok then some ws else none) ∧ Blk w b #[.slice A ws.length ws.length, .bool ok] 95 ∧
  (0 < ws.length → ∃ g p, A = some ⟨g, p, none⟩ ∧ g < b ∧ ∀ j s, ws[j]? = some s → w.cell? ⟨g, p + j, none⟩ = some (.string s)) ∧ (∀ s ∈ ws, s.size ≤ 100000) ∧ ws.length ≤ 100000
theorem Rd.fr {b : Nat} {o : Option (List ByteArray)} {O : Nat → Prop} {w w' : World} (h : Rd b o w) (hf : FrO O w w') (hO : ∀ j, j ≤ b → ¬ O j) : Rd b o w' := by
  obtain ⟨ok, ws, A, ho, hB, hw, hs, hl⟩ := h
  refine ⟨ok, ws, A, ho, hf.blk hB (hO b (Nat.le_refl _)), fun h0 => ?_, hs, hl⟩
  obtain ⟨g, p, hA, hg, hc⟩ := hw h0
  refine ⟨g, p, hA, hg, fun j s hj => ?_⟩
  rw [← hc j s hj]
  exact World.cell?_of_block (hf.block g (by have := hB.lt; omega) (hO g (by omega)))
def rdN : Option (List ByteArray) → Option (ByteArray × List ByteArray)
  | some (x :: r) => some (x, r)
  | _ => none
def rdT (o : Option (List ByteArray)) : Option (ByteArray × List ByteArray) := (rdN o).bind fun p => (unword p.1).map (·, p.2)
def rdI (o : Option (List ByteArray)) : Option (Int × List ByteArray) := (rdN o).bind fun p => (numW p.1).map (·, p.2)
theorem Rd.next {b : Nat} {ws : List ByteArray} {ok : Bool} {A : Option Addr} {w w' : World} {x : ByteArray} {g p : Nat} (hf : FrO (fun j => j = b) w w') (hb : b < w.heap.size) (hA : A = if ws.length = 0 then some ⟨g, p, none⟩ else some ⟨g, p + 1, none⟩) (hB : Blk w' b #[.slice A ws.length ws.length, .bool ok] 95) (hg : g < b) (hc : ∀ j s, (x :: ws)[j]? = some s → w.cell? ⟨g, p + j, none⟩ = some (.string s)) (hs : ∀ s ∈ x :: ws, s.size ≤ 100000) (hl : (x :: ws).length ≤ 100000) : Rd b (if ok then some ws else none) w' := by
  refine ⟨ok, ws, A, rfl, hB, fun h0 => ⟨g, p + 1, by rw [hA, if_neg (by omega)], hg, fun j s hj => ?_⟩, fun s h => hs s (List.mem_cons_of_mem _ h), by rw [List.length_cons] at hl; omega⟩
  rw [← hc (j + 1) s hj, show p + 1 + j = p + (j + 1) by omega]
  exact World.cell?_of_block (hf.block g (by omega) (by omega))
set_option maxRecDepth 100000 in
set_option maxHeartbeats 4000000 in
theorem next_any (b : Nat) (o : Option (List ByteArray)) (w : World) (h : Rd b o w) : Calls Tryz.prog 93 #[.pointer (some ⟨b, 0, none⟩)] w fun e w' => ∃ s o', e = .returned (.string s) ∧ Rd b o' w' ∧ o' = (rdN o).map (·.2) ∧ (∀ p, rdN o = some p → s = p.1) ∧ s.size ≤ 100000 ∧ FrO (fun j => j = b) w w' := by
  obtain ⟨ok, ws, A, ho, hB, hw, hs, hl⟩ := h
  have HO := hide ho
  have HB := hide hB
  have HS := hide hs
  have c0 := hB.cells 0
  have c1 := hB.cells 1
  have f0 := hB.free 0
  have f1 := hB.free 1
  simp at c0 c1
  clear hB hs ho
  cases ws with
  | nil =>
    clear hw hl
    have HL : Live w [] := trivial
    go_enter Tryz.func93, Tryz.ntmps93
    go_wp2_with fail
    go_ret
    refine ⟨_, none, rfl, ⟨false, [], A, rfl, HB.out.put rfl, fun h => absurd h (by decide), fun _ h => (by cases h), Nat.zero_le _⟩, ?_, fun p hp => ?_, Nat.zero_le _, FrO.set rfl⟩
    · rw [HO.out]; cases ok <;> rfl
    · rw [HO.out] at hp; cases ok <;> cases hp
  | cons x r =>
    obtain ⟨g, p, rfl, hg, hc⟩ := hw (Nat.succ_pos _)
    have HC := hide hc
    have HL2 := hide hl
    have d0 : w.cell? ⟨g, p, none⟩ = some (.string x) := hc 0 x rfl
    have hlr : r.length ≤ 100000 := by rw [List.length_cons] at hl; omega
    have HSS := hide (show ∀ s ∈ x :: r, s.size ≤ 100000 from HS.out)
    have fin : ∀ (A : Option Addr) (w' : World), FrO (fun j => j = b) w w' → Blk w' b #[.slice A r.length r.length, .bool ok] 95 → (A = if r.length = 0 then some ⟨g, p, none⟩ else some ⟨g, p + 1, none⟩) → ∃ s o', Ending.returned (.string x) = .returned (.string s) ∧ Rd b o' w' ∧ o' = (rdN o).map (·.2) ∧ (∀ p, rdN o = some p → s = p.1) ∧ s.size ≤ 100000 ∧ FrO (fun j => j = b) w w' := fun A w' hf hB' hA =>
      ⟨x, _, rfl, Rd.next (g := g) (p := p) (x := x) (ok := ok) hf HB.out.lt hA hB' hg HC.out HSS.out HL2.out, by rw [HO.out]; cases ok <;> rfl, fun q hq => by
        rw [HO.out] at hq
        cases ok
        · cases hq
        · injection hq with hq; rw [← hq], HSS.out x (List.mem_cons_self ..), hf⟩
    have FIN := hide fin
    clear fin hc hl hw
    cases r with
    | nil =>
      have HL : Live w [] := trivial
      go_enter Tryz.func93, Tryz.ntmps93
      go_wp2_with fail
      go_ret
      exact FIN.out _ _ (FrO.set rfl) (HB.out.put rfl) rfl
    | cons y r' =>
      have hn0 : ((r'.length : Int) + 1 + 1 == 0) = false := by rw [beq_eq_false_iff_ne]; omega
      have hi1 : (1 : Int) ≤ (r'.length : Int) + 1 + 1 := by omega
      have hlr2 : r'.length ≤ 100000 := by rw [List.length_cons] at hlr; omega
      clear hlr
      have HL : Live w [] := trivial
      go_enter Tryz.func93, Tryz.ntmps93
      go_wp2_with fail
      go_ret
      exact FIN.out _ _ (FrO.set rfl) (HB.out.put rfl) (by rw [if_neg (by rw [List.length_cons]; omega)])
theorem rdT_end {o o3 : Option (List ByteArray)} {ok ok4 : Bool} {ws : List ByteArray} {s x : ByteArray} (h1 : o3 = (rdN o).map (·.2)) (h2 : o3 = if ok then some ws else none) (h3 : ∀ p, rdN o = some p → s = p.1) (h4 : ok4 = true → unword s = some x) (h5 : ok4 = false → unword s = none) :
    (if (ok && ok4) then some ws else none) = (rdT o).map (·.2) ∧ ∀ p, rdT o = some p → x = p.1 := by
  unfold rdT
  cases hn : rdN o with
  | none =>
    rw [hn, h2] at h1
    cases ok
    · exact ⟨rfl, fun p hp => by cases hp⟩
    · cases h1
  | some q =>
    obtain ⟨y, r⟩ := q
    rw [hn, h2] at h1
    have e := h3 _ hn
    simp only [] at e
    subst e
    cases ok
    · cases h1
    · have h1' : some ws = some r := h1
      injection h1' with h1'
      subst h1'
      cases ok4
      · simp only [Option.bind_some, h5 rfl]
        exact ⟨rfl, fun p hp => by cases hp⟩
      · simp only [Option.bind_some, h4 rfl]
        exact ⟨rfl, fun p hp => by injection hp with hp; rw [← hp]⟩
theorem rdI_end {o o3 : Option (List ByteArray)} {ok ok4 : Bool} {ws : List ByteArray} {s : ByteArray} {x : Int} (h1 : o3 = (rdN o).map (·.2)) (h2 : o3 = if ok then some ws else none) (h3 : ∀ p, rdN o = some p → s = p.1) (h4 : ok4 = true → numW s = some x) (h5 : ok4 = false → numW s = none) :
    (if (ok && ok4) then some ws else none) = (rdI o).map (·.2) ∧ ∀ p, rdI o = some p → x = p.1 := by
  unfold rdI
  cases hn : rdN o with
  | none =>
    rw [hn, h2] at h1
    cases ok
    · exact ⟨rfl, fun p hp => by cases hp⟩
    · cases h1
  | some q =>
    obtain ⟨y, r⟩ := q
    rw [hn, h2] at h1
    have e := h3 _ hn
    simp only [] at e
    subst e
    cases ok
    · cases h1
    · have h1' : some ws = some r := h1
      injection h1' with h1'
      subst h1'
      cases ok4
      · simp only [Option.bind_some, h5 rfl]
        exact ⟨rfl, fun p hp => by cases hp⟩
      · simp only [Option.bind_some, h4 rfl]
        exact ⟨rfl, fun p hp => by injection hp with hp; rw [← hp]⟩
theorem Rd.lt {b : Nat} {o : Option (List ByteArray)} {w : World} (h : Rd b o w) : b < w.heap.size := by
  obtain ⟨ok, ws, A, ho, hB, hw, hs, hl⟩ := h
  exact hB.lt
set_option maxRecDepth 100000 in
set_option maxHeartbeats 4000000 in
theorem text_any (b : Nat) (o : Option (List ByteArray)) (w : World) (h : Rd b o w) : Calls Tryz.prog 94 #[.pointer (some ⟨b, 0, none⟩)] w fun e w' => ∃ s o', e = .returned (.string s) ∧ Rd b o' w' ∧ o' = (rdT o).map (·.2) ∧ (∀ p, rdT o = some p → s = p.1) ∧ FrO (fun j => j = b) w w' := by
  have NX := hide (next_any b o w h)
  have UW := hide (fun s (hs : s.size ≤ 100000) W => unword_any s (by omega) W)
  have HWb := hide h.lt
  clear h
  have HL : Live w [] := trivial
  go_enter Tryz.func94, Tryz.ntmps94
  go_wp2_with (first | (go_at_call 93; refine NX.out.mono ?_; rintro e w3 ⟨s, o3, rfl, hR3, ho3, hs3, hz3, hf3⟩; have UW3 := hide (UW.out s hz3 w3); have HR3 := hide hR3; have HO3 := hide ho3; have HS3 := hide hs3; have HF3 := hide hf3; clear hR3 ho3 hs3 hz3 hf3) | (go_at_call 136; refine UW3.out.mono ?_; rintro e w4 ⟨x, ok4, rfl, hy4, hn4, hb4⟩; obtain ⟨ok, ws, A, ho, hB, hw, hs, hl⟩ := HR3.out.fr (O := fun j => w3.heap.size ≤ j) (FrO.of hb4) (fun j hj h => by have := HR3.out.lt; omega); have HO := hide ho; have HB := hide hB; have c1 := hB.cells 1; have f1 := hB.free 1; simp at c1; have HW := hide hw; have HS := hide hs; have HL := hide hl; have HY4 := hide hy4; have HN4 := hide hn4; have HB4 := hide hb4; clear ho hB hw hs hl hy4 hn4 hb4))
  all_goals
    have hff : FrO (fun j => j = b) w w4 := HF3.out.trans (FrO.of (O := fun _ => False) HB4.out) (fun j h => h.elim)
    have E := rdT_end HO3.out HO.out HS3.out HY4.out HN4.out
    have fin : ∀ (vb : Bool) (w' : World), vb = (ok && ok4) → FrO (fun j => j = b) w4 w' → Blk w' b #[.slice A ws.length ws.length, .bool vb] 95 → ∃ s o', Ending.returned (.string x) = .returned (.string s) ∧ Rd b o' w' ∧ o' = (rdT o).map (·.2) ∧ (∀ p, rdT o = some p → s = p.1) ∧ FrO (fun j => j = b) w w' := fun vb w' hvb hf hB' =>
      ⟨x, _, rfl, ⟨vb, ws, A, rfl, hB', fun h0 => by
        obtain ⟨g, p, hA, hg, hc⟩ := HW.out h0
        exact ⟨g, p, hA, hg, fun j s hj => (World.cell?_of_block (hf.block g (by have := HB.out.lt; omega) (by omega))).trans (hc j s hj)⟩, HS.out, HL.out⟩, by rw [hvb]; exact E.1, E.2, hff.trans hf (fun j h => Or.inl h)⟩
    go_ret
    exact fin _ _ (by cases ok <;> first | rfl | contradiction) (FrO.set rfl) (HB.out.put rfl)
set_option maxRecDepth 100000 in
set_option maxHeartbeats 4000000 in
theorem rend_any (b : Nat) (o : Option (List ByteArray)) (w : World) (h : Rd b o w) : Calls Tryz.prog 95 #[.pointer (some ⟨b, 0, none⟩)] w fun e w' => e = .returned (.bool (decide (o = some []))) ∧ w = w' := by
  obtain ⟨ok, ws, A, ho, hB, hw, hs, hl⟩ := h
  have c0 := hB.cells 0
  have c1 := hB.cells 1
  simp at c0 c1
  have HO := hide ho
  clear ho hB hw hs
  cases ok
  case false =>
    have HL : Live w [] := trivial
    go_enter Tryz.func95, Tryz.ntmps95
    go_wp2_with fail
    go_ret
    exact ⟨by rw [HO.out]; rfl, rfl⟩
  case true =>
    cases ws with
    | nil =>
      have HL : Live w [] := trivial
      go_enter Tryz.func95, Tryz.ntmps95
      go_wp2_with fail
      go_ret
      exact ⟨by rw [HO.out]; rfl, rfl⟩
    | cons x r =>
      have hn0 : ((r.length : Int) + 1 == 0) = false := by rw [beq_eq_false_iff_ne]; omega
      have HL : Live w [] := trivial
      go_enter Tryz.func95, Tryz.ntmps95
      go_wp2_with fail
      go_ret
      exact ⟨by rw [HO.out]; simp, rfl⟩
def TabE (w : World) : Prop := (∃ tp p, w.var? Tryz.prog "strconv.ErrSyntax" = some #[.iface tp p]) ∧ (∃ tp p, w.var? Tryz.prog "strconv.ErrRange" = some #[.iface tp p])
theorem synG : Tryz.prog.globalNamed "strconv.ErrSyntax" = some 4 := by kernel_rfl
theorem rngG : Tryz.prog.globalNamed "strconv.ErrRange" = some 5 := by kernel_rfl
theorem var_lt {n : String} {g : Nat} {cs : Array Value} {w : World} (hg : Tryz.prog.globalNamed n = some g) (h : w.var? Tryz.prog n = some cs) : g < w.heap.size := by
  rcases Nat.lt_or_ge g w.heap.size with h' | h'
  · exact h'
  · unfold World.var? at h
    rw [hg] at h
    simp only [Option.bind_some] at h
    rw [Array.getElem?_eq_none h'] at h
    cases h
theorem TabE.below {w w' : World} (h : TabE w) (hb : Below w.heap.size w w') : TabE w' := by
  obtain ⟨⟨t1, p1, h1⟩, ⟨t2, p2, h2⟩⟩ := h
  exact ⟨⟨t1, p1, var?_below hb synG (var_lt synG h1) h1⟩, ⟨t2, p2, var?_below hb rngG (var_lt rngG h2) h2⟩⟩
theorem below_bytesW2 {w w' : World} {T : TypeId} (h : w' = w ∨ ∃ t, w' = Lib.bytesWorld w T t) : Below w.heap.size w w' := by
  rcases h with rfl | ⟨t, rfl⟩
  · exact Below.refl _ _
  · exact Lib.bytesWorld_below _ _ _
theorem atoi_ok (s : ByteArray) (v : Int) (hs : s.size ≤ 100000) (h : Lib.atoiAll s.data.toList = .ok v) (w : World) : Calls Tryz.prog 137 #[.string s] w fun e w' => e = .returned (.tuple #[.int .i64 v, .nilIface]) ∧ Below w.heap.size w w' :=
  (Any.strconv_Atoi_ok Tryz.laysC172 s (by omega) _ h w).mono fun e w' ⟨he, hw⟩ => ⟨he, below_bytesW2 hw⟩
def Fails (w : World) (e : Ending) (w' : World) : Prop := ∃ (v : Int) (T : TypeId) (N : Nat), e = .returned (.tuple #[.int .i64 v, .iface T (.pointer (some ⟨N, 0, none⟩))]) ∧ Below w.heap.size w w'
theorem atoi_no (s : ByteArray) (hs : s.size ≤ 100000) (h : ∀ v, Lib.atoiAll s.data.toList ≠ .ok v) (w : World) (hT : TabE w) : Calls Tryz.prog 137 #[.string s] w (Fails w) := by
  obtain ⟨⟨t1, p1, h1⟩, ⟨t2, p2, h2⟩⟩ := hT
  cases hh : Lib.atoiAll s.data.toList with
  | ok v => exact absurd hh (h v)
  | range => exact (Any.strconv_Atoi_range_var Tryz.laysC172 s (by omega) hh t2 p2 w h2).mono fun e w' ⟨N, he, _, _, hb⟩ => ⟨_, _, N, he, hb⟩
  | _ => exact (Any.strconv_Atoi_syntax_var Tryz.laysC172 s (by omega) hh t1 p1 w h1).mono fun e w' ⟨N, he, _, _, hb⟩ => ⟨_, _, N, he, hb⟩
theorem Rd.fin {b : Nat} {o3 : Option (List ByteArray)} {w4 w' : World} (h : Rd b o3 w4) (vb ok4 : Bool) : ∃ (ok : Bool) (ws : List ByteArray) (A : Option Addr), o3 = (if ok then some ws else none) ∧ Blk w4 b #[.slice A ws.length ws.length, .bool ok] 95 ∧
    ∀ (vb : Bool) (w' : World), FrO (fun j => j = b) w4 w' → Blk w' b #[.slice A ws.length ws.length, .bool vb] 95 → Rd b (if vb then some ws else none) w' := by
  obtain ⟨ok, ws, A, ho, hB, hw, hs, hl⟩ := h
  exact ⟨ok, ws, A, ho, hB, fun vb w' hf hB' => ⟨vb, ws, A, rfl, hB', fun h0 => by
    obtain ⟨g, p, hA, hg, hc⟩ := hw h0
    exact ⟨g, p, hA, hg, fun j s hj => (World.cell?_of_block (hf.block g (by have := hB.lt; omega) (by omega))).trans (hc j s hj)⟩, hs, hl⟩⟩
set_option maxRecDepth 100000 in
set_option maxHeartbeats 4000000 in
theorem number_any (b : Nat) (o : Option (List ByteArray)) (w w0 : World) (h : Rd b o w) (hT : TabP w0) (hE : TabE w0) (hb0 : Below w0.heap.size w0 w) (hlb : w0.heap.size ≤ b) : Calls Tryz.prog 96 #[.pointer (some ⟨b, 0, none⟩)] w fun e w' => ∃ n o', e = .returned (.int .i64 n) ∧ Rd b o' w' ∧ o' = (rdI o).map (·.2) ∧ (∀ p, rdI o = some p → n = p.1) ∧ FrO (fun j => j = b) w w' := by
  have NX := hide (next_any b o w h)
  have HWb := hide h.lt
  have HT := hide hT
  have HE := hide hE
  have HB0 := hide hb0
  have HLB := hide hlb
  clear h hT hE hb0 hlb
  have HL : Live w [] := trivial
  go_enter Tryz.func96, Tryz.ntmps96
  go_upto_region 2 with (go_at_call 93; refine NX.out.mono ?_; rintro e w3 ⟨s, o3, rfl, hR3, ho3, hs3, hz3, hf3⟩)
  have hb3 : Below w0.heap.size w0 w3 := HB0.out.trans (hf3.below HB0.out.size fun j hj => by have := HLB.out; omega)
  have HR3 := hide hR3
  have HO3 := hide ho3
  have HS3 := hide hs3
  have HF3 := hide hf3
  have HB3 := hide hb3
  have hlt3 := hR3.lt
  clear hR3 ho3 hs3 hf3 hb3 NX
  have main : ∀ (ok4 : Bool) (x : Int) (w4 : World), Below w3.heap.size w3 w4 → (ok4 = true → numW s = some x) → (ok4 = false → numW s = none) → ∃ (ok : Bool) (ws : List ByteArray) (A : Option Addr), Blk w4 b #[.slice A ws.length ws.length, .bool ok] 95 ∧ ∀ (vb : Bool) (w' : World), vb = (ok && ok4) → FrO (fun j => j = b) w4 w' → Blk w' b #[.slice A ws.length ws.length, .bool vb] 95 → ∃ n o', Ending.returned (.int .i64 x) = .returned (.int .i64 n) ∧ Rd b o' w' ∧ o' = (rdI o).map (·.2) ∧ (∀ p, rdI o = some p → n = p.1) ∧ FrO (fun j => j = b) w w' := by
    intro ok4 x w4 hb4 hy hn
    have h4 := HR3.out.fr (FrO.of (O := fun _ => False) hb4) (fun _ _ h => h)
    obtain ⟨ok, ws, A, ho, hB, hfin⟩ := h4.fin (w' := w4) true true
    refine ⟨ok, ws, A, hB, fun vb w' hvb hf hB' => ?_⟩
    have E := rdI_end HO3.out ho HS3.out hy hn
    exact ⟨x, _, rfl, hfin vb w' hf hB', by rw [hvb]; exact E.1, E.2, (HF3.out.trans (FrO.of (O := fun _ => False) hb4) (fun j h => h.elim)).trans hf (fun j h => Or.inl h)⟩
  have MAIN := hide main
  clear main
  have okc : (∃ n, Lib.atoiAll s.data.toList = .ok n) ∨ ∀ v, Lib.atoiAll s.data.toList ≠ .ok v := by
    cases hh : Lib.atoiAll s.data.toList with
    | ok v => exact Or.inl ⟨v, rfl⟩
    | range => exact Or.inr fun v e => by cases e
    | _ => exact Or.inr fun v e => by cases e
  rcases okc with ⟨n, hn⟩ | hno
  case inl =>
    have AT := hide (atoi_ok s n hz3 hn w3)
    have h64 : I64 n := Lib.atoiAll_bounds hn
    have IT := hide (fun W (hW : TabP W) => itoa_any n h64 W hW)
    by_cases hd : Lib.itoa n = s.data.toList
    case pos =>
      have HY := hide (show numW s = some n by unfold numW; rw [hn]; simp only []; rw [if_pos hd])
      have q1 : (Lib.itoa n == s.toList) = true := by
        rw [ByteArray.toList_eq]
        simp [hd]
      clear hd hn
      go_wp2_with (first | (go_at_call 137; refine AT.out.mono ?_; rintro e w4 ⟨rfl, hb4⟩; have HT4 := hide (HT.out.below (HB3.out.trans (hb4.mono HB3.out.size))); have HB4 := hide hb4; clear hb4) | (go_at_call 82; refine (IT.out _ HT4.out).mono ?_; rintro e w5 ⟨rfl, hb5⟩))
      go_ret
      obtain ⟨ok, ws, A, hB, fin⟩ := MAIN.out true n w5 (HB4.out.trans (hb5.mono HB4.out.size)) (fun _ => HY.out) (fun h => Bool.noConfusion h)
      exact fin ok w5 (Bool.and_true _).symm (FrO.of (Below.refl _ _)) hB
    case neg =>
      have HN := hide (show numW s = none by unfold numW; rw [hn]; simp only []; rw [if_neg hd])
      have q1 : (Lib.itoa n == s.toList) = false := by
        rw [ByteArray.toList_eq]
        simpa using hd
      clear hd hn
      go_wp2_with (first | (go_at_call 137; refine AT.out.mono ?_; rintro e w4 ⟨rfl, hb4⟩; have HT4 := hide (HT.out.below (HB3.out.trans (hb4.mono HB3.out.size))); have HB4 := hide hb4; clear hb4) | (go_at_call 82; refine (IT.out _ HT4.out).mono ?_; rintro e w5 ⟨rfl, hb5⟩; obtain ⟨ok, ws, A, hB, fin⟩ := MAIN.out false n w5 (HB4.out.trans (hb5.mono HB4.out.size)) (fun h => Bool.noConfusion h) (fun _ => HN.out); have c1 := hB.cells 1; have f1 := hB.free 1; simp at c1; have HBB := hide hB; have FIN := hide fin; clear fin hB))
      go_ret
      exact FIN.out false _ (Bool.and_false _).symm (FrO.set rfl) (HBB.out.put rfl)
  case inr =>
    have AT := hide (atoi_no s hz3 hno w3 (HE.out.below HB3.out))
    have HN := hide (show numW s = none by
      unfold numW
      cases hh : Lib.atoiAll s.data.toList with
      | ok v => exact absurd hh (hno v)
      | range => rfl
      | _ => rfl)
    clear hno
    go_wp2_with (first | (go_at_call 137; refine AT.out.mono ?_; rintro e w4 ⟨v, T, N, rfl, hb4⟩; obtain ⟨ok, ws, A, hB, fin⟩ := MAIN.out false v w4 hb4 (fun h => Bool.noConfusion h) (fun _ => HN.out); have c1 := hB.cells 1; have f1 := hB.free 1; simp at c1; have HBB := hide hB; have FIN := hide fin; clear fin hB hb4))
    go_ret
    exact FIN.out false _ (Bool.and_false _).symm (FrO.set rfl) (HBB.out.put rfl)
theorem RowS.unsnoc {w : World} {lo : Nat} {h : Hd} {ss : List St} {ks : Fo} : ∀ {f : Fo} {xs : List Value} {O : Nat → Prop}, RowS w lo (f.app (.node h ss ks .nil)) xs O → ∃ (xs' : List Value) (kv sv : Value) (O1 Of : Nat → Prop), xs = xs' ++ (h.cells kv sv).toList ∧ w.ownsRow lo 69 2 sv ss.length (stV ss) ∧ KidS w lo kv ks O1 ∧ RowS w lo f xs' Of ∧ (∀ j, Of j → O j ∧ ¬ O1 j) ∧ (∀ j, O1 j → O j)
  | .nil, xs, O, ⟨kv, sv, xs', O1, On, e, hs, hk, hn, h3, h4⟩ => by
    have hn' : xs' = [] := hn
    subst hn'
    exact ⟨[], kv, sv, O1, fun _ => False, by rw [e]; simp, hs, hk, rfl, fun _ h => h.elim, fun j hj => (h3 j hj).1⟩
  | .node h' ss' ks' nx, xs, O, ⟨kv, sv, xs', O1, On, e, hs, hk, hn, h3, h4⟩ => by
    obtain ⟨xn, kv2, sv2, O2, Of, e2, hs2, hk2, hr2, ho2, ho3⟩ := RowS.unsnoc (f := nx) hn
    subst e2
    refine ⟨(h'.cells kv sv).toList ++ xn, kv2, sv2, O2, fun j => O1 j ∨ Of j, by rw [e, List.append_assoc], hs2, hk2, ⟨kv, sv, xn, O1, Of, rfl, hs, hk, hr2, fun j hj => ⟨Or.inl hj, fun hf => (h3 j hj).2 (ho2 j hf).1⟩, fun j hj => Or.inr hj⟩, fun j hj => ?_, fun j hj => h4 j (ho3 j hj)⟩
    rcases hj with hj | hj
    · exact ⟨(h3 j hj).1, fun h2 => (h3 j hj).2 (ho3 j h2)⟩
    · exact ⟨h4 j (ho2 j hj).1, (ho2 j hj).2⟩
theorem Blk.notStrS {w : World} {g : Nat} {cs : Array Value} (h : Blk w g cs 22) (cs' : Array Value) (fr : Nat × Nat) : w.heap[g]? ≠ some (Obj.cells cs' 69 fr) := by
  unfold Blk at h
  rw [h]
  intro e
  injection e with e
  injection e with _ e
  cases e
def Stk (lo b : Nat) (st : List Tr) (O : Nat → Prop) (w : World) : Prop := ∃ sl, Blk w b #[sl] 22 ∧ KidS w lo sl (Fo.of st.reverse) O ∧ ∀ j, O j → lo ≤ j ∧ j < w.heap.size
theorem Fo.of_snoc (l : List Tr) (a : Tr) : Fo.of (l ++ [a]) = (Fo.of l).app (.node a.h a.ss a.ks .nil) := by
  induction l with
  | nil => rfl
  | cons x l ih => rw [List.cons_append, Fo.of, ih, Fo.of, Fo.app]
theorem Fo.of_len (l : List Tr) : (Fo.of l).len = l.length := by
  induction l with
  | nil => rfl
  | cons x l ih => rw [Fo.of, Fo.len_node, ih, List.length_cons]
def StkP (lo b : Nat) (st : List Tr) (O : Nat → Prop) (w w' : World) : Prop := ∃ O', Stk lo b st O' w' ∧ (∀ j, O' j → O j ∨ w.heap.size ≤ j) ∧ FrO (fun j => j = b ∨ O j) w w'
theorem Stk.len {lo b : Nat} {st : List Tr} {O : Nat → Prop} {w : World} (h : Stk lo b st O w) : ∃ A c, w.cell? ⟨b, 0, none⟩ = some (.slice A st.length c) := by
  obtain ⟨sl, hb, hk, _⟩ := h
  obtain ⟨A, c, rfl⟩ := hk.slice
  exact ⟨A, c, by rw [hb.cells, Fo.of_len, List.length_reverse]; rfl⟩
theorem Stk.pop {lo b : Nat} {a bt : Tr} {r : List Tr} {O : Nat → Prop} {w : World} (hbl : b < lo) (h : Stk lo b (a :: bt :: r) O w) : ∃ (g cap : Nat) (x0 : List Value) (kva sva svb : Value) (AB : Option Addr) (cB : Nat) (xkb : List Value) (Okb : Nat → Prop),
    x0.length = r.length * 12 ∧ Blk w b #[.slice (some ⟨g, 0, none⟩) (r.length + 2) cap] 22 ∧ w.ownsRow lo 25 12 (.slice (some ⟨g, 0, none⟩) (r.length + 2) cap) (r.length + 2) (x0 ++ (bt.h.cells (.slice AB bt.ks.len cB) svb).toList ++ (a.h.cells kva sva).toList) ∧
    w.ownsRow lo 25 12 (.slice AB bt.ks.len cB) bt.ks.len xkb ∧ RowS w lo bt.ks xkb Okb ∧ (∃ A2 n2 c2, kva = .slice A2 n2 c2) ∧ (∃ A2 n2 c2, sva = .slice A2 n2 c2) ∧ (∃ A2 n2 c2, svb = .slice A2 n2 c2) ∧ (Value.slice AB bt.ks.len cB).ownBlock ≠ some g ∧ O g ∧ (∀ j, (Value.slice AB bt.ks.len cB).ownBlock = some j → O j) ∧
    ∀ (wz : World) (A2 : Option Addr) (c2 : Nat), FrO (fun j => j = g ∨ (Value.slice AB bt.ks.len cB).ownBlock = some j) w wz → Blk wz b #[.slice (some ⟨g, 0, none⟩) (r.length + 2) cap] 22 → StrK w wz →
      wz.ownsRow lo 25 12 (.slice (some ⟨g, 0, none⟩) (r.length + 2) cap) (r.length + 2) (x0 ++ (bt.h.cells (.slice A2 (bt.ks.len + 1) c2) svb).toList ++ (a.h.cells kva sva).toList) →
      wz.ownsRow lo 25 12 (.slice A2 (bt.ks.len + 1) c2) (bt.ks.len + 1) (xkb ++ (a.h.cells kva sva).toList) →
      (∀ j, (Value.slice A2 (bt.ks.len + 1) c2).ownBlock = some j → (Value.slice AB bt.ks.len cB).ownBlock = some j ∨ w.heap.size ≤ j) → StkP lo b (popS (a :: bt :: r)) O w (wz.setCell ⟨b, 0, none⟩ (.slice (some ⟨g, 0, none⟩) (r.length + 1) cap)) := by
  obtain ⟨sl, hb, ⟨xk, Ok, hown, hrow, hok, hslO⟩, hO⟩ := h
  have eF : Fo.of (a :: bt :: r).reverse = ((Fo.of r.reverse).app (.node bt.h bt.ss bt.ks .nil)).app (.node a.h a.ss a.ks .nil) := by
    rw [List.reverse_cons, List.reverse_cons, Fo.of_snoc, Fo.of_snoc]
  have hlen : (Fo.of (a :: bt :: r).reverse).len = r.length + 2 := by rw [Fo.of_len, List.length_reverse, List.length_cons, List.length_cons]
  rw [hlen] at hown
  rw [eF] at hrow
  obtain ⟨x1, kva, sva, Oa, O1, rfl, hsa, hka, hr1, ho1, hoa⟩ := RowS.unsnoc hrow
  obtain ⟨x0, kvb, svb, Ob, O0, rfl, hsb, hkb, hr0, ho0, hob⟩ := RowS.unsnoc hr1
  obtain ⟨g, cap, cur, rfl, hlg, hB, hnc, hcm, hcs, hcx⟩ := own_blk hown (by omega)
  obtain ⟨AB, cB, rfl⟩ := hkb.slice
  obtain ⟨A3, c3, rfl⟩ := hka.slice
  obtain ⟨A4, c4, rfl⟩ := own_slice hsa
  obtain ⟨A5, c5, rfl⟩ := own_slice hsb
  obtain ⟨xkb, Okb, hkb1, hkb2, hkb3, hkb4⟩ := hkb
  have hx0 : x0.length = r.length * 12 := by rw [hr0.len, Fo.of_len, List.length_reverse]
  have hgO : O g := hslO g rfl
  have hne : ∀ j, Ok j → j ≠ g := fun j hj e => (hok j hj).2 (by rw [e]; rfl)
  have hbO : ∀ j, Ob j → Ok j := fun j hj => (ho1 j (hob j hj)).1
  refine ⟨g, cap, x0, _, _, _, AB, cB, xkb, Okb, hx0, hb, hown, hkb1, hkb2, ⟨_, _, _, rfl⟩, ⟨_, _, _, rfl⟩, ⟨_, _, _, rfl⟩, fun e => hne g (hbO g (hkb4 g e)) rfl, hgO, fun j hj => (hok j (hbO j (hkb4 j hj))).1, ?_⟩
  intro wz A2 c2 hf hbz hSK hown2 hk2 hnew
  have hlt : ∀ j, O j → j < w.heap.size := fun j hj => (hO j hj).2
  have hz : w.heap.size ≤ wz.heap.size := hf.size
  have hfs : FrO (fun j => j = b) wz (wz.setCell ⟨b, 0, none⟩ (.slice (some ⟨g, 0, none⟩) (r.length + 1) cap)) := FrO.set rfl
  have hSK2 : StrK wz (wz.setCell ⟨b, 0, none⟩ (.slice (some ⟨g, 0, none⟩) (r.length + 1) cap)) := StrK.of hfs (fun j cs fr e => by subst e; exact hbz.notStrS cs fr)
  have hbn : ∀ j, lo ≤ j → j ≠ b := fun j hj => by omega
  have keepS : ∀ {sv : Value} {ss : List St}, w.ownsRow lo 69 2 sv ss.length (stV ss) → (wz.setCell ⟨b, 0, none⟩ (.slice (some ⟨g, 0, none⟩) (r.length + 1) cap)).ownsRow lo 69 2 sv ss.length (stV ss) := fun hs => own_keep (own_keep hs fun q cs _ hq => hSK q cs _ hq) fun q cs _ hq => hSK2 q cs _ hq
  have keepB : ∀ j, j < w.heap.size → j ≠ g → (Value.slice AB bt.ks.len cB).ownBlock ≠ some j → wz.heap[j]? = w.heap[j]? := fun j hj h1 h2 => hf.block j hj (fun e => e.elim h1 h2)
  have h2b : ∀ j, (Value.slice A2 (bt.ks.len + 1) c2).ownBlock = some j → (Ob j ∨ w.heap.size ≤ j) := fun j hj => (hnew j hj).elim (fun e => Or.inl (hkb4 j e)) Or.inr
  have kA : KidS (wz.setCell ⟨b, 0, none⟩ (.slice (some ⟨g, 0, none⟩) (r.length + 1) cap)) lo (.slice A3 a.ks.len c3) a.ks Oa := (hka.frame hSK fun j hj ho => keepB j hj (hne j (hoa j ho)) (fun e => (ho1 j (hob j (hkb4 j e))).2 ho)).frame hSK2 fun j hj ho => hfs.block j hj (hbn j (hO j (hok j (hoa j ho)).1).1)
  have kB : RowS (wz.setCell ⟨b, 0, none⟩ (.slice (some ⟨g, 0, none⟩) (r.length + 1) cap)) lo bt.ks xkb Okb := (hkb2.frame hSK fun j hj ho => keepB j hj (hne j (hbO j (hkb3 j ho).1)) (hkb3 j ho).2).frame hSK2 fun j hj ho => hfs.block j hj (hbn j (hO j (hok j (hbO j (hkb3 j ho).1)).1).1)
  have k0 : RowS (wz.setCell ⟨b, 0, none⟩ (.slice (some ⟨g, 0, none⟩) (r.length + 1) cap)) lo (Fo.of r.reverse) x0 O0 := (hr0.frame hSK fun j hj ho => keepB j hj (hne j (ho1 j (ho0 j ho).1).1) (fun e => (ho0 j ho).2 (hkb4 j e))).frame hSK2 fun j hj ho => hfs.block j hj (hbn j (hO j (hok j (ho1 j (ho0 j ho).1).1).1).1)
  have hrowK := RowS.snoc (h := a.h) (keepS hsa) kA (f := bt.ks) (O := Okb) (fun j hj ho => (ho1 j (hob j (hkb3 j ho).1)).2 hj) kB
  have hlo2 : ∀ j, (Value.slice A2 (bt.ks.len + 1) c2).ownBlock = some j → lo ≤ j ∧ j < wz.heap.size := fun j hj => hk2.lt j hj
  have hnb2 : ∀ q, (Value.slice A2 (bt.ks.len + 1) c2).ownBlock = some q → q ≠ b := fun q e => hbn q (hlo2 q e).1
  have hkid : KidS (wz.setCell ⟨b, 0, none⟩ (.slice (some ⟨g, 0, none⟩) (r.length + 1) cap)) lo (.slice A2 (bt.ks.len + 1) c2) (bt.ks.app (.node a.h a.ss a.ks .nil)) (fun j => Ob j ∨ Oa j ∨ (Value.slice A2 (bt.ks.len + 1) c2).ownBlock = some j) :=
    ⟨_, _, by rw [Fo.len_app]; exact own_fr hfs hk2 hnb2, hrowK, fun j hj => by
      rcases hj with hj | hj
      · refine ⟨Or.inl (hkb3 j hj).1, fun e => ?_⟩
        rcases hnew j e with h1 | h1
        · exact (hkb3 j hj).2 h1
        · have := hlt j (hok j (hbO j (hkb3 j hj).1)).1; omega
      · refine ⟨Or.inr (Or.inl hj), fun e => ?_⟩
        rcases hnew j e with h1 | h1
        · exact (ho1 j (hob j (hkb4 j h1))).2 hj
        · have := hlt j (hok j (hoa j hj)).1; omega, fun j hj => Or.inr (Or.inr hj)⟩
  have hrowF := RowS.snoc (h := bt.h) (keepS hsb) hkid (f := Fo.of r.reverse) (O := O0) (fun j hj ho => by
    rcases hj with hj | hj | hj
    · exact (ho0 j ho).2 hj
    · exact (ho1 j (ho0 j ho).1).2 hj
    · rcases h2b j hj with h1 | h1
      · exact (ho0 j ho).2 h1
      · have := hlt j (hok j (ho1 j (ho0 j ho).1).1).1; omega) k0
  have eT : (x0 ++ (bt.h.cells (.slice A2 (bt.ks.len + 1) c2) (.slice A5 bt.ss.length c5)).toList ++ (a.h.cells (.slice A3 a.ks.len c3) (.slice A4 a.ss.length c4)).toList).take ((r.length + 1) * 12) = x0 ++ (bt.h.cells (.slice A2 (bt.ks.len + 1) c2) (.slice A5 bt.ss.length c5)).toList := by
    have e1 : (r.length + 1) * 12 = (x0 ++ (bt.h.cells (.slice A2 (bt.ks.len + 1) c2) (.slice A5 bt.ss.length c5)).toList).length := by rw [List.length_append, hx0]; show _ = _ + 12; omega
    rw [e1, List.take_left]
  have hrowG := own_take hown2 (i := r.length + 1) (by omega)
  rw [eT] at hrowG
  have hgb : g ≠ b := hbn g hlg
  have hin : ∀ j, (O0 j ∨ Ob j ∨ Oa j ∨ (Value.slice A2 (bt.ks.len + 1) c2).ownBlock = some j) → (Ok j ∨ (w.heap.size ≤ j ∧ (Value.slice A2 (bt.ks.len + 1) c2).ownBlock = some j)) := fun j hj => by
    rcases hj with hj | hj | hj | hj
    · exact Or.inl (ho1 j (ho0 j hj).1).1
    · exact Or.inl (hbO j hj)
    · exact Or.inl (hoa j hj)
    · rcases h2b j hj with h1 | h1
      · exact Or.inl (hbO j h1)
      · exact Or.inr ⟨h1, hj⟩
  refine ⟨fun j => O0 j ∨ (Ob j ∨ Oa j ∨ (Value.slice A2 (bt.ks.len + 1) c2).ownBlock = some j) ∨ j = g, ⟨.slice (some ⟨g, 0, none⟩) (r.length + 1) cap, hbz.put rfl, ⟨x0 ++ (bt.h.cells (.slice A2 (bt.ks.len + 1) c2) (.slice A5 bt.ss.length c5)).toList, fun j => O0 j ∨ (Ob j ∨ Oa j ∨ (Value.slice A2 (bt.ks.len + 1) c2).ownBlock = some j), ?_, ?_, fun j hj => ⟨hj.elim Or.inl (fun h => Or.inr (Or.inl h)), fun e => ?_⟩, fun j (hj : (Value.slice (some ⟨g, 0, none⟩) (r.length + 1) cap).ownBlock = some j) => Or.inr (Or.inr (show g = j from Option.some.inj hj).symm)⟩, fun j hj => ?_⟩, fun j hj => ?_, ?_⟩
  · have : (Fo.of (popS (a :: bt :: r)).reverse).len = r.length + 1 := by rw [Fo.of_len, List.length_reverse]; rfl
    rw [this]
    exact own_fr hfs hrowG (fun q e => by have e2 : g = q := Option.some.inj e; omega)
  · have : Fo.of (popS (a :: bt :: r)).reverse = (Fo.of r.reverse).app (.node bt.h bt.ss (bt.ks.app (.node a.h a.ss a.ks .nil)) .nil) := by
      show Fo.of (_ :: r).reverse = _
      rw [List.reverse_cons, Fo.of_snoc]
    rw [this]
    exact hrowF
  · have e2 : g = j := Option.some.inj e
    rcases hin j hj with h1 | h1
    · exact hne j h1 e2.symm
    · have := hB.lt; omega
  · have hsz : (wz.setCell ⟨b, 0, none⟩ (.slice (some ⟨g, 0, none⟩) (r.length + 1) cap)).heap.size = wz.heap.size := World.size_setCell ..
    rw [hsz]
    have key : Ok j ∨ (w.heap.size ≤ j ∧ (Value.slice A2 (bt.ks.len + 1) c2).ownBlock = some j) ∨ j = g := by
      rcases hj with hj | hj | hj
      · exact (hin j (Or.inl hj)).elim Or.inl (fun h => Or.inr (Or.inl h))
      · exact (hin j (Or.inr hj)).elim Or.inl (fun h => Or.inr (Or.inl h))
      · exact Or.inr (Or.inr hj)
    rcases key with h1 | h1 | h1
    · have := hO j (hok j h1).1; omega
    · exact hlo2 j h1.2
    · have := hO g hgO; omega
  · have key : Ok j ∨ (w.heap.size ≤ j ∧ (Value.slice A2 (bt.ks.len + 1) c2).ownBlock = some j) ∨ j = g := by
      rcases hj with hj | hj | hj
      · exact (hin j (Or.inl hj)).elim Or.inl (fun h => Or.inr (Or.inl h))
      · exact (hin j (Or.inr hj)).elim Or.inl (fun h => Or.inr (Or.inl h))
      · exact Or.inr (Or.inr hj)
    rcases key with h1 | h1 | h1
    · exact Or.inl (hok j h1).1
    · exact Or.inr h1.1
    · exact Or.inl (h1 ▸ hgO)
  · exact (FrO.mono (fun j hj => by
      rcases hj with h1 | h1
      · exact Or.inr (h1 ▸ hgO)
      · exact Or.inr (hok j (hbO j (hkb4 j h1))).1) hf).trans (FrO.mono (fun j h => Or.inl h) hfs) (fun j h => Or.inl h)
end Go.Proofs.YtlhakdildbplkaaGreatDoor
