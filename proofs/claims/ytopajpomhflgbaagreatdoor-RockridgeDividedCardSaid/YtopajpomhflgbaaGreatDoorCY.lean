/- Contracts of rockridge.check and the reference's Check. -/
import Derived.Test.YtopajpomhflgbaaGreatDoorCX2
import Derived.Deep.DeepCutAuto
namespace Go.Proofs.YtopajpomhflgbaaGreatDoor
set_option linter.unusedSimpArgs false
set_option linter.unusedVariables false
open Go.RowKit

/-- What is said of a node. -/
structure RR where
  att : Bool
  kind : Int
  mode : Int
  links : Int
  uid : Int
  gid : Int
  named : Bool
  name : ByteArray
  target : ByteArray
  timed : Bool
  time : Int
  child : Int
  parent : Int
  reloc : Bool
def RR.cells (r : RR) : Array Value := #[.bool r.att, .int .i64 r.kind, .int .i64 r.mode, .int .i64 r.links, .int .i64 r.uid, .int .i64 r.gid, .bool r.named, .string r.name, .string r.target, .bool r.timed, .int .i64 r.time, .int .i64 r.child, .int .i64 r.parent, .bool r.reloc]
def wordB (n : Int) : Bool := decide (0 ≤ n ∧ n ≤ 4294967295)
def timeB (t : Int) : Bool := decide (315532800 ≤ t ∧ t ≤ 4102444799)
def bad1 (r : RR) : Bool := !r.att && !(r.kind == 0 && r.mode == 0 && r.links == 0 && r.uid == 0 && r.gid == 0)
def bad2 (r : RR) : Bool := (!r.named && !r.name.toList.isEmpty) || (!r.timed && !(r.time == 0))
def bad3 (r : RR) : Bool := r.att && !decide (0 ≤ r.kind ∧ r.kind ≤ 2)
def bad4 (r : RR) : Bool := (r.named && !nameB r.name) || (!r.target.toList.isEmpty && !targetB r.target)
def wordsB (r : RR) : Bool := wordB r.links && wordB r.uid && wordB r.gid && wordB r.child && wordB r.parent
def bad5 (r : RR) : Bool := !decide (0 ≤ r.mode ∧ r.mode ≤ 4095) || !wordsB r
def bad6 (r : RR) : Bool := r.timed && !timeB r.time
def chk (r : RR) : Int := if bad1 r || bad2 r || bad3 r then 1 else if bad4 r then 4 else if bad5 r || bad6 r then 2 else 0
set_option maxHeartbeats 400000 in
theorem wordLit (n : Int) (w : World) : Calls Tryz.prog 86 #[.int .i64 n] w fun e w' => e = .returned (.bool (!wordB n)) ∧ w = w' := by
  have HL : Live w [] := trivial
  go_enter Tryz.func86, Tryz.ntmps86
  go_wp2
  all_goals
    go_ret
    exact ⟨ret_b (by rw [Bool.eq_iff_iff]; simp [wordB] <;> omega), rfl⟩
set_option maxHeartbeats 400000 in
theorem rnumber (n : Int) (w : World) : Calls Tryz.prog 66 #[.int .i64 n] w fun e w' => e = .returned (.bool (wordB n)) ∧ w = w' := by
  have HL : Live w [] := trivial
  go_enter Tryz.func66, Tryz.ntmps66
  go_wp2
  all_goals
    go_ret
    exact ⟨ret_b (by rw [Bool.eq_iff_iff]; simp [wordB] <;> omega), rfl⟩
set_option maxHeartbeats 400000 in
theorem rTime_any (t : Int) (w : World) : Calls Tryz.prog 67 #[.int .i64 t] w fun e w' => e = .returned (.bool (timeB t)) ∧ w = w' := by
  have HL : Live w [] := trivial
  go_enter Tryz.func67, Tryz.ntmps67
  go_wp2
  all_goals
    go_ret
    exact ⟨ret_b (by rw [Bool.eq_iff_iff]; simp [timeB] <;> omega), rfl⟩
/-- The place that IndexFunc finds. -/
def IdxP (ns : List Int) (w : World) (e : Ending) (w' : World) : Prop := ∃ i : Int, e = .returned (.int .i64 i) ∧ decide (0 ≤ i) = !(ns.all wordB) ∧ w = w'
set_option maxHeartbeats 1000000 in
theorem idx_word (g c : Nat) (ns : List Int) (w : World) (hn : ns.length ≤ 1000) (hc : ∀ j n, ns[j]? = some n → w.cell? ⟨g, j, none⟩ = some (.int .i64 n)) :
    Calls Tryz.prog 49 #[.slice (some ⟨g, 0, none⟩) ns.length c, .func (.func 86) #[] #[]] w (IdxP ns w) := by
  have HC := hide hc
  clear hc
  have HL : Live w [] := trivial
  go_enter Tryz.func49, Tryz.ntmps49
  go_wp2_with fail
  go_loop [8] (fun i => ∃ k : Nat, k ≤ ns.length ∧ i = .int .i64 k ∧ (ns.take k).all wordB = true) (fun i => ns.length - (intOf i).toNat)
  case atStart => exact ⟨0, by omega, rfl, rfl⟩
  case round =>
    obtain ⟨k, hk, rfl, ha⟩ := hrel
    have HA := hide ha
    clear ha
    by_cases hlt : k < ns.length
    · obtain ⟨n, hx⟩ : ∃ n, ns[k]? = some n := ⟨_, List.getElem?_eq_getElem hlt⟩
      have hcell := HC.out k n hx
      have HX := hide hx
      clear hx
      cases hb : wordB n
      · have HB := hide hb
        go_wp2_with (first | (go_at_call 86; (with_reducible refine (wordLit _ _).mono ?_); rintro e w' ⟨rfl, rfl⟩))
        go_ret
        exact ⟨k, rfl, by
          have : ns.all wordB = false := by rw [List.all_eq_false]; exact ⟨n, List.mem_of_getElem? HX.out, by rw [HB.out]; simp⟩
          rw [this]; simp, rfl⟩
      · have HB := hide hb
        go_wp2_with (first | (go_at_call 86; (with_reducible refine (wordLit _ _).mono ?_); rintro e w' ⟨rfl, rfl⟩))
        go_round
        case rel => exact ⟨k + 1, by omega, by go_num, by
          obtain ⟨hi, e⟩ := List.getElem?_eq_some_iff.1 HX.out
          rw [List.take_succ_eq_append_getElem hi, List.all_append, HA.out, e]; simp [HB.out]⟩
        case measure => simp [intOf]; omega
    · obtain rfl : k = ns.length := by omega
      go_wp2
      go_ret
      exact ⟨-1, rfl, by have := HA.out; rw [List.take_length] at this; rw [this]; rfl, rfl⟩
set_option maxHeartbeats 1000000 in
theorem cont_word (g c : Nat) (ns : List Int) (w : World) (hn : ns.length ≤ 1000) (hc : ∀ j n, ns[j]? = some n → w.cell? ⟨g, j, none⟩ = some (.int .i64 n)) :
    Calls Tryz.prog 85 #[.slice (some ⟨g, 0, none⟩) ns.length c, .func (.func 86) #[] #[]] w fun e w' => e = .returned (.bool (!(ns.all wordB))) ∧ w = w' := by
  have IW := hide (idx_word g c ns w hn hc)
  clear hc
  have HL : Live w [] := trivial
  go_enter Tryz.func85, Tryz.ntmps85
  go_wp2_with fail
  refine IW.out.mono ?_
  rintro e w' ⟨ix, rfl, hix, rfl⟩
  have HIX := hide hix
  clear hix
  go_wp2
  go_ret
  exact ⟨ret_b HIX.out, rfl⟩
theorem five_cells (w : World) (T : TypeId) (a b c d f : Int) (hw : ∀ o, w.cell? ⟨w.heap.size - 1, o, none⟩ = (#[Value.int .i64 a, .int .i64 b, .int .i64 c, .int .i64 d, .int .i64 f] : Array Value)[o]?) :
    ∀ j n, ([a, b, c, d, f] : List Int)[j]? = some n → w.cell? ⟨w.heap.size - 1, j, none⟩ = some (.int .i64 n) := by
  intro j n h
  rw [hw j]
  match j, h with
  | 0, h => simp at h; subst h; rfl
  | 1, h => simp at h; subst h; rfl
  | 2, h => simp at h; subst h; rfl
  | 3, h => simp at h; subst h; rfl
  | 4, h => simp at h; subst h; rfl
  | k + 5, h => simp at h
set_option maxHeartbeats 1000000 in
theorem word5 (g : Nat) (a b c d f : Int) (w : World) (hc : ∀ j n, ([a, b, c, d, f] : List Int)[j]? = some n → w.cell? ⟨g, j, none⟩ = some (.int .i64 n)) :
    Calls Tryz.prog 61 #[.slice (some ⟨g, 0, none⟩) 5 5] w fun e w' => e = .returned (.bool (wordB a && wordB b && wordB c && wordB d && wordB f)) ∧ w = w' := by
  have CW := hide (cont_word g 5 [a, b, c, d, f] w (by simp) hc)
  clear hc
  have HL : Live w [] := trivial
  go_enter Tryz.func61, Tryz.ntmps61
  go_wp2_with fail
  refine CW.out.mono ?_
  rintro e w' ⟨rfl, rfl⟩
  go_wp2
  go_ret
  exact ⟨ret_b (by simp [Bool.and_assoc]), rfl⟩
/-- A block reads as what is said of a node. -/
def RRat (w : World) (b : Nat) (r : RR) : Prop := w.cell? ⟨b, 0, none⟩ = some (.bool r.att) ∧ w.cell? ⟨b, 1, none⟩ = some (.int .i64 r.kind) ∧ w.cell? ⟨b, 2, none⟩ = some (.int .i64 r.mode) ∧ w.cell? ⟨b, 3, none⟩ = some (.int .i64 r.links) ∧ w.cell? ⟨b, 4, none⟩ = some (.int .i64 r.uid) ∧ w.cell? ⟨b, 5, none⟩ = some (.int .i64 r.gid) ∧ w.cell? ⟨b, 6, none⟩ = some (.bool r.named) ∧ w.cell? ⟨b, 7, none⟩ = some (.string r.name) ∧ w.cell? ⟨b, 8, none⟩ = some (.string r.target) ∧ w.cell? ⟨b, 9, none⟩ = some (.bool r.timed) ∧ w.cell? ⟨b, 10, none⟩ = some (.int .i64 r.time) ∧ w.cell? ⟨b, 11, none⟩ = some (.int .i64 r.child) ∧ w.cell? ⟨b, 12, none⟩ = some (.int .i64 r.parent) ∧ w.cell? ⟨b, 13, none⟩ = some (.bool r.reloc)
theorem RRat.of {w : World} {b : Nat} {r : RR} {T : TypeId} (h : Blk w b r.cells T) : RRat w b r := by
  unfold RRat
  have hc := h.cells
  exact ⟨(hc 0).trans rfl, (hc 1).trans rfl, (hc 2).trans rfl, (hc 3).trans rfl, (hc 4).trans rfl, (hc 5).trans rfl, (hc 6).trans rfl, (hc 7).trans rfl, (hc 8).trans rfl, (hc 9).trans rfl, (hc 10).trans rfl, (hc 11).trans rfl, (hc 12).trans rfl, (hc 13).trans rfl⟩
end Go.Proofs.YtopajpomhflgbaaGreatDoor
