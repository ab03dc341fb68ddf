/- Contracts and plain words for the laws of this chapter, part 26: Ex1, Ex2. No condition. -/
import Derived.Test.YtlhakdildbplkaaGreatDoorD25
namespace Go.Proofs.YtlhakdildbplkaaGreatDoor
set_option linter.unusedSimpArgs false
set_option linter.unusedVariables false
def exK : Tr := ⟨⟨⟨#[97, 32, 98]⟩, 1, ⟨#[104, 105]⟩, eS, 420, 0, 0, 1000000000, 0, 0⟩, [], .nil⟩
def exT : Tr := ⟨⟨eS, 0, eS, eS, 493, 0, 0, 1000000000, 0, 0⟩, [], .node exK.h [] .nil .nil⟩
def exL : Tr := ⟨⟨eS, 0, eS, eS, 493, 0, 0, 1000000000, 0, 0⟩, [], .nil⟩
def exB : List UInt8 := [100, 105, 114, 101, 99, 116, 111, 114, 121, 32, 49, 32, 61, 32, 52, 57, 51, 32, 48, 32, 48, 32, 49, 48, 48, 48, 48, 48, 48, 48, 48, 48, 32, 48, 32, 48, 10, 102, 105, 108, 101, 32, 50, 32, 97, 37, 50, 48, 98, 32, 52, 50, 48, 32, 48, 32, 48, 32, 49, 48, 48, 48, 48, 48, 48, 48, 48, 48, 32, 48, 32, 48, 32, 104, 105, 10]
def exS : ByteArray := ⟨exB.toArray⟩
theorem ex_check : checkT exT = (eS, 0) := by decide +kernel
theorem ex_valid : validB exT = true := by unfold validB; rw [ex_check]; rfl
theorem ex_format : formatT exT = (exS, 0) := by decide +kernel
theorem ex_parse : parseT exS = (exT, 0, 0) := by decide +kernel
theorem ex_get : getT exT ⟨#[97, 32, 98]⟩ = (exK, 0) := by decide +kernel
theorem ex_rem : remQ exT ⟨#[97, 32, 98]⟩ = (exL, 0) := by decide +kernel
theorem ex_put : putQ exL eS exK = (exT, 0) := by decide +kernel
theorem ex_count : exT.count = 2 := by decide
theorem ex_lev : exT.lev = 2 := by decide
theorem ex_paths : pathsT exT = [eS, ⟨#[97, 32, 98]⟩] := by decide +kernel
theorem ex_name : nameB ⟨#[97, 32, 98]⟩ = true := by decide +kernel
theorem ex_noname : nameB ⟨#[97, 47, 98]⟩ = false := by decide +kernel
theorem ex_target : targetB ⟨#[47, 97, 47, 46, 46]⟩ = true := by decide +kernel
theorem ex_notarget : targetB ⟨#[97, 47]⟩ = false := by decide +kernel
theorem ex_sz : exT.sz ≤ 100 ∧ exK.sz ≤ 100 ∧ exL.sz ≤ 100 := by decide
theorem ex_ne : exL ≠ exT := by decide
theorem ex_nostr : NoStr exS.data.toList := by
  have e : ((piecesC 10 exS.data.toList).dropLast.map fun p => kindOf ((wordsOf p).headD eS)) = [0, 1] := by decide +kernel
  intro p hp w ws hw h3
  have hm : kindOf ((wordsOf p).headD eS) ∈ ((piecesC 10 exS.data.toList).dropLast.map fun p => kindOf ((wordsOf p).headD eS)) := List.mem_map.2 ⟨p, hp, rfl⟩
  rw [e, hw] at hm
  simp only [List.headD_cons, h3] at hm
  simp at hm
theorem parse_is {s : ByteArray} {x t : Tr} {st : List Tr} (h : parseT s = (x, 0, 0)) (h1 : linesS (piecesC 10 s.data.toList).dropLast 0 [] = .ok st) (h2 : leaveS 1 st.length st = [t]) : t = x := by
  unfold parseT at h
  split at h
  · simp at h
  · rw [h1] at h
    dsimp only at h
    split at h
    · simp at h
    · rw [h2] at h
      dsimp only at h
      split at h
      · rename_i h3
        exact absurd (by simpa using (Prod.mk.inj (Prod.mk.inj h).2).2) h3
      · exact (Prod.mk.inj h).1
theorem ex_small : ∀ st t, linesS (piecesC 10 exS.data.toList).dropLast 0 [] = .ok st → leaveS 1 st.length st = [t] → t.sz ≤ 60000 := fun st t h1 h2 => by
  rw [parse_is ex_parse h1 h2]
  have := ex_sz.1
  omega
end Go.Proofs.YtlhakdildbplkaaGreatDoor
namespace Go.Proofs.YtlhakdildbplkaaGreatDoor
set_option linter.unusedSimpArgs false
set_option linter.unusedVariables false
open Go.RowKit
def exKC : Array Value := exK.h.cells (.slice none 0 0) (.slice none 0 0)
theorem built_k : Tryz.prog.built 25 [(0, .string ⟨#[97, 32, 98]⟩), (1, .int .i64 1), (2, .string ⟨#[104, 105]⟩), (4, .int .i64 420), (7, .int .i64 1000000000)] = some exKC := by kernel_rfl
theorem built_t (g : Nat) : Tryz.prog.built 25 [(4, .int .i64 493), (7, .int .i64 1000000000), (10, .slice (some ⟨g, 0, none⟩) 1 1)] = some (exT.h.cells (.slice (some ⟨g, 0, none⟩) 1 1) (.slice none 0 0)) := by kernel_rfl
theorem ex_reads (w : World) : TreeR (w.alloc (.cells exKC 25)) (w.heap.size + 1) (.agg (exT.h.cells (.slice (some ⟨w.heap.size, 0, none⟩) 1 1) (.slice none 0 0))) exT := by
  refine ⟨_, _, rfl, ⟨none, 0, rfl, fun h => absurd h (Nat.lt_irrefl _)⟩, ⟨some ⟨w.heap.size, 0, none⟩, 1, rfl, fun _ => ⟨w.heap.size, 0, rfl, Nat.lt_succ_self _, ⟨_, _, rangeAt_of fun j u hj => ?_, ⟨none, 0, rfl, fun h => absurd h (Nat.lt_irrefl _)⟩, none, 0, rfl, fun h => absurd h (Nat.lt_irrefl _)⟩, trivial⟩⟩⟩
  rw [Nat.zero_add]
  exact ((Blk.new w exKC 25).cells j).trans (by rw [← Array.getElem?_toList]; exact hj)
set_option maxRecDepth 100000 in
set_option maxHeartbeats 4000000 in
theorem example_any (w : World) : Calls Tryz.prog 44 #[] w fun e w' => ∃ v, e = .returned v ∧ TreeR w' w'.heap.size v exT ∧ Below w.heap.size w w' := by
  have HL : Live w [] := trivial
  go_enter Tryz.func44, Tryz.ntmps44
  go_upto_region 1 with fail
  have hbel1 : Below w.heap.size w (w.alloc (.cells zeroN 25)) := (Below.refl _ _).alloc (Nat.le_refl _) _
  have HB := hide (show Blk (w.alloc (.cells zeroN 25)) w.heap.size zeroN 25 from Blk.newAt rfl)
  unfold zeroN at hbel1
  generalize hW : w.alloc (.cells #[.string ⟨#[]⟩, .int .i64 0, .string ⟨#[]⟩, .string ⟨#[]⟩, .int .i64 0, .int .i64 0, .int .i64 0, .int .i64 0, .int .i64 0, .int .i64 0, .slice none 0 0, .slice none 0 0] 25) = W1 at *
  (try rw [show w.alloc (.cells zeroN 25) = W1 from hW] at HB)
  clear hW
  obtain ⟨b, hb⟩ : ∃ b, b = w.heap.size := ⟨_, rfl⟩
  have hbw : w.heap.size ≤ b := by omega
  rw [← hb] at HB ⊢
  clear hb
  have hz := hbel1.size
  have HR := hide (ex_reads W1)
  have HB2 := hide (HB.out.alloc (.cells exKC 25))
  have hbel2 : Below w.heap.size w (W1.alloc (.cells exKC 25)) := hbel1.alloc hz _
  have HBE := hide hbel2
  clear hbel1 hbel2
  have HBR := hide (show Blk ((W1.alloc (.cells exKC 25)).setRow b (exT.h.cells (.slice (some ⟨W1.heap.size, 0, none⟩) 1 1) (.slice none 0 0))) b (exT.h.cells (.slice (some ⟨W1.heap.size, 0, none⟩) 1 1) (.slice none 0 0)) 25 from setRow_heap _ _ _ _ _ _ HB2.out)
  have HBF := hide (show Below w.heap.size w ((W1.alloc (.cells exKC 25)).setRow b (exT.h.cells (.slice (some ⟨W1.heap.size, 0, none⟩) 1 1) (.slice none 0 0))) from HBE.out.trans ((FrO.setRow (O := fun j => j = b) rfl).below HBE.out.size fun j hj => by omega))
  have HRF := hide (show TreeR ((W1.alloc (.cells exKC 25)).setRow b (exT.h.cells (.slice (some ⟨W1.heap.size, 0, none⟩) 1 1) (.slice none 0 0))) ((W1.alloc (.cells exKC 25)).setRow b (exT.h.cells (.slice (some ⟨W1.heap.size, 0, none⟩) 1 1) (.slice none 0 0))).heap.size (.agg (exT.h.cells (.slice (some ⟨W1.heap.size, 0, none⟩) 1 1) (.slice none 0 0))) exT from by
    have hs : ((W1.alloc (.cells exKC 25)).setRow b (exT.h.cells (.slice (some ⟨W1.heap.size, 0, none⟩) 1 1) (.slice none 0 0))).heap.size = W1.heap.size + 1 := by simp [World.setRow, World.size_alloc]
    rw [hs]
    obtain ⟨g, hg⟩ : ∃ g, g = W1.heap.size := ⟨_, rfl⟩
    have hgb : g ≠ b := by have := HB.out.lt; omega
    rw [← hg]
    refine ⟨_, _, rfl, ⟨none, 0, rfl, fun h => absurd h (Nat.lt_irrefl _)⟩, ⟨some ⟨g, 0, none⟩, 1, rfl, fun _ => ⟨g, 0, rfl, Nat.lt_succ_self _, ⟨_, _, rangeAt_of fun j u hj => ?_, ⟨none, 0, rfl, fun h => absurd h (Nat.lt_irrefl _)⟩, none, 0, rfl, fun h => absurd h (Nat.lt_irrefl _)⟩, trivial⟩⟩⟩
    rw [Nat.zero_add]
    have hB : Blk ((W1.alloc (.cells exKC 25)).setRow b (exT.h.cells (.slice (some ⟨g, 0, none⟩) 1 1) (.slice none 0 0))) g exKC 25 := (setRow_other _ _ _ _ hgb).trans (Blk.newAt hg.symm)
    exact (hB.cells j).trans (by rw [← Array.getElem?_toList]; exact hj))
  go_wp2_with ((with_reducible show wpList _ _ _ _ _ _); (first | (refine wpList_build_is rfl 25 #[(0, .const (.string ⟨#[97, 32, 98]⟩)), (1, .const (.int .i64 1)), (2, .const (.string ⟨#[104, 105]⟩)), (4, .const (.int .i64 420)), (7, .const (.int .i64 1000000000))] rfl _ rfl _ built_k ?_) | (refine wpList_build_is rfl 25 #[(4, .const (.int .i64 493)), (7, .const (.int .i64 1000000000)), (10, .tmp 2)] rfl _ rfl _ (built_t W1.heap.size) ?_) | (refine wpList_store_row rfl 25 (.tmp 0) (.tmp 3) rfl b (exT.h.cells (.slice (some ⟨W1.heap.size, 0, none⟩) 1 1) (.slice none 0 0)) rfl rfl 25 zeroN HB2.out (infN rfl) rfl (nodeLit _ _ _ _ _ _ _) ?_)))
  show bodyPost Tryz.prog Tryz.f44 _ .ret _ _
  refine bodyPost_ret (results_cell_row Tryz.results44 _ _ b 25 (exT.h.cells (.slice (some ⟨W1.heap.size, 0, none⟩) 1 1) (.slice none 0 0)) (0, 0) _ rfl HBR.out Tryz.underlying25 rfl (infN rfl)) rfl ?_
  exact ⟨_, rfl, HRF.out, HBF.out⟩
end Go.Proofs.YtlhakdildbplkaaGreatDoor
