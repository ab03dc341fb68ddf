/- Contracts and plain words for the laws of this chapter, part 4: W2, W3, W4, W5, W6, W7, W8. No condition. -/
import Derived.Test.YtlhakdildbplkaaGreatDoorF3
import Derived.Test.YtlhakdildbplkaaGreatDoorF0
namespace Go.Proofs.YtlhakdildbplkaaGreatDoor
set_option linter.unusedSimpArgs false
set_option linter.unusedVariables false
open Go.RowKit
def inB (x lo hi : Int) : Bool := decide (lo ≤ x) && decide (x ≤ hi)
theorem ranged_in (h : Hd) : rangedB h = (inB h.mode 0 4095 && inB h.uid 0 65535 && inB h.gid 0 65535 && inB h.time 315532800 4102444799 && inB h.weight (-1048576) 1048576 && inB h.hidden 0 15) := by
  unfold rangedB inB
  rw [Bool.eq_iff_iff]
  simp
  omega
set_option maxHeartbeats 1000000 in
theorem in_any (x lo hi : Int) (w : World) : Calls Tryz.prog 112 #[.int .i64 x, .int .i64 lo, .int .i64 hi] w fun e w' => e = .returned (.bool (inB x lo hi)) ∧ w = w' := by
  have HI := hide (show inB x lo hi = (decide (lo ≤ x) && decide (x ≤ hi)) from rfl)
  go_enter Tryz.func112, Tryz.ntmps112
  by_cases q : lo ≤ x
  · have q1 : decide (lo ≤ x) = true := decide_eq_true q
    have HQ := hide q
    go_wp2_with fail
    go_ret
    exact ⟨ret_b (by rw [HI.out, decide_eq_true HQ.out, Bool.true_and]), rfl⟩
  · have q1 : decide (lo ≤ x) = false := decide_eq_false q
    have HQ := hide q
    go_wp2_with fail
    go_ret
    exact ⟨ret_b (by rw [HI.out, decide_eq_false (by have := HQ.out; omega), Bool.false_and]), rfl⟩
set_option maxRecDepth 100000 in
set_option maxHeartbeats 1000000 in
theorem rname1_any (h : Hd) (kv sv : Value) (l : Nat) (hl : 1 ≤ l) (hs : h.name.size ≤ 60000) (w : World) (hT : TabV w) : Calls Tryz.prog 49 #[.agg (ruleC h kv sv l)] w fun e w' => e = .returned (.int .i64 (nameE h l)) ∧ Below w.heap.size w w' := by
  have HL : Live w [] := trivial
  go_enter Tryz.func49, Tryz.ntmps49
  go_upto_region 1 with fail
  have HN := hide (RuleB.new w h kv sv l)
  have hbel1 : Below w.heap.size w (w.alloc (.cells (ruleC h kv sv l) 53)) := by (exact bl)
  have hT1 := hT.below hbel1
  generalize w.alloc (.cells (ruleC h kv sv l) 53) = W1 at *
  obtain ⟨b, hb⟩ : ∃ b, b = w.heap.size := ⟨_, rfl⟩
  rw [← hb] at HN ⊢
  clear hb
  have d0 := HN.out.c0
  have d12 := HN.out.c12
  by_cases q : l = 1
  case pos =>
    have q1 : ((l : Int) == 1) = true := by simp; omega
    have q2 : decide ((1 : Int) < (l : Int)) = false := decide_eq_false (by omega)
    have q3 : decide (1 < l) = false := decide_eq_false (by omega)
    have HQ := hide q
    clear q hl
    by_cases he : h.name.toList = []
    · have heq : h.name.toList.isEmpty = true := by rw [he]; rfl
      have HR := hide (show nameE h l = 0 by unfold nameE; rw [if_neg]; rw [HQ.out]; simp [emp_iff, he])
      go_wp2_with fail
      go_ret
      exact ⟨ret_i HR.out.symm, hbel1⟩
    · have heq : h.name.toList.isEmpty = false := by simpa using he
      have HR := hide (show nameE h l = 4 by unfold nameE; rw [if_pos]; rw [HQ.out]; simp [emp_iff, he])
      go_wp2_with fail
      go_ret
      exact ⟨ret_i HR.out.symm, hbel1⟩
  case neg =>
    have q1 : ((l : Int) == 1) = false := by simp; omega
    have q2 : decide ((1 : Int) < (l : Int)) = true := decide_eq_true (by omega)
    have q3 : decide (1 < l) = true := decide_eq_true (by omega)
    have HQ := hide (show 1 < l by omega)
    clear q hl
    have NM := hide (fun W hW => name_any h.name hs W hW)
    cases hn : nameB h.name
    · have HR := hide (show nameE h l = 4 by unfold nameE; rw [if_pos (Or.inr ⟨HQ.out, hn⟩)])
      rw [hn] at NM
      clear hn
      go_wp2_with (go_at_call 16; refine (NM.out _ hT1.1).mono ?_; rintro e w3 ⟨rfl, hb3⟩)
      go_ret
      exact ⟨ret_i HR.out.symm, hbel1.trans (hb3.mono hbel1.size)⟩
    · have HR := hide (show nameE h l = 0 by
        unfold nameE
        rw [if_neg]
        rintro (⟨e, _⟩ | ⟨_, e⟩)
        · have := HQ.out; omega
        · rw [hn] at e; cases e)
      rw [hn] at NM
      clear hn
      go_wp2_with (go_at_call 16; refine (NM.out _ hT1.1).mono ?_; rintro e w3 ⟨rfl, hb3⟩)
      go_ret
      exact ⟨ret_i HR.out.symm, hbel1.trans (hb3.mono hbel1.size)⟩
theorem RuleB.row {w : World} {b : Nat} {h : Hd} {kv sv : Value} {l : Nat} (n : RuleB w b h kv sv l) : w.rangeAt b 0 (h.cells kv sv).toList := fun j u hu => by
  have e : (ruleC h kv sv l).toList = (h.cells kv sv).toList ++ [.int .i64 (l : Int)] := rfl
  rw [Nat.zero_add, n.blk.cells j, ← Array.getElem?_toList, e, List.getElem?_append_left (List.getElem?_eq_some_iff.1 hu).1, hu]
theorem one12 (h : Hd) (A : Option Addr) (n c : Nat) (A2 : Option Addr) (n2 c2 : Nat) : (h.cells (.slice A n c) (.slice A2 n2 c2)).all (·.oneCell') = true := by kernel_rfl
theorem inC (x lo hi : Int) (w : World) : Calls Tryz.prog 112 #[.int .i64 x, .int .i64 lo, .int .i64 hi] w fun e w' => e = .returned (.bool (inB x lo hi)) ∧ w = w' := in_any x lo hi w
set_option maxRecDepth 100000 in
set_option maxHeartbeats 2000000 in
theorem rnum_any (h : Hd) (A : Option Addr) (n c : Nat) (A2 : Option Addr) (n2 c2 : Nat) (l : Nat) (w : World) : Calls Tryz.prog 52 #[.agg (ruleC h (.slice A n c) (.slice A2 n2 c2) l)] w fun e w' => e = .returned (.int .i64 (numE h)) ∧ Below w.heap.size w w' := by
  have HK := hide (show numE h = if rangedB h = true then 0 else 2 from rfl)
  have HL : Live w [] := trivial
  go_enter Tryz.func52, Tryz.ntmps52
  go_upto_region 1 with fail
  have HN := hide (RuleB.new w h (.slice A n c) (.slice A2 n2 c2) l)
  have hbel1 : Below w.heap.size w (w.alloc (.cells (ruleC h (.slice A n c) (.slice A2 n2 c2) l) 53)) := by (exact bl)
  generalize w.alloc (.cells (ruleC h (.slice A n c) (.slice A2 n2 c2) l) 53) = W1 at *
  obtain ⟨b, hb⟩ : ∃ b, b = w.heap.size := ⟨_, rfl⟩
  rw [← hb] at HN ⊢
  clear hb
  go_upto_region 2 with (first | (refine wpList_load_midA rfl 25 (.tmp 5) rfl b 0 rfl (h.cells (.slice A n c) (.slice A2 n2 c2)) _ HN.out.row Tryz.underlying25 rfl (infNl rfl) ?_) | (refine wpList_store_new rfl 25 (.tmp 3) (.tmp 6) rfl (h.cells (.slice A n c) (.slice A2 n2 c2)) rfl rfl 25 _ (infN rfl) rfl (one12 _ _ _ _ _ _ _) ?_))
  have HM := hide (NodeB.new W1 h (.slice A n c) (.slice A2 n2 c2))
  have hbel2 : Below w.heap.size w (W1.alloc (.cells (h.cells (.slice A n c) (.slice A2 n2 c2)) 25)) := hbel1.alloc hbel1.size _
  generalize W1.alloc (.cells (h.cells (.slice A n c) (.slice A2 n2 c2)) 25) = W2 at *
  generalize W1.heap.size = d at *
  have d4 := HM.out.c4
  have d5 := HM.out.c5
  have d6 := HM.out.c6
  have d7 := HM.out.c7
  have d8 := HM.out.c8
  have d9 := HM.out.c9
  have HR := hide (ranged_in h)
  clear HN hbel1 HM
  go_wp2_with (first | (go_at_call 112; (with_reducible refine (inC _ _ _ _).mono ?_); rintro e w' ⟨rfl, rfl⟩))
  all_goals
    go_ret
    refine ⟨ret_i ?_, hbel2⟩
    rw [HK.out, HR.out]
    simp_all
set_option maxRecDepth 100000 in
set_option maxHeartbeats 4000000 in
theorem rparts_any (t : Tr) (A : Option Addr) (c : Nat) (A2 : Option Addr) (c2 : Nat) (l : Nat) (w : World) : Calls Tryz.prog 50 #[.agg (ruleC t.h (.slice A t.ks.len c) (.slice A2 t.ss.length c2) l)] w fun e w' => e = .returned (.int .i64 (partsE t)) ∧ Below w.heap.size w w' := by
  have HK := hide (partsE_eq t)
  have HL : Live w [] := trivial
  go_enter Tryz.func50, Tryz.ntmps50
  go_upto_region 1 with fail
  have HN := hide (RuleB.new w t.h (.slice A t.ks.len c) (.slice A2 t.ss.length c2) l)
  have hbel1 : Below w.heap.size w (w.alloc (.cells (ruleC t.h (.slice A t.ks.len c) (.slice A2 t.ss.length c2) l) 53)) := by (exact bl)
  generalize w.alloc (.cells (ruleC t.h (.slice A t.ks.len c) (.slice A2 t.ss.length c2) l) 53) = W1 at *
  obtain ⟨b, hb⟩ : ∃ b, b = w.heap.size := ⟨_, rfl⟩
  rw [← hb] at HN ⊢
  clear hb
  go_upto_region 2 with (first | (refine wpList_load_midA rfl 25 (.tmp 4) rfl b 0 rfl (t.h.cells (.slice A t.ks.len c) (.slice A2 t.ss.length c2)) _ HN.out.row Tryz.underlying25 rfl (infNl rfl) ?_) | (refine wpList_store_new rfl 25 (.tmp 3) (.tmp 5) rfl (t.h.cells (.slice A t.ks.len c) (.slice A2 t.ss.length c2)) rfl rfl 25 _ (infN rfl) rfl (one12 _ _ _ _ _ _ _) ?_))
  have HM := hide (NodeB.new W1 t.h (.slice A t.ks.len c) (.slice A2 t.ss.length c2))
  have hbel2 : Below w.heap.size w (W1.alloc (.cells (t.h.cells (.slice A t.ks.len c) (.slice A2 t.ss.length c2)) 25)) := hbel1.alloc hbel1.size _
  generalize W1.alloc (.cells (t.h.cells (.slice A t.ks.len c) (.slice A2 t.ss.length c2)) 25) = W2 at *
  generalize W1.heap.size = d at *
  have d1 := HM.out.c1
  have d2 := HM.out.c2
  have d3 := HM.out.c3
  have d10 := HM.out.c10
  have d11 := HM.out.c11
  clear HN hbel1
  dsimp only [Act.put]
  go_cut [40] (fun v wx => v = .bool (parB t) ∧ wx = W2)
  case first =>
    as_aux_lemma =>
      clear HM hbel2 HK
      by_cases q1 : t.h.kind = 1
      case pos =>
        have k1 : (t.h.kind != 1) = false := by rw [q1]; rfl
        have k2 : (t.h.kind != 2) = true := by rw [q1]; rfl
        have k0 : (t.h.kind != 0) = true := by rw [q1]; rfl
        have HQ := hide q1
        clear q1
        by_cases htg : t.h.target.toList = []
        · have htgq : t.h.target.toList.isEmpty = true := by rw [htg]; rfl
          by_cases hks : 0 < t.ks.len
          · have hksq : decide (0 < t.ks.len) = true := decide_eq_true hks
            go_wp2_with fail
            all_goals
              go_meet
              refine ⟨congrArg Value.bool ?_, rfl⟩
              have hq := HQ.out
              unfold parB
              rw [Bool.eq_iff_iff]
              simp [hq, emp_iff, *]
              try omega
          · have hksq : decide (0 < t.ks.len) = false := decide_eq_false hks
            go_wp2_with fail
            all_goals
              go_meet
              refine ⟨congrArg Value.bool ?_, rfl⟩
              have hq := HQ.out
              unfold parB
              rw [Bool.eq_iff_iff]
              simp [hq, emp_iff, *]
              try omega
        · have htgq : t.h.target.toList.isEmpty = false := by simpa using htg
          go_wp2_with fail
          all_goals
            go_meet
            refine ⟨congrArg Value.bool ?_, rfl⟩
            have hq := HQ.out
            unfold parB
            rw [Bool.eq_iff_iff]
            simp [hq, emp_iff, *]
            try omega
      case neg =>
      by_cases q2 : t.h.kind = 2
      case pos =>
        have k1 : (t.h.kind != 1) = true := by rw [q2]; rfl
        have k2 : (t.h.kind != 2) = false := by rw [q2]; rfl
        have k0 : (t.h.kind != 0) = true := by rw [q2]; rfl
        have HQ := hide q2
        clear q2 q1
        by_cases hdt : t.h.data.toList = []
        · have hdtq : t.h.data.toList.isEmpty = true := by rw [hdt]; rfl
          by_cases hsl : 0 < t.ss.length
          · have hslq : decide (0 < t.ss.length) = true := decide_eq_true hsl
            go_wp2_with fail
            all_goals
              go_meet
              refine ⟨congrArg Value.bool ?_, rfl⟩
              have hq := HQ.out
              unfold parB
              rw [Bool.eq_iff_iff]
              simp [hq, emp_iff, *]
              try omega
          · have hslq : decide (0 < t.ss.length) = false := decide_eq_false hsl
            by_cases hks : 0 < t.ks.len
            · have hksq : decide (0 < t.ks.len) = true := decide_eq_true hks
              go_wp2_with fail
              all_goals
                go_meet
                refine ⟨congrArg Value.bool ?_, rfl⟩
                have hq := HQ.out
                unfold parB
                rw [Bool.eq_iff_iff]
                simp [hq, emp_iff, *]
                try omega
            · have hksq : decide (0 < t.ks.len) = false := decide_eq_false hks
              go_wp2_with fail
              all_goals
                go_meet
                refine ⟨congrArg Value.bool ?_, rfl⟩
                have hq := HQ.out
                unfold parB
                rw [Bool.eq_iff_iff]
                simp [hq, emp_iff, *]
                try omega
        · have hdtq : t.h.data.toList.isEmpty = false := by simpa using hdt
          go_wp2_with fail
          all_goals
            go_meet
            refine ⟨congrArg Value.bool ?_, rfl⟩
            have hq := HQ.out
            unfold parB
            rw [Bool.eq_iff_iff]
            simp [hq, emp_iff, *]
            try omega
      case neg =>
      by_cases q0 : t.h.kind = 0
      case pos =>
        have k1 : (t.h.kind != 1) = true := by rw [q0]; rfl
        have k2 : (t.h.kind != 2) = true := by rw [q0]; rfl
        have k0 : (t.h.kind != 0) = false := by rw [q0]; rfl
        have HQ := hide q0
        clear q0 q1 q2
        by_cases hdt : t.h.data.toList = []
        · have hdtq : t.h.data.toList.isEmpty = true := by rw [hdt]; rfl
          by_cases hsl : 0 < t.ss.length
          · have hslq : decide (0 < t.ss.length) = true := decide_eq_true hsl
            go_wp2_with fail
            all_goals
              go_meet
              refine ⟨congrArg Value.bool ?_, rfl⟩
              have hq := HQ.out
              unfold parB
              rw [Bool.eq_iff_iff]
              simp [hq, emp_iff, *]
              try omega
          · have hslq : decide (0 < t.ss.length) = false := decide_eq_false hsl
            by_cases htg : t.h.target.toList = []
            · have htgq : t.h.target.toList.isEmpty = true := by rw [htg]; rfl
              go_wp2_with fail
              all_goals
                go_meet
                refine ⟨congrArg Value.bool ?_, rfl⟩
                have hq := HQ.out
                unfold parB
                rw [Bool.eq_iff_iff]
                simp [hq, emp_iff, *]
                try omega
            · have htgq : t.h.target.toList.isEmpty = false := by simpa using htg
              go_wp2_with fail
              all_goals
                go_meet
                refine ⟨congrArg Value.bool ?_, rfl⟩
                have hq := HQ.out
                unfold parB
                rw [Bool.eq_iff_iff]
                simp [hq, emp_iff, *]
                try omega
        · have hdtq : t.h.data.toList.isEmpty = false := by simpa using hdt
          go_wp2_with fail
          all_goals
            go_meet
            refine ⟨congrArg Value.bool ?_, rfl⟩
            have hq := HQ.out
            unfold parB
            rw [Bool.eq_iff_iff]
            simp [hq, emp_iff, *]
            try omega
      case neg =>
      have k1 : (t.h.kind != 1) = true := by simpa using q1
      have k2 : (t.h.kind != 2) = true := by simpa using q2
      have k0 : (t.h.kind != 0) = true := by simpa using q0
      have HQ := hide (And.intro q1 (And.intro q2 q0))
      clear q1 q2 q0
      by_cases hdt : t.h.data.toList = []
      · have hdtq : t.h.data.toList.isEmpty = true := by rw [hdt]; rfl
        by_cases hsl : 0 < t.ss.length
        · have hslq : decide (0 < t.ss.length) = true := decide_eq_true hsl
          go_wp2_with fail
          all_goals
            go_meet
            refine ⟨congrArg Value.bool ?_, rfl⟩
            have hq := HQ.out
            unfold parB
            rw [Bool.eq_iff_iff]
            simp [hq, emp_iff, *]
            try omega
        · have hslq : decide (0 < t.ss.length) = false := decide_eq_false hsl
          by_cases htg : t.h.target.toList = []
          · have htgq : t.h.target.toList.isEmpty = true := by rw [htg]; rfl
            by_cases hks : 0 < t.ks.len
            · have hksq : decide (0 < t.ks.len) = true := decide_eq_true hks
              go_wp2_with fail
              all_goals
                go_meet
                refine ⟨congrArg Value.bool ?_, rfl⟩
                have hq := HQ.out
                unfold parB
                rw [Bool.eq_iff_iff]
                simp [hq, emp_iff, *]
                try omega
            · have hksq : decide (0 < t.ks.len) = false := decide_eq_false hks
              go_wp2_with fail
              all_goals
                go_meet
                refine ⟨congrArg Value.bool ?_, rfl⟩
                have hq := HQ.out
                unfold parB
                rw [Bool.eq_iff_iff]
                simp [hq, emp_iff, *]
                try omega
          · have htgq : t.h.target.toList.isEmpty = false := by simpa using htg
            go_wp2_with fail
            all_goals
              go_meet
              refine ⟨congrArg Value.bool ?_, rfl⟩
              have hq := HQ.out
              unfold parB
              rw [Bool.eq_iff_iff]
              simp [hq, emp_iff, *]
              try omega
      · have hdtq : t.h.data.toList.isEmpty = false := by simpa using hdt
        go_wp2_with fail
        all_goals
          go_meet
          refine ⟨congrArg Value.bool ?_, rfl⟩
          have hq := HQ.out
          unfold parB
          rw [Bool.eq_iff_iff]
          simp [hq, emp_iff, *]
          try omega
  case rest =>
  obtain ⟨rfl, rfl⟩ := hcut
  cases h1 : parB t
  · have HR := hide (show partsE t = 0 by rw [HK.out, h1, if_neg (by decide)])
    clear h1
    go_wp2_with fail
    go_ret
    exact ⟨ret_i HR.out.symm, hbel2⟩
  · have HR := hide (show partsE t = 1 by rw [HK.out, h1, if_pos rfl])
    clear h1
    go_wp2_with fail
    go_ret
    exact ⟨ret_i HR.out.symm, hbel2⟩
def strC (s : St) : Array Value := #[.string s.1, .string s.2]
structure StB (w : World) (b : Nat) (s : St) : Prop where
  blk : Blk w b (strC s) 69
theorem StB.c0 {w : World} {b : Nat} {s : St} (n : StB w b s) : w.cell? ⟨b, 0, none⟩ = some (.string s.1) := n.blk.cells 0
theorem StB.c1 {w : World} {b : Nat} {s : St} (n : StB w b s) : w.cell? ⟨b, 1, none⟩ = some (.string s.2) := n.blk.cells 1
theorem StB.new (w : World) (s : St) : StB (w.alloc (.cells (strC s) 69)) w.heap.size s := ⟨Blk.newAt rfl⟩
theorem StB.below {w w' : World} {b : Nat} {s : St} (hb : Below w.heap.size w w') (n : StB w b s) : StB w' b s := ⟨Blk.below hb n.blk⟩
theorem StL.row {w w' : World} {B k : Nat} {A : Option Addr} {ss : List St} {s : St} (h : StL w B A ss) (hb : Below B w w') (hs : ss[k]? = some s) : ∃ g o, A = some ⟨g, o, none⟩ ∧ g < B ∧ w'.rangeAt g (o + k * 2) (strC s).toList := by
  obtain ⟨g, o, e, hg, c1, c2⟩ := h.at hb hs
  refine ⟨g, o, e, hg, fun j u hu => ?_⟩
  match j, hu with
  | 0, hu => rw [Nat.add_zero, c1]; exact hu
  | 1, hu => rw [c2]; exact hu
  | j + 2, hu => simp [strC] at hu
set_option maxRecDepth 100000 in
set_option maxHeartbeats 4000000 in
theorem rsizes_any (t : Tr) (A : Option Addr) (c : Nat) (A2 : Option Addr) (c2 : Nat) (l : Nat) (hl : l ≤ 2000000000) (hsz : t.sz ≤ 2000000000) (w : World) (hs : StL w w.heap.size A2 t.ss) : Calls Tryz.prog 53 #[.agg (ruleC t.h (.slice A t.ks.len c) (.slice A2 t.ss.length c2) l)] w fun e w' => e = .returned (.int .i64 (sizeE t l)) ∧ Below w.heap.size w w' := by
  have HST := hide hs
  have hlk := t.ks.len_sz
  have hls := szS_len t.ss
  have hts : t.sz = t.h.sz + szS t.ss + t.ks.sz := rfl
  have hlk2 : t.ks.len ≤ 2000000000 := by omega
  have hls2 : t.ss.length ≤ 2000000000 := by omega
  have hds : t.h.data.size ≤ 2000000000 := by unfold Hd.sz at hts; omega
  clear hs hlk hls hts hsz
  have HK := hide (show sizeE t l = if largeB t l = true then 7 else 0 from rfl)
  have HL : Live w [] := trivial
  go_enter Tryz.func53, Tryz.ntmps53
  go_upto_region 1 with fail
  have HN := hide (RuleB.new w t.h (.slice A t.ks.len c) (.slice A2 t.ss.length c2) l)
  have hbel1 : Below w.heap.size w (w.alloc (.cells (ruleC t.h (.slice A t.ks.len c) (.slice A2 t.ss.length c2) l) 53)) := by (exact bl)
  generalize w.alloc (.cells (ruleC t.h (.slice A t.ks.len c) (.slice A2 t.ss.length c2) l) 53) = W1 at *
  obtain ⟨b, hb⟩ : ∃ b, b = w.heap.size := ⟨_, rfl⟩
  rw [← hb] at HN ⊢
  clear hb
  go_upto_region 2 with (first | (refine wpList_load_midA rfl 25 (.tmp 6) rfl b 0 rfl (t.h.cells (.slice A t.ks.len c) (.slice A2 t.ss.length c2)) _ HN.out.row Tryz.underlying25 rfl (infNl rfl) ?_) | (refine wpList_store_new rfl 25 (.tmp 3) (.tmp 7) rfl (t.h.cells (.slice A t.ks.len c) (.slice A2 t.ss.length c2)) rfl rfl 25 _ (infN rfl) rfl (one12 _ _ _ _ _ _ _) ?_))
  have HM := hide (NodeB.new W1 t.h (.slice A t.ks.len c) (.slice A2 t.ss.length c2))
  have hbel2 : Below w.heap.size w (W1.alloc (.cells (t.h.cells (.slice A t.ks.len c) (.slice A2 t.ss.length c2)) 25)) := hbel1.alloc hbel1.size _
  have hbN : Below W1.heap.size W1 (W1.alloc (.cells (t.h.cells (.slice A t.ks.len c) (.slice A2 t.ss.length c2)) 25)) := (Below.refl _ _).alloc (Nat.le_refl _) _
  have HN2 := hide (HN.out.below hbN)
  generalize W1.alloc (.cells (t.h.cells (.slice A t.ks.len c) (.slice A2 t.ss.length c2)) 25) = W2 at *
  generalize W1.heap.size = d at *
  clear HN hbel1 hbN
  have d2 := HM.out.c2
  have d10 := HM.out.c10
  have d11 := HM.out.c11
  have d12 : W2.cell? ⟨b, 12, none⟩ = some (.int .i64 (l : Int)) := HN2.out.c12
  dsimp only [Act.put]
  go_cut [28] (fun v wx => v = .bool (large1 t l) ∧ wx = W2)
  case first =>
    as_aux_lemma =>
      clear HM HN2 hbel2 HST HK
      go_wp2_with fail
      all_goals
        go_meet
        refine ⟨?_, rfl⟩
        unfold large1
        refine congrArg Value.bool ?_
        rw [Bool.eq_iff_iff]
        simp
        omega
  case rest =>
  obtain ⟨rfl, rfl⟩ := hcut
  cases h1 : large1 t l
  case true =>
    have HR := hide (show sizeE t l = 7 by rw [HK.out, largeB_eq, h1]; rfl)
    clear h1
    go_wp2_with fail
    go_ret
    exact ⟨ret_i HR.out.symm, hbel2⟩
  case false =>
  have HR := hide (show sizeE t l = if t.ss.any bigS = true then 7 else 0 by rw [HK.out, largeB_eq, h1]; rfl)
  clear h1 d2 d10 d12
  go_wp2_with fail
  go_loopw [32] (fun i wr => ∃ k : Nat, k ≤ t.ss.length ∧ i = .int .i64 (k : Int) ∧ (t.ss.take k).any bigS = false ∧ Below w.heap.size w wr) (fun i _ => t.ss.length - (intOf i).toNat)
  case atStart => exact ⟨0, by omega, rfl, rfl, hbel2⟩
  case round =>
    obtain ⟨k, hk, rfl, hno, hbr⟩ := hrel
    have HNO := hide hno
    clear hno
    by_cases hlt : k < t.ss.length
    case neg =>
      obtain rfl : k = t.ss.length := by omega
      go_wp2_with fail
      go_ret
      exact ⟨ret_i (by rw [HR.out, if_neg]; have := HNO.out; rw [List.take_length] at this; simp [this]), hbr⟩
    case pos =>
    obtain ⟨s, hs⟩ : ∃ s, t.ss[k]? = some s := ⟨_, List.getElem?_eq_getElem hlt⟩
    obtain ⟨g, o, rfl, hg, r1, r2⟩ := HST.out.at hbr hs
    have HS := hide hs
    clear hs
    go_upto_region 7 with fail
    have HW := hide (show StB (wr.alloc (.cells #[.string s.1, .string s.2] 69)) wr.heap.size s from StB.new wr s)
    have hbr2 : Below w.heap.size w (wr.alloc (.cells #[.string s.1, .string s.2] 69)) := hbr.alloc hbr.size _
    generalize wr.alloc (.cells #[.string s.1, .string s.2] 69) = W5 at *
    generalize wr.heap.size = d5 at *
    have e1 := HW.out.c1
    clear r1 r2 HW hbr
    by_cases hq : (s.2.size : Int) ≤ 262144
    · have q : decide ((262144 : Int) < (s.2.size : Int)) = false := decide_eq_false (by omega)
      have HB := hide (show bigS s = false from decide_eq_false (by omega))
      clear hq
      go_wp2_with fail
      go_roundw
      case rel => exact ⟨k + 1, by omega, by go_num, any_take_succ HS.out HNO.out HB.out, hbr2⟩
      case measure => simp [intOf]; omega
    · have q : decide ((262144 : Int) < (s.2.size : Int)) = true := decide_eq_true (by omega)
      have HB := hide (show bigS s = true from decide_eq_true (by omega))
      clear hq
      go_wp2_with fail
      go_ret
      exact ⟨ret_i (by rw [HR.out, if_pos (any_hit HS.out HB.out)]), hbr2⟩
theorem cmp_0 : ∀ (a b : List UInt8), Lib.compareBytes a b = 0 ↔ a = b
  | [], [] => by simp [Lib.compareBytes]
  | [], _ :: _ => by simp [Lib.compareBytes]
  | _ :: _, [] => by simp [Lib.compareBytes]
  | x :: a, y :: b => by
    unfold Lib.compareBytes
    by_cases h1 : x < y
    · rw [if_pos h1]
      refine ⟨fun e => absurd e (by decide), fun e => ?_⟩
      injection e with e1 _
      subst e1
      exact absurd h1 (UInt8.lt_irrefl x)
    · rw [if_neg h1]
      by_cases h2 : y < x
      · rw [if_pos h2]
        refine ⟨fun e => absurd e (by decide), fun e => ?_⟩
        injection e with e1 _
        subst e1
        exact absurd h2 (UInt8.lt_irrefl x)
      · rw [if_neg h2, cmp_0 a b]
        have e : x = y := UInt8.le_antisymm (UInt8.not_lt.1 h2) (UInt8.not_lt.1 h1)
        subst e
        exact ⟨fun e => by rw [e], fun e => by injection e⟩
theorem cmp_1 : ∀ (a b : List UInt8), Lib.compareBytes a b = 1 ↔ Op.bytesLess b a = true
  | [], [] => by simp [Lib.compareBytes, Op.bytesLess]
  | [], _ :: _ => by simp [Lib.compareBytes, Op.bytesLess]
  | _ :: _, [] => by simp [Lib.compareBytes, Op.bytesLess]
  | x :: a, y :: b => by
    unfold Lib.compareBytes Op.bytesLess
    by_cases h1 : x < y
    · rw [if_pos h1]
      have h3 : ¬ y < x := fun h => absurd (UInt8.lt_trans h1 h) (UInt8.lt_irrefl x)
      have h4 : y ≠ x := fun h => by subst h; exact absurd h1 (UInt8.lt_irrefl _)
      simp [h3, h4]
    · rw [if_neg h1]
      by_cases h2 : y < x
      · rw [if_pos h2]; simp [h2]
      · rw [if_neg h2, cmp_1 a b]
        have e : x = y := UInt8.le_antisymm (UInt8.not_lt.1 h2) (UInt8.not_lt.1 h1)
        subst e
        simp [h2]
def cmpB (a b : ByteArray) : Int := Lib.compareBytes a.data.toList b.data.toList
theorem ordE_cmp (a b : ByteArray) : ordE a b = if cmpB a b = 0 then 5 else if cmpB a b = 1 then 1 else 0 := by
  have h0 : cmpB a b = 0 ↔ a = b := by
    unfold cmpB
    rw [cmp_0]
    exact ⟨fun e => ByteArray.ext (Array.toList_inj.1 e), fun e => by rw [e]⟩
  have h1 : cmpB a b = 1 ↔ Op.bytesLess b.toList a.toList = true := by
    unfold cmpB
    rw [cmp_1, ByteArray.toList_eq, ByteArray.toList_eq]
  unfold ordE
  simp only [h0, h1]
theorem scmp_any (a b : ByteArray) (w : World) : Calls Tryz.prog 73 #[.string a, .string b] w fun e w' => e = .returned (.int .i64 (cmpB a b)) ∧ w = w' :=
  (Any.strings_Compare Tryz.lays106 a b w).mono fun e w' ⟨he, hw⟩ => ⟨he, hw.symm⟩
set_option maxHeartbeats 1000000 in
theorem order_any (a b : ByteArray) (w : World) : Calls Tryz.prog 113 #[.string a, .string b] w fun e w' => e = .returned (.int .i64 (ordE a b)) ∧ w = w' := by
  have HK := hide (ordE_cmp a b)
  have HC := hide (scmp_any a b w)
  generalize cmpB a b = c at *
  go_enter Tryz.func113, Tryz.ntmps113
  by_cases h0 : c = 0
  · have q0 : (c == 0) = true := by simpa using h0
    have HR := hide (show ordE a b = 5 by rw [HK.out, if_pos h0])
    clear h0
    go_wp2_with (go_at_call 73; refine HC.out.mono ?_; rintro e w3 ⟨rfl, rfl⟩)
    go_ret
    exact ⟨ret_i HR.out.symm, rfl⟩
  · have q0 : (c == 0) = false := by simpa using h0
    by_cases h1 : c = 1
    · have q1 : (c == 1) = true := by simpa using h1
      have HR := hide (show ordE a b = 1 by rw [HK.out, if_neg h0, if_pos h1])
      clear h0 h1
      go_wp2_with (go_at_call 73; refine HC.out.mono ?_; rintro e w3 ⟨rfl, rfl⟩)
      go_ret
      exact ⟨ret_i HR.out.symm, rfl⟩
    · have q1 : (c == 1) = false := by simpa using h1
      have HR := hide (show ordE a b = 0 by rw [HK.out, if_neg h0, if_neg h1])
      clear h0 h1
      go_wp2_with (go_at_call 73; refine HC.out.mono ?_; rintro e w3 ⟨rfl, rfl⟩)
      go_ret
      exact ⟨ret_i HR.out.symm, rfl⟩
set_option maxRecDepth 100000 in
set_option maxHeartbeats 4000000 in
theorem rstr_any (t : Tr) (A : Option Addr) (c : Nat) (A2 : Option Addr) (c2 : Nat) (l : Nat) (hsz : t.sz ≤ 60000) (w : World) (hT : TabV w) (hst : StL w w.heap.size A2 t.ss) : Calls Tryz.prog 54 #[.agg (ruleC t.h (.slice A t.ks.len c) (.slice A2 t.ss.length c2) l)] w fun e w' => e = .returned (.int .i64 (strE none t.ss)) ∧ Below w.heap.size w w' := by
  have HST := hide hst
  have HSZ := hide hsz
  have hls := szS_len t.ss
  have hts : t.sz = t.h.sz + szS t.ss + t.ks.sz := rfl
  have hls2 : t.ss.length ≤ 60000 := by omega
  clear hst hls hts hsz
  have HL : Live w [] := trivial
  go_enter Tryz.func54, Tryz.ntmps54
  go_upto_region 1 with fail
  have HN := hide (RuleB.new w t.h (.slice A t.ks.len c) (.slice A2 t.ss.length c2) l)
  have hbel1 : Below w.heap.size w (w.alloc (.cells (ruleC t.h (.slice A t.ks.len c) (.slice A2 t.ss.length c2) l) 53)) := by (exact bl)
  have HT := hide (hT.below hbel1)
  generalize w.alloc (.cells (ruleC t.h (.slice A t.ks.len c) (.slice A2 t.ss.length c2) l) 53) = W1 at *
  obtain ⟨b, hb⟩ : ∃ b, b = w.heap.size := ⟨_, rfl⟩
  rw [← hb] at HN ⊢
  clear hb
  have d11 := HN.out.c11
  go_wp2_with fail
  clear d11
  go_loopw [10] (fun i wr => ∃ k : Nat, k ≤ t.ss.length ∧ i = .int .i64 (k : Int) ∧ strE none t.ss = strE (prvS t.ss k) (t.ss.drop k) ∧ Below W1.heap.size W1 wr) (fun i _ => t.ss.length - (intOf i).toNat)
  case atStart => exact ⟨0, by omega, rfl, rfl, Below.refl _ _⟩
  case round =>
    obtain ⟨k, hk, rfl, hno, hbr⟩ := hrel
    have HE := hide hno
    clear hno
    by_cases hlt : k < t.ss.length
    case neg =>
      obtain rfl : k = t.ss.length := by omega
      have HZ := hide (show strE none t.ss = 0 by rw [HE.out, List.drop_length]; cases prvS t.ss t.ss.length <;> rfl)
      go_wp2_with fail
      go_ret
      exact ⟨ret_i HZ.out.symm, hbel1.trans (hbr.mono hbel1.size)⟩
    case pos =>
    obtain ⟨s, hs⟩ : ∃ s, t.ss[k]? = some s := ⟨_, List.getElem?_eq_getElem hlt⟩
    obtain ⟨g, o, rfl, hg, r1, r2⟩ := HST.out.at (hbel1.trans (hbr.mono hbel1.size)) hs
    have hsn : s.1.size ≤ 60000 := by have := szS_mem hs; have := HSZ.out; unfold Tr.sz at this; omega
    have hstep := strE_step (p := prvS t.ss k) hs
    have hnext : prvS t.ss (k + 1) = some s.1 := by show (t.ss[k]?).map (·.1) = _; rw [hs]; rfl
    have HX := hide hnext
    have HSTEP := hide hstep
    clear hs hstep hnext
    go_upto_region 4 with fail
    have HW := hide (show StB (wr.alloc (.cells #[.string s.1, .string s.2] 69)) wr.heap.size s from StB.new wr s)
    have hbr2 : Below W1.heap.size W1 (wr.alloc (.cells #[.string s.1, .string s.2] 69)) := hbr.alloc hbr.size _
    have hd5 : W1.heap.size ≤ wr.heap.size := hbr.size
    generalize wr.alloc (.cells #[.string s.1, .string s.2] 69) = W5 at *
    generalize wr.heap.size = d5 at *
    have e0 := HW.out.c0
    have HT5 := hide (HT.out.below hbr2)
    clear r1 r2 hbr
    have NM := hide (fun W hW => name_any s.1 hsn W hW)
    cases hnb : nameB s.1
    case false =>
      have HR := hide (show strE none t.ss = 4 by rw [HE.out, HSTEP.out, hnb, if_pos rfl])
      rw [hnb] at NM
      clear hnb
      go_wp2_with (go_at_call 16; refine (NM.out _ HT5.out.1).mono ?_; rintro e w7 ⟨rfl, hb7⟩)
      go_ret
      exact ⟨ret_i HR.out.symm, hbel1.trans ((hbr2.trans (hb7.mono hbr2.size)).mono hbel1.size)⟩
    case true =>
    have HS2 := hide (show strE none t.ss = if ordO (prvS t.ss k) s.1 ≠ 0 then ordO (prvS t.ss k) s.1 else strE (some s.1) (t.ss.drop (k + 1)) by rw [HE.out, HSTEP.out, hnb, if_neg (by decide)])
    rw [hnb] at NM
    clear hnb HE HSTEP
    go_upto_region 6 with (go_at_call 16; refine (NM.out _ HT5.out.1).mono ?_; rintro e w7 ⟨rfl, hb7⟩)
    have hb57 := hbr2.trans (hb7.mono hbr2.size)
    have HW7 := hide (HW.out.below hb7)
    have HN7 := hide (HN.out.below hb57)
    have f11 := HN7.out.c11
    have f0 := HW7.out.c0
    clear e0 NM HW hb7 hbr2 HT5
    by_cases hk0 : k = 0
    · have q : decide (0 < k) = false := decide_eq_false (by omega)
      have HK := hide hk0
      clear hk0 f0 f11
      go_wp2_with fail
      go_roundw
      case rel => exact ⟨k + 1, by omega, by go_num, by rw [HX.out, HS2.out, HK.out]; rfl, hb57⟩
      case measure => simp [intOf]; omega
    · obtain ⟨j, hj⟩ : ∃ j, k = j + 1 := ⟨k - 1, by omega⟩
      obtain ⟨s', hs'⟩ : ∃ s', t.ss[j]? = some s' := ⟨_, List.getElem?_eq_getElem (by omega)⟩
      obtain ⟨g', o', eg, -, t2, -⟩ := HST.out.at (hbel1.trans (hb57.mono hbel1.size)) hs'
      injection eg with eg
      injection eg with eg1 eg2
      subst eg1; subst eg2
      have hp : prvS t.ss k = some s'.1 := by rw [hj]; show (t.ss[j]?).map (·.1) = _; rw [hs']; rfl
      have HE2 := hide (show strE none t.ss = if ordE s'.1 s.1 ≠ 0 then ordE s'.1 s.1 else strE (some s.1) (t.ss.drop (k + 1)) by
        have := HS2.out
        rw [hp] at this
        exact this)
      have HO := hide (fun W => (order_any s'.1 s.1 W).mono fun e w9 (h : _ ∧ W = w9) => And.intro h.1 h.2.symm)
      generalize ordE s'.1 s.1 = r at HE2 HO
      have q : decide (0 < k) = true := decide_eq_true (by omega)
      have w1 : IntKind.i64.wrap ((k : Int) - 1) = (j : Int) := by rw [IntWalk.i64_in _ (by omega)]; omega
      have w2 : (0 : Int) ≤ (j : Int) := by omega
      have w3 : (j : Int) < (t.ss.length : Int) := by omega
      clear hk0 hj hs' hp HS2
      by_cases h0 : r = 0
      · have q0 : (r != 0) = false := by simpa using h0
        have HR := hide (show strE none t.ss = strE (prvS t.ss (k + 1)) (t.ss.drop (k + 1)) by rw [HE2.out, HX.out, if_neg (fun e => e h0)])
        clear h0
        go_upto_region 7 with fail
        go_quiet ((go_at_call 113; exact Calls.quiet_of_same (HO.out _)))
        go_wp2_with fail
        go_roundw
        case rel => exact ⟨k + 1, by omega, by go_num, HR.out, below_drewN' hb57⟩
        case measure => simp [intOf]; omega
      · have q0 : (r != 0) = true := by simpa using h0
        have HR := hide (show strE none t.ss = r by rw [HE2.out, if_pos h0])
        clear h0
        go_upto_region 7 with fail
        go_quiet ((go_at_call 113; exact Calls.quiet_of_same (HO.out _)))
        go_wp2_with fail
        go_ret
        exact ⟨ret_i HR.out.symm, hbel1.trans ((below_drewN' hb57).mono hbel1.size)⟩
set_option maxRecDepth 100000 in
set_option maxHeartbeats 4000000 in
theorem rkids_any (t : Tr) (A : Option Addr) (c : Nat) (A2 : Option Addr) (c2 : Nat) (l : Nat) (hlk : t.ks.len ≤ 2000000000) (w : World) (hkl : Left w w.heap.size A t.ks 0) : Calls Tryz.prog 55 #[.agg (ruleC t.h (.slice A t.ks.len c) (.slice A2 t.ss.length c2) l)] w fun e w' => e = .returned (.int .i64 (kidsE t.ks.names)) ∧ Below w.heap.size w w' := by
  have HKL := hide hkl
  clear hkl
  have HL : Live w [] := trivial
  go_enter Tryz.func55, Tryz.ntmps55
  go_upto_region 1 with fail
  have HN := hide (RuleB.new w t.h (.slice A t.ks.len c) (.slice A2 t.ss.length c2) l)
  have hbel1 : Below w.heap.size w (w.alloc (.cells (ruleC t.h (.slice A t.ks.len c) (.slice A2 t.ss.length c2) l) 53)) := by (exact bl)
  generalize w.alloc (.cells (ruleC t.h (.slice A t.ks.len c) (.slice A2 t.ss.length c2) l) 53) = W1 at *
  obtain ⟨b, hb⟩ : ∃ b, b = w.heap.size := ⟨_, rfl⟩
  rw [← hb] at HN ⊢
  clear hb
  go_wp2_with fail
  go_loopw [3] (fun i wr => ∃ (k : Nat) (r : Fo), i = .int .i64 ((k : Int) + 1) ∧ k + r.len = t.ks.len ∧ Left w w.heap.size A r k ∧ kidsE t.ks.names = kidsE r.names ∧ Below W1.heap.size W1 wr) (fun i _ => t.ks.len - (intOf i).toNat)
  case atStart => exact ⟨0, t.ks, rfl, by omega, HKL.out, rfl, Below.refl _ _⟩
  case round =>
    clear HKL
    obtain ⟨k, r, rfl, hkr, hl, hke, hbel⟩ := hrel
    have HLr := hide hl
    have HE := hide hke
    have e10 := (HN.out.below hbel).c10
    have hbel9 := hbel1.trans (hbel.mono hbel1.size)
    clear hl hke
    have fin : ∀ r : Fo, r.len ≤ 1 → kidsE r.names = 0 := fun r hr => by
      cases r with
      | nil => rfl
      | node h ss ks nx =>
        cases nx with
        | nil => rfl
        | node h2 ss2 ks2 nx2 => rw [Fo.len_node, Fo.len_node] at hr; omega
    by_cases hlt : k + 1 < t.ks.len
    case neg =>
      have HR := hide (show kidsE t.ks.names = 0 by rw [HE.out]; exact fin r (by omega))
      have q : decide ((k : Int) + 1 < (t.ks.len : Int)) = false := decide_eq_false (by omega)
      clear fin
      go_wp2_with fail
      go_ret
      exact ⟨ret_i HR.out.symm, hbel9⟩
    case pos =>
    clear fin
    cases r with
    | nil => rw [Fo.len_nil] at hkr; omega
    | node h ss ks nx =>
    cases nx with
    | nil => rw [Fo.len_node, Fo.len_nil] at hkr; omega
    | node h2 ss2 ks2 nx2 =>
    obtain ⟨g, o, rfl, hg, t1, hln⟩ := HLr.out.name hbel9
    obtain ⟨g', o', eg, -, t2, -⟩ := hln.name hbel9
    injection eg with eg
    injection eg with eg1 eg2
    subst eg1; subst eg2
    have HLn := hide hln
    have hke2 : kidsE t.ks.names = if ordE h.name h2.name ≠ 0 then ordE h.name h2.name else kidsE (Fo.node h2 ss2 ks2 nx2).names := HE.out
    have HE2 := hide hke2
    have q : decide ((k : Int) + 1 < (t.ks.len : Int)) = true := decide_eq_true (by omega)
    have w1 : IntKind.i64.wrap ((k : Int) + 1 - 1) = (k : Int) := by rw [IntWalk.i64_in _ (by omega)]; omega
    have w2 : IntKind.i64.wrap (k : Int) = (k : Int) := IntWalk.i64_in _ (by omega)
    have w3 : (k : Int) < (t.ks.len : Int) := by omega
    have w4 : (k : Int) + 1 < (t.ks.len : Int) := by omega
    rw [Fo.len_node] at hkr
    clear hln HLr HE hke2
    have HO := hide (fun W => (order_any h.name h2.name W).mono fun e w9 (h : _ ∧ W = w9) => And.intro h.1 h.2.symm)
    generalize ordE h.name h2.name = r at HE2 HO
    by_cases h0 : r = 0
    · have q0 : (r != 0) = false := by simpa using h0
      have HR := hide (show kidsE t.ks.names = kidsE (Fo.node h2 ss2 ks2 nx2).names by rw [HE2.out, if_neg (fun e => e h0)])
      clear h0
      go_upto_region 4 with fail
      go_quiet ((go_at_call 113; exact Calls.quiet_of_same (HO.out _)))
      go_wp2_with fail
      go_roundw
      case rel => exact ⟨k + 1, _, by go_num, by omega, HLn.out, HR.out, below_drewN' hbel⟩
      case measure => simp [intOf]; omega
    · have q0 : (r != 0) = true := by simpa using h0
      have HR := hide (show kidsE t.ks.names = r by rw [HE2.out, if_pos h0])
      clear h0
      go_upto_region 4 with fail
      go_quiet ((go_at_call 113; exact Calls.quiet_of_same (HO.out _)))
      go_wp2_with fail
      go_ret
      exact ⟨ret_i HR.out.symm, below_drewN' hbel9⟩
end Go.Proofs.YtlhakdildbplkaaGreatDoor
