/- Contracts and plain words for the laws of this chapter, part 7: V3, V4, W1, W2, W3, W4, W5, W6. No condition. -/
import Derived.Test.YtocgindpjjolpaaGreatDoorG6
import Derived.Test.YtocgindpjjolpaaGreatDoorG3
import Derived.Test.YtocgindpjjolpaaGreatDoorG0
namespace Go.Proofs.YtocgindpjjolpaaGreatDoor
set_option linter.unusedSimpArgs false
set_option linter.unusedVariables false
open Go.RowKit
theorem wrap_succ (x : Int) : IntKind.i64.wrap (IntKind.i64.wrap x + 1) = IntKind.i64.wrap (x + 1) := by
  rw [IntKind.wrap_i64, IntKind.wrap_i64, IntKind.wrap_i64]; omega
def CntI (c : Nat) (s : Nat) (O : Nat → Prop) (w : World) : Prop := O = (fun j => j = c) ∧ Blk w c #[.int .i64 (IntKind.i64.wrap (s : Int))] 3
set_option maxRecDepth 100000 in
set_option maxHeartbeats 1000000 in
theorem count1_any (s c : Nat) (cells : Array Value) (p : ByteArray) (l : Int) (w : World) (hc : Blk w c #[.int .i64 (IntKind.i64.wrap (s : Int))] 3) :
    Calls Tryz.prog 142 #[.agg cells, .string p, .int .i64 l, .pointer (some ⟨c, 0, none⟩)] w fun e w' => e = .returned (.bool true) ∧ Blk w' c #[.int .i64 (IntKind.i64.wrap ((s + 1 : Nat) : Int))] 3 ∧ FrO (fun j => j = c) w w' := by
  have HS := hide (show IntKind.i64.wrap (IntKind.i64.wrap (s : Int) + 1) = IntKind.i64.wrap ((s + 1 : Nat) : Int) by rw [wrap_succ]; rfl)
  generalize IntKind.i64.wrap ((s + 1 : Nat) : Int) = x1 at *
  generalize IntKind.i64.wrap (s : Int) = x0 at *
  have HC := hide hc
  have hlt := hc.lt
  clear hc
  have HL : Live w [] := trivial
  go_enter Tryz.func142, Tryz.ntmps142
  go_upto_region 1 with fail
  have HC1 := hide (HC.out.alloc (.cells cells 25))
  have hbel1 : Below w.heap.size w (w.alloc (.cells cells 25)) := by (exact bl)
  generalize w.alloc (.cells cells 25) = W1 at *
  have c0 : W1.cell? ⟨c, 0, none⟩ = some (.int .i64 x0) := HC1.out.cells 0
  have f0 : W1.frozen? ⟨c, 0, none⟩ = false := HC1.out.free 0
  have hw := HS.out
  go_wp2_with fail
  go_ret
  refine ⟨rfl, HC1.out.put rfl, ?_⟩
  exact (FrO.of hbel1).trans (O' := fun j => j = c) ⟨rfl, rfl, rfl, by simp [World.setCell], fun j _ hn => Below.heap_setCell _ _ _ _ hn⟩ (fun j h => Or.inl h)
theorem count_visit (c B Z : Nat) (hc : B ≤ c) : VisitOK (fun (s : Nat) _ _ _ => (true, s + 1)) (fun _ _ => True) (CntI c) B Z 142 #[.pointer (some ⟨c, 0, none⟩)] :=
  ⟨enters_of Tryz.func142 (by kernel_rfl) rfl,
  fun s O w j ⟨e, hb⟩ h => by subst e; subst h; exact ⟨hc, hb.lt⟩,
  fun s O w w' ⟨e, hb⟩ h => ⟨e, Blk.below h hb⟩,
  fun s t p l v O w _ _ _ _ ⟨e, hb⟩ _ hv => by
    subst e
    obtain ⟨cells, rfl, -, -⟩ := hv.cells
    exact (count1_any s c cells p l w hb).mono fun e w' ⟨h1, h2, h3⟩ => ⟨h1, ⟨_, ⟨rfl, h2⟩, fun j h => Or.inl h⟩, h3⟩⟩
theorem count_lt {t : Tr} (h : t.sz ≤ 50000000) : t.count ≤ 50000000 := by have := t.count_sz; omega
set_option maxRecDepth 100000 in
set_option maxHeartbeats 2000000 in
theorem count_any (t : Tr) (hsz : t.sz ≤ 50000000) (v : Value) (w : World) (hv : TreeR w w.heap.size v t) : Calls Tryz.prog 117 #[v] w fun e w' => e = .returned (.int .i64 (t.count : Int)) ∧ Below w.heap.size w w' := by
  have HV := hide hv
  obtain ⟨cells, rfl, hz, h1c⟩ := hv.cells
  have HZ := hide hz
  have hcn := count_lt hsz
  clear hv hz h1c
  have HL : Live w [] := trivial
  go_enter Tryz.func117, Tryz.ntmps117
  go_upto_region 1 with fail
  have HB := hide (show Blk (w.alloc (.cells cells 25)) w.heap.size cells 25 from Blk.newAt rfl)
  have hbel1 : Below w.heap.size w (w.alloc (.cells cells 25)) := by (exact bl)
  generalize w.alloc (.cells cells 25) = W1 at *
  obtain ⟨b, hb⟩ : ∃ b, b = w.heap.size := ⟨_, rfl⟩
  rw [← hb] at HB ⊢
  clear hb
  go_upto_region 2 with fail
  have HB2 := hide (HB.out.alloc (.cells #[.int .i64 0] 3))
  have HC := hide (show CntI W1.heap.size 0 (fun j => j = W1.heap.size) (W1.alloc (.cells #[.int .i64 0] 3)) from ⟨rfl, Blk.newAt rfl⟩)
  have hbel2 : Below w.heap.size w (W1.alloc (.cells #[.int .i64 0] 3)) := hbel1.alloc hbel1.size _
  have hcB : w.heap.size ≤ W1.heap.size := hbel1.size
  generalize W1.alloc (.cells #[.int .i64 0] 3) = W2 at *
  generalize W1.heap.size = c at *
  have WK0 := walk_any (count_visit c w.heap.size 50000000 hcB) 50000000 t hcn hsz (by omega) eS 1 (by omega) (by have := t.ks.wt_sz; unfold Tr.sz at hsz; show 0 + 1 + _ ≤ _; omega) 0 _ (.agg cells) W2 (goodT_true _ _ _ _ _) HC.out hbel2.size (HV.out.below hbel2)
  rw [walkT_count] at WK0
  have WK := hide (show Calls Tryz.prog 80 #[.agg cells, .string ⟨#[]⟩, .int .i64 1, .func (.func 142) #[] #[.pointer (some ⟨c, 0, none⟩)]] W2 (WPost (CntI c) (fun j => j = c) W2 (true, t.count)) from WK0)
  clear WK0 HB HV hbel1
  go_upto_region 3 with (first | (refine wpList_load_row rfl 25 (.tmp 1) rfl b rfl 25 cells (0, 0) _ HB2.out Tryz.underlying25 rfl (infN HZ.out) ?_) | (go_at_call 80; refine WK.out.mono ?_; rintro e w3 ⟨rfl, ⟨O3, ⟨hO3, hb3⟩, -⟩, hf3⟩))
  have hbel3 : Below w.heap.size w w3 := hbel2.trans (hf3.below hbel2.size (fun j h => by subst h; exact hcB))
  have c0 : w3.cell? ⟨c, 0, none⟩ = some (.int .i64 (t.count : Int)) := (hb3.cells 0).trans (by rw [IntWalk.i64_in _ (by omega)]; rfl)
  clear hb3 hf3 hO3
  go_wp2_with fail
  go_ret
  exact ⟨rfl, hbel3⟩
def ruleC (h : Hd) (kv sv : Value) (l : Nat) : Array Value := #[.string h.name, .int .i64 h.kind, .string h.data, .string h.target, .int .i64 h.mode, .int .i64 h.uid, .int .i64 h.gid, .int .i64 h.time, .int .i64 h.weight, .int .i64 h.hidden, kv, sv, .int .i64 (l : Int)]
structure RuleB (w : World) (b : Nat) (h : Hd) (kv sv : Value) (l : Nat) : Prop where
  blk : Blk w b (ruleC h kv sv l) 143
section
variable {w : World} {b : Nat} {h : Hd} {kv sv : Value} {l : Nat} (n : RuleB w b h kv sv l)
include n
theorem RuleB.c0 : w.cell? ⟨b, 0, none⟩ = some (.string h.name) := n.blk.cells 0
theorem RuleB.c1 : w.cell? ⟨b, 1, none⟩ = some (.int .i64 h.kind) := n.blk.cells 1
theorem RuleB.c2 : w.cell? ⟨b, 2, none⟩ = some (.string h.data) := n.blk.cells 2
theorem RuleB.c3 : w.cell? ⟨b, 3, none⟩ = some (.string h.target) := n.blk.cells 3
theorem RuleB.c10 : w.cell? ⟨b, 10, none⟩ = some kv := n.blk.cells 10
theorem RuleB.c11 : w.cell? ⟨b, 11, none⟩ = some sv := n.blk.cells 11
theorem RuleB.c12 : w.cell? ⟨b, 12, none⟩ = some (.int .i64 (l : Int)) := n.blk.cells 12
end
theorem RuleB.new (w : World) (h : Hd) (kv sv : Value) (l : Nat) : RuleB (w.alloc (.cells (ruleC h kv sv l) 143)) w.heap.size h kv sv l := ⟨Blk.newAt rfl⟩
theorem RuleB.below {w w' : World} {b : Nat} {h : Hd} {kv sv : Value} {l : Nat} (hb : Below w.heap.size w w') (n : RuleB w b h kv sv l) : RuleB w' b h kv sv l := ⟨Blk.below hb n.blk⟩
set_option maxRecDepth 100000 in
set_option maxHeartbeats 1000000 in
theorem rkind_any (h : Hd) (kv sv : Value) (l : Nat) (w : World) : Calls Tryz.prog 119 #[.agg (ruleC h kv sv l)] w fun e w' => e = .returned (.int .i64 (kindE h l)) ∧ Below w.heap.size w w' := by
  have HK := hide (kindE_eq h l)
  have HL : Live w [] := trivial
  go_enter Tryz.func119, Tryz.ntmps119
  go_upto_region 1 with fail
  have HN := hide (RuleB.new w h kv sv l)
  have hbel1 : Below w.heap.size w (w.alloc (.cells (ruleC h kv sv l) 143)) := by (exact bl)
  generalize w.alloc (.cells (ruleC h kv sv l) 143) = W1 at *
  obtain ⟨b, hb⟩ : ∃ b, b = w.heap.size := ⟨_, rfl⟩
  rw [← hb] at HN ⊢
  clear hb
  have d1 := HN.out.c1
  have d12 := HN.out.c12
  go_cut [23] (fun v wx => v = .bool (kindB h l) ∧ wx = W1)
  case first =>
    clear HN hbel1 HK
    by_cases q : l = 1
    case pos =>
      have q1 : ((l : Int) == 1) = true := by simp; omega
      have HQ := hide q
      clear q
      go_wp2_with fail
      all_goals
        go_meet
        refine ⟨?_, rfl⟩
        have hq := HQ.out
        unfold kindB
        refine congrArg Value.bool ?_
        rw [Bool.eq_iff_iff]
        simp [hq]
        try omega
    case neg =>
      have q1 : ((l : Int) == 1) = false := by simp; omega
      have HQ := hide q
      clear q
      go_wp2_with fail
      all_goals
        go_meet
        refine ⟨?_, rfl⟩
        have hq := HQ.out
        unfold kindB
        refine congrArg Value.bool ?_
        rw [Bool.eq_iff_iff]
        simp [hq]
        try omega
  case rest =>
  obtain ⟨rfl, rfl⟩ := hcut
  cases h1 : kindB h l
  · have HR := hide (show kindE h l = 0 by rw [HK.out, h1, if_neg (by decide)])
    clear h1
    go_wp2_with fail
    go_ret
    exact ⟨ret_i HR.out.symm, hbel1⟩
  · have HR := hide (show kindE h l = 1 by rw [HK.out, h1, if_pos rfl])
    clear h1
    go_wp2_with fail
    go_ret
    exact ⟨ret_i HR.out.symm, hbel1⟩
set_option maxRecDepth 100000 in
set_option maxHeartbeats 1000000 in
theorem rtgt_any (h : Hd) (kv sv : Value) (l : Nat) (hs : h.target.size ≤ 120000) (w : World) (hT : TabV w) : Calls Tryz.prog 122 #[.agg (ruleC h kv sv l)] w fun e w' => e = .returned (.int .i64 (targetE h)) ∧ Below w.heap.size w w' := by
  have HK := hide (targetE_eq h)
  have HL : Live w [] := trivial
  go_enter Tryz.func122, Tryz.ntmps122
  go_upto_region 1 with fail
  have HN := hide (RuleB.new w h kv sv l)
  have hbel1 : Below w.heap.size w (w.alloc (.cells (ruleC h kv sv l) 143)) := by (exact bl)
  have hT1 := hT.below hbel1
  generalize w.alloc (.cells (ruleC h kv sv l) 143) = W1 at *
  obtain ⟨b, hb⟩ : ∃ b, b = w.heap.size := ⟨_, rfl⟩
  rw [← hb] at HN ⊢
  clear hb
  have d1 := HN.out.c1
  have d3 := HN.out.c3
  by_cases q : h.kind = 2
  case pos =>
    have q1 : (h.kind == 2) = true := by simpa using q
    cases ht : targetB h.target
    · have HR := hide (show targetE h = 4 by unfold targetE; rw [if_pos ⟨q, ht⟩])
      have TG := hide (fun W hW => target_any h.target hs W hW)
      rw [ht] at TG
      clear q ht
      go_wp2_with (go_at_call 144; refine (TG.out _ hT1).mono ?_; rintro e w3 ⟨rfl, hb3⟩)
      go_ret
      exact ⟨ret_i HR.out.symm, hbel1.trans (hb3.mono hbel1.size)⟩
    · have HR := hide (show targetE h = 0 by unfold targetE; rw [if_neg (by rw [ht]; simp)])
      have TG := hide (fun W hW => target_any h.target hs W hW)
      rw [ht] at TG
      clear q ht
      go_wp2_with (go_at_call 144; refine (TG.out _ hT1).mono ?_; rintro e w3 ⟨rfl, hb3⟩)
      go_ret
      exact ⟨ret_i HR.out.symm, hbel1.trans (hb3.mono hbel1.size)⟩
  case neg =>
    have q1 : (h.kind == 2) = false := by simpa using q
    have HR := hide (show targetE h = 0 by unfold targetE; rw [if_neg (fun e => q e.1)])
    clear q
    go_wp2_with fail
    go_ret
    exact ⟨ret_i HR.out.symm, hbel1⟩
def inB (x lo hi : Int) : Bool := decide (lo ≤ x) && decide (x ≤ hi)
theorem ranged_in (h : Hd) : rangedB h = (inB h.mode 0 4095 && inB h.uid 0 65535 && inB h.gid 0 65535 && inB h.time 315532800 4102444799 && inB h.weight (-1048576) 1048576 && inB h.hidden 0 15) := by
  unfold rangedB inB
  rw [Bool.eq_iff_iff]
  simp
  omega
set_option maxHeartbeats 1000000 in
theorem in_any (x lo hi : Int) (w : World) : Calls Tryz.prog 145 #[.int .i64 x, .int .i64 lo, .int .i64 hi] w fun e w' => e = .returned (.bool (inB x lo hi)) ∧ w = w' := by
  have HI := hide (show inB x lo hi = (decide (lo ≤ x) && decide (x ≤ hi)) from rfl)
  go_enter Tryz.func145, Tryz.ntmps145
  by_cases q : lo ≤ x
  · have q1 : decide (lo ≤ x) = true := decide_eq_true q
    have HQ := hide q
    go_wp2_with fail
    go_ret
    exact ⟨ret_b (by rw [HI.out, decide_eq_true HQ.out, Bool.true_and]), rfl⟩
  · have q1 : decide (lo ≤ x) = false := decide_eq_false q
    have HQ := hide q
    go_wp2_with fail
    go_ret
    exact ⟨ret_b (by rw [HI.out, decide_eq_false (by have := HQ.out; omega), Bool.false_and]), rfl⟩
set_option maxRecDepth 100000 in
set_option maxHeartbeats 1000000 in
theorem rname1_any (h : Hd) (kv sv : Value) (l : Nat) (hl : 1 ≤ l) (hs : h.name.size ≤ 120000) (w : World) (hT : TabV w) : Calls Tryz.prog 120 #[.agg (ruleC h kv sv l)] w fun e w' => e = .returned (.int .i64 (nameE h l)) ∧ Below w.heap.size w w' := by
  have HL : Live w [] := trivial
  go_enter Tryz.func120, Tryz.ntmps120
  go_upto_region 1 with fail
  have HN := hide (RuleB.new w h kv sv l)
  have hbel1 : Below w.heap.size w (w.alloc (.cells (ruleC h kv sv l) 143)) := by (exact bl)
  have hT1 := hT.below hbel1
  generalize w.alloc (.cells (ruleC h kv sv l) 143) = W1 at *
  obtain ⟨b, hb⟩ : ∃ b, b = w.heap.size := ⟨_, rfl⟩
  rw [← hb] at HN ⊢
  clear hb
  have d0 := HN.out.c0
  have d12 := HN.out.c12
  by_cases q : l = 1
  case pos =>
    have q1 : ((l : Int) == 1) = true := by simp; omega
    have q2 : decide ((1 : Int) < (l : Int)) = false := decide_eq_false (by omega)
    have q3 : decide (1 < l) = false := decide_eq_false (by omega)
    have HQ := hide q
    clear q hl
    by_cases he : h.name.toList = []
    · have heq : h.name.toList.isEmpty = true := by rw [he]; rfl
      have HR := hide (show nameE h l = 0 by unfold nameE; rw [if_neg]; rw [HQ.out]; simp [emp_iff, he])
      go_wp2_with fail
      go_ret
      exact ⟨ret_i HR.out.symm, hbel1⟩
    · have heq : h.name.toList.isEmpty = false := by simpa using he
      have HR := hide (show nameE h l = 4 by unfold nameE; rw [if_pos]; rw [HQ.out]; simp [emp_iff, he])
      go_wp2_with fail
      go_ret
      exact ⟨ret_i HR.out.symm, hbel1⟩
  case neg =>
    have q1 : ((l : Int) == 1) = false := by simp; omega
    have q2 : decide ((1 : Int) < (l : Int)) = true := decide_eq_true (by omega)
    have q3 : decide (1 < l) = true := decide_eq_true (by omega)
    have HQ := hide (show 1 < l by omega)
    clear q hl
    have NM := hide (fun W hW => name_any h.name hs W hW)
    cases hn : nameB h.name
    · have HR := hide (show nameE h l = 4 by unfold nameE; rw [if_pos (Or.inr ⟨HQ.out, hn⟩)])
      rw [hn] at NM
      clear hn
      go_wp2_with (go_at_call 143; refine (NM.out _ hT1.1).mono ?_; rintro e w3 ⟨rfl, hb3⟩)
      go_ret
      exact ⟨ret_i HR.out.symm, hbel1.trans (hb3.mono hbel1.size)⟩
    · have HR := hide (show nameE h l = 0 by
        unfold nameE
        rw [if_neg]
        rintro (⟨e, _⟩ | ⟨_, e⟩)
        · have := HQ.out; omega
        · rw [hn] at e; cases e)
      rw [hn] at NM
      clear hn
      go_wp2_with (go_at_call 143; refine (NM.out _ hT1.1).mono ?_; rintro e w3 ⟨rfl, hb3⟩)
      go_ret
      exact ⟨ret_i HR.out.symm, hbel1.trans (hb3.mono hbel1.size)⟩
theorem RuleB.row {w : World} {b : Nat} {h : Hd} {kv sv : Value} {l : Nat} (n : RuleB w b h kv sv l) : w.rangeAt b 0 (h.cells kv sv).toList := fun j u hu => by
  have e : (ruleC h kv sv l).toList = (h.cells kv sv).toList ++ [.int .i64 (l : Int)] := rfl
  rw [Nat.zero_add, n.blk.cells j, ← Array.getElem?_toList, e, List.getElem?_append_left (List.getElem?_eq_some_iff.1 hu).1, hu]
theorem one12 (h : Hd) (A : Option Addr) (n c : Nat) (A2 : Option Addr) (n2 c2 : Nat) : (h.cells (.slice A n c) (.slice A2 n2 c2)).all (·.oneCell') = true := by kernel_rfl
theorem inC (x lo hi : Int) (w : World) : Calls Tryz.prog 145 #[.int .i64 x, .int .i64 lo, .int .i64 hi] w fun e w' => e = .returned (.bool (inB x lo hi)) ∧ w = w' := in_any x lo hi w
set_option maxRecDepth 100000 in
set_option maxHeartbeats 2000000 in
theorem rnum_any (h : Hd) (A : Option Addr) (n c : Nat) (A2 : Option Addr) (n2 c2 : Nat) (l : Nat) (w : World) : Calls Tryz.prog 123 #[.agg (ruleC h (.slice A n c) (.slice A2 n2 c2) l)] w fun e w' => e = .returned (.int .i64 (numE h)) ∧ Below w.heap.size w w' := by
  have HK := hide (show numE h = if rangedB h = true then 0 else 2 from rfl)
  have HL : Live w [] := trivial
  go_enter Tryz.func123, Tryz.ntmps123
  go_upto_region 1 with fail
  have HN := hide (RuleB.new w h (.slice A n c) (.slice A2 n2 c2) l)
  have hbel1 : Below w.heap.size w (w.alloc (.cells (ruleC h (.slice A n c) (.slice A2 n2 c2) l) 143)) := by (exact bl)
  generalize w.alloc (.cells (ruleC h (.slice A n c) (.slice A2 n2 c2) l) 143) = W1 at *
  obtain ⟨b, hb⟩ : ∃ b, b = w.heap.size := ⟨_, rfl⟩
  rw [← hb] at HN ⊢
  clear hb
  go_upto_region 2 with (first | (refine wpList_load_midA rfl 25 (.tmp 5) rfl b 0 rfl (h.cells (.slice A n c) (.slice A2 n2 c2)) _ HN.out.row Tryz.underlying25 rfl (infNl rfl) ?_) | (refine wpList_store_new rfl 25 (.tmp 3) (.tmp 6) rfl (h.cells (.slice A n c) (.slice A2 n2 c2)) rfl rfl 25 _ (infN rfl) rfl (one12 _ _ _ _ _ _ _) ?_))
  have HM := hide (NodeB.new W1 h (.slice A n c) (.slice A2 n2 c2))
  have hbel2 : Below w.heap.size w (W1.alloc (.cells (h.cells (.slice A n c) (.slice A2 n2 c2)) 25)) := hbel1.alloc hbel1.size _
  generalize W1.alloc (.cells (h.cells (.slice A n c) (.slice A2 n2 c2)) 25) = W2 at *
  generalize W1.heap.size = d at *
  have d4 := HM.out.c4
  have d5 := HM.out.c5
  have d6 := HM.out.c6
  have d7 := HM.out.c7
  have d8 := HM.out.c8
  have d9 := HM.out.c9
  have HR := hide (ranged_in h)
  clear HN hbel1 HM
  go_wp2_with (first | (go_at_call 145; (with_reducible refine (inC _ _ _ _).mono ?_); rintro e w' ⟨rfl, rfl⟩))
  all_goals
    go_ret
    refine ⟨ret_i ?_, hbel2⟩
    rw [HK.out, HR.out]
    simp_all
set_option maxRecDepth 100000 in
set_option maxHeartbeats 4000000 in
theorem rparts_any (t : Tr) (A : Option Addr) (c : Nat) (A2 : Option Addr) (c2 : Nat) (l : Nat) (w : World) : Calls Tryz.prog 121 #[.agg (ruleC t.h (.slice A t.ks.len c) (.slice A2 t.ss.length c2) l)] w fun e w' => e = .returned (.int .i64 (partsE t)) ∧ Below w.heap.size w w' := by
  have HK := hide (partsE_eq t)
  have HL : Live w [] := trivial
  go_enter Tryz.func121, Tryz.ntmps121
  go_upto_region 1 with fail
  have HN := hide (RuleB.new w t.h (.slice A t.ks.len c) (.slice A2 t.ss.length c2) l)
  have hbel1 : Below w.heap.size w (w.alloc (.cells (ruleC t.h (.slice A t.ks.len c) (.slice A2 t.ss.length c2) l) 143)) := by (exact bl)
  generalize w.alloc (.cells (ruleC t.h (.slice A t.ks.len c) (.slice A2 t.ss.length c2) l) 143) = W1 at *
  obtain ⟨b, hb⟩ : ∃ b, b = w.heap.size := ⟨_, rfl⟩
  rw [← hb] at HN ⊢
  clear hb
  go_upto_region 2 with (first | (refine wpList_load_midA rfl 25 (.tmp 4) rfl b 0 rfl (t.h.cells (.slice A t.ks.len c) (.slice A2 t.ss.length c2)) _ HN.out.row Tryz.underlying25 rfl (infNl rfl) ?_) | (refine wpList_store_new rfl 25 (.tmp 3) (.tmp 5) rfl (t.h.cells (.slice A t.ks.len c) (.slice A2 t.ss.length c2)) rfl rfl 25 _ (infN rfl) rfl (one12 _ _ _ _ _ _ _) ?_))
  have HM := hide (NodeB.new W1 t.h (.slice A t.ks.len c) (.slice A2 t.ss.length c2))
  have hbel2 : Below w.heap.size w (W1.alloc (.cells (t.h.cells (.slice A t.ks.len c) (.slice A2 t.ss.length c2)) 25)) := hbel1.alloc hbel1.size _
  generalize W1.alloc (.cells (t.h.cells (.slice A t.ks.len c) (.slice A2 t.ss.length c2)) 25) = W2 at *
  generalize W1.heap.size = d at *
  have d1 := HM.out.c1
  have d2 := HM.out.c2
  have d3 := HM.out.c3
  have d10 := HM.out.c10
  have d11 := HM.out.c11
  clear HN hbel1
  dsimp only [Act.put]
  go_cut [40] (fun v wx => v = .bool (parB t) ∧ wx = W2)
  case first =>
    as_aux_lemma =>
      clear HM hbel2 HK
      by_cases q1 : t.h.kind = 1
      case pos =>
        have k1 : (t.h.kind != 1) = false := by rw [q1]; rfl
        have k2 : (t.h.kind != 2) = true := by rw [q1]; rfl
        have k0 : (t.h.kind != 0) = true := by rw [q1]; rfl
        have HQ := hide q1
        clear q1
        by_cases htg : t.h.target.toList = []
        · have htgq : t.h.target.toList.isEmpty = true := by rw [htg]; rfl
          by_cases hks : 0 < t.ks.len
          · have hksq : decide (0 < t.ks.len) = true := decide_eq_true hks
            go_wp2_with fail
            all_goals
              go_meet
              refine ⟨congrArg Value.bool ?_, rfl⟩
              have hq := HQ.out
              unfold parB
              rw [Bool.eq_iff_iff]
              simp [hq, emp_iff, *]
              try omega
          · have hksq : decide (0 < t.ks.len) = false := decide_eq_false hks
            go_wp2_with fail
            all_goals
              go_meet
              refine ⟨congrArg Value.bool ?_, rfl⟩
              have hq := HQ.out
              unfold parB
              rw [Bool.eq_iff_iff]
              simp [hq, emp_iff, *]
              try omega
        · have htgq : t.h.target.toList.isEmpty = false := by simpa using htg
          go_wp2_with fail
          all_goals
            go_meet
            refine ⟨congrArg Value.bool ?_, rfl⟩
            have hq := HQ.out
            unfold parB
            rw [Bool.eq_iff_iff]
            simp [hq, emp_iff, *]
            try omega
      case neg =>
      by_cases q2 : t.h.kind = 2
      case pos =>
        have k1 : (t.h.kind != 1) = true := by rw [q2]; rfl
        have k2 : (t.h.kind != 2) = false := by rw [q2]; rfl
        have k0 : (t.h.kind != 0) = true := by rw [q2]; rfl
        have HQ := hide q2
        clear q2 q1
        by_cases hdt : t.h.data.toList = []
        · have hdtq : t.h.data.toList.isEmpty = true := by rw [hdt]; rfl
          by_cases hsl : 0 < t.ss.length
          · have hslq : decide (0 < t.ss.length) = true := decide_eq_true hsl
            go_wp2_with fail
            all_goals
              go_meet
              refine ⟨congrArg Value.bool ?_, rfl⟩
              have hq := HQ.out
              unfold parB
              rw [Bool.eq_iff_iff]
              simp [hq, emp_iff, *]
              try omega
          · have hslq : decide (0 < t.ss.length) = false := decide_eq_false hsl
            by_cases hks : 0 < t.ks.len
            · have hksq : decide (0 < t.ks.len) = true := decide_eq_true hks
              go_wp2_with fail
              all_goals
                go_meet
                refine ⟨congrArg Value.bool ?_, rfl⟩
                have hq := HQ.out
                unfold parB
                rw [Bool.eq_iff_iff]
                simp [hq, emp_iff, *]
                try omega
            · have hksq : decide (0 < t.ks.len) = false := decide_eq_false hks
              go_wp2_with fail
              all_goals
                go_meet
                refine ⟨congrArg Value.bool ?_, rfl⟩
                have hq := HQ.out
                unfold parB
                rw [Bool.eq_iff_iff]
                simp [hq, emp_iff, *]
                try omega
        · have hdtq : t.h.data.toList.isEmpty = false := by simpa using hdt
          go_wp2_with fail
          all_goals
            go_meet
            refine ⟨congrArg Value.bool ?_, rfl⟩
            have hq := HQ.out
            unfold parB
            rw [Bool.eq_iff_iff]
            simp [hq, emp_iff, *]
            try omega
      case neg =>
      by_cases q0 : t.h.kind = 0
      case pos =>
        have k1 : (t.h.kind != 1) = true := by rw [q0]; rfl
        have k2 : (t.h.kind != 2) = true := by rw [q0]; rfl
        have k0 : (t.h.kind != 0) = false := by rw [q0]; rfl
        have HQ := hide q0
        clear q0 q1 q2
        by_cases hdt : t.h.data.toList = []
        · have hdtq : t.h.data.toList.isEmpty = true := by rw [hdt]; rfl
          by_cases hsl : 0 < t.ss.length
          · have hslq : decide (0 < t.ss.length) = true := decide_eq_true hsl
            go_wp2_with fail
            all_goals
              go_meet
              refine ⟨congrArg Value.bool ?_, rfl⟩
              have hq := HQ.out
              unfold parB
              rw [Bool.eq_iff_iff]
              simp [hq, emp_iff, *]
              try omega
          · have hslq : decide (0 < t.ss.length) = false := decide_eq_false hsl
            by_cases htg : t.h.target.toList = []
            · have htgq : t.h.target.toList.isEmpty = true := by rw [htg]; rfl
              go_wp2_with fail
              all_goals
                go_meet
                refine ⟨congrArg Value.bool ?_, rfl⟩
                have hq := HQ.out
                unfold parB
                rw [Bool.eq_iff_iff]
                simp [hq, emp_iff, *]
                try omega
            · have htgq : t.h.target.toList.isEmpty = false := by simpa using htg
              go_wp2_with fail
              all_goals
                go_meet
                refine ⟨congrArg Value.bool ?_, rfl⟩
                have hq := HQ.out
                unfold parB
                rw [Bool.eq_iff_iff]
                simp [hq, emp_iff, *]
                try omega
        · have hdtq : t.h.data.toList.isEmpty = false := by simpa using hdt
          go_wp2_with fail
          all_goals
            go_meet
            refine ⟨congrArg Value.bool ?_, rfl⟩
            have hq := HQ.out
            unfold parB
            rw [Bool.eq_iff_iff]
            simp [hq, emp_iff, *]
            try omega
      case neg =>
      have k1 : (t.h.kind != 1) = true := by simpa using q1
      have k2 : (t.h.kind != 2) = true := by simpa using q2
      have k0 : (t.h.kind != 0) = true := by simpa using q0
      have HQ := hide (And.intro q1 (And.intro q2 q0))
      clear q1 q2 q0
      by_cases hdt : t.h.data.toList = []
      · have hdtq : t.h.data.toList.isEmpty = true := by rw [hdt]; rfl
        by_cases hsl : 0 < t.ss.length
        · have hslq : decide (0 < t.ss.length) = true := decide_eq_true hsl
          go_wp2_with fail
          all_goals
            go_meet
            refine ⟨congrArg Value.bool ?_, rfl⟩
            have hq := HQ.out
            unfold parB
            rw [Bool.eq_iff_iff]
            simp [hq, emp_iff, *]
            try omega
        · have hslq : decide (0 < t.ss.length) = false := decide_eq_false hsl
          by_cases htg : t.h.target.toList = []
          · have htgq : t.h.target.toList.isEmpty = true := by rw [htg]; rfl
            by_cases hks : 0 < t.ks.len
            · have hksq : decide (0 < t.ks.len) = true := decide_eq_true hks
              go_wp2_with fail
              all_goals
                go_meet
                refine ⟨congrArg Value.bool ?_, rfl⟩
                have hq := HQ.out
                unfold parB
                rw [Bool.eq_iff_iff]
                simp [hq, emp_iff, *]
                try omega
            · have hksq : decide (0 < t.ks.len) = false := decide_eq_false hks
              go_wp2_with fail
              all_goals
                go_meet
                refine ⟨congrArg Value.bool ?_, rfl⟩
                have hq := HQ.out
                unfold parB
                rw [Bool.eq_iff_iff]
                simp [hq, emp_iff, *]
                try omega
          · have htgq : t.h.target.toList.isEmpty = false := by simpa using htg
            go_wp2_with fail
            all_goals
              go_meet
              refine ⟨congrArg Value.bool ?_, rfl⟩
              have hq := HQ.out
              unfold parB
              rw [Bool.eq_iff_iff]
              simp [hq, emp_iff, *]
              try omega
      · have hdtq : t.h.data.toList.isEmpty = false := by simpa using hdt
        go_wp2_with fail
        all_goals
          go_meet
          refine ⟨congrArg Value.bool ?_, rfl⟩
          have hq := HQ.out
          unfold parB
          rw [Bool.eq_iff_iff]
          simp [hq, emp_iff, *]
          try omega
  case rest =>
  obtain ⟨rfl, rfl⟩ := hcut
  cases h1 : parB t
  · have HR := hide (show partsE t = 0 by rw [HK.out, h1, if_neg (by decide)])
    clear h1
    go_wp2_with fail
    go_ret
    exact ⟨ret_i HR.out.symm, hbel2⟩
  · have HR := hide (show partsE t = 1 by rw [HK.out, h1, if_pos rfl])
    clear h1
    go_wp2_with fail
    go_ret
    exact ⟨ret_i HR.out.symm, hbel2⟩
def strC (s : St) : Array Value := #[.string s.1, .string s.2]
structure StB (w : World) (b : Nat) (s : St) : Prop where
  blk : Blk w b (strC s) 136
theorem StB.c0 {w : World} {b : Nat} {s : St} (n : StB w b s) : w.cell? ⟨b, 0, none⟩ = some (.string s.1) := n.blk.cells 0
theorem StB.c1 {w : World} {b : Nat} {s : St} (n : StB w b s) : w.cell? ⟨b, 1, none⟩ = some (.string s.2) := n.blk.cells 1
theorem StB.new (w : World) (s : St) : StB (w.alloc (.cells (strC s) 136)) w.heap.size s := ⟨Blk.newAt rfl⟩
theorem StB.below {w w' : World} {b : Nat} {s : St} (hb : Below w.heap.size w w') (n : StB w b s) : StB w' b s := ⟨Blk.below hb n.blk⟩
theorem StL.row {w w' : World} {B k : Nat} {A : Option Addr} {ss : List St} {s : St} (h : StL w B A ss) (hb : Below B w w') (hs : ss[k]? = some s) : ∃ g o, A = some ⟨g, o, none⟩ ∧ g < B ∧ w'.rangeAt g (o + k * 2) (strC s).toList := by
  obtain ⟨g, o, e, hg, c1, c2⟩ := h.at hb hs
  refine ⟨g, o, e, hg, fun j u hu => ?_⟩
  match j, hu with
  | 0, hu => rw [Nat.add_zero, c1]; exact hu
  | 1, hu => rw [c2]; exact hu
  | j + 2, hu => simp [strC] at hu
set_option maxRecDepth 100000 in
set_option maxHeartbeats 4000000 in
theorem rsizes_any (t : Tr) (A : Option Addr) (c : Nat) (A2 : Option Addr) (c2 : Nat) (l : Nat) (hl : l ≤ 2000000000) (hsz : t.sz ≤ 2000000000) (w : World) (hs : StL w w.heap.size A2 t.ss) : Calls Tryz.prog 124 #[.agg (ruleC t.h (.slice A t.ks.len c) (.slice A2 t.ss.length c2) l)] w fun e w' => e = .returned (.int .i64 (sizeE t l)) ∧ Below w.heap.size w w' := by
  have HST := hide hs
  have hlk := t.ks.len_sz
  have hls := szS_len t.ss
  have hts : t.sz = t.h.sz + szS t.ss + t.ks.sz := rfl
  have hlk2 : t.ks.len ≤ 2000000000 := by omega
  have hls2 : t.ss.length ≤ 2000000000 := by omega
  have hds : t.h.data.size ≤ 2000000000 := by unfold Hd.sz at hts; omega
  clear hs hlk hls hts hsz
  have HK := hide (show sizeE t l = if largeB t l = true then 7 else 0 from rfl)
  have HL : Live w [] := trivial
  go_enter Tryz.func124, Tryz.ntmps124
  go_upto_region 1 with fail
  have HN := hide (RuleB.new w t.h (.slice A t.ks.len c) (.slice A2 t.ss.length c2) l)
  have hbel1 : Below w.heap.size w (w.alloc (.cells (ruleC t.h (.slice A t.ks.len c) (.slice A2 t.ss.length c2) l) 143)) := by (exact bl)
  generalize w.alloc (.cells (ruleC t.h (.slice A t.ks.len c) (.slice A2 t.ss.length c2) l) 143) = W1 at *
  obtain ⟨b, hb⟩ : ∃ b, b = w.heap.size := ⟨_, rfl⟩
  rw [← hb] at HN ⊢
  clear hb
  go_upto_region 2 with (first | (refine wpList_load_midA rfl 25 (.tmp 6) rfl b 0 rfl (t.h.cells (.slice A t.ks.len c) (.slice A2 t.ss.length c2)) _ HN.out.row Tryz.underlying25 rfl (infNl rfl) ?_) | (refine wpList_store_new rfl 25 (.tmp 3) (.tmp 7) rfl (t.h.cells (.slice A t.ks.len c) (.slice A2 t.ss.length c2)) rfl rfl 25 _ (infN rfl) rfl (one12 _ _ _ _ _ _ _) ?_))
  have HM := hide (NodeB.new W1 t.h (.slice A t.ks.len c) (.slice A2 t.ss.length c2))
  have hbel2 : Below w.heap.size w (W1.alloc (.cells (t.h.cells (.slice A t.ks.len c) (.slice A2 t.ss.length c2)) 25)) := hbel1.alloc hbel1.size _
  have hbN : Below W1.heap.size W1 (W1.alloc (.cells (t.h.cells (.slice A t.ks.len c) (.slice A2 t.ss.length c2)) 25)) := (Below.refl _ _).alloc (Nat.le_refl _) _
  have HN2 := hide (HN.out.below hbN)
  generalize W1.alloc (.cells (t.h.cells (.slice A t.ks.len c) (.slice A2 t.ss.length c2)) 25) = W2 at *
  generalize W1.heap.size = d at *
  clear HN hbel1 hbN
  have d2 := HM.out.c2
  have d10 := HM.out.c10
  have d11 := HM.out.c11
  have d12 : W2.cell? ⟨b, 12, none⟩ = some (.int .i64 (l : Int)) := HN2.out.c12
  dsimp only [Act.put]
  go_cut [28] (fun v wx => v = .bool (large1 t l) ∧ wx = W2)
  case first =>
    as_aux_lemma =>
      clear HM HN2 hbel2 HST HK
      go_wp2_with fail
      all_goals
        go_meet
        refine ⟨?_, rfl⟩
        unfold large1
        refine congrArg Value.bool ?_
        rw [Bool.eq_iff_iff]
        simp
        omega
  case rest =>
  obtain ⟨rfl, rfl⟩ := hcut
  cases h1 : large1 t l
  case true =>
    have HR := hide (show sizeE t l = 7 by rw [HK.out, largeB_eq, h1]; rfl)
    clear h1
    go_wp2_with fail
    go_ret
    exact ⟨ret_i HR.out.symm, hbel2⟩
  case false =>
  have HR := hide (show sizeE t l = if t.ss.any bigS = true then 7 else 0 by rw [HK.out, largeB_eq, h1]; rfl)
  clear h1 d2 d10 d12
  go_wp2_with fail
  go_loopw [32] (fun i wr => ∃ k : Nat, k ≤ t.ss.length ∧ i = .int .i64 (k : Int) ∧ (t.ss.take k).any bigS = false ∧ Below w.heap.size w wr) (fun i _ => t.ss.length - (intOf i).toNat)
  case atStart => exact ⟨0, by omega, rfl, rfl, hbel2⟩
  case round =>
    obtain ⟨k, hk, rfl, hno, hbr⟩ := hrel
    have HNO := hide hno
    clear hno
    by_cases hlt : k < t.ss.length
    case neg =>
      obtain rfl : k = t.ss.length := by omega
      go_wp2_with fail
      go_ret
      exact ⟨ret_i (by rw [HR.out, if_neg]; have := HNO.out; rw [List.take_length] at this; simp [this]), hbr⟩
    case pos =>
    obtain ⟨s, hs⟩ : ∃ s, t.ss[k]? = some s := ⟨_, List.getElem?_eq_getElem hlt⟩
    obtain ⟨g, o, rfl, hg, r1, r2⟩ := HST.out.at hbr hs
    have HS := hide hs
    clear hs
    go_upto_region 7 with fail
    have HW := hide (show StB (wr.alloc (.cells #[.string s.1, .string s.2] 136)) wr.heap.size s from StB.new wr s)
    have hbr2 : Below w.heap.size w (wr.alloc (.cells #[.string s.1, .string s.2] 136)) := hbr.alloc hbr.size _
    generalize wr.alloc (.cells #[.string s.1, .string s.2] 136) = W5 at *
    generalize wr.heap.size = d5 at *
    have e1 := HW.out.c1
    clear r1 r2 HW hbr
    by_cases hq : (s.2.size : Int) ≤ 262144
    · have q : decide ((262144 : Int) < (s.2.size : Int)) = false := decide_eq_false (by omega)
      have HB := hide (show bigS s = false from decide_eq_false (by omega))
      clear hq
      go_wp2_with fail
      go_roundw
      case rel => exact ⟨k + 1, by omega, by go_num, any_take_succ HS.out HNO.out HB.out, hbr2⟩
      case measure => simp [intOf]; omega
    · have q : decide ((262144 : Int) < (s.2.size : Int)) = true := decide_eq_true (by omega)
      have HB := hide (show bigS s = true from decide_eq_true (by omega))
      clear hq
      go_wp2_with fail
      go_ret
      exact ⟨ret_i (by rw [HR.out, if_pos (any_hit HS.out HB.out)]), hbr2⟩
theorem cmp_0 : ∀ (a b : List UInt8), Lib.compareBytes a b = 0 ↔ a = b
  | [], [] => by simp [Lib.compareBytes]
  | [], _ :: _ => by simp [Lib.compareBytes]
  | _ :: _, [] => by simp [Lib.compareBytes]
  | x :: a, y :: b => by
    unfold Lib.compareBytes
    by_cases h1 : x < y
    · rw [if_pos h1]
      refine ⟨fun e => absurd e (by decide), fun e => ?_⟩
      injection e with e1 _
      subst e1
      exact absurd h1 (UInt8.lt_irrefl x)
    · rw [if_neg h1]
      by_cases h2 : y < x
      · rw [if_pos h2]
        refine ⟨fun e => absurd e (by decide), fun e => ?_⟩
        injection e with e1 _
        subst e1
        exact absurd h2 (UInt8.lt_irrefl x)
      · rw [if_neg h2, cmp_0 a b]
        have e : x = y := UInt8.le_antisymm (UInt8.not_lt.1 h2) (UInt8.not_lt.1 h1)
        subst e
        exact ⟨fun e => by rw [e], fun e => by injection e⟩
theorem cmp_1 : ∀ (a b : List UInt8), Lib.compareBytes a b = 1 ↔ Op.bytesLess b a = true
  | [], [] => by simp [Lib.compareBytes, Op.bytesLess]
  | [], _ :: _ => by simp [Lib.compareBytes, Op.bytesLess]
  | _ :: _, [] => by simp [Lib.compareBytes, Op.bytesLess]
  | x :: a, y :: b => by
    unfold Lib.compareBytes Op.bytesLess
    by_cases h1 : x < y
    · rw [if_pos h1]
      have h3 : ¬ y < x := fun h => absurd (UInt8.lt_trans h1 h) (UInt8.lt_irrefl x)
      have h4 : y ≠ x := fun h => by subst h; exact absurd h1 (UInt8.lt_irrefl _)
      simp [h3, h4]
    · rw [if_neg h1]
      by_cases h2 : y < x
      · rw [if_pos h2]; simp [h2]
      · rw [if_neg h2, cmp_1 a b]
        have e : x = y := UInt8.le_antisymm (UInt8.not_lt.1 h2) (UInt8.not_lt.1 h1)
        subst e
        simp [h2]
def cmpB (a b : ByteArray) : Int := Lib.compareBytes a.data.toList b.data.toList
theorem ordE_cmp (a b : ByteArray) : ordE a b = if cmpB a b = 0 then 5 else if cmpB a b = 1 then 1 else 0 := by
  have h0 : cmpB a b = 0 ↔ a = b := by
    unfold cmpB
    rw [cmp_0]
    exact ⟨fun e => ByteArray.ext (Array.toList_inj.1 e), fun e => by rw [e]⟩
  have h1 : cmpB a b = 1 ↔ Op.bytesLess b.toList a.toList = true := by
    unfold cmpB
    rw [cmp_1, ByteArray.toList_eq, ByteArray.toList_eq]
  unfold ordE
  simp only [h0, h1]
theorem scmp_any (a b : ByteArray) (w : World) : Calls Tryz.prog 161 #[.string a, .string b] w fun e w' => e = .returned (.int .i64 (cmpB a b)) ∧ w = w' :=
  (Any.strings_Compare Tryz.lays106 a b w).mono fun e w' ⟨he, hw⟩ => ⟨he, hw.symm⟩
set_option maxHeartbeats 1000000 in
theorem order_any (a b : ByteArray) (w : World) : Calls Tryz.prog 146 #[.string a, .string b] w fun e w' => e = .returned (.int .i64 (ordE a b)) ∧ w = w' := by
  have HK := hide (ordE_cmp a b)
  have HC := hide (scmp_any a b w)
  generalize cmpB a b = c at *
  go_enter Tryz.func146, Tryz.ntmps146
  by_cases h0 : c = 0
  · have q0 : (c == 0) = true := by simpa using h0
    have HR := hide (show ordE a b = 5 by rw [HK.out, if_pos h0])
    clear h0
    go_wp2_with (go_at_call 161; refine HC.out.mono ?_; rintro e w3 ⟨rfl, rfl⟩)
    go_ret
    exact ⟨ret_i HR.out.symm, rfl⟩
  · have q0 : (c == 0) = false := by simpa using h0
    by_cases h1 : c = 1
    · have q1 : (c == 1) = true := by simpa using h1
      have HR := hide (show ordE a b = 1 by rw [HK.out, if_neg h0, if_pos h1])
      clear h0 h1
      go_wp2_with (go_at_call 161; refine HC.out.mono ?_; rintro e w3 ⟨rfl, rfl⟩)
      go_ret
      exact ⟨ret_i HR.out.symm, rfl⟩
    · have q1 : (c == 1) = false := by simpa using h1
      have HR := hide (show ordE a b = 0 by rw [HK.out, if_neg h0, if_neg h1])
      clear h0 h1
      go_wp2_with (go_at_call 161; refine HC.out.mono ?_; rintro e w3 ⟨rfl, rfl⟩)
      go_ret
      exact ⟨ret_i HR.out.symm, rfl⟩
end Go.Proofs.YtocgindpjjolpaaGreatDoor
