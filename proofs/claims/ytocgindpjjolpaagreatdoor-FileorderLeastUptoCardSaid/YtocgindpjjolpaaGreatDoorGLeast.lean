/- The card of FileorderLeast, second form: where the arguments are together of bulk at most 1048576 the law returns true. -/
import Derived.Test.YtocgindpjjolpaaGreatDoorGZw
import Derived.Test.YtocgindpjjolpaaGreatDoorG38
namespace Go.Proofs.YtocgindpjjolpaaGreatDoor.Least
set_option linter.unusedSimpArgs false
set_option linter.unusedVariables false
open Go.Joins Go.ChangeShapes Go.WideShapes Go.ChangeAt Go.RowKit Go.Deep
open Go.ChangeMaps (open_string shut_string)
set_option maxRecDepth 100000
theorem leastW (v : Value) (t : Tr) (v2 : Value) (b : Strs) (v3 : Value) (s : Bys) (w : World) (hT : Tab w) (h : TreeR w w.heap.size v t ∧ t.sz ≤ 20971520) (h2 : SlR w w.heap.size v2 b.l ∧ b.sz ≤ 20971520) (h3 : SlB8 w w.heap.size v3 s.l ∧ s.sz ≤ 20971520) :
    Calls Tryz.prog 9 #[v, v2, v3] w fun e w' => e = .returned (.bool true) ∧ Below w.heap.size w w' := by
  refine law_least v t v2 b.l v3 s.l w hT h.1 h.2 h2.1 (fun p hp => ?_) h3.1
  have h5 := szL_mem hp
  have h6 := h2.2
  unfold Strs.sz at h6
  omega
set_option maxRecDepth 100000 in
theorem lifted (os : Os) (started : os.Started) (H : Type) (enc : TypeId × Value → H) (F : Stop.Interp) :
    ReturnsInHanded {} Tryz.checked os 9 .any ((Rows.OpenSpec.upto Rows.fileorderLeastSpec).preRow enc Tryz.prog Tryz.f9 Rows.fileorderLeastUptoRow.domain false Rows.fileorderLeastUptoRow.laid) (((Rows.OpenSpec.upto Rows.fileorderLeastSpec).at F).post enc Tryz.prog Tryz.f9 false true false false) := by
  have hx : ∃ places, DataW.whole enc Tryz.prog ((World.laidAll Tryz.prog os Rows.fileorderLeastUptoRow.laid).forCall (fun _ _ => 0) ⟨#[], #[tree_wit, strs_wit, bys_wit], []⟩).memory Tryz.f9.params.toList (Rows.OpenSpec.upto Rows.fileorderLeastSpec).vars false (#[tree_wit, strs_wit, bys_wit] : Array Value).toList 8 = some ([tree_dat, strs_dat, bys_dat], [], places) := ⟨[], by kernel_rfl⟩
  obtain ⟨places, hx⟩ := hx
  refine returnsInHanded_of_row (C := Tryz.checked) (s := Rows.OpenSpec.upto Rows.fileorderLeastSpec) own started (by kernel_rfl) Tryz.func9
    (witness_row_shaped (enc := enc) (C := Tryz.checked) (os := os) false (World.laidAll Tryz.prog os Rows.fileorderLeastUptoRow.laid) #[tree_wit, strs_wit, bys_wit] (World.laidAll_os _ _ _) (World.shaped_of_ZipB (by kernel_rfl) (by kernel_rfl)) (by kernel_rfl)
      (OpenSpec.preRow_of_cond 8 hx (by kernel_rfl) (fun k hk => by cases hk; kernel_rfl) (by kernel_rfl) (by rw [MakeChecks.laidMetH_plain _ _ _ (by kernel_rfl)]; exact laidMet_laidAll _ (by kernel_rfl) (by kernel_rfl)))) ?_
  intro W base args ds gs before hval0 hW _ hcond _ hL0 hSh _
  have hT : Tab W := by
    rw [MakeChecks.laidMetH_plain _ _ _ (by kernel_rfl)] at hL0
    exact tab_of_laid hL0 hSh
  have hval : ∀ (j : Nat) t v, Tryz.f9.params[j]? = some t → args[j]? = some v → Value.okWide Tryz.prog W .any base t v := hval0
  have hW' := hW
  obtain ⟨p, q, hA0, hV, rfl, hfz, hnd⟩ := hW
  have hA : DataW.TrodAll enc Tryz.prog W 0 (fun _ => true) true Tryz.f9.params.toList args.toList ds p := hA0
  rw [Tryz.params9] at hA hval
  obtain ⟨v0, vs0, d0, ds0, p0, q0, hargs, rfl, rfl, h0, r0⟩ := trodAll_cons hA
  obtain ⟨v1, vs1, d1, ds1, p1, q1, rfl, rfl, rfl, h1, r1⟩ := trodAll_cons r0
  obtain ⟨v2, vs2, d2, ds2, p2, q2, rfl, rfl, rfl, h2, r2⟩ := trodAll_cons r1
  obtain ⟨rfl, rfl, rfl⟩ := trodAll_nil r2
  obtain rfl : args = #[v0, v1, v2] := by cases args; simp_all
  obtain ⟨rfl, rfl⟩ := trodVars_none hV
  have k0 := h0
  have lt0 : ∀ x ∈ p0, x.block < W.heap.size := by obtain ⟨m, hm⟩ := k0; exact DataW.trod_lt m _ _ _ hm
  obtain ⟨a0, w0⟩ := open_Tree (hval 0 25 v0 rfl rfl) h0
  have k1 := h1
  have lt1 : ∀ x ∈ p1, x.block < W.heap.size := by obtain ⟨m, hm⟩ := k1; exact DataW.trod_lt m _ _ _ hm
  obtain ⟨a1, w1⟩ := open_Strs (hval 1 26 v1 rfl rfl) h1
  have k2 := h2
  have lt2 : ∀ x ∈ p2, x.block < W.heap.size := by obtain ⟨m, hm⟩ := k2; exact DataW.trod_lt m _ _ _ hm
  obtain ⟨a2, w2⟩ := open_Bys (hval 2 55 v2 rfl rfl) h2
  clear hA0 hval0
  have hB := small_le (hcond _ rfl)
  simp only [List.append_nil, bulk_cons, bulk_nil, bulk_str, bulk_int, str_len] at hB
  have z0 : a0.sz ≤ 20971520 := by have := w0.2; omega
  have z1 : a1.sz ≤ 20971520 := by have := w1.2; omega
  have z2 : a2.sz ≤ 20971520 := by have := w2.2; omega
  refine (leastW v0 a0 v1 a1 v2 a2 W hT ⟨w0.1, z0⟩ ⟨w1.1, z1⟩ ⟨w2.1, z2⟩).mono fun e W' ⟨he, bel⟩ => ?_
  subst he
  exact ⟨_, rfl, _, _, _, [], _, [], hW', trodAll_mk1 (shut_bool Tryz.underlying4 _), (trodAll_cons_mk (Below.trod laidOut (by kernel_rfl) (of_decide_eq_true (by kernel_rfl)) k0 bel lt0) (trodAll_cons_mk (Below.trod laidOut (by kernel_rfl) (of_decide_eq_true (by kernel_rfl)) k1 bel lt1) (trodAll_cons_mk (Below.trod laidOut (by kernel_rfl) (of_decide_eq_true (by kernel_rfl)) k2 bel lt2) trodAll_mk0))), rfl, bel.frame _, fun h => by cases h⟩

theorem over : Rows.fileorderLeastUptoRow.holds Tryz.pinned (Rows.OpenSpec.upto Rows.fileorderLeastSpec) :=
  OpenClaim.holds_of_cond 9 Tryz.f9 rfl rfl rfl rfl rfl rfl rfl ⟨rfl, rfl, rfl, rfl, rfl⟩ rfl rfl rfl rfl rfl (by kernel_rfl) Tryz.func9 (by kernel_rfl)
    (of_decide_eq_true (by kernel_rfl)) (by unfold Func.isWrapper; first | (rw [if_pos (by decide +kernel)]; kernel_rfl) | (rw [if_neg (by decide +kernel)]; exact ⟨rfl, rfl⟩))
    (fun os started H enc _ F => by rw [OpenClaim.pre_eq_preRow]; exact lifted os started H enc F)
theorem proved : Rows.FileorderLeastUptoCardSaid :=
  Claim7.holds_tied_plain_at .later [] [.data, .pinned] true (true, "94b2da3f6cd4e3bc6492da24fdda739121b46287ee0eaa8e770d04905f481977") false over (fun _ h => by cases h) (by kernel_rfl) (fun _ h => by cases h) fileorderLeastUpto_row_tie rfl ⟨rfl, rfl⟩ (by kernel_rfl) rfl
    (fun f fn hf hfn => by
      obtain rfl : f = 9 := Option.some.inj ((show Tryz.prog.funcNamed Rows.fileorderLeastUptoRow.func = some 9 by kernel_rfl).symm.trans hf) |>.symm
      obtain rfl : fn = Tryz.f9 := (Option.some.inj (Tryz.func9.symm.trans hfn)).symm
      exact ⟨by kernel_rfl, fun j t ht => by
        rw [Tryz.params9] at ht
        have hm : t ∈ [25, 26, 55] := by simpa using Array.mem_of_getElem? ht
        have hall : ([25, 26, 55].all fun u => !Tryz.prog.wantsStandIn u) = true := by kernel_rfl
        exact (show Tryz.prog.wantsStandIn t = false by simpa using List.all_eq_true.1 hall t hm)⟩)
    (by kernel_rfl)
end Go.Proofs.YtocgindpjjolpaaGreatDoor.Least
