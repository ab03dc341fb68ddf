/- Contracts and plain words for the laws of volume descriptors, part 31: T5, T4, T3. No condition. -/
import Derived.Test.YtjbhokmkmapkoaaGreatDoorC27
import Derived.Test.YtjbhokmkmapkoaaGreatDoorC30
namespace Go.Proofs.YtjbhokmkmapkoaaGreatDoor
set_option linter.unusedSimpArgs false
set_option linter.unusedVariables false
open Go.RowKit
open Go.PlainAid (bt get_bt bt_nonneg bt_le bt_end)
theorem RZ.of {w : World} {b2 b4 b5 : Nat} {D : DR} {W : World} (h : RS w b2 b4 b5 D W) : Blk (W.setRow b2 DR.zero.cells) b2 DR.zero.cells 27 ∧ Below w.heap.size w (W.setRow b2 DR.zero.cells) := ⟨h.r2.setRow, below_setRow' h.bel h.l1 _⟩
set_option maxRecDepth 100000 in
set_option maxHeartbeats 8000000 in
theorem rdec_t33 {s : ByteArray} {w W : World} {b2 b4 b5 b8 : Nat} {x0 x1 x2 x3 x4 : ByteArray} {t z : Int} {r : Rec} {v1 v3 v6 v7 v9 v10 v12 v14 v16 v18 v20 v23 v24 v25 v26 v27 v28 v29 v30 v31 v32 v33 v34 v35 v36 v37 v38 v39 v40 v41 v42 v43 v44 v45 v46 v47 v48 v49 v50 v51 v52 v53 v54 v55 v56 v57 v58 v59 v60 v61 v62 v63 v64 v65 v66 v67 v68 v69 v70 v71 v72 v73 v74 v75 v76 v77 v78 v79 v80 v81 v82 v83 v84 v85 v86 v87 v88 v89 v90 v91 v92 v93 v94 v95 v96 v97 v98 v99 v100 v101 v102 v103 v104 v105 v106 v107 v108 v109 v110 v111 v112 v113 v114 v115 v116 v117 v118 v119 v120 v121 v122 v123 v124 v125 v126 v127 v128 v129 v130 v131 v132 v133 v134 v135 v136 v137 v138 v139 v140 v141 v142 v143 v144 v145 v146 v147 v148 v149 v150 v151 v152 v153 v154 v155 v156 v157 v158 v159 v160 v161 v162 v163 v164 v165 v166 v167 v168 v169 v170 v171 v172 v173 v174 v175 v176 v177 v178 v179 v180 v181 v182 v183 v184 v185 v186 v187 v188 v189 v190 v191 v192 v193 v194 v195 v196 v197 v198 : Value} (hsz : s.size = 2048) (HS : Hid (RS w b2 b4 b5 (dTy (bt s 0)) W)) (HB : Hid (Blk W b8 r.cells 25)) (h58 : b5 < b8)
    (HBO : Hid (sPm (sRt (sPl (sPs (sSp (sZn (sVo (dTy (bt s 0)) x0 x1 x2 x3 x4 (le2 s 124) (le2 s 120) t) z) (le4 s 80)) (le4 s 132)) (le4 s 140)) r) (be4 s 148) = bodyD s))
    (HG : Hid (goodD s = decide (chkD (bodyD s) = 0))) (HSUP : Hid (decD s = if goodD s = true then (bodyD s, 0) else (DR.zero, 10))) : Code.wp Tryz.prog ((Tryz.f18.body.bind (tailAt 33)).getD .skip) (bodyPost Tryz.prog Tryz.f18 (DecDP s w)) ⟨#[.string s, v1, .pointer (some ⟨b2, 0, none⟩), v3, .pointer (some ⟨b4, 0, none⟩), .pointer (some ⟨b5, 0, none⟩), v6, v7, .pointer (some ⟨b8, 0, none⟩), v9, v10, .string x0, v12, .string x1, v14, .string x2, v16, .string x3, v18, .string x4, v20, .int .i64 t, .int .i64 z, v23, v24, v25, v26, v27, v28, v29, v30, v31, v32, v33, v34, v35, v36, v37, v38, v39, v40, v41, v42, v43, v44, v45, v46, v47, v48, v49, v50, v51, v52, v53, v54, v55, v56, v57, v58, v59, v60, v61, v62, v63, v64, v65, v66, v67, v68, v69, v70, v71, v72, v73, v74, v75, v76, v77, v78, v79, v80, v81, v82, v83, v84, v85, v86, v87, v88, v89, v90, v91, v92, v93, v94, v95, v96, v97, v98, v99, v100, v101, v102, v103, v104, v105, v106, v107, v108, v109, v110, v111, v112, v113, v114, v115, v116, v117, v118, v119, v120, v121, v122, v123, v124, v125, v126, v127, v128, v129, v130, v131, v132, v133, v134, v135, v136, v137, v138, v139, v140, v141, v142, v143, v144, v145, v146, v147, v148, v149, v150, v151, v152, v153, v154, v155, v156, v157, v158, v159, v160, v161, v162, v163, v164, v165, v166, v167, v168, v169, v170, v171, v172, v173, v174, v175, v176, v177, v178, v179, v180, v181, v182, v183, v184, v185, v186, v187, v188, v189, v190, v191, v192, v193, v194, v195, v196, v197, v198], []⟩ W := by
  conv => arg 2; whnf
  dsimp only
  have N124 : Hid (∀ W : World, Calls Tryz.prog 60 #[.string s, .int .i64 124, .int .i64 2] W fun e w' => e = .returned (.int .i64 (le2 s 124)) ∧ W = w') := hide (fun W => rlit2 s 124 (by omega) (by omega) W)
  have N120 : Hid (∀ W : World, Calls Tryz.prog 60 #[.string s, .int .i64 120, .int .i64 2] W fun e w' => e = .returned (.int .i64 (le2 s 120)) ∧ W = w') := hide (fun W => rlit2 s 120 (by omega) (by omega) W)
  have N80 : Hid (∀ W : World, Calls Tryz.prog 60 #[.string s, .int .i64 80, .int .i64 4] W fun e w' => e = .returned (.int .i64 (le4 s 80)) ∧ W = w') := hide (fun W => rlit4 s 80 (by omega) (by omega) W)
  have N132 : Hid (∀ W : World, Calls Tryz.prog 60 #[.string s, .int .i64 132, .int .i64 4] W fun e w' => e = .returned (.int .i64 (le4 s 132)) ∧ W = w') := hide (fun W => rlit4 s 132 (by omega) (by omega) W)
  have N140 : Hid (∀ W : World, Calls Tryz.prog 60 #[.string s, .int .i64 140, .int .i64 4] W fun e w' => e = .returned (.int .i64 (le4 s 140)) ∧ W = w') := hide (fun W => rlit4 s 140 (by omega) (by omega) W)
  go_upto_region 34 with (first | (first | (go_at_call 60; (with_reducible refine (N124.out _).mono ?_); rintro e w' ⟨rfl, rfl⟩) | (go_at_call 60; (with_reducible refine (N120.out _).mono ?_); rintro e w' ⟨rfl, rfl⟩)) | (refine wpList_store_mid rfl 23 (.tmp 174) (.tmp 173) rfl b5 2 #[.string x0, .string x1, .string x2, .string x3, .string x4, .int .i64 (le2 s 124), .int .i64 (le2 s 120), .int .i64 t] rfl rfl (HS.out.d5.there (by show 2 + 8 ≤ 23; omega)) (by as_aux_lemma => kernel_rfl) (by as_aux_lemma => kernel_rfl) ?_))
  have HS1 := hide (show RS w b2 b4 b5 (sVo (dTy (bt s 0)) x0 x1 x2 x3 x4 (le2 s 124) (le2 s 120) t) (W.setCells b5 2 (#[.string x0, .string x1, .string x2, .string x3, .string x4, .int .i64 (le2 s 124), .int .i64 (le2 s 120), .int .i64 t] : Array Value).toList) from HS.out.mid _ 2 _ (pVo _ _ _ _ _ _ _ _ _))
  have HB1 := hide (show Blk (W.setCells b5 2 (#[.string x0, .string x1, .string x2, .string x3, .string x4, .int .i64 (le2 s 124), .int .i64 (le2 s 120), .int .i64 t] : Array Value).toList) b8 r.cells 25 from Blk.others (by omega) _ _ _ HB.out)
  generalize W.setCells b5 2 (#[.string x0, .string x1, .string x2, .string x3, .string x4, .int .i64 (le2 s 124), .int .i64 (le2 s 120), .int .i64 t] : Array Value).toList = W1 at *
  clear HS HB
  have f1 : ∀ o, W1.frozen? ⟨b5, o, none⟩ = false := HS1.out.d5.free
  have e10 := HS1.out.cell 10 (DR.cell_i _).2.2.2.1
  have e11 := HS1.out.cell 11 (DR.cell_i _).2.2.2.2.1
  have e12 := HS1.out.cell 12 (DR.cell_i _).2.2.2.2.2.1
  have e13 := HS1.out.cell 13 (DR.cell_i _).2.2.2.2.2.2.1
  have g0 : Blk W1.drew b8 r.cells 25 ∧ True := ⟨HB1.out, trivial⟩
  have g1 : Blk (W1.setCell ⟨b5, 10, none⟩ (.int .i64 z)).drew b8 r.cells 25 ∧ True := ⟨Blk.other (by omega) HB1.out, trivial⟩
  have g2 : Blk ((W1.setCell ⟨b5, 10, none⟩ (.int .i64 z)).setCell ⟨b5, 11, none⟩ (.int .i64 (le4 s 80))).drew b8 r.cells 25 ∧ True := ⟨Blk.other (by omega) (Blk.other (by omega) HB1.out), trivial⟩
  have g3 : Blk (((W1.setCell ⟨b5, 10, none⟩ (.int .i64 z)).setCell ⟨b5, 11, none⟩ (.int .i64 (le4 s 80))).setCell ⟨b5, 12, none⟩ (.int .i64 (le4 s 132))).drew b8 r.cells 25 ∧ True := ⟨Blk.other (by omega) (Blk.other (by omega) (Blk.other (by omega) HB1.out)), trivial⟩
  have g4 : Blk ((((W1.setCell ⟨b5, 10, none⟩ (.int .i64 z)).setCell ⟨b5, 11, none⟩ (.int .i64 (le4 s 80))).setCell ⟨b5, 12, none⟩ (.int .i64 (le4 s 132))).setCell ⟨b5, 13, none⟩ (.int .i64 (le4 s 140))).drew b8 r.cells 25 ∧ True := ⟨Blk.other (by omega) (Blk.other (by omega) (Blk.other (by omega) (Blk.other (by omega) HB1.out))), trivial⟩
  have HS2 := hide (show RS w b2 b4 b5 (sPl (sPs (sSp (sZn (sVo (dTy (bt s 0)) x0 x1 x2 x3 x4 (le2 s 124) (le2 s 120) t) z) (le4 s 80)) (le4 s 132)) (le4 s 140)) ((((W1.setCell ⟨b5, 10, none⟩ (.int .i64 z)).setCell ⟨b5, 11, none⟩ (.int .i64 (le4 s 80))).setCell ⟨b5, 12, none⟩ (.int .i64 (le4 s 132))).setCell ⟨b5, 13, none⟩ (.int .i64 (le4 s 140))).drew from ((((HS1.out.set _ 10 _ (pZn _ _)).set _ 11 _ (pSp _ _)).set _ 12 _ (pPs _ _)).set _ 13 _ (pPl _ _)).drew)
  have g5 : Blk (((((W1.setCell ⟨b5, 10, none⟩ (.int .i64 z)).setCell ⟨b5, 11, none⟩ (.int .i64 (le4 s 80))).setCell ⟨b5, 12, none⟩ (.int .i64 (le4 s 132))).setCell ⟨b5, 13, none⟩ (.int .i64 (le4 s 140))).drew.setCells b5 15 r.cells.toList) b8 r.cells 25 ∧ True := ⟨Blk.others (by omega) _ _ _ g4.1, trivial⟩
  have HS3 := hide (HS2.out.mid _ 15 r.cells.toList (pRt _ _))
  clear HS1 HB1
  refine wp_region_noPanic ?_
  refine wp_region_held_drew (S := (fun x => Blk x b8 r.cells 25 ∧ True)) (by kernel_rfl) kp (fun hHeld => ?_)
  refine tkY 0 ⟨some 175, .move (.tmp 22), 3, "ref.go:173", #[], none⟩ ?_ ?_ ?_
  rotate_left
  · intro w hSw; (try dsimp only at hSw); go_simp; (try with_reducible rfl)
  try simp only [PT]
  refine tkY 1 ⟨some 176, .move (.tmp 0), 9, "ref.go:173", #[], none⟩ ?_ ?_ ?_
  rotate_left
  · intro w hSw; (try dsimp only at hSw); go_simp; (try with_reducible rfl)
  try simp only [PT]
  refine tkY 3 ⟨some 178, .move (.tmp 0), 9, "ref.go:173", #[], none⟩ ?_ ?_ ?_
  rotate_left
  · intro w hSw; (try dsimp only at hSw); go_simp; (try with_reducible rfl)
  try simp only [PT]
  refine tkY 5 ⟨some 180, .move (.tmp 0), 9, "ref.go:173", #[], none⟩ ?_ ?_ ?_
  rotate_left
  · intro w hSw; (try dsimp only at hSw); go_simp; (try with_reducible rfl)
  try simp only [PT]
  refine tkY 7 ⟨some 182, .load 25 (.tmp 8), 25, "ref.go:173", #[⟨15, .gcOnly .lateStores⟩], none⟩ ?_ ?_ ?_
  rotate_left
  · intro w hSw; (try dsimp only at hSw); refine (exec_load_row 25 (.tmp 8) (by rfl) b8 (by rfl) 25 r.cells (0, 0) _ hSw.1 Tryz.underlying25 (by rfl) (by as_aux_lemma => kernel_rfl)).trans ?_; with_reducible rfl
  try simp only [PT]
  refine tkY 8 ⟨some 183, .fieldAddr 27 (.tmp 5) 3, 0, "ref.go:173", #[⟨0, .phase⟩, ⟨1, .textOnly .lateStores⟩, ⟨2, .textOnly .lateStoresUnsure⟩, ⟨3, .textOnly .lateStores⟩, ⟨4, .textOnly .lateStoresUnsure⟩, ⟨5, .textOnly .lateStores⟩, ⟨6, .textOnly .lateStoresUnsure⟩, ⟨7, .textOnly .lateStores⟩], none⟩ ?_ ?_ ?_
  rotate_left
  · intro w hSw; (try dsimp only at hSw); go_simp; (try with_reducible rfl)
  try simp only [PT]
  refine wpAnyH_ready (rs := [2]) (by kernel_rfl) (by simp) ?_
  refine AllReadyH.cons (o := ⟨some 177, .call ⟨.value (.func 60), #[.tmp 176, .const (.int .i64 80), .const (.int .i64 4)], #[9, 3, 3]⟩, 3, "ref.go:173", #[⟨1, .data⟩], none⟩) rfl (fun K hK => ?_) AllReadyH.nil
  go_simp
  (first | (go_at_call 60; (with_reducible refine (N80.out _).mono ?_); rintro e w' ⟨rfl, rfl⟩) | (go_at_call 60; (with_reducible refine (N132.out _).mono ?_); rintro e w' ⟨rfl, rfl⟩) | (go_at_call 60; (with_reducible refine (N140.out _).mono ?_); rintro e w' ⟨rfl, rfl⟩))
  go_wp2_with fail
  refine hK.out _ _ kp (fun hHeld => ?_)
  clear hK K
  try simp only [PT]
  refine wpAnyH_ready (rs := [4]) (by kernel_rfl) (by simp) ?_
  refine AllReadyH.cons (o := ⟨some 179, .call ⟨.value (.func 60), #[.tmp 178, .const (.int .i64 132), .const (.int .i64 4)], #[9, 3, 3]⟩, 3, "ref.go:173", #[⟨3, .data⟩, ⟨2, .chain⟩], none⟩) rfl (fun K hK => ?_) AllReadyH.nil
  go_simp
  (first | (go_at_call 60; (with_reducible refine (N80.out _).mono ?_); rintro e w' ⟨rfl, rfl⟩) | (go_at_call 60; (with_reducible refine (N132.out _).mono ?_); rintro e w' ⟨rfl, rfl⟩) | (go_at_call 60; (with_reducible refine (N140.out _).mono ?_); rintro e w' ⟨rfl, rfl⟩))
  go_wp2_with fail
  refine hK.out _ _ kp (fun hHeld => ?_)
  clear hK K
  try simp only [PT]
  refine wpAnyH_ready (rs := [6]) (by kernel_rfl) (by simp) ?_
  refine AllReadyH.cons (o := ⟨some 181, .call ⟨.value (.func 60), #[.tmp 180, .const (.int .i64 140), .const (.int .i64 4)], #[9, 3, 3]⟩, 3, "ref.go:173", #[⟨5, .data⟩, ⟨4, .chain⟩], none⟩) rfl (fun K hK => ?_) AllReadyH.nil
  go_simp
  (first | (go_at_call 60; (with_reducible refine (N80.out _).mono ?_); rintro e w' ⟨rfl, rfl⟩) | (go_at_call 60; (with_reducible refine (N132.out _).mono ?_); rintro e w' ⟨rfl, rfl⟩) | (go_at_call 60; (with_reducible refine (N140.out _).mono ?_); rintro e w' ⟨rfl, rfl⟩))
  go_wp2_with fail
  refine hK.out _ _ kp (fun hHeld => ?_)
  clear hK K
  try simp only [PT]
  refine wpAnyH_ready (rs := [9]) (by kernel_rfl) (by simp) ?_
  refine AllReadyH.cons (o := ⟨none, .store 3 (.tmp 183) (.tmp 175), 0, "ref.go:173", #[⟨8, .data⟩, ⟨0, .data⟩, ⟨6, .chain⟩, ⟨0, .phase⟩, ⟨1, .textOnly .lateStores⟩, ⟨2, .textOnly .lateStoresUnsure⟩, ⟨3, .textOnly .lateStores⟩, ⟨4, .textOnly .lateStoresUnsure⟩, ⟨5, .textOnly .lateStores⟩, ⟨6, .textOnly .lateStoresUnsure⟩, ⟨7, .textOnly .lateStores⟩], none⟩) rfl (fun K hK => ?_) AllReadyH.nil
  go_simp
  refine hK.out _ _ kp (fun hHeld => ?_)
  clear hK K
  try simp only [PT]
  refine tkY 10 ⟨some 184, .fieldAddr 27 (.tmp 5) 4, 0, "ref.go:173", #[⟨0, .phase⟩, ⟨1, .phase⟩, ⟨2, .phase⟩, ⟨3, .textOnly .lateStores⟩, ⟨4, .textOnly .lateStoresUnsure⟩, ⟨5, .textOnly .lateStores⟩, ⟨6, .textOnly .lateStoresUnsure⟩, ⟨7, .textOnly .lateStores⟩, ⟨8, .phase⟩, ⟨9, .phase⟩], none⟩ ?_ ?_ ?_
  rotate_left
  · intro w hSw; (try dsimp only at hSw); go_simp; (try with_reducible rfl)
  try simp only [PT]
  refine wpAnyH_ready (rs := [11]) (by kernel_rfl) (by simp) ?_
  refine AllReadyH.cons (o := ⟨none, .store 3 (.tmp 184) (.tmp 177), 0, "ref.go:173", #[⟨10, .data⟩, ⟨2, .data⟩, ⟨9, .chain⟩, ⟨0, .phase⟩, ⟨1, .phase⟩, ⟨2, .phase⟩, ⟨3, .textOnly .lateStores⟩, ⟨4, .textOnly .lateStoresUnsure⟩, ⟨5, .textOnly .lateStores⟩, ⟨6, .textOnly .lateStoresUnsure⟩, ⟨7, .textOnly .lateStores⟩, ⟨8, .phase⟩, ⟨9, .phase⟩], none⟩) rfl (fun K hK => ?_) AllReadyH.nil
  go_simp
  refine hK.out _ _ kp (fun hHeld => ?_)
  clear hK K
  try simp only [PT]
  refine tkY 12 ⟨some 185, .fieldAddr 27 (.tmp 5) 5, 0, "ref.go:173", #[⟨0, .phase⟩, ⟨1, .phase⟩, ⟨2, .phase⟩, ⟨3, .phase⟩, ⟨4, .phase⟩, ⟨5, .textOnly .lateStores⟩, ⟨6, .textOnly .lateStoresUnsure⟩, ⟨7, .textOnly .lateStores⟩, ⟨8, .phase⟩, ⟨9, .phase⟩, ⟨10, .phase⟩, ⟨11, .phase⟩], none⟩ ?_ ?_ ?_
  rotate_left
  · intro w hSw; (try dsimp only at hSw); go_simp; (try with_reducible rfl)
  try simp only [PT]
  refine wpAnyH_ready (rs := [13]) (by kernel_rfl) (by simp) ?_
  refine AllReadyH.cons (o := ⟨none, .store 3 (.tmp 185) (.tmp 179), 0, "ref.go:173", #[⟨12, .data⟩, ⟨4, .data⟩, ⟨11, .chain⟩, ⟨0, .phase⟩, ⟨1, .phase⟩, ⟨2, .phase⟩, ⟨3, .phase⟩, ⟨4, .phase⟩, ⟨5, .textOnly .lateStores⟩, ⟨6, .textOnly .lateStoresUnsure⟩, ⟨7, .textOnly .lateStores⟩, ⟨8, .phase⟩, ⟨9, .phase⟩, ⟨10, .phase⟩, ⟨11, .phase⟩], none⟩) rfl (fun K hK => ?_) AllReadyH.nil
  go_simp
  refine hK.out _ _ kp (fun hHeld => ?_)
  clear hK K
  try simp only [PT]
  refine tkY 14 ⟨some 186, .fieldAddr 27 (.tmp 5) 6, 0, "ref.go:173", #[⟨0, .phase⟩, ⟨1, .phase⟩, ⟨2, .phase⟩, ⟨3, .phase⟩, ⟨4, .phase⟩, ⟨5, .phase⟩, ⟨6, .phase⟩, ⟨7, .textOnly .lateStores⟩, ⟨8, .phase⟩, ⟨9, .phase⟩, ⟨10, .phase⟩, ⟨11, .phase⟩, ⟨12, .phase⟩, ⟨13, .phase⟩], none⟩ ?_ ?_ ?_
  rotate_left
  · intro w hSw; (try dsimp only at hSw); go_simp; (try with_reducible rfl)
  try simp only [PT]
  refine wpAnyH_ready (rs := [15]) (by kernel_rfl) (by simp) ?_
  refine AllReadyH.cons (o := ⟨none, .store 3 (.tmp 186) (.tmp 181), 0, "ref.go:173", #[⟨14, .data⟩, ⟨6, .data⟩, ⟨13, .chain⟩, ⟨0, .phase⟩, ⟨1, .phase⟩, ⟨2, .phase⟩, ⟨3, .phase⟩, ⟨4, .phase⟩, ⟨5, .phase⟩, ⟨6, .phase⟩, ⟨7, .textOnly .lateStores⟩, ⟨8, .phase⟩, ⟨9, .phase⟩, ⟨10, .phase⟩, ⟨11, .phase⟩, ⟨12, .phase⟩, ⟨13, .phase⟩], none⟩) rfl (fun K hK => ?_) AllReadyH.nil
  go_simp
  refine hK.out _ _ kp (fun hHeld => ?_)
  clear hK K
  try simp only [PT]
  refine tkY 16 ⟨some 187, .fieldAddr 27 (.tmp 5) 8, 0, "ref.go:173", #[⟨0, .phase⟩, ⟨1, .phase⟩, ⟨2, .phase⟩, ⟨3, .phase⟩, ⟨4, .phase⟩, ⟨5, .phase⟩, ⟨6, .phase⟩, ⟨7, .phase⟩, ⟨8, .phase⟩, ⟨9, .phase⟩, ⟨10, .phase⟩, ⟨11, .phase⟩, ⟨12, .phase⟩, ⟨13, .phase⟩, ⟨14, .phase⟩, ⟨15, .phase⟩], none⟩ ?_ ?_ ?_
  rotate_left
  · intro w hSw; (try dsimp only at hSw); go_simp; (try with_reducible rfl)
  try simp only [PT]
  refine wpAnyH_ready (rs := [17]) (by kernel_rfl) (by simp) ?_
  refine AllReadyH.cons (o := ⟨none, .store 25 (.tmp 187) (.tmp 182), 0, "ref.go:173", #[⟨16, .data⟩, ⟨7, .data⟩, ⟨15, .chain⟩, ⟨0, .phase⟩, ⟨1, .phase⟩, ⟨2, .phase⟩, ⟨3, .phase⟩, ⟨4, .phase⟩, ⟨5, .phase⟩, ⟨6, .phase⟩, ⟨7, .phase⟩, ⟨8, .phase⟩, ⟨9, .phase⟩, ⟨10, .phase⟩, ⟨11, .phase⟩, ⟨12, .phase⟩, ⟨13, .phase⟩, ⟨14, .phase⟩, ⟨15, .phase⟩], none⟩) rfl (fun K hK => ?_) AllReadyH.nil
  refine step_store_mid (by rfl) 25 (.tmp 187) (.tmp 182) (by rfl) b5 15 r.cells (by rfl) (by rfl) (HS2.out.d5.there (by show 15 + 8 ≤ 23; omega)) (by as_aux_lemma => kernel_rfl) (by as_aux_lemma => kernel_rfl) ?_
  refine hK.out _ _ kp (fun hHeld => ?_)
  clear hK K
  try simp only [PT]
  refine wpAnyH_done (by kernel_rfl) ?_ _
  refine NoPanic.normal ?_
  have RB := hide (fun W => rreadB4 s 148 (by omega) (by omega) W)
  have CK := hide (fun W => rcheck_any (bodyD s) (body_short s) W)
  generalize ((((W1.setCell ⟨b5, 10, none⟩ (.int .i64 z)).setCell ⟨b5, 11, none⟩ (.int .i64 (le4 s 80))).setCell ⟨b5, 12, none⟩ (.int .i64 (le4 s 132))).setCell ⟨b5, 13, none⟩ (.int .i64 (le4 s 140))).drew.setCells b5 15 r.cells.toList = W3 at *
  clear f1 e10 e11 e12 e13 g0 g1 g2 g3 g4 g5 HS2
  go_upto_region 36 with (go_at_call 64; refine (RB.out _).mono ?_; rintro e w9 ⟨rfl, hb9⟩; have HS9 := hide (HS3.out.below hb9); have f9 : ∀ o, w9.frozen? ⟨b5, o, none⟩ = false := HS9.out.d5.free; have e14 := HS9.out.cell 14 (DR.cell_i _).2.2.2.2.2.2.2)
  have hS10 := HS9.out.set _ 14 _ (pPm _ (be4 s 148))
  rw [HBO.out] at hS10
  generalize w9.setCell ⟨b5, 14, none⟩ (.int .i64 (be4 s 148)) = W10 at *
  have HS10 := hide hS10
  clear hS10 HS9 HS3 f9 e14 hb9 HBO RB
  by_cases h4 : chkD (bodyD s) = 0
  case neg =>
    have q : (chkD (bodyD s) != 0) = true := by simpa using h4
    have HD := hide (show decD s = (DR.zero, 10) from by rw [HSUP.out, HG.out, decide_eq_false h4]; rfl)
    clear h4
    go_upto_region 37 with (first | (refine wpList_load_row rfl 27 (.tmp 5) rfl b5 rfl 27 (bodyD s : DR).cells (0, 0) _ HS10.out.d5 Tryz.underlying27 rfl (info27 _) ?_) | (go_at_call 16; refine (CK.out _).mono ?_; rintro e w11 ⟨rfl, hb11⟩))
    have HS11 := hide (HS10.out.below hb11)
    go_wp2_with (first | (refine wpList_load_row rfl 27 (.tmp 4) rfl b4 rfl 27 (DR.zero : DR).cells (0, 0) _ HS11.out.n4 Tryz.underlying27 rfl (info27 _) ?_) | (refine wpList_store_row rfl 27 (.tmp 2) (.tmp 197) rfl b2 (DR.zero : DR).cells rfl rfl 27 _ HS11.out.r2 (info27 _) (size27 _ _) (one27 _) ?_))
    (try simp only [Exit.inBlock, Exit.then])
    exact rdec_ret _ rfl rfl rfl (RZ.of HS11.out).1 HD.out (RZ.of HS11.out).2
  case pos =>
    have q : (chkD (bodyD s) != 0) = false := by simpa using h4
    have HD := hide (show decD s = (bodyD s, 0) from by rw [HSUP.out, HG.out, decide_eq_true h4]; rfl)
    clear h4
    go_upto_region 38 with (first | (refine wpList_load_row rfl 27 (.tmp 5) rfl b5 rfl 27 (bodyD s : DR).cells (0, 0) _ HS10.out.d5 Tryz.underlying27 rfl (info27 _) ?_) | (go_at_call 16; refine (CK.out _).mono ?_; rintro e w11 ⟨rfl, hb11⟩))
    have HS11 := hide (HS10.out.below hb11)
    go_wp2_with (first | (refine wpList_load_row rfl 27 (.tmp 5) rfl b5 rfl 27 (bodyD s : DR).cells (0, 0) _ HS11.out.d5 Tryz.underlying27 rfl (info27 _) ?_) | (refine wpList_store_row rfl 27 (.tmp 2) (.tmp 198) rfl b2 (bodyD s : DR).cells rfl rfl 27 _ HS11.out.r2 (info27 _) (size27 _ _) (one27 _) ?_))
    (try simp only [Exit.inBlock, Exit.then])
    exact rdec_ret _ rfl rfl rfl (show Blk (World.setRow _ b2 (bodyD s).cells) b2 (bodyD s).cells 27 from HS11.out.r2.setRow) HD.out (below_setRow' HS11.out.bel HS11.out.l1 _)
end Go.Proofs.YtjbhokmkmapkoaaGreatDoor
namespace Go.Proofs.YtjbhokmkmapkoaaGreatDoor
set_option linter.unusedSimpArgs false
set_option linter.unusedVariables false
open Go.RowKit
open Go.PlainAid (bt get_bt bt_nonneg bt_le bt_end)
set_option maxRecDepth 100000 in
set_option maxHeartbeats 8000000 in
theorem rdec_t22 {s : ByteArray} {w W : World} {b2 b4 b5 : Nat} {v1 v3 v7 v8 v9 v10 v11 v12 v13 v14 v15 v16 v17 v18 v19 v20 v21 v22 v23 v24 v25 v26 v27 v28 v29 v30 v31 v32 v33 v34 v35 v36 v37 v38 v39 v40 v41 v42 v43 v44 v45 v46 v47 v48 v49 v50 v51 v52 v53 v54 v55 v56 v57 v58 v59 v60 v61 v62 v63 v64 v65 v66 v67 v68 v69 v70 v71 v72 v73 v74 v75 v76 v77 v78 v79 v80 v81 v82 v83 v84 v85 v86 v87 v88 v89 v90 v91 v92 v93 v94 v95 v96 v97 v98 v99 v100 v101 v102 v103 v104 v105 v106 v107 v108 v109 v110 v111 v112 v113 v114 v115 v116 v117 v118 v119 v120 v121 v122 v123 v124 v125 v126 v127 v128 v129 v130 v131 v132 v133 v134 v135 v136 v137 v138 v139 v140 v141 v142 v143 v144 v145 v146 v147 v148 v149 v150 v151 v152 v153 v154 v155 v156 v157 v158 v159 v160 v161 v162 v163 v164 v165 v166 v167 v168 v169 v170 v171 v172 v173 v174 v175 v176 v177 v178 v179 v180 v181 v182 v183 v184 v185 v186 v187 v188 v189 v190 v191 v192 v193 v194 v195 v196 v197 v198 : Value} (hsz : s.size = 2048) (HS : Hid (RS w b2 b4 b5 (dTy (bt s 0)) W)) (HSUP : Hid (decD s = if goodD s = true then (bodyD s, 0) else (DR.zero, 10))) : Code.wp Tryz.prog ((Tryz.f18.body.bind (tailAt 22)).getD .skip) (bodyPost Tryz.prog Tryz.f18 (DecDP s w)) ⟨#[.string s, v1, .pointer (some ⟨b2, 0, none⟩), v3, .pointer (some ⟨b4, 0, none⟩), .pointer (some ⟨b5, 0, none⟩), .bool (w2B s), v7, v8, v9, v10, v11, v12, v13, v14, v15, v16, v17, v18, v19, v20, v21, v22, v23, v24, v25, v26, v27, v28, v29, v30, v31, v32, v33, v34, v35, v36, v37, v38, v39, v40, v41, v42, v43, v44, v45, v46, v47, v48, v49, v50, v51, v52, v53, v54, v55, v56, v57, v58, v59, v60, v61, v62, v63, v64, v65, v66, v67, v68, v69, v70, v71, v72, v73, v74, v75, v76, v77, v78, v79, v80, v81, v82, v83, v84, v85, v86, v87, v88, v89, v90, v91, v92, v93, v94, v95, v96, v97, v98, v99, v100, v101, v102, v103, v104, v105, v106, v107, v108, v109, v110, v111, v112, v113, v114, v115, v116, v117, v118, v119, v120, v121, v122, v123, v124, v125, v126, v127, v128, v129, v130, v131, v132, v133, v134, v135, v136, v137, v138, v139, v140, v141, v142, v143, v144, v145, v146, v147, v148, v149, v150, v151, v152, v153, v154, v155, v156, v157, v158, v159, v160, v161, v162, v163, v164, v165, v166, v167, v168, v169, v170, v171, v172, v173, v174, v175, v176, v177, v178, v179, v180, v181, v182, v183, v184, v185, v186, v187, v188, v189, v190, v191, v192, v193, v194, v195, v196, v197, v198], []⟩ W := by
  conv => arg 2; whnf
  dsimp only
  have z190 : 190 ≤ s.size := by omega
  have z830 : 830 ≤ s.size := by omega
  have hxs : (s.extract 156 190).size = 34 := by rw [ByteArray.size_extract]; omega
  have DD0 := fun W => rdirDec_any (s.extract 156 190) hxs W
  obtain ⟨r, n, er, hr⟩ := triple_of (decR (s.extract 156 190))
  unfold DecP at DD0
  rw [hr] at DD0
  dsimp only at DD0
  have DD := hide DD0
  have RD0 := fun W => rrdT_any (s.extract 813 830) W
  obtain ⟨t, z, fr, ht⟩ := trip3 (rdT (s.extract 813 830))
  unfold TimP at RD0
  rw [ht] at RD0
  dsimp only at RD0
  have RD := hide RD0
  have hbody := rbody_all hr ht
  have hgood := rgood_of hr ht
  obtain ⟨x0, hx0⟩ : ∃ x, txtS (w2B s) (s.extract 40 72) = x := ⟨_, rfl⟩
  obtain ⟨k0, hk0⟩ : ∃ k, txtB (w2B s) (s.extract 40 72) = k := ⟨_, rfl⟩
  obtain ⟨x1, hx1⟩ : ∃ x, txtS (w2B s) (s.extract 190 318) = x := ⟨_, rfl⟩
  obtain ⟨k1, hk1⟩ : ∃ k, txtB (w2B s) (s.extract 190 318) = k := ⟨_, rfl⟩
  obtain ⟨x2, hx2⟩ : ∃ x, txtS (w2B s) (s.extract 318 446) = x := ⟨_, rfl⟩
  obtain ⟨k2, hk2⟩ : ∃ k, txtB (w2B s) (s.extract 318 446) = k := ⟨_, rfl⟩
  obtain ⟨x3, hx3⟩ : ∃ x, txtS (w2B s) (s.extract 446 574) = x := ⟨_, rfl⟩
  obtain ⟨k3, hk3⟩ : ∃ k, txtB (w2B s) (s.extract 446 574) = k := ⟨_, rfl⟩
  obtain ⟨x4, hx4⟩ : ∃ x, txtS (w2B s) (s.extract 574 702) = x := ⟨_, rfl⟩
  obtain ⟨k4, hk4⟩ : ∃ k, txtB (w2B s) (s.extract 574 702) = k := ⟨_, rfl⟩
  rw [hx0, hx1, hx2, hx3, hx4] at hbody
  rw [hk0, hk1, hk2, hk3, hk4] at hgood
  have TX0 := hide (fun W => show Calls Tryz.prog 62 #[.string (s.extract 40 72), .bool (w2B s)] W fun e w' => e = .returned (.tuple #[.string x0, .bool k0]) ∧ Below W.heap.size W w' from by rw [← hx0, ← hk0]; exact rtext_any (s.extract 40 72) (w2B s) (by rw [ByteArray.size_extract]; omega) W)
  have TX1 := hide (fun W => show Calls Tryz.prog 62 #[.string (s.extract 190 318), .bool (w2B s)] W fun e w' => e = .returned (.tuple #[.string x1, .bool k1]) ∧ Below W.heap.size W w' from by rw [← hx1, ← hk1]; exact rtext_any (s.extract 190 318) (w2B s) (by rw [ByteArray.size_extract]; omega) W)
  have TX2 := hide (fun W => show Calls Tryz.prog 62 #[.string (s.extract 318 446), .bool (w2B s)] W fun e w' => e = .returned (.tuple #[.string x2, .bool k2]) ∧ Below W.heap.size W w' from by rw [← hx2, ← hk2]; exact rtext_any (s.extract 318 446) (w2B s) (by rw [ByteArray.size_extract]; omega) W)
  have TX3 := hide (fun W => show Calls Tryz.prog 62 #[.string (s.extract 446 574), .bool (w2B s)] W fun e w' => e = .returned (.tuple #[.string x3, .bool k3]) ∧ Below W.heap.size W w' from by rw [← hx3, ← hk3]; exact rtext_any (s.extract 446 574) (w2B s) (by rw [ByteArray.size_extract]; omega) W)
  have TX4 := hide (fun W => show Calls Tryz.prog 62 #[.string (s.extract 574 702), .bool (w2B s)] W fun e w' => e = .returned (.tuple #[.string x4, .bool k4]) ∧ Below W.heap.size W w' from by rw [← hx4, ← hk4]; exact rtext_any (s.extract 574 702) (w2B s) (by rw [ByteArray.size_extract]; omega) W)
  have HBO := hide hbody
  have HG := hide hgood
  clear DD0 RD0 hr ht hxs hbody hgood hx0 hx1 hx2 hx3 hx4 hk0 hk1 hk2 hk3 hk4
  go_upto_region 23 with (first | (go_at_call 61; refine (DD.out _).mono ?_; rintro e w6 ⟨rfl, hb6⟩) | (refine wpList_store_new rfl 25 (.tmp 8) (.tmp 88) rfl r.cells rfl rfl 25 _ (by as_aux_lemma => kernel_rfl) rfl (by as_aux_lemma => kernel_rfl) ?_))
  have HS8 := hide ((HS.out.below hb6).alloc (.cells r.cells 25))
  have HB8 := hide (show Blk (w6.alloc (.cells r.cells 25)) w6.heap.size r.cells 25 from Blk.newAt rfl)
  have h58 : b5 < w6.heap.size := (HS.out.below hb6).bl
  generalize w6.alloc (.cells r.cells 25) = W6 at *
  generalize w6.heap.size = b8 at *
  clear hb6 HS DD
  by_cases h1 : er = 0
  case neg =>
    have q1 : (er != 0) = true := by simpa using h1
    have HD := hide (show decD s = (DR.zero, 10) from by rw [HSUP.out, HG.out, decide_eq_false h1]; simp)
    clear h1
    as_aux_lemma =>
      go_wp2_with (first | (refine wpList_load_row rfl 27 (.tmp 4) rfl b4 rfl 27 (DR.zero : DR).cells (0, 0) _ HS8.out.n4 Tryz.underlying27 rfl (info27 _) ?_) | (refine wpList_store_row rfl 27 (.tmp 2) (.tmp 97) rfl b2 (DR.zero : DR).cells rfl rfl 27 _ HS8.out.r2 (info27 _) (size27 _ _) (one27 _) ?_))
      (try simp only [Exit.inBlock, Exit.then])
      exact rdec_ret _ rfl rfl rfl (RZ.of HS8.out).1 HD.out (RZ.of HS8.out).2
  case pos =>
  have q1 : (er != 0) = false := by simpa using h1
  by_cases h2 : n = 34
  case neg =>
    have q2 : (n != 34) = true := by simpa using h2
    have HD := hide (show decD s = (DR.zero, 10) from by rw [HSUP.out, HG.out, decide_eq_false h2]; simp)
    clear h1 h2
    as_aux_lemma =>
      go_wp2_with (first | (refine wpList_load_row rfl 27 (.tmp 4) rfl b4 rfl 27 (DR.zero : DR).cells (0, 0) _ HS8.out.n4 Tryz.underlying27 rfl (info27 _) ?_) | (refine wpList_store_row rfl 27 (.tmp 2) (.tmp 97) rfl b2 (DR.zero : DR).cells rfl rfl 27 _ HS8.out.r2 (info27 _) (size27 _ _) (one27 _) ?_))
      (try simp only [Exit.inBlock, Exit.then])
      exact rdec_ret _ rfl rfl rfl (RZ.of HS8.out).1 HD.out (RZ.of HS8.out).2
  case pos =>
  have q2 : (n != 34) = false := by simpa using h2
  have HG2 := HG.out
  rw [decide_eq_true h1, decide_eq_true h2] at HG2
  replace HG := hide HG2
  clear h1 h2 HG2
  go_upto_region 25 with fail
  go_upto_region 26 with (go_at_call 62; refine (TX0.out _).mono ?_; rintro e wt0 ⟨rfl, hbt0⟩)
  have HS60 := hide (HS8.out.below hbt0)
  have HB60 := hide (Blk.below hbt0 HB8.out)
  clear hbt0 HS8 HB8 TX0
  go_upto_region 27 with (go_at_call 62; refine (TX1.out _).mono ?_; rintro e wt1 ⟨rfl, hbt1⟩)
  have HS61 := hide (HS60.out.below hbt1)
  have HB61 := hide (Blk.below hbt1 HB60.out)
  clear hbt1 HS60 HB60 TX1
  go_upto_region 28 with (go_at_call 62; refine (TX2.out _).mono ?_; rintro e wt2 ⟨rfl, hbt2⟩)
  have HS62 := hide (HS61.out.below hbt2)
  have HB62 := hide (Blk.below hbt2 HB61.out)
  clear hbt2 HS61 HB61 TX2
  go_upto_region 29 with (go_at_call 62; refine (TX3.out _).mono ?_; rintro e wt3 ⟨rfl, hbt3⟩)
  have HS63 := hide (HS62.out.below hbt3)
  have HB63 := hide (Blk.below hbt3 HB62.out)
  clear hbt3 HS62 HB62 TX3
  go_upto_region 30 with (go_at_call 62; refine (TX4.out _).mono ?_; rintro e wt4 ⟨rfl, hbt4⟩)
  have HS64 := hide (HS63.out.below hbt4)
  have HB64 := hide (Blk.below hbt4 HB63.out)
  clear hbt4 HS63 HB63 TX4
  go_upto_region 31 with (go_at_call 63; refine (RD.out _).mono ?_; rintro e w7 ⟨rfl, hb7⟩)
  have HS7 := hide (HS64.out.below hb7)
  have HB7 := hide (Blk.below hb7 HB64.out)
  clear hb7 HS64 HB64 RD
  rename_i K31 hK31 Kc hKc
  go_cut [12, 14, 16, 18, 20, 161] (fun a12 a14 a16 a18 a20 v wx => v = .bool (!(k0 && k1 && k2 && k3 && k4 && decide (fr = 0))) ∧ w7 = wx)
  case first =>
    cases k0
    case false =>
      go_wp2_with fail
      go_meet
      exact ⟨vbool (by simp), rfl⟩
    case true =>
    cases k1
    case false =>
      go_wp2_with fail
      go_meet
      exact ⟨vbool (by simp), rfl⟩
    case true =>
    cases k2
    case false =>
      go_wp2_with fail
      go_meet
      exact ⟨vbool (by simp), rfl⟩
    case true =>
    cases k3
    case false =>
      go_wp2_with fail
      go_meet
      exact ⟨vbool (by simp), rfl⟩
    case true =>
    cases k4
    case false =>
      go_wp2_with fail
      go_meet
      exact ⟨vbool (by simp), rfl⟩
    case true =>
    by_cases hf : fr = 0
    · have qf : (fr != 0) = false := by simpa using hf
      have G := hide (show (true && true && true && true && true && decide (fr = 0)) = true from by rw [decide_eq_true hf]; rfl)
      clear hf
      go_wp2_with fail
      go_meet
      exact ⟨vbool (by rw [G.out]; rfl), rfl⟩
    · have qf : (fr != 0) = true := by simpa using hf
      have G := hide (show (true && true && true && true && true && decide (fr = 0)) = false from by rw [decide_eq_false hf]; rfl)
      clear hf
      go_wp2_with fail
      go_meet
      exact ⟨vbool (by rw [G.out]; rfl), rfl⟩
  case rest =>
  obtain ⟨rfl, rfl⟩ := hcut
  cases hall : (k0 && k1 && k2 && k3 && k4 && decide (fr = 0))
  case false =>
    have HD := hide (show decD s = (DR.zero, 10) from by rw [HSUP.out, HG.out, hall]; simp)
    clear hall
    as_aux_lemma =>
      go_wp2_with (first | (refine wpList_load_row rfl 27 (.tmp 4) rfl b4 rfl 27 (DR.zero : DR).cells (0, 0) _ HS7.out.n4 Tryz.underlying27 rfl (info27 _) ?_) | (refine wpList_store_row rfl 27 (.tmp 2) (.tmp 162) rfl b2 (DR.zero : DR).cells rfl rfl 27 _ HS7.out.r2 (info27 _) (size27 _ _) (one27 _) ?_))
      (try simp only [Exit.inBlock, Exit.then])
      exact rdec_ret _ rfl rfl rfl (RZ.of HS7.out).1 HD.out (RZ.of HS7.out).2
  case true =>
  have HG3 := HG.out
  rw [hall] at HG3
  replace HG := hide (show goodD s = decide (chkD (bodyD s) = 0) from HG3)
  clear HG3 hall
  show Kc _ _
  refine hKc _ _ (wp_cond_false rfl (wp_skip ?_))
  show K31 _ _
  refine hK31 _ _ ?_
  exact rdec_t33 hsz HS7 HB7 h58 HBO HG HSUP
end Go.Proofs.YtjbhokmkmapkoaaGreatDoor
namespace Go.Proofs.YtjbhokmkmapkoaaGreatDoor
set_option linter.unusedSimpArgs false
set_option linter.unusedVariables false
open Go.RowKit
open Go.PlainAid (bt get_bt bt_nonneg bt_le bt_end)
set_option maxRecDepth 100000 in
set_option maxHeartbeats 8000000 in
theorem rdec_t18 {s : ByteArray} {w W2 : World} {b2 b4 b5 : Nat} {v1 v3 v6 v7 v8 v9 v10 v11 v12 v13 v14 v15 v16 v17 v18 v19 v20 v21 v22 v23 v24 v25 v26 v27 v28 v29 v30 v31 v32 v33 v34 v35 v36 v37 v38 v39 v40 v41 v42 v43 v44 v45 v46 v47 v48 v49 v50 v51 v52 v53 v54 v55 v56 v57 v58 v59 v60 v61 v62 v63 v64 v65 v66 v67 v68 v69 v70 v71 v72 v73 v74 v75 v76 v77 v78 v79 v80 v81 v82 v83 v84 v85 v86 v87 v88 v89 v90 v91 v92 v93 v94 v95 v96 v97 v98 v99 v100 v101 v102 v103 v104 v105 v106 v107 v108 v109 v110 v111 v112 v113 v114 v115 v116 v117 v118 v119 v120 v121 v122 v123 v124 v125 v126 v127 v128 v129 v130 v131 v132 v133 v134 v135 v136 v137 v138 v139 v140 v141 v142 v143 v144 v145 v146 v147 v148 v149 v150 v151 v152 v153 v154 v155 v156 v157 v158 v159 v160 v161 v162 v163 v164 v165 v166 v167 v168 v169 v170 v171 v172 v173 v174 v175 v176 v177 v178 v179 v180 v181 v182 v183 v184 v185 v186 v187 v188 v189 v190 v191 v192 v193 v194 v195 v196 v197 v198 : Value} (hsz : s.size = 2048) (HST : Hid (s.extract 1 7 = stdS)) (H12 : Hid (bt s 0 = 1 ∨ bt s 0 = 2)) (HT3 : Hid (bt s 0 ≠ 255)) (T0 : Hid (bt s 0 ≠ 0)) (HS : Hid (RS w b2 b4 b5 (dTy (bt s 0)) W2)) : Code.wp Tryz.prog ((Tryz.f18.body.bind (tailAt 18)).getD .skip) (bodyPost Tryz.prog Tryz.f18 (DecDP s w)) ⟨#[.string s, v1, .pointer (some ⟨b2, 0, none⟩), v3, .pointer (some ⟨b4, 0, none⟩), .pointer (some ⟨b5, 0, none⟩), v6, v7, v8, v9, v10, v11, v12, v13, v14, v15, v16, v17, v18, v19, v20, v21, v22, v23, v24, v25, v26, v27, v28, v29, v30, v31, v32, v33, v34, v35, v36, v37, v38, v39, v40, v41, v42, v43, v44, v45, v46, v47, v48, v49, v50, v51, v52, v53, v54, v55, v56, v57, v58, v59, v60, v61, v62, v63, v64, v65, v66, v67, v68, v69, v70, v71, v72, v73, v74, v75, v76, v77, v78, v79, v80, v81, v82, v83, v84, v85, v86, v87, v88, v89, v90, v91, v92, v93, v94, v95, v96, v97, v98, v99, v100, v101, v102, v103, v104, v105, v106, v107, v108, v109, v110, v111, v112, v113, v114, v115, v116, v117, v118, v119, v120, v121, v122, v123, v124, v125, v126, v127, v128, v129, v130, v131, v132, v133, v134, v135, v136, v137, v138, v139, v140, v141, v142, v143, v144, v145, v146, v147, v148, v149, v150, v151, v152, v153, v154, v155, v156, v157, v158, v159, v160, v161, v162, v163, v164, v165, v166, v167, v168, v169, v170, v171, v172, v173, v174, v175, v176, v177, v178, v179, v180, v181, v182, v183, v184, v185, v186, v187, v188, v189, v190, v191, v192, v193, v194, v195, v196, v197, v198], []⟩ W2 := by
  conv => arg 2; whnf
  dsimp only
  have hbb := get_bt s
  have c50 : W2.cell? ⟨b5, 0, none⟩ = some (.int .i64 (bt s 0)) := HS.out.d5.cells 0
  have z91 : 91 ≤ s.size := by omega
  have n881 : 881 < s.size := by omega
  have i881 : (881 : Int) < (s.size : Int) := by omega
  go_upto_region 19 with fail
  simp only [show (bt s 0 == 2) = w2B s from rfl]
  go_upto_region 20 with fail
  have SLE : Hid (∀ W : World, Calls Tryz.prog 60 #[.string s, .int .i64 128, .int .i64 2] W fun e w' => e = .returned (.int .i64 (le2 s 128)) ∧ W = w') := hide (fun W => rlit2 s 128 (by omega) (by omega) W)
  have HUN : Hid (unsB s = decide (le2 s 128 ≠ 2048 ∨ bt s 881 ≠ 1 ∨ (bt s 0 = 2 ∧ escB s = false))) := hide (by unfold unsB; have := H12.out; exact decide_eq_decide.2 ⟨fun h => h.resolve_left (by omega), fun h => Or.inr h⟩)
  rename_i K20 hK20 Kc hKc
  go_cut [6, 7, 82] (fun v6 v7 v wx => v6 = .bool (w2B s) ∧ v = .bool (unsB s) ∧ W2 = wx)
  case first =>
    by_cases u2 : le2 s 128 = 2048
    case neg =>
      have qL : (le2 s 128 != 2048) = true := by simpa using u2
      have G := hide (show unsB s = true from by rw [HUN.out]; exact decide_eq_true (Or.inl u2))
      clear u2
      go_wp2_with (first | (go_at_call 60; (with_reducible refine (SLE.out _).mono ?_); rintro e w' ⟨rfl, rfl⟩))
      go_meet
      exact ⟨rfl, vbool (by rw [G.out]), rfl⟩
    case pos =>
    have qL : (le2 s 128 != 2048) = false := by rw [u2]; rfl
    by_cases u3 : bt s 881 = 1
    case neg =>
      have qO : (bt s 881 != 1) = true := by simpa using u3
      have G := hide (show unsB s = true from by rw [HUN.out]; exact decide_eq_true (Or.inr (Or.inl u3)))
      clear u2 u3
      go_wp2_with (first | (go_at_call 60; (with_reducible refine (SLE.out _).mono ?_); rintro e w' ⟨rfl, rfl⟩))
      go_meet
      exact ⟨rfl, vbool (by rw [G.out]), rfl⟩
    case pos =>
    have qO : (bt s 881 != 1) = false := by rw [u3]; rfl
    cases hw : w2B s
    case false =>
      have G := hide (show unsB s = false from by rw [HUN.out]; exact decide_eq_false fun h => h.elim (fun h => h u2) fun h => h.elim (fun h => h u3) fun h => of_decide_eq_false hw h.1)
      have HW := hide hw
      clear u2 u3 hw
      go_wp2_with (first | (go_at_call 60; (with_reducible refine (SLE.out _).mono ?_); rintro e w' ⟨rfl, rfl⟩))
      go_meet
      exact ⟨by rw [HW.out], vbool (by rw [G.out]), rfl⟩
    case true =>
    have HW := hide hw
    rcases esc_cases hsz with ⟨he, hx⟩ | ⟨he, hx1, hx2, hx3⟩
    · have G := hide (show unsB s = false from by rw [HUN.out]; exact decide_eq_false fun h => h.elim (fun h => h u2) fun h => h.elim (fun h => h u3) fun h => absurd (he.symm.trans h.2) (by decide))
      clear u2 u3 hw he
      rcases hx with hx | hx | hx
      all_goals
        go_wp2_with (first | (go_at_call 60; (with_reducible refine (SLE.out _).mono ?_); rintro e w' ⟨rfl, rfl⟩))
        go_meet
        exact ⟨by rw [HW.out], vbool (by rw [G.out]; try rfl), rfl⟩
    · have G := hide (show unsB s = true from by rw [HUN.out]; exact decide_eq_true (Or.inr (Or.inr ⟨of_decide_eq_true hw, he⟩)))
      clear u2 u3 hw he
      go_wp2_with (first | (go_at_call 60; (with_reducible refine (SLE.out _).mono ?_); rintro e w' ⟨rfl, rfl⟩))
      go_meet
      exact ⟨by rw [HW.out], vbool (by rw [G.out]; try rfl), rfl⟩
  case rest =>
  obtain ⟨rfl, rfl, rfl⟩ := hcut
  cases hu : unsB s
  case true =>
    have HD := hide (dec_uns hsz HST.out HT3.out T0.out hu)
    clear hu
    as_aux_lemma =>
      go_wp2_with (first | (refine wpList_load_row rfl 27 (.tmp 4) rfl b4 rfl 27 (DR.zero : DR).cells (0, 0) _ HS.out.n4 Tryz.underlying27 rfl (info27 _) ?_) | (refine wpList_store_row rfl 27 (.tmp 2) (.tmp 83) rfl b2 (DR.zero : DR).cells rfl rfl 27 _ HS.out.r2 (info27 _) (size27 _ _) (one27 _) ?_))
      (try simp only [Exit.inBlock, Exit.then])
      exact rdec_ret _ rfl rfl rfl (RZ.of HS.out).1 HD.out (RZ.of HS.out).2
  case false =>
  have HSUP := hide (dec_sup hsz HST.out HT3.out T0.out hu)
  show Kc _ _
  refine hKc _ _ (wp_cond_false (by rw [← hu]; rfl) (wp_skip ?_))
  show K20 _ _
  refine hK20 _ _ ?_
  exact rdec_t22 hsz HS HSUP
end Go.Proofs.YtjbhokmkmapkoaaGreatDoor
