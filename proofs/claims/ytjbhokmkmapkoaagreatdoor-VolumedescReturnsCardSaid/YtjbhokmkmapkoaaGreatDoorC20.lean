/- Contracts and plain words for the laws of volume descriptors, part 20: T1, V6. No condition. -/
import Derived.Test.YtjbhokmkmapkoaaGreatDoorC18
import Derived.Test.YtjbhokmkmapkoaaGreatDoorC19
import Derived.Test.YtjbhokmkmapkoaaGreatDoorC17
import Derived.Test.YtjbhokmkmapkoaaGreatDoorC9
import Derived.Test.YtjbhokmkmapkoaaGreatDoorC8
import Derived.Test.YtjbhokmkmapkoaaGreatDoorC16
namespace Go.Proofs.YtjbhokmkmapkoaaGreatDoor
set_option linter.unusedSimpArgs false
set_option linter.unusedVariables false
open Go.RowKit
open Go.PlainAid (bt get_bt bt_nonneg bt_le bt_end)
/-- A field's text, and whether it can be read. -/
def TxtP (wd : Bool) (x : ByteArray) (w : World) (e : Ending) (w' : World) : Prop := e = .returned (.tuple #[.string (txtS wd x), .bool (txtB wd x)]) ∧ Below w.heap.size w w'
theorem TxtP.mk {wd : Bool} {x y : ByteArray} {b : Bool} {w w' : World} (h : txtS wd x = y) (h2 : txtB wd x = b) (hb : Below w.heap.size w w') : TxtP wd x w (.returned (.tuple #[.string y, .bool b])) w' := by subst h; subst h2; exact ⟨rfl, hb⟩
/-- The state of the reference's Decode: the result's block, the empty descriptor's, the descriptor's. -/
structure RS (w : World) (b2 b4 b5 : Nat) (D : DR) (W : World) : Prop where
  bel : Below w.heap.size w W
  r2 : Blk W b2 DR.zero.cells 27
  n4 : Blk W b4 DR.zero.cells 27
  d5 : Blk W b5 D.cells 27
  l1 : w.heap.size ≤ b2
  l2 : b2 < b4
  l3 : b4 < b5
section
variable {w : World} {b2 b4 b5 : Nat} {D : DR} {W : World}
theorem RS.below (h : RS w b2 b4 b5 D W) {W' : World} (hb : Below W.heap.size W W') : RS w b2 b4 b5 D W' :=
  ⟨h.bel.trans (hb.mono h.bel.size), Blk.below hb h.r2, Blk.below hb h.n4, Blk.below hb h.d5, h.l1, h.l2, h.l3⟩
theorem RS.alloc (h : RS w b2 b4 b5 D W) (o : Obj) : RS w b2 b4 b5 D (W.alloc o) :=
  ⟨h.bel.alloc h.bel.size _, h.r2.alloc _, h.n4.alloc _, h.d5.alloc _, h.l1, h.l2, h.l3⟩
theorem RS.drew (h : RS w b2 b4 b5 D W) : RS w b2 b4 b5 D W.drew :=
  ⟨⟨h.bel.os, h.bel.tape, h.bel.output, h.bel.size, h.bel.block⟩, h.r2, h.n4, h.d5, h.l1, h.l2, h.l3⟩
theorem RS.set (h : RS w b2 b4 b5 D W) (D' : DR) (j : Nat) (v : Value) (e : D.cells.setIfInBounds j v = D'.cells) : RS w b2 b4 b5 D' (W.setCell ⟨b5, j, none⟩ v) :=
  have := h.l1; have := h.l2; have := h.l3
  ⟨h.bel.setCell (p := ⟨b5, j, none⟩) (by simp only; omega) _, Blk.other (by omega) h.r2, Blk.other (by omega) h.n4, Blk.put e h.d5, h.l1, h.l2, h.l3⟩
theorem RS.mid (h : RS w b2 b4 b5 D W) (D' : DR) (o : Nat) (vs : List Value) (e : putAll vs o D.cells = D'.cells) : RS w b2 b4 b5 D' (W.setCells b5 o vs) :=
  have := h.l1; have := h.l2; have := h.l3
  ⟨Below.puts (by omega) vs o W h.bel, Blk.others (by omega) vs o W h.r2, Blk.others (by omega) vs o W h.n4, e ▸ Blk.putAll vs o _ W h.d5, h.l1, h.l2, h.l3⟩
theorem RS.cell (h : RS w b2 b4 b5 D W) (j : Nat) {v : Value} (e : D.cells[j]? = some v) : W.cell? ⟨b5, j, none⟩ = some v := (h.d5.cells j).trans e
theorem RS.bl (h : RS w b2 b4 b5 D W) : b5 < W.heap.size := h.d5.lt
end
theorem exec_load_row {P : Program} {o : Oper} {ev : Operand → Value} {w : World} (ty : TypeId) (x : Operand) (ho : o.op = .load ty x)
    (g : Nat) (hx : ev x = .pointer (some ⟨g, 0, none⟩)) (t : TypeId) (cs : Array Value) (fr : Nat × Nat) (d : TypeDesc) (hg : w.heap[g]? = some (.cells cs t fr))
    (hu : P.underlying ty = some d) (hd : (match d with | .struct _ | .array _ _ => true | _ => false) = true) (hi : (P.info? ty).map (·.size) = some cs.size) : (execOp ev o).run P w = .ok (.value (.agg cs)) w := by
  unfold execOp
  simp only [ho, hx, Instr.loadAt, Instr.sureAddr, Sem.run_bind, Sem.run_pure, Result.andThen_ok, run_loadVar_row w g t ty cs fr d hg hu hd hi]
end Go.Proofs.YtjbhokmkmapkoaaGreatDoor
namespace Go.Proofs.YtjbhokmkmapkoaaGreatDoor
set_option linter.unusedSimpArgs false
set_option linter.unusedVariables false
open Go.RowKit
open Go.PlainAid (bt get_bt bt_nonneg bt_le bt_end)
set_option maxRecDepth 100000 in
set_option maxHeartbeats 8000000 in
theorem dec_tail {s : ByteArray} {w W : World} {b2 b4 b6 : Nat} {n er fr : Int} {v0 v1 v3 v4 v5 v7 v9 v10 v11 v12 v13 v14 v17 v18 v20 v21 v22 v23 v24 v25 v26 v27 v28 v29 v30 v31 v32 v33 v34 v35 v36 v37 v38 v39 v40 v41 v42 v43 v44 v45 v46 v47 v48 v49 v50 v51 v52 v53 v54 v55 v56 v57 v58 v59 v60 v61 v62 v63 v64 v65 v66 v67 v68 v69 v70 v71 v72 v73 v74 v75 v76 v77 v78 v79 v80 v81 v82 v83 v84 v85 v86 v87 v88 v89 v90 v91 v92 v93 v94 v95 v96 v97 v98 v99 v100 v101 v102 v103 v104 v105 v106 v107 v108 v109 v110 v111 v112 v113 v114 v115 v116 v117 v118 v119 v120 v121 v122 v123 v124 v125 v126 v127 v128 v129 v130 v131 v132 v133 v134 v135 v136 v137 v138 v139 v140 v141 v142 v143 v144 v145 v146 v147 v148 v149 v150 v151 v152 v153 v154 v155 v156 v157 v158 v159 v160 v161 v162 v163 v164 v165 v166 v167 v168 v169 v170 v171 v172 v173 v174 v175 v176 v177 v178 v179 v180 : Value} (hT : TabD w) (HS12 : Hid (DS w s b2 b4 b6 (bodyD s) W)) (HG : Hid (goodD s = (fOkS s 5 && decide (er = 0) && decide (n = 34) && decide (fr = 0) && decide (chkD (bodyD s) = 0))))
    (HSUP : Hid (decD s = if goodD s = true then (bodyD s, 0) else (DR.zero, 10))) : Code.wp Tryz.prog ((Tryz.f17.body.bind (tailAt 37)).getD .skip) (bodyPost Tryz.prog Tryz.f17 (DecDP s w)) ⟨#[v0, v1, .pointer (some ⟨b2, 0, none⟩), v3, v4, v5, .pointer (some ⟨b6, 0, none⟩), v7, .bool (fOkS s 5), v9, v10, v11, v12, v13, v14, .int .i64 n, .int .i64 er, v17, v18, .int .i64 fr, v20, v21, v22, v23, v24, v25, v26, v27, v28, v29, v30, v31, v32, v33, v34, v35, v36, v37, v38, v39, v40, v41, v42, v43, v44, v45, v46, v47, v48, v49, v50, v51, v52, v53, v54, v55, v56, v57, v58, v59, v60, v61, v62, v63, v64, v65, v66, v67, v68, v69, v70, v71, v72, v73, v74, v75, v76, v77, v78, v79, v80, v81, v82, v83, v84, v85, v86, v87, v88, v89, v90, v91, v92, v93, v94, v95, v96, v97, v98, v99, v100, v101, v102, v103, v104, v105, v106, v107, v108, v109, v110, v111, v112, v113, v114, v115, v116, v117, v118, v119, v120, v121, v122, v123, v124, v125, v126, v127, v128, v129, v130, v131, v132, v133, v134, v135, v136, v137, v138, v139, v140, v141, v142, v143, v144, v145, v146, v147, v148, v149, v150, v151, v152, v153, v154, v155, v156, v157, v158, v159, v160, v161, v162, v163, v164, v165, v166, v167, v168, v169, v170, v171, v172, v173, v174, v175, v176, v177, v178, v179, v180], []⟩ W := by
  have CK := hide (fun W hW => check_any (bodyD s) (body_short s) W hW)
  conv => arg 2; whnf
  dsimp only
  go_upto_region 37 with fail
  go_cut [8, 178] (fun v8 v wx => v = .bool (!goodD s) ∧ DS w s b2 b4 b6 (bodyD s) wx)
  case first =>
    by_cases h0 : fOkS s 5 = true
    case neg =>
      have q : fOkS s 5 = false := by simpa using h0
      clear h0
      go_wp2_with fail
      go_meet
      exact ⟨vbool (by rw [HG.out, q]; rfl), HS12.out⟩
    case pos =>
    by_cases h1 : er = 0
    case neg =>
      have q : (er != 0) = true := by simpa using h1
      have G := hide (show goodD s = false from by rw [HG.out, decide_eq_false h1]; simp)
      clear h1
      go_wp2_with fail
      go_meet
      exact ⟨vbool (by rw [G.out]; rfl), HS12.out⟩
    case pos =>
    have q1 : (er != 0) = false := by simpa using h1
    by_cases h2 : n = 34
    case neg =>
      have q : (n != 34) = true := by simpa using h2
      have G := hide (show goodD s = false from by rw [HG.out, decide_eq_false h2]; simp)
      clear h2 h1
      go_wp2_with fail
      go_meet
      exact ⟨vbool (by rw [G.out]; rfl), HS12.out⟩
    case pos =>
    have q2 : (n != 34) = false := by simpa using h2
    by_cases h3 : fr = 0
    case neg =>
      have q : (fr != 0) = true := by simpa using h3
      have G := hide (show goodD s = false from by rw [HG.out, decide_eq_false h3]; simp)
      clear h3 h2 h1
      go_wp2_with fail
      go_meet
      exact ⟨vbool (by rw [G.out]; rfl), HS12.out⟩
    case pos =>
    have q3 : (fr != 0) = false := by simpa using h3
    by_cases h4 : chkD (bodyD s) = 0
    case neg =>
      have q : (chkD (bodyD s) != 0) = true := by simpa using h4
      have G := hide (show goodD s = false from by rw [HG.out, decide_eq_false h4]; simp)
      clear h4 h3 h2 h1
      go_wp2_with (first | (refine wpList_load_rowG 27 (.tmp 6) rfl rfl b6 rfl 27 (bodyD s).cells (0, 0) _ HS12.out.d6 Tryz.underlying27 rfl (info27 _) ?_) | (go_at_call 15; refine (CK.out _ (hT.below HS12.out.bel)).mono ?_; rintro e w13 ⟨rfl, hb13⟩))
      go_meet
      exact ⟨vbool (by rw [G.out]; rfl), HS12.out.below hb13⟩
    case pos =>
    have q : (chkD (bodyD s) != 0) = false := by simpa using h4
    have G := hide (show goodD s = true from by rw [HG.out, h0, decide_eq_true h1, decide_eq_true h2, decide_eq_true h3, decide_eq_true h4]; rfl)
    clear h4 h3 h2 h1
    go_wp2_with (first | (refine wpList_load_rowG 27 (.tmp 6) rfl rfl b6 rfl 27 (bodyD s).cells (0, 0) _ HS12.out.d6 Tryz.underlying27 rfl (info27 _) ?_) | (go_at_call 15; refine (CK.out _ (hT.below HS12.out.bel)).mono ?_; rintro e w13 ⟨rfl, hb13⟩))
    go_meet
    exact ⟨vbool (by rw [G.out]; rfl), HS12.out.below hb13⟩
  case rest =>
  obtain ⟨rfl, hS13⟩ := hcut
  have HS13 := hide hS13
  clear hS13 HS12 CK HG
  cases hgd : goodD s
  case false =>
    have HD := hide (show decD s = (DR.zero, 10) from by rw [HSUP.out, hgd]; rfl)
    have HRZ := hide (show Blk (wc.setRow b2 #[.int .i64 0, .int .i64 0, .string ⟨#[]⟩, .string ⟨#[]⟩, .string ⟨#[]⟩, .string ⟨#[]⟩, .string ⟨#[]⟩, .int .i64 0, .int .i64 0, .int .i64 0, .int .i64 0, .int .i64 0, .int .i64 0, .int .i64 0, .int .i64 0, .string ⟨#[]⟩, .int .i64 0, .int .i64 0, .int .i64 0, .int .i64 0, .int .i64 0, .int .i64 0, .string ⟨#[]⟩]) b2 DR.zero.cells 27 from HS13.out.r2.setRow)
    have hbl := below_setRow' HS13.out.bel (Nat.le_of_lt HS13.out.l1) #[.int .i64 0, .int .i64 0, .string ⟨#[]⟩, .string ⟨#[]⟩, .string ⟨#[]⟩, .string ⟨#[]⟩, .string ⟨#[]⟩, .int .i64 0, .int .i64 0, .int .i64 0, .int .i64 0, .int .i64 0, .int .i64 0, .int .i64 0, .int .i64 0, .string ⟨#[]⟩, .int .i64 0, .int .i64 0, .int .i64 0, .int .i64 0, .int .i64 0, .int .i64 0, .string ⟨#[]⟩]
    clear hgd
    go_wp2_with (refine wpList_store_row rfl 27 (.tmp 2) (.tmp 179) rfl b2 #[.int .i64 0, .int .i64 0, .string ⟨#[]⟩, .string ⟨#[]⟩, .string ⟨#[]⟩, .string ⟨#[]⟩, .string ⟨#[]⟩, .int .i64 0, .int .i64 0, .int .i64 0, .int .i64 0, .int .i64 0, .int .i64 0, .int .i64 0, .int .i64 0, .string ⟨#[]⟩, .int .i64 0, .int .i64 0, .int .i64 0, .int .i64 0, .int .i64 0, .int .i64 0, .string ⟨#[]⟩] rfl rfl 27 _ HS13.out.r2 (by as_aux_lemma => kernel_rfl) rfl (by as_aux_lemma => kernel_rfl) ?_)
    (try simp only [Exit.inBlock, Exit.then])
    exact dec_ret _ rfl rfl rfl HRZ.out HD.out hbl
  case true =>
    have HD := hide (show decD s = (bodyD s, 0) from by rw [HSUP.out, hgd]; rfl)
    have HRZ := hide (show Blk (wc.setRow b2 (bodyD s).cells) b2 (bodyD s).cells 27 from HS13.out.r2.setRow)
    have hbl := below_setRow' HS13.out.bel (Nat.le_of_lt HS13.out.l1) (bodyD s).cells
    clear hgd
    go_wp2_with (first | (refine wpList_load_row rfl 27 (.tmp 6) rfl b6 rfl 27 (bodyD s).cells (0, 0) _ HS13.out.d6 Tryz.underlying27 rfl (info27 _) ?_) | (refine wpList_store_row rfl 27 (.tmp 2) (.tmp 180) rfl b2 (bodyD s).cells rfl rfl 27 _ HS13.out.r2 (info27 _) (size27 _ _) (one27 _) ?_))
    (try simp only [Exit.inBlock, Exit.then])
    exact dec_ret _ rfl rfl rfl HRZ.out HD.out hbl
end Go.Proofs.YtjbhokmkmapkoaaGreatDoor
