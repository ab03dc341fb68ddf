/- The statement RockridgeDivided, walked. -/
import Derived.Test.YtopajpomhflgbaaGreatDoorCM30
namespace Go.Proofs.YtopajpomhflgbaaGreatDoor
set_option linter.unusedSimpArgs false
set_option linter.unusedVariables false
open Go.RowKit

theorem div_arr (name target : ByteArray) : (#[.bool false, .int .i64 0, .int .i64 0, .int .i64 0, .int .i64 0, .int .i64 0, .bool true, .string name, .string target, .bool false, .int .i64 0, .int .i64 0, .int .i64 0, .bool false] : Array Value) = (rDiv name target).cells := rfl
theorem Blk.put14 {w : World} {b : Nat} {T : TypeId} {c0 c1 c2 c3 c4 c5 c6 c7 c8 c9 c10 c11 c12 c13 : Value} (v0 v1 v2 v3 v4 v5 v6 v7 v8 v9 v10 v11 v12 v13 : Value) (h : Blk w b #[c0, c1, c2, c3, c4, c5, c6, c7, c8, c9, c10, c11, c12, c13] T) : Blk ((((((((((((((w.setCell ⟨b, 0, none⟩ v0).setCell ⟨b, 1, none⟩ v1).setCell ⟨b, 2, none⟩ v2).setCell ⟨b, 3, none⟩ v3).setCell ⟨b, 4, none⟩ v4).setCell ⟨b, 5, none⟩ v5).setCell ⟨b, 6, none⟩ v6).setCell ⟨b, 7, none⟩ v7).setCell ⟨b, 8, none⟩ v8).setCell ⟨b, 9, none⟩ v9).setCell ⟨b, 10, none⟩ v10).setCell ⟨b, 11, none⟩ v11).setCell ⟨b, 12, none⟩ v12).setCell ⟨b, 13, none⟩ v13) b #[v0, v1, v2, v3, v4, v5, v6, v7, v8, v9, v10, v11, v12, v13] T := by
  have h1 : Blk (w.setCell ⟨b, 0, none⟩ v0) b #[v0, c1, c2, c3, c4, c5, c6, c7, c8, c9, c10, c11, c12, c13] T := Blk.put (cs' := #[v0, c1, c2, c3, c4, c5, c6, c7, c8, c9, c10, c11, c12, c13]) rfl h
  have h2 : Blk ((w.setCell ⟨b, 0, none⟩ v0).setCell ⟨b, 1, none⟩ v1) b #[v0, v1, c2, c3, c4, c5, c6, c7, c8, c9, c10, c11, c12, c13] T := Blk.put (cs' := #[v0, v1, c2, c3, c4, c5, c6, c7, c8, c9, c10, c11, c12, c13]) rfl h1
  have h3 : Blk (((w.setCell ⟨b, 0, none⟩ v0).setCell ⟨b, 1, none⟩ v1).setCell ⟨b, 2, none⟩ v2) b #[v0, v1, v2, c3, c4, c5, c6, c7, c8, c9, c10, c11, c12, c13] T := Blk.put (cs' := #[v0, v1, v2, c3, c4, c5, c6, c7, c8, c9, c10, c11, c12, c13]) rfl h2
  have h4 : Blk ((((w.setCell ⟨b, 0, none⟩ v0).setCell ⟨b, 1, none⟩ v1).setCell ⟨b, 2, none⟩ v2).setCell ⟨b, 3, none⟩ v3) b #[v0, v1, v2, v3, c4, c5, c6, c7, c8, c9, c10, c11, c12, c13] T := Blk.put (cs' := #[v0, v1, v2, v3, c4, c5, c6, c7, c8, c9, c10, c11, c12, c13]) rfl h3
  have h5 : Blk (((((w.setCell ⟨b, 0, none⟩ v0).setCell ⟨b, 1, none⟩ v1).setCell ⟨b, 2, none⟩ v2).setCell ⟨b, 3, none⟩ v3).setCell ⟨b, 4, none⟩ v4) b #[v0, v1, v2, v3, v4, c5, c6, c7, c8, c9, c10, c11, c12, c13] T := Blk.put (cs' := #[v0, v1, v2, v3, v4, c5, c6, c7, c8, c9, c10, c11, c12, c13]) rfl h4
  have h6 : Blk ((((((w.setCell ⟨b, 0, none⟩ v0).setCell ⟨b, 1, none⟩ v1).setCell ⟨b, 2, none⟩ v2).setCell ⟨b, 3, none⟩ v3).setCell ⟨b, 4, none⟩ v4).setCell ⟨b, 5, none⟩ v5) b #[v0, v1, v2, v3, v4, v5, c6, c7, c8, c9, c10, c11, c12, c13] T := Blk.put (cs' := #[v0, v1, v2, v3, v4, v5, c6, c7, c8, c9, c10, c11, c12, c13]) rfl h5
  have h7 : Blk (((((((w.setCell ⟨b, 0, none⟩ v0).setCell ⟨b, 1, none⟩ v1).setCell ⟨b, 2, none⟩ v2).setCell ⟨b, 3, none⟩ v3).setCell ⟨b, 4, none⟩ v4).setCell ⟨b, 5, none⟩ v5).setCell ⟨b, 6, none⟩ v6) b #[v0, v1, v2, v3, v4, v5, v6, c7, c8, c9, c10, c11, c12, c13] T := Blk.put (cs' := #[v0, v1, v2, v3, v4, v5, v6, c7, c8, c9, c10, c11, c12, c13]) rfl h6
  have h8 : Blk ((((((((w.setCell ⟨b, 0, none⟩ v0).setCell ⟨b, 1, none⟩ v1).setCell ⟨b, 2, none⟩ v2).setCell ⟨b, 3, none⟩ v3).setCell ⟨b, 4, none⟩ v4).setCell ⟨b, 5, none⟩ v5).setCell ⟨b, 6, none⟩ v6).setCell ⟨b, 7, none⟩ v7) b #[v0, v1, v2, v3, v4, v5, v6, v7, c8, c9, c10, c11, c12, c13] T := Blk.put (cs' := #[v0, v1, v2, v3, v4, v5, v6, v7, c8, c9, c10, c11, c12, c13]) rfl h7
  have h9 : Blk (((((((((w.setCell ⟨b, 0, none⟩ v0).setCell ⟨b, 1, none⟩ v1).setCell ⟨b, 2, none⟩ v2).setCell ⟨b, 3, none⟩ v3).setCell ⟨b, 4, none⟩ v4).setCell ⟨b, 5, none⟩ v5).setCell ⟨b, 6, none⟩ v6).setCell ⟨b, 7, none⟩ v7).setCell ⟨b, 8, none⟩ v8) b #[v0, v1, v2, v3, v4, v5, v6, v7, v8, c9, c10, c11, c12, c13] T := Blk.put (cs' := #[v0, v1, v2, v3, v4, v5, v6, v7, v8, c9, c10, c11, c12, c13]) rfl h8
  have h10 : Blk ((((((((((w.setCell ⟨b, 0, none⟩ v0).setCell ⟨b, 1, none⟩ v1).setCell ⟨b, 2, none⟩ v2).setCell ⟨b, 3, none⟩ v3).setCell ⟨b, 4, none⟩ v4).setCell ⟨b, 5, none⟩ v5).setCell ⟨b, 6, none⟩ v6).setCell ⟨b, 7, none⟩ v7).setCell ⟨b, 8, none⟩ v8).setCell ⟨b, 9, none⟩ v9) b #[v0, v1, v2, v3, v4, v5, v6, v7, v8, v9, c10, c11, c12, c13] T := Blk.put (cs' := #[v0, v1, v2, v3, v4, v5, v6, v7, v8, v9, c10, c11, c12, c13]) rfl h9
  have h11 : Blk (((((((((((w.setCell ⟨b, 0, none⟩ v0).setCell ⟨b, 1, none⟩ v1).setCell ⟨b, 2, none⟩ v2).setCell ⟨b, 3, none⟩ v3).setCell ⟨b, 4, none⟩ v4).setCell ⟨b, 5, none⟩ v5).setCell ⟨b, 6, none⟩ v6).setCell ⟨b, 7, none⟩ v7).setCell ⟨b, 8, none⟩ v8).setCell ⟨b, 9, none⟩ v9).setCell ⟨b, 10, none⟩ v10) b #[v0, v1, v2, v3, v4, v5, v6, v7, v8, v9, v10, c11, c12, c13] T := Blk.put (cs' := #[v0, v1, v2, v3, v4, v5, v6, v7, v8, v9, v10, c11, c12, c13]) rfl h10
  have h12 : Blk ((((((((((((w.setCell ⟨b, 0, none⟩ v0).setCell ⟨b, 1, none⟩ v1).setCell ⟨b, 2, none⟩ v2).setCell ⟨b, 3, none⟩ v3).setCell ⟨b, 4, none⟩ v4).setCell ⟨b, 5, none⟩ v5).setCell ⟨b, 6, none⟩ v6).setCell ⟨b, 7, none⟩ v7).setCell ⟨b, 8, none⟩ v8).setCell ⟨b, 9, none⟩ v9).setCell ⟨b, 10, none⟩ v10).setCell ⟨b, 11, none⟩ v11) b #[v0, v1, v2, v3, v4, v5, v6, v7, v8, v9, v10, v11, c12, c13] T := Blk.put (cs' := #[v0, v1, v2, v3, v4, v5, v6, v7, v8, v9, v10, v11, c12, c13]) rfl h11
  have h13 : Blk (((((((((((((w.setCell ⟨b, 0, none⟩ v0).setCell ⟨b, 1, none⟩ v1).setCell ⟨b, 2, none⟩ v2).setCell ⟨b, 3, none⟩ v3).setCell ⟨b, 4, none⟩ v4).setCell ⟨b, 5, none⟩ v5).setCell ⟨b, 6, none⟩ v6).setCell ⟨b, 7, none⟩ v7).setCell ⟨b, 8, none⟩ v8).setCell ⟨b, 9, none⟩ v9).setCell ⟨b, 10, none⟩ v10).setCell ⟨b, 11, none⟩ v11).setCell ⟨b, 12, none⟩ v12) b #[v0, v1, v2, v3, v4, v5, v6, v7, v8, v9, v10, v11, v12, c13] T := Blk.put (cs' := #[v0, v1, v2, v3, v4, v5, v6, v7, v8, v9, v10, v11, v12, c13]) rfl h12
  have h14 : Blk ((((((((((((((w.setCell ⟨b, 0, none⟩ v0).setCell ⟨b, 1, none⟩ v1).setCell ⟨b, 2, none⟩ v2).setCell ⟨b, 3, none⟩ v3).setCell ⟨b, 4, none⟩ v4).setCell ⟨b, 5, none⟩ v5).setCell ⟨b, 6, none⟩ v6).setCell ⟨b, 7, none⟩ v7).setCell ⟨b, 8, none⟩ v8).setCell ⟨b, 9, none⟩ v9).setCell ⟨b, 10, none⟩ v10).setCell ⟨b, 11, none⟩ v11).setCell ⟨b, 12, none⟩ v12).setCell ⟨b, 13, none⟩ v13) b #[v0, v1, v2, v3, v4, v5, v6, v7, v8, v9, v10, v11, v12, v13] T := Blk.put (cs' := #[v0, v1, v2, v3, v4, v5, v6, v7, v8, v9, v10, v11, v12, v13]) rfl h13
  exact h14
theorem entsV_app (A B : List En) : entsV (A ++ B) = entsV A ++ entsV B := by simp [entsV]
/-- A row without its last entry. -/
theorem reads_last {B : Nat} {L : List En} {g n cap : Nat} {w : World} (h : OwnE B L (.slice (some ⟨g, 0, none⟩) n cap) w) (h0 : L ≠ []) : n = L.length ∧ n ≤ cap ∧ ReadsE w (.slice (some ⟨g, 0, none⟩) (n - 1) cap) L.dropLast := by
  have hr := ReadsE.of h
  have h2 := h.2
  rcases h2 with ⟨h2, _⟩ | ⟨g2, cap2, cur, h2, _, _, hc, _⟩
  · cases h2
  · injection h2 with e1 e2 e3
    subst e2 e3
    refine ⟨rfl, hc, some ⟨g, 0, none⟩, cap, by rw [List.length_dropLast], fun _ => ?_⟩
    obtain ⟨A', c', e, hA⟩ := hr
    injection e with e4 e5 e6
    obtain ⟨g3, e7, hg, hcell⟩ := hA (List.length_pos_iff.2 h0)
    rw [← e4] at e7
    injection e7 with e7
    injection e7 with e8
    subst e8
    refine ⟨g, rfl, hg, fun j u hu => hcell j u ?_⟩
    rw [← List.dropLast_concat_getLast h0, entsV_app, List.getElem?_append_left (List.getElem?_eq_some_iff.1 hu).1]
    exact hu
/-- Two rows, one behind the other. -/
theorem wpList_append_two {P : Program} (w : World) {ops : Array Oper} {rest : List Oper} {o : Oper} {a : Act} {Q : Exit → Act → World → Prop} (hgd : o.guard = none) (s x : Operand)
    (ho : o.op = .call { callee := .builtin .append, args := #[s, x], argTypes := #[26, 26] }) (hP : P = Tryz.prog)
    (base : Nat) (F G : List En) (v u : Value) (hown : OwnE base F v w) (hu : ReadsE w u G) (hG : G ≠ []) (hs : a.eval s = v) (hx : a.eval x = u) (hl : F.length + G.length ≤ 1000) (hbase : base ≤ w.heap.size)
    (h : ∀ v' w', OwnE base (F ++ G) v' w' → Below base w w' → wpList P ops Q rest (a.put o.dst v') w') : wpList P ops Q (o :: rest) a w := by
  subst hP
  obtain ⟨i, hi, hz0, hz1, hz2⟩ := info_parts entInfo
  obtain ⟨A, c, rfl, hA⟩ := hu
  obtain ⟨g, rfl, hg, hc⟩ := hA (List.length_pos_iff.2 hG)
  refine wpList_append_own _ hgd s x 26 ho base 32 i _ 3 40 Tryz.underlying26 hi hz0 hz1 hz2 rfl (by decide) v F.length (entsV F) hs hown ⟨g, 0, none⟩ G.length c (entsV G) hx (entsV_len G) ?_ ?_ (by unfold maxLen; omega) (by omega) hbase ?_
  · intro j u hu
    rw [Go.WideShapes.add_plain, Nat.zero_add]
    exact hc j u hu
  · intro u hu
    obtain ⟨e, _, he⟩ := List.mem_flatMap.1 hu
    unfold En.cells at he
    simp only [List.mem_cons, List.not_mem_nil, or_false] at he
    rcases he with rfl | rfl | rfl <;> rfl
  · intro v' w' hown' hg' _
    refine h v' w' ?_ ((Below.refl base w).grown hg' hbase (fun q hq => (World.ownsRow.lt hown q hq).1))
    unfold OwnE
    rw [List.length_append, entsV_app]
    exact hown'
set_option maxRecDepth 100000 in
set_option maxHeartbeats 16000000 in
theorem law_divided (name target : ByteArray) (ns : List Int) (cv : Value) (w : World) (hT : TabV w) (hn : name.size ≤ maxLen) (ht : target.size ≤ maxLen) (hC : ReadsI w cv ns) (hr : ns.length ≤ maxLen) : Calls Tryz.prog 5 #[.string name, .string target, cv] w fun e w' => e = .returned (.bool true) ∧ Below w.heap.size w w' := by
  unfold maxLen at hn ht hr
  have HC0 := hide hC
  obtain ⟨CA, cc, hcv, _⟩ := hC
  subst hcv
  have HL : Live w [] := trivial
  go_enter Tryz.func5, Tryz.ntmps5
  go_wp2_with fail
  refine (awake_any _ hT).mono ?_
  rintro e w1 ⟨rfl, hb1⟩
  have hT1 := hT.below hb1
  have hz1 := hb1.size
  by_cases h1 : name.size ≤ 400
  case neg =>
    go_wp2_with fail
    go_ret
    exact ⟨rfl, hb1⟩
  by_cases h2 : target.size ≤ 400
  case neg =>
    go_wp2_with fail
    go_ret
    exact ⟨rfl, hb1⟩
  by_cases h3 : ns.length ≤ 20
  case neg =>
    go_wp2_with fail
    go_ret
    exact ⟨rfl, hb1⟩
  go_wp2_with fail
  refine (rname_any name (by omega) _).mono ?_
  rintro e w2 ⟨rfl, hb2⟩
  have hT2 := hT1.below hb2
  have hz2 := hb2.size
  cases hnm : nameB name
  case false =>
    go_wp2_with fail
    go_ret
    exact ⟨rfl, by (repeat' (first | (with_reducible exact Below.refl _ _) | (with_reducible refine Below.alloc ?_ ?_ _) | (with_reducible refine Below.setCell ?_ ?_ _) | (with_reducible refine Below.drew ?_) | (with_reducible refine below_drewN' ?_) | (with_reducible refine below_bytesW ?_ ?_) | (with_reducible refine Below.trans ?_ (Below.mono (by assumption) ?_)) | omega | (simp only [World.size_alloc, World.size_setCell, World.size_drew]; omega) | (simp [size_bytesW]; omega) | (simp; omega)))⟩
  have HN := hide hnm
  clear hnm
  go_wp2_with fail
  refine (rtarget_any target (by omega) _).mono ?_
  rintro e w3 ⟨rfl, hb3⟩
  have hT3 := hT2.below hb3
  have hz3 := hb3.size
  cases htg : targetB target
  case false =>
    go_wp2_with fail
    go_ret
    exact ⟨rfl, by (repeat' (first | (with_reducible exact Below.refl _ _) | (with_reducible refine Below.alloc ?_ ?_ _) | (with_reducible refine Below.setCell ?_ ?_ _) | (with_reducible refine Below.drew ?_) | (with_reducible refine below_drewN' ?_) | (with_reducible refine below_bytesW ?_ ?_) | (with_reducible refine Below.trans ?_ (Below.mono (by assumption) ?_)) | omega | (simp only [World.size_alloc, World.size_setCell, World.size_drew]; omega) | (simp [size_bytesW]; omega) | (simp; omega)))⟩
  have HG := hide htg
  have hcs := comps_size2 htg
  clear htg
  have hbel3 : Below w.heap.size w w3 := (hb1.trans (hb2.mono hz1)).trans (hb3.mono (by omega))
  go_wp2_with fail
  refine (comps_yes target HG.out _ hT3).mono ?_
  rintro e w4 ⟨rfl, hb4⟩
  have hT4 := hT3.below hb4
  have hbel4 := hbel3.trans (hb4.mono hbel3.size)
  have HC4 := hide (HC0.out.below hbel4)
  go_wp2_with fail
  refine (split_any sNM name ns _ w4 (by omega) (by omega) HC4.out).mono ?_
  rintro e w5 ⟨va, rfl, hoa, hb5⟩
  have HA5 := hide hoa
  clear hoa
  have hbel5 := hbel4.trans (hb5.mono hbel4.size)
  have HC5 := hide (HC4.out.below hb5)
  go_wp2_with fail
  refine (split_any sSL (compsB target) ns _ w5 (by omega) (by omega) HC5.out).mono ?_
  rintro e w6 ⟨vb, rfl, hob, hb6⟩
  have HA6 := hide (OwnE.below HA5.out hb6)
  have HB6 := hide (OwnE.reads hob)
  clear hob
  have hbel6 := hbel5.trans (hb6.mono hbel5.size)
  have hln := splitF_len sNM ns name
  have hls := splitF_len sSL ns (compsB target)
  have hz4 : w4.heap.size ≤ w6.heap.size := by have := hb5.size; have := hb6.size; omega
  have HNE := hide (splitF_ne sSL ns (compsB target))
  have hlen : (splitF sNM ns name).length + (splitF sSL ns (compsB target)).length ≤ 1000 := by omega
  go_wp2_with (at_builtin; refine wpList_append_two _ rfl _ _ rfl rfl w4.heap.size _ _ _ _ HA6.out HB6.out HNE.out rfl rfl hlen hz4 ?_; intro v7 w7 hown7 hb7)
  have hbel7 : Below w.heap.size w w7 := hbel6.trans (hb7.mono hbel4.size)
  have hT7 := hT.below hbel7
  have SAY := hide (says_div (cuts := ns) HN.out HG.out h3)
  have HL := hide (show (splitF sNM ns name ++ splitF sSL ns (compsB target)) = splitF sNM ns name ++ splitF sSL ns (compsB target) from rfl)
  have hne7 : splitF sNM ns name ++ splitF sSL ns (compsB target) ≠ [] := by
    intro h
    exact splitF_ne sNM ns name (List.append_eq_nil_iff.1 h).1
  obtain ⟨L, hL⟩ : ∃ L, L = splitF sNM ns name ++ splitF sSL ns (compsB target) := ⟨_, rfl⟩
  rw [← hL] at SAY hown7 hne7
  have HLE := hide hL
  clear hL HL
  have hpos : 1 ≤ L.length := List.length_pos_iff.2 hne7
  have hL1000 : L.length ≤ 1000 := by rw [HLE.out, List.length_append]; omega
  obtain ⟨g, cap, hv7⟩ := Go.Joins.ownsRow_form hown7 (by omega)
  subst hv7
  obtain ⟨_, hcap, hlast⟩ := reads_last hown7 hne7
  have HR7 := hide (OwnE.reads hown7)
  have HQ7 := hide hlast
  clear hown7 hlast hne7 hlen HNE HB6 HA6 HA5 hln hls
  have RD := hide (read_says L _ SAY.out _ w7 hT7 HR7.out)
  go_wp2_with fail
  refine RD.out.mono ?_
  rintro e w8 ⟨rfl, hb8⟩
  have hbel8 := hbel7.trans (hb8.mono hbel7.size)
  unfold RR.cells rDiv
  simp only
  go_upto_region 10 with fail
  have hX : Blk (w8.alloc (.cells (rDiv name target).cells 23)) w8.heap.size (rDiv name target).cells 23 := Blk.newAt rfl
  have hb9 : Below w8.heap.size w8 (w8.alloc (.cells (rDiv name target).cells 23)) := by (repeat' (first | (with_reducible exact Below.refl _ _) | (with_reducible refine Below.alloc ?_ ?_ _) | (with_reducible refine Below.setCell ?_ ?_ _) | (with_reducible refine Below.drew ?_) | (with_reducible refine below_drewN' ?_) | (with_reducible refine below_bytesW ?_ ?_) | (with_reducible refine Below.trans ?_ (Below.mono (by assumption) ?_)) | omega | (simp only [World.size_alloc, World.size_setCell, World.size_drew]; omega) | (simp [size_bytesW]; omega) | (simp; omega)))
  rw [div_arr]
  obtain ⟨w9, hw9⟩ : ∃ w9, w9 = w8.alloc (.cells (rDiv name target).cells 23) := ⟨_, rfl⟩
  rw [← hw9] at hX hb9
  rw [← hw9]
  clear hw9
  obtain ⟨xb, hxe⟩ : ∃ xb, xb = w8.heap.size := ⟨_, rfl⟩
  rw [← hxe] at hX
  rw [← hxe]
  have hxw : w.heap.size ≤ xb := by have := hbel8.size; omega
  clear hxe
  have hbel9 := hbel8.trans (hb9.mono hbel8.size)
  have HQ9 := hide ((HQ7.out.below hb8).below hb9)
  have hrrX := RRat.of hX
  unfold RRat rDiv at hrrX
  simp only at hrrX
  have hT9 := hT.below hbel9
  have HC9 := hide (HC0.out.below hbel9)
  by_cases hone : (splitF sSL ns (compsB target)).length = 1
  · have hdl := one_div (name := name) hone
    rw [← HLE.out] at hdl
    rw [hdl] at HQ9
    have S1 := says_div1 (cuts := ns) HN.out h3
    have RD2 := hide (read_says _ _ S1 _ w9 hT9 HQ9.out)
    have HONE := hide hone
    clear hdl hone S1
    go_wp2_with fail
    refine RD2.out.mono ?_
    rintro e w10 ⟨rfl, hb10⟩
    have hX10 := hX.below hb10
    have hbel10 := hbel9.trans (hb10.mono hbel9.size)
    have hrr10 := RRat.of hX10
    unfold RRat rDiv at hrr10
    simp only at hrr10
    have hfz := hX10.free
    have hxl := hX10.lt
    unfold RR.cells rDiv
    simp only
    go_upto_region 13 with fail
    obtain ⟨W11, hW11⟩ : ∃ W11, W11 = ((((((((((((((w10.setCell ⟨xb, 0, none⟩ (.bool false)).setCell ⟨xb, 1, none⟩ (.int .i64 0)).setCell ⟨xb, 2, none⟩ (.int .i64 0)).setCell ⟨xb, 3, none⟩ (.int .i64 0)).setCell ⟨xb, 4, none⟩ (.int .i64 0)).setCell ⟨xb, 5, none⟩ (.int .i64 0)).setCell ⟨xb, 6, none⟩ (.bool true)).setCell ⟨xb, 7, none⟩ (.string name)).setCell ⟨xb, 8, none⟩ (.string ⟨#[]⟩)).setCell ⟨xb, 9, none⟩ (.bool false)).setCell ⟨xb, 10, none⟩ (.int .i64 0)).setCell ⟨xb, 11, none⟩ (.int .i64 0)).setCell ⟨xb, 12, none⟩ (.int .i64 0)).setCell ⟨xb, 13, none⟩ (.bool false)) := ⟨_, rfl⟩
    rw [← hW11]
    have hbel11 : Below w.heap.size w W11 := by rw [hW11]; (repeat' (first | (with_reducible exact Below.refl _ _) | (with_reducible refine Below.alloc ?_ ?_ _) | (with_reducible refine Below.setCell ?_ ?_ _) | (with_reducible refine Below.drew ?_) | (with_reducible refine below_drewN' ?_) | (with_reducible refine below_bytesW ?_ ?_) | (with_reducible refine Below.trans ?_ (Below.mono (by assumption) ?_)) | omega | (simp only [World.size_alloc, World.size_setCell, World.size_drew]; omega) | (simp [size_bytesW]; omega) | (simp; omega)))
    clear hW11 hrr10 hfz
    go_wp2_with fail
    refine (split_any sSL (compsB target) ns _ W11 (by omega) (by omega) (HC0.out.below hbel11)).mono ?_
    rintro e w12 ⟨vb2, rfl, hob, hb12⟩
    obtain ⟨A12, c12, hvb, _⟩ := OwnE.reads hob
    subst hvb
    have hl1 : (((splitF sSL ns (compsB target)).length : Int) == 1) = true := by rw [HONE.out]; rfl
    have hbel12 := hbel11.trans (hb12.mono hbel11.size)
    clear hob
    generalize (splitF sSL ns (compsB target)).length = n2 at *
    go_wp2_with fail
    go_ret
    exact ⟨rfl, hbel12⟩
  · obtain ⟨hd1, hd2, d, hd3⟩ := open_div (name := name) hone
    have hsz : ∀ e ∈ splitF sNM ns name ++ (splitF sSL ns (compsB target)).dropLast, e.data.size ≤ 1000000 := by
      intro e he
      rcases List.mem_append.1 he with he | he
      · have := splitF_size sNM ns name e he; omega
      · have := splitF_size sSL ns (compsB target) e (List.dropLast_sublist _ |>.mem he); omega
    have hpx : firstB (splitF sNM ns name ++ (splitF sSL ns (compsB target)).dropLast) sPX = none := by
      rw [first_none_iff]
      intro e he
      rcases List.mem_append.1 he with he | he
      · rw [splitF_sig sNM ns name e he]; decide
      · rw [splitF_sig sSL ns (compsB target) e (List.dropLast_sublist _ |>.mem he)]; decide
    have hln : (splitF sNM ns name ++ (splitF sSL ns (compsB target)).dropLast).length ≤ 1000 := by
      have h1 := splitF_len sNM ns name
      have h2 := splitF_len sSL ns (compsB target)
      rw [List.length_append, List.length_dropLast]; omega
    rw [← HLE.out] at hd1
    rw [hd1] at HQ9
    have RD2 := hide (read_open _ _ d hln hsz hpx hd2 hd3 _ w9 HQ9.out)
    have HONE := hide hone
    clear hd1 hd2 hd3 hsz hpx hln hone
    go_wp2_with fail
    refine RD2.out.mono ?_
    rintro e w10 ⟨rfl, hb10⟩
    have hX10 := hX.below hb10
    have hbel10 := hbel9.trans (hb10.mono hbel9.size)
    have hrr10 := RRat.of hX10
    unfold RRat rDiv at hrr10
    simp only at hrr10
    have hfz := hX10.free
    have hxl := hX10.lt
    unfold RR.cells RR.zero
    simp only
    go_upto_region 13 with fail
    obtain ⟨W11, hW11⟩ : ∃ W11, W11 = ((((((((((((((w10.setCell ⟨xb, 0, none⟩ (.bool false)).setCell ⟨xb, 1, none⟩ (.int .i64 0)).setCell ⟨xb, 2, none⟩ (.int .i64 0)).setCell ⟨xb, 3, none⟩ (.int .i64 0)).setCell ⟨xb, 4, none⟩ (.int .i64 0)).setCell ⟨xb, 5, none⟩ (.int .i64 0)).setCell ⟨xb, 6, none⟩ (.bool false)).setCell ⟨xb, 7, none⟩ (.string ⟨#[]⟩)).setCell ⟨xb, 8, none⟩ (.string ⟨#[]⟩)).setCell ⟨xb, 9, none⟩ (.bool false)).setCell ⟨xb, 10, none⟩ (.int .i64 0)).setCell ⟨xb, 11, none⟩ (.int .i64 0)).setCell ⟨xb, 12, none⟩ (.int .i64 0)).setCell ⟨xb, 13, none⟩ (.bool false)) := ⟨_, rfl⟩
    rw [← hW11]
    have hX11 : Blk W11 xb RR.zero.cells 23 := by rw [hW11]; exact Blk.put14 _ _ _ _ _ _ _ _ _ _ _ _ _ _ hX10
    have hbel11 : Below w.heap.size w W11 := by rw [hW11]; (repeat' (first | (with_reducible exact Below.refl _ _) | (with_reducible refine Below.alloc ?_ ?_ _) | (with_reducible refine Below.setCell ?_ ?_ _) | (with_reducible refine Below.drew ?_) | (with_reducible refine below_drewN' ?_) | (with_reducible refine below_bytesW ?_ ?_) | (with_reducible refine Below.trans ?_ (Below.mono (by assumption) ?_)) | omega | (simp only [World.size_alloc, World.size_setCell, World.size_drew]; omega) | (simp [size_bytesW]; omega) | (simp; omega)))
    clear hW11 hrr10 hfz
    go_wp2_with fail
    refine (split_any sSL (compsB target) ns _ W11 (by omega) (by omega) (HC0.out.below hbel11)).mono ?_
    rintro e w12 ⟨vb2, rfl, hob, hb12⟩
    obtain ⟨A12, c12, hvb, _⟩ := OwnE.reads hob
    subst hvb
    have hX12 := hX11.below hb12
    have hrr12 := RRat.of hX12
    unfold RRat RR.zero at hrr12
    simp only at hrr12
    have hl1 : (((splitF sSL ns (compsB target)).length : Int) == 1) = false := by
      rw [beq_eq_false_iff_ne]
      intro h
      exact HONE.out (by omega)
    have hbel12 := hbel11.trans (hb12.mono hbel11.size)
    clear hob
    generalize (splitF sSL ns (compsB target)).length = n2 at *
    go_wp2_with fail
    go_ret
    exact ⟨rfl, hbel12⟩
end Go.Proofs.YtopajpomhflgbaaGreatDoor
