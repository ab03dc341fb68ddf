/- Contracts and plain words for the laws of this chapter, part 40: Lw4. No condition. -/
import Derived.Test.YtlhakdildbplkaaGreatDoorC38
import Derived.Test.YtlhakdildbplkaaGreatDoorC39
namespace Go.Proofs.YtlhakdildbplkaaGreatDoor
set_option linter.unusedSimpArgs false
set_option linter.unusedVariables false
open Go.RowKit
theorem put_small {t k m : Tr} {d : ByteArray} (h : putQ t d k = (m, 0)) : m.sz ≤ t.sz + k.sz := by
  have hv : validB t = true := (put_law h).1
  cases hf : findT t (partsP d) with
  | none => rw [putQ_none hv hf] at h; injection h with _ h2; cases h2
  | some x =>
    by_cases hk : x.h.kind = 0
    · rw [putQ_go hv hf hk] at h
      split at h
      · rename_i h0
        injection h with _ h2
        exact absurd h2 h0
      · injection h with h1 _
        have e1 := updT_sz (f := putK x.ks k) hf
        have e2 := putK_sz x.ks k
        rw [h1] at e1
        omega
    · rw [putQ_kind hv hf hk] at h; injection h with _ h2; cases h2
theorem head_sz (b : Tr) : (⟨b.h, b.ss, .nil⟩ : Tr).sz ≤ b.sz := by
  show b.h.sz + szS b.ss + 0 ≤ b.h.sz + szS b.ss + b.ks.sz
  omega
theorem Nd.tree {w : World} {b : Nat} {c : Array Value} {t : Tr} (h : Nd w b c t) : TreeR w w.heap.size (.agg c) t := h.2.1
/-- A block that holds a node, its kids not asked for. -/
def Nc (w : World) (b : Nat) (x : Tr) (kv sv : Value) : Prop := Blk w b (x.h.cells kv sv) 25 ∧ (∃ A n c, kv = .slice A n c) ∧ StR w w.heap.size sv x.ss
theorem Nd.head {w : World} {b : Nat} {c : Array Value} {t : Tr} (h : Nd w b c t) : ∃ kv sv, c = t.h.cells kv sv ∧ Nc w b t kv sv := by
  obtain ⟨hb, ⟨kv, sv, e, hs, A, cc, hk, _⟩, _⟩ := h
  injection e with e
  subst e
  exact ⟨kv, sv, rfl, hb, ⟨A, _, cc, hk⟩, hs⟩
theorem strs_set {w : World} {b : Nat} {sv v : Value} {ss : List St} {A : Option Addr} {n c : Nat} (hc : w.cell? ⟨b, 10, none⟩ = some (.slice A n c)) (h : StR w w.heap.size sv ss) : StR (w.setCell ⟨b, 10, none⟩ v) (w.setCell ⟨b, 10, none⟩ v).heap.size sv ss := by
  obtain ⟨A2, c2, e, h⟩ := h
  refine ⟨A2, c2, e, fun h0 => ?_⟩
  obtain ⟨g, o, e2, hg, hh⟩ := h h0
  have key : ∀ q s, w.cell? ⟨g, q, none⟩ = some (.string s) → (w.setCell ⟨b, 10, none⟩ v).cell? ⟨g, q, none⟩ = some (.string s) := fun q s hq => by
    by_cases hgb : g = b
    · subst hgb
      have hne : q ≠ 10 := fun e => by subst e; rw [hc] at hq; cases hq
      exact (World.cell?_setCell_other w ⟨g, 10, none⟩ ⟨g, q, none⟩ v (by intro e; injection e with _ e; exact hne e.symm)).trans hq
    · exact (World.cell?_setCell_other w ⟨b, 10, none⟩ ⟨g, q, none⟩ v (by intro e; injection e with e _; exact hgb e.symm)).trans hq
  exact ⟨g, o, e2, by rw [World.size_setCell]; exact hg, fun j s hs => ⟨key _ _ (hh j s hs).1, key _ _ (hh j s hs).2⟩⟩
theorem Nc.self {w : World} {b : Nat} {x : Tr} {kv sv : Value} (h : Nc w b x kv sv) : Nc (w.setCell ⟨b, 10, none⟩ (.slice none 0 0)) b x (.slice none 0 0) sv := by
  obtain ⟨hb, ⟨A, n, c, rfl⟩, hs⟩ := h
  exact ⟨hb.put rfl, ⟨_, _, _, rfl⟩, strs_set ((hb.cells 10).trans rfl) hs⟩
theorem Nc.other {w : World} {b b' : Nat} {x y : Tr} {kv sv kv' sv' : Value} (hne : b ≠ b') (h : Nc w b x kv sv) (h' : Nc w b' y kv' sv') : Nc (w.setCell ⟨b', 10, none⟩ (.slice none 0 0)) b x kv sv := by
  obtain ⟨hb, hk, hs⟩ := h
  obtain ⟨hb', ⟨A, n, c, rfl⟩, _⟩ := h'
  exact ⟨hb.other hne, hk, strs_set ((hb'.cells 10).trans rfl) hs⟩
theorem Nc.node {w : World} {b : Nat} {x : Tr} {sv : Value} (h : Nc w b x (.slice none 0 0) sv) : Nd w b (x.h.cells (.slice none 0 0) sv) ⟨x.h, x.ss, .nil⟩ :=
  ⟨h.1, ⟨_, _, rfl, h.2.2, none, 0, rfl, fun h0 => absurd h0 (Nat.lt_irrefl _)⟩, rfl⟩
set_option maxRecDepth 100000 in
set_option maxHeartbeats 16000000 in
theorem law_puts (t k : Tr) (v vk : Value) (d : ByteArray) (w : World) (hT : TabA w) (hv : TreeR w w.heap.size v t) (hz : t.sz ≤ 20971520) (hd : d.size ≤ 1048576) (hvk : TreeR w w.heap.size vk k) (hzk : k.sz ≤ 20971520) :
    Calls Tryz.prog 9 #[v, .string d, vk] w fun e w' => e = .returned (.bool true) ∧ Below w.heap.size w w' := by
  obtain ⟨cn, rfl, hzc⟩ := Nd.cells hv
  obtain ⟨ck, rfl, hzd⟩ := Nd.cells hvk
  have HTA := hide hT
  have HV := hide hv
  have HVK := hide hvk
  have HZ := hide (And.intro hz hzk)
  clear hv hz hT hvk hzk
  have HL : Live w [] := trivial
  go_enter Tryz.func9, Tryz.ntmps9
  go_upto_region 1 with fail
  have hbel0 : Below w.heap.size w (w.alloc (.cells cn 25)) := (Below.refl _ _).alloc (Nat.le_refl _) _
  have HN1 := hide ((Nd.new HV.out hzc).below (Below.one _ (.cells ck 25)))
  have HK1 := hide (Nd.new (w := w.alloc (.cells cn 25)) (HVK.out.later hbel0) hzd)
  have hbel1 : Below w.heap.size w ((w.alloc (.cells cn 25)).alloc (.cells ck 25)) := hbel0.alloc hbel0.size _
  rw [World.size_alloc] at HK1
  generalize (w.alloc (.cells cn 25)).alloc (.cells ck 25) = W1 at *
  obtain ⟨bk, hbk⟩ : ∃ bk, bk = w.heap.size + 1 := ⟨_, rfl⟩
  rw [← hbk] at HK1 ⊢
  obtain ⟨bn, hbn⟩ : ∃ bn, bn = w.heap.size := ⟨_, rfl⟩
  rw [← hbn] at HN1 ⊢
  clear hbk hbn HV HVK hzc hzd hbel0
  have AW := hide (awake_any W1 (HTA.out.below hbel1))
  go_upto_if 20 with (go_at_call 11; refine AW.out.mono ?_; rintro e w2 ⟨rfl, hb2⟩)
  have HN2 := hide (HN1.out.below hb2)
  have HK2 := hide (HK1.out.below hb2)
  have hbel2 := hbel1.trans (hb2.mono hbel1.size)
  clear HN1 HK1 hbel1 hb2 AW
  cases hfew : fewB t 20000 with
  | false =>
    have FW := hide (few_any w2 cn t false hfew HZ.out.1 HN2.out.2.1)
    go_wp2_with (first | ((with_reducible show wpList _ _ _ _ _ _); refine wpList_load_row rfl 25 (.tmp 3) rfl bn rfl 25 cn (0, 0) _ HN2.out.1 Tryz.underlying25 rfl (infN HN2.out.2.2) ?_) | (go_at_call 12; (with_reducible refine (FW.out).mono ?_); rintro e w3 ⟨rfl, hb3⟩))
    go_ret
    exact ⟨rfl, hbel2.trans (hb3.mono hbel2.size)⟩
  | true =>
  obtain ⟨hct, hsz⟩ := few_sz hfew
  have FW := hide (few_any w2 cn t true hfew HZ.out.1 HN2.out.2.1)
  clear hfew
  cases hfk : fewB k 20000 with
  | false =>
    have FK := hide (fun W h => few_any W ck k false hfk HZ.out.2 h)
    go_wp2_with (first | ((with_reducible show wpList _ _ _ (Oper.mk (some 25) _ _ _ _ _ :: _) _ _); refine wpList_load_rowG 25 (.tmp 5) rfl rfl bk rfl 25 ck (0, 0) _ (Blk.below hb3 HK2.out.1) Tryz.underlying25 rfl (infN HK2.out.2.2) ?_) | ((with_reducible show wpList _ _ _ _ _ _); refine wpList_load_row rfl 25 (.tmp 3) rfl bn rfl 25 cn (0, 0) _ HN2.out.1 Tryz.underlying25 rfl (infN HN2.out.2.2) ?_) | (go_at_call 12; (with_reducible refine (FW.out).mono ?_); rintro e w3 ⟨rfl, hb3⟩) | (go_at_call 12; (with_reducible refine (FK.out _ (HK2.out.below hb3).tree).mono ?_); rintro e w4 ⟨rfl, hb4⟩))
    go_ret
    exact ⟨rfl, hbel2.trans ((hb3.trans (hb4.mono hb3.size)).mono hbel2.size)⟩
  | true =>
  obtain ⟨hck, hsk⟩ := few_sz hfk
  have FK := hide (fun W h => few_any W ck k true hfk HZ.out.2 h)
  clear hfk
  go_upto_region 5 with (first | ((with_reducible show wpList _ _ _ (Oper.mk (some 25) _ _ _ _ _ :: _) _ _); refine wpList_load_rowG 25 (.tmp 5) rfl rfl bk rfl 25 ck (0, 0) _ (Blk.below hb3 HK2.out.1) Tryz.underlying25 rfl (infN HK2.out.2.2) ?_) | ((with_reducible show wpList _ _ _ _ _ _); refine wpList_load_row rfl 25 (.tmp 3) rfl bn rfl 25 cn (0, 0) _ HN2.out.1 Tryz.underlying25 rfl (infN HN2.out.2.2) ?_) | (go_at_call 12; (with_reducible refine (FW.out).mono ?_); rintro e w3 ⟨rfl, hb3⟩) | (go_at_call 12; (with_reducible refine (FK.out _ (HK2.out.below hb3).tree).mono ?_); rintro e w4 ⟨rfl, hb4⟩))
  have HN4 := hide ((HN2.out.below hb3).below hb4)
  have HK4 := hide ((HK2.out.below hb3).below hb4)
  have hbel4 := hbel2.trans ((hb3.trans (hb4.mono hb3.size)).mono hbel2.size)
  clear HN2 HK2 hb3 hb4 hbel2 FW FK
  have PN := hide (put_any t k d (by omega) (by omega) (by omega) (.agg cn) (.agg ck) w4 (HTA.out.below hbel4).1 HN4.out.2.1 HK4.out.2.1)
  have HLW := hide (fun m (h : putQ t d k = (m, 0)) => And.intro (put_law h) (put_small h))
  have HBD := hide (fun m (e : Int) (h : putQ t d k = (m, e)) (he : e ≠ 0) => putQ_bad h he)
  obtain ⟨m, er, hpq⟩ : ∃ m er, putQ t d k = (m, er) := ⟨_, _, rfl⟩
  rw [hpq] at PN
  have HPQ := hide hpq
  clear hpq
  go_upto_region 6 with (first | ((with_reducible show wpList _ _ _ _ _ _); refine wpList_load_row rfl 25 (.tmp 3) rfl bn rfl 25 cn (0, 0) _ HN4.out.1 Tryz.underlying25 rfl (infN HN4.out.2.2) ?_) | ((with_reducible show wpList _ _ _ _ _ _); refine wpList_load_row rfl 25 (.tmp 5) rfl bk rfl 25 ck (0, 0) _ HK4.out.1 Tryz.underlying25 rfl (infN HK4.out.2.2) ?_) | (go_at_call 30; (with_reducible refine (PN.out).mono ?_); rintro e w5 ⟨v5, rfl, HV50, HB50⟩; have HV5 := hide HV50; have HB5 := hide HB50; clear HV50 HB50) | ((with_reducible show wpList _ _ _ _ _ _); refine store_tree rfl (.tmp 7) (.tmp 34) rfl v5 _ rfl rfl rfl HV5.out ?_; rintro cm rfl hzcm h1cm))
  obtain ⟨hM, hb6⟩ := Nd.stored HV5.out hzcm HB5.out
  have HM := hide hM
  have HN6 := hide (HN4.out.below hb6)
  have HK6 := hide (HK4.out.below hb6)
  have hbel6 := hbel4.trans (hb6.mono hbel4.size)
  clear hM hb6 HV5 HB5 hzcm h1cm HN4 HK4 hbel4 PN
  generalize w5.alloc (.cells cm 25) = W6 at *
  obtain ⟨bm, hbm⟩ : ∃ bm, bm = w5.heap.size := ⟨_, rfl⟩
  rw [← hbm] at HM ⊢
  clear hbm
  by_cases her : er = 0
  case neg =>
    have hmz := HBD.out m er HPQ.out her
    rw [hmz] at HM
    obtain ⟨kv, sv, rfl, hB, ⟨A, n, c, rfl⟩, -⟩ := HM.out.head
    have hn0 : n = 0 := by
      obtain ⟨kv', sv', e, _, A', c', e2, _⟩ := HM.out.2.1
      injection e with e
      have e3 := congrArg (fun a : Array Value => a[10]?) e
      have e4 : (Value.slice A n c) = kv' := by injection e3
      rw [e2] at e4
      injection e4 with _ e5 _
    subst hn0
    have c10 : W6.cell? ⟨bm, 10, none⟩ = some (.slice A 0 c) := (hB.cells 10).trans rfl
    have c7 : W6.cell? ⟨bm, 7, none⟩ = some (.int .i64 0) := (hB.cells 7).trans rfl
    have q1 : (er == 0) = false := by simp [her]
    clear hB hmz her
    go_wp2_with fail
    go_ret
    exact ⟨rfl, hbel6⟩
  case pos =>
  subst her
  obtain ⟨⟨hvt, hvm, hgm, hpa, back, hrm, hbk2⟩, hms⟩ := HLW.out m HPQ.out
  have HPA := hide hpa
  have HBK := hide hbk2
  have HVM := hide hvm
  clear HLW HBD HPQ hpa hbk2 hvm
  have ck0 : W6.cell? ⟨bk, 0, none⟩ = some (.string k.h.name) := by
    obtain ⟨kv, sv, e, hB, -⟩ := HK6.out.head
    exact (hB.cells 0).trans rfl
  have hns : k.h.name.size ≤ 20000 := by unfold Tr.sz Hd.sz at hsk; omega
  have hpt : ∃ pt, pt = putPath d k.h.name ∧ pt.size ≤ 2000000 ∧ (if d = eS then pt = k.h.name else pt = d ++ ⟨#[47]⟩ ++ k.h.name) := by
    refine ⟨_, rfl, ?_, ?_⟩
    · unfold putPath
      split
      · omega
      · rw [ByteArray.size_append, ByteArray.size_append]
        show d.size + 1 + _ ≤ _
        omega
    · unfold putPath
      split
      · rfl
      · rfl
  obtain ⟨pt, hp1, hp2, hp3⟩ := hpt
  rw [← hp1] at hgm hrm HPA HBK
  have GM := hide (show ∀ W, Below W6.heap.size W6 W → ∀ q x, q.size ≤ 2000000 → getT m q = (x, 0) → Calls Tryz.prog 21 #[.agg cm, .string q] W fun e w' => ∃ r, e = .returned (.tuple #[r, .int .i64 0]) ∧ TreeR w' w'.heap.size r x ∧ Below W.heap.size W w' from fun W h q x hq hg => by
    have h1 := get_any m q (by omega) hq (.agg cm) W (HTA.out.below (hbel6.trans (h.mono hbel6.size))).1 (HM.out.2.1.later h)
    rw [hg] at h1
    exact h1)
  have GN := hide (show ∀ W, Below W6.heap.size W6 W → ∀ q, q.size ≤ 2000000 → Calls Tryz.prog 21 #[.agg cn, .string q] W fun e w' => ∃ r, e = .returned (.tuple #[r, .int .i64 (getT t q).2]) ∧ TreeR w' w'.heap.size r (getT t q).1 ∧ Below W.heap.size W w' from fun W h q hq => get_any t q (by omega) hq (.agg cn) W (HTA.out.below (hbel6.trans (h.mono hbel6.size))).1 (HN6.out.2.1.later h))
  have VM := hide (show ∀ W, Below W6.heap.size W6 W → Calls Tryz.prog 20 #[.agg cm] W fun e w' => e = .returned (.bool true) ∧ Below W.heap.size W w' from fun W h => by
    have h1 := valid_any m (Or.inl (by omega)) (.agg cm) W (HTA.out.below (hbel6.trans (h.mono hbel6.size))).1 (HM.out.2.1.later h)
    rw [HVM.out] at h1
    exact h1)
  have PN := hide (show ∀ W, Below W6.heap.size W6 W → Calls Tryz.prog 27 #[.agg cn] W fun e w' => ∃ r, e = .returned r ∧ SlR w' w'.heap.size r (pathsT t) ∧ Below W.heap.size W w' from fun W h => (paths_any t (by omega) (.agg cn) W (HTA.out.below (hbel6.trans (h.mono hbel6.size))).1 (HN6.out.2.1.later h)).mono fun e w' ⟨r, h2, h3, h4⟩ => ⟨r, h2, SlR.of h3, h4⟩)
  have RM := hide (show ∀ W, Below W6.heap.size W6 W → Calls Tryz.prog 32 #[.agg cm, .string pt] W fun e w' => ∃ r, e = .returned (.tuple #[r, .int .i64 0]) ∧ TreeR w' w'.heap.size r back ∧ Below W.heap.size W w' from fun W h => by
    have h1 := remove_any m pt (by omega) hp2 (.agg cm) W (HTA.out.below (hbel6.trans (h.mono hbel6.size))).1 (HM.out.2.1.later h)
    rw [hrm] at h1
    exact h1)
  have HPZ := hide (fun q (h : q ∈ pathsT t) => pathsT_size h)
  have hpl : (pathsT t).length ≤ 40 := by rw [paths_len hvt]; exact hct
  generalize pathsT t = ps at *
  have HGM := hide hgm
  clear hgm hrm hp1 hvt
  by_cases hde : d = eS
  case pos =>
    rw [if_pos hde] at hp3
    have q1 : (d.toList == []) = true := by rw [hde, ByteArray.toList_eq]; rfl
    rw [← hp3] at ck0
    clear hde hp3
    go_upto_region 11 with fail
    clear ck0 q1
    go_upto_region 12 with (first | ((with_reducible show wpList _ _ _ _ _ _); refine wpList_load_row rfl 25 (.tmp 7) rfl bm rfl 25 cm (0, 0) _ HM.out.1 Tryz.underlying25 rfl (infN HM.out.2.2) ?_) | (go_at_call 21; (with_reducible refine (GM.out _ (Below.refl _ _) pt k hp2 HGM.out).mono ?_); rintro e w7 ⟨v7, rfl, HV70, HB70⟩; have HV7 := hide HV70; have HB7 := hide HB70; clear HV70 HB70) | ((with_reducible show wpList _ _ _ _ _ _); refine store_tree rfl (.tmp 10) (.tmp 60) rfl v7 _ rfl rfl rfl HV7.out ?_; rintro cx rfl hzcx h1cx))
    obtain ⟨hX, hb8⟩ := Nd.stored HV7.out hzcx HB7.out
    have HX := hide hX
    clear hX HV7 HB7 hzcx h1cx
    generalize w7.alloc (.cells cx 25) = W8 at *
    obtain ⟨bx, hbx⟩ : ∃ bx, bx = w7.heap.size := ⟨_, rfl⟩
    rw [← hbx] at HX ⊢
    clear hbx
    have QX := hide (req_true k (by omega) (.agg cx) (.agg ck) W8 HX.out.2.1 (HK6.out.below hb8).2.1)
    go_upto_region 14 with (first | ((with_reducible show wpList _ _ _ (Oper.mk (some 65) _ _ _ _ _ :: _) _ _); refine wpList_load_rowG 25 (.tmp 10) rfl rfl bx rfl 25 cx (0, 0) _ (HX.out.1) Tryz.underlying25 rfl (infN HX.out.2.2) ?_) | ((with_reducible show wpList _ _ _ (Oper.mk (some 66) _ _ _ _ _ :: _) _ _); refine wpList_load_rowG 25 (.tmp 5) rfl rfl bk rfl 25 ck (0, 0) _ (Blk.below hb8 HK6.out.1) Tryz.underlying25 rfl (infN HK6.out.2.2) ?_) | ((with_reducible show wpList _ _ _ (Oper.mk (some 71) _ _ _ _ _ :: _) _ _); refine wpList_load_rowG 25 (.tmp 7) rfl rfl bm rfl 25 cm (0, 0) _ (Blk.below (hb8.trans (hb9.mono hb8.size)) HM.out.1) Tryz.underlying25 rfl (infN HM.out.2.2) ?_) | (go_at_call 29; (with_reducible refine (QX.out).mono ?_); rintro e w9 ⟨rfl, hb9⟩) | (go_at_call 20; (with_reducible refine (VM.out _ (hb8.trans (hb9.mono hb8.size))).mono ?_); rintro e w10 ⟨rfl, hb10⟩))
    have hba := hb8.trans ((hb9.trans (hb10.mono hb9.size)).mono hb8.size)
    clear hb8 hb9 hb10 HX QX HK6 VM
    have HN10 := hide (HN6.out.below hba)
    have HM10 := hide (HM.out.below hba)
    have PNX := hide (PN.out _ hba)
    go_upto_block 0 with (first | ((with_reducible show wpList _ _ _ _ _ _); refine wpList_load_row rfl 25 (.tmp 3) rfl bn rfl 25 cn (0, 0) _ HN10.out.1 Tryz.underlying25 rfl (infN HN10.out.2.2) ?_) | (go_at_call 27; refine PNX.out.mono ?_; rintro e w11 ⟨v11, rfl, hv11, hb11⟩; obtain ⟨A11, c11, rfl, h11⟩ := hv11))
    have hbb := hba.trans (hb11.mono hba.size)
    have HN11 := hide (HN10.out.below hb11)
    have HM11 := hide (HM10.out.below hb11)
    have HCL := hide h11
    clear hba hb11 HN10 HM10 PN PNX h11
    have HBB := hide hbb
    clear hbb
    go_wp2_with fail
    go_loopw [78] (fun i wr => ∃ j : Nat, i = .int .i64 (j : Int) ∧ j ≤ ps.length ∧ Below w11.heap.size w11 wr) (fun i _ => ps.length - (intOf i).toNat)
    case atStart => exact ⟨0, rfl, by omega, Below.refl _ _⟩
    case round =>
      obtain ⟨j, rfl, hj, hbr⟩ := hrel
      have hbB : Below W6.heap.size W6 wr := HBB.out.trans (hbr.mono HBB.out.size)
      have HNr := hide (HN11.out.below hbr)
      have HMr := hide (HM11.out.below hbr)
      by_cases hlt : j < ps.length
      case neg =>
        obtain rfl : j = ps.length := by omega
        have hrsz := hbr.size
        clear hlt hj HCL HPA HPZ
        have GNx := hide (GN.out _ hbB pt hp2)
        generalize getT t pt = gx at *
        obtain ⟨gx, ge⟩ := gx
        dsimp only at HBK
        go_upto_region 25 with (first | ((with_reducible show wpList _ _ _ _ _ _); refine wpList_load_row rfl 25 (.tmp 3) rfl bn rfl 25 cn (0, 0) _ HNr.out.1 Tryz.underlying25 rfl (infN HNr.out.2.2) ?_) | (go_at_call 21; (with_reducible refine (GNx.out).mono ?_); rintro e w12 ⟨v12, rfl, hv12, hb12⟩))
        have HMs := hide (HMr.out.below hb12)
        have HNs := hide (HNr.out.below hb12)
        have hbC := hbB.trans (hb12.mono hbB.size)
        clear hv12 HMr HNr
        go_upto_region 26 with (first | ((with_reducible show wpList _ _ _ _ _ _); refine wpList_load_row rfl 25 (.tmp 7) rfl bm rfl 25 cm (0, 0) _ HMs.out.1 Tryz.underlying25 rfl (infN HMs.out.2.2) ?_) | (go_at_call 32; (with_reducible refine (RM.out _ hbC).mono ?_); rintro e w13 ⟨v13, rfl, HV130, HB130⟩; have HV13 := hide HV130; have HB13 := hide HB130; clear HV130 HB130) | ((with_reducible show wpList _ _ _ _ _ _); refine store_tree rfl (.tmp 17) (.tmp 128) rfl v13 _ rfl rfl rfl HV13.out ?_; rintro cb rfl hzcb h1cb))
        obtain ⟨hQ, hb14⟩ := Nd.stored HV13.out hzcb HB13.out
        have HQ := hide hQ
        have HNt := hide (HNs.out.below hb14)
        have hbD := hbC.trans (hb14.mono hbC.size)
        have hbel := hbel6.trans (hbD.mono hbel6.size)
        clear hQ HV13 HB13 hzcb h1cb HMs HNs hb14 hbD hbC hbB hb12 hbr
        generalize w13.alloc (.cells cb 25) = W14 at *
        obtain ⟨bb, hbb⟩ : ∃ bb, bb = w13.heap.size := ⟨_, rfl⟩
        rw [← hbb] at HQ ⊢
        clear hbb
        by_cases hge : ge = 0
        case pos =>
          subst hge
          go_wp2_with fail
          go_ret
          exact ⟨rfl, hbel⟩
        case neg =>
          have hq : (ge == 0) = false := by simp [hge]
          rw [HBK.out hge] at HQ
          have QN := hide (req_true t (by omega) (.agg cb) (.agg cn) W14 HQ.out.2.1 HNt.out.2.1)
          clear hge HBK
          go_wp2_with (first | ((with_reducible show wpList _ _ _ (Oper.mk (some 136) _ _ _ _ _ :: _) _ _); refine wpList_load_rowG 25 (.tmp 17) rfl rfl bb rfl 25 cb (0, 0) _ (HQ.out.1) Tryz.underlying25 rfl (infN HQ.out.2.2) ?_) | ((with_reducible show wpList _ _ _ (Oper.mk (some 137) _ _ _ _ _ :: _) _ _); refine wpList_load_rowG 25 (.tmp 3) rfl rfl bn rfl 25 cn (0, 0) _ (HNt.out.1) Tryz.underlying25 rfl (infN HNt.out.2.2) ?_) | (go_at_call 29; (with_reducible refine (QN.out).mono ?_); rintro e w15 ⟨rfl, hb15⟩))
          go_ret
          exact ⟨rfl, hbel.trans (hb15.mono hbel.size)⟩
      case pos =>
      obtain ⟨q, hq⟩ : ∃ q, ps[j]? = some q := ⟨_, List.getElem?_eq_getElem hlt⟩
      obtain ⟨g, o, rfl, hg, hcl⟩ := HCL.out (by omega)
      have s1 : wr.cell? ⟨g, o + j, none⟩ = some (.string q) := (hbr.cell (p := ⟨g, o + j, none⟩) hg).trans (hcl j q hq)
      have hqz : q.size ≤ 2000000 := by have := HPZ.out q (List.mem_of_getElem? hq); omega
      have HPq := hide (HPA.out q (List.mem_of_getElem? hq))
      have HP1 := hide (hpre q (pt ++ ⟨#[47]⟩))
      rw [under_pre] at HP1
      clear hq hcl HPA HPZ
      have hptz : pt.size + 1 ≤ 2000001 := by omega
      by_cases hqp : q = pt
      case pos =>
        have q2 : (q.toList == pt.toList) = true := by rw [hqp]; exact beq_self_eq_true _
        clear hqp HPq HP1
        go_wp2_with fail
        go_roundw
        case rel => exact ⟨j + 1, by go_num, by omega, hbr⟩
        case measure => simp [intOf]; omega
      case neg =>
      have q2 : (q.toList == pt.toList) = false := by
        rw [beq_eq_false_iff_ne]
        intro e
        exact hqp (ByteArray.ext (Array.toList_inj.1 (by rw [← ByteArray.toList_eq, ← ByteArray.toList_eq]; exact e)))
      rw [keep_under hqp] at HPq
      clear hqp
      cases hun : underB pt q with
      | true =>
        rw [hun] at HP1
        clear hun HPq
        go_wp2_with (go_at_call 42; refine (HP1.out _).mono ?_; rintro e w12 ⟨rfl, rfl⟩)
        go_roundw
        case rel => exact ⟨j + 1, by go_num, by omega, hbr⟩
        case measure => simp [intOf]; omega
      | false =>
        rw [hun] at HP1 HPq
        clear hun
        obtain ⟨a, b, ga, gb, hab, habs⟩ := HPq.out rfl
        have GNq := hide (show Calls Tryz.prog 21 #[.agg cn, .string q] wr fun e w' => ∃ r, e = .returned (.tuple #[r, .int .i64 0]) ∧ TreeR w' w'.heap.size r a ∧ Below wr.heap.size wr w' from by have h1 := GN.out _ hbB q hqz; rw [ga] at h1; exact h1)
        clear ga HPq
        go_upto_region 19 with (first | (go_at_call 42; refine (HP1.out _).mono ?_; rintro e w12 ⟨rfl, rfl⟩) | ((with_reducible show wpList _ _ _ _ _ _); refine wpList_load_row rfl 25 (.tmp 3) rfl bn rfl 25 cn (0, 0) _ HNr.out.1 Tryz.underlying25 rfl (infN HNr.out.2.2) ?_) | (go_at_call 21; (with_reducible refine (GNq.out).mono ?_); rintro e w13 ⟨v13, rfl, HV130, HB130⟩; have HV13 := hide HV130; have HB13 := hide HB130; clear HV130 HB130) | ((with_reducible show wpList _ _ _ _ _ _); refine store_tree rfl (.tmp 13) (.tmp 95) rfl v13 _ rfl rfl rfl HV13.out ?_; rintro ca rfl hzca h1ca))
        obtain ⟨hA, hb14⟩ := Nd.stored HV13.out hzca HB13.out
        have HA := hide hA
        have HMs := hide (HMr.out.below hb14)
        have hbC := hbB.trans (hb14.mono hbB.size)
        have hbr14 := hbr.trans (hb14.mono hbr.size)
        have hage : wr.heap.size ≤ w13.heap.size := HB13.out.size
        clear hA HV13 HB13 hzca h1ca hb14 GNq HMr HNr hbB
        generalize w13.alloc (.cells ca 25) = W14 at *
        obtain ⟨ba, hba⟩ : ∃ ba, ba = w13.heap.size := ⟨_, rfl⟩
        rw [← hba] at HA hage ⊢
        clear hba
        have GMq := hide (GM.out _ hbC q b hqz gb)
        go_upto_region 20 with (first | ((with_reducible show wpList _ _ _ _ _ _); refine wpList_load_row rfl 25 (.tmp 7) rfl bm rfl 25 cm (0, 0) _ HMs.out.1 Tryz.underlying25 rfl (infN HMs.out.2.2) ?_) | (go_at_call 21; (with_reducible refine (GMq.out).mono ?_); rintro e w15 ⟨v15, rfl, HV150, HB150⟩; have HV15 := hide HV150; have HB15 := hide HB150; clear HV150 HB150) | ((with_reducible show wpList _ _ _ _ _ _); refine store_tree rfl (.tmp 15) (.tmp 101) rfl v15 _ rfl rfl rfl HV15.out ?_; rintro cb rfl hzcb h1cb))
        obtain ⟨hB, hb16⟩ := Nd.stored HV15.out hzcb HB15.out
        have HA6 := hide (HA.out.below hb16)
        have HB := hide hB
        have hbr16 := hbr14.trans (hb16.mono hbr14.size)
        have hbge : ba < w15.heap.size := Nat.lt_of_lt_of_le HA.out.lt HB15.out.size
        clear hB HV15 HB15 hzcb h1cb hb16 GMq HMs hbC HA hbr14
        generalize w15.alloc (.cells cb 25) = W16 at *
        obtain ⟨bb, hbb⟩ : ∃ bb, bb = w15.heap.size := ⟨_, rfl⟩
        rw [← hbb] at HB hbge ⊢
        clear hbb
        have hsr := hbr.size
        obtain ⟨kva, sva, hca, NA⟩ := HA6.out.head
        obtain ⟨kvb, svb, hcb, NB⟩ := HB.out.head
        have hne : ba ≠ bb := by omega
        obtain ⟨A1, n1, c1, rfl⟩ := NA.2.1
        obtain ⟨A2, n2, c2, rfl⟩ := NB.2.1
        have c10a : W16.cell? ⟨ba, 10, none⟩ = some (.slice A1 n1 c1) := (NA.1.cells 10).trans rfl
        have f10a : W16.frozen? ⟨ba, 10, none⟩ = false := NA.1.free 10
        have NB2 := NB.other (Ne.symm hne) NA
        have NA2 := NA.self
        have c10b : (W16.setCell ⟨ba, 10, none⟩ (.slice none 0 0)).cell? ⟨bb, 10, none⟩ = some (.slice A2 n2 c2) := (NB2.1.cells 10).trans rfl
        have f10b : (W16.setCell ⟨ba, 10, none⟩ (.slice none 0 0)).frozen? ⟨bb, 10, none⟩ = false := NB2.1.free 10
        have NA3 := hide (NA2.other hne NB2).node
        have NB3 := hide NB2.self.node
        have hbs : Below w11.heap.size w11 ((W16.setCell ⟨ba, 10, none⟩ (.slice none 0 0)).setCell ⟨bb, 10, none⟩ (.slice none 0 0)) := Below.setCell (Below.setCell hbr16 (by show w11.heap.size ≤ ba; omega) _) (by show w11.heap.size ≤ bb; omega) _
        clear NA NB NA2 NB2 HA6 HB hca hcb
        go_upto_region 21 with fail
        clear c10a f10a c10b f10b hbr16
        generalize (W16.setCell ⟨ba, 10, none⟩ (.slice none 0 0)).setCell ⟨bb, 10, none⟩ (.slice none 0 0) = W17 at *
        rw [hab, habs] at NA3
        have QAB := hide (req_true ⟨b.h, b.ss, .nil⟩ (by have h1 := getT_sz (p := q) (n := 40000) (t := m) (by omega) (by omega); rw [gb] at h1; have h2 := head_sz b; dsimp only at h1; omega) _ _ W17 NA3.out.2.1 NB3.out.2.1)
        go_wp2_with (first | ((with_reducible show wpList _ _ _ (Oper.mk (some 112) _ _ _ _ _ :: _) _ _); refine wpList_load_rowG 25 (.tmp 13) rfl rfl ba rfl 25 _ (0, 0) _ (NA3.out.1) Tryz.underlying25 rfl (infN NA3.out.2.2) ?_) | ((with_reducible show wpList _ _ _ (Oper.mk (some 113) _ _ _ _ _ :: _) _ _); refine wpList_load_rowG 25 (.tmp 15) rfl rfl bb rfl 25 _ (0, 0) _ (NB3.out.1) Tryz.underlying25 rfl (infN NB3.out.2.2) ?_) | (go_at_call 29; (with_reducible refine (QAB.out).mono ?_); rintro e w18 ⟨rfl, hb18⟩))
        go_roundw
        case rel => exact ⟨j + 1, by go_num, by omega, hbs.trans (hb18.mono hbs.size)⟩
        case measure => simp [intOf]; omega

  case neg =>
    rw [if_neg hde] at hp3
    have q1 : (d.toList == []) = false := by
      rw [beq_eq_false_iff_ne]
      exact fun e => hde (nil_list e)
    clear hde
    go_upto_region 11 with fail
    rw [← hp3]
    clear ck0 q1 hp3
    go_upto_region 12 with (first | ((with_reducible show wpList _ _ _ _ _ _); refine wpList_load_row rfl 25 (.tmp 7) rfl bm rfl 25 cm (0, 0) _ HM.out.1 Tryz.underlying25 rfl (infN HM.out.2.2) ?_) | (go_at_call 21; (with_reducible refine (GM.out _ (Below.refl _ _) pt k hp2 HGM.out).mono ?_); rintro e w7 ⟨v7, rfl, HV70, HB70⟩; have HV7 := hide HV70; have HB7 := hide HB70; clear HV70 HB70) | ((with_reducible show wpList _ _ _ _ _ _); refine store_tree rfl (.tmp 10) (.tmp 60) rfl v7 _ rfl rfl rfl HV7.out ?_; rintro cx rfl hzcx h1cx))
    obtain ⟨hX, hb8⟩ := Nd.stored HV7.out hzcx HB7.out
    have HX := hide hX
    clear hX HV7 HB7 hzcx h1cx
    generalize w7.alloc (.cells cx 25) = W8 at *
    obtain ⟨bx, hbx⟩ : ∃ bx, bx = w7.heap.size := ⟨_, rfl⟩
    rw [← hbx] at HX ⊢
    clear hbx
    have QX := hide (req_true k (by omega) (.agg cx) (.agg ck) W8 HX.out.2.1 (HK6.out.below hb8).2.1)
    go_upto_region 14 with (first | ((with_reducible show wpList _ _ _ (Oper.mk (some 65) _ _ _ _ _ :: _) _ _); refine wpList_load_rowG 25 (.tmp 10) rfl rfl bx rfl 25 cx (0, 0) _ (HX.out.1) Tryz.underlying25 rfl (infN HX.out.2.2) ?_) | ((with_reducible show wpList _ _ _ (Oper.mk (some 66) _ _ _ _ _ :: _) _ _); refine wpList_load_rowG 25 (.tmp 5) rfl rfl bk rfl 25 ck (0, 0) _ (Blk.below hb8 HK6.out.1) Tryz.underlying25 rfl (infN HK6.out.2.2) ?_) | ((with_reducible show wpList _ _ _ (Oper.mk (some 71) _ _ _ _ _ :: _) _ _); refine wpList_load_rowG 25 (.tmp 7) rfl rfl bm rfl 25 cm (0, 0) _ (Blk.below (hb8.trans (hb9.mono hb8.size)) HM.out.1) Tryz.underlying25 rfl (infN HM.out.2.2) ?_) | (go_at_call 29; (with_reducible refine (QX.out).mono ?_); rintro e w9 ⟨rfl, hb9⟩) | (go_at_call 20; (with_reducible refine (VM.out _ (hb8.trans (hb9.mono hb8.size))).mono ?_); rintro e w10 ⟨rfl, hb10⟩))
    have hba := hb8.trans ((hb9.trans (hb10.mono hb9.size)).mono hb8.size)
    clear hb8 hb9 hb10 HX QX HK6 VM
    have HN10 := hide (HN6.out.below hba)
    have HM10 := hide (HM.out.below hba)
    have PNX := hide (PN.out _ hba)
    go_upto_block 0 with (first | ((with_reducible show wpList _ _ _ _ _ _); refine wpList_load_row rfl 25 (.tmp 3) rfl bn rfl 25 cn (0, 0) _ HN10.out.1 Tryz.underlying25 rfl (infN HN10.out.2.2) ?_) | (go_at_call 27; refine PNX.out.mono ?_; rintro e w11 ⟨v11, rfl, hv11, hb11⟩; obtain ⟨A11, c11, rfl, h11⟩ := hv11))
    have hbb := hba.trans (hb11.mono hba.size)
    have HN11 := hide (HN10.out.below hb11)
    have HM11 := hide (HM10.out.below hb11)
    have HCL := hide h11
    clear hba hb11 HN10 HM10 PN PNX h11
    have HBB := hide hbb
    clear hbb
    go_wp2_with fail
    go_loopw [78] (fun i wr => ∃ j : Nat, i = .int .i64 (j : Int) ∧ j ≤ ps.length ∧ Below w11.heap.size w11 wr) (fun i _ => ps.length - (intOf i).toNat)
    case atStart => exact ⟨0, rfl, by omega, Below.refl _ _⟩
    case round =>
      obtain ⟨j, rfl, hj, hbr⟩ := hrel
      have hbB : Below W6.heap.size W6 wr := HBB.out.trans (hbr.mono HBB.out.size)
      have HNr := hide (HN11.out.below hbr)
      have HMr := hide (HM11.out.below hbr)
      by_cases hlt : j < ps.length
      case neg =>
        obtain rfl : j = ps.length := by omega
        have hrsz := hbr.size
        clear hlt hj HCL HPA HPZ
        have GNx := hide (GN.out _ hbB pt hp2)
        generalize getT t pt = gx at *
        obtain ⟨gx, ge⟩ := gx
        dsimp only at HBK
        go_upto_region 25 with (first | ((with_reducible show wpList _ _ _ _ _ _); refine wpList_load_row rfl 25 (.tmp 3) rfl bn rfl 25 cn (0, 0) _ HNr.out.1 Tryz.underlying25 rfl (infN HNr.out.2.2) ?_) | (go_at_call 21; (with_reducible refine (GNx.out).mono ?_); rintro e w12 ⟨v12, rfl, hv12, hb12⟩))
        have HMs := hide (HMr.out.below hb12)
        have HNs := hide (HNr.out.below hb12)
        have hbC := hbB.trans (hb12.mono hbB.size)
        clear hv12 HMr HNr
        go_upto_region 26 with (first | ((with_reducible show wpList _ _ _ _ _ _); refine wpList_load_row rfl 25 (.tmp 7) rfl bm rfl 25 cm (0, 0) _ HMs.out.1 Tryz.underlying25 rfl (infN HMs.out.2.2) ?_) | (go_at_call 32; (with_reducible refine (RM.out _ hbC).mono ?_); rintro e w13 ⟨v13, rfl, HV130, HB130⟩; have HV13 := hide HV130; have HB13 := hide HB130; clear HV130 HB130) | ((with_reducible show wpList _ _ _ _ _ _); refine store_tree rfl (.tmp 17) (.tmp 128) rfl v13 _ rfl rfl rfl HV13.out ?_; rintro cb rfl hzcb h1cb))
        obtain ⟨hQ, hb14⟩ := Nd.stored HV13.out hzcb HB13.out
        have HQ := hide hQ
        have HNt := hide (HNs.out.below hb14)
        have hbD := hbC.trans (hb14.mono hbC.size)
        have hbel := hbel6.trans (hbD.mono hbel6.size)
        clear hQ HV13 HB13 hzcb h1cb HMs HNs hb14 hbD hbC hbB hb12 hbr
        generalize w13.alloc (.cells cb 25) = W14 at *
        obtain ⟨bb, hbb⟩ : ∃ bb, bb = w13.heap.size := ⟨_, rfl⟩
        rw [← hbb] at HQ ⊢
        clear hbb
        by_cases hge : ge = 0
        case pos =>
          subst hge
          go_wp2_with fail
          go_ret
          exact ⟨rfl, hbel⟩
        case neg =>
          have hq : (ge == 0) = false := by simp [hge]
          rw [HBK.out hge] at HQ
          have QN := hide (req_true t (by omega) (.agg cb) (.agg cn) W14 HQ.out.2.1 HNt.out.2.1)
          clear hge HBK
          go_wp2_with (first | ((with_reducible show wpList _ _ _ (Oper.mk (some 136) _ _ _ _ _ :: _) _ _); refine wpList_load_rowG 25 (.tmp 17) rfl rfl bb rfl 25 cb (0, 0) _ (HQ.out.1) Tryz.underlying25 rfl (infN HQ.out.2.2) ?_) | ((with_reducible show wpList _ _ _ (Oper.mk (some 137) _ _ _ _ _ :: _) _ _); refine wpList_load_rowG 25 (.tmp 3) rfl rfl bn rfl 25 cn (0, 0) _ (HNt.out.1) Tryz.underlying25 rfl (infN HNt.out.2.2) ?_) | (go_at_call 29; (with_reducible refine (QN.out).mono ?_); rintro e w15 ⟨rfl, hb15⟩))
          go_ret
          exact ⟨rfl, hbel.trans (hb15.mono hbel.size)⟩
      case pos =>
      obtain ⟨q, hq⟩ : ∃ q, ps[j]? = some q := ⟨_, List.getElem?_eq_getElem hlt⟩
      obtain ⟨g, o, rfl, hg, hcl⟩ := HCL.out (by omega)
      have s1 : wr.cell? ⟨g, o + j, none⟩ = some (.string q) := (hbr.cell (p := ⟨g, o + j, none⟩) hg).trans (hcl j q hq)
      have hqz : q.size ≤ 2000000 := by have := HPZ.out q (List.mem_of_getElem? hq); omega
      have HPq := hide (HPA.out q (List.mem_of_getElem? hq))
      have HP1 := hide (hpre q (pt ++ ⟨#[47]⟩))
      rw [under_pre] at HP1
      clear hq hcl HPA HPZ
      have hptz : pt.size + 1 ≤ 2000001 := by omega
      by_cases hqp : q = pt
      case pos =>
        have q2 : (q.toList == pt.toList) = true := by rw [hqp]; exact beq_self_eq_true _
        clear hqp HPq HP1
        go_wp2_with fail
        go_roundw
        case rel => exact ⟨j + 1, by go_num, by omega, hbr⟩
        case measure => simp [intOf]; omega
      case neg =>
      have q2 : (q.toList == pt.toList) = false := by
        rw [beq_eq_false_iff_ne]
        intro e
        exact hqp (ByteArray.ext (Array.toList_inj.1 (by rw [← ByteArray.toList_eq, ← ByteArray.toList_eq]; exact e)))
      rw [keep_under hqp] at HPq
      clear hqp
      cases hun : underB pt q with
      | true =>
        rw [hun] at HP1
        clear hun HPq
        go_wp2_with (go_at_call 42; refine (HP1.out _).mono ?_; rintro e w12 ⟨rfl, rfl⟩)
        go_roundw
        case rel => exact ⟨j + 1, by go_num, by omega, hbr⟩
        case measure => simp [intOf]; omega
      | false =>
        rw [hun] at HP1 HPq
        clear hun
        obtain ⟨a, b, ga, gb, hab, habs⟩ := HPq.out rfl
        have GNq := hide (show Calls Tryz.prog 21 #[.agg cn, .string q] wr fun e w' => ∃ r, e = .returned (.tuple #[r, .int .i64 0]) ∧ TreeR w' w'.heap.size r a ∧ Below wr.heap.size wr w' from by have h1 := GN.out _ hbB q hqz; rw [ga] at h1; exact h1)
        clear ga HPq
        go_upto_region 19 with (first | (go_at_call 42; refine (HP1.out _).mono ?_; rintro e w12 ⟨rfl, rfl⟩) | ((with_reducible show wpList _ _ _ _ _ _); refine wpList_load_row rfl 25 (.tmp 3) rfl bn rfl 25 cn (0, 0) _ HNr.out.1 Tryz.underlying25 rfl (infN HNr.out.2.2) ?_) | (go_at_call 21; (with_reducible refine (GNq.out).mono ?_); rintro e w13 ⟨v13, rfl, HV130, HB130⟩; have HV13 := hide HV130; have HB13 := hide HB130; clear HV130 HB130) | ((with_reducible show wpList _ _ _ _ _ _); refine store_tree rfl (.tmp 13) (.tmp 95) rfl v13 _ rfl rfl rfl HV13.out ?_; rintro ca rfl hzca h1ca))
        obtain ⟨hA, hb14⟩ := Nd.stored HV13.out hzca HB13.out
        have HA := hide hA
        have HMs := hide (HMr.out.below hb14)
        have hbC := hbB.trans (hb14.mono hbB.size)
        have hbr14 := hbr.trans (hb14.mono hbr.size)
        have hage : wr.heap.size ≤ w13.heap.size := HB13.out.size
        clear hA HV13 HB13 hzca h1ca hb14 GNq HMr HNr hbB
        generalize w13.alloc (.cells ca 25) = W14 at *
        obtain ⟨ba, hba⟩ : ∃ ba, ba = w13.heap.size := ⟨_, rfl⟩
        rw [← hba] at HA hage ⊢
        clear hba
        have GMq := hide (GM.out _ hbC q b hqz gb)
        go_upto_region 20 with (first | ((with_reducible show wpList _ _ _ _ _ _); refine wpList_load_row rfl 25 (.tmp 7) rfl bm rfl 25 cm (0, 0) _ HMs.out.1 Tryz.underlying25 rfl (infN HMs.out.2.2) ?_) | (go_at_call 21; (with_reducible refine (GMq.out).mono ?_); rintro e w15 ⟨v15, rfl, HV150, HB150⟩; have HV15 := hide HV150; have HB15 := hide HB150; clear HV150 HB150) | ((with_reducible show wpList _ _ _ _ _ _); refine store_tree rfl (.tmp 15) (.tmp 101) rfl v15 _ rfl rfl rfl HV15.out ?_; rintro cb rfl hzcb h1cb))
        obtain ⟨hB, hb16⟩ := Nd.stored HV15.out hzcb HB15.out
        have HA6 := hide (HA.out.below hb16)
        have HB := hide hB
        have hbr16 := hbr14.trans (hb16.mono hbr14.size)
        have hbge : ba < w15.heap.size := Nat.lt_of_lt_of_le HA.out.lt HB15.out.size
        clear hB HV15 HB15 hzcb h1cb hb16 GMq HMs hbC HA hbr14
        generalize w15.alloc (.cells cb 25) = W16 at *
        obtain ⟨bb, hbb⟩ : ∃ bb, bb = w15.heap.size := ⟨_, rfl⟩
        rw [← hbb] at HB hbge ⊢
        clear hbb
        have hsr := hbr.size
        obtain ⟨kva, sva, hca, NA⟩ := HA6.out.head
        obtain ⟨kvb, svb, hcb, NB⟩ := HB.out.head
        have hne : ba ≠ bb := by omega
        obtain ⟨A1, n1, c1, rfl⟩ := NA.2.1
        obtain ⟨A2, n2, c2, rfl⟩ := NB.2.1
        have c10a : W16.cell? ⟨ba, 10, none⟩ = some (.slice A1 n1 c1) := (NA.1.cells 10).trans rfl
        have f10a : W16.frozen? ⟨ba, 10, none⟩ = false := NA.1.free 10
        have NB2 := NB.other (Ne.symm hne) NA
        have NA2 := NA.self
        have c10b : (W16.setCell ⟨ba, 10, none⟩ (.slice none 0 0)).cell? ⟨bb, 10, none⟩ = some (.slice A2 n2 c2) := (NB2.1.cells 10).trans rfl
        have f10b : (W16.setCell ⟨ba, 10, none⟩ (.slice none 0 0)).frozen? ⟨bb, 10, none⟩ = false := NB2.1.free 10
        have NA3 := hide (NA2.other hne NB2).node
        have NB3 := hide NB2.self.node
        have hbs : Below w11.heap.size w11 ((W16.setCell ⟨ba, 10, none⟩ (.slice none 0 0)).setCell ⟨bb, 10, none⟩ (.slice none 0 0)) := Below.setCell (Below.setCell hbr16 (by show w11.heap.size ≤ ba; omega) _) (by show w11.heap.size ≤ bb; omega) _
        clear NA NB NA2 NB2 HA6 HB hca hcb
        go_upto_region 21 with fail
        clear c10a f10a c10b f10b hbr16
        generalize (W16.setCell ⟨ba, 10, none⟩ (.slice none 0 0)).setCell ⟨bb, 10, none⟩ (.slice none 0 0) = W17 at *
        rw [hab, habs] at NA3
        have QAB := hide (req_true ⟨b.h, b.ss, .nil⟩ (by have h1 := getT_sz (p := q) (n := 40000) (t := m) (by omega) (by omega); rw [gb] at h1; have h2 := head_sz b; dsimp only at h1; omega) _ _ W17 NA3.out.2.1 NB3.out.2.1)
        go_wp2_with (first | ((with_reducible show wpList _ _ _ (Oper.mk (some 112) _ _ _ _ _ :: _) _ _); refine wpList_load_rowG 25 (.tmp 13) rfl rfl ba rfl 25 _ (0, 0) _ (NA3.out.1) Tryz.underlying25 rfl (infN NA3.out.2.2) ?_) | ((with_reducible show wpList _ _ _ (Oper.mk (some 113) _ _ _ _ _ :: _) _ _); refine wpList_load_rowG 25 (.tmp 15) rfl rfl bb rfl 25 _ (0, 0) _ (NB3.out.1) Tryz.underlying25 rfl (infN NB3.out.2.2) ?_) | (go_at_call 29; (with_reducible refine (QAB.out).mono ?_); rintro e w18 ⟨rfl, hb18⟩))
        go_roundw
        case rel => exact ⟨j + 1, by go_num, by omega, hbs.trans (hb18.mono hbs.size)⟩
        case measure => simp [intOf]; omega
end Go.Proofs.YtlhakdildbplkaaGreatDoor
