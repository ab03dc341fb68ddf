/- Contracts and plain words for the laws of this chapter, part 35: Lw6. No condition. -/
import Derived.Shelf.Strings.Count
import Derived.Test.YtlhakdildbplkaaGreatDoorE33
import Derived.Test.YtlhakdildbplkaaGreatDoorE21
import Derived.Test.YtlhakdildbplkaaGreatDoorE13
import Derived.Test.YtlhakdildbplkaaGreatDoorE34
namespace Go.Proofs.YtlhakdildbplkaaGreatDoor
set_option linter.unusedSimpArgs false
set_option linter.unusedVariables false
open Go.RowKit
theorem pieces_count (c : UInt8) : ∀ l : List UInt8, (piecesC c l).length = l.count c + 1
  | [] => rfl
  | x :: l => by
    have ih := pieces_count c l
    rw [piecesC]
    by_cases hx : x = c
    · rw [if_pos hx, List.length_cons, ih, hx, List.count_cons_self]
    · rw [if_neg hx, List.count_cons_of_ne hx, ← ih]
      cases hp : piecesC c l with
      | nil => exact absurd hp (piecesC_ne c l)
      | cons p r => rfl
theorem cnt_any (s : ByteArray) (w : World) : Calls Tryz.prog 41 #[.string s, .string ⟨#[10]⟩] w fun e w' => e = .returned (.int .i64 (((piecesC 10 s.data.toList).length : Int) - 1)) ∧ Below w.heap.size w w' :=
  (Any.strings_Count_one Tryz.lays138 s 10 w).mono fun e w' ⟨he, hw⟩ => by
    subst hw
    refine ⟨?_, Below.refl _ _⟩
    rw [he, pieces_count, Lib.countByte]
    congr 2
    omega
theorem okI_okK {x : St ⊕ (Hd × Int)} (h : okI x) : okK x := by
  cases x with
  | inl s => exact trivial
  | inr p => exact h.1
theorem valid_lines_sz {t : Tr} (h : validB t = true) : t.sz ≤ 3 * (linesT t).length := by
  have := items_size (itemsT t) (fun x hx => okI_okK ((tr_items h).1 x hx))
  rwa [sumI_T, ← linesT_items] at this
theorem format_len {t : Tr} {s : ByteArray} (h : formatT t = (s, 0)) : (linesT t).length = s.size ∧ s.size ≤ 65536 := by
  unfold formatT at h
  split at h
  · cases h
  · split at h
    · cases h
    · rename_i hl
      injection h with h _
      subst h
      exact ⟨rfl, by show (linesT t).length ≤ 65536; omega⟩
theorem parse_sz {s : ByteArray} {t : Tr} {i : Int} (h : parseT s = (t, i, 0)) (hs : s.size ≤ 3000) : t.sz ≤ 9000 := by
  obtain ⟨_, h2, h3⟩ := parse_format h
  have h4 := valid_lines_sz h3
  have h5 := (format_len h2).1
  omega
set_option maxRecDepth 100000 in
set_option maxHeartbeats 8000000 in
theorem law_turns (t : Tr) (v : Value) (x : ByteArray) (w : World) (hT : TabA w) (hv : TreeR w w.heap.size v t) (hz : t.sz ≤ 20971520) (hx : x.size ≤ 1048576) :
    Calls Tryz.prog 8 #[v, .string x] w fun e w' => e = .returned (.bool true) ∧ Below w.heap.size w w' := by
  obtain ⟨cn, rfl, hzc⟩ := Nd.cells hv
  have HTA := hide hT
  have HV := hide hv
  have HZ := hide hz
  clear hv hz hT
  have HL : Live w [] := trivial
  go_enter Tryz.func8, Tryz.ntmps8
  go_upto_region 1 with fail
  have HN1 := hide (Nd.new HV.out hzc)
  have hbel1 : Below w.heap.size w (w.alloc (.cells cn 25)) := (Below.refl _ _).alloc (Nat.le_refl _) _
  generalize w.alloc (.cells cn 25) = W1 at *
  obtain ⟨b, hb⟩ : ∃ b, b = w.heap.size := ⟨_, rfl⟩
  rw [← hb] at HN1 ⊢
  clear hb HV hzc
  have AW := hide (awake_any W1 (HTA.out.below hbel1))
  go_upto_if 16 with (go_at_call 11; refine AW.out.mono ?_; rintro e w2 ⟨rfl, hb2⟩)
  have HN2 := hide (HN1.out.below hb2)
  have hbel2 := hbel1.trans (hb2.mono hbel1.size)
  clear HN1 hbel1 hb2 AW
  cases hfew : fewB t 20000 with
  | false =>
    have FW := hide (few_any w2 cn t false hfew HZ.out HN2.out.2.1)
    go_wp2_with (first | ((with_reducible show wpList _ _ _ _ _ _); refine wpList_load_row rfl 25 (.tmp 2) rfl b rfl 25 cn (0, 0) _ HN2.out.1 Tryz.underlying25 rfl (infN HN2.out.2.2) ?_) | (go_at_call 12; refine (FW.out).mono ?_; rintro e w3 ⟨rfl, hb3⟩))
    go_ret
    exact ⟨rfl, hbel2.trans (hb3.mono hbel2.size)⟩
  | true =>
    obtain ⟨hct, hsz⟩ := few_sz hfew
    have FW := hide (few_any w2 cn t true hfew HZ.out HN2.out.2.1)
    clear hfew
    by_cases hxl : x.size ≤ 3000
    case neg =>
      have hxg : (x.size : Int) > 3000 := by omega
      go_wp2_with (first | ((with_reducible show wpList _ _ _ _ _ _); refine wpList_load_row rfl 25 (.tmp 2) rfl b rfl 25 cn (0, 0) _ HN2.out.1 Tryz.underlying25 rfl (infN HN2.out.2.2) ?_) | (go_at_call 12; refine (FW.out).mono ?_; rintro e w3 ⟨rfl, hb3⟩))
      go_ret
      exact ⟨rfl, hbel2.trans (hb3.mono hbel2.size)⟩
    case pos =>
    have hxg : ¬ (x.size : Int) > 3000 := by omega
    go_upto_region 5 with (first | ((with_reducible show wpList _ _ _ _ _ _); refine wpList_load_row rfl 25 (.tmp 2) rfl b rfl 25 cn (0, 0) _ HN2.out.1 Tryz.underlying25 rfl (infN HN2.out.2.2) ?_) | (go_at_call 12; refine (FW.out).mono ?_; rintro e w3 ⟨rfl, hb3⟩))
    have HN3 := hide (HN2.out.below hb3)
    have hbel3 := hbel2.trans (hb3.mono hbel2.size)
    clear HN2 hbel2 hb3 FW hxg
    have FM := hide (format_any t (by omega) (.agg cn) w3 (HTA.out.below hbel3).1 (HTA.out.below hbel3).2.1 HN3.out.2.1)
    obtain ⟨s, er, hfm⟩ : ∃ s er, formatT t = (s, er) := ⟨_, _, rfl⟩
    rw [hfm] at FM
    have HFM := hide hfm
    clear hfm
    go_upto_if 31 with (first | ((with_reducible show wpList _ _ _ _ _ _); refine wpList_load_row rfl 25 (.tmp 2) rfl b rfl 25 cn (0, 0) _ HN3.out.1 Tryz.underlying25 rfl (infN HN3.out.2.2) ?_) | (go_at_call 34; refine (FM.out).mono ?_; rintro e w4 ⟨rfl, hb4⟩))
    have HN4 := hide (HN3.out.below hb4)
    have hbel4 := hbel3.trans (hb4.mono hbel3.size)
    clear HN3 hbel3 hb4 FM
    go_cut [7, 8, 9] from 31 to 55 (fun _ _ _ wz => Below w4.heap.size w4 wz)
    case first =>
      by_cases her : er = 0
      case neg =>
        have q0 : (er == 0) = false := by simp [her]
        have VN := hide (valid_any t (Or.inl (by omega)) (.agg cn) w4 (HTA.out.below hbel4).1 HN4.out.2.1)
        cases hvd : validB t with
        | false =>
          rw [hvd] at VN
          go_wp2_with (first | ((with_reducible show wpList _ _ _ _ _ _); refine wpList_load_row rfl 25 (.tmp 2) rfl b rfl 25 cn (0, 0) _ HN4.out.1 Tryz.underlying25 rfl (infN HN4.out.2.2) ?_) | (go_at_call 20; refine (VN.out).mono ?_; rintro e w5 ⟨rfl, hb5⟩))
          go_meet
          exact hb5
        | true =>
          rw [hvd] at VN
          have e7 : er = 7 := format_error HFM.out her hvd
          subst e7
          clear q0 her
          go_wp2_with (first | ((with_reducible show wpList _ _ _ _ _ _); refine wpList_load_row rfl 25 (.tmp 2) rfl b rfl 25 cn (0, 0) _ HN4.out.1 Tryz.underlying25 rfl (infN HN4.out.2.2) ?_) | (go_at_call 20; refine (VN.out).mono ?_; rintro e w5 ⟨rfl, hb5⟩))
          go_meet
          exact hb5
      case pos =>
        subst her
        have hps := format_parse HFM.out
        have hfl := (format_len HFM.out).2
        have PS := hide (show Calls Tryz.prog 36 #[.string s] w4 fun e w' => ∃ r, e = .returned (.tuple #[r, .int .i64 0, .int .i64 0]) ∧ TreeR w' w'.heap.size r t ∧ Below w4.heap.size w4 w' from by
          refine (parse_all s hfl (parse_small_of HFM.out (by omega)) w4 (HTA.out.below hbel4).1 (HTA.out.below hbel4).2.1 (HTA.out.below hbel4).2.2).mono fun e w' h => ?_
          obtain ⟨r, h1, h2, h3⟩ := h
          rw [hps] at h1 h2
          exact ⟨r, h1, h2, h3⟩)
        clear hps hfl
        go_upto_region 8 with (first | (go_at_call 36; refine (PS.out).mono ?_; rintro e w5 ⟨v5, rfl, HV50, HB50⟩; have HV5 := hide HV50; have HB5 := hide HB50; clear HV50 HB50) | ((with_reducible show wpList _ _ _ _ _ _); refine store_tree rfl (.tmp 7) (.tmp 35) rfl v5 _ rfl rfl rfl HV5.out ?_; rintro cm rfl hzcm h1cm))
        obtain ⟨hM, hb6⟩ := Nd.stored HV5.out hzcm HB5.out
        have HM := hide hM
        have HN6 := hide (HN4.out.below hb6)
        clear hM HV5 HB5 hzcm h1cm PS
        generalize w5.alloc (.cells cm 25) = W6 at *
        obtain ⟨bm, hbm⟩ : ∃ bm, bm = w5.heap.size := ⟨_, rfl⟩
        rw [← hbm] at HM ⊢
        clear hbm
        have QE := hide (req_true t (by omega) (.agg cm) (.agg cn) W6 HM.out.2.1 HN6.out.2.1)
        go_wp2_with (first | ((with_reducible show wpList _ _ _ (Oper.mk (some 45) _ _ _ _ _ :: _) _ _); refine wpList_load_rowG 25 (.tmp 7) rfl rfl bm rfl 25 cm (0, 0) _ (HM.out.1) Tryz.underlying25 rfl (infN HM.out.2.2) ?_) | ((with_reducible show wpList _ _ _ (Oper.mk (some 46) _ _ _ _ _ :: _) _ _); refine wpList_load_rowG 25 (.tmp 2) rfl rfl b rfl 25 cn (0, 0) _ (HN6.out.1) Tryz.underlying25 rfl (infN HN6.out.2.2) ?_) | (go_at_call 29; refine (QE.out).mono ?_; rintro e w7 ⟨rfl, hb7⟩))
        go_meet
        exact hb6.trans (hb7.mono hb6.size)
    have HCUT := hide (show Below w4.heap.size w4 wc from hcut)
    have HN5 := hide (HN4.out.below HCUT.out)
    have hbel5 := hbel4.trans (HCUT.out.mono hbel4.size)
    clear HCUT hcut HN4 hbel4 HFM
    obtain ⟨m, i, er2, hpm⟩ : ∃ m i er, parseT x = (m, i, er) := ⟨_, _, _, rfl⟩
    have PT := hide (parse_all x (by omega) (parse_small (by omega)) wc (HTA.out.below hbel5).1 (HTA.out.below hbel5).2.1 (HTA.out.below hbel5).2.2)
    unfold ParP at PT
    rw [hpm] at PT
    have HPM := hide hpm
    clear hpm
    go_upto_if 63 with (first | (go_at_call 36; refine (PT.out).mono ?_; rintro e w6 ⟨v6, rfl, HV60, HB60⟩; have HV6 := hide HV60; have HB6 := hide HB60; clear HV60 HB60) | ((with_reducible show wpList _ _ _ _ _ _); refine store_tree rfl (.tmp 10) (.tmp 59) rfl v6 _ rfl rfl rfl HV6.out ?_; rintro cp rfl hzcp h1cp))
    obtain ⟨hM, hb7⟩ := Nd.stored HV6.out hzcp HB6.out
    have HM := hide hM
    have hbel7 := hbel5.trans (hb7.mono hbel5.size)
    clear hM hb7 HV6 HB6 hzcp h1cp PT HN5 hbel5
    generalize w6.alloc (.cells cp 25) = W7 at *
    obtain ⟨bp, hbp⟩ : ∃ bp, bp = w6.heap.size := ⟨_, rfl⟩
    rw [← hbp] at HM ⊢
    clear hbp
    by_cases her : er2 = 0
    case neg =>
      have q0 : (er2 == 0) = false := by simp [her]
      have hpe := parse_error HPM.out her
      have CT := hide (cnt_any x W7)
      by_cases hi0 : i = 0
      case pos =>
        subst hi0
        clear hpe
        go_wp2_with (go_at_call 41; refine CT.out.mono ?_; rintro e w8 ⟨rfl, hb8⟩)
        go_ret
        exact ⟨rfl, hbel7⟩
      case neg =>
        obtain ⟨e3, hi1, hi2⟩ := hpe.resolve_left hi0
        subst e3
        have q1 : (i == 0) = false := by simp [hi0]
        have hpl : (piecesC 10 x.data.toList).length ≤ 3001 := by
          have h1 := pieces_len 10 x.data.toList
          have h2 : x.data.toList.length = x.size := Array.length_toList
          omega
        generalize (piecesC 10 x.data.toList).length = np at *
        have q2 : i ≥ 1 := hi1
        have q3 : (np : Int) - 1 + 1 = np := by omega
        go_wp2_with (go_at_call 41; refine CT.out.mono ?_; rintro e w8 ⟨rfl, hb8⟩)
        go_ret
        exact ⟨rfl, hbel7.trans (hb8.mono hbel7.size)⟩
    case pos =>
      subst her
      obtain ⟨hi0, hfm, hvm⟩ := parse_format HPM.out
      have hmz := parse_sz HPM.out hxl
      have FM := hide (format_any m (by omega) (.agg cp) W7 (HTA.out.below hbel7).1 (HTA.out.below hbel7).2.1 HM.out.2.1)
      rw [hfm] at FM
      clear HPM hi0 hfm
      have VM := hide (show ∀ W, Below W7.heap.size W7 W → Calls Tryz.prog 20 #[.agg cp] W fun e w' => e = .returned (.bool true) ∧ Below W.heap.size W w' from fun W h => by
        have h1 := valid_any m (Or.inl (by omega)) (.agg cp) W (HTA.out.below (hbel7.trans (h.mono hbel7.size))).1 (HM.out.2.1.later h)
        rw [hvm] at h1
        exact h1)
      clear hvm hmz
      go_wp2_with (first | ((with_reducible show wpList _ _ _ (Oper.mk (some 94) _ _ _ _ _ :: _) _ _); refine wpList_load_rowG 25 (.tmp 10) rfl rfl bp rfl 25 cp (0, 0) _ (Blk.below hb8 HM.out.1) Tryz.underlying25 rfl (infN HM.out.2.2) ?_) | ((with_reducible show wpList _ _ _ _ _ _); refine wpList_load_row rfl 25 (.tmp 10) rfl bp rfl 25 cp (0, 0) _ HM.out.1 Tryz.underlying25 rfl (infN HM.out.2.2) ?_) | (go_at_call 34; refine (FM.out).mono ?_; rintro e w8 ⟨rfl, hb8⟩) | (go_at_call 20; refine (VM.out _ hb8).mono ?_; rintro e w9 ⟨rfl, hb9⟩))
      go_ret
      exact ⟨rfl, (hbel7.trans (hb8.mono hbel7.size)).trans (hb9.mono (by have := hbel7.size; have := hb8.size; omega))⟩
end Go.Proofs.YtlhakdildbplkaaGreatDoor
