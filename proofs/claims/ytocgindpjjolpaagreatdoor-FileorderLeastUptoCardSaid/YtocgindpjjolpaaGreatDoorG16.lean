/- Contracts and plain words for the laws of this chapter, part 16: Fw3, Sw. No condition. -/
import Derived.Test.YtocgindpjjolpaaGreatDoorG15
import Derived.Shelf.SlSortCmp.InsertionK
import Derived.Test.YtocgindpjjolpaaGreatDoorG13
namespace Go.Proofs.YtocgindpjjolpaaGreatDoor
set_option linter.unusedSimpArgs false
set_option linter.unusedVariables false
open Go.RowKit
theorem last_le {q : ByteArray} {r : Int} (h : LastAt q r) : max 0 r ≤ (q.size : Int) := by
  rcases h with ⟨rfl, -⟩ | ⟨i, rfl, h, -⟩
  · omega
  · have := last_size h
    omega
theorem last_path {t x : Tr} {q : ByteArray} {r : Int} (hv : validB t = true) (hx : findT t (partsP q) = some x) (h0 : x.h.weight = 0) (hq : q ≠ eS) (h : LastAt q r) : weightT t (q.extract 0 (max 0 r).toNat) = weightT t q ∧ (q.extract 0 (max 0 r).toNat).size < q.size := by
  have hq0 : 0 < q.size := by
    rcases Nat.eq_zero_or_pos q.size with e | e
    · exact absurd (ByteArray.ext (Array.eq_empty_of_size_eq_zero e)) hq
    · exact e
  rcases h with ⟨rfl, hno⟩ | ⟨i, rfl, hat, hn⟩
  · have e : q.extract 0 (max (0 : Int) (-1)).toNat = eS := by
      have e1 : (max (0 : Int) (-1)).toNat = 0 := rfl
      rw [e1]
      apply ByteArray.ext
      simp
    rw [e]
    exact ⟨weight_up hv hx h0 (parts_one hq hno), hq0⟩
  · have hl := last_size hat
    have e : (max (0 : Int) (i : Int)).toNat = i := by omega
    rw [e]
    exact ⟨weight_up hv hx h0 (parts_at hv hx hat hn), by simp only [ByteArray.size_extract]; omega⟩
theorem ret_w {a b : Int} {x : Int × Int} (h : x = (a, b)) : Ending.returned (.tuple #[.int .i64 a, .int .i64 b]) = .returned (.tuple #[.int .i64 x.1, .int .i64 x.2]) := by rw [h]
set_option maxRecDepth 100000 in
set_option maxHeartbeats 4000000 in
theorem weight_any (t : Tr) (p : ByteArray) (hsz : t.sz ≤ 120000) (hp : p.size ≤ 2000000) (v : Value) (w : World) (hT : TabV w) (hv : TreeR w w.heap.size v t) : Calls Tryz.prog 13 #[v, .string p] w fun e w' => e = .returned (.tuple #[.int .i64 (weightT t p).1, .int .i64 (weightT t p).2]) ∧ Below w.heap.size w w' := by
  have GN := hide (fun p hp W hTW hW => get_any t p hsz hp v W hTW hW)
  obtain ⟨cn, rfl, hzc⟩ := Nd.cells hv
  have HV := hide hv
  clear hv
  have HL : Live w [] := trivial
  go_enter Tryz.func13, Tryz.ntmps13
  go_upto_region 0 with fail
  go_wp2_with fail
  have HN1 := hide (Nd.new HV.out hzc)
  have hbel1 : Below w.heap.size w (w.alloc (.cells cn 25)) := (Below.refl _ _).alloc (Nat.le_refl _) _
  have HT1 := hide (hT.below hbel1)
  generalize w.alloc (.cells cn 25) = W1 at *
  obtain ⟨b, hb⟩ : ∃ b, b = w.heap.size := ⟨_, rfl⟩
  rw [← hb] at HN1 ⊢
  clear hb HV hzc hT
  go_loopw [1] (fun s wr => ∃ q, s = .string q ∧ q.size ≤ 2000000 ∧ weightT t q = weightT t p ∧ Below W1.heap.size W1 wr) (fun s _ => match s with | .string q => q.size | _ => 0)
  case atStart => exact ⟨p, rfl, hp, rfl, Below.refl _ _⟩
  case round =>
    obtain ⟨q, rfl, hq, hwq, hbelr⟩ := hrel
    have HW := hide hwq
    have HB := hide hbelr
    have hszr := hbelr.size
    have HNr := hide (HN1.out.below hbelr)
    have GT := hide (GN.out q hq wr (HT1.out.below hbelr) HNr.out.2.1)
    clear hbelr hwq
    cases hvd : validB t with
    | false =>
      have HZ := hide (by rw [← HW.out]; exact weightT_no hvd : weightT t p = (0, 1))
      rw [getT_no hvd] at GT
      clear hvd
      go_upto_region 2 with (first | ((with_reducible show wpList _ _ _ (Oper.mk (some 9) _ _ _ _ _ :: _) _ _); refine wpList_load_row rfl 25 (.tmp 2) rfl b rfl 25 cn (0, 0) _ HNr.out.1 Tryz.underlying25 rfl (infN HNr.out.2.2) ?_) | (go_at_call 48; refine (GT.out).mono ?_; rintro e w4 ⟨v4, rfl, hv4, hb4⟩; have HV4 := hide hv4; have HB4 := hide hb4; clear hv4 hb4) | ((with_reducible show wpList _ _ _ (Oper.mk none _ _ _ _ _ :: _) _ _); refine store_tree rfl (.tmp 6) (.tmp 12) rfl v4 _ rfl rfl rfl HV4.out ?_; rintro ca rfl hzca h1ca))
      have hbel5 : Below w.heap.size w (w4.alloc (.cells ca 25)) := (hbel1.trans ((HB.out.trans (HB4.out.mono hszr)).mono hbel1.size)).alloc (Nat.le_trans hbel1.size (Nat.le_trans hszr HB4.out.size)) _
      go_wp2_with fail
      go_ret2
      exact ⟨ret_w HZ.out, hbel5⟩
    | true =>
    cases hx : findT t (partsP q) with
    | none =>
      have HZ := hide (by rw [← HW.out]; exact weightT_none hvd hx : weightT t p = (0, 6))
      rw [(getT_yes hvd).2 hx] at GT
      clear hvd hx
      go_upto_region 2 with (first | ((with_reducible show wpList _ _ _ (Oper.mk (some 9) _ _ _ _ _ :: _) _ _); refine wpList_load_row rfl 25 (.tmp 2) rfl b rfl 25 cn (0, 0) _ HNr.out.1 Tryz.underlying25 rfl (infN HNr.out.2.2) ?_) | (go_at_call 48; refine (GT.out).mono ?_; rintro e w4 ⟨v4, rfl, hv4, hb4⟩; have HV4 := hide hv4; have HB4 := hide hb4; clear hv4 hb4) | ((with_reducible show wpList _ _ _ (Oper.mk none _ _ _ _ _ :: _) _ _); refine store_tree rfl (.tmp 6) (.tmp 12) rfl v4 _ rfl rfl rfl HV4.out ?_; rintro ca rfl hzca h1ca))
      have hbel5 : Below w.heap.size w (w4.alloc (.cells ca 25)) := (hbel1.trans ((HB.out.trans (HB4.out.mono hszr)).mono hbel1.size)).alloc (Nat.le_trans hbel1.size (Nat.le_trans hszr HB4.out.size)) _
      go_wp2_with fail
      go_ret2
      exact ⟨ret_w HZ.out, hbel5⟩
    | some x =>
      rw [(getT_yes hvd).1 x hx] at GT
      have HX := hide (And.intro hvd hx)
      clear hvd hx
      go_upto_region 2 with (first | ((with_reducible show wpList _ _ _ (Oper.mk (some 9) _ _ _ _ _ :: _) _ _); refine wpList_load_row rfl 25 (.tmp 2) rfl b rfl 25 cn (0, 0) _ HNr.out.1 Tryz.underlying25 rfl (infN HNr.out.2.2) ?_) | (go_at_call 48; refine (GT.out).mono ?_; rintro e w4 ⟨v4, rfl, hv4, hb4⟩; have HV4 := hide hv4; have HB4 := hide hb4; clear hv4 hb4) | ((with_reducible show wpList _ _ _ (Oper.mk none _ _ _ _ _ :: _) _ _); refine store_tree rfl (.tmp 6) (.tmp 12) rfl v4 _ rfl rfl rfl HV4.out ?_; rintro ca rfl hzca h1ca))
      obtain ⟨A4, c4, A2, c2, e4, -, -⟩ := HV4.out.open
      injection e4 with e4
      subst e4
      have HNB := hide (NodeB.new w4 x.h (.slice A4 x.ks.len c4) (.slice A2 x.ss.length c2))
      have hb5 : Below wr.heap.size wr (w4.alloc (.cells (x.h.cells (.slice A4 x.ks.len c4) (.slice A2 x.ss.length c2)) 25)) := HB4.out.alloc HB4.out.size _
      clear GT HNr HV4 HB4 hzca h1ca
      generalize w4.alloc (.cells (x.h.cells (.slice A4 x.ks.len c4) (.slice A2 x.ss.length c2)) 25) = W5 at *
      have d8 := HNB.out.c8
      generalize w4.heap.size = b5 at *
      have hbelL := HB.out.trans (hb5.mono hszr)
      have hbel5 : Below w.heap.size w W5 := hbel1.trans (hbelL.mono hbel1.size)
      clear HNB hb5 HB
      by_cases hw : x.h.weight = 0
      case neg =>
        have n1 : (x.h.weight != 0) = true := by simp; exact hw
        have n2 : (x.h.weight == 0) = false := by simp; exact hw
        have HZ := hide (by rw [← HW.out]; exact weightT_here HX.out.1 HX.out.2 (Or.inl hw) : weightT t p = (x.h.weight, 0))
        clear hw
        go_wp2_with fail
        go_ret2
        exact ⟨ret_w HZ.out, hbel5⟩
      case pos =>
      by_cases hqe : q = eS
      case pos =>
        have HZ := hide (by rw [← HW.out, weightT_here HX.out.1 HX.out.2 (Or.inr hqe), hw] : weightT t p = (0, 0))
        rw [hw] at d8
        have q1 := beq_nil_y hqe
        clear hqe
        go_wp2_with fail
        go_ret2
        exact ⟨ret_w HZ.out, hbel5⟩
      case neg =>
        have HWX := hide hw
        rw [hw] at d8
        have q1 := beq_nil_n hqe
        have LI := hide (fun W => lastIndex_any q (by omega) W)
        have HQE := hide hqe
        clear hqe hw
        go_upto_region 6 with fail
        go_wp2_with (go_at_call 36; refine (LI.out _).mono ?_; rintro e w' ⟨ri, rfl, hri, rfl⟩; have HRI := hide hri; have hm1 : 0 ≤ max 0 ri := Int.le_max_left _ _; have hm2 : max 0 ri ≤ (q.size : Int) := last_le hri; clear hri)
        obtain ⟨r1, r2⟩ := last_path HX.out.1 HX.out.2 HWX.out HQE.out HRI.out
        refine ⟨⟨_, rfl, by simp only [ByteArray.size_extract]; omega, by rw [r1]; exact HW.out, hbelL⟩, r2⟩
end Go.Proofs.YtocgindpjjolpaaGreatDoor
namespace Go.Proofs.YtocgindpjjolpaaGreatDoor
set_option linter.unusedSimpArgs false
set_option linter.unusedVariables false
open Go.Shelf Go.RowKit Go.Lib Go.Sort
abbrev BS := {s : ByteArray // s.size ≤ maxLen}
instance : Inhabited BS := ⟨⟨eS, Nat.zero_le _⟩⟩
theorem holds1 {α : Type} [Inhabited α] {enc : α → List Value} {ev : α → Value} (he : ∀ x, enc x = [ev x]) {W : World} {blk off : Nat} {d : Array α} (h : HoldsK enc 1 W blk off d) {i : Nat} (hi : i < d.size) : W.cell? ⟨blk, off + i, none⟩ = some (ev d[i]!) ∧ W.frozen? ⟨blk, off + i, none⟩ = false := by
  have := HoldsK.cell h (i := i) (c := 0) hi (by decide)
  rw [he] at this
  simp only [Nat.mul_one, Nat.add_zero] at this
  exact this
theorem swp1 {α : Type} [Inhabited α] {enc : α → List Value} {ev : α → Value} (he : ∀ x, enc x = [ev x]) (w : World) (blk off m : Nat) (dk : Array α) (os : Array Obj) (hblk : blk < w.heap.size) (i j : Nat) (hi : i < dk.size) (hj : j < dk.size) :
    ((sortWorldK enc 1 w blk off m dk os).drew.setCell ⟨blk, off + i, none⟩ (ev dk[j]!)).setCell ⟨blk, off + j, none⟩ (ev dk[i]!) = sortWorldK enc 1 w blk off (m + 1) (swp dk i j) os := by
  have h := sortWorldK_swp_c enc 1 w blk off (fun x => by rw [he]; rfl) m dk os hblk i j hi hj
  rw [he, he, Nat.mul_one, Nat.mul_one] at h
  exact h
def CmpL1 {α : Type} [Inhabited α] (P : Program) (g : Nat) (cb : Array Value) (ev : α → Value) (enc : α → List Value) (cf : α → α → Int) (blk off N : Nat) (w : World) : Prop :=
  ∀ (n : Nat) (os : Array Obj) (X : Array α), X.size = N → ∀ (x y : α), Calls P g (#[ev x, ev y] ++ cb) (sortWorldK enc 1 w blk off n X os) fun e w' => e = .returned (.int .i64 (cf x y)) ∧ ∃ q, w' = (sortWorldK enc 1 w blk off n X os).drewN q
theorem agg_w (w : World) : (isAgg 9).run Tryz.prog w = .ok false w := by kernel_rfl
theorem siz_w (w : World) : (Go.sizeOf 9).run Tryz.prog w = .ok 1 w := by kernel_rfl
section
def SwapOK_w (enc : BS → List Value) (cv : Value) (blk off cap : Nat) (w : World) (N : Nat) : Prop :=
  ∀ (a b n m : Nat) (os : Array Obj) (p A M B s : List BS) (d : Array BS), d.size = N → d.toList = p ++ (A ++ (M ++ (B ++ s))) → a = p.length → b = a + n + M.length → A.length = n → B.length = n →
    Calls Tryz.prog 157 #[.slice (some ⟨blk, off, none⟩) N cap, .int .i64 a, .int .i64 b, .int .i64 n, cv] (sortWorldK enc 1 w blk off m d os) fun e w' =>
      e = .returned (.tuple #[]) ∧ ∃ (m' : Nat) (d' : Array BS), d'.size = N ∧ d'.toList = p ++ (B ++ (M ++ (A ++ s))) ∧ w' = sortWorldK enc 1 w blk off m' d' os
set_option maxHeartbeats 8000000 in
set_option maxRecDepth 1000000 in
theorem swapRange_w (enc : BS → List Value) (he1 : ∀ x, enc x = [Value.string x.1]) (hk : ∀ x, (enc x).length = 1) (h1 : ∀ x, ∀ v ∈ enc x, v.oneCell' = true) (cv : Value) (blk off cap : Nat) (d0 : Array BS) (w : World)
    (hH : HoldsK enc 1 w blk off d0) (hblk : blk < w.heap.size) (hsz : d0.size < 4611686018427387904) : SwapOK_w enc cv blk off cap w d0.size := by
  intro a b n m os p A M B s d hd he ha hb hA hB
  have aE := agg_w
  have zE : ∀ w, (Go.sizeOf 9).run Tryz.prog w = .ok 1 w := fun w => by exact siz_w w
  have mixed : Tryz.prog.follows .mixedOrders = true := by kernel_rfl
  have hlen : p.length + n + M.length + n + s.length = d0.size := by
    rw [← hd, ← Array.length_toList, he]
    simp only [List.length_append]
    omega
  have HH : Hid (HoldsK enc 1 w blk off d0) := hH
  have HK : Hid (∀ x, (enc x).length = 1) := hk
  have HE1 : Hid (∀ x, enc x = [Value.string x.1]) := he1
  have H1 : Hid (∀ x, ∀ v ∈ enc x, v.oneCell' = true) := h1
  have HE : Hid (d.toList = swr p A M B s 0) := by show _ = _; rw [swr_zero]; exact he
  have HP : Hid (a = p.length ∧ b = a + n + M.length ∧ A.length = n ∧ B.length = n) := ⟨ha, hb, hA, hB⟩
  have hab : b + n ≤ d0.size ∧ a + n ≤ b := by omega
  clear hH hk h1 he1 he ha hb hA hB hlen
  have HL : Live w [] := trivial
  go_enter Tryz.func157, Tryz.ntmps157
  go_wp2
  go_loopg [10] n (fun g vi wr => ∃ (i mk : Nat) (dk : Array BS), vi = .int .i64 i ∧ i ≤ n ∧ n - i ≤ g ∧ dk.size = d0.size ∧ wr = sortWorldK enc 1 w blk off mk dk os ∧ Hid (dk.toList = swr p A M B s i))
  case atStart => exact ⟨0, m, d, rfl, Nat.zero_le _, by omega, hd, rfl, HE.out⟩
  case round =>
    obtain ⟨i, mk, dk, rfl, hin, hg, hsk, rfl, HO⟩ := hrel
    by_cases hlt : i < n
    · have hltz : (i : Int) < (n : Int) := by omega
      have wa : IntKind.i64.wrap ((a : Int) + (i : Int)) = (a : Int) + (i : Int) := by rw [IntKind.wrap_i64]; omega
      have wb : IntKind.i64.wrap ((b : Int) + (i : Int)) = (b : Int) + (i : Int) := by rw [IntKind.wrap_i64]; omega
      have ja0 : (0 : Int) ≤ (a : Int) + (i : Int) := by omega
      have ja1 : (a : Int) + (i : Int) < (d0.size : Int) := by omega
      have jb0 : (0 : Int) ≤ (b : Int) + (i : Int) := by omega
      have jb1 : (b : Int) + (i : Int) < (d0.size : Int) := by omega
      have ea : ((a : Int) + (i : Int)).toNat = a + i := by omega
      have eb : ((b : Int) + (i : Int)).toNat = b + i := by omega
      obtain ⟨xa, hxa⟩ : ∃ x, dk[a + i]! = x := ⟨_, rfl⟩
      obtain ⟨xb, hxb⟩ : ∃ x, dk[b + i]! = x := ⟨_, rfl⟩
      obtain ⟨ix, hix⟩ : ∃ ix, ix = a + i := ⟨_, rfl⟩
      obtain ⟨jx, hjx⟩ : ∃ jx, jx = b + i := ⟨_, rfl⟩
      rw [← hix] at hxa ea
      rw [← hjx] at hxb eb
      have hI := holds1 HE1.out (holdsK_sortWorldK_c enc 1 w blk off d0 dk mk os HH.out hblk hsk) (show ix < dk.size by omega)
      have hJ := holds1 HE1.out (holdsK_sortWorldK_c enc 1 w blk off d0 dk mk os HH.out hblk hsk) (show jx < dk.size by omega)
      rw [hxa] at hI
      rw [hxb] at hJ
      obtain ⟨li, fi⟩ := hI
      obtain ⟨lj, fj⟩ := hJ
      obtain ⟨wq, hwq⟩ : ∃ wq, wq = sortWorldK enc 1 w blk off mk dk os := ⟨_, rfl⟩
      have li' : wq.cell? ⟨blk, off + ix, none⟩ = some (Value.string xa.1) := by rw [hwq]; exact li
      have lj' : wq.cell? ⟨blk, off + jx, none⟩ = some (Value.string xb.1) := by rw [hwq]; exact lj
      have fi' : wq.frozen? ⟨blk, off + ix, none⟩ = false := by rw [hwq]; exact fi
      have fj' : wq.frozen? ⟨blk, off + jx, none⟩ = false := by rw [hwq]; exact fj
      have IX := hide (And.intro hix hjx)
      clear li lj fi fj
      rw [← hwq]
      have HW : Hid (wq = sortWorldK enc 1 w blk off mk dk os) := hwq
      clear hwq hix hjx
      go_wp2_with fail
      go_big_region_o
      all_goals go_wp2
      go_roundg (n - (i + 1))
      case measure => omega
      case rel =>
        refine ⟨i + 1, mk + 1, swp dk (a + i) (b + i), by first | rfl | go_num, by omega, Nat.le_refl _, by rw [swp_size]; exact hsk, ?_, (show _ = _ from ?_)⟩
        · rw [HW.out, ← hxa, ← hxb, IX.out.1, IX.out.2]
          exact swp1 HE1.out w blk off mk dk os hblk (a + i) (b + i) (by omega) (by omega)
        · obtain ⟨p1, p2, p3, p4⟩ := HP.out
          exact swr_step p3 p4 hlt HO.out (by omega) (by omega)
    · have hltz : ¬ (i : Int) < (n : Int) := by omega
      have hin2 : i = n := by omega
      subst hin2
      go_wp2
      go_end0
      obtain ⟨p1, p2, p3, p4⟩ := HP.out
      exact ⟨rfl, mk, dk, hsk, by rw [HO.out, swr_end p3 p4], rfl⟩
def RotOK_w (enc : BS → List Value) (cv : Value) (blk off cap : Nat) (w : World) (N : Nat) : Prop :=
  ∀ (a m b mk : Nat) (os : Array Obj) (p l r s : List BS) (d : Array BS), d.size = N → d.toList = p ++ (l ++ (r ++ s)) → a = p.length → m = a + l.length → b = m + r.length → 0 < l.length → 0 < r.length →
    Calls Tryz.prog 141 #[.slice (some ⟨blk, off, none⟩) N cap, .int .i64 a, .int .i64 m, .int .i64 b, cv] (sortWorldK enc 1 w blk off mk d os) fun e w' =>
      e = .returned (.tuple #[]) ∧ ∃ (m' : Nat) (d' : Array BS), d'.size = N ∧ d'.toList = p ++ (r ++ (l ++ s)) ∧ w' = sortWorldK enc 1 w blk off m' d' os
set_option maxHeartbeats 8000000 in
set_option maxRecDepth 1000000 in
theorem rotate_w (enc : BS → List Value) (cv : Value) (blk off cap : Nat) (w : World) (N : Nat) (hsz : N < 4611686018427387904) (hS : SwapOK_w enc cv blk off cap w N) : RotOK_w enc cv blk off cap w N := by
  intro a m b mk os p l r s d hd he ha hm hb hl hr
  have hlen : p.length + l.length + r.length + s.length = N := by
    rw [← hd, ← Array.length_toList, he]
    simp only [List.length_append]
    omega
  have SW := hide hS
  have HE := hide (show RotI p l r s m l.length r.length d.toList by rw [he, hm, ha]; exact rot_start)
  clear hS he
  have wi : IntKind.i64.wrap ((m : Int) - (a : Int)) = (l.length : Int) := by rw [IntKind.wrap_i64]; omega
  have wj : IntKind.i64.wrap ((b : Int) - (m : Int)) = (r.length : Int) := by rw [IntKind.wrap_i64]; omega
  have wi2 : (m : Int) - (a : Int) = (l.length : Int) := by omega
  have wj2 : (b : Int) - (m : Int) = (r.length : Int) := by omega
  have hbN : b ≤ N := by omega
  have hmm : l.length ≤ m := by omega
  have hbm : m + r.length ≤ b := by omega
  clear hlen ha hm hb
  generalize hli : l.length = li at *
  generalize hri : r.length = ri at *
  have HL : Live w [] := trivial
  go_enter Tryz.func141, Tryz.ntmps141
  go_wp2
  clear wi wj wi2 wj2
  go_loopg [10, 11] (li + ri) (fun g vi vj wr => ∃ (i j m1 : Nat) (dk : Array BS), vi = .int .i64 i ∧ vj = .int .i64 j ∧ 0 < i ∧ 0 < j ∧ i + j ≤ g ∧ i ≤ m ∧ m + j ≤ b ∧ dk.size = N ∧ wr = sortWorldK enc 1 w blk off m1 dk os ∧ Hid (RotI p l r s m i j dk.toList))
  case atStart => exact ⟨li, ri, mk, d, rfl, rfl, hl, hr, Nat.le_refl _, by omega, by omega, hd, rfl, HE.out⟩
  case round =>
    obtain ⟨i, j, m1, dk, rfl, rfl, hi0, hj0, hg, him, hjb, hsk, rfl, HO⟩ := hrel
    have hmi : IntKind.i64.wrap ((m : Int) - (i : Int)) = ((m - i : Nat) : Int) := by rw [IntKind.wrap_i64]; omega
    have hmi2 : (m : Int) - (i : Int) = ((m - i : Nat) : Int) := by omega
    by_cases hij : i = j
    · subst hij
      obtain ⟨p1, a1, b1, s1, e1, e2, e3, e4, e5⟩ := rot_eq HO.out rfl
      have CS := hide (SW.out (m - i) m i m1 os p1 a1 [] b1 s1 dk hsk e1 (by omega) (by simp; omega) e3 e4)
      have E5 := hide e5
      clear e1 e2 e3 e4 e5 SW HO
      generalize m - i = q at *
      go_wp2_with (go_at_call 157; (with_reducible refine CS.out.mono ?_); rintro e w' ⟨rfl, m', d', hd', hl', rfl⟩)
      go_end0
      exact ⟨rfl, m', d', hd', by rw [hl', E5.out], rfl⟩
    · have hne : ((i : Int) == (j : Int)) = false := by simp; omega
      have hne2 : ¬ (i : Int) = (j : Int) := by omega
      by_cases hgt : j < i
      · have hgz : (i : Int) > (j : Int) := by omega
        have hgz2 : (j : Int) < (i : Int) := by omega
        obtain ⟨p1, a1, m2, b1, s1, e1, e2, e3, e4, e5, e6⟩ := rot_gt HO.out hgt
        have CS := hide (SW.out (m - i) m j m1 os p1 a1 m2 b1 s1 dk hsk e1 (by omega) (by omega) e3 e4)
        have E6 := hide e6
        clear e1 e2 e3 e4 e5 e6 HO
        have hs1 : IntKind.i64.wrap ((i : Int) - (j : Int)) = ((i - j : Nat) : Int) := by rw [IntKind.wrap_i64]; omega
        have hs2 : (i : Int) - (j : Int) = ((i - j : Nat) : Int) := by omega
        generalize m - i = q at *
        go_wp2_with (go_at_call 157; (with_reducible refine CS.out.mono ?_); rintro e w' ⟨rfl, m', d', hd', hl', rfl⟩)
        go_roundg ((i - j) + j)
        case measure => omega
        case rel => exact ⟨i - j, j, m', d', by first | rfl | go_num, rfl, by omega, hj0, Nat.le_refl _, by omega, hjb, hd', rfl, by show RotI _ _ _ _ _ _ _ _; rw [hl']; exact E6.out⟩
      · have hgz : ¬ (i : Int) > (j : Int) := by omega
        have hgz2 : ¬ (j : Int) < (i : Int) := by omega
        obtain ⟨p1, a1, m2, b1, s1, e1, e2, e3, e4, e5, e6⟩ := rot_lt HO.out (by omega : i < j)
        have CS := hide (SW.out (m - i) (m + j - i) i m1 os p1 a1 m2 b1 s1 dk hsk e1 (by omega) (by omega) e3 e4)
        have E6 := hide e6
        clear e1 e2 e3 e4 e5 e6 HO
        have hs1 : IntKind.i64.wrap ((j : Int) - (i : Int)) = ((j - i : Nat) : Int) := by rw [IntKind.wrap_i64]; omega
        have hs2 : (j : Int) - (i : Int) = ((j - i : Nat) : Int) := by omega
        have hs3 : IntKind.i64.wrap ((m : Int) + (j : Int)) = (m : Int) + (j : Int) := by rw [IntKind.wrap_i64]; omega
        have hs4 : IntKind.i64.wrap ((m : Int) + (j : Int) - (i : Int)) = ((m + j - i : Nat) : Int) := by rw [IntKind.wrap_i64]; omega
        have hs5 : (m : Int) + (j : Int) - (i : Int) = ((m + j - i : Nat) : Int) := by omega
        generalize hq2 : m + j - i = q2 at *
        generalize m - i = q at *
        go_wp2_with (go_at_call 157; (with_reducible refine CS.out.mono ?_); rintro e w' ⟨rfl, m', d', hd', hl', rfl⟩)
        go_roundg (i + (j - i))
        case measure => omega
        case rel => exact ⟨i, j - i, m', d', rfl, by first | rfl | go_num, hi0, by omega, Nat.le_refl _, him, by omega, hd', rfl, by show RotI _ _ _ _ _ _ _ _; rw [hl']; exact E6.out⟩
def SymOK_w (lt : BS → BS → Bool) (enc : BS → List Value) (cv : Value) (blk off cap : Nat) (w : World) (N D : Nat) : Prop :=
  ∀ (a m b mk : Nat) (os : Array Obj) (p l r s : List BS) (d : Array BS), b - a ≤ D → d.size = N → d.toList = p ++ (l ++ (r ++ s)) → a = p.length → m = a + l.length → b = m + r.length → 0 < l.length → 0 < r.length → Srt lt l → Srt lt r →
    Calls Tryz.prog 116 #[.slice (some ⟨blk, off, none⟩) N cap, .int .i64 a, .int .i64 m, .int .i64 b, cv] (sortWorldK enc 1 w blk off mk d os) fun e w' =>
      e = .returned (.tuple #[]) ∧ ∃ (m' : Nat) (d' : Array BS) (os' : Array Obj), d'.size = N ∧ d'.toList = p ++ (mrg lt l r ++ s) ∧ w' = sortWorldK enc 1 w blk off m' d' os'
set_option maxHeartbeats 8000000 in
set_option maxRecDepth 1000000 in
theorem symLeft_w (enc : BS → List Value) (he1 : ∀ x, enc x = [Value.string x.1]) (hk : ∀ x, (enc x).length = 1) (h1 : ∀ x, ∀ v ∈ enc x, v.oneCell' = true) (cf : BS → BS → Int) (hlt : Swo (ltOf cf)) (g0 : Nat) (cb : Array Value) (blk off cap : Nat) (d0 : Array BS) (w : World)
    (eg : ∀ args w, (callFunc g0 args).run Tryz.prog w = .ok (.enter g0 args) w) (hcmp : CmpL1 Tryz.prog g0 cb (fun s => Value.string s.1) enc cf blk off d0.size w) (hH : HoldsK enc 1 w blk off d0) (hblk : blk < w.heap.size) (hsz : d0.size < 4611686018427387904)
    (a m b mk : Nat) (os : Array Obj) (p r s : List BS) (x : BS) (d : Array BS) (hd : d.size = d0.size) (he : d.toList = p ++ (x :: (r ++ s))) (ha : a = p.length) (hm : m = a + 1) (hb : b = m + r.length) (hr : Srt (ltOf cf) r) :
    Calls Tryz.prog 116 #[.slice (some ⟨blk, off, none⟩) d0.size cap, .int .i64 a, .int .i64 m, .int .i64 b, .func (.func g0) #[] cb] (sortWorldK enc 1 w blk off mk d os) fun e w' =>
      e = .returned (.tuple #[]) ∧ ∃ (m' : Nat) (d' : Array BS) (os' : Array Obj), d'.size = d0.size ∧ d'.toList = p ++ (mrg (ltOf cf) [x] r ++ s) ∧ w' = sortWorldK enc 1 w blk off m' d' os' := by
  have aE := agg_w
  have zE : ∀ w, (Go.sizeOf 9).run Tryz.prog w = .ok 1 w := fun w => by exact siz_w w
  have mixed : Tryz.prog.follows .mixedOrders = true := by kernel_rfl
  have hlen : p.length + 1 + r.length + s.length = d0.size := by
    rw [← hd, ← Array.length_toList, he]
    simp only [List.length_append, List.length_cons]
    omega
  have HH : Hid (HoldsK enc 1 w blk off d0) := hH
  have HK : Hid (∀ x, (enc x).length = 1) := hk
  have HE1 : Hid (∀ x, enc x = [Value.string x.1]) := he1
  have H1 : Hid (∀ x, ∀ v ∈ enc x, v.oneCell' = true) := h1
  have HC : Aside _ := hcmp
  have HP := hide (show (d.toList = p ++ (x :: (r ++ s)) ∧ a = p.length ∧ m = a + 1 ∧ b = m + r.length) ∧ Srt (ltOf cf) r from ⟨⟨he, ha, hm, hb⟩, hr⟩)
  have HSW := hide hlt
  have hab : a < m ∧ m ≤ b ∧ b ≤ d0.size := by omega
  have wm : IntKind.i64.wrap ((m : Int) - (a : Int)) = 1 := by rw [IntKind.wrap_i64]; omega
  have wm2 : (m : Int) - (a : Int) = 1 := by omega
  clear hH hk h1 he1 hcmp he ha hm hb hr hlen hlt
  have HL : Live w [] := trivial
  go_enter Tryz.func116, Tryz.ntmps116
  go_wp2
  clear wm wm2
  go_loopg [10, 11] (b - m) (fun g vi vj wr => ∃ (i j mj : Nat) (oj : Array Obj), vi = .int .i64 i ∧ vj = .int .i64 j ∧ m ≤ i ∧ i ≤ j ∧ j ≤ b ∧ j - i ≤ g ∧ wr = sortWorldK enc 1 w blk off mj d oj ∧ Hid (i = m ∨ ltOf cf d[i - 1]! d[a]! = true) ∧ Hid (j = b ∨ ltOf cf d[j]! d[a]! = false))
  case atStart => exact ⟨m, b, mk, os, rfl, rfl, Nat.le_refl _, hab.2.1, Nat.le_refl _, Nat.le_refl _, rfl, Or.inl rfl, Or.inl rfl⟩
  case round =>
    clear os mk
    obtain ⟨i, j, mk, os, rfl, rfl, hmi, hij, hjb, hg, rfl, C1, C2⟩ := hrel
    obtain ⟨ham, hmb, hbd⟩ := hab
    by_cases hlt : i < j
    · have hltz : (i : Int) < (j : Int) := by omega
      go_upto_region 5 with fail
      have e2 : ((i : Int) + (j : Int)) / 2 = (((i + j) / 2 : Nat) : Int) := by omega
      have hh : i ≤ (i + j) / 2 ∧ (i + j) / 2 < j := by omega
      rw [e2]
      clear e2
      generalize (i + j) / 2 = h at *
      obtain ⟨hih, hhj⟩ := hh
      have hz1 : (h : Int) < (d0.size : Int) := by omega
      have hz2 : (a : Int) < (d0.size : Int) := by omega
      obtain ⟨xj, hxj⟩ : ∃ x, d[h]! = x := ⟨_, rfl⟩
      obtain ⟨xp, hxp⟩ : ∃ x, d[a]! = x := ⟨_, rfl⟩
      have hcls : ∀ n' os', grow ((sortWorldK enc 1 w blk off mk d os).drewN n') os' = sortWorldK enc 1 w blk off (mk + n') d (os ++ os') := fun n' os' => sortWorldK_grown_c enc 1 w blk off mk n' d os os'
      have hHc : ∀ n' os', HoldsK enc 1 (grow ((sortWorldK enc 1 w blk off mk d os).drewN n') os') blk off d := fun n' os' => by rw [hcls]; exact holdsK_sortWorldK_c enc 1 w blk off d0 d _ _ HH.out hblk hd
      have lj : ∀ n' os', (grow ((sortWorldK enc 1 w blk off mk d os).drewN n') os').cell? ⟨blk, off + h, none⟩ = some (Value.string xj.1) := fun n' os' => by
        rw [← hxj]; exact (holds1 HE1.out (hHc n' os') (show h < d.size by omega)).1
      have lp : ∀ n' os', (grow ((sortWorldK enc 1 w blk off mk d os).drewN n') os').cell? ⟨blk, off + a, none⟩ = some (Value.string xp.1) := fun n' os' => by
        rw [← hxp]; exact (holds1 HE1.out (hHc n' os') (show a < d.size by omega)).1
      have hcg : ∀ n' os', Calls Tryz.prog g0 (#[Value.string xj.1, Value.string xp.1] ++ cb) (grow ((sortWorldK enc 1 w blk off mk d os).drewN n') os') fun e w' => e = .returned (.int .i64 (cf xj xp)) ∧ ∃ q os'', w' = grow ((grow ((sortWorldK enc 1 w blk off mk d os).drewN n') os').drewN q) os'' := fun n' os' => by
        rw [hcls]; exact (HC.out _ _ d hd xj xp).mono fun e w' ⟨h1, q, h2⟩ => ⟨h1, q, #[], by rw [h2, grow_empty]⟩
      have CLS : Hid _ := hcls
      clear hcls hHc
      obtain ⟨wq, hwq⟩ : ∃ wq, wq = sortWorldK enc 1 w blk off mk d os := ⟨_, rfl⟩
      rw [← hwq] at lj lp hcg CLS ⊢
      clear hwq
      have HLT : Hid (ltOf cf d[h]! d[a]! = decide (cf xj xp < 0)) := by show _ = _; rw [hxj, hxp]; rfl
      by_cases hlv : cf xj xp < 0
      · go_quiet_grown (first | (go_at_fn g0; refine Calls.grown_of (hcg _ _)))
        go_wp2_with fail
        go_roundg (j - (h + 1))
        case measure => omega
        case rel => exact ⟨h + 1, j, mk + nq, os ++ osq, by first | rfl | go_num, rfl, by omega, by omega, hjb, by omega, CLS.out nq osq, (show _ ∨ _ from Or.inr (by rw [Nat.add_sub_cancel, HLT.out]; exact decide_eq_true hlv)), C2.out⟩
      · go_quiet_grown (first | (go_at_fn g0; refine Calls.grown_of (hcg _ _)))
        go_wp2_with fail
        go_roundg (h - i)
        case measure => omega
        case rel => exact ⟨i, h, mk + nq, os ++ osq, rfl, by first | rfl | go_num, hmi, hih, by omega, by omega, CLS.out nq osq, C1.out, (show _ ∨ _ from Or.inr (by rw [HLT.out]; exact decide_eq_false (by omega)))⟩
    · have hltz : ¬ (i : Int) < (j : Int) := by omega
      obtain rfl : i = j := by omega
      have HM := hide (show mrg (ltOf cf) [x] r = r.take (i - m) ++ x :: r.drop (i - m) from sym_left HSW.out HP.out.1.1 HP.out.1.2.1 HP.out.1.2.2.1 HP.out.1.2.2.2 HP.out.2 ⟨hmi, hjb⟩ C1.out C2.out)
      have wi : IntKind.i64.wrap ((i : Int) - 1) = ((i - 1 : Nat) : Int) := by rw [IntKind.wrap_i64]; omega
      have wi2 : (i : Int) - 1 = ((i - 1 : Nat) : Int) := by omega
      clear C1 C2 hltz hlt HC HSW
      obtain ⟨i1, hi1⟩ : ∃ i1, i1 = i - 1 := ⟨_, rfl⟩
      rw [← hi1] at wi wi2
      have HI := hide hi1
      have hi2 : a ≤ i1 ∧ i1 < d0.size := by omega
      clear hi1
      go_wp2
      go_loopg [13] (i1 - a) (fun g vi wr => ∃ (q mj : Nat) (dj : Array BS), vi = .int .i64 q ∧ a ≤ q ∧ q ≤ i1 ∧ i1 - q ≤ g ∧ dj.size = d0.size ∧ wr = sortWorldK enc 1 w blk off mj dj os ∧ Hid (dj.toList = p ++ (r.take (q - a) ++ x :: (r.drop (q - a) ++ s))))
      case atStart => exact ⟨a, mk, d, rfl, Nat.le_refl _, hi2.1, Nat.le_refl _, hd, rfl, by show _ = _; rw [Nat.sub_self]; exact HP.out.1.1⟩
      case round =>
        clear mk
        obtain ⟨q, mk, dk, rfl, haq, hqi, hg2, hsk, rfl, HO⟩ := hrel
        by_cases hq : q < i1
        · have hqz : (q : Int) < (i1 : Int) := by omega
          have wq1 : IntKind.i64.wrap ((q : Int) + 1) = (q : Int) + 1 := by rw [IntKind.wrap_i64]; omega
          have jz : (q : Int) + 1 < (d0.size : Int) := by omega
          have jz1 : (q : Int) < (d0.size : Int) := by omega
          have p0 : (0 : Int) ≤ (q : Int) + 1 := by omega
          have e0 : ((q : Int) + 1).toNat = q + 1 := by omega
          obtain ⟨xi, hxi⟩ : ∃ x, dk[q]! = x := ⟨_, rfl⟩
          obtain ⟨xj, hxj⟩ : ∃ x, dk[q + 1]! = x := ⟨_, rfl⟩
          have hI := holds1 HE1.out (holdsK_sortWorldK_c enc 1 w blk off d0 dk mk os HH.out hblk hsk) (show q < dk.size by omega)
          have hJ := holds1 HE1.out (holdsK_sortWorldK_c enc 1 w blk off d0 dk mk os HH.out hblk hsk) (show q + 1 < dk.size by omega)
          rw [hxi] at hI
          rw [hxj] at hJ
          obtain ⟨wq, hwq⟩ : ∃ wq, wq = sortWorldK enc 1 w blk off mk dk os := ⟨_, rfl⟩
          rw [← hwq] at hI hJ ⊢
          obtain ⟨li', fi'⟩ := hI
          obtain ⟨lj', fj'⟩ := hJ
          have HW : Hid (wq = sortWorldK enc 1 w blk off mk dk os) := hwq
          clear hwq
          go_wp2_with fail
          go_big_region_o
          all_goals go_wp2
          go_roundg (i1 - (q + 1))
          case measure => omega
          case rel =>
            refine ⟨q + 1, mk + 1, swp dk q (q + 1), by first | rfl | go_num, by omega, by omega, Nat.le_refl _, by rw [swp_size]; exact hsk, ?_, (show _ = _ from ?_)⟩
            · rw [HW.out, ← hxi, ← hxj]; exact swp1 HE1.out w blk off mk dk os hblk (q) (q + 1) (by omega) (by omega)
            · obtain ⟨⟨q1, q2, q3, q4⟩, _⟩ := HP.out
              have hI := HI.out
              have ql : q - a < r.length := by omega
              have er : r.drop (q - a) = r[q - a] :: r.drop (q - a + 1) := List.drop_eq_getElem_cons ql
              have et : r.take (q - a + 1) = r.take (q - a) ++ [r[q - a]] := by rw [List.take_add_one, List.getElem?_eq_getElem ql]; rfl
              have e3 : dk.toList = (p ++ r.take (q - a)) ++ x :: ([] ++ r[q - a] :: (r.drop (q - a + 1) ++ s)) := by rw [HO.out, er]; simp only [List.append_assoc, List.cons_append, List.nil_append]
              obtain ⟨e4, _⟩ := swp_list (i := q) (j := q + 1) e3 (by rw [List.length_append, List.length_take]; omega) (by rw [List.length_append, List.length_take, List.length_nil]; omega)
              rw [e4, show q + 1 - a = q - a + 1 by omega, et]
              simp only [List.append_assoc, List.cons_append, List.nil_append]
        · have hqz : ¬ (q : Int) < (i1 : Int) := by omega
          obtain rfl : q = i1 := by omega
          go_wp2
          ((try simp only [Exit.inBlock, Exit.then]); refine bodyPost_ret (results_none rfl _ _ _) rfl ?_)
          refine ⟨rfl, mk, dk, hsk, ?_, os, rfl⟩
          have hI := HI.out
          obtain ⟨⟨q1, q2, q3, q4⟩, _⟩ := HP.out
          rw [HM.out, HO.out, show q - a = i - m by omega]
          simp only [List.append_assoc, List.cons_append]
set_option maxHeartbeats 8000000 in
set_option maxRecDepth 1000000 in
theorem symRight_w (enc : BS → List Value) (he1 : ∀ x, enc x = [Value.string x.1]) (hk : ∀ x, (enc x).length = 1) (h1 : ∀ x, ∀ v ∈ enc x, v.oneCell' = true) (cf : BS → BS → Int) (hlt : Swo (ltOf cf)) (g0 : Nat) (cb : Array Value) (blk off cap : Nat) (d0 : Array BS) (w : World)
    (eg : ∀ args w, (callFunc g0 args).run Tryz.prog w = .ok (.enter g0 args) w) (hcmp : CmpL1 Tryz.prog g0 cb (fun s => Value.string s.1) enc cf blk off d0.size w) (hH : HoldsK enc 1 w blk off d0) (hblk : blk < w.heap.size) (hsz : d0.size < 4611686018427387904)
    (a m b mk : Nat) (os : Array Obj) (p l s : List BS) (y : BS) (d : Array BS) (hd : d.size = d0.size) (he : d.toList = p ++ (l ++ y :: s)) (ha : a = p.length) (hm : m = a + l.length) (hb : b = m + 1) (h2 : 2 ≤ l.length) (hl : Srt (ltOf cf) l) :
    Calls Tryz.prog 116 #[.slice (some ⟨blk, off, none⟩) d0.size cap, .int .i64 a, .int .i64 m, .int .i64 b, .func (.func g0) #[] cb] (sortWorldK enc 1 w blk off mk d os) fun e w' =>
      e = .returned (.tuple #[]) ∧ ∃ (m' : Nat) (d' : Array BS) (os' : Array Obj), d'.size = d0.size ∧ d'.toList = p ++ (mrg (ltOf cf) l [y] ++ s) ∧ w' = sortWorldK enc 1 w blk off m' d' os' := by
  have aE := agg_w
  have zE : ∀ w, (Go.sizeOf 9).run Tryz.prog w = .ok 1 w := fun w => by exact siz_w w
  have mixed : Tryz.prog.follows .mixedOrders = true := by kernel_rfl
  have hlen : p.length + l.length + 1 + s.length = d0.size := by
    rw [← hd, ← Array.length_toList, he]
    simp only [List.length_append, List.length_cons]
    omega
  have HH : Hid (HoldsK enc 1 w blk off d0) := hH
  have HK : Hid (∀ x, (enc x).length = 1) := hk
  have HE1 : Hid (∀ x, enc x = [Value.string x.1]) := he1
  have H1 : Hid (∀ x, ∀ v ∈ enc x, v.oneCell' = true) := h1
  have HC : Aside _ := hcmp
  have HP := hide (show (d.toList = p ++ (l ++ y :: s) ∧ a = p.length ∧ m = a + l.length) ∧ Srt (ltOf cf) l from ⟨⟨he, ha, hm⟩, hl⟩)
  have HSW := hide hlt
  have hab : a ≤ m ∧ m < b ∧ b ≤ d0.size := by omega
  have wm : IntKind.i64.wrap ((b : Int) - (m : Int)) = 1 := by rw [IntKind.wrap_i64]; omega
  have wm2 : (b : Int) - (m : Int) = 1 := by omega
  have wn0 : IntKind.i64.wrap ((m : Int) - (a : Int)) = (m : Int) - (a : Int) := by rw [IntKind.wrap_i64]; omega
  have wn : (((m : Int) - (a : Int)) == 1) = false := by simp; omega
  clear hH hk h1 he1 hcmp he ha hm hb hl hlen hlt h2
  have HL : Live w [] := trivial
  go_enter Tryz.func116, Tryz.ntmps116
  go_wp2
  clear wm wm2 wn0 wn
  go_loopg [14, 15] (m - a) (fun g vi vj wr => ∃ (i j mj : Nat) (oj : Array Obj), vi = .int .i64 i ∧ vj = .int .i64 j ∧ a ≤ i ∧ i ≤ j ∧ j ≤ m ∧ j - i ≤ g ∧ wr = sortWorldK enc 1 w blk off mj d oj ∧ Hid (i = a ∨ ltOf cf d[m]! d[i - 1]! = false) ∧ Hid (j = m ∨ ltOf cf d[m]! d[j]! = true))
  case atStart => exact ⟨a, m, mk, os, rfl, rfl, Nat.le_refl _, hab.1, Nat.le_refl _, Nat.le_refl _, rfl, Or.inl rfl, Or.inl rfl⟩
  case round =>
    clear os mk
    obtain ⟨i, j, mk, os, rfl, rfl, hmi, hij, hjb, hg, rfl, C1, C2⟩ := hrel
    obtain ⟨ham, hmb, hbd⟩ := hab
    by_cases hlt : i < j
    · have hltz : (i : Int) < (j : Int) := by omega
      go_upto_region 17 with fail
      have e2 : ((i : Int) + (j : Int)) / 2 = (((i + j) / 2 : Nat) : Int) := by omega
      have hh : i ≤ (i + j) / 2 ∧ (i + j) / 2 < j := by omega
      rw [e2]
      clear e2
      generalize (i + j) / 2 = h at *
      obtain ⟨hih, hhj⟩ := hh
      have hz1 : (h : Int) < (d0.size : Int) := by omega
      have hz2 : (m : Int) < (d0.size : Int) := by omega
      obtain ⟨xj, hxj⟩ : ∃ x, d[m]! = x := ⟨_, rfl⟩
      obtain ⟨xp, hxp⟩ : ∃ x, d[h]! = x := ⟨_, rfl⟩
      have hcls : ∀ n' os', grow ((sortWorldK enc 1 w blk off mk d os).drewN n') os' = sortWorldK enc 1 w blk off (mk + n') d (os ++ os') := fun n' os' => sortWorldK_grown_c enc 1 w blk off mk n' d os os'
      have hHc : ∀ n' os', HoldsK enc 1 (grow ((sortWorldK enc 1 w blk off mk d os).drewN n') os') blk off d := fun n' os' => by rw [hcls]; exact holdsK_sortWorldK_c enc 1 w blk off d0 d _ _ HH.out hblk hd
      have lj : ∀ n' os', (grow ((sortWorldK enc 1 w blk off mk d os).drewN n') os').cell? ⟨blk, off + m, none⟩ = some (Value.string xj.1) := fun n' os' => by
        rw [← hxj]; exact (holds1 HE1.out (hHc n' os') (show m < d.size by omega)).1
      have lp : ∀ n' os', (grow ((sortWorldK enc 1 w blk off mk d os).drewN n') os').cell? ⟨blk, off + h, none⟩ = some (Value.string xp.1) := fun n' os' => by
        rw [← hxp]; exact (holds1 HE1.out (hHc n' os') (show h < d.size by omega)).1
      have hcg : ∀ n' os', Calls Tryz.prog g0 (#[Value.string xj.1, Value.string xp.1] ++ cb) (grow ((sortWorldK enc 1 w blk off mk d os).drewN n') os') fun e w' => e = .returned (.int .i64 (cf xj xp)) ∧ ∃ q os'', w' = grow ((grow ((sortWorldK enc 1 w blk off mk d os).drewN n') os').drewN q) os'' := fun n' os' => by
        rw [hcls]; exact (HC.out _ _ d hd xj xp).mono fun e w' ⟨h1, q, h2⟩ => ⟨h1, q, #[], by rw [h2, grow_empty]⟩
      have CLS : Hid _ := hcls
      clear hcls hHc
      obtain ⟨wq, hwq⟩ : ∃ wq, wq = sortWorldK enc 1 w blk off mk d os := ⟨_, rfl⟩
      rw [← hwq] at lj lp hcg CLS ⊢
      clear hwq
      have HLT : Hid (ltOf cf d[m]! d[h]! = decide (cf xj xp < 0)) := by show _ = _; rw [hxj, hxp]; rfl
      by_cases hlv : cf xj xp < 0
      · go_quiet_grown (first | (go_at_fn g0; refine Calls.grown_of (hcg _ _)))
        go_wp2_with fail
        go_roundg (h - i)
        case measure => omega
        case rel => exact ⟨i, h, mk + nq, os ++ osq, rfl, by first | rfl | go_num, hmi, hih, by omega, by omega, CLS.out nq osq, C1.out, (show _ ∨ _ from Or.inr (by rw [HLT.out]; exact decide_eq_true hlv))⟩
      · go_quiet_grown (first | (go_at_fn g0; refine Calls.grown_of (hcg _ _)))
        go_wp2_with fail
        go_roundg (j - (h + 1))
        case measure => omega
        case rel => exact ⟨h + 1, j, mk + nq, os ++ osq, by first | rfl | go_num, rfl, by omega, by omega, hjb, by omega, CLS.out nq osq, (show _ ∨ _ from Or.inr (by rw [Nat.add_sub_cancel, HLT.out]; exact decide_eq_false (by omega))), C2.out⟩
    · have hltz : ¬ (i : Int) < (j : Int) := by omega
      obtain rfl : i = j := by omega
      have HM := hide (show mrg (ltOf cf) l [y] = l.take (i - a) ++ y :: l.drop (i - a) from sym_right HSW.out HP.out.1.1 HP.out.1.2.1 HP.out.1.2.2 HP.out.2 ⟨hmi, hjb⟩ C1.out C2.out)
      clear C1 C2 hltz hlt HC HSW
      go_wp2
      go_loopg [17] (m - i) (fun g vi wr => ∃ (q mj : Nat) (dj : Array BS), vi = .int .i64 q ∧ i ≤ q ∧ q ≤ m ∧ q - i ≤ g ∧ dj.size = d0.size ∧ wr = sortWorldK enc 1 w blk off mj dj os ∧ Hid (dj.toList = p ++ (l.take (q - a) ++ y :: (l.drop (q - a) ++ s))))
      case atStart => exact ⟨m, mk, d, rfl, hjb, Nat.le_refl _, Nat.le_refl _, hd, rfl, by
        show _ = _
        have hma := HP.out.1.2.2
        rw [List.take_of_length_le (by omega), List.drop_of_length_le (by omega)]
        exact HP.out.1.1⟩
      case round =>
        clear mk
        obtain ⟨q, mk, dk, rfl, haq, hqi, hg2, hsk, rfl, HO⟩ := hrel
        by_cases hq : i < q
        · obtain ⟨qp, rfl⟩ : ∃ qp, q = qp + 1 := ⟨q - 1, by omega⟩
          have hqz : (i : Int) < (qp : Int) + 1 := by omega
          have hqz2 : (qp : Int) + 1 > (i : Int) := by omega
          have wq0 : IntKind.i64.wrap (qp : Int) = (qp : Int) := by rw [IntKind.wrap_i64]; omega
          have jz : (qp : Int) + 1 < (d0.size : Int) := by omega
          have jz1 : (qp : Int) < (d0.size : Int) := by omega
          have p0 : (0 : Int) ≤ (qp : Int) + 1 := by omega
          have e0 : ((qp : Int) + 1).toNat = qp + 1 := by omega
          obtain ⟨xi, hxi⟩ : ∃ x, dk[qp + 1]! = x := ⟨_, rfl⟩
          obtain ⟨xj, hxj⟩ : ∃ x, dk[qp]! = x := ⟨_, rfl⟩
          have hI := holds1 HE1.out (holdsK_sortWorldK_c enc 1 w blk off d0 dk mk os HH.out hblk hsk) (show qp + 1 < dk.size by omega)
          have hJ := holds1 HE1.out (holdsK_sortWorldK_c enc 1 w blk off d0 dk mk os HH.out hblk hsk) (show qp < dk.size by omega)
          rw [hxi] at hI
          rw [hxj] at hJ
          obtain ⟨wq, hwq⟩ : ∃ wq, wq = sortWorldK enc 1 w blk off mk dk os := ⟨_, rfl⟩
          rw [← hwq] at hI hJ ⊢
          obtain ⟨li', fi'⟩ := hI
          obtain ⟨lj', fj'⟩ := hJ
          have HW : Hid (wq = sortWorldK enc 1 w blk off mk dk os) := hwq
          clear hwq
          go_wp2_with fail
          go_big_region_o
          all_goals go_wp2
          go_roundg (qp - i)
          case measure => omega
          case rel =>
            refine ⟨qp, mk + 1, swp dk (qp + 1) qp, by first | rfl | go_num | (congr 1; omega), by omega, by omega, Nat.le_refl _, by rw [swp_size]; exact hsk, ?_, (show _ = _ from ?_)⟩
            · rw [HW.out, ← hxi, ← hxj]; exact swp1 HE1.out w blk off mk dk os hblk (qp + 1) (qp) (by omega) (by omega)
            · obtain ⟨⟨q1, q2, q3⟩, _⟩ := HP.out
              have ql : qp - a < l.length := by omega
              have er : l.drop (qp - a) = l[qp - a] :: l.drop (qp - a + 1) := List.drop_eq_getElem_cons ql
              have et : l.take (qp - a + 1) = l.take (qp - a) ++ [l[qp - a]] := by rw [List.take_add_one, List.getElem?_eq_getElem ql]; rfl
              have hO := HO.out
              rw [show qp + 1 - a = qp - a + 1 by omega, et] at hO
              have e3 : dk.toList = (p ++ l.take (qp - a)) ++ l[qp - a] :: ([] ++ y :: (l.drop (qp - a + 1) ++ s)) := by rw [hO]; simp only [List.append_assoc, List.cons_append, List.nil_append]
              obtain ⟨_, e4⟩ := swp_list (i := qp) (j := qp + 1) e3 (by rw [List.length_append, List.length_take]; omega) (by rw [List.length_append, List.length_take, List.length_nil]; omega)
              rw [e4, er]
              simp only [List.append_assoc, List.cons_append, List.nil_append]
        · have hqz : ¬ (i : Int) < (q : Int) := by omega
          have hqz2 : ¬ (q : Int) > (i : Int) := by omega
          obtain rfl : q = i := by omega
          go_wp2
          ((try simp only [Exit.inBlock, Exit.then]); refine bodyPost_ret (results_none rfl _ _ _) rfl ?_)
          refine ⟨rfl, mk, dk, hsk, ?_, os, rfl⟩
          rw [HM.out, HO.out]
          simp only [List.append_assoc, List.cons_append]
end
end Go.Proofs.YtocgindpjjolpaaGreatDoor
