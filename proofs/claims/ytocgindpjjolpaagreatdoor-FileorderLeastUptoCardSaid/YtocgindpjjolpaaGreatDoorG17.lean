/- Contracts and plain words for the laws of this chapter, part 17: Sw2, Sw3. No condition. -/
import Derived.Test.YtocgindpjjolpaaGreatDoorG16
import Derived.Test.YtocgindpjjolpaaGreatDoorG0
namespace Go.Proofs.YtocgindpjjolpaaGreatDoor
set_option linter.unusedSimpArgs false
set_option linter.unusedVariables false
open Go.Shelf Go.RowKit Go.Lib Go.Sort
section
set_option maxHeartbeats 8000000 in
set_option maxRecDepth 1000000 in
theorem symMerge_w (enc : BS → List Value) (he1 : ∀ x, enc x = [Value.string x.1]) (hk : ∀ x, (enc x).length = 1) (h1 : ∀ x, ∀ v ∈ enc x, v.oneCell' = true) (cf : BS → BS → Int) (hlt : Swo (ltOf cf)) (g0 : Nat) (cb : Array Value) (blk off cap : Nat) (d0 : Array BS) (w : World)
    (eg : ∀ args w, (callFunc g0 args).run Tryz.prog w = .ok (.enter g0 args) w) (hcmp : CmpL1 Tryz.prog g0 cb (fun s => Value.string s.1) enc cf blk off d0.size w) (hH : HoldsK enc 1 w blk off d0) (hblk : blk < w.heap.size) (hsz : d0.size < 4611686018427387904) : ∀ D : Nat, SymOK_w (ltOf cf) enc (.func (.func g0) #[] cb) blk off cap w d0.size D
  | 0 => fun a m b mk os p l r s d hD hd he ha hm hb hl hr sl sr => by omega
  | D + 1 => by
    have IH := hide (symMerge_w enc he1 hk h1 cf hlt g0 cb blk off cap d0 w eg hcmp hH hblk hsz D)
    have ROT := hide (rotate_w enc (.func (.func g0) #[] cb) blk off cap w d0.size hsz (swapRange_w enc he1 hk h1 (.func (.func g0) #[] cb) blk off cap d0 w hH hblk hsz))
    intro a m b mk os p l r s d hD hd he ha hm hb hl hr sl sr
    by_cases h1l : l.length = 1
    · obtain ⟨x, rfl⟩ := List.length_eq_one_iff.1 h1l
      exact symLeft_w enc he1 hk h1 cf hlt g0 cb blk off cap d0 w eg hcmp hH hblk hsz a m b mk os p r s x d hd he ha (by rw [hm]; rfl) hb sr
    by_cases h1r : r.length = 1
    · obtain ⟨y, rfl⟩ := List.length_eq_one_iff.1 h1r
      exact symRight_w enc he1 hk h1 cf hlt g0 cb blk off cap d0 w eg hcmp hH hblk hsz a m b mk os p l s y d hd he ha hm (by rw [hb]; rfl) (by omega) sl
    have aE := agg_w
    have zE : ∀ w, (Go.sizeOf 9).run Tryz.prog w = .ok 1 w := fun w => by exact siz_w w
    have mixed : Tryz.prog.follows .mixedOrders = true := by kernel_rfl
    have hlen : p.length + l.length + r.length + s.length = d0.size := by
      rw [← hd, ← Array.length_toList, he]
      simp only [List.length_append]
      omega
    have HH : Hid (HoldsK enc 1 w blk off d0) := hH
    have HK : Hid (∀ x, (enc x).length = 1) := hk
    have HE1 : Hid (∀ x, enc x = [Value.string x.1]) := he1
    have HC : Aside _ := hcmp
    have HP := hide (show (d.toList = p ++ (l ++ (r ++ s)) ∧ a = p.length ∧ m = a + l.length ∧ b = m + r.length) ∧ Srt (ltOf cf) l ∧ Srt (ltOf cf) r from ⟨⟨he, ha, hm, hb⟩, sl, sr⟩)
    have HSW := hide hlt
    have hab : a + 2 ≤ m ∧ m + 2 ≤ b ∧ b ≤ d0.size ∧ b - a ≤ D + 1 := by omega
    have wa0 : IntKind.i64.wrap ((m : Int) - (a : Int)) = (m : Int) - (a : Int) := by rw [IntKind.wrap_i64]; omega
    have wa : (((m : Int) - (a : Int)) == 1) = false := by simp; omega
    have wb0 : IntKind.i64.wrap ((b : Int) - (m : Int)) = (b : Int) - (m : Int) := by rw [IntKind.wrap_i64]; omega
    have wb : (((b : Int) - (m : Int)) == 1) = false := by simp; omega
    clear hH hk h1 he1 hcmp he ha hm hb hl hr sl sr hlen hlt h1l h1r hD
    have HL : Live w [] := trivial
    go_enter Tryz.func116, Tryz.ntmps116
    go_upto_region 25 with fail
    clear wa wa0 wb wb0
    have e2 : ((a : Int) + (b : Int)) / 2 = (((a + b) / 2 : Nat) : Int) := by omega
    obtain ⟨mid, hmid⟩ : ∃ mid, mid = (a + b) / 2 := ⟨_, rfl⟩
    rw [← hmid] at e2
    rw [e2]
    have hmd : 2 * mid ≤ a + b ∧ a + b < 2 * mid + 2 := by omega
    clear hmid e2
    have wn : IntKind.i64.wrap ((mid : Int) + (m : Int)) = ((mid + m : Nat) : Int) := by rw [IntKind.wrap_i64]; omega
    have wn2 : (mid : Int) + (m : Int) = ((mid + m : Nat) : Int) := by omega
    obtain ⟨nn, hnn⟩ : ∃ nn, nn = mid + m := ⟨_, rfl⟩
    rw [← hnn] at wn wn2
    have HN := hide hnn
    obtain ⟨h2m, h2b, hbd, hD⟩ := hab
    have WNB := hide (show mid < m → IntKind.i64.wrap ((nn : Int) - (b : Int)) = ((nn - b : Nat) : Int) ∧ (nn : Int) - (b : Int) = ((nn - b : Nat) : Int) from fun h => by
      constructor
      · rw [IntKind.wrap_i64]; omega
      · omega)
    obtain ⟨s0, r0, hs0⟩ : ∃ s0 r0 : Nat, (mid < m → s0 = nn - b ∧ r0 = mid) ∧ (¬ mid < m → s0 = a ∧ r0 = m) := by
      by_cases h : mid < m
      · exact ⟨nn - b, mid, fun _ => ⟨rfl, rfl⟩, fun e => absurd h e⟩
      · exact ⟨a, m, fun e => absurd e h, fun _ => ⟨rfl, rfl⟩⟩
    have HS0 := hide hs0
    clear hs0 hnn
    generalize hq : nn - b = q at *
    have HQ := hide hq
    clear hq
    go_upto_if 140 with fail
    go_cut [20, 21] from 138 to 146 (fun v1 v2 wz => v1 = .int .i64 (s0 : Int) ∧ v2 = .int .i64 (r0 : Int) ∧ wz = sortWorldK enc 1 w blk off mk d os)
    case first => as_aux_lemma =>
      by_cases hmm : mid < m
      · obtain ⟨e1, e2⟩ := HS0.out.1 hmm
        have hmz : (m : Int) > (mid : Int) := by omega
        have hmz2 : (mid : Int) < (m : Int) := by omega
        obtain ⟨wnb, wnb2⟩ := WNB.out hmm
        have E1 := hide e1
        have E2 := hide e2
        clear HS0 WNB e1 e2
        go_wp2_with fail
        go_meet
        exact ⟨by rw [E1.out], by rw [E2.out], rfl⟩
      · obtain ⟨e1, e2⟩ := HS0.out.2 hmm
        have hmz : ¬ (m : Int) > (mid : Int) := by omega
        have hmz2 : ¬ (mid : Int) < (m : Int) := by omega
        have E1 := hide e1
        have E2 := hide e2
        clear HS0 WNB e1 e2
        go_wp2_with fail
        go_meet
        exact ⟨by rw [E1.out], by rw [E2.out], rfl⟩
    obtain ⟨rfl, rfl, rfl⟩ := hcut
    clear wn wn2 WNB
    have hsr : a ≤ s0 ∧ s0 ≤ r0 ∧ r0 ≤ m ∧ nn ≤ s0 + b ∧ r0 + m ≤ nn := by
      have h1 := HS0.out
      have h2 := HN.out
      have h3 := HQ.out
      by_cases hmm : mid < m
      · obtain ⟨e1, e2⟩ := h1.1 hmm
        omega
      · obtain ⟨e1, e2⟩ := h1.2 hmm
        omega
    have wp1 : IntKind.i64.wrap ((nn : Int) - 1) = ((nn - 1 : Nat) : Int) := by rw [IntKind.wrap_i64]; omega
    have wp2 : (nn : Int) - 1 = ((nn - 1 : Nat) : Int) := by omega
    have hnm : m + mid ≤ nn ∧ nn ≤ m + mid := by have := HN.out; omega
    obtain ⟨pp, hpp⟩ : ∃ pp, pp = nn - 1 := ⟨_, rfl⟩
    rw [← hpp] at wp1 wp2
    have hpn : pp + 1 ≤ nn ∧ nn ≤ pp + 1 := by omega
    clear hpp
    obtain ⟨h1s, h2s, h3s, h4s, h5s⟩ := hsr
    go_upto_block 8 with fail
    clear wp1 wp2
    go_cut [20] from 149 to 174 (fun vi wz => ∃ (i mj : Nat) (oj : Array Obj), vi = .int .i64 i ∧ s0 ≤ i ∧ i ≤ r0 ∧ wz = sortWorldK enc 1 w blk off mj d oj ∧ Hid (i = s0 ∨ ltOf cf d[nn - i]! d[i - 1]! = false) ∧ Hid (i = r0 ∨ ltOf cf d[nn - i - 1]! d[i]! = true))
    case first => as_aux_lemma =>
      go_wp2_with fail
      go_loopg [20, 21] (r0 - s0) (fun g vi vj wr => ∃ (i j mj : Nat) (oj : Array Obj), vi = .int .i64 i ∧ vj = .int .i64 j ∧ s0 ≤ i ∧ i ≤ j ∧ j ≤ r0 ∧ j - i ≤ g ∧ wr = sortWorldK enc 1 w blk off mj d oj ∧ Hid (i = s0 ∨ ltOf cf d[nn - i]! d[i - 1]! = false) ∧ Hid (j = r0 ∨ ltOf cf d[nn - j - 1]! d[j]! = true))
      case atStart => exact ⟨s0, r0, mk, os, rfl, rfl, Nat.le_refl _, h2s, Nat.le_refl _, Nat.le_refl _, rfl, Or.inl rfl, Or.inl rfl⟩
      case round =>
        clear os mk
        obtain ⟨i, j, mk, os, rfl, rfl, hmi, hij, hjb, hg, rfl, C1, C2⟩ := hrel
        by_cases hlt : i < j
        · have hltz : (i : Int) < (j : Int) := by omega
          go_upto_region 35 with fail
          have e2 : ((i : Int) + (j : Int)) / 2 = (((i + j) / 2 : Nat) : Int) := by omega
          have hh : i ≤ (i + j) / 2 ∧ (i + j) / 2 < j := by omega
          rw [e2]
          clear e2
          generalize (i + j) / 2 = h at *
          obtain ⟨hih, hhj⟩ := hh
          have wh2 : (pp : Int) - (h : Int) = ((pp - h : Nat) : Int) := by omega
          have hqp : pp - h < d0.size := by omega
          have HQP := hide (show pp - h = nn - h - 1 by omega)
          obtain ⟨u, hu⟩ : ∃ u, u = pp - h := ⟨_, rfl⟩
          rw [← hu] at wh2 hqp HQP
          clear hu
          have wu : IntKind.i64.wrap (u : Int) = (u : Int) := by rw [IntKind.wrap_i64]; omega
          have hz1 : (u : Int) < (d0.size : Int) := by omega
          have hz2 : (h : Int) < (d0.size : Int) := by omega
          obtain ⟨xj, hxj⟩ : ∃ x, d[u]! = x := ⟨_, rfl⟩
          obtain ⟨xp, hxp⟩ : ∃ x, d[h]! = x := ⟨_, rfl⟩
          have hcls : ∀ n' os', grow ((sortWorldK enc 1 w blk off mk d os).drewN n') os' = sortWorldK enc 1 w blk off (mk + n') d (os ++ os') := fun n' os' => sortWorldK_grown_c enc 1 w blk off mk n' d os os'
          have hHc : ∀ n' os', HoldsK enc 1 (grow ((sortWorldK enc 1 w blk off mk d os).drewN n') os') blk off d := fun n' os' => by rw [hcls]; exact holdsK_sortWorldK_c enc 1 w blk off d0 d _ _ HH.out hblk hd
          have lj : ∀ n' os', (grow ((sortWorldK enc 1 w blk off mk d os).drewN n') os').cell? ⟨blk, off + u, none⟩ = some (Value.string xj.1) := fun n' os' => by
            rw [← hxj]; exact (holds1 HE1.out (hHc n' os') (show u < d.size by omega)).1
          have lp : ∀ n' os', (grow ((sortWorldK enc 1 w blk off mk d os).drewN n') os').cell? ⟨blk, off + h, none⟩ = some (Value.string xp.1) := fun n' os' => by
            rw [← hxp]; exact (holds1 HE1.out (hHc n' os') (show h < d.size by omega)).1
          have hcg : ∀ n' os', Calls Tryz.prog g0 (#[Value.string xj.1, Value.string xp.1] ++ cb) (grow ((sortWorldK enc 1 w blk off mk d os).drewN n') os') fun e w' => e = .returned (.int .i64 (cf xj xp)) ∧ ∃ q os'', w' = grow ((grow ((sortWorldK enc 1 w blk off mk d os).drewN n') os').drewN q) os'' := fun n' os' => by
            rw [hcls]; exact (HC.out _ _ d hd xj xp).mono fun e w' ⟨h1, q, h2⟩ => ⟨h1, q, #[], by rw [h2, grow_empty]⟩
          have CLS : Hid _ := hcls
          clear hcls hHc
          obtain ⟨wq, hwq⟩ : ∃ wq, wq = sortWorldK enc 1 w blk off mk d os := ⟨_, rfl⟩
          rw [← hwq] at lj lp hcg CLS ⊢
          clear hwq
          have HLT : Hid (ltOf cf d[u]! d[h]! = decide (cf xj xp < 0)) := by show _ = _; rw [hxj, hxp]; rfl
          by_cases hlv : cf xj xp < 0
          · go_quiet_grown (first | (go_at_fn g0; refine Calls.grown_of (hcg _ _)))
            go_wp2_with fail
            go_roundg (h - i)
            case measure => omega
            case rel => exact ⟨i, h, mk + nq, os ++ osq, rfl, by first | rfl | go_num, hmi, hih, by omega, by omega, CLS.out nq osq, C1.out, (show _ ∨ _ from Or.inr (by rw [← HQP.out, HLT.out]; exact decide_eq_true hlv))⟩
          · go_quiet_grown (first | (go_at_fn g0; refine Calls.grown_of (hcg _ _)))
            go_wp2_with fail
            go_roundg (j - (h + 1))
            case measure => omega
            case rel => exact ⟨h + 1, j, mk + nq, os ++ osq, by first | rfl | go_num, rfl, by omega, by omega, hjb, by omega, CLS.out nq osq, (show _ ∨ _ from Or.inr (by rw [Nat.add_sub_cancel, show nn - (h + 1) = u by have := HQP.out; omega, HLT.out]; exact decide_eq_false (by omega))), C2.out⟩
        · have hltz : ¬ (i : Int) < (j : Int) := by omega
          obtain rfl : i = j := by omega
          go_wp2_with fail
          go_meet
          exact ⟨i, mk, os, rfl, hmi, hjb, rfl, C1.out, C2.out⟩
    clear os mk
    obtain ⟨st, mk, os, rfl, hsi, hir, rfl, C1, C2⟩ := hcut
    have we : IntKind.i64.wrap ((nn : Int) - (st : Int)) = ((nn - st : Nat) : Int) := by rw [IntKind.wrap_i64]; omega
    have we2 : (nn : Int) - (st : Int) = ((nn - st : Nat) : Int) := by omega
    obtain ⟨en, hen⟩ : ∃ en, en = nn - st := ⟨_, rfl⟩
    rw [← hen] at we we2 C1 C2
    have hes : en + st ≤ nn ∧ nn ≤ en + st ∧ m ≤ en ∧ en ≤ b := by omega
    clear hen
    have HM := hide (show mrg (ltOf cf) l r = mrg (ltOf cf) (l.take (st - a)) (r.take (en - m)) ++ mrg (ltOf cf) (l.drop (st - a)) (r.drop (en - m)) from by
      obtain ⟨⟨q1, q2, q3, q4⟩, q5, q6⟩ := HP.out
      have h1 := HS0.out
      have h2 := HN.out
      have h3 := HQ.out
      refine sym_cut HSW.out q1 q2 q3 q4 q5 q6 (s := st) (t := en) ⟨by omega, by omega⟩ ⟨by omega, by omega⟩ ?_ ?_
      · rcases C1.out with c | c
        · by_cases hmm : mid < m
          · obtain ⟨e1, e2⟩ := h1.1 hmm
            right; left; omega
          · obtain ⟨e1, e2⟩ := h1.2 hmm
            left; omega
        · exact Or.inr (Or.inr c)
      · rcases C2.out with c | c
        · by_cases hmm : mid < m
          · obtain ⟨e1, e2⟩ := h1.1 hmm
            right; left; omega
          · obtain ⟨e1, e2⟩ := h1.2 hmm
            left; omega
        · exact Or.inr (Or.inr c))
    have hst : a ≤ st ∧ st ≤ m := by omega
    obtain ⟨l1, l2, hl12, l1l, s1, s2⟩ : ∃ l1 l2, l = l1 ++ l2 ∧ a + l1.length = st ∧ Srt (ltOf cf) l1 ∧ Srt (ltOf cf) l2 ∧ l1 = l.take (st - a) ∧ l2 = l.drop (st - a) := by
      have := HP.out.1
      refine ⟨l.take (st - a), l.drop (st - a), (List.take_append_drop _ _).symm, by rw [List.length_take]; omega, srt_take _ HP.out.2.1, srt_drop _ HP.out.2.1, rfl, rfl⟩
    obtain ⟨s2, el1, el2⟩ := s2
    obtain ⟨r1, r2, hr12, r1l, t1, t2⟩ : ∃ r1 r2, r = r1 ++ r2 ∧ m + r1.length = en ∧ Srt (ltOf cf) r1 ∧ Srt (ltOf cf) r2 ∧ r1 = r.take (en - m) ∧ r2 = r.drop (en - m) := by
      have := HP.out.1
      refine ⟨r.take (en - m), r.drop (en - m), (List.take_append_drop _ _).symm, by rw [List.length_take]; omega, srt_take _ HP.out.2.2, srt_drop _ HP.out.2.2, rfl, rfl⟩
    obtain ⟨t2, er1, er2⟩ := t2
    rw [← el1, ← el2, ← er1, ← er2] at HM
    have HQ2 := hide (show d.toList = p ++ (l1 ++ (l2 ++ (r1 ++ (r2 ++ s)))) ∧ a = p.length ∧ st = a + l1.length ∧ m = st + l2.length ∧ en = m + r1.length ∧ b = en + r2.length from by
      obtain ⟨⟨q1, q2, q3, q4⟩, _, _⟩ := HP.out
      refine ⟨by rw [q1, hl12, hr12]; simp only [List.append_assoc], q2, by omega, ?_, by omega, ?_⟩
      · rw [hl12, List.length_append] at q3; omega
      · rw [hr12, List.length_append] at q4; omega)
    have HS1 := hide (And.intro (And.intro s1 s2) (And.intro t1 t2))
    clear el1 el2 er1 er2 hl12 hr12 l1l r1l s1 s2 t1 t2 C1 C2 HP HS0 HQ HSW HC
    have hmn : mid + m ≤ nn ∧ nn ≤ mid + m := by omega
    clear HN
    go_upto_region 39 with fail
    obtain ⟨tb, htb⟩ : ∃ tb : Bool, tb = decide (st < m ∧ m < en) := ⟨_, rfl⟩
    have Htb := hide htb
    clear htb
    go_cut [24, 185] from 178 to 184 (fun en7 tv wz => en7 = .int .i64 (en : Int) ∧ tv = .bool tb ∧ wz = sortWorldK enc 1 w blk off mk d os)
    case first => as_aux_lemma =>
      by_cases c1 : st < m
      · have c1z : (st : Int) < (m : Int) := by omega
        by_cases c2 : m < en
        · have c2z : (m : Int) < (en : Int) := by omega
          go_wp2_with fail
          go_meet
          exact ⟨rfl, by rw [Htb.out, decide_eq_true ⟨c1, c2⟩], rfl⟩
        · have c2z : ¬ (m : Int) < (en : Int) := by omega
          go_wp2_with fail
          go_meet
          exact ⟨rfl, by rw [Htb.out, decide_eq_false (fun e => c2 e.2)], rfl⟩
      · have c1z : ¬ (st : Int) < (m : Int) := by omega
        go_wp2_with fail
        go_meet
        exact ⟨rfl, by rw [Htb.out, decide_eq_false (fun e => c1 e.1)], rfl⟩
    obtain ⟨rfl, rfl, rfl⟩ := hcut
    go_upto_if 185 with fail
    go_cut [24] from 185 to 191 (fun en7 wz => en7 = .int .i64 (en : Int) ∧ ∃ (mk' : Nat) (d1 : Array BS), d1.size = d0.size ∧ Hid (d1.toList = p ++ (l1 ++ (r1 ++ (l2 ++ (r2 ++ s))))) ∧ wz = sortWorldK enc 1 w blk off mk' d1 os)
    case first => as_aux_lemma =>
      cases tb with
      | true =>
        obtain ⟨c1, c2⟩ := of_decide_eq_true Htb.out.symm
        have CS := hide (ROT.out st m en mk os (p ++ l1) l2 r1 (r2 ++ s) d hd (by rw [HQ2.out.1]; simp only [List.append_assoc]) (by rw [List.length_append]; have := HQ2.out; omega) (by have := HQ2.out; omega) (by have := HQ2.out; omega) (by have := HQ2.out; omega) (by have := HQ2.out; omega))
        go_wp2_with (go_at_call 141; (with_reducible refine CS.out.mono ?_); rintro e w' ⟨rfl, m', d', hd', hl', rfl⟩)
        go_meet
        exact ⟨rfl, m', d', hd', (show _ = _ by rw [hl']; simp only [List.append_assoc]), rfl⟩
      | false =>
        have hc : ¬ (st < m ∧ m < en) := of_decide_eq_false Htb.out.symm
        go_wp2_with fail
        go_meet
        refine ⟨rfl, mk, d, hd, (show _ = _ from ?_), rfl⟩
        by_cases c1 : st < m
        · have e0 : r1 = [] := List.eq_nil_of_length_eq_zero (by have := HQ2.out; have : ¬ m < en := fun e => hc ⟨c1, e⟩; omega)
          rw [HQ2.out.1, e0]
          rfl
        · have e0 : l2 = [] := List.eq_nil_of_length_eq_zero (by have := HQ2.out; omega)
          rw [HQ2.out.1, e0]
          rfl
    clear mk
    obtain ⟨rfl, mk, d1, hd1, HD1, rfl⟩ := hcut
    clear ROT
    go_upto_region 41 with fail
    obtain ⟨tc, htc⟩ : ∃ tc : Bool, tc = decide (a < st ∧ st < mid) := ⟨_, rfl⟩
    have Htc := hide htc
    clear htc
    go_cut [24, 199] from 192 to 198 (fun en7 tv wz => en7 = .int .i64 (en : Int) ∧ tv = .bool tc ∧ wz = sortWorldK enc 1 w blk off mk d1 os)
    case first => as_aux_lemma =>
      by_cases c1 : a < st
      · have c1z : (a : Int) < (st : Int) := by omega
        by_cases c2 : st < mid
        · have c2z : (st : Int) < (mid : Int) := by omega
          go_wp2_with fail
          go_meet
          exact ⟨rfl, by rw [Htc.out, decide_eq_true ⟨c1, c2⟩], rfl⟩
        · have c2z : ¬ (st : Int) < (mid : Int) := by omega
          go_wp2_with fail
          go_meet
          exact ⟨rfl, by rw [Htc.out, decide_eq_false (fun e => c2 e.2)], rfl⟩
      · have c1z : ¬ (a : Int) < (st : Int) := by omega
        go_wp2_with fail
        go_meet
        exact ⟨rfl, by rw [Htc.out, decide_eq_false (fun e => c1 e.1)], rfl⟩
    obtain ⟨rfl, rfl, rfl⟩ := hcut
    go_upto_if 199 with fail
    go_cut [24] from 199 to 205 (fun en7 wz => en7 = .int .i64 (en : Int) ∧ ∃ (mk' : Nat) (d2 : Array BS) (o2 : Array Obj), d2.size = d0.size ∧ Hid (d2.toList = p ++ (mrg (ltOf cf) l1 r1 ++ (l2 ++ (r2 ++ s)))) ∧ wz = sortWorldK enc 1 w blk off mk' d2 o2)
    case first => as_aux_lemma =>
      cases tc with
      | true =>
        obtain ⟨c1, c2⟩ := of_decide_eq_true Htc.out.symm
        have CS := hide (IH.out a st mid mk os p l1 r1 (l2 ++ (r2 ++ s)) d1 (by omega) hd1 HD1.out HQ2.out.2.1 HQ2.out.2.2.1 (by have := HQ2.out; omega) (by have := HQ2.out; omega) (by have := HQ2.out; omega) HS1.out.1.1 HS1.out.2.1)
        go_wp2_with (go_at_call 116; (with_reducible refine CS.out.mono ?_); rintro e w' ⟨rfl, m', d', o', hd', hl', rfl⟩)
        go_meet
        exact ⟨rfl, m', d', o', hd', (show _ = _ from hl'), rfl⟩
      | false =>
        have hc : ¬ (a < st ∧ st < mid) := of_decide_eq_false Htc.out.symm
        go_wp2_with fail
        go_meet
        refine ⟨rfl, mk, d1, os, hd1, (show _ = _ from ?_), rfl⟩
        by_cases c1 : a < st
        · have e0 : r1 = [] := List.eq_nil_of_length_eq_zero (by have := HQ2.out; have : ¬ st < mid := fun e => hc ⟨c1, e⟩; omega)
          rw [HD1.out, e0, mrg_right]
          rfl
        · have e0 : l1 = [] := List.eq_nil_of_length_eq_zero (by have := HQ2.out; omega)
          rw [HD1.out, e0, mrg_nil]
          rfl
    clear mk os
    obtain ⟨rfl, mk, d2, os, hd2, HD2, rfl⟩ := hcut
    clear HD1 hd1 d1
    have HFIN := hide (show ∀ d3 : Array BS, d3.toList = p ++ (mrg (ltOf cf) l1 r1 ++ (mrg (ltOf cf) l2 r2 ++ s)) → d3.toList = p ++ (mrg (ltOf cf) l r ++ s) from fun d3 h => by rw [h, HM.out]; simp only [List.append_assoc])
    clear HM
    by_cases c1 : mid < en
    · have c1z : (mid : Int) < (en : Int) := by omega
      by_cases c2 : en < b
      · have c2z : (en : Int) < (b : Int) := by omega
        have CS := hide (IH.out mid en b mk os (p ++ mrg (ltOf cf) l1 r1) l2 r2 s d2 (by omega) hd2 (by rw [HD2.out]; simp only [List.append_assoc]) (by rw [List.length_append, mrg_len _ _ l1 r1 (Nat.le_refl _)]; have := HQ2.out; omega) (by have := HQ2.out; omega) (by have := HQ2.out; omega) (by have := HQ2.out; omega) (by have := HQ2.out; omega) HS1.out.1.2 HS1.out.2.2)
        go_wp2_with (go_at_call 116; (with_reducible refine CS.out.mono ?_); rintro e w' ⟨rfl, m', d', o', hd', hl', rfl⟩)
        go_end0
        have HF := HFIN.out d' (by rw [hl']; simp only [List.append_assoc])
        first | exact ⟨rfl, m', d', o', hd', HF, rfl⟩ | exact ⟨rfl, m', d', hd', HF, o', rfl⟩
      · have c2z : ¬ (en : Int) < (b : Int) := by omega
        go_wp2_with fail
        go_end0
        have e0 : r2 = [] := List.eq_nil_of_length_eq_zero (by have := HQ2.out; omega)
        exact ⟨rfl, mk, d2, hd2, HFIN.out d2 (by rw [HD2.out, e0, mrg_right]; rfl), os, rfl⟩
    · have c1z : ¬ (mid : Int) < (en : Int) := by omega
      go_wp2_with fail
      go_end0
      have e0 : l2 = [] := List.eq_nil_of_length_eq_zero (by have := HQ2.out; omega)
      exact ⟨rfl, mk, d2, hd2, HFIN.out d2 (by rw [HD2.out, e0, mrg_nil]; rfl), os, rfl⟩
end
def evB (s : BS) : Value := .string s.1
theorem flat1 {enc : BS → List Value} (he : ∀ x, enc x = [Value.string x.1]) (d : Array BS) : flatK enc 1 d = d.map evB := by
  apply Array.ext
  · rw [size_flatK, Array.size_map, Nat.mul_one]
  · intro i h1 h2
    rw [size_flatK, Nat.mul_one] at h1
    have h3 := get_flatK enc 1 d i (by omega)
    rw [Nat.div_one, Nat.mod_one, he, getElem!_pos (flatK enc 1 d) i (by rw [size_flatK]; omega), getElem!_pos d i h1] at h3
    rw [h3, Array.getElem_map]
    rfl
theorem row1 {enc : BS → List Value} (he : ∀ x, enc x = [Value.string x.1]) (w : World) (blk off : Nat) (d : Array BS) : putRowK enc 1 w blk off d = putRow evB w blk off d := by
  unfold putRowK
  rw [flat1 he]
  have e : putCells id off (d.map evB) = putCells evB off d := by
    funext c
    unfold putCells
    congr 1
    funext i v
    rw [Array.size_map]
    split
    · rename_i h
      rw [getElem!_pos (d.map evB) (i - off) (by rw [Array.size_map]; omega), Array.getElem_map, getElem!_pos d (i - off) (by omega)]
      rfl
    · rfl
  unfold putRow
  rw [e]
theorem world1 {enc : BS → List Value} (he : ∀ x, enc x = [Value.string x.1]) (w : World) (blk off m : Nat) (d : Array BS) (os : Array Obj) : sortWorldK enc 1 w blk off m d os = sortWorld evB w blk off m d os := by
  unfold sortWorldK sortWorld
  rw [row1 he]
theorem sortWorld_none' (w : World) (blk off m : Nat) (dk : Array BS) : sortWorld evB w blk off m dk #[] = (putRow evB w blk off dk).drewN m := sortWorld_none _ _ _ _ _ _
section
theorem world_over_w (enc : BS → List Value) (w : World) (blk off m m2 : Nat) (d d2 : Array BS) (os os2 : Array Obj) (hblk : blk < w.heap.size) (hd : d2.size = d.size) :
    sortWorldK enc 1 (sortWorldK enc 1 w blk off m d os) blk off m2 d2 os2 = sortWorldK enc 1 w blk off (m + m2) d2 (os ++ os2) := by
  have e1 : Sort.ahead (putRowK enc 1 (Sort.ahead w m) blk off d) m2 = putRowK enc 1 (Sort.ahead w (m + m2)) blk off d := putRowK_drewN enc 1 w m m2 blk off d
  unfold sortWorldK
  rw [ahead_grow, e1, putRowK_grow enc 1 _ os blk off d2 (by rw [size_putRowK]; exact hblk)]
  have e2 : putRowK enc 1 (putRowK enc 1 (Sort.ahead w (m + m2)) blk off d) blk off d2 = putRowK enc 1 (Sort.ahead w (m + m2)) blk off d2 := by
    unfold putRowK
    exact putRow_putRow id _ blk off _ _ (by rw [size_flatK, size_flatK, hd])
  rw [e2, grow_grow]
theorem insSort_w (enc : BS → List Value) (he1 : ∀ x, enc x = [Value.string x.1]) (hk : ∀ x, (enc x).length = 1) (h1 : ∀ x, ∀ v ∈ enc x, v.oneCell' = true) (cf : BS → BS → Int) (hlt : Swo (ltOf cf)) (g0 : Nat) (cb : Array Value) (blk off cap : Nat) (d0 : Array BS) (w : World)
    (eg : ∀ args w, (callFunc g0 args).run Tryz.prog w = .ok (.enter g0 args) w) (hcmp : CmpL1 Tryz.prog g0 cb (fun s => Value.string s.1) enc cf blk off d0.size w) (hH : HoldsK enc 1 w blk off d0) (hblk : blk < w.heap.size) (hsz : d0.size < 4611686018427387904)
    (a b mk : Nat) (os : Array Obj) (p t q : List BS) (d : Array BS) (hd : d.size = d0.size) (he : d.toList = p ++ (t ++ q)) (ha : a = p.length) (hb : b = a + t.length) :
    Calls Tryz.prog 115 #[.slice (some ⟨blk, off, none⟩) d0.size cap, .int .i64 a, .int .i64 b, .func (.func g0) #[] cb] (sortWorldK enc 1 w blk off mk d os) fun e w' =>
      e = .returned (.tuple #[]) ∧ ∃ (m' : Nat) (d' : Array BS) (os' : Array Obj), d'.size = d0.size ∧ d'.toList = p ++ (srt (ltOf cf) t ++ q) ∧ w' = sortWorldK enc 1 w blk off m' d' os' := by
  have hlen : p.length + t.length + q.length = d.size := by
    rw [← Array.length_toList, he]
    simp only [List.length_append]
    omega
  have hs1 : w.heap.size ≤ (sortWorldK enc 1 w blk off mk d os).heap.size := size_sortWorldK_c enc 1 w blk off mk d os
  have h := Any.insertionSortCmpFunc_one Tryz.laysSlF20_f115 evB (fun _ => rfl) cf g0 cb blk off cap a b d (sortWorldK enc 1 w blk off mk d os) eg
    (fun m2 os2 dk hdk x y => by
      have e := world_over_w enc w blk off mk m2 d dk os os2 hblk hdk
      rw [← world1 he1, e]
      exact hcmp (mk + m2) (os ++ os2) dk (by rw [hdk, hd]) x y)
    (fun j hj => holds1 he1 (holdsK_sortWorldK_c enc 1 w blk off d0 d mk os hH hblk hd) hj) (by omega) (by omega) (by omega)
  rw [hd] at h
  refine h.mono fun e w' ⟨h1, n, h2⟩ => ⟨h1, mk + n, insertionSort (ltOf cf) d a b, os ++ #[], by rw [insertion_size, hd], insertion_list hlt he ha hb, ?_⟩
  rw [h2, ← sortWorld_none', ← world1 he1, world_over_w enc w blk off mk n d _ os #[] hblk (by rw [insertion_size])]
set_option maxHeartbeats 8000000 in
set_option maxRecDepth 1000000 in
theorem stable_w (enc : BS → List Value) (he1 : ∀ x, enc x = [Value.string x.1]) (hk : ∀ x, (enc x).length = 1) (h1 : ∀ x, ∀ v ∈ enc x, v.oneCell' = true) (cf : BS → BS → Int) (hlt : Swo (ltOf cf)) (g0 : Nat) (cb : Array Value) (blk off cap : Nat) (d0 : Array BS) (w : World)
    (eg : ∀ args w, (callFunc g0 args).run Tryz.prog w = .ok (.enter g0 args) w) (hcmp : CmpL1 Tryz.prog g0 cb (fun s => Value.string s.1) enc cf blk off d0.size w) (hH : HoldsK enc 1 w blk off d0) (hblk : blk < w.heap.size) (hsz : d0.size < 4611686018427387904)
    (mk0 : Nat) (os0 : Array Obj) (d : Array BS) (hd : d.size = d0.size) :
    Calls Tryz.prog 82 #[.slice (some ⟨blk, off, none⟩) d0.size cap, .int .i64 d0.size, .func (.func g0) #[] cb] (sortWorldK enc 1 w blk off mk0 d os0) fun e w' =>
      e = .returned (.tuple #[]) ∧ ∃ (m' : Nat) (d' : Array BS) (os' : Array Obj), d'.size = d0.size ∧ d'.toList = srt (ltOf cf) d.toList ∧ w' = sortWorldK enc 1 w blk off m' d' os' := by
  have SYM := hide (symMerge_w enc he1 hk h1 cf hlt g0 cb blk off cap d0 w eg hcmp hH hblk hsz d0.size)
  have INS := hide (insSort_w enc he1 hk h1 cf hlt g0 cb blk off cap d0 w eg hcmp hH hblk hsz)
  have HSW := hide hlt
  have HN := hide (show d.toList.length = d0.size by rw [Array.length_toList, hd])
  clear hk h1 he1 hlt eg hcmp hH hblk
  generalize hNN : d0.size = N at *
  clear hNN
  have HL : Live w [] := trivial
  go_enter Tryz.func82, Tryz.ntmps82
  go_wp2
  go_loopg [7, 8] N (fun g va vb wr => ∃ (a mk : Nat) (os : Array Obj) (dk : Array BS), va = .int .i64 a ∧ vb = .int .i64 ((a : Int) + 20) ∧ a ≤ N ∧ N - a ≤ g ∧ dk.size = N ∧ wr = sortWorldK enc 1 w blk off mk dk os ∧ Hid (∃ l x y, d.toList = l ++ y ∧ dk.toList = x ++ y ∧ Full (ltOf cf) 20 l x ∧ l.length = a))
  case atStart => exact ⟨0, mk0, os0, d, rfl, rfl, Nat.zero_le _, Nat.le_refl _, hd, rfl, [], [], d.toList, rfl, rfl, Full.nil, rfl⟩
  case round =>
    clear mk0 os0
    obtain ⟨a, mk, os, dk, rfl, rfl, haN, hg, hsk, rfl, HO⟩ := hrel
    by_cases hlt : a + 20 ≤ N
    · have hltz : (a : Int) + 20 ≤ (N : Int) := by omega
      have CS := hide (show Calls Tryz.prog 115 #[.slice (some ⟨blk, off, none⟩) N cap, .int .i64 a, .int .i64 ((a : Int) + 20), .func (.func g0) #[] cb] (sortWorldK enc 1 w blk off mk dk os) fun e w' =>
          e = .returned (.tuple #[]) ∧ ∃ (m' : Nat) (d' : Array BS) (os' : Array Obj), d'.size = N ∧ (∃ l x y, d.toList = l ++ y ∧ d'.toList = x ++ y ∧ Full (ltOf cf) 20 l x ∧ l.length = a + 20) ∧ w' = sortWorldK enc 1 w blk off m' d' os' from by
        obtain ⟨l, x, y, e1, e2, e3, e4⟩ := HO.out
        have hl : l.length + y.length = N := by rw [← List.length_append, ← e1]; exact HN.out
        have h := INS.out a (a + 20) mk os x (y.take 20) (y.drop 20) dk hsk (by rw [e2, List.take_append_drop]) (by rw [e3.len]; omega) (by rw [List.length_take]; omega)
        refine Calls.mono h fun e w' ⟨h1, m', d', os', h2, h3, h4⟩ => ⟨h1, m', d', os', h2, ⟨l ++ y.take 20, x ++ srt (ltOf cf) (y.take 20), y.drop 20, ?_, ?_, e3.snoc (by rw [List.length_take]; omega), by rw [List.length_append, List.length_take]; omega⟩, h4⟩
        · rw [e1, List.append_assoc, List.take_append_drop]
        · rw [h3, List.append_assoc])
      have w20 : IntKind.i64.wrap ((a : Int) + 20 + 20) = (a : Int) + 20 + 20 := by rw [IntKind.wrap_i64]; omega
      clear HO
      go_wp2_with (go_at_call 115; (with_reducible refine CS.out.mono ?_); rintro e w' ⟨rfl, m', d', os', hd', hl', rfl⟩)
      go_roundg (N - (a + 20))
      case measure => omega
      case rel => exact ⟨a + 20, m', os', d', by first | rfl | go_num, by first | rfl | go_num | (congr 1; omega), hlt, Nat.le_refl _, hd', rfl, hl'⟩
    · have hltz : ¬ (a : Int) + 20 ≤ (N : Int) := by omega
      have CS := hide (show Calls Tryz.prog 115 #[.slice (some ⟨blk, off, none⟩) N cap, .int .i64 a, .int .i64 (N : Int), .func (.func g0) #[] cb] (sortWorldK enc 1 w blk off mk dk os) fun e w' =>
          e = .returned (.tuple #[]) ∧ ∃ (m' : Nat) (d' : Array BS) (os' : Array Obj), d'.size = N ∧ Chk (ltOf cf) 20 d.toList d'.toList ∧ w' = sortWorldK enc 1 w blk off m' d' os' from by
        obtain ⟨l, x, y, e1, e2, e3, e4⟩ := HO.out
        have hl : l.length + y.length = N := by rw [← List.length_append, ← e1]; exact HN.out
        have h := INS.out a N mk os x y [] dk hsk (by rw [e2, List.append_nil]) (by rw [e3.len]; omega) (by omega)
        refine Calls.mono h fun e w' ⟨h1, m', d', os', h2, h3, h4⟩ => ⟨h1, m', d', os', h2, ?_, h4⟩
        rw [h3, e1, List.append_nil]
        exact e3.fin (Chk.one (by omega)))
      clear HO hsk
      go_upto_block 2 with (go_at_call 115; (with_reducible refine CS.out.mono ?_); rintro e w' ⟨rfl, m', d', os', hd', hl', rfl⟩)
      have HK0 := hide hl'
      clear CS hl' INS
      go_wp2
      go_loopg [6, 7, 8, 9] N (fun g vs va vb vm wr => ∃ (bs mk : Nat) (os : Array Obj) (dk : Array BS), vs = .int .i64 bs ∧ 0 < bs ∧ N - bs ≤ g ∧ dk.size = N ∧ wr = sortWorldK enc 1 w blk off mk dk os ∧ Hid (Chk (ltOf cf) bs d.toList dk.toList))
      case atStart => exact ⟨20, m', os', d', rfl, by decide, by omega, hd', rfl, HK0.out⟩
      case round =>
        clear mk os hd' HK0 hltz hg
        obtain ⟨bs, mk, os, dk2, rfl, hb0, hg2, hsk, rfl, HO⟩ := hrel
        by_cases hbn : bs < N
        · have hbz : (bs : Int) < (N : Int) := by omega
          have wd : IntKind.i64.wrap (2 * (bs : Int)) = 2 * (bs : Int) := by rw [IntKind.wrap_i64]; omega
          have wd2 : IntKind.i64.wrap ((bs : Int) * 2) = (bs : Int) * 2 := by rw [IntKind.wrap_i64]; omega
          go_wp2
          go_loopg [7, 8] N (fun g va vb wr => ∃ (a mk : Nat) (os : Array Obj) (dk : Array BS), va = .int .i64 a ∧ vb = .int .i64 ((a : Int) + 2 * (bs : Int)) ∧ a ≤ N ∧ N - a ≤ g ∧ dk.size = N ∧ wr = sortWorldK enc 1 w blk off mk dk os ∧ Hid (∃ l x y r, d.toList = l ++ y ∧ dk.toList = x ++ r ∧ Full (ltOf cf) (2 * bs) l x ∧ Chk (ltOf cf) bs y r ∧ l.length = a))
          case atStart => exact ⟨0, mk, os, dk2, rfl, by first | rfl | go_num | simp, Nat.zero_le _, Nat.le_refl _, hsk, rfl, [], [], d.toList, dk2.toList, rfl, rfl, Full.nil, HO.out, rfl⟩
          case round =>
            clear mk os hsk HO dk2
            obtain ⟨a2, mk, os, dk2, rfl, rfl, haN2, hg3, hsk, rfl, HO⟩ := hrel
            by_cases hab : a2 + 2 * bs ≤ N
            · have habz : (a2 : Int) + 2 * (bs : Int) ≤ (N : Int) := by omega
              have wm : IntKind.i64.wrap ((a2 : Int) + (bs : Int)) = (a2 : Int) + (bs : Int) := by rw [IntKind.wrap_i64]; omega
              have wn : IntKind.i64.wrap ((a2 : Int) + 2 * (bs : Int) + 2 * (bs : Int)) = (a2 : Int) + 2 * (bs : Int) + 2 * (bs : Int) := by rw [IntKind.wrap_i64]; omega
              have CS := hide (show Calls Tryz.prog 116 #[.slice (some ⟨blk, off, none⟩) N cap, .int .i64 a2, .int .i64 ((a2 : Int) + (bs : Int)), .int .i64 ((a2 : Int) + 2 * (bs : Int)), .func (.func g0) #[] cb] (sortWorldK enc 1 w blk off mk dk2 os) fun e w' =>
                  e = .returned (.tuple #[]) ∧ ∃ (m' : Nat) (d' : Array BS) (os' : Array Obj), d'.size = N ∧ (∃ l x y r, d.toList = l ++ y ∧ d'.toList = x ++ r ∧ Full (ltOf cf) (2 * bs) l x ∧ Chk (ltOf cf) bs y r ∧ l.length = a2 + 2 * bs) ∧ w' = sortWorldK enc 1 w blk off m' d' os' from by
                obtain ⟨l, x, y, r, e1, e2, e3, e4, e5⟩ := HO.out
                have hl : l.length + y.length = N := by rw [← List.length_append, ← e1]; exact HN.out
                obtain ⟨c1, c2, y2, r2, f1, f2, f3, f4, f5⟩ := e4.two hb0 (by omega)
                have h := SYM.out a2 (a2 + bs) (a2 + 2 * bs) mk os x (srt (ltOf cf) c1) (srt (ltOf cf) c2) r2 dk2 (by omega) hsk (by rw [e2, f2]) (by rw [e3.len]; omega) (by rw [srt_len]; omega) (by rw [srt_len]; omega) (by rw [srt_len]; omega) (by rw [srt_len]; omega) (srt_sorted HSW.out _) (srt_sorted HSW.out _)
                have z1 : (((a2 + bs : Nat)) : Int) = (a2 : Int) + (bs : Int) := by omega
                have z2 : (((a2 + 2 * bs : Nat)) : Int) = (a2 : Int) + 2 * (bs : Int) := by omega
                rw [z1, z2] at h
                refine Calls.mono h fun e w' ⟨h1, m', d', os', h2, h3, h4⟩ => ⟨h1, m', d', os', h2, ⟨l ++ (c1 ++ c2), x ++ srt (ltOf cf) (c1 ++ c2), y2, r2, ?_, ?_, e3.snoc (by rw [List.length_append]; omega), f5, by rw [List.length_append, List.length_append]; omega⟩, h4⟩
                · rw [e1, f1]; simp only [List.append_assoc]
                · rw [h3, srt_app HSW.out, List.append_assoc])
              clear HO
              go_wp2_with (go_at_call 116; (with_reducible refine CS.out.mono ?_); rintro e w' ⟨rfl, m', d', os', hd', hl', rfl⟩)
              go_roundg (N - (a2 + 2 * bs))
              case measure => omega
              case rel => exact ⟨a2 + 2 * bs, m', os', d', by first | rfl | go_num | (congr 1; omega), by first | rfl | go_num | (congr 1; omega), hab, Nat.le_refl _, hd', rfl, hl'⟩
            · have habz : ¬ (a2 : Int) + 2 * (bs : Int) ≤ (N : Int) := by omega
              have wm : IntKind.i64.wrap ((a2 : Int) + (bs : Int)) = (a2 : Int) + (bs : Int) := by rw [IntKind.wrap_i64]; omega
              by_cases hm : a2 + bs < N
              · have hmz : (a2 : Int) + (bs : Int) < (N : Int) := by omega
                have CS := hide (show Calls Tryz.prog 116 #[.slice (some ⟨blk, off, none⟩) N cap, .int .i64 a2, .int .i64 ((a2 : Int) + (bs : Int)), .int .i64 (N : Int), .func (.func g0) #[] cb] (sortWorldK enc 1 w blk off mk dk2 os) fun e w' =>
                    e = .returned (.tuple #[]) ∧ ∃ (m' : Nat) (d' : Array BS) (os' : Array Obj), d'.size = N ∧ Chk (ltOf cf) (bs * 2) d.toList d'.toList ∧ w' = sortWorldK enc 1 w blk off m' d' os' from by
                  obtain ⟨l, x, y, r, e1, e2, e3, e4, e5⟩ := HO.out
                  have hl : l.length + y.length = N := by rw [← List.length_append, ← e1]; exact HN.out
                  obtain ⟨c1, c2, f1, f2, f3, f4⟩ := e4.last (by omega) (by omega)
                  have hl2 : c1.length + c2.length = y.length := by rw [f1, List.length_append]
                  have h := SYM.out a2 (a2 + bs) N mk os x (srt (ltOf cf) c1) (srt (ltOf cf) c2) [] dk2 (by omega) hsk (by rw [e2, f2, List.append_nil]) (by rw [e3.len]; omega) (by rw [srt_len]; omega) (by rw [srt_len]; omega) (by rw [srt_len]; omega) (by rw [srt_len]; omega) (srt_sorted HSW.out _) (srt_sorted HSW.out _)
                  have z1 : (((a2 + bs : Nat)) : Int) = (a2 : Int) + (bs : Int) := by omega
                  rw [z1] at h
                  refine Calls.mono h fun e w' ⟨h1, m', d', os', h2, h3, h4⟩ => ⟨h1, m', d', os', h2, ?_, h4⟩
                  rw [h3, e1, List.append_nil, ← srt_app HSW.out, ← f1, Nat.mul_comm bs 2]
                  exact e3.fin (Chk.one (by omega)))
                clear HO
                go_wp2_with (go_at_call 116; (with_reducible refine CS.out.mono ?_); rintro e w' ⟨rfl, m', d', os', hd', hl', rfl⟩)
                go_roundg (N - bs * 2)
                case measure => omega
                case rel => exact ⟨bs * 2, m', os', d', by first | rfl | go_num | (congr 1; omega), by omega, Nat.le_refl _, hd', rfl, hl'⟩
              · have hmz : ¬ (a2 : Int) + (bs : Int) < (N : Int) := by omega
                have HC := hide (show Chk (ltOf cf) (bs * 2) d.toList dk2.toList from by
                  obtain ⟨l, x, y, r, e1, e2, e3, e4, e5⟩ := HO.out
                  have hl : l.length + y.length = N := by rw [← List.length_append, ← e1]; exact HN.out
                  rw [e1, e2, e4.small (by omega), Nat.mul_comm bs 2]
                  exact e3.fin (Chk.one (by omega)))
                clear HO
                go_wp2_with fail
                go_roundg (N - bs * 2)
                case measure => omega
                case rel => exact ⟨bs * 2, mk, os, dk2, by first | rfl | go_num | (congr 1; omega), by omega, Nat.le_refl _, hsk, rfl, HC.out⟩
        · have hbz : ¬ (bs : Int) < (N : Int) := by omega
          have HF := hide (show dk2.toList = srt (ltOf cf) d.toList from HO.out.small (by rw [HN.out]; omega))
          clear HO
          go_wp2
          go_end0
          first | exact ⟨rfl, mk, dk2, os, hsk, HF.out, rfl⟩ | exact ⟨rfl, mk, dk2, hsk, HF.out, os, rfl⟩
end
end Go.Proofs.YtocgindpjjolpaaGreatDoor
