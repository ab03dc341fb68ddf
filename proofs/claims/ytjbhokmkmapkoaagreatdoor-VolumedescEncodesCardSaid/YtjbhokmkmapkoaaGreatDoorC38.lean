/- Contracts and plain words for the laws of volume descriptors, part 38: O6, LinZ. No condition. -/
import Derived.Test.YtjbhokmkmapkoaaGreatDoorC23
import Derived.Test.YtjbhokmkmapkoaaGreatDoorC22
import Derived.Test.YtjbhokmkmapkoaaGreatDoorC30
import Derived.Test.YtjbhokmkmapkoaaGreatDoorC21
namespace Go.Proofs.YtjbhokmkmapkoaaGreatDoor
set_option linter.unusedSimpArgs false
set_option linter.unusedVariables false
open Go.RowKit
open Go.PlainAid (bt get_bt bt_nonneg bt_le bt_end)
theorem zr_succ (k : Nat) : zr (k + 1) = zr k ++ [0] := by unfold zr; exact List.replicate_succ'
set_option maxRecDepth 100000 in
set_option maxHeartbeats 4000000 in
theorem zrep_any (n : Nat) (hn : n ≤ 65536) (w : World) : Calls Tryz.prog 39 #[.int .u8 0, .int .i64 n] w fun e w' => e = .returned (.string ⟨(zr n).toArray⟩) ∧ Below w.heap.size w w' := by
  have HL : Live w [] := trivial
  go_enter Tryz.func39, Tryz.ntmps39
  go_wp2
  go_loopw [5, 6] (fun out i wr => ∃ k : Nat, k ≤ n ∧ i = .int .i64 k ∧ RowB w.heap.size out (zr k) wr ∧ Below w.heap.size w wr) (fun _ i _ => n - (intOf i).toNat)
  case atStart => exact ⟨0, by omega, rfl, row_made w, by (exact bl)⟩
  case round =>
    obtain ⟨k, hk, rfl, hr, hbr⟩ := hrel
    have HR := hide hr
    clear hr
    have hszr := hbr.size
    have HL : Live wr [] := trivial
    by_cases hlt : k < n
    · have HE := hide (zr_succ k)
      have hll : (zr k).length ≤ 100000000 := by rw [zr_len]; omega
      go_wp2_with (at_builtin; refine wp_one rfl _ _ rfl w.heap.size _ (zr k) rfl w HR.out hbr hszr (0 : UInt8) rfl rfl hll ?_; intro v2 w3 hrow3 hbel3 hsz3)
      go_roundw
      case rel => exact ⟨k + 1, by omega, by go_num, by rw [HE.out]; exact hrow3, hbel3⟩
      case measure => simp [intOf]; omega
    · obtain rfl : k = n := by omega
      have cv := conv_row HR.out
      go_wp2
      go_ret
      exact ⟨rfl, hbr⟩
set_option maxHeartbeats 1000000 in
theorem rfield_over (s : ByteArray) (n : Nat) (h : n < s.size ∧ s.size ≤ 65536) (w : World) : Calls Tryz.prog 98 #[.string s, .int .i64 n] w fun e w' => e = .returned (.tuple #[.string ⟨#[]⟩, .int .i64 12]) ∧ Below w.heap.size w w' := by
  have HL : Live w [] := trivial
  go_enter Tryz.func98, Tryz.ntmps98
  go_wp2_with fail
  go_ret2
  exact ⟨rfl, by (exact bl)⟩
theorem padS_fld (s : ByteArray) (n : Nat) : padS s n = ⟨(fldL false s n).toArray⟩ := by
  unfold padS fldL
  rw [Int.toNat_natCast]
  rfl
theorem wpad_fld {s : ByteArray} {cs : List Int} (h : charL s = some cs) (n : Nat) : wpad cs n = ⟨(fldL true s n).toArray⟩ := by
  unfold wpad fldL chars0
  rw [h, Int.toNat_natCast]
  rfl
set_option maxHeartbeats 1000000 in
theorem rfield23 (s : ByteArray) (n : Nat) (st wd : Bool) (hs : s.size ≤ 65536) (hn : n ≤ 2048) (hok : okB s n st wd = true) (w : World) : Calls Tryz.prog 44 #[.string s, .bool wd, .int .i64 n] w fun e w' => e = .returned (.string ⟨(fldL wd s n).toArray⟩) ∧ Below w.heap.size w w' := by
  cases wd
  · obtain ⟨hle, -⟩ := ok_field hok
    have RFA := hide (fun W => rfield_any s n (by omega) W)
    have HP := hide (padS_fld s n)
    clear hok
    have HL : Live w [] := trivial
    go_enter Tryz.func44, Tryz.ntmps44
    go_wp2_with (first | (go_at_call 98; (with_reducible refine (RFA.out _).mono ?_); rintro e w' ⟨rfl, hb⟩; have hz := hb.size; (try simp only [SZ, Nat.reduceAdd] at hz); (first | obtain ⟨HL, hk⟩ := HL.callA hb hz | obtain ⟨HL, hk⟩ := HL.call0A hb hz); (try simp only [addN, Nat.add_zero] at HL hk); have hl := HL; simp only [Live] at hl; (try simp only [Kept] at hk)))
    go_ret
    exact ⟨congrArg (fun x : ByteArray => Ending.returned (.string x)) HP.out, by (exact bl)⟩
  · obtain ⟨cs, hc, hle, -⟩ := ok_wide hok
    have RWA := hide (fun W => rwfield_any s hs cs hc n (by omega) W)
    have HP := hide (wpad_fld hc n)
    clear hok
    by_cases hl : s.size ≤ n
    · have RFA := hide (fun W => rfield_any s n (by omega) W)
      have HL : Live w [] := trivial
      go_enter Tryz.func44, Tryz.ntmps44
      go_wp2_with (first | (go_at_call 98; (with_reducible refine (RFA.out _).mono ?_); rintro e w' ⟨rfl, hb⟩; have hz := hb.size; (try simp only [SZ, Nat.reduceAdd] at hz); (first | obtain ⟨HL, hk⟩ := HL.callA hb hz | obtain ⟨HL, hk⟩ := HL.call0A hb hz); (try simp only [addN, Nat.add_zero] at HL hk); have hl := HL; simp only [Live] at hl; (try simp only [Kept] at hk)) | (go_at_call 99; (with_reducible refine (RWA.out _).mono ?_); rintro e w' ⟨rfl, hb⟩; have hz := hb.size; (try simp only [SZ, Nat.reduceAdd] at hz); (first | obtain ⟨HL, hk⟩ := HL.callA hb hz | obtain ⟨HL, hk⟩ := HL.call0A hb hz); (try simp only [addN, Nat.add_zero] at HL hk); have hl := HL; simp only [Live] at hl; (try simp only [Kept] at hk)))
      go_ret
      exact ⟨congrArg (fun x : ByteArray => Ending.returned (.string x)) HP.out, by (exact bl)⟩
    · have RFA := hide (fun W => rfield_over s n (by omega) W)
      have HL : Live w [] := trivial
      go_enter Tryz.func44, Tryz.ntmps44
      go_wp2_with (first | (go_at_call 98; (with_reducible refine (RFA.out _).mono ?_); rintro e w' ⟨rfl, hb⟩; have hz := hb.size; (try simp only [SZ, Nat.reduceAdd] at hz); (first | obtain ⟨HL, hk⟩ := HL.callA hb hz | obtain ⟨HL, hk⟩ := HL.call0A hb hz); (try simp only [addN, Nat.add_zero] at HL hk); have hl := HL; simp only [Live] at hl; (try simp only [Kept] at hk)) | (go_at_call 99; (with_reducible refine (RWA.out _).mono ?_); rintro e w' ⟨rfl, hb⟩; have hz := hb.size; (try simp only [SZ, Nat.reduceAdd] at hz); (first | obtain ⟨HL, hk⟩ := HL.callA hb hz | obtain ⟨HL, hk⟩ := HL.call0A hb hz); (try simp only [addN, Nat.add_zero] at HL hk); have hl := HL; simp only [Live] at hl; (try simp only [Kept] at hk)))
      go_ret
      exact ⟨congrArg (fun x : ByteArray => Ending.returned (.string x)) HP.out, by (exact bl)⟩
set_option maxHeartbeats 400000 in
theorem rboth23_4 (n : Int) (h : 0 ≤ n ∧ n ≤ 4294967295) (w : World) : Calls Tryz.prog 45 #[.int .i64 n, .int .i64 4] w fun e w' => e = .returned (.string ⟨(both4 n).toArray⟩) ∧ Below w.heap.size w w' := by
  have HL : Live w [] := trivial
  go_enter Tryz.func45, Tryz.ntmps45
  go_wp2_with (first | (go_at_call 100; (with_reducible refine (rboth4 _ (by omega) _).mono ?_); rintro e w' ⟨rfl, hb⟩; have hz := hb.size; (try simp only [SZ, Nat.reduceAdd] at hz); (first | obtain ⟨HL, hk⟩ := HL.callA hb hz | obtain ⟨HL, hk⟩ := HL.call0A hb hz); (try simp only [addN, Nat.add_zero] at HL hk); have hl := HL; simp only [Live] at hl; (try simp only [Kept] at hk)))
  go_ret
  exact ⟨rfl, by (exact bl)⟩
set_option maxHeartbeats 400000 in
theorem rboth23_2 (n : Int) (h : 0 ≤ n ∧ n ≤ 65535) (w : World) : Calls Tryz.prog 45 #[.int .i64 n, .int .i64 2] w fun e w' => e = .returned (.string ⟨(both2 n).toArray⟩) ∧ Below w.heap.size w w' := by
  have HL : Live w [] := trivial
  go_enter Tryz.func45, Tryz.ntmps45
  go_wp2_with (first | (go_at_call 100; (with_reducible refine (rboth2 _ (by omega) _).mono ?_); rintro e w' ⟨rfl, hb⟩; have hz := hb.size; (try simp only [SZ, Nat.reduceAdd] at hz); (first | obtain ⟨HL, hk⟩ := HL.callA hb hz | obtain ⟨HL, hk⟩ := HL.call0A hb hz); (try simp only [addN, Nat.add_zero] at HL hk); have hl := HL; simp only [Live] at hl; (try simp only [Kept] at hk)))
  go_ret
  exact ⟨rfl, by (exact bl)⟩
end Go.Proofs.YtjbhokmkmapkoaaGreatDoor
namespace Go.Proofs.YtjbhokmkmapkoaaGreatDoor
set_option linter.unusedSimpArgs false
set_option linter.unusedVariables false
open Go.RowKit
/-- That one waits for it. -/
def waitsAt (ops : Array Oper) (j i : Nat) : Bool := match ops[j]? with
  | some o => waits o i
  | none => false
/-- One operation, met in whatever world of the region. -/
def LinZ (P : Program) (ops : Array Oper) (Q : Exit → Act → World → Prop) (R : Nat → Value → World → Prop) (a : Act) (w : World) (i : Nat) (o : Oper) : Prop :=
  ∀ (u : Nat → Value) (wx : World), Below w.heap.size w wx → (∀ j, waits o j = true → R j (u j) wx) → (∀ j, waitsAt ops j i = true → u j = own0 ops a j) → ∀ K : Act → World → Prop, (∀ v wy a', a' = (Fr ops a u).put o.dst v → Below wx.heap.size wx wy → R i v wy → K a' wy) →
    if Region.wanted o (yielded ops (Fr ops a u).tmps) = true then Oper.wp P o (Fr ops a u) wx K Q else K ((Fr ops a u).put o.dst undef) wx
def LinZs (P : Program) (ops : Array Oper) (Q : Exit → Act → World → Prop) (R : Nat → Value → World → Prop) (a : Act) (w : World) : List Oper → Nat → Prop
  | [], _ => True
  | o :: l, i => LinZ P ops Q R a w i o ∧ LinZs P ops Q R a w l (i + 1)
theorem LinZs.nil {P : Program} {ops : Array Oper} {Q : Exit → Act → World → Prop} {R : Nat → Value → World → Prop} {a : Act} {w : World} {i : Nat} : LinZs P ops Q R a w [] i := trivial
theorem LinZs.cons {P : Program} {ops : Array Oper} {Q : Exit → Act → World → Prop} {R : Nat → Value → World → Prop} {a : Act} {w : World} {i : Nat} {o : Oper} {l : List Oper} (h : LinZ P ops Q R a w i o) (hl : LinZs P ops Q R a w l (i + 1)) : LinZs P ops Q R a w (o :: l) i := ⟨h, hl⟩
theorem LinZs.at {P : Program} {ops : Array Oper} {Q : Exit → Act → World → Prop} {R : Nat → Value → World → Prop} {a : Act} {w : World} : ∀ {l : List Oper} {i : Nat}, LinZs P ops Q R a w l i → ∀ {k : Nat} {o : Oper}, l[k]? = some o → LinZ P ops Q R a w (i + k) o
  | [], _, _, _, _, h => by simp at h
  | x :: l, i, hs, 0, o, h => by
    simp at h; subst h; exact hs.1
  | x :: l, i, hs, k + 1, o, h => by
    have := LinZs.at hs.2 (k := k) (o := o) (by simpa using h)
    rw [show i + (k + 1) = i + 1 + k by omega]
    exact this
theorem region_linz {P : Program} {ops : Array Oper} {Q : Exit → Act → World → Prop} {id : Nat} {a : Act} {w : World} (R : Nat → Value → World → Prop) (hm : P.follows .mixedOrders = true) (hok : linOk ops = true)
    (hR : ∀ j v wx wy, Below wx.heap.size wx wy → R j v wx → R j v wy)
    (hsteps : LinZs P ops Q R a w ops.toList 0)
    (hend : ∀ (u : Nat → Value) (wx : World), Below w.heap.size w wx → (∀ j, j < ops.size → R j (u j) wx) → Q .normal (Fr ops a u) wx) :
    (Code.region id ops true).wp P Q a w := by
  refine wp_region_any hm ?_
  have hsteps2 : ∀ i o, ops[i]? = some o → LinZ P ops Q R a w i o := fun i o h => by
    have := hsteps.at (k := i) (o := o) (by rw [Array.getElem?_toList]; exact h)
    rw [Nat.zero_add] at this; exact this
  have main : ∀ (fuel : Nat) (listed : Array Bool) (u : Nat → Value) (wx : World), listed.size = ops.size → ((List.range ops.size).filter fun j => !listed.getD j true).length ≤ fuel → Below w.heap.size w wx →
      (∀ j, listed.getD j false = true → R j (u j) wx) → (∀ j, listed.getD j false = false → u j = own0 ops a j) → (∀ j o', ops[j]? = some o' → listed.getD j false = true → ∀ e ∈ o'.after, Region.binds .any e = true → listed.getD e.on false = true) → wpAny P .any ops Q fuel listed (Fr ops a u) wx := by
    intro fuel
    induction fuel with
    | zero =>
      intro listed u wx hsz hc hb hr hz hcl
      have hall : ∀ j, j < ops.size → listed.getD j true = true := fun j hj => by
        cases h : listed.getD j true with
        | true => rfl
        | false =>
          have hmem : j ∈ (List.range ops.size).filter fun j => !listed.getD j true := List.mem_filter.2 ⟨List.mem_range.2 hj, by rw [h]; rfl⟩
          have := List.length_pos_of_mem hmem
          omega
      refine ⟨?_, hend u wx hb (fun j hj => hr j ?_)⟩
      · refine List.eq_nil_iff_forall_not_mem.2 (fun i hi => ?_)
        have h1 := (mem_ready.1 hi).1
        rcases Nat.lt_or_ge i ops.size with h2 | h2
        · rw [hall i h2] at h1; cases h1
        · have : listed.getD i true = true := by simp [Array.getD, show ¬ i < listed.size by omega]
          rw [this] at h1; cases h1
      · have := hall j hj
        simp [Array.getD, show j < listed.size by omega] at this ⊢
        exact this
    | succ fuel ih =>
      intro listed u wx hsz hc hb hr hz hcl
      refine ⟨fun hnil => hend u wx hb (fun j hj => hr j ?_), fun i hi => ?_⟩
      · -- all are listed
        have hall : ∀ n j, j < n → j < ops.size → listed.getD j false = true := by
          intro n
          induction n with
          | zero => intro j h; omega
          | succ n ihn =>
            intro j hj hjs
            cases h : listed.getD j false with
            | true => rfl
            | false =>
              exfalso
              have hmem : j ∈ Region.ready .any ops listed := by
                refine mem_ready.2 ⟨?_, ops[j], by simp [hjs], fun e he hbd => ihn e.on ?_ ?_⟩
                · simp [Array.getD, show j < listed.size by omega] at h ⊢; exact h
                · have h1 := hok
                  unfold linOk at h1
                  rw [List.all_eq_true] at h1
                  have h2 := h1 j (List.mem_range.2 hjs)
                  rw [Bool.and_eq_true] at h2
                  have h3 := h2.2
                  rw [show ops[j]? = some ops[j] by simp [hjs]] at h3
                  simp only at h3
                  rw [Array.all_eq_true_iff_forall_mem] at h3
                  have h4 := h3 e he
                  rw [hbd] at h4
                  have h5 : e.on < j := by simpa using h4
                  omega
                · have h1 := hok
                  unfold linOk at h1
                  rw [List.all_eq_true] at h1
                  have h2 := h1 j (List.mem_range.2 hjs)
                  rw [Bool.and_eq_true] at h2
                  have h3 := h2.2
                  rw [show ops[j]? = some ops[j] by simp [hjs]] at h3
                  simp only at h3
                  rw [Array.all_eq_true_iff_forall_mem] at h3
                  have h4 := h3 e he
                  rw [hbd] at h4
                  have h5 : e.on < j := by simpa using h4
                  omega
              rw [hnil] at hmem
              cases hmem
        exact hall (j + 1) j (Nat.lt_succ_self j) hj
      · obtain ⟨hun, o, ho, hdeps⟩ := mem_ready.1 hi
        have his : i < ops.size := by
          rcases Nat.lt_or_ge i ops.size with h | h
          · exact h
          · rw [Array.getElem?_eq_none h] at ho; cases ho
        refine wpOp_step ho (fun K hK => ?_)
        refine hsteps2 i o ho u wx hb (fun j hj => ?_) (fun j hj => ?_) K (fun v wy a' ha' hbe hv => ?_)
        · unfold waits at hj
          obtain ⟨k, hk, hbe⟩ := Array.any_eq_true.1 hj
          generalize hge : o.after[k] = e at hbe
          have he : e ∈ o.after := by rw [← hge]; exact Array.getElem_mem hk
          rw [Bool.and_eq_true] at hbe
          have := of_decide_eq_true hbe.2
          subst this
          exact hr _ (hdeps e he hbe.1)
        · refine hz j ?_
          cases hlj : listed.getD j false with
          | false => rfl
          | true =>
            exfalso
            unfold waitsAt at hj
            cases hoj : ops[j]? with
            | none => rw [hoj] at hj; cases hj
            | some o' =>
              rw [hoj] at hj
              unfold waits at hj
              obtain ⟨k, hk, hbe⟩ := Array.any_eq_true.1 hj
              generalize hge : o'.after[k] = e at hbe
              have he : e ∈ o'.after := by rw [← hge]; exact Array.getElem_mem hk
              rw [Bool.and_eq_true] at hbe
              have hei := of_decide_eq_true hbe.2
              have h1 := hcl j o' hoj hlj e he hbe.1
              rw [hei] at h1
              simp [Array.getD, show i < listed.size by omega] at h1 hun
              rw [h1] at hun; cases hun
        · have hdst : dstOf ops i = o.dst := by unfold dstOf; rw [ho]; rfl
          rw [ha', ← hdst, Fr_put hok a u i v his] at *
          refine hK _ _ (ih _ (upd u i v) wy (by simp [hsz]) ?_ (hb.trans (hbe.mono hb.size)) ?_ ?_ ?_)
          · have := filter_lt (p := fun j => !listed.getD j true) (q := fun j => !(listed.setIfInBounds i true).getD j true) (l := List.range ops.size) (i := i) (fun j hj => ?_) (List.mem_range.2 his) (by simp only [hun]; rfl) (by simp [Array.getD, show i < listed.size by omega])
            · omega
            · by_cases hji : i = j
              · subst hji; simp only [hun]; rfl
              · rw [getD_set_ne true hji] at hj; exact hj
          · intro j hj
            unfold upd
            by_cases hji : j = i
            · rw [if_pos hji]; subst hji; exact hv
            · rw [if_neg hji]
              rw [getD_set_ne false (Ne.symm hji)] at hj
              exact hR _ _ _ _ hbe (hr j hj)
          · intro j hj
            unfold upd
            by_cases hji : j = i
            · exfalso
              subst hji
              simp [Array.getD, show j < listed.size by omega] at hj
            · rw [if_neg hji]
              rw [getD_set_ne false (Ne.symm hji)] at hj
              exact hz j hj
          · intro j o' hoj hj e he hbd
            have key : listed.getD e.on false = true → (listed.setIfInBounds i true).getD e.on false = true := fun h => by
              by_cases hji : e.on = i
              · rw [hji]; simp [Array.getD, show i < listed.size by omega]
              · rw [getD_set_ne false (Ne.symm hji)]; exact h
            by_cases hji : j = i
            · subst hji
              have : o' = o := Option.some.inj (hoj.symm.trans ho)
              subst this
              exact key (hdeps e he hbd)
            · rw [getD_set_ne false (Ne.symm hji)] at hj
              exact key (hcl j o' hoj hj e he hbd)
  have h0 := main ops.size (Array.replicate ops.size false) (own0 ops a) { w with drawn := w.drawn + 1 } (by simp) (Nat.le_trans (List.length_filter_le _ _) (by simp)) ((Below.refl _ w).drew) (fun j hj => by
    exfalso
    rcases Nat.lt_or_ge j ops.size with h | h
    · simp [Array.getD, h] at hj
    · simp [Array.getD, show ¬ j < ops.size by omega] at hj) (fun _ _ => rfl) (fun j o' _ hj => by
    exfalso
    rcases Nat.lt_or_ge j ops.size with h | h
    · simp [Array.getD, h] at hj
    · simp [Array.getD, show ¬ j < ops.size by omega] at hj)
  rw [Fr_own] at h0
  exact h0
/-- One operation, with the frame spelt out. -/
def LinZF (P : Program) (ops : Array Oper) (Q : Exit → Act → World → Prop) (RL : List (Value → World → Prop)) (F : (Nat → Value) → Act) (a : Act) (w : World) (r : Value → World → Prop) (o : Oper) (i : Nat) : Prop :=
  ∀ (u : Nat → Value) (wx : World), Below w.heap.size w wx → Hid (∀ j, waits o j = true → RL.getD j LT (u j) wx) → Hid (∀ j, waitsAt ops j i = true → u j = own0 ops a j) → ∀ K : Act → World → Prop, Hid (∀ wy a', a' = (F u).put o.dst (outOf o.dst a') → Below wx.heap.size wx wy → r (outOf o.dst a') wy → K a' wy) →
    if Region.wanted o (yielded ops (F u).tmps) = true then Oper.wp P o (F u) wx K Q else K ((F u).put o.dst undef) wx
def LinZsF (P : Program) (ops : Array Oper) (Q : Exit → Act → World → Prop) (RL : List (Value → World → Prop)) (F : (Nat → Value) → Act) (a : Act) (w : World) : List Oper → List (Value → World → Prop) → Nat → Prop
  | [], _, _ => True
  | _ :: _, [], _ => False
  | o :: l, r :: rs, i => LinZF P ops Q RL F a w r o i ∧ LinZsF P ops Q RL F a w l rs (i + 1)
theorem LinZsF.nil {P : Program} {ops : Array Oper} {Q : Exit → Act → World → Prop} {RL : List (Value → World → Prop)} {F : (Nat → Value) → Act} {a : Act} {w : World} {rs : List (Value → World → Prop)} {i : Nat} : LinZsF P ops Q RL F a w [] rs i := by unfold LinZsF; trivial
theorem LinZsF.cons {P : Program} {ops : Array Oper} {Q : Exit → Act → World → Prop} {RL : List (Value → World → Prop)} {F : (Nat → Value) → Act} {a : Act} {w : World} {r : Value → World → Prop} {rs : List (Value → World → Prop)} {o : Oper} {l : List Oper} {i : Nat} (h : LinZF P ops Q RL F a w r o i) (hl : LinZsF P ops Q RL F a w l rs (i + 1)) : LinZsF P ops Q RL F a w (o :: l) (r :: rs) i := ⟨h, hl⟩
theorem LinZsF.to {P : Program} {ops : Array Oper} {Q : Exit → Act → World → Prop} {RL : List (Value → World → Prop)} {F : (Nat → Value) → Act} {a : Act} {w : World} (hF : ∀ u, Fr ops a u = F u) : ∀ {l : List Oper} {rs : List (Value → World → Prop)} {i : Nat}, (∀ k, k < rs.length → RL.getD (i + k) LT = rs.getD k LT) → LinZsF P ops Q RL F a w l rs i → LinZs P ops Q (fun j => RL.getD j LT) a w l i
  | [], _, _, _, _ => trivial
  | _ :: _, [], _, _, h => h.elim
  | o :: l, r :: rs, i, hr, h => ⟨fun u wx hb hd hu K hK => by
      have e : RL.getD i LT = r := hr 0 (by simp)
      rw [hF u] at hK ⊢
      have hK2 : ∀ v wy a', a' = (F u).put o.dst v → Below wx.heap.size wx wy → r v wy → K a' wy := fun v wy a' h1 h2 h3 => hK v wy a' h1 h2 (show RL.getD i LT v wy by rw [e]; exact h3)
      exact h.1 u wx hb (hide hd) (hide hu) K (hide fun wy a' h1 h2 h3 => hK2 _ wy a' h1 h2 h3), LinZsF.to hF (fun k hk => by rw [show i + 1 + k = i + (k + 1) by omega]; exact hr (k + 1) (by simp; omega)) h.2⟩
theorem region_linzF {P : Program} {ops : Array Oper} {Q : Exit → Act → World → Prop} {id : Nat} {a : Act} {w : World} {F : (Nat → Value) → Act} (RL : List (Value → World → Prop)) (hm : P.follows .mixedOrders = true) (hok : linOk ops = true)
    (h : (∀ u, putsL a u ops.toList 0 = F u) ∧ LAll RL ∧ LinZsF P ops Q RL F a w ops.toList RL 0 ∧
      (∀ (u : Nat → Value) (wx : World), Below w.heap.size w wx → Hid (∀ j, j < ops.size → RL.getD j LT (u j) wx) → Q .normal (F u) wx)) :
    (Code.region id ops true).wp P Q a w := by
  obtain ⟨hF, hst, hs, he⟩ := h
  have hF2 : ∀ u, Fr ops a u = F u := fun u => (Fr_puts ops a u).trans (hF u)
  refine region_linz (fun j => RL.getD j LT) hm hok (fun j v wx wy hb hr => hst.at j v wx wy hb hr) (LinZsF.to hF2 (fun k _ => by rw [Nat.zero_add]) hs) (fun u wx hb hall => ?_)
  rw [hF2 u]
  exact he u wx hb (hide hall)
end Go.Proofs.YtjbhokmkmapkoaaGreatDoor
