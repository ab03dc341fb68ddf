/- Contract of rockridge.modified at a time of modification alone. -/
import Derived.Test.YtopajpomhflgbaaGreatDoorCM9
import Derived.Test.YtopajpomhflgbaaGreatDoorCM1
import Derived.Maps.RangeWalk
import Derived.Sort.EncStr
import Derived.Deep.DeepCutAuto
namespace Go.Proofs.YtopajpomhflgbaaGreatDoor
set_option linter.unusedSimpArgs false
set_option linter.unusedVariables false
open Go.RowKit
open Go.PlainAid (bt get_bt bt_nonneg bt_le)

set_option maxRecDepth 100000 in
set_option maxHeartbeats 4000000 in
theorem modified_tf (t : Int) (ht : 315532800 ≤ t ∧ t ≤ 4102444799) (w : World) : Calls Tryz.prog 56 #[.string (cat2 [2] (Dt.recT t))] w fun e w' => e = .returned (.tuple #[.int .i64 t, .bool true, .int .i64 0]) ∧ Below w.heap.size w w' := by
  have hrs := Dt.recT_size t ht
  obtain ⟨D, hD⟩ : ∃ D, D = cat2 [2] (Dt.recT t) := ⟨_, rfl⟩
  have hs : D.size = 8 := by
    rw [hD]; show (([2] ++ (Dt.recT t).data.toList).toArray).size = 8
    rw [List.size_toArray, List.length_append, Array.length_toList]
    show 1 + (Dt.recT t).size = 8
    omega
  have h0 : bt D 0 = 2 := by rw [hD]; exact bt_mid [] _ 2 0 rfl
  have hx : D.extract 1 8 = Dt.recT t := by
    rw [← hs, hD]
    apply ByteArray.ext
    apply Array.toList_inj.1
    rw [← ByteArray.toList_eq, Lib.extract_toList]
    show List.take _ (Dt.recT t).data.toList = _
    rw [List.take_of_length_le]
    show _ ≤ ([2] ++ (Dt.recT t).data.toList).toArray.size - 1
    simp
  have hg := get_bt D
  have q1 : D.toList.isEmpty = false := by
    rw [List.isEmpty_eq_false_iff]; intro e
    rw [ByteArray.toList_eq] at e
    have := congrArg List.length e
    rw [Array.length_toList] at this
    have h2 : D.data.size = D.size := rfl
    rw [h2, hs] at this; cases this
  have RR := hide (fun W => Dt.readRecord_zero t ht W)
  rw [← hD]
  have HD := hide hD
  clear hD
  have HL : Live w [] := trivial
  go_enter Tryz.func56, Tryz.ntmps56
  have a1 : bits .and .u8 2 128 = 0 := by decide +kernel
  have a2 : bits .and .u8 2 1 = 0 := by decide +kernel
  have a3 : bits .and .u8 1 1 = 1 := by decide +kernel
  have a4 : bits .and .u8 0 1 = 0 := by decide +kernel
  have a5 : bits .and .u8 2 2 = 2 := by decide +kernel
  go_wp2_with fail
  refine wp_loop_rounds 8 ?_
  iterate 8
    rw [rounds_succ]
    go_wp2_with fail
  refine (RR.out _).mono ?_
  rintro e w1 ⟨rfl, hb⟩
  go_wp2
  go_ret3
  exact ⟨rfl, hb⟩
end Go.Proofs.YtopajpomhflgbaaGreatDoor
/- Contracts of the kind that Read finds. -/
namespace Go.Proofs.YtopajpomhflgbaaGreatDoor
set_option linter.unusedSimpArgs false
set_option linter.unusedVariables false
open Go.RowKit
open Go.PlainAid (bt get_bt bt_nonneg bt_le)

theorem le4_both (a b : List UInt8) (n : Int) (h : 0 ≤ n ∧ n ≤ 4294967295) : le4 ⟨(a ++ ((bothS n).data.toList ++ b)).toArray⟩ a.length = n := by
  have e : (bothS n).data.toList = [u8 (n % 256), u8 (n / 256 % 256), u8 (n / 65536 % 256), u8 (n / 16777216 % 256), u8 (n / 16777216 % 256), u8 (n / 65536 % 256), u8 (n / 256 % 256), u8 (n % 256)] := rfl
  have g : ∀ j v, ((bothS n).data.toList)[j]? = some (u8 v) → 0 ≤ v ∧ v ≤ 255 → bt ⟨(a ++ ((bothS n).data.toList ++ b)).toArray⟩ (a.length + j) = v := by
    intro j v hj hv
    refine bt_u8 _ _ v ?_ hv
    rw [List.getElem?_append_right (by omega), show a.length + j - a.length = j by omega]
    have hl : j < (bothS n).data.toList.length := (List.getElem?_eq_some_iff.1 hj).1
    rw [List.getElem?_append_left hl]
    exact hj
  have b0 := g 0 (n % 256) rfl (by omega)
  have b1 := g 1 (n / 256 % 256) rfl (by omega)
  have b2 := g 2 (n / 65536 % 256) rfl (by omega)
  have b3 := g 3 (n / 16777216 % 256) rfl (by omega)
  unfold le4
  rw [Nat.add_zero] at b0
  rw [b0, b1, b2, b3]
  omega
theorem le4_num (ns : List Int) (i : Nat) (n : Int) (h : ns[i]? = some n) (hn : 0 ≤ n ∧ n ≤ 4294967295) : le4 ⟨(numL ns).toArray⟩ (8 * i) = n := by
  obtain ⟨hi, e⟩ := List.getElem?_eq_some_iff.1 h
  have hs : numL ns = numL (ns.take i) ++ ((bothS n).data.toList ++ numL (ns.drop (i + 1))) := by
    conv => lhs; rw [← List.take_append_drop i ns, List.drop_eq_getElem_cons hi, e]
    unfold numL
    simp
  rw [hs]
  have hl := numL_len (ns.take i)
  rw [List.length_take, Nat.min_eq_left (Nat.le_of_lt hi)] at hl
  have := le4_both (numL (ns.take i)) (numL (ns.drop (i + 1))) n hn
  rw [hl] at this
  exact this
theorem KBx (k : Int) (h : 0 ≤ k ∧ k ≤ 2) (w : World) : Calls Tryz.prog 31 #[.int .i64 k] w fun e w' => e = .returned (.int .i64 (kindN k)) ∧ w = w' := kindBits_any k h w
theorem and_low (m K : Int) (hm : 0 ≤ m ∧ m ≤ 4095) (hK : K = 4 ∨ K = 8 ∨ K = 10) : bits .and .i64 (m + K * 4096) 4095 = m := by
  have : bits .and .i64 (m + K * 4096) 4095 = (m + K * 4096) % 4096 := bits_mask .i64 63 (by decide) (fun n h0 h1 => IntWalk.i64_in n (by omega)) 12 (by decide) _ (by omega) (by omega)
  rw [this]; omega
theorem and_hi (K : Int) (hK : K = 4 ∨ K = 8 ∨ K = 10) : bits .and .i64 K 15 = K := by
  rcases hK with rfl | rfl | rfl <;> decide +kernel
set_option maxHeartbeats 2000000 in
theorem rk1 (k m K : Int) (db : Nat) (d : ByteArray) (w : World) (hk : 0 ≤ k ∧ k ≤ 2) (hm : 0 ≤ m ∧ m ≤ 4095) (hK : K = 4 ∨ K = 8 ∨ K = 10) (hs : d.size ≤ 100000) (hd4 : 4 ≤ d.size) (hn : le4 d 0 = m + K * 4096) (hc : w.cell? ⟨db, 0, none⟩ = some (.string d)) :
    Calls Tryz.prog 50 #[.int .i64 k, .pointer (some ⟨db, 0, none⟩)] w fun e w' => e = .returned (.bool (kindN k == K)) ∧ ∃ n, w' = w.drewN n := by
  have NB := hide (fun W => number_at d 0 0 rfl hs (by omega) W)
  rw [hn] at NB
  have KC := hide (fun W => KBx k hk W)
  have kb : 0 ≤ K ∧ K ≤ 10 := by omega
  have hdv : (m + K * 4096) / 4096 = K := by omega
  have ha := and_hi K hK
  have hkn : 0 ≤ kindN k ∧ kindN k ≤ 10 := by unfold kindN; split <;> (try split) <;> omega
  have h0 : ((0 : Nat) : Int) = 0 := rfl
  rw [h0] at NB
  clear h0 hn hK
  have HL : Live w [] := trivial
  go_enter Tryz.func50, Tryz.ntmps50
  go_upto_region 1 with fail
  refine wp_region_noPanic ?_
  refine wp_region_held_drew (S := (fun x => x.cell? ⟨db, 0, none⟩ = some (.string d))) (by kernel_rfl) (by (try dsimp only); first | assumption | (simp [*, go_sem]; done) | (refine ⟨?_, ?_⟩ <;> simp [*, go_sem])) (fun hHeld => ?_)
  refine wpAnyH_take (i := 0) (oi := { dst := some 4, op := Go.Op.move (Go.Operand.tmp 0), type := 3, pos := "rockridge.go:164", after := #[], guard := none }) (v := ?_) rfl (by kernel_rfl) (by kernel_rfl) (by kernel_rfl) (fun _ _ _ h => h) (Or.inl ⟨by rfl, ?_⟩) (by assumption) ?_
  rotate_left
  · intro w hSw; (try dsimp only at hSw); go_simp; (try with_reducible rfl)
  try simp only [Act.put, List.setIfInBounds_toArray, List.set_cons_zero, List.set_cons_succ]
  refine wpAnyH_take (i := 2) (oi := { dst := some 6, op := Go.Op.load 9 (Go.Operand.tmp 1), type := 9, pos := "rockridge.go:164", after := #[], guard := none }) (v := ?_) rfl (by kernel_rfl) (by kernel_rfl) (by kernel_rfl) (fun _ _ _ h => h) (Or.inl ⟨by rfl, ?_⟩) (by assumption) ?_
  rotate_left
  · intro w hSw; (try dsimp only at hSw); go_simp; (try with_reducible rfl)
  try simp only [Act.put, List.setIfInBounds_toArray, List.set_cons_zero, List.set_cons_succ]
  refine wpAnyH_ready (rs := [1]) (by kernel_rfl) (by simp) ?_
  refine AllReadyH.cons (o := { dst := some 5, op := Go.Op.call { callee := Go.Callee.value (Go.Operand.func 31), args := #[Go.Operand.tmp 4], argTypes := #[3] }, type := 3, pos := "rockridge.go:164", after := #[{ on := 0, ground := Go.Ground.data }], guard := none }) rfl (fun K hK => ?_) AllReadyH.nil
  go_simp
  (first | (go_at_call 31; (with_reducible refine (KC.out _).mono ?_); rintro e w' ⟨rfl, rfl⟩) | (go_at_call 51; (with_reducible refine (NB.out _).mono ?_); rintro e w' ⟨rfl, rfl⟩))
  go_wp2_with fail
  refine hK.out _ _ (by (try dsimp only); first | assumption | (simp [*, go_sem]; done) | (refine ⟨?_, ?_⟩ <;> simp [*, go_sem])) (fun hHeld => ?_)
  clear hK K
  try simp only [Act.put, List.setIfInBounds_toArray, List.set_cons_zero, List.set_cons_succ]
  refine wpAnyH_ready (rs := [3]) (by kernel_rfl) (by simp) ?_
  refine AllReadyH.cons (o := { dst := some 7, op := Go.Op.call { callee := Go.Callee.value (Go.Operand.func 51), args := #[Go.Operand.tmp 6, Go.Operand.const (Go.Value.int Go.IntKind.i64 0)], argTypes := #[9, 3] }, type := 3, pos := "rockridge.go:164", after := #[{ on := 2, ground := Go.Ground.data }, { on := 1, ground := Go.Ground.chain }], guard := none }) rfl (fun K hK => ?_) AllReadyH.nil
  go_simp
  (first | (go_at_call 31; (with_reducible refine (KC.out _).mono ?_); rintro e w' ⟨rfl, rfl⟩) | (go_at_call 51; (with_reducible refine (NB.out _).mono ?_); rintro e w' ⟨rfl, rfl⟩))
  go_wp2_with fail
  refine hK.out _ _ (by (try dsimp only); first | assumption | (simp [*, go_sem]; done) | (refine ⟨?_, ?_⟩ <;> simp [*, go_sem])) (fun hHeld => ?_)
  clear hK K
  try simp only [Act.put, List.setIfInBounds_toArray, List.set_cons_zero, List.set_cons_succ]
  refine wpAnyH_take (i := 4) (oi := { dst := some 8, op := Go.Op.binOp Go.BinOp.shr 3 (Go.Operand.tmp 7) (Go.Operand.const (Go.Value.int Go.IntKind.u64 12)) 56, type := 3, pos := "rockridge.go:164", after := #[{ on := 3, ground := Go.Ground.data }], guard := none }) (v := ?_) rfl (by kernel_rfl) (by kernel_rfl) (by kernel_rfl) (fun _ _ _ h => h) (Or.inl ⟨by rfl, ?_⟩) (by assumption) ?_
  rotate_left
  · intro w hSw; (try dsimp only at hSw); go_simp; (try with_reducible rfl)
  try simp only [Act.put, List.setIfInBounds_toArray, List.set_cons_zero, List.set_cons_succ]
  refine wpAnyH_take (i := 5) (oi := { dst := some 9, op := Go.Op.binOp Go.BinOp.and 3 (Go.Operand.tmp 8) (Go.Operand.const (Go.Value.int Go.IntKind.i64 15)) 3, type := 3, pos := "rockridge.go:164", after := #[{ on := 4, ground := Go.Ground.data }], guard := none }) (v := ?_) rfl (by kernel_rfl) (by kernel_rfl) (by kernel_rfl) (fun _ _ _ h => h) (Or.inl ⟨by rfl, ?_⟩) (by assumption) ?_
  rotate_left
  · intro w hSw; (try dsimp only at hSw); go_simp; (try with_reducible rfl)
  try simp only [Act.put, List.setIfInBounds_toArray, List.set_cons_zero, List.set_cons_succ]
  refine wpAnyH_take (i := 6) (oi := { dst := some 10, op := Go.Op.binOp Go.BinOp.eql 3 (Go.Operand.tmp 5) (Go.Operand.tmp 9) 3, type := 4, pos := "rockridge.go:164", after := #[{ on := 1, ground := Go.Ground.data }, { on := 5, ground := Go.Ground.data }], guard := none }) (v := ?_) rfl (by kernel_rfl) (by kernel_rfl) (by kernel_rfl) (fun _ _ _ h => h) (Or.inl ⟨by rfl, ?_⟩) (by assumption) ?_
  rotate_left
  · intro w hSw; (try dsimp only at hSw); go_simp; (try with_reducible rfl)
  try simp only [Act.put, List.setIfInBounds_toArray, List.set_cons_zero, List.set_cons_succ]
  refine wpAnyH_take (i := 7) (oi := { dst := some 3, op := Go.Op.assign (Go.Operand.tmp 10), type := 4, pos := "rockridge.go:164", after := #[{ on := 6, ground := Go.Ground.data }, { on := 3, ground := Go.Ground.chain }, { on := 0, ground := Go.Ground.phase }, { on := 1, ground := Go.Ground.phase }, { on := 2, ground := Go.Ground.phase }, { on := 3, ground := Go.Ground.phase }, { on := 4, ground := Go.Ground.phase }, { on := 5, ground := Go.Ground.phase }, { on := 6, ground := Go.Ground.phase }], guard := none }) (v := ?_) rfl (by kernel_rfl) (by kernel_rfl) (by kernel_rfl) (fun _ _ _ h => h) (Or.inl ⟨by rfl, ?_⟩) (by assumption) ?_
  rotate_left
  · intro w hSw; (try dsimp only at hSw); go_simp; (try with_reducible rfl)
  try simp only [Act.put, List.setIfInBounds_toArray, List.set_cons_zero, List.set_cons_succ]
  refine wpAnyH_done (by kernel_rfl) ?_ _
  refine NoPanic.normal ?_
  all_goals
    go_wp2
    go_ret
    exact ⟨rfl, 1, rfl⟩
set_option maxHeartbeats 2000000 in
theorem idx_kind (g c db : Nat) (kind m : Int) (d : ByteArray) (w : World) (hk : 0 ≤ kind ∧ kind ≤ 2) (hm : 0 ≤ m ∧ m ≤ 4095) (hs : d.size ≤ 100000) (hd4 : 4 ≤ d.size) (hn : le4 d 0 = m + kindN kind * 4096) (hc : w.cell? ⟨db, 0, none⟩ = some (.string d))
    (h0 : w.cell? ⟨g, 0, none⟩ = some (.int .i64 0)) (h1 : w.cell? ⟨g, 1, none⟩ = some (.int .i64 1)) (h2 : w.cell? ⟨g, 2, none⟩ = some (.int .i64 2)) :
    Calls Tryz.prog 49 #[.slice (some ⟨g, 0, none⟩) 3 c, .func (.func 50) #[] #[.pointer (some ⟨db, 0, none⟩)]] w fun e w' => e = .returned (.int .i64 kind) ∧ Below w.heap.size w w' := by
  have hK : kindN kind = 4 ∨ kindN kind = 8 ∨ kindN kind = 10 := by unfold kindN; split; · simp
                                                                    · split <;> simp
  have RK := hide (fun (k : Int) (hk : 0 ≤ k ∧ k ≤ 2) W (hW : W.cell? ⟨db, 0, none⟩ = some (.string d)) => rk1 k m (kindN kind) db d W hk hm hK hs hd4 hn hW)
  clear hn hK
  have r0 : kindN 0 = 4 := rfl
  have r1 : kindN 1 = 8 := rfl
  have r2 : kindN 2 = 10 := rfl
  rcases (show kind = 0 ∨ kind = 1 ∨ kind = 2 by omega) with rfl | rfl | rfl
  all_goals
    have HL : Live w [] := trivial
    go_enter Tryz.func49, Tryz.ntmps49
    go_wp2_with fail
    refine wp_loop_rounds 4 ?_
    iterate 4
      try
        rw [rounds_succ]
        go_wp2_with (go_at_call 50; refine (RK.out _ (by omega) _ (by first | assumption | go_simp)).mono ?_; rintro e w' ⟨rfl, nn, rfl⟩)
    go_ret
    exact ⟨rfl, by (repeat' (first | (with_reducible exact Below.refl _ _) | (with_reducible refine Below.alloc ?_ ?_ _) | (with_reducible refine Below.setCell ?_ ?_ _) | (with_reducible refine Below.drew ?_) | (with_reducible refine below_drewN' ?_) | (with_reducible refine below_bytesW ?_ ?_) | (with_reducible refine Below.trans ?_ (Below.mono (by assumption) ?_)) | omega | (simp only [World.size_alloc, World.size_setCell, World.size_drew]; omega) | (simp [size_bytesW]; omega) | (simp; omega)))⟩
end Go.Proofs.YtopajpomhflgbaaGreatDoor
/- Contract of rockridge.Read at the entries that say something: the words. -/
namespace Go.Proofs.YtopajpomhflgbaaGreatDoor
set_option linter.unusedSimpArgs false
set_option linter.unusedVariables false
open Go.RowKit Go.Maps Go.ChangeMaps Go.WideMaps

/-- A node that entries say nothing of. -/
def RR.zero : RR := ⟨false, 0, 0, 0, 0, 0, false, ⟨#[]⟩, ⟨#[]⟩, false, 0, 0, 0, false⟩
/-- What the first entry with a signature says of a block. -/
def SaysB (L : List En) (sig : ByteArray) (n : Int) : Prop := (firstB L sig = none ∧ n = 0) ∨ ∃ d, firstB L sig = some d ∧ 8 ≤ d.size ∧ d.size ≤ 100000 ∧ le4 d 0 = n
/-- Entries say this of a node. -/
structure Says (L : List En) (r : RR) : Prop where
  len : L.length ≤ 1000
  size : ∀ e ∈ L, e.data.size ≤ 1000000
  ok : chk r = 0
  px1 : r.att = true → firstB L sPX = some (pxS r)
  px0 : r.att = false → firstB L sPX = none
  nm : joinF sNM true L [] false false = (r.name.data.toList, r.named, true)
  sl1 : r.target.toList.isEmpty = false → joinF sSL false L [] false false = ((compsB r.target).data.toList, true, true)
  sl0 : r.target.toList.isEmpty = true → joinF sSL false L [] false false = ([], false, true)
  tf1 : r.timed = true → firstB L sTF = some (cat2 [2] (Dt.recT r.time))
  tf0 : r.timed = false → firstB L sTF = none
  cl : SaysB L sCL r.child
  pl : SaysB L sPL r.parent
  re : (firstB L sRE).isSome = r.reloc
theorem pxS_size (r : RR) : (pxS r).size = 32 := by
  show (numL _).toArray.size = 32
  rw [List.size_toArray, numL_len]; rfl
theorem px_le (r : RR) (h : chk r = 0) (ha : r.att = true) : le4 (pxS r) 0 = r.mode + kindN r.kind * 4096 ∧ le4 (pxS r) 8 = r.links ∧ le4 (pxS r) 16 = r.uid ∧ le4 (pxS r) 24 = r.gid := by
  obtain ⟨z1, z2, z3, z4, z5, z6, z7, z8, z9⟩ := chk_zero h
  have hk := z1 ha
  have hK : kindN r.kind = 4 ∨ kindN r.kind = 8 ∨ kindN r.kind = 10 := by unfold kindN; split; · simp
                                                                          · split <;> simp
  exact ⟨le4_num _ 0 _ rfl (by omega), le4_num _ 1 _ rfl z4, le4_num _ 2 _ rfl z5, le4_num _ 3 _ rfl z6⟩
/-- Blocks and offsets in place of pointers. -/
def Rptr (v : Value) : Option (DataW Unit × List MemPlace) := match v with
  | .pointer (some ⟨b, o, none⟩) => some (.agg [.lit (.int .i64 b), .lit (.int .i64 o)], [])
  | _ => none
theorem wpList_insert_own {H : Type} {P : Program} (w : World) {ops : Array Oper} {rest : List Oper} {o : Oper} {a : Act} {Q : Exit → Act → World → Prop}
    (hg : o.guard = none) (m x v : Operand) (t : TypeId) (hop : o.op = Op.insert t m x v)
    (k e : TypeId) (K : Keyed P k) (ht : P.underlying t = some (.map k e)) (R : Value → Option (DataW H × List MemPlace)) (b n : Nat) (D : DataW H)
    (hm : a.eval m = .map (some b)) (hown : w.ownsMap P k R b n D) (hn : n < maxLen) (key val : Value) (kl : Lit) (hx : a.eval x = key) (hv : a.eval v = val) (hkey : keyOf P k key = some kl)
    (d : DataW H) (ps : List MemPlace) (hval : R val = some (d, ps))
    (hK : ∀ w', w'.ownsMap P k R b (n + 1) (D.put kl d) → w.grownBy w' (some b) → wpList P ops Q rest (a.put o.dst undef) w') :
    wpList P ops Q (o :: rest) a w := by
  refine wpList_plain hg fun K' hK' => ?_
  obtain ⟨w', hrun, r1, r2⟩ := hown.update K ht hn hkey hval
  unfold Oper.wp
  simp [execOp, hop, hm, hx, hv, hrun, Result.andThen]
  exact hK' _ _ (hK w' r1 r2)
end Go.Proofs.YtopajpomhflgbaaGreatDoor
/- Contract of rockridge.Read at the entries that say something: the words of the walk. -/
namespace Go.Proofs.YtopajpomhflgbaaGreatDoor
set_option linter.unusedSimpArgs false
set_option linter.unusedVariables false
open Go.RowKit

theorem chk_more {r : RR} (h : chk r = 0) : (r.att = false → r.kind = 0 ∧ r.mode = 0 ∧ r.links = 0 ∧ r.uid = 0 ∧ r.gid = 0) ∧ (r.named = false → r.name = ⟨#[]⟩) ∧ (r.timed = false → r.time = 0) ∧ (r.named = true → nameB r.name = true) := by
  have h1 : bad1 r = false := by
    cases hb : bad1 r
    · rfl
    · simp [chk, hb] at h
  have h2 : bad2 r = false := by
    cases hb : bad2 r
    · rfl
    · simp [chk, hb] at h
  have h4 : bad4 r = false := by
    cases hb : bad4 r
    · rfl
    · unfold chk at h; rw [hb] at h; split at h <;> simp at h
  refine ⟨fun e => ?_, fun e => ?_, fun e => ?_, fun e => ?_⟩
  · unfold bad1 at h1; rw [e] at h1; simp at h1
    exact ⟨h1.1.1.1.1, h1.1.1.1.2, h1.1.1.2, h1.1.2, h1.2⟩
  · unfold bad2 at h2; rw [e] at h2; simp at h2
    have : r.name.toList = [] := by simpa using h2.1
    rw [ByteArray.toList_eq] at this
    apply ByteArray.ext
    apply Array.toList_inj.1
    rw [this]
  · unfold bad2 at h2; rw [e] at h2; simp at h2
    exact h2.2
  · unfold bad4 at h4; rw [e] at h4; simp at h4
    exact h4.1
theorem empty_of {s : ByteArray} (h : s.toList.isEmpty = true) : s = ⟨#[]⟩ := by
  have : s.toList = [] := by simpa using h
  rw [ByteArray.toList_eq] at this
  apply ByteArray.ext
  apply Array.toList_inj.1
  rw [this]
def pxD (r : RR) : ByteArray := if r.att then pxS r else ⟨#[]⟩
def tfD (r : RR) : ByteArray := if r.timed then cat2 [2] (Dt.recT r.time) else ⟨#[]⟩
def slD (r : RR) : ByteArray := if r.target.toList.isEmpty then ⟨#[]⟩ else compsB r.target
section
variable {L : List En} {r : RR}
theorem Says.px (h : Says L r) : firstV (firstB L sPX) = .tuple #[.string (pxD r), .bool r.att] := by
  unfold pxD
  cases e : r.att
  · rw [h.px0 e]; rfl
  · rw [h.px1 e]; rfl
theorem Says.tf (h : Says L r) : firstV (firstB L sTF) = .tuple #[.string (tfD r), .bool r.timed] := by
  unfold tfD
  cases e : r.timed
  · rw [h.tf0 e]; rfl
  · rw [h.tf1 e]; rfl
theorem Says.nmv (h : Says L r) : joinV (joinF sNM true L [] false false) = .tuple #[.string r.name, .bool r.named, .bool true] := by
  rw [h.nm]
  show Value.tuple #[.string ⟨r.name.data.toList.toArray⟩, .bool r.named, .bool true] = _
  rw [← arr_of]
theorem Says.slv (h : Says L r) : joinV (joinF sSL false L [] false false) = .tuple #[.string (slD r), .bool (!r.target.toList.isEmpty), .bool true] := by
  unfold slD
  cases e : r.target.toList.isEmpty
  · rw [h.sl1 e]
    show Value.tuple #[.string ⟨(compsB r.target).data.toList.toArray⟩, .bool true, .bool true] = _
    rw [← arr_of]
    rfl
  · rw [h.sl0 e]; rfl
theorem says_b {sig : ByteArray} {n : Int} (h : SaysB L sig n) : ∃ d ok, firstV (firstB L sig) = .tuple #[.string d, .bool ok] ∧ ((ok = false ∧ d = ⟨#[]⟩ ∧ n = 0) ∨ (ok = true ∧ 8 ≤ d.size ∧ d.size ≤ 100000 ∧ le4 d 0 = n)) := by
  rcases h with ⟨h1, h2⟩ | ⟨d, h1, h2, h3, h4⟩
  · exact ⟨⟨#[]⟩, false, by rw [h1]; rfl, Or.inl ⟨rfl, rfl, h2⟩⟩
  · exact ⟨d, true, by rw [h1]; rfl, Or.inr ⟨rfl, h2, h3, h4⟩⟩
theorem Says.rev (h : Says L r) : ∃ d, firstV (firstB L sRE) = .tuple #[.string d, .bool r.reloc] := by
  rw [← h.re]
  cases firstB L sRE with
  | none => exact ⟨_, rfl⟩
  | some d => exact ⟨d, rfl⟩
end
def rc0 : Array Value := RR.zero.cells
def rcA (r : RR) : Array Value := RR.cells { RR.zero with att := r.att, kind := r.kind, mode := r.mode, links := r.links, uid := r.uid, gid := r.gid }
def rcB (r : RR) : Array Value := RR.cells { RR.zero with att := r.att, kind := r.kind, mode := r.mode, links := r.links, uid := r.uid, gid := r.gid, named := r.named, name := r.name }
def rcC (r : RR) : Array Value := RR.cells { RR.zero with att := r.att, kind := r.kind, mode := r.mode, links := r.links, uid := r.uid, gid := r.gid, named := r.named, name := r.name, target := r.target }
def rcD (r : RR) : Array Value := RR.cells { r with child := 0, parent := 0, reloc := false }
def rcE (r : RR) : Array Value := RR.cells { r with reloc := false }
/-- The two blocks of a node as they stand. -/
def RW (w : World) (rb : Nat) (c : Array Value) (wx : World) : Prop := Blk wx w.heap.size rc0 23 ∧ Blk wx rb c 23 ∧ Below w.heap.size w wx
theorem RW.size {w : World} {rb : Nat} {c : Array Value} {wx : World} (h : RW w rb c wx) : w.heap.size < wx.heap.size ∧ rb < wx.heap.size := ⟨h.1.lt, h.2.1.lt⟩
theorem Blk.put1 {w : World} {n j : Nat} {v : Value} {cs : Array Value} {T : TypeId} (h : Blk w n cs T) : Blk (w.setCell ⟨n, j, none⟩ v) n (cs.setIfInBounds j v) T := h.put rfl
theorem Blk.cast {w : World} {n : Nat} {cs cs' : Array Value} {T : TypeId} (h : Blk w n cs T) (e : cs = cs') : Blk w n cs' T := e ▸ h
theorem num_px (r : RR) (i p : Nat) (n : Int) (hi : 8 * i = p) (hp : p + 4 ≤ 32) (hn : le4 (pxS r) p = n) (w : World) : Calls Tryz.prog 51 #[.string (pxS r), .int .i64 i] w fun e w' => e = .returned (.int .i64 n) ∧ w = w' := by
  subst hn
  exact number_at (pxS r) i p hi (by rw [pxS_size]; omega) (by rw [pxS_size]; omega) w
theorem kindN_cases (k : Int) : kindN k = 4 ∨ kindN k = 8 ∨ kindN k = 10 := by
  unfold kindN
  split
  · simp
  · split <;> simp
theorem RW.below {w : World} {rb : Nat} {c : Array Value} {W W1 : World} (h : RW w rb c W) (hb : Below W.heap.size W W1) : RW w rb c W1 := ⟨h.1.below hb, h.2.1.below hb, h.2.2.trans (hb.mono h.2.2.size)⟩
theorem RW.alloc {w : World} {rb : Nat} {c : Array Value} {W : World} (h : RW w rb c W) (o : Obj) : RW w rb c (W.alloc o) := h.below ((Below.refl _ _).alloc (Nat.le_refl _) _)
theorem RW.drew {w : World} {rb : Nat} {c : Array Value} {W : World} (h : RW w rb c W) : RW w rb c W.drew := h.below (Below.refl _ _).drew
theorem RW.put {w : World} {rb j : Nat} {v : Value} {c : Array Value} {W : World} (h : RW w rb c W) (hr : w.heap.size < rb) : RW w rb (c.setIfInBounds j v) (W.setCell ⟨rb, j, none⟩ v) :=
  ⟨h.1.other (by omega), h.2.1.put1, h.2.2.setCell (by show w.heap.size ≤ rb; omega) _⟩
theorem RW.cast {w : World} {rb : Nat} {c c' : Array Value} {W : World} (h : RW w rb c W) (e : c = c') : RW w rb c' W := e ▸ h
theorem comps_len2 (ws : List ByteArray) (abs : Bool) (h : ∀ p ∈ ws, p.size ≤ 128) : (compsL abs ws).length ≤ 2 + 130 * ws.length := by
  have h2 : ∀ l : List ByteArray, (∀ p ∈ l, p.size ≤ 128) → (l.flatMap compOf).length ≤ 130 * l.length := by
    intro l
    induction l with
    | nil => intro _; simp
    | cons a r ih =>
      intro h
      have h1 := compOf_len a
      have h3 := h a (by simp)
      have h4 := ih (fun p hp => h p (by simp [hp]))
      simp only [List.flatMap_cons, List.length_append, List.length_cons]
      omega
  unfold compsL
  rw [List.length_append]
  have := h2 ws h
  split
  · rw [comp_len, List.length_nil]; omega
  · rw [List.length_nil]; omega
theorem comps_size2 {s : ByteArray} (h : targetB s = true) : (compsB s).size ≤ 20000 := by
  have hlen := target_len h
  have hst := strip_size s
  have hps : ∀ p ∈ words (strip s), p.size ≤ 128 := fun p hp => by have := piece_size slash 0 _ _ p hp; omega
  have hwl := words_len (strip s)
  have hmx : (words (strip s)).length ≤ 129 := by rw [hwl]; have := Lib.countB_le slash (by decide) (strip s).size (strip s) (Nat.le_refl _); omega
  have := comps_len2 (words (strip s)) (absB s) hps
  show (compsL _ _).toArray.size ≤ _
  rw [List.size_toArray]
  omega
theorem tgt_comps (s : ByteArray) (h : targetB s = true) (w : World) (hT : TabV w) : Calls Tryz.prog 17 #[.string (compsB s)] w fun e w' => e = .returned (.tuple #[.string s, .int .i64 0]) ∧ Below w.heap.size w w' := by
  have := tgt_any (compsB s) (comps_size2 h) w hT
  rw [dec_comps h] at this
  exact this
theorem name_size {s : ByteArray} (h : nameB s = true) : s.size ≤ 300 := by
  rcases Nat.lt_or_ge 300 s.size with h' | h'
  · rw [nameB_long h'] at h; cases h
  · exact h'
theorem num_says {d : ByteArray} {ok : Bool} {n : Int} (h : (ok = false ∧ d = ⟨#[]⟩ ∧ n = 0) ∨ (ok = true ∧ 8 ≤ d.size ∧ d.size ≤ 100000 ∧ le4 d 0 = n)) (w : World) : Calls Tryz.prog 51 #[.string d, .int .i64 0] w fun e w' => e = .returned (.int .i64 n) ∧ w = w' := by
  rcases h with ⟨_, rfl, rfl⟩ | ⟨_, h8, h9, rfl⟩
  · exact number_nil w
  · exact number_at d 0 0 rfl h9 (by omega) w
end Go.Proofs.YtopajpomhflgbaaGreatDoor
