/- Contracts and plain words for the laws of this chapter, part 5: Ap, X2, U11, X3, T9. No condition. -/
import Derived.Deep.DeepAppendWide
import Derived.Test.YtocgindpjjolpaaGreatDoorH2
import Derived.Test.YtocgindpjjolpaaGreatDoorH4
namespace Go.Proofs.YtocgindpjjolpaaGreatDoor
set_option linter.unusedSimpArgs false
set_option linter.unusedVariables false
open Go.RowKit
theorem append_block {P : Program} (w : World) (base : Nat) (t ty e : TypeId) (i : TypeInfo) (z : Value) (size bytes : Nat) (ht : P.underlying t = some (.slice e)) (hi : P.info? e = some i) (hz : i.zero = some z)
    (hsize : i.size = size) (hby : i.bytes = bytes) (v : Value) (n : Nat) (xs : List Value) (hown : w.ownsRow base e size v n xs)
    (a : Addr) (m c : Nat) (news : List Value) (hl : news.length = m * size) (hnews : ∀ j u, news[j]? = some u → w.cell? (a.add j) = some u) (h1 : ∀ u ∈ news, u.oneCell' = true)
    (h63 : n + m ≤ maxLen) (hbytes : ((n + m) + (n + m) / 4 + 192) * bytes ≤ 281474976710656) (v' : Value) (w' : World)
    (hr : (Builtin.append_ #[t, t] ty #[v, .slice (some a) m c]).run P w = .ok v' w') : v'.ownBlock = v.ownBlock ∨ v'.ownBlock = some w.heap.size := by
  subst hsize
  subst hby
  have hsmall : n + m ≤ 9223372036854775807 := by simp only [maxLen] at h63; omega
  rcases hown.2 with ⟨rfl, rfl⟩ | ⟨g, cap, cur, rfl, hbg, hg, hnc, hcm, hcs, htake⟩
  · by_cases hm : m = 0
    · subst hm
      have hn : news = [] := List.eq_nil_of_length_eq_zero (by simpa using hl)
      subst hn
      simp [Builtin.append_, run_underlying ht, sizeOf, typeInfo, hi, Builtin.lenOf, Builtin.firstCells, loadCells, loadCellsFrom] at hr
      exact Or.inl (by rw [← hr.1])
    · rw [run_append_nil (P := P) w t ty e i z ht hi hz a m c news hl hnews (by omega) (by omega) (by have hb := hbytes; simp only [Nat.zero_add] at hb; exact Nat.le_trans (Nat.mul_le_mul_right _ (by omega)) hb)] at hr
      injection hr with h1 h2
      exact Or.inr (by rw [← h1]; rfl)
  · by_cases hroom : n + m ≤ cap
    · have hfit : n * i.size + news.length ≤ cur.size := by rw [hl, hcs, ← Nat.add_mul]; exact Nat.mul_le_mul_right _ hroom
      rw [run_append_room (P := P) w t ty e i ht hi g n cap cur hg a m c news hl hnews h1 hroom hfit] at hr
      injection hr with h1 h2
      exact Or.inl (by rw [← h1]; rfl)
    · have holds : ∀ j u, xs[j]? = some u → w.cell? ((⟨g, 0, none⟩ : Addr).add j) = some u := hown.cells (g := g) rfl
      rw [run_append_grow (P := P) w t ty e i z ht hi hz ⟨g, 0, none⟩ n cap xs hown.1 holds a m c news hl hnews (by omega) (by omega) (growslice_fits_wide (by omega) hbytes)] at hr
      injection hr with h1 h2
      exact Or.inr (by rw [← h1]; rfl)
theorem wp_append_rows {P : Program} (w : World) {o : Oper} {a : Act} {K : Act → World → Prop} {Q : Exit → Act → World → Prop} (s x : Operand) (t : TypeId)
    (ho : o.op = .call { callee := .builtin .append, args := #[s, x], argTypes := #[t, t] })
    (base : Nat) (e : TypeId) {z : Value} {size bytes : Nat} (hinfo : (P.info? e).map (fun i => (i.zero, i.size, i.bytes)) = some (some z, size, bytes)) (ht : P.underlying t = some (.slice e))
    (hzs : z.cells.size = size) (hsz : 0 < size)
    (v : Value) (n : Nat) (xs : List Value) (hown : w.ownsRow base e size v n xs) (ad : Addr) (m c : Nat) (news : List Value)
    (hs : a.eval s = v) (hx : a.eval x = .slice (some ad) m c) (hl : news.length = m * size) (hnews : ∀ j u, news[j]? = some u → w.cell? (ad.add j) = some u) (h1 : ∀ u ∈ news, u.oneCell' = true)
    (h63 : n + m ≤ maxLen) (hbytes : ((n + m) + (n + m) / 4 + 192) * bytes ≤ 281474976710656) (hbase : base ≤ w.heap.size)
    (h : ∀ v' w', w'.ownsRow base e size v' (n + m) (xs ++ news) → (v'.ownBlock = v.ownBlock ∨ v'.ownBlock = some w.heap.size) → w.grownBy w' v.ownBlock → K (a.put o.dst v') w') : o.wp P a w K Q := by
  obtain ⟨i, hi, hz0, hz1, hz2⟩ := info_parts hinfo
  obtain ⟨v', w', hr, h2, h3, h4⟩ := run_append_own_wide (P := P) w base t o.type e i z size bytes ht hi hz0 hz1 hz2 hzs hsz v n xs hown ad m c news hl hnews h1 h63 hbytes hbase
  have hb := append_block w base t o.type e i z size bytes ht hi hz0 hz1 hz2 v n xs hown ad m c news hl hnews h1 h63 hbytes v' w' hr
  unfold Oper.wp execOp
  simp only [ho, resolve, invoke, builtin, Sem.run_bind, Sem.run_pure, Result.andThen_ok, List.map_toArray, List.map_cons, List.map_nil, hs, hx, hr]
  exact h v' w' h2 hb h3
theorem wpList_append_rows {P : Program} (w : World) {ops : Array Oper} {rest : List Oper} {o : Oper} {a : Act} {Q : Exit → Act → World → Prop} (hgd : o.guard = none) (s x : Operand) (t : TypeId)
    (ho : o.op = .call { callee := .builtin .append, args := #[s, x], argTypes := #[t, t] })
    (base : Nat) (e : TypeId) {z : Value} {size bytes : Nat} (hinfo : (P.info? e).map (fun i => (i.zero, i.size, i.bytes)) = some (some z, size, bytes)) (ht : P.underlying t = some (.slice e))
    (hzs : z.cells.size = size) (hsz : 0 < size)
    (v : Value) (n : Nat) (xs : List Value) (hown : w.ownsRow base e size v n xs) (ad : Addr) (m c : Nat) (news : List Value)
    (hs : a.eval s = v) (hx : a.eval x = .slice (some ad) m c) (hl : news.length = m * size) (hnews : ∀ j u, news[j]? = some u → w.cell? (ad.add j) = some u) (h1 : ∀ u ∈ news, u.oneCell' = true)
    (h63 : n + m ≤ maxLen) (hbytes : ((n + m) + (n + m) / 4 + 192) * bytes ≤ 281474976710656) (hbase : base ≤ w.heap.size)
    (h : ∀ v' w', w'.ownsRow base e size v' (n + m) (xs ++ news) → (v'.ownBlock = v.ownBlock ∨ v'.ownBlock = some w.heap.size) → w.grownBy w' v.ownBlock → wpList P ops Q rest (a.put o.dst v') w') : wpList P ops Q (o :: rest) a w :=
  wpList_plain hgd fun _ hK => wp_append_rows w s x t ho base e hinfo ht hzs hsz v n xs hown ad m c news hs hx hl hnews h1 h63 hbytes hbase fun v' w' h2 h3 h4 => hK _ _ (h v' w' h2 h3 h4)
theorem step_append_rows {P : Program} (w : World) {ops : Array Oper} {o : Oper} {a : Act} {K : Act → World → Prop} {Q : Exit → Act → World → Prop} {E : Prop} (hgd : o.guard = none) (s x : Operand) (t : TypeId)
    (ho : o.op = .call { callee := .builtin .append, args := #[s, x], argTypes := #[t, t] })
    (base : Nat) (e : TypeId) {z : Value} {size bytes : Nat} (hinfo : (P.info? e).map (fun i => (i.zero, i.size, i.bytes)) = some (some z, size, bytes)) (ht : P.underlying t = some (.slice e))
    (hzs : z.cells.size = size) (hsz : 0 < size)
    (v : Value) (n : Nat) (xs : List Value) (hown : w.ownsRow base e size v n xs) (ad : Addr) (m c : Nat) (news : List Value)
    (hs : a.eval s = v) (hx : a.eval x = .slice (some ad) m c) (hl : news.length = m * size) (hnews : ∀ j u, news[j]? = some u → w.cell? (ad.add j) = some u) (h1 : ∀ u ∈ news, u.oneCell' = true)
    (h63 : n + m ≤ maxLen) (hbytes : ((n + m) + (n + m) / 4 + 192) * bytes ≤ 281474976710656) (hbase : base ≤ w.heap.size)
    (h : ∀ v' w', w'.ownsRow base e size v' (n + m) (xs ++ news) → (v'.ownBlock = v.ownBlock ∨ v'.ownBlock = some w.heap.size) → w.grownBy w' v.ownBlock → K (a.put o.dst v') w') :
    if Region.wanted o (yielded ops a.tmps) = true then Oper.wp P o a w K Q else E := by
  have hw : Region.wanted o (yielded ops a.tmps) = true := by simp [Region.wanted, hgd]
  rw [if_pos hw]
  exact wp_append_rows w s x t ho base e hinfo ht hzs hsz v n xs hown ad m c news hs hx hl hnews h1 h63 hbytes hbase h
theorem wpList_append_blk {P : Program} (w : World) {ops : Array Oper} {rest : List Oper} {o : Oper} {a : Act} {Q : Exit → Act → World → Prop} (hgd : o.guard = none) (s x : Operand) (t : TypeId)
    (ho : o.op = .call { callee := .builtin .append, args := #[s, x], argTypes := #[t, t] })
    (base : Nat) (e : TypeId) {z : Value} {size bytes : Nat} (hinfo : (P.info? e).map (fun i => (i.zero, i.size, i.bytes)) = some (some z, size, bytes)) (ht : P.underlying t = some (.slice e))
    (hzs : z.cells.size = size) (hsz : 0 < size)
    (v : Value) (n : Nat) (xs : List Value) (hown : w.ownsRow base e size v n xs) (g : Nat) (news : Array Value) (hblk : Blk w g news e)
    (hs : a.eval s = v) (hx : a.eval x = .slice (some ⟨g, 0, none⟩) 1 1) (hl : news.size = size) (h1 : ∀ u ∈ news.toList, u.oneCell' = true)
    (h63 : n + 1 ≤ maxLen) (hbytes : ((n + 1) + (n + 1) / 4 + 192) * bytes ≤ 281474976710656) (hbase : base ≤ w.heap.size)
    (h : ∀ v' w', w'.ownsRow base e size v' (n + 1) (xs ++ news.toList) → (v'.ownBlock = v.ownBlock ∨ v'.ownBlock = some w.heap.size) → w.grownBy w' v.ownBlock → wpList P ops Q rest (a.put o.dst v') w') : wpList P ops Q (o :: rest) a w :=
  wpList_append_rows w hgd s x t ho base e hinfo ht hzs hsz v n xs hown ⟨g, 0, none⟩ 1 1 news.toList hs hx (by simp [hl]) (World.news_of_block hblk) h1 h63 hbytes hbase h
theorem own_at {w : World} {B : Nat} {T : TypeId} {v : Value} {n k : Nat} {xs : List Value} (h : w.ownsRow B T k v n xs) (h0 : 0 < n) : ∃ g cap, v = .slice (some ⟨g, 0, none⟩) n cap ∧ B ≤ g ∧ g < w.heap.size ∧ (∀ j u, xs[j]? = some u → w.cell? ((⟨g, 0, none⟩ : Addr).add j) = some u) ∧ (∀ j u, xs[j]? = some u → w.cell? ⟨g, j, none⟩ = some u) := by
  rcases h.2 with ⟨_, rfl⟩ | ⟨g, cap, cur, rfl, hg, hh, _⟩
  · omega
  · have hc := h.cells (g := g) rfl
    refine ⟨g, cap, rfl, hg, (h.lt g rfl).2, hc, fun j u hj => ?_⟩
    have := hc j u hj
    unfold Addr.add at this
    split at this
    · rename_i h0; rw [h0]; exact this
    · simpa using this
def strV (l : List ByteArray) : List Value := l.map .string
theorem strV_snoc (l : List ByteArray) (s : ByteArray) : strV l ++ (#[Value.string s] : Array Value).toList = strV (l ++ [s]) := by unfold strV; rw [List.map_append]; rfl
def PthI (B c : Nat) (s : List ByteArray) (O : Nat → Prop) (w : World) : Prop := ∃ v, Blk w c #[v] 26 ∧ w.ownsRow B 9 1 v s.length (strV s) ∧ O = (fun j => j = c ∨ v.ownBlock = some j) ∧ v.ownBlock ≠ some c
theorem FrO.grown {O : Nat → Prop} {w w' : World} {row : Option Nat} (h : w.grownBy w' row) (ho : ∀ j, row = some j → O j) : FrO O w w' := ⟨h.os, h.tape, h.output, h.size, fun j hj hn => h.block j hj (fun e => hn (ho j e.symm))⟩
theorem own_slice {w : World} {B : Nat} {T : TypeId} {v : Value} {n k : Nat} {xs : List Value} (h : w.ownsRow B T k v n xs) : ∃ A cap, v = .slice A n cap := by
  rcases h.2 with ⟨rfl, rfl⟩ | ⟨g', cap, cur, rfl, _⟩
  · exact ⟨_, _, rfl⟩
  · exact ⟨_, _, rfl⟩
theorem own_set {w : World} {B : Nat} {T : TypeId} {v u : Value} {n k g i : Nat} {xs : List Value} (h : w.ownsRow B T k v n xs) (hn : v.ownBlock ≠ some g) : (w.setCell ⟨g, i, none⟩ u).ownsRow B T k v n xs := by
  refine ⟨h.1, ?_⟩
  rcases h.2 with h2 | ⟨g', cap, cur, hv, hg, hh, r⟩
  · exact Or.inl h2
  · exact Or.inr ⟨g', cap, cur, hv, hg, (Below.heap_setCell _ _ _ _ (fun e => hn (by rw [hv, e]; rfl))).trans hh, r⟩
set_option maxRecDepth 100000 in
set_option maxHeartbeats 1000000 in
theorem pth1_any (B c : Nat) (s : List ByteArray) (cells : Array Value) (p : ByteArray) (l : Int) (O : Nat → Prop) (w : World) (hs : s.length ≤ 1000000) (hBw : B ≤ w.heap.size) (hc : PthI B c s O w) :
    Calls Tryz.prog 81 #[.agg cells, .string p, .int .i64 l, .pointer (some ⟨c, 0, none⟩)] w fun e w' => e = .returned (.bool true) ∧ (∃ O', PthI B c (s ++ [p]) O' w' ∧ ∀ j, O' j → O j ∨ w.heap.size ≤ j) ∧ FrO O w w' := by
  obtain ⟨v, hv, hown, rfl, hne⟩ := hc
  have HV := hide hv
  have HO := hide hown
  have hlt := hv.lt
  clear hv hown
  have HL : Live w [] := trivial
  go_enter Tryz.func81, Tryz.ntmps81
  go_upto_region 1 with fail
  have HV1 := hide (HV.out.alloc (.cells cells 25))
  have HO1 := hide (HO.out.alloc (.cells cells 25))
  have hbel1 : Below w.heap.size w (w.alloc (.cells cells 25)) := by (exact bl)
  generalize w.alloc (.cells cells 25) = W1 at *
  have c0 : W1.cell? ⟨c, 0, none⟩ = some v := HV1.out.cells 0
  have hB1 := hbel1.size
  clear HV HO
  go_upto_region 2 with ((at_builtin; refine wpList_append_blk _ rfl _ _ 26 rfl B 9 strInfo Tryz.underlying26 rfl (by decide) v _ _ (HO1.out.alloc _) W1.heap.size #[.string p] (Blk.newAt rfl) rfl rfl rfl (by simp [Value.oneCell']) (by unfold maxLen; omega) (by omega) (by rw [World.size_alloc]; omega) ?_; intro v2 w2 hown2 hnb2 hg2; obtain ⟨A2, cap2, hv2⟩ := own_slice hown2; subst hv2; have HV2 := hide (show Blk w2 c #[v] 26 from (hg2.block c (by rw [World.size_alloc]; omega) (fun e => hne e.symm)).trans (HV1.out.alloc _)); have f2 := HV2.out.free 0; have c2 := HV2.out.cells 0))
  go_wp2_with fail
  go_ret
  have hn2 : (Value.slice A2 (s.length + 1) cap2).ownBlock ≠ some c := by
    rcases hnb2 with h | h
    · rw [h]; exact hne
    · rw [h, World.size_alloc]; intro e; injection e with e; omega
  refine ⟨rfl, ⟨fun j => j = c ∨ (Value.slice A2 (s.length + 1) cap2).ownBlock = some j, ⟨_, HV2.out.put rfl, ?_, rfl, hn2⟩, ?_⟩, ?_⟩
  · rw [List.length_append, ← strV_snoc]
    exact own_set hown2 hn2
  · intro j hj
    rcases hj with h | h
    · left; exact Or.inl h
    · rcases hnb2 with h2 | h2
      · left; exact Or.inr (h2 ▸ h)
      · right; rw [h2, World.size_alloc] at h; injection h with h; omega
  · have f1 : FrO (fun j => j = c ∨ v.ownBlock = some j) w W1 := FrO.of hbel1
    have f2 : FrO (fun j => j = c ∨ v.ownBlock = some j) w (W1.alloc (.cells #[.string p] 9)) := f1.trans (FrO.of (O := fun j => j = c ∨ v.ownBlock = some j) ((Below.refl _ _).alloc (Nat.le_refl _) _)) (fun j h => Or.inl h)
    have f3 : FrO (fun j => j = c ∨ v.ownBlock = some j) w w2 := f2.trans (FrO.grown (O := fun j => j = c ∨ v.ownBlock = some j) hg2 (fun j h => by exact Or.inr h)) (fun j h => Or.inl h)
    exact f3.trans (FrO.set (O := fun j => j = c ∨ v.ownBlock = some j) (by exact Or.inl rfl)) (fun j h => Or.inl h)
theorem pth_visit (B c Z : Nat) (hc : B ≤ c) : VisitOK (fun (s : List ByteArray) _ p _ => (true, s ++ [p])) (fun s _ => s.length ≤ 1000000) (PthI B c) B Z 81 #[.pointer (some ⟨c, 0, none⟩)] :=
  ⟨enters_of Tryz.func81 (by kernel_rfl) rfl,
  fun s O w j ⟨v, hb, ho, e, _⟩ h => by
    subst e
    rcases h with rfl | h
    · exact ⟨hc, hb.lt⟩
    · exact ho.lt j h,
  fun s O w w' ⟨v, hb, ho, e, h4⟩ h => ⟨v, Blk.below h hb, below_row' ho h, e, h4⟩,
  fun s t p l v O w hG _ _ _ hI hBw hv => by
    obtain ⟨cells, rfl, -, -⟩ := hv.cells
    exact pth1_any B c s cells p l O w hG hBw hI⟩
theorem pathsF_len : ∀ (f : Fo) (p : ByteArray) (l : Nat), (pathsF f p l).length = f.count
  | .nil, _, _ => rfl
  | .node h ss ks nx, p, l => by
    unfold pathsF Fo.count
    rw [List.length_append, List.length_cons, pathsF_len ks, pathsF_len nx]
theorem good_paths : ∀ (f : Fo) (p : ByteArray) (l : Nat) (s : List ByteArray) (M : Nat), s.length + f.count ≤ M + 1 → goodF (fun (s : List ByteArray) (_ : Tr) p (_ : Nat) => (true, s ++ [p])) (fun s _ => s.length ≤ M) f p l s
  | .nil, _, _, _, _, _ => trivial
  | .node h ss ks nx, p, l, s, M, hM => by
    rw [Fo.count_node] at hM
    have hw : walkT (fun (s : List ByteArray) (_ : Tr) p (_ : Nat) => (true, s ++ [p])) ⟨h, ss, ks⟩ (belowP p h.name l) (l + 1) s = (true, s ++ [belowP p h.name l] ++ pathsF ks (belowP p h.name l) (l + 1)) := by
      unfold walkT
      dsimp only
      rw [if_pos rfl, walk_paths]
    refine ⟨⟨by omega, fun _ => good_paths ks _ _ _ M (by rw [List.length_append]; show s.length + 1 + _ ≤ _; omega)⟩, fun _ => ?_⟩
    rw [hw]
    exact good_paths nx _ _ _ M (by simp only [List.length_append, List.length_cons, List.length_nil, pathsF_len]; omega)
def StrsR (w : World) (B : Nat) (v : Value) (l : List ByteArray) : Prop := w.ownsRow B 9 1 v l.length (strV l)
set_option maxRecDepth 100000 in
set_option maxHeartbeats 2000000 in
theorem paths_any (t : Tr) (hsz : t.sz ≤ 120000) (v : Value) (w : World) (hT : TabV w) (hv : TreeR w w.heap.size v t) : Calls Tryz.prog 51 #[v] w fun e w' => ∃ r, e = .returned r ∧ StrsR w' w.heap.size r (pathsT t) ∧ Below w.heap.size w w' := by
  have HP := hide (show pathsT t = if validB t then eS :: pathsF t.ks eS 1 else [] from rfl)
  have VN := hide (fun W hTW hW => valid_any t (Or.inl hsz) v W hTW hW)
  have HV := hide hv
  obtain ⟨cells, rfl, hz, h1c⟩ := hv.cells
  have HZ := hide hz
  clear hv hz h1c
  have HL : Live w [] := trivial
  go_enter Tryz.func51, Tryz.ntmps51
  go_upto_region 1 with fail
  have HB := hide (show Blk (w.alloc (.cells cells 25)) w.heap.size cells 25 from Blk.newAt rfl)
  have hbel1 : Below w.heap.size w (w.alloc (.cells cells 25)) := by (exact bl)
  have HV1 := hide (HV.out.later hbel1)
  have HT1 := hide (hT.below hbel1)
  generalize w.alloc (.cells cells 25) = W1 at *
  obtain ⟨b, hb⟩ : ∃ b, b = w.heap.size := ⟨_, rfl⟩
  rw [← hb] at HB ⊢
  clear hb hT
  cases hvb : validB t
  case false =>
    have HR := hide (show pathsT t = [] by rw [HP.out, hvb]; rfl)
    rw [hvb] at VN
    clear hvb
    go_wp2_with (first | (refine wpList_load_row rfl 25 (.tmp 1) rfl b rfl 25 cells (0, 0) _ HB.out Tryz.underlying25 rfl (infN HZ.out) ?_) | (go_at_call 56; refine (VN.out _ HT1.out HV1.out).mono ?_; rintro e w3 ⟨rfl, hb3⟩))
    go_ret
    exact ⟨_, rfl, by rw [HR.out]; exact World.ownsRow_nil _ _ _ _, hbel1.trans (hb3.mono hbel1.size)⟩
  case true =>
    have HR := hide (show pathsT t = eS :: pathsF t.ks eS 1 by rw [HP.out, hvb]; rfl)
    rw [hvb] at VN
    clear hvb
    go_upto_region 4 with (first | (refine wpList_load_row rfl 25 (.tmp 1) rfl b rfl 25 cells (0, 0) _ HB.out Tryz.underlying25 rfl (infN HZ.out) ?_) | (go_at_call 56; refine (VN.out _ HT1.out HV1.out).mono ?_; rintro e w3 ⟨rfl, hb3⟩))
    have hbel3 := hbel1.trans (hb3.mono hbel1.size)
    have HB3 := hide ((Blk.below hb3 HB.out).alloc (.cells #[.slice none 0 0] 26))
    have hbel4 : Below w.heap.size w (w3.alloc (.cells #[.slice none 0 0] 26)) := hbel3.alloc hbel3.size _
    have HI := hide (show PthI w.heap.size w3.heap.size [] (fun j => j = w3.heap.size ∨ (Value.slice none 0 0).ownBlock = some j) (w3.alloc (.cells #[.slice none 0 0] 26)) from ⟨_, Blk.newAt rfl, World.ownsRow_nil _ _ _ _, rfl, fun e => by cases e⟩)
    have hc0 : w.heap.size ≤ w3.heap.size := hbel3.size
    generalize w3.alloc (.cells #[.slice none 0 0] 26) = W4 at *
    generalize w3.heap.size = c at *
    have hcn : t.count ≤ 500000 := by have := t.count_sz; omega
    have WK0 := walk_any (pth_visit w.heap.size c 120000 hc0) 500000 t hcn hsz (by omega) eS 1 (by omega) (by have := t.ks.wt_sz; unfold Tr.sz at hsz; show 0 + 1 + _ ≤ _; omega) [] _ (.agg cells) W4
      ⟨by simp, fun _ => good_paths t.ks eS 1 _ 1000000 (by unfold Tr.count at hcn; simp; omega)⟩ HI.out hbel4.size (HV.out.below hbel4)
    rw [walkT_paths] at WK0
    have WK := hide (show Calls Tryz.prog 80 #[.agg cells, .string ⟨#[]⟩, .int .i64 1, .func (.func 81) #[] #[.pointer (some ⟨c, 0, none⟩)]] W4 (WPost (PthI w.heap.size c) (fun j => j = c ∨ (Value.slice none 0 0).ownBlock = some j) W4 (true, eS :: pathsF t.ks eS 1)) from WK0)
    clear WK0 HI
    go_upto_region 5 with (first | (refine wpList_load_row rfl 25 (.tmp 1) rfl b rfl 25 cells (0, 0) _ HB3.out Tryz.underlying25 rfl (infN HZ.out) ?_) | (go_at_call 80; refine WK.out.mono ?_; rintro e w5 ⟨rfl, ⟨O5, ⟨v5, hv5, ho5, hO5, hne5⟩, hO52⟩, hf5⟩))
    have c0 := hv5.cells 0
    have hbel5 : Below w.heap.size w w5 := hbel4.trans (hf5.below hbel4.size (fun j h => by rcases h with rfl | h; exact hc0; cases h))
    have HO5 := hide ho5
    clear WK HB3 hv5 hO52 hf5 ho5 hO5 hne5
    go_wp2_with fail
    go_ret
    exact ⟨_, rfl, by rw [HR.out]; exact HO5.out, hbel5⟩
theorem own_base {w : World} {B B' : Nat} {T : TypeId} {v : Value} {n k : Nat} {xs : List Value} (h : w.ownsRow B' T k v n xs) (hB : B ≤ B') : w.ownsRow B T k v n xs := by
  refine ⟨h.1, ?_⟩
  rcases h.2 with h2 | ⟨g', cap, cur, hv, hg, r⟩
  · exact Or.inl h2
  · exact Or.inr ⟨g', cap, cur, hv, Nat.le_trans hB hg, r⟩
theorem KeepC.grown {g o k b : Nat} {kc : Array Value} {nm : ByteArray} {v : Value} {z z' : World} {row : Option Nat} (hg : g < z.heap.size) (hb : b < z.heap.size) (hgr : row ≠ some g) (hbr : row ≠ some b) (h : KeepC g o k b kc nm v z) (hz : z.grownBy z' row) : KeepC g o k b kc nm v z' :=
  have e : ∀ i j, i < z.heap.size → row ≠ some i → z'.cell? ⟨i, j, none⟩ = z.cell? ⟨i, j, none⟩ := fun i j h1 h2 => World.cell?_of_block (hz.block i h1 (fun e => h2 e.symm))
  ⟨fun j u hu => (e g _ hg hgr).trans (h.1 j u hu), (e g _ hg hgr).trans h.2.1, (e b _ hb hbr).trans h.2.2⟩
def SlR (w : World) (B : Nat) (v : Value) (l : List ByteArray) : Prop := ∃ A c, v = .slice A l.length c ∧ (0 < l.length → ∃ g o, A = some ⟨g, o, none⟩ ∧ g < B ∧ ∀ j s, l[j]? = some s → w.cell? ⟨g, o + j, none⟩ = some (.string s))
theorem SlR.of {w : World} {B : Nat} {v : Value} {l : List ByteArray} (h : StrsR w B v l) : SlR w w.heap.size v l := by
  obtain ⟨A, c, rfl⟩ := own_slice h
  refine ⟨A, c, rfl, fun h0 => ?_⟩
  obtain ⟨g, cap, e, _, hl, _, hc⟩ := own_at h h0
  injection e with e1 e2 e3
  subst e1
  exact ⟨g, 0, rfl, hl, fun j s hs => by rw [Nat.zero_add]; exact hc j _ (by unfold strV; rw [List.getElem?_map, hs]; rfl)⟩
theorem SlR.below {w w' : World} {B : Nat} {v : Value} {l : List ByteArray} (hb : Below B w w') (h : SlR w B v l) : SlR w' B v l := by
  obtain ⟨A, c, e, h⟩ := h
  exact ⟨A, c, e, fun h0 => by
    obtain ⟨g, o, e2, hg, hc⟩ := h h0
    exact ⟨g, o, e2, hg, fun j s hs => (hb.cell (p := ⟨g, o + j, none⟩) hg).trans (hc j s hs)⟩⟩
theorem SlR.mono {w : World} {B B' : Nat} {v : Value} {l : List ByteArray} (hB : B ≤ B') (h : SlR w B v l) : SlR w B' v l := by
  obtain ⟨A, c, e, h⟩ := h
  exact ⟨A, c, e, fun h0 => by
    obtain ⟨g, o, e2, hg, hc⟩ := h h0
    exact ⟨g, o, e2, Nat.lt_of_lt_of_le hg hB, hc⟩⟩
theorem sne_y {a b : ByteArray} (h : a ≠ b) : (a.toList != b.toList) = true := by rw [bne, seq_n h]; rfl
theorem sne_n {a b : ByteArray} (h : a = b) : (a.toList != b.toList) = false := by rw [bne, seq_y h]; rfl
theorem drop_eq_cons {α : Type} {l m : List α} {k : Nat} {x y : α} (hx : l[k]? = some x) (hy : m[k]? = some y) : (l.drop k = m.drop k ↔ x = y ∧ l.drop (k + 1) = m.drop (k + 1)) := by
  obtain ⟨h1, e1⟩ := List.getElem?_eq_some_iff.1 hx
  obtain ⟨h2, e2⟩ := List.getElem?_eq_some_iff.1 hy
  rw [List.drop_eq_getElem_cons h1, List.drop_eq_getElem_cons h2, e1, e2, List.cons.injEq]
set_option maxRecDepth 100000 in
set_option maxHeartbeats 2000000 in
theorem sequal_any (L M : List ByteArray) (a b : Value) (B : Nat) (hL : L.length ≤ 100000) (hM : M.length ≤ 100000) (w : World) (ha : SlR w B a L) (hb : SlR w B b M) : Calls Tryz.prog 15 #[a, b] w fun e w' => e = .returned (.bool (decide (L = M))) ∧ Below w.heap.size w w' := by
  obtain ⟨A, c, rfl, ha⟩ := ha
  obtain ⟨A2, c2, rfl, hb⟩ := hb
  have HA := hide ha
  have HB := hide hb
  clear ha hb
  have HL : Live w [] := trivial
  go_enter Tryz.func15, Tryz.ntmps15
  by_cases hlen : L.length = M.length
  case neg =>
    have HZ := hide (show decide (L = M) = false from decide_eq_false (fun e => hlen (by rw [e])))
    have q : ((L.length : Int) != (M.length : Int)) = true := by simp; omega
    have HQ := hide hlen
    clear hlen
    go_wp2_with fail
    go_ret
    exact ⟨ret_b HZ.out.symm, Below.refl _ _⟩
  case pos =>
  have HLN := hide hlen
  have q : ((L.length : Int) != (M.length : Int)) = false := by simp; omega
  clear hlen
  go_wp2_with fail
  go_loopw [13] (fun i wr => ∃ k : Nat, i = .int .i64 (k : Int) ∧ k ≤ L.length ∧ (L = M ↔ L.drop k = M.drop k) ∧ Below w.heap.size w wr ∧ (∀ g, wr.cell? g = w.cell? g)) (fun i _ => L.length - (intOf i).toNat)
  case atStart => exact ⟨0, rfl, by omega, Iff.rfl, Below.refl _ _, fun _ => rfl⟩
  case round =>
    obtain ⟨k, rfl, hk, hiff, hbel, hcs⟩ := hrel
    have HI := hide hiff
    have HCS := hide hcs
    clear hiff hcs
    by_cases hlt : k < L.length
    case neg =>
      have HZ := hide (show decide (L = M) = true from decide_eq_true (HI.out.2 (by rw [List.drop_of_length_le (by omega), List.drop_of_length_le (by have := HLN.out; omega)])))
      go_wp2_with fail
      go_ret
      exact ⟨ret_b HZ.out.symm, hbel⟩
    case pos =>
    have hltM : k < M.length := by have := HLN.out; omega
    obtain ⟨x, hx⟩ : ∃ x, L[k]? = some x := ⟨_, List.getElem?_eq_getElem hlt⟩
    obtain ⟨y, hy⟩ : ∃ y, M[k]? = some y := ⟨_, List.getElem?_eq_getElem hltM⟩
    obtain ⟨g, o, rfl, hg, hc⟩ := HA.out (by omega)
    obtain ⟨g2, o2, rfl, hg2, hc2⟩ := HB.out (by omega)
    have c1 : wr.cell? ⟨g, o + k, none⟩ = some (.string x) := (HCS.out _).trans (hc k x hx)
    have c2' : wr.cell? ⟨g2, o2 + k, none⟩ = some (.string y) := (HCS.out _).trans (hc2 k y hy)
    have HD := hide (drop_eq_cons hx hy)
    clear hx hy hc hc2
    by_cases hxy : x = y
    · have q1 := seq_y hxy
      have HE := hide (show (L = M ↔ L.drop (k + 1) = M.drop (k + 1)) by rw [HI.out, HD.out]; simp [hxy])
      clear hxy HD
      go_upto_region 6 with fail
      go_quiet (fail)
      go_wp2_with fail
      go_roundw
      case rel => exact ⟨k + 1, by go_num, by omega, HE.out, below_drewN' hbel, fun g => HCS.out g⟩
      case measure => simp [intOf]; omega
    · have q1 := seq_n hxy
      have HE := hide (show decide (L = M) = false from decide_eq_false (fun e => hxy (HD.out.1 (HI.out.1 e)).1))
      clear hxy HD
      go_upto_region 6 with fail
      go_quiet (fail)
      go_wp2_with fail
      go_ret
      exact ⟨ret_b HE.out.symm, below_drewN' hbel⟩
def stV (ss : List St) : List Value := ss.flatMap fun s => [.string s.1, .string s.2]
theorem stV_len (ss : List St) : (stV ss).length = ss.length * 2 := by
  induction ss with
  | nil => rfl
  | cons s l ih => show (stV l).length + 2 = _; rw [ih, List.length_cons]; omega
theorem stV_get : ∀ (ss : List St) (j : Nat) (s : St), ss[j]? = some s → (stV ss)[j * 2]? = some (.string s.1) ∧ (stV ss)[j * 2 + 1]? = some (.string s.2)
  | [], _, _, h => by simp at h
  | a :: l, 0, s, h => by
    have e : a = s := by simpa using h
    subst e
    exact ⟨rfl, rfl⟩
  | a :: l, j + 1, s, h => by
    have ih := stV_get l j s (by simpa using h)
    have e1 : (j + 1) * 2 = j * 2 + 2 := by omega
    have e2 : (j + 1) * 2 + 1 = j * 2 + 1 + 2 := by omega
    show (Value.string a.1 :: Value.string a.2 :: stV l)[_]? = _ ∧ (Value.string a.1 :: Value.string a.2 :: stV l)[_]? = _
    rw [e2, e1]
    exact ih
theorem stV_one (ss : List St) : ∀ u ∈ stV ss, u.oneCell' = true := by
  intro u hu
  unfold stV at hu
  obtain ⟨s, _, hs⟩ := List.mem_flatMap.1 hu
  simp at hs
  rcases hs with rfl | rfl <;> rfl
theorem StR.of_own {w : World} {lo B : Nat} {sv : Value} {ss : List St} (hB : w.heap.size ≤ B) (h : w.ownsRow lo 136 2 sv ss.length (stV ss)) : StR w B sv ss := by
  obtain ⟨A, c, rfl⟩ := own_slice h
  refine ⟨A, c, rfl, fun h0 => ?_⟩
  obtain ⟨g, cap, e, _, hl, _, hc⟩ := own_at h h0
  injection e with e1 e2 e3
  subst e1
  refine ⟨g, 0, rfl, by omega, fun j s hs => ?_⟩
  have := stV_get ss j s hs
  rw [Nat.zero_add, Nat.zero_add]
  exact ⟨hc _ _ this.1, hc _ _ this.2⟩
def RowR (w : World) (B : Nat) : Fo → List Value → Prop
  | .nil, xs => xs = []
  | .node h ss ks nx, xs => ∃ kv sv xs', xs = (h.cells kv sv).toList ++ xs' ∧ StR w B sv ss ∧ KidR w B kv ks ∧ RowR w B nx xs'
theorem RowR.len {w : World} {B : Nat} : ∀ {f : Fo} {xs : List Value}, RowR w B f xs → xs.length = f.len * 12
  | .nil, _, h => by
    have h' : _ = [] := h
    rw [h']; rfl
  | .node h ss ks nx, _, ⟨kv, sv, xs', e, _, _, hn⟩ => by
    have := RowR.len hn
    rw [e, List.length_append, this, Fo.len]
    show 12 + _ = _
    omega
theorem RowR.for {w : World} {B : Nat} {g : Nat} : ∀ {f : Fo} {xs : List Value} {o : Nat}, RowR w B f xs → (∀ j u, xs[j]? = some u → w.cell? ⟨g, o + j, none⟩ = some u) → ForR w B f g o
  | .nil, _, _, _, _ => trivial
  | .node h ss ks nx, xs, o, ⟨kv, sv, xs', e, hs, hk, hn⟩, hc => by
    subst e
    refine ⟨⟨kv, sv, fun j u hu => hc j u ?_, hs, hk⟩, RowR.for hn fun j u hu => ?_⟩
    · have hj : j < (h.cells kv sv).toList.length := (List.getElem?_eq_some_iff.1 hu).1
      rw [List.getElem?_append_left hj]; exact hu
    · have := hc (12 + j) u (by rw [List.getElem?_append_right (show (h.cells kv sv).toList.length ≤ 12 + j from Nat.le_add_right _ _)]; show xs'[12 + j - 12]? = _; rw [Nat.add_sub_cancel_left]; exact hu)
      rw [show o + 12 + j = o + (12 + j) by omega]
      exact this
theorem KidR.of_own {w : World} {lo B : Nat} {kv : Value} {ks : Fo} {xs : List Value} (hB : w.heap.size ≤ B) (h : w.ownsRow lo 25 12 kv ks.len xs) (hr : RowR w B ks xs) : KidR w B kv ks := by
  obtain ⟨A, c, rfl⟩ := own_slice h
  refine ⟨A, c, rfl, fun h0 => ?_⟩
  obtain ⟨g, cap, e, _, hl, _, hc⟩ := own_at h h0
  injection e with e1 e2 e3
  subst e1
  exact ⟨g, 0, rfl, by omega, hr.for fun j u hu => by rw [Nat.zero_add]; exact hc j u hu⟩
def RowS (w : World) (lo : Nat) : Fo → List Value → (Nat → Prop) → Prop
  | .nil, xs, _ => xs = []
  | .node h ss ks nx, xs, O => ∃ (kv sv : Value) (xs' : List Value) (O1 On : Nat → Prop), xs = (h.cells kv sv).toList ++ xs' ∧ w.ownsRow lo 136 2 sv ss.length (stV ss) ∧
      (∃ (xk : List Value) (Ok : Nat → Prop), w.ownsRow lo 25 12 kv ks.len xk ∧ RowS w lo ks xk Ok ∧ (∀ j, Ok j → O1 j ∧ kv.ownBlock ≠ some j) ∧ (∀ j, kv.ownBlock = some j → O1 j)) ∧
      RowS w lo nx xs' On ∧ (∀ j, O1 j → O j ∧ ¬ On j) ∧ (∀ j, On j → O j)
def KidS (w : World) (lo : Nat) (kv : Value) (ks : Fo) (O : Nat → Prop) : Prop := ∃ xk Ok, w.ownsRow lo 25 12 kv ks.len xk ∧ RowS w lo ks xk Ok ∧ (∀ j, Ok j → O j ∧ kv.ownBlock ≠ some j) ∧ (∀ j, kv.ownBlock = some j → O j)
theorem RowS.len {w : World} {lo : Nat} : ∀ {f : Fo} {xs : List Value} {O : Nat → Prop}, RowS w lo f xs O → xs.length = f.len * 12
  | .nil, _, _, h => by
    have h' : _ = [] := h
    rw [h']; rfl
  | .node h ss ks nx, _, _, ⟨kv, sv, xs', O1, On, e, _, _, hn, _, _⟩ => by
    have := RowS.len hn
    rw [e, List.length_append, this, Fo.len]
    show 12 + _ = _
    omega
def StrK (w w' : World) : Prop := ∀ (j : Nat) (cs : Array Value) (fr : Nat × Nat), w.heap[j]? = some (Obj.cells cs 136 fr) → w'.heap[j]? = w.heap[j]?
theorem own_keep {w w' : World} {B : Nat} {T : TypeId} {v : Value} {n k : Nat} {xs : List Value} (h : w.ownsRow B T k v n xs) (he : ∀ (g : Nat) (cs : Array Value), v.ownBlock = some g → w.heap[g]? = some (Obj.cells cs T (0, 0)) → w'.heap[g]? = w.heap[g]?) : w'.ownsRow B T k v n xs := by
  refine ⟨h.1, ?_⟩
  rcases h.2 with h2 | ⟨g', cap, cur, hv, hg, hh, r⟩
  · exact Or.inl h2
  · exact Or.inr ⟨g', cap, cur, hv, hg, (he g' cur (by rw [hv]; rfl) hh).trans hh, r⟩
theorem RowS.frame {w w' : World} {lo : Nat} (hS : StrK w w') : ∀ {f : Fo} {xs : List Value} {O : Nat → Prop}, (∀ j, j < w.heap.size → O j → w'.heap[j]? = w.heap[j]?) → RowS w lo f xs O → RowS w' lo f xs O
  | .nil, _, _, _, h => h
  | .node h ss ks nx, _, O, hO, ⟨kv, sv, xs', O1, On, e, hs, ⟨xk, Ok, hk, hr, h1, h2⟩, hn, h3, h4⟩ =>
    ⟨kv, sv, xs', O1, On, e, own_keep hs fun g cs _ hg => hS g cs _ hg, ⟨xk, Ok, own_keep hk fun g cs hg hh => hO g (by
      rcases Nat.lt_or_ge g w.heap.size with h' | h'
      · exact h'
      · rw [Array.getElem?_eq_none h'] at hh; cases hh) (h3 g (h2 g hg)).1, RowS.frame hS (fun j hj hoj => hO j hj (h3 j (h1 j hoj).1).1) hr, h1, h2⟩,
      RowS.frame hS (fun j hj hoj => hO j hj (h4 j hoj)) hn, h3, h4⟩
theorem KidS.frame {w w' : World} {lo : Nat} {kv : Value} {ks : Fo} {O : Nat → Prop} (hS : StrK w w') (hO : ∀ j, j < w.heap.size → O j → w'.heap[j]? = w.heap[j]?) (h : KidS w lo kv ks O) : KidS w' lo kv ks O := by
  obtain ⟨xk, Ok, hk, hr, h1, h2⟩ := h
  exact ⟨xk, Ok, own_keep hk fun g cs hg hh => hO g (by
      rcases Nat.lt_or_ge g w.heap.size with h' | h'
      · exact h'
      · rw [Array.getElem?_eq_none h'] at hh; cases hh) (h2 g hg), hr.frame hS (fun j hj hoj => hO j hj (h1 j hoj).1), h1, h2⟩
theorem StrK.below {w w' : World} (h : Below w.heap.size w w') : StrK w w' := fun j cs fr hj => h.block j (by
  rcases Nat.lt_or_ge j w.heap.size with h' | h'
  · exact h'
  · rw [Array.getElem?_eq_none h'] at hj; cases hj)
theorem RowS.below {w w' : World} {lo : Nat} {f : Fo} {xs : List Value} {O : Nat → Prop} (hb : Below w.heap.size w w') (h : RowS w lo f xs O) : RowS w' lo f xs O := h.frame (StrK.below hb) fun j hj _ => hb.block j hj
theorem KidS.below {w w' : World} {lo : Nat} {kv : Value} {ks : Fo} {O : Nat → Prop} (hb : Below w.heap.size w w') (h : KidS w lo kv ks O) : KidS w' lo kv ks O := h.frame (StrK.below hb) fun j hj _ => hb.block j hj
theorem RowS.sub {w : World} {lo : Nat} : ∀ {f : Fo} {xs : List Value} {O O' : Nat → Prop}, (∀ j, O j → O' j) → RowS w lo f xs O → RowS w lo f xs O'
  | .nil, _, _, _, _, h => h
  | .node _ _ _ _, _, _, _, hO, ⟨kv, sv, xs', O1, On, e, hs, hk, hn, h3, h4⟩ => ⟨kv, sv, xs', O1, On, e, hs, hk, hn, fun j hj => ⟨hO j (h3 j hj).1, (h3 j hj).2⟩, fun j hj => hO j (h4 j hj)⟩
theorem RowS.base {w : World} {lo lo' : Nat} (hl : lo' ≤ lo) : ∀ {f : Fo} {xs : List Value} {O : Nat → Prop}, RowS w lo f xs O → RowS w lo' f xs O
  | .nil, _, _, h => h
  | .node _ _ _ _, _, _, ⟨kv, sv, xs', O1, On, e, hs, ⟨xk, Ok, hk, hr, h1, h2⟩, hn, h3, h4⟩ => ⟨kv, sv, xs', O1, On, e, own_base hs hl, ⟨xk, Ok, own_base hk hl, RowS.base hl hr, h1, h2⟩, RowS.base hl hn, h3, h4⟩
theorem KidS.base {w : World} {lo lo' : Nat} {kv : Value} {ks : Fo} {O : Nat → Prop} (hl : lo' ≤ lo) (h : KidS w lo kv ks O) : KidS w lo' kv ks O := by
  obtain ⟨xk, Ok, hk, hr, h1, h2⟩ := h
  exact ⟨xk, Ok, own_base hk hl, hr.base hl, h1, h2⟩
theorem RowS.read {w : World} {lo B : Nat} (hB : w.heap.size ≤ B) : ∀ {f : Fo} {xs : List Value} {O : Nat → Prop}, RowS w lo f xs O → RowR w B f xs
  | .nil, _, _, h => h
  | .node _ _ _ _, _, _, ⟨kv, sv, xs', O1, On, e, hs, ⟨xk, Ok, hk, hr, h1, h2⟩, hn, h3, h4⟩ => ⟨kv, sv, xs', e, StR.of_own hB hs, KidR.of_own hB hk (RowS.read hB hr), RowS.read hB hn⟩
theorem KidS.read {w : World} {lo B : Nat} {kv : Value} {ks : Fo} {O : Nat → Prop} (hB : w.heap.size ≤ B) (h : KidS w lo kv ks O) : KidR w B kv ks := by
  obtain ⟨xk, Ok, hk, hr, h1, h2⟩ := h
  exact KidR.of_own hB hk (hr.read hB)
theorem Fo.len_app : ∀ a b : Fo, (a.app b).len = a.len + b.len
  | .nil, b => (Nat.zero_add _).symm
  | .node h ss ks nx, b => by rw [Fo.app, Fo.len, Fo.len, Fo.len_app nx b]; omega
theorem RowS.snoc {w : World} {lo : Nat} {h : Hd} {ss : List St} {ks : Fo} {kv sv : Value} {O1 : Nat → Prop} (hs : w.ownsRow lo 136 2 sv ss.length (stV ss)) (hk : KidS w lo kv ks O1) :
    ∀ {f : Fo} {xs : List Value} {O : Nat → Prop}, (∀ j, O1 j → ¬ O j) → RowS w lo f xs O → RowS w lo (f.app (.node h ss ks .nil)) (xs ++ (h.cells kv sv).toList) (fun j => O j ∨ O1 j)
  | .nil, xs, O, hd, e => by
    have e' : xs = [] := e
    subst e'
    exact ⟨kv, sv, [], O1, fun _ => False, by simp, hs, hk, rfl, fun j hj => ⟨Or.inr hj, id⟩, fun _ h => h.elim⟩
  | .node h' ss' ks' nx, xs, O, hd, ⟨kv', sv', xs', P1, Pn, e, hs', hk', hn, h3, h4⟩ => by
    subst e
    refine ⟨kv', sv', xs' ++ (h.cells kv sv).toList, P1, fun j => Pn j ∨ O1 j, by rw [List.append_assoc], hs', hk', RowS.snoc hs hk (fun j hj hp => hd j hj (h4 j hp)) hn, fun j hj => ⟨Or.inl (h3 j hj).1, fun e => e.elim (h3 j hj).2 fun e => hd j e (h3 j hj).1⟩, fun j hj => hj.elim (fun e => Or.inl (h4 j e)) Or.inr⟩
def Fo.setAt : Fo → Nat → Tr → Fo
  | .nil, _, _ => .nil
  | .node _ _ _ nx, 0, k => .node k.h k.ss k.ks nx
  | .node h ss ks nx, i + 1, k => .node h ss ks (nx.setAt i k)
theorem RowS.at {w : World} {lo : Nat} : ∀ {f : Fo} {i : Nat} {k : Tr} {xs : List Value} {O : Nat → Prop}, RowS w lo f xs O → f.list[i]? = some k → ∃ kv sv O1 xa xb, xs = xa ++ (k.h.cells kv sv).toList ++ xb ∧ xa.length = i * 12 ∧
      w.ownsRow lo 136 2 sv k.ss.length (stV k.ss) ∧ KidS w lo kv k.ks O1 ∧ (∀ j, O1 j → O j) ∧
      ∀ (w' : World) (B' : Nat) (k' : Tr) (kv' sv' : Value), StrK w w' → (∀ j, j < w.heap.size → O j → ¬ O1 j → w'.heap[j]? = w.heap[j]?) → w'.heap.size ≤ B' → StR w' B' sv' k'.ss → KidR w' B' kv' k'.ks → RowR w' B' (f.setAt i k') (xa ++ (k'.h.cells kv' sv').toList ++ xb)
  | .nil, _, _, _, _, _, hi => by simp [Fo.list] at hi
  | .node h ss ks nx, 0, k, xs, O, ⟨kv, sv, xs', O1, On, e, hs, hk, hn, h3, h4⟩, hi => by
    have e2 : (⟨h, ss, ks⟩ : Tr) = k := by simpa [Fo.list] using hi
    subst e2
    refine ⟨kv, sv, O1, [], xs', by rw [e]; rfl, rfl, hs, hk, fun j hj => (h3 j hj).1, fun w' B' k' kv' sv' hS hO hB hs' hk' => ?_⟩
    exact ⟨kv', sv', xs', rfl, hs', hk', (hn.frame hS fun j hj hoj => hO j hj (h4 j hoj) fun e => (h3 j e).2 hoj).read hB⟩
  | .node h ss ks nx, i + 1, k, xs, O, ⟨kv, sv, xs', O1, On, e, hs, hk, hn, h3, h4⟩, hi => by
    obtain ⟨kv2, sv2, O2, xa, xb, e2, hl, hs2, hk2, ho2, hw⟩ := RowS.at hn (i := i) (k := k) (by simpa [Fo.list] using hi)
    subst e2
    refine ⟨kv2, sv2, O2, (h.cells kv sv).toList ++ xa, xb, by rw [e]; simp only [List.append_assoc], by rw [List.length_append, hl]; show 12 + _ = _; omega, hs2, hk2, fun j hj => h4 j (ho2 j hj), fun w' B' k' kv' sv' hS hO hB hs' hk' => ?_⟩
    refine ⟨kv, sv, xa ++ (k'.h.cells kv' sv').toList ++ xb, by simp only [List.append_assoc], ?_, ?_, hw w' B' k' kv' sv' hS (fun j hj hoj hn2 => hO j hj (h4 j hoj) hn2) hB hs' hk'⟩
    · exact StR.of_own hB (own_keep hs fun g cs _ hg => hS g cs _ hg)
    · exact KidS.read hB (KidS.frame hS (fun j hj hoj => hO j hj (h3 j hoj).1 (fun e => (h3 j hoj).2 (ho2 j e))) hk)
end Go.Proofs.YtocgindpjjolpaaGreatDoor
