/- Words for the statement VolumedescSequence: what its image reads as; rows of strings. -/
import Derived.Test.YtjbhokmkmapkoaaGreatDoorCL7
import Derived.Deep.MidRow
namespace Go.Proofs.YtjbhokmkmapkoaaGreatDoor
set_option linter.unusedSimpArgs false
set_option linter.unusedVariables false
open Go.RowKit
open Go.PlainAid (bt get_bt bt_nonneg bt_le bt_end)

/-- The law keeps this descriptor. -/
def keepB (d : DR) : Bool := decide (chkD d = 0 ∧ d.typ ≠ 255)
def wantS (l : List DR) : List DR := l.filter keepB
theorem wantS_snoc {l : List DR} {k : Nat} {d : DR} (h : l[k]? = some d) : wantS (l.take (k + 1)) = wantS (l.take k) ++ (if keepB d then [d] else []) := by
  unfold wantS
  rw [List.take_add_one, h, List.filter_append]
  congr 1
  show List.filter keepB [d] = _
  rw [List.filter_cons, List.filter_nil]
theorem wantS_len (l : List DR) : (wantS l).length ≤ l.length := List.length_filter_le _ _
theorem readL_all {img : List ByteArray} {st : Nat} : ∀ (L : List DR) (k i : Nat) (out : List DR), (∀ j d, L[j]? = some d → keepB d = true ∧ img[st + 16 + i + j]? = some (encDS d)) → img[st + 16 + i + L.length]? = some (encDS exT) → L.length < k → readL img st k i out = (out ++ L, 0, 0)
  | [], k + 1, i, out, _, he, _ => by
    have ht : (encDS exT).size = 2048 := enc_size chkT
    rw [readL_step (m := st + 16 + i) (x := encDS exT) (by omega) he ht (dec_enc chkT), if_neg (by decide), if_neg (by decide), if_pos (by decide), List.append_nil]
  | d :: L, k + 1, i, out, h, he, hk => by
    obtain ⟨h1, h2⟩ := h 0 d rfl
    obtain ⟨hc, ht⟩ := of_decide_eq_true h1
    have hk2 : L.length < k := by simp at hk; omega
    rw [readL_step (m := st + 16 + i) (by omega) h2 (enc_size hc) (dec_enc hc), if_neg (by decide), if_neg (by decide), if_neg ht,
      readL_all L k (i + 1) (out ++ [d]) (fun j x hj => by
        have := h (j + 1) x hj
        rwa [show st + 16 + i + (j + 1) = st + 16 + (i + 1) + j by omega] at this) (by
        rwa [List.length_cons, show st + 16 + i + (L.length + 1) = st + 16 + (i + 1) + L.length by omega] at he) hk2]
    simp
theorem readL_lost {img : List ByteArray} {st : Nat} : ∀ (L : List DR) (k i : Nat) (out : List DR), (∀ j d, L[j]? = some d → keepB d = true ∧ img[st + 16 + i + j]? = some (encDS d)) → img[st + 16 + i + L.length]? = some ⟨#[33]⟩ → L.length < k → readL img st k i out = ([], ((st + 16 + i + L.length : Nat) : Int), 9)
  | [], k + 1, i, out, _, he, _ => readL_short (m := st + 16 + i) (by omega) he (by decide)
  | d :: L, k + 1, i, out, h, he, hk => by
    obtain ⟨h1, h2⟩ := h 0 d rfl
    obtain ⟨hc, ht⟩ := of_decide_eq_true h1
    have hk2 : L.length < k := by simp at hk; omega
    rw [readL_step (m := st + 16 + i) (by omega) h2 (enc_size hc) (dec_enc hc), if_neg (by decide), if_neg (by decide), if_neg ht,
      readL_lost L k (i + 1) (out ++ [d]) (fun j x hj => by
        have := h (j + 1) x hj
        rwa [show st + 16 + i + (j + 1) = st + 16 + (i + 1) + j by omega] at this) (by
        rwa [List.length_cons, show st + 16 + i + (L.length + 1) = st + 16 + (i + 1) + L.length by omega] at he) hk2]
    rw [List.length_cons, show st + 16 + (i + 1) + L.length = st + 16 + i + (L.length + 1) by omega]
/-- The image ahead of the terminator. -/
def imgS (s : Nat) (L : List DR) : List ByteArray := List.replicate (s + 16) ⟨#[]⟩ ++ L.map encDS
theorem imgS_len (s : Nat) (L : List DR) : (imgS s L).length = s + 16 + L.length := by simp [imgS]
theorem imgS_nil (s : Nat) : imgS s [] = List.replicate (s + 16) ⟨#[]⟩ := by simp [imgS]
theorem imgS_snoc (s : Nat) (L : List DR) (d : DR) : imgS s (L ++ [d]) = imgS s L ++ [encDS d] := by simp [imgS]
theorem imgS_at {s j : Nat} {L : List DR} {d : DR} (h : L[j]? = some d) (tl : List ByteArray) : (imgS s L ++ tl)[s + 16 + 0 + j]? = some (encDS d) := by
  have hj := (List.getElem?_eq_some_iff.1 h).1
  rw [List.getElem?_append_left (by rw [imgS_len]; omega)]
  unfold imgS
  rw [List.getElem?_append_right (by simp), List.length_replicate, show s + 16 + 0 + j - (s + 16) = j by omega, List.getElem?_map, h]
  rfl
theorem imgS_end (s : Nat) (L : List DR) (e : ByteArray) (tl : List ByteArray) : (imgS s L ++ e :: tl)[s + 16 + 0 + L.length]? = some e := by
  rw [List.getElem?_append_right (by rw [imgS_len]; omega), imgS_len, show s + 16 + 0 + L.length - (s + 16 + L.length) = 0 by omega]
  rfl
theorem seq_read (s : Nat) (L : List DR) (tl : List ByteArray) (hk : ∀ d ∈ L, keepB d = true) (h12 : L.length ≤ 12) : readA (imgS s L ++ encDS exT :: tl) s = (L, 0, 0) := by
  unfold readA
  rw [readL_all L 64 0 [] (fun j d hj => ⟨hk d (List.mem_of_getElem? hj), imgS_at hj _⟩) (imgS_end s L _ tl) (by omega)]
  simp
theorem seq_lost (s p : Nat) (L : List DR) (tl : List ByteArray) (hk : ∀ d ∈ L, keepB d = true) (h12 : L.length ≤ 12) (hp : p ≤ L.length) : readA ((imgS s L ++ encDS exT :: tl).set (s + 16 + p) ⟨#[33]⟩) s = ([], ((s + 16 + p : Nat) : Int), 9) := by
  have hl : (L.take p).length = p := by rw [List.length_take]; omega
  unfold readA
  rw [readL_lost (L.take p) 64 0 [] (fun j d hj => by
    have hjp : j < p := by have := (List.getElem?_eq_some_iff.1 hj).1; omega
    rw [List.getElem?_take, if_pos hjp] at hj
    refine ⟨hk d (List.mem_of_getElem? hj), ?_⟩
    rw [List.getElem?_set_ne (by omega)]
    exact imgS_at hj _) (by
    rw [hl, show s + 16 + 0 + p = s + 16 + p by omega, List.getElem?_set_self (by rw [List.length_append, imgS_len, List.length_cons]; omega)]) (by omega)]
  rw [hl, show s + 16 + 0 + p = s + 16 + p by omega]
theorem wantS_keep (l : List DR) : ∀ d ∈ wantS l, keepB d = true := fun d hd => (List.mem_filter.1 hd).2
/-- A row of strings of the call's own. -/
def OwnS (B : Nat) (M : List ByteArray) (v : Value) (w : World) : Prop := w.ownsRow B 9 1 v M.length (M.map Value.string)
theorem OwnS.reads {w : World} {B : Nat} {v : Value} {L : List ByteArray} (h : OwnS B L v w) : ReadsS w v L := ReadsS.of h
theorem OwnS.below {B : Nat} {M : List ByteArray} {v : Value} {w w1 : World} (h : OwnS B M v w) (hb : Below w.heap.size w w1) : OwnS B M v w1 := ownsRow_below h hb
theorem OwnS.snoc {B : Nat} {M : List ByteArray} {y : ByteArray} {v : Value} {w : World} (h : w.ownsRow B 9 1 v (M.length + 1) (M.map Value.string ++ #[Value.string y].toList)) : OwnS B (M ++ [y]) v w := by
  unfold OwnS
  rw [List.length_append, List.map_append]
  exact h
/-- One cell of a row is written. -/
theorem OwnS.put {B i : Nat} {M : List ByteArray} {y : ByteArray} {v : Value} {w : World} (h : OwnS B M v w) (hi : i < M.length) : ∃ g cap, v = .slice (some ⟨g, 0, none⟩) M.length cap ∧ B ≤ g ∧ g < w.heap.size ∧ w.frozen? ⟨g, i, none⟩ = false ∧ OwnS B (M.set i y) v (w.setCell ⟨g, i, none⟩ (.string y)) := by
  rcases h.2 with ⟨_, h0⟩ | ⟨g, cap, cur, rfl, hb, hg, hn, hm, hs, ht⟩
  · omega
  have hlt : g < w.heap.size := by
    rcases Nat.lt_or_ge g w.heap.size with h' | h'
    · exact h'
    · rw [Array.getElem?_eq_none h'] at hg; cases hg
  refine ⟨g, cap, rfl, hb, hlt, by simp [World.frozen?, hg], ?_⟩
  unfold OwnS
  rw [List.length_set]
  refine ⟨by simp, .inr ⟨g, cap, cur.setIfInBounds i (.string y), rfl, hb, ?_, hn, hm, by simpa using hs, ?_⟩⟩
  · simp [World.setCell, Array.getElem?_modify, hg]
  · rw [List.map_set, ← ht, Array.toList_setIfInBounds, List.take_set]
theorem made_S (s : Nat) (W : World) (B : Nat) (hB : B ≤ W.heap.size) (hs : s < 100) : OwnS B (imgS s []) (.slice (some ⟨W.heap.size, 0, none⟩) (s + 16) (s + 16)) (W.alloc (.cells (madeCells #[.string ByteArray.empty] (s + 16)) 9)) := by
  unfold OwnS
  rw [imgS_nil, List.length_replicate, ← made_img]
  exact World.ownsRow_lit W _ (s + 16) hB (by unfold maxLen; omega) (by rw [size_madeCells, Nat.mul_one])
theorem make_S (s : Nat) (hs : s < 100) (W : World) : (Instr.makeSlice 41 (.int .i64 ((s : Int) + 16)) (.int .i64 ((s : Int) + 16))).run Tryz.prog W = .ok (.slice (some ⟨W.heap.size, 0, none⟩) (s + 16) (s + 16)) (W.alloc (.cells (madeCells #[.string ByteArray.empty] (s + 16)) 9)) := by
  have := make_img (s + 16) (by omega) W
  rwa [show ((s + 16 : Nat) : Int) = (s : Int) + 16 by omega] at this
theorem wpList_load_midA {P : Program} {ops : Array Oper} {rest : List Oper} {op : Oper} {a : Act} {w : World} {Q : Exit → Act → World → Prop} (hgd : op.guard = none) (ty : TypeId) (x : Operand) (ho : op.op = .load ty x)
    (b o : Nat) (hx : a.eval x = .pointer (some ⟨b, o, none⟩)) (cells : Array Value) (d : TypeDesc) (hc : w.rangeAt b o cells.toList)
    (hu : P.underlying ty = some d) (hd : d.isRow = true) (hi : (P.info? ty).map (·.size) = some cells.toList.length)
    (h : wpList P ops Q rest (a.put op.dst (.agg cells)) w) : wpList P ops Q (op :: rest) a w :=
  Go.wpList_load_mid hgd ty x ho b o hx cells.toList d hc hu hd hi (by rw [Array.toArray_toList]; exact h)
theorem own_tag {w : World} {B B' size size' n n' : Nat} {e e' : TypeId} {v v' : Value} {xs xs' : List Value} (h : w.ownsRow B e size v n xs) (h' : w.ownsRow B' e' size' v' n' xs') (hne : e ≠ e') : ∀ g, v'.ownBlock = some g → v.ownBlock ≠ some g := by
  intro g hg hg2
  rcases h.2 with ⟨rfl, _⟩ | ⟨g1, cap, cur, rfl, _, h1, _⟩
  · cases hg2
  rcases h'.2 with ⟨rfl, _⟩ | ⟨g2, cap', cur', rfl, _, h2, _⟩
  · cases hg
  have e1 : g1 = g := Option.some.inj hg2
  have e2 : g2 = g := Option.some.inj hg
  subst e1; subst e2
  have := Option.some.inj (h1.symm.trans h2)
  injection this with _ q _
  exact hne q
theorem own_blk {w : World} {B size n b : Nat} {e T : TypeId} {cs : Array Value} {v : Value} {xs : List Value} (h : w.ownsRow B e size v n xs) (hb : Blk w b cs T) (hne : e ≠ T) : v.ownBlock ≠ some b := by
  intro hg2
  rcases h.2 with ⟨rfl, _⟩ | ⟨g1, cap, cur, rfl, _, h1, _⟩
  · cases hg2
  have e1 : g1 = b := Option.some.inj hg2
  subst e1
  have := Option.some.inj (h1.symm.trans hb)
  injection this with _ q _
  exact hne q
theorem own_keep {w w' : World} {B size n : Nat} {e : TypeId} {v : Value} {xs : List Value} (h : w.ownsRow B e size v n xs) (hk : ∀ g, v.ownBlock = some g → w'.heap[g]? = w.heap[g]?) : w'.ownsRow B e size v n xs := by
  refine ⟨h.1, ?_⟩
  rcases h.2 with h0 | ⟨g1, cap, cur, rfl, h2, h1, h3⟩
  · exact .inl h0
  · exact .inr ⟨g1, cap, cur, rfl, h2, (hk g1 rfl).trans h1, h3⟩
theorem own_lt {w : World} {B size n : Nat} {e : TypeId} {v : Value} {xs : List Value} (h : w.ownsRow B e size v n xs) : ∀ g, v.ownBlock = some g → g < w.heap.size := by
  intro g hg
  rcases h.2 with ⟨rfl, _⟩ | ⟨g1, cap, cur, rfl, _, h1, _⟩
  · cases hg
  · have e1 : g1 = g := Option.some.inj hg
    subst e1
    rcases Nat.lt_or_ge g1 w.heap.size with h' | h'
    · exact h'
    · rw [Array.getElem?_eq_none h'] at h1; cases h1
theorem OwnS.shape {B : Nat} {M : List ByteArray} {v : Value} {w : World} (h : OwnS B M v w) (h0 : 0 < M.length) : ∃ g cap, v = .slice (some ⟨g, 0, none⟩) M.length cap ∧ B ≤ g := by
  rcases h.2 with ⟨_, h1⟩ | ⟨g, cap, cur, rfl, hb, _⟩
  · omega
  · exact ⟨g, cap, rfl, hb⟩
theorem OwnS.put2 {B i g n cap : Nat} {M : List ByteArray} {y : ByteArray} {w : World} (h : OwnS B M (.slice (some ⟨g, 0, none⟩) n cap) w) (hi : i < M.length) : w.frozen? ⟨g, i, none⟩ = false ∧ w.cell? ⟨g, i, none⟩ = some (.string M[i]) ∧ OwnS B (M.set i y) (.slice (some ⟨g, 0, none⟩) n cap) (w.setCell ⟨g, i, none⟩ (.string y)) := by
  obtain ⟨g1, cap1, e, _, h2, h3, h4⟩ := OwnS.put (y := y) h hi
  have e1 : g = g1 := by injection e with e _ _; injection e with e; injection e
  have e2 : n = M.length := by injection e
  subst e1
  subst e2
  have h' : w.ownsRow B 9 1 (.slice (some ⟨g, 0, none⟩) M.length cap) M.length (M.map Value.string) := h
  exact ⟨h3, by rw [World.ownsRow.cellAt h' i (by rw [Nat.mul_one]; exact hi), List.getElem?_map, List.getElem?_eq_getElem hi]; rfl, h4⟩
theorem OwnD.shape {B : Nat} {M : List DR} {v : Value} {w : World} (h : OwnD B M v w) : ∃ A c, v = .slice A M.length c := by
  obtain ⟨A, c, e, _⟩ := OwnD.reads h
  exact ⟨A, c, e⟩
/-- What the loop keeps. -/
def SeqR (l : List DR) (s B k : Nat) (v u : Value) (w : World) : Prop := OwnS B (imgS s (wantS (l.take k))) v w ∧ OwnD B (wantS (l.take k)) u w
end Go.Proofs.YtjbhokmkmapkoaaGreatDoor
