/- Contracts and plain words for the laws of this chapter, part 33: K5, K6. No condition. -/
import Derived.Test.YtocgindpjjolpaaGreatDoorG28
import Derived.Test.YtocgindpjjolpaaGreatDoorG20
import Derived.Test.YtocgindpjjolpaaGreatDoorG19
import Derived.Test.YtocgindpjjolpaaGreatDoorG6
namespace Go.Proofs.YtocgindpjjolpaaGreatDoor
set_option linter.unusedSimpArgs false
set_option linter.unusedVariables false
open Go.RowKit
theorem lenP_find {t : Tr} (hv : validB t = true) (p : ByteArray) : lenP t p = (findR t p).1.h.data.size := by
  unfold lenP getT findR
  rw [if_pos hv]
  cases findT t (partsP p) with
  | some x => rfl
  | none => rfl
def placeR (t : Tr) (order : List ByteArray) (start : Int) : List Ext × Int := match placeL t order start [] with
  | some l => (l, 0)
  | none => ([], 12)
set_option maxRecDepth 100000 in
set_option maxHeartbeats 8000000 in
theorem rplace_any (t : Tr) (hvd : validB t = true) (order : List ByteArray) (start : Int) (hsz : t.sz ≤ 120000) (hol : order.length ≤ 100000) (hos : ∀ p ∈ order, p.size ≤ 2000000) (hst : 0 ≤ start ∧ start ≤ 9223372036854775807) (v vo : Value) (w : World) (hv : TreeR w w.heap.size v t) (ho : SlR w w.heap.size vo order) :
    Calls Tryz.prog 58 #[v, vo, .int .i64 start] w fun e w' => ∃ r, e = .returned (.tuple #[r, .int .i64 (placeR t order start).2]) ∧ w'.ownsRow w.heap.size 69 3 r (placeR t order start).1.length (extV (placeR t order start).1) ∧ Below w.heap.size w w' := by
  have GN := hide (fun p hp W hW => rfind_any t p hsz hp v W hW)
  have HLF := hide (fun p => lenP_find hvd p)
  have HOS := hide hos
  obtain ⟨cn, rfl, hzc⟩ := Nd.cells hv
  have HV := hide hv
  have HO := hide ho
  obtain ⟨aO, cO, rfl, -⟩ := ho
  clear hv hos hvd
  have HL : Live w [] := trivial
  go_enter Tryz.func58, Tryz.ntmps58
  go_upto_region 1 with fail
  have HN1 := hide (Nd.new HV.out hzc)
  have hbel1 : Below w.heap.size w (w.alloc (.cells cn 25)) := (Below.refl _ _).alloc (Nat.le_refl _) _
  generalize w.alloc (.cells cn 25) = W1 at *
  obtain ⟨b, hb⟩ : ∃ b, b = w.heap.size := ⟨_, rfl⟩
  rw [← hb] at HN1 ⊢
  clear hb HV hzc
  have HO1 := hide ((HO.out.below hbel1).mono hbel1.size)
  obtain ⟨A', c', ev, hps⟩ := HO1.out
  injection ev with ev1 ev2 ev3
  subst ev1; subst ev3
  have HRD := hide hps
  clear hps HO1 HO
  go_wp2_with fail
  go_loopw [8, 9, 10, 11, 12] (fun ov sv i _ _ wr => ∃ (k : Nat) (a : Int) (out : List Ext), sv = .int .i64 a ∧ i = .int .i64 (k : Int) ∧ k ≤ order.length ∧ 0 ≤ a ∧ a ≤ 9223372036854775807 ∧ out.length = k ∧ placeL t (order.drop k) a out = placeL t order start [] ∧ wr.ownsRow W1.heap.size 69 3 ov out.length (extV out) ∧ Below W1.heap.size W1 wr) (fun _ _ i _ _ _ => order.length - (intOf i).toNat)
  case atStart => exact ⟨0, start, [], rfl, rfl, Nat.zero_le _, by omega, by omega, rfl, rfl, World.ownsRow_nil _ _ _ _, Below.refl _ _⟩
  case round =>
    obtain ⟨k, a, out, rfl, rfl, hk, ha0, ha1, hol2, hpl, hown, hbelr⟩ := hrel
    have HPL := hide hpl
    have HO := hide hown
    have HB := hide hbelr
    have hszr := hbelr.size
    obtain ⟨ao, cap, rfl⟩ := own_slice hown
    have hobd : out.length ≤ 100000 := by omega
    have HOL := hide hol2
    clear hown hbelr hpl hol2
    by_cases hlt : k < order.length
    · obtain ⟨p, hp⟩ : ∃ p, order[k]? = some p := ⟨order[k], List.getElem?_eq_getElem hlt⟩
      obtain ⟨g, o, rfl, hg, hcl⟩ := HRD.out (by omega)
      have c0 : wr.cell? ⟨g, o + k, none⟩ = some (.string p) := (HB.out.cell (p := ⟨g, o + k, none⟩) hg).trans (hcl k p hp)
      have HC0 := hide c0
      have hgl : g < wr.heap.size := by omega
      have hps3 := HOS.out p (List.mem_of_getElem? hp)
      have HNr := hide (HN1.out.below HB.out)
      have RFI := hide (fun W (hW : Below wr.heap.size wr W) => GN.out p hps3 W (HNr.out.2.1.later hW))
      have HST := hide (placeL_step (t := t) hp a out)
      have hln := lenP_le hsz (by decide) p
      have HLE := hide (HLF.out p)
      have hkz2 : Below wr.heap.size wr (wr.alloc (.cells zeroN 25)).drew ∧ True := ⟨((Below.refl wr.heap.size wr).alloc (Nat.le_refl _) _).drew, trivial⟩
      unfold zeroN at hkz2
      have hk0 : Below wr.heap.size wr wr ∧ True := ⟨Below.refl _ _, trivial⟩
      have hk0d : Below wr.heap.size wr wr.drew ∧ True := ⟨(Below.refl wr.heap.size wr).drew, trivial⟩
      clear hcl hp c0
      obtain ⟨x, er, hxe⟩ : ∃ x er, findR t p = (x, er) := ⟨_, _, rfl⟩
      rw [hxe] at RFI HLE
      dsimp only at RFI HLE
      clear hxe
      have hkz : Below wr.heap.size wr (wr.drew.alloc (.cells zeroN 25)) ∧ True := ⟨hk0d.1.alloc hk0d.1.size _, trivial⟩
      unfold zeroN at hkz
      go_upto_region 6 with fail
      go_cut [11, 12] (fun v _ W5 => NodeX wr x v W5)
      case first =>
        refine wp_region_noPanic ?_
        refine wp_region_held_drew (S := (fun z => Below wr.heap.size wr z ∧ True)) (by kernel_rfl) kp (fun hHeld => ?_)
        refine tkZ 0 ⟨some 21, .load 25 (.tmp 3), 25, "ref.go:137", #[], none⟩ ?_ (by intro w hSw; (try dsimp only at hSw); refine (exec_load_row 25 (.tmp 3) (by rfl) b (by rfl) 25 cn (0, 0) _ (Blk.below hSw.1 HNr.out.1) Tryz.underlying25 (by rfl) (infN HNr.out.2.2)).trans ?_; with_reducible rfl)
        refine tkZ 1 ⟨some 22, .move (.tmp 1), 26, "ref.go:137", #[], none⟩ ?_
        refine tkZ 2 ⟨some 23, .move (.tmp 10), 3, "ref.go:137", #[], none⟩ ?_
        refine tkZ 3 ⟨some 24, .indexAddr 26 (.tmp 22) (.tmp 23), 0, "ref.go:137", #[⟨1, .data⟩, ⟨2, .data⟩], none⟩ ?_
        refine tkZ 4 ⟨some 25, .load 9 (.tmp 24), 9, "ref.go:137", #[⟨3, .data⟩], none⟩ ?_ (by intro w hSw; (try dsimp only at hSw); have c1 := (hSw.1.cell (p := ⟨g, o + k, none⟩) hgl).trans HC0.out; go_simp; (try with_reducible rfl))
        refine rqS [5, 9] (rqC ⟨some 26, .call ⟨.value (.func 49), #[.tmp 21, .tmp 25], #[25, 9]⟩, 73, "ref.go:137", #[⟨0, .data⟩, ⟨4, .data⟩], none⟩ (fun K hK => ?_) (rqC ⟨some 11, .alloc 25, 0, "ref.go:137", #[], none⟩ (fun K hK => ?_) rq0))
        focus
          go_simp
          (go_at_call 49; (with_reducible refine (RFI.out _ hHeld.1).mono ?_); rintro e w8 ⟨v8, rfl, hv8, hb8⟩; have HV8 := hide hv8; have hk8 : Below wr.heap.size wr w8 ∧ True := ⟨hHeld.1.trans (hb8.mono hHeld.1.size), trivial⟩; have hk8z : Below wr.heap.size wr (w8.alloc (.cells zeroN 25)) ∧ True := ⟨hk8.1.alloc hk8.1.size _, trivial⟩; unfold zeroN at hk8z; (try have HBz := hide (Blk.below hb8 (show Blk _ wr.heap.size zeroN 25 from Blk.newAt rfl))); clear hv8)
          go_wp2_with fail
          refine hK.out _ _ kp (fun hHeld => ?_)
          clear hK K
          try simp only [PT]
          refine tkZ 6 ⟨some 20, .move (.tmp 26), 73, "ref.go:137", #[⟨5, .data⟩], none⟩ ?_
          refine tkZ 7 ⟨some 27, .extract (.tmp 20) 0, 25, "ref.go:137", #[⟨6, .data⟩], none⟩ ?_
          refine tkZ 8 ⟨some 28, .extract (.tmp 20) 1, 4, "ref.go:137", #[⟨6, .data⟩, ⟨10, .gcOnly .lateStores⟩], none⟩ ?_
          refine rqS [9] (rqC ⟨some 11, .alloc 25, 0, "ref.go:137", #[], none⟩ (fun K hK => ?_) rq0)
          go_simp
          refine hK.out _ _ kp (fun hHeld => ?_)
          clear hK K
          try simp only [PT]
          refine rqS [10] (rqC ⟨none, .store 25 (.tmp 11) (.tmp 27), 0, "ref.go:137", #[⟨9, .data⟩, ⟨7, .data⟩, ⟨5, .chain⟩, ⟨0, .phase⟩, ⟨1, .phase⟩, ⟨2, .phase⟩, ⟨3, .phase⟩, ⟨4, .phase⟩, ⟨5, .phase⟩, ⟨6, .phase⟩, ⟨7, .phase⟩, ⟨8, .textOnly .lateStores⟩, ⟨9, .phase⟩], none⟩ (fun K hK => ?_) rq0)
          obtain ⟨ca, hca, hzca, h1ca⟩ := HV8.out.cells; subst hca; (first | (refine step_store_tree rfl (.tmp 11) (.tmp 27) rfl (.agg ca) _ rfl rfl HV8.out ?_; rintro ca2 e2 - -; injection e2 with e2; subst e2; have hk9 : Below wr.heap.size wr (w8.alloc (.cells ca 25)) ∧ True := ⟨hk8.1.alloc hk8.1.size _, trivial⟩; have HNX := hide (NodeX.of HV8.out (show Blk (w8.alloc (.cells ca 25)) w8.heap.size ca 25 from Blk.newAt rfl) hk9.1 hk8.1.size)) | (refine step_store_rowG rfl 25 (.tmp 11) (.tmp 27) rfl wr.heap.size ca rfl rfl 25 zeroN HBz.out (infN hzca) (by rw [hzca]; rfl) h1ca ?_; have hk9 : Below wr.heap.size wr (w8.setRow wr.heap.size ca) ∧ True := ⟨hk8.1.trans ((FrO.setRow (O := fun j => j = wr.heap.size) rfl).below hk8.1.size (fun j hj => by omega)), trivial⟩; have HNX := hide (NodeX.of HV8.out (setRow_heap _ _ _ _ _ _ HBz.out) hk9.1 (Nat.le_refl _))))
          refine hK.out _ _ kp (fun hHeld => ?_)
          clear hK K
          try simp only [PT]
          refine tkZ 11 ⟨some 12, .assign (.tmp 28), 4, "ref.go:137", #[⟨8, .data⟩, ⟨10, .chain⟩, ⟨0, .phase⟩, ⟨1, .phase⟩, ⟨2, .phase⟩, ⟨3, .phase⟩, ⟨4, .phase⟩, ⟨5, .phase⟩, ⟨6, .phase⟩, ⟨7, .phase⟩, ⟨8, .phase⟩, ⟨9, .phase⟩, ⟨10, .phase⟩], none⟩ ?_
          refine wpAnyH_done (by kernel_rfl) ?_ _
          refine NoPanic.normal ?_
          go_wp2_with fail
          go_meet
          exact HNX.out
        focus
          go_simp
          refine hK.out _ _ kp (fun hHeld => ?_)
          clear hK K
          try simp only [PT]
          refine rqS [5] (rqC ⟨some 26, .call ⟨.value (.func 49), #[.tmp 21, .tmp 25], #[25, 9]⟩, 73, "ref.go:137", #[⟨0, .data⟩, ⟨4, .data⟩], none⟩ (fun K hK => ?_) rq0)
          go_simp
          (go_at_call 49; (with_reducible refine (RFI.out _ hHeld.1).mono ?_); rintro e w8 ⟨v8, rfl, hv8, hb8⟩; have HV8 := hide hv8; have hk8 : Below wr.heap.size wr w8 ∧ True := ⟨hHeld.1.trans (hb8.mono hHeld.1.size), trivial⟩; have hk8z : Below wr.heap.size wr (w8.alloc (.cells zeroN 25)) ∧ True := ⟨hk8.1.alloc hk8.1.size _, trivial⟩; unfold zeroN at hk8z; (try have HBz := hide (Blk.below hb8 (show Blk _ wr.heap.size zeroN 25 from Blk.newAt rfl))); clear hv8)
          go_wp2_with fail
          refine hK.out _ _ kp (fun hHeld => ?_)
          clear hK K
          try simp only [PT]
          refine tkZ 6 ⟨some 20, .move (.tmp 26), 73, "ref.go:137", #[⟨5, .data⟩], none⟩ ?_
          refine tkZ 7 ⟨some 27, .extract (.tmp 20) 0, 25, "ref.go:137", #[⟨6, .data⟩], none⟩ ?_
          refine tkZ 8 ⟨some 28, .extract (.tmp 20) 1, 4, "ref.go:137", #[⟨6, .data⟩, ⟨10, .gcOnly .lateStores⟩], none⟩ ?_
          refine rqS [10] (rqC ⟨none, .store 25 (.tmp 11) (.tmp 27), 0, "ref.go:137", #[⟨9, .data⟩, ⟨7, .data⟩, ⟨5, .chain⟩, ⟨0, .phase⟩, ⟨1, .phase⟩, ⟨2, .phase⟩, ⟨3, .phase⟩, ⟨4, .phase⟩, ⟨5, .phase⟩, ⟨6, .phase⟩, ⟨7, .phase⟩, ⟨8, .textOnly .lateStores⟩, ⟨9, .phase⟩], none⟩ (fun K hK => ?_) rq0)
          obtain ⟨ca, hca, hzca, h1ca⟩ := HV8.out.cells; subst hca; (first | (refine step_store_tree rfl (.tmp 11) (.tmp 27) rfl (.agg ca) _ rfl rfl HV8.out ?_; rintro ca2 e2 - -; injection e2 with e2; subst e2; have hk9 : Below wr.heap.size wr (w8.alloc (.cells ca 25)) ∧ True := ⟨hk8.1.alloc hk8.1.size _, trivial⟩; have HNX := hide (NodeX.of HV8.out (show Blk (w8.alloc (.cells ca 25)) w8.heap.size ca 25 from Blk.newAt rfl) hk9.1 hk8.1.size)) | (refine step_store_rowG rfl 25 (.tmp 11) (.tmp 27) rfl wr.heap.size ca rfl rfl 25 zeroN HBz.out (infN hzca) (by rw [hzca]; rfl) h1ca ?_; have hk9 : Below wr.heap.size wr (w8.setRow wr.heap.size ca) ∧ True := ⟨hk8.1.trans ((FrO.setRow (O := fun j => j = wr.heap.size) rfl).below hk8.1.size (fun j hj => by omega)), trivial⟩; have HNX := hide (NodeX.of HV8.out (setRow_heap _ _ _ _ _ _ HBz.out) hk9.1 (Nat.le_refl _))))
          refine hK.out _ _ kp (fun hHeld => ?_)
          clear hK K
          try simp only [PT]
          refine tkZ 11 ⟨some 12, .assign (.tmp 28), 4, "ref.go:137", #[⟨8, .data⟩, ⟨10, .chain⟩, ⟨0, .phase⟩, ⟨1, .phase⟩, ⟨2, .phase⟩, ⟨3, .phase⟩, ⟨4, .phase⟩, ⟨5, .phase⟩, ⟨6, .phase⟩, ⟨7, .phase⟩, ⟨8, .phase⟩, ⟨9, .phase⟩, ⟨10, .phase⟩], none⟩ ?_
          refine wpAnyH_done (by kernel_rfl) ?_ _
          refine NoPanic.normal ?_
          go_wp2_with fail
          go_meet
          exact HNX.out
      case rest =>
      obtain ⟨b5, A4, c4, A2, c2, rfl, hNB, hb5, hbg⟩ := hcut
      have HNB := hide hNB
      rename World => W5
      clear RFI HNr hk0 hk0d hkz hkz2 hNB
      have d2 := HNB.out.c2
      have hbel5 := HB.out.trans (hb5.mono hszr)
      have HO5 := hide (below_row' HO.out hb5)
      have c5 : W5.cell? ⟨g, o + k, none⟩ = some (.string p) := (hb5.cell (p := ⟨g, o + k, none⟩) hgl).trans HC0.out
      have hno : ∀ j, (Value.slice ao out.length cap).ownBlock = some j → W1.heap.size ≤ j ∧ j < wr.heap.size := fun j hj => ⟨(HO.out.lt j hj).1, (HO.out.lt j hj).2⟩
      have hb5w : b5 < W5.heap.size := HNB.out.blk.lt
      have hgw : g < W5.heap.size := Nat.lt_of_lt_of_le hgl hb5.size
      clear HO hb5 HB HC0
      have hdz : x.h.data.size ≤ 120000 := by rw [← HLE.out]; exact hln
      rw [HLE.out] at HST
      have RBP := hide (fun W => rblocks_any (x.h.data.size : Int) (by omega) W)
      have hbl := blocks_rng (n := (x.h.data.size : Int)) (by omega)
      generalize blocksI (x.h.data.size : Int) = bl at *
      have hw1 : IntKind.i64.wrap (4096 - bl) = 4096 - bl := IntWalk.i64_in _ (by omega)
      by_cases hfull : 4096 - bl < a
      · have HZ2 := hide (show placeR t order start = ([], 12) by unfold placeR; rw [← HPL.out, HST.out, if_pos hfull])
        go_wp2_with (first | (go_at_call 25; (with_reducible refine (RBP.out _).mono ?_); rintro e w' ⟨rfl, rfl⟩))
        go_ret2
        rw [HZ2.out]
        exact ⟨_, rfl, World.ownsRow_nil _ _ _ _, hbel1.trans (hbel5.mono hbel1.size)⟩
      · have hw2 : IntKind.i64.wrap (a + bl) = a + bl := IntWalk.i64_in _ (by omega)
        have HST2 := hide (show placeL t (order.drop (k + 1)) (a + bl) (out ++ [⟨p, a, (x.h.data.size : Int)⟩]) = placeL t order start [] by rw [← HPL.out, HST.out, if_neg hfull])
        go_upto_region 9 with (first | (go_at_call 25; (with_reducible refine (RBP.out _).mono ?_); rintro e w' ⟨rfl, rfl⟩))
        have hS : ∀ z : World, Below W5.heap.size W5 z → ((z.cell? ⟨g, o + k, none⟩ = some (.string p) ∧ z.cell? ⟨b5, 2, none⟩ = some (.string x.h.data)) ∧ True) := fun z hz => ⟨⟨(hz.cell (p := ⟨g, o + k, none⟩) hgw).trans c5, (hz.cell (p := ⟨b5, 2, none⟩) hb5w).trans d2⟩, trivial⟩
        have hka : ((((W5.alloc (.cells #[.string p, .int .i64 a, .int .i64 (x.h.data.size : Int)] 69)).drew).cell? ⟨g, o + k, none⟩ = some (.string p) ∧ ((W5.alloc (.cells #[.string p, .int .i64 a, .int .i64 (x.h.data.size : Int)] 69)).drew).cell? ⟨b5, 2, none⟩ = some (.string x.h.data)) ∧ True) := hS _ ((Below.refl _ _).alloc (Nat.le_refl _) _).drew
        have hk5 : (((W5).cell? ⟨g, o + k, none⟩ = some (.string p) ∧ (W5).cell? ⟨b5, 2, none⟩ = some (.string x.h.data)) ∧ True) := hS _ (Below.refl _ _)
        have hk5d : (((W5.drew).cell? ⟨g, o + k, none⟩ = some (.string p) ∧ (W5.drew).cell? ⟨b5, 2, none⟩ = some (.string x.h.data)) ∧ True) := hS _ (Below.refl _ _).drew
        have hkb : (((W5.drew.alloc (.cells #[.string p, .int .i64 a, .int .i64 (x.h.data.size : Int)] 69)).cell? ⟨g, o + k, none⟩ = some (.string p) ∧ (W5.drew.alloc (.cells #[.string p, .int .i64 a, .int .i64 (x.h.data.size : Int)] 69)).cell? ⟨b5, 2, none⟩ = some (.string x.h.data)) ∧ True) := hS _ ((Below.refl _ _).drew.alloc (by simp only [World.size_drew]; omega) _)
        have HOD := hide (show W5.drew.ownsRow W1.heap.size 69 3 (.slice ao out.length cap) out.length (extV out) from HO5.out)
        refine wp_region_noPanic ?_
        refine wp_region_held_drew (S := (fun z => ((z.cell? ⟨g, o + k, none⟩ = some (.string p) ∧ z.cell? ⟨b5, 2, none⟩ = some (.string x.h.data)) ∧ True))) (by kernel_rfl) kp (fun hHeld => ?_)
        refine tkZ 0 ⟨some 36, .move (.tmp 8), 37, "ref.go:141", #[], none⟩ ?_
        refine tkZ 1 ⟨some 37, .move (.tmp 1), 26, "ref.go:141", #[], none⟩ ?_
        refine tkZ 2 ⟨some 38, .move (.tmp 10), 3, "ref.go:141", #[], none⟩ ?_
        refine tkZ 3 ⟨some 39, .indexAddr 26 (.tmp 37) (.tmp 38), 0, "ref.go:141", #[⟨1, .data⟩, ⟨2, .data⟩], none⟩ ?_
        refine tkZ 4 ⟨some 40, .load 9 (.tmp 39), 9, "ref.go:141", #[⟨3, .data⟩], none⟩ ?_ (by intro w hSw; (try dsimp only at hSw); have c1 := hSw.1.1; go_simp; (try with_reducible rfl))
        refine tkZ 5 ⟨some 41, .move (.tmp 9), 3, "ref.go:141", #[], none⟩ ?_
        refine tkZ 6 ⟨some 42, .fieldAddr 25 (.tmp 11) 2, 0, "ref.go:141", #[], none⟩ ?_
        refine tkZ 7 ⟨some 43, .load 9 (.tmp 42), 9, "ref.go:141", #[⟨6, .data⟩], none⟩ ?_ (by intro w hSw; (try dsimp only at hSw); have c1 := hSw.1.2; go_simp; (try with_reducible rfl))
        refine tkZ 8 ⟨some 44, .call ⟨.builtin .len, #[.tmp 43], #[9]⟩, 3, "ref.go:141", #[⟨7, .data⟩], none⟩ ?_
        refine tkZ 9 ⟨some 45, .build 69 #[(0, .tmp 40), (1, .tmp 41), (2, .tmp 44)], 69, "ref.go:141", #[⟨4, .data⟩, ⟨5, .data⟩, ⟨8, .data⟩], none⟩ ?_
        refine rqS [10] (rqC ⟨some 46, .buildSlice 37 1 #[(0, .tmp 45)], 37, "ref.go:141", #[⟨9, .data⟩], none⟩ (fun K hK => ?_) rq0)
        go_simp
        refine hK.out _ _ kp (fun hHeld => ?_)
        clear hK K
        try simp only [PT]
        refine rqS [11] (rqC ⟨some 47, .call ⟨.builtin .append, #[.tmp 36, .tmp 46], #[37, 37]⟩, 37, "ref.go:141", #[⟨0, .data⟩, ⟨10, .data⟩], none⟩ (fun K hK => ?_) rq0)
        refine step_append_rows _ (by rfl) _ _ 37 (by rfl) W1.heap.size 69 fileInfo Tryz.underlying37 (by rfl) (by decide) (.slice ao out.length cap) _ _ (HOD.out.alloc _) ⟨W5.drew.heap.size, 0, none⟩ 1 1 (extC ⟨p, a, (x.h.data.size : Int)⟩) (by rfl) (by rfl) (by rfl) (by intro j u hu; rw [Addr.add_lit, Nat.zero_add]; exact (Blk.cells (show Blk (W5.drew.alloc (.cells #[.string p, .int .i64 a, .int .i64 (x.h.data.size : Int)] 69)) W5.drew.heap.size #[.string p, .int .i64 a, .int .i64 (x.h.data.size : Int)] 69 from Blk.newAt rfl) j).trans (by rw [← Array.getElem?_toList]; exact hu)) (by intro u hu; simp only [extC, List.mem_cons, List.not_mem_nil, or_false] at hu; rcases hu with rfl | rfl | rfl <;> rfl) (by unfold maxLen; omega) (by omega) (by have := hbel5.size; simp only [World.size_drew, World.size_alloc]; omega) ?_; intro v9 w9 hown9 hnb9 hg9; have hkeep9 : (((w9).cell? ⟨g, o + k, none⟩ = some (.string p) ∧ (w9).cell? ⟨b5, 2, none⟩ = some (.string x.h.data)) ∧ True) := ⟨⟨(World.cell?_of_block (hg9.block g (by simp only [World.size_drew, World.size_alloc]; omega) (fun e => by have := hno g e.symm; omega))).trans hkb.1.1, (World.cell?_of_block (hg9.block b5 (by simp only [World.size_drew, World.size_alloc]; omega) (fun e => by have := hno b5 e.symm; omega))).trans hkb.1.2⟩, trivial⟩
        refine hK.out _ _ kp (fun hHeld => ?_)
        clear hK K
        try simp only [PT]
        refine tkZ 12 ⟨some 8, .assign (.tmp 47), 37, "ref.go:141", #[⟨11, .data⟩, ⟨11, .chain⟩, ⟨0, .phase⟩, ⟨1, .phase⟩, ⟨2, .phase⟩, ⟨3, .phase⟩, ⟨4, .phase⟩, ⟨5, .phase⟩, ⟨6, .phase⟩, ⟨7, .phase⟩, ⟨8, .phase⟩, ⟨9, .phase⟩, ⟨10, .phase⟩, ⟨11, .phase⟩], none⟩ ?_
        refine wpAnyH_done (by kernel_rfl) ?_ _
        refine NoPanic.normal ?_
        have HK9 := hide hkeep9.1.2
        have hb9 : Below W1.heap.size W1 w9 := ((hbel5.drew).alloc (by have := hbel5.size; simp only [World.size_drew]; omega) (.cells #[.string p, .int .i64 a, .int .i64 (x.h.data.size : Int)] 69)).grown hg9 (by have := hbel5.size; simp only [World.size_drew, World.size_alloc]; omega) (fun j hj => (HO5.out.lt j hj).1)
        have c2 := HK9.out
        clear hka hk5 hk5d hkb hkeep9 hS hg9 hnb9 d2
        go_wp2_with (first | (go_at_call 25; (with_reducible refine (RBP.out _).mono ?_); rintro e w' ⟨rfl, rfl⟩))
        go_roundw
        (case rel => exact ⟨k + 1, a + bl, out ++ [⟨p, a, (x.h.data.size : Int)⟩], by go_num, by go_num, by omega, by omega, by omega, by rw [List.length_append, HOL.out]; rfl, HST2.out, by rw [List.length_append]; exact (show extV out ++ extC ⟨p, a, (x.h.data.size : Int)⟩ = extV (out ++ [⟨p, a, (x.h.data.size : Int)⟩]) by unfold extV; rw [List.flatMap_append]; rfl) ▸ hown9, hb9⟩)
        (case measure => simp [intOf]; omega)
    · obtain rfl : k = order.length := by omega
      have HZ2 := hide (show placeR t order start = (out, 0) by
        unfold placeR; rw [← HPL.out, List.drop_length, placeL])
      go_wp2_with fail
      go_ret2
      rw [HZ2.out]
      exact ⟨_, rfl, own_base HO.out hbel1.size, hbel1.trans (HB.out.mono hbel1.size)⟩
def CapS (v : Value) (l : List ByteArray) : Prop := ∃ A c, v = .slice A l.length c ∧ l.length ≤ c
theorem SlR.take {w : World} {B g o c k : Nat} {l : List ByteArray} (hg : g < B) (hk : k ≤ l.length) (h : ∀ j s, l[j]? = some s → w.cell? ⟨g, o + j, none⟩ = some (.string s)) : SlR w B (.slice (some ⟨g, o, none⟩) k c) (l.take k) := by
  have e : (l.take k).length = k := by rw [List.length_take]; omega
  refine ⟨some ⟨g, o, none⟩, c, by rw [e], fun _ => ⟨g, o, rfl, hg, fun j s hj => h j s ?_⟩⟩
  have hjk : j < k := by have := (List.getElem?_eq_some_iff.1 hj).1; rwa [e] at this
  rwa [List.getElem?_take_of_lt hjk] at hj
theorem sameB_of {l m : List ByteArray} : sameB l m = true ↔ l.length = m.length ∧ (∀ p ∈ l, hasS m p = true) ∧ l.Nodup := by
  unfold sameB
  rw [Bool.and_eq_true, Bool.and_eq_true, decide_eq_true_iff, List.all_eq_true, nodB_iff, and_assoc]
theorem placeT_R {t : Tr} {o : List ByteArray} {s : Int} (hv : validB t = true) (hs : 0 ≤ s) (h : sameB o (filesT t) = true) : placeT t o s = placeR t o s := by
  unfold placeT placeR
  rw [if_pos ⟨hv, hs, h⟩]
  cases placeL t o s [] <;> rfl
set_option maxRecDepth 100000 in
set_option maxHeartbeats 8000000 in
theorem rPlace_any (t : Tr) (order : List ByteArray) (start : Int) (hsz : t.sz ≤ 120000) (hol : order.length ≤ 100000) (hos : ∀ p ∈ order, p.size ≤ 2000000) (hst : -9223372036854775808 ≤ start ∧ start ≤ 9223372036854775807) (v vo : Value) (w : World) (hv : TreeR w w.heap.size v t) (ho : SlR w w.heap.size vo order) (hcp : CapS vo order) :
    Calls Tryz.prog 23 #[v, vo, .int .i64 start] w fun e w' => ∃ r, e = .returned (.tuple #[r, .int .i64 (placeT t order start).2]) ∧ w'.ownsRow w.heap.size 69 3 r (placeT t order start).1.length (extV (placeT t order start).1) ∧ Below w.heap.size w w' := by
  have FN := hide (fun W hW => rfiles_any t hsz v W hW)
  have VN := hide (fun W hW => rvalid_any t (Or.inl hsz) v W hW)
  have PN := hide (fun (hvd : validB t = true) (h0 : 0 ≤ start) W hW hO => rplace_any t hvd order start hsz hol hos ⟨h0, hst.2⟩ v vo W hW hO)
  have hfl : (filesT t).length ≤ 6000 := by have h1 := files_len t; have h2 := t.count_sz; omega
  obtain ⟨cn, rfl, hzc⟩ := Nd.cells hv
  have HV := hide hv
  have HO := hide ho
  obtain ⟨aO, cO, rfl, -⟩ := ho
  have hcap : order.length ≤ cO := by
    obtain ⟨A, c, e, h⟩ := hcp
    injection e with e1 e2 e3
    rw [e3]
    exact h
  clear hv hos hcp
  have HL : Live w [] := trivial
  go_enter Tryz.func23, Tryz.ntmps23
  go_upto_region 1 with fail
  have HN1 := hide (Nd.new HV.out hzc)
  have hbel1 : Below w.heap.size w (w.alloc (.cells cn 25)) := (Below.refl _ _).alloc (Nat.le_refl _) _
  generalize w.alloc (.cells cn 25) = W1 at *
  obtain ⟨b, hb⟩ : ∃ b, b = w.heap.size := ⟨_, rfl⟩
  rw [← hb] at HN1 ⊢
  clear hb HV hzc
  have HO1 := hide ((HO.out.below hbel1).mono hbel1.size)
  clear HO
  go_upto_region 2 with (first | ((with_reducible show wpList _ _ _ (Oper.mk (some 10) _ _ _ _ _ :: _) _ _); refine wpList_load_row rfl 25 (.tmp 3) rfl b rfl 25 cn (0, 0) _ HN1.out.1 Tryz.underlying25 rfl (infN HN1.out.2.2) ?_) | (go_at_call 17; refine (FN.out _ HN1.out.2.1).mono ?_; rintro e w3 ⟨r3, rfl, hr3, hb3⟩; have HFS := hide (SlR.of hr3); obtain ⟨A3, c3, e3⟩ := own_slice hr3; subst e3))
  have HN3 := hide (HN1.out.below hb3)
  have HO3 := hide (HO1.out.later2 hb3)
  have hbel3 := hbel1.trans (hb3.mono hbel1.size)
  clear HO1 HN1 hr3 hb3 FN
  have VV := hide (VN.out w3 HN3.out.2.1)
  clear VN
  cases hvd : validB t with
  | false =>
    have HZ := hide (placeT_no (o := order) (s := start) (fun h : validB t = true ∧ 0 ≤ start ∧ sameB order (filesT t) = true => by rw [hvd] at h; exact absurd h.1 (by decide)))
    rw [hvd] at VV
    clear hvd
    go_wp2_with (first | ((with_reducible show wpList _ _ _ (Oper.mk (some 12) _ _ _ _ _ :: _) _ _); refine wpList_load_row rfl 25 (.tmp 3) rfl b rfl 25 cn (0, 0) _ HN3.out.1 Tryz.underlying25 rfl (infN HN3.out.2.2) ?_) | (go_at_call 31; refine VV.out.mono ?_; rintro e w4 ⟨rfl, hb4⟩))
    go_ret2
    rw [HZ.out]
    exact ⟨_, rfl, World.ownsRow_nil _ _ _ _, hbel3.trans (hb4.mono hbel3.size)⟩
  | true =>
  have PN2 := hide (PN.out hvd)
  rw [hvd] at VV
  by_cases hlen : order.length = (filesT t).length
  case neg =>
    have HZ := hide (placeT_no (t := t) (o := order) (s := start) (fun h => hlen (sameB_of.1 h.2.2).1))
    have q1 : ((order.length : Int) != ((filesT t).length : Int)) = true := by simp; omega
    clear hlen hvd
    go_wp2_with (first | ((with_reducible show wpList _ _ _ (Oper.mk (some 12) _ _ _ _ _ :: _) _ _); refine wpList_load_row rfl 25 (.tmp 3) rfl b rfl 25 cn (0, 0) _ HN3.out.1 Tryz.underlying25 rfl (infN HN3.out.2.2) ?_) | (go_at_call 31; refine VV.out.mono ?_; rintro e w4 ⟨rfl, hb4⟩))
    go_ret2
    rw [HZ.out]
    exact ⟨_, rfl, World.ownsRow_nil _ _ _ _, hbel3.trans (hb4.mono hbel3.size)⟩
  case pos =>
  have HLEN := hide hlen
  have q1 : ((order.length : Int) != ((filesT t).length : Int)) = false := by simp; omega
  by_cases hs0 : start < 0
  case pos =>
    have HZ := hide (placeT_no (t := t) (o := order) (s := start) (fun h => by omega))
    clear hlen hvd
    go_wp2_with (first | ((with_reducible show wpList _ _ _ (Oper.mk (some 12) _ _ _ _ _ :: _) _ _); refine wpList_load_row rfl 25 (.tmp 3) rfl b rfl 25 cn (0, 0) _ HN3.out.1 Tryz.underlying25 rfl (infN HN3.out.2.2) ?_) | (go_at_call 31; refine VV.out.mono ?_; rintro e w4 ⟨rfl, hb4⟩))
    go_ret2
    rw [HZ.out]
    exact ⟨_, rfl, World.ownsRow_nil _ _ _ _, hbel3.trans (hb4.mono hbel3.size)⟩
  case neg =>
  have HVD := hide hvd
  have PN3 := hide (PN2.out (by omega))
  clear hlen hvd PN PN2
  go_upto_region 4 with (first | ((with_reducible show wpList _ _ _ (Oper.mk (some 12) _ _ _ _ _ :: _) _ _); refine wpList_load_row rfl 25 (.tmp 3) rfl b rfl 25 cn (0, 0) _ HN3.out.1 Tryz.underlying25 rfl (infN HN3.out.2.2) ?_) | (go_at_call 31; refine VV.out.mono ?_; rintro e w4 ⟨rfl, hb4⟩))
  have HN4 := hide (HN3.out.below hb4)
  have HO4 := hide (HO3.out.later2 hb4)
  have HFS4 := hide (HFS.out.later2 hb4)
  have hbel4 := hbel3.trans (hb4.mono hbel3.size)
  clear HN3 HO3 HFS hb4 VV
  obtain ⟨A', c', ev, hps⟩ := HO4.out
  injection ev with ev1 ev2 ev3
  subst ev1; subst ev3
  have HRD := hide hps
  clear hps
  go_wp2_with fail
  go_loopw [9] (fun i wr => ∃ k : Nat, i = .int .i64 (k : Int) ∧ k ≤ order.length ∧ (∀ p ∈ order.take k, hasS (filesT t) p = true) ∧ (order.take k).Nodup ∧ Below w4.heap.size w4 wr) (fun i _ => order.length - (intOf i).toNat)
  case atStart => exact ⟨0, rfl, Nat.zero_le _, fun p hp => absurd hp (by simp), by simp, Below.refl _ _⟩
  case round =>
    obtain ⟨k, rfl, hk, hall, hnd, hbelr⟩ := hrel
    have HALL := hide hall
    have HND := hide hnd
    have HB := hide hbelr
    have hszr := hbelr.size
    clear hall hnd hbelr
    by_cases hlt : k < order.length
    · obtain ⟨p, hp⟩ : ∃ p, order[k]? = some p := ⟨order[k], List.getElem?_eq_getElem hlt⟩
      obtain ⟨g, o, rfl, hg, hcl⟩ := HRD.out (by omega)
      have HC0 := hide ((HB.out.cell (p := ⟨g, o + k, none⟩) hg).trans (hcl k p hp))
      have hgl : g < wr.heap.size := by omega
      have HMEM := hide (List.mem_of_getElem? hp)
      have HTK := hide (show order.take (k + 1) = order.take k ++ [p] by rw [List.take_add_one, hp]; rfl)
      have hk0 : Below wr.heap.size wr wr ∧ True := ⟨Below.refl _ _, trivial⟩
      have hk0d : Below wr.heap.size wr wr.drew ∧ True := ⟨(Below.refl wr.heap.size wr).drew, trivial⟩
      have HAP := hide (fun W (hW : Below wr.heap.size wr W) => has_any (filesT t) p (.slice A3 (filesT t).length c3) _ (by omega) W ((HFS4.out.later2 HB.out).below hW))
      have HAQ := hide (fun W (hW : Below wr.heap.size wr W) => has_any (order.take k) p (.slice (some ⟨g, o, none⟩) k cO) _ (by rw [List.length_take]; omega) W (SlR.take (B := wr.heap.size) hgl (by omega) (fun j s hj => ((HB.out.trans (hW.mono hszr)).cell (p := ⟨g, o + j, none⟩) hg).trans (hcl j s hj))))
      clear hcl hp
      go_upto_region 7 with fail
      cases h1 : hasS (filesT t) p with
      | false =>
        have HZ := hide (placeT_no (t := t) (o := order) (s := start) (fun h => by have := (sameB_of.1 h.2.2).2.1 p HMEM.out; rw [h1] at this; exact absurd this (by decide)))
        rw [h1] at HAP
        clear h1 HAQ
        refine wp_region_noPanic ?_
        refine wp_region_held_drew (S := (fun z => Below wr.heap.size wr z ∧ True)) (by kernel_rfl) kp (fun hHeld => ?_)
        refine tkZ 0 ⟨some 32, .move (.tmp 8), 26, "ref.go:125", #[], none⟩ ?_
        refine tkZ 1 ⟨some 33, .move (.tmp 1), 26, "ref.go:125", #[], none⟩ ?_
        refine tkZ 2 ⟨some 34, .move (.tmp 9), 3, "ref.go:125", #[], none⟩ ?_
        refine tkZ 3 ⟨some 35, .indexAddr 26 (.tmp 33) (.tmp 34), 0, "ref.go:125", #[⟨1, .data⟩, ⟨2, .data⟩], none⟩ ?_
        refine tkZ 4 ⟨some 36, .load 9 (.tmp 35), 9, "ref.go:125", #[⟨3, .data⟩], none⟩ ?_ (by intro w hSw; (try dsimp only at hSw); have c1 := (hSw.1.cell (p := ⟨g, o + k, none⟩) hgl).trans HC0.out; go_simp; (try with_reducible rfl))
        refine rqS [5] (rqC ⟨some 37, .call ⟨.value (.func 55), #[.tmp 32, .tmp 36], #[26, 9]⟩, 4, "ref.go:125", #[⟨0, .data⟩, ⟨4, .data⟩], none⟩ (fun K hK => ?_) rq0)
        go_simp
        (go_at_call 55; (with_reducible refine (HAP.out _ hHeld.1).mono ?_); rintro e w8 ⟨rfl, hw8⟩; have hk8 : Below wr.heap.size wr w8 ∧ True := ⟨by rw [← hw8]; exact hHeld.1, trivial⟩)
        go_wp2_with fail
        refine hK.out _ _ kp (fun hHeld => ?_)
        clear hK K
        try simp only [PT]
        refine tkZ 6 ⟨some 38, .unOp .not 4 (.tmp 37), 4, "ref.go:125", #[⟨5, .data⟩], none⟩ ?_
        refine tkZ 7 ⟨some 39, .move (.tmp 38), 4, "ref.go:125", #[⟨6, .data⟩, ⟨5, .chain⟩], none⟩ ?_
        refine tkM 8 ⟨some 40, .move (.tmp 1), 26, "ref.go:125", #[⟨7, .guard⟩], some (7, false)⟩ ?_
        refine tkM 9 ⟨some 41, .move (.tmp 9), 3, "ref.go:125", #[⟨7, .guard⟩], some (7, false)⟩ ?_
        refine tkM 10 ⟨some 42, .slice 26 (.tmp 40) none (some (.tmp 41)) none, 26, "ref.go:125", #[⟨8, .data⟩, ⟨9, .data⟩, ⟨7, .guard⟩], some (7, false)⟩ ?_
        refine tkM 11 ⟨some 43, .move (.tmp 1), 26, "ref.go:125", #[⟨7, .guard⟩], some (7, false)⟩ ?_
        refine tkM 12 ⟨some 44, .move (.tmp 9), 3, "ref.go:125", #[⟨7, .guard⟩], some (7, false)⟩ ?_
        refine tkM 13 ⟨some 45, .indexAddr 26 (.tmp 43) (.tmp 44), 0, "ref.go:125", #[⟨11, .data⟩, ⟨12, .data⟩, ⟨7, .guard⟩], some (7, false)⟩ ?_
        refine tkM 14 ⟨some 46, .load 9 (.tmp 45), 9, "ref.go:125", #[⟨13, .data⟩, ⟨7, .guard⟩], some (7, false)⟩ ?_
        refine tkM 15 ⟨some 47, .call ⟨.value (.func 55), #[.tmp 42, .tmp 46], #[26, 9]⟩, 4, "ref.go:125", #[⟨10, .data⟩, ⟨14, .data⟩, ⟨7, .chain⟩, ⟨7, .guard⟩], some (7, false)⟩ ?_
        refine tkZ 16 ⟨some 48, .pick (.tmp 39) (.const (.bool true)) (.tmp 47), 4, "ref.go:125", #[⟨7, .data⟩, ⟨15, .data⟩], none⟩ ?_
        refine wpAnyH_done (by kernel_rfl) ?_ _
        refine NoPanic.normal ?_
        subst hw8
        go_wp2_with fail
        go_ret2
        rw [HZ.out]
        exact ⟨_, rfl, World.ownsRow_nil _ _ _ _, hbel4.trans ((HB.out.trans (hk0d.1.mono hszr)).mono hbel4.size)⟩
      | true =>
      rw [h1] at HAP
      cases h2 : hasS (order.take k) p with
      | true =>
        have HZ := hide (placeT_no (t := t) (o := order) (s := start) (fun h => by
          have h3 := (sameB_of.1 h.2.2).2.2
          have h4 : (order.take (k + 1)).Nodup := h3.sublist (List.take_sublist _ _)
          rw [HTK.out, List.nodup_append] at h4
          exact h4.2.2 p (hasS_iff.1 h2) p (by simp) rfl))
        rw [h2] at HAQ
        clear h1 h2
        refine wp_region_noPanic ?_
        refine wp_region_held_drew (S := (fun z => Below wr.heap.size wr z ∧ True)) (by kernel_rfl) kp (fun hHeld => ?_)
        refine tkZ 0 ⟨some 32, .move (.tmp 8), 26, "ref.go:125", #[], none⟩ ?_
        refine tkZ 1 ⟨some 33, .move (.tmp 1), 26, "ref.go:125", #[], none⟩ ?_
        refine tkZ 2 ⟨some 34, .move (.tmp 9), 3, "ref.go:125", #[], none⟩ ?_
        refine tkZ 3 ⟨some 35, .indexAddr 26 (.tmp 33) (.tmp 34), 0, "ref.go:125", #[⟨1, .data⟩, ⟨2, .data⟩], none⟩ ?_
        refine tkZ 4 ⟨some 36, .load 9 (.tmp 35), 9, "ref.go:125", #[⟨3, .data⟩], none⟩ ?_ (by intro w hSw; (try dsimp only at hSw); have c1 := (hSw.1.cell (p := ⟨g, o + k, none⟩) hgl).trans HC0.out; go_simp; (try with_reducible rfl))
        refine rqS [5] (rqC ⟨some 37, .call ⟨.value (.func 55), #[.tmp 32, .tmp 36], #[26, 9]⟩, 4, "ref.go:125", #[⟨0, .data⟩, ⟨4, .data⟩], none⟩ (fun K hK => ?_) rq0)
        go_simp
        (first | (go_at_call 55; (with_reducible refine (HAP.out _ hHeld.1).mono ?_); rintro e w8 ⟨rfl, hw8⟩; have hk8 : Below wr.heap.size wr w8 ∧ True := ⟨by rw [← hw8]; exact hHeld.1, trivial⟩) | (go_at_call 55; (with_reducible refine (HAQ.out _ hHeld.1).mono ?_); rintro e w9 ⟨rfl, hw9⟩; have hk9 : Below wr.heap.size wr w9 ∧ True := ⟨by rw [← hw9]; exact hHeld.1, trivial⟩))
        go_wp2_with fail
        refine hK.out _ _ kp (fun hHeld => ?_)
        clear hK K
        try simp only [PT]
        refine tkZ 6 ⟨some 38, .unOp .not 4 (.tmp 37), 4, "ref.go:125", #[⟨5, .data⟩], none⟩ ?_
        refine tkZ 7 ⟨some 39, .move (.tmp 38), 4, "ref.go:125", #[⟨6, .data⟩, ⟨5, .chain⟩], none⟩ ?_
        refine tkZ 8 ⟨some 40, .move (.tmp 1), 26, "ref.go:125", #[⟨7, .guard⟩], some (7, false)⟩ ?_
        refine tkZ 9 ⟨some 41, .move (.tmp 9), 3, "ref.go:125", #[⟨7, .guard⟩], some (7, false)⟩ ?_
        refine tkZ 10 ⟨some 42, .slice 26 (.tmp 40) none (some (.tmp 41)) none, 26, "ref.go:125", #[⟨8, .data⟩, ⟨9, .data⟩, ⟨7, .guard⟩], some (7, false)⟩ ?_ (by intro w hSw; (try dsimp only at hSw); go_simp; rw [if_pos (show k ≤ cO by omega)])
        refine tkZ 11 ⟨some 43, .move (.tmp 1), 26, "ref.go:125", #[⟨7, .guard⟩], some (7, false)⟩ ?_
        refine tkZ 12 ⟨some 44, .move (.tmp 9), 3, "ref.go:125", #[⟨7, .guard⟩], some (7, false)⟩ ?_
        refine tkZ 13 ⟨some 45, .indexAddr 26 (.tmp 43) (.tmp 44), 0, "ref.go:125", #[⟨11, .data⟩, ⟨12, .data⟩, ⟨7, .guard⟩], some (7, false)⟩ ?_
        refine tkZ 14 ⟨some 46, .load 9 (.tmp 45), 9, "ref.go:125", #[⟨13, .data⟩, ⟨7, .guard⟩], some (7, false)⟩ ?_ (by intro w hSw; (try dsimp only at hSw); have c1 := (hSw.1.cell (p := ⟨g, o + k, none⟩) hgl).trans HC0.out; go_simp; (try with_reducible rfl))
        refine rqS [15] (rqC ⟨some 47, .call ⟨.value (.func 55), #[.tmp 42, .tmp 46], #[26, 9]⟩, 4, "ref.go:125", #[⟨10, .data⟩, ⟨14, .data⟩, ⟨7, .chain⟩, ⟨7, .guard⟩], some (7, false)⟩ (fun K hK => ?_) rq0)
        go_simp
        (first | (go_at_call 55; (with_reducible refine (HAP.out _ hHeld.1).mono ?_); rintro e w8 ⟨rfl, hw8⟩; have hk8 : Below wr.heap.size wr w8 ∧ True := ⟨by rw [← hw8]; exact hHeld.1, trivial⟩) | (go_at_call 55; (with_reducible refine (HAQ.out _ hHeld.1).mono ?_); rintro e w9 ⟨rfl, hw9⟩; have hk9 : Below wr.heap.size wr w9 ∧ True := ⟨by rw [← hw9]; exact hHeld.1, trivial⟩))
        go_wp2_with fail
        refine hK.out _ _ kp (fun hHeld => ?_)
        clear hK K
        try simp only [PT]
        refine tkZ 16 ⟨some 48, .pick (.tmp 39) (.const (.bool true)) (.tmp 47), 4, "ref.go:125", #[⟨7, .data⟩, ⟨15, .data⟩], none⟩ ?_
        refine wpAnyH_done (by kernel_rfl) ?_ _
        refine NoPanic.normal ?_
        subst hw8; subst hw9
        go_wp2_with fail
        go_ret2
        rw [HZ.out]
        exact ⟨_, rfl, World.ownsRow_nil _ _ _ _, hbel4.trans ((HB.out.trans (hk0d.1.mono hszr)).mono hbel4.size)⟩
      | false =>
        have HA2 := hide (show ∀ q ∈ order.take (k + 1), hasS (filesT t) q = true by
          intro q hq
          rw [HTK.out] at hq
          rcases List.mem_append.1 hq with h3 | h3
          · exact HALL.out q h3
          · rw [List.mem_singleton] at h3
            rw [h3]; exact h1)
        have HN2 := hide (show (order.take (k + 1)).Nodup by
          rw [HTK.out, List.nodup_append]
          exact ⟨HND.out, by simp, fun a ha b hb e => hasS_no.1 h2 (by rw [List.mem_singleton] at hb; rw [← hb, ← e]; exact ha)⟩)
        rw [h2] at HAQ
        clear h1 h2
        refine wp_region_noPanic ?_
        refine wp_region_held_drew (S := (fun z => Below wr.heap.size wr z ∧ True)) (by kernel_rfl) kp (fun hHeld => ?_)
        refine tkZ 0 ⟨some 32, .move (.tmp 8), 26, "ref.go:125", #[], none⟩ ?_
        refine tkZ 1 ⟨some 33, .move (.tmp 1), 26, "ref.go:125", #[], none⟩ ?_
        refine tkZ 2 ⟨some 34, .move (.tmp 9), 3, "ref.go:125", #[], none⟩ ?_
        refine tkZ 3 ⟨some 35, .indexAddr 26 (.tmp 33) (.tmp 34), 0, "ref.go:125", #[⟨1, .data⟩, ⟨2, .data⟩], none⟩ ?_
        refine tkZ 4 ⟨some 36, .load 9 (.tmp 35), 9, "ref.go:125", #[⟨3, .data⟩], none⟩ ?_ (by intro w hSw; (try dsimp only at hSw); have c1 := (hSw.1.cell (p := ⟨g, o + k, none⟩) hgl).trans HC0.out; go_simp; (try with_reducible rfl))
        refine rqS [5] (rqC ⟨some 37, .call ⟨.value (.func 55), #[.tmp 32, .tmp 36], #[26, 9]⟩, 4, "ref.go:125", #[⟨0, .data⟩, ⟨4, .data⟩], none⟩ (fun K hK => ?_) rq0)
        go_simp
        (first | (go_at_call 55; (with_reducible refine (HAP.out _ hHeld.1).mono ?_); rintro e w8 ⟨rfl, hw8⟩; have hk8 : Below wr.heap.size wr w8 ∧ True := ⟨by rw [← hw8]; exact hHeld.1, trivial⟩) | (go_at_call 55; (with_reducible refine (HAQ.out _ hHeld.1).mono ?_); rintro e w9 ⟨rfl, hw9⟩; have hk9 : Below wr.heap.size wr w9 ∧ True := ⟨by rw [← hw9]; exact hHeld.1, trivial⟩))
        go_wp2_with fail
        refine hK.out _ _ kp (fun hHeld => ?_)
        clear hK K
        try simp only [PT]
        refine tkZ 6 ⟨some 38, .unOp .not 4 (.tmp 37), 4, "ref.go:125", #[⟨5, .data⟩], none⟩ ?_
        refine tkZ 7 ⟨some 39, .move (.tmp 38), 4, "ref.go:125", #[⟨6, .data⟩, ⟨5, .chain⟩], none⟩ ?_
        refine tkZ 8 ⟨some 40, .move (.tmp 1), 26, "ref.go:125", #[⟨7, .guard⟩], some (7, false)⟩ ?_
        refine tkZ 9 ⟨some 41, .move (.tmp 9), 3, "ref.go:125", #[⟨7, .guard⟩], some (7, false)⟩ ?_
        refine tkZ 10 ⟨some 42, .slice 26 (.tmp 40) none (some (.tmp 41)) none, 26, "ref.go:125", #[⟨8, .data⟩, ⟨9, .data⟩, ⟨7, .guard⟩], some (7, false)⟩ ?_ (by intro w hSw; (try dsimp only at hSw); go_simp; rw [if_pos (show k ≤ cO by omega)])
        refine tkZ 11 ⟨some 43, .move (.tmp 1), 26, "ref.go:125", #[⟨7, .guard⟩], some (7, false)⟩ ?_
        refine tkZ 12 ⟨some 44, .move (.tmp 9), 3, "ref.go:125", #[⟨7, .guard⟩], some (7, false)⟩ ?_
        refine tkZ 13 ⟨some 45, .indexAddr 26 (.tmp 43) (.tmp 44), 0, "ref.go:125", #[⟨11, .data⟩, ⟨12, .data⟩, ⟨7, .guard⟩], some (7, false)⟩ ?_
        refine tkZ 14 ⟨some 46, .load 9 (.tmp 45), 9, "ref.go:125", #[⟨13, .data⟩, ⟨7, .guard⟩], some (7, false)⟩ ?_ (by intro w hSw; (try dsimp only at hSw); have c1 := (hSw.1.cell (p := ⟨g, o + k, none⟩) hgl).trans HC0.out; go_simp; (try with_reducible rfl))
        refine rqS [15] (rqC ⟨some 47, .call ⟨.value (.func 55), #[.tmp 42, .tmp 46], #[26, 9]⟩, 4, "ref.go:125", #[⟨10, .data⟩, ⟨14, .data⟩, ⟨7, .chain⟩, ⟨7, .guard⟩], some (7, false)⟩ (fun K hK => ?_) rq0)
        go_simp
        (first | (go_at_call 55; (with_reducible refine (HAP.out _ hHeld.1).mono ?_); rintro e w8 ⟨rfl, hw8⟩; have hk8 : Below wr.heap.size wr w8 ∧ True := ⟨by rw [← hw8]; exact hHeld.1, trivial⟩) | (go_at_call 55; (with_reducible refine (HAQ.out _ hHeld.1).mono ?_); rintro e w9 ⟨rfl, hw9⟩; have hk9 : Below wr.heap.size wr w9 ∧ True := ⟨by rw [← hw9]; exact hHeld.1, trivial⟩))
        go_wp2_with fail
        refine hK.out _ _ kp (fun hHeld => ?_)
        clear hK K
        try simp only [PT]
        refine tkZ 16 ⟨some 48, .pick (.tmp 39) (.const (.bool true)) (.tmp 47), 4, "ref.go:125", #[⟨7, .data⟩, ⟨15, .data⟩], none⟩ ?_
        refine wpAnyH_done (by kernel_rfl) ?_ _
        refine NoPanic.normal ?_
        subst hw8; subst hw9
        go_wp2_with fail
        go_roundw
        case rel => exact ⟨k + 1, by go_num, by omega, HA2.out, HN2.out, HB.out.trans (hk0d.1.mono hszr)⟩
        case measure => simp [intOf]; omega
    · obtain rfl : k = order.length := by omega
      have hA := HALL.out
      have hN := HND.out
      rw [List.take_length] at hA hN
      have HZ := hide (placeT_R (s := start) HVD.out (by omega) (sameB_of.2 ⟨HLEN.out, hA, hN⟩))
      have PP := hide (PN3.out wr (HN4.out.below HB.out).2.1 (HO4.out.later2 HB.out))
      have HNr := hide (HN4.out.below HB.out)
      clear hA hN HALL HND PN3
      go_wp2_with (first | ((with_reducible show wpList _ _ _ (Oper.mk (some 49) _ _ _ _ _ :: _) _ _); refine wpList_load_row rfl 25 (.tmp 3) rfl b rfl 25 cn (0, 0) _ HNr.out.1 Tryz.underlying25 rfl (infN HNr.out.2.2) ?_) | (go_at_call 58; refine PP.out.mono ?_; rintro e w7 ⟨r7, rfl, hr7, hb7⟩))
      go_ret2
      rw [HZ.out]
      exact ⟨_, rfl, own_base hr7 (Nat.le_trans hbel4.size hszr), hbel4.trans ((HB.out.trans (hb7.mono hszr)).mono hbel4.size)⟩
end Go.Proofs.YtocgindpjjolpaaGreatDoor
