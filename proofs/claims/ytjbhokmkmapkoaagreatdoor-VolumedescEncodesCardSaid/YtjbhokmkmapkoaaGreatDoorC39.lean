/- Contracts and plain words for the laws of volume descriptors, part 39: O7. No condition. -/
import Derived.Test.YtjbhokmkmapkoaaGreatDoorC38
import Derived.Test.YtjbhokmkmapkoaaGreatDoorC10
namespace Go.Proofs.YtjbhokmkmapkoaaGreatDoor
set_option linter.unusedSimpArgs false
set_option linter.unusedVariables false
open Go.RowKit
open Go.PlainAid (bt get_bt bt_nonneg bt_le bt_end)
theorem ext_l {a : ByteArray} {l : List UInt8} (h : a.data.toList = l) : a = ⟨l.toArray⟩ := by
  apply ByteArray.ext
  apply Array.toList_inj.1
  rw [h]
theorem rb255 {d : DR} (ht : d.typ = 255) : (⟨#[UInt8.ofNat d.typ.toNat]⟩ : ByteArray) ++ ⟨#[67, 68, 48, 48, 49, 1]⟩ ++ ⟨(zr 2041).toArray⟩ = ⟨(encD d).toArray⟩ := by
  apply ext_l
  unfold encD
  rw [if_neg (by omega), if_pos ht]
  simp only [ByteArray.data_append, Array.toList_append]
  unfold segsT
  simp only [List.flatten_cons, List.flatten_nil, List.append_nil, List.append_assoc]
  rfl
theorem rb0 {d : DR} (ht : d.typ = 0) : (⟨#[UInt8.ofNat d.typ.toNat]⟩ : ByteArray) ++ ⟨#[67, 68, 48, 48, 49, 1]⟩ ++ ⟨#[69, 76, 32, 84, 79, 82, 73, 84, 79, 32, 83, 80, 69, 67, 73, 70, 73, 67, 65, 84, 73, 79, 78]⟩ ++ ⟨(zr 41).toArray⟩ ++ ⟨(l4 d.cat).toArray⟩ ++ ⟨(zr 1973).toArray⟩ = ⟨(encD d).toArray⟩ := by
  apply ext_l
  unfold encD
  rw [if_pos ht]
  simp only [ByteArray.data_append, Array.toList_append]
  unfold segsB
  simp only [List.flatten_cons, List.flatten_nil, List.append_nil, List.append_assoc]
  rfl
theorem fld_call (d : DR) (s : ByteArray) (n : Nat) (m : Int) (hm : m = n) (st : Bool) (hs : s.size ≤ 65536) (hn : n ≤ 2048) (hok : okB s n st (wide d) = true) : ∃ x : ByteArray, x = ⟨(fldL (wide d) s n).toArray⟩ ∧ x.size = n ∧ ∀ W, Calls Tryz.prog 44 #[.string s, .bool (wide d), .int .i64 m] W fun e w' => e = .returned (.string x) ∧ Below W.heap.size W w' :=
  ⟨_, rfl, by show (fldL (wide d) s n).toArray.size = _; rw [List.size_toArray, fld_len hok], fun W => by rw [hm]; exact rfield23 s n st (wide d) hs hn hok W⟩
theorem z_call (n : Nat) (m : Int) (hm : m = n) (hn : n ≤ 65536) : ∃ x : ByteArray, x = ⟨(zr n).toArray⟩ ∧ x.size = n ∧ ∀ W, Calls Tryz.prog 39 #[.int .u8 0, .int .i64 m] W fun e w' => e = .returned (.string x) ∧ Below W.heap.size W w' :=
  ⟨_, rfl, by show (zr n).toArray.size = _; rw [List.size_toArray, zr_len], fun W => by rw [hm]; exact zrep_any n hn W⟩
theorem w4_call (n : Int) (h : 0 ≤ n ∧ n ≤ 4294967295) : ∃ x : ByteArray, x = ⟨(both4 n).toArray⟩ ∧ x.size = 8 ∧ ∀ W, Calls Tryz.prog 45 #[.int .i64 n, .int .i64 4] W fun e w' => e = .returned (.string x) ∧ Below W.heap.size W w' :=
  ⟨_, rfl, rfl, fun W => rboth23_4 n h W⟩
theorem w2_call (n : Int) (h : 0 ≤ n ∧ n ≤ 65535) : ∃ x : ByteArray, x = ⟨(both2 n).toArray⟩ ∧ x.size = 4 ∧ ∀ W, Calls Tryz.prog 45 #[.int .i64 n, .int .i64 2] W fun e w' => e = .returned (.string x) ∧ Below W.heap.size W w' :=
  ⟨_, rfl, rfl, fun W => rboth23_2 n h W⟩
theorem rl_call (n : Int) (h : 0 ≤ n ∧ n ≤ 4294967295) : ∃ x : ByteArray, x = ⟨(l4 n).toArray⟩ ∧ x.size = 4 ∧ ∀ W, Calls Tryz.prog 40 #[.int .i64 n, .int .i64 4] W fun e w' => e = .returned (.tuple #[.string x, .int .i64 0]) ∧ Below W.heap.size W w' :=
  ⟨_, rfl, rfl, fun W => rlittle4 n h W⟩
theorem rbg_call (n : Int) (h : 0 ≤ n ∧ n ≤ 4294967295) : ∃ x : ByteArray, x = ⟨(b4 n).toArray⟩ ∧ x.size = 4 ∧ ∀ W, Calls Tryz.prog 41 #[.int .i64 n, .int .i64 4] W fun e w' => e = .returned (.tuple #[.string x, .int .i64 0]) ∧ Below W.heap.size W w' :=
  ⟨_, rfl, rfl, fun W => rbig4 n h W⟩
theorem rroot_call (d : DR) (hi : d.root.id = selfS) (hu : d.root.use = ⟨#[]⟩) (he : recE d.root = 0) : ∃ x : ByteArray, x = ⟨(encR d.root).toArray⟩ ∧ x.size = 34 ∧ ∀ W, Calls Tryz.prog 42 #[.agg d.root.cells] W fun e w' => e = .returned (.tuple #[.string x, .int .i64 0]) ∧ Below W.heap.size W w' :=
  ⟨_, rfl, by show (encR d.root).toArray.size = _; rw [List.size_toArray, encR_len hi hu he], fun W => by
    have h := rdirEnc_any d.root hi hu W
    have hes : encRS d.root = ⟨(encR d.root).toArray⟩ := by unfold encRS; rw [if_pos he]
    rw [hes, he] at h
    exact h⟩
theorem rtime_call (d : DR) (h1 : tmB d.time = true) (h2 : zoneB d.zone = true) : ∃ x : ByteArray, x = desT2 d.time d.zone ∧ x.size = 17 ∧ ∀ W, Calls Tryz.prog 43 #[.int .i64 d.time, .int .i64 d.zone] W fun e w' => e = .returned (.tuple #[.string x, .int .i64 0]) ∧ Below W.heap.size W w' :=
  ⟨_, rfl, desT2_size h1 h2, fun W => rdesT_yes d.time d.zone (by rw [h1, h2]; rfl) W⟩
set_option maxRecDepth 100000 in
set_option maxHeartbeats 8000000 in
theorem renc_any (d : DR) (hsh : ShortD d) (w : World) : Calls Tryz.prog 14 #[.agg d.cells] w fun e w' => e = .returned (.tuple #[.string (encDS d), .int .i64 (chkD d)]) ∧ Below w.heap.size w w' := by
  have CHK := hide (fun W => rcheck_any d hsh W)
  have HL : Live w [] := trivial
  go_enter Tryz.func14, Tryz.ntmps14
  go_upto_region 1 with fail
  have hB1 : Blk (w.alloc (.cells d.cells 27)) w.heap.size d.cells 27 := Blk.newAt rfl
  have hbel1 : Below w.heap.size w (w.alloc (.cells d.cells 27)) := by (exact bl)
  generalize w.alloc (.cells d.cells 27) = W1 at *
  go_upto_region 2 with (first | (refine wpList_load_row rfl 27 (.tmp 1) rfl w.heap.size rfl 27 d.cells (0, 0) _ hB1 Tryz.underlying27 rfl (by as_aux_lemma => kernel_rfl) ?_) | (go_at_call 16; refine (CHK.out _).mono ?_; rintro e w2 ⟨rfl, hb2⟩))
  have hB2 := Blk.below hb2 hB1
  have hbel2 := hbel1.trans (hb2.mono hbel1.size)
  clear hB1 hb2 hbel1
  by_cases hc : chkD d = 0
  case neg =>
    have ED := hide (encDS_no hc)
    have qc : (chkD d != 0) = true := by simpa using hc
    clear hc
    go_wp2_with fail
    go_ret2
    exact ⟨ret2_sb ED.out.symm rfl, hbel2⟩
  case pos =>
  have HC := hide hc
  have ED := hide (encDS_ok hc)
  rw [hc]
  clear hc
  have hlt2 := hB2.lt
  have hty := chkD_typ HC.out
  have ht5 : 0 ≤ d.typ ∧ d.typ ≤ 255 := by omega
  have ut : IntKind.u8.wrap d.typ = d.typ := IntWalk.u8_in _ ht5
  have um : d.typ % 256 = d.typ := by omega
  have HTY := hide hty
  have hdd := Dat.of hB2
  unfold Dat at hdd
  have cv := conv_lit 48 9 5 Tryz.underlying48 Tryz.underlying5 Tryz.underlying9 w2 5 [d.typ] #[.int .u8 d.typ] rfl 1 1 rfl
  clear hty ht5
  go_upto_region 5 with fail
  have hB : Blk (w2.alloc (.cells #[.int .u8 d.typ] 5)) w.heap.size d.cells 27 := hB2.alloc _
  have hbel : Below w.heap.size w (w2.alloc (.cells #[.int .u8 d.typ] 5)) := hbel2.alloc hbel2.size _
  generalize w2.alloc (.cells #[.int .u8 d.typ] 5) = W3 at *
  clear hdd cv ut um hB2 hbel2 hlt2
  obtain ⟨h7, eh7⟩ : ∃ h7, h7 = (⟨#[UInt8.ofNat d.typ.toNat]⟩ : ByteArray) ++ ⟨#[67, 68, 48, 48, 49, 1]⟩ := ⟨_, rfl⟩
  have sh7 : h7.size = 7 := by rw [eh7]; rfl
  rw [← eh7]
  have EH := hide eh7
  clear eh7
  have hlt3 := hB.lt
  have hdd := Dat.of hB
  unfold Dat at hdd
  have HL : Live W3 [w.heap.size] := ⟨hlt3, trivial⟩
  rcases HTY.out with ht | ht | ht
  · -- a boot record
    obtain ⟨xcat, excat, sxcat, Fcat0⟩ := rl_call d.cat (cat_of HC.out ht)
    have Fcat := hide Fcat0
    have EXcat := hide excat
    clear Fcat0 excat
    obtain ⟨xz41, exz41, sxz41, Fz410⟩ := z_call 41 41 rfl (by omega)
    have Fz41 := hide Fz410
    have EXz41 := hide exz41
    clear Fz410 exz41
    obtain ⟨xz1973, exz1973, sxz1973, Fz19730⟩ := z_call 1973 1973 rfl (by omega)
    have Fz1973 := hide Fz19730
    have EXz1973 := hide exz1973
    clear Fz19730 exz1973
    have EF := hide (show encDS d = h7 ++ ⟨#[69, 76, 32, 84, 79, 82, 73, 84, 79, 32, 83, 80, 69, 67, 73, 70, 73, 67, 65, 84, 73, 79, 78]⟩ ++ xz41 ++ xcat ++ xz1973 from by rw [ED.out, ← rb0 ht, EH.out, EXz41.out, EXcat.out, EXz1973.out])
    have q0 : (d.typ == 0) = true := by simpa using ht
    have q3 : (d.typ == 255) = false := by rw [ht]; rfl
    clear ht
    have s23 : (⟨#[69, 76, 32, 84, 79, 82, 73, 84, 79, 32, 83, 80, 69, 67, 73, 70, 73, 67, 65, 84, 73, 79, 78]⟩ : ByteArray).size = 23 := rfl
    go_wp2_with (first | (go_at_call 40; (with_reducible refine (Fcat.out _).mono ?_); rintro e w' ⟨rfl, hb⟩; have hz := hb.size; (try simp only [SZ, Nat.reduceAdd] at hz); (first | obtain ⟨HL, hk⟩ := HL.callA hb hz | obtain ⟨HL, hk⟩ := HL.call0A hb hz); (try simp only [addN, Nat.add_zero] at HL hk); have hl := HL; simp only [Live] at hl; (try simp only [Kept] at hk)) | (go_at_call 39; (with_reducible refine (Fz41.out _).mono ?_); rintro e w' ⟨rfl, hb⟩; have hz := hb.size; (try simp only [SZ, Nat.reduceAdd] at hz); (first | obtain ⟨HL, hk⟩ := HL.callA hb hz | obtain ⟨HL, hk⟩ := HL.call0A hb hz); (try simp only [addN, Nat.add_zero] at HL hk); have hl := HL; simp only [Live] at hl; (try simp only [Kept] at hk)) | (go_at_call 39; (with_reducible refine (Fz1973.out _).mono ?_); rintro e w' ⟨rfl, hb⟩; have hz := hb.size; (try simp only [SZ, Nat.reduceAdd] at hz); (first | obtain ⟨HL, hk⟩ := HL.callA hb hz | obtain ⟨HL, hk⟩ := HL.call0A hb hz); (try simp only [addN, Nat.add_zero] at HL hk); have hl := HL; simp only [Live] at hl; (try simp only [Kept] at hk)))
    go_ret2
    exact ⟨ret2_sb EF.out.symm HC.out.symm, by (exact bl)⟩
  · -- a terminator
    obtain ⟨xz2041, exz2041, sxz2041, Fz20410⟩ := z_call 2041 2041 rfl (by omega)
    have Fz2041 := hide Fz20410
    have EXz2041 := hide exz2041
    clear Fz20410 exz2041
    have EF := hide (show encDS d = h7 ++ xz2041 from by rw [ED.out, ← rb255 ht, EH.out, EXz2041.out])
    have q3 : (d.typ == 255) = true := by simpa using ht
    clear ht
    go_wp2_with (first | (go_at_call 39; (with_reducible refine (Fz2041.out _).mono ?_); rintro e w' ⟨rfl, hb⟩; have hz := hb.size; (try simp only [SZ, Nat.reduceAdd] at hz); (first | obtain ⟨HL, hk⟩ := HL.callA hb hz | obtain ⟨HL, hk⟩ := HL.call0A hb hz); (try simp only [addN, Nat.add_zero] at HL hk); have hl := HL; simp only [Live] at hl; (try simp only [Kept] at hk)))
    go_ret2
    exact ⟨ret2_sb EF.out.symm HC.out.symm, by (exact bl)⟩
  · have HT := hide ht
    obtain ⟨-, hnm, hri, hru, hrr, htm, hzz, hre⟩ := chkD_prim HC.out ht
    obtain ⟨r1, r2, r3, r4, r5, r6⟩ := ranges_of hrr
    have hnames := names_of hnm
    have q0 : (d.typ == 0) = false := by rcases ht with h | h <;> rw [h] <;> rfl
    have q3 : (d.typ == 255) = false := by rcases ht with h | h <;> rw [h] <;> rfl
    have q2 : (d.typ == 2) = wide d := rfl
    obtain ⟨n1, n2, n3, n4, n5⟩ := hnames
    have hs0 := hsh.1 0 (by omega)
    have hs1 := hsh.1 1 (by omega)
    have hs2 := hsh.1 2 (by omega)
    have hs3 := hsh.1 3 (by omega)
    have hs4 := hsh.1 4 (by omega)
    simp only [fTx] at hs0 hs1 hs2 hs3 hs4
    obtain ⟨xe32, exe32, sxe32, Fe320⟩ := fld_call d ⟨#[]⟩ 32 32 rfl true (by decide) (by omega) (ok_nil 32 true (wide d))
    have Fe32 := hide Fe320
    have EXe32 := hide exe32
    clear Fe320 exe32
    obtain ⟨xnm, exnm, sxnm, Fnm0⟩ := fld_call d d.name 32 32 rfl true (by omega) (by omega) n1
    have Fnm := hide Fnm0
    have EXnm := hide exnm
    clear Fnm0 exnm
    obtain ⟨xset, exset, sxset, Fset0⟩ := fld_call d d.set 128 128 rfl true (by omega) (by omega) n2
    have Fset := hide Fset0
    have EXset := hide exset
    clear Fset0 exset
    obtain ⟨xpub, expub, sxpub, Fpub0⟩ := fld_call d d.pub 128 128 rfl false (by omega) (by omega) n3
    have Fpub := hide Fpub0
    have EXpub := hide expub
    clear Fpub0 expub
    obtain ⟨xprep, exprep, sxprep, Fprep0⟩ := fld_call d d.prep 128 128 rfl false (by omega) (by omega) n4
    have Fprep := hide Fprep0
    have EXprep := hide exprep
    clear Fprep0 exprep
    obtain ⟨xapp, exapp, sxapp, Fapp0⟩ := fld_call d d.app 128 128 rfl false (by omega) (by omega) n5
    have Fapp := hide Fapp0
    have EXapp := hide exapp
    clear Fapp0 exapp
    obtain ⟨xe37, exe37, sxe37, Fe370⟩ := fld_call d ⟨#[]⟩ 37 37 rfl true (by decide) (by omega) (ok_nil 37 true (wide d))
    have Fe37 := hide Fe370
    have EXe37 := hide exe37
    clear Fe370 exe37
    obtain ⟨xz8, exz8, sxz8, Fz80⟩ := z_call 8 8 rfl (by omega)
    have Fz8 := hide Fz80
    have EXz8 := hide exz8
    clear Fz80 exz8
    obtain ⟨xz29, exz29, sxz29, Fz290⟩ := z_call 29 29 rfl (by omega)
    have Fz29 := hide Fz290
    have EXz29 := hide exz29
    clear Fz290 exz29
    obtain ⟨xz4, exz4, sxz4, Fz40⟩ := z_call 4 4 rfl (by omega)
    have Fz4 := hide Fz40
    have EXz4 := hide exz4
    clear Fz40 exz4
    obtain ⟨xz1166, exz1166, sxz1166, Fz11660⟩ := z_call 1166 1166 rfl (by omega)
    have Fz1166 := hide Fz11660
    have EXz1166 := hide exz1166
    clear Fz11660 exz1166
    obtain ⟨xsp, exsp, sxsp, Fsp0⟩ := w4_call d.space r1
    have Fsp := hide Fsp0
    have EXsp := hide exsp
    clear Fsp0 exsp
    obtain ⟨xps, exps, sxps, Fps0⟩ := w4_call d.psize r2
    have Fps := hide Fps0
    have EXps := hide exps
    clear Fps0 exps
    obtain ⟨xdi, exdi, sxdi, Fdi0⟩ := w2_call d.discs r5
    have Fdi := hide Fdi0
    have EXdi := hide exdi
    clear Fdi0 exdi
    obtain ⟨xnu, exnu, sxnu, Fnu0⟩ := w2_call d.number r6
    have Fnu := hide Fnu0
    have EXnu := hide exnu
    clear Fnu0 exnu
    obtain ⟨xbk, exbk, sxbk, Fbk0⟩ := w2_call 2048 (by omega)
    have Fbk := hide Fbk0
    have EXbk := hide exbk
    clear Fbk0 exbk
    obtain ⟨xl, exl, sxl, Fl0⟩ := rl_call d.pl r3
    have Fl := hide Fl0
    have EXl := hide exl
    clear Fl0 exl
    obtain ⟨xm, exm, sxm, Fm0⟩ := rbg_call d.pm r4
    have Fm := hide Fm0
    have EXm := hide exm
    clear Fm0 exm
    obtain ⟨xr, exr, sxr, Fr0⟩ := rroot_call d hri hru hre
    have Fr := hide Fr0
    have EXr := hide exr
    clear Fr0 exr
    obtain ⟨xt, ext, sxt, Ft0⟩ := rtime_call d htm hzz
    have Ft := hide Ft0
    have EXt := hide ext
    clear Ft0 ext
    clear hnm hri hru hrr htm hzz hre n1 n2 n3 n4 n5 hs0 hs1 hs2 hs3 hs4 r1 r2 r3 r4 r5 r6 ht
    go_upto_if 56 with fail
    obtain ⟨es, ees⟩ : ∃ es : ByteArray, es = ⟨(escL d).toArray⟩ := ⟨_, rfl⟩
    have ses : es.size = 3 := by rw [ees]; show (escL d).toArray.size = _; rw [List.size_toArray]; unfold escL; split <;> rfl
    have EES := hide ees
    go_cut [8, 9, 56] (fun a v _ wx => a = .bool (wide d) ∧ v = .string es ∧ W3 = wx)
    case first =>
      cases hw : wide d
      case false =>
        have e3 : es = ⟨#[0, 0, 0]⟩ := by rw [ees]; unfold escL; unfold wide at hw; rw [if_neg (of_decide_eq_false hw)]
        have E3 := hide e3
        have HW := hide hw
        clear hw ees e3
        go_wp2_with fail
        go_meet
        exact ⟨by rw [HW.out], by rw [E3.out], rfl⟩
      case true =>
        have e3 : es = ⟨#[37, 47, 69]⟩ := by rw [ees]; unfold escL; unfold wide at hw; rw [if_pos (of_decide_eq_true hw)]
        have E3 := hide e3
        have HW := hide hw
        clear hw ees e3
        go_wp2_with fail
        go_meet
        exact ⟨by rw [HW.out], by rw [E3.out], rfl⟩
    case rest =>
    obtain ⟨rfl, rfl, rfl⟩ := hcut
    clear ees
    clear hlt3 HL
    go_upto_region 16 with (go_at_call 40; refine (Fl.out _).mono ?_; rintro e v1 ⟨rfl, hv1⟩)
    have hB1 := Blk.below hv1 hB
    have hbel1 := hbel.trans (hv1.mono hbel.size)
    clear hdd hB hv1
    have hdd := Dat.of hB1
    unfold Dat at hdd
    go_upto_region 17 with (go_at_call 41; refine (Fm.out _).mono ?_; rintro e v2 ⟨rfl, hv2⟩)
    have hB2 := Blk.below hv2 hB1
    have hbel2 := hbel1.trans (hv2.mono hbel1.size)
    clear hdd hB1 hv2
    have hdd := Dat.of hB2
    unfold Dat at hdd
    go_upto_region 18 with (go_at_call 42; refine (Fr.out _).mono ?_; rintro e v3 ⟨rfl, hv3⟩)
    have hB3 := Blk.below hv3 hB2
    have hbel3 := hbel2.trans (hv3.mono hbel2.size)
    clear hdd hB2 hv3
    have hdd := Dat.of hB3
    unfold Dat at hdd
    go_upto_region 19 with (go_at_call 43; refine (Ft.out _).mono ?_; rintro e v4 ⟨rfl, hv4⟩)
    have hB4 := Blk.below hv4 hB3
    have hbel4 := hbel3.trans (hv4.mono hbel3.size)
    clear hdd hB3 hv4
    have hdd := Dat.of hB4
    unfold Dat at hdd
    go_upto_region 20 with (go_at_call 39; refine (Fz4.out _).mono ?_; rintro e v5 ⟨rfl, hv5⟩)
    have hB5 := Blk.below hv5 hB4
    have hbel5 := hbel4.trans (hv5.mono hbel4.size)
    clear hdd hB4 hv5
    have hdd := Dat.of hB5
    unfold Dat at hdd
    clear hdd
    have c1 : (⟨#[0]⟩ : ByteArray).size = 1 := rfl
    refine' region_linzF (RL := LV _ :: LV _ :: LV _ :: LV _ :: LV _ :: LV _ :: LV _ :: LV _ :: LV _ :: LV _ :: LV _ :: LV _ :: LV _ :: LV _ :: LV _ :: LV _ :: LV _ :: LV _ :: LV _ :: LV _ :: LV _ :: LV _ :: []) (by kernel_rfl) (by kernel_rfl) ?main
    case main =>
      refine ⟨fun u => ?_, ?_, ?_, ?_⟩
      · simp only [putsL, Act.put, List.setIfInBounds_toArray, List.set_cons_zero, List.set_cons_succ, Nat.reduceAdd]
        rfl
      · repeat (first | exact LAll.nil | refine LAll.cons (by first | exact LV.st _ | exact LB.st _ _ _ | exact LP.st _ _ | exact LT.st) ?_)
      · refine LinZsF.cons (fun u wx hbx hd hu K hK => ?_) ?_
        · have q21 : u 21 = .string h7 := hu.out 21 (by kernel_rfl)
          (have hdx := Dat.of (Blk.below hbx hB5); unfold Dat at hdx)
          go_simp
          refine hK.out _ _ (by simp only [PT, q21]; rfl) bl lvC
        refine LinZsF.cons (fun u wx hbx hd hu K hK => ?_) ?_
        · have e0 : u 0 = _ := (show LV _ (u 0) wx from hd.out 0 (by kernel_rfl))
          (have hdx := Dat.of (Blk.below hbx hB5); unfold Dat at hdx)
          go_simp
          refine hK.out _ _ (by simp only [PT, e0]; rfl) bl lvC
        refine LinZsF.cons (fun u wx hbx hd hu K hK => ?_) ?_
        · (have hdx := Dat.of (Blk.below hbx hB5); unfold Dat at hdx)
          go_simp
          refine hK.out _ _ (by simp only [PT]; rfl) bl lvC
        refine LinZsF.cons (fun u wx hbx hd hu K hK => ?_) ?_
        · have e2 : u 2 = _ := (show LV _ (u 2) wx from hd.out 2 (by kernel_rfl))
          (have hdx := Dat.of (Blk.below hbx hB5); unfold Dat at hdx)
          go_simp
          (first | (go_at_call 44; (with_reducible refine (Fe32.out _).mono ?_); rintro e w' ⟨rfl, hb⟩) | (go_at_call 44; (with_reducible refine (Fnm.out _).mono ?_); rintro e w' ⟨rfl, hb⟩) | (go_at_call 39; (with_reducible refine (Fz8.out _).mono ?_); rintro e w' ⟨rfl, hb⟩) | (go_at_call 45; (with_reducible refine (Fsp.out _).mono ?_); rintro e w' ⟨rfl, hb⟩) | (go_at_call 39; (with_reducible refine (Fz29.out _).mono ?_); rintro e w' ⟨rfl, hb⟩))
          go_wp2_with fail
          refine hK.out _ _ (by simp only [PT, e2]; rfl) bl lvC
        refine LinZsF.cons (fun u wx hbx hd hu K hK => ?_) ?_
        · have e1 : u 1 = _ := (show LV _ (u 1) wx from hd.out 1 (by kernel_rfl))
          have e3 : u 3 = _ := (show LV _ (u 3) wx from hd.out 3 (by kernel_rfl))
          (have hdx := Dat.of (Blk.below hbx hB5); unfold Dat at hdx)
          go_simp
          refine hK.out _ _ (by simp only [PT, e1, e3]; rfl) bl lvC
        refine LinZsF.cons (fun u wx hbx hd hu K hK => ?_) ?_
        · (have hdx := Dat.of (Blk.below hbx hB5); unfold Dat at hdx)
          go_simp
          refine hK.out _ _ (by simp only [PT]; rfl) bl lvC
        refine LinZsF.cons (fun u wx hbx hd hu K hK => ?_) ?_
        · have e5 : u 5 = _ := (show LV _ (u 5) wx from hd.out 5 (by kernel_rfl))
          (have hdx := Dat.of (Blk.below hbx hB5); unfold Dat at hdx)
          go_simp
          refine hK.out _ _ (by simp only [PT, e5]; rfl) bl lvC
        refine LinZsF.cons (fun u wx hbx hd hu K hK => ?_) ?_
        · have e6 : u 6 = _ := (show LV _ (u 6) wx from hd.out 6 (by kernel_rfl))
          (have hdx := Dat.of (Blk.below hbx hB5); unfold Dat at hdx)
          go_simp
          refine hK.out _ _ (by simp only [PT, e6]; rfl) bl lvC
        refine LinZsF.cons (fun u wx hbx hd hu K hK => ?_) ?_
        · (have hdx := Dat.of (Blk.below hbx hB5); unfold Dat at hdx)
          go_simp
          refine hK.out _ _ (by simp only [PT]; rfl) bl lvC
        refine LinZsF.cons (fun u wx hbx hd hu K hK => ?_) ?_
        · have e3 : u 3 = _ := (show LV _ (u 3) wx from hd.out 3 (by kernel_rfl))
          have e7 : u 7 = _ := (show LV _ (u 7) wx from hd.out 7 (by kernel_rfl))
          have e8 : u 8 = _ := (show LV _ (u 8) wx from hd.out 8 (by kernel_rfl))
          (have hdx := Dat.of (Blk.below hbx hB5); unfold Dat at hdx)
          go_simp
          (first | (go_at_call 44; (with_reducible refine (Fe32.out _).mono ?_); rintro e w' ⟨rfl, hb⟩) | (go_at_call 44; (with_reducible refine (Fnm.out _).mono ?_); rintro e w' ⟨rfl, hb⟩))
          go_wp2_with fail
          refine hK.out _ _ (by simp only [PT, e3, e7, e8]; rfl) bl lvC
        refine LinZsF.cons (fun u wx hbx hd hu K hK => ?_) ?_
        · have e4 : u 4 = _ := (show LV _ (u 4) wx from hd.out 4 (by kernel_rfl))
          have e9 : u 9 = _ := (show LV _ (u 9) wx from hd.out 9 (by kernel_rfl))
          (have hdx := Dat.of (Blk.below hbx hB5); unfold Dat at hdx)
          go_simp
          refine hK.out _ _ (by simp only [PT, e4, e9]; rfl) bl lvC
        refine LinZsF.cons (fun u wx hbx hd hu K hK => ?_) ?_
        · have e9 : u 9 = _ := (show LV _ (u 9) wx from hd.out 9 (by kernel_rfl))
          (have hdx := Dat.of (Blk.below hbx hB5); unfold Dat at hdx)
          go_simp
          (first | (go_at_call 39; (with_reducible refine (Fz8.out _).mono ?_); rintro e w' ⟨rfl, hb⟩) | (go_at_call 39; (with_reducible refine (Fz29.out _).mono ?_); rintro e w' ⟨rfl, hb⟩))
          go_wp2_with fail
          refine hK.out _ _ (by simp only [PT, e9]; rfl) bl lvC
        refine LinZsF.cons (fun u wx hbx hd hu K hK => ?_) ?_
        · have e10 : u 10 = _ := (show LV _ (u 10) wx from hd.out 10 (by kernel_rfl))
          have e11 : u 11 = _ := (show LV _ (u 11) wx from hd.out 11 (by kernel_rfl))
          (have hdx := Dat.of (Blk.below hbx hB5); unfold Dat at hdx)
          go_simp
          refine hK.out _ _ (by simp only [PT, e10, e11]; rfl) bl lvC
        refine LinZsF.cons (fun u wx hbx hd hu K hK => ?_) ?_
        · (have hdx := Dat.of (Blk.below hbx hB5); unfold Dat at hdx)
          go_simp
          refine hK.out _ _ (by simp only [PT]; rfl) bl lvC
        refine LinZsF.cons (fun u wx hbx hd hu K hK => ?_) ?_
        · have e13 : u 13 = _ := (show LV _ (u 13) wx from hd.out 13 (by kernel_rfl))
          (have hdx := Dat.of (Blk.below hbx hB5); unfold Dat at hdx)
          go_simp
          refine hK.out _ _ (by simp only [PT, e13]; rfl) bl lvC
        refine LinZsF.cons (fun u wx hbx hd hu K hK => ?_) ?_
        · have e11 : u 11 = _ := (show LV _ (u 11) wx from hd.out 11 (by kernel_rfl))
          have e14 : u 14 = _ := (show LV _ (u 14) wx from hd.out 14 (by kernel_rfl))
          (have hdx := Dat.of (Blk.below hbx hB5); unfold Dat at hdx)
          go_simp
          (go_at_call 45; (with_reducible refine (Fsp.out _).mono ?_); rintro e w' ⟨rfl, hb⟩)
          go_wp2_with fail
          refine hK.out _ _ (by simp only [PT, e11, e14]; rfl) bl lvC
        refine LinZsF.cons (fun u wx hbx hd hu K hK => ?_) ?_
        · have e12 : u 12 = _ := (show LV _ (u 12) wx from hd.out 12 (by kernel_rfl))
          have e15 : u 15 = _ := (show LV _ (u 15) wx from hd.out 15 (by kernel_rfl))
          (have hdx := Dat.of (Blk.below hbx hB5); unfold Dat at hdx)
          go_simp
          refine hK.out _ _ (by simp only [PT, e12, e15]; rfl) bl lvC
        refine LinZsF.cons (fun u wx hbx hd hu K hK => ?_) ?_
        · (have hdx := Dat.of (Blk.below hbx hB5); unfold Dat at hdx)
          go_simp
          refine hK.out _ _ (by simp only [PT]; rfl) bl lvC
        refine LinZsF.cons (fun u wx hbx hd hu K hK => ?_) ?_
        · have e16 : u 16 = _ := (show LV _ (u 16) wx from hd.out 16 (by kernel_rfl))
          have e17 : u 17 = _ := (show LV _ (u 17) wx from hd.out 17 (by kernel_rfl))
          (have hdx := Dat.of (Blk.below hbx hB5); unfold Dat at hdx)
          go_simp
          refine hK.out _ _ (by simp only [PT, e16, e17]; rfl) bl lvC
        refine LinZsF.cons (fun u wx hbx hd hu K hK => ?_) ?_
        · have e15 : u 15 = _ := (show LV _ (u 15) wx from hd.out 15 (by kernel_rfl))
          (have hdx := Dat.of (Blk.below hbx hB5); unfold Dat at hdx)
          go_simp
          (first | (go_at_call 39; (with_reducible refine (Fz8.out _).mono ?_); rintro e w' ⟨rfl, hb⟩) | (go_at_call 39; (with_reducible refine (Fz29.out _).mono ?_); rintro e w' ⟨rfl, hb⟩))
          go_wp2_with fail
          refine hK.out _ _ (by simp only [PT, e15]; rfl) bl lvC
        refine LinZsF.cons (fun u wx hbx hd hu K hK => ?_) ?_
        · have e18 : u 18 = _ := (show LV _ (u 18) wx from hd.out 18 (by kernel_rfl))
          have e19 : u 19 = _ := (show LV _ (u 19) wx from hd.out 19 (by kernel_rfl))
          (have hdx := Dat.of (Blk.below hbx hB5); unfold Dat at hdx)
          go_simp
          refine hK.out _ _ (by simp only [PT, e18, e19]; rfl) bl lvC
        refine LinZsF.cons (fun u wx hbx hd hu K hK => ?_) ?_
        · have e0 : u 0 = _ := (show LV _ (u 0) wx from hd.out 0 (by kernel_rfl))
          have e1 : u 1 = _ := (show LV _ (u 1) wx from hd.out 1 (by kernel_rfl))
          have e2 : u 2 = _ := (show LV _ (u 2) wx from hd.out 2 (by kernel_rfl))
          have e3 : u 3 = _ := (show LV _ (u 3) wx from hd.out 3 (by kernel_rfl))
          have e4 : u 4 = _ := (show LV _ (u 4) wx from hd.out 4 (by kernel_rfl))
          have e5 : u 5 = _ := (show LV _ (u 5) wx from hd.out 5 (by kernel_rfl))
          have e6 : u 6 = _ := (show LV _ (u 6) wx from hd.out 6 (by kernel_rfl))
          have e7 : u 7 = _ := (show LV _ (u 7) wx from hd.out 7 (by kernel_rfl))
          have e8 : u 8 = _ := (show LV _ (u 8) wx from hd.out 8 (by kernel_rfl))
          have e9 : u 9 = _ := (show LV _ (u 9) wx from hd.out 9 (by kernel_rfl))
          have e10 : u 10 = _ := (show LV _ (u 10) wx from hd.out 10 (by kernel_rfl))
          have e11 : u 11 = _ := (show LV _ (u 11) wx from hd.out 11 (by kernel_rfl))
          have e12 : u 12 = _ := (show LV _ (u 12) wx from hd.out 12 (by kernel_rfl))
          have e13 : u 13 = _ := (show LV _ (u 13) wx from hd.out 13 (by kernel_rfl))
          have e14 : u 14 = _ := (show LV _ (u 14) wx from hd.out 14 (by kernel_rfl))
          have e15 : u 15 = _ := (show LV _ (u 15) wx from hd.out 15 (by kernel_rfl))
          have e16 : u 16 = _ := (show LV _ (u 16) wx from hd.out 16 (by kernel_rfl))
          have e17 : u 17 = _ := (show LV _ (u 17) wx from hd.out 17 (by kernel_rfl))
          have e18 : u 18 = _ := (show LV _ (u 18) wx from hd.out 18 (by kernel_rfl))
          have e19 : u 19 = _ := (show LV _ (u 19) wx from hd.out 19 (by kernel_rfl))
          have e20 : u 20 = _ := (show LV _ (u 20) wx from hd.out 20 (by kernel_rfl))
          (have hdx := Dat.of (Blk.below hbx hB5); unfold Dat at hdx)
          go_simp
          refine hK.out _ _ (by simp only [PT, e0, e1, e2, e3, e4, e5, e6, e7, e8, e9, e10, e11, e12, e13, e14, e15, e16, e17, e18, e19, e20]; rfl) bl lvC
        exact LinZsF.nil
      · intro u wx hbx hall
        have e21 : u 21 = _ := (show LV _ (u 21) wx from hall.out 21 (by decide))
        have hB6 := Blk.below hbx hB5
        have hbel6 := hbel5.trans (hbx.mono hbel5.size)
        clear hB5 hbx
        obtain ⟨a1, ea1⟩ : ∃ a1, a1 = h7 ++ ⟨#[0]⟩ ++ xe32 ++ xnm ++ xz8 ++ xsp ++ es ++ xz29 := ⟨_, rfl⟩
        have sa1 : a1.size = 120 := by rw [ea1]; simp only [ByteArray.size_append, sh7, c1, sxe32, sxnm, sxz8, sxsp, ses, sxz29]
        rw [← ea1] at e21
        have Ea1 := hide ea1
        rw [e21]
        clear e21 ea1 hall
        clear Fe32 Fnm Fz8 Fsp Fz29 hbel hbel1 hbel2 hbel3 hbel4 hbel5 sh7
        go_upto_region 21 with fail
        refine' region_linzF (RL := LV _ :: LV _ :: LV _ :: LV _ :: LV _ :: LV _ :: LV _ :: LV _ :: LV _ :: LV _ :: LV _ :: LV _ :: LV _ :: LV _ :: LV _ :: LV _ :: LV _ :: LV _ :: LV _ :: LV _ :: LV _ :: LV _ :: LV _ :: LV _ :: LV _ :: LV _ :: LV _ :: LV _ :: []) (by kernel_rfl) (by kernel_rfl) ?main
        case main =>
          refine ⟨fun u => ?_, ?_, ?_, ?_⟩
          · simp only [putsL, Act.put, List.setIfInBounds_toArray, List.set_cons_zero, List.set_cons_succ, Nat.reduceAdd]
            rfl
          · repeat (first | exact LAll.nil | refine LAll.cons (by first | exact LV.st _ | exact LB.st _ _ _ | exact LP.st _ _ | exact LT.st) ?_)
          · refine LinZsF.cons (fun u wx hbx hd hu K hK => ?_) ?_
            · have q27 : u 27 = .string a1 := hu.out 27 (by kernel_rfl)
              (have hdx := Dat.of (Blk.below hbx hB6); unfold Dat at hdx)
              go_simp
              refine hK.out _ _ (by simp only [PT, q27]; rfl) bl lvC
            refine LinZsF.cons (fun u wx hbx hd hu K hK => ?_) ?_
            · (have hdx := Dat.of (Blk.below hbx hB6); unfold Dat at hdx)
              go_simp
              refine hK.out _ _ (by simp only [PT]; rfl) bl lvC
            refine LinZsF.cons (fun u wx hbx hd hu K hK => ?_) ?_
            · have e1 : u 1 = _ := (show LV _ (u 1) wx from hd.out 1 (by kernel_rfl))
              (have hdx := Dat.of (Blk.below hbx hB6); unfold Dat at hdx)
              go_simp
              refine hK.out _ _ (by simp only [PT, e1]; rfl) bl lvC
            refine LinZsF.cons (fun u wx hbx hd hu K hK => ?_) ?_
            · have e2 : u 2 = _ := (show LV _ (u 2) wx from hd.out 2 (by kernel_rfl))
              (have hdx := Dat.of (Blk.below hbx hB6); unfold Dat at hdx)
              go_simp
              refine hK.out _ _ (by simp only [PT, e2]; rfl) bl lvC
            refine LinZsF.cons (fun u wx hbx hd hu K hK => ?_) ?_
            · have e3 : u 3 = _ := (show LV _ (u 3) wx from hd.out 3 (by kernel_rfl))
              (have hdx := Dat.of (Blk.below hbx hB6); unfold Dat at hdx)
              go_simp
              (first | (go_at_call 45; (with_reducible refine (Fdi.out _).mono ?_); rintro e w' ⟨rfl, hb⟩) | (go_at_call 45; (with_reducible refine (Fnu.out _).mono ?_); rintro e w' ⟨rfl, hb⟩) | (go_at_call 45; (with_reducible refine (Fbk.out _).mono ?_); rintro e w' ⟨rfl, hb⟩) | (go_at_call 45; (with_reducible refine (Fps.out _).mono ?_); rintro e w' ⟨rfl, hb⟩))
              go_wp2_with fail
              refine hK.out _ _ (by simp only [PT, e3]; rfl) bl lvC
            refine LinZsF.cons (fun u wx hbx hd hu K hK => ?_) ?_
            · have e0 : u 0 = _ := (show LV _ (u 0) wx from hd.out 0 (by kernel_rfl))
              have e4 : u 4 = _ := (show LV _ (u 4) wx from hd.out 4 (by kernel_rfl))
              (have hdx := Dat.of (Blk.below hbx hB6); unfold Dat at hdx)
              go_simp
              refine hK.out _ _ (by simp only [PT, e0, e4]; rfl) bl lvC
            refine LinZsF.cons (fun u wx hbx hd hu K hK => ?_) ?_
            · (have hdx := Dat.of (Blk.below hbx hB6); unfold Dat at hdx)
              go_simp
              refine hK.out _ _ (by simp only [PT]; rfl) bl lvC
            refine LinZsF.cons (fun u wx hbx hd hu K hK => ?_) ?_
            · have e6 : u 6 = _ := (show LV _ (u 6) wx from hd.out 6 (by kernel_rfl))
              (have hdx := Dat.of (Blk.below hbx hB6); unfold Dat at hdx)
              go_simp
              refine hK.out _ _ (by simp only [PT, e6]; rfl) bl lvC
            refine LinZsF.cons (fun u wx hbx hd hu K hK => ?_) ?_
            · have e7 : u 7 = _ := (show LV _ (u 7) wx from hd.out 7 (by kernel_rfl))
              (have hdx := Dat.of (Blk.below hbx hB6); unfold Dat at hdx)
              go_simp
              refine hK.out _ _ (by simp only [PT, e7]; rfl) bl lvC
            refine LinZsF.cons (fun u wx hbx hd hu K hK => ?_) ?_
            · have e4 : u 4 = _ := (show LV _ (u 4) wx from hd.out 4 (by kernel_rfl))
              have e8 : u 8 = _ := (show LV _ (u 8) wx from hd.out 8 (by kernel_rfl))
              (have hdx := Dat.of (Blk.below hbx hB6); unfold Dat at hdx)
              go_simp
              (first | (go_at_call 45; (with_reducible refine (Fdi.out _).mono ?_); rintro e w' ⟨rfl, hb⟩) | (go_at_call 45; (with_reducible refine (Fnu.out _).mono ?_); rintro e w' ⟨rfl, hb⟩) | (go_at_call 45; (with_reducible refine (Fbk.out _).mono ?_); rintro e w' ⟨rfl, hb⟩) | (go_at_call 45; (with_reducible refine (Fps.out _).mono ?_); rintro e w' ⟨rfl, hb⟩))
              go_wp2_with fail
              refine hK.out _ _ (by simp only [PT, e4, e8]; rfl) bl lvC
            refine LinZsF.cons (fun u wx hbx hd hu K hK => ?_) ?_
            · have e5 : u 5 = _ := (show LV _ (u 5) wx from hd.out 5 (by kernel_rfl))
              have e9 : u 9 = _ := (show LV _ (u 9) wx from hd.out 9 (by kernel_rfl))
              (have hdx := Dat.of (Blk.below hbx hB6); unfold Dat at hdx)
              go_simp
              refine hK.out _ _ (by simp only [PT, e5, e9]; rfl) bl lvC
            refine LinZsF.cons (fun u wx hbx hd hu K hK => ?_) ?_
            · have e9 : u 9 = _ := (show LV _ (u 9) wx from hd.out 9 (by kernel_rfl))
              (have hdx := Dat.of (Blk.below hbx hB6); unfold Dat at hdx)
              go_simp
              (first | (go_at_call 45; (with_reducible refine (Fdi.out _).mono ?_); rintro e w' ⟨rfl, hb⟩) | (go_at_call 45; (with_reducible refine (Fnu.out _).mono ?_); rintro e w' ⟨rfl, hb⟩) | (go_at_call 45; (with_reducible refine (Fbk.out _).mono ?_); rintro e w' ⟨rfl, hb⟩) | (go_at_call 45; (with_reducible refine (Fps.out _).mono ?_); rintro e w' ⟨rfl, hb⟩))
              go_wp2_with fail
              refine hK.out _ _ (by simp only [PT, e9]; rfl) bl lvC
            refine LinZsF.cons (fun u wx hbx hd hu K hK => ?_) ?_
            · have e10 : u 10 = _ := (show LV _ (u 10) wx from hd.out 10 (by kernel_rfl))
              have e11 : u 11 = _ := (show LV _ (u 11) wx from hd.out 11 (by kernel_rfl))
              (have hdx := Dat.of (Blk.below hbx hB6); unfold Dat at hdx)
              go_simp
              refine hK.out _ _ (by simp only [PT, e10, e11]; rfl) bl lvC
            refine LinZsF.cons (fun u wx hbx hd hu K hK => ?_) ?_
            · (have hdx := Dat.of (Blk.below hbx hB6); unfold Dat at hdx)
              go_simp
              refine hK.out _ _ (by simp only [PT]; rfl) bl lvC
            refine LinZsF.cons (fun u wx hbx hd hu K hK => ?_) ?_
            · have e13 : u 13 = _ := (show LV _ (u 13) wx from hd.out 13 (by kernel_rfl))
              (have hdx := Dat.of (Blk.below hbx hB6); unfold Dat at hdx)
              go_simp
              refine hK.out _ _ (by simp only [PT, e13]; rfl) bl lvC
            refine LinZsF.cons (fun u wx hbx hd hu K hK => ?_) ?_
            · have e11 : u 11 = _ := (show LV _ (u 11) wx from hd.out 11 (by kernel_rfl))
              have e14 : u 14 = _ := (show LV _ (u 14) wx from hd.out 14 (by kernel_rfl))
              (have hdx := Dat.of (Blk.below hbx hB6); unfold Dat at hdx)
              go_simp
              (first | (go_at_call 45; (with_reducible refine (Fdi.out _).mono ?_); rintro e w' ⟨rfl, hb⟩) | (go_at_call 45; (with_reducible refine (Fnu.out _).mono ?_); rintro e w' ⟨rfl, hb⟩) | (go_at_call 45; (with_reducible refine (Fbk.out _).mono ?_); rintro e w' ⟨rfl, hb⟩) | (go_at_call 45; (with_reducible refine (Fps.out _).mono ?_); rintro e w' ⟨rfl, hb⟩))
              go_wp2_with fail
              refine hK.out _ _ (by simp only [PT, e11, e14]; rfl) bl lvC
            refine LinZsF.cons (fun u wx hbx hd hu K hK => ?_) ?_
            · have e12 : u 12 = _ := (show LV _ (u 12) wx from hd.out 12 (by kernel_rfl))
              have e15 : u 15 = _ := (show LV _ (u 15) wx from hd.out 15 (by kernel_rfl))
              (have hdx := Dat.of (Blk.below hbx hB6); unfold Dat at hdx)
              go_simp
              refine hK.out _ _ (by simp only [PT, e12, e15]; rfl) bl lvC
            refine LinZsF.cons (fun u wx hbx hd hu K hK => ?_) ?_
            · (have hdx := Dat.of (Blk.below hbx hB6); unfold Dat at hdx)
              go_simp
              refine hK.out _ _ (by simp only [PT]; rfl) bl lvC
            refine LinZsF.cons (fun u wx hbx hd hu K hK => ?_) ?_
            · have e16 : u 16 = _ := (show LV _ (u 16) wx from hd.out 16 (by kernel_rfl))
              have e17 : u 17 = _ := (show LV _ (u 17) wx from hd.out 17 (by kernel_rfl))
              (have hdx := Dat.of (Blk.below hbx hB6); unfold Dat at hdx)
              go_simp
              refine hK.out _ _ (by simp only [PT, e16, e17]; rfl) bl lvC
            refine LinZsF.cons (fun u wx hbx hd hu K hK => ?_) ?_
            · (have hdx := Dat.of (Blk.below hbx hB6); unfold Dat at hdx)
              go_simp
              refine hK.out _ _ (by simp only [PT]; rfl) bl lvC
            refine LinZsF.cons (fun u wx hbx hd hu K hK => ?_) ?_
            · have e18 : u 18 = _ := (show LV _ (u 18) wx from hd.out 18 (by kernel_rfl))
              have e19 : u 19 = _ := (show LV _ (u 19) wx from hd.out 19 (by kernel_rfl))
              (have hdx := Dat.of (Blk.below hbx hB6); unfold Dat at hdx)
              go_simp
              refine hK.out _ _ (by simp only [PT, e18, e19]; rfl) bl lvC
            refine LinZsF.cons (fun u wx hbx hd hu K hK => ?_) ?_
            · (have hdx := Dat.of (Blk.below hbx hB6); unfold Dat at hdx)
              go_simp
              refine hK.out _ _ (by simp only [PT]; rfl) bl lvC
            refine LinZsF.cons (fun u wx hbx hd hu K hK => ?_) ?_
            · have e20 : u 20 = _ := (show LV _ (u 20) wx from hd.out 20 (by kernel_rfl))
              have e21 : u 21 = _ := (show LV _ (u 21) wx from hd.out 21 (by kernel_rfl))
              (have hdx := Dat.of (Blk.below hbx hB6); unfold Dat at hdx)
              go_simp
              refine hK.out _ _ (by simp only [PT, e20, e21]; rfl) bl lvC
            refine LinZsF.cons (fun u wx hbx hd hu K hK => ?_) ?_
            · (have hdx := Dat.of (Blk.below hbx hB6); unfold Dat at hdx)
              go_simp
              refine hK.out _ _ (by simp only [PT]; rfl) bl lvC
            refine LinZsF.cons (fun u wx hbx hd hu K hK => ?_) ?_
            · have e22 : u 22 = _ := (show LV _ (u 22) wx from hd.out 22 (by kernel_rfl))
              have e23 : u 23 = _ := (show LV _ (u 23) wx from hd.out 23 (by kernel_rfl))
              (have hdx := Dat.of (Blk.below hbx hB6); unfold Dat at hdx)
              go_simp
              refine hK.out _ _ (by simp only [PT, e22, e23]; rfl) bl lvC
            refine LinZsF.cons (fun u wx hbx hd hu K hK => ?_) ?_
            · (have hdx := Dat.of (Blk.below hbx hB6); unfold Dat at hdx)
              go_simp
              refine hK.out _ _ (by simp only [PT]; rfl) bl lvC
            refine LinZsF.cons (fun u wx hbx hd hu K hK => ?_) ?_
            · have e24 : u 24 = _ := (show LV _ (u 24) wx from hd.out 24 (by kernel_rfl))
              have e25 : u 25 = _ := (show LV _ (u 25) wx from hd.out 25 (by kernel_rfl))
              (have hdx := Dat.of (Blk.below hbx hB6); unfold Dat at hdx)
              go_simp
              refine hK.out _ _ (by simp only [PT, e24, e25]; rfl) bl lvC
            refine LinZsF.cons (fun u wx hbx hd hu K hK => ?_) ?_
            · have e0 : u 0 = _ := (show LV _ (u 0) wx from hd.out 0 (by kernel_rfl))
              have e1 : u 1 = _ := (show LV _ (u 1) wx from hd.out 1 (by kernel_rfl))
              have e2 : u 2 = _ := (show LV _ (u 2) wx from hd.out 2 (by kernel_rfl))
              have e3 : u 3 = _ := (show LV _ (u 3) wx from hd.out 3 (by kernel_rfl))
              have e4 : u 4 = _ := (show LV _ (u 4) wx from hd.out 4 (by kernel_rfl))
              have e5 : u 5 = _ := (show LV _ (u 5) wx from hd.out 5 (by kernel_rfl))
              have e6 : u 6 = _ := (show LV _ (u 6) wx from hd.out 6 (by kernel_rfl))
              have e7 : u 7 = _ := (show LV _ (u 7) wx from hd.out 7 (by kernel_rfl))
              have e8 : u 8 = _ := (show LV _ (u 8) wx from hd.out 8 (by kernel_rfl))
              have e9 : u 9 = _ := (show LV _ (u 9) wx from hd.out 9 (by kernel_rfl))
              have e10 : u 10 = _ := (show LV _ (u 10) wx from hd.out 10 (by kernel_rfl))
              have e11 : u 11 = _ := (show LV _ (u 11) wx from hd.out 11 (by kernel_rfl))
              have e12 : u 12 = _ := (show LV _ (u 12) wx from hd.out 12 (by kernel_rfl))
              have e13 : u 13 = _ := (show LV _ (u 13) wx from hd.out 13 (by kernel_rfl))
              have e14 : u 14 = _ := (show LV _ (u 14) wx from hd.out 14 (by kernel_rfl))
              have e15 : u 15 = _ := (show LV _ (u 15) wx from hd.out 15 (by kernel_rfl))
              have e16 : u 16 = _ := (show LV _ (u 16) wx from hd.out 16 (by kernel_rfl))
              have e17 : u 17 = _ := (show LV _ (u 17) wx from hd.out 17 (by kernel_rfl))
              have e18 : u 18 = _ := (show LV _ (u 18) wx from hd.out 18 (by kernel_rfl))
              have e19 : u 19 = _ := (show LV _ (u 19) wx from hd.out 19 (by kernel_rfl))
              have e20 : u 20 = _ := (show LV _ (u 20) wx from hd.out 20 (by kernel_rfl))
              have e21 : u 21 = _ := (show LV _ (u 21) wx from hd.out 21 (by kernel_rfl))
              have e22 : u 22 = _ := (show LV _ (u 22) wx from hd.out 22 (by kernel_rfl))
              have e23 : u 23 = _ := (show LV _ (u 23) wx from hd.out 23 (by kernel_rfl))
              have e24 : u 24 = _ := (show LV _ (u 24) wx from hd.out 24 (by kernel_rfl))
              have e25 : u 25 = _ := (show LV _ (u 25) wx from hd.out 25 (by kernel_rfl))
              have e26 : u 26 = _ := (show LV _ (u 26) wx from hd.out 26 (by kernel_rfl))
              (have hdx := Dat.of (Blk.below hbx hB6); unfold Dat at hdx)
              go_simp
              refine hK.out _ _ (by simp only [PT, e0, e1, e2, e3, e4, e5, e6, e7, e8, e9, e10, e11, e12, e13, e14, e15, e16, e17, e18, e19, e20, e21, e22, e23, e24, e25, e26]; rfl) bl lvC
            exact LinZsF.nil
          · intro u wx hbx hall
            have e27 : u 27 = _ := (show LV _ (u 27) wx from hall.out 27 (by decide))
            have hB7 := Blk.below hbx hB6
            have hbel7 := hbel6.trans (hbx.mono hbel6.size)
            clear hB6 hbx
            obtain ⟨a2, ea2⟩ : ∃ a2, a2 = a1 ++ xdi ++ xnu ++ xbk ++ xps ++ xl ++ xz4 ++ xm ++ xz4 ++ xr := ⟨_, rfl⟩
            have sa2 : a2.size = 190 := by rw [ea2]; simp only [ByteArray.size_append, sa1, sxdi, sxnu, sxbk, sxps, sxl, sxz4, sxm, sxr]
            rw [← ea2] at e27
            have Ea2 := hide ea2
            rw [e27]
            clear e27 ea2 hall
            clear Fdi Fnu Fbk Fps hbel6 sa1
            go_upto_region 22 with fail
            refine' region_linzF (RL := LV _ :: LV _ :: LV _ :: LV _ :: LV _ :: LV _ :: LV _ :: LV _ :: LV _ :: LV _ :: LV _ :: LV _ :: LV _ :: LV _ :: LV _ :: LV _ :: LV _ :: LV _ :: LV _ :: LV _ :: LV _ :: LV _ :: LV _ :: LV _ :: LV _ :: LV _ :: []) (by kernel_rfl) (by kernel_rfl) ?main
            case main =>
              refine ⟨fun u => ?_, ?_, ?_, ?_⟩
              · simp only [putsL, Act.put, List.setIfInBounds_toArray, List.set_cons_zero, List.set_cons_succ, Nat.reduceAdd]
                rfl
              · repeat (first | exact LAll.nil | refine LAll.cons (by first | exact LV.st _ | exact LB.st _ _ _ | exact LP.st _ _ | exact LT.st) ?_)
              · refine LinZsF.cons (fun u wx hbx hd hu K hK => ?_) ?_
                · have q25 : u 25 = .string a2 := hu.out 25 (by kernel_rfl)
                  (have hdx := Dat.of (Blk.below hbx hB7); unfold Dat at hdx)
                  go_simp
                  refine hK.out _ _ (by simp only [PT, q25]; rfl) bl lvC
                refine LinZsF.cons (fun u wx hbx hd hu K hK => ?_) ?_
                · (have hdx := Dat.of (Blk.below hbx hB7); unfold Dat at hdx)
                  go_simp
                  refine hK.out _ _ (by simp only [PT]; rfl) bl lvC
                refine LinZsF.cons (fun u wx hbx hd hu K hK => ?_) ?_
                · have e1 : u 1 = _ := (show LV _ (u 1) wx from hd.out 1 (by kernel_rfl))
                  (have hdx := Dat.of (Blk.below hbx hB7); unfold Dat at hdx)
                  go_simp
                  refine hK.out _ _ (by simp only [PT, e1]; rfl) bl lvC
                refine LinZsF.cons (fun u wx hbx hd hu K hK => ?_) ?_
                · have e2 : u 2 = _ := (show LV _ (u 2) wx from hd.out 2 (by kernel_rfl))
                  (have hdx := Dat.of (Blk.below hbx hB7); unfold Dat at hdx)
                  go_simp
                  refine hK.out _ _ (by simp only [PT, e2]; rfl) bl lvC
                refine LinZsF.cons (fun u wx hbx hd hu K hK => ?_) ?_
                · (have hdx := Dat.of (Blk.below hbx hB7); unfold Dat at hdx)
                  go_simp
                  refine hK.out _ _ (by simp only [PT]; rfl) bl lvC
                refine LinZsF.cons (fun u wx hbx hd hu K hK => ?_) ?_
                · have e3 : u 3 = _ := (show LV _ (u 3) wx from hd.out 3 (by kernel_rfl))
                  have e4 : u 4 = _ := (show LV _ (u 4) wx from hd.out 4 (by kernel_rfl))
                  (have hdx := Dat.of (Blk.below hbx hB7); unfold Dat at hdx)
                  go_simp
                  (first | (go_at_call 44; (with_reducible refine (Fset.out _).mono ?_); rintro e w' ⟨rfl, hb⟩) | (go_at_call 44; (with_reducible refine (Fpub.out _).mono ?_); rintro e w' ⟨rfl, hb⟩) | (go_at_call 44; (with_reducible refine (Fprep.out _).mono ?_); rintro e w' ⟨rfl, hb⟩) | (go_at_call 44; (with_reducible refine (Fapp.out _).mono ?_); rintro e w' ⟨rfl, hb⟩))
                  go_wp2_with fail
                  refine hK.out _ _ (by simp only [PT, e3, e4]; rfl) bl lvC
                refine LinZsF.cons (fun u wx hbx hd hu K hK => ?_) ?_
                · have e0 : u 0 = _ := (show LV _ (u 0) wx from hd.out 0 (by kernel_rfl))
                  have e5 : u 5 = _ := (show LV _ (u 5) wx from hd.out 5 (by kernel_rfl))
                  (have hdx := Dat.of (Blk.below hbx hB7); unfold Dat at hdx)
                  go_simp
                  refine hK.out _ _ (by simp only [PT, e0, e5]; rfl) bl lvC
                refine LinZsF.cons (fun u wx hbx hd hu K hK => ?_) ?_
                · (have hdx := Dat.of (Blk.below hbx hB7); unfold Dat at hdx)
                  go_simp
                  refine hK.out _ _ (by simp only [PT]; rfl) bl lvC
                refine LinZsF.cons (fun u wx hbx hd hu K hK => ?_) ?_
                · have e7 : u 7 = _ := (show LV _ (u 7) wx from hd.out 7 (by kernel_rfl))
                  (have hdx := Dat.of (Blk.below hbx hB7); unfold Dat at hdx)
                  go_simp
                  refine hK.out _ _ (by simp only [PT, e7]; rfl) bl lvC
                refine LinZsF.cons (fun u wx hbx hd hu K hK => ?_) ?_
                · have e8 : u 8 = _ := (show LV _ (u 8) wx from hd.out 8 (by kernel_rfl))
                  (have hdx := Dat.of (Blk.below hbx hB7); unfold Dat at hdx)
                  go_simp
                  refine hK.out _ _ (by simp only [PT, e8]; rfl) bl lvC
                refine LinZsF.cons (fun u wx hbx hd hu K hK => ?_) ?_
                · (have hdx := Dat.of (Blk.below hbx hB7); unfold Dat at hdx)
                  go_simp
                  refine hK.out _ _ (by simp only [PT]; rfl) bl lvC
                refine LinZsF.cons (fun u wx hbx hd hu K hK => ?_) ?_
                · have e5 : u 5 = _ := (show LV _ (u 5) wx from hd.out 5 (by kernel_rfl))
                  have e9 : u 9 = _ := (show LV _ (u 9) wx from hd.out 9 (by kernel_rfl))
                  have e10 : u 10 = _ := (show LV _ (u 10) wx from hd.out 10 (by kernel_rfl))
                  (have hdx := Dat.of (Blk.below hbx hB7); unfold Dat at hdx)
                  go_simp
                  (first | (go_at_call 44; (with_reducible refine (Fset.out _).mono ?_); rintro e w' ⟨rfl, hb⟩) | (go_at_call 44; (with_reducible refine (Fpub.out _).mono ?_); rintro e w' ⟨rfl, hb⟩) | (go_at_call 44; (with_reducible refine (Fprep.out _).mono ?_); rintro e w' ⟨rfl, hb⟩) | (go_at_call 44; (with_reducible refine (Fapp.out _).mono ?_); rintro e w' ⟨rfl, hb⟩))
                  go_wp2_with fail
                  refine hK.out _ _ (by simp only [PT, e5, e9, e10]; rfl) bl lvC
                refine LinZsF.cons (fun u wx hbx hd hu K hK => ?_) ?_
                · have e6 : u 6 = _ := (show LV _ (u 6) wx from hd.out 6 (by kernel_rfl))
                  have e11 : u 11 = _ := (show LV _ (u 11) wx from hd.out 11 (by kernel_rfl))
                  (have hdx := Dat.of (Blk.below hbx hB7); unfold Dat at hdx)
                  go_simp
                  refine hK.out _ _ (by simp only [PT, e6, e11]; rfl) bl lvC
                refine LinZsF.cons (fun u wx hbx hd hu K hK => ?_) ?_
                · (have hdx := Dat.of (Blk.below hbx hB7); unfold Dat at hdx)
                  go_simp
                  refine hK.out _ _ (by simp only [PT]; rfl) bl lvC
                refine LinZsF.cons (fun u wx hbx hd hu K hK => ?_) ?_
                · have e13 : u 13 = _ := (show LV _ (u 13) wx from hd.out 13 (by kernel_rfl))
                  (have hdx := Dat.of (Blk.below hbx hB7); unfold Dat at hdx)
                  go_simp
                  refine hK.out _ _ (by simp only [PT, e13]; rfl) bl lvC
                refine LinZsF.cons (fun u wx hbx hd hu K hK => ?_) ?_
                · have e14 : u 14 = _ := (show LV _ (u 14) wx from hd.out 14 (by kernel_rfl))
                  (have hdx := Dat.of (Blk.below hbx hB7); unfold Dat at hdx)
                  go_simp
                  refine hK.out _ _ (by simp only [PT, e14]; rfl) bl lvC
                refine LinZsF.cons (fun u wx hbx hd hu K hK => ?_) ?_
                · (have hdx := Dat.of (Blk.below hbx hB7); unfold Dat at hdx)
                  go_simp
                  refine hK.out _ _ (by simp only [PT]; rfl) bl lvC
                refine LinZsF.cons (fun u wx hbx hd hu K hK => ?_) ?_
                · have e11 : u 11 = _ := (show LV _ (u 11) wx from hd.out 11 (by kernel_rfl))
                  have e15 : u 15 = _ := (show LV _ (u 15) wx from hd.out 15 (by kernel_rfl))
                  have e16 : u 16 = _ := (show LV _ (u 16) wx from hd.out 16 (by kernel_rfl))
                  (have hdx := Dat.of (Blk.below hbx hB7); unfold Dat at hdx)
                  go_simp
                  (first | (go_at_call 44; (with_reducible refine (Fset.out _).mono ?_); rintro e w' ⟨rfl, hb⟩) | (go_at_call 44; (with_reducible refine (Fpub.out _).mono ?_); rintro e w' ⟨rfl, hb⟩) | (go_at_call 44; (with_reducible refine (Fprep.out _).mono ?_); rintro e w' ⟨rfl, hb⟩) | (go_at_call 44; (with_reducible refine (Fapp.out _).mono ?_); rintro e w' ⟨rfl, hb⟩))
                  go_wp2_with fail
                  refine hK.out _ _ (by simp only [PT, e11, e15, e16]; rfl) bl lvC
                refine LinZsF.cons (fun u wx hbx hd hu K hK => ?_) ?_
                · have e12 : u 12 = _ := (show LV _ (u 12) wx from hd.out 12 (by kernel_rfl))
                  have e17 : u 17 = _ := (show LV _ (u 17) wx from hd.out 17 (by kernel_rfl))
                  (have hdx := Dat.of (Blk.below hbx hB7); unfold Dat at hdx)
                  go_simp
                  refine hK.out _ _ (by simp only [PT, e12, e17]; rfl) bl lvC
                refine LinZsF.cons (fun u wx hbx hd hu K hK => ?_) ?_
                · (have hdx := Dat.of (Blk.below hbx hB7); unfold Dat at hdx)
                  go_simp
                  refine hK.out _ _ (by simp only [PT]; rfl) bl lvC
                refine LinZsF.cons (fun u wx hbx hd hu K hK => ?_) ?_
                · have e19 : u 19 = _ := (show LV _ (u 19) wx from hd.out 19 (by kernel_rfl))
                  (have hdx := Dat.of (Blk.below hbx hB7); unfold Dat at hdx)
                  go_simp
                  refine hK.out _ _ (by simp only [PT, e19]; rfl) bl lvC
                refine LinZsF.cons (fun u wx hbx hd hu K hK => ?_) ?_
                · have e20 : u 20 = _ := (show LV _ (u 20) wx from hd.out 20 (by kernel_rfl))
                  (have hdx := Dat.of (Blk.below hbx hB7); unfold Dat at hdx)
                  go_simp
                  refine hK.out _ _ (by simp only [PT, e20]; rfl) bl lvC
                refine LinZsF.cons (fun u wx hbx hd hu K hK => ?_) ?_
                · (have hdx := Dat.of (Blk.below hbx hB7); unfold Dat at hdx)
                  go_simp
                  refine hK.out _ _ (by simp only [PT]; rfl) bl lvC
                refine LinZsF.cons (fun u wx hbx hd hu K hK => ?_) ?_
                · have e17 : u 17 = _ := (show LV _ (u 17) wx from hd.out 17 (by kernel_rfl))
                  have e21 : u 21 = _ := (show LV _ (u 21) wx from hd.out 21 (by kernel_rfl))
                  have e22 : u 22 = _ := (show LV _ (u 22) wx from hd.out 22 (by kernel_rfl))
                  (have hdx := Dat.of (Blk.below hbx hB7); unfold Dat at hdx)
                  go_simp
                  (first | (go_at_call 44; (with_reducible refine (Fset.out _).mono ?_); rintro e w' ⟨rfl, hb⟩) | (go_at_call 44; (with_reducible refine (Fpub.out _).mono ?_); rintro e w' ⟨rfl, hb⟩) | (go_at_call 44; (with_reducible refine (Fprep.out _).mono ?_); rintro e w' ⟨rfl, hb⟩) | (go_at_call 44; (with_reducible refine (Fapp.out _).mono ?_); rintro e w' ⟨rfl, hb⟩))
                  go_wp2_with fail
                  refine hK.out _ _ (by simp only [PT, e17, e21, e22]; rfl) bl lvC
                refine LinZsF.cons (fun u wx hbx hd hu K hK => ?_) ?_
                · have e18 : u 18 = _ := (show LV _ (u 18) wx from hd.out 18 (by kernel_rfl))
                  have e23 : u 23 = _ := (show LV _ (u 23) wx from hd.out 23 (by kernel_rfl))
                  (have hdx := Dat.of (Blk.below hbx hB7); unfold Dat at hdx)
                  go_simp
                  refine hK.out _ _ (by simp only [PT, e18, e23]; rfl) bl lvC
                refine LinZsF.cons (fun u wx hbx hd hu K hK => ?_) ?_
                · have e0 : u 0 = _ := (show LV _ (u 0) wx from hd.out 0 (by kernel_rfl))
                  have e1 : u 1 = _ := (show LV _ (u 1) wx from hd.out 1 (by kernel_rfl))
                  have e2 : u 2 = _ := (show LV _ (u 2) wx from hd.out 2 (by kernel_rfl))
                  have e3 : u 3 = _ := (show LV _ (u 3) wx from hd.out 3 (by kernel_rfl))
                  have e4 : u 4 = _ := (show LV _ (u 4) wx from hd.out 4 (by kernel_rfl))
                  have e5 : u 5 = _ := (show LV _ (u 5) wx from hd.out 5 (by kernel_rfl))
                  have e6 : u 6 = _ := (show LV _ (u 6) wx from hd.out 6 (by kernel_rfl))
                  have e7 : u 7 = _ := (show LV _ (u 7) wx from hd.out 7 (by kernel_rfl))
                  have e8 : u 8 = _ := (show LV _ (u 8) wx from hd.out 8 (by kernel_rfl))
                  have e9 : u 9 = _ := (show LV _ (u 9) wx from hd.out 9 (by kernel_rfl))
                  have e10 : u 10 = _ := (show LV _ (u 10) wx from hd.out 10 (by kernel_rfl))
                  have e11 : u 11 = _ := (show LV _ (u 11) wx from hd.out 11 (by kernel_rfl))
                  have e12 : u 12 = _ := (show LV _ (u 12) wx from hd.out 12 (by kernel_rfl))
                  have e13 : u 13 = _ := (show LV _ (u 13) wx from hd.out 13 (by kernel_rfl))
                  have e14 : u 14 = _ := (show LV _ (u 14) wx from hd.out 14 (by kernel_rfl))
                  have e15 : u 15 = _ := (show LV _ (u 15) wx from hd.out 15 (by kernel_rfl))
                  have e16 : u 16 = _ := (show LV _ (u 16) wx from hd.out 16 (by kernel_rfl))
                  have e17 : u 17 = _ := (show LV _ (u 17) wx from hd.out 17 (by kernel_rfl))
                  have e18 : u 18 = _ := (show LV _ (u 18) wx from hd.out 18 (by kernel_rfl))
                  have e19 : u 19 = _ := (show LV _ (u 19) wx from hd.out 19 (by kernel_rfl))
                  have e20 : u 20 = _ := (show LV _ (u 20) wx from hd.out 20 (by kernel_rfl))
                  have e21 : u 21 = _ := (show LV _ (u 21) wx from hd.out 21 (by kernel_rfl))
                  have e22 : u 22 = _ := (show LV _ (u 22) wx from hd.out 22 (by kernel_rfl))
                  have e23 : u 23 = _ := (show LV _ (u 23) wx from hd.out 23 (by kernel_rfl))
                  have e24 : u 24 = _ := (show LV _ (u 24) wx from hd.out 24 (by kernel_rfl))
                  (have hdx := Dat.of (Blk.below hbx hB7); unfold Dat at hdx)
                  go_simp
                  refine hK.out _ _ (by simp only [PT, e0, e1, e2, e3, e4, e5, e6, e7, e8, e9, e10, e11, e12, e13, e14, e15, e16, e17, e18, e19, e20, e21, e22, e23, e24]; rfl) bl lvC
                exact LinZsF.nil
              · intro u wx hbx hall
                have e25 : u 25 = _ := (show LV _ (u 25) wx from hall.out 25 (by decide))
                have hB8 := Blk.below hbx hB7
                have hbel8 := hbel7.trans (hbx.mono hbel7.size)
                clear hB7 hbx
                obtain ⟨a3, ea3⟩ : ∃ a3, a3 = a2 ++ xset ++ xpub ++ xprep ++ xapp := ⟨_, rfl⟩
                have sa3 : a3.size = 702 := by rw [ea3]; simp only [ByteArray.size_append, sa2, sxset, sxpub, sxprep, sxapp]
                rw [← ea3] at e25
                have Ea3 := hide ea3
                rw [e25]
                clear e25 ea3 hall
                clear Fset Fpub Fprep Fapp hbel7 sa2 hB8
                have su : (⟨#[48, 48, 48, 48, 48, 48, 48, 48, 48, 48, 48, 48, 48, 48, 48, 48, 0]⟩ : ByteArray).size = 17 := rfl
                have s1 : (⟨#[1]⟩ : ByteArray).size = 1 := rfl
                have HL : Live wx [] := trivial
                go_wp2_with (first | (go_at_call 44; (with_reducible refine (Fe37.out _).mono ?_); rintro e w' ⟨rfl, hb⟩; have hz := hb.size; (try simp only [SZ, Nat.reduceAdd] at hz); (first | obtain ⟨HL, hk⟩ := HL.callA hb hz | obtain ⟨HL, hk⟩ := HL.call0A hb hz); (try simp only [addN, Nat.add_zero] at HL hk); have hl := HL; simp only [Live] at hl; (try simp only [Kept] at hk)) | (go_at_call 46; (with_reducible refine (Dt.runspec_any _).mono ?_); rintro e w' ⟨rfl, rfl⟩) | (go_at_call 39; (with_reducible refine (Fz1166.out _).mono ?_); rintro e w' ⟨rfl, hb⟩; have hz := hb.size; (try simp only [SZ, Nat.reduceAdd] at hz); (first | obtain ⟨HL, hk⟩ := HL.callA hb hz | obtain ⟨HL, hk⟩ := HL.call0A hb hz); (try simp only [addN, Nat.add_zero] at HL hk); have hl := HL; simp only [Live] at hl; (try simp only [Kept] at hk)))
                have EF := hide (show encDS d = a3 ++ xe37 ++ xe37 ++ xe37 ++ xt ++ xt ++ ⟨#[48, 48, 48, 48, 48, 48, 48, 48, 48, 48, 48, 48, 48, 48, 48, 48, 0]⟩ ++ xt ++ ⟨#[1]⟩ ++ xz1166 from by
                  rw [ED.out, encD_prim HT.out]
                  symm
                  apply ext_l
                  rw [Ea3.out, Ea2.out, Ea1.out, EH.out, EES.out, EXe32.out, EXnm.out, EXz8.out, EXsp.out, EXz29.out, EXdi.out, EXnu.out, EXbk.out, EXps.out, EXl.out, EXz4.out, EXm.out, EXr.out, EXset.out, EXpub.out, EXprep.out, EXapp.out, EXe37.out, EXt.out, EXz1166.out]
                  simp only [ByteArray.data_append, Array.toList_append]
                  unfold segsD
                  simp only [List.flatten_cons, List.flatten_nil, List.append_nil, List.append_assoc]
                  rfl)
                have hzx := hbel8.size
                go_ret2
                exact ⟨ret2_sb EF.out.symm HC.out.symm, by (exact bl)⟩
end Go.Proofs.YtjbhokmkmapkoaaGreatDoor
