/- Part of the claim: its words. -/
import Derived.Test.YtlhakdildbplkaaGreatDoorG24
import Derived.Test.YtlhakdildbplkaaGreatDoorG25
import Derived.Test.YtlhakdildbplkaaGreatDoorG19
import Derived.Test.YtlhakdildbplkaaGreatDoorG18
import Derived.Test.YtlhakdildbplkaaGreatDoorG13
import Derived.Test.YtlhakdildbplkaaGreatDoorG28
import Derived.Test.YtlhakdildbplkaaGreatDoorG32
set_option maxRecDepth 100000
set_option maxHeartbeats 8000000
namespace Go.Proofs.YtlhakdildbplkaaGreatDoor
set_option linter.unusedSimpArgs false
set_option linter.unusedVariables false
open Go.RowKit
def TabA (w:World):Prop:=TabV w∧TabP w∧TabE w
theorem TabA.below {w w':World} (h:TabA w) (hb:Below w.heap.size w w'):TabA w':=⟨h.1.below hb,h.2.1.below hb,h.2.2.below hb⟩
def Nd (w:World) (b:Nat) (c:Array Value) (t:Tr):Prop:=Blk w b c 25∧TreeR w w.heap.size (.agg c) t∧c.size=12
theorem Nd.below {w w':World} {b:Nat} {c:Array Value} {t:Tr} (h:Nd w b c t) (hb:Below w.heap.size w w'):Nd w' b c t:=⟨Blk.below hb h.1,h.2.1.later hb,h.2.2⟩
theorem Nd.new {w:World} {c:Array Value} {t:Tr} (h:TreeR w w.heap.size (.agg c) t) (hz:c.size=12):Nd (w.alloc (.cells c 25)) w.heap.size c t:=
 ⟨Blk.newAt rfl,h.later ((Below.refl _ _).alloc (Nat.le_refl _) _),hz⟩
theorem Nd.lt {w:World} {b:Nat} {c:Array Value} {t:Tr} (h:Nd w b c t):b < w.heap.size:=h.1.lt
theorem store_tree {P:Program} {ops:Array Oper} {rest:List Oper} {o:Oper} {a:Act} {W:World} {Q:Exit→Act→World→Prop} (hgd:o.guard=none) (x y:Operand) (ho:o.op=.store 25 x y)
  (v:Value) (t:Tr) (hx:a.eval x=.pointer (some ⟨W.heap.size,0,none⟩)) (hy:a.eval y=v) (hP:P=Tryz.prog) (hv:TreeR W W.heap.size v t)
  (h:∀cells:Array Value,v=.agg cells→cells.size=12→cells.all (·.oneCell')=true→wpList P ops Q rest (a.put o.dst undef) (W.alloc (.cells cells 25))):wpList P ops Q (o :: rest) a (W.alloc (.cells zeroN 25)):=by
 subst hP
 obtain⟨cells,e,hz,h1⟩:=hv.cells
 exact wpList_store_new hgd 25 x y ho cells hx (hy.trans e) 25 zeroN (infN hz) (by rw [hz];rfl) h1 (h cells e hz h1)
abbrev abS:ByteArray:=⟨#[97,32,98]⟩
theorem ex_beq:(exS.toList == exB)=true:=by rw [ByteArray.toList_eq,beq_iff_eq];rfl
theorem ex_thin:thinT exT:=⟨by decide,by decide,⟨trivial,rfl⟩⟩
theorem SlR.later2 {w w':World} {v:Value} {l:List ByteArray} (h:SlR w w.heap.size v l) (hb:Below w.heap.size w w'):SlR w' w'.heap.size v l:=(h.below hb).mono hb.size
theorem Below.one (w:World) (o:Obj):Below w.heap.size w (w.alloc o):=(Below.refl _ _).alloc (Nat.le_refl _) _
theorem SlR.two (w:World) (a b:ByteArray):SlR (w.alloc (.cells #[.string a,.string b] 9)) (w.alloc (.cells #[.string a,.string b] 9)).heap.size (.slice (some ⟨w.heap.size,0,none⟩) 2 2) [a,b]:=
 ⟨some ⟨w.heap.size,0,none⟩,2,rfl,fun _=>⟨w.heap.size,0,rfl,by rw [World.size_alloc];exact Nat.lt_succ_self _,fun j s hj=>by
  rw [Nat.zero_add]
  refine((Blk.newAt rfl:Blk (w.alloc (.cells #[.string a,.string b] 9)) w.heap.size #[.string a,.string b] 9).cells j).trans ?_
  match j,hj with
  | 0,h=>injection h with h;rw [←h];rfl
  | 1,h=>injection h with h;rw [←h];rfl
  | k+2,h=>simp at h⟩⟩
def AwS (w:World) (W:World) (bn bx bk bl bm:Nat) (cn cx ck cl cm:Array Value):Prop:=
 Below w.heap.size w W∧Nd W bn cn exT∧Nd W bx cx exT∧Nd W bk ck exK∧Nd W bl cl exL∧Nd W bm cm exT
theorem awake_any (w:World) (hT:TabA w):Calls Tryz.prog 11 #[] w fun e w'=>e=.returned (.bool true)∧Below w.heap.size w w':=by
 have FM:=hide (show ∀W v,TabA W→TreeR W W.heap.size v exT→Calls Tryz.prog 34 #[v] W fun e w'=>e=.returned (.tuple #[.string exS,.int .i64 0])∧Below W.heap.size W w' from fun W v hW hv=>by have h:=format_any exT (by have:=ex_sz.1;omega) v W hW.1 hW.2.1 hv;rw [ex_format] at h;exact h)
 have PS:=hide (show ∀W,TabA W→Calls Tryz.prog 36 #[.string exS] W fun e w'=>∃r,e=.returned (.tuple #[r,.int .i64 0,.int .i64 0])∧TreeR w' w'.heap.size r exT∧Below W.heap.size W w' from fun W hW=>by
   refine(parse_all exS (by decide) ex_small W hW.1 hW.2.1 hW.2.2).mono fun e w' h=>?_
   obtain⟨r,h1,h2,h3⟩:=h
   rw [ex_parse] at h1 h2
   exact⟨r,h1,h2,h3⟩)
 have GT:=hide (show ∀W v,TabA W→TreeR W W.heap.size v exT→Calls Tryz.prog 21 #[v,.string abS] W fun e w'=>∃r,e=.returned (.tuple #[r,.int .i64 0])∧TreeR w' w'.heap.size r exK∧Below W.heap.size W w' from fun W v hW hv=>by have h:=get_any exT abS (by have:=ex_sz.1;omega) (by decide) v W hW.1 hv;rw [ex_get] at h;exact h)
 have RM:=hide (show ∀W v,TabA W→TreeR W W.heap.size v exT→Calls Tryz.prog 32 #[v,.string abS] W fun e w'=>∃r,e=.returned (.tuple #[r,.int .i64 0])∧TreeR w' w'.heap.size r exL∧Below W.heap.size W w' from fun W v hW hv=>by have h:=remove_any exT abS (by have:=ex_sz.1;omega) (by decide) v W hW.1 hv;rw [ex_rem] at h;exact h)
 have PU:=hide (show ∀W v u,TabA W→TreeR W W.heap.size v exL→TreeR W W.heap.size u exK→Calls Tryz.prog 30 #[v,.string ⟨#[]⟩,u] W fun e w'=>∃r,e=.returned (.tuple #[r,.int .i64 0])∧TreeR w' w'.heap.size r exT∧Below W.heap.size W w' from fun W v u hW hv hu=>by have h:=put_any exL exK eS (by have:=ex_sz.2.2;omega) (by have:=ex_sz.2.1;omega) (by decide) v u W hW.1 hv hu;rw [ex_put] at h;exact h)
 have CH:=hide (show ∀W v,TabA W→TreeR W W.heap.size v exT→Calls Tryz.prog 14 #[v] W fun e w'=>e=.returned (.tuple #[.string ⟨#[]⟩,.int .i64 0])∧Below W.heap.size W w' from fun W v hW hv=>by have h:=check_any exT (Or.inl (by have:=ex_sz.1;omega)) v W hW.1 hv;rw [ex_check] at h;exact h)
 have HTA:=hide hT
 clear hT
 have HL:Live w []:=trivial
 go_enter Tryz.func11,Tryz.ntmps11

 go_upto_region 2 with (first | (go_at_call 44;refine(example_any _).mono ?_;rintro e w1 ⟨v1,rfl,hv1,hb1⟩;have HV1:=hide hv1;have HB1:=hide hb1;clear hv1 hb1) | ((with_reducible show wpList _ _ _ _ _ _);refine store_tree rfl (.tmp 1) (.tmp 15) rfl v1 exT rfl rfl rfl HV1.out ?_;rintro cn rfl hzcn h1cn))
 have HN:=hide (Nd.new HV1.out hzcn)
 have hbel2:Below w.heap.size w (w1.alloc (.cells cn 25)):=HB1.out.alloc HB1.out.size _
 generalize w1.alloc (.cells cn 25)=W2 at *
 obtain⟨bn,hbn⟩:∃bn,bn=w1.heap.size:=⟨_,rfl⟩
 rw [←hbn] at HN ⊢
 clear hbn HV1 HB1 h1cn hzcn
 have HT2:=hide (HTA.out.below hbel2)
 as_aux_lemma=>
  go_upto_region 3 with (first | (refine wpList_load_row rfl 25 (.tmp 1) rfl bn rfl 25 cn (0,0) _ HN.out.1 Tryz.underlying25 rfl (infN HN.out.2.2) ?_) | (go_at_call 34;refine(FM.out _ _ HT2.out HN.out.2.1).mono ?_;rintro e w3 ⟨rfl,hb3⟩))
  have HN3:=hide (HN.out.below hb3)
  have hbel3:=hbel2.trans (hb3.mono hbel2.size)
  have HT3:=hide (HTA.out.below hbel3)
  clear hb3 HN HT2 hbel2 FM
  as_aux_lemma=>
   go_upto_region 4 with (first | (go_at_call 36;refine(PS.out _ HT3.out).mono ?_;rintro e w4 ⟨v4,rfl,hv4,hb4⟩;have HV4:=hide hv4;have HB4:=hide hb4;clear hv4 hb4) | ((with_reducible show wpList _ _ _ _ _ _);refine store_tree rfl (.tmp 4) (.tmp 23) rfl v4 exT rfl rfl rfl HV4.out ?_;rintro cx rfl hzcx h1cx))
   have HX4:=hide (Nd.new HV4.out hzcx)
   have hba4:Below w3.heap.size w3 (w4.alloc (.cells cx 25)):=HB4.out.alloc HB4.out.size _
   have HN4:=hide (HN3.out.below hba4)
   have hbel4:=hbel3.trans (hba4.mono hbel3.size)
   clear hba4 HV4 HB4 h1cx hzcx HN3
   generalize w4.alloc (.cells cx 25)=W4 at *
   obtain⟨bx,hbx⟩:∃bx,bx=w4.heap.size:=⟨_,rfl⟩
   rw [←hbx] at HX4 ⊢
   have HT4:=hide (HTA.out.below hbel4)
   clear hbx hbel3 HT3
   as_aux_lemma=>
    go_upto_region 5 with (first | (refine wpList_load_row rfl 25 (.tmp 1) rfl bn rfl 25 cn (0,0) _ HN4.out.1 Tryz.underlying25 rfl (infN HN4.out.2.2) ?_) | (go_at_call 21;refine(GT.out _ _ HT4.out HN4.out.2.1).mono ?_;rintro e w5 ⟨v5,rfl,hv5,hb5⟩;have HV5:=hide hv5;have HB5:=hide hb5;clear hv5 hb5) | ((with_reducible show wpList _ _ _ _ _ _);refine store_tree rfl (.tmp 7) (.tmp 29) rfl v5 exK rfl rfl rfl HV5.out ?_;rintro ck rfl hzck h1ck))
    have HX5:=hide (Nd.new HV5.out hzck)
    have hba5:Below W4.heap.size W4 (w5.alloc (.cells ck 25)):=HB5.out.alloc HB5.out.size _
    have HN5:=hide (HN4.out.below hba5)
    have HX45:=hide (HX4.out.below hba5)
    have hbel5:=hbel4.trans (hba5.mono hbel4.size)
    clear hba5 HV5 HB5 h1ck hzck HN4 HX4
    generalize w5.alloc (.cells ck 25)=W5 at *
    obtain⟨bk,hbk⟩:∃bk,bk=w5.heap.size:=⟨_,rfl⟩
    rw [←hbk] at HX5 ⊢
    have HT5:=hide (HTA.out.below hbel5)
    clear hbk hbel4 HT4
    as_aux_lemma=>
     go_upto_region 6 with (first | (refine wpList_load_row rfl 25 (.tmp 1) rfl bn rfl 25 cn (0,0) _ HN5.out.1 Tryz.underlying25 rfl (infN HN5.out.2.2) ?_) | (go_at_call 32;refine(RM.out _ _ HT5.out HN5.out.2.1).mono ?_;rintro e w6 ⟨v6,rfl,hv6,hb6⟩;have HV6:=hide hv6;have HB6:=hide hb6;clear hv6 hb6) | ((with_reducible show wpList _ _ _ _ _ _);refine store_tree rfl (.tmp 9) (.tmp 34) rfl v6 exL rfl rfl rfl HV6.out ?_;rintro cl rfl hzcl h1cl))
     have HX6:=hide (Nd.new HV6.out hzcl)
     have hba6:Below W5.heap.size W5 (w6.alloc (.cells cl 25)):=HB6.out.alloc HB6.out.size _
     have HN6:=hide (HN5.out.below hba6)
     have HX46:=hide (HX45.out.below hba6)
     have HX56:=hide (HX5.out.below hba6)
     have hbel6:=hbel5.trans (hba6.mono hbel5.size)
     clear hba6 HV6 HB6 h1cl hzcl HN5 HX45 HX5
     generalize w6.alloc (.cells cl 25)=W6 at *
     obtain⟨bl,hbl⟩:∃bl,bl=w6.heap.size:=⟨_,rfl⟩
     rw [←hbl] at HX6 ⊢
     have HT6:=hide (HTA.out.below hbel6)
     clear hbl hbel5 HT5
     as_aux_lemma=>
      go_upto_region 7 with (first | (refine wpList_load_row rfl 25 (.tmp 9) rfl bl rfl 25 cl (0,0) _ HX6.out.1 Tryz.underlying25 rfl (infN HX6.out.2.2) ?_) | (refine wpList_load_row rfl 25 (.tmp 7) rfl bk rfl 25 ck (0,0) _ HX56.out.1 Tryz.underlying25 rfl (infN HX56.out.2.2) ?_) | (go_at_call 30;refine(PU.out _ _ _ HT6.out HX6.out.2.1 HX56.out.2.1).mono ?_;rintro e w7 ⟨v7,rfl,hv7,hb7⟩;have HV7:=hide hv7;have HB7:=hide hb7;clear hv7 hb7) | ((with_reducible show wpList _ _ _ _ _ _);refine store_tree rfl (.tmp 11) (.tmp 40) rfl v7 exT rfl rfl rfl HV7.out ?_;rintro cm rfl hzcm h1cm))
      have HX7:=hide (Nd.new HV7.out hzcm)
      have hba7:Below W6.heap.size W6 (w7.alloc (.cells cm 25)):=HB7.out.alloc HB7.out.size _
      have HN7:=hide (HN6.out.below hba7)
      have HX47:=hide (HX46.out.below hba7)
      have HX57:=hide (HX56.out.below hba7)
      have HX67:=hide (HX6.out.below hba7)
      have hbel7:=hbel6.trans (hba7.mono hbel6.size)
      clear hba7 HV7 HB7 h1cm hzcm HN6 HX46 HX56 HX6
      generalize w7.alloc (.cells cm 25)=W7 at *
      obtain⟨bm,hbm⟩:∃bm,bm=w7.heap.size:=⟨_,rfl⟩
      rw [←hbm] at HX7 ⊢
      have HT7:=hide (HTA.out.below hbel7)
      clear hbm hbel6 HT6
      as_aux_lemma=>
       go_upto_region 8 with (first | (refine wpList_load_row rfl 25 (.tmp 1) rfl bn rfl 25 cn (0,0) _ HN7.out.1 Tryz.underlying25 rfl (infN HN7.out.2.2) ?_) | (go_at_call 14;refine(CH.out _ _ HT7.out HN7.out.2.1).mono ?_;rintro e w8 ⟨rfl,hb8⟩))
       have HS:=hide (show AwS w w8 bn bx bk bl bm cn cx ck cl cm from⟨hbel7.trans (hb8.mono hbel7.size),HN7.out.below hb8,HX47.out.below hb8,HX57.out.below hb8,HX67.out.below hb8,HX7.out.below hb8⟩)
       clear hb8 HN7 HX47 HX57 HX67 HX7 HT7 hbel7 PS GT RM PU CH
       as_aux_lemma=>
        have hk8:Below w8.heap.size w8 w8∧True:=⟨Below.refl _ _,trivial⟩
        have hk8d:Below w8.heap.size w8 w8.drew∧True:=⟨(Below.refl w8.heap.size w8).drew,trivial⟩
        have HTB:=hide (show ∀W,Below w8.heap.size w8 W→TabA W from fun W h=>HTA.out.below (HS.out.1.trans (h.mono HS.out.1.size)))
        have QX:=hide (show ∀W,Below w8.heap.size w8 W→Calls Tryz.prog 29 #[.agg cx,.agg cn] W fun e w'=>e=.returned (.bool true)∧Below W.heap.size W w' from fun W h=>by
          have h1:=requal_any exT.count exT exT (Nat.le_refl _) (by have:=ex_sz.1;omega) (by have:=ex_sz.1;omega) (.agg cx) (.agg cn) W (HS.out.2.2.1.2.1.later h) (HS.out.2.1.2.1.later h)
          rwa [decide_eq_true rfl] at h1)
        have QM:=hide (show ∀W,Below w8.heap.size w8 W→Calls Tryz.prog 40 #[.agg cm,.agg cn] W fun e w'=>e=.returned (.bool true)∧Below W.heap.size W w' from fun W h=>by
          have h1:=equal_any exT.count exT exT (Nat.le_refl _) (by have:=ex_sz.1;omega) (by have:=ex_sz.1;omega) (.agg cm) (.agg cn) W (HS.out.2.2.2.2.2.2.1.later h) (HS.out.2.1.2.1.later h)
          rwa [decide_eq_true rfl] at h1)
        have QL:=hide (show ∀W,Below w8.heap.size w8 W→Calls Tryz.prog 40 #[.agg cl,.agg cn] W fun e w'=>e=.returned (.bool false)∧Below W.heap.size W w' from fun W h=>by
          have h1:=equal_any exL.count exL exT (Nat.le_refl _) (by have:=ex_sz.2.2;omega) (by have:=ex_sz.1;omega) (.agg cl) (.agg cn) W (HS.out.2.2.2.2.1.2.1.later h) (HS.out.2.1.2.1.later h)
          rwa [decide_eq_false ex_ne] at h1)
        have VA:=hide (show ∀W,Below w8.heap.size w8 W→Calls Tryz.prog 20 #[.agg cn] W fun e w'=>e=.returned (.bool true)∧Below W.heap.size W w' from fun W h=>by
          have h1:=valid_any exT (Or.inl (by have:=ex_sz.1;omega)) (.agg cn) W (HTB.out W h).1 (HS.out.2.1.2.1.later h)
          rwa [ex_valid] at h1)
        have CO:=hide (show ∀W,Below w8.heap.size w8 W→Calls Tryz.prog 23 #[.agg cn] W fun e w'=>e=.returned (.int .i64 2)∧Below W.heap.size W w' from fun W h=>by
          have h1:=count_any exT (by have:=ex_sz.1;omega) (.agg cn) W (HS.out.2.1.2.1.later h)
          rwa [ex_count] at h1)
        have LE:=hide (show ∀W,Below w8.heap.size w8 W→Calls Tryz.prog 24 #[.agg cn] W fun e w'=>e=.returned (.int .i64 2)∧Below W.heap.size W w' from fun W h=>by
          have h1:=lev_any exT (by have:=ex_sz.1;omega) (.agg cn) W (HS.out.2.1.2.1.later h)
          rwa [ex_lev] at h1)
        have PA:=hide (show ∀W,Below w8.heap.size w8 W→Calls Tryz.prog 27 #[.agg cn] W fun e w'=>∃r,e=.returned r∧SlR w' w'.heap.size r [eS,abS]∧Below W.heap.size W w' from fun W h=>by
          have h1:=paths_any exT (by have:=ex_sz.1;omega) (.agg cn) W (HTB.out W h).1 (HS.out.2.1.2.1.later h)
          rw [ex_paths] at h1
          exact h1.mono fun e w' ⟨r,h2,h3,h4⟩=>⟨r,h2,SlR.of h3,h4⟩)
        have SQ:=hide (show ∀(a b:Value) (W:World),SlR W W.heap.size a [eS,abS]→SlR W W.heap.size b [eS,abS]→Calls Tryz.prog 43 #[a,b] W fun e w'=>e=.returned (.bool true)∧Below W.heap.size W w' from fun a b W h1 h2=>by
          have h3:=sequal_any [eS,abS] [eS,abS] a b W.heap.size (by simp) (by simp) W h1 h2
          rwa [decide_eq_true rfl] at h3)
        have NA:=hide (show ∀W,Below w8.heap.size w8 W→Calls Tryz.prog 16 #[.string abS] W fun e w'=>e=.returned (.bool true)∧Below W.heap.size W w' from fun W h=>by have h1:=name_any abS (by decide) W (HTB.out W h).1.1;rwa [ex_name] at h1)
        have NB:=hide (show ∀W,Below w8.heap.size w8 W→Calls Tryz.prog 16 #[.string ⟨#[97,47,98]⟩] W fun e w'=>e=.returned (.bool false)∧Below W.heap.size W w' from fun W h=>by have h1:=name_any ⟨#[97,47,98]⟩ (by decide) W (HTB.out W h).1.1;rwa [ex_noname] at h1)
        have TA:=hide (show ∀W,Below w8.heap.size w8 W→Calls Tryz.prog 18 #[.string ⟨#[47,97,47,46,46]⟩] W fun e w'=>e=.returned (.bool true)∧Below W.heap.size W w' from fun W h=>by have h1:=target_any ⟨#[47,97,47,46,46]⟩ (by decide) W (HTB.out W h).1;rwa [ex_target] at h1)
        have TB:=hide (show ∀W,Below w8.heap.size w8 W→Calls Tryz.prog 18 #[.string ⟨#[97,47]⟩] W fun e w'=>e=.returned (.bool false)∧Below W.heap.size W w' from fun W h=>by have h1:=target_any ⟨#[97,47]⟩ (by decide) W (HTB.out W h).1;rwa [ex_notarget] at h1)
        have SO:=hide (show ∀W,Below w8.heap.size w8 W→Calls Tryz.prog 38 #[.agg cn] W fun e w'=>∃r,e=.returned r∧TreeR w' w'.heap.size r exT∧Below W.heap.size W w' from fun W h=>
          (sort_thin exT.count exT (Nat.le_refl _) (by have:=ex_sz.1;omega) ex_thin (.agg cn) W (HS.out.2.1.2.1.later h)).mono fun e w' ⟨r,h2,h3,h4⟩=>⟨r,h2,h3.read,h4⟩)
        have QS:=hide (show ∀W r,Below w8.heap.size w8 W→TreeR W W.heap.size r exT→Calls Tryz.prog 29 #[r,.agg cn] W fun e w'=>e=.returned (.bool true)∧Below W.heap.size W w' from fun W r h hr=>by
          have h1:=requal_any exT.count exT exT (Nat.le_refl _) (by have:=ex_sz.1;omega) (by have:=ex_sz.1;omega) r (.agg cn) W hr (HS.out.2.1.2.1.later h)
          rwa [decide_eq_true rfl] at h1)
        have ck2:=hide (show ck[2]? = some (.string ⟨#[104,105]⟩) by obtain⟨kv,sv,e,_⟩:=HS.out.2.2.2.1.2.1;injection e with e;rw [e];rfl)
        obtain⟨al,acl,cl10'⟩:∃A c,cl[10]? = some (.slice A 0 c):=by obtain⟨A,c,A2,c2,e,_⟩:=HS.out.2.2.2.2.1.2.1.open;injection e with e;exact⟨A,c,by rw [e];rfl⟩
        have cl10:=hide cl10'
        clear cl10'
        refine wp_region_noPanic ?_
        refine wp_region_held_drew (S:=(fun z=>Below w8.heap.size w8 z∧True)) (by kernel_rfl) kp (fun hHeld=>?_)
        refine tkZ 0 ⟨some 47,.move (.tmp 3),29, "law.go:28",#[],none⟩ ?_
        refine tkZ 1 ⟨some 48,.binOp .eql 29 (.tmp 47) (.const (.int .i64 0)) 29,4, "law.go:28",#[⟨0,.data⟩],none⟩ ?_
        refine tkZ 2 ⟨some 49,.move (.tmp 48),4, "law.go:28",#[⟨1,.data⟩],none⟩ ?_
        refine tkZ 3 ⟨some 50,.move (.tmp 2),9, "law.go:28",#[⟨2,.guard⟩],some (2,true)⟩ ?_
        refine tkZ 4 ⟨some 51,.binOp .eql 9 (.tmp 50) (.const (.string { data:=([100,105,114,101,99,116,111,114,121,32,49,32,61,32,52,57,51,32,48,32,48,32,49,48,48,48,48,48,48,48,48,48,32,48,32,48,10,102].append [105,108,101,32,50,32,97,37,50,48,98,32,52,50,48,32,48,32,48,32,49,48,48,48,48,48,48,48,48,48,32,48,32,48,32,104,105,10]).toArray })) 9,4, "law.go:28",#[⟨3,.data⟩,⟨2,.guard⟩],some (2,true)⟩ ?_ (by intro w hSw;(try dsimp only at hSw);go_simp;exact congrArg Value.bool ex_beq)
        refine tkZ 5 ⟨some 52,.pick (.tmp 49) (.tmp 51) (.const (.bool false)),4, "law.go:28",#[⟨2,.data⟩,⟨4,.data⟩],none⟩ ?_
        refine tkZ 6 ⟨some 53,.move (.tmp 52),4, "law.go:28",#[⟨5,.data⟩,⟨2,.chain⟩],none⟩ ?_
        refine tkZ 7 ⟨some 54,.move (.tmp 6),29, "law.go:28",#[⟨6,.guard⟩],some (6,true)⟩ ?_
        refine tkZ 8 ⟨some 55,.binOp .eql 29 (.tmp 54) (.const (.int .i64 0)) 29,4, "law.go:28",#[⟨7,.data⟩,⟨6,.guard⟩],some (6,true)⟩ ?_
        refine tkZ 9 ⟨some 56,.pick (.tmp 53) (.tmp 55) (.const (.bool false)),4, "law.go:28",#[⟨6,.data⟩,⟨8,.data⟩],none⟩ ?_
        refine tkZ 10 ⟨some 57,.move (.tmp 56),4, "law.go:28",#[⟨9,.data⟩,⟨6,.chain⟩],none⟩ ?_
        refine tkZ 11 ⟨some 58,.move (.tmp 5),3, "law.go:28",#[⟨10,.guard⟩],some (10,true)⟩ ?_
        refine tkZ 12 ⟨some 59,.binOp .eql 3 (.tmp 58) (.const (.int .i64 0)) 3,4, "law.go:28",#[⟨11,.data⟩,⟨10,.guard⟩],some (10,true)⟩ ?_
        refine tkZ 13 ⟨some 60,.pick (.tmp 57) (.tmp 59) (.const (.bool false)),4, "law.go:28",#[⟨10,.data⟩,⟨12,.data⟩],none⟩ ?_
        as_aux_lemma=>
         refine tkZ 14 ⟨some 61,.move (.tmp 60),4, "law.go:28",#[⟨13,.data⟩,⟨10,.chain⟩],none⟩ ?_
         refine tkZ 15 ⟨some 62,.load 25 (.tmp 4),25, "law.go:28",#[⟨14,.guard⟩],some (14,true)⟩ ?_ (by intro w hSw;(try dsimp only at hSw);refine(exec_load_row 25 (.tmp 4) (by rfl) bx (by rfl) 25 cx (0,0) _ (Blk.below hSw.1 HS.out.2.2.1.1) Tryz.underlying25 (by rfl) (infN HS.out.2.2.1.2.2)).trans ?_;with_reducible rfl)
         refine tkZ 16 ⟨some 63,.load 25 (.tmp 1),25, "law.go:28",#[⟨14,.guard⟩],some (14,true)⟩ ?_ (by intro w hSw;(try dsimp only at hSw);refine(exec_load_row 25 (.tmp 1) (by rfl) bn (by rfl) 25 cn (0,0) _ (Blk.below hSw.1 HS.out.2.1.1) Tryz.underlying25 (by rfl) (infN HS.out.2.1.2.2)).trans ?_;with_reducible rfl)
         refine rqS [17] (rqC ⟨some 64,.call ⟨.value (.func 29),#[.tmp 62,.tmp 63],#[25,25]⟩,4, "law.go:28",#[⟨15,.data⟩,⟨16,.data⟩,⟨14,.chain⟩,⟨14,.guard⟩],some (14,true)⟩ (fun K hK=>?_) rq0)
         go_simp
         (first | (go_at_call 29;(with_reducible refine(QX.out _ hHeld.1).mono ?_);rintro e w9 ⟨rfl,hb9⟩;have hk9:Below w8.heap.size w8 w9∧True:=⟨hHeld.1.trans (hb9.mono hHeld.1.size),trivial⟩) | (go_at_call 29;(with_reducible refine Calls.mono (QS.out _ _ hHeld.1 (by with_reducible assumption)) ?_);rintro e w9 ⟨rfl,hb9⟩;have hk9:Below w8.heap.size w8 w9∧True:=⟨hHeld.1.trans (hb9.mono hHeld.1.size),trivial⟩))
         go_wp2_with fail
         refine hK.out _ _ kp (fun hHeld=>?_)
         clear hK K
         try simp only [PT]
         refine tkZ 18 ⟨some 65,.pick (.tmp 61) (.tmp 64) (.const (.bool false)),4, "law.go:28",#[⟨14,.data⟩,⟨17,.data⟩],none⟩ ?_
         refine tkZ 19 ⟨some 66,.move (.tmp 65),4, "law.go:28",#[⟨18,.data⟩,⟨17,.chain⟩],none⟩ ?_
         refine tkZ 20 ⟨some 67,.move (.tmp 8),29, "law.go:28",#[⟨19,.guard⟩],some (19,true)⟩ ?_
         refine tkZ 21 ⟨some 68,.binOp .eql 29 (.tmp 67) (.const (.int .i64 0)) 29,4, "law.go:28",#[⟨20,.data⟩,⟨19,.guard⟩],some (19,true)⟩ ?_
         refine tkZ 22 ⟨some 69,.pick (.tmp 66) (.tmp 68) (.const (.bool false)),4, "law.go:28",#[⟨19,.data⟩,⟨21,.data⟩],none⟩ ?_
         refine tkZ 23 ⟨some 70,.move (.tmp 69),4, "law.go:28",#[⟨22,.data⟩,⟨19,.chain⟩],none⟩ ?_
         refine tkZ 24 ⟨some 71,.fieldAddr 25 (.tmp 7) 2,0, "law.go:28",#[⟨23,.guard⟩],some (23,true)⟩ ?_
         refine tkZ 25 ⟨some 72,.load 9 (.tmp 71),9, "law.go:28",#[⟨24,.data⟩,⟨23,.guard⟩],some (23,true)⟩ ?_ (by intro w hSw;(try dsimp only at hSw);have c2:=(Blk.below hSw.1 HS.out.2.2.2.1.1).cells 2;rw [ck2.out] at c2;go_simp;(try with_reducible rfl))
         refine tkZ 26 ⟨some 73,.binOp .eql 9 (.tmp 72) (.const (.string { data:=#[104,105] })) 9,4, "law.go:28",#[⟨25,.data⟩,⟨23,.guard⟩],some (23,true)⟩ ?_
         refine tkZ 27 ⟨some 74,.pick (.tmp 70) (.tmp 73) (.const (.bool false)),4, "law.go:28",#[⟨23,.data⟩,⟨26,.data⟩],none⟩ ?_
         refine tkZ 28 ⟨some 75,.move (.tmp 74),4, "law.go:28",#[⟨27,.data⟩,⟨23,.chain⟩],none⟩ ?_
         as_aux_lemma=>
          refine tkZ 29 ⟨some 76,.move (.tmp 10),29, "law.go:28",#[⟨28,.guard⟩],some (28,true)⟩ ?_
          refine tkZ 30 ⟨some 77,.binOp .eql 29 (.tmp 76) (.const (.int .i64 0)) 29,4, "law.go:28",#[⟨29,.data⟩,⟨28,.guard⟩],some (28,true)⟩ ?_
          refine tkZ 31 ⟨some 78,.pick (.tmp 75) (.tmp 77) (.const (.bool false)),4, "law.go:28",#[⟨28,.data⟩,⟨30,.data⟩],none⟩ ?_
          refine tkZ 32 ⟨some 79,.move (.tmp 78),4, "law.go:28",#[⟨31,.data⟩,⟨28,.chain⟩],none⟩ ?_
          refine tkZ 33 ⟨some 80,.fieldAddr 25 (.tmp 9) 10,0, "law.go:28",#[⟨32,.guard⟩],some (32,true)⟩ ?_
          refine tkZ 34 ⟨some 81,.load 22 (.tmp 80),22, "law.go:28",#[⟨33,.data⟩,⟨32,.guard⟩],some (32,true)⟩ ?_ (by intro w hSw;(try dsimp only at hSw);have c2:=(Blk.below hSw.1 HS.out.2.2.2.2.1.1).cells 10;rw [cl10.out] at c2;go_simp;(try with_reducible rfl))
          refine rqS [35] (rqC ⟨some 82,.call ⟨.builtin .len,#[.tmp 81],#[22]⟩,3, "law.go:28",#[⟨34,.data⟩,⟨32,.guard⟩],some (32,true)⟩ (fun K hK=>?_) rq0)
          go_simp
          refine hK.out _ _ kp (fun hHeld=>?_)
          clear hK K
          try simp only [PT]
          refine tkZ 36 ⟨some 83,.binOp .eql 3 (.tmp 82) (.const (.int .i64 0)) 3,4, "law.go:28",#[⟨35,.data⟩,⟨32,.guard⟩],some (32,true)⟩ ?_
          refine tkZ 37 ⟨some 84,.pick (.tmp 79) (.tmp 83) (.const (.bool false)),4, "law.go:28",#[⟨32,.data⟩,⟨36,.data⟩],none⟩ ?_
          refine tkZ 38 ⟨some 85,.move (.tmp 84),4, "law.go:28",#[⟨37,.data⟩,⟨32,.chain⟩],none⟩ ?_
          refine tkZ 39 ⟨some 86,.move (.tmp 12),29, "law.go:28",#[⟨38,.guard⟩],some (38,true)⟩ ?_
          refine tkZ 40 ⟨some 87,.binOp .eql 29 (.tmp 86) (.const (.int .i64 0)) 29,4, "law.go:28",#[⟨39,.data⟩,⟨38,.guard⟩],some (38,true)⟩ ?_
          refine tkZ 41 ⟨some 88,.pick (.tmp 85) (.tmp 87) (.const (.bool false)),4, "law.go:28",#[⟨38,.data⟩,⟨40,.data⟩],none⟩ ?_
          refine tkZ 42 ⟨some 89,.move (.tmp 88),4, "law.go:28",#[⟨41,.data⟩,⟨38,.chain⟩],none⟩ ?_
          refine tkZ 43 ⟨some 90,.load 25 (.tmp 11),25, "law.go:28",#[⟨42,.guard⟩],some (42,true)⟩ ?_ (by intro w hSw;(try dsimp only at hSw);refine(exec_load_row 25 (.tmp 11) (by rfl) bm (by rfl) 25 cm (0,0) _ (Blk.below hSw.1 HS.out.2.2.2.2.2.1) Tryz.underlying25 (by rfl) (infN HS.out.2.2.2.2.2.2.2)).trans ?_;with_reducible rfl)
          as_aux_lemma=>
           refine tkZ 44 ⟨some 91,.load 25 (.tmp 1),25, "law.go:28",#[⟨42,.guard⟩],some (42,true)⟩ ?_ (by intro w hSw;(try dsimp only at hSw);refine(exec_load_row 25 (.tmp 1) (by rfl) bn (by rfl) 25 cn (0,0) _ (Blk.below hSw.1 HS.out.2.1.1) Tryz.underlying25 (by rfl) (infN HS.out.2.1.2.2)).trans ?_;with_reducible rfl)
           refine rqS [45] (rqC ⟨some 92,.call ⟨.value (.func 40),#[.tmp 90,.tmp 91],#[25,25]⟩,4, "law.go:28",#[⟨43,.data⟩,⟨44,.data⟩,⟨42,.chain⟩,⟨42,.guard⟩],some (42,true)⟩ (fun K hK=>?_) rq0)
           go_simp
           (first | (go_at_call 40;(with_reducible refine(QM.out _ hHeld.1).mono ?_);rintro e w9 ⟨rfl,hb9⟩;have hk9:Below w8.heap.size w8 w9∧True:=⟨hHeld.1.trans (hb9.mono hHeld.1.size),trivial⟩) | (go_at_call 40;(with_reducible refine(QL.out _ hHeld.1).mono ?_);rintro e w9 ⟨rfl,hb9⟩;have hk9:Below w8.heap.size w8 w9∧True:=⟨hHeld.1.trans (hb9.mono hHeld.1.size),trivial⟩))
           go_wp2_with fail
           refine hK.out _ _ kp (fun hHeld=>?_)
           clear hK K
           try simp only [PT]
           refine tkZ 46 ⟨some 93,.pick (.tmp 89) (.tmp 92) (.const (.bool false)),4, "law.go:28",#[⟨42,.data⟩,⟨45,.data⟩],none⟩ ?_
           refine tkZ 47 ⟨some 94,.move (.tmp 93),4, "law.go:28",#[⟨46,.data⟩,⟨45,.chain⟩],none⟩ ?_
           refine tkZ 48 ⟨some 95,.load 25 (.tmp 9),25, "law.go:28",#[⟨47,.guard⟩],some (47,true)⟩ ?_ (by intro w hSw;(try dsimp only at hSw);refine(exec_load_row 25 (.tmp 9) (by rfl) bl (by rfl) 25 cl (0,0) _ (Blk.below hSw.1 HS.out.2.2.2.2.1.1) Tryz.underlying25 (by rfl) (infN HS.out.2.2.2.2.1.2.2)).trans ?_;with_reducible rfl)
           refine tkZ 49 ⟨some 96,.load 25 (.tmp 1),25, "law.go:28",#[⟨47,.guard⟩],some (47,true)⟩ ?_ (by intro w hSw;(try dsimp only at hSw);refine(exec_load_row 25 (.tmp 1) (by rfl) bn (by rfl) 25 cn (0,0) _ (Blk.below hSw.1 HS.out.2.1.1) Tryz.underlying25 (by rfl) (infN HS.out.2.1.2.2)).trans ?_;with_reducible rfl)
           refine rqS [50] (rqC ⟨some 97,.call ⟨.value (.func 40),#[.tmp 95,.tmp 96],#[25,25]⟩,4, "law.go:28",#[⟨48,.data⟩,⟨49,.data⟩,⟨47,.chain⟩,⟨47,.guard⟩],some (47,true)⟩ (fun K hK=>?_) rq0)
           go_simp
           (first | (go_at_call 40;(with_reducible refine(QM.out _ hHeld.1).mono ?_);rintro e w9 ⟨rfl,hb9⟩;have hk9:Below w8.heap.size w8 w9∧True:=⟨hHeld.1.trans (hb9.mono hHeld.1.size),trivial⟩) | (go_at_call 40;(with_reducible refine(QL.out _ hHeld.1).mono ?_);rintro e w9 ⟨rfl,hb9⟩;have hk9:Below w8.heap.size w8 w9∧True:=⟨hHeld.1.trans (hb9.mono hHeld.1.size),trivial⟩))
           go_wp2_with fail
           refine hK.out _ _ kp (fun hHeld=>?_)
           clear hK K
           try simp only [PT]
           refine tkZ 51 ⟨some 98,.unOp .not 4 (.tmp 97),4, "law.go:28",#[⟨50,.data⟩,⟨47,.guard⟩],some (47,true)⟩ ?_
           refine tkZ 52 ⟨some 99,.pick (.tmp 94) (.tmp 98) (.const (.bool false)),4, "law.go:28",#[⟨47,.data⟩,⟨51,.data⟩],none⟩ ?_
           refine tkZ 53 ⟨some 100,.move (.tmp 99),4, "law.go:28",#[⟨52,.data⟩,⟨50,.chain⟩],none⟩ ?_
           refine tkZ 54 ⟨some 101,.move (.tmp 14),29, "law.go:28",#[⟨53,.guard⟩],some (53,true)⟩ ?_
           refine tkZ 55 ⟨some 102,.binOp .eql 29 (.tmp 101) (.const (.int .i64 0)) 29,4, "law.go:28",#[⟨54,.data⟩,⟨53,.guard⟩],some (53,true)⟩ ?_
           refine tkZ 56 ⟨some 103,.pick (.tmp 100) (.tmp 102) (.const (.bool false)),4, "law.go:28",#[⟨53,.data⟩,⟨55,.data⟩],none⟩ ?_
           refine tkZ 57 ⟨some 104,.move (.tmp 103),4, "law.go:28",#[⟨56,.data⟩,⟨53,.chain⟩],none⟩ ?_
           refine tkZ 58 ⟨some 105,.move (.tmp 13),9, "law.go:28",#[⟨57,.guard⟩],some (57,true)⟩ ?_
           as_aux_lemma=>
            refine tkZ 59 ⟨some 106,.binOp .eql 9 (.tmp 105) (.const (.string { data:=#[] })) 9,4, "law.go:28",#[⟨58,.data⟩,⟨57,.guard⟩],some (57,true)⟩ ?_
            refine tkZ 60 ⟨some 107,.pick (.tmp 104) (.tmp 106) (.const (.bool false)),4, "law.go:28",#[⟨57,.data⟩,⟨59,.data⟩],none⟩ ?_
            refine tkZ 61 ⟨some 108,.move (.tmp 107),4, "law.go:28",#[⟨60,.data⟩,⟨57,.chain⟩],none⟩ ?_
            refine tkZ 62 ⟨some 109,.load 25 (.tmp 1),25, "law.go:28",#[⟨61,.guard⟩],some (61,true)⟩ ?_ (by intro w hSw;(try dsimp only at hSw);refine(exec_load_row 25 (.tmp 1) (by rfl) bn (by rfl) 25 cn (0,0) _ (Blk.below hSw.1 HS.out.2.1.1) Tryz.underlying25 (by rfl) (infN HS.out.2.1.2.2)).trans ?_;with_reducible rfl)
            refine rqS [63] (rqC ⟨some 110,.call ⟨.value (.func 20),#[.tmp 109],#[25]⟩,4, "law.go:28",#[⟨62,.data⟩,⟨61,.chain⟩,⟨61,.guard⟩],some (61,true)⟩ (fun K hK=>?_) rq0)
            go_simp
            (go_at_call 20;(with_reducible refine(VA.out _ hHeld.1).mono ?_);rintro e w9 ⟨rfl,hb9⟩;have hk9:Below w8.heap.size w8 w9∧True:=⟨hHeld.1.trans (hb9.mono hHeld.1.size),trivial⟩)
            go_wp2_with fail
            refine hK.out _ _ kp (fun hHeld=>?_)
            clear hK K
            try simp only [PT]
            refine tkZ 64 ⟨some 111,.pick (.tmp 108) (.tmp 110) (.const (.bool false)),4, "law.go:28",#[⟨61,.data⟩,⟨63,.data⟩],none⟩ ?_
            refine tkZ 65 ⟨some 112,.move (.tmp 111),4, "law.go:28",#[⟨64,.data⟩,⟨63,.chain⟩],none⟩ ?_
            refine tkZ 66 ⟨some 113,.load 25 (.tmp 1),25, "law.go:28",#[⟨65,.guard⟩],some (65,true)⟩ ?_ (by intro w hSw;(try dsimp only at hSw);refine(exec_load_row 25 (.tmp 1) (by rfl) bn (by rfl) 25 cn (0,0) _ (Blk.below hSw.1 HS.out.2.1.1) Tryz.underlying25 (by rfl) (infN HS.out.2.1.2.2)).trans ?_;with_reducible rfl)
            refine rqS [67] (rqC ⟨some 114,.call ⟨.value (.func 23),#[.tmp 113],#[25]⟩,3, "law.go:28",#[⟨66,.data⟩,⟨65,.chain⟩,⟨65,.guard⟩],some (65,true)⟩ (fun K hK=>?_) rq0)
            go_simp
            (go_at_call 23;(with_reducible refine(CO.out _ hHeld.1).mono ?_);rintro e w9 ⟨rfl,hb9⟩;have hk9:Below w8.heap.size w8 w9∧True:=⟨hHeld.1.trans (hb9.mono hHeld.1.size),trivial⟩)
            go_wp2_with fail
            refine hK.out _ _ kp (fun hHeld=>?_)
            clear hK K
            try simp only [PT]
            refine tkZ 68 ⟨some 115,.binOp .eql 3 (.tmp 114) (.const (.int .i64 2)) 3,4, "law.go:28",#[⟨67,.data⟩,⟨65,.guard⟩],some (65,true)⟩ ?_
            refine tkZ 69 ⟨some 116,.pick (.tmp 112) (.tmp 115) (.const (.bool false)),4, "law.go:28",#[⟨65,.data⟩,⟨68,.data⟩],none⟩ ?_
            refine tkZ 70 ⟨some 117,.move (.tmp 116),4, "law.go:28",#[⟨69,.data⟩,⟨67,.chain⟩],none⟩ ?_
            refine tkZ 71 ⟨some 118,.load 25 (.tmp 1),25, "law.go:28",#[⟨70,.guard⟩],some (70,true)⟩ ?_ (by intro w hSw;(try dsimp only at hSw);refine(exec_load_row 25 (.tmp 1) (by rfl) bn (by rfl) 25 cn (0,0) _ (Blk.below hSw.1 HS.out.2.1.1) Tryz.underlying25 (by rfl) (infN HS.out.2.1.2.2)).trans ?_;with_reducible rfl)
            refine rqS [72] (rqC ⟨some 119,.call ⟨.value (.func 24),#[.tmp 118],#[25]⟩,3, "law.go:28",#[⟨71,.data⟩,⟨70,.chain⟩,⟨70,.guard⟩],some (70,true)⟩ (fun K hK=>?_) rq0)
            go_simp
            (go_at_call 24;(with_reducible refine(LE.out _ hHeld.1).mono ?_);rintro e w9 ⟨rfl,hb9⟩;have hk9:Below w8.heap.size w8 w9∧True:=⟨hHeld.1.trans (hb9.mono hHeld.1.size),trivial⟩;have hk9a:Below w8.heap.size w8 (w9.alloc (.cells #[.string ⟨#[]⟩,.string ⟨#[97,32,98]⟩] 9))∧True:=⟨hk9.1.alloc hk9.1.size _,trivial⟩)
            go_wp2_with fail
            refine hK.out _ _ kp (fun hHeld=>?_)
            clear hK K
            try simp only [PT]
            refine tkZ 73 ⟨some 120,.binOp .eql 3 (.tmp 119) (.const (.int .i64 2)) 3,4, "law.go:28",#[⟨72,.data⟩,⟨70,.guard⟩],some (70,true)⟩ ?_
            as_aux_lemma=>
             refine tkZ 74 ⟨some 121,.pick (.tmp 117) (.tmp 120) (.const (.bool false)),4, "law.go:28",#[⟨70,.data⟩,⟨73,.data⟩],none⟩ ?_
             refine tkZ 75 ⟨some 122,.move (.tmp 121),4, "law.go:28",#[⟨74,.data⟩,⟨72,.chain⟩],none⟩ ?_
             refine tkZ 76 ⟨some 123,.load 25 (.tmp 1),25, "law.go:28",#[⟨75,.guard⟩],some (75,true)⟩ ?_ (by intro w hSw;(try dsimp only at hSw);refine(exec_load_row 25 (.tmp 1) (by rfl) bn (by rfl) 25 cn (0,0) _ (Blk.below hSw.1 HS.out.2.1.1) Tryz.underlying25 (by rfl) (infN HS.out.2.1.2.2)).trans ?_;with_reducible rfl)
             refine rqS [77,78] (rqC ⟨some 124,.call ⟨.value (.func 27),#[.tmp 123],#[25]⟩,38, "law.go:28",#[⟨76,.data⟩,⟨75,.chain⟩,⟨75,.guard⟩],some (75,true)⟩ (fun K hK=>?_) (rqC ⟨some 125,.buildSlice 38 2 #[(0,.const (.string { data:=#[] })),(1,.const (.string { data:=#[97,32,98] }))],38, "law.go:28",#[⟨75,.guard⟩],some (75,true)⟩ (fun K hK=>?_) rq0))
             focus
              go_simp
              (go_at_call 27;(with_reducible refine(PA.out _ hHeld.1).mono ?_);rintro e w9 ⟨v9,rfl,hv9,hb9⟩;have hk9:Below w8.heap.size w8 w9∧True:=⟨hHeld.1.trans (hb9.mono hHeld.1.size),trivial⟩;have hk9a:Below w8.heap.size w8 (w9.alloc (.cells #[.string ⟨#[]⟩,.string ⟨#[97,32,98]⟩] 9))∧True:=⟨hk9.1.alloc hk9.1.size _,trivial⟩;have rA:=hv9.later2 (Below.one w9 (.cells #[.string ⟨#[]⟩,.string ⟨#[97,32,98]⟩] 9));have rB:=SlR.two w9 ⟨#[]⟩ ⟨#[97,32,98]⟩;(try have rC:=SlR.later2 (SlR.two _ _ _) hb9))
              go_wp2_with fail
              refine hK.out _ _ kp (fun hHeld=>?_)
              clear hK K
              try simp only [PT]
              refine rqS [78] (rqC ⟨some 125,.buildSlice 38 2 #[(0,.const (.string { data:=#[] })),(1,.const (.string { data:=#[97,32,98] }))],38, "law.go:28",#[⟨75,.guard⟩],some (75,true)⟩ (fun K hK=>?_) rq0)
              go_simp
              refine hK.out _ _ kp (fun hHeld=>?_)
              clear hK K
              try simp only [PT]
              refine rqS [79] (rqC ⟨some 126,.call ⟨.value (.func 43),#[.tmp 124,.tmp 125],#[38,38]⟩,4, "law.go:28",#[⟨77,.data⟩,⟨78,.data⟩,⟨77,.chain⟩,⟨75,.guard⟩],some (75,true)⟩ (fun K hK=>?_) rq0)
              go_simp
              (go_at_call 43;(with_reducible refine Calls.mono (SQ.out _ _ _ (by with_reducible assumption) (by with_reducible assumption)) ?_);rintro e w9 ⟨rfl,hb9⟩;have hk9:Below w8.heap.size w8 w9∧True:=⟨hHeld.1.trans (hb9.mono hHeld.1.size),trivial⟩)
              go_wp2_with fail
              refine hK.out _ _ kp (fun hHeld=>?_)
              clear hK K
              try simp only [PT]
              refine tkZ 80 ⟨some 127,.pick (.tmp 122) (.tmp 126) (.const (.bool false)),4, "law.go:28",#[⟨75,.data⟩,⟨79,.data⟩],none⟩ ?_
              refine tkZ 81 ⟨some 128,.move (.tmp 127),4, "law.go:28",#[⟨80,.data⟩,⟨79,.chain⟩],none⟩ ?_
              refine rqS [82] (rqC ⟨some 129,.call { callee:=.value (.func 16),args:=#[.const (.string { data:=#[97,32,98] })],argTypes:=#[9] },4, "law.go:28",#[⟨81,.chain⟩,⟨81,.guard⟩],some (81,true)⟩ (fun K hK=>?_) rq0)
              go_simp
              (first | (go_at_call 16;(with_reducible refine(NA.out _ hHeld.1).mono ?_);rintro e w9 ⟨rfl,hb9⟩;have hk9:Below w8.heap.size w8 w9∧True:=⟨hHeld.1.trans (hb9.mono hHeld.1.size),trivial⟩) | (go_at_call 16;(with_reducible refine(NB.out _ hHeld.1).mono ?_);rintro e w9 ⟨rfl,hb9⟩;have hk9:Below w8.heap.size w8 w9∧True:=⟨hHeld.1.trans (hb9.mono hHeld.1.size),trivial⟩))
              go_wp2_with fail
              refine hK.out _ _ kp (fun hHeld=>?_)
              clear hK K
              try simp only [PT]
              refine tkZ 83 ⟨some 130,.pick (.tmp 128) (.tmp 129) (.const (.bool false)),4, "law.go:28",#[⟨81,.data⟩,⟨82,.data⟩],none⟩ ?_
              refine tkZ 84 ⟨some 131,.move (.tmp 130),4, "law.go:28",#[⟨83,.data⟩,⟨82,.chain⟩],none⟩ ?_
              refine rqS [85] (rqC ⟨some 132,.call { callee:=.value (.func 16),args:=#[.const (.string { data:=#[97,47,98] })],argTypes:=#[9] },4, "law.go:28",#[⟨84,.chain⟩,⟨84,.guard⟩],some (84,true)⟩ (fun K hK=>?_) rq0)
              go_simp
              (first | (go_at_call 16;(with_reducible refine(NA.out _ hHeld.1).mono ?_);rintro e w9 ⟨rfl,hb9⟩;have hk9:Below w8.heap.size w8 w9∧True:=⟨hHeld.1.trans (hb9.mono hHeld.1.size),trivial⟩) | (go_at_call 16;(with_reducible refine(NB.out _ hHeld.1).mono ?_);rintro e w9 ⟨rfl,hb9⟩;have hk9:Below w8.heap.size w8 w9∧True:=⟨hHeld.1.trans (hb9.mono hHeld.1.size),trivial⟩))
              go_wp2_with fail
              refine hK.out _ _ kp (fun hHeld=>?_)
              clear hK K
              try simp only [PT]
              refine tkZ 86 ⟨some 133,.unOp .not 4 (.tmp 132),4, "law.go:28",#[⟨85,.data⟩,⟨84,.guard⟩],some (84,true)⟩ ?_
              refine tkZ 87 ⟨some 134,.pick (.tmp 131) (.tmp 133) (.const (.bool false)),4, "law.go:28",#[⟨84,.data⟩,⟨86,.data⟩],none⟩ ?_
              refine tkZ 88 ⟨some 135,.move (.tmp 134),4, "law.go:28",#[⟨87,.data⟩,⟨85,.chain⟩],none⟩ ?_
              as_aux_lemma=>
               refine rqS [89] (rqC ⟨some 136,.call { callee:=.value (.func 18),args:=#[.const (.string { data:=#[47,97,47,46,46] })],argTypes:=#[9] },4, "law.go:28",#[⟨88,.chain⟩,⟨88,.guard⟩],some (88,true)⟩ (fun K hK=>?_) rq0)
               go_simp
               (first | (go_at_call 18;(with_reducible refine(TA.out _ hHeld.1).mono ?_);rintro e w9 ⟨rfl,hb9⟩;have hk9:Below w8.heap.size w8 w9∧True:=⟨hHeld.1.trans (hb9.mono hHeld.1.size),trivial⟩) | (go_at_call 18;(with_reducible refine(TB.out _ hHeld.1).mono ?_);rintro e w9 ⟨rfl,hb9⟩;have hk9:Below w8.heap.size w8 w9∧True:=⟨hHeld.1.trans (hb9.mono hHeld.1.size),trivial⟩))
               go_wp2_with fail
               refine hK.out _ _ kp (fun hHeld=>?_)
               clear hK K
               try simp only [PT]
               refine tkZ 90 ⟨some 137,.pick (.tmp 135) (.tmp 136) (.const (.bool false)),4, "law.go:28",#[⟨88,.data⟩,⟨89,.data⟩],none⟩ ?_
               refine tkZ 91 ⟨some 138,.move (.tmp 137),4, "law.go:28",#[⟨90,.data⟩,⟨89,.chain⟩],none⟩ ?_
               refine rqS [92] (rqC ⟨some 139,.call { callee:=.value (.func 18),args:=#[.const (.string { data:=#[97,47] })],argTypes:=#[9] },4, "law.go:28",#[⟨91,.chain⟩,⟨91,.guard⟩],some (91,true)⟩ (fun K hK=>?_) rq0)
               go_simp
               (first | (go_at_call 18;(with_reducible refine(TA.out _ hHeld.1).mono ?_);rintro e w9 ⟨rfl,hb9⟩;have hk9:Below w8.heap.size w8 w9∧True:=⟨hHeld.1.trans (hb9.mono hHeld.1.size),trivial⟩) | (go_at_call 18;(with_reducible refine(TB.out _ hHeld.1).mono ?_);rintro e w9 ⟨rfl,hb9⟩;have hk9:Below w8.heap.size w8 w9∧True:=⟨hHeld.1.trans (hb9.mono hHeld.1.size),trivial⟩))
               go_wp2_with fail
               refine hK.out _ _ kp (fun hHeld=>?_)
               clear hK K
               try simp only [PT]
               refine tkZ 93 ⟨some 140,.unOp .not 4 (.tmp 139),4, "law.go:28",#[⟨92,.data⟩,⟨91,.guard⟩],some (91,true)⟩ ?_
               refine tkZ 94 ⟨some 141,.pick (.tmp 138) (.tmp 140) (.const (.bool false)),4, "law.go:28",#[⟨91,.data⟩,⟨93,.data⟩],none⟩ ?_
               refine tkZ 95 ⟨some 142,.move (.tmp 141),4, "law.go:28",#[⟨94,.data⟩,⟨92,.chain⟩],none⟩ ?_
               refine tkZ 96 ⟨some 143,.load 25 (.tmp 1),25, "law.go:28",#[⟨95,.guard⟩],some (95,true)⟩ ?_ (by intro w hSw;(try dsimp only at hSw);refine(exec_load_row 25 (.tmp 1) (by rfl) bn (by rfl) 25 cn (0,0) _ (Blk.below hSw.1 HS.out.2.1.1) Tryz.underlying25 (by rfl) (infN HS.out.2.1.2.2)).trans ?_;with_reducible rfl)
               refine tkZ 98 ⟨some 145,.load 25 (.tmp 1),25, "law.go:28",#[⟨95,.guard⟩],some (95,true)⟩ ?_ (by intro w hSw;(try dsimp only at hSw);refine(exec_load_row 25 (.tmp 1) (by rfl) bn (by rfl) 25 cn (0,0) _ (Blk.below hSw.1 HS.out.2.1.1) Tryz.underlying25 (by rfl) (infN HS.out.2.1.2.2)).trans ?_;with_reducible rfl)
               refine rqS [97] (rqC ⟨some 144,.call ⟨.value (.func 38),#[.tmp 143],#[25]⟩,25, "law.go:28",#[⟨96,.data⟩,⟨95,.chain⟩,⟨95,.guard⟩],some (95,true)⟩ (fun K hK=>?_) rq0)
               go_simp
               (go_at_call 38;(with_reducible refine(SO.out _ hHeld.1).mono ?_);rintro e w9 ⟨v9,rfl,hv9,hb9⟩;have hk9:Below w8.heap.size w8 w9∧True:=⟨hHeld.1.trans (hb9.mono hHeld.1.size),trivial⟩)
               go_wp2_with fail
               refine hK.out _ _ kp (fun hHeld=>?_)
               clear hK K
               try simp only [PT]
               refine rqS [99] (rqC ⟨some 146,.call ⟨.value (.func 29),#[.tmp 144,.tmp 145],#[25,25]⟩,4, "law.go:28",#[⟨97,.data⟩,⟨98,.data⟩,⟨97,.chain⟩,⟨95,.guard⟩],some (95,true)⟩ (fun K hK=>?_) rq0)
               go_simp
               (first | (go_at_call 29;(with_reducible refine(QX.out _ hHeld.1).mono ?_);rintro e w9 ⟨rfl,hb9⟩;have hk9:Below w8.heap.size w8 w9∧True:=⟨hHeld.1.trans (hb9.mono hHeld.1.size),trivial⟩) | (go_at_call 29;(with_reducible refine Calls.mono (QS.out _ _ hHeld.1 (by with_reducible assumption)) ?_);rintro e w9 ⟨rfl,hb9⟩;have hk9:Below w8.heap.size w8 w9∧True:=⟨hHeld.1.trans (hb9.mono hHeld.1.size),trivial⟩))
               go_wp2_with fail
               refine hK.out _ _ kp (fun hHeld=>?_)
               clear hK K
               try simp only [PT]
               refine tkZ 100 ⟨some 147,.pick (.tmp 142) (.tmp 146) (.const (.bool false)),4, "law.go:28",#[⟨95,.data⟩,⟨99,.data⟩],none⟩ ?_
               refine tkZ 101 ⟨some 0,.assign (.tmp 147),4, "law.go:28",([⟨100,.data⟩,⟨99,.chain⟩,⟨0,.phase⟩,⟨1,.phase⟩,⟨2,.phase⟩,⟨3,.phase⟩,⟨4,.phase⟩,⟨5,.phase⟩,⟨6,.phase⟩,⟨7,.phase⟩,⟨8,.phase⟩,⟨9,.phase⟩,⟨10,.phase⟩,⟨11,.phase⟩,⟨12,.phase⟩,⟨13,.phase⟩,⟨14,.phase⟩,⟨15,.phase⟩,⟨16,.phase⟩,⟨17,.phase⟩,⟨18,.phase⟩,⟨19,.phase⟩,⟨20,.phase⟩,⟨21,.phase⟩,⟨22,.phase⟩,⟨23,.phase⟩,⟨24,.phase⟩,⟨25,.phase⟩,⟨26,.phase⟩,⟨27,.phase⟩,⟨28,.phase⟩,⟨29,.phase⟩,⟨30,.phase⟩,⟨31,.phase⟩,⟨32,.phase⟩,⟨33,.phase⟩,⟨34,.phase⟩,⟨35,.phase⟩,⟨36,.phase⟩,⟨37,.phase⟩,⟨38,.phase⟩,⟨39,.phase⟩,⟨40,.phase⟩,⟨41,.phase⟩,⟨42,.phase⟩,⟨43,.phase⟩,⟨44,.phase⟩,⟨45,.phase⟩,⟨46,.phase⟩,⟨47,.phase⟩,⟨48,.phase⟩].append [⟨49,.phase⟩,⟨50,.phase⟩,⟨51,.phase⟩,⟨52,.phase⟩,⟨53,.phase⟩,⟨54,.phase⟩,⟨55,.phase⟩,⟨56,.phase⟩,⟨57,.phase⟩,⟨58,.phase⟩,⟨59,.phase⟩,⟨60,.phase⟩,⟨61,.phase⟩,⟨62,.phase⟩,⟨63,.phase⟩,⟨64,.phase⟩,⟨65,.phase⟩,⟨66,.phase⟩,⟨67,.phase⟩,⟨68,.phase⟩,⟨69,.phase⟩,⟨70,.phase⟩,⟨71,.phase⟩,⟨72,.phase⟩,⟨73,.phase⟩,⟨74,.phase⟩,⟨75,.phase⟩,⟨76,.phase⟩,⟨77,.phase⟩,⟨78,.phase⟩,⟨79,.phase⟩,⟨80,.phase⟩,⟨81,.phase⟩,⟨82,.phase⟩,⟨83,.phase⟩,⟨84,.phase⟩,⟨85,.phase⟩,⟨86,.phase⟩,⟨87,.phase⟩,⟨88,.phase⟩,⟨89,.phase⟩,⟨90,.phase⟩,⟨91,.phase⟩,⟨92,.phase⟩,⟨93,.phase⟩,⟨94,.phase⟩,⟨95,.phase⟩,⟨96,.phase⟩,⟨97,.phase⟩,⟨98,.phase⟩,⟨99,.phase⟩,⟨100,.phase⟩]).toArray,none⟩ ?_
               refine wpAnyH_done (by kernel_rfl) ?_ _
               refine NoPanic.normal ?_
               go_wp2_with fail
               go_ret
               exact⟨rfl,HS.out.1.trans (hk9.1.mono HS.out.1.size)⟩
             focus
              go_simp
              refine hK.out _ _ kp (fun hHeld=>?_)
              clear hK K
              try simp only [PT]
              refine rqS [77] (rqC ⟨some 124,.call ⟨.value (.func 27),#[.tmp 123],#[25]⟩,38, "law.go:28",#[⟨76,.data⟩,⟨75,.chain⟩,⟨75,.guard⟩],some (75,true)⟩ (fun K hK=>?_) rq0)
              go_simp
              (go_at_call 27;(with_reducible refine(PA.out _ hHeld.1).mono ?_);rintro e w9 ⟨v9,rfl,hv9,hb9⟩;have hk9:Below w8.heap.size w8 w9∧True:=⟨hHeld.1.trans (hb9.mono hHeld.1.size),trivial⟩;have hk9a:Below w8.heap.size w8 (w9.alloc (.cells #[.string ⟨#[]⟩,.string ⟨#[97,32,98]⟩] 9))∧True:=⟨hk9.1.alloc hk9.1.size _,trivial⟩;have rA:=hv9.later2 (Below.one w9 (.cells #[.string ⟨#[]⟩,.string ⟨#[97,32,98]⟩] 9));have rB:=SlR.two w9 ⟨#[]⟩ ⟨#[97,32,98]⟩;(try have rC:=SlR.later2 (SlR.two _ _ _) hb9))
              go_wp2_with fail
              refine hK.out _ _ kp (fun hHeld=>?_)
              clear hK K
              try simp only [PT]
              refine rqS [79] (rqC ⟨some 126,.call ⟨.value (.func 43),#[.tmp 124,.tmp 125],#[38,38]⟩,4, "law.go:28",#[⟨77,.data⟩,⟨78,.data⟩,⟨77,.chain⟩,⟨75,.guard⟩],some (75,true)⟩ (fun K hK=>?_) rq0)
              go_simp
              (go_at_call 43;(with_reducible refine Calls.mono (SQ.out _ _ _ (by with_reducible assumption) (by with_reducible assumption)) ?_);rintro e w9 ⟨rfl,hb9⟩;have hk9:Below w8.heap.size w8 w9∧True:=⟨hHeld.1.trans (hb9.mono hHeld.1.size),trivial⟩)
              go_wp2_with fail
              refine hK.out _ _ kp (fun hHeld=>?_)
              clear hK K
              try simp only [PT]
              as_aux_lemma=>
               refine tkZ 80 ⟨some 127,.pick (.tmp 122) (.tmp 126) (.const (.bool false)),4, "law.go:28",#[⟨75,.data⟩,⟨79,.data⟩],none⟩ ?_
               refine tkZ 81 ⟨some 128,.move (.tmp 127),4, "law.go:28",#[⟨80,.data⟩,⟨79,.chain⟩],none⟩ ?_
               refine rqS [82] (rqC ⟨some 129,.call { callee:=.value (.func 16),args:=#[.const (.string { data:=#[97,32,98] })],argTypes:=#[9] },4, "law.go:28",#[⟨81,.chain⟩,⟨81,.guard⟩],some (81,true)⟩ (fun K hK=>?_) rq0)
               go_simp
               (first | (go_at_call 16;(with_reducible refine(NA.out _ hHeld.1).mono ?_);rintro e w9 ⟨rfl,hb9⟩;have hk9:Below w8.heap.size w8 w9∧True:=⟨hHeld.1.trans (hb9.mono hHeld.1.size),trivial⟩) | (go_at_call 16;(with_reducible refine(NB.out _ hHeld.1).mono ?_);rintro e w9 ⟨rfl,hb9⟩;have hk9:Below w8.heap.size w8 w9∧True:=⟨hHeld.1.trans (hb9.mono hHeld.1.size),trivial⟩))
               go_wp2_with fail
               refine hK.out _ _ kp (fun hHeld=>?_)
               clear hK K
               try simp only [PT]
               refine tkZ 83 ⟨some 130,.pick (.tmp 128) (.tmp 129) (.const (.bool false)),4, "law.go:28",#[⟨81,.data⟩,⟨82,.data⟩],none⟩ ?_
               refine tkZ 84 ⟨some 131,.move (.tmp 130),4, "law.go:28",#[⟨83,.data⟩,⟨82,.chain⟩],none⟩ ?_
               refine rqS [85] (rqC ⟨some 132,.call { callee:=.value (.func 16),args:=#[.const (.string { data:=#[97,47,98] })],argTypes:=#[9] },4, "law.go:28",#[⟨84,.chain⟩,⟨84,.guard⟩],some (84,true)⟩ (fun K hK=>?_) rq0)
               go_simp
               (first | (go_at_call 16;(with_reducible refine(NA.out _ hHeld.1).mono ?_);rintro e w9 ⟨rfl,hb9⟩;have hk9:Below w8.heap.size w8 w9∧True:=⟨hHeld.1.trans (hb9.mono hHeld.1.size),trivial⟩) | (go_at_call 16;(with_reducible refine(NB.out _ hHeld.1).mono ?_);rintro e w9 ⟨rfl,hb9⟩;have hk9:Below w8.heap.size w8 w9∧True:=⟨hHeld.1.trans (hb9.mono hHeld.1.size),trivial⟩))
               go_wp2_with fail
               refine hK.out _ _ kp (fun hHeld=>?_)
               clear hK K
               try simp only [PT]
               refine tkZ 86 ⟨some 133,.unOp .not 4 (.tmp 132),4, "law.go:28",#[⟨85,.data⟩,⟨84,.guard⟩],some (84,true)⟩ ?_
               refine tkZ 87 ⟨some 134,.pick (.tmp 131) (.tmp 133) (.const (.bool false)),4, "law.go:28",#[⟨84,.data⟩,⟨86,.data⟩],none⟩ ?_
               refine tkZ 88 ⟨some 135,.move (.tmp 134),4, "law.go:28",#[⟨87,.data⟩,⟨85,.chain⟩],none⟩ ?_
               refine rqS [89] (rqC ⟨some 136,.call { callee:=.value (.func 18),args:=#[.const (.string { data:=#[47,97,47,46,46] })],argTypes:=#[9] },4, "law.go:28",#[⟨88,.chain⟩,⟨88,.guard⟩],some (88,true)⟩ (fun K hK=>?_) rq0)
               go_simp
               (first | (go_at_call 18;(with_reducible refine(TA.out _ hHeld.1).mono ?_);rintro e w9 ⟨rfl,hb9⟩;have hk9:Below w8.heap.size w8 w9∧True:=⟨hHeld.1.trans (hb9.mono hHeld.1.size),trivial⟩) | (go_at_call 18;(with_reducible refine(TB.out _ hHeld.1).mono ?_);rintro e w9 ⟨rfl,hb9⟩;have hk9:Below w8.heap.size w8 w9∧True:=⟨hHeld.1.trans (hb9.mono hHeld.1.size),trivial⟩))
               go_wp2_with fail
               refine hK.out _ _ kp (fun hHeld=>?_)
               clear hK K
               try simp only [PT]
               refine tkZ 90 ⟨some 137,.pick (.tmp 135) (.tmp 136) (.const (.bool false)),4, "law.go:28",#[⟨88,.data⟩,⟨89,.data⟩],none⟩ ?_
               refine tkZ 91 ⟨some 138,.move (.tmp 137),4, "law.go:28",#[⟨90,.data⟩,⟨89,.chain⟩],none⟩ ?_
               refine rqS [92] (rqC ⟨some 139,.call { callee:=.value (.func 18),args:=#[.const (.string { data:=#[97,47] })],argTypes:=#[9] },4, "law.go:28",#[⟨91,.chain⟩,⟨91,.guard⟩],some (91,true)⟩ (fun K hK=>?_) rq0)
               go_simp
               (first | (go_at_call 18;(with_reducible refine(TA.out _ hHeld.1).mono ?_);rintro e w9 ⟨rfl,hb9⟩;have hk9:Below w8.heap.size w8 w9∧True:=⟨hHeld.1.trans (hb9.mono hHeld.1.size),trivial⟩) | (go_at_call 18;(with_reducible refine(TB.out _ hHeld.1).mono ?_);rintro e w9 ⟨rfl,hb9⟩;have hk9:Below w8.heap.size w8 w9∧True:=⟨hHeld.1.trans (hb9.mono hHeld.1.size),trivial⟩))
               go_wp2_with fail
               refine hK.out _ _ kp (fun hHeld=>?_)
               clear hK K
               try simp only [PT]
               refine tkZ 93 ⟨some 140,.unOp .not 4 (.tmp 139),4, "law.go:28",#[⟨92,.data⟩,⟨91,.guard⟩],some (91,true)⟩ ?_
               refine tkZ 94 ⟨some 141,.pick (.tmp 138) (.tmp 140) (.const (.bool false)),4, "law.go:28",#[⟨91,.data⟩,⟨93,.data⟩],none⟩ ?_
               as_aux_lemma=>
                refine tkZ 95 ⟨some 142,.move (.tmp 141),4, "law.go:28",#[⟨94,.data⟩,⟨92,.chain⟩],none⟩ ?_
                refine tkZ 96 ⟨some 143,.load 25 (.tmp 1),25, "law.go:28",#[⟨95,.guard⟩],some (95,true)⟩ ?_ (by intro w hSw;(try dsimp only at hSw);refine(exec_load_row 25 (.tmp 1) (by rfl) bn (by rfl) 25 cn (0,0) _ (Blk.below hSw.1 HS.out.2.1.1) Tryz.underlying25 (by rfl) (infN HS.out.2.1.2.2)).trans ?_;with_reducible rfl)
                refine tkZ 98 ⟨some 145,.load 25 (.tmp 1),25, "law.go:28",#[⟨95,.guard⟩],some (95,true)⟩ ?_ (by intro w hSw;(try dsimp only at hSw);refine(exec_load_row 25 (.tmp 1) (by rfl) bn (by rfl) 25 cn (0,0) _ (Blk.below hSw.1 HS.out.2.1.1) Tryz.underlying25 (by rfl) (infN HS.out.2.1.2.2)).trans ?_;with_reducible rfl)
                refine rqS [97] (rqC ⟨some 144,.call ⟨.value (.func 38),#[.tmp 143],#[25]⟩,25, "law.go:28",#[⟨96,.data⟩,⟨95,.chain⟩,⟨95,.guard⟩],some (95,true)⟩ (fun K hK=>?_) rq0)
                go_simp
                (go_at_call 38;(with_reducible refine(SO.out _ hHeld.1).mono ?_);rintro e w9 ⟨v9,rfl,hv9,hb9⟩;have hk9:Below w8.heap.size w8 w9∧True:=⟨hHeld.1.trans (hb9.mono hHeld.1.size),trivial⟩)
                go_wp2_with fail
                refine hK.out _ _ kp (fun hHeld=>?_)
                clear hK K
                try simp only [PT]
                refine rqS [99] (rqC ⟨some 146,.call ⟨.value (.func 29),#[.tmp 144,.tmp 145],#[25,25]⟩,4, "law.go:28",#[⟨97,.data⟩,⟨98,.data⟩,⟨97,.chain⟩,⟨95,.guard⟩],some (95,true)⟩ (fun K hK=>?_) rq0)
                go_simp
                (first | (go_at_call 29;(with_reducible refine(QX.out _ hHeld.1).mono ?_);rintro e w9 ⟨rfl,hb9⟩;have hk9:Below w8.heap.size w8 w9∧True:=⟨hHeld.1.trans (hb9.mono hHeld.1.size),trivial⟩) | (go_at_call 29;(with_reducible refine Calls.mono (QS.out _ _ hHeld.1 (by with_reducible assumption)) ?_);rintro e w9 ⟨rfl,hb9⟩;have hk9:Below w8.heap.size w8 w9∧True:=⟨hHeld.1.trans (hb9.mono hHeld.1.size),trivial⟩))
                go_wp2_with fail
                refine hK.out _ _ kp (fun hHeld=>?_)
                clear hK K
                try simp only [PT]
                refine tkZ 100 ⟨some 147,.pick (.tmp 142) (.tmp 146) (.const (.bool false)),4, "law.go:28",#[⟨95,.data⟩,⟨99,.data⟩],none⟩ ?_
                refine tkZ 101 ⟨some 0,.assign (.tmp 147),4, "law.go:28",([⟨100,.data⟩,⟨99,.chain⟩,⟨0,.phase⟩,⟨1,.phase⟩,⟨2,.phase⟩,⟨3,.phase⟩,⟨4,.phase⟩,⟨5,.phase⟩,⟨6,.phase⟩,⟨7,.phase⟩,⟨8,.phase⟩,⟨9,.phase⟩,⟨10,.phase⟩,⟨11,.phase⟩,⟨12,.phase⟩,⟨13,.phase⟩,⟨14,.phase⟩,⟨15,.phase⟩,⟨16,.phase⟩,⟨17,.phase⟩,⟨18,.phase⟩,⟨19,.phase⟩,⟨20,.phase⟩,⟨21,.phase⟩,⟨22,.phase⟩,⟨23,.phase⟩,⟨24,.phase⟩,⟨25,.phase⟩,⟨26,.phase⟩,⟨27,.phase⟩,⟨28,.phase⟩,⟨29,.phase⟩,⟨30,.phase⟩,⟨31,.phase⟩,⟨32,.phase⟩,⟨33,.phase⟩,⟨34,.phase⟩,⟨35,.phase⟩,⟨36,.phase⟩,⟨37,.phase⟩,⟨38,.phase⟩,⟨39,.phase⟩,⟨40,.phase⟩,⟨41,.phase⟩,⟨42,.phase⟩,⟨43,.phase⟩,⟨44,.phase⟩,⟨45,.phase⟩,⟨46,.phase⟩,⟨47,.phase⟩,⟨48,.phase⟩].append [⟨49,.phase⟩,⟨50,.phase⟩,⟨51,.phase⟩,⟨52,.phase⟩,⟨53,.phase⟩,⟨54,.phase⟩,⟨55,.phase⟩,⟨56,.phase⟩,⟨57,.phase⟩,⟨58,.phase⟩,⟨59,.phase⟩,⟨60,.phase⟩,⟨61,.phase⟩,⟨62,.phase⟩,⟨63,.phase⟩,⟨64,.phase⟩,⟨65,.phase⟩,⟨66,.phase⟩,⟨67,.phase⟩,⟨68,.phase⟩,⟨69,.phase⟩,⟨70,.phase⟩,⟨71,.phase⟩,⟨72,.phase⟩,⟨73,.phase⟩,⟨74,.phase⟩,⟨75,.phase⟩,⟨76,.phase⟩,⟨77,.phase⟩,⟨78,.phase⟩,⟨79,.phase⟩,⟨80,.phase⟩,⟨81,.phase⟩,⟨82,.phase⟩,⟨83,.phase⟩,⟨84,.phase⟩,⟨85,.phase⟩,⟨86,.phase⟩,⟨87,.phase⟩,⟨88,.phase⟩,⟨89,.phase⟩,⟨90,.phase⟩,⟨91,.phase⟩,⟨92,.phase⟩,⟨93,.phase⟩,⟨94,.phase⟩,⟨95,.phase⟩,⟨96,.phase⟩,⟨97,.phase⟩,⟨98,.phase⟩,⟨99,.phase⟩,⟨100,.phase⟩]).toArray,none⟩ ?_
                refine wpAnyH_done (by kernel_rfl) ?_ _
                refine NoPanic.normal ?_
                go_wp2_with fail
                go_ret
                exact⟨rfl,HS.out.1.trans (hk9.1.mono HS.out.1.size)⟩
end Go.Proofs.YtlhakdildbplkaaGreatDoor
