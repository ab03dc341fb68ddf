/- Part of the claim: its words. -/
import Derived.Shelf.Strings.Count
import Derived.Test.YtlhakdildbplkaaGreatDoorG36
import Derived.Test.YtlhakdildbplkaaGreatDoorG24
import Derived.Test.YtlhakdildbplkaaGreatDoorG16
import Derived.Lib.BufferRead
import Derived.Lib.AppendStr
import Derived.Lib.BufferWrite
import Derived.Test.YtlhakdildbplkaaGreatDoorG14
import Derived.Test.YtlhakdildbplkaaGreatDoorG8
set_option maxHeartbeats 2000000
set_option maxRecDepth 100000
namespace Go.Proofs.YtlhakdildbplkaaGreatDoor
set_option linter.unusedSimpArgs false
set_option linter.unusedVariables false
open Go.RowKit
theorem okI_okK {x:St ⊕ (Hd × Int)} (h:okI x):okK x:=by
 cases x with
 | inl s=>exact trivial
 | inr p=>exact h.1
theorem valid_lines_sz {t:Tr} (h:validB t=true):t.sz≤3*(linesT t).length:=by
 have:=items_size (itemsT t) (fun x hx=>okI_okK ((tr_items h).1 x hx))
 rwa [sumI_T,←linesT_items] at this
theorem format_len {t:Tr} {s:ByteArray} (h:formatT t=(s,0)):(linesT t).length=s.size∧s.size≤65536:=by
 unfold formatT at h
 split at h
 ·cases h
 ·split at h
  ·cases h
  ·rename_i hl
   injection h with h _
   subst h
   exact⟨rfl,by show(linesT t).length≤65536;omega⟩
theorem parse_sz {s:ByteArray} {t:Tr} {i:Int} (h:parseT s=(t,i,0)) (hs:s.size≤3000):t.sz≤9000:=by
 obtain⟨_,h2,h3⟩:=parse_format h
 have h4:=valid_lines_sz h3
 have h5:=(format_len h2).1
 omega
set_option linter.unusedSimpArgs false
set_option linter.unusedVariables false
def digB (c:UInt8):Bool:=decide (48≤c.toNat∧c.toNat≤57)
def numR:Int→List UInt8→Option Int
 | n,[]=>some n
 | n,c :: r=>if digB c then (if -9223372036854775808≤n*10 - ((c.toNat - 48:Nat):Int) then numR (n*10 - ((c.toNat - 48:Nat):Int)) r else none) else none
def numS (neg:Bool) (s:List UInt8):Option Int:=
 if s.length < 1∨19 < s.length∨(s.head? = some 48∧(1 < s.length∨neg=true)) then none
 else match numR 0 s with
  | none=>none
  | some n=>if neg then some n else if n = -9223372036854775808 then none else some (-n)
def numV (w:List UInt8):Option Int:=match w with
 | 45 :: s=>numS true s
 | s=>numS false s
def val (acc:Nat) (s:List UInt8):Nat:=s.foldl (fun a c=>a*10+(c.toNat - 48)) acc
theorem val_snoc (acc:Nat) (s:List UInt8) (c:UInt8):val acc (s++[c])=val acc s*10+(c.toNat - 48):=by
 unfold val
 rw [List.foldl_append]
 rfl
theorem numR_val:∀(s:List UInt8) (acc:Nat) (v:Int),numR (-(acc:Int)) s=some v→(∀c∈s,digB c=true)∧v = -((val acc s:Nat):Int)
 | [],acc,v,h=>by
  injection h with h
  exact⟨fun c hc=>(by cases hc),h.symm⟩
 | c :: r,acc,v,h=>by
  rw [numR] at h
  by_cases hd:digB c=true
  ·rw [if_pos hd] at h
   split at h
   ·have e : -(acc:Int)*10 - ((c.toNat - 48:Nat):Int) = -((acc*10+(c.toNat - 48):Nat):Int):=by omega
    rw [e] at h
    obtain⟨h1,h2⟩:=numR_val r _ v h
    refine⟨fun x hx=>?_,h2⟩
    rcases List.mem_cons.1 hx with rfl | hx
    ·exact hd
    ·exact h1 x hx
   ·cases h
  ·rw [if_neg hd] at h
   cases h
theorem val_ge:∀(s:List UInt8) (acc:Nat),acc≤val acc s
 | [],acc=>Nat.le_refl _
 | c :: r,acc=>by
  have:=val_ge r (acc*10+(c.toNat - 48))
  show acc≤val (acc*10+(c.toNat - 48)) r
  omega
theorem numR_of:∀(s:List UInt8) (acc:Nat),(∀c∈s,digB c=true)→val acc s≤9223372036854775808→numR (-(acc:Int)) s=some (-((val acc s:Nat):Int))
 | [],acc,_,_=>rfl
 | c :: r,acc,hd,hv=>by
  have hv2:val (acc*10+(c.toNat - 48)) r≤9223372036854775808:=hv
  have hg:=val_ge r (acc*10+(c.toNat - 48))
  have e : -(acc:Int)*10 - ((c.toNat - 48:Nat):Int) = -((acc*10+(c.toNat - 48):Nat):Int):=by omega
  rw [numR,if_pos (hd c (List.mem_cons_self ..)),e,if_pos (by omega)]
  exact numR_of r _ (fun x hx=>hd x (List.mem_cons_of_mem _ hx)) hv2
theorem dec_val:∀(n:Nat) (s:List UInt8),s.length=n→s≠[]→(∀c∈s,digB c=true)→(s.head? = some 48→s.length=1)→Lib.decDigits (val 0 s)=s
 | 0,s,hn,hne,_,_=>absurd (List.eq_nil_of_length_eq_zero hn) hne
 | n+1,s,hn,hne,hd,hz=>by
  obtain⟨s',c,rfl⟩:∃s' c,s=s'++[c]:=⟨s.dropLast,s.getLast hne,(List.dropLast_concat_getLast hne).symm⟩
  rw [List.length_append,List.length_singleton] at hn
  have hc:digB c=true:=hd c (by simp)
  have hc2:=of_decide_eq_true hc
  have ec:UInt8.ofNat (48+(c.toNat - 48))=c:=by rw [show 48+(c.toNat - 48)=c.toNat by omega];exact UInt8.ofNat_toNat
  rw [val_snoc]
  by_cases hs:s'=[]
  ·subst hs
   show Lib.decDigits (0*10+(c.toNat - 48))=[c]
   rw [Lib.decDigits,dif_pos (by omega),show 0*10+(c.toNat - 48)=c.toNat - 48 by omega,ec]
  ·have hne0:s'.head? ≠ some 48:=fun e=>by
    have:(s'++[c]).head? = some 48:=by
     cases s' with
     | nil=>exact absurd rfl hs
     | cons a l=>exact e
    have h1:=hz this
    rw [List.length_append,List.length_singleton] at h1
    exact hs (List.eq_nil_of_length_eq_zero (by omega))
   have ih:=dec_val n s' (by omega) hs (fun x hx=>hd x (by simp [hx])) (fun e=>absurd e hne0)
   have hpos:1≤val 0 s':=by
    cases s' with
    | nil=>exact absurd rfl hs
    | cons a l=>
     have ha:digB a=true:=hd a (by simp)
     have ha2:=of_decide_eq_true ha
     have hg:=val_ge l (0*10+(a.toNat - 48))
     have h48:a.toNat≠48:=fun e=>hne0 (by
      have:a=48:=by rw [←UInt8.ofNat_toNat (x:=a),e];rfl
      rw [this];rfl)
     show 1≤val (0*10+(a.toNat - 48)) l
     omega
   rw [Lib.decDigits,dif_neg (by omega),show(val 0 s'*10+(c.toNat - 48)) / 10=val 0 s' by omega,ih,show(val 0 s'*10+(c.toNat - 48)) % 10=c.toNat - 48 by omega,ec]
theorem val_dec (u:Nat):val 0 (Lib.decDigits u)=u:=by
 induction u using Nat.strongRecOn with
 | _ u ih=>
  rw [Lib.decDigits]
  split
  ·rename_i h
   show 0*10+((UInt8.ofNat (48+u)).toNat - 48)=u
   rw [u8_dig h]
   omega
  ·rw [val_snoc,ih (u / 10) (by omega),u8_dig (Nat.mod_lt _ (by decide))]
   omega
theorem dec_digB (u:Nat):∀c∈Lib.decDigits u,digB c=true:=fun c hc=>decide_eq_true (dec_dig u c hc)
theorem dec_head (u:Nat) (h:1≤u):(Lib.decDigits u).head? ≠ some 48:=by
 induction u using Nat.strongRecOn with
 | _ u ih=>
  rw [Lib.decDigits]
  split
  ·rename_i h1
   intro e
   have e2:UInt8.ofNat (48+u)=48:=by simpa using e
   have:=congrArg UInt8.toNat e2
   rw [u8_dig h1] at this
   have h48:(48:UInt8).toNat=48:=rfl
   omega
  ·have:=ih (u / 10) (by omega) (by omega)
   have hn:=dec_ne (u / 10)
   cases e:Lib.decDigits (u / 10) with
   | nil=>exact absurd e hn
   | cons a l=>rw [e] at this;exact this
theorem dec_len19 (u:Nat) (h:u≤9223372036854775808):(Lib.decDigits u).length≤19:=by
 have hk:∀(k u:Nat),u < 10 ^ (k+1)→(Lib.decDigits u).length≤k+1:=by
  intro k
  induction k with
  | zero=>
   intro u hu
   rw [Lib.decDigits,dif_pos (by simpa using hu)]
   exact Nat.le_refl _
  | succ k ih=>
   intro u hu
   rw [Lib.decDigits]
   split
   ·simp
   ·rw [List.length_append,List.length_singleton]
    have:=ih (u / 10) (by rw [Nat.pow_succ] at hu;omega)
    omega
 exact hk 18 u (by omega)
theorem numS_itoa (neg:Bool) (u:Nat) (h:u≤9223372036854775808) (h1:neg=true→1≤u) (h2:neg=false→u≤9223372036854775807):numS neg (Lib.decDigits u)=some (if neg then -(u:Int) else (u:Int)):=by
 unfold numS
 have hn:=List.length_pos_iff.2 (dec_ne u)
 rw [if_neg]
 ·have e:=numR_of (Lib.decDigits u) 0 (dec_digB u) (by rw [val_dec];exact h)
  rw [val_dec] at e
  have e2:numR 0 (Lib.decDigits u)=some (-(u:Int)):=e
  rw [e2]
  cases neg with
  | true=>rfl
  | false=>
   have:=h2 rfl
   simp only [Bool.false_eq_true,if_false]
   rw [if_neg (by omega)]
   congr 1
   omega
 ·rintro (h3 | h3 | ⟨h3,h4⟩)
  ·omega
  ·have:=dec_len19 u h;omega
  ·have hu:u=0:=Classical.byContradiction fun e=>dec_head u (by omega) h3
   subst hu
   rcases h4 with h4 | h4
   ·rw [show Lib.decDigits 0=[48] by rw [Lib.decDigits];rfl] at h4
    exact absurd h4 (by decide)
   ·have:=h1 h4;omega
theorem numV_itoa {n:Int} (h:N64 n):numV (Lib.itoa n)=some n:=by
 obtain⟨h0,h1⟩:=h
 unfold Lib.itoa
 split
 ·show numS true (Lib.decDigits n.natAbs)=_
  rw [numS_itoa true n.natAbs (by omega) (fun _=>by omega) (fun e=>by cases e)]
  simp only [if_true]
  congr 1
  omega
 ·have e:numV (Lib.decDigits n.toNat)=numS false (Lib.decDigits n.toNat):=by
   unfold numV
   split
   ·rename_i s hs
    have:=dec_dig n.toNat 45 (by rw [hs];simp)
    exact absurd this (by decide)
   ·rfl
  rw [e,numS_itoa false n.toNat (by omega) (fun e=>by cases e) (fun _=>by omega)]
  simp only [Bool.false_eq_true,if_false]
  congr 1
  omega
theorem numS_spec {neg:Bool} {s:List UInt8} {n:Int} (h:numS neg s=some n):s=Lib.decDigits n.natAbs∧(neg=true→n < 0 ∧ -9223372036854775808≤n)∧(neg=false→0≤n∧n≤9223372036854775807):=by
 unfold numS at h
 split at h
 ·cases h
 ·rename_i hc
  have hc1:¬s.length < 1:=fun e=>hc (Or.inl e)
  have hc3:¬(s.head? = some 48∧(1 < s.length∨neg=true)):=fun e=>hc (Or.inr (Or.inr e))
  have hne:s≠[]:=fun e=>by rw [e] at hc1;exact hc1 (by decide)
  cases hr:numR 0 s with
  | none=>rw [hr] at h;cases h
  | some v=>
   rw [hr] at h
   obtain⟨hd,hv⟩:=numR_val s 0 v hr
   have hdv:=dec_val s.length s rfl hne hd (fun e=>by
    by_cases h1:1 < s.length
    ·exact absurd ⟨e,Or.inl h1⟩ hc3
    ·omega)
   cases neg with
   | true=>
    simp only [if_true] at h
    injection h with h
    subst h
    have hp:val 0 s≠0:=fun e=>by
     rw [e] at hdv
     have e0:Lib.decDigits 0=[48]:=by rw [Lib.decDigits];rfl
     rw [e0] at hdv
     exact hc3 ⟨by rw [←hdv];rfl,Or.inr rfl⟩
    have hb : -9223372036854775808≤v:=by
     have:∀(s:List UInt8) (a v:Int),-9223372036854775808≤a→numR a s=some v → -9223372036854775808≤v:=by
      intro s
      induction s with
      | nil=>intro a v ha h;injection h with h;omega
      | cons c r ih=>
       intro a v ha h
       rw [numR] at h
       split at h
       ·split at h
        ·rename_i h2;exact ih _ v h2 h
        ·cases h
       ·cases h
     exact this s 0 v (by decide) hr
    refine⟨?_,fun _=>⟨by omega,hb⟩,fun e=>(by cases e)⟩
    rw [hv,show(-((val 0 s:Nat):Int)).natAbs=val 0 s by omega,hdv]
   | false=>
    simp only [Bool.false_eq_true,if_false] at h
    split at h
    ·cases h
    ·rename_i hm
     injection h with h
     subst h
     have hb : -9223372036854775808≤v:=by
      have:∀(s:List UInt8) (a v:Int),-9223372036854775808≤a→numR a s=some v → -9223372036854775808≤v:=by
       intro s
       induction s with
       | nil=>intro a v ha h;injection h with h;omega
       | cons c r ih=>
        intro a v ha h
        rw [numR] at h
        split at h
        ·split at h
         ·rename_i h2;exact ih _ v h2 h
         ·cases h
        ·cases h
      exact this s 0 v (by decide) hr
     refine⟨?_,fun e=>(by cases e),fun _=>⟨by omega,by omega⟩⟩
     rw [hv,show(- -((val 0 s:Nat):Int)).natAbs=val 0 s by omega,hdv]
theorem numV_spec {w:List UInt8} {n:Int} (h:numV w=some n):w=Lib.itoa n∧N64 n:=by
 unfold numV at h
 split at h
 ·rename_i s
  obtain⟨h1,h2,_⟩:=numS_spec h
  obtain⟨h3,h4⟩:=h2 rfl
  refine⟨?_,by omega,by omega⟩
  unfold Lib.itoa
  rw [if_pos h3,h1]
 ·obtain⟨h1,_,h2⟩:=numS_spec h
  obtain⟨h3,h4⟩:=h2 rfl
  refine⟨?_,by omega,by omega⟩
  unfold Lib.itoa
  rw [if_neg (by omega),h1]
  congr 1
  omega
theorem numW_bounds {w:ByteArray} {n:Int} (h:numW w=some n):N64 n:=by
 unfold numW at h
 split at h
 ·rename_i v hv
  split at h
  ·injection h with h
   subst h
   exact Lib.atoiAll_bounds hv
  ·cases h
 ·cases h
theorem numV_is (w:ByteArray):numV w.data.toList=numW w:=by
 cases e:numW w with
 | some n=>
  rw [numW_spec e]
  exact numV_itoa (numW_bounds e)
 | none=>
  cases e2:numV w.data.toList with
  | none=>rfl
  | some n=>
   obtain⟨h1,h2⟩:=numV_spec e2
   have:=numW_itoa h2
   rw [←h1,bsA_list,e] at this
   cases this
set_option linter.unusedSimpArgs false
set_option linter.unusedVariables false
theorem u8InfoR:(Tryz.prog.info? 5).map (fun i=>(i.zero,i.size,i.bytes))=some (some (.int .u8 0),1,1):=by kernel_rfl
def RowBt (B:Nat) (v:Value) (l:List UInt8) (w:World):Prop:=w.ownsRow B 5 1 v l.length (Lib.byteCells l)
theorem RowBt.conv {w:World} {B:Nat} {v:Value} {l:List UInt8} (h:RowBt B v l w):(convert 79 9 v).run Tryz.prog w=.ok (.string ⟨l.toArray⟩) w:=by
 unfold RowBt at h
 rcases Go.Joins.ownsRow_forms h with⟨rfl,h0⟩ | ⟨g,cap,rfl⟩
 ·have:l=[]:=List.length_eq_zero_iff.1 h0
  subst this
  exact Lib.run_convert_nil_bytes w _ _ 5 0 Tryz.underlying79 Tryz.underlying5 Tryz.underlying9
 ·exact run_convert_bytes_back w _ _ 5 ⟨g,0,none⟩ cap l Tryz.underlying79 Tryz.underlying5 Tryz.underlying9 (fun j hj=>h.cells rfl j _ (by simp [Lib.byteCells,hj]))
theorem RowBt.lit (w:World) (l:List UInt8) (hl:l.length≤1000000):RowBt w.heap.size (.slice (some ⟨w.heap.size,0,none⟩) l.length l.length) l (w.alloc (.cells (Lib.byteCells l).toArray 5)):=
 World.ownsRow_lit w (Lib.byteCells l).toArray l.length (Nat.le_refl _) (by unfold maxLen;omega) (by simp [Lib.byteCells])
theorem rplain_any (c:UInt8) (w:World):Calls Tryz.prog 155 #[.int .u8 (c.toNat:Int)] w fun e w'=>e=.returned (.bool (plainB c))∧w=w':=by
 have HP:=hide (show plainB c=decide (65≤c.toNat∧c.toNat≤90∨97≤c.toNat∧c.toNat≤122∨48≤c.toNat∧c.toNat≤57∨c.toNat=46∨c.toNat=95∨c.toNat=45) from rfl)
 have hc:=c.toNat_lt
 generalize c.toNat=n at *
 go_enter Tryz.func155,Tryz.ntmps155
 go_wp2_with fail
 all_goals
  go_ret
  refine⟨ret_b ?_,rfl⟩
  rw [HP.out]
  symm
  first
   | (apply decide_eq_true;omega)
   | (apply decide_eq_false;omega)
   | (rw [Bool.eq_iff_iff];simp only [beq_iff_eq,decide_eq_true_eq];omega)
   | (rw [Bool.eq_iff_iff];simp;omega)
theorem dec_len (u:Nat) (h:u≤9223372036854775807):(Lib.decDigits u).length≤19:=dec_len19 u (by omega)
theorem ofl_app (a b:List UInt8):(⟨(a++b).toArray⟩:ByteArray)=⟨a.toArray⟩++⟨b.toArray⟩:=by
 apply ByteArray.ext
 simp
theorem dec_small {u:Nat} (h:u < 10):Lib.decDigits u=[UInt8.ofNat (48+u)]:=by rw [Lib.decDigits,dif_pos h]
theorem dec_big {u:Nat} (h:¬u < 10):Lib.decDigits u=Lib.decDigits (u / 10)++Lib.decDigits (u % 10):=by
 rw [Lib.decDigits,dif_neg h,dec_small (Nat.mod_lt _ (by decide))]
theorem rdec_nat:∀(N u:Nat),u≤N→u≤9223372036854775807→∀w:World,Calls Tryz.prog 154 #[.int .i64 (u:Int)] w fun e w'=>e=.returned (.string ⟨(Lib.decDigits u).toArray⟩)∧Below w.heap.size w w'
 | N,u,hN,hu,w=>by
  have h0:¬(u:Int) < 0:=by omega
  by_cases h10:u < 10
  ·have hz:(u:Int) < 10:=by omega
   have HD:=hide (dec_small h10)
   have e1:(48+(u:Int))=((UInt8.ofNat (48+u)).toNat:Int):=by rw [u8_dig h10];omega
   have hR:=RowBt.lit w [UInt8.ofNat (48+u)] (show 1≤1000000 by decide)
   have w8:IntKind.u8.wrap (48+(u:Int))=48+(u:Int):=by rw [IntKind.wrap_u8];omega
   have w64:IntKind.i64.wrap (48+(u:Int))=48+(u:Int):=by rw [IntKind.wrap_i64];omega
   have CV:=(show RowBt w.heap.size (.slice (some ⟨w.heap.size,0,none⟩) 1 1) [UInt8.ofNat (48+u)] (w.alloc (.cells (Lib.byteCells [UInt8.ofNat (48+u)]).toArray 5)) from hR).conv
   have e2:(Lib.byteCells [UInt8.ofNat (48+u)]).toArray=#[.int .u8 ((UInt8.ofNat (48+u)).toNat:Int)]:=rfl
   rw [e2,←e1] at CV
   obtain⟨cb,hcb⟩:∃cb,cb=UInt8.ofNat (48+u):=⟨_,rfl⟩
   rw [←hcb] at CV HD
   have hbel:Below w.heap.size w (w.alloc (.cells #[.int .u8 (48+(u:Int))] 5)):=(Below.refl _ _).alloc (Nat.le_refl _) _
   clear e1 e2 hR hcb
   have HL:Live w []:=trivial
   go_enter Tryz.func154,Tryz.ntmps154
   go_wp2_with fail
   go_ret
   exact⟨by rw [HD.out];rfl,hbel⟩
  ·match N,hN with
   | 0,hN=>omega
   | N+1,hN=>
    have hz:¬(u:Int) < 10:=by omega
    have DA:=hide (show ∀W,Calls Tryz.prog 154 #[.int .i64 ((u:Int) / 10)] W fun e w'=>e=.returned (.string ⟨(Lib.decDigits (u / 10)).toArray⟩)∧Below W.heap.size W w' from fun W=>by
     rw [show(u:Int) / 10=((u / 10:Nat):Int) by omega]
     exact rdec_nat N (u / 10) (by omega) (by omega) W)
    have DB:=hide (show ∀W,Calls Tryz.prog 154 #[.int .i64 ((u:Int) % 10)] W fun e w'=>e=.returned (.string ⟨(Lib.decDigits (u % 10)).toArray⟩)∧Below W.heap.size W w' from fun W=>by
     rw [show(u:Int) % 10=((u % 10:Nat):Int) by omega]
     exact rdec_nat N (u % 10) (by omega) (by omega) W)
    have HD:=hide (dec_big h10)
    have hl1:(⟨(Lib.decDigits (u / 10)).toArray⟩:ByteArray).size≤19:=dec_len _ (by omega)
    have hl2:(⟨(Lib.decDigits (u % 10)).toArray⟩:ByteArray).size≤19:=dec_len _ (by omega)
    have HA:=hide (ofl_app (Lib.decDigits (u / 10)) (Lib.decDigits (u % 10)))
    generalize (⟨(Lib.decDigits (u / 10)).toArray⟩:ByteArray)=sa at *
    generalize (⟨(Lib.decDigits (u % 10)).toArray⟩:ByteArray)=sb at *
    have HL:Live w []:=trivial
    go_enter Tryz.func154,Tryz.ntmps154
    go_wp2_with (first | (go_at_call 154;(with_reducible refine(DA.out _).mono ?_);rintro e w1 ⟨rfl,hb1⟩) | (go_at_call 154;(with_reducible refine(DB.out _).mono ?_);rintro e w2 ⟨rfl,hb2⟩))
    go_ret
    exact⟨by rw [HD.out,HA.out];rfl,hb1.trans (hb2.mono hb1.size)⟩
theorem digV_lt (c:UInt8) (i:Nat) (hi:i≤16) (h:∀j < i,hexL[j]? ≠ some c) (h2:i=16∨hexL[i]? = some c):digV c=i:=by
 unfold digV
 have hl:hexL.length=16:=rfl
 rcases h2 with rfl | h2
 ·have:∀x∈hexL,(x == c)=false:=fun x hx=>by
   obtain⟨j,hj,rfl⟩:=List.getElem_of_mem hx
   rw [beq_eq_false_iff_ne]
   intro e
   exact h j (by omega) (by rw [List.getElem?_eq_getElem hj,e])
  rw [List.findIdx_eq_length.2 this,hl]
 ·have hi2:i < hexL.length:=(List.getElem?_eq_some_iff.1 h2).1
  rw [List.findIdx_eq hi2]
  constructor
  ·have:=(List.getElem?_eq_some_iff.1 h2).2
   rw [this]
   exact beq_self_eq_true _
  ·intro j hj
   rw [beq_eq_false_iff_ne]
   intro e
   exact h j hj (by rw [List.getElem?_eq_getElem (by omega),e])
theorem hexStr:∀i:Fin 16,(⟨#[48,49,50,51,52,53,54,55,56,57,65,66,67,68,69,70]⟩:ByteArray)[i.1]'i.2=hexL[i.1]'i.2:=by decide
theorem rdigit_any (c:UInt8) (w:World):Calls Tryz.prog 138 #[.int .u8 (c.toNat:Int)] w fun e w'=>e=.returned (.int .i64 (digV c:Int))∧Below w.heap.size w w':=by
 have HL:Live w []:=trivial
 go_enter Tryz.func138,Tryz.ntmps138
 go_wp2
 go_loopw [3] (fun i wr=>∃k:Nat,i=.int .i64 (k:Int)∧k≤16∧(∀j < k,hexL[j]? ≠ some c)∧Below w.heap.size w wr) (fun i _=>16 - (intOf i).toNat)
 case atStart=>exact⟨0,rfl,by decide,fun j hj=>by omega,Below.refl _ _⟩
 case round=>
  obtain⟨k,rfl,hk,hne,hbel⟩:=hrel
  have HNE:=hide hne
  clear hne
  by_cases hlt:k < 16
  ·have hltz:(k:Int) < 16:=by omega
   obtain⟨y,hy⟩:∃y,hexL[k]? = some y:=⟨_,List.getElem?_eq_getElem (by show k < 16;exact hlt)⟩
   have HY:=hide hy
   have hs:(⟨#[48,49,50,51,52,53,54,55,56,57,65,66,67,68,69,70]⟩:ByteArray)[k]'hlt=y:=by
    rw [hexStr ⟨k,hlt⟩]
    exact(List.getElem?_eq_some_iff.1 hy).2
   clear hy
   by_cases he:y=c
   ·subst he
    have HD:=hide (digV_lt y k (by omega) HNE.out (Or.inr HY.out))
    go_wp2_with fail
    go_ret
    exact⟨by rw [HD.out];rfl,hbel⟩
   ·have he2:¬(y.toNat:Int)=(c.toNat:Int):=fun e=>he (UInt8.toNat_inj.1 (by omega))
    go_wp2_with fail
    refine⟨⟨k+1,rfl,by omega,fun j hj e=>?_,hbel⟩,?_⟩
    ·by_cases hjk:j < k
     ·exact HNE.out j hjk e
     ·have:j=k:=by omega
      subst this
      rw [HY.out] at e
      exact he (Option.some.inj e)
    ·show 16 - ((k:Int)+1).toNat < 16 - ((k:Nat):Int).toNat
     omega
  ·have hk16:k=16:=by omega
   subst hk16
   have HD:=hide (digV_lt c 16 (by decide) HNE.out (Or.inl rfl))
   go_wp2_with fail
   go_ret
   exact⟨by rw [HD.out];rfl,hbel⟩
theorem RowBt.nil (B:Nat) (w:World):RowBt B (.slice none 0 0) [] w:=⟨rfl,Or.inl ⟨rfl,rfl⟩⟩
theorem RowBt.below {B:Nat} {v:Value} {l:List UInt8} {w w':World} (h:RowBt B v l w) (hb:Below w.heap.size w w'):RowBt B v l w':=below_row' h hb
theorem byteCells_one (l:List UInt8) (c:UInt8):Lib.byteCells l++[Value.int .u8 (c.toNat:Int)]=Lib.byteCells (l++[c]):=by rw [Lib.byteCells_append];rfl
theorem byteCells_three (l:List UInt8) (a b c:UInt8):Lib.byteCells l++[Value.int .u8 (a.toNat:Int),.int .u8 (b.toNat:Int),.int .u8 (c.toNat:Int)]=Lib.byteCells (l++[a,b,c]):=by rw [Lib.byteCells_append];rfl
theorem grown_row {B:Nat} {v:Value} {n:Nat} {xs:List Value} {e:TypeId} {s:Nat} {w0 w w':World} (hown:w.ownsRow B e s v n xs) (hg:w.grownBy w' v.ownBlock) (hb:Below B w0 w) (hB:B≤w.heap.size):Below B w0 w':=by
 refine hb.trans ((FrO.grown (O:=fun j=>v.ownBlock=some j) hg (fun j h=>h)).below hB fun j hj=>?_)
 rcases hown.2 with⟨rfl,_⟩ | ⟨g,cap,cur,rfl,hbg,_⟩
 ·cases hj
 ·injection hj with hj
  subst hj
  exact hbg
theorem rword_any (s:ByteArray) (hs:s.size≤1000000) (w:World):Calls Tryz.prog 134 #[.string s] w fun e w'=>e=.returned (.string (wordS s))∧Below w.heap.size w w':=by
 by_cases h0:s=eS
 case pos=>
  subst h0
  have HL:Live w []:=trivial
  go_enter Tryz.func134,Tryz.ntmps134
  go_wp2_with fail
  go_ret
  exact⟨rfl,Below.refl _ _⟩
 case neg=>
 have q1:(s.toList == [])=false:=by
  rw [beq_eq_false_iff_ne]
  exact fun e=>h0 (nil_list e)
 have HW:=hide (wordS_ne h0)
 clear h0
 have HL:Live w []:=trivial
 go_enter Tryz.func134,Tryz.ntmps134
 go_wp2_with fail
 go_loopw [3,4] (fun v i wr=>∃k:Nat,i=.int .i64 (k:Int)∧k≤s.size∧RowBt w.heap.size v (wordL (s.data.toList.take k)) wr∧Below w.heap.size w wr) (fun _ i _=>s.size - (intOf i).toNat)
 case atStart=>exact⟨0,rfl,Nat.zero_le _,RowBt.nil _ _,Below.refl _ _⟩
 case round=>
  obtain⟨k,rfl,hk,hR,hbel⟩:=hrel
  have HR:=hide hR
  have hsz:=hbel.size
  have hlen:(wordL (s.data.toList.take k)).length≤3000000:=by
   have h1:=(wordL_len (s.data.toList.take k)).2
   have h2:(s.data.toList.take k).length≤k:=List.length_take_le _ _
   omega
  clear hR
  by_cases hlt:k < s.size
  case neg=>
   obtain rfl:k=s.size:=by omega
   have HE:=hide (show(⟨(wordL (s.data.toList.take s.size)).toArray⟩:ByteArray)=wordS s by rw [HW.out,List.take_of_length_le (by rw [Array.length_toList];exact Nat.le_refl _)])
   have CV:=HR.out.conv
   go_wp2_with fail
   go_ret
   exact⟨by rw [HE.out];rfl,hbel⟩
  case pos=>
  have HT:=hide (wordL_take hlt)
  generalize hc:(s[k]'hlt)=c at *
  have PL:=hide (fun W=>rplain_any c W)
  cases hpl:plainB c
  case true=>
   have HL:=hide (show wordL (s.data.toList.take (k+1))=wordL (s.data.toList.take k)++[c] by rw [HT.out,wb_yes hpl])
   rw [hpl] at PL
   clear hpl HT
   obtain⟨L,hL⟩:∃L,L=wordL (s.data.toList.take k):=⟨_,rfl⟩
   rw [←hL] at HR HL hlen
   clear hL
   have HR2:=hide (HR.out.below ((Below.refl _ _).alloc (Nat.le_refl _) (.cells #[.int .u8 (c.toNat:Int)] 5)))
   have HN:=hide (show Blk (wr.alloc (.cells #[.int .u8 (c.toNat:Int)] 5)) wr.heap.size #[.int .u8 (c.toNat:Int)] 5 from Blk.newAt rfl)
   have hz2:(wr.alloc (.cells #[.int .u8 (c.toNat:Int)] 5)).heap.size=wr.heap.size+1:=World.size_alloc ..
   have hbel2:Below w.heap.size w (wr.alloc (.cells #[.int .u8 (c.toNat:Int)] 5)):=hbel.alloc hsz _
   go_wp2_with (first | (first | (go_at_call 155;(with_reducible refine(PL.out _).mono ?_);rintro e w' ⟨rfl,rfl⟩)) | (at_builtin;refine wpList_append_rows _ rfl _ _ 79 rfl w.heap.size 5 u8InfoR Tryz.underlying79 rfl (by decide) _ L.length (Lib.byteCells L) HR2.out ⟨wr.heap.size,0,none⟩ 1 1 [.int .u8 (c.toNat:Int)] rfl rfl rfl (World.news_of_block HN.out) (by simp [Value.oneCell']) (by unfold maxLen;omega) (by omega) (by omega) ?_;intro v2 w2 hown2 hnb2 hg2))
   have HR3:=hide (show RowBt w.heap.size v2 (L++[c]) w2 by
    show w2.ownsRow _ _ _ v2 (L++[c]).length _
    rw [←byteCells_one,List.length_append]
    exact hown2)
   have hbel3:=grown_row HR2.out hg2 hbel2 (by omega)
   go_roundw
   case rel=>exact⟨k+1,by go_num,by omega,by rw [HL.out];exact HR3.out,hbel3⟩
   case measure=>simp [intOf];omega
  case false=>
   have HL:=hide (show wordL (s.data.toList.take (k+1))=wordL (s.data.toList.take k)++[37,hexd (c.toNat / 16),hexd (c.toNat % 16)] by rw [HT.out,wb_no hpl])
   rw [hpl] at PL
   clear hpl HT
   obtain⟨L,hL⟩:∃L,L=wordL (s.data.toList.take k):=⟨_,rfl⟩
   rw [←hL] at HR HL hlen
   clear hL
   have hc256:=c.toNat_lt
   have wq:IntKind.u8.wrap ((c.toNat:Int) / 16)=((c.toNat / 16:Nat):Int):=by rw [IntKind.wrap_u8];omega
   have h16:(c.toNat:Int) / 16 < 16:=by omega
   have rq:(c.toNat:Int).tmod 16=((c.toNat % 16:Nat):Int):=by rw [Int.tmod_eq_emod_of_nonneg (by omega)];omega
   have h16b:(c.toNat:Int) % 16 < 16:=by omega
   have h0a:0≤(c.toNat:Int) / 16:=by omega
   have h0b:0≤(c.toNat:Int) % 16:=by omega
   go_upto_region 9 with (first | (go_at_call 155;(with_reducible refine(PL.out _).mono ?_);rintro e w' ⟨rfl,rfl⟩))
   refine wp_region_noPanic ?_
   refine wp_region_held_drew (S:=(fun _=>True∧True)) (by kernel_rfl) kp (fun hHeld=>?_)
   refine tkZ 0 ⟨some 23,.move (.tmp 3),79, "ref.go:358",#[],none⟩ ?_
   refine tkZ 1 ⟨some 24,.move (.tmp 0),9, "ref.go:358",#[],none⟩ ?_
   refine tkZ 2 ⟨some 25,.move (.tmp 4),3, "ref.go:358",#[],none⟩ ?_
   refine tkZ 3 ⟨some 26,.index 9 (.tmp 24) (.tmp 25),5, "ref.go:358",#[⟨1,.data⟩,⟨2,.data⟩],none⟩ ?_
   refine tkZ 4 ⟨some 27,.binOp .quo 5 (.tmp 26) (.const (.int .u8 16)) 5,5, "ref.go:358",#[⟨3,.data⟩],none⟩ ?_
   refine tkZ 5 ⟨some 28,.index 9 (.const (.string { data:=#[48,49,50,51,52,53,54,55,56,57,65,66,67,68,69,70] })) (.tmp 27),5, "ref.go:358",#[⟨4,.data⟩],none⟩ ?_
   refine tkZ 6 ⟨some 29,.move (.tmp 0),9, "ref.go:358",#[],none⟩ ?_
   refine tkZ 7 ⟨some 30,.move (.tmp 4),3, "ref.go:358",#[],none⟩ ?_
   refine tkZ 8 ⟨some 31,.index 9 (.tmp 29) (.tmp 30),5, "ref.go:358",#[⟨6,.data⟩,⟨7,.data⟩],none⟩ ?_
   refine tkZ 9 ⟨some 32,.binOp .rem 5 (.tmp 31) (.const (.int .u8 16)) 5,5, "ref.go:358",#[⟨8,.data⟩],none⟩ ?_
   refine tkZ 10 ⟨some 33,.index 9 (.const (.string { data:=#[48,49,50,51,52,53,54,55,56,57,65,66,67,68,69,70] })) (.tmp 32),5, "ref.go:358",#[⟨9,.data⟩],none⟩ ?_
   refine rqS [11] (rqC ⟨some 34,.buildSlice 79 3 #[(0,.const (.int .u8 37)),(1,.tmp 28),(2,.tmp 33)],79, "ref.go:358",#[⟨5,.data⟩,⟨10,.data⟩],none⟩ (fun K hK=>?_) rq0)
   go_simp
   refine hK.out _ _ kp (fun hHeld=>?_)
   clear hK K
   try simp only [PT]
   refine rqS [12] (rqC ⟨some 35,.call ⟨.builtin .append,#[.tmp 23,.tmp 34],#[79,79]⟩,79, "ref.go:358",#[⟨0,.data⟩,⟨11,.data⟩],none⟩ (fun K hK=>?_) rq0)
   refine step_append_rows _ (by rfl) _ _ 79 (by rfl) w.heap.size 5 u8InfoR Tryz.underlying79 (by rfl) (by decide) _ L.length (Lib.byteCells L) (HR.out.below ((Below.refl wr.heap.size wr).alloc (Nat.le_refl _) _).drew) ⟨wr.heap.size,0,none⟩ 3 3 _ (by rfl) (by rfl) (by rfl) (World.news_of_block (Blk.newAt rfl)) (by simp [Value.oneCell']) (by unfold maxLen;omega) (by omega) (Nat.le_trans hsz (((Below.refl wr.heap.size wr).alloc (Nat.le_refl _) _).drew).size) ?_;intro v2 w2 hown2 hnb2 hg2
   refine hK.out _ _ kp (fun hHeld=>?_)
   clear hK K
   try simp only [PT]
   refine tkZ 13 ⟨some 3,.assign (.tmp 35),79, "ref.go:358",(phs [⟨12,.data⟩,⟨12,.chain⟩] 13),none⟩ ?_
   refine wpAnyH_done (by kernel_rfl) ?_ _
   refine NoPanic.normal ?_
   have HR3:=hide (show RowBt w.heap.size v2 (L++[37,hexd (c.toNat / 16),hexd (c.toNat % 16)]) w2 by
    show w2.ownsRow _ _ _ v2 (L++[_,_,_]).length _
    rw [←byteCells_three,List.length_append,←hexS ⟨c.toNat / 16,by omega⟩,←hexS ⟨c.toNat % 16,by omega⟩]
    exact hown2)
   have hbel3:=grown_row (HR.out.below ((Below.refl wr.heap.size wr).alloc (Nat.le_refl _) _).drew) hg2 (hbel.alloc hsz _).drew (Nat.le_trans hsz (((Below.refl wr.heap.size wr).alloc (Nat.le_refl _) _).drew).size)
   go_wp2_with fail
   go_roundw
   case rel=>exact⟨k+1,by go_num,by omega,by rw [HL.out];exact HR3.out,hbel3⟩
   case measure=>simp [intOf];omega
end Go.Proofs.YtlhakdildbplkaaGreatDoor
