/- Part of the claim: its words. -/
import Derived.Test.YtlhakdildbplkaaGreatDoorG10
import Derived.Shelf.Strings.BuilderK
import Derived.Shelf.Strings.BuilderRune
import Derived.Shelf.Strings.OnBuilder
import Derived.Test.YtlhakdildbplkaaGreatDoorG0
import Derived.Shelf.Strings.BuilderF
import Derived.Lib.FrozenHead2
import Derived.Test.YtlhakdildbplkaaGreatDoorG4
set_option maxRecDepth 100000
set_option maxHeartbeats 4000000
namespace Go.Proofs.YtlhakdildbplkaaGreatDoor
set_option linter.unusedSimpArgs false
set_option linter.unusedVariables false
open Go.RowKit
theorem kid_some:∀ {f:Fo} {n:ByteArray} {i:Nat},kidI f n=some i→∃k,f.list[i]? = some k∧kidF f n=some k∧k.h.name=n
 | .nil,_,_,h=>by cases h
 | .node h ss ks nx,n,i,e=>by
  by_cases q:h.name=n
  ·rw [kidI_hit q] at e
   injection e with e
   subst e
   exact⟨⟨h,ss,ks⟩,rfl,by rw [kidF,if_pos q],q⟩
  ·rw [kidI_miss q] at e
   cases hk:kidI nx n with
   | none=>rw [hk] at e;cases e
   | some j=>
    rw [hk] at e
    injection e with e
    obtain⟨k,h1,h2,h3⟩:=kid_some hk
    exact⟨k,by rw [←e];simpa [Fo.list] using h1,by rw [kidF,if_neg q,h2],h3⟩
theorem kid_none:∀ {f:Fo} {n:ByteArray},kidI f n=none→kidF f n=none
 | .nil,_,_=>rfl
 | .node h ss ks nx,n,e=>by
  by_cases q:h.name=n
  ·rw [kidI_hit q] at e;cases e
  ·rw [kidI_miss q] at e
   rw [kidF,if_neg q]
   exact kid_none (by cases hk:kidI nx n with
    | none=>rfl
    | some j=>rw [hk] at e;cases e)
theorem kidI_lt {f:Fo} {n:ByteArray} {i:Nat} (h:kidI f n=some i):i < f.len:=by
 obtain⟨k,h1,_⟩:=kid_some h
 rw [←Fo.list_len]
 exact(List.getElem?_eq_some_iff.1 h1).1
theorem findT_nil (t:Tr):findT t []=some t:=rfl
theorem findT_hit {t k:Tr} {n:ByteArray} {l:List ByteArray} (h:kidF t.ks n=some k):findT t (n :: l)=findT k l:=by rw [findT,h]
theorem findT_miss {t:Tr} {n:ByteArray} {l:List ByteArray} (h:kidF t.ks n=none):findT t (n :: l)=none:=by rw [findT,h]
def Down (w0:World) (At:List ByteArray→Tr→Nat→Nat→Prop):Prop:=∀done x b o,At done x b o→b < w0.heap.size∧x.ks.len≤2000000000∧∃A c,w0.cell? ⟨b,o+10,none⟩=some (.slice A x.ks.len c)∧Left w0 w0.heap.size A x.ks 0 ∧
 ∀n i k g o',kidI x.ks n=some i→x.ks.list[i]? = some k→A=some ⟨g,o',none⟩→At (done++[n]) k g (o'+i*12)
def FndR (At:List ByteArray→Tr→Nat→Nat→Prop) (p:List ByteArray) (v:Option Tr) (r:Option Addr):Prop:=match v with
 | none=>r=none
 | some x=>∃b o,r=some ⟨b,o,none⟩∧At p x b o
theorem nil_list {s:ByteArray} (h:s.toList=[]):s=eS:=by
 apply ByteArray.ext
 apply Array.toList_inj.1
 rw [←ByteArray.toList_eq,h]
theorem find_any (At:List ByteArray→Tr→Nat→Nat→Prop) (t:Tr) (b0 o0:Nat) (p:ByteArray) (hp:p.size≤2000000) (w:World) (hT:TabV w) (hD:Down w At) (h0:At [] t b0 o0) :
  Calls Tryz.prog 63 #[.pointer (some ⟨b0,o0,none⟩),.string p] w fun e w'=>∃r,e=.returned (.pointer r)∧FndR At (partsP p) (findT t (partsP p)) r∧Below w.heap.size w w':=by
 by_cases hpe:p=eS
 case pos=>
  have HR:=hide (show partsP p=[] by unfold partsP;rw [if_pos hpe])
  subst hpe
  have HL:Live w []:=trivial
  go_enter Tryz.func63,Tryz.ntmps63
  go_wp2_with fail
  go_ret
  exact⟨_,rfl,by rw [HR.out];exact⟨b0,o0,rfl,h0⟩,Below.refl _ _⟩
 case neg=>
  have HR:=hide (show partsP p=words p by unfold partsP;rw [if_neg hpe])
  have q1:(p.toList == [])=false:=by
   rw [beq_eq_false_iff_ne]
   exact fun e=>hpe (nil_list e)
  have hwl:=words_len p
  have SP:=hide (fun W hTW=>by have h:=splitC p hp W hTW;rw [←hwl] at h;exact h)
  have HD:=hide hD
  have HAt:=hide h0
  have hmx:(words p).length≤2000001:=by rw [hwl];have:=Lib.countB_le slash (by decide) p.size p (Nat.le_refl _);omega
  clear hpe hD h0 hwl
  have HL:Live w []:=trivial
  go_enter Tryz.func63,Tryz.ntmps63
  go_upto_block 0 with (go_at_call 60;refine(SP.out _ hT).mono ?_;rintro e w2 ⟨rfl,rfl⟩)
  have HW:=hide (show Blk (w.alloc (.cells ((words p).map Value.string).toArray 9)) w.heap.size ((words p).map Value.string).toArray 9 from Blk.newAt rfl)
  have hbel2:Below w.heap.size w (w.alloc (.cells ((words p).map Value.string).toArray 9)):=by(exact bl)
  generalize w.alloc (.cells ((words p).map Value.string).toArray 9)=W2 at *
  obtain⟨sb,hsb⟩:∃sb,sb=w.heap.size:=⟨_,rfl⟩
  rw [←hsb] at HW ⊢
  clear hsb SP
  generalize words p=ps at *
  go_wp2_with fail
  go_loopw [0,14] (fun ptr i wr=>∃(k:Nat) (x:Tr) (b o:Nat),i=.int .i64 (k:Int)∧k≤ps.length∧ptr=.pointer (some ⟨b,o,none⟩)∧At (ps.take k) x b o∧findT t ps=findT x (ps.drop k)∧Below W2.heap.size W2 wr) (fun _ i _=>ps.length - (intOf i).toNat)
  case atStart=>exact⟨0,t,b0,o0,rfl,by omega,rfl,HAt.out,rfl,Below.refl _ _⟩
  case round=>
   clear HAt
   obtain⟨k,x,b,o,rfl,hk,rfl,hat,hfd,hbr⟩:=hrel
   have HAt:=hide hat
   have HF:=hide hfd
   have hbel:=hbel2.trans (hbr.mono hbel2.size)
   clear hfd
   by_cases hlt:k < ps.length
   case neg=>
    obtain rfl:k=ps.length:=by omega
    have HZ:=hide (show findT t ps=some x by rw [HF.out,List.drop_length,findT_nil])
    clear hat
    go_wp2_with fail
    go_ret
    exact⟨_,rfl,by rw [HR.out,HZ.out];exact⟨b,o,rfl,by have:=HAt.out;rw [List.take_length] at this;exact this⟩,hbel⟩
   case pos=>
   obtain⟨n,hn⟩:∃n,ps[k]? = some n:=⟨_,List.getElem?_eq_getElem hlt⟩
   obtain⟨hbw,hlk,A,c,h10,hkl,hdn⟩:=HD.out _ _ _ _ hat
   have HDN:=hide hdn
   have HKL:=hide hkl
   have s1:wr.cell? ⟨sb,k,none⟩=some (.string n):=((Blk.below hbr HW.out).cells k).trans (by simp [hn])
   have hdrop:ps.drop k=n :: ps.drop (k+1):=by
    obtain⟨h1,e1⟩:=List.getElem?_eq_some_iff.1 hn
    rw [List.drop_eq_getElem_cons h1,e1]
   have HDR:=hide hdrop
   have htake:ps.take (k+1)=ps.take k++[n]:=by rw [List.take_add_one,hn];rfl
   have HTK:=hide htake
   clear hat hdn hkl hn hdrop htake
   go_upto_region 6 with fail
   have HC:=hide (show Blk (wr.alloc (.cells #[.string n] 9)) wr.heap.size #[.string n] 9 from Blk.newAt rfl)
   have hbel5:Below w.heap.size w (wr.alloc (.cells #[.string n] 9)):=hbel.alloc hbel.size _
   have hbr5:Below W2.heap.size W2 (wr.alloc (.cells #[.string n] 9)):=hbr.alloc hbr.size _
   generalize wr.alloc (.cells #[.string n] 9)=W5 at *
   generalize wr.heap.size=d at *
   have c10:W5.cell? ⟨b,o+10,none⟩=some (.slice A x.ks.len c):=(hbel5.cell (p:=⟨b,o+10,none⟩) hbw).trans h10
   have IX:=hide (index_any 121 n d (fnd_name n d) x.ks A c w.heap.size hlk W5 hbel5.size (HKL.out.below hbel5) HC.out)
   clear s1 hbr
   cases hki:kidI x.ks n with
   | none=>
    rw [hki] at IX
    have HZ:=hide (show findT t ps=none by rw [HF.out,HDR.out,findT_miss (kid_none hki)])
    clear hki
    go_wp2_with (go_at_call 77;refine IX.out.mono ?_;rintro e w7 ⟨rfl,hb7⟩)
    go_ret
    exact⟨_,rfl,by rw [HR.out,HZ.out];rfl,hbel5.trans (hb7.mono hbel5.size)⟩
   | some i=>
    rw [hki] at IX
    have hil:=kidI_lt hki
    obtain⟨kk,hk1,hk2,-⟩:=kid_some hki
    have HZ:=hide (show findT t ps=findT kk (ps.drop (k+1)) by rw [HF.out,HDR.out,findT_hit hk2])
    have hA:∃g o',A=some ⟨g,o',none⟩:=by
     obtain⟨g,o',e,_⟩:=HKL.out (by omega)
     exact⟨g,o',e⟩
    clear HKL
    obtain⟨g,o',rfl⟩:=hA
    have HAN:=hide (show At (ps.take (k+1)) kk g (o'+i*12) by rw [HTK.out];exact HDN.out n i kk g o' hki hk1 rfl)
    have IX2:=hide (show Calls Tryz.prog 77 #[.slice (some ⟨g,o',none⟩) x.ks.len c,.func (.func 121) #[] #[.pointer (some ⟨d,0,none⟩)]] W5 fun e w'=>e=.returned (.int .i64 (i:Int))∧Below W5.heap.size W5 w' from IX.out)
    clear hki hk1 hk2 HDN IX
    go_wp2_with (go_at_call 77;refine IX2.out.mono ?_;rintro e w7 ⟨rfl,hb7⟩;have d10:w7.cell? ⟨b,o+10,none⟩=some (.slice (some ⟨g,o',none⟩) x.ks.len c):=((hbel5.trans (hb7.mono hbel5.size)).cell (p:=⟨b,o+10,none⟩) hbw).trans h10)
    go_roundw
    case rel=>exact⟨k+1,kk,g,o'+i*12,by go_num,by omega,by go_num,HAN.out,HZ.out,hbr5.trans (hb7.mono hbr5.size)⟩
    case measure=>simp [intOf];omega
theorem results_cell2 {P:Program} {fn:Func} {p q:Tmp} {ty:TypeId} (h:fn.results=#[.cell p ty,.tmp q]) (tmps:Array Value) (w:World) (g:Nat) (t:TypeId) (cs:Array Value) (fr:Nat × Nat) (d:TypeDesc)
  (hp:tmps.getD p undef=.pointer (some ⟨g,0,none⟩)) (hg:w.heap[g]? = some (.cells cs t fr)) (v:Value) (hq:tmps.getD q undef=v)
  (hu:P.underlying ty=some d) (hd:(match d with | .struct _ | .array _ _=>true | _=>false)=true) (hi:(P.info? ty).map (·.size)=some cs.size) :
  (results fn tmps).run P w=.ok (.tuple #[.agg cs,v]) w:=by
 have hp':tmps[p]?.getD undef=.pointer (some ⟨g,0,none⟩):=by simpa using hp
 have hq':tmps[q]?.getD undef=v:=by simpa using hq
 simp [results,h,hp',hq',asAddr,run_loadVar_row w g t ty cs fr d hg hu hd hi]
theorem built_zero:Tryz.prog.built 25 []=some zeroN:=by kernel_rfl
theorem zero_reads (w:World) (B:Nat):TreeR w B (.agg zeroN) Tr.zero:=⟨.slice none 0 0,.slice none 0 0,rfl,⟨none,0,rfl,fun h=>absurd h (Nat.lt_irrefl _)⟩,⟨none,0,rfl,fun h=>absurd h (Nat.lt_irrefl _)⟩⟩
theorem TreeR.own_below {w w':World} {v:Value} {t:Tr} (h:TreeR w w.heap.size v t) (hb:Below w.heap.size w w'):TreeR w' w'.heap.size v t:=(h.below hb).mono hb.size
theorem ForR.at {w:World} {B g:Nat}:∀ {f:Fo} {o i:Nat} {k:Tr},ForR w B f g o→f.list[i]? = some k→k.sz≤f.sz∧∃kv sv,w.rangeAt g (o+i*12) (k.h.cells kv sv).toList∧StR w B sv k.ss∧KidR w B kv k.ks
 | .nil,_,_,_,_,h=>by simp [Fo.list] at h
 | .node h ss ks nx,o,0,k,⟨⟨kv,sv,hr,hs,hk⟩,_⟩,e=>by
  have e2:(⟨h,ss,ks⟩:Tr)=k:=by simpa [Fo.list] using e
  subst e2
  exact⟨by show h.sz+szS ss+ks.sz≤h.sz+szS ss+ks.sz+nx.sz;omega,kv,sv,by rw [Nat.zero_mul,Nat.add_zero];exact hr,hs,hk⟩
 | .node h ss ks nx,o,i+1,k,⟨_,hn⟩,e=>by
  obtain⟨h1,kv,sv,h2,h3⟩:=ForR.at hn (i:=i) (k:=k) (by simpa [Fo.list] using e)
  exact⟨by show k.sz≤h.sz+szS ss+ks.sz+nx.sz;omega,kv,sv,by rw [show o+(i+1)*12=o+12+i*12 by omega];exact h2,h3⟩
theorem OwnT.fr {O:Nat→Prop} {w w':World} {lo:Nat} {v:Value} {t:Tr} (h:OwnT w lo v t) (hf:FrO O w w') (ho:∀(j:Nat) (cs:Array Value) (fr:Nat × Nat),O j→w.heap[j]? ≠ some (Obj.cells cs 69 fr)) (hlo:∀j,lo≤j→¬O j):OwnT w' lo v t:=by
 obtain⟨kv,sv,P,rfl,hs,hk,hP⟩:=h
 exact⟨kv,sv,P,rfl,own_fr hf hs (fun g hg=>hlo g (hs.lt g hg).1),hk.frame (StrK.of hf ho) (fun j hj hp=>hf.block j hj (hlo j (hP j hp).1)),fun j hj=>⟨(hP j hj).1,Nat.lt_of_lt_of_le (hP j hj).2 hf.size⟩⟩
theorem getT_no {t:Tr} {p:ByteArray} (h:validB t=false):getT t p=(Tr.zero,1):=by unfold getT;rw [h];rfl
theorem getT_yes {t:Tr} {p:ByteArray} (h:validB t=true):(∀x,findT t (partsP p)=some x→getT t p=(x,0))∧(findT t (partsP p)=none→getT t p=(Tr.zero,6)):=by
 unfold getT
 rw [if_pos h]
 exact⟨fun x e=>by rw [e],fun e=>by rw [e]⟩
theorem findT_snoc:∀(l:List ByteArray) (t:Tr) (n:ByteArray),findT t (l++[n])=(findT t l).bind fun x=>kidF x.ks n
 | [],t,n=>by
  show(match kidF t.ks n with | some k=>findT k [] | none=>none)=kidF t.ks n
  cases kidF t.ks n <;> rfl
 | m :: l,t,n=>by
  show(match kidF t.ks m with | some k=>findT k (l++[n]) | none=>none)=Option.bind (match kidF t.ks m with | some k=>findT k l | none=>none) _
  cases kidF t.ks m with
  | none=>rfl
  | some k=>exact findT_snoc l k n
def AtR (w0:World) (t:Tr) (Z:Nat) (done:List ByteArray) (x:Tr) (b o:Nat):Prop:=findT t done=some x∧b < w0.heap.size∧x.sz≤Z∧∃kv sv,w0.rangeAt b o (x.h.cells kv sv).toList∧StR w0 w0.heap.size sv x.ss∧KidR w0 w0.heap.size kv x.ks
theorem AtR.down (w0:World) (t:Tr) (Z:Nat) (hZ:Z≤2000000000):Down w0 (AtR w0 t Z):=by
 intro done x b o ⟨hf,hb,hx,kv,sv,hr,hs,A,c,e,hk⟩
 subst e
 refine⟨hb,by have:=x.ks.len_sz;unfold Tr.sz at hx;omega,A,c,hr 10 _ rfl,Left.of hk,fun n i k g o' hki hk1 hA=>?_⟩
 obtain⟨g',o2,e2,hg,hfo⟩:=hk (by have:=kidI_lt hki;omega)
 rw [hA] at e2
 injection e2 with e2
 injection e2 with e3 e4
 subst e3;subst e4
 obtain⟨k',h1,h2,-⟩:=kid_some hki
 rw [hk1] at h1
 injection h1 with h1
 subst h1
 obtain⟨hsz,kv',sv',h3,h4,h5⟩:=hfo.at hk1
 exact⟨by rw [findT_snoc,hf];exact h2,hg,by unfold Tr.sz at hx;omega,kv',sv',h3,h4,h5⟩
theorem get_any (t:Tr) (p:ByteArray) (hsz:t.sz≤60000) (hp:p.size≤2000000) (v:Value) (w:World) (hT:TabV w) (hv:TreeR w w.heap.size v t):Calls Tryz.prog 21 #[v,.string p] w fun e w'=>∃r,e=.returned (.tuple #[r,.int .i64 (getT t p).2])∧TreeR w' w'.heap.size r (getT t p).1∧Below w.heap.size w w':=by
 have VN:=hide (fun W hTW hW=>valid_any t (Or.inl hsz) v W hTW hW)
 have HV:=hide hv
 obtain⟨A,c,A2,c2,rfl,hkl,hstl⟩:=hv.openL
 clear hv hkl hstl
 have HL:Live w []:=trivial
 go_enter Tryz.func21,Tryz.ntmps21
 go_upto_region 1 with fail
 have HB:=hide (show Blk ((w.alloc (.cells (t.h.cells (.slice A t.ks.len c) (.slice A2 t.ss.length c2)) 25)).alloc (.cells zeroN 25)) w.heap.size (t.h.cells (.slice A t.ks.len c) (.slice A2 t.ss.length c2)) 25 from(Blk.newAt rfl).alloc _)
 have HR:=hide (show Blk ((w.alloc (.cells (t.h.cells (.slice A t.ks.len c) (.slice A2 t.ss.length c2)) 25)).alloc (.cells zeroN 25)) (w.heap.size+1) zeroN 25 from Blk.newAt (by rw [World.size_alloc]))
 have hbel1:Below w.heap.size w ((w.alloc (.cells (t.h.cells (.slice A t.ks.len c) (.slice A2 t.ss.length c2)) 25)).alloc (.cells zeroN 25)):=((Below.refl _ _).alloc (Nat.le_refl _) _).alloc (by rw [World.size_alloc];omega) _
 obtain⟨W1,hW1⟩:∃W1,W1=(w.alloc (.cells (t.h.cells (.slice A t.ks.len c) (.slice A2 t.ss.length c2)) 25)).alloc (.cells zeroN 25):=⟨_,rfl⟩
 rw [←hW1] at HB HR hbel1
 unfold zeroN at hW1
 rw [←hW1]
 clear hW1
 obtain⟨r,hr⟩:∃r,r=w.heap.size+1:=⟨_,rfl⟩
 rw [←hr] at HR ⊢
 obtain⟨b,hb⟩:∃b,b=w.heap.size:=⟨_,rfl⟩
 rw [←hb] at HB ⊢
 have hlo:b≠r∧w.heap.size≤b∧w.heap.size≤r:=by omega
 obtain⟨hbr,hwb,hwr⟩:=hlo
 clear hb hr
 have HT1:=hide (hT.below hbel1)
 have HV1:=hide (HV.out.own_below hbel1)
 have hrl:=HR.out.lt
 have BZ:=hide built_zero
 clear hT HV
 cases hvb:validB t
 case false=>
  have HZ:=hide (getT_no (p:=p) hvb)
  rw [hvb] at VN
  clear hvb
  go_wp2_with (first | (refine wpList_load_row rfl 25 (.tmp 2) rfl b rfl 25 (t.h.cells (.slice A t.ks.len c) (.slice A2 t.ss.length c2)) (0,0) _ HB.out Tryz.underlying25 rfl (infN rfl) ?_) | (go_at_call 20;refine(VN.out _ HT1.out HV1.out).mono ?_;rintro e w3 ⟨rfl,hb3⟩;have HR3:=hide (Blk.below hb3 HR.out)) | (refine wpList_build_is rfl 25 #[] rfl [] (by simp) _ BZ.out ?_) | (refine wpList_store_row rfl 25 (.tmp 4) (.tmp 10) rfl r zeroN rfl rfl 25 zeroN HR3.out (infN rfl) rfl (by kernel_rfl) ?_))
  refine bodyPost_ret (results_cell2 rfl _ _ r 25 zeroN (0,0) _ rfl (setRow_heap _ _ _ _ _ _ HR3.out) (.int .i64 1) rfl Tryz.underlying25 rfl (infN rfl)) rfl ?_
  exact⟨_,by rw [HZ.out],by rw [HZ.out];exact zero_reads _ _,(hbel1.trans (hb3.mono hbel1.size)).trans ((FrO.setRow (O:=fun j=>j=r) rfl).below (by have:=hbel1.size;have:=hb3.size;omega) fun j hj=>by subst hj;exact hwr)⟩
 case true=>
  have HP2:=hide (getT_yes (p:=p) hvb)
  rw [hvb] at VN
  clear hvb
  go_upto_region 3 with (first | (refine wpList_load_row rfl 25 (.tmp 2) rfl b rfl 25 (t.h.cells (.slice A t.ks.len c) (.slice A2 t.ss.length c2)) (0,0) _ HB.out Tryz.underlying25 rfl (infN rfl) ?_) | (go_at_call 20;refine(VN.out _ HT1.out HV1.out).mono ?_;rintro e w3 ⟨rfl,hb3⟩;have HR3:=hide (Blk.below hb3 HR.out)))
  have hbel3:=hbel1.trans (hb3.mono hbel1.size)
  have HB3:=hide (Blk.below hb3 HB.out)
  have HT3:=hide (HT1.out.below hb3)
  have HV3:=hide (HV1.out.own_below hb3)
  have h0:AtR w3 t 60000 [] t b 0:=by
   obtain⟨kv,sv,e,hs,hk⟩:=HV3.out
   injection e with e
   refine⟨findT_nil t,HB3.out.lt,hsz,kv,sv,?_,hs,hk⟩
   rw [←e]
   exact fun j u hu=>by rw [Nat.zero_add,HB3.out.cells j,←Array.getElem?_toList,hu]
  have FN:=hide (find_any (AtR w3 t 60000) t b 0 p hp w3 HT3.out (AtR.down w3 t 60000 (by omega)) h0)
  clear HB HR HT1 HV1 hb3 VN h0
  cases hfd:findT t (partsP p) with
  | none=>
   have HZ:=hide (HP2.out.2 hfd)
   rw [hfd] at FN
   clear hfd HP2
   go_wp2_with (first | (go_at_call 63;refine FN.out.mono ?_;rintro e w4 ⟨r4,rfl,hr4,hb4⟩;have hr4':r4=none:=hr4;subst hr4';have HR4:=hide (Blk.below hb4 HR3.out)) | (refine wpList_build_is rfl 25 #[] rfl [] (by simp) _ BZ.out ?_) | (refine wpList_store_row rfl 25 (.tmp 4) (.tmp 15) rfl r zeroN rfl rfl 25 zeroN HR4.out (infN rfl) rfl (by kernel_rfl) ?_))
   refine bodyPost_ret (results_cell2 rfl _ _ r 25 zeroN (0,0) _ rfl (setRow_heap _ _ _ _ _ _ HR4.out) (.int .i64 6) rfl Tryz.underlying25 rfl (infN rfl)) rfl ?_
   exact⟨_,by rw [HZ.out],by rw [HZ.out];exact zero_reads _ _,(hbel3.trans (hb4.mono hbel3.size)).trans ((FrO.setRow (O:=fun j=>j=r) rfl).below (by have:=hbel3.size;have:=hb4.size;omega) fun j hj=>by subst hj;exact hwr)⟩
  | some x=>
   have HZ:=hide (HP2.out.1 x hfd)
   rw [hfd] at FN
   clear hfd HP2
   go_upto_region 6 with (go_at_call 63;refine FN.out.mono ?_;rintro e w4 ⟨r4,rfl,⟨xb,xo,rfl,⟨hx1,hx2,hx3,xkv,xsv,hxr,hxs,hxk⟩⟩,hb4⟩;have HR4:=hide (Blk.below hb4 HR3.out))
   have hbel4:=hbel3.trans (hb4.mono hbel3.size)
   have XR:=hide (range_below hb4 hx2 hxr)
   have HVX:=hide (TreeR.own_below (show TreeR w3 w3.heap.size (.agg (x.h.cells xkv xsv)) x from⟨xkv,xsv,rfl,hxs,hxk⟩) hb4)
   have CL:=hide (fun W hW=>clone_any 60000 x (by have:=x.count_sz;omega) (by omega) (.agg (x.h.cells xkv xsv)) W hW)
   clear FN hxr hxs hxk HR3 hx1
   go_wp2_with (first | (refine wpList_load_midA rfl 25 (.tmp 17) rfl xb xo rfl (x.h.cells xkv xsv) _ XR.out Tryz.underlying25 rfl (infNl rfl) ?_) | (go_at_call 64;refine(CL.out _ HVX.out).mono ?_;rintro e w5 ⟨r5,rfl,ho5,hb5⟩;obtain⟨kv5,sv5,O5,rfl,hs5,hk5,hO5⟩:=ho5;obtain⟨A5,c5,rfl⟩:=hk5.slice;obtain⟨A6,c6,rfl⟩:=own_slice hs5;have HR5:=hide (Blk.below hb5 HR4.out)) | (refine wpList_store_row rfl 25 (.tmp 4) (.tmp 19) rfl r (x.h.cells (.slice A5 x.ks.len c5) (.slice A6 x.ss.length c6)) rfl rfl 25 zeroN HR5.out (infN rfl) rfl (nodeLit _ _ _ _ _ _ _) ?_))
   refine bodyPost_ret (results_cell2 rfl _ _ r 25 (x.h.cells (.slice A5 x.ks.len c5) (.slice A6 x.ss.length c6)) (0,0) _ rfl (setRow_heap _ _ _ _ _ _ HR5.out) (.int .i64 0) rfl Tryz.underlying25 rfl (infN rfl)) rfl ?_
   have hrw:r < w4.heap.size:=HR4.out.lt
   have hf:FrO (fun j=>j=r) w5 (w5.setRow r (x.h.cells (.slice A5 x.ks.len c5) (.slice A6 x.ss.length c6))):=FrO.setRow rfl
   have hOw:OwnT w5 w4.heap.size (.agg (x.h.cells (.slice A5 x.ks.len c5) (.slice A6 x.ss.length c6))) x:=⟨_,_,O5,rfl,hs5,hk5,hO5⟩
   have hOw2:=hOw.fr hf (fun j cs fr e=>by subst e;exact HR5.out.notStr cs fr) (fun j hj e=>by omega)
   exact⟨_,by rw [HZ.out],by rw [HZ.out];exact hOw2.read,(hbel4.trans (hb5.mono hbel4.size)).trans (hf.below (by have:=hbel4.size;have:=hb5.size;omega) fun j hj=>by subst hj;exact hwr)⟩
end Go.Proofs.YtlhakdildbplkaaGreatDoor
namespace Go.Proofs
set_option linter.unusedSimpArgs false
set_option linter.unusedVariables false
open Go.Shelf
def Tryz.lays166_ren:Go.Shelf.Ren:=⟨fun | 166=>84 | 240=>131 | 276=>152 | n=>n,fun | 0=>0 | 3=>3 | 4=>4 | 9=>9 | 20=>20 | 37=>79 | 70=>78 | 72=>81 | 75=>85 | 164=>137 | 5=>5 | 80=>90 | n=>n,fun | n=>n⟩
theorem Tryz.lays166:Go.Proofs.Lays.n166 Tryz.prog Tryz.lays166_ren:={
 mixed:=by kernel_rfl
 f166:=Tryz.func84.trans (congrArg some (by kernel_rfl))
 f240:=Tryz.func131.trans (congrArg some (by kernel_rfl))
 f276:=Tryz.func152.trans (congrArg some (by kernel_rfl))
 t0:=Tryz.underlying0
 a0:=Tryz.isAgg0
 z0:=Tryz.sizeOf0
 v0:=Tryz.zeroValue0
 t3:=Tryz.underlying3
 a3:=Tryz.isAgg3
 z3:=Tryz.sizeOf3
 v3:=Tryz.zeroValue3
 t4:=Tryz.underlying4
 a4:=Tryz.isAgg4
 z4:=Tryz.sizeOf4
 v4:=Tryz.zeroValue4
 t9:=Tryz.underlying9
 a9:=Tryz.isAgg9
 z9:=Tryz.sizeOf9
 v9:=Tryz.zeroValue9
 t20:=Tryz.underlying20
 a20:=Tryz.isAgg20
 z20:=Tryz.sizeOf20
 v20:=Tryz.zeroValue20
 t37:=Tryz.underlying79
 a37:=Tryz.isAgg79
 z37:=Tryz.sizeOf79
 v37:=Tryz.zeroValue79
 t70:=Tryz.underlying78
 a70:=Tryz.isAgg78
 z70:=Tryz.sizeOf78
 v70:=Tryz.zeroValue78
 t72:=Tryz.underlying81
 a72:=Tryz.isAgg81
 z72:=Tryz.sizeOf81
 v72:=Tryz.zeroValue81
 t75:=Tryz.underlying85
 a75:=Tryz.isAgg85
 z75:=Tryz.sizeOf85
 v75:=Tryz.zeroValue85
 t164:=Tryz.underlying137
 a164:=Tryz.isAgg137
 z164:=Tryz.sizeOf137
 v164:=Tryz.zeroValue137 }
theorem Tryz.Builder_Extra_166:Builder.Extra Tryz.prog Tryz.lays166_ren:={
 sizeBuilder:=by kernel_rfl
 liesBuilder:=by kernel_rfl
 t5:=Tryz.underlying5
 a5:=Tryz.isAgg5
 z5:=Tryz.sizeOf5
 v5:=Tryz.zeroValue5
 infoByte:=by kernel_rfl
 cellsByte:=by kernel_rfl
 sizeByte:=by kernel_rfl
 neB5:=by decide }
theorem Tryz.Builder_Extra_169:Builder.Extra Tryz.prog Tryz.lays169_ren:={
 sizeBuilder:=by kernel_rfl
 liesBuilder:=by kernel_rfl
 t5:=Tryz.underlying5
 a5:=Tryz.isAgg5
 z5:=Tryz.sizeOf5
 v5:=Tryz.zeroValue5
 infoByte:=by kernel_rfl
 cellsByte:=by kernel_rfl
 sizeByte:=by kernel_rfl
 neB5:=by decide }
def Tryz.lays156_ren:Go.Shelf.Ren:=⟨fun | 156=>132 | 165=>153 | 166=>84 | 169=>87 | 240=>131 | 241=>172 | 276=>152 | 277=>187 | n=>n,fun | 31=>38 | 9=>9 | 3=>3 | 4=>4 | 0=>0 | 20=>20 | 72=>81 | 76=>86 | 70=>78 | 37=>79 | 75=>85 | 127=>130 | 164=>137 | 5=>5 | 80=>90 | n=>n,fun | n=>n⟩
theorem Tryz.lays156:Go.Proofs.Lays.n156 Tryz.prog Tryz.lays156_ren:={
 mixed:=by kernel_rfl
 f156:=Tryz.func132.trans (congrArg some (by kernel_rfl))
 f165:=Tryz.func153.trans (congrArg some (by kernel_rfl))
 f166:=Tryz.func84.trans (congrArg some (by kernel_rfl))
 f169:=Tryz.func87.trans (congrArg some (by kernel_rfl))
 f240:=Tryz.func131.trans (congrArg some (by kernel_rfl))
 f241:=Tryz.func172.trans (congrArg some (by kernel_rfl))
 f276:=Tryz.func152.trans (congrArg some (by kernel_rfl))
 f277:=Tryz.func187.trans (congrArg some (by kernel_rfl))
 t0:=Tryz.underlying0
 a0:=Tryz.isAgg0
 z0:=Tryz.sizeOf0
 v0:=Tryz.zeroValue0
 t3:=Tryz.underlying3
 a3:=Tryz.isAgg3
 z3:=Tryz.sizeOf3
 v3:=Tryz.zeroValue3
 t4:=Tryz.underlying4
 a4:=Tryz.isAgg4
 z4:=Tryz.sizeOf4
 v4:=Tryz.zeroValue4
 t9:=Tryz.underlying9
 a9:=Tryz.isAgg9
 z9:=Tryz.sizeOf9
 v9:=Tryz.zeroValue9
 t20:=Tryz.underlying20
 a20:=Tryz.isAgg20
 z20:=Tryz.sizeOf20
 v20:=Tryz.zeroValue20
 t31:=Tryz.underlying38
 a31:=Tryz.isAgg38
 z31:=Tryz.sizeOf38
 v31:=Tryz.zeroValue38
 t37:=Tryz.underlying79
 a37:=Tryz.isAgg79
 z37:=Tryz.sizeOf79
 v37:=Tryz.zeroValue79
 t70:=Tryz.underlying78
 a70:=Tryz.isAgg78
 z70:=Tryz.sizeOf78
 v70:=Tryz.zeroValue78
 t72:=Tryz.underlying81
 a72:=Tryz.isAgg81
 z72:=Tryz.sizeOf81
 v72:=Tryz.zeroValue81
 t75:=Tryz.underlying85
 a75:=Tryz.isAgg85
 z75:=Tryz.sizeOf85
 v75:=Tryz.zeroValue85
 t76:=Tryz.underlying86
 a76:=Tryz.isAgg86
 z76:=Tryz.sizeOf86
 v76:=Tryz.zeroValue86
 t127:=Tryz.underlying130
 a127:=Tryz.isAgg130
 z127:=Tryz.sizeOf130
 v127:=Tryz.zeroValue130
 t164:=Tryz.underlying137
 a164:=Tryz.isAgg137
 z164:=Tryz.sizeOf137
 v164:=Tryz.zeroValue137 }
theorem Tryz.Builder_Extra_156:Builder.Extra Tryz.prog Tryz.lays156_ren:={
 sizeBuilder:=by kernel_rfl
 liesBuilder:=by kernel_rfl
 t5:=Tryz.underlying5
 a5:=Tryz.isAgg5
 z5:=Tryz.sizeOf5
 v5:=Tryz.zeroValue5
 infoByte:=by kernel_rfl
 cellsByte:=by kernel_rfl
 sizeByte:=by kernel_rfl
 neB5:=by decide }
end Go.Proofs
namespace Go.Proofs.YtlhakdildbplkaaGreatDoor
set_option linter.unusedSimpArgs false
set_option linter.unusedVariables false
open Go.RowKit
def BF (B b:Nat) (l:List UInt8) (w:World):Prop:=Lib.IsBuilderF 81 5 B b (Lib.byteCells l) w
theorem rowF_below {W w1:World} {B:Nat} {e:TypeId} {size:Nat} {v:Value} {n:Nat} {xs:List Value} (h:W.ownsRowF B e size v n xs) (hb:Below W.heap.size W w1):w1.ownsRowF B e size v n xs:=by
 refine⟨h.1,?_⟩
 rcases h.2 with h2 | ⟨g,cap,cur,fz,hv,hg,hh,r⟩
 ·exact Or.inl h2
 ·exact Or.inr ⟨g,cap,cur,fz,hv,hg,some_below hb hh,r⟩
theorem BF.below {W w1:World} {B b:Nat} {l:List UInt8} (h:BF B b l W) (hb:Below W.heap.size W w1):BF B b l w1:=by
 rcases h with⟨h1,v,h2,h3,h4⟩ | ⟨h1,v,h2,h3,h4⟩
 ·exact Or.inl ⟨h1,v,some_below hb h2,rowF_below h3 hb,h4⟩
 ·exact Or.inr ⟨h1,v,some_below hb h2,rowF_below h3 hb,h4⟩
theorem BF.lt {W:World} {B b:Nat} {l:List UInt8} (h:BF B b l W):b < W.heap.size:=by
 rcases h with h | h
 ·exact h.lt
 ·exact h.lt
theorem BF.ge {W:World} {B b:Nat} {l:List UInt8} (h:BF B b l W):B≤b:=by
 rcases h with h | h
 ·exact h.1
 ·exact h.1
theorem BF.alloc {W:World} {B b:Nat} {l:List UInt8} (h:BF B b l W) (o:Obj):BF B b l (W.alloc o):=h.below ((Below.refl _ _).alloc (Nat.le_refl _) _)
theorem BF.drew {W:World} {B b:Nat} {l:List UInt8} (h:BF B b l W):BF B b l W.drew:=h
theorem BF.fresh (w:World):BF w.heap.size w.heap.size [] (w.alloc (.cells #[.pointer none,.slice none 0 0] 81)):=Lib.IsBuilderF.of (Lib.fresh_isBuilder 81 5 w)
abbrev OK8 (b:Nat) (w w':World):Prop:=Lib.OthersKept 5 (some b) w w'
def BWP (B b:Nat) (l:List UInt8) (w w':World):Prop:=BF B b l w'∧Below B w w'∧OK8 b w w'
theorem bstring (B b:Nat) (l:List UInt8) (w:World) (h:BF B b l w) (hBw:B≤w.heap.size) :
  Calls Tryz.prog 87 #[.pointer (some ⟨b,0,none⟩)] w fun e w'=>e=.returned (.string ⟨l.toArray⟩)∧BWP B b l w w':=
 (Any.Builder_String_any_k Tryz.lays169 Tryz.Builder_Extra_169 B b l w h hBw).mono fun e w' ⟨he,h1,h2,h3⟩=>⟨he,h1,h2,h3⟩
theorem blen (B b:Nat) (l:List UInt8) (w:World) (h:BF B b l w):Calls Tryz.prog 86 #[.pointer (some ⟨b,0,none⟩)] w fun e w'=>e=.returned (.int .i64 (l.length:Int))∧w=w':=
 (Any.Builder_Len_f Tryz.lays170 B b (Lib.byteCells l) w h).mono fun e w' ⟨he,hw⟩=>⟨by rw [he,Lib.byteCells_length],hw.symm⟩
theorem OK8.below {b:Nat} {w w1:World} (hb:Below w.heap.size w w1):OK8 b w w1:=fun n o h _ _=>some_below hb h
inductive Way (t:Tr):List ByteArray→Tr→(Fo→Tr)→Prop
 | here:Way t [] t fun f=>⟨t.h,t.ss,f⟩
 | kid {p:List ByteArray} {x k:Tr} {U:Fo→Tr} {n:ByteArray} {i:Nat} (h:Way t p x U) (h1:kidI x.ks n=some i) (h2:x.ks.list[i]? = some k):Way t (p++[n]) k fun f=>U (x.ks.setAt i ⟨k.h,k.ss,f⟩)
theorem Way.find {t x:Tr} {p:List ByteArray} {U:Fo→Tr} (h:Way t p x U):findT t p=some x:=by
 induction h with
 | here=>rfl
 | kid h h1 h2 ih=>
  obtain⟨k',e1,e2,-⟩:=kid_some h1
  rw [h2] at e1
  injection e1 with e1
  subst e1
  rw [findT_snoc,ih]
  exact e2
theorem own_blk {w:World} {B:Nat} {T:TypeId} {v:Value} {n k:Nat} {xs:List Value} (h:w.ownsRow B T k v n xs) (h0:0 < n):∃(g cap:Nat) (cur:Array Value),v=.slice (some ⟨g,0,none⟩) n cap∧B≤g∧Blk w g cur T∧n≤cap∧cap≤maxLen∧cur.size=cap*k∧∀(j:Nat) (u:Value),xs[j]? = some u→cur[j]? = some u:=by
 rcases h.2 with⟨_,rfl⟩ | ⟨g,cap,cur,rfl,hg,hh,hnc,hcm,hcs,htake⟩
 ·omega
 ·refine⟨g,cap,cur,rfl,hg,hh,hnc,hcm,hcs,fun j u hj=>?_⟩
  rw [←htake] at hj
  rw [List.getElem?_take] at hj
  split at hj
  ·rw [←Array.getElem?_toList];exact hj
  ·cases hj
theorem set_self {cs:Array Value} {i:Nat} {v:Value} (h:cs[i]? = some v):cs.setIfInBounds i v=cs:=by
 apply Array.ext_getElem?
 intro j
 rw [Array.getElem?_setIfInBounds]
 split
 ·rename_i e
  subst e
  split
  ·exact h.symm
  ·rename_i h2
   rw [Array.getElem?_eq_none (by omega)]
 ·rfl
theorem cells_set (h:Hd) (kv kv' sv:Value):(h.cells kv sv).setIfInBounds 10 kv'=h.cells kv' sv:=rfl
theorem cells_other {h:Hd} {kv kv' sv:Value} {j:Nat} (hj:j≠10):(h.cells kv' sv).toList[j]? = (h.cells kv sv).toList[j]? := by
 rw [←cells_set h kv kv' sv,Array.getElem?_toList,Array.getElem?_toList,Array.getElem?_setIfInBounds,if_neg (by omega)]
def Hole (w:World) (lo b0:Nat) (O:Nat→Prop) (x:Tr) (U:Fo→Tr) (b o:Nat):Prop:=∃(kvx svx:Value) (Ox:Nat→Prop) (cur:Array Value),lo≤b∧(O b∨b=b0)∧Blk w b cur 25∧(∀j u,(x.h.cells kvx svx).toList[j]? = some u→cur[o+j]? = some u)∧KidS w lo kvx x.ks Ox∧(∀j,Ox j→O j∧lo≤j∧j≠b∧j≠b0) ∧
 ∀(w':World) (B':Nat) (kv':Value) (f':Fo),StrK w w'→(∀j,j < w.heap.size→(O j∨j=b0)→¬Ox j→j≠b→w'.heap[j]? = w.heap[j]?)→Blk w' b (cur.setIfInBounds (o+10) kv') 25→w'.heap.size≤B'→KidR w' B' kv' f' →
  ∃kvR svR,Blk w' b0 ((U f').h.cells kvR svR) 25∧StR w' B' svR (U f').ss∧KidR w' B' kvR (U f').ks
theorem Hole.root {w:World} {lo b0:Nat} {O:Nat→Prop} {t:Tr} {kv sv:Value} (hlo:lo≤b0) (hb:Blk w b0 (t.h.cells kv sv) 25) (hs:w.ownsRow lo 69 2 sv t.ss.length (stV t.ss)) (hk:KidS w lo kv t.ks O) (hO:∀j,O j→lo≤j∧j≠b0):Hole w lo b0 O t (fun f=>⟨t.h,t.ss,f⟩) b0 0:=
 ⟨kv,sv,O,_,hlo,Or.inr rfl,hb,fun j u h=>by rw [Nat.zero_add,←Array.getElem?_toList];exact h,hk,fun j h=>⟨h,(hO j h).1,(hO j h).2,(hO j h).2⟩,fun w' B' kv' f' hS hF hB hB' hk'=>
  ⟨kv',sv,hB,StR.of_own hB' (own_keep hs fun g cs _ hg=>hS g cs _ hg),hk'⟩⟩
theorem Hole.kid {w:World} {lo b0:Nat} {O:Nat→Prop} {x k:Tr} {U:Fo→Tr} {b o i:Nat} (H:Hole w lo b0 O x U b o) (hi:x.ks.list[i]? = some k):∃g c,w.cell? ⟨b,o+10,none⟩=some (.slice (some ⟨g,0,none⟩) x.ks.len c)∧Hole w lo b0 O k (fun f=>U (x.ks.setAt i ⟨k.h,k.ss,f⟩)) g (i*12):=by
 obtain⟨kvx,svx,Ox,cur,hb,hOb,hB,hc,⟨xk,Ok,hown,hrow,h1,h2⟩,hO,hw⟩:=H
 have hil:i < x.ks.len:=by rw [←Fo.list_len];exact(List.getElem?_eq_some_iff.1 hi).1
 obtain⟨g,cap,curg,rfl,hlg,hBg,hnc,hcm,hcs,hxs⟩:=own_blk hown (by omega)
 obtain⟨kv2,sv2,O1,xa,xb,rfl,hxa,hs2,hk2,ho1,hrest⟩:=RowS.at hrow hi
 have hg:=h2 g rfl
 have c10:cur[o+10]? = some (.slice (some ⟨g,0,none⟩) x.ks.len cap):=hc 10 _ rfl
 refine⟨g,cap,(hB.cells (o+10)).trans c10,kv2,sv2,O1,curg,hlg,Or.inl (hO g hg).1,hBg,fun j u hj=>hxs _ _ ?_,hk2,fun j hj=>?_,fun w' B' kv' f' hS hF hB' hBs hk'=>?_⟩
 ·have hjl:j < (k.h.cells kv2 sv2).toList.length:=(List.getElem?_eq_some_iff.1 hj).1
  rw [List.append_assoc,List.getElem?_append_right (by omega),hxa,show i*12+j - i*12=j by omega,List.getElem?_append_left hjl]
  exact hj
 ·obtain⟨a1,a2⟩:=h1 j (ho1 j hj)
  obtain⟨b1,b2,b3,b4⟩:=hO j a1
  exact⟨b1,b2,fun e=>a2 (by rw [e];rfl),b4⟩
 ·have hbg:b≠g:=fun e=>(hO g hg).2.2.1 e.symm
  refine hw w' B' (.slice (some ⟨g,0,none⟩) x.ks.len cap) _ hS (fun j hj h3 h4 h5=>hF j hj h3 (fun e=>h4 (h1 j (ho1 j e)).1) fun e=>h4 (by rw [e];exact hg)) ?_ hBs ?_
  ·rw [set_self c10]
   exact(hF b hB.lt hOb (fun e=>(hO b (h1 b (ho1 b e)).1).2.2.1 rfl) hbg).trans hB
  ·have hrow2:=hrest w' B' ⟨k.h,k.ss,f'⟩ kv' sv2 hS (fun j hj h3 h4=>hF j hj (Or.inl (hO j (h1 j h3).1).1) h4 fun e=>(h1 j h3).2 (by rw [e];rfl)) hBs (StR.of_own hBs (own_keep hs2 fun g cs _ hg=>hS g cs _ hg)) hk'
   refine⟨_,cap,by rw [Fo.setAt_len],fun _=>⟨g,0,rfl,Nat.lt_of_lt_of_le hB'.lt hBs,RowR.for hrow2 fun j u hj=>?_⟩⟩
   rw [Nat.zero_add,hB'.cells j]
   by_cases hj10:j=i*12+10
   ·subst hj10
    have hu:u=kv':=by
     rw [List.append_assoc,List.getElem?_append_right (by omega),hxa,show i*12+10 - i*12=10 by omega] at hj
     rw [List.getElem?_append_left (show 10 < ((⟨k.h,k.ss,f'⟩:Tr).h.cells kv' sv2).toList.length from by show 10 < 12;omega)] at hj
     injection hj with hj
     exact hj.symm
    subst hu
    rw [Array.getElem?_setIfInBounds,if_pos rfl,if_pos]
    have:i*12+10 < (xa++(k.h.cells kv2 sv2).toList++xb).length:=by
     rw [List.length_append,List.length_append,hxa]
     show _ < i*12+12+_
     omega
    have:=(Array.getElem?_eq_some_iff.1 (hxs _ _ (List.getElem?_eq_getElem this))).1
    exact this
   ·rw [Array.getElem?_setIfInBounds,if_neg (fun e=>hj10 e.symm)]
    refine hxs j u ?_
    rw [List.append_assoc] at hj ⊢
    by_cases hja:j < xa.length
    ·rw [List.getElem?_append_left hja] at hj ⊢
     exact hj
    ·rw [List.getElem?_append_right (by omega)] at hj ⊢
     by_cases hjb:j - xa.length < 12
     ·rw [List.getElem?_append_left (show j - xa.length < (k.h.cells kv2 sv2).toList.length from hjb)]
      rw [List.getElem?_append_left (show j - xa.length < ((⟨k.h,k.ss,f'⟩:Tr).h.cells kv' sv2).toList.length from hjb)] at hj
      rw [cells_other (kv:=kv') (by omega)]
      exact hj
     ·rw [List.getElem?_append_right (show(k.h.cells kv2 sv2).toList.length≤j - xa.length from by show 12≤_;omega)]
      rw [List.getElem?_append_right (show((⟨k.h,k.ss,f'⟩:Tr).h.cells kv' sv2).toList.length≤j - xa.length from by show 12≤_;omega)] at hj
      exact hj
theorem list_sz:∀ {f:Fo} {i:Nat} {k:Tr},f.list[i]? = some k→k.sz≤f.sz
 | .nil,_,_,h=>by simp [Fo.list] at h
 | .node h ss ks nx,0,k,e=>by
  have e2:(⟨h,ss,ks⟩:Tr)=k:=by simpa [Fo.list] using e
  subst e2
  show h.sz+szS ss+ks.sz≤h.sz+szS ss+ks.sz+nx.sz
  omega
 | .node h ss ks nx,i+1,k,e=>by
  have:=list_sz (f:=nx) (i:=i) (k:=k) (by simpa [Fo.list] using e)
  show k.sz≤h.sz+szS ss+ks.sz+nx.sz
  omega
def AtH (w:World) (lo b0:Nat) (O:Nat→Prop) (t:Tr) (Z:Nat) (done:List ByteArray) (x:Tr) (b o:Nat):Prop:=∃U,Way t done x U∧Hole w lo b0 O x U b o∧x.sz≤Z
theorem AtH.down (w:World) (lo b0:Nat) (O:Nat→Prop) (t:Tr) (Z:Nat) (hZ:Z≤2000000000):Down w (AtH w lo b0 O t Z):=by
 intro done x b o ⟨U,hU,H,hx⟩
 have H':=H
 obtain⟨kvx,svx,Ox,cur,hb,hOb,hB,hc,hk,hO,hw⟩:=H
 obtain⟨A,c,rfl,hkr⟩:=hk.read (Nat.le_refl _)
 refine⟨hB.lt,by have:=x.ks.len_sz;unfold Tr.sz at hx;omega,A,c,(hB.cells (o+10)).trans (hc 10 _ rfl),Left.of hkr,fun n i k g o' hki hk1 hA=>?_⟩
 obtain⟨g',c',e1,H2⟩:=H'.kid hk1
 rw [(hB.cells (o+10)).trans (hc 10 _ rfl),hA] at e1
 injection e1 with e1
 injection e1 with e1
 injection e1 with e1
 injection e1 with e1 e2
 subst e1;subst e2
 rw [Nat.zero_add]
 exact⟨_,.kid hU hki hk1,H2,by have:=list_sz hk1;unfold Tr.sz at hx;omega⟩
set_option linter.unusedSimpArgs false
set_option linter.unusedVariables false
def plainB (c:UInt8):Bool:=decide (65≤c.toNat∧c.toNat≤90∨97≤c.toNat∧c.toNat≤122∨48≤c.toNat∧c.toNat≤57∨c.toNat=46∨c.toNat=95∨c.toNat=45)
def hexL:List UInt8:=[48,49,50,51,52,53,54,55,56,57,65,66,67,68,69,70]
def hexd (n:Nat):UInt8:=hexL.getD n 0
def wb (c:UInt8):List UInt8:=if plainB c then [c] else [37,hexd (c.toNat / 16),hexd (c.toNat % 16)]
def wordL (l:List UInt8):List UInt8:=l.flatMap wb
def wordS (s:ByteArray):ByteArray:=if s.size=0 then ⟨#[61]⟩ else ⟨(wordL s.data.toList).toArray⟩
theorem plain_pct:plainB 37=false:=by decide
theorem wb_len (c:UInt8):1≤(wb c).length∧(wb c).length≤3:=by
 unfold wb
 split
 ·exact⟨by simp,by simp⟩
 ·exact⟨by simp,by simp⟩
theorem wordL_len:∀l:List UInt8,l.length≤(wordL l).length∧(wordL l).length≤3*l.length
 | []=>⟨Nat.le_refl _,Nat.le_refl _⟩
 | c :: l=>by
  have h1:=wb_len c
  have h2:=wordL_len l
  simp only [wordL,List.flatMap_cons,List.length_append,List.length_cons] at *
  omega
def digV (c:UInt8):Nat:=hexL.findIdx (· == c)
theorem digV_hexd:∀n < 16,digV (hexd n)=n:=by decide
theorem digV_le (c:UInt8):digV c≤16:=by
 unfold digV
 have:hexL.length=16:=rfl
 have:=List.findIdx_le_length (p:=(· == c)) (xs:=hexL)
 omega
def unwP:List UInt8→Option (List UInt8)
 | []=>some []
 | 37 :: a :: b :: l=>if digV a < 16∧digV b < 16 then (unwP l).map (UInt8.ofNat (digV a*16+digV b) :: ·) else none
 | c :: l=>if plainB c then (unwP l).map (c :: ·) else none
def unwR:List UInt8→Option (List UInt8)
 | []=>some []
 | 37 :: a :: b :: l=>if digV a < 16∧digV b < 16 then (unwR l).map (UInt8.ofNat (16*digV a+digV b) :: ·) else none
 | c :: l=>if c=37 then none else (unwR l).map (c :: ·)
theorem byte_16 (c:UInt8):UInt8.ofNat (c.toNat / 16*16+c.toNat % 16)=c:=by
 rw [show c.toNat / 16*16+c.toNat % 16=c.toNat by omega]
 exact UInt8.ofNat_toNat
theorem unwP_word:∀l:List UInt8,unwP (wordL l)=some l
 | []=>rfl
 | c :: l=>by
  have ih:=unwP_word l
  have hc:=c.toNat_lt
  show unwP (wb c++wordL l)=some (c :: l)
  unfold wb
  cases hp:plainB c
  ·show unwP (37 :: hexd (c.toNat / 16) :: hexd (c.toNat % 16) :: wordL l)=_
   rw [unwP,digV_hexd _ (by omega),digV_hexd _ (by omega),if_pos ⟨by omega,by omega⟩,ih,byte_16]
   rfl
  ·show unwP (c :: wordL l)=_
   have h37:c≠37:=fun e=>by rw [e,plain_pct] at hp;cases hp
   rw [unwP,if_pos hp,ih]
   ·rfl
   ·intro a b l' e1 e2
    exact h37 e1
theorem unwR_word:∀l:List UInt8,unwR (wordL l)=some l
 | []=>rfl
 | c :: l=>by
  have ih:=unwR_word l
  have hc:=c.toNat_lt
  show unwR (wb c++wordL l)=some (c :: l)
  unfold wb
  cases hp:plainB c
  ·show unwR (37 :: hexd (c.toNat / 16) :: hexd (c.toNat % 16) :: wordL l)=_
   rw [unwR,digV_hexd _ (by omega),digV_hexd _ (by omega),if_pos ⟨by omega,by omega⟩,ih,Nat.mul_comm 16,byte_16]
   rfl
  ·show unwR (c :: wordL l)=_
   have h37:c≠37:=fun e=>by rw [e,plain_pct] at hp;cases hp
   rw [unwR,if_neg h37,ih]
   ·rfl
   ·intro a b l' e1 e2
    exact h37 e1
theorem wordL_eq_empty {l:List UInt8} (h:wordL l=[]):l=[]:=by
 have:=(wordL_len l).1
 rw [h] at this
 exact List.eq_nil_of_length_eq_zero (by simpa using this)
def unword (w:ByteArray):Option ByteArray:=if w=⟨#[61]⟩ then some ⟨#[]⟩ else match unwP w.data.toList with
 | some l=>if wordS ⟨l.toArray⟩=w then some ⟨l.toArray⟩ else none
 | none=>none
theorem unword_spec {w s:ByteArray}:unword w=some s↔wordS s=w:=by
 unfold unword
 constructor
 ·intro h
  split at h
  ·rename_i h1
   injection h with h
   subst h;subst h1;rfl
  ·split at h
   ·split at h
    ·rename_i h2
     injection h with h
     subst h;exact h2
    ·cases h
   ·cases h
 ·intro h
  by_cases h0:s.size=0
  ·have e:s=⟨#[]⟩:=by
    apply ByteArray.ext
    exact Array.eq_empty_of_size_eq_zero h0
   subst e
   rw [←h,if_pos (show wordS ⟨#[]⟩=⟨#[61]⟩ from rfl)]
  ·have hw:w=⟨(wordL s.data.toList).toArray⟩:=by rw [←h];unfold wordS;rw [if_neg h0]
   have hne:w≠⟨#[61]⟩:=by
    intro e
    rw [e] at hw
    have e2:wordL s.data.toList=[61]:=by
     have:=congrArg (fun x:ByteArray=>x.data.toList) hw
     simpa using this.symm
    have:=unwP_word s.data.toList
    rw [e2] at this
    have h61:unwP [61]=none:=by decide
    rw [h61] at this
    cases this
   rw [if_neg hne]
   have e3:unwP w.data.toList=some s.data.toList:=by
    rw [hw]
    exact unwP_word _
   rw [e3]
   dsimp only
   have e4:(⟨s.data.toList.toArray⟩:ByteArray)=s:=by
    apply ByteArray.ext
    simp
   rw [e4,if_pos h]
def bltB (a b:ByteArray):Bool:=Op.bytesLess a.toList b.toList
end Go.Proofs.YtlhakdildbplkaaGreatDoor
