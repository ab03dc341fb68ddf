/- Contracts and plain words for the laws of this chapter,part 0: L,Lib,P. No condition. -/
import Derived.WalkKit
import Derived.WalkSpells
import Derived.WalkLawsBesides
import Derived.Deep.QuietTactic
import Derived.BigQuiet
import Derived.Handy
import Derived.Deep.RegionHeld3
import Derived.Deep.RegionWith
import Derived.Shelf.Strings.Builder1
import Derived.Shelf.Strings.Builder2
import Derived.Shelf.Small.Strs
import Derived.Shelf.Strings.BuilderF
import Derived.Shelf.Strings.BuilderK
import Derived.Shelf.Utf8.RuneCount
import Derived.Shelf.Strings.Builder2Cap
import Derived.Shelf.Strconv.Atoi
import Derived.Shelf.Strconv.Itoa0
import Derived.Shelf.Strconv.Itoa1
import Derived.Shelf.LaysM
import Derived.Shelf.Strconv.Itoa2
import Derived.Shelf.Strconv.Itoa3
import Derived.Shelf.Strconv.AtoiErrFast
import Derived.Shelf.Strconv.ParseIntEmpty
import Derived.Shelf.Strconv.AtoiFail
import Derived.Shelf.Strconv.Clone
import Derived.Shelf.Strconv.SyntaxError
import Derived.Shelf.LaysC
import Derived.Shelf.Strconv.ToError
import Derived.Shelf.Strconv.Lower
import Derived.Shelf.Strconv.ParseUint10
import Derived.Shelf.Strconv.ParseUint10Empty
import Derived.Shelf.Strconv.ParseUint10Any
import Derived.Shelf.Strconv.ParseInt10
import Derived.Shelf.Strconv.AtoiLong
import Derived.Shelf.Strconv.AtoiInnerAll
import Derived.Shelf.Strconv.RangeError
import Derived.Shelf.Strconv.ToErrorRange
import Derived.Shelf.Strconv.AtoiAll
import Derived.Shelf.Strconv.ErrVarAll
import Derived.Shelf.Strconv.ParseUintEmpty
import Derived.Shelf.Strings.Search1
import Derived.Shelf.Strings.Search2
import Derived.Shelf.Strings.Search3
import Derived.Shelf.Strings.Count
import Derived.Shelf.Strings.Shaped
import Derived.Shelf.Strings.Prefix
import Derived.Shelf.Strings.Split
import Derived.Shelf.Strings.SplitShaped
import Derived.Shelf.Unicode.Decode
import Derived.Shelf.Strings.RuneCount
import Derived.Shelf.Strings.Explode
import Derived.Shelf.Unicode.DecodeSlow
import Derived.Shelf.Unicode.DecodeAny
import Derived.Shelf.Strings.BuilderCap
import Derived.Shelf.Slices.Equal
import Derived.Shelf.Slices.Empties2
import Derived.Test.YtlhakdildbplkaaGreatDoorProg
import Derived.Lib.DecodeN
import Derived.Lib.TrimU
import Derived.PlainAid
namespace Go.Proofs.YtlhakdildbplkaaGreatDoor
set_option linter.unusedSimpArgs false
set_option linter.unusedVariables false
open Go.RowKit
theorem hide {p:Prop} (h:p):Hid p:=h
theorem ret_i {k:IntKind} {a b:Int} (h:a=b):Ending.returned (.int k a)=.returned (.int k b):=by rw [h]
def Live (w:World):List Nat→Prop
 | []=>True
 | n :: l=>n < w.heap.size∧Live w l
def Kept (W w1:World):List Nat→Prop
 | []=>True
 | n :: l=>((∀o,w1.cell? ⟨n,o,none⟩=W.cell? ⟨n,o,none⟩)∧(∀o,w1.frozen? ⟨n,o,none⟩=W.frozen? ⟨n,o,none⟩))∧Kept W w1 l
def addN (s:Nat):Nat→List Nat→List Nat
 | 0,l=>l
 | k+1,l=>addN (s+1) k (s :: l)
theorem Live.lift {a b:World} (h:a.heap.size≤b.heap.size):∀ {l:List Nat},Live a l→Live b l
 | [],_=>trivial
 | _ :: _,⟨h1,h2⟩=>⟨Nat.lt_of_lt_of_le h1 h,Live.lift h h2⟩
theorem Live.more {w:World}:∀(k:Nat) {s:Nat} {l:List Nat},s+k≤w.heap.size→Live w l→Live w (addN s k l)
 | 0,_,_,_,h=>h
 | k+1,s,_,hs,h=>Live.more k (s:=s+1) (by omega) ⟨by omega,h⟩
theorem Kept.of {W w1:World} (hb:Below W.heap.size W w1):∀ {l:List Nat},Live W l→Kept W w1 l
 | [],_=>trivial
 | n :: _,⟨h1,h2⟩=>⟨⟨fun o=>hb.cell (p:=⟨n,o,none⟩) h1,fun o=>hb.frozen (p:=⟨n,o,none⟩) h1⟩,Kept.of hb h2⟩
theorem Live.call {w0 W w1:World} {k:Nat} {l:List Nat} (h:Live w0 l) (hb:Below W.heap.size W w1) (hz:w0.heap.size+k≤w1.heap.size) (hs:W.heap.size=w0.heap.size+k) :
  Live w1 (addN w0.heap.size k l)∧Kept W w1 (addN w0.heap.size k l):=
 have h0:Live W (addN w0.heap.size k l):=Live.more k (by omega) (Live.lift (by omega) h)
 ⟨Live.more k hz (Live.lift (by omega) h),Kept.of hb h0⟩
theorem Live.call0 {w0 W w1:World} {l:List Nat} (h:Live w0 l) (hb:Below W.heap.size W w1) (hz:w0.heap.size≤w1.heap.size) (hs:W.heap.size=w0.heap.size) :
  Live w1 l∧Kept W w1 l:=
 ⟨Live.lift hz h,Kept.of hb (Live.lift (by omega) h)⟩
theorem run_conv_bytes {P:Program} (w:World) (src dst e:TypeId) (hs:P.underlying src=some (.slice e)) (he:P.underlying e=some (.int .u8)) (hd:P.underlying dst=some .string)
  (a:Addr) (cap:Nat) (ns:List Int) (h:∀j v,(ns.map (Value.int .u8))[j]? = some v→w.cell? (a.add j)=some v) :
  (convert src dst (.slice (some a) ns.length cap)).run P w=.ok (.string ⟨(ns.map fun n=>UInt8.ofNat n.toNat).toArray⟩) w:=by
 have h1:=run_loadCells_list (P:=P) (w:=w) a (ns.map (Value.int .u8)) h
 rw [List.length_map] at h1
 rw [run_convert_bytes_string w src dst e _ _ _ hs he hd,run_bytesToString w a ns.length cap ns h1]
 congr 2
 have:∀(l:List Int) (s:ByteArray),l.foldl (fun r n=>r.push (UInt8.ofNat n.toNat)) s=⟨s.data++(l.map fun n=>UInt8.ofNat n.toNat).toArray⟩:=by
  intro l
  induction l with
  | nil=>intro s;simp
  | cons x l ih=>intro s;rw [List.foldl_cons,ih];simp [ByteArray.push]
 rw [this];simp
theorem conv_lit {P:Program} (src dst e:TypeId) (hs:P.underlying src=some (.slice e)) (he:P.underlying e=some (.int .u8)) (hd:P.underlying dst=some .string)
  (W:World) (t:TypeId) (ns:List Int) (C:Array Value) (hC:C=(ns.map (Value.int .u8)).toArray) (n cap:Nat) (hn:n=ns.length) :
  (convert src dst (.slice (some ⟨W.heap.size,0,none⟩) n cap)).run P (W.alloc (.cells C t))=.ok (.string ⟨(ns.map fun n=>UInt8.ofNat n.toNat).toArray⟩) (W.alloc (.cells C t)):=by
 subst hC hn
 refine run_conv_bytes _ src dst e hs he hd _ cap ns ?_
 intro j v hj
 have:(Addr.add ⟨W.heap.size,0,none⟩ j)=⟨W.heap.size,j,none⟩:=by simp [Addr.add];intro h;exact h.symm
 rw [this,World.cell?_alloc_new]
 simpa using hj
theorem below_drewN' {B n:Nat} {a w:World} (h:Below B a w):Below B a (w.drewN n):=⟨h.os,h.tape,h.output,h.size,h.block⟩
def Blk (w:World) (n:Nat) (cs:Array Value) (T:TypeId):Prop:=w.heap[n]? = some (.cells cs T (0,0))
theorem Blk.cells {w:World} {n:Nat} {cs:Array Value} {T:TypeId} (h:Blk w n cs T):∀o,w.cell? ⟨n,o,none⟩=cs[o]? := fun o=>by
 unfold Blk at h;simp [World.cell?,h]
theorem Blk.free {w:World} {n:Nat} {cs:Array Value} {T:TypeId} (h:Blk w n cs T):∀o,w.frozen? ⟨n,o,none⟩=false:=fun o=>by
 unfold Blk at h;simp [World.frozen?,h]
theorem Blk.lt {w:World} {n:Nat} {cs:Array Value} {T:TypeId} (h:Blk w n cs T):n < w.heap.size:=by
 unfold Blk at h
 rcases Nat.lt_or_ge n w.heap.size with h' | h'
 ·exact h'
 ·rw [Array.getElem?_eq_none h'] at h;cases h
theorem Blk.new (w:World) (cs:Array Value) (T:TypeId):Blk (w.alloc (.cells cs T)) w.heap.size cs T:=heap_alloc_new w _
theorem Blk.newAt {w:World} {n:Nat} {cs:Array Value} {T:TypeId} (h:w.heap.size=n):Blk (w.alloc (.cells cs T)) n cs T:=by subst h;exact heap_alloc_new w _
theorem Blk.alloc {w:World} {n:Nat} {cs:Array Value} {T:TypeId} (h:Blk w n cs T) (o:Obj):Blk (w.alloc o) n cs T:=by
 have:=h.lt
 show(w.heap.push o)[n]? = _
 rw [Array.getElem?_push,if_neg (by omega)];exact h
theorem Blk.drew {w:World} {n:Nat} {cs:Array Value} {T:TypeId} (h:Blk w n cs T):Blk w.drew n cs T:=h
theorem Blk.other {w:World} {n m j:Nat} {v:Value} {cs:Array Value} {T:TypeId} (hne:n≠m) (h:Blk w n cs T):Blk (w.setCell ⟨m,j,none⟩ v) n cs T:=by
 show(w.setCell ⟨m,j,none⟩ v).heap[n]? = _
 rw [Below.heap_setCell _ _ _ _ hne];exact h
theorem Blk.put {w:World} {n j:Nat} {v:Value} {cs cs':Array Value} {T:TypeId} (e:cs.setIfInBounds j v=cs') (h:Blk w n cs T):Blk (w.setCell ⟨n,j,none⟩ v) n cs' T:=by
 subst e
 unfold Blk at h ⊢
 have hn:=Blk.lt h
 simp [World.setCell,Array.getElem?_modify,h]
theorem Blk.below {W w1:World} {n:Nat} {cs:Array Value} {T:TypeId} (hb:Below W.heap.size W w1) (h:Blk W n cs T):Blk w1 n cs T:=by
 show w1.heap[n]? = _
 rw [hb.block n h.lt];exact h
/-! What the walks use again and again,under short names. -/
theorem SZ:(∀(w:World) (o:Obj),(w.alloc o).heap.size=w.heap.size+1)∧(∀(w:World) (a:Addr) (v:Value),(w.setCell a v).heap.size=w.heap.size)∧(∀w:World,w.drew.heap.size=w.heap.size)∧(∀n m k:Nat,n+m+k=n+(m+k)):=
 ⟨World.size_alloc,World.size_setCell,World.size_drew,Nat.add_assoc⟩
theorem PT:(∀(a:Act) (v:Value),a.put none v=a)∧(∀(a:Act) (d:Tmp) (v:Value),a.put (some d) v=⟨a.tmps.setIfInBounds d v,a.defers⟩)∧(∀(l:List Value) (i:Nat) (v:Value),l.toArray.setIfInBounds i v=(l.set i v).toArray) ∧
  (∀(x:Value) (l:List Value) (v:Value),(x :: l).set 0 v=v :: l)∧(∀(x:Value) (l:List Value) (i:Nat) (v:Value),(x :: l).set (i+1) v=x :: l.set i v):=
 ⟨fun _ _=>rfl,fun _ _ _=>rfl,fun l i v=>List.setIfInBounds_toArray l i v,fun _ _ _=>rfl,fun _ _ _ _=>rfl⟩
theorem kp {p:Prop} (h:p:=by((try dsimp only);first | with_reducible assumption | (simp [*,go_sem];done) | (refine⟨?_,?_⟩ <;> simp [*,go_sem]))):p:=h
theorem bl {p:Prop} (h:p:=by(repeat' (first | (with_reducible exact Below.refl _ _) | (with_reducible refine Below.alloc ?_ ?_ _) | (with_reducible refine Below.setCell ?_ ?_ _) | (with_reducible refine Below.drew ?_) | (with_reducible refine below_drewN' ?_) | (with_reducible refine below_bytesW ?_ ?_) | (with_reducible refine Below.trans ?_ (Below.mono (by assumption) ?_)) | omega | (simp only [World.size_alloc,World.size_setCell,World.size_drew];omega) | (simp [size_bytesW];omega) | (simp;omega)))):p:=h
theorem Live.callA {w0 W w1:World} {k:Nat} {l:List Nat} (h:Live w0 l) (hb:Below W.heap.size W w1) (hz:w0.heap.size+k≤w1.heap.size) (hs:W.heap.size=w0.heap.size+k:=by simp only [SZ,Nat.reduceAdd]) :
 Live w1 (addN w0.heap.size k l)∧Kept W w1 (addN w0.heap.size k l):=Live.call h hb hz hs
theorem Live.call0A {w0 W w1:World} {l:List Nat} (h:Live w0 l) (hb:Below W.heap.size W w1) (hz:w0.heap.size≤w1.heap.size) (hs:W.heap.size=w0.heap.size:=by first | rfl | simp only [SZ,Nat.reduceAdd]) :
 Live w1 l∧Kept W w1 l:=Live.call0 h hb hz hs
def phG:Nat→Nat→List Edge
 | _,0=>[]
 | i,n+1=>⟨i,.phase⟩ :: phG (i+1) n
def phs (l:List Edge) (n:Nat):Array Edge:=List.toArray (l++phG 0 n)
section
variable {P:Program} {md:Region.Mode} {ops:Array Oper} {Q:Exit→Act→World→Prop} {S:World→Prop} {fuel:Nat} {listed:Array Bool} {a:Act} {w:World}
theorem tkZ (i:Nat) (oi:Oper) {v:Value} {a':Act} {l':Array Bool} (h:wpAnyH P md ops Q S fuel l' a' w) (hy:∀w,S w→(execOp a.eval oi).run P w=.ok (.value v) w:=by intro w hSw;(try dsimp only at hSw);go_simp;(try with_reducible rfl))
  (ha:a.put oi.dst v=a':=by(try simp only [PT]);exact rfl) (hl:listed.setIfInBounds i true=l':=by(try simp only [PT]);exact rfl) (hi:ops[i]? = some oi:=by rfl)
  (hs:Region.noSelect ops=true:=by kernel_rfl) (hf:Region.free md ops listed i=true:=by kernel_rfl) (hr:(Region.ready md ops listed).contains i=true:=by kernel_rfl)
  (hQ:∀c a w,Q (.panic c) (a.put oi.dst v) w→Q (.panic c) a w:=by exact fun _ _ _ h=>h) (hw:Region.wanted oi (yielded ops a.tmps)=true:=by rfl) (hS:S w:=by assumption):wpAnyH P md ops Q S (fuel+1) listed a w:=by
 subst ha;subst hl
 exact wpAnyH_take hi hs hf hr hQ (Or.inl ⟨hw,hy⟩) hS h
theorem tkM (i:Nat) (oi:Oper) {a':Act} {l':Array Bool} (h:wpAnyH P md ops Q S fuel l' a' w) (ha:a.put oi.dst undef=a':=by(try simp only [PT]);exact rfl) (hl:listed.setIfInBounds i true=l':=by(try simp only [PT]);exact rfl) (hi:ops[i]? = some oi:=by rfl)
  (hs:Region.noSelect ops=true:=by kernel_rfl) (hf:Region.free md ops listed i=true:=by kernel_rfl) (hr:(Region.ready md ops listed).contains i=true:=by kernel_rfl)
  (hQ:∀c a w,Q (.panic c) (a.put oi.dst undef) w→Q (.panic c) a w:=by exact fun _ _ _ h=>h) (hw:Region.wanted oi (yielded ops a.tmps)=false:=by rfl) (hS:S w:=by assumption):wpAnyH P md ops Q S (fuel+1) listed a w:=by
 subst ha;subst hl
 exact wpAnyH_take hi hs hf hr hQ (Or.inr ⟨hw,rfl⟩) hS h
theorem rq0:AllReadyH P md ops Q S fuel listed a w []:=AllReadyH.nil
theorem rqC {i:Nat} (o:Oper) {rs:List Nat} (h:∀K':Act→World→Prop,Shut (∀a w,S w→(S w→wpAnyH P md ops Q S fuel (listed.setIfInBounds i true) a w)→K' a w)→if Region.wanted o (yielded ops a.tmps)=true then Oper.wp P o a w K' Q else K' (a.put o.dst undef) w)
 (hs:AllReadyH P md ops Q S fuel listed a w rs) (ho:ops[i]? = some o:=by rfl):AllReadyH P md ops Q S fuel listed a w (i :: rs):=AllReadyH.cons ho h hs
theorem rqS (rs:List Nat) (h:AllReadyH P md ops Q S fuel listed a w rs) (hr:Region.ready md ops listed=rs:=by kernel_rfl) (hne:rs≠[]:=by simp):wpAnyH P md ops Q S (fuel+1) listed a w:=wpAnyH_ready hr hne h
end
end Go.Proofs.YtlhakdildbplkaaGreatDoor
namespace Go.Proofs
open Go.Shelf
def Tryz.lays170_ren:Go.Shelf.Ren:=⟨fun | 170=>86 | n=>n,fun | 70=>78 | 3=>3 | 0=>0 | 72=>81 | 37=>79 | 5=>5 | n=>n,fun | n=>n⟩
theorem Tryz.lays170:Go.Proofs.Lays.n170 Tryz.prog Tryz.lays170_ren:={
 mixed:=by kernel_rfl
 f170:=Tryz.func86.trans (congrArg some (by kernel_rfl))
 t0:=Tryz.underlying0
 a0:=Tryz.isAgg0
 z0:=Tryz.sizeOf0
 v0:=Tryz.zeroValue0
 t3:=Tryz.underlying3
 a3:=Tryz.isAgg3
 z3:=Tryz.sizeOf3
 v3:=Tryz.zeroValue3
 t37:=Tryz.underlying79
 a37:=Tryz.isAgg79
 z37:=Tryz.sizeOf79
 v37:=Tryz.zeroValue79
 t70:=Tryz.underlying78
 a70:=Tryz.isAgg78
 z70:=Tryz.sizeOf78
 v70:=Tryz.zeroValue78
 t72:=Tryz.underlying81
 a72:=Tryz.isAgg81
 z72:=Tryz.sizeOf81
 v72:=Tryz.zeroValue81 }
def Tryz.lays169_ren:Go.Shelf.Ren:=⟨fun | 169=>87 | n=>n,fun | 70=>78 | 9=>9 | 0=>0 | 72=>81 | 37=>79 | 127=>130 | 3=>3 | 5=>5 | n=>n,fun | n=>n⟩
theorem Tryz.lays169:Go.Proofs.Lays.n169 Tryz.prog Tryz.lays169_ren:={
 mixed:=by kernel_rfl
 f169:=Tryz.func87.trans (congrArg some (by kernel_rfl))
 t0:=Tryz.underlying0
 a0:=Tryz.isAgg0
 z0:=Tryz.sizeOf0
 v0:=Tryz.zeroValue0
 t3:=Tryz.underlying3
 a3:=Tryz.isAgg3
 z3:=Tryz.sizeOf3
 v3:=Tryz.zeroValue3
 t9:=Tryz.underlying9
 a9:=Tryz.isAgg9
 z9:=Tryz.sizeOf9
 v9:=Tryz.zeroValue9
 t37:=Tryz.underlying79
 a37:=Tryz.isAgg79
 z37:=Tryz.sizeOf79
 v37:=Tryz.zeroValue79
 t70:=Tryz.underlying78
 a70:=Tryz.isAgg78
 z70:=Tryz.sizeOf78
 v70:=Tryz.zeroValue78
 t72:=Tryz.underlying81
 a72:=Tryz.isAgg81
 z72:=Tryz.sizeOf81
 v72:=Tryz.zeroValue81
 t127:=Tryz.underlying130
 a127:=Tryz.isAgg130
 z127:=Tryz.sizeOf130
 v127:=Tryz.zeroValue130 }
def Tryz.lays106_ren:Go.Shelf.Ren:=⟨fun | 106=>73 | 213=>123 | 265=>149 | n=>n,fun | 9=>9 | 3=>3 | n=>n,fun | n=>n⟩
theorem Tryz.lays106:Go.Proofs.Lays.n106 Tryz.prog Tryz.lays106_ren:={
 mixed:=by kernel_rfl
 f106:=Tryz.func73.trans (congrArg some (by kernel_rfl))
 f213:=Tryz.func123.trans (congrArg some (by kernel_rfl))
 f265:=Tryz.func149.trans (congrArg some (by kernel_rfl))
 t3:=Tryz.underlying3
 a3:=Tryz.isAgg3
 z3:=Tryz.sizeOf3
 v3:=Tryz.zeroValue3
 t9:=Tryz.underlying9
 a9:=Tryz.isAgg9
 z9:=Tryz.sizeOf9
 v9:=Tryz.zeroValue9 }
def Tryz.lays137_ren:Go.Shelf.Ren:=⟨fun | 137=>156 | 217=>163 | 266=>180 | n=>n,fun | 9=>9 | 5=>5 | 3=>3 | n=>n,fun | n=>n⟩
theorem Tryz.lays137:Go.Proofs.Lays.n137 Tryz.prog Tryz.lays137_ren:={
 mixed:=by kernel_rfl
 f137:=Tryz.func156.trans (congrArg some (by kernel_rfl))
 f217:=Tryz.func163.trans (congrArg some (by kernel_rfl))
 f266:=Tryz.func180.trans (congrArg some (by kernel_rfl))
 t3:=Tryz.underlying3
 a3:=Tryz.isAgg3
 z3:=Tryz.sizeOf3
 v3:=Tryz.zeroValue3
 t5:=Tryz.underlying5
 a5:=Tryz.isAgg5
 z5:=Tryz.sizeOf5
 v5:=Tryz.zeroValue5
 t9:=Tryz.underlying9
 a9:=Tryz.isAgg9
 z9:=Tryz.sizeOf9
 v9:=Tryz.zeroValue9 }
def Tryz.laysM171_ren:Go.Shelf.Ren:=⟨fun | 171=>82 | 243=>128 | 246=>151 | 283=>168 | 284=>169 | 285=>170 | 286=>171 | 129=>183 | 317=>182 | 318=>184 | 319=>185 | 320=>186 | 337=>193 | 338=>194 | n=>n,fun | 3=>3 | 9=>9 | 2=>2 | 4=>4 | 171=>150 | 0=>0 | 53=>151 | 37=>79 | 5=>5 | 173=>154 | 212=>166 | 51=>162 | 20=>20 | 213=>167 | 46=>123 | 232=>180 | 233=>181 | n=>n,fun | 17=>3 | 18=>6 | 19=>7 | n=>n⟩
theorem Tryz.laysM171:Go.Proofs.LaysM.n171 Tryz.prog Tryz.laysM171_ren:={
 mixed:=by kernel_rfl
 f129:=Tryz.func183.trans (congrArg some (by kernel_rfl))
 f171:=Tryz.func82.trans (congrArg some (by kernel_rfl))
 f243:=Tryz.func128.trans (congrArg some (by kernel_rfl))
 f246:=Tryz.func151.trans (congrArg some (by kernel_rfl))
 f283:=Tryz.func168.trans (congrArg some (by kernel_rfl))
 f284:=Tryz.func169.trans (congrArg some (by kernel_rfl))
 f285:=Tryz.func170.trans (congrArg some (by kernel_rfl))
 f286:=Tryz.func171.trans (congrArg some (by kernel_rfl))
 f317:=Tryz.func182.trans (congrArg some (by kernel_rfl))
 f318:=Tryz.func184.trans (congrArg some (by kernel_rfl))
 f319:=Tryz.func185.trans (congrArg some (by kernel_rfl))
 f320:=Tryz.func186.trans (congrArg some (by kernel_rfl))
 f337:=Tryz.func193.trans (congrArg some (by kernel_rfl))
 f338:=Tryz.func194.trans (congrArg some (by kernel_rfl))
 t0:=Tryz.underlying0
 a0:=Tryz.isAgg0
 z0:=Tryz.sizeOf0
 v0:=Tryz.zeroValue0
 t2:=Tryz.underlying2
 a2:=Tryz.isAgg2
 z2:=Tryz.sizeOf2
 v2:=Tryz.zeroValue2
 t3:=Tryz.underlying3
 a3:=Tryz.isAgg3
 z3:=Tryz.sizeOf3
 v3:=Tryz.zeroValue3
 t4:=Tryz.underlying4
 a4:=Tryz.isAgg4
 z4:=Tryz.sizeOf4
 v4:=Tryz.zeroValue4
 t5:=Tryz.underlying5
 a5:=Tryz.isAgg5
 z5:=Tryz.sizeOf5
 v5:=Tryz.zeroValue5
 t9:=Tryz.underlying9
 a9:=Tryz.isAgg9
 z9:=Tryz.sizeOf9
 v9:=Tryz.zeroValue9
 t20:=Tryz.underlying20
 a20:=Tryz.isAgg20
 z20:=Tryz.sizeOf20
 v20:=Tryz.zeroValue20
 t37:=Tryz.underlying79
 a37:=Tryz.isAgg79
 z37:=Tryz.sizeOf79
 v37:=Tryz.zeroValue79
 t46:=Tryz.underlying123
 a46:=Tryz.isAgg123
 z46:=Tryz.sizeOf123
 v46:=Tryz.zeroValue123
 t51:=Tryz.underlying162
 a51:=Tryz.isAgg162
 z51:=Tryz.sizeOf162
 v51:=Tryz.zeroValue162
 t53:=Tryz.underlying151
 a53:=Tryz.isAgg151
 z53:=Tryz.sizeOf151
 v53:=Tryz.zeroValue151
 t171:=Tryz.underlying150
 a171:=Tryz.isAgg150
 z171:=Tryz.sizeOf150
 v171:=Tryz.zeroValue150
 t173:=Tryz.underlying154
 a173:=Tryz.isAgg154
 z173:=Tryz.sizeOf154
 v173:=Tryz.zeroValue154
 t212:=Tryz.underlying166
 a212:=Tryz.isAgg166
 z212:=Tryz.sizeOf166
 v212:=Tryz.zeroValue166
 t213:=Tryz.underlying167
 a213:=Tryz.isAgg167
 z213:=Tryz.sizeOf167
 t232:=Tryz.underlying180
 a232:=Tryz.isAgg180
 z232:=Tryz.sizeOf180
 v232:=Tryz.zeroValue180
 t233:=Tryz.underlying181
 a233:=Tryz.isAgg181
 z233:=Tryz.sizeOf181
 v233:=Tryz.zeroValue181
 g17:=by kernel_rfl
 g18:=by kernel_rfl
 g19:=by kernel_rfl
 i0:=by kernel_rfl
 i2:=by kernel_rfl
 i3:=by kernel_rfl
 i4:=by kernel_rfl
 i5:=by kernel_rfl
 i9:=by kernel_rfl
 i20:=by kernel_rfl
 i37:=by kernel_rfl
 i46:=by kernel_rfl
 i51:=by kernel_rfl
 i53:=by kernel_rfl
 i171:=by kernel_rfl
 i173:=by kernel_rfl
 i212:=by kernel_rfl
 i232:=by kernel_rfl
 i233:=by kernel_rfl
 m17:=by kernel_rfl
 m18:=by kernel_rfl
 m19:=by kernel_rfl }
def Tryz.laysC172_ren:Go.Shelf.Ren:=⟨fun | 172=>137 | 244=>157 | 245=>158 | 247=>173 | 279=>174 | 280=>175 | 281=>176 | 282=>177 | 287=>188 | 316=>189 | 171=>82 | 205=>190 | 321=>195 | 322=>196 | 243=>128 | 246=>151 | 283=>168 | 284=>169 | 285=>170 | 286=>171 | 129=>183 | 317=>182 | 318=>184 | 319=>185 | 320=>186 | 337=>193 | 338=>194 | n=>n,fun | 9=>9 | 3=>3 | 75=>85 | 76=>86 | 4=>4 | 5=>5 | 167=>156 | 37=>79 | 0=>0 | 85=>157 | 2=>2 | 168=>159 | 53=>151 | 175=>170 | 46=>123 | 210=>173 | 127=>130 | 145=>179 | 143=>177 | 21=>21 | 171=>150 | 173=>154 | 212=>166 | 51=>162 | 20=>20 | 213=>167 | 232=>180 | 233=>181 | 80=>90 | n=>n,fun | 15=>4 | 16=>5 | 17=>3 | 18=>6 | 19=>7 | n=>n⟩
theorem Tryz.laysC172:Go.Proofs.LaysC.n172 Tryz.prog Tryz.laysC172_ren:={
 mixed:=by kernel_rfl
 f129:=Tryz.func183.trans (congrArg some (by kernel_rfl))
 f171:=Tryz.func82.trans (congrArg some (by kernel_rfl))
 f172:=Tryz.func137.trans (congrArg some (by kernel_rfl))
 f205:=Tryz.func190.trans (congrArg some (by kernel_rfl))
 f243:=Tryz.func128.trans (congrArg some (by kernel_rfl))
 f244:=Tryz.func157.trans (congrArg some (by kernel_rfl))
 f245:=Tryz.func158.trans (congrArg some (by kernel_rfl))
 f246:=Tryz.func151.trans (congrArg some (by kernel_rfl))
 f247:=Tryz.func173.trans (congrArg some (by kernel_rfl))
 f279:=Tryz.func174.trans (congrArg some (by kernel_rfl))
 f280:=Tryz.func175.trans (congrArg some (by kernel_rfl))
 f281:=Tryz.func176.trans (congrArg some (by kernel_rfl))
 f282:=Tryz.func177.trans (congrArg some (by kernel_rfl))
 f283:=Tryz.func168.trans (congrArg some (by kernel_rfl))
 f284:=Tryz.func169.trans (congrArg some (by kernel_rfl))
 f285:=Tryz.func170.trans (congrArg some (by kernel_rfl))
 f286:=Tryz.func171.trans (congrArg some (by kernel_rfl))
 f287:=Tryz.func188.trans (congrArg some (by kernel_rfl))
 f316:=Tryz.func189.trans (congrArg some (by kernel_rfl))
 f317:=Tryz.func182.trans (congrArg some (by kernel_rfl))
 f318:=Tryz.func184.trans (congrArg some (by kernel_rfl))
 f319:=Tryz.func185.trans (congrArg some (by kernel_rfl))
 f320:=Tryz.func186.trans (congrArg some (by kernel_rfl))
 f321:=Tryz.func195.trans (congrArg some (by kernel_rfl))
 f322:=Tryz.func196.trans (congrArg some (by kernel_rfl))
 f337:=Tryz.func193.trans (congrArg some (by kernel_rfl))
 f338:=Tryz.func194.trans (congrArg some (by kernel_rfl))
 t0:=Tryz.underlying0
 a0:=Tryz.isAgg0
 z0:=Tryz.sizeOf0
 v0:=Tryz.zeroValue0
 t2:=Tryz.underlying2
 a2:=Tryz.isAgg2
 z2:=Tryz.sizeOf2
 v2:=Tryz.zeroValue2
 t3:=Tryz.underlying3
 a3:=Tryz.isAgg3
 z3:=Tryz.sizeOf3
 v3:=Tryz.zeroValue3
 t4:=Tryz.underlying4
 a4:=Tryz.isAgg4
 z4:=Tryz.sizeOf4
 v4:=Tryz.zeroValue4
 t5:=Tryz.underlying5
 a5:=Tryz.isAgg5
 z5:=Tryz.sizeOf5
 v5:=Tryz.zeroValue5
 t9:=Tryz.underlying9
 a9:=Tryz.isAgg9
 z9:=Tryz.sizeOf9
 v9:=Tryz.zeroValue9
 t20:=Tryz.underlying20
 a20:=Tryz.isAgg20
 z20:=Tryz.sizeOf20
 v20:=Tryz.zeroValue20
 t21:=Tryz.underlying21
 a21:=Tryz.isAgg21
 z21:=Tryz.sizeOf21
 v21:=Tryz.zeroValue21
 t37:=Tryz.underlying79
 a37:=Tryz.isAgg79
 z37:=Tryz.sizeOf79
 v37:=Tryz.zeroValue79
 t46:=Tryz.underlying123
 a46:=Tryz.isAgg123
 z46:=Tryz.sizeOf123
 v46:=Tryz.zeroValue123
 t51:=Tryz.underlying162
 a51:=Tryz.isAgg162
 z51:=Tryz.sizeOf162
 v51:=Tryz.zeroValue162
 t53:=Tryz.underlying151
 a53:=Tryz.isAgg151
 z53:=Tryz.sizeOf151
 v53:=Tryz.zeroValue151
 t75:=Tryz.underlying85
 a75:=Tryz.isAgg85
 z75:=Tryz.sizeOf85
 v75:=Tryz.zeroValue85
 t76:=Tryz.underlying86
 a76:=Tryz.isAgg86
 z76:=Tryz.sizeOf86
 v76:=Tryz.zeroValue86
 t85:=Tryz.underlying157
 a85:=Tryz.isAgg157
 z85:=Tryz.sizeOf157
 v85:=Tryz.zeroValue157
 t127:=Tryz.underlying130
 a127:=Tryz.isAgg130
 z127:=Tryz.sizeOf130
 v127:=Tryz.zeroValue130
 t143:=Tryz.underlying177
 a143:=Tryz.isAgg177
 z143:=Tryz.sizeOf177
 v143:=Tryz.zeroValue177
 t145:=Tryz.underlying179
 a145:=Tryz.isAgg179
 z145:=Tryz.sizeOf179
 v145:=Tryz.zeroValue179
 t167:=Tryz.underlying156
 a167:=Tryz.isAgg156
 z167:=Tryz.sizeOf156
 v167:=Tryz.zeroValue156
 t168:=Tryz.underlying159
 a168:=Tryz.isAgg159
 z168:=Tryz.sizeOf159
 v168:=Tryz.zeroValue159
 t171:=Tryz.underlying150
 a171:=Tryz.isAgg150
 z171:=Tryz.sizeOf150
 v171:=Tryz.zeroValue150
 t173:=Tryz.underlying154
 a173:=Tryz.isAgg154
 z173:=Tryz.sizeOf154
 v173:=Tryz.zeroValue154
 t175:=Tryz.underlying170
 a175:=Tryz.isAgg170
 z175:=Tryz.sizeOf170
 v175:=Tryz.zeroValue170
 t210:=Tryz.underlying173
 a210:=Tryz.isAgg173
 z210:=Tryz.sizeOf173
 v210:=Tryz.zeroValue173
 t212:=Tryz.underlying166
 a212:=Tryz.isAgg166
 z212:=Tryz.sizeOf166
 v212:=Tryz.zeroValue166
 t213:=Tryz.underlying167
 a213:=Tryz.isAgg167
 z213:=Tryz.sizeOf167
 t232:=Tryz.underlying180
 a232:=Tryz.isAgg180
 z232:=Tryz.sizeOf180
 v232:=Tryz.zeroValue180
 t233:=Tryz.underlying181
 a233:=Tryz.isAgg181
 z233:=Tryz.sizeOf181
 v233:=Tryz.zeroValue181
 g15:=by kernel_rfl
 g16:=by kernel_rfl
 g17:=by kernel_rfl
 g18:=by kernel_rfl
 g19:=by kernel_rfl
 t80:=Tryz.underlying90
 a80:=Tryz.isAgg90
 z80:=Tryz.sizeOf90
 v80:=Tryz.zeroValue90
 i0:=by kernel_rfl
 i2:=by kernel_rfl
 i3:=by kernel_rfl
 i4:=by kernel_rfl
 i5:=by kernel_rfl
 i9:=by kernel_rfl
 i20:=by kernel_rfl
 i21:=by kernel_rfl
 i37:=by kernel_rfl
 i46:=by kernel_rfl
 i51:=by kernel_rfl
 i53:=by kernel_rfl
 i75:=by kernel_rfl
 i76:=by kernel_rfl
 i80:=by kernel_rfl
 i85:=by kernel_rfl
 i127:=by kernel_rfl
 i143:=by kernel_rfl
 i145:=by kernel_rfl
 i167:=by kernel_rfl
 i168:=by kernel_rfl
 i171:=by kernel_rfl
 i173:=by kernel_rfl
 i175:=by kernel_rfl
 i210:=by kernel_rfl
 i212:=by kernel_rfl
 i232:=by kernel_rfl
 i233:=by kernel_rfl
 m15:=by kernel_rfl
 m16:=by kernel_rfl
 m17:=by kernel_rfl
 m18:=by kernel_rfl
 m19:=by kernel_rfl
 c0:=by kernel_rfl
 c2:=by kernel_rfl
 c3:=by kernel_rfl
 c4:=by kernel_rfl
 c5:=by kernel_rfl
 c9:=by kernel_rfl
 c20:=by kernel_rfl
 c21:=by kernel_rfl
 c37:=by kernel_rfl
 c46:=by kernel_rfl
 c51:=by kernel_rfl
 c53:=by kernel_rfl
 c75:=by kernel_rfl
 c76:=by kernel_rfl
 c80:=by kernel_rfl
 c85:=by kernel_rfl
 c127:=by kernel_rfl
 c143:=by kernel_rfl
 c145:=by kernel_rfl
 c167:=by kernel_rfl
 c168:=by kernel_rfl
 c171:=by kernel_rfl
 c173:=by kernel_rfl
 c175:=by kernel_rfl
 c210:=by kernel_rfl
 c212:=by kernel_rfl
 c213:=by kernel_rfl
 c232:=by kernel_rfl
 c233:=by kernel_rfl }
def Tryz.lays144_ren:Go.Shelf.Ren:=⟨fun | 144=>57 | 143=>109 | 219=>142 | 217=>163 | 225=>164 | 224=>165 | 267=>166 | 266=>180 | 314=>181 | n=>n,fun | 9=>9 | 4=>4 | 3=>3 | 5=>5 | 46=>123 | 146=>163 | 51=>162 | n=>n,fun | 1=>0 | n=>n⟩
theorem Tryz.lays144:Go.Proofs.Lays.n144 Tryz.prog Tryz.lays144_ren:={
 mixed:=by kernel_rfl
 f143:=Tryz.func109.trans (congrArg some (by kernel_rfl))
 f144:=Tryz.func57.trans (congrArg some (by kernel_rfl))
 f217:=Tryz.func163.trans (congrArg some (by kernel_rfl))
 f219:=Tryz.func142.trans (congrArg some (by kernel_rfl))
 f224:=Tryz.func165.trans (congrArg some (by kernel_rfl))
 f225:=Tryz.func164.trans (congrArg some (by kernel_rfl))
 f266:=Tryz.func180.trans (congrArg some (by kernel_rfl))
 f267:=Tryz.func166.trans (congrArg some (by kernel_rfl))
 f314:=Tryz.func181.trans (congrArg some (by kernel_rfl))
 t3:=Tryz.underlying3
 a3:=Tryz.isAgg3
 z3:=Tryz.sizeOf3
 v3:=Tryz.zeroValue3
 t4:=Tryz.underlying4
 a4:=Tryz.isAgg4
 z4:=Tryz.sizeOf4
 v4:=Tryz.zeroValue4
 t5:=Tryz.underlying5
 a5:=Tryz.isAgg5
 z5:=Tryz.sizeOf5
 v5:=Tryz.zeroValue5
 t9:=Tryz.underlying9
 a9:=Tryz.isAgg9
 z9:=Tryz.sizeOf9
 v9:=Tryz.zeroValue9
 t46:=Tryz.underlying123
 a46:=Tryz.isAgg123
 z46:=Tryz.sizeOf123
 v46:=Tryz.zeroValue123
 t51:=Tryz.underlying162
 a51:=Tryz.isAgg162
 z51:=Tryz.sizeOf162
 v51:=Tryz.zeroValue162
 t146:=Tryz.underlying163
 a146:=Tryz.isAgg163
 z146:=Tryz.sizeOf163
 v146:=Tryz.zeroValue163
 g1:=by kernel_rfl }
def Tryz.lays99_ren:Go.Shelf.Ren:=⟨fun | 99=>42 | 206=>110 | n=>n,fun | 9=>9 | 4=>4 | 3=>3 | n=>n,fun | n=>n⟩
theorem Tryz.lays99:Go.Proofs.Lays.n99 Tryz.prog Tryz.lays99_ren:={
 mixed:=by kernel_rfl
 f99:=Tryz.func42.trans (congrArg some (by kernel_rfl))
 f206:=Tryz.func110.trans (congrArg some (by kernel_rfl))
 t3:=Tryz.underlying3
 a3:=Tryz.isAgg3
 z3:=Tryz.sizeOf3
 v3:=Tryz.zeroValue3
 t4:=Tryz.underlying4
 a4:=Tryz.isAgg4
 z4:=Tryz.sizeOf4
 v4:=Tryz.zeroValue4
 t9:=Tryz.underlying9
 a9:=Tryz.isAgg9
 z9:=Tryz.sizeOf9
 v9:=Tryz.zeroValue9 }
def Tryz.lays100_ren:Go.Shelf.Ren:=⟨fun | 100=>91 | 207=>135 | n=>n,fun | 9=>9 | 4=>4 | 3=>3 | n=>n,fun | n=>n⟩
theorem Tryz.lays100:Go.Proofs.Lays.n100 Tryz.prog Tryz.lays100_ren:={
 mixed:=by kernel_rfl
 f100:=Tryz.func91.trans (congrArg some (by kernel_rfl))
 f207:=Tryz.func135.trans (congrArg some (by kernel_rfl))
 t3:=Tryz.underlying3
 a3:=Tryz.isAgg3
 z3:=Tryz.sizeOf3
 v3:=Tryz.zeroValue3
 t4:=Tryz.underlying4
 a4:=Tryz.isAgg4
 z4:=Tryz.sizeOf4
 v4:=Tryz.zeroValue4
 t9:=Tryz.underlying9
 a9:=Tryz.isAgg9
 z9:=Tryz.sizeOf9
 v9:=Tryz.zeroValue9 }
def Tryz.lays101_ren:Go.Shelf.Ren:=⟨fun | 101=>61 | 208=>120 | 206=>110 | n=>n,fun | 9=>9 | 4=>4 | 3=>3 | n=>n,fun | n=>n⟩
theorem Tryz.lays101:Go.Proofs.Lays.n101 Tryz.prog Tryz.lays101_ren:={
 mixed:=by kernel_rfl
 f101:=Tryz.func61.trans (congrArg some (by kernel_rfl))
 f206:=Tryz.func110.trans (congrArg some (by kernel_rfl))
 f208:=Tryz.func120.trans (congrArg some (by kernel_rfl))
 t3:=Tryz.underlying3
 a3:=Tryz.isAgg3
 z3:=Tryz.sizeOf3
 v3:=Tryz.zeroValue3
 t4:=Tryz.underlying4
 a4:=Tryz.isAgg4
 z4:=Tryz.sizeOf4
 v4:=Tryz.zeroValue4
 t9:=Tryz.underlying9
 a9:=Tryz.isAgg9
 z9:=Tryz.sizeOf9
 v9:=Tryz.zeroValue9 }
def Tryz.lays221_ren:Go.Shelf.Ren:=⟨fun | 221=>119 | 268=>148 | 138=>41 | 143=>109 | 195=>107 | 197=>116 | 218=>108 | 219=>142 | 260=>145 | 217=>163 | 225=>164 | 224=>165 | 267=>166 | 266=>180 | 314=>181 | n=>n,fun | 9=>9 | 3=>3 | 31=>38 | 4=>4 | 0=>0 | 105=>116 | 21=>21 | 5=>5 | 46=>123 | 119=>145 | 139=>148 | 138=>147 | 146=>163 | 51=>162 | n=>n,fun | 1=>0 | 3=>1 | 4=>2 | n=>n⟩
theorem Tryz.lays221:Go.Proofs.Lays.n221 Tryz.prog Tryz.lays221_ren:={
 mixed:=by kernel_rfl
 f138:=Tryz.func41.trans (congrArg some (by kernel_rfl))
 f143:=Tryz.func109.trans (congrArg some (by kernel_rfl))
 f195:=Tryz.func107.trans (congrArg some (by kernel_rfl))
 f197:=Tryz.func116.trans (congrArg some (by kernel_rfl))
 f217:=Tryz.func163.trans (congrArg some (by kernel_rfl))
 f218:=Tryz.func108.trans (congrArg some (by kernel_rfl))
 f219:=Tryz.func142.trans (congrArg some (by kernel_rfl))
 f221:=Tryz.func119.trans (congrArg some (by kernel_rfl))
 f224:=Tryz.func165.trans (congrArg some (by kernel_rfl))
 f225:=Tryz.func164.trans (congrArg some (by kernel_rfl))
 f260:=Tryz.func145.trans (congrArg some (by kernel_rfl))
 f266:=Tryz.func180.trans (congrArg some (by kernel_rfl))
 f267:=Tryz.func166.trans (congrArg some (by kernel_rfl))
 f268:=Tryz.func148.trans (congrArg some (by kernel_rfl))
 f314:=Tryz.func181.trans (congrArg some (by kernel_rfl))
 t0:=Tryz.underlying0
 a0:=Tryz.isAgg0
 z0:=Tryz.sizeOf0
 v0:=Tryz.zeroValue0
 t3:=Tryz.underlying3
 a3:=Tryz.isAgg3
 z3:=Tryz.sizeOf3
 v3:=Tryz.zeroValue3
 t4:=Tryz.underlying4
 a4:=Tryz.isAgg4
 z4:=Tryz.sizeOf4
 v4:=Tryz.zeroValue4
 t5:=Tryz.underlying5
 a5:=Tryz.isAgg5
 z5:=Tryz.sizeOf5
 v5:=Tryz.zeroValue5
 t9:=Tryz.underlying9
 a9:=Tryz.isAgg9
 z9:=Tryz.sizeOf9
 v9:=Tryz.zeroValue9
 t21:=Tryz.underlying21
 a21:=Tryz.isAgg21
 z21:=Tryz.sizeOf21
 v21:=Tryz.zeroValue21
 t31:=Tryz.underlying38
 a31:=Tryz.isAgg38
 z31:=Tryz.sizeOf38
 v31:=Tryz.zeroValue38
 t46:=Tryz.underlying123
 a46:=Tryz.isAgg123
 z46:=Tryz.sizeOf123
 v46:=Tryz.zeroValue123
 t51:=Tryz.underlying162
 a51:=Tryz.isAgg162
 z51:=Tryz.sizeOf162
 v51:=Tryz.zeroValue162
 t105:=Tryz.underlying116
 a105:=Tryz.isAgg116
 z105:=Tryz.sizeOf116
 v105:=Tryz.zeroValue116
 t119:=Tryz.underlying145
 a119:=Tryz.isAgg145
 z119:=Tryz.sizeOf145
 t138:=Tryz.underlying147
 a138:=Tryz.isAgg147
 z138:=Tryz.sizeOf147
 v138:=Tryz.zeroValue147
 t139:=Tryz.underlying148
 a139:=Tryz.isAgg148
 z139:=Tryz.sizeOf148
 v139:=Tryz.zeroValue148
 t146:=Tryz.underlying163
 a146:=Tryz.isAgg163
 z146:=Tryz.sizeOf163
 v146:=Tryz.zeroValue163
 g1:=by kernel_rfl
 g3:=by kernel_rfl
 g4:=by kernel_rfl }
def Tryz.laysM146_ren:Go.Shelf.Ren:=⟨fun | 146=>60 | 221=>119 | 268=>148 | 138=>41 | 143=>109 | 195=>107 | 197=>116 | 218=>108 | 219=>142 | 260=>145 | 217=>163 | 225=>164 | 224=>165 | 267=>166 | 266=>180 | 314=>181 | n=>n,fun | 9=>9 | 31=>38 | 3=>3 | 4=>4 | 0=>0 | 105=>116 | 21=>21 | 5=>5 | 46=>123 | 119=>145 | 139=>148 | 138=>147 | 146=>163 | 51=>162 | n=>n,fun | 1=>0 | 3=>1 | 4=>2 | n=>n⟩
theorem Tryz.laysM146:Go.Proofs.LaysM.n146 Tryz.prog Tryz.laysM146_ren:={
 mixed:=by kernel_rfl
 f138:=Tryz.func41.trans (congrArg some (by kernel_rfl))
 f143:=Tryz.func109.trans (congrArg some (by kernel_rfl))
 f146:=Tryz.func60.trans (congrArg some (by kernel_rfl))
 f195:=Tryz.func107.trans (congrArg some (by kernel_rfl))
 f197:=Tryz.func116.trans (congrArg some (by kernel_rfl))
 f217:=Tryz.func163.trans (congrArg some (by kernel_rfl))
 f218:=Tryz.func108.trans (congrArg some (by kernel_rfl))
 f219:=Tryz.func142.trans (congrArg some (by kernel_rfl))
 f221:=Tryz.func119.trans (congrArg some (by kernel_rfl))
 f224:=Tryz.func165.trans (congrArg some (by kernel_rfl))
 f225:=Tryz.func164.trans (congrArg some (by kernel_rfl))
 f260:=Tryz.func145.trans (congrArg some (by kernel_rfl))
 f266:=Tryz.func180.trans (congrArg some (by kernel_rfl))
 f267:=Tryz.func166.trans (congrArg some (by kernel_rfl))
 f268:=Tryz.func148.trans (congrArg some (by kernel_rfl))
 f314:=Tryz.func181.trans (congrArg some (by kernel_rfl))
 t0:=Tryz.underlying0
 a0:=Tryz.isAgg0
 z0:=Tryz.sizeOf0
 v0:=Tryz.zeroValue0
 t3:=Tryz.underlying3
 a3:=Tryz.isAgg3
 z3:=Tryz.sizeOf3
 v3:=Tryz.zeroValue3
 t4:=Tryz.underlying4
 a4:=Tryz.isAgg4
 z4:=Tryz.sizeOf4
 v4:=Tryz.zeroValue4
 t5:=Tryz.underlying5
 a5:=Tryz.isAgg5
 z5:=Tryz.sizeOf5
 v5:=Tryz.zeroValue5
 t9:=Tryz.underlying9
 a9:=Tryz.isAgg9
 z9:=Tryz.sizeOf9
 v9:=Tryz.zeroValue9
 t21:=Tryz.underlying21
 a21:=Tryz.isAgg21
 z21:=Tryz.sizeOf21
 v21:=Tryz.zeroValue21
 t31:=Tryz.underlying38
 a31:=Tryz.isAgg38
 z31:=Tryz.sizeOf38
 v31:=Tryz.zeroValue38
 t46:=Tryz.underlying123
 a46:=Tryz.isAgg123
 z46:=Tryz.sizeOf123
 v46:=Tryz.zeroValue123
 t51:=Tryz.underlying162
 a51:=Tryz.isAgg162
 z51:=Tryz.sizeOf162
 v51:=Tryz.zeroValue162
 t105:=Tryz.underlying116
 a105:=Tryz.isAgg116
 z105:=Tryz.sizeOf116
 v105:=Tryz.zeroValue116
 t119:=Tryz.underlying145
 a119:=Tryz.isAgg145
 z119:=Tryz.sizeOf145
 t138:=Tryz.underlying147
 a138:=Tryz.isAgg147
 z138:=Tryz.sizeOf147
 v138:=Tryz.zeroValue147
 t139:=Tryz.underlying148
 a139:=Tryz.isAgg148
 z139:=Tryz.sizeOf148
 v139:=Tryz.zeroValue148
 t146:=Tryz.underlying163
 a146:=Tryz.isAgg163
 z146:=Tryz.sizeOf163
 v146:=Tryz.zeroValue163
 g1:=by kernel_rfl
 g3:=by kernel_rfl
 g4:=by kernel_rfl
 i0:=by kernel_rfl
 i3:=by kernel_rfl
 i4:=by kernel_rfl
 i5:=by kernel_rfl
 i9:=by kernel_rfl
 i21:=by kernel_rfl
 i31:=by kernel_rfl
 i46:=by kernel_rfl
 i51:=by kernel_rfl
 i105:=by kernel_rfl
 i138:=by kernel_rfl
 i139:=by kernel_rfl
 i146:=by kernel_rfl
 m1:=by kernel_rfl
 s1_3:=fun w h=>Go.Proofs.cell_of_shapedOpen_int (zero:=#[.int .i64 0]) (t:=3) h (of_decide_eq_true (by kernel_rfl)) (by kernel_rfl) rfl (by kernel_rfl) (by kernel_rfl) Tryz.underlying3
 m3:=by kernel_rfl
 m4:=by kernel_rfl }
def Tryz.lays197_ren:Go.Shelf.Ren:=⟨fun | 197=>116 | 260=>145 | n=>n,fun | 9=>9 | 21=>21 | 3=>3 | 4=>4 | 5=>5 | 105=>116 | 119=>145 | 0=>0 | 46=>123 | 139=>148 | 138=>147 | n=>n,fun | 3=>1 | 4=>2 | n=>n⟩
theorem Tryz.lays197:Go.Proofs.Lays.n197 Tryz.prog Tryz.lays197_ren:={
 mixed:=by kernel_rfl
 f197:=Tryz.func116.trans (congrArg some (by kernel_rfl))
 f260:=Tryz.func145.trans (congrArg some (by kernel_rfl))
 t0:=Tryz.underlying0
 a0:=Tryz.isAgg0
 z0:=Tryz.sizeOf0
 v0:=Tryz.zeroValue0
 t3:=Tryz.underlying3
 a3:=Tryz.isAgg3
 z3:=Tryz.sizeOf3
 v3:=Tryz.zeroValue3
 t4:=Tryz.underlying4
 a4:=Tryz.isAgg4
 z4:=Tryz.sizeOf4
 v4:=Tryz.zeroValue4
 t5:=Tryz.underlying5
 a5:=Tryz.isAgg5
 z5:=Tryz.sizeOf5
 v5:=Tryz.zeroValue5
 t9:=Tryz.underlying9
 a9:=Tryz.isAgg9
 z9:=Tryz.sizeOf9
 v9:=Tryz.zeroValue9
 t21:=Tryz.underlying21
 a21:=Tryz.isAgg21
 z21:=Tryz.sizeOf21
 v21:=Tryz.zeroValue21
 t46:=Tryz.underlying123
 a46:=Tryz.isAgg123
 z46:=Tryz.sizeOf123
 v46:=Tryz.zeroValue123
 t105:=Tryz.underlying116
 a105:=Tryz.isAgg116
 z105:=Tryz.sizeOf116
 v105:=Tryz.zeroValue116
 t119:=Tryz.underlying145
 a119:=Tryz.isAgg145
 z119:=Tryz.sizeOf145
 t138:=Tryz.underlying147
 a138:=Tryz.isAgg147
 z138:=Tryz.sizeOf147
 v138:=Tryz.zeroValue147
 t139:=Tryz.underlying148
 a139:=Tryz.isAgg148
 z139:=Tryz.sizeOf148
 v139:=Tryz.zeroValue148
 g3:=by kernel_rfl
 g4:=by kernel_rfl }
end Go.Proofs
namespace Go.Proofs.YtlhakdildbplkaaGreatDoor
set_option linter.unusedSimpArgs false
set_option linter.unusedVariables false
open Go.PlainAid (bt get_bt bt_nonneg bt_le bt_end)
def chB (n:Int):Bool:=decide (32≤n∧n≤65533∧(n < 55296∨57343 < n))
def c2 (s:ByteArray):Int:=(bt s 0 - 192)*64+bt s 1 - 128
def c3 (s:ByteArray):Int:=(bt s 0 - 224)*4096+(bt s 1 - 128)*64+bt s 2 - 128
def H1 (s:ByteArray):Prop:=1≤s.size∧32≤bt s 0∧bt s 0 < 128
def H2 (s:ByteArray):Prop:=2≤s.size∧194≤bt s 0∧bt s 0≤223∧128≤bt s 1∧bt s 1≤191
def H3 (s:ByteArray):Prop:=3≤s.size∧224≤bt s 0∧bt s 0≤239∧128≤bt s 1∧bt s 1≤191∧128≤bt s 2∧bt s 2≤191∧2048≤c3 s∧chB (c3 s)=true
theorem bt_get! (s:ByteArray) (i:Nat):bt s i=((s.get! i).toNat:Int):=by
 unfold bt
 split
 ·rename_i h
  rw [Utf8W.get!_of_lt s i h]
 ·rename_i h
  have:s.get! i=0:=by
   obtain⟨⟨l⟩⟩:=s
   have h':l.length≤i:=by simpa [ByteArray.size] using h
   simp [ByteArray.get!,h']
   rfl
  rw [this];rfl
theorem dec_eq (s:ByteArray) (h:1≤s.size):Lib.decodeGo s=Lib.decodeN s.size (s.get! 0).toNat (s.get! 1).toNat (s.get! 2).toNat (s.get! 3).toNat:=by
 unfold Lib.decodeGo
 rw [if_neg (by omega),Lib.decode_at]
 rfl
theorem dec_1 {s:ByteArray} (h:H1 s):((Lib.decodeGo s).1:Int)=bt s 0∧(Lib.decodeGo s).2=1:=by
 obtain⟨h0,h1,h2⟩:=h
 rw [bt_get!] at *
 rw [dec_eq s h0]
 unfold Lib.decodeN
 rw [if_pos (by omega)]
 exact⟨rfl,rfl⟩
theorem dec_2 {s:ByteArray} (h:H2 s):((Lib.decodeGo s).1:Int)=c2 s∧(Lib.decodeGo s).2=2:=by
 obtain⟨h0,h1,h2,h3,h4⟩:=h
 unfold c2
 rw [bt_get!] at h1 h2 h3 h4
 rw [bt_get! s 0,bt_get! s 1,dec_eq s (by omega)]
 unfold Lib.decodeN
 rw [if_neg (by omega),if_pos (by omega),if_pos (by omega)]
 exact⟨by simp only;omega,rfl⟩
theorem dec_3 {s:ByteArray} (h:H3 s):((Lib.decodeGo s).1:Int)=c3 s∧(Lib.decodeGo s).2=3:=by
 obtain⟨h0,h1,h2,h3,h4,h5,h6,h7,h8⟩:=h
 unfold chB at h8
 have h8:=of_decide_eq_true h8
 unfold c3 at *
 rw [bt_get! s 0,bt_get! s 1,bt_get! s 2] at *
 rw [dec_eq s (by omega)]
 unfold Lib.decodeN
 rw [if_neg (by omega),if_neg (by omega),if_pos (by omega),if_pos (by omega)]
 exact⟨by simp only;omega,rfl⟩
theorem dec_0 {s:ByteArray} (h:1≤s.size) (n1:¬H1 s) (n2:¬H2 s) (n3:¬H3 s) :
  chB ((Lib.decodeGo s).1:Int)=false∨((Lib.decodeGo s).1=65533∧(Lib.decodeGo s).2=1):=by
 unfold H1 at n1
 unfold H2 at n2
 unfold H3 chB c3 at n3
 simp only [decide_eq_true_eq] at n3
 rw [bt_get! s 0] at n1
 rw [bt_get! s 0,bt_get! s 1] at n2
 rw [bt_get! s 0,bt_get! s 1,bt_get! s 2] at n3
 rw [dec_eq s h]
 have u0:=(s.get! 0).toNat_lt
 have u1:=(s.get! 1).toNat_lt
 have u2:=(s.get! 2).toNat_lt
 have u3:=(s.get! 3).toNat_lt
 generalize (s.get! 0).toNat=x0 at *
 generalize (s.get! 1).toNat=x1 at *
 generalize (s.get! 2).toNat=x2 at *
 generalize (s.get! 3).toNat=x3 at *
 unfold chB
 simp only [decide_eq_false_iff_not]
 unfold Lib.decodeN
 split
 ·left;simp only;omega
 split
 ·split
  ·exfalso;omega
  ·right;exact⟨rfl,rfl⟩
 split
 ·split
  ·left;simp only;omega
  ·right;exact⟨rfl,rfl⟩
 split
 ·split
  ·left;simp only;omega
  ·right;exact⟨rfl,rfl⟩
 ·right;exact⟨rfl,rfl⟩
end Go.Proofs.YtlhakdildbplkaaGreatDoor
