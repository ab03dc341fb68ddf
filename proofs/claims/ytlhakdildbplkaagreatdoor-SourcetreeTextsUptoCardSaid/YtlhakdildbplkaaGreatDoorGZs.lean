/- Part of the claim: its words. -/
import Derived.Test.YtlhakdildbplkaaGreatDoorGZt
import Derived.Test.YtlhakdildbplkaaGreatDoorG19
import Derived.Test.YtlhakdildbplkaaGreatDoorTie
import Derived.Test.YtlhakdildbplkaaGreatDoorCards
import Derived.LaidMore
import Derived.Lay
import Derived.SevenTiedAt
import Derived.Stop.Joined
import Derived.Lib.SmallJoins
import Derived.Lib.LaidTab
import Derived.Lib.LaidU8T
import Derived.HandedShaped
import Derived.Deep.DeepHandedRow
import Derived.JoinedCond
set_option maxRecDepth 100000
namespace Go.Proofs.YtlhakdildbplkaaGreatDoor
set_option linter.unusedSimpArgs false
set_option linter.unusedVariables false
open Go.Joins Go.ChangeShapes Go.WideShapes Go.ChangeAt Go.RowKit Go.Deep

theorem own:ownKnob Tryz.prog.godebug=none:=by kernel_rfl
theorem laidOut:laidOutB Tryz.prog=true:=by kernel_rfl
theorem u8types:U8Types Tryz.prog Tryz.lays197_ren:={ Tryz.lays197 with }
theorem u8extra:U8Extra Tryz.prog Tryz.lays197_ren:=⟨by kernel_rfl,by kernel_rfl,by kernel_rfl,by kernel_rfl,by kernel_rfl,by kernel_rfl,by kernel_rfl⟩
theorem first_is:Rows.laid_unicode_utf8_first=Lib.firstData:=by kernel_rfl
theorem accept_is:Rows.laid_unicode_utf8_acceptRanges=Lib.acceptData:=by kernel_rfl
theorem iface_of {H:Type} {enc:TypeId × Value→H} {P:Program} {w:World} {base fuel:Nat} {sp:Nat→Bool} {held:Bool} {t:TypeId} {ms:Array (String × TypeId)} {cs:List Value} {n:String} {d:DataW H} {p:List MemPlace} (ht:P.underlying t=some (.interface ms))
  (h:DataW.trod enc P w base sp held fuel t cs=some (.iface n d,p)):∃u v,cs=[.iface u v]:=by
 cases fuel with
 | zero=>simp [DataW.trod] at h
 | succ k=>
  unfold DataW.trod at h
  rw [ht] at h
  split at h <;> simp_all
theorem err_of {W:World} {n:String} {g:Nat} {d:DataW Unit} {nm:String} (hg:Tryz.prog.globalNamed n=some g) (ht:(Tryz.prog.globals[g]?).map (·.type)=some 85) (h:Lib.VarReads Tryz.prog W n (.iface nm d)):∃tp p,W.var? Tryz.prog n=some #[.iface tp p]:=by
 obtain⟨g',t',cs,fuel,p,h1,h2,h3,h4⟩:=h
 obtain rfl:=Option.some.inj (hg.symm.trans h1)
 obtain rfl:=Option.some.inj (ht.symm.trans h2)
 obtain⟨u,v,e⟩:=iface_of Tryz.underlying85 h4
 exact⟨u,v,by rw [h3];congr 1;exact Array.toList_inj.1 e⟩
theorem pow_of_laid {W:World} (h:Lib.VarReads Tryz.prog W "internal/strconv.uint64pow10" Rows.laid_internal_strconv_uint64pow10):TabP W:=by
 obtain⟨g,t,cs,fuel,p,hg,ht,hvar,hd⟩:=h
 obtain rfl:=Option.some.inj (tabG.symm.trans hg)
 obtain rfl:=Option.some.inj ((show(Tryz.prog.globals[3]?).map (·.type)=some 166 by kernel_rfl).symm.trans ht)
 unfold TabP Lib.TabIs
 rw [hvar]
 have:=Lib.cells_of_tab (k:=.u64) (zs:=Lib.pow10Tab) Tryz.underlying166 Tryz.underlying151 (by kernel_rfl) (by kernel_rfl) hd
 rw [←this]
theorem tab_of_laid {a b:String × DataW Unit} {W:World} (h:laidMet Tryz.prog [a,b,("internal/strconv.uint64pow10",Rows.laid_internal_strconv_uint64pow10),("unicode/utf8.acceptRanges",Rows.laid_unicode_utf8_acceptRanges),("strconv.ErrRange",Rows.laid_strconv_ErrRange),("strconv.ErrSyntax",Rows.laid_strconv_ErrSyntax),("unicode/utf8.first",Rows.laid_unicode_utf8_first)] W) (hS:W.ShapedOpen Tryz.prog) :
  TabV W∧TabP W∧TabE W:=by
 have h1:=Lib.laidMet.reads h (n := "internal/strconv.uint64pow10") (d:=Rows.laid_internal_strconv_uint64pow10) (by simp)
 have h4:=Lib.laidMet.reads h (n := "unicode/utf8.acceptRanges") (d:=Rows.laid_unicode_utf8_acceptRanges) (by simp)
 have h3:=Lib.laidMet.reads h (n := "unicode/utf8.first") (d:=Rows.laid_unicode_utf8_first) (by simp)
 have h5:=Lib.laidMet.reads h (n := "strconv.ErrRange") (d:=Rows.laid_strconv_ErrRange) (by simp)
 have h6:=Lib.laidMet.reads h (n := "strconv.ErrSyntax") (d:=Rows.laid_strconv_ErrSyntax) (by simp)
 rw [accept_is] at h4
 rw [first_is] at h3
 exact⟨⟨utf8Tabs_of_readsT u8types u8extra h3 h4,Tryz.laysM146.s1_3 W hS⟩,pow_of_laid h1,err_of synG (by kernel_rfl) h6,err_of rngG (by kernel_rfl) h5⟩
theorem witness_row_shaped {H:Type} {enc:TypeId × Value→H} {C:Checked} {os:Os} {f:FuncId} {fn:Func} {s:OpenSpec} {conds:List PathCond} {apart:Bool} {laid:List (String × DataW Unit)} (modest:Bool) (w0:World) (av:Array Value) (hos:w0.os=os)
  (hsh:(w0.forCall (fun _ _=>0) ⟨#[],av,[]⟩).Shaped C.prog)
  (hok:Input.okWideB C.prog (w0.forCall (fun _ _=>0) ⟨#[],av,[]⟩) f ⟨#[],av,[]⟩=true)
  (hrow:s.preRow enc C.prog fn conds apart laid (w0.forCall (fun _ _=>0) ⟨#[],av,[]⟩).memory av) :
  ∃(w:World) (tape:Tape) (i:Input),w.os=os∧(w.forCall tape i).Shaped C.prog∧i.vars=[]∧Input.okWide C.prog (w.forCall tape i) .any w.heap.size f i ∧
   s.preRow enc C.prog fn conds apart laid (w.forCall tape i).memory i.args∧({ modest:=modest }:Assume).holds C.prog (lone (Frame.enter C.prog f i.args .normal) [] (w.forCall tape i)):=
 ⟨w0,fun _ _=>0,⟨#[],av,[]⟩,hos,hsh,(Input.okWide_of_okWideB (base:=0) hok).1,(Input.okWide_of_okWideB hok).2,hrow,by
  simp only [Assume.holds]
  exact⟨by simp,by simp,fun _=>Modest.zero,by simp,by simp⟩⟩
theorem small_le {H:Type} {l:List (DataW H)} (h:Rows.uptoSmall H l=true):Rows.uptoBulkAll l≤1048576:=of_decide_eq_true h
theorem bulk_nil {H:Type}:Rows.uptoBulkAll ([]:List (DataW H))=0:=by simp [Rows.uptoBulkAll]
abbrev tree_dat {H:Type}:DataW H:=.agg [.lit (.string []),.lit (.int .i64 0),.lit (.string []),.lit (.string []),.lit (.int .i64 0),.lit (.int .i64 0),.lit (.int .i64 0),.lit (.int .i64 0),.lit (.int .i64 0),.lit (.int .i64 0),.nil,.nil]
abbrev treec_dat {H:Type}:DataW H:=tree_dat
abbrev b8_wit:Value:=.int .u8 0
abbrev b8_dat {H:Type}:DataW H:=.lit (.int .u8 0)
theorem open_b8 {H:Type} {enc:TypeId × Value→H} {w:World} {base b0:Nat} {spare:Nat→Bool} {held:Bool} {r:Reach} {v:Value} {d:DataW H} {p:List MemPlace} (hv:Value.okWide Tryz.prog w r b0 5 v) (h:DataW.Trod enc Tryz.prog w base spare held 5 v d p) :
  ∃x:Nat,v=.int .u8 (x:Int)∧x≤255:=by
 obtain⟨n,rfl,_,_,hw⟩:=open_int Tryz.underlying5 hv h
 simp [Lit.wf,IntKind.min,IntKind.max,IntKind.bits,IntKind.signed] at hw
 exact⟨n.toNat,by rw [Int.toNat_of_nonneg (by omega)],by omega⟩
abbrev Tab (w:World):Prop:=TabV w∧TabP w∧TabE w
end Go.Proofs.YtlhakdildbplkaaGreatDoor
