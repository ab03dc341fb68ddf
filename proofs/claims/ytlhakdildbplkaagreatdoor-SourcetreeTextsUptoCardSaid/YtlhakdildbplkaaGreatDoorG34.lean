/- Contracts and plain words for the laws of this chapter,part 34: Pl2. No condition. -/
import Derived.Test.YtlhakdildbplkaaGreatDoorG12
namespace Go.Proofs.YtlhakdildbplkaaGreatDoor
set_option linter.unusedSimpArgs false
set_option linter.unusedVariables false
def okF:Fo→Nat→Prop
 | .nil,_=>True
 | .node h ss ks nx,l=>oneE ⟨h,ss,ks⟩ (l+1)=0∧okF ks (l+1)∧okF nx l
theorem okF_of:∀ {f:Fo} {p:ByteArray} {l:Nat},chkF f p l=none→okF f l
 | .nil,_,_,_=>trivial
 | .node h ss ks nx,p,l,e=>by
  obtain⟨h1,h2,h3⟩:=chkF_none e
  exact⟨h1,okF_of h2,okF_of h3⟩
theorem firstE_of {l:List Int} (h:∀e∈l,e=0):firstE l=0:=by
 induction l with
 | nil=>rfl
 | cons a l ih=>
  rw [firstE,if_neg (by rw [h a (by simp)];decide)]
  exact ih fun e he=>h e (List.mem_cons_of_mem _ he)
theorem oneE_iff {t:Tr} {l:Nat}:oneE t l=0↔kindE t.h l=0∧nameE t.h l=0∧partsE t=0∧targetE t.h=0∧numE t.h=0∧sizeE t l=0∧strE none t.ss=0∧kidsE t.ks.names=0:=by
 constructor
 ·intro h
  have:=firstE_zero h
  exact⟨this _ (by simp),this _ (by simp),this _ (by simp),this _ (by simp),this _ (by simp),this _ (by simp),this _ (by simp),this _ (by simp)⟩
 ·rintro⟨h1,h2,h3,h4,h5,h6,h7,h8⟩
  refine firstE_of fun e he=>?_
  simp only [List.mem_cons,List.not_mem_nil,or_false] at he
  rcases he with rfl | rfl | rfl | rfl | rfl | rfl | rfl | rfl <;> assumption
end Go.Proofs.YtlhakdildbplkaaGreatDoor
