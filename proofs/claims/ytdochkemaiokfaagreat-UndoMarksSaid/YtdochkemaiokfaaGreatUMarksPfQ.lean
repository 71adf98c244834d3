/- The statement UndoMarks: from the walk to the card. No condition. -/
import Derived.Test.YtdochkemaiokfaaGreatQ39
import Derived.Test.YtdochkemaiokfaaGreatQ40
import Derived.Test.YtdochkemaiokfaaGreatLUMarksQ
namespace Go.Proofs.YtdochkemaiokfaaGreat.undoMarks
open Go.ChangeShapes Go.WideShapes Go.ChangeAt Go.RowKit
set_option maxRecDepth 100000 in
theorem contract (H:Type) (enc:TypeId × Value→H) (W:World) (base:Nat) (args:Array Value) (ds gs:List (DataW H)) (before:List MemPlace)
  (hval:∀(j:Nat) t v,Tryz.f9.params[j]? = some t→args[j]? = some v→Value.okWide Tryz.prog W .any base t v)
  (hW:DataW.Whole enc Tryz.prog Tryz.f9.params.toList Rows.undoMarksSpec.vars false W args.toList ds gs before) (hE:Env W) :
  Calls Tryz.prog 9 args W fun e W'=>∃ v,e=.returned v∧Rows.undoMarksSpec.post enc Tryz.prog Tryz.f9 false true false false W args v W':=by
 have hW':=hW
 obtain⟨p,q,hA0,hV,rfl,hfz,hnd⟩:=hW
 have hA:DataW.TrodAll enc Tryz.prog W 0 (fun _=>true) true Tryz.f9.params.toList args.toList ds p:=hA0
 rw[Tryz.params9] at hA hval
 obtain⟨v0,vs0,d0,ds0,p0,q0,hargs,rfl,rfl,h0,r0⟩:=trodAll_cons hA
 obtain⟨rfl,rfl,rfl⟩:=trodAll_nil r0
 obtain rfl:args=#[v0]:=by cases args;simp_all
 obtain⟨x0,hx0,hk0⟩:=open_slO (hval 0 22 v0 (by simp) (by simp)) h0
 refine(marks_of x0 hk0 v0 W hE hx0 (fun W2 g=>awake22 W2 (hE.mono g))).mono fun e W' ⟨he,hg⟩=>?_
 subst he
 exact⟨_,rfl,post_true laidOut rfl (by kernel_rfl) Tryz.underlying4 (by kernel_rfl) hW' rfl hg⟩
theorem laid_met (os:Os):laidMet Tryz.prog Rows.undoMarksRow.laid ((worldLaid os).forCall (fun _ _=>0) ⟨#[],#[.slice none 0 0],[]⟩).memory :=
 laidMet_of_run' 8 (by kernel_rfl) (by kernel_rfl)
theorem reads (os:Os) {H:Type} (enc:TypeId × Value→H):∃ places,DataW.whole enc Tryz.prog ((worldLaid os).forCall (fun _ _=>0) ⟨#[],#[.slice none 0 0],[]⟩).memory Tryz.f9.params.toList Rows.undoMarksSpec.vars false (#[.slice none 0 0]:Array Value).toList 8=some ([.nil],[],places) :=
 ⟨[],by kernel_rfl⟩
set_option maxRecDepth 100000 in
theorem lifted (os:Os) (started:os.Started) (H:Type) (enc:TypeId × Value→H) (F:Stop.Interp) :
  ReturnsInHanded {} Tryz.checked os 9 .any ((OpenSpec.ofChange Rows.undoMarksSpec).preRow enc Tryz.prog Tryz.f9 Rows.undoMarksRow.domain false Rows.undoMarksRow.laid) (((OpenSpec.ofChange Rows.undoMarksSpec).at F).post enc Tryz.prog Tryz.f9 false true false false):=by
 obtain⟨places,hx⟩:=reads os enc
 refine returnsInHanded_of_row (C:=Tryz.checked) (s:=OpenSpec.ofChange Rows.undoMarksSpec) own started (by kernel_rfl) Tryz.func9
  (witness_row_at (enc:=enc) (C:=Tryz.checked) false (worldLaid os) #[.slice none 0 0] rfl (by kernel_rfl) (by kernel_rfl) (by kernel_rfl)
   (OpenSpec.preRow_of_cond 8 hx (by kernel_rfl) (fun k hk=>by cases hk) (by kernel_rfl) (laid_met os))) ?_
 intro W base args ds gs before hval hW _ _ _ hlaid hsh _
 exact contract H enc W base args ds gs before hval hW (env_of hlaid hsh)
theorem its_inPlace:Tryz.pinned.checked.prog.inPlace 9=Rows.undoMarksRow.inPlace:=by kernel_rfl
theorem its_unfollowed:Tryz.pinned.checked.prog.unfollowed 9=Rows.undoMarksRow.unfollowed:=by kernel_rfl
theorem its_recurses:Tryz.pinned.checked.prog.recurses 9=Rows.undoMarksRow.recurses:=by kernel_rfl
theorem its_named:Tryz.pinned.checked.prog.varsNamed 9=Rows.undoMarksRow.named:=by kernel_rfl
theorem closed:joinedFacts Tryz.pinned.checked.prog 9 Tryz.f9 (OpenSpec.ofChange Rows.undoMarksSpec).bare Rows.undoMarksRow=true:=by
 unfold joinedFacts
 rw[its_inPlace,its_unfollowed,its_recurses,its_named]
 kernel_rfl
theorem said:Rows.UndoMarksSaid :=
 OpenClaim.holds_of_cond 9 Tryz.f9 rfl rfl rfl rfl rfl rfl rfl ⟨rfl,rfl,rfl,rfl,rfl⟩ rfl rfl rfl rfl rfl (by kernel_rfl) Tryz.func9 closed
  (of_decide_eq_true (by kernel_rfl)) (by unfold Func.isWrapper;first|(rw[if_pos (by decide +kernel)];kernel_rfl)|(rw[if_neg (by decide +kernel)];exact⟨rfl,rfl⟩))
  (fun os started H enc _ F=>by rw[OpenClaim.pre_eq_preRow];exact lifted os started H enc F)
end Go.Proofs.YtdochkemaiokfaaGreat.undoMarks