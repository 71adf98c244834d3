/- The statement RearrangeBuilds: from the walk to the card. No condition. -/
import Derived.Test.YtafncfomiolmgaaGreatDoorQ30
import Derived.Test.YtafncfomiolmgaaGreatDoorQ29
import Derived.Test.YtafncfomiolmgaaGreatDoorLBuQ
namespace Go.Proofs.YtafncfomiolmgaaGreatDoor.rearrangeBuilds
open Go.ChangeShapes Go.WideShapes Go.ChangeAt Go.RowKit

set_option maxRecDepth 100000 in
theorem contract (H : Type) (enc : TypeId × Value → H) (W : World) (base : Nat) (args : Array Value) (ds gs : List (DataW H)) (before : List MemPlace)
    (hval : ∀ (j : Nat) t v, Tryz.f10.params[j]? = some t → args[j]? = some v → Value.okWide Tryz.prog W .any base t v)
    (hW : DataW.Whole enc Tryz.prog Tryz.f10.params.toList Rows.rearrangeBuildsSpec.vars false W args.toList ds gs before) (hE : Env W) :
    Calls Tryz.prog 10 args W fun e W' => ∃ v, e = .returned v ∧ Rows.rearrangeBuildsSpec.post enc Tryz.prog Tryz.f10 false true false false W args v W' := by
  have hW' := hW
  obtain ⟨p, q, hA0, hV, rfl, hfz, hnd⟩ := hW
  have hA : DataW.TrodAll enc Tryz.prog W 0 (fun _ => true) true Tryz.f10.params.toList args.toList ds p := hA0
  rw [Tryz.params10] at hA hval
  obtain ⟨v0, vs0, d0, ds0, p0, q0, hargs, rfl, rfl, h0, r0⟩ := trodAll_cons hA
  obtain ⟨rfl, rfl, rfl⟩ := trodAll_nil r0
  obtain rfl : args = #[v0] := by cases args; simp_all
  obtain ⟨rv0, bv0, rfl, ⟨rs0, br0⟩, hx0⟩ := open_tree (hval 0 35 v0 (by simp) (by simp)) h0
  refine (builds_of ⟨rs0, br0⟩ rv0 bv0 W hE hx0.1 hx0.2 (fun W1 hg => awake21 W1 (hE.mono hg))).mono fun e W' ⟨he, hg⟩ => ?_
  subst he
  exact ⟨_, rfl, post_true laidOut rfl (by kernel_rfl) Tryz.underlying4 (by kernel_rfl) hW' rfl hg⟩

theorem laid_met (os : Os) : laidMet Tryz.prog Rows.rearrangeBuildsRow.laid ((worldLaid os).forCall (fun _ _ => 0) ⟨#[], #[.agg #[.slice none 0 0, .slice none 0 0]], []⟩).memory :=
  laidMet_of_run' 8 (by kernel_rfl) (by kernel_rfl)
theorem reads (os : Os) {H : Type} (enc : TypeId × Value → H) : ∃ places, DataW.whole enc Tryz.prog ((worldLaid os).forCall (fun _ _ => 0) ⟨#[], #[.agg #[.slice none 0 0, .slice none 0 0]], []⟩).memory Tryz.f10.params.toList Rows.rearrangeBuildsSpec.vars false (#[.agg #[.slice none 0 0, .slice none 0 0]] : Array Value).toList 8 = some ([.agg [.nil, .nil]], [], places) :=
  ⟨[], by kernel_rfl⟩

set_option maxRecDepth 100000 in
theorem lifted (os : Os) (started : os.Started) (H : Type) (enc : TypeId × Value → H) (F : Stop.Interp) :
    ReturnsInHanded {} Tryz.checked os 10 .any ((OpenSpec.ofChange Rows.rearrangeBuildsSpec).preRow enc Tryz.prog Tryz.f10 Rows.rearrangeBuildsRow.domain false Rows.rearrangeBuildsRow.laid) (((OpenSpec.ofChange Rows.rearrangeBuildsSpec).at F).post enc Tryz.prog Tryz.f10 false true false false) := by
  obtain ⟨places, hx⟩ := reads os enc
  refine returnsInHanded_of_row (C := Tryz.checked) (s := OpenSpec.ofChange Rows.rearrangeBuildsSpec) own started (by kernel_rfl) Tryz.func10
    (witness_row_at (enc := enc) (C := Tryz.checked) false (worldLaid os) #[.agg #[.slice none 0 0, .slice none 0 0]] rfl (by kernel_rfl) (by kernel_rfl) (by kernel_rfl)
      (OpenSpec.preRow_of_cond 8 hx (by kernel_rfl) (fun k hk => by cases hk) (by kernel_rfl) (laid_met os))) ?_
  intro W base args ds gs before hval hW _ _ _ hlaid hsh _
  exact contract H enc W base args ds gs before hval hW (env_of hlaid hsh)

theorem its_inPlace : Tryz.pinned.checked.prog.inPlace 10 = Rows.rearrangeBuildsRow.inPlace := by kernel_rfl
theorem its_unfollowed : Tryz.pinned.checked.prog.unfollowed 10 = Rows.rearrangeBuildsRow.unfollowed := by kernel_rfl
theorem its_recurses : Tryz.pinned.checked.prog.recurses 10 = Rows.rearrangeBuildsRow.recurses := by kernel_rfl
theorem its_named : Tryz.pinned.checked.prog.varsNamed 10 = Rows.rearrangeBuildsRow.named := by kernel_rfl
theorem closed : joinedFacts Tryz.pinned.checked.prog 10 Tryz.f10 (OpenSpec.ofChange Rows.rearrangeBuildsSpec).bare Rows.rearrangeBuildsRow = true := by
  unfold joinedFacts
  rw [its_inPlace, its_unfollowed, its_recurses, its_named]
  kernel_rfl
theorem said : Rows.RearrangeBuildsSaid :=
  OpenClaim.holds_of_cond 10 Tryz.f10 rfl rfl rfl rfl rfl rfl rfl ⟨rfl, rfl, rfl, rfl, rfl⟩ rfl rfl rfl rfl rfl (by kernel_rfl) Tryz.func10 closed
    (of_decide_eq_true (by kernel_rfl)) (by unfold Func.isWrapper; first | (rw [if_pos (by decide +kernel)]; kernel_rfl) | (rw [if_neg (by decide +kernel)]; exact ⟨rfl, rfl⟩))
    (fun os started H enc _ F => by rw [OpenClaim.pre_eq_preRow]; exact lifted os started H enc F)

theorem plain (f : FuncId) (fn : Func) (hf : Tryz.pinned.checked.prog.funcNamed "archivum/archivumlaw21.RearrangeBuilds" = some f) (hfn : Tryz.pinned.checked.prog.funcs[f]? = some fn) :
    false = Tryz.pinned.checked.prog.looks [] ∧ ∀ (j : Nat) t, fn.params[j]? = some t → Tryz.pinned.checked.prog.wantsStandIn t = false := by
  obtain rfl : f = 10 := Option.some.inj ((show Tryz.prog.funcNamed "archivum/archivumlaw21.RearrangeBuilds" = some 10 by kernel_rfl).symm.trans hf) |>.symm
  obtain rfl : fn = Tryz.f10 := (Option.some.inj (Tryz.func10.symm.trans hfn)).symm
  refine ⟨by kernel_rfl, fun j t ht => ?_⟩
  rw [Tryz.params10] at ht
  have hm := Array.mem_of_getElem? ht
  have hc : t = 35 := by simpa using hm
  rcases hc with rfl
  · exact (show Tryz.prog.wantsStandIn 35 = false by kernel_rfl)

/-- The card. -/
theorem card : Rows.RearrangeBuildsCardSaid :=
  Claim7.holds_tied_plain_at .later [] _ _ _ _ said (fun _ h => by cases h) (by kernel_rfl) (fun _ h => by cases h) rearrangeBuilds_row_tie rfl ⟨rfl, rfl⟩ (by kernel_rfl) rfl plain (by kernel_rfl)
end Go.Proofs.YtafncfomiolmgaaGreatDoor.rearrangeBuilds
