/- The statement DescribeUnique: from the walk to the card. No condition. -/
import Derived.Test.YtjaknioojpgkiaaGreatDoorQ49
import Derived.Test.YtjaknioojpgkiaaGreatDoorQ50
import Derived.Test.YtjaknioojpgkiaaGreatDoorLDUniqueQ
namespace Go.Proofs.YtjaknioojpgkiaaGreatDoor.describeUnique
open Go.ChangeShapes Go.WideShapes Go.ChangeAt Go.RowKit

set_option maxRecDepth 100000 in
theorem contract (H : Type) (enc : TypeId × Value → H) (W : World) (base : Nat) (args : Array Value) (ds gs : List (DataW H)) (before : List MemPlace)
    (hval : ∀ (j : Nat) t v, Tryz.f9.params[j]? = some t → args[j]? = some v → Value.okWide Tryz.prog W .any base t v)
    (hW : DataW.Whole enc Tryz.prog Tryz.f9.params.toList Rows.describeUniqueSpec.vars false W args.toList ds gs before) (hE : Env W) :
    Calls Tryz.prog 9 args W fun e W' => ∃ v, e = .returned v ∧ Rows.describeUniqueSpec.post enc Tryz.prog Tryz.f9 false true false false W args v W' := by
  have hW' := hW
  obtain ⟨p, q, hA0, hV, rfl, hfz, hnd⟩ := hW
  have hA : DataW.TrodAll enc Tryz.prog W 0 (fun _ => true) true Tryz.f9.params.toList args.toList ds p := hA0
  rw [Tryz.params9] at hA hval
  obtain ⟨v0, vs0, d0, ds0, p0, q0, hargs, rfl, rfl, h0, r0⟩ := trodAll_cons hA
  obtain ⟨v1, vs1, d1, ds1, p1, q1, rfl, rfl, rfl, h1, r1⟩ := trodAll_cons r0
  obtain ⟨v2, vs2, d2, ds2, p2, q2, rfl, rfl, rfl, h2, r2⟩ := trodAll_cons r1
  obtain ⟨v3, vs3, d3, ds3, p3, q3, rfl, rfl, rfl, h3, r3⟩ := trodAll_cons r2
  obtain ⟨rfl, rfl, rfl⟩ := trodAll_nil r3
  obtain rfl : args = #[v0, v1, v2, v3] := by cases args; simp_all
  obtain ⟨rv0, bv0, rfl, ⟨rs0, br0⟩, hx0⟩ := open_tree (hval 0 25 v0 (by simp) (by simp)) h0
  obtain ⟨x1, hx1⟩ := open_slS (hval 1 26 v1 (by simp) (by simp)) h1
  obtain ⟨x2, hx2⟩ := open_slV (hval 2 27 v2 (by simp) (by simp)) h2
  obtain ⟨x3, hx3⟩ := open_slV (hval 3 27 v3 (by simp) (by simp)) h3
  refine (dunique_of ⟨rs0, br0⟩ x1 x2 x3 rv0 bv0 v1 v2 v3 W hE hx0.1 hx0.2 hx1 hx2 hx3 (fun W1 hg => awake29 W1 (hE.mono hg))).mono fun e W' ⟨he, hg⟩ => ?_
  subst he
  exact ⟨_, rfl, post_true laidOut rfl (by kernel_rfl) Tryz.underlying4 (by kernel_rfl) hW' rfl hg⟩

theorem laid_met (os : Os) : laidMet Tryz.prog Rows.describeUniqueRow.laid ((worldLaid os).forCall (fun _ _ => 0) ⟨#[], #[.agg #[.slice none 0 0, .slice none 0 0], .slice none 0 0, .slice none 0 0, .slice none 0 0], []⟩).memory :=
  laidMet_of_run' 8 (by kernel_rfl) (by kernel_rfl)
theorem reads (os : Os) {H : Type} (enc : TypeId × Value → H) : ∃ places, DataW.whole enc Tryz.prog ((worldLaid os).forCall (fun _ _ => 0) ⟨#[], #[.agg #[.slice none 0 0, .slice none 0 0], .slice none 0 0, .slice none 0 0, .slice none 0 0], []⟩).memory Tryz.f9.params.toList Rows.describeUniqueSpec.vars false (#[.agg #[.slice none 0 0, .slice none 0 0], .slice none 0 0, .slice none 0 0, .slice none 0 0] : Array Value).toList 8 = some ([.agg [.nil, .nil], .nil, .nil, .nil], [], places) :=
  ⟨[], by kernel_rfl⟩

set_option maxRecDepth 100000 in
theorem lifted (os : Os) (started : os.Started) (H : Type) (enc : TypeId × Value → H) (F : Stop.Interp) :
    ReturnsInHanded {} Tryz.checked os 9 .any ((OpenSpec.ofChange Rows.describeUniqueSpec).preRow enc Tryz.prog Tryz.f9 Rows.describeUniqueRow.domain false Rows.describeUniqueRow.laid) (((OpenSpec.ofChange Rows.describeUniqueSpec).at F).post enc Tryz.prog Tryz.f9 false true false false) := by
  obtain ⟨places, hx⟩ := reads os enc
  refine returnsInHanded_of_row (C := Tryz.checked) (s := OpenSpec.ofChange Rows.describeUniqueSpec) own started (by kernel_rfl) Tryz.func9
    (witness_row_at (enc := enc) (C := Tryz.checked) false (worldLaid os) #[.agg #[.slice none 0 0, .slice none 0 0], .slice none 0 0, .slice none 0 0, .slice none 0 0] rfl (by kernel_rfl) (by kernel_rfl) (by kernel_rfl)
      (OpenSpec.preRow_of_cond 8 hx (by kernel_rfl) (fun k hk => by cases hk) (by kernel_rfl) (laid_met os))) ?_
  intro W base args ds gs before hval hW _ _ _ hlaid hsh _
  exact contract H enc W base args ds gs before hval hW (env_of hlaid hsh)

theorem its_inPlace : Tryz.pinned.checked.prog.inPlace 9 = Rows.describeUniqueRow.inPlace := by kernel_rfl
theorem its_unfollowed : Tryz.pinned.checked.prog.unfollowed 9 = Rows.describeUniqueRow.unfollowed := by kernel_rfl
theorem its_recurses : Tryz.pinned.checked.prog.recurses 9 = Rows.describeUniqueRow.recurses := by kernel_rfl
theorem its_named : Tryz.pinned.checked.prog.varsNamed 9 = Rows.describeUniqueRow.named := by kernel_rfl
theorem closed : joinedFacts Tryz.pinned.checked.prog 9 Tryz.f9 (OpenSpec.ofChange Rows.describeUniqueSpec).bare Rows.describeUniqueRow = true := by
  unfold joinedFacts
  rw [its_inPlace, its_unfollowed, its_recurses, its_named]
  kernel_rfl
theorem said : Rows.DescribeUniqueSaid :=
  OpenClaim.holds_of_cond 9 Tryz.f9 rfl rfl rfl rfl rfl rfl rfl ⟨rfl, rfl, rfl, rfl, rfl⟩ rfl rfl rfl rfl rfl (by kernel_rfl) Tryz.func9 closed
    (of_decide_eq_true (by kernel_rfl)) (by unfold Func.isWrapper; first | (rw [if_pos (by decide +kernel)]; kernel_rfl) | (rw [if_neg (by decide +kernel)]; exact ⟨rfl, rfl⟩))
    (fun os started H enc _ F => by rw [OpenClaim.pre_eq_preRow]; exact lifted os started H enc F)

theorem plain (f : FuncId) (fn : Func) (hf : Tryz.pinned.checked.prog.funcNamed "archivum/archivumlaw29.DescribeUnique" = some f) (hfn : Tryz.pinned.checked.prog.funcs[f]? = some fn) :
    false = Tryz.pinned.checked.prog.looks [] ∧ ∀ (j : Nat) t, fn.params[j]? = some t → Tryz.pinned.checked.prog.wantsStandIn t = false := by
  obtain rfl : f = 9 := Option.some.inj ((show Tryz.prog.funcNamed "archivum/archivumlaw29.DescribeUnique" = some 9 by kernel_rfl).symm.trans hf) |>.symm
  obtain rfl : fn = Tryz.f9 := (Option.some.inj (Tryz.func9.symm.trans hfn)).symm
  refine ⟨by kernel_rfl, fun j t ht => ?_⟩
  rw [Tryz.params9] at ht
  have hm := Array.mem_of_getElem? ht
  have hf : t = 25 ∨ t = 26 ∨ t = 27 ∨ t = 27 := by simpa using hm
  have hc : t = 25 ∨ t = 26 ∨ t = 27 := by rcases hf with h | h | h | h <;> simp [h]
  rcases hc with rfl | rfl | rfl
  · exact (show Tryz.prog.wantsStandIn 25 = false by kernel_rfl)
  · exact (show Tryz.prog.wantsStandIn 26 = false by kernel_rfl)
  · exact (show Tryz.prog.wantsStandIn 27 = false by kernel_rfl)

/-- The card. -/
theorem card : Rows.DescribeUniqueCardSaid :=
  Claim7.holds_tied_plain_at .later [] _ _ _ _ said (fun _ h => by cases h) (by kernel_rfl) (fun _ h => by cases h) describeUnique_row_tie rfl ⟨rfl, rfl⟩ (by kernel_rfl) rfl plain (by kernel_rfl)
end Go.Proofs.YtjaknioojpgkiaaGreatDoor.describeUnique
