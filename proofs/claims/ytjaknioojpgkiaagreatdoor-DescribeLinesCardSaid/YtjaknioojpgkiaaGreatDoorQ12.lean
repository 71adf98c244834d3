/- Lemmas on what the functions of the program and of the library compute: IA. The conditions stand at each. -/
import Derived.Test.YtjaknioojpgkiaaGreatDoorQ11
/- inherit: of together with has, as the exported functions use them. The conditions: the library's own variables hold what they must; the lists are short. -/
namespace Go.Proofs.YtjaknioojpgkiaaGreatDoor
open Go.RowKit

/-- of, with what has then returns. -/
def RetOA (t : Tr) (ls : List ByteArray) (vs : List Val) (w : World) (e : Ending) (w' : World) : Prop :=
  ∃ Ar nr cr Ab nb cb Al nl cl Av nv cv, e = .returned (.tuple #[.agg #[.slice Ar nr cr, .slice Ab nb cb, .slice Al nl cl, .slice Av nv cv], .int .i64 (ofI t ls vs)]) ∧ Grew w w' ∧
    RowKit.Hid (∀ u, ∃ h, (∀ W, Grew w W → Calls Tryz.prog 90 #[.agg #[.slice Ar nr cr, .slice Ab nb cb, .slice Al nl cl, .slice Av nv cv], .int .i64 u] W fun e w' => e = .returned (.int .i64 h) ∧ Grew W w') ∧ ∀ rest, orF (ofI t ls vs :: h :: rest) = orF (ofI t ls vs :: hasI t u :: rest)) ∧
    RowKit.Hid (ofI t ls vs = 0 → SlI w (.slice Ar nr cr) t.roots ∧ SlBr w (.slice Ab nb cb) t.brs ∧ SlS w (.slice Al nl cl) ls ∧ SlV w (.slice Av nv cv) vs)
theorem iOfAsk (t : Tr) (ls : List ByteArray) (vs : List Val) (rv bv lv vv : Value) (w : World) (hE : Env w) (hr : SlI w rv t.roots) (hv : SlBr w bv t.brs) (hf : FewBr t.brs) (hrl : t.roots.length ≤ 1000000) (hl : SlS w lv ls) (hvv : SlV w vv vs) :
    Calls Tryz.prog 83 #[.agg #[rv, bv], lv, vv] w (RetOA t ls vs w) := by
  refine (iOf t ls vs rv bv lv vv w hE hr hv hf hrl hl hvv).mono ?_
  rintro e w' ⟨rfl, g⟩
  obtain ⟨Ar, cr, hr1, -⟩ := hr.open_
  obtain ⟨Ab, cb, hv1, -⟩ := hv.open_
  obtain ⟨Al, cl, hl1, -⟩ := hl.open_
  obtain ⟨Av, cv, hvv1, -⟩ := hvv.open_
  subst hr1 hv1 hl1 hvv1
  by_cases hz : ofI t ls vs = 0
  · refine ⟨Ar, _, cr, Ab, _, cb, Al, _, cl, Av, _, cv, by rw [if_pos hz], g, Lib.hid (fun u => ⟨hasI t u, fun W hW => iHas t.brs u _ _ _ _ W (hv.mono hW), fun _ => rfl⟩), Lib.hid (fun _ => ⟨hr, hv, hl, hvv⟩)⟩
  · refine ⟨none, 0, 0, none, 0, 0, none, 0, 0, none, 0, 0, by rw [if_neg hz], g, Lib.hid (fun u => ⟨7, fun W _ => iHas [] u _ _ _ _ W (SlBr.nil W), fun rest => ?_⟩), Lib.hid (fun h => absurd h hz)⟩
    unfold orF
    rw [if_neg hz, if_neg hz]
theorem askI_all {t : Tr} {ls : List ByteArray} {vs : List Val} {u : Int} {wt : ByteArray} : orF [ofI t ls vs, hasI t u, lanI wt] = askI t ls vs u 1 wt := by
  unfold askI
  have h : numI 1 = 0 := by rw [numI_zero]; decide
  rw [h]
  simp only [orF, if_true]
/-- The slice of the errors that first is asked. -/
theorem err_lit (W : World) (l : List Int) (n : Nat) (hn : l.length = n) (hm : n ≤ 4) : SlI (W.alloc (.cells (l.map fun x => Value.int .i64 x).toArray 33)) (.slice (some ⟨W.heap.size, 0, none⟩) n n) l := by
  subst hn
  have h := Rd.fresh W 33 1 l.length (l.map fun x => Value.int .i64 x) (by simp) (by unfold maxLen; omega)
  have e : l.flatMap oneI = l.map fun x => Value.int .i64 x := by
    clear h hm
    induction l with
    | nil => rfl
    | cons x r ih => rw [List.flatMap_cons, ih]; rfl
  show Rd _ _ _ (l.flatMap oneI)
  rw [e]
  exact h
end Go.Proofs.YtjaknioojpgkiaaGreatDoor
