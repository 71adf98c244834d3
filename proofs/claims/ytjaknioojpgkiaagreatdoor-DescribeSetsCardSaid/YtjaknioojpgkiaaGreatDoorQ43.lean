/- Lemmas on what the functions of the program and of the library compute: OpenD. The conditions stand at each. -/
import Derived.Test.YtjaknioojpgkiaaGreatDoorQ37
/- What a value that comes in reads as. No condition. -/
namespace Go.Proofs.YtjaknioojpgkiaaGreatDoor
open Go.ChangeShapes Go.WideShapes Go.ChangeAt Go.RowKit

set_option maxRecDepth 100000 in
theorem open_val {H : Type} {enc : TypeId × Value → H} {W : World} {base : Nat} {v : Value} {d : DataW H} {ps : List MemPlace} (hval : Value.okWide Tryz.prog W .any base 29 v)
    (h : DataW.Trod enc Tryz.prog W 0 (fun _ => true) true 29 v d ps) : ∃ a b c e, v = .agg #[.int .i64 a, .int .i64 b, .string c, .string e] := by
  obtain ⟨cs, rfl, -⟩ := okWide_struct Tryz.underlying29 hval
  obtain ⟨fuel, hf⟩ := h
  obtain ⟨xs, m, -, -, hl, hlen, hf⟩ := DataW.trod_struct Tryz.underlying29 hf
  simp only [Value.cells] at hl hf
  obtain ⟨cs⟩ := cs
  have hl4 : cs.length = 4 := hl.trans (by kernel_rfl)
  match xs, hlen with
  | [y0, y1, y2, y3], _ =>
    have h0 := hf 0 _ rfl
    have h1 := hf 1 _ rfl
    have h2 := hf 2 _ rfl
    have h3 := hf 3 _ rfl
    match cs, hl4 with
    | [c0, c1, c2, c3], _ =>
      have k1 : Tryz.prog.cellsOf 3 = 1 := by kernel_rfl
      have k2 : Tryz.prog.cellsOf 9 = 1 := by kernel_rfl
      simp only [List.getElem_toArray, List.getElem_cons_zero, List.getElem_cons_succ, k1, k2, List.getElem?_cons_zero, List.getElem?_cons_succ, List.drop_zero, List.drop_succ_cons, List.take_succ_cons, List.take_zero] at h0 h1 h2 h3
      obtain ⟨a, ha, -⟩ := DataW.trod_int Tryz.underlying3 h0
      obtain ⟨b, hb, -⟩ := DataW.trod_int Tryz.underlying3 h1
      obtain ⟨c, hc, -⟩ := DataW.trod_string Tryz.underlying9 h2
      obtain ⟨d, hd, -⟩ := DataW.trod_string Tryz.underlying9 h3
      simp only [List.cons.injEq, and_true] at ha hb hc hd
      subst ha hb hc hd
      exact ⟨a, b, c, d, rfl⟩
end Go.Proofs.YtjaknioojpgkiaaGreatDoor
