/- Lemmas on what the functions of the program and of the library compute: FrameR, OpenR, OpenI, OpenD, PlainIx, PlainDx, ExD. The conditions stand at each. -/
import Derived.Test.YtjaknioojpgkiaaGreatDoorCards
import Derived.Test.YtjaknioojpgkiaaGreatDoorTie
import Derived.Test.YtjaknioojpgkiaaGreatDoorQ1
import Derived.Test.YtjaknioojpgkiaaGreatDoorQ2
import Derived.WalkKit
import Derived.ProofKit
import Derived.OpenShut
import Derived.Carry
import Derived.ChangeMaps5
import Derived.SliceStrings
import Derived.Deep.Slices
import Derived.Deep.DeepHandedRow
import Derived.Lib.LaidTab
import Derived.LaidSub
import Derived.Shelf.Vars
import Derived.Test.YtjaknioojpgkiaaGreatDoorQ10
import Derived.Test.YtjaknioojpgkiaaGreatDoorQ42
import Derived.Test.YtjaknioojpgkiaaGreatDoorQ45
import Derived.Test.YtjaknioojpgkiaaGreatDoorQ11
/- The frame that every statement of this seat needs: what a call that returns true and leaves all older blocks alone gives for the row; the witness's world, in which the listed tables lie; what the library's own variables hold. No condition. -/
namespace Go.Proofs.YtjaknioojpgkiaaGreatDoor
open Go.ChangeShapes Go.WideShapes Go.ChangeAt Go.RowKit

theorem own : ownKnob Tryz.prog.godebug = none := by kernel_rfl
theorem laidOut : laidOutB Tryz.prog = true := by kernel_rfl

/-- Arguments read as before where nothing older has turned. -/
theorem trodAll_stays {H : Type} {enc : TypeId × Value → H} {P : Program} (hl : laidOutB P = true) {W W' : World} (hb : Below W.heap.size W W') : ∀ {ts : List TypeId} {vs : List Value} {ds : List (DataW H)} {ps : List MemPlace},
    (ts.all fun t => P.readableRec t && decide (t < P.types.size)) = true → DataW.TrodAll enc P W 0 (fun _ => true) true ts vs ds ps → (∀ x ∈ ps, x.block < W.heap.size) → DataW.TrodAll enc P W' 0 (fun b => decide (b < W.heap.size)) true ts vs ds ps
  | [], _, _, _, _, h, _ => by
    obtain ⟨rfl, rfl, rfl⟩ := trodAll_nil h
    exact trodAll_mk0
  | t :: ts, _, _, _, hr, h, hlt => by
    obtain ⟨v, vs, d, ds, p, q, rfl, rfl, rfl, h1, h2⟩ := trodAll_cons h
    simp only [List.all_cons, Bool.and_eq_true, decide_eq_true_eq] at hr
    exact trodAll_cons_mk (Below.trod hl hr.1.1 hr.1.2 h1 hb fun x hx => hlt x (List.mem_append_left _ hx)) (trodAll_stays hl hb (by simpa using hr.2) h2 fun x hx => hlt x (List.mem_append_right _ hx))

/-- What the row asks of a call that returned true and left everything older as it lay. -/
theorem post_true {H : Type} {enc : TypeId × Value → H} {P : Program} (hl : laidOutB P = true) {f : Func} {s : ChangeSpec} {W W' : World} {args : Array Value} {ds gs : List (DataW H)} {before : List MemPlace} {tb : TypeId}
    (hv : s.vars = []) (hr : f.resultTypes = #[tb]) (hb : P.underlying tb = some .bool) (hp : (f.params.toList.all fun t => P.readableRec t && decide (t < P.types.size)) = true)
    (hW : DataW.Whole enc P f.params.toList s.vars false W args.toList ds gs before) (hfn : s.fn H ds = { results := [.lit (.bool true)], args := ds }) (hg : Below W.heap.size W W') :
    s.post enc P f false true false false W args (.bool true) W' := by
  have hlt := hW.lt
  have hW' := hW
  obtain ⟨p, q, hA, hV, rfl, _, _⟩ := hW
  have hV' := hV
  rw [hv] at hV'
  obtain ⟨rfl, rfl⟩ := trodVars_none hV'
  simp only [List.append_nil] at hlt hW'
  refine ⟨ds, [], p, [], p, [], hW', ?_, ?_, ?_, hg.frame _, fun h => by cases h⟩
  · rw [hr, List.append_nil, hfn]
    exact trodAll_mk1 (shut_bool hb true)
  · rw [List.append_nil, hfn]
    exact trodAll_stays hl hg hp hA hlt
  · rw [List.append_nil, hfn, hv]
    rfl
/-- The witness's world: the settled one with the tables laid. -/
noncomputable def base0R (os : Os) : World := World.holding Tryz.prog os ⟨#[], #[], []⟩
noncomputable def worldLaid (os : Os) : World :=
  { base0R os with heap := ((((((base0R os).heap.modify 4 fun
      | .cells _ t frozen => .cells #[.int .u8 0, .int .u8 1, .int .u8 28, .int .u8 2, .int .u8 29, .int .u8 14, .int .u8 24, .int .u8 3, .int .u8 30, .int .u8 22, .int .u8 20, .int .u8 15, .int .u8 25, .int .u8 17, .int .u8 4, .int .u8 8, .int .u8 31, .int .u8 27, .int .u8 13, .int .u8 23, .int .u8 21, .int .u8 19, .int .u8 16, .int .u8 7, .int .u8 26, .int .u8 12, .int .u8 18, .int .u8 6, .int .u8 11, .int .u8 5, .int .u8 10, .int .u8 9] t frozen
      | o => o).modify 5 fun
      | .cells _ t frozen => .cells #[.int .u8 0, .int .u8 1, .int .u8 56, .int .u8 2, .int .u8 57, .int .u8 49, .int .u8 28, .int .u8 3, .int .u8 61, .int .u8 58, .int .u8 42, .int .u8 50, .int .u8 38, .int .u8 29, .int .u8 17, .int .u8 4, .int .u8 62, .int .u8 47, .int .u8 59, .int .u8 36, .int .u8 45, .int .u8 43, .int .u8 51, .int .u8 22, .int .u8 53, .int .u8 39, .int .u8 33, .int .u8 30, .int .u8 24, .int .u8 18, .int .u8 12, .int .u8 5, .int .u8 63, .int .u8 55, .int .u8 48, .int .u8 27, .int .u8 60, .int .u8 41, .int .u8 37, .int .u8 16, .int .u8 46, .int .u8 35, .int .u8 44, .int .u8 21, .int .u8 52, .int .u8 32, .int .u8 23, .int .u8 11, .int .u8 54, .int .u8 26, .int .u8 40, .int .u8 15, .int .u8 34, .int .u8 20, .int .u8 31, .int .u8 10, .int .u8 25, .int .u8 14, .int .u8 19, .int .u8 9, .int .u8 13, .int .u8 8, .int .u8 7, .int .u8 6] t frozen
      | o => o).modify 3 fun
      | .cells _ t frozen => .cells #[.int .u64 1, .int .u64 10, .int .u64 100, .int .u64 1000, .int .u64 10000, .int .u64 100000, .int .u64 1000000, .int .u64 10000000, .int .u64 100000000, .int .u64 1000000000, .int .u64 10000000000, .int .u64 100000000000, .int .u64 1000000000000, .int .u64 10000000000000, .int .u64 100000000000000, .int .u64 1000000000000000, .int .u64 10000000000000000, .int .u64 100000000000000000, .int .u64 1000000000000000000, .int .u64 10000000000000000000] t frozen
      | o => o).modify 2 fun
      | .cells _ t frozen => .cells #[.int .u8 128, .int .u8 191, .int .u8 160, .int .u8 191, .int .u8 128, .int .u8 159, .int .u8 144, .int .u8 191, .int .u8 128, .int .u8 143, .int .u8 0, .int .u8 0, .int .u8 0, .int .u8 0, .int .u8 0, .int .u8 0, .int .u8 0, .int .u8 0, .int .u8 0, .int .u8 0, .int .u8 0, .int .u8 0, .int .u8 0, .int .u8 0, .int .u8 0, .int .u8 0, .int .u8 0, .int .u8 0, .int .u8 0, .int .u8 0, .int .u8 0, .int .u8 0] t frozen
      | o => o).modify 1 fun
      | .cells _ t frozen => .cells (Pinned.utf8FirstZ.map fun n : Nat => Value.int .u8 (n : Int)).toArray t frozen
      | o => o) }
def laidAll : List (String × DataW Unit) := [("math/bits.deBruijn32tab", Rows.laid_math_bits_deBruijn32tab), ("math/bits.deBruijn64tab", Rows.laid_math_bits_deBruijn64tab), ("internal/strconv.uint64pow10", Rows.laid_internal_strconv_uint64pow10), ("unicode/utf8.acceptRanges", Rows.laid_unicode_utf8_acceptRanges), ("unicode/utf8.first", Rows.laid_unicode_utf8_first)]
theorem pow_only : (laidAll.filter fun x => x.1 == "internal/strconv.uint64pow10") = [("internal/strconv.uint64pow10", Lib.tabData .u64 Lib.pow10Tab)] := by kernel_rfl
/-- What the library's own variables hold. -/
theorem env_of {W : World} (h1 : laidMetH Tryz.prog laidAll W) (h2 : W.ShapedOpen Tryz.prog) : Env W := by
  refine ⟨cell_of_shapedOpen_int (g := 0) (t := 3) (zero := #[.int .i64 0]) h2 (of_decide_eq_true (by kernel_rfl)) (by kernel_rfl) rfl (by kernel_rfl) (by kernel_rfl) Tryz.underlying3, fun _ _ => ?_⟩
  have h := h1.filter (fun x => x.1 == "internal/strconv.uint64pow10")
  rw [pow_only] at h
  have h3 := (laidMetH_iff.1 h).1
  have h4 : laidMet Tryz.prog [("internal/strconv.uint64pow10", Lib.tabData .u64 Lib.pow10Tab)] W := h3
  exact Lib.tabIs_of_head (g := 3) (t := 254) (e := 181) (n := 20) (by kernel_rfl) (by kernel_rfl) Tryz.underlying254 Tryz.underlying181 (by kernel_rfl) (by kernel_rfl) h4
end Go.Proofs.YtjaknioojpgkiaaGreatDoor

/- What the lists of authorities and relations, the relations and the trees that come in read as. No condition. -/
namespace Go.Proofs.YtjaknioojpgkiaaGreatDoor
open Go.ChangeShapes Go.WideShapes Go.ChangeAt Go.RowKit

theorem spot_none {w : World} {a : Addr} {u : Value} (h : w.cell? a = some u) : a.spot = none := by
  unfold World.cell? at h
  split at h
  · split at h
    · cases h
    · rename_i hs
      cases hz : a.spot with
      | none => rfl
      | some x => rw [hz] at hs; simp at hs
  · cases h
/-- A slice that is led to, whose elements read as things of one kind. -/
theorem open_in {α : Type} {H : Type} {enc : TypeId × Value → H} {P : Program} {W : World} {k n : Nat} {t e : TypeId} {cs : List Value} {x : DataW H × List MemPlace} (f : α → List Value) (Q : α → Prop) (hk : ∀ x, (f x).length = k) (h0 : 0 < k)
    (ht : P.underlying t = some (.slice e)) (hc : P.cellsOf e = k) (hel : ∀ n cs x, DataW.trod enc P W 0 (fun _ => true) true n e cs = some x → ∃ a, cs = f a ∧ Q a)
    (hf : DataW.trod enc P W 0 (fun _ => true) true n t cs = some x) : ∃ v, cs = [v] ∧ ∃ l : List α, Rd W k v (l.flatMap f) ∧ ∀ a ∈ l, Q a := by
  rcases Go.Deep.open_slice ht hf with ⟨hn, -⟩ | ⟨a, len0, cap0, m, n, D, Pl, hn, -, hle, hmx, hm, -, hcell⟩
  · exact ⟨_, hn, [], Rd.nil W k, (fun _ h => by cases h)⟩
  · refine ⟨_, hn, ?_⟩
    simp only [if_true] at hm
    subst hm
    rw [hc] at hcell
    have key : ∀ m, m ≤ len0 → ∃ l : List α, l.length = m ∧ (∀ a ∈ l, Q a) ∧ ∀ i (hi : i < l.length) j, j < k → W.cell? (a.add (i * k + j)) = (f l[i])[j]? := by
      intro m
      induction m with
      | zero => exact fun _ => ⟨[], rfl, (fun _ h => by cases h), fun i hi => absurd hi (Nat.not_lt_zero _)⟩
      | succ m ih =>
        intro hm
        obtain ⟨l, hl, hQ, hr⟩ := ih (by omega)
        obtain ⟨cs', hcs, htr⟩ := hcell m (by omega)
        obtain ⟨x, rfl, hx⟩ := hel _ _ _ htr
        obtain ⟨-, -, hcs⟩ := World.cells?_some hcs
        refine ⟨l ++ [x], by simp [hl], fun b hb => ?_, fun i hi j hj => ?_⟩
        · rcases List.mem_append.1 hb with h | h
          · exact hQ b h
          · rw [List.mem_singleton.1 h]; exact hx
        · by_cases hi' : i < l.length
          · rw [hr i hi' j hj, List.getElem_append_left hi']
          · have : i = m := by simp at hi; omega
            subst this
            have := hcs j hj
            rw [Go.Deep.add_add] at this
            rw [this, List.getElem_append_right (by omega)]
            simp [hl]
    obtain ⟨l, hl, hQ, hr⟩ := key len0 (Nat.le_refl _)
    refine ⟨l, ⟨some a, len0, _, rfl, by rw [flatMap_len f k hk, hl], hle, hmx, fun hpos => ?_⟩, hQ⟩
    have hz := hr 0 (by omega) 0 h0
    have hlt0 : 0 < (f (l[0]'(by omega))).length := by rw [hk]; exact h0
    rw [List.getElem?_eq_getElem hlt0] at hz
    have hsp := spot_none hz
    have ha0 : a.add (0 * k + 0) = a := by simp [Addr.add]
    rw [ha0] at hsp hz
    obtain ⟨b, off, sp⟩ := a
    obtain rfl : sp = none := hsp
    refine ⟨b, off, rfl, World.block_lt_of_cell? W _ hz, fun j u hu => ?_⟩
    have hj : j < len0 * k := by
      have := (List.getElem?_eq_some_iff.1 hu).1
      rwa [flatMap_len f k hk, hl] at this
    have hdiv : j / k < len0 := Nat.div_lt_of_lt_mul (by rw [Nat.mul_comm]; exact hj)
    have hmod : j % k < k := Nat.mod_lt _ h0
    have e : j = j / k * k + j % k := by rw [Nat.mul_comm]; exact (Nat.div_add_mod j k).symm
    have h1 := hr (j / k) (by omega) (j % k) hmod
    rw [add_lit, ← e] at h1
    rw [h1, ← flatMap_get f k hk l (j / k) (j % k) (by omega) hmod, ← e]
    exact hu
section
variable {H : Type} {enc : TypeId × Value → H} {W : World}
set_option maxRecDepth 100000 in
theorem in_int {n : Nat} {cs : List Value} {x : DataW H × List MemPlace} (h : DataW.trod enc Tryz.prog W 0 (fun _ => true) true n 3 cs = some x) : ∃ a : Int, cs = [.int .i64 a] := by
  obtain ⟨a, ha, -⟩ := DataW.trod_int Tryz.underlying3 h
  exact ⟨a, ha⟩
set_option maxRecDepth 100000 in
theorem in_slI {n : Nat} {cs : List Value} {x : DataW H × List MemPlace} (h : DataW.trod enc Tryz.prog W 0 (fun _ => true) true n 22 cs = some x) : ∃ v, cs = [v] ∧ ∃ l, SlI W v l := by
  obtain ⟨v, hv, l, hl, -⟩ := open_in (k := 1) oneI (fun _ => True) (fun _ => rfl) (by omega) Tryz.underlying22 (by kernel_rfl) (fun n cs x hx => by obtain ⟨a, ha⟩ := in_int hx; exact ⟨a, ha, trivial⟩) h
  exact ⟨v, hv, l, hl⟩
theorem choose_list {α β : Type} {R : α → β → Prop} : ∀ l : List α, (∀ a ∈ l, ∃ b, R a b) → ∃ m : List β, l.length = m.length ∧ ∀ i (h : i < l.length) (h' : i < m.length), R l[i] m[i]
  | [], _ => ⟨[], rfl, fun _ h => absurd h (Nat.not_lt_zero _)⟩
  | a :: l, h => by
    obtain ⟨b, hb⟩ := h a (List.mem_cons_self ..)
    obtain ⟨m, hm, hr⟩ := choose_list l (fun x hx => h x (List.mem_cons_of_mem _ hx))
    refine ⟨b :: m, by simp [hm], fun i h1 h2 => ?_⟩
    cases i with
    | zero => exact hb
    | succ i => exact hr i (by simpa using h1) (by simpa using h2)
set_option maxRecDepth 100000 in
theorem in_br {n : Nat} {cs : List Value} {x : DataW H × List MemPlace} (h : DataW.trod enc Tryz.prog W 0 (fun _ => true) true n 56 cs = some x) : ∃ c : BrC, cs = c.cells ∧ ∃ a, BrOk W c a := by
  obtain ⟨xs, m, -, -, hl, hlen, hf⟩ := DataW.trod_struct Tryz.underlying56 h
  have hl4 : cs.length = 6 := hl.trans (by kernel_rfl)
  match xs, hlen with
  | [y0, y1], _ =>
    have h0 := hf 0 _ rfl
    have h1 := hf 1 _ rfl
    match cs, hl4 with
    | [c0, c1, c2, c3, c4, c5], _ =>
      have k0 : Tryz.prog.cellsOf 54 = 5 := by kernel_rfl
      have k4 : Tryz.prog.cellsOf 22 = 1 := by kernel_rfl
      simp only [List.getElem_toArray, List.getElem_cons_zero, List.getElem_cons_succ, k0, k4, List.getElem?_cons_zero, List.getElem?_cons_succ, List.drop_zero, List.drop_succ_cons, List.take_succ_cons, List.take_zero] at h0 h1
      obtain ⟨us, m2, -, -, hl2, hlen2, hg⟩ := DataW.trod_struct Tryz.underlying54 h0
      match us, hlen2 with
      | [z0, z1, z2, z3, z4], _ =>
        have g0 := hg 0 _ rfl
        have g1 := hg 1 _ rfl
        have g2 := hg 2 _ rfl
        have g3 := hg 3 _ rfl
        have g4 := hg 4 _ rfl
        have k1 : Tryz.prog.cellsOf 3 = 1 := by kernel_rfl
        have k2 : Tryz.prog.cellsOf 9 = 1 := by kernel_rfl
        simp only [List.getElem_toArray, List.getElem_cons_zero, List.getElem_cons_succ, k1, k2, List.getElem?_cons_zero, List.getElem?_cons_succ, List.drop_zero, List.drop_succ_cons, List.take_succ_cons, List.take_zero] at g0 g1 g2 g3 g4
        obtain ⟨a, ha⟩ := in_int g0
        obtain ⟨b, hb⟩ := in_int g1
        obtain ⟨c, hc⟩ := in_int g2
        obtain ⟨d, hd, -⟩ := DataW.trod_string Tryz.underlying9 g3
        obtain ⟨e, he, -⟩ := DataW.trod_string Tryz.underlying9 g4
        obtain ⟨kv, hx, ks, hks⟩ := in_slI h1
        simp only [List.cons.injEq, and_true] at ha hb hc hd he hx
        subst ha hb hc hd he hx
        exact ⟨⟨a, b, c, d, e, c5⟩, rfl, ⟨a, b, c, d, e, ks⟩, rfl, hks⟩
set_option maxRecDepth 100000 in
theorem in_slBr {n : Nat} {cs : List Value} {x : DataW H × List MemPlace} (h : DataW.trod enc Tryz.prog W 0 (fun _ => true) true n 23 cs = some x) : ∃ v, cs = [v] ∧ ∃ l, SlBr W v l := by
  obtain ⟨v, hv, l, hl, hQ⟩ := open_in (k := 6) BrC.cells (fun c => ∃ a, BrOk W c a) (fun _ => rfl) (by omega) Tryz.underlying23 (by kernel_rfl) (fun n cs x hx => in_br hx) h
  obtain ⟨m, hm, hr⟩ := choose_list l hQ
  exact ⟨v, hv, m, l, hl, hm, hr⟩
set_option maxRecDepth 100000 in
theorem open_tree {base : Nat} {v : Value} {d : DataW H} {ps : List MemPlace} (hval : Value.okWide Tryz.prog W .any base 25 v) (h : DataW.Trod enc Tryz.prog W 0 (fun _ => true) true 25 v d ps) : ∃ rv bv, v = .agg #[rv, bv] ∧ ∃ t, TrOk W rv bv t := by
  obtain ⟨cs, rfl, -⟩ := okWide_struct Tryz.underlying25 hval
  obtain ⟨fuel, hf⟩ := h
  obtain ⟨xs, m, -, -, hl, hlen, hf⟩ := DataW.trod_struct Tryz.underlying25 hf
  simp only [Value.cells] at hl hf
  obtain ⟨cs⟩ := cs
  have hl4 : cs.length = 2 := hl.trans (by kernel_rfl)
  match xs, hlen with
  | [y0, y1], _ =>
    have h0 := hf 0 _ rfl
    have h1 := hf 1 _ rfl
    match cs, hl4 with
    | [c0, c1], _ =>
      have k1 : Tryz.prog.cellsOf 22 = 1 := by kernel_rfl
      have k2 : Tryz.prog.cellsOf 23 = 1 := by kernel_rfl
      simp only [List.getElem_toArray, List.getElem_cons_zero, List.getElem_cons_succ, k1, k2, List.getElem?_cons_zero, List.getElem?_cons_succ, List.drop_zero, List.drop_succ_cons, List.take_succ_cons, List.take_zero] at h0 h1
      obtain ⟨rv, hrv, rs, hrs⟩ := in_slI h0
      obtain ⟨bv, hbv, bs, hbs⟩ := in_slBr h1
      simp only [List.cons.injEq, and_true] at hrv hbv
      subst hrv hbv
      exact ⟨c0, c1, rfl, ⟨rs, bs⟩, hrs, hbs⟩
end
end Go.Proofs.YtjaknioojpgkiaaGreatDoor

/- What the texts, values and trees that come in read as. No condition. -/
namespace Go.Proofs.YtjaknioojpgkiaaGreatDoor
open Go.ChangeShapes Go.WideShapes Go.ChangeAt Go.RowKit

set_option maxRecDepth 100000 in
theorem open_slS {H : Type} {enc : TypeId × Value → H} {W : World} {base : Nat} {v : Value} {d : DataW H} {ps : List MemPlace} (hval : Value.okWide Tryz.prog W .any base 26 v)
    (h : DataW.Trod enc Tryz.prog W 0 (fun _ => true) true 26 v d ps) : ∃ l, SlS W v l := by
  obtain ⟨a0, len0, cap0, rfl⟩ := okWide_slice Tryz.underlying26 hval
  obtain ⟨fuel, hf⟩ := h
  rcases open_strings Tryz.underlying26 Tryz.underlying9 (by kernel_rfl) hf with ⟨h0, -⟩ | ⟨a, len, cap, ss, h0, -, hle, hmx, hss, -, hcell, -⟩
  · simp only [Value.cells] at h0
    simp at h0
    obtain ⟨rfl, rfl, rfl⟩ := h0
    exact ⟨[], Rd.nil W 1⟩
  · simp only [Value.cells] at h0
    simp at h0
    obtain ⟨rfl, rfl, rfl⟩ := h0
    simp only [if_true] at hss
    refine ⟨ss.take len0, some a, len0, cap0, rfl, ?_, hle, hmx, fun hpos => ?_⟩
    · rw [flatMap_len oneS 1 (fun _ => rfl), List.length_take, hss]
      omega
    · have hz := hcell 0 (by omega)
      have hsp := spot_none hz
      have ha0 : a.add 0 = a := by simp [Addr.add]
      rw [ha0] at hsp
      obtain ⟨b, off, sp⟩ := a
      obtain rfl : sp = none := hsp
      refine ⟨b, off, rfl, ?_, fun j u hu => ?_⟩
      · rw [ha0] at hz
        exact World.block_lt_of_cell? W _ hz
      · have hm : (ss.take len0).flatMap oneS = (ss.take len0).map Value.string := by
          induction ss.take len0 with
          | nil => rfl
          | cons x r ih => simp [List.flatMap_cons, oneS, ih]
        rw [hm, List.getElem?_map, List.getElem?_take] at hu
        by_cases hj : j < len0
        · rw [if_pos hj] at hu
          have hjs : j < ss.length := by omega
          rw [List.getElem?_eq_getElem hjs] at hu
          have hc := hcell j hjs
          rw [add_lit] at hc
          rw [hc]
          simp only [Option.map_some, Option.some.injEq] at hu
          rw [← hu, List.getD_eq_getElem?_getD, List.getElem?_eq_getElem hjs]
          rfl
        · rw [if_neg hj] at hu
          cases hu
/-- A slice that comes in, whose elements read as things of one kind. -/
theorem open_rows {α : Type} {H : Type} {enc : TypeId × Value → H} {P : Program} {W : World} {base k : Nat} {t e : TypeId} {v : Value} {d : DataW H} {ps : List MemPlace} (f : α → List Value) (hk : ∀ x, (f x).length = k) (h0 : 0 < k)
    (ht : P.underlying t = some (.slice e)) (hc : P.cellsOf e = k) (hel : ∀ n cs x, DataW.trod enc P W 0 (fun _ => true) true n e cs = some x → ∃ a, cs = f a)
    (hval : Value.okWide P W .any base t v) (h : DataW.Trod enc P W 0 (fun _ => true) true t v d ps) : ∃ l : List α, Rd W k v (l.flatMap f) := by
  obtain ⟨a0, len0, cap0, rfl⟩ := okWide_slice ht hval
  obtain ⟨fuel, hf⟩ := h
  rcases Go.Deep.open_slice ht hf with ⟨hn, -⟩ | ⟨a, len, cap, m, n, D, Pl, hn, -, hle, hmx, hm, -, hcell⟩
  · simp only [Value.cells] at hn
    simp at hn
    obtain ⟨rfl, rfl, rfl⟩ := hn
    exact ⟨[], Rd.nil W k⟩
  · simp only [Value.cells] at hn
    simp at hn
    obtain ⟨rfl, rfl, rfl⟩ := hn
    simp only [if_true] at hm
    subst hm
    rw [hc] at hcell
    have key : ∀ m, m ≤ len0 → ∃ l : List α, l.length = m ∧ ∀ i (hi : i < l.length) j, j < k → W.cell? (a.add (i * k + j)) = (f l[i])[j]? := by
      intro m
      induction m with
      | zero => exact fun _ => ⟨[], rfl, fun i hi => absurd hi (Nat.not_lt_zero _)⟩
      | succ m ih =>
        intro hm
        obtain ⟨l, hl, hr⟩ := ih (by omega)
        obtain ⟨cs', hcs, htr⟩ := hcell m (by omega)
        obtain ⟨x, rfl⟩ := hel _ _ _ htr
        obtain ⟨-, -, hcs⟩ := World.cells?_some hcs
        refine ⟨l ++ [x], by simp [hl], fun i hi j hj => ?_⟩
        by_cases hi' : i < l.length
        · rw [hr i hi' j hj, List.getElem_append_left hi']
        · have : i = m := by simp at hi; omega
          subst this
          have := hcs j hj
          rw [Go.Deep.add_add] at this
          rw [this, List.getElem_append_right (by omega)]
          simp [hl]
    obtain ⟨l, hl, hr⟩ := key len0 (Nat.le_refl _)
    refine ⟨l, some a, len0, _, rfl, by rw [flatMap_len f k hk, hl], hle, hmx, fun hpos => ?_⟩
    have hz := hr 0 (by omega) 0 h0
    have hlt0 : 0 < (f (l[0]'(by omega))).length := by rw [hk]; exact h0
    rw [List.getElem?_eq_getElem hlt0] at hz
    have hsp := spot_none hz
    have ha0 : a.add (0 * k + 0) = a := by simp [Addr.add]
    rw [ha0] at hsp hz
    obtain ⟨b, off, sp⟩ := a
    obtain rfl : sp = none := hsp
    refine ⟨b, off, rfl, World.block_lt_of_cell? W _ hz, fun j u hu => ?_⟩
    have hj : j < len0 * k := by
      have := (List.getElem?_eq_some_iff.1 hu).1
      rwa [flatMap_len f k hk, hl] at this
    have hdiv : j / k < len0 := Nat.div_lt_of_lt_mul (by rw [Nat.mul_comm]; exact hj)
    have hmod : j % k < k := Nat.mod_lt _ h0
    have e : j = j / k * k + j % k := by rw [Nat.mul_comm]; exact (Nat.div_add_mod j k).symm
    have h1 := hr (j / k) (by omega) (j % k) hmod
    rw [add_lit, ← e] at h1
    rw [h1, ← flatMap_get f k hk l (j / k) (j % k) (by omega) hmod, ← e]
    exact hu

set_option maxRecDepth 100000 in
theorem open_slV {H : Type} {enc : TypeId × Value → H} {W : World} {base : Nat} {v : Value} {d : DataW H} {ps : List MemPlace} (hval : Value.okWide Tryz.prog W .any base 27 v)
    (h : DataW.Trod enc Tryz.prog W 0 (fun _ => true) true 27 v d ps) : ∃ l, SlV W v l := by
  refine open_rows Val.cells (fun _ => rfl) (by omega) Tryz.underlying27 (by kernel_rfl) (fun n cs x hx => ?_) hval h
  obtain ⟨xs, m, -, -, hl, hlen, hf⟩ := DataW.trod_struct Tryz.underlying29 hx
  have hl4 : cs.length = 4 := hl.trans (by kernel_rfl)
  match xs, hlen with
  | [y0, y1, y2, y3], _ =>
    have h0 := hf 0 _ rfl
    have h1 := hf 1 _ rfl
    have h2 := hf 2 _ rfl
    have h3 := hf 3 _ rfl
    match cs, hl4 with
    | [c0, c1, c2, c3], _ =>
      have k1 : Tryz.prog.cellsOf 3 = 1 := by kernel_rfl
      have k2 : Tryz.prog.cellsOf 9 = 1 := by kernel_rfl
      simp only [List.getElem_toArray, List.getElem_cons_zero, List.getElem_cons_succ, k1, k2, List.getElem?_cons_zero, List.getElem?_cons_succ, List.drop_zero, List.drop_succ_cons, List.take_succ_cons, List.take_zero] at h0 h1 h2 h3
      obtain ⟨a, ha, -⟩ := DataW.trod_int Tryz.underlying3 h0
      obtain ⟨b, hb, -⟩ := DataW.trod_int Tryz.underlying3 h1
      obtain ⟨c, hc, -⟩ := DataW.trod_string Tryz.underlying9 h2
      obtain ⟨d, hd, -⟩ := DataW.trod_string Tryz.underlying9 h3
      simp only [List.cons.injEq, and_true] at ha hb hc hd
      subst ha hb hc hd
      exact ⟨⟨a, b, c, d⟩, rfl⟩
end Go.Proofs.YtjaknioojpgkiaaGreatDoor

/- What a value that comes in reads as. No condition. -/
namespace Go.Proofs.YtjaknioojpgkiaaGreatDoor
open Go.ChangeShapes Go.WideShapes Go.ChangeAt Go.RowKit

set_option maxRecDepth 100000 in
theorem open_val {H : Type} {enc : TypeId × Value → H} {W : World} {base : Nat} {v : Value} {d : DataW H} {ps : List MemPlace} (hval : Value.okWide Tryz.prog W .any base 29 v)
    (h : DataW.Trod enc Tryz.prog W 0 (fun _ => true) true 29 v d ps) : ∃ a b c e, v = .agg #[.int .i64 a, .int .i64 b, .string c, .string e] := by
  obtain ⟨cs, rfl, -⟩ := okWide_struct Tryz.underlying29 hval
  obtain ⟨fuel, hf⟩ := h
  obtain ⟨xs, m, -, -, hl, hlen, hf⟩ := DataW.trod_struct Tryz.underlying29 hf
  simp only [Value.cells] at hl hf
  obtain ⟨cs⟩ := cs
  have hl4 : cs.length = 4 := hl.trans (by kernel_rfl)
  match xs, hlen with
  | [y0, y1, y2, y3], _ =>
    have h0 := hf 0 _ rfl
    have h1 := hf 1 _ rfl
    have h2 := hf 2 _ rfl
    have h3 := hf 3 _ rfl
    match cs, hl4 with
    | [c0, c1, c2, c3], _ =>
      have k1 : Tryz.prog.cellsOf 3 = 1 := by kernel_rfl
      have k2 : Tryz.prog.cellsOf 9 = 1 := by kernel_rfl
      simp only [List.getElem_toArray, List.getElem_cons_zero, List.getElem_cons_succ, k1, k2, List.getElem?_cons_zero, List.getElem?_cons_succ, List.drop_zero, List.drop_succ_cons, List.take_succ_cons, List.take_zero] at h0 h1 h2 h3
      obtain ⟨a, ha, -⟩ := DataW.trod_int Tryz.underlying3 h0
      obtain ⟨b, hb, -⟩ := DataW.trod_int Tryz.underlying3 h1
      obtain ⟨c, hc, -⟩ := DataW.trod_string Tryz.underlying9 h2
      obtain ⟨d, hd, -⟩ := DataW.trod_string Tryz.underlying9 h3
      simp only [List.cons.injEq, and_true] at ha hb hc hd
      subst ha hb hc hd
      exact ⟨a, b, c, d, rfl⟩
end Go.Proofs.YtjaknioojpgkiaaGreatDoor

/- The example of inheritance, plainly. No condition. -/
namespace Go.Proofs.YtjaknioojpgkiaaGreatDoor
open Go.RowKit

def iB : List Br := [⟨1, 0, 1, ⟨#[84, 111, 119, 110]⟩, ⟨#[]⟩, [2, 5]⟩, ⟨2, 1, 2, ⟨#[65, 99, 116, 115]⟩, ⟨#[]⟩, [9]⟩, ⟨5, 1, 2, ⟨#[80, 108, 97, 110, 115]⟩, ⟨#[]⟩, []⟩, ⟨9, 2, 3, ⟨#[77, 105, 108, 108]⟩, ⟨#[]⟩, []⟩]
def iT : Tr := ⟨[1], iB⟩
def sDe : ByteArray := ⟨#[100, 101]⟩
def sEn : ByteArray := ⟨#[101, 110]⟩
def sFr : ByteArray := ⟨#[102, 114]⟩
def iL : List ByteArray := [⟨#[101, 110]⟩, ⟨#[100, 101]⟩]
def iV0 : Val := ⟨1, 4, ⟨#[100, 101]⟩, ⟨#[111, 102, 102, 101, 110]⟩⟩
def iV1 : Val := ⟨1, 4, ⟨#[101, 110]⟩, ⟨#[111, 112, 101, 110]⟩⟩
def iV2 : Val := ⟨2, 4, ⟨#[101, 110]⟩, ⟨#[99, 108, 111, 115, 101, 100]⟩⟩
def iV3 : Val := ⟨9, 4, ⟨#[101, 110]⟩, ⟨#[99, 108, 111, 115, 101, 100]⟩⟩
def iVs : List Val := [iV0, iV1, iV2]
def iVa : List Val := [iV0, iV1, iV2, iV3]
theorem sort25i : sortI [2, 5] = [2, 5] := by
  unfold sortI
  exact List.mergeSort_of_pairwise (by decide)
theorem iBAl0 : BrAlone iB 0 (by decide) := ⟨by decide +kernel, by decide +kernel, fun h => absurd h (by omega), by decide +kernel, fun h => absurd h (by decide +kernel)⟩
theorem iBAl1 : BrAlone iB 1 (by decide) := ⟨by decide +kernel, by decide +kernel, fun _ => by decide +kernel, by decide +kernel, fun h => absurd h (by decide +kernel)⟩
theorem iBAl2 : BrAlone iB 2 (by decide) := ⟨by decide +kernel, by decide +kernel, fun _ => by decide +kernel, by decide +kernel, fun h => absurd h (by decide +kernel)⟩
theorem iBAl3 : BrAlone iB 3 (by decide) := ⟨by decide +kernel, by decide +kernel, fun _ => by decide +kernel, by decide +kernel, fun h => absurd h (by decide +kernel)⟩
theorem iTRight : RightT iT := by
  refine ⟨by decide, fun i h => ?_, fun i h => ?_, fun i h => ?_, by simp [sortI, kidsOf, iB, iT], fun i h => ?_⟩
  · have : i = 0 ∨ i = 1 ∨ i = 2 ∨ i = 3 := by
      have h4 : i < 4 := h
      omega
    rcases this with rfl | rfl | rfl | rfl
    · exact iBAl0
    · exact iBAl1
    · exact iBAl2
    · exact iBAl3
  · have : i = 0 ∨ i = 1 ∨ i = 2 ∨ i = 3 := by
      have h4 : i < 4 := h
      omega
    rcases this with rfl | rfl | rfl | rfl <;> simp [BrPlaced, iB, iT, brFind, fitsF, within]
  · have : i = 0 ∨ i = 1 ∨ i = 2 ∨ i = 3 := by
      have h4 : i < 4 := h
      omega
    rcases this with rfl | rfl | rfl | rfl <;> first | decide +kernel | (simp [sortI, kidsOf, iB, iT]; done) | (rw [show (iT.brs[0]'(by decide)).kids = [2, 5] from rfl, sort25i]; rfl)
  · have : i = 0 ∨ i = 1 ∨ i = 2 ∨ i = 3 := by
      have h4 : i < 4 := h
      omega
    rcases this with rfl | rfl | rfl | rfl
    · exact ⟨1, (by decide +kernel : deep iB 4 (iB[0]'(by decide)) = some 1), by omega⟩
    · exact ⟨2, (by decide +kernel : deep iB 4 (iB[1]'(by decide)) = some 2), by omega⟩
    · exact ⟨2, (by decide +kernel : deep iB 4 (iB[2]'(by decide)) = some 2), by omega⟩
    · exact ⟨3, (by decide +kernel : deep iB 4 (iB[3]'(by decide)) = some 3), by omega⟩
theorem iLok : langsF iL = 0 := by decide +kernel
theorem good_i (v : Val) (h1 : 1 ≤ v.unit) (h2 : v.unit ≤ 1073741824) (h3 : isEl v.elem = true) (h4 : (iL.any fun y => v.lang.data.toList == y.data.toList) = true) (h5 : isTextF v.text.data.toList = true) : goodV iL v := by
  refine ⟨h1, h2, h3, ?_, h5⟩
  unfold inL
  simp only [toList_dataE]
  exact h4
theorem iV0g : goodV iL iV0 := good_i _ (by decide) (by decide) (by decide +kernel) (by decide +kernel) (by decide +kernel)
theorem iV1g : goodV iL iV1 := good_i _ (by decide) (by decide) (by decide +kernel) (by decide +kernel) (by decide +kernel)
theorem iV2g : goodV iL iV2 := good_i _ (by decide) (by decide) (by decide +kernel) (by decide +kernel) (by decide +kernel)
theorem iV3g : goodV iL iV3 := good_i _ (by decide) (by decide) (by decide +kernel) (by decide +kernel) (by decide +kernel)
theorem iV01 : ltV iV0 iV1 := .inr ⟨rfl, .inr ⟨rfl, show Lib.compareBytes _ _ = -1 by decide +kernel⟩⟩
theorem iVsRight : RightV iL iVs := by
  refine ⟨iLok, by decide, fun v hv => ?_, ?_⟩
  · simp only [iVs, List.mem_cons, List.not_mem_nil, or_false] at hv
    rcases hv with rfl | rfl | rfl
    · exact iV0g
    · exact iV1g
    · exact iV2g
  · unfold iVs
    refine List.Pairwise.cons (fun v hv => ?_) (List.Pairwise.cons (fun v hv => ?_) (List.pairwise_singleton _ _))
    · simp only [List.mem_cons, List.not_mem_nil, or_false] at hv
      rcases hv with rfl | rfl
      · exact iV01
      · exact .inl (by decide)
    · simp only [List.mem_cons, List.not_mem_nil, or_false] at hv
      subst hv
      exact .inl (by decide)
theorem iVaRight : RightV iL iVa := by
  refine ⟨iLok, by decide, fun v hv => ?_, ?_⟩
  · simp only [iVa, List.mem_cons, List.not_mem_nil, or_false] at hv
    rcases hv with rfl | rfl | rfl | rfl
    · exact iV0g
    · exact iV1g
    · exact iV2g
    · exact iV3g
  · unfold iVa
    refine List.Pairwise.cons (fun v hv => ?_) (List.Pairwise.cons (fun v hv => ?_) (List.Pairwise.cons (fun v hv => ?_) (List.pairwise_singleton _ _)))
    · simp only [List.mem_cons, List.not_mem_nil, or_false] at hv
      rcases hv with rfl | rfl | rfl
      · exact iV01
      · exact .inl (by decide)
      · exact .inl (by decide)
    · simp only [List.mem_cons, List.not_mem_nil, or_false] at hv
      rcases hv with rfl | rfl
      · exact .inl (by decide)
      · exact .inl (by decide)
    · simp only [List.mem_cons, List.not_mem_nil, or_false] at hv
      subst hv
      exact .inl (by decide)
/-- The same as found and effective, with the bytes of texts compared. -/
def getD (vs : List Val) (u n : Int) (lang : ByteArray) : Option ByteArray := (vs.find? fun x => x.unit == u && (x.elem == n && (x.lang.data.toList == lang.data.toList))).map (·.text)
theorem get_data : getF = getD := by
  funext vs u n lang
  unfold getF getD getP
  simp only [toList_dataE]
def alongD (vs : List Val) (inh : Bool) (n : Int) (lang : ByteArray) : List Int → Option Val
  | [] => none
  | x :: r => match (getD vs x n lang).map fun s => (⟨x, n, lang, s⟩ : Val) with
    | some v => some v
    | none => if inh then alongD vs inh n lang r else none
theorem along_data (vs : List Val) (inh : Bool) (n : Int) (lang : ByteArray) : ∀ w, alongF vs inh n lang w = alongD vs inh n lang w
  | [] => rfl
  | x :: r => by
    unfold alongF alongD ownV
    rw [get_data, along_data vs inh n lang r]
    cases getD vs x n lang <;> rfl
def foundD (l : List Br) (vs : List Val) (u n : Int) (lang : ByteArray) : Option Val := alongD vs (kindOf n).inh n lang (wayL l u)
theorem found_data : foundF = foundD := by
  funext l vs u n lang
  exact along_data _ _ _ _ _
def effD (l : List Br) (ls : List ByteArray) (vs : List Val) (u n : Int) (wt : ByteArray) : Option Val := (front (fun x => x.data.toList == wt.data.toList) ls).findSome? fun lg => foundD l vs u n lg
theorem eff_data {l : List Br} {ls : List ByteArray} {vs : List Val} {u n : Int} {wt : ByteArray} (h : langsF ls = 0) (hw : isLangF wt.data.toList = true) : effF l ls vs u n wt = effD l ls vs u n wt := by
  unfold effF effD orderF
  rw [if_neg (by rw [h]; decide), if_pos hw, found_data]
  unfold ordL
  simp only [toList_dataE]
theorem ask_i {vs : List Val} {u n : Int} {lang : ByteArray} (hv : RightV iL vs) (hu : (brFind iB u).isSome = true) (hn : isEl n = true) (hl : isLangF lang.data.toList = true) : askI iT iL vs u n lang = 0 :=
  askI_zero.2 ⟨⟨iTRight, hv⟩, Option.isSome_iff_exists.1 hu, hn, hl⟩
theorem iFew : FewBr iT.brs := ⟨by decide, fun i h => by
  have : i = 0 ∨ i = 1 ∨ i = 2 ∨ i = 3 := by
    have h4 : i < 4 := h
    omega
  rcases this with rfl | rfl | rfl | rfl <;> simp [iT, iB]⟩
end Go.Proofs.YtjaknioojpgkiaaGreatDoor

/- The example of the descriptions, plainly. No condition. -/
namespace Go.Proofs.YtjaknioojpgkiaaGreatDoor
open Go.RowKit

def dV : Val := ⟨1, 4, ⟨#[101, 110]⟩, ⟨#[99, 108, 111, 115, 101, 100]⟩⟩
def iA : List Val := [iV0, dV]
theorem dOf : ofI iT iL iVa = 0 := ofI_zero.2 ⟨iTRight, iVaRight⟩
theorem dVal : valE iT iL iVa dV = 0 := by
  unfold valE inL
  simp only [toList_dataE]
  rfl
theorem dPut : putV dV iVa = [iV0, dV, iV2, iV3] := by rfl
theorem dF1 : setR iT iL iVa dV = (iA, 0) := by
  have h3 : normF iT [iV0, dV, iV2, iV3] = iA := by
    unfold normF redB
    simp only [found_data, toList_dataE]
    rfl
  unfold setR
  rw [if_neg (fun k => k dOf), if_neg (fun k => k dVal), dPut, if_neg (by decide), h3]
theorem iARight : RightV iL iA := by
  have h := set_is (t := iT) (ls := iL) (vs := iVa) (v := dV) (by rw [dF1])
  have h2 := h.2.2.2.2
  rw [dF1] at h2
  have h3 : iA = normF iT (putV dV iVa) := h2
  rw [h3]
  exact normF_right h.2.2.1
theorem dF2 : normR iT iL iVa = (iVs, 0) := by
  have h3 : normF iT iVa = iVs := by
    unfold normF redB
    simp only [found_data, toList_dataE]
    rfl
  unfold normR
  rw [if_pos dOf, h3]
theorem dF3 : (clearR iT iL iVa ⟨2, 4, sEn, ⟨#[]⟩⟩).1.length = 3 ∧ (clearR iT iL iVa ⟨2, 4, sEn, ⟨#[]⟩⟩).2 = 0 := by
  have h1 : dropV ⟨2, 4, sEn, ⟨#[]⟩⟩ iVa = [iV0, iV1, iV3] := by rfl
  have h3 : (normF iT [iV0, iV1, iV3]).length = 3 := by
    unfold normF redB
    simp only [found_data, toList_dataE]
    rfl
  unfold clearR
  rw [if_neg (fun k => k dOf), h1, if_neg (by decide)]
  exact ⟨h3, rfl⟩
theorem dAll {vs : List Val} (hv : RightV iL vs) {u : Int} (hu : (brFind iB u).isSome = true) {wt : ByteArray} (hw : isLangF wt.data.toList = true) : allR iT iL vs u wt = (((List.range 8).map fun (i : Nat) => (i : Int) + 1).filterMap fun n => effD iB iL vs u n wt, 0) := by
  unfold allR
  rw [if_pos (ask_i hv hu (by decide +kernel) hw)]
  unfold allF
  simp only [eff_data iLok hw]
  rfl
theorem itoa1 : Lib.itoa 1 = [49] := by simp [Lib.itoa, Lib.decDigits]
theorem itoa2 : Lib.itoa 2 = [50] := by simp [Lib.itoa, Lib.decDigits]
theorem dF4 : printR iT iL iVa 9 sDe = (⟨#[99, 111, 110, 100, 105, 116, 105, 111, 110, 115, 32, 102, 114, 111, 109, 32, 49, 58, 32, 111, 102, 102, 101, 110, 10]⟩, 0) := by
  have h : allR iT iL iVa 9 sDe = ([iV0], 0) := by
    rw [dAll iVaRight (by decide +kernel) (by decide +kernel)]
    rfl
  have hl : linesB [iV0] 9 sDe = [99, 111, 110, 100, 105, 116, 105, 111, 110, 115, 32, 102, 114, 111, 109, 32, 49, 58, 32, 111, 102, 102, 101, 110, 10] := by
    unfold linesB lineB
    simp only [toList_dataE]
    rw [List.flatMap_cons, List.flatMap_nil, show iV0.unit = 1 from rfl, itoa1]
    rfl
  unfold printR
  rw [h]
  dsimp only
  rw [hl]
  rfl
theorem dF5 : printR iT iL iVs 9 sFr = (⟨#[99, 111, 110, 100, 105, 116, 105, 111, 110, 115, 32, 40, 101, 110, 41, 32, 102, 114, 111, 109, 32, 50, 58, 32, 99, 108, 111, 115, 101, 100, 10]⟩, 0) := by
  have h : allR iT iL iVs 9 sFr = ([iV2], 0) := by
    rw [dAll iVsRight (by decide +kernel) (by decide +kernel)]
    rfl
  have hl : linesB [iV2] 9 sFr = [99, 111, 110, 100, 105, 116, 105, 111, 110, 115, 32, 40, 101, 110, 41, 32, 102, 114, 111, 109, 32, 50, 58, 32, 99, 108, 111, 115, 101, 100, 10] := by
    unfold linesB lineB
    simp only [toList_dataE]
    rw [List.flatMap_cons, List.flatMap_nil, show iV2.unit = 2 from rfl, itoa2]
    rfl
  unfold printR
  rw [h]
  dsimp only
  rw [hl]
  rfl
theorem dIds : idsF iT iT = [1, 2, 5, 9] := by
  refine asc_ext (ids_ord _ _) (by unfold Asc; simp) fun x => ?_
  rw [ids_mem]
  simp [iT, iB]
  omega
theorem dF6 : difR iT iT iL iVa iA sEn = ([1, 5], 0) := by
  have hA : ofI iT iL iA = 0 := ofI_zero.2 ⟨iTRight, iARight⟩
  have hl : lanI sEn = 0 := lanI_zero.2 (by decide +kernel)
  have hd : ∀ id, (brFind iB id).isSome = true → difB iT iT iL iVa iA sEn id = !decide (((((List.range 8).map fun (i : Nat) => (i : Int) + 1).filterMap fun n => effD iB iL iVa id n sEn).map (atU id)) = ((((List.range 8).map fun (i : Nat) => (i : Int) + 1).filterMap fun n => effD iB iL iA id n sEn).map (atU id))) := fun id h => by
    unfold difB
    rw [dAll iVaRight h (by decide +kernel), dAll iARight h (by decide +kernel)]
    simp
  unfold difR
  rw [dOf, hA, hl, if_pos (show orF [0, 0, 0] = 0 from rfl), dIds]
  have h1 : difB iT iT iL iVa iA sEn 1 = true := by rw [hd 1 (by decide +kernel)]; decide +kernel
  have h2 : difB iT iT iL iVa iA sEn 2 = false := by rw [hd 2 (by decide +kernel)]; decide +kernel
  have h5 : difB iT iT iL iVa iA sEn 5 = true := by rw [hd 5 (by decide +kernel)]; decide +kernel
  have h9 : difB iT iT iL iVa iA sEn 9 = false := by rw [hd 9 (by decide +kernel)]; decide +kernel
  simp [h1, h2, h5, h9]
end Go.Proofs.YtjaknioojpgkiaaGreatDoor

/- The example of the chapter of layer 29, walked. No condition. -/
namespace Go.Proofs.YtjaknioojpgkiaaGreatDoor
open Go.RowKit

/-- A call that returns a tree, languages and values. -/
def RetExD (w : World) (e : Ending) (w' : World) : Prop := ∃ rv bv lv vv, e = .returned (.tuple #[.agg #[rv, bv], lv, vv]) ∧ SlI w' rv iT.roots ∧ SlBr w' bv iT.brs ∧ SlS w' lv iL ∧ SlV w' vv iVa ∧ Grew w w'
theorem size_allocY (w : World) (o : Obj) : (w.alloc o).heap.size = w.heap.size + 1 := by simp
/-- The branches of the example as they are laid. -/
theorem iBrD (w : World) (t1 t2 t3 : TypeId) : SlBr (((w.alloc (.cells #[.int .i64 2, .int .i64 5] t1)).alloc (.cells #[.int .i64 9] t2)).alloc (.cells #[.int .i64 1, .int .i64 0, .int .i64 1, .string ⟨#[84, 111, 119, 110]⟩, .string ⟨#[]⟩, .slice (some ⟨w.heap.size, 0, none⟩) 2 2, .int .i64 2, .int .i64 1, .int .i64 2, .string ⟨#[65, 99, 116, 115]⟩, .string ⟨#[]⟩, .slice (some ⟨w.heap.size + 1, 0, none⟩) 1 1, .int .i64 5, .int .i64 1, .int .i64 2, .string ⟨#[80, 108, 97, 110, 115]⟩, .string ⟨#[]⟩, .slice none 0 0, .int .i64 9, .int .i64 2, .int .i64 3, .string ⟨#[77, 105, 108, 108]⟩, .string ⟨#[]⟩, .slice none 0 0] t3)) (.slice (some ⟨w.heap.size + 1 + 1, 0, none⟩) 4 4) iB := by
  refine ⟨[⟨1, 0, 1, ⟨#[84, 111, 119, 110]⟩, ⟨#[]⟩, .slice (some ⟨w.heap.size, 0, none⟩) 2 2⟩, ⟨2, 1, 2, ⟨#[65, 99, 116, 115]⟩, ⟨#[]⟩, .slice (some ⟨w.heap.size + 1, 0, none⟩) 1 1⟩, ⟨5, 1, 2, ⟨#[80, 108, 97, 110, 115]⟩, ⟨#[]⟩, .slice none 0 0⟩, ⟨9, 2, 3, ⟨#[77, 105, 108, 108]⟩, ⟨#[]⟩, .slice none 0 0⟩], ?_, rfl, fun i h h' => ?_⟩
  · have := Rd.fresh ((w.alloc (.cells #[.int .i64 2, .int .i64 5] t1)).alloc (.cells #[.int .i64 9] t2)) t3 6 4 [.int .i64 1, .int .i64 0, .int .i64 1, .string ⟨#[84, 111, 119, 110]⟩, .string ⟨#[]⟩, .slice (some ⟨w.heap.size, 0, none⟩) 2 2, .int .i64 2, .int .i64 1, .int .i64 2, .string ⟨#[65, 99, 116, 115]⟩, .string ⟨#[]⟩, .slice (some ⟨w.heap.size + 1, 0, none⟩) 1 1, .int .i64 5, .int .i64 1, .int .i64 2, .string ⟨#[80, 108, 97, 110, 115]⟩, .string ⟨#[]⟩, .slice none 0 0, .int .i64 9, .int .i64 2, .int .i64 3, .string ⟨#[77, 105, 108, 108]⟩, .string ⟨#[]⟩, .slice none 0 0] rfl (by decide)
    rw [size_allocY, size_allocY] at this
    simpa [SlB, BrC.cells] using this
  · have hi : i = 0 ∨ i = 1 ∨ i = 2 ∨ i = 3 := by
      have h4 : i < 4 := h
      omega
    rcases hi with rfl | rfl | rfl | rfl
    · refine ⟨rfl, ?_⟩
      have := Rd.fresh w t1 1 2 [.int .i64 2, .int .i64 5] rfl (by decide)
      exact Rd.mono this (((Grew.refl _).alloc _).alloc _)
    · refine ⟨rfl, ?_⟩
      have := Rd.fresh (w.alloc (.cells #[.int .i64 2, .int .i64 5] t1)) t2 1 1 [.int .i64 9] rfl (by decide)
      rw [size_allocY] at this
      exact Rd.mono this ((Grew.refl _).alloc _)
    · exact ⟨rfl, SlI.nil _⟩
    · exact ⟨rfl, SlI.nil _⟩
set_option maxHeartbeats 8000000 in
set_option maxRecDepth 100000 in
theorem exInD (w : World) : Calls Tryz.prog 48 #[] w (RetExD w) := by
  have hb := iBrD ((w.alloc (.cells #[.slice (some ⟨w.heap.size + 1, 0, none⟩) 1 1, .slice (some ⟨w.heap.size + 1 + 1 + 1 + 1, 0, none⟩) 4 4] 25)).alloc (.cells #[.int .i64 1] 3)) 3 3 56
  rw [size_allocY, size_allocY] at hb
  have hr := Rd.fresh (w.alloc (.cells #[.slice (some ⟨w.heap.size + 1, 0, none⟩) 1 1, .slice (some ⟨w.heap.size + 1 + 1 + 1 + 1, 0, none⟩) 4 4] 25)) 3 1 1 [.int .i64 1] rfl (by decide)
  rw [size_allocY] at hr
  have hl := Rd.fresh ((((((w.alloc (.cells #[.slice (some ⟨w.heap.size + 1, 0, none⟩) 1 1, .slice (some ⟨w.heap.size + 1 + 1 + 1 + 1, 0, none⟩) 4 4] 25)).alloc (.cells #[.int .i64 1] 3)).alloc (.cells #[.int .i64 2, .int .i64 5] 3)).alloc (.cells #[.int .i64 9] 3)).alloc (.cells #[.int .i64 1, .int .i64 0, .int .i64 1, .string ⟨#[84, 111, 119, 110]⟩, .string ⟨#[]⟩, .slice (some ⟨w.heap.size + 1 + 1, 0, none⟩) 2 2, .int .i64 2, .int .i64 1, .int .i64 2, .string ⟨#[65, 99, 116, 115]⟩, .string ⟨#[]⟩, .slice (some ⟨w.heap.size + 1 + 1 + 1, 0, none⟩) 1 1, .int .i64 5, .int .i64 1, .int .i64 2, .string ⟨#[80, 108, 97, 110, 115]⟩, .string ⟨#[]⟩, .slice none 0 0, .int .i64 9, .int .i64 2, .int .i64 3, .string ⟨#[77, 105, 108, 108]⟩, .string ⟨#[]⟩, .slice none 0 0] 56)).alloc (.cells #[.slice (some ⟨w.heap.size + 1, 0, none⟩) 1 1, .slice (some ⟨w.heap.size + 1 + 1 + 1 + 1, 0, none⟩) 4 4] 25)) 9 1 2 [.string ⟨#[101, 110]⟩, .string ⟨#[100, 101]⟩] rfl (by decide)
  have hv := Rd.fresh (((((((w.alloc (.cells #[.slice (some ⟨w.heap.size + 1, 0, none⟩) 1 1, .slice (some ⟨w.heap.size + 1 + 1 + 1 + 1, 0, none⟩) 4 4] 25)).alloc (.cells #[.int .i64 1] 3)).alloc (.cells #[.int .i64 2, .int .i64 5] 3)).alloc (.cells #[.int .i64 9] 3)).alloc (.cells #[.int .i64 1, .int .i64 0, .int .i64 1, .string ⟨#[84, 111, 119, 110]⟩, .string ⟨#[]⟩, .slice (some ⟨w.heap.size + 1 + 1, 0, none⟩) 2 2, .int .i64 2, .int .i64 1, .int .i64 2, .string ⟨#[65, 99, 116, 115]⟩, .string ⟨#[]⟩, .slice (some ⟨w.heap.size + 1 + 1 + 1, 0, none⟩) 1 1, .int .i64 5, .int .i64 1, .int .i64 2, .string ⟨#[80, 108, 97, 110, 115]⟩, .string ⟨#[]⟩, .slice none 0 0, .int .i64 9, .int .i64 2, .int .i64 3, .string ⟨#[77, 105, 108, 108]⟩, .string ⟨#[]⟩, .slice none 0 0] 56)).alloc (.cells #[.slice (some ⟨w.heap.size + 1, 0, none⟩) 1 1, .slice (some ⟨w.heap.size + 1 + 1 + 1 + 1, 0, none⟩) 4 4] 25)).alloc (.cells #[.string ⟨#[101, 110]⟩, .string ⟨#[100, 101]⟩] 9)) 29 4 4 [.int .i64 1, .int .i64 4, .string ⟨#[100, 101]⟩, .string ⟨#[111, 102, 102, 101, 110]⟩, .int .i64 1, .int .i64 4, .string ⟨#[101, 110]⟩, .string ⟨#[111, 112, 101, 110]⟩, .int .i64 2, .int .i64 4, .string ⟨#[101, 110]⟩, .string ⟨#[99, 108, 111, 115, 101, 100]⟩, .int .i64 9, .int .i64 4, .string ⟨#[101, 110]⟩, .string ⟨#[99, 108, 111, 115, 101, 100]⟩] rfl (by decide)
  simp only [size_allocY] at hl hv
  have hx : ((((((((w.alloc (.cells #[.slice (some ⟨w.heap.size + 1, 0, none⟩) 1 1, .slice (some ⟨w.heap.size + 1 + 1 + 1 + 1, 0, none⟩) 4 4] 25)).alloc (.cells #[.int .i64 1] 3)).alloc (.cells #[.int .i64 2, .int .i64 5] 3)).alloc (.cells #[.int .i64 9] 3)).alloc (.cells #[.int .i64 1, .int .i64 0, .int .i64 1, .string ⟨#[84, 111, 119, 110]⟩, .string ⟨#[]⟩, .slice (some ⟨w.heap.size + 1 + 1, 0, none⟩) 2 2, .int .i64 2, .int .i64 1, .int .i64 2, .string ⟨#[65, 99, 116, 115]⟩, .string ⟨#[]⟩, .slice (some ⟨w.heap.size + 1 + 1 + 1, 0, none⟩) 1 1, .int .i64 5, .int .i64 1, .int .i64 2, .string ⟨#[80, 108, 97, 110, 115]⟩, .string ⟨#[]⟩, .slice none 0 0, .int .i64 9, .int .i64 2, .int .i64 3, .string ⟨#[77, 105, 108, 108]⟩, .string ⟨#[]⟩, .slice none 0 0] 56)).alloc (.cells #[.slice (some ⟨w.heap.size + 1, 0, none⟩) 1 1, .slice (some ⟨w.heap.size + 1 + 1 + 1 + 1, 0, none⟩) 4 4] 25)).alloc (.cells #[.string ⟨#[101, 110]⟩, .string ⟨#[100, 101]⟩] 9)).alloc (.cells #[.int .i64 1, .int .i64 4, .string ⟨#[100, 101]⟩, .string ⟨#[111, 102, 102, 101, 110]⟩, .int .i64 1, .int .i64 4, .string ⟨#[101, 110]⟩, .string ⟨#[111, 112, 101, 110]⟩, .int .i64 2, .int .i64 4, .string ⟨#[101, 110]⟩, .string ⟨#[99, 108, 111, 115, 101, 100]⟩, .int .i64 9, .int .i64 4, .string ⟨#[101, 110]⟩, .string ⟨#[99, 108, 111, 115, 101, 100]⟩] 29)).heap[w.heap.size]? = some (.cells #[.slice (some ⟨w.heap.size + 1, 0, none⟩) 1 1, .slice (some ⟨w.heap.size + 1 + 1 + 1 + 1, 0, none⟩) 4 4] 25 (0, 0)) := heap_keepI (show Grew (w.alloc (.cells #[.slice (some ⟨w.heap.size + 1, 0, none⟩) 1 1, .slice (some ⟨w.heap.size + 1 + 1 + 1 + 1, 0, none⟩) 4 4] 25)) ((((((((w.alloc (.cells #[.slice (some ⟨w.heap.size + 1, 0, none⟩) 1 1, .slice (some ⟨w.heap.size + 1 + 1 + 1 + 1, 0, none⟩) 4 4] 25)).alloc (.cells #[.int .i64 1] 3)).alloc (.cells #[.int .i64 2, .int .i64 5] 3)).alloc (.cells #[.int .i64 9] 3)).alloc (.cells #[.int .i64 1, .int .i64 0, .int .i64 1, .string ⟨#[84, 111, 119, 110]⟩, .string ⟨#[]⟩, .slice (some ⟨w.heap.size + 1 + 1, 0, none⟩) 2 2, .int .i64 2, .int .i64 1, .int .i64 2, .string ⟨#[65, 99, 116, 115]⟩, .string ⟨#[]⟩, .slice (some ⟨w.heap.size + 1 + 1 + 1, 0, none⟩) 1 1, .int .i64 5, .int .i64 1, .int .i64 2, .string ⟨#[80, 108, 97, 110, 115]⟩, .string ⟨#[]⟩, .slice none 0 0, .int .i64 9, .int .i64 2, .int .i64 3, .string ⟨#[77, 105, 108, 108]⟩, .string ⟨#[]⟩, .slice none 0 0] 56)).alloc (.cells #[.slice (some ⟨w.heap.size + 1, 0, none⟩) 1 1, .slice (some ⟨w.heap.size + 1 + 1 + 1 + 1, 0, none⟩) 4 4] 25)).alloc (.cells #[.string ⟨#[101, 110]⟩, .string ⟨#[100, 101]⟩] 9)).alloc (.cells #[.int .i64 1, .int .i64 4, .string ⟨#[100, 101]⟩, .string ⟨#[111, 102, 102, 101, 110]⟩, .int .i64 1, .int .i64 4, .string ⟨#[101, 110]⟩, .string ⟨#[111, 112, 101, 110]⟩, .int .i64 2, .int .i64 4, .string ⟨#[101, 110]⟩, .string ⟨#[99, 108, 111, 115, 101, 100]⟩, .int .i64 9, .int .i64 4, .string ⟨#[101, 110]⟩, .string ⟨#[99, 108, 111, 115, 101, 100]⟩] 29)) from (((((((Grew.refl _).alloc _).alloc _).alloc _).alloc _).alloc _).alloc _).alloc _) (heap_newI w _)
  have hG : Grew w ((((((((w.alloc (.cells #[.slice (some ⟨w.heap.size + 1, 0, none⟩) 1 1, .slice (some ⟨w.heap.size + 1 + 1 + 1 + 1, 0, none⟩) 4 4] 25)).alloc (.cells #[.int .i64 1] 3)).alloc (.cells #[.int .i64 2, .int .i64 5] 3)).alloc (.cells #[.int .i64 9] 3)).alloc (.cells #[.int .i64 1, .int .i64 0, .int .i64 1, .string ⟨#[84, 111, 119, 110]⟩, .string ⟨#[]⟩, .slice (some ⟨w.heap.size + 1 + 1, 0, none⟩) 2 2, .int .i64 2, .int .i64 1, .int .i64 2, .string ⟨#[65, 99, 116, 115]⟩, .string ⟨#[]⟩, .slice (some ⟨w.heap.size + 1 + 1 + 1, 0, none⟩) 1 1, .int .i64 5, .int .i64 1, .int .i64 2, .string ⟨#[80, 108, 97, 110, 115]⟩, .string ⟨#[]⟩, .slice none 0 0, .int .i64 9, .int .i64 2, .int .i64 3, .string ⟨#[77, 105, 108, 108]⟩, .string ⟨#[]⟩, .slice none 0 0] 56)).alloc (.cells #[.slice (some ⟨w.heap.size + 1, 0, none⟩) 1 1, .slice (some ⟨w.heap.size + 1 + 1 + 1 + 1, 0, none⟩) 4 4] 25)).alloc (.cells #[.string ⟨#[101, 110]⟩, .string ⟨#[100, 101]⟩] 9)).alloc (.cells #[.int .i64 1, .int .i64 4, .string ⟨#[100, 101]⟩, .string ⟨#[111, 102, 102, 101, 110]⟩, .int .i64 1, .int .i64 4, .string ⟨#[101, 110]⟩, .string ⟨#[111, 112, 101, 110]⟩, .int .i64 2, .int .i64 4, .string ⟨#[101, 110]⟩, .string ⟨#[99, 108, 111, 115, 101, 100]⟩, .int .i64 9, .int .i64 4, .string ⟨#[101, 110]⟩, .string ⟨#[99, 108, 111, 115, 101, 100]⟩] 29)) := (((((((Grew.refl w).alloc _).alloc _).alloc _).alloc _).alloc _).alloc _).alloc _ |>.alloc _
  have hT : TrOk ((((((((w.alloc (.cells #[.slice (some ⟨w.heap.size + 1, 0, none⟩) 1 1, .slice (some ⟨w.heap.size + 1 + 1 + 1 + 1, 0, none⟩) 4 4] 25)).alloc (.cells #[.int .i64 1] 3)).alloc (.cells #[.int .i64 2, .int .i64 5] 3)).alloc (.cells #[.int .i64 9] 3)).alloc (.cells #[.int .i64 1, .int .i64 0, .int .i64 1, .string ⟨#[84, 111, 119, 110]⟩, .string ⟨#[]⟩, .slice (some ⟨w.heap.size + 1 + 1, 0, none⟩) 2 2, .int .i64 2, .int .i64 1, .int .i64 2, .string ⟨#[65, 99, 116, 115]⟩, .string ⟨#[]⟩, .slice (some ⟨w.heap.size + 1 + 1 + 1, 0, none⟩) 1 1, .int .i64 5, .int .i64 1, .int .i64 2, .string ⟨#[80, 108, 97, 110, 115]⟩, .string ⟨#[]⟩, .slice none 0 0, .int .i64 9, .int .i64 2, .int .i64 3, .string ⟨#[77, 105, 108, 108]⟩, .string ⟨#[]⟩, .slice none 0 0] 56)).alloc (.cells #[.slice (some ⟨w.heap.size + 1, 0, none⟩) 1 1, .slice (some ⟨w.heap.size + 1 + 1 + 1 + 1, 0, none⟩) 4 4] 25)).alloc (.cells #[.string ⟨#[101, 110]⟩, .string ⟨#[100, 101]⟩] 9)).alloc (.cells #[.int .i64 1, .int .i64 4, .string ⟨#[100, 101]⟩, .string ⟨#[111, 102, 102, 101, 110]⟩, .int .i64 1, .int .i64 4, .string ⟨#[101, 110]⟩, .string ⟨#[111, 112, 101, 110]⟩, .int .i64 2, .int .i64 4, .string ⟨#[101, 110]⟩, .string ⟨#[99, 108, 111, 115, 101, 100]⟩, .int .i64 9, .int .i64 4, .string ⟨#[101, 110]⟩, .string ⟨#[99, 108, 111, 115, 101, 100]⟩] 29)) (.slice (some ⟨w.heap.size + 1, 0, none⟩) 1 1) (.slice (some ⟨w.heap.size + 1 + 1 + 1 + 1, 0, none⟩) 4 4) iT := ⟨Rd.mono hr (((((((Grew.refl _).alloc _).alloc _).alloc _).alloc _).alloc _).alloc _), SlBr.mono hb ((((Grew.refl _).alloc _).alloc _).alloc _)⟩
  obtain ⟨p0, p1⟩ := two_cells hx
  have HT := Lib.hid hT
  have HL := Lib.hid hl
  have HV := Lib.hid hv
  have HG := Lib.hid hG
  clear hb hr hl hv hG hT hx
  go_enter Tryz.func48, Tryz.ntmps48
  go_wp2_with fail
  refine bodyPost_ret (v := .tuple #[.agg #[.slice (some ⟨w.heap.size + 1, 0, none⟩) 1 1, .slice (some ⟨w.heap.size + 1 + 1 + 1 + 1, 0, none⟩) 4 4], .slice (some ⟨w.heap.size + 1 + 1 + 1 + 1 + 1 + 1, 0, none⟩) 2 2, .slice (some ⟨w.heap.size + 1 + 1 + 1 + 1 + 1 + 1 + 1, 0, none⟩) 4 4]) (by simp [results, Tryz.results48, go_sem, p0, p1]) rfl ?_
  exact ⟨_, _, _, _, rfl, HT.out.1, HT.out.2, Rd.mono HL.out ((Grew.refl _).alloc _), HV.out, HG.out⟩
end Go.Proofs.YtjaknioojpgkiaaGreatDoor
