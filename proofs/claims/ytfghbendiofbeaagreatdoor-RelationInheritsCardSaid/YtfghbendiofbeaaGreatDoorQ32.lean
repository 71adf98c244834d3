/- Lemmas on what the functions of the program and of the library compute: F3, FrameR, OpenR. The conditions stand at each. -/
import Derived.Test.YtfghbendiofbeaaGreatDoorQ25
import Derived.Test.YtfghbendiofbeaaGreatDoorQ12
import Derived.Test.YtfghbendiofbeaaGreatDoorCards
import Derived.Test.YtfghbendiofbeaaGreatDoorTie
import Derived.Test.YtfghbendiofbeaaGreatDoorQ1
import Derived.Test.YtfghbendiofbeaaGreatDoorQ4
import Derived.WalkKit
import Derived.ProofKit
import Derived.OpenShut
import Derived.Carry
import Derived.ChangeMaps5
import Derived.SliceStrings
import Derived.Deep.Slices
import Derived.Deep.DeepHandedRow
import Derived.Lib.LaidTab
import Derived.LaidSub
import Derived.Shelf.Vars
/- The bound on sizes of trees (the verifier's Few), walked: where it says yes, the lists and the marks are short. No condition. -/
namespace Go.Proofs.YtfghbendiofbeaaGreatDoor
open Go.RowKit

def FewTM (rs : List Int) (br : List Br) : Prop := rs.length ≤ 20 ∧ br.length ≤ 257 ∧ ∀ i (h : i < br.length), br[i].kids.length ≤ 20 ∧ br[i].mark.size ≤ 100
theorem FewTM.br {rs : List Int} {br : List Br} (h : FewTM rs br) : FewBr br := ⟨by have := h.2.1; omega, fun i hi => by have := (h.2.2 i hi).1; omega⟩
theorem FewTM.marks {rs : List Int} {br : List Br} (h : FewTM rs br) : ∀ i (h : i < br.length), br[i].mark.size ≤ 9223372036854775807 := fun i hi => by have := (h.2.2 i hi).2; omega
theorem FewTM.rs {rs : List Int} {br : List Br} (h : FewTM rs br) : rs.length ≤ 1000000 := by have := h.1; omega
set_option maxHeartbeats 4000000 in
theorem few19_m (rs : List Int) (br : List Br) (rv bv : Value) (w : World) (hr : SlI w rv rs) (hb : SlBr w bv br) : Calls Tryz.prog 29 #[.agg #[rv, bv]] w (YesIf (FewTM rs br) w) := by
  have HD := Lib.hid (show FewTM rs br ↔ rs.length ≤ 20 ∧ br.length ≤ 257 ∧ ∀ i (h : i < br.length), br[i].kids.length ≤ 20 ∧ br[i].mark.size ≤ 100 from Iff.rfl)
  generalize FewTM rs br = PP at HD ⊢
  obtain ⟨Ar, cr, rfl, hlr, hcr, -⟩ := hr.open_
  obtain ⟨Ab, cb, rfl, hlb, hcb, hcell0⟩ := hb.open_
  unfold maxLen at hcr hcb
  have HR := Lib.hid hcell0
  clear hr hb hcell0
  by_cases h0 : ((20 < br.length ∧ br.length ≠ 257) ∨ 20 < rs.length)
  · cases a1 : decide ((20 : Int) < (br.length : Int)) <;> cases a2 : ((br.length : Int) != 257) <;> cases a3 : decide ((20 : Int) < (rs.length : Int))
    all_goals first | (exfalso; simp at a1 a2 a3; omega) | skip
    all_goals clear h0
    all_goals
      go_enter Tryz.func29, Tryz.ntmps29
      go_wp2
      go_ret
      exact YesIf.no ((Grew.refl w).alloc _)
  · have HS := Lib.hid (show rs.length ≤ 20 ∧ br.length ≤ 257 by omega)
    cases a1 : decide ((20 : Int) < (br.length : Int)) <;> cases a2 : ((br.length : Int) != 257) <;> cases a3 : decide ((20 : Int) < (rs.length : Int))
    all_goals first | (exfalso; simp at a1 a2 a3; omega) | skip
    all_goals clear h0
    all_goals
      go_enter Tryz.func29, Tryz.ntmps29
      go_wp2
      go_loop [3] (fun i => ∃ k : Nat, k ≤ br.length ∧ i = .int .i64 k ∧ Aside (∀ i (h : i < br.length), i < k → br[i].kids.length ≤ 20 ∧ br[i].mark.size ≤ 100)) (fun i => br.length - (intOf i).toNat)
      case atStart => exact ⟨0, by omega, rfl, (show Aside _ from fun i h h2 => by omega)⟩
      case round =>
        obtain ⟨k, hk, rfl, M⟩ := hrel
        by_cases hlt : k < br.length
        · have hltz : (k : Int) < (br.length : Int) := by omega
          have h0z : (0 : Int) ≤ (k : Int) := by omega
          obtain ⟨b, off, rfl, hb, hcell⟩ := HR.out (by omega)
          obtain ⟨kv, hkv, hcl⟩ := hcell k hlt
          obtain ⟨c0, c1, c2, c3, c4, c5⟩ := hcl _ ((Grew.refl w).alloc (.cells #[.slice Ar rs.length cr, .slice (some ⟨b, off, none⟩) br.length cb] 51))
          have HY : RowKit.Hid (br[k].kids.length ≤ 20 ∧ br[k].mark.size ≤ 100 → ∀ i (h : i < br.length), i < k + 1 → br[i].kids.length ≤ 20 ∧ br[i].mark.size ≤ 100) := fun h i hi h2 => by
            by_cases e : i = k
            · subst e; exact h
            · exact M.out i hi (by omega)
          obtain ⟨Ak, ck, rfl, hkc, hkm, -⟩ := hkv.open_
          unfold maxLen at hkm
          generalize br[k] = y at c0 c1 c2 c3 c4 c5 HY hkc
          obtain ⟨y0, y1, y2, y3, y4, y5⟩ := y
          dsimp only at c0 c1 c2 c3 c4 c5 HY hkc
          clear hcell hcl hkv
          cases e1 : decide ((20 : Int) < (y5.length : Int)) <;> cases e2 : decide ((100 : Int) < (y3.size : Int)) <;> cases e3 : decide ((100 : Int) < (y4.size : Int))
          all_goals go_wp2
          all_goals first | (go_ret; exact YesIf.no ((Grew.refl w).alloc _)) | skip
          go_round
          case rel => exact ⟨k + 1, by omega, by go_num, (show Aside _ from HY.out ⟨by simp at e1; omega, by simp at e3; omega⟩)⟩
          case measure => simp [intOf]; omega
        · have hltz : ¬ (k : Int) < (br.length : Int) := by omega
          go_wp2
          go_ret
          exact YesIf.yes (HD.out.2 ⟨HS.out.1, HS.out.2, fun i h => M.out i h (by omega)⟩) ((Grew.refl w).alloc _)
end Go.Proofs.YtfghbendiofbeaaGreatDoor

/- The frame that every statement of this seat needs: what a call that returns true and leaves all older blocks alone gives for the row; the witness's world, in which the listed tables lie; what the library's own variables hold. No condition. -/
namespace Go.Proofs.YtfghbendiofbeaaGreatDoor
open Go.ChangeShapes Go.WideShapes Go.ChangeAt Go.RowKit

theorem own : ownKnob Tryz.prog.godebug = none := by kernel_rfl
theorem laidOut : laidOutB Tryz.prog = true := by kernel_rfl

/-- Arguments read as before where nothing older has turned. -/
theorem trodAll_stays {H : Type} {enc : TypeId × Value → H} {P : Program} (hl : laidOutB P = true) {W W' : World} (hb : Below W.heap.size W W') : ∀ {ts : List TypeId} {vs : List Value} {ds : List (DataW H)} {ps : List MemPlace},
    (ts.all fun t => P.readableRec t && decide (t < P.types.size)) = true → DataW.TrodAll enc P W 0 (fun _ => true) true ts vs ds ps → (∀ x ∈ ps, x.block < W.heap.size) → DataW.TrodAll enc P W' 0 (fun b => decide (b < W.heap.size)) true ts vs ds ps
  | [], _, _, _, _, h, _ => by
    obtain ⟨rfl, rfl, rfl⟩ := trodAll_nil h
    exact trodAll_mk0
  | t :: ts, _, _, _, hr, h, hlt => by
    obtain ⟨v, vs, d, ds, p, q, rfl, rfl, rfl, h1, h2⟩ := trodAll_cons h
    simp only [List.all_cons, Bool.and_eq_true, decide_eq_true_eq] at hr
    exact trodAll_cons_mk (Below.trod hl hr.1.1 hr.1.2 h1 hb fun x hx => hlt x (List.mem_append_left _ hx)) (trodAll_stays hl hb (by simpa using hr.2) h2 fun x hx => hlt x (List.mem_append_right _ hx))

/-- What the row asks of a call that returned true and left everything older as it lay. -/
theorem post_true {H : Type} {enc : TypeId × Value → H} {P : Program} (hl : laidOutB P = true) {f : Func} {s : ChangeSpec} {W W' : World} {args : Array Value} {ds gs : List (DataW H)} {before : List MemPlace} {tb : TypeId}
    (hv : s.vars = []) (hr : f.resultTypes = #[tb]) (hb : P.underlying tb = some .bool) (hp : (f.params.toList.all fun t => P.readableRec t && decide (t < P.types.size)) = true)
    (hW : DataW.Whole enc P f.params.toList s.vars false W args.toList ds gs before) (hfn : s.fn H ds = { results := [.lit (.bool true)], args := ds }) (hg : Below W.heap.size W W') :
    s.post enc P f false true false false W args (.bool true) W' := by
  have hlt := hW.lt
  have hW' := hW
  obtain ⟨p, q, hA, hV, rfl, _, _⟩ := hW
  have hV' := hV
  rw [hv] at hV'
  obtain ⟨rfl, rfl⟩ := trodVars_none hV'
  simp only [List.append_nil] at hlt hW'
  refine ⟨ds, [], p, [], p, [], hW', ?_, ?_, ?_, hg.frame _, fun h => by cases h⟩
  · rw [hr, List.append_nil, hfn]
    exact trodAll_mk1 (shut_bool hb true)
  · rw [List.append_nil, hfn]
    exact trodAll_stays hl hg hp hA hlt
  · rw [List.append_nil, hfn, hv]
    rfl
/-- The witness's world: the settled one with the tables laid. -/
noncomputable def base0R (os : Os) : World := World.holding Tryz.prog os ⟨#[], #[], []⟩
noncomputable def worldLaid (os : Os) : World :=
  { base0R os with heap := ((((base0R os).heap.modify 1 fun
      | .cells _ t frozen => .cells #[.int .u8 0, .int .u8 1, .int .u8 28, .int .u8 2, .int .u8 29, .int .u8 14, .int .u8 24, .int .u8 3, .int .u8 30, .int .u8 22, .int .u8 20, .int .u8 15, .int .u8 25, .int .u8 17, .int .u8 4, .int .u8 8, .int .u8 31, .int .u8 27, .int .u8 13, .int .u8 23, .int .u8 21, .int .u8 19, .int .u8 16, .int .u8 7, .int .u8 26, .int .u8 12, .int .u8 18, .int .u8 6, .int .u8 11, .int .u8 5, .int .u8 10, .int .u8 9] t frozen
      | o => o).modify 2 fun
      | .cells _ t frozen => .cells #[.int .u8 0, .int .u8 1, .int .u8 56, .int .u8 2, .int .u8 57, .int .u8 49, .int .u8 28, .int .u8 3, .int .u8 61, .int .u8 58, .int .u8 42, .int .u8 50, .int .u8 38, .int .u8 29, .int .u8 17, .int .u8 4, .int .u8 62, .int .u8 47, .int .u8 59, .int .u8 36, .int .u8 45, .int .u8 43, .int .u8 51, .int .u8 22, .int .u8 53, .int .u8 39, .int .u8 33, .int .u8 30, .int .u8 24, .int .u8 18, .int .u8 12, .int .u8 5, .int .u8 63, .int .u8 55, .int .u8 48, .int .u8 27, .int .u8 60, .int .u8 41, .int .u8 37, .int .u8 16, .int .u8 46, .int .u8 35, .int .u8 44, .int .u8 21, .int .u8 52, .int .u8 32, .int .u8 23, .int .u8 11, .int .u8 54, .int .u8 26, .int .u8 40, .int .u8 15, .int .u8 34, .int .u8 20, .int .u8 31, .int .u8 10, .int .u8 25, .int .u8 14, .int .u8 19, .int .u8 9, .int .u8 13, .int .u8 8, .int .u8 7, .int .u8 6] t frozen
      | o => o).modify 0 fun
      | .cells _ t frozen => .cells #[.int .u64 1, .int .u64 10, .int .u64 100, .int .u64 1000, .int .u64 10000, .int .u64 100000, .int .u64 1000000, .int .u64 10000000, .int .u64 100000000, .int .u64 1000000000, .int .u64 10000000000, .int .u64 100000000000, .int .u64 1000000000000, .int .u64 10000000000000, .int .u64 100000000000000, .int .u64 1000000000000000, .int .u64 10000000000000000, .int .u64 100000000000000000, .int .u64 1000000000000000000, .int .u64 10000000000000000000] t frozen
      | o => o) }
def laidAll : List (String × DataW Unit) := [("math/bits.deBruijn32tab", Rows.laid_math_bits_deBruijn32tab), ("math/bits.deBruijn64tab", Rows.laid_math_bits_deBruijn64tab), ("internal/strconv.uint64pow10", Rows.laid_internal_strconv_uint64pow10)]
theorem pow_only : (laidAll.filter fun x => x.1 == "internal/strconv.uint64pow10") = [("internal/strconv.uint64pow10", Lib.tabData .u64 Lib.pow10Tab)] := by kernel_rfl
/-- What the library's own variables hold. -/
theorem env_of {W : World} (h1 : laidMetH Tryz.prog laidAll W) (h2 : W.ShapedOpen Tryz.prog) : Env W := by
  refine ⟨cell_of_shapedOpen_int (g := 3) (t := 3) (zero := #[.int .i64 0]) h2 (of_decide_eq_true (by kernel_rfl)) (by kernel_rfl) rfl (by kernel_rfl) (by kernel_rfl) Tryz.underlying3, ?_⟩
  have h := h1.filter (fun x => x.1 == "internal/strconv.uint64pow10")
  rw [pow_only] at h
  have h3 := (laidMetH_iff.1 h).1
  have h4 : laidMet Tryz.prog [("internal/strconv.uint64pow10", Lib.tabData .u64 Lib.pow10Tab)] W := h3
  exact Lib.tabIs_of_head (g := 0) (t := 170) (e := 148) (n := 20) (by kernel_rfl) (by kernel_rfl) Tryz.underlying170 Tryz.underlying148 (by kernel_rfl) (by kernel_rfl) h4
end Go.Proofs.YtfghbendiofbeaaGreatDoor

/- What the lists of authorities and relations, the relations and the trees that come in read as. No condition. -/
namespace Go.Proofs.YtfghbendiofbeaaGreatDoor
open Go.ChangeShapes Go.WideShapes Go.ChangeAt Go.RowKit

theorem spot_none {w : World} {a : Addr} {u : Value} (h : w.cell? a = some u) : a.spot = none := by
  unfold World.cell? at h
  split at h
  · split at h
    · cases h
    · rename_i hs
      cases hz : a.spot with
      | none => rfl
      | some x => rw [hz] at hs; simp at hs
  · cases h
/-- A slice that is led to, whose elements read as things of one kind. -/
theorem open_in {α : Type} {H : Type} {enc : TypeId × Value → H} {P : Program} {W : World} {k n : Nat} {t e : TypeId} {cs : List Value} {x : DataW H × List MemPlace} (f : α → List Value) (Q : α → Prop) (hk : ∀ x, (f x).length = k) (h0 : 0 < k)
    (ht : P.underlying t = some (.slice e)) (hc : P.cellsOf e = k) (hel : ∀ n cs x, DataW.trod enc P W 0 (fun _ => true) true n e cs = some x → ∃ a, cs = f a ∧ Q a)
    (hf : DataW.trod enc P W 0 (fun _ => true) true n t cs = some x) : ∃ v, cs = [v] ∧ ∃ l : List α, Rd W k v (l.flatMap f) ∧ ∀ a ∈ l, Q a := by
  rcases Go.Deep.open_slice ht hf with ⟨hn, -⟩ | ⟨a, len0, cap0, m, n, D, Pl, hn, -, hle, hmx, hm, -, hcell⟩
  · exact ⟨_, hn, [], Rd.nil W k, (fun _ h => by cases h)⟩
  · refine ⟨_, hn, ?_⟩
    simp only [if_true] at hm
    subst hm
    rw [hc] at hcell
    have key : ∀ m, m ≤ len0 → ∃ l : List α, l.length = m ∧ (∀ a ∈ l, Q a) ∧ ∀ i (hi : i < l.length) j, j < k → W.cell? (a.add (i * k + j)) = (f l[i])[j]? := by
      intro m
      induction m with
      | zero => exact fun _ => ⟨[], rfl, (fun _ h => by cases h), fun i hi => absurd hi (Nat.not_lt_zero _)⟩
      | succ m ih =>
        intro hm
        obtain ⟨l, hl, hQ, hr⟩ := ih (by omega)
        obtain ⟨cs', hcs, htr⟩ := hcell m (by omega)
        obtain ⟨x, rfl, hx⟩ := hel _ _ _ htr
        obtain ⟨-, -, hcs⟩ := World.cells?_some hcs
        refine ⟨l ++ [x], by simp [hl], fun b hb => ?_, fun i hi j hj => ?_⟩
        · rcases List.mem_append.1 hb with h | h
          · exact hQ b h
          · rw [List.mem_singleton.1 h]; exact hx
        · by_cases hi' : i < l.length
          · rw [hr i hi' j hj, List.getElem_append_left hi']
          · have : i = m := by simp at hi; omega
            subst this
            have := hcs j hj
            rw [Go.Deep.add_add] at this
            rw [this, List.getElem_append_right (by omega)]
            simp [hl]
    obtain ⟨l, hl, hQ, hr⟩ := key len0 (Nat.le_refl _)
    refine ⟨l, ⟨some a, len0, _, rfl, by rw [flatMap_len f k hk, hl], hle, hmx, fun hpos => ?_⟩, hQ⟩
    have hz := hr 0 (by omega) 0 h0
    have hlt0 : 0 < (f (l[0]'(by omega))).length := by rw [hk]; exact h0
    rw [List.getElem?_eq_getElem hlt0] at hz
    have hsp := spot_none hz
    have ha0 : a.add (0 * k + 0) = a := by simp [Addr.add]
    rw [ha0] at hsp hz
    obtain ⟨b, off, sp⟩ := a
    obtain rfl : sp = none := hsp
    refine ⟨b, off, rfl, World.block_lt_of_cell? W _ hz, fun j u hu => ?_⟩
    have hj : j < len0 * k := by
      have := (List.getElem?_eq_some_iff.1 hu).1
      rwa [flatMap_len f k hk, hl] at this
    have hdiv : j / k < len0 := Nat.div_lt_of_lt_mul (by rw [Nat.mul_comm]; exact hj)
    have hmod : j % k < k := Nat.mod_lt _ h0
    have e : j = j / k * k + j % k := by rw [Nat.mul_comm]; exact (Nat.div_add_mod j k).symm
    have h1 := hr (j / k) (by omega) (j % k) hmod
    rw [add_lit, ← e] at h1
    rw [h1, ← flatMap_get f k hk l (j / k) (j % k) (by omega) hmod, ← e]
    exact hu
section
variable {H : Type} {enc : TypeId × Value → H} {W : World}
set_option maxRecDepth 100000 in
theorem in_int {n : Nat} {cs : List Value} {x : DataW H × List MemPlace} (h : DataW.trod enc Tryz.prog W 0 (fun _ => true) true n 3 cs = some x) : ∃ a : Int, cs = [.int .i64 a] := by
  obtain ⟨a, ha, -⟩ := DataW.trod_int Tryz.underlying3 h
  exact ⟨a, ha⟩
set_option maxRecDepth 100000 in
theorem in_slI {n : Nat} {cs : List Value} {x : DataW H × List MemPlace} (h : DataW.trod enc Tryz.prog W 0 (fun _ => true) true n 43 cs = some x) : ∃ v, cs = [v] ∧ ∃ l, SlI W v l := by
  obtain ⟨v, hv, l, hl, -⟩ := open_in (k := 1) oneI (fun _ => True) (fun _ => rfl) (by omega) Tryz.underlying43 (by kernel_rfl) (fun n cs x hx => by obtain ⟨a, ha⟩ := in_int hx; exact ⟨a, ha, trivial⟩) h
  exact ⟨v, hv, l, hl⟩
set_option maxRecDepth 100000 in
theorem in_span {n : Nat} {cs : List Value} {x : DataW H × List MemPlace} (h : DataW.trod enc Tryz.prog W 0 (fun _ => true) true n 25 cs = some x) : ∃ a b : Int, cs = [.int .i64 a, .int .i64 b] := by
  obtain ⟨xs, m, -, -, hl, hlen, hf⟩ := DataW.trod_struct Tryz.underlying25 h
  have hl4 : cs.length = 2 := hl.trans (by kernel_rfl)
  match xs, hlen with
  | [y0, y1], _ =>
    have h0 := hf 0 _ rfl
    have h1 := hf 1 _ rfl
    match cs, hl4 with
    | [c0, c1], _ =>
      have k1 : Tryz.prog.cellsOf 3 = 1 := by kernel_rfl
      simp only [List.getElem_toArray, List.getElem_cons_zero, List.getElem_cons_succ, k1, List.getElem?_cons_zero, List.getElem?_cons_succ, List.drop_zero, List.drop_succ_cons, List.take_succ_cons, List.take_zero] at h0 h1
      obtain ⟨a, ha⟩ := in_int h0
      obtain ⟨b, hb⟩ := in_int h1
      simp only [List.cons.injEq, and_true] at ha hb
      subst ha hb
      exact ⟨a, b, rfl⟩
set_option maxRecDepth 100000 in
theorem in_nam {n : Nat} {cs : List Value} {x : DataW H × List MemPlace} (h : DataW.trod enc Tryz.prog W 0 (fun _ => true) true n 69 cs = some x) : ∃ a : Nam, cs = a.cells := by
  obtain ⟨xs, m, -, -, hl, hlen, hf⟩ := DataW.trod_struct Tryz.underlying69 h
  have hl4 : cs.length = 3 := hl.trans (by kernel_rfl)
  match xs, hlen with
  | [y0, y1], _ =>
    have h0 := hf 0 _ rfl
    have h1 := hf 1 _ rfl
    match cs, hl4 with
    | [c0, c1, c2], _ =>
      have k1 : Tryz.prog.cellsOf 9 = 1 := by kernel_rfl
      have k2 : Tryz.prog.cellsOf 25 = 2 := by kernel_rfl
      simp only [List.getElem_toArray, List.getElem_cons_zero, List.getElem_cons_succ, k1, k2, List.getElem?_cons_zero, List.getElem?_cons_succ, List.drop_zero, List.drop_succ_cons, List.take_succ_cons, List.take_zero] at h0 h1
      obtain ⟨a, ha, -⟩ := DataW.trod_string Tryz.underlying9 h0
      obtain ⟨b, c, hb⟩ := in_span h1
      simp only [List.cons.injEq, and_true] at ha hb
      obtain ⟨rfl, rfl⟩ := hb
      subst ha
      exact ⟨⟨a, b, c⟩, rfl⟩
set_option maxRecDepth 100000 in
theorem in_rel {n : Nat} {cs : List Value} {x : DataW H × List MemPlace} (h : DataW.trod enc Tryz.prog W 0 (fun _ => true) true n 27 cs = some x) : ∃ a : Rel, cs = a.cells := by
  obtain ⟨xs, m, -, -, hl, hlen, hf⟩ := DataW.trod_struct Tryz.underlying27 h
  have hl4 : cs.length = 5 := hl.trans (by kernel_rfl)
  match xs, hlen with
  | [y0, y1, y2, y3], _ =>
    have h0 := hf 0 _ rfl
    have h1 := hf 1 _ rfl
    have h2 := hf 2 _ rfl
    have h3 := hf 3 _ rfl
    match cs, hl4 with
    | [c0, c1, c2, c3, c4], _ =>
      have k1 : Tryz.prog.cellsOf 3 = 1 := by kernel_rfl
      have k2 : Tryz.prog.cellsOf 25 = 2 := by kernel_rfl
      simp only [List.getElem_toArray, List.getElem_cons_zero, List.getElem_cons_succ, k1, k2, List.getElem?_cons_zero, List.getElem?_cons_succ, List.drop_zero, List.drop_succ_cons, List.take_succ_cons, List.take_zero] at h0 h1 h2 h3
      obtain ⟨a, ha⟩ := in_int h0
      obtain ⟨b, hb⟩ := in_int h1
      obtain ⟨c, hc⟩ := in_int h2
      obtain ⟨d, e, hd⟩ := in_span h3
      simp only [List.cons.injEq, and_true] at ha hb hc hd
      obtain ⟨rfl, rfl⟩ := hd
      subst ha hb hc
      exact ⟨⟨a, b, c, d, e⟩, rfl⟩
set_option maxRecDepth 100000 in
theorem in_au {n : Nat} {cs : List Value} {x : DataW H × List MemPlace} (h : DataW.trod enc Tryz.prog W 0 (fun _ => true) true n 72 cs = some x) : ∃ c : AuC, cs = c.cells ∧ ∃ a, AuOk W c a := by
  obtain ⟨xs, m, -, -, hl, hlen, hf⟩ := DataW.trod_struct Tryz.underlying72 h
  have hl4 : cs.length = 6 := hl.trans (by kernel_rfl)
  match xs, hlen with
  | [y0, y1, y2, y3, y4], _ =>
    have h0 := hf 0 _ rfl
    have h1 := hf 1 _ rfl
    have h2 := hf 2 _ rfl
    have h3 := hf 3 _ rfl
    have h4 := hf 4 _ rfl
    match cs, hl4 with
    | [c0, c1, c2, c3, c4, c5], _ =>
      have k1 : Tryz.prog.cellsOf 3 = 1 := by kernel_rfl
      have k2 : Tryz.prog.cellsOf 25 = 2 := by kernel_rfl
      have k3 : Tryz.prog.cellsOf 70 = 1 := by kernel_rfl
      have k4 : Tryz.prog.cellsOf 43 = 1 := by kernel_rfl
      simp only [List.getElem_toArray, List.getElem_cons_zero, List.getElem_cons_succ, k1, k2, k3, k4, List.getElem?_cons_zero, List.getElem?_cons_succ, List.drop_zero, List.drop_succ_cons, List.take_succ_cons, List.take_zero] at h0 h1 h2 h3 h4
      obtain ⟨a, ha⟩ := in_int h0
      obtain ⟨b, hb⟩ := in_int h1
      obtain ⟨d, e, hd⟩ := in_span h2
      obtain ⟨nv, hn, ns, hns, -⟩ := open_in (k := 3) Nam.cells (fun _ => True) (fun _ => rfl) (by omega) Tryz.underlying70 (by kernel_rfl) (fun n cs x hx => by obtain ⟨a, ha⟩ := in_nam hx; exact ⟨a, ha, trivial⟩) h3
      obtain ⟨xv, hx, xs, hxs⟩ := in_slI h4
      simp only [List.cons.injEq, and_true] at ha hb hd hn hx
      obtain ⟨rfl, rfl⟩ := hd
      subst ha hb hn hx
      exact ⟨⟨a, b, d, e, c4, c5⟩, rfl, ⟨a, b, d, e, ns, xs⟩, rfl, hns, hxs⟩
theorem choose_list {α β : Type} {R : α → β → Prop} : ∀ l : List α, (∀ a ∈ l, ∃ b, R a b) → ∃ m : List β, l.length = m.length ∧ ∀ i (h : i < l.length) (h' : i < m.length), R l[i] m[i]
  | [], _ => ⟨[], rfl, fun _ h => absurd h (Nat.not_lt_zero _)⟩
  | a :: l, h => by
    obtain ⟨b, hb⟩ := h a (List.mem_cons_self ..)
    obtain ⟨m, hm, hr⟩ := choose_list l (fun x hx => h x (List.mem_cons_of_mem _ hx))
    refine ⟨b :: m, by simp [hm], fun i h1 h2 => ?_⟩
    cases i with
    | zero => exact hb
    | succ i => exact hr i (by simpa using h1) (by simpa using h2)
set_option maxRecDepth 100000 in
theorem in_slR {n : Nat} {cs : List Value} {x : DataW H × List MemPlace} (h : DataW.trod enc Tryz.prog W 0 (fun _ => true) true n 23 cs = some x) : ∃ v, cs = [v] ∧ ∃ l, SlR W v l := by
  obtain ⟨v, hv, l, hl, -⟩ := open_in (k := 5) Rel.cells (fun _ => True) (fun _ => rfl) (by omega) Tryz.underlying23 (by kernel_rfl) (fun n cs x hx => by obtain ⟨a, ha⟩ := in_rel hx; exact ⟨a, ha, trivial⟩) h
  exact ⟨v, hv, l, hl⟩
set_option maxRecDepth 100000 in
theorem in_slAu {n : Nat} {cs : List Value} {x : DataW H × List MemPlace} (h : DataW.trod enc Tryz.prog W 0 (fun _ => true) true n 22 cs = some x) : ∃ v, cs = [v] ∧ ∃ l, SlAu W v l := by
  obtain ⟨v, hv, l, hl, hQ⟩ := open_in (k := 6) AuC.cells (fun c => ∃ a, AuOk W c a) (fun _ => rfl) (by omega) Tryz.underlying22 (by kernel_rfl) (fun n cs x hx => in_au hx) h
  obtain ⟨m, hm, hr⟩ := choose_list l hQ
  exact ⟨v, hv, m, l, hl, hm, hr⟩
set_option maxRecDepth 100000 in
theorem in_br {n : Nat} {cs : List Value} {x : DataW H × List MemPlace} (h : DataW.trod enc Tryz.prog W 0 (fun _ => true) true n 74 cs = some x) : ∃ c : BrC, cs = c.cells ∧ ∃ a, BrOk W c a := by
  obtain ⟨xs, m, -, -, hl, hlen, hf⟩ := DataW.trod_struct Tryz.underlying74 h
  have hl4 : cs.length = 6 := hl.trans (by kernel_rfl)
  match xs, hlen with
  | [y0, y1], _ =>
    have h0 := hf 0 _ rfl
    have h1 := hf 1 _ rfl
    match cs, hl4 with
    | [c0, c1, c2, c3, c4, c5], _ =>
      have k0 : Tryz.prog.cellsOf 57 = 5 := by kernel_rfl
      have k4 : Tryz.prog.cellsOf 43 = 1 := by kernel_rfl
      simp only [List.getElem_toArray, List.getElem_cons_zero, List.getElem_cons_succ, k0, k4, List.getElem?_cons_zero, List.getElem?_cons_succ, List.drop_zero, List.drop_succ_cons, List.take_succ_cons, List.take_zero] at h0 h1
      obtain ⟨us, m2, -, -, hl2, hlen2, hg⟩ := DataW.trod_struct Tryz.underlying57 h0
      match us, hlen2 with
      | [z0, z1, z2, z3, z4], _ =>
        have g0 := hg 0 _ rfl
        have g1 := hg 1 _ rfl
        have g2 := hg 2 _ rfl
        have g3 := hg 3 _ rfl
        have g4 := hg 4 _ rfl
        have k1 : Tryz.prog.cellsOf 3 = 1 := by kernel_rfl
        have k2 : Tryz.prog.cellsOf 9 = 1 := by kernel_rfl
        simp only [List.getElem_toArray, List.getElem_cons_zero, List.getElem_cons_succ, k1, k2, List.getElem?_cons_zero, List.getElem?_cons_succ, List.drop_zero, List.drop_succ_cons, List.take_succ_cons, List.take_zero] at g0 g1 g2 g3 g4
        obtain ⟨a, ha⟩ := in_int g0
        obtain ⟨b, hb⟩ := in_int g1
        obtain ⟨c, hc⟩ := in_int g2
        obtain ⟨d, hd, -⟩ := DataW.trod_string Tryz.underlying9 g3
        obtain ⟨e, he, -⟩ := DataW.trod_string Tryz.underlying9 g4
        obtain ⟨kv, hx, ks, hks⟩ := in_slI h1
        simp only [List.cons.injEq, and_true] at ha hb hc hd he hx
        subst ha hb hc hd he hx
        exact ⟨⟨a, b, c, d, e, c5⟩, rfl, ⟨a, b, c, d, e, ks⟩, rfl, hks⟩
set_option maxRecDepth 100000 in
theorem in_slBr {n : Nat} {cs : List Value} {x : DataW H × List MemPlace} (h : DataW.trod enc Tryz.prog W 0 (fun _ => true) true n 49 cs = some x) : ∃ v, cs = [v] ∧ ∃ l, SlBr W v l := by
  obtain ⟨v, hv, l, hl, hQ⟩ := open_in (k := 6) BrC.cells (fun c => ∃ a, BrOk W c a) (fun _ => rfl) (by omega) Tryz.underlying49 (by kernel_rfl) (fun n cs x hx => in_br hx) h
  obtain ⟨m, hm, hr⟩ := choose_list l hQ
  exact ⟨v, hv, m, l, hl, hm, hr⟩
set_option maxRecDepth 100000 in
theorem open_slAu {base : Nat} {v : Value} {d : DataW H} {ps : List MemPlace} (hval : Value.okWide Tryz.prog W .any base 22 v) (h : DataW.Trod enc Tryz.prog W 0 (fun _ => true) true 22 v d ps) : ∃ l, SlAu W v l := by
  obtain ⟨a0, len0, cap0, rfl⟩ := okWide_slice Tryz.underlying22 hval
  obtain ⟨fuel, hf⟩ := h
  obtain ⟨v, hv, l, hl⟩ := in_slAu hf
  simp only [Value.cells] at hv
  simp at hv
  subst hv
  exact ⟨l, hl⟩
set_option maxRecDepth 100000 in
theorem open_slR {base : Nat} {v : Value} {d : DataW H} {ps : List MemPlace} (hval : Value.okWide Tryz.prog W .any base 23 v) (h : DataW.Trod enc Tryz.prog W 0 (fun _ => true) true 23 v d ps) : ∃ l, SlR W v l := by
  obtain ⟨a0, len0, cap0, rfl⟩ := okWide_slice Tryz.underlying23 hval
  obtain ⟨fuel, hf⟩ := h
  obtain ⟨v, hv, l, hl⟩ := in_slR hf
  simp only [Value.cells] at hv
  simp at hv
  subst hv
  exact ⟨l, hl⟩
set_option maxRecDepth 100000 in
theorem open_rel {base : Nat} {v : Value} {d : DataW H} {ps : List MemPlace} (hval : Value.okWide Tryz.prog W .any base 27 v) (h : DataW.Trod enc Tryz.prog W 0 (fun _ => true) true 27 v d ps) : ∃ a : Rel, v = a.agg := by
  obtain ⟨cs, rfl, -⟩ := okWide_struct Tryz.underlying27 hval
  obtain ⟨fuel, hf⟩ := h
  obtain ⟨a, ha⟩ := in_rel hf
  simp only [Value.cells] at ha
  exact ⟨a, by obtain ⟨cs⟩ := cs; simp only at ha; rw [ha]; rfl⟩
set_option maxRecDepth 100000 in
theorem open_tree {base : Nat} {v : Value} {d : DataW H} {ps : List MemPlace} (hval : Value.okWide Tryz.prog W .any base 51 v) (h : DataW.Trod enc Tryz.prog W 0 (fun _ => true) true 51 v d ps) : ∃ rv bv, v = .agg #[rv, bv] ∧ ∃ t, TrOk W rv bv t := by
  obtain ⟨cs, rfl, -⟩ := okWide_struct Tryz.underlying51 hval
  obtain ⟨fuel, hf⟩ := h
  obtain ⟨xs, m, -, -, hl, hlen, hf⟩ := DataW.trod_struct Tryz.underlying51 hf
  simp only [Value.cells] at hl hf
  obtain ⟨cs⟩ := cs
  have hl4 : cs.length = 2 := hl.trans (by kernel_rfl)
  match xs, hlen with
  | [y0, y1], _ =>
    have h0 := hf 0 _ rfl
    have h1 := hf 1 _ rfl
    match cs, hl4 with
    | [c0, c1], _ =>
      have k1 : Tryz.prog.cellsOf 43 = 1 := by kernel_rfl
      have k2 : Tryz.prog.cellsOf 49 = 1 := by kernel_rfl
      simp only [List.getElem_toArray, List.getElem_cons_zero, List.getElem_cons_succ, k1, k2, List.getElem?_cons_zero, List.getElem?_cons_succ, List.drop_zero, List.drop_succ_cons, List.take_succ_cons, List.take_zero] at h0 h1
      obtain ⟨rv, hrv, rs, hrs⟩ := in_slI h0
      obtain ⟨bv, hbv, bs, hbs⟩ := in_slBr h1
      simp only [List.cons.injEq, and_true] at hrv hbv
      subst hrv hbv
      exact ⟨c0, c1, rfl, ⟨rs, bs⟩, hrs, hbs⟩
end
end Go.Proofs.YtfghbendiofbeaaGreatDoor
