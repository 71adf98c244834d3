/- Lemmas on what the functions of the program and of the library compute: OpenI, Tx, PlainPr, PlainIx, PlainDx. The conditions stand at each. -/
import Derived.Test.YtjaknioojpgkiaaGreatDoorQ36
import Derived.Test.YtjaknioojpgkiaaGreatDoorQ2
import Derived.Test.YtjaknioojpgkiaaGreatDoorQ4
import Derived.Sort.Grow
import Derived.Lib.ItoaLen
import Derived.Laws.Concat
import Derived.Test.YtjaknioojpgkiaaGreatDoorQ34
import Derived.Lib.Replace
import Derived.Test.YtjaknioojpgkiaaGreatDoorQ11
/- What the texts, values and trees that come in read as. No condition. -/
namespace Go.Proofs.YtjaknioojpgkiaaGreatDoor
open Go.ChangeShapes Go.WideShapes Go.ChangeAt Go.RowKit

set_option maxRecDepth 100000 in
theorem open_slS {H : Type} {enc : TypeId × Value → H} {W : World} {base : Nat} {v : Value} {d : DataW H} {ps : List MemPlace} (hval : Value.okWide Tryz.prog W .any base 26 v)
    (h : DataW.Trod enc Tryz.prog W 0 (fun _ => true) true 26 v d ps) : ∃ l, SlS W v l := by
  obtain ⟨a0, len0, cap0, rfl⟩ := okWide_slice Tryz.underlying26 hval
  obtain ⟨fuel, hf⟩ := h
  rcases open_strings Tryz.underlying26 Tryz.underlying9 (by kernel_rfl) hf with ⟨h0, -⟩ | ⟨a, len, cap, ss, h0, -, hle, hmx, hss, -, hcell, -⟩
  · simp only [Value.cells] at h0
    simp at h0
    obtain ⟨rfl, rfl, rfl⟩ := h0
    exact ⟨[], Rd.nil W 1⟩
  · simp only [Value.cells] at h0
    simp at h0
    obtain ⟨rfl, rfl, rfl⟩ := h0
    simp only [if_true] at hss
    refine ⟨ss.take len0, some a, len0, cap0, rfl, ?_, hle, hmx, fun hpos => ?_⟩
    · rw [flatMap_len oneS 1 (fun _ => rfl), List.length_take, hss]
      omega
    · have hz := hcell 0 (by omega)
      have hsp := spot_none hz
      have ha0 : a.add 0 = a := by simp [Addr.add]
      rw [ha0] at hsp
      obtain ⟨b, off, sp⟩ := a
      obtain rfl : sp = none := hsp
      refine ⟨b, off, rfl, ?_, fun j u hu => ?_⟩
      · rw [ha0] at hz
        exact World.block_lt_of_cell? W _ hz
      · have hm : (ss.take len0).flatMap oneS = (ss.take len0).map Value.string := by
          induction ss.take len0 with
          | nil => rfl
          | cons x r ih => simp [List.flatMap_cons, oneS, ih]
        rw [hm, List.getElem?_map, List.getElem?_take] at hu
        by_cases hj : j < len0
        · rw [if_pos hj] at hu
          have hjs : j < ss.length := by omega
          rw [List.getElem?_eq_getElem hjs] at hu
          have hc := hcell j hjs
          rw [add_lit] at hc
          rw [hc]
          simp only [Option.map_some, Option.some.injEq] at hu
          rw [← hu, List.getD_eq_getElem?_getD, List.getElem?_eq_getElem hjs]
          rfl
        · rw [if_neg hj] at hu
          cases hu
/-- A slice that comes in, whose elements read as things of one kind. -/
theorem open_rows {α : Type} {H : Type} {enc : TypeId × Value → H} {P : Program} {W : World} {base k : Nat} {t e : TypeId} {v : Value} {d : DataW H} {ps : List MemPlace} (f : α → List Value) (hk : ∀ x, (f x).length = k) (h0 : 0 < k)
    (ht : P.underlying t = some (.slice e)) (hc : P.cellsOf e = k) (hel : ∀ n cs x, DataW.trod enc P W 0 (fun _ => true) true n e cs = some x → ∃ a, cs = f a)
    (hval : Value.okWide P W .any base t v) (h : DataW.Trod enc P W 0 (fun _ => true) true t v d ps) : ∃ l : List α, Rd W k v (l.flatMap f) := by
  obtain ⟨a0, len0, cap0, rfl⟩ := okWide_slice ht hval
  obtain ⟨fuel, hf⟩ := h
  rcases Go.Deep.open_slice ht hf with ⟨hn, -⟩ | ⟨a, len, cap, m, n, D, Pl, hn, -, hle, hmx, hm, -, hcell⟩
  · simp only [Value.cells] at hn
    simp at hn
    obtain ⟨rfl, rfl, rfl⟩ := hn
    exact ⟨[], Rd.nil W k⟩
  · simp only [Value.cells] at hn
    simp at hn
    obtain ⟨rfl, rfl, rfl⟩ := hn
    simp only [if_true] at hm
    subst hm
    rw [hc] at hcell
    have key : ∀ m, m ≤ len0 → ∃ l : List α, l.length = m ∧ ∀ i (hi : i < l.length) j, j < k → W.cell? (a.add (i * k + j)) = (f l[i])[j]? := by
      intro m
      induction m with
      | zero => exact fun _ => ⟨[], rfl, fun i hi => absurd hi (Nat.not_lt_zero _)⟩
      | succ m ih =>
        intro hm
        obtain ⟨l, hl, hr⟩ := ih (by omega)
        obtain ⟨cs', hcs, htr⟩ := hcell m (by omega)
        obtain ⟨x, rfl⟩ := hel _ _ _ htr
        obtain ⟨-, -, hcs⟩ := World.cells?_some hcs
        refine ⟨l ++ [x], by simp [hl], fun i hi j hj => ?_⟩
        by_cases hi' : i < l.length
        · rw [hr i hi' j hj, List.getElem_append_left hi']
        · have : i = m := by simp at hi; omega
          subst this
          have := hcs j hj
          rw [Go.Deep.add_add] at this
          rw [this, List.getElem_append_right (by omega)]
          simp [hl]
    obtain ⟨l, hl, hr⟩ := key len0 (Nat.le_refl _)
    refine ⟨l, some a, len0, _, rfl, by rw [flatMap_len f k hk, hl], hle, hmx, fun hpos => ?_⟩
    have hz := hr 0 (by omega) 0 h0
    have hlt0 : 0 < (f (l[0]'(by omega))).length := by rw [hk]; exact h0
    rw [List.getElem?_eq_getElem hlt0] at hz
    have hsp := spot_none hz
    have ha0 : a.add (0 * k + 0) = a := by simp [Addr.add]
    rw [ha0] at hsp hz
    obtain ⟨b, off, sp⟩ := a
    obtain rfl : sp = none := hsp
    refine ⟨b, off, rfl, World.block_lt_of_cell? W _ hz, fun j u hu => ?_⟩
    have hj : j < len0 * k := by
      have := (List.getElem?_eq_some_iff.1 hu).1
      rwa [flatMap_len f k hk, hl] at this
    have hdiv : j / k < len0 := Nat.div_lt_of_lt_mul (by rw [Nat.mul_comm]; exact hj)
    have hmod : j % k < k := Nat.mod_lt _ h0
    have e : j = j / k * k + j % k := by rw [Nat.mul_comm]; exact (Nat.div_add_mod j k).symm
    have h1 := hr (j / k) (by omega) (j % k) hmod
    rw [add_lit, ← e] at h1
    rw [h1, ← flatMap_get f k hk l (j / k) (j % k) (by omega) hmod, ← e]
    exact hu

set_option maxRecDepth 100000 in
theorem open_slV {H : Type} {enc : TypeId × Value → H} {W : World} {base : Nat} {v : Value} {d : DataW H} {ps : List MemPlace} (hval : Value.okWide Tryz.prog W .any base 27 v)
    (h : DataW.Trod enc Tryz.prog W 0 (fun _ => true) true 27 v d ps) : ∃ l, SlV W v l := by
  refine open_rows Val.cells (fun _ => rfl) (by omega) Tryz.underlying27 (by kernel_rfl) (fun n cs x hx => ?_) hval h
  obtain ⟨xs, m, -, -, hl, hlen, hf⟩ := DataW.trod_struct Tryz.underlying29 hx
  have hl4 : cs.length = 4 := hl.trans (by kernel_rfl)
  match xs, hlen with
  | [y0, y1, y2, y3], _ =>
    have h0 := hf 0 _ rfl
    have h1 := hf 1 _ rfl
    have h2 := hf 2 _ rfl
    have h3 := hf 3 _ rfl
    match cs, hl4 with
    | [c0, c1, c2, c3], _ =>
      have k1 : Tryz.prog.cellsOf 3 = 1 := by kernel_rfl
      have k2 : Tryz.prog.cellsOf 9 = 1 := by kernel_rfl
      simp only [List.getElem_toArray, List.getElem_cons_zero, List.getElem_cons_succ, k1, k2, List.getElem?_cons_zero, List.getElem?_cons_succ, List.drop_zero, List.drop_succ_cons, List.take_succ_cons, List.take_zero] at h0 h1 h2 h3
      obtain ⟨a, ha, -⟩ := DataW.trod_int Tryz.underlying3 h0
      obtain ⟨b, hb, -⟩ := DataW.trod_int Tryz.underlying3 h1
      obtain ⟨c, hc, -⟩ := DataW.trod_string Tryz.underlying9 h2
      obtain ⟨d, hd, -⟩ := DataW.trod_string Tryz.underlying9 h3
      simp only [List.cons.injEq, and_true] at ha hb hc hd
      subst ha hb hc hd
      exact ⟨⟨a, b, c, d⟩, rfl⟩
end Go.Proofs.YtjaknioojpgkiaaGreatDoor

/- relation.Text, walked. The condition: the library's own variables hold what they must. -/
namespace Go.Proofs.YtjaknioojpgkiaaGreatDoor
open Go.RowKit

theorem grew_grow (w : World) (k : Nat) (os : Array Obj) : Grew w (Go.Sort.grow (w.drewN k) os) := by
  refine ⟨rfl, rfl, rfl, by simp, fun b hb => ?_⟩
  rw [Go.Sort.heap_grow_old _ _ (by simpa using hb)]
  rfl
theorem itoa_any (n : Int) (h0 : -9223372036854775808 ≤ n) (h1 : n ≤ 9223372036854775807) (w : World) (hE : Env w) : Calls Tryz.prog 128 #[.int .i64 n] w fun e w' => e = .returned (.string ⟨(Lib.itoa n).toArray⟩) ∧ Grew w w' :=
  (Tryz.strconv_Itoa n h0 h1 w (hE.2 _ (show Tryz.prog.globalNamed "internal/strconv.uint64pow10" = some 3 by kernel_rfl))).mono fun _ _ ⟨he, k, os, hw⟩ => ⟨he, by rw [hw]; exact grew_grow w k os⟩
def itoaB (n : Int) : ByteArray := ⟨(Lib.itoa n).toArray⟩
end Go.Proofs.YtjaknioojpgkiaaGreatDoor

/- What Print writes, plainly. No condition. -/
namespace Go.Proofs.YtjaknioojpgkiaaGreatDoor
open Go.RowKit

/-- A byte of a text as it is printed. -/
def nlB (b : UInt8) : List UInt8 := if b = 10 then [10, 32, 32] else [b]
theorem repl_k : ∀ s : List UInt8, Lib.replaceK [10] [10, 32, 32] (s.count 10) s = s.flatMap nlB
  | [] => by simp [Lib.replaceK]
  | b :: l => by
    have ih := repl_k l
    by_cases h : b = 10
    · subst h
      have hi : Lib.index (10 :: l) [10] = ((0 : Nat) : Int) := by simp [Lib.index, List.isPrefixOf]
      rw [List.count_cons_self, Lib.replaceK_hit _ _ _ _ 0 hi, List.flatMap_cons]
      simp [nlB, ih]
    · rw [List.count_cons_of_ne h, List.flatMap_cons]
      have hb : nlB b = [b] := if_neg h
      rw [hb, ← ih]
      cases hc : l.count 10 with
      | zero => rfl
      | succ k =>
        obtain ⟨i, hi⟩ := Lib.index_of_count (s := l) (old := [10]) (by rw [Lib.count_one, hc]; omega)
        have hi2 : Lib.index (b :: l) [10] = ((i + 1 : Nat) : Int) := by
          rw [Lib.index, if_neg (by simpa [List.isPrefixOf] using fun e : 10 = b => h e.symm), if_neg (by rw [hi]; simp), hi]
          omega
        rw [Lib.replaceK_hit _ _ _ _ _ hi2, Lib.replaceK_hit _ _ _ _ _ hi]
        simp
theorem repl_nl (s : List UInt8) : Lib.replaceAll s [10] [10, 32, 32] = s.flatMap nlB := by
  unfold Lib.replaceAll Lib.replace Lib.replaceNum
  rw [if_neg (by decide), if_pos (.inl (by decide)), Lib.count_one]
  exact repl_k s
/-- The part of a description for one value. -/
def lineB (v : Val) (unit : Int) (wt : ByteArray) : List UInt8 :=
  (kindOf v.elem).word.data.toList ++ (if (v.lang.toList == wt.toList) = true then [] else [32, 40] ++ v.lang.data.toList ++ [41]) ++ (if v.unit = unit then [] else [32, 102, 114, 111, 109, 32] ++ Lib.itoa v.unit) ++ ([58, 32] ++ v.text.data.toList.flatMap nlB ++ [10])
def linesB (L : List Val) (unit : Int) (wt : ByteArray) : List UInt8 := L.flatMap fun v => lineB v unit wt
noncomputable def printR (t : Tr) (ls : List ByteArray) (vs : List Val) (u : Int) (wt : ByteArray) : ByteArray × Int :=
  if (allR t ls vs u wt).2 = 0 then (⟨(linesB (allR t ls vs u wt).1 u wt).toArray⟩, 0) else (⟨#[]⟩, (allR t ls vs u wt).2)
theorem line_pos (v : Val) (unit : Int) (wt : ByteArray) : lineB v unit wt ≠ [] := by unfold lineB; simp
theorem nl_len : ∀ l : List UInt8, (l.flatMap nlB).length ≤ 3 * l.length
  | [] => by simp
  | b :: l => by
    have ih := nl_len l
    rw [List.flatMap_cons, List.length_append, List.length_cons]
    unfold nlB at ih ⊢
    split <;> simp only [List.length_cons, List.length_nil] <;> omega
theorem str_data (a b : ByteArray) : (a ++ b).data.toList = a.data.toList ++ b.data.toList := by
  rw [ByteArray.data_append, Array.toList_append]
end Go.Proofs.YtjaknioojpgkiaaGreatDoor

/- The example of inheritance, plainly. No condition. -/
namespace Go.Proofs.YtjaknioojpgkiaaGreatDoor
open Go.RowKit

def iB : List Br := [⟨1, 0, 1, ⟨#[84, 111, 119, 110]⟩, ⟨#[]⟩, [2, 5]⟩, ⟨2, 1, 2, ⟨#[65, 99, 116, 115]⟩, ⟨#[]⟩, [9]⟩, ⟨5, 1, 2, ⟨#[80, 108, 97, 110, 115]⟩, ⟨#[]⟩, []⟩, ⟨9, 2, 3, ⟨#[77, 105, 108, 108]⟩, ⟨#[]⟩, []⟩]
def iT : Tr := ⟨[1], iB⟩
def sDe : ByteArray := ⟨#[100, 101]⟩
def sEn : ByteArray := ⟨#[101, 110]⟩
def sFr : ByteArray := ⟨#[102, 114]⟩
def iL : List ByteArray := [⟨#[101, 110]⟩, ⟨#[100, 101]⟩]
def iV0 : Val := ⟨1, 4, ⟨#[100, 101]⟩, ⟨#[111, 102, 102, 101, 110]⟩⟩
def iV1 : Val := ⟨1, 4, ⟨#[101, 110]⟩, ⟨#[111, 112, 101, 110]⟩⟩
def iV2 : Val := ⟨2, 4, ⟨#[101, 110]⟩, ⟨#[99, 108, 111, 115, 101, 100]⟩⟩
def iV3 : Val := ⟨9, 4, ⟨#[101, 110]⟩, ⟨#[99, 108, 111, 115, 101, 100]⟩⟩
def iVs : List Val := [iV0, iV1, iV2]
def iVa : List Val := [iV0, iV1, iV2, iV3]
theorem sort25i : sortI [2, 5] = [2, 5] := by
  unfold sortI
  exact List.mergeSort_of_pairwise (by decide)
theorem iBAl0 : BrAlone iB 0 (by decide) := ⟨by decide +kernel, by decide +kernel, fun h => absurd h (by omega), by decide +kernel, fun h => absurd h (by decide +kernel)⟩
theorem iBAl1 : BrAlone iB 1 (by decide) := ⟨by decide +kernel, by decide +kernel, fun _ => by decide +kernel, by decide +kernel, fun h => absurd h (by decide +kernel)⟩
theorem iBAl2 : BrAlone iB 2 (by decide) := ⟨by decide +kernel, by decide +kernel, fun _ => by decide +kernel, by decide +kernel, fun h => absurd h (by decide +kernel)⟩
theorem iBAl3 : BrAlone iB 3 (by decide) := ⟨by decide +kernel, by decide +kernel, fun _ => by decide +kernel, by decide +kernel, fun h => absurd h (by decide +kernel)⟩
theorem iTRight : RightT iT := by
  refine ⟨by decide, fun i h => ?_, fun i h => ?_, fun i h => ?_, by simp [sortI, kidsOf, iB, iT], fun i h => ?_⟩
  · have : i = 0 ∨ i = 1 ∨ i = 2 ∨ i = 3 := by
      have h4 : i < 4 := h
      omega
    rcases this with rfl | rfl | rfl | rfl
    · exact iBAl0
    · exact iBAl1
    · exact iBAl2
    · exact iBAl3
  · have : i = 0 ∨ i = 1 ∨ i = 2 ∨ i = 3 := by
      have h4 : i < 4 := h
      omega
    rcases this with rfl | rfl | rfl | rfl <;> simp [BrPlaced, iB, iT, brFind, fitsF, within]
  · have : i = 0 ∨ i = 1 ∨ i = 2 ∨ i = 3 := by
      have h4 : i < 4 := h
      omega
    rcases this with rfl | rfl | rfl | rfl <;> first | decide +kernel | (simp [sortI, kidsOf, iB, iT]; done) | (rw [show (iT.brs[0]'(by decide)).kids = [2, 5] from rfl, sort25i]; rfl)
  · have : i = 0 ∨ i = 1 ∨ i = 2 ∨ i = 3 := by
      have h4 : i < 4 := h
      omega
    rcases this with rfl | rfl | rfl | rfl
    · exact ⟨1, (by decide +kernel : deep iB 4 (iB[0]'(by decide)) = some 1), by omega⟩
    · exact ⟨2, (by decide +kernel : deep iB 4 (iB[1]'(by decide)) = some 2), by omega⟩
    · exact ⟨2, (by decide +kernel : deep iB 4 (iB[2]'(by decide)) = some 2), by omega⟩
    · exact ⟨3, (by decide +kernel : deep iB 4 (iB[3]'(by decide)) = some 3), by omega⟩
theorem iLok : langsF iL = 0 := by decide +kernel
theorem good_i (v : Val) (h1 : 1 ≤ v.unit) (h2 : v.unit ≤ 1073741824) (h3 : isEl v.elem = true) (h4 : (iL.any fun y => v.lang.data.toList == y.data.toList) = true) (h5 : isTextF v.text.data.toList = true) : goodV iL v := by
  refine ⟨h1, h2, h3, ?_, h5⟩
  unfold inL
  simp only [toList_dataE]
  exact h4
theorem iV0g : goodV iL iV0 := good_i _ (by decide) (by decide) (by decide +kernel) (by decide +kernel) (by decide +kernel)
theorem iV1g : goodV iL iV1 := good_i _ (by decide) (by decide) (by decide +kernel) (by decide +kernel) (by decide +kernel)
theorem iV2g : goodV iL iV2 := good_i _ (by decide) (by decide) (by decide +kernel) (by decide +kernel) (by decide +kernel)
theorem iV3g : goodV iL iV3 := good_i _ (by decide) (by decide) (by decide +kernel) (by decide +kernel) (by decide +kernel)
theorem iV01 : ltV iV0 iV1 := .inr ⟨rfl, .inr ⟨rfl, show Lib.compareBytes _ _ = -1 by decide +kernel⟩⟩
theorem iVsRight : RightV iL iVs := by
  refine ⟨iLok, by decide, fun v hv => ?_, ?_⟩
  · simp only [iVs, List.mem_cons, List.not_mem_nil, or_false] at hv
    rcases hv with rfl | rfl | rfl
    · exact iV0g
    · exact iV1g
    · exact iV2g
  · unfold iVs
    refine List.Pairwise.cons (fun v hv => ?_) (List.Pairwise.cons (fun v hv => ?_) (List.pairwise_singleton _ _))
    · simp only [List.mem_cons, List.not_mem_nil, or_false] at hv
      rcases hv with rfl | rfl
      · exact iV01
      · exact .inl (by decide)
    · simp only [List.mem_cons, List.not_mem_nil, or_false] at hv
      subst hv
      exact .inl (by decide)
theorem iVaRight : RightV iL iVa := by
  refine ⟨iLok, by decide, fun v hv => ?_, ?_⟩
  · simp only [iVa, List.mem_cons, List.not_mem_nil, or_false] at hv
    rcases hv with rfl | rfl | rfl | rfl
    · exact iV0g
    · exact iV1g
    · exact iV2g
    · exact iV3g
  · unfold iVa
    refine List.Pairwise.cons (fun v hv => ?_) (List.Pairwise.cons (fun v hv => ?_) (List.Pairwise.cons (fun v hv => ?_) (List.pairwise_singleton _ _)))
    · simp only [List.mem_cons, List.not_mem_nil, or_false] at hv
      rcases hv with rfl | rfl | rfl
      · exact iV01
      · exact .inl (by decide)
      · exact .inl (by decide)
    · simp only [List.mem_cons, List.not_mem_nil, or_false] at hv
      rcases hv with rfl | rfl
      · exact .inl (by decide)
      · exact .inl (by decide)
    · simp only [List.mem_cons, List.not_mem_nil, or_false] at hv
      subst hv
      exact .inl (by decide)
/-- The same as found and effective, with the bytes of texts compared. -/
def getD (vs : List Val) (u n : Int) (lang : ByteArray) : Option ByteArray := (vs.find? fun x => x.unit == u && (x.elem == n && (x.lang.data.toList == lang.data.toList))).map (·.text)
theorem get_data : getF = getD := by
  funext vs u n lang
  unfold getF getD getP
  simp only [toList_dataE]
def alongD (vs : List Val) (inh : Bool) (n : Int) (lang : ByteArray) : List Int → Option Val
  | [] => none
  | x :: r => match (getD vs x n lang).map fun s => (⟨x, n, lang, s⟩ : Val) with
    | some v => some v
    | none => if inh then alongD vs inh n lang r else none
theorem along_data (vs : List Val) (inh : Bool) (n : Int) (lang : ByteArray) : ∀ w, alongF vs inh n lang w = alongD vs inh n lang w
  | [] => rfl
  | x :: r => by
    unfold alongF alongD ownV
    rw [get_data, along_data vs inh n lang r]
    cases getD vs x n lang <;> rfl
def foundD (l : List Br) (vs : List Val) (u n : Int) (lang : ByteArray) : Option Val := alongD vs (kindOf n).inh n lang (wayL l u)
theorem found_data : foundF = foundD := by
  funext l vs u n lang
  exact along_data _ _ _ _ _
def effD (l : List Br) (ls : List ByteArray) (vs : List Val) (u n : Int) (wt : ByteArray) : Option Val := (front (fun x => x.data.toList == wt.data.toList) ls).findSome? fun lg => foundD l vs u n lg
theorem eff_data {l : List Br} {ls : List ByteArray} {vs : List Val} {u n : Int} {wt : ByteArray} (h : langsF ls = 0) (hw : isLangF wt.data.toList = true) : effF l ls vs u n wt = effD l ls vs u n wt := by
  unfold effF effD orderF
  rw [if_neg (by rw [h]; decide), if_pos hw, found_data]
  unfold ordL
  simp only [toList_dataE]
theorem ask_i {vs : List Val} {u n : Int} {lang : ByteArray} (hv : RightV iL vs) (hu : (brFind iB u).isSome = true) (hn : isEl n = true) (hl : isLangF lang.data.toList = true) : askI iT iL vs u n lang = 0 :=
  askI_zero.2 ⟨⟨iTRight, hv⟩, Option.isSome_iff_exists.1 hu, hn, hl⟩
theorem iFew : FewBr iT.brs := ⟨by decide, fun i h => by
  have : i = 0 ∨ i = 1 ∨ i = 2 ∨ i = 3 := by
    have h4 : i < 4 := h
    omega
  rcases this with rfl | rfl | rfl | rfl <;> simp [iT, iB]⟩
end Go.Proofs.YtjaknioojpgkiaaGreatDoor

/- The example of the descriptions, plainly. No condition. -/
namespace Go.Proofs.YtjaknioojpgkiaaGreatDoor
open Go.RowKit

def dV : Val := ⟨1, 4, ⟨#[101, 110]⟩, ⟨#[99, 108, 111, 115, 101, 100]⟩⟩
def iA : List Val := [iV0, dV]
theorem dOf : ofI iT iL iVa = 0 := ofI_zero.2 ⟨iTRight, iVaRight⟩
theorem dVal : valE iT iL iVa dV = 0 := by
  unfold valE inL
  simp only [toList_dataE]
  rfl
theorem dPut : putV dV iVa = [iV0, dV, iV2, iV3] := by rfl
theorem dF1 : setR iT iL iVa dV = (iA, 0) := by
  have h3 : normF iT [iV0, dV, iV2, iV3] = iA := by
    unfold normF redB
    simp only [found_data, toList_dataE]
    rfl
  unfold setR
  rw [if_neg (fun k => k dOf), if_neg (fun k => k dVal), dPut, if_neg (by decide), h3]
theorem iARight : RightV iL iA := by
  have h := set_is (t := iT) (ls := iL) (vs := iVa) (v := dV) (by rw [dF1])
  have h2 := h.2.2.2.2
  rw [dF1] at h2
  have h3 : iA = normF iT (putV dV iVa) := h2
  rw [h3]
  exact normF_right h.2.2.1
theorem dF2 : normR iT iL iVa = (iVs, 0) := by
  have h3 : normF iT iVa = iVs := by
    unfold normF redB
    simp only [found_data, toList_dataE]
    rfl
  unfold normR
  rw [if_pos dOf, h3]
theorem dF3 : (clearR iT iL iVa ⟨2, 4, sEn, ⟨#[]⟩⟩).1.length = 3 ∧ (clearR iT iL iVa ⟨2, 4, sEn, ⟨#[]⟩⟩).2 = 0 := by
  have h1 : dropV ⟨2, 4, sEn, ⟨#[]⟩⟩ iVa = [iV0, iV1, iV3] := by rfl
  have h3 : (normF iT [iV0, iV1, iV3]).length = 3 := by
    unfold normF redB
    simp only [found_data, toList_dataE]
    rfl
  unfold clearR
  rw [if_neg (fun k => k dOf), h1, if_neg (by decide)]
  exact ⟨h3, rfl⟩
theorem dAll {vs : List Val} (hv : RightV iL vs) {u : Int} (hu : (brFind iB u).isSome = true) {wt : ByteArray} (hw : isLangF wt.data.toList = true) : allR iT iL vs u wt = (((List.range 8).map fun (i : Nat) => (i : Int) + 1).filterMap fun n => effD iB iL vs u n wt, 0) := by
  unfold allR
  rw [if_pos (ask_i hv hu (by decide +kernel) hw)]
  unfold allF
  simp only [eff_data iLok hw]
  rfl
theorem itoa1 : Lib.itoa 1 = [49] := by simp [Lib.itoa, Lib.decDigits]
theorem itoa2 : Lib.itoa 2 = [50] := by simp [Lib.itoa, Lib.decDigits]
theorem dF4 : printR iT iL iVa 9 sDe = (⟨#[99, 111, 110, 100, 105, 116, 105, 111, 110, 115, 32, 102, 114, 111, 109, 32, 49, 58, 32, 111, 102, 102, 101, 110, 10]⟩, 0) := by
  have h : allR iT iL iVa 9 sDe = ([iV0], 0) := by
    rw [dAll iVaRight (by decide +kernel) (by decide +kernel)]
    rfl
  have hl : linesB [iV0] 9 sDe = [99, 111, 110, 100, 105, 116, 105, 111, 110, 115, 32, 102, 114, 111, 109, 32, 49, 58, 32, 111, 102, 102, 101, 110, 10] := by
    unfold linesB lineB
    simp only [toList_dataE]
    rw [List.flatMap_cons, List.flatMap_nil, show iV0.unit = 1 from rfl, itoa1]
    rfl
  unfold printR
  rw [h]
  dsimp only
  rw [hl]
  rfl
theorem dF5 : printR iT iL iVs 9 sFr = (⟨#[99, 111, 110, 100, 105, 116, 105, 111, 110, 115, 32, 40, 101, 110, 41, 32, 102, 114, 111, 109, 32, 50, 58, 32, 99, 108, 111, 115, 101, 100, 10]⟩, 0) := by
  have h : allR iT iL iVs 9 sFr = ([iV2], 0) := by
    rw [dAll iVsRight (by decide +kernel) (by decide +kernel)]
    rfl
  have hl : linesB [iV2] 9 sFr = [99, 111, 110, 100, 105, 116, 105, 111, 110, 115, 32, 40, 101, 110, 41, 32, 102, 114, 111, 109, 32, 50, 58, 32, 99, 108, 111, 115, 101, 100, 10] := by
    unfold linesB lineB
    simp only [toList_dataE]
    rw [List.flatMap_cons, List.flatMap_nil, show iV2.unit = 2 from rfl, itoa2]
    rfl
  unfold printR
  rw [h]
  dsimp only
  rw [hl]
  rfl
theorem dIds : idsF iT iT = [1, 2, 5, 9] := by
  refine asc_ext (ids_ord _ _) (by unfold Asc; simp) fun x => ?_
  rw [ids_mem]
  simp [iT, iB]
  omega
theorem dF6 : difR iT iT iL iVa iA sEn = ([1, 5], 0) := by
  have hA : ofI iT iL iA = 0 := ofI_zero.2 ⟨iTRight, iARight⟩
  have hl : lanI sEn = 0 := lanI_zero.2 (by decide +kernel)
  have hd : ∀ id, (brFind iB id).isSome = true → difB iT iT iL iVa iA sEn id = !decide (((((List.range 8).map fun (i : Nat) => (i : Int) + 1).filterMap fun n => effD iB iL iVa id n sEn).map (atU id)) = ((((List.range 8).map fun (i : Nat) => (i : Int) + 1).filterMap fun n => effD iB iL iA id n sEn).map (atU id))) := fun id h => by
    unfold difB
    rw [dAll iVaRight h (by decide +kernel), dAll iARight h (by decide +kernel)]
    simp
  unfold difR
  rw [dOf, hA, hl, if_pos (show orF [0, 0, 0] = 0 from rfl), dIds]
  have h1 : difB iT iT iL iVa iA sEn 1 = true := by rw [hd 1 (by decide +kernel)]; decide +kernel
  have h2 : difB iT iT iL iVa iA sEn 2 = false := by rw [hd 2 (by decide +kernel)]; decide +kernel
  have h5 : difB iT iT iL iVa iA sEn 5 = true := by rw [hd 5 (by decide +kernel)]; decide +kernel
  have h9 : difB iT iT iL iVa iA sEn 9 = false := by rw [hd 9 (by decide +kernel)]; decide +kernel
  simp [h1, h2, h5, h9]
end Go.Proofs.YtjaknioojpgkiaaGreatDoor
