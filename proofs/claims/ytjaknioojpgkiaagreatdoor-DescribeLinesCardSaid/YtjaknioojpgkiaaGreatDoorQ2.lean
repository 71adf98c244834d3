/- Lemmas on what the functions of the program and of the library compute: PlainT, PlainH, Shelf2, Shelf, A1, A2, Gr, T1, T2. The conditions stand at each. -/
import Derived.Test.YtjaknioojpgkiaaGreatDoorQ1
import Derived.Shelf.Small.Bits
import Derived.Shelf.Small.Strs
import Derived.Shelf.Small.Wraps
import Derived.Shelf.LaysM
import Derived.Shelf.Strconv.Itoa3
import Derived.Shelf.Strings.Search3
import Derived.Shelf.Strings.Cut
import Derived.Shelf.Strings.Shaped
import Derived.Shelf.Sort.Plain
import Derived.Shelf.Strings.Prefix
import Derived.Shelf.Strings.FuncGrows
import Derived.Ground.Names2Prog
import Derived.Shelf.Slices.CompactI
import Derived.Shelf.Slices.CompactS
import Derived.Shelf.Slices.SearchI
import Derived.Shelf.Slices.In.SortNone
import Derived.Ground.SlsfProg
import Derived.Shelf.SlSortCmp.Insertion
import Derived.Test.YtjaknioojpgkiaaGreatDoorProg
import Derived.Shelf.Strings.SlTrimAscii
import Derived.Ground.NamesProg
import Derived.Shelf.SlGeneric
import Derived.Lib.AppendIntMem
import Derived.BigQuiet
/- What is right of a tree, plainly. No condition. -/
namespace Go.Proofs.YtjaknioojpgkiaaGreatDoor
open Go.RowKit

def brFind (l : List Br) (id : Int) : Option Br := l.find? fun b => b.id == id
def brIdx (l : List Br) (id : Int) : Int := idxP (fun b => b.id == id) l
def fitsF (p c : Int) : Bool := within p 1 4 && (within c 1 4 && (decide (p < c) || (p == 2 && c == 2)))
def markOk (l : List Br) (i : Nat) (m : ByteArray) : Prop := m.toList.isEmpty = false → markF m.data.toList = true ∧ (l.take i).any (fun b => b.mark.toList == m.toList) = false
def BrAlone (l : List Br) (i : Nat) (h : i < l.length) : Prop :=
  within l[i].id 1 1073741824 = true ∧ within l[i].level 1 4 = true ∧ (0 < i → (l[i - 1]'(by omega)).id < l[i].id) ∧ nameF l[i].title.data.toList = true ∧ markOk l i l[i].mark
def BrPlaced (l : List Br) (b : Br) : Prop := if b.parent = 0 then b.level = 1 else ∃ p, brFind l b.parent = some p ∧ b.level ≠ 1 ∧ fitsF p.level b.level = true
def kidsOf (l : List Br) (id : Int) : List Int := (l.filter fun b => b.parent == id).map Br.id
def sortI (l : List Int) : List Int := l.mergeSort fun x y => decide (x ≤ y)
/-- How many units are on the way to the top. -/
def deep (l : List Br) : Nat → Br → Option Nat
  | 0, b => if b.parent = 0 then some 1 else none
  | n + 1, b => if b.parent = 0 then some 1 else match brFind l b.parent with
    | none => none
    | some p => (deep l n p).map (· + 1)
def BrDeep (l : List Br) (b : Br) : Prop := ∃ d, deep l l.length b = some d ∧ d ≤ 12
/-- A right tree. -/
def RightT (t : Tr) : Prop := t.brs.length ≤ 256 ∧ (∀ i (h : i < t.brs.length), BrAlone t.brs i h) ∧ (∀ i (h : i < t.brs.length), BrPlaced t.brs t.brs[i]) ∧ (∀ i (h : i < t.brs.length), sortI t.brs[i].kids = kidsOf t.brs t.brs[i].id) ∧
  sortI t.roots = kidsOf t.brs 0 ∧ ∀ i (h : i < t.brs.length), BrDeep t.brs t.brs[i]
theorem brIdx_none {l : List Br} {id : Int} (h : brFind l id = none) : brIdx l id = -1 := by
  refine idxP_miss _ l (fun i hi => ?_)
  have := List.find?_eq_none.1 h l[i] (List.getElem_mem hi)
  simpa using this
theorem brIdx_some {l : List Br} {id : Int} {b : Br} (h : brFind l id = some b) : ∃ k, ∃ hk : k < l.length, brIdx l id = (k : Int) ∧ l[k] = b := by
  obtain ⟨hb, k, hk, e, hbef⟩ := List.find?_eq_some_iff_getElem.1 h
  refine ⟨k, hk, idxP_hit _ l k hk (by rw [e]; exact hb) (fun i hi hik => by simpa using hbef i hik), e⟩
end Go.Proofs.YtjaknioojpgkiaaGreatDoor

/- Ascending lists of numbers, and the holders of a role, plainly. No condition. -/
namespace Go.Proofs.YtjaknioojpgkiaaGreatDoor
open Go.RowKit

def Asc (l : List Int) : Prop := l.Pairwise (· < ·)
theorem asc_ext : ∀ {l m : List Int}, Asc l → Asc m → (∀ x, x ∈ l ↔ x ∈ m) → l = m
  | [], [], _, _, _ => rfl
  | [], y :: m, _, _, h => by have := (h y).2 (by simp); simp at this
  | x :: l, [], _, _, h => by have := (h x).1 (by simp); simp at this
  | x :: l, y :: m, hl, hm, h => by
    have hl' := List.pairwise_cons.1 hl
    have hm' := List.pairwise_cons.1 hm
    have hxy : x = y := by
      have h1 := (h x).1 (by simp)
      have h2 := (h y).2 (by simp)
      rcases List.mem_cons.1 h1 with e | h1
      · exact e
      · rcases List.mem_cons.1 h2 with e | h2
        · exact e.symm
        · have a := hm'.1 x h1
          have b := hl'.1 y h2
          omega
    subst hxy
    rw [asc_ext hl'.2 hm'.2 (fun z => ?_)]
    constructor
    · intro hz
      have h1 := (h z).1 (by simp [hz])
      rcases List.mem_cons.1 h1 with e | h1
      · subst e
        have := hl'.1 z hz
        omega
      · exact h1
    · intro hz
      have h1 := (h z).2 (by simp [hz])
      rcases List.mem_cons.1 h1 with e | h1
      · subst e
        have := hm'.1 z hz
        omega
      · exact h1
theorem mem_insU (n x : Int) : ∀ l : List Int, x ∈ insU n l ↔ x = n ∨ x ∈ l
  | [] => by simp [insU]
  | y :: r => by
    unfold insU
    split
    · rw [List.mem_cons, mem_insU n x r, List.mem_cons]
      constructor
      · rintro (h | h | h)
        · exact .inr (.inl h)
        · exact .inl h
        · exact .inr (.inr h)
      · rintro (h | h | h)
        · exact .inr (.inl h)
        · exact .inl h
        · exact .inr (.inr h)
    · split
      · rename_i h
        subst h
        simp
      · simp
theorem asc_insU (n : Int) : ∀ l : List Int, Asc l → Asc (insU n l)
  | [], _ => by simp [insU, Asc]
  | y :: r, h => by
    have h' := List.pairwise_cons.1 h
    unfold insU
    split
    · rename_i hy
      refine List.pairwise_cons.2 ⟨fun z hz => ?_, asc_insU n r h'.2⟩
      rcases (mem_insU n z r).1 hz with e | hz
      · omega
      · exact h'.1 z hz
    · split
      · exact h
      · refine List.pairwise_cons.2 ⟨fun z hz => ?_, h⟩
        rcases List.mem_cons.1 hz with e | hz
        · omega
        · have := h'.1 z hz
          omega
theorem sortI_asc (l : List Int) (h : l.Nodup) : Asc (sortI l) := by
  have h1 : (sortI l).Pairwise fun a b => decide (a ≤ b) = true := List.pairwise_mergeSort (fun a b c => by simp; omega) (fun a b => by simp; omega) l
  have h2 : (sortI l).Nodup := (List.mergeSort_perm l _).nodup_iff.2 h
  refine List.Pairwise.imp₂ (R := fun a b => decide (a ≤ b) = true) (S := (· ≠ ·)) (fun a b k1 k2 => ?_) h1 h2
  simp at k1
  omega
theorem mem_sortI (l : List Int) (x : Int) : x ∈ sortI l ↔ x ∈ l := (List.mergeSort_perm l _).mem_iff
end Go.Proofs.YtjaknioojpgkiaaGreatDoor

/-
  DERIVED: THE SHELF's CONTRACTS AT THIS DUMP, IN PLAIN WORDS (tools/lay-plain.mjs out of 'YtjaknioojpgkiaaGreatDoorShelf2.lean', which tools/lay-shelf.mjs wrote): THE SAME DECLARATIONS UNDER THE SAME NAMES: 'import', 'namespace', 'open', 'def', 'theorem' AND NOTHING ELSE: no command of the shelf's: FOR A HAND-IN. Each laying: the table of numbers ('.._ren') and one theorem, a field a fact of the dump's own or the kernel's comparison; each contract: ONE APPLICATION.
-/
namespace Go.Proofs
open Go.Shelf
def Tryz.laysM171_ren : Go.Shelf.Ren := ⟨fun | 171 => 128 | 243 => 182 | 246 => 224 | 283 => 252 | 284 => 253 | 285 => 254 | 286 => 255 | 129 => 156 | 317 => 270 | 318 => 271 | 319 => 272 | 320 => 273 | 337 => 280 | 338 => 281 | n => n, fun | 3 => 3 | 9 => 9 | 2 => 2 | 4 => 4 | 171 => 239 | 0 => 0 | 53 => 181 | 37 => 106 | 5 => 5 | 173 => 241 | 212 => 254 | 51 => 179 | 20 => 20 | 213 => 255 | 46 => 135 | 232 => 267 | 233 => 268 | n => n, fun | 17 => 3 | 18 => 4 | 19 => 5 | n => n⟩
theorem Tryz.laysM171 : Go.Proofs.LaysM.n171 Tryz.prog Tryz.laysM171_ren := {
  mixed := by kernel_rfl
  f129 := Tryz.func156.trans (congrArg some (by kernel_rfl))
  f171 := Tryz.func128.trans (congrArg some (by kernel_rfl))
  f243 := Tryz.func182.trans (congrArg some (by kernel_rfl))
  f246 := Tryz.func224.trans (congrArg some (by kernel_rfl))
  f283 := Tryz.func252.trans (congrArg some (by kernel_rfl))
  f284 := Tryz.func253.trans (congrArg some (by kernel_rfl))
  f285 := Tryz.func254.trans (congrArg some (by kernel_rfl))
  f286 := Tryz.func255.trans (congrArg some (by kernel_rfl))
  f317 := Tryz.func270.trans (congrArg some (by kernel_rfl))
  f318 := Tryz.func271.trans (congrArg some (by kernel_rfl))
  f319 := Tryz.func272.trans (congrArg some (by kernel_rfl))
  f320 := Tryz.func273.trans (congrArg some (by kernel_rfl))
  f337 := Tryz.func280.trans (congrArg some (by kernel_rfl))
  f338 := Tryz.func281.trans (congrArg some (by kernel_rfl))
  t0 := Tryz.underlying0
  a0 := Tryz.isAgg0
  z0 := Tryz.sizeOf0
  v0 := Tryz.zeroValue0
  t2 := Tryz.underlying2
  a2 := Tryz.isAgg2
  z2 := Tryz.sizeOf2
  v2 := Tryz.zeroValue2
  t3 := Tryz.underlying3
  a3 := Tryz.isAgg3
  z3 := Tryz.sizeOf3
  v3 := Tryz.zeroValue3
  t4 := Tryz.underlying4
  a4 := Tryz.isAgg4
  z4 := Tryz.sizeOf4
  v4 := Tryz.zeroValue4
  t5 := Tryz.underlying5
  a5 := Tryz.isAgg5
  z5 := Tryz.sizeOf5
  v5 := Tryz.zeroValue5
  t9 := Tryz.underlying9
  a9 := Tryz.isAgg9
  z9 := Tryz.sizeOf9
  v9 := Tryz.zeroValue9
  t20 := Tryz.underlying20
  a20 := Tryz.isAgg20
  z20 := Tryz.sizeOf20
  v20 := Tryz.zeroValue20
  t37 := Tryz.underlying106
  a37 := Tryz.isAgg106
  z37 := Tryz.sizeOf106
  v37 := Tryz.zeroValue106
  t46 := Tryz.underlying135
  a46 := Tryz.isAgg135
  z46 := Tryz.sizeOf135
  v46 := Tryz.zeroValue135
  t51 := Tryz.underlying179
  a51 := Tryz.isAgg179
  z51 := Tryz.sizeOf179
  v51 := Tryz.zeroValue179
  t53 := Tryz.underlying181
  a53 := Tryz.isAgg181
  z53 := Tryz.sizeOf181
  v53 := Tryz.zeroValue181
  t171 := Tryz.underlying239
  a171 := Tryz.isAgg239
  z171 := Tryz.sizeOf239
  v171 := Tryz.zeroValue239
  t173 := Tryz.underlying241
  a173 := Tryz.isAgg241
  z173 := Tryz.sizeOf241
  v173 := Tryz.zeroValue241
  t212 := Tryz.underlying254
  a212 := Tryz.isAgg254
  z212 := Tryz.sizeOf254
  v212 := Tryz.zeroValue254
  t213 := Tryz.underlying255
  a213 := Tryz.isAgg255
  z213 := Tryz.sizeOf255
  t232 := Tryz.underlying267
  a232 := Tryz.isAgg267
  z232 := Tryz.sizeOf267
  v232 := Tryz.zeroValue267
  t233 := Tryz.underlying268
  a233 := Tryz.isAgg268
  z233 := Tryz.sizeOf268
  v233 := Tryz.zeroValue268
  g17 := by kernel_rfl
  g18 := by kernel_rfl
  g19 := by kernel_rfl
  i0 := by kernel_rfl
  i2 := by kernel_rfl
  i3 := by kernel_rfl
  i4 := by kernel_rfl
  i5 := by kernel_rfl
  i9 := by kernel_rfl
  i20 := by kernel_rfl
  i37 := by kernel_rfl
  i46 := by kernel_rfl
  i51 := by kernel_rfl
  i53 := by kernel_rfl
  i171 := by kernel_rfl
  i173 := by kernel_rfl
  i212 := by kernel_rfl
  i232 := by kernel_rfl
  i233 := by kernel_rfl
  m17 := by kernel_rfl
  m18 := by kernel_rfl
  m19 := by kernel_rfl }
open Go.RowKit Go.Sort Go.Lib in
theorem Tryz.strconv_Itoa (n : Int) (h0 : -9223372036854775808 ≤ n) (h1 : n ≤ 9223372036854775807) (w : World) (htab : Lib.TabIs Tryz.prog w "internal/strconv.uint64pow10" .u64 Lib.pow10Tab) :
    Calls Tryz.prog 128 #[.int .i64 n] w fun e w' => e = .returned (.string ⟨(Lib.itoa n).toArray⟩) ∧ ∃ k os, w' = grow (w.drewN k) os := Any.strconv_Itoa Tryz.laysM171 n h0 h1 w htab
end Go.Proofs

/-
  DERIVED: THE SHELF's CONTRACTS AT THIS DUMP, IN PLAIN WORDS (tools/lay-plain.mjs out of 'YtjaknioojpgkiaaGreatDoorShelf.lean', which tools/lay-shelf.mjs wrote): THE SAME DECLARATIONS UNDER THE SAME NAMES: 'import', 'namespace', 'open', 'def', 'theorem' AND NOTHING ELSE: no command of the shelf's: FOR A HAND-IN. Each laying: the table of numbers ('.._ren') and one theorem, a field a fact of the dump's own or the kernel's comparison; each contract: ONE APPLICATION.
-/
namespace Go.Proofs
open Go.Shelf
def Tryz.lays106_ren : Go.Shelf.Ren := ⟨fun | 106 => 117 | 213 => 160 | 265 => 208 | n => n, fun | 9 => 9 | 3 => 3 | n => n, fun | n => n⟩
theorem Tryz.lays106 : Go.Proofs.Lays.n106 Tryz.prog Tryz.lays106_ren := {
  mixed := by kernel_rfl
  f106 := Tryz.func117.trans (congrArg some (by kernel_rfl))
  f213 := Tryz.func160.trans (congrArg some (by kernel_rfl))
  f265 := Tryz.func208.trans (congrArg some (by kernel_rfl))
  t3 := Tryz.underlying3
  a3 := Tryz.isAgg3
  z3 := Tryz.sizeOf3
  v3 := Tryz.zeroValue3
  t9 := Tryz.underlying9
  a9 := Tryz.isAgg9
  z9 := Tryz.sizeOf9
  v9 := Tryz.zeroValue9 }
open Go.RowKit in
theorem Tryz.strings_Compare (a b : ByteArray) (w : World) :
    Calls Tryz.prog 117 #[.string a, .string b] w fun e w' => e = .returned (.int .i64 (Lib.compareBytes a.data.toList b.data.toList)) ∧ w' = w := Any.strings_Compare Tryz.lays106 a b w
def Tryz.lays122_ren : Go.Shelf.Ren := ⟨fun | 122 => 116 | 215 => 159 | n => n, fun | 3 => 3 | 4 => 4 | n => n, fun | n => n⟩
theorem Tryz.lays122 : Go.Proofs.Lays.n122 Tryz.prog Tryz.lays122_ren := {
  mixed := by kernel_rfl
  f122 := Tryz.func116.trans (congrArg some (by kernel_rfl))
  f215 := Tryz.func159.trans (congrArg some (by kernel_rfl))
  t3 := Tryz.underlying3
  a3 := Tryz.isAgg3
  z3 := Tryz.sizeOf3
  v3 := Tryz.zeroValue3
  t4 := Tryz.underlying4
  a4 := Tryz.isAgg4
  z4 := Tryz.sizeOf4
  v4 := Tryz.zeroValue4 }
open Go.RowKit in
theorem Tryz.cmp_Compare_int (x y : Int) (w : World) :
    Calls Tryz.prog 116 #[.int .i64 x, .int .i64 y] w fun e w' => e = .returned (.int .i64 (Lib.compareInt x y)) ∧ w' = w := Any.cmp_Compare_int Tryz.lays122 x y w
def Tryz.lays144_ren : Go.Shelf.Ren := ⟨fun | 144 => 38 | 143 => 100 | 219 => 141 | 217 => 138 | 225 => 198 | 224 => 199 | 267 => 200 | 266 => 197 | 314 => 240 | n => n, fun | 9 => 9 | 4 => 4 | 3 => 3 | 5 => 5 | 46 => 135 | 146 => 230 | 51 => 179 | n => n, fun | 1 => 0 | n => n⟩
theorem Tryz.lays144 : Go.Proofs.Lays.n144 Tryz.prog Tryz.lays144_ren := {
  mixed := by kernel_rfl
  f143 := Tryz.func100.trans (congrArg some (by kernel_rfl))
  f144 := Tryz.func38.trans (congrArg some (by kernel_rfl))
  f217 := Tryz.func138.trans (congrArg some (by kernel_rfl))
  f219 := Tryz.func141.trans (congrArg some (by kernel_rfl))
  f224 := Tryz.func199.trans (congrArg some (by kernel_rfl))
  f225 := Tryz.func198.trans (congrArg some (by kernel_rfl))
  f266 := Tryz.func197.trans (congrArg some (by kernel_rfl))
  f267 := Tryz.func200.trans (congrArg some (by kernel_rfl))
  f314 := Tryz.func240.trans (congrArg some (by kernel_rfl))
  t3 := Tryz.underlying3
  a3 := Tryz.isAgg3
  z3 := Tryz.sizeOf3
  v3 := Tryz.zeroValue3
  t4 := Tryz.underlying4
  a4 := Tryz.isAgg4
  z4 := Tryz.sizeOf4
  v4 := Tryz.zeroValue4
  t5 := Tryz.underlying5
  a5 := Tryz.isAgg5
  z5 := Tryz.sizeOf5
  v5 := Tryz.zeroValue5
  t9 := Tryz.underlying9
  a9 := Tryz.isAgg9
  z9 := Tryz.sizeOf9
  v9 := Tryz.zeroValue9
  t46 := Tryz.underlying135
  a46 := Tryz.isAgg135
  z46 := Tryz.sizeOf135
  v46 := Tryz.zeroValue135
  t51 := Tryz.underlying179
  a51 := Tryz.isAgg179
  z51 := Tryz.sizeOf179
  v51 := Tryz.zeroValue179
  t146 := Tryz.underlying230
  a146 := Tryz.isAgg230
  z146 := Tryz.sizeOf230
  v146 := Tryz.zeroValue230
  g1 := by kernel_rfl }
open Go.RowKit Go.Lib in
theorem Tryz.strings_Contains (s sub : ByteArray) (m : Int) (w : World) (hs : s.size < 4294967281) (hm : w.cell? ⟨0, 0, none⟩ = some (.int .i64 m)) :
    Calls Tryz.prog 38 #[.string s, .string sub] w fun e w' => e = .returned (.bool (Lib.contains s.data.toList sub.data.toList)) ∧ w' = w := Any.strings_Contains Tryz.lays144 s sub m w hs hm
def Tryz.lays189_ren : Go.Shelf.Ren := ⟨fun | 189 => 72 | 125 => 107 | 257 => 125 | 128 => 155 | 129 => 156 | 294 => 171 | 295 => 172 | 296 => 173 | 297 => 174 | 298 => 175 | 299 => 176 | 216 => 177 | 300 => 178 | 301 => 179 | 328 => 220 | 329 => 204 | 330 => 205 | 331 => 221 | 332 => 222 | 215 => 159 | 343 => 251 | n => n, fun | 28 => 22 | 3 => 3 | 46 => 135 | 0 => 0 | 51 => 179 | 53 => 181 | 4 => 4 | 183 => 173 | 182 => 172 | 131 => 88 | 5 => 5 | 9 => 9 | 218 => 204 | 222 => 208 | 228 => 234 | 229 => 235 | n => n, fun | n => n⟩
theorem Tryz.lays189 : Go.Proofs.Lays.n189 Tryz.prog Tryz.lays189_ren := {
  mixed := by kernel_rfl
  f125 := Tryz.func107.trans (congrArg some (by kernel_rfl))
  f128 := Tryz.func155.trans (congrArg some (by kernel_rfl))
  f129 := Tryz.func156.trans (congrArg some (by kernel_rfl))
  f189 := Tryz.func72.trans (congrArg some (by kernel_rfl))
  f215 := Tryz.func159.trans (congrArg some (by kernel_rfl))
  f216 := Tryz.func177.trans (congrArg some (by kernel_rfl))
  f257 := Tryz.func125.trans (congrArg some (by kernel_rfl))
  f294 := Tryz.func171.trans (congrArg some (by kernel_rfl))
  f295 := Tryz.func172.trans (congrArg some (by kernel_rfl))
  f296 := Tryz.func173.trans (congrArg some (by kernel_rfl))
  f297 := Tryz.func174.trans (congrArg some (by kernel_rfl))
  f298 := Tryz.func175.trans (congrArg some (by kernel_rfl))
  f299 := Tryz.func176.trans (congrArg some (by kernel_rfl))
  f300 := Tryz.func178.trans (congrArg some (by kernel_rfl))
  f301 := Tryz.func179.trans (congrArg some (by kernel_rfl))
  f328 := Tryz.func220.trans (congrArg some (by kernel_rfl))
  f329 := Tryz.func204.trans (congrArg some (by kernel_rfl))
  f330 := Tryz.func205.trans (congrArg some (by kernel_rfl))
  f331 := Tryz.func221.trans (congrArg some (by kernel_rfl))
  f332 := Tryz.func222.trans (congrArg some (by kernel_rfl))
  f343 := Tryz.func251.trans (congrArg some (by kernel_rfl))
  t0 := Tryz.underlying0
  a0 := Tryz.isAgg0
  z0 := Tryz.sizeOf0
  v0 := Tryz.zeroValue0
  t3 := Tryz.underlying3
  a3 := Tryz.isAgg3
  z3 := Tryz.sizeOf3
  v3 := Tryz.zeroValue3
  t4 := Tryz.underlying4
  a4 := Tryz.isAgg4
  z4 := Tryz.sizeOf4
  v4 := Tryz.zeroValue4
  t5 := Tryz.underlying5
  a5 := Tryz.isAgg5
  z5 := Tryz.sizeOf5
  v5 := Tryz.zeroValue5
  t9 := Tryz.underlying9
  a9 := Tryz.isAgg9
  z9 := Tryz.sizeOf9
  v9 := Tryz.zeroValue9
  t28 := Tryz.underlying22
  a28 := Tryz.isAgg22
  z28 := Tryz.sizeOf22
  v28 := Tryz.zeroValue22
  t46 := Tryz.underlying135
  a46 := Tryz.isAgg135
  z46 := Tryz.sizeOf135
  v46 := Tryz.zeroValue135
  t51 := Tryz.underlying179
  a51 := Tryz.isAgg179
  z51 := Tryz.sizeOf179
  v51 := Tryz.zeroValue179
  t53 := Tryz.underlying181
  a53 := Tryz.isAgg181
  z53 := Tryz.sizeOf181
  v53 := Tryz.zeroValue181
  t131 := Tryz.underlying88
  a131 := Tryz.isAgg88
  z131 := Tryz.sizeOf88
  v131 := Tryz.zeroValue88
  t182 := Tryz.underlying172
  a182 := Tryz.isAgg172
  z182 := Tryz.sizeOf172
  v182 := Tryz.zeroValue172
  t183 := Tryz.underlying173
  a183 := Tryz.isAgg173
  z183 := Tryz.sizeOf173
  v183 := Tryz.zeroValue173
  t218 := Tryz.underlying204
  a218 := Tryz.isAgg204
  z218 := Tryz.sizeOf204
  v218 := Tryz.zeroValue204
  t222 := Tryz.underlying208
  a222 := Tryz.isAgg208
  z222 := Tryz.sizeOf208
  v222 := Tryz.zeroValue208
  t228 := Tryz.underlying234
  a228 := Tryz.isAgg234
  z228 := Tryz.sizeOf234
  v228 := Tryz.zeroValue234
  t229 := Tryz.underlying235
  a229 := Tryz.isAgg235
  z229 := Tryz.sizeOf235
  v229 := Tryz.zeroValue235 }
open Go.Sort Go.RowKit in
theorem Tryz.slices_Sort_int (blk off cap : Nat) (zs : List Int) (w : World) (hH : Holds (Value.int .i64) w blk off zs.toArray) (hblk : blk < w.heap.size) (hsz : zs.length < 4611686018427387904) :
    Calls Tryz.prog 72 #[.slice (some ⟨blk, off, none⟩) zs.length cap] w fun e w' =>
      e = .returned (.tuple #[]) ∧ ∃ n os, w' = grow (putRow (Value.int .i64) (Sort.ahead w n) blk off (zs.mergeSort fun x y => decide (x ≤ y)).toArray) os := Any.slices_Sort_int Tryz.lays189 blk off cap zs w hH hblk hsz
def Tryz.lays190_ren : Go.Shelf.Ren := ⟨fun | 190 => 265 | 125 => 107 | 258 => 278 | 128 => 155 | 129 => 156 | 302 => 283 | 303 => 284 | 304 => 285 | 305 => 286 | 306 => 287 | 307 => 288 | 308 => 289 | 309 => 290 | 310 => 291 | 333 => 293 | 329 => 204 | 330 => 205 | 334 => 294 | 335 => 295 | 336 => 296 | 344 => 297 | n => n, fun | 31 => 26 | 9 => 9 | 3 => 3 | 46 => 135 | 0 => 0 | 51 => 179 | 53 => 181 | 4 => 4 | 183 => 173 | 182 => 172 | 131 => 88 | 5 => 5 | 218 => 204 | 222 => 208 | 228 => 234 | 229 => 235 | n => n, fun | n => n⟩
theorem Tryz.lays190 : Go.Proofs.Lays.n190 Tryz.prog Tryz.lays190_ren := {
  mixed := by kernel_rfl
  f125 := Tryz.func107.trans (congrArg some (by kernel_rfl))
  f128 := Tryz.func155.trans (congrArg some (by kernel_rfl))
  f129 := Tryz.func156.trans (congrArg some (by kernel_rfl))
  f190 := Tryz.func265.trans (congrArg some (by kernel_rfl))
  f258 := Tryz.func278.trans (congrArg some (by kernel_rfl))
  f302 := Tryz.func283.trans (congrArg some (by kernel_rfl))
  f303 := Tryz.func284.trans (congrArg some (by kernel_rfl))
  f304 := Tryz.func285.trans (congrArg some (by kernel_rfl))
  f305 := Tryz.func286.trans (congrArg some (by kernel_rfl))
  f306 := Tryz.func287.trans (congrArg some (by kernel_rfl))
  f307 := Tryz.func288.trans (congrArg some (by kernel_rfl))
  f308 := Tryz.func289.trans (congrArg some (by kernel_rfl))
  f309 := Tryz.func290.trans (congrArg some (by kernel_rfl))
  f310 := Tryz.func291.trans (congrArg some (by kernel_rfl))
  f329 := Tryz.func204.trans (congrArg some (by kernel_rfl))
  f330 := Tryz.func205.trans (congrArg some (by kernel_rfl))
  f333 := Tryz.func293.trans (congrArg some (by kernel_rfl))
  f334 := Tryz.func294.trans (congrArg some (by kernel_rfl))
  f335 := Tryz.func295.trans (congrArg some (by kernel_rfl))
  f336 := Tryz.func296.trans (congrArg some (by kernel_rfl))
  f344 := Tryz.func297.trans (congrArg some (by kernel_rfl))
  t0 := Tryz.underlying0
  a0 := Tryz.isAgg0
  z0 := Tryz.sizeOf0
  v0 := Tryz.zeroValue0
  t3 := Tryz.underlying3
  a3 := Tryz.isAgg3
  z3 := Tryz.sizeOf3
  v3 := Tryz.zeroValue3
  t4 := Tryz.underlying4
  a4 := Tryz.isAgg4
  z4 := Tryz.sizeOf4
  v4 := Tryz.zeroValue4
  t5 := Tryz.underlying5
  a5 := Tryz.isAgg5
  z5 := Tryz.sizeOf5
  v5 := Tryz.zeroValue5
  t9 := Tryz.underlying9
  a9 := Tryz.isAgg9
  z9 := Tryz.sizeOf9
  v9 := Tryz.zeroValue9
  t31 := Tryz.underlying26
  a31 := Tryz.isAgg26
  z31 := Tryz.sizeOf26
  v31 := Tryz.zeroValue26
  t46 := Tryz.underlying135
  a46 := Tryz.isAgg135
  z46 := Tryz.sizeOf135
  v46 := Tryz.zeroValue135
  t51 := Tryz.underlying179
  a51 := Tryz.isAgg179
  z51 := Tryz.sizeOf179
  v51 := Tryz.zeroValue179
  t53 := Tryz.underlying181
  a53 := Tryz.isAgg181
  z53 := Tryz.sizeOf181
  v53 := Tryz.zeroValue181
  t131 := Tryz.underlying88
  a131 := Tryz.isAgg88
  z131 := Tryz.sizeOf88
  v131 := Tryz.zeroValue88
  t182 := Tryz.underlying172
  a182 := Tryz.isAgg172
  z182 := Tryz.sizeOf172
  v182 := Tryz.zeroValue172
  t183 := Tryz.underlying173
  a183 := Tryz.isAgg173
  z183 := Tryz.sizeOf173
  v183 := Tryz.zeroValue173
  t218 := Tryz.underlying204
  a218 := Tryz.isAgg204
  z218 := Tryz.sizeOf204
  v218 := Tryz.zeroValue204
  t222 := Tryz.underlying208
  a222 := Tryz.isAgg208
  z222 := Tryz.sizeOf208
  v222 := Tryz.zeroValue208
  t228 := Tryz.underlying234
  a228 := Tryz.isAgg234
  z228 := Tryz.sizeOf234
  v228 := Tryz.zeroValue234
  t229 := Tryz.underlying235
  a229 := Tryz.isAgg235
  z229 := Tryz.sizeOf235
  v229 := Tryz.zeroValue235 }
open Go.Sort Go.RowKit in
theorem Tryz.slices_Sort_string (blk off cap : Nat) (ss : List (List UInt8)) (w : World) (hH : Holds encStr w blk off ss.toArray) (hblk : blk < w.heap.size) (hsz : ss.length < 4611686018427387904) :
    Calls Tryz.prog 265 #[.slice (some ⟨blk, off, none⟩) ss.length cap] w fun e w' =>
      e = .returned (.tuple #[]) ∧ ∃ n os, w' = grow (putRow encStr (Sort.ahead w n) blk off (ss.mergeSort fun x y => decide (x ≤ y)).toArray) os := Any.slices_Sort_string Tryz.lays190 blk off cap ss w hH hblk hsz
def Tryz.laysGw17_ren : Go.Shelf.Ren := ⟨fun | 17 => 261 | 15 => 276 | 20 => 282 | n => n, fun | 9 => 9 | 23 => 245 | 4 => 4 | 3 => 3 | 0 => 0 | 21 => 21 | n => n, fun | n => n⟩
theorem Tryz.laysGw17 : Go.Proofs.LaysGw.n17 Tryz.prog Tryz.laysGw17_ren := {
  mixed := by kernel_rfl
  f15 := Tryz.func276.trans (congrArg some (by kernel_rfl))
  f17 := Tryz.func261.trans (congrArg some (by kernel_rfl))
  f20 := Tryz.func282.trans (congrArg some (by kernel_rfl))
  t0 := Tryz.underlying0
  a0 := Tryz.isAgg0
  z0 := Tryz.sizeOf0
  v0 := Tryz.zeroValue0
  i0 := by kernel_rfl
  t3 := Tryz.underlying3
  a3 := Tryz.isAgg3
  z3 := Tryz.sizeOf3
  v3 := Tryz.zeroValue3
  i3 := by kernel_rfl
  t4 := Tryz.underlying4
  a4 := Tryz.isAgg4
  z4 := Tryz.sizeOf4
  v4 := Tryz.zeroValue4
  i4 := by kernel_rfl
  t9 := Tryz.underlying9
  a9 := Tryz.isAgg9
  z9 := Tryz.sizeOf9
  v9 := Tryz.zeroValue9
  i9 := by kernel_rfl
  t21 := Tryz.underlying21
  a21 := Tryz.isAgg21
  z21 := Tryz.sizeOf21
  v21 := Tryz.zeroValue21
  i21 := by kernel_rfl
  t23 := Tryz.underlying245
  a23 := Tryz.isAgg245
  z23 := Tryz.sizeOf245
  v23 := Tryz.zeroValue245
  i23 := by kernel_rfl }
open Go.RowKit Go.Lib in
theorem Tryz.strings_ContainsFunc_grows (g : Nat) (lb : Array Value) (eg : ∀ args w, (callFunc g args).run Tryz.prog w = .ok (.enter g args) w) (p : Nat → Bool) (s : ByteArray) (w : World) (hp : PredGrows Tryz.prog g lb p w) :
    Calls Tryz.prog 261 #[.string s, .func (.func g) #[] lb] w fun e w' => e = .returned (.bool (decide (0 ≤ Lib.idxFunc p true s))) ∧ Below w.heap.size w w' := Any.strings_ContainsFunc_grows Tryz.laysGw17 g lb eg p s w hp
def Tryz.laysNm220_ren : Go.Shelf.Ren := ⟨fun | 20 => 73 | n => n, fun | 22 => 22 | 3 => 3 | 4 => 4 | 0 => 0 | n => n, fun | n => n⟩
theorem Tryz.laysNm220 : Go.Proofs.Lays2.n20 Tryz.prog Tryz.laysNm220_ren := {
  mixed := by kernel_rfl
  f20 := Tryz.func73.trans (congrArg some (by kernel_rfl))
  t0 := Tryz.underlying0
  a0 := Tryz.isAgg0
  z0 := Tryz.sizeOf0
  v0 := Tryz.zeroValue0
  t3 := Tryz.underlying3
  a3 := Tryz.isAgg3
  z3 := Tryz.sizeOf3
  v3 := Tryz.zeroValue3
  t4 := Tryz.underlying4
  a4 := Tryz.isAgg4
  z4 := Tryz.sizeOf4
  v4 := Tryz.zeroValue4
  t22 := Tryz.underlying22
  a22 := Tryz.isAgg22
  z22 := Tryz.sizeOf22
  v22 := Tryz.zeroValue22
  i3 := by kernel_rfl }
open Go.RowKit Go.Lib Go.Sort in
theorem Tryz.slices_Compact_int (blk off cap : Nat) (zs : List Int) (w : World) (hH : Holds (Value.int .i64) w blk off zs.toArray) (hsz : zs.length ≤ 9223372036854775807) (hcap : zs.length ≤ cap) :
    Calls Tryz.prog 73 #[.slice (some ⟨blk, off, none⟩) zs.length cap] w fun e w' => e = .returned (.slice (some ⟨blk, off, none⟩) (Lib.compact zs).length cap) ∧ ∃ q, w' = putRow (Value.int .i64) (Sort.ahead w q) blk off (Lib.compact zs ++ List.replicate (zs.length - (Lib.compact zs).length) 0).toArray := Any.slices_Compact_int Tryz.laysNm220 blk off cap zs w hH hsz hcap
open Go.RowKit Go.Lib Go.Sort in
theorem Tryz.slices_Compact_int_empty (a : Option Addr) (cap : Nat) (w : World) :
    Calls Tryz.prog 73 #[.slice a 0 cap] w fun e w' => e = .returned (.slice a 0 cap) ∧ w' = w := Any.slices_Compact_int_empty Tryz.laysNm220 a cap w
def Tryz.lays194_ren : Go.Shelf.Ren := ⟨fun | 194 => 236 | n => n, fun | 31 => 26 | 9 => 9 | 3 => 3 | 4 => 4 | 0 => 0 | n => n, fun | n => n⟩
theorem Tryz.lays194 : Go.Proofs.Lays.n194 Tryz.prog Tryz.lays194_ren := {
  mixed := by kernel_rfl
  f194 := Tryz.func236.trans (congrArg some (by kernel_rfl))
  t0 := Tryz.underlying0
  a0 := Tryz.isAgg0
  z0 := Tryz.sizeOf0
  v0 := Tryz.zeroValue0
  t3 := Tryz.underlying3
  a3 := Tryz.isAgg3
  z3 := Tryz.sizeOf3
  v3 := Tryz.zeroValue3
  t4 := Tryz.underlying4
  a4 := Tryz.isAgg4
  z4 := Tryz.sizeOf4
  v4 := Tryz.zeroValue4
  t9 := Tryz.underlying9
  a9 := Tryz.isAgg9
  z9 := Tryz.sizeOf9
  v9 := Tryz.zeroValue9
  t31 := Tryz.underlying26
  a31 := Tryz.isAgg26
  z31 := Tryz.sizeOf26
  v31 := Tryz.zeroValue26 }
open Go.RowKit Go.Lib Go.Sort in
theorem Tryz.slices_Compact_string (blk off cap : Nat) (zs : List (List UInt8)) (w : World) (hH : Holds encStr w blk off zs.toArray) (hsz : zs.length ≤ 9223372036854775807) (hcap : zs.length ≤ cap) :
    Calls Tryz.prog 236 #[.slice (some ⟨blk, off, none⟩) zs.length cap] w fun e w' => e = .returned (.slice (some ⟨blk, off, none⟩) (Lib.compact zs).length cap) ∧ ∃ q, w' = putRow encStr (Sort.ahead w q) blk off (Lib.compact zs ++ List.replicate (zs.length - (Lib.compact zs).length) []).toArray := Any.slices_Compact_string Tryz.lays194 blk off cap zs w hH hsz hcap
open Go.RowKit Go.Sort in
theorem Tryz.slices_Sort_int_none (p : Option Addr) (cap : Nat) (w : World) :
    Calls Tryz.prog 72 #[.slice p 0 cap] w fun e w' => e = .returned (.tuple #[]) ∧ w' = w := Any.slices_Sort_int_none Tryz.lays189 p cap w
def Tryz.lays160_ren : Go.Shelf.Ren := ⟨fun | 160 => 123 | 232 => 165 | 231 => 164 | 227 => 166 | 234 => 168 | 233 => 167 | 236 => 170 | 235 => 169 | 228 => 216 | 271 => 219 | 151 => 218 | 197 => 217 | 120 => 250 | 152 => 249 | 260 => 248 | 137 => 95 | 119 => 269 | 224 => 199 | 225 => 198 | 217 => 138 | 266 => 197 | n => n, fun | 9 => 9 | 4 => 4 | 3 => 3 | 5 => 5 | 117 => 186 | 116 => 185 | 0 => 0 | 124 => 189 | 21 => 21 | 105 => 214 | 46 => 135 | 119 => 249 | 139 => 252 | 138 => 251 | n => n, fun | 3 => 1 | 4 => 2 | n => n⟩
theorem Tryz.lays160 : Go.Proofs.Lays.n160 Tryz.prog Tryz.lays160_ren := {
  mixed := by kernel_rfl
  f119 := Tryz.func269.trans (congrArg some (by kernel_rfl))
  f120 := Tryz.func250.trans (congrArg some (by kernel_rfl))
  f137 := Tryz.func95.trans (congrArg some (by kernel_rfl))
  f151 := Tryz.func218.trans (congrArg some (by kernel_rfl))
  f152 := Tryz.func249.trans (congrArg some (by kernel_rfl))
  f160 := Tryz.func123.trans (congrArg some (by kernel_rfl))
  f197 := Tryz.func217.trans (congrArg some (by kernel_rfl))
  f217 := Tryz.func138.trans (congrArg some (by kernel_rfl))
  f224 := Tryz.func199.trans (congrArg some (by kernel_rfl))
  f225 := Tryz.func198.trans (congrArg some (by kernel_rfl))
  f227 := Tryz.func166.trans (congrArg some (by kernel_rfl))
  f228 := Tryz.func216.trans (congrArg some (by kernel_rfl))
  f231 := Tryz.func164.trans (congrArg some (by kernel_rfl))
  f232 := Tryz.func165.trans (congrArg some (by kernel_rfl))
  f233 := Tryz.func167.trans (congrArg some (by kernel_rfl))
  f234 := Tryz.func168.trans (congrArg some (by kernel_rfl))
  f235 := Tryz.func169.trans (congrArg some (by kernel_rfl))
  f236 := Tryz.func170.trans (congrArg some (by kernel_rfl))
  f260 := Tryz.func248.trans (congrArg some (by kernel_rfl))
  f266 := Tryz.func197.trans (congrArg some (by kernel_rfl))
  f271 := Tryz.func219.trans (congrArg some (by kernel_rfl))
  t0 := Tryz.underlying0
  a0 := Tryz.isAgg0
  z0 := Tryz.sizeOf0
  v0 := Tryz.zeroValue0
  t3 := Tryz.underlying3
  a3 := Tryz.isAgg3
  z3 := Tryz.sizeOf3
  v3 := Tryz.zeroValue3
  t4 := Tryz.underlying4
  a4 := Tryz.isAgg4
  z4 := Tryz.sizeOf4
  v4 := Tryz.zeroValue4
  t5 := Tryz.underlying5
  a5 := Tryz.isAgg5
  z5 := Tryz.sizeOf5
  v5 := Tryz.zeroValue5
  t9 := Tryz.underlying9
  a9 := Tryz.isAgg9
  z9 := Tryz.sizeOf9
  v9 := Tryz.zeroValue9
  t21 := Tryz.underlying21
  a21 := Tryz.isAgg21
  z21 := Tryz.sizeOf21
  v21 := Tryz.zeroValue21
  t46 := Tryz.underlying135
  a46 := Tryz.isAgg135
  z46 := Tryz.sizeOf135
  v46 := Tryz.zeroValue135
  t105 := Tryz.underlying214
  a105 := Tryz.isAgg214
  z105 := Tryz.sizeOf214
  v105 := Tryz.zeroValue214
  t116 := Tryz.underlying185
  a116 := Tryz.isAgg185
  z116 := Tryz.sizeOf185
  t117 := Tryz.underlying186
  a117 := Tryz.isAgg186
  z117 := Tryz.sizeOf186
  v117 := Tryz.zeroValue186
  t119 := Tryz.underlying249
  a119 := Tryz.isAgg249
  z119 := Tryz.sizeOf249
  t124 := Tryz.underlying189
  a124 := Tryz.isAgg189
  z124 := Tryz.sizeOf189
  v124 := Tryz.zeroValue189
  t138 := Tryz.underlying251
  a138 := Tryz.isAgg251
  z138 := Tryz.sizeOf251
  v138 := Tryz.zeroValue251
  t139 := Tryz.underlying252
  a139 := Tryz.isAgg252
  z139 := Tryz.sizeOf252
  v139 := Tryz.zeroValue252
  g3 := by kernel_rfl
  g4 := by kernel_rfl }
open Go.RowKit in
theorem Tryz.strings_Trim (s cutset : ByteArray) (w : World) (hs : s.size ≤ 9223372036854775807) (hcs : cutset.size < 4294967281) (hascii : ∀ (j : Nat) b, cutset.data.toList[j]? = some b → b.toNat < 128) :
    Calls Tryz.prog 123 #[.string s, .string cutset] w fun e w' => e = .returned (.string ⟨(Lib.trimS s.data.toList cutset.data.toList).toArray⟩) ∧ Below w.heap.size w w' := Any.strings_Trim_laid Tryz.lays160 (by kernel_rfl) s cutset w hs hcs hascii
def Tryz.insS_ren : Go.Shelf.Ren := ⟨fun | 20 => 267 | n => n, fun | 24 => 9 | 22 => 26 | 3 => 3 | 25 => 126 | 4 => 4 | 0 => 0 | n => n, fun | n => n⟩
theorem Tryz.insS : Go.Proofs.SlLaysF.n20 Tryz.prog Tryz.insS_ren := {
  mixed := by kernel_rfl
  f20 := ⟨Tryz.f267.name, by decide, Tryz.func267.trans (congrArg some (by kernel_rfl))⟩
  t0 := Tryz.underlying0
  a0 := Tryz.isAgg0
  z0 := Tryz.sizeOf0
  v0 := Tryz.zeroValue0
  t3 := Tryz.underlying3
  a3 := Tryz.isAgg3
  z3 := Tryz.sizeOf3
  v3 := Tryz.zeroValue3
  t4 := Tryz.underlying4
  a4 := Tryz.isAgg4
  z4 := Tryz.sizeOf4
  v4 := Tryz.zeroValue4
  t22 := Tryz.underlying26
  a22 := Tryz.isAgg26
  z22 := Tryz.sizeOf26
  v22 := Tryz.zeroValue26
  a24 := Tryz.isAgg9
  z24 := Tryz.sizeOf9
  t25 := Tryz.underlying126
  a25 := Tryz.isAgg126
  z25 := Tryz.sizeOf126
  v25 := Tryz.zeroValue126 }
open Go.RowKit Go.Sort Go.Lib in
theorem Tryz.insertionSortS (cf : ByteArray → ByteArray → Int) (g : Nat) (cb : Array Value) (blk off cap a b : Nat) (d : Array ByteArray) (w : World)
    (eg : ∀ args w, (callFunc g args).run Tryz.prog w = .ok (.enter g args) w) (hcmp : CmpReads Tryz.prog g cb Value.string cf blk off d.size w) (hH : Holds Value.string w blk off d) (hab : a ≤ b) (hb : b ≤ d.size) (hsz : d.size < 4611686018427387904) :
    Calls Tryz.prog 267 #[.slice (some ⟨blk, off, none⟩) d.size cap, .int .i64 a, .int .i64 b, .func (.func g) #[] cb] w fun e w' =>
      e = .returned (.tuple #[]) ∧ ∃ n, w' = (putRow Value.string w blk off (Sort.insertionSort (ltOf cf) d a b)).drewN n := Any.insertionSortCmpFunc_one Tryz.insS Value.string (fun _ => rfl) cf g cb blk off cap a b d w eg hcmp hH hab hb hsz
end Go.Proofs

/- The small functions that several packages repeat, walked. The condition on names: the library's own variable holds a number. -/
namespace Go.Proofs.YtjaknioojpgkiaaGreatDoor
open Go.RowKit

/-- What the library's own variables must hold: those that the program has. -/
def Env (w : World) : Prop := (∃ m : Int, w.cell? ⟨0, 0, none⟩ = some (.int .i64 m)) ∧ ∀ g, Tryz.prog.globalNamed "internal/strconv.uint64pow10" = some g → Lib.TabIs Tryz.prog w "internal/strconv.uint64pow10" .u64 Lib.pow10Tab
theorem Env.mono {w w' : World} (h : Env w) (hg : Grew w w') : Env w' := by
  obtain ⟨⟨m, hm⟩, ht⟩ := h
  exact ⟨⟨m, (hg.cell (p := ⟨0, 0, none⟩) (World.block_lt_of_cell? w _ hm)).trans hm⟩, fun g e => (Lib.tabBelow_of_tabIs (ht g e)) w' hg⟩
theorem size_data (s : ByteArray) : s.data.toList.length = s.size := by cases s; rfl
theorem head_at (s : ByteArray) (h : 0 < s.size) : s.data.toList.head? = some s[0] := by
  rw [List.head?_eq_getElem?, List.getElem?_eq_getElem (by rw [size_data]; exact h)]; rfl
theorem last_at (s : ByteArray) (h : s.size - 1 < s.size) : s.data.toList.getLast? = some s[s.size - 1] := by
  rw [List.getLast?_eq_getElem?, List.getElem?_eq_getElem (by rw [size_data]; exact h)]
  simp only [size_data]
  rfl
theorem is32 (b : UInt8) : (some b == some (32 : UInt8)) = ((b.toNat : Int) == 32) := by
  rw [Bool.eq_iff_iff, beq_iff_eq, beq_iff_eq, Option.some.injEq, ← UInt8.toNat_inj]
  have h2 : (32 : UInt8).toNat = 32 := rfl
  omega

theorem tWithin (n lo hi : Int) (w : World) : Calls Tryz.prog 229 #[.int .i64 n, .int .i64 lo, .int .i64 hi] w fun e w' => e = .returned (.bool (within n lo hi)) ∧ w = w' := by
  unfold within
  cases a1 : decide (lo ≤ n) <;> cases a2 : decide (n ≤ hi)
  all_goals
    go_enter Tryz.func229, Tryz.ntmps229
    go_wp2
    go_ret
    exact ⟨rfl, rfl⟩

theorem tName1 (x : Nat) (w : World) : Calls Tryz.prog 262 (#[.int .i32 (x : Int)] ++ #[]) w fun e w' => e = .returned (.bool (strange 32 126 x)) ∧ Below w.heap.size w w' := by
  have e1 : decide (x < 32) = decide ((x : Int) < 32) := by simp only [decide_eq_decide]; omega
  have e2 : decide (126 < x) = decide ((126 : Int) < (x : Int)) := by simp only [decide_eq_decide]; omega
  unfold strange
  rw [e1, e2]
  clear e1 e2
  cases a1 : decide ((x : Int) < 32) <;> cases a2 : decide ((126 : Int) < (x : Int))
  all_goals
    go_enter Tryz.func262, Tryz.ntmps262
    go_wp2
    go_ret
    exact ⟨rfl, Below.refl _ _⟩
theorem enters_tName1 : ∀ args w, (callFunc 262 args).run Tryz.prog w = .ok (.enter 262 args) w := enters_of Tryz.func262 (by kernel_rfl) rfl
theorem tNameAll (s : ByteArray) (w : World) : Calls Tryz.prog 261 #[.string s, .func (.func 262) #[] #[]] w fun e w' => e = .returned (.bool (!allIn 32 126 s.data.toList)) ∧ Grew w w' := by
  rw [← idx_strange 32 126 (by omega) s]
  exact Tryz.strings_ContainsFunc_grows _ #[] enters_tName1 (strange 32 126) s w (fun W x _ _ => tName1 x W)

set_option maxHeartbeats 2000000 in
theorem tName (s : ByteArray) (w : World) (hE : Env w) : Calls Tryz.prog 230 #[.string s] w fun e w' => e = .returned (.bool (nameF s.data.toList)) ∧ Grew w w' := by
  have hsd := size_data s
  by_cases h0 : s.size < 1
  · have hN : nameF s.data.toList = false := by simp only [nameF, hsd]; rw [decide_eq_false (by omega)]; rfl
    rw [hN]
    have h0' : (s.size : Int) < 1 := by omega
    clear hsd hN hE
    go_enter Tryz.func230, Tryz.ntmps230
    go_wp2
    go_ret
    exact ⟨rfl, Grew.refl w⟩
  have h0' : decide ((s.size : Int) < 1) = false := by simp; omega
  by_cases h1 : 64 < s.size
  · have hN : nameF s.data.toList = false := by simp only [nameF, hsd]; rw [decide_eq_false (by omega)]; rfl
    rw [hN]
    have h1' : (64 : Int) < (s.size : Int) := by omega
    clear hsd hN hE
    go_enter Tryz.func230, Tryz.ntmps230
    go_wp2
    go_ret
    exact ⟨rfl, Grew.refl w⟩
  have h1' : decide ((64 : Int) < (s.size : Int)) = false := by simp; omega
  have hz0 : 0 < s.size := by omega
  have hs64 : s.size ≤ 64 := by omega
  have hz1 : s.size - 1 < s.size := by omega
  have hN : nameF s.data.toList = (!((s[0].toNat : Int) == 32) && (!((s[s.size - 1].toNat : Int) == 32) && (!Lib.contains s.data.toList [32, 32] && allIn 32 126 s.data.toList))) := by
    simp only [nameF, hsd, head_at s hz0, last_at s hz1, is32]
    rw [decide_eq_true (by omega)]
    rfl
  rw [hN]
  have hi1 : (0 : Int) ≤ (s.size : Int) - 1 := by omega
  have hi2 : (s.size : Int) - 1 < (s.size : Int) := by omega
  obtain ⟨⟨m, hm⟩, -⟩ := hE
  have kc : Calls Tryz.prog 38 #[.string s, .string ⟨#[32, 32]⟩] w fun e w' => e = .returned (.bool (Lib.contains s.data.toList [32, 32])) ∧ w = w' := (Tryz.strings_Contains s ⟨#[32, 32]⟩ m w (by omega) hm).mono fun _ _ h => ⟨h.1, h.2.symm⟩
  have kf := tNameAll s w
  generalize Lib.contains s.data.toList [32, 32] = c at kc
  generalize allIn 32 126 s.data.toList = al at kf
  have KC := Lib.hid kc
  have KF := Lib.hid kf
  clear hsd hN kc kf h0 h1 hm
  cases a1 : ((s[0].toNat : Int) == 32) with
  | true =>
    go_enter Tryz.func230, Tryz.ntmps230
    go_wp2
    go_ret
    exact ⟨rfl, Grew.refl w⟩
  | false =>
  cases a2 : ((s[s.size - 1].toNat : Int) == 32) with
  | true =>
    go_enter Tryz.func230, Tryz.ntmps230
    go_wp2
    go_ret
    exact ⟨rfl, Grew.refl w⟩
  | false =>
  cases c with
  | true =>
    go_enter Tryz.func230, Tryz.ntmps230
    go_wp2_with (first | (go_at_call 38; refine KC.out.mono ?_; rintro e w1 ⟨rfl, rfl⟩))
    go_ret
    exact ⟨rfl, Grew.refl w⟩
  | false =>
    go_enter Tryz.func230, Tryz.ntmps230
    go_wp2_with (first | (go_at_call 38; refine KC.out.mono ?_; rintro e w1 ⟨rfl, rfl⟩) | (go_at_call 261; refine KF.out.mono ?_; rintro e w2 ⟨rfl, hg⟩))
    go_ret
    exact ⟨ret_bool (by simp), hg⟩

theorem tMarks1 (x : Nat) (w : World) : Calls Tryz.prog 263 (#[.int .i32 (x : Int)] ++ #[]) w fun e w' => e = .returned (.bool (strange 33 126 x)) ∧ Below w.heap.size w w' := by
  have e1 : decide (x < 33) = decide ((x : Int) < 33) := by simp only [decide_eq_decide]; omega
  have e2 : decide (126 < x) = decide ((126 : Int) < (x : Int)) := by simp only [decide_eq_decide]; omega
  unfold strange
  rw [e1, e2]
  clear e1 e2
  cases a1 : decide ((x : Int) < 33) <;> cases a2 : decide ((126 : Int) < (x : Int))
  all_goals
    go_enter Tryz.func263, Tryz.ntmps263
    go_wp2
    go_ret
    exact ⟨rfl, Below.refl _ _⟩
theorem enters_tMarks1 : ∀ args w, (callFunc 263 args).run Tryz.prog w = .ok (.enter 263 args) w := enters_of Tryz.func263 (by kernel_rfl) rfl
theorem tMarksAll (s : ByteArray) (w : World) : Calls Tryz.prog 261 #[.string s, .func (.func 263) #[] #[]] w fun e w' => e = .returned (.bool (!allIn 33 126 s.data.toList)) ∧ Grew w w' := by
  rw [← idx_strange 33 126 (by omega) s]
  exact Tryz.strings_ContainsFunc_grows _ #[] enters_tMarks1 (strange 33 126) s w (fun W x _ _ => tMarks1 x W)

theorem tMarks (s : ByteArray) (w : World) : Calls Tryz.prog 231 #[.string s] w fun e w' => e = .returned (.bool (markF s.data.toList)) ∧ Grew w w' := by
  have hN : markF s.data.toList = (within (s.size : Int) 1 64 && allIn 33 126 s.data.toList) := by
    simp only [markF, size_data, within]
    congr 1
    rw [Bool.eq_iff_iff, decide_eq_true_eq, Bool.and_eq_true, decide_eq_true_eq, decide_eq_true_eq]
    omega
  rw [hN]
  have kw := tWithin (s.size : Int) 1 64 w
  have kf := tMarksAll s w
  generalize within (s.size : Int) 1 64 = c at kw
  generalize allIn 33 126 s.data.toList = al at kf
  have KW := Lib.hid kw
  have KF := Lib.hid kf
  clear kw kf hN
  cases c with
  | false =>
    go_enter Tryz.func231, Tryz.ntmps231
    go_wp2_with (first | (go_at_call 229; refine KW.out.mono ?_; rintro e w1 ⟨rfl, rfl⟩))
    go_ret
    exact ⟨rfl, Grew.refl w⟩
  | true =>
    go_enter Tryz.func231, Tryz.ntmps231
    go_wp2_with (first | (go_at_call 229; refine KW.out.mono ?_; rintro e w1 ⟨rfl, rfl⟩) | (go_at_call 261; refine KF.out.mono ?_; rintro e w2 ⟨rfl, hg⟩))
    go_ret
    exact ⟨ret_bool (by simp), hg⟩
end Go.Proofs.YtjaknioojpgkiaaGreatDoor

/- authority: names, alone: whether an authority is right by itself, walked. The condition: the library's own variables hold what they must. -/
namespace Go.Proofs.YtjaknioojpgkiaaGreatDoor
open Go.RowKit

/-- A call that answers with a number, which is 0 just if P holds. -/
def RetIff (P : Prop) (w : World) (e : Ending) (w' : World) : Prop := ∃ n : Int, e = .returned (.int .i64 n) ∧ (n = 0 ↔ P) ∧ Grew w w'
theorem RetIff.no {P : Prop} {w w' : World} (n : Int) (hn : n ≠ 0) (h : ¬ P) (hg : Grew w w') : RetIff P w (.returned (.int .i64 n)) w' := ⟨n, rfl, ⟨fun e => absurd e hn, fun e => absurd e h⟩, hg⟩
theorem RetIff.yes {P : Prop} {w w' : World} (h : P) (hg : Grew w w') : RetIff P w (.returned (.int .i64 0)) w' := ⟨0, rfl, ⟨fun _ => h, fun _ => rfl⟩, hg⟩

/-- A cell of the block that was made last, later. -/
theorem new_cell {w W : World} {cs : List Value} {t : TypeId} (h : Grew (w.alloc (.cells cs.toArray t)) W) (j : Nat) (v : Value) (hj : cs[j]? = some v) : W.cell? ⟨w.heap.size, j, none⟩ = some v := by
  have hlast : (w.alloc (.cells cs.toArray t)).heap[w.heap.size]? = some (.cells cs.toArray t) := heap_alloc_last w _
  rw [h.cell (p := ⟨w.heap.size, j, none⟩) (by simp), cell_of_row _ _ _ _ _ _ hlast]
  simpa using hj
end Go.Proofs.YtjaknioojpgkiaaGreatDoor

/- Regions that draw their order and whose calls make memory: one walk in the order of the text, in every world that grew out of one. No condition. -/
namespace Go.Proofs.YtjaknioojpgkiaaGreatDoor
open Go.RowKit

/-- A world that grew out of w. -/
structure Gr (w : World) where
  W : World
  g : Grew w W
instance (w : World) : Nonempty (Gr w) := ⟨⟨w, Grew.refl w⟩⟩
instance (w : World) : Inhabited (Gr w) := ⟨⟨w, Grew.refl w⟩⟩
theorem region_gr {P : Program} {id : Nat} {Q : Exit → Act → World → Prop} {a : Act} {w : World} {l : List Oper} (w0 : World) (hm : P.follows .mixedOrders = true) (hB : Region.lexB .any l.toArray = true) (hg : Grew w0 w)
    (h : wpQuiet P l.toArray (fun W' => ∃ i : Gr w0, W' = i.W) (fun a' => ∀ W', (∃ i : Gr w0, W' = i.W) → Q .normal a' W') l a) : (Code.region id l.toArray true).wp P Q a w :=
  wp_region_quiet (C := fun W' => ∃ i : Gr w0, W' = i.W) hm hB ⟨⟨w.drew, hg.drew⟩, rfl⟩ (by simpa using h)
theorem Gr.calls {P : Program} {f : FuncId} {args : Array Value} {w0 : World} (i : Gr w0) {v : Value} (h : Calls P f args i.W fun e w' => e = .returned v ∧ Grew i.W w') : Calls P f args i.W fun e w'' => e = .returned v ∧ ∃ j : Gr w0, w'' = j.W :=
  h.mono fun _ w' ⟨he, hg⟩ => ⟨he, ⟨w', i.g.trans hg⟩, rfl⟩
theorem Gr.same {P : Program} {f : FuncId} {args : Array Value} {w0 : World} (i : Gr w0) {v : Value} (h : Calls P f args i.W fun e w' => e = .returned v ∧ i.W = w') : Calls P f args i.W fun e w'' => e = .returned v ∧ ∃ j : Gr w0, w'' = j.W :=
  h.mono fun _ _ ⟨he, hg⟩ => ⟨he, i, hg.symm⟩
theorem Gr.cell {w0 : World} {p : Addr} {v : Value} (h : w0.cell? p = some v) : ∀ i : Gr w0, i.W.cell? p = some v := fun i => (i.g.cell (World.block_lt_of_cell? w0 _ h)).trans h
end Go.Proofs.YtjaknioojpgkiaaGreatDoor

/- tree: index, Fits, alone, walked. The condition: the library's own variables hold what they must. -/
namespace Go.Proofs.YtjaknioojpgkiaaGreatDoor
open Go.RowKit

theorem tIndex1 (B : Nat) (id : Int) (x : BrC) (W : World) (h0 : W.cell? ⟨B, 0, none⟩ = some (.int .i64 id)) :
    Calls Tryz.prog 192 (#[x.agg] ++ #[.pointer (some ⟨B, 0, none⟩)]) W fun e w' => e = .returned (.bool (x.id == id)) ∧ Grew W w' := by
  have hB := World.block_lt_of_cell? W _ h0
  unfold BrC.agg
  go_enter Tryz.func192, Tryz.ntmps192
  go_wp2
  go_ret
  exact ⟨rfl, by first | exact (Grew.refl W).alloc _ | exact ((Grew.refl W).alloc _).drew⟩
theorem enters_tIndex1 : ∀ args w, (callFunc 192 args).run Tryz.prog w = .ok (.enter 192 args) w := enters_of Tryz.func192 (by kernel_rfl) rfl
theorem tIndex (l : List Br) (id : Int) (rv bv : Value) (w : World) (hv : SlBr w bv l) : Calls Tryz.prog 133 #[.agg #[rv, bv], .int .i64 id] w fun e w' => e = .returned (.int .i64 (brIdx l id)) ∧ Grew w w' := by
  obtain ⟨A, c, rfl, -, -, -⟩ := hv.open_
  obtain ⟨cs, h1, h2, h3⟩ := hv
  have he : brIdx l id = idxP (fun c : BrC => c.id == id) cs := (idxP_rel cs l h2 (fun i h h' => by
    have := congrArg BrC.id (h3 i h h').1
    simp only [Br.c] at this
    rw [this])).symm
  have hix := indexFuncB cs (fun c => c.id == id) _ _ enters_tIndex1 (.slice A l.length c) ((w.alloc (.cells #[rv, .slice A l.length c] 25)).alloc (.cells #[.int .i64 id] 3)) (h1.mono (((Grew.refl w).alloc _).alloc _)) (fun W x hW _ => tIndex1 (w.heap.size + 1) id x W (by
    have := new_cell (cs := [.int .i64 id]) hW 0 _ rfl
    simpa using this))
  rw [he]
  generalize idxP (fun c : BrC => c.id == id) cs = r at hix
  have HX := Lib.hid hix
  clear hix h1 h3 he
  go_enter Tryz.func133, Tryz.ntmps133
  go_wp2_with (first | (go_at_call 191; refine HX.out.mono ?_; rintro e w1 ⟨rfl, hg⟩))
  go_ret
  exact ⟨rfl, (((Grew.refl w).alloc _).alloc _).trans hg⟩
theorem tFits (p c : Int) (w : World) : Calls Tryz.prog 234 #[.int .i64 p, .int .i64 c] w fun e w' => e = .returned (.bool (fitsF p c)) ∧ w = w' := by
  unfold fitsF
  have k1 := tWithin p 1 4 w
  have k2 := tWithin c 1 4 w
  generalize within p 1 4 = q1 at k1 ⊢
  generalize within c 1 4 = q2 at k2 ⊢
  have K1 := Lib.hid k1
  have K2 := Lib.hid k2
  clear k1 k2
  cases q1 with
  | false =>
    go_enter Tryz.func234, Tryz.ntmps234
    go_wp2_with fail
    refine K1.out.mono ?_
    rintro e w1 ⟨rfl, rfl⟩
    dsimp only
    go_wp2
    go_ret
    exact ⟨rfl, rfl⟩
  | true =>
  cases q2 with
  | false =>
    go_enter Tryz.func234, Tryz.ntmps234
    go_wp2_with fail
    refine K1.out.mono ?_
    rintro e w1 ⟨rfl, rfl⟩
    dsimp only
    go_wp2_with fail
    refine K2.out.mono ?_
    rintro e w1 ⟨rfl, rfl⟩
    dsimp only
    go_wp2
    go_ret
    exact ⟨rfl, rfl⟩
  | true =>
    cases a1 : decide (p < c) <;> cases a2 : (p == 2) <;> cases a3 : (c == 2)
    all_goals
      go_enter Tryz.func234, Tryz.ntmps234
      go_wp2_with fail
      refine K1.out.mono ?_
      rintro e w1 ⟨rfl, rfl⟩
      dsimp only
      go_wp2_with fail
      refine K2.out.mono ?_
      rintro e w1 ⟨rfl, rfl⟩
      dsimp only
      go_wp2
      go_ret
      exact ⟨rfl, rfl⟩
end Go.Proofs.YtjaknioojpgkiaaGreatDoor

/- tree.alone, walked. The condition: the library's own variables hold what they must. -/
namespace Go.Proofs.YtjaknioojpgkiaaGreatDoor
open Go.RowKit

theorem Rd.take {α : Type} {w : World} {k : Nat} {f : α → List Value} (hk : ∀ x, (f x).length = k) (h0 : 0 < k) {A : Option Addr} {n c : Nat} {l : List α} (hv : Rd w k (.slice A n c) (l.flatMap f)) (i : Nat) (hi : i ≤ l.length) : Rd w k (.slice A i c) ((l.take i).flatMap f) := by
  obtain ⟨A', n', c', hs, hl, hn, hc, hr⟩ := hv
  cases hs
  rw [flatMap_len f k hk] at hl
  have hln : l.length = n := Nat.eq_of_mul_eq_mul_right h0 hl
  refine ⟨A, i, c, rfl, ?_, by omega, hc, fun h1 => ?_⟩
  · rw [flatMap_len f k hk, List.length_take, Nat.min_eq_left hi]
  · obtain ⟨b, off, hA, hb, hcell⟩ := hr (by omega)
    refine ⟨b, off, hA, hb, fun j u hu => hcell j u ?_⟩
    conv => lhs; rw [← List.take_append_drop i l, List.flatMap_append]
    rw [List.getElem?_append_left]
    · exact hu
    · exact (List.getElem?_eq_some_iff.1 hu).1
theorem containsFuncB (l : List BrC) (p : BrC → Bool) (g : Nat) (lb : Array Value) (eg : ∀ args w, (callFunc g args).run Tryz.prog w = .ok (.enter g args) w) (v : Value) (w : World) (hv : SlB w v l)
    (hp : ∀ W x, Grew w W → x ∈ l → Calls Tryz.prog g (#[x.agg] ++ lb) W fun e w' => e = .returned (.bool (p x)) ∧ Grew W w') :
    Calls Tryz.prog 232 #[v, .func (.func g) #[] lb] w fun e w' => e = .returned (.bool (l.any p)) ∧ Grew w w' := by
  have hi := Lib.hid (indexFuncB l p g lb eg v w hv hp)
  have hd : decide (0 ≤ idxP p l) = l.any p := idxP_any p l
  generalize idxP p l = i at hi hd
  have Hd := Lib.hid hd
  clear hv hp hd
  go_enter Tryz.func232, Tryz.ntmps232
  go_wp2_with (first | (go_at_call 191; refine hi.out.mono ?_; rintro e w1 ⟨rfl, hg⟩))
  go_ret
  exact ⟨ret_bool Hd.out, hg⟩
theorem tAlone1 (C : Nat) (m : ByteArray) (x : BrC) (W : World) (h0 : W.cell? ⟨C, 4, none⟩ = some (.string m)) :
    Calls Tryz.prog 233 (#[x.agg] ++ #[.pointer (some ⟨C, 0, none⟩)]) W fun e w' => e = .returned (.bool (x.mark.toList == m.toList)) ∧ Grew W w' := by
  have hB := World.block_lt_of_cell? W _ h0
  unfold BrC.agg
  go_enter Tryz.func233, Tryz.ntmps233
  go_wp2
  go_ret
  exact ⟨rfl, by first | exact (Grew.refl W).alloc _ | exact ((Grew.refl W).alloc _).drew⟩
theorem enters_tAlone1 : ∀ args w, (callFunc 233 args).run Tryz.prog w = .ok (.enter 233 args) w := enters_of Tryz.func233 (by kernel_rfl) rfl
theorem any_rel {α β : Type} {p : α → Bool} {q : β → Bool} (l : List α) (m : List β) (h : l.length = m.length) (hr : ∀ i (h : i < l.length) (h' : i < m.length), p l[i] = q m[i]) : l.any p = m.any q := by
  rw [← idxP_any, ← idxP_any, idxP_rel l m h hr]
/-- Whether a mark is borne before the place i. -/
theorem tUsed (l : List Br) (i : Nat) (hi : i ≤ l.length) (A : Option Addr) (c C : Nat) (m : ByteArray) (w W : World) (hv : SlBr w (.slice A l.length c) l) (hW : Grew w W) (h0 : W.cell? ⟨C, 4, none⟩ = some (.string m)) :
    Calls Tryz.prog 232 #[.slice A i c, .func (.func 233) #[] #[.pointer (some ⟨C, 0, none⟩)]] W fun e w' => e = .returned (.bool ((l.take i).any fun b => b.mark.toList == m.toList)) ∧ Grew W w' := by
  obtain ⟨cs, h1, h2, h3⟩ := hv
  have he : ((l.take i).any fun b => b.mark.toList == m.toList) = ((cs.take i).any fun b => b.mark.toList == m.toList) := (any_rel (cs.take i) (l.take i) (by simp [h2]) (fun j h h' => by
    have hj : j < cs.length := by simp at h; omega
    have hj' : j < l.length := by simp at h'; omega
    have := congrArg BrC.mark (h3 j hj hj').1
    simp only [Br.c] at this
    simp only [List.getElem_take]
    rw [this])).symm
  rw [he]
  exact containsFuncB (cs.take i) (fun b => b.mark.toList == m.toList) _ _ enters_tAlone1 (.slice A i c) W (Rd.take (k := 6) (f := BrC.cells) (fun _ => rfl) (by omega) (show Rd W 6 _ (cs.flatMap BrC.cells) from h1.mono hW) i (by omega)) (fun W' x hW' _ => tAlone1 C m x W' ((hW'.cell (World.block_lt_of_cell? W _ h0)).trans h0))
/-- Cells of the two blocks that were made last, later. -/
theorem newer_cell {w W : World} {cs ds : List Value} {t u : TypeId} (h : Grew ((w.alloc (.cells ds.toArray u)).alloc (.cells cs.toArray t)) W) (j : Nat) (v : Value) (hj : cs[j]? = some v) : W.cell? ⟨w.heap.size + 1, j, none⟩ = some v := by
  have := new_cell h j v hj
  simpa using this
theorem tree_cell {w W : World} {cs ds : List Value} {t u : TypeId} (h : Grew ((w.alloc (.cells ds.toArray u)).alloc (.cells cs.toArray t)) W) (j : Nat) (v : Value) (hj : ds[j]? = some v) : W.cell? ⟨w.heap.size, j, none⟩ = some v :=
  new_cell (((Grew.refl _).alloc _).trans h) j v hj
set_option maxHeartbeats 4000000 in
theorem tAlone (l : List Br) (i : Nat) (hi : i < l.length) (rv bv : Value) (w : World) (hE : Env w) (hv : SlBr w bv l) :
    Calls Tryz.prog 186 #[.agg #[rv, bv], .int .i64 i] w (RetIff (BrAlone l i hi) w) := by
  have HV := Lib.hid hv
  have HE := Lib.hid hE
  obtain ⟨A, c, rfl, hlc, hc, hr⟩ := hv.open_
  unfold maxLen at hc
  obtain ⟨b, off, rfl, hbk, hcell⟩ := hr (by omega)
  obtain ⟨kv, -, hcl⟩ := hcell i hi
  obtain ⟨c0, c1, c2, c3, c4, -⟩ := hcl w (Grew.refl w)
  have HD : RowKit.Hid (BrAlone l i hi ↔ within l[i].id 1 1073741824 = true ∧ within l[i].level 1 4 = true ∧ (0 < i → (l[i - 1]'(by omega)).id < l[i].id) ∧ nameF l[i].title.data.toList = true ∧ markOk l i l[i].mark) := Iff.rfl
  have HPREV : RowKit.Hid (0 < i → ∀ W, Grew w W → W.cell? ⟨b, off + (i - 1) * 6, none⟩ = some (.int .i64 (l[i - 1]'(by omega)).id)) := fun h W hW => by
    obtain ⟨_, _, hq⟩ := hcell (i - 1) (by omega)
    exact (hq W hW).1
  have hiz : (i : Int) < (l.length : Int) := by omega
  have h0z : (0 : Int) ≤ (i : Int) := by omega
  have hic : (i : Int) ≤ (c : Int) := by omega
  generalize BrAlone l i hi = PA at HD ⊢
  generalize hp : (0 < i → (l[i - 1]'(by omega)).id < l[i].id) = PP at HD
  have hy : ∃ y, RowKit.Hid (l[i] = y) := ⟨_, rfl⟩
  obtain ⟨y, hy⟩ := hy
  rw [hy.out] at c0 c1 c2 c3 c4 HD hp
  obtain ⟨yi, yp, yl, yt, ym, yk⟩ := y
  dsimp only at c0 c1 c2 c3 c4 HD hp
  have HPP := Lib.hid hp
  have kw1 := tWithin yi 1 1073741824
  have kw2 := tWithin yl 1 4
  have kn := fun W (hW : Grew w W) => tName yt W (HE.out.mono hW)
  have km := tMarks ym
  have ku := fun W C (hW : Grew w W) h0 => tUsed l i (by omega) (some ⟨b, off, none⟩) c C ym w W HV.out hW h0
  have HMK : RowKit.Hid (markOk l i ym ↔ (ym.toList.isEmpty = false → markF ym.data.toList = true ∧ (l.take i).any (fun b => b.mark.toList == ym.toList) = false)) := Iff.rfl
  generalize markOk l i ym = PM at HD HMK
  generalize within yi 1 1073741824 = q1 at kw1 HD
  generalize within yl 1 4 = q2 at kw2 HD
  generalize nameF yt.data.toList = q3 at kn HD
  generalize markF ym.data.toList = q4 at km HMK
  generalize (l.take i).any (fun b => b.mark.toList == ym.toList) = q5 at ku HMK
  have KW1 := Lib.hid kw1
  have KW2 := Lib.hid kw2
  have KN := Lib.hid kn
  have KM := Lib.hid km
  have KU := Lib.hid ku
  clear hp kw1 kw2 kn km ku hcell hcl hr hv hE
  go_enter Tryz.func186, Tryz.ntmps186
  go_wp2_with fail
  refine (KW1.out _).mono ?_
  rintro e w1 ⟨rfl, rfl⟩
  have GB : Grew w ((w.alloc (.cells [rv, .slice (some ⟨b, off, none⟩) l.length c].toArray 25)).alloc (.cells [.int .i64 yi, .int .i64 yp, .int .i64 yl, .string yt, .string ym].toArray 54)) := ((Grew.refl w).alloc _).alloc _
  have HGB := Lib.hid GB
  clear GB
  cases q1 with
  | false =>
    have Hn : RowKit.Hid (¬ PA) := fun h => by have := (HD.out.1 h).1; cases this
    dsimp only
    go_wp2
    go_ret
    exact RetIff.no 2 (by decide) Hn.out HGB.out
  | true =>
  dsimp only
  go_wp2_with fail
  refine (KW2.out _).mono ?_
  rintro e w1 ⟨rfl, rfl⟩
  cases q2 with
  | false =>
    have Hn : RowKit.Hid (¬ PA) := fun h => by have := (HD.out.1 h).2.1; cases this
    dsimp only
    go_wp2
    go_ret
    exact RetIff.no 2 (by decide) Hn.out HGB.out
  | true =>
  dsimp only
  rcases Nat.eq_zero_or_pos i with hi0 | hipos
  · have HPREVOK : RowKit.Hid PP := HPP.out ▸ (fun h => absurd h (by omega))
    subst hi0
    go_wp2
    go_quiet (fail)
    go_wp2_with fail
    refine (KN.out _ (Grew.drewN HGB.out _)).mono ?_
    rintro e w2 ⟨rfl, g2⟩
    have HG2 := Lib.hid ((Grew.drewN (Grew.refl _) _).trans g2)
    have HW2 := Lib.hid ((Grew.drewN HGB.out _).trans g2)
    have m4 := newer_cell HG2.out 4 _ rfl
    have t1 := tree_cell HG2.out 1 _ rfl
    clear g2
    dsimp only
    cases q3 with
    | false =>
      have Hn : RowKit.Hid (¬ PA) := fun h => by have := (HD.out.1 h).2.2.2.1; cases this
      go_wp2
      go_ret
      exact RetIff.no 4 (by decide) Hn.out HW2.out
    | true =>
    cases he : ym.toList.isEmpty with
    | true =>
      have Hy : RowKit.Hid PA := HD.out.2 ⟨by first | rfl | trivial, by first | rfl | trivial, HPREVOK.out, by first | rfl | trivial, HMK.out.2 (fun h => by rw [he] at h; cases h)⟩
      have hee : ym.toList = [] := List.isEmpty_iff.1 he
      go_wp2
      go_ret
      exact RetIff.yes Hy.out HW2.out
    | false =>
      have hem : (!ym.toList.isEmpty) = true := by simp [he]
      have hne : ¬ ym.toList = [] := fun h => by rw [h] at he; cases he
      have HMI : RowKit.Hid (PM ↔ q4 = true ∧ q5 = false) := ⟨fun h => HMK.out.1 h he, fun h => HMK.out.2 (fun _ => h)⟩
      go_wp2_with fail
      refine (KM.out _).mono ?_
      rintro e w3 ⟨rfl, g3⟩
      have HG3 := Lib.hid (HG2.out.trans g3)
      have HW3 := Lib.hid (HW2.out.trans g3)
      have n4 := newer_cell HG3.out 4 _ rfl
      have u1 := tree_cell HG3.out 1 _ rfl
      clear g3 m4 t1
      dsimp only
      cases q4 with
      | false =>
        have Hn : RowKit.Hid (¬ PA) := fun h => by have := (HMI.out.1 (HD.out.1 h).2.2.2.2).1; cases this
        go_wp2
        go_ret
        exact RetIff.no 1 (by decide) Hn.out HW3.out
      | true =>
      go_wp2_with fail
      refine (KU.out _ _ HW3.out n4).mono ?_
      rintro e w4 ⟨rfl, g4⟩
      have HW4 := Lib.hid (HW3.out.trans g4)
      clear g4
      dsimp only
      cases q5 with
      | true =>
        have Hn : RowKit.Hid (¬ PA) := fun h => by have := (HMI.out.1 (HD.out.1 h).2.2.2.2).2; cases this
        go_wp2
        go_ret
        exact RetIff.no 19 (by decide) Hn.out HW4.out
      | false =>
        have Hy : RowKit.Hid PA := HD.out.2 ⟨by first | rfl | trivial, by first | rfl | trivial, HPREVOK.out, by first | rfl | trivial, HMI.out.2 ⟨by first | rfl | trivial, by first | rfl | trivial⟩⟩
        go_wp2
        go_ret
        exact RetIff.yes Hy.out HW4.out
  · have hkz : (0 : Int) < (i : Int) := by omega
    have hki : (0 : Int) ≤ (i : Int) - 1 := by omega
    have hki2 : (i : Int) - 1 < (l.length : Int) := by omega
    have hki3 : (1 : Int) ≤ (i : Int) := by omega
    have hkt : ((i : Int) - 1).toNat = i - 1 := by omega
    have d0 := HPREV.out hipos _ HGB.out
    have hpv : PP ↔ (l[i - 1]'(by omega)).id < yi := by rw [← HPP.out]; exact ⟨fun h => h hipos, fun h _ => h⟩
    generalize (l[i - 1]'(by omega)).id = zi at d0 hpv
    have HPV := Lib.hid hpv
    clear hpv
    have hwr : IntKind.i64.wrap ((i : Int) - 1) = (i : Int) - 1 := IntWalk.i64_in _ (by omega)
    by_cases r : yi ≤ zi
    · have Hn : RowKit.Hid (¬ PA) := fun h => by have := HPV.out.1 (HD.out.1 h).2.2.1; omega
      go_wp2
      go_quiet (fail)
      clear hwr
      go_wp2
      go_ret
      exact RetIff.no 5 (by decide) Hn.out (HGB.out.drewN _)
    have r' : decide (yi ≤ zi) = false := by simpa using r
    have HPREVOK : RowKit.Hid PP := HPV.out.2 (by omega)
    clear r
    go_wp2
    go_quiet (fail)
    clear hwr
    go_wp2_with fail
    refine (KN.out _ (Grew.drewN HGB.out _)).mono ?_
    rintro e w2 ⟨rfl, g2⟩
    have HG2 := Lib.hid ((Grew.drewN (Grew.refl _) _).trans g2)
    have HW2 := Lib.hid ((Grew.drewN HGB.out _).trans g2)
    have m4 := newer_cell HG2.out 4 _ rfl
    have t1 := tree_cell HG2.out 1 _ rfl
    clear g2
    dsimp only
    cases q3 with
    | false =>
      have Hn : RowKit.Hid (¬ PA) := fun h => by have := (HD.out.1 h).2.2.2.1; cases this
      go_wp2
      go_ret
      exact RetIff.no 4 (by decide) Hn.out HW2.out
    | true =>
    cases he : ym.toList.isEmpty with
    | true =>
      have Hy : RowKit.Hid PA := HD.out.2 ⟨by first | rfl | trivial, by first | rfl | trivial, HPREVOK.out, by first | rfl | trivial, HMK.out.2 (fun h => by rw [he] at h; cases h)⟩
      have hee : ym.toList = [] := List.isEmpty_iff.1 he
      go_wp2
      go_ret
      exact RetIff.yes Hy.out HW2.out
    | false =>
      have hem : (!ym.toList.isEmpty) = true := by simp [he]
      have hne : ¬ ym.toList = [] := fun h => by rw [h] at he; cases he
      have HMI : RowKit.Hid (PM ↔ q4 = true ∧ q5 = false) := ⟨fun h => HMK.out.1 h he, fun h => HMK.out.2 (fun _ => h)⟩
      go_wp2_with fail
      refine (KM.out _).mono ?_
      rintro e w3 ⟨rfl, g3⟩
      have HG3 := Lib.hid (HG2.out.trans g3)
      have HW3 := Lib.hid (HW2.out.trans g3)
      have n4 := newer_cell HG3.out 4 _ rfl
      have u1 := tree_cell HG3.out 1 _ rfl
      clear g3 m4 t1
      dsimp only
      cases q4 with
      | false =>
        have Hn : RowKit.Hid (¬ PA) := fun h => by have := (HMI.out.1 (HD.out.1 h).2.2.2.2).1; cases this
        go_wp2
        go_ret
        exact RetIff.no 1 (by decide) Hn.out HW3.out
      | true =>
      go_wp2_with fail
      refine (KU.out _ _ HW3.out n4).mono ?_
      rintro e w4 ⟨rfl, g4⟩
      have HW4 := Lib.hid (HW3.out.trans g4)
      clear g4
      dsimp only
      cases q5 with
      | true =>
        have Hn : RowKit.Hid (¬ PA) := fun h => by have := (HMI.out.1 (HD.out.1 h).2.2.2.2).2; cases this
        go_wp2
        go_ret
        exact RetIff.no 19 (by decide) Hn.out HW4.out
      | false =>
        have Hy : RowKit.Hid PA := HD.out.2 ⟨by first | rfl | trivial, by first | rfl | trivial, HPREVOK.out, by first | rfl | trivial, HMI.out.2 ⟨by first | rfl | trivial, by first | rfl | trivial⟩⟩
        go_wp2
        go_ret
        exact RetIff.yes Hy.out HW4.out
end Go.Proofs.YtjaknioojpgkiaaGreatDoor
