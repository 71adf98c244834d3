/- Lemmas on what the functions of the program and of the library compute: Bu, Tx, PlainPr, Shelf3. The conditions stand at each. -/
import Derived.Test.YtjaknioojpgkiaaGreatDoorQ40
import Derived.Shelf.Strings.Builder1
import Derived.Lib.OthersKept
import Derived.Test.YtjaknioojpgkiaaGreatDoorQ2
import Derived.Test.YtjaknioojpgkiaaGreatDoorQ4
import Derived.Sort.Grow
import Derived.Lib.ItoaLen
import Derived.Laws.Concat
import Derived.Lib.Replace
import Derived.Shelf.Small.Bits
import Derived.Shelf.Small.Strs
import Derived.Shelf.Small.Wraps
import Derived.Shelf.LaysM
import Derived.Shelf.Strconv.Itoa3
import Derived.Shelf.Strings.Search3
import Derived.Shelf.Strings.Cut
import Derived.Shelf.Strings.Shaped
import Derived.Shelf.Sort.Plain
import Derived.Shelf.Strings.Prefix
import Derived.Shelf.Strings.Split
import Derived.Shelf.Strings.Replace
import Derived.Shelf.Strings.FuncGrows
import Derived.Ground.Names2Prog
import Derived.Shelf.Slices.CompactI
import Derived.Shelf.Slices.CompactS
import Derived.Shelf.Slices.SearchI
import Derived.Shelf.Slices.In.SortNone
import Derived.Ground.SlsfProg
import Derived.Shelf.SlSortCmp.Insertion
import Derived.Test.YtjaknioojpgkiaaGreatDoorProg
/- strings.Builder inside a page: writing a string, and the string of it. The conditions: the page lies in a block of its own; its bytes are few. -/
namespace Go.Proofs.YtjaknioojpgkiaaGreatDoor
open Go.RowKit

theorem pgInfo : (Tryz.prog.info? 108).map (·.size) = some 2 := by kernel_rfl
theorem pgLies : liesAt Tryz.prog Tryz.prog.depth 110 (2 / Tryz.prog.cellsOf 110) 0 108 1 = true := by kernel_rfl
theorem byInfo : (Tryz.prog.info? 5).map (fun i => (i.zero, i.size, i.bytes)) = some (some (.int .u8 0), 1, 1) := by kernel_rfl
set_option maxHeartbeats 1000000 in
set_option maxRecDepth 100000 in
theorem bCheckUsed (b : Nat) (w : World) (h0 : w.cell? ⟨b, 0, none⟩ = some (.pointer (some ⟨b, 0, none⟩))) :
    Calls Tryz.prog 181 #[.pointer (some ⟨b, 0, none⟩)] w fun e w' => e = .returned (.tuple #[]) ∧ w' = w := by
  obtain ⟨j, hj, -⟩ := Option.map_eq_some_iff.1 pgInfo
  go_enter Tryz.func181, Tryz.ntmps181
  go_wp2
  rw [Lib.run_neq_ptr_same w _ Tryz.underlying105 hj]
  go_wp2
  go_end0
  exact ⟨rfl, rfl⟩
set_option maxHeartbeats 1000000 in
set_option maxRecDepth 100000 in
theorem bCheckFresh (b : Nat) (w : World) (h0 : w.cell? ⟨b, 0, none⟩ = some (.pointer none)) (hsh : w.shape? b = some (110, 2)) (hfz : w.frozen? ⟨b, 0, none⟩ = false) :
    Calls Tryz.prog 181 #[.pointer (some ⟨b, 0, none⟩)] w fun e w' => e = .returned (.tuple #[]) ∧ w' = w.setCell ⟨b, 0, none⟩ (.pointer (some ⟨b, 0, none⟩)) := by
  obtain ⟨j, hj, hjs⟩ := Option.map_eq_some_iff.1 pgInfo
  have hl := pgLies
  go_enter Tryz.func181, Tryz.ntmps181
  go_wp2
  rw [Lib.run_to_unsafe w ⟨b, 0, none⟩ Tryz.underlying105 Tryz.underlying219 hj (by rw [hjs]; decide) hsh (Nat.zero_lt_succ 1)]
  simp only [Result.andThen]
  rw [Oper.upon_value]
  go_wp2
  rw [run_callFunc_extern Tryz.func223 (by kernel_rfl) (by kernel_rfl) (by kernel_rfl) (e := Extern.AbiNoEscape.same) (by kernel_rfl)]
  rw [Lib.run_noEscape]
  simp only [Result.andThen]
  rw [Oper.upon_value]
  go_wp2
  rw [Lib.run_from_unsafe w ⟨b, 0, none⟩ Tryz.underlying219 Tryz.underlying105 hj hsh hl]
  simp only [Result.andThen]
  rw [Oper.upon_value]
  go_wp2
  go_end0
  exact ⟨rfl, rfl⟩
/-- What a page holds. -/
def PgAt (B b : Nat) (p : Value) (bs : List Value) (w : World) : Prop := Lib.BuilderAt 110 5 B b p bs w
def IsPg (B b : Nat) (bs : List Value) (w : World) : Prop := Lib.IsBuilder 110 5 B b bs w
/-- Every block but the page's own and rows of bytes stays. -/
def PgKept (b : Nat) (w w' : World) : Prop := Lib.OthersKept 5 (some b) w w'
theorem bCheck (B b : Nat) (bs : List Value) (w : World) (h : IsPg B b bs w) :
    Calls Tryz.prog 181 #[.pointer (some ⟨b, 0, none⟩)] w fun e w' => e = .returned (.tuple #[]) ∧ PgAt B b (.pointer (some ⟨b, 0, none⟩)) bs w' ∧ Below B w w' ∧ PgKept b w w' := by
  rcases h with h | h
  · refine (bCheckFresh b w h.cell0 h.shape h.frozen0).mono ?_
    rintro e w' ⟨rfl, rfl⟩
    exact ⟨rfl, h.used _, (Below.refl B w).setCell (p := ⟨b, 0, none⟩) h.1 _, Lib.OthersKept.setCell (Lib.OthersKept.refl _ _ _) ⟨b, 0, none⟩ rfl _⟩
  · refine (bCheckUsed b w h.cell0).mono ?_
    rintro e w' ⟨rfl, rfl⟩
    exact ⟨rfl, h, Below.refl B _, Lib.OthersKept.refl _ _ _⟩
theorem ownsRow_kind {w : World} {B : Nat} {e : TypeId} {v : Value} {n : Nat} {xs : List Value} (h : w.ownsRow B e 1 v n xs) : ∀ g, v.ownBlock = some g → ∃ c fz, w.heap[g]? = some (.cells c e fz) := by
  intro g hg
  rcases h.2 with ⟨rfl, _⟩ | ⟨g2, cap, cur, rfl, _, hh, _⟩
  · cases hg
  · injection hg with hg
    subst hg
    exact ⟨_, _, hh⟩
set_option maxHeartbeats 2000000 in
set_option maxRecDepth 100000 in
theorem bWrite (B b : Nat) (bs : List Value) (s : ByteArray) (w : World) (h : IsPg B b bs w) (hlen : bs.length + s.size ≤ 140737488355328) (hBw : B ≤ w.heap.size) :
    Calls Tryz.prog 127 #[.pointer (some ⟨b, 0, none⟩), .string s] w fun e w' => e = .returned (.tuple #[.int .i64 s.size, .nilIface]) ∧ PgAt B b (.pointer (some ⟨b, 0, none⟩)) (bs ++ Lib.strCells s) w' ∧ Below B w w' ∧ PgKept b w w' := by
  obtain ⟨i0, hi, hz0, hz1, hz2⟩ := info_parts byInfo
  go_enter Tryz.func127, Tryz.ntmps127
  go_wp2_with (go_at_call 181; refine (bCheck B b bs _ h).mono ?_)
  rintro e w1 ⟨rfl, h1, hb1, hk1⟩
  obtain ⟨hB, v, hbk, hown, hne⟩ := h1
  have c0 : w1.cell? ⟨b, 0, none⟩ = some (.pointer (some ⟨b, 0, none⟩)) := by rw [Lib.cell_of_heap hbk]; rfl
  have c1 : w1.cell? ⟨b, 1, none⟩ = some v := by rw [Lib.cell_of_heap hbk]; rfl
  go_wp2_with (at_builtin; refine Lib.wpList_append_own_string _ rfl _ _ 106 9 rfl B 5 i0 Tryz.underlying106 Tryz.underlying9 hi hz0 hz1 hz2 _ _ _ rfl hown s rfl ?c3 ?c4 ?c5 ?_)
  case c3 => unfold maxLen; omega
  case c4 => omega
  case c5 => have := hb1.size; omega
  intro v' w2 hown' hgrow _
  have hlt : b < w1.heap.size := by
    rcases Nat.lt_or_ge b w1.heap.size with h' | h'
    · exact h'
    · simp [Array.getElem?_eq_none h'] at hbk
  have hb2 : w2.heap[b]? = some (.cells #[.pointer (some ⟨b, 0, none⟩), v] 110 (0, 0)) := by
    rw [hgrow.block b hlt (fun e => hne e.symm)]
    exact hbk
  have d0 : w2.cell? ⟨b, 0, none⟩ = some (.pointer (some ⟨b, 0, none⟩)) := by rw [Lib.cell_of_heap hb2]; rfl
  have d1 : w2.cell? ⟨b, 1, none⟩ = some v := by rw [Lib.cell_of_heap hb2]; rfl
  have f1 : w2.frozen? ⟨b, 1, none⟩ = false := Lib.frozen_of_heap hb2 1
  obtain ⟨ao, n', cap, rfl⟩ : ∃ ao n' cap, v' = .slice ao n' cap := by
    rcases hown'.2 with ⟨hv, _⟩ | ⟨g, cap, cur, hv, _⟩
    · exact ⟨_, _, _, hv⟩
    · exact ⟨_, _, _, hv⟩
  go_wp2
  go_ret2
  refine ⟨rfl, ?_, ?_, (hk1.grown hgrow (ownsRow_kind hown)).setCell ⟨b, 1, none⟩ rfl _⟩
  · exact Lib.BuilderAt.put (T := 110) (e := 5) hB hb2 (bs' := bs ++ Lib.strCells s) (by simpa [Lib.strCells_length] using hown') (by decide)
  · exact (hb1.grown hgrow (by have := hb1.size; omega) (fun k hk => (hown.lt k hk).1)).setCell (p := ⟨b, 1, none⟩) hB _
/-- A page in a later world. -/
theorem PgAt.later {B b : Nat} {p : Value} {bs : List Value} {w W : World} (h : PgAt B b p bs w) (g : Grew w W) : PgAt B b p bs W := by
  obtain ⟨hB, v, hb, hown, hne⟩ := h
  exact ⟨hB, v, heap_keepI g hb, own_keep hown g, hne⟩
theorem IsPg.later {B b : Nat} {bs : List Value} {w W : World} (h : IsPg B b bs w) (g : Grew w W) : IsPg B b bs W := h.imp (fun h => PgAt.later h g) fun h => PgAt.later h g
/-- Blocks of other things stay while a page is written. -/
theorem pg_block {b k : Nat} {w w' : World} {cs : Array Value} {T : TypeId} {fz : Nat × Nat} (h : PgKept b w w') (hk : w.heap[k]? = some (.cells cs T fz)) (hb : k ≠ b) (hT : T ≠ 5) : w'.heap[k]? = some (.cells cs T fz) := by
  exact h k _ hk (fun e => hb (by injection e)) (fun c fz2 e => hT (by injection e))
end Go.Proofs.YtjaknioojpgkiaaGreatDoor

/- relation.Text, walked. The condition: the library's own variables hold what they must. -/
namespace Go.Proofs.YtjaknioojpgkiaaGreatDoor
open Go.RowKit

theorem grew_grow (w : World) (k : Nat) (os : Array Obj) : Grew w (Go.Sort.grow (w.drewN k) os) := by
  refine ⟨rfl, rfl, rfl, by simp, fun b hb => ?_⟩
  rw [Go.Sort.heap_grow_old _ _ (by simpa using hb)]
  rfl
theorem itoa_any (n : Int) (h0 : -9223372036854775808 ≤ n) (h1 : n ≤ 9223372036854775807) (w : World) (hE : Env w) : Calls Tryz.prog 128 #[.int .i64 n] w fun e w' => e = .returned (.string ⟨(Lib.itoa n).toArray⟩) ∧ Grew w w' :=
  (Tryz.strconv_Itoa n h0 h1 w (hE.2 _ (show Tryz.prog.globalNamed "internal/strconv.uint64pow10" = some 3 by kernel_rfl))).mono fun _ _ ⟨he, k, os, hw⟩ => ⟨he, by rw [hw]; exact grew_grow w k os⟩
def itoaB (n : Int) : ByteArray := ⟨(Lib.itoa n).toArray⟩
end Go.Proofs.YtjaknioojpgkiaaGreatDoor

/- What Print writes, plainly. No condition. -/
namespace Go.Proofs.YtjaknioojpgkiaaGreatDoor
open Go.RowKit

/-- A byte of a text as it is printed. -/
def nlB (b : UInt8) : List UInt8 := if b = 10 then [10, 32, 32] else [b]
theorem repl_k : ∀ s : List UInt8, Lib.replaceK [10] [10, 32, 32] (s.count 10) s = s.flatMap nlB
  | [] => by simp [Lib.replaceK]
  | b :: l => by
    have ih := repl_k l
    by_cases h : b = 10
    · subst h
      have hi : Lib.index (10 :: l) [10] = ((0 : Nat) : Int) := by simp [Lib.index, List.isPrefixOf]
      rw [List.count_cons_self, Lib.replaceK_hit _ _ _ _ 0 hi, List.flatMap_cons]
      simp [nlB, ih]
    · rw [List.count_cons_of_ne h, List.flatMap_cons]
      have hb : nlB b = [b] := if_neg h
      rw [hb, ← ih]
      cases hc : l.count 10 with
      | zero => rfl
      | succ k =>
        obtain ⟨i, hi⟩ := Lib.index_of_count (s := l) (old := [10]) (by rw [Lib.count_one, hc]; omega)
        have hi2 : Lib.index (b :: l) [10] = ((i + 1 : Nat) : Int) := by
          rw [Lib.index, if_neg (by simpa [List.isPrefixOf] using fun e : 10 = b => h e.symm), if_neg (by rw [hi]; simp), hi]
          omega
        rw [Lib.replaceK_hit _ _ _ _ _ hi2, Lib.replaceK_hit _ _ _ _ _ hi]
        simp
theorem repl_nl (s : List UInt8) : Lib.replaceAll s [10] [10, 32, 32] = s.flatMap nlB := by
  unfold Lib.replaceAll Lib.replace Lib.replaceNum
  rw [if_neg (by decide), if_pos (.inl (by decide)), Lib.count_one]
  exact repl_k s
/-- The part of a description for one value. -/
def lineB (v : Val) (unit : Int) (wt : ByteArray) : List UInt8 :=
  (kindOf v.elem).word.data.toList ++ (if (v.lang.toList == wt.toList) = true then [] else [32, 40] ++ v.lang.data.toList ++ [41]) ++ (if v.unit = unit then [] else [32, 102, 114, 111, 109, 32] ++ Lib.itoa v.unit) ++ ([58, 32] ++ v.text.data.toList.flatMap nlB ++ [10])
def linesB (L : List Val) (unit : Int) (wt : ByteArray) : List UInt8 := L.flatMap fun v => lineB v unit wt
noncomputable def printR (t : Tr) (ls : List ByteArray) (vs : List Val) (u : Int) (wt : ByteArray) : ByteArray × Int :=
  if (allR t ls vs u wt).2 = 0 then (⟨(linesB (allR t ls vs u wt).1 u wt).toArray⟩, 0) else (⟨#[]⟩, (allR t ls vs u wt).2)
theorem line_pos (v : Val) (unit : Int) (wt : ByteArray) : lineB v unit wt ≠ [] := by unfold lineB; simp
theorem nl_len : ∀ l : List UInt8, (l.flatMap nlB).length ≤ 3 * l.length
  | [] => by simp
  | b :: l => by
    have ih := nl_len l
    rw [List.flatMap_cons, List.length_append, List.length_cons]
    unfold nlB at ih ⊢
    split <;> simp only [List.length_cons, List.length_nil] <;> omega
theorem str_data (a b : ByteArray) : (a ++ b).data.toList = a.data.toList ++ b.data.toList := by
  rw [ByteArray.data_append, Array.toList_append]
end Go.Proofs.YtjaknioojpgkiaaGreatDoor

/-
  DERIVED: THE SHELF's CONTRACTS AT THIS DUMP, IN PLAIN WORDS (tools/lay-plain.mjs out of 'YtjaknioojpgkiaaGreatDoorShelf3.lean', which tools/lay-shelf.mjs wrote): THE SAME DECLARATIONS UNDER THE SAME NAMES: 'import', 'namespace', 'open', 'def', 'theorem' AND NOTHING ELSE: no command of the shelf's: FOR A HAND-IN. Each laying: the table of numbers ('.._ren') and one theorem, a field a fact of the dump's own or the kernel's comparison; each contract: ONE APPLICATION.
-/
namespace Go.Proofs
open Go.Shelf
def Tryz.lays155_ren : Go.Shelf.Ren := ⟨fun | 155 => 129 | 154 => 183 | 138 => 225 | 165 => 226 | 143 => 100 | 166 => 127 | 197 => 217 | 169 => 80 | 195 => 256 | 218 => 257 | 240 => 181 | 241 => 258 | 219 => 141 | 260 => 248 | 276 => 223 | 277 => 274 | 217 => 138 | 225 => 198 | 224 => 199 | 267 => 200 | 266 => 197 | 314 => 240 | n => n, fun | 9 => 9 | 3 => 3 | 4 => 4 | 72 => 108 | 0 => 0 | 76 => 151 | 105 => 214 | 21 => 21 | 5 => 5 | 70 => 105 | 20 => 20 | 37 => 106 | 75 => 150 | 127 => 154 | 164 => 219 | 46 => 135 | 119 => 249 | 139 => 252 | 138 => 251 | 146 => 230 | 51 => 179 | 80 => 112 | n => n, fun | 1 => 0 | 3 => 1 | 4 => 2 | n => n⟩
theorem Tryz.lays155 : Go.Proofs.Lays.n155 Tryz.prog Tryz.lays155_ren := {
  mixed := by kernel_rfl
  f138 := Tryz.func225.trans (congrArg some (by kernel_rfl))
  f143 := Tryz.func100.trans (congrArg some (by kernel_rfl))
  f154 := Tryz.func183.trans (congrArg some (by kernel_rfl))
  f155 := Tryz.func129.trans (congrArg some (by kernel_rfl))
  f165 := Tryz.func226.trans (congrArg some (by kernel_rfl))
  f166 := Tryz.func127.trans (congrArg some (by kernel_rfl))
  f169 := Tryz.func80.trans (congrArg some (by kernel_rfl))
  f195 := Tryz.func256.trans (congrArg some (by kernel_rfl))
  f197 := Tryz.func217.trans (congrArg some (by kernel_rfl))
  f217 := Tryz.func138.trans (congrArg some (by kernel_rfl))
  f218 := Tryz.func257.trans (congrArg some (by kernel_rfl))
  f219 := Tryz.func141.trans (congrArg some (by kernel_rfl))
  f224 := Tryz.func199.trans (congrArg some (by kernel_rfl))
  f225 := Tryz.func198.trans (congrArg some (by kernel_rfl))
  f240 := Tryz.func181.trans (congrArg some (by kernel_rfl))
  f241 := Tryz.func258.trans (congrArg some (by kernel_rfl))
  f260 := Tryz.func248.trans (congrArg some (by kernel_rfl))
  f266 := Tryz.func197.trans (congrArg some (by kernel_rfl))
  f267 := Tryz.func200.trans (congrArg some (by kernel_rfl))
  f276 := Tryz.func223.trans (congrArg some (by kernel_rfl))
  f277 := Tryz.func274.trans (congrArg some (by kernel_rfl))
  f314 := Tryz.func240.trans (congrArg some (by kernel_rfl))
  t0 := Tryz.underlying0
  a0 := Tryz.isAgg0
  z0 := Tryz.sizeOf0
  v0 := Tryz.zeroValue0
  t3 := Tryz.underlying3
  a3 := Tryz.isAgg3
  z3 := Tryz.sizeOf3
  v3 := Tryz.zeroValue3
  t4 := Tryz.underlying4
  a4 := Tryz.isAgg4
  z4 := Tryz.sizeOf4
  v4 := Tryz.zeroValue4
  t5 := Tryz.underlying5
  a5 := Tryz.isAgg5
  z5 := Tryz.sizeOf5
  v5 := Tryz.zeroValue5
  t9 := Tryz.underlying9
  a9 := Tryz.isAgg9
  z9 := Tryz.sizeOf9
  v9 := Tryz.zeroValue9
  t20 := Tryz.underlying20
  a20 := Tryz.isAgg20
  z20 := Tryz.sizeOf20
  v20 := Tryz.zeroValue20
  t21 := Tryz.underlying21
  a21 := Tryz.isAgg21
  z21 := Tryz.sizeOf21
  v21 := Tryz.zeroValue21
  t37 := Tryz.underlying106
  a37 := Tryz.isAgg106
  z37 := Tryz.sizeOf106
  v37 := Tryz.zeroValue106
  t46 := Tryz.underlying135
  a46 := Tryz.isAgg135
  z46 := Tryz.sizeOf135
  v46 := Tryz.zeroValue135
  t51 := Tryz.underlying179
  a51 := Tryz.isAgg179
  z51 := Tryz.sizeOf179
  v51 := Tryz.zeroValue179
  t70 := Tryz.underlying105
  a70 := Tryz.isAgg105
  z70 := Tryz.sizeOf105
  v70 := Tryz.zeroValue105
  t72 := Tryz.underlying108
  a72 := Tryz.isAgg108
  z72 := Tryz.sizeOf108
  v72 := Tryz.zeroValue108
  t75 := Tryz.underlying150
  a75 := Tryz.isAgg150
  z75 := Tryz.sizeOf150
  v75 := Tryz.zeroValue150
  t76 := Tryz.underlying151
  a76 := Tryz.isAgg151
  z76 := Tryz.sizeOf151
  v76 := Tryz.zeroValue151
  t105 := Tryz.underlying214
  a105 := Tryz.isAgg214
  z105 := Tryz.sizeOf214
  v105 := Tryz.zeroValue214
  t119 := Tryz.underlying249
  a119 := Tryz.isAgg249
  z119 := Tryz.sizeOf249
  t127 := Tryz.underlying154
  a127 := Tryz.isAgg154
  z127 := Tryz.sizeOf154
  v127 := Tryz.zeroValue154
  t138 := Tryz.underlying251
  a138 := Tryz.isAgg251
  z138 := Tryz.sizeOf251
  v138 := Tryz.zeroValue251
  t139 := Tryz.underlying252
  a139 := Tryz.isAgg252
  z139 := Tryz.sizeOf252
  v139 := Tryz.zeroValue252
  t146 := Tryz.underlying230
  a146 := Tryz.isAgg230
  z146 := Tryz.sizeOf230
  v146 := Tryz.zeroValue230
  t164 := Tryz.underlying219
  a164 := Tryz.isAgg219
  z164 := Tryz.sizeOf219
  v164 := Tryz.zeroValue219
  g1 := by kernel_rfl
  g3 := by kernel_rfl
  g4 := by kernel_rfl }
theorem Tryz.Builder_Extra_155 : Builder.Extra Tryz.prog Tryz.lays155_ren := {
  sizeBuilder := by kernel_rfl
  liesBuilder := by kernel_rfl
  t5 := Tryz.underlying5
  a5 := Tryz.isAgg5
  z5 := Tryz.sizeOf5
  v5 := Tryz.zeroValue5
  infoByte := by kernel_rfl
  cellsByte := by kernel_rfl
  sizeByte := by kernel_rfl
  neB5 := by decide }
open Go.RowKit Go.Lib in
theorem Tryz.strings_ReplaceAll (s old new : ByteArray) (m : Int) (w : World) (hs : s.size < 4294967281) (hm : w.cell? ⟨0, 0, none⟩ = some (.int .i64 m)) (h1 : 1 ≤ old.size) (hlen : s.size + Lib.countB s old * new.size ≤ 140737488355328) :
    Calls Tryz.prog 129 #[.string s, .string old, .string new] w fun e w' =>
      e = .returned (.string ⟨(Lib.replaceAll s.data.toList old.data.toList new.data.toList).toArray⟩) ∧ Below w.heap.size w w' := Any.strings_ReplaceAll Tryz.lays155 Tryz.Builder_Extra_155 s old new m w hs hm h1 hlen
end Go.Proofs
