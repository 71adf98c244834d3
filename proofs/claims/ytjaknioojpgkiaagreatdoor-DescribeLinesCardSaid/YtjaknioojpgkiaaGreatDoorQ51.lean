/- Lemmas on what the functions of the program and of the library compute. The conditions stand at each. -/
import Derived.Test.YtjaknioojpgkiaaGreatDoorQ1
import Derived.Test.YtjaknioojpgkiaaGreatDoorQ2
import Derived.Test.YtjaknioojpgkiaaGreatDoorQ3
import Derived.Test.YtjaknioojpgkiaaGreatDoorQ4
import Derived.Test.YtjaknioojpgkiaaGreatDoorQ5
import Derived.Test.YtjaknioojpgkiaaGreatDoorQ6
import Derived.Test.YtjaknioojpgkiaaGreatDoorQ7
import Derived.Test.YtjaknioojpgkiaaGreatDoorQ8
import Derived.Test.YtjaknioojpgkiaaGreatDoorQ9
import Derived.Test.YtjaknioojpgkiaaGreatDoorQ10
import Derived.Test.YtjaknioojpgkiaaGreatDoorQ11
import Derived.Test.YtjaknioojpgkiaaGreatDoorQ12
import Derived.Test.YtjaknioojpgkiaaGreatDoorQ13
import Derived.Test.YtjaknioojpgkiaaGreatDoorQ14
import Derived.Test.YtjaknioojpgkiaaGreatDoorQ15
import Derived.Test.YtjaknioojpgkiaaGreatDoorQ16
import Derived.Test.YtjaknioojpgkiaaGreatDoorQ17
import Derived.Test.YtjaknioojpgkiaaGreatDoorQ18
import Derived.Test.YtjaknioojpgkiaaGreatDoorQ19
import Derived.Test.YtjaknioojpgkiaaGreatDoorQ20
import Derived.Test.YtjaknioojpgkiaaGreatDoorQ21
import Derived.Test.YtjaknioojpgkiaaGreatDoorQ22
import Derived.Test.YtjaknioojpgkiaaGreatDoorQ23
import Derived.Test.YtjaknioojpgkiaaGreatDoorQ24
import Derived.Test.YtjaknioojpgkiaaGreatDoorQ25
import Derived.Test.YtjaknioojpgkiaaGreatDoorQ26
import Derived.Test.YtjaknioojpgkiaaGreatDoorQ27
import Derived.Test.YtjaknioojpgkiaaGreatDoorQ28
import Derived.Test.YtjaknioojpgkiaaGreatDoorQ29
import Derived.Test.YtjaknioojpgkiaaGreatDoorQ30
import Derived.Test.YtjaknioojpgkiaaGreatDoorQ31
import Derived.Test.YtjaknioojpgkiaaGreatDoorQ32
import Derived.Test.YtjaknioojpgkiaaGreatDoorQ33
import Derived.Test.YtjaknioojpgkiaaGreatDoorQ34
import Derived.Test.YtjaknioojpgkiaaGreatDoorQ35
import Derived.Test.YtjaknioojpgkiaaGreatDoorQ36
import Derived.Test.YtjaknioojpgkiaaGreatDoorQ37
import Derived.Test.YtjaknioojpgkiaaGreatDoorQ38
import Derived.Test.YtjaknioojpgkiaaGreatDoorQ39
import Derived.Test.YtjaknioojpgkiaaGreatDoorQ40
import Derived.Test.YtjaknioojpgkiaaGreatDoorQ41
import Derived.Test.YtjaknioojpgkiaaGreatDoorQ42
import Derived.Test.YtjaknioojpgkiaaGreatDoorQ43
import Derived.Test.YtjaknioojpgkiaaGreatDoorQ44
import Derived.Test.YtjaknioojpgkiaaGreatDoorQ45
import Derived.Test.YtjaknioojpgkiaaGreatDoorQ46
import Derived.Test.YtjaknioojpgkiaaGreatDoorQ47
import Derived.Test.YtjaknioojpgkiaaGreatDoorQ48
import Derived.Test.YtjaknioojpgkiaaGreatDoorQ49
import Derived.Test.YtjaknioojpgkiaaGreatDoorQ50
import Derived.Shelf.Small.Bits
import Derived.Shelf.Small.Strs
import Derived.Shelf.Small.Wraps
import Derived.Shelf.LaysM
import Derived.Shelf.Strconv.Itoa3
import Derived.Shelf.Strings.Search3
import Derived.Shelf.Strings.Cut
import Derived.Shelf.Strings.Shaped
import Derived.Shelf.Sort.Plain
import Derived.Shelf.Strings.Prefix
import Derived.Shelf.Strings.FuncGrows
import Derived.Ground.Names2Prog
import Derived.Shelf.Slices.CompactI
import Derived.Shelf.Slices.CompactS
import Derived.Shelf.Slices.SearchI
import Derived.Shelf.Slices.In.SortNone
import Derived.Ground.SlsfProg
import Derived.Shelf.SlSortCmp.Insertion
import Derived.Test.YtjaknioojpgkiaaGreatDoorProg
import Derived.Shelf.Strings.SlTrimAscii
import Derived.Ground.NamesProg
import Derived.Shelf.SlGeneric
import Derived.Shelf.Strings.Split
import Derived.Shelf.Strings.Replace
import Derived.Lib.ItoaMem
import Derived.Lib.IndexMore
import Derived.Lib.IndexBytes
import Derived.Shelf.Strings.SplitShaped
import Derived.Shelf.SlSortCmp.NoneTotal
import Derived.Sort.LoopGhostIn
import Derived.Sort.QuietIn
import Derived.RangeFuncCalls
/-
  DERIVED: THE SHELF's CONTRACTS AT THIS DUMP, IN PLAIN WORDS (tools/lay-plain.mjs out of 'YtjaknioojpgkiaaGreatDoorShelf.lean', which tools/lay-shelf.mjs wrote): THE SAME DECLARATIONS UNDER THE SAME NAMES: 'import', 'namespace', 'open', 'def', 'theorem' AND NOTHING ELSE: no command of the shelf's: FOR A HAND-IN. Each laying: the table of numbers ('.._ren') and one theorem, a field a fact of the dump's own or the kernel's comparison; each contract: ONE APPLICATION.
-/
namespace Go.Proofs
open Go.Shelf
def Tryz.lays102_ren : Go.Shelf.Ren := ⟨fun | 102 => 39 | 209 => 101 | 207 => 99 | n => n, fun | 9 => 9 | 4 => 4 | 3 => 3 | n => n, fun | n => n⟩
theorem Tryz.lays102 : Go.Proofs.Lays.n102 Tryz.prog Tryz.lays102_ren := {
  mixed := by kernel_rfl
  f102 := Tryz.func39.trans (congrArg some (by kernel_rfl))
  f207 := Tryz.func99.trans (congrArg some (by kernel_rfl))
  f209 := Tryz.func101.trans (congrArg some (by kernel_rfl))
  t3 := Tryz.underlying3
  a3 := Tryz.isAgg3
  z3 := Tryz.sizeOf3
  v3 := Tryz.zeroValue3
  t4 := Tryz.underlying4
  a4 := Tryz.isAgg4
  z4 := Tryz.sizeOf4
  v4 := Tryz.zeroValue4
  t9 := Tryz.underlying9
  a9 := Tryz.isAgg9
  z9 := Tryz.sizeOf9
  v9 := Tryz.zeroValue9 }
open Go.RowKit Go.Lib in
theorem Tryz.strings_TrimSuffix (s p : ByteArray) (w : World) (hs : s.size ≤ 9223372036854775807) :
    Calls Tryz.prog 39 #[.string s, .string p] w fun e w' => e = .returned (.string ⟨(Lib.trimSuffix s.data.toList p.data.toList).toArray⟩) ∧ w' = w := Any.strings_TrimSuffix Tryz.lays102 s p w hs
end Go.Proofs

/-
  DERIVED: THE SHELF's CONTRACTS AT THIS DUMP, IN PLAIN WORDS (tools/lay-plain.mjs out of 'YtjaknioojpgkiaaGreatDoorShelf3.lean', which tools/lay-shelf.mjs wrote): THE SAME DECLARATIONS UNDER THE SAME NAMES: 'import', 'namespace', 'open', 'def', 'theorem' AND NOTHING ELSE: no command of the shelf's: FOR A HAND-IN. Each laying: the table of numbers ('.._ren') and one theorem, a field a fact of the dump's own or the kernel's comparison; each contract: ONE APPLICATION.
-/
namespace Go.Proofs
open Go.Shelf
def Tryz.lays145_ren : Go.Shelf.Ren := ⟨fun | 145 => 36 | 220 => 98 | 219 => 141 | 217 => 138 | 225 => 198 | 224 => 199 | 267 => 200 | 266 => 197 | 314 => 240 | n => n, fun | 9 => 9 | 4 => 4 | 59 => 66 | 3 => 3 | 5 => 5 | 46 => 135 | 146 => 230 | 51 => 179 | n => n, fun | 1 => 0 | n => n⟩
theorem Tryz.lays145 : Go.Proofs.Lays.n145 Tryz.prog Tryz.lays145_ren := {
  mixed := by kernel_rfl
  f145 := Tryz.func36.trans (congrArg some (by kernel_rfl))
  f217 := Tryz.func138.trans (congrArg some (by kernel_rfl))
  f219 := Tryz.func141.trans (congrArg some (by kernel_rfl))
  f220 := Tryz.func98.trans (congrArg some (by kernel_rfl))
  f224 := Tryz.func199.trans (congrArg some (by kernel_rfl))
  f225 := Tryz.func198.trans (congrArg some (by kernel_rfl))
  f266 := Tryz.func197.trans (congrArg some (by kernel_rfl))
  f267 := Tryz.func200.trans (congrArg some (by kernel_rfl))
  f314 := Tryz.func240.trans (congrArg some (by kernel_rfl))
  t3 := Tryz.underlying3
  a3 := Tryz.isAgg3
  z3 := Tryz.sizeOf3
  v3 := Tryz.zeroValue3
  t4 := Tryz.underlying4
  a4 := Tryz.isAgg4
  z4 := Tryz.sizeOf4
  v4 := Tryz.zeroValue4
  t5 := Tryz.underlying5
  a5 := Tryz.isAgg5
  z5 := Tryz.sizeOf5
  v5 := Tryz.zeroValue5
  t9 := Tryz.underlying9
  a9 := Tryz.isAgg9
  z9 := Tryz.sizeOf9
  v9 := Tryz.zeroValue9
  t46 := Tryz.underlying135
  a46 := Tryz.isAgg135
  z46 := Tryz.sizeOf135
  v46 := Tryz.zeroValue135
  t51 := Tryz.underlying179
  a51 := Tryz.isAgg179
  z51 := Tryz.sizeOf179
  v51 := Tryz.zeroValue179
  t59 := Tryz.underlying66
  a59 := Tryz.isAgg66
  z59 := Tryz.sizeOf66
  v59 := Tryz.zeroValue66
  t146 := Tryz.underlying230
  a146 := Tryz.isAgg230
  z146 := Tryz.sizeOf230
  v146 := Tryz.zeroValue230
  g1 := by kernel_rfl }
open Go.RowKit Go.Lib in
theorem Tryz.strings_Cut (s sep : ByteArray) (m : Int) (w : World) (hs : s.size < 4294967281) (hm : w.cell? ⟨0, 0, none⟩ = some (.int .i64 m)) :
    Calls Tryz.prog 36 #[.string s, .string sep] w fun e w' => e = .returned (.tuple #[.string ⟨(Lib.cut s.data.toList sep.data.toList).1.toArray⟩, .string ⟨(Lib.cut s.data.toList sep.data.toList).2.1.toArray⟩, .bool (Lib.cut s.data.toList sep.data.toList).2.2]) ∧ ∃ n, w' = w.drewN n := Any.strings_Cut Tryz.lays145 s sep m w hs hm
def Tryz.lays99_ren : Go.Shelf.Ren := ⟨fun | 99 => 34 | 206 => 96 | n => n, fun | 9 => 9 | 4 => 4 | 3 => 3 | n => n, fun | n => n⟩
theorem Tryz.lays99 : Go.Proofs.Lays.n99 Tryz.prog Tryz.lays99_ren := {
  mixed := by kernel_rfl
  f99 := Tryz.func34.trans (congrArg some (by kernel_rfl))
  f206 := Tryz.func96.trans (congrArg some (by kernel_rfl))
  t3 := Tryz.underlying3
  a3 := Tryz.isAgg3
  z3 := Tryz.sizeOf3
  v3 := Tryz.zeroValue3
  t4 := Tryz.underlying4
  a4 := Tryz.isAgg4
  z4 := Tryz.sizeOf4
  v4 := Tryz.zeroValue4
  t9 := Tryz.underlying9
  a9 := Tryz.isAgg9
  z9 := Tryz.sizeOf9
  v9 := Tryz.zeroValue9 }
open Go.RowKit Go.Lib in
theorem Tryz.strings_HasPrefix (s p : ByteArray) (w : World) :
    Calls Tryz.prog 34 #[.string s, .string p] w fun e w' => e = .returned (.bool (Lib.hasPrefix s.data.toList p.data.toList)) ∧ w' = w := Any.strings_HasPrefix Tryz.lays99 s p w
def Tryz.lays100_ren : Go.Shelf.Ren := ⟨fun | 100 => 37 | 207 => 99 | n => n, fun | 9 => 9 | 4 => 4 | 3 => 3 | n => n, fun | n => n⟩
theorem Tryz.lays100 : Go.Proofs.Lays.n100 Tryz.prog Tryz.lays100_ren := {
  mixed := by kernel_rfl
  f100 := Tryz.func37.trans (congrArg some (by kernel_rfl))
  f207 := Tryz.func99.trans (congrArg some (by kernel_rfl))
  t3 := Tryz.underlying3
  a3 := Tryz.isAgg3
  z3 := Tryz.sizeOf3
  v3 := Tryz.zeroValue3
  t4 := Tryz.underlying4
  a4 := Tryz.isAgg4
  z4 := Tryz.sizeOf4
  v4 := Tryz.zeroValue4
  t9 := Tryz.underlying9
  a9 := Tryz.isAgg9
  z9 := Tryz.sizeOf9
  v9 := Tryz.zeroValue9 }
open Go.RowKit Go.Lib in
theorem Tryz.strings_HasSuffix (s p : ByteArray) (w : World) (hs : s.size ≤ 9223372036854775807) :
    Calls Tryz.prog 37 #[.string s, .string p] w fun e w' => e = .returned (.bool (Lib.hasSuffix s.data.toList p.data.toList)) ∧ w' = w := Any.strings_HasSuffix Tryz.lays100 s p w hs
end Go.Proofs

/- A range over a function whose iterator writes one box that it captured, with a body that may write any other box: the contract and the law. The conditions: the box lies ahead of the loop; the body leaves that box alone and writes no record of a loop. -/
namespace Go.Proofs.YtjaknioojpgkiaaGreatDoor
open Go.RowKit Go.Shelf

/-- What a round keeps: block X. -/
def KpX (X : Nat) (W W' : World) : Prop := W'.heap[X]? = W.heap[X]?
theorem KpX.refl (X : Nat) (W : World) : KpX X W W := rfl
theorem KpX.trans {X : Nat} {A B C : World} (h : KpX X A B) (k : KpX X B C) : KpX X A C := Eq.trans k h
theorem KpX.put {X : Nat} {W : World} {l : Nat} (o : Obj) (hl : X ≠ l) : KpX X W (W.putObj l o) := World.putObj_heap_other hl
theorem KpX.grew {X : Nat} {W W' : World} (hX : X < W.heap.size) (h : Grew W W') : KpX X W W' := h.block X hX
/-- An iterator that writes box X alone, beside what it makes. -/
def SeqStopsX {α : Type} (F : Fence) (n : Nat) (P : Program) (g : Nat) (lb : Array Value) (encs : α → Array Value) (X : Nat) (S Sp : List α → Prop) (w : World) : Prop :=
  ∀ (l : Nat) (J Jx : List α → World → Prop) (W : World), Grew w W → (∀ s A B, J s A → A.grownBy B (some X) → J s B) → (∀ s A B, Jx s A → A.grownBy B (some X) → Jx s B) →
    (∀ pre x W1, J pre W1 → Sp (pre ++ [x]) → YieldAt F (n - 1) P l (encs x) W1 fun e W' =>
      (e = .returned (.bool true) ∧ J (pre ++ [x]) W' ∧ KpX X W1 W') ∨ (e = .returned (.bool false) ∧ Jx (pre ++ [x]) W')) →
    J [] W →
    CallsIn F n P g (#[.func (.yield l) #[] #[]] ++ lb) W fun e W' => (∃ v, e = .returned v) ∧ ((∃ xs, S xs ∧ J xs W') ∨ (∃ pre, Sp pre ∧ Jx pre W'))
theorem wpIn_rangeX {α : Type} {F : Fence} {n : Nat} {P : Program} {g : Operand} {ps : Array Tmp} {assign body : Code} {Q : Exit → Act → World → Prop} {a : Act} {w : World}
    (hro : F.round = none) (h1 : 1 ≤ n) {gf : Nat} {lb : Array Value} (hg : a.eval g = .func (.func gf) #[] lb) (hFg : F.fn gf) (eg : ∀ args w, (callFunc gf args).run P w = .ok (.enter gf args) w)
    {encs : α → Array Value} {X : Nat} {S Sp : List α → Prop} (hX : X < w.heap.size) (hseq : SeqStopsX F (n - 1) P gf lb encs X S Sp w) (hps : ∀ x, (encs x).size = ps.size)
    (I : List α → World → Prop) (Ix : Code → List α → World → Prop) (hI : TurnsX X w.heap.size I) (hIx : ∀ c, TurnsX X w.heap.size (Ix c)) (h0 : I [] w) (a₁ : α → Act)
    (hassign : ∀ (l : Nat) (x : α) (W : World) (K : Act → World → Prop), K (a₁ x) W →
      assign.wpIn (F.inRound l) (n - 1 - 1) P (Exit.then K (fun _ _ _ => False)) { tmps := (ps.zip (encs x)).foldl (fun t (p, v) => t.setIfInBounds p v) a.tmps, defers := [] } W)
    (hbody : ∀ (l : Nat) (pre : List α) (x : α) (W : World), I pre W → Sp (pre ++ [x]) → body.wpIn (F.inRound l) (n - 1 - 1) P (ownPostK (KpX X) I Ix (pre ++ [x]) W) (a₁ x) W)
    (hdone : ∀ (D : Nat) (xs : List α) (W : World), w.heap.size ≤ D → S xs → I xs W → W.heap[D]? = some (.deferred (some [])) → Q .normal { a with defers := { target := .collected D, args := #[] } :: a.defers } W)
    (hstop : ∀ (D : Nat) (c : Code) (pre : List α) (W : World), w.heap.size ≤ D → Sp pre → Ix c pre W → W.heap[D]? = some (.deferred (some [])) → c.wpIn F n P Q { a with defers := { target := .collected D, args := #[] } :: a.defers } W) :
    (Code.rangeFunc g ps assign body).wpIn F n P Q a w := by
  refine wpIn_rangeFunc fun fn hfn => ?_
  rw [hro]
  obtain ⟨D, hD⟩ : ∃ D, D = w.heap.size := ⟨_, rfl⟩
  obtain ⟨R, hR⟩ : ∃ R, R = recOf fn a.tmps ps assign body D := ⟨_, rfl⟩
  obtain ⟨W1, hW1⟩ : ∃ W1, W1 = (w.alloc (.deferred (some []))).alloc (.loop (R .ready none)) := ⟨_, rfl⟩
  have hg1 : Grew w W1 := by rw [hW1]; exact ((Grew.refl w).alloc _).alloc _
  have hrec : RecAt D (R .ready none) W1 := by
    refine ⟨?_, ?_⟩
    · rw [hW1, hD]
      have := World.alloc_heap_new (w.alloc (.deferred (some []))) (.loop (R .ready none))
      rwa [World.size_alloc] at this
    · rw [hW1, hD]
      exact (Below.heap_alloc _ _ _ (by simp)).trans (World.alloc_heap_new w _)
  have hI1 : I [] W1 := hI [] w W1 none h0 (grown_grew hg1 none) (fun r e => by cases e)
  rw [← hD] at hI hIx hX hdone hstop
  refine ⟨D + 1, [{ target := .collected D, args := #[] }], W1, { target := .fn (.func gf) lb, args := #[.func (.yield (D + 1)) #[] #[]] }, W1, gf, #[.func (.yield (D + 1)) #[] #[]] ++ lb, W1, ?_, ?_, ?_, ?_, fun _ => h1, ?_⟩
  · rw [hW1, hR, hD]
    exact run_enterLoop_outer _ _ _ _ _
  · simp only [resolve, hg]
    simp [go_sem]
  · intro f' hf'
    simp [Target.leads] at hf'
    subst hf'
    exact hFg
  · simp [invoke, go_sem, eg]
  · refine (hseq (D + 1) (fun pre W => I pre W ∧ RecAt D (R .ready none) W) (fun pre W => ∃ c, Ix c pre W ∧ RecAt D (R .done (some c)) W) W1 hg1
      (fun s A B h k => ⟨hI s A B _ h.1 k (fun r e => by cases e; exact .inl rfl), h.2.grown hX k⟩)
      (fun s A B h k => h.imp fun c hc => ⟨hIx c s A B _ hc.1 k (fun r e => by cases e; exact .inl rfl), hc.2.grown hX k⟩) ?_ ⟨hI1, hrec⟩).mono ?_
    · rintro pre x W ⟨hi, hr⟩ hlen
      have hy := run_yield (P := P) (args := encs x) hr.loop (by rw [hR]; exact hps x)
      rw [hR] at hy
      have hr2 := hr.put (R .busy none)
      have hk2 : KpX X W (W.putObj (D + 1) (.loop (R .busy none))) := KpX.put _ (by omega)
      refine ⟨fn, _, assign, body, hy, roundIn_of_wpIn hfn (hassign _ x W _ ⟨_, run_beginRound hr.loop (by rw [hR]; rfl), ?_⟩)⟩
      have hb := hbody (D + 1) pre x _ (hI.put (.loop (R .busy none)) hi (Nat.le_succ D)) hlen
      have he : ({ R .ready none with state := .busy } : Loop) = R .busy none := by rw [hR]; rfl
      rw [he]
      refine wpIn_mono hb ?_
      have fin : ∀ (jump : Option Code) (W3 : World), KeepsOthers (W.putObj (D + 1) (.loop (R .busy none))) W3 →
          (Instr.endRound (D + 1) jump).run P W3 = .ok (.bool jump.isNone) (W3.putObj (D + 1) (.loop (R (if jump.isNone then .ready else .done) jump))) ∧ RecAt D (R .busy none) W3 ∧ RecAt D (R (if jump.isNone then .ready else .done) jump) (W3.putObj (D + 1) (.loop (R (if jump.isNone then .ready else .done) jump))) := fun jump W3 hk => by
        have hr3 := hr2.others hk
        have := run_endRound (P := P) jump hr3.loop
        refine ⟨?_, hr3, hr3.put _⟩
        rw [this, hR]
        rfl
      rintro e a3 W3 hp
      cases e with
      | normal =>
        obtain ⟨hk3, hkp3, hi3⟩ := hp
        obtain ⟨h3, h4, h5⟩ := fin none W3 hk3
        exact ⟨_, _, h3, .inl ⟨rfl, ⟨hI.put _ hi3 (Nat.le_succ D), h5⟩, (hk2.trans hkp3).trans (KpX.put _ (by omega))⟩⟩
      | ret =>
        obtain ⟨hk3, hi3⟩ := hp
        obtain ⟨h3, h4, h5⟩ := fin (some .ret) W3 hk3
        exact ⟨_, _, h3, .inr ⟨rfl, _, (hIx _).put _ hi3 (Nat.le_succ D), h5⟩⟩
      | exit id =>
        obtain ⟨hk3, hi3⟩ := hp
        obtain ⟨h3, h4, h5⟩ := fin (some (.exit id)) W3 hk3
        exact ⟨_, _, h3, .inr ⟨rfl, _, (hIx _).put _ hi3 (Nat.le_succ D), h5⟩⟩
      | goto t =>
        obtain ⟨hk3, hi3⟩ := hp
        obtain ⟨h3, h4, h5⟩ := fin (some (.goto t)) W3 hk3
        exact ⟨_, _, h3, .inr ⟨rfl, _, (hIx _).put _ hi3 (Nat.le_succ D), h5⟩⟩
      | panic ch => exact hp.elim
      | outgrown => exact hp.elim
    · rintro e W2 ⟨⟨v, rfl⟩, (⟨xs, hS, hi, hr⟩ | ⟨pre, hSp, c, hi, hr⟩)⟩
      · have := run_endLoop (P := P) hr.loop (by rw [hR]; simp [recOf])
        exact ⟨none, _, by rw [this, hR]; rfl, hdone D xs _ (by omega) hS (hI.put _ hi (Nat.le_succ D)) ((World.putObj_heap_other (by omega)).trans hr.defd)⟩
      · have := run_endLoop (P := P) hr.loop (by rw [hR]; simp [recOf])
        exact ⟨some c, _, by rw [this, hR]; rfl, hstop D c pre _ (by omega) hSp ((hIx c).put _ hi (Nat.le_succ D)) ((World.putObj_heap_other (by omega)).trans hr.defd)⟩
end Go.Proofs.YtjaknioojpgkiaaGreatDoor

/- The lines of what Print writes, plainly. No condition. -/
namespace Go.Proofs.YtjaknioojpgkiaaGreatDoor
open Go.RowKit

/-- The lines of a text, each with its line feed. -/
def linesL : List UInt8 → List (List UInt8)
  | [] => []
  | b :: r => if b = 10 then [10] :: linesL r else match linesL r with
    | [] => [[b]]
    | x :: xs => (b :: x) :: xs
theorem lines_nl : ∀ (A B : List UInt8), (∀ b ∈ A, b ≠ 10) → linesL (A ++ 10 :: B) = (A ++ [10]) :: linesL B
  | [], B, _ => by simp [linesL]
  | a :: A, B, h => by
    have ih := lines_nl A B (fun b hb => h b (List.mem_cons_of_mem _ hb))
    have ha : a ≠ 10 := h a List.mem_cons_self
    simp [linesL, ha, ih]
theorem lines_no : ∀ (A : List UInt8), A ≠ [] → (∀ b ∈ A, b ≠ 10) → linesL A = [A]
  | [], h, _ => absurd rfl h
  | [a], _, h => by
    have ha : a ≠ 10 := h a List.mem_cons_self
    simp [linesL, ha]
  | a :: c :: A, _, h => by
    have ih := lines_no (c :: A) (by simp) (fun b hb => h b (List.mem_cons_of_mem _ hb))
    have ha : a ≠ 10 := h a List.mem_cons_self
    rw [linesL, if_neg ha, ih]
theorem byte_split : ∀ s : List UInt8, (Lib.indexByte s 10 = -1 ∧ ∀ b ∈ s, b ≠ 10) ∨ ∃ A B : List UInt8, s = A ++ 10 :: B ∧ (∀ b ∈ A, b ≠ 10) ∧ Lib.indexByte s 10 = (A.length : Int)
  | [] => .inl ⟨rfl, by simp⟩
  | b :: r => by
    by_cases hb : b = 10
    · subst hb
      exact .inr ⟨[], r, rfl, by simp, by simp [Lib.indexByte]⟩
    · rcases byte_split r with ⟨h1, h2⟩ | ⟨A, B, rfl, h1, h2⟩
      · refine .inl ⟨by simp [Lib.indexByte, hb, h1], fun x hx => ?_⟩
        rcases List.mem_cons.1 hx with rfl | hx
        · exact hb
        · exact h2 x hx
      · refine .inr ⟨b :: A, B, rfl, fun x hx => ?_, ?_⟩
        · rcases List.mem_cons.1 hx with rfl | hx
          · exact hb
          · exact h1 x hx
        · have h3 : ¬ ((A.length : Int) = -1) := by omega
          simp [Lib.indexByte, hb, h2, h3]
/-- One step of strings.Lines. -/
theorem lines_step (s : List UInt8) (hs : s ≠ []) : (Lib.indexByte s 10 = -1 ∧ linesL s = [s]) ∨ ∃ i : Nat, Lib.indexByte s 10 = (i : Int) ∧ i < s.length ∧ linesL s = s.take (i + 1) :: linesL (s.drop (i + 1)) := by
  rcases byte_split s with ⟨h1, h2⟩ | ⟨A, B, rfl, h1, h2⟩
  · exact .inl ⟨h1, lines_no s hs h2⟩
  · refine .inr ⟨A.length, h2, by simp, ?_⟩
    rw [lines_nl A B h1]
    have e : A ++ 10 :: B = (A ++ [10]) ++ B := by simp
    have hl : A.length + 1 = (A ++ [10]).length := by simp
    rw [e, hl, List.take_left, List.drop_left]
/-- The first line of a text. -/
def firstL : List UInt8 → List UInt8
  | [] => []
  | b :: r => if b = 10 then [] else b :: firstL r
theorem first_no : ∀ A : List UInt8, (∀ b ∈ A, b ≠ 10) → firstL A = A
  | [], _ => rfl
  | a :: A, h => by
    have ha : a ≠ 10 := h a List.mem_cons_self
    rw [firstL, if_neg ha, first_no A (fun b hb => h b (List.mem_cons_of_mem _ hb))]
theorem first_nl : ∀ A B : List UInt8, (∀ b ∈ A, b ≠ 10) → firstL (A ++ 10 :: B) = A
  | [], B, _ => by simp [firstL]
  | a :: A, B, h => by
    have ha : a ≠ 10 := h a List.mem_cons_self
    rw [List.cons_append, firstL, if_neg ha, first_nl A B (fun b hb => h b (List.mem_cons_of_mem _ hb))]
theorem cut_first (T : List UInt8) : (Lib.cut T [10]).1 = firstL T := by
  unfold Lib.cut
  rw [Lib.index_one]
  rcases byte_split T with ⟨h1, h2⟩ | ⟨A, B, rfl, h1, h2⟩
  · rw [h1, if_neg (by omega), first_no T h2]
  · rw [h2, if_pos (by omega), first_nl A B h1]
    simp
def blank2 (x : List UInt8) : Bool := Lib.hasPrefix x [32, 32]
/-- A text as it is printed, behind a head: one line with the head, and lines that begin with blanks. -/
theorem cont_lines : ∀ (T A R : List UInt8), (∀ b ∈ A, b ≠ 10) → ∃ C : List (List UInt8), linesL (A ++ (T.flatMap nlB ++ 10 :: R)) = (A ++ (firstL T ++ [10])) :: (C ++ linesL R) ∧ ∀ c ∈ C, blank2 c = true
  | [], A, R, h => ⟨[], by simpa [firstL] using lines_nl A R h, by simp⟩
  | b :: T, A, R, h => by
    by_cases hb : b = 10
    · subst hb
      obtain ⟨C, h1, h2⟩ := cont_lines T [32, 32] R (by decide)
      refine ⟨([32, 32] ++ (firstL T ++ [10])) :: C, ?_, fun c hc => ?_⟩
      · have e : A ++ (((10 : UInt8) :: T).flatMap nlB ++ 10 :: R) = A ++ 10 :: ([32, 32] ++ (T.flatMap nlB ++ 10 :: R)) := by simp [nlB]
        rw [e, lines_nl A _ h, h1]
        simp [firstL]
      · rcases List.mem_cons.1 hc with rfl | hc
        · simp [blank2, Lib.hasPrefix, List.isPrefixOf]
        · exact h2 c hc
    · obtain ⟨C, h1, h2⟩ := cont_lines T (A ++ [b]) R (fun x hx => by
        rcases List.mem_append.1 hx with hx | hx
        · exact h x hx
        · rw [List.mem_singleton.1 hx]; exact hb)
      refine ⟨C, ?_, h2⟩
      have e : A ++ ((b :: T).flatMap nlB ++ 10 :: R) = (A ++ [b]) ++ (T.flatMap nlB ++ 10 :: R) := by simp [nlB, hb]
      rw [e, h1]
      simp [firstL, hb]
/-- The head of a part of a description, up to the colon. -/
def hdB (v : Val) (unit : Int) (wt : ByteArray) : List UInt8 :=
  (kindOf v.elem).word.data.toList ++ (if (v.lang.toList == wt.toList) = true then [] else [32, 40] ++ v.lang.data.toList ++ [41]) ++ (if v.unit = unit then [] else [32, 102, 114, 111, 109, 32] ++ Lib.itoa v.unit)
def tailL (v : Val) : List UInt8 := [58, 32] ++ firstL v.text.data.toList ++ [10]
def headL (v : Val) (unit : Int) (wt : ByteArray) : List UInt8 := hdB v unit wt ++ tailL v
/-- What is known of an effective value. -/
structure HdOk (v : Val) : Prop where
  el : isEl v.elem = true
  lang : isLangF v.lang.data.toList = true
  unit : 1 ≤ v.unit
theorem lang_ab {l : List UInt8} (h : isLangF l = true) : ∃ a b : UInt8, l = [a, b] ∧ isLow a = true ∧ isLow b = true := by
  unfold isLangF at h
  simp only [Bool.and_eq_true, decide_eq_true_eq] at h
  obtain ⟨h1, h2⟩ := h
  match l, h1 with
  | [a, b], _ => exact ⟨a, b, rfl, by simpa using h2⟩
theorem low_fin : ∀ n : Fin 256, isLow (UInt8.ofFin n) = true → UInt8.ofFin n ≠ 10 ∧ UInt8.ofFin n ≠ 32 := by decide +kernel
theorem low_ne {a : UInt8} (h : isLow a = true) : a ≠ 10 ∧ a ≠ 32 := low_fin a.toFin h
theorem word_ok {n : Int} (h : isEl n = true) : (∀ b ∈ (kindOf n).word.data.toList, b ≠ 10) ∧ (∀ b ∈ (kindOf n).word.data.toList, b ≠ 32) ∧ (kindOf n).word.data.toList ≠ [] := by
  rcases isEl_cases h with rfl | rfl | rfl | rfl | rfl | rfl | rfl | rfl <;> exact ⟨by decide +kernel, by decide +kernel, by decide +kernel⟩
/-- No " from " in a text in which each blank is followed by another byte than f. -/
theorem from_no : ∀ (W t : List UInt8), (∀ b ∈ W, b ≠ 32) → Lib.index (W ++ t) [32, 102, 114, 111, 109, 32] = -1 ∨ ¬ Lib.index t [32, 102, 114, 111, 109, 32] = -1
  | [], t, _ => by by_cases h : Lib.index t [32, 102, 114, 111, 109, 32] = -1 <;> simp [h]
  | b :: W, t, h => by
    rcases from_no W t (fun x hx => h x (List.mem_cons_of_mem _ hx)) with h1 | h1
    · have hb : (32 == b) = false := by have := h b List.mem_cons_self; simpa using fun e : 32 = b => this e.symm
      refine .inl ?_
      simp [Lib.index, List.isPrefixOf, hb, h1]
    · exact .inr h1
theorem from_yes : ∀ (W t : List UInt8), 0 ≤ Lib.index (W ++ ([32, 102, 114, 111, 109, 32] ++ t)) [32, 102, 114, 111, 109, 32]
  | [], t => by simp [Lib.index, List.isPrefixOf]
  | b :: W, t => by
    have ih := from_yes W t
    rw [List.cons_append, Lib.index]
    split
    · decide
    · split
      · rename_i h1 h2
        have : Lib.index (W ++ ([32, 102, 114, 111, 109, 32] ++ t)) [32, 102, 114, 111, 109, 32] = -1 := by simpa using h2
        omega
      · omega
def langB (v : Val) (wt : ByteArray) : List UInt8 := if (v.lang.toList == wt.toList) = true then [] else [32, 40] ++ v.lang.data.toList ++ [41]
theorem lang_ok {v : Val} {wt : ByteArray} (h : HdOk v) : (∀ b ∈ langB v wt, b ≠ 10) ∧ Lib.index (langB v wt) [32, 102, 114, 111, 109, 32] = -1 := by
  unfold langB
  split
  · exact ⟨by simp, by decide⟩
  · obtain ⟨a, b, e, ha, hb⟩ := lang_ab h.lang
    obtain ⟨a1, a2⟩ := low_ne ha
    obtain ⟨b1, b2⟩ := low_ne hb
    rw [e]
    refine ⟨by simp [a1, b1], ?_⟩
    have a3 : (32 == a) = false := by simpa using fun e : 32 = a => a2 e.symm
    have b3 : (32 == b) = false := by simpa using fun e : 32 = b => b2 e.symm
    simp [Lib.index, List.isPrefixOf, a3, b3]
theorem hd_from {v : Val} {unit : Int} {wt : ByteArray} (h : HdOk v) : Lib.contains (hdB v unit wt) [32, 102, 114, 111, 109, 32] = !(decide (v.unit = unit)) := by
  have hw := word_ok h.el
  have hl := lang_ok (wt := wt) h
  unfold langB at hl
  unfold Lib.contains hdB
  by_cases hu : v.unit = unit
  · rw [if_pos hu, List.append_nil]
    rcases from_no _ _ hw.2.1 with h1 | h1
    · rw [h1]; simp [hu]
    · exact absurd hl.2 h1
  · rw [if_neg hu]
    have := from_yes ((kindOf v.elem).word.data.toList ++ (if (v.lang.toList == wt.toList) = true then [] else [32, 40] ++ v.lang.data.toList ++ [41])) (Lib.itoa v.unit)
    simp only [hu, decide_false, Bool.not_false, decide_eq_true_eq]
    exact this
theorem dec_fin : ∀ n : Fin 10, UInt8.ofNat (48 + n.val) ≠ 10 := by decide +kernel
theorem dec_no (u : Nat) : ∀ b ∈ Lib.decDigits u, b ≠ 10 := by
  induction u using Nat.strongRecOn with
  | ind u ih =>
    rw [Lib.decDigits]
    split
    · rename_i h
      intro b hb
      rw [List.mem_singleton.1 hb]
      exact dec_fin ⟨u, h⟩
    · rename_i h
      intro b hb
      rcases List.mem_append.1 hb with hb | hb
      · exact ih (u / 10) (by omega) b hb
      · rw [List.mem_singleton.1 hb]
        exact dec_fin ⟨u % 10, by omega⟩
theorem hd_no {v : Val} {unit : Int} {wt : ByteArray} (h : HdOk v) : ∀ b ∈ hdB v unit wt, b ≠ 10 := by
  intro b hb
  unfold hdB at hb
  rcases List.mem_append.1 hb with hb | hb
  · rcases List.mem_append.1 hb with hb | hb
    · exact (word_ok h.el).1 b hb
    · exact (lang_ok (wt := wt) h).1 b hb
  · split at hb
    · cases hb
    · rcases List.mem_append.1 hb with hb | hb
      · simp only [List.mem_cons, List.not_mem_nil, or_false] at hb
        rcases hb with rfl | rfl | rfl | rfl | rfl | rfl <;> decide
      · obtain ⟨k, hk⟩ : ∃ k : Nat, v.unit = (k : Int) := ⟨v.unit.toNat, by have := h.unit; omega⟩
        rw [hk, Lib.itoa_nonneg] at hb
        exact dec_no k b hb
theorem head_blank {v : Val} {unit : Int} {wt : ByteArray} (h : HdOk v) : blank2 (headL v unit wt) = false := by
  obtain ⟨-, h2, h3⟩ := word_ok h.el
  unfold headL hdB blank2 Lib.hasPrefix
  cases hw : (kindOf v.elem).word.data.toList with
  | nil => exact absurd hw h3
  | cons b r =>
    have hb : (32 == b) = false := by have := h2 b (by rw [hw]; exact List.mem_cons_self); simpa using fun e : 32 = b => this e.symm
    simp [List.isPrefixOf, hb]
theorem line_parts (v : Val) (unit : Int) (wt : ByteArray) : lineB v unit wt = hdB v unit wt ++ [58, 32] ++ (v.text.data.toList.flatMap nlB ++ [10]) := by
  unfold lineB hdB
  simp only [List.append_assoc]
theorem heads_of (unit : Int) (wt : ByteArray) : ∀ L : List Val, (∀ v ∈ L, HdOk v) → (linesL (linesB L unit wt)).filter (fun x => !blank2 x) = L.map fun v => headL v unit wt
  | [], _ => by simp [linesB, linesL]
  | v :: L, h => by
    have ih := heads_of unit wt L (fun x hx => h x (List.mem_cons_of_mem _ hx))
    have hv := h v List.mem_cons_self
    obtain ⟨C, h1, h2⟩ := cont_lines v.text.data.toList (hdB v unit wt ++ [58, 32]) (linesB L unit wt) (fun b hb => by
      rcases List.mem_append.1 hb with hb | hb
      · exact hd_no hv b hb
      · simp only [List.mem_cons, List.not_mem_nil, or_false] at hb
        rcases hb with rfl | rfl <;> decide)
    have e : linesB (v :: L) unit wt = (hdB v unit wt ++ [58, 32]) ++ (v.text.data.toList.flatMap nlB ++ 10 :: linesB L unit wt) := by
      unfold linesB
      rw [List.flatMap_cons, line_parts]
      simp only [List.append_assoc, List.cons_append, List.nil_append]
    have e2 : hdB v unit wt ++ [58, 32] ++ (firstL v.text.data.toList ++ [10]) = headL v unit wt := by
      unfold headL tailL
      simp only [List.append_assoc]
    rw [e, h1, e2, List.map_cons, List.filter_cons_of_pos (by rw [head_blank hv]; rfl), List.filter_append, ih]
    rw [List.filter_eq_nil_iff.2 (fun c hc => by rw [h2 c hc]; simp)]
    rfl
def cntL (pre : List (List UInt8)) : Nat := (pre.filter fun x => !blank2 x).length
theorem cnt_snoc (pre : List (List UInt8)) (x : List UInt8) : cntL (pre ++ [x]) = if blank2 x = true then cntL pre else cntL pre + 1 := by
  unfold cntL
  rw [List.filter_append]
  cases h : blank2 x <;> simp [h]
theorem line_end {L : List Val} {unit : Int} {wt : ByteArray} (h : ∀ v ∈ L, HdOk v) : cntL (linesL (linesB L unit wt)) = L.length := by
  unfold cntL
  rw [heads_of unit wt L h, List.length_map]
theorem line_at {L : List Val} {unit : Int} {wt : ByteArray} (h : ∀ v ∈ L, HdOk v) {pre : List (List UInt8)} {x : List UInt8} (hp : pre ++ [x] <+: linesL (linesB L unit wt)) (hb : blank2 x = false) :
    ∃ hn : cntL pre < L.length, x = headL L[cntL pre] unit wt := by
  obtain ⟨suf, hs⟩ := hp
  have hh := heads_of unit wt L h
  rw [← hs, List.append_assoc, List.filter_append, List.singleton_append, List.filter_cons_of_pos (by rw [hb]; rfl)] at hh
  have hl := congrArg List.length hh
  rw [List.length_append, List.length_cons, List.length_map] at hl
  have hn : cntL pre < L.length := by unfold cntL; omega
  refine ⟨hn, ?_⟩
  have hg : ((pre.filter fun x => !blank2 x) ++ x :: suf.filter fun x => !blank2 x)[cntL pre]? = some x := by
    unfold cntL
    simp
  rw [hh, List.getElem?_map, List.getElem?_eq_getElem hn] at hg
  exact (Option.some.inj hg).symm
/-- What the law asks of a line that is a head. -/
theorem head_asks {v : Val} {unit : Int} {wt : ByteArray} (h : HdOk v) :
    Lib.hasPrefix (headL v unit wt) (kindOf v.elem).word.data.toList = true ∧ Lib.hasSuffix (headL v unit wt) (tailL v) = true ∧ Lib.trimSuffix (headL v unit wt) (tailL v) = hdB v unit wt ∧
      Lib.contains (hdB v unit wt) [32, 102, 114, 111, 109, 32] = !(decide (v.unit = unit)) := by
  have hs : Lib.hasSuffix (headL v unit wt) (tailL v) = true := by
    unfold Lib.hasSuffix headL
    rw [List.isSuffixOf_iff_suffix]
    exact List.suffix_append _ _
  refine ⟨?_, hs, ?_, hd_from h⟩
  · unfold Lib.hasPrefix headL hdB
    rw [List.isPrefixOf_iff_prefix, List.append_assoc, List.append_assoc]
    exact List.prefix_append _ _
  · unfold Lib.trimSuffix
    rw [if_pos hs]
    unfold headL
    rw [List.length_append, Nat.add_sub_cancel, List.take_left]
/-- The effective values: what is known of each. -/
theorem all_hd {t : Tr} {ls : List ByteArray} {vs : List Val} {u : Int} {wt : ByteArray} (h : (allR t ls vs u wt).2 = 0) : ∀ x ∈ (allR t ls vs u wt).1, HdOk x := by
  unfold allR at h ⊢
  by_cases ha : askI t ls vs u 1 wt = 0
  · rw [if_pos ha]
    obtain ⟨⟨hT, hR⟩, -⟩ := askI_zero.1 ha
    intro x hx
    obtain ⟨n, -, hn⟩ := List.mem_filterMap.1 hx
    unfold effF at hn
    obtain ⟨lg, -, hf⟩ := List.exists_of_findSome?_eq_some hn
    obtain ⟨k, hk, h1, h2, h3, h4, -⟩ := along_source hf
    have hm := get_there h4
    have hg := hR.2.2.1 _ hm
    have hl2 : isLangF lg.data.toList = true := lang_of_langs hR.1 (by
      have := inL_mem hg.2.2.2.1
      exact this)
    rw [← h3] at hl2
    exact ⟨by rw [h2]; exact hg.2.2.1, hl2, by rw [h1]; exact hg.1⟩
  · rw [if_neg ha] at h
    exact absurd h ha
end Go.Proofs.YtjaknioojpgkiaaGreatDoor

/-
  DERIVED: THE SHELF's CONTRACTS AT THIS DUMP, IN PLAIN WORDS (tools/lay-plain.mjs out of 'YtjaknioojpgkiaaGreatDoorShelf5.lean', which tools/lay-shelf.mjs wrote): THE SAME DECLARATIONS UNDER THE SAME NAMES: 'import', 'namespace', 'open', 'def', 'theorem' AND NOTHING ELSE: no command of the shelf's: FOR A HAND-IN. Each laying: the table of numbers ('.._ren') and one theorem, a field a fact of the dump's own or the kernel's comparison; each contract: ONE APPLICATION.
-/
namespace Go.Proofs
open Go.Shelf
def Tryz.lays137_ren : Go.Shelf.Ren := ⟨fun | 137 => 95 | 217 => 138 | 266 => 197 | n => n, fun | 9 => 9 | 5 => 5 | 3 => 3 | n => n, fun | n => n⟩
theorem Tryz.lays137 : Go.Proofs.Lays.n137 Tryz.prog Tryz.lays137_ren := {
  mixed := by kernel_rfl
  f137 := Tryz.func95.trans (congrArg some (by kernel_rfl))
  f217 := Tryz.func138.trans (congrArg some (by kernel_rfl))
  f266 := Tryz.func197.trans (congrArg some (by kernel_rfl))
  t3 := Tryz.underlying3
  a3 := Tryz.isAgg3
  z3 := Tryz.sizeOf3
  v3 := Tryz.zeroValue3
  t5 := Tryz.underlying5
  a5 := Tryz.isAgg5
  z5 := Tryz.sizeOf5
  v5 := Tryz.zeroValue5
  t9 := Tryz.underlying9
  a9 := Tryz.isAgg9
  z9 := Tryz.sizeOf9
  v9 := Tryz.zeroValue9 }
open Go.RowKit in
theorem Tryz.strings_IndexByte (s : ByteArray) (c : Int) (w : World) :
    Calls Tryz.prog 95 #[.string s, .int .u8 c] w fun e w' => e = .returned (.int .i64 (Lib.indexByte s.data.toList c.toNat.toUInt8)) ∧ w' = w := Any.strings_IndexByte Tryz.lays137 s c w
end Go.Proofs

/- strings.Lines and the closure that it returns, walked: it hands on the lines of a text. The condition: the rounds leave the closure's box alone. -/
namespace Go.Proofs.YtjaknioojpgkiaaGreatDoor
open Go.RowKit Go.Shelf

attribute [local go_sem] Oper.semAt_some

theorem sLines (s : ByteArray) (w : World) : Calls Tryz.prog 33 #[.string s] w fun e w' => e = .returned (.func (.func 94) #[] #[.pointer (some ⟨w.heap.size, 0, none⟩)]) ∧ w.alloc (.cells #[.string s] 9) = w' := by
  go_enter Tryz.func33, Tryz.ntmps33
  go_wp2
  go_ret
  exact ⟨rfl, rfl⟩
theorem extract_ba (l : List UInt8) (a b : Nat) : (⟨l.toArray⟩ : ByteArray).extract a b = ⟨((l.drop a).take (b - a)).toArray⟩ := by
  apply ByteArray.ext
  apply Array.ext'
  simp
set_option maxHeartbeats 4000000 in
set_option maxRecDepth 100000 in
theorem sLines1 (s : List UInt8) (hs : s.length ≤ 4611686018427387904) (X lp : Nat) (J Jx : List (List UInt8) → World → Prop) (W : World)
    (hJ : ∀ s A B, J s A → A.grownBy B (some X) → J s B)
    (hY : ∀ m pre x W1, J pre W1 → pre ++ [x] <+: linesL s → YieldAt Fence.wide m Tryz.prog lp #[.string ⟨x.toArray⟩] W1 fun e W' => (e = .returned (.bool true) ∧ J (pre ++ [x]) W' ∧ KpX X W1 W') ∨ (e = .returned (.bool false) ∧ Jx (pre ++ [x]) W'))
    (h0 : J [] W) (hXb : Boxed W X 9 (.string ⟨s.toArray⟩)) :
    Calls Tryz.prog 94 #[.func (.yield lp) #[] #[], .pointer (some ⟨X, 0, none⟩)] W fun e W' => (∃ v, e = .returned v) ∧ (J (linesL s) W' ∨ ∃ pre, pre <+: linesL s ∧ Jx pre W') := by
  have KI := Lib.hid (fun z W => Tryz.strings_IndexByte z 10 W)
  have HST := Lib.hid lines_step
  have HJ := Lib.hid hJ
  have HXB := Lib.hid hXb
  have H0 := Lib.hid h0
  generalize hL : linesL s = L at hY ⊢
  have HL := Lib.hid hL
  have HY := Lib.hid hY
  clear hJ hY h0 hXb hL
  refine (callsIn_wide (n := 9)).1 ?_
  refine callsIn_of_wp Tryz.func94 rfl trivial ?_ rfl
  simp only [Tryz.ntmps94, List.size_toArray, List.length_cons, List.length_nil, Nat.reduceAdd, Nat.reduceSub, Array.replicate_succ, Array.replicate_zero, List.push_toArray, List.append_toArray, List.nil_append, List.cons_append]
  gi_wp2
  gi_loopg [] s.length (fun gg wr => ∃ (z : List UInt8) (pre : List (List UInt8)), z.length ≤ gg ∧ z.length ≤ 4611686018427387904 ∧ Aside (pre ++ linesL z = L) ∧ Aside (Boxed wr X 9 (.string ⟨z.toArray⟩)) ∧ Aside (J pre wr))
  case atStart => exact ⟨s, [], Nat.le_refl _, hs, (show Aside _ from HL.out), (show Aside _ from HXB.out), (show Aside _ from H0.out)⟩
  case round =>
    obtain ⟨z, pre, hgz, hz, PL, XB, JW⟩ := hrel
    have hc := XB.out.cell
    have hf := XB.out.frozen
    cases z with
    | nil =>
      gi_wp2_with fail
      go_end0
      refine ⟨⟨_, rfl⟩, .inl ?_⟩
      have := PL.out
      rw [show linesL [] = [] from rfl, List.append_nil] at this
      rw [← this]
      exact JW.out
    | cons b r =>
      have hst := HST.out (b :: r) (by simp)
      gi_wp2_with fail
      refine ⟨trivial, (callsIn_wide.2 (KI.out _ _)).mono ?_⟩
      rintro e wr ⟨rfl, rfl⟩
      dsimp only
      rw [show (Int.toNat 10).toUInt8 = 10 from rfl]
      generalize hzz : b :: r = z at hst XB PL hgz hz hc ⊢
      have hzp : 0 < z.length := by rw [← hzz]; simp
      clear hzz
      rcases hst with ⟨hi, hls⟩ | ⟨i, hi, hil, hls⟩
      · rw [hi]
        rw [hls] at PL
        have HPL := Lib.hid (show (pre ++ [z]) ++ linesL [] = L from by rw [show linesL [] = [] from rfl, List.append_nil]; exact PL.out)
        have hJ2 := HJ.out _ _ _ JW.out (grownBy_setCell' wr X (.string ⟨#[]⟩))
        have XB2 := Lib.hid (XB.out.set (.string ⟨#[]⟩))
        obtain ⟨fn, tmps, assign, body, hy, hR⟩ := HY.out 8 pre z _ hJ2 (by rw [← HPL.out]; exact List.prefix_append _ _)
        clear hJ2 PL hls
        gi_wp2_with fail
        refine hR.mono ?_
        rintro e W2 (⟨rfl, hj2, hk2⟩ | ⟨rfl, hjx⟩)
        · have XB3 := Lib.hid (show Boxed W2 X 9 (.string ⟨#[]⟩) from Eq.trans hk2 XB2.out)
          have HJ2 := Lib.hid hj2
          clear hk2 hj2 hc hf hy hR
          dsimp only
          gi_wp2
          gi_roundg (([] : List UInt8).length)
          case measure => simp only [List.length_nil]; omega
          case rel => exact ⟨[], pre ++ [z], Nat.le_refl _, by simp, (show Aside _ from HPL.out), (show Aside _ from XB3.out), (show Aside _ from HJ2.out)⟩
        · have HJX := Lib.hid hjx
          clear hjx hc hf hy hR
          dsimp only
          gi_wp2
          refine bodyPost_ret (results_none rfl _ _ _) rfl ?_
          exact ⟨⟨_, rfl⟩, .inr ⟨pre ++ [z], ⟨linesL [], HPL.out⟩, HJX.out⟩⟩
      · rw [hi]
        have hwi : IntKind.i64.wrap ((i : Int) + 1) = (i : Int) + 1 := IntWalk.i64_in _ (by omega)
        have h0i : (0 : Int) ≤ (i : Int) + 1 := by omega
        have hzi : (i : Int) + 1 ≤ (z.length : Int) := by omega
        gi_wp2_with fail
        refine wpIn_wide.2 ?_
        go_region
        rw [extract_ba, extract_ba]
        have e1 : ((z.drop 0).take (i + 1 - 0)) = z.take (i + 1) := by rw [List.drop_zero, Nat.sub_zero]
        have e2 : ((z.drop (i + 1)).take (z.length - (i + 1))) = z.drop (i + 1) := List.take_of_length_le (by rw [List.length_drop]; omega)
        rw [e1, e2]
        rw [hls] at PL
        have HPL := Lib.hid (show (pre ++ [z.take (i + 1)]) ++ linesL (z.drop (i + 1)) = L from by rw [List.append_assoc]; exact PL.out)
        have hJ2 := HJ.out _ _ _ (HJ.out _ _ _ JW.out (grownBy_setCell' wr X (.string ⟨(z.drop (i + 1)).toArray⟩))) (grown_grew ((Grew.refl _).drew) (some X))
        have XB2 := Lib.hid ((XB.out.set (.string ⟨(z.drop (i + 1)).toArray⟩)).kept (grown_grew ((Grew.refl _).drew) none) (fun e => by cases e))
        obtain ⟨fn, tmps, assign, body, hy, hR⟩ := HY.out 8 pre (z.take (i + 1)) _ hJ2 (by rw [← HPL.out]; exact List.prefix_append _ _)
        clear hJ2 PL hls e1 e2
        gi_wp2_with fail
        refine hR.mono ?_
        rintro e W2 (⟨rfl, hj2, hk2⟩ | ⟨rfl, hjx⟩)
        · have XB3 := Lib.hid (show Boxed W2 X 9 (.string ⟨(z.drop (i + 1)).toArray⟩) from Eq.trans hk2 XB2.out)
          have HJ2 := Lib.hid hj2
          clear hk2 hj2 hc hf hy hR
          dsimp only
          gi_wp2
          gi_roundg ((z.drop (i + 1)).length)
          case measure => rw [List.length_drop]; omega
          case rel => exact ⟨(z.drop (i + 1)), pre ++ [z.take (i + 1)], Nat.le_refl _, by rw [List.length_drop]; omega, (show Aside _ from HPL.out), (show Aside _ from XB3.out), (show Aside _ from HJ2.out)⟩
        · have HJX := Lib.hid hjx
          clear hjx hc hf hy hR
          dsimp only
          gi_wp2
          refine bodyPost_ret (results_none rfl _ _ _) rfl ?_
          exact ⟨⟨_, rfl⟩, .inr ⟨pre ++ [z.take (i + 1)], ⟨linesL (z.drop (i + 1)), HPL.out⟩, HJX.out⟩⟩
/-- strings.Lines, as a contract of an iterator. -/
theorem linesStops (s : List UInt8) (hs : s.length ≤ 4611686018427387904) (X n : Nat) (w : World) (hXb : Boxed w X 9 (.string ⟨s.toArray⟩)) :
    SeqStopsX Fence.wide n Tryz.prog 94 #[.pointer (some ⟨X, 0, none⟩)] (fun x : List UInt8 => #[Value.string ⟨x.toArray⟩]) X (fun xs => xs = linesL s) (fun pre => pre <+: linesL s) w :=
  fun lp J Jx W hW hJ _ hY h0 => by
    refine callsIn_wide.2 ?_
    refine (sLines1 s hs X lp J Jx W hJ (fun m pre x W1 hj hlt => yieldFree rfl m (hY pre x W1 hj hlt)) h0 (hXb.kept (grown_grew hW none) (fun e => by cases e))).mono ?_
    rintro e W' ⟨h, h2 | ⟨pre, h2, h3⟩⟩
    · exact ⟨h, .inl ⟨_, rfl, h2⟩⟩
    · exact ⟨h, .inr ⟨pre, h2, h3⟩⟩
end Go.Proofs.YtjaknioojpgkiaaGreatDoor

/- What the loop of DescribeLines keeps. No condition. -/
namespace Go.Proofs.YtjaknioojpgkiaaGreatDoor
open Go.RowKit Go.Shelf

theorem lines_len {L : List Val} {unit : Int} {wt : ByteArray} (h : L.length ≤ 8 ∧ ∀ x ∈ L, x.lang.size ≤ 1000 ∧ x.text.size ≤ 4096 ∧ 1 ≤ x.unit ∧ x.unit ≤ 1073741824) : (linesB L unit wt).length ≤ 200000 := by
  have h2 : ∀ M : List Val, (∀ x ∈ M, x ∈ L) → (linesB M unit wt).length ≤ M.length * 20000 := by
    intro M
    induction M with
    | nil => intro _; simp [linesB]
    | cons v M ih =>
      intro hM
      have i1 := ih (fun x hx => hM x (List.mem_cons_of_mem _ hx))
      obtain ⟨a, b, c, d⟩ := h.2 v (hM v List.mem_cons_self)
      have i2 := line_len v unit wt a b c d
      unfold linesB at i1 ⊢
      rw [List.flatMap_cons, List.length_append, List.length_cons]
      omega
  have := h2 L (fun _ hx => hx)
  have := h.1
  omega
theorem ba_size (l : List UInt8) : (⟨l.toArray⟩ : ByteArray).size = l.length := rfl
theorem first_len : ∀ l : List UInt8, (firstL l).length ≤ l.length
  | [] => by simp [firstL]
  | b :: r => by
    have ih := first_len r
    unfold firstL
    split <;> simp only [List.length_cons, List.length_nil] <;> omega
theorem head_len (v : Val) (unit : Int) (wt : ByteArray) (h1 : v.lang.size ≤ 1000) (h2 : v.text.size ≤ 4096) (h3 : 1 ≤ v.unit) (h4 : v.unit ≤ 1073741824) : (headL v unit wt).length ≤ 20000 := by
  unfold headL hdB tailL
  have a := word_small v.elem
  have b := Lib.itoa_length_le v.unit (by omega) (by omega)
  have c := first_len v.text.data.toList
  have e1 : (kindOf v.elem).word.data.toList.length = (kindOf v.elem).word.size := rfl
  have e2 : v.lang.data.toList.length = v.lang.size := rfl
  have e3 : v.text.data.toList.length = v.text.size := rfl
  simp only [List.length_append, List.length_cons, List.length_nil]
  have i1 : (if (v.lang.toList == wt.toList) = true then ([] : List UInt8) else [32, 40] ++ v.lang.data.toList ++ [41]).length ≤ 1010 := by
    split
    · simp
    · simp only [List.length_append, List.length_cons, List.length_nil]; omega
  have i2 : (if v.unit = unit then ([] : List UInt8) else [32, 102, 114, 111, 109, 32] ++ Lib.itoa v.unit).length ≤ 30 := by
    split
    · simp
    · simp only [List.length_append, List.length_cons, List.length_nil]; omega
  simp only [List.append_assoc] at i1 i2 ⊢
  omega
/-- A round's world: the count of heads in its box; whatever cell stood at wc stands, but those that hold false. -/
structure LnS (w wc : World) (NB RB : Nat) (k : Nat) (W : World) : Prop where
  g : Grew w W
  lt : NB + 1 < W.heap.size
  n : Boxed W NB 3 (.int .i64 (k : Int))
  r : Boxed W RB 4 (.bool false)
  keep : ∀ b j v, wc.cell? ⟨b, j, none⟩ = some v → v ≠ .bool false → W.cell? ⟨b, j, none⟩ = some v
section
variable {w wc W W' : World} {NB RB k : Nat} {row : Option Nat}
theorem LnS.turn (h : LnS w wc wc.heap.size RB k W) (hg : W.grownBy W' row) (hr : ∀ r, row = some r → wc.heap.size < r) (hRB : RB < wc.heap.size) (hw : w.heap.size ≤ wc.heap.size) : LnS w wc wc.heap.size RB k W' :=
  ⟨Below.grown h.g hg h.g.size (fun q e => by have := hr q e; omega), Nat.lt_of_lt_of_le h.lt hg.size, heap_turn hg h.n (fun r e => by have := hr r e; omega), heap_turn hg h.r (fun r e => by have := hr r e; omega),
    fun b j v h1 h2 => cell_turn hg (h.keep b j v h1 h2) (by have := World.block_lt_of_cell? wc _ h1; have := h.lt; dsimp only at *; omega) (fun r e => by have := hr r e; have := World.block_lt_of_cell? wc _ h1; dsimp only at *; omega)⟩
theorem LnS.grew (h : LnS w wc wc.heap.size RB k W) (hg : Grew W W') (hRB : RB < wc.heap.size) (hw : w.heap.size ≤ wc.heap.size) : LnS w wc wc.heap.size RB k W' := h.turn (grown_grew hg none) (fun r e => by cases e) hRB hw
theorem LnS.count (h : LnS w wc wc.heap.size RB k W) (m : Nat) (hRB : RB < wc.heap.size) (hw : w.heap.size ≤ wc.heap.size) : LnS w wc wc.heap.size RB m (W.setCell ⟨wc.heap.size, 0, none⟩ (.int .i64 (m : Int))) :=
  ⟨h.g.setCell hw _, by simpa using h.lt, h.n.set _, (Below.heap_setCell _ _ _ _ (by show RB ≠ wc.heap.size; omega)).trans h.r,
    fun b j v h1 h2 => by
      rw [World.cell?_setCell_other _ _ _ _ (by have := World.block_lt_of_cell? wc _ h1; dsimp only at this; intro e; cases e; omega)]
      exact h.keep b j v h1 h2⟩
end
theorem lns_start {w wc : World} {RB : Nat} {pb : ByteArray} (hg : Grew w wc) (hr : Boxed wc RB 4 (.bool false)) : LnS w wc wc.heap.size RB (cntL []) ((wc.alloc (.cells #[.int .i64 0] 3)).alloc (.cells #[.string pb] 9)) := by
  have g1 : Grew wc ((wc.alloc (.cells #[.int .i64 0] 3)).alloc (.cells #[.string pb] 9)) := ((Grew.refl wc).alloc _).alloc _
  exact ⟨hg.trans g1, by simp, heap_keepI ((Grew.refl _).alloc _) (Boxed.new wc 3 (.int .i64 0)), heap_keepI g1 hr, fun b j v h1 _ => keep_cell g1 h1⟩
end Go.Proofs.YtjaknioojpgkiaaGreatDoor

/- A region that draws its order, in a round of a range over a function, walked once: what holds of it outside a round holds in one. The condition: no operation of it defers. -/
namespace Go.Proofs.YtjaknioojpgkiaaGreatDoor
open Go

section
variable {F : Fence} {n : Nat} {P : Program} {ops : Array Oper} {Q : Exit → Act → World → Prop} {md : Region.Mode}
theorem oper_round {o : Oper} (l : Nat) {a : Act} {w : World} {K : Act → World → Prop} (hro : F.round = none) (hd : ∀ c, o.op ≠ .defer c) (h : o.wpIn F n P a w K Q) : o.wpIn (F.inRound l) n P a w K Q := by
  unfold Oper.wpIn at h ⊢
  refine ⟨h.1, ?_⟩
  have h2 := h.2
  rw [hro, Oper.semAt_eq _ _ _ hd] at h2
  rw [Fence.inRound_round, Oper.semAt_eq _ _ _ hd]
  generalize (execOp a.eval o).run P w = r at h2 ⊢
  cases r with
  | ok x w' => cases x <;> exact h2
  | halt x w' => cases x <;> exact h2
theorem any_round (l : Nat) (hro : F.round = none) (hd : ∀ (i : Nat) (o : Oper), ops[i]? = some o → ∀ c, o.op ≠ .defer c) : ∀ (f : Nat) (listed : Array Bool) (a : Act) (w : World), wpAnyIn F n P md ops Q f listed a w → wpAnyIn (F.inRound l) n P md ops Q f listed a w
  | 0, _, _, _, h => h
  | f + 1, listed, a, w, h => ⟨h.1, fun i hi => by
    have h2 := h.2 i hi
    unfold wpOpIn at h2 ⊢
    cases ho : ops[i]? with
    | none =>
      simp only [ho] at h2 ⊢
      exact any_round l hro hd f _ a w h2
    | some o =>
      simp only [ho] at h2 ⊢
      split
      · rename_i hw
        simp only [hw, if_true] at h2
        exact oper_round l hro (hd i o ho) (Oper.wpIn_mono (fun a' w' h' => any_round l hro hd f _ a' w' h') h2)
      · rename_i hw
        simp only [hw] at h2
        exact ⟨h2.1, any_round l hro hd f _ _ _ h2.2⟩⟩
end
theorem wide_fn (f : FuncId) : Fence.wide.fn f = True := eq_true trivial
def noDefer (l : List Oper) : Bool := l.all fun o => match o.op with | .defer _ => false | _ => true
theorem region_round {n : Nat} {P : Program} {id r : Nat} {l : List Oper} {Q : Exit → Act → World → Prop} {a : Act} {w : World} (hd : noDefer l = true) (hm : P.follows .mixedOrders = true) (hB : Region.lexB .any l.toArray = true)
    (h : wpQuietIn Fence.wide n P l.toArray (fun w' => ∃ k, w' = w.drewN k) (fun a' => ∀ w', (∃ k, w' = w.drewN k) → Q .normal a' w') l a) : (Code.region id l.toArray true).wpIn (Fence.wide.inRound r) n P Q a w := by
  have hB' := hB
  simp only [Region.lexB, Bool.and_eq_true] at hB'
  refine wpIn_region_any hm (any_round r rfl (fun i o ho c e => ?_) _ _ _ _ ?_)
  · have hm : o ∈ l := by
      rw [List.getElem?_toArray] at ho
      exact List.mem_of_getElem? ho
    have := List.all_eq_true.1 hd o hm
    rw [e] at this
    cases this
  · refine wpAnyIn_of_quiet (F := Fence.wide) (C := fun w' => ∃ k, w' = w.drewN k) (Q := fun a' => ∀ w', (∃ k, w' = w.drewN k) → Q .normal a' w') rfl (fun _ w' hw' h => h w' hw') _ _ _ _ ⟨1, rfl⟩ ?_
    have := wpAnyQIn_lex (F := Fence.wide) (n := n) (C := fun w' => ∃ k, w' = w.drewN k) (md := .any) hB'.1 l 0 (Array.replicate l.length false) a (by simp) (by simpa using hB'.2) h
    simpa using this
end Go.Proofs.YtjaknioojpgkiaaGreatDoor
