/- Lemmas on what the functions of the program and of the library compute: Bw3, InsI, Up0, I5. The conditions stand at each. -/
import Derived.Laws.EntriesVeiled
import Derived.Test.YtjaknioojpgkiaaGreatDoorQ21
import Derived.Test.YtjaknioojpgkiaaGreatDoorQ19
import Derived.RangeFuncLeaves
import Derived.RangeFuncBox
import Derived.RangeFuncWrites
import Derived.OwnWalkIn
import Derived.TacticsInMore
import Derived.LoopNIn
import Derived.LoopIn
import Derived.Maps.AppendAt
import Derived.Maps.OwnIn
import Derived.Test.YtjaknioojpgkiaaGreatDoorQ11
import Derived.Test.YtjaknioojpgkiaaGreatDoorQ15
/- tree.walk and tree.Below, walked. The conditions: the library's own variables hold what they must; the lists are short. -/
namespace Go.Proofs.YtjaknioojpgkiaaGreatDoor
open Go.RowKit Go.Shelf

attribute [local go_sem] Oper.semAt_some

theorem Prot.fresh {B k : Nat} {W W' : World} {o : Obj} (h : OutIn B W) (hg : Grew W W') (hk : W.heap.size ≤ k) (ho : W'.heap[k]? = some o) (hc : o.isCells = true) : Prot B W' k o := by
  refine ⟨ho, hc, by have := h.1; omega, fun v hv hb => ?_⟩
  rw [hg.cell h.1] at hv
  have := h.2 v hv _ hb
  omega
section
variable (rs : List Int) (l : List Br) (rv bv : Value) (w0 : World) (hr : SlI w0 rv rs) (hv : SlBr w0 bv l) (hf : l.length ≤ 1000000) (hT : RightT ⟨rs, l⟩) (B lp Yb Tb Vb N : Nat) (J Jx : List (Int × Int) → World → Prop)
    (hJ : ∀ s W W', J s W → Grew W W' → J s W')
    (hY : ∀ m pre (x : Int × Int) W, J pre W → pre.length < N → YieldAt Fence.wide m Tryz.prog lp #[.int .i64 x.1, .int .i64 x.2] W fun e W' =>
      (e = .returned (.bool true) ∧ J (pre ++ [x]) W' ∧ KpB w0.heap.size B W W') ∨ (e = .returned (.bool false) ∧ Jx (pre ++ [x]) W'))
include hr hv hf hT hJ hY
end
end Go.Proofs.YtjaknioojpgkiaaGreatDoor

/- slices.Insert of one number, on a row of the call's own, with a word on all other blocks. No condition but the sizes that a slice can have. -/
namespace Go.Proofs.YtjaknioojpgkiaaGreatDoor
open Go.RowKit

/-- The call returns a slice that owns cs from base on, in the row where s lay or in a new one; all other blocks are as they were. -/
def RetRow3 (e : TypeId) (k : Nat) (cs : List Value) (n base : Nat) (s : Value) (w : World) (x : Ending) (w' : World) : Prop := ∃ v, x = .returned v ∧ w'.ownsRow base e k v n cs ∧ w.grownBy w' s.ownBlock ∧ (v.ownBlock = s.ownBlock ∨ ∀ b, v.ownBlock = some b → w.heap.size ≤ b)
theorem grown_of {w0 w w' : World} {g : Nat} {o : Obj} (h : Grew w0 w) (h' : Grew w0 w') (hg : w'.heap[g]? = some o) (hk : ∀ b, b ≠ g → w'.heap[b]? = w.heap[b]?) : w.grownBy w' (some g) := by
  refine ⟨h'.os.trans h.os.symm, h'.tape.trans h.tape.symm, h'.output.trans h.output.symm, ?_, fun k _ hne => hk k (fun e => hne (by rw [e]))⟩
  refine Nat.le_of_not_lt fun hlt => ?_
  have hgl := (Array.getElem?_eq_some_iff.1 hg).1
  have h1 := hk w'.heap.size (by omega)
  rw [Array.getElem?_eq_none (Nat.le_refl _), Array.getElem?_eq_getElem hlt] at h1
  cases h1
theorem grown_grew {w w' : World} (h : Grew w w') (row : Option Nat) : w.grownBy w' row := ⟨h.os, h.tape, h.output, h.size, fun k hk _ => h.block k hk⟩
theorem own_splice {w : World} {g base n cap k : Nat} {e : TypeId} {cur xs : List Value} (hb : base ≤ g) (hg : w.heap[g]? = some (.cells cur.toArray e (0, 0))) (hn : n ≤ cap) (hc : cap ≤ maxLen) (hs : cur.length = cap * k) (hx : xs.length = n * k) (ht : ∃ r, cur = xs ++ r) : w.ownsRow base e k (.slice (some ⟨g, 0, none⟩) n cap) n xs := by
  obtain ⟨r, rfl⟩ := ht
  refine ⟨hx, .inr ⟨g, cap, _, rfl, hb, hg, hn, hc, by simpa using hs, ?_⟩⟩
  rw [← hx]
  simp
end Go.Proofs.YtjaknioojpgkiaaGreatDoor

/- A range over a function whose iterator writes one box that it captured: the contract and the law. The conditions: the box lies ahead of the loop; the body writes no record of a loop. -/
namespace Go.Proofs.YtjaknioojpgkiaaGreatDoor
open Go.RowKit Go.Shelf

/-- What a round keeps: what lay below n₀, and all blocks of cells. -/
structure KpN (n₀ : Nat) (W W' : World) : Prop where
  below : Below n₀ W W'
  cells : ∀ (k : Nat) (o : Obj), W.heap[k]? = some o → o.isCells = true → W'.heap[k]? = some o
theorem KpN.refl (n₀ : Nat) (W : World) : KpN n₀ W W := ⟨Below.refl _ _, fun _ _ h _ => h⟩
theorem KpN.trans {n₀ : Nat} {A B C : World} (h : KpN n₀ A B) (k : KpN n₀ B C) : KpN n₀ A C := ⟨h.below.trans k.below, fun i o ho hc => k.cells i o (h.cells i o ho hc) hc⟩
theorem KpN.grew {n₀ : Nat} {W W' : World} (hn : n₀ ≤ W.heap.size) (h : Grew W W') : KpN n₀ W W' :=
  ⟨h.below.mono hn, fun k o ho _ => by rw [h.block k (Array.getElem?_eq_some_iff.1 ho).1]; exact ho⟩
theorem KpN.put {n₀ : Nat} {W : World} {l : Nat} {L L' : Loop} (hl : n₀ ≤ l) (h : W.heap[l]? = some (.loop L)) : KpN n₀ W (W.putObj l (.loop L')) := by
  have hg := grownBy_putObj' W l (.loop L')
  refine ⟨(Below.refl n₀ W).grown hg (by have := (Array.getElem?_eq_some_iff.1 h).1; omega) (fun k e => by cases e; exact hl), fun k o ho hc => ?_⟩
  rw [hg.block k (Array.getElem?_eq_some_iff.1 ho).1 (fun e => ?_)]
  · exact ho
  · cases e
    rw [h] at ho
    cases ho
    cases hc
/-- An invariant that says nothing of box X, nor of what is laid from block B on. -/
def TurnsX {β : Type} (X B : Nat) (I : β → World → Prop) : Prop := ∀ s W W' row, I s W → W.grownBy W' row → (∀ r, row = some r → r = X ∨ B ≤ r) → I s W'
/-- An iterator that writes box X alone, beside what it makes. -/
def SeqStopsU {α : Type} (F : Fence) (n : Nat) (P : Program) (g : Nat) (lb : Array Value) (encs : α → Array Value) (n₀ X : Nat) (S Sp : List α → Prop) (N : Nat) (w : World) : Prop :=
  ∀ (l : Nat) (J Jx : List α → World → Prop) (W : World), Grew w W → (∀ s A B, J s A → A.grownBy B (some X) → J s B) → (∀ s A B, Jx s A → A.grownBy B (some X) → Jx s B) →
    (∀ pre x W1, J pre W1 → pre.length < N → YieldAt F (n - 1) P l (encs x) W1 fun e W' =>
      (e = .returned (.bool true) ∧ J (pre ++ [x]) W' ∧ KpN n₀ W1 W') ∨ (e = .returned (.bool false) ∧ Jx (pre ++ [x]) W')) →
    J [] W →
    CallsIn F n P g (#[.func (.yield l) #[] #[]] ++ lb) W fun e W' => (∃ v, e = .returned v) ∧ ((∃ xs, S xs ∧ J xs W') ∨ (∃ pre, Sp pre ∧ Jx pre W'))
/-- The loop's record and the block of its deferred calls. -/
structure RecAt (D : Nat) (L : Loop) (W : World) : Prop where
  loop : W.heap[D + 1]? = some (.loop L)
  defd : W.heap[D]? = some (.deferred (some []))
theorem RecAt.others {D : Nat} {L : Loop} {W W' : World} (h : RecAt D L W) (k : KeepsOthers W W') : RecAt D L W' := ⟨k.same _ _ h.loop rfl, k.same _ _ h.defd rfl⟩
theorem RecAt.put {D : Nat} {L : Loop} {W : World} (h : RecAt D L W) (L' : Loop) : RecAt D L' (W.putObj (D + 1) (.loop L')) :=
  ⟨World.putObj_heap_same (Array.getElem?_eq_some_iff.1 h.loop).1, (World.putObj_heap_other (by omega)).trans h.defd⟩
theorem RecAt.grown {D X : Nat} {L : Loop} {W W' : World} (h : RecAt D L W) (hX : X < D) (g : W.grownBy W' (some X)) : RecAt D L W' :=
  ⟨(g.block _ (Array.getElem?_eq_some_iff.1 h.loop).1 (fun e => by cases e; omega)).trans h.loop, (g.block _ (Array.getElem?_eq_some_iff.1 h.defd).1 (fun e => by cases e; omega)).trans h.defd⟩
def recOf (fn : FuncId) (tmps : Array Value) (ps : Array Tmp) (assign body : Code) (D : Nat) (st : LoopState) (pe : Option Code) : Loop := { state := st, pending := pe, fn, tmps, params := ps, assign, body, defers := D }
theorem TurnsX.put {β : Type} {X B : Nat} {I : β → World → Prop} (h : TurnsX X B I) {s : β} {W : World} {l : Nat} (o : Obj) (hs : I s W) (hl : B ≤ l) : I s (W.putObj l o) :=
  h s W _ (some l) hs (grownBy_putObj' W l o) (fun r e => by cases e; exact .inr hl)
theorem wpIn_rangeU {α : Type} {F : Fence} {n : Nat} {P : Program} {g : Operand} {ps : Array Tmp} {assign body : Code} {Q : Exit → Act → World → Prop} {a : Act} {w : World}
    (hro : F.round = none) (h1 : 1 ≤ n) {gf : Nat} {lb : Array Value} (hg : a.eval g = .func (.func gf) #[] lb) (hFg : F.fn gf) (eg : ∀ args w, (callFunc gf args).run P w = .ok (.enter gf args) w)
    {encs : α → Array Value} {n₀ X : Nat} {S Sp : List α → Prop} {N : Nat} (hX : X < w.heap.size) (hn : n₀ ≤ w.heap.size) (hseq : SeqStopsU F (n - 1) P gf lb encs n₀ X S Sp N w) (hps : ∀ x, (encs x).size = ps.size)
    (I : List α → World → Prop) (Ix : Code → List α → World → Prop) (hI : TurnsX X w.heap.size I) (hIx : ∀ c, TurnsX X w.heap.size (Ix c)) (h0 : I [] w) (a₁ : α → Act)
    (hassign : ∀ (l : Nat) (x : α) (W : World) (K : Act → World → Prop), K (a₁ x) W →
      assign.wpIn (F.inRound l) (n - 1 - 1) P (Exit.then K (fun _ _ _ => False)) { tmps := (ps.zip (encs x)).foldl (fun t (p, v) => t.setIfInBounds p v) a.tmps, defers := [] } W)
    (hbody : ∀ (l : Nat) (pre : List α) (x : α) (W : World), I pre W → pre.length < N → body.wpIn (F.inRound l) (n - 1 - 1) P (ownPostK (KpN n₀) I Ix (pre ++ [x]) W) (a₁ x) W)
    (hdone : ∀ (D : Nat) (xs : List α) (W : World), w.heap.size ≤ D → S xs → I xs W → W.heap[D]? = some (.deferred (some [])) → Q .normal { a with defers := { target := .collected D, args := #[] } :: a.defers } W)
    (hstop : ∀ (D : Nat) (c : Code) (pre : List α) (W : World), w.heap.size ≤ D → Sp pre → Ix c pre W → W.heap[D]? = some (.deferred (some [])) → c.wpIn F n P Q { a with defers := { target := .collected D, args := #[] } :: a.defers } W) :
    (Code.rangeFunc g ps assign body).wpIn F n P Q a w := by
  refine wpIn_rangeFunc fun fn hfn => ?_
  rw [hro]
  obtain ⟨D, hD⟩ : ∃ D, D = w.heap.size := ⟨_, rfl⟩
  obtain ⟨R, hR⟩ : ∃ R, R = recOf fn a.tmps ps assign body D := ⟨_, rfl⟩
  obtain ⟨W1, hW1⟩ : ∃ W1, W1 = (w.alloc (.deferred (some []))).alloc (.loop (R .ready none)) := ⟨_, rfl⟩
  have hg1 : Grew w W1 := by rw [hW1]; exact ((Grew.refl w).alloc _).alloc _
  have hrec : RecAt D (R .ready none) W1 := by
    refine ⟨?_, ?_⟩
    · rw [hW1, hD]
      have := World.alloc_heap_new (w.alloc (.deferred (some []))) (.loop (R .ready none))
      rwa [World.size_alloc] at this
    · rw [hW1, hD]
      exact (Below.heap_alloc _ _ _ (by simp)).trans (World.alloc_heap_new w _)
  have hI1 : I [] W1 := hI [] w W1 none h0 (grown_grew hg1 none) (fun r e => by cases e)
  rw [← hD] at hI hIx hX hdone hstop hn
  refine ⟨D + 1, [{ target := .collected D, args := #[] }], W1, { target := .fn (.func gf) lb, args := #[.func (.yield (D + 1)) #[] #[]] }, W1, gf, #[.func (.yield (D + 1)) #[] #[]] ++ lb, W1, ?_, ?_, ?_, ?_, fun _ => h1, ?_⟩
  · rw [hW1, hR, hD]
    exact run_enterLoop_outer _ _ _ _ _
  · simp only [resolve, hg]
    simp [go_sem]
  · intro f' hf'
    simp [Target.leads] at hf'
    subst hf'
    exact hFg
  · simp [invoke, go_sem, eg]
  · refine (hseq (D + 1) (fun pre W => I pre W ∧ RecAt D (R .ready none) W) (fun pre W => ∃ c, Ix c pre W ∧ RecAt D (R .done (some c)) W) W1 hg1
      (fun s A B h k => ⟨hI s A B _ h.1 k (fun r e => by cases e; exact .inl rfl), h.2.grown hX k⟩)
      (fun s A B h k => h.imp fun c hc => ⟨hIx c s A B _ hc.1 k (fun r e => by cases e; exact .inl rfl), hc.2.grown hX k⟩) ?_ ⟨hI1, hrec⟩).mono ?_
    · rintro pre x W ⟨hi, hr⟩ hlen
      have hy := run_yield (P := P) (args := encs x) hr.loop (by rw [hR]; exact hps x)
      rw [hR] at hy
      have hr2 := hr.put (R .busy none)
      have hk2 : KpN n₀ W (W.putObj (D + 1) (.loop (R .busy none))) := KpN.put (by omega) hr.loop
      refine ⟨fn, _, assign, body, hy, roundIn_of_wpIn hfn (hassign _ x W _ ⟨_, run_beginRound hr.loop (by rw [hR]; rfl), ?_⟩)⟩
      have hb := hbody (D + 1) pre x _ (hI.put (.loop (R .busy none)) hi (Nat.le_succ D)) hlen
      have he : ({ R .ready none with state := .busy } : Loop) = R .busy none := by rw [hR]; rfl
      rw [he]
      refine wpIn_mono hb ?_
      have fin : ∀ (jump : Option Code) (W3 : World), KeepsOthers (W.putObj (D + 1) (.loop (R .busy none))) W3 →
          (Instr.endRound (D + 1) jump).run P W3 = .ok (.bool jump.isNone) (W3.putObj (D + 1) (.loop (R (if jump.isNone then .ready else .done) jump))) ∧ RecAt D (R .busy none) W3 ∧ RecAt D (R (if jump.isNone then .ready else .done) jump) (W3.putObj (D + 1) (.loop (R (if jump.isNone then .ready else .done) jump))) := fun jump W3 hk => by
        have hr3 := hr2.others hk
        have := run_endRound (P := P) jump hr3.loop
        refine ⟨?_, hr3, hr3.put _⟩
        rw [this, hR]
        rfl
      rintro e a3 W3 hp
      cases e with
      | normal =>
        obtain ⟨hk3, hkp3, hi3⟩ := hp
        obtain ⟨h3, h4, h5⟩ := fin none W3 hk3
        exact ⟨_, _, h3, .inl ⟨rfl, ⟨hI.put _ hi3 (Nat.le_succ D), h5⟩, (hk2.trans hkp3).trans (KpN.put (by omega) h4.loop)⟩⟩
      | ret =>
        obtain ⟨hk3, hi3⟩ := hp
        obtain ⟨h3, h4, h5⟩ := fin (some .ret) W3 hk3
        exact ⟨_, _, h3, .inr ⟨rfl, _, (hIx _).put _ hi3 (Nat.le_succ D), h5⟩⟩
      | exit id =>
        obtain ⟨hk3, hi3⟩ := hp
        obtain ⟨h3, h4, h5⟩ := fin (some (.exit id)) W3 hk3
        exact ⟨_, _, h3, .inr ⟨rfl, _, (hIx _).put _ hi3 (Nat.le_succ D), h5⟩⟩
      | goto t =>
        obtain ⟨hk3, hi3⟩ := hp
        obtain ⟨h3, h4, h5⟩ := fin (some (.goto t)) W3 hk3
        exact ⟨_, _, h3, .inr ⟨rfl, _, (hIx _).put _ hi3 (Nat.le_succ D), h5⟩⟩
      | panic ch => exact hp.elim
      | outgrown => exact hp.elim
    · rintro e W2 ⟨⟨v, rfl⟩, (⟨xs, hS, hi, hr⟩ | ⟨pre, hSp, c, hi, hr⟩)⟩
      · have := run_endLoop (P := P) hr.loop (by rw [hR]; simp [recOf])
        exact ⟨none, _, by rw [this, hR]; rfl, hdone D xs _ (by omega) hS (hI.put _ hi (Nat.le_succ D)) ((World.putObj_heap_other (by omega)).trans hr.defd)⟩
      · have := run_endLoop (P := P) hr.loop (by rw [hR]; simp [recOf])
        exact ⟨some c, _, by rw [this, hR]; rfl, hstop D c pre _ (by omega) hSp ((hIx c).put _ hi (Nat.le_succ D)) ((World.putObj_heap_other (by omega)).trans hr.defd)⟩
end Go.Proofs.YtjaknioojpgkiaaGreatDoor

/- inherit: the effective value, found's contract given. The condition: what found returns is known. -/
namespace Go.Proofs.YtjaknioojpgkiaaGreatDoor
open Go.RowKit

set_option maxHeartbeats 4000000 in
set_option maxRecDepth 100000 in
theorem iEff (t : Tr) (ls : List ByteArray) (vs : List Val) (u n : Int) (wt : ByteArray) (rv bv lv vv : Value) (w : World) (hl : SlS w lv ls)
    (hF : ∀ W lg, Grew w W → Calls Tryz.prog 85 #[.agg #[rv, bv, lv, vv], .int .i64 u, .int .i64 n, .string lg] W (RetV (foundF t.brs vs u n lg) W)) :
    Calls Tryz.prog 93 #[.agg #[rv, bv, lv, vv], .int .i64 u, .int .i64 n, .string wt] w (RetV (effF t.brs ls vs u n wt) w) := by
  have KO := Lib.hid (fun W (hW : Grew w W) => order_all ls wt lv W (hl.mono hW))
  have KF := Lib.hid hF
  generalize hRES : effF t.brs ls vs u n wt = RES
  unfold effF at hRES
  generalize orderF ls wt = OL at KO hRES
  obtain ⟨L, oe⟩ := OL
  dsimp only at KO hRES
  have HRES := Lib.hid hRES
  clear hl hF hRES
  have HB := Lib.hid (show ∀ W, Grew ((w.alloc (.cells #[rv, bv, lv, vv] 114)).alloc (.cells [.int .i64 0, .int .i64 0, .string ⟨#[]⟩, .string ⟨#[]⟩].toArray 29)) W → W.heap[w.heap.size]? = some (.cells #[rv, bv, lv, vv] 114 (0, 0)) ∧ W.heap[w.heap.size + 1]? = some (.cells #[.int .i64 0, .int .i64 0, .string ⟨#[]⟩, .string ⟨#[]⟩] 29 (0, 0)) from fun W g => by
    have e1 := heap_newI w (.cells #[rv, bv, lv, vv] 114)
    have e2 := heap_newI (w.alloc (.cells #[rv, bv, lv, vv] 114)) (.cells [.int .i64 0, .int .i64 0, .string ⟨#[]⟩, .string ⟨#[]⟩].toArray 29)
    rw [World.size_alloc] at e2
    exact ⟨heap_keepI (((Grew.refl _).alloc _).trans g) e1, heap_keepI g e2⟩)
  have GA := Lib.hid (((Grew.refl w).alloc (.cells #[rv, bv, lv, vv] 114)).alloc (.cells [.int .i64 0, .int .i64 0, .string ⟨#[]⟩, .string ⟨#[]⟩].toArray 29))
  go_enter Tryz.func93, Tryz.ntmps93
  go_wp2_with fail
  generalize (w.alloc (.cells #[rv, bv, lv, vv] 114)).alloc (.cells [.int .i64 0, .int .i64 0, .string ⟨#[]⟩, .string ⟨#[]⟩].toArray 29) = WA at GA HB ⊢
  refine (KO.out _ GA.out).mono ?_
  rintro e w1 ⟨v1, rfl, hs1, g1⟩
  obtain ⟨A, c, rfl, hlc, hc, hr⟩ := hs1.open_
  unfold maxLen at hc
  have HR := Lib.hid hr
  have G1 := Lib.hid g1
  clear hs1 g1 hr KO
  dsimp only
  go_wp2_with fail
  go_loopg [25] L.length (fun gg s25 wr => ∃ k : Nat, k ≤ L.length ∧ L.length - k ≤ gg ∧ s25 = .int .i64 k ∧ Aside ((L.drop k).findSome? (fun lg => foundF t.brs vs u n lg) = RES) ∧ Aside (Grew w1 wr))
  case atStart => exact ⟨0, by omega, by omega, rfl, (show Aside _ from HRES.out), (show Aside _ from Grew.refl _)⟩
  case round =>
    obtain ⟨k, hk, hgk, rfl, R, GW⟩ := hrel
    have G := Lib.hid (G1.out.trans GW.out)
    have HG := Lib.hid (GA.out.trans G.out)
    obtain ⟨⟨x0, x1, x2, x3⟩, -⟩ := four_cells (HB.out wr G.out).1
    obtain ⟨⟨q0, q1, q2, q3⟩, z0, z1, z2, z3⟩ := four_cells (HB.out wr G.out).2
    by_cases hlt : k < L.length
    · have hltz : (k : Int) < (L.length : Int) := by omega
      have h0z : (0 : Int) ≤ (k : Int) := by omega
      obtain ⟨bb, off, rfl, hb, hcell⟩ := HR.out (by omega)
      have c0 := hcell wr GW.out k hlt
      have hR := R.out
      rw [List.drop_eq_getElem_cons hlt, List.findSome?_cons] at hR
      generalize L[k] = y at c0 hR
      have kf := fun W (hW : Grew w W) => KF.out W y hW
      generalize foundF t.brs vs u n y = o at kf hR
      have KFY := Lib.hid kf
      have HRR := Lib.hid hR
      clear hcell R hR kf
      cases o with
      | some x =>
        obtain rfl : RES = some x := HRR.out.symm
        obtain ⟨xu, xe, xl, xt⟩ := x
        unfold RetV at KFY
        unfold Val.agg at KFY
        dsimp only [Option.getD_some, Option.isSome_some] at KFY
        clear HRR HRES
        go_wp2_with fail
        refine (KFY.out _ HG.out).mono ?_
        rintro e w2 ⟨rfl, g2⟩
        have gz := g2.alloc (.cells #[.int .i64 xu, .int .i64 xe, .string xl, .string xt] 29)
        have G2 := Lib.hid (G.out.trans gz)
        have HG2 := Lib.hid (GA.out.trans G2.out)
        clear x0 x1 x2 x3 q0 q1 q2 q3 z0 z1 z2 z3 g2 gz
        obtain ⟨⟨q0, q1, q2, q3⟩, z0, z1, z2, z3⟩ := four_cells (HB.out _ G2.out).2
        dsimp only
        go_wp2_with fail
        obtain ⟨p0, p1, p2, p3⟩ := res_four (v0 := .int .i64 xu) (v1 := .int .i64 xe) (v2 := .string xl) (v3 := .string xt) q0 q1 q2 q3
        refine bodyPost_ret (v := .tuple #[.agg #[.int .i64 xu, .int .i64 xe, .string xl, .string xt], .bool true]) (by simp [results, Tryz.results93, go_sem, p0, p1, p2, p3]) rfl ?_
        exact ⟨rfl, grew_four HG2.out (by omega) _ _ _ _⟩
      | none =>
        have HNX := Lib.hid (show (L.drop (k + 1)).findSome? (fun lg => foundF t.brs vs u n lg) = RES from HRR.out)
        unfold RetV at KFY
        unfold Val.agg val0 at KFY
        dsimp only [Option.getD_none, Option.isSome_none] at KFY
        clear HRR
        go_wp2_with fail
        refine (KFY.out _ HG.out).mono ?_
        rintro e w2 ⟨rfl, g2⟩
        have G2 := Lib.hid (GW.out.trans g2)
        clear x0 x1 x2 x3 q0 q1 q2 q3 z0 z1 z2 z3 g2
        dsimp only
        go_wp2
        go_roundg (L.length - (k + 1))
        case measure => omega
        case rel => exact ⟨k + 1, by omega, by omega, by go_num, (show Aside _ from HNX.out), (show Aside _ from G2.out.alloc _)⟩
    · have hltz : ¬ (k : Int) < (L.length : Int) := by omega
      obtain rfl : k = L.length := by omega
      obtain rfl : RES = none := by have := R.out; rw [List.drop_length] at this; exact this.symm
      clear R HRES
      go_wp2_with fail
      obtain ⟨p0, p1, p2, p3⟩ := res_four (v0 := .int .i64 0) (v1 := .int .i64 0) (v2 := .string ⟨#[]⟩) (v3 := .string ⟨#[]⟩) q0 q1 q2 q3
      refine bodyPost_ret (v := .tuple #[.agg #[.int .i64 0, .int .i64 0, .string ⟨#[]⟩, .string ⟨#[]⟩], .bool false]) (by simp [results, Tryz.results93, go_sem, p0, p1, p2, p3]) rfl ?_
      exact ⟨rfl, grew_four HG.out (by omega) _ _ _ _⟩
end Go.Proofs.YtjaknioojpgkiaaGreatDoor
