/- Lemmas on what the functions of the program and of the library compute: Or, PlainR, PlainT, PlainH, App, App2. The conditions stand at each. -/
import Derived.Test.YtfghbendiofbeaaGreatDoorProg
import Derived.Test.YtfghbendiofbeaaGreatDoorQ1
/- cmp.Or at numbers and errors: the first that is not 0. No condition. -/
namespace Go.Proofs.YtfghbendiofbeaaGreatDoor
open Go.RowKit

/-- The first number that is not 0, or 0. -/
def orF : List Int → Int
  | [] => 0
  | x :: r => if x = 0 then orF r else x
theorem orF_drop (l : List Int) (k : Nat) (h : ∀ i (hi : i < l.length), i < k → l[i] = 0) : orF l = orF (l.drop k) := by
  induction k generalizing l with
  | zero => rfl
  | succ k ih =>
    cases l with
    | nil => rfl
    | cons x r =>
      have hx : x = 0 := h 0 (by simp) (by omega)
      rw [List.drop_succ_cons, orF, if_pos hx]
      exact ih r (fun i hi hik => h (i + 1) (Nat.succ_lt_succ hi) (by omega))
theorem orF_hit (l : List Int) (k : Nat) (hk : k < l.length) (h : ∀ i (hi : i < l.length), i < k → l[i] = 0) (hx : l[k] ≠ 0) : orF l = l[k] := by
  rw [orF_drop l k h, List.drop_eq_getElem_cons hk, orF, if_neg hx]
theorem orF_miss (l : List Int) (h : ∀ i (hi : i < l.length), l[i] = 0) : orF l = 0 := by
  rw [orF_drop l l.length (fun i hi _ => h i hi), List.drop_length]
  rfl
theorem cmpOr_any (l : List Int) (v : Value) (w : World) (hv : SlI w v l) : Calls Tryz.prog 81 #[v] w fun e w' => e = .returned (.int .i64 (orF l)) ∧ w = w' := by
  obtain ⟨A, c, rfl, hlc, hc, hr⟩ := hv.open_
  unfold maxLen at hc
  have HR := Lib.hid hr
  clear hr hv
  generalize hR : orF l = R
  have HO := Lib.hid hR
  clear hR
  go_enter Tryz.func81, Tryz.ntmps81
  go_wp2
  go_loop [5, 8] (fun _ s8 => ∃ kk : Nat, kk ≤ l.length ∧ s8 = .int .i64 kk ∧ Aside (∀ i (hi : i < l.length), i < kk → l[i] = 0)) (fun _ i => l.length - (intOf i).toNat)
  case atStart => exact ⟨0, Nat.zero_le _, rfl, fun i hi h => absurd h (Nat.not_lt_zero _)⟩
  case round =>
    obtain ⟨kk, hkk, rfl, M⟩ := hrel
    by_cases hlt : kk < l.length
    · obtain ⟨b, off, rfl, hb, hcell⟩ := HR.out (by omega)
      have c0 := hcell w (Grew.refl w) kk hlt
      clear hcell
      by_cases hx : l[kk] = 0
      · have Hx : Aside (l[kk] = 0) := hx
        rw [hx] at c0
        clear hx
        go_wp2
        go_round
        case measure => simp [intOf]; omega
        case rel =>
          refine ⟨kk + 1, by omega, by go_num, (show Aside _ from fun i hi h => ?_)⟩
          by_cases e : i = kk
          · subst e; exact Hx.out
          · exact M.out i hi (by omega)
      · have Hh := Lib.hid (HO.out.symm.trans (orF_hit l kk hlt M.out hx))
        have hne : (l[kk] != 0) = true := by simpa using hx
        generalize l[kk] = y at c0 hne Hh
        clear hx
        go_wp2
        go_ret
        exact ⟨congrArg (fun z => Ending.returned (Value.int .i64 z)) Hh.out.symm, rfl⟩
    · have Hm := Lib.hid (HO.out.symm.trans (orF_miss l (fun i hi => M.out i hi (by omega))))
      go_wp2
      go_ret
      exact ⟨congrArg (fun z => Ending.returned (Value.int .i64 z)) Hm.out.symm, rfl⟩

theorem cmpOrE_any (l : List Int) (v : Value) (w : World) (hv : SlI w v l) : Calls Tryz.prog 59 #[v] w fun e w' => e = .returned (.int .i64 (orF l)) ∧ w = w' := by
  obtain ⟨A, c, rfl, hlc, hc, hr⟩ := hv.open_
  unfold maxLen at hc
  have HR := Lib.hid hr
  clear hr hv
  generalize hR : orF l = R
  have HO := Lib.hid hR
  clear hR
  go_enter Tryz.func59, Tryz.ntmps59
  go_wp2
  go_loop [5, 8] (fun _ s8 => ∃ kk : Nat, kk ≤ l.length ∧ s8 = .int .i64 kk ∧ Aside (∀ i (hi : i < l.length), i < kk → l[i] = 0)) (fun _ i => l.length - (intOf i).toNat)
  case atStart => exact ⟨0, Nat.zero_le _, rfl, fun i hi h => absurd h (Nat.not_lt_zero _)⟩
  case round =>
    obtain ⟨kk, hkk, rfl, M⟩ := hrel
    by_cases hlt : kk < l.length
    · obtain ⟨b, off, rfl, hb, hcell⟩ := HR.out (by omega)
      have c0 := hcell w (Grew.refl w) kk hlt
      clear hcell
      by_cases hx : l[kk] = 0
      · have Hx : Aside (l[kk] = 0) := hx
        rw [hx] at c0
        clear hx
        go_wp2
        go_round
        case measure => simp [intOf]; omega
        case rel =>
          refine ⟨kk + 1, by omega, by go_num, (show Aside _ from fun i hi h => ?_)⟩
          by_cases e : i = kk
          · subst e; exact Hx.out
          · exact M.out i hi (by omega)
      · have Hh := Lib.hid (HO.out.symm.trans (orF_hit l kk hlt M.out hx))
        have hne : (l[kk] != 0) = true := by simpa using hx
        generalize l[kk] = y at c0 hne Hh
        clear hx
        go_wp2
        go_ret
        exact ⟨congrArg (fun z => Ending.returned (Value.int .i64 z)) Hh.out.symm, rfl⟩
    · have Hm := Lib.hid (HO.out.symm.trans (orF_miss l (fun i hi => M.out i hi (by omega))))
      go_wp2
      go_ret
      exact ⟨congrArg (fun z => Ending.returned (Value.int .i64 z)) Hm.out.symm, rfl⟩

end Go.Proofs.YtfghbendiofbeaaGreatDoor

/- What is right of authorities and relations, plainly. No condition. -/
namespace Go.Proofs.YtfghbendiofbeaaGreatDoor
open Go.RowKit

def within (n lo hi : Int) : Bool := decide (lo ≤ n) && decide (n ≤ hi)
def spansF (fr un : Int) : Bool := decide (0 ≤ fr) && (decide (fr < un) && decide (un ≤ 1048576))
def inF (fr un day : Int) : Bool := decide (fr ≤ day) && decide (day < un)
theorem within_t {n lo hi : Int} : within n lo hi = true ↔ lo ≤ n ∧ n ≤ hi := by simp [within]
theorem within_f {n lo hi : Int} : within n lo hi = false ↔ ¬ (lo ≤ n ∧ n ≤ hi) := by rw [← Bool.not_eq_true, within_t]
theorem spans_t {fr un : Int} : spansF fr un = true ↔ 0 ≤ fr ∧ fr < un ∧ un ≤ 1048576 := by simp [spansF]
theorem in_t {fr un d : Int} : inF fr un d = true ↔ fr ≤ d ∧ d < un := by simp [inF]

/-- A name of an authority that is right, behind the one before it. -/
def NamOk (a : Auth) (i : Nat) (h : i < a.names.length) : Prop :=
  nameF a.names[i].text.data.toList = true ∧ spansF a.names[i].fr a.names[i].un = true ∧ a.fr ≤ a.names[i].fr ∧ a.names[i].un ≤ a.un ∧ (0 < i → (a.names[i - 1]'(by omega)).un ≤ a.names[i].fr)
def NamesOk (a : Auth) : Prop := (1 ≤ a.names.length ∧ a.names.length ≤ 16) ∧ ∀ i (h : i < a.names.length), NamOk a i h
def NextOk (l : List Int) : Prop := l.length ≤ 16 ∧ ∀ k (h : k < l.length), 1 ≤ k → (l[k - 1]'(by omega)) < l[k]
def AuAlone (l : List Auth) (i : Nat) (h : i < l.length) : Prop :=
  within l[i].id 1 1073741824 = true ∧ within l[i].kind 1 3 = true ∧ spansF l[i].fr l[i].un = true ∧ (0 < i → (l[i - 1]'(by omega)).id < l[i].id) ∧ NamesOk l[i] ∧ NextOk l[i].next
def auFind (l : List Auth) (id : Int) : Option Auth := l.find? fun a => a.id == id
def SuccOk (l : List Auth) (a : Auth) : Prop := ∀ n ∈ a.next, ∃ b, auFind l n = some b ∧ b.kind = a.kind ∧ b.fr = a.un
/-- A right list of authorities. -/
def AuthRight (l : List Auth) : Prop := l.length ≤ 64 ∧ (∀ i (h : i < l.length), AuAlone l i h) ∧ ∀ i (h : i < l.length), SuccOk l l[i]

instance (a : Auth) (i : Nat) (h : i < a.names.length) : Decidable (NamOk a i h) := by unfold NamOk; infer_instance
instance (a : Auth) : Decidable (NamesOk a) := by unfold NamesOk; infer_instance
instance (l : List Int) : Decidable (NextOk l) := by unfold NextOk; infer_instance
instance (l : List Auth) (i : Nat) (h : i < l.length) : Decidable (AuAlone l i h) := by unfold AuAlone; infer_instance
instance (l : List Auth) (n k u : Int) : Decidable (∃ b, auFind l n = some b ∧ b.kind = k ∧ b.fr = u) :=
  decidable_of_iff (((auFind l n).map fun b => decide (b.kind = k ∧ b.fr = u)) = some true) (by cases auFind l n <;> simp)
instance (l : List Auth) (a : Auth) : Decidable (SuccOk l a) := by unfold SuccOk; infer_instance
instance (l : List Auth) : Decidable (AuthRight l) := by unfold AuthRight; infer_instance

/-- The fault of a role and a span against the authority. -/
def whoFault (o : Option Auth) (role fr un : Int) : Int := match o with
  | none => 7
  | some y => if role ≠ 3 ∧ (y.kind = 3 ∨ ¬ (y.fr ≤ fr ∧ un ≤ y.un)) then 10 else 0
/-- The fault of a relation by itself. -/
def relAlone (a : List Auth) (x : Rel) : Int :=
  if within x.unit 1 1073741824 && (within x.role 1 4 && spansF x.fr x.un) then
    whoFault (auFind a x.auth) x.role x.fr x.un
  else 2
def orderR (x y : Rel) : Int := orF [Lib.compareInt x.unit y.unit, Lib.compareInt x.role y.role, Lib.compareInt x.auth y.auth, Lib.compareInt x.fr y.fr]
def sameR (x y : Rel) : Bool := x.unit == y.unit && (x.role == y.role && x.auth == y.auth)
def relFault (a : List Auth) (p : Option Rel) (x : Rel) : Int :=
  if relAlone a x ≠ 0 then relAlone a x else match p with
    | none => 0
    | some u => if 0 ≤ orderR u x then 5 else if sameR u x = true ∧ x.fr < u.un then 6 else 0
def prevR (l : List Rel) (i : Nat) : Option Rel := if i = 0 then none else l[i - 1]?
def relFaultAt (a : List Auth) (l : List Rel) (i : Nat) : Int := match l[i]? with
  | none => 0
  | some x => relFault a (prevR l i) x
def findBad (f : Nat → Int) : Nat → Nat → Int × Int
  | 0, _ => (-1, 0)
  | n + 1, i => if f i = 0 then findBad f n (i + 1) else ((i : Int), f i)
/-- The first fault of a list of relations. -/
def relCheck (a : List Auth) (l : List Rel) : Int × Int :=
  if ¬ AuthRight a then (-1, 1) else if 256 < l.length then (-1, 8) else findBad (relFaultAt a l) l.length 0
theorem findBad_go (f : Nat → Int) (n i k : Nat) (hk : k ≤ n) (h : ∀ j, i ≤ j → j < i + k → f j = 0) : findBad f n i = findBad f (n - k) (i + k) := by
  induction k generalizing n i with
  | zero => rfl
  | succ k ih =>
    obtain ⟨m, rfl⟩ : ∃ m, n = m + 1 := ⟨n - 1, by omega⟩
    rw [findBad, if_pos (h i (by omega) (by omega)), ih m (i + 1) (by omega) (fun j h1 h2 => h j (by omega) (by omega))]
    congr 1 <;> omega
theorem findBad_hit (f : Nat → Int) (n k : Nat) (hk : k < n) (h : ∀ j, j < k → f j = 0) (hf : f k ≠ 0) : findBad f n 0 = ((k : Int), f k) := by
  rw [findBad_go f n 0 k (by omega) (fun j _ h2 => h j (by omega))]
  obtain ⟨m, hm⟩ : ∃ m, n - k = m + 1 := ⟨n - k - 1, by omega⟩
  rw [hm, findBad, Nat.zero_add, if_neg hf]
theorem findBad_miss (f : Nat → Int) (n : Nat) (h : ∀ j, j < n → f j = 0) : findBad f n 0 = (-1, 0) := by
  rw [findBad_go f n 0 n (Nat.le_refl _) (fun j _ h2 => h j (by omega)), Nat.sub_self]
  rfl
/-- A list with one more number, which stays ascending. -/
def insU (n : Int) : List Int → List Int
  | [] => [n]
  | x :: r => if x < n then x :: insU n r else if x = n then x :: r else n :: x :: r
def relOn (unit role day : Int) (x : Rel) : Bool := x.unit == unit && (x.role == role && inF x.fr x.un day)
/-- The holders of a role. -/
def holdersF (l : List Rel) (unit role day : Int) : List Int := ((l.filter (relOn unit role day)).map Rel.auth).foldl (fun o n => insU n o) []
def rangedF (role day : Int) : Int := if within role 1 4 && within day 0 1048575 then 0 else 2
def asksF (a : List Auth) (l : List Rel) : Int := if (relCheck a l).2 = 0 then 0 else 1
end Go.Proofs.YtfghbendiofbeaaGreatDoor

/- What is right of a tree, plainly. No condition. -/
namespace Go.Proofs.YtfghbendiofbeaaGreatDoor
open Go.RowKit

def brFind (l : List Br) (id : Int) : Option Br := l.find? fun b => b.id == id
def brIdx (l : List Br) (id : Int) : Int := idxP (fun b => b.id == id) l
def fitsF (p c : Int) : Bool := within p 1 4 && (within c 1 4 && (decide (p < c) || (p == 2 && c == 2)))
def markOk (l : List Br) (i : Nat) (m : ByteArray) : Prop := m.toList.isEmpty = false → markF m.data.toList = true ∧ (l.take i).any (fun b => b.mark.toList == m.toList) = false
def BrAlone (l : List Br) (i : Nat) (h : i < l.length) : Prop :=
  within l[i].id 1 1073741824 = true ∧ within l[i].level 1 4 = true ∧ (0 < i → (l[i - 1]'(by omega)).id < l[i].id) ∧ nameF l[i].title.data.toList = true ∧ markOk l i l[i].mark
def BrPlaced (l : List Br) (b : Br) : Prop := if b.parent = 0 then b.level = 1 else ∃ p, brFind l b.parent = some p ∧ b.level ≠ 1 ∧ fitsF p.level b.level = true
def kidsOf (l : List Br) (id : Int) : List Int := (l.filter fun b => b.parent == id).map Br.id
def sortI (l : List Int) : List Int := l.mergeSort fun x y => decide (x ≤ y)
/-- How many units are on the way to the top. -/
def deep (l : List Br) : Nat → Br → Option Nat
  | 0, b => if b.parent = 0 then some 1 else none
  | n + 1, b => if b.parent = 0 then some 1 else match brFind l b.parent with
    | none => none
    | some p => (deep l n p).map (· + 1)
def BrDeep (l : List Br) (b : Br) : Prop := ∃ d, deep l l.length b = some d ∧ d ≤ 12
/-- A right tree. -/
def RightT (t : Tr) : Prop := t.brs.length ≤ 256 ∧ (∀ i (h : i < t.brs.length), BrAlone t.brs i h) ∧ (∀ i (h : i < t.brs.length), BrPlaced t.brs t.brs[i]) ∧ (∀ i (h : i < t.brs.length), sortI t.brs[i].kids = kidsOf t.brs t.brs[i].id) ∧
  sortI t.roots = kidsOf t.brs 0 ∧ ∀ i (h : i < t.brs.length), BrDeep t.brs t.brs[i]
theorem brIdx_none {l : List Br} {id : Int} (h : brFind l id = none) : brIdx l id = -1 := by
  refine idxP_miss _ l (fun i hi => ?_)
  have := List.find?_eq_none.1 h l[i] (List.getElem_mem hi)
  simpa using this
theorem brIdx_some {l : List Br} {id : Int} {b : Br} (h : brFind l id = some b) : ∃ k, ∃ hk : k < l.length, brIdx l id = (k : Int) ∧ l[k] = b := by
  obtain ⟨hb, k, hk, e, hbef⟩ := List.find?_eq_some_iff_getElem.1 h
  refine ⟨k, hk, idxP_hit _ l k hk (by rw [e]; exact hb) (fun i hi hik => by simpa using hbef i hik), e⟩
end Go.Proofs.YtfghbendiofbeaaGreatDoor

/- Ascending lists of numbers, and the holders of a role, plainly. No condition. -/
namespace Go.Proofs.YtfghbendiofbeaaGreatDoor
open Go.RowKit

def Asc (l : List Int) : Prop := l.Pairwise (· < ·)
theorem asc_ext : ∀ {l m : List Int}, Asc l → Asc m → (∀ x, x ∈ l ↔ x ∈ m) → l = m
  | [], [], _, _, _ => rfl
  | [], y :: m, _, _, h => by have := (h y).2 (by simp); simp at this
  | x :: l, [], _, _, h => by have := (h x).1 (by simp); simp at this
  | x :: l, y :: m, hl, hm, h => by
    have hl' := List.pairwise_cons.1 hl
    have hm' := List.pairwise_cons.1 hm
    have hxy : x = y := by
      have h1 := (h x).1 (by simp)
      have h2 := (h y).2 (by simp)
      rcases List.mem_cons.1 h1 with e | h1
      · exact e
      · rcases List.mem_cons.1 h2 with e | h2
        · exact e.symm
        · have a := hm'.1 x h1
          have b := hl'.1 y h2
          omega
    subst hxy
    rw [asc_ext hl'.2 hm'.2 (fun z => ?_)]
    constructor
    · intro hz
      have h1 := (h z).1 (by simp [hz])
      rcases List.mem_cons.1 h1 with e | h1
      · subst e
        have := hl'.1 z hz
        omega
      · exact h1
    · intro hz
      have h1 := (h z).2 (by simp [hz])
      rcases List.mem_cons.1 h1 with e | h1
      · subst e
        have := hm'.1 z hz
        omega
      · exact h1
theorem mem_insU (n x : Int) : ∀ l : List Int, x ∈ insU n l ↔ x = n ∨ x ∈ l
  | [] => by simp [insU]
  | y :: r => by
    unfold insU
    split
    · rw [List.mem_cons, mem_insU n x r, List.mem_cons]
      constructor
      · rintro (h | h | h)
        · exact .inr (.inl h)
        · exact .inl h
        · exact .inr (.inr h)
      · rintro (h | h | h)
        · exact .inr (.inl h)
        · exact .inl h
        · exact .inr (.inr h)
    · split
      · rename_i h
        subst h
        simp
      · simp
theorem asc_insU (n : Int) : ∀ l : List Int, Asc l → Asc (insU n l)
  | [], _ => by simp [insU, Asc]
  | y :: r, h => by
    have h' := List.pairwise_cons.1 h
    unfold insU
    split
    · rename_i hy
      refine List.pairwise_cons.2 ⟨fun z hz => ?_, asc_insU n r h'.2⟩
      rcases (mem_insU n z r).1 hz with e | hz
      · omega
      · exact h'.1 z hz
    · split
      · exact h
      · refine List.pairwise_cons.2 ⟨fun z hz => ?_, h⟩
        rcases List.mem_cons.1 hz with e | hz
        · omega
        · have := h'.1 z hz
          omega
theorem foldU : ∀ (m o : List Int), Asc o → Asc (m.foldl (fun o n => insU n o) o) ∧ ∀ x, x ∈ m.foldl (fun o n => insU n o) o ↔ x ∈ m ∨ x ∈ o
  | [], o, h => ⟨h, fun x => by simp⟩
  | n :: m, o, h => by
    obtain ⟨h1, h2⟩ := foldU m (insU n o) (asc_insU n o h)
    refine ⟨h1, fun x => ?_⟩
    rw [List.foldl_cons, h2, mem_insU, List.mem_cons]
    constructor
    · rintro (h | h | h)
      · exact .inl (.inr h)
      · exact .inl (.inl h)
      · exact .inr h
    · rintro ((h | h) | h)
      · exact .inr (.inl h)
      · exact .inl h
      · exact .inr (.inr h)
theorem holdersF_asc (l : List Rel) (u r d : Int) : Asc (holdersF l u r d) := (foldU _ [] List.Pairwise.nil).1
theorem mem_holdersF (l : List Rel) (u r d n : Int) : n ∈ holdersF l u r d ↔ ∃ x ∈ l, relOn u r d x = true ∧ x.auth = n := by
  unfold holdersF
  rw [(foldU _ [] List.Pairwise.nil).2]
  simp [and_assoc]
theorem sortI_asc (l : List Int) (h : l.Nodup) : Asc (sortI l) := by
  have h1 : (sortI l).Pairwise fun a b => decide (a ≤ b) = true := List.pairwise_mergeSort (fun a b c => by simp; omega) (fun a b => by simp; omega) l
  have h2 : (sortI l).Nodup := (List.mergeSort_perm l _).nodup_iff.2 h
  refine List.Pairwise.imp₂ (R := fun a b => decide (a ≤ b) = true) (S := (· ≠ ·)) (fun a b k1 k2 => ?_) h1 h2
  simp at k1
  omega
theorem mem_sortI (l : List Int) (x : Int) : x ∈ sortI l ↔ x ∈ l := (List.mergeSort_perm l _).mem_iff
/-- What was collected without repetition and sorted is what was inserted one by one. -/
theorem sortI_holders (l : List Rel) (u r d : Int) (ks : List Int) (hn : ks.Nodup) (hm : ∀ n, n ∈ ks ↔ ∃ x ∈ l, relOn u r d x = true ∧ x.auth = n) : sortI ks = holdersF l u r d :=
  asc_ext (sortI_asc ks hn) (holdersF_asc l u r d) fun x => by rw [mem_sortI, hm, mem_holdersF]
theorem holdersF_len (l : List Rel) (u r d : Int) : (holdersF l u r d).length ≤ l.length := by
  have hin : ∀ (n : Int) (o : List Int), (insU n o).length ≤ o.length + 1 := by
    intro n o
    induction o with
    | nil => simp [insU]
    | cons y o ih =>
      unfold insU
      split
      · simp only [List.length_cons]; omega
      · split <;> simp
  have hf : ∀ (m o : List Int), (m.foldl (fun o n => insU n o) o).length ≤ o.length + m.length := by
    intro m
    induction m with
    | nil => intro o; simp
    | cons n m ih =>
      intro o
      rw [List.foldl_cons]
      have := ih (insU n o)
      have := hin n o
      simp only [List.length_cons]
      omega
  have h1 := hf ((l.filter (relOn u r d)).map Rel.auth) []
  have h2 := List.length_filter_le (relOn u r d) l
  rw [List.length_map] at h1
  unfold holdersF
  simp only [List.length_nil] at h1
  omega
end Go.Proofs.YtfghbendiofbeaaGreatDoor

/- append to a row of the call's own. No condition but the sizes that a slice can have. -/
namespace Go.Proofs.YtfghbendiofbeaaGreatDoor
open Go.RowKit

/-- append(v, x): x lies in the block that was made last. -/
theorem app1 {P : Program} {ops : Array Oper} {rest : List Oper} {o : Oper} {a : Act} {Q : Exit → Act → World → Prop} (hgd : o.guard = none) (s x : Operand) (t : TypeId)
    (ho : o.op = .call { callee := .builtin .append, args := #[s, x], argTypes := #[t, t] })
    (w0 : World) (e : TypeId) (i : TypeInfo) (z : Value) (size bytes : Nat) (ht : P.underlying t = some (.slice e)) (hi : P.info? e = some i) (hz : i.zero = some z)
    (hsize : i.size = size) (hby : i.bytes = bytes) (hzs : z.cells.size = size) (hsz : 0 < size)
    (v : Value) (n : Nat) (xs : List Value) (hs : a.eval s = v) (wr : World) (hown : wr.ownsRow w0.heap.size e size v n xs) (hg : Grew w0 wr)
    (cs : List Value) (hx : a.eval x = .slice (some ⟨wr.heap.size, 0, none⟩) 1 1) (hl : cs.length = size) (h1 : cs.all (·.oneCell') = true)
    (h63 : n + 1 ≤ maxLen) (hbytes : (n + 1) * bytes ≤ 140737488355328)
    (h : ∀ v' w', w'.ownsRow w0.heap.size e size v' (n + 1) (xs ++ cs) → Grew w0 w' → wpList P ops Q rest (a.put o.dst v') w') : wpList P ops Q (o :: rest) a (wr.alloc (.cells cs.toArray e)) := by
  refine wpList_append_own _ hgd s x t ho w0.heap.size e i z size bytes ht hi hz hsize hby hzs hsz v n xs hs (hown.alloc _) ⟨wr.heap.size, 0, none⟩ 1 1 cs hx (by omega) ?_ ?_ h63 hbytes ?_ ?_
  · intro j u hu
    have hlast : (wr.alloc (.cells cs.toArray e)).heap[wr.heap.size]? = some (.cells cs.toArray e) := heap_alloc_last wr _
    rw [add_lit, Nat.zero_add, cell_of_row _ _ _ _ _ _ hlast]
    simpa using hu
  · exact fun u hu => List.all_eq_true.1 h1 u hu
  · have := hg.size
    simp
    omega
  · intro v' w' h2 h3 _
    refine h v' w' h2 ?_
    refine Below.grown (hg.alloc _) h3 (by have := hg.size; simp; omega) (fun k hk => ?_)
    exact (hown.lt k hk).1

/-- append(v, u...): u holds cs. -/
theorem appN {P : Program} {ops : Array Oper} {rest : List Oper} {o : Oper} {a : Act} {Q : Exit → Act → World → Prop} (hgd : o.guard = none) (s x : Operand) (t : TypeId)
    (ho : o.op = .call { callee := .builtin .append, args := #[s, x], argTypes := #[t, t] })
    (w0 : World) (e : TypeId) (i : TypeInfo) (z : Value) (size bytes : Nat) (ht : P.underlying t = some (.slice e)) (hi : P.info? e = some i) (hz : i.zero = some z)
    (hsize : i.size = size) (hby : i.bytes = bytes) (hzs : z.cells.size = size) (hsz : 0 < size)
    (v : Value) (n : Nat) (xs : List Value) (hs : a.eval s = v) (wr : World) (hown : wr.ownsRow w0.heap.size e size v n xs) (hg : Grew w0 wr)
    (m : Nat) (c : Nat) (b off : Nat) (cs : List Value) (hx : a.eval x = .slice (some ⟨b, off, none⟩) m c) (hl : cs.length = m * size) (hc : ∀ j u, cs[j]? = some u → wr.cell? ⟨b, off + j, none⟩ = some u) (h1 : ∀ u ∈ cs, u.oneCell' = true)
    (h63 : n + m ≤ maxLen) (hbytes : (n + m) * bytes ≤ 140737488355328)
    (h : ∀ v' w', w'.ownsRow w0.heap.size e size v' (n + m) (xs ++ cs) → Grew w0 w' → wpList P ops Q rest (a.put o.dst v') w') : wpList P ops Q (o :: rest) a wr := by
  refine wpList_append_own _ hgd s x t ho w0.heap.size e i z size bytes ht hi hz hsize hby hzs hsz v n xs hs hown ⟨b, off, none⟩ m c cs hx hl ?_ h1 h63 hbytes hg.size ?_
  · intro j u hu
    rw [add_lit]
    exact hc j u hu
  · intro v' w' h2 h3 _
    refine h v' w' h2 ?_
    exact Below.grown hg h3 hg.size (fun k hk => (hown.lt k hk).1)
/-- append(v, u...) as a step of a region that draws its order. -/
theorem stepN {P : Program} {ops : Array Oper} {o : Oper} {a : Act} {K : Act → World → Prop} {Q : Exit → Act → World → Prop} {E : Prop} (hgd : o.guard = none) (s x : Operand) (t : TypeId)
    (ho : o.op = .call { callee := .builtin .append, args := #[s, x], argTypes := #[t, t] })
    (w0 : World) (e : TypeId) (i : TypeInfo) (z : Value) (size bytes : Nat) (ht : P.underlying t = some (.slice e)) (hi : P.info? e = some i) (hz : i.zero = some z)
    (hsize : i.size = size) (hby : i.bytes = bytes) (hzs : z.cells.size = size) (hsz : 0 < size)
    (v : Value) (n : Nat) (xs : List Value) (hs : a.eval s = v) (wr : World) (hown : wr.ownsRow w0.heap.size e size v n xs) (hg : Grew w0 wr)
    (m : Nat) (c : Nat) (b off : Nat) (cs : List Value) (hx : a.eval x = .slice (some ⟨b, off, none⟩) m c) (hl : cs.length = m * size) (hc : ∀ j u, cs[j]? = some u → wr.cell? ⟨b, off + j, none⟩ = some u) (h1 : ∀ u ∈ cs, u.oneCell' = true)
    (h63 : n + m ≤ maxLen) (hbytes : (n + m) * bytes ≤ 140737488355328)
    (h : ∀ v' w', w'.ownsRow w0.heap.size e size v' (n + m) (xs ++ cs) → Grew w0 w' → (∀ p x, wr.cell? p = some x → some p.block ≠ v.ownBlock → w'.cell? p = some x) → K (a.put o.dst v') w') : if Region.wanted o (yielded ops a.tmps) = true then Oper.wp P o a wr K Q else E := by
  have hw : Region.wanted o (yielded ops a.tmps) = true := by simp [Region.wanted, hgd]
  rw [if_pos hw]
  refine wp_append_own wr s x t ho w0.heap.size e i z size bytes ht hi hz hsize hby hzs hsz v n xs hs hown ⟨b, off, none⟩ m c cs hx hl ?_ h1 h63 hbytes hg.size ?_
  · intro j u hu
    rw [add_lit]
    exact hc j u hu
  · intro v' w' h2 h3 _
    exact h v' w' h2 (Below.grown hg h3 hg.size (fun k hk => (hown.lt k hk).1)) (fun p x hp hne => h3.cell hp hne)
theorem heldB (w w1 W : World) (p : Addr) (x : Value) (h : w1.cell? p = some x) (hlt : p.block < w1.heap.size) (g0 : Grew w w1) (g : Grew w1 W) : W.cell? p = some x ∧ Grew w W := ⟨(g.cell hlt).trans h, g0.trans g⟩
theorem heldA (w1 W : World) (p : Addr) (x : Value) (h : w1.cell? p = some x) (hlt : p.block < w1.heap.size) (g : Grew w1 W) : W.cell? p = some x ∧ Grew w1 W := ⟨(g.cell hlt).trans h, g⟩
theorem heldA3 (w1 W : World) (p q r : Addr) (x y z : Value) (h : w1.cell? p = some x) (hlt : p.block < w1.heap.size) (h2 : w1.cell? q = some y) (hlt2 : q.block < w1.heap.size) (h3 : w1.cell? r = some z) (hlt3 : r.block < w1.heap.size) (g : Grew w1 W) : W.cell? p = some x ∧ W.cell? q = some y ∧ W.cell? r = some z ∧ Grew w1 W :=
  ⟨(g.cell hlt).trans h, (g.cell hlt2).trans h2, (g.cell hlt3).trans h3, g⟩
end Go.Proofs.YtfghbendiofbeaaGreatDoor

/- append of a slice, nil let in, to a row of the call's own. No condition but the sizes that a slice can have. -/
namespace Go.Proofs.YtfghbendiofbeaaGreatDoor
open Go.RowKit

theorem run_append_none {P : Program} (w : World) (base : Nat) (t ty e : TypeId) (i : TypeInfo) (size : Nat) (ht : P.underlying t = some (.slice e)) (hi : P.info? e = some i) (v : Value) (n : Nat) (xs : List Value) (hown : w.ownsRow base e size v n xs) (c : Nat) :
    (Builtin.append_ #[t, t] ty #[v, .slice none 0 c]).run P w = .ok v w := by
  rcases hown.2 with ⟨rfl, rfl⟩ | ⟨g, cap, cur, rfl, _, _, hle, _⟩
  · simp [Builtin.append_, run_underlying ht, sizeOf, typeInfo, hi, Builtin.lenOf, Builtin.firstCells]
  · simp [Builtin.append_, run_underlying ht, sizeOf, typeInfo, hi, Builtin.lenOf, Builtin.firstCells, hle, storeCells]
/-- append(v, u...), at one operation. -/
theorem wpR {P : Program} {o : Oper} {a : Act} {K : Act → World → Prop} {Q : Exit → Act → World → Prop} (s x : Operand) (t : TypeId)
    (ho : o.op = .call { callee := .builtin .append, args := #[s, x], argTypes := #[t, t] })
    (w0 : World) (e : TypeId) (i : TypeInfo) (z : Value) (size bytes : Nat) (ht : P.underlying t = some (.slice e)) (hi : P.info? e = some i) (hz : i.zero = some z)
    (hsize : i.size = size) (hby : i.bytes = bytes) (hzs : z.cells.size = size) (hsz : 0 < size)
    (v : Value) (n : Nat) (xs : List Value) (hs : a.eval s = v) (wr : World) (hown : wr.ownsRow w0.heap.size e size v n xs) (hg : Grew w0 wr)
    (u : Value) (m : Nat) (cs : List Value) (hx : a.eval x = u) (hu : Rd wr size u cs) (hl : cs.length = m * size) (h1 : ∀ u ∈ cs, u.oneCell' = true)
    (h63 : n + m ≤ maxLen) (hbytes : (n + m) * bytes ≤ 140737488355328)
    (h : ∀ v' w', w'.ownsRow w0.heap.size e size v' (n + m) (xs ++ cs) → Grew w0 w' → (∀ p x, wr.cell? p = some x → some p.block ≠ v.ownBlock → w'.cell? p = some x) → K (a.put o.dst v') w') : o.wp P a wr K Q := by
  obtain ⟨A, m', c, rfl, hl', hmc, _, hr⟩ := hu
  obtain rfl : m' = m := Nat.eq_of_mul_eq_mul_right hsz (hl'.symm.trans hl)
  cases A with
  | none =>
    have hm0 : m' = 0 := by
      rcases Nat.eq_zero_or_pos m' with h0 | h0
      · exact h0
      · obtain ⟨b, off, hA, _⟩ := hr h0
        cases hA
    subst hm0
    have hcs : cs = [] := List.eq_nil_of_length_eq_zero (by omega)
    subst hcs
    have hrun := run_append_none wr w0.heap.size t o.type e i size ht hi v n xs hown c
    unfold Oper.wp execOp
    simp only [ho, resolve, invoke, builtin, Sem.run_bind, Sem.run_pure, Result.andThen_ok, List.map_toArray, List.map_cons, List.map_nil, hs, hx, hrun]
    exact h v wr (by simpa using hown) hg (fun p x hp _ => hp)
  | some ad =>
    refine wp_append_own wr s x t ho w0.heap.size e i z size bytes ht hi hz hsize hby hzs hsz v n xs hs hown ad m' c cs hx hl ?_ h1 h63 hbytes hg.size ?_
    · intro j u hu
      have hj := (List.getElem?_eq_some_iff.1 hu).1
      have h0 : 0 < m' := by
        rcases Nat.eq_zero_or_pos m' with h0 | h0
        · subst h0; omega
        · exact h0
      obtain ⟨b, off, hA, _, hcell⟩ := hr h0
      cases hA
      rw [add_lit]
      exact hcell j u hu
    · intro v' w' h2 h3 _
      exact h v' w' h2 (Below.grown hg h3 hg.size (fun k hk => (hown.lt k hk).1)) (fun p x hp hne => h3.cell hp hne)
theorem appR {P : Program} {ops : Array Oper} {rest : List Oper} {o : Oper} {a : Act} {Q : Exit → Act → World → Prop} (hgd : o.guard = none) (s x : Operand) (t : TypeId)
    (ho : o.op = .call { callee := .builtin .append, args := #[s, x], argTypes := #[t, t] })
    (w0 : World) (e : TypeId) (i : TypeInfo) (z : Value) (size bytes : Nat) (ht : P.underlying t = some (.slice e)) (hi : P.info? e = some i) (hz : i.zero = some z)
    (hsize : i.size = size) (hby : i.bytes = bytes) (hzs : z.cells.size = size) (hsz : 0 < size)
    (v : Value) (n : Nat) (xs : List Value) (hs : a.eval s = v) (wr : World) (hown : wr.ownsRow w0.heap.size e size v n xs) (hg : Grew w0 wr)
    (u : Value) (m : Nat) (cs : List Value) (hx : a.eval x = u) (hu : Rd wr size u cs) (hl : cs.length = m * size) (h1 : ∀ u ∈ cs, u.oneCell' = true)
    (h63 : n + m ≤ maxLen) (hbytes : (n + m) * bytes ≤ 140737488355328)
    (h : ∀ v' w', w'.ownsRow w0.heap.size e size v' (n + m) (xs ++ cs) → Grew w0 w' → (∀ p x, wr.cell? p = some x → some p.block ≠ v.ownBlock → w'.cell? p = some x) → wpList P ops Q rest (a.put o.dst v') w') : wpList P ops Q (o :: rest) a wr :=
  wpList_plain hgd fun _ hK => wpR s x t ho w0 e i z size bytes ht hi hz hsize hby hzs hsz v n xs hs wr hown hg u m cs hx hu hl h1 h63 hbytes fun v' w' h2 h3 h4 => hK _ _ (h v' w' h2 h3 h4)
theorem stepR {P : Program} {ops : Array Oper} {o : Oper} {a : Act} {K : Act → World → Prop} {Q : Exit → Act → World → Prop} {E : Prop} (hgd : o.guard = none) (s x : Operand) (t : TypeId)
    (ho : o.op = .call { callee := .builtin .append, args := #[s, x], argTypes := #[t, t] })
    (w0 : World) (e : TypeId) (i : TypeInfo) (z : Value) (size bytes : Nat) (ht : P.underlying t = some (.slice e)) (hi : P.info? e = some i) (hz : i.zero = some z)
    (hsize : i.size = size) (hby : i.bytes = bytes) (hzs : z.cells.size = size) (hsz : 0 < size)
    (v : Value) (n : Nat) (xs : List Value) (hs : a.eval s = v) (wr : World) (hown : wr.ownsRow w0.heap.size e size v n xs) (hg : Grew w0 wr)
    (u : Value) (m : Nat) (cs : List Value) (hx : a.eval x = u) (hu : Rd wr size u cs) (hl : cs.length = m * size) (h1 : ∀ u ∈ cs, u.oneCell' = true)
    (h63 : n + m ≤ maxLen) (hbytes : (n + m) * bytes ≤ 140737488355328)
    (h : ∀ v' w', w'.ownsRow w0.heap.size e size v' (n + m) (xs ++ cs) → Grew w0 w' → (∀ p x, wr.cell? p = some x → some p.block ≠ v.ownBlock → w'.cell? p = some x) → K (a.put o.dst v') w') : if Region.wanted o (yielded ops a.tmps) = true then Oper.wp P o a wr K Q else E := by
  have hw : Region.wanted o (yielded ops a.tmps) = true := by simp [Region.wanted, hgd]
  rw [if_pos hw]
  exact wpR s x t ho w0 e i z size bytes ht hi hz hsize hby hzs hsz v n xs hs wr hown hg u m cs hx hu hl h1 h63 hbytes h
/-- append(v, x), the block of x under a name. -/
theorem app1H {P : Program} {ops : Array Oper} {rest : List Oper} {o : Oper} {a : Act} {Q : Exit → Act → World → Prop} (hgd : o.guard = none) (s x : Operand) (t : TypeId)
    (ho : o.op = .call { callee := .builtin .append, args := #[s, x], argTypes := #[t, t] })
    (w0 : World) (e : TypeId) (i : TypeInfo) (z : Value) (size bytes : Nat) (ht : P.underlying t = some (.slice e)) (hi : P.info? e = some i) (hz : i.zero = some z)
    (hsize : i.size = size) (hby : i.bytes = bytes) (hzs : z.cells.size = size) (hsz : 0 < size)
    (v : Value) (n : Nat) (xs : List Value) (hs : a.eval s = v) (wr : World) (hown : wr.ownsRow w0.heap.size e size v n xs) (hg : Grew w0 wr) (H : Nat) (hH : wr.heap.size = H)
    (cs : List Value) (hx : a.eval x = .slice (some ⟨H, 0, none⟩) 1 1) (hl : cs.length = size) (h1 : cs.all (·.oneCell') = true)
    (h63 : n + 1 ≤ maxLen) (hbytes : (n + 1) * bytes ≤ 140737488355328)
    (h : ∀ v' w', w'.ownsRow w0.heap.size e size v' (n + 1) (xs ++ cs) → Grew w0 w' → wpList P ops Q rest (a.put o.dst v') w') : wpList P ops Q (o :: rest) a (wr.alloc (.cells cs.toArray e)) := by
  subst hH
  exact app1 hgd s x t ho w0 e i z size bytes ht hi hz hsize hby hzs hsz v n xs hs wr hown hg cs hx hl h1 h63 hbytes h
end Go.Proofs.YtfghbendiofbeaaGreatDoor
