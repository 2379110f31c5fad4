/-
  Part 7 of the proof: a machine over named blocks, what each function computes, and what follows. No condition.
-/
import Derived.Test.YtafmgcbfmifaeaaRows
import Derived.WalkKit
import Derived.ProofKit
import Derived.OpenShut
import Derived.JoinedCond
import Derived.Test.YtafmgcbfmifaeaaHTrueF
set_option linter.unusedVariables false
set_option linter.unusedSimpArgs false
set_option linter.all false
set_option maxRecDepth 20000
set_option maxHeartbeats 8000000
namespace Go.Abs
open Go Go.Proofs Go.RowKit
set_option maxRecDepth 20000
def qB : Nat := reachBytes
theorem qB_le : qB ≤ 140737488351232 := by decide
theorem reads_3 : Reads qB Try.prog 3 eI i64ok := Reads.int Try.underlying3
theorem reads_52 : Reads qB Try.prog 52 (A2.c eI) (fun x : (A2 Int) => i64ok x.x0 ∧ i64ok x.x1) := (Reads.array Try.underlying52 (by kernel_rfl) (ReadsL.cons (off := 0) (sz := 1) (off' := 1) (tot := 2) rfl (by kernel_rfl) rfl reads_3 (ReadsL.cons (off := 1) (sz := 1) (off' := 2) (tot := 2) rfl (by kernel_rfl) rfl reads_3 (ReadsL.nil (off := 2) (tot := 2) (by decide))))).as (fun p => ⟨p.1, p.2.1⟩) (fun _ => rfl) (fun _ h => ⟨h.1, h.2.1⟩)
theorem reads_22 : Reads qB Try.prog 22 (eL 2 (A2.c eI)) (fun l => l.length ≤ Go.maxLen ∧ l.length * 16 ≤ qB ∧ ∀ a ∈ l, (fun x : (A2 Int) => i64ok x.x0 ∧ i64ok x.x1) a) := Reads.slice Try.underlying22 (by kernel_rfl) (by kernel_rfl) (by decide) reads_52
theorem reads_23 : Reads qB Try.prog 23 (eL 1 eI) (fun l => l.length ≤ Go.maxLen ∧ l.length * 8 ≤ qB ∧ ∀ a ∈ l, i64ok a) := Reads.slice Try.underlying23 (by kernel_rfl) (by kernel_rfl) (by decide) reads_3
theorem reads_90 : Reads qB Try.prog 90 (A4.c eI) (fun x : (A4 Int) => i64ok x.x0 ∧ i64ok x.x1 ∧ i64ok x.x2 ∧ i64ok x.x3) := (Reads.array Try.underlying90 (by kernel_rfl) (ReadsL.cons (off := 0) (sz := 1) (off' := 1) (tot := 4) rfl (by kernel_rfl) rfl reads_3 (ReadsL.cons (off := 1) (sz := 1) (off' := 2) (tot := 4) rfl (by kernel_rfl) rfl reads_3 (ReadsL.cons (off := 2) (sz := 1) (off' := 3) (tot := 4) rfl (by kernel_rfl) rfl reads_3 (ReadsL.cons (off := 3) (sz := 1) (off' := 4) (tot := 4) rfl (by kernel_rfl) rfl reads_3 (ReadsL.nil (off := 4) (tot := 4) (by decide))))))).as (fun p => ⟨p.1, p.2.1, p.2.2.1, p.2.2.2.1⟩) (fun _ => rfl) (fun _ h => ⟨h.1, h.2.1, h.2.2.1, h.2.2.2.1⟩)
theorem reads_24 : Reads qB Try.prog 24 (eL 4 (A4.c eI)) (fun l => l.length ≤ Go.maxLen ∧ l.length * 32 ≤ qB ∧ ∀ a ∈ l, (fun x : (A4 Int) => i64ok x.x0 ∧ i64ok x.x1 ∧ i64ok x.x2 ∧ i64ok x.x3) a) := Reads.slice Try.underlying24 (by kernel_rfl) (by kernel_rfl) (by decide) reads_90
def R04_Raw.q (x : R04_Raw) : Prop := i64ok x.Mouths ∧ i64ok x.Places ∧ (fun l => l.length ≤ Go.maxLen ∧ l.length * 16 ≤ qB ∧ ∀ a ∈ l, (fun x : (A2 Int) => i64ok x.x0 ∧ i64ok x.x1) a) x.Falls ∧ (fun l => l.length ≤ Go.maxLen ∧ l.length * 8 ≤ qB ∧ ∀ a ∈ l, i64ok a) x.Heats ∧ (fun l => l.length ≤ Go.maxLen ∧ l.length * 32 ≤ qB ∧ ∀ a ∈ l, (fun x : (A4 Int) => i64ok x.x0 ∧ i64ok x.x1 ∧ i64ok x.x2 ∧ i64ok x.x3) a) x.Readings
theorem reads_26 : Reads qB Try.prog 26 R04_Raw.c R04_Raw.q := (Reads.struct Try.underlying26 (by kernel_rfl) (ReadsL.cons (off := 0) (sz := 1) (off' := 1) (tot := 5) rfl (by kernel_rfl) rfl reads_3 (ReadsL.cons (off := 1) (sz := 1) (off' := 2) (tot := 5) rfl (by kernel_rfl) rfl reads_3 (ReadsL.cons (off := 2) (sz := 1) (off' := 3) (tot := 5) rfl (by kernel_rfl) rfl reads_22 (ReadsL.cons (off := 3) (sz := 1) (off' := 4) (tot := 5) rfl (by kernel_rfl) rfl reads_23 (ReadsL.cons (off := 4) (sz := 1) (off' := 5) (tot := 5) rfl (by kernel_rfl) rfl reads_24 (ReadsL.nil (off := 5) (tot := 5) (by decide)))))))).as (fun p => ⟨p.1, p.2.1, p.2.2.1, p.2.2.2.1, p.2.2.2.2.1⟩) (fun _ => rfl) (fun _ h => ⟨h.1, h.2.1, h.2.2.1, h.2.2.2.1, h.2.2.2.2.1⟩)
def Range.q (x : Range) : Prop := i64ok x.Lo ∧ i64ok x.Hi
def Kiln.q (x : Kiln) : Prop := (fun l => l.length ≤ Go.maxLen ∧ l.length * 24 ≤ qB ∧ ∀ a ∈ l, (fun l => l.length ≤ Go.maxLen ∧ l.length * 16 ≤ qB ∧ ∀ a ∈ l, Range.q a) a) x.Falls
def Reading.q (x : Reading) : Prop := i64ok x.Source ∧ i64ok x.Place ∧ i64ok x.Kind ∧ i64ok x.Mark ∧ Range.q x.Heat
def Firing.q (x : Firing) : Prop := Kiln.q x.Kiln ∧ (fun l => l.length ≤ Go.maxLen ∧ l.length * 48 ≤ qB ∧ ∀ a ∈ l, Reading.q a) x.Readings
def L04_Told.q (x : L04_Told) : Prop := i64ok x.Place ∧ i64ok x.N ∧ (fun _ => True) x.High
def HeatProof.q (x : HeatProof) : Prop := i64ok x.Reading ∧ (fun l => l.length ≤ Go.maxLen ∧ l.length * 8 ≤ qB ∧ ∀ a ∈ l, i64ok a) x.By
end Go.Abs
namespace Go.Abs
open Go
set_option linter.unusedVariables false
theorem at_getD {α : Type} (d : α) {l : List α} {i : Int} (h0 : 0 ≤ i) (h1 : i < l.length) : at? l i = some (l.getD i.toNat d) := by
 unfold at?
 rw [if_pos ⟨h0, by omega⟩]
 rw [List.getElem?_eq_getElem (by omega), List.getD_eq_getElem?_getD, List.getElem?_eq_getElem (by omega)]
 rfl
theorem at_nat {α : Type} (d : α) {l : List α} {i : Nat} (h1 : i < l.length) : at? l (i : Int) = some (l.getD i d) := by
 have := at_getD d (l := l) (i := (i : Int)) (by omega) (by omega)
 simpa using this
theorem getD_mem {α : Type} (d : α) {l : List α} {i : Nat} (h : i < l.length) : l.getD i d ∈ l := by
 rw [List.getD_eq_getElem?_getD, List.getElem?_eq_getElem h]
 exact List.getElem_mem h
theorem getD_none {α : Type} {d : α} {l : List α} {i : Nat} (h : l.length ≤ i) : l.getD i d = d := by
 rw [List.getD_eq_getElem?_getD, List.getElem?_eq_none h]; rfl
theorem getD_of {α : Type} (d : α) {l : List α} {i : Nat} {x : α} (h : l[i]? = some x) : l.getD i d = x := by
 rw [List.getD_eq_getElem?_getD, h]; rfl
theorem range_drop_cons {i d : Nat} : (List.range' i (d + 1)) = i :: List.range' (i + 1) d := by
 rw [List.range'_succ]
theorem whl_eachN {R : Type} {body : Int → Option (Stp Int Unit R)} {n : Nat} {f : Nat → Option R} (hn : n ≤ 9223372036854775807) {k : Nat} (hk : n < k)
  (h1 : ∀ i, i < n → body (i : Int) = some (match f i with | some r => .ret r | none => .next (w64 ((i : Int) + 1)))) (h2 : body (n : Int) = some (.brk ())) :
  whl body k 0 = some (match (List.range n).findSome? f with | some r => .ret r | none => .brk ()) := by
 have h := whl_for (body := body) (n := n) (g := f) hn h1 h2 k n 0 (by omega) hk
 rw [Int.natCast_zero] at h
 rw [h]
 have key : ∀ d i, scan f i d = (List.range' i d).findSome? f := by
  intro d
  induction d with
  | zero => intro i; rfl
  | succ d ih =>
   intro i
   rw [range_drop_cons, List.findSome?_cons, scan, ih]
   cases f i <;> rfl
 rw [key, List.range_eq_range']
 cases (List.range' 0 n).findSome? f <;> rfl
theorem whl_allN {R : Type} {body : Int → Option (Stp Int Unit R)} {n : Nat} {p : Nat → Bool} {c : R} (hn : n ≤ 9223372036854775807) {k : Nat} (hk : n < k)
  (h1 : ∀ i, i < n → body (i : Int) = some (bif p i then .next (w64 ((i : Int) + 1)) else .ret c)) (h2 : body (n : Int) = some (.brk ())) :
  whl body k 0 = some (bif (List.range n).all p then .brk () else .ret c) := by
 have h := whl_eachN (body := body) (n := n) (f := fun i => bif p i then none else some c) hn hk (fun i hi => by rw [h1 i hi]; cases p i <;> rfl) h2
 rw [h]
 have : ∀ l : List Nat, l.findSome? (fun i => bif p i then none else some c) = bif l.all p then none else some c := by
  intro l
  induction l with
  | nil => rfl
  | cons x l ih =>
   rw [List.findSome?_cons, List.all_cons]
   cases hp : p x with
   | true => simpa using ih
   | false => simp
 rw [this]
 cases (List.range n).all p <;> rfl
theorem whl_allL {α R : Type} {l : List α} {body : Int → Option (Stp Int Unit R)} {p : α → Bool} {c : R} (hn : l.length ≤ 9223372036854775807) {k : Nat} (hk : l.length < k)
  (h1 : ∀ (i : Nat) x, l[i]? = some x → body (i : Int) = some (bif p x then .next (w64 ((i : Int) + 1)) else .ret c)) (h2 : body (l.length : Int) = some (.brk ())) :
  whl body k 0 = some (bif l.all p then .brk () else .ret c) := by
 have h := whl_each (body := body) (l := l) (f := fun i => bif p i then none else some c) hn hk (fun i x hi => by rw [h1 i x hi]; cases p x <;> rfl) h2
 rw [h]
 have : l.findSome? (fun i => bif p i then none else some c) = bif l.all p then none else some c := by
  clear h h1 h2 hn hk
  induction l with
  | nil => rfl
  | cons x l ih =>
   rw [List.findSome?_cons, List.all_cons]
   cases hp : p x with
   | true => simpa using ih
   | false => simp
 rw [this]
 cases l.all p <;> rfl
theorem whl_foldN {S R τ : Type} {n : Nat} {body : τ → Option (Stp τ S R)} (mk : Int → S → τ) (f : S → Nat → S) (Inv : Nat → S → Prop) (hn : n ≤ 9223372036854775807) {k : Nat} (hk : n < k) {s0 : S} (h0 : Inv 0 s0)
  (h1 : ∀ i s, i < n → Inv i s → body (mk (i : Int) s) = some (.next (mk (w64 ((i : Int) + 1)) (f s i))) ∧ Inv (i + 1) (f s i)) (h2 : ∀ s, Inv n s → body (mk (n : Int) s) = some (.brk s)) :
  whl body k (mk 0 s0) = some (.brk ((List.range n).foldl f s0)) ∧ Inv n ((List.range n).foldl f s0) := by
 have h := whl_fold (l := List.range n) (body := body) mk f Inv (by simpa using hn) (k := k) (by simpa using hk) h0 (fun i x s hx hI => by
  have hi : i < n := by have := (List.getElem?_eq_some_iff.1 hx).1; simpa using this
  have e : x = i := by have := hx; rw [List.getElem?_range hi] at this; exact (Option.some.inj this).symm
  subst e
  exact h1 x s hi hI) (fun s hI => by have := h2 s (by simpa using hI); simpa using this)
 exact ⟨h.1, by simpa using h.2⟩
theorem foldl_pushN {α : Type} (g : Nat → α) : ∀ (l : List Nat) (s : List α), l.foldl (fun s i => s ++ [g i]) s = s ++ l.map g
 | [], s => by simp
 | x :: l, s => by simp [foldl_pushN g l]
end Go.Abs
namespace Go.Abs
set_option linter.unusedVariables false
def mx (f : Nat → Int) : Nat → Int
 | 0 => f 0
 | n + 1 => max (mx f n) (f (n + 1))
theorem mx_le_iff (f : Nat → Int) (t : Int) : ∀ n, mx f n ≤ t ↔ ∀ j, j ≤ n → f j ≤ t
 | 0 => ⟨fun h j hj => by have h0 : j = 0 := Nat.le_zero.1 hj; subst h0; exact h, fun h => h 0 (Nat.le_refl _)⟩
 | n + 1 => by
  rw [mx, Int.max_le, mx_le_iff f t n]
  constructor
  ·rintro ⟨h1, h2⟩ j hj
   rcases Nat.lt_or_ge n j with h | h
   ·obtain rfl : j = n + 1 := by omega
    exact h2
   ·exact h1 j h
  ·exact fun h => ⟨fun j hj => h j (by omega), h _ (Nat.le_refl _)⟩
theorem le_mx_iff (f : Nat → Int) (t : Int) : ∀ n, t ≤ mx f n ↔ ∃ j, j ≤ n ∧ t ≤ f j
 | 0 => ⟨fun h => ⟨0, Nat.le_refl _, h⟩, fun ⟨j, hj, h⟩ => by have h0 : j = 0 := Nat.le_zero.1 hj; subst h0; exact h⟩
 | n + 1 => by
  rw [mx, show t ≤ max (mx f n) (f (n + 1)) ↔ t ≤ mx f n ∨ t ≤ f (n + 1) by omega, le_mx_iff f t n]
  constructor
  ·rintro (⟨j, h1, h2⟩ | h)
   ·exact ⟨j, by omega, h2⟩
   ·exact ⟨n + 1, Nat.le_refl _, h⟩
  ·rintro ⟨j, h1, h2⟩
   rcases Nat.lt_or_ge n j with h | h
   ·obtain rfl : j = n + 1 := by omega
    exact .inr h2
   ·exact .inl ⟨j, h, h2⟩
theorem eq_of_le_iff {a b : Int} (h : ∀ t, t ≤ a ↔ t ≤ b) : a = b := by
 have h1 := (h a).1 (Int.le_refl _)
 have h2 := (h b).2 (Int.le_refl _)
 omega
theorem eq_of_ge_iff {a b : Int} (h : ∀ t, a ≤ t ↔ b ≤ t) : a = b := by
 have h1 := (h a).1 (Int.le_refl _)
 have h2 := (h b).2 (Int.le_refl _)
 omega
structure Fur where
 m : Nat
 lo : Nat → Nat → Int
 hi : Nat → Nat → Int
 L : List (Nat × Int)
 M : List (Nat × Int)
namespace Fur
def Ok (f : Fur) : Prop := ∀ j p, 0 ≤ f.lo j p ∧ f.lo j p ≤ f.hi j p ∧ f.hi j p ≤ 3000
def U (f : Fur) (j : Nat) : Int := f.M.foldl (fun n x => min n (x.2 + f.hi j x.1)) 3000
theorem U_iff (f : Fur) (j : Nat) (t : Int) : t ≤ f.U j ↔ t ≤ 3000 ∧ ∀ x ∈ f.M, t ≤ x.2 + f.hi j x.1 := by
 have key : ∀ (M : List (Nat × Int)) (a : Int), t ≤ M.foldl (fun n x => min n (x.2 + f.hi j x.1)) a ↔ t ≤ a ∧ ∀ x ∈ M, t ≤ x.2 + f.hi j x.1 := by
  intro M
  induction M with
  | nil => simp
  | cons y M ih =>
   intro a
   rw [List.foldl_cons, ih, Int.le_min]
   simp only [List.forall_mem_cons, and_assoc]
 exact key _ _
theorem U_le (f : Fur) (j : Nat) : f.U j ≤ 3000 := ((f.U_iff j _).1 (Int.le_refl _)).1
theorem U_lim (f : Fur) (j : Nat) {x : Nat × Int} (h : x ∈ f.M) : f.U j ≤ x.2 + f.hi j x.1 := ((f.U_iff j _).1 (Int.le_refl _)).2 x h
def Sound (f : Fur) : Prop :=
 (∀ j, j ≤ f.m → 0 ≤ f.U j) ∧ ∀ x ∈ f.L, (∀ y ∈ f.M, y.1 = x.1 → x.2 ≤ y.2) ∧ ∃ j, j ≤ f.m ∧ x.2 + f.lo j x.1 ≤ f.U j
def High (f : Fur) (q : Nat) (t : Int) : Prop := (∃ j, j ≤ f.m ∧ t + f.lo j q ≤ f.U j) ∧ ∀ y ∈ f.M, y.1 = q → t ≤ y.2
def Low (f : Fur) (q : Nat) (t : Int) : Prop :=
 (∀ j, j ≤ f.m → -f.hi j q ≤ t) ∧ (∀ x ∈ f.L, x.1 = q → x.2 ≤ t) ∧ ∀ x ∈ f.L, x.1 ≠ q → ∃ j, j ≤ f.m ∧ x.2 + f.lo j x.1 ≤ f.U j ∧ x.2 + f.lo j x.1 - f.hi j q ≤ t
def IsField (f : Fur) (u : Nat → Int) (d : Nat → Nat → Int) : Prop := ∀ j, j ≤ f.m → 0 ≤ u j ∧ u j ≤ 3000 ∧ ∀ p, f.lo j p ≤ d j p ∧ d j p ≤ f.hi j p
def heat (f : Fur) (u : Nat → Int) (d : Nat → Nat → Int) (p : Nat) : Int := mx (fun j => u j - d j p) f.m
def Agrees (f : Fur) (u : Nat → Int) (d : Nat → Nat → Int) : Prop :=
 (∀ x ∈ f.L, x.2 ≤ f.heat u d x.1) ∧ ∀ y ∈ f.M, f.heat u d y.1 ≤ y.2
theorem Agrees.u {f : Fur} {u d} (hF : f.IsField u d) (h : f.Agrees u d) (j : Nat) (hj : j ≤ f.m) : u j ≤ f.U j := by
 rw [U_iff]
 refine ⟨(hF j hj).2.1, fun x hx => ?_⟩
 have h1 := (mx_le_iff _ _ _).1 (h.2 x hx) j hj
 have h2 := (hF j hj).2.2 x.1
 omega
theorem Agrees.high {f : Fur} {u d} (hF : f.IsField u d) (h : f.Agrees u d) (p : Nat) : f.High p (f.heat u d p) := by
 refine ⟨?_, fun y hy e => e ▸ h.2 y hy⟩
 obtain ⟨j, h1, h2⟩ := (le_mx_iff _ _ _).1 (Int.le_refl (f.heat u d p))
 refine ⟨j, h1, ?_⟩
 have h3 := h.u hF j h1
 have h4 := (hF j h1).2.2 p
 omega
theorem Agrees.low {f : Fur} {u d} (hF : f.IsField u d) (h : f.Agrees u d) (p : Nat) : f.Low p (f.heat u d p) := by
 have hm := (mx_le_iff (fun j => u j - d j p) (f.heat u d p) f.m).1 (Int.le_refl _)
 refine ⟨fun j hj => ?_, fun x hx e => e ▸ h.1 x hx, fun x hx _ => ?_⟩
 ·have h1 := hm j hj
  have h2 := hF j hj
  have h3 := h2.2.2 p
  omega
 ·obtain ⟨j, h1, h2⟩ := (le_mx_iff _ _ _).1 (h.1 x hx)
  have h3 := h.u hF j h1
  have h4 := (hF j h1).2.2 x.1
  have h5 := (hF j h1).2.2 p
  have h6 := hm j h1
  exact ⟨j, h1, by omega, by omega⟩
theorem Agrees.sound {f : Fur} {u d} (hF : f.IsField u d) (h : f.Agrees u d) : f.Sound := by
 refine ⟨fun j hj => Int.le_trans (hF j hj).1 (h.u hF j hj), fun x hx => ⟨fun y hy e => ?_, ?_⟩⟩
 ·have h1 := h.1 x hx
  have h2 := h.2 y hy
  rw [e] at h2
  omega
 ·obtain ⟨j, h1, h2⟩ := (le_mx_iff _ _ _).1 (h.1 x hx)
  have h3 := h.u hF j h1
  have h4 := (hF j h1).2.2 x.1
  exact ⟨j, h1, by omega⟩
def bst (p : Nat) (o : Option Int) (x : Nat × Int) : Option Int := if x.1 = p then some (match o with | none => x.2 | some n => min n x.2) else o
def best (M : List (Nat × Int)) (p : Nat) : Option Int := M.foldl (bst p) none
theorem best_iff (M : List (Nat × Int)) (p : Nat) : (best M p = none ↔ ∀ y ∈ M, y.1 ≠ p) ∧ ∀ n, best M p = some n → (∀ t, t ≤ n ↔ ∀ y ∈ M, y.1 = p → t ≤ y.2) ∧ ∃ y ∈ M, y.1 = p ∧ y.2 = n := by
 have key : ∀ (M K : List (Nat × Int)) (o : Option Int), ((o = none ↔ ∀ y ∈ K, y.1 ≠ p) ∧ ∀ n, o = some n → (∀ t, t ≤ n ↔ ∀ y ∈ K, y.1 = p → t ≤ y.2) ∧ ∃ y ∈ K, y.1 = p ∧ y.2 = n) →
   ((M.foldl (bst p) o = none ↔ ∀ y ∈ K ++ M, y.1 ≠ p) ∧ ∀ n, M.foldl (bst p) o = some n → (∀ t, t ≤ n ↔ ∀ y ∈ K ++ M, y.1 = p → t ≤ y.2) ∧ ∃ y ∈ K ++ M, y.1 = p ∧ y.2 = n) := by
  intro M
  induction M with
  | nil => intro K o h; simpa using h
  | cons x M ih =>
   intro K o h
   have h2 := ih (K ++ [x]) (bst p o x) ?_
   ·simpa only [List.append_assoc, List.cons_append, List.nil_append, List.foldl_cons] using h2
   ·by_cases hx : x.1 = p
    ·simp only [bst, hx, if_true]
     refine ⟨?_, fun n hn => ?_⟩
     ·constructor
      ·intro h; cases h
      ·intro h; exact absurd hx (h x (by simp))
     ·cases o with
      | none =>
       simp only [Option.some.injEq] at hn
       have h3 := h.1.1 rfl
       refine ⟨fun t => ⟨fun ht y hy e => ?_, fun ht => ?_⟩, x, by simp, hx, hn⟩
       ·rcases List.mem_append.1 hy with hy | hy
        ·exact absurd e (h3 y hy)
        ·simp only [List.mem_singleton] at hy; subst hy; omega
       ·have := ht x (by simp) hx; omega
      | some n0 =>
       simp only [Option.some.injEq] at hn
       obtain ⟨h3, y0, h4, h5, h6⟩ := h.2 n0 rfl
       refine ⟨fun t => ⟨fun ht y hy e => ?_, fun ht => ?_⟩, ?_⟩
       ·rcases List.mem_append.1 hy with hy | hy
        ·exact (h3 t).1 (by omega) y hy e
        ·simp only [List.mem_singleton] at hy; subst hy; omega
       ·have h7 := (h3 t).2 (fun y hy e => ht y (by simp [hy]) e)
        have h8 := ht x (by simp) hx
        omega
       ·by_cases hlt : n0 ≤ x.2
        ·exact ⟨y0, by simp [h4], h5, by omega⟩
        ·exact ⟨x, by simp, hx, by omega⟩
    ·simp only [bst, hx, if_false]
     refine ⟨?_, fun n hn => ?_⟩
     ·rw [h.1]
      constructor
      ·intro g y hy
       rcases List.mem_append.1 hy with hy | hy
       ·exact g y hy
       ·simp only [List.mem_singleton] at hy; subst hy; exact hx
      ·intro g y hy; exact g y (by simp [hy])
     ·obtain ⟨h3, y0, h4, h5, h6⟩ := h.2 n hn
      refine ⟨fun t => ?_, y0, by simp [h4], h5, h6⟩
      rw [h3]
      constructor
      ·intro g y hy e
       rcases List.mem_append.1 hy with hy | hy
       ·exact g y hy e
       ·simp only [List.mem_singleton] at hy; subst hy; exact absurd e hx
      ·intro g y hy e; exact g y (by simp [hy]) e
 have := key M [] none (by simp)
 simpa [best] using this
def gd (f : Fur) (j p : Nat) : Int := match best f.M p with | none => f.lo j p | some n => max (f.lo j p) (f.U j - n)
theorem gd_isField {f : Fur} (hk : f.Ok) (h : f.Sound) : f.IsField f.U f.gd := by
 intro j hj
 refine ⟨h.1 j hj, f.U_le j, fun p => ?_⟩
 have h1 := hk j p
 unfold gd
 cases hb : best f.M p with
 | none => simp only; omega
 | some n =>
  obtain ⟨_, y, h3, h4, h5⟩ := (best_iff f.M p).2 n hb
  have := f.U_lim j h3
  rw [h4] at this
  simp only
  omega
theorem gd_heat {f : Fur} (p : Nat) (t : Int) : t ≤ f.heat f.U f.gd p ↔ f.High p t := by
 unfold heat High
 rw [le_mx_iff]
 cases hb : best f.M p with
 | none =>
  have h1 := (best_iff f.M p).1.1 hb
  simp only [gd, hb]
  constructor
  ·rintro ⟨j, h2, h3⟩
   exact ⟨⟨j, h2, by omega⟩, fun y hy e => absurd e (h1 y hy)⟩
  ·rintro ⟨⟨j, h2, h3⟩, _⟩
   exact ⟨j, h2, by omega⟩
 | some n =>
  obtain ⟨h1, _⟩ := (best_iff f.M p).2 n hb
  simp only [gd, hb]
  rw [← h1]
  constructor
  ·rintro ⟨j, h2, h3⟩
   exact ⟨⟨j, h2, by omega⟩, by omega⟩
  ·rintro ⟨⟨j, h2, h3⟩, h4⟩
   exact ⟨j, h2, by omega⟩
theorem gd_agrees {f : Fur} (h : f.Sound) : f.Agrees f.U f.gd := by
 refine ⟨fun x hx => ?_, fun y hy => ?_⟩
 ·rw [gd_heat]
  obtain ⟨h1, h2⟩ := h.2 x hx
  exact ⟨h2, h1⟩
 ·exact ((gd_heat y.1 _).1 (Int.le_refl _)).2 y hy rfl
def ask (f : Fur) (q : Nat) (a b : Int) : Fur := { f with L := f.L ++ [(q, a)], M := f.M ++ [(q, b)] }
theorem ask_U (f : Fur) (q : Nat) (a b : Int) (j : Nat) : (f.ask q a b).U j = min (f.U j) (b + f.hi j q) := by
 simp [ask, U, List.foldl_append]
theorem ask_sound {f : Fur} (hk : f.Ok) (h : f.Sound) (q : Nat) (t : Int) (h1 : f.Low q t) (h2 : f.High q t) : (f.ask q t t).Sound := by
 refine ⟨fun j hj => ?_, fun x hx => ?_⟩
 ·rw [ask_U]
  have a := h.1 j hj
  have b := h1.1 j hj
  omega
 ·have hx' : x ∈ f.L ∨ x = (q, t) := by simpa [ask] using hx
  rcases hx' with hx | rfl
  ·obtain ⟨g1, g2⟩ := h.2 x hx
   refine ⟨fun y hy e => ?_, ?_⟩
   ·have hy' : y ∈ f.M ∨ y = (q, t) := by simpa [ask] using hy
    rcases hy' with hy | rfl
    ·exact g1 y hy e
    ·exact h1.2.1 x hx e.symm
   ·by_cases hq : x.1 = q
    ·have h3 := h1.2.1 x hx hq
     obtain ⟨⟨j, h4, h5⟩, _⟩ := h2
     refine ⟨j, h4, ?_⟩
     rw [ask_U]
     have := hk j q
     show x.2 + f.lo j x.1 ≤ _
     rw [hq]
     omega
    ·obtain ⟨j, h3, h4, h5⟩ := h1.2.2 x hx hq
     refine ⟨j, h3, ?_⟩
     rw [ask_U]
     show x.2 + f.lo j x.1 ≤ _
     omega
  ·refine ⟨fun y hy e => ?_, ?_⟩
   ·have hy' : y ∈ f.M ∨ y = (q, t) := by simpa [ask] using hy
    rcases hy' with hy | rfl
    ·exact h2.2 y hy e
    ·exact Int.le_refl _
   ·obtain ⟨⟨j, h4, h5⟩, _⟩ := h2
    refine ⟨j, h4, ?_⟩
    rw [ask_U]
    have := hk j q
    show t + f.lo j q ≤ _
    omega
end Fur
end Go.Abs
namespace Go.Abs
set_option linter.unusedVariables false
namespace Fur
def Small (f : Fur) (P : Nat) : Prop := (∀ x ∈ f.L, x.1 < P ∧ -3000 ≤ x.2 ∧ x.2 ≤ 3000) ∧ ∀ x ∈ f.M, x.1 < P ∧ -3000 ≤ x.2 ∧ x.2 ≤ 3000
structure Lims (f : Fur) (P : Nat) (a b : Nat → Int) : Prop where
 hk : f.Ok
 sm : f.Small P
 A : ∀ p t, p < P → (a p ≤ t ↔ -1000000 ≤ t ∧ ∀ x ∈ f.L, x.1 = p → x.2 ≤ t)
 B : ∀ p t, p < P → (t ≤ b p ↔ t ≤ 1000000 ∧ ∀ y ∈ f.M, y.1 = p → t ≤ y.2)
namespace Lims
variable {f : Fur} {P : Nat} {a b : Nat → Int}
theorem b_le (h : Lims f P a b) {p : Nat} (hp : p < P) : b p ≤ 1000000 := ((h.B p _ hp).1 (Int.le_refl _)).1
theorem b_lim (h : Lims f P a b) {y : Nat × Int} (hy : y ∈ f.M) : b y.1 ≤ y.2 := ((h.B y.1 _ (h.sm.2 y hy).1).1 (Int.le_refl _)).2 y hy rfl
theorem b_att (h : Lims f P a b) {p : Nat} (hp : p < P) (hn : b p ≠ 1000000) : ∃ x ∈ f.M, x.1 = p ∧ x.2 = b p := by
 by_cases hc : ∃ x ∈ f.M, x.1 = p ∧ x.2 = b p
 ·exact hc
 ·exfalso
  have h0 := h.b_le hp
  have : b p + 1 ≤ b p := by
   rw [h.B p _ hp]
   refine ⟨by omega, fun x hx e => ?_⟩
   have h1 := h.b_lim hx
   rw [e] at h1
   have h2 : x.2 ≠ b p := fun e2 => hc ⟨x, hx, e, e2⟩
   omega
  omega
theorem U_iff (h : Lims f P a b) (j : Nat) (t : Int) : t ≤ f.U j ↔ t ≤ 3000 ∧ ∀ p, p < P → b p < 1000000 → t ≤ b p + f.hi j p := by
 rw [Fur.U_iff]
 constructor
 ·rintro ⟨h1, h2⟩
  refine ⟨h1, fun p hp hb => ?_⟩
  obtain ⟨y, hy, e, e2⟩ := h.b_att hp (by omega)
  have := h2 y hy
  rw [e, e2] at this
  exact this
 ·rintro ⟨h1, h2⟩
  refine ⟨h1, fun y hy => ?_⟩
  have h3 := h.b_lim hy
  have h4 := h.sm.2 y hy
  have := h2 y.1 h4.1 (by omega)
  omega
end Lims
end Fur
end Go.Abs
namespace Go.Abs
open Go
set_option linter.unusedVariables false
def KK : Nat := 18446744073709551616
theorem KK_big {n : Nat} (h : n ≤ Go.maxLen) : n < KK := by unfold KK; unfold Go.maxLen at h; omega
def Kiln.s (a : Kiln) : Prop := a.Falls.length ≤ Go.maxLen ∧ ∀ x ∈ a.Falls, x.length ≤ Go.maxLen
def Firing.s (f : Firing) : Prop := Kiln.s f.Kiln ∧ f.Readings.length ≤ Go.maxLen
theorem Kiln.q.s {a : Kiln} (q : Kiln.q a) : Kiln.s a := ⟨q.1, fun x hx => (q.2.2 x hx).1⟩
theorem Firing.q.s {f : Firing} (q : Firing.q f) : Firing.s f := ⟨q.1.s, q.2.1⟩
theorem maxLen_le {n : Nat} (h : n ≤ Go.maxLen) : n ≤ 9223372036854775807 := by unfold Go.maxLen at h; omega
theorem sane_KK : L04_sane KK = some true := by unfold KK; decide +kernel
set_option maxRecDepth 10000
def inB (n lo hi : Int) : Bool := decide (lo ≤ n) && decide (n ≤ hi)
theorem heat_in_eq (k : Nat) (n lo hi : Int) : heat_in k n lo hi = some (inB n lo hi) := by
 unfold heat_in inB; cases decide (lo ≤ n) <;> rfl
def rangeB (r : Range) (lo hi : Int) : Bool := decide (lo ≤ r.Lo) && (decide (r.Lo ≤ r.Hi) && decide (r.Hi ≤ hi))
def readB (places : Int) (r : Reading) : Bool :=
 inB r.Source 1 99999 && (inB r.Place 0 (w64 (places - 1)) &&
  (bif decide (r.Kind = (1 : Int)) then (inB r.Mark 1 2000 && (decide (r.Heat.Lo = (0 : Int)) && decide (r.Heat.Hi = (0 : Int))))
  else bif decide (r.Kind = (2 : Int)) then (inB r.Mark 1 2000 && (decide (r.Heat.Lo = (0 : Int)) && decide (r.Heat.Hi = (0 : Int))))
  else bif decide (r.Kind = (3 : Int)) then (decide (r.Mark = (0 : Int)) && rangeB r.Heat 1 2000) else false))
theorem heat_isReading_eq (k : Nat) (places : Int) (r : Reading) : heat_isReading k places r = some (readB places r) := by
 unfold heat_isReading readB rangeB
 simp only [heat_in_eq, Option.bind_some]
 cases inB r.Source 1 99999 <;> cases inB r.Place 0 (w64 (places - 1)) <;> cases decide (r.Kind = (1 : Int)) <;> cases decide (r.Kind = (2 : Int)) <;> cases decide (r.Kind = (3 : Int)) <;> cases inB r.Mark 1 2000 <;> cases decide (r.Mark = (0 : Int)) <;> cases decide ((1 : Int) ≤ r.Heat.Lo) <;> cases decide (r.Heat.Lo ≤ r.Heat.Hi) <;> rfl
theorem findSome_bif {α R : Type} (p : α → Bool) (c : R) : ∀ l : List α, l.findSome? (fun x => bif p x then none else some c) = bif l.all p then none else some c
 | [] => rfl
 | x :: l => by
  rw [List.findSome?_cons, List.all_cons]
  cases h : p x with
  | true => simp [findSome_bif p c l]
  | false => simp
theorem lt_dec {i n : Nat} (h : i < n) : decide ((i : Int) < (n : Int)) = true := by simp; omega
theorem lt_dec_self (n : Nat) : decide ((n : Int) < (n : Int)) = false := by simp
theorem len_dec {α β : Type} (a : List α) (b : List β) : decide ((a.length : Int) = (b.length : Int)) = decide (a.length = b.length) := by
 by_cases h : a.length = b.length
 ·simp [h]
 ·have : ¬ ((a.length : Int) = (b.length : Int)) := by omega
  simp [h, this]
def kilnB (a : Kiln) : Bool := inB a.Falls.length 1 6 && (inB (a.Falls.headD []).length 1 24 && a.Falls.all fun l => decide (l.length = (a.Falls.headD []).length) && l.all fun r => rangeB r 0 3000)
theorem bad_eq (k : Nat) (r : Range) : heat_CheckKiln_1 k r = some (!rangeB r 0 3000) := by
 unfold heat_CheckKiln_1 rangeB
 have h1 : decide (r.Lo < (0 : Int)) = !decide (0 ≤ r.Lo) := by by_cases h : 0 ≤ r.Lo <;> simp [h] <;> omega
 have h2 : decide (r.Hi < r.Lo) = !decide (r.Lo ≤ r.Hi) := by by_cases h : r.Lo ≤ r.Hi <;> simp [h] <;> omega
 have h3 : decide ((3000 : Int) < r.Hi) = !decide (r.Hi ≤ 3000) := by by_cases h : r.Hi ≤ 3000 <;> simp [h] <;> omega
 rw [h1, h2, h3]
 cases decide (0 ≤ r.Lo) <;> cases decide (r.Lo ≤ r.Hi) <;> rfl
theorem contains_Range {l : List Range} (hl : l.length ≤ Go.maxLen) {f : Range → Option Bool} {p : Range → Bool} (hf : ∀ x, f x = some (p x)) : slices_ContainsFunc_api_Range KK l f = some (l.any p) := by
 unfold slices_ContainsFunc_api_Range slices_IndexFunc_api_Range
 rw [indexFunc_gen (body := slices_IndexFunc_api_Range.b0 KK f l) (p := p) (fun x _ => hf x) (maxLen_le hl) (KK_big hl) rfl]
 have : l.any p = (l.findIdx? p).isSome := by rw [List.findIdx?_isSome]
 rw [this]
 cases l.findIdx? p with
 | none => rfl
 | some i => simp
theorem heat_CheckKiln_eq (a : Kiln) (q : Kiln.s a) : heat_CheckKiln KK a = some (bif kilnB a then 0 else 40) := by
 obtain ⟨q1, q2⟩ := q
 unfold heat_CheckKiln kilnB
 simp only [heat_in_eq, Option.bind_some]
 cases h0 : inB (a.Falls.length : Int) 1 6 with
 | false => rfl
 | true =>
  obtain ⟨x3, hx⟩ : ∃ x3, a.Falls[0]? = some x3 := by
   have : 0 < a.Falls.length := by simp [inB] at h0; omega
   exact ⟨_, List.getElem?_eq_getElem this⟩
  have hd : a.Falls.headD [] = x3 := by cases hF : a.Falls with | nil => rw [hF] at hx; cases hx | cons y l => rw [hF] at hx; simpa using hx
  have ha : at? a.Falls 0 = some x3 := by have := at_of hx; simpa using this
  simp only [ha, hd, cond_true, Option.bind_some, Bool.true_and]
  cases h1 : inB (x3.length : Int) 1 24 with
  | false => rfl
  | true =>
   simp only [Bool.not_true, cond_false, Bool.true_and]
   rw [whl_each (l := a.Falls) (f := fun l => bif (decide (l.length = x3.length) && l.all fun r => rangeB r 0 3000) then none else some 40) (maxLen_le q1) (KK_big q1) ?_ ?_]
   ·rw [findSome_bif]
    cases a.Falls.all _ <;> rfl
   ·intro i x hx
    have hi : i < a.Falls.length := (List.getElem?_eq_some_iff.1 hx).1
    unfold heat_CheckKiln.b0
    rw [lt_dec hi, at_of hx]
    simp only [cond_true, Option.bind_some, len_dec]
    rw [contains_Range (q2 x (List.mem_of_getElem? hx)) (fun r => bad_eq KK r)]
    have : (x.any fun r => !rangeB r 0 3000) = !(x.all fun r => rangeB r 0 3000) := by simp [List.all_eq_not_any_not]
    rw [this]
    cases decide (x.length = x3.length) <;> cases (x.all fun r => rangeB r 0 3000) <;> rfl
   ·unfold heat_CheckKiln.b0
    rw [lt_dec_self]; rfl
theorem kilnB_head {a : Kiln} (h : kilnB a = true) : ∃ x3, a.Falls[0]? = some x3 ∧ at? a.Falls 0 = some x3 ∧ a.Falls.headD [] = x3 := by
 have hpos : 0 < a.Falls.length := by simp [kilnB, inB] at h; omega
 obtain ⟨x3, hx⟩ : ∃ x3, a.Falls[0]? = some x3 := ⟨_, List.getElem?_eq_getElem hpos⟩
 exact ⟨x3, hx, by have := at_of hx; simpa using this, by cases hF : a.Falls with | nil => rw [hF] at hx; cases hx | cons y l => rw [hF] at hx; simpa using hx⟩
def firingCode (f : Firing) : Int := bif kilnB f.Kiln then (bif decide ((60 : Int) < (f.Readings.length : Int)) then 2 else bif f.Readings.all (readB ((f.Kiln.Falls.headD []).length : Int)) then 0 else 41) else 40
theorem heat_Check_eq (f : Firing) (q : Firing.s f) : heat_Check KK f = some (firingCode f) := by
 obtain ⟨q1, q2⟩ := q
 unfold heat_Check firingCode
 rw [heat_CheckKiln_eq _ q1]
 cases h : kilnB f.Kiln with
 | false => rfl
 | true =>
  obtain ⟨x3, h1, h2, h3⟩ := kilnB_head h
  simp only [Option.bind_some, cond_true, h3]
  simp only [decide_true, Bool.not_true, cond_false]
  cases decide ((60 : Int) < (f.Readings.length : Int)) with
  | true => rfl
  | false =>
   simp only [cond_false]
   rw [whl_each (l := f.Readings) (f := fun r => bif readB (x3.length : Int) r then none else some 41) (maxLen_le q2) (KK_big q2) ?_ ?_]
   ·rw [findSome_bif]
    have : (f.Readings.all fun r => readB (x3.length : Int) r) = f.Readings.all (readB (x3.length : Int)) := rfl
    rw [this]
    cases f.Readings.all (readB (x3.length : Int)) <;> rfl
   ·intro i r hr
    have hi : i < f.Readings.length := (List.getElem?_eq_some_iff.1 hr).1
    unfold heat_Check.b0
    rw [lt_dec hi, at_of hr]
    simp only [cond_true, Option.bind_some, h2, heat_isReading_eq]
    cases readB (x3.length : Int) r <;> rfl
   ·unfold heat_Check.b0
    rw [lt_dec_self]; rfl
end Go.Abs
namespace Go.Abs
open Go
set_option linter.unusedVariables false
theorem kilnB_small {a : Kiln} (h : kilnB a = true) : a.Falls.length ≤ 6 ∧ (a.Falls.headD []).length ≤ 24 ∧ ∀ x ∈ a.Falls, x.length = (a.Falls.headD []).length := by
 simp only [kilnB, inB, Bool.and_eq_true, decide_eq_true_eq, List.all_eq_true] at h
 obtain ⟨h1, h2, h3⟩ := h
 exact ⟨by omega, by omega, fun x hx => (h3 x hx).1⟩
theorem firing_small {f : Firing} (h : firingCode f = 0) : kilnB f.Kiln = true ∧ f.Readings.length ≤ 60 ∧ ∀ r ∈ f.Readings, readB ((f.Kiln.Falls.headD []).length : Int) r = true := by
 unfold firingCode at h
 cases h1 : kilnB f.Kiln with
 | false => rw [h1] at h; simp at h
 | true =>
  rw [h1] at h
  simp only [cond_true] at h
  by_cases h2 : (60 : Int) < (f.Readings.length : Int)
  ·simp [h2] at h
  ·simp only [h2, decide_false, cond_false] at h
   cases h3 : f.Readings.all (readB ((f.Kiln.Falls.headD []).length : Int)) with
   | false => rw [h3] at h; simp at h
   | true => exact ⟨rfl, by omega, fun r hr => List.all_eq_true.1 h3 r hr⟩
end Go.Abs
namespace Go.Abs
open Go
set_option linter.unusedVariables false
theorem w64_succ {i n : Nat} (h : i < n) (hn : n ≤ 9223372036854775807) : w64 ((i : Int) + 1) = ((i + 1 : Nat) : Int) := by rw [w64_of (by omega) (by omega)]; omega
end Go.Abs
namespace Go.Abs
open Go
set_option linter.unusedVariables false
theorem take_succ_of {α : Type} {l : List α} {i : Nat} {x : α} (h : l[i]? = some x) : l.take (i + 1) = l.take i ++ [x] := by
 rw [List.take_add_one, h]; rfl
end Go.Abs
namespace Go.Abs
open Go
set_option linter.unusedVariables false
end Go.Abs
namespace Go.Abs
open Go
set_option linter.unusedVariables false
end Go.Abs
namespace Go.Abs
open Go
set_option linter.unusedVariables false
def R0 : Range := ⟨0, 0⟩
def Kiln.at (a : Kiln) (j p : Nat) : Range := (a.Falls.getD j []).getD p R0
def Kiln.P (a : Kiln) : Nat := (a.Falls.headD []).length
def lp (x : heat_limit) : Nat × Int := (x.place.toNat, x.heat)
def heat_furnace.fur (x : heat_furnace) : Fur := ⟨x.Firing.Kiln.Falls.length - 1, fun j p => (x.Firing.Kiln.at j p).Lo, fun j p => (x.Firing.Kiln.at j p).Hi, x.least.map lp, x.most.map lp⟩
def limOk (P : Nat) (x : heat_limit) : Prop := 0 ≤ x.place ∧ x.place < P ∧ -3000 ≤ x.heat ∧ x.heat ≤ 3000
structure heat_furnace.ok (x : heat_furnace) : Prop where
 k : kilnB x.Firing.Kiln = true
 ll : x.least.length ≤ 1000
 l : ∀ y ∈ x.least, limOk x.Firing.Kiln.P y
 ml : x.most.length ≤ 1000
 m : ∀ y ∈ x.most, limOk x.Firing.Kiln.P y
theorem kilnB_len {a : Kiln} (h : kilnB a = true) : 1 ≤ a.Falls.length ∧ a.Falls.length ≤ 6 ∧ 1 ≤ a.P ∧ a.P ≤ 24 := by
 simp only [kilnB, inB, Bool.and_eq_true, decide_eq_true_eq] at h
 have : a.P = (a.Falls.headD []).length := rfl
 omega
theorem kilnB_row {a : Kiln} (h : kilnB a = true) {j : Nat} (hj : j < a.Falls.length) : (a.Falls.getD j []).length = a.P := (kilnB_small h).2.2 _ (getD_mem [] hj)
theorem rangeB_iff {r : Range} : rangeB r 0 3000 = true ↔ 0 ≤ r.Lo ∧ r.Lo ≤ r.Hi ∧ r.Hi ≤ 3000 := by
 simp only [rangeB, Bool.and_eq_true, decide_eq_true_eq]
theorem kilnB_at {a : Kiln} (h : kilnB a = true) (j p : Nat) : 0 ≤ (a.at j p).Lo ∧ (a.at j p).Lo ≤ (a.at j p).Hi ∧ (a.at j p).Hi ≤ 3000 := by
 unfold Kiln.at
 by_cases hj : j < a.Falls.length
 ·by_cases hp : p < (a.Falls.getD j []).length
  ·have h1 := getD_mem R0 hp
   have h2 : rangeB ((a.Falls.getD j []).getD p R0) 0 3000 = true := by
    simp only [kilnB, Bool.and_eq_true, List.all_eq_true] at h
    exact (h.2.2 _ (getD_mem [] hj)).2 _ h1
   exact rangeB_iff.1 h2
  ·rw [getD_none (by omega)]
   decide
 ·rw [getD_none (l := a.Falls) (by omega)]
  simp [R0]
theorem at_row {a : Kiln} (h : kilnB a = true) {j : Nat} (hj : j < a.Falls.length) : at? a.Falls (j : Int) = some (a.Falls.getD j []) := at_nat [] hj
theorem at_cell {a : Kiln} (h : kilnB a = true) {j : Nat} (hj : j < a.Falls.length) {p : Int} (h0 : 0 ≤ p) (hp : p < a.P) : at? (a.Falls.getD j []) p = some (a.at j p.toNat) :=
 at_getD R0 h0 (by rw [kilnB_row h hj]; exact hp)
theorem at_cellN {a : Kiln} (h : kilnB a = true) {j : Nat} (hj : j < a.Falls.length) {p : Nat} (hp : p < a.P) : at? (a.Falls.getD j []) (p : Int) = some (a.at j p) :=
 at_nat R0 (by rw [kilnB_row h hj]; exact hp)
theorem fur_ok {x : heat_furnace} (h : x.ok) : x.fur.Ok := fun j p => kilnB_at h.k j p
def hotStep (x : heat_furnace) (j : Nat) (s : Int × Int) (y : heat_limit) : Int × Int := bif decide (y.heat + (x.Firing.Kiln.at j y.place.toNat).Hi < s.1) then (y.heat + (x.Firing.Kiln.at j y.place.toNat).Hi, y.by_) else s
def hot (x : heat_furnace) (j : Nat) : Int × Int := x.most.foldl (hotStep x j) (3000, -1)
theorem heat_hottest_eq {x : heat_furnace} (h : x.ok) {j : Nat} (hj : j < x.Firing.Kiln.Falls.length) : heat_furnace_hottest KK x (j : Int) = some (hot x j) := by
 have hml := h.ml
 unfold heat_furnace_hottest
 have h1 := (whl_fold (l := x.most) (body := heat_furnace_hottest.b0 KK x (j : Int)) (k := KK) (fun i s => (s.1, s.2, i)) (hotStep x j) (fun _ _ => True) (s0 := (3000, -1)) (by omega) (by unfold KK; omega) trivial ?_ ?_).1
 ·rw [h1]; rfl
 ·intro i y s hy _
  have hi : i < x.most.length := (List.getElem?_eq_some_iff.1 hy).1
  obtain ⟨g1, g2, g3, g4⟩ := h.m y (List.mem_of_getElem? hy)
  have g5 := kilnB_at h.k j y.place.toNat
  refine ⟨?_, trivial⟩
  unfold heat_furnace_hottest.b0 hotStep
  simp only [lt_dec hi, at_of hy, cond_true, Option.bind_some, at_row h.k hj, at_cell h.k hj g1 g2]
  rw [w64_of (n := y.heat + (x.Firing.Kiln.at j y.place.toNat).Hi) (by omega) (by omega)]
  cases decide (y.heat + (x.Firing.Kiln.at j y.place.toNat).Hi < s.1) <;> rfl
 ·intro s _
  unfold heat_furnace_hottest.b0
  simp only [lt_dec_self]; rfl
theorem hot_U (x : heat_furnace) (j : Nat) : (hot x j).1 = x.fur.U j := by
 have key : ∀ (l : List heat_limit) (s : Int × Int), (l.foldl (hotStep x j) s).1 = (l.map lp).foldl (fun n y => min n (y.2 + x.fur.hi j y.1)) s.1 := by
  intro l
  induction l with
  | nil => intro s; rfl
  | cons y l ih =>
   intro s
   rw [List.foldl_cons, ih, List.map_cons, List.foldl_cons]
   congr 1
   unfold hotStep
   show _ = min s.1 (y.heat + (x.Firing.Kiln.at j y.place.toNat).Hi)
   by_cases hc : y.heat + (x.Firing.Kiln.at j y.place.toNat).Hi < s.1
   ·simp only [hc, decide_true, cond_true]; omega
   ·simp only [hc, decide_false, cond_false]; omega
 exact key _ _
theorem U_ge {x : heat_furnace} (h : x.ok) (j : Nat) : -3000 ≤ x.fur.U j ∧ x.fur.U j ≤ 3000 := by
 refine ⟨?_, x.fur.U_le j⟩
 rw [Fur.U_iff]
 refine ⟨by omega, fun y hy => ?_⟩
 obtain ⟨z, hz, rfl⟩ := List.mem_map.1 hy
 have := (h.m z hz).2.2
 have := (fur_ok h j (lp z).1)
 show -3000 ≤ z.heat + _
 omega
def bestStep (p : Int) (s : heat_limit × Bool) (y : heat_limit) : heat_limit × Bool := bif decide (y.place = p) then (bif s.2 then (bif decide (y.heat < s.1.heat) then (y, true) else s) else (y, true)) else s
def bestL (l : List heat_limit) (p : Int) : heat_limit × Bool := l.foldl (bestStep p) (⟨0, 0, 0⟩, false)
theorem heat_best_eq (l : List heat_limit) (hl : l.length ≤ 1000) (p : Int) : heat_best KK l p (fun q0 q1 => heat_less KK q0 q1) = some (bestL l p) := by
 unfold heat_best
 have h1 := (whl_fold (l := l) (body := heat_best.b0 KK (fun q0 q1 => heat_less KK q0 q1) l p) (k := KK) (fun i s => (s.1, s.2, i)) (bestStep p) (fun _ _ => True) (s0 := (⟨0, 0, 0⟩, false)) (by omega) (by unfold KK; omega) trivial ?_ ?_).1
 ·rw [h1]; rfl
 ·intro i y s hy _
  have hi : i < l.length := (List.getElem?_eq_some_iff.1 hy).1
  refine ⟨?_, trivial⟩
  unfold heat_best.b0 bestStep heat_less
  obtain ⟨s1, s2⟩ := s
  simp only [lt_dec hi, at_of hy, cond_true, Option.bind_some]
  cases decide (y.place = p) <;> cases s2 <;> cases decide (y.heat < s1.heat) <;> rfl
 ·intro s _
  unfold heat_best.b0
  simp only [lt_dec_self]; rfl
theorem bestL_some (l : List heat_limit) (p : Nat) (hl : ∀ y ∈ l, 0 ≤ y.place) : Fur.best (l.map lp) p = bif (bestL l p).2 then some (bestL l p).1.heat else none := by
 have key : ∀ (l : List heat_limit) (s : heat_limit × Bool), (∀ y ∈ l, 0 ≤ y.place) → (l.map lp).foldl (Fur.bst p) (bif s.2 then some s.1.heat else none) = bif (l.foldl (bestStep p) s).2 then some (l.foldl (bestStep p) s).1.heat else none := by
  intro l
  induction l with
  | nil => intro s _; rfl
  | cons y l ih =>
   intro s hl
   rw [List.map_cons, List.foldl_cons, List.foldl_cons, ← ih _ (fun z hz => hl z (List.mem_cons_of_mem _ hz))]
   congr 1
   have h0 := hl y (by simp)
   unfold bestStep Fur.bst
   obtain ⟨s1, s2⟩ := s
   by_cases hp : y.place = (p : Int)
   ·have hp2 : (lp y).1 = p := by show y.place.toNat = p; omega
    simp only [hp, hp2, decide_true, cond_true, if_true]
    cases s2 with
    | false => rfl
    | true =>
     simp only [cond_true]
     by_cases hc : y.heat < s1.heat
     ·simp only [hc, decide_true, cond_true, Option.some.injEq]
      show min s1.heat y.heat = y.heat
      omega
     ·simp only [hc, decide_false, cond_false, cond_true, Option.some.injEq]
      show min s1.heat y.heat = s1.heat
      omega
   ·have hp2 : ¬ (lp y).1 = p := by show ¬ y.place.toNat = p; omega
    simp only [hp, hp2, decide_false, cond_false, if_false]
 exact key l (⟨0, 0, 0⟩, false) hl
theorem bestL_mem (l : List heat_limit) (p : Int) : (bestL l p).2 = true → (bestL l p).1 ∈ l ∧ (bestL l p).1.place = p := by
 have key : ∀ (l K : List heat_limit) (s : heat_limit × Bool), (s.2 = true → s.1 ∈ K ∧ s.1.place = p) → (l.foldl (bestStep p) s).2 = true → (l.foldl (bestStep p) s).1 ∈ K ++ l ∧ (l.foldl (bestStep p) s).1.place = p := by
  intro l
  induction l with
  | nil => intro K s h; simpa using h
  | cons y l ih =>
   intro K s h
   have h2 := ih (K ++ [y]) (bestStep p s y) ?_
   ·simpa using h2
   ·unfold bestStep
    by_cases hp : y.place = p
    ·simp only [hp, decide_true, cond_true]
     cases hs : s.2 with
     | false => simp [hp]
     | true =>
      have := h hs
      cases decide (y.heat < s.1.heat) with
      | true => simp [hp]
      | false => simp only [cond_true, cond_false]; intro _; exact ⟨by simp [this.1], this.2⟩
    ·simp only [hp, decide_false, cond_false]
     intro hs
     have := h hs
     exact ⟨by simp [this.1], this.2⟩
 have := key l [] (⟨0, 0, 0⟩, false) (by simp)
 simpa [bestL] using this
def reachB (x : heat_furnace) (p : Nat) (n : Int) : Bool := (List.range x.Firing.Kiln.Falls.length).any fun j => !decide (x.fur.U j < 0) && !decide (x.fur.U j - x.fur.lo j p < n)
theorem heat_reaches_eq {x : heat_furnace} (h : x.ok) {p n : Int} (h0 : 0 ≤ p) (hp : p < x.Firing.Kiln.P) : heat_furnace_reaches KK x p n = some (reachB x p.toNat n) := by
 have hk := kilnB_len h.k
 unfold heat_furnace_reaches
 rw [whl_allN (n := x.Firing.Kiln.Falls.length) (p := fun j => !(!decide (x.fur.U j < 0) && !decide (x.fur.U j - x.fur.lo j p.toNat < n))) (c := true) (by omega) (by unfold KK; omega) ?_ ?_]
 ·have : ((List.range x.Firing.Kiln.Falls.length).all fun j => !(!decide (x.fur.U j < 0) && !decide (x.fur.U j - x.fur.lo j p.toNat < n))) = !reachB x p.toNat n := by
   unfold reachB; rw [List.not_any_eq_all_not]
  rw [this]
  cases reachB x p.toNat n <;> rfl
 ·intro j hj
  unfold heat_furnace_reaches.b0
  have hu := U_ge h j
  have hc := kilnB_at h.k j p.toNat
  have hlo : x.fur.lo j p.toNat = (x.Firing.Kiln.at j p.toNat).Lo := rfl
  simp only [lt_dec hj, cond_true, heat_hottest_eq h hj, Option.bind_some, hot_U, at_row h.k hj, at_cell h.k hj h0 hp]
  rw [w64_of (n := x.fur.U j - (x.Firing.Kiln.at j p.toNat).Lo) (by omega) (by omega), hlo]
  cases decide (x.fur.U j < 0) <;> cases decide (x.fur.U j - (x.Firing.Kiln.at j p.toNat).Lo < n) <;> rfl
 ·unfold heat_furnace_reaches.b0
  rw [lt_dec_self]; rfl
theorem reachB_iff {x : heat_furnace} (h : x.ok) (hu : ∀ j, j ≤ x.fur.m → 0 ≤ x.fur.U j) (p : Nat) (n : Int) : reachB x p n = true ↔ ∃ j, j ≤ x.fur.m ∧ n + x.fur.lo j p ≤ x.fur.U j := by
 have hk := kilnB_len h.k
 have hm : x.fur.m = x.Firing.Kiln.Falls.length - 1 := rfl
 unfold reachB
 rw [List.any_eq_true]
 constructor
 ·rintro ⟨j, h1, h2⟩
  simp only [List.mem_range] at h1
  simp only [Bool.and_eq_true, Bool.not_eq_true', decide_eq_false_iff_not] at h2
  exact ⟨j, by omega, by omega⟩
 ·rintro ⟨j, h1, h2⟩
  have := hu j h1
  refine ⟨j, by simp only [List.mem_range]; omega, ?_⟩
  simp only [Bool.and_eq_true, Bool.not_eq_true', decide_eq_false_iff_not]
  omega
def soundB (x : heat_furnace) : Bool := ((List.range x.Firing.Kiln.Falls.length).all fun j => !decide (x.fur.U j < 0)) &&
 x.least.all fun y => !((bestL x.most y.place).2 && decide ((bestL x.most y.place).1.heat < y.heat)) && reachB x y.place.toNat y.heat
theorem heat_sound_eq {x : heat_furnace} (h : x.ok) : heat_furnace_sound KK x = some (soundB x) := by
 have hk := kilnB_len h.k
 have hll := h.ll
 unfold heat_furnace_sound soundB
 rw [whl_allN (n := x.Firing.Kiln.Falls.length) (p := fun j => !decide (x.fur.U j < 0)) (c := false) (by omega) (by unfold KK; omega) ?_ ?_]
 ·cases ((List.range x.Firing.Kiln.Falls.length).all fun j => !decide (x.fur.U j < 0)) with
  | false => rfl
  | true =>
   simp only [cond_true, Option.bind_some, Bool.true_and]
   rw [whl_allL (l := x.least) (p := fun y => !((bestL x.most y.place).2 && decide ((bestL x.most y.place).1.heat < y.heat)) && reachB x y.place.toNat y.heat) (c := false) (by omega) (by unfold KK; omega) ?_ ?_]
   ·cases x.least.all fun y => !((bestL x.most y.place).2 && decide ((bestL x.most y.place).1.heat < y.heat)) && reachB x y.place.toNat y.heat <;> rfl
   ·intro i y hy
    have hi : i < x.least.length := (List.getElem?_eq_some_iff.1 hy).1
    obtain ⟨g1, g2, g3, g4⟩ := h.l y (List.mem_of_getElem? hy)
    unfold heat_furnace_sound.b1
    simp only [lt_dec hi, at_of hy, cond_true, Option.bind_some, heat_best_eq _ h.ml, heat_reaches_eq h g1 g2]
    cases (bestL x.most y.place).2 <;> cases decide ((bestL x.most y.place).1.heat < y.heat) <;> cases reachB x y.place.toNat y.heat <;> rfl
   ·unfold heat_furnace_sound.b1
    rw [lt_dec_self]; rfl
 ·intro j hj
  unfold heat_furnace_sound.b0
  simp only [lt_dec hj, cond_true, heat_hottest_eq h hj, Option.bind_some, hot_U]
  cases decide (x.fur.U j < 0) <;> rfl
 ·unfold heat_furnace_sound.b0
  rw [lt_dec_self]; rfl
theorem soundB_iff {x : heat_furnace} (h : x.ok) : soundB x = true ↔ x.fur.Sound := by
 have hk := kilnB_len h.k
 have hm : x.fur.m = x.Firing.Kiln.Falls.length - 1 := rfl
 have h1 : (((List.range x.Firing.Kiln.Falls.length).all fun j => !decide (x.fur.U j < 0)) = true) ↔ ∀ j, j ≤ x.fur.m → 0 ≤ x.fur.U j := by
  rw [List.all_eq_true]
  constructor
  ·intro g j hj
   have := g j (by simp only [List.mem_range]; omega)
   simp only [Bool.not_eq_true', decide_eq_false_iff_not] at this
   omega
  ·intro g j hj
   simp only [List.mem_range] at hj
   have := g j (by omega)
   simp only [Bool.not_eq_true', decide_eq_false_iff_not]
   omega
 unfold soundB Fur.Sound
 rw [Bool.and_eq_true, h1]
 constructor
 ·rintro ⟨g1, g2⟩
  refine ⟨g1, fun z hz => ?_⟩
  obtain ⟨y, hy, rfl⟩ := List.mem_map.1 hz
  have g3 := List.all_eq_true.1 g2 y hy
  rw [Bool.and_eq_true, reachB_iff h g1] at g3
  refine ⟨fun z hz e => ?_, g3.2⟩
  obtain ⟨w, hw, rfl⟩ := List.mem_map.1 hz
  have hp := h.l y hy
  have hb := bestL_some x.most y.place.toNat (fun y hy => (h.m y hy).1)
  have ey : ((y.place.toNat : Nat) : Int) = y.place := by have := hp.1; omega
  rw [ey] at hb
  cases hs : (bestL x.most y.place).2 with
  | false =>
   rw [hs] at hb
   exact absurd e ((Fur.best_iff _ _).1.1 hb (lp w) (List.mem_map.2 ⟨w, hw, rfl⟩))
  | true =>
   rw [hs] at hb
   have g4 := (((Fur.best_iff _ _).2 _ hb).1 _).1 (Int.le_refl _) (lp w) (List.mem_map.2 ⟨w, hw, rfl⟩) e
   have g5 := g3.1
   simp only [hs, Bool.true_and, Bool.not_eq_true', decide_eq_false_iff_not] at g5
   show y.heat ≤ _
   omega
 ·rintro ⟨g1, g2⟩
  refine ⟨g1, List.all_eq_true.2 fun y hy => ?_⟩
  have g3 := g2 (lp y) (List.mem_map.2 ⟨y, hy, rfl⟩)
  rw [Bool.and_eq_true, reachB_iff h g1]
  refine ⟨?_, g3.2⟩
  cases hs : (bestL x.most y.place).2 with
  | false => rfl
  | true =>
   have g4 := bestL_mem _ _ hs
   have g5 := g3.1 (lp (bestL x.most y.place).1) (List.mem_map.2 ⟨_, g4.1, rfl⟩) (by show (bestL x.most y.place).1.place.toNat = y.place.toNat; rw [g4.2])
   have g6 : y.heat ≤ (bestL x.most y.place).1.heat := g5
   simp only [Bool.true_and, Bool.not_eq_true', decide_eq_false_iff_not]
   omega
def gField (x : heat_furnace) : Field := ⟨(List.range x.Firing.Kiln.Falls.length).map x.fur.U, (List.range x.Firing.Kiln.Falls.length).map fun j => (List.range x.Firing.Kiln.P).map fun p => x.fur.gd j p⟩
theorem heat_greatest_eq {x : heat_furnace} (h : x.ok) : heat_furnace_greatest KK x = some (gField x) := by
 have hk := kilnB_len h.k
 unfold heat_furnace_greatest
 have h1 := (whl_foldN (n := x.Firing.Kiln.Falls.length) (body := heat_furnace_greatest.b0 KK x) (k := KK) (fun i (s : List Int × List (List Int)) => (i, s.1, s.2)) (fun s j => (s.1 ++ [x.fur.U j], s.2 ++ [(List.range x.Firing.Kiln.P).map fun p => x.fur.gd j p])) (fun i s => s.1.length = i ∧ s.2.length = i) (s0 := ([], [])) (by omega) (by unfold KK; omega) ⟨rfl, rfl⟩ ?_ ?_).1
 ·rw [h1]
  have : ∀ (l : List Nat) (s : List Int × List (List Int)), l.foldl (fun s j => (s.1 ++ [x.fur.U j], s.2 ++ [(List.range x.Firing.Kiln.P).map fun p => x.fur.gd j p])) s = (s.1 ++ l.map x.fur.U, s.2 ++ l.map fun j => (List.range x.Firing.Kiln.P).map fun p => x.fur.gd j p) := by
   intro l
   induction l with
   | nil => simp
   | cons j l ih => intro s; rw [List.foldl_cons, ih]; simp
  rw [this]; rfl
 ·intro j s hj hI
  refine ⟨?_, by simp [hI.1], by simp [hI.2]⟩
  unfold heat_furnace_greatest.b0
  have hr := kilnB_row h.k hj
  have hu := U_ge h j
  simp only [lt_dec hj, cond_true, at_row h.k hj, Option.bind_some, heat_hottest_eq h hj]
  rw [push_of (by omega) (by omega)]
  simp only [Option.bind_some, hot_U]
  have h2 := (whl_foldN (n := (x.Firing.Kiln.Falls.getD j []).length) (body := heat_furnace_greatest.b1 KK x (x.Firing.Kiln.Falls.getD j []) (hot x j)) (k := KK) (fun i s => (i, s)) (fun s p => s ++ [x.fur.gd j p]) (fun i s => s.length = i) (s0 := []) (by omega) (by unfold KK; omega) rfl ?_ ?_).1
  ·rw [h2, foldl_pushN, hr]
   simp only [Option.bind_some, List.nil_append]
   rw [push_of (by omega) (by omega)]
   rfl
  ·intro p t hp hI2
   refine ⟨?_, by simp [hI2]⟩
   unfold heat_furnace_greatest.b1
   have hc := kilnB_at h.k j p
   simp only [lt_dec hp, cond_true, at_cellN h.k hj (show p < x.Firing.Kiln.P by omega), Option.bind_some, heat_best_eq _ h.ml, hot_U]
   have hb := bestL_some x.most p (fun y hy => (h.m y hy).1)
   have hgd : x.fur.gd j p = match Fur.best (x.most.map lp) p with | none => (x.Firing.Kiln.at j p).Lo | some n => max (x.Firing.Kiln.at j p).Lo (x.fur.U j - n) := rfl
   cases hs : (bestL x.most (p : Int)).2 with
   | false =>
    rw [hs] at hb
    rw [hgd, hb]
    simp only [cond_false]
    rw [push_of (by omega) (by omega)]
    rfl
   | true =>
    rw [hs] at hb
    have hm := h.m _ (bestL_mem _ _ hs).1
    have hm2 := hm.2.2
    rw [hgd, hb]
    simp only [cond_true]
    rw [w64_of (n := x.fur.U j - (bestL x.most (p : Int)).1.heat) (by omega) (by omega), push_of (by omega) (by omega)]
    rfl
  ·intro t _
   unfold heat_furnace_greatest.b1
   simp only [lt_dec_self]; rfl
 ·intro s _
  unfold heat_furnace_greatest.b0
  simp only [lt_dec_self]; rfl
end Go.Abs
namespace Go.Abs
open Go
set_option linter.unusedVariables false
def rd0 : Reading := ⟨0, 0, 0, 0, ⟨0, 0⟩⟩
def lo? (r : Reading) : Option Int := bif decide (r.Kind = (1 : Int)) then some r.Mark else bif decide (r.Kind = (3 : Int)) then some r.Heat.Lo else none
def hi? (r : Reading) : Option Int := bif decide (r.Kind = (2 : Int)) then some (w64 (r.Mark - 1)) else bif decide (r.Kind = (3 : Int)) then some r.Heat.Hi else none
def limOf (l : List Reading) (g : Reading → Option Int) (i : Nat) : Option heat_limit := (g (l.getD i rd0)).map fun n => ⟨(l.getD i rd0).Place, n, i⟩
def limsOf (l : List Reading) (g : Reading → Option Int) : List heat_limit := (List.range l.length).filterMap (limOf l g)
def nf (f : Firing) : heat_furnace := ⟨f, limsOf f.Readings lo?, limsOf f.Readings hi?⟩
theorem limsOf_mem {l : List Reading} {g : Reading → Option Int} {y : heat_limit} : y ∈ limsOf l g ↔ ∃ (i : Nat) (r : Reading), l[i]? = some r ∧ g r = some y.heat ∧ y.place = r.Place ∧ y.by_ = (i : Int) := by
 unfold limsOf
 rw [List.mem_filterMap]
 constructor
 ·rintro ⟨i, hi, h⟩
  simp only [List.mem_range] at hi
  have hx : l[i]? = some l[i] := List.getElem?_eq_getElem hi
  unfold limOf at h
  rw [getD_of rd0 hx] at h
  cases hg : g l[i] with
  | none => rw [hg] at h; cases h
  | some n => rw [hg] at h; cases h; exact ⟨i, l[i], hx, hg, rfl, rfl⟩
 ·rintro ⟨i, r, hx, h1, h2, h3⟩
  refine ⟨i, by simp only [List.mem_range]; exact (List.getElem?_eq_some_iff.1 hx).1, ?_⟩
  unfold limOf
  rw [getD_of rd0 hx, h1, Option.map_some, ← h2, ← h3]
theorem limsOf_lp {l : List Reading} {g : Reading → Option Int} {z : Nat × Int} : z ∈ (limsOf l g).map lp ↔ ∃ r ∈ l, g r = some z.2 ∧ r.Place.toNat = z.1 := by
 rw [List.mem_map]
 constructor
 ·rintro ⟨y, hy, rfl⟩
  obtain ⟨i, r, h1, h2, h3, _⟩ := limsOf_mem.1 hy
  exact ⟨r, List.mem_of_getElem? h1, h2, by show _ = y.place.toNat; rw [h3]⟩
 ·rintro ⟨r, hr, h1, h2⟩
  obtain ⟨i, hi⟩ := List.getElem?_of_mem hr
  refine ⟨⟨r.Place, z.2, (i : Int)⟩, limsOf_mem.2 ⟨i, r, hi, h1, rfl, rfl⟩, ?_⟩
  show (r.Place.toNat, z.2) = z
  rw [h2]
theorem limsOf_len (l : List Reading) (g : Reading → Option Int) : (limsOf l g).length ≤ l.length := by
 have := List.length_filterMap_le (limOf l g) (List.range l.length)
 simpa [limsOf] using this
theorem limsOf_bounds {l : List Reading} {g : Reading → Option Int} {y : heat_limit} (h : y ∈ limsOf l g) : ∃ r ∈ l, g r = some y.heat ∧ y.place = r.Place := by
 obtain ⟨i, r, h1, h2, h3, _⟩ := limsOf_mem.1 h
 exact ⟨r, List.mem_of_getElem? h1, h2, h3⟩
theorem heat_least_eq (r : Reading) : heat_reading_least KK ⟨r⟩ = some ((lo? r).getD 0, (lo? r).isSome) := by
 unfold heat_reading_least lo?
 cases decide (r.Kind = (1 : Int)) <;> cases decide (r.Kind = (3 : Int)) <;> rfl
theorem heat_most_eq (r : Reading) : heat_reading_most KK ⟨r⟩ = some ((hi? r).getD 0, (hi? r).isSome) := by
 unfold heat_reading_most hi?
 cases decide (r.Kind = (2 : Int)) <;> cases decide (r.Kind = (3 : Int)) <;> rfl
def nfStep (l : List Reading) (s : List heat_limit × List heat_limit) (i : Nat) : List heat_limit × List heat_limit :=
 (s.1 ++ (limOf l lo? i).toList, s.2 ++ (limOf l hi? i).toList)
theorem nf_fold (l : List Reading) : ∀ (m : List Nat) (s : List heat_limit × List heat_limit), m.foldl (nfStep l) s = (s.1 ++ m.filterMap (limOf l lo?), s.2 ++ m.filterMap (limOf l hi?)) := by
 intro m
 induction m with
 | nil => intro s; simp
 | cons i m ih =>
  intro s
  rw [List.foldl_cons, ih, List.filterMap_cons, List.filterMap_cons]
  unfold nfStep
  cases limOf l lo? i <;> cases limOf l hi? i <;> simp
theorem heat_newFurnace_eq (f : Firing) (hl : f.Readings.length * 24 + 24 ≤ 140737488355328) : heat_newFurnace KK f = some (nf f) := by
 unfold heat_newFurnace
 have h1 := (whl_foldN (n := f.Readings.length) (body := heat_newFurnace.b0 KK f) (k := KK) (fun i (s : List heat_limit × List heat_limit) => (i, s.1, s.2)) (nfStep f.Readings) (fun i s => s.1.length ≤ i ∧ s.2.length ≤ i) (s0 := ([], [])) (by omega) (by unfold KK; omega) ⟨by simp, by simp⟩ ?_ ?_).1
 ·rw [h1, nf_fold]; rfl
 ·intro i s hi hI
  have hx : f.Readings[i]? = some f.Readings[i] := List.getElem?_eq_getElem hi
  have e1 : limOf f.Readings lo? i = (lo? f.Readings[i]).map fun n => ⟨f.Readings[i].Place, n, i⟩ := by unfold limOf; rw [getD_of rd0 hx]
  have e2 : limOf f.Readings hi? i = (hi? f.Readings[i]).map fun n => ⟨f.Readings[i].Place, n, i⟩ := by unfold limOf; rw [getD_of rd0 hx]
  obtain ⟨s1, s2⟩ := s
  simp only at hI
  refine ⟨?_, ?_⟩
  ·unfold heat_newFurnace.b0 nfStep
   rw [e1, e2]
   simp only [lt_dec hi, cond_true, at_of hx, Option.bind_some, heat_least_eq, heat_most_eq]
   cases h1 : lo? f.Readings[i] with
   | none =>
    cases h2 : hi? f.Readings[i] with
    | none => simp
    | some n2 =>
     simp only [Option.isSome_none, Option.isSome_some, cond_true, cond_false, Option.getD_some, Option.map_none, Option.map_some, Option.toList_none, Option.toList_some, List.append_nil]
     rw [push_of (by omega) (by omega)]; rfl
   | some n1 =>
    simp only [Option.isSome_some, cond_true, Option.getD_some]
    rw [push_of (by omega) (by omega)]
    cases h2 : hi? f.Readings[i] with
    | none => simp
    | some n2 =>
     simp only [Option.bind_some, Option.isSome_some, cond_true, Option.getD_some, Option.map_some, Option.toList_some]
     rw [push_of (by omega) (by omega)]; rfl
  ·unfold nfStep
   simp only [List.length_append]
   have : ∀ o : Option heat_limit, o.toList.length ≤ 1 := fun o => by cases o <;> simp
   have t1 := this (limOf f.Readings lo? i)
   have t2 := this (limOf f.Readings hi? i)
   exact ⟨by omega, by omega⟩
 ·intro s _
  unfold heat_newFurnace.b0
  simp only [lt_dec_self]; rfl
def rdOk (P : Nat) (r : Reading) : Prop := 0 ≤ r.Place ∧ r.Place < P ∧ (r.Kind = 1 ∨ r.Kind = 2 ∨ r.Kind = 3) ∧ (∀ n, lo? r = some n → -3000 ≤ n ∧ n ≤ 3000) ∧ ∀ n, hi? r = some n → -3000 ≤ n ∧ n ≤ 3000
structure Firing.ok (f : Firing) : Prop where
 k : kilnB f.Kiln = true
 l : f.Readings.length ≤ 100
 r : ∀ r ∈ f.Readings, rdOk f.Kiln.P r
theorem readB_ok {P : Nat} (hP : 1 ≤ P ∧ P ≤ 24) {r : Reading} (h : readB (P : Int) r = true) : rdOk P r := by
 unfold readB at h
 simp only [Bool.and_eq_true] at h
 obtain ⟨h1, h2, h3⟩ := h
 simp only [inB, Bool.and_eq_true, decide_eq_true_eq] at h2
 rw [w64_of (by omega) (by omega)] at h2
 refine ⟨by omega, by omega, ?_⟩
 unfold lo? hi?
 by_cases k1 : r.Kind = 1
 ·simp only [k1, decide_true, cond_true, Bool.and_eq_true, inB, decide_eq_true_eq] at h3
  refine ⟨.inl k1, fun n hn => ?_, fun n hn => ?_⟩
  ·simp only [k1, decide_true, cond_true, Option.some.injEq] at hn; omega
  ·simp [k1] at hn
 ·by_cases k2 : r.Kind = 2
  ·simp only [k2, decide_true, cond_true, cond_false, Bool.and_eq_true, inB, decide_eq_true_eq] at h3
   refine ⟨.inr (.inl k2), fun n hn => ?_, fun n hn => ?_⟩
   ·simp [k2] at hn
   ·simp only [k2, decide_true, cond_true, Option.some.injEq] at hn
    simp only [show decide ((2 : Int) = 1) = false by decide, cond_false, Bool.and_eq_true, decide_eq_true_eq] at h3
    rw [w64_of (by omega) (by omega)] at hn; omega
  ·by_cases k3 : r.Kind = 3
   ·simp only [k1, k2, k3, show decide ((3 : Int) = 1) = false by decide, show decide ((3 : Int) = 2) = false by decide, decide_true, cond_true, cond_false, Bool.and_eq_true, rangeB, decide_eq_true_eq] at h3
    refine ⟨.inr (.inr k3), fun n hn => ?_, fun n hn => ?_⟩
    ·simp only [k3, show decide ((3 : Int) = 1) = false by decide, decide_true, cond_true, cond_false, Option.some.injEq] at hn; omega
    ·simp only [k3, show decide ((3 : Int) = 2) = false by decide, decide_true, cond_true, cond_false, Option.some.injEq] at hn; omega
   ·simp [k1, k2, k3] at h3
theorem firing_ok {f : Firing} (h : firingCode f = 0) : f.ok := by
 obtain ⟨h1, h2, h3⟩ := firing_small h
 have hk := kilnB_len h1
 exact ⟨h1, by omega, fun r hr => readB_ok ⟨hk.2.2.1, hk.2.2.2⟩ (h3 r hr)⟩
theorem nf_ok {f : Firing} (h : f.ok) : (nf f).ok := by
 have h2 := h.l
 have a := limsOf_len f.Readings lo?
 have b := limsOf_len f.Readings hi?
 refine ⟨h.k, by show (limsOf f.Readings lo?).length ≤ 1000; omega, fun y hy => ?_, by show (limsOf f.Readings hi?).length ≤ 1000; omega, fun y hy => ?_⟩
 ·obtain ⟨r, hr, h3, h4⟩ := limsOf_bounds hy
  obtain ⟨g1, g2, g3, g4, g5⟩ := h.r r hr
  have := g4 _ h3
  refine ⟨by omega, ?_, this⟩
  rw [h4]; exact g2
 ·obtain ⟨r, hr, h3, h4⟩ := limsOf_bounds hy
  obtain ⟨g1, g2, g3, g4, g5⟩ := h.r r hr
  have := g5 _ h3
  refine ⟨by omega, ?_, this⟩
  rw [h4]; exact g2
theorem fur_small {x : heat_furnace} (h : x.ok) : x.fur.Small x.Firing.Kiln.P := by
 constructor
 ·intro z hz
  obtain ⟨y, hy, rfl⟩ := List.mem_map.1 hz
  obtain ⟨g1, g2, g3, g4⟩ := h.l y hy
  exact ⟨by show y.place.toNat < _; omega, g3, g4⟩
 ·intro z hz
  obtain ⟨y, hy, rfl⟩ := List.mem_map.1 hz
  obtain ⟨g1, g2, g3, g4⟩ := h.m y hy
  exact ⟨by show y.place.toNat < _; omega, g3, g4⟩
end Go.Abs
namespace Go.Abs
open Go
set_option linter.unusedVariables false
theorem at_mapR {α : Type} (g : Nat → α) {n j : Nat} (h : j < n) : at? ((List.range n).map g) (j : Int) = some (g j) := by
 apply at_of
 rw [List.getElem?_map, List.getElem?_range h]; rfl
end Go.Abs
namespace Go.Abs
open Go
set_option linter.unusedVariables false
def shownP (x : heat_furnace) (y : heat_limit) (q : Nat) (n : Int) : Prop :=
 (∃ j, j < x.Firing.Kiln.Falls.length ∧ y.heat + x.fur.lo j y.place.toNat ≤ x.fur.U j) ∧ ∀ t, n ≤ t ↔ ∃ j, j < x.Firing.Kiln.Falls.length ∧ y.heat + x.fur.lo j y.place.toNat ≤ x.fur.U j ∧ y.heat + x.fur.lo j y.place.toNat - x.fur.hi j q ≤ t
theorem heat_shownLow_eq {x : heat_furnace} (h : x.ok) {y : heat_limit} (hy : limOk x.Firing.Kiln.P y) {q : Nat} (hq : q < x.Firing.Kiln.P) :
  ∃ r, heat_furnace_shownLow KK x y (q : Int) = some r ∧ (r.2 = true ↔ ∃ j, j < x.Firing.Kiln.Falls.length ∧ y.heat + x.fur.lo j y.place.toNat ≤ x.fur.U j) ∧ (r.2 = true → shownP x y q r.1) := by
 have hk := kilnB_len h.k
 obtain ⟨y1, y2, y3, y4⟩ := hy
 unfold heat_furnace_shownLow
 obtain ⟨h1, h2⟩ := whl_foldN (n := x.Firing.Kiln.Falls.length) (body := heat_furnace_shownLow.b0 KK x y (q : Int)) (k := KK) (fun i (s : Int × Bool) => (s.1, s.2, i))
  (fun s j => bif decide (y.heat + x.fur.lo j y.place.toNat ≤ x.fur.U j) then (bif s.2 then (bif decide (y.heat + x.fur.lo j y.place.toNat - x.fur.hi j q < s.1) then (y.heat + x.fur.lo j y.place.toNat - x.fur.hi j q, true) else s) else (y.heat + x.fur.lo j y.place.toNat - x.fur.hi j q, true)) else s)
  (fun i s => (s.2 = true ↔ ∃ j, j < i ∧ y.heat + x.fur.lo j y.place.toNat ≤ x.fur.U j) ∧ (s.2 = true → ∀ t, s.1 ≤ t ↔ ∃ j, j < i ∧ y.heat + x.fur.lo j y.place.toNat ≤ x.fur.U j ∧ y.heat + x.fur.lo j y.place.toNat - x.fur.hi j q ≤ t)) (s0 := (0, false)) (by omega) (by unfold KK; omega) ⟨by simp, by simp⟩ (fun j s hj hI => by
   have g1 := kilnB_at h.k j q
   have g2 := kilnB_at h.k j y.place.toNat
   have g3 : x.fur.hi j q = (x.Firing.Kiln.at j q).Hi := rfl
   have g4 : x.fur.lo j y.place.toNat = (x.Firing.Kiln.at j y.place.toNat).Lo := rfl
   obtain ⟨s1, s2⟩ := s
   obtain ⟨I1, I2⟩ := hI
   simp only at I1 I2
   refine ⟨?_, ?_⟩
   ·unfold heat_furnace_shownLow.b0
    simp only [lt_dec hj, cond_true, at_row h.k hj, at_cell h.k hj y1 y2, at_cellN h.k hj hq, heat_hottest_eq h hj, hot_U, Option.bind_some, g3, g4]
    rw [w64_of (n := y.heat + (x.Firing.Kiln.at j y.place.toNat).Lo) (by omega) (by omega), w64_of (n := y.heat + (x.Firing.Kiln.at j y.place.toNat).Lo - (x.Firing.Kiln.at j q).Hi) (by omega) (by omega)]
    cases decide (y.heat + (x.Firing.Kiln.at j y.place.toNat).Lo ≤ x.fur.U j) <;> cases s2 <;> cases decide (y.heat + (x.Firing.Kiln.at j y.place.toNat).Lo - (x.Firing.Kiln.at j q).Hi < s1) <;> rfl
   ·by_cases hc : y.heat + x.fur.lo j y.place.toNat ≤ x.fur.U j
    ·simp only [hc, decide_true, cond_true]
     cases s2 with
     | false =>
      simp only [cond_false]
      refine ⟨⟨fun _ => ⟨j, by omega, hc⟩, fun _ => trivial⟩, fun _ t => ⟨fun k => ⟨j, by omega, hc, k⟩, ?_⟩⟩
      rintro ⟨i, k1, k2, k3⟩
      by_cases hij : i = j
      ·subst hij; exact k3
      ·have := I1.2 ⟨i, by omega, k2⟩; cases this
     | true =>
      have I3 := I2 rfl
      simp only [cond_true]
      by_cases hd : y.heat + x.fur.lo j y.place.toNat - x.fur.hi j q < s1
      ·simp only [hd, decide_true, cond_true]
       refine ⟨⟨fun _ => ⟨j, by omega, hc⟩, fun _ => trivial⟩, fun _ t => ⟨fun k => ⟨j, by omega, hc, k⟩, ?_⟩⟩
       rintro ⟨i, k1, k2, k3⟩
       by_cases hij : i = j
       ·subst hij; exact k3
       ·have := (I3 t).2 ⟨i, by omega, k2, k3⟩
        omega
      ·simp only [hd, decide_false, cond_false]
       refine ⟨⟨fun _ => ⟨j, by omega, hc⟩, fun _ => trivial⟩, fun _ t => ⟨fun k => ?_, ?_⟩⟩
       ·obtain ⟨i, k1, k2⟩ := (I3 t).1 k
        exact ⟨i, by omega, k2⟩
       ·rintro ⟨i, k1, k2, k3⟩
        by_cases hij : i = j
        ·subst hij; omega
        ·exact (I3 t).2 ⟨i, by omega, k2, k3⟩
    ·simp only [hc, decide_false, cond_false]
     refine ⟨?_, fun k t => ?_⟩
     ·rw [I1]
      constructor
      ·rintro ⟨i, k1, k2⟩; exact ⟨i, by omega, k2⟩
      ·rintro ⟨i, k1, k2⟩
       by_cases hij : i = j
       ·subst hij; exact absurd k2 hc
       ·exact ⟨i, by omega, k2⟩
     ·rw [I2 k t]
      constructor
      ·rintro ⟨i, k1, k2⟩; exact ⟨i, by omega, k2⟩
      ·rintro ⟨i, k1, k2, k3⟩
       by_cases hij : i = j
       ·subst hij; exact absurd k2 hc
       ·exact ⟨i, by omega, k2, k3⟩) (fun s _ => by
   unfold heat_furnace_shownLow.b0
   simp only [lt_dec_self]; rfl)
 rw [h1]
 exact ⟨_, rfl, h2.1, fun k => ⟨h2.1.1 k, h2.2 k⟩⟩
def cannotL (x : heat_furnace) (y : heat_limit) : List Int := (List.range x.Firing.Kiln.Falls.length).map fun j => bif decide (y.heat + x.fur.lo j y.place.toNat ≤ x.fur.U j) then -1 else bif decide (3000 < y.heat + x.fur.lo j y.place.toNat) then -2 else (hot x j).2
theorem heat_cannot_eq {x : heat_furnace} (h : x.ok) {y : heat_limit} (hy : limOk x.Firing.Kiln.P y) : heat_furnace_cannot KK x y = some (cannotL x y) := by
 have hk := kilnB_len h.k
 obtain ⟨y1, y2, y3, y4⟩ := hy
 unfold heat_furnace_cannot
 have h1 := (whl_foldN (n := x.Firing.Kiln.Falls.length) (body := heat_furnace_cannot.b0 KK x y) (k := KK) (fun i s => (i, s)) (fun s j => s ++ [bif decide (y.heat + x.fur.lo j y.place.toNat ≤ x.fur.U j) then -1 else bif decide (3000 < y.heat + x.fur.lo j y.place.toNat) then -2 else (hot x j).2]) (fun i s => s.length = i) (s0 := []) (by omega) (by unfold KK; omega) rfl ?_ ?_).1
 ·rw [h1, foldl_pushN]; rfl
 ·intro j s hj hI
  refine ⟨?_, by simp [hI]⟩
  have g2 := kilnB_at h.k j y.place.toNat
  have g4 : x.fur.lo j y.place.toNat = (x.Firing.Kiln.at j y.place.toNat).Lo := rfl
  unfold heat_furnace_cannot.b0
  simp only [lt_dec hj, cond_true, at_row h.k hj, at_cell h.k hj y1 y2, heat_hottest_eq h hj, hot_U, Option.bind_some, g4]
  rw [w64_of (n := y.heat + (x.Firing.Kiln.at j y.place.toNat).Lo) (by omega) (by omega)]
  cases decide (y.heat + (x.Firing.Kiln.at j y.place.toNat).Lo ≤ x.fur.U j) with
  | true => simp only [cond_true]; rw [push_of (by omega) (by omega)]; rfl
  | false =>
   cases decide ((3000 : Int) < y.heat + (x.Firing.Kiln.at j y.place.toNat).Lo) with
   | true => simp only [cond_true, cond_false]; rw [push_of (by omega) (by omega)]; rfl
   | false => simp only [cond_false]; rw [push_of (by omega) (by omega)]; rfl
 ·intro s _
  unfold heat_furnace_cannot.b0
  simp only [lt_dec_self]; rfl
def LowPf (x : heat_furnace) (q : Nat) (n : Int) (p : HeatProof) : Prop :=
 (∃ j : Nat, j < x.Firing.Kiln.Falls.length ∧ p = ⟨-2, [(j : Int)]⟩ ∧ n = -x.fur.hi j q) ∨
 (∃ y ∈ x.least, y.place = (q : Int) ∧ p = ⟨y.by_, []⟩ ∧ n = y.heat) ∨
 ∃ y ∈ x.least, y.place ≠ (q : Int) ∧ p = ⟨y.by_, cannotL x y⟩ ∧ shownP x y q n
theorem heat_lowest_eq {x : heat_furnace} (h : x.ok) (hs : x.fur.Sound) {q : Nat} (hq : q < x.Firing.Kiln.P) :
  ∃ n p, heat_furnace_lowest KK x (q : Int) = some (n, p) ∧ (∀ t, n ≤ t ↔ x.fur.Low q t) ∧ LowPf x q n p := by
 have hk := kilnB_len h.k
 have hll := h.ll
 have hm : x.fur.m = x.Firing.Kiln.Falls.length - 1 := rfl
 unfold heat_furnace_lowest
 obtain ⟨h1, h2⟩ := whl_foldN (n := x.Firing.Kiln.Falls.length) (body := heat_furnace_lowest.b0 KK x (q : Int)) (k := KK) (fun i (s : Int × Int × List Int) => (s.1, i, s.2.1, s.2.2))
  (fun s j => bif !decide ((j : Int) = 0) then (bif decide (s.1 < 0 - x.fur.hi j q) then (0 - x.fur.hi j q, -2, [(j : Int)]) else s) else (0 - x.fur.hi j q, -2, [(j : Int)]))
  (fun i s => (i = 0 ∨ (∀ t, s.1 ≤ t ↔ ∀ j, j < i → -x.fur.hi j q ≤ t) ∧ ∃ j : Nat, j < i ∧ s = (-x.fur.hi j q, -2, [(j : Int)]))) (s0 := (-3000, 0, [])) (by omega) (by unfold KK; omega) (.inl rfl) (fun j s hj hI => by
   have g1 := kilnB_at h.k j q
   have g3 : x.fur.hi j q = (x.Firing.Kiln.at j q).Hi := rfl
   obtain ⟨s1, s2, s3⟩ := s
   refine ⟨?_, .inr ?_⟩
   ·unfold heat_furnace_lowest.b0
    simp only [lt_dec hj, cond_true, at_row h.k hj, at_cellN h.k hj hq, Option.bind_some, g3]
    rw [w64_of (n := 0 - (x.Firing.Kiln.at j q).Hi) (by omega) (by omega)]
    cases decide ((j : Int) = 0) <;> cases decide (s1 < 0 - (x.Firing.Kiln.at j q).Hi) <;> rfl
   ·have e0 : (0 : Int) - x.fur.hi j q = -x.fur.hi j q := by omega
    by_cases hj0 : j = 0
    ·subst hj0
     simp only [Int.natCast_zero, decide_true, Bool.not_true, cond_false, e0]
     refine ⟨fun t => ⟨fun k i hi => ?_, fun k => k 0 (by omega)⟩, 0, by omega, rfl⟩
     have : i = 0 := by omega
     subst this; exact k
    ·have hj1 : ¬ ((j : Int) = 0) := by omega
     simp only [hj1, decide_false, Bool.not_false, cond_true, e0]
     rcases hI with hI | ⟨I1, i, I2, I3⟩
     ·exact absurd hI hj0
     ·simp only at I1
      by_cases hc : s1 < -x.fur.hi j q
      ·simp only [hc, decide_true, cond_true]
       refine ⟨fun t => ⟨fun k i hi => ?_, fun k => k j (by omega)⟩, j, by omega, rfl⟩
       by_cases hij : i = j
       ·subst hij; exact k
       ·exact (I1 t).1 (by omega) i (by omega)
      ·simp only [hc, decide_false, cond_false]
       refine ⟨fun t => ⟨fun k i hi => ?_, fun k => (I1 t).2 fun i hi => k i (by omega)⟩, i, by omega, I3⟩
       by_cases hij : i = j
       ·subst hij; omega
       ·exact (I1 t).1 k i (by omega)) (fun s _ => by
   unfold heat_furnace_lowest.b0
   simp only [lt_dec_self]; rfl)
 rw [h1]
 rcases h2 with h2 | ⟨h2, j0, h3, h4⟩
 ·omega
 rw [h4] at h2
 rw [h4]
 simp only [Option.bind_some]
 simp only at h2
 have hw := whl_ok (body := heat_furnace_lowest.b1 KK x (q : Int))
  (fun t => ∃ (i : Nat) (p : HeatProof) (n : Int), t = (p, n, (i : Int)) ∧ i ≤ x.least.length ∧ LowPf x q n p ∧ ∀ t, n ≤ t ↔ (∀ j, j < x.Firing.Kiln.Falls.length → -x.fur.hi j q ≤ t) ∧ ∀ y ∈ x.least.take i, if y.place = (q : Int) then y.heat ≤ t else ∃ j, j < x.Firing.Kiln.Falls.length ∧ y.heat + x.fur.lo j y.place.toNat ≤ x.fur.U j ∧ y.heat + x.fur.lo j y.place.toNat - x.fur.hi j q ≤ t)
  (fun r => ∃ (p : HeatProof) (n : Int), r = .brk (p, n) ∧ LowPf x q n p ∧ ∀ t, n ≤ t ↔ (∀ j, j < x.Firing.Kiln.Falls.length → -x.fur.hi j q ≤ t) ∧ ∀ y ∈ x.least, if y.place = (q : Int) then y.heat ≤ t else ∃ j, j < x.Firing.Kiln.Falls.length ∧ y.heat + x.fur.lo j y.place.toNat ≤ x.fur.U j ∧ y.heat + x.fur.lo j y.place.toNat - x.fur.hi j q ≤ t)
  (fun t => x.least.length - t.2.2.toNat) ?_ KK (⟨-2, [(j0 : Int)]⟩, -x.fur.hi j0 q, 0) ⟨0, _, _, rfl, Nat.zero_le _, .inl ⟨j0, h3, rfl, rfl⟩, fun t => by rw [h2 t]; simp⟩ (by unfold KK; simp only; omega)
 ·obtain ⟨r, k1, ⟨p, n, k2, k3, k4⟩, _⟩ := hw
  rw [k1, k2]
  refine ⟨n, p, rfl, fun t => ?_, k3⟩
  rw [k4 t]
  unfold Fur.Low
  constructor
  ·rintro ⟨m1, m2⟩
   refine ⟨fun j hj => m1 j (by omega), fun z hz e => ?_, fun z hz e => ?_⟩
   ·obtain ⟨y, hy, rfl⟩ := List.mem_map.1 hz
    have := m2 y hy
    have hp := h.l y hy
    have e2 : y.place = (q : Int) := by have e' : y.place.toNat = q := e; have := hp.1; omega
    rw [if_pos e2] at this
    exact this
   ·obtain ⟨y, hy, rfl⟩ := List.mem_map.1 hz
    have := m2 y hy
    have hp := h.l y hy
    have e2 : ¬ y.place = (q : Int) := by intro e2; apply e; show y.place.toNat = q; omega
    rw [if_neg e2] at this
    obtain ⟨j, m3, m4⟩ := this
    exact ⟨j, by omega, m4⟩
  ·rintro ⟨m1, m2, m3⟩
   refine ⟨fun j hj => m1 j (by omega), fun y hy => ?_⟩
   have hp := h.l y hy
   by_cases e2 : y.place = (q : Int)
   ·rw [if_pos e2]
    exact m2 (lp y) (List.mem_map.2 ⟨y, hy, rfl⟩) (by show y.place.toNat = q; omega)
   ·rw [if_neg e2]
    obtain ⟨j, m4, m5⟩ := m3 (lp y) (List.mem_map.2 ⟨y, hy, rfl⟩) (by intro e'; have e'' : y.place.toNat = q := e'; have := hp.1; omega)
    exact ⟨j, by omega, m5⟩
 ·rintro t ⟨i, p, n, rfl, g1, g2, g3⟩
  by_cases hi : i = x.least.length
  ·right; left
   refine ⟨(p, n), ?_, p, n, rfl, g2, fun t => by rw [g3 t, hi, List.take_length]⟩
   unfold heat_furnace_lowest.b1
   simp only [hi, lt_dec_self]; rfl
  ·left
   have hx : x.least[i]? = some x.least[i] := List.getElem?_eq_getElem (by omega)
   generalize x.least[i] = y at hx
   have hym : y ∈ x.least := List.mem_of_getElem? hx
   have hy := h.l y hym
   have hwi : w64 ((i : Int) + 1) = ((i + 1 : Nat) : Int) := w64_succ (n := x.least.length) (by omega) (by omega)
   have hbody : heat_furnace_lowest.b1 KK x (q : Int) (p, n, (i : Int)) = bif decide (y.place = (q : Int)) then (bif decide (n < y.heat) then some (.next ((⟨y.by_, []⟩ : HeatProof), y.heat, ((i + 1 : Nat) : Int))) else some (.next (p, n, ((i + 1 : Nat) : Int)))) else
     (heat_furnace_shownLow KK x y (q : Int)).bind fun r => bif r.2 then (bif decide (n < r.1) then some (.next ((⟨y.by_, cannotL x y⟩ : HeatProof), r.1, ((i + 1 : Nat) : Int))) else some (.next (p, n, ((i + 1 : Nat) : Int)))) else some (.next (p, n, ((i + 1 : Nat) : Int))) := by
    unfold heat_furnace_lowest.b1
    simp only [lt_dec (show i < x.least.length by omega), cond_true, at_of hx, Option.bind_some, heat_cannot_eq h hy, hwi]
   have fin : ∀ (p' : HeatProof) (n' : Int), LowPf x q n' p' → (∀ t, n' ≤ t ↔ n ≤ t ∧ if y.place = (q : Int) then y.heat ≤ t else ∃ j, j < x.Firing.Kiln.Falls.length ∧ y.heat + x.fur.lo j y.place.toNat ≤ x.fur.U j ∧ y.heat + x.fur.lo j y.place.toNat - x.fur.hi j q ≤ t) →
     ∃ (i' : Nat) (p'' : HeatProof) (n'' : Int), ((p', n', ((i + 1 : Nat) : Int)) : HeatProof × Int × Int) = (p'', n'', (i' : Int)) ∧ i' ≤ x.least.length ∧ LowPf x q n'' p'' ∧ ∀ t, n'' ≤ t ↔ (∀ j, j < x.Firing.Kiln.Falls.length → -x.fur.hi j q ≤ t) ∧ ∀ y ∈ x.least.take i', if y.place = (q : Int) then y.heat ≤ t else ∃ j, j < x.Firing.Kiln.Falls.length ∧ y.heat + x.fur.lo j y.place.toNat ≤ x.fur.U j ∧ y.heat + x.fur.lo j y.place.toNat - x.fur.hi j q ≤ t := by
    intro p' n' k1 k2
    refine ⟨i + 1, p', n', rfl, by omega, k1, fun t => ?_⟩
    rw [k2 t, g3 t, take_succ_of hx]
    constructor
    ·rintro ⟨⟨m1, m2⟩, m3⟩
     refine ⟨m1, fun z hz => ?_⟩
     rcases List.mem_append.1 hz with hz | hz
     ·exact m2 z hz
     ·simp only [List.mem_singleton] at hz; subst hz; exact m3
    ·rintro ⟨m1, m2⟩
     exact ⟨⟨m1, fun z hz => m2 z (List.mem_append.2 (.inl hz))⟩, m2 y (List.mem_append.2 (.inr (by simp)))⟩
   have hmeas : ∀ (p' : HeatProof) (n' : Int), x.least.length - ((p', n', ((i + 1 : Nat) : Int)) : HeatProof × Int × Int).2.2.toNat < x.least.length - ((p, n, (i : Int)) : HeatProof × Int × Int).2.2.toNat := by intro p' n'; simp only [Int.toNat_natCast]; omega
   by_cases e2 : y.place = (q : Int)
   ·by_cases hc : n < y.heat
    ·refine ⟨_, by rw [hbody]; simp only [e2, hc, decide_true, cond_true], fin _ _ (.inr (.inl ⟨y, hym, e2, rfl, rfl⟩)) fun t => ?_, hmeas _ _⟩
     rw [if_pos e2]; omega
    ·refine ⟨_, by rw [hbody]; simp only [e2, hc, decide_true, decide_false, cond_true, cond_false], fin _ _ g2 fun t => ?_, hmeas _ _⟩
     rw [if_pos e2]; omega
   ·obtain ⟨r, r1, r2, r3⟩ := heat_shownLow_eq h hy hq
    have hreach : r.2 = true := by
     rw [r2]
     obtain ⟨_, j, k1, k2⟩ := hs.2 (lp y) (List.mem_map.2 ⟨y, hym, rfl⟩)
     exact ⟨j, by omega, k2⟩
    obtain ⟨r4, r5⟩ := r3 hreach
    by_cases hc : n < r.1
    ·refine ⟨_, by rw [hbody, r1]; simp only [e2, hc, hreach, decide_true, decide_false, cond_true, cond_false, Option.bind_some], fin _ _ (.inr (.inr ⟨y, hym, e2, rfl, r4, r5⟩)) fun t => ?_, hmeas _ _⟩
     rw [if_neg e2, ← r5 t]; omega
    ·refine ⟨_, by rw [hbody, r1]; simp only [e2, hc, hreach, decide_true, decide_false, cond_true, cond_false, Option.bind_some], fin _ _ g2 fun t => ?_, hmeas _ _⟩
     rw [if_neg e2, ← r5 t]; omega
def HighPf (x : heat_furnace) (q : Nat) (n : Int) (p : HeatProof) : Prop :=
 (∃ y ∈ x.most, y.place = (q : Int) ∧ p = ⟨y.by_, []⟩ ∧ n = y.heat) ∨
 (p = ⟨-1, (List.range x.Firing.Kiln.Falls.length).map fun j => (hot x j).2⟩ ∧ ∀ t, t ≤ n ↔ ∃ j, j < x.Firing.Kiln.Falls.length ∧ t + x.fur.lo j q ≤ x.fur.U j)
theorem heat_highest_eq {x : heat_furnace} (h : x.ok) (hs : x.fur.Sound) {q : Nat} (hq : q < x.Firing.Kiln.P) :
  ∃ n p, heat_furnace_highest KK x (q : Int) = some (n, p) ∧ (∀ t, t ≤ n ↔ x.fur.High q t) ∧ HighPf x q n p := by
 have hk := kilnB_len h.k
 have hm : x.fur.m = x.Firing.Kiln.Falls.length - 1 := rfl
 unfold heat_furnace_highest
 obtain ⟨h1, h2⟩ := whl_foldN (n := x.Firing.Kiln.Falls.length) (body := heat_furnace_highest.b0 KK x (q : Int)) (k := KK) (fun i (s : Int × List Int) => (s.1, i, s.2))
  (fun s j => (max s.1 (x.fur.U j - x.fur.lo j q), s.2 ++ [(hot x j).2]))
  (fun i s => s.2 = (List.range i).map (fun j => (hot x j).2) ∧ ∀ t, t ≤ s.1 ↔ t ≤ -3000 ∨ ∃ j, j < i ∧ t + x.fur.lo j q ≤ x.fur.U j) (s0 := (-3000, [])) (by omega) (by unfold KK; omega) ⟨rfl, by intro t; simp⟩ (fun j s hj hI => by
   have g1 := kilnB_at h.k j q
   have g2 := U_ge h j
   have g4 : x.fur.lo j q = (x.Firing.Kiln.at j q).Lo := rfl
   have hlen : s.2.length = j := by rw [hI.1]; simp
   refine ⟨?_, ?_, fun t => ?_⟩
   ·unfold heat_furnace_highest.b0
    simp only [lt_dec hj, cond_true, at_row h.k hj, at_cellN h.k hj hq, heat_hottest_eq h hj, hot_U, Option.bind_some, g4]
    rw [w64_of (n := x.fur.U j - (x.Firing.Kiln.at j q).Lo) (by omega) (by omega), push_of (by omega) (by omega)]
    rfl
   ·rw [hI.1, List.range_succ, List.map_append]; rfl
   ·show t ≤ max _ _ ↔ _
    rw [show ∀ a b : Int, t ≤ max a b ↔ t ≤ a ∨ t ≤ b by intro a b; omega, hI.2 t]
    constructor
    ·rintro ((k1 | ⟨i, k1, k2⟩) | k1)
     ·exact .inl k1
     ·exact .inr ⟨i, by omega, k2⟩
     ·exact .inr ⟨j, by omega, by omega⟩
    ·rintro (k1 | ⟨i, k1, k2⟩)
     ·exact .inl (.inl k1)
     ·by_cases hij : i = j
      ·subst hij; exact .inr (by omega)
      ·exact .inl (.inr ⟨i, by omega, k2⟩)) (fun s _ => by
   unfold heat_furnace_highest.b0
   simp only [lt_dec_self]; rfl)
 rw [h1]
 generalize (List.range x.Firing.Kiln.Falls.length).foldl (fun (s : Int × List Int) j => (max s.1 (x.fur.U j - x.fur.lo j q), s.2 ++ [(hot x j).2])) (-3000, []) = s at h2
 obtain ⟨n, l⟩ := s
 obtain ⟨h3, h4⟩ := h2
 simp only at h3 h4
 subst h3
 have h5 : ∀ t, t ≤ n ↔ ∃ j, j < x.Firing.Kiln.Falls.length ∧ t + x.fur.lo j q ≤ x.fur.U j := by
  intro t
  rw [h4]
  refine ⟨?_, .inr⟩
  rintro (k | k)
  ·refine ⟨0, by omega, ?_⟩
   have a1 := hs.1 0 (Nat.zero_le _)
   have a2 := kilnB_at h.k 0 q
   have a3 : x.fur.lo 0 q = (x.Firing.Kiln.at 0 q).Lo := rfl
   omega
  ·exact k
 have hb := bestL_some x.most q (fun y hy => (h.m y hy).1)
 have hH : ∀ t, x.fur.High q t ↔ t ≤ n ∧ ∀ y ∈ x.fur.M, y.1 = q → t ≤ y.2 := by
  intro t
  unfold Fur.High
  rw [h5 t]
  constructor
  ·rintro ⟨⟨j, k1, k2⟩, k3⟩; exact ⟨⟨j, by omega, k2⟩, k3⟩
  ·rintro ⟨⟨j, k1, k2⟩, k3⟩; exact ⟨⟨j, by omega, k2⟩, k3⟩
 simp only [Option.bind_some, heat_best_eq _ h.ml]
 cases hb2 : (bestL x.most (q : Int)).2 with
 | false =>
  rw [hb2] at hb
  have hb3 := (Fur.best_iff _ _).1.1 hb
  refine ⟨n, _, rfl, fun t => ?_, .inr ⟨rfl, h5⟩⟩
  rw [hH t]
  exact ⟨fun k => ⟨k, fun y hy e => absurd e (hb3 y hy)⟩, fun k => k.1⟩
 | true =>
  rw [hb2] at hb
  have hb3 := ((Fur.best_iff _ _).2 _ hb).1
  obtain ⟨hb4, hb5⟩ := bestL_mem _ _ hb2
  have hH2 : ∀ t, x.fur.High q t ↔ t ≤ n ∧ t ≤ (bestL x.most (q : Int)).1.heat := by intro t; rw [hH t, hb3 t]; rfl
  simp only [cond_true]
  by_cases hc : (bestL x.most (q : Int)).1.heat ≤ n
  ·simp only [hc, decide_true, cond_true]
   refine ⟨_, _, rfl, fun t => ?_, .inl ⟨_, hb4, hb5, rfl, rfl⟩⟩
   rw [hH2 t]; omega
  ·simp only [hc, decide_false, cond_false]
   refine ⟨_, _, rfl, fun t => ?_, .inr ⟨rfl, h5⟩⟩
   rw [hH2 t]; omega
theorem heat_bound_eq {x : heat_furnace} (h : x.ok) (hs : x.fur.Sound) {q : Nat} (hq : q < x.Firing.Kiln.P) :
  ∃ r, heat_furnace_bound KK x (q : Int) = some r ∧ (∀ t, r.Lo ≤ t ↔ x.fur.Low q t) ∧ ∀ t, t ≤ r.Hi ↔ x.fur.High q t := by
 obtain ⟨n1, p1, a1, a2, _⟩ := heat_lowest_eq h hs hq
 obtain ⟨n2, p2, b1, b2, _⟩ := heat_highest_eq h hs hq
 unfold heat_furnace_bound
 rw [a1, b1]
 exact ⟨_, rfl, a2, b2⟩
theorem bound_same {f : Fur} {q : Nat} {r s : Range} (h1 : ∀ t, r.Lo ≤ t ↔ f.Low q t) (h2 : ∀ t, t ≤ r.Hi ↔ f.High q t) (h3 : ∀ t, s.Lo ≤ t ↔ f.Low q t) (h4 : ∀ t, t ≤ s.Hi ↔ f.High q t) : r = s := by
 have e1 : r.Lo = s.Lo := eq_of_ge_iff fun t => by rw [h1, h3]
 have e2 : r.Hi = s.Hi := eq_of_le_iff fun t => by rw [h2, h4]
 cases r; cases s; simp only at e1 e2; rw [e1, e2]
end Go.Abs
namespace Go.Abs
open Go
set_option linter.unusedVariables false
def Field.u (x : Field) (j : Nat) : Int := x.Mouths.getD j 0
def Field.d (x : Field) (j p : Nat) : Int := (x.Falls.getD j []).getD p 0
def Field.ht (x : Field) (m p : Nat) : Int := mx (fun j => x.u j - x.d j p) m
def rowB (k : Kiln) (x : Field) (j : Nat) : Bool := inB (x.u j) 0 3000 && (decide ((x.Falls.getD j []).length = (k.Falls.getD j []).length) && (List.range (k.Falls.getD j []).length).all fun p => inB (x.d j p) (k.at j p).Lo (k.at j p).Hi)
def fieldB (k : Kiln) (x : Field) : Bool := decide (x.Mouths.length = k.Falls.length) && (decide (x.Falls.length = k.Falls.length) && (List.range k.Falls.length).all (rowB k x))
theorem heat_isField_eq {k : Kiln} (h : kilnB k = true) (x : Field) : heat_isField KK k x = some (fieldB k x) := by
 have hk := kilnB_len h
 unfold heat_isField fieldB
 simp only [len_dec]
 by_cases h1 : x.Mouths.length = k.Falls.length
 ·by_cases h2 : x.Falls.length = k.Falls.length
  ·simp only [h1, h2, decide_true, Bool.not_true, cond_true, cond_false, Bool.true_and]
   rw [whl_allN (n := k.Falls.length) (p := rowB k x) (c := false) (by omega) (by unfold KK; omega) (fun j hj => by
    unfold heat_isField.b0 rowB
    have hr := kilnB_row h hj
    simp only [lt_dec hj, cond_true, at_row h hj, at_nat (0 : Int) (show j < x.Mouths.length by omega), at_nat ([] : List Int) (show j < x.Falls.length by omega), Option.bind_some, heat_in_eq, len_dec]
    show (bif inB (x.u j) 0 3000 then _ else _) = _
    cases inB (x.u j) 0 3000 with
    | false => rfl
    | true =>
     by_cases h3 : (x.Falls.getD j []).length = (k.Falls.getD j []).length
     ·simp only [h3, decide_true, Bool.not_true, cond_true, cond_false, Bool.true_and]
      rw [whl_allN (n := (k.Falls.getD j []).length) (p := fun p => inB (x.d j p) (k.at j p).Lo (k.at j p).Hi) (c := false) (by omega) (by unfold KK; omega) (fun p hp => by
       unfold heat_isField.b1
       simp only [lt_dec hp, cond_true, at_nat R0 hp, at_nat (0 : Int) (show p < (x.Falls.getD j []).length by omega), Option.bind_some, heat_in_eq]
       show (bif !inB (x.d j p) (k.at j p).Lo (k.at j p).Hi then _ else _) = _
       cases inB (x.d j p) (k.at j p).Lo (k.at j p).Hi <;> rfl) (by
       unfold heat_isField.b1
       rw [lt_dec_self]; rfl)]
      cases (List.range (k.Falls.getD j []).length).all fun p => inB (x.d j p) (k.at j p).Lo (k.at j p).Hi <;> rfl
     ·simp only [h3, decide_false, Bool.not_false, cond_true, Bool.false_and, Bool.and_false, cond_false]) (by
    unfold heat_isField.b0
    rw [lt_dec_self]; rfl)]
   cases (List.range k.Falls.length).all (rowB k x) <;> rfl
  ·simp [h1, h2]
 ·simp [h1]
structure FieldOk (k : Kiln) (x : Field) : Prop where
 kv : kilnB k = true
 m : x.Mouths.length = k.Falls.length
 f : x.Falls.length = k.Falls.length
 row : ∀ j, j < k.Falls.length → (x.Falls.getD j []).length = k.P
 u : ∀ j, j < k.Falls.length → 0 ≤ x.u j ∧ x.u j ≤ 3000
 d : ∀ j p, j < k.Falls.length → (k.at j p).Lo ≤ x.d j p ∧ x.d j p ≤ (k.at j p).Hi
theorem fieldB_iff {k : Kiln} (h : kilnB k = true) (x : Field) : fieldB k x = true ↔ FieldOk k x := by
 unfold fieldB
 simp only [Bool.and_eq_true, decide_eq_true_eq, List.all_eq_true, List.mem_range, rowB, inB]
 constructor
 ·rintro ⟨h1, h2, h3⟩
  refine ⟨h, h1, h2, fun j hj => by rw [(h3 j hj).2.1, kilnB_row h hj], fun j hj => (h3 j hj).1, fun j p hj => ?_⟩
  obtain ⟨_, h4, h5⟩ := h3 j hj
  by_cases hp : p < (k.Falls.getD j []).length
  ·exact h5 p hp
  ·unfold Field.d Kiln.at
   rw [getD_none (by omega), getD_none (by omega)]
   exact ⟨Int.le_refl _, Int.le_refl _⟩
 ·intro g
  exact ⟨g.m, g.f, fun j hj => ⟨g.u j hj, by rw [g.row j hj, kilnB_row h hj], fun p _ => g.d j p hj⟩⟩
theorem FieldOk.isField {k : Kiln} {x : Field} (h : FieldOk k x) {f : Fur} (hm : f.m = k.Falls.length - 1) (hlo : ∀ j p, f.lo j p = (k.at j p).Lo) (hhi : ∀ j p, f.hi j p = (k.at j p).Hi) : f.IsField x.u x.d := by
 have hk := kilnB_len h.kv
 intro j hj
 have h1 := h.u j (by omega)
 refine ⟨h1.1, h1.2, fun p => ?_⟩
 rw [hlo, hhi]; exact h.d j p (by omega)
theorem FieldOk.bounds {k : Kiln} {x : Field} (h : FieldOk k x) {j : Nat} (p : Nat) (hj : j < k.Falls.length) : -3000 ≤ x.u j - x.d j p ∧ x.u j - x.d j p ≤ 3000 := by
 have h1 := h.u j hj
 have h2 := h.d j p hj
 have h3 := kilnB_at h.kv j p
 omega
theorem FieldOk.ht {k : Kiln} {x : Field} (h : FieldOk k x) (p : Nat) : -3000 ≤ x.ht (k.Falls.length - 1) p ∧ x.ht (k.Falls.length - 1) p ≤ 3000 := by
 have hk := kilnB_len h.kv
 unfold Field.ht
 rw [mx_le_iff, le_mx_iff]
 exact ⟨⟨0, Nat.zero_le _, (h.bounds p (by omega)).1⟩, fun j hj => (h.bounds p (by omega)).2⟩
def heatsL (k : Kiln) (x : Field) : List Int := (List.range k.P).map (x.ht (k.Falls.length - 1))
theorem heat_heats_eq {k : Kiln} {x : Field} (h : FieldOk k x) : heat_heats KK x = some (heatsL k x) := by
 have hk := kilnB_len h.kv
 have hm := h.m
 have hf := h.f
 have hr0 := h.row 0 (by omega)
 unfold heat_heats
 have e0 : at? x.Falls (0 : Int) = some (x.Falls.getD 0 []) := at_nat [] (l := x.Falls) (i := 0) (by omega)
 rw [e0]
 simp only [Option.bind_some]
 have h1 := (whl_foldN (n := (x.Falls.getD 0 []).length) (body := heat_heats.b0 KK x (x.Falls.getD 0 [])) (k := KK) (fun i s => (i, s)) (fun s p => s ++ [x.ht (k.Falls.length - 1) p]) (fun i s => s.length = i) (s0 := []) (by omega) (by unfold KK; omega) rfl ?_ ?_).1
 ·rw [h1, foldl_pushN, hr0]; rfl
 ·intro p s hp hI
  refine ⟨?_, by simp [hI]⟩
  unfold heat_heats.b0
  have e1 : at? x.Mouths (0 : Int) = some (x.u 0) := at_nat 0 (l := x.Mouths) (i := 0) (by omega)
  have e2 : at? (x.Falls.getD 0 []) (p : Int) = some (x.d 0 p) := at_nat 0 hp
  have hb0 := h.bounds p (show 0 < k.Falls.length by omega)
  simp only [lt_dec hp, cond_true, e1, e2, Option.bind_some]
  obtain ⟨h2, h3⟩ := whl_foldN (n := k.Falls.length) (body := heat_heats.b1 KK x (p : Int)) (k := KK) (fun i s => (s, i)) (fun s j => max s (x.u j - x.d j p)) (fun i s => ∀ t, t ≤ s ↔ t ≤ x.u 0 - x.d 0 p ∨ ∃ j, j < i ∧ t ≤ x.u j - x.d j p) (s0 := w64 (x.u 0 - x.d 0 p)) (by omega) (by unfold KK; omega) (by intro t; rw [w64_of (by omega) (by omega)]; simp) (fun j s hj hI2 => by
   have hb := h.bounds p hj
   have hr := h.row j hj
   have e3 : at? x.Mouths (j : Int) = some (x.u j) := at_nat 0 (by omega)
   have e4 : at? (x.Falls.getD j []) (p : Int) = some (x.d j p) := at_nat 0 (by omega)
   refine ⟨?_, fun t => ?_⟩
   ·unfold heat_heats.b1
    simp only [hm, lt_dec hj, cond_true, e3, e4, at_nat ([] : List Int) (show j < x.Falls.length by omega), Option.bind_some]
    rw [w64_of (n := x.u j - x.d j p) (by omega) (by omega)]
   ·rw [show ∀ a b : Int, t ≤ max a b ↔ t ≤ a ∨ t ≤ b by intro a b; omega, hI2 t]
    constructor
    ·rintro ((k1 | ⟨i, k1, k2⟩) | k1)
     ·exact .inl k1
     ·exact .inr ⟨i, by omega, k2⟩
     ·exact .inr ⟨j, by omega, by omega⟩
    ·rintro (k1 | ⟨i, k1, k2⟩)
     ·exact .inl (.inl k1)
     ·by_cases hij : i = j
      ·subst hij; exact .inr (by omega)
      ·exact .inl (.inr ⟨i, by omega, k2⟩)) (fun s _ => by
   unfold heat_heats.b1
   simp only [hm, lt_dec_self]; rfl)
  rw [h2]
  have : (List.range k.Falls.length).foldl (fun s j => max s (x.u j - x.d j p)) (w64 (x.u 0 - x.d 0 p)) = x.ht (k.Falls.length - 1) p := by
   refine eq_of_le_iff fun t => ?_
   unfold Field.ht
   rw [h3 t, le_mx_iff]
   constructor
   ·rintro (k1 | ⟨j, k1, k2⟩)
    ·exact ⟨0, Nat.zero_le _, k1⟩
    ·exact ⟨j, by omega, k2⟩
   ·rintro ⟨j, k1, k2⟩; exact .inr ⟨j, by omega, k2⟩
  rw [this]
  simp only [Option.bind_some]
  rw [push_of (by omega) (by omega)]
  rfl
 ·intro s _
  unfold heat_heats.b0
  simp only [lt_dec_self]; rfl
theorem R04_heat_eq {k : Kiln} {x : Field} (h : FieldOk k x) {p : Nat} (hp : p < k.P) : R04_heat KK x (p : Int) = some (x.ht (k.Falls.length - 1) p) := by
 have hk := kilnB_len h.kv
 have hm := h.m
 have hf := h.f
 have hr0 := h.row 0 (by omega)
 unfold R04_heat
 have e0 : at? x.Falls (0 : Int) = some (x.Falls.getD 0 []) := at_nat [] (l := x.Falls) (i := 0) (by omega)
 have e1 : at? x.Mouths (0 : Int) = some (x.u 0) := at_nat 0 (l := x.Mouths) (i := 0) (by omega)
 have e2 : at? (x.Falls.getD 0 []) (p : Int) = some (x.d 0 p) := at_nat 0 (by omega)
 have hb0 := h.bounds p (show 0 < k.Falls.length by omega)
 simp only [e0, e1, e2, Option.bind_some]
 rw [w64_of (by omega) (by omega)]
 have hw := whl_ok (body := R04_heat.b0 KK x (p : Int))
  (fun t => ∃ (i : Nat) (s : Int), t = (s, ((i + 1 : Nat) : Int)) ∧ i + 1 ≤ k.Falls.length ∧ s = x.ht i p)
  (fun r => r = .brk (x.ht (k.Falls.length - 1) p)) (fun t => k.Falls.length - t.2.toNat) ?_ KK (x.u 0 - x.d 0 p, 1) ⟨0, _, rfl, by omega, rfl⟩ (by unfold KK; simp only; omega)
 ·obtain ⟨r, k1, k2, _⟩ := hw
  rw [k1, k2]; rfl
 ·rintro t ⟨i, s, rfl, g1, g2⟩
  by_cases hi : i + 1 = k.Falls.length
  ·right; left
   refine ⟨s, ?_, by rw [g2]; congr 2; omega⟩
   unfold R04_heat.b0
   simp only [hm, hi, lt_dec_self]; rfl
  ·left
   have hj : i + 1 < k.Falls.length := by omega
   have hb := h.bounds p hj
   have hr := h.row _ hj
   have e3 : at? x.Mouths ((i + 1 : Nat) : Int) = some (x.u (i + 1)) := at_nat 0 (by omega)
   have e4 : at? (x.Falls.getD (i + 1) []) (p : Int) = some (x.d (i + 1) p) := at_nat 0 (by omega)
   refine ⟨(max s (x.u (i + 1) - x.d (i + 1) p), ((i + 1 + 1 : Nat) : Int)), ?_, ⟨i + 1, _, rfl, hj, by rw [g2]; rfl⟩, by simp only [Int.toNat_natCast]; omega⟩
   unfold R04_heat.b0
   simp only [hm, lt_dec hj, cond_true, e3, e4, at_nat ([] : List Int) (show i + 1 < x.Falls.length by omega), Option.bind_some]
   rw [w64_of (n := x.u (i + 1) - x.d (i + 1) p) (by omega) (by omega), w64_succ (n := k.Falls.length) hj (by omega)]
def heatsR (k : Kiln) (x : Field) : List Int × Int := bif !kilnB k then ([], 40) else bif !fieldB k x then ([], 45) else (heatsL k x, 0)
theorem heat_Heats_eq (k : Kiln) (q : Kiln.s k) (x : Field) : heat_Heats KK k x = some (heatsR k x) := by
 unfold heat_Heats heatsR
 rw [heat_CheckKiln_eq k q]
 cases h : kilnB k with
 | false => rfl
 | true =>
  simp only [Option.bind_some, cond_true, decide_true, Bool.not_true, cond_false, heat_isField_eq h]
  cases h2 : fieldB k x with
  | false => rfl
  | true => simp only [Bool.not_true, cond_false, heat_heats_eq ((fieldB_iff h x).1 h2)]; rfl
def rdAg (h : Int) (r : Reading) : Bool := !((lo? r).isSome && decide (h < (lo? r).getD 0)) && !((hi? r).isSome && decide ((hi? r).getD 0 < h))
def agB (f : Firing) (x : Field) : Bool := f.Readings.all fun r => rdAg (x.ht (f.Kiln.Falls.length - 1) r.Place.toNat) r
theorem agB_iff {f : Firing} (h : f.ok) (x : Field) : agB f x = true ↔ (nf f).fur.Agrees x.u x.d := by
 unfold agB Fur.Agrees
 rw [List.all_eq_true]
 have hh : ∀ p, (nf f).fur.heat x.u x.d p = x.ht (f.Kiln.Falls.length - 1) p := fun p => rfl
 have hr : ∀ (n : Int) r, rdAg n r = true ↔ (∀ a, lo? r = some a → a ≤ n) ∧ ∀ b, hi? r = some b → n ≤ b := by
  intro n r
  unfold rdAg
  cases lo? r <;> cases hi? r <;> simp
 constructor
 ·intro g
  refine ⟨fun z hz => ?_, fun z hz => ?_⟩
  ·obtain ⟨r, h1, h2, h3⟩ := limsOf_lp.1 hz
   rw [hh, ← h3]
   exact ((hr _ _).1 (g r h1)).1 _ h2
  ·obtain ⟨r, h1, h2, h3⟩ := limsOf_lp.1 hz
   rw [hh, ← h3]
   exact ((hr _ _).1 (g r h1)).2 _ h2
 ·rintro ⟨g1, g2⟩ r hr'
  rw [hr]
  exact ⟨fun a ha => g1 (r.Place.toNat, a) (limsOf_lp.2 ⟨r, hr', ha, rfl⟩), fun b hb => g2 (r.Place.toNat, b) (limsOf_lp.2 ⟨r, hr', hb, rfl⟩)⟩
def fieldCode (f : Firing) (x : Field) : Int := bif !decide (firingCode f = 0) then 42 else bif !fieldB f.Kiln x then 45 else bif agB f x then 0 else 45
theorem heat_CheckField_eq (f : Firing) (q : Firing.s f) (x : Field) : heat_CheckField KK f x = some (fieldCode f x) := by
 unfold heat_CheckField fieldCode
 rw [heat_Check_eq f q]
 simp only [Option.bind_some]
 by_cases h : firingCode f = 0
 ·have hok := firing_ok h
  have hl := hok.l
  simp only [h, decide_true, Bool.not_true, cond_false, heat_isField_eq hok.k, Option.bind_some]
  cases h2 : fieldB f.Kiln x with
  | false => rfl
  | true =>
   have hF := (fieldB_iff hok.k x).1 h2
   simp only [Bool.not_true, cond_false, heat_heats_eq hF, Option.bind_some]
   unfold agB
   rw [whl_allL (l := f.Readings) (p := fun r => rdAg (x.ht (f.Kiln.Falls.length - 1) r.Place.toNat) r) (c := (45 : Int)) (by omega) (by unfold KK; omega) ?_ ?_]
   ·cases f.Readings.all fun r => rdAg (x.ht (f.Kiln.Falls.length - 1) r.Place.toNat) r <;> rfl
   ·intro i r hr
    have hi : i < f.Readings.length := (List.getElem?_eq_some_iff.1 hr).1
    have hro := hok.r r (List.mem_of_getElem? hr)
    have hp := hro.1
    have hp2 := hro.2.1
    have hpl : ((r.Place.toNat : Nat) : Int) = r.Place := by omega
    have e1 : at? (heatsL f.Kiln x) r.Place = some (x.ht (f.Kiln.Falls.length - 1) r.Place.toNat) := by
     have := at_mapR (x.ht (f.Kiln.Falls.length - 1)) (n := f.Kiln.P) (j := r.Place.toNat) (by omega)
     rw [hpl] at this; exact this
    unfold heat_CheckField.b0 rdAg
    simp only [lt_dec hi, cond_true, at_of hr, Option.bind_some, heat_least_eq, heat_most_eq, e1]
    cases (lo? r).isSome <;> cases (hi? r).isSome <;> cases decide (x.ht (f.Kiln.Falls.length - 1) r.Place.toNat < (lo? r).getD 0) <;> cases decide ((hi? r).getD 0 < x.ht (f.Kiln.Falls.length - 1) r.Place.toNat) <;> rfl
   ·unfold heat_CheckField.b0
    rw [lt_dec_self]; rfl
 ·simp only [h, decide_false, Bool.not_false, cond_true]
theorem gField_u (x : heat_furnace) {j : Nat} (hj : j < x.Firing.Kiln.Falls.length) : (gField x).u j = x.fur.U j := by
 unfold Field.u gField
 exact getD_of _ (by rw [List.getElem?_map, List.getElem?_range hj]; rfl)
theorem gField_d (x : heat_furnace) {j p : Nat} (hj : j < x.Firing.Kiln.Falls.length) (hp : p < x.Firing.Kiln.P) : (gField x).d j p = x.fur.gd j p := by
 unfold Field.d gField
 rw [getD_of (x := (List.range x.Firing.Kiln.P).map fun p => x.fur.gd j p) _ (by rw [List.getElem?_map, List.getElem?_range hj]; rfl)]
 exact getD_of _ (by rw [List.getElem?_map, List.getElem?_range hp]; rfl)
theorem gField_ok {x : heat_furnace} (h : x.ok) (hs : x.fur.Sound) : FieldOk x.Firing.Kiln (gField x) := by
 have hk := kilnB_len h.k
 have hF := Fur.gd_isField (fur_ok h) hs
 have hm : x.fur.m = x.Firing.Kiln.Falls.length - 1 := rfl
 refine ⟨h.k, by simp [gField], by simp [gField], fun j hj => ?_, fun j hj => ?_, fun j p hj => ?_⟩
 ·unfold gField
  rw [getD_of (x := (List.range x.Firing.Kiln.P).map fun p => x.fur.gd j p) _ (by rw [List.getElem?_map, List.getElem?_range hj]; rfl)]
  simp
 ·rw [gField_u x hj]
  have := hF j (by omega)
  exact ⟨this.1, this.2.1⟩
 ·by_cases hp : p < x.Firing.Kiln.P
  ·rw [gField_d x hj hp]
   exact (hF j (by omega)).2.2 p
  ·unfold Field.d Kiln.at
   rw [getD_none (l := x.Firing.Kiln.Falls.getD j []) (by rw [kilnB_row h.k hj]; omega)]
   rw [getD_none (l := (gField x).Falls.getD j []) (by
    unfold gField
    rw [getD_of (x := (List.range x.Firing.Kiln.P).map fun p => x.fur.gd j p) _ (by rw [List.getElem?_map, List.getElem?_range hj]; rfl)]
    simp; omega)]
   exact ⟨Int.le_refl _, Int.le_refl _⟩
theorem mx_congr {f g : Nat → Int} : ∀ n, (∀ j, j ≤ n → f j = g j) → mx f n = mx g n
 | 0, h => h 0 (Nat.le_refl _)
 | n + 1, h => by rw [mx, mx, mx_congr n (fun j hj => h j (by omega)), h _ (Nat.le_refl _)]
theorem gField_ht {x : heat_furnace} (h : x.ok) {p : Nat} (hp : p < x.Firing.Kiln.P) : (gField x).ht (x.Firing.Kiln.Falls.length - 1) p = x.fur.heat x.fur.U x.fur.gd p := by
 have hk := kilnB_len h.k
 refine mx_congr _ fun j hj => ?_
 rw [gField_u x (by omega), gField_d x (by omega) hp]
theorem gField_high {x : heat_furnace} (h : x.ok) {p : Nat} (hp : p < x.Firing.Kiln.P) (t : Int) : t ≤ (gField x).ht (x.Firing.Kiln.Falls.length - 1) p ↔ x.fur.High p t := by
 rw [gField_ht h hp]; exact Fur.gd_heat p t
end Go.Abs
namespace Go.Abs
open Go
set_option linter.unusedVariables false
def Firing.w (f : Firing) : Prop := f.Readings.length * 24 + 24 ≤ 140737488355328
theorem Firing.q.w {f : Firing} (q : Firing.q f) : Firing.w f := by
 have := q.2.2.1
 have := qB_le
 unfold Firing.w; omega
theorem firing_w {f : Firing} (h : f.ok) : Firing.w f := by have := h.l; unfold Firing.w; omega
theorem firing_s {f : Firing} (h : f.ok) : Firing.s f := by
 obtain ⟨s1, s2, s3⟩ := kilnB_small h.k
 have := h.l
 exact ⟨⟨by unfold Go.maxLen; omega, fun x hx => by rw [s3 x hx]; unfold Go.maxLen; omega⟩, by unfold Go.maxLen; omega⟩
def noFur : heat_furnace := ⟨⟨⟨[]⟩, []⟩, [], []⟩
def askCode (f : Firing) (p : Int) : Int := bif !decide (firingCode f = 0) then 42 else bif !inB p 0 ((f.Kiln.P : Int) - 1) then 43 else bif !soundB (nf f) then 44 else 0
theorem heat_asks_eq (f : Firing) (q : Firing.s f) (w : Firing.w f) (p : Int) : heat_asks KK f p = some (bif decide (askCode f p = 0) then (nf f, 0) else (noFur, askCode f p)) := by
 unfold heat_asks askCode
 rw [heat_newFurnace_eq f w, heat_Check_eq f q]
 simp only [Option.bind_some]
 by_cases h : firingCode f = 0
 ·have hok := firing_ok h
  have hk := kilnB_len hok.k
  obtain ⟨x3, g1, g2, g3⟩ := kilnB_head hok.k
  have hP : x3.length = f.Kiln.P := by unfold Kiln.P; rw [g3]
  simp only [h, decide_true, Bool.not_true, cond_false, g2, Option.bind_some, heat_in_eq, hP, heat_sound_eq (nf_ok hok)]
  rw [w64_of (n := (f.Kiln.P : Int) - 1) (by omega) (by omega)]
  cases inB p 0 ((f.Kiln.P : Int) - 1) with
  | false => rfl
  | true => cases soundB (nf f) <;> rfl
 ·simp only [h, decide_false, Bool.not_false, cond_true]
  rfl
theorem askCode_ok {f : Firing} {p : Int} (h : askCode f p = 0) : firingCode f = 0 ∧ f.ok ∧ 0 ≤ p ∧ p < f.Kiln.P ∧ (nf f).fur.Sound ∧ soundB (nf f) = true := by
 unfold askCode at h
 by_cases hc : firingCode f = 0
 ·have hok := firing_ok hc
  simp only [hc, decide_true, Bool.not_true, cond_false] at h
  cases hi : inB p 0 ((f.Kiln.P : Int) - 1) with
  | false => rw [hi] at h; simp at h
  | true =>
   rw [hi] at h
   cases hs : soundB (nf f) with
   | false => rw [hs] at h; simp at h
   | true =>
    simp only [inB, Bool.and_eq_true, decide_eq_true_eq] at hi
    exact ⟨hc, hok, hi.1, by omega, (soundB_iff (nf_ok hok)).1 hs, rfl⟩
 ·simp [hc] at h
def boundR (f : Firing) (p : Int) (r : Range) : Range × Int := bif decide (askCode f p = 0) then (r, 0) else (⟨0, 0⟩, askCode f p)
def IsBound (f : Firing) (p : Int) (r : Range) : Prop := askCode f p = 0 → (∀ t, r.Lo ≤ t ↔ (nf f).fur.Low p.toNat t) ∧ ∀ t, t ≤ r.Hi ↔ (nf f).fur.High p.toNat t
theorem heat_Bound_eq (f : Firing) (q : Firing.s f) (w : Firing.w f) (p : Int) : ∃ r, IsBound f p r ∧ heat_Bound KK f p = some (boundR f p r) := by
 unfold heat_Bound boundR
 rw [heat_asks_eq f q w]
 simp only [Option.bind_some]
 by_cases h : askCode f p = 0
 ·obtain ⟨h1, h2, h3, h4, h5, h6⟩ := askCode_ok h
  have hpl : ((p.toNat : Nat) : Int) = p := by omega
  obtain ⟨r, e1, e2, e3⟩ := heat_bound_eq (nf_ok h2) h5 (q := p.toNat) (by show p.toNat < f.Kiln.P; omega)
  rw [hpl] at e1
  simp only [h, decide_true, cond_true, Bool.not_true, cond_false, e1, Option.bind_some]
  exact ⟨r, fun _ => ⟨e2, e3⟩, rfl⟩
 ·simp only [h, decide_false, cond_false, Bool.not_false, cond_true]
  exact ⟨⟨0, 0⟩, fun k => absurd k h, trivial⟩
theorem IsBound.one {f : Firing} {p : Int} {r s : Range} (h1 : IsBound f p r) (h2 : IsBound f p s) : boundR f p r = boundR f p s := by
 unfold boundR
 by_cases h : askCode f p = 0
 ·have a := h1 h
  have b := h2 h
  rw [bound_same a.1 a.2 b.1 b.2]
 ·simp only [h, decide_false, cond_false]
end Go.Abs
namespace Go.Abs
open Go
set_option linter.unusedVariables false
def rngX (x : heat_furnace) (q : Nat) : Range := (heat_furnace_bound KK x (q : Int)).getD ⟨0, 0⟩
theorem rngX_spec {x : heat_furnace} (h : x.ok) (hs : x.fur.Sound) {q : Nat} (hq : q < x.Firing.Kiln.P) :
  heat_furnace_bound KK x (q : Int) = some (rngX x q) ∧ (∀ t, (rngX x q).Lo ≤ t ↔ x.fur.Low q t) ∧ ∀ t, t ≤ (rngX x q).Hi ↔ x.fur.High q t := by
 obtain ⟨r, e1, e2, e3⟩ := heat_bound_eq h hs hq
 have : rngX x q = r := by unfold rngX; rw [e1]; rfl
 rw [this]; exact ⟨e1, e2, e3⟩
def askF (x : heat_furnace) (p : Int) (r : Range) : heat_furnace := ⟨x.Firing, x.least ++ [⟨p, r.Lo, -1⟩], x.most ++ [⟨p, r.Hi, -1⟩]⟩
theorem heat_asked_eq (x : heat_furnace) (h1 : x.least.length ≤ 1000) (h2 : x.most.length ≤ 1000) (p : Int) (r : Range) : heat_furnace_asked KK x p r = some (askF x p r) := by
 unfold heat_furnace_asked slices_Clone_heat_limit
 rw [room_of (by omega) (by omega)]
 simp only [Option.bind_some]
 rw [push_of (by omega) (by omega)]
 simp only [Option.bind_some]
 rw [room_of (by omega) (by omega)]
 simp only [Option.bind_some]
 rw [push_of (by omega) (by omega)]
 rfl
theorem askF_fur (x : heat_furnace) (p : Int) (r : Range) : (askF x p r).fur = x.fur.ask p.toNat r.Lo r.Hi := by
 unfold askF heat_furnace.fur Fur.ask
 simp [lp]
theorem askF_ok {x : heat_furnace} (h : x.ok) (hl : x.least.length < 1000) (hm : x.most.length < 1000) {p : Int} {r : Range} (h0 : 0 ≤ p) (hp : p < x.Firing.Kiln.P) (hlo : -3000 ≤ r.Lo ∧ r.Lo ≤ 3000) (hhi : -3000 ≤ r.Hi ∧ r.Hi ≤ 3000) : (askF x p r).ok := by
 refine ⟨h.k, by simp [askF]; omega, fun y hy => ?_, by simp [askF]; omega, fun y hy => ?_⟩
 ·have hy' : y ∈ x.least ++ [⟨p, r.Lo, -1⟩] := hy
  rcases List.mem_append.1 hy' with hy | hy
  ·exact h.l y hy
  ·simp only [List.mem_singleton] at hy; subst hy; exact ⟨h0, hp, hlo⟩
 ·have hy' : y ∈ x.most ++ [⟨p, r.Hi, -1⟩] := hy
  rcases List.mem_append.1 hy' with hy | hy
  ·exact h.m y hy
  ·simp only [List.mem_singleton] at hy; subst hy; exact ⟨h0, hp, hhi⟩
def wantB (P : Nat) (w : Want) : Bool := inB w.Place 0 ((P : Int) - 1) && (decide ((-3000 : Int) ≤ w.Heat.Lo) && (decide (w.Heat.Lo ≤ w.Heat.Hi) && decide (w.Heat.Hi ≤ (3000 : Int))))
def wantsB (P : Nat) (l : List Want) : Bool := !decide ((24 : Int) < (l.length : Int)) && l.all (wantB P)
theorem wantB_ok {P : Nat} {w : Want} (h : wantB P w = true) : 0 ≤ w.Place ∧ w.Place < P ∧ -3000 ≤ w.Heat.Lo ∧ w.Heat.Lo ≤ w.Heat.Hi ∧ w.Heat.Hi ≤ 3000 := by
 simp only [wantB, inB, Bool.and_eq_true, decide_eq_true_eq] at h
 omega
theorem wantsB_ok {P : Nat} {l : List Want} (h : wantsB P l = true) : l.length ≤ 24 ∧ ∀ w ∈ l, 0 ≤ w.Place ∧ w.Place < P ∧ -3000 ≤ w.Heat.Lo ∧ w.Heat.Lo ≤ w.Heat.Hi ∧ w.Heat.Hi ≤ 3000 := by
 simp only [wantsB, Bool.and_eq_true, Bool.not_eq_true', decide_eq_false_iff_not, List.all_eq_true] at h
 exact ⟨by omega, fun w hw => wantB_ok (h.2 w hw)⟩
theorem contains_Want {l : List Want} (hl : l.length ≤ 100000) {f : Want → Option Bool} {p : Want → Bool} (hf : ∀ x, f x = some (p x)) : slices_ContainsFunc_api_Want KK l f = some (l.any p) := by
 unfold slices_ContainsFunc_api_Want slices_IndexFunc_api_Want
 rw [indexFunc_gen (body := slices_IndexFunc_api_Want.b0 KK f l) (p := p) (fun x _ => hf x) (by omega) (by unfold KK; omega) rfl]
 have : l.any p = (l.findIdx? p).isSome := by rw [List.findIdx?_isSome]
 rw [this]
 cases l.findIdx? p with
 | none => rfl
 | some i => simp
theorem kiln_P {k : Kiln} (h : kilnB k = true) : ∃ x3, at? k.Falls 0 = some x3 ∧ x3.length = k.P := by
 obtain ⟨x3, g1, g2, g3⟩ := kilnB_head h
 exact ⟨x3, g2, by unfold Kiln.P; rw [g3]⟩
theorem heat_wanted_1_eq {f : Firing} (h : kilnB f.Kiln = true) (w : Want) : heat_wanted_1 KK w f = some (wantB f.Kiln.P w) := by
 obtain ⟨x3, g1, g2⟩ := kiln_P h
 have hk := kilnB_len h
 unfold heat_wanted_1 wantB
 simp only [g1, g2, Option.bind_some, heat_in_eq]
 rw [w64_of (n := (f.Kiln.P : Int) - 1) (by omega) (by omega)]
 cases inB w.Place 0 ((f.Kiln.P : Int) - 1) <;> cases decide ((-3000 : Int) ≤ w.Heat.Lo) <;> cases decide (w.Heat.Lo ≤ w.Heat.Hi) <;> rfl
def wantedF (x : heat_furnace) (l : List Want) : heat_furnace := l.foldl (fun s w => askF s w.Place w.Heat) x
theorem wantedF_ok : ∀ (l : List Want) {x : heat_furnace}, x.ok → x.least.length + l.length ≤ 1000 → x.most.length + l.length ≤ 1000 → (∀ w ∈ l, 0 ≤ w.Place ∧ w.Place < x.Firing.Kiln.P ∧ -3000 ≤ w.Heat.Lo ∧ w.Heat.Lo ≤ w.Heat.Hi ∧ w.Heat.Hi ≤ 3000) → (wantedF x l).ok
 | [], x, h, _, _, _ => h
 | w :: l, x, h, h1, h2, h3 => by
  simp only [List.length_cons] at h1 h2
  have hw := h3 w (by simp)
  have := wantedF_ok l (x := askF x w.Place w.Heat) (askF_ok h (by omega) (by omega) hw.1 hw.2.1 (by omega) (by omega)) (by simp [askF]; omega) (by simp [askF]; omega) (fun v hv => h3 v (List.mem_cons_of_mem _ hv))
  exact this
theorem heat_wanted_loop (l : List Want) (x : heat_furnace) (hl : l.length ≤ 24) (h1 : x.least.length ≤ 200) (h2 : x.most.length ≤ 200) : whl (heat_wanted.b0 KK l) KK (x, 0) = some (.brk (wantedF x l)) := by
 have h := (whl_fold (l := l) (body := heat_wanted.b0 KK l) (k := KK) (fun i s => (s, i)) (fun s w => askF s w.Place w.Heat) (fun i s => s.least.length ≤ 200 + i ∧ s.most.length ≤ 200 + i) (s0 := x) (by omega) (by unfold KK; omega) ⟨by omega, by omega⟩ (fun i w s hw hI => by
  have hi : i < l.length := (List.getElem?_eq_some_iff.1 hw).1
  refine ⟨?_, by simp [askF]; omega, by simp [askF]; omega⟩
  unfold heat_wanted.b0
  simp only [lt_dec hi, cond_true, at_of hw, Option.bind_some]
  rw [heat_asked_eq s (by omega) (by omega)]
  rfl) (fun s _ => by
  unfold heat_wanted.b0
  simp only [lt_dec_self]; rfl)).1
 rw [h]; rfl
theorem nf_len {f : Firing} (h : f.ok) : (nf f).least.length ≤ 100 ∧ (nf f).most.length ≤ 100 := by
 have h2 := h.l
 have a := limsOf_len f.Readings lo?
 have b := limsOf_len f.Readings hi?
 exact ⟨by show (limsOf f.Readings lo?).length ≤ 100; omega, by show (limsOf f.Readings hi?).length ≤ 100; omega⟩
def wCode (f : Firing) (l : List Want) : Int := bif !decide (firingCode f = 0) then 42 else bif !wantsB f.Kiln.P l then 49 else bif !soundB (nf f) then 44 else 0
theorem heat_wanted_eq (f : Firing) (q : Firing.s f) (w : Firing.w f) (l : List Want) : heat_wanted KK f l = some (bif decide (wCode f l = 0) then (nf f, wantedF (nf f) l, 0) else (noFur, noFur, wCode f l)) := by
 unfold heat_wanted wCode
 rw [heat_Check_eq f q]
 simp only [Option.bind_some]
 by_cases h : firingCode f = 0
 ·have hok := firing_ok h
  have hk := kilnB_len hok.k
  simp only [h, decide_true, Bool.not_true, cond_false]
  unfold wantsB
  by_cases hl : (24 : Int) < (l.length : Int)
  ·simp only [hl, decide_true, Bool.not_true, cond_false, Bool.false_and, Bool.not_false, cond_true]; rfl
  ·simp only [hl, decide_false, Bool.not_false, cond_true, Bool.true_and]
   rw [contains_Want (by omega) (p := fun w => !wantB f.Kiln.P w) (fun w => by unfold heat_wanted_2; simp only [heat_wanted_1_eq hok.k, Option.bind_some])]
   have : (l.any fun w => !wantB f.Kiln.P w) = !l.all (wantB f.Kiln.P) := by simp [List.all_eq_not_any_not]
   rw [this]
   simp only [Option.bind_some]
   cases l.all (wantB f.Kiln.P) with
   | false => rfl
   | true =>
    simp only [Bool.not_true, cond_false, heat_asks_eq f q w, Option.bind_some]
    have hi : inB 0 0 ((f.Kiln.P : Int) - 1) = true := by simp [inB]; omega
    unfold askCode
    simp only [h, hi, decide_true, Bool.not_true, cond_false]
    cases hs : soundB (nf f) with
    | false => rfl
    | true =>
     have hn := nf_len hok
     simp only [Bool.not_true, cond_false, decide_true, cond_true]
     rw [heat_wanted_loop l (nf f) (by omega) (by omega) (by omega)]
     rfl
 ·simp only [h, decide_false, Bool.not_false, cond_true]; rfl
theorem wCode_ok {f : Firing} {l : List Want} (h : wCode f l = 0) : firingCode f = 0 ∧ f.ok ∧ l.length ≤ 24 ∧ (∀ w ∈ l, 0 ≤ w.Place ∧ w.Place < f.Kiln.P ∧ -3000 ≤ w.Heat.Lo ∧ w.Heat.Lo ≤ w.Heat.Hi ∧ w.Heat.Hi ≤ 3000) ∧ (nf f).fur.Sound ∧ soundB (nf f) = true ∧ (wantedF (nf f) l).ok ∧ wantsB f.Kiln.P l = true := by
 unfold wCode at h
 by_cases hc : firingCode f = 0
 ·have hok := firing_ok hc
  simp only [hc, decide_true, Bool.not_true, cond_false] at h
  cases hw : wantsB f.Kiln.P l with
  | false => rw [hw] at h; simp at h
  | true =>
   rw [hw] at h
   cases hs : soundB (nf f) with
   | false => rw [hs] at h; simp at h
   | true =>
    obtain ⟨w1, w2⟩ := wantsB_ok hw
    have hn := nf_len hok
    exact ⟨hc, hok, w1, w2, (soundB_iff (nf_ok hok)).1 hs, rfl, wantedF_ok l (nf_ok hok) (by omega) (by omega) w2, rfl⟩
 ·simp [hc] at h
def ringOf (w : Want) : Reading := ⟨1, w.Place, 3, 0, w.Heat⟩
def wf (f : Firing) (l : List Want) : Firing := ⟨f.Kiln, f.Readings ++ l.map ringOf⟩
def showR (f : Firing) (l : List Want) : Field × Int := bif !decide (wCode f l = 0) then (⟨[], []⟩, wCode f l) else bif !soundB (wantedF (nf f) l) then (⟨[], []⟩, 3) else (gField (wantedF (nf f) l), 0)
theorem heat_Show_eq (f : Firing) (q : Firing.s f) (w : Firing.w f) (l : List Want) : heat_Show KK f l = some (showR f l) := by
 unfold heat_Show showR
 rw [heat_wanted_eq f q w]
 simp only [Option.bind_some]
 by_cases h : wCode f l = 0
 ·obtain ⟨h1, h2, h3, h4, h5, h6, h7, _⟩ := wCode_ok h
  simp only [h, decide_true, cond_true, Bool.not_true, cond_false, heat_sound_eq h7, Option.bind_some]
  cases soundB (wantedF (nf f) l) with
  | false => rfl
  | true => simp only [Bool.not_true, cond_false, heat_greatest_eq h7, Option.bind_some]
 ·simp only [h, decide_false, cond_false, Bool.not_false, cond_true]
theorem fieldCode_ok {f : Firing} {x : Field} (h1 : firingCode f = 0) (h2 : FieldOk f.Kiln x) (h3 : agB f x = true) : fieldCode f x = 0 := by
 unfold fieldCode
 simp [h1, (fieldB_iff h2.kv x).2 h2, h3]
end Go.Abs
namespace Go.Abs
open Go
set_option linter.unusedVariables false
end Go.Abs
namespace Go.Abs
open Go
set_option linter.unusedVariables false
end Go.Abs
namespace Go.Abs
open Go
end Go.Abs
namespace Go.Abs
open Go
set_option linter.unusedVariables false
end Go.Abs
namespace Go.Abs
open Go
set_option linter.unusedVariables false
def bndR (f : Firing) (p : Int) : Range × Int := bif decide (askCode f p = 0) then (rngX (nf f) p.toNat, 0) else (⟨0, 0⟩, askCode f p)
theorem rng_isBound (f : Firing) (p : Int) : IsBound f p (rngX (nf f) p.toNat) := by
 intro h
 obtain ⟨h1, h2, h3, h4, h5, h6⟩ := askCode_ok h
 exact (rngX_spec (nf_ok h2) h5 (q := p.toNat) (by show p.toNat < f.Kiln.P; omega)).2
theorem heat_Bound_rng (f : Firing) (q : Firing.s f) (w : Firing.w f) (p : Int) : heat_Bound KK f p = some (bndR f p) := by
 obtain ⟨r, h1, h2⟩ := heat_Bound_eq f q w p
 rw [h2, h1.one (rng_isBound f p)]; rfl
theorem gField_agB {f : Firing} (h : f.ok) (hs : (nf f).fur.Sound) : FieldOk f.Kiln (gField (nf f)) ∧ agB f (gField (nf f)) = true := by
 have hk := kilnB_len h.k
 refine ⟨gField_ok (nf_ok h) hs, ?_⟩
 rw [agB_iff h]
 have hsm := fur_small (nf_ok h)
 have hg := Fur.gd_agrees hs
 have hm : (nf f).fur.m = f.Kiln.Falls.length - 1 := rfl
 have e : ∀ p, p < f.Kiln.P → (nf f).fur.heat (gField (nf f)).u (gField (nf f)).d p = (nf f).fur.heat (nf f).fur.U (nf f).fur.gd p := by
  intro p hp
  refine mx_congr _ fun j hj => ?_
  have hj2 : j < (nf f).Firing.Kiln.Falls.length := by show j < f.Kiln.Falls.length; omega
  rw [gField_u _ hj2, gField_d _ hj2 hp]
 exact ⟨fun z hz => by rw [e _ (hsm.1 z hz).1]; exact hg.1 z hz, fun z hz => by rw [e _ (hsm.2 z hz).1]; exact hg.2 z hz⟩
theorem agree_facts {f : Firing} (h : f.ok) {x : Field} (hF : FieldOk f.Kiln x) (ha : agB f x = true) :
  (nf f).fur.Sound ∧ ∀ p, (nf f).fur.High p (x.ht (f.Kiln.Falls.length - 1) p) ∧ (nf f).fur.Low p (x.ht (f.Kiln.Falls.length - 1) p) := by
 have hA := (agB_iff h x).1 ha
 have hI : (nf f).fur.IsField x.u x.d := hF.isField rfl (fun _ _ => rfl) (fun _ _ => rfl)
 exact ⟨hA.sound hI, fun p => ⟨hA.high hI p, hA.low hI p⟩⟩
theorem Fur.High.mono {f : Fur} {q : Nat} {s t : Int} (h : f.High q t) (hst : s ≤ t) : f.High q s := by
 obtain ⟨⟨j, h1, h2⟩, h3⟩ := h
 exact ⟨⟨j, h1, by omega⟩, fun y hy e => by have := h3 y hy e; omega⟩
theorem rng_le {f : Firing} {p : Int} (h : askCode f p = 0) : (rngX (nf f) p.toNat).Lo ≤ (rngX (nf f) p.toNat).Hi := by
 obtain ⟨h1, h2, h3, h4, h5, h6⟩ := askCode_ok h
 obtain ⟨a, b⟩ := rng_isBound f p h
 obtain ⟨g1, g2⟩ := gField_agB h2 h5
 obtain ⟨_, g3⟩ := agree_facts h2 g1 g2
 obtain ⟨g4, g5⟩ := g3 p.toNat
 have := (a _).2 g5
 have := (b _).2 g4
 omega
theorem ask_field {f : Firing} (h : f.ok) (hs : (nf f).fur.Sound) {q : Nat} (hq : q < f.Kiln.P) {n : Int} (h1 : (nf f).fur.Low q n) (h2 : (nf f).fur.High q n) :
  (askF (nf f) (q : Int) ⟨n, n⟩).ok ∧ (askF (nf f) (q : Int) ⟨n, n⟩).fur.Sound ∧ FieldOk f.Kiln (gField (askF (nf f) (q : Int) ⟨n, n⟩)) ∧ agB f (gField (askF (nf f) (q : Int) ⟨n, n⟩)) = true ∧ (gField (askF (nf f) (q : Int) ⟨n, n⟩)).ht (f.Kiln.Falls.length - 1) q = n := by
 have hk := kilnB_len h.k
 have hn := nf_len h
 have hb : -3000 ≤ n ∧ n ≤ 3000 := by
  have a1 := h1.1 0 (Nat.zero_le _)
  obtain ⟨⟨j, _, a2⟩, _⟩ := h2
  have a3 := (nf f).fur.U_le j
  have a4 := fur_ok (nf_ok h) 0 q
  have a5 := fur_ok (nf_ok h) j q
  omega
 have hok : (askF (nf f) (q : Int) ⟨n, n⟩).ok := askF_ok (nf_ok h) (by omega) (by omega) (by omega) (by show (q : Int) < f.Kiln.P; omega) hb hb
 have hfur : (askF (nf f) (q : Int) ⟨n, n⟩).fur = (nf f).fur.ask q n n := by rw [askF_fur, Int.toNat_natCast]
 have hS : (askF (nf f) (q : Int) ⟨n, n⟩).fur.Sound := by rw [hfur]; exact Fur.ask_sound (fur_ok (nf_ok h)) hs q n h1 h2
 have hF : FieldOk f.Kiln (gField (askF (nf f) (q : Int) ⟨n, n⟩)) := gField_ok hok hS
 have hg := Fur.gd_agrees hS
 have e : ∀ p, p < f.Kiln.P → (gField (askF (nf f) (q : Int) ⟨n, n⟩)).ht (f.Kiln.Falls.length - 1) p = (askF (nf f) (q : Int) ⟨n, n⟩).fur.heat (askF (nf f) (q : Int) ⟨n, n⟩).fur.U (askF (nf f) (q : Int) ⟨n, n⟩).fur.gd p := fun p hp => gField_ht hok hp
 refine ⟨hok, hS, hF, ?_, ?_⟩
 ·rw [agB_iff h]
  have hsm := fur_small (nf_ok h)
  refine ⟨fun z hz => ?_, fun z hz => ?_⟩
  ·show z.2 ≤ (gField (askF (nf f) (q : Int) ⟨n, n⟩)).ht (f.Kiln.Falls.length - 1) z.1
   rw [e _ (hsm.1 z hz).1]
   exact hg.1 z (by rw [hfur]; exact List.mem_append.2 (.inl hz))
  ·show (gField (askF (nf f) (q : Int) ⟨n, n⟩)).ht (f.Kiln.Falls.length - 1) z.1 ≤ z.2
   rw [e _ (hsm.2 z hz).1]
   exact hg.2 z (by rw [hfur]; exact List.mem_append.2 (.inl hz))
 ·rw [e q hq]
  have a := hg.1 (q, n) (by rw [hfur]; exact List.mem_append.2 (.inr (by simp)))
  have b := hg.2 (q, n) (by rw [hfur]; exact List.mem_append.2 (.inr (by simp)))
  simp only at a b
  omega
def attX (f : Firing) (p : Int) (high : Bool) : Field := bif high then gField (nf f) else gField (askF (nf f) p ⟨(rngX (nf f) p.toNat).Lo, (rngX (nf f) p.toNat).Lo⟩)
def attR (f : Firing) (p : Int) (high : Bool) : Field × Int := bif decide (askCode f p = 0) then (attX f p high, 0) else (⟨[], []⟩, askCode f p)
theorem heat_lowest_rng {f : Firing} {p : Int} (h : askCode f p = 0) : ∃ pf, heat_furnace_lowest KK (nf f) p = some ((rngX (nf f) p.toNat).Lo, pf) ∧ LowPf (nf f) p.toNat (rngX (nf f) p.toNat).Lo pf := by
 obtain ⟨h1, h2, h3, h4, h5, h6⟩ := askCode_ok h
 have hpp : ((p.toNat : Nat) : Int) = p := by omega
 obtain ⟨n, pf, a, b, c⟩ := heat_lowest_eq (nf_ok h2) h5 (q := p.toNat) (by show p.toNat < f.Kiln.P; omega)
 rw [hpp] at a
 have : n = (rngX (nf f) p.toNat).Lo := eq_of_ge_iff fun t => by rw [b t, (rng_isBound f p h).1 t]
 subst this
 exact ⟨pf, a, c⟩
theorem attX_facts {f : Firing} {p : Int} (h : askCode f p = 0) (high : Bool) : FieldOk f.Kiln (attX f p high) ∧ agB f (attX f p high) = true ∧ (attX f p high).ht (f.Kiln.Falls.length - 1) p.toNat = bif high then (rngX (nf f) p.toNat).Hi else (rngX (nf f) p.toNat).Lo := by
 obtain ⟨h1, h2, h3, h4, h5, h6⟩ := askCode_ok h
 have hpp : ((p.toNat : Nat) : Int) = p := by omega
 obtain ⟨a, b⟩ := rng_isBound f p h
 cases high with
 | true =>
  obtain ⟨g1, g2⟩ := gField_agB h2 h5
  refine ⟨g1, g2, eq_of_le_iff fun t => ?_⟩
  simp only [cond_true]
  rw [b t]
  exact gField_high (nf_ok h2) (by show p.toNat < f.Kiln.P; omega) t
 | false =>
  have hlo : (nf f).fur.Low p.toNat (rngX (nf f) p.toNat).Lo := (a _).1 (Int.le_refl _)
  have hhi : (nf f).fur.High p.toNat (rngX (nf f) p.toNat).Lo := (b _).1 (rng_le h)
  obtain ⟨_, _, g1, g2, g3⟩ := ask_field h2 h5 (q := p.toNat) (by omega) hlo hhi
  rw [hpp] at g1 g2 g3
  exact ⟨g1, g2, g3⟩
theorem heat_Attain_eq (f : Firing) (q : Firing.s f) (w : Firing.w f) (p : Int) (high : Bool) : heat_Attain KK f p high = some (attR f p high) := by
 unfold heat_Attain attR attX
 rw [heat_asks_eq f q w]
 simp only [Option.bind_some]
 by_cases h : askCode f p = 0
 ·obtain ⟨h1, h2, h3, h4, h5, h6⟩ := askCode_ok h
  have hpp : ((p.toNat : Nat) : Int) = p := by omega
  simp only [h, decide_true, cond_true, Bool.not_true, cond_false]
  cases high with
  | true => simp only [Bool.not_true, cond_false, heat_greatest_eq (nf_ok h2), Option.bind_some, cond_true]
  | false =>
   have hn := nf_len h2
   obtain ⟨pf, e1, _⟩ := heat_lowest_rng h
   obtain ⟨a, b⟩ := rng_isBound f p h
   have hlo : (nf f).fur.Low p.toNat (rngX (nf f) p.toNat).Lo := (a _).1 (Int.le_refl _)
   have hhi : (nf f).fur.High p.toNat (rngX (nf f) p.toNat).Lo := (b _).1 (rng_le h)
   have g0 := (ask_field h2 h5 (q := p.toNat) (by omega) hlo hhi).1
   rw [hpp] at g0
   simp only [Bool.not_false, cond_true, cond_false, e1, Option.bind_some]
   rw [heat_asked_eq (nf f) (by omega) (by omega)]
   simp only [Option.bind_some, heat_greatest_eq g0]
 ·simp only [h, decide_false, cond_false, Bool.not_false, cond_true]
theorem Fur.sub_sound {f g : Fur} (hm : g.m = f.m) (hlo : g.lo = f.lo) (hhi : g.hi = f.hi) (hL : ∀ x ∈ g.L, x ∈ f.L) (hM : ∀ x ∈ g.M, x ∈ f.M) (hs : f.Sound) : g.Sound ∧ ∀ j, f.U j ≤ g.U j := by
 have hU : ∀ j, f.U j ≤ g.U j := by
  intro j
  rw [Fur.U_iff]
  refine ⟨f.U_le j, fun x hx => ?_⟩
  rw [hhi]
  exact f.U_lim j (hM x hx)
 refine ⟨⟨fun j hj => ?_, fun x hx => ⟨fun y hy e => (hs.2 x (hL x hx)).1 y (hM y hy) e, ?_⟩⟩, hU⟩
 ·have := hs.1 j (by omega)
  have := hU j
  omega
 ·obtain ⟨j, h1, h2⟩ := (hs.2 x (hL x hx)).2
  have := hU j
  exact ⟨j, by omega, by rw [hlo]; omega⟩
theorem sub_sound {f g : Firing} (hk : g.Kiln = f.Kiln) (hr : ∀ r ∈ g.Readings, r ∈ f.Readings) (hs : (nf f).fur.Sound) : (nf g).fur.Sound := by
 refine (Fur.sub_sound (f := (nf f).fur) (g := (nf g).fur) ?_ ?_ ?_ ?_ ?_ hs).1
 ·show g.Kiln.Falls.length - 1 = f.Kiln.Falls.length - 1; rw [hk]
 ·show (fun j p => (g.Kiln.at j p).Lo) = fun j p => (f.Kiln.at j p).Lo; rw [hk]
 ·show (fun j p => (g.Kiln.at j p).Hi) = fun j p => (f.Kiln.at j p).Hi; rw [hk]
 ·intro z hz
  obtain ⟨r, h1, h2⟩ := limsOf_lp.1 hz
  exact limsOf_lp.2 ⟨r, hr r h1, h2⟩
 ·intro z hz
  obtain ⟨r, h1, h2⟩ := limsOf_lp.1 hz
  exact limsOf_lp.2 ⟨r, hr r h1, h2⟩
end Go.Abs
namespace Go.Abs
open Go
set_option linter.unusedVariables false
def rest (f : Firing) : List Int → Option (List Reading)
 | [] => some []
 | n :: l => if n < 0 then rest f l else if n < f.Readings.length then (rest f l).map ((f.Readings.getD n.toNat rd0) :: ·) else none
end Go.Abs
namespace Go.Abs
open Go
set_option linter.unusedVariables false
theorem whl_inv {S E R τ : Type} {n : Nat} {body : τ → Option (Stp τ E R)} (mk : Int → S → τ) (g : S → E) (Inv : Nat → S → Prop) (hn : n ≤ 9223372036854775807) {k : Nat} (hk : n < k) {s0 : S} (h0 : Inv 0 s0)
  (h1 : ∀ i s, i < n → Inv i s → ∃ s', body (mk (i : Int) s) = some (.next (mk (w64 ((i : Int) + 1)) s')) ∧ Inv (i + 1) s') (h2 : ∀ s, Inv n s → body (mk (n : Int) s) = some (.brk (g s))) :
  ∃ s, whl body k (mk 0 s0) = some (.brk (g s)) ∧ Inv n s := by
 have key : ∀ (d i k : Nat) (s : S), i + d = n → d < k → Inv i s → ∃ s1, whl body k (mk (i : Int) s) = some (.brk (g s1)) ∧ Inv n s1 := by
  intro d
  induction d with
  | zero =>
   intro i k s hi hk hI
   cases k with
   | zero => omega
   | succ k =>
    have : i = n := by omega
    subst this
    exact ⟨s, by rw [whl, h2 s hI], hI⟩
  | succ d ih =>
   intro i k s hi hk hI
   cases k with
   | zero => omega
   | succ k =>
    obtain ⟨s', g1, g2⟩ := h1 i s (by omega) hI
    have : w64 ((i : Int) + 1) = ((i + 1 : Nat) : Int) := by rw [w64_of (by omega) (by omega)]; omega
    rw [this] at g1
    obtain ⟨s'', g3, g4⟩ := ih (i + 1) k s' (by omega) (by omega) g2
    exact ⟨s'', by rw [whl, g1]; exact g3, g4⟩
 exact key n 0 k s0 (by omega) hk h0
theorem tmod_bd (a : Int) {m : Int} (h : 0 < m) : -m < Int.tmod a m ∧ Int.tmod a m < m := by
 have h1 := Int.tmod_lt_of_pos a h
 have h2 := Int.lt_tmod_of_pos a h
 exact ⟨h2, h1⟩
theorem R01_Mod_eq (n : Int) {m : Int} (h : 0 < m) (hm : m ≤ 4611686018427387904) : ∃ v, R01_Mod KK n m = some v ∧ 0 ≤ v ∧ v < m := by
 unfold R01_Mod nz?
 rw [if_neg (by omega)]
 simp only [Option.bind_some]
 have h1 := tmod_bd n h
 rw [w64_of (by omega) (by omega)]
 have h2 := tmod_bd (Int.tmod n m + m) h
 refine ⟨_, rfl, Int.tmod_nonneg _ (by omega), h2.2⟩
theorem R01_At_eq (l : List Int) (hl : l.length ≤ Go.maxLen) (i : Int) (hs : l.length * 8 ≤ 140737488355328) : ∃ v, R01_At KK l i = some v := by
 unfold R01_At
 by_cases h : (l.length : Int) = 0
 ·simp [h]
 ·simp only [h, decide_false, cond_false]
  obtain ⟨v, e, h1, h2⟩ := R01_Mod_eq i (m := (l.length : Int)) (by omega) (by omega)
  rw [e]
  simp only [Option.bind_some]
  rw [at_getD 0 h1 h2]
  exact ⟨_, rfl⟩
def rowOk (n : Nat) (s : List Range × List Int) : Prop := s.1.length = n ∧ s.2.length = n ∧ ∀ q, q < n → 20 ≤ (s.1.getD q R0).Lo ∧ (s.1.getD q R0).Lo ≤ s.2.getD q 0 ∧ s.2.getD q 0 ≤ (s.1.getD q R0).Hi ∧ (s.1.getD q R0).Hi ≤ 700
theorem rowOk_push {n : Nat} {s : List Range × List Int} (h : rowOk n s) {r : Range} {v : Int} (h1 : 20 ≤ r.Lo) (h2 : r.Lo ≤ v) (h3 : v ≤ r.Hi) (h4 : r.Hi ≤ 700) : rowOk (n + 1) (s.1 ++ [r], s.2 ++ [v]) := by
 obtain ⟨g1, g2, g3⟩ := h
 refine ⟨by simp [g1], by simp [g2], fun q hq => ?_⟩
 by_cases hqn : q < n
 ·have e1 : (s.1 ++ [r]).getD q R0 = s.1.getD q R0 := by rw [List.getD_eq_getElem?_getD, List.getD_eq_getElem?_getD, List.getElem?_append_left (by omega)]
  have e2 : (s.2 ++ [v]).getD q 0 = s.2.getD q 0 := by rw [List.getD_eq_getElem?_getD, List.getD_eq_getElem?_getD, List.getElem?_append_left (by omega)]
  simp only [e1, e2]; exact g3 q hqn
 ·have hq' : q = n := by omega
  have e1 : (s.1 ++ [r]).getD q R0 = r := by rw [List.getD_eq_getElem?_getD, List.getElem?_append_right (by omega)]; simp [hq', g1]
  have e2 : (s.2 ++ [v]).getD q 0 = v := by rw [List.getD_eq_getElem?_getD, List.getElem?_append_right (by omega)]; simp [hq', g2]
  simp only [e1, e2]; exact ⟨h1, h2, h3, h4⟩
structure RawS (r : R04_Raw) : Prop where
 f : r.Falls.length * 16 ≤ 140737488355328
 h : r.Heats.length * 8 ≤ 140737488355328
 r : r.Readings.length * 32 ≤ 140737488355328
theorem R04_Raw.q.s {r : R04_Raw} (q : R04_Raw.q r) : RawS r := by
 have := qB_le
 obtain ⟨_, _, ⟨_, h1, _⟩, ⟨_, h2, _⟩, ⟨_, h3, _⟩⟩ := q
 exact ⟨by omega, by omega, by omega⟩
theorem made_row (r : R04_Raw) (hr : RawS r) (x1 x2 : Int) (h1 : 0 ≤ x1 ∧ x1 < 4) (h2 : 0 ≤ x2 ∧ x2 < 7) {j : Nat} (hj : j < 4) :
  ∃ s : List Range × List Int, whl (R04_Made.b1 KK r x1 x2 (j : Int)) KK (0, [], []) = some (.brk s) ∧ rowOk (x2.toNat + 1) s := by
 have hf := hr.f
 have e2 : w64 (1 + x2) = ((x2.toNat + 1 : Nat) : Int) := by rw [w64_of (by omega) (by omega)]; omega
 refine whl_inv (n := x2.toNat + 1) (fun i (s : List Range × List Int) => (i, s.1, s.2)) (fun s => s) rowOk (by omega) (by unfold KK; omega) (s0 := ([], [])) ⟨rfl, rfl, fun q hq => by omega⟩ (fun i s hi hI => ?_) (fun s _ => ?_)
 ·obtain ⟨g1, g2, g3⟩ := hI
  have hlt : decide ((i : Int) < w64 (1 + x2)) = true := by rw [e2]; exact lt_dec hi
  have fin : ∀ a b : Int, ∃ s', (R01_Mod KK (w64 ((w64 ((w64 ((j : Int) * 3)) + (w64 ((i : Int) * 2)))) + (w64 (Int.tdiv a 7)))) 6).bind (fun x20 => (R01_Mod KK a 120).bind fun x21 => (push? 16 s.1 (⟨w64 (20 + (w64 (110 * x20))), w64 ((w64 (20 + (w64 (110 * x20)))) + x21)⟩ : Range)).bind fun l22 => (R01_Mod KK b (w64 (x21 + 1))).bind fun x23 => (push? 8 s.2 (w64 ((w64 (20 + (w64 (110 * x20)))) + x23))).bind fun l24 => some (Stp.next (w64 ((i : Int) + 1), l22, l24))) = (some (.next (w64 ((i : Int) + 1), s'.1, s'.2)) : Option (Stp (Int × (List Range) × (List Int)) ((List Range) × (List Int)) (Firing × Field))) ∧ rowOk (i + 1) s' := by
   intro a b
   obtain ⟨v20, m1, m2, m3⟩ := R01_Mod_eq (w64 ((w64 ((w64 ((j : Int) * 3)) + (w64 ((i : Int) * 2)))) + (w64 (Int.tdiv a 7)))) (m := 6) (by omega) (by omega)
   obtain ⟨v21, n1, n2, n3⟩ := R01_Mod_eq a (m := 120) (by omega) (by omega)
   obtain ⟨v23, o1, o2, o3⟩ := R01_Mod_eq b (m := v21 + 1) (by omega) (by omega)
   have w1 : w64 (110 * v20) = 110 * v20 := w64_of (by omega) (by omega)
   have w2 : w64 (20 + 110 * v20) = 20 + 110 * v20 := w64_of (by omega) (by omega)
   have w3 : w64 (20 + 110 * v20 + v21) = 20 + 110 * v20 + v21 := w64_of (by omega) (by omega)
   have w4 : w64 (v21 + 1) = v21 + 1 := w64_of (by omega) (by omega)
   have w5 : w64 (20 + 110 * v20 + v23) = 20 + 110 * v20 + v23 := w64_of (by omega) (by omega)
   simp only [m1, n1, Option.bind_some, w1, w2, w3, w4]
   rw [push_of (by omega) (by omega)]
   simp only [Option.bind_some, o1, w5]
   rw [push_of (by omega) (by omega)]
   exact ⟨(s.1 ++ [⟨20 + 110 * v20, 20 + 110 * v20 + v21⟩], s.2 ++ [20 + 110 * v20 + v23]), rfl, rowOk_push ⟨g1, g2, g3⟩ (by show 20 ≤ 20 + 110 * v20; omega) (by show 20 + 110 * v20 ≤ _; omega) (by show _ ≤ 20 + 110 * v20 + v21; omega) (by show 20 + 110 * v20 + v21 ≤ 700; omega)⟩
  unfold R04_Made.b1
  simp only [hlt, cond_true]
  by_cases hF : (0 : Int) < (r.Falls.length : Int)
  ·have hn : nz? (r.Falls.length : Int) = some () := by unfold nz?; rw [if_neg (by omega)]
   have e3 : w64 ((j : Int) * w64 (1 + x2)) = (j : Int) * ((x2.toNat + 1 : Nat) : Int) := by
    rw [e2]
    have hb : (j : Int) * ((x2.toNat + 1 : Nat) : Int) ≤ 3 * 7 := Int.mul_le_mul (by omega) (by omega) (by omega) (by omega)
    have hb0 : 0 ≤ (j : Int) * ((x2.toNat + 1 : Nat) : Int) := Int.mul_nonneg (by omega) (by omega)
    exact w64_of (by omega) (by omega)
   have hb : (j : Int) * ((x2.toNat + 1 : Nat) : Int) ≤ 3 * 7 := Int.mul_le_mul (by omega) (by omega) (by omega) (by omega)
   have hb0 : 0 ≤ (j : Int) * ((x2.toNat + 1 : Nat) : Int) := Int.mul_nonneg (by omega) (by omega)
   have e4 : w64 ((j : Int) * ((x2.toNat + 1 : Nat) : Int) + (i : Int)) = (j : Int) * ((x2.toNat + 1 : Nat) : Int) + (i : Int) := w64_of (by omega) (by omega)
   have t1 : 0 ≤ Int.tmod ((j : Int) * ((x2.toNat + 1 : Nat) : Int) + (i : Int)) (r.Falls.length : Int) := Int.tmod_nonneg _ (by omega)
   have t2 := (tmod_bd ((j : Int) * ((x2.toNat + 1 : Nat) : Int) + (i : Int)) hF).2
   simp only [hF, decide_true, cond_true, hn, Option.bind_some, e3, e4]
   rw [at_getD (⟨0, 0⟩ : A2 Int) t1 t2]
   simp only [Option.bind_some]
   exact fin _ _
  ·simp only [hF, decide_false, cond_false]
   exact fin 0 0
 ·unfold R04_Made.b1
  simp only [e2, lt_dec_self]; rfl
def kilOk (P n : Nat) (s : List (List Range) × List Int × List (List Int)) : Prop := s.1.length = n ∧ s.2.1.length = n ∧ s.2.2.length = n ∧ ∀ q, q < n → rowOk P (s.1.getD q [], s.2.2.getD q []) ∧ 1000 ≤ s.2.1.getD q 0 ∧ s.2.1.getD q 0 < 1600
theorem getD_app {α : Type} (d : α) (l : List α) (x : α) (q : Nat) : (l ++ [x]).getD q d = if q < l.length then l.getD q d else if q = l.length then x else d := by
 rw [List.getD_eq_getElem?_getD, List.getD_eq_getElem?_getD]
 by_cases h : q < l.length
 ·rw [List.getElem?_append_left h, if_pos h]
 ·rw [List.getElem?_append_right (by omega), if_neg h]
  by_cases h2 : q = l.length
  ·rw [if_pos h2]; simp [h2]
  ·rw [if_neg h2, List.getElem?_eq_none (by simp; omega)]; rfl
theorem made_kiln (r : R04_Raw) (hr : RawS r) (hh : r.Heats.length ≤ Go.maxLen) (x1 x2 : Int) (h1 : 0 ≤ x1 ∧ x1 < 4) (h2 : 0 ≤ x2 ∧ x2 < 7) :
  ∃ s : List (List Range) × List Int × List (List Int), whl (R04_Made.b0 KK r x1 x2) KK (0, [], [], []) = some (.brk s) ∧ kilOk (x2.toNat + 1) (x1.toNat + 1) s := by
 have e1 : w64 (1 + x1) = ((x1.toNat + 1 : Nat) : Int) := by rw [w64_of (by omega) (by omega)]; omega
 refine whl_inv (n := x1.toNat + 1) (fun i (s : List (List Range) × List Int × List (List Int)) => (i, s.1, s.2.1, s.2.2)) (fun s => s) (kilOk (x2.toNat + 1)) (by omega) (by unfold KK; omega) (s0 := ([], [], [])) ⟨rfl, rfl, rfl, fun q hq => by omega⟩ (fun j s hj hI => ?_) (fun s _ => ?_)
 ·obtain ⟨g1, g2, g3, g4⟩ := hI
  have hlt : decide ((j : Int) < w64 (1 + x1)) = true := by rw [e1]; exact lt_dec hj
  obtain ⟨t, t1, t2⟩ := made_row r hr x1 x2 h1 h2 (j := j) (by omega)
  obtain ⟨v, v1⟩ := R01_At_eq r.Heats hh (j : Int) hr.h
  obtain ⟨u, u1, u2, u3⟩ := R01_Mod_eq v (m := 600) (by omega) (by omega)
  have w1 : w64 (1000 + u) = 1000 + u := w64_of (by omega) (by omega)
  refine ⟨(s.1 ++ [t.1], s.2.1 ++ [1000 + u], s.2.2 ++ [t.2]), ?_, by simp [g1], by simp [g2], by simp [g3], fun q hq => ?_⟩
  ·unfold R04_Made.b0
   simp only [hlt, cond_true, t1, Option.bind_some]
   rw [push_of (by omega) (by omega)]
   simp only [Option.bind_some]
   rw [push_of (by omega) (by omega)]
   simp only [Option.bind_some, v1, u1, w1]
   rw [push_of (by omega) (by omega)]
   rfl
  ·simp only [getD_app, g1, g2, g3]
   by_cases hqj : q < j
   ·simp only [hqj, if_true]; exact g4 q hqj
   ·have : q = j := by omega
    subst this
    simp only [Nat.lt_irrefl, if_false, if_true]
    exact ⟨t2, by omega, by omega⟩
 ·unfold R04_Made.b0
  simp only [e1, lt_dec_self]; rfl
theorem kil_field {P m : Nat} (hP : 1 ≤ P ∧ P ≤ 7) (hm : 1 ≤ m ∧ m ≤ 4) {s : List (List Range) × List Int × List (List Int)} (h : kilOk P m s) : FieldOk ⟨s.1⟩ ⟨s.2.1, s.2.2⟩ ∧ (⟨s.1⟩ : Kiln).P = P ∧ (∀ j p, j < m → p < P → ((⟨s.1⟩ : Kiln).at j p).Hi ≤ 700) ∧ ∀ p, p < P → 300 ≤ (⟨s.2.1, s.2.2⟩ : Field).ht (m - 1) p ∧ (⟨s.2.1, s.2.2⟩ : Field).ht (m - 1) p ≤ 1580 := by
 obtain ⟨g1, g2, g3, g4⟩ := h
 have hrow : ∀ j, j < m → (s.1.getD j []).length = P := fun j hj => (g4 j hj).1.1
 have hhead : (s.1.headD []).length = P := by
  have := hrow 0 (by omega)
  cases hs : s.1 with
  | nil => rw [hs] at g1; simp at g1; omega
  | cons a l => rw [hs] at this; simpa using this
 have hat : ∀ j p, (⟨s.1⟩ : Kiln).at j p = (s.1.getD j []).getD p R0 := fun _ _ => rfl
 have hk : kilnB ⟨s.1⟩ = true := by
  simp only [kilnB, inB, Bool.and_eq_true, decide_eq_true_eq, List.all_eq_true, hhead, g1]
  refine ⟨by omega, by omega, fun x hx => ?_⟩
  obtain ⟨j, hj, rfl⟩ := List.getElem_of_mem hx
  have hx' : s.1.getD j [] = s.1[j] := getD_of _ (List.getElem?_eq_getElem hj)
  have hjm : j < m := by omega
  refine ⟨by rw [← hx']; exact hrow j hjm, fun y hy => ?_⟩
  obtain ⟨p, hp, rfl⟩ := List.getElem_of_mem hy
  have h5 := (g4 j hjm).1.2.2 p (by rw [← hrow j hjm, hx']; exact hp)
  simp only [hx'] at h5
  rw [getD_of R0 (List.getElem?_eq_getElem hp)] at h5
  rw [rangeB_iff]
  omega
 have hP2 : (⟨s.1⟩ : Kiln).P = P := hhead
 have hd : ∀ j p, (⟨s.2.1, s.2.2⟩ : Field).d j p = (s.2.2.getD j []).getD p 0 := fun _ _ => rfl
 have hu : ∀ j, (⟨s.2.1, s.2.2⟩ : Field).u j = s.2.1.getD j 0 := fun _ => rfl
 refine ⟨⟨hk, by show s.2.1.length = s.1.length; omega, by show s.2.2.length = s.1.length; omega, fun j hj => ?_, fun j hj => ?_, fun j p hj => ?_⟩, hP2, fun j p hj hp => ?_, fun p hp => ?_⟩
 ·have hj' : j < m := by have : j < s.1.length := hj; omega
  rw [hP2]; exact (g4 j hj').1.2.1
 ·have hj' : j < m := by have : j < s.1.length := hj; omega
  have := g4 j hj'
  rw [hu]; omega
 ·have hj' : j < m := by have : j < s.1.length := hj; omega
  rw [hat, hd]
  by_cases hp : p < P
  ·have := (g4 j hj').1.2.2 p hp
   simp only at this
   omega
  ·have l1 := hrow j hj'
   have l2 := (g4 j hj').1.2.1
   simp only at l2
   rw [getD_none (by omega), getD_none (by omega)]
   exact ⟨Int.le_refl _, Int.le_refl _⟩
 ·rw [hat]
  have := (g4 j hj).1.2.2 p hp
  simp only at this
  omega
 ·unfold Field.ht
  rw [mx_le_iff, le_mx_iff]
  refine ⟨⟨0, Nat.zero_le _, ?_⟩, fun j hj => ?_⟩
  ·have a := g4 0 (by omega)
   have b := a.1.2.2 p hp
   simp only at b
   rw [hu, hd]; omega
  ·have a := g4 j (by omega)
   have b := a.1.2.2 p hp
   simp only at b
   rw [hu, hd]; omega
def madeRd (P : Nat) (x : Field) (m : Nat) (r : Reading) : Prop := readB (P : Int) r = true ∧ rdAg (x.ht m r.Place.toNat) r = true
theorem made_read {P : Nat} (hP : 1 ≤ P ∧ P ≤ 7) {h pl off src kd : Int} (hh : 300 ≤ h ∧ h ≤ 1580) (hp : 0 ≤ pl ∧ pl < P) (ho : 0 ≤ off ∧ off < 90) (hs : 0 ≤ src ∧ src < 12) :
  (readB (P : Int) ⟨w64 (1 + src), pl, 1, min (max (w64 (h - off)) 1) 2000, ⟨0, 0⟩⟩ = true ∧ rdAg h ⟨w64 (1 + src), pl, 1, min (max (w64 (h - off)) 1) 2000, ⟨0, 0⟩⟩ = true) ∧
  (readB (P : Int) ⟨w64 (1 + src), pl, 2, min (max (w64 ((w64 (h + 1)) + off)) 1) 2000, ⟨0, 0⟩⟩ = true ∧ rdAg h ⟨w64 (1 + src), pl, 2, min (max (w64 ((w64 (h + 1)) + off)) 1) 2000, ⟨0, 0⟩⟩ = true) ∧
  (readB (P : Int) ⟨w64 (1 + src), pl, 3, 0, ⟨max (w64 (h - (w64 (Int.tdiv off 2)))) 1, min (w64 (h + off)) 2000⟩⟩ = true ∧ rdAg h ⟨w64 (1 + src), pl, 3, 0, ⟨max (w64 (h - (w64 (Int.tdiv off 2)))) 1, min (w64 (h + off)) 2000⟩⟩ = true) := by
 have w0 : w64 ((P : Int) - 1) = (P : Int) - 1 := w64_of (by omega) (by omega)
 have w1 : w64 (1 + src) = 1 + src := w64_of (by omega) (by omega)
 have w2 : w64 (h - off) = h - off := w64_of (by omega) (by omega)
 have w3 : w64 (h + 1) = h + 1 := w64_of (by omega) (by omega)
 have w4 : w64 (h + 1 + off) = h + 1 + off := w64_of (by omega) (by omega)
 have td : Int.tdiv off 2 = off / 2 := Int.tdiv_eq_ediv_of_nonneg ho.1
 have w5 : w64 (off / 2) = off / 2 := w64_of (by omega) (by omega)
 have w6 : w64 (h - off / 2) = h - off / 2 := w64_of (by omega) (by omega)
 have w7 : w64 (h + off) = h + off := w64_of (by omega) (by omega)
 have k12 : decide ((2 : Int) = 1) = false := by decide
 have k13 : decide ((3 : Int) = 1) = false := by decide
 have k23 : decide ((3 : Int) = 2) = false := by decide
 have k32 : decide ((1 : Int) = 3) = false := by decide
 have k21 : decide ((1 : Int) = 2) = false := by decide
 have k31 : decide ((2 : Int) = 3) = false := by decide
 have w8 : w64 (h + 1 + off - 1) = h + off := by rw [w64_of (by omega) (by omega)]; omega
 refine ⟨⟨?_, ?_⟩, ⟨?_, ?_⟩, ?_, ?_⟩
 ·simp only [readB, inB, w0, w1, w2, decide_true, cond_true, Bool.and_eq_true, decide_eq_true_eq, and_true, true_and]; omega
 ·simp only [rdAg, lo?, hi?, w1, w2, decide_true, cond_true, k21, k32, cond_false, Option.isSome_some, Option.isSome_none, Option.getD_some, Bool.true_and, Bool.false_and, Bool.not_false, Bool.and_true, Bool.not_eq_true', decide_eq_false_iff_not]; omega
 ·simp only [readB, inB, w0, w1, w3, w4, k12, decide_true, cond_true, cond_false, Bool.and_eq_true, decide_eq_true_eq, and_true, true_and]; omega
 ·have e : min (max (h + 1 + off) 1) 2000 = h + 1 + off := by omega
  simp only [rdAg, lo?, hi?, w1, w3, w4, e, w8, decide_true, cond_true, k12, k31, cond_false, Option.isSome_some, Option.isSome_none, Option.getD_some, Bool.true_and, Bool.false_and, Bool.not_false, Bool.not_eq_true', decide_eq_false_iff_not]; omega
 ·simp only [readB, inB, rangeB, w0, w1, td, w5, w6, w7, k13, k23, decide_true, cond_true, cond_false, Bool.and_eq_true, decide_eq_true_eq, and_true, true_and]; omega
 ·simp only [rdAg, lo?, hi?, w1, td, w5, w6, w7, decide_true, cond_true, k13, k23, cond_false, Option.isSome_some, Option.getD_some, Bool.true_and, Bool.and_eq_true, Bool.not_eq_true', decide_eq_false_iff_not]; omega
structure IsMade (f : Firing) (x : Field) : Prop where
 c : firingCode f = 0
 fld : FieldOk f.Kiln x
 a : agB f x = true
 r : f.Readings.length ≤ 14
 P : f.Kiln.P ≤ 7
 m : f.Kiln.Falls.length ≤ 4
 hi : ∀ j p, j < f.Kiln.Falls.length → p < f.Kiln.P → (f.Kiln.at j p).Hi ≤ 700
 ht : ∀ p, p < f.Kiln.P → 300 ≤ x.ht (f.Kiln.Falls.length - 1) p ∧ x.ht (f.Kiln.Falls.length - 1) p ≤ 1580
theorem R04_Made_eq (r : R04_Raw) (q : R04_Raw.q r) : ∃ f x, R04_Made KK r = some (f, x) ∧ IsMade f x := by
 have hr := q.s
 have hh : r.Heats.length ≤ Go.maxLen := q.2.2.2.1.1
 have hrl := hr.r
 unfold R04_Made
 obtain ⟨x1, a1, a2, a3⟩ := R01_Mod_eq r.Mouths (m := 4) (by omega) (by omega)
 obtain ⟨x2, b1, b2, b3⟩ := R01_Mod_eq r.Places (m := 7) (by omega) (by omega)
 obtain ⟨s, c1, c2⟩ := made_kiln r hr hh x1 x2 ⟨a2, a3⟩ ⟨b2, b3⟩
 obtain ⟨s1, s2, s3⟩ := s
 simp only [a1, b1, Option.bind_some, c1]
 obtain ⟨d1, d2, d3, d4⟩ := kil_field (P := x2.toNat + 1) (m := x1.toNat + 1) (by omega) (by omega) c2
 simp only at d1 d2 d3 d4
 have e2 : w64 (1 + x2) = ((x2.toNat + 1 : Nat) : Int) := by rw [w64_of (by omega) (by omega)]; omega
 have hm : s1.length = x1.toNat + 1 := c2.1
 obtain ⟨l, e3, e4, e5⟩ := whl_inv (n := min r.Readings.length 14) (body := R04_Made.b2 KK r x1 x2 s2 s3) (k := KK) (fun i s => (i, s)) id (fun i (s : List Reading) => s.length = i ∧ ∀ y ∈ s, madeRd (x2.toNat + 1) ⟨s2, s3⟩ x1.toNat y) (by omega) (by unfold KK; omega) (s0 := []) ⟨rfl, by simp⟩ (fun i s hi hI => by
  obtain ⟨I1, I2⟩ := hI
  have hi1 : i < r.Readings.length := by omega
  have hi2 : decide ((i : Int) < 14) = true := by simp; omega
  have hx : r.Readings[i]? = some r.Readings[i] := List.getElem?_eq_getElem hi1
  generalize r.Readings[i] = n at hx
  obtain ⟨pl, f1, f2, f3⟩ := R01_Mod_eq n.x0 (m := ((x2.toNat + 1 : Nat) : Int)) (by omega) (by omega)
  obtain ⟨off, g1, g2, g3⟩ := R01_Mod_eq n.x2 (m := 90) (by omega) (by omega)
  obtain ⟨src, h1, h2, h3⟩ := R01_Mod_eq n.x3 (m := 12) (by omega) (by omega)
  obtain ⟨kd, k1, k2, k3⟩ := R01_Mod_eq n.x1 (m := 3) (by omega) (by omega)
  have hpp : ((pl.toNat : Nat) : Int) = pl := by omega
  have eh := R04_heat_eq d1 (p := pl.toNat) (by rw [d2]; omega)
  rw [hpp] at eh
  have hms : (⟨s1⟩ : Kiln).Falls.length - 1 = x1.toNat := by show s1.length - 1 = _; omega
  rw [hms] at eh
  have hb := d4 pl.toNat (by omega)
  rw [show x1.toNat + 1 - 1 = x1.toNat by omega] at hb
  obtain ⟨r1, r2, r3⟩ := made_read (P := x2.toNat + 1) (by omega) (kd := 0) (h := (⟨s2, s3⟩ : Field).ht x1.toNat pl.toNat) hb (pl := pl) ⟨f2, f3⟩ (off := off) ⟨g2, g3⟩ (src := src) ⟨h2, h3⟩
  have wk : w64 (1 + kd) = 1 + kd := w64_of (by omega) (by omega)
  have hall : ∀ y, madeRd (x2.toNat + 1) ⟨s2, s3⟩ x1.toNat y → ∀ z ∈ s ++ [y], madeRd (x2.toNat + 1) ⟨s2, s3⟩ x1.toNat z := by
   intro y hy z hz
   rcases List.mem_append.1 hz with hz | hz
   ·exact I2 z hz
   ·simp only [List.mem_singleton] at hz; subst hz; exact hy
  unfold R04_Made.b2
  simp only [lt_dec hi1, hi2, cond_true, at_of hx, Option.bind_some, e2, f1, g1, h1, k1, eh, wk]
  by_cases q1 : 1 + kd = 1
  ·simp only [q1, decide_true, cond_true]
   rw [push_of (by omega) (by omega)]
   exact ⟨_, rfl, by simp [I1], hall _ r1⟩
  ·simp only [q1, decide_false, cond_false]
   by_cases q2 : 1 + kd = 2
   ·simp only [q2, decide_true, cond_true]
    rw [push_of (by omega) (by omega)]
    exact ⟨_, rfl, by simp [I1], hall _ r2⟩
   ·have q3 : 1 + kd = 3 := by omega
    simp only [q3, show decide ((3 : Int) = 2) = false by decide, cond_false]
    rw [push_of (by omega) (by omega)]
    exact ⟨_, rfl, by simp [I1], hall _ r3⟩) (fun s _ => by
  unfold R04_Made.b2
  by_cases h14 : r.Readings.length ≤ 14
  ·have : min r.Readings.length 14 = r.Readings.length := by omega
   simp only [this, lt_dec_self]; rfl
  ·have : min r.Readings.length 14 = 14 := by omega
   have h15 : decide (((14 : Nat) : Int) < (r.Readings.length : Int)) = true := by simp; omega
   simp only [this, h15, cond_true]; rfl)
 rw [e3]
 refine ⟨⟨⟨s1⟩, l⟩, ⟨s2, s3⟩, rfl, ?_, d1, ?_, by show l.length ≤ 14; omega, by show (⟨s1⟩ : Kiln).P ≤ 7; omega, by show s1.length ≤ 4; omega, fun j p hj hp => d3 j p (by have : j < s1.length := hj; omega) (by rw [← d2]; exact hp), fun p hp => ?_⟩
 ·have hPh : ((⟨s1⟩ : Kiln).Falls.headD []).length = x2.toNat + 1 := d2
  have hlen : ¬ ((60 : Int) < (l.length : Int)) := by omega
  unfold firingCode
  simp only [d1.kv, cond_true]
  have hall : l.all (readB ((((⟨s1⟩ : Kiln).Falls.headD []).length : Nat) : Int)) = true := by
   rw [List.all_eq_true, hPh]
   exact fun y hy => (e5 y hy).1
  rw [hall, decide_eq_false hlen]
  rfl
 ·unfold agB
  rw [List.all_eq_true]
  intro y hy
  have : (⟨s1⟩ : Kiln).Falls.length - 1 = x1.toNat := by show s1.length - 1 = _; omega
  rw [this]
  exact (e5 y hy).2
 ·have : (⟨s1⟩ : Kiln).Falls.length - 1 = x1.toNat + 1 - 1 := by show s1.length - 1 = _; omega
  rw [this]
  exact d4 p (by rw [← d2]; exact hp)
end Go.Abs
namespace Go.Abs
open Go
set_option linter.unusedVariables false
structure Fur.Sub (g f : Fur) : Prop where
 m : g.m = f.m
 lo : g.lo = f.lo
 hi : g.hi = f.hi
 L : ∀ x ∈ g.L, x ∈ f.L
 M : ∀ x ∈ g.M, x ∈ f.M
namespace Fur.Sub
variable {g f : Fur}
theorem U (h : Sub g f) (j : Nat) : f.U j ≤ g.U j := by
 rw [Fur.U_iff]
 refine ⟨f.U_le j, fun x hx => ?_⟩
 rw [h.hi]
 exact f.U_lim j (h.M x hx)
theorem sound (h : Sub g f) (hs : f.Sound) : g.Sound := (Fur.sub_sound h.m h.lo h.hi h.L h.M hs).1
theorem high (h : Sub g f) {q : Nat} {t : Int} (ht : f.High q t) : g.High q t := by
 obtain ⟨⟨j, h1, h2⟩, h3⟩ := ht
 have := h.U j
 exact ⟨⟨j, by rw [h.m]; exact h1, by rw [h.lo]; omega⟩, fun y hy e => h3 y (h.M y hy) e⟩
theorem low (h : Sub g f) {q : Nat} {t : Int} (ht : f.Low q t) : g.Low q t := by
 obtain ⟨h1, h2, h3⟩ := ht
 refine ⟨fun j hj => by rw [h.hi]; exact h1 j (by rw [← h.m]; exact hj), fun x hx e => h2 x (h.L x hx) e, fun x hx e => ?_⟩
 obtain ⟨j, k1, k2, k3⟩ := h3 x (h.L x hx) e
 have := h.U j
 exact ⟨j, by rw [h.m]; exact k1, by rw [h.lo]; omega, by rw [h.lo, h.hi]; exact k3⟩
end Fur.Sub
theorem askCode_of {f : Firing} (h : firingCode f = 0) (hs : (nf f).fur.Sound) {p : Int} (h0 : 0 ≤ p) (hp : p < f.Kiln.P) : askCode f p = 0 := by
 have hi : inB p 0 ((f.Kiln.P : Int) - 1) = true := by simp [inB]; omega
 have hb : soundB (nf f) = true := (soundB_iff (nf_ok (firing_ok h))).2 hs
 unfold askCode
 simp [h, hi, hb]
theorem bndR_of {f : Firing} {p : Int} (h : askCode f p = 0) : bndR f p = (rngX (nf f) p.toNat, 0) := by unfold bndR; simp [h]
theorem heatsR_made {f : Firing} {x : Field} (h : IsMade f x) : heatsR f.Kiln x = (heatsL f.Kiln x, 0) := by
 unfold heatsR
 simp [h.fld.kv, (fieldB_iff h.fld.kv x).2 h.fld]
theorem heatsL_len (k : Kiln) (x : Field) : (heatsL k x).length = k.P := by simp [heatsL]
theorem heatsL_at {k : Kiln} (x : Field) {p : Int} (h0 : 0 ≤ p) (hp : p < k.P) : at? (heatsL k x) p = some (x.ht (k.Falls.length - 1) p.toNat) := by
 have := at_mapR (x.ht (k.Falls.length - 1)) (n := k.P) (j := p.toNat) (by omega)
 rw [show ((p.toNat : Nat) : Int) = p by omega] at this
 exact this
end Go.Abs
namespace Go.Abs
open Go
set_option linter.unusedVariables false
end Go.Abs
namespace Go.Abs
open Go
set_option linter.unusedVariables false
theorem heatTrue_plain (a0 : R04_Raw) (a1 : Int) (q0 : R04_Raw.q a0) : L04_HeatTrue KK a0 a1 = some true := by
 obtain ⟨f, x, e0, hm⟩ := R04_Made_eq a0 q0
 have hok := firing_ok hm.c
 have hs := firing_s hok
 have hw := firing_w hok
 have hk := kilnB_len hok.k
 obtain ⟨hS, hag⟩ := agree_facts hok hm.fld hm.a
 have hlen : (heatsL f.Kiln x).length = f.Kiln.P := heatsL_len _ _
 have hHF : ∀ y : Field, FieldOk f.Kiln y → heatsR f.Kiln y = (heatsL f.Kiln y, 0) := fun y hF => by
  unfold heatsR
  simp [hF.kv, (fieldB_iff hF.kv _).2 hF]
 have hloop : whl (L04_HeatTrue.b0 KK a1 (f, x) (heatsL f.Kiln x, 0)) KK 0 = some (.brk ()) := by
  rw [whl_allN (n := f.Kiln.P) (p := fun _ => true) (c := false) (by omega) (by unfold KK; omega) (fun p hp => by
   have hask : askCode f (p : Int) = 0 := askCode_of hm.c hS (by omega) (by omega)
   have hpn : ((p : Int)).toNat = p := Int.toNat_natCast p
   obtain ⟨g1, g2⟩ := hag p
   obtain ⟨c1, c2⟩ := rng_isBound f (p : Int) hask
   have b1 := (c1 _).2 (by rw [hpn]; exact g2)
   have b2 := (c2 _).2 (by rw [hpn]; exact g1)
   have hat : ∀ y : Field, at? (heatsL f.Kiln y) (p : Int) = some (y.ht (f.Kiln.Falls.length - 1) p) := fun y => by
    have := heatsL_at (k := f.Kiln) y (p := (p : Int)) (by omega) (by omega)
    rw [hpn] at this; exact this
   obtain ⟨l1, l2, l3⟩ := attX_facts hask false
   obtain ⟨h1, h2, h3⟩ := attX_facts hask true
   simp only [cond_false, hpn] at l3
   simp only [cond_true, hpn] at h3
   have ha1 : ∀ high, attR f (p : Int) high = (attX f (p : Int) high, 0) := fun high => by unfold attR; simp [hask]
   have hrlo : -3000 ≤ (rngX (nf f) (p : Int).toNat).Lo := by
    have a1 := ((c1 _).1 (Int.le_refl _)).1 0 (Nat.zero_le _)
    have a5 := fur_ok (nf_ok hok) 0 (p : Int).toNat
    omega
   have hrhi : (rngX (nf f) (p : Int).toNat).Hi ≤ 3000 := by
    obtain ⟨⟨j, _, a2⟩, _⟩ := (c2 _).1 (Int.le_refl _)
    have a3 := (nf f).fur.U_le j
    have a5 := fur_ok (nf_ok hok) j (p : Int).toNat
    omega
   rw [hpn] at hrlo hrhi b1 b2 c1 c2
   generalize hr : rngX (nf f) p = r at *
   have w1 : w64 (r.Hi - r.Lo) = r.Hi - r.Lo := w64_of (by omega) (by omega)
   have w2 : w64 (r.Hi - r.Lo + 1) = r.Hi - r.Lo + 1 := w64_of (by omega) (by omega)
   obtain ⟨v, v1, v2, v3⟩ := R01_Mod_eq a1 (m := r.Hi - r.Lo + 1) (by omega) (by omega)
   have w3 : w64 (r.Lo + v) = r.Lo + v := w64_of (by omega) (by omega)
   have hlow : (nf f).fur.Low p (r.Lo + v) := by rw [← c1]; omega
   have hhigh : (nf f).fur.High p (r.Lo + v) := by rw [← c2]; omega
   have hwb : wantsB f.Kiln.P [⟨(p : Int), ⟨r.Lo + v, r.Lo + v⟩⟩] = true := by
    have : wantB f.Kiln.P ⟨(p : Int), ⟨r.Lo + v, r.Lo + v⟩⟩ = true := by
     simp only [wantB, inB, Bool.and_eq_true, decide_eq_true_eq]; omega
    unfold wantsB
    simp [this]
   have hwc : wCode f [⟨(p : Int), ⟨r.Lo + v, r.Lo + v⟩⟩] = 0 := by
    have hb : soundB (nf f) = true := (soundB_iff (nf_ok hok)).2 hS
    unfold wCode
    simp [hm.c, hb, hwb]
   obtain ⟨k1, k2, k3, k4, k5⟩ := ask_field hok hS hp hlow hhigh
   have hwf : wantedF (nf f) [⟨(p : Int), ⟨r.Lo + v, r.Lo + v⟩⟩] = askF (nf f) (p : Int) ⟨r.Lo + v, r.Lo + v⟩ := rfl
   have hsb : soundB (wantedF (nf f) [⟨(p : Int), ⟨r.Lo + v, r.Lo + v⟩⟩]) = true := by rw [hwf]; exact (soundB_iff k1).2 k2
   have hsh : showR f [⟨(p : Int), ⟨r.Lo + v, r.Lo + v⟩⟩] = (gField (askF (nf f) (p : Int) ⟨r.Lo + v, r.Lo + v⟩), 0) := by
    unfold showR
    rw [hwc, hsb, hwf]
    rfl
   have d1 : ¬ x.ht (f.Kiln.Falls.length - 1) p < r.Lo := by omega
   have d2 : ¬ r.Hi < x.ht (f.Kiln.Falls.length - 1) p := by omega
   have hbn : bndR f (p : Int) = (r, 0) := by rw [bndR_of hask, hpn, hr]
   unfold L04_HeatTrue.b0
   simp only [hlen, lt_dec hp, cond_true, heat_Bound_rng f hs hw, hbn, Option.bind_some, decide_true, hat, d1, d2, decide_false, Bool.not_false, cond_false, heat_Attain_eq f hs hw, ha1, heat_Heats_eq f.Kiln hs.1, hHF _ l1, hHF _ h1, heatsL_len, l3, h3, heat_CheckField_eq f hs, fieldCode_ok hm.c l1 l2, fieldCode_ok hm.c h1 h2, Bool.not_true, w1, w2, v1, w3, heat_Show_eq f hs hw, hsh, hHF _ k3, k5, fieldCode_ok hm.c k3 k4]) (by
   unfold L04_HeatTrue.b0
   simp only [hlen, lt_dec_self]; rfl)]
  have : (List.range f.Kiln.P).all (fun _ => true) = true := by simp
  rw [this]; rfl
 have hfc : fieldCode f x = 0 := fieldCode_ok hm.c hm.fld hm.a
 unfold L04_HeatTrue
 simp only [e0, Option.bind_some, heat_Heats_eq f.Kiln hs.1, heatsR_made hm, decide_true, cond_true, heat_CheckField_eq f hs, hfc, Bool.not_true, cond_false, hloop, sane_KK]
end Go.Abs
namespace Go.Proofs.Ytafmgcbfmifaeaa.heatTrue
open Go.Abs
theorem plain (a0 : Go.Abs.R04_Raw) (a1 : Int) : Go.Abs.R04_Raw.q a0 → i64ok a1 → ∃ k, L04_HeatTrue k a0 a1 = some true := by
 intro q0 _; exact ⟨_, heatTrue_plain a0 a1 q0⟩
end Go.Proofs.Ytafmgcbfmifaeaa.heatTrue
namespace Go.Proofs.Ytafmgcbfmifaeaa.heatTrue
open Go.ChangeShapes Go.WideShapes Go.ChangeAt Go.RowKit Go.Abs
set_option maxRecDepth 100000
theorem own : ownKnob Try.prog.godebug = none := by kernel_rfl
theorem contract (H : Type) (enc : TypeId × Value → H) (W : World) (base : Nat) (args : Array Value) (ds gs : List (DataW H)) (before : List MemPlace)
  (hval : ∀ (j : Nat) t v, Try.f7.params[j]? = some t → args[j]? = some v → Value.okWide Try.prog W .any base t v)
  (hW : DataW.Whole enc Try.prog Try.f7.params.toList Rows.heatTrueSpec.vars false W args.toList ds gs before) (hsz0 : (DataW.weightsEach Try.prog (Try.f7.params.toList ++ Rows.heatTrueSpec.plain.varTypes Try.prog) (ds ++ gs)).all (· ≤ reachBytes) = true) :
  Calls Try.prog 7 args W fun e W' => ∃ v, e = .returned v ∧ Rows.heatTrueSpec.post enc Try.prog Try.f7 false true false false W args v W' := by
 have hW' := hW
 obtain ⟨p, q, hA0, hV, rfl, hfz, hnd⟩ := hW
 have hA : DataW.TrodAll enc Try.prog W 0 (fun _ => true) true Try.f7.params.toList args.toList ds p := hA0
 rw [Try.params7] at hA hval
 obtain ⟨v0, vs0, d0, ds0, p0, q0, hargs, rfl, rfl, h0, r0⟩ := trodAll_cons hA
 obtain ⟨v1, vs1, d1, ds1, p1, q1, rfl, rfl, rfl, h1, r1⟩ := trodAll_cons r0
 obtain ⟨rfl, rfl, rfl⟩ := trodAll_nil r1
 have hsz : ∀ (j : Nat) t d, Try.f7.params.toList[j]? = some t → [d0, d1][j]? = some d → ∀ n ∈ d.weights Try.prog t, n ≤ reachBytes := weights_of (by rw [Try.params7]; rfl) hsz0
 rw [Try.params7] at hsz
 obtain rfl : args = #[v0, v1] := by cases args; simp_all
 obtain ⟨a0, Q0, V0⟩ := arg_agg reads_26 (by have h := hval 0 26 v0 rfl rfl; unfold Value.okWide at h; rw [Try.underlying26] at h; obtain ⟨cs, h, _⟩ := h; exact ⟨cs, h⟩) h0 (hsz 0 26 d0 rfl rfl)
 obtain ⟨a1, Q1, V1⟩ := arg_one reads_3 (by have h := hval 1 3 v1 rfl rfl; unfold Value.okWide at h; rw [Try.underlying3] at h; unfold Cell.okWide Cell.ok at h; rw [Try.underlying3] at h; cases v1 <;> first | rfl | (simp at h; done)) (fun x => AV.int .i64 x) (fun _ => rfl) h1 (hsz 1 3 d1 rfl rfl)
 obtain ⟨k, hk⟩ := plain a0 a1 Q0 Q1
 have hv : VRs (fmAll W) [] [.agg (Go.Abs.R04_Raw.c a0), .int .i64 a1] [v0, v1] := ⟨rfl, fun i x v h1 h2 => by
  match i with
  | 0 => cases h1; cases h2; exact V0
  | 1 => cases h1; cases h2; exact V1
  | i + 2 => simp at h1⟩
 refine Calls.mono ((L04_HeatTrue_ok k a0 a1 true hk).2 (fmAll W) W _ (fun _ _ _ h => h) hv) ?_
 rintro e W1 ⟨v, y, fm1, rfl, rfl, _, hvr, _, hB⟩
 cases hvr
 exact ⟨_, rfl, law_post (t := 4) (by kernel_rfl) (by kernel_rfl) (by kernel_rfl) hW' rfl hB (by rw [Try.params7]; decide +kernel) rfl Try.underlying4 (by obtain ⟨rfl, _⟩ := trodVars_none hV; rfl)⟩
theorem lifted (os : Os) (started : os.Started) (H : Type) (enc : TypeId × Value → H) :
  ReturnsInHanded {} Try.checked os 7 .any (Rows.heatTrueSpec.pre6 enc Try.prog Try.f7 Rows.heatTrueRow.domain false) (Rows.heatTrueSpec.post enc Try.prog Try.f7 false true false false) := by
 refine returnsInHanded_of_change_sized (C := Try.checked) own started (by kernel_rfl) Try.func7
  (ChangeSpec.witness6 (enc := enc) (C := Try.checked) false ⟨#[], #[.agg #[.int .i64 0, .int .i64 0, .slice none 0 0, .slice none 0 0, .slice none 0 0], .int .i64 0], []⟩ 8 (by kernel_rfl) (by kernel_rfl) (by kernel_rfl) (by kernel_rfl)) ?_
 intro W base args ds gs before hval0 hW hcnd hsz _
 exact contract H enc W base args ds gs before hval0 hW hsz
theorem over : Rows.heatTrueRow.holds Try.pinned (OpenSpec.ofChange Rows.heatTrueSpec) :=
 OpenClaim.holds_of_wide 7 Try.f7 rfl rfl rfl rfl rfl rfl rfl ⟨rfl, rfl, rfl, rfl, rfl⟩ rfl rfl rfl rfl rfl (by kernel_rfl) Try.func7 (by kernel_rfl)
  (of_decide_eq_true (by kernel_rfl)) (by unfold Func.isWrapper; first | (rw [if_pos (by decide +kernel)]; kernel_rfl) | (rw [if_neg (by decide +kernel)]; exact ⟨rfl, rfl⟩))
  (fun os started H enc _ => lifted os started H enc)
theorem proved : Rows.HeatTrueSaid := over
end Go.Proofs.Ytafmgcbfmifaeaa.heatTrue
