/-
  Part 3 of the proof: a machine over named blocks, what each function computes, and what follows. No condition.
-/
import Derived.Shelf.Sort.Plain
import Derived.Shelf.Slices.In.SortNone
import Derived.ReadAgain
import Derived.ChangeSame
import Derived.SizedLaws
import Derived.OpenShut
import Derived.ProofKit
import Derived.Defers
import Derived.Recover
import Derived.RangeFuncNested
import Derived.Test.YtpgccpdlilnakaaBSumsB
set_option linter.unusedVariables false
set_option linter.unusedSimpArgs false
set_option linter.all false
namespace Go.Abs
open Go Go.RowKit
set_option linter.unusedSectionVars false
def useO : Operand → List Nat
 | .tmp t => [t]
 | _ => []
def useOs : List Operand → List Nat
 | [] => []
 | x :: l => useO x ++ useOs l
def useP : List (Nat × Operand) → List Nat
 | [] => []
 | (_, x) :: l => useO x ++ useP l
def useM : Option Operand → List Nat
 | some x => useO x
 | none => []
def usesOf : Op → List Nat
 | .move x => useO x
 | .assign x => useO x
 | .pick c a b => useO c ++ (useO a ++ useO b)
 | .alloc _ => []
 | .box _ x => useO x
 | .build _ ps => useP ps.toList
 | .buildSlice _ _ ps => useP ps.toList
 | .load _ a => useO a
 | .store _ a x => useO a ++ useO x
 | .nilCheck x => useO x
 | .binOp _ _ x y _ => useO x ++ useO y
 | .unOp _ _ x => useO x
 | .convert _ _ x => useO x
 | .makeFunc _ a b => useOs a.toList ++ useOs b.toList
 | .makeSlice _ l c => useO l ++ useO c
 | .slice _ x lo hi mx => useO x ++ (useM lo ++ (useM hi ++ useM mx))
 | .fieldAddr _ x _ => useO x
 | .field _ x _ => useO x
 | .indexAddr _ x i => useO x ++ useO i
 | .index _ x i => useO x ++ useO i
 | .extract x _ => useO x
 | .sliceToArrayPointer _ x => useO x
 | .makeInterface _ x => useO x
 | .call c => (match c.callee with
  | .value f => useO f
  | _ => []) ++ useOs c.args.toList
 | _ => []
def useS (o : SOp) : List Nat := (match o.guard with
 | some (g, _) => [g]
 | none => []) ++ usesOf o.op
def heapy : Op → Bool
 | .move _ | .assign _ | .pick .. | .alloc _ | .box .. | .build .. | .nilCheck _ | .binOp .. | .unOp .. | .makeFunc .. | .makeSlice .. | .fieldAddr .. | .field .. | .indexAddr .. | .index .. | .extract .. | .sliceToArrayPointer .. | .makeInterface .. => false
 | .call c => match c.callee with
  | .builtin .len | .builtin .max | .builtin .min => false
  | _ => true
 | _ => true
section
variable {tm tm' : Tm}
theorem opv_congr {x : Operand} (h : ∀ t ∈ useO x, tm t = tm' t) : opv tm x = opv tm' x := by
 cases x <;> simp only [opv]
 exact h _ (by simp [useO])
theorem opvs_congr : ∀ (l : List Operand), (∀ t ∈ useOs l, tm t = tm' t) → opvs tm l = opvs tm' l
 | [], _ => rfl
 | x :: l, h => by
  simp only [opvs]
  rw [opv_congr (fun t ht => h t (by simp only [useOs, List.mem_append]; exact .inl ht)), opvs_congr l (fun t ht => h t (by simp only [useOs, List.mem_append]; exact .inr ht))]
theorem partsOf_congr : ∀ (l : List (Nat × Operand)), (∀ t ∈ useP l, tm t = tm' t) → partsOf tm l = partsOf tm' l
 | [], _ => rfl
 | (i, x) :: l, h => by
  simp only [partsOf]
  rw [opv_congr (fun t ht => h t (by simp only [useP, List.mem_append]; exact .inl ht)), partsOf_congr l (fun t ht => h t (by simp only [useP, List.mem_append]; exact .inr ht))]
theorem opDe_congr {T : Tys} {kb : Nat} {G G' : Get} {o : Op} {ty : TypeId} (h : ∀ t ∈ usesOf o, tm t = tm' t) (hG : heapy o = true → G = G') : opDe T kb o ty tm G = opDe T kb o ty tm' G' := by
 have e : ∀ x : Operand, (∀ t ∈ useO x, t ∈ usesOf o) → opv tm x = opv tm' x := fun x hx => opv_congr fun t ht => h t (hx t ht)
 cases o with
 | move x => simp only [opDe, e x (fun t ht => by simpa [usesOf] using ht)]
 | assign x => simp only [opDe, e x (fun t ht => by simpa [usesOf] using ht)]
 | pick c a b => simp only [opDe, e c (fun t ht => by simp [usesOf, ht]), e a (fun t ht => by simp [usesOf, ht]), e b (fun t ht => by simp [usesOf, ht])]
 | alloc t => simp only [opDe]
 | box t x => simp only [opDe, e x (fun t ht => by simpa [usesOf] using ht)]
 | build t ps => simp only [opDe, partsOf_congr ps.toList (fun t ht => h t (by simpa [usesOf] using ht))]
 | buildSlice t n ps => obtain rfl := hG rfl; simp only [opDe, partsOf_congr ps.toList (fun t ht => h t (by simpa [usesOf] using ht))]
 | load t a => obtain rfl := hG rfl; simp only [opDe, e a (fun t ht => by simpa [usesOf] using ht)]
 | store t a x => obtain rfl := hG rfl; simp only [opDe, e a (fun t ht => by simp [usesOf, ht]), e x (fun t ht => by simp [usesOf, ht])]
 | nilCheck x => simp only [opDe, e x (fun t ht => by simpa [usesOf] using ht)]
 | binOp op t x y t' => simp only [opDe, e x (fun t ht => by simp [usesOf, ht]), e y (fun t ht => by simp [usesOf, ht])]
 | unOp op t x => simp only [opDe, e x (fun t ht => by simpa [usesOf] using ht)]
 | convert s d x => obtain rfl := hG rfl; simp only [opDe, e x (fun t ht => by simpa [usesOf] using ht)]
 | makeFunc f a b => simp only [opDe, opvs_congr a.toList (fun t ht => h t (by simp only [usesOf, List.mem_append]; exact .inl ht)), opvs_congr b.toList (fun t ht => h t (by simp only [usesOf, List.mem_append]; exact .inr ht))]
 | makeSlice t l c => simp only [opDe, e l (fun t ht => by simp [usesOf, ht]), e c (fun t ht => by simp [usesOf, ht])]
 | slice t x lo hi mx =>
  obtain rfl := hG rfl
  have ex := e x (fun t ht => by simp [usesOf, ht])
  cases lo with
  | none =>
   cases hi with
   | none => cases mx <;> simp only [opDe, ex]
   | some hi =>
    have eh := e hi (fun t ht => by simp [usesOf, useM, ht])
    cases mx with
    | none => simp only [opDe, ex, eh]
    | some mx => simp only [opDe, ex, eh, e mx (fun t ht => by simp [usesOf, useM, ht])]
  | some lo =>
   have el := e lo (fun t ht => by simp [usesOf, useM, ht])
   cases hi with
   | none => cases mx <;> simp only [opDe, ex, el]
   | some hi =>
    have eh := e hi (fun t ht => by simp [usesOf, useM, ht])
    cases mx with
    | none => simp only [opDe, ex, eh, el]
    | some mx => simp only [opDe, ex, eh, el, e mx (fun t ht => by simp [usesOf, useM, ht])]
 | fieldAddr t x f => simp only [opDe, e x (fun t ht => by simpa [usesOf] using ht)]
 | field t x f => simp only [opDe, e x (fun t ht => by simpa [usesOf] using ht)]
 | indexAddr t x i => simp only [opDe, e x (fun t ht => by simp [usesOf, ht]), e i (fun t ht => by simp [usesOf, ht])]
 | index t x i => simp only [opDe, e x (fun t ht => by simp [usesOf, ht]), e i (fun t ht => by simp [usesOf, ht])]
 | extract x i => simp only [opDe, e x (fun t ht => by simpa [usesOf] using ht)]
 | sliceToArrayPointer t x => simp only [opDe, e x (fun t ht => by simpa [usesOf] using ht)]
 | makeInterface t x => simp only [opDe, e x (fun t ht => by simpa [usesOf] using ht)]
 | call c =>
  obtain ⟨callee, args, ats⟩ := c
  cases callee with
  | builtin b =>
   have ea := opvs_congr args.toList (fun t ht => h t (by simp only [usesOf, List.mem_append]; exact .inr ht))
   cases b with
   | len => simp only [opDe, ea, aBuiltin]
   | max => simp only [opDe, ea, aBuiltin]
   | min => simp only [opDe, ea, aBuiltin]
   | _ => obtain rfl := hG rfl; simp only [opDe, ea]
  | _ => rfl
 | _ => rfl
theorem callee_congr {c : Call} (h : ∀ t ∈ usesOf (.call c), tm t = tm' t) : callee tm c = callee tm' c := by
 obtain ⟨cal, args, ats⟩ := c
 have ea := opvs_congr args.toList (fun t ht => h t (by simp only [usesOf, List.mem_append]; exact .inr ht))
 cases cal with
 | value f =>
  have ef : opv tm f = opv tm' f := opv_congr fun t ht => h t (by simp only [usesOf, List.mem_append]; exact .inl ht)
  simp only [callee, ef, ea]
 | _ => rfl
end
def keysA : AV → List (Nat × Nat)
 | .ptr l k _ => [(l, k)]
 | .eptr l k _ _ _ _ => [(l, k)]
 | .loc l k _ _ _ _ => [(l, k)]
 | .inn l k _ _ _ => [(l, k)]
 | x => x.refs
def keysL : List AV → List (Nat × Nat)
 | [] => []
 | x :: l => keysA x ++ keysL l
def rdOf (tm : Tm) : Op → Option (List (Nat × Nat))
 | .load _ a => (opv tm a).map keysA
 | .buildSlice _ _ ps => (partsOf tm ps.toList).map partRefs
 | .slice _ x _ _ _ => (opv tm x).map keysA
 | .convert _ _ x => (opv tm x).map keysA
 | .call c => match c.callee with
  | .builtin .append => (opvs tm c.args.toList).map keysL
  | .builtin .len | .builtin .max | .builtin .min => some []
  | _ => none
 | o => if heapy o then none else some []
theorem only_get {G : Get} {ks : List (Nat × Nat)} {l k : Nat} (h : (l, k) ∈ ks) : only G ks l k = G l k := by
 unfold only; rw [if_pos (by simpa using h)]
mutual
theorem frz_only {G : Get} {ks : List (Nat × Nat)} : ∀ (x y : AV), x.frz G = some y → (∀ p ∈ x.refs, p ∈ ks) → x.frz (only G ks) = some y
 | .loc l k e i n g, y, h, hk => by
  simp only [AV.frz] at h ⊢
  rw [only_get (hk (l, k) (by simp [AV.refs]))]; exact h
 | .nil, y, h, _ => by simpa [AV.frz] using h
 | .ifc t v, y, h, hk => by
  simp only [AV.frz, Option.map_eq_some_iff] at h ⊢
  obtain ⟨a, h1, h2⟩ := h
  exact ⟨a, frz_only v a h1 (by simpa only [AV.refs] using hk), h2⟩
 | .agg cs, y, h, hk => by
  simp only [AV.frz, Option.map_eq_some_iff] at h ⊢
  obtain ⟨a, h1, h2⟩ := h
  exact ⟨a, frzL_only cs a h1 (by simpa only [AV.refs] using hk), h2⟩
 | .tup vs, y, h, hk => by
  simp only [AV.frz, Option.map_eq_some_iff] at h ⊢
  obtain ⟨a, h1, h2⟩ := h
  exact ⟨a, frzL_only vs a h1 (by simpa only [AV.refs] using hk), h2⟩
 | .bool b, y, h, _ => by simpa [AV.frz] using h
 | .int k n, y, h, _ => by simpa [AV.frz] using h
 | .str s, y, h, _ => by simpa [AV.frz] using h
 | .sl e es, y, h, _ => by simpa [AV.frz] using h
 | .pnil, y, h, _ => by simpa [AV.frz] using h
 | .fnil, y, h, _ => by simpa [AV.frz] using h
 | .inil, y, h, _ => by simpa [AV.frz] using h
 | .fn f a b, y, h, hk => by
  simp only [AV.frz] at h ⊢
  split at h
  ·rename_i x z hx hz
   obtain rfl := Option.some.inj h
   simp only [AV.refs, List.mem_append] at hk
   simp only [frzL_only a x hx (fun p hp => hk p (.inl hp)), frzL_only b z hz (fun p hp => hk p (.inr hp))]
  ·cases h
 | .inn .., y, h, _ => by simp [AV.frz] at h
 | .ptr .., y, h, _ => by simp [AV.frz] at h
 | .eptr .., y, h, _ => by simp [AV.frz] at h
 | .rptr .., y, h, _ => by simpa [AV.frz] using h
 | .dead, y, h, _ => by simp [AV.frz] at h
theorem frzL_only {G : Get} {ks : List (Nat × Nat)} : ∀ (l ys : List AV), AV.frzL G l = some ys → (∀ p ∈ AV.refsL l, p ∈ ks) → AV.frzL (only G ks) l = some ys
 | [], ys, h, _ => by simpa [AV.frzL] using h
 | x :: l, ys, h, hk => by
  simp only [AV.frzL] at h ⊢
  simp only [AV.refsL, List.mem_append] at hk
  split at h
  ·rename_i a b ha hb
   obtain rfl := Option.some.inj h
   simp only [frz_only x a ha (fun p hp => hk p (.inl hp)), frzL_only l b hb (fun p hp => hk p (.inr hp))]
  ·cases h
end
theorem freezeParts_only {G : Get} {ks : List (Nat × Nat)} : ∀ (l : List (Nat × AV)) (cs : List (Nat × List AV)), freezeParts G l = some cs → (∀ p ∈ partRefs l, p ∈ ks) → freezeParts (only G ks) l = some cs
 | [], cs, h, _ => by simpa [freezeParts] using h
 | (i, v) :: l, cs, h, hk => by
  simp only [freezeParts] at h ⊢
  simp only [partRefs, List.mem_append] at hk
  split at h
  ·rename_i vc hvc
   split at h
   ·rename_i a b ha hb
    have hrefs : AV.refsL vc = v.refs := by
     cases v <;> simp only [AV.cells, Option.some.injEq] at hvc <;> first | (subst hvc; simp [AV.refsL, AV.refs]; done) | (cases hvc)
    rw [frzL_only vc a ha (fun p hp => hk p (.inl (by rw [← hrefs]; exact hp))), freezeParts_only l b hb (fun p hp => hk p (.inr hp))]
    exact h
   ·cases h
  ·cases h
theorem elemsOf_only {G : Get} {ks : List (Nat × Nat)} {sz : Nat} {x : AV} (hk : ∀ p ∈ keysA x, p ∈ ks) : elemsOf (only G ks) sz x = elemsOf G sz x := by
 cases x with
 | loc l k e i n g => simp only [elemsOf]; rw [only_get (hk (l, k) (by simp [keysA]))]
 | inn l k e o n => simp only [elemsOf]; rw [only_get (hk (l, k) (by simp [keysA]))]
 | _ => rfl
theorem rdOf_ok {T : Tys} {kb : Nat} {tm : Tm} {G : Get} {o : Op} {ty : TypeId} {d : De} {ks : List (Nat × Nat)} (h : opDe T kb o ty tm G = some d) (hr : rdOf tm o = some ks) : opDe T kb o ty tm (only G ks) = some d := by
 have other : heapy o = false → opDe T kb o ty tm (only G ks) = some d := fun hh => by rw [← h]; exact opDe_congr (fun _ _ => rfl) (fun e => by rw [hh] at e; cases e)
 have dflt : (if heapy o = true then none else some []) = some ks → opDe T kb o ty tm (only G ks) = some d := by
  intro e
  cases hh : heapy o with
  | true => rw [hh] at e; simp at e
  | false => exact other hh
 cases o with
 | load t a =>
  simp only [rdOf, Option.map_eq_some_iff] at hr
  obtain ⟨x, hx, rfl⟩ := hr
  simp only [opDe, hx] at h ⊢
  split at h
  ·rename_i ti x' ht hx'
   obtain rfl := Option.some.inj hx'
   rw [← h]
   congr 1
   unfold doLoad
   congr 1
   cases x <;> simp only [cellsAt, keysA] <;> rw [only_get (by simp)]
  ·cases h
 | buildSlice t n ps =>
  simp only [rdOf, Option.map_eq_some_iff] at hr
  obtain ⟨x, hx, rfl⟩ := hr
  simp only [opDe, hx] at h ⊢
  split at h
  ·rename_i ti x' ht hx'
   obtain rfl := Option.some.inj hx'
   unfold doBuildSlice at h ⊢
   split at h
   ·split at h
    ·rename_i hc
     simp only [hc, and_self, if_true]
     split at h
     ·rename_i cs hcs
      rw [freezeParts_only _ _ hcs (fun _ h => h)]
      exact h
     ·cases h
    ·cases h
   ·cases h
  ·cases h
 | convert s d x =>
  simp only [rdOf, Option.map_eq_some_iff] at hr
  obtain ⟨x1, hx, rfl⟩ := hr
  have hcv : ∀ si di : TI, aConv T (only G (keysA x1)) si di x1 = aConv T G si di x1 := by
   intro si di
   unfold aConv
   rw [elemsOf_only (x := x1) (fun p hp => hp)]
  rw [← h]
  simp only [opDe, hx]
  cases T s with
  | none => rfl
  | some si => cases T d with
   | none => rfl
   | some di => simp only [hcv]
 | slice t x lo hi mx =>
  simp only [rdOf, Option.map_eq_some_iff] at hr
  obtain ⟨x1, hx, rfl⟩ := hr
  have hbe : ∀ (ti : TI) (lo hi : AV), aBeyond (only G (keysA x1)) ti x1 lo hi = aBeyond G ti x1 lo hi := by
   intro ti lo hi
   cases x1 with
   | loc l k e i n g => simp only [aBeyond]; rw [only_get (by simp [keysA])]
   | _ => rfl
  rw [← h]
  cases mx with
  | some mx => cases lo <;> cases hi <;> rfl
  | none =>
   cases lo with
   | none => cases hi <;> rfl
   | some lo =>
    cases hi with
    | none => rfl
    | some hi =>
     simp only [opDe, hx]
     cases T t with
     | none => rfl
     | some ti =>
      simp only
      split
      ·rw [hbe]
      ·rfl
 | call c =>
  obtain ⟨cal, args, ats⟩ := c
  cases cal with
  | builtin b =>
   cases b with
   | append =>
    simp only [rdOf, Option.map_eq_some_iff] at hr
    obtain ⟨xs, hx, rfl⟩ := hr
    simp only [opDe, hx] at h ⊢
    rw [← h]
    unfold aBuiltin
    split
    ·rfl
    ·split
     ·rfl
     ·simp only
      split
      ·rename_i xs0 s x
       split
       ·unfold doAppend
        split
        ·rw [elemsOf_only (x := x) (by intro p hp; simp [keysL, hp])]
         split
         ·cases s with
          | loc l k e i n g => simp only; rw [only_get (by simp [keysL, keysA])]
          | _ => rfl
         ·rfl
        ·rfl
       ·unfold doAppendS
        split
        ·split
         ·split
          ·split
           ·unfold doAppend
            split
            ·simp only [elemsOf]
             split
             ·cases s with
              | loc l k e i n g => simp only; rw [only_get (by simp [keysL, keysA])]
              | _ => rfl
             ·rfl
            ·rfl
           ·rfl
          ·rfl
         ·rfl
        ·split
         ·split
          ·unfold doAppendZ
           split
           ·unfold doAppend
            split
            ·simp only [elemsOf]
             split
             ·cases s with
              | loc l k e i n g => simp only; rw [only_get (by simp [keysL, keysA])]
              | _ => rfl
             ·rfl
            ·rfl
           ·rfl
          ·rfl
         ·rfl
        ·rfl
      ·rfl
   | len => exact other rfl
   | max => exact other rfl
   | min => exact other rfl
   | _ => simp [rdOf] at hr
  | _ => simp [rdOf] at hr
 | _ => exact dflt hr
def seqAt : St → List SOp → List De → Nat → St
 | st, o :: os, d :: ds, i + 1 => seqAt (st.by o.dst [] d) os ds i
 | st, _, _, _ => st
theorem seqAt_zero (st : St) (ops : List SOp) (ds : List De) : seqAt st ops ds 0 = st := by
 cases ops <;> cases ds <;> rfl
theorem seqAt_is (st : St) (ops : List SOp) (ds : List De) (hl : ds.length = ops.length) : ∀ i, i ≤ ops.length →
  (seqAt st ops ds i).fr :: (seqAt st ops ds i).low = Heap.puts (st.fr :: st.low) (effSets ds (List.range i)) ∧ (seqAt st ops ds i).nx = st.nx + 16 * i ∧ (seqAt st ops ds i).nt = st.nt ∧
  (seqAt st ops ds i).tm = effTm ops ds (List.range i) st.tm := by
 have key : ∀ (ops : List SOp) (ds : List De) (st : St), ds.length = ops.length → ∀ i o d, i < ops.length → ops[i]? = some o → ds[i]? = some d → seqAt st ops ds (i + 1) = (seqAt st ops ds i).by o.dst [] d := by
  intro ops
  induction ops with
  | nil => intro ds st hl i o d hi; simp at hi
  | cons o' os ih =>
   intro ds st hl i o d hi ho hd
   cases ds with
   | nil => simp at hl
   | cons d' ds =>
    cases i with
    | zero => simp at ho hd; subst ho hd; simp [seqAt, seqAt_zero]
    | succ i =>
     simp only [List.getElem?_cons_succ] at ho hd
     simp only [seqAt]
     exact ih ds _ (by simpa using hl) i o d (by simpa using hi) ho hd
 intro i
 induction i with
 | zero => intro _; simp [seqAt_zero, effSets, Heap.puts, effTm]
 | succ i ih =>
  intro hi
  obtain ⟨h1, h2, h3, h4⟩ := ih (by omega)
  have ho : ops[i]? = some ops[i] := List.getElem?_eq_getElem (by omega)
  have hd : ds[i]? = some ds[i] := List.getElem?_eq_getElem (by omega)
  have hk := key ops ds st hl i _ _ (by omega) ho hd
  obtain ⟨f', H', hp⟩ := puts_cons (seqAt st ops ds i).fr (seqAt st ops ds i).low (ds[i]).sets
  have hb : seqAt st ops ds (i + 1) = { seqAt st ops ds i with tm := putTm (seqAt st ops ds i).tm (ops[i]).dst (ds[i]).val, nx := (seqAt st ops ds i).nx + 16, fr := f', low := H' } := by
   rw [hk]; unfold St.by; rw [hp]; rfl
  have es : ∀ (l : List Nat) (m : List Nat), effSets ds (l ++ m) = effSets ds l ++ effSets ds m := by
   intro l m; induction l with
   | nil => rfl
   | cons a l ih => simp [effSets, ih]
  have et : ∀ (l : List Nat) (j : Nat) (tm : List (Nat × AV)), effTm ops ds (l ++ [j]) tm = (match ds[j]? with | some d => putTm (effTm ops ds l tm) (dstOf ops j) d.val | none => effTm ops ds l tm) := by
   intro l; induction l with
   | nil => intro j tm; rfl
   | cons a l ih => intro j tm; simp only [List.cons_append, effTm, ih]
  rw [hb]
  refine ⟨?_, by simp only [h2]; omega, h3, ?_⟩
  ·simp only
   rw [List.range_succ, es, Heap.puts_append, ← h1, ← hp]
   simp [effSets, setsOf, hd]
  ·simp only
   rw [List.range_succ, et, hd, ← h4]
   simp [dstOf, ho]
def uses1 (ops : List SOp) (befs : List (List Nat)) (i : Nat) (t : Nat) : Bool :=
 (List.range ops.length).all fun j => !(decide (dstOf ops j = some t)) || ((befAt befs i).contains j || (befAt befs j).contains i)
abbrev Rd := Option (List (Nat × Nat))
def farFrom (r : Rd) (s : Sets) : Bool := match r with
 | none => s.isEmpty
 | some ks => s.all fun p => !ks.contains (p.1, p.2.1)
def calm (ops : List SOp) (befs : List (List Nat)) (ds : List (De × Rd)) : Bool :=
 decide (ds.length = ops.length) && oneDst ops && befFits 0 befs && apartAll befs (ds.map (·.1)) ops.length &&
 (List.range ops.length).all fun i => match ops[i]?, ds[i]? with
  | some o, some d => (useS o).all (uses1 ops befs i) && ((List.range ops.length).all fun j => !unord befs i j || ((ds[j]?).map fun x => farFrom d.2 x.1.sets).getD true)
  | _, _ => false
section
variable [Md] {P : Program} {T : Tys} {n : Nat} {Φ : Exit → St → Prop}
theorem Eff.mono {kb : Nat} {o : SOp} {tm : Tm} {G G' : Get} {d : De} (hG : GLe G G') (h : Eff P T kb o tm G d) : Eff P T kb o tm G' d := by
 cases h with
 | op hc h => exact .op hc (opDe_mono (fun _ _ h => h) hG h)
 | call c f args fargs hc h hp hz hr hs => exact .call c f args fargs hc h hp (frzL_mono hG _ _ hz) hr hs
 | lent m c f args fargs hc h hp hz hr hs => exact .lent m c f args fargs hc h hp ((br_mono hG (boxF_mono hG (fun _ _ _ _ _ _ _ hh => frz_mono hG _ _ hh) m) (fun _ _ _ _ _ _ _ hh => frz_mono hG _ _ hh)).2 _ _ hz) hr hs
 | give rs gs c f args args0 fr0 fr y hc h hp hz hg hnd hd =>
  have hGp : ∀ l k b, only (pushG G) (rs.map fun k => (1, k)) l k = some b → only (pushG G') (rs.map fun k => (1, k)) l k = some b := by
   intro l k b e
   unfold only at e ⊢
   split at e
   ·rename_i hm
    rw [if_pos hm]
    cases l with
    | zero => simp [pushG] at e
    | succ l => exact hG l k b e
   ·cases e
  have hloc : ∀ (l k e i0 n g : Nat) (y : AV), (AV.loc l k e i0 n g).frz (only (pushG G) (rs.map fun k => (1, k))) = some y → (AV.loc l k e i0 n g).frz (only (pushG G') (rs.map fun k => (1, k))) = some y :=
   fun _ _ _ _ _ _ _ hh => frz_mono hGp _ _ hh
  exact .give rs gs c f args args0 fr0 fr y hc h hp (gvL_mono (gs := gs) (br_mono hGp (boxF_mono hGp hloc 5) hloc).1 _ _ hz) (giveG_mono hG gs 0 fr0 hg) hnd hd
theorem EffG.congr {kb : Nat} {o : SOp} {tm tm' : Tm} {G : Get} {d : De} (h : ∀ t ∈ useS o, tm t = tm' t) (he : EffG P T kb o tm G d) : EffG P T kb o tm' G d := by
 have hu : ∀ t ∈ usesOf o.op, tm t = tm' t := fun t ht => h t (by simp only [useS, List.mem_append]; exact .inr ht)
 have hg : ∀ g w, o.guard = some (g, w) → tm g = tm' g := fun g w hh => h g (by simp [useS, hh])
 rcases he with ⟨hgo, he⟩ | ⟨⟨g, w, hh, hc⟩, hd⟩
 ·refine .inl ⟨?_, ?_⟩
  ·rcases hgo with hgo | ⟨g, w, b, hh, h1, h2⟩
   ·exact .inl hgo
   ·exact .inr ⟨g, w, b, hh, by rw [← hg g w hh]; exact h1, h2⟩
  ·cases he with
   | op hc he => exact .op hc (by rw [← opDe_congr hu (fun _ => rfl)]; exact he)
   | call c f args fargs hc h hp hz hr hs =>
    have hoc : o.op = .call c := by
     unfold isCall at hc
     split at hc
     ·split at hc
      ·cases hc
      ·obtain rfl := Option.some.inj hc; assumption
     ·cases hc
    exact .call c f args fargs hc (by rw [← callee_congr (by rw [← hoc]; exact hu)]; exact h) hp hz hr hs
   | lent m c f args fargs hc h hp hz hr hs =>
    have hoc : o.op = .call c := by
     unfold isCall at hc
     split at hc
     ·split at hc
      ·cases hc
      ·obtain rfl := Option.some.inj hc; assumption
     ·cases hc
    exact .lent m c f args fargs hc (by rw [← callee_congr (by rw [← hoc]; exact hu)]; exact h) hp hz hr hs
   | give rs gs c f args args0 fr0 fr y hc h hp hz hg hnd hd =>
    have hoc : o.op = .call c := by
     unfold isCall at hc
     split at hc
     ·split at hc
      ·cases hc
      ·obtain rfl := Option.some.inj hc; assumption
     ·cases hc
    exact .give rs gs c f args args0 fr0 fr y hc (by rw [← callee_congr (by rw [← hoc]; exact hu)]; exact h) hp hz hg hnd hd
 ·refine .inr ⟨⟨g, w, hh, ?_⟩, hd⟩
  rw [← hg g w hh]; exact hc
def EffF (P : Program) (T : Tys) (kb : Nat) (o : SOp) (tm : Tm) (G : Get) (d : De × Rd) : Prop :=
 EffG P T kb o tm (match d.2 with | none => G | some ks => only G ks) d.1
inductive Steps (P : Program) (T : Tys) : St → List SOp → List (De × Rd) → Prop
 | nil (st : St) : Steps P T st [] []
 | cons (st : St) (o : SOp) (os : List SOp) (d : De × Rd) (ds : List (De × Rd)) (h : EffF P T st.nx o (look st.tm) st.get d) (hs : Steps P T (st.by o.dst [] d.1) os ds) : Steps P T st (o :: os) (d :: ds)
theorem Steps.at {st : St} {ops : List SOp} {ds : List (De × Rd)} (h : Steps P T st ops ds) : ∀ i o d, ops[i]? = some o → ds[i]? = some d →
  EffF P T (seqAt st ops (ds.map (·.1)) i).nx o (look (seqAt st ops (ds.map (·.1)) i).tm) (seqAt st ops (ds.map (·.1)) i).get d := by
 induction h with
 | nil st => intro i o d ho; simp at ho
 | cons st o os d ds h hs ih =>
  intro i o' d' ho hd
  cases i with
  | zero => simp at ho hd; subst ho hd; rw [seqAt_zero]; exact h
  | succ i =>
   simp only [List.getElem?_cons_succ] at ho hd
   simp only [List.map_cons, seqAt]
   exact ih i o' d' ho hd
theorem Steps.length {st : St} {ops : List SOp} {ds : List (De × Rd)} (h : Steps P T st ops ds) : ds.length = ops.length := by
 induction h with
 | nil => rfl
 | cons _ _ _ _ _ _ _ ih => simp [ih]
theorem AK.tm {todo : List It} {tm tm' : List (Nat × AV)} {fr : Fra} {low : Heap} {nx nt : Nat} (h : ∀ t, look tm' t = look tm t) (hk : AK P n Φ todo ⟨tm', fr, low, nx, nt⟩) : AK P n Φ todo ⟨tm, fr, low, nx, nt⟩ := by
 refine AK.weak ?_ hk
 intro N0 W0 a w fm ts hS
 exact ⟨fm, ts, ⟨hS.hr, fun t x hx => hS.tm t x (by rw [← h]; exact hx), hS.nx, hS.size, hS.dfr⟩, Later.refl _ _⟩
theorem dels_look : ∀ (ks : List Nat) (l : List (Nat × AV)) (t : Nat), look (dels l ks) t = if t ∈ ks then none else look l t
 | [], l, t => by simp [dels]
 | k :: ks, l, t => by
  simp only [dels, dels_look ks, look_del, List.mem_cons]
  by_cases h1 : t ∈ ks
  ·simp [h1]
  ·by_cases h2 : k = t
   ·simp [h2]
   ·simp [h1, h2, Ne.symm h2]
theorem AKev_calm (hT : TysOK P T) (hm : P.follows .mixedOrders = true) {ops : List SOp} {befs : List (List Nat)} {drop : List Nat} {todo : List It} {st : St} (ds : List (De × Rd)) (hs : Steps P T st ops ds) (hc : calm ops befs ds = true)
  (hn : AK P n Φ todo { seqAt st ops (ds.map (·.1)) ops.length with tm := dels (seqAt st ops (ds.map (·.1)) ops.length).tm drop }) : AKev P n Φ (.draw ops befs drop todo st) := by
 obtain ⟨ds', hds'⟩ : ∃ ds', ds.map (·.1) = ds' := ⟨_, rfl⟩
 have hl := hs.length
 have hl' : ds'.length = ops.length := by rw [← hds']; simp [hl]
 simp only [calm, Bool.and_eq_true, decide_eq_true_eq, hds'] at hc
 obtain ⟨⟨⟨⟨_, h1⟩, hbl⟩, hap⟩, hall⟩ := hc
 have hO := oneDst_ok ops h1
 have hB := befFits_ok befs 0 hbl
 rw [hds'] at hn
 obtain ⟨e1, e2, e3, e4⟩ := seqAt_is st ops ds' hl' ops.length (Nat.le_refl _)
 have hdx : ∀ i, i < ops.length → ∃ d, ds[i]? = some d ∧ ds'[i]? = some d.1 := by
  intro i hi
  obtain ⟨x, h2⟩ : ∃ x, ds[i]? = some x := ⟨_, List.getElem?_eq_getElem (by omega)⟩
  refine ⟨x, h2, ?_⟩
  have h3 : (ds.map (·.1))[i]? = some x.1 := by rw [List.getElem?_map, h2]; rfl
  rw [hds'] at h3; exact h3
 refine AKev_draw hT hm ds' hl' h1 hbl hap ?_ ?_
 ·intro i s d hi hd
  have hil : i < ops.length := (List.getElem?_eq_some_iff.1 hi).1
  obtain ⟨dd, h2, h3⟩ := hdx i hil
  rw [hd] at h3
  obtain rfl := Option.some.inj h3
  have hE := hs.at i s dd hi h2
  rw [hds'] at hE
  obtain ⟨f1, f2, f3, f4⟩ := seqAt_is st ops ds' hl' i (by omega)
  rw [f2] at hE
  simp only [List.all_eq_true, List.mem_range] at hall
  have hci := hall i hil
  rw [hi, h2] at hci
  simp only [Bool.and_eq_true, List.all_eq_true] at hci
  obtain ⟨hu, hh⟩ := hci
  have hdst : ∀ j t, dstOf ops j = some t → j < ops.length := by
   intro j t hj
   unfold dstOf at hj
   cases ho : ops[j]? with
   | none => rw [ho] at hj; cases hj
   | some o => exact (List.getElem?_eq_some_iff.1 ho).1
  have htm : ∀ t ∈ useS s, look (seqAt st ops ds' i).tm t = look (ctxTm ops befs ds' st.tm i) t := by
   intro t ht
   rw [f4]
   have hut := hu t ht
   simp only [uses1, List.all_eq_true, List.mem_range, Bool.or_eq_true, Bool.not_eq_true', decide_eq_false_iff_not] at hut
   unfold ctxTm
   by_cases hex : ∃ j, dstOf ops j = some t
   ·obtain ⟨j, hj⟩ := hex
    have hjl := hdst j t hj
    have hor : (befAt befs i).contains j = true ∨ (befAt befs j).contains i = true := by
     rcases hut j hjl with h | h
     ·exact absurd hj h
     ·exact h
    by_cases hjb : (befAt befs i).contains j = true
    case neg =>
     have hij := hB j i (by simpa using hor.resolve_left hjb)
     have hno : ∀ L : List Nat, j ∉ L → ∀ k ∈ L, dstOf ops k ≠ some t := by
      intro L hjL k hk hkt
      have := hO j k t hj hkt
      subst this
      exact hjL hk
     rw [effTm_out ops ds' t _ _ (hno _ (by simp; omega)), effTm_out ops ds' t _ _ (hno _ (by intro hm; exact hjb (idxs_mem.1 hm).2)), dels_look, if_neg]
     intro hm
     obtain ⟨k, hk, hkt⟩ := List.mem_filterMap.1 hm
     have := hO j k t hj hkt
     subst this
     have := (idxs_mem.1 hk).2
     rw [hor.resolve_left hjb] at this
     cases this
    have hji := hB i j (by simpa using hjb)
    obtain ⟨dj, _, hdj⟩ := hdx j hjl
    rw [effTm_in ops ds' hO hj hdj _ _ (List.mem_range.2 (by omega)), effTm_in ops ds' hO hj hdj _ _ (idxs_mem.2 ⟨hjl, hjb⟩)]
   ·have hno : ∀ (L : List Nat), ∀ j ∈ L, dstOf ops j ≠ some t := fun L j _ hj => hex ⟨j, hj⟩
    rw [effTm_out ops ds' t _ _ (hno _), effTm_out ops ds' t _ _ (hno _), dels_look, if_neg]
    intro hm
    obtain ⟨j, _, hj⟩ := List.mem_filterMap.1 hm
    exact hex ⟨j, hj⟩
  simp only [List.all_eq_true, List.mem_range, Bool.or_eq_true, Bool.not_eq_true'] at hh
  have hfar : ∀ j, j < ops.length → unord befs i j = true → farFrom dd.2 (setsOf ds' j) = true := by
   intro j hj hun
   obtain ⟨dj, hdj, hdj'⟩ := hdx j hj
   rcases hh j hj with h | h
   ·rw [hun] at h; cases h
   ·rw [hdj] at h
    simpa [setsOf, hdj'] using h
  have hG : ∀ l k, (∀ ks, dd.2 = some ks → (l, k) ∈ ks) → (seqAt st ops ds' i).get l k = Heap.get (ctxH ops befs ds' (st.fr :: st.low) i) l k := by
   intro l k hlk
   have hnot : ∀ j, j < ops.length → unord befs i j = true → ∀ p ∈ setsOf ds' j, ¬ (p.1 = l ∧ p.2.1 = k) := by
    intro j hj hun p hp hpe
    have := hfar j hj hun
    unfold farFrom at this
    split at this
    ·rw [List.isEmpty_iff] at this; rw [this] at hp; cases hp
    ·rename_i ks hks
     have h1 := List.all_eq_true.1 this p hp
     have h2 := hlk ks hks
     rw [hpe.1, hpe.2] at h1
     simp [h2] at h1
   unfold St.get ctxH
   rw [f1, get_puts, get_puts]
   have g1 : said (gone (effSets ds' (idxs ops.length (unord befs i)))) l k = none := by
    apply said_none
    intro x hx
    obtain ⟨y, hy, rfl⟩ := List.mem_map.1 hx
    obtain ⟨j, hj, hyj⟩ := (mem_effSets _).1 hy
    exact fun hh => hnot j (idxs_mem.1 hj).1 (idxs_mem.1 hj).2 y hyj hh
   rw [g1]
   simp only
   rw [get_puts]
   have g2 : said (effSets ds' (List.range i)) l k = said (effSets ds' (idxs ops.length fun j => (befAt befs i).contains j)) l k := by
    have k2 : List.range i = (List.range ops.length).filter fun j => decide (j < i) := by
     have : ∀ (m k : Nat), k ≤ m → List.range k = (List.range m).filter fun j => decide (j < k) := by
      intro m
      induction m with
      | zero =>
       intro k hk
       have : k = 0 := by omega
       subst this; rfl
      | succ m ih =>
       intro k hk
       by_cases hkm : k = m + 1
       ·subst hkm
        symm
        rw [List.filter_eq_self]
        intro j hj; simpa using hj
       ·rw [List.range_succ, List.filter_append, ← ih k (by omega)]
        have : ¬ m < k := by omega
        simp [this]
     exact this _ _ (by omega)
    rw [k2]
    symm
    unfold idxs
    refine said_effSets (ds := ds') (l := l) (k := k) (fun j => (befAt befs i).contains j) (fun j => decide (j < i)) ?_ (List.range ops.length) ?_
    ·intro j hj
     have := hB i j (by simpa using hj)
     simp; omega
    ·intro j hj hji hnb s hs
     simp only [decide_eq_true_eq] at hji
     refine hnot j (List.mem_range.1 hj) ?_ s hs
     unfold unord
     have hn2 : (befAt befs j).contains i = false := by
      cases hx : (befAt befs j).contains i with
      | false => rfl
      | true => have := hB j i (by simpa using hx); omega
     rw [hnb, hn2]
     have : j ≠ i := by omega
     simp [this]
   rw [g2]
  have hE' := EffG.congr htm hE
  have hle : GLe (match dd.2 with | none => (seqAt st ops ds' i).get | some ks => only (seqAt st ops ds' i).get ks) (Heap.get (ctxH ops befs ds' (st.fr :: st.low) i)) := by
   intro l k b hb
   cases hd2 : dd.2 with
   | none =>
    rw [hd2] at hb
    simp only at hb
    rw [← hG l k (by intro ks e; rw [hd2] at e; cases e)]; exact hb
   | some ks =>
    rw [hd2] at hb
    simp only [only] at hb
    split at hb
    ·rename_i hm
     rw [← hG l k (by intro ks' e; rw [hd2] at e; obtain rfl := Option.some.inj e; simpa using hm)]; exact hb
    ·cases hb
  rcases hE' with ⟨a, b⟩ | ⟨a, b⟩
  ·exact .inl ⟨a, b.mono hle⟩
  ·exact .inr ⟨a, b⟩
 ·
  unfold St.drawn
  obtain ⟨f', H', hp⟩ := puts_cons st.fr st.low (effSets ds' (List.range ops.length))
  rw [hp] at e1 ⊢
  simp only [List.cons.injEq] at e1
  obtain ⟨e5, e6⟩ := e1
  rw [withHeap_eq]
  simp only [e2, e3, e4, e5, e6] at hn
  exact hn
end
end Go.Abs
namespace Go.Abs
open Go Go.RowKit
set_option linter.unusedSectionVars false
theorem PCall.nl {P : Program} {f : FuncId} {zs args : List AV} {R : AV → Prop} (h : PCall P f args R) (hn : NLs zs args) : PCall P f zs R :=
 ⟨h.1, fun fm w vs h1 h2 => h.2 fm w vs h1 (hn.ok h2)⟩
inductive EvD where
 | stuck
 | call (f : FuncId) (args : List AV) (o : SOp) (os : List SOp) (acc : List (De × Rd)) (st : St)
 | done (acc : List (De × Rd)) (st : St)
def pastD : De × Rd := (⟨.tup [], []⟩, some [])
def twoD (f : List SOp → List (De × Rd) → St → EvD) (b : Bool) (os : List SOp) (acc : List (De × Rd)) (st : St) (os' : List SOp) (acc' : List (De × Rd)) (st' : St) : EvD :=
 match b with
 | true => f os acc st
 | false => f os' acc' st'
theorem twoD_true (f : List SOp → List (De × Rd) → St → EvD) (os os' : List SOp) (acc acc' : List (De × Rd)) (st st' : St) : twoD f true os acc st os' acc' st' = f os acc st := rfl
theorem twoD_false (f : List SOp → List (De × Rd) → St → EvD) (os os' : List SOp) (acc acc' : List (De × Rd)) (st st' : St) : twoD f false os acc st os' acc' st' = f os' acc' st' := rfl
def nextD (f : List SOp → List (De × Rd) → St → EvD) (o : SOp) (os : List SOp) (acc : List (De × Rd)) (st : St) : Option De → EvD
 | some d => f os ((d, rdOf (look st.tm) o.op) :: acc) (st.by o.dst [] d)
 | none => .stuck
theorem nextD_some (f : List SOp → List (De × Rd) → St → EvD) (o : SOp) (os : List SOp) (acc : List (De × Rd)) (st : St) (d : De) : nextD f o os acc st (some d) = f os ((d, rdOf (look st.tm) o.op) :: acc) (st.by o.dst [] d) := rfl
def callD (o : SOp) (os : List SOp) (acc : List (De × Rd)) (st : St) : Option (FuncId × List AV) → EvD
 | some (f, args) => .call f args o os acc st
 | none => .stuck
theorem callD_some (o : SOp) (os : List SOp) (acc : List (De × Rd)) (st : St) (f : FuncId) (args : List AV) : callD o os acc st (some (f, args)) = .call f args o os acc st := rfl
def doD (T : Tys) (f : List SOp → List (De × Rd) → St → EvD) (o : SOp) (os : List SOp) (acc : List (De × Rd)) (st : St) : EvD :=
 match isCall o.op with
 | some c => callD o os acc st (callee (look st.tm) c)
 | none => nextD f o os acc st (opDe T st.nx o.op o.type (look st.tm) st.get)
def runD (T : Tys) : Nat → List SOp → List (De × Rd) → St → EvD
 | 0, _, _, _ => .stuck
 | _ + 1, [], acc, st => .done acc st
 | n + 1, o :: os, acc, st => match o.guard with
  | none => doD T (runD T n) o os acc st
  | some (g, w) => match look st.tm g with
   | some (.bool b) => twoD (runD T n) (b == w) (⟨o.dst, o.op, o.type, none, o.drop⟩ :: os) acc st os (pastD :: acc) (st.by o.dst [] ⟨.tup [], []⟩)
   | some (.tup []) => runD T n os (pastD :: acc) (st.by o.dst [] ⟨.tup [], []⟩)
   | _ => .stuck
section
variable [Md] {P : Program} {T : Tys} {n : Nat} {Φ : Exit → St → Prop} {C : List (De × Rd) → St → Prop}
def GD (P : Program) (T : Tys) (C : List (De × Rd) → St → Prop) (os : List SOp) (acc : List (De × Rd)) (st : St) : Prop :=
 ∃ ds, Steps P T st os ds ∧ C (ds.reverse ++ acc) (seqAt st os (ds.map (·.1)) os.length)
def DG (P : Program) (T : Tys) (C : List (De × Rd) → St → Prop) : EvD → Prop
 | .stuck => False
 | .done acc st => C acc st
 | .call f args o os acc st => (∃ rs gs args0 fr0 fr y, GCall P f args0 fr0 (fun y' fr' => y' = y ∧ fr' = fr) ∧ gvL gs (only (pushG (only st.get ((gs ++ rs).map fun k => (0, k)))) (rs.map fun k => (1, k))) (boxF (only (pushG (only st.get ((gs ++ rs).map fun k => (0, k)))) (rs.map fun k => (1, k))) 5) (AV.shL 1 args) = some args0 ∧
    giveG (only st.get ((gs ++ rs).map fun k => (0, k))) 0 gs = some fr0 ∧ (decide (gs ++ rs).Nodup && decide (gs.length ≤ 16)) = true ∧ GD P T C os ((⟨y.imp st.nx, kill0 rs ++ (kill0 gs ++ impS st.nx fr)⟩, some ((gs ++ rs).map fun k => (0, k))) :: acc) (st.by o.dst [] ⟨y.imp st.nx, kill0 rs ++ (kill0 gs ++ impS st.nx fr)⟩)) ∨ ∃ v fargs fl, PCall P f fargs (fun y => y = v) ∧ ((AV.frzL st.get args = some fargs ∧ (AV.refsL args = [] ∨ v.scal = true) ∧ fl = some (AV.refsL args)) ∨ (fl = none ∧ v.scal = true ∧ ∃ m, AV.brL st.get (boxF st.get m) args = some fargs)) ∧
   GD P T C os ((⟨v, []⟩, fl) :: acc) (st.by o.dst [] ⟨v, []⟩)
theorem GD.cons {o : SOp} {os : List SOp} {acc : List (De × Rd)} {st : St} {d : De × Rd} (h : EffF P T st.nx o (look st.tm) st.get d) (hg : GD P T C os (d :: acc) (st.by o.dst [] d.1)) : GD P T C (o :: os) acc st := by
 obtain ⟨ds, h1, h2⟩ := hg
 exact ⟨d :: ds, .cons st o os d ds h h1, by simpa [seqAt] using h2⟩
theorem runD_sound : ∀ (m : Nat) (os : List SOp) (acc : List (De × Rd)) (st : St), DG P T C (runD T m os acc st) → GD P T C os acc st := by
 intro m
 induction m with
 | zero => intro os acc st h; exact h.elim
 | succ m ih =>
  intro os acc st h
  cases os with
  | nil => exact ⟨[], .nil st, by simp only [runD, DG] at h; simpa [seqAt_zero] using h⟩
  | cons o os =>
   have past : (stays o (look st.tm)) → DG P T C (runD T m os (pastD :: acc) (st.by o.dst [] ⟨.tup [], []⟩)) → GD P T C (o :: os) acc st := by
    intro hs h
    exact GD.cons (d := pastD) (by simp only [EffF, pastD]; exact .inr ⟨hs, rfl⟩) (ih _ _ _ h)
   cases hg : o.guard with
   | none =>
    simp only [runD, hg, doD] at h
    cases hc : isCall o.op with
    | none =>
     rw [hc] at h
     simp only at h
     cases hd : opDe T st.nx o.op o.type (look st.tm) st.get with
     | none => rw [hd] at h; exact h.elim
     | some d =>
      rw [hd] at h
      simp only [nextD] at h
      refine GD.cons (d := (d, rdOf (look st.tm) o.op)) ?_ (ih _ _ _ h)
      unfold EffF
      simp only
      cases hr : rdOf (look st.tm) o.op with
      | none => exact .inl ⟨.inl hg, .op hc hd⟩
      | some ks => exact .inl ⟨.inl hg, .op hc (rdOf_ok hd hr)⟩
    | some c =>
     rw [hc] at h
     simp only at h
     cases hcal : callee (look st.tm) c with
     | none => rw [hcal] at h; exact h.elim
     | some fa =>
      obtain ⟨f, args⟩ := fa
      rw [hcal] at h
      simp only [callD, DG] at h
      rcases h with ⟨rs, gs, args0, fr0, fr, y, h1, h2, h3, h5, h4⟩ | h
      ·refine GD.cons (d := (⟨y.imp st.nx, kill0 rs ++ (kill0 gs ++ impS st.nx fr)⟩, some ((gs ++ rs).map fun k => (0, k)))) ?_ h4
       unfold EffF
       exact .inl ⟨.inl hg, .give rs gs c f args args0 fr0 fr y hc hcal h1 h2 h3 h5 rfl⟩
      obtain ⟨v, fargs, fl, h1, hor, h4⟩ := h
      refine GD.cons (d := (⟨v, []⟩, fl)) ?_ h4
      unfold EffF
      rcases hor with ⟨h2, h3, rfl⟩ | ⟨rfl, h3, m, h2⟩
      ·exact .inl ⟨.inl hg, .call c f args fargs hc hcal h1 (frzL_only _ _ h2 (fun _ h => h)) h3 rfl⟩
      ·exact .inl ⟨.inl hg, .lent m c f args fargs hc hcal h1 h2 h3 rfl⟩
   | some gw =>
    obtain ⟨g, w⟩ := gw
    simp only [runD, hg] at h
    split at h
    ·rename_i b hb
     cases hbw : b == w with
     | true =>
      rw [hbw] at h
      simp only [twoD] at h
      obtain ⟨ds, h1, h2⟩ := ih _ _ _ h
      cases h1 with
      | cons _ _ _ d ds hE hs =>
       refine ⟨d :: ds, .cons st o os d ds ?_ hs, by simpa [seqAt] using h2⟩
       have hgo : goes o (look st.tm) := .inr ⟨g, w, b, hg, hb, hbw⟩
       unfold EffF at hE ⊢
       have conv : ∀ G, EffG P T st.nx ⟨o.dst, o.op, o.type, none, o.drop⟩ (look st.tm) G d.1 → EffG P T st.nx o (look st.tm) G d.1 := by
        rintro G (⟨_, he⟩ | ⟨⟨g', w', hh, _⟩, _⟩)
        ·refine .inl ⟨hgo, ?_⟩
         cases he with
         | op hc h => exact .op hc h
         | call c f args fargs hc h hp hz hr hs => exact .call c f args fargs hc h hp hz hr hs
         | lent m c f args fargs hc h hp hz hr hs => exact .lent m c f args fargs hc h hp hz hr hs
         | give rs gs c f args args0 fr0 fr y hc h hp hz hg hnd hd => exact .give rs gs c f args args0 fr0 fr y hc h hp hz hg hnd hd
        ·cases hh
       exact conv _ hE
     | false =>
      rw [hbw] at h
      simp only [twoD] at h
      exact past ⟨g, w, hg, .inl ⟨b, hb, hbw⟩⟩ h
    ·rename_i hb
     exact past ⟨g, w, hg, .inr hb⟩ h
    ·exact h.elim
theorem DG_call {f : FuncId} {args fargs zargs : List AV} {v : AV} {o : SOp} {os : List SOp} {acc : List (De × Rd)} {st : St} (m : Nat) (hp : PCall P f fargs (fun y => y = v)) (hz : AV.frzL st.get args = some zargs) (hn : NLs zargs fargs)
  (hr : AV.refsL args = [] ∨ v.scal = true) (h : DG P T C (runD T m os ((⟨v, []⟩, some (AV.refsL args)) :: acc) (st.by o.dst [] ⟨v, []⟩))) : DG P T C (.call f args o os acc st) :=
 .inr ⟨v, zargs, _, hp.nl hn, .inl ⟨hz, hr, rfl⟩, runD_sound m _ _ _ h⟩
theorem DG_give {f : FuncId} {args args0 : List AV} {fr0 fr : Fra} {y : AV} {o : SOp} {os : List SOp} {acc : List (De × Rd)} {st : St} (m : Nat) (rs gs : List Nat) (hp : GCall P f args0 fr0 (fun y' fr' => y' = y ∧ fr' = fr))
  (hz : gvL gs (only (pushG (only st.get ((gs ++ rs).map fun k => (0, k)))) (rs.map fun k => (1, k))) (boxF (only (pushG (only st.get ((gs ++ rs).map fun k => (0, k)))) (rs.map fun k => (1, k))) 5) (AV.shL 1 args) = some args0 ∧ giveG (only st.get ((gs ++ rs).map fun k => (0, k))) 0 gs = some fr0) (hnd : (decide (gs ++ rs).Nodup && decide (gs.length ≤ 16)) = true)
  (h : DG P T C (runD T m os ((⟨y.imp st.nx, kill0 rs ++ (kill0 gs ++ impS st.nx fr)⟩, some ((gs ++ rs).map fun k => (0, k))) :: acc) (st.by o.dst [] ⟨y.imp st.nx, kill0 rs ++ (kill0 gs ++ impS st.nx fr)⟩))) : DG P T C (.call f args o os acc st) :=
 .inl ⟨rs, gs, args0, fr0, fr, y, hp, hz.1, hz.2, hnd, runD_sound m _ _ _ h⟩
theorem DG_done {acc : List (De × Rd)} {st : St} (h : C acc st) : DG P T C (.done acc st) := h
def skel (ds : List (De × Rd)) : List (List (Nat × Nat) × Rd) := ds.map fun d => (d.1.sets.map fun p => (p.1, p.2.1), d.2)
def bones (sk : List (List (Nat × Nat) × Rd)) : List (De × Rd) := sk.map fun d => (⟨.tup [], d.1.map fun p => (p.1, p.2, none)⟩, d.2)
theorem keysApart_bones (s t s' t' : Sets) (hs : s.map (fun p => (p.1, p.2.1)) = s'.map (fun p => (p.1, p.2.1))) (ht : t.map (fun p => (p.1, p.2.1)) = t'.map (fun p => (p.1, p.2.1))) : keysApart s t = keysApart s' t' := by
 have key : ∀ s t : Sets, keysApart s t = ((s.map fun p => (p.1, p.2.1)).all fun p => (t.map fun p => (p.1, p.2.1)).all fun q => !(p.1 == q.1 && p.2 == q.2)) := by
  intro s t
  unfold keysApart
  simp [List.all_map, Function.comp_def]
 rw [key, key, hs, ht]
theorem farFrom_bones (r : Rd) (s s' : Sets) (hs : s.map (fun p => (p.1, p.2.1)) = s'.map (fun p => (p.1, p.2.1))) : farFrom r s = farFrom r s' := by
 have key : ∀ s : Sets, farFrom r s = (match r with
   | none => (s.map fun p => (p.1, p.2.1)).isEmpty
   | some ks => (s.map fun p => (p.1, p.2.1)).all fun p => !ks.contains p) := by
  intro s
  cases r with
  | none => cases s <;> rfl
  | some ks => simp [farFrom, List.all_map, Function.comp_def]
 rw [key, key, hs]
theorem calm_bones (ops : List SOp) (befs : List (List Nat)) (ds : List (De × Rd)) : calm ops befs ds = calm ops befs (bones (skel ds)) := by
 have hget : ∀ i : Nat, (bones (skel ds))[i]? = (ds[i]?).map fun d => ((⟨.tup [], d.1.sets.map fun p => (p.1, p.2.1, none)⟩ : De), d.2) := by
  intro i
  simp [bones, skel, List.getElem?_map, Function.comp_def]
 have hk : ∀ i : Nat, (setsOf (ds.map (·.1)) i).map (fun p => (p.1, p.2.1)) = (setsOf ((bones (skel ds)).map (·.1)) i).map (fun p => (p.1, p.2.1)) := by
  intro i
  unfold setsOf
  rw [List.getElem?_map, List.getElem?_map, hget]
  cases ds[i]? with
  | none => rfl
  | some d => simp [Function.comp_def]
 have h1 : (bones (skel ds)).length = ds.length := by simp [bones, skel]
 have h2 : apartAll befs ((bones (skel ds)).map (·.1)) ops.length = apartAll befs (ds.map (·.1)) ops.length := by
  unfold apartAll
  congr 1; funext j; congr 1; funext i
  rw [keysApart_bones _ _ _ _ (hk i).symm (hk j).symm]
 unfold calm
 rw [h1, h2]
 congr 1
 congr 1; funext i
 rw [hget]
 cases ops[i]? with
 | none => rfl
 | some o =>
  cases ds[i]? with
  | none => rfl
  | some d =>
   simp only [Option.map_some]
   congr 1
   congr 1; funext j
   rw [hget]
   cases ds[j]? with
   | none => rfl
   | some x =>
    simp only [Option.map_some, Option.getD_some]
    rw [farFrom_bones d.2 x.1.sets (x.1.sets.map fun p => (p.1, p.2.1, none)) (by simp [Function.comp_def])]
theorem calm_of {ops : List SOp} {befs : List (List Nat)} {ds : List (De × Rd)} {sk : List (List (Nat × Nat) × Rd)} (h1 : skel ds = sk) (h2 : calm ops befs (bones sk) = true) : calm ops befs ds = true := by
 rw [calm_bones, h1]; exact h2
theorem AKev_region (hT : TysOK P T) (hm : P.follows .mixedOrders = true) {ops : List SOp} {befs : List (List Nat)} {drop : List Nat} {todo : List It} {st : St} (m : Nat)
  (h : DG P T (fun acc st' => calm ops befs acc.reverse = true ∧ AK P n Φ todo { st' with tm := dels st'.tm drop }) (runD T m ops [] st)) : AKev P n Φ (.draw ops befs drop todo st) := by
 obtain ⟨ds, h1, h2, h3⟩ := runD_sound m _ _ _ h
 simp only [List.append_nil, List.reverse_reverse] at h2
 exact AKev_calm hT hm ds h1 h2 h3
theorem AKev_pcall (hT : TysOK P T) {f : FuncId} {args fargs zargs : List AV} {v : AV} {dst : Option Tmp} {drop : List Nat} {todo : List It} {st : St} (m : Nat) (hp : PCall P f fargs (fun y => y = v)) (hz : AV.frzL (Heap.get ([] :: st.fr :: st.low)) args = some zargs) (hn : NLs zargs fargs)
  (hr : AV.refsL args = [] ∨ v.scal = true) (h : AKev P n Φ (run T m todo (st.took dst drop v [] (st.fr :: st.low)))) : AKev P n Φ (.call f args dst drop todo st) := by
 have hk := run_sound hT m todo _ h
 rcases hr with hr | hr
 ·exact AKev_frozen (hp.nl hn) hz hr (by rintro y rfl; exact hk)
 ·exact AKev_borrow (hp.nl hn) hz (by rintro y rfl; exact hr) (by rintro y rfl; exact hk)
def zOK (o : Option (List AV)) (fargs : List AV) : Prop := match o with
 | some z => NLs z fargs
 | none => False
theorem zOK_some (z fargs : List AV) : zOK (some z) fargs = NLs z fargs := rfl
def yOK (o : Option AV) (v : AV) : Prop := match o with
 | some y => NL y v
 | none => False
theorem yOK_some (y v : AV) : yOK (some y) v = NL y v := rfl
theorem AKev_take (hT : TysOK P T) {f : FuncId} {args fargs : List AV} {v : AV} {dst : Option Tmp} {drop : List Nat} {todo : List It} {st : St} (m : Nat) (rs : List Nat) (hp : PCall P f fargs (fun y => y = v)) (hz : zOK (AV.brL (only (Heap.get ([] :: st.fr :: st.low)) (rs.map fun k => (1, k))) (boxF (only (Heap.get ([] :: st.fr :: st.low)) (rs.map fun k => (1, k))) 5) args) fargs)
  (h : AKev P n Φ (run T m todo (st.took dst drop v [] (dels st.fr rs :: st.low)))) : AKev P n Φ (.call f args dst drop todo st) := by
 unfold zOK at hz
 split at hz
 ·rename_i z hz'
  have hk := run_sound hT m todo _ h
  refine AKev_call (PCall.take 5 _ (hp.nl hz) hz' (by simp)) ?_
  rintro y fr H ⟨rfl, rfl, e⟩
  rw [kills_own] at e
  obtain rfl := (List.cons.inj e).2
  exact hk
 ·exact hz.elim
theorem PCall.nlr {f : FuncId} {args : List AV} {v : AV} (h : PCall P f args (fun y => NL y v)) : PCall P f args (fun y => y = v) := by
 refine ⟨h.1, fun fm w vs h1 h2 => Calls.mono (h.2 fm w vs h1 h2) ?_⟩
 rintro e w' ⟨u, y, fm', h3, h4, h5, h6, h7⟩
 exact ⟨u, v, fm', h3, rfl, h5, h4.ok h6, h7⟩
theorem AKev_bif {f : List It → St → Ev} {b : Bool} {t t' : List It} {s s' : St} {ρ : Type} {A B : Option ρ} {r : ρ} (h : (bif b then A else B) = some r) (h1 : b = true → A = some r → AKev P n Φ (f t s)) (h2 : b = false → B = some r → AKev P n Φ (f t' s')) : AKev P n Φ (two f b t s t' s') := by
 cases b with
 | true => exact h1 rfl h
 | false => exact h2 rfl h
theorem DG_bif {f : List SOp → List (De × Rd) → St → EvD} {b : Bool} {os os' : List SOp} {acc acc' : List (De × Rd)} {st st' : St} {ρ : Type} {A B : Option ρ} {r : ρ} (h : (bif b then A else B) = some r) (h1 : b = true → A = some r → DG P T C (f os acc st)) (h2 : b = false → B = some r → DG P T C (f os' acc' st')) : DG P T C (twoD f b os acc st os' acc' st') := by
 cases b with
 | true => exact h1 rfl h
 | false => exact h2 rfl h
theorem AKev_loopS {S E R : Type} {body : S → Option (Stp S E R)} {k : Nat} {s0 : S} {r : Stp S E R} (hk : whl body k s0 = some r) (hd : S → St) (ex : E → St) {b : SC} {id : Nat} {todo : List It} {st : St} (hw : Weak n st (hd s0))
  (hb : ∀ s x (Bk Br : St → Prop), body s = some x → (∀ s' st', x = .next s' → Weak n st' (hd s') → Bk st') → (∀ s' st', x = .brk s' → Weak n st' (ex s') → Br st') → (∀ v, x = .ret v → r = .ret v) →
   AK P n Φ (.sc b :: .back Bk :: .blk id :: .back Br :: todo) (hd s))
  (hx : ∀ s', r = .brk s' → AK P n Φ todo (ex s')) : AKev P n Φ (.loop b (.blk id :: todo) st) := AK.loopS hk hd ex hw hb hx
theorem NL_self (x : AV) : NL x x = True := eq_true (.refl x)
theorem NLs_self (x : List AV) : NLs x x = True := eq_true (.refl x)
theorem AKev_call0 (hT : TysOK P T) {f : FuncId} {args fargs : List AV} {v : AV} {dst : Option Tmp} {drop : List Nat} {todo : List It} {st : St} (m : Nat) (hp : PCall P f fargs (fun y => y = v)) (hz : zOK (AV.frzL (Heap.get ([] :: st.fr :: st.low)) args) fargs)
  (hr : (AV.refsL args).isEmpty || v.scal = true) (h : AKev P n Φ (run T m todo (st.took dst drop v [] (st.fr :: st.low)))) : AKev P n Φ (.call f args dst drop todo st) := by
 unfold zOK at hz
 split at hz
 ·rename_i z hz'
  refine AKev_pcall hT m hp hz' hz ?_ h
  simpa using hr
 ·exact hz.elim
theorem DG_call0 {f : FuncId} {args fargs : List AV} {v : AV} {o : SOp} {os : List SOp} {acc : List (De × Rd)} {st : St} (m : Nat) (hp : PCall P f fargs (fun y => y = v)) (hz : zOK (AV.frzL st.get args) fargs)
  (hr : (AV.refsL args).isEmpty || v.scal = true) (h : DG P T C (runD T m os ((⟨v, []⟩, some (AV.refsL args)) :: acc) (st.by o.dst [] ⟨v, []⟩))) : DG P T C (.call f args o os acc st) := by
 unfold zOK at hz
 split at hz
 ·rename_i z hz'
  refine DG_call m hp hz' hz ?_ h
  simpa using hr
 ·exact hz.elim
def wOK (o : Option St) (tm : List (Nat × AV)) (fr : Fra) (low : Heap) (nx nt : Nat) : Prop := match o with
 | some s => NLT s.tm tm ∧ NLF s.fr fr ∧ s.low = low ∧ s.nx = nx ∧ s.nt = nt
 | none => False
theorem wOK_some (s : St) (tm : List (Nat × AV)) (fr : Fra) (low : Heap) (nx nt : Nat) : wOK (some s) tm fr low nx nt = (NLT s.tm tm ∧ NLF s.fr fr ∧ s.low = low ∧ s.nx = nx ∧ s.nt = nt) := rfl
theorem Weak.go {n : Nat} {st : St} {tm : List (Nat × AV)} {fr : Fra} {low : Heap} {nx nt : Nat} (keep ks : List Nat) (hnd : (decide ks.Nodup && decide (ks.length ≤ nx)) = true) (h : wOK (st.norm keep ks nx) tm fr low nx nt) : Weak n st ⟨tm, fr, low, nx, nt⟩ := by
 unfold wOK at h
 split at h
 ·rename_i s hs
  simp only [Bool.and_eq_true, decide_eq_true_eq] at hnd
  obtain ⟨h1, h2, h3, h4, h5⟩ := h
  refine (Weak.norm hs hnd.1 hnd.2).trans ?_
  obtain ⟨tm0, fr0, low0, nx0, nt0⟩ := s
  simp only at h3 h4 h5
  subst h3 h4 h5
  exact Weak.nl h1 h2
 ·exact h.elim
theorem NLT_self (x : List (Nat × AV)) : NLT x x = True := eq_true (.refl x)
theorem NLF_self (x : Fra) : NLF x x = True := eq_true (.refl x)
theorem bind_some {α β : Type} {o : Option α} {f : α → Option β} {r : β} (h : o.bind f = some r) : ∃ x, o = some x ∧ f x = some r := Option.bind_eq_some_iff.1 h
end
end Go.Abs
namespace Go.Abs
open Go Go.RowKit
set_option linter.unusedSectionVars false
mutual
def AV.fz (k : Nat) (b : Blk) : AV → Option AV
 | .ptr 0 k' o => if k' = k then (match b with | .box ys => some (.rptr ys.length [ys] 0 o) | _ => none) else some (.ptr 0 k' o)
 | .ptr (l + 1) k' o => some (.ptr (l + 1) k' o)
 | .loc 0 k' e i n g => if k' = k then (match b with | .arr _ esz es => if esz = e ∧ es.length = g ∧ i + n ≤ g then some (.sl e ((es.drop i).take n)) else none | _ => none) else some (.loc 0 k' e i n g)
 | .loc (l + 1) k' e i n g => some (.loc (l + 1) k' e i n g)
 | .eptr 0 k' e i o g => if k' = k then none else some (.eptr 0 k' e i o g)
 | .eptr (l + 1) k' e i o g => some (.eptr (l + 1) k' e i o g)
 | .inn 0 k' e o n => if k' = k then none else some (.inn 0 k' e o n)
 | .inn (l + 1) k' e o n => some (.inn (l + 1) k' e o n)
 | .fn f x y => match AV.fzL k b x, AV.fzL k b y with
  | some x, some y => some (.fn f x y)
  | _, _ => none
 | .ifc t v => (v.fz k b).map (.ifc t)
 | .agg cs => (AV.fzL k b cs).map .agg
 | .tup vs => (AV.fzL k b vs).map .tup
 | .bool b => some (.bool b)
 | .int k n => some (.int k n)
 | .str s => some (.str s)
 | .nil => some .nil
 | .sl e es => some (.sl e es)
 | .pnil => some .pnil
 | .rptr e es i o => some (.rptr e es i o)
 | .fnil => some .fnil
 | .inil => some .inil
 | .dead => some .dead
def AV.fzL (k : Nat) (b : Blk) : List AV → Option (List AV)
 | [] => some []
 | x :: l => match x.fz k b, AV.fzL k b l with
  | some x, some l => some (x :: l)
  | _, _ => none
end
theorem fzL_get (k : Nat) (b : Blk) : ∀ (cs ys : List AV), AV.fzL k b cs = some ys → ys.length = cs.length ∧ ∀ (i : Nat) (x : AV), cs[i]? = some x → ∃ y, ys[i]? = some y ∧ x.fz k b = some y
 | [], ys, h => by simp only [AV.fzL, Option.some.injEq] at h; subst h; simp
 | x :: l, ys, h => by
  simp only [AV.fzL] at h
  split at h
  ·rename_i a c ha hc
   obtain rfl := Option.some.inj h
   have ih := fzL_get k b l c hc
   refine ⟨by simp [ih.1], ?_⟩
   intro i z hz
   cases i with
   | zero => simp only [List.getElem?_cons_zero, Option.some.injEq] at hz; subst hz; exact ⟨a, by simp, ha⟩
   | succ i => simp only [List.getElem?_cons_succ] at hz ⊢; exact ih.2 i z hz
  ·cases h
theorem fz_flat {k : Nat} {b : Blk} {x y : AV} (h : x.fz k b = some y) : y.flat = x.flat := by
 cases x with
 | ptr l k' o =>
  cases l with
  | zero =>
   simp only [AV.fz] at h
   split at h
   ·split at h
    ·obtain rfl := Option.some.inj h; rfl
    ·cases h
   ·obtain rfl := Option.some.inj h; rfl
  | succ l => simp only [AV.fz, Option.some.injEq] at h; subst h; rfl
 | loc l k' e i n g =>
  cases l with
  | zero =>
   simp only [AV.fz] at h
   split at h
   ·split at h
    ·split at h
     ·obtain rfl := Option.some.inj h; rfl
     ·cases h
    ·cases h
   ·obtain rfl := Option.some.inj h; rfl
  | succ l => simp only [AV.fz, Option.some.injEq] at h; subst h; rfl
 | eptr l k' e i o g =>
  cases l with
  | zero =>
   simp only [AV.fz] at h
   split at h
   ·cases h
   ·obtain rfl := Option.some.inj h; rfl
  | succ l => simp only [AV.fz, Option.some.injEq] at h; subst h; rfl
 | inn l k' e o n =>
  cases l with
  | zero =>
   simp only [AV.fz] at h
   split at h
   ·cases h
   ·obtain rfl := Option.some.inj h; rfl
  | succ l => simp only [AV.fz, Option.some.injEq] at h; subst h; rfl
 | fn f a c =>
  simp only [AV.fz] at h
  split at h
  ·obtain rfl := Option.some.inj h; rfl
  ·cases h
 | _ =>
  first
  | (simp only [AV.fz, Option.some.injEq] at h; subst h; rfl)
  | (simp only [AV.fz, Option.map_eq_some_iff] at h; obtain ⟨a, _, rfl⟩ := h; rfl)
section
variable [Md] {P : Program} {T : Tys} {N0 : Nat} {W0 : World} {n : Nat} {fm : FM} {ts : List Tie} {H : Heap} {w : World}
noncomputable def fmWith (fm : FM) (w : World) (c : Option Nat) : FM := fun b o => if c = some b then w.cell? ⟨b, o, none⟩ else fm b o
theorem fmWith_le (h : HR N0 W0 fm ts H w) (c : Option Nat) : FmLe fm (fmWith fm w c) := by
 intro b o v hv
 unfold fmWith
 split
 ·exact h.fms b o v hv
 ·exact hv
theorem HR.fz (h : HR N0 W0 fm ts H w) {k : Nat} {b : Blk} (hk : H.get 0 k = some b) (hz : ∀ ys, b = .box ys → AV.frzL (fun _ _ => none) ys = some ys) {ts0 : List Tie} {x : AV} {v : Value} (hv : VR fm ts0 x v) :
  ts0 = ts → ∀ {y : AV}, x.fz k b = some y → VR (fmWith fm w (tbc (tb ts 0 k))) ts y v := by
 have hF := fmWith_le h (tbc (tb ts 0 k))
 have hcell : ∀ c o u, tbc (tb ts 0 k) = some c → w.cell? ⟨c, o, none⟩ = some u → fmWith fm w (tbc (tb ts 0 k)) c o = some u := by
  intro c o u hc hu
  unfold fmWith; rw [if_pos hc]; exact hu
 generalize fmWith fm w (tbc (tb ts 0 k)) = fm' at hF hcell
 induction hv with
 | bool b => intro e y hy; simp only [AV.fz, Option.some.injEq] at hy; subst hy; exact .bool _
 | int k n => intro e y hy; simp only [AV.fz, Option.some.injEq] at hy; subst hy; exact .int _ _
 | str s => intro e y hy; simp only [AV.fz, Option.some.injEq] at hy; subst hy; exact .str _
 | nil => intro e y hy; simp only [AV.fz, Option.some.injEq] at hy; subst hy; exact .nil
 | slNil e a cap => intro _ y hy; simp only [AV.fz, Option.some.injEq] at hy; subst hy; exact .slNil _ _ _
 | sl es cb off esz cap u hcap h1 h2 h3 h4 _ => intro _ y hy; simp only [AV.fz, Option.some.injEq] at hy; subst hy; exact (VR.sl es cb off esz cap u hcap h1 h2 h3 h4 (ts := ts)).mono hF (TsLe.refl _)
 | @locGone ts1 l k' esz i n g a cp ht hn ha =>
  rintro rfl y hy
  cases l with
  | zero =>
   simp only [AV.fz] at hy
   split at hy
   ·rename_i e; subst e
    have := h.blk 0 k' b hk
    rw [ht] at this
    cases this
   ·obtain rfl := Option.some.inj hy; exact .locGone _ _ _ _ _ _ _ _ ht hn ha
  | succ l => simp only [AV.fz, Option.some.injEq] at hy; subst hy; exact .locGone _ _ _ _ _ _ _ _ ht hn ha
 | @locOld ts1 l k' esz i n g a cp m' c ht hlt hn ha =>
  rintro rfl y hy
  cases l with
  | zero =>
   simp only [AV.fz] at hy
   split at hy
   ·rename_i e; subst e
    have hb := h.blk 0 k' b hk
    rw [ht] at hb
    split at hy
    ·split at hy
     ·rename_i hc
      cases hb with
      | nil et esz => have := hc.2.1; simp at this; omega
      | arr et esz es c cap hN h => have := hc.2.1; omega
     ·cases hy
    ·cases hy
   ·obtain rfl := Option.some.inj hy; exact .locOld _ _ _ _ _ _ _ _ _ _ ht hlt hn ha
  | succ l => simp only [AV.fz, Option.some.injEq] at hy; subst hy; exact .locOld _ _ _ _ _ _ _ _ _ _ ht hlt hn ha
 | @locNil ts1 l k' esz a ht =>
  rintro rfl y hy
  cases l with
  | zero =>
   simp only [AV.fz] at hy
   split at hy
   ·split at hy
    ·split at hy
     ·simp only [List.drop_zero, List.take_zero, Option.some.injEq] at hy; subst hy; exact .slNil _ _ _
     ·cases hy
    ·cases hy
   ·obtain rfl := Option.some.inj hy; exact .locNil _ _ _ _ ht
  | succ l => simp only [AV.fz, Option.some.injEq] at hy; subst hy; exact .locNil _ _ _ _ ht
 | @loc ts1 l k' esz i n g c cap cp a ht hn hnc hc ha =>
  rintro rfl y hy
  cases l with
  | succ l => simp only [AV.fz, Option.some.injEq] at hy; subst hy; exact .loc _ _ _ _ _ _ _ _ _ _ ht hn hnc hc ha
  | zero =>
   simp only [AV.fz] at hy
   split at hy
   ·rename_i e; subst e
    have hb := h.blk 0 k' b hk
    split at hy
    ·rename_i et esz' es
     split at hy
     ·rename_i hh
      obtain ⟨he, hlen, hin⟩ := hh
      subst he
      simp only [Option.some.injEq] at hy; subst hy
      rw [ht] at hb
      cases hb with
      | arr et _ es c cap hN hA =>
       obtain ⟨cells, c1, c2, c3, c4, c5, c6, c7⟩ := hA
       by_cases hn0 : n = 0
       ·subst hn0
        simp only [List.take_zero]
        exact .slNil _ _ _
       ·have ha' := ha (.inl (by omega))
        subst ha'
        have hl : ((es.drop i).take n).length = n := by simp; omega
        have key : ∀ (j : Nat) (cc : List AV) (o : Nat) (x : AV), ((es.drop i).take n)[j]? = some cc → cc[o]? = some x → ∃ u, cells[(i + j) * esz' + o]? = some u ∧ x.flat = true ∧ VR fm [] x u := by
         intro j cc o x hj ho
         have hj' : es[i + j]? = some cc := by
          rw [List.getElem?_take] at hj
          split at hj
          ·rw [List.getElem?_drop] at hj; exact hj
          ·cases hj
         have hlt : i + j < es.length := (List.getElem?_eq_some_iff.1 hj').1
         have hcc : cc.length = esz' := c5 cc (List.mem_of_getElem? hj')
         have hol : o < esz' := by rw [← hcc]; exact (List.getElem?_eq_some_iff.1 ho).1
         have hsz : (i + j) * esz' + o < cells.size := by
          rw [c2]
          have : (i + j + 1) * esz' ≤ cap * esz' := Nat.mul_le_mul_right _ (by omega)
          rw [Nat.add_mul] at this
          omega
         have hcell' := Array.getElem?_eq_getElem hsz
         have := c7 (i + j) cc o x _ hj' ho hcell'
         exact ⟨_, hcell', this.1, this.2⟩
        have hsl := VR.sl (fm := fm') (ts := ts1) ((es.drop i).take n) c (i * esz') esz' cp (fun j o => (cells[(i + j) * esz' + o]?).getD default) (by rw [hl]; exact ⟨hnc, by omega⟩)
         (fun cc hcc => c5 cc (List.mem_of_mem_drop (List.mem_of_mem_take hcc)))
         (by
          intro j cc o x hj ho
          obtain ⟨u, hu, _, _⟩ := key j cc o x hj ho
          refine hcell c _ _ (by rw [ht]; rfl) ?_
          simp only [World.cell?, c1]
          have : i * esz' + (j * esz' + o) = (i + j) * esz' + o := by rw [Nat.add_mul]; omega
          rw [this, hu]
          simp)
         (fun j cc o x hj ho => (key j cc o x hj ho).elim fun u hu => hu.2.1)
         (by
          intro j cc o x hj ho
          obtain ⟨u, hu, _, hv⟩ := key j cc o x hj ho
          rw [hu]
          exact hv.mono hF (TsLe.refl _))
        rw [hl] at hsl
        exact hsl
     ·cases hy
    ·cases hy
   ·obtain rfl := Option.some.inj hy; exact .loc _ _ _ _ _ _ _ _ _ _ ht hn hnc hc ha
 | @inn ts1 l k' esz o n c cp a ht hn ha =>
  rintro rfl y hy
  cases l with
  | zero =>
   simp only [AV.fz] at hy
   split at hy
   ·cases hy
   ·obtain rfl := Option.some.inj hy; exact .inn _ _ _ _ _ _ _ _ ht hn ha
  | succ l => simp only [AV.fz, Option.some.injEq] at hy; subst hy; exact .inn _ _ _ _ _ _ _ _ ht hn ha
 | pnil => intro e y hy; simp only [AV.fz, Option.some.injEq] at hy; subst hy; exact .pnil
 | @ptr ts1 l k' o c ht =>
  rintro rfl y hy
  cases l with
  | succ l => simp only [AV.fz, Option.some.injEq] at hy; subst hy; exact .ptr _ _ _ _ ht
  | zero =>
   simp only [AV.fz] at hy
   split at hy
   ·rename_i e; subst e
    have hb := h.blk 0 k' b hk
    split at hy
    ·rename_i ys
     obtain rfl := Option.some.inj hy
     rw [ht] at hb
     cases hb with
     | box c _ hN hB =>
      obtain ⟨cells, et, c1, c2, c3⟩ := hB
      have hzz := hz ys rfl
      have g := Go.Abs.frzL_get _ _ _ hzz
      have one : ∀ (i : Nat) (cc : List AV) (o : Nat) (x : AV), [ys][i]? = some cc → cc[o]? = some x → i = 0 ∧ cc = ys ∧ ∃ u, cells[o]? = some u ∧ x.flat = true ∧ VR fm [] x u := by
       intro i cc o x hi ho
       cases i with
       | succ i => simp at hi
       | zero =>
        simp only [List.getElem?_cons_zero, Option.some.injEq] at hi
        subst hi
        have hlt : o < cells.size := by rw [c2]; exact (List.getElem?_eq_some_iff.1 ho).1
        have hcu := Array.getElem?_eq_getElem hlt
        have h3 := c3 o x _ ho hcu
        obtain ⟨y, hy1, hy2⟩ := g.2 o x ho
        rw [ho] at hy1
        obtain rfl := Option.some.inj hy1
        have h4 := h.frz (N0 := N0) [] (by simpa using h3.2) (frz_none H.get _ _ hy2) (by rw [frz_refs _ _ hy2]; simp)
        rw [fmPlus_nil] at h4
        exact ⟨rfl, rfl, _, hcu, h3.1, h4⟩
      have := VR.rptr (fm := fm') (ts := ts1) [ys] 0 o c 0 ys.length (fun _ o => (cells[o]?).getD default) (by intro cc hcc; simp at hcc; rw [hcc])
       (by
        intro i cc o x hi ho
        obtain ⟨rfl, rfl, u, hu, _, _⟩ := one i cc o x hi ho
        refine hcell c _ _ (by rw [ht]; rfl) ?_
        simp only [World.cell?, c1, Nat.zero_mul, Nat.zero_add, hu]
        simp)
       (fun i cc o x hi ho => (one i cc o x hi ho).2.2.elim fun u hu => hu.2.1)
       (by
        intro i cc o x hi ho
        obtain ⟨rfl, rfl, u, hu, _, hv⟩ := one i cc o x hi ho
        rw [hu]
        exact hv.mono hF (TsLe.refl _))
      simpa using this
    ·cases hy
   ·obtain rfl := Option.some.inj hy; exact .ptr _ _ _ _ ht
 | @eptrGone ts1 l k' esz i o g a ht =>
  rintro rfl y hy
  cases l with
  | zero =>
   simp only [AV.fz] at hy
   split at hy
   ·cases hy
   ·obtain rfl := Option.some.inj hy; exact .eptrGone _ _ _ _ _ _ _ ht
  | succ l => simp only [AV.fz, Option.some.injEq] at hy; subst hy; exact .eptrGone _ _ _ _ _ _ _ ht
 | @eptrOld ts1 l k' esz i o g a m' c ht hlt =>
  rintro rfl y hy
  cases l with
  | zero =>
   simp only [AV.fz] at hy
   split at hy
   ·cases hy
   ·obtain rfl := Option.some.inj hy; exact .eptrOld _ _ _ _ _ _ _ _ _ ht hlt
  | succ l => simp only [AV.fz, Option.some.injEq] at hy; subst hy; exact .eptrOld _ _ _ _ _ _ _ _ _ ht hlt
 | @eptr ts1 l k' esz i o g c cap ht =>
  rintro rfl y hy
  cases l with
  | zero =>
   simp only [AV.fz] at hy
   split at hy
   ·cases hy
   ·obtain rfl := Option.some.inj hy; exact .eptr _ _ _ _ _ _ _ _ ht
  | succ l => simp only [AV.fz, Option.some.injEq] at hy; subst hy; exact .eptr _ _ _ _ _ _ _ _ ht
 | rptr es i o cb off esz u h1 h2 h3 h4 _ => intro _ y hy; simp only [AV.fz, Option.some.injEq] at hy; subst hy; exact (VR.rptr es i o cb off esz u h1 h2 h3 h4 (ts := ts)).mono hF (TsLe.refl _)
 | fnil => intro e y hy; simp only [AV.fz, Option.some.injEq] at hy; subst hy; exact .fnil
 | fn f first cap vf vc h1 h2 _ _ ih1 ih2 =>
  rintro rfl y hy
  simp only [AV.fz] at hy
  split at hy
  ·rename_i a c ha hc
   obtain rfl := Option.some.inj hy
   have g1 := fzL_get k b _ _ ha
   have g2 := fzL_get k b _ _ hc
   refine .fn f a c vf vc (by rw [g1.1]; exact h1) (by rw [g2.1]; exact h2) ?_ ?_
   ·intro i x v hx hv
    have hi : i < first.length := by rw [← g1.1]; exact (List.getElem?_eq_some_iff.1 hx).1
    obtain ⟨y, hy, hu⟩ := g1.2 i _ (List.getElem?_eq_getElem hi)
    rw [hx] at hy; obtain rfl := Option.some.inj hy
    exact ih1 i _ v (List.getElem?_eq_getElem hi) hv rfl hu
   ·intro i x v hx hv
    have hi : i < cap.length := by rw [← g2.1]; exact (List.getElem?_eq_some_iff.1 hx).1
    obtain ⟨y, hy, hu⟩ := g2.2 i _ (List.getElem?_eq_getElem hi)
    rw [hx] at hy; obtain rfl := Option.some.inj hy
    exact ih2 i _ v (List.getElem?_eq_getElem hi) hv rfl hu
  ·cases hy
 | inil => intro e y hy; simp only [AV.fz, Option.some.injEq] at hy; subst hy; exact .inil
 | ifc t x v _ ih =>
  rintro rfl y hy
  simp only [AV.fz, Option.map_eq_some_iff] at hy; obtain ⟨z, hz', rfl⟩ := hy
  exact .ifc t z v (ih rfl hz')
 | agg cs vs h1 h2 _ ih =>
  rintro rfl y hy
  simp only [AV.fz, Option.map_eq_some_iff] at hy; obtain ⟨z, hz', rfl⟩ := hy
  have g := fzL_get k b _ _ hz'
  refine .agg z vs (by rw [g.1]; exact h1) ?_ ?_
  ·intro x hx
   obtain ⟨i, hi⟩ := List.mem_iff_getElem?.1 hx
   have hlt : i < cs.length := by rw [← g.1]; exact (List.getElem?_eq_some_iff.1 hi).1
   obtain ⟨y, hy, hu⟩ := g.2 i _ (List.getElem?_eq_getElem hlt)
   rw [hi] at hy; obtain rfl := Option.some.inj hy
   rw [fz_flat hu]
   exact h2 _ (List.getElem_mem hlt)
  ·intro i x v hx hv
   have hlt : i < cs.length := by rw [← g.1]; exact (List.getElem?_eq_some_iff.1 hx).1
   obtain ⟨y, hy, hu⟩ := g.2 i _ (List.getElem?_eq_getElem hlt)
   rw [hx] at hy; obtain rfl := Option.some.inj hy
   exact ih i _ v (List.getElem?_eq_getElem hlt) hv rfl hu
 | tup xs vs h1 _ ih =>
  rintro rfl y hy
  simp only [AV.fz, Option.map_eq_some_iff] at hy; obtain ⟨z, hz', rfl⟩ := hy
  have g := fzL_get k b _ _ hz'
  refine .tup z vs (by rw [g.1]; exact h1) ?_
  intro i x v hx hv
  have hlt : i < xs.length := by rw [← g.1]; exact (List.getElem?_eq_some_iff.1 hx).1
  obtain ⟨y, hy, hu⟩ := g.2 i _ (List.getElem?_eq_getElem hlt)
  rw [hx] at hy; obtain rfl := Option.some.inj hy
  exact ih i _ v (List.getElem?_eq_getElem hlt) hv rfl hu
 | dead v => intro e y hy; simp only [AV.fz, Option.some.injEq] at hy; subst hy; exact .dead v
def fzTm (k : Nat) (b : Blk) : List (Nat × AV) → List (Nat × AV)
 | [] => []
 | (t, x) :: l => (t, (x.fz k b).getD x) :: fzTm k b l
def Blk.fz (k : Nat) (b : Blk) : Blk → Blk
 | .arr et e es => .arr et e es
 | .box cs => .box ((AV.fzL k b cs).getD cs)
def fzFr (k : Nat) (b : Blk) : Fra → Fra
 | [] => []
 | (j, x) :: l => if j = k then fzFr k b l else (j, Blk.fz k b x) :: fzFr k b l
theorem look_fzTm (k : Nat) (b : Blk) : ∀ (l : List (Nat × AV)) (t : Nat), look (fzTm k b l) t = (look l t).map fun x => (x.fz k b).getD x
 | [], t => rfl
 | (t0, x) :: l, t => by
  simp only [fzTm, look]
  split
  ·rfl
  ·exact look_fzTm k b l t
theorem look_fzFr (k : Nat) (b : Blk) : ∀ (l : Fra) (j : Nat), look (fzFr k b l) j = if j = k then none else (look l j).map (Blk.fz k b)
 | [], j => by simp [fzFr, look]
 | (j0, x) :: l, j => by
  simp only [fzFr]
  by_cases h : j0 = k
  ·rw [if_pos h, look_fzFr k b l j]
   by_cases hj : j = k
   ·simp [hj]
   ·have : ¬ j0 = j := fun e => hj (by rw [← e, h])
    simp [hj, look, this]
  ·rw [if_neg h]
   simp only [look]
   by_cases hj : j0 = j
   ·subst hj; simp [h]
   ·simp only [hj, if_false]; exact look_fzFr k b l j
theorem HR.fz_blk (h : HR N0 W0 fm ts H w) {k : Nat} {b : Blk} (hk : H.get 0 k = some b) (hz : ∀ ys, b = .box ys → AV.frzL (fun _ _ => none) ys = some ys) {t : Option TB} {x : Blk} (hx : BR fm ts w N0 t x) : BR (fmWith fm w (tbc (tb ts 0 k))) ts w N0 t (Blk.fz k b x) := by
 have hF := fmWith_le h (tbc (tb ts 0 k))
 cases hx with
 | nil et esz => exact .nil et esz
 | arr et esz es c cap hN hA => exact .arr et esz es c cap hN (hA.mono hF rfl)
 | box c cs hN hB =>
  obtain ⟨cells, et, c1, c2, c3⟩ := hB
  simp only [Blk.fz]
  cases hf : AV.fzL k b cs with
  | none => exact .box c _ hN ⟨cells, et, c1, c2, fun o x v a b => ⟨(c3 o x v a b).1, (c3 o x v a b).2.mono hF (TsLe.refl _)⟩⟩
  | some ys =>
   have g := fzL_get k b _ _ hf
   refine .box c _ hN ⟨cells, et, c1, by rw [c2]; exact g.1.symm, ?_⟩
   intro o y v hy hv
   have hlt : o < cs.length := by rw [← g.1]; exact (List.getElem?_eq_some_iff.1 hy).1
   obtain ⟨y', hy', hu⟩ := g.2 o _ (List.getElem?_eq_getElem hlt)
   simp only [Option.getD_some] at hy
   rw [hy] at hy'; obtain rfl := Option.some.inj hy'
   have h3 := c3 o _ v (List.getElem?_eq_getElem hlt) hv
   exact ⟨by rw [fz_flat hu]; exact h3.1, h.fz hk hz h3.2 rfl hu⟩
theorem Weak.fz {n : Nat} {tm : List (Nat × AV)} {fr : Fra} {low : Heap} {nx nt : Nat} (k : Nat) {b : Blk} (hk : look fr k = some b) (hz : ∀ ys, b = .box ys → AV.frzL (fun _ _ => none) ys = some ys) :
  Weak n ⟨tm, fr, low, nx, nt⟩ ⟨fzTm k b tm, fzFr k b fr, low, nx, nt⟩ := by
 intro N0 W0 a w fm ts h
 have hg0 : Heap.get (fr :: low) 0 k = some b := by simpa [Heap.get] using hk
 have hF := fmWith_le h.hr (tbc (tb ts 0 k))
 have hbr := h.hr.blk 0 k b hg0
 have src : ∀ l j x, Heap.get (fzFr k b fr :: low) l j = some x → ∃ x0, Heap.get (fr :: low) l j = some x0 ∧ ¬ (l = 0 ∧ j = k) ∧ (l = 0 → x = Blk.fz k b x0) ∧ (l ≠ 0 → x = x0) := by
  intro l j x hx
  cases l with
  | zero =>
   simp only [Heap.get, look_fzFr] at hx
   split at hx
   ·cases hx
   ·rename_i hj
    simp only [Option.map_eq_some_iff] at hx
    obtain ⟨x0, hx0, rfl⟩ := hx
    exact ⟨x0, hx0, fun hh => hj hh.2, fun _ => rfl, fun hh => absurd rfl hh⟩
  | succ l => exact ⟨x, hx, fun hh => absurd hh.1 (by omega), fun hh => absurd hh (by omega), fun _ => rfl⟩
 refine ⟨fmWith fm w (tbc (tb ts 0 k)), ts, ⟨⟨by simpa using h.hr.len, ?_, ?_, ?_, ?_, h.hr.bel, h.hr.size, h.hr.oth⟩, ?_, h.nx, h.size, h.dfr⟩, ⟨⟨hF, ?_⟩, TsLe.refl _, fun _ _ h => h⟩⟩
 ·intro l j x hx
  obtain ⟨x0, hx0, hne, h1, h2⟩ := src l j x hx
  have hb := h.hr.blk l j x0 hx0
  cases l with
  | zero =>
   rw [h1 rfl]
   exact h.hr.fz_blk hg0 hz hb
  | succ l =>
   rw [h2 (by omega)]
   exact hb.mono hF (TsLe.refl _) (fun _ _ => rfl)
 ·intro l j l' j' x x' c hx hx'
  obtain ⟨x0, hx0, _⟩ := src l j x hx
  obtain ⟨x1, hx1, _⟩ := src l' j' x' hx'
  exact h.hr.inj l j l' j' x0 x1 c hx0 hx1
 ·intro c o v hv
  unfold fmWith at hv
  split at hv
  ·exact hv
  ·exact h.hr.fms c o v hv
 ·intro l j x c o hx hc
  obtain ⟨x0, hx0, hne, _⟩ := src l j x hx
  unfold fmWith
  rw [if_neg]
  ·exact h.hr.fmd l j x0 c o hx0 hc
  ·intro e
   exact hne (h.hr.inj l j 0 k x0 b c hx0 hg0 hc e)
 ·intro t x hx
  simp only [look_fzTm, Option.map_eq_some_iff] at hx
  obtain ⟨x0, hx0, rfl⟩ := hx
  obtain ⟨v, hv, hvr⟩ := h.tm t x0 hx0
  refine ⟨v, hv, ?_⟩
  cases hf : x0.fz k b with
  | none => exact hvr.mono hF (TsLe.refl _)
  | some y => exact h.hr.fz hg0 hz hvr rfl hf
 ·intro c o hc
  unfold fmWith
  rw [if_neg]
  intro e
  have := (hbr.lt e).2
  omega
theorem AK.fz {tm : List (Nat × AV)} {fr : Fra} {low : Heap} {nx nt : Nat} {Φ : Exit → St → Prop} (m : Nat) (hT : TysOK P T) {pre : List It} (k : Nat) {b : Blk} (hk : look fr k = some b) (hz : ∀ ys, b = .box ys → AV.frzL (fun _ _ => none) ys = some ys)
  (h : AKev P n Φ (run T m pre ⟨fzTm k b tm, fzFr k b fr, low, nx, nt⟩)) : AK P n Φ pre ⟨tm, fr, low, nx, nt⟩ := AK.weak (Weak.fz k hk hz) (run_sound hT m _ _ h)
end
end Go.Abs
namespace Go.Abs
open Go Go.RowKit
abbrev w64 (x : Int) : Int := IntKind.i64.wrap x
def eI (x : Int) : List AV := [.int .i64 x]
def eB (x : Bool) : List AV := [.bool x]
def eU8 (x : Int) : List AV := [.int .u8 x]
def eS (x : ByteArray) : List AV := [.str x]
def eL {α : Type} (sz : Nat) (E : α → List AV) (l : List α) : List AV := [.sl sz (l.map E)]
structure A2 (α : Type) where
 x0 : α
 x1 : α
structure A3 (α : Type) where
 x0 : α
 x1 : α
 x2 : α
structure A4 (α : Type) where
 x0 : α
 x1 : α
 x2 : α
 x3 : α
def A2.c {α : Type} (E : α → List AV) (a : A2 α) : List AV := E a.x0 ++ E a.x1
def A3.c {α : Type} (E : α → List AV) (a : A3 α) : List AV := E a.x0 ++ (E a.x1 ++ E a.x2)
def A4.c {α : Type} (E : α → List AV) (a : A4 α) : List AV := E a.x0 ++ (E a.x1 ++ (E a.x2 ++ E a.x3))
def at? {α : Type} (l : List α) (i : Int) : Option α := if 0 ≤ i ∧ i < l.length then l[i.toNat]? else none
def app? {α : Type} (b : Nat) (l x : List α) : Option (List α) := if room (l.length + x.length) b then some (l ++ x) else none
def sub? {α : Type} (l : List α) (lo hi : Int) : Option (List α) := if (0 ≤ lo ∧ lo ≤ hi) ∧ hi ≤ l.length then some ((l.drop lo.toNat).take (hi.toNat - lo.toNat)) else none
def nz? (y : Int) : Option Unit := if y = 0 then none else some ()
def mk? (n : Int) (b : Nat) : Option Unit := if (0 ≤ n ∧ n ≤ n) ∧ n * b ≤ 140737488355328 ∧ n < 4611686018427387904 then some () else none
section
variable {α : Type}
theorem at_lt {l : List α} {i : Int} {x : α} (h : at? l i = some x) : 0 ≤ i ∧ i < l.length ∧ l[i.toNat]? = some x := by
 unfold at? at h
 split at h
 ·rename_i hh; exact ⟨hh.1, hh.2, h⟩
 ·cases h
theorem at_in {l : List α} {i : Int} {x : α} (h : at? l i = some x) : inRange i l.length = some i.toNat := by
 obtain ⟨h1, h2, _⟩ := at_lt h
 simp [inRange, h1, h2]
theorem at_get {β : Type} (E : α → β) {l : List α} {i : Int} {x : α} (h : at? l i = some x) : (l.map E)[i.toNat]? = some (E x) := by
 obtain ⟨_, _, h3⟩ := at_lt h
 simp [h3]
theorem app_some {b : Nat} {l x y : List α} (h : app? b l x = some y) : room (l.length + x.length) b ∧ y = l ++ x := by
 unfold app? at h
 split at h
 ·rename_i hh; exact ⟨hh, (Option.some.inj h).symm⟩
 ·cases h
theorem nz_some {y : Int} {u : Unit} (h : nz? y = some u) : ¬ y = 0 := by
 unfold nz? at h
 split at h
 ·cases h
 ·assumption
theorem sub_some {l : List α} {lo hi : Int} {y : List α} (h : sub? l lo hi = some y) : (0 ≤ lo ∧ lo ≤ hi ∧ hi ≤ l.length) ∧ y = (l.drop lo.toNat).take (hi.toNat - lo.toNat) := by
 unfold sub? at h
 split at h
 ·rename_i hh; exact ⟨⟨hh.1.1, hh.1.2, hh.2⟩, (Option.some.inj h).symm⟩
 ·cases h
theorem bounds_of {n : Nat} {lo hi : Int} {k k' : IntKind} (h : 0 ≤ lo ∧ lo ≤ hi ∧ hi ≤ n) : bounds n (some (.int k lo)) (some (.int k' hi)) = some (lo.toNat, hi.toNat) := by
 have h1 : 0 ≤ hi := by omega
 have h2 : lo ≤ max hi 0 := by omega
 simp [bounds, boundHi, boundLo, h1, h2, h.1, h.2.2]
theorem bounds_lo {n : Nat} {lo : Int} {k : IntKind} (h : 0 ≤ lo ∧ lo ≤ n ∧ (n : Int) ≤ n) : bounds n (some (.int k lo)) none = some (lo.toNat, n) := by
 simp [bounds, boundHi, boundLo, h.1, h.2.1]
theorem bounds_hi {n : Nat} {hi : Int} {k' : IntKind} (h : (0 : Int) ≤ 0 ∧ 0 ≤ hi ∧ hi ≤ n) : bounds n none (some (.int k' hi)) = some (0, hi.toNat) := by
 simp [bounds, boundHi, boundLo, h.2.1, h.2.2]
theorem bounds_all {n : Nat} : bounds n none none = some (0, n) := by simp [bounds, boundHi, boundLo]
def push? {α : Type} (b : Nat) (l : List α) (x : α) : Option (List α) := app? b l [x]
theorem push_room {b : Nat} {l y : List α} {x : α} (h : push? b l x = some y) : room (l.length + 1) b := by
 have := (app_some h).1; simpa using this
theorem push_map {β : Type} (E : α → β) {b : Nat} {l y : List α} {x : α} (h : push? b l x = some y) : l.map E ++ [E x] = y.map E := by
 rw [(app_some h).2]; simp
theorem push_len {b : Nat} {l y : List α} {x : α} (h : push? b l x = some y) : y.length = l.length + 1 := by
 rw [(app_some h).2]; simp
theorem push_take {β : Type} (E : α → β) {b : Nat} {l y : List α} {x : α} (h : push? b l x = some y) : (y.map E).take (l.length + 1) = y.map E := by
 rw [List.take_of_length_le]; simp [push_len h]
theorem app_room {b : Nat} {l y x : List α} (h : app? b l x = some y) : room (l.length + x.length) b := (app_some h).1
theorem app_map {β : Type} (E : α → β) {b : Nat} {l y x : List α} (h : app? b l x = some y) : l.map E ++ x.map E = y.map E := by
 rw [(app_some h).2]; simp
theorem app_len {b : Nat} {l y x : List α} (h : app? b l x = some y) : y.length = l.length + x.length := by
 rw [(app_some h).2]; simp
theorem app_take {β : Type} (E : α → β) {b : Nat} {l y x : List α} (h : app? b l x = some y) : (y.map E).take (l.length + x.length) = y.map E := by
 rw [List.take_of_length_le]; simp [app_len h]
def room? (n b : Nat) : Option Unit := if room n b then some () else none
theorem room_some {n b : Nat} {u : Unit} (h : room? n b = some u) : room n b := by
 unfold room? at h
 split at h
 ·assumption
 ·cases h
def set? {α : Type} (l : List α) (i : Int) (x : α) : Option (List α) := if 0 ≤ i ∧ i < l.length then some (l.set i.toNat x) else none
theorem set_map {β : Type} (E : α → β) {l y : List α} {i : Int} {x : α} (h : set? l i x = some y) : (l.map E).set i.toNat (E x) = y.map E := by
 unfold set? at h
 split at h
 ·rw [← Option.some.inj h, List.map_set]
 ·cases h
theorem set_len {l y : List α} {i : Int} {x : α} (h : set? l i x = some y) : y.length = l.length := by
 unfold set? at h
 split at h
 ·rw [← Option.some.inj h, List.length_set]
 ·cases h
theorem set_take {β : Type} (E : α → β) {l y : List α} {i : Int} {x : α} (h : set? l i x = some y) : (y.map E).take l.length = y.map E := by
 rw [List.take_of_length_le]; simp [set_len h]
theorem sub_bounds {l : List α} {lo hi : Int} {y : List α} {k k' : IntKind} (h : sub? l lo hi = some y) : bounds l.length (some (.int k lo)) (some (.int k' hi)) = some (lo.toNat, hi.toNat) := bounds_of (sub_some h).1
theorem sub_bounds_lo {l : List α} {lo : Int} {y : List α} {k : IntKind} (h : sub? l lo l.length = some y) : bounds l.length (some (.int k lo)) none = some (lo.toNat, l.length) := bounds_lo (sub_some h).1
theorem sub_bounds_hi {l : List α} {hi : Int} {y : List α} {k : IntKind} (h : sub? l 0 hi = some y) : bounds l.length none (some (.int k hi)) = some (0, hi.toNat) := bounds_hi (sub_some h).1
theorem sub_map {β : Type} (E : α → β) {l : List α} {lo hi : Int} {y : List α} (h : sub? l lo hi = some y) : ((l.map E).drop lo.toNat).take (hi.toNat - lo.toNat) = y.map E := by
 rw [(sub_some h).2, List.map_take, List.map_drop]
theorem sub_map_lo {β : Type} (E : α → β) {l : List α} {lo : Int} {y : List α} (h : sub? l lo l.length = some y) : ((l.map E).drop lo.toNat).take (l.length - lo.toNat) = y.map E := by
 have := sub_map E h; simpa using this
theorem sub_map_hi {β : Type} (E : α → β) {l : List α} {hi : Int} {y : List α} (h : sub? l 0 hi = some y) : ((l.map E).drop 0).take (hi.toNat - 0) = y.map E := by
 have := sub_map E h; simpa using this
def ls? (n : Nat) (lo : Int) : Option Unit := if 0 ≤ lo ∧ lo ≤ n then some () else none
theorem ls_bounds {n : Nat} {lo : Int} {k : IntKind} {u : Unit} (e : ls? n lo = some u) : bounds n (some (.int k lo)) none = some (lo.toNat, n) := by
 unfold ls? at e
 split at e
 ·rename_i h; exact bounds_lo ⟨h.1, h.2, Int.le_refl _⟩
 ·cases e
theorem ls_le {n : Nat} {lo : Int} {u : Unit} (e : ls? n lo = some u) : lo.toNat + (n - lo.toNat) ≤ n := by
 unfold ls? at e
 split at e
 ·omega
 ·cases e
theorem cut_map {β : Type} (E : α → β) (l : List α) (a m : Nat) : ((l.map E).drop a).take m = ((l.drop a).take m).map E := by
 rw [List.map_take, List.map_drop]
theorem cut0_map {β : Type} (E : α → β) (l : List α) (m : Nat) : (l.map E).take m = (l.take m).map E := by
 rw [List.map_take]
theorem mk_some {n : Int} {b : Nat} {u : Unit} (h : mk? n b = some u) : (0 ≤ n ∧ n ≤ n) ∧ n * b ≤ 140737488355328 ∧ n < 4611686018427387904 := by
 unfold mk? at h
 split at h
 ·assumption
 ·cases h
theorem take_map_all {β : Type} (E : α → β) (l : List α) : (l.map E).take l.length = l.map E := by
 rw [List.take_of_length_le (by simp)]
end
structure Ice (cap : List AV) : Prop where
 sh : ∀ d, AV.shL d cap = cap
 frz : ∀ G, AV.frzL G cap = some cap
 br : ∀ G F, AV.brL G F cap = some cap
 refs : AV.refsL cap = []
 imp : ∀ k, AV.impL k cap = cap
 ren : ∀ ks, AV.renL ks cap = some cap
 un : ∀ d, AV.unL d cap = some cap
theorem shL_append (d : Nat) : ∀ a b : List AV, AV.shL d (a ++ b) = AV.shL d a ++ AV.shL d b
 | [], b => rfl
 | x :: a, b => by simp only [List.cons_append, AV.shL, shL_append d a b]
section
variable {P : Program} {T : Tys} {n : Nat} {Φ : Exit → St → Prop}
theorem AKev_ret {rs : List ResultVar} {st : St} {v : AV} (h0 : st.low = []) (h1 : yOK ((resAll T st rs).bind (fun xs => (tupOf xs).frz st.get)) v) : AKev P n (PEnds T rs fun y => NL y v) (.fin .ret st) := by
 unfold yOK at h1
 split at h1
 ·rename_i y hy
  obtain ⟨xs, h3, h4⟩ := Option.bind_eq_some_iff.1 hy
  exact ⟨h0, xs, y, h3, h4, h1⟩
 ·exact h1.elim
theorem AKev_backB {B : St → Prop} {st : St} (h : B st) : AKev P n Φ (.back B st) := h
end
attribute [go_sem] runD doD nextD_some callD_some twoD_true twoD_false heapy rdOf keysA keysL
 Int.reduceEq Int.reduceLT Int.reduceLE List.set_cons_zero List.set_cons_succ List.replicate_succ List.replicate_zero List.length_replicate Nat.zero_lt_succ Bool.not_not fzTm fzFr AV.fz AV.fzL Blk.fz Option.getD_some Option.getD_none
 Nat.sub_zero orO_some orO_none aBeyond doSlice3 gvL gv1 giveFr giveG pushG kill0 impS
 AV.br AV.brL boxF only List.contains_cons List.contains_nil decide_true decide_false Bool.or_true Bool.or_false Bool.and_true Bool.true_and Bool.and_false Bool.false_and Prod.mk.injEq bounds_all take_map_all shL_append
 wOK_some zOK_some yOK_some NL_self NLs_self NLT_self NLF_self List.isEmpty_nil List.isEmpty_cons Bool.true_or Bool.false_or
 eI eB eU8 eS eL A2.c A3.c A4.c
 St.norm renTm renFr AV.ren AV.renL renK idx Blk.ren
 Nat.zero_add Nat.add_zero doSliceZero
 List.reverse_cons List.reverse_nil List.map_append
end Go.Abs
namespace Go.Abs
open Go Go.RowKit
set_option linter.unusedSectionVars false
section
variable [Md] {P : Program} {T : Tys} {n : Nat} {Φ : Exit → St → Prop}
def gOK (o : Option (List AV)) (f : Option Fra) (args0 : List AV) (fr0 : Fra) : Prop := o = some args0 ∧ f = some fr0
theorem AKev_give (hT : TysOK P T) {f : FuncId} {args args0 : List AV} {fr0 : Fra} {y : AV} {fr : Fra} {dst : Option Tmp} {drop : List Nat} {todo : List It} {st : St} (m : Nat) (rs gs : List Nat) (hp : GCall P f args0 fr0 (fun y' fr' => y' = y ∧ fr' = fr))
  (hz : gOK (gvL gs (only (Heap.get ([] :: st.fr :: st.low)) (rs.map fun k => (1, k))) (boxF (only (Heap.get ([] :: st.fr :: st.low)) (rs.map fun k => (1, k))) 5) args) (giveFr (dels st.fr rs) 0 gs) args0 fr0) (hnd : (decide gs.Nodup && decide (gs.length ≤ 16)) = true)
  (h : AKev P n Φ (run T m todo (st.took dst drop y fr (dels (dels st.fr rs) gs :: st.low)))) : AKev P n Φ (.call f args dst drop todo st) := by
 have hk := run_sound hT m todo _ h
 refine AKev_call (GCall.used 5 rs gs hp hz.1 hz.2 hnd) ?_
 rintro y' fr' H' ⟨⟨rfl, rfl⟩, rfl⟩
 exact hk
theorem GCall.own {f : FuncId} {args : List AV} {fr0 : Fra} {sz et : Nat} {ls : List (List AV)}
  (hp : GCall P f args fr0 (fun y fr => ∃ m g es, y = .loc 0 0 sz 0 m g ∧ fr = [(0, .arr et sz es)] ∧ es.length = g ∧ m ≤ g ∧ es.take m = ls)) :
  GCall P f args fr0 (fun y fr => y = .loc 0 0 sz 0 ls.length ls.length ∧ fr = [(0, .arr et sz ls)]) := by
 refine ⟨hp.1, fun H N0 W0 fm t ts w vs hH ht hv => Calls.mono (hp.2 H N0 W0 fm t ts w vs hH ht hv) ?_⟩
 rintro e w' ⟨v, y, fr', fm', t', ts', rfl, ⟨m, g, es, rfl, rfl, hg, hm, hls⟩, hhr, hvr, hup, htl, hno, h16⟩
 have hlen : ls.length = m := by rw [← hls, List.length_take]; omega
 have hb := hhr.blk 0 0 _ (show Heap.get ([(0, Blk.arr et sz es)] :: H) 0 0 = some (.arr et sz es) by rfl)
 obtain ⟨x, hx1, hx2, hx3⟩ : ∃ x : TB, BR fm' [] w' N0 (some x) (.arr et sz ls) ∧ tbc (some x) = tbc (tb (t' :: ts') 0 0) ∧ ∀ ts1 : List Tie, tb ts1 0 0 = some x → VR fm' ts1 (.loc 0 0 sz 0 ls.length ls.length) v := by
  generalize htt : tb (t' :: ts') 0 0 = tt at hb
  cases hb with
  | nil =>
   simp at hls
   subst hls
   refine ⟨.arr 0 none, .nil _ _, rfl, ?_⟩
   intro ts1 h1
   cases hvr with
   | locGone _ _ _ _ _ _ a cp h hn ha => rw [htt] at h; cases h
   | locOld _ _ _ _ _ _ a cp m' c h hlt hn ha => rw [htt] at h; cases h; simp at hlt
   | locNil _ _ _ a h => exact .locNil _ _ _ _ h1
   | loc _ _ _ _ _ _ c cap cp a h hin hnc hcc ha => rw [htt] at h; cases h
  | arr _ _ _ c cap hN hA =>
   obtain ⟨cells, c1, c2, c3, c4, c5, c6, c7⟩ := hA
   refine ⟨.arr ls.length (some (c, cap)), .arr et sz ls c cap hN ⟨cells, c1, c2, by omega, c4, ?_, c6, ?_⟩, rfl, ?_⟩
   ·rw [← hls]; exact fun d hd => c5 d (List.mem_of_mem_take hd)
   ·intro i cc o x v hi ho hc
    rw [← hls, List.getElem?_take] at hi
    split at hi
    ·exact c7 i cc o x v hi ho hc
    ·cases hi
   ·intro ts1 h1
    cases hvr with
    | locGone _ _ _ _ _ _ a cp h hn ha => rw [htt] at h; cases h
    | locOld _ _ _ _ _ _ a cp m' c h hlt hn ha =>
     rw [htt] at h
     simp only [Option.some.injEq, TB.arr.injEq] at h
     omega
    | locNil _ _ _ a h => rw [htt] at h; simp at h
    | loc _ _ _ _ _ _ c' cap' cp a h hin hnc hcc ha =>
     rw [htt] at h
     simp only [Option.some.injEq, TB.arr.injEq, Prod.mk.injEq] at h
     obtain ⟨_, rfl, rfl⟩ := h
     rw [hlen] at h1 ⊢
     exact .loc _ _ _ _ _ _ c cap cp a h1 (by omega) hnc hcc ha
 have src : ∀ l k b, Heap.get ([(0, Blk.arr et sz ls)] :: H) l k = some b → (l = 0 ∧ k = 0 ∧ b = .arr et sz ls) ∨ (l ≠ 0 ∧ Heap.get ([(0, Blk.arr et sz es)] :: H) l k = some b) := by
  intro l k b hg
  cases l with
  | zero =>
   simp only [Heap.get, look] at hg
   split at hg
   ·rename_i e; exact .inl ⟨rfl, e.symm, (Option.some.inj hg).symm⟩
   ·cases hg
  | succ l => exact .inr ⟨by omega, by simpa [Heap.get] using hg⟩
 have old0 : Heap.get ([(0, Blk.arr et sz es)] :: H) 0 0 = some (.arr et sz es) := rfl
 have hT : tb ((fun k => if k = 0 then some x else none) :: ts') 0 0 = some x := rfl
 refine ⟨v, _, _, fm', fun k => if k = 0 then some x else none, ts', rfl, ⟨rfl, rfl⟩, ⟨by have := hhr.len; simpa using this, ?_, ?_, hhr.fms, ?_, hhr.bel, hhr.size, hhr.oth⟩, hx3 _ hT, hup, htl, hno, fun k hk => by show (if k = 0 then some x else none) = none; rw [if_neg (by omega)]⟩
 ·intro l k b hg
  rcases src l k b hg with ⟨rfl, rfl, rfl⟩ | ⟨hl, hg'⟩
  ·rw [hT]
   exact hx1.mono (FmLe.refl _) (TsLe.nil _) (fun _ _ => rfl)
  ·obtain ⟨l, rfl⟩ : ∃ q, l = q + 1 := ⟨l - 1, by omega⟩
   have := hhr.blk (l + 1) k b hg'
   simpa [tb] using this
 ·intro l1 k1 l2 k2 b1 b2 c g1 g2 t1 t2
  have conv : ∀ l k b c, Heap.get ([(0, Blk.arr et sz ls)] :: H) l k = some b → tbc (tb ((fun k => if k = 0 then some x else none) :: ts') l k) = some c → ∃ b', Heap.get ([(0, Blk.arr et sz es)] :: H) l k = some b' ∧ tbc (tb (t' :: ts') l k) = some c := by
   intro l k b c g t
   rcases src l k b g with ⟨rfl, rfl, rfl⟩ | ⟨hl, hg'⟩
   ·rw [hT, hx2] at t; exact ⟨_, old0, t⟩
   ·obtain ⟨l, rfl⟩ : ∃ q, l = q + 1 := ⟨l - 1, by omega⟩
    exact ⟨b, hg', by simpa [tb] using t⟩
  obtain ⟨b1', g1', t1'⟩ := conv l1 k1 b1 c g1 t1
  obtain ⟨b2', g2', t2'⟩ := conv l2 k2 b2 c g2 t2
  exact hhr.inj l1 k1 l2 k2 b1' b2' c g1' g2' t1' t2'
 ·intro l k b c o g t
  rcases src l k b g with ⟨rfl, rfl, rfl⟩ | ⟨hl, hg'⟩
  ·rw [hT, hx2] at t; exact hhr.fmd 0 0 _ c o old0 t
  ·obtain ⟨l, rfl⟩ : ∃ q, l = q + 1 := ⟨l - 1, by omega⟩
   exact hhr.fmd (l + 1) k b c o hg' (by simpa [tb] using t)
def oOK (fr : Fra) (sz et : Nat) (ls : List (List AV)) : Option AV → Prop
 | some (.loc 0 k sz' 0 m g) => sz' = sz ∧ (match look fr k with
  | some (.arr et' sz'' es) => et' = et ∧ sz'' = sz ∧ es.length = g ∧ m ≤ g ∧ es.take m = ls
  | _ => False)
 | _ => False
theorem AKev_gret {rs : List ResultVar} {H : Heap} {st : St} {sz et : Nat} {ls : List (List AV)} (h0 : st.low = H) (h1 : oOK st.fr sz et ls ((resAll T st rs).map tupOf)) :
  AKev P n (GEnds T rs H (fun y fr => ∃ m g es, y = .loc 0 0 sz 0 m g ∧ fr = [(0, .arr et sz es)] ∧ es.length = g ∧ m ≤ g ∧ es.take m = ls)) (.fin .ret st) := by
 unfold oOK at h1
 split at h1
 ·rename_i k sz' m g hr
  rw [Option.map_eq_some_iff] at hr
  obtain ⟨xs, h2, h3⟩ := hr
  obtain ⟨rfl, h4⟩ := h1
  split at h4
  ·rename_i et' sz'' es hk
   obtain ⟨rfl, rfl, h5, h6, h7⟩ := h4
   refine ⟨xs, h2, ?_⟩
   rw [h3]
   exact .own [k] (.loc 0 0 sz'' 0 m g) [(0, .arr et' sz'' es)] (by simp) (by simp) (by simp [AV.ren, renK, idx]) (by simp [renFr, hk, Blk.ren]) ⟨h0, m, g, es, rfl, rfl, h5, h6, h7⟩
  ·exact h4.elim
 ·exact h1.elim
end
end Go.Abs
namespace Go.Abs
open Go Go.RowKit
set_option linter.unusedSectionVars false
attribute [go_sem] Int.toNat_natCast
def insI (x : Int) : List Int → List Int
 | [] => [x]
 | y :: l => bif decide (x ≤ y) then x :: y :: l else y :: insI x l
def srt : List Int → List Int
 | [] => []
 | x :: l => insI x (srt l)
theorem insI_perm (x : Int) : ∀ l, (insI x l).Perm (x :: l)
 | [] => .refl _
 | y :: l => by
  unfold insI
  cases decide (x ≤ y) with
  | true => exact .refl _
  | false => exact ((insI_perm x l).cons y).trans (.swap x y l)
theorem srt_perm : ∀ l, (srt l).Perm l
 | [] => .refl _
 | x :: l => (insI_perm x (srt l)).trans ((srt_perm l).cons x)
theorem insI_sorted (x : Int) : ∀ l : List Int, l.Pairwise (· ≤ ·) → (insI x l).Pairwise (· ≤ ·)
 | [], _ => by simp [insI]
 | y :: l, h => by
  rw [List.pairwise_cons] at h
  unfold insI
  by_cases hxy : x ≤ y
  ·simp only [hxy, decide_true, cond_true]
   rw [List.pairwise_cons, List.pairwise_cons]
   refine ⟨fun z hz => ?_, h.1, h.2⟩
   rcases List.mem_cons.1 hz with rfl | hz
   ·exact hxy
   ·have := h.1 z hz; omega
  ·simp only [hxy, decide_false, cond_false]
   rw [List.pairwise_cons]
   refine ⟨fun z hz => ?_, insI_sorted x l h.2⟩
   rcases List.mem_cons.1 ((insI_perm x l).mem_iff.1 hz) with rfl | hz
   ·omega
   ·exact h.1 z hz
theorem srt_sorted : ∀ l : List Int, (srt l).Pairwise (· ≤ ·)
 | [] => List.Pairwise.nil
 | x :: l => insI_sorted x _ (srt_sorted l)
theorem srt_eq (l : List Int) : (l.mergeSort fun x y => decide (x ≤ y)) = srt l := by
 refine List.Perm.eq_of_pairwise (le := fun x y : Int => x ≤ y) (fun a b _ _ h1 h2 => by omega) ?_ (srt_sorted l) ((List.mergeSort_perm _ _).trans (srt_perm l).symm)
 have := List.pairwise_mergeSort (le := fun x y : Int => decide (x ≤ y)) (fun a b c h1 h2 => by simp only [decide_eq_true_eq] at *; omega) (fun a b => by simp only [Bool.or_eq_true, decide_eq_true_eq]; omega) l
 exact this.imp fun h => by simpa using h
def SortC (P : Program) (f : FuncId) : Prop := Enters P f ∧
 (∀ (p : Option Addr) (cap : Nat) (w : World), Calls P f #[.slice p 0 cap] w fun e w' => e = .returned (.tuple #[]) ∧ w' = w) ∧
 (∀ (blk off cap : Nat) (zs : List Int) (w : World), Go.Sort.Holds (Value.int .i64) w blk off zs.toArray → blk < w.heap.size → zs.length < 4611686018427387904 →
  Calls P f #[.slice (some ⟨blk, off, none⟩) zs.length cap] w fun e w' =>
   e = .returned (.tuple #[]) ∧ ∃ n os, w' = Go.Sort.grow (Go.Sort.putRow (Value.int .i64) (Go.Sort.ahead w n) blk off (srt zs).toArray) os)
theorem SortC.of {P : Program} {f : FuncId} (h1 : Enters P f) (h2 : ∀ (p : Option Addr) (cap : Nat) (w : World), Calls P f #[.slice p 0 cap] w fun e w' => e = .returned (.tuple #[]) ∧ w' = w)
  (h3 : ∀ (blk off cap : Nat) (zs : List Int) (w : World), Go.Sort.Holds (Value.int .i64) w blk off zs.toArray → blk < w.heap.size → zs.length < 4611686018427387904 →
  Calls P f #[.slice (some ⟨blk, off, none⟩) zs.length cap] w fun e w' =>
   e = .returned (.tuple #[]) ∧ ∃ n os, w' = Go.Sort.grow (Go.Sort.putRow (Value.int .i64) (Go.Sort.ahead w n) blk off (zs.mergeSort fun x y => decide (x ≤ y)).toArray) os) : SortC P f :=
 ⟨h1, h2, fun blk off cap zs w a b c => by have := h3 blk off cap zs w a b c; simpa only [srt_eq] using this⟩
section
variable [Md] {P : Program} {T : Tys} {n : Nat} {Φ : Exit → St → Prop}
end
end Go.Abs
namespace Go.Abs
open Go Go.RowKit
set_option linter.unusedSectionVars false
variable [Md]
def gwOK (o : Option AV) (f : Option Fra) (y : AV) (fr : Fra) : Prop := o = some y ∧ f = some fr
theorem AKev_gown {P : Program} {T : Tys} {n : Nat} {rs : List ResultVar} {H : Heap} {st : St} {e : Exit} {y : AV} {fr : Fra} (ks : List Nat) (he : e = .ret ∨ e = .normal) (h0 : st.low = H) (hn : (decide ks.Nodup && decide (ks.length ≤ 16)) = true)
  (h1 : gwOK ((resAll T st rs).bind fun xs => (tupOf xs).ren ks) (renFr ks st.fr 0 ks) y fr) : AKev P n (GEnds T rs H (fun y' fr' => y' = y ∧ fr' = fr)) (.fin e st) := by
 obtain ⟨h1, h2⟩ := h1
 obtain ⟨xs, h3, h4⟩ := Option.bind_eq_some_iff.1 h1
 simp only [Bool.and_eq_true, decide_eq_true_eq] at hn
 have : ∃ xs, resAll T st rs = some xs ∧ Gives (fun y' fr' H' => H' = H ∧ y' = y ∧ fr' = fr) (tupOf xs) st :=
  ⟨xs, h3, .own ks y fr hn.1 hn.2 h4 h2 ⟨h0, rfl, rfl⟩⟩
 rcases he with rfl | rfl <;> exact this
theorem AKev_giveF {P : Program} {n : Nat} {Φ : Exit → St → Prop} {f : FuncId} {args args0 : List AV} {fr0 : Fra} {y : AV} {fr : Fra} {dst : Option Tmp} {drop : List Nat} {todo : List It} {st : St} (rs gs : List Nat) (hp : GCall P f args0 fr0 (fun y' fr' => y' = y ∧ fr' = fr))
  (hz : gOK (gvL gs (only (Heap.get ([] :: st.fr :: st.low)) (rs.map fun k => (1, k))) (boxF (only (Heap.get ([] :: st.fr :: st.low)) (rs.map fun k => (1, k))) 5) args) (giveFr (dels st.fr rs) 0 gs) args0 fr0) (hnd : (decide gs.Nodup && decide (gs.length ≤ 16)) = true)
  (h : AK P n Φ todo (st.took dst drop y fr (dels (dels st.fr rs) gs :: st.low))) : AKev P n Φ (.call f args dst drop todo st) := by
 refine AKev_call (GCall.used 5 rs gs hp hz.1 hz.2 hnd) ?_
 rintro y' fr' H' ⟨⟨rfl, rfl⟩, rfl⟩
 exact h
end Go.Abs
namespace Go.Abs
attribute [go_sem] List.all_nil List.all_cons List.map_replicate
end Go.Abs
namespace Go.Abs
open Go Go.RowKit
def Reads (B : Nat) (P : Program) (t : TypeId) {α : Type} (E : α → List AV) (Q : α → Prop) : Prop :=
 ∀ (w : World) (H : Type) (enc : TypeId × Value → H) (fuel : Nat) (cs : List Value) (x : DataW H × List MemPlace),
  DataW.trod enc P w 0 (fun _ => true) true fuel t cs = some x → (∀ n ∈ x.1.weights P t, n ≤ B) → ∃ a, Q a ∧ VRs (fmAll w) [] (E a) cs ∧ (∀ y ∈ E a, y.flat = true)
def i64ok (n : Int) : Prop := -9223372036854775808 ≤ n ∧ n ≤ 9223372036854775807
section
variable {B : Nat} {P : Program} {t : TypeId}
theorem VRs.one {fm : FM} {ts : List Tie} {x : AV} {v : Value} (h : VR fm ts x v) : VRs fm ts [x] [v] := by
 refine ⟨rfl, ?_⟩
 intro i a b h1 h2
 cases i with
 | zero => cases h1; cases h2; exact h
 | succ i => simp at h1
theorem Reads.int (ht : P.underlying t = some (.int .i64)) : Reads B P t eI i64ok := by
 intro w H enc fuel cs x h hsz
 cases fuel with
 | zero => simp [DataW.trod] at h
 | succ n =>
  rw [DataW.trod_step] at h
  unfold DataW.trodStep at h
  rw [ht] at h
  split at h
  case h_2 k k' m e =>
   cases e
   split at h
   ·rename_i hk
    obtain ⟨rfl, hw⟩ := hk
    refine ⟨m, ?_, VRs.one (.int _ _), by simp [eI, AV.flat]⟩
    simpa [Lit.wf, IntKind.min, IntKind.max, IntKind.signed, IntKind.bits, i64ok] using hw
   ·cases h
  all_goals first | (cases h; done) | (rename_i e; cases e; done)
theorem Reads.bool (ht : P.underlying t = some .bool) : Reads B P t eB (fun _ => True) := by
 intro w H enc fuel cs x h hsz
 cases fuel with
 | zero => simp [DataW.trod] at h
 | succ n =>
  rw [DataW.trod_step] at h
  unfold DataW.trodStep at h
  rw [ht] at h
  split at h
  case h_1 b e => exact ⟨b, trivial, VRs.one (.bool _), by simp [eB, AV.flat]⟩
  all_goals first | (cases h; done) | (rename_i e; cases e; done)
theorem Reads.string (ht : P.underlying t = some .string) : Reads B P t eS (fun s => s.size ≤ Go.maxLen) := by
 intro w H enc fuel cs x h hsz
 cases fuel with
 | zero => simp [DataW.trod] at h
 | succ n =>
  rw [DataW.trod_step] at h
  unfold DataW.trodStep at h
  rw [ht] at h
  split at h
  case h_4 s e =>
   split at h
   ·rename_i hk
    exact ⟨s, hk, VRs.one (.str _), by simp [eS, AV.flat]⟩
   ·cases h
  all_goals first | (cases h; done) | (rename_i e; cases e; done)
theorem cells_at {w : World} {a : Addr} {n : Nat} {cs : List Value} (h : w.cells? 0 a n = some cs) : cs.length = n ∧ ∀ o, o < n → ∃ v, cs[o]? = some v ∧ w.cell? (a.add o) = some v := by
 unfold World.cells? at h
 rw [if_pos (Nat.zero_le _)] at h
 have hl : cs.length = n := by simpa using mapM_some_length h
 refine ⟨hl, fun o ho => ?_⟩
 have hg := mapM_some_get h o o (by simp [ho])
 have : o < cs.length := by omega
 rw [List.getElem?_eq_getElem this] at hg ⊢
 exact ⟨_, rfl, hg⟩
theorem weightsAll_mem {H : Type} {e : TypeId} : ∀ {ds : List (DataW H)} {d : DataW H}, d ∈ ds → ∀ n ∈ d.weights P e, n ∈ DataW.weightsAll P e ds
 | d0 :: ds, d, h, n, hn => by
  simp only [DataW.weightsAll, List.mem_append]
  rcases List.mem_cons.1 h with rfl | h
  ·exact .inl hn
  ·exact .inr (weightsAll_mem h n hn)
theorem Reads.slice {α : Type} {e : TypeId} {sz bt : Nat} {E : α → List AV} {Q : α → Prop} (ht : P.underlying t = some (.slice e)) (hs : P.cellsOf e = sz) (hbt : P.bytesOf e = bt) (h0 : 0 < sz) (he : Reads B P e E Q) :
  Reads B P t (eL sz E) (fun l => l.length ≤ Go.maxLen ∧ l.length * bt ≤ B ∧ ∀ a ∈ l, Q a) := by
 intro w H enc fuel cs x h hsz
 cases fuel with
 | zero => simp [DataW.trod] at h
 | succ n =>
  rw [DataW.trod_step] at h
  unfold DataW.trodStep at h
  rw [ht] at h
  split at h
  case h_7 e2 hq => exact ⟨[], ⟨by simp, by simp, by simp⟩, VRs.one (.slNil _ _ _), by simp [eL, AV.flat]⟩
  case h_8 e2 a len cap hq2 =>
   cases hq2
   simp only at h
   split at h
   ·rename_i hc
    simp only [Option.map_eq_some_iff, Option.bind_eq_some_iff] at h
    obtain ⟨elems, hel, rest, _, rfl⟩ := h
    simp only [DataW.weights, ht] at hsz
    have hlen : elems.length = len := by simpa using mapM_some_length hel
    have each : ∀ i, i < len → ∃ b : α, Q b ∧ ∃ cs', w.cells? 0 (a.add (i * P.cellsOf e)) (P.cellsOf e) = some cs' ∧ VRs (fmAll w) [] (E b) cs' ∧ ∀ y ∈ E b, y.flat = true := by
     intro i hi
     have hg := mapM_some_get hel i i (by simp [hi])
     have hlt : i < elems.length := by omega
     rw [List.getElem?_eq_getElem hlt, Option.bind_eq_some_iff] at hg
     obtain ⟨cs', h1, h2⟩ := hg
     obtain ⟨b, hq, hv, hf⟩ := he w H enc n cs' _ h2 (fun m hm => hsz m (by
      simp only [List.mem_cons, List.mem_append]
      exact .inr (.inl (weightsAll_mem (List.mem_map.2 ⟨elems[i], List.getElem_mem hlt, rfl⟩) m hm))))
     exact ⟨b, hq, cs', h1, hv, hf⟩
    have all : ∀ m, m ≤ len → ∃ l : List α, l.length = m ∧ ∀ i (hi : i < l.length), Q l[i] ∧ ∃ cs', w.cells? 0 (a.add (i * P.cellsOf e)) (P.cellsOf e) = some cs' ∧ VRs (fmAll w) [] (E l[i]) cs' ∧ ∀ y ∈ E l[i], y.flat = true := by
     intro m
     induction m with
     | zero => exact fun _ => ⟨[], rfl, fun i hi => by simp at hi⟩
     | succ m ih =>
      intro hm
      obtain ⟨l, hl, h1⟩ := ih (by omega)
      obtain ⟨b, hb⟩ := each m (by omega)
      refine ⟨l ++ [b], by simp [hl], fun i hi => ?_⟩
      by_cases him : i < l.length
      ·rw [List.getElem_append_left him]; exact h1 i him
      ·have : i = m := by simp at hi; omega
       subst this
       have hb' : (l ++ [b])[i] = b := by
        rw [List.getElem_append_right (by omega)]; simp [hl]
       rw [hb']
       exact ⟨hb.1, hb.2⟩
    obtain ⟨l, hl, hall⟩ := all len (Nat.le_refl _)
    have hby : l.length * bt ≤ B := by
     have h1 := hsz _ (List.mem_cons_self ..)
     simp only [List.length_map] at h1
     rw [hbt] at h1
     have h2 : l.length * bt ≤ (elems.length + rest.length) * bt := Nat.mul_le_mul_right _ (by omega)
     omega
    refine ⟨l, ⟨by rw [hl]; omega, hby, ?_⟩, ?_, by simp [eL, AV.flat]⟩
    ·intro b hb
     obtain ⟨i, hi, rfl⟩ := List.getElem_of_mem hb
     exact (hall i hi).1
    ·by_cases hz : len = 0
     ·subst hz
      have : l = [] := List.eq_nil_of_length_eq_zero hl
      subst this
      exact VRs.one (.slNil _ _ _)
     ·
      have hsp : a.spot = none := by
       obtain ⟨_, cs', h1, _, _⟩ := hall 0 (by omega)
       obtain ⟨_, h3⟩ := cells_at h1
       obtain ⟨v, _, h4⟩ := h3 0 (by omega)
       simp only [Nat.zero_mul, Addr.add, if_true] at h4
       unfold World.cell? at h4
       split at h4
       ·split at h4
        ·cases h4
        ·rename_i hh; simpa using hh
       ·cases h4
      have hadd : ∀ k, a.add k = ⟨a.block, a.off + k, none⟩ := by
       intro k
       unfold Addr.add
       split
       ·rename_i h; subst h; obtain ⟨b, o, s⟩ := a; simp only at hsp; subst hsp; rfl
       ·rfl
      have hcell : ∀ i (hi : i < l.length) o x, (E l[i])[o]? = some x → ∃ v, w.cell? ⟨a.block, a.off + (i * sz + o), none⟩ = some v ∧ VR (fmAll w) [] x v ∧ x.flat = true := by
       intro i hi o y hy
       obtain ⟨_, cs', h1, h2, h3⟩ := hall i hi
       obtain ⟨h4, h5⟩ := cells_at h1
       have ho : o < P.cellsOf e := by
        rw [← h4, ← h2.1]; exact (List.getElem?_eq_some_iff.1 hy).1
       obtain ⟨v, h6, h7⟩ := h5 o ho
       refine ⟨v, ?_, h2.2 o y v hy h6, h3 y (List.mem_of_getElem? hy)⟩
       rw [hadd] at h7
       have : Addr.add ⟨a.block, a.off + i * P.cellsOf e, none⟩ o = ⟨a.block, a.off + (i * sz + o), none⟩ := by
        unfold Addr.add
        split
        ·rename_i h; subst h; rw [hs]; rfl
        ·simp only [Addr.mk.injEq, true_and, and_true]; rw [hs]; omega
       rwa [this] at h7
      have ha : a = ⟨a.block, a.off, none⟩ := by obtain ⟨b, o, s⟩ := a; simp only at hsp; subst hsp; rfl
      have hmap : (l.map E).length = len := by simp [hl]
      have key : VR (fmAll w) [] (.sl sz (l.map E)) (.slice (some ⟨a.block, a.off, none⟩) (l.map E).length cap) := by
       refine .sl (l.map E) a.block a.off sz cap (fun i o => (w.cell? ⟨a.block, a.off + (i * sz + o), none⟩).getD default) ⟨by omega, by omega⟩ ?_ ?_ ?_ ?_
       ·intro c hc
        simp only [List.mem_map] at hc
        obtain ⟨b, hb, rfl⟩ := hc
        obtain ⟨i, hi, rfl⟩ := List.getElem_of_mem hb
        obtain ⟨_, cs', h1, h2, _⟩ := hall i hi
        rw [h2.1, (cells_at h1).1, hs]
       all_goals
        intro i c o y h1 h2
        simp only [List.getElem?_map, Option.map_eq_some_iff] at h1
        obtain ⟨b, h3, rfl⟩ := h1
        obtain ⟨hi, rfl⟩ := List.getElem?_eq_some_iff.1 h3
        obtain ⟨v, h4, h5, h6⟩ := hcell i hi o y h2
       ·show w.cell? _ = _
        rw [h4]; rfl
       ·exact h6
       ·simp only [h4, Option.getD_some]; exact h5
      rw [hmap, ← ha] at key
      exact VRs.one key
   ·cases h
  all_goals first | (cases h; done) | (rename_i e; cases e; done)
def ReadsL (B : Nat) (P : Program) (l : List (Nat × TypeId)) (off tot : Nat) {α : Type} (E : α → List AV) (Q : α → Prop) : Prop :=
 ∀ (w : World) (H : Type) (enc : TypeId × Value → H) (fuel : Nat) (cs : List Value) (xs : List (DataW H × List MemPlace)), cs.length = tot →
  l.mapM (fun f => DataW.trod enc P w 0 (fun _ => true) true fuel f.2 ((cs.drop f.1).take (P.cellsOf f.2))) = some xs → (∀ n ∈ DataW.weightsEach P (l.map (·.2)) (xs.map (·.1)), n ≤ B) → ∃ a, Q a ∧ VRs (fmAll w) [] (E a) (cs.drop off) ∧ (∀ y ∈ E a, y.flat = true)
theorem ReadsL.nil {off tot : Nat} (h : tot ≤ off) : ReadsL B P [] off tot (fun _ : Unit => []) (fun _ => True) := by
 intro w H enc fuel cs xs hl _ _
 refine ⟨(), trivial, ⟨?_, ?_⟩, by simp⟩
 ·simp; omega
 ·intro i x v h1; simp at h1
theorem ReadsL.cons {α β : Type} {f : Nat × TypeId} {l : List (Nat × TypeId)} {off sz off' tot : Nat} {E : α → List AV} {Q : α → Prop} {E' : β → List AV} {Q' : β → Prop} (ho : f.1 = off) (hs : P.cellsOf f.2 = sz) (ho' : off + sz = off') (hr : Reads B P f.2 E Q) (hl : ReadsL B P l off' tot E' Q') :
  ReadsL B P (f :: l) off tot (fun p : α × β => E p.1 ++ E' p.2) (fun p => Q p.1 ∧ Q' p.2) := by
 intro w H enc fuel cs xs hc h hsz
 rw [List.mapM_cons] at h
 simp only [Option.pure_def, Option.bind_eq_bind, Option.bind_eq_some_iff] at h
 obtain ⟨x, h1, ys, h2, hx⟩ := h
 obtain rfl := Option.some.inj hx
 simp only [List.map_cons, DataW.weightsEach, List.mem_append] at hsz
 obtain ⟨a, q1, v1, f1⟩ := hr w H enc fuel _ _ h1 (fun n hn => hsz n (.inl hn))
 obtain ⟨b, q2, v2, f2⟩ := hl w H enc fuel cs ys hc h2 (fun n hn => hsz n (.inr hn))
 refine ⟨(a, b), ⟨q1, q2⟩, ?_, ?_⟩
 ·have : cs.drop off = (cs.drop f.1).take (P.cellsOf f.2) ++ cs.drop off' := by
   rw [ho, hs, ← ho', ← List.drop_drop, List.take_append_drop]
  rw [this]
  exact v1.append v2
 ·intro y hy
  rcases List.mem_append.1 hy with hy | hy
  ·exact f1 y hy
  ·exact f2 y hy
theorem mapM_of_map {α β γ : Type} (g : α → β) (f : β → Option γ) : ∀ l : List α, (l.map g).mapM f = l.mapM (fun x => f (g x))
 | [] => rfl
 | x :: l => by rw [List.map_cons, List.mapM_cons, List.mapM_cons, mapM_of_map g f l]
theorem Reads.struct {α : Type} {fs : Array Field} {E : α → List AV} {Q : α → Prop} {tot : Nat} (ht : P.underlying t = some (.struct fs)) (hs : P.cellsOf t = tot) (hr : ReadsL B P (fs.toList.map fun f => (f.offset, f.type)) 0 tot E Q) : Reads B P t E Q := by
 intro w H enc fuel cs x h hsz
 cases fuel with
 | zero => simp [DataW.trod] at h
 | succ n =>
  rw [DataW.trod_step] at h
  unfold DataW.trodStep at h
  rw [ht] at h
  split at h
  case h_9 c0 x0 c1 fs2 hq =>
   cases hq
   split at h
   ·rename_i hl
    simp only [Option.map_eq_some_iff] at h
    obtain ⟨xs, h1, rfl⟩ := h
    have := hr w H enc n c0 xs (by omega) (by rw [mapM_of_map]; exact h1) (fun m hm => hsz m (by simp only [DataW.weights, ht]; simpa [List.map_map, Function.comp_def] using hm))
    simpa using this
   ·cases h
  all_goals first | (cases h; done) | (rename_i e; cases e; done) | (simp_all; done)
theorem weightsEach_same {H : Type} {e : TypeId} {m : Nat} : ∀ (l : List Nat) (ds : List (DataW H)), m ∈ DataW.weightsEach P (l.map fun _ => e) ds → m ∈ DataW.weightsAll P e ds
 | [], _, h => by simp [DataW.weightsEach] at h
 | _ :: _, [], h => by simp [DataW.weightsEach] at h
 | _ :: l, d :: ds, h => by
  simp only [List.map_cons, DataW.weightsEach, List.mem_append] at h
  simp only [DataW.weightsAll, List.mem_append]
  rcases h with h | h
  ·exact .inl h
  ·exact .inr (weightsEach_same l ds h)
theorem Reads.array {α : Type} {m : Nat} {e : TypeId} {E : α → List AV} {Q : α → Prop} {tot : Nat} (ht : P.underlying t = some (.array m e)) (hs : P.cellsOf t = tot) (hr : ReadsL B P ((List.range m).map fun i => (i * P.cellsOf e, e)) 0 tot E Q) : Reads B P t E Q := by
 intro w H enc fuel cs x h hsz
 cases fuel with
 | zero => simp [DataW.trod] at h
 | succ n =>
  rw [DataW.trod_step] at h
  unfold DataW.trodStep at h
  rw [ht] at h
  split at h
  case h_10 c0 x0 c1 m2 e2 hq =>
   cases hq
   split at h
   ·rename_i hl
    simp only [Option.map_eq_some_iff] at h
    obtain ⟨xs, h1, rfl⟩ := h
    have := hr w H enc n c0 xs (by omega) (by rw [mapM_of_map]; exact h1) (fun n0 hm => hsz n0 (by simp only [DataW.weights, ht]; exact weightsEach_same (List.range m) _ (by simpa [List.map_map, Function.comp_def] using hm)))
    simpa using this
   ·cases h
  all_goals first | (cases h; done) | (rename_i e; cases e; done) | (simp_all; done)
theorem Reads.as {α β : Type} {E : α → List AV} {Q : α → Prop} {E' : β → List AV} {Q' : β → Prop} (hr : Reads B P t E Q) (g : α → β) (hE : ∀ a, E' (g a) = E a) (hQ : ∀ a, Q a → Q' (g a)) : Reads B P t E' Q' := by
 intro w H enc fuel cs x h hsz
 obtain ⟨a, h1, h2, h3⟩ := hr w H enc fuel cs x h hsz
 exact ⟨g a, hQ a h1, by rw [hE]; exact h2, by rw [hE]; exact h3⟩
theorem arg_one {α : Type} {E : α → List AV} {Q : α → Prop} {w : World} {H : Type} {enc : TypeId × Value → H} {v : Value} {d : DataW H} {ps : List MemPlace} (hr : Reads B P t E Q) (hv : v.cells = #[v]) (F : α → AV) (hF : ∀ a, E a = [F a]) (h : DataW.Trod enc P w 0 (fun _ => true) true t v d ps) (hsz : ∀ n ∈ d.weights P t, n ≤ B) :
  ∃ a, Q a ∧ VR (fmAll w) [] (F a) v := by
 obtain ⟨fuel, h⟩ := h
 rw [hv] at h
 obtain ⟨a, h1, h2, _⟩ := hr w H enc fuel _ _ h hsz
 rw [hF] at h2
 exact ⟨a, h1, h2.2 0 _ _ rfl rfl⟩
end
end Go.Abs
namespace Go.Abs
open Go Go.RowKit
theorem keptBut_of_below {W W' : World} (h : Below W.heap.size W W') (may : MemPlace → Prop) : W.keptBut W' may := by
 refine ⟨h.os, h.output, fun i hi => ?_⟩
 have hb := h.block i hi
 have : ∃ o, W.heap[i]? = some o := ⟨_, Array.getElem?_eq_getElem hi⟩
 obtain ⟨o, ho⟩ := this
 rw [hb, ho]
 cases o with
 | cells c t fr => exact ⟨rfl, rfl, rfl, fun _ _ => rfl⟩
 | map es clock => exact .inr ⟨rfl, rfl⟩
 | _ => rfl
theorem sameAt_of_below {W W' : World} (h : Below W.heap.size W W') (p : MemPlace) (hp : p.block < W.heap.size) : W.sameAt W' p := by
 cases p with
 | cell b off =>
  have hb := h.block b hp
  show W'.cell? _ = W.cell? _
  unfold World.cell?
  simp only [hb]
 | map b => exact h.block b hp
section
variable {H : Type} {enc : TypeId × Value → H} {P : Program}
theorem weights_of {ts us : List TypeId} {ds gs : List (DataW H)} (hl : ds.length = ts.length) (h : (DataW.weightsEach P (ts ++ us) (ds ++ gs)).all (· ≤ reachBytes) = true) (j : Nat) (t : TypeId) (d : DataW H) (ht : ts[j]? = some t) (hd : ds[j]? = some d) : ∀ n ∈ d.weights P t, n ≤ reachBytes := by
 intro n hn
 have h1 : j < ts.length := (List.getElem?_eq_some_iff.1 ht).1
 have := List.all_eq_true.1 h n (DataW.weights_mem_each (j := j) (by rw [List.getElem?_append_left h1]; exact ht) (by rw [List.getElem?_append_left (by omega)]; exact hd) n hn)
 simpa using this
theorem trodAll_carry {w w' : World} {base : Nat} {spare : Nat → Bool} {held : Bool} : ∀ {ts : List TypeId} {vs : List Value} {ds : List (DataW H)} {ps : List MemPlace}, DataW.TrodAll enc P w base spare held ts vs ds ps → (∀ p ∈ ps, w.sameAt w' p) → DataW.TrodAll enc P w' base spare held ts vs ds ps
 | [], [], [], _, h, _ => h
 | _ :: _, _ :: _, _ :: _, _, ⟨p, q, ⟨n, h1⟩, h2, e⟩, hs =>
  ⟨p, q, ⟨n, DataW.trod_carry n _ _ _ h1 (fun x hx => hs x (by rw [e]; exact List.mem_append_left _ hx))⟩, trodAll_carry h2 (fun x hx => hs x (by rw [e]; exact List.mem_append_right _ hx)), e⟩
theorem law_post {f : Func} {s : ChangeSpec} {W W' : World} {args : Array Value} {ds gs : List (DataW H)} {before : List MemPlace} {t : TypeId} (hl : laidOutB P = true) (hm : mapsRowed P = true)
  (hz : ((List.range P.types.size).all fun t => match P.underlying t with | some (.slice e) => decide (0 < P.cellsOf e) | _ => true) = true)
  (hW : DataW.Whole enc P f.params.toList s.vars false W args.toList ds gs before) (hvs : s.vars = []) (hB : Below W.heap.size W W') (hpar : ∀ t ∈ f.params.toList, t < P.types.size) (hrt : f.resultTypes = #[t]) (ht : P.underlying t = some .bool)
  (hfn : s.fn H (ds ++ gs) = { results := [.lit (.bool true)], args := ds }) : s.post enc P f false true false false W args (.bool true) W' := by
 have hlt := hW.lt
 have hW0 := hW
 obtain ⟨p, q, hA, hV, hps, _, _⟩ := hW
 rw [hvs] at hV
 obtain ⟨rfl, rfl⟩ : gs = [] ∧ q = [] := by
  cases gs with
  | nil => exact ⟨rfl, hV⟩
  | cons g gs => exact hV.elim
 have hp : ∀ x ∈ p, x.block < W.heap.size := fun x hx => hlt x (by rw [hps]; simp [hx])
 refine ⟨ds, [], before, [], p, [], hW0, ?_, ?_, ?_, keptBut_of_below hB _, by simp⟩
 ·rw [hfn, hrt]
  exact ⟨[], [], ⟨1, by simp [DataW.trod_step, DataW.trodStep, ht, Value.cells]⟩, rfl, rfl⟩
 ·rw [hfn]
  exact DataW.TrodAll.respare (kids_rows hl hm) (fun t e h1 h2 => slices_full_of P hz t e h1 h2) hpar (trodAll_carry hA (fun x hx => sameAt_of_below hB x (hp x hx))) (fun x hx => by simpa using hp x hx)
 ·rw [hfn, hvs]
  rfl
end
end Go.Abs
namespace Go.Abs
open Go
def og (d : Nat) (o : Op) (t a : Nat) (b : Bool) (l : List Nat) : SOp := ⟨some d, o, t, some (a, b), l⟩
def oq (d : Nat) (o : Op) (t : Nat) (l : List Nat) : SOp := ⟨some d, o, t, none, l⟩
def mv (d s t : Nat) (l : List Nat) : SOp := ⟨some d, .move (.tmp s), t, none, l⟩
def ld (d t s : Nat) (l : List Nat) : SOp := ⟨some d, .load t (.tmp s), t, none, l⟩
def fa (d t s i : Nat) (l : List Nat) : SOp := ⟨some d, .fieldAddr t (.tmp s) i, 0, none, l⟩
def ia (d t s i : Nat) (l : List Nat) : SOp := ⟨some d, .indexAddr t (.tmp s) (.tmp i), 0, none, l⟩
def sg (d s t : Nat) (l : List Nat) : SOp := ⟨some d, .assign (.tmp s), t, none, l⟩
def sn (d : Nat) (n : Int) (t : Nat) (l : List Nat) : SOp := ⟨some d, .assign (.const (.int .i64 n)), t, none, l⟩
def sb (d : Nat) (b : Bool) (t : Nat) (l : List Nat) : SOp := ⟨some d, .assign (.const (.bool b)), t, none, l⟩
def xt (d s i t : Nat) (l : List Nat) : SOp := ⟨some d, .extract (.tmp s) i, t, none, l⟩
def ln (d s u t : Nat) (l : List Nat) : SOp := ⟨some d, .call ⟨.builtin .len, #[.tmp s], #[u]⟩, t, none, l⟩
def cf1 (d f a ta t : Nat) (l : List Nat) : SOp := ⟨some d, .call ⟨.value (.func f), #[.tmp a], #[ta]⟩, t, none, l⟩
def cf2 (d f a b ta tb t : Nat) (l : List Nat) : SOp := ⟨some d, .call ⟨.value (.func f), #[.tmp a, .tmp b], #[ta, tb]⟩, t, none, l⟩
def b2 (d : Nat) (o : BinOp) (u a b v t : Nat) (l : List Nat) : SOp := ⟨some d, .binOp o u (.tmp a) (.tmp b) v, t, none, l⟩
def bn (d : Nat) (o : BinOp) (u a : Nat) (n : Int) (v t : Nat) (l : List Nat) : SOp := ⟨some d, .binOp o u (.tmp a) (.const (.int .i64 n)) v, t, none, l⟩
attribute [go_sem] og oq mv ld fa ia sg sn sb xt ln cf1 cf2 b2 bn
theorem aa {α : Type} {l : List α} {i : Int} {x : α} (h : at? l i = some x) : inRange i l.length = some i.toNat ∧ ∀ (β : Type) (E : α → β), (l.map E)[i.toNat]? = some (E x) := ⟨at_in h, fun _ E => at_get E h⟩
theorem bs {α β : Type} {o : Option α} {f : α → Option β} {r : β} (h : o.bind f = some r) : ∃ x, o = some x ∧ f x = some r := bind_some h
end Go.Abs
namespace Go.Abs
open Go
structure Vec (n : Nat) (α : Type) where
 l : List α
 h : l.length = n
def Vec.c {n : Nat} {α : Type} (E : α → List AV) (v : Vec n α) : List AV := (v.l.map E).flatten
theorem Vec.ext {n : Nat} {α : Type} {a b : Vec n α} (h : a.l = b.l) : a = b := by
 cases a; cases b; cases h; rfl
theorem flatten_len {α : Type} {E : α → List AV} {z : Nat} (h : ∀ x, (E x).length = z) : ∀ l : List α, (l.map E).flatten.length = l.length * z
 | [] => by simp
 | x :: l => by rw [List.map_cons, List.flatten_cons, List.length_append, h, flatten_len h l, List.length_cons, Nat.succ_mul]; omega
theorem Vec.len {n : Nat} {α : Type} {E : α → List AV} {z : Nat} (h : ∀ x, (E x).length = z) (v : Vec n α) : (v.c E).length = n * z := by
 unfold Vec.c; rw [flatten_len h, v.h]
def Vec.at? {n : Nat} {α : Type} (v : Vec n α) (i : Int) : Option α := if 0 ≤ i ∧ i < n then v.l[i.toNat]? else none
def Vec.set {n : Nat} {α : Type} (v : Vec n α) (i : Int) (x : α) : Vec n α := ⟨v.l.set i.toNat x, by simp [v.h]⟩
def Vec.rep (n : Nat) {α : Type} (x : α) : Vec n α := ⟨List.replicate n x, by simp⟩
theorem vat_in {n : Nat} {α : Type} {v : Vec n α} {i : Int} {x : α} (h : v.at? i = some x) : inRange i n = some i.toNat := by
 unfold Vec.at? at h
 split at h
 ·rename_i hc; unfold inRange; rw [if_pos hc]
 ·cases h
theorem vat_get {n : Nat} {α : Type} {v : Vec n α} {i : Int} {x : α} (h : v.at? i = some x) : v.l[i.toNat]? = some x := by
 unfold Vec.at? at h
 split at h
 ·exact h
 ·cases h
def Sub (cs : List AV) (o : Nat) (c : List AV) : Prop := ∃ a b, cs = a ++ (c ++ b) ∧ a.length = o
theorem Sub.self (c : List AV) : Sub c 0 c := ⟨[], [], by simp, rfl⟩
theorem Sub.trans {cs c c' : List AV} {o o' : Nat} (h : Sub cs o c) (k : Sub c o' c') : Sub cs (o + o') c' := by
 obtain ⟨a, b, rfl, rfl⟩ := h
 obtain ⟨a', b', rfl, rfl⟩ := k
 exact ⟨a ++ a', b' ++ b, by simp, by simp⟩
theorem Sub.cons (x : AV) {cs c : List AV} {o : Nat} (h : Sub cs o c) : Sub (x :: cs) (o + 1) c := by
 obtain ⟨a, b, rfl, rfl⟩ := h
 exact ⟨x :: a, b, by simp, by simp⟩
theorem Sub.skip (p : List AV) {cs c : List AV} {o : Nat} (h : Sub cs o c) : Sub (p ++ cs) (p.length + o) c := by
 obtain ⟨a, b, rfl, rfl⟩ := h
 exact ⟨p ++ a, b, by simp, by simp⟩
theorem Sub.bound {cs c : List AV} {o z : Nat} (h : Sub cs o c) (hz : c.length = z) : o + z ≤ cs.length := by
 obtain ⟨a, b, rfl, rfl⟩ := h
 simp; omega
theorem Sub.get {cs c : List AV} {o z : Nat} (h : Sub cs o c) (hz : c.length = z) : (cs.drop o).take z = c := by
 obtain ⟨a, b, rfl, rfl⟩ := h
 subst hz
 simp
theorem Sub.idx {n : Nat} {α : Type} {E : α → List AV} {z : Nat} (hE : ∀ x, (E x).length = z) {v : Vec n α} {i : Int} {x : α} (h : v.at? i = some x) : Sub (v.c E) (i.toNat * z) (E x) := by
 have hg := vat_get h
 obtain ⟨hlt, hx⟩ := List.getElem?_eq_some_iff.1 hg
 refine ⟨((v.l.take i.toNat).map E).flatten, ((v.l.drop (i.toNat + 1)).map E).flatten, ?_, ?_⟩
 ·unfold Vec.c
  conv => lhs; rw [← List.take_append_drop i.toNat v.l, List.drop_eq_getElem_cons hlt, hx]
  simp
 ·rw [flatten_len hE, List.length_take, Nat.min_eq_left (by omega)]
theorem Sub.ow {cs c : List AV} {o : Nat} (h : Sub cs o c) {new : List AV} (hl : new.length = c.length) : ∃ a b, cs = a ++ (c ++ b) ∧ a.length = o ∧ overwrite cs o new = a ++ (new ++ b) := by
 obtain ⟨a, b, rfl, rfl⟩ := h
 refine ⟨a, b, rfl, rfl, ?_⟩
 unfold overwrite
 rw [hl]
 simp [← List.drop_drop]
theorem ow_trans {cs c c' : List AV} {o o' : Nat} (h : Sub cs o c) (k : Sub c o' c') {new : List AV} (hl : new.length = c'.length) : overwrite cs (o + o') new = overwrite cs o (overwrite c o' new) := by
 obtain ⟨a, b, rfl, rfl⟩ := h
 obtain ⟨a', b', rfl, rfl⟩ := k
 have h1 : overwrite (a ++ ((a' ++ (c' ++ b')) ++ b)) (a.length + a'.length) new = a ++ (a' ++ (new ++ (b' ++ b))) := by
  unfold overwrite
  rw [hl]
  have e1 : (a ++ ((a' ++ (c' ++ b')) ++ b)) = (a ++ a') ++ (c' ++ (b' ++ b)) := by simp
  rw [e1, List.take_left' (by simp), ← List.drop_drop, List.drop_left' (by simp), List.drop_left' rfl]
  simp
 have h2 : overwrite (a' ++ (c' ++ b')) a'.length new = a' ++ (new ++ b') := by
  unfold overwrite
  rw [hl, List.take_left' rfl, ← List.drop_drop, List.drop_left' rfl, List.drop_left' rfl]
 rw [h1, h2]
 unfold overwrite
 rw [List.take_left' rfl, ← List.drop_drop, List.drop_left' rfl, List.drop_left' (by simp [hl])]
 simp
theorem ow_idx {n : Nat} {α : Type} {E : α → List AV} {z : Nat} (hE : ∀ x, (E x).length = z) {v : Vec n α} {i : Int} {x : α} (h : v.at? i = some x) (y : α) : overwrite (v.c E) (i.toNat * z) (E y) = (v.set i y).c E := by
 have hg := vat_get h
 obtain ⟨hlt, hx⟩ := List.getElem?_eq_some_iff.1 hg
 have e1 : v.c E = ((v.l.take i.toNat).map E).flatten ++ (E x ++ ((v.l.drop (i.toNat + 1)).map E).flatten) := by
  unfold Vec.c
  conv => lhs; rw [← List.take_append_drop i.toNat v.l, List.drop_eq_getElem_cons hlt, hx]
  simp
 have e2 : (v.set i y).c E = ((v.l.take i.toNat).map E).flatten ++ (E y ++ ((v.l.drop (i.toNat + 1)).map E).flatten) := by
  unfold Vec.c Vec.set
  simp only
  rw [List.set_eq_take_append_cons_drop, if_pos hlt]
  simp
 have hl : (((v.l.take i.toNat).map E).flatten).length = i.toNat * z := by rw [flatten_len hE, List.length_take, Nat.min_eq_left (by omega)]
 rw [e1, e2]
 unfold overwrite
 rw [← hl, List.take_left' rfl, ← List.drop_drop, List.drop_left' rfl, List.drop_left' (by rw [hE, hE])]
theorem ow_self {c new : List AV} (h : new.length = c.length) : overwrite c 0 new = new := by
 unfold overwrite; rw [Nat.zero_add, h, List.drop_length]; simp
theorem ow_cons (x : AV) (cs new : List AV) (o : Nat) : overwrite (x :: cs) (o + 1) new = x :: overwrite cs o new := by
 unfold overwrite; rw [show o + 1 + new.length = (o + new.length) + 1 by omega]; simp
structure VK {α : Type} (z : Nat) (E : α → List AV) : Prop where
 len : ∀ x, (E x).length = z
 ice : ∀ x, Ice (E x)
theorem unL_append (d : Nat) : ∀ a b x y : List AV, AV.unL d a = some x → AV.unL d b = some y → AV.unL d (a ++ b) = some (x ++ y)
 | [], b, x, y, h, k => by simp only [AV.unL, Option.some.injEq] at h; subst h; simpa using k
 | u :: a, b, x, y, h, k => by
  simp only [AV.unL] at h
  split at h
  ·rename_i p q hp hq
   obtain rfl := Option.some.inj h
   simp only [List.cons_append, AV.unL, hp, unL_append d a b q y hq k]
  ·cases h
theorem frzL_append (G : Get) : ∀ a b x y : List AV, AV.frzL G a = some x → AV.frzL G b = some y → AV.frzL G (a ++ b) = some (x ++ y)
 | [], b, x, y, h, k => by simp only [AV.frzL, Option.some.injEq] at h; subst h; simpa using k
 | u :: a, b, x, y, h, k => by
  simp only [AV.frzL] at h
  split at h
  ·rename_i p q hp hq
   obtain rfl := Option.some.inj h
   simp only [List.cons_append, AV.frzL, hp, frzL_append G a b q y hq k]
  ·cases h
theorem brL_append (G : Get) (F : Nat → Nat → Option (List AV)) : ∀ a b x y : List AV, AV.brL G F a = some x → AV.brL G F b = some y → AV.brL G F (a ++ b) = some (x ++ y)
 | [], b, x, y, h, k => by simp only [AV.brL, Option.some.injEq] at h; subst h; simpa using k
 | u :: a, b, x, y, h, k => by
  simp only [AV.brL] at h
  split at h
  ·rename_i p q hp hq
   obtain rfl := Option.some.inj h
   simp only [List.cons_append, AV.brL, hp, brL_append G F a b q y hq k]
  ·cases h
theorem renL_append (ks : List Nat) : ∀ a b x y : List AV, AV.renL ks a = some x → AV.renL ks b = some y → AV.renL ks (a ++ b) = some (x ++ y)
 | [], b, x, y, h, k => by simp only [AV.renL, Option.some.injEq] at h; subst h; simpa using k
 | u :: a, b, x, y, h, k => by
  simp only [AV.renL] at h
  split at h
  ·rename_i p q hp hq
   obtain rfl := Option.some.inj h
   simp only [List.cons_append, AV.renL, hp, renL_append ks a b q y hq k]
  ·cases h
theorem impL_append (k : Nat) : ∀ a b : List AV, AV.impL k (a ++ b) = AV.impL k a ++ AV.impL k b
 | [], b => rfl
 | x :: a, b => by simp only [List.cons_append, AV.impL, impL_append k a b]
theorem refsL_append : ∀ a b : List AV, AV.refsL (a ++ b) = AV.refsL a ++ AV.refsL b
 | [], b => rfl
 | x :: a, b => by simp only [List.cons_append, AV.refsL, refsL_append a b, List.append_assoc]
theorem Ice.append {a b : List AV} (h : Ice a) (k : Ice b) : Ice (a ++ b) :=
 ⟨fun d => by rw [shL_append, h.sh, k.sh], fun G => frzL_append G _ _ _ _ (h.frz G) (k.frz G), fun G F => brL_append G F _ _ _ _ (h.br G F) (k.br G F), by rw [refsL_append, h.refs, k.refs]; rfl,
  fun n => by rw [impL_append, h.imp, k.imp], fun ks => renL_append ks _ _ _ _ (h.ren ks) (k.ren ks), fun d => unL_append d _ _ _ _ (h.un d) (k.un d)⟩
theorem Ice.nil : Ice [] := ⟨fun _ => rfl, fun _ => rfl, fun _ _ => rfl, rfl, fun _ => rfl, fun _ => rfl, fun _ => rfl⟩
theorem Ice.flat {α : Type} {E : α → List AV} (h : ∀ x, Ice (E x)) : ∀ l : List α, Ice (l.map E).flatten
 | [] => Ice.nil
 | x :: l => by rw [List.map_cons, List.flatten_cons]; exact (h x).append (Ice.flat h l)
theorem VK.vec {α : Type} {z : Nat} {E : α → List AV} (h : VK z E) (n : Nat) : VK (n * z) (Vec.c (n := n) E) :=
 ⟨fun v => v.len h.len, fun v => Ice.flat h.ice v.l⟩
theorem vk_i : VK 1 eI := ⟨fun _ => rfl, fun _ => ⟨fun _ => rfl, fun _ => rfl, fun _ _ => rfl, rfl, fun _ => rfl, fun _ => rfl, fun _ => rfl⟩⟩
theorem vk_u8 : VK 1 eU8 := ⟨fun _ => rfl, fun _ => ⟨fun _ => rfl, fun _ => rfl, fun _ _ => rfl, rfl, fun _ => rfl, fun _ => rfl, fun _ => rfl⟩⟩
theorem eqCells_append : ∀ (z a b z' a' b' : List AV), z.length = a.length → a.length = b.length → eqCells (z ++ z') (a ++ a') (b ++ b') = (match eqCells z a b, eqCells z' a' b' with
  | some p, some q => some (p && q)
  | _, _ => none)
 | [], [], [], z', a', b', _, _ => by
  simp only [List.nil_append, eqCells]
  cases eqCells z' a' b' <;> simp
 | x :: z, p :: a, q :: b, z', a', b', h1, h2 => by
  simp only [List.cons_append, eqCells]
  rw [eqCells_append z a b z' a' b' (by simpa using h1) (by simpa using h2)]
  cases eqCell x p q <;> cases eqCells z a b <;> cases eqCells z' a' b' <;> simp [Bool.and_assoc]
 | [], _ :: _, _, _, _, _, h, _ => by simp at h
 | _ :: _, [], _, _, _, _, h, _ => by simp at h
 | [], [], _ :: _, _, _, _, _, h => by simp at h
 | _ :: _, _ :: _, [], _, _, _, _, h => by simp at h
theorem eqCells_flat {α : Type} {E : α → List AV} {z : Nat} {zc : List AV} (hE : ∀ x, (E x).length = z) (hz : zc.length = z) (eq : α → α → Bool) (h : ∀ x y, eqCells zc (E x) (E y) = some (eq x y)) :
  ∀ (n : Nat) (a b : List α), a.length = n → b.length = n → eqCells (List.replicate n zc).flatten (a.map E).flatten (b.map E).flatten = some (a.zip b |>.all fun p => eq p.1 p.2)
 | 0, [], [], _, _ => by simp [eqCells]
 | n + 1, x :: a, y :: b, h1, h2 => by
  rw [List.replicate_succ, List.map_cons, List.map_cons, List.flatten_cons, List.flatten_cons, List.flatten_cons, eqCells_append _ _ _ _ _ _ (by rw [hz, hE]) (by rw [hE, hE]), h x y,
   eqCells_flat hE hz eq h n a b (by simpa using h1) (by simpa using h2)]
  simp
structure UpdE {α : Type} (cs : List AV) (o : Nat) (E : α → List AV) (x : α) (g : α → List AV) : Prop where
 sub : Sub cs o (E x)
 ow : ∀ y, overwrite cs o (E y) = g y
theorem UpdE.self {α : Type} {E : α → List AV} {z : Nat} (hE : ∀ x, (E x).length = z) (x : α) : UpdE (E x) 0 E x E :=
 ⟨Sub.self _, fun y => ow_self (by rw [hE, hE])⟩
theorem UpdE.cons {α : Type} {E : α → List AV} {cs : List AV} {o : Nat} {x : α} {g : α → List AV} (a : AV) (h : UpdE cs o E x g) : UpdE (a :: cs) (o + 1) E x (fun y => a :: g y) :=
 ⟨h.sub.cons a, fun y => by rw [ow_cons, h.ow]⟩
theorem UpdE.skip {α : Type} {E : α → List AV} {cs : List AV} {o : Nat} {x : α} {g : α → List AV} (h : UpdE cs o E x g) : ∀ p : List AV, UpdE (p ++ cs) (p.length + o) E x (fun y => p ++ g y)
 | [] => by simpa using h
 | a :: p => by
  have := (UpdE.skip h p).cons a
  rw [List.length_cons, show p.length + 1 + o = p.length + o + 1 by omega]
  exact this
theorem UpdE.idx {n : Nat} {α : Type} {E : α → List AV} {z : Nat} (hE : ∀ x, (E x).length = z) {v : Vec n α} {i : Int} {x : α} (h : v.at? i = some x) : UpdE (v.c E) (i.toNat * z) E x (fun y => (v.set i y).c E) :=
 ⟨Sub.idx hE h, fun y => ow_idx hE h y⟩
theorem UpdE.within {α β : Type} {cs : List AV} {o o' : Nat} {E : α → List AV} {x : α} {g : α → List AV} {E' : β → List AV} {x' : β} {g' : β → List AV} {z : Nat} (hE : ∀ x, (E' x).length = z)
  (h : UpdE cs o E x g) (k : UpdE (E x) o' E' x' g') (up : β → α) (hg : ∀ y, g' y = E (up y)) : UpdE cs (o + o') E' x' (fun y => g (up y)) :=
 ⟨h.sub.trans k.sub, fun y => by rw [ow_trans h.sub k.sub (by rw [hE, hE]), k.ow, hg, h.ow]⟩
theorem UpdE.at {n : Nat} {α : Type} {E : α → List AV} {z : Nat} (hE : ∀ x, (E x).length = z) {cs : List AV} {o : Nat} {v : Vec n α} {g : Vec n α → List AV} (h : UpdE cs o (Vec.c E) v g) {i : Int} {x : α} (hx : v.at? i = some x) :
  UpdE cs (o + i.toNat * z) E x (fun y => g (v.set i y)) :=
 UpdE.within hE h (UpdE.idx hE hx) (fun y => v.set i y) (fun _ => rfl)
theorem UpdE.bound {α : Type} {cs : List AV} {o z : Nat} {E : α → List AV} {x : α} {g : α → List AV} (h : UpdE cs o E x g) (hE : ∀ x, (E x).length = z) : o + z ≤ cs.length := h.sub.bound (hE x)
theorem UpdE.get {α : Type} {cs : List AV} {o z : Nat} {E : α → List AV} {x : α} {g : α → List AV} (h : UpdE cs o E x g) (hE : ∀ x, (E x).length = z) : (cs.drop o).take z = E x := h.sub.get (hE x)
def Vec.eq {n : Nat} {α : Type} (eq : α → α → Bool) (a b : Vec n α) : Bool := (a.l.zip b.l).all fun p => eq p.1 p.2
theorem eqCells_vec {n : Nat} {α : Type} {E : α → List AV} {z : Nat} (hE : ∀ x, (E x).length = z) {x0 : α} {eq : α → α → Bool} (h : ∀ x y, eqCells (E x0) (E x) (E y) = some (eq x y)) (a b : Vec n α) :
  eqCells ((Vec.rep n x0).c E) (a.c E) (b.c E) = some (a.eq eq b) := by
 have := eqCells_flat hE (hE x0) eq h n a.l b.l a.h b.h
 unfold Vec.c Vec.rep Vec.eq
 simp only [List.map_replicate]
 exact this
def Vec.put {n : Nat} {α : Type} (v : Vec n α) (o m : Nat) (l : List α) : Vec n α :=
 if h : o + m ≤ n then ⟨v.l.take o ++ (l.take m ++ v.l.drop (o + min l.length m)), by
  simp only [List.length_append, List.length_take, List.length_drop, v.h]; omega⟩ else v
theorem vecU8 {n : Nat} (v : Vec n Int) : v.c eU8 = v.l.map (AV.int .u8) := by
 unfold Vec.c eU8
 induction v.l with
 | nil => rfl
 | cons x l ih => simp [ih]
theorem flatU8 (l : List Int) : (l.map eU8).flatten = l.map (AV.int .u8) := by
 unfold eU8
 induction l with
 | nil => rfl
 | cons x l ih => simp [ih]
theorem inn_cells {n : Nat} (v : Vec n Int) (o m : Nat) : (AV.frzL (fun _ _ => none) (((v.c eU8).drop o).take m)).map (fun cs => cs.map fun c => [c]) = some ((((v.l.drop o).take m)).map eU8) := by
 rw [vecU8, ← List.map_drop, ← List.map_take]
 generalize (v.l.drop o).take m = l
 have : AV.frzL (fun _ _ => none) (l.map (AV.int .u8)) = some (l.map (AV.int .u8)) := by
  induction l with
  | nil => rfl
  | cons x l ih => simp only [List.map_cons, AV.frzL, AV.frz, ih]
 rw [this]
 simp [eU8]
theorem put_cells {n : Nat} (v : Vec n Int) (o m : Nat) (l : List Int) (h : o + m ≤ n) : overwrite (v.c eU8) o ((l.map eU8).take m).flatten = (v.put o m l).c eU8 := by
 unfold Vec.put
 rw [dif_pos h, ← List.map_take, flatU8, vecU8, vecU8]
 unfold overwrite
 simp only [List.map_append, List.map_take, List.map_drop, List.length_take, List.length_map]
 rw [Nat.min_comm]
def strOf (l : List Int) : ByteArray := ⟨(l.map fun n => UInt8.ofNat n.toNat).toArray⟩
theorem bytesOf_map : ∀ l : List Int, bytesOf (l.map eU8) = some (l.map fun n => UInt8.ofNat n.toNat)
 | [] => rfl
 | x :: l => by simp only [List.map_cons, bytesOf, bytesOf_map l, eU8, byteOf]
def strBs (s : ByteArray) : List Int := s.data.toList.map fun c => (c.toNat : Int)
theorem strEs_map (s : ByteArray) : strEs s = (strBs s).map eU8 := by
 unfold strEs strBs eU8; rw [List.map_map]; rfl
theorem strBs_len (s : ByteArray) : (strBs s).length = s.size := by unfold strBs; rw [List.length_map]; rfl
def sat? (s : ByteArray) (i : Int) : Option Int := if 0 ≤ i ∧ i < s.size then some ((s.data.toList.getD i.toNat 0).toNat : Int) else none
theorem sat_in {s : ByteArray} {i x : Int} (h : sat? s i = some x) : inRange i s.size = some i.toNat := by
 unfold sat? at h
 split at h
 ·rename_i hc; unfold inRange; rw [if_pos hc]
 ·cases h
theorem sat_get {s : ByteArray} {i x : Int} (h : sat? s i = some x) : ((s.data.toList.getD i.toNat 0).toNat : Int) = x := by
 unfold sat? at h
 split at h
 ·exact Option.some.inj h
 ·cases h
theorem strOf_eq (l : List Int) : (⟨(l.map fun n => UInt8.ofNat n.toNat).toArray⟩ : ByteArray) = strOf l := rfl
def eU64 (x : Int) : List AV := [.int .u64 x]
theorem ba0 : (⟨#[]⟩ : ByteArray) = ByteArray.empty := rfl
def sh? (y : Int) : Option Unit := if y < 0 then none else some ()
theorem sh_nn {y : Int} {u : Unit} (h : sh? y = some u) : (y < 0) = False := by
 unfold sh? at h
 split at h
 ·cases h
 ·rename_i h1; exact eq_false h1
theorem mn64_1 : min (Int.toNat 1) 64 = 1 := rfl
theorem mn64_8 : min (Int.toNat 8) 64 = 8 := rfl
theorem mn64_16 : min (Int.toNat 16) 64 = 16 := rfl
theorem mn64_24 : min (Int.toNat 24) 64 = 24 := rfl
theorem mn64_32 : min (Int.toNat 32) 64 = 32 := rfl
attribute [go_sem] mn64_1 mn64_8 mn64_16 mn64_24 mn64_32 eU64 ba0 aBytes doAppendS doAppendZ impL_append refsL_append List.cons_append List.nil_append List.append_nil
end Go.Abs
namespace Go.Abs
open Go Go.RowKit
set_option linter.unusedSectionVars false
section
variable {P : Program} {T : Tys} {N0 : Nat} {W0 : World} {fm : FM} {ts : List Tie} {H : Heap} {w : World}
def MCall (P : Program) (f : FuncId) (args : List AV) (X : Fra) (R : AV → Fra → Fra → Prop) : Prop :=
 ∀ (f1 : Fra) (H : Heap), ACall P f args ((X ++ f1) :: H) (fun y fr H' => ∃ X', R y fr X' ∧ H' = (X' ++ f1) :: H)
theorem MCall.of_body (hT : TysOK P T) {f : FuncId} {fn : Func} {c : Code} {sc : SC} {args : List AV} {X : Fra} {R : AV → Fra → Fra → Prop} (hf : P.funcs[f]? = some fn) (hb : fn.body = some c) (hnm : (fn.name == "runtime.NumGoroutine") = false)
  (he : sc.bare = erase fn.ntmps c) (hfit : (erase fn.ntmps c).fits fn.ntmps = true) (hargs : args.length ≤ fn.ntmps)
  (h : ∀ f1 H, AK P fn.ntmps (Ends T fn.results.toList fun y fr H' => ∃ X', R y fr X' ∧ H' = (X' ++ f1) :: H) [.sc sc] (St.enter args ((X ++ f1) :: H) fn.ntmps)) : MCall P f args X R :=
 fun f1 H => ACall.of_body hT hf hb hnm he hfit hargs (h f1 H) (by rintro y fr H' ⟨X', _, rfl⟩; rfl)
theorem AKev_mret {n : Nat} {rs : List ResultVar} {f1 : Fra} {st : St} {e : Exit} {y0 : AV} {X0 : Fra} (he : e = .ret ∨ e = .normal) (h1 : ((resAll T st rs).bind fun xs => (tupOf xs).ren []) = some y0) (h2 : st.low = (X0 ++ f1) :: H) :
  AKev P n (Ends T rs fun y fr H' => ∃ X', (y = y0 ∧ fr = [] ∧ X' = X0) ∧ H' = (X' ++ f1) :: H) (.fin e st) := by
 obtain ⟨xs, h3, h4⟩ := Option.bind_eq_some_iff.1 h1
 have : ∃ xs, resAll T st rs = some xs ∧ Gives (fun y fr H' => ∃ X', (y = y0 ∧ fr = [] ∧ X' = X0) ∧ H' = (X' ++ f1) :: H) (tupOf xs) st :=
  ⟨xs, h3, .own [] y0 [] (by simp) (by simp) h4 rfl ⟨X0, ⟨rfl, rfl, rfl⟩, h2⟩⟩
 rcases he with rfl | rfl <;> exact this
theorem renL_VRs {xs ys : List AV} {vs : List Value} {ks : List Nat} {t : Tie} {rest : List Tie} (h : VRs fm (t :: rest) xs vs) (e : AV.renL ks xs = some ys) : VRs fm (tren ks t :: rest) ys vs := by
 have g := renL_get ks _ _ e
 refine ⟨by rw [g.1]; exact h.1, fun i y v hy hv => ?_⟩
 have hlt : i < xs.length := by rw [← g.1]; exact (List.getElem?_eq_some_iff.1 hy).1
 obtain ⟨y', hy', hu⟩ := g.2 i _ (List.getElem?_eq_getElem hlt)
 rw [hy] at hy'; obtain rfl := Option.some.inj hy'
 exact (h.2 i _ v (List.getElem?_eq_getElem hlt) hv).ren rfl hu
theorem shL_VRs {xs : List AV} {vs : List Value} {t : Tie} (h : VRs fm ts xs vs) : VRs fm (t :: ts) (AV.shL 1 xs) vs := by
 refine ⟨by rw [shL_length]; exact h.1, ?_⟩
 intro i x v hx hv
 rw [shL_get, Option.map_eq_some_iff] at hx
 obtain ⟨y, hy, rfl⟩ := hx
 exact (h.2 i y v hy hv).sh 1 (by simp)
def mvArgs (ks : List Nat) (args : List AV) : Option (List AV) :=
 match AV.unL 1 args with
 | some xs => match AV.renL ks xs with
  | some ys => some (AV.shL 1 ys)
  | none => none
 | none => none
section
variable [Md] {n : Nat} {Φ : Exit → St → Prop} {f : FuncId} {args : List AV} {dst : Option Tmp} {drop : List Nat} {todo : List It} {st : St}
theorem Moved.norm {st1 : St} {args1 : List AV} {keep ks : List Nat} {nx : Nat} (e : st.norm keep ks nx = some st1) (hnd : ks.Nodup) (hnx : ks.length ≤ nx) (ea : mvArgs ks args = some args1) : Moved n st args st1 args1 := by
 intro N0 W0 a w fm ts vs h hv
 unfold St.norm at e
 split at e
 ·rename_i tm fr htm hfr
  obtain rfl := Option.some.inj e
  cases ts with
  | nil => have := h.hr.len; simp at this
  | cons t rest =>
   refine ⟨fm, tren ks t :: rest, ⟨h.hr.ren hfr hnd, ?_, ?_, h.size, h.dfr⟩, ⟨FmUp.refl _ _, TsLe.refl _, fun _ _ h => h⟩, ?_⟩
   ·intro i y hy
    obtain ⟨x, h1, h2⟩ := renTm_look ks st.tm keep tm htm i y hy
    obtain ⟨v, h3, h4⟩ := h.tm i x h1
    exact ⟨v, h3, h4.ren rfl h2⟩
   ·intro k hk
    have hk' : nx ≤ k := hk
    simp only [tb, tren]
    rw [List.getElem?_eq_none (by omega)]; rfl
   ·unfold mvArgs at ea
    split at ea
    ·rename_i xs hxs
     split at ea
     ·rename_i ys hys
      obtain rfl := Option.some.inj ea
      have h1 := unL_VRs hxs hv
      exact shL_VRs (renL_VRs (by simpa using h1) hys)
     ·cases ea
    ·cases ea
 ·cases e
theorem Moved.trans {a b c : St} {xs ys zs : List AV} (h : Moved n a xs b ys) (k : Moved n b ys c zs) : Moved n a xs c zs := by
 intro N0 W0 x w fm ts vs hS hv
 obtain ⟨fm1, ts1, h1, h2, h3⟩ := h N0 W0 x w fm ts vs hS hv
 obtain ⟨fm2, ts2, h4, h5, h6⟩ := k N0 W0 x w fm1 ts1 vs h1 h3
 exact ⟨fm2, ts2, h4, h2.trans h5, h6⟩
theorem AKev_moved {st1 : St} {args1 : List AV} (hm : Moved n st args st1 args1) (h : AKev P n Φ (.call f args1 dst drop todo st1)) : AKev P n Φ (.call f args dst drop todo st) := by
 obtain ⟨st2, args2, R, Rp, h1, h2, h3, h4⟩ := h
 exact ⟨st2, args2, R, Rp, hm.trans h1, h2, h3, h4⟩
def nOK (P : Program) (n : Nat) (Φ : Exit → St → Prop) (f : FuncId) (dst : Option Tmp) (drop : List Nat) (todo : List It) : Option St → Option (List AV) → Prop
 | some st1, some args1 => AKev P n Φ (.call f args1 dst drop todo st1)
 | _, _ => False
theorem nOK_some {st1 : St} {args1 : List AV} : nOK P n Φ f dst drop todo (some st1) (some args1) = AKev P n Φ (.call f args1 dst drop todo st1) := rfl
theorem AKev_norm (keep ks : List Nat) (nx : Nat) (hnd : (decide ks.Nodup && decide (ks.length ≤ nx)) = true) (h : nOK P n Φ f dst drop todo (st.norm keep ks nx) (mvArgs ks args)) : AKev P n Φ (.call f args dst drop todo st) := by
 unfold nOK at h
 split at h
 ·rename_i st1 args1 h1 h2
  simp only [Bool.and_eq_true, decide_eq_true_eq] at hnd
  exact AKev_moved (Moved.norm h1 hnd.1 hnd.2 h2) h
 ·exact h.elim
theorem AKev_mcall {args0 : List AV} {X0 X1 : Fra} {y0 : AV} {fr0 : Fra} (hp : MCall P f args0 X0 (fun y fr X' => y = y0 ∧ fr = fr0 ∧ X' = X1)) (ha : args = args0 ∧ st.fr.take X0.length = X0)
  (h : AK P n Φ todo (st.took dst drop y0 fr0 ((X1 ++ st.fr.drop X0.length) :: st.low))) : AKev P n Φ (.call f args dst drop todo st) := by
 obtain ⟨rfl, hx⟩ := ha
 have h1 := hp (st.fr.drop X0.length) st.low
 have e : X0 ++ st.fr.drop X0.length = st.fr := by
  have := List.take_append_drop X0.length st.fr
  rw [hx] at this; exact this
 rw [e] at h1
 refine AKev_call h1 ?_
 rintro v fr H ⟨X', ⟨rfl, rfl, rfl⟩, rfl⟩
 exact h
def AV.lo : AV → Bool
 | .loc l _ _ _ _ _ => l == 0
 | .ptr l _ _ => l == 0
 | x => x.leaf
def AV.lot : AV → Bool
 | .tup vs => vs.all AV.lo
 | .agg cs => cs.all AV.lo
 | x => x.lo
def Blk.lo : Blk → Prop
 | .arr _ _ es => ∀ c ∈ es, ∀ x ∈ c, x.leaf = true
 | .box cs => ∀ x ∈ cs, x.lo = true
theorem VR.lo {fm fm' : FM} {t : Tie} {ts : List Tie} {x : AV} {v : Value} (h : VR fm' [t] x v) (hx : x.lo = true) : VR fm (t :: ts) x v := by
 cases h with
 | locGone l k esz i n g a cp h hn' ha =>
  obtain rfl : l = 0 := by simpa [AV.lo] using hx
  exact .locGone 0 _ esz i n g a cp h hn' ha
 | locOld l k esz i n g a cp m' c h hlt hn' ha =>
  obtain rfl : l = 0 := by simpa [AV.lo] using hx
  exact .locOld 0 _ esz i n g a cp m' c h hlt hn' ha
 | locNil l k esz a h =>
  obtain rfl : l = 0 := by simpa [AV.lo] using hx
  exact .locNil 0 _ esz a h
 | loc l k esz i n g c cap cp a h hn' hnc hc ha =>
  obtain rfl : l = 0 := by simpa [AV.lo] using hx
  exact .loc 0 _ esz i n g c cap cp a h hn' hnc hc ha
 | ptr l k o c h =>
  obtain rfl : l = 0 := by simpa [AV.lo] using hx
  exact .ptr 0 _ o c h
 | bool b => exact .bool b
 | int k n => exact .int k n
 | str s => exact .str s
 | nil => exact .nil
 | pnil => exact .pnil
 | fnil => exact .fnil
 | inil => exact .inil
 | _ => simp [AV.lo, AV.leaf] at hx
theorem VR.lot {fm fm' : FM} {t : Tie} {ts : List Tie} {x : AV} {v : Value} (h : VR fm' [t] x v) (hx : x.lot = true) : VR fm (t :: ts) x v := by
 cases x with
 | tup xs =>
  cases h with
  | tup _ vs h1 h3 => exact .tup xs vs h1 (fun i x v a b => (h3 i x v a b).lo (List.all_eq_true.1 hx x (List.mem_of_getElem? a)))
 | agg cs =>
  cases h with
  | agg _ vs h1 h2 h3 => exact .agg cs vs h1 h2 (fun i x v a b => (h3 i x v a b).lo (List.all_eq_true.1 hx x (List.mem_of_getElem? a)))
 | _ => exact h.lo hx
theorem BR.lo {fm fm' : FM} {t : Tie} {ts : List Tie} {w : World} {N N0 : Nat} {x : Option TB} {b : Blk} (h : BR fm' [t] w N x b) (hN : N0 ≤ N) (hb : b.lo) : BR fm (t :: ts) w N0 x b := by
 cases h with
 | nil et esz => exact .nil et esz
 | arr et esz es c cap h1 hA =>
  obtain ⟨cells, a1, a2, a3, a4, a5, a6, a7⟩ := hA
  refine .arr et esz es c cap (Nat.le_trans hN h1) ⟨cells, a1, a2, a3, a4, a5, a6, ?_⟩
  intro i d o x v p q r
  have := a7 i d o x v p q r
  exact ⟨this.1, this.2.leaf (hb d (List.mem_of_getElem? p) x (List.mem_of_getElem? q))⟩
 | box c cs h1 hB =>
  obtain ⟨cells, et, c1, c2, c3⟩ := hB
  exact .box c cs (Nat.le_trans hN h1) ⟨cells, et, c1, c2, fun o x v p q => ⟨(c3 o x v p q).1, (c3 o x v p q).2.lo (hb x (List.mem_of_getElem? p))⟩⟩
def loFr : Fra → Prop
 | [] => True
 | (_, b) :: l => b.lo ∧ loFr l
theorem loFr_look : ∀ (l : Fra) (k : Nat) (b : Blk), loFr l → look l k = some b → b.lo
 | [], k, b, _, h => by simp [look] at h
 | (j, x) :: l, k, b, h, e => by
  simp only [look] at e
  split at e
  ·obtain rfl := Option.some.inj e; exact h.1
  ·exact loFr_look l k b h.2 e
theorem GCall.lent {f : FuncId} {args fargs : List AV} {y0 : AV} {fr0 : Fra} (m : Nat) (hp : GCall P f fargs [] (fun y fr => y = y0 ∧ fr = fr0)) (hz : AV.brL (Heap.get ([] :: H)) (Abs.boxF (Heap.get ([] :: H)) m) args = some fargs) (hy : y0.lot = true) (hf : loFr fr0) :
  ACall P f args H (fun y fr H' => y = y0 ∧ fr = fr0 ∧ H' = H) := by
 refine ⟨hp.1, fun N0 W0 fm ts w vs hH hv => ?_⟩
 have h1 := hH.push.brs _ (hH.push.boxF m) hv hz
 have hn : HR w.heap.size w (fun b o => w.cell? ⟨b, o, none⟩) [] [] w := HR.nothing (fun b o v h => h)
 have hv1 : VRs (fun b o => w.cell? ⟨b, o, none⟩) (noTie :: []) fargs vs := by
  have hz' : AV.unL 0 fargs = AV.unL 0 fargs := rfl
  refine ⟨h1.1, fun i x v a b => ?_⟩
  have h2 := h1.2 i x v a b
  exact h2.mono (FmLe.refl _) (fun l k => by simp only [tb]; trivial)
 refine Calls.mono (hp.2 [] w.heap.size w _ noTie [] w vs hn.push (fun _ _ => rfl) hv1) ?_
 rintro e w' ⟨v, y, fr', fm', t', ts', rfl, ⟨rfl, rfl⟩, hhr, hvr, hup, htl, hno, h16⟩
 have hts : ts' = [] := by have := hhr.len; simp at this; exact this
 subst hts
 have hb := hhr.bel
 have hH' : HR N0 W0 fm ts H w' := hH.world (fun i hi => hb.block i hi) (hb.mono hH.size)
 refine ⟨v, y, fr', H, fm, t', ts, rfl, ⟨rfl, rfl, rfl⟩, rfl, ?_, hvr.lot hy, FmUp.refl _ _, TsLe.refl _, fun _ _ h => h, h16⟩
 have up : ∀ {k b c}, look fr' k = some b → tbc (t' k) = some c → w.heap.size ≤ c := by
  intro k b c hk hc
  have := (hhr.blk 0 k b (by simpa [Heap.get] using hk)).lt (by simpa [tb] using hc)
  exact this.2
 have low : ∀ {l k b c}, Heap.get H l k = some b → tbc (tb ts l k) = some c → c < w.heap.size := by
  intro l k b c hk hc
  exact ((hH.blk l k b hk).lt hc).1
 refine ⟨by have := hH'.len; simpa using this, ?_, ?_, hH'.fms, ?_, hH'.bel, hH'.size, hH'.oth⟩
 ·intro l k b hg
  cases l with
  | zero =>
   have h2 := hhr.blk 0 k b (by simpa [Heap.get] using hg)
   simp only [List.drop_zero, tb] at h2 ⊢
   exact h2.lo hH.size (loFr_look _ _ _ hf (by simpa [Heap.get] using hg))
  | succ l => exact hH'.blk l k b hg
 ·intro l k l' k' b b' c g1 g2 t1 t2
  cases l with
  | zero =>
   cases l' with
   | zero => exact hhr.inj 0 k 0 k' b b' c (by simpa [Heap.get] using g1) (by simpa [Heap.get] using g2) t1 t2
   | succ l' => exact absurd (low g2 t2) (by have := up (by simpa [Heap.get] using g1) t1; omega)
  | succ l =>
   cases l' with
   | zero => exact absurd (low g1 t1) (by have := up (by simpa [Heap.get] using g2) t2; omega)
   | succ l' =>
    have := hH'.inj l k l' k' b b' c g1 g2 t1 t2
    exact ⟨by omega, this.2⟩
 ·intro l k b c o hg hc
  cases l with
  | zero => exact hH.noFm (up (by simpa [Heap.get] using hg) hc) o
  | succ l => exact hH'.fmd l k b c o hg hc
theorem AKev_glent (hT : TysOK P T) {fargs : List AV} {y0 : AV} {fr0 : Fra} (m : Nat) (hp : GCall P f fargs [] (fun y fr => y = y0 ∧ fr = fr0)) (hz : AV.brL (Heap.get ([] :: st.fr :: st.low)) (Abs.boxF (Heap.get ([] :: st.fr :: st.low)) 5) args = some fargs) (hy : y0.lot = true) (hf : loFr fr0)
  (h : AKev P n Φ (run T m todo (st.took dst drop y0 fr0 (st.fr :: st.low)))) : AKev P n Φ (.call f args dst drop todo st) := by
 refine AKev_call (GCall.lent 5 hp hz hy hf) ?_
 rintro y fr H' ⟨rfl, rfl, rfl⟩
 exact run_sound hT m _ _ h
theorem Moved.wake {tm : List (Nat × AV)} {fr : Fra} {low : Heap} {nx nt : Nat} (k o e s : Nat) {cs : List AV} (hk : look fr k = some (.box cs)) (ho : cs[o]? = some .nil) :
  Moved n ⟨tm, fr, low, nx, nt⟩ args ⟨tm, ins (ins fr nx (.arr e s [])) k (.box (cs.set o (.loc 0 nx s 0 0 0))), low, nx + 16, nt⟩ args := by
 intro N0 W0 a w fm ts vs h hvs
 have hk0 : tb ts 0 nx = none := h.nx nx (Nat.le_refl _)
 have h1 := h.hr.empty (k := nx) e s hk0 (by simp)
 have hlt : 0 < ts.length := by rw [h.hr.len]; simp
 have hT1 : TsLe ts (tset ts 0 nx (.arr 0 none)) := TsLe.set (by rw [hk0]; trivial)
 have hg0 : Heap.get (fr :: low) 0 k = some (.box cs) := by simpa [Heap.get] using hk
 have hb := h.hr.blk 0 k _ hg0
 have hkn : nx ≠ k := by
  intro e'
  subst e'
  rw [hk0] at hb
  cases hb
 have hg1 : Heap.get (Heap.put (fr :: low) 0 nx (some (.arr e s []))) 0 k = some (.box cs) := by
  rw [Heap.get_put, if_neg (fun hh => hkn hh.2.1)]; exact hg0
 have htb : ∀ l j, ¬ (l = 0 ∧ j = nx) → tb (tset ts 0 nx (.arr 0 none)) l j = tb ts l j := by
  intro l j hn
  rw [tb_tset, if_neg (fun hh => hn ⟨hh.1.symm, hh.2.1.symm⟩)]
 have htn : tb (tset ts 0 nx (.arr 0 none)) 0 nx = some (.arr 0 none) := by rw [tb_tset, if_pos ⟨rfl, rfl, hlt⟩]
 have hb1 := h1.blk 0 k _ hg1
 rw [htb 0 k (fun hh => hkn hh.2.symm)] at hb1
 generalize htt : tb ts 0 k = tt at hb1
 cases hb1 with
 | box c _ hN hB =>
  have hkb : tb (tset ts 0 nx (.arr 0 none)) 0 k = some (.box c) := by rw [htb 0 k (fun hh => hkn hh.2.symm), htt]
  obtain ⟨cells, et, c1, c2, c3⟩ := hB
  have hturn := h1.turn (w' := w) (l := 0) (k := k) (c := c) (x := .box c) (b := .box (cs.set o (.loc 0 nx s 0 0 0))) (by simp) rfl (fun _ _ _ => rfl) (Below.refl _ _) (fun o ho => by rw [c1] at ho; cases ho; rfl) (by rw [hkb]; exact TbLe.refl _)
   (fun l' k' b' g' t' => h1.inj l' k' 0 k b' _ c g' hg1 t' (by rw [hkb]; rfl)) (fun o => h1.fmd 0 k _ c o hg1 (by rw [hkb]; rfl)) (by
    rw [tset_self hkb]
    refine .box c _ hN ⟨cells, et, c1, by simpa using c2, ?_⟩
    intro i x v hx hv
    rw [List.getElem?_set] at hx
    split at hx
    ·rename_i hi
     subst hi
     split at hx
     ·obtain rfl := Option.some.inj hx
      have h3 := (c3 o .nil v ho hv).2
      cases h3
      exact ⟨rfl, .locNil 0 nx s none (by simpa using htn)⟩
     ·cases hx
    ·exact c3 i x v hx hv)
  rw [tset_self hkb] at hturn
  refine ⟨fm, _, ⟨hturn, h.tm.mono (FmLe.refl _) hT1, ?_, h.size, h.dfr⟩, ⟨FmUp.refl _ _, ?_, ?_⟩, hvs.mono (FmLe.refl _) ?_⟩
  ·intro j hj
   have hj' : nx + 16 ≤ j := hj
   rw [htb 0 j (by omega)]
   exact h.nx j (by show nx ≤ j; omega)
  ·exact hT1.drop 1
  ·intro l j e1
   rw [tb_drop] at e1 ⊢
   rw [htb (l + 1) j (by omega)]
   exact e1
  ·intro l j
   cases l with
   | zero => exact TbLe.refl _
   | succ l => exact hT1 l j
end
def aP {α : Type} (z : Nat) (E : α → List AV) : Option α → AV
 | none => .pnil
 | some x => .rptr z [E x] 0 0
section
variable {α : Type} {z : Nat} {E : α → List AV} (x : Option α)
theorem aP_some (y : α) : aP z E (some y) = .rptr z [E y] 0 0 := rfl
theorem aP_none : aP z E none = .pnil := rfl
theorem aP_sh (d : Nat) : (aP z E x).sh d = aP z E x := by cases x <;> rfl
theorem aP_frz (G : Get) : (aP z E x).frz G = some (aP z E x) := by cases x <;> rfl
theorem aP_br (G : Get) (F : Nat → Nat → Option (List AV)) : (aP z E x).br G F = some (aP z E x) := by cases x <;> rfl
theorem aP_refs : (aP z E x).refs = [] := by cases x <;> rfl
theorem aP_imp (k : Nat) : (aP z E x).imp k = aP z E x := by cases x <;> rfl
theorem aP_ren (ks : List Nat) : (aP z E x).ren ks = some (aP z E x) := by cases x <;> rfl
theorem aP_un (d : Nat) : (aP z E x).un d = some (aP z E x) := by cases x <;> rfl
theorem aP_flat : (aP z E x).flat = true := by cases x <;> rfl
end
attribute [go_sem] isPanic thrown aP_some aP_none aP_sh aP_frz aP_br aP_refs aP_imp aP_ren aP_un aP_flat nOK_some mvArgs St.norm renTm renFr AV.ren AV.renL Blk.ren renK idx loFr Blk.lo AV.lo AV.lot
def mkl? {α : Type} (n : Int) (b : Nat) (z : α) : Option (List α) := (mk? n b).map fun _ => List.replicate n.toNat z
theorem mkl_some {α : Type} {n : Int} {b : Nat} {z : α} {l : List α} (h : mkl? n b z = some l) : ∃ u, mk? n b = some u := by
 unfold mkl? at h
 obtain ⟨u, hu, _⟩ := Option.map_eq_some_iff.1 h
 exact ⟨u, hu⟩
theorem mkl_eq {α : Type} {n : Int} {b : Nat} {z : α} {l : List α} (h : mkl? n b z = some l) : l = List.replicate n.toNat z := by
 unfold mkl? at h
 obtain ⟨u, _, hl⟩ := Option.map_eq_some_iff.1 h
 exact hl.symm
theorem mkl_map {α β : Type} (E : α → β) {n : Int} {b : Nat} {z : α} {l : List α} (h : mkl? n b z = some l) : List.replicate n.toNat (E z) = List.map E l := by
 rw [mkl_eq h, List.map_replicate]
theorem mkl_len {α : Type} {n : Int} {b : Nat} {z : α} {l : List α} (h : mkl? n b z = some l) : l.length = n.toNat := by
 rw [mkl_eq h]; simp
theorem mkl_take {α β : Type} (E : α → β) {n : Int} {b : Nat} {z : α} {l : List α} (h : mkl? n b z = some l) : List.take n.toNat (List.map E l) = List.map E l := by
 rw [mkl_eq h]; simp
def Lf {α : Type} (E : α → List AV) : Prop := ∀ x, ∀ y ∈ E x, y.leaf = true
theorem lf_u8 : Lf eU8 := fun x y h => by simp only [eU8, List.mem_singleton] at h; subst h; rfl
theorem Lf.vec {n : Nat} {α : Type} {E : α → List AV} (h : Lf E) : Lf (Vec.c (n := n) E) := by
 intro v y hy
 unfold Vec.c at hy
 rw [List.mem_flatten] at hy
 obtain ⟨l, hl, hy⟩ := hy
 obtain ⟨x, _, rfl⟩ := List.mem_map.1 hl
 exact h x y hy
theorem Lf.map {α : Type} {E : α → List AV} (h : Lf E) (l : List α) : (∀ c ∈ List.map E l, ∀ x ∈ c, x.leaf = true) := by
 intro c hc x hx
 obtain ⟨y, _, rfl⟩ := List.mem_map.1 hc
 exact h y x hx
end
end Go.Abs
namespace Go.Abs
open Go Go.RowKit
set_option linter.unusedSectionVars false
section
variable {P : Program} {T : Tys} {N0 : Nat} {W0 : World} {fm : FM} {ts : List Tie} {H : Heap} {w : World}
def EndsP (T : Tys) (rs : List ResultVar) (R : AV → Fra → Heap → Prop) (Rp : List PanicEntry → Heap → Prop) (e : Exit) (st : St) : Prop :=
 match e with
 | .normal | .ret => ∃ xs y, resAll T st rs = some xs ∧ (tupOf xs).ren [] = some y ∧ R y [] st.low
 | .panic ch => Rp ch st.low
 | _ => False
theorem ACallP.of_body (hT : TysOK P T) {f : FuncId} {fn : Func} {c : Code} {sc : SC} {args : List AV} {H : Heap} {R : AV → Fra → Heap → Prop} {Rp : List PanicEntry → Heap → Prop} (hf : P.funcs[f]? = some fn) (hb : fn.body = some c) (hnm : (fn.name == "runtime.NumGoroutine") = false)
  (he : sc.bare = erase fn.ntmps c) (hfit : (erase fn.ntmps c).fits fn.ntmps = true) (hargs : args.length ≤ fn.ntmps)
  (h : AK P fn.ntmps (EndsP T fn.results.toList R Rp) [.sc sc] (St.enter args H fn.ntmps)) (hlow : ∀ y fr H', R y fr H' → H'.length = H.length) (hlowp : ∀ ch H', Rp ch H' → H'.length = H.length) : ACallP P f args H R Rp := by
 refine ⟨⟨fn, hf, hnm, by simp [hb]⟩, ?_⟩
 intro N0 W0 fm ts w vs hH hv
 refine calls_of_wp hf hb ((wpIn_plain []).1 ?_)
 have hS := SR.enter hH hv hargs
 have := h N0 W0 fm (noTie :: ts) _ w [.code c] (bodyPost P fn fun e w' => (∃ v av fr' H' fm' t' ts', e = .returned v ∧ R av fr' H' ∧ H'.length = H.length ∧ HR N0 W0 fm' (t' :: ts') (fr' :: H') w' ∧ VR fm' (t' :: ts') av v ∧ FmUp N0 fm fm' ∧ TsLe ts ts' ∧
   (∀ l k, tb ts l k = none → tb ts' l k = none) ∧ ∀ k, 16 ≤ k → t' k = none) ∨
   ∃ ch H' fm' ts', e = .panicked ch ∧ Rp ch H' ∧ H'.length = H.length ∧ HR N0 W0 fm' ts' H' w' ∧ FmUp N0 fm fm' ∧ TsLe ts ts' ∧ ∀ l k, tb ts l k = none → tb ts' l k = none) hS (.sc he hfit .nil) ?_
 ·exact this
 ·intro e st' a' w' fm' ts' hE hS' hL
  cases ts' with
  | nil => have := hS'.hr.len; simp at this
  | cons t rest =>
   have hts : TsLe ts rest := by simpa using hL.tle
   have hno : ∀ l k, tb ts l k = none → tb rest l k = none := by simpa using hL.no
   cases e with
   | normal =>
    obtain ⟨xs, y, hxs, hy, hR⟩ := hE
    obtain ⟨v, h1, h2⟩ := results_ok (P := P) hT hS' hxs
    exact ⟨hS'.dfr, v, h1, .inl ⟨v, y, [], st'.low, fm', tren [] t, rest, rfl, hR, hlow _ _ _ hR, hS'.hr.ren rfl (by simp), h2.ren rfl hy, hL.fle, hts, hno, fun k hk' => rfl⟩⟩
   | ret =>
    obtain ⟨xs, y, hxs, hy, hR⟩ := hE
    obtain ⟨v, h1, h2⟩ := results_ok (P := P) hT hS' hxs
    exact ⟨hS'.dfr, v, h1, .inl ⟨v, y, [], st'.low, fm', tren [] t, rest, rfl, hR, hlow _ _ _ hR, hS'.hr.ren rfl (by simp), h2.ren rfl hy, hL.fle, hts, hno, fun k hk' => rfl⟩⟩
   | panic ch => exact ⟨hS'.dfr, .inr ⟨ch, st'.low, fm', rest, rfl, hE, hlowp _ _ hE, hS'.hr.pop, hL.fle, hts, hno⟩⟩
   | _ => exact hE.elim
section
variable [Md] {n : Nat} {Φ : Exit → St → Prop} {f : FuncId} {args : List AV} {dst : Option Tmp} {drop : List Nat} {todo : List It} {st : St}
theorem AKev_callP {R : AV → Fra → Heap → Prop} {Rp : List PanicEntry → Heap → Prop} (hp : ACallP P f args (st.fr :: st.low) R Rp) (h : ∀ y fr H, R y fr H → AK P n Φ todo (st.took dst drop y fr H)) (h2 : ∀ ch H, Rp ch H → Φ (.panic ch) (st.withHeap H)) :
  AKev P n Φ (.call f args dst drop todo st) := ⟨_, _, R, Rp, Moved.refl _ _ _, hp, h, h2⟩
theorem AKev_throw {t : TypeId} {x : AV} (h : ∀ fm ts u, VR fm ts x u → Φ (.panic [{ v := .iface t u, recovered := false }]) st) : AKev P n Φ (.throw (.ifc t x) st) := ⟨t, x, rfl, h⟩
theorem AKev_endP {rs : List ResultVar} {R : AV → Fra → Heap → Prop} {Rp : List PanicEntry → Heap → Prop} {e : Exit} {y0 : AV} (he : e = .ret ∨ e = .normal) (h1 : ((resAll T st rs).bind fun xs => (tupOf xs).ren []) = some y0) (h2 : R y0 [] st.low) : AKev P n (EndsP T rs R Rp) (.fin e st) := by
 obtain ⟨xs, h3, h4⟩ := Option.bind_eq_some_iff.1 h1
 rcases he with rfl | rfl <;> exact ⟨xs, y0, h3, h4, h2⟩
end
end
theorem renL_app (ks : List Nat) (b : List AV) : ∀ a : List AV, AV.renL ks (a ++ b) = (AV.renL ks a).bind fun x => (AV.renL ks b).map (x ++ ·)
 | [] => by cases h : AV.renL ks b <;> simp [AV.renL, h]
 | u :: a => by
  simp only [List.cons_append, AV.renL, renL_app ks b a]
  cases u.ren ks <;> cases AV.renL ks a <;> cases AV.renL ks b <;> rfl
theorem renL_ice {a : List AV} (h : Ice a) (ks : List Nat) (b : List AV) : AV.renL ks (a ++ b) = (AV.renL ks b).map (a ++ ·) := by
 rw [renL_app, h.ren]; rfl
def frRep : Fra → Nat → Blk → Fra
 | [], _, _ => []
 | (j, x) :: l, k, b => if j = k then (j, b) :: l else (j, x) :: frRep l k b
theorem nlf_rep {k : Nat} {b b' : Blk} (hb : NLB b b') : ∀ {fr : Fra}, look fr k = some b → NLF fr (frRep fr k b')
 | [], h => by simp [look] at h
 | (j, x) :: l, h => by
  simp only [look] at h
  by_cases hj : j = k
  ·rw [if_pos hj] at h
   obtain rfl := Option.some.inj h
   simp only [frRep, if_pos hj]
   exact .cons _ _ _ _ _ hb (.refl l)
  ·rw [if_neg hj] at h
   simp only [frRep, if_neg hj]
   exact .cons _ _ _ _ _ (.refl x) (nlf_rep hb h)
theorem AK.nlbox {P : Program} {n : Nat} {Φ : Exit → St → Prop} {todo : List It} {tm : List (Nat × AV)} {fr : Fra} {low : Heap} {nx nt : Nat} (k o e : Nat) {cs : List AV} (hk : look fr k = some (.box cs)) (ho : cs[o]? = some .nil)
  (h : AK P n Φ todo ⟨tm, frRep fr k (.box (cs.set o (.sl e []))), low, nx, nt⟩) : AK P n Φ todo ⟨tm, fr, low, nx, nt⟩ := by
 refine AK.weak (Weak.nl (.refl tm) (nlf_rep (.box _ _ ⟨by simp, ?_⟩) hk)) h
 intro i x y hx hy
 rw [List.getElem?_set] at hy
 split at hy
 ·rename_i hi
  subst hi
  rw [ho] at hx
  obtain rfl := Option.some.inj hx
  split at hy
  ·obtain rfl := Option.some.inj hy; exact .nil e
  ·cases hy
 ·rw [hx] at hy; obtain rfl := Option.some.inj hy; exact .refl x
attribute [go_sem] frRep
theorem frzL_app (G : Get) (b : List AV) : ∀ a : List AV, AV.frzL G (a ++ b) = (AV.frzL G a).bind fun x => (AV.frzL G b).map (x ++ ·)
 | [] => by cases h : AV.frzL G b <;> simp [AV.frzL, h]
 | u :: a => by
  simp only [List.cons_append, AV.frzL, frzL_app G b a]
  cases u.frz G <;> cases AV.frzL G a <;> cases AV.frzL G b <;> rfl
theorem frzL_ice {a : List AV} (h : Ice a) (G : Get) (b : List AV) : AV.frzL G (a ++ b) = (AV.frzL G b).map (a ++ ·) := by
 rw [frzL_app, h.frz]; rfl
theorem fzL_app (k : Nat) (x : Blk) (b : List AV) : ∀ a : List AV, AV.fzL k x (a ++ b) = (AV.fzL k x a).bind fun y => (AV.fzL k x b).map (y ++ ·)
 | [] => by cases h : AV.fzL k x b <;> simp [AV.fzL, h]
 | u :: a => by
  simp only [List.cons_append, AV.fzL, fzL_app k x b a]
  cases u.fz k x <;> cases AV.fzL k x a <;> cases AV.fzL k x b <;> rfl
theorem fzL_ice {a : List AV} {k : Nat} {x : Blk} (h : AV.fzL k x a = some a) (b : List AV) : AV.fzL k x (a ++ b) = (AV.fzL k x b).map (a ++ ·) := by
 rw [fzL_app, h]; rfl
theorem fz_vec {α : Type} {n : Nat} {E : α → List AV} {k : Nat} {x : Blk} (h : ∀ y, AV.fzL k x (E y) = some (E y)) (v : Vec n α) : AV.fzL k x (Vec.c E v) = some (Vec.c E v) := by
 have key : ∀ l : List α, AV.fzL k x (l.map E).flatten = some (l.map E).flatten := by
  intro l
  induction l with
  | nil => rfl
  | cons y l ih => simp only [List.map_cons, List.flatten_cons, fzL_app, ih, h, Option.bind_some, Option.map_some]
 exact key v.l
end Go.Abs
namespace Go.Abs
open Go Go.RowKit
set_option linter.unusedSectionVars false
section
variable [Md] {P : Program} {T : Tys} {N0 : Nat} {W0 : World} {n : Nat} {fm : FM} {ts : List Tie} {st : St} {a : Act} {w : World} {Q : Exit → Act → World → Prop}
theorem AK.seg {Φ : Exit → St → Prop} {B : St → Prop} {c : Code} {s : SC} {t : List CIt} (hs : SR N0 W0 n st a w fm ts) (h : AK P n Φ [.sc s, .back B] st) (he : s.bare = erase n c) (hf : (erase n c).fits n = true)
  (hB : ∀ st' a' w' fm' ts', B st' → SR N0 W0 n st' a' w' fm' ts' → Later N0 fm ts fm' ts' → K P Q t .normal a' w')
  (hΦ : ∀ e st' a' w' fm' ts', Φ e st' → SR N0 W0 n st' a' w' fm' ts' → Later N0 fm ts fm' ts' → K P Q t e a' w') : K P Q (.code c :: t) .normal a w := by
 have h1 := h N0 W0 fm ts a w [.code c, .back (fun a' w' => K P Q t .normal a' w')] (fun e a' w' => K P Q t e a' w') hs
  (.sc he hf (.back (fun st' a' w' fm' ts' hb hs' hl => hB st' a' w' fm' ts' hb hs' hl) .nil)) hΦ
 rw [K_code] at h1 ⊢
 refine wpIn_mono h1 ?_
 intro e a' w' hk
 cases e <;> exact hk
theorem K_op {arr : Array Oper} {i : Nat} {is : List Nat} {o : Oper} {t : List CIt} (ho : arr[i]? = some o) (hg : o.guard = none) (h : o.wpIn FW 0 P a w (fun a' w' => K P Q (.ops arr is :: t) .normal a' w') (K P Q t)) : K P Q (.ops arr (i :: is) :: t) .normal a w := by
 unfold K
 simp only [wpOpsIn, ho]
 rw [if_pos (by simp [Region.wanted, hg])]
 exact h
theorem K_ops_nil {arr : Array Oper} {t : List CIt} (h : K P Q t .normal a w) : K P Q (.ops arr [] :: t) .normal a w := by
 unfold K; simp only [wpOpsIn]; exact h
theorem AK.last {Φ : Exit → St → Prop} {c : Code} {s : SC} (hs : SR N0 W0 n st a w fm ts) (h : AK P n Φ [.sc s] st) (he : s.bare = erase n c) (hf : (erase n c).fits n = true)
  (hΦ : ∀ e st' a' w' fm' ts', Φ e st' → SR N0 W0 n st' a' w' fm' ts' → Later N0 fm ts fm' ts' → Q e a' w') : K P Q [.code c] .normal a w :=
 h N0 W0 fm ts a w [.code c] Q hs (.sc he hf .nil) hΦ
end
theorem K_md (m m' : Md) (h : m.rnd = m'.rnd) {P : Program} {Q : Exit → Act → World → Prop} : ∀ t : List CIt, @K m P Q t = @K m' P Q t
 | [] => by funext e a w; simp only [K]
 | it :: t => by
  have hF : @FW m = @FW m' := by unfold FW; rw [h]
  have ih := K_md m m' h (P := P) (Q := Q) t
  funext e a w
  cases it <;> simp only [K, ih, hF]
theorem SR.deep [Md] {N0 : Nat} {W0 : World} {n : Nat} {tm tm' : List (Nat × AV)} {fr : Fra} {low : Heap} {nx nt : Nat} {a : Act} {w : World} {fm : FM} {ts : List Tie} (h : SR N0 W0 n ⟨tm, fr, low, nx, nt⟩ a w fm ts) (ht : ∀ t x, look tm' t = some x → ∃ y, look tm t = some y ∧ x = y.sh 1) :
  SR N0 W0 n ⟨tm', [], fr :: low, 0, nt⟩ a w fm (noTie :: ts) :=
 ⟨h.hr.push, fun t x hx => by
  obtain ⟨y, hy, rfl⟩ := ht t x hx
  obtain ⟨v, h1, h2⟩ := h.tm t y hy
  exact ⟨v, h1, h2.sh 1 (by simp)⟩, fun _ _ => rfl, h.size, h.dfr⟩
theorem SR.dfs (m m' : Md) {N0 : Nat} {W0 : World} {n : Nat} {st : St} {a : Act} {w : World} {fm : FM} {ts : List Tie} (h : @SR m N0 W0 n st a w fm ts) {a' : Act} (ht : a'.tmps = a.tmps) (hd : a'.defers = m'.dfs) : @SR m' N0 W0 n st a' w fm ts := by
 obtain ⟨h1, h2, h3, h4, h5⟩ := h
 refine @SR.mk m' _ _ _ _ _ _ _ _ h1 (fun t x hx => ?_) h3 (by rw [ht]; exact h4) hd
 obtain ⟨v, h6, h7⟩ := h2 t x hx
 exact ⟨v, by rw [ht]; exact h6, h7⟩
theorem opwp_defer [Md] {P : Program} {o : Oper} {a : Act} {w w' : World} {next : Act → World → Prop} {Q : Exit → Act → World → Prop} {d : Deferred} (hr : (execOp a.eval o).run P w = .ok (.defer d) w') (hm : Md.rnd = none) (h : next ({ a with defers := d :: a.defers }.put o.dst undef) w') : o.wpIn FW 0 P a w next Q := by
 refine ⟨fun _ _ => trivial, ?_⟩
 show Oper.uponIn FW 0 P o a next Q (Sem.run P (Oper.semAt Md.rnd a.eval o) w)
 rw [hm, Oper.semAt_none, hr]
 exact h
end Go.Abs
namespace Go.Abs
open Go Go.RowKit
set_option linter.unusedSectionVars false
section
variable [Md] {P : Program} {T : Tys} {N0 : Nat} {W0 : World} {n : Nat} {fm : FM} {ts : List Tie} {st : St} {a : Act} {w : World} {Q : Exit → Act → World → Prop}
theorem K_append : ∀ (s t : List CIt) (e : Exit) (a : Act) (w : World), K P Q (s ++ t) e a w = K P (fun e a w => K P Q t e a w) s e a w
 | [], t, e, a, w => rfl
 | .code c :: s, t, e, a, w => by
  have ih : K P Q (s ++ t) = K P (fun e a w => K P Q t e a w) s := by funext e a w; exact K_append s t e a w
  cases e <;> simp only [List.cons_append, K, ih]
 | .blk id :: s, t, e, a, w => by
  have ih : K P Q (s ++ t) = K P (fun e a w => K P Q t e a w) s := by funext e a w; exact K_append s t e a w
  cases e <;> simp only [List.cons_append, K, ih]
 | .scp :: s, t, e, a, w => by
  have ih : K P Q (s ++ t) = K P (fun e a w => K P Q t e a w) s := by funext e a w; exact K_append s t e a w
  cases e <;> simp only [List.cons_append, K, ih]
 | .ops arr l :: s, t, e, a, w => by
  have ih : K P Q (s ++ t) = K P (fun e a w => K P Q t e a w) s := by funext e a w; exact K_append s t e a w
  cases e <;> simp only [List.cons_append, K, ih]
 | .back R :: s, t, e, a, w => by
  have ih : K P Q (s ++ t) = K P (fun e a w => K P Q t e a w) s := by funext e a w; exact K_append s t e a w
  cases e <;> simp only [List.cons_append, K, ih]
theorem opsIn_app {arr : Array Oper} {t : List CIt} : ∀ is js : List Nat, wpOpsIn FW 0 P arr (K P Q (.ops arr js :: t)) is = wpOpsIn FW 0 P arr (K P Q t) (is ++ js)
 | [], js => by funext a w; rfl
 | i :: is, js => by
  have ih := opsIn_app (arr := arr) (t := t) is js
  funext a w
  simp only [List.cons_append, wpOpsIn]
  cases arr[i]? with
  | none => simp only [ih]
  | some o =>
   simp only [ih]
   rfl
theorem K_ops_app {arr : Array Oper} {t : List CIt} {is js : List Nat} (h : K P Q (.ops arr is :: .ops arr js :: t) .normal a w) : K P Q (.ops arr (is ++ js) :: t) .normal a w := by
 have e := opsIn_app (P := P) (Q := Q) (arr := arr) (t := t) is js
 show wpOpsIn FW 0 P arr (K P Q t) (is ++ js) a w
 rw [← e]
 exact h
theorem K_under {c : Code} {t t' : List CIt} (h : ∀ e a w, K P Q t e a w → K P Q t' e a w) : ∀ e a w, K P Q (.code c :: t) e a w → K P Q (.code c :: t') e a w := by
 intro e a w hk
 cases e <;> first | exact h _ _ _ hk | exact wpIn_mono hk (fun e a w => h e a w)
theorem K_seqs {x y : Code} {t : List CIt} : ∀ e a w, K P Q (.code x :: .code y :: t) e a w → K P Q (.code (.seq x y) :: t) e a w := by
 intro e a w hk
 cases e <;> first | exact hk | exact K_seq hk
theorem K_regs {id : Nat} {ops : Array Oper} {t : List CIt} : ∀ e a w, K P Q (.ops ops (List.range ops.size) :: t) e a w → K P Q (.code (.region id ops false) :: t) e a w := by
 intro e a w hk
 cases e <;> first | exact hk | exact K_region hk
theorem K_opss {arr : Array Oper} {is js : List Nat} {t : List CIt} : ∀ e a w, K P Q (.ops arr is :: .ops arr js :: t) e a w → K P Q (.ops arr (is ++ js) :: t) e a w := by
 intro e a w hk
 cases e <;> first | exact hk | exact K_ops_app hk
theorem opwp_round {o : Oper} {w' : World} {next : Act → World → Prop} {l fn : Nat} {tmps : Array Value} {assign body : Code} (hd : ∀ c, o.op ≠ .defer c) (hr : (execOp a.eval o).run P w = .ok (.round l fn tmps assign body) w')
  (h : RoundIn FW 0 P l fn tmps assign body w' fun
   | .returned v, w'' => next (a.put o.dst v) w''
   | .panicked chain, w'' => Q (.panic chain) a w''
   | .outgrown, _ => LetsOut Q) : o.wpIn FW 0 P a w next Q := by
 refine ⟨fun _ _ => trivial, ?_⟩
 rw [Oper.semAt_eq _ _ _ hd, hr]
 exact ⟨fun h => by simp [FW] at h, h⟩
theorem AK.segs {Φ : Exit → St → Prop} {B : St → Prop} {todo : List It} {cs t : List CIt} (hs : SR N0 W0 n st a w fm ts) (h : AK P n Φ (todo ++ [.back B]) st)
  (hsim : ∀ R : Act → World → Prop, (∀ st' a' w' fm' ts', B st' → SR N0 W0 n st' a' w' fm' ts' → Later N0 fm ts fm' ts' → R a' w') → Sim N0 W0 n fm ts (todo ++ [.back B]) (cs ++ [.back R]))
  (hB : ∀ st' a' w' fm' ts', B st' → SR N0 W0 n st' a' w' fm' ts' → Later N0 fm ts fm' ts' → K P Q t .normal a' w')
  (hΦ : ∀ e st' a' w' fm' ts', Φ e st' → SR N0 W0 n st' a' w' fm' ts' → Later N0 fm ts fm' ts' → K P Q t e a' w') : K P Q (cs ++ t) .normal a w := by
 have h1 := h N0 W0 fm ts a w (cs ++ [.back (fun a' w' => K P Q t .normal a' w')]) (fun e a' w' => K P Q t e a' w') hs (hsim _ hB) hΦ
 rw [K_append] at h1 ⊢
 have e : (fun e a w => K P (fun e a' w' => K P Q t e a' w') [.back (fun a' w' => K P Q t .normal a' w')] e a w) = fun e a w => K P Q t e a w := by
  funext e a w
  cases e <;> rfl
 rw [e] at h1
 exact h1
end
section
variable {N0 : Nat} {W0 W1 : World} {fm : FM} {ts : List Tie} {H : Heap} {w w' : World}
theorem HR.rebase (h : HR N0 W0 fm ts H w) : HR N0 w fm ts H w := { h with bel := Below.refl N0 w, oth := fun _ _ a _ => a }
theorem HR.other (h : HR N0 W0 fm ts H w) {l : Nat} {o o' : Obj} (hl : w.heap[l]? = some o) (ho : othO o = true) (hN : N0 ≤ l) : HR N0 (w.putObj l o') fm ts H (w.putObj l o') := by
 have hlt := (Array.getElem?_eq_some_iff.1 hl).1
 have oth : ∀ i, i ≠ l → (w.putObj l o').heap[i]? = w.heap[i]? := fun i hi => World.putObj_heap_other (by omega)
 refine ⟨h.len, fun l' k b hg => (h.blk l' k b hg).mono (fun _ _ _ a => a) (TsLe.refl _) (fun c hc => oth c ?_), h.inj, fun b q v hv => ?_, h.fmd, Below.refl _ _, ?_, fun _ _ a _ => a⟩
 ·rintro rfl
  have hb := h.blk l' k b hg
  generalize tb ts l' k = tt at hb hc
  cases hb with
  | box c' cs hN hb =>
   obtain ⟨cells, et, h1, _⟩ := hb
   simp only [tbc, Option.some.injEq] at hc
   subst hc
   rw [h1] at hl
   cases hl
   cases ho
  | nil et esz => simp [tbc] at hc
  | arr et esz es c' cap hN hb =>
   obtain ⟨cells, h1, _⟩ := hb
   simp only [tbc, Option.some.injEq] at hc
   subst hc
   rw [h1] at hl
   cases hl
   cases ho
 ·have h1 := h.fms _ _ _ hv
  refine (World.cell?_of_block (w := w) (w' := w.putObj l o') (a := ⟨b, q, none⟩) (oth b ?_)).trans h1
  rintro rfl
  simp only [World.cell?, hl] at h1
  cases o <;> first | (cases ho; done) | (cases h1; done)
 ·have := h.size
  show N0 ≤ (w.putObj l o').heap.size
  simpa [World.putObj] using this
theorem HR.alloc (h : HR N0 W0 fm ts H w) (o : Obj) : HR N0 W0 fm ts H (w.alloc o) :=
 h.world (fun i hi => Below.heap_alloc w o i hi) ((Below.refl N0 w).alloc h.size o)
end
theorem fin_ok [Md] {P : Program} {T : Tys} (hT : TysOK P T) {N0 : Nat} {W0 : World} {fm : FM} {ts : List Tie} {st : St} {a : Act} {w : World} {n : Nat} {fn : Func} {v : AV} (hS : SR N0 W0 n st a w fm ts)
  (hE : PEnds T fn.results.toList (fun y => NL y v) .ret st) : ∃ u fm', (results fn a.tmps).run P w = .ok u w ∧ VR fm' [] v u ∧ FmIn fm' w ∧ FmUp N0 fm fm' := by
 obtain ⟨hl, xs, y, h1, h2, h3⟩ := hE
 obtain ⟨u, h4, h5⟩ := results_ok (P := P) hT hS h1
 have h6 := hS.hr.frz (tupOf xs).refs h5 h2 (fun _ h => h)
 have h7 := hS.hr.letGo (tupOf xs).refs
 exact ⟨u, _, h4, h3.ok h6, h7.fms, hS.hr.fmUp _⟩
end Go.Abs
namespace Go.Abs
open Go Go.RowKit
end Go.Abs
namespace Go.Abs
open Go
theorem w64_of {n : Int} (h1 : -9223372036854775808 ≤ n) (h2 : n ≤ 9223372036854775807) : w64 n = n := by
 simp only [w64, IntKind.wrap, IntKind.bits, IntKind.signed]
 simp
 omega
theorem at_of {α : Type} {l : List α} {i : Nat} {x : α} (h : l[i]? = some x) : at? l (i : Int) = some x := by
 have : i < l.length := (List.getElem?_eq_some_iff.1 h).1
 unfold at?
 rw [if_pos ⟨by omega, by omega⟩]
 simpa using h
theorem whl_each {α R : Type} {l : List α} {body : Int → Option (Stp Int Unit R)} {f : α → Option R} (hn : l.length ≤ 9223372036854775807) {k : Nat} (hk : l.length < k)
  (h1 : ∀ (i : Nat) x, l[i]? = some x → body (i : Int) = some (match f x with | some r => .ret r | none => .next (w64 ((i : Int) + 1)))) (h2 : body (l.length : Int) = some (.brk ())) :
  whl body k 0 = some (match l.findSome? f with | some r => .ret r | none => .brk ()) := by
 have key : ∀ (m : List α) (i k : Nat), l.drop i = m → i + m.length = l.length → m.length < k → whl body k (i : Int) = some (match m.findSome? f with | some r => .ret r | none => .brk ()) := by
  intro m
  induction m with
  | nil =>
   intro i k _ h3 h4
   cases k with
   | zero => omega
   | succ k =>
    have : i = l.length := by simpa using h3
    subst this
    rw [whl, h2]; rfl
  | cons x m ih =>
   intro i k h5 h3 h4
   cases k with
   | zero => omega
   | succ k =>
    simp only [List.length_cons] at h3 h4
    have hx : l[i]? = some x := by
     have := congrArg (fun q => q[0]?) h5
     simpa using this
    rw [whl, h1 i x hx]
    cases hf : f x with
    | some r => simp only [List.findSome?_cons, hf]
    | none =>
     simp only [List.findSome?_cons, hf]
     have : w64 ((i : Int) + 1) = ((i + 1 : Nat) : Int) := by rw [w64_of (by omega) (by omega)]; omega
     rw [this]
     exact ih (i + 1) k (by rw [← List.drop_drop, h5]; rfl) (by omega) (by omega)
 exact key l 0 k rfl (by simp) hk
end Go.Abs
namespace Go.Abs
open Go
theorem whl_fold {α S R τ : Type} {l : List α} {body : τ → Option (Stp τ S R)} (mk : Int → S → τ) (f : S → α → S) (Inv : Nat → S → Prop) (hn : l.length ≤ 9223372036854775807) {k : Nat} (hk : l.length < k) {s0 : S} (h0 : Inv 0 s0)
  (h1 : ∀ (i : Nat) x s, l[i]? = some x → Inv i s → body (mk (i : Int) s) = some (.next (mk (w64 ((i : Int) + 1)) (f s x))) ∧ Inv (i + 1) (f s x)) (h2 : ∀ s, Inv l.length s → body (mk (l.length : Int) s) = some (.brk s)) :
  whl body k (mk 0 s0) = some (.brk (l.foldl f s0)) ∧ Inv l.length (l.foldl f s0) := by
 have key : ∀ (m : List α) (i k : Nat) (s : S), l.drop i = m → i + m.length = l.length → m.length < k → Inv i s → whl body k (mk (i : Int) s) = some (.brk (m.foldl f s)) ∧ Inv l.length (m.foldl f s) := by
  intro m
  induction m with
  | nil =>
   intro i k s _ h3 h4 hI
   cases k with
   | zero => omega
   | succ k =>
    have : i = l.length := by simpa using h3
    subst this
    exact ⟨by rw [whl, h2 s hI]; rfl, hI⟩
  | cons x m ih =>
   intro i k s h5 h3 h4 hI
   cases k with
   | zero => omega
   | succ k =>
    simp only [List.length_cons] at h3 h4
    have hx : l[i]? = some x := by
     have := congrArg (fun q => q[0]?) h5
     simpa using this
    obtain ⟨h6, h7⟩ := h1 i x s hx hI
    have : w64 ((i : Int) + 1) = ((i + 1 : Nat) : Int) := by rw [w64_of (by omega) (by omega)]; omega
    rw [this] at h6
    rw [whl, h6]
    exact ih (i + 1) k (f s x) (by rw [← List.drop_drop, h5]; rfl) (by omega) (by omega) h7
 exact key l 0 k s0 rfl (by simp) hk h0
theorem push_of {α : Type} {b : Nat} {l : List α} {x : α} (h : (l.length + 1) * b ≤ 140737488355328) (h2 : l.length + 1 < 4611686018427387904) : push? b l x = some (l ++ [x]) := by
 unfold push? app?
 rw [if_pos ⟨by simpa using h, by simpa using h2⟩]
end Go.Abs
