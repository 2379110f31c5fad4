/-
  Part 3 of the proof: a machine over named blocks, what each function computes, and what follows. No condition.
-/
import Derived.Shelf.Sort.Plain
import Derived.Shelf.Slices.In.SortNone
import Derived.ReadAgain
import Derived.ChangeSame
import Derived.SizedLaws
import Derived.OpenShut
import Derived.ProofKit
import Derived.Test.YtafmgcbfmifaeaaHTrueB
set_option linter.unusedVariables false
set_option linter.unusedSimpArgs false
set_option linter.all false
namespace Go.Abs
open Go Go.RowKit
theorem PCall.nl {P : Program} {f : FuncId} {zs args : List AV} {R : AV → Prop} (h : PCall P f args R) (hn : NLs zs args) : PCall P f zs R :=
 ⟨h.1, fun fm w vs h1 h2 => h.2 fm w vs h1 (hn.ok h2)⟩
inductive EvD where
 | stuck
 | call (f : FuncId) (args : List AV) (o : SOp) (os : List SOp) (acc : List (De × Rd)) (st : St)
 | done (acc : List (De × Rd)) (st : St)
def pastD : De × Rd := (⟨.tup [], []⟩, some [])
def twoD (f : List SOp → List (De × Rd) → St → EvD) (b : Bool) (os : List SOp) (acc : List (De × Rd)) (st : St) (os' : List SOp) (acc' : List (De × Rd)) (st' : St) : EvD :=
 match b with
 | true => f os acc st
 | false => f os' acc' st'
theorem twoD_true (f : List SOp → List (De × Rd) → St → EvD) (os os' : List SOp) (acc acc' : List (De × Rd)) (st st' : St) : twoD f true os acc st os' acc' st' = f os acc st := rfl
theorem twoD_false (f : List SOp → List (De × Rd) → St → EvD) (os os' : List SOp) (acc acc' : List (De × Rd)) (st st' : St) : twoD f false os acc st os' acc' st' = f os' acc' st' := rfl
def nextD (f : List SOp → List (De × Rd) → St → EvD) (o : SOp) (os : List SOp) (acc : List (De × Rd)) (st : St) : Option De → EvD
 | some d => f os ((d, rdOf (look st.tm) o.op) :: acc) (st.by o.dst [] d)
 | none => .stuck
theorem nextD_some (f : List SOp → List (De × Rd) → St → EvD) (o : SOp) (os : List SOp) (acc : List (De × Rd)) (st : St) (d : De) : nextD f o os acc st (some d) = f os ((d, rdOf (look st.tm) o.op) :: acc) (st.by o.dst [] d) := rfl
def callD (o : SOp) (os : List SOp) (acc : List (De × Rd)) (st : St) : Option (FuncId × List AV) → EvD
 | some (f, args) => .call f args o os acc st
 | none => .stuck
theorem callD_some (o : SOp) (os : List SOp) (acc : List (De × Rd)) (st : St) (f : FuncId) (args : List AV) : callD o os acc st (some (f, args)) = .call f args o os acc st := rfl
def doD (T : Tys) (f : List SOp → List (De × Rd) → St → EvD) (o : SOp) (os : List SOp) (acc : List (De × Rd)) (st : St) : EvD :=
 match isCall o.op with
 | some c => callD o os acc st (callee (look st.tm) c)
 | none => nextD f o os acc st (opDe T st.nx o.op o.type (look st.tm) st.get)
def runD (T : Tys) : Nat → List SOp → List (De × Rd) → St → EvD
 | 0, _, _, _ => .stuck
 | _ + 1, [], acc, st => .done acc st
 | n + 1, o :: os, acc, st => match o.guard with
  | none => doD T (runD T n) o os acc st
  | some (g, w) => match look st.tm g with
   | some (.bool b) => twoD (runD T n) (b == w) (⟨o.dst, o.op, o.type, none, o.drop⟩ :: os) acc st os (pastD :: acc) (st.by o.dst [] ⟨.tup [], []⟩)
   | some (.tup []) => runD T n os (pastD :: acc) (st.by o.dst [] ⟨.tup [], []⟩)
   | _ => .stuck
section
variable {P : Program} {T : Tys} {n : Nat} {Φ : Exit → St → Prop} {C : List (De × Rd) → St → Prop}
def GD (P : Program) (T : Tys) (C : List (De × Rd) → St → Prop) (os : List SOp) (acc : List (De × Rd)) (st : St) : Prop :=
 ∃ ds, Steps P T st os ds ∧ C (ds.reverse ++ acc) (seqAt st os (ds.map (·.1)) os.length)
def DG (P : Program) (T : Tys) (C : List (De × Rd) → St → Prop) : EvD → Prop
 | .stuck => False
 | .done acc st => C acc st
 | .call f args o os acc st => (∃ rs gs args0 fr0 fr y, GCall P f args0 fr0 (fun y' fr' => y' = y ∧ fr' = fr) ∧ gvL gs (only (pushG (only st.get ((gs ++ rs).map fun k => (0, k)))) (rs.map fun k => (1, k))) (boxF (only (pushG (only st.get ((gs ++ rs).map fun k => (0, k)))) (rs.map fun k => (1, k))) 5) (AV.shL 1 args) = some args0 ∧
    giveG (only st.get ((gs ++ rs).map fun k => (0, k))) 0 gs = some fr0 ∧ (decide (gs ++ rs).Nodup && decide (gs.length ≤ 16)) = true ∧ GD P T C os ((⟨y.imp st.nx, kill0 rs ++ (kill0 gs ++ impS st.nx fr)⟩, some ((gs ++ rs).map fun k => (0, k))) :: acc) (st.by o.dst [] ⟨y.imp st.nx, kill0 rs ++ (kill0 gs ++ impS st.nx fr)⟩)) ∨ ∃ v fargs fl, PCall P f fargs (fun y => y = v) ∧ ((AV.frzL st.get args = some fargs ∧ (AV.refsL args = [] ∨ v.scal = true) ∧ fl = some (AV.refsL args)) ∨ (fl = none ∧ v.scal = true ∧ ∃ m, AV.brL st.get (boxF st.get m) args = some fargs)) ∧
   GD P T C os ((⟨v, []⟩, fl) :: acc) (st.by o.dst [] ⟨v, []⟩)
theorem GD.cons {o : SOp} {os : List SOp} {acc : List (De × Rd)} {st : St} {d : De × Rd} (h : EffF P T st.nx o (look st.tm) st.get d) (hg : GD P T C os (d :: acc) (st.by o.dst [] d.1)) : GD P T C (o :: os) acc st := by
 obtain ⟨ds, h1, h2⟩ := hg
 exact ⟨d :: ds, .cons st o os d ds h h1, by simpa [seqAt] using h2⟩
theorem runD_sound : ∀ (m : Nat) (os : List SOp) (acc : List (De × Rd)) (st : St), DG P T C (runD T m os acc st) → GD P T C os acc st := by
 intro m
 induction m with
 | zero => intro os acc st h; exact h.elim
 | succ m ih =>
  intro os acc st h
  cases os with
  | nil => exact ⟨[], .nil st, by simp only [runD, DG] at h; simpa [seqAt_zero] using h⟩
  | cons o os =>
   have past : (stays o (look st.tm)) → DG P T C (runD T m os (pastD :: acc) (st.by o.dst [] ⟨.tup [], []⟩)) → GD P T C (o :: os) acc st := by
    intro hs h
    exact GD.cons (d := pastD) (by simp only [EffF, pastD]; exact .inr ⟨hs, rfl⟩) (ih _ _ _ h)
   cases hg : o.guard with
   | none =>
    simp only [runD, hg, doD] at h
    cases hc : isCall o.op with
    | none =>
     rw [hc] at h
     simp only at h
     cases hd : opDe T st.nx o.op o.type (look st.tm) st.get with
     | none => rw [hd] at h; exact h.elim
     | some d =>
      rw [hd] at h
      simp only [nextD] at h
      refine GD.cons (d := (d, rdOf (look st.tm) o.op)) ?_ (ih _ _ _ h)
      unfold EffF
      simp only
      cases hr : rdOf (look st.tm) o.op with
      | none => exact .inl ⟨.inl hg, .op hc hd⟩
      | some ks => exact .inl ⟨.inl hg, .op hc (rdOf_ok hd hr)⟩
    | some c =>
     rw [hc] at h
     simp only at h
     cases hcal : callee (look st.tm) c with
     | none => rw [hcal] at h; exact h.elim
     | some fa =>
      obtain ⟨f, args⟩ := fa
      rw [hcal] at h
      simp only [callD, DG] at h
      rcases h with ⟨rs, gs, args0, fr0, fr, y, h1, h2, h3, h5, h4⟩ | h
      ·refine GD.cons (d := (⟨y.imp st.nx, kill0 rs ++ (kill0 gs ++ impS st.nx fr)⟩, some ((gs ++ rs).map fun k => (0, k)))) ?_ h4
       unfold EffF
       exact .inl ⟨.inl hg, .give rs gs c f args args0 fr0 fr y hc hcal h1 h2 h3 h5 rfl⟩
      obtain ⟨v, fargs, fl, h1, hor, h4⟩ := h
      refine GD.cons (d := (⟨v, []⟩, fl)) ?_ h4
      unfold EffF
      rcases hor with ⟨h2, h3, rfl⟩ | ⟨rfl, h3, m, h2⟩
      ·exact .inl ⟨.inl hg, .call c f args fargs hc hcal h1 (frzL_only _ _ h2 (fun _ h => h)) h3 rfl⟩
      ·exact .inl ⟨.inl hg, .lent m c f args fargs hc hcal h1 h2 h3 rfl⟩
   | some gw =>
    obtain ⟨g, w⟩ := gw
    simp only [runD, hg] at h
    split at h
    ·rename_i b hb
     cases hbw : b == w with
     | true =>
      rw [hbw] at h
      simp only [twoD] at h
      obtain ⟨ds, h1, h2⟩ := ih _ _ _ h
      cases h1 with
      | cons _ _ _ d ds hE hs =>
       refine ⟨d :: ds, .cons st o os d ds ?_ hs, by simpa [seqAt] using h2⟩
       have hgo : goes o (look st.tm) := .inr ⟨g, w, b, hg, hb, hbw⟩
       unfold EffF at hE ⊢
       have conv : ∀ G, EffG P T st.nx ⟨o.dst, o.op, o.type, none, o.drop⟩ (look st.tm) G d.1 → EffG P T st.nx o (look st.tm) G d.1 := by
        rintro G (⟨_, he⟩ | ⟨⟨g', w', hh, _⟩, _⟩)
        ·refine .inl ⟨hgo, ?_⟩
         cases he with
         | op hc h => exact .op hc h
         | call c f args fargs hc h hp hz hr hs => exact .call c f args fargs hc h hp hz hr hs
         | lent m c f args fargs hc h hp hz hr hs => exact .lent m c f args fargs hc h hp hz hr hs
         | give rs gs c f args args0 fr0 fr y hc h hp hz hg hnd hd => exact .give rs gs c f args args0 fr0 fr y hc h hp hz hg hnd hd
        ·cases hh
       exact conv _ hE
     | false =>
      rw [hbw] at h
      simp only [twoD] at h
      exact past ⟨g, w, hg, .inl ⟨b, hb, hbw⟩⟩ h
    ·rename_i hb
     exact past ⟨g, w, hg, .inr hb⟩ h
    ·exact h.elim
theorem DG_call {f : FuncId} {args fargs zargs : List AV} {v : AV} {o : SOp} {os : List SOp} {acc : List (De × Rd)} {st : St} (m : Nat) (hp : PCall P f fargs (fun y => y = v)) (hz : AV.frzL st.get args = some zargs) (hn : NLs zargs fargs)
  (hr : AV.refsL args = [] ∨ v.scal = true) (h : DG P T C (runD T m os ((⟨v, []⟩, some (AV.refsL args)) :: acc) (st.by o.dst [] ⟨v, []⟩))) : DG P T C (.call f args o os acc st) :=
 .inr ⟨v, zargs, _, hp.nl hn, .inl ⟨hz, hr, rfl⟩, runD_sound m _ _ _ h⟩
theorem DG_give {f : FuncId} {args args0 : List AV} {fr0 fr : Fra} {y : AV} {o : SOp} {os : List SOp} {acc : List (De × Rd)} {st : St} (m : Nat) (rs gs : List Nat) (hp : GCall P f args0 fr0 (fun y' fr' => y' = y ∧ fr' = fr))
  (hz : gvL gs (only (pushG (only st.get ((gs ++ rs).map fun k => (0, k)))) (rs.map fun k => (1, k))) (boxF (only (pushG (only st.get ((gs ++ rs).map fun k => (0, k)))) (rs.map fun k => (1, k))) 5) (AV.shL 1 args) = some args0 ∧ giveG (only st.get ((gs ++ rs).map fun k => (0, k))) 0 gs = some fr0) (hnd : (decide (gs ++ rs).Nodup && decide (gs.length ≤ 16)) = true)
  (h : DG P T C (runD T m os ((⟨y.imp st.nx, kill0 rs ++ (kill0 gs ++ impS st.nx fr)⟩, some ((gs ++ rs).map fun k => (0, k))) :: acc) (st.by o.dst [] ⟨y.imp st.nx, kill0 rs ++ (kill0 gs ++ impS st.nx fr)⟩))) : DG P T C (.call f args o os acc st) :=
 .inl ⟨rs, gs, args0, fr0, fr, y, hp, hz.1, hz.2, hnd, runD_sound m _ _ _ h⟩
theorem DG_done {acc : List (De × Rd)} {st : St} (h : C acc st) : DG P T C (.done acc st) := h
def skel (ds : List (De × Rd)) : List (List (Nat × Nat) × Rd) := ds.map fun d => (d.1.sets.map fun p => (p.1, p.2.1), d.2)
def bones (sk : List (List (Nat × Nat) × Rd)) : List (De × Rd) := sk.map fun d => (⟨.tup [], d.1.map fun p => (p.1, p.2, none)⟩, d.2)
theorem keysApart_bones (s t s' t' : Sets) (hs : s.map (fun p => (p.1, p.2.1)) = s'.map (fun p => (p.1, p.2.1))) (ht : t.map (fun p => (p.1, p.2.1)) = t'.map (fun p => (p.1, p.2.1))) : keysApart s t = keysApart s' t' := by
 have key : ∀ s t : Sets, keysApart s t = ((s.map fun p => (p.1, p.2.1)).all fun p => (t.map fun p => (p.1, p.2.1)).all fun q => !(p.1 == q.1 && p.2 == q.2)) := by
  intro s t
  unfold keysApart
  simp [List.all_map, Function.comp_def]
 rw [key, key, hs, ht]
theorem farFrom_bones (r : Rd) (s s' : Sets) (hs : s.map (fun p => (p.1, p.2.1)) = s'.map (fun p => (p.1, p.2.1))) : farFrom r s = farFrom r s' := by
 have key : ∀ s : Sets, farFrom r s = (match r with
   | none => (s.map fun p => (p.1, p.2.1)).isEmpty
   | some ks => (s.map fun p => (p.1, p.2.1)).all fun p => !ks.contains p) := by
  intro s
  cases r with
  | none => cases s <;> rfl
  | some ks => simp [farFrom, List.all_map, Function.comp_def]
 rw [key, key, hs]
theorem calm_bones (ops : List SOp) (befs : List (List Nat)) (ds : List (De × Rd)) : calm ops befs ds = calm ops befs (bones (skel ds)) := by
 have hget : ∀ i : Nat, (bones (skel ds))[i]? = (ds[i]?).map fun d => ((⟨.tup [], d.1.sets.map fun p => (p.1, p.2.1, none)⟩ : De), d.2) := by
  intro i
  simp [bones, skel, List.getElem?_map, Function.comp_def]
 have hk : ∀ i : Nat, (setsOf (ds.map (·.1)) i).map (fun p => (p.1, p.2.1)) = (setsOf ((bones (skel ds)).map (·.1)) i).map (fun p => (p.1, p.2.1)) := by
  intro i
  unfold setsOf
  rw [List.getElem?_map, List.getElem?_map, hget]
  cases ds[i]? with
  | none => rfl
  | some d => simp [Function.comp_def]
 have h1 : (bones (skel ds)).length = ds.length := by simp [bones, skel]
 have h2 : apartAll befs ((bones (skel ds)).map (·.1)) ops.length = apartAll befs (ds.map (·.1)) ops.length := by
  unfold apartAll
  congr 1; funext j; congr 1; funext i
  rw [keysApart_bones _ _ _ _ (hk i).symm (hk j).symm]
 unfold calm
 rw [h1, h2]
 congr 1
 congr 1; funext i
 rw [hget]
 cases ops[i]? with
 | none => rfl
 | some o =>
  cases ds[i]? with
  | none => rfl
  | some d =>
   simp only [Option.map_some]
   congr 1
   congr 1; funext j
   rw [hget]
   cases ds[j]? with
   | none => rfl
   | some x =>
    simp only [Option.map_some, Option.getD_some]
    rw [farFrom_bones d.2 x.1.sets (x.1.sets.map fun p => (p.1, p.2.1, none)) (by simp [Function.comp_def])]
theorem calm_of {ops : List SOp} {befs : List (List Nat)} {ds : List (De × Rd)} {sk : List (List (Nat × Nat) × Rd)} (h1 : skel ds = sk) (h2 : calm ops befs (bones sk) = true) : calm ops befs ds = true := by
 rw [calm_bones, h1]; exact h2
theorem AKev_region (hT : TysOK P T) (hm : P.follows .mixedOrders = true) {ops : List SOp} {befs : List (List Nat)} {drop : List Nat} {todo : List It} {st : St} (m : Nat)
  (h : DG P T (fun acc st' => calm ops befs acc.reverse = true ∧ AK P n Φ todo { st' with tm := dels st'.tm drop }) (runD T m ops [] st)) : AKev P n Φ (.draw ops befs drop todo st) := by
 obtain ⟨ds, h1, h2, h3⟩ := runD_sound m _ _ _ h
 simp only [List.append_nil, List.reverse_reverse] at h2
 exact AKev_calm hT hm ds h1 h2 h3
theorem AKev_pcall (hT : TysOK P T) {f : FuncId} {args fargs zargs : List AV} {v : AV} {dst : Option Tmp} {drop : List Nat} {todo : List It} {st : St} (m : Nat) (hp : PCall P f fargs (fun y => y = v)) (hz : AV.frzL (Heap.get ([] :: st.fr :: st.low)) args = some zargs) (hn : NLs zargs fargs)
  (hr : AV.refsL args = [] ∨ v.scal = true) (h : AKev P n Φ (run T m todo (st.took dst drop v [] (st.fr :: st.low)))) : AKev P n Φ (.call f args dst drop todo st) := by
 have hk := run_sound hT m todo _ h
 rcases hr with hr | hr
 ·exact AKev_frozen (hp.nl hn) hz hr (by rintro y rfl; exact hk)
 ·exact AKev_borrow (hp.nl hn) hz (by rintro y rfl; exact hr) (by rintro y rfl; exact hk)
theorem AKev_lent (hT : TysOK P T) {f : FuncId} {args fargs zargs : List AV} {v : AV} {dst : Option Tmp} {drop : List Nat} {todo : List It} {st : St} (m : Nat) (hp : PCall P f fargs (fun y => y = v)) (hz : AV.brL (Heap.get ([] :: st.fr :: st.low)) (boxF (Heap.get ([] :: st.fr :: st.low)) 5) args = some zargs) (hn : NLs zargs fargs)
  (hr : v.scal = true) (h : AKev P n Φ (run T m todo (st.took dst drop v [] (st.fr :: st.low)))) : AKev P n Φ (.call f args dst drop todo st) := by
 have hk := run_sound hT m todo _ h
 exact ⟨_, PCall.lent 5 (hp.nl hn) hz (by rintro y rfl; exact hr), by rintro v fr H ⟨rfl, rfl, rfl⟩; exact hk⟩
def zOK (o : Option (List AV)) (fargs : List AV) : Prop := match o with
 | some z => NLs z fargs
 | none => False
theorem zOK_some (z fargs : List AV) : zOK (some z) fargs = NLs z fargs := rfl
def yOK (o : Option AV) (v : AV) : Prop := match o with
 | some y => NL y v
 | none => False
theorem yOK_some (y v : AV) : yOK (some y) v = NL y v := rfl
theorem AKev_take (hT : TysOK P T) {f : FuncId} {args fargs : List AV} {v : AV} {dst : Option Tmp} {drop : List Nat} {todo : List It} {st : St} (m : Nat) (rs : List Nat) (hp : PCall P f fargs (fun y => y = v)) (hz : zOK (AV.brL (only (Heap.get ([] :: st.fr :: st.low)) (rs.map fun k => (1, k))) (boxF (only (Heap.get ([] :: st.fr :: st.low)) (rs.map fun k => (1, k))) 5) args) fargs)
  (h : AKev P n Φ (run T m todo (st.took dst drop v [] (dels st.fr rs :: st.low)))) : AKev P n Φ (.call f args dst drop todo st) := by
 unfold zOK at hz
 split at hz
 ·rename_i z hz'
  have hk := run_sound hT m todo _ h
  refine ⟨_, PCall.take 5 _ (hp.nl hz) hz' (by simp), ?_⟩
  rintro y fr H ⟨rfl, rfl, e⟩
  rw [kills_own] at e
  obtain rfl := (List.cons.inj e).2
  exact hk
 ·exact hz.elim
theorem PCall.nlr {f : FuncId} {args : List AV} {v : AV} (h : PCall P f args (fun y => NL y v)) : PCall P f args (fun y => y = v) := by
 refine ⟨h.1, fun fm w vs h1 h2 => Calls.mono (h.2 fm w vs h1 h2) ?_⟩
 rintro e w' ⟨u, y, fm', h3, h4, h5, h6, h7⟩
 exact ⟨u, v, fm', h3, rfl, h5, h4.ok h6, h7⟩
theorem AKev_bif {f : List It → St → Ev} {b : Bool} {t t' : List It} {s s' : St} {ρ : Type} {A B : Option ρ} {r : ρ} (h : (bif b then A else B) = some r) (h1 : b = true → A = some r → AKev P n Φ (f t s)) (h2 : b = false → B = some r → AKev P n Φ (f t' s')) : AKev P n Φ (two f b t s t' s') := by
 cases b with
 | true => exact h1 rfl h
 | false => exact h2 rfl h
theorem DG_bif {f : List SOp → List (De × Rd) → St → EvD} {b : Bool} {os os' : List SOp} {acc acc' : List (De × Rd)} {st st' : St} {ρ : Type} {A B : Option ρ} {r : ρ} (h : (bif b then A else B) = some r) (h1 : b = true → A = some r → DG P T C (f os acc st)) (h2 : b = false → B = some r → DG P T C (f os' acc' st')) : DG P T C (twoD f b os acc st os' acc' st') := by
 cases b with
 | true => exact h1 rfl h
 | false => exact h2 rfl h
theorem AKev_loopS {S E R : Type} {body : S → Option (Stp S E R)} {k : Nat} {s0 : S} {r : Stp S E R} (hk : whl body k s0 = some r) (hd : S → St) (ex : E → St) {b : SC} {id : Nat} {todo : List It} {st : St} (hw : Weak n st (hd s0))
  (hb : ∀ s x (Bk Br : St → Prop), body s = some x → (∀ s' st', x = .next s' → Weak n st' (hd s') → Bk st') → (∀ s' st', x = .brk s' → Weak n st' (ex s') → Br st') → (∀ v, x = .ret v → r = .ret v) →
   AK P n Φ (.sc b :: .back Bk :: .blk id :: .back Br :: todo) (hd s))
  (hx : ∀ s', r = .brk s' → AK P n Φ todo (ex s')) : AKev P n Φ (.loop b (.blk id :: todo) st) := AK.loopS hk hd ex hw hb hx
theorem NL_self (x : AV) : NL x x = True := eq_true (.refl x)
theorem NLs_self (x : List AV) : NLs x x = True := eq_true (.refl x)
theorem AKev_call0 (hT : TysOK P T) {f : FuncId} {args fargs : List AV} {v : AV} {dst : Option Tmp} {drop : List Nat} {todo : List It} {st : St} (m : Nat) (hp : PCall P f fargs (fun y => y = v)) (hz : zOK (AV.frzL (Heap.get ([] :: st.fr :: st.low)) args) fargs)
  (hr : (AV.refsL args).isEmpty || v.scal = true) (h : AKev P n Φ (run T m todo (st.took dst drop v [] (st.fr :: st.low)))) : AKev P n Φ (.call f args dst drop todo st) := by
 unfold zOK at hz
 split at hz
 ·rename_i z hz'
  refine AKev_pcall hT m hp hz' hz ?_ h
  simpa using hr
 ·exact hz.elim
theorem AKev_callL (hT : TysOK P T) {f : FuncId} {args fargs : List AV} {v : AV} {dst : Option Tmp} {drop : List Nat} {todo : List It} {st : St} (m : Nat) (hp : PCall P f fargs (fun y => y = v)) (hz : zOK (AV.brL (Heap.get ([] :: st.fr :: st.low)) (boxF (Heap.get ([] :: st.fr :: st.low)) 5) args) fargs)
  (hr : v.scal = true) (h : AKev P n Φ (run T m todo (st.took dst drop v [] (st.fr :: st.low)))) : AKev P n Φ (.call f args dst drop todo st) := by
 unfold zOK at hz
 split at hz
 ·rename_i z hz'
  exact AKev_lent hT m hp hz' hz hr h
 ·exact hz.elim
theorem DG_call0 {f : FuncId} {args fargs : List AV} {v : AV} {o : SOp} {os : List SOp} {acc : List (De × Rd)} {st : St} (m : Nat) (hp : PCall P f fargs (fun y => y = v)) (hz : zOK (AV.frzL st.get args) fargs)
  (hr : (AV.refsL args).isEmpty || v.scal = true) (h : DG P T C (runD T m os ((⟨v, []⟩, some (AV.refsL args)) :: acc) (st.by o.dst [] ⟨v, []⟩))) : DG P T C (.call f args o os acc st) := by
 unfold zOK at hz
 split at hz
 ·rename_i z hz'
  refine DG_call m hp hz' hz ?_ h
  simpa using hr
 ·exact hz.elim
def wOK (o : Option St) (tm : List (Nat × AV)) (fr : Fra) (low : Heap) (nx nt : Nat) : Prop := match o with
 | some s => NLT s.tm tm ∧ NLF s.fr fr ∧ s.low = low ∧ s.nx = nx ∧ s.nt = nt
 | none => False
theorem wOK_some (s : St) (tm : List (Nat × AV)) (fr : Fra) (low : Heap) (nx nt : Nat) : wOK (some s) tm fr low nx nt = (NLT s.tm tm ∧ NLF s.fr fr ∧ s.low = low ∧ s.nx = nx ∧ s.nt = nt) := rfl
theorem Weak.go {n : Nat} {st : St} {tm : List (Nat × AV)} {fr : Fra} {low : Heap} {nx nt : Nat} (keep ks : List Nat) (hnd : (decide ks.Nodup && decide (ks.length ≤ nx)) = true) (h : wOK (st.norm keep ks nx) tm fr low nx nt) : Weak n st ⟨tm, fr, low, nx, nt⟩ := by
 unfold wOK at h
 split at h
 ·rename_i s hs
  simp only [Bool.and_eq_true, decide_eq_true_eq] at hnd
  obtain ⟨h1, h2, h3, h4, h5⟩ := h
  refine (Weak.norm hs hnd.1 hnd.2).trans ?_
  obtain ⟨tm0, fr0, low0, nx0, nt0⟩ := s
  simp only at h3 h4 h5
  subst h3 h4 h5
  exact Weak.nl h1 h2
 ·exact h.elim
theorem NLT_self (x : List (Nat × AV)) : NLT x x = True := eq_true (.refl x)
theorem NLF_self (x : Fra) : NLF x x = True := eq_true (.refl x)
theorem bind_some {α β : Type} {o : Option α} {f : α → Option β} {r : β} (h : o.bind f = some r) : ∃ x, o = some x ∧ f x = some r := Option.bind_eq_some_iff.1 h
end
end Go.Abs
namespace Go.Abs
open Go Go.RowKit
mutual
def AV.fz (k : Nat) (b : Blk) : AV → Option AV
 | .ptr 0 k' o => if k' = k then (match b with | .box ys => some (.rptr ys.length [ys] 0 o) | _ => none) else some (.ptr 0 k' o)
 | .ptr (l + 1) k' o => some (.ptr (l + 1) k' o)
 | .loc 0 k' e i n g => if k' = k then (match b with | .arr _ esz es => if esz = e ∧ es.length = g ∧ i + n ≤ g then some (.sl e ((es.drop i).take n)) else none | _ => none) else some (.loc 0 k' e i n g)
 | .loc (l + 1) k' e i n g => some (.loc (l + 1) k' e i n g)
 | .eptr 0 k' e i o g => if k' = k then none else some (.eptr 0 k' e i o g)
 | .eptr (l + 1) k' e i o g => some (.eptr (l + 1) k' e i o g)
 | .inn 0 k' e o n => if k' = k then none else some (.inn 0 k' e o n)
 | .inn (l + 1) k' e o n => some (.inn (l + 1) k' e o n)
 | .fn f x y => match AV.fzL k b x, AV.fzL k b y with
  | some x, some y => some (.fn f x y)
  | _, _ => none
 | .ifc t v => (v.fz k b).map (.ifc t)
 | .agg cs => (AV.fzL k b cs).map .agg
 | .tup vs => (AV.fzL k b vs).map .tup
 | .bool b => some (.bool b)
 | .int k n => some (.int k n)
 | .str s => some (.str s)
 | .nil => some .nil
 | .sl e es => some (.sl e es)
 | .pnil => some .pnil
 | .rptr e es i o => some (.rptr e es i o)
 | .fnil => some .fnil
 | .inil => some .inil
 | .dead => some .dead
def AV.fzL (k : Nat) (b : Blk) : List AV → Option (List AV)
 | [] => some []
 | x :: l => match x.fz k b, AV.fzL k b l with
  | some x, some l => some (x :: l)
  | _, _ => none
end
theorem fzL_get (k : Nat) (b : Blk) : ∀ (cs ys : List AV), AV.fzL k b cs = some ys → ys.length = cs.length ∧ ∀ (i : Nat) (x : AV), cs[i]? = some x → ∃ y, ys[i]? = some y ∧ x.fz k b = some y
 | [], ys, h => by simp only [AV.fzL, Option.some.injEq] at h; subst h; simp
 | x :: l, ys, h => by
  simp only [AV.fzL] at h
  split at h
  ·rename_i a c ha hc
   obtain rfl := Option.some.inj h
   have ih := fzL_get k b l c hc
   refine ⟨by simp [ih.1], ?_⟩
   intro i z hz
   cases i with
   | zero => simp only [List.getElem?_cons_zero, Option.some.injEq] at hz; subst hz; exact ⟨a, by simp, ha⟩
   | succ i => simp only [List.getElem?_cons_succ] at hz ⊢; exact ih.2 i z hz
  ·cases h
theorem fz_flat {k : Nat} {b : Blk} {x y : AV} (h : x.fz k b = some y) : y.flat = x.flat := by
 cases x with
 | ptr l k' o =>
  cases l with
  | zero =>
   simp only [AV.fz] at h
   split at h
   ·split at h
    ·obtain rfl := Option.some.inj h; rfl
    ·cases h
   ·obtain rfl := Option.some.inj h; rfl
  | succ l => simp only [AV.fz, Option.some.injEq] at h; subst h; rfl
 | loc l k' e i n g =>
  cases l with
  | zero =>
   simp only [AV.fz] at h
   split at h
   ·split at h
    ·split at h
     ·obtain rfl := Option.some.inj h; rfl
     ·cases h
    ·cases h
   ·obtain rfl := Option.some.inj h; rfl
  | succ l => simp only [AV.fz, Option.some.injEq] at h; subst h; rfl
 | eptr l k' e i o g =>
  cases l with
  | zero =>
   simp only [AV.fz] at h
   split at h
   ·cases h
   ·obtain rfl := Option.some.inj h; rfl
  | succ l => simp only [AV.fz, Option.some.injEq] at h; subst h; rfl
 | inn l k' e o n =>
  cases l with
  | zero =>
   simp only [AV.fz] at h
   split at h
   ·cases h
   ·obtain rfl := Option.some.inj h; rfl
  | succ l => simp only [AV.fz, Option.some.injEq] at h; subst h; rfl
 | fn f a c =>
  simp only [AV.fz] at h
  split at h
  ·obtain rfl := Option.some.inj h; rfl
  ·cases h
 | _ =>
  first
  | (simp only [AV.fz, Option.some.injEq] at h; subst h; rfl)
  | (simp only [AV.fz, Option.map_eq_some_iff] at h; obtain ⟨a, _, rfl⟩ := h; rfl)
section
variable {P : Program} {T : Tys} {N0 : Nat} {W0 : World} {n : Nat} {fm : FM} {ts : List Tie} {H : Heap} {w : World}
noncomputable def fmWith (fm : FM) (w : World) (c : Option Nat) : FM := fun b o => if c = some b then w.cell? ⟨b, o, none⟩ else fm b o
theorem fmWith_le (h : HR N0 W0 fm ts H w) (c : Option Nat) : FmLe fm (fmWith fm w c) := by
 intro b o v hv
 unfold fmWith
 split
 ·exact h.fms b o v hv
 ·exact hv
theorem HR.fz (h : HR N0 W0 fm ts H w) {k : Nat} {b : Blk} (hk : H.get 0 k = some b) (hz : ∀ ys, b = .box ys → AV.frzL (fun _ _ => none) ys = some ys) {ts0 : List Tie} {x : AV} {v : Value} (hv : VR fm ts0 x v) :
  ts0 = ts → ∀ {y : AV}, x.fz k b = some y → VR (fmWith fm w (tbc (tb ts 0 k))) ts y v := by
 have hF := fmWith_le h (tbc (tb ts 0 k))
 have hcell : ∀ c o u, tbc (tb ts 0 k) = some c → w.cell? ⟨c, o, none⟩ = some u → fmWith fm w (tbc (tb ts 0 k)) c o = some u := by
  intro c o u hc hu
  unfold fmWith; rw [if_pos hc]; exact hu
 generalize fmWith fm w (tbc (tb ts 0 k)) = fm' at hF hcell
 induction hv with
 | bool b => intro e y hy; simp only [AV.fz, Option.some.injEq] at hy; subst hy; exact .bool _
 | int k n => intro e y hy; simp only [AV.fz, Option.some.injEq] at hy; subst hy; exact .int _ _
 | str s => intro e y hy; simp only [AV.fz, Option.some.injEq] at hy; subst hy; exact .str _
 | nil => intro e y hy; simp only [AV.fz, Option.some.injEq] at hy; subst hy; exact .nil
 | slNil e a cap => intro _ y hy; simp only [AV.fz, Option.some.injEq] at hy; subst hy; exact .slNil _ _ _
 | sl es cb off esz cap u hcap h1 h2 h3 h4 _ => intro _ y hy; simp only [AV.fz, Option.some.injEq] at hy; subst hy; exact (VR.sl es cb off esz cap u hcap h1 h2 h3 h4 (ts := ts)).mono hF (TsLe.refl _)
 | @locGone ts1 l k' esz i n g a cp ht hn ha =>
  rintro rfl y hy
  cases l with
  | zero =>
   simp only [AV.fz] at hy
   split at hy
   ·rename_i e; subst e
    have := h.blk 0 k' b hk
    rw [ht] at this
    cases this
   ·obtain rfl := Option.some.inj hy; exact .locGone _ _ _ _ _ _ _ _ ht hn ha
  | succ l => simp only [AV.fz, Option.some.injEq] at hy; subst hy; exact .locGone _ _ _ _ _ _ _ _ ht hn ha
 | @locOld ts1 l k' esz i n g a cp m' c ht hlt hn ha =>
  rintro rfl y hy
  cases l with
  | zero =>
   simp only [AV.fz] at hy
   split at hy
   ·rename_i e; subst e
    have hb := h.blk 0 k' b hk
    rw [ht] at hb
    split at hy
    ·split at hy
     ·rename_i hc
      cases hb with
      | nil et esz => have := hc.2.1; simp at this; omega
      | arr et esz es c cap hN h => have := hc.2.1; omega
     ·cases hy
    ·cases hy
   ·obtain rfl := Option.some.inj hy; exact .locOld _ _ _ _ _ _ _ _ _ _ ht hlt hn ha
  | succ l => simp only [AV.fz, Option.some.injEq] at hy; subst hy; exact .locOld _ _ _ _ _ _ _ _ _ _ ht hlt hn ha
 | @locNil ts1 l k' esz a ht =>
  rintro rfl y hy
  cases l with
  | zero =>
   simp only [AV.fz] at hy
   split at hy
   ·split at hy
    ·split at hy
     ·simp only [List.drop_zero, List.take_zero, Option.some.injEq] at hy; subst hy; exact .slNil _ _ _
     ·cases hy
    ·cases hy
   ·obtain rfl := Option.some.inj hy; exact .locNil _ _ _ _ ht
  | succ l => simp only [AV.fz, Option.some.injEq] at hy; subst hy; exact .locNil _ _ _ _ ht
 | @loc ts1 l k' esz i n g c cap cp a ht hn hnc hc ha =>
  rintro rfl y hy
  cases l with
  | succ l => simp only [AV.fz, Option.some.injEq] at hy; subst hy; exact .loc _ _ _ _ _ _ _ _ _ _ ht hn hnc hc ha
  | zero =>
   simp only [AV.fz] at hy
   split at hy
   ·rename_i e; subst e
    have hb := h.blk 0 k' b hk
    split at hy
    ·rename_i et esz' es
     split at hy
     ·rename_i hh
      obtain ⟨he, hlen, hin⟩ := hh
      subst he
      simp only [Option.some.injEq] at hy; subst hy
      rw [ht] at hb
      cases hb with
      | arr et _ es c cap hN hA =>
       obtain ⟨cells, c1, c2, c3, c4, c5, c6, c7⟩ := hA
       by_cases hn0 : n = 0
       ·subst hn0
        simp only [List.take_zero]
        exact .slNil _ _ _
       ·have ha' := ha (.inl (by omega))
        subst ha'
        have hl : ((es.drop i).take n).length = n := by simp; omega
        have key : ∀ (j : Nat) (cc : List AV) (o : Nat) (x : AV), ((es.drop i).take n)[j]? = some cc → cc[o]? = some x → ∃ u, cells[(i + j) * esz' + o]? = some u ∧ x.flat = true ∧ VR fm [] x u := by
         intro j cc o x hj ho
         have hj' : es[i + j]? = some cc := by
          rw [List.getElem?_take] at hj
          split at hj
          ·rw [List.getElem?_drop] at hj; exact hj
          ·cases hj
         have hlt : i + j < es.length := (List.getElem?_eq_some_iff.1 hj').1
         have hcc : cc.length = esz' := c5 cc (List.mem_of_getElem? hj')
         have hol : o < esz' := by rw [← hcc]; exact (List.getElem?_eq_some_iff.1 ho).1
         have hsz : (i + j) * esz' + o < cells.size := by
          rw [c2]
          have : (i + j + 1) * esz' ≤ cap * esz' := Nat.mul_le_mul_right _ (by omega)
          rw [Nat.add_mul] at this
          omega
         have hcell' := Array.getElem?_eq_getElem hsz
         have := c7 (i + j) cc o x _ hj' ho hcell'
         exact ⟨_, hcell', this.1, this.2⟩
        have hsl := VR.sl (fm := fm') (ts := ts1) ((es.drop i).take n) c (i * esz') esz' cp (fun j o => (cells[(i + j) * esz' + o]?).getD default) (by rw [hl]; exact ⟨hnc, by omega⟩)
         (fun cc hcc => c5 cc (List.mem_of_mem_drop (List.mem_of_mem_take hcc)))
         (by
          intro j cc o x hj ho
          obtain ⟨u, hu, _, _⟩ := key j cc o x hj ho
          refine hcell c _ _ (by rw [ht]; rfl) ?_
          simp only [World.cell?, c1]
          have : i * esz' + (j * esz' + o) = (i + j) * esz' + o := by rw [Nat.add_mul]; omega
          rw [this, hu]
          simp)
         (fun j cc o x hj ho => (key j cc o x hj ho).elim fun u hu => hu.2.1)
         (by
          intro j cc o x hj ho
          obtain ⟨u, hu, _, hv⟩ := key j cc o x hj ho
          rw [hu]
          exact hv.mono hF (TsLe.refl _))
        rw [hl] at hsl
        exact hsl
     ·cases hy
    ·cases hy
   ·obtain rfl := Option.some.inj hy; exact .loc _ _ _ _ _ _ _ _ _ _ ht hn hnc hc ha
 | @inn ts1 l k' esz o n c cp a ht hn ha =>
  rintro rfl y hy
  cases l with
  | zero =>
   simp only [AV.fz] at hy
   split at hy
   ·cases hy
   ·obtain rfl := Option.some.inj hy; exact .inn _ _ _ _ _ _ _ _ ht hn ha
  | succ l => simp only [AV.fz, Option.some.injEq] at hy; subst hy; exact .inn _ _ _ _ _ _ _ _ ht hn ha
 | pnil => intro e y hy; simp only [AV.fz, Option.some.injEq] at hy; subst hy; exact .pnil
 | @ptr ts1 l k' o c ht =>
  rintro rfl y hy
  cases l with
  | succ l => simp only [AV.fz, Option.some.injEq] at hy; subst hy; exact .ptr _ _ _ _ ht
  | zero =>
   simp only [AV.fz] at hy
   split at hy
   ·rename_i e; subst e
    have hb := h.blk 0 k' b hk
    split at hy
    ·rename_i ys
     obtain rfl := Option.some.inj hy
     rw [ht] at hb
     cases hb with
     | box c _ hN hB =>
      obtain ⟨cells, et, c1, c2, c3⟩ := hB
      have hzz := hz ys rfl
      have g := Go.Abs.frzL_get _ _ _ hzz
      have one : ∀ (i : Nat) (cc : List AV) (o : Nat) (x : AV), [ys][i]? = some cc → cc[o]? = some x → i = 0 ∧ cc = ys ∧ ∃ u, cells[o]? = some u ∧ x.flat = true ∧ VR fm [] x u := by
       intro i cc o x hi ho
       cases i with
       | succ i => simp at hi
       | zero =>
        simp only [List.getElem?_cons_zero, Option.some.injEq] at hi
        subst hi
        have hlt : o < cells.size := by rw [c2]; exact (List.getElem?_eq_some_iff.1 ho).1
        have hcu := Array.getElem?_eq_getElem hlt
        have h3 := c3 o x _ ho hcu
        obtain ⟨y, hy1, hy2⟩ := g.2 o x ho
        rw [ho] at hy1
        obtain rfl := Option.some.inj hy1
        have h4 := h.frz (N0 := N0) [] (by simpa using h3.2) (frz_none H.get _ _ hy2) (by rw [frz_refs _ _ hy2]; simp)
        rw [fmPlus_nil] at h4
        exact ⟨rfl, rfl, _, hcu, h3.1, h4⟩
      have := VR.rptr (fm := fm') (ts := ts1) [ys] 0 o c 0 ys.length (fun _ o => (cells[o]?).getD default) (by intro cc hcc; simp at hcc; rw [hcc])
       (by
        intro i cc o x hi ho
        obtain ⟨rfl, rfl, u, hu, _, _⟩ := one i cc o x hi ho
        refine hcell c _ _ (by rw [ht]; rfl) ?_
        simp only [World.cell?, c1, Nat.zero_mul, Nat.zero_add, hu]
        simp)
       (fun i cc o x hi ho => (one i cc o x hi ho).2.2.elim fun u hu => hu.2.1)
       (by
        intro i cc o x hi ho
        obtain ⟨rfl, rfl, u, hu, _, hv⟩ := one i cc o x hi ho
        rw [hu]
        exact hv.mono hF (TsLe.refl _))
      simpa using this
    ·cases hy
   ·obtain rfl := Option.some.inj hy; exact .ptr _ _ _ _ ht
 | @eptrGone ts1 l k' esz i o g a ht =>
  rintro rfl y hy
  cases l with
  | zero =>
   simp only [AV.fz] at hy
   split at hy
   ·cases hy
   ·obtain rfl := Option.some.inj hy; exact .eptrGone _ _ _ _ _ _ _ ht
  | succ l => simp only [AV.fz, Option.some.injEq] at hy; subst hy; exact .eptrGone _ _ _ _ _ _ _ ht
 | @eptrOld ts1 l k' esz i o g a m' c ht hlt =>
  rintro rfl y hy
  cases l with
  | zero =>
   simp only [AV.fz] at hy
   split at hy
   ·cases hy
   ·obtain rfl := Option.some.inj hy; exact .eptrOld _ _ _ _ _ _ _ _ _ ht hlt
  | succ l => simp only [AV.fz, Option.some.injEq] at hy; subst hy; exact .eptrOld _ _ _ _ _ _ _ _ _ ht hlt
 | @eptr ts1 l k' esz i o g c cap ht =>
  rintro rfl y hy
  cases l with
  | zero =>
   simp only [AV.fz] at hy
   split at hy
   ·cases hy
   ·obtain rfl := Option.some.inj hy; exact .eptr _ _ _ _ _ _ _ _ ht
  | succ l => simp only [AV.fz, Option.some.injEq] at hy; subst hy; exact .eptr _ _ _ _ _ _ _ _ ht
 | rptr es i o cb off esz u h1 h2 h3 h4 _ => intro _ y hy; simp only [AV.fz, Option.some.injEq] at hy; subst hy; exact (VR.rptr es i o cb off esz u h1 h2 h3 h4 (ts := ts)).mono hF (TsLe.refl _)
 | fnil => intro e y hy; simp only [AV.fz, Option.some.injEq] at hy; subst hy; exact .fnil
 | fn f first cap vf vc h1 h2 _ _ ih1 ih2 =>
  rintro rfl y hy
  simp only [AV.fz] at hy
  split at hy
  ·rename_i a c ha hc
   obtain rfl := Option.some.inj hy
   have g1 := fzL_get k b _ _ ha
   have g2 := fzL_get k b _ _ hc
   refine .fn f a c vf vc (by rw [g1.1]; exact h1) (by rw [g2.1]; exact h2) ?_ ?_
   ·intro i x v hx hv
    have hi : i < first.length := by rw [← g1.1]; exact (List.getElem?_eq_some_iff.1 hx).1
    obtain ⟨y, hy, hu⟩ := g1.2 i _ (List.getElem?_eq_getElem hi)
    rw [hx] at hy; obtain rfl := Option.some.inj hy
    exact ih1 i _ v (List.getElem?_eq_getElem hi) hv rfl hu
   ·intro i x v hx hv
    have hi : i < cap.length := by rw [← g2.1]; exact (List.getElem?_eq_some_iff.1 hx).1
    obtain ⟨y, hy, hu⟩ := g2.2 i _ (List.getElem?_eq_getElem hi)
    rw [hx] at hy; obtain rfl := Option.some.inj hy
    exact ih2 i _ v (List.getElem?_eq_getElem hi) hv rfl hu
  ·cases hy
 | inil => intro e y hy; simp only [AV.fz, Option.some.injEq] at hy; subst hy; exact .inil
 | ifc t x v _ ih =>
  rintro rfl y hy
  simp only [AV.fz, Option.map_eq_some_iff] at hy; obtain ⟨z, hz', rfl⟩ := hy
  exact .ifc t z v (ih rfl hz')
 | agg cs vs h1 h2 _ ih =>
  rintro rfl y hy
  simp only [AV.fz, Option.map_eq_some_iff] at hy; obtain ⟨z, hz', rfl⟩ := hy
  have g := fzL_get k b _ _ hz'
  refine .agg z vs (by rw [g.1]; exact h1) ?_ ?_
  ·intro x hx
   obtain ⟨i, hi⟩ := List.mem_iff_getElem?.1 hx
   have hlt : i < cs.length := by rw [← g.1]; exact (List.getElem?_eq_some_iff.1 hi).1
   obtain ⟨y, hy, hu⟩ := g.2 i _ (List.getElem?_eq_getElem hlt)
   rw [hi] at hy; obtain rfl := Option.some.inj hy
   rw [fz_flat hu]
   exact h2 _ (List.getElem_mem hlt)
  ·intro i x v hx hv
   have hlt : i < cs.length := by rw [← g.1]; exact (List.getElem?_eq_some_iff.1 hx).1
   obtain ⟨y, hy, hu⟩ := g.2 i _ (List.getElem?_eq_getElem hlt)
   rw [hx] at hy; obtain rfl := Option.some.inj hy
   exact ih i _ v (List.getElem?_eq_getElem hlt) hv rfl hu
 | tup xs vs h1 _ ih =>
  rintro rfl y hy
  simp only [AV.fz, Option.map_eq_some_iff] at hy; obtain ⟨z, hz', rfl⟩ := hy
  have g := fzL_get k b _ _ hz'
  refine .tup z vs (by rw [g.1]; exact h1) ?_
  intro i x v hx hv
  have hlt : i < xs.length := by rw [← g.1]; exact (List.getElem?_eq_some_iff.1 hx).1
  obtain ⟨y, hy, hu⟩ := g.2 i _ (List.getElem?_eq_getElem hlt)
  rw [hx] at hy; obtain rfl := Option.some.inj hy
  exact ih i _ v (List.getElem?_eq_getElem hlt) hv rfl hu
 | dead v => intro e y hy; simp only [AV.fz, Option.some.injEq] at hy; subst hy; exact .dead v
def fzTm (k : Nat) (b : Blk) : List (Nat × AV) → List (Nat × AV)
 | [] => []
 | (t, x) :: l => (t, (x.fz k b).getD x) :: fzTm k b l
def Blk.fz (k : Nat) (b : Blk) : Blk → Blk
 | .arr et e es => .arr et e es
 | .box cs => .box ((AV.fzL k b cs).getD cs)
def fzFr (k : Nat) (b : Blk) : Fra → Fra
 | [] => []
 | (j, x) :: l => if j = k then fzFr k b l else (j, Blk.fz k b x) :: fzFr k b l
theorem look_fzTm (k : Nat) (b : Blk) : ∀ (l : List (Nat × AV)) (t : Nat), look (fzTm k b l) t = (look l t).map fun x => (x.fz k b).getD x
 | [], t => rfl
 | (t0, x) :: l, t => by
  simp only [fzTm, look]
  split
  ·rfl
  ·exact look_fzTm k b l t
theorem look_fzFr (k : Nat) (b : Blk) : ∀ (l : Fra) (j : Nat), look (fzFr k b l) j = if j = k then none else (look l j).map (Blk.fz k b)
 | [], j => by simp [fzFr, look]
 | (j0, x) :: l, j => by
  simp only [fzFr]
  by_cases h : j0 = k
  ·rw [if_pos h, look_fzFr k b l j]
   by_cases hj : j = k
   ·simp [hj]
   ·have : ¬ j0 = j := fun e => hj (by rw [← e, h])
    simp [hj, look, this]
  ·rw [if_neg h]
   simp only [look]
   by_cases hj : j0 = j
   ·subst hj; simp [h]
   ·simp only [hj, if_false]; exact look_fzFr k b l j
theorem HR.fz_blk (h : HR N0 W0 fm ts H w) {k : Nat} {b : Blk} (hk : H.get 0 k = some b) (hz : ∀ ys, b = .box ys → AV.frzL (fun _ _ => none) ys = some ys) {t : Option TB} {x : Blk} (hx : BR fm ts w N0 t x) : BR (fmWith fm w (tbc (tb ts 0 k))) ts w N0 t (Blk.fz k b x) := by
 have hF := fmWith_le h (tbc (tb ts 0 k))
 cases hx with
 | nil et esz => exact .nil et esz
 | arr et esz es c cap hN hA => exact .arr et esz es c cap hN (hA.mono hF rfl)
 | box c cs hN hB =>
  obtain ⟨cells, et, c1, c2, c3⟩ := hB
  simp only [Blk.fz]
  cases hf : AV.fzL k b cs with
  | none => exact .box c _ hN ⟨cells, et, c1, c2, fun o x v a b => ⟨(c3 o x v a b).1, (c3 o x v a b).2.mono hF (TsLe.refl _)⟩⟩
  | some ys =>
   have g := fzL_get k b _ _ hf
   refine .box c _ hN ⟨cells, et, c1, by rw [c2]; exact g.1.symm, ?_⟩
   intro o y v hy hv
   have hlt : o < cs.length := by rw [← g.1]; exact (List.getElem?_eq_some_iff.1 hy).1
   obtain ⟨y', hy', hu⟩ := g.2 o _ (List.getElem?_eq_getElem hlt)
   simp only [Option.getD_some] at hy
   rw [hy] at hy'; obtain rfl := Option.some.inj hy'
   have h3 := c3 o _ v (List.getElem?_eq_getElem hlt) hv
   exact ⟨by rw [fz_flat hu]; exact h3.1, h.fz hk hz h3.2 rfl hu⟩
theorem Weak.fz {n : Nat} {tm : List (Nat × AV)} {fr : Fra} {low : Heap} {nx nt : Nat} (k : Nat) {b : Blk} (hk : look fr k = some b) (hz : ∀ ys, b = .box ys → AV.frzL (fun _ _ => none) ys = some ys) :
  Weak n ⟨tm, fr, low, nx, nt⟩ ⟨fzTm k b tm, fzFr k b fr, low, nx, nt⟩ := by
 intro N0 W0 a w fm ts h
 have hg0 : Heap.get (fr :: low) 0 k = some b := by simpa [Heap.get] using hk
 have hF := fmWith_le h.hr (tbc (tb ts 0 k))
 have hbr := h.hr.blk 0 k b hg0
 have src : ∀ l j x, Heap.get (fzFr k b fr :: low) l j = some x → ∃ x0, Heap.get (fr :: low) l j = some x0 ∧ ¬ (l = 0 ∧ j = k) ∧ (l = 0 → x = Blk.fz k b x0) ∧ (l ≠ 0 → x = x0) := by
  intro l j x hx
  cases l with
  | zero =>
   simp only [Heap.get, look_fzFr] at hx
   split at hx
   ·cases hx
   ·rename_i hj
    simp only [Option.map_eq_some_iff] at hx
    obtain ⟨x0, hx0, rfl⟩ := hx
    exact ⟨x0, hx0, fun hh => hj hh.2, fun _ => rfl, fun hh => absurd rfl hh⟩
  | succ l => exact ⟨x, hx, fun hh => absurd hh.1 (by omega), fun hh => absurd hh (by omega), fun _ => rfl⟩
 refine ⟨fmWith fm w (tbc (tb ts 0 k)), ts, ⟨⟨by simpa using h.hr.len, ?_, ?_, ?_, ?_, h.hr.bel, h.hr.size⟩, ?_, h.nx, h.size, h.dfr⟩, ⟨⟨hF, ?_⟩, TsLe.refl _, fun _ _ h => h⟩⟩
 ·intro l j x hx
  obtain ⟨x0, hx0, hne, h1, h2⟩ := src l j x hx
  have hb := h.hr.blk l j x0 hx0
  cases l with
  | zero =>
   rw [h1 rfl]
   exact h.hr.fz_blk hg0 hz hb
  | succ l =>
   rw [h2 (by omega)]
   exact hb.mono hF (TsLe.refl _) (fun _ _ => rfl)
 ·intro l j l' j' x x' c hx hx'
  obtain ⟨x0, hx0, _⟩ := src l j x hx
  obtain ⟨x1, hx1, _⟩ := src l' j' x' hx'
  exact h.hr.inj l j l' j' x0 x1 c hx0 hx1
 ·intro c o v hv
  unfold fmWith at hv
  split at hv
  ·exact hv
  ·exact h.hr.fms c o v hv
 ·intro l j x c o hx hc
  obtain ⟨x0, hx0, hne, _⟩ := src l j x hx
  unfold fmWith
  rw [if_neg]
  ·exact h.hr.fmd l j x0 c o hx0 hc
  ·intro e
   exact hne (h.hr.inj l j 0 k x0 b c hx0 hg0 hc e)
 ·intro t x hx
  simp only [look_fzTm, Option.map_eq_some_iff] at hx
  obtain ⟨x0, hx0, rfl⟩ := hx
  obtain ⟨v, hv, hvr⟩ := h.tm t x0 hx0
  refine ⟨v, hv, ?_⟩
  cases hf : x0.fz k b with
  | none => exact hvr.mono hF (TsLe.refl _)
  | some y => exact h.hr.fz hg0 hz hvr rfl hf
 ·intro c o hc
  unfold fmWith
  rw [if_neg]
  intro e
  have := (hbr.lt e).2
  omega
theorem AK.fz {tm : List (Nat × AV)} {fr : Fra} {low : Heap} {nx nt : Nat} {Φ : Exit → St → Prop} (m : Nat) (hT : TysOK P T) {pre : List It} (k : Nat) {b : Blk} (hk : look fr k = some b) (hz : ∀ ys, b = .box ys → AV.frzL (fun _ _ => none) ys = some ys)
  (h : AKev P n Φ (run T m pre ⟨fzTm k b tm, fzFr k b fr, low, nx, nt⟩)) : AK P n Φ pre ⟨tm, fr, low, nx, nt⟩ := AK.weak (Weak.fz k hk hz) (run_sound hT m _ _ h)
end
end Go.Abs
namespace Go.Abs
open Go Go.RowKit
abbrev w64 (x : Int) : Int := IntKind.i64.wrap x
def eI (x : Int) : List AV := [.int .i64 x]
def eB (x : Bool) : List AV := [.bool x]
def eU8 (x : Int) : List AV := [.int .u8 x]
def eS (x : ByteArray) : List AV := [.str x]
def eL {α : Type} (sz : Nat) (E : α → List AV) (l : List α) : List AV := [.sl sz (l.map E)]
structure A2 (α : Type) where
 x0 : α
 x1 : α
structure A3 (α : Type) where
 x0 : α
 x1 : α
 x2 : α
structure A4 (α : Type) where
 x0 : α
 x1 : α
 x2 : α
 x3 : α
def A2.c {α : Type} (E : α → List AV) (a : A2 α) : List AV := E a.x0 ++ E a.x1
def A3.c {α : Type} (E : α → List AV) (a : A3 α) : List AV := E a.x0 ++ (E a.x1 ++ E a.x2)
def A4.c {α : Type} (E : α → List AV) (a : A4 α) : List AV := E a.x0 ++ (E a.x1 ++ (E a.x2 ++ E a.x3))
def at? {α : Type} (l : List α) (i : Int) : Option α := if 0 ≤ i ∧ i < l.length then l[i.toNat]? else none
def app? {α : Type} (b : Nat) (l x : List α) : Option (List α) := if room (l.length + x.length) b then some (l ++ x) else none
def nz? (y : Int) : Option Unit := if y = 0 then none else some ()
section
variable {α : Type}
theorem at_lt {l : List α} {i : Int} {x : α} (h : at? l i = some x) : 0 ≤ i ∧ i < l.length ∧ l[i.toNat]? = some x := by
 unfold at? at h
 split at h
 ·rename_i hh; exact ⟨hh.1, hh.2, h⟩
 ·cases h
theorem at_in {l : List α} {i : Int} {x : α} (h : at? l i = some x) : inRange i l.length = some i.toNat := by
 obtain ⟨h1, h2, _⟩ := at_lt h
 simp [inRange, h1, h2]
theorem at_get {β : Type} (E : α → β) {l : List α} {i : Int} {x : α} (h : at? l i = some x) : (l.map E)[i.toNat]? = some (E x) := by
 obtain ⟨_, _, h3⟩ := at_lt h
 simp [h3]
theorem app_some {b : Nat} {l x y : List α} (h : app? b l x = some y) : room (l.length + x.length) b ∧ y = l ++ x := by
 unfold app? at h
 split at h
 ·rename_i hh; exact ⟨hh, (Option.some.inj h).symm⟩
 ·cases h
theorem nz_some {y : Int} {u : Unit} (h : nz? y = some u) : ¬ y = 0 := by
 unfold nz? at h
 split at h
 ·cases h
 ·assumption
theorem bounds_lo {n : Nat} {lo : Int} {k : IntKind} (h : 0 ≤ lo ∧ lo ≤ n ∧ (n : Int) ≤ n) : bounds n (some (.int k lo)) none = some (lo.toNat, n) := by
 simp [bounds, boundHi, boundLo, h.1, h.2.1]
theorem bounds_hi {n : Nat} {hi : Int} {k' : IntKind} (h : (0 : Int) ≤ 0 ∧ 0 ≤ hi ∧ hi ≤ n) : bounds n none (some (.int k' hi)) = some (0, hi.toNat) := by
 simp [bounds, boundHi, boundLo, h.2.1, h.2.2]
theorem bounds_all {n : Nat} : bounds n none none = some (0, n) := by simp [bounds, boundHi, boundLo]
def push? {α : Type} (b : Nat) (l : List α) (x : α) : Option (List α) := app? b l [x]
theorem push_room {b : Nat} {l y : List α} {x : α} (h : push? b l x = some y) : room (l.length + 1) b := by
 have := (app_some h).1; simpa using this
theorem push_map {β : Type} (E : α → β) {b : Nat} {l y : List α} {x : α} (h : push? b l x = some y) : l.map E ++ [E x] = y.map E := by
 rw [(app_some h).2]; simp
theorem push_len {b : Nat} {l y : List α} {x : α} (h : push? b l x = some y) : y.length = l.length + 1 := by
 rw [(app_some h).2]; simp
theorem push_take {β : Type} (E : α → β) {b : Nat} {l y : List α} {x : α} (h : push? b l x = some y) : (y.map E).take (l.length + 1) = y.map E := by
 rw [List.take_of_length_le]; simp [push_len h]
def room? (n b : Nat) : Option Unit := if room n b then some () else none
theorem room_some {n b : Nat} {u : Unit} (h : room? n b = some u) : room n b := by
 unfold room? at h
 split at h
 ·assumption
 ·cases h
def set? {α : Type} (l : List α) (i : Int) (x : α) : Option (List α) := if 0 ≤ i ∧ i < l.length then some (l.set i.toNat x) else none
theorem set_map {β : Type} (E : α → β) {l y : List α} {i : Int} {x : α} (h : set? l i x = some y) : (l.map E).set i.toNat (E x) = y.map E := by
 unfold set? at h
 split at h
 ·rw [← Option.some.inj h, List.map_set]
 ·cases h
theorem set_len {l y : List α} {i : Int} {x : α} (h : set? l i x = some y) : y.length = l.length := by
 unfold set? at h
 split at h
 ·rw [← Option.some.inj h, List.length_set]
 ·cases h
theorem set_take {β : Type} (E : α → β) {l y : List α} {i : Int} {x : α} (h : set? l i x = some y) : (y.map E).take l.length = y.map E := by
 rw [List.take_of_length_le]; simp [set_len h]
def rs? (g i : Nat) (l h : Int) : Option Unit := if (0 ≤ l ∧ l ≤ h) ∧ i + h.toNat ≤ g then some () else none
theorem rs_some {g i : Nat} {l h : Int} {u : Unit} (e : rs? g i l h = some u) : (0 ≤ l ∧ l ≤ h) ∧ i + h.toNat ≤ g := by
 unfold rs? at e
 split at e
 ·assumption
 ·cases e
theorem rs_le {g i : Nat} {l h : Int} {u : Unit} (e : rs? g i l h = some u) : i + l.toNat + (h.toNat - l.toNat) ≤ g := by
 have := rs_some e; omega
def ls? (n : Nat) (lo : Int) : Option Unit := if 0 ≤ lo ∧ lo ≤ n then some () else none
theorem ls_bounds {n : Nat} {lo : Int} {k : IntKind} {u : Unit} (e : ls? n lo = some u) : bounds n (some (.int k lo)) none = some (lo.toNat, n) := by
 unfold ls? at e
 split at e
 ·rename_i h; exact bounds_lo ⟨h.1, h.2, Int.le_refl _⟩
 ·cases e
theorem ls_le {n : Nat} {lo : Int} {u : Unit} (e : ls? n lo = some u) : lo.toNat + (n - lo.toNat) ≤ n := by
 unfold ls? at e
 split at e
 ·omega
 ·cases e
def hs? (n : Nat) (hi : Int) : Option Unit := if 0 ≤ hi ∧ hi ≤ n then some () else none
theorem hs_bounds {n : Nat} {hi : Int} {k : IntKind} {u : Unit} (e : hs? n hi = some u) : bounds n none (some (.int k hi)) = some (0, hi.toNat) := by
 unfold hs? at e
 split at e
 ·rename_i h; exact bounds_hi ⟨Int.le_refl _, h.1, h.2⟩
 ·cases e
theorem hs_le {n : Nat} {hi : Int} {u : Unit} (e : hs? n hi = some u) : hi.toNat ≤ n := by
 unfold hs? at e
 split at e
 ·omega
 ·cases e
def s3? (n : Nat) (l h m : Int) : Option Unit := if (0 ≤ l ∧ l ≤ h) ∧ h ≤ m ∧ m ≤ n then some () else none
theorem s3_some {n : Nat} {l h m : Int} {u : Unit} (e : s3? n l h m = some u) : (0 ≤ l ∧ l ≤ h) ∧ h ≤ m ∧ m ≤ n := by
 unfold s3? at e
 split at e
 ·assumption
 ·cases e
theorem at_part_in {l : List α} {a m : Nat} {i : Int} {x : α} (h : at? ((l.drop a).take m) i = some x) : inRange i m = some i.toNat := by
 obtain ⟨h1, h2, _⟩ := at_lt h
 have h3 : i < m := by simp at h2; omega
 simp [inRange, h1, h3]
theorem at_part_get {β : Type} (E : α → β) {l : List α} {a m : Nat} {i : Int} {x : α} (h : at? ((l.drop a).take m) i = some x) : (l.map E)[a + i.toNat]? = some (E x) := by
 obtain ⟨_, _, h3⟩ := at_lt h
 rw [List.getElem?_take] at h3
 split at h3
 ·rw [List.getElem?_drop] at h3; simp [h3]
 ·cases h3
def clr {α : Type} (l : List α) (i n : Nat) (z : α) : List α := l.take i ++ (List.replicate n z ++ l.drop (i + n))
theorem clr_map {β : Type} (E : α → β) (l : List α) (i n : Nat) (z : α) : (l.map E).take i ++ (List.replicate n (E z) ++ (l.map E).drop (i + n)) = (clr l i n z).map E := by
 simp [clr, List.map_take, List.map_drop]
theorem clr_len {l : List α} {i n : Nat} {z : α} (h : i + n ≤ l.length) : (clr l i n z).length = l.length := by
 simp [clr]; omega
def ovr {α : Type} (l : List α) (n : Nat) (x : List α) : List α := l.take n ++ (x ++ l.drop (n + x.length))
def ov? (g n m : Nat) : Option Unit := if n ≠ g ∧ n + m ≤ g then some () else none
theorem ov_ne {g n m : Nat} {u : Unit} (e : ov? g n m = some u) : ¬ n = g := by
 unfold ov? at e
 split at e
 ·rename_i h; exact h.1
 ·cases e
theorem ov_le {g n m : Nat} {u : Unit} (e : ov? g n m = some u) : n + m ≤ g := by
 unfold ov? at e
 split at e
 ·rename_i h; exact h.2
 ·cases e
theorem ovr_map {β : Type} (E : α → β) (l : List α) (n : Nat) (x : List α) : (l.map E).take n ++ (x.map E ++ (l.map E).drop (n + x.length)) = (ovr l n x).map E := by
 simp [ovr, List.map_take, List.map_drop]
theorem ovr_len {l x : List α} {n : Nat} (h : n + x.length ≤ l.length) : (ovr l n x).length = l.length := by
 simp [ovr]; omega
theorem cut_map {β : Type} (E : α → β) (l : List α) (a m : Nat) : ((l.map E).drop a).take m = ((l.drop a).take m).map E := by
 rw [List.map_take, List.map_drop]
theorem cut0_map {β : Type} (E : α → β) (l : List α) (m : Nat) : (l.map E).take m = (l.take m).map E := by
 rw [List.map_take]
theorem take_map_all {β : Type} (E : α → β) (l : List α) : (l.map E).take l.length = l.map E := by
 rw [List.take_of_length_le (by simp)]
end
structure Ice (cap : List AV) : Prop where
 sh : ∀ d, AV.shL d cap = cap
 frz : ∀ G, AV.frzL G cap = some cap
 br : ∀ G F, AV.brL G F cap = some cap
 refs : AV.refsL cap = []
 imp : ∀ k, AV.impL k cap = cap
 ren : ∀ ks, AV.renL ks cap = some cap
 un : ∀ d, AV.unL d cap = some cap
theorem shL_append (d : Nat) : ∀ a b : List AV, AV.shL d (a ++ b) = AV.shL d a ++ AV.shL d b
 | [], b => rfl
 | x :: a, b => by simp only [List.cons_append, AV.shL, shL_append d a b]
section
variable {P : Program} {T : Tys} {n : Nat} {Φ : Exit → St → Prop}
theorem AKev_ret {rs : List ResultVar} {st : St} {v : AV} (h0 : st.low = []) (h1 : yOK ((resAll T st rs).bind (fun xs => (tupOf xs).frz st.get)) v) : AKev P n (PEnds T rs fun y => NL y v) (.fin .ret st) := by
 unfold yOK at h1
 split at h1
 ·rename_i y hy
  obtain ⟨xs, h3, h4⟩ := Option.bind_eq_some_iff.1 hy
  exact ⟨h0, xs, y, h3, h4, h1⟩
 ·exact h1.elim
theorem AKev_backB {B : St → Prop} {st : St} (h : B st) : AKev P n Φ (.back B st) := h
end
attribute [go_sem] runD doD nextD_some callD_some twoD_true twoD_false heapy rdOf keysA keysL
 Int.reduceEq Int.reduceLT Int.reduceLE List.set_cons_zero List.set_cons_succ List.replicate_succ List.replicate_zero List.length_replicate Nat.zero_lt_succ Bool.not_not fzTm fzFr AV.fz AV.fzL Blk.fz Option.getD_some Option.getD_none
 Nat.sub_zero orO_some orO_none aBeyond doSlice3 gvL gv1 giveFr giveG pushG kill0 impS
 AV.br AV.brL boxF only List.contains_cons List.contains_nil decide_true decide_false Bool.or_true Bool.or_false Bool.and_true Bool.true_and Bool.and_false Bool.false_and Prod.mk.injEq bounds_all take_map_all shL_append
 wOK_some zOK_some yOK_some NL_self NLs_self NLT_self NLF_self List.isEmpty_nil List.isEmpty_cons Bool.true_or Bool.false_or
 eI eB eU8 eS eL A2.c A3.c A4.c
 St.norm renTm renFr AV.ren AV.renL renK idx Blk.ren
 Nat.zero_add Nat.add_zero doSliceZero
 List.reverse_cons List.reverse_nil List.map_append
end Go.Abs
namespace Go.Abs
open Go Go.RowKit
section
variable {P : Program} {T : Tys} {n : Nat} {Φ : Exit → St → Prop}
def gOK (o : Option (List AV)) (f : Option Fra) (args0 : List AV) (fr0 : Fra) : Prop := o = some args0 ∧ f = some fr0
theorem AKev_give (hT : TysOK P T) {f : FuncId} {args args0 : List AV} {fr0 : Fra} {y : AV} {fr : Fra} {dst : Option Tmp} {drop : List Nat} {todo : List It} {st : St} (m : Nat) (rs gs : List Nat) (hp : GCall P f args0 fr0 (fun y' fr' => y' = y ∧ fr' = fr))
  (hz : gOK (gvL gs (only (Heap.get ([] :: st.fr :: st.low)) (rs.map fun k => (1, k))) (boxF (only (Heap.get ([] :: st.fr :: st.low)) (rs.map fun k => (1, k))) 5) args) (giveFr (dels st.fr rs) 0 gs) args0 fr0) (hnd : (decide gs.Nodup && decide (gs.length ≤ 16)) = true)
  (h : AKev P n Φ (run T m todo (st.took dst drop y fr (dels (dels st.fr rs) gs :: st.low)))) : AKev P n Φ (.call f args dst drop todo st) := by
 have hk := run_sound hT m todo _ h
 refine ⟨_, GCall.used 5 rs gs hp hz.1 hz.2 hnd, ?_⟩
 rintro y' fr' H' ⟨⟨rfl, rfl⟩, rfl⟩
 exact hk
theorem GCall.own {f : FuncId} {args : List AV} {fr0 : Fra} {sz et : Nat} {ls : List (List AV)}
  (hp : GCall P f args fr0 (fun y fr => ∃ m g es, y = .loc 0 0 sz 0 m g ∧ fr = [(0, .arr et sz es)] ∧ es.length = g ∧ m ≤ g ∧ es.take m = ls)) :
  GCall P f args fr0 (fun y fr => y = .loc 0 0 sz 0 ls.length ls.length ∧ fr = [(0, .arr et sz ls)]) := by
 refine ⟨hp.1, fun H N0 W0 fm t ts w vs hH ht hv => Calls.mono (hp.2 H N0 W0 fm t ts w vs hH ht hv) ?_⟩
 rintro e w' ⟨v, y, fr', fm', t', ts', rfl, ⟨m, g, es, rfl, rfl, hg, hm, hls⟩, hhr, hvr, hup, htl, hno, h16⟩
 have hlen : ls.length = m := by rw [← hls, List.length_take]; omega
 have hb := hhr.blk 0 0 _ (show Heap.get ([(0, Blk.arr et sz es)] :: H) 0 0 = some (.arr et sz es) by rfl)
 obtain ⟨x, hx1, hx2, hx3⟩ : ∃ x : TB, BR fm' [] w' N0 (some x) (.arr et sz ls) ∧ tbc (some x) = tbc (tb (t' :: ts') 0 0) ∧ ∀ ts1 : List Tie, tb ts1 0 0 = some x → VR fm' ts1 (.loc 0 0 sz 0 ls.length ls.length) v := by
  generalize htt : tb (t' :: ts') 0 0 = tt at hb
  cases hb with
  | nil =>
   simp at hls
   subst hls
   refine ⟨.arr 0 none, .nil _ _, rfl, ?_⟩
   intro ts1 h1
   cases hvr with
   | locGone _ _ _ _ _ _ a cp h hn ha => rw [htt] at h; cases h
   | locOld _ _ _ _ _ _ a cp m' c h hlt hn ha => rw [htt] at h; cases h; simp at hlt
   | locNil _ _ _ a h => exact .locNil _ _ _ _ h1
   | loc _ _ _ _ _ _ c cap cp a h hin hnc hcc ha => rw [htt] at h; cases h
  | arr _ _ _ c cap hN hA =>
   obtain ⟨cells, c1, c2, c3, c4, c5, c6, c7⟩ := hA
   refine ⟨.arr ls.length (some (c, cap)), .arr et sz ls c cap hN ⟨cells, c1, c2, by omega, c4, ?_, c6, ?_⟩, rfl, ?_⟩
   ·rw [← hls]; exact fun d hd => c5 d (List.mem_of_mem_take hd)
   ·intro i cc o x v hi ho hc
    rw [← hls, List.getElem?_take] at hi
    split at hi
    ·exact c7 i cc o x v hi ho hc
    ·cases hi
   ·intro ts1 h1
    cases hvr with
    | locGone _ _ _ _ _ _ a cp h hn ha => rw [htt] at h; cases h
    | locOld _ _ _ _ _ _ a cp m' c h hlt hn ha =>
     rw [htt] at h
     simp only [Option.some.injEq, TB.arr.injEq] at h
     omega
    | locNil _ _ _ a h => rw [htt] at h; simp at h
    | loc _ _ _ _ _ _ c' cap' cp a h hin hnc hcc ha =>
     rw [htt] at h
     simp only [Option.some.injEq, TB.arr.injEq, Prod.mk.injEq] at h
     obtain ⟨_, rfl, rfl⟩ := h
     rw [hlen] at h1 ⊢
     exact .loc _ _ _ _ _ _ c cap cp a h1 (by omega) hnc hcc ha
 have src : ∀ l k b, Heap.get ([(0, Blk.arr et sz ls)] :: H) l k = some b → (l = 0 ∧ k = 0 ∧ b = .arr et sz ls) ∨ (l ≠ 0 ∧ Heap.get ([(0, Blk.arr et sz es)] :: H) l k = some b) := by
  intro l k b hg
  cases l with
  | zero =>
   simp only [Heap.get, look] at hg
   split at hg
   ·rename_i e; exact .inl ⟨rfl, e.symm, (Option.some.inj hg).symm⟩
   ·cases hg
  | succ l => exact .inr ⟨by omega, by simpa [Heap.get] using hg⟩
 have old0 : Heap.get ([(0, Blk.arr et sz es)] :: H) 0 0 = some (.arr et sz es) := rfl
 have hT : tb ((fun k => if k = 0 then some x else none) :: ts') 0 0 = some x := rfl
 refine ⟨v, _, _, fm', fun k => if k = 0 then some x else none, ts', rfl, ⟨rfl, rfl⟩, ⟨by have := hhr.len; simpa using this, ?_, ?_, hhr.fms, ?_, hhr.bel, hhr.size⟩, hx3 _ hT, hup, htl, hno, fun k hk => by show (if k = 0 then some x else none) = none; rw [if_neg (by omega)]⟩
 ·intro l k b hg
  rcases src l k b hg with ⟨rfl, rfl, rfl⟩ | ⟨hl, hg'⟩
  ·rw [hT]
   exact hx1.mono (FmLe.refl _) (TsLe.nil _) (fun _ _ => rfl)
  ·obtain ⟨l, rfl⟩ : ∃ q, l = q + 1 := ⟨l - 1, by omega⟩
   have := hhr.blk (l + 1) k b hg'
   simpa [tb] using this
 ·intro l1 k1 l2 k2 b1 b2 c g1 g2 t1 t2
  have conv : ∀ l k b c, Heap.get ([(0, Blk.arr et sz ls)] :: H) l k = some b → tbc (tb ((fun k => if k = 0 then some x else none) :: ts') l k) = some c → ∃ b', Heap.get ([(0, Blk.arr et sz es)] :: H) l k = some b' ∧ tbc (tb (t' :: ts') l k) = some c := by
   intro l k b c g t
   rcases src l k b g with ⟨rfl, rfl, rfl⟩ | ⟨hl, hg'⟩
   ·rw [hT, hx2] at t; exact ⟨_, old0, t⟩
   ·obtain ⟨l, rfl⟩ : ∃ q, l = q + 1 := ⟨l - 1, by omega⟩
    exact ⟨b, hg', by simpa [tb] using t⟩
  obtain ⟨b1', g1', t1'⟩ := conv l1 k1 b1 c g1 t1
  obtain ⟨b2', g2', t2'⟩ := conv l2 k2 b2 c g2 t2
  exact hhr.inj l1 k1 l2 k2 b1' b2' c g1' g2' t1' t2'
 ·intro l k b c o g t
  rcases src l k b g with ⟨rfl, rfl, rfl⟩ | ⟨hl, hg'⟩
  ·rw [hT, hx2] at t; exact hhr.fmd 0 0 _ c o old0 t
  ·obtain ⟨l, rfl⟩ : ∃ q, l = q + 1 := ⟨l - 1, by omega⟩
   exact hhr.fmd (l + 1) k b c o hg' (by simpa [tb] using t)
def oOK (fr : Fra) (sz et : Nat) (ls : List (List AV)) : Option AV → Prop
 | some (.loc 0 k sz' 0 m g) => sz' = sz ∧ (match look fr k with
  | some (.arr et' sz'' es) => et' = et ∧ sz'' = sz ∧ es.length = g ∧ m ≤ g ∧ es.take m = ls
  | _ => False)
 | _ => False
theorem AKev_gret {rs : List ResultVar} {H : Heap} {st : St} {sz et : Nat} {ls : List (List AV)} (h0 : st.low = H) (h1 : oOK st.fr sz et ls ((resAll T st rs).map tupOf)) :
  AKev P n (GEnds T rs H (fun y fr => ∃ m g es, y = .loc 0 0 sz 0 m g ∧ fr = [(0, .arr et sz es)] ∧ es.length = g ∧ m ≤ g ∧ es.take m = ls)) (.fin .ret st) := by
 unfold oOK at h1
 split at h1
 ·rename_i k sz' m g hr
  rw [Option.map_eq_some_iff] at hr
  obtain ⟨xs, h2, h3⟩ := hr
  obtain ⟨rfl, h4⟩ := h1
  split at h4
  ·rename_i et' sz'' es hk
   obtain ⟨rfl, rfl, h5, h6, h7⟩ := h4
   refine ⟨xs, h2, ?_⟩
   rw [h3]
   exact .own [k] (.loc 0 0 sz'' 0 m g) [(0, .arr et' sz'' es)] (by simp) (by simp) (by simp [AV.ren, renK, idx]) (by simp [renFr, hk, Blk.ren]) ⟨h0, m, g, es, rfl, rfl, h5, h6, h7⟩
  ·exact h4.elim
 ·exact h1.elim
end
end Go.Abs
namespace Go.Abs
open Go Go.RowKit
attribute [go_sem] Int.toNat_natCast
def insI (x : Int) : List Int → List Int
 | [] => [x]
 | y :: l => bif decide (x ≤ y) then x :: y :: l else y :: insI x l
def srt : List Int → List Int
 | [] => []
 | x :: l => insI x (srt l)
theorem insI_perm (x : Int) : ∀ l, (insI x l).Perm (x :: l)
 | [] => .refl _
 | y :: l => by
  unfold insI
  cases decide (x ≤ y) with
  | true => exact .refl _
  | false => exact ((insI_perm x l).cons y).trans (.swap x y l)
theorem srt_perm : ∀ l, (srt l).Perm l
 | [] => .refl _
 | x :: l => (insI_perm x (srt l)).trans ((srt_perm l).cons x)
theorem insI_sorted (x : Int) : ∀ l : List Int, l.Pairwise (· ≤ ·) → (insI x l).Pairwise (· ≤ ·)
 | [], _ => by simp [insI]
 | y :: l, h => by
  rw [List.pairwise_cons] at h
  unfold insI
  by_cases hxy : x ≤ y
  ·simp only [hxy, decide_true, cond_true]
   rw [List.pairwise_cons, List.pairwise_cons]
   refine ⟨fun z hz => ?_, h.1, h.2⟩
   rcases List.mem_cons.1 hz with rfl | hz
   ·exact hxy
   ·have := h.1 z hz; omega
  ·simp only [hxy, decide_false, cond_false]
   rw [List.pairwise_cons]
   refine ⟨fun z hz => ?_, insI_sorted x l h.2⟩
   rcases List.mem_cons.1 ((insI_perm x l).mem_iff.1 hz) with rfl | hz
   ·omega
   ·exact h.1 z hz
theorem srt_sorted : ∀ l : List Int, (srt l).Pairwise (· ≤ ·)
 | [] => List.Pairwise.nil
 | x :: l => insI_sorted x _ (srt_sorted l)
theorem srt_len (l : List Int) : (srt l).length = l.length := (srt_perm l).length_eq
theorem srt_eq (l : List Int) : (l.mergeSort fun x y => decide (x ≤ y)) = srt l := by
 refine List.Perm.eq_of_pairwise (le := fun x y : Int => x ≤ y) (fun a b _ _ h1 h2 => by omega) ?_ (srt_sorted l) ((List.mergeSort_perm _ _).trans (srt_perm l).symm)
 have := List.pairwise_mergeSort (le := fun x y : Int => decide (x ≤ y)) (fun a b c h1 h2 => by simp only [decide_eq_true_eq] at *; omega) (fun a b => by simp only [Bool.or_eq_true, decide_eq_true_eq]; omega) l
 exact this.imp fun h => by simpa using h
def SortC (P : Program) (f : FuncId) : Prop := Enters P f ∧
 (∀ (p : Option Addr) (cap : Nat) (w : World), Calls P f #[.slice p 0 cap] w fun e w' => e = .returned (.tuple #[]) ∧ w' = w) ∧
 (∀ (blk off cap : Nat) (zs : List Int) (w : World), Go.Sort.Holds (Value.int .i64) w blk off zs.toArray → blk < w.heap.size → zs.length < 4611686018427387904 →
  Calls P f #[.slice (some ⟨blk, off, none⟩) zs.length cap] w fun e w' =>
   e = .returned (.tuple #[]) ∧ ∃ n os, w' = Go.Sort.grow (Go.Sort.putRow (Value.int .i64) (Go.Sort.ahead w n) blk off (srt zs).toArray) os)
theorem SortC.of {P : Program} {f : FuncId} (h1 : Enters P f) (h2 : ∀ (p : Option Addr) (cap : Nat) (w : World), Calls P f #[.slice p 0 cap] w fun e w' => e = .returned (.tuple #[]) ∧ w' = w)
  (h3 : ∀ (blk off cap : Nat) (zs : List Int) (w : World), Go.Sort.Holds (Value.int .i64) w blk off zs.toArray → blk < w.heap.size → zs.length < 4611686018427387904 →
  Calls P f #[.slice (some ⟨blk, off, none⟩) zs.length cap] w fun e w' =>
   e = .returned (.tuple #[]) ∧ ∃ n os, w' = Go.Sort.grow (Go.Sort.putRow (Value.int .i64) (Go.Sort.ahead w n) blk off (zs.mergeSort fun x y => decide (x ≤ y)).toArray) os) : SortC P f :=
 ⟨h1, h2, fun blk off cap zs w a b c => by have := h3 blk off cap zs w a b c; simpa only [srt_eq] using this⟩
section
variable {P : Program} {T : Tys} {n : Nat} {Φ : Exit → St → Prop}
theorem ACall.sortI {f : FuncId} (hS : SortC P f) {fr : Fra} {low : Heap} {k et : Nat} {l : List Int} (hg : look fr k = some (.arr et 1 (l.map eI))) (hmx : l.length < 4611686018427387904) :
  ACall P f [.loc 1 k 1 0 l.length l.length] (fr :: low) (fun y fr' H' => y = .tup [] ∧ fr' = [] ∧ H' = ins fr k (.arr et 1 ((srt l).map eI)) :: low) := by
 refine ⟨hS.1, ?_⟩
 intro N0 W0 fm ts w vs hH hv
 obtain ⟨v, rfl⟩ : ∃ v, vs = [v] := by
  have := hv.1
  match vs, this with
  | [v], _ => exact ⟨v, rfl⟩
 have hx := hv.2 0 _ v rfl rfl
 have hget : Heap.get (fr :: low) 0 k = some (.arr et 1 (l.map eI)) := hg
 have hb := hH.blk 0 k _ hget
 have hput : Heap.put (fr :: low) 0 k (some (.arr et 1 ((srt l).map eI))) = ins fr k (.arr et 1 ((srt l).map eI)) :: low := rfl
 have htb : tb (noTie :: ts) 1 k = tb ts 0 k := rfl
 have fin : ∀ (w' : World) ts', HR N0 W0 fm ts' (ins fr k (.arr et 1 ((srt l).map eI)) :: low) w' → TsLe ts ts' → (∀ l k, tb ts l k = none → tb ts' l k = none) →
   ∃ v av fr' H' fm' t' ts', Ending.returned (.tuple #[]) = Ending.returned v ∧ (av = AV.tup [] ∧ fr' = [] ∧ H' = ins fr k (.arr et 1 ((srt l).map eI)) :: low) ∧ H'.length = (fr :: low).length ∧ HR N0 W0 fm' (t' :: ts') (fr' :: H') w' ∧ VR fm' (t' :: ts') av v ∧ FmUp N0 fm fm' ∧ TsLe ts ts' ∧
   (∀ l k, tb ts l k = none → tb ts' l k = none) ∧ ∀ k, 16 ≤ k → t' k = none := by
  intro w' ts' h1 h2 h3
  exact ⟨_, .tup [], [], _, fm, noTie, ts', rfl, ⟨rfl, rfl, rfl⟩, rfl, h1.push, VR.tup [] #[] rfl (fun i x v h _ => by simp at h), .refl _ _, h2, h3, fun _ _ => rfl⟩
 have nilCase : ∀ a cap, l = [] → Calls P f #[.slice a 0 cap] w fun e w' => ∃ v av fr' H' fm' t' ts', e = Ending.returned v ∧ (av = AV.tup [] ∧ fr' = [] ∧ H' = ins fr k (.arr et 1 ((srt l).map eI)) :: low) ∧ H'.length = (fr :: low).length ∧ HR N0 W0 fm' (t' :: ts') (fr' :: H') w' ∧ VR fm' (t' :: ts') av v ∧ FmUp N0 fm fm' ∧ TsLe ts ts' ∧
   (∀ l k, tb ts l k = none → tb ts' l k = none) ∧ ∀ k, 16 ≤ k → t' k = none := by
  intro a cap hl
  refine Calls.mono (hS.2.1 a cap w) ?_
  rintro e w' ⟨rfl, rfl⟩
  subst hl
  have := hH.putSame hget
  exact fin _ ts (by simpa [srt, Heap.put] using this) (TsLe.refl _) (fun _ _ h => h)
 have hll : (l.map eI).length = l.length := by simp
 generalize htt : tb ts 0 k = tt at hb
 generalize hln : l.length = ln at hx
 cases hx with
 | locGone _ _ _ _ _ _ a cp h hn ha => rw [htb, htt] at h; subst h; cases hb
 | locOld _ _ _ _ _ _ a cp m' c h hlt hn ha =>
  rw [htb, htt] at h; subst h
  have := hb.arr_inv.1
  omega
 | locNil _ _ _ a h => exact nilCase a 0 (List.length_eq_zero_iff.1 hln)
 | loc _ _ _ _ _ _ c cap cp a h hin hnc hcc ha =>
  rw [htb, htt] at h; subst h
  obtain ⟨hA, hN⟩ := hb.arr_inv.2.2 c cap rfl
  obtain ⟨cells, c1, c2, c3, c4, c5, c6, c7⟩ := hA
  obtain rfl := ha (.inr rfl)
  have hsz : c < w.heap.size := (Array.getElem?_eq_some_iff.1 c1).1
  have hcell : ∀ j (hj : j < l.length), cells[j]? = some (.int .i64 l[j]) := by
   intro j hj
   have hlt : j < cells.size := by omega
   have h7 := c7 j [.int .i64 l[j]] 0 (.int .i64 l[j]) cells[j] (by simp [hj, eI]) rfl (by simp [Array.getElem?_eq_getElem hlt])
   rw [Array.getElem?_eq_getElem hlt]
   generalize cells[j] = u at h7
   cases h7.2; rfl
  have hH' : Go.Sort.Holds (Value.int .i64) w c 0 l.toArray := by
   intro j hj
   have hj' : j < l.length := by simpa using hj
   constructor
   ·have e : (⟨c, 0 + j, none⟩ : Addr) = ⟨c, j, none⟩ := by rw [Nat.zero_add]
    rw [e]
    simp only [World.cell?, c1]
    rw [getElem!_pos _ j hj]
    simpa using hcell j hj'
   ·simp only [World.frozen?, c1]
    simp
  have hcall := hS.2.2 c 0 cp l w hH' hsz hmx
  have e0 : (⟨c, 0 * 1, none⟩ : Addr) = ⟨c, 0, none⟩ := rfl
  rw [← hln] at *
  refine Calls.mono hcall ?_
  rintro e w' ⟨rfl, m, os, rfl⟩
  have hsl : (srt l).length = l.length := srt_len l
  have hold : ∀ i, i ≠ c → i < w.heap.size → (Go.Sort.grow (Go.Sort.putRow (Value.int .i64) (Go.Sort.ahead w m) c 0 (srt l).toArray) os).heap[i]? = w.heap[i]? := by
   intro i hi hlt
   rw [Go.Sort.heap_grow_old _ _ (by simpa [Go.Sort.ahead] using hlt)]
   have : c ≠ i := fun e => hi e.symm
   simp [Go.Sort.putRow, Go.Sort.mapBlock, Go.Sort.ahead, Array.getElem?_modify, this]
  have hnew : (Go.Sort.grow (Go.Sort.putRow (Value.int .i64) (Go.Sort.ahead w m) c 0 (srt l).toArray) os).heap[c]? = some (.cells (Go.Sort.putCells (Value.int .i64) 0 (srt l).toArray cells) et (0, 0)) := by
   rw [Go.Sort.heap_grow_old _ _ (by simpa [Go.Sort.ahead] using hsz)]
   simp only [Go.Sort.putRow, Go.Sort.mapBlock, Go.Sort.ahead, Array.getElem?_modify, if_true, c1, Option.map_some, Go.Sort.onCells]
  have hT := hH.turn (w' := Go.Sort.grow (Go.Sort.putRow (Value.int .i64) (Go.Sort.ahead w m) c 0 (srt l).toArray) os) (l := 0) (k := k) (c := c) (x := .arr (srt l).length (some (c, cap))) (b := .arr et 1 ((srt l).map eI)) (by simp) rfl hold
   ⟨rfl, rfl, rfl, by simp [Go.Sort.ahead], fun i hi => hold i (by omega) (by have := hH.size; omega)⟩ (by rw [htt, hsl]; exact TbLe.refl _)
   (fun l' k' b' g' t' => hH.inj l' k' 0 k b' _ c g' hget t' (by rw [htt]; rfl)) (fun o => hH.fmd 0 k _ c o hget (by rw [htt]; rfl)) ?_
  ·have hle : TbLe (tb ts 0 k) (some (.arr (srt l).length (some (c, cap)))) := by rw [htt, hsl]; exact TbLe.refl _
   refine fin _ _ hT (TsLe.set hle) ?_
   intro l' k' hn
   rw [tb_tset]
   split
   ·rename_i hh; obtain ⟨rfl, rfl, _⟩ := hh; rw [htt] at hn; cases hn
   ·exact hn
  ·have hl2 : ((srt l).map eI).length = (srt l).length := by simp
   rw [← hl2]
   refine .arr et 1 ((srt l).map eI) c cap hN ⟨_, hnew, by simp [Go.Sort.putCells, c2], by simp [hsl]; omega, c4, ?_, c6, ?_⟩
   ·intro d hd
    simp only [List.mem_map] at hd
    obtain ⟨z, _, rfl⟩ := hd
    rfl
   ·intro i cc o x v h1 h2 h3
    simp only [List.getElem?_map, Option.map_eq_some_iff] at h1
    obtain ⟨z, hz, rfl⟩ := h1
    have ho : o = 0 := by
     cases o with
     | zero => rfl
     | succ o => simp [eI] at h2
    subst ho
    simp only [eI, List.getElem?_cons_zero, Option.some.injEq] at h2
    subst h2
    have hi : i < (srt l).length := (List.getElem?_eq_some_iff.1 hz).1
    have hz' : (srt l)[i] = z := (List.getElem?_eq_some_iff.1 hz).2
    simp only [Nat.mul_one, Nat.add_zero, Go.Sort.putCells, Array.getElem?_mapIdx, Nat.zero_le, true_and, Nat.zero_add, Nat.sub_zero, Option.map_eq_some_iff] at h3
    obtain ⟨u, hu, h3⟩ := h3
    rw [if_pos (by simpa using hi), getElem!_pos _ i (by simpa using hi)] at h3
    simp only [List.getElem_toArray, hz'] at h3
    subst h3
    exact ⟨rfl, .int _ _⟩
theorem AKev_sortI {f : FuncId} (hS : SortC P f) {args : List AV} {dst : Option Tmp} {drop : List Nat} {todo : List It} {st : St} {k et : Nat} {l : List Int} (hg : look st.fr k = some (.arr et 1 (l.map eI))) (ha : args = [.loc 1 k 1 0 l.length l.length]) {b : Nat} (hr : room l.length b)
  (h : AK P n Φ todo ⟨dels (putTm st.tm dst (.tup [])) drop, ins st.fr k (.arr et 1 ((srt l).map eI)), st.low, st.nx + 16, st.nt⟩) : AKev P n Φ (.call f args dst drop todo st) := by
 subst ha
 refine AKev_call (ACall.sortI hS hg hr.2) ?_
 rintro y fr H ⟨rfl, rfl, rfl⟩
 exact h
end
end Go.Abs
namespace Go.Abs
open Go Go.RowKit
def gwOK (o : Option AV) (f : Option Fra) (y : AV) (fr : Fra) : Prop := o = some y ∧ f = some fr
theorem AKev_gown {P : Program} {T : Tys} {n : Nat} {rs : List ResultVar} {H : Heap} {st : St} {e : Exit} {y : AV} {fr : Fra} (ks : List Nat) (he : e = .ret ∨ e = .normal) (h0 : st.low = H) (hn : (decide ks.Nodup && decide (ks.length ≤ 16)) = true)
  (h1 : gwOK ((resAll T st rs).bind fun xs => (tupOf xs).ren ks) (renFr ks st.fr 0 ks) y fr) : AKev P n (GEnds T rs H (fun y' fr' => y' = y ∧ fr' = fr)) (.fin e st) := by
 obtain ⟨h1, h2⟩ := h1
 obtain ⟨xs, h3, h4⟩ := Option.bind_eq_some_iff.1 h1
 simp only [Bool.and_eq_true, decide_eq_true_eq] at hn
 have : ∃ xs, resAll T st rs = some xs ∧ Gives (fun y' fr' H' => H' = H ∧ y' = y ∧ fr' = fr) (tupOf xs) st :=
  ⟨xs, h3, .own ks y fr hn.1 hn.2 h4 h2 ⟨h0, rfl, rfl⟩⟩
 rcases he with rfl | rfl <;> exact this
theorem AKev_giveF {P : Program} {n : Nat} {Φ : Exit → St → Prop} {f : FuncId} {args args0 : List AV} {fr0 : Fra} {y : AV} {fr : Fra} {dst : Option Tmp} {drop : List Nat} {todo : List It} {st : St} (rs gs : List Nat) (hp : GCall P f args0 fr0 (fun y' fr' => y' = y ∧ fr' = fr))
  (hz : gOK (gvL gs (only (Heap.get ([] :: st.fr :: st.low)) (rs.map fun k => (1, k))) (boxF (only (Heap.get ([] :: st.fr :: st.low)) (rs.map fun k => (1, k))) 5) args) (giveFr (dels st.fr rs) 0 gs) args0 fr0) (hnd : (decide gs.Nodup && decide (gs.length ≤ 16)) = true)
  (h : AK P n Φ todo (st.took dst drop y fr (dels (dels st.fr rs) gs :: st.low))) : AKev P n Φ (.call f args dst drop todo st) := by
 refine ⟨_, GCall.used 5 rs gs hp hz.1 hz.2 hnd, ?_⟩
 rintro y' fr' H' ⟨⟨rfl, rfl⟩, rfl⟩
 exact h
end Go.Abs
namespace Go.Abs
attribute [go_sem] List.all_nil List.all_cons List.map_replicate
end Go.Abs
namespace Go.Abs
open Go Go.RowKit
def Reads (B : Nat) (P : Program) (t : TypeId) {α : Type} (E : α → List AV) (Q : α → Prop) : Prop :=
 ∀ (w : World) (H : Type) (enc : TypeId × Value → H) (fuel : Nat) (cs : List Value) (x : DataW H × List MemPlace),
  DataW.trod enc P w 0 (fun _ => true) true fuel t cs = some x → (∀ n ∈ x.1.weights P t, n ≤ B) → ∃ a, Q a ∧ VRs (fmAll w) [] (E a) cs ∧ (∀ y ∈ E a, y.flat = true)
def i64ok (n : Int) : Prop := -9223372036854775808 ≤ n ∧ n ≤ 9223372036854775807
section
variable {B : Nat} {P : Program} {t : TypeId}
theorem VRs.one {fm : FM} {ts : List Tie} {x : AV} {v : Value} (h : VR fm ts x v) : VRs fm ts [x] [v] := by
 refine ⟨rfl, ?_⟩
 intro i a b h1 h2
 cases i with
 | zero => cases h1; cases h2; exact h
 | succ i => simp at h1
theorem Reads.int (ht : P.underlying t = some (.int .i64)) : Reads B P t eI i64ok := by
 intro w H enc fuel cs x h hsz
 cases fuel with
 | zero => simp [DataW.trod] at h
 | succ n =>
  rw [DataW.trod_step] at h
  unfold DataW.trodStep at h
  rw [ht] at h
  split at h
  case h_2 k k' m e =>
   cases e
   split at h
   ·rename_i hk
    obtain ⟨rfl, hw⟩ := hk
    refine ⟨m, ?_, VRs.one (.int _ _), by simp [eI, AV.flat]⟩
    simpa [Lit.wf, IntKind.min, IntKind.max, IntKind.signed, IntKind.bits, i64ok] using hw
   ·cases h
  all_goals first | (cases h; done) | (rename_i e; cases e; done)
theorem Reads.bool (ht : P.underlying t = some .bool) : Reads B P t eB (fun _ => True) := by
 intro w H enc fuel cs x h hsz
 cases fuel with
 | zero => simp [DataW.trod] at h
 | succ n =>
  rw [DataW.trod_step] at h
  unfold DataW.trodStep at h
  rw [ht] at h
  split at h
  case h_1 b e => exact ⟨b, trivial, VRs.one (.bool _), by simp [eB, AV.flat]⟩
  all_goals first | (cases h; done) | (rename_i e; cases e; done)
theorem Reads.string (ht : P.underlying t = some .string) : Reads B P t eS (fun s => s.size ≤ Go.maxLen) := by
 intro w H enc fuel cs x h hsz
 cases fuel with
 | zero => simp [DataW.trod] at h
 | succ n =>
  rw [DataW.trod_step] at h
  unfold DataW.trodStep at h
  rw [ht] at h
  split at h
  case h_4 s e =>
   split at h
   ·rename_i hk
    exact ⟨s, hk, VRs.one (.str _), by simp [eS, AV.flat]⟩
   ·cases h
  all_goals first | (cases h; done) | (rename_i e; cases e; done)
theorem cells_at {w : World} {a : Addr} {n : Nat} {cs : List Value} (h : w.cells? 0 a n = some cs) : cs.length = n ∧ ∀ o, o < n → ∃ v, cs[o]? = some v ∧ w.cell? (a.add o) = some v := by
 unfold World.cells? at h
 rw [if_pos (Nat.zero_le _)] at h
 have hl : cs.length = n := by simpa using mapM_some_length h
 refine ⟨hl, fun o ho => ?_⟩
 have hg := mapM_some_get h o o (by simp [ho])
 have : o < cs.length := by omega
 rw [List.getElem?_eq_getElem this] at hg ⊢
 exact ⟨_, rfl, hg⟩
theorem weightsAll_mem {H : Type} {e : TypeId} : ∀ {ds : List (DataW H)} {d : DataW H}, d ∈ ds → ∀ n ∈ d.weights P e, n ∈ DataW.weightsAll P e ds
 | d0 :: ds, d, h, n, hn => by
  simp only [DataW.weightsAll, List.mem_append]
  rcases List.mem_cons.1 h with rfl | h
  ·exact .inl hn
  ·exact .inr (weightsAll_mem h n hn)
theorem Reads.slice {α : Type} {e : TypeId} {sz bt : Nat} {E : α → List AV} {Q : α → Prop} (ht : P.underlying t = some (.slice e)) (hs : P.cellsOf e = sz) (hbt : P.bytesOf e = bt) (h0 : 0 < sz) (he : Reads B P e E Q) :
  Reads B P t (eL sz E) (fun l => l.length ≤ Go.maxLen ∧ l.length * bt ≤ B ∧ ∀ a ∈ l, Q a) := by
 intro w H enc fuel cs x h hsz
 cases fuel with
 | zero => simp [DataW.trod] at h
 | succ n =>
  rw [DataW.trod_step] at h
  unfold DataW.trodStep at h
  rw [ht] at h
  split at h
  case h_7 e2 hq => exact ⟨[], ⟨by simp, by simp, by simp⟩, VRs.one (.slNil _ _ _), by simp [eL, AV.flat]⟩
  case h_8 e2 a len cap hq2 =>
   cases hq2
   simp only at h
   split at h
   ·rename_i hc
    simp only [Option.map_eq_some_iff, Option.bind_eq_some_iff] at h
    obtain ⟨elems, hel, rest, _, rfl⟩ := h
    simp only [DataW.weights, ht] at hsz
    have hlen : elems.length = len := by simpa using mapM_some_length hel
    have each : ∀ i, i < len → ∃ b : α, Q b ∧ ∃ cs', w.cells? 0 (a.add (i * P.cellsOf e)) (P.cellsOf e) = some cs' ∧ VRs (fmAll w) [] (E b) cs' ∧ ∀ y ∈ E b, y.flat = true := by
     intro i hi
     have hg := mapM_some_get hel i i (by simp [hi])
     have hlt : i < elems.length := by omega
     rw [List.getElem?_eq_getElem hlt, Option.bind_eq_some_iff] at hg
     obtain ⟨cs', h1, h2⟩ := hg
     obtain ⟨b, hq, hv, hf⟩ := he w H enc n cs' _ h2 (fun m hm => hsz m (by
      simp only [List.mem_cons, List.mem_append]
      exact .inr (.inl (weightsAll_mem (List.mem_map.2 ⟨elems[i], List.getElem_mem hlt, rfl⟩) m hm))))
     exact ⟨b, hq, cs', h1, hv, hf⟩
    have all : ∀ m, m ≤ len → ∃ l : List α, l.length = m ∧ ∀ i (hi : i < l.length), Q l[i] ∧ ∃ cs', w.cells? 0 (a.add (i * P.cellsOf e)) (P.cellsOf e) = some cs' ∧ VRs (fmAll w) [] (E l[i]) cs' ∧ ∀ y ∈ E l[i], y.flat = true := by
     intro m
     induction m with
     | zero => exact fun _ => ⟨[], rfl, fun i hi => by simp at hi⟩
     | succ m ih =>
      intro hm
      obtain ⟨l, hl, h1⟩ := ih (by omega)
      obtain ⟨b, hb⟩ := each m (by omega)
      refine ⟨l ++ [b], by simp [hl], fun i hi => ?_⟩
      by_cases him : i < l.length
      ·rw [List.getElem_append_left him]; exact h1 i him
      ·have : i = m := by simp at hi; omega
       subst this
       have hb' : (l ++ [b])[i] = b := by
        rw [List.getElem_append_right (by omega)]; simp [hl]
       rw [hb']
       exact ⟨hb.1, hb.2⟩
    obtain ⟨l, hl, hall⟩ := all len (Nat.le_refl _)
    have hby : l.length * bt ≤ B := by
     have h1 := hsz _ (List.mem_cons_self ..)
     simp only [List.length_map] at h1
     rw [hbt] at h1
     have h2 : l.length * bt ≤ (elems.length + rest.length) * bt := Nat.mul_le_mul_right _ (by omega)
     omega
    refine ⟨l, ⟨by rw [hl]; omega, hby, ?_⟩, ?_, by simp [eL, AV.flat]⟩
    ·intro b hb
     obtain ⟨i, hi, rfl⟩ := List.getElem_of_mem hb
     exact (hall i hi).1
    ·by_cases hz : len = 0
     ·subst hz
      have : l = [] := List.eq_nil_of_length_eq_zero hl
      subst this
      exact VRs.one (.slNil _ _ _)
     ·
      have hsp : a.spot = none := by
       obtain ⟨_, cs', h1, _, _⟩ := hall 0 (by omega)
       obtain ⟨_, h3⟩ := cells_at h1
       obtain ⟨v, _, h4⟩ := h3 0 (by omega)
       simp only [Nat.zero_mul, Addr.add, if_true] at h4
       unfold World.cell? at h4
       split at h4
       ·split at h4
        ·cases h4
        ·rename_i hh; simpa using hh
       ·cases h4
      have hadd : ∀ k, a.add k = ⟨a.block, a.off + k, none⟩ := by
       intro k
       unfold Addr.add
       split
       ·rename_i h; subst h; obtain ⟨b, o, s⟩ := a; simp only at hsp; subst hsp; rfl
       ·rfl
      have hcell : ∀ i (hi : i < l.length) o x, (E l[i])[o]? = some x → ∃ v, w.cell? ⟨a.block, a.off + (i * sz + o), none⟩ = some v ∧ VR (fmAll w) [] x v ∧ x.flat = true := by
       intro i hi o y hy
       obtain ⟨_, cs', h1, h2, h3⟩ := hall i hi
       obtain ⟨h4, h5⟩ := cells_at h1
       have ho : o < P.cellsOf e := by
        rw [← h4, ← h2.1]; exact (List.getElem?_eq_some_iff.1 hy).1
       obtain ⟨v, h6, h7⟩ := h5 o ho
       refine ⟨v, ?_, h2.2 o y v hy h6, h3 y (List.mem_of_getElem? hy)⟩
       rw [hadd] at h7
       have : Addr.add ⟨a.block, a.off + i * P.cellsOf e, none⟩ o = ⟨a.block, a.off + (i * sz + o), none⟩ := by
        unfold Addr.add
        split
        ·rename_i h; subst h; rw [hs]; rfl
        ·simp only [Addr.mk.injEq, true_and, and_true]; rw [hs]; omega
       rwa [this] at h7
      have ha : a = ⟨a.block, a.off, none⟩ := by obtain ⟨b, o, s⟩ := a; simp only at hsp; subst hsp; rfl
      have hmap : (l.map E).length = len := by simp [hl]
      have key : VR (fmAll w) [] (.sl sz (l.map E)) (.slice (some ⟨a.block, a.off, none⟩) (l.map E).length cap) := by
       refine .sl (l.map E) a.block a.off sz cap (fun i o => (w.cell? ⟨a.block, a.off + (i * sz + o), none⟩).getD default) ⟨by omega, by omega⟩ ?_ ?_ ?_ ?_
       ·intro c hc
        simp only [List.mem_map] at hc
        obtain ⟨b, hb, rfl⟩ := hc
        obtain ⟨i, hi, rfl⟩ := List.getElem_of_mem hb
        obtain ⟨_, cs', h1, h2, _⟩ := hall i hi
        rw [h2.1, (cells_at h1).1, hs]
       all_goals
        intro i c o y h1 h2
        simp only [List.getElem?_map, Option.map_eq_some_iff] at h1
        obtain ⟨b, h3, rfl⟩ := h1
        obtain ⟨hi, rfl⟩ := List.getElem?_eq_some_iff.1 h3
        obtain ⟨v, h4, h5, h6⟩ := hcell i hi o y h2
       ·show w.cell? _ = _
        rw [h4]; rfl
       ·exact h6
       ·simp only [h4, Option.getD_some]; exact h5
      rw [hmap, ← ha] at key
      exact VRs.one key
   ·cases h
  all_goals first | (cases h; done) | (rename_i e; cases e; done)
def ReadsL (B : Nat) (P : Program) (l : List (Nat × TypeId)) (off tot : Nat) {α : Type} (E : α → List AV) (Q : α → Prop) : Prop :=
 ∀ (w : World) (H : Type) (enc : TypeId × Value → H) (fuel : Nat) (cs : List Value) (xs : List (DataW H × List MemPlace)), cs.length = tot →
  l.mapM (fun f => DataW.trod enc P w 0 (fun _ => true) true fuel f.2 ((cs.drop f.1).take (P.cellsOf f.2))) = some xs → (∀ n ∈ DataW.weightsEach P (l.map (·.2)) (xs.map (·.1)), n ≤ B) → ∃ a, Q a ∧ VRs (fmAll w) [] (E a) (cs.drop off) ∧ (∀ y ∈ E a, y.flat = true)
theorem ReadsL.nil {off tot : Nat} (h : tot ≤ off) : ReadsL B P [] off tot (fun _ : Unit => []) (fun _ => True) := by
 intro w H enc fuel cs xs hl _ _
 refine ⟨(), trivial, ⟨?_, ?_⟩, by simp⟩
 ·simp; omega
 ·intro i x v h1; simp at h1
theorem ReadsL.cons {α β : Type} {f : Nat × TypeId} {l : List (Nat × TypeId)} {off sz off' tot : Nat} {E : α → List AV} {Q : α → Prop} {E' : β → List AV} {Q' : β → Prop} (ho : f.1 = off) (hs : P.cellsOf f.2 = sz) (ho' : off + sz = off') (hr : Reads B P f.2 E Q) (hl : ReadsL B P l off' tot E' Q') :
  ReadsL B P (f :: l) off tot (fun p : α × β => E p.1 ++ E' p.2) (fun p => Q p.1 ∧ Q' p.2) := by
 intro w H enc fuel cs xs hc h hsz
 rw [List.mapM_cons] at h
 simp only [Option.pure_def, Option.bind_eq_bind, Option.bind_eq_some_iff] at h
 obtain ⟨x, h1, ys, h2, hx⟩ := h
 obtain rfl := Option.some.inj hx
 simp only [List.map_cons, DataW.weightsEach, List.mem_append] at hsz
 obtain ⟨a, q1, v1, f1⟩ := hr w H enc fuel _ _ h1 (fun n hn => hsz n (.inl hn))
 obtain ⟨b, q2, v2, f2⟩ := hl w H enc fuel cs ys hc h2 (fun n hn => hsz n (.inr hn))
 refine ⟨(a, b), ⟨q1, q2⟩, ?_, ?_⟩
 ·have : cs.drop off = (cs.drop f.1).take (P.cellsOf f.2) ++ cs.drop off' := by
   rw [ho, hs, ← ho', ← List.drop_drop, List.take_append_drop]
  rw [this]
  exact v1.append v2
 ·intro y hy
  rcases List.mem_append.1 hy with hy | hy
  ·exact f1 y hy
  ·exact f2 y hy
theorem mapM_of_map {α β γ : Type} (g : α → β) (f : β → Option γ) : ∀ l : List α, (l.map g).mapM f = l.mapM (fun x => f (g x))
 | [] => rfl
 | x :: l => by rw [List.map_cons, List.mapM_cons, List.mapM_cons, mapM_of_map g f l]
theorem Reads.struct {α : Type} {fs : Array Field} {E : α → List AV} {Q : α → Prop} {tot : Nat} (ht : P.underlying t = some (.struct fs)) (hs : P.cellsOf t = tot) (hr : ReadsL B P (fs.toList.map fun f => (f.offset, f.type)) 0 tot E Q) : Reads B P t E Q := by
 intro w H enc fuel cs x h hsz
 cases fuel with
 | zero => simp [DataW.trod] at h
 | succ n =>
  rw [DataW.trod_step] at h
  unfold DataW.trodStep at h
  rw [ht] at h
  split at h
  case h_9 c0 x0 c1 fs2 hq =>
   cases hq
   split at h
   ·rename_i hl
    simp only [Option.map_eq_some_iff] at h
    obtain ⟨xs, h1, rfl⟩ := h
    have := hr w H enc n c0 xs (by omega) (by rw [mapM_of_map]; exact h1) (fun m hm => hsz m (by simp only [DataW.weights, ht]; simpa [List.map_map, Function.comp_def] using hm))
    simpa using this
   ·cases h
  all_goals first | (cases h; done) | (rename_i e; cases e; done) | (simp_all; done)
theorem weightsEach_same {H : Type} {e : TypeId} {m : Nat} : ∀ (l : List Nat) (ds : List (DataW H)), m ∈ DataW.weightsEach P (l.map fun _ => e) ds → m ∈ DataW.weightsAll P e ds
 | [], _, h => by simp [DataW.weightsEach] at h
 | _ :: _, [], h => by simp [DataW.weightsEach] at h
 | _ :: l, d :: ds, h => by
  simp only [List.map_cons, DataW.weightsEach, List.mem_append] at h
  simp only [DataW.weightsAll, List.mem_append]
  rcases h with h | h
  ·exact .inl h
  ·exact .inr (weightsEach_same l ds h)
theorem Reads.array {α : Type} {m : Nat} {e : TypeId} {E : α → List AV} {Q : α → Prop} {tot : Nat} (ht : P.underlying t = some (.array m e)) (hs : P.cellsOf t = tot) (hr : ReadsL B P ((List.range m).map fun i => (i * P.cellsOf e, e)) 0 tot E Q) : Reads B P t E Q := by
 intro w H enc fuel cs x h hsz
 cases fuel with
 | zero => simp [DataW.trod] at h
 | succ n =>
  rw [DataW.trod_step] at h
  unfold DataW.trodStep at h
  rw [ht] at h
  split at h
  case h_10 c0 x0 c1 m2 e2 hq =>
   cases hq
   split at h
   ·rename_i hl
    simp only [Option.map_eq_some_iff] at h
    obtain ⟨xs, h1, rfl⟩ := h
    have := hr w H enc n c0 xs (by omega) (by rw [mapM_of_map]; exact h1) (fun n0 hm => hsz n0 (by simp only [DataW.weights, ht]; exact weightsEach_same (List.range m) _ (by simpa [List.map_map, Function.comp_def] using hm)))
    simpa using this
   ·cases h
  all_goals first | (cases h; done) | (rename_i e; cases e; done) | (simp_all; done)
theorem Reads.as {α β : Type} {E : α → List AV} {Q : α → Prop} {E' : β → List AV} {Q' : β → Prop} (hr : Reads B P t E Q) (g : α → β) (hE : ∀ a, E' (g a) = E a) (hQ : ∀ a, Q a → Q' (g a)) : Reads B P t E' Q' := by
 intro w H enc fuel cs x h hsz
 obtain ⟨a, h1, h2, h3⟩ := hr w H enc fuel cs x h hsz
 exact ⟨g a, hQ a h1, by rw [hE]; exact h2, by rw [hE]; exact h3⟩
theorem arg_agg {α : Type} {E : α → List AV} {Q : α → Prop} {w : World} {H : Type} {enc : TypeId × Value → H} {v : Value} {d : DataW H} {ps : List MemPlace} (hr : Reads B P t E Q) (hv : ∃ cs, v = .agg cs) (h : DataW.Trod enc P w 0 (fun _ => true) true t v d ps) (hsz : ∀ n ∈ d.weights P t, n ≤ B) :
  ∃ a, Q a ∧ VR (fmAll w) [] (.agg (E a)) v := by
 obtain ⟨cs, rfl⟩ := hv
 obtain ⟨fuel, h⟩ := h
 obtain ⟨a, h1, h2, h3⟩ := hr w H enc fuel _ _ h hsz
 exact ⟨a, h1, .agg _ _ (by simpa [Value.cells] using h2.1) h3 (fun i x v hx hv => h2.2 i x v hx (by simpa [Value.cells] using hv))⟩
theorem arg_one {α : Type} {E : α → List AV} {Q : α → Prop} {w : World} {H : Type} {enc : TypeId × Value → H} {v : Value} {d : DataW H} {ps : List MemPlace} (hr : Reads B P t E Q) (hv : v.cells = #[v]) (F : α → AV) (hF : ∀ a, E a = [F a]) (h : DataW.Trod enc P w 0 (fun _ => true) true t v d ps) (hsz : ∀ n ∈ d.weights P t, n ≤ B) :
  ∃ a, Q a ∧ VR (fmAll w) [] (F a) v := by
 obtain ⟨fuel, h⟩ := h
 rw [hv] at h
 obtain ⟨a, h1, h2, _⟩ := hr w H enc fuel _ _ h hsz
 rw [hF] at h2
 exact ⟨a, h1, h2.2 0 _ _ rfl rfl⟩
end
end Go.Abs
namespace Go.Abs
open Go Go.RowKit
theorem keptBut_of_below {W W' : World} (h : Below W.heap.size W W') (may : MemPlace → Prop) : W.keptBut W' may := by
 refine ⟨h.os, h.output, fun i hi => ?_⟩
 have hb := h.block i hi
 have : ∃ o, W.heap[i]? = some o := ⟨_, Array.getElem?_eq_getElem hi⟩
 obtain ⟨o, ho⟩ := this
 rw [hb, ho]
 cases o with
 | cells c t fr => exact ⟨rfl, rfl, rfl, fun _ _ => rfl⟩
 | map es clock => exact .inr ⟨rfl, rfl⟩
 | _ => rfl
theorem sameAt_of_below {W W' : World} (h : Below W.heap.size W W') (p : MemPlace) (hp : p.block < W.heap.size) : W.sameAt W' p := by
 cases p with
 | cell b off =>
  have hb := h.block b hp
  show W'.cell? _ = W.cell? _
  unfold World.cell?
  simp only [hb]
 | map b => exact h.block b hp
section
variable {H : Type} {enc : TypeId × Value → H} {P : Program}
theorem weights_of {ts us : List TypeId} {ds gs : List (DataW H)} (hl : ds.length = ts.length) (h : (DataW.weightsEach P (ts ++ us) (ds ++ gs)).all (· ≤ reachBytes) = true) (j : Nat) (t : TypeId) (d : DataW H) (ht : ts[j]? = some t) (hd : ds[j]? = some d) : ∀ n ∈ d.weights P t, n ≤ reachBytes := by
 intro n hn
 have h1 : j < ts.length := (List.getElem?_eq_some_iff.1 ht).1
 have := List.all_eq_true.1 h n (DataW.weights_mem_each (j := j) (by rw [List.getElem?_append_left h1]; exact ht) (by rw [List.getElem?_append_left (by omega)]; exact hd) n hn)
 simpa using this
theorem trodAll_carry {w w' : World} {base : Nat} {spare : Nat → Bool} {held : Bool} : ∀ {ts : List TypeId} {vs : List Value} {ds : List (DataW H)} {ps : List MemPlace}, DataW.TrodAll enc P w base spare held ts vs ds ps → (∀ p ∈ ps, w.sameAt w' p) → DataW.TrodAll enc P w' base spare held ts vs ds ps
 | [], [], [], _, h, _ => h
 | _ :: _, _ :: _, _ :: _, _, ⟨p, q, ⟨n, h1⟩, h2, e⟩, hs =>
  ⟨p, q, ⟨n, DataW.trod_carry n _ _ _ h1 (fun x hx => hs x (by rw [e]; exact List.mem_append_left _ hx))⟩, trodAll_carry h2 (fun x hx => hs x (by rw [e]; exact List.mem_append_right _ hx)), e⟩
theorem law_post {f : Func} {s : ChangeSpec} {W W' : World} {args : Array Value} {ds gs : List (DataW H)} {before : List MemPlace} {t : TypeId} (hl : laidOutB P = true) (hm : mapsRowed P = true)
  (hz : ((List.range P.types.size).all fun t => match P.underlying t with | some (.slice e) => decide (0 < P.cellsOf e) | _ => true) = true)
  (hW : DataW.Whole enc P f.params.toList s.vars false W args.toList ds gs before) (hvs : s.vars = []) (hB : Below W.heap.size W W') (hpar : ∀ t ∈ f.params.toList, t < P.types.size) (hrt : f.resultTypes = #[t]) (ht : P.underlying t = some .bool)
  (hfn : s.fn H (ds ++ gs) = { results := [.lit (.bool true)], args := ds }) : s.post enc P f false true false false W args (.bool true) W' := by
 have hlt := hW.lt
 have hW0 := hW
 obtain ⟨p, q, hA, hV, hps, _, _⟩ := hW
 rw [hvs] at hV
 obtain ⟨rfl, rfl⟩ : gs = [] ∧ q = [] := by
  cases gs with
  | nil => exact ⟨rfl, hV⟩
  | cons g gs => exact hV.elim
 have hp : ∀ x ∈ p, x.block < W.heap.size := fun x hx => hlt x (by rw [hps]; simp [hx])
 refine ⟨ds, [], before, [], p, [], hW0, ?_, ?_, ?_, keptBut_of_below hB _, by simp⟩
 ·rw [hfn, hrt]
  exact ⟨[], [], ⟨1, by simp [DataW.trod_step, DataW.trodStep, ht, Value.cells]⟩, rfl, rfl⟩
 ·rw [hfn]
  exact DataW.TrodAll.respare (kids_rows hl hm) (fun t e h1 h2 => slices_full_of P hz t e h1 h2) hpar (trodAll_carry hA (fun x hx => sameAt_of_below hB x (hp x hx))) (fun x hx => by simpa using hp x hx)
 ·rw [hfn, hvs]
  rfl
end
end Go.Abs
namespace Go.Abs
open Go
def og (d : Nat) (o : Op) (t a : Nat) (b : Bool) (l : List Nat) : SOp := ⟨some d, o, t, some (a, b), l⟩
def oq (d : Nat) (o : Op) (t : Nat) (l : List Nat) : SOp := ⟨some d, o, t, none, l⟩
def mv (d s t : Nat) (l : List Nat) : SOp := ⟨some d, .move (.tmp s), t, none, l⟩
def ld (d t s : Nat) (l : List Nat) : SOp := ⟨some d, .load t (.tmp s), t, none, l⟩
def fa (d t s i : Nat) (l : List Nat) : SOp := ⟨some d, .fieldAddr t (.tmp s) i, 0, none, l⟩
def ia (d t s i : Nat) (l : List Nat) : SOp := ⟨some d, .indexAddr t (.tmp s) (.tmp i), 0, none, l⟩
def sg (d s t : Nat) (l : List Nat) : SOp := ⟨some d, .assign (.tmp s), t, none, l⟩
def sn (d : Nat) (n : Int) (t : Nat) (l : List Nat) : SOp := ⟨some d, .assign (.const (.int .i64 n)), t, none, l⟩
def sb (d : Nat) (b : Bool) (t : Nat) (l : List Nat) : SOp := ⟨some d, .assign (.const (.bool b)), t, none, l⟩
def xt (d s i t : Nat) (l : List Nat) : SOp := ⟨some d, .extract (.tmp s) i, t, none, l⟩
def ln (d s u t : Nat) (l : List Nat) : SOp := ⟨some d, .call ⟨.builtin .len, #[.tmp s], #[u]⟩, t, none, l⟩
def cf1 (d f a ta t : Nat) (l : List Nat) : SOp := ⟨some d, .call ⟨.value (.func f), #[.tmp a], #[ta]⟩, t, none, l⟩
def cf2 (d f a b ta tb t : Nat) (l : List Nat) : SOp := ⟨some d, .call ⟨.value (.func f), #[.tmp a, .tmp b], #[ta, tb]⟩, t, none, l⟩
def b2 (d : Nat) (o : BinOp) (u a b v t : Nat) (l : List Nat) : SOp := ⟨some d, .binOp o u (.tmp a) (.tmp b) v, t, none, l⟩
def bn (d : Nat) (o : BinOp) (u a : Nat) (n : Int) (v t : Nat) (l : List Nat) : SOp := ⟨some d, .binOp o u (.tmp a) (.const (.int .i64 n)) v, t, none, l⟩
attribute [go_sem] og oq mv ld fa ia sg sn sb xt ln cf1 cf2 b2 bn
theorem aa {α : Type} {l : List α} {i : Int} {x : α} (h : at? l i = some x) : inRange i l.length = some i.toNat ∧ ∀ (β : Type) (E : α → β), (l.map E)[i.toNat]? = some (E x) := ⟨at_in h, fun _ E => at_get E h⟩
theorem bs {α β : Type} {o : Option α} {f : α → Option β} {r : β} (h : o.bind f = some r) : ∃ x, o = some x ∧ f x = some r := bind_some h
end Go.Abs
namespace Go.Abs
open Go
theorem whl_ok {S E R : Type} {body : S → Option (Stp S E R)} (Inv : S → Prop) (Post : Stp S E R → Prop) (m : S → Nat)
  (h : ∀ s, Inv s → (∃ s', body s = some (.next s') ∧ Inv s' ∧ m s' < m s) ∨ (∃ e, body s = some (.brk e) ∧ Post (.brk e)) ∨ (∃ r, body s = some (.ret r) ∧ Post (.ret r))) :
  ∀ (k : Nat) (s : S), Inv s → m s < k → ∃ r, whl body k s = some r ∧ Post r ∧ (∀ s', r ≠ .next s') := by
 intro k
 induction k with
 | zero => intro s _ h; omega
 | succ k ih =>
  intro s hs hk
  rcases h s hs with ⟨s', h1, h2, h3⟩ | ⟨e, h1, h2⟩ | ⟨r, h1, h2⟩
  ·obtain ⟨r, h4, h5⟩ := ih s' h2 (by omega)
   exact ⟨r, by rw [whl, h1]; exact h4, h5⟩
  ·exact ⟨.brk e, by rw [whl, h1], h2, fun _ h => by cases h⟩
  ·exact ⟨.ret r, by rw [whl, h1], h2, fun _ h => by cases h⟩
theorem w64_of {n : Int} (h1 : -9223372036854775808 ≤ n) (h2 : n ≤ 9223372036854775807) : w64 n = n := by
 simp only [w64, IntKind.wrap, IntKind.bits, IntKind.signed]
 simp
 omega
theorem at_of {α : Type} {l : List α} {i : Nat} {x : α} (h : l[i]? = some x) : at? l (i : Int) = some x := by
 have : i < l.length := (List.getElem?_eq_some_iff.1 h).1
 unfold at?
 rw [if_pos ⟨by omega, by omega⟩]
 simpa using h
def scan {R : Type} (g : Nat → Option R) : Nat → Nat → Option R
 | _, 0 => none
 | i, n + 1 => match g i with
  | some r => some r
  | none => scan g (i + 1) n
theorem whl_for {R : Type} {body : Int → Option (Stp Int Unit R)} {n : Nat} {g : Nat → Option R} (hn : n ≤ 9223372036854775807)
  (h1 : ∀ i, i < n → body (i : Int) = some (match g i with | some r => .ret r | none => .next (w64 ((i : Int) + 1)))) (h2 : body (n : Int) = some (.brk ())) :
  ∀ (k d i : Nat), i + d = n → d < k → whl body k (i : Int) = some (match scan g i d with | some r => .ret r | none => .brk ()) := by
 intro k
 induction k with
 | zero => intro d i _ h; omega
 | succ k ih =>
  intro d i hd hk
  cases d with
  | zero =>
   have : i = n := by omega
   subst this
   rw [whl, h2]; rfl
  | succ d =>
   rw [whl, h1 i (by omega)]
   cases hg : g i with
   | some r => simp only [scan, hg]
   | none =>
    simp only [scan, hg]
    have : w64 ((i : Int) + 1) = ((i + 1 : Nat) : Int) := by rw [w64_of (by omega) (by omega)]; omega
    rw [this]
    exact ih d (i + 1) (by omega) (by omega)
theorem whl_each {α R : Type} {l : List α} {body : Int → Option (Stp Int Unit R)} {f : α → Option R} (hn : l.length ≤ 9223372036854775807) {k : Nat} (hk : l.length < k)
  (h1 : ∀ (i : Nat) x, l[i]? = some x → body (i : Int) = some (match f x with | some r => .ret r | none => .next (w64 ((i : Int) + 1)))) (h2 : body (l.length : Int) = some (.brk ())) :
  whl body k 0 = some (match l.findSome? f with | some r => .ret r | none => .brk ()) := by
 have key : ∀ (m : List α) (i k : Nat), l.drop i = m → i + m.length = l.length → m.length < k → whl body k (i : Int) = some (match m.findSome? f with | some r => .ret r | none => .brk ()) := by
  intro m
  induction m with
  | nil =>
   intro i k _ h3 h4
   cases k with
   | zero => omega
   | succ k =>
    have : i = l.length := by simpa using h3
    subst this
    rw [whl, h2]; rfl
  | cons x m ih =>
   intro i k h5 h3 h4
   cases k with
   | zero => omega
   | succ k =>
    simp only [List.length_cons] at h3 h4
    have hx : l[i]? = some x := by
     have := congrArg (fun q => q[0]?) h5
     simpa using this
    rw [whl, h1 i x hx]
    cases hf : f x with
    | some r => simp only [List.findSome?_cons, hf]
    | none =>
     simp only [List.findSome?_cons, hf]
     have : w64 ((i : Int) + 1) = ((i + 1 : Nat) : Int) := by rw [w64_of (by omega) (by omega)]; omega
     rw [this]
     exact ih (i + 1) k (by rw [← List.drop_drop, h5]; rfl) (by omega) (by omega)
 exact key l 0 k rfl (by simp) hk
theorem indexFunc_gen {α : Type} {l : List α} {f : α → Option Bool} {p : α → Bool} (hf : ∀ x ∈ l, f x = some (p x)) (hn : l.length ≤ 9223372036854775807) {k : Nat} (hk : l.length < k)
  {body : Int → Option (Stp Int Unit Int)} (hb : body = fun i1 => bif decide (i1 < (l.length : Int)) then (at? l i1).bind fun x3 => (f x3).bind fun x4 => bif x4 then some (.ret i1) else some (.next (w64 (i1 + 1))) else some (.brk ())) :
  whl body k 0 = some (match l.findIdx? p with | some i => .ret (i : Int) | none => .brk ()) := by
 have h := whl_for (body := body) (n := l.length) (g := fun i => match l[i]? with | some x => bif p x then some (i : Int) else none | none => none) hn ?_ ?_ k l.length 0 (by omega) hk
 ·rw [Int.natCast_zero] at h
  rw [h]
  congr 1
  have key : ∀ (m : List α) (i : Nat), l.drop i = m → i + m.length = l.length → scan (fun i => match l[i]? with | some x => bif p x then some (i : Int) else none | none => none) i m.length = (m.findIdx? p).map fun j => ((i + j : Nat) : Int) := by
   intro m
   induction m with
   | nil => intro i _ _; rfl
   | cons x m ih =>
    intro i h5 h3
    have hx : l[i]? = some x := by
     have := congrArg (fun q => q[0]?) h5
     simpa using this
    simp only [List.length_cons, scan, hx]
    cases hp : p x with
    | true => simp [List.findIdx?_cons, hp]
    | false =>
     simp only [cond_false, List.findIdx?_cons, hp]
     rw [ih (i + 1) (by rw [← List.drop_drop, h5]; rfl) (by simp only [List.length_cons] at h3; omega)]
     cases m.findIdx? p with
     | none => rfl
     | some j => simp; omega
  have := key l 0 rfl (by simp)
  rw [this]
  cases l.findIdx? p with
  | none => rfl
  | some j => simp
 ·intro i hi
  have hx : l[i]? = some l[i] := List.getElem?_eq_getElem hi
  rw [hb]
  simp only [hx, at_of hx, Option.bind_some, hf _ (List.getElem_mem hi)]
  have : decide ((i : Int) < (l.length : Int)) = true := by simp; omega
  rw [this]
  cases p l[i] <;> rfl
 ·rw [hb]; simp
end Go.Abs
namespace Go.Abs
open Go
theorem whl_fold {α S R τ : Type} {l : List α} {body : τ → Option (Stp τ S R)} (mk : Int → S → τ) (f : S → α → S) (Inv : Nat → S → Prop) (hn : l.length ≤ 9223372036854775807) {k : Nat} (hk : l.length < k) {s0 : S} (h0 : Inv 0 s0)
  (h1 : ∀ (i : Nat) x s, l[i]? = some x → Inv i s → body (mk (i : Int) s) = some (.next (mk (w64 ((i : Int) + 1)) (f s x))) ∧ Inv (i + 1) (f s x)) (h2 : ∀ s, Inv l.length s → body (mk (l.length : Int) s) = some (.brk s)) :
  whl body k (mk 0 s0) = some (.brk (l.foldl f s0)) ∧ Inv l.length (l.foldl f s0) := by
 have key : ∀ (m : List α) (i k : Nat) (s : S), l.drop i = m → i + m.length = l.length → m.length < k → Inv i s → whl body k (mk (i : Int) s) = some (.brk (m.foldl f s)) ∧ Inv l.length (m.foldl f s) := by
  intro m
  induction m with
  | nil =>
   intro i k s _ h3 h4 hI
   cases k with
   | zero => omega
   | succ k =>
    have : i = l.length := by simpa using h3
    subst this
    exact ⟨by rw [whl, h2 s hI]; rfl, hI⟩
  | cons x m ih =>
   intro i k s h5 h3 h4 hI
   cases k with
   | zero => omega
   | succ k =>
    simp only [List.length_cons] at h3 h4
    have hx : l[i]? = some x := by
     have := congrArg (fun q => q[0]?) h5
     simpa using this
    obtain ⟨h6, h7⟩ := h1 i x s hx hI
    have : w64 ((i : Int) + 1) = ((i + 1 : Nat) : Int) := by rw [w64_of (by omega) (by omega)]; omega
    rw [this] at h6
    rw [whl, h6]
    exact ih (i + 1) k (f s x) (by rw [← List.drop_drop, h5]; rfl) (by omega) (by omega) h7
 exact key l 0 k s0 rfl (by simp) hk h0
theorem push_of {α : Type} {b : Nat} {l : List α} {x : α} (h : (l.length + 1) * b ≤ 140737488355328) (h2 : l.length + 1 < 4611686018427387904) : push? b l x = some (l ++ [x]) := by
 unfold push? app?
 rw [if_pos ⟨by simpa using h, by simpa using h2⟩]
theorem room_of {n b : Nat} (h : n * b ≤ 140737488355328) (h2 : n < 4611686018427387904) : room? n b = some () := by
 unfold room?
 rw [if_pos ⟨h, h2⟩]
end Go.Abs
