/-
  Part 2 of the proof: a machine over named blocks, what each function computes, and what follows. No condition.
-/
import Derived.Laws.IdiomStrings
import Derived.LoopNIn
import Derived.OrdersIn
import Derived.Scope
import Derived.Orders
import Derived.Test.YtpgccpdlilnakaaBSumsA
set_option linter.unusedVariables false
set_option linter.unusedSimpArgs false
set_option linter.all false
namespace Go.Abs
open Go Go.RowKit
section
variable {P : Program} {T : Tys} {N0 : Nat} {W0 : World} {fm : FM} {ts : List Tie} {H : Heap} {w : World} {t : TypeId} {ti : TI}
theorem TysOK.notIface (hT : TysOK P T) (h : T t = some ti) (hd : ti.d ≠ .iface) : ∃ d, P.underlying t = some d ∧ ∀ m, d ≠ .interface m := by
 have := hT t ti h
 unfold chkTI at this
 simp only [Bool.and_eq_true] at this
 have h7 := this.2
 split at h7 <;> rename_i h1 h2 <;> first | (exact absurd h1 hd) | (exact ⟨_, h2, by intro m; simp⟩) | (cases h7)
theorem partsOf_ok {tm : Tm} {a : Act} (h : TmR fm ts tm a) : ∀ (l : List (Nat × Operand)) (ys : List (Nat × AV)), partsOf tm l = some ys → PRs fm ts ys (l.map fun x => (x.1, a.eval x.2))
 | [], ys, e => by simp only [partsOf, Option.some.injEq] at e; subst e; trivial
 | (i, x) :: l, ys, e => by
  simp only [partsOf] at e
  split at e
  ·rename_i p q hp hq
   obtain rfl := Option.some.inj e
   exact ⟨rfl, opv_sound h hp, partsOf_ok h l q hq⟩
  ·cases e
theorem OpOK.of_bare {kb : Nat} {r : Result Next} {q : Option AV} {d : De} (h : HR N0 W0 fm ts H w) (e : bareDe q = some d) (hr : ∀ x, q = some x → ∃ v, r = .ok (.value v) w ∧ VR fm ts x v) : OpOK N0 W0 fm ts H w kb r d := by
 obtain ⟨x, hx, rfl⟩ := bareDe_eq e
 obtain ⟨v, h1, h2⟩ := hr x hx
 exact .pure h h1 h2
theorem aNilCheck_ok {x y : AV} {v : Value} {o : Oper} {a : Act} {z : Operand} (ho : o.op = .nilCheck z) (hz : a.eval z = v) (hv : VR fm ts x v) (e : aNilCheck x = some y) :
  ∃ u, (execOp a.eval o).run P w = .ok (.value u) w ∧ VR fm ts y u := by
 unfold aNilCheck at e
 split at e
 ·obtain rfl := Option.some.inj e
  refine ⟨v, ?_, hv⟩
  cases hv; simp [execOp, ho, hz]
 ·obtain rfl := Option.some.inj e
  refine ⟨v, ?_, hv⟩
  cases hv <;> simp [execOp, ho, hz]
 ·obtain rfl := Option.some.inj e
  refine ⟨v, ?_, hv⟩
  cases hv; simp [execOp, ho, hz]
 ·split at e
  ·obtain rfl := Option.some.inj e
   refine ⟨v, ?_, hv⟩
   cases hv; simp [execOp, ho, hz]
  ·cases e
 ·cases e
theorem HR.up0 {fm' : FM} {w' : World} (h : HR N0 W0 fm ts H w) (hb : Below w.heap.size w w') (hup : FmUp w.heap.size fm fm') (hin : ∀ b o v, fm' b o = some v → w'.cell? ⟨b, o, none⟩ = some v) : HR N0 W0 fm' ts H w' := by
 have h1 := h.world (w' := w') (fun i hi => hb.block i hi) (hb.mono h.size)
 refine ⟨h1.len, fun l k b hg => (h1.blk l k b hg).mono hup.le (TsLe.refl _) (fun _ _ => rfl), h1.inj, hin, ?_, h1.bel, h1.size, h1.oth⟩
 intro l k b c o hg ht
 rw [hup.fix c o ((h.blk l k b hg).lt ht).1]
 exact h.fmd l k b c o hg ht
theorem aBytes_ok (hT : TysOK P T) {src dst : TypeId} {si di : TI} (hs : T src = some si) (hd : T dst = some di) (h : HR N0 W0 fm ts H w) {x : AV} {v : Value} (hv : VR fm ts x v) {kb : Nat} {d : De} (e : bareDe (aBytes T si di x) = some d)
  {r : Result Next} (hr : ∀ a w', (convert src dst v).run P w = .ok a w' → r = .ok (.value a) w') : OpOK N0 W0 fm ts H w kb r d := by
 unfold bareDe at e
 rw [Option.map_eq_some_iff] at e
 obtain ⟨y, e, rfl⟩ := e
 unfold aBytes at e
 split at e
 ·rename_i el hde
  split at e
  ·rename_i s hsd
   split at e
   ·rename_i te hte
    split at e
    ·rename_i hu8
     split at e
     ·rename_i hsz
      obtain rfl := Option.some.inj e
      cases hv
      have hrun := run_bytes_of_string (P := P) w src dst el s (hT.str hs hsd) (hT.slice hd hde).1 (hT.int hte hu8)
      have hge := grownCap_ge w s.size 0 el
      have hle := grownCap_le_maxLen w s.size 0 el (by simp [maxLen]; omega)
      generalize hcp : grownCap w s.size 0 el = cp at hrun hge hle
      generalize hw' : w.drew.alloc (.cells (bytesRow s cp) el ((bytesRow s cp).size, (bytesRow s cp).size + 1)) = w' at hrun
      have hnew : w'.heap[w.heap.size]? = some (.cells (bytesRow s cp) el ((bytesRow s cp).size, (bytesRow s cp).size + 1)) := by
       rw [← hw']; show (w.heap.push _)[w.heap.size]? = _; simp
      have hbel : Below w.heap.size w w' := by
       rw [← hw']; exact ((Below.refl _ w).drew).alloc (Nat.le_refl _) _
      have hcell : ∀ o, w'.cell? ⟨w.heap.size, o, none⟩ = (bytesRow s cp)[o]? := by
       intro o; simp [World.cell?, hnew]
      have hup : FmUp w.heap.size fm (fun b o => if b = w.heap.size then w'.cell? ⟨b, o, none⟩ else fm b o) := by
       refine ⟨?_, ?_⟩
       ·intro b o u hu
        have hlt := World.block_lt_of_cell? w _ (h.fms b o u hu)
        simp only at hlt
        show (if b = w.heap.size then _ else _) = _
        rw [if_neg (by omega)]; exact hu
       ·intro b o hb
        show (if b = w.heap.size then _ else _) = _
        rw [if_neg (by omega)]
      have hin : ∀ b o u, (fun b o => if b = w.heap.size then w'.cell? ⟨b, o, none⟩ else fm b o) b o = some u → w'.cell? ⟨b, o, none⟩ = some u := by
       intro b o u hu
       simp only at hu
       split at hu
       ·exact hu
       ·have h1 := h.fms b o u hu
        have hlt := World.block_lt_of_cell? w _ h1
        rw [← h1]
        exact World.cell?_of_block (w := w) (w' := w') (a := ⟨b, o, none⟩) (hbel.block b hlt)
      refine ⟨_, ts, w', _, .inl (hr _ _ hrun), h.up0 hbel hup hin, ?_, ⟨hup.le, fun b o hb => hup.fix b o (Nat.lt_of_lt_of_le hb h.size)⟩, TsLe.refl _, fun _ _ _ h => h⟩
      have hlen : (strEs s).length = s.size := strEs_len s
      rw [← hlen]
      refine .sl (strEs s) w.heap.size 0 1 cp (fun i _ => .int .u8 ((s.data.toList.getD i 0).toNat : Int)) ⟨by rw [hlen]; exact hge, by rw [hlen]; simp [maxLen]; omega⟩ ?_ ?_ ?_ ?_
      ·intro c hc
       obtain ⟨_, _, rfl⟩ := List.mem_map.1 hc
       rfl
      all_goals
       intro i c o x hi hx
       unfold strEs at hi
       rw [List.getElem?_map, Option.map_eq_some_iff] at hi
       obtain ⟨b, hb, rfl⟩ := hi
       obtain rfl : o = 0 := by
        have := (List.getElem?_eq_some_iff.1 hx).1
        simp at this; omega
       simp at hx
       subst hx
      ·rw [if_pos rfl, hcell, show 0 + (i * 1 + 0) = i by omega]
       unfold bytesRow
       have hb' : s.data[i]? = some b := by rw [← Array.getElem?_toList]; exact hb
       obtain ⟨hlt, _⟩ := Array.getElem?_eq_some_iff.1 hb'
       rw [Array.getElem?_append_left (by rw [Array.size_map]; exact hlt), Array.getElem?_map, hb']
       simp [hb, List.getD_eq_getElem?_getD]
      ·rfl
      ·have : s.data.toList.getD i 0 = b := by simp [List.getD_eq_getElem?_getD, hb]
       simp only [this]
       exact .int _ _
     ·cases e
    ·cases e
   ·cases e
  ·cases e
 ·cases e
theorem aBuiltin_ok (hT : TysOK P T) (h : HR N0 W0 fm ts H w) (hH : 0 < H.length) {kb : Nat} (hk : ∀ k, kb ≤ k → k < kb + 16 → tb ts 0 k = none) {b : Builtin} {tys : Array TypeId} {ty : TypeId} {cs : Array Bool} {xs : List AV} {vs : List Value} {d : De}
  (hv : VRs fm ts xs vs) (e : aBuiltin T H.get kb b tys.toList xs = some d) : OpOK N0 W0 fm ts H w kb ((builtin b tys ty cs vs.toArray).run P w) d := by
 have one : ∀ {x : AV}, xs = [x] → ∃ v, vs = [v] ∧ VR fm ts x v := by
  rintro x rfl
  have := hv.1
  cases vs with
  | nil => simp at this
  | cons v vs => cases vs with
   | nil => exact ⟨v, rfl, hv.2 0 x v rfl rfl⟩
   | cons => simp at this
 have two : ∀ {x y : AV}, xs = [x, y] → ∃ v u, vs = [v, u] ∧ VR fm ts x v ∧ VR fm ts y u := by
  rintro x y rfl
  have := hv.1
  cases vs with
  | nil => simp at this
  | cons v vs => cases vs with
   | nil => simp at this
   | cons u vs => cases vs with
    | nil => exact ⟨v, u, rfl, hv.2 0 x v rfl rfl, hv.2 1 y u rfl rfl⟩
    | cons => simp at this
 obtain ⟨tl⟩ := tys
 unfold aBuiltin at e
 split at e
 ·cases e
 ·rename_i t l htl
  simp only at htl
  subst htl
  split at e
  ·cases e
  ·rename_i ti ht
   split at e
   ·split at e
    ·rename_i x
     obtain ⟨v, rfl, hvx⟩ := one rfl
     refine .of_bare h e fun y hy => ?_
     obtain ⟨u, h1, h2⟩ := aLen_ok (P := P) (w := w) (l := l) (ty := ty) hT ht hvx hy
     exact ⟨u, by simp only [builtin]; exact exec_v h1, h2⟩
    ·cases e
   ·split at e
    ·rename_i s x
     split at e
     ·rename_i hl
      subst hl
      obtain ⟨v, u, rfl, hvx, hux⟩ := two rfl
      exact doAppend_ok (ty := ty) hT ht h hH hk hvx hux e (fun a w' hr => by simp only [builtin]; exact exec_v hr)
     ·obtain ⟨v, u, rfl, hvx, hux⟩ := two rfl
      unfold doAppendS at e
      split at e
      ·rename_i t2 b
       split at e
       ·rename_i ti2 ht2
        split at e
        ·rename_i hd2
         split at e
         ·rename_i h1
          cases hux
          exact doAppendS_ok (ty := ty) hT ht h hH hk hvx (hT.str ht2 hd2) h1 e (fun a w' hr => by simp only [builtin]; exact exec_v hr)
         ·cases e
        ·cases e
       ·cases e
      ·rename_i t2 kq n
       split at e
       ·rename_i ti2 ht2
        split at e
        ·rename_i kn hd2
         cases hux
         exact doAppendZ_ok (ty := ty) hT ht h hH hk hvx (hT.int ht2 hd2) e (fun a w' hr => by simp only [builtin]; exact exec_v hr)
        ·cases e
       ·cases e
      ·cases e
    ·cases e
   ·split at e
    ·rename_i s x
     split at e
     ·rename_i hl
      subst hl
      obtain ⟨v, u, rfl, hvx, hux⟩ := two rfl
      exact doCopy_ok (ty := ty) hT ht h hvx hux e (fun a w' hr => by simp only [builtin]; exact exec_v hr)
     ·cases e
    ·cases e
   ·split at e
    ·rename_i x
     obtain ⟨v, rfl, hvx⟩ := one rfl
     exact doClear_ok (ty := ty) (l := l) hT ht h hvx e (fun a w' hr => by simp only [builtin]; exact exec_v hr)
    ·cases e
   ·refine .of_bare h e fun y hy => ?_
    obtain ⟨u, h1, h2⟩ := aMinMax_ok (P := P) (w := w) (l := ⟨t :: l⟩) (ty := ty) hv hy
    simp only [if_true] at h1
    exact ⟨u, by simp only [builtin]; exact exec_v h1, h2⟩
   ·refine .of_bare h e fun y hy => ?_
    obtain ⟨u, h1, h2⟩ := aMinMax_ok (P := P) (w := w) (l := ⟨t :: l⟩) (ty := ty) hv hy
    simp only [Bool.false_eq_true, if_false] at h1
    exact ⟨u, by simp only [builtin]; exact exec_v h1, h2⟩
   ·cases e
theorem doSlice3_ok (hT : TysOK P T) (ht : T t = some ti) (h : HR N0 W0 fm ts H w) {kb : Nat} {x' : AV} {v0 v1 v2 : Value} {vlo : Option Value} {zl zh zm : Int} {kh km : IntKind} {d : De}
  (hvx : VR fm ts x' v0) (hlo : (vlo = none ∧ zl = 0) ∨ ∃ kl v, vlo = some v ∧ VR fm ts (.int kl zl) v) (hvh : VR fm ts (.int kh zh) v1) (hvm : VR fm ts (.int km zm) v2) (e : doSlice3 ti x' zl zh zm = some d) {r : Result Next}
  (hr : ∀ v w', (Instr.sliceAt t v0 vlo (some v1) (some v2)).run P w = .ok v w' → r = .ok (.value v) w') : OpOK N0 W0 fm ts H w kb r d := by
 unfold doSlice3 at e
 split at e
 ·rename_i el hd
  obtain ⟨hun, ⟨inf, hinf, hinfz, _, _⟩, _⟩ := hT.slice ht hd
  obtain ⟨nn, hcond, hs3⟩ : ∃ nn : Nat, ((0 ≤ zl ∧ zl ≤ zh) ∧ zh ≤ zm ∧ zm ≤ nn) ∧ ∃ aa cc, v0 = .slice aa nn cc ∧ nn ≤ cc ∧ ∃ y, d = ⟨y, []⟩ ∧ VR fm ts y (.slice (if zm.toNat = zl.toNat then aa else aa.map (·.add (zl.toNat * inf.size))) (zh.toNat - zl.toNat) (zm.toNat - zl.toNat)) := by
   split at e
   ·rename_i esz es
    split at e
    ·rename_i hc
     obtain rfl := Option.some.inj e
     skip
     cases hvx with
     | slNil e0 p cap =>
      refine ⟨0, by simpa using hc, _, _, rfl, Nat.zero_le _, _, rfl, ?_⟩
      simp only [List.length_nil] at hc
      have z1 : zm.toNat = 0 := by omega
      have z2 : zl.toNat = 0 := by omega
      have z3 : zh.toNat = 0 := by omega
      simp only [z1, z2, z3, if_true, Nat.sub_self, List.drop_nil, List.take_nil]
      split
      ·exact .slNil _ _ _
      ·exact .dead _
     | sl es cb off esz cap u hcap g1 g2 g3 g4 =>
      refine ⟨_, hc, _, _, rfl, hcap.1, _, rfl, ?_⟩
      split
      ·rename_i he
       by_cases hhl : zh.toNat - zl.toNat = 0
       ·simp only [hhl, List.take_zero]
        exact .slNil _ _ _
       ·have hcl : ¬ zm.toNat = zl.toNat := by omega
        simp only [if_neg hcl, Option.map_some, Addr.add_lit]
        have hlen : ((es.drop zl.toNat).take (zh.toNat - zl.toNat)).length = zh.toNat - zl.toNat := by simp; omega
        have hget : ∀ (i : Nat) c, ((es.drop zl.toNat).take (zh.toNat - zl.toNat))[i]? = some c → es[zl.toNat + i]? = some c := by
         intro i c hc
         rw [List.getElem?_take] at hc
         split at hc
         ·rw [List.getElem?_drop] at hc; exact hc
         ·cases hc
        have := VR.sl (fm := fm) (ts := ts) ((es.drop zl.toNat).take (zh.toNat - zl.toNat)) cb (off + zl.toNat * esz) esz (zm.toNat - zl.toNat) (fun i o => u (zl.toNat + i) o) (by rw [hlen]; have := hcap.2; exact ⟨by omega, by omega⟩)
         (fun c hc => g1 c (List.mem_of_mem_drop (List.mem_of_mem_take hc)))
         (by
          intro i c o x hc ho
          have := g2 (zl.toNat + i) c o x (hget i c hc) ho
          rw [← this]; congr 1; rw [Nat.add_mul]; omega)
         (fun i c o x hc ho => g3 (zl.toNat + i) c o x (hget i c hc) ho)
         (fun i c o x hc ho => g4 (zl.toNat + i) c o x (hget i c hc) ho)
        rw [hlen] at this
        have hinfs : inf.size = esz := by rw [he]; exact hinfz
        rw [hinfs]
        exact this
      ·exact .dead _
    ·cases e
   ·split at e
    ·rename_i hc
     obtain rfl := Option.some.inj e
     skip
     cases hvx with
     | locGone _ _ _ _ _ _ _ _ _ hn => exact ⟨_, hc, _, _, rfl, hn, _, rfl, .dead _⟩
     | locOld _ _ _ _ _ _ _ _ _ _ _ _ hn => exact ⟨_, hc, _, _, rfl, hn, _, rfl, .dead _⟩
     | locNil => exact ⟨0, by simpa using hc, _, _, rfl, Nat.zero_le _, _, rfl, .dead _⟩
     | loc _ _ _ _ _ _ _ _ _ _ _ _ hnc => exact ⟨_, hc, _, _, rfl, hnc, _, rfl, .dead _⟩
    ·cases e
   ·cases e
  obtain ⟨aa, cc, rfl, hle, yy, rfl, hyy⟩ := hs3
  obtain ⟨⟨c1, c2⟩, c3, c4⟩ := hcond
  cases hvh
  cases hvm
  have h0 : 0 ≤ zm := by omega
  have h1 : 0 ≤ zh := by omega
  have h2 : zm ≤ cc := by omega
  have e1 : zh ≤ ((zm.toNat : Nat) : Int) := by omega
  have e2 : zl ≤ ((zh.toNat : Nat) : Int) := by omega
  have hsb : (Instr.sliceBounds true nn cc vlo (some (.int kh zh)) (some (.int km zm))).run P w = .ok (zl.toNat, zh.toNat, zm.toNat) w := by
   rcases hlo with ⟨rfl, rfl⟩ | ⟨kl, vl, rfl, hvl⟩
   ·simp only [Instr.sliceBounds, Instr.sliceBound, asIntOf, Sem.run_bind, Sem.run_pure, Result.andThen_ok, h0, h2, and_self, if_true, h1, e1]
    rfl
   ·cases hvl
    simp only [Instr.sliceBounds, Instr.sliceBound, asIntOf, Sem.run_bind, Sem.run_pure, Result.andThen_ok, h0, h2, and_self, if_true, h1, e1, c1, e2, if_true, Option.isSome]
  have hrun : (Instr.sliceAt t (.slice aa nn cc) vlo (some (.int kh zh)) (some (.int km zm))).run P w = .ok (.slice (if zm.toNat = zl.toNat then aa else aa.map (·.add (zl.toNat * inf.size))) (zh.toNat - zl.toNat) (zm.toNat - zl.toNat)) w := by
   simp [Instr.sliceAt, run_underlying hun, Instr.slice, hsb, sizeOf, typeInfo, hinf]
  exact OpOK.pure h (hr _ _ hrun) hyy
 ·cases e
theorem opDe_sound (hT : TysOK P T) (h : HR N0 W0 fm ts H w) (hH : 0 < H.length) {kb : Nat} (hk : ∀ k, kb ≤ k → k < kb + 16 → tb ts 0 k = none) {tm : Tm} {a : Act} (htm : TmR fm ts tm a) {o : Oper} {d : De}
  (e : opDe T kb o.op o.type tm H.get = some d) : OpOK N0 W0 fm ts H w kb ((execOp a.eval o).run P w) d := by
 have ev : ∀ {x : Operand} {y : AV}, opv tm x = some y → VR fm ts y (a.eval x) := fun hx => opv_sound htm hx
 unfold opDe at e
 split at e
 ·rename_i x ho
  refine .of_bare h e fun y hy => ⟨_, ?_, ev hy⟩
  simp [execOp, ho]
 ·rename_i x ho
  split at e
  ·rename_i hx
   split at e
   ·rename_i ti ht
    split at e
    ·rename_i el hd
     obtain rfl := Option.some.inj e
     have hvx := ev hx
     have hv : a.eval x = .slice none 0 0 := by
      generalize a.eval x = v at hvx
      cases hvx; rfl
     refine assignNil_ok h hH hk el ti.el ?_
     simp only [execOp, ho, Sem.run_pure, hv]
    ·cases e
   ·cases e
  ·refine .of_bare h e fun y hy => ⟨_, ?_, ev hy⟩
   simp [execOp, ho]
 ·
  rename_i c x y ho
  split at e
  ·rename_i b hb
   have hc := ev hb
   have hcv : a.eval c = .bool b := by
    generalize a.eval c = v at hc
    cases hc; rfl
   refine .of_bare h e fun z hz => ?_
   cases b with
   | true => exact ⟨a.eval x, by simp [execOp, ho, hcv, asBool], ev hz⟩
   | false => exact ⟨a.eval y, by simp [execOp, ho, hcv, asBool], ev hz⟩
  ·cases e
 ·
  rename_i el ho
  split at e
  ·rename_i ti ht
   obtain ⟨i, hi, hsz, _, z, hz, hzv⟩ := (hT.ok ht).info
   refine newBox_ok (v := z) hT ht h hH hk el (hzv fm ts) (hT.ok ht).zflat e ?_
   simp [execOp, ho, Instr.alloc, zeroValue, typeInfo, hi, hz, newVar, newRow]
  ·cases e
 ·
  rename_i el x ho
  split at e
  ·rename_i ti x' ht hx
   split at e
   ·rename_i cs hcs
    obtain ⟨h1, h2⟩ := (ev hx).parts hcs
    refine newBox_ok (v := a.eval x) hT ht h hH hk el h1 h2 e ?_
    simp [execOp, ho, Instr.box, newVar, newRow]
   ·cases e
  ·cases e
 ·
  rename_i t ps ho
  split at e
  ·rename_i ti ps' ht hps
   refine .of_bare h e fun y hy => ?_
   have hp := partsOf_ok htm _ _ hps
   obtain ⟨u, h1, h2⟩ := aBuild_ok (P := P) (w := w) (ps := ps.map fun (i, x) => (i, a.eval x)) hT ht (by simpa using hp) hy
   exact ⟨u, by simp only [execOp, ho]; exact exec_v h1, h2⟩
  ·cases e
 ·
  rename_i t len ps ho
  split at e
  ·rename_i ti ps' ht hps
   have hp := partsOf_ok htm _ _ hps
   exact doBuildSlice_ok (ps := ps.map fun (i, x) => (i, a.eval x)) hT ht h hH hk (by simpa using hp) e (fun v w' hr => by simp only [execOp, ho]; exact exec_v hr)
  ·cases e
 ·
  rename_i t x ho
  split at e
  ·rename_i ti x' ht hx
   refine .of_bare h e fun y hy => ?_
   obtain ⟨u, h1, h2⟩ := doLoad_ok (P := P) hT ht h (ev hx) hy
   exact ⟨u, by simp only [execOp, ho]; exact exec_v h1, h2⟩
  ·cases e
 ·
  rename_i t x y ho
  split at e
  ·rename_i ti x' y' ht hx hy
   split at e
   ·rename_i cs hcs
    obtain ⟨h1, h2⟩ := (ev hy).parts hcs
    exact doStore_ok hT ht h hH hk (ev hx) h1 h2 e (fun w' hr => by simp only [execOp, ho]; exact exec_u hr)
   ·cases e
  ·cases e
 ·
  rename_i x ho
  split at e
  ·rename_i x' hx
   exact .of_bare h e fun y hy => aNilCheck_ok ho rfl (ev hx) hy
  ·cases e
 ·
  rename_i op t x y _ ho
  split at e
  ·rename_i ti x' y' ht hx hy
   refine .of_bare h e fun z hz => ?_
   obtain ⟨u, h1, h2⟩ := aBinT_ok (P := P) (w := w) (ox := x) (oy := y) hT ht (ev hx) (ev hy) hz
   exact ⟨u, by simp only [execOp, ho]; exact exec_v h1, h2⟩
  ·cases e
 ·
  rename_i op _ x ho
  split at e
  ·rename_i x' hx
   refine .of_bare h e fun z hz => ?_
   obtain ⟨u, h1, h2⟩ := aUn_ok (P := P) (w := w) (ev hx) hz
   exact ⟨u, by simp only [execOp, ho]; exact exec_v h1, h2⟩
  ·cases e
 ·
  rename_i src dst x ho
  split at e
  ·rename_i si di x' hs hd hx
   cases hz : aConv T H.get si di x' with
   | some z =>
    rw [hz, orO_some] at e
    refine .of_bare h e fun z' hz' => ?_
    obtain rfl := Option.some.inj hz'
    obtain ⟨u, h1, h2⟩ := aConv_ok (P := P) hT hs hd h (ev hx) hz
    exact ⟨u, by simp only [execOp, ho]; exact exec_v h1, h2⟩
   | none =>
    rw [hz, orO_none] at e
    exact aBytes_ok hT hs hd h (ev hx) e (fun a w' hr => by simp only [execOp, ho]; exact exec_v hr)
  ·cases e
 ·
  rename_i f x y ho
  split at e
  ·rename_i x' y' hx hy
   obtain rfl := Option.some.inj e
   have h1 := opvs_sound htm _ _ hx
   have h2 := opvs_sound htm _ _ hy
   refine .pure h (v := .func f (x.map a.eval) (y.map a.eval)) ?_ ?_
   ·simp [execOp, ho, Instr.makeFunc]
   ·exact .fn f x' y' _ _ (by simpa using h1.1) (by simpa using h2.1) (fun i z v p q => h1.2 i z v p (by simpa using q)) (fun i z v p q => h2.2 i z v p (by simpa using q))
  ·cases e
 ·
  rename_i t l c ho
  split at e
  ·rename_i ti l' c' ht hl hc
   exact doMakeSlice_ok (P := P) hT ht h hH hk (ev hl) (ev hc) e (fun v w' hr => by simp only [execOp, ho]; exact exec_v hr)
  ·cases e
 ·
  rename_i t x lo hi mx ho
  split at e
  ·rename_i mxv
   split at e
   ·split at e
    ·rename_i ti x' kh zh km zm ht hx hh hm
     split at e
     ·split at e
      ·rename_i hz
       obtain ⟨rfl, rfl⟩ := hz
       exact doSliceZero_ok (P := P) hT ht h hH hk (ev hx) (ev hh) (ev hm) e (fun v w' hr => by simp only [execOp, ho, Option.map_none, Option.map_some]; exact exec_v hr) rfl
      ·cases e
     ·exact doSlice3_ok (P := P) hT ht h (ev hx) (vlo := none) (.inl ⟨rfl, rfl⟩) (ev hh) (ev hm) e (fun v w' hr => by simp only [execOp, ho, Option.map_none, Option.map_some]; exact exec_v hr)
    ·cases e
   ·rename_i lov hiv
    split at e
    ·rename_i ti x' kl zl kh zh ht hx hl hh
     split at e
     ·rename_i km zm hm
      exact doSlice3_ok (P := P) hT ht h (ev hx) (vlo := some (a.eval lov)) (.inr ⟨kl, _, rfl, ev hl⟩) (ev hh) (ev hm) e (fun v w' hr => by simp only [execOp, ho, Option.map_some]; exact exec_v hr)
     ·cases e
    ·cases e
   ·cases e
  ·split at e
   ·rename_i ti x' ht hx
    have fin : ∀ (lo' hi' : Option AV), (∀ z, lo' = some z → ∃ v, lo.map a.eval = some v ∧ VR fm ts z v) → (lo' = none → lo.map a.eval = none) → (∀ z, hi' = some z → ∃ v, hi.map a.eval = some v ∧ VR fm ts z v) → (hi' = none → hi.map a.eval = none) →
      bareDe (aSlice ti x' lo' hi') = some d → OpOK N0 W0 fm ts H w kb ((execOp a.eval o).run P w) d := by
     intro lo' hi' h1 h2 h3 h4 e'
     refine .of_bare h e' fun z hz => ?_
     obtain ⟨u, h5, h6⟩ := aSlice_ok (P := P) (w := w) hT ht (ev hx) h1 h2 h3 h4 hz
     exact ⟨u, by simp only [execOp, ho, Option.map_none]; exact exec_v h5, h6⟩
    split at e
    ·exact fin none none (by simp) (by simp) (by simp) (by simp) e
    ·rename_i lo
     split at e
     ·rename_i lo' hlo
      exact fin (some lo') none (fun z hz => ⟨_, rfl, by obtain rfl := Option.some.inj hz; exact ev hlo⟩) (by simp) (by simp) (by simp) e
     ·cases e
    ·rename_i hi
     split at e
     ·rename_i hi' hhi
      exact fin none (some hi') (by simp) (by simp) (fun z hz => ⟨_, rfl, by obtain rfl := Option.some.inj hz; exact ev hhi⟩) (by simp) e
     ·cases e
    ·rename_i lo hi
     split at e
     ·rename_i lo' hi' hlo hhi
      cases hbe : aBeyond H.get ti x' lo' hi' with
      | none =>
       rw [hbe, orO_none] at e
       exact fin (some lo') (some hi') (fun z hz => ⟨_, rfl, by obtain rfl := Option.some.inj hz; exact ev hlo⟩) (by simp) (fun z hz => ⟨_, rfl, by obtain rfl := Option.some.inj hz; exact ev hhi⟩) (by simp) e
      | some z =>
       rw [hbe, orO_some] at e
       refine .of_bare h e fun z' hz' => ?_
       obtain rfl := Option.some.inj hz'
       unfold aBeyond at hbe
       split at hbe
       ·rename_i lv k esz i n g
        split at hbe
        ·rename_i el hd
         obtain ⟨hun, ⟨inf, hinf, hsz, _, _⟩, _⟩ := hT.slice ht hd
         split at hbe
         ·rename_i kl l kh hi2
          split at hbe
          ·rename_i et ez es hg
           split at hbe
           ·rename_i hc
            obtain ⟨⟨rfl, hlg⟩, ⟨c1, c2⟩, c3⟩ := hc
            obtain rfl := Option.some.inj hbe
            have hvx := ev hx
            have hvl := ev hlo
            have hvh := ev hhi
            generalize hex : a.eval x = vx at hvx
            generalize hel : a.eval lo = vl at hvl
            generalize heh : a.eval hi = vh at hvh
            cases hvl
            cases hvh
            have hb := h.blk lv k _ hg
            have h1 : 0 ≤ hi2 := by omega
            have h2 : l ≤ ((hi2.toNat : Nat) : Int) := by omega
            have run : ∀ (p : Option Addr) (nn cp : Nat), hi2.toNat ≤ cp → (Instr.sliceAt t (.slice p nn cp) (some (.int kl l)) (some (.int kh hi2)) none).run P w = .ok (.slice (if cp = l.toNat then p else p.map (·.add (l.toNat * ti.el))) (hi2.toNat - l.toNat) (cp - l.toNat)) w := by
             intro p nn cp hcp
             have h3 : hi2 ≤ cp := by omega
             have hsb : (Instr.sliceBounds true nn cp (some (.int kl l)) (some (.int kh hi2)) none).run P w = .ok (l.toNat, hi2.toNat, cp) w := by
              simp only [Instr.sliceBounds, Instr.sliceBound, asIntOf, Sem.run_bind, Sem.run_pure, Result.andThen_ok, h1, h3, and_self, if_true, c1, h2]
             simp [Instr.sliceAt, run_underlying hun, Instr.slice, hsb, sizeOf, typeInfo, hinf, hsz]
            cases hvx with
            | locGone _ _ _ _ _ _ p cp htb hn ha => rw [htb] at hb; cases hb
            | locOld _ _ _ _ _ _ p cp m' c htb hlt hn ha => rw [htb] at hb; have := hb.arr_inv.1; omega
            | locNil _ _ _ a0 htb =>
             have hl0 : l.toNat = 0 := by omega
             have hh0 : hi2.toNat = 0 := by omega
             refine ⟨_, by simp only [execOp, ho, Option.map_some, Option.map_none, hex, hel, heh]; exact exec_v (run a0 0 0 (by omega)), ?_⟩
             rw [hl0, hh0]
             simp
             exact .locNil lv k ti.el _ htb
            | loc _ _ _ _ _ _ c cap cp p htb hin hnc hcc ha =>
             rw [htb] at hb
             obtain ⟨hA, hN⟩ := hb.arr_inv.2.2 c cap rfl
             have hgc : g ≤ cap := by
              obtain ⟨cells, _, _, c3', _⟩ := hA
              omega
             refine ⟨_, by simp only [execOp, ho, Option.map_some, Option.map_none, hex, hel, heh]; exact exec_v (run (some p) n cp (by omega)), ?_⟩
             by_cases hcl : cp = l.toNat
             ·rw [if_pos hcl]
              refine .loc lv k ti.el (i + l.toNat) (hi2.toNat - l.toNat) g c cap (cp - l.toNat) p htb (by omega) (by omega) (by omega) ?_
              intro hz
              rcases hz with hz | hz
              ·omega
              ·have hi0 : i = 0 := by omega
               have hl0 : l.toNat = 0 := by omega
               subst hi0
               rw [hl0]
               exact ha (.inr rfl)
             ·simp only [if_neg hcl, Option.map_some]
              have hp := ha (.inl (by omega))
              subst hp
              rw [Addr.add_lit, ← Nat.add_mul]
              exact .loc lv k ti.el (i + l.toNat) (hi2.toNat - l.toNat) g c cap (cp - l.toNat) _ htb (by omega) (by omega) (by omega) (fun _ => rfl)
           ·cases hbe
          ·cases hbe
         ·cases hbe
        ·cases hbe
       ·cases hbe
     ·cases e
   ·cases e
 ·
  rename_i s x f ho
  split at e
  ·rename_i ti x' ht hx
   refine .of_bare h e fun z hz => ?_
   obtain ⟨u, h1, h2⟩ := aFieldAddr_ok (P := P) (w := w) hT ht (ev hx) hz
   exact ⟨u, by simp only [execOp, ho]; exact exec_v h1, h2⟩
  ·cases e
 ·
  rename_i s x f ho
  split at e
  ·rename_i ti x' ht hx
   refine .of_bare h e fun z hz => ?_
   obtain ⟨u, h1, h2⟩ := aField_ok (P := P) (w := w) hT ht (ev hx) hz
   exact ⟨u, by simp only [execOp, ho]; exact exec_v h1, h2⟩
  ·cases e
 ·
  rename_i t x i ho
  split at e
  ·rename_i ti x' i' ht hx hi
   refine .of_bare h e fun z hz => ?_
   obtain ⟨u, h1, h2⟩ := aIndexAddr_ok (P := P) (w := w) hT ht (ev hx) (ev hi) hz
   exact ⟨u, by simp only [execOp, ho]; exact exec_v h1, h2⟩
  ·cases e
 ·
  rename_i t x i ho
  split at e
  ·rename_i ti x' i' ht hx hi
   refine .of_bare h e fun z hz => ?_
   obtain ⟨u, h1, h2⟩ := aIndex_ok (P := P) (w := w) hT ht (ev hx) (ev hi) hz
   exact ⟨u, by simp only [execOp, ho]; exact exec_v h1, h2⟩
  ·cases e
 ·
  rename_i x i ho
  split at e
  ·rename_i xs hx
   have hvx := ev hx
   refine .of_bare h e fun z hz => ?_
   obtain ⟨vs, hvs, h1, h2⟩ : ∃ vs : Array Value, a.eval x = .tuple vs ∧ xs.length = vs.size ∧ ∀ (i : Nat) x v, xs[i]? = some x → vs[i]? = some v → VR fm ts x v := by
    generalize a.eval x = v at hvx
    cases hvx with
    | tup _ vs h1 h2 => exact ⟨vs, rfl, h1, h2⟩
   have hlt : i < vs.size := by rw [← h1]; exact (List.getElem?_eq_some_iff.1 hz).1
   exact ⟨vs[i], by simp [execOp, ho, Instr.extract, hvs, hlt], h2 i z _ hz (Array.getElem?_eq_getElem hlt)⟩
  ·cases e
 ·
  rename_i t x ho
  split at e
  ·rename_i ti l k esz i n g ht hx
   have hvx := ev hx
   split at e
   ·rename_i m el hd
    obtain ⟨hun, _⟩ := hT.array ht hd
    split at e
    ·rename_i hc
     obtain ⟨rfl, hmn, hm⟩ := hc
     obtain rfl := Option.some.inj e
     obtain ⟨ad, cp, hvs, hp⟩ : ∃ ad cp, a.eval x = .slice (some ad) n cp ∧ VR fm ts (.eptr l k ti.el i 0 g) (.pointer (some ad)) := by
      generalize a.eval x = v at hvx
      cases hvx with
      | locGone _ _ _ _ _ _ a' cp' htk hn ha =>
       obtain ⟨p, rfl⟩ := ha (by omega)
       exact ⟨p, cp', rfl, .eptrGone _ _ _ _ _ _ _ htk⟩
      | locOld _ _ _ _ _ _ a' cp' m' c htk hlt hn ha =>
       obtain ⟨p, rfl⟩ := ha (by omega)
       exact ⟨p, cp', rfl, .eptrOld _ _ _ _ _ _ _ m' c htk hlt⟩
      | locNil => omega
      | loc _ _ _ _ _ _ c cap cp' a' htk hin hnc hcc ha =>
       refine ⟨a', cp', rfl, ?_⟩
       rw [ha (.inl (by omega))]
       exact .eptr l k ti.el i 0 g c cap htk
     refine .pure h (v := .pointer (some ad)) ?_ hp
     have := run_arrayAt (P := P) w t el m (some ad) n cp hun hmn
     simp only [execOp, ho, hvs]
     exact exec_v this
    ·cases e
   ·cases e
  ·cases e
 ·
  rename_i t x ho
  split at e
  ·rename_i ti x' ht hx
   split at e
   ·cases e
   ·rename_i hd
    obtain rfl := Option.some.inj e
    obtain ⟨dd, hdd, hne⟩ := hT.notIface ht hd
    refine .pure h (v := .iface t (a.eval x)) ?_ (.ifc t x' _ (ev hx))
    simp only [execOp, ho]
    refine exec_v ?_
    simp only [Instr.makeInterface, Sem.run_bind, run_underlying hdd, Result.andThen_ok]
    cases dd <;> first | rfl | (exact absurd rfl (hne _))
  ·cases e
 ·
  rename_i c ho
  split at e
  ·rename_i b hb
   split at e
   ·rename_i xs hxs
    have hv := opvs_sound htm _ _ hxs
    have := aBuiltin_ok (P := P) (ty := o.type) (cs := c.args.map fun | .const _ => true | _ => false) hT h hH hk hv e
    have e1 : (execOp a.eval o).run P w = (builtin b c.argTypes o.type (c.args.map fun | .const _ => true | _ => false) (c.args.toList.map a.eval).toArray).run P w := by
     simp only [execOp, ho, resolve, hb, Sem.run_bind, Sem.run_pure, Result.andThen_ok, invoke]
     congr 2
     apply Array.toList_inj.1
     simp
    rw [e1]; exact this
   ·cases e
  ·cases e
 ·cases e
end
end Go.Abs
namespace Go.Abs
open Go Go.RowKit
set_option linter.unusedSectionVars false
class Md where
 rnd : Option Nat
 dfs : List Deferred
instance (priority := 10) md0 : Md := ⟨none, []⟩
section
variable [Md]
def FW : Fence := { fn := fun _ => True, depth := none, alive := false, round := Md.rnd }
theorem callsFW {P : Program} {n : Nat} {f : FuncId} {args : Array Value} {w : World} {R : Ending → World → Prop} (h : Calls P f args w R) : CallsIn FW n P f args w R :=
 callsIn_wide.2 h
theorem opwp_value {P : Program} {o : Oper} {a : Act} {w w' : World} {next : Act → World → Prop} {Q : Exit → Act → World → Prop} {v : Value} (hd : ∀ c, o.op ≠ .defer c) (hr : (execOp a.eval o).run P w = .ok (.value v) w') (h : next (a.put o.dst v) w') : o.wpIn FW 0 P a w next Q :=
 ⟨fun _ _ => trivial, by rw [Oper.semAt_eq _ _ _ hd, hr]; exact h⟩
theorem opwp_skip {P : Program} {o : Oper} {a : Act} {w w' : World} {next : Act → World → Prop} {Q : Exit → Act → World → Prop} (hd : ∀ c, o.op ≠ .defer c) (hr : (execOp a.eval o).run P w = .ok .skip w') (h : next (a.put o.dst undef) w') : o.wpIn FW 0 P a w next Q :=
 ⟨fun _ _ => trivial, by rw [Oper.semAt_eq _ _ _ hd, hr]; exact h⟩
theorem opwp_enter {P : Program} {o : Oper} {a : Act} {w w' : World} {next : Act → World → Prop} {Q : Exit → Act → World → Prop} {f : FuncId} {args : Array Value} (hd : ∀ c, o.op ≠ .defer c) (hr : (execOp a.eval o).run P w = .ok (.enter f args) w')
  (h : Calls P f args w' fun
   | .returned v, w'' => next (a.put o.dst v) w''
   | .panicked chain, w'' => Q (.panic chain) a w''
   | .outgrown, _ => LetsOut Q) : o.wpIn FW 0 P a w next Q :=
 ⟨fun _ _ => trivial, by rw [Oper.semAt_eq _ _ _ hd, hr, Oper.uponIn_enter]; exact ⟨fun h => by simp [FW] at h, callsFW h⟩⟩
theorem opwp_panic {P : Program} {o : Oper} {a : Act} {w w' : World} {next : Act → World → Prop} {Q : Exit → Act → World → Prop} {v : Value} (hd : ∀ c, o.op ≠ .defer c) (hr : (execOp a.eval o).run P w = .halt (.panic v) w') (h : Q (.panic [{ v, recovered := false }]) a w') : o.wpIn FW 0 P a w next Q :=
 ⟨fun _ _ => trivial, by rw [Oper.semAt_eq _ _ _ hd, hr]; exact h⟩
theorem wpIn_scope_straight {P : Program} {Q : Exit → Act → World → Prop} {a : Act} {w : World} {c : Code} (h : c.wpIn FW 0 P (Exit.noGoto Q) a w) : (Code.scope c).wpIn FW 0 P Q a w := by
 intro b k cs hro hb hr
 have s1 : step P (lone (b.atR a (.code (.scope c) :: k)) cs w) = .next (lone (b.atR a (.code c :: .inScope c :: k)) cs w) :=
  step_lone_go (by simp [stepG, stepG.exec, Frame.atR])
 have s2 : ∀ a w, step P (lone (b.atR a (.inScope c :: k)) cs w) = .next (lone (b.atR a k) cs w) := fun a w =>
  step_lone_go (by simp [stepG, stepG.exec, Frame.atR])
 have h0 : (lone (b.atR a (.code (.scope c) :: k)) cs w).fenced P FW := fenced_calm hb hr rfl
 obtain ⟨e, a₁, w₁, hq, harr⟩ := h b (.inScope c :: k) cs hro hb hr
 cases e with
 | normal => exact ⟨.normal, a₁, w₁, hq, .head h0 s1 (StepsIn.trans harr (.one (fenced_calm hb hr rfl) (s2 _ _)))⟩
 | exit id =>
  have hx : exitTo id (.inScope c :: k) = exitTo id k := by simp [exitTo]
  exact ⟨.exit id, a₁, w₁, hq, fun k' hk => .head h0 s1 (harr.1 k' (by rw [hx]; exact hk)), fun hr' hk => let ⟨k₁, h1, h2⟩ := harr.2 hr' (by rw [hx]; exact hk); ⟨k₁, h1, .head h0 s1 h2⟩⟩
 | goto l => exact hq.elim
 | ret => exact ⟨_, a₁, w₁, hq, .of_steps (.one h0 s1) harr⟩
 | panic ch => exact ⟨_, a₁, w₁, hq, .of_steps (.one h0 s1) harr⟩
 | outgrown => exact ⟨_, a₁, w₁, hq, .of_steps (.one h0 s1) harr⟩
theorem wpIn_plain {P : Program} {c : Code} {Q : Exit → Act → World → Prop} {a : Act} {w : World} (d : List Deferred) : c.wpIn (@FW ⟨none, d⟩) 0 P Q a w ↔ c.wp P Q a w := wpIn_wide
end
inductive CIt where
 | code (c : Code)
 | blk (id : Nat)
 | scp
 | ops (arr : Array Oper) (l : List Nat)
 | back (R : Act → World → Prop)
section
variable [Md]
def K (P : Program) (Q : Exit → Act → World → Prop) : List CIt → Exit → Act → World → Prop
 | [], e, a, w => Q e a w
 | .code c :: t, e, a, w => match e with
  | .normal => c.wpIn FW 0 P (K P Q t) a w
  | e => K P Q t e a w
 | .blk id :: t, e, a, w => match e with
  | .exit id' => if id' = id then K P Q t .normal a w else K P Q t (.exit id') a w
  | e => K P Q t e a w
 | .scp :: t, e, a, w => match e with
  | .goto _ => False
  | e => K P Q t e a w
 | .ops arr l :: t, e, a, w => match e with
  | .normal => wpOpsIn FW 0 P arr (K P Q t) l a w
  | e => K P Q t e a w
 | .back R :: t, e, a, w => match e with
  | .normal => R a w
  | e => K P Q t e a w
end
section
variable [Md] {P : Program} {Q : Exit → Act → World → Prop} {a : Act} {w : World} {t : List CIt}
theorem K_code (c : Code) : K P Q (.code c :: t) .normal a w = c.wpIn FW 0 P (K P Q t) a w := rfl
theorem K_code_then (c : Code) : K P Q (.code c :: t) = Exit.then (c.wpIn FW 0 P (K P Q t)) (K P Q t) := by
 funext e a w; cases e <;> rfl
theorem K_blk (id : Nat) : K P Q (.blk id :: t) = Exit.inBlock id (K P Q t) := by
 funext e a w; cases e <;> rfl
theorem K_back (R : Act → World → Prop) : K P Q (.back R :: t) = Exit.then R (K P Q t) := by
 funext e a w; cases e <;> rfl
theorem K_scp : K P Q (.scp :: t) = Exit.noGoto (K P Q t) := by
 funext e a w; cases e <;> rfl
theorem K_skip (h : K P Q t .normal a w) : K P Q (.code .skip :: t) .normal a w := wpIn_skip h
theorem K_label {l : Nat} (h : K P Q t .normal a w) : K P Q (.code (.label l) :: t) .normal a w := wpIn_label h
theorem K_seq {x y : Code} (h : K P Q (.code x :: .code y :: t) .normal a w) : K P Q (.code (.seq x y) :: t) .normal a w := by
 refine wpIn_seq ?_
 rw [K_code, K_code_then] at h
 exact h
theorem K_cond {c : Operand} {x y : Code} {b : Bool} (hc : a.eval c = .bool b) (h : K P Q (.code (if b then x else y) :: t) .normal a w) : K P Q (.code (.cond c x y) :: t) .normal a w := wpIn_cond hc h
theorem K_block {id : Nat} {c : Code} (h : K P Q (.code c :: .blk id :: t) .normal a w) : K P Q (.code (.block id c) :: t) .normal a w := by
 refine wpIn_block ?_
 rw [K_code, K_blk] at h
 exact h
theorem K_scope {c : Code} (h : K P Q (.code c :: .scp :: t) .normal a w) : K P Q (.code (.scope c) :: t) .normal a w := by
 refine wpIn_scope_straight ?_
 rw [K_code, K_scp] at h
 exact h
theorem K_region {id : Nat} {ops : Array Oper} (h : K P Q (.ops ops (List.range ops.size) :: t) .normal a w) : K P Q (.code (.region id ops false) :: t) .normal a w := wpIn_region h
theorem K_exit {id : Nat} (h : K P Q t (.exit id) a w) : K P Q (.code (.exit id) :: t) .normal a w := wpIn_exit h
theorem K_ret (h : K P Q t .ret a w) : K P Q (.code .ret :: t) .normal a w := wpIn_ret h
theorem K_ret_all (h : Q .ret a w) : ∀ t : List CIt, K P Q t .ret a w
 | [] => h
 | .code _ :: t => K_ret_all h t
 | .blk _ :: t => K_ret_all h t
 | .scp :: t => K_ret_all h t
 | .ops _ _ :: t => K_ret_all h t
 | .back _ :: t => K_ret_all h t
theorem K_panic_all {ch : List PanicEntry} (h : Q (.panic ch) a w) : ∀ t : List CIt, K P Q t (.panic ch) a w
 | [] => h
 | .code _ :: t => K_panic_all h t
 | .blk _ :: t => K_panic_all h t
 | .scp :: t => K_panic_all h t
 | .ops _ _ :: t => K_panic_all h t
 | .back _ :: t => K_panic_all h t
theorem K_loop {c : Code} (I : Nat → Act → World → Prop) (m : Nat) (h0 : I m a w)
  (h : ∀ m a w, I m a w → K P Q (.code c :: .back (fun a' w' => ∃ m', m' < m ∧ I m' a' w') :: t) .normal a w) : K P Q (.code (.loop c) :: t) .normal a w := by
 refine wpIn_loop_rounds (m + 1) ?_
 have key : ∀ (n m : Nat), m < n → ∀ a w, I m a w → Code.roundsIn FW 0 P c (K P Q t) n a w := by
  intro n
  induction n with
  | zero => intro m h; omega
  | succ n ih =>
   intro m hm a w hI
   have := h m a w hI
   rw [K_code, K_back] at this
   refine wpIn_mono this ?_
   intro e a' w' he
   cases e with
   | normal =>
    obtain ⟨m', h1, h2⟩ := he
    exact ih m' (by omega) a' w' h2
   | _ => exact he
 exact key (m + 1) m (by omega) a w h0
end
def bareOp (o : SOp) : SOp := ⟨o.dst, o.op, o.type, o.guard, []⟩
def SC.bare : SC → SC
 | .reg ops => .reg (ops.map bareOp)
 | .dreg ops bef _ => .dreg (ops.map bareOp) bef []
 | .seq a b => .seq a.bare b.bare
 | .cond c x y => .cond c x.bare y.bare
 | .block id b => .block id b.bare
 | .loop b => .loop b.bare
 | .skip => .skip
 | .exit id => .exit id
 | .ret => .ret
 | .other => .other
def joinN (acc : List Nat) : List Nat → List Nat
 | [] => acc
 | x :: l => joinN (if acc.contains x then acc else acc ++ [x]) l
def befOf (befs : List (List Nat)) : List Nat → List Edge → List Nat
 | acc, [] => acc
 | acc, e :: l => befOf befs (if Region.binds .any e then joinN (joinN acc ((befs[e.on]?).getD [])) [e.on] else acc) l
def befsOf (befs : List (List Nat)) : List Oper → List (List Nat)
 | [] => befs
 | o :: l => befsOf (befs ++ [befOf befs [] o.after.toList]) l
def eraseOp (n : Nat) (ops : Array Oper) (o : Oper) : SOp :=
 ⟨o.dst, o.op, o.type, o.guard.map fun g => (((ops[g.1]?).bind (·.dst)).getD n, g.2), []⟩
def erase (n : Nat) : Code → SC
 | .skip => .skip
 | .region _ ops false => .reg (ops.toList.map (eraseOp n ops))
 | .region _ ops true => .dreg (ops.toList.map (eraseOp n ops)) (befsOf [] ops.toList) []
 | .seq a b => .seq (erase n a) (erase n b)
 | .cond c x y => .cond c (erase n x) (erase n y)
 | .block id b => .block id (erase n b)
 | .loop b => .loop (erase n b)
 | .exit id => .exit id
 | .ret => .ret
 | .label _ => .skip
 | .scope b => erase n b
 | _ => .other
def SC.fits (n : Nat) : SC → Bool
 | .reg ops => ops.all fun o => match o.dst with | some d => decide (d < n) | none => true
 | .dreg ops _ _ => ops.all fun o => match o.dst with | some d => decide (d < n) | none => true
 | .seq a b => a.fits n && b.fits n
 | .cond _ x y => x.fits n && y.fits n
 | .block _ b => b.fits n
 | .loop b => b.fits n
 | _ => true
section
variable [Md]
structure SR (N0 : Nat) (W0 : World) (n : Nat) (st : St) (a : Act) (w : World) (fm : FM) (ts : List Tie) : Prop where
 hr : HR N0 W0 fm ts (st.fr :: st.low) w
 tm : TmR fm ts (look st.tm) a
 nx : ∀ k, st.nx ≤ k → tb ts 0 k = none
 size : a.tmps.size = n
 dfr : a.defers = Md.dfs
structure Later (N0 : Nat) (fm : FM) (ts : List Tie) (fm' : FM) (ts' : List Tie) : Prop where
 fle : FmUp N0 fm fm'
 tle : TsLe (ts.drop 1) (ts'.drop 1)
 no : ∀ l k, tb (ts.drop 1) l k = none → tb (ts'.drop 1) l k = none
theorem Later.refl {N0 : Nat} (fm : FM) (ts : List Tie) : Later N0 fm ts fm ts := ⟨FmUp.refl _ _, TsLe.refl _, fun _ _ h => h⟩
theorem Later.trans {N0 : Nat} {f1 f2 f3 : FM} {t1 t2 t3 : List Tie} (h : Later N0 f1 t1 f2 t2) (k : Later N0 f2 t2 f3 t3) : Later N0 f1 t1 f3 t3 :=
 ⟨h.fle.trans k.fle, h.tle.trans k.tle, fun l j e => k.no l j (h.no l j e)⟩
theorem put_size (a : Act) (dst : Option Tmp) (v : Value) : (a.put dst v).tmps.size = a.tmps.size := by
 cases dst <;> simp [Act.put]
theorem put_dfr (a : Act) (dst : Option Tmp) (v : Value) : (a.put dst v).defers = a.defers := by
 cases dst <;> rfl
theorem TmR.put {fm : FM} {ts : List Tie} {tm : List (Nat × AV)} {a : Act} (h : TmR fm ts (look tm) a) {dst : Option Tmp} {x : AV} {v : Value} (hv : VR fm ts x v) (hd : ∀ d, dst = some d → d < a.tmps.size) (drop : List Nat) :
  TmR fm ts (look (dels (putTm tm dst x) drop)) (a.put dst v) := by
 intro t y hy
 replace hy := look_dels drop _ t y hy
 cases dst with
 | none => exact h t y hy
 | some d =>
  simp only [putTm, look_ins] at hy
  have hlt := hd d rfl
  split at hy
  ·rename_i e
   subst e
   obtain rfl := Option.some.inj hy
   exact ⟨v, by simp [Act.put, hlt], hv⟩
  ·rename_i e
   obtain ⟨u, h1, h2⟩ := h t y hy
   exact ⟨u, by simp only [Act.put]; rw [Array.getElem?_setIfInBounds_ne e]; exact h1, h2⟩
theorem TmR.mono {fm fm' : FM} {ts ts' : List Tie} {tm : Tm} {a : Act} (h : TmR fm ts tm a) (hf : FmLe fm fm') (ht : TsLe ts ts') : TmR fm' ts' tm a := by
 intro t x hx
 obtain ⟨v, h1, h2⟩ := h t x hx
 exact ⟨v, h1, h2.mono hf ht⟩
theorem withHeap_eq (st : St) (f : Fra) (H : Heap) : St.withHeap st (f :: H) = { st with fr := f, low := H } := rfl
theorem puts_cons (f : Fra) (H : Heap) (s : List (Nat × Nat × Option Blk)) : ∃ f' H', Heap.puts (f :: H) s = f' :: H' := by
 have := Heap.length_puts s (f :: H)
 cases h : Heap.puts (f :: H) s with
 | nil => rw [h] at this; simp at this
 | cons f' H' => exact ⟨f', H', rfl⟩
theorem SR.by {N0 : Nat} {W0 : World} {n : Nat} {st : St} {a : Act} {w : World} {fm : FM} {ts : List Tie} (h : SR N0 W0 n st a w fm ts) {r : Result Next} {d : De} {fm' : FM} {ts' : List Tie} {w' : World} {v : Value}
  (o : Out N0 W0 fm ts (st.fr :: st.low) w st.nx r d fm' ts' w' v) {dst : Option Tmp} (hd : ∀ d, dst = some d → d < n) (drop : List Nat) :
  SR N0 W0 n (st.by dst drop d) (a.put dst v) w' fm' ts' ∧ Later N0 fm ts fm' ts' := by
 obtain ⟨f', H', hp⟩ := puts_cons st.fr st.low d.sets
 have hb : st.by dst drop d = { st with tm := dels (putTm st.tm dst d.val) drop, nx := st.nx + 16, fr := f', low := H' } := by
  unfold St.by; rw [hp]; rfl
 rw [hb]
 refine ⟨⟨?_, ?_, ?_, ?_, ?_⟩, ⟨o.fle, o.tle.drop 1, ?_⟩⟩
 ·have := o.hr; rw [hp] at this; exact this
 ·exact (h.tm.mono o.fle.le o.tle).put o.val (by rw [h.size]; exact hd) drop
 ·intro k hk
  have hk' : st.nx + 16 ≤ k := hk
  exact o.free 0 k (by omega) (h.nx k (by omega))
 ·rw [put_size]; exact h.size
 ·rw [put_dfr]; exact h.dfr
 ·intro l k hn
  rw [tb_drop] at hn ⊢
  exact o.free (l + 1) k (by omega) hn
theorem SR.past {N0 : Nat} {W0 : World} {n : Nat} {st : St} {a : Act} {w : World} {fm : FM} {ts : List Tie} (h : SR N0 W0 n st a w fm ts) {o : SOp} (hd : ∀ d, o.dst = some d → d < n) :
  SR N0 W0 n (st.past o) (a.put o.dst undef) w fm ts := by
 have ho : Out N0 W0 fm ts (st.fr :: st.low) w st.nx (.ok .skip w) ⟨.tup [], []⟩ fm ts w undef :=
  ⟨.inr ⟨rfl, rfl⟩, h.hr, .tup [] #[] rfl (fun i x v h => by simp at h), FmUp.refl _ _, TsLe.refl _, fun _ _ _ h => h⟩
 exact (h.by ho hd o.drop).1
inductive Sim (N0 : Nat) (W0 : World) (n : Nat) (fm : FM) (ts : List Tie) : List It → List CIt → Prop
 | nil : Sim N0 W0 n fm ts [] []
 | sc {s : SC} {c : Code} {t ct} (h : s.bare = erase n c) (hf : (erase n c).fits n = true) (ht : Sim N0 W0 n fm ts t ct) : Sim N0 W0 n fm ts (.sc s :: t) (.code c :: ct)
 | blk {id : Nat} {t ct} (ht : Sim N0 W0 n fm ts t ct) : Sim N0 W0 n fm ts (.blk id :: t) (.blk id :: ct)
 | scp {t ct} (ht : Sim N0 W0 n fm ts t ct) : Sim N0 W0 n fm ts t (.scp :: ct)
 | ops {l : List SOp} {arr : Array Oper} {is : List Nat} {t ct} (h : l.map bareOp = is.map fun i => eraseOp n arr (arr.getD i default)) (hi : ∀ i ∈ is, i < arr.size) (hf : ∀ o ∈ l, ∀ d, o.dst = some d → d < n) (ht : Sim N0 W0 n fm ts t ct) : Sim N0 W0 n fm ts (.ops l :: t) (.ops arr is :: ct)
 | back {B : St → Prop} {R : Act → World → Prop} {t ct} (h : ∀ st' a' w' fm' ts', B st' → SR N0 W0 n st' a' w' fm' ts' → Later N0 fm ts fm' ts' → R a' w') (ht : Sim N0 W0 n fm ts t ct) : Sim N0 W0 n fm ts (.back B :: t) (.back R :: ct)
theorem Sim.later {N0 : Nat} {W0 : World} {n : Nat} {fm fm' : FM} {ts ts' : List Tie} (hl : Later N0 fm ts fm' ts') {t : List It} {ct : List CIt} (h : Sim N0 W0 n fm ts t ct) : Sim N0 W0 n fm' ts' t ct := by
 induction h with
 | nil => exact .nil
 | sc h hf _ ih => exact .sc h hf ih
 | blk _ ih => exact .blk ih
 | scp _ ih => exact .scp ih
 | ops h hi hf _ ih => exact .ops h hi hf ih
 | back h _ ih => exact .back (fun st' a' w' fm2 ts2 hB hS hL => h st' a' w' fm2 ts2 hB hS (hl.trans hL)) ih
end
end Go.Abs
namespace Go.Abs
open Go Go.RowKit
mutual
def AV.imp (kb : Nat) : AV → AV
 | .loc l k e i n g => .loc (l - 1) (if l = 0 then kb + k else k) e i n g
 | .inn l k e o n => .inn (l - 1) (if l = 0 then kb + k else k) e o n
 | .ptr l k o => .ptr (l - 1) (if l = 0 then kb + k else k) o
 | .eptr l k e i o g => .eptr (l - 1) (if l = 0 then kb + k else k) e i o g
 | .fn f a b => .fn f (AV.impL kb a) (AV.impL kb b)
 | .ifc t v => .ifc t (v.imp kb)
 | .agg cs => .agg (AV.impL kb cs)
 | .tup vs => .tup (AV.impL kb vs)
 | .bool b => .bool b
 | .int k n => .int k n
 | .str s => .str s
 | .nil => .nil
 | .sl e es => .sl e es
 | .pnil => .pnil
 | .rptr e es i o => .rptr e es i o
 | .fnil => .fnil
 | .inil => .inil
 | .dead => .dead
def AV.impL (kb : Nat) : List AV → List AV
 | [] => []
 | x :: l => x.imp kb :: AV.impL kb l
end
def Blk.imp (kb : Nat) : Blk → Blk
 | .arr et e es => .arr et e es
 | .box cs => .box (AV.impL kb cs)
def impFr (kb : Nat) : Fra → Fra → Fra
 | [], f => f
 | (c, b) :: R, f => ins (impFr kb R f) (kb + c) (b.imp kb)
def St.took (st : St) (dst : Option Tmp) (drop : List Nat) (v : AV) (R : Fra) : Heap → St
 | [] => st
 | f :: H => ⟨dels (putTm st.tm dst (v.imp st.nx)) drop, impFr st.nx R f, H, st.nx + 16, st.nt⟩
def noTie : Tie := fun _ => none
def Enters (P : Program) (f : FuncId) : Prop := ∃ fn, P.funcs[f]? = some fn ∧ (fn.name == "runtime.NumGoroutine") = false ∧ fn.body.isNone = false
def ACall (P : Program) (f : FuncId) (args : List AV) (H : Heap) (R : AV → Fra → Heap → Prop) : Prop :=
 Enters P f ∧ ∀ N0 W0 fm ts w vs, HR N0 W0 fm ts H w → VRs fm (noTie :: ts) args vs →
  Calls P f vs.toArray w fun e w' => ∃ v av fr' H' fm' t' ts', e = .returned v ∧ R av fr' H' ∧ H'.length = H.length ∧ HR N0 W0 fm' (t' :: ts') (fr' :: H') w' ∧ VR fm' (t' :: ts') av v ∧ FmUp N0 fm fm' ∧ TsLe ts ts' ∧
   (∀ l k, tb ts l k = none → tb ts' l k = none) ∧ ∀ k, 16 ≤ k → t' k = none
def ACallP (P : Program) (f : FuncId) (args : List AV) (H : Heap) (R : AV → Fra → Heap → Prop) (Rp : List PanicEntry → Heap → Prop) : Prop :=
 Enters P f ∧ ∀ N0 W0 fm ts w vs, HR N0 W0 fm ts H w → VRs fm (noTie :: ts) args vs →
  Calls P f vs.toArray w fun e w' => (∃ v av fr' H' fm' t' ts', e = .returned v ∧ R av fr' H' ∧ H'.length = H.length ∧ HR N0 W0 fm' (t' :: ts') (fr' :: H') w' ∧ VR fm' (t' :: ts') av v ∧ FmUp N0 fm fm' ∧ TsLe ts ts' ∧
   (∀ l k, tb ts l k = none → tb ts' l k = none) ∧ ∀ k, 16 ≤ k → t' k = none) ∨
   ∃ ch H' fm' ts', e = .panicked ch ∧ Rp ch H' ∧ H'.length = H.length ∧ HR N0 W0 fm' ts' H' w' ∧ FmUp N0 fm fm' ∧ TsLe ts ts' ∧ ∀ l k, tb ts l k = none → tb ts' l k = none
theorem ACall.toP {P : Program} {f : FuncId} {args : List AV} {H : Heap} {R : AV → Fra → Heap → Prop} (h : ACall P f args H R) : ACallP P f args H R (fun _ _ => False) :=
 ⟨h.1, fun N0 W0 fm ts w vs a b => (h.2 N0 W0 fm ts w vs a b).mono fun _ _ q => .inl q⟩
section
variable [Md]
def Moved (n : Nat) (st : St) (args : List AV) (st' : St) (args' : List AV) : Prop :=
 ∀ N0 W0 a w fm ts vs, SR N0 W0 n st a w fm ts → VRs fm (noTie :: ts) args vs → ∃ fm' ts', SR N0 W0 n st' a w fm' ts' ∧ Later N0 fm ts fm' ts' ∧ VRs fm' (noTie :: ts') args' vs
theorem Moved.refl (n : Nat) (st : St) (args : List AV) : Moved n st args st args := fun _ _ _ _ fm ts _ h hv => ⟨fm, ts, h, Later.refl _ _, hv⟩
def AK (P : Program) (n : Nat) (Φ : Exit → St → Prop) (todo : List It) (st : St) : Prop :=
 ∀ N0 W0 fm ts a w ct Q, SR N0 W0 n st a w fm ts → Sim N0 W0 n fm ts todo ct →
  (∀ e st' a' w' fm' ts', Φ e st' → SR N0 W0 n st' a' w' fm' ts' → Later N0 fm ts fm' ts' → Q e a' w') → K P Q ct .normal a w
def AKev (P : Program) (n : Nat) (Φ : Exit → St → Prop) : Ev → Prop
 | .stuck => False
 | .fin e st => Φ e st
 | .back B st => B st
 | .call f args dst drop todo st => ∃ st1 args1 R Rp, Moved n st args st1 args1 ∧ ACallP P f args1 (st1.fr :: st1.low) R Rp ∧ (∀ v fr H, R v fr H → AK P n Φ todo (st1.took dst drop v fr H)) ∧ ∀ ch H, Rp ch H → Φ (.panic ch) (st1.withHeap H)
 | .loop b todo st => AK P n Φ (.sc (.loop b) :: todo) st
 | .throw v st => ∃ t x, v = .ifc t x ∧ ∀ fm ts u, VR fm ts x u → Φ (.panic [{ v := .iface t u, recovered := false }]) st
 | .either es t s1 s2 => (es = [] → AK P n Φ t s1) ∧ AK P n Φ t s2
 | .draw ops bef drop todo st => AK P n Φ (.sc (.dreg ops bef drop) :: todo) st
end
theorem impL_length (kb : Nat) : ∀ cs : List AV, (AV.impL kb cs).length = cs.length
 | [] => rfl
 | x :: l => by simp [AV.impL, impL_length kb l]
theorem impL_get (kb : Nat) : ∀ (cs : List AV) (i : Nat), (AV.impL kb cs)[i]? = (cs[i]?).map (AV.imp kb)
 | [], i => by simp [AV.impL]
 | x :: l, 0 => by simp [AV.impL]
 | x :: l, i + 1 => by simp [AV.impL, impL_get kb l i]
theorem imp_flat (kb : Nat) (x : AV) : (x.imp kb).flat = x.flat := by
 cases x <;> simp [AV.imp, AV.flat]
def tjoin (kb : Nat) (t' h : Tie) : Tie := fun k => if kb ≤ k then t' (k - kb) else h k
theorem tb_imp {kb : Nat} {t' h : Tie} {rest : List Tie} (hn : ∀ k, kb ≤ k → h k = none) {l k : Nat} {x : TB} (e : tb (t' :: h :: rest) l k = some x) :
  tb (tjoin kb t' h :: rest) (l - 1) (if l = 0 then kb + k else k) = some x := by
 cases l with
 | zero => simpa [tb, tjoin] using e
 | succ l =>
  cases l with
  | zero =>
   simp only [tb] at e
   have hk : ¬ kb ≤ k := fun hk => by rw [hn k hk] at e; cases e
   simp [tb, tjoin, hk, e]
  | succ l => simpa [tb] using e
theorem VR.imp {fm : FM} {kb : Nat} {t' h : Tie} {rest : List Tie} (hn : ∀ k, kb ≤ k → h k = none) {ts0 : List Tie} {x : AV} {v : Value} (hv : VR fm ts0 x v) : ts0 = t' :: h :: rest → VR fm (tjoin kb t' h :: rest) (x.imp kb) v := by
 induction hv with
 | bool b => intro _; exact .bool b
 | int k n => intro _; exact .int k n
 | str s => intro _; exact .str s
 | nil => intro _; exact .nil
 | slNil e a cap => intro _; exact .slNil e a cap
 | sl es cb off esz cap u hcap h1 h2 h3 h4 _ => intro _; exact .sl es cb off esz cap u hcap h1 h2 h3 h4
 | locGone l k esz i n g a cp h hn' ha => rintro rfl; exact .locGone _ _ esz i n g a cp (tb_imp hn h) hn' ha
 | locOld l k esz i n g a cp m' c h hlt hn' ha => rintro rfl; exact .locOld _ _ esz i n g a cp m' c (tb_imp hn h) hlt hn' ha
 | locNil l k esz a h => rintro rfl; exact .locNil _ _ esz a (tb_imp hn h)
 | loc l k esz i n g c cap cp a h hn' hnc hc ha => rintro rfl; exact .loc _ _ esz i n g c cap cp a (tb_imp hn h) hn' hnc hc ha
 | inn l k esz o n c cp a h hn' ha => rintro rfl; exact .inn _ _ esz o n c cp a (tb_imp hn h) hn' ha
 | pnil => intro _; exact .pnil
 | ptr l k o c h => rintro rfl; exact .ptr _ _ o c (tb_imp hn h)
 | eptrGone l k esz i o g a h => rintro rfl; exact .eptrGone _ _ esz i o g a (tb_imp hn h)
 | eptrOld l k esz i o g a m' c h hlt => rintro rfl; exact .eptrOld _ _ esz i o g a m' c (tb_imp hn h) hlt
 | eptr l k esz i o g c cap h => rintro rfl; exact .eptr _ _ esz i o g c cap (tb_imp hn h)
 | rptr es i o cb off esz u h1 h2 h3 h4 _ => intro _; exact .rptr es i o cb off esz u h1 h2 h3 h4
 | fnil => intro _; exact .fnil
 | fn f first cap vf vc h1 h2 _ _ ih1 ih2 =>
  intro e
  simp only [AV.imp]
  refine .fn f _ _ vf vc (by rw [impL_length]; exact h1) (by rw [impL_length]; exact h2) ?_ ?_
  ·intro i x v hx hv
   rw [impL_get, Option.map_eq_some_iff] at hx
   obtain ⟨y, hy, rfl⟩ := hx
   exact ih1 i y v hy hv e
  ·intro i x v hx hv
   rw [impL_get, Option.map_eq_some_iff] at hx
   obtain ⟨y, hy, rfl⟩ := hx
   exact ih2 i y v hy hv e
 | inil => intro _; exact .inil
 | ifc t x v _ ih => intro e; exact .ifc t _ v (ih e)
 | agg cs vs h1 h2 _ ih =>
  intro e
  simp only [AV.imp]
  refine .agg _ vs (by rw [impL_length]; exact h1) ?_ ?_
  ·intro x hx
   obtain ⟨i, hi⟩ := List.mem_iff_getElem?.1 hx
   rw [impL_get, Option.map_eq_some_iff] at hi
   obtain ⟨y, hy, rfl⟩ := hi
   rw [imp_flat]; exact h2 y (List.mem_of_getElem? hy)
  ·intro i x v hx hv
   rw [impL_get, Option.map_eq_some_iff] at hx
   obtain ⟨y, hy, rfl⟩ := hx
   exact ih i y v hy hv e
 | tup xs vs h1 _ ih =>
  intro e
  simp only [AV.imp]
  refine .tup _ vs (by rw [impL_length]; exact h1) ?_
  intro i x v hx hv
  rw [impL_get, Option.map_eq_some_iff] at hx
  obtain ⟨y, hy, rfl⟩ := hx
  exact ih i y v hy hv e
 | dead v => intro _; exact .dead v
theorem look_impFr (kb : Nat) (f : Fra) : ∀ (R : Fra) (k : Nat), look (impFr kb R f) k = if kb ≤ k then (match look R (k - kb) with | some b => some (b.imp kb) | none => look f k) else look f k
 | [], k => by simp [impFr, look]
 | (c, b) :: R, k => by
  have ih := look_impFr kb f R k
  simp only [impFr, look_ins, ih, look]
  by_cases hk : kb + c = k
  ·subst hk
   simp
  ·by_cases hkb : kb ≤ k
   ·have : ¬ c = k - kb := by omega
    simp [hk, hkb, this]
   ·simp [hk, hkb]
theorem HR.imp {N0 : Nat} {W0 : World} {fm : FM} {t' h : Tie} {rest : List Tie} {R f : Fra} {H : Heap} {w : World} (hr : HR N0 W0 fm (t' :: h :: rest) (R :: f :: H) w) {kb : Nat} (hn : ∀ k, kb ≤ k → h k = none) :
  HR N0 W0 fm (tjoin kb t' h :: rest) (impFr kb R f :: H) w := by
 have hT : TsLe (h :: rest) (tjoin kb t' h :: rest) := by
  intro l k
  cases l with
  | zero =>
   simp only [tb, tjoin]
   split
   ·rename_i hk; rw [hn k hk]; trivial
   ·exact TbLe.refl _
  | succ l => exact TbLe.refl _
 have src : ∀ l k b, Heap.get (impFr kb R f :: H) l k = some b → (l = 0 ∧ kb ≤ k ∧ ∃ b0, look R (k - kb) = some b0 ∧ b = b0.imp kb) ∨
   (¬ (l = 0 ∧ kb ≤ k) ∧ Heap.get (R :: f :: H) (l + 1) k = some b ∧ tb (tjoin kb t' h :: rest) l k = tb (t' :: h :: rest) (l + 1) k) := by
  intro l k b hg
  cases l with
  | zero =>
   simp only [Heap.get, look_impFr] at hg
   by_cases hk : kb ≤ k
   ·rw [if_pos hk] at hg
    cases hR : look R (k - kb) with
    | some b0 =>
     rw [hR] at hg
     exact .inl ⟨rfl, hk, b0, rfl, (Option.some.inj hg).symm⟩
    | none =>
     rw [hR] at hg
     have := hr.blk 1 k b (by simpa [Heap.get] using hg)
     simp only [tb, hn k hk] at this
     cases this
   ·rw [if_neg hk] at hg
    exact .inr ⟨fun hh => hk hh.2, by simpa [Heap.get] using hg, by simp [tb, tjoin, hk]⟩
  | succ l => exact .inr ⟨fun hh => by omega, by simpa [Heap.get] using hg, by simp [tb]⟩
 have own : ∀ k, kb ≤ k → tb (tjoin kb t' h :: rest) 0 k = tb (t' :: h :: rest) 0 (k - kb) := by
  intro k hk; simp [tb, tjoin, hk]
 refine ⟨by have := hr.len; simp at this ⊢; exact this, ?_, ?_, hr.fms, ?_, hr.bel, hr.size, hr.oth⟩
 ·intro l k b hg
  rcases src l k b hg with ⟨rfl, hk, b0, hb0, rfl⟩ | ⟨hne, hg', ht⟩
  ·rw [own k hk]
   have := hr.blk 0 (k - kb) b0 (by simpa [Heap.get] using hb0)
   simp only [List.drop_zero] at this ⊢
   generalize tb (t' :: h :: rest) 0 (k - kb) = tt at this
   cases this with
   | box c cs hN hB =>
    obtain ⟨cells, et, c1, c2, c3⟩ := hB
    refine .box c _ hN ⟨cells, et, c1, by rw [impL_length]; exact c2, ?_⟩
    intro o x v hx hv
    rw [impL_get, Option.map_eq_some_iff] at hx
    obtain ⟨y, hy, rfl⟩ := hx
    have := c3 o y v hy hv
    exact ⟨by rw [imp_flat]; exact this.1, this.2.imp hn rfl⟩
   | nil et esz => exact .nil et esz
   | arr et esz es c cap hN hA => exact .arr et esz es c cap hN hA
  ·rw [ht]
   have := hr.blk (l + 1) k b hg'
   refine this.mono (FmLe.refl _) ?_ (fun _ _ => rfl)
   have e1 : List.drop (l + 1) (t' :: h :: rest) = List.drop l (h :: rest) := by simp
   rw [e1]
   exact hT.drop l
 ·intro l1 k1 l2 k2 b1 b2 c g1 g2 t1 t2
  rcases src l1 k1 b1 g1 with ⟨rfl, hk1, b10, hb1, rfl⟩ | ⟨hne1, hg1, ht1⟩
  ·rw [own k1 hk1] at t1
   rcases src l2 k2 b2 g2 with ⟨rfl, hk2, b20, hb2, rfl⟩ | ⟨hne2, hg2, ht2⟩
   ·rw [own k2 hk2] at t2
    have := hr.inj 0 (k1 - kb) 0 (k2 - kb) b10 b20 c (by simpa [Heap.get] using hb1) (by simpa [Heap.get] using hb2) t1 t2
    exact ⟨rfl, by omega⟩
   ·rw [ht2] at t2
    have := hr.inj 0 (k1 - kb) (l2 + 1) k2 b10 b2 c (by simpa [Heap.get] using hb1) hg2 t1 t2
    omega
  ·rw [ht1] at t1
   rcases src l2 k2 b2 g2 with ⟨rfl, hk2, b20, hb2, rfl⟩ | ⟨hne2, hg2, ht2⟩
   ·rw [own k2 hk2] at t2
    have := hr.inj (l1 + 1) k1 0 (k2 - kb) b1 b20 c hg1 (by simpa [Heap.get] using hb2) t1 t2
    omega
   ·rw [ht2] at t2
    have := hr.inj (l1 + 1) k1 (l2 + 1) k2 b1 b2 c hg1 hg2 t1 t2
    exact ⟨by omega, this.2⟩
 ·intro l k b c o hg ht
  rcases src l k b hg with ⟨rfl, hk, b0, hb0, rfl⟩ | ⟨hne, hg', ht'⟩
  ·rw [own k hk] at ht
   exact hr.fmd 0 (k - kb) b0 c o (by simpa [Heap.get] using hb0) ht
  ·rw [ht'] at ht
   exact hr.fmd (l + 1) k b c o hg' ht
theorem VR.impJ {fm : FM} {kb : Nat} {t' h J : Tie} {rest : List Tie} (hn : ∀ l k x, tb (t' :: h :: rest) l k = some x → tb (J :: rest) (l - 1) (if l = 0 then kb + k else k) = some x) {ts0 : List Tie} {x : AV} {v : Value} (hv : VR fm ts0 x v) : ts0 = t' :: h :: rest → VR fm (J :: rest) (x.imp kb) v := by
 induction hv with
 | bool b => intro _; exact .bool b
 | int k n => intro _; exact .int k n
 | str s => intro _; exact .str s
 | nil => intro _; exact .nil
 | slNil e a cap => intro _; exact .slNil e a cap
 | sl es cb off esz cap u hcap h1 h2 h3 h4 _ => intro _; exact .sl es cb off esz cap u hcap h1 h2 h3 h4
 | locGone l k esz i n g a cp h hn' ha => rintro rfl; exact .locGone _ _ esz i n g a cp (hn _ _ _ h) hn' ha
 | locOld l k esz i n g a cp m' c h hlt hn' ha => rintro rfl; exact .locOld _ _ esz i n g a cp m' c (hn _ _ _ h) hlt hn' ha
 | locNil l k esz a h => rintro rfl; exact .locNil _ _ esz a (hn _ _ _ h)
 | loc l k esz i n g c cap cp a h hn' hnc hc ha => rintro rfl; exact .loc _ _ esz i n g c cap cp a (hn _ _ _ h) hn' hnc hc ha
 | inn l k esz o n c cp a h hn' ha => rintro rfl; exact .inn _ _ esz o n c cp a (hn _ _ _ h) hn' ha
 | pnil => intro _; exact .pnil
 | ptr l k o c h => rintro rfl; exact .ptr _ _ o c (hn _ _ _ h)
 | eptrGone l k esz i o g a h => rintro rfl; exact .eptrGone _ _ esz i o g a (hn _ _ _ h)
 | eptrOld l k esz i o g a m' c h hlt => rintro rfl; exact .eptrOld _ _ esz i o g a m' c (hn _ _ _ h) hlt
 | eptr l k esz i o g c cap h => rintro rfl; exact .eptr _ _ esz i o g c cap (hn _ _ _ h)
 | rptr es i o cb off esz u h1 h2 h3 h4 _ => intro _; exact .rptr es i o cb off esz u h1 h2 h3 h4
 | fnil => intro _; exact .fnil
 | fn f first cap vf vc h1 h2 _ _ ih1 ih2 =>
  intro e
  simp only [AV.imp]
  refine .fn f _ _ vf vc (by rw [impL_length]; exact h1) (by rw [impL_length]; exact h2) ?_ ?_
  ·intro i x v hx hv
   rw [impL_get, Option.map_eq_some_iff] at hx
   obtain ⟨y, hy, rfl⟩ := hx
   exact ih1 i y v hy hv e
  ·intro i x v hx hv
   rw [impL_get, Option.map_eq_some_iff] at hx
   obtain ⟨y, hy, rfl⟩ := hx
   exact ih2 i y v hy hv e
 | inil => intro _; exact .inil
 | ifc t x v _ ih => intro e; exact .ifc t _ v (ih e)
 | agg cs vs h1 h2 _ ih =>
  intro e
  simp only [AV.imp]
  refine .agg _ vs (by rw [impL_length]; exact h1) ?_ ?_
  ·intro x hx
   obtain ⟨i, hi⟩ := List.mem_iff_getElem?.1 hx
   rw [impL_get, Option.map_eq_some_iff] at hi
   obtain ⟨y, hy, rfl⟩ := hi
   rw [imp_flat]; exact h2 y (List.mem_of_getElem? hy)
  ·intro i x v hx hv
   rw [impL_get, Option.map_eq_some_iff] at hx
   obtain ⟨y, hy, rfl⟩ := hx
   exact ih i y v hy hv e
 | tup xs vs h1 _ ih =>
  intro e
  simp only [AV.imp]
  refine .tup _ vs (by rw [impL_length]; exact h1) ?_
  intro i x v hx hv
  rw [impL_get, Option.map_eq_some_iff] at hx
  obtain ⟨y, hy, rfl⟩ := hx
  exact ih i y v hy hv e
 | dead v => intro _; exact .dead v
theorem HR.impJ {N0 : Nat} {W0 : World} {fm : FM} {t' h J : Tie} {rest : List Tie} {R f : Fra} {H : Heap} {w : World} (hr : HR N0 W0 fm (t' :: h :: rest) (R :: f :: H) w) {kb : Nat} (h1 : ∀ k x, t' k = some x → J (kb + k) = some x) (h2 : ∀ k x, h k = some x → J k = some x) :
  HR N0 W0 fm (J :: rest) (impFr kb R f :: H) w := by
 have hJ : ∀ l k x, tb (t' :: h :: rest) l k = some x → tb (J :: rest) (l - 1) (if l = 0 then kb + k else k) = some x := by
  intro l k x e
  cases l with
  | zero => simpa [tb] using h1 k x (by simpa [tb] using e)
  | succ l =>
   cases l with
   | zero => simpa [tb] using h2 k x (by simpa [tb] using e)
   | succ l => simpa [tb] using e
 have hT : TsLe (h :: rest) (J :: rest) := by
  intro l k
  cases l with
  | zero =>
   simp only [tb]
   cases hh : h k with
   | none => trivial
   | some x => rw [h2 k x hh]; exact TbLe.refl _
  | succ l => exact TbLe.refl _
 have src : ∀ l k b, Heap.get (impFr kb R f :: H) l k = some b → (l = 0 ∧ kb ≤ k ∧ ∃ b0, look R (k - kb) = some b0 ∧ b = b0.imp kb ∧ tb (J :: rest) l k = tb (t' :: h :: rest) 0 (k - kb)) ∨
   (Heap.get (R :: f :: H) (l + 1) k = some b ∧ tb (J :: rest) l k = tb (t' :: h :: rest) (l + 1) k ∧ ¬ (l = 0 ∧ kb ≤ k ∧ ∃ b0, look R (k - kb) = some b0)) := by
  intro l k b hg
  have old : Heap.get (R :: f :: H) (l + 1) k = some b → tb (J :: rest) l k = tb (t' :: h :: rest) (l + 1) k := by
   intro hg
   have hb := hr.blk (l + 1) k b hg
   cases ht : tb (t' :: h :: rest) (l + 1) k with
   | none => rw [ht] at hb; cases hb
   | some x => have := hJ (l + 1) k x ht; simpa using this
  cases l with
  | zero =>
   simp only [Heap.get, look_impFr] at hg
   by_cases hk : kb ≤ k
   ·rw [if_pos hk] at hg
    cases hR : look R (k - kb) with
    | some b0 =>
     rw [hR] at hg
     refine .inl ⟨rfl, hk, b0, rfl, (Option.some.inj hg).symm, ?_⟩
     have hb := hr.blk 0 (k - kb) b0 (by simpa [Heap.get] using hR)
     cases ht : tb (t' :: h :: rest) 0 (k - kb) with
     | none => rw [ht] at hb; cases hb
     | some x =>
      have := hJ 0 (k - kb) x ht
      simp only [if_true] at this
      rw [show kb + (k - kb) = k by omega] at this
      exact this
    | none =>
     rw [hR] at hg
     have hg' : Heap.get (R :: f :: H) (0 + 1) k = some b := by simpa [Heap.get] using hg
     exact .inr ⟨hg', old hg', fun hh => by obtain ⟨_, _, b0, e⟩ := hh; cases e⟩
   ·rw [if_neg hk] at hg
    have hg' : Heap.get (R :: f :: H) (0 + 1) k = some b := by simpa [Heap.get] using hg
    exact .inr ⟨hg', old hg', fun hh => hk hh.2.1⟩
  | succ l =>
   have hg' : Heap.get (R :: f :: H) (l + 1 + 1) k = some b := by simpa [Heap.get] using hg
   exact .inr ⟨hg', old hg', fun hh => by omega⟩
 refine ⟨by have := hr.len; simp at this ⊢; exact this, ?_, ?_, hr.fms, ?_, hr.bel, hr.size, hr.oth⟩
 ·intro l k b hg
  rcases src l k b hg with ⟨rfl, hk, b0, hb0, rfl, ht⟩ | ⟨hg', ht, _⟩
  ·rw [ht]
   have := hr.blk 0 (k - kb) b0 (by simpa [Heap.get] using hb0)
   simp only [List.drop_zero] at this ⊢
   generalize tb (t' :: h :: rest) 0 (k - kb) = tt at this
   cases this with
   | box c cs hN hB =>
    obtain ⟨cells, et, c1, c2, c3⟩ := hB
    refine .box c _ hN ⟨cells, et, c1, by rw [impL_length]; exact c2, ?_⟩
    intro o x v hx hv
    rw [impL_get, Option.map_eq_some_iff] at hx
    obtain ⟨y, hy, rfl⟩ := hx
    have := c3 o y v hy hv
    exact ⟨by rw [imp_flat]; exact this.1, this.2.impJ hJ rfl⟩
   | nil et esz => exact .nil et esz
   | arr et esz es c cap hN hA => exact .arr et esz es c cap hN hA
  ·rw [ht]
   have := hr.blk (l + 1) k b hg'
   refine this.mono (FmLe.refl _) ?_ (fun _ _ => rfl)
   have e1 : List.drop (l + 1) (t' :: h :: rest) = List.drop l (h :: rest) := by simp
   rw [e1]
   exact hT.drop l
 ·intro l1 k1 l2 k2 b1 b2 c g1 g2 t1 t2
  rcases src l1 k1 b1 g1 with ⟨rfl, hk1, b10, hb1, _, e1⟩ | ⟨hg1, e1, n1⟩
  ·rw [e1] at t1
   rcases src l2 k2 b2 g2 with ⟨rfl, hk2, b20, hb2, _, e2⟩ | ⟨hg2, e2, n2⟩
   ·rw [e2] at t2
    have := hr.inj 0 (k1 - kb) 0 (k2 - kb) b10 b20 c (by simpa [Heap.get] using hb1) (by simpa [Heap.get] using hb2) t1 t2
    exact ⟨rfl, by omega⟩
   ·rw [e2] at t2
    have := hr.inj 0 (k1 - kb) (l2 + 1) k2 b10 b2 c (by simpa [Heap.get] using hb1) hg2 t1 t2
    omega
  ·rw [e1] at t1
   rcases src l2 k2 b2 g2 with ⟨rfl, hk2, b20, hb2, _, e2⟩ | ⟨hg2, e2, n2⟩
   ·rw [e2] at t2
    have := hr.inj (l1 + 1) k1 0 (k2 - kb) b1 b20 c hg1 (by simpa [Heap.get] using hb2) t1 t2
    omega
   ·rw [e2] at t2
    have := hr.inj (l1 + 1) k1 (l2 + 1) k2 b1 b2 c hg1 hg2 t1 t2
    exact ⟨by omega, this.2⟩
 ·intro l k b c o hg ht
  rcases src l k b hg with ⟨rfl, hk, b0, hb0, _, e⟩ | ⟨hg', e, _⟩
  ·rw [e] at ht
   exact hr.fmd 0 (k - kb) b0 c o (by simpa [Heap.get] using hb0) ht
  ·rw [e] at ht
   exact hr.fmd (l + 1) k b c o hg' ht
end Go.Abs
namespace Go.Abs
open Go Go.RowKit
set_option linter.unusedSectionVars false
section
variable [Md] {P : Program} {T : Tys} {N0 : Nat} {W0 : World} {n : Nat} {fm : FM} {ts : List Tie}
theorem Sim.nil_inv {todo : List It} {ct : List CIt} (h : Sim N0 W0 n fm ts todo ct) : todo = [] → ∀ {Q : Exit → Act → World → Prop} {a w}, Q .normal a w → K P Q ct .normal a w := by
 induction h with
 | nil => intro _ Q a w h; exact h
 | scp _ ih => intro e Q a w h; exact ih e h
 | _ => intro e; cases e
theorem Sim.blk_inv {todo : List It} {ct : List CIt} (h : Sim N0 W0 n fm ts todo ct) : ∀ {id : Nat} {t : List It}, todo = .blk id :: t → ∃ ct', Sim N0 W0 n fm ts t ct' ∧ ∀ {Q : Exit → Act → World → Prop} {a w}, K P Q ct' .normal a w → K P Q ct .normal a w := by
 induction h with
 | blk ht _ => intro id t e; cases e; exact ⟨_, ht, fun h => h⟩
 | scp _ ih => intro id t e; obtain ⟨ct', h1, h2⟩ := ih e; exact ⟨ct', h1, fun h => h2 h⟩
 | _ => intro id t e; cases e
theorem Sim.back_inv {todo : List It} {ct : List CIt} (h : Sim N0 W0 n fm ts todo ct) : ∀ {B : St → Prop} {t : List It}, todo = .back B :: t → ∀ {Q : Exit → Act → World → Prop} {st a w}, SR N0 W0 n st a w fm ts → B st → K P Q ct .normal a w := by
 induction h with
 | back h ht _ => intro B t e; cases e; intro Q st a w hS hB; exact h _ _ _ _ _ hB hS (Later.refl _ _)
 | scp _ ih => intro B t e Q st a w hS hB; exact ih e hS hB
 | _ => intro B t e; cases e
theorem Sim.ops_inv {todo : List It} {ct : List CIt} (h : Sim N0 W0 n fm ts todo ct) : ∀ {l : List SOp} {t : List It}, todo = .ops l :: t →
  ∃ arr is ct', l.map bareOp = is.map (fun i => eraseOp n arr (arr.getD i default)) ∧ (∀ i ∈ is, i < arr.size) ∧ (∀ o ∈ l, ∀ d, o.dst = some d → d < n) ∧ Sim N0 W0 n fm ts t ct' ∧
   ∀ {Q : Exit → Act → World → Prop} {a w}, wpOpsIn FW 0 P arr (K P Q ct') is a w → K P Q ct .normal a w := by
 induction h with
 | ops h hi hf ht _ => intro l t e; cases e; exact ⟨_, _, _, h, hi, hf, ht, fun h => h⟩
 | scp _ ih => intro l t e; obtain ⟨arr, is, ct', h1, h2, h3, h4, h5⟩ := ih e; exact ⟨arr, is, ct', h1, h2, h3, h4, fun h => h5 h⟩
 | _ => intro l t e; cases e
theorem peel (n : Nat) : ∀ (c : Code) (t : List It) (ct : List CIt), Sim N0 W0 n fm ts t ct → ∃ c' ct', (∀ b, c' ≠ .scope b) ∧ erase n c' = erase n c ∧ Sim N0 W0 n fm ts t ct' ∧ ∀ {Q : Exit → Act → World → Prop} {a w}, K P Q (.code c' :: ct') .normal a w → K P Q (.code c :: ct) .normal a w
 | .scope b, t, ct, h => by
  obtain ⟨c', ct', h1, h2, h3, h4⟩ := peel n b t (.scp :: ct) (.scp h)
  exact ⟨c', ct', h1, by rw [h2]; rfl, h3, fun h => K_scope (h4 h)⟩
 | .skip, t, ct, h => ⟨.skip, ct, by simp, rfl, h, fun h => h⟩
 | .region a b c, t, ct, h => ⟨.region a b c, ct, by simp, rfl, h, fun h => h⟩
 | .seq a b, t, ct, h => ⟨.seq a b, ct, by simp, rfl, h, fun h => h⟩
 | .cond a b c, t, ct, h => ⟨.cond a b c, ct, by simp, rfl, h, fun h => h⟩
 | .block a b, t, ct, h => ⟨.block a b, ct, by simp, rfl, h, fun h => h⟩
 | .loop a, t, ct, h => ⟨.loop a, ct, by simp, rfl, h, fun h => h⟩
 | .rangeFunc a b c d, t, ct, h => ⟨.rangeFunc a b c d, ct, by simp, rfl, h, fun h => h⟩
 | .exit a, t, ct, h => ⟨.exit a, ct, by simp, rfl, h, fun h => h⟩
 | .label a, t, ct, h => ⟨.label a, ct, by simp, rfl, h, fun h => h⟩
 | .goto a, t, ct, h => ⟨.goto a, ct, by simp, rfl, h, fun h => h⟩
 | .ret, t, ct, h => ⟨.ret, ct, by simp, rfl, h, fun h => h⟩
 | .refuse a, t, ct, h => ⟨.refuse a, ct, by simp, rfl, h, fun h => h⟩
theorem Sim.sc_inv {todo : List It} {ct : List CIt} (h : Sim N0 W0 n fm ts todo ct) : ∀ {s : SC} {t : List It}, todo = .sc s :: t →
  ∃ c ct', (∀ b, c ≠ .scope b) ∧ s.bare = erase n c ∧ (erase n c).fits n = true ∧ Sim N0 W0 n fm ts t ct' ∧ ∀ {Q : Exit → Act → World → Prop} {a w}, K P Q (.code c :: ct') .normal a w → K P Q ct .normal a w := by
 induction h with
 | sc h hf ht _ =>
  intro s t e; cases e
  obtain ⟨c', ct', h1, h2, h3, h4⟩ := peel (P := P) n _ _ _ ht
  exact ⟨c', ct', h1, by rw [h2]; exact h, by rw [h2]; exact hf, h3, fun h => h4 h⟩
 | scp _ ih => intro s t e; obtain ⟨c, ct', h1, h2, h3, h4, h5⟩ := ih e; exact ⟨c, ct', h1, h2, h3, h4, fun h => h5 h⟩
 | _ => intro s t e; cases e
theorem Sim.exits {todo : List It} {ct : List CIt} (h : Sim N0 W0 n fm ts todo ct) (id : Nat) :
  (∀ t, exitsTo id todo = some t → ∃ ct', Sim N0 W0 n fm ts t ct' ∧ ∀ {Q : Exit → Act → World → Prop} {a w}, K P Q ct' .normal a w → K P Q ct (.exit id) a w) ∧
  (exitsTo id todo = none → ∀ {Q : Exit → Act → World → Prop} {a w}, Q (.exit id) a w → K P Q ct (.exit id) a w) := by
 induction h with
 | nil => exact ⟨fun t e => by simp [exitsTo] at e, fun _ Q a w h => h⟩
 | sc _ _ _ ih => exact ⟨fun t e => ih.1 t (by simpa [exitsTo] using e), fun e Q a w h => ih.2 (by simpa [exitsTo] using e) h⟩
 | @blk id' t ct ht ih =>
  by_cases hid : id = id'
  ·subst hid
   refine ⟨fun t' e => ?_, fun e => by simp [exitsTo] at e⟩
   simp only [exitsTo, if_true, Option.some.injEq] at e
   subst e
   exact ⟨ct, ht, fun h => by simp only [K, if_true]; exact h⟩
  ·refine ⟨fun t' e => ?_, fun e Q a w h => ?_⟩
   ·simp only [exitsTo, if_neg hid] at e
    obtain ⟨ct', h1, h2⟩ := ih.1 t' e
    exact ⟨ct', h1, fun h => by simp only [K, if_neg hid]; exact h2 h⟩
   ·simp only [exitsTo, if_neg hid] at e
    simp only [K, if_neg hid]
    exact ih.2 e h
 | scp _ ih => exact ⟨fun t e => by obtain ⟨ct', h1, h2⟩ := ih.1 t e; exact ⟨ct', h1, fun h => h2 h⟩, fun e Q a w h => ih.2 e h⟩
 | ops _ _ _ _ ih => exact ⟨fun t e => ih.1 t (by simpa [exitsTo] using e), fun e Q a w h => ih.2 (by simpa [exitsTo] using e) h⟩
 | back _ _ ih => exact ⟨fun t e => ih.1 t (by simpa [exitsTo] using e), fun e Q a w h => ih.2 (by simpa [exitsTo] using e) h⟩
theorem range_map_erase (n : Nat) (ops : Array Oper) : ops.toList.map (eraseOp n ops) = (List.range ops.size).map fun i => eraseOp n ops (ops.getD i default) := by
 apply List.ext_getElem?
 intro i
 simp only [List.getElem?_map, Array.getElem?_toList]
 by_cases hi : i < ops.size
 ·simp [hi, Array.getD]
 ·simp [hi]
theorem SR.took {n : Nat} {st : St} {a : Act} {w w' : World} (h : SR N0 W0 n st a w fm ts) {v : Value} {av : AV} {fr' : Fra} {H' : Heap} {fm' : FM} {t' : Tie} {ts' : List Tie}
  (hr : HR N0 W0 fm' (t' :: ts') (fr' :: H') w') (hv : VR fm' (t' :: ts') av v) (hf : FmUp N0 fm fm') (hl : TsLe ts ts') (hn : ∀ l k, tb ts l k = none → tb ts' l k = none) (h16 : ∀ k, 16 ≤ k → t' k = none)
  (hlen : H'.length = st.low.length + 1) {dst : Option Tmp} (hd : ∀ d, dst = some d → d < n) (drop : List Nat) :
  ∃ ts2, SR N0 W0 n (st.took dst drop av fr' H') (a.put dst v) w' fm' ts2 ∧ Later N0 fm ts fm' ts2 := by
 cases H' with
 | nil => simp at hlen
 | cons f H' =>
  cases ts' with
  | nil => have := hr.len; simp at this
  | cons h0 rest =>
   have hnx : ∀ k, st.nx ≤ k → h0 k = none := by
    intro k hk
    have := hn 0 k (h.nx k hk)
    simpa [tb] using this
   have hT : TsLe (h0 :: rest) (tjoin st.nx t' h0 :: rest) := by
    intro l k
    cases l with
    | zero =>
     simp only [tb, tjoin]
     split
     ·rename_i hk; rw [hnx k hk]; trivial
     ·exact TbLe.refl _
    | succ l => exact TbLe.refl _
   refine ⟨tjoin st.nx t' h0 :: rest, ⟨hr.imp hnx, ?_, ?_, by rw [put_size]; exact h.size, by rw [put_dfr]; exact h.dfr⟩, ⟨hf, ?_, ?_⟩⟩
   ·exact (h.tm.mono hf.le (hl.trans hT)).put (hv.imp hnx rfl) (by rw [h.size]; exact hd) drop
   ·intro k hk
    have hk' : st.nx + 16 ≤ k := hk
    simp only [tb, tjoin]
    rw [if_pos (by omega)]
    exact h16 _ (by omega)
   ·have := hl.drop 1; simpa using this
   ·intro l k e
    rw [tb_drop] at e
    have := hn (l + 1) k e
    simpa [tb] using this
theorem SR.lost {n : Nat} {st : St} {a : Act} {w w' : World} (h : SR N0 W0 n st a w fm ts) {H' : Heap} {fm' : FM} {ts' : List Tie}
  (hr : HR N0 W0 fm' ts' H' w') (hf : FmUp N0 fm fm') (hl : TsLe ts ts') (hn : ∀ l k, tb ts l k = none → tb ts' l k = none) (hlen : H'.length = st.low.length + 1) :
  SR N0 W0 n (st.withHeap H') a w' fm' ts' ∧ Later N0 fm ts fm' ts' := by
 cases H' with
 | nil => simp at hlen
 | cons f H' =>
  refine ⟨⟨hr, h.tm.mono hf.le hl, fun k hk => hn 0 k (h.nx k hk), h.size, h.dfr⟩, ⟨hf, hl.drop 1, ?_⟩⟩
  intro l k e
  rw [tb_drop] at e ⊢
  exact hn _ k e
theorem eqlNil0 {t e : TypeId} {a : Option Addr} {n c m : Nat} {w : World} (hun : P.underlying t = some (.slice e)) : (Op.equalIn (m + 1) t (.slice a n c) (.slice none 0 0)).run P w = .ok a.isNone w := by
 cases a <;> simp only [Op.equalIn, Sem.run_bind, run_underlying hun, Result.andThen_ok] <;> rfl
theorem eqlNil {t e : TypeId} {a : Option Addr} {n c : Nat} {w : World} (hun : P.underlying t = some (.slice e)) : (binOp .eql t (.slice a n c) (.slice none 0 0)).run P w = .ok (.bool a.isNone) w := by
 have h : (Op.equalIn Op.maxDepth t (.slice a n c) (.slice none 0 0)).run P w = .ok a.isNone w := eqlNil0 hun
 simp [binOp, Op.equal, h]
theorem run_sound (hT : TysOK P T) {Φ : Exit → St → Prop} : ∀ (m : Nat) (todo : List It) (st : St), AKev P n Φ (run T m todo st) → AK P n Φ todo st
 | 0, todo, st, h => by simp only [run, AKev] at h
 | m + 1, [], st, h => by
  intro N0 W0 fm ts a w ct Q hS hsim hQ
  simp only [run, AKev] at h
  exact hsim.nil_inv rfl (hQ _ _ _ _ _ _ h hS (Later.refl _ _))
 | m + 1, .back B :: t, st, h => by
  intro N0 W0 fm ts a w ct Q hS hsim hQ
  simp only [run, AKev] at h
  exact hsim.back_inv rfl hS h
 | m + 1, .blk id :: t, st, h => by
  intro N0 W0 fm ts a w ct Q hS hsim hQ
  simp only [run] at h
  obtain ⟨ct', h1, h2⟩ := hsim.blk_inv (P := P) rfl
  exact h2 (run_sound hT m t st h N0 W0 fm ts a w ct' Q hS h1 hQ)
 | m + 1, .ops [] :: t, st, h => by
  intro N0 W0 fm ts a w ct Q hS hsim hQ
  simp only [run] at h
  obtain ⟨arr, is, ct', h1, h2, h3, h4, h5⟩ := hsim.ops_inv (P := P) rfl
  cases is with
  | nil => exact h5 (run_sound hT m t st h N0 W0 fm ts a w ct' Q hS h4 hQ)
  | cons => simp at h1
 | m + 1, .ops (o :: os) :: t, st, h => by
  intro N0 W0 fm ts a w ct Q hS hsim hQ
  obtain ⟨arr, is, ct', h1, h2, h3, h4, h5⟩ := hsim.ops_inv (P := P) rfl
  cases is with
  | nil => simp at h1
  | cons i is =>
   simp only [List.map_cons, List.cons.injEq] at h1
   obtain ⟨h1, h1'⟩ := h1
   have hi : i < arr.size := h2 i List.mem_cons_self
   have hget : arr[i]? = some arr[i] := Array.getElem?_eq_getElem hi
   have hgd : arr.getD i default = arr[i] := by simp [Array.getD, hi]
   rw [hgd] at h1
   simp only [bareOp, eraseOp, SOp.mk.injEq, and_true] at h1
   obtain ⟨hdst, hop, hty, hgu⟩ := h1
   have hd : ∀ d, o.dst = some d → d < n := h3 o List.mem_cons_self
   have hsim' : ∀ {fm' ts'}, Later N0 fm ts fm' ts' → Sim N0 W0 n fm' ts' (.ops os :: t) (.ops arr is :: ct') := fun hl =>
    (Sim.ops h1' (fun j hj => h2 j (List.mem_cons_of_mem _ hj)) (fun o ho => h3 o (List.mem_cons_of_mem _ ho)) h4).later hl
   apply h5
   simp only [wpOpsIn, hget]
   have doit : ∀ (m' : Nat), (∀ todo st, AKev P n Φ (run T m' todo st) → AK P n Φ todo st) → AKev P n Φ (doOp T (run T m') o (.ops os :: t) st) → (arr[i]).wpIn FW 0 P a w (wpOpsIn FW 0 P arr (K P Q ct') is) (K P Q ct') := by
    intro m' ihm h
    unfold doOp at h
    split at h
    ·
     rename_i c hc
     unfold isCall at hc
     split at hc
     ·rename_i c' hoc
      split at hc
      ·cases hc
      ·rename_i hnb
       obtain rfl := Option.some.inj hc
       unfold nextCall at h
       split at h
       ·rename_i g args hcal
        simp only [AKev] at h
        obtain ⟨st1, args1, R, Rp, hmv, ⟨⟨fn, hfn, hnm, hbd⟩, hac⟩, hk, hpk⟩ := h
        unfold callee at hcal
        split at hcal
        ·rename_i f hcf
         split at hcal
         ·rename_i g' first cap xs hof hxs
          simp only [Option.some.injEq, Prod.mk.injEq] at hcal
          obtain ⟨rfl, rfl⟩ := hcal
          have hvf := opv_sound hS.tm hof
          have hvx := opvs_sound hS.tm _ _ hxs
          obtain ⟨vf, vc, hev, hl1, hl2, hp1, hp2⟩ : ∃ vf vc, a.eval f = .func (.func g') vf vc ∧ first.length = vf.size ∧ cap.length = vc.size ∧ (∀ (i : Nat) x v, first[i]? = some x → vf[i]? = some v → VR fm ts x v) ∧ (∀ (i : Nat) x v, cap[i]? = some x → vc[i]? = some v → VR fm ts x v) := by
           generalize a.eval f = z at hvf
           cases hvf with
           | fn _ _ _ vf vc h1 h2 h3 h4 => exact ⟨vf, vc, rfl, h1, h2, h3, h4⟩
          have hargs : VRs fm ts (first ++ (xs ++ cap)) (vf.toList ++ (c'.args.toList.map a.eval ++ vc.toList)) := by
           refine VRs.append ⟨by simpa using hl1, fun i x v p q => hp1 i x v p (by simpa using q)⟩ (VRs.append hvx ⟨by simpa using hl2, fun i x v p q => hp2 i x v p (by simpa using q)⟩)
          have hargs' : VRs fm (noTie :: ts) (AV.shL 1 (first ++ (xs ++ cap))) (vf.toList ++ (c'.args.toList.map a.eval ++ vc.toList)) := by
           refine ⟨by rw [shL_length]; exact hargs.1, ?_⟩
           intro i x v hx hv
           rw [shL_get, Option.map_eq_some_iff] at hx
           obtain ⟨y, hy, rfl⟩ := hx
           exact (hargs.2 i y v hy hv).sh 1 (by simp)
          obtain ⟨fm1, ts1, hS1, hL1, hargs1⟩ := hmv N0 W0 a w fm ts _ hS hargs'
          have hcalls := hac N0 W0 fm1 ts1 w _ hS1.hr hargs1
          have hoc' : (arr[i]).op = .call c' := by rw [← hop]; exact hoc
          have hrun : (execOp a.eval arr[i]).run P w = .ok (.enter g' ((vf.toList ++ (c'.args.toList.map a.eval ++ vc.toList)).toArray)) w := by
           have e1 : vf ++ Array.map a.eval c'.args ++ vc = (vf.toList ++ (c'.args.toList.map a.eval ++ vc.toList)).toArray := by
            apply Array.toList_inj.1; simp
           simp only [execOp, hoc', resolve, hcf, Sem.run_bind, Deferred.ofValue, hev, Sem.run_pure, Result.andThen_ok, invoke, callFunc, run_program, hfn, hnm, hbd, Bool.false_eq_true, if_false, e1]
          refine opwp_enter (fun c0 h0 => by rw [hoc'] at h0; cases h0) hrun ?_
          refine Calls.mono hcalls ?_
          rintro e w' (⟨v, av, fr', H', fm', t', ts', rfl, hR, hlen0, hhr, hvr, hfl, htl, hno, h16⟩ | ⟨ch, H', fm', ts', rfl, hR, hlen0, hhr, hfl, htl, hno⟩)
          ·have hlen : H'.length = st1.low.length + 1 := by simpa using hlen0
           obtain ⟨ts2, hS2, hL2⟩ := hS1.took hhr hvr hfl htl hno h16 hlen hd o.drop
           have hak := hk av fr' H' hR N0 W0 fm' ts2 _ w' (.ops arr is :: ct') Q hS2 (hsim' (hL1.trans hL2)) (fun e st' a' w' fm3 ts3 hΦ hS3 hL3 => hQ e st' a' w' fm3 ts3 hΦ hS3 ((hL1.trans hL2).trans hL3))
           rw [hdst] at hak
           exact hak
          ·have hlen : H'.length = st1.low.length + 1 := by simpa using hlen0
           obtain ⟨hS2, hL2⟩ := hS1.lost hhr hfl htl hno hlen
           exact K_panic_all (hQ _ _ _ _ _ _ (hpk ch H' hR) hS2 (hL1.trans hL2)) ct'
         ·cases hcal
        ·cases hcal
       ·simp only [AKev] at h
     ·cases hc
    ·
     split at h
     ·
      rename_i x hpx
      unfold isPanic at hpx
      split at hpx
      ·rename_i x' hox
       obtain rfl := Option.some.inj hpx
       unfold thrown at h
       split at h
       ·rename_i v hv
        simp only [AKev] at h
        obtain ⟨t0, x0, rfl, hk⟩ := h
        have hvr := opv_sound hS.tm hv
        have hox' : (arr[i]).op = .panic x' := by rw [← hop]; exact hox
        generalize hev : a.eval x' = z at hvr
        cases hvr with
        | ifc _ _ u hu =>
         have hrun : (execOp a.eval arr[i]).run P w = .halt (.panic (.iface t0 u)) w := by
          simp only [execOp, hox', hev, Instr.panic, goPanic]
          rfl
         refine opwp_panic (fun c0 h0 => by rw [hox'] at h0; cases h0) hrun ?_
         exact K_panic_all (hQ _ _ _ _ _ _ (hk fm ts u hu) hS (Later.refl _ _)) ct'
       ·simp only [AKev] at h
      ·cases hpx
     cases hne : nilEq T o.op (look st.tm) with
     | some es =>
      rw [hne] at h
      simp only [orEither, AKev] at h
      obtain ⟨hk1, hk2⟩ := h
      unfold nilEq at hne
      split at hne
      ·rename_i tt x ty0 hoo
       split at hne
       ·rename_i ti hti
        split at hne
        ·rename_i el hd0
         split at hne
         ·rename_i ez es' hx
          obtain rfl := Option.some.inj hne
          obtain ⟨hun, _⟩ := hT.slice hti hd0
          obtain ⟨v, hv, hvr⟩ := hS.tm x _ hx
          obtain ⟨aa, nn, cc, rfl, hnil⟩ : ∃ aa nn cc, v = .slice aa nn cc ∧ (aa = none → es' = []) := by
           cases hvr with
           | slNil => exact ⟨_, _, _, rfl, fun _ => rfl⟩
           | sl => exact ⟨_, _, _, rfl, fun h => by cases h⟩
          have hev : a.eval (.tmp x) = .slice aa nn cc := by simp [Act.eval, hv, Array.getD_eq_getD_getElem?]
          have hoo' : (arr[i]).op = .binOp .eql tt (.tmp x) (.const (.slice none 0 0)) ty0 := by rw [← hop]; exact hoo
          have hrun : (execOp a.eval arr[i]).run P w = .ok (.value (.bool aa.isNone)) w := by
           have h1 := eqlNil (P := P) (a := aa) (n := nn) (c := cc) (w := w) hun
           have h2 : a.eval (.const (.slice none 0 0)) = .slice none 0 0 := by simp [Act.eval]
           simp only [execOp, hoo', hev, h2]
           exact exec_v h1
          have ho : ∀ b : Bool, aa.isNone = b → Out N0 W0 fm ts (st.fr :: st.low) w st.nx ((execOp a.eval arr[i]).run P w) ⟨.bool b, []⟩ fm ts w (.bool b) := fun b hb =>
           ⟨.inl (by rw [hrun, hb]), hS.hr, .bool b, FmUp.refl _ _, TsLe.refl _, fun _ _ _ h => h⟩
          refine opwp_value (fun c0 h0 => by rw [hoo'] at h0; cases h0) hrun ?_
          cases hb : aa.isNone with
          | true =>
           obtain ⟨hS2, hL2⟩ := hS.by (ho true hb) hd o.drop
           have hes : es' = [] := hnil (by simpa using hb)
           have hak := hk1 hes N0 W0 fm ts _ w (.ops arr is :: ct') Q hS2 (hsim' hL2) (fun e st' a' w' fm3 ts3 hΦ hS3 hL3 => hQ e st' a' w' fm3 ts3 hΦ hS3 (hL2.trans hL3))
           rw [hdst] at hak
           exact hak
          | false =>
           obtain ⟨hS2, hL2⟩ := hS.by (ho false hb) hd o.drop
           have hak := hk2 N0 W0 fm ts _ w (.ops arr is :: ct') Q hS2 (hsim' hL2) (fun e st' a' w' fm3 ts3 hΦ hS3 hL3 => hQ e st' a' w' fm3 ts3 hΦ hS3 (hL2.trans hL3))
           rw [hdst] at hak
           exact hak
         ·cases hne
        ·cases hne
       ·cases hne
      ·cases hne
     | none =>
     rw [hne] at h
     simp only [orEither] at h
     unfold next at h
     split at h
     ·rename_i d hde
      have hG : st.get = Heap.get (st.fr :: st.low) := rfl
      rw [hop, hty, hG] at hde
      obtain ⟨fm', ts', w', v, ho⟩ := opDe_sound (P := P) hT hS.hr (by simp) (fun k h1 _ => hS.nx k h1) hS.tm hde
      obtain ⟨hS2, hL2⟩ := hS.by ho hd o.drop
      have hak := ihm _ _ h N0 W0 fm' ts' _ w' (.ops arr is :: ct') Q hS2 (hsim' hL2) (fun e st' a' w' fm3 ts3 hΦ hS3 hL3 => hQ e st' a' w' fm3 ts3 hΦ hS3 (hL2.trans hL3))
      rw [hdst] at hak
      have hnd : ∀ c, (arr[i]).op ≠ .defer c := fun c0 h0 => by rw [h0] at hde; simp [opDe] at hde
      rcases ho.done with hr | ⟨hr, rfl⟩
      ·exact opwp_value hnd hr hak
      ·exact opwp_skip hnd hr hak
     ·simp only [AKev] at h
   have past : ∀ (m' : Nat), (∀ todo st, AKev P n Φ (run T m' todo st) → AK P n Φ todo st) → AKev P n Φ (run T m' (.ops os :: t) (st.past o)) → wpOpsIn FW 0 P arr (K P Q ct') is (a.put (arr[i]).dst undef) w := by
    intro m' ihm h
    have hS2 := hS.past hd
    have hak := ihm _ _ h N0 W0 fm ts _ w (.ops arr is :: ct') Q hS2 (hsim' (Later.refl _ _)) hQ
    rw [hdst] at hak
    exact hak
   cases hg : o.guard with
   | none =>
    rw [hg] at hgu
    have hw : Region.wanted arr[i] (yielded arr a.tmps) = true := by
     have : (arr[i]).guard = none := by
      cases hh : (arr[i]).guard with
      | none => rfl
      | some g => rw [hh] at hgu; cases hgu
     simp [Region.wanted, this]
    simp only [run, hg] at h
    rw [if_pos hw]
    exact doit m (run_sound hT m) h
   | some g =>
    obtain ⟨g, want⟩ := g
    rw [hg] at hgu
    obtain ⟨j, hj, hjg⟩ : ∃ j, (arr[i]).guard = some (j, want) ∧ (((arr[j]?).bind (·.dst)).getD n) = g := by
     cases hh : (arr[i]).guard with
     | none => rw [hh] at hgu; cases hgu
     | some p =>
      rw [hh] at hgu
      simp only [Option.map_some, Option.some.injEq, Prod.mk.injEq] at hgu
      exact ⟨p.1, by rw [hgu.2], hgu.1.symm⟩
    have hyl : ∀ v, a.tmps[g]? = some v → yielded arr a.tmps j = match v with | .bool b => some b | _ => none := by
     intro v hv
     unfold yielded
     cases hb : (arr[j]?).bind (·.dst) with
     | none =>
      rw [hb] at hjg
      simp only [Option.getD_none] at hjg
      have := (Array.getElem?_eq_some_iff.1 hv).1
      rw [hS.size] at this
      subst hjg
      exact absurd this (Nat.lt_irrefl _)
     | some dd =>
      rw [hb] at hjg
      simp only [Option.getD_some] at hjg
      subst hjg
      simp only [Option.bind_some, hv]
      cases v <;> rfl
    simp only [run, hg] at h
    split at h
    ·rename_i b hb
     obtain ⟨v, hv, hvr⟩ := hS.tm g _ hb
     cases hvr
     have hw : Region.wanted arr[i] (yielded arr a.tmps) = (b == want) := by
      simp [Region.wanted, hj, hyl _ hv]
     rw [hw]
     cases hbw : (b == want) with
     | true =>
      rw [hbw, two_true] at h
      rw [if_pos rfl]
      cases m with
      | zero => simp only [run, AKev] at h
      | succ m =>
       simp only [run] at h
       exact doit m (run_sound hT m) h
     | false =>
      rw [hbw, two_false] at h
      simp only [Bool.false_eq_true, if_false]
      exact ⟨fun _ _ => trivial, past m (run_sound hT m) h⟩
    ·rename_i hb
     obtain ⟨v, hv, hvr⟩ := hS.tm g _ hb
     have hw : Region.wanted arr[i] (yielded arr a.tmps) = false := by
      have : yielded arr a.tmps j = none := by rw [hyl _ hv]; cases hvr; rfl
      simp [Region.wanted, hj, this]
     rw [hw]
     simp only [Bool.false_eq_true, if_false]
     exact ⟨fun _ _ => trivial, past m (run_sound hT m) h⟩
    ·simp only [AKev] at h
 | m + 1, .sc s :: t, st, h => by
  intro N0 W0 fm ts a w ct Q hS hsim hQ
  obtain ⟨c, ct', hns, hb, hf, ht, hK⟩ := hsim.sc_inv (P := P) rfl
  apply hK
  cases s with
  | skip =>
   simp only [run] at h
   have := run_sound hT m t st h N0 W0 fm ts a w ct' Q hS ht hQ
   cases c <;> simp only [SC.bare, erase, reduceCtorEq] at hb
   case skip => exact K_skip this
   case label => exact K_label this
   case region id ops dr => cases dr <;> simp [erase] at hb
   case scope b => exact absurd rfl (hns b)
  | reg ops =>
   simp only [run] at h
   cases c <;> try (simp only [SC.bare, erase, reduceCtorEq] at hb; done)
   case region id arr dr =>
    cases dr with
    | true => simp [SC.bare, erase] at hb
    | false =>
     simp only [SC.bare, erase, SC.reg.injEq] at hb
     refine K_region ?_
     refine run_sound hT m _ st h N0 W0 fm ts a w _ Q hS ?_ hQ
     refine .ops (by rw [hb, range_map_erase]) (by simp) ?_ ht
     simp only [erase, SC.fits, List.all_eq_true] at hf
     intro o ho d hd
     have : bareOp o ∈ ops.map bareOp := List.mem_map_of_mem ho
     rw [hb] at this
     have := hf _ this
     simp only [bareOp, hd] at this
     simpa using this
   case scope b => exact absurd rfl (hns b)
  | dreg ops bef drop =>
   simp only [run, AKev] at h
   exact h N0 W0 fm ts a w (.code c :: ct') Q hS (.sc hb hf ht) hQ
  | seq x y =>
   simp only [run] at h
   cases c <;> simp only [SC.bare, erase, reduceCtorEq] at hb
   case seq cx cy =>
    simp only [SC.seq.injEq] at hb
    simp only [erase, SC.fits, Bool.and_eq_true] at hf
    exact K_seq (run_sound hT m _ st h N0 W0 fm ts a w _ Q hS (.sc hb.1 hf.1 (.sc hb.2 hf.2 ht)) hQ)
   case region id ops dr => cases dr <;> simp [erase] at hb
   case scope b => exact absurd rfl (hns b)
  | cond cc x y =>
   simp only [run] at h
   cases c <;> simp only [SC.bare, erase, reduceCtorEq] at hb
   case cond c1 cx cy =>
    simp only [SC.cond.injEq] at hb
    obtain ⟨rfl, hbx, hby⟩ := hb
    simp only [erase, SC.fits, Bool.and_eq_true] at hf
    split at h
    ·rename_i b hbv
     have hv := opv_sound hS.tm hbv
     have he : a.eval cc = .bool b := by
      generalize a.eval cc = z at hv
      cases hv; rfl
     refine K_cond he ?_
     cases b with
     | true => rw [two_true] at h; exact run_sound hT m _ st h N0 W0 fm ts a w _ Q hS (.sc hbx hf.1 ht) hQ
     | false => rw [two_false] at h; exact run_sound hT m _ st h N0 W0 fm ts a w _ Q hS (.sc hby hf.2 ht) hQ
    ·simp only [AKev] at h
   case region id ops dr => cases dr <;> simp [erase] at hb
   case scope b => exact absurd rfl (hns b)
  | block id b =>
   simp only [run] at h
   cases c <;> simp only [SC.bare, erase, reduceCtorEq] at hb
   case block id' cb =>
    simp only [SC.block.injEq] at hb
    obtain ⟨rfl, hb⟩ := hb
    simp only [erase, SC.fits] at hf
    exact K_block (run_sound hT m _ st h N0 W0 fm ts a w _ Q hS (.sc hb hf (.blk ht)) hQ)
   case region id ops dr => cases dr <;> simp [erase] at hb
   case scope b => exact absurd rfl (hns b)
  | loop b =>
   simp only [run, AKev] at h
   exact h N0 W0 fm ts a w (.code c :: ct') Q hS (.sc hb hf ht) hQ
  | exit id =>
   simp only [run] at h
   cases c <;> simp only [SC.bare, erase, reduceCtorEq] at hb
   case exit id' =>
    simp only [SC.exit.injEq] at hb
    subst hb
    refine K_exit ?_
    have hx := ht.exits (P := P) id
    split at h
    ·rename_i t' ht'
     obtain ⟨ct2, h1, h2⟩ := hx.1 t' ht'
     exact h2 (run_sound hT m t' st h N0 W0 fm ts a w ct2 Q hS h1 hQ)
    ·rename_i hn
     simp only [AKev] at h
     exact hx.2 hn (hQ _ _ _ _ _ _ h hS (Later.refl _ _))
   case region id ops dr => cases dr <;> simp [erase] at hb
   case scope b => exact absurd rfl (hns b)
  | ret =>
   simp only [run, AKev] at h
   cases c <;> simp only [SC.bare, erase, reduceCtorEq] at hb
   case ret => exact K_ret (K_ret_all (hQ _ _ _ _ _ _ h hS (Later.refl _ _)) _)
   case region id ops dr => cases dr <;> simp [erase] at hb
   case scope b => exact absurd rfl (hns b)
  | other => simp only [run, AKev] at h
end
end Go.Abs
namespace Go.Abs
open Go Go.RowKit
set_option linter.unusedSectionVars false
section
variable [Md] {P : Program} {T : Tys} {N0 : Nat} {W0 : World} {n : Nat} {fm : FM} {ts : List Tie} {Φ : Exit → St → Prop}
def Weak (n : Nat) (st st' : St) : Prop := ∀ N0 W0 a w fm ts, SR N0 W0 n st a w fm ts → ∃ fm' ts', SR N0 W0 n st' a w fm' ts' ∧ Later N0 fm ts fm' ts'
theorem Weak.refl (n : Nat) (st : St) : Weak n st st := fun _ _ _ _ fm ts h => ⟨fm, ts, h, Later.refl _ _⟩
theorem Weak.trans {n : Nat} {a b c : St} (h : Weak n a b) (k : Weak n b c) : Weak n a c := by
 intro N0 W0 x w fm ts hS
 obtain ⟨f1, t1, h1, h2⟩ := h N0 W0 x w fm ts hS
 obtain ⟨f2, t2, h3, h4⟩ := k N0 W0 x w f1 t1 h1
 exact ⟨f2, t2, h3, h2.trans h4⟩
theorem AK.weak {todo : List It} {st st' : St} (hw : Weak n st st') (h : AK P n Φ todo st') : AK P n Φ todo st := by
 intro N0 W0 fm ts a w ct Q hS hsim hQ
 obtain ⟨fm', ts', h1, h2⟩ := hw N0 W0 a w fm ts hS
 exact h N0 W0 fm' ts' a w ct Q h1 (hsim.later h2) (fun e s x w' f t hΦ hs hl => hQ e s x w' f t hΦ hs (h2.trans hl))
theorem AK.mono {Ψ : Exit → St → Prop} (hΦ : ∀ e st, Φ e st → Ψ e st) {todo : List It} {st : St} (h : AK P n Φ todo st) : AK P n Ψ todo st := by
 intro N0 W0 fm ts a w ct Q hS hsim hQ
 exact h N0 W0 fm ts a w ct Q hS hsim (fun e s x w' f t hp hs hl => hQ e s x w' f t (hΦ e s hp) hs hl)
theorem AK.loop (Inv : Nat → St → Prop) (m : Nat) {st st0 : St} {b : SC} {todo : List It} (hw : Weak n st st0) (h0 : Inv m st0)
  (h : ∀ m st, Inv m st → AK P n Φ (.sc b :: .back (fun st' => ∃ st'' m', m' < m ∧ Weak n st' st'' ∧ Inv m' st'') :: todo) st) : AK P n Φ (.sc (.loop b) :: todo) st := by
 refine AK.weak hw ?_
 intro N0 W0 fm ts a w ct Q hS hsim hQ
 obtain ⟨c, ct', hns, hb, hf, ht, hK⟩ := hsim.sc_inv (P := P) rfl
 apply hK
 cases c <;> simp only [SC.bare, erase, reduceCtorEq] at hb
 case loop cb =>
  simp only [SC.loop.injEq] at hb
  simp only [erase, SC.fits] at hf
  refine K_loop (fun m a w => ∃ st fm' ts', Inv m st ∧ SR N0 W0 n st a w fm' ts' ∧ Later N0 fm ts fm' ts') m ⟨st0, fm, ts, h0, hS, Later.refl _ _⟩ ?_
  rintro m a w ⟨st, fm', ts', hI, hS', hL⟩
  refine h m st hI N0 W0 fm' ts' a w _ Q hS' (.sc hb hf (.back ?_ (ht.later hL))) (fun e s x w' f t hp hs hl => hQ e s x w' f t hp hs (hL.trans hl))
  rintro st' a' w' fm2 ts2 ⟨st'', m', hlt, hwk, hI'⟩ hS2 hL2
  obtain ⟨fm3, ts3, h3, h4⟩ := hwk N0 W0 a' w' fm2 ts2 hS2
  exact ⟨m', hlt, st'', fm3, ts3, hI', h3, (hL.trans hL2).trans h4⟩
 case region id ops dr => cases dr <;> simp [erase] at hb
 case scope b => exact absurd rfl (hns b)
def idx : List Nat → Nat → Option Nat
 | [], _ => none
 | x :: l, k => if x = k then some 0 else (idx l k).map (· + 1)
theorem idx_get : ∀ (ks : List Nat) (k i : Nat), idx ks k = some i → ks[i]? = some k
 | [], k, i, h => by simp [idx] at h
 | x :: l, k, i, h => by
  simp only [idx] at h
  split at h
  ·rename_i e
   obtain rfl := Option.some.inj h
   simp [e]
  ·simp only [Option.map_eq_some_iff] at h
   obtain ⟨j, h1, rfl⟩ := h
   simpa using idx_get l k j h1
def renK (ks : List Nat) (l k : Nat) : Option Nat :=
 match l with
 | 0 => idx ks k
 | _ + 1 => some k
mutual
def AV.ren (ks : List Nat) : AV → Option AV
 | .loc l k e i n g => (renK ks l k).map fun k => .loc l k e i n g
 | .inn l k e o n => (renK ks l k).map fun k => .inn l k e o n
 | .ptr l k o => (renK ks l k).map fun k => .ptr l k o
 | .eptr l k e i o g => (renK ks l k).map fun k => .eptr l k e i o g
 | .fn f a b => match AV.renL ks a, AV.renL ks b with
  | some a, some b => some (.fn f a b)
  | _, _ => none
 | .ifc t v => (v.ren ks).map (.ifc t)
 | .agg cs => (AV.renL ks cs).map .agg
 | .tup vs => (AV.renL ks vs).map .tup
 | .bool b => some (.bool b)
 | .int k n => some (.int k n)
 | .str s => some (.str s)
 | .nil => some .nil
 | .sl e es => some (.sl e es)
 | .pnil => some .pnil
 | .rptr e es i o => some (.rptr e es i o)
 | .fnil => some .fnil
 | .inil => some .inil
 | .dead => some .dead
def AV.renL (ks : List Nat) : List AV → Option (List AV)
 | [] => some []
 | x :: l => match x.ren ks, AV.renL ks l with
  | some x, some l => some (x :: l)
  | _, _ => none
end
def tren (ks : List Nat) (t : Tie) : Tie := fun i => (ks[i]?).bind t
theorem tb_ren {ks : List Nat} {t : Tie} {rest : List Tie} {l k k' : Nat} (h : renK ks l k = some k') : tb (tren ks t :: rest) l k' = tb (t :: rest) l k := by
 cases l with
 | zero => simp only [tb, tren, idx_get ks k k' h, Option.bind_some]
 | succ l => simp only [renK, Option.some.injEq] at h; subst h; rfl
theorem renL_get (ks : List Nat) : ∀ (cs ys : List AV), AV.renL ks cs = some ys → ys.length = cs.length ∧ ∀ (i : Nat) (x : AV), cs[i]? = some x → ∃ y, ys[i]? = some y ∧ x.ren ks = some y
 | [], ys, h => by simp only [AV.renL, Option.some.injEq] at h; subst h; simp
 | x :: l, ys, h => by
  simp only [AV.renL] at h
  split at h
  ·rename_i a b ha hb
   obtain rfl := Option.some.inj h
   have ih := renL_get ks l b hb
   refine ⟨by simp [ih.1], ?_⟩
   intro i z hz
   cases i with
   | zero => simp only [List.getElem?_cons_zero, Option.some.injEq] at hz; subst hz; exact ⟨a, by simp, ha⟩
   | succ i => simp only [List.getElem?_cons_succ] at hz ⊢; exact ih.2 i z hz
  ·cases h
theorem ren_flat {ks : List Nat} {x y : AV} (h : x.ren ks = some y) : y.flat = x.flat := by
 cases x with
 | fn f a b =>
  simp only [AV.ren] at h
  split at h
  ·obtain rfl := Option.some.inj h; simp [AV.flat]
  ·cases h
 | _ =>
  first
  | (simp only [AV.ren, Option.some.injEq] at h; subst h; simp [AV.flat]; done)
  | (simp only [AV.ren, Option.map_eq_some_iff] at h; obtain ⟨a, _, rfl⟩ := h; simp [AV.flat]; done)
theorem VR.ren {ks : List Nat} {t : Tie} {rest : List Tie} {ts0 : List Tie} {x : AV} {v : Value} (hv : VR fm ts0 x v) : ts0 = t :: rest → ∀ {y : AV}, x.ren ks = some y → VR fm (tren ks t :: rest) y v := by
 induction hv with
 | bool b => intro _ y e; simp only [AV.ren, Option.some.injEq] at e; subst e; exact .bool b
 | int k n => intro _ y e; simp only [AV.ren, Option.some.injEq] at e; subst e; exact .int k n
 | str s => intro _ y e; simp only [AV.ren, Option.some.injEq] at e; subst e; exact .str s
 | nil => intro _ y e; simp only [AV.ren, Option.some.injEq] at e; subst e; exact .nil
 | slNil e a cap => intro _ y e; simp only [AV.ren, Option.some.injEq] at e; subst e; exact .slNil _ a cap
 | sl es cb off esz cap u hcap h1 h2 h3 h4 _ => intro _ y e; simp only [AV.ren, Option.some.injEq] at e; subst e; exact .sl es cb off esz cap u hcap h1 h2 h3 h4
 | locGone l k esz i n g a cp h hn' ha =>
  rintro rfl y e; simp only [AV.ren, Option.map_eq_some_iff] at e; obtain ⟨k', hk, rfl⟩ := e; exact .locGone _ _ esz i n g a cp ((tb_ren hk).trans h) hn' ha
 | locOld l k esz i n g a cp m' c h hlt hn' ha =>
  rintro rfl y e; simp only [AV.ren, Option.map_eq_some_iff] at e; obtain ⟨k', hk, rfl⟩ := e; exact .locOld _ _ esz i n g a cp m' c ((tb_ren hk).trans h) hlt hn' ha
 | locNil l k esz a h =>
  rintro rfl y e; simp only [AV.ren, Option.map_eq_some_iff] at e; obtain ⟨k', hk, rfl⟩ := e; exact .locNil _ _ esz a ((tb_ren hk).trans h)
 | loc l k esz i n g c cap cp a h hn' hnc hc ha =>
  rintro rfl y e; simp only [AV.ren, Option.map_eq_some_iff] at e; obtain ⟨k', hk, rfl⟩ := e; exact .loc _ _ esz i n g c cap cp a ((tb_ren hk).trans h) hn' hnc hc ha
 | inn l k esz o n c cp a h hn' ha =>
  rintro rfl y e; simp only [AV.ren, Option.map_eq_some_iff] at e; obtain ⟨k', hk, rfl⟩ := e; exact .inn _ _ esz o n c cp a ((tb_ren hk).trans h) hn' ha
 | pnil => intro _ y e; simp only [AV.ren, Option.some.injEq] at e; subst e; exact .pnil
 | ptr l k o c h =>
  rintro rfl y e; simp only [AV.ren, Option.map_eq_some_iff] at e; obtain ⟨k', hk, rfl⟩ := e; exact .ptr _ _ o c ((tb_ren hk).trans h)
 | eptrGone l k esz i o g a h =>
  rintro rfl y e; simp only [AV.ren, Option.map_eq_some_iff] at e; obtain ⟨k', hk, rfl⟩ := e; exact .eptrGone _ _ esz i o g a ((tb_ren hk).trans h)
 | eptrOld l k esz i o g a m' c h hlt =>
  rintro rfl y e; simp only [AV.ren, Option.map_eq_some_iff] at e; obtain ⟨k', hk, rfl⟩ := e; exact .eptrOld _ _ esz i o g a m' c ((tb_ren hk).trans h) hlt
 | eptr l k esz i o g c cap h =>
  rintro rfl y e; simp only [AV.ren, Option.map_eq_some_iff] at e; obtain ⟨k', hk, rfl⟩ := e; exact .eptr _ _ esz i o g c cap ((tb_ren hk).trans h)
 | rptr es i o cb off esz u h1 h2 h3 h4 _ => intro _ y e; simp only [AV.ren, Option.some.injEq] at e; subst e; exact .rptr es i o cb off esz u h1 h2 h3 h4
 | fnil => intro _ y e; simp only [AV.ren, Option.some.injEq] at e; subst e; exact .fnil
 | fn f first cap vf vc h1 h2 _ _ ih1 ih2 =>
  intro e0 y e
  simp only [AV.ren] at e
  split at e
  ·rename_i a b ha hb
   obtain rfl := Option.some.inj e
   have g1 := renL_get ks _ _ ha
   have g2 := renL_get ks _ _ hb
   refine .fn f _ _ vf vc (g1.1.trans h1) (g2.1.trans h2) ?_ ?_
   ·intro i x v hx hv
    have hlt : i < first.length := by rw [← g1.1]; exact (List.getElem?_eq_some_iff.1 hx).1
    obtain ⟨z, hz, hr⟩ := g1.2 i _ (List.getElem?_eq_getElem hlt)
    rw [hx] at hz; obtain rfl := Option.some.inj hz
    exact ih1 i _ v (List.getElem?_eq_getElem hlt) hv e0 hr
   ·intro i x v hx hv
    have hlt : i < cap.length := by rw [← g2.1]; exact (List.getElem?_eq_some_iff.1 hx).1
    obtain ⟨z, hz, hr⟩ := g2.2 i _ (List.getElem?_eq_getElem hlt)
    rw [hx] at hz; obtain rfl := Option.some.inj hz
    exact ih2 i _ v (List.getElem?_eq_getElem hlt) hv e0 hr
  ·cases e
 | inil => intro _ y e; simp only [AV.ren, Option.some.injEq] at e; subst e; exact .inil
 | ifc t x v _ ih =>
  intro e0 y e
  simp only [AV.ren, Option.map_eq_some_iff] at e
  obtain ⟨z, hz, rfl⟩ := e
  exact .ifc t _ v (ih e0 hz)
 | agg cs vs h1 h2 _ ih =>
  intro e0 y e
  simp only [AV.ren, Option.map_eq_some_iff] at e
  obtain ⟨z, hz, rfl⟩ := e
  have g := renL_get ks _ _ hz
  refine .agg _ vs (g.1.trans h1) ?_ ?_
  ·intro x hx
   obtain ⟨i, hi⟩ := List.mem_iff_getElem?.1 hx
   have hlt : i < cs.length := by rw [← g.1]; exact (List.getElem?_eq_some_iff.1 hi).1
   obtain ⟨q, hq, hr⟩ := g.2 i _ (List.getElem?_eq_getElem hlt)
   rw [hi] at hq; obtain rfl := Option.some.inj hq
   rw [ren_flat hr]; exact h2 _ (List.getElem_mem hlt)
  ·intro i x v hx hv
   have hlt : i < cs.length := by rw [← g.1]; exact (List.getElem?_eq_some_iff.1 hx).1
   obtain ⟨q, hq, hr⟩ := g.2 i _ (List.getElem?_eq_getElem hlt)
   rw [hx] at hq; obtain rfl := Option.some.inj hq
   exact ih i _ v (List.getElem?_eq_getElem hlt) hv e0 hr
 | tup xs vs h1 _ ih =>
  intro e0 y e
  simp only [AV.ren, Option.map_eq_some_iff] at e
  obtain ⟨z, hz, rfl⟩ := e
  have g := renL_get ks _ _ hz
  refine .tup _ vs (g.1.trans h1) ?_
  intro i x v hx hv
  have hlt : i < xs.length := by rw [← g.1]; exact (List.getElem?_eq_some_iff.1 hx).1
  obtain ⟨q, hq, hr⟩ := g.2 i _ (List.getElem?_eq_getElem hlt)
  rw [hx] at hq; obtain rfl := Option.some.inj hq
  exact ih i _ v (List.getElem?_eq_getElem hlt) hv e0 hr
 | dead v => intro _ y e; simp only [AV.ren, Option.some.injEq] at e; subst e; exact .dead v
def Blk.ren (ks : List Nat) : Blk → Option Blk
 | .arr et e es => some (.arr et e es)
 | .box cs => (AV.renL ks cs).map .box
def renFr (ks : List Nat) (fr : Fra) : Nat → List Nat → Option Fra
 | _, [] => some []
 | i, k :: r => match look fr k with
  | none => renFr ks fr (i + 1) r
  | some b => match b.ren ks, renFr ks fr (i + 1) r with
   | some b, some l => some ((i, b) :: l)
   | _, _ => none
def renTm (ks : List Nat) (tm : List (Nat × AV)) : List Nat → Option (List (Nat × AV))
 | [] => some []
 | t :: r => match look tm t with
  | none => none
  | some x => match x.ren ks, renTm ks tm r with
   | some x, some l => some ((t, x) :: l)
   | _, _ => none
def St.norm (st : St) (keep ks : List Nat) (nx : Nat) : Option St :=
 match renTm ks st.tm keep, renFr ks st.fr 0 ks with
 | some tm, some fr => some ⟨tm, fr, st.low, nx, st.nt⟩
 | _, _ => none
theorem renFr_look (ks : List Nat) (fr : Fra) : ∀ (r : List Nat) (i : Nat) (f : Fra), renFr ks fr i r = some f → ∀ j b, look f j = some b → i ≤ j ∧ ∃ k b0, r[j - i]? = some k ∧ look fr k = some b0 ∧ b0.ren ks = some b
 | [], i, f, h, j, b, hj => by simp only [renFr, Option.some.injEq] at h; subst h; simp [look] at hj
 | k :: r, i, f, h, j, b, hj => by
  have step : ∀ f', renFr ks fr (i + 1) r = some f' → look f' j = some b → i ≤ j ∧ ∃ k' b0, (k :: r)[j - i]? = some k' ∧ look fr k' = some b0 ∧ b0.ren ks = some b := by
   intro f' h1 h2
   obtain ⟨h3, k', b0, h4, h5, h6⟩ := renFr_look ks fr r (i + 1) f' h1 j b h2
   refine ⟨by omega, k', b0, ?_, h5, h6⟩
   have e : j - i = (j - (i + 1)) + 1 := by omega
   rw [e, List.getElem?_cons_succ]; exact h4
  simp only [renFr] at h
  split at h
  ·exact step f h hj
  ·rename_i b0 hb0
   split at h
   ·rename_i b' l hb' hl
    obtain rfl := Option.some.inj h
    simp only [look] at hj
    split at hj
    ·rename_i e
     subst e
     obtain rfl := Option.some.inj hj
     exact ⟨Nat.le_refl _, k, b0, by simp, hb0, hb'⟩
    ·exact step l hl hj
   ·cases h
theorem renTm_look (ks : List Nat) (tm : List (Nat × AV)) : ∀ (r : List Nat) (f : List (Nat × AV)), renTm ks tm r = some f → ∀ t y, look f t = some y → ∃ x, look tm t = some x ∧ x.ren ks = some y
 | [], f, h, t, y, hy => by simp only [renTm, Option.some.injEq] at h; subst h; simp [look] at hy
 | t0 :: r, f, h, t, y, hy => by
  simp only [renTm] at h
  split at h
  ·cases h
  ·rename_i x hx
   split at h
   ·rename_i x' l hx' hl
    obtain rfl := Option.some.inj h
    simp only [look] at hy
    split at hy
    ·rename_i e
     subst e
     obtain rfl := Option.some.inj hy
     exact ⟨x, hx, hx'⟩
    ·exact renTm_look ks tm r l hl t y hy
   ·cases h
theorem HR.ren {t : Tie} {rest : List Tie} {fr fr' : Fra} {low : Heap} {w : World} {ks : List Nat} (h : HR N0 W0 fm (t :: rest) (fr :: low) w) (hf : renFr ks fr 0 ks = some fr') (hnd : ks.Nodup) :
  HR N0 W0 fm (tren ks t :: rest) (fr' :: low) w := by
 have src : ∀ l k b, Heap.get (fr' :: low) l k = some b → ∃ k0 b0, Heap.get (fr :: low) l k0 = some b0 ∧ tb (tren ks t :: rest) l k = tb (t :: rest) l k0 ∧ (l = 0 → ks[k]? = some k0 ∧ b0.ren ks = some b) ∧ (l ≠ 0 → k0 = k ∧ b0 = b) := by
  intro l k b hg
  cases l with
  | zero =>
   obtain ⟨_, k0, b0, h1, h2, h3⟩ := renFr_look ks fr ks 0 fr' hf k b (by simpa [Heap.get] using hg)
   have h1 : ks[k]? = some k0 := by simpa using h1
   exact ⟨k0, b0, by simpa [Heap.get] using h2, by simp [tb, tren, h1], fun _ => ⟨h1, h3⟩, fun h => absurd rfl h⟩
  | succ l => exact ⟨k, b, by simpa [Heap.get] using hg, by simp [tb], fun h => by omega, fun _ => ⟨rfl, rfl⟩⟩
 refine ⟨by have := h.len; simpa using this, ?_, ?_, h.fms, ?_, h.bel, h.size, h.oth⟩
 ·intro l k b hg
  obtain ⟨k0, b0, h1, h2, h3, h4⟩ := src l k b hg
  rw [h2]
  have hb := h.blk l k0 b0 h1
  cases l with
  | zero =>
   obtain ⟨_, hr⟩ := h3 rfl
   simp only [List.drop_zero] at hb ⊢
   generalize tb (t :: rest) 0 k0 = tt at hb
   cases hb with
   | box c cs hN hB =>
    simp only [Blk.ren, Option.map_eq_some_iff] at hr
    obtain ⟨ys, hy, rfl⟩ := hr
    have g := renL_get ks _ _ hy
    obtain ⟨cells, et, c1, c2, c3⟩ := hB
    refine .box c _ hN ⟨cells, et, c1, by rw [g.1]; exact c2, ?_⟩
    intro o x v hx hv
    have hlt : o < cs.length := by rw [← g.1]; exact (List.getElem?_eq_some_iff.1 hx).1
    obtain ⟨z, hz, hzr⟩ := g.2 o _ (List.getElem?_eq_getElem hlt)
    rw [hx] at hz; obtain rfl := Option.some.inj hz
    have := c3 o _ v (List.getElem?_eq_getElem hlt) hv
    exact ⟨by rw [ren_flat hzr]; exact this.1, this.2.ren rfl hzr⟩
   | nil et esz => simp only [Blk.ren, Option.some.injEq] at hr; subst hr; exact .nil et esz
   | arr et esz es c cap hN hA => simp only [Blk.ren, Option.some.injEq] at hr; subst hr; exact .arr et esz es c cap hN hA
  | succ l =>
   obtain ⟨rfl, rfl⟩ := h4 (by omega)
   simpa using hb
 ·intro l1 k1 l2 k2 b1 b2 c g1 g2 t1 t2
  obtain ⟨j1, a1, p1, q1, r1, s1⟩ := src l1 k1 b1 g1
  obtain ⟨j2, a2, p2, q2, r2, s2⟩ := src l2 k2 b2 g2
  rw [q1] at t1
  rw [q2] at t2
  obtain ⟨rfl, rfl⟩ := h.inj l1 j1 l2 j2 a1 a2 c p1 p2 t1 t2
  refine ⟨rfl, ?_⟩
  by_cases hl : l1 = 0
  ·have e1 := (r1 hl).1
   have e2 := (r2 hl).1
   have hlt1 := (List.getElem?_eq_some_iff.1 e1).1
   exact (List.getElem?_inj hlt1 hnd).1 (e1.trans e2.symm)
  ·have e1 := (s1 hl).1
   have e2 := (s2 hl).1
   omega
 ·intro l k b c o hg ht
  obtain ⟨k0, b0, h1, h2, _, _⟩ := src l k b hg
  rw [h2] at ht
  exact h.fmd l k0 b0 c o h1 ht
theorem Weak.norm {st st' : St} {keep ks : List Nat} {nx : Nat} (e : st.norm keep ks nx = some st') (hnd : ks.Nodup) (hnx : ks.length ≤ nx) : Weak n st st' := by
 intro N0 W0 a w fm ts h
 unfold St.norm at e
 split at e
 ·rename_i tm fr htm hfr
  obtain rfl := Option.some.inj e
  cases ts with
  | nil => have := h.hr.len; simp at this
  | cons t rest =>
   refine ⟨fm, tren ks t :: rest, ⟨h.hr.ren hfr hnd, ?_, ?_, h.size, h.dfr⟩, ⟨FmUp.refl _ _, TsLe.refl _, fun _ _ h => h⟩⟩
   ·intro i y hy
    obtain ⟨x, h1, h2⟩ := renTm_look ks st.tm keep tm htm i y hy
    obtain ⟨v, h3, h4⟩ := h.tm i x h1
    exact ⟨v, h3, h4.ren rfl h2⟩
   ·intro k hk
    have hk' : nx ≤ k := hk
    simp only [tb, tren]
    rw [List.getElem?_eq_none (by omega)]; rfl
 ·cases e
end
end Go.Abs
namespace Go.Abs
open Go Go.RowKit
set_option linter.unusedSectionVars false
section
variable [Md] {P : Program} {T : Tys} {N0 : Nat} {W0 : World} {n : Nat} {fm : FM} {ts : List Tie}
def resOne (T : Tys) (st : St) : ResultVar → Option AV
 | .tmp t => look st.tm t
 | .cell a t => match T t, look st.tm a with
  | some ti, some x => doLoad st.get ti x
  | _, _ => none
def resAll (T : Tys) (st : St) : List ResultVar → Option (List AV)
 | [] => some []
 | r :: l => match resOne T st r, resAll T st l with
  | some x, some l => some (x :: l)
  | _, _ => none
def tupOf : List AV → AV
 | [x] => x
 | l => .tup l
theorem resOne_ok (hT : TysOK P T) {st : St} {a : Act} {w : World} (h : SR N0 W0 n st a w fm ts) {r : ResultVar} {x : AV} (e : resOne T st r = some x) :
  ∃ v, (match r with
   | .tmp t => (pure (a.tmps.getD t undef) : Sem Value)
   | .cell b t => do loadVar t (← asAddr (a.tmps.getD b undef))).run P w = .ok v w ∧ VR fm ts x v := by
 cases r with
 | tmp t =>
  obtain ⟨v, h1, h2⟩ := h.tm t x e
  exact ⟨v, by simp [Array.getD_eq_getD_getElem?, h1], h2⟩
 | cell b t =>
  simp only [resOne] at e
  split at e
  ·rename_i ti y ht hy
   obtain ⟨v, h1, h2⟩ := h.tm b y hy
   obtain ⟨u, h3, h4⟩ := doLoad_ok (P := P) hT ht h.hr h2 e
   refine ⟨u, ?_, h4⟩
   have hg : a.tmps.getD b undef = v := by simp [Array.getD_eq_getD_getElem?, h1]
   unfold doLoad at e
   cases hc : cellsAt st.get ti.size y with
   | none => rw [hc] at e; cases e
   | some cs =>
    obtain ⟨ad, vs, rfl, _⟩ := h.hr.cellsAt h2 hc
    simp only [hg, asAddr, Sem.run_bind, Sem.run_pure, Result.andThen_ok]
    simpa [Instr.loadAt, Instr.sureAddr] using h3
  ·cases e
theorem results_ok (hT : TysOK P T) {st : St} {a : Act} {w : World} (h : SR N0 W0 n st a w fm ts) {fn : Func} {xs : List AV} (e : resAll T st fn.results.toList = some xs) :
  ∃ v, (results fn a.tmps).run P w = .ok v w ∧ VR fm ts (tupOf xs) v := by
 have key : ∀ (l : List ResultVar) (xs : List AV), resAll T st l = some xs → ∃ vs : List Value, (l.mapM (m := Sem) fun
   | .tmp t => (pure (a.tmps.getD t undef) : Sem Value)
   | .cell b t => do loadVar t (← asAddr (a.tmps.getD b undef))).run P w = .ok vs w ∧ VRs fm ts xs vs := by
  intro l
  induction l with
  | nil => intro xs e; simp only [resAll, Option.some.injEq] at e; subst e; exact ⟨[], by simp, rfl, fun i x v h => by simp at h⟩
  | cons r l ih =>
   intro xs e
   simp only [resAll] at e
   split at e
   ·rename_i x l' hx hl
    obtain rfl := Option.some.inj e
    obtain ⟨v, h1, h2⟩ := resOne_ok (P := P) hT h hx
    obtain ⟨vs, h3, h4⟩ := ih l' hl
    refine ⟨v :: vs, ?_, by simp [h4.1], ?_⟩
    ·simp only [List.mapM_cons, Sem.run_bind, h1, h3, Result.andThen_ok, Sem.run_pure]
    ·intro i y u hy hu
     cases i with
     | zero => simp only [List.getElem?_cons_zero, Option.some.injEq] at hy hu; subst hy hu; exact h2
     | succ i => simp only [List.getElem?_cons_succ] at hy hu; exact h4.2 i y u hy hu
   ·cases e
 obtain ⟨vs, h1, h2⟩ := key _ _ e
 have hr : (results fn a.tmps).run P w = .ok (if h : vs.toArray.size = 1 then vs.toArray[0] else .tuple vs.toArray) w := by
  unfold results
  rw [← Array.toArray_toList (xs := fn.results), List.mapM_toArray]
  simp only [Sem.run_bind, Sem.run_map, Sem.run_pure]
  erw [h1]
  rfl
 refine ⟨_, hr, ?_⟩
 have hl := h2.1
 match xs, vs, hl, h2 with
 | [], [], _, h2 => exact .tup [] #[] rfl (fun i x v h => by simp at h)
 | [x], [v], _, h2 => exact h2.2 0 x v rfl rfl
 | x :: y :: xs, v :: u :: vs, _, h2 =>
  have : ¬ ((v :: u :: vs).toArray.size = 1) := by simp
  rw [dif_neg this]
  exact .tup _ _ (by simpa using h2.1) (fun i x v a b => h2.2 i x v a (by simpa using b))
def zipTm : Nat → List AV → List (Nat × AV)
 | _, [] => []
 | i, x :: l => (i, x) :: zipTm (i + 1) l
theorem zipTm_look : ∀ (l : List AV) (i t : Nat) (x : AV), look (zipTm i l) t = some x → i ≤ t ∧ l[t - i]? = some x
 | [], i, t, x, h => by simp [zipTm, look] at h
 | y :: l, i, t, x, h => by
  simp only [zipTm, look] at h
  split at h
  ·rename_i e
   subst e
   obtain rfl := Option.some.inj h
   exact ⟨Nat.le_refl _, by simp⟩
  ·obtain ⟨h1, h2⟩ := zipTm_look l (i + 1) t x h
   refine ⟨by omega, ?_⟩
   have e : t - i = (t - (i + 1)) + 1 := by omega
   rw [e, List.getElem?_cons_succ]; exact h2
def St.enter (args : List AV) (H : Heap) (n : Nat) : St := ⟨zipTm 0 args, [], H, 0, n⟩
theorem HR.push {H : Heap} {w : World} (h : HR N0 W0 fm ts H w) : HR N0 W0 fm (noTie :: ts) ([] :: H) w := by
 refine ⟨by simp [h.len], ?_, ?_, h.fms, ?_, h.bel, h.size, h.oth⟩
 ·intro l k b hg
  cases l with
  | zero => simp [Heap.get, look] at hg
  | succ l => simpa [tb] using h.blk l k b (by simpa [Heap.get] using hg)
 ·intro l1 k1 l2 k2 b1 b2 c g1 g2 t1 t2
  cases l1 with
  | zero => simp [Heap.get, look] at g1
  | succ l1 =>
   cases l2 with
   | zero => simp [Heap.get, look] at g2
   | succ l2 =>
    have := h.inj l1 k1 l2 k2 b1 b2 c (by simpa [Heap.get] using g1) (by simpa [Heap.get] using g2) (by simpa [tb] using t1) (by simpa [tb] using t2)
    exact ⟨by omega, this.2⟩
 ·intro l k b c o hg ht
  cases l with
  | zero => simp [Heap.get, look] at hg
  | succ l => exact h.fmd l k b c o (by simpa [Heap.get] using hg) (by simpa [tb] using ht)
theorem SR.enter {H : Heap} {w : World} (h : HR N0 W0 fm ts H w) {args : List AV} {vs : List Value} (hv : VRs fm (noTie :: ts) args vs) {n : Nat} (hn : args.length ≤ n) :
  SR N0 W0 n (St.enter args H n) { tmps := vs.toArray ++ Array.replicate (n - vs.toArray.size) undef, defers := Md.dfs } w fm (noTie :: ts) := by
 have hl := hv.1
 refine ⟨h.push, ?_, fun k _ => rfl, by simp; omega, rfl⟩
 intro t x hx
 obtain ⟨_, hx⟩ := zipTm_look args 0 t x hx
 simp only [Nat.sub_zero] at hx
 have hlt : t < vs.length := by rw [← hl]; exact (List.getElem?_eq_some_iff.1 hx).1
 refine ⟨vs[t], ?_, hv.2 t x _ hx (List.getElem?_eq_getElem hlt)⟩
 rw [Array.getElem?_append_left (by simpa using hlt)]
 simp [hlt]
inductive Gives (R : AV → Fra → Heap → Prop) (v : AV) (st : St) : Prop
 | own (ks : List Nat) (y : AV) (fr : Fra) (hn : ks.Nodup) (hk : ks.length ≤ 16) (hy : v.ren ks = some y) (hf : renFr ks st.fr 0 ks = some fr) (h : R y fr st.low)
 | frz (y : AV) (hy : v.frz st.get = some y) (hr : (v.refs.all fun p => p.1 == 0) = true) (h : R y [] st.low)
def Ends (T : Tys) (rs : List ResultVar) (R : AV → Fra → Heap → Prop) (e : Exit) (st : St) : Prop :=
 match e with
 | .normal | .ret => ∃ xs, resAll T st rs = some xs ∧ Gives R (tupOf xs) st
 | _ => False
theorem HR.pop {t : Tie} {f : Fra} {H : Heap} {w : World} (h : HR N0 W0 fm (t :: ts) (f :: H) w) : HR N0 W0 fm ts H w := by
 refine ⟨by have := h.len; simpa using this, ?_, ?_, h.fms, ?_, h.bel, h.size, h.oth⟩
 ·intro l k b hg
  simpa [tb] using h.blk (l + 1) k b (by simpa [Heap.get] using hg)
 ·intro l1 k1 l2 k2 b1 b2 c g1 g2 t1 t2
  have := h.inj (l1 + 1) k1 (l2 + 1) k2 b1 b2 c (by simpa [Heap.get] using g1) (by simpa [Heap.get] using g2) (by simpa [tb] using t1) (by simpa [tb] using t2)
  exact ⟨by omega, this.2⟩
 ·intro l k b c o hg ht
  exact h.fmd (l + 1) k b c o (by simpa [Heap.get] using hg) (by simpa [tb] using ht)
theorem kills_low {r : List (Nat × Nat)} (hr : (r.all fun p => p.1 == 0) = true) : ∀ (f : Fra) (H : Heap), ∃ f', Heap.puts (f :: H) (kills r) = f' :: H := by
 induction r with
 | nil => intro f H; exact ⟨f, rfl⟩
 | cons p r ih =>
  intro f H
  simp only [List.all_cons, Bool.and_eq_true, beq_iff_eq] at hr
  obtain ⟨l, k⟩ := p
  obtain ⟨h1, h2⟩ := hr
  simp only at h1
  subst h1
  exact ih h2 (del f k) H
end
section
variable {P : Program} {T : Tys} {N0 : Nat} {W0 : World} {n : Nat} {fm : FM} {ts : List Tie}
theorem ACall.of_body (hT : TysOK P T) {f : FuncId} {fn : Func} {c : Code} {sc : SC} {args : List AV} {H : Heap} {R : AV → Fra → Heap → Prop} (hf : P.funcs[f]? = some fn) (hb : fn.body = some c) (hnm : (fn.name == "runtime.NumGoroutine") = false)
  (he : sc.bare = erase fn.ntmps c) (hfit : (erase fn.ntmps c).fits fn.ntmps = true) (hargs : args.length ≤ fn.ntmps)
  (h : AK P fn.ntmps (Ends T fn.results.toList fun y fr H' => R y fr H') [.sc sc] (St.enter args H fn.ntmps)) (hlow : ∀ y fr H', R y fr H' → H'.length = H.length) : ACall P f args H R := by
 refine ⟨⟨fn, hf, hnm, by simp [hb]⟩, ?_⟩
 intro N0 W0 fm ts w vs hH hv
 refine calls_of_wp hf hb ((wpIn_plain []).1 ?_)
 have hS := SR.enter hH hv hargs
 have := h N0 W0 fm (noTie :: ts) _ w [.code c] (bodyPost P fn fun e w' => ∃ v av fr' H' fm' t' ts', e = .returned v ∧ R av fr' H' ∧ H'.length = H.length ∧ HR N0 W0 fm' (t' :: ts') (fr' :: H') w' ∧ VR fm' (t' :: ts') av v ∧ FmUp N0 fm fm' ∧ TsLe ts ts' ∧
   (∀ l k, tb ts l k = none → tb ts' l k = none) ∧ ∀ k, 16 ≤ k → t' k = none) hS (.sc he hfit .nil) ?_
 ·exact this
 ·intro e st' a' w' fm' ts' hE hS' hL
  have fin : (∃ xs, resAll T st' fn.results.toList = some xs ∧ Gives R (tupOf xs) st') → a'.defers = [] ∧ ∃ v, (results fn a'.tmps).run P w' = .ok v w' ∧ ∃ v_1 av fr' H' fm' t' ts', Ending.returned v = .returned v_1 ∧ R av fr' H' ∧ H'.length = H.length ∧ HR N0 W0 fm' (t' :: ts') (fr' :: H') w' ∧ VR fm' (t' :: ts') av v_1 ∧ FmUp N0 fm fm' ∧ TsLe ts ts' ∧
    (∀ l k, tb ts l k = none → tb ts' l k = none) ∧ ∀ k, 16 ≤ k → t' k = none := by
   rintro ⟨xs, hxs, hg⟩
   obtain ⟨v, h1, h2⟩ := results_ok (P := P) hT hS' hxs
   refine ⟨hS'.dfr, v, h1, ?_⟩
   cases ts' with
   | nil => have := hS'.hr.len; simp at this
   | cons t rest =>
    have hts : TsLe ts rest := by simpa using hL.tle
    have hno : ∀ l k, tb ts l k = none → tb rest l k = none := by simpa using hL.no
    cases hg with
    | own ks y fr hn hk hy hfr hR =>
     exact ⟨v, y, fr, st'.low, fm', tren ks t, rest, rfl, hR, hlow _ _ _ hR, hS'.hr.ren hfr hn, h2.ren rfl hy, hL.fle, hts, hno, fun k hk' => by simp only [tren]; rw [List.getElem?_eq_none (by omega)]; rfl⟩
    | frz y hy hr hR =>
     have h3 := hS'.hr.frz (tupOf xs).refs h2 hy (fun _ h => h)
     have h4 := hS'.hr.letGo (tupOf xs).refs
     obtain ⟨f', hf'⟩ := kills_low hr st'.fr st'.low
     rw [hf'] at h4
     have hpt : ∀ l k, tb (tgone (t :: rest) (tupOf xs).refs) (l + 1) k = tb rest l k := by
      intro l k
      rw [tb_tgone, if_neg]
      ·simp [tb]
      ·rintro ⟨hm, _⟩
       have := List.all_eq_true.1 hr _ hm
       simp at this
     have hlen := length_tgone (tupOf xs).refs (t :: rest)
     cases hg : tgone (t :: rest) (tupOf xs).refs with
     | nil => rw [hg] at hlen; simp at hlen
     | cons t2 rest2 =>
      rw [hg] at h4 hpt
      have e2 : ∀ l k, tb rest2 l k = tb rest l k := fun l k => by simpa [tb] using hpt l k
      have hup := hS'.hr.fmUp (tupOf xs).refs
      exact ⟨v, y, [], st'.low, _, noTie, rest2, rfl, hR, hlow _ _ _ hR, h4.pop.push, h3.mono (FmLe.refl _) (TsLe.nil _), hL.fle.trans hup, fun l k => by rw [e2]; exact hts l k, fun l k hh => by rw [e2]; exact hno l k hh, fun _ _ => rfl⟩
  cases e with
  | normal => exact fin hE
  | ret => exact fin hE
  | _ => exact hE.elim
end
end Go.Abs
namespace Go.Abs
open Go Go.RowKit
set_option linter.unusedSectionVars false
mutual
theorem frz_idem (G : Get) : ∀ (x y : AV), x.frz G = some y → y.frz (fun _ _ => none) = some y
 | .loc l k e i n g, y, h => by
  simp only [AV.frz] at h
  split at h
  ·split at h
   ·obtain rfl := Option.some.inj h; simp [AV.frz]
   ·cases h
  ·cases h
 | .nil, y, h => by simp only [AV.frz, Option.some.injEq] at h; subst h; simp [AV.frz]
 | .ifc t v, y, h => by
  simp only [AV.frz, Option.map_eq_some_iff] at h
  obtain ⟨a, h1, rfl⟩ := h
  simp only [AV.frz, frz_idem G v a h1, Option.map_some]
 | .agg cs, y, h => by
  simp only [AV.frz, Option.map_eq_some_iff] at h
  obtain ⟨a, h1, rfl⟩ := h
  simp only [AV.frz, frzL_idem G cs a h1, Option.map_some]
 | .tup vs, y, h => by
  simp only [AV.frz, Option.map_eq_some_iff] at h
  obtain ⟨a, h1, rfl⟩ := h
  simp only [AV.frz, frzL_idem G vs a h1, Option.map_some]
 | .bool b, y, h => by simp only [AV.frz, Option.some.injEq] at h; subst h; simp [AV.frz]
 | .int k n, y, h => by simp only [AV.frz, Option.some.injEq] at h; subst h; simp [AV.frz]
 | .str s, y, h => by simp only [AV.frz, Option.some.injEq] at h; subst h; simp [AV.frz]
 | .sl e es, y, h => by simp only [AV.frz, Option.some.injEq] at h; subst h; simp [AV.frz]
 | .pnil, y, h => by simp only [AV.frz, Option.some.injEq] at h; subst h; simp [AV.frz]
 | .fnil, y, h => by simp only [AV.frz, Option.some.injEq] at h; subst h; simp [AV.frz]
 | .inil, y, h => by simp only [AV.frz, Option.some.injEq] at h; subst h; simp [AV.frz]
 | .fn f a b, y, h => by
  simp only [AV.frz] at h
  split at h
  ·rename_i x z hx hz
   obtain rfl := Option.some.inj h
   simp only [AV.frz, frzL_idem G a x hx, frzL_idem G b z hz]
  ·cases h
 | .inn .., y, h => by simp [AV.frz] at h
 | .ptr .., y, h => by simp [AV.frz] at h
 | .eptr .., y, h => by simp [AV.frz] at h
 | .rptr .., y, h => by simp only [AV.frz, Option.some.injEq] at h; subst h; simp [AV.frz]
 | .dead, y, h => by simp [AV.frz] at h
theorem frzL_idem (G : Get) : ∀ (l ys : List AV), AV.frzL G l = some ys → AV.frzL (fun _ _ => none) ys = some ys
 | [], ys, h => by simp only [AV.frzL, Option.some.injEq] at h; subst h; rfl
 | x :: l, ys, h => by
  simp only [AV.frzL] at h
  split at h
  ·rename_i a b ha hb
   obtain rfl := Option.some.inj h
   simp only [AV.frzL, frz_idem G x a ha, frzL_idem G l b hb]
  ·cases h
end
def AV.leaf : AV → Bool
 | .bool _ | .int _ _ | .str _ | .nil | .pnil | .fnil | .inil => true
 | _ => false
def AV.scal : AV → Bool
 | .agg cs => cs.all AV.leaf
 | .tup vs => vs.all AV.leaf
 | x => x.leaf
theorem VR.leaf {fm fm' : FM} {ts ts' : List Tie} {x : AV} {v : Value} (h : VR fm ts x v) (hx : x.leaf = true) : VR fm' ts' x v := by
 cases h <;> first | (simp [AV.leaf] at hx; done) | constructor
theorem VR.scal {fm fm' : FM} {ts ts' : List Tie} {x : AV} {v : Value} (h : VR fm ts x v) (hx : x.scal = true) : VR fm' ts' x v := by
 cases h with
 | agg cs vs h1 h2 h3 => exact .agg cs vs h1 h2 (fun i x v a b => (h3 i x v a b).leaf (List.all_eq_true.1 hx x (List.mem_of_getElem? a)))
 | tup xs vs h1 h3 => exact .tup xs vs h1 (fun i x v a b => (h3 i x v a b).leaf (List.all_eq_true.1 hx x (List.mem_of_getElem? a)))
 | _ => first | (simp [AV.scal, AV.leaf] at hx; done) | constructor
def FmIn (fm : FM) (w : World) : Prop := ∀ b o v, fm b o = some v → w.cell? ⟨b, o, none⟩ = some v
def PCall (P : Program) (f : FuncId) (args : List AV) (R : AV → Prop) : Prop :=
 Enters P f ∧ ∀ fm w vs, FmIn fm w → VRs fm [] args vs →
  Calls P f vs.toArray w fun e w' => ∃ v y fm', e = .returned v ∧ R y ∧ FmIn fm' w' ∧ VR fm' [] y v ∧ FmUp w.heap.size fm fm' ∧ Below w.heap.size w w'
def PEnds (T : Tys) (rs : List ResultVar) (R : AV → Prop) (e : Exit) (st : St) : Prop :=
 match e with
 | .normal | .ret => st.low = [] ∧ ∃ xs y, resAll T st rs = some xs ∧ (tupOf xs).frz st.get = some y ∧ R y
 | _ => False
section
variable {P : Program} {T : Tys} {N0 : Nat} {W0 : World} {n : Nat} {fm : FM} {ts : List Tie} {H : Heap} {w : World}
theorem PCall.mono {f : FuncId} {args : List AV} {R R' : AV → Prop} (h : PCall P f args R) (hr : ∀ y, R y → R' y) : PCall P f args R' := by
 refine ⟨h.1, fun fm w vs h1 h2 => Calls.mono (h.2 fm w vs h1 h2) ?_⟩
 rintro e w' ⟨v, y, fm', h3, h4, h5⟩
 exact ⟨v, y, fm', h3, hr y h4, h5⟩
theorem HR.nothing {w : World} (h : FmIn fm w) : HR w.heap.size w fm [] [] w :=
 ⟨rfl, fun l k b hg => by simp [Heap.get] at hg, fun l k l' k' b b' c hg => by simp [Heap.get] at hg, h, fun l k b c o hg => by simp [Heap.get] at hg, Below.refl _ _, Nat.le_refl _, fun _ _ h _ => h⟩
theorem PCall.of_body (hT : TysOK P T) {f : FuncId} {fn : Func} {c : Code} {sc : SC} {args : List AV} {R : AV → Prop} (hf : P.funcs[f]? = some fn) (hb : fn.body = some c) (hnm : (fn.name == "runtime.NumGoroutine") = false)
  (he : sc.bare = erase fn.ntmps c) (hfit : (erase fn.ntmps c).fits fn.ntmps = true) (hargs : args.length ≤ fn.ntmps)
  (h : AK P fn.ntmps (PEnds T fn.results.toList R) [.sc sc] (St.enter args [] fn.ntmps)) : PCall P f args R := by
 have hA : ACall P f args [] (fun y fr H' => fr = [] ∧ H' = [] ∧ y.frz (fun _ _ => none) = some y ∧ R y) := by
  refine ACall.of_body hT hf hb hnm he hfit hargs (h.mono ?_) (by rintro y fr H' ⟨_, rfl, _⟩; rfl)
  intro e st hE
  have fin : (st.low = [] ∧ ∃ xs y, resAll T st fn.results.toList = some xs ∧ (tupOf xs).frz st.get = some y ∧ R y) →
    ∃ xs, resAll T st fn.results.toList = some xs ∧ Gives (fun y fr H' => fr = [] ∧ H' = [] ∧ y.frz (fun _ _ => none) = some y ∧ R y) (tupOf xs) st := by
   rintro ⟨hl, xs, y, h1, h2, h3⟩
   refine ⟨xs, h1, .frz y h2 ?_ ⟨rfl, hl, frz_idem _ _ _ h2, h3⟩⟩
   rw [List.all_eq_true]
   intro p hp
   obtain ⟨et, esz, es, hg⟩ := frz_refs_arr _ _ _ h2 p hp
   have hlt := Heap.get_lt _ _ _ _ (show Heap.get (st.fr :: st.low) p.1 p.2 = _ from hg)
   rw [hl] at hlt
   simp at hlt
   simp [hlt]
  cases e with
  | normal => exact fin hE
  | ret => exact fin hE
  | _ => exact hE.elim
 refine ⟨hA.1, fun fm w vs h1 h2 => Calls.mono (hA.2 w.heap.size w fm [] w vs (HR.nothing h1) (h2.mono (FmLe.refl _) (TsLe.nil _))) ?_⟩
 rintro e w' ⟨v, av, fr', H', fm', t', ts', rfl, ⟨rfl, rfl, hz, hR⟩, _, hhr, hvr, hup, _, _, _⟩
 refine ⟨v, av, fm', rfl, hR, hhr.fms, ?_, hup, hhr.bel⟩
 have := hhr.bareL (cs := [av]) (ys := [av]) (vs := [v]) ⟨rfl, fun i x u a b => by
  cases i with
  | zero => simp at a b; subst a b; exact hvr
  | succ i => simp at a⟩ (by simp only [AV.frzL, hz])
 exact this.2 0 av v rfl rfl
theorem HR.up {fm' : FM} {w' : World} (h : HR N0 W0 fm ts H w) (hb : Below w.heap.size w w') (hup : FmUp w.heap.size fm fm') (hin : FmIn fm' w') : HR N0 W0 fm' ts H w' := by
 have h1 := h.world (w' := w') (fun i hi => hb.block i hi) (hb.mono h.size)
 refine ⟨h1.len, fun l k b hg => (h1.blk l k b hg).mono hup.le (TsLe.refl _) (fun _ _ => rfl), h1.inj, hin, ?_, h1.bel, h1.size, h1.oth⟩
 intro l k b c o hg ht
 rw [hup.fix c o ((h.blk l k b hg).lt ht).1]
 exact h.fmd l k b c o hg ht
theorem FmUp.low {fm fm' : FM} {a b : Nat} (h : FmUp a fm fm') (hb : b ≤ a) : FmUp b fm fm' := ⟨h.le, fun x o hx => h.fix x o (by omega)⟩
theorem PCall.frozen {f : FuncId} {args fargs : List AV} {R : AV → Prop} (hp : PCall P f fargs R) (hz : AV.frzL (Heap.get ([] :: H)) args = some fargs) (hr : AV.refsL args = []) :
  ACall P f args H (fun y fr H' => R y ∧ fr = [] ∧ H' = H) := by
 refine ⟨hp.1, fun N0 W0 fm ts w vs hH hv => ?_⟩
 have h1 := hH.push.frzL [] hv hz (by rw [hr]; simp)
 rw [fmPlus_nil] at h1
 refine Calls.mono (hp.2 fm w vs hH.fms h1) ?_
 rintro e w' ⟨v, y, fm', rfl, hR, hin, hvr, hup, hb⟩
 exact ⟨v, y, [], H, fm', noTie, ts, rfl, ⟨hR, rfl, rfl⟩, rfl, (hH.up hb hup hin).push, hvr.mono (FmLe.refl _) (TsLe.nil _), hup.low hH.size, TsLe.refl _, fun _ _ h => h, fun _ _ => rfl⟩
theorem PCall.borrow {f : FuncId} {args fargs : List AV} {R : AV → Prop} (hp : PCall P f fargs R) (hz : AV.frzL (Heap.get ([] :: H)) args = some fargs) (hs : ∀ y, R y → y.scal = true) :
  ACall P f args H (fun y fr H' => R y ∧ fr = [] ∧ H' = H) := by
 refine ⟨hp.1, fun N0 W0 fm ts w vs hH hv => ?_⟩
 have h1 := hH.push.frzL (AV.refsL args) hv hz (fun _ h => h)
 have h2 := (hH.push.letGo (AV.refsL args)).fms
 refine Calls.mono (hp.2 _ w vs h2 h1) ?_
 rintro e w' ⟨v, y, fm', rfl, hR, hin, hvr, hup, hb⟩
 have hH' : HR N0 W0 fm ts H w' := hH.world (fun i hi => hb.block i hi) (hb.mono hH.size)
 exact ⟨v, y, [], H, fm, noTie, ts, rfl, ⟨hR, rfl, rfl⟩, rfl, hH'.push, hvr.scal (hs y hR), FmUp.refl _ _, TsLe.refl _, fun _ _ h => h, fun _ _ => rfl⟩
end
mutual
def AV.br (G : Get) (F : Nat → Nat → Option (List AV)) : AV → Option AV
 | .loc l k e i n g => (AV.loc l k e i n g).frz G
 | .ptr l k o => match F l k with
  | some ys => some (.rptr ys.length [ys] 0 o)
  | none => none
 | .inn l k e o n => match F l k with
  | some ys => if e = 1 ∧ o + n ≤ ys.length ∧ n ≤ 65536 then some (.sl 1 (((ys.drop o).take n).map fun c => [c])) else none
  | none => none
 | .fn f a b => match AV.brL G F a, AV.brL G F b with
  | some a, some b => some (.fn f a b)
  | _, _ => none
 | .ifc t v => (v.br G F).map (.ifc t)
 | .agg cs => (AV.brL G F cs).map .agg
 | .tup vs => (AV.brL G F vs).map .tup
 | .nil => some .nil
 | .bool b => some (.bool b)
 | .int k n => some (.int k n)
 | .str s => some (.str s)
 | .sl e es => some (.sl e es)
 | .pnil => some .pnil
 | .fnil => some .fnil
 | .inil => some .inil
 | .rptr e es i o => some (.rptr e es i o)
 | _ => none
def AV.brL (G : Get) (F : Nat → Nat → Option (List AV)) : List AV → Option (List AV)
 | [] => some []
 | x :: l => match x.br G F, AV.brL G F l with
  | some x, some l => some (x :: l)
  | _, _ => none
end
def boxF (G : Get) : Nat → Nat → Nat → Option (List AV)
 | 0, _, _ => none
 | n + 1, l, k => match G l k with
  | some (.box cs) => AV.brL G (boxF G n) (AV.shL l cs)
  | _ => none
theorem brL_get (G : Get) (F : Nat → Nat → Option (List AV)) : ∀ (cs ys : List AV), AV.brL G F cs = some ys → ys.length = cs.length ∧ ∀ (i : Nat) (x : AV), cs[i]? = some x → ∃ y, ys[i]? = some y ∧ x.br G F = some y
 | [], ys, h => by simp only [AV.brL, Option.some.injEq] at h; subst h; simp
 | x :: l, ys, h => by
  simp only [AV.brL] at h
  split at h
  ·rename_i a b ha hb
   obtain rfl := Option.some.inj h
   have ih := brL_get G F l b hb
   refine ⟨by simp [ih.1], ?_⟩
   intro i z hz
   cases i with
   | zero => simp only [List.getElem?_cons_zero, Option.some.injEq] at hz; subst hz; exact ⟨a, by simp, ha⟩
   | succ i => simp only [List.getElem?_cons_succ] at hz ⊢; exact ih.2 i z hz
  ·cases h
theorem br_flat {G : Get} {F : Nat → Nat → Option (List AV)} {x y : AV} (h : x.br G F = some y) : y.flat = x.flat := by
 cases x with
 | loc l k e i n g => simp only [AV.br] at h; exact frz_flat h
 | ptr l k o =>
  simp only [AV.br] at h
  split at h
  ·obtain rfl := Option.some.inj h; rfl
  ·cases h
 | inn l k e o n =>
  simp only [AV.br] at h
  split at h
  ·split at h
   ·obtain rfl := Option.some.inj h; rfl
   ·cases h
  ·cases h
 | fn f a b =>
  simp only [AV.br] at h
  split at h
  ·obtain rfl := Option.some.inj h; rfl
  ·cases h
 | _ =>
  first
  | (simp [AV.br] at h; done)
  | (simp only [AV.br, Option.some.injEq] at h; subst h; simp [AV.flat]; done)
  | (simp only [AV.br, Option.map_eq_some_iff] at h; obtain ⟨a, _, rfl⟩ := h; simp [AV.flat]; done)
section
variable {N0 : Nat} {W0 : World} {fm : FM} {ts : List Tie} {H : Heap} {w : World}
def fmAll (w : World) : FM := fun b o => w.cell? ⟨b, o, none⟩
theorem HR.brG (h : HR N0 W0 fm ts H w) {fm' : FM} {G : Get} (hle : FmLe fm fm') (hG : ∀ l k b, G l k = some b → H.get l k = some b) (hcell : ∀ l k b c, G l k = some b → tbc (tb ts l k) = some c → ∀ o u, w.cell? ⟨c, o, none⟩ = some u → fm' c o = some u) (F : Nat → Nat → Option (List AV)) (hF : ∀ l k ys c, F l k = some ys → tb ts l k = some (.box c) → (∀ o u, w.cell? ⟨c, o, none⟩ = some u → fm' c o = some u) ∧ ∃ cells et, w.heap[c]? = some (.cells cells et (0, 0)) ∧ cells.size = ys.length ∧
   ∀ (o : Nat) y v, ys[o]? = some y → cells[o]? = some v → y.flat = true ∧ VR fm' [] y v) {ts0 : List Tie} {x : AV} {v : Value} (hv : VR fm ts0 x v) :
  ts0 = ts → ∀ {y : AV}, x.br G F = some y → VR fm' [] y v := by
 have loc : ∀ {l k esz i n g v y}, VR fm ts (.loc l k esz i n g) v → (AV.loc l k esz i n g).frz G = some y → VR fm' [] y v := by
  intro l k esz i n g v y hv hy
  have hy' : (AV.loc l k esz i n g).frz H.get = some y ∧ ∃ b, G l k = some b := by
   simp only [AV.frz] at hy ⊢
   split at hy
   ·rename_i et esz' es hg
    rw [hG l k _ hg]; exact ⟨hy, _, hg⟩
   ·cases hy
  obtain ⟨hy1, b0, hb0⟩ := hy'
  refine (h.frz [(l, k)] hv hy1 (by simp [AV.refs])).mono ?_ (TsLe.refl _)
  intro b o u hu
  unfold fmPlus at hu
  split at hu
  ·rename_i hb
   obtain ⟨l', k', b', hm, hg, _, ht⟩ := hb
   simp only [List.mem_singleton, Prod.mk.injEq] at hm
   obtain ⟨rfl, rfl⟩ := hm
   exact hcell l' k' b0 b hb0 ht o u hu
  ·exact hle b o u hu
 induction hv with
 | bool b => intro _ y e; simp only [AV.br, Option.some.injEq] at e; subst e; exact .bool b
 | int k n => intro _ y e; simp only [AV.br, Option.some.injEq] at e; subst e; exact .int k n
 | str s => intro _ y e; simp only [AV.br, Option.some.injEq] at e; subst e; exact .str s
 | nil => intro _ y e; simp only [AV.br, Option.some.injEq] at e; subst e; exact .nil
 | slNil e0 a cap => intro _ y e; simp only [AV.br, Option.some.injEq] at e; subst e; exact .slNil e0 a cap
 | sl es cb off esz cap u hcap h1 h2 h3 h4 _ => intro _ y e; simp only [AV.br, Option.some.injEq] at e; subst e; exact (VR.sl es cb off esz cap u hcap h1 h2 h3 h4 (ts := [])).mono hle (TsLe.refl _)
 | locGone l k esz i n g a cp ht hn ha => rintro rfl y e; exact loc (.locGone l k esz i n g a cp ht hn ha) (by simpa only [AV.br] using e)
 | locOld l k esz i n g a cp m' c ht hlt hn ha => rintro rfl y e; exact loc (.locOld l k esz i n g a cp m' c ht hlt hn ha) (by simpa only [AV.br] using e)
 | locNil l k esz a ht => rintro rfl y e; exact loc (.locNil l k esz a ht) (by simpa only [AV.br] using e)
 | loc l k esz i n g c cap cp a ht hn hnc hc ha => rintro rfl y e; exact loc (.loc l k esz i n g c cap cp a ht hn hnc hc ha) (by simpa only [AV.br] using e)
 | inn l k esz o n c cp a ht hn ha =>
  rintro rfl y e
  simp only [AV.br] at e
  split at e
  ·rename_i ys hys
   split at e
   ·rename_i hc
    obtain ⟨rfl, hle1, hn6⟩ := hc
    obtain rfl := Option.some.inj e
    obtain ⟨hcc, cells, et, c1, c2, c3⟩ := hF l k ys c hys ht
    have hlen : (((ys.drop o).take n).map fun c => [c]).length = n := by simp; omega
    have get : ∀ (i : Nat) (d : List AV), (((ys.drop o).take n).map fun c => [c])[i]? = some d → ∃ x, d = [x] ∧ ys[o + i]? = some x := by
     intro i d hd
     rw [List.getElem?_map, Option.map_eq_some_iff] at hd
     obtain ⟨x, hx, rfl⟩ := hd
     rw [List.getElem?_take] at hx
     split at hx
     ·rw [List.getElem?_drop] at hx; exact ⟨x, rfl, hx⟩
     ·cases hx
    by_cases hcp : cp = 0
    ·have : n = 0 := by omega
     subst this
     simp only [List.take_zero, List.map_nil]
     exact .slNil 1 (some a) cp
    ·have ha' := ha hcp
     subst ha'
     have one : ∀ (i : Nat) (d : List AV) (o' : Nat) (x : AV), (((ys.drop o).take n).map fun c => [c])[i]? = some d → d[o']? = some x → o' = 0 ∧ ∃ u, cells[o + i]? = some u ∧ x.flat = true ∧ VR fm' [] x u := by
      intro i d o' x hd hx
      obtain ⟨y, rfl, hy⟩ := get i d hd
      cases o' with
      | succ o' => simp at hx
      | zero =>
       simp only [List.getElem?_cons_zero, Option.some.injEq] at hx
       subst hx
       have hlt : o + i < cells.size := by rw [c2]; exact (List.getElem?_eq_some_iff.1 hy).1
       have hcu := Array.getElem?_eq_getElem hlt
       exact ⟨rfl, _, hcu, c3 (o + i) y _ hy hcu⟩
     have := VR.sl (fm := fm') (ts := []) (((ys.drop o).take n).map fun c => [c]) c o 1 cp (fun i _ => (cells[o + i]?).getD default) (by rw [hlen]; exact ⟨hn, by simp [maxLen]; omega⟩) (by
       intro d hd
       simp only [List.mem_map] at hd
       obtain ⟨z, _, rfl⟩ := hd; rfl)
      (by
       intro i d o' x hd hx
       obtain ⟨rfl, u, hu, _, _⟩ := one i d o' x hd hx
       refine hcc _ _ ?_
       simp only [World.cell?, c1, Nat.mul_one, Nat.add_zero, hu]
       simp)
      (fun i d o' x hd hx => (one i d o' x hd hx).2.elim fun u hu => hu.2.1)
      (by
       intro i d o' x hd hx
       obtain ⟨rfl, u, hu, _, hv⟩ := one i d o' x hd hx
       rw [hu]
       exact hv)
     rw [hlen] at this
     exact this
   ·cases e
  ·cases e
 | pnil => intro _ y e; simp only [AV.br, Option.some.injEq] at e; subst e; exact .pnil
 | ptr l k o c ht =>
  rintro rfl y e
  simp only [AV.br] at e
  split at e
  ·rename_i ys hys
   obtain rfl := Option.some.inj e
   obtain ⟨hcc, cells, et, c1, c2, c3⟩ := hF l k ys c hys ht
   have one : ∀ (i : Nat) (cc : List AV) (o : Nat) (x : AV), [ys][i]? = some cc → cc[o]? = some x → i = 0 ∧ ∃ u, cells[o]? = some u ∧ x.flat = true ∧ VR fm' [] x u := by
    intro i cc o x hi ho
    cases i with
    | succ i => simp at hi
    | zero =>
     simp only [List.getElem?_cons_zero, Option.some.injEq] at hi
     subst hi
     have hlt : o < cells.size := by rw [c2]; exact (List.getElem?_eq_some_iff.1 ho).1
     have hcu := Array.getElem?_eq_getElem hlt
     exact ⟨rfl, _, hcu, c3 o x _ ho hcu⟩
   have := VR.rptr (fm := fm') (ts := []) [ys] 0 o c 0 ys.length (fun _ o => (cells[o]?).getD default) (by intro cc hcc; simp at hcc; rw [hcc])
    (by
     intro i cc o x hi ho
     obtain ⟨rfl, u, hu, _, _⟩ := one i cc o x hi ho
     refine hcc _ _ ?_
     simp only [World.cell?, c1, Nat.zero_mul, Nat.zero_add, hu]
     simp)
    (fun i cc o x hi ho => (one i cc o x hi ho).2.elim fun u hu => hu.2.1)
    (by
     intro i cc o x hi ho
     obtain ⟨rfl, u, hu, _, hv⟩ := one i cc o x hi ho
     rw [hu]
     exact hv)
   simpa using this
  ·cases e
 | eptrGone l k esz i o g a ht => intro _ y e; simp [AV.br] at e
 | eptrOld l k esz i o g a m' c ht hlt => intro _ y e; simp [AV.br] at e
 | eptr l k esz i o g c cap ht => intro _ y e; simp [AV.br] at e
 | rptr es i o cb off esz u h1 h2 h3 h4 _ => intro _ y e; simp only [AV.br, Option.some.injEq] at e; subst e; exact (VR.rptr es i o cb off esz u h1 h2 h3 h4 (ts := [])).mono hle (TsLe.refl _)
 | fnil => intro _ y e; simp only [AV.br, Option.some.injEq] at e; subst e; exact .fnil
 | fn f first cap vf vc h1 h2 _ _ ih1 ih2 =>
  rintro rfl y e
  simp only [AV.br] at e
  split at e
  ·rename_i a b ha hb
   simp only [Option.some.injEq] at e; subst e
   have g1 := brL_get G F _ _ ha
   have g2 := brL_get G F _ _ hb
   refine .fn f a b vf vc (by rw [g1.1]; exact h1) (by rw [g2.1]; exact h2) ?_ ?_
   ·intro i x v hx hv
    have hlt : i < first.length := by rw [← g1.1]; exact (List.getElem?_eq_some_iff.1 hx).1
    obtain ⟨y, hy, hu⟩ := g1.2 i _ (List.getElem?_eq_getElem hlt)
    rw [hx] at hy; obtain rfl := Option.some.inj hy
    exact ih1 i _ v (List.getElem?_eq_getElem hlt) hv rfl hu
   ·intro i x v hx hv
    have hlt : i < cap.length := by rw [← g2.1]; exact (List.getElem?_eq_some_iff.1 hx).1
    obtain ⟨y, hy, hu⟩ := g2.2 i _ (List.getElem?_eq_getElem hlt)
    rw [hx] at hy; obtain rfl := Option.some.inj hy
    exact ih2 i _ v (List.getElem?_eq_getElem hlt) hv rfl hu
  ·cases e
 | inil => intro _ y e; simp only [AV.br, Option.some.injEq] at e; subst e; exact .inil
 | ifc t x v _ ih =>
  rintro rfl y e; simp only [AV.br, Option.map_eq_some_iff] at e; obtain ⟨z, hz, rfl⟩ := e
  exact .ifc t z v (ih rfl hz)
 | agg cs vs h1 h2 _ ih =>
  rintro rfl y e; simp only [AV.br, Option.map_eq_some_iff] at e; obtain ⟨z, hz, rfl⟩ := e
  have g := brL_get G F _ _ hz
  refine .agg z vs (by rw [g.1]; exact h1) ?_ ?_
  ·intro x hx
   obtain ⟨i, hi⟩ := List.mem_iff_getElem?.1 hx
   have hlt : i < cs.length := by rw [← g.1]; exact (List.getElem?_eq_some_iff.1 hi).1
   obtain ⟨y, hy, hu⟩ := g.2 i _ (List.getElem?_eq_getElem hlt)
   rw [hi] at hy; obtain rfl := Option.some.inj hy
   rw [br_flat hu]
   exact h2 _ (List.getElem_mem hlt)
  ·intro i x v hx hv
   have hlt : i < cs.length := by rw [← g.1]; exact (List.getElem?_eq_some_iff.1 hx).1
   obtain ⟨y, hy, hu⟩ := g.2 i _ (List.getElem?_eq_getElem hlt)
   rw [hx] at hy; obtain rfl := Option.some.inj hy
   exact ih i _ v (List.getElem?_eq_getElem hlt) hv rfl hu
 | tup xs vs h1 _ ih =>
  rintro rfl y e; simp only [AV.br, Option.map_eq_some_iff] at e; obtain ⟨z, hz, rfl⟩ := e
  have g := brL_get G F _ _ hz
  refine .tup z vs (by rw [g.1]; exact h1) ?_
  intro i x v hx hv
  have hlt : i < xs.length := by rw [← g.1]; exact (List.getElem?_eq_some_iff.1 hx).1
  obtain ⟨y, hy, hu⟩ := g.2 i _ (List.getElem?_eq_getElem hlt)
  rw [hx] at hy; obtain rfl := Option.some.inj hy
  exact ih i _ v (List.getElem?_eq_getElem hlt) hv rfl hu
 | dead v => intro _ y e; simp [AV.br] at e
theorem HR.br (h : HR N0 W0 fm ts H w) (F : Nat → Nat → Option (List AV)) (hF : ∀ l k ys c, F l k = some ys → tb ts l k = some (.box c) → ∃ cells et, w.heap[c]? = some (.cells cells et (0, 0)) ∧ cells.size = ys.length ∧
   ∀ (o : Nat) y v, ys[o]? = some y → cells[o]? = some v → y.flat = true ∧ VR (fmAll w) [] y v) {ts0 : List Tie} {x : AV} {v : Value} (hv : VR fm ts0 x v) :
  ts0 = ts → ∀ {y : AV}, x.br H.get F = some y → VR (fmAll w) [] y v := by
 intro e y hy
 exact h.brG (fun b o v hv => h.fms b o v hv) (fun _ _ _ h => h) (fun _ _ _ _ _ _ _ _ h => h) F (fun l k ys c a b => ⟨fun _ _ h => h, hF l k ys c a b⟩) hv e hy
theorem HR.brs (h : HR N0 W0 fm ts H w) (F : Nat → Nat → Option (List AV)) (hF : ∀ l k ys c, F l k = some ys → tb ts l k = some (.box c) → ∃ cells et, w.heap[c]? = some (.cells cells et (0, 0)) ∧ cells.size = ys.length ∧
   ∀ (o : Nat) y v, ys[o]? = some y → cells[o]? = some v → y.flat = true ∧ VR (fmAll w) [] y v) {cs ys : List AV} {vs : List Value} (hv : VRs fm ts cs vs) (e : AV.brL H.get F cs = some ys) : VRs (fmAll w) [] ys vs := by
 have g := brL_get H.get F _ _ e
 refine ⟨g.1.trans hv.1, ?_⟩
 intro i x v hx hxv
 have hlt : i < cs.length := by rw [← g.1]; exact (List.getElem?_eq_some_iff.1 hx).1
 obtain ⟨y, hy, hu⟩ := g.2 i _ (List.getElem?_eq_getElem hlt)
 rw [hx] at hy; obtain rfl := Option.some.inj hy
 exact h.br F hF (hv.2 i _ v (List.getElem?_eq_getElem hlt) hxv) rfl hu
theorem HR.boxF (h : HR N0 W0 fm ts H w) : ∀ (n l k : Nat) (ys : List AV) (c : Nat), boxF H.get n l k = some ys → tb ts l k = some (.box c) → ∃ cells et, w.heap[c]? = some (.cells cells et (0, 0)) ∧ cells.size = ys.length ∧
   ∀ (o : Nat) y v, ys[o]? = some y → cells[o]? = some v → y.flat = true ∧ VR (fmAll w) [] y v := by
 intro n
 induction n with
 | zero => intro l k ys c e; simp [Abs.boxF] at e
 | succ n ih =>
  intro l k ys c e ht
  simp only [Abs.boxF] at e
  split at e
  ·rename_i cs hg
   have hb := h.blk l k _ hg
   rw [ht] at hb
   cases hb with
   | box _ _ hN hB =>
    obtain ⟨cells, et, c1, c2, c3⟩ := hB
    have g := brL_get _ _ _ _ e
    have hlen : cells.size = ys.length := by rw [g.1, shL_length]; exact c2
    refine ⟨cells, et, c1, hlen, ?_⟩
    intro o y v hy hv
    have hlt : o < (AV.shL l cs).length := by rw [← g.1]; exact (List.getElem?_eq_some_iff.1 hy).1
    obtain ⟨y', hy', hu⟩ := g.2 o _ (List.getElem?_eq_getElem hlt)
    rw [hy] at hy'; obtain rfl := Option.some.inj hy'
    have hx : (AV.shL l cs)[o]? = some (AV.shL l cs)[o] := List.getElem?_eq_getElem hlt
    rw [shL_get, Option.map_eq_some_iff] at hx
    obtain ⟨x0, hx0, hx1⟩ := hx
    have h3 := c3 o x0 v hx0 hv
    refine ⟨by rw [br_flat hu, ← hx1, sh_flat]; exact h3.1, ?_⟩
    rw [← hx1] at hu
    exact h.br _ ih (h3.2.sh l rfl) rfl hu
  ·cases e
theorem PCall.lent {P : Program} {f : FuncId} {args fargs : List AV} {R : AV → Prop} (m : Nat) (hp : PCall P f fargs R) (hz : AV.brL (Heap.get ([] :: H)) (Abs.boxF (Heap.get ([] :: H)) m) args = some fargs) (hs : ∀ y, R y → y.scal = true) :
  ACall P f args H (fun y fr H' => R y ∧ fr = [] ∧ H' = H) := by
 refine ⟨hp.1, fun N0 W0 fm ts w vs hH hv => ?_⟩
 have h1 := hH.push.brs _ (hH.push.boxF m) hv hz
 refine Calls.mono (hp.2 _ w vs (fun b o v h => h) h1) ?_
 rintro e w' ⟨v, y, fm', rfl, hR, hin, hvr, hup, hb⟩
 have hH' : HR N0 W0 fm ts H w' := hH.world (fun i hi => hb.block i hi) (hb.mono hH.size)
 exact ⟨v, y, [], H, fm, noTie, ts, rfl, ⟨hR, rfl, rfl⟩, rfl, hH'.push, hvr.scal (hs y hR), FmUp.refl _ _, TsLe.refl _, fun _ _ h => h, fun _ _ => rfl⟩
def only (G : Get) (rs : List (Nat × Nat)) : Get := fun l k => if rs.contains (l, k) then G l k else none
theorem HR.boxG (h : HR N0 W0 fm ts H w) {fm' : FM} {G : Get} (hle : FmLe fm fm') (hG : ∀ l k b, G l k = some b → H.get l k = some b) (hcell : ∀ l k b c, G l k = some b → tbc (tb ts l k) = some c → ∀ o u, w.cell? ⟨c, o, none⟩ = some u → fm' c o = some u) :
  ∀ (n l k : Nat) (ys : List AV) (c : Nat), Abs.boxF G n l k = some ys → tb ts l k = some (.box c) → (∀ o u, w.cell? ⟨c, o, none⟩ = some u → fm' c o = some u) ∧ ∃ cells et, w.heap[c]? = some (.cells cells et (0, 0)) ∧ cells.size = ys.length ∧
   ∀ (o : Nat) y v, ys[o]? = some y → cells[o]? = some v → y.flat = true ∧ VR fm' [] y v := by
 intro n
 induction n with
 | zero => intro l k ys c e; simp [Abs.boxF] at e
 | succ n ih =>
  intro l k ys c e ht
  simp only [Abs.boxF] at e
  split at e
  ·rename_i cs hg
   have hb := h.blk l k _ (hG _ _ _ hg)
   refine ⟨hcell l k _ c hg (by rw [ht]; rfl), ?_⟩
   rw [ht] at hb
   cases hb with
   | box _ _ hN hB =>
    obtain ⟨cells, et, c1, c2, c3⟩ := hB
    have g := brL_get _ _ _ _ e
    have hlen : cells.size = ys.length := by rw [g.1, shL_length]; exact c2
    refine ⟨cells, et, c1, hlen, ?_⟩
    intro o y v hy hv
    have hlt : o < (AV.shL l cs).length := by rw [← g.1]; exact (List.getElem?_eq_some_iff.1 hy).1
    obtain ⟨y', hy', hu⟩ := g.2 o _ (List.getElem?_eq_getElem hlt)
    rw [hy] at hy'; obtain rfl := Option.some.inj hy'
    have hx : (AV.shL l cs)[o]? = some (AV.shL l cs)[o] := List.getElem?_eq_getElem hlt
    rw [shL_get, Option.map_eq_some_iff] at hx
    obtain ⟨x0, hx0, hx1⟩ := hx
    have h3 := c3 o x0 v hx0 hv
    refine ⟨by rw [br_flat hu, ← hx1, sh_flat]; exact h3.1, ?_⟩
    rw [← hx1] at hu
    exact h.brG hle hG hcell _ ih (h3.2.sh l rfl) rfl hu
  ·cases e
open Classical in
noncomputable def fmRs (fm : FM) (w : World) (ts : List Tie) (H : Heap) (rs : List (Nat × Nat)) : FM := fun b o => if (∃ l k x, (l, k) ∈ rs ∧ H.get l k = some x ∧ tbc (tb ts l k) = some b) then w.cell? ⟨b, o, none⟩ else fm b o
theorem HR.takeRs (h : HR N0 W0 fm ts H w) (rs : List (Nat × Nat)) : HR N0 W0 (fmRs fm w ts H rs) ts (H.puts (kills rs)) w ∧ FmUp N0 fm (fmRs fm w ts H rs) := by
 have hle : FmLe fm (fmRs fm w ts H rs) := by
  intro b o v hv
  unfold fmRs
  split
  ·exact h.fms b o v hv
  ·exact hv
 have src : ∀ l k b, Heap.get (H.puts (kills rs)) l k = some b → (l, k) ∉ rs ∧ H.get l k = some b := by
  intro l k b hg
  rw [get_kills] at hg
  split at hg
  ·cases hg
  ·rename_i hn; exact ⟨hn, hg⟩
 refine ⟨⟨by simpa using h.len, ?_, ?_, ?_, ?_, h.bel, h.size, h.oth⟩, hle, ?_⟩
 ·intro l k b hg
  exact (h.blk l k b (src l k b hg).2).mono hle (TsLe.refl _) (fun _ _ => rfl)
 ·intro l k l' k' b b' c hg hg'
  exact h.inj l k l' k' b b' c (src l k b hg).2 (src l' k' b' hg').2
 ·intro b o v hv
  unfold fmRs at hv
  split at hv
  ·exact hv
  ·exact h.fms b o v hv
 ·intro l k b c o hg ht
  obtain ⟨hn, hg0⟩ := src l k b hg
  unfold fmRs
  rw [if_neg]
  ·exact h.fmd l k b c o hg0 ht
  ·rintro ⟨l', k', x, hm, hg', ht'⟩
   obtain ⟨rfl, rfl⟩ := h.inj l k l' k' b x c hg0 hg' ht ht'
   exact hn hm
 ·intro b o hb
  unfold fmRs
  rw [if_neg]
  rintro ⟨l', k', x, hm, hg', ht'⟩
  have := ((h.blk l' k' x hg').lt ht').2
  omega
theorem PCall.take {P : Program} {f : FuncId} {args fargs : List AV} {R : AV → Prop} (m : Nat) (rs : List (Nat × Nat)) (hp : PCall P f fargs R) (hz : AV.brL (only (Heap.get ([] :: H)) rs) (Abs.boxF (only (Heap.get ([] :: H)) rs) m) args = some fargs) (hr : (rs.all fun p => 0 < p.1) = true) :
  ACall P f args H (fun y fr H' => R y ∧ fr = [] ∧ ([] : Fra) :: H' = Heap.puts ([] :: H) (kills rs)) := by
 refine ⟨hp.1, fun N0 W0 fm ts w vs hH hv => ?_⟩
 have hP := hH.push
 obtain ⟨hT, hU⟩ := hP.takeRs rs
 have hG : ∀ l k b, only (Heap.get ([] :: H)) rs l k = some b → Heap.get ([] :: H) l k = some b := by
  intro l k b e; unfold only at e; split at e
  ·exact e
  ·cases e
 have hcell : ∀ l k b c, only (Heap.get ([] :: H)) rs l k = some b → tbc (tb (noTie :: ts) l k) = some c → ∀ o u, w.cell? ⟨c, o, none⟩ = some u → fmRs fm w (noTie :: ts) ([] :: H) rs c o = some u := by
  intro l k b c e hc o u hu
  unfold only at e
  split at e
  ·rename_i hm
   unfold fmRs
   rw [if_pos ⟨l, k, b, by simpa using hm, e, hc⟩]
   exact hu
  ·cases e
 have h1 : VRs (fmRs fm w (noTie :: ts) ([] :: H) rs) [] fargs vs := by
  have g := brL_get _ _ _ _ hz
  refine ⟨g.1.trans hv.1, ?_⟩
  intro i x v hx hxv
  have hlt : i < args.length := by rw [← g.1]; exact (List.getElem?_eq_some_iff.1 hx).1
  obtain ⟨y, hy, hu⟩ := g.2 i _ (List.getElem?_eq_getElem hlt)
  rw [hx] at hy; obtain rfl := Option.some.inj hy
  exact hP.brG hU.le hG hcell _ (hP.boxG hU.le hG hcell m) (hv.2 i _ v (List.getElem?_eq_getElem hlt) hxv) rfl hu
 refine Calls.mono (hp.2 _ w vs hT.fms h1) ?_
 rintro e w' ⟨v, y, fm', rfl, hR, hin, hvr, hup, hb⟩
 obtain ⟨f', H', hpu⟩ : ∃ f' H', Heap.puts ([] :: H) (kills rs) = f' :: H' := by
  have := Heap.length_puts (kills rs) ([] :: H)
  cases hc : Heap.puts ([] :: H) (kills rs) with
  | nil => rw [hc] at this; simp at this
  | cons f' H' => exact ⟨f', H', rfl⟩
 have hf : f' = [] := by
  have : ∀ (rs : List (Nat × Nat)) (f : Fra) (H : Heap), (rs.all fun p => 0 < p.1) = true → ∃ H', Heap.puts (f :: H) (kills rs) = f :: H' := by
   intro rs
   induction rs with
   | nil => intro f H _; exact ⟨H, rfl⟩
   | cons p rs ih =>
    intro f H hr
    obtain ⟨l, k⟩ := p
    simp only [List.all_cons, Bool.and_eq_true, decide_eq_true_eq] at hr
    cases l with
    | zero => omega
    | succ l => exact ih f _ hr.2
  obtain ⟨H2, e2⟩ := this rs [] H hr
  rw [hpu] at e2
  exact (List.cons.inj e2).1
 subst hf
 rw [hpu] at hT
 refine ⟨v, y, [], H', fm', noTie, ts, rfl, ⟨hR, rfl, hpu.symm⟩, ?_, ?_, hvr.mono (FmLe.refl _) (TsLe.nil _), ?_, TsLe.refl _, fun _ _ h => h, fun _ _ => rfl⟩
 ·have := congrArg List.length hpu; simpa using this.symm
 ·exact hT.pop.up hb hup hin |>.push
 ·exact hU.trans (hup.low hP.size)
end
theorem br_mono {G G' : Get} {F F' : Nat → Nat → Option (List AV)} (hG : ∀ l k b, G l k = some b → G' l k = some b) (hF : ∀ l k b, F l k = some b → F' l k = some b) (hz : ∀ l k e i n g y, (AV.loc l k e i n g).frz G = some y → (AV.loc l k e i n g).frz G' = some y) :
  (∀ x y : AV, x.br G F = some y → x.br G' F' = some y) ∧ (∀ l ys : List AV, AV.brL G F l = some ys → AV.brL G' F' l = some ys) := by
 have key : ∀ (n : Nat), (∀ x y : AV, SizeOf.sizeOf x < n → x.br G F = some y → x.br G' F' = some y) ∧ (∀ l ys : List AV, SizeOf.sizeOf l < n → AV.brL G F l = some ys → AV.brL G' F' l = some ys) := by
  intro n
  induction n with
  | zero => exact ⟨fun x y h => absurd h (by omega), fun x y h => absurd h (by omega)⟩
  | succ n ih =>
   refine ⟨?_, ?_⟩
   ·intro x y hn h
    cases x with
    | loc l k e i g j => simp only [AV.br] at h ⊢; exact hz _ _ _ _ _ _ _ h
    | ptr l k o =>
     simp only [AV.br] at h ⊢
     split at h
     ·rename_i ys hys; rw [hF _ _ _ hys]; exact h
     ·cases h
    | inn l k e o n =>
     simp only [AV.br] at h ⊢
     split at h
     ·rename_i ys hys; rw [hF _ _ _ hys]; exact h
     ·cases h
    | fn f a b =>
     simp only [AV.br] at h ⊢
     split at h
     ·rename_i x z hx hz'
      rw [ih.2 a x (by simp at hn; omega) hx, ih.2 b z (by simp at hn; omega) hz']
      exact h
     ·cases h
    | ifc t v =>
     simp only [AV.br, Option.map_eq_some_iff] at h ⊢
     obtain ⟨a, h1, h2⟩ := h
     exact ⟨a, ih.1 v a (by simp at hn; omega) h1, h2⟩
    | agg cs =>
     simp only [AV.br, Option.map_eq_some_iff] at h ⊢
     obtain ⟨a, h1, h2⟩ := h
     exact ⟨a, ih.2 cs a (by simp at hn; omega) h1, h2⟩
    | tup cs =>
     simp only [AV.br, Option.map_eq_some_iff] at h ⊢
     obtain ⟨a, h1, h2⟩ := h
     exact ⟨a, ih.2 cs a (by simp at hn; omega) h1, h2⟩
    | _ => first | (simpa [AV.br] using h) | (simp [AV.br] at h)
   ·intro l ys hn h
    cases l with
    | nil => simpa [AV.brL] using h
    | cons x l =>
     simp only [AV.brL] at h ⊢
     split at h
     ·rename_i a b ha hb
      rw [ih.1 x a (by simp at hn; omega) ha, ih.2 l b (by simp at hn; omega) hb]
      exact h
     ·cases h
 exact ⟨fun x y h => (key (SizeOf.sizeOf x + 1)).1 x y (by omega) h, fun l ys h => (key (SizeOf.sizeOf l + 1)).2 l ys (by omega) h⟩
theorem boxF_mono {G G' : Get} (hG : ∀ l k b, G l k = some b → G' l k = some b) (hz : ∀ l k e i n g y, (AV.loc l k e i n g).frz G = some y → (AV.loc l k e i n g).frz G' = some y) : ∀ n l k ys, boxF G n l k = some ys → boxF G' n l k = some ys := by
 intro n
 induction n with
 | zero => intro l k ys h; simp [boxF] at h
 | succ n ih =>
  intro l k ys h
  simp only [boxF] at h ⊢
  split at h
  ·rename_i cs hg
   rw [hG l k _ hg]
   exact (br_mono hG ih hz).2 _ _ h
  ·cases h
theorem kills_own : ∀ (rs : List Nat) (f : Fra) (H : Heap), Heap.puts ([] :: f :: H) (kills (rs.map fun k => (1, k))) = [] :: dels f rs :: H
 | [], f, H => rfl
 | k :: rs, f, H => kills_own rs (del f k) H
section
variable {P : Program} {T : Tys} {N0 : Nat} {W0 : World} {n : Nat} {fm : FM} {ts : List Tie} {H : Heap} {w : World} {Φ : Exit → St → Prop}
def GCall (P : Program) (f : FuncId) (args : List AV) (fr0 : Fra) (R : AV → Fra → Prop) : Prop :=
 Enters P f ∧ ∀ H N0 W0 fm t ts w vs, HR N0 W0 fm (t :: ts) (fr0 :: H) w → (∀ k, 16 ≤ k → t k = none) → VRs fm (t :: ts) args vs →
  Calls P f vs.toArray w fun e w' => ∃ v y fr' fm' t' ts', e = .returned v ∧ R y fr' ∧ HR N0 W0 fm' (t' :: ts') (fr' :: H) w' ∧ VR fm' (t' :: ts') y v ∧ FmUp N0 fm fm' ∧ TsLe ts ts' ∧
   (∀ l k, tb ts l k = none → tb ts' l k = none) ∧ ∀ k, 16 ≤ k → t' k = none
def GEnds (T : Tys) (rs : List ResultVar) (H : Heap) (R : AV → Fra → Prop) (e : Exit) (st : St) : Prop :=
 Ends T rs (fun y fr H' => H' = H ∧ R y fr) e st
theorem GCall.of_body (hT : TysOK P T) {f : FuncId} {fn : Func} {c : Code} {sc : SC} {args : List AV} {fr0 : Fra} {R : AV → Fra → Prop} (hf : P.funcs[f]? = some fn) (hb : fn.body = some c) (hnm : (fn.name == "runtime.NumGoroutine") = false)
  (he : sc.bare = erase fn.ntmps c) (hfit : (erase fn.ntmps c).fits fn.ntmps = true) (hargs : args.length ≤ fn.ntmps)
  (h : ∀ H, AK P fn.ntmps (GEnds T fn.results.toList H R) [.sc sc] ⟨zipTm 0 args, fr0, H, 16, fn.ntmps⟩) : GCall P f args fr0 R := by
 refine ⟨⟨fn, hf, hnm, by simp [hb]⟩, ?_⟩
 intro H N0 W0 fm t ts w vs hH ht hv
 refine calls_of_wp hf hb ((wpIn_plain []).1 ?_)
 have hl := hv.1
 have hS : SR N0 W0 fn.ntmps ⟨zipTm 0 args, fr0, H, 16, fn.ntmps⟩ { tmps := vs.toArray ++ Array.replicate (fn.ntmps - vs.toArray.size) undef, defers := [] } w fm (t :: ts) := by
  refine ⟨hH, ?_, fun k hk => ht k hk, by simp; omega, rfl⟩
  intro i x hx
  obtain ⟨_, hx⟩ := zipTm_look args 0 i x hx
  simp only [Nat.sub_zero] at hx
  have hlt : i < vs.length := by rw [← hl]; exact (List.getElem?_eq_some_iff.1 hx).1
  refine ⟨vs[i], ?_, hv.2 i x _ hx (List.getElem?_eq_getElem hlt)⟩
  rw [Array.getElem?_append_left (by simpa using hlt)]
  simp [hlt]
 have := h H N0 W0 fm (t :: ts) _ w [.code c] (bodyPost P fn fun e w' => ∃ v y fr' fm' t' ts', e = .returned v ∧ R y fr' ∧ HR N0 W0 fm' (t' :: ts') (fr' :: H) w' ∧ VR fm' (t' :: ts') y v ∧ FmUp N0 fm fm' ∧ TsLe ts ts' ∧
   (∀ l k, tb ts l k = none → tb ts' l k = none) ∧ ∀ k, 16 ≤ k → t' k = none) hS (.sc he hfit .nil) ?_
 ·exact this
 ·intro e st' a' w' fm' ts' hE hS' hL
  have fin : (∃ xs, resAll T st' fn.results.toList = some xs ∧ Gives (fun y fr H' => H' = H ∧ R y fr) (tupOf xs) st') → a'.defers = [] ∧ ∃ v, (results fn a'.tmps).run P w' = .ok v w' ∧ ∃ v_1 y fr' fm' t' ts', Ending.returned v = .returned v_1 ∧ R y fr' ∧ HR N0 W0 fm' (t' :: ts') (fr' :: H) w' ∧ VR fm' (t' :: ts') y v_1 ∧ FmUp N0 fm fm' ∧ TsLe ts ts' ∧
    (∀ l k, tb ts l k = none → tb ts' l k = none) ∧ ∀ k, 16 ≤ k → t' k = none := by
   rintro ⟨xs, hxs, hg⟩
   obtain ⟨v, h1, h2⟩ := results_ok (P := P) hT hS' hxs
   refine ⟨hS'.dfr, v, h1, ?_⟩
   cases ts' with
   | nil => have := hS'.hr.len; simp at this
   | cons t rest =>
    have hts : TsLe ts rest := by simpa using hL.tle
    have hno : ∀ l k, tb ts l k = none → tb rest l k = none := by simpa using hL.no
    cases hg with
    | own ks y fr hn hk hy hfr hR =>
     obtain ⟨hlow, hR⟩ := hR
     have hr := hS'.hr.ren hfr hn
     rw [hlow] at hr
     exact ⟨v, y, fr, fm', tren ks t, rest, rfl, hR, hr, h2.ren rfl hy, hL.fle, hts, hno, fun k hk' => by simp only [tren]; rw [List.getElem?_eq_none (by omega)]; rfl⟩
    | frz y hy hr hR =>
     obtain ⟨hlow, hR⟩ := hR
     have h3 := hS'.hr.frz (tupOf xs).refs h2 hy (fun _ h => h)
     have h4 := hS'.hr.letGo (tupOf xs).refs
     obtain ⟨f', hf'⟩ := kills_low hr st'.fr st'.low
     rw [hf'] at h4
     have hpt : ∀ l k, tb (tgone (t :: rest) (tupOf xs).refs) (l + 1) k = tb rest l k := by
      intro l k
      rw [tb_tgone, if_neg]
      ·simp [tb]
      ·rintro ⟨hm, _⟩
       have := List.all_eq_true.1 hr _ hm
       simp at this
     have hlen := length_tgone (tupOf xs).refs (t :: rest)
     cases hg : tgone (t :: rest) (tupOf xs).refs with
     | nil => rw [hg] at hlen; simp at hlen
     | cons t2 rest2 =>
      rw [hg] at h4 hpt
      have e2 : ∀ l k, tb rest2 l k = tb rest l k := fun l k => by simpa [tb] using hpt l k
      have hup := hS'.hr.fmUp (tupOf xs).refs
      have h5 := h4.pop.push
      rw [hlow] at h5 hup h3
      exact ⟨v, y, [], _, noTie, rest2, rfl, hR, h5, h3.mono (FmLe.refl _) (TsLe.nil _), hL.fle.trans hup, fun l k => by rw [e2]; exact hts l k, fun l k hh => by rw [e2]; exact hno l k hh, fun _ _ => rfl⟩
  cases e with
  | normal => exact fin hE
  | ret => exact fin hE
  | _ => exact hE.elim
def gv1 (gs : List Nat) (G : Get) (F : Nat → Nat → Option (List AV)) : AV → Option AV
 | .loc 1 k e i n g => match idx gs k with
  | some j => some (.loc 0 j e i n g)
  | none => (AV.loc 1 k e i n g).br G F
 | x => x.br G F
def gvL (gs : List Nat) (G : Get) (F : Nat → Nat → Option (List AV)) : List AV → Option (List AV)
 | [] => some []
 | x :: l => match gv1 gs G F x, gvL gs G F l with
  | some x, some l => some (x :: l)
  | _, _ => none
def giveFr (f : Fra) : Nat → List Nat → Option Fra
 | _, [] => some []
 | i, k :: r => match look f k with
  | some (.arr et e es) => (giveFr f (i + 1) r).map fun l => (i, .arr et e es) :: l
  | _ => none
theorem giveFr_look (f : Fra) : ∀ (r : List Nat) (i : Nat) (fr : Fra), giveFr f i r = some fr → ∀ j b, look fr j = some b → i ≤ j ∧ ∃ k et e es, r[j - i]? = some k ∧ look f k = some b ∧ b = .arr et e es
 | [], i, fr, h, j, b, hj => by simp only [giveFr, Option.some.injEq] at h; subst h; simp [look] at hj
 | k :: r, i, fr, h, j, b, hj => by
  simp only [giveFr] at h
  split at h
  ·rename_i et e es hk
   simp only [Option.map_eq_some_iff] at h
   obtain ⟨l, hl, rfl⟩ := h
   simp only [look] at hj
   split at hj
   ·rename_i he
    subst he
    obtain rfl := Option.some.inj hj
    exact ⟨Nat.le_refl _, k, et, e, es, by simp, hk, rfl⟩
   ·obtain ⟨h1, k', et', e', es', h2, h3, h4⟩ := giveFr_look f r (i + 1) l hl j b hj
    refine ⟨by omega, k', et', e', es', ?_, h3, h4⟩
    have : j - i = (j - (i + 1)) + 1 := by omega
    rw [this, List.getElem?_cons_succ]; exact h2
  ·cases h
theorem look_dels_fra (ks : List Nat) : ∀ (f : Fra) (j : Nat), look (dels f ks) j = if j ∈ ks then none else look f j := by
 induction ks with
 | nil => intro f j; simp [dels]
 | cons k ks ih =>
  intro f j
  simp only [dels, ih, look_del, List.mem_cons]
  by_cases h1 : j ∈ ks
  ·simp [h1]
  ·by_cases h2 : k = j
   ·simp [h2]
   ·simp [h1, h2, Ne.symm h2]
theorem HR.give {h : Tie} {rest : List Tie} {f : Fra} (hh : HR N0 W0 fm (noTie :: h :: rest) ([] :: f :: H) w) {gs : List Nat} {fr0 : Fra} (hg : giveFr f 0 gs = some fr0) (hnd : gs.Nodup) :
  HR N0 W0 fm (tren gs h :: h :: rest) (fr0 :: dels f gs :: H) w := by
 have src : ∀ l k b, Heap.get (fr0 :: dels f gs :: H) l k = some b → (l = 0 ∧ ∃ k0 et e es, gs[k]? = some k0 ∧ look f k0 = some b ∧ b = .arr et e es ∧ tb (tren gs h :: h :: rest) 0 k = h k0) ∨ (l ≠ 0 ∧ Heap.get ([] :: f :: H) l k = some b ∧ tb (tren gs h :: h :: rest) l k = tb (noTie :: h :: rest) l k ∧ (l = 1 → k ∉ gs)) := by
  intro l k b hb
  cases l with
  | zero =>
   simp only [Heap.get] at hb
   obtain ⟨_, k0, et, e, es, h1, h2, h3⟩ := giveFr_look f gs 0 fr0 hg k b hb
   simp only [Nat.sub_zero] at h1
   exact .inl ⟨rfl, k0, et, e, es, h1, h2, h3, by simp [tb, tren, h1]⟩
  | succ l =>
   cases l with
   | zero =>
    simp only [Heap.get, look_dels_fra] at hb
    split at hb
    ·cases hb
    ·rename_i hn
     exact .inr ⟨by omega, by simpa [Heap.get] using hb, by simp [tb], fun _ => hn⟩
   | succ l => exact .inr ⟨by omega, by simpa [Heap.get] using hb, by simp [tb], fun e => by omega⟩
 refine ⟨by have := hh.len; simpa using this, ?_, ?_, hh.fms, ?_, hh.bel, hh.size, hh.oth⟩
 ·intro l k b hb
  rcases src l k b hb with ⟨rfl, k0, et, e, es, h1, h2, rfl, h4⟩ | ⟨hl, h2, h3, _⟩
  ·rw [h4]
   have := hh.blk 1 k0 _ (by simpa [Heap.get] using h2)
   simp only [tb] at this
   generalize h k0 = tt at this
   cases this with
   | nil => exact .nil _ _
   | arr _ _ _ c cap hN hA => exact .arr _ _ _ c cap hN hA
  ·rw [h3]
   have := hh.blk l k b h2
   obtain ⟨l, rfl⟩ : ∃ m, l = m + 1 := ⟨l - 1, by omega⟩
   simpa using this
 ·intro l1 k1 l2 k2 b1 b2 c g1 g2 t1 t2
  rcases src l1 k1 b1 g1 with ⟨rfl, q1, _, _, _, a1, a2, _, a4⟩ | ⟨hl1, a2, a3, a4⟩
  ·rw [a4] at t1
   rcases src l2 k2 b2 g2 with ⟨rfl, q2, _, _, _, c1, c2, _, c4⟩ | ⟨hl2, c2, c3, c4⟩
   ·rw [c4] at t2
    have := (hh.inj 1 q1 1 q2 b1 b2 c (by simpa [Heap.get] using a2) (by simpa [Heap.get] using c2) (by simpa [tb] using t1) (by simpa [tb] using t2)).2
    subst this
    refine ⟨rfl, ?_⟩
    exact (List.getElem?_inj (List.getElem?_eq_some_iff.1 a1).1 hnd).1 (a1.trans c1.symm)
   ·rw [c3] at t2
    obtain ⟨e1, e2⟩ := hh.inj 1 q1 l2 k2 b1 b2 c (by simpa [Heap.get] using a2) c2 (by simpa [tb] using t1) t2
    subst e1 e2
    exact absurd (List.mem_of_getElem? a1) (c4 rfl)
  ·rw [a3] at t1
   rcases src l2 k2 b2 g2 with ⟨rfl, q2, _, _, _, c1, c2, _, c4⟩ | ⟨hl2, c2, c3, c4⟩
   ·rw [c4] at t2
    obtain ⟨e1, e2⟩ := hh.inj l1 k1 1 q2 b1 b2 c a2 (by simpa [Heap.get] using c2) t1 (by simpa [tb] using t2)
    subst e1 e2
    exact absurd (List.mem_of_getElem? c1) (a4 rfl)
   ·rw [c3] at t2
    exact hh.inj l1 k1 l2 k2 b1 b2 c a2 c2 t1 t2
 ·intro l k b c o hb hc
  rcases src l k b hb with ⟨rfl, k0, _, _, _, h1, h2, _, h4⟩ | ⟨hl, h2, h3, _⟩
  ·rw [h4] at hc
   exact hh.fmd 1 k0 b c o (by simpa [Heap.get] using h2) (by simpa [tb] using hc)
  ·rw [h3] at hc
   exact hh.fmd l k b c o h2 hc
theorem gvL_ok {h : Tie} {rest : List Tie} {f : Fra} {fm1 : FM} (hh : HR N0 W0 fm (noTie :: h :: rest) ([] :: f :: H) w) (hle : FmLe fm fm1) {G : Get} (hG : ∀ l k b, G l k = some b → Heap.get ([] :: f :: H) l k = some b)
  (hcell : ∀ l k b c, G l k = some b → tbc (tb (noTie :: h :: rest) l k) = some c → ∀ o u, w.cell? ⟨c, o, none⟩ = some u → fm1 c o = some u) {gs : List Nat} {m : Nat} :
  ∀ (args ys : List AV) (vs : List Value), gvL gs G (boxF G m) args = some ys → VRs fm (noTie :: h :: rest) args vs → VRs fm1 (tren gs h :: h :: rest) ys vs
 | [], ys, vs, e, hv => by
  simp only [gvL, Option.some.injEq] at e; subst e
  exact ⟨hv.1, fun i x v hx => by simp at hx⟩
 | x :: l, ys, vs, e, hv => by
  simp only [gvL] at e
  split at e
  ·rename_i y ys' hy hys
   obtain rfl := Option.some.inj e
   cases vs with
   | nil => have := hv.1; simp at this
   | cons v vs =>
    have hx : VR fm (noTie :: h :: rest) x v := hv.2 0 x v rfl rfl
    have ih := gvL_ok hh hle hG hcell l ys' vs hys ⟨by simpa using hv.1, fun i a b p q => hv.2 (i + 1) a b (by simpa using p) (by simpa using q)⟩
    refine ⟨by simp [ih.1], ?_⟩
    intro i a b ha hb
    cases i with
    | succ i => simp at ha hb; exact ih.2 i a b ha hb
    | zero =>
     simp at ha hb; subst ha hb
     have br : x.br G (boxF G m) = some y → VR fm1 (tren gs h :: h :: rest) y v := fun hbr =>
      (hh.brG hle hG hcell _ (hh.boxG hle hG hcell m) hx rfl hbr).mono (FmLe.refl _) (TsLe.nil _)
     unfold gv1 at hy
     split at hy
     ·rename_i k e i n g
      split at hy
      ·rename_i j hj
       obtain rfl := Option.some.inj hy
       have hj' := idx_get gs k j hj
       have htb : tb (tren gs h :: h :: rest) 0 j = tb (noTie :: h :: rest) 1 k := by simp [tb, tren, hj']
       have hx' := hx.mono hle (TsLe.refl _)
       cases hx' with
       | locGone _ _ _ _ _ _ a cp ht hn ha => exact .locGone _ _ _ _ _ _ a cp (htb.trans ht) hn ha
       | locOld _ _ _ _ _ _ a cp m' c ht hlt hn ha => exact .locOld _ _ _ _ _ _ a cp m' c (htb.trans ht) hlt hn ha
       | locNil _ _ _ a ht => exact .locNil _ _ _ a (htb.trans ht)
       | loc _ _ _ _ _ _ c cap cp a ht hn hnc hc ha => exact .loc _ _ _ _ _ _ c cap cp a (htb.trans ht) hn hnc hc ha
      ·exact br hy
     ·exact br hy
  ·cases e
theorem GCall.used {f : FuncId} {args args0 : List AV} {fr0 f0 : Fra} {R : AV → Fra → Prop} (m : Nat) (rs gs : List Nat) (hp : GCall P f args0 fr0 R) (hz : gvL gs (only (Heap.get ([] :: f0 :: H)) (rs.map fun k => (1, k))) (boxF (only (Heap.get ([] :: f0 :: H)) (rs.map fun k => (1, k))) m) args = some args0)
  (hg : giveFr (dels f0 rs) 0 gs = some fr0) (hnd : (decide gs.Nodup && decide (gs.length ≤ 16)) = true) : ACall P f args (f0 :: H) (fun y fr H' => R y fr ∧ H' = dels (dels f0 rs) gs :: H) := by
 simp only [Bool.and_eq_true, decide_eq_true_eq] at hnd
 refine ⟨hp.1, fun N0 W0 fm ts w vs hH hv => ?_⟩
 have hP := hH.push
 cases ts with
 | nil => have := hH.len; simp at this
 | cons h rest =>
  obtain ⟨hT, hU⟩ := hP.takeRs (rs.map fun k => (1, k))
  rw [kills_own] at hT
  have hG : ∀ l k b, only (Heap.get ([] :: f0 :: H)) (rs.map fun k => (1, k)) l k = some b → Heap.get ([] :: f0 :: H) l k = some b := by
   intro l k b e; unfold only at e; split at e
   ·exact e
   ·cases e
  have hcell : ∀ l k b c, only (Heap.get ([] :: f0 :: H)) (rs.map fun k => (1, k)) l k = some b → tbc (tb (noTie :: h :: rest) l k) = some c → ∀ o u, w.cell? ⟨c, o, none⟩ = some u → fmRs fm w (noTie :: h :: rest) ([] :: f0 :: H) (rs.map fun k => (1, k)) c o = some u := by
   intro l k b c e hc o u hu
   unfold only at e
   split at e
   ·rename_i hm
    unfold fmRs
    rw [if_pos ⟨l, k, b, by simpa using hm, e, hc⟩]
    exact hu
   ·cases e
  have h1 := gvL_ok hP hU.le hG hcell args args0 vs hz hv
  have h2 := hT.give hg hnd.1
  refine Calls.mono (hp.2 (dels (dels f0 rs) gs :: H) N0 W0 _ (tren gs h) (h :: rest) w vs h2 (fun k hk => by simp only [tren]; rw [List.getElem?_eq_none (by omega)]; rfl) h1) ?_
  rintro e w' ⟨v, y, fr', fm', t', ts', rfl, hR, hhr, hvr, hup, hts, hno, ht⟩
  exact ⟨v, y, fr', dels (dels f0 rs) gs :: H, fm', t', ts', rfl, ⟨hR, rfl⟩, by simp, hhr, hvr, hU.trans hup, hts, hno, ht⟩
end
def pushG (G : Get) : Get := fun l k => match l with
 | 0 => none
 | l + 1 => G l k
def giveG (G : Get) : Nat → List Nat → Option Fra
 | _, [] => some []
 | i, k :: r => match G 0 k with
  | some (.arr et e es) => (giveG G (i + 1) r).map fun l => (i, .arr et e es) :: l
  | _ => none
theorem giveG_mono {G G' : Get} (h : ∀ l k b, G l k = some b → G' l k = some b) : ∀ (r : List Nat) (i : Nat) (fr : Fra), giveG G i r = some fr → giveG G' i r = some fr
 | [], i, fr, e => e
 | k :: r, i, fr, e => by
  simp only [giveG] at e ⊢
  split at e
  ·rename_i et z es hk
   simp only [Option.map_eq_some_iff] at e
   obtain ⟨l, hl, rfl⟩ := e
   rw [h 0 k _ hk]
   simp only [giveG_mono h r (i + 1) l hl, Option.map_some]
  ·cases e
theorem giveG_fr (f : Fra) (H : Heap) (rs : List Nat) : ∀ (r : List Nat) (i : Nat) (fr : Fra), giveG (Heap.get (f :: H)) i r = some fr → (∀ k ∈ r, k ∉ rs) → giveFr (dels f rs) i r = some fr
 | [], i, fr, e, _ => e
 | k :: r, i, fr, e, hk => by
  simp only [giveG, Heap.get] at e
  simp only [giveFr, look_dels_fra, if_neg (hk k List.mem_cons_self)]
  split at e
  ·rename_i et z es hk'
   simp only [Option.map_eq_some_iff] at e
   obtain ⟨l, hl, rfl⟩ := e
   simp only [hk', giveG_fr f H rs r (i + 1) l hl (fun k h => hk k (List.mem_cons_of_mem _ h)), Option.map_some]
  ·cases e
def kill0 (ks : List Nat) : List (Nat × Nat × Option Blk) := ks.map fun k => (0, k, none)
def impS (kb : Nat) : Fra → List (Nat × Nat × Option Blk)
 | [] => []
 | (c, b) :: R => impS kb R ++ [(0, kb + c, some (b.imp kb))]
theorem puts_kill0 : ∀ (ks : List Nat) (f : Fra) (H : Heap), Heap.puts (f :: H) (kill0 ks) = dels f ks :: H
 | [], _, _ => rfl
 | k :: ks, f, H => puts_kill0 ks (del f k) H
theorem puts_impS (kb : Nat) : ∀ (R : Fra) (f : Fra) (H : Heap), Heap.puts (f :: H) (impS kb R) = impFr kb R f :: H
 | [], _, _ => rfl
 | (c, b) :: R, f, H => by
  simp only [impS, Heap.puts_append, puts_impS kb R f H, impFr]
  rfl
theorem gvL_mono {gs : List Nat} {G G' : Get} {F F' : Nat → Nat → Option (List AV)} (h : ∀ x y : AV, x.br G F = some y → x.br G' F' = some y) : ∀ (l ys : List AV), gvL gs G F l = some ys → gvL gs G' F' l = some ys
 | [], ys, e => e
 | x :: l, ys, e => by
  simp only [gvL] at e ⊢
  split at e
  ·rename_i a b ha hb
   have ha' : gv1 gs G' F' x = some a := by
    cases x with
    | loc lv k e i n g =>
     match lv, ha with
     | 0, ha => exact h _ _ ha
     | 1, ha =>
      simp only [gv1] at ha ⊢
      cases hj : idx gs k with
      | some j => rw [hj] at ha; exact ha
      | none => rw [hj] at ha; exact h _ _ ha
     | _ + 2, ha => exact h _ _ ha
    | _ => exact h _ _ ha
   rw [ha', gvL_mono h l b hb]
   exact e
  ·cases e
def tjoinW (kb : Nat) (t' h : Tie) : Tie := fun k => if kb ≤ k ∧ k < kb + 16 then t' (k - kb) else h k
end Go.Abs
namespace Go.Abs
open Go Go.RowKit
set_option linter.unusedSectionVars false
section
variable [Md] {P : Program} {T : Tys} {n : Nat} {Φ : Exit → St → Prop}
theorem AKev_two {f : List It → St → Ev} {b : Bool} {t t' : List It} {s s' : St} (h1 : b = true → AKev P n Φ (f t s)) (h2 : b = false → AKev P n Φ (f t' s')) : AKev P n Φ (two f b t s t' s') := by
 cases b with
 | true => exact h1 rfl
 | false => exact h2 rfl
theorem AKev_frozen {f : FuncId} {args fargs : List AV} {dst : Option Tmp} {drop : List Nat} {todo : List It} {st : St} {R : AV → Prop} (hp : PCall P f fargs R) (hz : AV.frzL (Heap.get ([] :: st.fr :: st.low)) args = some fargs) (hr : AV.refsL args = [])
  (h : ∀ y, R y → AK P n Φ todo (st.took dst drop y [] (st.fr :: st.low))) : AKev P n Φ (.call f args dst drop todo st) :=
 ⟨_, _, _, _, Moved.refl _ _ _, (hp.frozen hz hr).toP, by rintro v fr H ⟨h1, rfl, rfl⟩; exact h v h1, fun _ _ h => h.elim⟩
theorem AKev_borrow {f : FuncId} {args fargs : List AV} {dst : Option Tmp} {drop : List Nat} {todo : List It} {st : St} {R : AV → Prop} (hp : PCall P f fargs R) (hz : AV.frzL (Heap.get ([] :: st.fr :: st.low)) args = some fargs) (hs : ∀ y, R y → y.scal = true)
  (h : ∀ y, R y → AK P n Φ todo (st.took dst drop y [] (st.fr :: st.low))) : AKev P n Φ (.call f args dst drop todo st) :=
 ⟨_, _, _, _, Moved.refl _ _ _, (hp.borrow hz hs).toP, by rintro v fr H ⟨h1, rfl, rfl⟩; exact h v h1, fun _ _ h => h.elim⟩
theorem AKev_call {f : FuncId} {args : List AV} {dst : Option Tmp} {drop : List Nat} {todo : List It} {st : St} {R : AV → Fra → Heap → Prop} (hp : ACall P f args (st.fr :: st.low) R)
  (h : ∀ y fr H, R y fr H → AK P n Φ todo (st.took dst drop y fr H)) : AKev P n Φ (.call f args dst drop todo st) := ⟨_, _, R, _, Moved.refl _ _ _, hp.toP, h, fun _ _ h => h.elim⟩
end
attribute [go_sem] nilEq orEither_some orEither_none run isCall doOp next_some nextCall_some callee two_true two_false St.past pickV_true pickV_false opDe opv opvs look newBox wake St.by putTm ins dels del Heap.puts Heap.put St.withHeap bareDe constAV constAVs
 aBuiltin aLen sliceLen St.get aBinT aBin aIndexAddr doLoad cellsAt readCells asVal TI.isAgg AV.cells overwrite doStore Heap.get aFieldAddr AV.shL AV.sh aUn exitsTo St.enter zipTm St.took AV.imp AV.impL impFr Blk.imp resAll resOne tupOf AV.frz AV.frzL AV.refs AV.refsL
 aField aIndex aSlice fillCells aBuild partsOf fillElems freezeParts partRefs doBuildSlice doMakeSlice elemsOf doAppend doCopy doClear aMinMax aNilCheck aConv byteOf bytesOf eqCell eqCells AV.unL AV.un lessL kills AV.flat AV.scal AV.leaf
 List.length_cons List.length_nil List.append_nil List.nil_append List.cons_append reduceIte Nat.reduceAdd Nat.reduceMul Nat.reduceLT Nat.reduceEqDiff Nat.reduceLeDiff Nat.reduceSub Option.map_some Option.map_none Option.bind_some Option.bind_none List.length_map reduceCtorEq
 List.take_succ_cons List.take_zero List.drop_succ_cons List.drop_zero List.getElem?_cons_zero List.getElem?_cons_succ List.getElem?_nil List.map_cons List.map_nil beq_self_eq_true Nat.le_refl and_self and_true true_and beq_true beq_false Bool.not_true Bool.not_false
end Go.Abs
namespace Go.Abs
open Go Go.RowKit
def TmLe (tm tm' : Tm) : Prop := ∀ t x, tm t = some x → tm' t = some x
def GLe (G G' : Get) : Prop := ∀ l k b, G l k = some b → G' l k = some b
section
variable {tm tm' : Tm} {G G' : Get} (htm : TmLe tm tm') (hG : GLe G G')
include htm in
theorem opv_mono {x : Operand} {y : AV} (h : opv tm x = some y) : opv tm' x = some y := by
 cases x with
 | tmp t => exact htm t y h
 | _ => exact h
include htm in
theorem opvs_mono : ∀ (l : List Operand) (ys : List AV), opvs tm l = some ys → opvs tm' l = some ys
 | [], ys, h => h
 | x :: l, ys, h => by
  simp only [opvs] at h ⊢
  split at h
  ·rename_i a b ha hb
   rw [opv_mono htm ha, opvs_mono l b hb]; exact h
  ·cases h
include htm in
theorem partsOf_mono : ∀ (l : List (Nat × Operand)) (ys : List (Nat × AV)), partsOf tm l = some ys → partsOf tm' l = some ys
 | [], ys, h => h
 | (i, x) :: l, ys, h => by
  simp only [partsOf] at h ⊢
  split at h
  ·rename_i a b ha hb
   rw [opv_mono htm ha, partsOf_mono l b hb]; exact h
  ·cases h
mutual
theorem frz_mono (hG : GLe G G') : ∀ (x y : AV), x.frz G = some y → x.frz G' = some y
 | .loc l k e i n g, y, h => by
  simp only [AV.frz] at h ⊢
  split at h
  ·rename_i et esz es hg
   rw [hG l k _ hg]; exact h
  ·cases h
 | .ifc t v, y, h => by
  simp only [AV.frz, Option.map_eq_some_iff] at h ⊢
  obtain ⟨a, h1, h2⟩ := h
  exact ⟨a, frz_mono hG v a h1, h2⟩
 | .agg cs, y, h => by
  simp only [AV.frz, Option.map_eq_some_iff] at h ⊢
  obtain ⟨a, h1, h2⟩ := h
  exact ⟨a, frzL_mono hG cs a h1, h2⟩
 | .tup vs, y, h => by
  simp only [AV.frz, Option.map_eq_some_iff] at h ⊢
  obtain ⟨a, h1, h2⟩ := h
  exact ⟨a, frzL_mono hG vs a h1, h2⟩
 | .nil, y, h => by simpa [AV.frz] using h
 | .bool b, y, h => by simpa [AV.frz] using h
 | .int k n, y, h => by simpa [AV.frz] using h
 | .str s, y, h => by simpa [AV.frz] using h
 | .sl e es, y, h => by simpa [AV.frz] using h
 | .pnil, y, h => by simpa [AV.frz] using h
 | .fnil, y, h => by simpa [AV.frz] using h
 | .inil, y, h => by simpa [AV.frz] using h
 | .fn f a b, y, h => by
  simp only [AV.frz] at h ⊢
  split at h
  ·rename_i x z hx hz
   obtain rfl := Option.some.inj h
   simp only [frzL_mono hG a x hx, frzL_mono hG b z hz]
  ·cases h
 | .inn .., y, h => by simp [AV.frz] at h
 | .ptr .., y, h => by simp [AV.frz] at h
 | .eptr .., y, h => by simp [AV.frz] at h
 | .rptr .., y, h => by simpa [AV.frz] using h
 | .dead, y, h => by simp [AV.frz] at h
theorem frzL_mono (hG : GLe G G') : ∀ (l ys : List AV), AV.frzL G l = some ys → AV.frzL G' l = some ys
 | [], ys, h => h
 | x :: l, ys, h => by
  simp only [AV.frzL] at h ⊢
  split at h
  ·rename_i a b ha hb
   rw [frz_mono hG x a ha, frzL_mono hG l b hb]; exact h
  ·cases h
end
include hG in
theorem cellsAt_mono {size : Nat} {x : AV} {cs : List AV} (h : cellsAt G size x = some cs) : cellsAt G' size x = some cs := by
 unfold cellsAt at h ⊢
 split at h
 ·split at h
  ·rename_i hg; rw [hG _ _ _ hg]; exact h
  ·cases h
 ·split at h
  ·rename_i hg; rw [hG _ _ _ hg]; exact h
  ·cases h
 ·exact h
 ·cases h
include hG in
theorem doLoad_mono {ti : TI} {x y : AV} (h : doLoad G ti x = some y) : doLoad G' ti x = some y := by
 unfold doLoad at h ⊢
 rw [Option.bind_eq_some_iff] at h ⊢
 obtain ⟨cs, h1, h2⟩ := h
 exact ⟨cs, cellsAt_mono hG h1, h2⟩
include hG in
theorem elemsOf_mono {sz : Nat} {x : AV} {es : List (List AV)} (h : elemsOf G sz x = some es) : elemsOf G' sz x = some es := by
 unfold elemsOf at h ⊢
 split at h
 ·exact h
 ·exact h
 ·split at h
  ·rename_i hg; rw [hG _ _ _ hg]; exact h
  ·cases h
 ·split at h
  ·rename_i hg; rw [hG _ _ _ hg]; exact h
  ·cases h
 ·cases h
theorem aBytes_dst {T : Tys} {s d : TI} {x y : AV} (h : aBytes T s d x = some y) : ∃ e, d.d = .slice e := by
 unfold aBytes at h
 split at h
 ·rename_i e he; exact ⟨e, he⟩
 ·cases h
theorem aConv_slice {T : Tys} {G : Get} {s d : TI} {x : AV} (h : ∃ e, d.d = .slice e) : aConv T G s d x = none := by
 obtain ⟨e, he⟩ := h
 unfold aConv
 rw [he]
include hG in
theorem aConv_mono {T : Tys} {s d : TI} {x y : AV} (h : aConv T G s d x = some y) : aConv T G' s d x = some y := by
 unfold aConv at h ⊢
 split at h
 ·exact h
 ·split at h
  ·exact h
  ·split at h
   ·split at h
    ·split at h
     ·rename_i h1
      rw [if_pos h1]
      rw [Option.bind_eq_some_iff] at h ⊢
      obtain ⟨es, h2, h3⟩ := h
      exact ⟨es, elemsOf_mono hG h2, h3⟩
     ·cases h
    ·cases h
   ·cases h
  ·cases h
 ·cases h
include hG in
theorem freezeParts_mono : ∀ (l : List (Nat × AV)) (cs : List (Nat × List AV)), freezeParts G l = some cs → freezeParts G' l = some cs
 | [], cs, h => h
 | (i, v) :: l, cs, h => by
  simp only [freezeParts] at h ⊢
  split at h
  ·split at h
   ·rename_i a b ha hb
    rw [frzL_mono hG _ _ ha, freezeParts_mono l b hb]; exact h
   ·cases h
  ·cases h
include hG in
theorem doBuildSlice_mono {kb len : Nat} {ti : TI} {ps : List (Nat × AV)} {d : De} (h : doBuildSlice G kb ti len ps = some d) : doBuildSlice G' kb ti len ps = some d := by
 unfold doBuildSlice at h ⊢
 split at h
 ·split at h
  ·rename_i hc
   rw [if_pos hc]
   split at h
   ·rename_i cs hcs
    rw [freezeParts_mono hG _ _ hcs]; exact h
   ·cases h
  ·cases h
 ·cases h
include hG in
theorem doAppend_mono {kb : Nat} {ti : TI} {s x : AV} {d : De} (h : doAppend G kb ti s x = some d) : doAppend G' kb ti s x = some d := by
 unfold doAppend at h ⊢
 split at h
 ·split at h
  ·rename_i new hnew
   rw [elemsOf_mono hG hnew]
   split at h
   ·exact h
   ·split at h
    ·rename_i hg
     simp only [hG _ _ _ hg]; exact h
    ·cases h
   ·cases h
  ·cases h
 ·cases h
include hG in
theorem doCopy_mono {ti : TI} {s x : AV} {d : De} (h : doCopy G ti s x = some d) : doCopy G' ti s x = some d := by
 unfold doCopy at h ⊢
 split at h
 ·split at h
  ·rename_i new hnew
   rw [elemsOf_mono hG hnew]
   split at h
   ·exact h
   ·split at h
    ·rename_i hg
     simp only [hG _ _ _ hg]; exact h
    ·cases h
   ·split at h
    ·rename_i hg
     simp only [hG _ _ _ hg]; exact h
    ·cases h
   ·cases h
  ·cases h
 ·cases h
include hG in
theorem doClear_mono {ti : TI} {x : AV} {d : De} (h : doClear G ti x = some d) : doClear G' ti x = some d := by
 unfold doClear at h ⊢
 split at h
 ·split at h
  ·exact h
  ·split at h
   ·rename_i hg
    simp only [hG _ _ _ hg]; exact h
   ·cases h
  ·cases h
 ·cases h
include hG in
theorem doStore_mono {kb : Nat} {ti : TI} {a : AV} {vc : List AV} {d : De} (h : doStore G kb ti a vc = some d) : doStore G' kb ti a vc = some d := by
 unfold doStore at h ⊢
 split at h
 ·rename_i hl
  rw [if_pos hl]
  split at h
  ·split at h
   ·rename_i hg
    simp only [hG _ _ _ hg]
    split at h
    ·rename_i hle
     rw [if_pos hle]
     split at h
     ·rename_i h0; rw [if_pos h0]; exact h
     ·rename_i h0
      rw [if_neg h0]
      split at h
      ·exact h
      ·split at h
       ·rename_i new hz; rw [frzL_mono hG _ _ hz]; exact h
       ·cases h
    ·cases h
   ·cases h
  ·split at h
   ·rename_i hg
    simp only [hG _ _ _ hg]
    split at h
    ·rename_i hc
     rw [if_pos hc]
     split at h
     ·rename_i c new hc1 hz
      rw [hc1, frzL_mono hG _ _ hz]; exact h
     ·cases h
    ·cases h
   ·cases h
  ·cases h
 ·cases h
theorem bareDe_mono {a b : Option AV} {d : De} (hm : ∀ x, a = some x → b = some x) (h : bareDe a = some d) : bareDe b = some d := by
 obtain ⟨x, hx, rfl⟩ := bareDe_eq h
 rw [hm x hx]; rfl
include hG in
theorem aBuiltin_mono {T : Tys} {kb : Nat} {b : Builtin} {ts : List TypeId} {xs : List AV} {d : De} (h : aBuiltin T G kb b ts xs = some d) : aBuiltin T G' kb b ts xs = some d := by
 unfold aBuiltin at h ⊢
 split at h
 ·cases h
 ·split at h
  ·cases h
  ·split at h
   ·exact h
   ·split at h
    ·split at h
     ·rename_i hl; rw [if_pos hl]; exact doAppend_mono hG h
     ·rename_i hl
      rw [if_neg hl]
      unfold doAppendS at h ⊢
      split at h
      ·split at h
       ·split at h
        ·split at h
         ·rename_i h1; rw [if_pos h1]; exact doAppend_mono hG h
         ·cases h
        ·cases h
       ·cases h
      ·split at h
       ·split at h
        ·unfold doAppendZ at h ⊢
         split at h
         ·rename_i h1; rw [if_pos h1]; exact doAppend_mono hG h
         ·cases h
        ·cases h
       ·cases h
      ·cases h
    ·cases h
   ·split at h
    ·split at h
     ·rename_i hl; rw [if_pos hl]; exact doCopy_mono hG h
     ·cases h
    ·cases h
   ·split at h
    ·exact doClear_mono hG h
    ·cases h
   ·exact h
   ·exact h
   ·cases h
theorem aBeyond_slice {G' : Get} {ti : TI} {x lo hi z z' : AV} (h : aBeyond G' ti x lo hi = some z') (k : aSlice ti x (some lo) (some hi) = some z) : z' = z := by
 unfold aBeyond at h
 split at h
 ·rename_i lv kk esz i n g
  split at h
  ·rename_i el hd
   split at h
   ·rename_i kl l kh hi2
    split at h
    ·split at h
     ·obtain rfl := Option.some.inj h
      unfold aSlice at k
      rw [hd] at k
      simp only at k
      split at k
      ·simp only [Option.map_eq_some_iff] at k
       obtain ⟨⟨a, b⟩, hb, rfl⟩ := k
       unfold bounds boundHi at hb
       simp only at hb
       split at hb
       ·rename_i hh hhe
        split at hhe
        ·obtain rfl := Option.some.inj hhe
         unfold boundLo at hb
         simp only at hb
         split at hb
         ·rename_i ll hle
          split at hle
          ·obtain rfl := Option.some.inj hle
           simp only [Option.some.injEq, Prod.mk.injEq] at hb
           obtain ⟨rfl, rfl⟩ := hb
           rfl
          ·cases hle
         ·cases hb
        ·cases hhe
       ·cases hb
      ·cases k
     ·cases h
    ·cases h
   ·cases h
  ·cases h
 ·cases h
include htm hG in
theorem opDe_mono {T : Tys} {kb : Nat} {o : Op} {ty : TypeId} {d : De} (h : opDe T kb o ty tm G = some d) : opDe T kb o ty tm' G' = some d := by
 have ev : ∀ {x : Operand} {y : AV}, opv tm x = some y → opv tm' x = some y := fun hx => opv_mono htm hx
 unfold opDe at h ⊢
 split at h
 ·exact bareDe_mono (fun _ => ev) h
 ·rename_i x
  cases hx : opv tm x with
  | none => rw [hx] at h; cases h
  | some y =>
   rw [hx] at h
   rw [ev hx]
   exact h
 ·rename_i c x y
  split at h
  ·rename_i b hb
   simp only [ev hb]
   cases b with
   | true => exact bareDe_mono (fun _ => ev) h
   | false => exact bareDe_mono (fun _ => ev) h
  ·cases h
 ·exact h
 ·split at h
  ·rename_i ti x' ht hx
   simp only [ht, ev hx]; exact h
  ·cases h
 ·split at h
  ·rename_i ti ps ht hp
   simp only [ht, partsOf_mono htm _ _ hp]; exact h
  ·cases h
 ·split at h
  ·rename_i ti ps ht hp
   simp only [ht, partsOf_mono htm _ _ hp]; exact doBuildSlice_mono hG h
  ·cases h
 ·split at h
  ·rename_i ti x' ht hx
   simp only [ht, ev hx]; exact bareDe_mono (fun _ => doLoad_mono hG) h
  ·cases h
 ·split at h
  ·rename_i ti x' y' ht hx hy
   simp only [ht, ev hx, ev hy]
   split at h
   ·exact doStore_mono hG h
   ·cases h
  ·cases h
 ·split at h
  ·rename_i x' hx
   simp only [ev hx]; exact h
  ·cases h
 ·split at h
  ·rename_i ti x' y' ht hx hy
   simp only [ht, ev hx, ev hy]; exact h
  ·cases h
 ·split at h
  ·rename_i x' hx
   simp only [ev hx]; exact h
  ·cases h
 ·split at h
  ·rename_i s d' x' hs hd hx
   simp only [hs, hd, ev hx]
   refine bareDe_mono (fun z hz => ?_) h
   cases hc : aConv T G s d' x' with
   | some y => rw [hc] at hz; rw [aConv_mono hG hc]; exact hz
   | none =>
    rw [hc, orO_none] at hz
    rw [aConv_slice (aBytes_dst hz), orO_none]; exact hz
  ·cases h
 ·split at h
  ·rename_i x' y' hx hy
   simp only [opvs_mono htm _ _ hx, opvs_mono htm _ _ hy]; exact h
  ·cases h
 ·split at h
  ·rename_i ti l' c' ht hl hc
   simp only [ht, ev hl, ev hc]; exact h
  ·cases h
 ·split at h
  ·split at h
   ·split at h
    ·rename_i ht hx hh hm
     simp only [ht, ev hx, ev hh, ev hm]
     exact h
    ·cases h
   ·split at h
    ·rename_i ht hx hl hh
     split at h
     ·rename_i hm
      simp only [ht, ev hx, ev hl, ev hh, ev hm]
      exact h
     ·cases h
    ·cases h
   ·cases h
  ·split at h
   ·rename_i ti x' ht hx
    simp only [ht, ev hx]
    split at h
    ·exact h
    ·split at h
     ·rename_i hlo; simp only [ev hlo]; exact h
     ·cases h
    ·split at h
     ·rename_i hlo; simp only [ev hlo]; exact h
     ·cases h
    ·split at h
     ·rename_i lo' hi' hlo hhi
      simp only [ev hlo, ev hhi]
      refine bareDe_mono (fun z hz => ?_) h
      cases hbe : aBeyond G ti x' lo' hi' with
      | none =>
       rw [hbe, orO_none] at hz
       cases hbe' : aBeyond G' ti x' lo' hi' with
       | none => rw [orO_none]; exact hz
       | some z' =>
        rw [orO_some]
        exact (aBeyond_slice hbe' hz) ▸ rfl
      | some z' =>
       rw [hbe, orO_some] at hz
       have hbe' : aBeyond G' ti x' lo' hi' = some z' := by
        unfold aBeyond at hbe ⊢
        split at hbe
        ·split at hbe
         ·split at hbe
          ·split at hbe
           ·rename_i hg
            simp only [hG _ _ _ hg]; exact hbe
           ·cases hbe
          ·cases hbe
         ·cases hbe
        ·cases hbe
       rw [hbe', orO_some]; exact hz
     ·cases h
   ·cases h
 ·split at h
  ·rename_i ti x' ht hx
   simp only [ht, ev hx]; exact h
  ·cases h
 ·split at h
  ·rename_i ti x' ht hx
   simp only [ht, ev hx]; exact h
  ·cases h
 ·split at h
  ·rename_i ti x' y' ht hx hy
   simp only [ht, ev hx, ev hy]; exact h
  ·cases h
 ·split at h
  ·rename_i ti x' y' ht hx hy
   simp only [ht, ev hx, ev hy]; exact h
  ·cases h
 ·split at h
  ·rename_i xs hx
   simp only [ev hx]; exact h
  ·cases h
 ·split at h
  ·rename_i ti l k esz i n g ht hx
   simp only [ht, ev hx]; exact h
  ·cases h
 ·split at h
  ·rename_i ti x' ht hx
   simp only [ht, ev hx]; exact h
  ·cases h
 ·split at h
  ·split at h
   ·rename_i xs hxs
    simp only [opvs_mono htm _ _ hxs]; exact aBuiltin_mono hG h
   ·cases h
  ·cases h
 ·cases h
end
end Go.Abs
namespace Go.Abs
open Go Go.RowKit
abbrev Sets := List (Nat × Nat × Option Blk)
def said : Sets → Nat → Nat → Option (Option Blk)
 | [], _, _ => none
 | (l, k, b) :: r, l', k' => match said r l' k' with
  | some x => some x
  | none => if l = l' ∧ k = k' then some b else none
theorem get_puts (s : Sets) : ∀ (H : Heap) (l k : Nat), (H.puts s).get l k = match said s l k with
  | some b => if l < H.length then b else none
  | none => H.get l k := by
 induction s with
 | nil => intro H l k; rfl
 | cons p s ih =>
  obtain ⟨l0, k0, b⟩ := p
  intro H l k
  simp only [Heap.puts, ih, said, Heap.length_put]
  cases hs : said s l k with
  | some x => rfl
  | none =>
   simp only [Heap.get_put]
   by_cases h : l0 = l ∧ k0 = k
   ·obtain ⟨rfl, rfl⟩ := h
    simp only [and_self, true_and, if_true]
    split
    ·rfl
    ·rename_i hl
     cases hg : H.get l0 k0 with
     | none => rfl
     | some b' => exact absurd (Heap.get_lt H _ _ _ hg) hl
   ·rw [if_neg h, if_neg (fun hh => h ⟨hh.1, hh.2.1⟩)]
theorem said_append (s t : Sets) (l k : Nat) : said (s ++ t) l k = match said t l k with
  | some x => some x
  | none => said s l k := by
 induction s with
 | nil => simp only [List.nil_append, said]; cases said t l k <;> rfl
 | cons p s ih =>
  obtain ⟨l0, k0, b⟩ := p
  simp only [List.cons_append, said, ih]
  cases said t l k <;> rfl
theorem said_none {s : Sets} {l k : Nat} (h : ∀ p ∈ s, ¬ (p.1 = l ∧ p.2.1 = k)) : said s l k = none := by
 induction s with
 | nil => rfl
 | cons p s ih =>
  obtain ⟨l0, k0, b⟩ := p
  simp only [said, ih (fun q hq => h q (List.mem_cons_of_mem _ hq))]
  rw [if_neg (h _ List.mem_cons_self)]
theorem said_some {s : Sets} {l k : Nat} {x : Option Blk} (h : said s l k = some x) : ∃ p ∈ s, p.1 = l ∧ p.2.1 = k := by
 induction s with
 | nil => cases h
 | cons p s ih =>
  obtain ⟨l0, k0, b⟩ := p
  simp only [said] at h
  cases hs : said s l k with
  | some y => rw [hs] at h; cases h; obtain ⟨q, h1, h2⟩ := ih hs; exact ⟨q, List.mem_cons_of_mem _ h1, h2⟩
  | none =>
   rw [hs] at h
   simp only at h
   split at h
   ·rename_i hh; exact ⟨_, List.mem_cons_self, hh⟩
   ·cases h
def apart2 (s t : Sets) : Prop := ∀ p ∈ s, ∀ q ∈ t, ¬ (p.1 = q.1 ∧ p.2.1 = q.2.1)
theorem said_swap {s t : Sets} (h : apart2 s t) (l k : Nat) : said (s ++ t) l k = said (t ++ s) l k := by
 rw [said_append, said_append]
 cases ht : said t l k with
 | none => cases said s l k <;> rfl
 | some x =>
  cases hs : said s l k with
  | none => rfl
  | some y =>
   obtain ⟨q, h1, h2, h3⟩ := said_some ht
   obtain ⟨p, h4, h5, h6⟩ := said_some hs
   exact absurd ⟨h5.trans h2.symm, h6.trans h3.symm⟩ (h p h4 q h1)
section
variable {N0 : Nat} {W0 : World} {fm : FM} {ts : List Tie} {H H' : Heap} {w : World}
theorem HR.ext (h : HR N0 W0 fm ts H w) (hl : H'.length = H.length) (hg : ∀ l k, H'.get l k = H.get l k) : HR N0 W0 fm ts H' w :=
 ⟨h.len.trans hl.symm, fun l k b e => h.blk l k b (by rw [← hg]; exact e), fun l1 k1 l2 k2 b1 b2 c g1 g2 => h.inj l1 k1 l2 k2 b1 b2 c (by rw [← hg]; exact g1) (by rw [← hg]; exact g2), h.fms,
  fun l k b c o e => h.fmd l k b c o (by rw [← hg]; exact e), h.bel, h.size, h.oth⟩
end
end Go.Abs
namespace Go.Abs
open Go Go.RowKit
def dstOf (ops : List SOp) (j : Nat) : Option Tmp := (ops[j]?).bind (·.dst)
def effTm (ops : List SOp) (ds : List De) : List Nat → List (Nat × AV) → List (Nat × AV)
 | [], tm => tm
 | j :: L, tm => effTm ops ds L (match ds[j]? with
  | some d => putTm tm (dstOf ops j) d.val
  | none => tm)
def setsOf (ds : List De) (j : Nat) : Sets := ((ds[j]?).map (·.sets)).getD []
def effSets (ds : List De) : List Nat → Sets
 | [] => []
 | j :: L => setsOf ds j ++ effSets ds L
def OneDst (ops : List SOp) : Prop := ∀ i j t, dstOf ops i = some t → dstOf ops j = some t → i = j
theorem look_putTm (tm : List (Nat × AV)) (dst : Option Tmp) (v : AV) (t : Nat) : look (putTm tm dst v) t = if dst = some t then some v else look tm t := by
 cases dst with
 | none => simp [putTm]
 | some d => simp only [putTm, look_ins, Option.some.injEq]
theorem effTm_out (ops : List SOp) (ds : List De) (t : Nat) : ∀ (L : List Nat) (tm : List (Nat × AV)), (∀ j ∈ L, dstOf ops j ≠ some t) → look (effTm ops ds L tm) t = look tm t
 | [], tm, _ => rfl
 | j :: L, tm, h => by
  simp only [effTm]
  rw [effTm_out ops ds t L _ (fun k hk => h k (List.mem_cons_of_mem _ hk))]
  split
  ·rw [look_putTm, if_neg (h j List.mem_cons_self)]
  ·rfl
theorem effTm_in (ops : List SOp) (ds : List De) (h1 : OneDst ops) {t j : Nat} {d : De} (hj : dstOf ops j = some t) (hd : ds[j]? = some d) : ∀ (L : List Nat) (tm : List (Nat × AV)), j ∈ L → look (effTm ops ds L tm) t = some d.val
 | [], tm, h => by cases h
 | i :: L, tm, h => by
  simp only [effTm]
  by_cases hL : j ∈ L
  ·exact effTm_in ops ds h1 hj hd L _ hL
  ·have : j = i := by
    rcases List.mem_cons.1 h with h | h
    ·exact h
    ·exact absurd h hL
   subst this
   rw [effTm_out ops ds t L _ (fun k hk hkt => hL (by rw [h1 j k t hj hkt]; exact hk))]
   rw [hd]
   simp only [look_putTm, hj, if_true]
theorem said_effSets {ds : List De} {l k : Nat} (p q : Nat → Bool) (hpq : ∀ j, p j = true → q j = true) : ∀ (L : List Nat), (∀ j ∈ L, q j = true → p j = false → ∀ s ∈ setsOf ds j, ¬ (s.1 = l ∧ s.2.1 = k)) →
  said (effSets ds (L.filter p)) l k = said (effSets ds (L.filter q)) l k
 | [], _ => rfl
 | j :: L, h => by
  have ih := said_effSets p q hpq L (fun i hi => h i (List.mem_cons_of_mem _ hi))
  by_cases hp : p j = true
  ·rw [List.filter_cons_of_pos hp, List.filter_cons_of_pos (hpq j hp)]
   simp only [effSets, said_append, ih]
  ·have hpf : p j = false := by simpa using hp
   rw [List.filter_cons_of_neg hp]
   by_cases hq : q j = true
   ·rw [List.filter_cons_of_pos hq]
    simp only [effSets, said_append, ← ih]
    rw [said_none (h j List.mem_cons_self hq hpf)]
    cases said (effSets ds (L.filter p)) l k <;> rfl
   ·rw [List.filter_cons_of_neg hq]; exact ih
theorem said_insert {ds : List De} {l k i : Nat} (p : Nat → Bool) (hpi : p i = false) : ∀ (L : List Nat), L.Nodup → i ∈ L → (∀ j, p j = true → (∃ a b, L = a ++ i :: b ∧ j ∈ b) → apart2 (setsOf ds i) (setsOf ds j)) →
  said (effSets ds (L.filter fun j => p j || j == i)) l k = said (effSets ds (L.filter p) ++ setsOf ds i) l k
 | [], _, h, _ => by cases h
 | j :: L, hnd, hi, hap => by
  by_cases hji : j = i
  ·subst hji
   have hnL : j ∉ L := (List.nodup_cons.1 hnd).1
   have e1 : (j :: L).filter (fun k => p k || k == j) = j :: L.filter p := by
    rw [List.filter_cons_of_pos (by simp)]
    congr 1
    apply List.filter_congr
    intro x hx
    have : (x == j) = false := by simp; rintro rfl; exact hnL hx
    rw [this]; simp
   have e2 : (j :: L).filter p = L.filter p := by rw [List.filter_cons_of_neg (by simp [hpi])]
   rw [e1, e2]
   simp only [effSets]
   refine said_swap ?_ l k
   have : ∀ (M : List Nat), (∀ x ∈ M, x ∈ L) → apart2 (setsOf ds j) (effSets ds (M.filter p)) := by
    intro M
    induction M with
    | nil => intro _ a _ b hb; cases hb
    | cons x M ih =>
     intro hM
     by_cases hp : p x = true
     ·rw [List.filter_cons_of_pos hp]
      intro a ha b hb
      simp only [effSets, List.mem_append] at hb
      rcases hb with hb | hb
      ·exact hap x hp ⟨[], L, rfl, hM x List.mem_cons_self⟩ a ha b hb
      ·exact ih (fun y hy => hM y (List.mem_cons_of_mem _ hy)) a ha b hb
     ·rw [List.filter_cons_of_neg hp]
      exact ih (fun y hy => hM y (List.mem_cons_of_mem _ hy))
   exact this L (fun _ h => h)
  ·have hiL : i ∈ L := by
    rcases List.mem_cons.1 hi with h | h
    ·exact absurd h.symm hji
    ·exact h
   have ih := said_insert (ds := ds) (l := l) (k := k) p hpi L (List.nodup_cons.1 hnd).2 hiL (fun x hx => by
    rintro ⟨a, b, e, hb⟩
    exact hap x hx ⟨j :: a, b, by rw [e]; rfl, hb⟩)
   have hne : (j == i) = false := by simpa using hji
   by_cases hp : p j = true
   ·rw [List.filter_cons_of_pos (by simp [hp]), List.filter_cons_of_pos hp]
    simp only [effSets]
    rw [said_append, ih, List.append_assoc, said_append (setsOf ds j)]
   ·have hpf : p j = false := by simpa using hp
    rw [List.filter_cons_of_neg (by simp [hpf, hji]), List.filter_cons_of_neg hp]
    exact ih
end Go.Abs
namespace Go.Abs
open Go Go.RowKit
def idxs (n : Nat) (p : Nat → Bool) : List Nat := (List.range n).filter p
def befAt (befs : List (List Nat)) (i : Nat) : List Nat := (befs[i]?).getD []
def unord (befs : List (List Nat)) (i j : Nat) : Bool := j != i && !(befAt befs i).contains j && !(befAt befs j).contains i
def ctxTm (ops : List SOp) (befs : List (List Nat)) (ds : List De) (tm : List (Nat × AV)) (i : Nat) : List (Nat × AV) :=
 effTm ops ds (idxs ops.length fun j => (befAt befs i).contains j) (dels tm ((idxs ops.length fun j => !(befAt befs j).contains i).filterMap (dstOf ops)))
def gone (s : Sets) : Sets := s.map fun x => (x.1, x.2.1, none)
def ctxH (ops : List SOp) (befs : List (List Nat)) (ds : List De) (H : Heap) (i : Nat) : Heap :=
 (H.puts (effSets ds (idxs ops.length fun j => (befAt befs i).contains j))).puts (gone (effSets ds (idxs ops.length (unord befs i))))
inductive Eff (P : Program) (T : Tys) (kb : Nat) (o : SOp) (tm : Tm) (G : Get) (d : De) : Prop
 | op (hc : isCall o.op = none) (h : opDe T kb o.op o.type tm G = some d)
 | call (c : Call) (f : FuncId) (args fargs : List AV) (hc : isCall o.op = some c) (h : callee tm c = some (f, args)) (hp : PCall P f fargs (fun y => y = d.val)) (hz : AV.frzL G args = some fargs)
   (hr : AV.refsL args = [] ∨ d.val.scal = true) (hs : d.sets = [])
 | lent (m : Nat) (c : Call) (f : FuncId) (args fargs : List AV) (hc : isCall o.op = some c) (h : callee tm c = some (f, args)) (hp : PCall P f fargs (fun y => y = d.val)) (hz : AV.brL G (boxF G m) args = some fargs)
   (hr : d.val.scal = true) (hs : d.sets = [])
 | give (rs gs : List Nat) (c : Call) (f : FuncId) (args args0 : List AV) (fr0 fr : Fra) (y : AV) (hc : isCall o.op = some c) (h : callee tm c = some (f, args)) (hp : GCall P f args0 fr0 (fun y' fr' => y' = y ∧ fr' = fr))
   (hz : gvL gs (only (pushG G) (rs.map fun k => (1, k))) (boxF (only (pushG G) (rs.map fun k => (1, k))) 5) (AV.shL 1 args) = some args0) (hg : giveG G 0 gs = some fr0) (hnd : (decide (gs ++ rs).Nodup && decide (gs.length ≤ 16)) = true)
   (hd : d = ⟨y.imp kb, kill0 rs ++ (kill0 gs ++ impS kb fr)⟩)
def goes (o : SOp) (tm : Tm) : Prop := o.guard = none ∨ ∃ g w b, o.guard = some (g, w) ∧ tm g = some (.bool b) ∧ (b == w) = true
def stays (o : SOp) (tm : Tm) : Prop := ∃ g w, o.guard = some (g, w) ∧ ((∃ b, tm g = some (.bool b) ∧ (b == w) = false) ∨ tm g = some (.tup []))
def EffG (P : Program) (T : Tys) (kb : Nat) (o : SOp) (tm : Tm) (G : Get) (d : De) : Prop := (goes o tm ∧ Eff P T kb o tm G d) ∨ (stays o tm ∧ d = ⟨.tup [], []⟩)
theorem gone_said {s : Sets} {l k : Nat} (h : ∃ p ∈ s, p.1 = l ∧ p.2.1 = k) : said (gone s) l k = some none := by
 induction s with
 | nil => obtain ⟨p, hp, _⟩ := h; cases hp
 | cons q s ih =>
  obtain ⟨l0, k0, b⟩ := q
  simp only [gone, List.map_cons, said]
  by_cases hs : ∃ p ∈ s, p.1 = l ∧ p.2.1 = k
  ·have := ih hs
   unfold gone at this
   rw [this]
  ·obtain ⟨p, hp, h1, h2⟩ := h
   rcases List.mem_cons.1 hp with rfl | hp
   ·have hn : said (List.map (fun x => (x.1, x.2.1, none)) s) l k = none := by
     apply said_none
     intro x hx
     obtain ⟨y, hy, rfl⟩ := List.mem_map.1 hx
     exact fun hh => hs ⟨y, hy, hh⟩
    rw [hn]
    simp only
    rw [if_pos ⟨h1, h2⟩]
   ·exact absurd ⟨p, hp, h1, h2⟩ hs
theorem mem_effSets {ds : List De} {s : Nat × Nat × Option Blk} : ∀ (L : List Nat), s ∈ effSets ds L ↔ ∃ j ∈ L, s ∈ setsOf ds j
 | [] => by simp [effSets]
 | j :: L => by simp only [effSets, List.mem_append, mem_effSets L, List.mem_cons, exists_eq_or_imp]
theorem ctxH_le {ops : List SOp} {befs : List (List Nat)} {ds : List De} {H : Heap} {i : Nat} (p : Nat → Bool) (hpi : p i = false) (hB : ∀ j, (befAt befs i).contains j = true → p j = true)
  (hcl : ∀ j, p j = true → (befAt befs j).contains i = false) : GLe (Heap.get (ctxH ops befs ds H i)) (Heap.get (H.puts (effSets ds (idxs ops.length p)))) := by
 intro l k b hb
 unfold ctxH at hb
 rw [get_puts] at hb
 have hnot : ¬ ∃ s ∈ effSets ds (idxs ops.length (unord befs i)), s.1 = l ∧ s.2.1 = k := by
  intro hex
  rw [gone_said hex] at hb
  simp only at hb
  split at hb <;> cases hb
 have hn : said (gone (effSets ds (idxs ops.length (unord befs i)))) l k = none := by
  apply said_none
  intro x hx
  obtain ⟨y, hy, rfl⟩ := List.mem_map.1 hx
  exact fun hh => hnot ⟨y, hy, hh⟩
 rw [hn] at hb
 simp only at hb
 rw [get_puts] at hb ⊢
 have e : said (effSets ds (idxs ops.length fun j => (befAt befs i).contains j)) l k = said (effSets ds (idxs ops.length p)) l k := by
  refine said_effSets _ _ hB _ ?_
  intro j hj hpj hnb s hs hh
  refine hnot ⟨s, (mem_effSets _).2 ⟨j, ?_, hs⟩, hh⟩
  unfold idxs
  rw [List.mem_filter]
  refine ⟨hj, ?_⟩
  have hji : j ≠ i := by rintro rfl; rw [hpi] at hpj; cases hpj
  unfold unord
  rw [hnb, hcl j hpj]
  simp [hji]
 rw [← e]
 exact hb
end Go.Abs
namespace Go.Abs
open Go Go.RowKit
set_option linter.unusedSectionVars false
section
variable [Md]
structure DR (N0 : Nat) (W0 : World) (n : Nat) (st : St) (ops : List SOp) (ds : List De) (p : Nat → Bool) (a : Act) (w : World) (fm : FM) (ts : List Tie) : Prop where
 hr : HR N0 W0 fm ts (Heap.puts (st.fr :: st.low) (effSets ds (idxs ops.length p))) w
 tm : TmR fm ts (look (effTm ops ds (idxs ops.length p) st.tm)) a
 fre : ∀ i, i < ops.length → p i = false → ∀ k, st.nx + 16 * i ≤ k → k < st.nx + 16 * i + 16 → tb ts 0 k = none
 top : ∀ k, st.nx + 16 * ops.length ≤ k → tb ts 0 k = none
 size : a.tmps.size = n
 dfr : a.defers = Md.dfs
theorem idxs_mem {n : Nat} {p : Nat → Bool} {j : Nat} : j ∈ idxs n p ↔ j < n ∧ p j = true := by
 unfold idxs; rw [List.mem_filter, List.mem_range]
section
variable [Md] {P : Program} {T : Tys} {N0 : Nat} {W0 : World} {n : Nat} {fm : FM} {ts : List Tie} {st : St} {ops : List SOp} {befs : List (List Nat)} {ds : List De}
theorem dels_none {l : List (Nat × AV)} : ∀ (ks : List Nat) (l : List (Nat × AV)) (t : Nat), t ∈ ks → look (dels l ks) t = none
 | [], _, _, h => by cases h
 | k :: ks, l, t, h => by
  simp only [dels]
  by_cases ht : t ∈ ks
  ·exact dels_none (l := l) ks _ t ht
  ·have hk : t = k := by
    rcases List.mem_cons.1 h with h | h
    ·exact h
    ·exact absurd h ht
   subst hk
   cases hl : look (dels (del l t) ks) t with
   | none => rfl
   | some x =>
    have := look_dels ks _ t x hl
    rw [look_del, if_pos rfl] at this
    cases this
theorem ctxTm_le {p : Nat → Bool} {i : Nat} (h1 : OneDst ops) (hds : ∀ j, j < ops.length → ∃ d, ds[j]? = some d) (hB : ∀ j, (befAt befs i).contains j = true → p j = true) (hcl : ∀ j, p j = true → (befAt befs j).contains i = false) :
  TmLe (look (ctxTm ops befs ds st.tm i)) (look (effTm ops ds (idxs ops.length p) st.tm)) := by
 intro t x hx
 unfold ctxTm at hx
 by_cases hex : ∃ j, dstOf ops j = some t
 ·obtain ⟨j, hj⟩ := hex
  have hjl : j < ops.length := by
   unfold dstOf at hj
   cases ho : ops[j]? with
   | none => rw [ho] at hj; cases hj
   | some o => exact (List.getElem?_eq_some_iff.1 ho).1
  obtain ⟨dj, hdj⟩ := hds j hjl
  have hno : ∀ q : Nat → Bool, q j = false → ∀ k ∈ idxs ops.length q, dstOf ops k ≠ some t := by
   intro q hq k hk hkt
   have := h1 j k t hj hkt
   subst this
   rw [(idxs_mem.1 hk).2] at hq; cases hq
  by_cases hb : (befAt befs i).contains j = true
  ·rw [effTm_in ops ds h1 hj hdj _ _ (idxs_mem.2 ⟨hjl, hb⟩)] at hx
   rw [effTm_in ops ds h1 hj hdj _ _ (idxs_mem.2 ⟨hjl, hB j hb⟩)]
   exact hx
  ·rw [effTm_out ops ds t _ _ (hno _ (by simpa using hb))] at hx
   by_cases ha : (befAt befs j).contains i = true
   ·have hpj : p j = false := by
     cases hp : p j with
     | false => rfl
     | true => have := hcl j hp; rw [ha] at this; cases this
    rw [effTm_out ops ds t _ _ (hno _ hpj)]
    exact look_dels _ _ _ _ hx
   ·rw [dels_none (l := st.tm)] at hx
    ·cases hx
    ·exact List.mem_filterMap.2 ⟨j, idxs_mem.2 ⟨hjl, by simpa using ha⟩, hj⟩
 ·have hno : ∀ (L : List Nat), ∀ j ∈ L, dstOf ops j ≠ some t := fun L j _ hj => hex ⟨j, hj⟩
  rw [effTm_out ops ds t _ _ (hno _)] at hx ⊢
  exact look_dels _ _ _ _ hx
theorem DR.step {p : Nat → Bool} {a : Act} {w : World} (h : DR N0 W0 n st ops ds p a w fm ts) {i : Nat} (hi : i < ops.length) (hpi : p i = false) {d : De} (hd : ds[i]? = some d) {r : Result Next} {fm' : FM} {ts' : List Tie} {w' : World} {v : Value}
  (o : Out N0 W0 fm ts (Heap.puts (st.fr :: st.low) (effSets ds (idxs ops.length p))) w (st.nx + 16 * i) r d fm' ts' w' v) (h1 : OneDst ops) (hds : ∀ j, j < ops.length → ∃ d, ds[j]? = some d)
  (hap : ∀ j, p j = true → i < j → apart2 (setsOf ds i) (setsOf ds j)) (hfit : ∀ d, dstOf ops i = some d → d < n) :
  DR N0 W0 n st ops ds (fun j => p j || j == i) (a.put (dstOf ops i) v) w' fm' ts' ∧ Later N0 fm ts fm' ts' := by
 refine ⟨⟨?_, ?_, ?_, ?_, by rw [put_size]; exact h.size, by rw [put_dfr]; exact h.dfr⟩, ⟨o.fle, o.tle.drop 1, ?_⟩⟩
 ·refine o.hr.ext (by simp) ?_
  intro l k
  have hs : setsOf ds i = d.sets := by simp [setsOf, hd]
  rw [← Heap.puts_append, ← hs, get_puts, get_puts]
  have := said_insert (ds := ds) (l := l) (k := k) (i := i) p hpi (List.range ops.length) List.nodup_range (List.mem_range.2 hi) (by
   rintro j hj ⟨x, y, hxy, hjy⟩
   refine hap j hj ?_
   have hsorted : (List.range ops.length).Pairwise (· < ·) := List.pairwise_lt_range
   rw [hxy] at hsorted
   have := (List.pairwise_append.1 hsorted).2.1
   exact (List.pairwise_cons.1 this).1 j hjy)
  unfold idxs
  rw [this]
 ·intro t x hx
  by_cases ht : dstOf ops i = some t
  ·have hin : i ∈ idxs ops.length (fun j => p j || j == i) := idxs_mem.2 ⟨hi, by simp⟩
   rw [effTm_in ops ds h1 ht hd _ _ hin] at hx
   obtain rfl := Option.some.inj hx
   have hlt := hfit t ht
   rw [← h.size] at hlt
   exact ⟨v, by rw [ht]; simp [Act.put, hlt], o.val⟩
  ·have hx' : look (effTm ops ds (idxs ops.length p) st.tm) t = some x := by
    by_cases hex : ∃ j, dstOf ops j = some t
    ·obtain ⟨j, hj⟩ := hex
     have hji : j ≠ i := fun e => ht (by rw [← e]; exact hj)
     have hjl : j < ops.length := by
      unfold dstOf at hj
      cases ho : ops[j]? with
      | none => rw [ho] at hj; cases hj
      | some o => exact (List.getElem?_eq_some_iff.1 ho).1
     obtain ⟨dj, hdj⟩ := hds j hjl
     by_cases hpj : p j = true
     ·rw [effTm_in ops ds h1 hj hdj _ _ (idxs_mem.2 ⟨hjl, by simp [hpj]⟩)] at hx
      rw [effTm_in ops ds h1 hj hdj _ _ (idxs_mem.2 ⟨hjl, hpj⟩)]
      exact hx
     ·have hno : ∀ q : Nat → Bool, q j = false → ∀ k ∈ idxs ops.length q, dstOf ops k ≠ some t := by
       intro q hq k hk hkt
       have := h1 j k t hj hkt
       subst this
       rw [(idxs_mem.1 hk).2] at hq; cases hq
      rw [effTm_out ops ds t _ _ (hno _ (by simp [hpj, hji]))] at hx
      rw [effTm_out ops ds t _ _ (hno _ (by simpa using hpj))]
      exact hx
    ·have hno : ∀ (L : List Nat), ∀ j ∈ L, dstOf ops j ≠ some t := fun L j _ hj => hex ⟨j, hj⟩
     rw [effTm_out ops ds t _ _ (hno _)] at hx ⊢
     exact hx
   obtain ⟨u, h2, h3⟩ := h.tm t x hx'
   refine ⟨u, ?_, h3.mono o.fle.le o.tle⟩
   cases hdst : dstOf ops i with
   | none => exact h2
   | some dd =>
    simp only [Act.put]
    rw [Array.getElem?_setIfInBounds_ne (fun e => ht (by rw [hdst, e]))]
    exact h2
 ·intro j hj hpj k hk1 hk2
  simp only [Bool.or_eq_false_iff, beq_eq_false_iff_ne, ne_eq] at hpj
  refine o.free 0 k ?_ (h.fre j hj hpj.1 k hk1 hk2)
  rcases Nat.lt_or_gt_of_ne hpj.2 with hlt | hgt
  ·exact .inr (.inl (by omega))
  ·exact .inr (.inr (by omega))
 ·intro k hk
  refine o.free 0 k (.inr (.inr ?_)) (h.top k hk)
  have : st.nx + 16 * i + 16 ≤ st.nx + 16 * ops.length := by omega
  omega
 ·intro l k hn
  rw [tb_drop] at hn ⊢
  exact o.free (l + 1) k (by omega) hn
end
end
end Go.Abs
namespace Go.Abs
open Go Go.RowKit
set_option linter.unusedSectionVars false
section
variable [Md] {P : Program} {T : Tys} {N0 : Nat} {W0 : World} {n : Nat} {fm : FM} {ts : List Tie} {st : St} {ops : List SOp} {befs : List (List Nat)} {ds : List De}
theorem callee_mono {tm tm' : Tm} (h : TmLe tm tm') {c : Call} {x : FuncId × List AV} (e : callee tm c = some x) : callee tm' c = some x := by
 unfold callee at e ⊢
 split at e
 ·split at e
  ·rename_i hf hx
   simp only [opv_mono h hf, opvs_mono h _ _ hx]; exact e
  ·cases e
 ·cases e
theorem HR.frzL_get {H : Heap} {w : World} (h : HR N0 W0 fm ts H w) {cs ys : List AV} {vs : List Value} (hv : VRs fm ts cs vs) (e : AV.frzL H.get cs = some ys) :
  VRs (fmPlus fm w (behind ts H (AV.refsL cs))) [] ys vs := h.frzL _ hv e (fun _ h => h)
theorem DR.oper (hT : TysOK P T) {p : Nat → Bool} {a : Act} {w : World} (h : DR N0 W0 n st ops ds p a w fm ts) {i : Nat} (hi : i < ops.length) (hpi : p i = false) {d : De} (hd : ds[i]? = some d) {s : SOp} (hs : ops[i]? = some s)
  (he : Eff P T (st.nx + 16 * i) s (look (ctxTm ops befs ds st.tm i)) (Heap.get (ctxH ops befs ds (st.fr :: st.low) i)) d) (h1 : OneDst ops) (hds : ∀ j, j < ops.length → ∃ d, ds[j]? = some d)
  (hB : ∀ j, (befAt befs i).contains j = true → p j = true) (hcl : ∀ j, p j = true → (befAt befs j).contains i = false)
  (hap : ∀ j, p j = true → i < j → apart2 (setsOf ds i) (setsOf ds j)) (hfit : ∀ d, dstOf ops i = some d → d < n)
  {o : Oper} (hop : s.op = o.op) (hty : s.type = o.type) (hdst : s.dst = o.dst) {K : Act → World → Prop} {Q : Exit → Act → World → Prop}
  (hK : ∀ v w' fm' ts', DR N0 W0 n st ops ds (fun j => p j || j == i) (a.put o.dst v) w' fm' ts' → Later N0 fm ts fm' ts' → K (a.put o.dst v) w') : o.wpIn FW 0 P a w K Q := by
 have hdo : dstOf ops i = o.dst := by simp [dstOf, hs, hdst]
 have hG := ctxH_le (ops := ops) (ds := ds) (H := st.fr :: st.low) p hpi hB hcl
 have hTm : TmLe (look (ctxTm ops befs ds st.tm i)) (look (effTm ops ds (idxs ops.length p) st.tm)) := by
  exact ctxTm_le h1 hds hB hcl
 have step : ∀ {r v w' fm' ts'}, Out N0 W0 fm ts (Heap.puts (st.fr :: st.low) (effSets ds (idxs ops.length p))) w (st.nx + 16 * i) r d fm' ts' w' v → K (a.put o.dst v) w' := by
  intro r v w' fm' ts' ho
  obtain ⟨h2, h3⟩ := h.step hi hpi hd ho h1 hds hap hfit
  rw [hdo] at h2
  exact hK v w' fm' ts' h2 h3
 cases he with
 | op hc hde =>
  have hde' := opDe_mono hTm hG hde
  rw [hop, hty] at hde'
  obtain ⟨fm', ts', w', v, ho⟩ := opDe_sound (P := P) hT h.hr (by simp) (h.fre i hi hpi) h.tm hde'
  have hk := step ho
  have hnd : ∀ c, o.op ≠ .defer c := fun c0 h0 => by rw [h0] at hde'; simp [opDe] at hde'
  rcases ho.done with hr | ⟨hr, rfl⟩
  ·exact opwp_value hnd hr hk
  ·exact opwp_skip hnd hr hk
 | call c f args fargs hc hcal hp hz hr hsets =>
  have hcal' := callee_mono hTm hcal
  have hz' := frzL_mono hG _ _ hz
  unfold isCall at hc
  split at hc
  ·rename_i c' hoc
   split at hc
   ·cases hc
   ·obtain rfl := Option.some.inj hc
    unfold callee at hcal'
    split at hcal'
    ·rename_i g hcf
     split at hcal'
     ·rename_i g' first cap xs hof hxs
      simp only [Option.some.injEq, Prod.mk.injEq] at hcal'
      obtain ⟨rfl, rfl⟩ := hcal'
      have hvf := opv_sound h.tm hof
      have hvx := opvs_sound h.tm _ _ hxs
      obtain ⟨vf, vc, hev, hl1, hl2, hp1, hp2⟩ : ∃ vf vc, a.eval g = .func (.func g') vf vc ∧ first.length = vf.size ∧ cap.length = vc.size ∧ (∀ (i : Nat) x v, first[i]? = some x → vf[i]? = some v → VR fm ts x v) ∧ (∀ (i : Nat) x v, cap[i]? = some x → vc[i]? = some v → VR fm ts x v) := by
       generalize a.eval g = z at hvf
       cases hvf with
       | fn _ _ _ vf vc h1 h2 h3 h4 => exact ⟨vf, vc, rfl, h1, h2, h3, h4⟩
      have hargs : VRs fm ts (first ++ (xs ++ cap)) (vf.toList ++ (c'.args.toList.map a.eval ++ vc.toList)) :=
       VRs.append ⟨by simpa using hl1, fun i x v p q => hp1 i x v p (by simpa using q)⟩ (VRs.append hvx ⟨by simpa using hl2, fun i x v p q => hp2 i x v p (by simpa using q)⟩)
      obtain ⟨⟨fn, hfn, hnm, hbd⟩, hpc⟩ := hp
      have hoc' : o.op = .call c' := by rw [← hop]; exact hoc
      have hrun : (execOp a.eval o).run P w = .ok (.enter g' ((vf.toList ++ (c'.args.toList.map a.eval ++ vc.toList)).toArray)) w := by
       have e1 : vf ++ Array.map a.eval c'.args ++ vc = (vf.toList ++ (c'.args.toList.map a.eval ++ vc.toList)).toArray := by
        apply Array.toList_inj.1; simp
       simp only [execOp, hoc', resolve, hcf, Sem.run_bind, Deferred.ofValue, hev, Sem.run_pure, Result.andThen_ok, invoke, callFunc, run_program, hfn, hnm, hbd, Bool.false_eq_true, if_false, e1]
      have hfz := h.hr.frzL_get hargs hz'
      have hin := (h.hr.letGo (AV.refsL (first ++ (xs ++ cap)))).fms
      refine opwp_enter (fun c0 h0 => by rw [hoc'] at h0; cases h0) hrun ?_
      refine Calls.mono (hpc _ w _ hin hfz) ?_
      rintro e w' ⟨v, y, fm', rfl, rfl, hin', hvr, hup, hb⟩
      refine step (r := .ok (.value v) w') (fm' := if AV.refsL (first ++ (xs ++ cap)) = [] then fm' else fm) (ts' := ts) ?_
      by_cases hrf : AV.refsL (first ++ (xs ++ cap)) = []
      ·rw [if_pos hrf]
       rw [hrf, fmPlus_nil] at hup
       refine ⟨.inl rfl, ?_, hvr.mono (FmLe.refl _) (TsLe.nil _), hup.low h.hr.size, TsLe.refl _, fun _ _ _ h => h⟩
       rw [hsets]
       exact h.hr.up hb hup hin'
      ·rw [if_neg hrf]
       have hsc : d.val.scal = true := by
        rcases hr with hr | hr
        ·exact absurd hr hrf
        ·exact hr
       refine ⟨.inl rfl, ?_, hvr.scal hsc, FmUp.refl _ _, TsLe.refl _, fun _ _ _ h => h⟩
       rw [hsets]
       exact h.hr.world (fun i hi => hb.block i hi) (hb.mono h.hr.size)
     ·cases hcal'
    ·cases hcal'
  ·cases hc
 | lent m c f args fargs hc hcal hp hz hr hsets =>
  have hcal' := callee_mono hTm hcal
  have hz' := (br_mono hG (boxF_mono hG (fun _ _ _ _ _ _ _ hh => frz_mono hG _ _ hh) m) (fun _ _ _ _ _ _ _ hh => frz_mono hG _ _ hh)).2 _ _ hz
  unfold isCall at hc
  split at hc
  ·rename_i c' hoc
   split at hc
   ·cases hc
   ·obtain rfl := Option.some.inj hc
    unfold callee at hcal'
    split at hcal'
    ·rename_i g hcf
     split at hcal'
     ·rename_i g' first cap xs hof hxs
      simp only [Option.some.injEq, Prod.mk.injEq] at hcal'
      obtain ⟨rfl, rfl⟩ := hcal'
      have hvf := opv_sound h.tm hof
      have hvx := opvs_sound h.tm _ _ hxs
      obtain ⟨vf, vc, hev, hl1, hl2, hp1, hp2⟩ : ∃ vf vc, a.eval g = .func (.func g') vf vc ∧ first.length = vf.size ∧ cap.length = vc.size ∧ (∀ (i : Nat) x v, first[i]? = some x → vf[i]? = some v → VR fm ts x v) ∧ (∀ (i : Nat) x v, cap[i]? = some x → vc[i]? = some v → VR fm ts x v) := by
       generalize a.eval g = z at hvf
       cases hvf with
       | fn _ _ _ vf vc h1 h2 h3 h4 => exact ⟨vf, vc, rfl, h1, h2, h3, h4⟩
      have hargs : VRs fm ts (first ++ (xs ++ cap)) (vf.toList ++ (c'.args.toList.map a.eval ++ vc.toList)) :=
       VRs.append ⟨by simpa using hl1, fun i x v p q => hp1 i x v p (by simpa using q)⟩ (VRs.append hvx ⟨by simpa using hl2, fun i x v p q => hp2 i x v p (by simpa using q)⟩)
      obtain ⟨⟨fn, hfn, hnm, hbd⟩, hpc⟩ := hp
      have hoc' : o.op = .call c' := by rw [← hop]; exact hoc
      have hrun : (execOp a.eval o).run P w = .ok (.enter g' ((vf.toList ++ (c'.args.toList.map a.eval ++ vc.toList)).toArray)) w := by
       have e1 : vf ++ Array.map a.eval c'.args ++ vc = (vf.toList ++ (c'.args.toList.map a.eval ++ vc.toList)).toArray := by
        apply Array.toList_inj.1; simp
       simp only [execOp, hoc', resolve, hcf, Sem.run_bind, Deferred.ofValue, hev, Sem.run_pure, Result.andThen_ok, invoke, callFunc, run_program, hfn, hnm, hbd, Bool.false_eq_true, if_false, e1]
      have hfz := h.hr.brs _ (h.hr.boxF m) hargs hz'
      refine opwp_enter (fun c0 h0 => by rw [hoc'] at h0; cases h0) hrun ?_
      refine Calls.mono (hpc (fmAll w) w _ (fun b o v h => h) hfz) ?_
      rintro e w' ⟨v, y, fm', rfl, rfl, hin', hvr, hup, hb⟩
      refine step (r := .ok (.value v) w') (fm' := fm) (ts' := ts) ?_
      refine ⟨.inl rfl, ?_, hvr.scal hr, FmUp.refl _ _, TsLe.refl _, fun _ _ _ h => h⟩
      rw [hsets]
      exact h.hr.world (fun i hi => hb.block i hi) (hb.mono h.hr.size)
     ·cases hcal'
    ·cases hcal'
  ·cases hc
 | give rs gs c f args args0 fr0 fr y hc hcal hp hz hg hnd hd0 =>
  have hcal' := callee_mono hTm hcal
  unfold isCall at hc
  split at hc
  ·rename_i c' hoc
   split at hc
   ·cases hc
   ·obtain rfl := Option.some.inj hc
    unfold callee at hcal'
    split at hcal'
    ·rename_i g hcf
     split at hcal'
     ·rename_i g' first cap xs hof hxs
      simp only [Option.some.injEq, Prod.mk.injEq] at hcal'
      obtain ⟨rfl, rfl⟩ := hcal'
      have hvf := opv_sound h.tm hof
      have hvx := opvs_sound h.tm _ _ hxs
      obtain ⟨vf, vc, hev, hl1, hl2, hp1, hp2⟩ : ∃ vf vc, a.eval g = .func (.func g') vf vc ∧ first.length = vf.size ∧ cap.length = vc.size ∧ (∀ (i : Nat) x v, first[i]? = some x → vf[i]? = some v → VR fm ts x v) ∧ (∀ (i : Nat) x v, cap[i]? = some x → vc[i]? = some v → VR fm ts x v) := by
       generalize a.eval g = z at hvf
       cases hvf with
       | fn _ _ _ vf vc h1 h2 h3 h4 => exact ⟨vf, vc, rfl, h1, h2, h3, h4⟩
      have hargs : VRs fm ts (first ++ (xs ++ cap)) (vf.toList ++ (c'.args.toList.map a.eval ++ vc.toList)) :=
       VRs.append ⟨by simpa using hl1, fun i x v p q => hp1 i x v p (by simpa using q)⟩ (VRs.append hvx ⟨by simpa using hl2, fun i x v p q => hp2 i x v p (by simpa using q)⟩)
      obtain ⟨⟨fn, hfn, hnm, hbd⟩, hpc⟩ := hp
      have hoc' : o.op = .call c' := by rw [← hop]; exact hoc
      have hrun : (execOp a.eval o).run P w = .ok (.enter g' ((vf.toList ++ (c'.args.toList.map a.eval ++ vc.toList)).toArray)) w := by
       have e1 : vf ++ Array.map a.eval c'.args ++ vc = (vf.toList ++ (c'.args.toList.map a.eval ++ vc.toList)).toArray := by
        apply Array.toList_inj.1; simp
       simp only [execOp, hoc', resolve, hcf, Sem.run_bind, Deferred.ofValue, hev, Sem.run_pure, Result.andThen_ok, invoke, callFunc, run_program, hfn, hnm, hbd, Bool.false_eq_true, if_false, e1]
      obtain ⟨f1, H1, hH⟩ := puts_cons st.fr st.low (effSets ds (idxs ops.length p))
      have hnd' := hnd
      simp only [Bool.and_eq_true, decide_eq_true_eq] at hnd
      have hGH : ∀ l k b, Heap.get (ctxH ops befs ds (st.fr :: st.low) i) l k = some b → Heap.get (f1 :: H1) l k = some b := by
       rw [← hH]; exact hG
      have hGp : ∀ l k b, only (pushG (Heap.get (ctxH ops befs ds (st.fr :: st.low) i))) (rs.map fun k => (1, k)) l k = some b → only (Heap.get ([] :: f1 :: H1)) (rs.map fun k => (1, k)) l k = some b := by
       intro l k b e
       unfold only at e ⊢
       split at e
       ·rename_i hm
        rw [if_pos hm]
        cases l with
        | zero => simp [pushG] at e
        | succ l => simpa [Heap.get] using hGH l k b (by simpa [pushG] using e)
       ·cases e
      have hloc : ∀ (l k e i0 n g : Nat) (y : AV), (AV.loc l k e i0 n g).frz (only (pushG (Heap.get (ctxH ops befs ds (st.fr :: st.low) i))) (rs.map fun k => (1, k))) = some y → (AV.loc l k e i0 n g).frz (only (Heap.get ([] :: f1 :: H1)) (rs.map fun k => (1, k))) = some y :=
       fun _ _ _ _ _ _ _ hh => frz_mono hGp _ _ hh
      have hz' := gvL_mono (gs := gs) (br_mono hGp (boxF_mono hGp hloc 5) hloc).1 _ _ hz
      have hg1 := giveG_mono hGH gs 0 fr0 hg
      have hg' := giveG_fr f1 H1 rs gs 0 fr0 hg1 (by
       intro k hk hk'
       exact (List.nodup_append.1 hnd.1).2.2 k hk k hk' rfl)
      have ha := GCall.used (H := H1) 5 rs gs ⟨⟨fn, hfn, hnm, hbd⟩, hpc⟩ hz' hg' (by
       simp only [Bool.and_eq_true, decide_eq_true_eq]
       exact ⟨(List.nodup_append.1 hnd.1).1, hnd.2⟩)
      have hr0 := h.hr
      rw [hH] at hr0
      have hargs' : VRs fm (noTie :: ts) (AV.shL 1 (first ++ (xs ++ cap))) (vf.toList ++ (c'.args.toList.map a.eval ++ vc.toList)) := by
       refine ⟨by rw [shL_length]; exact hargs.1, ?_⟩
       intro i x v hx hv
       rw [shL_get, Option.map_eq_some_iff] at hx
       obtain ⟨y, hy, rfl⟩ := hx
       exact (hargs.2 i y v hy hv).sh 1 (by simp)
      refine opwp_enter (fun c0 h0 => by rw [hoc'] at h0; cases h0) hrun ?_
      refine Calls.mono (ha.2 N0 W0 fm ts w _ hr0 hargs') ?_
      rintro e w' ⟨v, av, fr', H'', fm', t', ts', rfl, ⟨⟨rfl, rfl⟩, rfl⟩, _, hhr, hvr, hup, htl, hno, h16⟩
      cases ts' with
      | nil => have := hhr.len; simp at this
      | cons hh rest =>
       have hwin : ∀ k x, hh k = some x → ¬ (st.nx + 16 * i ≤ k ∧ k < st.nx + 16 * i + 16) := by
        rintro k x hx ⟨h1, h2⟩
        have := hno 0 k (h.fre i hi hpi k h1 h2)
        simp only [tb] at this
        rw [this] at hx; cases hx
       have j1 : ∀ k x, t' k = some x → tjoinW (st.nx + 16 * i) t' hh (st.nx + 16 * i + k) = some x := by
        intro k x hx
        have hlt : k < 16 := by
         rcases Nat.lt_or_ge k 16 with hk | hk
         ·exact hk
         ·rw [h16 k hk] at hx; cases hx
        unfold tjoinW
        rw [if_pos ⟨by omega, by omega⟩]
        simpa using hx
       have j2 : ∀ k x, hh k = some x → tjoinW (st.nx + 16 * i) t' hh k = some x := by
        intro k x hx
        unfold tjoinW
        rw [if_neg (hwin k x hx)]; exact hx
       have hJ : ∀ l k x, tb (t' :: hh :: rest) l k = some x → tb (tjoinW (st.nx + 16 * i) t' hh :: rest) (l - 1) (if l = 0 then st.nx + 16 * i + k else k) = some x := by
        intro l k x e
        cases l with
        | zero => simpa [tb] using j1 k x (by simpa [tb] using e)
        | succ l =>
         cases l with
         | zero => simpa [tb] using j2 k x (by simpa [tb] using e)
         | succ l => simpa [tb] using e
       have hTT : TsLe (hh :: rest) (tjoinW (st.nx + 16 * i) t' hh :: rest) := by
        intro l k
        cases l with
        | zero =>
         simp only [tb]
         cases hx : hh k with
         | none => trivial
         | some x => rw [j2 k x hx]; exact TbLe.refl _
        | succ l => exact TbLe.refl _
       refine step (r := .ok (.value v) w') (fm' := fm') (ts' := tjoinW (st.nx + 16 * i) t' hh :: rest) ?_
       subst hd0
       refine ⟨.inl rfl, ?_, hvr.impJ hJ rfl, hup, htl.trans hTT, ?_⟩
       ·rw [hH]
        simp only [Heap.puts_append, puts_kill0, puts_impS]
        exact hhr.impJ j1 j2
       ·intro l k hlk hn
        cases l with
        | zero =>
         have hk : ¬ (st.nx + 16 * i ≤ k ∧ k < st.nx + 16 * i + 16) := by omega
         simp only [tb, tjoinW, if_neg hk]
         have := hno 0 k hn
         simpa [tb] using this
        | succ l =>
         have := hno (l + 1) k hn
         simpa [tb] using this
     ·cases hcal'
    ·cases hcal'
  ·cases hc
end
end Go.Abs
namespace Go.Abs
open Go Go.RowKit
set_option linter.unusedSectionVars false
theorem mem_joinN : ∀ (l acc : List Nat) (x : Nat), x ∈ joinN acc l ↔ x ∈ acc ∨ x ∈ l
 | [], acc, x => by simp [joinN]
 | y :: l, acc, x => by
  simp only [joinN, mem_joinN l, List.mem_cons]
  by_cases h : acc.contains y = true
  ·rw [if_pos h]
   have : y ∈ acc := by simpa using h
   constructor
   ·rintro (h | h)
    ·exact .inl h
    ·exact .inr (.inr h)
   ·rintro (h | rfl | h)
    ·exact .inl h
    ·exact .inl this
    ·exact .inr h
  ·rw [if_neg h]
   simp only [List.mem_append, List.mem_singleton, or_assoc]
theorem mem_befOf (b : List (List Nat)) (x : Nat) : ∀ (l : List Edge) (acc : List Nat), x ∈ befOf b acc l ↔ x ∈ acc ∨ ∃ e ∈ l, Region.binds .any e = true ∧ (x = e.on ∨ x ∈ (b[e.on]?).getD [])
 | [], acc => by simp [befOf]
 | e :: l, acc => by
  simp only [befOf, mem_befOf b x l, List.mem_cons]
  by_cases hb : Region.binds .any e = true
  ·rw [if_pos hb]
   simp only [mem_joinN, List.mem_singleton]
   constructor
   ·rintro ((h | h) | ⟨f, hf, h⟩)
    ·rcases h with h | h
     ·exact .inl h
     ·exact .inr ⟨e, .inl rfl, hb, .inr h⟩
    ·exact .inr ⟨e, .inl rfl, hb, .inl h⟩
    ·exact .inr ⟨f, .inr hf, h⟩
   ·rintro (h | ⟨f, rfl | hf, hbf, h⟩)
    ·exact .inl (.inl (.inl h))
    ·rcases h with h | h
     ·exact .inl (.inr h)
     ·exact .inl (.inl (.inr h))
    ·exact .inr ⟨f, hf, hbf, h⟩
  ·rw [if_neg hb]
   constructor
   ·rintro (h | ⟨f, hf, h⟩)
    ·exact .inl h
    ·exact .inr ⟨f, .inr hf, h⟩
   ·rintro (h | ⟨f, rfl | hf, hbf, h⟩)
    ·exact .inl h
    ·exact absurd hbf hb
    ·exact .inr ⟨f, hf, hbf, h⟩
theorem befsOf_old : ∀ (l : List Oper) (b : List (List Nat)) (i : Nat), i < b.length → (befsOf b l)[i]? = b[i]?
 | [], b, i, h => rfl
 | o :: l, b, i, h => by
  simp only [befsOf]
  rw [befsOf_old l _ i (by simp; omega), List.getElem?_append_left h]
theorem befsOf_get : ∀ (l : List Oper) (b : List (List Nat)) (i : Nat) (o : Oper), l[i]? = some o →
  ∃ b', (befsOf b l)[b.length + i]? = some (befOf b' [] o.after.toList) ∧ b'.length = b.length + i ∧ ∀ j, j < b'.length → b'[j]? = (befsOf b l)[j]?
 | [], b, i, o, h => by simp at h
 | o' :: l, b, 0, o, h => by
  simp only [List.getElem?_cons_zero, Option.some.injEq] at h; subst h
  refine ⟨b, ?_, by simp, ?_⟩
  ·simp only [befsOf, Nat.add_zero]
   rw [befsOf_old l _ _ (by simp)]
   simp
  ·intro j hj
   simp only [befsOf]
   rw [befsOf_old l _ j (by simp; omega), List.getElem?_append_left hj]
 | o' :: l, b, i + 1, o, h => by
  simp only [List.getElem?_cons_succ] at h
  obtain ⟨b', h1, h2, h3⟩ := befsOf_get l (b ++ [befOf b [] o'.after.toList]) i o h
  refine ⟨b', ?_, by simp at h2; omega, h3⟩
  simp only [befsOf]
  rw [← h1]
  congr 1
  simp; omega
end Go.Abs
namespace Go.Abs
open Go Go.RowKit
set_option linter.unusedSectionVars false
def St.drawn (st : St) (ops : List SOp) (ds : List De) (drop : List Nat) : St :=
 St.withHeap { st with tm := dels (effTm ops ds (List.range ops.length) st.tm) drop, nx := st.nx + 16 * ops.length } (Heap.puts (st.fr :: st.low) (effSets ds (List.range ops.length)))
section
variable [Md] {P : Program} {T : Tys} {N0 : Nat} {W0 : World} {n : Nat} {fm : FM} {ts : List Tie} {st : St} {ops : List SOp} {befs : List (List Nat)} {ds : List De} {Φ : Exit → St → Prop}
theorem idxs_all {n : Nat} {p : Nat → Bool} (h : ∀ j, j < n → p j = true) : idxs n p = List.range n := by
 unfold idxs
 rw [List.filter_eq_self]
 intro j hj
 exact h j (List.mem_range.1 hj)
theorem DR.all {p : Nat → Bool} {a : Act} {w : World} (h : DR N0 W0 n st ops ds p a w fm ts) (hp : ∀ j, j < ops.length → p j = true) (drop : List Nat) : SR N0 W0 n (st.drawn ops ds drop) a w fm ts := by
 have e := idxs_all hp
 have h1 := h.hr
 have h2 := h.tm
 rw [e] at h1 h2
 obtain ⟨f', H', hp'⟩ := puts_cons st.fr st.low (effSets ds (List.range ops.length))
 unfold St.drawn
 rw [hp'] at h1 ⊢
 refine ⟨h1, ?_, h.top, h.size, h.dfr⟩
 intro t x hx
 exact h2 t x (look_dels drop _ t x hx)
theorem DR.none {a : Act} {w : World} (h : SR N0 W0 n st a w fm ts) : DR N0 W0 n st ops ds (fun _ => false) a w fm ts := by
 have e : idxs ops.length (fun _ => false) = [] := by unfold idxs; simp
 refine ⟨by rw [e]; exact h.hr, ?_, fun i _ _ k h1 _ => h.nx k (by omega), fun k hk => h.nx k (by omega), h.size, h.dfr⟩
 rw [e]
 intro t x hx
 exact h.tm t x hx
end
end Go.Abs
namespace Go.Abs
open Go Go.RowKit
set_option linter.unusedSectionVars false
theorem countP_less {p q : Nat → Bool} (hpq : ∀ j, p j = true → q j = true) {i : Nat} (hq : q i = true) (hp : p i = false) : ∀ (l : List Nat), i ∈ l → l.countP p < l.countP q
 | [], h => by cases h
 | a :: l, h => by
  have hle : l.countP p ≤ l.countP q := List.countP_mono_left (fun x _ hx => hpq x hx)
  rw [List.countP_cons, List.countP_cons]
  by_cases ha : a = i
  ·subst ha
   rw [hq, hp]
   simp only [if_true, Bool.false_eq_true, if_false]
   omega
  ·have hl : i ∈ l := by
    rcases List.mem_cons.1 h with h | h
    ·exact absurd h.symm ha
    ·exact h
   have ih := countP_less hpq hq hp l hl
   cases hpa : p a with
   | false => simp only [Bool.false_eq_true, if_false]; split <;> omega
   | true => rw [hpq a hpa]; simp only [if_true]; omega
section
variable [Md] {P : Program} {T : Tys} {n : Nat} {Φ : Exit → St → Prop}
theorem AK.draw (hT : TysOK P T) (hm : P.follows .mixedOrders = true) {ops : List SOp} {befs : List (List Nat)} {drop : List Nat} {todo : List It} {st : St} (ds : List De) (hds : ∀ j, j < ops.length → ∃ d, ds[j]? = some d) (h1 : OneDst ops)
  (hbl : ∀ i j, j ∈ befAt befs i → j < i) (hap : ∀ i j, i < j → j < ops.length → i ∉ befAt befs j → apart2 (setsOf ds i) (setsOf ds j))
  (heff : ∀ i s d, ops[i]? = some s → ds[i]? = some d → EffG P T (st.nx + 16 * i) s (look (ctxTm ops befs ds st.tm i)) (Heap.get (ctxH ops befs ds (st.fr :: st.low) i)) d)
  (hn : AK P n Φ todo (st.drawn ops ds drop)) : AK P n Φ (.sc (.dreg ops befs drop) :: todo) st := by
 intro N0 W0 fm ts a w ct Q hS hsim hQ
 obtain ⟨c, ct', hns, hb, hf, ht, hK⟩ := hsim.sc_inv (P := P) rfl
 apply hK
 cases c <;> try (simp only [SC.bare, erase, reduceCtorEq] at hb; done)
 case scope b => exact absurd rfl (hns b)
 case region rid arr dr =>
  cases dr with
  | false => simp [SC.bare, erase] at hb
  | true =>
   simp only [SC.bare, erase, SC.dreg.injEq, and_true] at hb
   obtain ⟨hb1, hb2⟩ := hb
   simp only [erase, SC.fits, List.all_eq_true] at hf
   have hlen : ops.length = arr.size := by have := congrArg List.length hb1; simpa using this
   have hat : ∀ i, (hi : i < arr.size) → ∃ s, ops[i]? = some s ∧ s.dst = (arr[i]).dst ∧ s.op = (arr[i]).op ∧ s.type = (arr[i]).type ∧ s.guard = (arr[i]).guard.map (fun g => (((arr[g.1]?).bind (·.dst)).getD n, g.2)) := by
    intro i hi
    have hlt : i < ops.length := by omega
    refine ⟨ops[i], List.getElem?_eq_getElem hlt, ?_⟩
    have e := congrArg (fun l => l[i]?) hb1
    simp only [List.getElem?_map, List.getElem?_eq_getElem hlt, Option.map_some, Array.getElem?_toList, Array.getElem?_eq_getElem hi, Option.some.injEq] at e
    simp only [bareOp, eraseOp, SOp.mk.injEq, and_true] at e
    obtain ⟨e1, e2, e3, e4⟩ := e
    exact ⟨e1, e2, e3, e4⟩
   have hbef : ∀ i, (hi : i < arr.size) → ∀ x, x ∈ befAt befs i ↔ ∃ e ∈ (arr[i]).after.toList, Region.binds .any e = true ∧ (x = e.on ∨ (e.on < i ∧ x ∈ befAt befs e.on)) := by
    intro i hi x
    obtain ⟨b', g1, g2, g3⟩ := befsOf_get arr.toList [] i arr[i] (by simp [hi])
    simp only [List.length_nil, Nat.zero_add] at g1 g2
    have e1 : befAt befs i = befOf b' [] (arr[i]).after.toList := by unfold befAt; rw [hb2, g1]; rfl
    rw [e1, mem_befOf]
    simp only [List.not_mem_nil, false_or]
    have e2 : ∀ e : Edge, x ∈ (b'[e.on]?).getD [] ↔ (e.on < i ∧ x ∈ befAt befs e.on) := by
     intro e
     by_cases hj : e.on < b'.length
     ·rw [g3 _ hj]
      unfold befAt
      rw [hb2]
      rw [g2] at hj
      simp [hj]
     ·rw [List.getElem?_eq_none (by omega)]
      simp
      omega
    constructor
    ·rintro ⟨e, h1, h2, h3⟩
     exact ⟨e, h1, h2, h3.imp id (e2 e).1⟩
    ·rintro ⟨e, h1, h2, h3⟩
     exact ⟨e, h1, h2, h3.imp id (e2 e).2⟩
   refine wpIn_region_any hm ?_
   have hrep : ∀ j, (Array.replicate arr.size false).getD j false = false := by
    intro j
    by_cases hj : j < arr.size
    ·simp [Array.getD, hj]
    ·simp [Array.getD, hj]
   have key : ∀ (fuel : Nat) (listed : Array Bool) (a : Act) (w : World) (fm' : FM) (ts' : List Tie), listed.size = arr.size → ((List.range arr.size).countP fun j => !listed.getD j false) ≤ fuel →
     (∀ j, listed.getD j false = true → ∀ k ∈ befAt befs j, listed.getD k false = true) → DR N0 W0 n st ops ds (fun j => listed.getD j false) a w fm' ts' → Later N0 fm ts fm' ts' → wpAnyIn FW 0 P .any arr (K P Q ct') fuel listed a w := by
    intro fuel
    have fin : ∀ (listed : Array Bool) (a : Act) (w : World) (fm' : FM) (ts' : List Tie), listed.size = arr.size → DR N0 W0 n st ops ds (fun j => listed.getD j false) a w fm' ts' → Later N0 fm ts fm' ts' → Region.ready .any arr listed = [] → K P Q ct' .normal a w := by
     intro listed a w fm' ts' hsz hD hL hr
     have hall : ∀ j, j < arr.size → listed.getD j false = true := by
      intro j
      induction j using Nat.strongRecOn with
      | _ j ih =>
       intro hj
       by_cases hl : listed.getD j false = true
       ·exact hl
       ·have hin : j ∈ Region.ready .any arr listed := by
         rw [mem_ready]
         have hlt : j < listed.size := by omega
         refine ⟨by simp [Array.getD, hlt] at hl ⊢; exact hl, arr[j], Array.getElem?_eq_getElem hj, ?_⟩
         intro e he hb
         have hm : e.on ∈ befAt befs j := (hbef j hj e.on).2 ⟨e, by simpa using he, hb, .inl rfl⟩
         have := hbl j e.on hm
         exact ih e.on this (by omega)
        rw [hr] at hin; cases hin
     have hS' := hD.all (fun j hj => hall j (by omega)) drop
     exact hn N0 W0 fm' ts' a w ct' Q hS' (ht.later hL) (fun e s x w' f t hp hs hl => hQ e s x w' f t hp hs (hL.trans hl))
    induction fuel with
    | zero =>
     intro listed a w fm' ts' hsz hc hcl hD hL
     have hr : Region.ready .any arr listed = [] := by
      cases h : Region.ready .any arr listed with
      | nil => rfl
      | cons j l =>
       have hj : j ∈ Region.ready .any arr listed := by rw [h]; exact List.mem_cons_self
       rw [mem_ready] at hj
       obtain ⟨h0, o, ho, _⟩ := hj
       have hlt : j < arr.size := (Array.getElem?_eq_some_iff.1 ho).1
       have : 0 < (List.range arr.size).countP fun j => !listed.getD j false := by
        rw [List.countP_pos_iff]
        have hlt' : j < listed.size := by omega
        refine ⟨j, List.mem_range.2 hlt, ?_⟩
        simp [Array.getD, hlt'] at h0 ⊢
        exact h0
       omega
     exact ⟨hr, fin listed a w fm' ts' hsz hD hL hr⟩
    | succ fuel ih =>
     intro listed a w fm' ts' hsz hc hcl hD hL
     refine ⟨fin listed a w fm' ts' hsz hD hL, fun i hi => ?_⟩
     rw [mem_ready] at hi
     obtain ⟨h0, o, ho, hall⟩ := hi
     have hlt : i < arr.size := (Array.getElem?_eq_some_iff.1 ho).1
     have hlt' : i < listed.size := by omega
     have hpi : listed.getD i false = false := by
      simp [Array.getD, hlt'] at h0 ⊢
      exact h0
     obtain ⟨s, hs, hsd, hso, hst, hsg⟩ := hat i hlt
     have ho' : o = arr[i] := by rw [Array.getElem?_eq_getElem hlt] at ho; exact (Option.some.inj ho).symm
     subst ho'
     obtain ⟨d, hd⟩ := hds i (by omega)
     have hB : ∀ j, (befAt befs i).contains j = true → listed.getD j false = true := by
      intro j hj
      have hmm : j ∈ befAt befs i := by simpa using hj
      obtain ⟨e, he, hb, h⟩ := (hbef i hlt j).1 hmm
      have hon := hall e (by simpa using he) hb
      rcases h with rfl | ⟨_, h⟩
      ·exact hon
      ·exact hcl _ hon j h
     have hcl' : ∀ j, listed.getD j false = true → (befAt befs j).contains i = false := by
      intro j hj
      cases hc' : (befAt befs j).contains i with
      | false => rfl
      | true =>
       have := hcl j hj i (by simpa using hc')
       rw [hpi] at this; cases this
     have hset : ∀ j, (listed.setIfInBounds i true).getD j false = (listed.getD j false || j == i) := by
      intro j
      by_cases hji : j = i
      ·subst hji; simp [Array.getD, hlt']
      ·rw [getD_set_ne false (Ne.symm hji)]; simp [hji]
     unfold wpOpIn
     rw [ho]
     simp only
     have hTm : TmLe (look (ctxTm ops befs ds st.tm i)) (look (effTm ops ds (idxs ops.length fun j => listed.getD j false) st.tm)) := by
      exact ctxTm_le h1 hds hB hcl'
     have hyl : ∀ g j v, ((arr[j]?).bind (·.dst)).getD n = g → a.tmps[g]? = some v → yielded arr a.tmps j = match v with | .bool b => some b | _ => none := by
      intro g j v hjg hv
      unfold yielded
      cases hb : (arr[j]?).bind (·.dst) with
      | none =>
       rw [hb] at hjg
       simp only [Option.getD_none] at hjg
       have := (Array.getElem?_eq_some_iff.1 hv).1
       rw [hD.size] at this
       subst hjg
       exact absurd this (Nat.lt_irrefl _)
      | some dd =>
       rw [hb] at hjg
       simp only [Option.getD_some] at hjg
       subst hjg
       simp only [Option.bind_some, hv]
       cases v <;> rfl
     have hgu : ∀ g w, s.guard = some (g, w) → ∃ j, (arr[i]).guard = some (j, w) ∧ ((arr[j]?).bind (·.dst)).getD n = g := by
      intro g w hh
      rw [hh] at hsg
      cases hh2 : (arr[i]).guard with
      | none => rw [hh2] at hsg; cases hsg
      | some p =>
       rw [hh2] at hsg
       simp only [Option.map_some, Option.some.injEq, Prod.mk.injEq] at hsg
       exact ⟨p.1, by rw [hsg.2], hsg.1.symm⟩
     have hmore : ∀ v w' fm2 ts2, DR N0 W0 n st ops ds (fun j => listed.getD j false || j == i) (a.put (arr[i]).dst v) w' fm2 ts2 → Later N0 fm' ts' fm2 ts2 → wpAnyIn FW 0 P .any arr (K P Q ct') fuel (listed.setIfInBounds i true) (a.put (arr[i]).dst v) w' := by
      intro v w' fm2 ts2 hD2 hL2
      refine ih (listed.setIfInBounds i true) _ w' fm2 ts2 (by simpa using hsz) ?_ ?_ ?_ (hL.trans hL2)
      ·have := countP_less (p := fun j => !(listed.setIfInBounds i true).getD j false) (q := fun j => !listed.getD j false) (i := i) (by
        intro j hj
        rw [hset] at hj
        simp only [Bool.not_or, Bool.and_eq_true] at hj
        exact hj.1) (by simp only [hpi, Bool.not_false]) (by simp only [hset, hpi]; simp) (List.range arr.size) (List.mem_range.2 hlt)
       omega
      ·intro j hj k hk
       rw [hset] at hj ⊢
       simp only [Bool.or_eq_true, beq_iff_eq] at hj ⊢
       rcases hj with hj | rfl
       ·exact .inl (hcl j hj k hk)
       ·exact .inl (hB k (by simpa using hk))
      ·have e : (fun j => (listed.setIfInBounds i true).getD j false) = fun j => listed.getD j false || j == i := funext hset
       rw [e]
       exact hD2
     have happ : ∀ j, listed.getD j false = true → i < j → apart2 (setsOf ds i) (setsOf ds j) := by
      intro j hj hij
      have hjs : j < listed.size := by
       by_cases hjs : j < listed.size
       ·exact hjs
       ·simp [Array.getD, hjs] at hj
      refine hap i j hij (by omega) ?_
      have := hcl' j hj
      simpa using this
     have hfits : ∀ d, dstOf ops i = some d → d < n := by
      intro dd hdd
      have hmem : bareOp s ∈ List.map (eraseOp n arr) arr.toList := by rw [← hb1]; exact List.mem_map_of_mem (List.mem_of_getElem? hs)
      have := hf _ hmem
      simp only [dstOf, hs, Option.bind_some] at hdd
      simp only [bareOp, hdd] at this
      simpa using this
     rcases heff i s d hs hd with ⟨hgo, hE⟩ | ⟨hsty, rfl⟩
     case inr =>
      obtain ⟨g, want, hsgu, hcase⟩ := hsty
      obtain ⟨j, hj, hjg⟩ := hgu g want hsgu
      have hnw : Region.wanted arr[i] (yielded arr a.tmps) = false := by
       rcases hcase with ⟨b, hb, hbw⟩ | hb
       ·obtain ⟨v, hv, hvr⟩ := hD.tm g _ (hTm g _ hb)
        cases hvr
        simp only [Region.wanted, hj, hyl g j _ hjg hv]
        simpa using hbw
       ·obtain ⟨v, hv, hvr⟩ := hD.tm g _ (hTm g _ hb)
        cases hvr
        simp [Region.wanted, hj, hyl g j _ hjg hv]
      rw [if_neg (by rw [hnw]; simp)]
      have ho : Out N0 W0 fm' ts' (Heap.puts (st.fr :: st.low) (effSets ds (idxs ops.length fun j => listed.getD j false))) w (st.nx + 16 * i) (.ok .skip w) ⟨.tup [], []⟩ fm' ts' w undef :=
       ⟨.inr ⟨rfl, rfl⟩, hD.hr, .tup [] #[] rfl (fun i x v h => by simp at h), FmUp.refl _ _, TsLe.refl _, fun _ _ _ h => h⟩
      obtain ⟨h2, h3⟩ := hD.step (by omega) hpi hd ho h1 hds happ hfits
      have hdo : dstOf ops i = (arr[i]).dst := by simp [dstOf, hs, hsd]
      rw [hdo] at h2
      exact ⟨fun _ _ => trivial, hmore _ w fm' ts' h2 h3⟩
     have hwant : Region.wanted arr[i] (yielded arr a.tmps) = true := by
      rcases hgo with hgo | ⟨g, want, b, hsgu, hb, hbw⟩
      ·rw [hgo] at hsg
       have : (arr[i]).guard = none := by
        cases hh : (arr[i]).guard with
        | none => rfl
        | some g => rw [hh] at hsg; cases hsg
       simp [Region.wanted, this]
      ·obtain ⟨j, hj, hjg⟩ := hgu g want hsgu
       obtain ⟨v, hv, hvr⟩ := hD.tm g _ (hTm g _ hb)
       cases hvr
       simp only [Region.wanted, hj, hyl g j _ hjg hv]
       simpa using hbw
     rw [if_pos hwant]
     exact (DR.oper (befs := befs) hT hD (by omega) hpi hd hs hE h1 hds hB hcl' happ hfits hso hst hsd fun v w' fm2 ts2 hD2 hL2 => hmore v w' fm2 ts2 hD2 hL2)
   refine key arr.size (Array.replicate arr.size false) a _ fm ts (by simp) (Nat.le_trans List.countP_le_length (by simp)) (by intro j hj; rw [hrep] at hj; cases hj) ?_ (Later.refl _ _)
   have e : (fun j => (Array.replicate arr.size false).getD j false) = fun _ => false := funext hrep
   rw [e]
   exact DR.none ⟨hS.hr.drew, hS.tm, hS.nx, hS.size, hS.dfr⟩
end
end Go.Abs
namespace Go.Abs
open Go Go.RowKit
set_option linter.unusedSectionVars false
def oneDst : List SOp → Bool
 | [] => true
 | o :: l => (match o.dst with
  | none => true
  | some t => l.all fun q => decide (q.dst ≠ some t)) && oneDst l
theorem oneDst_ok : ∀ (ops : List SOp), oneDst ops = true → OneDst ops
 | [], _ => by intro i j t h; simp [dstOf] at h
 | o :: l, h => by
  simp only [oneDst, Bool.and_eq_true] at h
  have ih := oneDst_ok l h.2
  have hz : ∀ j t, o.dst = some t → dstOf l j ≠ some t := by
   intro j t ho hj
   have h1 := h.1
   rw [ho] at h1
   simp only [List.all_eq_true, decide_eq_true_eq] at h1
   unfold dstOf at hj
   cases hlj : l[j]? with
   | none => rw [hlj] at hj; cases hj
   | some q => rw [hlj] at hj; exact h1 q (List.mem_of_getElem? hlj) hj
  have hs : ∀ j, dstOf (o :: l) (j + 1) = dstOf l j := fun j => by simp [dstOf]
  have h0 : dstOf (o :: l) 0 = o.dst := by simp [dstOf]
  intro i j t hi hj
  cases i with
  | zero =>
   cases j with
   | zero => rfl
   | succ j => rw [h0] at hi; rw [hs] at hj; exact absurd hj (hz j t hi)
  | succ i =>
   cases j with
   | zero => rw [h0] at hj; rw [hs] at hi; exact absurd hi (hz i t hj)
   | succ j => rw [hs] at hi hj; rw [ih i j t hi hj]
def befFits : Nat → List (List Nat) → Bool
 | _, [] => true
 | i, l :: r => (l.all fun j => decide (j < i)) && befFits (i + 1) r
theorem befFits_ok : ∀ (befs : List (List Nat)) (i0 : Nat), befFits i0 befs = true → ∀ i j, j ∈ befAt befs i → j < i0 + i
 | [], i0, _, i, j, h => by simp [befAt] at h
 | l :: r, i0, h, i, j, hj => by
  simp only [befFits, Bool.and_eq_true, List.all_eq_true, decide_eq_true_eq] at h
  cases i with
  | zero => simp [befAt] at hj; exact h.1 j hj
  | succ i =>
   have := befFits_ok r (i0 + 1) h.2 i j (by simpa [befAt] using hj)
   omega
def keysApart (s t : Sets) : Bool := s.all fun p => t.all fun q => !(p.1 == q.1 && p.2.1 == q.2.1)
theorem keysApart_ok {s t : Sets} (h : keysApart s t = true) : apart2 s t := by
 intro p hp q hq hh
 simp only [keysApart, List.all_eq_true] at h
 have := h p hp q hq
 rw [hh.1, hh.2] at this
 simp at this
def apartAll (befs : List (List Nat)) (ds : List De) (n : Nat) : Bool :=
 (List.range n).all fun j => (List.range j).all fun i => (befAt befs j).contains i || keysApart (setsOf ds i) (setsOf ds j)
theorem apartAll_ok {befs : List (List Nat)} {ds : List De} {n : Nat} (h : apartAll befs ds n = true) : ∀ i j, i < j → j < n → i ∉ befAt befs j → apart2 (setsOf ds i) (setsOf ds j) := by
 intro i j hij hj hn
 simp only [apartAll, List.all_eq_true, List.mem_range, Bool.or_eq_true] at h
 rcases h j hj i hij with h | h
 ·exact absurd (by simpa using h) hn
 ·exact keysApart_ok h
section
variable [Md] {P : Program} {T : Tys} {n : Nat} {Φ : Exit → St → Prop}
theorem AKev_draw (hT : TysOK P T) (hm : P.follows .mixedOrders = true) {ops : List SOp} {befs : List (List Nat)} {drop : List Nat} {todo : List It} {st : St} (ds : List De) (hlen : ds.length = ops.length) (h1 : oneDst ops = true)
  (hbl : befFits 0 befs = true) (hap : apartAll befs ds ops.length = true)
  (heff : ∀ i s d, ops[i]? = some s → ds[i]? = some d → EffG P T (st.nx + 16 * i) s (look (ctxTm ops befs ds st.tm i)) (Heap.get (ctxH ops befs ds (st.fr :: st.low) i)) d)
  (hn : AK P n Φ todo (st.drawn ops ds drop)) : AKev P n Φ (.draw ops befs drop todo st) := by
 refine AK.draw hT hm ds (fun j hj => ⟨ds[j]'(by omega), List.getElem?_eq_getElem (by omega)⟩) (oneDst_ok ops h1) (fun i j hj => by have := befFits_ok befs 0 hbl i j hj; omega) (apartAll_ok hap) heff hn
end
end Go.Abs
namespace Go.Abs
open Go Go.RowKit
set_option linter.unusedSectionVars false
section
variable [Md] {P : Program} {T : Tys} {N0 : Nat} {W0 : World} {n : Nat} {fm : FM} {ts : List Tie} {Φ : Exit → St → Prop}
theorem K_stop {Q : Exit → Act → World → Prop} (t : List CIt) : K P Q (.back (fun a w => K P Q t .normal a w) :: t) = K P Q t := by
 funext e a w; cases e <;> rfl
theorem K_stops {Q : Exit → Act → World → Prop} (t : List CIt) : ∀ c1 : List CIt, K P Q (c1 ++ .back (fun a w => K P Q t .normal a w) :: t) = K P Q (c1 ++ t)
 | [] => K_stop t
 | c :: c1 => by
  have ih := K_stops (Q := Q) t c1
  funext e a w
  cases c <;> cases e <;> simp only [List.cons_append, K, ih]
theorem Sim.stop {todo : List It} : ∀ {ct : List CIt} {pre : List It} {l : List It}, Sim N0 W0 n fm ts l ct → l = pre ++ todo → ∃ c1 c2, ct = c1 ++ c2 ∧ Sim N0 W0 n fm ts todo c2 ∧
  ∀ (B : St → Prop) (R : Act → World → Prop), (∀ st' a' w' fm' ts', B st' → SR N0 W0 n st' a' w' fm' ts' → Later N0 fm ts fm' ts' → R a' w') → Sim N0 W0 n fm ts (pre ++ .back B :: todo) (c1 ++ .back R :: c2) := by
 intro ct pre l h
 induction h generalizing pre with
 | nil =>
  intro e
  have e2 : pre = [] ∧ todo = [] := by simpa using e.symm
  obtain ⟨rfl, rfl⟩ := e2
  exact ⟨[], [], rfl, .nil, fun B R hR => .back hR .nil⟩
 | @sc s c t ct h hf ht ih =>
  intro e
  cases pre with
  | nil =>
   simp only [List.nil_append] at e; subst e
   exact ⟨[], _, rfl, .sc h hf ht, fun B R hR => .back hR (.sc h hf ht)⟩
  | cons p pre =>
   simp only [List.cons_append, List.cons.injEq] at e
   obtain ⟨rfl, e⟩ := e
   obtain ⟨c1, c2, rfl, h2, h3⟩ := ih e
   exact ⟨.code c :: c1, c2, rfl, h2, fun B R hR => .sc h hf (h3 B R hR)⟩
 | @blk id t ct ht ih =>
  intro e
  cases pre with
  | nil =>
   simp only [List.nil_append] at e; subst e
   exact ⟨[], _, rfl, .blk ht, fun B R hR => .back hR (.blk ht)⟩
  | cons p pre =>
   simp only [List.cons_append, List.cons.injEq] at e
   obtain ⟨rfl, e⟩ := e
   obtain ⟨c1, c2, rfl, h2, h3⟩ := ih e
   exact ⟨.blk id :: c1, c2, rfl, h2, fun B R hR => .blk (h3 B R hR)⟩
 | @scp t ct ht ih =>
  intro e
  obtain ⟨c1, c2, rfl, h2, h3⟩ := ih e
  exact ⟨.scp :: c1, c2, rfl, h2, fun B R hR => .scp (h3 B R hR)⟩
 | @ops l arr is t ct h hi hf ht ih =>
  intro e
  cases pre with
  | nil =>
   simp only [List.nil_append] at e; subst e
   exact ⟨[], _, rfl, .ops h hi hf ht, fun B R hR => .back hR (.ops h hi hf ht)⟩
  | cons p pre =>
   simp only [List.cons_append, List.cons.injEq] at e
   obtain ⟨rfl, e⟩ := e
   obtain ⟨c1, c2, rfl, h2, h3⟩ := ih e
   exact ⟨.ops arr is :: c1, c2, rfl, h2, fun B R hR => .ops h hi hf (h3 B R hR)⟩
 | @back B0 R0 t ct h ht ih =>
  intro e
  cases pre with
  | nil =>
   simp only [List.nil_append] at e; subst e
   exact ⟨[], _, rfl, .back h ht, fun B R hR => .back hR (.back h ht)⟩
  | cons p pre =>
   simp only [List.cons_append, List.cons.injEq] at e
   obtain ⟨rfl, e⟩ := e
   obtain ⟨c1, c2, rfl, h2, h3⟩ := ih e
   exact ⟨.back R0 :: c1, c2, rfl, h2, fun B R hR => .back h (h3 B R hR)⟩
theorem AK.cut (B : St → Prop) (pre : List It) {todo : List It} {st : St} (h1 : AK P n Φ (pre ++ .back B :: todo) st) (h2 : ∀ st, B st → AK P n Φ todo st) : AK P n Φ (pre ++ todo) st := by
 intro N0 W0 fm ts a w ct Q hS hsim hQ
 obtain ⟨c1, c2, rfl, h3, h4⟩ := hsim.stop rfl
 have := h1 N0 W0 fm ts a w (c1 ++ .back (fun a w => K P Q c2 .normal a w) :: c2) Q hS (h4 B _ ?_) hQ
 ·rw [K_stops] at this; exact this
 ·intro st' a' w' fm' ts' hB hS' hL
  exact h2 st' hB N0 W0 fm' ts' a' w' c2 Q hS' (h3.later hL) (fun e s x w' f t hp hs hl => hQ e s x w' f t hp hs (hL.trans hl))
inductive Stp (S E R : Type) where
 | next (s : S)
 | brk (e : E)
 | ret (r : R)
def whl {S E R : Type} (body : S → Option (Stp S E R)) : Nat → S → Option (Stp S E R)
 | 0, _ => none
 | k + 1, s => match body s with
  | none => none
  | some (.next s') => whl body k s'
  | some (.brk s') => some (.brk s')
  | some (.ret r) => some (.ret r)
theorem AK.loopS {S E R : Type} {body : S → Option (Stp S E R)} {k : Nat} {s0 : S} {r : Stp S E R} (hk : whl body k s0 = some r) (hd : S → St) (ex : E → St) {b : SC} {id : Nat} {todo : List It} {st : St} (hw : Weak n st (hd s0))
  (hb : ∀ s x (Bk Br : St → Prop), body s = some x → (∀ s' st', x = .next s' → Weak n st' (hd s') → Bk st') → (∀ s' st', x = .brk s' → Weak n st' (ex s') → Br st') → (∀ v, x = .ret v → r = .ret v) →
   AK P n Φ (.sc b :: .back Bk :: .blk id :: .back Br :: todo) (hd s))
  (hx : ∀ s', r = .brk s' → AK P n Φ todo (ex s')) : AK P n Φ (.sc (.loop b) :: .blk id :: todo) st := by
 refine AK.cut (fun st' => ∃ s', r = .brk s' ∧ Weak n st' (ex s')) [.sc (.loop b), .blk id] ?_ ?_
 ·refine AK.loop (fun m st => ∃ s, st = hd s ∧ whl body m s = some r) k hw ⟨s0, rfl, hk⟩ ?_
  rintro m st ⟨s, rfl, hm⟩
  cases m with
  | zero => cases hm
  | succ m =>
   simp only [whl] at hm
   cases hs : body s with
   | none => rw [hs] at hm; cases hm
   | some x =>
    rw [hs] at hm
    refine hb s x _ _ hs ?_ ?_ ?_
    ·rintro s' st' rfl hwk
     exact ⟨hd s', m, Nat.lt_succ_self m, hwk, s', rfl, hm⟩
    ·rintro s' st' rfl hwk
     exact ⟨s', (Option.some.inj hm).symm, hwk⟩
    ·rintro v rfl
     exact (Option.some.inj hm).symm
 ·rintro st' ⟨s', hr, hwk⟩
  exact AK.weak hwk (hx s' hr)
end
section
variable [Md]
inductive NL : AV → AV → Prop
 | refl (x : AV) : NL x x
 | nil (e : Nat) : NL .nil (.sl e [])
 | agg (cs ys : List AV) (h1 : cs.length = ys.length) (h2 : ∀ (i : Nat) x y, cs[i]? = some x → ys[i]? = some y → NL x y) : NL (.agg cs) (.agg ys)
 | tup (cs ys : List AV) (h1 : cs.length = ys.length) (h2 : ∀ (i : Nat) x y, cs[i]? = some x → ys[i]? = some y → NL x y) : NL (.tup cs) (.tup ys)
 | sl (e : Nat) (es fs : List (List AV)) (h1 : es.length = fs.length) (h2 : ∀ (i : Nat) c d, es[i]? = some c → fs[i]? = some d → c.length = d.length)
   (h3 : ∀ (i : Nat) c d (o : Nat) x y, es[i]? = some c → fs[i]? = some d → c[o]? = some x → d[o]? = some y → NL x y) : NL (.sl e es) (.sl e fs)
def NLs (cs ys : List AV) : Prop := cs.length = ys.length ∧ ∀ (i : Nat) x y, cs[i]? = some x → ys[i]? = some y → NL x y
def NLss (es fs : List (List AV)) : Prop := es.length = fs.length ∧ ∀ (i : Nat) c d, es[i]? = some c → fs[i]? = some d → NLs c d
theorem NLs.nil : NLs [] [] := ⟨rfl, fun i x y h => by simp at h⟩
theorem NLs.cons {x y : AV} {l m : List AV} (h : NL x y) (hs : NLs l m) : NLs (x :: l) (y :: m) := by
 refine ⟨by simp [hs.1], ?_⟩
 intro i a b ha hb
 cases i with
 | zero => simp at ha hb; subst ha hb; exact h
 | succ i => simp at ha hb; exact hs.2 i a b ha hb
theorem NLs.refl (l : List AV) : NLs l l := ⟨rfl, fun i x y a b => by rw [a] at b; cases b; exact .refl _⟩
theorem NLss.nil : NLss [] [] := ⟨rfl, fun i x y h => by simp at h⟩
theorem NLss.cons {x y : List AV} {l m : List (List AV)} (h : NLs x y) (hs : NLss l m) : NLss (x :: l) (y :: m) := by
 refine ⟨by simp [hs.1], ?_⟩
 intro i a b ha hb
 cases i with
 | zero => simp at ha hb; subst ha hb; exact h
 | succ i => simp at ha hb; exact hs.2 i a b ha hb
theorem NLss.refl (l : List (List AV)) : NLss l l := ⟨rfl, fun i x y a b => by rw [a] at b; cases b; exact .refl _⟩
theorem NLss.append {a b c d : List (List AV)} (h : NLss a b) (k : NLss c d) : NLss (a ++ c) (b ++ d) := by
 refine ⟨by simp [h.1, k.1], ?_⟩
 intro i x y hx hy
 by_cases hi : i < a.length
 ·rw [List.getElem?_append_left hi] at hx
  rw [List.getElem?_append_left (by rw [← h.1]; exact hi)] at hy
  exact h.2 i x y hx hy
 ·rw [List.getElem?_append_right (by omega)] at hx
  rw [List.getElem?_append_right (by rw [← h.1]; omega)] at hy
  rw [← h.1] at hy
  exact k.2 _ x y hx hy
theorem NL.aggs {cs ys : List AV} (h : NLs cs ys) : NL (.agg cs) (.agg ys) := .agg _ _ h.1 h.2
theorem NL.tups {cs ys : List AV} (h : NLs cs ys) : NL (.tup cs) (.tup ys) := .tup _ _ h.1 h.2
theorem NL.sls {e : Nat} {es fs : List (List AV)} (h : NLss es fs) : NL (.sl e es) (.sl e fs) := .sl _ _ _ h.1 (fun i c d a b => (h.2 i c d a b).1) (fun i c d o x y a b p q => (h.2 i c d a b).2 o x y p q)
theorem NL.flat {x y : AV} (h : NL x y) : y.flat = x.flat := by
 cases h <;> rfl
theorem NL.ok {x y : AV} (h : NL x y) : ∀ {fm : FM} {ts : List Tie} {v : Value}, VR fm ts x v → VR fm ts y v := by
 induction h with
 | refl x => intro fm ts v hv; exact hv
 | nil e => intro fm ts v hv; cases hv; exact .slNil _ _ _
 | agg cs ys h1 h2 ih =>
  intro fm ts v hv
  cases hv with
  | agg _ vs k1 k2 k3 =>
   have hy : ∀ (i : Nat) y, ys[i]? = some y → ∃ x, cs[i]? = some x := fun i y hy => ⟨_, List.getElem?_eq_getElem (by rw [h1]; exact (List.getElem?_eq_some_iff.1 hy).1)⟩
   refine .agg _ vs (by rw [← h1]; exact k1) ?_ ?_
   ·intro y hm
    obtain ⟨i, hi⟩ := List.mem_iff_getElem?.1 hm
    obtain ⟨x, hx⟩ := hy i y hi
    rw [(h2 i x y hx hi).flat]; exact k2 x (List.mem_of_getElem? hx)
   ·intro i y u hi hu
    obtain ⟨x, hx⟩ := hy i y hi
    exact ih i x y hx hi (k3 i x u hx hu)
 | tup cs ys h1 h2 ih =>
  intro fm ts v hv
  cases hv with
  | tup _ vs k1 k3 =>
   refine .tup _ vs (by rw [← h1]; exact k1) ?_
   intro i y u hi hu
   have hx : ∃ x, cs[i]? = some x := ⟨_, List.getElem?_eq_getElem (by rw [h1]; exact (List.getElem?_eq_some_iff.1 hi).1)⟩
   obtain ⟨x, hx⟩ := hx
   exact ih i x y hx hi (k3 i x u hx hu)
 | sl e es fs h1 h2 h3 ih =>
  intro fm ts v hv
  have hc : ∀ (i : Nat) d, fs[i]? = some d → ∃ c, es[i]? = some c ∧ c.length = d.length := fun i d hd => by
   have hlt : i < es.length := by rw [h1]; exact (List.getElem?_eq_some_iff.1 hd).1
   exact ⟨_, List.getElem?_eq_getElem hlt, h2 i _ d (List.getElem?_eq_getElem hlt) hd⟩
  have hx : ∀ (i : Nat) d (o : Nat) y, fs[i]? = some d → d[o]? = some y → ∃ c x, es[i]? = some c ∧ c[o]? = some x := fun i d o y hd hy => by
   obtain ⟨c, hc1, hc2⟩ := hc i d hd
   exact ⟨c, _, hc1, List.getElem?_eq_getElem (by rw [hc2]; exact (List.getElem?_eq_some_iff.1 hy).1)⟩
  cases hv with
  | slNil _ a cap =>
   have : fs = [] := List.eq_nil_of_length_eq_zero (by simpa using h1.symm)
   subst this
   exact .slNil _ _ _
  | sl _ cb off _ cap u hcap k1 k2 k3 k4 =>
   have := VR.sl (fm := fm) (ts := ts) fs cb off e cap u (by rw [← h1]; exact hcap)
    (fun d hd => by
     obtain ⟨i, hi⟩ := List.mem_iff_getElem?.1 hd
     obtain ⟨c, hc1, hc2⟩ := hc i d hi
     rw [← hc2]; exact k1 c (List.mem_of_getElem? hc1))
    (fun i d o y hd hy => by obtain ⟨c, x, a, b⟩ := hx i d o y hd hy; exact k2 i c o x a b)
    (fun i d o y hd hy => by obtain ⟨c, x, a, b⟩ := hx i d o y hd hy; rw [(h3 i c d o x y a hd b hy).flat]; exact k3 i c o x a b)
    (fun i d o y hd hy => by obtain ⟨c, x, a, b⟩ := hx i d o y hd hy; exact ih i c d o x y a hd b hy (k4 i c o x a b))
   rw [← h1] at this
   exact this
theorem NLs.ok {cs ys : List AV} (h : NLs cs ys) {fm : FM} {ts : List Tie} {vs : List Value} (hv : VRs fm ts cs vs) : VRs fm ts ys vs := by
 refine ⟨h.1.symm.trans hv.1, ?_⟩
 intro i y v hy hv'
 have hx : ∃ x, cs[i]? = some x := ⟨_, List.getElem?_eq_getElem (by rw [h.1]; exact (List.getElem?_eq_some_iff.1 hy).1)⟩
 obtain ⟨x, hx⟩ := hx
 exact (h.2 i x y hx hy).ok (hv.2 i x v hx hv')
inductive NLB : Blk → Blk → Prop
 | box (cs ys : List AV) (h : NLs cs ys) : NLB (.box cs) (.box ys)
 | arr (et esz : Nat) (es fs : List (List AV)) (h : NLss es fs) : NLB (.arr et esz es) (.arr et esz fs)
theorem NLB.refl : ∀ b : Blk, NLB b b
 | .box _ => .box _ _ (.refl _)
 | .arr _ _ _ => .arr _ _ _ _ (.refl _)
inductive NLT : List (Nat × AV) → List (Nat × AV) → Prop
 | nil : NLT [] []
 | cons (t : Nat) (x y : AV) (l m : List (Nat × AV)) (h : NL x y) (hs : NLT l m) : NLT ((t, x) :: l) ((t, y) :: m)
inductive NLF : Fra → Fra → Prop
 | nil : NLF [] []
 | cons (k : Nat) (x y : Blk) (l m : Fra) (h : NLB x y) (hs : NLF l m) : NLF ((k, x) :: l) ((k, y) :: m)
theorem NLT.refl : ∀ l : List (Nat × AV), NLT l l
 | [] => .nil
 | (t, x) :: l => .cons t x x l l (.refl _) (NLT.refl l)
theorem NLF.refl : ∀ l : Fra, NLF l l
 | [] => .nil
 | (t, x) :: l => .cons t x x l l (.refl _) (NLF.refl l)
theorem NLT.look {l m : List (Nat × AV)} (h : NLT l m) : ∀ t y, look m t = some y → ∃ x, look l t = some x ∧ NL x y := by
 induction h with
 | nil => intro t y h; simp [Abs.look] at h
 | cons t0 x y l m h hs ih =>
  intro t z hz
  simp only [Abs.look] at hz ⊢
  split
  ·rename_i e; rw [if_pos e] at hz; cases hz; exact ⟨_, rfl, h⟩
  ·rename_i e; rw [if_neg e] at hz; exact ih t z hz
theorem NLF.look {l m : Fra} (h : NLF l m) : ∀ k b, look m k = some b → ∃ b0, look l k = some b0 ∧ NLB b0 b := by
 induction h with
 | nil => intro t y h; simp [Abs.look] at h
 | cons t0 x y l m h hs ih =>
  intro t z hz
  simp only [Abs.look] at hz ⊢
  split
  ·rename_i e; rw [if_pos e] at hz; cases hz; exact ⟨_, rfl, h⟩
  ·rename_i e; rw [if_neg e] at hz; exact ih t z hz
theorem NLB.ok {fm : FM} {ts : List Tie} {w : World} {N0 : Nat} {t : Option TB} {b b' : Blk} (h : BR fm ts w N0 t b) (hn : NLB b b') : BR fm ts w N0 t b' := by
 cases hn with
 | box cs ys hn =>
  cases h with
  | box c _ hN h =>
   obtain ⟨cells, et, c1, c2, c3⟩ := h
   refine .box c _ hN ⟨cells, et, c1, c2.trans hn.1, ?_⟩
   intro o y v hy hv
   obtain ⟨x, hx⟩ : ∃ x, cs[o]? = some x := ⟨_, List.getElem?_eq_getElem (by rw [hn.1]; exact (List.getElem?_eq_some_iff.1 hy).1)⟩
   have hxy := hn.2 o x y hx hy
   exact ⟨by rw [hxy.flat]; exact (c3 o x v hx hv).1, hxy.ok (c3 o x v hx hv).2⟩
 | arr et esz es fs hn =>
  have hc : ∀ (i : Nat) d, fs[i]? = some d → ∃ c, es[i]? = some c ∧ NLs c d := fun i d hd => by
   have hlt : i < es.length := by rw [hn.1]; exact (List.getElem?_eq_some_iff.1 hd).1
   exact ⟨_, List.getElem?_eq_getElem hlt, hn.2 i _ d (List.getElem?_eq_getElem hlt) hd⟩
  cases h with
  | nil =>
   have : fs = [] := List.eq_nil_of_length_eq_zero (by simpa using hn.1.symm)
   subst this
   exact .nil _ _
  | arr _ _ _ c cap hN h =>
   obtain ⟨cells, c1, c2, c3, c4, c5, c6, c7⟩ := h
   rw [hn.1]
   refine .arr et esz fs c cap hN ⟨cells, c1, c2, by rw [← hn.1]; exact c3, c4, ?_, c6, ?_⟩
   ·intro d hd
    obtain ⟨i, hi⟩ := List.mem_iff_getElem?.1 hd
    obtain ⟨c, hc1, hc2⟩ := hc i d hi
    rw [← hc2.1]; exact c5 c (List.mem_of_getElem? hc1)
   ·intro i d o y v hd hy hv
    obtain ⟨c', hc1, hc2⟩ := hc i d hd
    obtain ⟨x, hx⟩ : ∃ x, c'[o]? = some x := ⟨_, List.getElem?_eq_getElem (by rw [hc2.1]; exact (List.getElem?_eq_some_iff.1 hy).1)⟩
    have hxy := hc2.2 o x y hx hy
    have := c7 i c' o x v hc1 hx hv
    exact ⟨by rw [hxy.flat]; exact this.1, hxy.ok this.2⟩
theorem Weak.nl {n : Nat} {tm tm' : List (Nat × AV)} {fr fr' : Fra} {low : Heap} {nx nt : Nat} (h1 : NLT tm tm') (h2 : NLF fr fr') : Weak n ⟨tm, fr, low, nx, nt⟩ ⟨tm', fr', low, nx, nt⟩ := by
 intro N0 W0 a w fm ts h
 have src : ∀ l k b, Heap.get (fr' :: low) l k = some b → ∃ b0, Heap.get (fr :: low) l k = some b0 ∧ NLB b0 b := by
  intro l k b hg
  cases l with
  | zero => exact h2.look k b hg
  | succ l => exact ⟨b, hg, .refl b⟩
 refine ⟨fm, ts, ⟨⟨by simpa using h.hr.len, ?_, ?_, h.hr.fms, ?_, h.hr.bel, h.hr.size, h.hr.oth⟩, ?_, h.nx, h.size, h.dfr⟩, Later.refl _ _⟩
 ·intro l k b hg
  obtain ⟨b0, hg0, hn⟩ := src l k b hg
  exact hn.ok (h.hr.blk l k b0 hg0)
 ·intro l k l' k' b b' c hg hg'
  obtain ⟨b0, hg0, _⟩ := src l k b hg
  obtain ⟨b1, hg1, _⟩ := src l' k' b' hg'
  exact h.hr.inj l k l' k' b0 b1 c hg0 hg1
 ·intro l k b c o hg
  obtain ⟨b0, hg0, _⟩ := src l k b hg
  exact h.hr.fmd l k b0 c o hg0
 ·intro t y hy
  obtain ⟨x, hx, hn⟩ := h1.look t y hy
  obtain ⟨v, h3, h4⟩ := h.tm t x hx
  exact ⟨v, h3, hn.ok h4⟩
end
end Go.Abs
