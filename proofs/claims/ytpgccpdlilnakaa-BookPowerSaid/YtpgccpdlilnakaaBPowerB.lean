/-
  Part 2 of the proof: a machine over named blocks, what each function computes, and what follows. No condition.
-/
import Derived.Orders
import Derived.Shelf.Sort.Plain
import Derived.Shelf.Slices.In.SortNone
import Derived.Test.YtpgccpdlilnakaaBPowerA
set_option linter.unusedVariables false
set_option linter.unusedSimpArgs false
set_option linter.all false
namespace Go.Abs
open Go Go.RowKit
mutual
def AV.imp (kb:Nat):AV→AV
 |.loc l k e i n g=>.loc (l - 1) (if l=0 then kb+k else k) e i n g
 |.inn l k e o n=>.inn (l - 1) (if l=0 then kb+k else k) e o n
 |.ptr l k o=>.ptr (l - 1) (if l=0 then kb+k else k) o
 |.eptr l k e i o g=>.eptr (l - 1) (if l=0 then kb+k else k) e i o g
 |.fn f a b=>.fn f (AV.impL kb a) (AV.impL kb b)
 |.ifc t v=>.ifc t (v.imp kb)
 |.agg cs=>.agg (AV.impL kb cs)
 |.tup vs=>.tup (AV.impL kb vs)
 |.bool b=>.bool b
 |.int k n=>.int k n
 |.str s=>.str s
 |.nil=>.nil
 |.sl e es=>.sl e es
 |.pnil=>.pnil
 |.rptr e es i o=>.rptr e es i o
 |.fnil=>.fnil
 |.inil=>.inil
 |.dead=>.dead
def AV.impL (kb:Nat):List AV→List AV
 |[]=>[]
 |x::l=>x.imp kb::AV.impL kb l
end
def Blk.imp (kb:Nat):Blk→Blk
 |.arr et e es=>.arr et e es
 |.box cs=>.box (AV.impL kb cs)
def Zh8 (kb:Nat):Fra→Fra→Fra
 |[],f=>f
 |(c,b)::R,f=>ins (Zh8 kb R f) (kb+c) (b.imp kb)
def St.took (st:St) (dst:Option Tmp) (drop:List Nat) (v:AV) (R:Fra):Zam→St
 |[]=>st
 |f::H=>⟨Ze6 (ZhB st.tm dst (v.imp st.nx)) drop,Zh8 st.nx R f,H,st.nx+16,st.nt⟩
def Zcc:Tie:=fun _=>none
def Zmc (P : Program) (f : FuncId) : Prop := ∃ fn, P.funcs[f]? = some fn ∧ (fn.name == "runtime.NumGoroutine") = false ∧ fn.body.isNone = false
def ZfE (P:Program) (f:FuncId) (args:List AV) (H:Zam) (R:AV→Fra→Zam→Prop):Prop:=
 Zmc P f∧∀ N0 W0 fm ts w vs,HR N0 W0 fm ts H w→VRs fm (Zcc::ts) args vs→
  Calls P f vs.toArray w fun e w'=>∃ v av fr' H' fm' t' ts',e=.returned v∧R av fr' H'∧H'.length=H.length∧HR N0 W0 fm' (t'::ts') (fr'::H') w'∧VR fm' (t'::ts') av v∧FmUp N0 fm fm'∧ZaA ts ts'∧
   (∀ l k,tb ts l k=none→tb ts' l k=none)∧∀ k,16≤k→t' k=none
def Zgt (P:Program) (f:FuncId) (args:List AV) (H:Zam) (R:AV→Fra→Zam→Prop) (Rp:List PanicEntry→Zam→Prop):Prop:=
 Zmc P f∧∀ N0 W0 fm ts w vs,HR N0 W0 fm ts H w→VRs fm (Zcc::ts) args vs→
  Calls P f vs.toArray w fun e w'=>(∃ v av fr' H' fm' t' ts',e=.returned v∧R av fr' H'∧H'.length=H.length∧HR N0 W0 fm' (t'::ts') (fr'::H') w'∧VR fm' (t'::ts') av v∧FmUp N0 fm fm'∧ZaA ts ts'∧
   (∀ l k,tb ts l k=none→tb ts' l k=none)∧∀ k,16≤k→t' k=none)∨
   ∃ ch H' fm' ts',e=.panicked ch∧Rp ch H'∧H'.length=H.length∧HR N0 W0 fm' ts' H' w'∧FmUp N0 fm fm'∧ZaA ts ts'∧∀ l k,tb ts l k=none→tb ts' l k=none
theorem ZfE.toP {P:Program}{f:FuncId}{args:List AV}{H:Zam}{R:AV→Fra→Zam→Prop} (h:ZfE P f args H R):Zgt P f args H R (fun _ _=>False):=
 ⟨h.1,fun N0 W0 fm ts w vs a b=>(h.2 N0 W0 fm ts w vs a b).mono fun _ _ q=>.inl q⟩
section
variable [Md]
def Zeb (n:Nat) (st:St) (args:List AV) (st':St) (args':List AV):Prop:=
 ∀ N0 W0 a w fm ts vs,SR N0 W0 n st a w fm ts→VRs fm (Zcc::ts) args vs→∃ fm' ts',SR N0 W0 n st' a w fm' ts'∧Later N0 fm ts fm' ts'∧VRs fm' (Zcc::ts') args' vs
theorem Zeb.refl (n:Nat) (st:St) (args:List AV):Zeb n st args st args:=fun _ _ _ _ fm ts _ h hv=>⟨fm,ts,h,Later.refl _ _,hv⟩
def AK (P:Program) (n:Nat) (Φ:Exit→St→Prop) (todo:List It) (st:St):Prop:=
 ∀ N0 W0 fm ts a w ct Q,SR N0 W0 n st a w fm ts→Sim N0 W0 n fm ts todo ct→
  (∀ e st' a' w' fm' ts',Φ e st'→SR N0 W0 n st' a' w' fm' ts'→Later N0 fm ts fm' ts'→Q e a' w')→K P Q ct .normal a w
def ZbX (P:Program) (n:Nat) (Φ:Exit→St→Prop):Ev→Prop
 |.stuck=>False
 |.fin e st=>Φ e st
 |.back B st=>B st
 |.call f args dst drop todo st=>∃ st1 args1 R Rp,Zeb n st args st1 args1∧Zgt P f args1 (st1.fr::st1.low) R Rp∧(∀ v fr H,R v fr H→AK P n Φ todo (st1.took dst drop v fr H))∧∀ ch H,Rp ch H→Φ (.panic ch) (st1.withHeap H)
 |.loop b todo st=>AK P n Φ (.sc (.loop b)::todo) st
 |.throw v st=>∃ t x,v=.ifc t x∧∀ fm ts u,VR fm ts x u→Φ (.panic [{ v:=.iface t u,recovered:=false }]) st
 |.either es t s1 s2=>(es=[]→AK P n Φ t s1)∧AK P n Φ t s2
 |.draw ops bef drop todo st=>AK P n Φ (.sc (.dreg ops bef drop)::todo) st
 |.mark b todo st=>AK P n Φ (.sc b::todo) st
end
theorem Zby (kb:Nat):∀ cs:List AV,(AV.impL kb cs).length=cs.length
 |[]=>rfl
 |x::l=>by simp[AV.impL,Zby kb l]
theorem Zci (kb:Nat):∀ (cs:List AV) (i:Nat),(AV.impL kb cs)[i]?=(cs[i]?).map (AV.imp kb)
 |[],i=>by simp[AV.impL]
 |x::l,0=>by simp[AV.impL]
 |x::l,i+1=>by simp[AV.impL,Zci kb l i]
theorem ZhH (kb:Nat) (x:AV):(x.imp kb).flat=x.flat:=by
 cases x<;>simp[AV.imp,AV.flat]
def Zgr (kb:Nat) (t' h:Tie):Tie:=fun k=>if kb≤k then t' (k - kb) else h k
theorem ZgP {kb:Nat}{t' h:Tie}{rest:List Tie} (hn:∀ k,kb≤k→h k=none) {l k:Nat}{x:TB} (e:tb (t'::h::rest) l k=some x):
  tb (Zgr kb t' h::rest) (l - 1) (if l=0 then kb+k else k)=some x:=by
 cases l with
 |zero=>simpa [tb,Zgr] using e
 |succ l=>
  cases l with
  |zero=>
   simp only[tb]at e
   have hk:¬ kb≤k:=fun hk=>by rw[hn k hk]at e;cases e
   simp[tb,Zgr,hk,e]
  |succ l=>simpa [tb] using e
theorem VR.imp {fm:FM}{kb:Nat}{t' h:Tie}{rest:List Tie} (hn:∀ k,kb≤k→h k=none) {ts0:List Tie}{x:AV}{v:Value} (hv:VR fm ts0 x v):ts0=t'::h::rest→VR fm (Zgr kb t' h::rest) (x.imp kb) v:=by
 induction hv with
 |bool b=>intro _;exact .bool b
 |int k n=>intro _;exact .int k n
 |str s=>intro _;exact .str s
 |nil=>intro _;exact .nil
 |slNil e a cap=>intro _;exact .slNil e a cap
 |sl es cb off esz cap u hcap h1 h2 h3 h4 _=>intro _;exact .sl es cb off esz cap u hcap h1 h2 h3 h4
 |locGone l k esz i n g a cp h hn' ha=>rintro rfl;exact .locGone _ _ esz i n g a cp (ZgP hn h) hn' ha
 |locOld l k esz i n g a cp m' c h hlt hn' ha=>rintro rfl;exact .locOld _ _ esz i n g a cp m' c (ZgP hn h) hlt hn' ha
 |locNil l k esz a h=>rintro rfl;exact .locNil _ _ esz a (ZgP hn h)
 |loc l k esz i n g c cap cp a h hn' hnc hc ha=>rintro rfl;exact .loc _ _ esz i n g c cap cp a (ZgP hn h) hn' hnc hc ha
 |inn l k esz o n c cp a h hn' ha=>rintro rfl;exact .inn _ _ esz o n c cp a (ZgP hn h) hn' ha
 |pnil=>intro _;exact .pnil
 |ptr l k o c h=>rintro rfl;exact .ptr _ _ o c (ZgP hn h)
 |eptrGone l k esz i o g a h=>rintro rfl;exact .eptrGone _ _ esz i o g a (ZgP hn h)
 |eptrOld l k esz i o g a m' c h hlt=>rintro rfl;exact .eptrOld _ _ esz i o g a m' c (ZgP hn h) hlt
 |eptr l k esz i o g c cap h=>rintro rfl;exact .eptr _ _ esz i o g c cap (ZgP hn h)
 |rptr es i o cb off esz u h1 h2 h3 h4 _=>intro _;exact .rptr es i o cb off esz u h1 h2 h3 h4
 |fnil=>intro _;exact .fnil
 |fn f first cap vf vc h1 h2 _ _ ih1 ih2=>
  intro e
  simp only[AV.imp]
  refine .fn f _ _ vf vc (by rw[Zby];exact h1) (by rw[Zby];exact h2) ?_ ?_
  ·intro i x v hx hv
   rw[Zci,mS]at hx
   obtain⟨y,hy,rfl⟩:=hx
   exact ih1 i y v hy hv e
  ·intro i x v hx hv
   rw[Zci,mS]at hx
   obtain⟨y,hy,rfl⟩:=hx
   exact ih2 i y v hy hv e
 |inil=>intro _;exact .inil
 |ifc t x v _ ih=>intro e;exact .ifc t _ v (ih e)
 |agg cs vs h1 h2 _ ih=>
  intro e
  simp only[AV.imp]
  refine .agg _ vs (by rw[Zby];exact h1) ?_ ?_
  ·intro x hx
   obtain⟨i,hi⟩:=List.mem_iff_getElem?.1 hx
   rw[Zci,mS]at hi
   obtain⟨y,hy,rfl⟩:=hi
   rw[ZhH];exact h2 y (List.mem_of_getElem? hy)
  ·intro i x v hx hv
   rw[Zci,mS]at hx
   obtain⟨y,hy,rfl⟩:=hx
   exact ih i y v hy hv e
 |tup xs vs h1 _ ih=>
  intro e
  simp only[AV.imp]
  refine .tup _ vs (by rw[Zby];exact h1) ?_
  intro i x v hx hv
  rw[Zci,mS]at hx
  obtain⟨y,hy,rfl⟩:=hx
  exact ih i y v hy hv e
 |dead v=>intro _;exact .dead v
theorem Zhd (kb:Nat) (f:Fra):∀ (R:Fra) (k:Nat),look (Zh8 kb R f) k=if kb≤k then (match look R (k - kb) with|some b=>some (b.imp kb)|none=>look f k) else look f k
 |[],k=>by simp[Zh8,look]
 |(c,b)::R,k=>by
  have ih:=Zhd kb f R k
  simp only[Zh8,ZdZ,ih,look]
  by_cases hk:kb+c=k
  ·subst hk
   simp
  ·by_cases hkb:kb≤k
   ·have:¬ c=k - kb:=by omega
    simp[hk,hkb,this]
   ·simp[hk,hkb]
theorem HR.imp {N0:Nat}{W0:World}{fm:FM}{t' h:Tie}{rest:List Tie}{R f:Fra}{H:Zam}{w:World} (hr:HR N0 W0 fm (t'::h::rest) (R::f::H) w) {kb:Nat} (hn:∀ k,kb≤k→h k=none):
  HR N0 W0 fm (Zgr kb t' h::rest) (Zh8 kb R f::H) w:=by
 have hT:ZaA (h::rest) (Zgr kb t' h::rest):=by
  intro l k
  cases l with
  |zero=>
   simp only[tb,Zgr]
   split
   ·rename_i hk;rw[hn k hk];trivial
   ·exact Zec.refl _
  |succ l=>exact Zec.refl _
 have src:∀ l k b,Zam.get (Zh8 kb R f::H) l k=some b→(l=0∧kb≤k∧∃ b0,look R (k - kb)=some b0∧b=b0.imp kb)∨
   (¬ (l=0∧kb≤k)∧Zam.get (R::f::H) (l+1) k=some b∧tb (Zgr kb t' h::rest) l k=tb (t'::h::rest) (l+1) k):=by
  intro l k b hg
  cases l with
  |zero=>
   simp only[Zam.get,Zhd]at hg
   by_cases hk:kb≤k
   ·rw[if_pos hk]at hg
    cases hR:look R (k - kb) with
    |some b0=>
     rw[hR]at hg
     exact .inl ⟨rfl,hk,b0,rfl,(oi hg).symm⟩
    |none=>
     rw[hR]at hg
     have:=hr.blk 1 k b (by simpa [Zam.get] using hg)
     simp only[tb,hn k hk]at this
     cases this
   ·rw[if_neg hk]at hg
    exact .inr ⟨fun hh=>hk hh.2,by simpa [Zam.get] using hg,by simp[tb,Zgr,hk]⟩
  |succ l=>exact .inr ⟨fun hh=>by omega,by simpa [Zam.get] using hg,by simp[tb]⟩
 have own:∀ k,kb≤k→tb (Zgr kb t' h::rest) 0 k=tb (t'::h::rest) 0 (k - kb):=by
  intro k hk;simp[tb,Zgr,hk]
 refine⟨by have:=hr.len;simp at this ⊢;exact this,?_,?_,hr.fms,?_,hr.bel,hr.size,hr.oth⟩
 ·intro l k b hg
  rcases src l k b hg with ⟨rfl,hk,b0,hb0,rfl⟩|⟨hne,hg',ht⟩
  ·rw[own k hk]
   have:=hr.blk 0 (k - kb) b0 (by simpa [Zam.get] using hb0)
   simp only[List.drop_zero]at this ⊢
   generalize tb (t'::h::rest) 0 (k - kb)=tt at this
   cases this with
   |box c cs hN hB=>
    obtain⟨cells,et,c1,c2,c3⟩:=hB
    refine .box c _ hN ⟨cells,et,c1,by rw[Zby];exact c2,?_⟩
    intro o x v hx hv
    rw[Zci,mS]at hx
    obtain⟨y,hy,rfl⟩:=hx
    have:=c3 o y v hy hv
    exact⟨by rw[ZhH];exact this.1,this.2.imp hn rfl⟩
   |nil et esz=>exact .nil et esz
   |arr et esz es c cap hN hA=>exact .arr et esz es c cap hN hA
  ·rw[ht]
   have:=hr.blk (l+1) k b hg'
   refine this.mono (Zdq.refl _) ?_ (fun _ _=>rfl)
   have e1:List.drop (l+1) (t'::h::rest)=List.drop l (h::rest):=by simp
   rw[e1]
   exact hT.drop l
 ·intro l1 k1 l2 k2 b1 b2 c g1 g2 t1 t2
  rcases src l1 k1 b1 g1 with ⟨rfl,hk1,b10,hb1,rfl⟩|⟨hne1,hg1,ht1⟩
  ·rw[own k1 hk1]at t1
   rcases src l2 k2 b2 g2 with ⟨rfl,hk2,b20,hb2,rfl⟩|⟨hne2,hg2,ht2⟩
   ·rw[own k2 hk2]at t2
    have:=hr.inj 0 (k1 - kb) 0 (k2 - kb) b10 b20 c (by simpa [Zam.get] using hb1) (by simpa [Zam.get] using hb2) t1 t2
    exact⟨rfl,by omega⟩
   ·rw[ht2]at t2
    have:=hr.inj 0 (k1 - kb) (l2+1) k2 b10 b2 c (by simpa [Zam.get] using hb1) hg2 t1 t2
    omega
  ·rw[ht1]at t1
   rcases src l2 k2 b2 g2 with ⟨rfl,hk2,b20,hb2,rfl⟩|⟨hne2,hg2,ht2⟩
   ·rw[own k2 hk2]at t2
    have:=hr.inj (l1+1) k1 0 (k2 - kb) b1 b20 c hg1 (by simpa [Zam.get] using hb2) t1 t2
    omega
   ·rw[ht2]at t2
    have:=hr.inj (l1+1) k1 (l2+1) k2 b1 b2 c hg1 hg2 t1 t2
    exact⟨by omega,this.2⟩
 ·intro l k b c o hg ht
  rcases src l k b hg with ⟨rfl,hk,b0,hb0,rfl⟩|⟨hne,hg',ht'⟩
  ·rw[own k hk]at ht
   exact hr.fmd 0 (k - kb) b0 c o (by simpa [Zam.get] using hb0) ht
  ·rw[ht']at ht
   exact hr.fmd (l+1) k b c o hg' ht
theorem VR.impJ {fm:FM}{kb:Nat}{t' h J:Tie}{rest:List Tie} (hn:∀ l k x,tb (t'::h::rest) l k=some x→tb (J::rest) (l - 1) (if l=0 then kb+k else k)=some x) {ts0:List Tie}{x:AV}{v:Value} (hv:VR fm ts0 x v):ts0=t'::h::rest→VR fm (J::rest) (x.imp kb) v:=by
 induction hv with
 |bool b=>intro _;exact .bool b
 |int k n=>intro _;exact .int k n
 |str s=>intro _;exact .str s
 |nil=>intro _;exact .nil
 |slNil e a cap=>intro _;exact .slNil e a cap
 |sl es cb off esz cap u hcap h1 h2 h3 h4 _=>intro _;exact .sl es cb off esz cap u hcap h1 h2 h3 h4
 |locGone l k esz i n g a cp h hn' ha=>rintro rfl;exact .locGone _ _ esz i n g a cp (hn _ _ _ h) hn' ha
 |locOld l k esz i n g a cp m' c h hlt hn' ha=>rintro rfl;exact .locOld _ _ esz i n g a cp m' c (hn _ _ _ h) hlt hn' ha
 |locNil l k esz a h=>rintro rfl;exact .locNil _ _ esz a (hn _ _ _ h)
 |loc l k esz i n g c cap cp a h hn' hnc hc ha=>rintro rfl;exact .loc _ _ esz i n g c cap cp a (hn _ _ _ h) hn' hnc hc ha
 |inn l k esz o n c cp a h hn' ha=>rintro rfl;exact .inn _ _ esz o n c cp a (hn _ _ _ h) hn' ha
 |pnil=>intro _;exact .pnil
 |ptr l k o c h=>rintro rfl;exact .ptr _ _ o c (hn _ _ _ h)
 |eptrGone l k esz i o g a h=>rintro rfl;exact .eptrGone _ _ esz i o g a (hn _ _ _ h)
 |eptrOld l k esz i o g a m' c h hlt=>rintro rfl;exact .eptrOld _ _ esz i o g a m' c (hn _ _ _ h) hlt
 |eptr l k esz i o g c cap h=>rintro rfl;exact .eptr _ _ esz i o g c cap (hn _ _ _ h)
 |rptr es i o cb off esz u h1 h2 h3 h4 _=>intro _;exact .rptr es i o cb off esz u h1 h2 h3 h4
 |fnil=>intro _;exact .fnil
 |fn f first cap vf vc h1 h2 _ _ ih1 ih2=>
  intro e
  simp only[AV.imp]
  refine .fn f _ _ vf vc (by rw[Zby];exact h1) (by rw[Zby];exact h2) ?_ ?_
  ·intro i x v hx hv
   rw[Zci,mS]at hx
   obtain⟨y,hy,rfl⟩:=hx
   exact ih1 i y v hy hv e
  ·intro i x v hx hv
   rw[Zci,mS]at hx
   obtain⟨y,hy,rfl⟩:=hx
   exact ih2 i y v hy hv e
 |inil=>intro _;exact .inil
 |ifc t x v _ ih=>intro e;exact .ifc t _ v (ih e)
 |agg cs vs h1 h2 _ ih=>
  intro e
  simp only[AV.imp]
  refine .agg _ vs (by rw[Zby];exact h1) ?_ ?_
  ·intro x hx
   obtain⟨i,hi⟩:=List.mem_iff_getElem?.1 hx
   rw[Zci,mS]at hi
   obtain⟨y,hy,rfl⟩:=hi
   rw[ZhH];exact h2 y (List.mem_of_getElem? hy)
  ·intro i x v hx hv
   rw[Zci,mS]at hx
   obtain⟨y,hy,rfl⟩:=hx
   exact ih i y v hy hv e
 |tup xs vs h1 _ ih=>
  intro e
  simp only[AV.imp]
  refine .tup _ vs (by rw[Zby];exact h1) ?_
  intro i x v hx hv
  rw[Zci,mS]at hx
  obtain⟨y,hy,rfl⟩:=hx
  exact ih i y v hy hv e
 |dead v=>intro _;exact .dead v
theorem HR.impJ {N0:Nat}{W0:World}{fm:FM}{t' h J:Tie}{rest:List Tie}{R f:Fra}{H:Zam}{w:World} (hr:HR N0 W0 fm (t'::h::rest) (R::f::H) w) {kb:Nat} (h1:∀ k x,t' k=some x→J (kb+k)=some x) (h2:∀ k x,h k=some x→J k=some x):
  HR N0 W0 fm (J::rest) (Zh8 kb R f::H) w:=by
 have hJ:∀ l k x,tb (t'::h::rest) l k=some x→tb (J::rest) (l - 1) (if l=0 then kb+k else k)=some x:=by
  intro l k x e
  cases l with
  |zero=>simpa [tb] using h1 k x (by simpa [tb] using e)
  |succ l=>
   cases l with
   |zero=>simpa [tb] using h2 k x (by simpa [tb] using e)
   |succ l=>simpa [tb] using e
 have hT:ZaA (h::rest) (J::rest):=by
  intro l k
  cases l with
  |zero=>
   simp only[tb]
   cases hh:h k with
   |none=>trivial
   |some x=>rw[h2 k x hh];exact Zec.refl _
  |succ l=>exact Zec.refl _
 have src:∀ l k b,Zam.get (Zh8 kb R f::H) l k=some b→(l=0∧kb≤k∧∃ b0,look R (k - kb)=some b0∧b=b0.imp kb∧tb (J::rest) l k=tb (t'::h::rest) 0 (k - kb))∨
   (Zam.get (R::f::H) (l+1) k=some b∧tb (J::rest) l k=tb (t'::h::rest) (l+1) k∧¬ (l=0∧kb≤k∧∃ b0,look R (k - kb)=some b0)):=by
  intro l k b hg
  have old:Zam.get (R::f::H) (l+1) k=some b→tb (J::rest) l k=tb (t'::h::rest) (l+1) k:=by
   intro hg
   have hb:=hr.blk (l+1) k b hg
   cases ht:tb (t'::h::rest) (l+1) k with
   |none=>rw[ht]at hb;cases hb
   |some x=>have:=hJ (l+1) k x ht;simpa using this
  cases l with
  |zero=>
   simp only[Zam.get,Zhd]at hg
   by_cases hk:kb≤k
   ·rw[if_pos hk]at hg
    cases hR:look R (k - kb) with
    |some b0=>
     rw[hR]at hg
     refine .inl ⟨rfl,hk,b0,rfl,(oi hg).symm,?_⟩
     have hb:=hr.blk 0 (k - kb) b0 (by simpa [Zam.get] using hR)
     cases ht:tb (t'::h::rest) 0 (k - kb) with
     |none=>rw[ht]at hb;cases hb
     |some x=>
      have:=hJ 0 (k - kb) x ht
      simp only[if_true]at this
      rw[show kb+(k - kb)=k by omega]at this
      exact this
    |none=>
     rw[hR]at hg
     have hg':Zam.get (R::f::H) (0+1) k=some b:=by simpa [Zam.get] using hg
     exact .inr ⟨hg',old hg',fun hh=>by obtain⟨_,_,b0,e⟩:=hh;cases e⟩
   ·rw[if_neg hk]at hg
    have hg':Zam.get (R::f::H) (0+1) k=some b:=by simpa [Zam.get] using hg
    exact .inr ⟨hg',old hg',fun hh=>hk hh.2.1⟩
  |succ l=>
   have hg':Zam.get (R::f::H) (l+1+1) k=some b:=by simpa [Zam.get] using hg
   exact .inr ⟨hg',old hg',fun hh=>by omega⟩
 refine⟨by have:=hr.len;simp at this ⊢;exact this,?_,?_,hr.fms,?_,hr.bel,hr.size,hr.oth⟩
 ·intro l k b hg
  rcases src l k b hg with ⟨rfl,hk,b0,hb0,rfl,ht⟩|⟨hg',ht,_⟩
  ·rw[ht]
   have:=hr.blk 0 (k - kb) b0 (by simpa [Zam.get] using hb0)
   simp only[List.drop_zero]at this ⊢
   generalize tb (t'::h::rest) 0 (k - kb)=tt at this
   cases this with
   |box c cs hN hB=>
    obtain⟨cells,et,c1,c2,c3⟩:=hB
    refine .box c _ hN ⟨cells,et,c1,by rw[Zby];exact c2,?_⟩
    intro o x v hx hv
    rw[Zci,mS]at hx
    obtain⟨y,hy,rfl⟩:=hx
    have:=c3 o y v hy hv
    exact⟨by rw[ZhH];exact this.1,this.2.impJ hJ rfl⟩
   |nil et esz=>exact .nil et esz
   |arr et esz es c cap hN hA=>exact .arr et esz es c cap hN hA
  ·rw[ht]
   have:=hr.blk (l+1) k b hg'
   refine this.mono (Zdq.refl _) ?_ (fun _ _=>rfl)
   have e1:List.drop (l+1) (t'::h::rest)=List.drop l (h::rest):=by simp
   rw[e1]
   exact hT.drop l
 ·intro l1 k1 l2 k2 b1 b2 c g1 g2 t1 t2
  rcases src l1 k1 b1 g1 with ⟨rfl,hk1,b10,hb1,_,e1⟩|⟨hg1,e1,n1⟩
  ·rw[e1]at t1
   rcases src l2 k2 b2 g2 with ⟨rfl,hk2,b20,hb2,_,e2⟩|⟨hg2,e2,n2⟩
   ·rw[e2]at t2
    have:=hr.inj 0 (k1 - kb) 0 (k2 - kb) b10 b20 c (by simpa [Zam.get] using hb1) (by simpa [Zam.get] using hb2) t1 t2
    exact⟨rfl,by omega⟩
   ·rw[e2]at t2
    have:=hr.inj 0 (k1 - kb) (l2+1) k2 b10 b2 c (by simpa [Zam.get] using hb1) hg2 t1 t2
    omega
  ·rw[e1]at t1
   rcases src l2 k2 b2 g2 with ⟨rfl,hk2,b20,hb2,_,e2⟩|⟨hg2,e2,n2⟩
   ·rw[e2]at t2
    have:=hr.inj (l1+1) k1 0 (k2 - kb) b1 b20 c hg1 (by simpa [Zam.get] using hb2) t1 t2
    omega
   ·rw[e2]at t2
    have:=hr.inj (l1+1) k1 (l2+1) k2 b1 b2 c hg1 hg2 t1 t2
    exact⟨by omega,this.2⟩
 ·intro l k b c o hg ht
  rcases src l k b hg with ⟨rfl,hk,b0,hb0,_,e⟩|⟨hg',e,_⟩
  ·rw[e]at ht
   exact hr.fmd 0 (k - kb) b0 c o (by simpa [Zam.get] using hb0) ht
  ·rw[e]at ht
   exact hr.fmd (l+1) k b c o hg' ht
end Go.Abs
namespace Go.Abs
open Go Go.RowKit
set_option linter.unusedSectionVars false
section
variable [Md] {P:Program}{T:Tys}{N0:Nat}{W0:World}{n:Nat}{fm:FM}{ts:List Tie}
theorem Sim.nil_inv {todo:List It}{ct:List CIt} (h:Sim N0 W0 n fm ts todo ct):todo=[]→∀ {Q:Exit→Act→World→Prop}{a w},Q .normal a w→K P Q ct .normal a w:=by
 induction h with
 |nil=>intro _ Q a w h;exact h
 |scp _ ih=>intro e Q a w h;exact ih e h
 |_=>intro e;cases e
theorem Sim.blk_inv {todo:List It}{ct:List CIt} (h:Sim N0 W0 n fm ts todo ct):∀ {id:Nat}{t:List It},todo=.blk id::t→∃ ct',Sim N0 W0 n fm ts t ct'∧∀ {Q:Exit→Act→World→Prop}{a w},K P Q ct' .normal a w→K P Q ct .normal a w:=by
 induction h with
 |blk ht _=>intro id t e;cases e;exact⟨_,ht,fun h=>h⟩
 |scp _ ih=>intro id t e;obtain⟨ct',h1,h2⟩:=ih e;exact⟨ct',h1,fun h=>h2 h⟩
 |_=>intro id t e;cases e
theorem Sim.back_inv {todo:List It}{ct:List CIt} (h:Sim N0 W0 n fm ts todo ct):∀ {B:St→Prop}{t:List It},todo=.back B::t→∀ {Q:Exit→Act→World→Prop}{st a w},SR N0 W0 n st a w fm ts→B st→K P Q ct .normal a w:=by
 induction h with
 |back h ht _=>intro B t e;cases e;intro Q st a w hS hB;exact h _ _ _ _ _ hB hS (Later.refl _ _)
 |scp _ ih=>intro B t e Q st a w hS hB;exact ih e hS hB
 |_=>intro B t e;cases e
theorem Sim.ops_inv {todo:List It}{ct:List CIt} (h:Sim N0 W0 n fm ts todo ct):∀ {l:List SOp}{t:List It},todo=.ops l::t→
  ∃ arr is ct',l.map Zdi=is.map (fun i=>ZcV n arr (arr.getD i default))∧(∀ i∈is,i<arr.size)∧(∀ o∈l,∀ d,o.dst=some d→d<n)∧Sim N0 W0 n fm ts t ct'∧
   ∀ {Q:Exit→Act→World→Prop}{a w},wpOpsIn FW 0 P arr (K P Q ct') is a w→K P Q ct .normal a w:=by
 induction h with
 |ops h hi hf ht _=>intro l t e;cases e;exact⟨_,_,_,h,hi,hf,ht,fun h=>h⟩
 |scp _ ih=>intro l t e;obtain⟨arr,is,ct',h1,h2,h3,h4,h5⟩:=ih e;exact⟨arr,is,ct',h1,h2,h3,h4,fun h=>h5 h⟩
 |_=>intro l t e;cases e
theorem Zv6 (n:Nat):∀ (c:Code) (t:List It) (ct:List CIt),Sim N0 W0 n fm ts t ct→∃ c' ct',(∀ b,c'≠.scope b)∧Zba n c'=Zba n c∧Sim N0 W0 n fm ts t ct'∧∀ {Q:Exit→Act→World→Prop}{a w},K P Q (.code c'::ct') .normal a w→K P Q (.code c::ct) .normal a w
 |.scope b,t,ct,h=>by
  obtain⟨c',ct',h1,h2,h3,h4⟩:=Zv6 n b t (.scp::ct) (.scp h)
  exact⟨c',ct',h1,by rw[h2];rfl,h3,fun h=>ZrC (h4 h)⟩
 |.skip,t,ct,h=>⟨.skip,ct,by simp,rfl,h,fun h=>h⟩
 |.region a b c,t,ct,h=>⟨.region a b c,ct,by simp,rfl,h,fun h=>h⟩
 |.seq a b,t,ct,h=>⟨.seq a b,ct,by simp,rfl,h,fun h=>h⟩
 |.cond a b c,t,ct,h=>⟨.cond a b c,ct,by simp,rfl,h,fun h=>h⟩
 |.block a b,t,ct,h=>⟨.block a b,ct,by simp,rfl,h,fun h=>h⟩
 |.loop a,t,ct,h=>⟨.loop a,ct,by simp,rfl,h,fun h=>h⟩
 |.rangeFunc a b c d,t,ct,h=>⟨.rangeFunc a b c d,ct,by simp,rfl,h,fun h=>h⟩
 |.exit a,t,ct,h=>⟨.exit a,ct,by simp,rfl,h,fun h=>h⟩
 |.label a,t,ct,h=>⟨.label a,ct,by simp,rfl,h,fun h=>h⟩
 |.goto a,t,ct,h=>⟨.goto a,ct,by simp,rfl,h,fun h=>h⟩
 |.ret,t,ct,h=>⟨.ret,ct,by simp,rfl,h,fun h=>h⟩
 |.refuse a,t,ct,h=>⟨.refuse a,ct,by simp,rfl,h,fun h=>h⟩
theorem Sim.sc_inv {todo:List It}{ct:List CIt} (h:Sim N0 W0 n fm ts todo ct):∀ {s:SC}{t:List It},todo=.sc s::t→
  ∃ c ct',(∀ b,c≠.scope b)∧s.bare=Zba n c∧(Zba n c).fits n=true∧Sim N0 W0 n fm ts t ct'∧∀ {Q:Exit→Act→World→Prop}{a w},K P Q (.code c::ct') .normal a w→K P Q ct .normal a w:=by
 induction h with
 |sc h hf ht _=>
  intro s t e;cases e
  obtain⟨c',ct',h1,h2,h3,h4⟩:=Zv6 (P:=P) n _ _ _ ht
  exact⟨c',ct',h1,by rw[h2];exact h,by rw[h2];exact hf,h3,fun h=>h4 h⟩
 |scp _ ih=>intro s t e;obtain⟨c,ct',h1,h2,h3,h4,h5⟩:=ih e;exact⟨c,ct',h1,h2,h3,h4,fun h=>h5 h⟩
 |_=>intro s t e;cases e
theorem Sim.exits {todo:List It}{ct:List CIt} (h:Sim N0 W0 n fm ts todo ct) (id:Nat):
  (∀ t,Zca id todo=some t→∃ ct',Sim N0 W0 n fm ts t ct'∧∀ {Q:Exit→Act→World→Prop}{a w},K P Q ct' .normal a w→K P Q ct (.exit id) a w)∧
  (Zca id todo=none→∀ {Q:Exit→Act→World→Prop}{a w},Q (.exit id) a w→K P Q ct (.exit id) a w):=by
 induction h with
 |nil=>exact⟨fun t e=>by simp[Zca]at e,fun _ Q a w h=>h⟩
 |sc _ _ _ ih=>exact⟨fun t e=>ih.1 t (by simpa [Zca] using e),fun e Q a w h=>ih.2 (by simpa [Zca] using e) h⟩
 |@blk id' t ct ht ih=>
  by_cases hid:id=id'
  ·subst hid
   refine⟨fun t' e=>?_,fun e=>by simp[Zca]at e⟩
   simp only[Zca,if_true,oE]at e
   subst e
   exact⟨ct,ht,fun h=>by simp only[K,if_true];exact h⟩
  ·refine⟨fun t' e=>?_,fun e Q a w h=>?_⟩
   ·simp only[Zca,if_neg hid]at e
    obtain⟨ct',h1,h2⟩:=ih.1 t' e
    exact⟨ct',h1,fun h=>by simp only[K,if_neg hid];exact h2 h⟩
   ·simp only[Zca,if_neg hid]at e
    simp only[K,if_neg hid]
    exact ih.2 e h
 |scp _ ih=>exact⟨fun t e=>by obtain⟨ct',h1,h2⟩:=ih.1 t e;exact⟨ct',h1,fun h=>h2 h⟩,fun e Q a w h=>ih.2 e h⟩
 |ops _ _ _ _ ih=>exact⟨fun t e=>ih.1 t (by simpa [Zca] using e),fun e Q a w h=>ih.2 (by simpa [Zca] using e) h⟩
 |back _ _ ih=>exact⟨fun t e=>ih.1 t (by simpa [Zca] using e),fun e Q a w h=>ih.2 (by simpa [Zca] using e) h⟩
theorem Zix (n:Nat) (ops:Array Oper):ops.toList.map (ZcV n ops)=(List.range ops.size).map fun i=>ZcV n ops (ops.getD i default):=by
 apply List.ext_getElem?
 intro i
 simp only[List.getElem?_map,Array.getElem?_toList]
 by_cases hi:i<ops.size
 ·simp[hi,Array.getD]
 ·simp[hi]
theorem SR.took {n:Nat}{st:St}{a:Act}{w w':World} (h:SR N0 W0 n st a w fm ts) {v:Value}{av:AV}{fr':Fra}{H':Zam}{fm':FM}{t':Tie}{ts':List Tie}
  (hr:HR N0 W0 fm' (t'::ts') (fr'::H') w') (hv:VR fm' (t'::ts') av v) (hf:FmUp N0 fm fm') (hl:ZaA ts ts') (hn:∀ l k,tb ts l k=none→tb ts' l k=none) (h16:∀ k,16≤k→t' k=none)
  (ZbS:H'.length=st.low.length+1) {dst:Option Tmp} (hd:∀ d,dst=some d→d<n) (drop:List Nat):
  ∃ ts2,SR N0 W0 n (st.took dst drop av fr' H') (a.put dst v) w' fm' ts2∧Later N0 fm ts fm' ts2:=by
 cases H' with
 |nil=>simp at ZbS
 |cons f H'=>
  cases ts' with
  |nil=>have:=hr.len;simp at this
  |cons h0 rest=>
   have hnx:∀ k,st.nx≤k→h0 k=none:=by
    intro k hk
    have:=hn 0 k (h.nx k hk)
    simpa [tb] using this
   have hT:ZaA (h0::rest) (Zgr st.nx t' h0::rest):=by
    intro l k
    cases l with
    |zero=>
     simp only[tb,Zgr]
     split
     ·rename_i hk;rw[hnx k hk];trivial
     ·exact Zec.refl _
    |succ l=>exact Zec.refl _
   refine⟨Zgr st.nx t' h0::rest,⟨hr.imp hnx,?_,?_,by rw[ZgK];exact h.size,by rw[Zhi];exact h.dfr⟩,⟨hf,?_,?_⟩⟩
   ·exact(h.tm.mono hf.le (hl.trans hT)).put (hv.imp hnx rfl) (by rw[h.size];exact hd) drop
   ·intro k hk
    have hk':st.nx+16≤k:=hk
    simp only[tb,Zgr]
    rw[if_pos (by omega)]
    exact h16 _ (by omega)
   ·have:=hl.drop 1;simpa using this
   ·intro l k e
    rw[Zbg]at e
    have:=hn (l+1) k e
    simpa [tb] using this
theorem SR.lost {n:Nat}{st:St}{a:Act}{w w':World} (h:SR N0 W0 n st a w fm ts) {H':Zam}{fm':FM}{ts':List Tie}
  (hr:HR N0 W0 fm' ts' H' w') (hf:FmUp N0 fm fm') (hl:ZaA ts ts') (hn:∀ l k,tb ts l k=none→tb ts' l k=none) (ZbS:H'.length=st.low.length+1):
  SR N0 W0 n (st.withHeap H') a w' fm' ts'∧Later N0 fm ts fm' ts':=by
 cases H' with
 |nil=>simp at ZbS
 |cons f H'=>
  refine⟨⟨hr,h.tm.mono hf.le hl,fun k hk=>hn 0 k (h.nx k hk),h.size,h.dfr⟩,⟨hf,hl.drop 1,?_⟩⟩
  intro l k e
  rw[Zbg]at e ⊢
  exact hn _ k e
theorem ZsM {t e:TypeId}{a:Option Addr}{n c m:Nat}{w:World} (hun:P.underlying t=some (.slice e)):(Op.equalIn (m+1) t (.slice a n c) (.slice none 0 0)).run P w=.ok a.isNone w:=by
 cases a<;>simp only[Op.equalIn,Sem.run_bind,run_underlying hun,Result.andThen_ok]<;>rfl
theorem Zun {t e:TypeId}{a:Option Addr}{n c:Nat}{w:World} (hun:P.underlying t=some (.slice e)):(binOp .eql t (.slice a n c) (.slice none 0 0)).run P w=.ok (.bool a.isNone) w:=by
 have h:(Op.equalIn Op.maxDepth t (.slice a n c) (.slice none 0 0)).run P w=.ok a.isNone w:=ZsM hun
 simp[binOp,Op.equal,h]
theorem Zag (hT:ZaL P T) {Φ:Exit→St→Prop}:∀ (m:Nat) (todo:List It) (st:St),ZbX P n Φ (run T m todo st)→AK P n Φ todo st
 |0,todo,st,h=>by simp only[run,ZbX]at h
 |m+1,[],st,h=>by
  intro N0 W0 fm ts a w ct Q hS hsim hQ
  simp only[run,ZbX]at h
  exact hsim.nil_inv rfl (hQ _ _ _ _ _ _ h hS (Later.refl _ _))
 |m+1,.back B::t,st,h=>by
  intro N0 W0 fm ts a w ct Q hS hsim hQ
  simp only[run,ZbX]at h
  exact hsim.back_inv rfl hS h
 |m+1,.blk id::t,st,h=>by
  intro N0 W0 fm ts a w ct Q hS hsim hQ
  simp only[run]at h
  obtain⟨ct',h1,h2⟩:=hsim.blk_inv (P:=P) rfl
  exact h2 (Zag hT m t st h N0 W0 fm ts a w ct' Q hS h1 hQ)
 |m+1,.ops []::t,st,h=>by
  intro N0 W0 fm ts a w ct Q hS hsim hQ
  simp only[run]at h
  obtain⟨arr,is,ct',h1,h2,h3,h4,h5⟩:=hsim.ops_inv (P:=P) rfl
  cases is with
  |nil=>exact h5 (Zag hT m t st h N0 W0 fm ts a w ct' Q hS h4 hQ)
  |cons=>simp at h1
 |m+1,.ops (o::os)::t,st,h=>by
  intro N0 W0 fm ts a w ct Q hS hsim hQ
  obtain⟨arr,is,ct',h1,h2,h3,h4,h5⟩:=hsim.ops_inv (P:=P) rfl
  cases is with
  |nil=>simp at h1
  |cons i is=>
   simp only[List.map_cons,List.cons.injEq]at h1
   obtain⟨h1,h1'⟩:=h1
   have hi:i<arr.size:=h2 i List.mem_cons_self
   have ZgT:arr[i]?=some arr[i]:=Array.getElem?_eq_getElem hi
   have hgd:arr.getD i default=arr[i]:=by simp[Array.getD,hi]
   rw[hgd]at h1
   simp only[Zdi,ZcV,SOp.mk.injEq,and_true]at h1
   obtain⟨hdst,hop,hty,hgu⟩:=h1
   have hd:∀ d,o.dst=some d→d<n:=h3 o List.mem_cons_self
   have hsim':∀ {fm' ts'},Later N0 fm ts fm' ts'→Sim N0 W0 n fm' ts' (.ops os::t) (.ops arr is::ct'):=fun hl=>
    (Sim.ops h1' (fun j hj=>h2 j (List.mem_cons_of_mem _ hj)) (fun o ho=>h3 o (List.mem_cons_of_mem _ ho)) h4).later hl
   apply h5
   simp only[wpOpsIn,ZgT]
   have doit:∀ (m':Nat),(∀ todo st,ZbX P n Φ (run T m' todo st)→AK P n Φ todo st)→ZbX P n Φ (Zu9 T (run T m') o (.ops os::t) st)→(arr[i]).wpIn FW 0 P a w (wpOpsIn FW 0 P arr (K P Q ct') is) (K P Q ct'):=by
    intro m' ihm h
    unfold Zu9 at h
    split at h
    ·
     rename_i c hc
     unfold ZcM at hc
     split at hc
     ·rename_i c' hoc
      split at hc
      ·cases hc
      ·rename_i hnb
       obtain rfl:=oi hc
       unfold ZjC at h
       split at h
       ·rename_i g args hcal
        simp only[ZbX]at h
        obtain⟨st1,args1,R,Rp,hmv,⟨⟨fn,hfn,hnm,hbd⟩,hac⟩,hk,hpk⟩:=h
        unfold callee at hcal
        split at hcal
        ·rename_i f hcf
         split at hcal
         ·rename_i g' first cap xs hof hxs
          simp only[oE,Prod.mk.injEq]at hcal
          obtain⟨rfl,rfl⟩:=hcal
          have hvf:=Zct hS.tm hof
          have hvx:=Zcj hS.tm _ _ hxs
          obtain⟨vf,vc,hev,hl1,hl2,hp1,hp2⟩:∃ vf vc,a.eval f=.func (.func g') vf vc∧first.length=vf.size∧cap.length=vc.size∧(∀ (i:Nat) x v,first[i]?=some x→vf[i]?=some v→VR fm ts x v)∧(∀ (i:Nat) x v,cap[i]?=some x→vc[i]?=some v→VR fm ts x v):=by
           generalize a.eval f=z at hvf
           cases hvf with
           |fn _ _ _ vf vc h1 h2 h3 h4=>exact⟨vf,vc,rfl,h1,h2,h3,h4⟩
          have hargs:VRs fm ts (first++(xs++cap)) (vf.toList++(c'.args.toList.map a.eval++vc.toList)):=by
           refine VRs.append ⟨by simpa using hl1,fun i x v p q=>hp1 i x v p (by simpa using q)⟩ (VRs.append hvx ⟨by simpa using hl2,fun i x v p q=>hp2 i x v p (by simpa using q)⟩)
          have hargs':VRs fm (Zcc::ts) (AV.shL 1 (first++(xs++cap))) (vf.toList++(c'.args.toList.map a.eval++vc.toList)):=by
           refine⟨by rw[Zb6];exact hargs.1,?_⟩
           intro i x v hx hv
           rw[Zdv,mS]at hx
           obtain⟨y,hy,rfl⟩:=hx
           exact(hargs.2 i y v hy hv).sh 1 (by simp)
          obtain⟨fm1,ts1,hS1,hL1,hargs1⟩:=hmv N0 W0 a w fm ts _ hS hargs'
          have hcalls:=hac N0 W0 fm1 ts1 w _ hS1.hr hargs1
          have hoc':(arr[i]).op=.call c':=by rw[←hop];exact hoc
          have hrun:(execOp a.eval arr[i]).run P w=.ok (.enter g' ((vf.toList++(c'.args.toList.map a.eval++vc.toList)).toArray)) w:=by
           have e1:vf++Array.map a.eval c'.args++vc=(vf.toList++(c'.args.toList.map a.eval++vc.toList)).toArray:=by
            apply Array.toList_inj.1;simp
           simp only[execOp,hoc',resolve,hcf,Sem.run_bind,Deferred.ofValue,hev,Sem.run_pure,Result.andThen_ok,invoke,callFunc,run_program,hfn,hnm,hbd,Bool.false_eq_true,if_false,e1]
          refine Zeu (fun c0 h0=>by rw[hoc']at h0;cases h0) hrun ?_
          refine Calls.mono hcalls ?_
          rintro e w' (⟨v,av,fr',H',fm',t',ts',rfl,hR,hlen0,hhr,hvr,hfl,htl,hno,h16⟩|⟨ch,H',fm',ts',rfl,hR,hlen0,hhr,hfl,htl,hno⟩)
          ·have ZbS:H'.length=st1.low.length+1:=by simpa using hlen0
           obtain⟨ts2,hS2,hL2⟩:=hS1.took hhr hvr hfl htl hno h16 ZbS hd o.drop
           have hak:=hk av fr' H' hR N0 W0 fm' ts2 _ w' (.ops arr is::ct') Q hS2 (hsim' (hL1.trans hL2)) (fun e st' a' w' fm3 ts3 hΦ hS3 hL3=>hQ e st' a' w' fm3 ts3 hΦ hS3 ((hL1.trans hL2).trans hL3))
           rw[hdst]at hak
           exact hak
          ·have ZbS:H'.length=st1.low.length+1:=by simpa using hlen0
           obtain⟨hS2,hL2⟩:=hS1.lost hhr hfl htl hno ZbS
           exact Zc0 (hQ _ _ _ _ _ _ (hpk ch H' hR) hS2 (hL1.trans hL2)) ct'
         ·cases hcal
        ·cases hcal
       ·simp only[ZbX]at h
     ·cases hc
    ·
     split at h
     ·
      rename_i x hpx
      unfold ZlB at hpx
      split at hpx
      ·rename_i x' hox
       obtain rfl:=oi hpx
       unfold Zpx at h
       split at h
       ·rename_i v hv
        simp only[ZbX]at h
        obtain⟨t0,x0,rfl,hk⟩:=h
        have hvr:=Zct hS.tm hv
        have hox':(arr[i]).op=.panic x':=by rw[←hop];exact hox
        generalize hev:a.eval x'=z at hvr
        cases hvr with
        |ifc _ _ u hu=>
         have hrun:(execOp a.eval arr[i]).run P w=.halt (.panic (.iface t0 u)) w:=by
          simp only[execOp,hox',hev,Instr.panic,goPanic]
          rfl
         refine Znv (fun c0 h0=>by rw[hox']at h0;cases h0) hrun ?_
         exact Zc0 (hQ _ _ _ _ _ _ (hk fm ts u hu) hS (Later.refl _ _)) ct'
       ·simp only[ZbX]at h
      ·cases hpx
     cases hne:ZqO T o.op (look st.tm) with
     |some es=>
      rw[hne]at h
      simp only[ZgH,ZbX]at h
      obtain⟨hk1,hk2⟩:=h
      unfold ZqO at hne
      split at hne
      ·rename_i tt x ty0 hoo
       split at hne
       ·rename_i ti hti
        split at hne
        ·rename_i el hd0
         split at hne
         ·rename_i ez es' hx
          obtain rfl:=oi hne
          obtain⟨hun,_⟩:=hT.slice hti hd0
          obtain⟨v,hv,hvr⟩:=hS.tm x _ hx
          obtain⟨aa,nn,cc,rfl,hnil⟩:∃ aa nn cc,v=.slice aa nn cc∧(aa=none→es'=[]):=by
           cases hvr with
           |slNil=>exact⟨_,_,_,rfl,fun _=>rfl⟩
           |sl=>exact⟨_,_,_,rfl,fun h=>by cases h⟩
          have hev:a.eval (.tmp x)=.slice aa nn cc:=by simp[Act.eval,hv,Array.getD_eq_getD_getElem?]
          have hoo':(arr[i]).op=.binOp .eql tt (.tmp x) (.const (.slice none 0 0)) ty0:=by rw[←hop];exact hoo
          have hrun:(execOp a.eval arr[i]).run P w=.ok (.value (.bool aa.isNone)) w:=by
           have h1:=Zun (P:=P) (a:=aa) (n:=nn) (c:=cc) (w:=w) hun
           have h2:a.eval (.const (.slice none 0 0))=.slice none 0 0:=by simp[Act.eval]
           simp only[execOp,hoo',hev,h2]
           exact Zb9 h1
          have ho:∀ b:Bool,aa.isNone=b→Out N0 W0 fm ts (st.fr::st.low) w st.nx ((execOp a.eval arr[i]).run P w) ⟨.bool b,[]⟩ fm ts w (.bool b):=fun b hb=>
           ⟨.inl (by rw[hrun,hb]),hS.hr,.bool b,FmUp.refl _ _,ZaA.refl _,fun _ _ _ h=>h⟩
          refine ZfA (fun c0 h0=>by rw[hoo']at h0;cases h0) hrun ?_
          cases hb:aa.isNone with
          |true=>
           obtain⟨hS2,hL2⟩:=hS.by (ho true hb) hd o.drop
           have hes:es'=[]:=hnil (by simpa using hb)
           have hak:=hk1 hes N0 W0 fm ts _ w (.ops arr is::ct') Q hS2 (hsim' hL2) (fun e st' a' w' fm3 ts3 hΦ hS3 hL3=>hQ e st' a' w' fm3 ts3 hΦ hS3 (hL2.trans hL3))
           rw[hdst]at hak
           exact hak
          |false=>
           obtain⟨hS2,hL2⟩:=hS.by (ho false hb) hd o.drop
           have hak:=hk2 N0 W0 fm ts _ w (.ops arr is::ct') Q hS2 (hsim' hL2) (fun e st' a' w' fm3 ts3 hΦ hS3 hL3=>hQ e st' a' w' fm3 ts3 hΦ hS3 (hL2.trans hL3))
           rw[hdst]at hak
           exact hak
         ·cases hne
        ·cases hne
       ·cases hne
      ·cases hne
     |none=>
     rw[hne]at h
     simp only[ZgH]at h
     unfold next at h
     split at h
     ·rename_i d hde
      have hG:st.get=Zam.get (st.fr::st.low):=rfl
      rw[hop,hty,hG]at hde
      obtain⟨fm',ts',w',v,ho⟩:=ZiX (P:=P) hT hS.hr (by simp) (fun k h1 _=>hS.nx k h1) hS.tm hde
      obtain⟨hS2,hL2⟩:=hS.by ho hd o.drop
      have hak:=ihm _ _ h N0 W0 fm' ts' _ w' (.ops arr is::ct') Q hS2 (hsim' hL2) (fun e st' a' w' fm3 ts3 hΦ hS3 hL3=>hQ e st' a' w' fm3 ts3 hΦ hS3 (hL2.trans hL3))
      rw[hdst]at hak
      have hnd:∀ c,(arr[i]).op≠.defer c:=fun c0 h0=>by rw[h0]at hde;simp[ZcN]at hde
      rcases ho.done with hr|⟨hr,rfl⟩
      ·exact ZfA hnd hr hak
      ·exact ZkM hnd hr hak
     ·simp only[ZbX]at h
   have past:∀ (m':Nat),(∀ todo st,ZbX P n Φ (run T m' todo st)→AK P n Φ todo st)→ZbX P n Φ (run T m' (.ops os::t) (st.past o))→wpOpsIn FW 0 P arr (K P Q ct') is (a.put (arr[i]).dst undef) w:=by
    intro m' ihm h
    have hS2:=hS.past hd
    have hak:=ihm _ _ h N0 W0 fm ts _ w (.ops arr is::ct') Q hS2 (hsim' (Later.refl _ _)) hQ
    rw[hdst]at hak
    exact hak
   cases hg:o.guard with
   |none=>
    rw[hg]at hgu
    have hw:Region.wanted arr[i] (yielded arr a.tmps)=true:=by
     have:(arr[i]).guard=none:=by
      cases hh:(arr[i]).guard with
      |none=>rfl
      |some g=>rw[hh]at hgu;cases hgu
     simp[Region.wanted,this]
    simp only[run,hg]at h
    rw[if_pos hw]
    exact doit m (Zag hT m) h
   |some g=>
    obtain⟨g,want⟩:=g
    rw[hg]at hgu
    obtain⟨j,hj,hjg⟩:∃ j,(arr[i]).guard=some (j,want)∧(((arr[j]?).bind (·.dst)).getD n)=g:=by
     cases hh:(arr[i]).guard with
     |none=>rw[hh]at hgu;cases hgu
     |some p=>
      rw[hh]at hgu
      simp only[Option.map_some,oE,Prod.mk.injEq]at hgu
      exact⟨p.1,by rw[hgu.2],hgu.1.symm⟩
    have hyl:∀ v,a.tmps[g]?=some v→yielded arr a.tmps j=match v with|.bool b=>some b|_=>none:=by
     intro v hv
     unfold yielded
     cases hb:(arr[j]?).bind (·.dst) with
     |none=>
      rw[hb]at hjg
      simp only[Option.getD_none]at hjg
      have:=(Array.getElem?_eq_some_iff.1 hv).1
      rw[hS.size]at this
      subst hjg
      exact absurd this (Nat.lt_irrefl _)
     |some dd=>
      rw[hb]at hjg
      simp only[Option.getD_some]at hjg
      subst hjg
      simp only[Option.bind_some,hv]
      cases v<;>rfl
    simp only[run,hg]at h
    split at h
    ·rename_i b hb
     obtain⟨v,hv,hvr⟩:=hS.tm g _ hb
     cases hvr
     have hw:Region.wanted arr[i] (yielded arr a.tmps)=(b==want):=by
      simp[Region.wanted,hj,hyl _ hv]
     rw[hw]
     cases hbw:(b==want) with
     |true=>
      rw[hbw,ZjM]at h
      rw[if_pos rfl]
      cases m with
      |zero=>simp only[run,ZbX]at h
      |succ m=>
       simp only[run]at h
       exact doit m (Zag hT m) h
     |false=>
      rw[hbw,Zi8]at h
      simp only[Bool.false_eq_true,if_false]
      exact⟨fun _ _=>trivial,past m (Zag hT m) h⟩
    ·rename_i hb
     obtain⟨v,hv,hvr⟩:=hS.tm g _ hb
     have hw:Region.wanted arr[i] (yielded arr a.tmps)=false:=by
      have:yielded arr a.tmps j=none:=by rw[hyl _ hv];cases hvr;rfl
      simp[Region.wanted,hj,this]
     rw[hw]
     simp only[Bool.false_eq_true,if_false]
     exact⟨fun _ _=>trivial,past m (Zag hT m) h⟩
    ·simp only[ZbX]at h
 |m+1,.sc s::t,st,h=>by
  intro N0 W0 fm ts a w ct Q hS hsim hQ
  obtain⟨c,ct',hns,hb,hf,ht,hK⟩:=hsim.sc_inv (P:=P) rfl
  apply hK
  cases s with
  |skip=>
   simp only[run]at h
   have:=Zag hT m t st h N0 W0 fm ts a w ct' Q hS ht hQ
   cases c<;>simp only[SC.bare,Zba,reduceCtorEq]at hb
   case skip=>exact ZtA this
   case label=>exact ZrB this
   case region id ops dr=>cases dr<;>simp[Zba]at hb
   case scope b=>exact absurd rfl (hns b)
  |reg ops=>
   simp only[run]at h
   cases c<;>try (simp only[SC.bare,Zba,reduceCtorEq]at hb;done)
   case region id arr dr=>
    cases dr with
    |true=>simp[SC.bare,Zba]at hb
    |false=>
     simp only[SC.bare,Zba,SC.reg.injEq]at hb
     refine Zjh ?_
     refine Zag hT m _ st h N0 W0 fm ts a w _ Q hS ?_ hQ
     refine .ops (by rw[hb,Zix]) (by simp) ?_ ht
     simp only[Zba,SC.fits,List.all_eq_true]at hf
     intro o ho d hd
     have:Zdi o∈ops.map Zdi:=List.mem_map_of_mem ho
     rw[hb]at this
     have:=hf _ this
     simp only[Zdi,hd]at this
     simpa using this
   case scope b=>exact absurd rfl (hns b)
  |dreg ops bef drop=>
   simp only[run,ZbX]at h
   exact h N0 W0 fm ts a w (.code c::ct') Q hS (.sc hb hf ht) hQ
  |mark b=>
   simp only[run,ZbX]at h
   exact h N0 W0 fm ts a w (.code c::ct') Q hS (.sc (by simpa only [SC.bare] using hb) hf ht) hQ
  |seq x y=>
   simp only[run]at h
   cases c<;>simp only[SC.bare,Zba,reduceCtorEq]at hb
   case seq cx cy=>
    simp only[SC.seq.injEq]at hb
    simp only[Zba,SC.fits,Bool.and_eq_true]at hf
    exact ZjY (Zag hT m _ st h N0 W0 fm ts a w _ Q hS (.sc hb.1 hf.1 (.sc hb.2 hf.2 ht)) hQ)
   case region id ops dr=>cases dr<;>simp[Zba]at hb
   case scope b=>exact absurd rfl (hns b)
  |cond cc x y=>
   simp only[run]at h
   cases c<;>simp only[SC.bare,Zba,reduceCtorEq]at hb
   case cond c1 cx cy=>
    simp only[SC.cond.injEq]at hb
    obtain⟨rfl,hbx,hby⟩:=hb
    simp only[Zba,SC.fits,Bool.and_eq_true]at hf
    split at h
    ·rename_i b hbv
     have hv:=Zct hS.tm hbv
     have he:a.eval cc=.bool b:=by
      generalize a.eval cc=z at hv
      cases hv;rfl
     refine Zt6 he ?_
     cases b with
     |true=>rw[ZjM]at h;exact Zag hT m _ st h N0 W0 fm ts a w _ Q hS (.sc hbx hf.1 ht) hQ
     |false=>rw[Zi8]at h;exact Zag hT m _ st h N0 W0 fm ts a w _ Q hS (.sc hby hf.2 ht) hQ
    ·simp only[ZbX]at h
   case region id ops dr=>cases dr<;>simp[Zba]at hb
   case scope b=>exact absurd rfl (hns b)
  |block id b=>
   simp only[run]at h
   cases c<;>simp only[SC.bare,Zba,reduceCtorEq]at hb
   case block id' cb=>
    simp only[SC.block.injEq]at hb
    obtain⟨rfl,hb⟩:=hb
    simp only[Zba,SC.fits]at hf
    exact Zjg (Zag hT m _ st h N0 W0 fm ts a w _ Q hS (.sc hb hf (.blk ht)) hQ)
   case region id ops dr=>cases dr<;>simp[Zba]at hb
   case scope b=>exact absurd rfl (hns b)
  |loop b=>
   simp only[run,ZbX]at h
   exact h N0 W0 fm ts a w (.code c::ct') Q hS (.sc hb hf ht) hQ
  |exit id=>
   simp only[run]at h
   cases c<;>simp only[SC.bare,Zba,reduceCtorEq]at hb
   case exit id'=>
    simp only[SC.exit.injEq]at hb
    subst hb
    refine Zt7 ?_
    have hx:=ht.exits (P:=P) id
    split at h
    ·rename_i t' ht'
     obtain⟨ct2,h1,h2⟩:=hx.1 t' ht'
     exact h2 (Zag hT m t' st h N0 W0 fm ts a w ct2 Q hS h1 hQ)
    ·rename_i hn
     simp only[ZbX]at h
     exact hx.2 hn (hQ _ _ _ _ _ _ h hS (Later.refl _ _))
   case region id ops dr=>cases dr<;>simp[Zba]at hb
   case scope b=>exact absurd rfl (hns b)
  |ret=>
   simp only[run,ZbX]at h
   cases c<;>simp only[SC.bare,Zba,reduceCtorEq]at hb
   case ret=>exact ZuH (Zdg (hQ _ _ _ _ _ _ h hS (Later.refl _ _)) _)
   case region id ops dr=>cases dr<;>simp[Zba]at hb
   case scope b=>exact absurd rfl (hns b)
  |other=>simp only[run,ZbX]at h
end
end Go.Abs
namespace Go.Abs
open Go Go.RowKit
set_option linter.unusedSectionVars false
section
variable [Md] {P:Program}{T:Tys}{N0:Nat}{W0:World}{n:Nat}{fm:FM}{ts:List Tie}{Φ:Exit→St→Prop}
def Za7 (n:Nat) (st st':St):Prop:=∀ N0 W0 a w fm ts,SR N0 W0 n st a w fm ts→∃ fm' ts',SR N0 W0 n st' a w fm' ts'∧Later N0 fm ts fm' ts'
theorem Za7.trans {n:Nat}{a b c:St} (h:Za7 n a b) (k:Za7 n b c):Za7 n a c:=by
 intro N0 W0 x w fm ts hS
 obtain⟨f1,t1,h1,h2⟩:=h N0 W0 x w fm ts hS
 obtain⟨f2,t2,h3,h4⟩:=k N0 W0 x w f1 t1 h1
 exact⟨f2,t2,h3,h2.trans h4⟩
theorem AK.weak {todo:List It}{st st':St} (hw:Za7 n st st') (h:AK P n Φ todo st'):AK P n Φ todo st:=by
 intro N0 W0 fm ts a w ct Q hS hsim hQ
 obtain⟨fm',ts',h1,h2⟩:=hw N0 W0 a w fm ts hS
 exact h N0 W0 fm' ts' a w ct Q h1 (hsim.later h2) (fun e s x w' f t hΦ hs hl=>hQ e s x w' f t hΦ hs (h2.trans hl))
theorem AK.mono {Ψ:Exit→St→Prop} (hΦ:∀ e st,Φ e st→Ψ e st) {todo:List It}{st:St} (h:AK P n Φ todo st):AK P n Ψ todo st:=by
 intro N0 W0 fm ts a w ct Q hS hsim hQ
 exact h N0 W0 fm ts a w ct Q hS hsim (fun e s x w' f t hp hs hl=>hQ e s x w' f t (hΦ e s hp) hs hl)
theorem AK.loop (Inv:Nat→St→Prop) (m:Nat) {st st0:St}{b:SC}{todo:List It} (hw:Za7 n st st0) (h0:Inv m st0)
  (h:∀ m st,Inv m st→AK P n Φ (.sc b::.back (fun st'=>∃ st'' m',m'<m∧Za7 n st' st''∧Inv m' st'')::todo) st):AK P n Φ (.sc (.loop b)::todo) st:=by
 refine AK.weak hw ?_
 intro N0 W0 fm ts a w ct Q hS hsim hQ
 obtain⟨c,ct',hns,hb,hf,ht,hK⟩:=hsim.sc_inv (P:=P) rfl
 apply hK
 cases c<;>simp only[SC.bare,Zba,reduceCtorEq]at hb
 case loop cb=>
  simp only[SC.loop.injEq]at hb
  simp only[Zba,SC.fits]at hf
  refine Zrq (fun m a w=>∃ st fm' ts',Inv m st∧SR N0 W0 n st a w fm' ts'∧Later N0 fm ts fm' ts') m ⟨st0,fm,ts,h0,hS,Later.refl _ _⟩ ?_
  rintro m a w ⟨st,fm',ts',hI,hS',hL⟩
  refine h m st hI N0 W0 fm' ts' a w _ Q hS' (.sc hb hf (.back ?_ (ht.later hL))) (fun e s x w' f t hp hs hl=>hQ e s x w' f t hp hs (hL.trans hl))
  rintro st' a' w' fm2 ts2 ⟨st'',m',hlt,hwk,hI'⟩ hS2 hL2
  obtain⟨fm3,ts3,h3,h4⟩:=hwk N0 W0 a' w' fm2 ts2 hS2
  exact⟨m',hlt,st'',fm3,ts3,hI',h3,(hL.trans hL2).trans h4⟩
 case region id ops dr=>cases dr<;>simp[Zba]at hb
 case scope b=>exact absurd rfl (hns b)
def idx:List Nat→Nat→Option Nat
 |[],_=>none
 |x::l,k=>if x=k then some 0 else (idx l k).map (·+1)
theorem ZlA:∀ (ks:List Nat) (k i:Nat),idx ks k=some i→ks[i]?=some k
 |[],k,i,h=>by simp[idx]at h
 |x::l,k,i,h=>by
  simp only[idx]at h
  split at h
  ·rename_i e
   obtain rfl:=oi h
   simp[e]
  ·simp only[mS]at h
   obtain⟨j,h1,rfl⟩:=h
   simpa using ZlA l k j h1
def Zra (ks:List Nat) (l k:Nat):Option Nat:=
 match l with
 |0=>idx ks k
 |_+1=>some k
mutual
def AV.ren (ks:List Nat):AV→Option AV
 |.loc l k e i n g=>(Zra ks l k).map fun k=>.loc l k e i n g
 |.inn l k e o n=>(Zra ks l k).map fun k=>.inn l k e o n
 |.ptr l k o=>(Zra ks l k).map fun k=>.ptr l k o
 |.eptr l k e i o g=>(Zra ks l k).map fun k=>.eptr l k e i o g
 |.fn f a b=>match AV.renL ks a,AV.renL ks b with
  |some a,some b=>some (.fn f a b)
  |_,_=>none
 |.ifc t v=>(v.ren ks).map (.ifc t)
 |.agg cs=>(AV.renL ks cs).map .agg
 |.tup vs=>(AV.renL ks vs).map .tup
 |.bool b=>some (.bool b)
 |.int k n=>some (.int k n)
 |.str s=>some (.str s)
 |.nil=>some .nil
 |.sl e es=>some (.sl e es)
 |.pnil=>some .pnil
 |.rptr e es i o=>some (.rptr e es i o)
 |.fnil=>some .fnil
 |.inil=>some .inil
 |.dead=>some .dead
def AV.renL (ks:List Nat):List AV→Option (List AV)
 |[]=>some []
 |x::l=>match x.ren ks,AV.renL ks l with
  |some x,some l=>some (x::l)
  |_,_=>none
end
def Zho (ks:List Nat) (t:Tie):Tie:=fun i=>(ks[i]?).bind t
theorem ZgQ {ks:List Nat}{t:Tie}{rest:List Tie}{l k k':Nat} (h:Zra ks l k=some k'):tb (Zho ks t::rest) l k'=tb (t::rest) l k:=by
 cases l with
 |zero=>simp only[tb,Zho,ZlA ks k k' h,Option.bind_some]
 |succ l=>simp only[Zra,oE]at h;subst h;rfl
theorem ZeI (ks:List Nat):∀ (cs ys:List AV),AV.renL ks cs=some ys→ys.length=cs.length∧∀ (i:Nat) (x:AV),cs[i]?=some x→∃ y,ys[i]?=some y∧x.ren ks=some y
 |[],ys,h=>by simp only[AV.renL,oE]at h;subst h;simp
 |x::l,ys,h=>by
  simp only[AV.renL]at h
  split at h
  ·rename_i a b ha hb
   obtain rfl:=oi h
   have ih:=ZeI ks l b hb
   refine⟨by simp[ih.1],?_⟩
   intro i z hz
   cases i with
   |zero=>simp only[List.getElem?_cons_zero,oE]at hz;subst hz;exact⟨a,by simp,ha⟩
   |succ i=>simp only[List.getElem?_cons_succ]at hz ⊢;exact ih.2 i z hz
  ·cases h
theorem Zm2 {ks:List Nat}{x y:AV} (h:x.ren ks=some y):y.flat=x.flat:=by
 cases x with
 |fn f a b=>
  simp only[AV.ren]at h
  split at h
  ·obtain rfl:=oi h;simp[AV.flat]
  ·cases h
 |_=>
  first
  |(simp only[AV.ren,oE]at h;subst h;simp[AV.flat];done)
  |(simp only[AV.ren,mS]at h;obtain⟨a,_,rfl⟩:=h;simp[AV.flat];done)
theorem VR.ren {ks:List Nat}{t:Tie}{rest:List Tie}{ts0:List Tie}{x:AV}{v:Value} (hv:VR fm ts0 x v):ts0=t::rest→∀ {y:AV},x.ren ks=some y→VR fm (Zho ks t::rest) y v:=by
 induction hv with
 |bool b=>intro _ y e;simp only[AV.ren,oE]at e;subst e;exact .bool b
 |int k n=>intro _ y e;simp only[AV.ren,oE]at e;subst e;exact .int k n
 |str s=>intro _ y e;simp only[AV.ren,oE]at e;subst e;exact .str s
 |nil=>intro _ y e;simp only[AV.ren,oE]at e;subst e;exact .nil
 |slNil e a cap=>intro _ y e;simp only[AV.ren,oE]at e;subst e;exact .slNil _ a cap
 |sl es cb off esz cap u hcap h1 h2 h3 h4 _=>intro _ y e;simp only[AV.ren,oE]at e;subst e;exact .sl es cb off esz cap u hcap h1 h2 h3 h4
 |locGone l k esz i n g a cp h hn' ha=>
  rintro rfl y e;simp only[AV.ren,mS]at e;obtain⟨k',hk,rfl⟩:=e;exact .locGone _ _ esz i n g a cp ((ZgQ hk).trans h) hn' ha
 |locOld l k esz i n g a cp m' c h hlt hn' ha=>
  rintro rfl y e;simp only[AV.ren,mS]at e;obtain⟨k',hk,rfl⟩:=e;exact .locOld _ _ esz i n g a cp m' c ((ZgQ hk).trans h) hlt hn' ha
 |locNil l k esz a h=>
  rintro rfl y e;simp only[AV.ren,mS]at e;obtain⟨k',hk,rfl⟩:=e;exact .locNil _ _ esz a ((ZgQ hk).trans h)
 |loc l k esz i n g c cap cp a h hn' hnc hc ha=>
  rintro rfl y e;simp only[AV.ren,mS]at e;obtain⟨k',hk,rfl⟩:=e;exact .loc _ _ esz i n g c cap cp a ((ZgQ hk).trans h) hn' hnc hc ha
 |inn l k esz o n c cp a h hn' ha=>
  rintro rfl y e;simp only[AV.ren,mS]at e;obtain⟨k',hk,rfl⟩:=e;exact .inn _ _ esz o n c cp a ((ZgQ hk).trans h) hn' ha
 |pnil=>intro _ y e;simp only[AV.ren,oE]at e;subst e;exact .pnil
 |ptr l k o c h=>
  rintro rfl y e;simp only[AV.ren,mS]at e;obtain⟨k',hk,rfl⟩:=e;exact .ptr _ _ o c ((ZgQ hk).trans h)
 |eptrGone l k esz i o g a h=>
  rintro rfl y e;simp only[AV.ren,mS]at e;obtain⟨k',hk,rfl⟩:=e;exact .eptrGone _ _ esz i o g a ((ZgQ hk).trans h)
 |eptrOld l k esz i o g a m' c h hlt=>
  rintro rfl y e;simp only[AV.ren,mS]at e;obtain⟨k',hk,rfl⟩:=e;exact .eptrOld _ _ esz i o g a m' c ((ZgQ hk).trans h) hlt
 |eptr l k esz i o g c cap h=>
  rintro rfl y e;simp only[AV.ren,mS]at e;obtain⟨k',hk,rfl⟩:=e;exact .eptr _ _ esz i o g c cap ((ZgQ hk).trans h)
 |rptr es i o cb off esz u h1 h2 h3 h4 _=>intro _ y e;simp only[AV.ren,oE]at e;subst e;exact .rptr es i o cb off esz u h1 h2 h3 h4
 |fnil=>intro _ y e;simp only[AV.ren,oE]at e;subst e;exact .fnil
 |fn f first cap vf vc h1 h2 _ _ ih1 ih2=>
  intro e0 y e
  simp only[AV.ren]at e
  split at e
  ·rename_i a b ha hb
   obtain rfl:=oi e
   have g1:=ZeI ks _ _ ha
   have g2:=ZeI ks _ _ hb
   refine .fn f _ _ vf vc (g1.1.trans h1) (g2.1.trans h2) ?_ ?_
   ·intro i x v hx hv
    have hlt:i<first.length:=by rw[←g1.1];exact(gS.1 hx).1
    obtain⟨z,hz,hr⟩:=g1.2 i _ (gG hlt)
    rw[hx]at hz;obtain rfl:=oi hz
    exact ih1 i _ v (gG hlt) hv e0 hr
   ·intro i x v hx hv
    have hlt:i<cap.length:=by rw[←g2.1];exact(gS.1 hx).1
    obtain⟨z,hz,hr⟩:=g2.2 i _ (gG hlt)
    rw[hx]at hz;obtain rfl:=oi hz
    exact ih2 i _ v (gG hlt) hv e0 hr
  ·cases e
 |inil=>intro _ y e;simp only[AV.ren,oE]at e;subst e;exact .inil
 |ifc t x v _ ih=>
  intro e0 y e
  simp only[AV.ren,mS]at e
  obtain⟨z,hz,rfl⟩:=e
  exact .ifc t _ v (ih e0 hz)
 |agg cs vs h1 h2 _ ih=>
  intro e0 y e
  simp only[AV.ren,mS]at e
  obtain⟨z,hz,rfl⟩:=e
  have g:=ZeI ks _ _ hz
  refine .agg _ vs (g.1.trans h1) ?_ ?_
  ·intro x hx
   obtain⟨i,hi⟩:=List.mem_iff_getElem?.1 hx
   have hlt:i<cs.length:=by rw[←g.1];exact(gS.1 hi).1
   obtain⟨q,hq,hr⟩:=g.2 i _ (gG hlt)
   rw[hi]at hq;obtain rfl:=oi hq
   rw[Zm2 hr];exact h2 _ (List.getElem_mem hlt)
  ·intro i x v hx hv
   have hlt:i<cs.length:=by rw[←g.1];exact(gS.1 hx).1
   obtain⟨q,hq,hr⟩:=g.2 i _ (gG hlt)
   rw[hx]at hq;obtain rfl:=oi hq
   exact ih i _ v (gG hlt) hv e0 hr
 |tup xs vs h1 _ ih=>
  intro e0 y e
  simp only[AV.ren,mS]at e
  obtain⟨z,hz,rfl⟩:=e
  have g:=ZeI ks _ _ hz
  refine .tup _ vs (g.1.trans h1) ?_
  intro i x v hx hv
  have hlt:i<xs.length:=by rw[←g.1];exact(gS.1 hx).1
  obtain⟨q,hq,hr⟩:=g.2 i _ (gG hlt)
  rw[hx]at hq;obtain rfl:=oi hq
  exact ih i _ v (gG hlt) hv e0 hr
 |dead v=>intro _ y e;simp only[AV.ren,oE]at e;subst e;exact .dead v
def Blk.ren (ks:List Nat):Blk→Option Blk
 |.arr et e es=>some (.arr et e es)
 |.box cs=>(AV.renL ks cs).map .box
def ZgL (ks:List Nat) (fr:Fra):Nat→List Nat→Option Fra
 |_,[]=>some []
 |i,k::r=>match look fr k with
  |none=>ZgL ks fr (i+1) r
  |some b=>match b.ren ks,ZgL ks fr (i+1) r with
   |some b,some l=>some ((i,b)::l)
   |_,_=>none
def ZlM (ks:List Nat) (tm:List (Nat×AV)):List Nat→Option (List (Nat×AV))
 |[]=>some []
 |t::r=>match look tm t with
  |none=>none
  |some x=>match x.ren ks,ZlM ks tm r with
   |some x,some l=>some ((t,x)::l)
   |_,_=>none
def St.norm (st:St) (keep ks:List Nat) (nx:Nat):Option St:=
 match ZlM ks st.tm keep,ZgL ks st.fr 0 ks with
 |some tm,some fr=>some ⟨tm,fr,st.low,nx,st.nt⟩
 |_,_=>none
theorem Zjb (ks:List Nat) (fr:Fra):∀ (r:List Nat) (i:Nat) (f:Fra),ZgL ks fr i r=some f→∀ j b,look f j=some b→i≤j∧∃ k b0,r[j - i]?=some k∧look fr k=some b0∧b0.ren ks=some b
 |[],i,f,h,j,b,hj=>by simp only[ZgL,oE]at h;subst h;simp[look]at hj
 |k::r,i,f,h,j,b,hj=>by
  have step:∀ f',ZgL ks fr (i+1) r=some f'→look f' j=some b→i≤j∧∃ k' b0,(k::r)[j - i]?=some k'∧look fr k'=some b0∧b0.ren ks=some b:=by
   intro f' h1 h2
   obtain⟨h3,k',b0,h4,h5,h6⟩:=Zjb ks fr r (i+1) f' h1 j b h2
   refine⟨by omega,k',b0,?_,h5,h6⟩
   have e:j - i=(j - (i+1))+1:=by omega
   rw[e,List.getElem?_cons_succ];exact h4
  simp only[ZgL]at h
  split at h
  ·exact step f h hj
  ·rename_i b0 hb0
   split at h
   ·rename_i b' l hb' hl
    obtain rfl:=oi h
    simp only[look]at hj
    split at hj
    ·rename_i e
     subst e
     obtain rfl:=oi hj
     exact⟨Nat.le_refl _,k,b0,by simp,hb0,hb'⟩
    ·exact step l hl hj
   ·cases h
theorem Zhl (ks:List Nat) (tm:List (Nat×AV)):∀ (r:List Nat) (f:List (Nat×AV)),ZlM ks tm r=some f→∀ t y,look f t=some y→∃ x,look tm t=some x∧x.ren ks=some y
 |[],f,h,t,y,hy=>by simp only[ZlM,oE]at h;subst h;simp[look]at hy
 |t0::r,f,h,t,y,hy=>by
  simp only[ZlM]at h
  split at h
  ·cases h
  ·rename_i x hx
   split at h
   ·rename_i x' l hx' hl
    obtain rfl:=oi h
    simp only[look]at hy
    split at hy
    ·rename_i e
     subst e
     obtain rfl:=oi hy
     exact⟨x,hx,hx'⟩
    ·exact Zhl ks tm r l hl t y hy
   ·cases h
theorem HR.ren {t:Tie}{rest:List Tie}{fr fr':Fra}{low:Zam}{w:World}{ks:List Nat} (h:HR N0 W0 fm (t::rest) (fr::low) w) (hf:ZgL ks fr 0 ks=some fr') (hnd:ks.Nodup):
  HR N0 W0 fm (Zho ks t::rest) (fr'::low) w:=by
 have src:∀ l k b,Zam.get (fr'::low) l k=some b→∃ k0 b0,Zam.get (fr::low) l k0=some b0∧tb (Zho ks t::rest) l k=tb (t::rest) l k0∧(l=0→ks[k]?=some k0∧b0.ren ks=some b)∧(l≠0→k0=k∧b0=b):=by
  intro l k b hg
  cases l with
  |zero=>
   obtain⟨_,k0,b0,h1,h2,h3⟩:=Zjb ks fr ks 0 fr' hf k b (by simpa [Zam.get] using hg)
   have h1:ks[k]?=some k0:=by simpa using h1
   exact⟨k0,b0,by simpa [Zam.get] using h2,by simp[tb,Zho,h1],fun _=>⟨h1,h3⟩,fun h=>absurd rfl h⟩
  |succ l=>exact⟨k,b,by simpa [Zam.get] using hg,by simp[tb],fun h=>by omega,fun _=>⟨rfl,rfl⟩⟩
 refine⟨by have:=h.len;simpa using this,?_,?_,h.fms,?_,h.bel,h.size,h.oth⟩
 ·intro l k b hg
  obtain⟨k0,b0,h1,h2,h3,h4⟩:=src l k b hg
  rw[h2]
  have hb:=h.blk l k0 b0 h1
  cases l with
  |zero=>
   obtain⟨_,hr⟩:=h3 rfl
   simp only[List.drop_zero]at hb ⊢
   generalize tb (t::rest) 0 k0=tt at hb
   cases hb with
   |box c cs hN hB=>
    simp only[Blk.ren,mS]at hr
    obtain⟨ys,hy,rfl⟩:=hr
    have g:=ZeI ks _ _ hy
    obtain⟨cells,et,c1,c2,c3⟩:=hB
    refine .box c _ hN ⟨cells,et,c1,by rw[g.1];exact c2,?_⟩
    intro o x v hx hv
    have hlt:o<cs.length:=by rw[←g.1];exact(gS.1 hx).1
    obtain⟨z,hz,hzr⟩:=g.2 o _ (gG hlt)
    rw[hx]at hz;obtain rfl:=oi hz
    have:=c3 o _ v (gG hlt) hv
    exact⟨by rw[Zm2 hzr];exact this.1,this.2.ren rfl hzr⟩
   |nil et esz=>simp only[Blk.ren,oE]at hr;subst hr;exact .nil et esz
   |arr et esz es c cap hN hA=>simp only[Blk.ren,oE]at hr;subst hr;exact .arr et esz es c cap hN hA
  |succ l=>
   obtain⟨rfl,rfl⟩:=h4 (by omega)
   simpa using hb
 ·intro l1 k1 l2 k2 b1 b2 c g1 g2 t1 t2
  obtain⟨j1,a1,p1,q1,r1,s1⟩:=src l1 k1 b1 g1
  obtain⟨j2,a2,p2,q2,r2,s2⟩:=src l2 k2 b2 g2
  rw[q1]at t1
  rw[q2]at t2
  obtain⟨rfl,rfl⟩:=h.inj l1 j1 l2 j2 a1 a2 c p1 p2 t1 t2
  refine⟨rfl,?_⟩
  by_cases hl:l1=0
  ·have e1:=(r1 hl).1
   have e2:=(r2 hl).1
   have hlt1:=(gS.1 e1).1
   exact(List.getElem?_inj hlt1 hnd).1 (e1.trans e2.symm)
  ·have e1:=(s1 hl).1
   have e2:=(s2 hl).1
   omega
 ·intro l k b c o hg ht
  obtain⟨k0,b0,h1,h2,_,_⟩:=src l k b hg
  rw[h2]at ht
  exact h.fmd l k0 b0 c o h1 ht
theorem Za7.norm {st st':St}{keep ks:List Nat}{nx:Nat} (e:st.norm keep ks nx=some st') (hnd:ks.Nodup) (hnx:ks.length≤nx):Za7 n st st':=by
 intro N0 W0 a w fm ts h
 unfold St.norm at e
 split at e
 ·rename_i tm fr htm hfr
  obtain rfl:=oi e
  cases ts with
  |nil=>have:=h.hr.len;simp at this
  |cons t rest=>
   refine⟨fm,Zho ks t::rest,⟨h.hr.ren hfr hnd,?_,?_,h.size,h.dfr⟩,⟨FmUp.refl _ _,ZaA.refl _,fun _ _ h=>h⟩⟩
   ·intro i y hy
    obtain⟨x,h1,h2⟩:=Zhl ks st.tm keep tm htm i y hy
    obtain⟨v,h3,h4⟩:=h.tm i x h1
    exact⟨v,h3,h4.ren rfl h2⟩
   ·intro k hk
    have hk':nx≤k:=hk
    simp only[tb,Zho]
    rw[List.getElem?_eq_none (by omega)];rfl
 ·cases e
end
end Go.Abs
namespace Go.Abs
open Go Go.RowKit
set_option linter.unusedSectionVars false
section
variable [Md] {P:Program}{T:Tys}{N0:Nat}{W0:World}{n:Nat}{fm:FM}{ts:List Tie}
def Zm3 (T:Tys) (st:St):ResultVar→Option AV
 |.tmp t=>look st.tm t
 |.cell a t=>match T t,look st.tm a with
  |some ti,some x=>ZfO st.get ti x
  |_,_=>none
def Zcu (T:Tys) (st:St):List ResultVar→Option (List AV)
 |[]=>some []
 |r::l=>match Zm3 T st r,Zcu T st l with
  |some x,some l=>some (x::l)
  |_,_=>none
def Zb0:List AV→AV
 |[x]=>x
 |l=>.tup l
theorem Zpp (hT:ZaL P T) {st:St}{a:Act}{w:World} (h:SR N0 W0 n st a w fm ts) {r:ResultVar}{x:AV} (e:Zm3 T st r=some x):
  ∃ v,(match r with
   |.tmp t=>(pure (a.tmps.getD t undef):Sem Value)
   |.cell b t=>do loadVar t (←asAddr (a.tmps.getD b undef))).run P w=.ok v w∧VR fm ts x v:=by
 cases r with
 |tmp t=>
  obtain⟨v,h1,h2⟩:=h.tm t x e
  exact⟨v,by simp[Array.getD_eq_getD_getElem?,h1],h2⟩
 |cell b t=>
  simp only[Zm3]at e
  split at e
  ·rename_i ti y ht hy
   obtain⟨v,h1,h2⟩:=h.tm b y hy
   obtain⟨u,h3,h4⟩:=Zkx (P:=P) hT ht h.hr h2 e
   refine⟨u,?_,h4⟩
   have hg:a.tmps.getD b undef=v:=by simp[Array.getD_eq_getD_getElem?,h1]
   unfold ZfO at e
   cases hc:cellsAt st.get ti.size y with
   |none=>rw[hc]at e;cases e
   |some cs=>
    obtain⟨ad,vs,rfl,_⟩:=h.hr.cellsAt h2 hc
    simp only[hg,asAddr,Sem.run_bind,Sem.run_pure,Result.andThen_ok]
    simpa [Instr.loadAt,Instr.sureAddr] using h3
  ·cases e
theorem Zc9 (hT:ZaL P T) {st:St}{a:Act}{w:World} (h:SR N0 W0 n st a w fm ts) {fn:Func}{xs:List AV} (e:Zcu T st fn.results.toList=some xs):
  ∃ v,(results fn a.tmps).run P w=.ok v w∧VR fm ts (Zb0 xs) v:=by
 have key:∀ (l:List ResultVar) (xs:List AV),Zcu T st l=some xs→∃ vs:List Value,(l.mapM (m:=Sem) fun
   |.tmp t=>(pure (a.tmps.getD t undef):Sem Value)
   |.cell b t=>do loadVar t (←asAddr (a.tmps.getD b undef))).run P w=.ok vs w∧VRs fm ts xs vs:=by
  intro l
  induction l with
  |nil=>intro xs e;simp only[Zcu,oE]at e;subst e;exact⟨[],by simp,rfl,fun i x v h=>by simp at h⟩
  |cons r l ih=>
   intro xs e
   simp only[Zcu]at e
   split at e
   ·rename_i x l' hx hl
    obtain rfl:=oi e
    obtain⟨v,h1,h2⟩:=Zpp (P:=P) hT h hx
    obtain⟨vs,h3,h4⟩:=ih l' hl
    refine⟨v::vs,?_,by simp[h4.1],?_⟩
    ·simp only[List.mapM_cons,Sem.run_bind,h1,h3,Result.andThen_ok,Sem.run_pure]
    ·intro i y u hy hu
     cases i with
     |zero=>simp only[List.getElem?_cons_zero,oE]at hy hu;subst hy hu;exact h2
     |succ i=>simp only[List.getElem?_cons_succ]at hy hu;exact h4.2 i y u hy hu
   ·cases e
 obtain⟨vs,h1,h2⟩:=key _ _ e
 have hr:(results fn a.tmps).run P w=.ok (if h:vs.toArray.size=1 then vs.toArray[0] else .tuple vs.toArray) w:=by
  unfold results
  rw[←Array.toArray_toList (xs:=fn.results),List.mapM_toArray]
  simp only[Sem.run_bind,Sem.run_map,Sem.run_pure]
  erw [h1]
  rfl
 refine⟨_,hr,?_⟩
 have hl:=h2.1
 match xs,vs,hl,h2 with
 |[],[],_,h2=>exact .tup [] #[] rfl (fun i x v h=>by simp at h)
 |[x],[v],_,h2=>exact h2.2 0 x v rfl rfl
 |x::y::xs,v::u::vs,_,h2=>
  have:¬ ((v::u::vs).toArray.size=1):=by simp
  rw[dif_neg this]
  exact .tup _ _ (by simpa using h2.1) (fun i x v a b=>h2.2 i x v a (by simpa using b))
def Zlh:Nat→List AV→List (Nat×AV)
 |_,[]=>[]
 |i,x::l=>(i,x)::Zlh (i+1) l
theorem Zhp:∀ (l:List AV) (i t:Nat) (x:AV),look (Zlh i l) t=some x→i≤t∧l[t - i]?=some x
 |[],i,t,x,h=>by simp[Zlh,look]at h
 |y::l,i,t,x,h=>by
  simp only[Zlh,look]at h
  split at h
  ·rename_i e
   subst e
   obtain rfl:=oi h
   exact⟨Nat.le_refl _,by simp⟩
  ·obtain⟨h1,h2⟩:=Zhp l (i+1) t x h
   refine⟨by omega,?_⟩
   have e:t - i=(t - (i+1))+1:=by omega
   rw[e,List.getElem?_cons_succ];exact h2
def St.enter (args:List AV) (H:Zam) (n:Nat):St:=⟨Zlh 0 args,[],H,0,n⟩
theorem HR.push {H:Zam}{w:World} (h:HR N0 W0 fm ts H w):HR N0 W0 fm (Zcc::ts) ([]::H) w:=by
 refine⟨by simp[h.len],?_,?_,h.fms,?_,h.bel,h.size,h.oth⟩
 ·intro l k b hg
  cases l with
  |zero=>simp[Zam.get,look]at hg
  |succ l=>simpa [tb] using h.blk l k b (by simpa [Zam.get] using hg)
 ·intro l1 k1 l2 k2 b1 b2 c g1 g2 t1 t2
  cases l1 with
  |zero=>simp[Zam.get,look]at g1
  |succ l1=>
   cases l2 with
   |zero=>simp[Zam.get,look]at g2
   |succ l2=>
    have:=h.inj l1 k1 l2 k2 b1 b2 c (by simpa [Zam.get] using g1) (by simpa [Zam.get] using g2) (by simpa [tb] using t1) (by simpa [tb] using t2)
    exact⟨by omega,this.2⟩
 ·intro l k b c o hg ht
  cases l with
  |zero=>simp[Zam.get,look]at hg
  |succ l=>exact h.fmd l k b c o (by simpa [Zam.get] using hg) (by simpa [tb] using ht)
theorem SR.enter {H:Zam}{w:World} (h:HR N0 W0 fm ts H w) {args:List AV}{vs:List Value} (hv:VRs fm (Zcc::ts) args vs) {n:Nat} (hn:args.length≤n):
  SR N0 W0 n (St.enter args H n) { tmps:=vs.toArray++Array.replicate (n - vs.toArray.size) undef,defers:=Md.dfs } w fm (Zcc::ts):=by
 have hl:=hv.1
 refine⟨h.push,?_,fun k _=>rfl,by simp;omega,rfl⟩
 intro t x hx
 obtain⟨_,hx⟩:=Zhp args 0 t x hx
 simp only[Nat.sub_zero]at hx
 have hlt:t<vs.length:=by rw[←hl];exact(gS.1 hx).1
 refine⟨vs[t],?_,hv.2 t x _ hx (gG hlt)⟩
 rw[Array.getElem?_append_left (by simpa using hlt)]
 simp[hlt]
inductive Gives (R:AV→Fra→Zam→Prop) (v:AV) (st:St):Prop
 |own (ks:List Nat) (y:AV) (fr:Fra) (hn:ks.Nodup) (hk:ks.length≤16) (hy:v.ren ks=some y) (hf:ZgL ks st.fr 0 ks=some fr) (h:R y fr st.low)
 |frz (y:AV) (hy:v.frz st.get=some y) (hr:(v.refs.all fun p=>p.1==0)=true) (h:R y [] st.low)
def Zu6 (T:Tys) (rs:List ResultVar) (R:AV→Fra→Zam→Prop) (e:Exit) (st:St):Prop:=
 match e with
 |.normal|.ret=>∃ xs,Zcu T st rs=some xs∧Gives R (Zb0 xs) st
 |_=>False
theorem HR.pop {t:Tie}{f:Fra}{H:Zam}{w:World} (h:HR N0 W0 fm (t::ts) (f::H) w):HR N0 W0 fm ts H w:=by
 refine⟨by have:=h.len;simpa using this,?_,?_,h.fms,?_,h.bel,h.size,h.oth⟩
 ·intro l k b hg
  simpa [tb] using h.blk (l+1) k b (by simpa [Zam.get] using hg)
 ·intro l1 k1 l2 k2 b1 b2 c g1 g2 t1 t2
  have:=h.inj (l1+1) k1 (l2+1) k2 b1 b2 c (by simpa [Zam.get] using g1) (by simpa [Zam.get] using g2) (by simpa [tb] using t1) (by simpa [tb] using t2)
  exact⟨by omega,this.2⟩
 ·intro l k b c o hg ht
  exact h.fmd (l+1) k b c o (by simpa [Zam.get] using hg) (by simpa [tb] using ht)
theorem Zk9 {r:List (Nat×Nat)} (hr:(r.all fun p=>p.1==0)=true):∀ (f:Fra) (H:Zam),∃ f',Zam.puts (f::H) (Zes r)=f'::H:=by
 induction r with
 |nil=>intro f H;exact⟨f,rfl⟩
 |cons p r ih=>
  intro f H
  simp only[List.all_cons,Bool.and_eq_true,beq_iff_eq]at hr
  obtain⟨l,k⟩:=p
  obtain⟨h1,h2⟩:=hr
  simp only at h1
  subst h1
  exact ih h2 (del f k) H
end
section
variable {P:Program}{T:Tys}{N0:Nat}{W0:World}{n:Nat}{fm:FM}{ts:List Tie}
theorem ZfE.of_body (hT : ZaL P T) {f : FuncId} {fn : Func} {c : Code} {sc : SC} {args : List AV} {H : Zam} {R : AV → Fra → Zam → Prop} (hf : P.funcs[f]? = some fn) (hb : fn.body = some c) (hnm : (fn.name == "runtime.NumGoroutine") = false)
  (he:sc.bare=Zba fn.ntmps c) (hfit:(Zba fn.ntmps c).fits fn.ntmps=true) (hargs:args.length≤fn.ntmps)
  (h:AK P fn.ntmps (Zu6 T fn.results.toList fun y fr H'=>R y fr H') [.sc sc] (St.enter args H fn.ntmps)) (hlow:∀ y fr H',R y fr H'→H'.length=H.length):ZfE P f args H R:=by
 refine⟨⟨fn,hf,hnm,by simp[hb]⟩,?_⟩
 intro N0 W0 fm ts w vs hH hv
 refine calls_of_wp hf hb ((Zd8 []).1 ?_)
 have hS:=SR.enter hH hv hargs
 have:=h N0 W0 fm (Zcc::ts) _ w [.code c] (bodyPost P fn fun e w'=>∃ v av fr' H' fm' t' ts',e=.returned v∧R av fr' H'∧H'.length=H.length∧HR N0 W0 fm' (t'::ts') (fr'::H') w'∧VR fm' (t'::ts') av v∧FmUp N0 fm fm'∧ZaA ts ts'∧
   (∀ l k,tb ts l k=none→tb ts' l k=none)∧∀ k,16≤k→t' k=none) hS (.sc he hfit .nil) ?_
 ·exact this
 ·intro e st' a' w' fm' ts' hE hS' hL
  have fin:(∃ xs,Zcu T st' fn.results.toList=some xs∧Gives R (Zb0 xs) st')→a'.defers=[]∧∃ v,(results fn a'.tmps).run P w'=.ok v w'∧∃ v_1 av fr' H' fm' t' ts',Ending.returned v=.returned v_1∧R av fr' H'∧H'.length=H.length∧HR N0 W0 fm' (t'::ts') (fr'::H') w'∧VR fm' (t'::ts') av v_1∧FmUp N0 fm fm'∧ZaA ts ts'∧
    (∀ l k,tb ts l k=none→tb ts' l k=none)∧∀ k,16≤k→t' k=none:=by
   rintro⟨xs,hxs,hg⟩
   obtain⟨v,h1,h2⟩:=Zc9 (P:=P) hT hS' hxs
   refine⟨hS'.dfr,v,h1,?_⟩
   cases ts' with
   |nil=>have:=hS'.hr.len;simp at this
   |cons t rest=>
    have hts:ZaA ts rest:=by simpa using hL.tle
    have hno:∀ l k,tb ts l k=none→tb rest l k=none:=by simpa using hL.no
    cases hg with
    |own ks y fr hn hk hy hfr hR=>
     exact⟨v,y,fr,st'.low,fm',Zho ks t,rest,rfl,hR,hlow _ _ _ hR,hS'.hr.ren hfr hn,h2.ren rfl hy,hL.fle,hts,hno,fun k hk'=>by simp only[Zho];rw[List.getElem?_eq_none (by omega)];rfl⟩
    |frz y hy hr hR=>
     have h3:=hS'.hr.frz (Zb0 xs).refs h2 hy (fun _ h=>h)
     have h4:=hS'.hr.letGo (Zb0 xs).refs
     obtain⟨f',hf'⟩:=Zk9 hr st'.fr st'.low
     rw[hf']at h4
     have hpt:∀ l k,tb (ZeL (t::rest) (Zb0 xs).refs) (l+1) k=tb rest l k:=by
      intro l k
      rw[Zck,if_neg]
      ·simp[tb]
      ·rintro⟨hm,_⟩
       have:=List.all_eq_true.1 hr _ hm
       simp at this
     have ZbS:=Zfl (Zb0 xs).refs (t::rest)
     cases hg:ZeL (t::rest) (Zb0 xs).refs with
     |nil=>rw[hg]at ZbS;simp at ZbS
     |cons t2 rest2=>
      rw[hg]at h4 hpt
      have e2:∀ l k,tb rest2 l k=tb rest l k:=fun l k=>by simpa [tb] using hpt l k
      have hup:=hS'.hr.fmUp (Zb0 xs).refs
      exact⟨v,y,[],st'.low,_,Zcc,rest2,rfl,hR,hlow _ _ _ hR,h4.pop.push,h3.mono (Zdq.refl _) (ZaA.nil _),hL.fle.trans hup,fun l k=>by rw[e2];exact hts l k,fun l k hh=>by rw[e2];exact hno l k hh,fun _ _=>rfl⟩
  cases e with
  |normal=>exact fin hE
  |ret=>exact fin hE
  |_=>exact hE.elim
end
end Go.Abs
namespace Go.Abs
open Go Go.RowKit
set_option linter.unusedSectionVars false
mutual
theorem frz_idem (G:Get):∀ (x y:AV),x.frz G=some y→y.frz (fun _ _=>none)=some y
 |.loc l k e i n g,y,h=>by
  simp only[AV.frz]at h
  split at h
  ·split at h
   ·obtain rfl:=oi h;simp[AV.frz]
   ·cases h
  ·cases h
 |.nil,y,h=>by simp only[AV.frz,oE]at h;subst h;simp[AV.frz]
 |.ifc t v,y,h=>by
  simp only[AV.frz,mS]at h
  obtain⟨a,h1,rfl⟩:=h
  simp only[AV.frz,frz_idem G v a h1,Option.map_some]
 |.agg cs,y,h=>by
  simp only[AV.frz,mS]at h
  obtain⟨a,h1,rfl⟩:=h
  simp only[AV.frz,frzL_idem G cs a h1,Option.map_some]
 |.tup vs,y,h=>by
  simp only[AV.frz,mS]at h
  obtain⟨a,h1,rfl⟩:=h
  simp only[AV.frz,frzL_idem G vs a h1,Option.map_some]
 |.bool b,y,h=>by simp only[AV.frz,oE]at h;subst h;simp[AV.frz]
 |.int k n,y,h=>by simp only[AV.frz,oE]at h;subst h;simp[AV.frz]
 |.str s,y,h=>by simp only[AV.frz,oE]at h;subst h;simp[AV.frz]
 |.sl e es,y,h=>by simp only[AV.frz,oE]at h;subst h;simp[AV.frz]
 |.pnil,y,h=>by simp only[AV.frz,oE]at h;subst h;simp[AV.frz]
 |.fnil,y,h=>by simp only[AV.frz,oE]at h;subst h;simp[AV.frz]
 |.inil,y,h=>by simp only[AV.frz,oE]at h;subst h;simp[AV.frz]
 |.fn f a b,y,h=>by
  simp only[AV.frz]at h
  split at h
  ·rename_i x z hx hz
   obtain rfl:=oi h
   simp only[AV.frz,frzL_idem G a x hx,frzL_idem G b z hz]
  ·cases h
 |.inn ..,y,h=>by simp[AV.frz]at h
 |.ptr ..,y,h=>by simp[AV.frz]at h
 |.eptr ..,y,h=>by simp[AV.frz]at h
 |.rptr ..,y,h=>by simp only[AV.frz,oE]at h;subst h;simp[AV.frz]
 |.dead,y,h=>by simp[AV.frz]at h
theorem frzL_idem (G:Get):∀ (l ys:List AV),AV.frzL G l=some ys→AV.frzL (fun _ _=>none) ys=some ys
 |[],ys,h=>by simp only[AV.frzL,oE]at h;subst h;rfl
 |x::l,ys,h=>by
  simp only[AV.frzL]at h
  split at h
  ·rename_i a b ha hb
   obtain rfl:=oi h
   simp only[AV.frzL,frz_idem G x a ha,frzL_idem G l b hb]
  ·cases h
end
def AV.leaf:AV→Bool
 |.bool _|.int _ _|.str _|.nil|.pnil|.fnil|.inil=>true
 |_=>false
def AV.scal:AV→Bool
 |.agg cs=>cs.all AV.leaf
 |.tup vs=>vs.all AV.leaf
 |x=>x.leaf
theorem VR.leaf {fm fm':FM}{ts ts':List Tie}{x:AV}{v:Value} (h:VR fm ts x v) (hx:x.leaf=true):VR fm' ts' x v:=by
 cases h<;>first|(simp[AV.leaf]at hx;done)|constructor
theorem VR.scal {fm fm':FM}{ts ts':List Tie}{x:AV}{v:Value} (h:VR fm ts x v) (hx:x.scal=true):VR fm' ts' x v:=by
 cases h with
 |agg cs vs h1 h2 h3=>exact .agg cs vs h1 h2 (fun i x v a b=>(h3 i x v a b).leaf (List.all_eq_true.1 hx x (List.mem_of_getElem? a)))
 |tup xs vs h1 h3=>exact .tup xs vs h1 (fun i x v a b=>(h3 i x v a b).leaf (List.all_eq_true.1 hx x (List.mem_of_getElem? a)))
 |_=>first|(simp[AV.scal,AV.leaf]at hx;done)|constructor
def Ztu (fm:FM) (w:World):Prop:=∀ b o v,fm b o=some v→w.cell? ⟨b,o,none⟩=some v
def Za0 (P:Program) (f:FuncId) (args:List AV) (R:AV→Prop):Prop:=
 Zmc P f∧∀ fm w vs,Ztu fm w→VRs fm [] args vs→
  Calls P f vs.toArray w fun e w'=>∃ v y fm',e=.returned v∧R y∧Ztu fm' w'∧VR fm' [] y v∧FmUp w.heap.size fm fm'∧Below w.heap.size w w'
def Zlp (T:Tys) (rs:List ResultVar) (R:AV→Prop) (e:Exit) (st:St):Prop:=
 match e with
 |.normal|.ret=>st.low=[]∧∃ xs y,Zcu T st rs=some xs∧(Zb0 xs).frz st.get=some y∧R y
 |_=>False
section
variable {P:Program}{T:Tys}{N0:Nat}{W0:World}{n:Nat}{fm:FM}{ts:List Tie}{H:Zam}{w:World}
theorem HR.nothing {w:World} (h:Ztu fm w):HR w.heap.size w fm [] [] w:=
 ⟨rfl,fun l k b hg=>by simp[Zam.get]at hg,fun l k l' k' b b' c hg=>by simp[Zam.get]at hg,h,fun l k b c o hg=>by simp[Zam.get]at hg,Below.refl _ _,Nat.le_refl _,fun _ _ h _=>h⟩
theorem Za0.of_body (hT : ZaL P T) {f : FuncId} {fn : Func} {c : Code} {sc : SC} {args : List AV} {R : AV → Prop} (hf : P.funcs[f]? = some fn) (hb : fn.body = some c) (hnm : (fn.name == "runtime.NumGoroutine") = false)
  (he:sc.bare=Zba fn.ntmps c) (hfit:(Zba fn.ntmps c).fits fn.ntmps=true) (hargs:args.length≤fn.ntmps)
  (h:AK P fn.ntmps (Zlp T fn.results.toList R) [.sc sc] (St.enter args [] fn.ntmps)):Za0 P f args R:=by
 have hA:ZfE P f args [] (fun y fr H'=>fr=[]∧H'=[]∧y.frz (fun _ _=>none)=some y∧R y):=by
  refine ZfE.of_body hT hf hb hnm he hfit hargs (h.mono ?_) (by rintro y fr H' ⟨_,rfl,_⟩;rfl)
  intro e st hE
  have fin:(st.low=[]∧∃ xs y,Zcu T st fn.results.toList=some xs∧(Zb0 xs).frz st.get=some y∧R y)→
    ∃ xs,Zcu T st fn.results.toList=some xs∧Gives (fun y fr H'=>fr=[]∧H'=[]∧y.frz (fun _ _=>none)=some y∧R y) (Zb0 xs) st:=by
   rintro⟨hl,xs,y,h1,h2,h3⟩
   refine⟨xs,h1,.frz y h2 ?_ ⟨rfl,hl,frz_idem _ _ _ h2,h3⟩⟩
   rw[List.all_eq_true]
   intro p hp
   obtain⟨et,esz,es,hg⟩:=frz_refs_arr _ _ _ h2 p hp
   have hlt:=Zam.get_lt _ _ _ _ (show Zam.get (st.fr::st.low) p.1 p.2=_ from hg)
   rw[hl]at hlt
   simp at hlt
   simp[hlt]
  cases e with
  |normal=>exact fin hE
  |ret=>exact fin hE
  |_=>exact hE.elim
 refine⟨hA.1,fun fm w vs h1 h2=>Calls.mono (hA.2 w.heap.size w fm [] w vs (HR.nothing h1) (h2.mono (Zdq.refl _) (ZaA.nil _))) ?_⟩
 rintro e w' ⟨v,av,fr',H',fm',t',ts',rfl,⟨rfl,rfl,hz,hR⟩,_,hhr,hvr,hup,_,_,_⟩
 refine⟨v,av,fm',rfl,hR,hhr.fms,?_,hup,hhr.bel⟩
 have:=hhr.bareL (cs:=[av]) (ys:=[av]) (vs:=[v]) ⟨rfl,fun i x u a b=>by
  cases i with
  |zero=>simp at a b;subst a b;exact hvr
  |succ i=>simp at a⟩ (by simp only[AV.frzL,hz])
 exact this.2 0 av v rfl rfl
theorem HR.up {fm':FM}{w':World} (h:HR N0 W0 fm ts H w) (hb:Below w.heap.size w w') (hup:FmUp w.heap.size fm fm') (hin:Ztu fm' w'):HR N0 W0 fm' ts H w':=by
 have h1:=h.world (w':=w') (fun i hi=>hb.block i hi) (hb.mono h.size)
 refine⟨h1.len,fun l k b hg=>(h1.blk l k b hg).mono hup.le (ZaA.refl _) (fun _ _=>rfl),h1.inj,hin,?_,h1.bel,h1.size,h1.oth⟩
 intro l k b c o hg ht
 rw[hup.fix c o ((h.blk l k b hg).lt ht).1]
 exact h.fmd l k b c o hg ht
theorem FmUp.low {fm fm':FM}{a b:Nat} (h:FmUp a fm fm') (hb:b≤a):FmUp b fm fm':=⟨h.le,fun x o hx=>h.fix x o (by omega)⟩
theorem Za0.frozen {f:FuncId}{args fargs:List AV}{R:AV→Prop} (hp:Za0 P f fargs R) (hz:AV.frzL (Zam.get ([]::H)) args=some fargs) (hr:AV.refsL args=[]):
  ZfE P f args H (fun y fr H'=>R y∧fr=[]∧H'=H):=by
 refine⟨hp.1,fun N0 W0 fm ts w vs hH hv=>?_⟩
 have h1:=hH.push.frzL [] hv hz (by rw[hr];simp)
 rw[Zf9]at h1
 refine Calls.mono (hp.2 fm w vs hH.fms h1) ?_
 rintro e w' ⟨v,y,fm',rfl,hR,hin,hvr,hup,hb⟩
 exact⟨v,y,[],H,fm',Zcc,ts,rfl,⟨hR,rfl,rfl⟩,rfl,(hH.up hb hup hin).push,hvr.mono (Zdq.refl _) (ZaA.nil _),hup.low hH.size,ZaA.refl _,fun _ _ h=>h,fun _ _=>rfl⟩
theorem Za0.borrow {f:FuncId}{args fargs:List AV}{R:AV→Prop} (hp:Za0 P f fargs R) (hz:AV.frzL (Zam.get ([]::H)) args=some fargs) (hs:∀ y,R y→y.scal=true):
  ZfE P f args H (fun y fr H'=>R y∧fr=[]∧H'=H):=by
 refine⟨hp.1,fun N0 W0 fm ts w vs hH hv=>?_⟩
 have h1:=hH.push.frzL (AV.refsL args) hv hz (fun _ h=>h)
 have h2:=(hH.push.letGo (AV.refsL args)).fms
 refine Calls.mono (hp.2 _ w vs h2 h1) ?_
 rintro e w' ⟨v,y,fm',rfl,hR,hin,hvr,hup,hb⟩
 have hH':HR N0 W0 fm ts H w':=hH.world (fun i hi=>hb.block i hi) (hb.mono hH.size)
 exact⟨v,y,[],H,fm,Zcc,ts,rfl,⟨hR,rfl,rfl⟩,rfl,hH'.push,hvr.scal (hs y hR),FmUp.refl _ _,ZaA.refl _,fun _ _ h=>h,fun _ _=>rfl⟩
end
mutual
def AV.br (G:Get) (F:Nat→Nat→Option (List AV)):AV→Option AV
 |.loc l k e i n g=>(AV.loc l k e i n g).frz G
 |.ptr l k o=>match F l k with
  |some ys=>some (.rptr ys.length [ys] 0 o)
  |none=>none
 |.inn l k e o n=>match F l k with
  |some ys=>if e=1∧o+n≤ys.length∧n≤65536 then some (.sl 1 (((ys.drop o).take n).map fun c=>[c])) else none
  |none=>none
 |.fn f a b=>match AV.brL G F a,AV.brL G F b with
  |some a,some b=>some (.fn f a b)
  |_,_=>none
 |.ifc t v=>(v.br G F).map (.ifc t)
 |.agg cs=>(AV.brL G F cs).map .agg
 |.tup vs=>(AV.brL G F vs).map .tup
 |.nil=>some .nil
 |.bool b=>some (.bool b)
 |.int k n=>some (.int k n)
 |.str s=>some (.str s)
 |.sl e es=>some (.sl e es)
 |.pnil=>some .pnil
 |.fnil=>some .fnil
 |.inil=>some .inil
 |.rptr e es i o=>some (.rptr e es i o)
 |_=>none
def AV.brL (G:Get) (F:Nat→Nat→Option (List AV)):List AV→Option (List AV)
 |[]=>some []
 |x::l=>match x.br G F,AV.brL G F l with
  |some x,some l=>some (x::l)
  |_,_=>none
end
def boxF (G:Get):Nat→Nat→Nat→Option (List AV)
 |0,_,_=>none
 |n+1,l,k=>match G l k with
  |some (.box cs)=>AV.brL G (boxF G n) (AV.shL l cs)
  |_=>none
theorem Ze3 (G:Get) (F:Nat→Nat→Option (List AV)):∀ (cs ys:List AV),AV.brL G F cs=some ys→ys.length=cs.length∧∀ (i:Nat) (x:AV),cs[i]?=some x→∃ y,ys[i]?=some y∧x.br G F=some y
 |[],ys,h=>by simp only[AV.brL,oE]at h;subst h;simp
 |x::l,ys,h=>by
  simp only[AV.brL]at h
  split at h
  ·rename_i a b ha hb
   obtain rfl:=oi h
   have ih:=Ze3 G F l b hb
   refine⟨by simp[ih.1],?_⟩
   intro i z hz
   cases i with
   |zero=>simp only[List.getElem?_cons_zero,oE]at hz;subst hz;exact⟨a,by simp,ha⟩
   |succ i=>simp only[List.getElem?_cons_succ]at hz ⊢;exact ih.2 i z hz
  ·cases h
theorem Zlx {G:Get}{F:Nat→Nat→Option (List AV)}{x y:AV} (h:x.br G F=some y):y.flat=x.flat:=by
 cases x with
 |loc l k e i n g=>simp only[AV.br]at h;exact ZhG h
 |ptr l k o=>
  simp only[AV.br]at h
  split at h
  ·obtain rfl:=oi h;rfl
  ·cases h
 |inn l k e o n=>
  simp only[AV.br]at h
  split at h
  ·split at h
   ·obtain rfl:=oi h;rfl
   ·cases h
  ·cases h
 |fn f a b=>
  simp only[AV.br]at h
  split at h
  ·obtain rfl:=oi h;rfl
  ·cases h
 |_=>
  first
  |(simp[AV.br]at h;done)
  |(simp only[AV.br,oE]at h;subst h;simp[AV.flat];done)
  |(simp only[AV.br,mS]at h;obtain⟨a,_,rfl⟩:=h;simp[AV.flat];done)
section
variable {N0:Nat}{W0:World}{fm:FM}{ts:List Tie}{H:Zam}{w:World}
def ZfG (w:World):FM:=fun b o=>w.cell? ⟨b,o,none⟩
theorem HR.brG (h:HR N0 W0 fm ts H w) {fm':FM}{G:Get} (hle:Zdq fm fm') (hG:∀ l k b,G l k=some b→H.get l k=some b) (hcell:∀ l k b c,G l k=some b→tbc (tb ts l k)=some c→∀ o u,w.cell? ⟨c,o,none⟩=some u→fm' c o=some u) (F:Nat→Nat→Option (List AV)) (hF:∀ l k ys c,F l k=some ys→tb ts l k=some (.box c)→(∀ o u,w.cell? ⟨c,o,none⟩=some u→fm' c o=some u)∧∃ cells et,w.heap[c]?=some (.cells cells et (0,0))∧cells.size=ys.length∧
   ∀ (o:Nat) y v,ys[o]?=some y→cells[o]?=some v→y.flat=true∧VR fm' [] y v) {ts0:List Tie}{x:AV}{v:Value} (hv:VR fm ts0 x v):
  ts0=ts→∀ {y:AV},x.br G F=some y→VR fm' [] y v:=by
 have loc:∀ {l k esz i n g v y},VR fm ts (.loc l k esz i n g) v→(AV.loc l k esz i n g).frz G=some y→VR fm' [] y v:=by
  intro l k esz i n g v y hv hy
  have hy':(AV.loc l k esz i n g).frz H.get=some y∧∃ b,G l k=some b:=by
   simp only[AV.frz]at hy ⊢
   split at hy
   ·rename_i et esz' es hg
    rw[hG l k _ hg];exact⟨hy,_,hg⟩
   ·cases hy
  obtain⟨hy1,b0,hb0⟩:=hy'
  refine(h.frz [(l,k)] hv hy1 (by simp[AV.refs])).mono ?_ (ZaA.refl _)
  intro b o u hu
  unfold Zdx at hu
  split at hu
  ·rename_i hb
   obtain⟨l',k',b',hm,hg,_,ht⟩:=hb
   simp only[List.mem_singleton,Prod.mk.injEq]at hm
   obtain⟨rfl,rfl⟩:=hm
   exact hcell l' k' b0 b hb0 ht o u hu
  ·exact hle b o u hu
 induction hv with
 |bool b=>intro _ y e;simp only[AV.br,oE]at e;subst e;exact .bool b
 |int k n=>intro _ y e;simp only[AV.br,oE]at e;subst e;exact .int k n
 |str s=>intro _ y e;simp only[AV.br,oE]at e;subst e;exact .str s
 |nil=>intro _ y e;simp only[AV.br,oE]at e;subst e;exact .nil
 |slNil e0 a cap=>intro _ y e;simp only[AV.br,oE]at e;subst e;exact .slNil e0 a cap
 |sl es cb off esz cap u hcap h1 h2 h3 h4 _=>intro _ y e;simp only[AV.br,oE]at e;subst e;exact(VR.sl es cb off esz cap u hcap h1 h2 h3 h4 (ts:=[])).mono hle (ZaA.refl _)
 |locGone l k esz i n g a cp ht hn ha=>rintro rfl y e;exact loc (.locGone l k esz i n g a cp ht hn ha) (by simpa only [AV.br] using e)
 |locOld l k esz i n g a cp m' c ht hlt hn ha=>rintro rfl y e;exact loc (.locOld l k esz i n g a cp m' c ht hlt hn ha) (by simpa only [AV.br] using e)
 |locNil l k esz a ht=>rintro rfl y e;exact loc (.locNil l k esz a ht) (by simpa only [AV.br] using e)
 |loc l k esz i n g c cap cp a ht hn hnc hc ha=>rintro rfl y e;exact loc (.loc l k esz i n g c cap cp a ht hn hnc hc ha) (by simpa only [AV.br] using e)
 |inn l k esz o n c cp a ht hn ha=>
  rintro rfl y e
  simp only[AV.br]at e
  split at e
  ·rename_i ys hys
   split at e
   ·rename_i hc
    obtain⟨rfl,hle1,hn6⟩:=hc
    obtain rfl:=oi e
    obtain⟨hcc,cells,et,c1,c2,c3⟩:=hF l k ys c hys ht
    have ZbS:(((ys.drop o).take n).map fun c=>[c]).length=n:=by simp;omega
    have get:∀ (i:Nat) (d:List AV),(((ys.drop o).take n).map fun c=>[c])[i]?=some d→∃ x,d=[x]∧ys[o+i]?=some x:=by
     intro i d hd
     rw[List.getElem?_map,mS]at hd
     obtain⟨x,hx,rfl⟩:=hd
     rw[List.getElem?_take]at hx
     split at hx
     ·rw[List.getElem?_drop]at hx;exact⟨x,rfl,hx⟩
     ·cases hx
    by_cases hcp:cp=0
    ·have:n=0:=by omega
     subst this
     simp only[List.take_zero,List.map_nil]
     exact .slNil 1 (some a) cp
    ·have ha':=ha hcp
     subst ha'
     have one:∀ (i:Nat) (d:List AV) (o':Nat) (x:AV),(((ys.drop o).take n).map fun c=>[c])[i]?=some d→d[o']?=some x→o'=0∧∃ u,cells[o+i]?=some u∧x.flat=true∧VR fm' [] x u:=by
      intro i d o' x hd hx
      obtain⟨y,rfl,hy⟩:=get i d hd
      cases o' with
      |succ o'=>simp at hx
      |zero=>
       simp only[List.getElem?_cons_zero,oE]at hx
       subst hx
       have hlt:o+i<cells.size:=by rw[c2];exact(gS.1 hy).1
       have hcu:=Array.getElem?_eq_getElem hlt
       exact⟨rfl,_,hcu,c3 (o+i) y _ hy hcu⟩
     have:=VR.sl (fm:=fm') (ts:=[]) (((ys.drop o).take n).map fun c=>[c]) c o 1 cp (fun i _=>(cells[o+i]?).getD default) (by rw[ZbS];exact⟨hn,by simp[maxLen];omega⟩) (by
       intro d hd
       simp only[List.mem_map]at hd
       obtain⟨z,_,rfl⟩:=hd;rfl)
      (by
       intro i d o' x hd hx
       obtain⟨rfl,u,hu,_,_⟩:=one i d o' x hd hx
       refine hcc _ _ ?_
       simp only[World.cell?,c1,Nat.mul_one,Nat.add_zero,hu]
       simp)
      (fun i d o' x hd hx=>(one i d o' x hd hx).2.elim fun u hu=>hu.2.1)
      (by
       intro i d o' x hd hx
       obtain⟨rfl,u,hu,_,hv⟩:=one i d o' x hd hx
       rw[hu]
       exact hv)
     rw[ZbS]at this
     exact this
   ·cases e
  ·cases e
 |pnil=>intro _ y e;simp only[AV.br,oE]at e;subst e;exact .pnil
 |ptr l k o c ht=>
  rintro rfl y e
  simp only[AV.br]at e
  split at e
  ·rename_i ys hys
   obtain rfl:=oi e
   obtain⟨hcc,cells,et,c1,c2,c3⟩:=hF l k ys c hys ht
   have one:∀ (i:Nat) (cc:List AV) (o:Nat) (x:AV),[ys][i]?=some cc→cc[o]?=some x→i=0∧∃ u,cells[o]?=some u∧x.flat=true∧VR fm' [] x u:=by
    intro i cc o x hi ho
    cases i with
    |succ i=>simp at hi
    |zero=>
     simp only[List.getElem?_cons_zero,oE]at hi
     subst hi
     have hlt:o<cells.size:=by rw[c2];exact(gS.1 ho).1
     have hcu:=Array.getElem?_eq_getElem hlt
     exact⟨rfl,_,hcu,c3 o x _ ho hcu⟩
   have:=VR.rptr (fm:=fm') (ts:=[]) [ys] 0 o c 0 ys.length (fun _ o=>(cells[o]?).getD default) (by intro cc hcc;simp at hcc;rw[hcc])
    (by
     intro i cc o x hi ho
     obtain⟨rfl,u,hu,_,_⟩:=one i cc o x hi ho
     refine hcc _ _ ?_
     simp only[World.cell?,c1,Nat.zero_mul,Nat.zero_add,hu]
     simp)
    (fun i cc o x hi ho=>(one i cc o x hi ho).2.elim fun u hu=>hu.2.1)
    (by
     intro i cc o x hi ho
     obtain⟨rfl,u,hu,_,hv⟩:=one i cc o x hi ho
     rw[hu]
     exact hv)
   simpa using this
  ·cases e
 |eptrGone l k esz i o g a ht=>intro _ y e;simp[AV.br]at e
 |eptrOld l k esz i o g a m' c ht hlt=>intro _ y e;simp[AV.br]at e
 |eptr l k esz i o g c cap ht=>intro _ y e;simp[AV.br]at e
 |rptr es i o cb off esz u h1 h2 h3 h4 _=>intro _ y e;simp only[AV.br,oE]at e;subst e;exact(VR.rptr es i o cb off esz u h1 h2 h3 h4 (ts:=[])).mono hle (ZaA.refl _)
 |fnil=>intro _ y e;simp only[AV.br,oE]at e;subst e;exact .fnil
 |fn f first cap vf vc h1 h2 _ _ ih1 ih2=>
  rintro rfl y e
  simp only[AV.br]at e
  split at e
  ·rename_i a b ha hb
   simp only[oE]at e;subst e
   have g1:=Ze3 G F _ _ ha
   have g2:=Ze3 G F _ _ hb
   refine .fn f a b vf vc (by rw[g1.1];exact h1) (by rw[g2.1];exact h2) ?_ ?_
   ·intro i x v hx hv
    have hlt:i<first.length:=by rw[←g1.1];exact(gS.1 hx).1
    obtain⟨y,hy,hu⟩:=g1.2 i _ (gG hlt)
    rw[hx]at hy;obtain rfl:=oi hy
    exact ih1 i _ v (gG hlt) hv rfl hu
   ·intro i x v hx hv
    have hlt:i<cap.length:=by rw[←g2.1];exact(gS.1 hx).1
    obtain⟨y,hy,hu⟩:=g2.2 i _ (gG hlt)
    rw[hx]at hy;obtain rfl:=oi hy
    exact ih2 i _ v (gG hlt) hv rfl hu
  ·cases e
 |inil=>intro _ y e;simp only[AV.br,oE]at e;subst e;exact .inil
 |ifc t x v _ ih=>
  rintro rfl y e;simp only[AV.br,mS]at e;obtain⟨z,hz,rfl⟩:=e
  exact .ifc t z v (ih rfl hz)
 |agg cs vs h1 h2 _ ih=>
  rintro rfl y e;simp only[AV.br,mS]at e;obtain⟨z,hz,rfl⟩:=e
  have g:=Ze3 G F _ _ hz
  refine .agg z vs (by rw[g.1];exact h1) ?_ ?_
  ·intro x hx
   obtain⟨i,hi⟩:=List.mem_iff_getElem?.1 hx
   have hlt:i<cs.length:=by rw[←g.1];exact(gS.1 hi).1
   obtain⟨y,hy,hu⟩:=g.2 i _ (gG hlt)
   rw[hi]at hy;obtain rfl:=oi hy
   rw[Zlx hu]
   exact h2 _ (List.getElem_mem hlt)
  ·intro i x v hx hv
   have hlt:i<cs.length:=by rw[←g.1];exact(gS.1 hx).1
   obtain⟨y,hy,hu⟩:=g.2 i _ (gG hlt)
   rw[hx]at hy;obtain rfl:=oi hy
   exact ih i _ v (gG hlt) hv rfl hu
 |tup xs vs h1 _ ih=>
  rintro rfl y e;simp only[AV.br,mS]at e;obtain⟨z,hz,rfl⟩:=e
  have g:=Ze3 G F _ _ hz
  refine .tup z vs (by rw[g.1];exact h1) ?_
  intro i x v hx hv
  have hlt:i<xs.length:=by rw[←g.1];exact(gS.1 hx).1
  obtain⟨y,hy,hu⟩:=g.2 i _ (gG hlt)
  rw[hx]at hy;obtain rfl:=oi hy
  exact ih i _ v (gG hlt) hv rfl hu
 |dead v=>intro _ y e;simp[AV.br]at e
theorem HR.br (h:HR N0 W0 fm ts H w) (F:Nat→Nat→Option (List AV)) (hF:∀ l k ys c,F l k=some ys→tb ts l k=some (.box c)→∃ cells et,w.heap[c]?=some (.cells cells et (0,0))∧cells.size=ys.length∧
   ∀ (o:Nat) y v,ys[o]?=some y→cells[o]?=some v→y.flat=true∧VR (ZfG w) [] y v) {ts0:List Tie}{x:AV}{v:Value} (hv:VR fm ts0 x v):
  ts0=ts→∀ {y:AV},x.br H.get F=some y→VR (ZfG w) [] y v:=by
 intro e y hy
 exact h.brG (fun b o v hv=>h.fms b o v hv) (fun _ _ _ h=>h) (fun _ _ _ _ _ _ _ _ h=>h) F (fun l k ys c a b=>⟨fun _ _ h=>h,hF l k ys c a b⟩) hv e hy
theorem HR.brs (h:HR N0 W0 fm ts H w) (F:Nat→Nat→Option (List AV)) (hF:∀ l k ys c,F l k=some ys→tb ts l k=some (.box c)→∃ cells et,w.heap[c]?=some (.cells cells et (0,0))∧cells.size=ys.length∧
   ∀ (o:Nat) y v,ys[o]?=some y→cells[o]?=some v→y.flat=true∧VR (ZfG w) [] y v) {cs ys:List AV}{vs:List Value} (hv:VRs fm ts cs vs) (e:AV.brL H.get F cs=some ys):VRs (ZfG w) [] ys vs:=by
 have g:=Ze3 H.get F _ _ e
 refine⟨g.1.trans hv.1,?_⟩
 intro i x v hx hxv
 have hlt:i<cs.length:=by rw[←g.1];exact(gS.1 hx).1
 obtain⟨y,hy,hu⟩:=g.2 i _ (gG hlt)
 rw[hx]at hy;obtain rfl:=oi hy
 exact h.br F hF (hv.2 i _ v (gG hlt) hxv) rfl hu
theorem HR.boxF (h:HR N0 W0 fm ts H w):∀ (n l k:Nat) (ys:List AV) (c:Nat),boxF H.get n l k=some ys→tb ts l k=some (.box c)→∃ cells et,w.heap[c]?=some (.cells cells et (0,0))∧cells.size=ys.length∧
   ∀ (o:Nat) y v,ys[o]?=some y→cells[o]?=some v→y.flat=true∧VR (ZfG w) [] y v:=by
 intro n
 induction n with
 |zero=>intro l k ys c e;simp[Abs.boxF]at e
 |succ n ih=>
  intro l k ys c e ht
  simp only[Abs.boxF]at e
  split at e
  ·rename_i cs hg
   have hb:=h.blk l k _ hg
   rw[ht]at hb
   cases hb with
   |box _ _ hN hB=>
    obtain⟨cells,et,c1,c2,c3⟩:=hB
    have g:=Ze3 _ _ _ _ e
    have ZbS:cells.size=ys.length:=by rw[g.1,Zb6];exact c2
    refine⟨cells,et,c1,ZbS,?_⟩
    intro o y v hy hv
    have hlt:o<(AV.shL l cs).length:=by rw[←g.1];exact(gS.1 hy).1
    obtain⟨y',hy',hu⟩:=g.2 o _ (gG hlt)
    rw[hy]at hy';obtain rfl:=oi hy'
    have hx:(AV.shL l cs)[o]?=some (AV.shL l cs)[o]:=gG hlt
    rw[Zdv,mS]at hx
    obtain⟨x0,hx0,hx1⟩:=hx
    have h3:=c3 o x0 v hx0 hv
    refine⟨by rw[Zlx hu,←hx1,ZjL];exact h3.1,?_⟩
    rw[←hx1]at hu
    exact h.br _ ih (h3.2.sh l rfl) rfl hu
  ·cases e
def only (G:Get) (rs:List (Nat×Nat)):Get:=fun l k=>if rs.contains (l,k) then G l k else none
theorem HR.boxG (h:HR N0 W0 fm ts H w) {fm':FM}{G:Get} (hle:Zdq fm fm') (hG:∀ l k b,G l k=some b→H.get l k=some b) (hcell:∀ l k b c,G l k=some b→tbc (tb ts l k)=some c→∀ o u,w.cell? ⟨c,o,none⟩=some u→fm' c o=some u):
  ∀ (n l k:Nat) (ys:List AV) (c:Nat),Abs.boxF G n l k=some ys→tb ts l k=some (.box c)→(∀ o u,w.cell? ⟨c,o,none⟩=some u→fm' c o=some u)∧∃ cells et,w.heap[c]?=some (.cells cells et (0,0))∧cells.size=ys.length∧
   ∀ (o:Nat) y v,ys[o]?=some y→cells[o]?=some v→y.flat=true∧VR fm' [] y v:=by
 intro n
 induction n with
 |zero=>intro l k ys c e;simp[Abs.boxF]at e
 |succ n ih=>
  intro l k ys c e ht
  simp only[Abs.boxF]at e
  split at e
  ·rename_i cs hg
   have hb:=h.blk l k _ (hG _ _ _ hg)
   refine⟨hcell l k _ c hg (by rw[ht];rfl),?_⟩
   rw[ht]at hb
   cases hb with
   |box _ _ hN hB=>
    obtain⟨cells,et,c1,c2,c3⟩:=hB
    have g:=Ze3 _ _ _ _ e
    have ZbS:cells.size=ys.length:=by rw[g.1,Zb6];exact c2
    refine⟨cells,et,c1,ZbS,?_⟩
    intro o y v hy hv
    have hlt:o<(AV.shL l cs).length:=by rw[←g.1];exact(gS.1 hy).1
    obtain⟨y',hy',hu⟩:=g.2 o _ (gG hlt)
    rw[hy]at hy';obtain rfl:=oi hy'
    have hx:(AV.shL l cs)[o]?=some (AV.shL l cs)[o]:=gG hlt
    rw[Zdv,mS]at hx
    obtain⟨x0,hx0,hx1⟩:=hx
    have h3:=c3 o x0 v hx0 hv
    refine⟨by rw[Zlx hu,←hx1,ZjL];exact h3.1,?_⟩
    rw[←hx1]at hu
    exact h.brG hle hG hcell _ ih (h3.2.sh l rfl) rfl hu
  ·cases e
open Classical in
noncomputable def ZnB (fm:FM) (w:World) (ts:List Tie) (H:Zam) (rs:List (Nat×Nat)):FM:=fun b o=>if (∃ l k x,(l,k)∈rs∧H.get l k=some x∧tbc (tb ts l k)=some b) then w.cell? ⟨b,o,none⟩ else fm b o
theorem HR.takeRs (h:HR N0 W0 fm ts H w) (rs:List (Nat×Nat)):HR N0 W0 (ZnB fm w ts H rs) ts (H.puts (Zes rs)) w∧FmUp N0 fm (ZnB fm w ts H rs):=by
 have hle:Zdq fm (ZnB fm w ts H rs):=by
  intro b o v hv
  unfold ZnB
  split
  ·exact h.fms b o v hv
  ·exact hv
 have src:∀ l k b,Zam.get (H.puts (Zes rs)) l k=some b→(l,k)∉rs∧H.get l k=some b:=by
  intro l k b hg
  rw[Zer]at hg
  split at hg
  ·cases hg
  ·rename_i hn;exact⟨hn,hg⟩
 refine⟨⟨by simpa using h.len,?_,?_,?_,?_,h.bel,h.size,h.oth⟩,hle,?_⟩
 ·intro l k b hg
  exact(h.blk l k b (src l k b hg).2).mono hle (ZaA.refl _) (fun _ _=>rfl)
 ·intro l k l' k' b b' c hg hg'
  exact h.inj l k l' k' b b' c (src l k b hg).2 (src l' k' b' hg').2
 ·intro b o v hv
  unfold ZnB at hv
  split at hv
  ·exact hv
  ·exact h.fms b o v hv
 ·intro l k b c o hg ht
  obtain⟨hn,hg0⟩:=src l k b hg
  unfold ZnB
  rw[if_neg]
  ·exact h.fmd l k b c o hg0 ht
  ·rintro⟨l',k',x,hm,hg',ht'⟩
   obtain⟨rfl,rfl⟩:=h.inj l k l' k' b x c hg0 hg' ht ht'
   exact hn hm
 ·intro b o hb
  unfold ZnB
  rw[if_neg]
  rintro⟨l',k',x,hm,hg',ht'⟩
  have:=((h.blk l' k' x hg').lt ht').2
  omega
theorem Za0.take {P:Program}{f:FuncId}{args fargs:List AV}{R:AV→Prop} (m:Nat) (rs:List (Nat×Nat)) (hp:Za0 P f fargs R) (hz:AV.brL (only (Zam.get ([]::H)) rs) (Abs.boxF (only (Zam.get ([]::H)) rs) m) args=some fargs) (hr:(rs.all fun p=>0<p.1)=true):
  ZfE P f args H (fun y fr H'=>R y∧fr=[]∧([]:Fra)::H'=Zam.puts ([]::H) (Zes rs)):=by
 refine⟨hp.1,fun N0 W0 fm ts w vs hH hv=>?_⟩
 have hP:=hH.push
 obtain⟨hT,hU⟩:=hP.takeRs rs
 have hG:∀ l k b,only (Zam.get ([]::H)) rs l k=some b→Zam.get ([]::H) l k=some b:=by
  intro l k b e;unfold only at e;split at e
  ·exact e
  ·cases e
 have hcell:∀ l k b c,only (Zam.get ([]::H)) rs l k=some b→tbc (tb (Zcc::ts) l k)=some c→∀ o u,w.cell? ⟨c,o,none⟩=some u→ZnB fm w (Zcc::ts) ([]::H) rs c o=some u:=by
  intro l k b c e hc o u hu
  unfold only at e
  split at e
  ·rename_i hm
   unfold ZnB
   rw[if_pos ⟨l,k,b,by simpa using hm,e,hc⟩]
   exact hu
  ·cases e
 have h1:VRs (ZnB fm w (Zcc::ts) ([]::H) rs) [] fargs vs:=by
  have g:=Ze3 _ _ _ _ hz
  refine⟨g.1.trans hv.1,?_⟩
  intro i x v hx hxv
  have hlt:i<args.length:=by rw[←g.1];exact(gS.1 hx).1
  obtain⟨y,hy,hu⟩:=g.2 i _ (gG hlt)
  rw[hx]at hy;obtain rfl:=oi hy
  exact hP.brG hU.le hG hcell _ (hP.boxG hU.le hG hcell m) (hv.2 i _ v (gG hlt) hxv) rfl hu
 refine Calls.mono (hp.2 _ w vs hT.fms h1) ?_
 rintro e w' ⟨v,y,fm',rfl,hR,hin,hvr,hup,hb⟩
 obtain⟨f',H',hpu⟩:∃ f' H',Zam.puts ([]::H) (Zes rs)=f'::H':=by
  have:=Zam.length_puts (Zes rs) ([]::H)
  cases hc:Zam.puts ([]::H) (Zes rs) with
  |nil=>rw[hc]at this;simp at this
  |cons f' H'=>exact⟨f',H',rfl⟩
 have hf:f'=[]:=by
  have:∀ (rs:List (Nat×Nat)) (f:Fra) (H:Zam),(rs.all fun p=>0<p.1)=true→∃ H',Zam.puts (f::H) (Zes rs)=f::H':=by
   intro rs
   induction rs with
   |nil=>intro f H _;exact⟨H,rfl⟩
   |cons p rs ih=>
    intro f H hr
    obtain⟨l,k⟩:=p
    simp only[List.all_cons,Bool.and_eq_true,decide_eq_true_eq]at hr
    cases l with
    |zero=>omega
    |succ l=>exact ih f _ hr.2
  obtain⟨H2,e2⟩:=this rs [] H hr
  rw[hpu]at e2
  exact(List.cons.inj e2).1
 subst hf
 rw[hpu]at hT
 refine⟨v,y,[],H',fm',Zcc,ts,rfl,⟨hR,rfl,hpu.symm⟩,?_,?_,hvr.mono (Zdq.refl _) (ZaA.nil _),?_,ZaA.refl _,fun _ _ h=>h,fun _ _=>rfl⟩
 ·have:=congrArg List.length hpu;simpa using this.symm
 ·exact hT.pop.up hb hup hin |>.push
 ·exact hU.trans (hup.low hP.size)
end
theorem Zga {G G':Get}{F F':Nat→Nat→Option (List AV)} (hG:∀ l k b,G l k=some b→G' l k=some b) (hF:∀ l k b,F l k=some b→F' l k=some b) (hz:∀ l k e i n g y,(AV.loc l k e i n g).frz G=some y→(AV.loc l k e i n g).frz G'=some y):
  (∀ x y:AV,x.br G F=some y→x.br G' F'=some y)∧(∀ l ys:List AV,AV.brL G F l=some ys→AV.brL G' F' l=some ys):=by
 have key:∀ (n:Nat),(∀ x y:AV,SizeOf.sizeOf x<n→x.br G F=some y→x.br G' F'=some y)∧(∀ l ys:List AV,SizeOf.sizeOf l<n→AV.brL G F l=some ys→AV.brL G' F' l=some ys):=by
  intro n
  induction n with
  |zero=>exact⟨fun x y h=>absurd h (by omega),fun x y h=>absurd h (by omega)⟩
  |succ n ih=>
   refine⟨?_,?_⟩
   ·intro x y hn h
    cases x with
    |loc l k e i g j=>simp only[AV.br]at h ⊢;exact hz _ _ _ _ _ _ _ h
    |ptr l k o=>
     simp only[AV.br]at h ⊢
     split at h
     ·rename_i ys hys;rw[hF _ _ _ hys];exact h
     ·cases h
    |inn l k e o n=>
     simp only[AV.br]at h ⊢
     split at h
     ·rename_i ys hys;rw[hF _ _ _ hys];exact h
     ·cases h
    |fn f a b=>
     simp only[AV.br]at h ⊢
     split at h
     ·rename_i x z hx hz'
      rw[ih.2 a x (by simp at hn;omega) hx,ih.2 b z (by simp at hn;omega) hz']
      exact h
     ·cases h
    |ifc t v=>
     simp only[AV.br,mS]at h ⊢
     obtain⟨a,h1,h2⟩:=h
     exact⟨a,ih.1 v a (by simp at hn;omega) h1,h2⟩
    |agg cs=>
     simp only[AV.br,mS]at h ⊢
     obtain⟨a,h1,h2⟩:=h
     exact⟨a,ih.2 cs a (by simp at hn;omega) h1,h2⟩
    |tup cs=>
     simp only[AV.br,mS]at h ⊢
     obtain⟨a,h1,h2⟩:=h
     exact⟨a,ih.2 cs a (by simp at hn;omega) h1,h2⟩
    |_=>first|(simpa [AV.br] using h)|(simp[AV.br]at h)
   ·intro l ys hn h
    cases l with
    |nil=>simpa [AV.brL] using h
    |cons x l=>
     simp only[AV.brL]at h ⊢
     split at h
     ·rename_i a b ha hb
      rw[ih.1 x a (by simp at hn;omega) ha,ih.2 l b (by simp at hn;omega) hb]
      exact h
     ·cases h
 exact⟨fun x y h=>(key (SizeOf.sizeOf x+1)).1 x y (by omega) h,fun l ys h=>(key (SizeOf.sizeOf l+1)).2 l ys (by omega) h⟩
theorem Zeo {G G':Get} (hG:∀ l k b,G l k=some b→G' l k=some b) (hz:∀ l k e i n g y,(AV.loc l k e i n g).frz G=some y→(AV.loc l k e i n g).frz G'=some y):∀ n l k ys,boxF G n l k=some ys→boxF G' n l k=some ys:=by
 intro n
 induction n with
 |zero=>intro l k ys h;simp[boxF]at h
 |succ n ih=>
  intro l k ys h
  simp only[boxF]at h ⊢
  split at h
  ·rename_i cs hg
   rw[hG l k _ hg]
   exact(Zga hG ih hz).2 _ _ h
  ·cases h
theorem Zin:∀ (rs:List Nat) (f:Fra) (H:Zam),Zam.puts ([]::f::H) (Zes (rs.map fun k=>(1,k)))=[]::Ze6 f rs::H
 |[],f,H=>rfl
 |k::rs,f,H=>Zin rs (del f k) H
section
variable {P:Program}{T:Tys}{N0:Nat}{W0:World}{n:Nat}{fm:FM}{ts:List Tie}{H:Zam}{w:World}{Φ:Exit→St→Prop}
def Zb7 (P:Program) (f:FuncId) (args:List AV) (fr0:Fra) (R:AV→Fra→Prop):Prop:=
 Zmc P f∧∀ H N0 W0 fm t ts w vs,HR N0 W0 fm (t::ts) (fr0::H) w→(∀ k,16≤k→t k=none)→VRs fm (t::ts) args vs→
  Calls P f vs.toArray w fun e w'=>∃ v y fr' fm' t' ts',e=.returned v∧R y fr'∧HR N0 W0 fm' (t'::ts') (fr'::H) w'∧VR fm' (t'::ts') y v∧FmUp N0 fm fm'∧ZaA ts ts'∧
   (∀ l k,tb ts l k=none→tb ts' l k=none)∧∀ k,16≤k→t' k=none
def ZrA (T:Tys) (rs:List ResultVar) (H:Zam) (R:AV→Fra→Prop) (e:Exit) (st:St):Prop:=
 Zu6 T rs (fun y fr H'=>H'=H∧R y fr) e st
theorem Zb7.of_body (hT : ZaL P T) {f : FuncId} {fn : Func} {c : Code} {sc : SC} {args : List AV} {fr0 : Fra} {R : AV → Fra → Prop} (hf : P.funcs[f]? = some fn) (hb : fn.body = some c) (hnm : (fn.name == "runtime.NumGoroutine") = false)
  (he:sc.bare=Zba fn.ntmps c) (hfit:(Zba fn.ntmps c).fits fn.ntmps=true) (hargs:args.length≤fn.ntmps)
  (h:∀ H,AK P fn.ntmps (ZrA T fn.results.toList H R) [.sc sc] ⟨Zlh 0 args,fr0,H,16,fn.ntmps⟩):Zb7 P f args fr0 R:=by
 refine⟨⟨fn,hf,hnm,by simp[hb]⟩,?_⟩
 intro H N0 W0 fm t ts w vs hH ht hv
 refine calls_of_wp hf hb ((Zd8 []).1 ?_)
 have hl:=hv.1
 have hS:SR N0 W0 fn.ntmps ⟨Zlh 0 args,fr0,H,16,fn.ntmps⟩ { tmps:=vs.toArray++Array.replicate (fn.ntmps - vs.toArray.size) undef,defers:=[] } w fm (t::ts):=by
  refine⟨hH,?_,fun k hk=>ht k hk,by simp;omega,rfl⟩
  intro i x hx
  obtain⟨_,hx⟩:=Zhp args 0 i x hx
  simp only[Nat.sub_zero]at hx
  have hlt:i<vs.length:=by rw[←hl];exact(gS.1 hx).1
  refine⟨vs[i],?_,hv.2 i x _ hx (gG hlt)⟩
  rw[Array.getElem?_append_left (by simpa using hlt)]
  simp[hlt]
 have:=h H N0 W0 fm (t::ts) _ w [.code c] (bodyPost P fn fun e w'=>∃ v y fr' fm' t' ts',e=.returned v∧R y fr'∧HR N0 W0 fm' (t'::ts') (fr'::H) w'∧VR fm' (t'::ts') y v∧FmUp N0 fm fm'∧ZaA ts ts'∧
   (∀ l k,tb ts l k=none→tb ts' l k=none)∧∀ k,16≤k→t' k=none) hS (.sc he hfit .nil) ?_
 ·exact this
 ·intro e st' a' w' fm' ts' hE hS' hL
  have fin:(∃ xs,Zcu T st' fn.results.toList=some xs∧Gives (fun y fr H'=>H'=H∧R y fr) (Zb0 xs) st')→a'.defers=[]∧∃ v,(results fn a'.tmps).run P w'=.ok v w'∧∃ v_1 y fr' fm' t' ts',Ending.returned v=.returned v_1∧R y fr'∧HR N0 W0 fm' (t'::ts') (fr'::H) w'∧VR fm' (t'::ts') y v_1∧FmUp N0 fm fm'∧ZaA ts ts'∧
    (∀ l k,tb ts l k=none→tb ts' l k=none)∧∀ k,16≤k→t' k=none:=by
   rintro⟨xs,hxs,hg⟩
   obtain⟨v,h1,h2⟩:=Zc9 (P:=P) hT hS' hxs
   refine⟨hS'.dfr,v,h1,?_⟩
   cases ts' with
   |nil=>have:=hS'.hr.len;simp at this
   |cons t rest=>
    have hts:ZaA ts rest:=by simpa using hL.tle
    have hno:∀ l k,tb ts l k=none→tb rest l k=none:=by simpa using hL.no
    cases hg with
    |own ks y fr hn hk hy hfr hR=>
     obtain⟨hlow,hR⟩:=hR
     have hr:=hS'.hr.ren hfr hn
     rw[hlow]at hr
     exact⟨v,y,fr,fm',Zho ks t,rest,rfl,hR,hr,h2.ren rfl hy,hL.fle,hts,hno,fun k hk'=>by simp only[Zho];rw[List.getElem?_eq_none (by omega)];rfl⟩
    |frz y hy hr hR=>
     obtain⟨hlow,hR⟩:=hR
     have h3:=hS'.hr.frz (Zb0 xs).refs h2 hy (fun _ h=>h)
     have h4:=hS'.hr.letGo (Zb0 xs).refs
     obtain⟨f',hf'⟩:=Zk9 hr st'.fr st'.low
     rw[hf']at h4
     have hpt:∀ l k,tb (ZeL (t::rest) (Zb0 xs).refs) (l+1) k=tb rest l k:=by
      intro l k
      rw[Zck,if_neg]
      ·simp[tb]
      ·rintro⟨hm,_⟩
       have:=List.all_eq_true.1 hr _ hm
       simp at this
     have ZbS:=Zfl (Zb0 xs).refs (t::rest)
     cases hg:ZeL (t::rest) (Zb0 xs).refs with
     |nil=>rw[hg]at ZbS;simp at ZbS
     |cons t2 rest2=>
      rw[hg]at h4 hpt
      have e2:∀ l k,tb rest2 l k=tb rest l k:=fun l k=>by simpa [tb] using hpt l k
      have hup:=hS'.hr.fmUp (Zb0 xs).refs
      have h5:=h4.pop.push
      rw[hlow]at h5 hup h3
      exact⟨v,y,[],_,Zcc,rest2,rfl,hR,h5,h3.mono (Zdq.refl _) (ZaA.nil _),hL.fle.trans hup,fun l k=>by rw[e2];exact hts l k,fun l k hh=>by rw[e2];exact hno l k hh,fun _ _=>rfl⟩
  cases e with
  |normal=>exact fin hE
  |ret=>exact fin hE
  |_=>exact hE.elim
def gv1 (gs:List Nat) (G:Get) (F:Nat→Nat→Option (List AV)):AV→Option AV
 |.loc 1 k e i n g=>match idx gs k with
  |some j=>some (.loc 0 j e i n g)
  |none=>(AV.loc 1 k e i n g).br G F
 |x=>x.br G F
def gvL (gs:List Nat) (G:Get) (F:Nat→Nat→Option (List AV)):List AV→Option (List AV)
 |[]=>some []
 |x::l=>match gv1 gs G F x,gvL gs G F l with
  |some x,some l=>some (x::l)
  |_,_=>none
def ZfR (f:Fra):Nat→List Nat→Option Fra
 |_,[]=>some []
 |i,k::r=>match look f k with
  |some (.arr et e es)=>(ZfR f (i+1) r).map fun l=>(i,.arr et e es)::l
  |_=>none
theorem Zik (f:Fra):∀ (r:List Nat) (i:Nat) (fr:Fra),ZfR f i r=some fr→∀ j b,look fr j=some b→i≤j∧∃ k et e es,r[j - i]?=some k∧look f k=some b∧b=.arr et e es
 |[],i,fr,h,j,b,hj=>by simp only[ZfR,oE]at h;subst h;simp[look]at hj
 |k::r,i,fr,h,j,b,hj=>by
  simp only[ZfR]at h
  split at h
  ·rename_i et e es hk
   simp only[mS]at h
   obtain⟨l,hl,rfl⟩:=h
   simp only[look]at hj
   split at hj
   ·rename_i he
    subst he
    obtain rfl:=oi hj
    exact⟨Nat.le_refl _,k,et,e,es,by simp,hk,rfl⟩
   ·obtain⟨h1,k',et',e',es',h2,h3,h4⟩:=Zik f r (i+1) l hl j b hj
    refine⟨by omega,k',et',e',es',?_,h3,h4⟩
    have:j - i=(j - (i+1))+1:=by omega
    rw[this,List.getElem?_cons_succ];exact h2
  ·cases h
theorem ZgB (ks:List Nat):∀ (f:Fra) (j:Nat),look (Ze6 f ks) j=if j∈ks then none else look f j:=by
 induction ks with
 |nil=>intro f j;simp[Ze6]
 |cons k ks ih=>
  intro f j
  simp only[Ze6,ih,ZgA,List.mem_cons]
  by_cases h1:j∈ks
  ·simp[h1]
  ·by_cases h2:k=j
   ·simp[h2]
   ·simp[h1,h2,Ne.symm h2]
theorem HR.give {h:Tie}{rest:List Tie}{f:Fra} (hh:HR N0 W0 fm (Zcc::h::rest) ([]::f::H) w) {gs:List Nat}{fr0:Fra} (hg:ZfR f 0 gs=some fr0) (hnd:gs.Nodup):
  HR N0 W0 fm (Zho gs h::h::rest) (fr0::Ze6 f gs::H) w:=by
 have src:∀ l k b,Zam.get (fr0::Ze6 f gs::H) l k=some b→(l=0∧∃ k0 et e es,gs[k]?=some k0∧look f k0=some b∧b=.arr et e es∧tb (Zho gs h::h::rest) 0 k=h k0)∨(l≠0∧Zam.get ([]::f::H) l k=some b∧tb (Zho gs h::h::rest) l k=tb (Zcc::h::rest) l k∧(l=1→k∉gs)):=by
  intro l k b hb
  cases l with
  |zero=>
   simp only[Zam.get]at hb
   obtain⟨_,k0,et,e,es,h1,h2,h3⟩:=Zik f gs 0 fr0 hg k b hb
   simp only[Nat.sub_zero]at h1
   exact .inl ⟨rfl,k0,et,e,es,h1,h2,h3,by simp[tb,Zho,h1]⟩
  |succ l=>
   cases l with
   |zero=>
    simp only[Zam.get,ZgB]at hb
    split at hb
    ·cases hb
    ·rename_i hn
     exact .inr ⟨by omega,by simpa [Zam.get] using hb,by simp[tb],fun _=>hn⟩
   |succ l=>exact .inr ⟨by omega,by simpa [Zam.get] using hb,by simp[tb],fun e=>by omega⟩
 refine⟨by have:=hh.len;simpa using this,?_,?_,hh.fms,?_,hh.bel,hh.size,hh.oth⟩
 ·intro l k b hb
  rcases src l k b hb with ⟨rfl,k0,et,e,es,h1,h2,rfl,h4⟩|⟨hl,h2,h3,_⟩
  ·rw[h4]
   have:=hh.blk 1 k0 _ (by simpa [Zam.get] using h2)
   simp only[tb]at this
   generalize h k0=tt at this
   cases this with
   |nil=>exact .nil _ _
   |arr _ _ _ c cap hN hA=>exact .arr _ _ _ c cap hN hA
  ·rw[h3]
   have:=hh.blk l k b h2
   obtain⟨l,rfl⟩:∃ m,l=m+1:=⟨l - 1,by omega⟩
   simpa using this
 ·intro l1 k1 l2 k2 b1 b2 c g1 g2 t1 t2
  rcases src l1 k1 b1 g1 with ⟨rfl,q1,_,_,_,a1,a2,_,a4⟩|⟨hl1,a2,a3,a4⟩
  ·rw[a4]at t1
   rcases src l2 k2 b2 g2 with ⟨rfl,q2,_,_,_,c1,c2,_,c4⟩|⟨hl2,c2,c3,c4⟩
   ·rw[c4]at t2
    have:=(hh.inj 1 q1 1 q2 b1 b2 c (by simpa [Zam.get] using a2) (by simpa [Zam.get] using c2) (by simpa [tb] using t1) (by simpa [tb] using t2)).2
    subst this
    refine⟨rfl,?_⟩
    exact(List.getElem?_inj (gS.1 a1).1 hnd).1 (a1.trans c1.symm)
   ·rw[c3]at t2
    obtain⟨e1,e2⟩:=hh.inj 1 q1 l2 k2 b1 b2 c (by simpa [Zam.get] using a2) c2 (by simpa [tb] using t1) t2
    subst e1 e2
    exact absurd (List.mem_of_getElem? a1) (c4 rfl)
  ·rw[a3]at t1
   rcases src l2 k2 b2 g2 with ⟨rfl,q2,_,_,_,c1,c2,_,c4⟩|⟨hl2,c2,c3,c4⟩
   ·rw[c4]at t2
    obtain⟨e1,e2⟩:=hh.inj l1 k1 1 q2 b1 b2 c a2 (by simpa [Zam.get] using c2) t1 (by simpa [tb] using t2)
    subst e1 e2
    exact absurd (List.mem_of_getElem? c1) (a4 rfl)
   ·rw[c3]at t2
    exact hh.inj l1 k1 l2 k2 b1 b2 c a2 c2 t1 t2
 ·intro l k b c o hb hc
  rcases src l k b hb with ⟨rfl,k0,_,_,_,h1,h2,_,h4⟩|⟨hl,h2,h3,_⟩
  ·rw[h4]at hc
   exact hh.fmd 1 k0 b c o (by simpa [Zam.get] using h2) (by simpa [tb] using hc)
  ·rw[h3]at hc
   exact hh.fmd l k b c o h2 hc
theorem Zr2 {h:Tie}{rest:List Tie}{f:Fra}{fm1:FM} (hh:HR N0 W0 fm (Zcc::h::rest) ([]::f::H) w) (hle:Zdq fm fm1) {G:Get} (hG:∀ l k b,G l k=some b→Zam.get ([]::f::H) l k=some b)
  (hcell:∀ l k b c,G l k=some b→tbc (tb (Zcc::h::rest) l k)=some c→∀ o u,w.cell? ⟨c,o,none⟩=some u→fm1 c o=some u) {gs:List Nat}{m:Nat}:
  ∀ (args ys:List AV) (vs:List Value),gvL gs G (boxF G m) args=some ys→VRs fm (Zcc::h::rest) args vs→VRs fm1 (Zho gs h::h::rest) ys vs
 |[],ys,vs,e,hv=>by
  simp only[gvL,oE]at e;subst e
  exact⟨hv.1,fun i x v hx=>by simp at hx⟩
 |x::l,ys,vs,e,hv=>by
  simp only[gvL]at e
  split at e
  ·rename_i y ys' hy hys
   obtain rfl:=oi e
   cases vs with
   |nil=>have:=hv.1;simp at this
   |cons v vs=>
    have hx:VR fm (Zcc::h::rest) x v:=hv.2 0 x v rfl rfl
    have ih:=Zr2 hh hle hG hcell l ys' vs hys ⟨by simpa using hv.1,fun i a b p q=>hv.2 (i+1) a b (by simpa using p) (by simpa using q)⟩
    refine⟨by simp[ih.1],?_⟩
    intro i a b ha hb
    cases i with
    |succ i=>simp at ha hb;exact ih.2 i a b ha hb
    |zero=>
     simp at ha hb;subst ha hb
     have br:x.br G (boxF G m)=some y→VR fm1 (Zho gs h::h::rest) y v:=fun hbr=>
      (hh.brG hle hG hcell _ (hh.boxG hle hG hcell m) hx rfl hbr).mono (Zdq.refl _) (ZaA.nil _)
     unfold gv1 at hy
     split at hy
     ·rename_i k e i n g
      split at hy
      ·rename_i j hj
       obtain rfl:=oi hy
       have hj':=ZlA gs k j hj
       have htb:tb (Zho gs h::h::rest) 0 j=tb (Zcc::h::rest) 1 k:=by simp[tb,Zho,hj']
       have hx':=hx.mono hle (ZaA.refl _)
       cases hx' with
       |locGone _ _ _ _ _ _ a cp ht hn ha=>exact .locGone _ _ _ _ _ _ a cp (htb.trans ht) hn ha
       |locOld _ _ _ _ _ _ a cp m' c ht hlt hn ha=>exact .locOld _ _ _ _ _ _ a cp m' c (htb.trans ht) hlt hn ha
       |locNil _ _ _ a ht=>exact .locNil _ _ _ a (htb.trans ht)
       |loc _ _ _ _ _ _ c cap cp a ht hn hnc hc ha=>exact .loc _ _ _ _ _ _ c cap cp a (htb.trans ht) hn hnc hc ha
      ·exact br hy
     ·exact br hy
  ·cases e
theorem Zb7.used {f:FuncId}{args args0:List AV}{fr0 f0:Fra}{R:AV→Fra→Prop} (m:Nat) (rs gs:List Nat) (hp:Zb7 P f args0 fr0 R) (hz:gvL gs (only (Zam.get ([]::f0::H)) (rs.map fun k=>(1,k))) (boxF (only (Zam.get ([]::f0::H)) (rs.map fun k=>(1,k))) m) args=some args0)
  (hg:ZfR (Ze6 f0 rs) 0 gs=some fr0) (hnd:(decide gs.Nodup&&decide (gs.length≤16))=true):ZfE P f args (f0::H) (fun y fr H'=>R y fr∧H'=Ze6 (Ze6 f0 rs) gs::H):=by
 simp only[Bool.and_eq_true,decide_eq_true_eq]at hnd
 refine⟨hp.1,fun N0 W0 fm ts w vs hH hv=>?_⟩
 have hP:=hH.push
 cases ts with
 |nil=>have:=hH.len;simp at this
 |cons h rest=>
  obtain⟨hT,hU⟩:=hP.takeRs (rs.map fun k=>(1,k))
  rw[Zin]at hT
  have hG:∀ l k b,only (Zam.get ([]::f0::H)) (rs.map fun k=>(1,k)) l k=some b→Zam.get ([]::f0::H) l k=some b:=by
   intro l k b e;unfold only at e;split at e
   ·exact e
   ·cases e
  have hcell:∀ l k b c,only (Zam.get ([]::f0::H)) (rs.map fun k=>(1,k)) l k=some b→tbc (tb (Zcc::h::rest) l k)=some c→∀ o u,w.cell? ⟨c,o,none⟩=some u→ZnB fm w (Zcc::h::rest) ([]::f0::H) (rs.map fun k=>(1,k)) c o=some u:=by
   intro l k b c e hc o u hu
   unfold only at e
   split at e
   ·rename_i hm
    unfold ZnB
    rw[if_pos ⟨l,k,b,by simpa using hm,e,hc⟩]
    exact hu
   ·cases e
  have h1:=Zr2 hP hU.le hG hcell args args0 vs hz hv
  have h2:=hT.give hg hnd.1
  refine Calls.mono (hp.2 (Ze6 (Ze6 f0 rs) gs::H) N0 W0 _ (Zho gs h) (h::rest) w vs h2 (fun k hk=>by simp only[Zho];rw[List.getElem?_eq_none (by omega)];rfl) h1) ?_
  rintro e w' ⟨v,y,fr',fm',t',ts',rfl,hR,hhr,hvr,hup,hts,hno,ht⟩
  exact⟨v,y,fr',Ze6 (Ze6 f0 rs) gs::H,fm',t',ts',rfl,⟨hR,rfl⟩,by simp,hhr,hvr,hU.trans hup,hts,hno,ht⟩
end
def ZfI (G:Get):Get:=fun l k=>match l with
 |0=>none
 |l+1=>G l k
def ZiM (G:Get):Nat→List Nat→Option Fra
 |_,[]=>some []
 |i,k::r=>match G 0 k with
  |some (.arr et e es)=>(ZiM G (i+1) r).map fun l=>(i,.arr et e es)::l
  |_=>none
theorem Zha {G G':Get} (h:∀ l k b,G l k=some b→G' l k=some b):∀ (r:List Nat) (i:Nat) (fr:Fra),ZiM G i r=some fr→ZiM G' i r=some fr
 |[],i,fr,e=>e
 |k::r,i,fr,e=>by
  simp only[ZiM]at e ⊢
  split at e
  ·rename_i et z es hk
   simp only[mS]at e
   obtain⟨l,hl,rfl⟩:=e
   rw[h 0 k _ hk]
   simp only[Zha h r (i+1) l hl,Option.map_some]
  ·cases e
theorem Zmq (f:Fra) (H:Zam) (rs:List Nat):∀ (r:List Nat) (i:Nat) (fr:Fra),ZiM (Zam.get (f::H)) i r=some fr→(∀ k∈r,k∉rs)→ZfR (Ze6 f rs) i r=some fr
 |[],i,fr,e,_=>e
 |k::r,i,fr,e,hk=>by
  simp only[ZiM,Zam.get]at e
  simp only[ZfR,ZgB,if_neg (hk k List.mem_cons_self)]
  split at e
  ·rename_i et z es hk'
   simp only[mS]at e
   obtain⟨l,hl,rfl⟩:=e
   simp only[hk',Zmq f H rs r (i+1) l hl (fun k h=>hk k (List.mem_cons_of_mem _ h)),Option.map_some]
  ·cases e
def Zg9 (ks:List Nat):List (Nat×Nat×Option Blk):=ks.map fun k=>(0,k,none)
def Zli (kb:Nat):Fra→List (Nat×Nat×Option Blk)
 |[]=>[]
 |(c,b)::R=>Zli kb R++[(0,kb+c,some (b.imp kb))]
theorem Zhj:∀ (ks:List Nat) (f:Fra) (H:Zam),Zam.puts (f::H) (Zg9 ks)=Ze6 f ks::H
 |[],_,_=>rfl
 |k::ks,f,H=>Zhj ks (del f k) H
theorem Ziv (kb:Nat):∀ (R:Fra) (f:Fra) (H:Zam),Zam.puts (f::H) (Zli kb R)=Zh8 kb R f::H
 |[],_,_=>rfl
 |(c,b)::R,f,H=>by
  simp only[Zli,Zam.puts_append,Ziv kb R f H,Zh8]
  rfl
theorem Zj7 {gs:List Nat}{G G':Get}{F F':Nat→Nat→Option (List AV)} (h:∀ x y:AV,x.br G F=some y→x.br G' F'=some y):∀ (l ys:List AV),gvL gs G F l=some ys→gvL gs G' F' l=some ys
 |[],ys,e=>e
 |x::l,ys,e=>by
  simp only[gvL]at e ⊢
  split at e
  ·rename_i a b ha hb
   have ha':gv1 gs G' F' x=some a:=by
    cases x with
    |loc lv k e i n g=>
     match lv,ha with
     |0,ha=>exact h _ _ ha
     |1,ha=>
      simp only[gv1]at ha ⊢
      cases hj:idx gs k with
      |some j=>rw[hj]at ha;exact ha
      |none=>rw[hj]at ha;exact h _ _ ha
     |_+2,ha=>exact h _ _ ha
    |_=>exact h _ _ ha
   rw[ha',Zj7 h l b hb]
   exact e
  ·cases e
def Zdz (kb:Nat) (t' h:Tie):Tie:=fun k=>if kb≤k∧k<kb+16 then t' (k - kb) else h k
end Go.Abs
namespace Go.Abs
open Go Go.RowKit
set_option linter.unusedSectionVars false
section
variable {P:Program}{T:Tys}{N0:Nat}{W0:World}{fm:FM}{ts:List Tie}{H:Zam}{w:World}
def AV.lo:AV→Bool
 |.loc l _ _ _ _ _=>l==0
 |.ptr l _ _=>l==0
 |x=>x.leaf
def AV.lot:AV→Bool
 |.tup vs=>vs.all AV.lo
 |.agg cs=>cs.all AV.lo
 |x=>x.lo
def Blk.lo:Blk→Prop
 |.arr _ _ es=>∀ c∈es,∀ x∈c,x.leaf=true
 |.box cs=>∀ x∈cs,x.lo=true
theorem VR.lo {fm fm':FM}{t:Tie}{ts:List Tie}{x:AV}{v:Value} (h:VR fm' [t] x v) (hx:x.lo=true):VR fm (t::ts) x v:=by
 cases h with
 |locGone l k esz i n g a cp h hn' ha=>
  obtain rfl:l=0:=by simpa [AV.lo] using hx
  exact .locGone 0 _ esz i n g a cp h hn' ha
 |locOld l k esz i n g a cp m' c h hlt hn' ha=>
  obtain rfl:l=0:=by simpa [AV.lo] using hx
  exact .locOld 0 _ esz i n g a cp m' c h hlt hn' ha
 |locNil l k esz a h=>
  obtain rfl:l=0:=by simpa [AV.lo] using hx
  exact .locNil 0 _ esz a h
 |loc l k esz i n g c cap cp a h hn' hnc hc ha=>
  obtain rfl:l=0:=by simpa [AV.lo] using hx
  exact .loc 0 _ esz i n g c cap cp a h hn' hnc hc ha
 |ptr l k o c h=>
  obtain rfl:l=0:=by simpa [AV.lo] using hx
  exact .ptr 0 _ o c h
 |bool b=>exact .bool b
 |int k n=>exact .int k n
 |str s=>exact .str s
 |nil=>exact .nil
 |pnil=>exact .pnil
 |fnil=>exact .fnil
 |inil=>exact .inil
 |_=>simp[AV.lo,AV.leaf]at hx
theorem VR.lot {fm fm':FM}{t:Tie}{ts:List Tie}{x:AV}{v:Value} (h:VR fm' [t] x v) (hx:x.lot=true):VR fm (t::ts) x v:=by
 cases x with
 |tup xs=>
  cases h with
  |tup _ vs h1 h3=>exact .tup xs vs h1 (fun i x v a b=>(h3 i x v a b).lo (List.all_eq_true.1 hx x (List.mem_of_getElem? a)))
 |agg cs=>
  cases h with
  |agg _ vs h1 h2 h3=>exact .agg cs vs h1 h2 (fun i x v a b=>(h3 i x v a b).lo (List.all_eq_true.1 hx x (List.mem_of_getElem? a)))
 |_=>exact h.lo hx
theorem BR.lo {fm fm':FM}{t:Tie}{ts:List Tie}{w:World}{N N0:Nat}{x:Option TB}{b:Blk} (h:BR fm' [t] w N x b) (hN:N0≤N) (hb:b.lo):BR fm (t::ts) w N0 x b:=by
 cases h with
 |nil et esz=>exact .nil et esz
 |arr et esz es c cap h1 hA=>
  obtain⟨cells,a1,a2,a3,a4,a5,a6,a7⟩:=hA
  refine .arr et esz es c cap (Nat.le_trans hN h1) ⟨cells,a1,a2,a3,a4,a5,a6,?_⟩
  intro i d o x v p q r
  have:=a7 i d o x v p q r
  exact⟨this.1,this.2.leaf (hb d (List.mem_of_getElem? p) x (List.mem_of_getElem? q))⟩
 |box c cs h1 hB=>
  obtain⟨cells,et,c1,c2,c3⟩:=hB
  exact .box c cs (Nat.le_trans hN h1) ⟨cells,et,c1,c2,fun o x v p q=>⟨(c3 o x v p q).1,(c3 o x v p q).2.lo (hb x (List.mem_of_getElem? p))⟩⟩
def ZqJ:Fra→Prop
 |[]=>True
 |(_,b)::l=>b.lo∧ZqJ l
theorem ZkA:∀ (l:Fra) (k:Nat) (b:Blk),ZqJ l→look l k=some b→b.lo
 |[],k,b,_,h=>by simp[look]at h
 |(j,x)::l,k,b,h,e=>by
  simp only[look]at e
  split at e
  ·obtain rfl:=oi e;exact h.1
  ·exact ZkA l k b h.2 e
theorem Zb7.lentW {f:FuncId}{fargs:List AV}{vs:List Value}{y0:AV}{fr0:Fra} (hp:Zb7 P f fargs [] (fun y fr=>y=y0∧fr=fr0)) (hH:HR N0 W0 fm ts H w) (h1:VRs (ZfG w) [] fargs vs) (hy:y0.lot=true) (hf:ZqJ fr0):
  Calls P f vs.toArray w fun e w'=>∃ v t',e=.returned v∧HR N0 W0 fm (t'::ts) (fr0::H) w'∧VR fm (t'::ts) y0 v∧∀ k,16≤k→t' k=none:=by
 have hn:HR w.heap.size w (fun b o=>w.cell? ⟨b,o,none⟩) [] [] w:=HR.nothing (fun b o v h=>h)
 have hv1:VRs (fun b o=>w.cell? ⟨b,o,none⟩) (Zcc::[]) fargs vs:=by
  refine⟨h1.1,fun i x v a b=>?_⟩
  have h2:=h1.2 i x v a b
  exact h2.mono (Zdq.refl _) (ZaA.nil _)
 refine Calls.mono (hp.2 [] w.heap.size w _ Zcc [] w vs hn.push (fun _ _=>rfl) hv1) ?_
 rintro e w' ⟨v,y,fr',fm',t',ts',rfl,⟨rfl,rfl⟩,hhr,hvr,hup,htl,hno,h16⟩
 have hts:ts'=[]:=by have:=hhr.len;simp at this;exact this
 subst hts
 have hb:=hhr.bel
 have hH':HR N0 W0 fm ts H w':=hH.world (fun i hi=>hb.block i hi) (hb.mono hH.size)
 refine⟨v,t',rfl,?_,hvr.lot hy,h16⟩
 have up:∀ {k b c},look fr' k=some b→tbc (t' k)=some c→w.heap.size≤c:=by
  intro k b c hk hc
  have:=(hhr.blk 0 k b (by simpa [Zam.get] using hk)).lt (by simpa [tb] using hc)
  exact this.2
 have low:∀ {l k b c},Zam.get H l k=some b→tbc (tb ts l k)=some c→c<w.heap.size:=by
  intro l k b c hk hc
  exact((hH.blk l k b hk).lt hc).1
 refine⟨by have:=hH'.len;simpa using this,?_,?_,hH'.fms,?_,hH'.bel,hH'.size,hH'.oth⟩
 ·intro l k b hg
  cases l with
  |zero=>
   have h2:=hhr.blk 0 k b (by simpa [Zam.get] using hg)
   simp only[List.drop_zero,tb]at h2 ⊢
   exact h2.lo hH.size (ZkA _ _ _ hf (by simpa [Zam.get] using hg))
  |succ l=>exact hH'.blk l k b hg
 ·intro l k l' k' b b' c g1 g2 t1 t2
  cases l with
  |zero=>
   cases l' with
   |zero=>exact hhr.inj 0 k 0 k' b b' c (by simpa [Zam.get] using g1) (by simpa [Zam.get] using g2) t1 t2
   |succ l'=>exact absurd (low g2 t2) (by have:=up (by simpa [Zam.get] using g1) t1;omega)
  |succ l=>
   cases l' with
   |zero=>exact absurd (low g1 t1) (by have:=up (by simpa [Zam.get] using g2) t2;omega)
   |succ l'=>
    have:=hH'.inj l k l' k' b b' c g1 g2 t1 t2
    exact⟨by omega,this.2⟩
 ·intro l k b c o hg hc
  cases l with
  |zero=>exact hH.noFm (up (by simpa [Zam.get] using hg) hc) o
  |succ l=>exact hH'.fmd l k b c o hg hc
theorem Zb7.lent {f:FuncId}{args fargs:List AV}{y0:AV}{fr0:Fra} (m:Nat) (hp:Zb7 P f fargs [] (fun y fr=>y=y0∧fr=fr0)) (hz:AV.brL (Zam.get ([]::H)) (Abs.boxF (Zam.get ([]::H)) m) args=some fargs) (hy:y0.lot=true) (hf:ZqJ fr0):
  ZfE P f args H (fun y fr H'=>y=y0∧fr=fr0∧H'=H):=by
 refine⟨hp.1,fun N0 W0 fm ts w vs hH hv=>?_⟩
 have h1:=hH.push.brs _ (hH.push.boxF m) hv hz
 refine Calls.mono (Zb7.lentW hp hH h1 hy hf) ?_
 rintro e w' ⟨v,t',rfl,h2,h3,h4⟩
 exact⟨v,y0,fr0,H,fm,t',ts,rfl,⟨rfl,rfl,rfl⟩,rfl,h2,h3,FmUp.refl _ _,ZaA.refl _,fun _ _ h=>h,h4⟩
end
end Go.Abs
namespace Go.Abs
open Go Go.RowKit
set_option linter.unusedSectionVars false
section
variable [Md] {P:Program}{T:Tys}{n:Nat}{Φ:Exit→St→Prop}
theorem Zp6 {f:List It→St→Ev}{b:Bool}{t t':List It}{s s':St} (h1:b=true→ZbX P n Φ (f t s)) (h2:b=false→ZbX P n Φ (f t' s')):ZbX P n Φ (two f b t s t' s'):=by
 cases b with
 |true=>exact h1 rfl
 |false=>exact h2 rfl
theorem Zlm {f:FuncId}{args fargs:List AV}{dst:Option Tmp}{drop:List Nat}{todo:List It}{st:St}{R:AV→Prop} (hp:Za0 P f fargs R) (hz:AV.frzL (Zam.get ([]::st.fr::st.low)) args=some fargs) (hr:AV.refsL args=[])
  (h:∀ y,R y→AK P n Φ todo (st.took dst drop y [] (st.fr::st.low))):ZbX P n Φ (.call f args dst drop todo st):=
 ⟨_,_,_,_,Zeb.refl _ _ _,(hp.frozen hz hr).toP,by rintro v fr H ⟨h1,rfl,rfl⟩;exact h v h1,fun _ _ h=>h.elim⟩
theorem Zll {f:FuncId}{args fargs:List AV}{dst:Option Tmp}{drop:List Nat}{todo:List It}{st:St}{R:AV→Prop} (hp:Za0 P f fargs R) (hz:AV.frzL (Zam.get ([]::st.fr::st.low)) args=some fargs) (hs:∀ y,R y→y.scal=true)
  (h:∀ y,R y→AK P n Φ todo (st.took dst drop y [] (st.fr::st.low))):ZbX P n Φ (.call f args dst drop todo st):=
 ⟨_,_,_,_,Zeb.refl _ _ _,(hp.borrow hz hs).toP,by rintro v fr H ⟨h1,rfl,rfl⟩;exact h v h1,fun _ _ h=>h.elim⟩
theorem Zgu {f:FuncId}{args:List AV}{dst:Option Tmp}{drop:List Nat}{todo:List It}{st:St}{R:AV→Fra→Zam→Prop} (hp:ZfE P f args (st.fr::st.low) R)
  (h:∀ y fr H,R y fr H→AK P n Φ todo (st.took dst drop y fr H)):ZbX P n Φ (.call f args dst drop todo st):=⟨_,_,R,_,Zeb.refl _ _ _,hp.toP,h,fun _ _ h=>h.elim⟩
end
attribute [go_sem] ZqO ZjG ZjF run ZcM Zu9 Zpd ZjD callee ZjM Zi8 St.past Znx ZlJ ZcN opv Zlk look ZkF wake St.by ZhB ins Ze6 del Zam.puts Zam.put St.withHeap Zb1 constAV constAVs
 ZcC Zu8 ZhK St.get Zqv Zqu Zf4 ZfO cellsAt Zfs Zkd TI.isAgg AV.cells Zap Zfi Zam.get Zf3 AV.shL AV.sh aUn Zca St.enter Zlh St.took AV.imp AV.impL Zh8 Blk.imp Zcu Zm3 Zb0 AV.frz AV.frzL AV.refs AV.refsL
 Zmf Zmg ZfL ZdF Zme ZcI Zeq Zbf ZbH ZbL Ze8 ZbT ZbO Zie Zgc ZdA Zgz Zgy Zmi bytesOf ZcH Zav AV.unL AV.un ZlF Zes AV.flat AV.scal AV.leaf
 List.length_cons List.length_nil List.append_nil List.nil_append List.cons_append reduceIte Nat.reduceAdd Nat.reduceMul Nat.reduceLT Nat.reduceEqDiff Nat.reduceLeDiff Nat.reduceSub Option.map_some Option.map_none Option.bind_some Option.bind_none List.length_map reduceCtorEq
 List.take_succ_cons List.take_zero List.drop_succ_cons List.drop_zero List.getElem?_cons_zero List.getElem?_cons_succ List.getElem?_nil List.map_cons List.map_nil beq_self_eq_true Nat.le_refl and_self and_true true_and beq_true beq_false Bool.not_true Bool.not_false
end Go.Abs
namespace Go.Abs
open Go Go.RowKit
def Ztv (tm tm':Tm):Prop:=∀ t x,tm t=some x→tm' t=some x
def GLe (G G':Get):Prop:=∀ l k b,G l k=some b→G' l k=some b
section
variable {tm tm':Tm}{G G':Get} (htm:Ztv tm tm') (hG:GLe G G')
include htm in
theorem ZhI {x:Operand}{y:AV} (h:opv tm x=some y):opv tm' x=some y:=by
 cases x with
 |tmp t=>exact htm t y h
 |_=>exact h
include htm in
theorem Zfp:∀ (l:List Operand) (ys:List AV),Zlk tm l=some ys→Zlk tm' l=some ys
 |[],ys,h=>h
 |x::l,ys,h=>by
  simp only[Zlk]at h ⊢
  split at h
  ·rename_i a b ha hb
   rw[ZhI htm ha,Zfp l b hb];exact h
  ·cases h
include htm in
theorem Zfq:∀ (l:List (Nat×Operand)) (ys:List (Nat×AV)),ZcI tm l=some ys→ZcI tm' l=some ys
 |[],ys,h=>h
 |(i,x)::l,ys,h=>by
  simp only[ZcI]at h ⊢
  split at h
  ·rename_i a b ha hb
   rw[ZhI htm ha,Zfq l b hb];exact h
  ·cases h
mutual
theorem frz_mono (hG:GLe G G'):∀ (x y:AV),x.frz G=some y→x.frz G'=some y
 |.loc l k e i n g,y,h=>by
  simp only[AV.frz]at h ⊢
  split at h
  ·rename_i et esz es hg
   rw[hG l k _ hg];exact h
  ·cases h
 |.ifc t v,y,h=>by
  simp only[AV.frz,mS]at h ⊢
  obtain⟨a,h1,h2⟩:=h
  exact⟨a,frz_mono hG v a h1,h2⟩
 |.agg cs,y,h=>by
  simp only[AV.frz,mS]at h ⊢
  obtain⟨a,h1,h2⟩:=h
  exact⟨a,frzL_mono hG cs a h1,h2⟩
 |.tup vs,y,h=>by
  simp only[AV.frz,mS]at h ⊢
  obtain⟨a,h1,h2⟩:=h
  exact⟨a,frzL_mono hG vs a h1,h2⟩
 |.nil,y,h=>by simpa [AV.frz] using h
 |.bool b,y,h=>by simpa [AV.frz] using h
 |.int k n,y,h=>by simpa [AV.frz] using h
 |.str s,y,h=>by simpa [AV.frz] using h
 |.sl e es,y,h=>by simpa [AV.frz] using h
 |.pnil,y,h=>by simpa [AV.frz] using h
 |.fnil,y,h=>by simpa [AV.frz] using h
 |.inil,y,h=>by simpa [AV.frz] using h
 |.fn f a b,y,h=>by
  simp only[AV.frz]at h ⊢
  split at h
  ·rename_i x z hx hz
   obtain rfl:=oi h
   simp only[frzL_mono hG a x hx,frzL_mono hG b z hz]
  ·cases h
 |.inn ..,y,h=>by simp[AV.frz]at h
 |.ptr ..,y,h=>by simp[AV.frz]at h
 |.eptr ..,y,h=>by simp[AV.frz]at h
 |.rptr ..,y,h=>by simpa [AV.frz] using h
 |.dead,y,h=>by simp[AV.frz]at h
theorem frzL_mono (hG:GLe G G'):∀ (l ys:List AV),AV.frzL G l=some ys→AV.frzL G' l=some ys
 |[],ys,h=>h
 |x::l,ys,h=>by
  simp only[AV.frzL]at h ⊢
  split at h
  ·rename_i a b ha hb
   rw[frz_mono hG x a ha,frzL_mono hG l b hb];exact h
  ·cases h
end
include hG in
theorem Zkq {size:Nat}{x:AV}{cs:List AV} (h:cellsAt G size x=some cs):cellsAt G' size x=some cs:=by
 unfold cellsAt at h ⊢
 split at h
 ·split at h
  ·rename_i hg;rw[hG _ _ _ hg];exact h
  ·cases h
 ·split at h
  ·rename_i hg;rw[hG _ _ _ hg];exact h
  ·cases h
 ·exact h
 ·cases h
include hG in
theorem Zl3 {ti:TI}{x y:AV} (h:ZfO G ti x=some y):ZfO G' ti x=some y:=by
 unfold ZfO at h ⊢
 rw[Option.bind_eq_some_iff]at h ⊢
 obtain⟨cs,h1,h2⟩:=h
 exact⟨cs,Zkq hG h1,h2⟩
include hG in
theorem Zfj {sz:Nat}{x:AV}{es:List (List AV)} (h:ZbT G sz x=some es):ZbT G' sz x=some es:=by
 unfold ZbT at h ⊢
 split at h
 ·exact h
 ·exact h
 ·split at h
  ·rename_i hg;rw[hG _ _ _ hg];exact h
  ·cases h
 ·split at h
  ·rename_i hg;rw[hG _ _ _ hg];exact h
  ·cases h
 ·cases h
theorem ZmX {T:Tys}{s d:TI}{x y:AV} (h:ZiO T s d x=some y):∃ e,d.d=.slice e:=by
 unfold ZiO at h
 split at h
 ·rename_i e he;exact⟨e,he⟩
 ·cases h
theorem Zlu {T:Tys}{G:Get}{s d:TI}{x:AV} (h:∃ e,d.d=.slice e):Zgy T G s d x=none:=by
 obtain⟨e,he⟩:=h
 unfold Zgy
 rw[he]
include hG in
theorem ZmY {T:Tys}{s d:TI}{x y:AV} (h:Zgy T G s d x=some y):Zgy T G' s d x=some y:=by
 unfold Zgy at h ⊢
 split at h
 ·exact h
 ·split at h
  ·exact h
  ·split at h
   ·split at h
    ·split at h
     ·rename_i h1
      rw[if_pos h1]
      rw[Option.bind_eq_some_iff]at h ⊢
      obtain⟨es,h2,h3⟩:=h
      exact⟨es,Zfj hG h2,h3⟩
     ·cases h
    ·cases h
   ·cases h
  ·cases h
 ·cases h
include hG in
theorem ZeQ:∀ (l:List (Nat×AV)) (cs:List (Nat×List AV)),Zbf G l=some cs→Zbf G' l=some cs
 |[],cs,h=>h
 |(i,v)::l,cs,h=>by
  simp only[Zbf]at h ⊢
  split at h
  ·split at h
   ·rename_i a b ha hb
    rw[frzL_mono hG _ _ ha,ZeQ l b hb];exact h
   ·cases h
  ·cases h
include hG in
theorem ZgZ {kb len:Nat}{ti:TI}{ps:List (Nat×AV)}{d:De} (h:ZbL G kb ti len ps=some d):ZbL G' kb ti len ps=some d:=by
 unfold ZbL at h ⊢
 split at h
 ·split at h
  ·rename_i hc
   rw[if_pos hc]
   split at h
   ·rename_i cs hcs
    rw[ZeQ hG _ _ hcs];exact h
   ·cases h
  ·cases h
 ·cases h
include hG in
theorem Ze7 {kb:Nat}{ti:TI}{s x:AV}{d:De} (h:ZbO G kb ti s x=some d):ZbO G' kb ti s x=some d:=by
 unfold ZbO at h ⊢
 split at h
 ·split at h
  ·rename_i new hnew
   rw[Zfj hG hnew]
   split at h
   ·exact h
   ·split at h
    ·rename_i hg
     simp only[hG _ _ _ hg];exact h
    ·cases h
   ·cases h
  ·cases h
 ·cases h
include hG in
theorem Zl2 {ti:TI}{s x:AV}{d:De} (h:Zie G ti s x=some d):Zie G' ti s x=some d:=by
 unfold Zie at h ⊢
 split at h
 ·split at h
  ·rename_i new hnew
   rw[Zfj hG hnew]
   split at h
   ·exact h
   ·split at h
    ·rename_i hg
     simp only[hG _ _ _ hg];exact h
    ·cases h
   ·split at h
    ·rename_i hg
     simp only[hG _ _ _ hg];exact h
    ·cases h
   ·cases h
  ·cases h
 ·cases h
include hG in
theorem Zkw {ti:TI}{x:AV}{d:De} (h:Zgc G ti x=some d):Zgc G' ti x=some d:=by
 unfold Zgc at h ⊢
 split at h
 ·split at h
  ·exact h
  ·split at h
   ·rename_i hg
    simp only[hG _ _ _ hg];exact h
   ·cases h
  ·cases h
 ·cases h
include hG in
theorem Zky {kb:Nat}{ti:TI}{a:AV}{vc:List AV}{d:De} (h:Zfi G kb ti a vc=some d):Zfi G' kb ti a vc=some d:=by
 unfold Zfi at h ⊢
 split at h
 ·rename_i hl
  rw[if_pos hl]
  split at h
  ·split at h
   ·rename_i hg
    simp only[hG _ _ _ hg]
    split at h
    ·rename_i hle
     rw[if_pos hle]
     split at h
     ·rename_i h0;rw[if_pos h0];exact h
     ·rename_i h0
      rw[if_neg h0]
      split at h
      ·exact h
      ·split at h
       ·rename_i new hz;rw[frzL_mono hG _ _ hz];exact h
       ·cases h
    ·cases h
   ·cases h
  ·split at h
   ·rename_i hg
    simp only[hG _ _ _ hg]
    split at h
    ·rename_i hc
     rw[if_pos hc]
     split at h
     ·rename_i c new hc1 hz
      rw[hc1,frzL_mono hG _ _ hz];exact h
     ·cases h
    ·cases h
   ·cases h
  ·cases h
 ·cases h
theorem ZcR {a b:Option AV}{d:De} (hm:∀ x,a=some x→b=some x) (h:Zb1 a=some d):Zb1 b=some d:=by
 obtain⟨x,hx,rfl⟩:=Zkg h
 rw[hm x hx];rfl
include hG in
theorem Zjo {T:Tys}{kb:Nat}{b:Builtin}{ts:List TypeId}{xs:List AV}{d:De} (h:ZcC T G kb b ts xs=some d):ZcC T G' kb b ts xs=some d:=by
 unfold ZcC at h ⊢
 split at h
 ·cases h
 ·split at h
  ·cases h
  ·split at h
   ·exact h
   ·split at h
    ·split at h
     ·rename_i hl;rw[if_pos hl];exact Ze7 hG h
     ·rename_i hl
      rw[if_neg hl]
      unfold Zfg at h ⊢
      split at h
      ·split at h
       ·split at h
        ·split at h
         ·rename_i h1;rw[if_pos h1];exact Ze7 hG h
         ·cases h
        ·cases h
       ·cases h
      ·split at h
       ·split at h
        ·unfold Zep at h ⊢
         split at h
         ·rename_i h1;rw[if_pos h1];exact Ze7 hG h
         ·cases h
        ·cases h
       ·cases h
      ·cases h
    ·cases h
   ·split at h
    ·split at h
     ·rename_i hl;rw[if_pos hl];exact Zl2 hG h
     ·cases h
    ·cases h
   ·split at h
    ·exact Zkw hG h
    ·cases h
   ·exact h
   ·exact h
   ·cases h
theorem Zjn {G':Get}{ti:TI}{x lo hi z z':AV} (h:ZcQ G' ti x lo hi=some z') (k:ZfL ti x (some lo) (some hi)=some z):z'=z:=by
 unfold ZcQ at h
 split at h
 ·rename_i lv kk esz i n g
  split at h
  ·rename_i el hd
   split at h
   ·rename_i kl l kh hi2
    split at h
    ·split at h
     ·obtain rfl:=oi h
      unfold ZfL at k
      rw[hd]at k
      simp only at k
      split at k
      ·simp only[mS]at k
       obtain⟨⟨a,b⟩,hb,rfl⟩:=k
       unfold Zbr Zfc at hb
       simp only at hb
       split at hb
       ·rename_i hh hhe
        split at hhe
        ·obtain rfl:=oi hhe
         unfold Zfd at hb
         simp only at hb
         split at hb
         ·rename_i ll hle
          split at hle
          ·obtain rfl:=oi hle
           simp only[oE,Prod.mk.injEq]at hb
           obtain⟨rfl,rfl⟩:=hb
           rfl
          ·cases hle
         ·cases hb
        ·cases hhe
       ·cases hb
      ·cases k
     ·cases h
    ·cases h
   ·cases h
  ·cases h
 ·cases h
include htm hG in
theorem ZkJ {T:Tys}{kb:Nat}{o:Op}{ty:TypeId}{d:De} (h:ZcN T kb o ty tm G=some d):ZcN T kb o ty tm' G'=some d:=by
 have ev:∀ {x:Operand}{y:AV},opv tm x=some y→opv tm' x=some y:=fun hx=>ZhI htm hx
 unfold ZcN at h ⊢
 split at h
 ·exact ZcR (fun _=>ev) h
 ·rename_i x
  cases hx:opv tm x with
  |none=>rw[hx]at h;cases h
  |some y=>
   rw[hx]at h
   rw[ev hx]
   exact h
 ·rename_i c x y
  split at h
  ·rename_i b hb
   simp only[ev hb]
   cases b with
   |true=>exact ZcR (fun _=>ev) h
   |false=>exact ZcR (fun _=>ev) h
  ·cases h
 ·exact h
 ·split at h
  ·rename_i ti x' ht hx
   simp only[ht,ev hx];exact h
  ·cases h
 ·split at h
  ·rename_i ti ps ht hp
   simp only[ht,Zfq htm _ _ hp];exact h
  ·cases h
 ·split at h
  ·rename_i ti ps ht hp
   simp only[ht,Zfq htm _ _ hp];exact ZgZ hG h
  ·cases h
 ·split at h
  ·rename_i ti x' ht hx
   simp only[ht,ev hx];exact ZcR (fun _=>Zl3 hG) h
  ·cases h
 ·split at h
  ·rename_i ti x' y' ht hx hy
   simp only[ht,ev hx,ev hy]
   split at h
   ·exact Zky hG h
   ·cases h
  ·cases h
 ·split at h
  ·rename_i x' hx
   simp only[ev hx];exact h
  ·cases h
 ·split at h
  ·rename_i ti x' y' ht hx hy
   simp only[ht,ev hx,ev hy];exact h
  ·cases h
 ·split at h
  ·rename_i x' hx
   simp only[ev hx];exact h
  ·cases h
 ·split at h
  ·rename_i s d' x' hs hd hx
   simp only[hs,hd,ev hx]
   refine ZcR (fun z hz=>?_) h
   cases hc:Zgy T G s d' x' with
   |some y=>rw[hc]at hz;rw[ZmY hG hc];exact hz
   |none=>
    rw[hc,ZeF]at hz
    rw[Zlu (ZmX hz),ZeF];exact hz
  ·cases h
 ·split at h
  ·rename_i x' y' hx hy
   simp only[Zfp htm _ _ hx,Zfp htm _ _ hy];exact h
  ·cases h
 ·split at h
  ·rename_i ti l' c' ht hl hc
   simp only[ht,ev hl,ev hc];exact h
  ·cases h
 ·split at h
  ·split at h
   ·split at h
    ·rename_i ht hx hh hm
     simp only[ht,ev hx,ev hh,ev hm]
     exact h
    ·cases h
   ·split at h
    ·rename_i ht hx hl hh
     split at h
     ·rename_i hm
      simp only[ht,ev hx,ev hl,ev hh,ev hm]
      exact h
     ·cases h
    ·cases h
   ·cases h
  ·split at h
   ·rename_i ti x' ht hx
    simp only[ht,ev hx]
    split at h
    ·exact h
    ·split at h
     ·rename_i hlo;simp only[ev hlo];exact h
     ·cases h
    ·split at h
     ·rename_i hlo;simp only[ev hlo];exact h
     ·cases h
    ·split at h
     ·rename_i lo' hi' hlo hhi
      simp only[ev hlo,ev hhi]
      refine ZcR (fun z hz=>?_) h
      cases hbe:ZcQ G ti x' lo' hi' with
      |none=>
       rw[hbe,ZeF]at hz
       cases hbe':ZcQ G' ti x' lo' hi' with
       |none=>rw[ZeF];exact hz
       |some z'=>
        rw[ZfB]
        exact(Zjn hbe' hz)▸rfl
      |some z'=>
       rw[hbe,ZfB]at hz
       have hbe':ZcQ G' ti x' lo' hi'=some z':=by
        unfold ZcQ at hbe ⊢
        split at hbe
        ·split at hbe
         ·split at hbe
          ·split at hbe
           ·rename_i hg
            simp only[hG _ _ _ hg];exact hbe
           ·cases hbe
          ·cases hbe
         ·cases hbe
        ·cases hbe
       rw[hbe',ZfB];exact hz
     ·cases h
   ·cases h
 ·split at h
  ·rename_i ti x' ht hx
   simp only[ht,ev hx];exact h
  ·cases h
 ·split at h
  ·rename_i ti x' ht hx
   simp only[ht,ev hx];exact h
  ·cases h
 ·split at h
  ·rename_i ti x' y' ht hx hy
   simp only[ht,ev hx,ev hy];exact h
  ·cases h
 ·split at h
  ·rename_i ti x' y' ht hx hy
   simp only[ht,ev hx,ev hy];exact h
  ·cases h
 ·split at h
  ·rename_i xs hx
   simp only[ev hx];exact h
  ·cases h
 ·split at h
  ·rename_i ti l k esz i n g ht hx
   simp only[ht,ev hx];exact h
  ·cases h
 ·split at h
  ·rename_i ti x' ht hx
   simp only[ht,ev hx];exact h
  ·cases h
 ·split at h
  ·split at h
   ·rename_i xs hxs
    simp only[Zfp htm _ _ hxs];exact Zjo hG h
   ·cases h
  ·cases h
 ·cases h
end
end Go.Abs
namespace Go.Abs
open Go Go.RowKit
abbrev Zjm:=List (Nat×Nat×Option Blk)
def Zfw:Zjm→Nat→Nat→Option (Option Blk)
 |[],_,_=>none
 |(l,k,b)::r,l',k'=>match Zfw r l' k' with
  |some x=>some x
  |none=>if l=l'∧k=k' then some b else none
theorem ZeD (s:Zjm):∀ (H:Zam) (l k:Nat),(H.puts s).get l k=match Zfw s l k with
  |some b=>if l<H.length then b else none
  |none=>H.get l k:=by
 induction s with
 |nil=>intro H l k;rfl
 |cons p s ih=>
  obtain⟨l0,k0,b⟩:=p
  intro H l k
  simp only[Zam.puts,ih,Zfw,Zam.length_put]
  cases hs:Zfw s l k with
  |some x=>rfl
  |none=>
   simp only[Zam.get_put]
   by_cases h:l0=l∧k0=k
   ·obtain⟨rfl,rfl⟩:=h
    simp only[and_self,true_and,if_true]
    split
    ·rfl
    ·rename_i hl
     cases hg:H.get l0 k0 with
     |none=>rfl
     |some b'=>exact absurd (Zam.get_lt H _ _ _ hg) hl
   ·rw[if_neg h,if_neg (fun hh=>h ⟨hh.1,hh.2.1⟩)]
theorem ZcX (s t:Zjm) (l k:Nat):Zfw (s++t) l k=match Zfw t l k with
  |some x=>some x
  |none=>Zfw s l k:=by
 induction s with
 |nil=>simp only[List.nil_append,Zfw];cases Zfw t l k<;>rfl
 |cons p s ih=>
  obtain⟨l0,k0,b⟩:=p
  simp only[List.cons_append,Zfw,ih]
  cases Zfw t l k<;>rfl
theorem ZgN {s:Zjm}{l k:Nat} (h:∀ p∈s,¬ (p.1=l∧p.2.1=k)):Zfw s l k=none:=by
 induction s with
 |nil=>rfl
 |cons p s ih=>
  obtain⟨l0,k0,b⟩:=p
  simp only[Zfw,ih (fun q hq=>h q (List.mem_cons_of_mem _ hq))]
  rw[if_neg (h _ List.mem_cons_self)]
theorem ZkX {s:Zjm}{l k:Nat}{x:Option Blk} (h:Zfw s l k=some x):∃ p∈s,p.1=l∧p.2.1=k:=by
 induction s with
 |nil=>cases h
 |cons p s ih=>
  obtain⟨l0,k0,b⟩:=p
  simp only[Zfw]at h
  cases hs:Zfw s l k with
  |some y=>rw[hs]at h;cases h;obtain⟨q,h1,h2⟩:=ih hs;exact⟨q,List.mem_cons_of_mem _ h1,h2⟩
  |none=>
   rw[hs]at h
   simp only at h
   split at h
   ·rename_i hh;exact⟨_,List.mem_cons_self,hh⟩
   ·cases h
def ZeX (s t:Zjm):Prop:=∀ p∈s,∀ q∈t,¬ (p.1=q.1∧p.2.1=q.2.1)
theorem Zpq {s t:Zjm} (h:ZeX s t) (l k:Nat):Zfw (s++t) l k=Zfw (t++s) l k:=by
 rw[ZcX,ZcX]
 cases ht:Zfw t l k with
 |none=>cases Zfw s l k<;>rfl
 |some x=>
  cases hs:Zfw s l k with
  |none=>rfl
  |some y=>
   obtain⟨q,h1,h2,h3⟩:=ZkX ht
   obtain⟨p,h4,h5,h6⟩:=ZkX hs
   exact absurd ⟨h5.trans h2.symm,h6.trans h3.symm⟩ (h p h4 q h1)
section
variable {N0:Nat}{W0:World}{fm:FM}{ts:List Tie}{H H':Zam}{w:World}
theorem HR.ext (h:HR N0 W0 fm ts H w) (hl:H'.length=H.length) (hg:∀ l k,H'.get l k=H.get l k):HR N0 W0 fm ts H' w:=
 ⟨h.len.trans hl.symm,fun l k b e=>h.blk l k b (by rw[←hg];exact e),fun l1 k1 l2 k2 b1 b2 c g1 g2=>h.inj l1 k1 l2 k2 b1 b2 c (by rw[←hg];exact g1) (by rw[←hg];exact g2),h.fms,
  fun l k b c o e=>h.fmd l k b c o (by rw[←hg];exact e),h.bel,h.size,h.oth⟩
end
end Go.Abs
namespace Go.Abs
open Go Go.RowKit
def Zb3 (ops:List SOp) (j:Nat):Option Tmp:=(ops[j]?).bind (·.dst)
def ZeA (ops:List SOp) (ds:List De):List Nat→List (Nat×AV)→List (Nat×AV)
 |[],tm=>tm
 |j::L,tm=>ZeA ops ds L (match ds[j]? with
  |some d=>ZhB tm (Zb3 ops j) d.val
  |none=>tm)
def Zbn (ds:List De) (j:Nat):Zjm:=((ds[j]?).map (·.sets)).getD []
def Za2 (ds:List De):List Nat→Zjm
 |[]=>[]
 |j::L=>Zbn ds j++Za2 ds L
def ZhQ (ops:List SOp):Prop:=∀ i j t,Zb3 ops i=some t→Zb3 ops j=some t→i=j
theorem ZiV (tm:List (Nat×AV)) (dst:Option Tmp) (v:AV) (t:Nat):look (ZhB tm dst v) t=if dst=some t then some v else look tm t:=by
 cases dst with
 |none=>simp[ZhB]
 |some d=>simp only[ZhB,ZdZ,oE]
theorem ZbQ (ops:List SOp) (ds:List De) (t:Nat):∀ (L:List Nat) (tm:List (Nat×AV)),(∀ j∈L,Zb3 ops j≠some t)→look (ZeA ops ds L tm) t=look tm t
 |[],tm,_=>rfl
 |j::L,tm,h=>by
  simp only[ZeA]
  rw[ZbQ ops ds t L _ (fun k hk=>h k (List.mem_cons_of_mem _ hk))]
  split
  ·rw[ZiV,if_neg (h j List.mem_cons_self)]
  ·rfl
theorem ZdW (ops:List SOp) (ds:List De) (h1:ZhQ ops) {t j:Nat}{d:De} (hj:Zb3 ops j=some t) (hd:ds[j]?=some d):∀ (L:List Nat) (tm:List (Nat×AV)),j∈L→look (ZeA ops ds L tm) t=some d.val
 |[],tm,h=>by cases h
 |i::L,tm,h=>by
  simp only[ZeA]
  by_cases hL:j∈L
  ·exact ZdW ops ds h1 hj hd L _ hL
  ·have:j=i:=by
    rcases List.mem_cons.1 h with h|h
    ·exact h
    ·exact absurd h hL
   subst this
   rw[ZbQ ops ds t L _ (fun k hk hkt=>hL (by rw[h1 j k t hj hkt];exact hk))]
   rw[hd]
   simp only[ZiV,hj,if_true]
theorem Zfx {ds:List De}{l k:Nat} (p q:Nat→Bool) (hpq:∀ j,p j=true→q j=true):∀ (L:List Nat),(∀ j∈L,q j=true→p j=false→∀ s∈Zbn ds j,¬ (s.1=l∧s.2.1=k))→
  Zfw (Za2 ds (L.filter p)) l k=Zfw (Za2 ds (L.filter q)) l k
 |[],_=>rfl
 |j::L,h=>by
  have ih:=Zfx p q hpq L (fun i hi=>h i (List.mem_cons_of_mem _ hi))
  by_cases hp:p j=true
  ·rw[List.filter_cons_of_pos hp,List.filter_cons_of_pos (hpq j hp)]
   simp only[Za2,ZcX,ih]
  ·have hpf:p j=false:=by simpa using hp
   rw[List.filter_cons_of_neg hp]
   by_cases hq:q j=true
   ·rw[List.filter_cons_of_pos hq]
    simp only[Za2,ZcX,←ih]
    rw[ZgN (h j List.mem_cons_self hq hpf)]
    cases Zfw (Za2 ds (L.filter p)) l k<;>rfl
   ·rw[List.filter_cons_of_neg hq];exact ih
theorem Zi4 {ds:List De}{l k i:Nat} (p:Nat→Bool) (hpi:p i=false):∀ (L:List Nat),L.Nodup→i∈L→(∀ j,p j=true→(∃ a b,L=a++i::b∧j∈b)→ZeX (Zbn ds i) (Zbn ds j))→
  Zfw (Za2 ds (L.filter fun j=>p j || j==i)) l k=Zfw (Za2 ds (L.filter p)++Zbn ds i) l k
 |[],_,h,_=>by cases h
 |j::L,hnd,hi,hap=>by
  by_cases hji:j=i
  ·subst hji
   have hnL:j∉L:=(List.nodup_cons.1 hnd).1
   have e1:(j::L).filter (fun k=>p k || k==j)=j::L.filter p:=by
    rw[List.filter_cons_of_pos (by simp)]
    congr 1
    apply List.filter_congr
    intro x hx
    have:(x==j)=false:=by simp;rintro rfl;exact hnL hx
    rw[this];simp
   have e2:(j::L).filter p=L.filter p:=by rw[List.filter_cons_of_neg (by simp[hpi])]
   rw[e1,e2]
   simp only[Za2]
   refine Zpq ?_ l k
   have:∀ (M:List Nat),(∀ x∈M,x∈L)→ZeX (Zbn ds j) (Za2 ds (M.filter p)):=by
    intro M
    induction M with
    |nil=>intro _ a _ b hb;cases hb
    |cons x M ih=>
     intro hM
     by_cases hp:p x=true
     ·rw[List.filter_cons_of_pos hp]
      intro a ha b hb
      simp only[Za2,List.mem_append]at hb
      rcases hb with hb|hb
      ·exact hap x hp ⟨[],L,rfl,hM x List.mem_cons_self⟩ a ha b hb
      ·exact ih (fun y hy=>hM y (List.mem_cons_of_mem _ hy)) a ha b hb
     ·rw[List.filter_cons_of_neg hp]
      exact ih (fun y hy=>hM y (List.mem_cons_of_mem _ hy))
   exact this L (fun _ h=>h)
  ·have hiL:i∈L:=by
    rcases List.mem_cons.1 hi with h|h
    ·exact absurd h.symm hji
    ·exact h
   have ih:=Zi4 (ds:=ds) (l:=l) (k:=k) p hpi L (List.nodup_cons.1 hnd).2 hiL (fun x hx=>by
    rintro⟨a,b,e,hb⟩
    exact hap x hx ⟨j::a,b,by rw[e];rfl,hb⟩)
   have hne:(j==i)=false:=by simpa using hji
   by_cases hp:p j=true
   ·rw[List.filter_cons_of_pos (by simp[hp]),List.filter_cons_of_pos hp]
    simp only[Za2]
    rw[ZcX,ih,List.append_assoc,ZcX (Zbn ds j)]
   ·have hpf:p j=false:=by simpa using hp
    rw[List.filter_cons_of_neg (by simp[hpf,hji]),List.filter_cons_of_neg hp]
    exact ih
end Go.Abs
namespace Go.Abs
open Go Go.RowKit
def ZeW (n:Nat) (p:Nat→Bool):List Nat:=(List.range n).filter p
def ZaW (befs:List (List Nat)) (i:Nat):List Nat:=(befs[i]?).getD []
def ZjN (befs:List (List Nat)) (i j:Nat):Bool:=j != i&&!(ZaW befs i).contains j&&!(ZaW befs j).contains i
def Zh7 (ops:List SOp) (befs:List (List Nat)) (ds:List De) (tm:List (Nat×AV)) (i:Nat):List (Nat×AV):=
 ZeA ops ds (ZeW ops.length fun j=>(ZaW befs i).contains j) (Ze6 tm ((ZeW ops.length fun j=>!(ZaW befs j).contains i).filterMap (Zb3 ops)))
def gone (s:Zjm):Zjm:=s.map fun x=>(x.1,x.2.1,none)
def Znf (ops:List SOp) (befs:List (List Nat)) (ds:List De) (H:Zam) (i:Nat):Zam:=
 (H.puts (Za2 ds (ZeW ops.length fun j=>(ZaW befs i).contains j))).puts (gone (Za2 ds (ZeW ops.length (ZjN befs i))))
inductive Eff (P:Program) (T:Tys) (kb:Nat) (o:SOp) (tm:Tm) (G:Get) (d:De):Prop
 |op (hc:ZcM o.op=none) (h:ZcN T kb o.op o.type tm G=some d)
 |call (c:Call) (f:FuncId) (args fargs:List AV) (hc:ZcM o.op=some c) (h:callee tm c=some (f,args)) (hp:Za0 P f fargs (fun y=>y=d.val)) (hz:AV.frzL G args=some fargs)
   (hr:AV.refsL args=[]∨d.val.scal=true) (hs:d.sets=[])
 |lent (m:Nat) (c:Call) (f:FuncId) (args fargs:List AV) (hc:ZcM o.op=some c) (h:callee tm c=some (f,args)) (hp:Za0 P f fargs (fun y=>y=d.val)) (hz:AV.brL G (boxF G m) args=some fargs)
   (hr:d.val.scal=true) (hs:d.sets=[])
 |give (rs gs:List Nat) (c:Call) (f:FuncId) (args args0:List AV) (fr0 fr:Fra) (y:AV) (hc:ZcM o.op=some c) (h:callee tm c=some (f,args)) (hp:Zb7 P f args0 fr0 (fun y' fr'=>y'=y∧fr'=fr))
   (hz:gvL gs (only (ZfI G) (rs.map fun k=>(1,k))) (boxF (only (ZfI G) (rs.map fun k=>(1,k))) 5) (AV.shL 1 args)=some args0) (hg:ZiM G 0 gs=some fr0) (hnd:(decide (gs++rs).Nodup&&decide (gs.length≤16))=true)
   (hd:d=⟨y.imp kb,Zg9 rs++(Zg9 gs++Zli kb fr)⟩)
 |glent (m:Nat) (c:Call) (f:FuncId) (args fargs:List AV) (fr:Fra) (y:AV) (hc:ZcM o.op=some c) (h:callee tm c=some (f,args)) (hp:Zb7 P f fargs [] (fun y' fr'=>y'=y∧fr'=fr)) (hz:AV.brL G (boxF G m) args=some fargs)
   (hy:y.lot=true) (hf:ZqJ fr) (hd:d=⟨y.imp kb,Zli kb fr⟩)
def Zv2 (o:SOp) (tm:Tm):Prop:=o.guard=none∨∃ g w b,o.guard=some (g,w)∧tm g=some (.bool b)∧(b==w)=true
def Zu1 (o:SOp) (tm:Tm):Prop:=∃ g w,o.guard=some (g,w)∧((∃ b,tm g=some (.bool b)∧(b==w)=false)∨tm g=some (.tup []))
def ZnH (P:Program) (T:Tys) (kb:Nat) (o:SOp) (tm:Tm) (G:Get) (d:De):Prop:=(Zv2 o tm∧Eff P T kb o tm G d)∨(Zu1 o tm∧d=⟨.tup [],[]⟩)
theorem ZoU {s:Zjm}{l k:Nat} (h:∃ p∈s,p.1=l∧p.2.1=k):Zfw (gone s) l k=some none:=by
 induction s with
 |nil=>obtain⟨p,hp,_⟩:=h;cases hp
 |cons q s ih=>
  obtain⟨l0,k0,b⟩:=q
  simp only[gone,List.map_cons,Zfw]
  by_cases hs:∃ p∈s,p.1=l∧p.2.1=k
  ·have:=ih hs
   unfold gone at this
   rw[this]
  ·obtain⟨p,hp,h1,h2⟩:=h
   rcases List.mem_cons.1 hp with rfl|hp
   ·have hn:Zfw (List.map (fun x=>(x.1,x.2.1,none)) s) l k=none:=by
     apply ZgN
     intro x hx
     obtain⟨y,hy,rfl⟩:=List.mem_map.1 hx
     exact fun hh=>hs ⟨y,hy,hh⟩
    rw[hn]
    simp only
    rw[if_pos ⟨h1,h2⟩]
   ·exact absurd ⟨p,hp,h1,h2⟩ hs
theorem Zgm {ds:List De}{s:Nat×Nat×Option Blk}:∀ (L:List Nat),s∈Za2 ds L↔∃ j∈L,s∈Zbn ds j
 |[]=>by simp[Za2]
 |j::L=>by simp only[Za2,List.mem_append,Zgm L,List.mem_cons,exists_eq_or_imp]
theorem ZsJ {ops:List SOp}{befs:List (List Nat)}{ds:List De}{H:Zam}{i:Nat} (p:Nat→Bool) (hpi:p i=false) (hB:∀ j,(ZaW befs i).contains j=true→p j=true)
  (hcl:∀ j,p j=true→(ZaW befs j).contains i=false):GLe (Zam.get (Znf ops befs ds H i)) (Zam.get (H.puts (Za2 ds (ZeW ops.length p)))):=by
 intro l k b hb
 unfold Znf at hb
 rw[ZeD]at hb
 have hnot:¬ ∃ s∈Za2 ds (ZeW ops.length (ZjN befs i)),s.1=l∧s.2.1=k:=by
  intro hex
  rw[ZoU hex]at hb
  simp only at hb
  split at hb<;>cases hb
 have hn:Zfw (gone (Za2 ds (ZeW ops.length (ZjN befs i)))) l k=none:=by
  apply ZgN
  intro x hx
  obtain⟨y,hy,rfl⟩:=List.mem_map.1 hx
  exact fun hh=>hnot ⟨y,hy,hh⟩
 rw[hn]at hb
 simp only at hb
 rw[ZeD]at hb ⊢
 have e:Zfw (Za2 ds (ZeW ops.length fun j=>(ZaW befs i).contains j)) l k=Zfw (Za2 ds (ZeW ops.length p)) l k:=by
  refine Zfx _ _ hB _ ?_
  intro j hj hpj hnb s hs hh
  refine hnot ⟨s,(Zgm _).2 ⟨j,?_,hs⟩,hh⟩
  unfold ZeW
  rw[List.mem_filter]
  refine⟨hj,?_⟩
  have hji:j≠i:=by rintro rfl;rw[hpi]at hpj;cases hpj
  unfold ZjN
  rw[hnb,hcl j hpj]
  simp[hji]
 rw[←e]
 exact hb
end Go.Abs
namespace Go.Abs
open Go Go.RowKit
set_option linter.unusedSectionVars false
section
variable [Md]
structure DR (N0:Nat) (W0:World) (n:Nat) (st:St) (ops:List SOp) (ds:List De) (p:Nat→Bool) (a:Act) (w:World) (fm:FM) (ts:List Tie):Prop where
 hr:HR N0 W0 fm ts (Zam.puts (st.fr::st.low) (Za2 ds (ZeW ops.length p))) w
 tm:TmR fm ts (look (ZeA ops ds (ZeW ops.length p) st.tm)) a
 fre:∀ i,i<ops.length→p i=false→∀ k,st.nx+16*i≤k→k<st.nx+16*i+16→tb ts 0 k=none
 top:∀ k,st.nx+16*ops.length≤k→tb ts 0 k=none
 size:a.tmps.size=n
 dfr:a.defers=Md.dfs
theorem Zch {n:Nat}{p:Nat→Bool}{j:Nat}:j∈ZeW n p↔j<n∧p j=true:=by
 unfold ZeW;rw[List.mem_filter,List.mem_range]
section
variable [Md] {P:Program}{T:Tys}{N0:Nat}{W0:World}{n:Nat}{fm:FM}{ts:List Tie}{st:St}{ops:List SOp}{befs:List (List Nat)}{ds:List De}
theorem Zkt {l:List (Nat×AV)}:∀ (ks:List Nat) (l:List (Nat×AV)) (t:Nat),t∈ks→look (Ze6 l ks) t=none
 |[],_,_,h=>by cases h
 |k::ks,l,t,h=>by
  simp only[Ze6]
  by_cases ht:t∈ks
  ·exact Zkt (l:=l) ks _ t ht
  ·have hk:t=k:=by
    rcases List.mem_cons.1 h with h|h
    ·exact h
    ·exact absurd h ht
   subst hk
   cases hl:look (Ze6 (del l t) ks) t with
   |none=>rfl
   |some x=>
    have:=Zfm ks _ t x hl
    rw[ZgA,if_pos rfl]at this
    cases this
theorem Zj0 {p:Nat→Bool}{i:Nat} (h1:ZhQ ops) (hds:∀ j,j<ops.length→∃ d,ds[j]?=some d) (hB:∀ j,(ZaW befs i).contains j=true→p j=true) (hcl:∀ j,p j=true→(ZaW befs j).contains i=false):
  Ztv (look (Zh7 ops befs ds st.tm i)) (look (ZeA ops ds (ZeW ops.length p) st.tm)):=by
 intro t x hx
 unfold Zh7 at hx
 by_cases hex:∃ j,Zb3 ops j=some t
 ·obtain⟨j,hj⟩:=hex
  have hjl:j<ops.length:=by
   unfold Zb3 at hj
   cases ho:ops[j]? with
   |none=>rw[ho]at hj;cases hj
   |some o=>exact(gS.1 ho).1
  obtain⟨dj,hdj⟩:=hds j hjl
  have hno:∀ q:Nat→Bool,q j=false→∀ k∈ZeW ops.length q,Zb3 ops k≠some t:=by
   intro q hq k hk hkt
   have:=h1 j k t hj hkt
   subst this
   rw[(Zch.1 hk).2]at hq;cases hq
  by_cases hb:(ZaW befs i).contains j=true
  ·rw[ZdW ops ds h1 hj hdj _ _ (Zch.2 ⟨hjl,hb⟩)]at hx
   rw[ZdW ops ds h1 hj hdj _ _ (Zch.2 ⟨hjl,hB j hb⟩)]
   exact hx
  ·rw[ZbQ ops ds t _ _ (hno _ (by simpa using hb))]at hx
   by_cases ha:(ZaW befs j).contains i=true
   ·have hpj:p j=false:=by
     cases hp:p j with
     |false=>rfl
     |true=>have:=hcl j hp;rw[ha]at this;cases this
    rw[ZbQ ops ds t _ _ (hno _ hpj)]
    exact Zfm _ _ _ _ hx
   ·rw[Zkt (l:=st.tm)]at hx
    ·cases hx
    ·exact List.mem_filterMap.2 ⟨j,Zch.2 ⟨hjl,by simpa using ha⟩,hj⟩
 ·have hno:∀ (L:List Nat),∀ j∈L,Zb3 ops j≠some t:=fun L j _ hj=>hex ⟨j,hj⟩
  rw[ZbQ ops ds t _ _ (hno _)]at hx ⊢
  exact Zfm _ _ _ _ hx
theorem DR.step {p:Nat→Bool}{a:Act}{w:World} (h:DR N0 W0 n st ops ds p a w fm ts) {i:Nat} (hi:i<ops.length) (hpi:p i=false) {d:De} (hd:ds[i]?=some d) {r:Result Next}{fm':FM}{ts':List Tie}{w':World}{v:Value}
  (o:Out N0 W0 fm ts (Zam.puts (st.fr::st.low) (Za2 ds (ZeW ops.length p))) w (st.nx+16*i) r d fm' ts' w' v) (h1:ZhQ ops) (hds:∀ j,j<ops.length→∃ d,ds[j]?=some d)
  (hap:∀ j,p j=true→i<j→ZeX (Zbn ds i) (Zbn ds j)) (hfit:∀ d,Zb3 ops i=some d→d<n):
  DR N0 W0 n st ops ds (fun j=>p j || j==i) (a.put (Zb3 ops i) v) w' fm' ts'∧Later N0 fm ts fm' ts':=by
 refine⟨⟨?_,?_,?_,?_,by rw[ZgK];exact h.size,by rw[Zhi];exact h.dfr⟩,⟨o.fle,o.tle.drop 1,?_⟩⟩
 ·refine o.hr.ext (by simp) ?_
  intro l k
  have hs:Zbn ds i=d.sets:=by simp[Zbn,hd]
  rw[←Zam.puts_append,←hs,ZeD,ZeD]
  have:=Zi4 (ds:=ds) (l:=l) (k:=k) (i:=i) p hpi (List.range ops.length) List.nodup_range (List.mem_range.2 hi) (by
   rintro j hj ⟨x,y,hxy,hjy⟩
   refine hap j hj ?_
   have hsorted:(List.range ops.length).Pairwise (·<·):=List.pairwise_lt_range
   rw[hxy]at hsorted
   have:=(List.pairwise_append.1 hsorted).2.1
   exact(List.pairwise_cons.1 this).1 j hjy)
  unfold ZeW
  rw[this]
 ·intro t x hx
  by_cases ht:Zb3 ops i=some t
  ·have hin:i∈ZeW ops.length (fun j=>p j || j==i):=Zch.2 ⟨hi,by simp⟩
   rw[ZdW ops ds h1 ht hd _ _ hin]at hx
   obtain rfl:=oi hx
   have hlt:=hfit t ht
   rw[←h.size]at hlt
   exact⟨v,by rw[ht];simp[Act.put,hlt],o.val⟩
  ·have hx':look (ZeA ops ds (ZeW ops.length p) st.tm) t=some x:=by
    by_cases hex:∃ j,Zb3 ops j=some t
    ·obtain⟨j,hj⟩:=hex
     have hji:j≠i:=fun e=>ht (by rw[←e];exact hj)
     have hjl:j<ops.length:=by
      unfold Zb3 at hj
      cases ho:ops[j]? with
      |none=>rw[ho]at hj;cases hj
      |some o=>exact(gS.1 ho).1
     obtain⟨dj,hdj⟩:=hds j hjl
     by_cases hpj:p j=true
     ·rw[ZdW ops ds h1 hj hdj _ _ (Zch.2 ⟨hjl,by simp[hpj]⟩)]at hx
      rw[ZdW ops ds h1 hj hdj _ _ (Zch.2 ⟨hjl,hpj⟩)]
      exact hx
     ·have hno:∀ q:Nat→Bool,q j=false→∀ k∈ZeW ops.length q,Zb3 ops k≠some t:=by
       intro q hq k hk hkt
       have:=h1 j k t hj hkt
       subst this
       rw[(Zch.1 hk).2]at hq;cases hq
      rw[ZbQ ops ds t _ _ (hno _ (by simp[hpj,hji]))]at hx
      rw[ZbQ ops ds t _ _ (hno _ (by simpa using hpj))]
      exact hx
    ·have hno:∀ (L:List Nat),∀ j∈L,Zb3 ops j≠some t:=fun L j _ hj=>hex ⟨j,hj⟩
     rw[ZbQ ops ds t _ _ (hno _)]at hx ⊢
     exact hx
   obtain⟨u,h2,h3⟩:=h.tm t x hx'
   refine⟨u,?_,h3.mono o.fle.le o.tle⟩
   cases hdst:Zb3 ops i with
   |none=>exact h2
   |some dd=>
    simp only[Act.put]
    rw[Array.getElem?_setIfInBounds_ne (fun e=>ht (by rw[hdst,e]))]
    exact h2
 ·intro j hj hpj k hk1 hk2
  simp only[Bool.or_eq_false_iff,beq_eq_false_iff_ne,ne_eq]at hpj
  refine o.free 0 k ?_ (h.fre j hj hpj.1 k hk1 hk2)
  rcases Nat.lt_or_gt_of_ne hpj.2 with hlt|hgt
  ·exact .inr (.inl (by omega))
  ·exact .inr (.inr (by omega))
 ·intro k hk
  refine o.free 0 k (.inr (.inr ?_)) (h.top k hk)
  have:st.nx+16*i+16≤st.nx+16*ops.length:=by omega
  omega
 ·intro l k hn
  rw[Zbg]at hn ⊢
  exact o.free (l+1) k (by omega) hn
end
end
end Go.Abs
namespace Go.Abs
open Go Go.RowKit
set_option linter.unusedSectionVars false
section
variable [Md] {P:Program}{T:Tys}{N0:Nat}{W0:World}{n:Nat}{fm:FM}{ts:List Tie}{st:St}{ops:List SOp}{befs:List (List Nat)}{ds:List De}
theorem Ze4 {tm tm':Tm} (h:Ztv tm tm') {c:Call}{x:FuncId×List AV} (e:callee tm c=some x):callee tm' c=some x:=by
 unfold callee at e ⊢
 split at e
 ·split at e
  ·rename_i hf hx
   simp only[ZhI h hf,Zfp h _ _ hx];exact e
  ·cases e
 ·cases e
theorem HR.frzL_get {H:Zam}{w:World} (h:HR N0 W0 fm ts H w) {cs ys:List AV}{vs:List Value} (hv:VRs fm ts cs vs) (e:AV.frzL H.get cs=some ys):
  VRs (Zdx fm w (ZeY ts H (AV.refsL cs))) [] ys vs:=h.frzL _ hv e (fun _ h=>h)
theorem DR.oper (hT:ZaL P T) {p:Nat→Bool}{a:Act}{w:World} (h:DR N0 W0 n st ops ds p a w fm ts) {i:Nat} (hi:i<ops.length) (hpi:p i=false) {d:De} (hd:ds[i]?=some d) {s:SOp} (hs:ops[i]?=some s)
  (he:Eff P T (st.nx+16*i) s (look (Zh7 ops befs ds st.tm i)) (Zam.get (Znf ops befs ds (st.fr::st.low) i)) d) (h1:ZhQ ops) (hds:∀ j,j<ops.length→∃ d,ds[j]?=some d)
  (hB:∀ j,(ZaW befs i).contains j=true→p j=true) (hcl:∀ j,p j=true→(ZaW befs j).contains i=false)
  (hap:∀ j,p j=true→i<j→ZeX (Zbn ds i) (Zbn ds j)) (hfit:∀ d,Zb3 ops i=some d→d<n)
  {o:Oper} (hop:s.op=o.op) (hty:s.type=o.type) (hdst:s.dst=o.dst) {K:Act→World→Prop}{Q:Exit→Act→World→Prop}
  (hK:∀ v w' fm' ts',DR N0 W0 n st ops ds (fun j=>p j || j==i) (a.put o.dst v) w' fm' ts'→Later N0 fm ts fm' ts'→K (a.put o.dst v) w'):o.wpIn FW 0 P a w K Q:=by
 have hdo:Zb3 ops i=o.dst:=by simp[Zb3,hs,hdst]
 have hG:=ZsJ (ops:=ops) (ds:=ds) (H:=st.fr::st.low) p hpi hB hcl
 have hTm:Ztv (look (Zh7 ops befs ds st.tm i)) (look (ZeA ops ds (ZeW ops.length p) st.tm)):=by
  exact Zj0 h1 hds hB hcl
 have step:∀ {r v w' fm' ts'},Out N0 W0 fm ts (Zam.puts (st.fr::st.low) (Za2 ds (ZeW ops.length p))) w (st.nx+16*i) r d fm' ts' w' v→K (a.put o.dst v) w':=by
  intro r v w' fm' ts' ho
  obtain⟨h2,h3⟩:=h.step hi hpi hd ho h1 hds hap hfit
  rw[hdo]at h2
  exact hK v w' fm' ts' h2 h3
 cases he with
 |op hc hde=>
  have hde':=ZkJ hTm hG hde
  rw[hop,hty]at hde'
  obtain⟨fm',ts',w',v,ho⟩:=ZiX (P:=P) hT h.hr (by simp) (h.fre i hi hpi) h.tm hde'
  have hk:=step ho
  have hnd:∀ c,o.op≠.defer c:=fun c0 h0=>by rw[h0]at hde';simp[ZcN]at hde'
  rcases ho.done with hr|⟨hr,rfl⟩
  ·exact ZfA hnd hr hk
  ·exact ZkM hnd hr hk
 |call c f args fargs hc hcal hp hz hr hsets=>
  have hcal':=Ze4 hTm hcal
  have hz':=frzL_mono hG _ _ hz
  unfold ZcM at hc
  split at hc
  ·rename_i c' hoc
   split at hc
   ·cases hc
   ·obtain rfl:=oi hc
    unfold callee at hcal'
    split at hcal'
    ·rename_i g hcf
     split at hcal'
     ·rename_i g' first cap xs hof hxs
      simp only[oE,Prod.mk.injEq]at hcal'
      obtain⟨rfl,rfl⟩:=hcal'
      have hvf:=Zct h.tm hof
      have hvx:=Zcj h.tm _ _ hxs
      obtain⟨vf,vc,hev,hl1,hl2,hp1,hp2⟩:∃ vf vc,a.eval g=.func (.func g') vf vc∧first.length=vf.size∧cap.length=vc.size∧(∀ (i:Nat) x v,first[i]?=some x→vf[i]?=some v→VR fm ts x v)∧(∀ (i:Nat) x v,cap[i]?=some x→vc[i]?=some v→VR fm ts x v):=by
       generalize a.eval g=z at hvf
       cases hvf with
       |fn _ _ _ vf vc h1 h2 h3 h4=>exact⟨vf,vc,rfl,h1,h2,h3,h4⟩
      have hargs:VRs fm ts (first++(xs++cap)) (vf.toList++(c'.args.toList.map a.eval++vc.toList)):=
       VRs.append ⟨by simpa using hl1,fun i x v p q=>hp1 i x v p (by simpa using q)⟩ (VRs.append hvx ⟨by simpa using hl2,fun i x v p q=>hp2 i x v p (by simpa using q)⟩)
      obtain⟨⟨fn,hfn,hnm,hbd⟩,hpc⟩:=hp
      have hoc':o.op=.call c':=by rw[←hop];exact hoc
      have hrun:(execOp a.eval o).run P w=.ok (.enter g' ((vf.toList++(c'.args.toList.map a.eval++vc.toList)).toArray)) w:=by
       have e1:vf++Array.map a.eval c'.args++vc=(vf.toList++(c'.args.toList.map a.eval++vc.toList)).toArray:=by
        apply Array.toList_inj.1;simp
       simp only[execOp,hoc',resolve,hcf,Sem.run_bind,Deferred.ofValue,hev,Sem.run_pure,Result.andThen_ok,invoke,callFunc,run_program,hfn,hnm,hbd,Bool.false_eq_true,if_false,e1]
      have hfz:=h.hr.frzL_get hargs hz'
      have hin:=(h.hr.letGo (AV.refsL (first++(xs++cap)))).fms
      refine Zeu (fun c0 h0=>by rw[hoc']at h0;cases h0) hrun ?_
      refine Calls.mono (hpc _ w _ hin hfz) ?_
      rintro e w' ⟨v,y,fm',rfl,rfl,hin',hvr,hup,hb⟩
      refine step (r:=.ok (.value v) w') (fm':=if AV.refsL (first++(xs++cap))=[] then fm' else fm) (ts':=ts) ?_
      by_cases hrf:AV.refsL (first++(xs++cap))=[]
      ·rw[if_pos hrf]
       rw[hrf,Zf9]at hup
       refine⟨.inl rfl,?_,hvr.mono (Zdq.refl _) (ZaA.nil _),hup.low h.hr.size,ZaA.refl _,fun _ _ _ h=>h⟩
       rw[hsets]
       exact h.hr.up hb hup hin'
      ·rw[if_neg hrf]
       have hsc:d.val.scal=true:=by
        rcases hr with hr|hr
        ·exact absurd hr hrf
        ·exact hr
       refine⟨.inl rfl,?_,hvr.scal hsc,FmUp.refl _ _,ZaA.refl _,fun _ _ _ h=>h⟩
       rw[hsets]
       exact h.hr.world (fun i hi=>hb.block i hi) (hb.mono h.hr.size)
     ·cases hcal'
    ·cases hcal'
  ·cases hc
 |lent m c f args fargs hc hcal hp hz hr hsets=>
  have hcal':=Ze4 hTm hcal
  have hz':=(Zga hG (Zeo hG (fun _ _ _ _ _ _ _ hh=>frz_mono hG _ _ hh) m) (fun _ _ _ _ _ _ _ hh=>frz_mono hG _ _ hh)).2 _ _ hz
  unfold ZcM at hc
  split at hc
  ·rename_i c' hoc
   split at hc
   ·cases hc
   ·obtain rfl:=oi hc
    unfold callee at hcal'
    split at hcal'
    ·rename_i g hcf
     split at hcal'
     ·rename_i g' first cap xs hof hxs
      simp only[oE,Prod.mk.injEq]at hcal'
      obtain⟨rfl,rfl⟩:=hcal'
      have hvf:=Zct h.tm hof
      have hvx:=Zcj h.tm _ _ hxs
      obtain⟨vf,vc,hev,hl1,hl2,hp1,hp2⟩:∃ vf vc,a.eval g=.func (.func g') vf vc∧first.length=vf.size∧cap.length=vc.size∧(∀ (i:Nat) x v,first[i]?=some x→vf[i]?=some v→VR fm ts x v)∧(∀ (i:Nat) x v,cap[i]?=some x→vc[i]?=some v→VR fm ts x v):=by
       generalize a.eval g=z at hvf
       cases hvf with
       |fn _ _ _ vf vc h1 h2 h3 h4=>exact⟨vf,vc,rfl,h1,h2,h3,h4⟩
      have hargs:VRs fm ts (first++(xs++cap)) (vf.toList++(c'.args.toList.map a.eval++vc.toList)):=
       VRs.append ⟨by simpa using hl1,fun i x v p q=>hp1 i x v p (by simpa using q)⟩ (VRs.append hvx ⟨by simpa using hl2,fun i x v p q=>hp2 i x v p (by simpa using q)⟩)
      obtain⟨⟨fn,hfn,hnm,hbd⟩,hpc⟩:=hp
      have hoc':o.op=.call c':=by rw[←hop];exact hoc
      have hrun:(execOp a.eval o).run P w=.ok (.enter g' ((vf.toList++(c'.args.toList.map a.eval++vc.toList)).toArray)) w:=by
       have e1:vf++Array.map a.eval c'.args++vc=(vf.toList++(c'.args.toList.map a.eval++vc.toList)).toArray:=by
        apply Array.toList_inj.1;simp
       simp only[execOp,hoc',resolve,hcf,Sem.run_bind,Deferred.ofValue,hev,Sem.run_pure,Result.andThen_ok,invoke,callFunc,run_program,hfn,hnm,hbd,Bool.false_eq_true,if_false,e1]
      have hfz:=h.hr.brs _ (h.hr.boxF m) hargs hz'
      refine Zeu (fun c0 h0=>by rw[hoc']at h0;cases h0) hrun ?_
      refine Calls.mono (hpc (ZfG w) w _ (fun b o v h=>h) hfz) ?_
      rintro e w' ⟨v,y,fm',rfl,rfl,hin',hvr,hup,hb⟩
      refine step (r:=.ok (.value v) w') (fm':=fm) (ts':=ts) ?_
      refine⟨.inl rfl,?_,hvr.scal hr,FmUp.refl _ _,ZaA.refl _,fun _ _ _ h=>h⟩
      rw[hsets]
      exact h.hr.world (fun i hi=>hb.block i hi) (hb.mono h.hr.size)
     ·cases hcal'
    ·cases hcal'
  ·cases hc
 |glent m c f args fargs fr y hc hcal hp hz hy hf hd0=>
  have hcal':=Ze4 hTm hcal
  have hz':=(Zga hG (Zeo hG (fun _ _ _ _ _ _ _ hh=>frz_mono hG _ _ hh) m) (fun _ _ _ _ _ _ _ hh=>frz_mono hG _ _ hh)).2 _ _ hz
  unfold ZcM at hc
  split at hc
  ·rename_i c' hoc
   split at hc
   ·cases hc
   ·obtain rfl:=oi hc
    unfold callee at hcal'
    split at hcal'
    ·rename_i g hcf
     split at hcal'
     ·rename_i g' first cap xs hof hxs
      simp only[oE,Prod.mk.injEq]at hcal'
      obtain⟨rfl,rfl⟩:=hcal'
      have hvf:=Zct h.tm hof
      have hvx:=Zcj h.tm _ _ hxs
      obtain⟨vf,vc,hev,hl1,hl2,hp1,hp2⟩:∃ vf vc,a.eval g=.func (.func g') vf vc∧first.length=vf.size∧cap.length=vc.size∧(∀ (i:Nat) x v,first[i]?=some x→vf[i]?=some v→VR fm ts x v)∧(∀ (i:Nat) x v,cap[i]?=some x→vc[i]?=some v→VR fm ts x v):=by
       generalize a.eval g=z at hvf
       cases hvf with
       |fn _ _ _ vf vc h1 h2 h3 h4=>exact⟨vf,vc,rfl,h1,h2,h3,h4⟩
      have hargs:VRs fm ts (first++(xs++cap)) (vf.toList++(c'.args.toList.map a.eval++vc.toList)):=
       VRs.append ⟨by simpa using hl1,fun i x v p q=>hp1 i x v p (by simpa using q)⟩ (VRs.append hvx ⟨by simpa using hl2,fun i x v p q=>hp2 i x v p (by simpa using q)⟩)
      obtain⟨⟨fn,hfn,hnm,hbd⟩,hpc⟩:=hp
      have hoc':o.op=.call c':=by rw[←hop];exact hoc
      have hrun:(execOp a.eval o).run P w=.ok (.enter g' ((vf.toList++(c'.args.toList.map a.eval++vc.toList)).toArray)) w:=by
       have e1:vf++Array.map a.eval c'.args++vc=(vf.toList++(c'.args.toList.map a.eval++vc.toList)).toArray:=by
        apply Array.toList_inj.1;simp
       simp only[execOp,hoc',resolve,hcf,Sem.run_bind,Deferred.ofValue,hev,Sem.run_pure,Result.andThen_ok,invoke,callFunc,run_program,hfn,hnm,hbd,Bool.false_eq_true,if_false,e1]
      have hfz:=h.hr.brs _ (h.hr.boxF m) hargs hz'
      obtain⟨f1,H1,hH⟩:=Zev st.fr st.low (Za2 ds (ZeW ops.length p))
      refine Zeu (fun c0 h0=>by rw[hoc']at h0;cases h0) hrun ?_
      refine Calls.mono (Zb7.lentW ⟨⟨fn,hfn,hnm,hbd⟩,hpc⟩ h.hr hfz hy hf) ?_
      rintro e w' ⟨v,t',rfl,hhr,hvr,h16⟩
      cases ts with
      |nil=>have:=hhr.len;rw[hH]at this;simp at this
      |cons hh rest=>
       have hno:∀ l k,tb (hh::rest) l k=none→tb (hh::rest) l k=none:=fun _ _ h=>h
       have hup:FmUp N0 fm fm:=FmUp.refl _ _
       have htl:ZaA (hh::rest) (hh::rest):=ZaA.refl _
       have hwin:∀ k x,hh k=some x→¬ (st.nx+16*i≤k∧k<st.nx+16*i+16):=by
        rintro k x hx ⟨h1,h2⟩
        have:=hno 0 k (h.fre i hi hpi k h1 h2)
        simp only[tb]at this
        rw[this]at hx;cases hx
       have j1:∀ k x,t' k=some x→Zdz (st.nx+16*i) t' hh (st.nx+16*i+k)=some x:=by
        intro k x hx
        have hlt:k<16:=by
         rcases Nat.lt_or_ge k 16 with hk|hk
         ·exact hk
         ·rw[h16 k hk]at hx;cases hx
        unfold Zdz
        rw[if_pos ⟨by omega,by omega⟩]
        simpa using hx
       have j2:∀ k x,hh k=some x→Zdz (st.nx+16*i) t' hh k=some x:=by
        intro k x hx
        unfold Zdz
        rw[if_neg (hwin k x hx)];exact hx
       have hJ:∀ l k x,tb (t'::hh::rest) l k=some x→tb (Zdz (st.nx+16*i) t' hh::rest) (l - 1) (if l=0 then st.nx+16*i+k else k)=some x:=by
        intro l k x e
        cases l with
        |zero=>simpa [tb] using j1 k x (by simpa [tb] using e)
        |succ l=>
         cases l with
         |zero=>simpa [tb] using j2 k x (by simpa [tb] using e)
         |succ l=>simpa [tb] using e
       have hTT:ZaA (hh::rest) (Zdz (st.nx+16*i) t' hh::rest):=by
        intro l k
        cases l with
        |zero=>
         simp only[tb]
         cases hx:hh k with
         |none=>trivial
         |some x=>rw[j2 k x hx];exact Zec.refl _
        |succ l=>exact Zec.refl _
       refine step (r:=.ok (.value v) w') (fm':=fm) (ts':=Zdz (st.nx+16*i) t' hh::rest) ?_
       subst hd0
       refine⟨.inl rfl,?_,hvr.impJ hJ rfl,hup,htl.trans hTT,?_⟩
       ·rw[hH]at hhr ⊢
        simp only[Zam.puts_append,Zhj,Ziv]
        exact hhr.impJ j1 j2
       ·intro l k hlk hn
        cases l with
        |zero=>
         have hk:¬ (st.nx+16*i≤k∧k<st.nx+16*i+16):=by omega
         simp only[tb,Zdz,if_neg hk]
         have:=hno 0 k hn
         simpa [tb] using this
        |succ l=>
         have:=hno (l+1) k hn
         simpa [tb] using this
     ·cases hcal'
    ·cases hcal'
  ·cases hc
 |give rs gs c f args args0 fr0 fr y hc hcal hp hz hg hnd hd0=>
  have hcal':=Ze4 hTm hcal
  unfold ZcM at hc
  split at hc
  ·rename_i c' hoc
   split at hc
   ·cases hc
   ·obtain rfl:=oi hc
    unfold callee at hcal'
    split at hcal'
    ·rename_i g hcf
     split at hcal'
     ·rename_i g' first cap xs hof hxs
      simp only[oE,Prod.mk.injEq]at hcal'
      obtain⟨rfl,rfl⟩:=hcal'
      have hvf:=Zct h.tm hof
      have hvx:=Zcj h.tm _ _ hxs
      obtain⟨vf,vc,hev,hl1,hl2,hp1,hp2⟩:∃ vf vc,a.eval g=.func (.func g') vf vc∧first.length=vf.size∧cap.length=vc.size∧(∀ (i:Nat) x v,first[i]?=some x→vf[i]?=some v→VR fm ts x v)∧(∀ (i:Nat) x v,cap[i]?=some x→vc[i]?=some v→VR fm ts x v):=by
       generalize a.eval g=z at hvf
       cases hvf with
       |fn _ _ _ vf vc h1 h2 h3 h4=>exact⟨vf,vc,rfl,h1,h2,h3,h4⟩
      have hargs:VRs fm ts (first++(xs++cap)) (vf.toList++(c'.args.toList.map a.eval++vc.toList)):=
       VRs.append ⟨by simpa using hl1,fun i x v p q=>hp1 i x v p (by simpa using q)⟩ (VRs.append hvx ⟨by simpa using hl2,fun i x v p q=>hp2 i x v p (by simpa using q)⟩)
      obtain⟨⟨fn,hfn,hnm,hbd⟩,hpc⟩:=hp
      have hoc':o.op=.call c':=by rw[←hop];exact hoc
      have hrun:(execOp a.eval o).run P w=.ok (.enter g' ((vf.toList++(c'.args.toList.map a.eval++vc.toList)).toArray)) w:=by
       have e1:vf++Array.map a.eval c'.args++vc=(vf.toList++(c'.args.toList.map a.eval++vc.toList)).toArray:=by
        apply Array.toList_inj.1;simp
       simp only[execOp,hoc',resolve,hcf,Sem.run_bind,Deferred.ofValue,hev,Sem.run_pure,Result.andThen_ok,invoke,callFunc,run_program,hfn,hnm,hbd,Bool.false_eq_true,if_false,e1]
      obtain⟨f1,H1,hH⟩:=Zev st.fr st.low (Za2 ds (ZeW ops.length p))
      have hnd':=hnd
      simp only[Bool.and_eq_true,decide_eq_true_eq]at hnd
      have hGH:∀ l k b,Zam.get (Znf ops befs ds (st.fr::st.low) i) l k=some b→Zam.get (f1::H1) l k=some b:=by
       rw[←hH];exact hG
      have hGp:∀ l k b,only (ZfI (Zam.get (Znf ops befs ds (st.fr::st.low) i))) (rs.map fun k=>(1,k)) l k=some b→only (Zam.get ([]::f1::H1)) (rs.map fun k=>(1,k)) l k=some b:=by
       intro l k b e
       unfold only at e ⊢
       split at e
       ·rename_i hm
        rw[if_pos hm]
        cases l with
        |zero=>simp[ZfI]at e
        |succ l=>simpa [Zam.get] using hGH l k b (by simpa [ZfI] using e)
       ·cases e
      have hloc:∀ (l k e i0 n g:Nat) (y:AV),(AV.loc l k e i0 n g).frz (only (ZfI (Zam.get (Znf ops befs ds (st.fr::st.low) i))) (rs.map fun k=>(1,k)))=some y→(AV.loc l k e i0 n g).frz (only (Zam.get ([]::f1::H1)) (rs.map fun k=>(1,k)))=some y:=
       fun _ _ _ _ _ _ _ hh=>frz_mono hGp _ _ hh
      have hz':=Zj7 (gs:=gs) (Zga hGp (Zeo hGp hloc 5) hloc).1 _ _ hz
      have hg1:=Zha hGH gs 0 fr0 hg
      have hg':=Zmq f1 H1 rs gs 0 fr0 hg1 (by
       intro k hk hk'
       exact(List.nodup_append.1 hnd.1).2.2 k hk k hk' rfl)
      have ha:=Zb7.used (H:=H1) 5 rs gs ⟨⟨fn,hfn,hnm,hbd⟩,hpc⟩ hz' hg' (by
       simp only[Bool.and_eq_true,decide_eq_true_eq]
       exact⟨(List.nodup_append.1 hnd.1).1,hnd.2⟩)
      have hr0:=h.hr
      rw[hH]at hr0
      have hargs':VRs fm (Zcc::ts) (AV.shL 1 (first++(xs++cap))) (vf.toList++(c'.args.toList.map a.eval++vc.toList)):=by
       refine⟨by rw[Zb6];exact hargs.1,?_⟩
       intro i x v hx hv
       rw[Zdv,mS]at hx
       obtain⟨y,hy,rfl⟩:=hx
       exact(hargs.2 i y v hy hv).sh 1 (by simp)
      refine Zeu (fun c0 h0=>by rw[hoc']at h0;cases h0) hrun ?_
      refine Calls.mono (ha.2 N0 W0 fm ts w _ hr0 hargs') ?_
      rintro e w' ⟨v,av,fr',H'',fm',t',ts',rfl,⟨⟨rfl,rfl⟩,rfl⟩,_,hhr,hvr,hup,htl,hno,h16⟩
      cases ts' with
      |nil=>have:=hhr.len;simp at this
      |cons hh rest=>
       have hwin:∀ k x,hh k=some x→¬ (st.nx+16*i≤k∧k<st.nx+16*i+16):=by
        rintro k x hx ⟨h1,h2⟩
        have:=hno 0 k (h.fre i hi hpi k h1 h2)
        simp only[tb]at this
        rw[this]at hx;cases hx
       have j1:∀ k x,t' k=some x→Zdz (st.nx+16*i) t' hh (st.nx+16*i+k)=some x:=by
        intro k x hx
        have hlt:k<16:=by
         rcases Nat.lt_or_ge k 16 with hk|hk
         ·exact hk
         ·rw[h16 k hk]at hx;cases hx
        unfold Zdz
        rw[if_pos ⟨by omega,by omega⟩]
        simpa using hx
       have j2:∀ k x,hh k=some x→Zdz (st.nx+16*i) t' hh k=some x:=by
        intro k x hx
        unfold Zdz
        rw[if_neg (hwin k x hx)];exact hx
       have hJ:∀ l k x,tb (t'::hh::rest) l k=some x→tb (Zdz (st.nx+16*i) t' hh::rest) (l - 1) (if l=0 then st.nx+16*i+k else k)=some x:=by
        intro l k x e
        cases l with
        |zero=>simpa [tb] using j1 k x (by simpa [tb] using e)
        |succ l=>
         cases l with
         |zero=>simpa [tb] using j2 k x (by simpa [tb] using e)
         |succ l=>simpa [tb] using e
       have hTT:ZaA (hh::rest) (Zdz (st.nx+16*i) t' hh::rest):=by
        intro l k
        cases l with
        |zero=>
         simp only[tb]
         cases hx:hh k with
         |none=>trivial
         |some x=>rw[j2 k x hx];exact Zec.refl _
        |succ l=>exact Zec.refl _
       refine step (r:=.ok (.value v) w') (fm':=fm') (ts':=Zdz (st.nx+16*i) t' hh::rest) ?_
       subst hd0
       refine⟨.inl rfl,?_,hvr.impJ hJ rfl,hup,htl.trans hTT,?_⟩
       ·rw[hH]
        simp only[Zam.puts_append,Zhj,Ziv]
        exact hhr.impJ j1 j2
       ·intro l k hlk hn
        cases l with
        |zero=>
         have hk:¬ (st.nx+16*i≤k∧k<st.nx+16*i+16):=by omega
         simp only[tb,Zdz,if_neg hk]
         have:=hno 0 k hn
         simpa [tb] using this
        |succ l=>
         have:=hno (l+1) k hn
         simpa [tb] using this
     ·cases hcal'
    ·cases hcal'
  ·cases hc
end
end Go.Abs
namespace Go.Abs
open Go Go.RowKit
set_option linter.unusedSectionVars false
theorem ZkC:∀ (l acc:List Nat) (x:Nat),x∈Znr acc l↔x∈acc∨x∈l
 |[],acc,x=>by simp[Znr]
 |y::l,acc,x=>by
  simp only[Znr,ZkC l,List.mem_cons]
  by_cases h:acc.contains y=true
  ·rw[if_pos h]
   have:y∈acc:=by simpa using h
   constructor
   ·rintro(h|h)
    ·exact .inl h
    ·exact .inr (.inr h)
   ·rintro(h|rfl|h)
    ·exact .inl h
    ·exact .inl this
    ·exact .inr h
  ·rw[if_neg h]
   simp only[List.mem_append,List.mem_singleton,or_assoc]
theorem Zis (b:List (List Nat)) (x:Nat):∀ (l:List Edge) (acc:List Nat),x∈Zjv b acc l↔x∈acc∨∃ e∈l,Region.binds .any e=true∧(x=e.on∨x∈(b[e.on]?).getD [])
 |[],acc=>by simp[Zjv]
 |e::l,acc=>by
  simp only[Zjv,Zis b x l,List.mem_cons]
  by_cases hb:Region.binds .any e=true
  ·rw[if_pos hb]
   simp only[ZkC,List.mem_singleton]
   constructor
   ·rintro((h|h)|⟨f,hf,h⟩)
    ·rcases h with h|h
     ·exact .inl h
     ·exact .inr ⟨e,.inl rfl,hb,.inr h⟩
    ·exact .inr ⟨e,.inl rfl,hb,.inl h⟩
    ·exact .inr ⟨f,.inr hf,h⟩
   ·rintro(h|⟨f,rfl|hf,hbf,h⟩)
    ·exact .inl (.inl (.inl h))
    ·rcases h with h|h
     ·exact .inl (.inr h)
     ·exact .inl (.inl (.inr h))
    ·exact .inr ⟨f,hf,hbf,h⟩
  ·rw[if_neg hb]
   constructor
   ·rintro(h|⟨f,hf,h⟩)
    ·exact .inl h
    ·exact .inr ⟨f,.inr hf,h⟩
   ·rintro(h|⟨f,rfl|hf,hbf,h⟩)
    ·exact .inl h
    ·exact absurd hbf hb
    ·exact .inr ⟨f,hf,hbf,h⟩
theorem ZgX:∀ (l:List Oper) (b:List (List Nat)) (i:Nat),i<b.length→(Zg0 b l)[i]?=b[i]?
 |[],b,i,h=>rfl
 |o::l,b,i,h=>by
  simp only[Zg0]
  rw[ZgX l _ i (by simp;omega),List.getElem?_append_left h]
theorem ZgW:∀ (l:List Oper) (b:List (List Nat)) (i:Nat) (o:Oper),l[i]?=some o→
  ∃ b',(Zg0 b l)[b.length+i]?=some (Zjv b' [] o.after.toList)∧b'.length=b.length+i∧∀ j,j<b'.length→b'[j]?=(Zg0 b l)[j]?
 |[],b,i,o,h=>by simp at h
 |o'::l,b,0,o,h=>by
  simp only[List.getElem?_cons_zero,oE]at h;subst h
  refine⟨b,?_,by simp,?_⟩
  ·simp only[Zg0,Nat.add_zero]
   rw[ZgX l _ _ (by simp)]
   simp
  ·intro j hj
   simp only[Zg0]
   rw[ZgX l _ j (by simp;omega),List.getElem?_append_left hj]
 |o'::l,b,i+1,o,h=>by
  simp only[List.getElem?_cons_succ]at h
  obtain⟨b',h1,h2,h3⟩:=ZgW l (b++[Zjv b [] o'.after.toList]) i o h
  refine⟨b',?_,by simp at h2;omega,h3⟩
  simp only[Zg0]
  rw[←h1]
  congr 1
  simp;omega
end Go.Abs
namespace Go.Abs
open Go Go.RowKit
set_option linter.unusedSectionVars false
def St.drawn (st:St) (ops:List SOp) (ds:List De) (drop:List Nat):St:=
 St.withHeap { st with tm:=Ze6 (ZeA ops ds (List.range ops.length) st.tm) drop,nx:=st.nx+16*ops.length } (Zam.puts (st.fr::st.low) (Za2 ds (List.range ops.length)))
section
variable [Md] {P:Program}{T:Tys}{N0:Nat}{W0:World}{n:Nat}{fm:FM}{ts:List Tie}{st:St}{ops:List SOp}{befs:List (List Nat)}{ds:List De}{Φ:Exit→St→Prop}
theorem ZqF {n:Nat}{p:Nat→Bool} (h:∀ j,j<n→p j=true):ZeW n p=List.range n:=by
 unfold ZeW
 rw[List.filter_eq_self]
 intro j hj
 exact h j (List.mem_range.1 hj)
theorem DR.all {p:Nat→Bool}{a:Act}{w:World} (h:DR N0 W0 n st ops ds p a w fm ts) (hp:∀ j,j<ops.length→p j=true) (drop:List Nat):SR N0 W0 n (st.drawn ops ds drop) a w fm ts:=by
 have e:=ZqF hp
 have h1:=h.hr
 have h2:=h.tm
 rw[e]at h1 h2
 obtain⟨f',H',hp'⟩:=Zev st.fr st.low (Za2 ds (List.range ops.length))
 unfold St.drawn
 rw[hp']at h1 ⊢
 refine⟨h1,?_,h.top,h.size,h.dfr⟩
 intro t x hx
 exact h2 t x (Zfm drop _ t x hx)
theorem DR.none {a:Act}{w:World} (h:SR N0 W0 n st a w fm ts):DR N0 W0 n st ops ds (fun _=>false) a w fm ts:=by
 have e:ZeW ops.length (fun _=>false)=[]:=by unfold ZeW;simp
 refine⟨by rw[e];exact h.hr,?_,fun i _ _ k h1 _=>h.nx k (by omega),fun k hk=>h.nx k (by omega),h.size,h.dfr⟩
 rw[e]
 intro t x hx
 exact h.tm t x hx
end
end Go.Abs
namespace Go.Abs
open Go Go.RowKit
set_option linter.unusedSectionVars false
theorem Zgb {p q:Nat→Bool} (hpq:∀ j,p j=true→q j=true) {i:Nat} (hq:q i=true) (hp:p i=false):∀ (l:List Nat),i∈l→l.countP p<l.countP q
 |[],h=>by cases h
 |a::l,h=>by
  have hle:l.countP p≤l.countP q:=List.countP_mono_left (fun x _ hx=>hpq x hx)
  rw[List.countP_cons,List.countP_cons]
  by_cases ha:a=i
  ·subst ha
   rw[hq,hp]
   simp only[if_true,Bool.false_eq_true,if_false]
   omega
  ·have hl:i∈l:=by
    rcases List.mem_cons.1 h with h|h
    ·exact absurd h.symm ha
    ·exact h
   have ih:=Zgb hpq hq hp l hl
   cases hpa:p a with
   |false=>simp only[Bool.false_eq_true,if_false];split<;>omega
   |true=>rw[hpq a hpa];simp only[if_true];omega
section
variable [Md] {P:Program}{T:Tys}{n:Nat}{Φ:Exit→St→Prop}
theorem AK.draw (hT:ZaL P T) (hm:P.follows .mixedOrders=true) {ops:List SOp}{befs:List (List Nat)}{drop:List Nat}{todo:List It}{st:St} (ds:List De) (hds:∀ j,j<ops.length→∃ d,ds[j]?=some d) (h1:ZhQ ops)
  (hbl:∀ i j,j∈ZaW befs i→j<i) (hap:∀ i j,i<j→j<ops.length→i∉ZaW befs j→ZeX (Zbn ds i) (Zbn ds j))
  (heff:∀ i s d,ops[i]?=some s→ds[i]?=some d→ZnH P T (st.nx+16*i) s (look (Zh7 ops befs ds st.tm i)) (Zam.get (Znf ops befs ds (st.fr::st.low) i)) d)
  (hn:AK P n Φ todo (st.drawn ops ds drop)):AK P n Φ (.sc (.dreg ops befs drop)::todo) st:=by
 intro N0 W0 fm ts a w ct Q hS hsim hQ
 obtain⟨c,ct',hns,hb,hf,ht,hK⟩:=hsim.sc_inv (P:=P) rfl
 apply hK
 cases c<;>try (simp only[SC.bare,Zba,reduceCtorEq]at hb;done)
 case scope b=>exact absurd rfl (hns b)
 case region rid arr dr=>
  cases dr with
  |false=>simp[SC.bare,Zba]at hb
  |true=>
   simp only[SC.bare,Zba,SC.dreg.injEq,and_true]at hb
   obtain⟨hb1,hb2⟩:=hb
   simp only[Zba,SC.fits,List.all_eq_true]at hf
   have ZbS:ops.length=arr.size:=by have:=congrArg List.length hb1;simpa using this
   have hat:∀ i,(hi:i<arr.size)→∃ s,ops[i]?=some s∧s.dst=(arr[i]).dst∧s.op=(arr[i]).op∧s.type=(arr[i]).type∧s.guard=(arr[i]).guard.map (fun g=>(((arr[g.1]?).bind (·.dst)).getD n,g.2)):=by
    intro i hi
    have hlt:i<ops.length:=by omega
    refine⟨ops[i],gG hlt,?_⟩
    have e:=congrArg (fun l=>l[i]?) hb1
    simp only[List.getElem?_map,gG hlt,Option.map_some,Array.getElem?_toList,Array.getElem?_eq_getElem hi,oE]at e
    simp only[Zdi,ZcV,SOp.mk.injEq,and_true]at e
    obtain⟨e1,e2,e3,e4⟩:=e
    exact⟨e1,e2,e3,e4⟩
   have hbef:∀ i,(hi:i<arr.size)→∀ x,x∈ZaW befs i↔∃ e∈(arr[i]).after.toList,Region.binds .any e=true∧(x=e.on∨(e.on<i∧x∈ZaW befs e.on)):=by
    intro i hi x
    obtain⟨b',g1,g2,g3⟩:=ZgW arr.toList [] i arr[i] (by simp[hi])
    simp only[List.length_nil,Nat.zero_add]at g1 g2
    have e1:ZaW befs i=Zjv b' [] (arr[i]).after.toList:=by unfold ZaW;rw[hb2,g1];rfl
    rw[e1,Zis]
    simp only[List.not_mem_nil,false_or]
    have e2:∀ e:Edge,x∈(b'[e.on]?).getD []↔(e.on<i∧x∈ZaW befs e.on):=by
     intro e
     by_cases hj:e.on<b'.length
     ·rw[g3 _ hj]
      unfold ZaW
      rw[hb2]
      rw[g2]at hj
      simp[hj]
     ·rw[List.getElem?_eq_none (by omega)]
      simp
      omega
    constructor
    ·rintro⟨e,h1,h2,h3⟩
     exact⟨e,h1,h2,h3.imp id (e2 e).1⟩
    ·rintro⟨e,h1,h2,h3⟩
     exact⟨e,h1,h2,h3.imp id (e2 e).2⟩
   refine wpIn_region_any hm ?_
   have hrep:∀ j,(Array.replicate arr.size false).getD j false=false:=by
    intro j
    by_cases hj:j<arr.size
    ·simp[Array.getD,hj]
    ·simp[Array.getD,hj]
   have key:∀ (fuel:Nat) (listed:Array Bool) (a:Act) (w:World) (fm':FM) (ts':List Tie),listed.size=arr.size→((List.range arr.size).countP fun j=>!listed.getD j false)≤fuel→
     (∀ j,listed.getD j false=true→∀ k∈ZaW befs j,listed.getD k false=true)→DR N0 W0 n st ops ds (fun j=>listed.getD j false) a w fm' ts'→Later N0 fm ts fm' ts'→wpAnyIn FW 0 P .any arr (K P Q ct') fuel listed a w:=by
    intro fuel
    have fin:∀ (listed:Array Bool) (a:Act) (w:World) (fm':FM) (ts':List Tie),listed.size=arr.size→DR N0 W0 n st ops ds (fun j=>listed.getD j false) a w fm' ts'→Later N0 fm ts fm' ts'→Region.ready .any arr listed=[]→K P Q ct' .normal a w:=by
     intro listed a w fm' ts' hsz hD hL hr
     have hall:∀ j,j<arr.size→listed.getD j false=true:=by
      intro j
      induction j using Nat.strongRecOn with
      |_ j ih=>
       intro hj
       by_cases hl:listed.getD j false=true
       ·exact hl
       ·have hin:j∈Region.ready .any arr listed:=by
         rw[mem_ready]
         have hlt:j<listed.size:=by omega
         refine⟨by simp[Array.getD,hlt]at hl ⊢;exact hl,arr[j],Array.getElem?_eq_getElem hj,?_⟩
         intro e he hb
         have hm:e.on∈ZaW befs j:=(hbef j hj e.on).2 ⟨e,by simpa using he,hb,.inl rfl⟩
         have:=hbl j e.on hm
         exact ih e.on this (by omega)
        rw[hr]at hin;cases hin
     have hS':=hD.all (fun j hj=>hall j (by omega)) drop
     exact hn N0 W0 fm' ts' a w ct' Q hS' (ht.later hL) (fun e s x w' f t hp hs hl=>hQ e s x w' f t hp hs (hL.trans hl))
    induction fuel with
    |zero=>
     intro listed a w fm' ts' hsz hc hcl hD hL
     have hr:Region.ready .any arr listed=[]:=by
      cases h:Region.ready .any arr listed with
      |nil=>rfl
      |cons j l=>
       have hj:j∈Region.ready .any arr listed:=by rw[h];exact List.mem_cons_self
       rw[mem_ready]at hj
       obtain⟨h0,o,ho,_⟩:=hj
       have hlt:j<arr.size:=(Array.getElem?_eq_some_iff.1 ho).1
       have:0<(List.range arr.size).countP fun j=>!listed.getD j false:=by
        rw[List.countP_pos_iff]
        have hlt':j<listed.size:=by omega
        refine⟨j,List.mem_range.2 hlt,?_⟩
        simp[Array.getD,hlt']at h0 ⊢
        exact h0
       omega
     exact⟨hr,fin listed a w fm' ts' hsz hD hL hr⟩
    |succ fuel ih=>
     intro listed a w fm' ts' hsz hc hcl hD hL
     refine⟨fin listed a w fm' ts' hsz hD hL,fun i hi=>?_⟩
     rw[mem_ready]at hi
     obtain⟨h0,o,ho,hall⟩:=hi
     have hlt:i<arr.size:=(Array.getElem?_eq_some_iff.1 ho).1
     have hlt':i<listed.size:=by omega
     have hpi:listed.getD i false=false:=by
      simp[Array.getD,hlt']at h0 ⊢
      exact h0
     obtain⟨s,hs,hsd,hso,hst,hsg⟩:=hat i hlt
     have ho':o=arr[i]:=by rw[Array.getElem?_eq_getElem hlt]at ho;exact(oi ho).symm
     subst ho'
     obtain⟨d,hd⟩:=hds i (by omega)
     have hB:∀ j,(ZaW befs i).contains j=true→listed.getD j false=true:=by
      intro j hj
      have hmm:j∈ZaW befs i:=by simpa using hj
      obtain⟨e,he,hb,h⟩:=(hbef i hlt j).1 hmm
      have hon:=hall e (by simpa using he) hb
      rcases h with rfl|⟨_,h⟩
      ·exact hon
      ·exact hcl _ hon j h
     have hcl':∀ j,listed.getD j false=true→(ZaW befs j).contains i=false:=by
      intro j hj
      cases hc':(ZaW befs j).contains i with
      |false=>rfl
      |true=>
       have:=hcl j hj i (by simpa using hc')
       rw[hpi]at this;cases this
     have hset:∀ j,(listed.setIfInBounds i true).getD j false=(listed.getD j false || j==i):=by
      intro j
      by_cases hji:j=i
      ·subst hji;simp[Array.getD,hlt']
      ·rw[getD_set_ne false (Ne.symm hji)];simp[hji]
     unfold wpOpIn
     rw[ho]
     simp only
     have hTm:Ztv (look (Zh7 ops befs ds st.tm i)) (look (ZeA ops ds (ZeW ops.length fun j=>listed.getD j false) st.tm)):=by
      exact Zj0 h1 hds hB hcl'
     have hyl:∀ g j v,((arr[j]?).bind (·.dst)).getD n=g→a.tmps[g]?=some v→yielded arr a.tmps j=match v with|.bool b=>some b|_=>none:=by
      intro g j v hjg hv
      unfold yielded
      cases hb:(arr[j]?).bind (·.dst) with
      |none=>
       rw[hb]at hjg
       simp only[Option.getD_none]at hjg
       have:=(Array.getElem?_eq_some_iff.1 hv).1
       rw[hD.size]at this
       subst hjg
       exact absurd this (Nat.lt_irrefl _)
      |some dd=>
       rw[hb]at hjg
       simp only[Option.getD_some]at hjg
       subst hjg
       simp only[Option.bind_some,hv]
       cases v<;>rfl
     have hgu:∀ g w,s.guard=some (g,w)→∃ j,(arr[i]).guard=some (j,w)∧((arr[j]?).bind (·.dst)).getD n=g:=by
      intro g w hh
      rw[hh]at hsg
      cases hh2:(arr[i]).guard with
      |none=>rw[hh2]at hsg;cases hsg
      |some p=>
       rw[hh2]at hsg
       simp only[Option.map_some,oE,Prod.mk.injEq]at hsg
       exact⟨p.1,by rw[hsg.2],hsg.1.symm⟩
     have hmore:∀ v w' fm2 ts2,DR N0 W0 n st ops ds (fun j=>listed.getD j false || j==i) (a.put (arr[i]).dst v) w' fm2 ts2→Later N0 fm' ts' fm2 ts2→wpAnyIn FW 0 P .any arr (K P Q ct') fuel (listed.setIfInBounds i true) (a.put (arr[i]).dst v) w':=by
      intro v w' fm2 ts2 hD2 hL2
      refine ih (listed.setIfInBounds i true) _ w' fm2 ts2 (by simpa using hsz) ?_ ?_ ?_ (hL.trans hL2)
      ·have:=Zgb (p:=fun j=>!(listed.setIfInBounds i true).getD j false) (q:=fun j=>!listed.getD j false) (i:=i) (by
        intro j hj
        rw[hset]at hj
        simp only[Bool.not_or,Bool.and_eq_true]at hj
        exact hj.1) (by simp only[hpi,Bool.not_false]) (by simp only[hset,hpi];simp) (List.range arr.size) (List.mem_range.2 hlt)
       omega
      ·intro j hj k hk
       rw[hset]at hj ⊢
       simp only[Bool.or_eq_true,beq_iff_eq]at hj ⊢
       rcases hj with hj|rfl
       ·exact .inl (hcl j hj k hk)
       ·exact .inl (hB k (by simpa using hk))
      ·have e:(fun j=>(listed.setIfInBounds i true).getD j false)=fun j=>listed.getD j false || j==i:=funext hset
       rw[e]
       exact hD2
     have happ:∀ j,listed.getD j false=true→i<j→ZeX (Zbn ds i) (Zbn ds j):=by
      intro j hj hij
      have hjs:j<listed.size:=by
       by_cases hjs:j<listed.size
       ·exact hjs
       ·simp[Array.getD,hjs]at hj
      refine hap i j hij (by omega) ?_
      have:=hcl' j hj
      simpa using this
     have hfits:∀ d,Zb3 ops i=some d→d<n:=by
      intro dd hdd
      have hmem:Zdi s∈List.map (ZcV n arr) arr.toList:=by rw[←hb1];exact List.mem_map_of_mem (List.mem_of_getElem? hs)
      have:=hf _ hmem
      simp only[Zb3,hs,Option.bind_some]at hdd
      simp only[Zdi,hdd]at this
      simpa using this
     rcases heff i s d hs hd with ⟨hgo,hE⟩|⟨hsty,rfl⟩
     case inr=>
      obtain⟨g,want,hsgu,hcase⟩:=hsty
      obtain⟨j,hj,hjg⟩:=hgu g want hsgu
      have hnw:Region.wanted arr[i] (yielded arr a.tmps)=false:=by
       rcases hcase with ⟨b,hb,hbw⟩|hb
       ·obtain⟨v,hv,hvr⟩:=hD.tm g _ (hTm g _ hb)
        cases hvr
        simp only[Region.wanted,hj,hyl g j _ hjg hv]
        simpa using hbw
       ·obtain⟨v,hv,hvr⟩:=hD.tm g _ (hTm g _ hb)
        cases hvr
        simp[Region.wanted,hj,hyl g j _ hjg hv]
      rw[if_neg (by rw[hnw];simp)]
      have ho:Out N0 W0 fm' ts' (Zam.puts (st.fr::st.low) (Za2 ds (ZeW ops.length fun j=>listed.getD j false))) w (st.nx+16*i) (.ok .skip w) ⟨.tup [],[]⟩ fm' ts' w undef:=
       ⟨.inr ⟨rfl,rfl⟩,hD.hr,.tup [] #[] rfl (fun i x v h=>by simp at h),FmUp.refl _ _,ZaA.refl _,fun _ _ _ h=>h⟩
      obtain⟨h2,h3⟩:=hD.step (by omega) hpi hd ho h1 hds happ hfits
      have hdo:Zb3 ops i=(arr[i]).dst:=by simp[Zb3,hs,hsd]
      rw[hdo]at h2
      exact⟨fun _ _=>trivial,hmore _ w fm' ts' h2 h3⟩
     have hwant:Region.wanted arr[i] (yielded arr a.tmps)=true:=by
      rcases hgo with hgo|⟨g,want,b,hsgu,hb,hbw⟩
      ·rw[hgo]at hsg
       have:(arr[i]).guard=none:=by
        cases hh:(arr[i]).guard with
        |none=>rfl
        |some g=>rw[hh]at hsg;cases hsg
       simp[Region.wanted,this]
      ·obtain⟨j,hj,hjg⟩:=hgu g want hsgu
       obtain⟨v,hv,hvr⟩:=hD.tm g _ (hTm g _ hb)
       cases hvr
       simp only[Region.wanted,hj,hyl g j _ hjg hv]
       simpa using hbw
     rw[if_pos hwant]
     exact(DR.oper (befs:=befs) hT hD (by omega) hpi hd hs hE h1 hds hB hcl' happ hfits hso hst hsd fun v w' fm2 ts2 hD2 hL2=>hmore v w' fm2 ts2 hD2 hL2)
   refine key arr.size (Array.replicate arr.size false) a _ fm ts (by simp) (Nat.le_trans List.countP_le_length (by simp)) (by intro j hj;rw[hrep]at hj;cases hj) ?_ (Later.refl _ _)
   have e:(fun j=>(Array.replicate arr.size false).getD j false)=fun _=>false:=funext hrep
   rw[e]
   exact DR.none ⟨hS.hr.drew,hS.tm,hS.nx,hS.size,hS.dfr⟩
end
end Go.Abs
namespace Go.Abs
open Go Go.RowKit
set_option linter.unusedSectionVars false
def ZkI:List SOp→Bool
 |[]=>true
 |o::l=>(match o.dst with
  |none=>true
  |some t=>l.all fun q=>decide (q.dst≠some t))&&ZkI l
theorem ZgE:∀ (ops:List SOp),ZkI ops=true→ZhQ ops
 |[],_=>by intro i j t h;simp[Zb3]at h
 |o::l,h=>by
  simp only[ZkI,Bool.and_eq_true]at h
  have ih:=ZgE l h.2
  have hz:∀ j t,o.dst=some t→Zb3 l j≠some t:=by
   intro j t ho hj
   have h1:=h.1
   rw[ho]at h1
   simp only[List.all_eq_true,decide_eq_true_eq]at h1
   unfold Zb3 at hj
   cases hlj:l[j]? with
   |none=>rw[hlj]at hj;cases hj
   |some q=>rw[hlj]at hj;exact h1 q (List.mem_of_getElem? hlj) hj
  have hs:∀ j,Zb3 (o::l) (j+1)=Zb3 l j:=fun j=>by simp[Zb3]
  have h0:Zb3 (o::l) 0=o.dst:=by simp[Zb3]
  intro i j t hi hj
  cases i with
  |zero=>
   cases j with
   |zero=>rfl
   |succ j=>rw[h0]at hi;rw[hs]at hj;exact absurd hj (hz j t hi)
  |succ i=>
   cases j with
   |zero=>rw[h0]at hj;rw[hs]at hi;exact absurd hi (hz i t hj)
   |succ j=>rw[hs]at hi hj;rw[ih i j t hi hj]
def ZhS:Nat→List (List Nat)→Bool
 |_,[]=>true
 |i,l::r=>(l.all fun j=>decide (j<i))&&ZhS (i+1) r
theorem Zf6:∀ (befs:List (List Nat)) (i0:Nat),ZhS i0 befs=true→∀ i j,j∈ZaW befs i→j<i0+i
 |[],i0,_,i,j,h=>by simp[ZaW]at h
 |l::r,i0,h,i,j,hj=>by
  simp only[ZhS,Bool.and_eq_true,List.all_eq_true,decide_eq_true_eq]at h
  cases i with
  |zero=>simp[ZaW]at hj;exact h.1 j hj
  |succ i=>
   have:=Zf6 r (i0+1) h.2 i j (by simpa [ZaW] using hj)
   omega
def ZdG (s t:Zjm):Bool:=s.all fun p=>t.all fun q=>!(p.1==q.1&&p.2.1==q.2.1)
theorem Zk8 {s t:Zjm} (h:ZdG s t=true):ZeX s t:=by
 intro p hp q hq hh
 simp only[ZdG,List.all_eq_true]at h
 have:=h p hp q hq
 rw[hh.1,hh.2]at this
 simp at this
def Ze1 (befs:List (List Nat)) (ds:List De) (n:Nat):Bool:=
 (List.range n).all fun j=>(List.range j).all fun i=>(ZaW befs j).contains i || ZdG (Zbn ds i) (Zbn ds j)
theorem ZhR {befs:List (List Nat)}{ds:List De}{n:Nat} (h:Ze1 befs ds n=true):∀ i j,i<j→j<n→i∉ZaW befs j→ZeX (Zbn ds i) (Zbn ds j):=by
 intro i j hij hj hn
 simp only[Ze1,List.all_eq_true,List.mem_range,Bool.or_eq_true]at h
 rcases h j hj i hij with h|h
 ·exact absurd (by simpa using h) hn
 ·exact Zk8 h
section
variable [Md] {P:Program}{T:Tys}{n:Nat}{Φ:Exit→St→Prop}
theorem ZnE (hT:ZaL P T) (hm:P.follows .mixedOrders=true) {ops:List SOp}{befs:List (List Nat)}{drop:List Nat}{todo:List It}{st:St} (ds:List De) (ZbS:ds.length=ops.length) (h1:ZkI ops=true)
  (hbl:ZhS 0 befs=true) (hap:Ze1 befs ds ops.length=true)
  (heff:∀ i s d,ops[i]?=some s→ds[i]?=some d→ZnH P T (st.nx+16*i) s (look (Zh7 ops befs ds st.tm i)) (Zam.get (Znf ops befs ds (st.fr::st.low) i)) d)
  (hn:AK P n Φ todo (st.drawn ops ds drop)):ZbX P n Φ (.draw ops befs drop todo st):=by
 refine AK.draw hT hm ds (fun j hj=>⟨ds[j]'(by omega),gG (by omega)⟩) (ZgE ops h1) (fun i j hj=>by have:=Zf6 befs 0 hbl i j hj;omega) (ZhR hap) heff hn
end
end Go.Abs
namespace Go.Abs
open Go Go.RowKit
set_option linter.unusedSectionVars false
section
variable [Md] {P:Program}{T:Tys}{N0:Nat}{W0:World}{n:Nat}{fm:FM}{ts:List Tie}{Φ:Exit→St→Prop}
theorem ZtB {Q:Exit→Act→World→Prop} (t:List CIt):K P Q (.back (fun a w=>K P Q t .normal a w)::t)=K P Q t:=by
 funext e a w;cases e<;>rfl
theorem ZnK {Q:Exit→Act→World→Prop} (t:List CIt):∀ c1:List CIt,K P Q (c1++.back (fun a w=>K P Q t .normal a w)::t)=K P Q (c1++t)
 |[]=>ZtB t
 |c::c1=>by
  have ih:=ZnK (Q:=Q) t c1
  funext e a w
  cases c<;>cases e<;>simp only[List.cons_append,K,ih]
theorem Sim.stop {todo:List It}:∀ {ct:List CIt}{pre:List It}{l:List It},Sim N0 W0 n fm ts l ct→l=pre++todo→∃ c1 c2,ct=c1++c2∧Sim N0 W0 n fm ts todo c2∧
  ∀ (B:St→Prop) (R:Act→World→Prop),(∀ st' a' w' fm' ts',B st'→SR N0 W0 n st' a' w' fm' ts'→Later N0 fm ts fm' ts'→R a' w')→Sim N0 W0 n fm ts (pre++.back B::todo) (c1++.back R::c2):=by
 intro ct pre l h
 induction h generalizing pre with
 |nil=>
  intro e
  have e2:pre=[]∧todo=[]:=by simpa using e.symm
  obtain⟨rfl,rfl⟩:=e2
  exact⟨[],[],rfl,.nil,fun B R hR=>.back hR .nil⟩
 |@sc s c t ct h hf ht ih=>
  intro e
  cases pre with
  |nil=>
   simp only[List.nil_append]at e;subst e
   exact⟨[],_,rfl,.sc h hf ht,fun B R hR=>.back hR (.sc h hf ht)⟩
  |cons p pre=>
   simp only[List.cons_append,List.cons.injEq]at e
   obtain⟨rfl,e⟩:=e
   obtain⟨c1,c2,rfl,h2,h3⟩:=ih e
   exact⟨.code c::c1,c2,rfl,h2,fun B R hR=>.sc h hf (h3 B R hR)⟩
 |@blk id t ct ht ih=>
  intro e
  cases pre with
  |nil=>
   simp only[List.nil_append]at e;subst e
   exact⟨[],_,rfl,.blk ht,fun B R hR=>.back hR (.blk ht)⟩
  |cons p pre=>
   simp only[List.cons_append,List.cons.injEq]at e
   obtain⟨rfl,e⟩:=e
   obtain⟨c1,c2,rfl,h2,h3⟩:=ih e
   exact⟨.blk id::c1,c2,rfl,h2,fun B R hR=>.blk (h3 B R hR)⟩
 |@scp t ct ht ih=>
  intro e
  obtain⟨c1,c2,rfl,h2,h3⟩:=ih e
  exact⟨.scp::c1,c2,rfl,h2,fun B R hR=>.scp (h3 B R hR)⟩
 |@ops l arr is t ct h hi hf ht ih=>
  intro e
  cases pre with
  |nil=>
   simp only[List.nil_append]at e;subst e
   exact⟨[],_,rfl,.ops h hi hf ht,fun B R hR=>.back hR (.ops h hi hf ht)⟩
  |cons p pre=>
   simp only[List.cons_append,List.cons.injEq]at e
   obtain⟨rfl,e⟩:=e
   obtain⟨c1,c2,rfl,h2,h3⟩:=ih e
   exact⟨.ops arr is::c1,c2,rfl,h2,fun B R hR=>.ops h hi hf (h3 B R hR)⟩
 |@back B0 R0 t ct h ht ih=>
  intro e
  cases pre with
  |nil=>
   simp only[List.nil_append]at e;subst e
   exact⟨[],_,rfl,.back h ht,fun B R hR=>.back hR (.back h ht)⟩
  |cons p pre=>
   simp only[List.cons_append,List.cons.injEq]at e
   obtain⟨rfl,e⟩:=e
   obtain⟨c1,c2,rfl,h2,h3⟩:=ih e
   exact⟨.back R0::c1,c2,rfl,h2,fun B R hR=>.back h (h3 B R hR)⟩
theorem AK.cut (B:St→Prop) (pre:List It) {todo:List It}{st:St} (h1:AK P n Φ (pre++.back B::todo) st) (h2:∀ st,B st→AK P n Φ todo st):AK P n Φ (pre++todo) st:=by
 intro N0 W0 fm ts a w ct Q hS hsim hQ
 obtain⟨c1,c2,rfl,h3,h4⟩:=hsim.stop rfl
 have:=h1 N0 W0 fm ts a w (c1++.back (fun a w=>K P Q c2 .normal a w)::c2) Q hS (h4 B _ ?_) hQ
 ·rw[ZnK]at this;exact this
 ·intro st' a' w' fm' ts' hB hS' hL
  exact h2 st' hB N0 W0 fm' ts' a' w' c2 Q hS' (h3.later hL) (fun e s x w' f t hp hs hl=>hQ e s x w' f t hp hs (hL.trans hl))
inductive Stp (S E R:Type) where
 |next (s:S)
 |brk (e:E)
 |ret (r:R)
def whl {S E R:Type} (body:S→Option (Stp S E R)):Nat→S→Option (Stp S E R)
 |0,_=>none
 |k+1,s=>match body s with
  |none=>none
  |some (.next s')=>whl body k s'
  |some (.brk s')=>some (.brk s')
  |some (.ret r)=>some (.ret r)
theorem AK.loopS {S E R:Type}{body:S→Option (Stp S E R)}{k:Nat}{s0:S}{r:Stp S E R} (hk:whl body k s0=some r) (hd:S→St) (ex:E→St) {b:SC}{id:Nat}{todo:List It}{st:St} (hw:Za7 n st (hd s0))
  (hb:∀ s x (Bk Br:St→Prop),body s=some x→(∀ s' st',x=.next s'→Za7 n st' (hd s')→Bk st')→(∀ s' st',x=.brk s'→Za7 n st' (ex s')→Br st')→(∀ v,x=.ret v→r=.ret v)→
   AK P n Φ (.sc b::.back Bk::.blk id::.back Br::todo) (hd s))
  (hx:∀ s',r=.brk s'→AK P n Φ todo (ex s')):AK P n Φ (.sc (.loop b)::.blk id::todo) st:=by
 refine AK.cut (fun st'=>∃ s',r=.brk s'∧Za7 n st' (ex s')) [.sc (.loop b),.blk id] ?_ ?_
 ·refine AK.loop (fun m st=>∃ s,st=hd s∧whl body m s=some r) k hw ⟨s0,rfl,hk⟩ ?_
  rintro m st ⟨s,rfl,hm⟩
  cases m with
  |zero=>cases hm
  |succ m=>
   simp only[whl]at hm
   cases hs:body s with
   |none=>rw[hs]at hm;cases hm
   |some x=>
    rw[hs]at hm
    refine hb s x _ _ hs ?_ ?_ ?_
    ·rintro s' st' rfl hwk
     exact⟨hd s',m,Nat.lt_succ_self m,hwk,s',rfl,hm⟩
    ·rintro s' st' rfl hwk
     exact⟨s',(oi hm).symm,hwk⟩
    ·rintro v rfl
     exact(oi hm).symm
 ·rintro st' ⟨s',hr,hwk⟩
  exact AK.weak hwk (hx s' hr)
theorem ZmA {E R:Type}{j:Option (Stp Unit E R)}{r:Stp Unit E R} (hk:j=some r) (ex:E→St) {b:SC}{todo:List It}{st:St}
  (hb:∀ Br:St→Prop,j=some r→(∀ s' st',r=.brk s'→Za7 n st' (ex s')→Br st')→(∀ v,r=.ret v→r=.ret v)→AK P n Φ (.sc b::.back Br::todo) st)
  (hx:∀ s',r=.brk s'→AK P n Φ todo (ex s')):ZbX P n Φ (.mark b todo st):=
 AK.cut (fun st'=>∃ s',r=.brk s'∧Za7 n st' (ex s')) [.sc b] (hb _ hk (fun s' st' h1 h2=>⟨s',h1,h2⟩) (fun _ h=>h)) fun st' ⟨s',hr,hwk⟩=>AK.weak hwk (hx s' hr)
end
section
variable [Md]
inductive NL:AV→AV→Prop
 |refl (x:AV):NL x x
 |nil (e:Nat):NL .nil (.sl e [])
 |agg (cs ys:List AV) (h1:cs.length=ys.length) (h2:∀ (i:Nat) x y,cs[i]?=some x→ys[i]?=some y→NL x y):NL (.agg cs) (.agg ys)
 |tup (cs ys:List AV) (h1:cs.length=ys.length) (h2:∀ (i:Nat) x y,cs[i]?=some x→ys[i]?=some y→NL x y):NL (.tup cs) (.tup ys)
 |sl (e:Nat) (es fs:List (List AV)) (h1:es.length=fs.length) (h2:∀ (i:Nat) c d,es[i]?=some c→fs[i]?=some d→c.length=d.length)
   (h3:∀ (i:Nat) c d (o:Nat) x y,es[i]?=some c→fs[i]?=some d→c[o]?=some x→d[o]?=some y→NL x y):NL (.sl e es) (.sl e fs)
def NLs (cs ys:List AV):Prop:=cs.length=ys.length∧∀ (i:Nat) x y,cs[i]?=some x→ys[i]?=some y→NL x y
def ZeT (es fs:List (List AV)):Prop:=es.length=fs.length∧∀ (i:Nat) c d,es[i]?=some c→fs[i]?=some d→NLs c d
theorem NLs.nil:NLs [] []:=⟨rfl,fun i x y h=>by simp at h⟩
theorem NLs.cons {x y:AV}{l m:List AV} (h:NL x y) (hs:NLs l m):NLs (x::l) (y::m):=by
 refine⟨by simp[hs.1],?_⟩
 intro i a b ha hb
 cases i with
 |zero=>simp at ha hb;subst ha hb;exact h
 |succ i=>simp at ha hb;exact hs.2 i a b ha hb
theorem NLs.refl (l:List AV):NLs l l:=⟨rfl,fun i x y a b=>by rw[a]at b;cases b;exact .refl _⟩
theorem ZeT.nil:ZeT [] []:=⟨rfl,fun i x y h=>by simp at h⟩
theorem ZeT.cons {x y:List AV}{l m:List (List AV)} (h:NLs x y) (hs:ZeT l m):ZeT (x::l) (y::m):=by
 refine⟨by simp[hs.1],?_⟩
 intro i a b ha hb
 cases i with
 |zero=>simp at ha hb;subst ha hb;exact h
 |succ i=>simp at ha hb;exact hs.2 i a b ha hb
theorem ZeT.refl (l:List (List AV)):ZeT l l:=⟨rfl,fun i x y a b=>by rw[a]at b;cases b;exact .refl _⟩
theorem ZeT.append {a b c d:List (List AV)} (h:ZeT a b) (k:ZeT c d):ZeT (a++c) (b++d):=by
 refine⟨by simp[h.1,k.1],?_⟩
 intro i x y hx hy
 by_cases hi:i<a.length
 ·rw[List.getElem?_append_left hi]at hx
  rw[List.getElem?_append_left (by rw[←h.1];exact hi)]at hy
  exact h.2 i x y hx hy
 ·rw[List.getElem?_append_right (by omega)]at hx
  rw[List.getElem?_append_right (by rw[←h.1];omega)]at hy
  rw[←h.1]at hy
  exact k.2 _ x y hx hy
theorem NL.aggs {cs ys:List AV} (h:NLs cs ys):NL (.agg cs) (.agg ys):=.agg _ _ h.1 h.2
theorem NL.tups {cs ys:List AV} (h:NLs cs ys):NL (.tup cs) (.tup ys):=.tup _ _ h.1 h.2
theorem NL.sls {e:Nat}{es fs:List (List AV)} (h:ZeT es fs):NL (.sl e es) (.sl e fs):=.sl _ _ _ h.1 (fun i c d a b=>(h.2 i c d a b).1) (fun i c d o x y a b p q=>(h.2 i c d a b).2 o x y p q)
theorem NL.flat {x y:AV} (h:NL x y):y.flat=x.flat:=by
 cases h<;>rfl
theorem NL.ok {x y:AV} (h:NL x y):∀ {fm:FM}{ts:List Tie}{v:Value},VR fm ts x v→VR fm ts y v:=by
 induction h with
 |refl x=>intro fm ts v hv;exact hv
 |nil e=>intro fm ts v hv;cases hv;exact .slNil _ _ _
 |agg cs ys h1 h2 ih=>
  intro fm ts v hv
  cases hv with
  |agg _ vs k1 k2 k3=>
   have hy:∀ (i:Nat) y,ys[i]?=some y→∃ x,cs[i]?=some x:=fun i y hy=>⟨_,gG (by rw[h1];exact(gS.1 hy).1)⟩
   refine .agg _ vs (by rw[←h1];exact k1) ?_ ?_
   ·intro y hm
    obtain⟨i,hi⟩:=List.mem_iff_getElem?.1 hm
    obtain⟨x,hx⟩:=hy i y hi
    rw[(h2 i x y hx hi).flat];exact k2 x (List.mem_of_getElem? hx)
   ·intro i y u hi hu
    obtain⟨x,hx⟩:=hy i y hi
    exact ih i x y hx hi (k3 i x u hx hu)
 |tup cs ys h1 h2 ih=>
  intro fm ts v hv
  cases hv with
  |tup _ vs k1 k3=>
   refine .tup _ vs (by rw[←h1];exact k1) ?_
   intro i y u hi hu
   have hx:∃ x,cs[i]?=some x:=⟨_,gG (by rw[h1];exact(gS.1 hi).1)⟩
   obtain⟨x,hx⟩:=hx
   exact ih i x y hx hi (k3 i x u hx hu)
 |sl e es fs h1 h2 h3 ih=>
  intro fm ts v hv
  have hc:∀ (i:Nat) d,fs[i]?=some d→∃ c,es[i]?=some c∧c.length=d.length:=fun i d hd=>by
   have hlt:i<es.length:=by rw[h1];exact(gS.1 hd).1
   exact⟨_,gG hlt,h2 i _ d (gG hlt) hd⟩
  have hx:∀ (i:Nat) d (o:Nat) y,fs[i]?=some d→d[o]?=some y→∃ c x,es[i]?=some c∧c[o]?=some x:=fun i d o y hd hy=>by
   obtain⟨c,hc1,hc2⟩:=hc i d hd
   exact⟨c,_,hc1,gG (by rw[hc2];exact(gS.1 hy).1)⟩
  cases hv with
  |slNil _ a cap=>
   have:fs=[]:=List.eq_nil_of_length_eq_zero (by simpa using h1.symm)
   subst this
   exact .slNil _ _ _
  |sl _ cb off _ cap u hcap k1 k2 k3 k4=>
   have:=VR.sl (fm:=fm) (ts:=ts) fs cb off e cap u (by rw[←h1];exact hcap)
    (fun d hd=>by
     obtain⟨i,hi⟩:=List.mem_iff_getElem?.1 hd
     obtain⟨c,hc1,hc2⟩:=hc i d hi
     rw[←hc2];exact k1 c (List.mem_of_getElem? hc1))
    (fun i d o y hd hy=>by obtain⟨c,x,a,b⟩:=hx i d o y hd hy;exact k2 i c o x a b)
    (fun i d o y hd hy=>by obtain⟨c,x,a,b⟩:=hx i d o y hd hy;rw[(h3 i c d o x y a hd b hy).flat];exact k3 i c o x a b)
    (fun i d o y hd hy=>by obtain⟨c,x,a,b⟩:=hx i d o y hd hy;exact ih i c d o x y a hd b hy (k4 i c o x a b))
   rw[←h1]at this
   exact this
theorem NLs.ok {cs ys:List AV} (h:NLs cs ys) {fm:FM}{ts:List Tie}{vs:List Value} (hv:VRs fm ts cs vs):VRs fm ts ys vs:=by
 refine⟨h.1.symm.trans hv.1,?_⟩
 intro i y v hy hv'
 have hx:∃ x,cs[i]?=some x:=⟨_,gG (by rw[h.1];exact(gS.1 hy).1)⟩
 obtain⟨x,hx⟩:=hx
 exact(h.2 i x y hx hy).ok (hv.2 i x v hx hv')
inductive NLB:Blk→Blk→Prop
 |box (cs ys:List AV) (h:NLs cs ys):NLB (.box cs) (.box ys)
 |arr (et esz:Nat) (es fs:List (List AV)) (h:ZeT es fs):NLB (.arr et esz es) (.arr et esz fs)
theorem NLB.refl:∀ b:Blk,NLB b b
 |.box _=>.box _ _ (.refl _)
 |.arr _ _ _=>.arr _ _ _ _ (.refl _)
inductive NLT:List (Nat×AV)→List (Nat×AV)→Prop
 |nil:NLT [] []
 |cons (t:Nat) (x y:AV) (l m:List (Nat×AV)) (h:NL x y) (hs:NLT l m):NLT ((t,x)::l) ((t,y)::m)
inductive NLF:Fra→Fra→Prop
 |nil:NLF [] []
 |cons (k:Nat) (x y:Blk) (l m:Fra) (h:NLB x y) (hs:NLF l m):NLF ((k,x)::l) ((k,y)::m)
theorem NLT.refl:∀ l:List (Nat×AV),NLT l l
 |[]=>.nil
 |(t,x)::l=>.cons t x x l l (.refl _) (NLT.refl l)
theorem NLF.refl:∀ l:Fra,NLF l l
 |[]=>.nil
 |(t,x)::l=>.cons t x x l l (.refl _) (NLF.refl l)
theorem NLT.look {l m:List (Nat×AV)} (h:NLT l m):∀ t y,look m t=some y→∃ x,look l t=some x∧NL x y:=by
 induction h with
 |nil=>intro t y h;simp[Abs.look]at h
 |cons t0 x y l m h hs ih=>
  intro t z hz
  simp only[Abs.look]at hz ⊢
  split
  ·rename_i e;rw[if_pos e]at hz;cases hz;exact⟨_,rfl,h⟩
  ·rename_i e;rw[if_neg e]at hz;exact ih t z hz
theorem NLF.look {l m:Fra} (h:NLF l m):∀ k b,look m k=some b→∃ b0,look l k=some b0∧NLB b0 b:=by
 induction h with
 |nil=>intro t y h;simp[Abs.look]at h
 |cons t0 x y l m h hs ih=>
  intro t z hz
  simp only[Abs.look]at hz ⊢
  split
  ·rename_i e;rw[if_pos e]at hz;cases hz;exact⟨_,rfl,h⟩
  ·rename_i e;rw[if_neg e]at hz;exact ih t z hz
theorem NLB.ok {fm:FM}{ts:List Tie}{w:World}{N0:Nat}{t:Option TB}{b b':Blk} (h:BR fm ts w N0 t b) (hn:NLB b b'):BR fm ts w N0 t b':=by
 cases hn with
 |box cs ys hn=>
  cases h with
  |box c _ hN h=>
   obtain⟨cells,et,c1,c2,c3⟩:=h
   refine .box c _ hN ⟨cells,et,c1,c2.trans hn.1,?_⟩
   intro o y v hy hv
   obtain⟨x,hx⟩:∃ x,cs[o]?=some x:=⟨_,gG (by rw[hn.1];exact(gS.1 hy).1)⟩
   have hxy:=hn.2 o x y hx hy
   exact⟨by rw[hxy.flat];exact(c3 o x v hx hv).1,hxy.ok (c3 o x v hx hv).2⟩
 |arr et esz es fs hn=>
  have hc:∀ (i:Nat) d,fs[i]?=some d→∃ c,es[i]?=some c∧NLs c d:=fun i d hd=>by
   have hlt:i<es.length:=by rw[hn.1];exact(gS.1 hd).1
   exact⟨_,gG hlt,hn.2 i _ d (gG hlt) hd⟩
  cases h with
  |nil=>
   have:fs=[]:=List.eq_nil_of_length_eq_zero (by simpa using hn.1.symm)
   subst this
   exact .nil _ _
  |arr _ _ _ c cap hN h=>
   obtain⟨cells,c1,c2,c3,c4,c5,c6,c7⟩:=h
   rw[hn.1]
   refine .arr et esz fs c cap hN ⟨cells,c1,c2,by rw[←hn.1];exact c3,c4,?_,c6,?_⟩
   ·intro d hd
    obtain⟨i,hi⟩:=List.mem_iff_getElem?.1 hd
    obtain⟨c,hc1,hc2⟩:=hc i d hi
    rw[←hc2.1];exact c5 c (List.mem_of_getElem? hc1)
   ·intro i d o y v hd hy hv
    obtain⟨c',hc1,hc2⟩:=hc i d hd
    obtain⟨x,hx⟩:∃ x,c'[o]?=some x:=⟨_,gG (by rw[hc2.1];exact(gS.1 hy).1)⟩
    have hxy:=hc2.2 o x y hx hy
    have:=c7 i c' o x v hc1 hx hv
    exact⟨by rw[hxy.flat];exact this.1,hxy.ok this.2⟩
theorem Za7.nl {n:Nat}{tm tm':List (Nat×AV)}{fr fr':Fra}{low:Zam}{nx nt:Nat} (h1:NLT tm tm') (h2:NLF fr fr'):Za7 n ⟨tm,fr,low,nx,nt⟩ ⟨tm',fr',low,nx,nt⟩:=by
 intro N0 W0 a w fm ts h
 have src:∀ l k b,Zam.get (fr'::low) l k=some b→∃ b0,Zam.get (fr::low) l k=some b0∧NLB b0 b:=by
  intro l k b hg
  cases l with
  |zero=>exact h2.look k b hg
  |succ l=>exact⟨b,hg,.refl b⟩
 refine⟨fm,ts,⟨⟨by simpa using h.hr.len,?_,?_,h.hr.fms,?_,h.hr.bel,h.hr.size,h.hr.oth⟩,?_,h.nx,h.size,h.dfr⟩,Later.refl _ _⟩
 ·intro l k b hg
  obtain⟨b0,hg0,hn⟩:=src l k b hg
  exact hn.ok (h.hr.blk l k b0 hg0)
 ·intro l k l' k' b b' c hg hg'
  obtain⟨b0,hg0,_⟩:=src l k b hg
  obtain⟨b1,hg1,_⟩:=src l' k' b' hg'
  exact h.hr.inj l k l' k' b0 b1 c hg0 hg1
 ·intro l k b c o hg
  obtain⟨b0,hg0,_⟩:=src l k b hg
  exact h.hr.fmd l k b0 c o hg0
 ·intro t y hy
  obtain⟨x,hx,hn⟩:=h1.look t y hy
  obtain⟨v,h3,h4⟩:=h.tm t x hx
  exact⟨v,h3,hn.ok h4⟩
end
end Go.Abs
namespace Go.Abs
open Go Go.RowKit
set_option linter.unusedSectionVars false
def ZfK:Operand→List Nat
 |.tmp t=>[t]
 |_=>[]
def ZlY:List Operand→List Nat
 |[]=>[]
 |x::l=>ZfK x++ZlY l
def Zt2:List (Nat×Operand)→List Nat
 |[]=>[]
 |(_,x)::l=>ZfK x++Zt2 l
def Zr7:Option Operand→List Nat
 |some x=>ZfK x
 |none=>[]
def ZaO:Op→List Nat
 |.move x=>ZfK x
 |.assign x=>ZfK x
 |.pick c a b=>ZfK c++(ZfK a++ZfK b)
 |.alloc _=>[]
 |.box _ x=>ZfK x
 |.build _ ps=>Zt2 ps.toList
 |.buildSlice _ _ ps=>Zt2 ps.toList
 |.load _ a=>ZfK a
 |.store _ a x=>ZfK a++ZfK x
 |.nilCheck x=>ZfK x
 |.binOp _ _ x y _=>ZfK x++ZfK y
 |.unOp _ _ x=>ZfK x
 |.convert _ _ x=>ZfK x
 |.makeFunc _ a b=>ZlY a.toList++ZlY b.toList
 |.makeSlice _ l c=>ZfK l++ZfK c
 |.slice _ x lo hi mx=>ZfK x++(Zr7 lo++(Zr7 hi++Zr7 mx))
 |.fieldAddr _ x _=>ZfK x
 |.field _ x _=>ZfK x
 |.indexAddr _ x i=>ZfK x++ZfK i
 |.index _ x i=>ZfK x++ZfK i
 |.extract x _=>ZfK x
 |.sliceToArrayPointer _ x=>ZfK x
 |.makeInterface _ x=>ZfK x
 |.call c=>(match c.callee with
  |.value f=>ZfK f
  |_=>[])++ZlY c.args.toList
 |_=>[]
def Zu3 (o:SOp):List Nat:=(match o.guard with
 |some (g,_)=>[g]
 |none=>[])++ZaO o.op
def Znq:Op→Bool
 |.move _|.assign _|.pick ..|.alloc _|.box ..|.build ..|.nilCheck _|.binOp ..|.unOp ..|.makeFunc ..|.makeSlice ..|.fieldAddr ..|.field ..|.indexAddr ..|.index ..|.extract ..|.sliceToArrayPointer ..|.makeInterface ..=>false
 |.call c=>match c.callee with
  |.builtin .len|.builtin .max|.builtin .min=>false
  |_=>true
 |_=>true
section
variable {tm tm':Tm}
theorem ZgG {x:Operand} (h:∀ t∈ZfK x,tm t=tm' t):opv tm x=opv tm' x:=by
 cases x<;>simp only[opv]
 exact h _ (by simp[ZfK])
theorem Zet:∀ (l:List Operand),(∀ t∈ZlY l,tm t=tm' t)→Zlk tm l=Zlk tm' l
 |[],_=>rfl
 |x::l,h=>by
  simp only[Zlk]
  rw[ZgG (fun t ht=>h t (by simp only[ZlY,List.mem_append];exact .inl ht)),Zet l (fun t ht=>h t (by simp only[ZlY,List.mem_append];exact .inr ht))]
theorem ZeG:∀ (l:List (Nat×Operand)),(∀ t∈Zt2 l,tm t=tm' t)→ZcI tm l=ZcI tm' l
 |[],_=>rfl
 |(i,x)::l,h=>by
  simp only[ZcI]
  rw[ZgG (fun t ht=>h t (by simp only[Zt2,List.mem_append];exact .inl ht)),ZeG l (fun t ht=>h t (by simp only[Zt2,List.mem_append];exact .inr ht))]
theorem ZiW {T:Tys}{kb:Nat}{G G':Get}{o:Op}{ty:TypeId} (h:∀ t∈ZaO o,tm t=tm' t) (hG:Znq o=true→G=G'):ZcN T kb o ty tm G=ZcN T kb o ty tm' G':=by
 have e:∀ x:Operand,(∀ t∈ZfK x,t∈ZaO o)→opv tm x=opv tm' x:=fun x hx=>ZgG fun t ht=>h t (hx t ht)
 cases o with
 |move x=>simp only[ZcN,e x (fun t ht=>by simpa [ZaO] using ht)]
 |assign x=>simp only[ZcN,e x (fun t ht=>by simpa [ZaO] using ht)]
 |pick c a b=>simp only[ZcN,e c (fun t ht=>by simp[ZaO,ht]),e a (fun t ht=>by simp[ZaO,ht]),e b (fun t ht=>by simp[ZaO,ht])]
 |alloc t=>simp only[ZcN]
 |box t x=>simp only[ZcN,e x (fun t ht=>by simpa [ZaO] using ht)]
 |build t ps=>simp only[ZcN,ZeG ps.toList (fun t ht=>h t (by simpa [ZaO] using ht))]
 |buildSlice t n ps=>obtain rfl:=hG rfl;simp only[ZcN,ZeG ps.toList (fun t ht=>h t (by simpa [ZaO] using ht))]
 |load t a=>obtain rfl:=hG rfl;simp only[ZcN,e a (fun t ht=>by simpa [ZaO] using ht)]
 |store t a x=>obtain rfl:=hG rfl;simp only[ZcN,e a (fun t ht=>by simp[ZaO,ht]),e x (fun t ht=>by simp[ZaO,ht])]
 |nilCheck x=>simp only[ZcN,e x (fun t ht=>by simpa [ZaO] using ht)]
 |binOp op t x y t'=>simp only[ZcN,e x (fun t ht=>by simp[ZaO,ht]),e y (fun t ht=>by simp[ZaO,ht])]
 |unOp op t x=>simp only[ZcN,e x (fun t ht=>by simpa [ZaO] using ht)]
 |convert s d x=>obtain rfl:=hG rfl;simp only[ZcN,e x (fun t ht=>by simpa [ZaO] using ht)]
 |makeFunc f a b=>simp only[ZcN,Zet a.toList (fun t ht=>h t (by simp only[ZaO,List.mem_append];exact .inl ht)),Zet b.toList (fun t ht=>h t (by simp only[ZaO,List.mem_append];exact .inr ht))]
 |makeSlice t l c=>simp only[ZcN,e l (fun t ht=>by simp[ZaO,ht]),e c (fun t ht=>by simp[ZaO,ht])]
 |slice t x lo hi mx=>
  obtain rfl:=hG rfl
  have ex:=e x (fun t ht=>by simp[ZaO,ht])
  cases lo with
  |none=>
   cases hi with
   |none=>cases mx<;>simp only[ZcN,ex]
   |some hi=>
    have eh:=e hi (fun t ht=>by simp[ZaO,Zr7,ht])
    cases mx with
    |none=>simp only[ZcN,ex,eh]
    |some mx=>simp only[ZcN,ex,eh,e mx (fun t ht=>by simp[ZaO,Zr7,ht])]
  |some lo=>
   have el:=e lo (fun t ht=>by simp[ZaO,Zr7,ht])
   cases hi with
   |none=>cases mx<;>simp only[ZcN,ex,el]
   |some hi=>
    have eh:=e hi (fun t ht=>by simp[ZaO,Zr7,ht])
    cases mx with
    |none=>simp only[ZcN,ex,eh,el]
    |some mx=>simp only[ZcN,ex,eh,el,e mx (fun t ht=>by simp[ZaO,Zr7,ht])]
 |fieldAddr t x f=>simp only[ZcN,e x (fun t ht=>by simpa [ZaO] using ht)]
 |field t x f=>simp only[ZcN,e x (fun t ht=>by simpa [ZaO] using ht)]
 |indexAddr t x i=>simp only[ZcN,e x (fun t ht=>by simp[ZaO,ht]),e i (fun t ht=>by simp[ZaO,ht])]
 |index t x i=>simp only[ZcN,e x (fun t ht=>by simp[ZaO,ht]),e i (fun t ht=>by simp[ZaO,ht])]
 |extract x i=>simp only[ZcN,e x (fun t ht=>by simpa [ZaO] using ht)]
 |sliceToArrayPointer t x=>simp only[ZcN,e x (fun t ht=>by simpa [ZaO] using ht)]
 |makeInterface t x=>simp only[ZcN,e x (fun t ht=>by simpa [ZaO] using ht)]
 |call c=>
  obtain⟨callee,args,ats⟩:=c
  cases callee with
  |builtin b=>
   have ea:=Zet args.toList (fun t ht=>h t (by simp only[ZaO,List.mem_append];exact .inr ht))
   cases b with
   |len=>simp only[ZcN,ea,ZcC]
   |max=>simp only[ZcN,ea,ZcC]
   |min=>simp only[ZcN,ea,ZcC]
   |_=>obtain rfl:=hG rfl;simp only[ZcN,ea]
  |_=>rfl
 |_=>rfl
theorem ZdU {c:Call} (h:∀ t∈ZaO (.call c),tm t=tm' t):callee tm c=callee tm' c:=by
 obtain⟨cal,args,ats⟩:=c
 have ea:=Zet args.toList (fun t ht=>h t (by simp only[ZaO,List.mem_append];exact .inr ht))
 cases cal with
 |value f=>
  have ef:opv tm f=opv tm' f:=ZgG fun t ht=>h t (by simp only[ZaO,List.mem_append];exact .inl ht)
  simp only[callee,ef,ea]
 |_=>rfl
end
def Zgj:AV→List (Nat×Nat)
 |.ptr l k _=>[(l,k)]
 |.eptr l k _ _ _ _=>[(l,k)]
 |.loc l k _ _ _ _=>[(l,k)]
 |.inn l k _ _ _=>[(l,k)]
 |x=>x.refs
def ZlD:List AV→List (Nat×Nat)
 |[]=>[]
 |x::l=>Zgj x++ZlD l
def Zmv:AV→Option (List (Nat×Nat))
 |.ptr l k _=>if l=0 then some [(0,k)] else none
 |_=>none
def Zmy (tm:Tm):Op→Option (List (Nat×Nat))
 |.store _ a _=>(opv tm a).bind Zmv
 |.load _ a=>(opv tm a).map Zgj
 |.buildSlice _ _ ps=>(ZcI tm ps.toList).map ZbH
 |.slice _ x _ _ _=>(opv tm x).map Zgj
 |.convert _ _ x=>(opv tm x).map Zgj
 |.call c=>match c.callee with
  |.builtin .append=>(Zlk tm c.args.toList).map ZlD
  |.builtin .len|.builtin .max|.builtin .min=>some []
  |_=>none
 |o=>if Znq o then none else some []
theorem Zd5 {G:Get}{ks:List (Nat×Nat)}{l k:Nat} (h:(l,k)∈ks):only G ks l k=G l k:=by
 unfold only;rw[if_pos (by simpa using h)]
mutual
theorem frz_only {G:Get}{ks:List (Nat×Nat)}:∀ (x y:AV),x.frz G=some y→(∀ p∈x.refs,p∈ks)→x.frz (only G ks)=some y
 |.loc l k e i n g,y,h,hk=>by
  simp only[AV.frz]at h ⊢
  rw[Zd5 (hk (l,k) (by simp[AV.refs]))];exact h
 |.nil,y,h,_=>by simpa [AV.frz] using h
 |.ifc t v,y,h,hk=>by
  simp only[AV.frz,mS]at h ⊢
  obtain⟨a,h1,h2⟩:=h
  exact⟨a,frz_only v a h1 (by simpa only [AV.refs] using hk),h2⟩
 |.agg cs,y,h,hk=>by
  simp only[AV.frz,mS]at h ⊢
  obtain⟨a,h1,h2⟩:=h
  exact⟨a,frzL_only cs a h1 (by simpa only [AV.refs] using hk),h2⟩
 |.tup vs,y,h,hk=>by
  simp only[AV.frz,mS]at h ⊢
  obtain⟨a,h1,h2⟩:=h
  exact⟨a,frzL_only vs a h1 (by simpa only [AV.refs] using hk),h2⟩
 |.bool b,y,h,_=>by simpa [AV.frz] using h
 |.int k n,y,h,_=>by simpa [AV.frz] using h
 |.str s,y,h,_=>by simpa [AV.frz] using h
 |.sl e es,y,h,_=>by simpa [AV.frz] using h
 |.pnil,y,h,_=>by simpa [AV.frz] using h
 |.fnil,y,h,_=>by simpa [AV.frz] using h
 |.inil,y,h,_=>by simpa [AV.frz] using h
 |.fn f a b,y,h,hk=>by
  simp only[AV.frz]at h ⊢
  split at h
  ·rename_i x z hx hz
   obtain rfl:=oi h
   simp only[AV.refs,List.mem_append]at hk
   simp only[frzL_only a x hx (fun p hp=>hk p (.inl hp)),frzL_only b z hz (fun p hp=>hk p (.inr hp))]
  ·cases h
 |.inn ..,y,h,_=>by simp[AV.frz]at h
 |.ptr ..,y,h,_=>by simp[AV.frz]at h
 |.eptr ..,y,h,_=>by simp[AV.frz]at h
 |.rptr ..,y,h,_=>by simpa [AV.frz] using h
 |.dead,y,h,_=>by simp[AV.frz]at h
theorem frzL_only {G:Get}{ks:List (Nat×Nat)}:∀ (l ys:List AV),AV.frzL G l=some ys→(∀ p∈AV.refsL l,p∈ks)→AV.frzL (only G ks) l=some ys
 |[],ys,h,_=>by simpa [AV.frzL] using h
 |x::l,ys,h,hk=>by
  simp only[AV.frzL]at h ⊢
  simp only[AV.refsL,List.mem_append]at hk
  split at h
  ·rename_i a b ha hb
   obtain rfl:=oi h
   simp only[frz_only x a ha (fun p hp=>hk p (.inl hp)),frzL_only l b hb (fun p hp=>hk p (.inr hp))]
  ·cases h
end
theorem ZeR {G:Get}{ks:List (Nat×Nat)}:∀ (l:List (Nat×AV)) (cs:List (Nat×List AV)),Zbf G l=some cs→(∀ p∈ZbH l,p∈ks)→Zbf (only G ks) l=some cs
 |[],cs,h,_=>by simpa [Zbf] using h
 |(i,v)::l,cs,h,hk=>by
  simp only[Zbf]at h ⊢
  simp only[ZbH,List.mem_append]at hk
  split at h
  ·rename_i vc hvc
   split at h
   ·rename_i a b ha hb
    have hrefs:AV.refsL vc=v.refs:=by
     cases v<;>simp only[AV.cells,oE]at hvc<;>first|(subst hvc;simp[AV.refsL,AV.refs];done)|(cases hvc)
    rw[frzL_only vc a ha (fun p hp=>hk p (.inl (by rw[←hrefs];exact hp))),ZeR l b hb (fun p hp=>hk p (.inr hp))]
    exact h
   ·cases h
  ·cases h
theorem Zht {G:Get}{ks:List (Nat×Nat)}{sz:Nat}{x:AV} (hk:∀ p∈Zgj x,p∈ks):ZbT (only G ks) sz x=ZbT G sz x:=by
 cases x with
 |loc l k e i n g=>simp only[ZbT];rw[Zd5 (hk (l,k) (by simp[Zgj]))]
 |inn l k e o n=>simp only[ZbT];rw[Zd5 (hk (l,k) (by simp[Zgj]))]
 |_=>rfl
theorem Ztl {T:Tys}{kb:Nat}{tm:Tm}{G:Get}{o:Op}{ty:TypeId}{d:De}{ks:List (Nat×Nat)} (h:ZcN T kb o ty tm G=some d) (hr:Zmy tm o=some ks):ZcN T kb o ty tm (only G ks)=some d:=by
 have other:Znq o=false→ZcN T kb o ty tm (only G ks)=some d:=fun hh=>by rw[←h];exact ZiW (fun _ _=>rfl) (fun e=>by rw[hh]at e;cases e)
 have dflt:(if Znq o=true then none else some [])=some ks→ZcN T kb o ty tm (only G ks)=some d:=by
  intro e
  cases hh:Znq o with
  |true=>rw[hh]at e;simp at e
  |false=>exact other hh
 cases o with
 |load t a=>
  simp only[Zmy,mS]at hr
  obtain⟨x,hx,rfl⟩:=hr
  simp only[ZcN,hx]at h ⊢
  split at h
  ·rename_i ti x' ht hx'
   obtain rfl:=oi hx'
   rw[←h]
   congr 1
   unfold ZfO
   congr 1
   cases x<;>simp only[cellsAt,Zgj]<;>rw[Zd5 (by simp)]
  ·cases h
 |store t a x=>
  simp only[Zmy,Option.bind_eq_some_iff]at hr
  obtain⟨y,hy,hr⟩:=hr
  cases y with
  |ptr l k o=>
   simp only[Zmv]at hr
   split at hr
   ·rename_i hl
    subst hl
    obtain rfl:=oi hr
    rw[←h]
    simp only[ZcN,hy]
    cases T t with
    |none=>rfl
    |some ti=>
     cases opv tm x with
     |none=>rfl
     |some xv=>
      simp only
      cases xv.cells with
      |none=>rfl
      |some cs=>
       simp only[Zfi]
       rw[Zd5 (by simp)]
       split
       ·split
        ·split
         ·rfl
         ·rfl
        ·rfl
       ·rfl
   ·cases hr
  |_=>simp[Zmv]at hr
 |buildSlice t n ps=>
  simp only[Zmy,mS]at hr
  obtain⟨x,hx,rfl⟩:=hr
  simp only[ZcN,hx]at h ⊢
  split at h
  ·rename_i ti x' ht hx'
   obtain rfl:=oi hx'
   unfold ZbL at h ⊢
   split at h
   ·split at h
    ·rename_i hc
     simp only[hc,and_self,if_true]
     split at h
     ·rename_i cs hcs
      rw[ZeR _ _ hcs (fun _ h=>h)]
      exact h
     ·cases h
    ·cases h
   ·cases h
  ·cases h
 |convert s d x=>
  simp only[Zmy,mS]at hr
  obtain⟨x1,hx,rfl⟩:=hr
  have hcv:∀ si di:TI,Zgy T (only G (Zgj x1)) si di x1=Zgy T G si di x1:=by
   intro si di
   unfold Zgy
   rw[Zht (x:=x1) (fun p hp=>hp)]
  rw[←h]
  simp only[ZcN,hx]
  cases T s with
  |none=>rfl
  |some si=>cases T d with
   |none=>rfl
   |some di=>simp only[hcv]
 |slice t x lo hi mx=>
  simp only[Zmy,mS]at hr
  obtain⟨x1,hx,rfl⟩:=hr
  have hbe:∀ (ti:TI) (lo hi:AV),ZcQ (only G (Zgj x1)) ti x1 lo hi=ZcQ G ti x1 lo hi:=by
   intro ti lo hi
   cases x1 with
   |loc l k e i n g=>simp only[ZcQ];rw[Zd5 (by simp[Zgj])]
   |_=>rfl
  rw[←h]
  cases mx with
  |some mx=>cases lo<;>cases hi<;>rfl
  |none=>
   cases lo with
   |none=>cases hi<;>rfl
   |some lo=>
    cases hi with
    |none=>rfl
    |some hi=>
     simp only[ZcN,hx]
     cases T t with
     |none=>rfl
     |some ti=>
      simp only
      split
      ·rw[hbe]
      ·rfl
 |call c=>
  obtain⟨cal,args,ats⟩:=c
  cases cal with
  |builtin b=>
   cases b with
   |append=>
    simp only[Zmy,mS]at hr
    obtain⟨xs,hx,rfl⟩:=hr
    simp only[ZcN,hx]at h ⊢
    rw[←h]
    unfold ZcC
    split
    ·rfl
    ·split
     ·rfl
     ·simp only
      split
      ·rename_i xs0 s x
       split
       ·unfold ZbO
        split
        ·rw[Zht (x:=x) (by intro p hp;simp[ZlD,hp])]
         split
         ·cases s with
          |loc l k e i n g=>simp only;rw[Zd5 (by simp[ZlD,Zgj])]
          |_=>rfl
         ·rfl
        ·rfl
       ·unfold Zfg
        split
        ·split
         ·split
          ·split
           ·unfold ZbO
            split
            ·simp only[ZbT]
             split
             ·cases s with
              |loc l k e i n g=>simp only;rw[Zd5 (by simp[ZlD,Zgj])]
              |_=>rfl
             ·rfl
            ·rfl
           ·rfl
          ·rfl
         ·rfl
        ·split
         ·split
          ·unfold Zep
           split
           ·unfold ZbO
            split
            ·simp only[ZbT]
             split
             ·cases s with
              |loc l k e i n g=>simp only;rw[Zd5 (by simp[ZlD,Zgj])]
              |_=>rfl
             ·rfl
            ·rfl
           ·rfl
          ·rfl
         ·rfl
        ·rfl
      ·rfl
   |len=>exact other rfl
   |max=>exact other rfl
   |min=>exact other rfl
   |_=>simp[Zmy]at hr
  |_=>simp[Zmy]at hr
 |_=>exact dflt hr
def Zcv:St→List SOp→List De→Nat→St
 |st,o::os,d::ds,i+1=>Zcv (st.by o.dst [] d) os ds i
 |st,_,_,_=>st
theorem ZfC (st:St) (ops:List SOp) (ds:List De):Zcv st ops ds 0=st:=by
 cases ops<;>cases ds<;>rfl
theorem Zm6 (st:St) (ops:List SOp) (ds:List De) (hl:ds.length=ops.length):∀ i,i≤ops.length→
  (Zcv st ops ds i).fr::(Zcv st ops ds i).low=Zam.puts (st.fr::st.low) (Za2 ds (List.range i))∧(Zcv st ops ds i).nx=st.nx+16*i∧(Zcv st ops ds i).nt=st.nt∧
  (Zcv st ops ds i).tm=ZeA ops ds (List.range i) st.tm:=by
 have key:∀ (ops:List SOp) (ds:List De) (st:St),ds.length=ops.length→∀ i o d,i<ops.length→ops[i]?=some o→ds[i]?=some d→Zcv st ops ds (i+1)=(Zcv st ops ds i).by o.dst [] d:=by
  intro ops
  induction ops with
  |nil=>intro ds st hl i o d hi;simp at hi
  |cons o' os ih=>
   intro ds st hl i o d hi ho hd
   cases ds with
   |nil=>simp at hl
   |cons d' ds=>
    cases i with
    |zero=>simp at ho hd;subst ho hd;simp[Zcv,ZfC]
    |succ i=>
     simp only[List.getElem?_cons_succ]at ho hd
     simp only[Zcv]
     exact ih ds _ (by simpa using hl) i o d (by simpa using hi) ho hd
 intro i
 induction i with
 |zero=>intro _;simp[ZfC,Za2,Zam.puts,ZeA]
 |succ i ih=>
  intro hi
  obtain⟨h1,h2,h3,h4⟩:=ih (by omega)
  have ho:ops[i]?=some ops[i]:=gG (by omega)
  have hd:ds[i]?=some ds[i]:=gG (by omega)
  have hk:=key ops ds st hl i _ _ (by omega) ho hd
  obtain⟨f',H',hp⟩:=Zev (Zcv st ops ds i).fr (Zcv st ops ds i).low (ds[i]).sets
  have hb:Zcv st ops ds (i+1)={ Zcv st ops ds i with tm:=ZhB (Zcv st ops ds i).tm (ops[i]).dst (ds[i]).val,nx:=(Zcv st ops ds i).nx+16,fr:=f',low:=H' }:=by
   rw[hk];unfold St.by;rw[hp];rfl
  have es:∀ (l:List Nat) (m:List Nat),Za2 ds (l++m)=Za2 ds l++Za2 ds m:=by
   intro l m;induction l with
   |nil=>rfl
   |cons a l ih=>simp[Za2,ih]
  have et:∀ (l:List Nat) (j:Nat) (tm:List (Nat×AV)),ZeA ops ds (l++[j]) tm=(match ds[j]? with|some d=>ZhB (ZeA ops ds l tm) (Zb3 ops j) d.val|none=>ZeA ops ds l tm):=by
   intro l;induction l with
   |nil=>intro j tm;rfl
   |cons a l ih=>intro j tm;simp only[List.cons_append,ZeA,ih]
  rw[hb]
  refine⟨?_,by simp only[h2];omega,h3,?_⟩
  ·simp only
   rw[List.range_succ,es,Zam.puts_append,←h1,←hp]
   simp[Za2,Zbn,hd]
  ·simp only
   rw[List.range_succ,et,hd,←h4]
   simp[Zb3,ho]
def Zu4 (ops:List SOp) (befs:List (List Nat)) (i:Nat) (t:Nat):Bool:=
 (List.range ops.length).all fun j=>!(decide (Zb3 ops j=some t)) || ((ZaW befs i).contains j || (ZaW befs j).contains i)
abbrev Rd:=Option (List (Nat×Nat))
def Zgf (r:Rd) (s:Zjm):Bool:=match r with
 |none=>s.isEmpty
 |some ks=>s.all fun p=>!ks.contains (p.1,p.2.1)
def ZnA (ops:List SOp) (befs:List (List Nat)) (ds:List (De×Rd)):Bool:=
 decide (ds.length=ops.length)&&ZkI ops&&ZhS 0 befs&&Ze1 befs (ds.map (·.1)) ops.length&&
 (List.range ops.length).all fun i=>match ops[i]?,ds[i]? with
  |some o,some d=>(Zu3 o).all (Zu4 ops befs i)&&((List.range ops.length).all fun j=>!ZjN befs i j || ((ds[j]?).map fun x=>Zgf d.2 x.1.sets).getD true)
  |_,_=>false
section
variable [Md] {P:Program}{T:Tys}{n:Nat}{Φ:Exit→St→Prop}
theorem Eff.mono {kb:Nat}{o:SOp}{tm:Tm}{G G':Get}{d:De} (hG:GLe G G') (h:Eff P T kb o tm G d):Eff P T kb o tm G' d:=by
 cases h with
 |op hc h=>exact .op hc (ZkJ (fun _ _ h=>h) hG h)
 |call c f args fargs hc h hp hz hr hs=>exact .call c f args fargs hc h hp (frzL_mono hG _ _ hz) hr hs
 |lent m c f args fargs hc h hp hz hr hs=>exact .lent m c f args fargs hc h hp ((Zga hG (Zeo hG (fun _ _ _ _ _ _ _ hh=>frz_mono hG _ _ hh) m) (fun _ _ _ _ _ _ _ hh=>frz_mono hG _ _ hh)).2 _ _ hz) hr hs
 |glent m c f args fargs fr y hc h hp hz hy hf hd=>exact .glent m c f args fargs fr y hc h hp ((Zga hG (Zeo hG (fun _ _ _ _ _ _ _ hh=>frz_mono hG _ _ hh) m) (fun _ _ _ _ _ _ _ hh=>frz_mono hG _ _ hh)).2 _ _ hz) hy hf hd
 |give rs gs c f args args0 fr0 fr y hc h hp hz hg hnd hd=>
  have hGp:∀ l k b,only (ZfI G) (rs.map fun k=>(1,k)) l k=some b→only (ZfI G') (rs.map fun k=>(1,k)) l k=some b:=by
   intro l k b e
   unfold only at e ⊢
   split at e
   ·rename_i hm
    rw[if_pos hm]
    cases l with
    |zero=>simp[ZfI]at e
    |succ l=>exact hG l k b e
   ·cases e
  have hloc:∀ (l k e i0 n g:Nat) (y:AV),(AV.loc l k e i0 n g).frz (only (ZfI G) (rs.map fun k=>(1,k)))=some y→(AV.loc l k e i0 n g).frz (only (ZfI G') (rs.map fun k=>(1,k)))=some y:=
   fun _ _ _ _ _ _ _ hh=>frz_mono hGp _ _ hh
  exact .give rs gs c f args args0 fr0 fr y hc h hp (Zj7 (gs:=gs) (Zga hGp (Zeo hGp hloc 5) hloc).1 _ _ hz) (Zha hG gs 0 fr0 hg) hnd hd
theorem ZnH.congr {kb:Nat}{o:SOp}{tm tm':Tm}{G:Get}{d:De} (h:∀ t∈Zu3 o,tm t=tm' t) (he:ZnH P T kb o tm G d):ZnH P T kb o tm' G d:=by
 have hu:∀ t∈ZaO o.op,tm t=tm' t:=fun t ht=>h t (by simp only[Zu3,List.mem_append];exact .inr ht)
 have hg:∀ g w,o.guard=some (g,w)→tm g=tm' g:=fun g w hh=>h g (by simp[Zu3,hh])
 rcases he with ⟨hgo,he⟩|⟨⟨g,w,hh,hc⟩,hd⟩
 ·refine .inl ⟨?_,?_⟩
  ·rcases hgo with hgo|⟨g,w,b,hh,h1,h2⟩
   ·exact .inl hgo
   ·exact .inr ⟨g,w,b,hh,by rw[←hg g w hh];exact h1,h2⟩
  ·cases he with
   |op hc he=>exact .op hc (by rw[←ZiW hu (fun _=>rfl)];exact he)
   |call c f args fargs hc h hp hz hr hs=>
    have hoc:o.op=.call c:=by
     unfold ZcM at hc
     split at hc
     ·split at hc
      ·cases hc
      ·obtain rfl:=oi hc;assumption
     ·cases hc
    exact .call c f args fargs hc (by rw[←ZdU (by rw[←hoc];exact hu)];exact h) hp hz hr hs
   |lent m c f args fargs hc h hp hz hr hs=>
    have hoc:o.op=.call c:=by
     unfold ZcM at hc
     split at hc
     ·split at hc
      ·cases hc
      ·obtain rfl:=oi hc;assumption
     ·cases hc
    exact .lent m c f args fargs hc (by rw[←ZdU (by rw[←hoc];exact hu)];exact h) hp hz hr hs
   |glent m c f args fargs fr y hc h hp hz hy hf hd=>
    have hoc:o.op=.call c:=by
     unfold ZcM at hc
     split at hc
     ·split at hc
      ·cases hc
      ·obtain rfl:=oi hc;assumption
     ·cases hc
    exact .glent m c f args fargs fr y hc (by rw[←ZdU (by rw[←hoc];exact hu)];exact h) hp hz hy hf hd
   |give rs gs c f args args0 fr0 fr y hc h hp hz hg hnd hd=>
    have hoc:o.op=.call c:=by
     unfold ZcM at hc
     split at hc
     ·split at hc
      ·cases hc
      ·obtain rfl:=oi hc;assumption
     ·cases hc
    exact .give rs gs c f args args0 fr0 fr y hc (by rw[←ZdU (by rw[←hoc];exact hu)];exact h) hp hz hg hnd hd
 ·refine .inr ⟨⟨g,w,hh,?_⟩,hd⟩
  rw[←hg g w hh];exact hc
def Zp9 (P:Program) (T:Tys) (kb:Nat) (o:SOp) (tm:Tm) (G:Get) (d:De×Rd):Prop:=
 ZnH P T kb o tm (match d.2 with|none=>G|some ks=>only G ks) d.1
inductive Steps (P:Program) (T:Tys):St→List SOp→List (De×Rd)→Prop
 |nil (st:St):Steps P T st [] []
 |cons (st:St) (o:SOp) (os:List SOp) (d:De×Rd) (ds:List (De×Rd)) (h:Zp9 P T st.nx o (look st.tm) st.get d) (hs:Steps P T (st.by o.dst [] d.1) os ds):Steps P T st (o::os) (d::ds)
theorem Steps.at {st:St}{ops:List SOp}{ds:List (De×Rd)} (h:Steps P T st ops ds):∀ i o d,ops[i]?=some o→ds[i]?=some d→
  Zp9 P T (Zcv st ops (ds.map (·.1)) i).nx o (look (Zcv st ops (ds.map (·.1)) i).tm) (Zcv st ops (ds.map (·.1)) i).get d:=by
 induction h with
 |nil st=>intro i o d ho;simp at ho
 |cons st o os d ds h hs ih=>
  intro i o' d' ho hd
  cases i with
  |zero=>simp at ho hd;subst ho hd;rw[ZfC];exact h
  |succ i=>
   simp only[List.getElem?_cons_succ]at ho hd
   simp only[List.map_cons,Zcv]
   exact ih i o' d' ho hd
theorem Steps.length {st:St}{ops:List SOp}{ds:List (De×Rd)} (h:Steps P T st ops ds):ds.length=ops.length:=by
 induction h with
 |nil=>rfl
 |cons _ _ _ _ _ _ _ ih=>simp[ih]
theorem Zic:∀ (ks:List Nat) (l:List (Nat×AV)) (t:Nat),look (Ze6 l ks) t=if t∈ks then none else look l t
 |[],l,t=>by simp[Ze6]
 |k::ks,l,t=>by
  simp only[Ze6,Zic ks,ZgA,List.mem_cons]
  by_cases h1:t∈ks
  ·simp[h1]
  ·by_cases h2:k=t
   ·simp[h2]
   ·simp[h1,h2,Ne.symm h2]
theorem Zmj {ops:List SOp}{befs:List (List Nat)}{st:St} (ds:List (De×Rd)) (hs:Steps P T st ops ds) (hc:ZnA ops befs ds=true):
  ∀ i s d,ops[i]?=some s→(ds.map (·.1))[i]?=some d→ZnH P T (st.nx+16*i) s (look (Zh7 ops befs (ds.map (·.1)) st.tm i)) (Zam.get (Znf ops befs (ds.map (·.1)) (st.fr::st.low) i)) d:=by
 obtain⟨ds',hds'⟩:∃ ds',ds.map (·.1)=ds':=⟨_,rfl⟩
 have hl:=hs.length
 have hl':ds'.length=ops.length:=by rw[←hds'];simp[hl]
 simp only[ZnA,Bool.and_eq_true,decide_eq_true_eq,hds']at hc
 obtain⟨⟨⟨⟨_,h1⟩,hbl⟩,hap⟩,hall⟩:=hc
 have hO:=ZgE ops h1
 have hB:=Zf6 befs 0 hbl
 have hdx:∀ i,i<ops.length→∃ d,ds[i]?=some d∧ds'[i]?=some d.1:=by
  intro i hi
  obtain⟨x,h2⟩:∃ x,ds[i]?=some x:=⟨_,gG (by omega)⟩
  refine⟨x,h2,?_⟩
  have h3:(ds.map (·.1))[i]?=some x.1:=by rw[List.getElem?_map,h2];rfl
  rw[hds']at h3;exact h3
 rw[hds']
 intro i s d hi hd
 have hil:i<ops.length:=(gS.1 hi).1
 obtain⟨dd,h2,h3⟩:=hdx i hil
 rw[hd]at h3
 obtain rfl:=oi h3
 have hE:=hs.at i s dd hi h2
 rw[hds']at hE
 obtain⟨f1,f2,f3,f4⟩:=Zm6 st ops ds' hl' i (by omega)
 rw[f2]at hE
 simp only[List.all_eq_true,List.mem_range]at hall
 have hci:=hall i hil
 rw[hi,h2]at hci
 simp only[Bool.and_eq_true,List.all_eq_true]at hci
 obtain⟨hu,hh⟩:=hci
 have hdst:∀ j t,Zb3 ops j=some t→j<ops.length:=by
  intro j t hj
  unfold Zb3 at hj
  cases ho:ops[j]? with
  |none=>rw[ho]at hj;cases hj
  |some o=>exact(gS.1 ho).1
 have htm:∀ t∈Zu3 s,look (Zcv st ops ds' i).tm t=look (Zh7 ops befs ds' st.tm i) t:=by
  intro t ht
  rw[f4]
  have hut:=hu t ht
  simp only[Zu4,List.all_eq_true,List.mem_range,Bool.or_eq_true,Bool.not_eq_true',decide_eq_false_iff_not]at hut
  unfold Zh7
  by_cases hex:∃ j,Zb3 ops j=some t
  ·obtain⟨j,hj⟩:=hex
   have hjl:=hdst j t hj
   have hor:(ZaW befs i).contains j=true∨(ZaW befs j).contains i=true:=by
    rcases hut j hjl with h|h
    ·exact absurd hj h
    ·exact h
   by_cases hjb:(ZaW befs i).contains j=true
   case neg=>
    have hij:=hB j i (by simpa using hor.resolve_left hjb)
    have hno:∀ L:List Nat,j∉L→∀ k∈L,Zb3 ops k≠some t:=by
     intro L hjL k hk hkt
     have:=hO j k t hj hkt
     subst this
     exact hjL hk
    rw[ZbQ ops ds' t _ _ (hno _ (by simp;omega)),ZbQ ops ds' t _ _ (hno _ (by intro hm;exact hjb (Zch.1 hm).2)),Zic,if_neg]
    intro hm
    obtain⟨k,hk,hkt⟩:=List.mem_filterMap.1 hm
    have:=hO j k t hj hkt
    subst this
    have:=(Zch.1 hk).2
    rw[hor.resolve_left hjb]at this
    cases this
   have hji:=hB i j (by simpa using hjb)
   obtain⟨dj,_,hdj⟩:=hdx j hjl
   rw[ZdW ops ds' hO hj hdj _ _ (List.mem_range.2 (by omega)),ZdW ops ds' hO hj hdj _ _ (Zch.2 ⟨hjl,hjb⟩)]
  ·have hno:∀ (L:List Nat),∀ j∈L,Zb3 ops j≠some t:=fun L j _ hj=>hex ⟨j,hj⟩
   rw[ZbQ ops ds' t _ _ (hno _),ZbQ ops ds' t _ _ (hno _),Zic,if_neg]
   intro hm
   obtain⟨j,_,hj⟩:=List.mem_filterMap.1 hm
   exact hex ⟨j,hj⟩
 simp only[List.all_eq_true,List.mem_range,Bool.or_eq_true,Bool.not_eq_true']at hh
 have hfar:∀ j,j<ops.length→ZjN befs i j=true→Zgf dd.2 (Zbn ds' j)=true:=by
  intro j hj hun
  obtain⟨dj,hdj,hdj'⟩:=hdx j hj
  rcases hh j hj with h|h
  ·rw[hun]at h;cases h
  ·rw[hdj]at h
   simpa [Zbn,hdj'] using h
 have hG:∀ l k,(∀ ks,dd.2=some ks→(l,k)∈ks)→(Zcv st ops ds' i).get l k=Zam.get (Znf ops befs ds' (st.fr::st.low) i) l k:=by
  intro l k hlk
  have hnot:∀ j,j<ops.length→ZjN befs i j=true→∀ p∈Zbn ds' j,¬ (p.1=l∧p.2.1=k):=by
   intro j hj hun p hp hpe
   have:=hfar j hj hun
   unfold Zgf at this
   split at this
   ·rw[List.isEmpty_iff]at this;rw[this]at hp;cases hp
   ·rename_i ks hks
    have h1:=List.all_eq_true.1 this p hp
    have h2:=hlk ks hks
    rw[hpe.1,hpe.2]at h1
    simp[h2]at h1
  unfold St.get Znf
  rw[f1,ZeD,ZeD]
  have g1:Zfw (gone (Za2 ds' (ZeW ops.length (ZjN befs i)))) l k=none:=by
   apply ZgN
   intro x hx
   obtain⟨y,hy,rfl⟩:=List.mem_map.1 hx
   obtain⟨j,hj,hyj⟩:=(Zgm _).1 hy
   exact fun hh=>hnot j (Zch.1 hj).1 (Zch.1 hj).2 y hyj hh
  rw[g1]
  simp only
  rw[ZeD]
  have g2:Zfw (Za2 ds' (List.range i)) l k=Zfw (Za2 ds' (ZeW ops.length fun j=>(ZaW befs i).contains j)) l k:=by
   have k2:List.range i=(List.range ops.length).filter fun j=>decide (j<i):=by
    have:∀ (m k:Nat),k≤m→List.range k=(List.range m).filter fun j=>decide (j<k):=by
     intro m
     induction m with
     |zero=>
      intro k hk
      have:k=0:=by omega
      subst this;rfl
     |succ m ih=>
      intro k hk
      by_cases hkm:k=m+1
      ·subst hkm
       symm
       rw[List.filter_eq_self]
       intro j hj;simpa using hj
      ·rw[List.range_succ,List.filter_append,←ih k (by omega)]
       have:¬ m<k:=by omega
       simp[this]
    exact this _ _ (by omega)
   rw[k2]
   symm
   unfold ZeW
   refine Zfx (ds:=ds') (l:=l) (k:=k) (fun j=>(ZaW befs i).contains j) (fun j=>decide (j<i)) ?_ (List.range ops.length) ?_
   ·intro j hj
    have:=hB i j (by simpa using hj)
    simp;omega
   ·intro j hj hji hnb s hs
    simp only[decide_eq_true_eq]at hji
    refine hnot j (List.mem_range.1 hj) ?_ s hs
    unfold ZjN
    have hn2:(ZaW befs j).contains i=false:=by
     cases hx:(ZaW befs j).contains i with
     |false=>rfl
     |true=>have:=hB j i (by simpa using hx);omega
    rw[hnb,hn2]
    have:j≠i:=by omega
    simp[this]
  rw[g2]
 have hE':=ZnH.congr htm hE
 have hle:GLe (match dd.2 with|none=>(Zcv st ops ds' i).get|some ks=>only (Zcv st ops ds' i).get ks) (Zam.get (Znf ops befs ds' (st.fr::st.low) i)):=by
  intro l k b hb
  cases hd2:dd.2 with
  |none=>
   rw[hd2]at hb
   simp only at hb
   rw[←hG l k (by intro ks e;rw[hd2]at e;cases e)];exact hb
  |some ks=>
   rw[hd2]at hb
   simp only[only]at hb
   split at hb
   ·rename_i hm
    rw[←hG l k (by intro ks' e;rw[hd2]at e;obtain rfl:=oi e;simpa using hm)];exact hb
   ·cases hb
 rcases hE' with ⟨a,b⟩|⟨a,b⟩
 ·exact .inl ⟨a,b.mono hle⟩
 ·exact .inr ⟨a,b⟩
theorem Zmk {ops:List SOp}{drop:List Nat}{todo:List It}{st:St} (ds':List De) (hl':ds'.length=ops.length)
  (hn:AK P n Φ todo { Zcv st ops ds' ops.length with tm:=Ze6 (Zcv st ops ds' ops.length).tm drop }):AK P n Φ todo (st.drawn ops ds' drop):=by
 obtain⟨e1,e2,e3,e4⟩:=Zm6 st ops ds' hl' ops.length (Nat.le_refl _)
 unfold St.drawn
 obtain⟨f',H',hp⟩:=Zev st.fr st.low (Za2 ds' (List.range ops.length))
 rw[hp]at e1 ⊢
 simp only[List.cons.injEq]at e1
 obtain⟨e5,e6⟩:=e1
 rw[ZlZ]
 simp only[e2,e3,e4,e5,e6]at hn
 exact hn
theorem ZnD (hT:ZaL P T) (hm:P.follows .mixedOrders=true) {ops:List SOp}{befs:List (List Nat)}{drop:List Nat}{todo:List It}{st:St} (ds:List (De×Rd)) (hs:Steps P T st ops ds) (hc:ZnA ops befs ds=true)
  (hn:AK P n Φ todo { Zcv st ops (ds.map (·.1)) ops.length with tm:=Ze6 (Zcv st ops (ds.map (·.1)) ops.length).tm drop }):ZbX P n Φ (.draw ops befs drop todo st):=by
 have hl:(ds.map (·.1)).length=ops.length:=by simp[hs.length]
 have hc':=hc
 simp only[ZnA,Bool.and_eq_true,decide_eq_true_eq]at hc'
 obtain⟨⟨⟨⟨_,h1⟩,hbl⟩,hap⟩,_⟩:=hc'
 exact ZnE hT hm _ hl h1 hbl hap (Zmj ds hs hc) (Zmk _ hl hn)
end
end Go.Abs
namespace Go.Abs
open Go Go.RowKit
set_option linter.unusedSectionVars false
theorem Za0.nl {P:Program}{f:FuncId}{zs args:List AV}{R:AV→Prop} (h:Za0 P f args R) (hn:NLs zs args):Za0 P f zs R:=
 ⟨h.1,fun fm w vs h1 h2=>h.2 fm w vs h1 (hn.ok h2)⟩
inductive EvD where
 |stuck
 |call (f:FuncId) (args:List AV) (o:SOp) (os:List SOp) (acc:List (De×Rd)) (st:St)
 |done (acc:List (De×Rd)) (st:St)
def Zpj:De×Rd:=(⟨.tup [],[]⟩,some [])
def Zt1 (f:List SOp→List (De×Rd)→St→EvD) (b:Bool) (os:List SOp) (acc:List (De×Rd)) (st:St) (os':List SOp) (acc':List (De×Rd)) (st':St):EvD:=
 match b with
 |true=>f os acc st
 |false=>f os' acc' st'
theorem Zpy (f:List SOp→List (De×Rd)→St→EvD) (os os':List SOp) (acc acc':List (De×Rd)) (st st':St):Zt1 f true os acc st os' acc' st'=f os acc st:=rfl
theorem Zn5 (f:List SOp→List (De×Rd)→St→EvD) (os os':List SOp) (acc acc':List (De×Rd)) (st st':St):Zt1 f false os acc st os' acc' st'=f os' acc' st':=rfl
def Ztb (f:List SOp→List (De×Rd)→St→EvD) (o:SOp) (os:List SOp) (acc:List (De×Rd)) (st:St):Option De→EvD
 |some d=>f os ((d,Zmy (look st.tm) o.op)::acc) (st.by o.dst [] d)
 |none=>.stuck
theorem Znt (f:List SOp→List (De×Rd)→St→EvD) (o:SOp) (os:List SOp) (acc:List (De×Rd)) (st:St) (d:De):Ztb f o os acc st (some d)=f os ((d,Zmy (look st.tm) o.op)::acc) (st.by o.dst [] d):=rfl
def ZsE (o:SOp) (os:List SOp) (acc:List (De×Rd)) (st:St):Option (FuncId×List AV)→EvD
 |some (f,args)=>.call f args o os acc st
 |none=>.stuck
theorem Znd (o:SOp) (os:List SOp) (acc:List (De×Rd)) (st:St) (f:FuncId) (args:List AV):ZsE o os acc st (some (f,args))=.call f args o os acc st:=rfl
def doD (T:Tys) (f:List SOp→List (De×Rd)→St→EvD) (o:SOp) (os:List SOp) (acc:List (De×Rd)) (st:St):EvD:=
 match ZcM o.op with
 |some c=>ZsE o os acc st (callee (look st.tm) c)
 |none=>Ztb f o os acc st (ZcN T st.nx o.op o.type (look st.tm) st.get)
def ZlN (T:Tys):Nat→List SOp→List (De×Rd)→St→EvD
 |0,_,_,_=>.stuck
 |_+1,[],acc,st=>.done acc st
 |n+1,o::os,acc,st=>match o.guard with
  |none=>doD T (ZlN T n) o os acc st
  |some (g,w)=>match look st.tm g with
   |some (.bool b)=>Zt1 (ZlN T n) (b==w) (⟨o.dst,o.op,o.type,none,o.drop⟩::os) acc st os (Zpj::acc) (st.by o.dst [] ⟨.tup [],[]⟩)
   |some (.tup [])=>ZlN T n os (Zpj::acc) (st.by o.dst [] ⟨.tup [],[]⟩)
   |_=>.stuck
section
variable [Md] {P:Program}{T:Tys}{n:Nat}{Φ:Exit→St→Prop}{C:List (De×Rd)→St→Prop}
def GD (P:Program) (T:Tys) (C:List (De×Rd)→St→Prop) (os:List SOp) (acc:List (De×Rd)) (st:St):Prop:=
 ∃ ds,Steps P T st os ds∧C (ds.reverse++acc) (Zcv st os (ds.map (·.1)) os.length)
def DG (P:Program) (T:Tys) (C:List (De×Rd)→St→Prop):EvD→Prop
 |.stuck=>False
 |.done acc st=>C acc st
 |.call f args o os acc st=>(∃ rs gs args0 fr0 fr y,Zb7 P f args0 fr0 (fun y' fr'=>y'=y∧fr'=fr)∧gvL gs (only (ZfI (only st.get ((gs++rs).map fun k=>(0,k)))) (rs.map fun k=>(1,k))) (boxF (only (ZfI (only st.get ((gs++rs).map fun k=>(0,k)))) (rs.map fun k=>(1,k))) 5) (AV.shL 1 args)=some args0∧
    ZiM (only st.get ((gs++rs).map fun k=>(0,k))) 0 gs=some fr0∧(decide (gs++rs).Nodup&&decide (gs.length≤16))=true∧GD P T C os ((⟨y.imp st.nx,Zg9 rs++(Zg9 gs++Zli st.nx fr)⟩,some ((gs++rs).map fun k=>(0,k)))::acc) (st.by o.dst [] ⟨y.imp st.nx,Zg9 rs++(Zg9 gs++Zli st.nx fr)⟩))∨
   (∃ m ks fargs fr y,Zb7 P f fargs [] (fun y' fr'=>y'=y∧fr'=fr)∧AV.brL (only st.get ks) (boxF (only st.get ks) m) args=some fargs∧y.lot=true∧ZqJ fr∧GD P T C os ((⟨y.imp st.nx,Zli st.nx fr⟩,some ks)::acc) (st.by o.dst [] ⟨y.imp st.nx,Zli st.nx fr⟩))∨∃ v fargs fl,Za0 P f fargs (fun y=>y=v)∧((AV.frzL st.get args=some fargs∧(AV.refsL args=[]∨v.scal=true)∧fl=some (AV.refsL args))∨(fl=none∧v.scal=true∧∃ m,AV.brL st.get (boxF st.get m) args=some fargs))∧
   GD P T C os ((⟨v,[]⟩,fl)::acc) (st.by o.dst [] ⟨v,[]⟩)
theorem GD.cons {o:SOp}{os:List SOp}{acc:List (De×Rd)}{st:St}{d:De×Rd} (h:Zp9 P T st.nx o (look st.tm) st.get d) (hg:GD P T C os (d::acc) (st.by o.dst [] d.1)):GD P T C (o::os) acc st:=by
 obtain⟨ds,h1,h2⟩:=hg
 exact⟨d::ds,.cons st o os d ds h h1,by simpa [Zcv] using h2⟩
theorem Zex:∀ (m:Nat) (os:List SOp) (acc:List (De×Rd)) (st:St),DG P T C (ZlN T m os acc st)→GD P T C os acc st:=by
 intro m
 induction m with
 |zero=>intro os acc st h;exact h.elim
 |succ m ih=>
  intro os acc st h
  cases os with
  |nil=>exact⟨[],.nil st,by simp only[ZlN,DG]at h;simpa [ZfC] using h⟩
  |cons o os=>
   have past:(Zu1 o (look st.tm))→DG P T C (ZlN T m os (Zpj::acc) (st.by o.dst [] ⟨.tup [],[]⟩))→GD P T C (o::os) acc st:=by
    intro hs h
    exact GD.cons (d:=Zpj) (by simp only[Zp9,Zpj];exact .inr ⟨hs,rfl⟩) (ih _ _ _ h)
   cases hg:o.guard with
   |none=>
    simp only[ZlN,hg,doD]at h
    cases hc:ZcM o.op with
    |none=>
     rw[hc]at h
     simp only at h
     cases hd:ZcN T st.nx o.op o.type (look st.tm) st.get with
     |none=>rw[hd]at h;exact h.elim
     |some d=>
      rw[hd]at h
      simp only[Ztb]at h
      refine GD.cons (d:=(d,Zmy (look st.tm) o.op)) ?_ (ih _ _ _ h)
      unfold Zp9
      simp only
      cases hr:Zmy (look st.tm) o.op with
      |none=>exact .inl ⟨.inl hg,.op hc hd⟩
      |some ks=>exact .inl ⟨.inl hg,.op hc (Ztl hd hr)⟩
    |some c=>
     rw[hc]at h
     simp only at h
     cases hcal:callee (look st.tm) c with
     |none=>rw[hcal]at h;exact h.elim
     |some fa=>
      obtain⟨f,args⟩:=fa
      rw[hcal]at h
      simp only[ZsE,DG]at h
      rcases h with ⟨rs,gs,args0,fr0,fr,y,h1,h2,h3,h5,h4⟩|⟨m,ks,fargs,fr,y,h1,h2,h3,h5,h4⟩|h
      ·refine GD.cons (d:=(⟨y.imp st.nx,Zg9 rs++(Zg9 gs++Zli st.nx fr)⟩,some ((gs++rs).map fun k=>(0,k)))) ?_ h4
       unfold Zp9
       exact .inl ⟨.inl hg,.give rs gs c f args args0 fr0 fr y hc hcal h1 h2 h3 h5 rfl⟩
      ·refine GD.cons (d:=(⟨y.imp st.nx,Zli st.nx fr⟩,some ks)) ?_ h4
       unfold Zp9
       exact .inl ⟨.inl hg,.glent m c f args fargs fr y hc hcal h1 h2 h3 h5 rfl⟩
      obtain⟨v,fargs,fl,h1,hor,h4⟩:=h
      refine GD.cons (d:=(⟨v,[]⟩,fl)) ?_ h4
      unfold Zp9
      rcases hor with ⟨h2,h3,rfl⟩|⟨rfl,h3,m,h2⟩
      ·exact .inl ⟨.inl hg,.call c f args fargs hc hcal h1 (frzL_only _ _ h2 (fun _ h=>h)) h3 rfl⟩
      ·exact .inl ⟨.inl hg,.lent m c f args fargs hc hcal h1 h2 h3 rfl⟩
   |some gw=>
    obtain⟨g,w⟩:=gw
    simp only[ZlN,hg]at h
    split at h
    ·rename_i b hb
     cases hbw:b==w with
     |true=>
      rw[hbw]at h
      simp only[Zt1]at h
      obtain⟨ds,h1,h2⟩:=ih _ _ _ h
      cases h1 with
      |cons _ _ _ d ds hE hs=>
       refine⟨d::ds,.cons st o os d ds ?_ hs,by simpa [Zcv] using h2⟩
       have hgo:Zv2 o (look st.tm):=.inr ⟨g,w,b,hg,hb,hbw⟩
       unfold Zp9 at hE ⊢
       have conv:∀ G,ZnH P T st.nx ⟨o.dst,o.op,o.type,none,o.drop⟩ (look st.tm) G d.1→ZnH P T st.nx o (look st.tm) G d.1:=by
        rintro G (⟨_,he⟩|⟨⟨g',w',hh,_⟩,_⟩)
        ·refine .inl ⟨hgo,?_⟩
         cases he with
         |op hc h=>exact .op hc h
         |call c f args fargs hc h hp hz hr hs=>exact .call c f args fargs hc h hp hz hr hs
         |lent m c f args fargs hc h hp hz hr hs=>exact .lent m c f args fargs hc h hp hz hr hs
         |give rs gs c f args args0 fr0 fr y hc h hp hz hg hnd hd=>exact .give rs gs c f args args0 fr0 fr y hc h hp hz hg hnd hd
         |glent m c f args fargs fr y hc h hp hz hy hf hd=>exact .glent m c f args fargs fr y hc h hp hz hy hf hd
        ·cases hh
       exact conv _ hE
     |false=>
      rw[hbw]at h
      simp only[Zt1]at h
      exact past ⟨g,w,hg,.inl ⟨b,hb,hbw⟩⟩ h
    ·rename_i hb
     exact past ⟨g,w,hg,.inr hb⟩ h
    ·exact h.elim
theorem Zr9 {f:FuncId}{args fargs zargs:List AV}{v:AV}{o:SOp}{os:List SOp}{acc:List (De×Rd)}{st:St} (m:Nat) (hp:Za0 P f fargs (fun y=>y=v)) (hz:AV.frzL st.get args=some zargs) (hn:NLs zargs fargs)
  (hr:AV.refsL args=[]∨v.scal=true) (h:DG P T C (ZlN T m os ((⟨v,[]⟩,some (AV.refsL args))::acc) (st.by o.dst [] ⟨v,[]⟩))):DG P T C (.call f args o os acc st):=
 .inr <| .inr ⟨v,zargs,_,hp.nl hn,.inl ⟨hz,hr,rfl⟩,Zex m _ _ _ h⟩
theorem ZhP {f:FuncId}{args args0:List AV}{fr0 fr:Fra}{y:AV}{o:SOp}{os:List SOp}{acc:List (De×Rd)}{st:St} (m:Nat) (rs gs:List Nat) (hp:Zb7 P f args0 fr0 (fun y' fr'=>y'=y∧fr'=fr))
  (hz:gvL gs (only (ZfI (only st.get ((gs++rs).map fun k=>(0,k)))) (rs.map fun k=>(1,k))) (boxF (only (ZfI (only st.get ((gs++rs).map fun k=>(0,k)))) (rs.map fun k=>(1,k))) 5) (AV.shL 1 args)=some args0∧ZiM (only st.get ((gs++rs).map fun k=>(0,k))) 0 gs=some fr0) (hnd:(decide (gs++rs).Nodup&&decide (gs.length≤16))=true)
  (h:DG P T C (ZlN T m os ((⟨y.imp st.nx,Zg9 rs++(Zg9 gs++Zli st.nx fr)⟩,some ((gs++rs).map fun k=>(0,k)))::acc) (st.by o.dst [] ⟨y.imp st.nx,Zg9 rs++(Zg9 gs++Zli st.nx fr)⟩))):DG P T C (.call f args o os acc st):=
 .inl ⟨rs,gs,args0,fr0,fr,y,hp,hz.1,hz.2,hnd,Zex m _ _ _ h⟩
theorem Zmb {f:FuncId}{args fargs:List AV}{fr:Fra}{y:AV}{o:SOp}{os:List SOp}{acc:List (De×Rd)}{st:St} (m:Nat) (ks:List (Nat×Nat)) (hp:Zb7 P f fargs [] (fun y' fr'=>y'=y∧fr'=fr)) (hz:AV.brL (only st.get ks) (boxF (only st.get ks) 5) args=some fargs) (hy:y.lot=true) (hf:ZqJ fr)
  (h:DG P T C (ZlN T m os ((⟨y.imp st.nx,Zli st.nx fr⟩,some ks)::acc) (st.by o.dst [] ⟨y.imp st.nx,Zli st.nx fr⟩))):DG P T C (.call f args o os acc st):=
 .inr <| .inl ⟨5,ks,fargs,fr,y,hp,hz,hy,hf,Zex m _ _ _ h⟩
theorem ZaB {acc:List (De×Rd)}{st:St} (h:C acc st):DG P T C (.done acc st):=h
def ZdN (ds:List (De×Rd)):List (List (Nat×Nat)×Rd):=ds.map fun d=>(d.1.sets.map fun p=>(p.1,p.2.1),d.2)
def Zki (sk:List (List (Nat×Nat)×Rd)):List (De×Rd):=sk.map fun d=>(⟨.tup [],d.1.map fun p=>(p.1,p.2,none)⟩,d.2)
theorem Zim (s t s' t':Zjm) (hs:s.map (fun p=>(p.1,p.2.1))=s'.map (fun p=>(p.1,p.2.1))) (ht:t.map (fun p=>(p.1,p.2.1))=t'.map (fun p=>(p.1,p.2.1))):ZdG s t=ZdG s' t':=by
 have key:∀ s t:Zjm,ZdG s t=((s.map fun p=>(p.1,p.2.1)).all fun p=>(t.map fun p=>(p.1,p.2.1)).all fun q=>!(p.1==q.1&&p.2==q.2)):=by
  intro s t
  unfold ZdG
  simp[List.all_map,Function.comp_def]
 rw[key,key,hs,ht]
theorem Zj6 (r:Rd) (s s':Zjm) (hs:s.map (fun p=>(p.1,p.2.1))=s'.map (fun p=>(p.1,p.2.1))):Zgf r s=Zgf r s':=by
 have key:∀ s:Zjm,Zgf r s=(match r with
   |none=>(s.map fun p=>(p.1,p.2.1)).isEmpty
   |some ks=>(s.map fun p=>(p.1,p.2.1)).all fun p=>!ks.contains p):=by
  intro s
  cases r with
  |none=>cases s<;>rfl
  |some ks=>simp[Zgf,List.all_map,Function.comp_def]
 rw[key,key,hs]
theorem Zne (ops:List SOp) (befs:List (List Nat)) (ds:List (De×Rd)):ZnA ops befs ds=ZnA ops befs (Zki (ZdN ds)):=by
 have ZgT:∀ i:Nat,(Zki (ZdN ds))[i]?=(ds[i]?).map fun d=>((⟨.tup [],d.1.sets.map fun p=>(p.1,p.2.1,none)⟩:De),d.2):=by
  intro i
  simp[Zki,ZdN,List.getElem?_map,Function.comp_def]
 have hk:∀ i:Nat,(Zbn (ds.map (·.1)) i).map (fun p=>(p.1,p.2.1))=(Zbn ((Zki (ZdN ds)).map (·.1)) i).map (fun p=>(p.1,p.2.1)):=by
  intro i
  unfold Zbn
  rw[List.getElem?_map,List.getElem?_map,ZgT]
  cases ds[i]? with
  |none=>rfl
  |some d=>simp[Function.comp_def]
 have h1:(Zki (ZdN ds)).length=ds.length:=by simp[Zki,ZdN]
 have h2:Ze1 befs ((Zki (ZdN ds)).map (·.1)) ops.length=Ze1 befs (ds.map (·.1)) ops.length:=by
  unfold Ze1
  congr 1;funext j;congr 1;funext i
  rw[Zim _ _ _ _ (hk i).symm (hk j).symm]
 unfold ZnA
 rw[h1,h2]
 congr 1
 congr 1;funext i
 rw[ZgT]
 cases ops[i]? with
 |none=>rfl
 |some o=>
  cases ds[i]? with
  |none=>rfl
  |some d=>
   simp only[Option.map_some]
   congr 1
   congr 1;funext j
   rw[ZgT]
   cases ds[j]? with
   |none=>rfl
   |some x=>
    simp only[Option.map_some,Option.getD_some]
    rw[Zj6 d.2 x.1.sets (x.1.sets.map fun p=>(p.1,p.2.1,none)) (by simp[Function.comp_def])]
theorem ZaC {ops:List SOp}{befs:List (List Nat)}{ds:List (De×Rd)}{sk:List (List (Nat×Nat)×Rd)} (h1:ZdN ds=sk) (h2:ZnA ops befs (Zki sk)=true):ZnA ops befs ds=true:=by
 rw[Zne,h1];exact h2
theorem Zat (hT:ZaL P T) (hm:P.follows .mixedOrders=true) {ops:List SOp}{befs:List (List Nat)}{drop:List Nat}{todo:List It}{st:St} (m:Nat)
  (h:DG P T (fun acc st'=>ZnA ops befs acc.reverse=true∧AK P n Φ todo { st' with tm:=Ze6 st'.tm drop }) (ZlN T m ops [] st)):ZbX P n Φ (.draw ops befs drop todo st):=by
 obtain⟨ds,h1,h2,h3⟩:=Zex m _ _ _ h
 simp only[List.append_nil,List.reverse_reverse]at h2
 exact ZnD hT hm ds h1 h2 h3
theorem ZmB (hT:ZaL P T) {f:FuncId}{args fargs zargs:List AV}{v:AV}{dst:Option Tmp}{drop:List Nat}{todo:List It}{st:St} (m:Nat) (hp:Za0 P f fargs (fun y=>y=v)) (hz:AV.frzL (Zam.get ([]::st.fr::st.low)) args=some zargs) (hn:NLs zargs fargs)
  (hr:AV.refsL args=[]∨v.scal=true) (h:ZbX P n Φ (run T m todo (st.took dst drop v [] (st.fr::st.low)))):ZbX P n Φ (.call f args dst drop todo st):=by
 have hk:=Zag hT m todo _ h
 rcases hr with hr|hr
 ·exact Zlm (hp.nl hn) hz hr (by rintro y rfl;exact hk)
 ·exact Zll (hp.nl hn) hz (by rintro y rfl;exact hr) (by rintro y rfl;exact hk)
def zOK (o:Option (List AV)) (fargs:List AV):Prop:=match o with
 |some z=>NLs z fargs
 |none=>False
theorem Zrn (z fargs:List AV):zOK (some z) fargs=NLs z fargs:=rfl
def yOK (o:Option AV) (v:AV):Prop:=match o with
 |some y=>NL y v
 |none=>False
theorem Zrm (y v:AV):yOK (some y) v=NL y v:=rfl
theorem Zgv (hT:ZaL P T) {f:FuncId}{args fargs:List AV}{v:AV}{dst:Option Tmp}{drop:List Nat}{todo:List It}{st:St} (m:Nat) (rs:List Nat) (hp:Za0 P f fargs (fun y=>y=v)) (hz:zOK (AV.brL (only (Zam.get ([]::st.fr::st.low)) (rs.map fun k=>(1,k))) (boxF (only (Zam.get ([]::st.fr::st.low)) (rs.map fun k=>(1,k))) 5) args) fargs)
  (h:ZbX P n Φ (run T m todo (st.took dst drop v [] (Ze6 st.fr rs::st.low)))):ZbX P n Φ (.call f args dst drop todo st):=by
 unfold zOK at hz
 split at hz
 ·rename_i z hz'
  have hk:=Zag hT m todo _ h
  refine Zgu (Za0.take 5 _ (hp.nl hz) hz' (by simp)) ?_
  rintro y fr H ⟨rfl,rfl,e⟩
  rw[Zin]at e
  obtain rfl:=(List.cons.inj e).2
  exact hk
 ·exact hz.elim
theorem Za0.nlr {f:FuncId}{args:List AV}{v:AV} (h:Za0 P f args (fun y=>NL y v)):Za0 P f args (fun y=>y=v):=by
 refine⟨h.1,fun fm w vs h1 h2=>Calls.mono (h.2 fm w vs h1 h2) ?_⟩
 rintro e w' ⟨u,y,fm',h3,h4,h5,h6,h7⟩
 exact⟨u,v,fm',h3,rfl,h5,h4.ok h6,h7⟩
theorem Zab {f:List It→St→Ev}{b:Bool}{t t':List It}{s s':St}{ρ:Type}{A B:Option ρ}{r:ρ} (h:(bif b then A else B)=some r) (h1:b=true→A=some r→ZbX P n Φ (f t s)) (h2:b=false→B=some r→ZbX P n Φ (f t' s')):ZbX P n Φ (two f b t s t' s'):=by
 cases b with
 |true=>exact h1 rfl h
 |false=>exact h2 rfl h
theorem ZjW {f:List SOp→List (De×Rd)→St→EvD}{b:Bool}{os os':List SOp}{acc acc':List (De×Rd)}{st st':St}{ρ:Type}{A B:Option ρ}{r:ρ} (h:(bif b then A else B)=some r) (h1:b=true→A=some r→DG P T C (f os acc st)) (h2:b=false→B=some r→DG P T C (f os' acc' st')):DG P T C (Zt1 f b os acc st os' acc' st'):=by
 cases b with
 |true=>exact h1 rfl h
 |false=>exact h2 rfl h
theorem Zay {S E R:Type}{body:S→Option (Stp S E R)}{k:Nat}{s0:S}{r:Stp S E R} (hk:whl body k s0=some r) (hd:S→St) (ex:E→St) {b:SC}{id:Nat}{todo:List It}{st:St} (hw:Za7 n st (hd s0))
  (hb:∀ s x (Bk Br:St→Prop),body s=some x→(∀ s' st',x=.next s'→Za7 n st' (hd s')→Bk st')→(∀ s' st',x=.brk s'→Za7 n st' (ex s')→Br st')→(∀ v,x=.ret v→r=.ret v)→
   AK P n Φ (.sc b::.back Bk::.blk id::.back Br::todo) (hd s))
  (hx:∀ s',r=.brk s'→AK P n Φ todo (ex s')):ZbX P n Φ (.loop b (.blk id::todo) st):=AK.loopS hk hd ex hw hb hx
theorem ZrE (x:AV):NL x x=True:=eq_true (.refl x)
theorem ZpC (x:List AV):NLs x x=True:=eq_true (.refl x)
theorem ZaS (hT:ZaL P T) {f:FuncId}{args fargs:List AV}{v:AV}{dst:Option Tmp}{drop:List Nat}{todo:List It}{st:St} (m:Nat) (hp:Za0 P f fargs (fun y=>y=v)) (hz:zOK (AV.frzL (Zam.get ([]::st.fr::st.low)) args) fargs)
  (hr:(AV.refsL args).isEmpty || v.scal=true) (h:ZbX P n Φ (run T m todo (st.took dst drop v [] (st.fr::st.low)))):ZbX P n Φ (.call f args dst drop todo st):=by
 unfold zOK at hz
 split at hz
 ·rename_i z hz'
  refine ZmB hT m hp hz' hz ?_ h
  simpa using hr
 ·exact hz.elim
theorem Zbk {f:FuncId}{args fargs:List AV}{v:AV}{o:SOp}{os:List SOp}{acc:List (De×Rd)}{st:St} (m:Nat) (hp:Za0 P f fargs (fun y=>y=v)) (hz:zOK (AV.frzL st.get args) fargs)
  (hr:(AV.refsL args).isEmpty || v.scal=true) (h:DG P T C (ZlN T m os ((⟨v,[]⟩,some (AV.refsL args))::acc) (st.by o.dst [] ⟨v,[]⟩))):DG P T C (.call f args o os acc st):=by
 unfold zOK at hz
 split at hz
 ·rename_i z hz'
  refine Zr9 m hp hz' hz ?_ h
  simpa using hr
 ·exact hz.elim
def wOK (o:Option St) (tm:List (Nat×AV)) (fr:Fra) (low:Zam) (nx nt:Nat):Prop:=match o with
 |some s=>NLT s.tm tm∧NLF s.fr fr∧s.low=low∧s.nx=nx∧s.nt=nt
 |none=>False
theorem Zrj (s:St) (tm:List (Nat×AV)) (fr:Fra) (low:Zam) (nx nt:Nat):wOK (some s) tm fr low nx nt=(NLT s.tm tm∧NLF s.fr fr∧s.low=low∧s.nx=nx∧s.nt=nt):=rfl
theorem Za7.go {n:Nat}{st:St}{tm:List (Nat×AV)}{fr:Fra}{low:Zam}{nx nt:Nat} (keep ks:List Nat) (hnd:(decide ks.Nodup&&decide (ks.length≤nx))=true) (h:wOK (st.norm keep ks nx) tm fr low nx nt):Za7 n st ⟨tm,fr,low,nx,nt⟩:=by
 unfold wOK at h
 split at h
 ·rename_i s hs
  simp only[Bool.and_eq_true,decide_eq_true_eq]at hnd
  obtain⟨h1,h2,h3,h4,h5⟩:=h
  refine(Za7.norm hs hnd.1 hnd.2).trans ?_
  obtain⟨tm0,fr0,low0,nx0,nt0⟩:=s
  simp only at h3 h4 h5
  subst h3 h4 h5
  exact Za7.nl h1 h2
 ·exact h.elim
theorem ZpB (x:List (Nat×AV)):NLT x x=True:=eq_true (.refl x)
theorem ZpA (x:Fra):NLF x x=True:=eq_true (.refl x)
theorem bind_some {α β:Type}{o:Option α}{f:α→Option β}{r:β} (h:o.bind f=some r):∃ x,o=some x∧f x=some r:=Option.bind_eq_some_iff.1 h
end
end Go.Abs
namespace Go.Abs
open Go Go.RowKit
set_option linter.unusedSectionVars false
mutual
def AV.fz (k:Nat) (b:Blk):AV→Option AV
 |.ptr 0 k' o=>if k'=k then (match b with|.box ys=>some (.rptr ys.length [ys] 0 o)|_=>none) else some (.ptr 0 k' o)
 |.ptr (l+1) k' o=>some (.ptr (l+1) k' o)
 |.loc 0 k' e i n g=>if k'=k then (match b with|.arr _ esz es=>if esz=e∧es.length=g∧i+n≤g then some (.sl e ((es.drop i).take n)) else none|_=>none) else some (.loc 0 k' e i n g)
 |.loc (l+1) k' e i n g=>some (.loc (l+1) k' e i n g)
 |.eptr 0 k' e i o g=>if k'=k then none else some (.eptr 0 k' e i o g)
 |.eptr (l+1) k' e i o g=>some (.eptr (l+1) k' e i o g)
 |.inn 0 k' e o n=>if k'=k then none else some (.inn 0 k' e o n)
 |.inn (l+1) k' e o n=>some (.inn (l+1) k' e o n)
 |.fn f x y=>match AV.fzL k b x,AV.fzL k b y with
  |some x,some y=>some (.fn f x y)
  |_,_=>none
 |.ifc t v=>(v.fz k b).map (.ifc t)
 |.agg cs=>(AV.fzL k b cs).map .agg
 |.tup vs=>(AV.fzL k b vs).map .tup
 |.bool b=>some (.bool b)
 |.int k n=>some (.int k n)
 |.str s=>some (.str s)
 |.nil=>some .nil
 |.sl e es=>some (.sl e es)
 |.pnil=>some .pnil
 |.rptr e es i o=>some (.rptr e es i o)
 |.fnil=>some .fnil
 |.inil=>some .inil
 |.dead=>some .dead
def AV.fzL (k:Nat) (b:Blk):List AV→Option (List AV)
 |[]=>some []
 |x::l=>match x.fz k b,AV.fzL k b l with
  |some x,some l=>some (x::l)
  |_,_=>none
end
theorem Zgg (k:Nat) (b:Blk):∀ (cs ys:List AV),AV.fzL k b cs=some ys→ys.length=cs.length∧∀ (i:Nat) (x:AV),cs[i]?=some x→∃ y,ys[i]?=some y∧x.fz k b=some y
 |[],ys,h=>by simp only[AV.fzL,oE]at h;subst h;simp
 |x::l,ys,h=>by
  simp only[AV.fzL]at h
  split at h
  ·rename_i a c ha hc
   obtain rfl:=oi h
   have ih:=Zgg k b l c hc
   refine⟨by simp[ih.1],?_⟩
   intro i z hz
   cases i with
   |zero=>simp only[List.getElem?_cons_zero,oE]at hz;subst hz;exact⟨a,by simp,ha⟩
   |succ i=>simp only[List.getElem?_cons_succ]at hz ⊢;exact ih.2 i z hz
  ·cases h
theorem ZoT {k:Nat}{b:Blk}{x y:AV} (h:x.fz k b=some y):y.flat=x.flat:=by
 cases x with
 |ptr l k' o=>
  cases l with
  |zero=>
   simp only[AV.fz]at h
   split at h
   ·split at h
    ·obtain rfl:=oi h;rfl
    ·cases h
   ·obtain rfl:=oi h;rfl
  |succ l=>simp only[AV.fz,oE]at h;subst h;rfl
 |loc l k' e i n g=>
  cases l with
  |zero=>
   simp only[AV.fz]at h
   split at h
   ·split at h
    ·split at h
     ·obtain rfl:=oi h;rfl
     ·cases h
    ·cases h
   ·obtain rfl:=oi h;rfl
  |succ l=>simp only[AV.fz,oE]at h;subst h;rfl
 |eptr l k' e i o g=>
  cases l with
  |zero=>
   simp only[AV.fz]at h
   split at h
   ·cases h
   ·obtain rfl:=oi h;rfl
  |succ l=>simp only[AV.fz,oE]at h;subst h;rfl
 |inn l k' e o n=>
  cases l with
  |zero=>
   simp only[AV.fz]at h
   split at h
   ·cases h
   ·obtain rfl:=oi h;rfl
  |succ l=>simp only[AV.fz,oE]at h;subst h;rfl
 |fn f a c=>
  simp only[AV.fz]at h
  split at h
  ·obtain rfl:=oi h;rfl
  ·cases h
 |_=>
  first
  |(simp only[AV.fz,oE]at h;subst h;rfl)
  |(simp only[AV.fz,mS]at h;obtain⟨a,_,rfl⟩:=h;rfl)
section
variable [Md] {P:Program}{T:Tys}{N0:Nat}{W0:World}{n:Nat}{fm:FM}{ts:List Tie}{H:Zam}{w:World}
noncomputable def Zdy (fm:FM) (w:World) (c:Option Nat):FM:=fun b o=>if c=some b then w.cell? ⟨b,o,none⟩ else fm b o
theorem Zg6 (h:HR N0 W0 fm ts H w) (c:Option Nat):Zdq fm (Zdy fm w c):=by
 intro b o v hv
 unfold Zdy
 split
 ·exact h.fms b o v hv
 ·exact hv
theorem HR.fz (h:HR N0 W0 fm ts H w) {k:Nat}{b:Blk} (hk:H.get 0 k=some b) (hz:∀ ys,b=.box ys→AV.frzL (fun _ _=>none) ys=some ys) {ts0:List Tie}{x:AV}{v:Value} (hv:VR fm ts0 x v):
  ts0=ts→∀ {y:AV},x.fz k b=some y→VR (Zdy fm w (tbc (tb ts 0 k))) ts y v:=by
 have hF:=Zg6 h (tbc (tb ts 0 k))
 have hcell:∀ c o u,tbc (tb ts 0 k)=some c→w.cell? ⟨c,o,none⟩=some u→Zdy fm w (tbc (tb ts 0 k)) c o=some u:=by
  intro c o u hc hu
  unfold Zdy;rw[if_pos hc];exact hu
 generalize Zdy fm w (tbc (tb ts 0 k))=fm' at hF hcell
 induction hv with
 |bool b=>intro e y hy;simp only[AV.fz,oE]at hy;subst hy;exact .bool _
 |int k n=>intro e y hy;simp only[AV.fz,oE]at hy;subst hy;exact .int _ _
 |str s=>intro e y hy;simp only[AV.fz,oE]at hy;subst hy;exact .str _
 |nil=>intro e y hy;simp only[AV.fz,oE]at hy;subst hy;exact .nil
 |slNil e a cap=>intro _ y hy;simp only[AV.fz,oE]at hy;subst hy;exact .slNil _ _ _
 |sl es cb off esz cap u hcap h1 h2 h3 h4 _=>intro _ y hy;simp only[AV.fz,oE]at hy;subst hy;exact(VR.sl es cb off esz cap u hcap h1 h2 h3 h4 (ts:=ts)).mono hF (ZaA.refl _)
 |@locGone ts1 l k' esz i n g a cp ht hn ha=>
  rintro rfl y hy
  cases l with
  |zero=>
   simp only[AV.fz]at hy
   split at hy
   ·rename_i e;subst e
    have:=h.blk 0 k' b hk
    rw[ht]at this
    cases this
   ·obtain rfl:=oi hy;exact .locGone _ _ _ _ _ _ _ _ ht hn ha
  |succ l=>simp only[AV.fz,oE]at hy;subst hy;exact .locGone _ _ _ _ _ _ _ _ ht hn ha
 |@locOld ts1 l k' esz i n g a cp m' c ht hlt hn ha=>
  rintro rfl y hy
  cases l with
  |zero=>
   simp only[AV.fz]at hy
   split at hy
   ·rename_i e;subst e
    have hb:=h.blk 0 k' b hk
    rw[ht]at hb
    split at hy
    ·split at hy
     ·rename_i hc
      cases hb with
      |nil et esz=>have:=hc.2.1;simp at this;omega
      |arr et esz es c cap hN h=>have:=hc.2.1;omega
     ·cases hy
    ·cases hy
   ·obtain rfl:=oi hy;exact .locOld _ _ _ _ _ _ _ _ _ _ ht hlt hn ha
  |succ l=>simp only[AV.fz,oE]at hy;subst hy;exact .locOld _ _ _ _ _ _ _ _ _ _ ht hlt hn ha
 |@locNil ts1 l k' esz a ht=>
  rintro rfl y hy
  cases l with
  |zero=>
   simp only[AV.fz]at hy
   split at hy
   ·split at hy
    ·split at hy
     ·simp only[List.drop_zero,List.take_zero,oE]at hy;subst hy;exact .slNil _ _ _
     ·cases hy
    ·cases hy
   ·obtain rfl:=oi hy;exact .locNil _ _ _ _ ht
  |succ l=>simp only[AV.fz,oE]at hy;subst hy;exact .locNil _ _ _ _ ht
 |@loc ts1 l k' esz i n g c cap cp a ht hn hnc hc ha=>
  rintro rfl y hy
  cases l with
  |succ l=>simp only[AV.fz,oE]at hy;subst hy;exact .loc _ _ _ _ _ _ _ _ _ _ ht hn hnc hc ha
  |zero=>
   simp only[AV.fz]at hy
   split at hy
   ·rename_i e;subst e
    have hb:=h.blk 0 k' b hk
    split at hy
    ·rename_i et esz' es
     split at hy
     ·rename_i hh
      obtain⟨he,ZbS,hin⟩:=hh
      subst he
      simp only[oE]at hy;subst hy
      rw[ht]at hb
      cases hb with
      |arr et _ es c cap hN hA=>
       obtain⟨cells,c1,c2,c3,c4,c5,c6,c7⟩:=hA
       by_cases hn0:n=0
       ·subst hn0
        simp only[List.take_zero]
        exact .slNil _ _ _
       ·have ha':=ha (.inl (by omega))
        subst ha'
        have hl:((es.drop i).take n).length=n:=by simp;omega
        have key:∀ (j:Nat) (cc:List AV) (o:Nat) (x:AV),((es.drop i).take n)[j]?=some cc→cc[o]?=some x→∃ u,cells[(i+j)*esz'+o]?=some u∧x.flat=true∧VR fm [] x u:=by
         intro j cc o x hj ho
         have hj':es[i+j]?=some cc:=by
          rw[List.getElem?_take]at hj
          split at hj
          ·rw[List.getElem?_drop]at hj;exact hj
          ·cases hj
         have hlt:i+j<es.length:=(gS.1 hj').1
         have hcc:cc.length=esz':=c5 cc (List.mem_of_getElem? hj')
         have hol:o<esz':=by rw[←hcc];exact(gS.1 ho).1
         have hsz:(i+j)*esz'+o<cells.size:=by
          rw[c2]
          have:(i+j+1)*esz'≤cap*esz':=Nat.mul_le_mul_right _ (by omega)
          rw[Nat.add_mul]at this
          omega
         have hcell':=Array.getElem?_eq_getElem hsz
         have:=c7 (i+j) cc o x _ hj' ho hcell'
         exact⟨_,hcell',this.1,this.2⟩
        have hsl:=VR.sl (fm:=fm') (ts:=ts1) ((es.drop i).take n) c (i*esz') esz' cp (fun j o=>(cells[(i+j)*esz'+o]?).getD default) (by rw[hl];exact⟨hnc,by omega⟩)
         (fun cc hcc=>c5 cc (List.mem_of_mem_drop (List.mem_of_mem_take hcc)))
         (by
          intro j cc o x hj ho
          obtain⟨u,hu,_,_⟩:=key j cc o x hj ho
          refine hcell c _ _ (by rw[ht];rfl) ?_
          simp only[World.cell?,c1]
          have:i*esz'+(j*esz'+o)=(i+j)*esz'+o:=by rw[Nat.add_mul];omega
          rw[this,hu]
          simp)
         (fun j cc o x hj ho=>(key j cc o x hj ho).elim fun u hu=>hu.2.1)
         (by
          intro j cc o x hj ho
          obtain⟨u,hu,_,hv⟩:=key j cc o x hj ho
          rw[hu]
          exact hv.mono hF (ZaA.refl _))
        rw[hl]at hsl
        exact hsl
     ·cases hy
    ·cases hy
   ·obtain rfl:=oi hy;exact .loc _ _ _ _ _ _ _ _ _ _ ht hn hnc hc ha
 |@inn ts1 l k' esz o n c cp a ht hn ha=>
  rintro rfl y hy
  cases l with
  |zero=>
   simp only[AV.fz]at hy
   split at hy
   ·cases hy
   ·obtain rfl:=oi hy;exact .inn _ _ _ _ _ _ _ _ ht hn ha
  |succ l=>simp only[AV.fz,oE]at hy;subst hy;exact .inn _ _ _ _ _ _ _ _ ht hn ha
 |pnil=>intro e y hy;simp only[AV.fz,oE]at hy;subst hy;exact .pnil
 |@ptr ts1 l k' o c ht=>
  rintro rfl y hy
  cases l with
  |succ l=>simp only[AV.fz,oE]at hy;subst hy;exact .ptr _ _ _ _ ht
  |zero=>
   simp only[AV.fz]at hy
   split at hy
   ·rename_i e;subst e
    have hb:=h.blk 0 k' b hk
    split at hy
    ·rename_i ys
     obtain rfl:=oi hy
     rw[ht]at hb
     cases hb with
     |box c _ hN hB=>
      obtain⟨cells,et,c1,c2,c3⟩:=hB
      have hzz:=hz ys rfl
      have g:=Go.Abs.frzL_get _ _ _ hzz
      have one:∀ (i:Nat) (cc:List AV) (o:Nat) (x:AV),[ys][i]?=some cc→cc[o]?=some x→i=0∧cc=ys∧∃ u,cells[o]?=some u∧x.flat=true∧VR fm [] x u:=by
       intro i cc o x hi ho
       cases i with
       |succ i=>simp at hi
       |zero=>
        simp only[List.getElem?_cons_zero,oE]at hi
        subst hi
        have hlt:o<cells.size:=by rw[c2];exact(gS.1 ho).1
        have hcu:=Array.getElem?_eq_getElem hlt
        have h3:=c3 o x _ ho hcu
        obtain⟨y,hy1,hy2⟩:=g.2 o x ho
        rw[ho]at hy1
        obtain rfl:=oi hy1
        have h4:=h.frz (N0:=N0) [] (by simpa using h3.2) (frz_none H.get _ _ hy2) (by rw[frz_refs _ _ hy2];simp)
        rw[Zf9]at h4
        exact⟨rfl,rfl,_,hcu,h3.1,h4⟩
      have:=VR.rptr (fm:=fm') (ts:=ts1) [ys] 0 o c 0 ys.length (fun _ o=>(cells[o]?).getD default) (by intro cc hcc;simp at hcc;rw[hcc])
       (by
        intro i cc o x hi ho
        obtain⟨rfl,rfl,u,hu,_,_⟩:=one i cc o x hi ho
        refine hcell c _ _ (by rw[ht];rfl) ?_
        simp only[World.cell?,c1,Nat.zero_mul,Nat.zero_add,hu]
        simp)
       (fun i cc o x hi ho=>(one i cc o x hi ho).2.2.elim fun u hu=>hu.2.1)
       (by
        intro i cc o x hi ho
        obtain⟨rfl,rfl,u,hu,_,hv⟩:=one i cc o x hi ho
        rw[hu]
        exact hv.mono hF (ZaA.refl _))
      simpa using this
    ·cases hy
   ·obtain rfl:=oi hy;exact .ptr _ _ _ _ ht
 |@eptrGone ts1 l k' esz i o g a ht=>
  rintro rfl y hy
  cases l with
  |zero=>
   simp only[AV.fz]at hy
   split at hy
   ·cases hy
   ·obtain rfl:=oi hy;exact .eptrGone _ _ _ _ _ _ _ ht
  |succ l=>simp only[AV.fz,oE]at hy;subst hy;exact .eptrGone _ _ _ _ _ _ _ ht
 |@eptrOld ts1 l k' esz i o g a m' c ht hlt=>
  rintro rfl y hy
  cases l with
  |zero=>
   simp only[AV.fz]at hy
   split at hy
   ·cases hy
   ·obtain rfl:=oi hy;exact .eptrOld _ _ _ _ _ _ _ _ _ ht hlt
  |succ l=>simp only[AV.fz,oE]at hy;subst hy;exact .eptrOld _ _ _ _ _ _ _ _ _ ht hlt
 |@eptr ts1 l k' esz i o g c cap ht=>
  rintro rfl y hy
  cases l with
  |zero=>
   simp only[AV.fz]at hy
   split at hy
   ·cases hy
   ·obtain rfl:=oi hy;exact .eptr _ _ _ _ _ _ _ _ ht
  |succ l=>simp only[AV.fz,oE]at hy;subst hy;exact .eptr _ _ _ _ _ _ _ _ ht
 |rptr es i o cb off esz u h1 h2 h3 h4 _=>intro _ y hy;simp only[AV.fz,oE]at hy;subst hy;exact(VR.rptr es i o cb off esz u h1 h2 h3 h4 (ts:=ts)).mono hF (ZaA.refl _)
 |fnil=>intro e y hy;simp only[AV.fz,oE]at hy;subst hy;exact .fnil
 |fn f first cap vf vc h1 h2 _ _ ih1 ih2=>
  rintro rfl y hy
  simp only[AV.fz]at hy
  split at hy
  ·rename_i a c ha hc
   obtain rfl:=oi hy
   have g1:=Zgg k b _ _ ha
   have g2:=Zgg k b _ _ hc
   refine .fn f a c vf vc (by rw[g1.1];exact h1) (by rw[g2.1];exact h2) ?_ ?_
   ·intro i x v hx hv
    have hi:i<first.length:=by rw[←g1.1];exact(gS.1 hx).1
    obtain⟨y,hy,hu⟩:=g1.2 i _ (gG hi)
    rw[hx]at hy;obtain rfl:=oi hy
    exact ih1 i _ v (gG hi) hv rfl hu
   ·intro i x v hx hv
    have hi:i<cap.length:=by rw[←g2.1];exact(gS.1 hx).1
    obtain⟨y,hy,hu⟩:=g2.2 i _ (gG hi)
    rw[hx]at hy;obtain rfl:=oi hy
    exact ih2 i _ v (gG hi) hv rfl hu
  ·cases hy
 |inil=>intro e y hy;simp only[AV.fz,oE]at hy;subst hy;exact .inil
 |ifc t x v _ ih=>
  rintro rfl y hy
  simp only[AV.fz,mS]at hy;obtain⟨z,hz',rfl⟩:=hy
  exact .ifc t z v (ih rfl hz')
 |agg cs vs h1 h2 _ ih=>
  rintro rfl y hy
  simp only[AV.fz,mS]at hy;obtain⟨z,hz',rfl⟩:=hy
  have g:=Zgg k b _ _ hz'
  refine .agg z vs (by rw[g.1];exact h1) ?_ ?_
  ·intro x hx
   obtain⟨i,hi⟩:=List.mem_iff_getElem?.1 hx
   have hlt:i<cs.length:=by rw[←g.1];exact(gS.1 hi).1
   obtain⟨y,hy,hu⟩:=g.2 i _ (gG hlt)
   rw[hi]at hy;obtain rfl:=oi hy
   rw[ZoT hu]
   exact h2 _ (List.getElem_mem hlt)
  ·intro i x v hx hv
   have hlt:i<cs.length:=by rw[←g.1];exact(gS.1 hx).1
   obtain⟨y,hy,hu⟩:=g.2 i _ (gG hlt)
   rw[hx]at hy;obtain rfl:=oi hy
   exact ih i _ v (gG hlt) hv rfl hu
 |tup xs vs h1 _ ih=>
  rintro rfl y hy
  simp only[AV.fz,mS]at hy;obtain⟨z,hz',rfl⟩:=hy
  have g:=Zgg k b _ _ hz'
  refine .tup z vs (by rw[g.1];exact h1) ?_
  intro i x v hx hv
  have hlt:i<xs.length:=by rw[←g.1];exact(gS.1 hx).1
  obtain⟨y,hy,hu⟩:=g.2 i _ (gG hlt)
  rw[hx]at hy;obtain rfl:=oi hy
  exact ih i _ v (gG hlt) hv rfl hu
 |dead v=>intro e y hy;simp only[AV.fz,oE]at hy;subst hy;exact .dead v
def Zr1 (k:Nat) (b:Blk):List (Nat×AV)→List (Nat×AV)
 |[]=>[]
 |(t,x)::l=>(t,(x.fz k b).getD x)::Zr1 k b l
def Blk.fz (k:Nat) (b:Blk):Blk→Blk
 |.arr et e es=>.arr et e es
 |.box cs=>.box ((AV.fzL k b cs).getD cs)
def ZnC (k:Nat) (b:Blk):Fra→Fra
 |[]=>[]
 |(j,x)::l=>if j=k then ZnC k b l else (j,Blk.fz k b x)::ZnC k b l
theorem Zio (k:Nat) (b:Blk):∀ (l:List (Nat×AV)) (t:Nat),look (Zr1 k b l) t=(look l t).map fun x=>(x.fz k b).getD x
 |[],t=>rfl
 |(t0,x)::l,t=>by
  simp only[Zr1,look]
  split
  ·rfl
  ·exact Zio k b l t
theorem ZgC (k:Nat) (b:Blk):∀ (l:Fra) (j:Nat),look (ZnC k b l) j=if j=k then none else (look l j).map (Blk.fz k b)
 |[],j=>by simp[ZnC,look]
 |(j0,x)::l,j=>by
  simp only[ZnC]
  by_cases h:j0=k
  ·rw[if_pos h,ZgC k b l j]
   by_cases hj:j=k
   ·simp[hj]
   ·have:¬ j0=j:=fun e=>hj (by rw[←e,h])
    simp[hj,look,this]
  ·rw[if_neg h]
   simp only[look]
   by_cases hj:j0=j
   ·subst hj;simp[h]
   ·simp only[hj,if_false];exact ZgC k b l j
theorem HR.fz_blk (h:HR N0 W0 fm ts H w) {k:Nat}{b:Blk} (hk:H.get 0 k=some b) (hz:∀ ys,b=.box ys→AV.frzL (fun _ _=>none) ys=some ys) {t:Option TB}{x:Blk} (hx:BR fm ts w N0 t x):BR (Zdy fm w (tbc (tb ts 0 k))) ts w N0 t (Blk.fz k b x):=by
 have hF:=Zg6 h (tbc (tb ts 0 k))
 cases hx with
 |nil et esz=>exact .nil et esz
 |arr et esz es c cap hN hA=>exact .arr et esz es c cap hN (hA.mono hF rfl)
 |box c cs hN hB=>
  obtain⟨cells,et,c1,c2,c3⟩:=hB
  simp only[Blk.fz]
  cases hf:AV.fzL k b cs with
  |none=>exact .box c _ hN ⟨cells,et,c1,c2,fun o x v a b=>⟨(c3 o x v a b).1,(c3 o x v a b).2.mono hF (ZaA.refl _)⟩⟩
  |some ys=>
   have g:=Zgg k b _ _ hf
   refine .box c _ hN ⟨cells,et,c1,by rw[c2];exact g.1.symm,?_⟩
   intro o y v hy hv
   have hlt:o<cs.length:=by rw[←g.1];exact(gS.1 hy).1
   obtain⟨y',hy',hu⟩:=g.2 o _ (gG hlt)
   simp only[Option.getD_some]at hy
   rw[hy]at hy';obtain rfl:=oi hy'
   have h3:=c3 o _ v (gG hlt) hv
   exact⟨by rw[ZoT hu];exact h3.1,h.fz hk hz h3.2 rfl hu⟩
theorem Za7.fz {n:Nat}{tm:List (Nat×AV)}{fr:Fra}{low:Zam}{nx nt:Nat} (k:Nat) {b:Blk} (hk:look fr k=some b) (hz:∀ ys,b=.box ys→AV.frzL (fun _ _=>none) ys=some ys):
  Za7 n ⟨tm,fr,low,nx,nt⟩ ⟨Zr1 k b tm,ZnC k b fr,low,nx,nt⟩:=by
 intro N0 W0 a w fm ts h
 have hg0:Zam.get (fr::low) 0 k=some b:=by simpa [Zam.get] using hk
 have hF:=Zg6 h.hr (tbc (tb ts 0 k))
 have hbr:=h.hr.blk 0 k b hg0
 have src:∀ l j x,Zam.get (ZnC k b fr::low) l j=some x→∃ x0,Zam.get (fr::low) l j=some x0∧¬ (l=0∧j=k)∧(l=0→x=Blk.fz k b x0)∧(l≠0→x=x0):=by
  intro l j x hx
  cases l with
  |zero=>
   simp only[Zam.get,ZgC]at hx
   split at hx
   ·cases hx
   ·rename_i hj
    simp only[mS]at hx
    obtain⟨x0,hx0,rfl⟩:=hx
    exact⟨x0,hx0,fun hh=>hj hh.2,fun _=>rfl,fun hh=>absurd rfl hh⟩
  |succ l=>exact⟨x,hx,fun hh=>absurd hh.1 (by omega),fun hh=>absurd hh (by omega),fun _=>rfl⟩
 refine⟨Zdy fm w (tbc (tb ts 0 k)),ts,⟨⟨by simpa using h.hr.len,?_,?_,?_,?_,h.hr.bel,h.hr.size,h.hr.oth⟩,?_,h.nx,h.size,h.dfr⟩,⟨⟨hF,?_⟩,ZaA.refl _,fun _ _ h=>h⟩⟩
 ·intro l j x hx
  obtain⟨x0,hx0,hne,h1,h2⟩:=src l j x hx
  have hb:=h.hr.blk l j x0 hx0
  cases l with
  |zero=>
   rw[h1 rfl]
   exact h.hr.fz_blk hg0 hz hb
  |succ l=>
   rw[h2 (by omega)]
   exact hb.mono hF (ZaA.refl _) (fun _ _=>rfl)
 ·intro l j l' j' x x' c hx hx'
  obtain⟨x0,hx0,_⟩:=src l j x hx
  obtain⟨x1,hx1,_⟩:=src l' j' x' hx'
  exact h.hr.inj l j l' j' x0 x1 c hx0 hx1
 ·intro c o v hv
  unfold Zdy at hv
  split at hv
  ·exact hv
  ·exact h.hr.fms c o v hv
 ·intro l j x c o hx hc
  obtain⟨x0,hx0,hne,_⟩:=src l j x hx
  unfold Zdy
  rw[if_neg]
  ·exact h.hr.fmd l j x0 c o hx0 hc
  ·intro e
   exact hne (h.hr.inj l j 0 k x0 b c hx0 hg0 hc e)
 ·intro t x hx
  simp only[Zio,mS]at hx
  obtain⟨x0,hx0,rfl⟩:=hx
  obtain⟨v,hv,hvr⟩:=h.tm t x0 hx0
  refine⟨v,hv,?_⟩
  cases hf:x0.fz k b with
  |none=>exact hvr.mono hF (ZaA.refl _)
  |some y=>exact h.hr.fz hg0 hz hvr rfl hf
 ·intro c o hc
  unfold Zdy
  rw[if_neg]
  intro e
  have:=(hbr.lt e).2
  omega
end
end Go.Abs
namespace Go.Abs
open Go Go.RowKit
abbrev w64 (x:Int):Int:=IntKind.i64.wrap x
def eI (x:Int):List AV:=[.int .i64 x]
def eB (x:Bool):List AV:=[.bool x]
def eU8 (x:Int):List AV:=[.int .u8 x]
def eS (x:ByteArray):List AV:=[.str x]
def eL {α:Type} (sz:Nat) (E:α→List AV) (l:List α):List AV:=[.sl sz (l.map E)]
structure A2 (α:Type) where
 x0:α
 x1:α
structure A3 (α:Type) where
 x0:α
 x1:α
 x2:α
structure A4 (α:Type) where
 x0:α
 x1:α
 x2:α
 x3:α
def A2.c {α:Type} (E:α→List AV) (a:A2 α):List AV:=E a.x0++E a.x1
def A3.c {α:Type} (E:α→List AV) (a:A3 α):List AV:=E a.x0++(E a.x1++E a.x2)
def A4.c {α:Type} (E:α→List AV) (a:A4 α):List AV:=E a.x0++(E a.x1++(E a.x2++E a.x3))
def at? {α:Type} (l:List α) (i:Int):Option α:=if 0≤i∧i<l.length then l[i.toNat]? else none
def ZmZ {α:Type} (b:Nat) (l x:List α):Option (List α):=if room (l.length+x.length) b then some (l++x) else none
def ZlT {α:Type} (l:List α) (lo hi:Int):Option (List α):=if (0≤lo∧lo≤hi)∧hi≤l.length then some ((l.drop lo.toNat).take (hi.toNat - lo.toNat)) else none
def nz? (y:Int):Option Unit:=if y=0 then none else some ()
def mk? (n:Int) (b:Nat):Option Unit:=if (0≤n∧n≤n)∧n*b≤140737488355328∧n<4611686018427387904 then some () else none
section
variable {α:Type}
theorem Zuf {l:List α}{i:Int}{x:α} (h:at? l i=some x):0≤i∧i<l.length∧l[i.toNat]?=some x:=by
 unfold at? at h
 split at h
 ·rename_i hh;exact⟨hh.1,hh.2,h⟩
 ·cases h
theorem ZaF {l:List α}{i:Int}{x:α} (h:at? l i=some x):ZbU i l.length=some i.toNat:=by
 obtain⟨h1,h2,_⟩:=Zuf h
 simp[ZbU,h1,h2]
theorem Zaw {β:Type} (E:α→β) {l:List α}{i:Int}{x:α} (h:at? l i=some x):(l.map E)[i.toNat]?=some (E x):=by
 obtain⟨_,_,h3⟩:=Zuf h
 simp[h3]
theorem Zf5 {b:Nat}{l x y:List α} (h:ZmZ b l x=some y):room (l.length+x.length) b∧y=l++x:=by
 unfold ZmZ at h
 split at h
 ·rename_i hh;exact⟨hh,(oi h).symm⟩
 ·cases h
theorem Zb4 {y:Int}{u:Unit} (h:nz? y=some u):¬ y=0:=by
 unfold nz? at h
 split at h
 ·cases h
 ·assumption
theorem ZhL {l:List α}{lo hi:Int}{y:List α} (h:ZlT l lo hi=some y):(0≤lo∧lo≤hi∧hi≤l.length)∧y=(l.drop lo.toNat).take (hi.toNat - lo.toNat):=by
 unfold ZlT at h
 split at h
 ·rename_i hh;exact⟨⟨hh.1.1,hh.1.2,hh.2⟩,(oi h).symm⟩
 ·cases h
theorem ZoH {n:Nat}{lo hi:Int}{k k':IntKind} (h:0≤lo∧lo≤hi∧hi≤n):Zbr n (some (.int k lo)) (some (.int k' hi))=some (lo.toNat,hi.toNat):=by
 have h1:0≤hi:=by omega
 have h2:lo≤max hi 0:=by omega
 simp[Zbr,Zfc,Zfd,h1,h2,h.1,h.2.2]
theorem Zko {n:Nat}{lo:Int}{k:IntKind} (h:0≤lo∧lo≤n∧(n:Int)≤n):Zbr n (some (.int k lo)) none=some (lo.toNat,n):=by
 simp[Zbr,Zfc,Zfd,h.1,h.2.1]
theorem Zkn {n:Nat}{hi:Int}{k':IntKind} (h:(0:Int)≤0∧0≤hi∧hi≤n):Zbr n none (some (.int k' hi))=some (0,hi.toNat):=by
 simp[Zbr,Zfc,Zfd,h.2.1,h.2.2]
theorem Znc {n:Nat}:Zbr n none none=some (0,n):=by simp[Zbr,Zfc,Zfd]
def ZdM {α:Type} (b:Nat) (l:List α) (x:α):Option (List α):=ZmZ b l [x]
theorem Zce {b:Nat}{l y:List α}{x:α} (h:ZdM b l x=some y):room (l.length+1) b:=by
 have:=(Zf5 h).1;simpa using this
theorem ZcJ {β:Type} (E:α→β) {b:Nat}{l y:List α}{x:α} (h:ZdM b l x=some y):l.map E++[E x]=y.map E:=by
 rw[(Zf5 h).2];simp
theorem Zcz {b:Nat}{l y:List α}{x:α} (h:ZdM b l x=some y):y.length=l.length+1:=by
 rw[(Zf5 h).2];simp
theorem Zcf {β:Type} (E:α→β) {b:Nat}{l y:List α}{x:α} (h:ZdM b l x=some y):(y.map E).take (l.length+1)=y.map E:=by
 rw[List.take_of_length_le];simp[Zcz h]
theorem Zjs {b:Nat}{l y x:List α} (h:ZmZ b l x=some y):room (l.length+x.length) b:=(Zf5 h).1
theorem Zlv {β:Type} (E:α→β) {b:Nat}{l y x:List α} (h:ZmZ b l x=some y):l.map E++x.map E=y.map E:=by
 rw[(Zf5 h).2];simp
theorem Zjr {b:Nat}{l y x:List α} (h:ZmZ b l x=some y):y.length=l.length+x.length:=by
 rw[(Zf5 h).2];simp
theorem Zjt {β:Type} (E:α→β) {b:Nat}{l y x:List α} (h:ZmZ b l x=some y):(y.map E).take (l.length+x.length)=y.map E:=by
 rw[List.take_of_length_le];simp[Zjr h]
def ZiN (n b:Nat):Option Unit:=if room n b then some () else none
theorem ZgM {n b:Nat}{u:Unit} (h:ZiN n b=some u):room n b:=by
 unfold ZiN at h
 split at h
 ·assumption
 ·cases h
def ZlP {α:Type} (l:List α) (i:Int) (x:α):Option (List α):=if 0≤i∧i<l.length then some (l.set i.toNat x) else none
theorem ZjK {β:Type} (E:α→β) {l y:List α}{i:Int}{x:α} (h:ZlP l i x=some y):(l.map E).set i.toNat (E x)=y.map E:=by
 unfold ZlP at h
 split at h
 ·rw[←oi h,List.map_set]
 ·cases h
theorem ZcY {l y:List α}{i:Int}{x:α} (h:ZlP l i x=some y):y.length=l.length:=by
 unfold ZlP at h
 split at h
 ·rw[←oi h,List.length_set]
 ·cases h
theorem Zdd {β:Type} (E:α→β) {l y:List α}{i:Int}{x:α} (h:ZlP l i x=some y):(y.map E).take l.length=y.map E:=by
 rw[List.take_of_length_le];simp[ZcY h]
theorem Zn2 {l:List α}{lo hi:Int}{y:List α}{k k':IntKind} (h:ZlT l lo hi=some y):Zbr l.length (some (.int k lo)) (some (.int k' hi))=some (lo.toNat,hi.toNat):=ZoH (ZhL h).1
theorem ZeK {l:List α}{lo:Int}{y:List α}{k:IntKind} (h:ZlT l lo l.length=some y):Zbr l.length (some (.int k lo)) none=some (lo.toNat,l.length):=Zko (ZhL h).1
theorem ZeJ {l:List α}{hi:Int}{y:List α}{k:IntKind} (h:ZlT l 0 hi=some y):Zbr l.length none (some (.int k hi))=some (0,hi.toNat):=Zkn (ZhL h).1
theorem ZlU {β:Type} (E:α→β) {l:List α}{lo hi:Int}{y:List α} (h:ZlT l lo hi=some y):((l.map E).drop lo.toNat).take (hi.toNat - lo.toNat)=y.map E:=by
 rw[(ZhL h).2,List.map_take,List.map_drop]
theorem Zn4 {β:Type} (E:α→β) {l:List α}{lo:Int}{y:List α} (h:ZlT l lo l.length=some y):((l.map E).drop lo.toNat).take (l.length - lo.toNat)=y.map E:=by
 have:=ZlU E h;simpa using this
theorem Zn3 {β:Type} (E:α→β) {l:List α}{hi:Int}{y:List α} (h:ZlT l 0 hi=some y):((l.map E).drop 0).take (hi.toNat - 0)=y.map E:=by
 have:=ZlU E h;simpa using this
def ls? (n:Nat) (lo:Int):Option Unit:=if 0≤lo∧lo≤n then some () else none
theorem Zpa {n:Nat}{lo:Int}{k:IntKind}{u:Unit} (e:ls? n lo=some u):Zbr n (some (.int k lo)) none=some (lo.toNat,n):=by
 unfold ls? at e
 split at e
 ·rename_i h;exact Zko ⟨h.1,h.2,Int.le_refl _⟩
 ·cases e
theorem Zvr {n:Nat}{lo:Int}{u:Unit} (e:ls? n lo=some u):lo.toNat+(n - lo.toNat)≤n:=by
 unfold ls? at e
 split at e
 ·omega
 ·cases e
def hs? (n:Nat) (hi:Int):Option Unit:=if 0≤hi∧hi≤n then some () else none
theorem ZoW {n:Nat}{hi:Int}{k:IntKind}{u:Unit} (e:hs? n hi=some u):Zbr n none (some (.int k hi))=some (0,hi.toNat):=by
 unfold hs? at e
 split at e
 ·rename_i h;exact Zkn ⟨Int.le_refl _,h.1,h.2⟩
 ·cases e
theorem Zvp {n:Nat}{hi:Int}{u:Unit} (e:hs? n hi=some u):hi.toNat≤n:=by
 unfold hs? at e
 split at e
 ·omega
 ·cases e
def s3? (n:Nat) (l h m:Int):Option Unit:=if (0≤l∧l≤h)∧h≤m∧m≤n then some () else none
theorem Ztp {n:Nat}{l h m:Int}{u:Unit} (e:s3? n l h m=some u):(0≤l∧l≤h)∧h≤m∧m≤n:=by
 unfold s3? at e
 split at e
 ·assumption
 ·cases e
theorem Zj1 {β:Type} (E:α→β) (l:List α) (a m:Nat):((l.map E).drop a).take m=((l.drop a).take m).map E:=by
 rw[List.map_take,List.map_drop]
theorem Zf8 {β:Type} (E:α→β) (l:List α) (m:Nat):(l.map E).take m=(l.take m).map E:=by
 rw[List.map_take]
theorem ZsU {n:Int}{b:Nat}{u:Unit} (h:mk? n b=some u):(0≤n∧n≤n)∧n*b≤140737488355328∧n<4611686018427387904:=by
 unfold mk? at h
 split at h
 ·assumption
 ·cases h
theorem Zlb {β:Type} (E:α→β) (l:List α):(l.map E).take l.length=l.map E:=by
 rw[List.take_of_length_le (by simp)]
end
structure Ice (cap:List AV):Prop where
 sh:∀ d,AV.shL d cap=cap
 frz:∀ G,AV.frzL G cap=some cap
 br:∀ G F,AV.brL G F cap=some cap
 refs:AV.refsL cap=[]
 imp:∀ k,AV.impL k cap=cap
 ren:∀ ks,AV.renL ks cap=some cap
 un:∀ d,AV.unL d cap=some cap
theorem Zhm (d:Nat):∀ a b:List AV,AV.shL d (a++b)=AV.shL d a++AV.shL d b
 |[],b=>rfl
 |x::a,b=>by simp only[List.cons_append,AV.shL,Zhm d a b]
section
variable {P:Program}{T:Tys}{n:Nat}{Φ:Exit→St→Prop}
theorem Zad {rs:List ResultVar}{st:St}{v:AV} (h0:st.low=[]) (h1:yOK ((Zcu T st rs).bind (fun xs=>(Zb0 xs).frz st.get)) v):ZbX P n (Zlp T rs fun y=>NL y v) (.fin .ret st):=by
 unfold yOK at h1
 split at h1
 ·rename_i y hy
  obtain⟨xs,h3,h4⟩:=Option.bind_eq_some_iff.1 hy
  exact⟨h0,xs,y,h3,h4,h1⟩
 ·exact h1.elim
theorem Zaf {B:St→Prop}{st:St} (h:B st):ZbX P n Φ (.back B st):=h
end
attribute [go_sem] ZlN doD Znt Znd Zpy Zn5 Znq Zmy Zmv Zgj ZlD
 Int.reduceEq Int.reduceLT Int.reduceLE List.set_cons_zero List.set_cons_succ List.replicate_succ List.replicate_zero List.length_replicate Nat.zero_lt_succ Bool.not_not Zr1 ZnC AV.fz AV.fzL Blk.fz Option.getD_some Option.getD_none
 Nat.sub_zero ZfB ZeF ZcQ Zg5 gvL gv1 ZfR ZiM ZfI Zg9 Zli
 AV.br AV.brL boxF only List.contains_cons List.contains_nil decide_true decide_false Bool.or_true Bool.or_false Bool.and_true Bool.true_and Bool.and_false Bool.false_and Prod.mk.injEq Znc Zlb Zhm
 Zrj Zrn Zrm ZrE ZpC ZpB ZpA List.isEmpty_nil List.isEmpty_cons Bool.true_or Bool.false_or
 eI eB eU8 eS eL A2.c A3.c A4.c
 St.norm ZlM ZgL AV.ren AV.renL Zra idx Blk.ren
 Nat.zero_add Nat.add_zero Ze9
 List.reverse_cons List.reverse_nil List.map_append
end Go.Abs
namespace Go.Abs
open Go Go.RowKit
set_option linter.unusedSectionVars false
section
variable [Md] {P:Program}{T:Tys}{n:Nat}{Φ:Exit→St→Prop}
def gOK (o:Option (List AV)) (f:Option Fra) (args0:List AV) (fr0:Fra):Prop:=o=some args0∧f=some fr0
theorem Zd9 (hT:ZaL P T) {f:FuncId}{args args0:List AV}{fr0:Fra}{y:AV}{fr:Fra}{dst:Option Tmp}{drop:List Nat}{todo:List It}{st:St} (m:Nat) (rs gs:List Nat) (hp:Zb7 P f args0 fr0 (fun y' fr'=>y'=y∧fr'=fr))
  (hz:gOK (gvL gs (only (Zam.get ([]::st.fr::st.low)) (rs.map fun k=>(1,k))) (boxF (only (Zam.get ([]::st.fr::st.low)) (rs.map fun k=>(1,k))) 5) args) (ZfR (Ze6 st.fr rs) 0 gs) args0 fr0) (hnd:(decide gs.Nodup&&decide (gs.length≤16))=true)
  (h:ZbX P n Φ (run T m todo (st.took dst drop y fr (Ze6 (Ze6 st.fr rs) gs::st.low)))):ZbX P n Φ (.call f args dst drop todo st):=by
 have hk:=Zag hT m todo _ h
 refine Zgu (Zb7.used 5 rs gs hp hz.1 hz.2 hnd) ?_
 rintro y' fr' H' ⟨⟨rfl,rfl⟩,rfl⟩
 exact hk
theorem Zb7.own {f:FuncId}{args:List AV}{fr0:Fra}{sz et:Nat}{ls:List (List AV)}
  (hp:Zb7 P f args fr0 (fun y fr=>∃ m g es,y=.loc 0 0 sz 0 m g∧fr=[(0,.arr et sz es)]∧es.length=g∧m≤g∧es.take m=ls)):
  Zb7 P f args fr0 (fun y fr=>y=.loc 0 0 sz 0 ls.length ls.length∧fr=[(0,.arr et sz ls)]):=by
 refine⟨hp.1,fun H N0 W0 fm t ts w vs hH ht hv=>Calls.mono (hp.2 H N0 W0 fm t ts w vs hH ht hv) ?_⟩
 rintro e w' ⟨v,y,fr',fm',t',ts',rfl,⟨m,g,es,rfl,rfl,hg,hm,hls⟩,hhr,hvr,hup,htl,hno,h16⟩
 have ZbS:ls.length=m:=by rw[←hls,List.length_take];omega
 have hb:=hhr.blk 0 0 _ (show Zam.get ([(0,Blk.arr et sz es)]::H) 0 0=some (.arr et sz es) by rfl)
 obtain⟨x,hx1,hx2,hx3⟩:∃ x:TB,BR fm' [] w' N0 (some x) (.arr et sz ls)∧tbc (some x)=tbc (tb (t'::ts') 0 0)∧∀ ts1:List Tie,tb ts1 0 0=some x→VR fm' ts1 (.loc 0 0 sz 0 ls.length ls.length) v:=by
  generalize htt:tb (t'::ts') 0 0=tt at hb
  cases hb with
  |nil=>
   simp at hls
   subst hls
   refine⟨.arr 0 none,.nil _ _,rfl,?_⟩
   intro ts1 h1
   cases hvr with
   |locGone _ _ _ _ _ _ a cp h hn ha=>rw[htt]at h;cases h
   |locOld _ _ _ _ _ _ a cp m' c h hlt hn ha=>rw[htt]at h;cases h;simp at hlt
   |locNil _ _ _ a h=>exact .locNil _ _ _ _ h1
   |loc _ _ _ _ _ _ c cap cp a h hin hnc hcc ha=>rw[htt]at h;cases h
  |arr _ _ _ c cap hN hA=>
   obtain⟨cells,c1,c2,c3,c4,c5,c6,c7⟩:=hA
   refine⟨.arr ls.length (some (c,cap)),.arr et sz ls c cap hN ⟨cells,c1,c2,by omega,c4,?_,c6,?_⟩,rfl,?_⟩
   ·rw[←hls];exact fun d hd=>c5 d (List.mem_of_mem_take hd)
   ·intro i cc o x v hi ho hc
    rw[←hls,List.getElem?_take]at hi
    split at hi
    ·exact c7 i cc o x v hi ho hc
    ·cases hi
   ·intro ts1 h1
    cases hvr with
    |locGone _ _ _ _ _ _ a cp h hn ha=>rw[htt]at h;cases h
    |locOld _ _ _ _ _ _ a cp m' c h hlt hn ha=>
     rw[htt]at h
     simp only[oE,TB.arr.injEq]at h
     omega
    |locNil _ _ _ a h=>rw[htt]at h;simp at h
    |loc _ _ _ _ _ _ c' cap' cp a h hin hnc hcc ha=>
     rw[htt]at h
     simp only[oE,TB.arr.injEq,Prod.mk.injEq]at h
     obtain⟨_,rfl,rfl⟩:=h
     rw[ZbS]at h1 ⊢
     exact .loc _ _ _ _ _ _ c cap cp a h1 (by omega) hnc hcc ha
 have src:∀ l k b,Zam.get ([(0,Blk.arr et sz ls)]::H) l k=some b→(l=0∧k=0∧b=.arr et sz ls)∨(l≠0∧Zam.get ([(0,Blk.arr et sz es)]::H) l k=some b):=by
  intro l k b hg
  cases l with
  |zero=>
   simp only[Zam.get,look]at hg
   split at hg
   ·rename_i e;exact .inl ⟨rfl,e.symm,(oi hg).symm⟩
   ·cases hg
  |succ l=>exact .inr ⟨by omega,by simpa [Zam.get] using hg⟩
 have old0:Zam.get ([(0,Blk.arr et sz es)]::H) 0 0=some (.arr et sz es):=rfl
 have hT:tb ((fun k=>if k=0 then some x else none)::ts') 0 0=some x:=rfl
 refine⟨v,_,_,fm',fun k=>if k=0 then some x else none,ts',rfl,⟨rfl,rfl⟩,⟨by have:=hhr.len;simpa using this,?_,?_,hhr.fms,?_,hhr.bel,hhr.size,hhr.oth⟩,hx3 _ hT,hup,htl,hno,fun k hk=>by show (if k=0 then some x else none)=none;rw[if_neg (by omega)]⟩
 ·intro l k b hg
  rcases src l k b hg with ⟨rfl,rfl,rfl⟩|⟨hl,hg'⟩
  ·rw[hT]
   exact hx1.mono (Zdq.refl _) (ZaA.nil _) (fun _ _=>rfl)
  ·obtain⟨l,rfl⟩:∃ q,l=q+1:=⟨l - 1,by omega⟩
   have:=hhr.blk (l+1) k b hg'
   simpa [tb] using this
 ·intro l1 k1 l2 k2 b1 b2 c g1 g2 t1 t2
  have conv:∀ l k b c,Zam.get ([(0,Blk.arr et sz ls)]::H) l k=some b→tbc (tb ((fun k=>if k=0 then some x else none)::ts') l k)=some c→∃ b',Zam.get ([(0,Blk.arr et sz es)]::H) l k=some b'∧tbc (tb (t'::ts') l k)=some c:=by
   intro l k b c g t
   rcases src l k b g with ⟨rfl,rfl,rfl⟩|⟨hl,hg'⟩
   ·rw[hT,hx2]at t;exact⟨_,old0,t⟩
   ·obtain⟨l,rfl⟩:∃ q,l=q+1:=⟨l - 1,by omega⟩
    exact⟨b,hg',by simpa [tb] using t⟩
  obtain⟨b1',g1',t1'⟩:=conv l1 k1 b1 c g1 t1
  obtain⟨b2',g2',t2'⟩:=conv l2 k2 b2 c g2 t2
  exact hhr.inj l1 k1 l2 k2 b1' b2' c g1' g2' t1' t2'
 ·intro l k b c o g t
  rcases src l k b g with ⟨rfl,rfl,rfl⟩|⟨hl,hg'⟩
  ·rw[hT,hx2]at t;exact hhr.fmd 0 0 _ c o old0 t
  ·obtain⟨l,rfl⟩:∃ q,l=q+1:=⟨l - 1,by omega⟩
   exact hhr.fmd (l+1) k b c o hg' (by simpa [tb] using t)
def oOK (fr:Fra) (sz et:Nat) (ls:List (List AV)):Option AV→Prop
 |some (.loc 0 k sz' 0 m g)=>sz'=sz∧(match look fr k with
  |some (.arr et' sz'' es)=>et'=et∧sz''=sz∧es.length=g∧m≤g∧es.take m=ls
  |_=>False)
 |_=>False
theorem Zdf {rs:List ResultVar}{H:Zam}{st:St}{sz et:Nat}{ls:List (List AV)} (h0:st.low=H) (h1:oOK st.fr sz et ls ((Zcu T st rs).map Zb0)):
  ZbX P n (ZrA T rs H (fun y fr=>∃ m g es,y=.loc 0 0 sz 0 m g∧fr=[(0,.arr et sz es)]∧es.length=g∧m≤g∧es.take m=ls)) (.fin .ret st):=by
 unfold oOK at h1
 split at h1
 ·rename_i k sz' m g hr
  rw[mS]at hr
  obtain⟨xs,h2,h3⟩:=hr
  obtain⟨rfl,h4⟩:=h1
  split at h4
  ·rename_i et' sz'' es hk
   obtain⟨rfl,rfl,h5,h6,h7⟩:=h4
   refine⟨xs,h2,?_⟩
   rw[h3]
   exact .own [k] (.loc 0 0 sz'' 0 m g) [(0,.arr et' sz'' es)] (by simp) (by simp) (by simp[AV.ren,Zra,idx]) (by simp[ZgL,hk,Blk.ren]) ⟨h0,m,g,es,rfl,rfl,h5,h6,h7⟩
  ·exact h4.elim
 ·exact h1.elim
end
end Go.Abs
namespace Go.Abs
open Go Go.RowKit
set_option linter.unusedSectionVars false
attribute [go_sem] Int.toNat_natCast
section
variable [Md] {P:Program}{T:Tys}{n:Nat}{Φ:Exit→St→Prop}
end
end Go.Abs
namespace Go.Abs
open Go Go.RowKit
set_option linter.unusedSectionVars false
variable [Md]
theorem Zb7.of_pcall {P:Program}{f:FuncId}{args:List AV}{R:AV→Prop} (hp:Za0 P f args R) (hz:AV.frzL (fun _ _=>none) args=some args):Zb7 P f args [] (fun y fr=>R y∧fr=[]):=by
 refine⟨hp.1,fun H N0 W0 fm t ts w vs hH ht hv=>?_⟩
 refine Calls.mono (hp.2 fm w vs hH.fms (hH.bareL hv hz)) ?_
 rintro e w' ⟨v,y,fm',rfl,hR,hin,hvr,hup,hb⟩
 exact⟨v,y,[],fm',t,ts,rfl,⟨hR,rfl⟩,hH.up hb hup hin,hvr.mono (Zdq.refl _) (ZaA.nil _),hup.low hH.size,ZaA.refl _,fun _ _ h=>h,ht⟩
def Zv3 (o:Option AV) (f:Option Fra) (y:AV) (fr:Fra):Prop:=o=some y∧f=some fr
theorem ZnF {P:Program}{T:Tys}{n:Nat}{rs:List ResultVar}{H:Zam}{st:St}{e:Exit}{y:AV}{fr:Fra} (ks:List Nat) (he:e=.ret∨e=.normal) (h0:st.low=H) (hn:(decide ks.Nodup&&decide (ks.length≤16))=true)
  (h1:Zv3 ((Zcu T st rs).bind fun xs=>(Zb0 xs).ren ks) (ZgL ks st.fr 0 ks) y fr):ZbX P n (ZrA T rs H (fun y' fr'=>y'=y∧fr'=fr)) (.fin e st):=by
 obtain⟨h1,h2⟩:=h1
 obtain⟨xs,h3,h4⟩:=Option.bind_eq_some_iff.1 h1
 simp only[Bool.and_eq_true,decide_eq_true_eq]at hn
 have:∃ xs,Zcu T st rs=some xs∧Gives (fun y' fr' H'=>H'=H∧y'=y∧fr'=fr) (Zb0 xs) st:=
  ⟨xs,h3,.own ks y fr hn.1 hn.2 h4 h2 ⟨h0,rfl,rfl⟩⟩
 rcases he with rfl|rfl<;>exact this
end Go.Abs
namespace Go.Abs
attribute [go_sem] List.all_nil List.all_cons List.map_replicate
end Go.Abs
