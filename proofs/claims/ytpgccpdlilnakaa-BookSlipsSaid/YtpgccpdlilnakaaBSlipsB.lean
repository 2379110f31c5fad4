/-
  Part 2 of the proof: a machine over named blocks, what each function computes, and what follows. No condition.
-/
import Derived.Orders
import Derived.Shelf.Sort.Plain
import Derived.Shelf.Slices.In.SortNone
import Derived.ReadAgain
import Derived.ChangeSame
import Derived.SizedLaws
import Derived.OpenShut
import Derived.ProofKit
import Derived.Test.YtpgccpdlilnakaaBSlipsA
set_option linter.unusedVariables false
set_option linter.unusedSimpArgs false
set_option linter.all false
namespace Go.Abs
open Go Go.RowKit
mutual
def AV.imp (kb:Nat):AV→AV
 |.loc l k e i n g=>.loc (l - 1) (if l=0 then kb+k else k) e i n g
 |.inn l k e o n=>.inn (l - 1) (if l=0 then kb+k else k) e o n
 |.ptr l k o=>.ptr (l - 1) (if l=0 then kb+k else k) o
 |.eptr l k e i o g=>.eptr (l - 1) (if l=0 then kb+k else k) e i o g
 |.fn f a b=>.fn f (AV.impL kb a) (AV.impL kb b)
 |.ifc t v=>.ifc t (v.imp kb)
 |.agg cs=>.agg (AV.impL kb cs)
 |.tup vs=>.tup (AV.impL kb vs)
 |.bool b=>.bool b
 |.int k n=>.int k n
 |.str s=>.str s
 |.nil=>.nil
 |.sl e es=>.sl e es
 |.pnil=>.pnil
 |.rptr e es i o=>.rptr e es i o
 |.fnil=>.fnil
 |.inil=>.inil
 |.dead=>.dead
def AV.impL (kb:Nat):List AV→List AV
 |[]=>[]
 |x::l=>x.imp kb::AV.impL kb l
end
def Blk.imp (kb:Nat):Blk→Blk
 |.arr et e es=>.arr et e es
 |.box cs=>.box (AV.impL kb cs)
def ZhS (kb:Nat):Fra→Fra→Fra
 |[],f=>f
 |(c,b)::R,f=>ins (ZhS kb R f) (kb+c) (b.imp kb)
def St.took (st:St) (dst:Option Tmp) (drop:List Nat) (v:AV) (R:Fra):Zar→St
 |[]=>st
 |f::H=>⟨ZeW (ZhL st.tm dst (v.imp st.nx)) drop,ZhS st.nx R f,H,st.nx+16,st.nt⟩
def Zci:Tie:=fun _=>none
def ZmF (P : Program) (f : FuncId) : Prop := ∃ fn, P.funcs[f]? = some fn ∧ (fn.name == "runtime.NumGoroutine") = false ∧ fn.body.isNone = false
def ZfU (P:Program) (f:FuncId) (args:List AV) (H:Zar) (R:AV→Fra→Zar→Prop):Prop:=
 ZmF P f∧∀ N0 W0 fm ts w vs,HR N0 W0 fm ts H w→VRs fm (Zci::ts) args vs→
  Calls P f vs.toArray w fun e w'=>∃ v av fr' H' fm' t' ts',e=.returned v∧R av fr' H'∧H'.length=H.length∧HR N0 W0 fm' (t'::ts') (fr'::H') w'∧VR fm' (t'::ts') av v∧FmUp N0 fm fm'∧ZaS ts ts'∧
   (∀ l k,tb ts l k=none→tb ts' l k=none)∧∀ k,16≤k→t' k=none
def ZgH (P:Program) (f:FuncId) (args:List AV) (H:Zar) (R:AV→Fra→Zar→Prop) (Rp:List PanicEntry→Zar→Prop):Prop:=
 ZmF P f∧∀ N0 W0 fm ts w vs,HR N0 W0 fm ts H w→VRs fm (Zci::ts) args vs→
  Calls P f vs.toArray w fun e w'=>(∃ v av fr' H' fm' t' ts',e=.returned v∧R av fr' H'∧H'.length=H.length∧HR N0 W0 fm' (t'::ts') (fr'::H') w'∧VR fm' (t'::ts') av v∧FmUp N0 fm fm'∧ZaS ts ts'∧
   (∀ l k,tb ts l k=none→tb ts' l k=none)∧∀ k,16≤k→t' k=none)∨
   ∃ ch H' fm' ts',e=.panicked ch∧Rp ch H'∧H'.length=H.length∧HR N0 W0 fm' ts' H' w'∧FmUp N0 fm fm'∧ZaS ts ts'∧∀ l k,tb ts l k=none→tb ts' l k=none
theorem ZfU.toP {P:Program}{f:FuncId}{args:List AV}{H:Zar}{R:AV→Fra→Zar→Prop} (h:ZfU P f args H R):ZgH P f args H R (fun _ _=>False):=
 ⟨h.1,fun N0 W0 fm ts w vs a b=>(h.2 N0 W0 fm ts w vs a b).mono fun _ _ q=>.inl q⟩
section
variable [Md]
def Zgt (n:Nat) (st:St) (args:List AV) (st':St) (args':List AV):Prop:=
 ∀ N0 W0 a w fm ts vs,SR N0 W0 n st a w fm ts→VRs fm (Zci::ts) args vs→∃ fm' ts',SR N0 W0 n st' a w fm' ts'∧Later N0 fm ts fm' ts'∧VRs fm' (Zci::ts') args' vs
theorem Zgt.refl (n:Nat) (st:St) (args:List AV):Zgt n st args st args:=fun _ _ _ _ fm ts _ h hv=>⟨fm,ts,h,Later.refl _ _,hv⟩
def AK (P:Program) (n:Nat) (Φ:Exit→St→Prop) (todo:List It) (st:St):Prop:=
 ∀ N0 W0 fm ts a w ct Q,SR N0 W0 n st a w fm ts→Sim N0 W0 n fm ts todo ct→
  (∀ e st' a' w' fm' ts',Φ e st'→SR N0 W0 n st' a' w' fm' ts'→Later N0 fm ts fm' ts'→Q e a' w')→K P Q ct .normal a w
def Zcy (P:Program) (n:Nat) (Φ:Exit→St→Prop):Ev→Prop
 |.stuck=>False
 |.fin e st=>Φ e st
 |.back B st=>B st
 |.call f args dst drop todo st=>∃ st1 args1 R Rp,Zgt n st args st1 args1∧ZgH P f args1 (st1.fr::st1.low) R Rp∧(∀ v fr H,R v fr H→AK P n Φ todo (st1.took dst drop v fr H))∧∀ ch H,Rp ch H→Φ (.panic ch) (st1.withHeap H)
 |.loop b todo st=>AK P n Φ (.sc (.loop b)::todo) st
 |.throw v st=>∃ t x,v=.ifc t x∧∀ fm ts u,VR fm ts x u→Φ (.panic [{ v:=.iface t u,recovered:=false }]) st
 |.either es t s1 s2=>(es=[]→AK P n Φ t s1)∧AK P n Φ t s2
 |.draw ops bef drop todo st=>AK P n Φ (.sc (.dreg ops bef drop)::todo) st
end
theorem Zbw (kb:Nat):∀ cs:List AV,(AV.impL kb cs).length=cs.length
 |[]=>rfl
 |x::l=>by simp[AV.impL,Zbw kb l]
theorem Zco (kb:Nat):∀ (cs:List AV) (i:Nat),(AV.impL kb cs)[i]?=(cs[i]?).map (AV.imp kb)
 |[],i=>by simp[AV.impL]
 |x::l,0=>by simp[AV.impL]
 |x::l,i+1=>by simp[AV.impL,Zco kb l i]
theorem ZhX (kb:Nat) (x:AV):(x.imp kb).flat=x.flat:=by
 cases x<;>simp[AV.imp,AV.flat]
def Zgw (kb:Nat) (t' h:Tie):Tie:=fun k=>if kb≤k then t' (k - kb) else h k
theorem ZgS {kb:Nat}{t' h:Tie}{rest:List Tie} (hn:∀ k,kb≤k→h k=none) {l k:Nat}{x:TB} (e:tb (t'::h::rest) l k=some x):
  tb (Zgw kb t' h::rest) (l - 1) (if l=0 then kb+k else k)=some x:=by
 cases l with
 |zero=>simpa [tb,Zgw] using e
 |succ l=>
  cases l with
  |zero=>
   simp only[tb]at e
   have hk:¬ kb≤k:=fun hk=>by rw[hn k hk]at e;cases e
   simp[tb,Zgw,hk,e]
  |succ l=>simpa [tb] using e
theorem VR.imp {fm:FM}{kb:Nat}{t' h:Tie}{rest:List Tie} (hn:∀ k,kb≤k→h k=none) {ts0:List Tie}{x:AV}{v:Value} (hv:VR fm ts0 x v):ts0=t'::h::rest→VR fm (Zgw kb t' h::rest) (x.imp kb) v:=by
 induction hv with
 |bool b=>intro _;exact .bool b
 |int k n=>intro _;exact .int k n
 |str s=>intro _;exact .str s
 |nil=>intro _;exact .nil
 |slNil e a cap=>intro _;exact .slNil e a cap
 |sl es cb off esz cap u hcap h1 h2 h3 h4 _=>intro _;exact .sl es cb off esz cap u hcap h1 h2 h3 h4
 |locGone l k esz i n g a cp h hn' ha=>rintro rfl;exact .locGone _ _ esz i n g a cp (ZgS hn h) hn' ha
 |locOld l k esz i n g a cp m' c h hlt hn' ha=>rintro rfl;exact .locOld _ _ esz i n g a cp m' c (ZgS hn h) hlt hn' ha
 |locNil l k esz a h=>rintro rfl;exact .locNil _ _ esz a (ZgS hn h)
 |loc l k esz i n g c cap cp a h hn' hnc hc ha=>rintro rfl;exact .loc _ _ esz i n g c cap cp a (ZgS hn h) hn' hnc hc ha
 |inn l k esz o n c cp a h hn' ha=>rintro rfl;exact .inn _ _ esz o n c cp a (ZgS hn h) hn' ha
 |pnil=>intro _;exact .pnil
 |ptr l k o c h=>rintro rfl;exact .ptr _ _ o c (ZgS hn h)
 |eptrGone l k esz i o g a h=>rintro rfl;exact .eptrGone _ _ esz i o g a (ZgS hn h)
 |eptrOld l k esz i o g a m' c h hlt=>rintro rfl;exact .eptrOld _ _ esz i o g a m' c (ZgS hn h) hlt
 |eptr l k esz i o g c cap h=>rintro rfl;exact .eptr _ _ esz i o g c cap (ZgS hn h)
 |rptr es i o cb off esz u h1 h2 h3 h4 _=>intro _;exact .rptr es i o cb off esz u h1 h2 h3 h4
 |fnil=>intro _;exact .fnil
 |fn f first cap vf vc h1 h2 _ _ ih1 ih2=>
  intro e
  simp only[AV.imp]
  refine .fn f _ _ vf vc (by rw[Zbw];exact h1) (by rw[Zbw];exact h2) ?_ ?_
  ·intro i x v hx hv
   rw[Zco,mS]at hx
   obtain⟨y,hy,rfl⟩:=hx
   exact ih1 i y v hy hv e
  ·intro i x v hx hv
   rw[Zco,mS]at hx
   obtain⟨y,hy,rfl⟩:=hx
   exact ih2 i y v hy hv e
 |inil=>intro _;exact .inil
 |ifc t x v _ ih=>intro e;exact .ifc t _ v (ih e)
 |agg cs vs h1 h2 _ ih=>
  intro e
  simp only[AV.imp]
  refine .agg _ vs (by rw[Zbw];exact h1) ?_ ?_
  ·intro x hx
   obtain⟨i,hi⟩:=List.mem_iff_getElem?.1 hx
   rw[Zco,mS]at hi
   obtain⟨y,hy,rfl⟩:=hi
   rw[ZhX];exact h2 y (List.mem_of_getElem? hy)
  ·intro i x v hx hv
   rw[Zco,mS]at hx
   obtain⟨y,hy,rfl⟩:=hx
   exact ih i y v hy hv e
 |tup xs vs h1 _ ih=>
  intro e
  simp only[AV.imp]
  refine .tup _ vs (by rw[Zbw];exact h1) ?_
  intro i x v hx hv
  rw[Zco,mS]at hx
  obtain⟨y,hy,rfl⟩:=hx
  exact ih i y v hy hv e
 |dead v=>intro _;exact .dead v
theorem Zhn (kb:Nat) (f:Fra):∀ (R:Fra) (k:Nat),look (ZhS kb R f) k=if kb≤k then (match look R (k - kb) with|some b=>some (b.imp kb)|none=>look f k) else look f k
 |[],k=>by simp[ZhS,look]
 |(c,b)::R,k=>by
  have ih:=Zhn kb f R k
  simp only[ZhS,ZdR,ih,look]
  by_cases hk:kb+c=k
  ·subst hk
   simp
  ·by_cases hkb:kb≤k
   ·have:¬ c=k - kb:=by omega
    simp[hk,hkb,this]
   ·simp[hk,hkb]
theorem HR.imp {N0:Nat}{W0:World}{fm:FM}{t' h:Tie}{rest:List Tie}{R f:Fra}{H:Zar}{w:World} (hr:HR N0 W0 fm (t'::h::rest) (R::f::H) w) {kb:Nat} (hn:∀ k,kb≤k→h k=none):
  HR N0 W0 fm (Zgw kb t' h::rest) (ZhS kb R f::H) w:=by
 have hT:ZaS (h::rest) (Zgw kb t' h::rest):=by
  intro l k
  cases l with
  |zero=>
   simp only[tb,Zgw]
   split
   ·rename_i hk;rw[hn k hk];trivial
   ·exact ZeL.refl _
  |succ l=>exact ZeL.refl _
 have src:∀ l k b,Zar.get (ZhS kb R f::H) l k=some b→(l=0∧kb≤k∧∃ b0,look R (k - kb)=some b0∧b=b0.imp kb)∨
   (¬ (l=0∧kb≤k)∧Zar.get (R::f::H) (l+1) k=some b∧tb (Zgw kb t' h::rest) l k=tb (t'::h::rest) (l+1) k):=by
  intro l k b hg
  cases l with
  |zero=>
   simp only[Zar.get,Zhn]at hg
   by_cases hk:kb≤k
   ·rw[if_pos hk]at hg
    cases hR:look R (k - kb) with
    |some b0=>
     rw[hR]at hg
     exact .inl ⟨rfl,hk,b0,rfl,(oi hg).symm⟩
    |none=>
     rw[hR]at hg
     have:=hr.blk 1 k b (by simpa [Zar.get] using hg)
     simp only[tb,hn k hk]at this
     cases this
   ·rw[if_neg hk]at hg
    exact .inr ⟨fun hh=>hk hh.2,by simpa [Zar.get] using hg,by simp[tb,Zgw,hk]⟩
  |succ l=>exact .inr ⟨fun hh=>by omega,by simpa [Zar.get] using hg,by simp[tb]⟩
 have own:∀ k,kb≤k→tb (Zgw kb t' h::rest) 0 k=tb (t'::h::rest) 0 (k - kb):=by
  intro k hk;simp[tb,Zgw,hk]
 refine⟨by have:=hr.len;simp at this ⊢;exact this,?_,?_,hr.fms,?_,hr.bel,hr.size,hr.oth⟩
 ·intro l k b hg
  rcases src l k b hg with ⟨rfl,hk,b0,hb0,rfl⟩|⟨hne,hg',ht⟩
  ·rw[own k hk]
   have:=hr.blk 0 (k - kb) b0 (by simpa [Zar.get] using hb0)
   simp only[List.drop_zero]at this ⊢
   generalize tb (t'::h::rest) 0 (k - kb)=tt at this
   cases this with
   |box c cs hN hB=>
    obtain⟨cells,et,c1,c2,c3⟩:=hB
    refine .box c _ hN ⟨cells,et,c1,by rw[Zbw];exact c2,?_⟩
    intro o x v hx hv
    rw[Zco,mS]at hx
    obtain⟨y,hy,rfl⟩:=hx
    have:=c3 o y v hy hv
    exact⟨by rw[ZhX];exact this.1,this.2.imp hn rfl⟩
   |nil et esz=>exact .nil et esz
   |arr et esz es c cap hN hA=>exact .arr et esz es c cap hN hA
  ·rw[ht]
   have:=hr.blk (l+1) k b hg'
   refine this.mono (Zdw.refl _) ?_ (fun _ _=>rfl)
   have e1:List.drop (l+1) (t'::h::rest)=List.drop l (h::rest):=by simp
   rw[e1]
   exact hT.drop l
 ·intro l1 k1 l2 k2 b1 b2 c g1 g2 t1 t2
  rcases src l1 k1 b1 g1 with ⟨rfl,hk1,b10,hb1,rfl⟩|⟨hne1,hg1,ht1⟩
  ·rw[own k1 hk1]at t1
   rcases src l2 k2 b2 g2 with ⟨rfl,hk2,b20,hb2,rfl⟩|⟨hne2,hg2,ht2⟩
   ·rw[own k2 hk2]at t2
    have:=hr.inj 0 (k1 - kb) 0 (k2 - kb) b10 b20 c (by simpa [Zar.get] using hb1) (by simpa [Zar.get] using hb2) t1 t2
    exact⟨rfl,by omega⟩
   ·rw[ht2]at t2
    have:=hr.inj 0 (k1 - kb) (l2+1) k2 b10 b2 c (by simpa [Zar.get] using hb1) hg2 t1 t2
    omega
  ·rw[ht1]at t1
   rcases src l2 k2 b2 g2 with ⟨rfl,hk2,b20,hb2,rfl⟩|⟨hne2,hg2,ht2⟩
   ·rw[own k2 hk2]at t2
    have:=hr.inj (l1+1) k1 0 (k2 - kb) b1 b20 c hg1 (by simpa [Zar.get] using hb2) t1 t2
    omega
   ·rw[ht2]at t2
    have:=hr.inj (l1+1) k1 (l2+1) k2 b1 b2 c hg1 hg2 t1 t2
    exact⟨by omega,this.2⟩
 ·intro l k b c o hg ht
  rcases src l k b hg with ⟨rfl,hk,b0,hb0,rfl⟩|⟨hne,hg',ht'⟩
  ·rw[own k hk]at ht
   exact hr.fmd 0 (k - kb) b0 c o (by simpa [Zar.get] using hb0) ht
  ·rw[ht']at ht
   exact hr.fmd (l+1) k b c o hg' ht
theorem VR.impJ {fm:FM}{kb:Nat}{t' h J:Tie}{rest:List Tie} (hn:∀ l k x,tb (t'::h::rest) l k=some x→tb (J::rest) (l - 1) (if l=0 then kb+k else k)=some x) {ts0:List Tie}{x:AV}{v:Value} (hv:VR fm ts0 x v):ts0=t'::h::rest→VR fm (J::rest) (x.imp kb) v:=by
 induction hv with
 |bool b=>intro _;exact .bool b
 |int k n=>intro _;exact .int k n
 |str s=>intro _;exact .str s
 |nil=>intro _;exact .nil
 |slNil e a cap=>intro _;exact .slNil e a cap
 |sl es cb off esz cap u hcap h1 h2 h3 h4 _=>intro _;exact .sl es cb off esz cap u hcap h1 h2 h3 h4
 |locGone l k esz i n g a cp h hn' ha=>rintro rfl;exact .locGone _ _ esz i n g a cp (hn _ _ _ h) hn' ha
 |locOld l k esz i n g a cp m' c h hlt hn' ha=>rintro rfl;exact .locOld _ _ esz i n g a cp m' c (hn _ _ _ h) hlt hn' ha
 |locNil l k esz a h=>rintro rfl;exact .locNil _ _ esz a (hn _ _ _ h)
 |loc l k esz i n g c cap cp a h hn' hnc hc ha=>rintro rfl;exact .loc _ _ esz i n g c cap cp a (hn _ _ _ h) hn' hnc hc ha
 |inn l k esz o n c cp a h hn' ha=>rintro rfl;exact .inn _ _ esz o n c cp a (hn _ _ _ h) hn' ha
 |pnil=>intro _;exact .pnil
 |ptr l k o c h=>rintro rfl;exact .ptr _ _ o c (hn _ _ _ h)
 |eptrGone l k esz i o g a h=>rintro rfl;exact .eptrGone _ _ esz i o g a (hn _ _ _ h)
 |eptrOld l k esz i o g a m' c h hlt=>rintro rfl;exact .eptrOld _ _ esz i o g a m' c (hn _ _ _ h) hlt
 |eptr l k esz i o g c cap h=>rintro rfl;exact .eptr _ _ esz i o g c cap (hn _ _ _ h)
 |rptr es i o cb off esz u h1 h2 h3 h4 _=>intro _;exact .rptr es i o cb off esz u h1 h2 h3 h4
 |fnil=>intro _;exact .fnil
 |fn f first cap vf vc h1 h2 _ _ ih1 ih2=>
  intro e
  simp only[AV.imp]
  refine .fn f _ _ vf vc (by rw[Zbw];exact h1) (by rw[Zbw];exact h2) ?_ ?_
  ·intro i x v hx hv
   rw[Zco,mS]at hx
   obtain⟨y,hy,rfl⟩:=hx
   exact ih1 i y v hy hv e
  ·intro i x v hx hv
   rw[Zco,mS]at hx
   obtain⟨y,hy,rfl⟩:=hx
   exact ih2 i y v hy hv e
 |inil=>intro _;exact .inil
 |ifc t x v _ ih=>intro e;exact .ifc t _ v (ih e)
 |agg cs vs h1 h2 _ ih=>
  intro e
  simp only[AV.imp]
  refine .agg _ vs (by rw[Zbw];exact h1) ?_ ?_
  ·intro x hx
   obtain⟨i,hi⟩:=List.mem_iff_getElem?.1 hx
   rw[Zco,mS]at hi
   obtain⟨y,hy,rfl⟩:=hi
   rw[ZhX];exact h2 y (List.mem_of_getElem? hy)
  ·intro i x v hx hv
   rw[Zco,mS]at hx
   obtain⟨y,hy,rfl⟩:=hx
   exact ih i y v hy hv e
 |tup xs vs h1 _ ih=>
  intro e
  simp only[AV.imp]
  refine .tup _ vs (by rw[Zbw];exact h1) ?_
  intro i x v hx hv
  rw[Zco,mS]at hx
  obtain⟨y,hy,rfl⟩:=hx
  exact ih i y v hy hv e
 |dead v=>intro _;exact .dead v
theorem HR.impJ {N0:Nat}{W0:World}{fm:FM}{t' h J:Tie}{rest:List Tie}{R f:Fra}{H:Zar}{w:World} (hr:HR N0 W0 fm (t'::h::rest) (R::f::H) w) {kb:Nat} (h1:∀ k x,t' k=some x→J (kb+k)=some x) (h2:∀ k x,h k=some x→J k=some x):
  HR N0 W0 fm (J::rest) (ZhS kb R f::H) w:=by
 have hJ:∀ l k x,tb (t'::h::rest) l k=some x→tb (J::rest) (l - 1) (if l=0 then kb+k else k)=some x:=by
  intro l k x e
  cases l with
  |zero=>simpa [tb] using h1 k x (by simpa [tb] using e)
  |succ l=>
   cases l with
   |zero=>simpa [tb] using h2 k x (by simpa [tb] using e)
   |succ l=>simpa [tb] using e
 have hT:ZaS (h::rest) (J::rest):=by
  intro l k
  cases l with
  |zero=>
   simp only[tb]
   cases hh:h k with
   |none=>trivial
   |some x=>rw[h2 k x hh];exact ZeL.refl _
  |succ l=>exact ZeL.refl _
 have src:∀ l k b,Zar.get (ZhS kb R f::H) l k=some b→(l=0∧kb≤k∧∃ b0,look R (k - kb)=some b0∧b=b0.imp kb∧tb (J::rest) l k=tb (t'::h::rest) 0 (k - kb))∨
   (Zar.get (R::f::H) (l+1) k=some b∧tb (J::rest) l k=tb (t'::h::rest) (l+1) k∧¬ (l=0∧kb≤k∧∃ b0,look R (k - kb)=some b0)):=by
  intro l k b hg
  have old:Zar.get (R::f::H) (l+1) k=some b→tb (J::rest) l k=tb (t'::h::rest) (l+1) k:=by
   intro hg
   have hb:=hr.blk (l+1) k b hg
   cases ht:tb (t'::h::rest) (l+1) k with
   |none=>rw[ht]at hb;cases hb
   |some x=>have:=hJ (l+1) k x ht;simpa using this
  cases l with
  |zero=>
   simp only[Zar.get,Zhn]at hg
   by_cases hk:kb≤k
   ·rw[if_pos hk]at hg
    cases hR:look R (k - kb) with
    |some b0=>
     rw[hR]at hg
     refine .inl ⟨rfl,hk,b0,rfl,(oi hg).symm,?_⟩
     have hb:=hr.blk 0 (k - kb) b0 (by simpa [Zar.get] using hR)
     cases ht:tb (t'::h::rest) 0 (k - kb) with
     |none=>rw[ht]at hb;cases hb
     |some x=>
      have:=hJ 0 (k - kb) x ht
      simp only[if_true]at this
      rw[show kb+(k - kb)=k by omega]at this
      exact this
    |none=>
     rw[hR]at hg
     have hg':Zar.get (R::f::H) (0+1) k=some b:=by simpa [Zar.get] using hg
     exact .inr ⟨hg',old hg',fun hh=>by obtain⟨_,_,b0,e⟩:=hh;cases e⟩
   ·rw[if_neg hk]at hg
    have hg':Zar.get (R::f::H) (0+1) k=some b:=by simpa [Zar.get] using hg
    exact .inr ⟨hg',old hg',fun hh=>hk hh.2.1⟩
  |succ l=>
   have hg':Zar.get (R::f::H) (l+1+1) k=some b:=by simpa [Zar.get] using hg
   exact .inr ⟨hg',old hg',fun hh=>by omega⟩
 refine⟨by have:=hr.len;simp at this ⊢;exact this,?_,?_,hr.fms,?_,hr.bel,hr.size,hr.oth⟩
 ·intro l k b hg
  rcases src l k b hg with ⟨rfl,hk,b0,hb0,rfl,ht⟩|⟨hg',ht,_⟩
  ·rw[ht]
   have:=hr.blk 0 (k - kb) b0 (by simpa [Zar.get] using hb0)
   simp only[List.drop_zero]at this ⊢
   generalize tb (t'::h::rest) 0 (k - kb)=tt at this
   cases this with
   |box c cs hN hB=>
    obtain⟨cells,et,c1,c2,c3⟩:=hB
    refine .box c _ hN ⟨cells,et,c1,by rw[Zbw];exact c2,?_⟩
    intro o x v hx hv
    rw[Zco,mS]at hx
    obtain⟨y,hy,rfl⟩:=hx
    have:=c3 o y v hy hv
    exact⟨by rw[ZhX];exact this.1,this.2.impJ hJ rfl⟩
   |nil et esz=>exact .nil et esz
   |arr et esz es c cap hN hA=>exact .arr et esz es c cap hN hA
  ·rw[ht]
   have:=hr.blk (l+1) k b hg'
   refine this.mono (Zdw.refl _) ?_ (fun _ _=>rfl)
   have e1:List.drop (l+1) (t'::h::rest)=List.drop l (h::rest):=by simp
   rw[e1]
   exact hT.drop l
 ·intro l1 k1 l2 k2 b1 b2 c g1 g2 t1 t2
  rcases src l1 k1 b1 g1 with ⟨rfl,hk1,b10,hb1,_,e1⟩|⟨hg1,e1,n1⟩
  ·rw[e1]at t1
   rcases src l2 k2 b2 g2 with ⟨rfl,hk2,b20,hb2,_,e2⟩|⟨hg2,e2,n2⟩
   ·rw[e2]at t2
    have:=hr.inj 0 (k1 - kb) 0 (k2 - kb) b10 b20 c (by simpa [Zar.get] using hb1) (by simpa [Zar.get] using hb2) t1 t2
    exact⟨rfl,by omega⟩
   ·rw[e2]at t2
    have:=hr.inj 0 (k1 - kb) (l2+1) k2 b10 b2 c (by simpa [Zar.get] using hb1) hg2 t1 t2
    omega
  ·rw[e1]at t1
   rcases src l2 k2 b2 g2 with ⟨rfl,hk2,b20,hb2,_,e2⟩|⟨hg2,e2,n2⟩
   ·rw[e2]at t2
    have:=hr.inj (l1+1) k1 0 (k2 - kb) b1 b20 c hg1 (by simpa [Zar.get] using hb2) t1 t2
    omega
   ·rw[e2]at t2
    have:=hr.inj (l1+1) k1 (l2+1) k2 b1 b2 c hg1 hg2 t1 t2
    exact⟨by omega,this.2⟩
 ·intro l k b c o hg ht
  rcases src l k b hg with ⟨rfl,hk,b0,hb0,_,e⟩|⟨hg',e,_⟩
  ·rw[e]at ht
   exact hr.fmd 0 (k - kb) b0 c o (by simpa [Zar.get] using hb0) ht
  ·rw[e]at ht
   exact hr.fmd (l+1) k b c o hg' ht
end Go.Abs
namespace Go.Abs
open Go Go.RowKit
set_option linter.unusedSectionVars false
section
variable [Md] {P:Program}{T:Tys}{N0:Nat}{W0:World}{n:Nat}{fm:FM}{ts:List Tie}
theorem Sim.nil_inv {todo:List It}{ct:List CIt} (h:Sim N0 W0 n fm ts todo ct):todo=[]→∀ {Q:Exit→Act→World→Prop}{a w},Q .normal a w→K P Q ct .normal a w:=by
 induction h with
 |nil=>intro _ Q a w h;exact h
 |scp _ ih=>intro e Q a w h;exact ih e h
 |_=>intro e;cases e
theorem Sim.blk_inv {todo:List It}{ct:List CIt} (h:Sim N0 W0 n fm ts todo ct):∀ {id:Nat}{t:List It},todo=.blk id::t→∃ ct',Sim N0 W0 n fm ts t ct'∧∀ {Q:Exit→Act→World→Prop}{a w},K P Q ct' .normal a w→K P Q ct .normal a w:=by
 induction h with
 |blk ht _=>intro id t e;cases e;exact⟨_,ht,fun h=>h⟩
 |scp _ ih=>intro id t e;obtain⟨ct',h1,h2⟩:=ih e;exact⟨ct',h1,fun h=>h2 h⟩
 |_=>intro id t e;cases e
theorem Sim.back_inv {todo:List It}{ct:List CIt} (h:Sim N0 W0 n fm ts todo ct):∀ {B:St→Prop}{t:List It},todo=.back B::t→∀ {Q:Exit→Act→World→Prop}{st a w},SR N0 W0 n st a w fm ts→B st→K P Q ct .normal a w:=by
 induction h with
 |back h ht _=>intro B t e;cases e;intro Q st a w hS hB;exact h _ _ _ _ _ hB hS (Later.refl _ _)
 |scp _ ih=>intro B t e Q st a w hS hB;exact ih e hS hB
 |_=>intro B t e;cases e
theorem Sim.ops_inv {todo:List It}{ct:List CIt} (h:Sim N0 W0 n fm ts todo ct):∀ {l:List SOp}{t:List It},todo=.ops l::t→
  ∃ arr is ct',l.map Zfz=is.map (fun i=>Zez n arr (arr.getD i default))∧(∀ i∈is,i<arr.size)∧(∀ o∈l,∀ d,o.dst=some d→d<n)∧Sim N0 W0 n fm ts t ct'∧
   ∀ {Q:Exit→Act→World→Prop}{a w},wpOpsIn FW 0 P arr (K P Q ct') is a w→K P Q ct .normal a w:=by
 induction h with
 |ops h hi hf ht _=>intro l t e;cases e;exact⟨_,_,_,h,hi,hf,ht,fun h=>h⟩
 |scp _ ih=>intro l t e;obtain⟨arr,is,ct',h1,h2,h3,h4,h5⟩:=ih e;exact⟨arr,is,ct',h1,h2,h3,h4,fun h=>h5 h⟩
 |_=>intro l t e;cases e
theorem ZvN (n:Nat):∀ (c:Code) (t:List It) (ct:List CIt),Sim N0 W0 n fm ts t ct→∃ c' ct',(∀ b,c'≠.scope b)∧Zbh n c'=Zbh n c∧Sim N0 W0 n fm ts t ct'∧∀ {Q:Exit→Act→World→Prop}{a w},K P Q (.code c'::ct') .normal a w→K P Q (.code c::ct) .normal a w
 |.scope b,t,ct,h=>by
  obtain⟨c',ct',h1,h2,h3,h4⟩:=ZvN n b t (.scp::ct) (.scp h)
  exact⟨c',ct',h1,by rw[h2];rfl,h3,fun h=>ZsH (h4 h)⟩
 |.skip,t,ct,h=>⟨.skip,ct,by simp,rfl,h,fun h=>h⟩
 |.region a b c,t,ct,h=>⟨.region a b c,ct,by simp,rfl,h,fun h=>h⟩
 |.seq a b,t,ct,h=>⟨.seq a b,ct,by simp,rfl,h,fun h=>h⟩
 |.cond a b c,t,ct,h=>⟨.cond a b c,ct,by simp,rfl,h,fun h=>h⟩
 |.block a b,t,ct,h=>⟨.block a b,ct,by simp,rfl,h,fun h=>h⟩
 |.loop a,t,ct,h=>⟨.loop a,ct,by simp,rfl,h,fun h=>h⟩
 |.rangeFunc a b c d,t,ct,h=>⟨.rangeFunc a b c d,ct,by simp,rfl,h,fun h=>h⟩
 |.exit a,t,ct,h=>⟨.exit a,ct,by simp,rfl,h,fun h=>h⟩
 |.label a,t,ct,h=>⟨.label a,ct,by simp,rfl,h,fun h=>h⟩
 |.goto a,t,ct,h=>⟨.goto a,ct,by simp,rfl,h,fun h=>h⟩
 |.ret,t,ct,h=>⟨.ret,ct,by simp,rfl,h,fun h=>h⟩
 |.refuse a,t,ct,h=>⟨.refuse a,ct,by simp,rfl,h,fun h=>h⟩
theorem Sim.sc_inv {todo:List It}{ct:List CIt} (h:Sim N0 W0 n fm ts todo ct):∀ {s:SC}{t:List It},todo=.sc s::t→
  ∃ c ct',(∀ b,c≠.scope b)∧s.bare=Zbh n c∧(Zbh n c).fits n=true∧Sim N0 W0 n fm ts t ct'∧∀ {Q:Exit→Act→World→Prop}{a w},K P Q (.code c::ct') .normal a w→K P Q ct .normal a w:=by
 induction h with
 |sc h hf ht _=>
  intro s t e;cases e
  obtain⟨c',ct',h1,h2,h3,h4⟩:=ZvN (P:=P) n _ _ _ ht
  exact⟨c',ct',h1,by rw[h2];exact h,by rw[h2];exact hf,h3,fun h=>h4 h⟩
 |scp _ ih=>intro s t e;obtain⟨c,ct',h1,h2,h3,h4,h5⟩:=ih e;exact⟨c,ct',h1,h2,h3,h4,fun h=>h5 h⟩
 |_=>intro s t e;cases e
theorem Sim.exits {todo:List It}{ct:List CIt} (h:Sim N0 W0 n fm ts todo ct) (id:Nat):
  (∀ t,Zcg id todo=some t→∃ ct',Sim N0 W0 n fm ts t ct'∧∀ {Q:Exit→Act→World→Prop}{a w},K P Q ct' .normal a w→K P Q ct (.exit id) a w)∧
  (Zcg id todo=none→∀ {Q:Exit→Act→World→Prop}{a w},Q (.exit id) a w→K P Q ct (.exit id) a w):=by
 induction h with
 |nil=>exact⟨fun t e=>by simp[Zcg]at e,fun _ Q a w h=>h⟩
 |sc _ _ _ ih=>exact⟨fun t e=>ih.1 t (by simpa [Zcg] using e),fun e Q a w h=>ih.2 (by simpa [Zcg] using e) h⟩
 |@blk id' t ct ht ih=>
  by_cases hid:id=id'
  ·subst hid
   refine⟨fun t' e=>?_,fun e=>by simp[Zcg]at e⟩
   simp only[Zcg,if_true,oE]at e
   subst e
   exact⟨ct,ht,fun h=>by simp only[K,if_true];exact h⟩
  ·refine⟨fun t' e=>?_,fun e Q a w h=>?_⟩
   ·simp only[Zcg,if_neg hid]at e
    obtain⟨ct',h1,h2⟩:=ih.1 t' e
    exact⟨ct',h1,fun h=>by simp only[K,if_neg hid];exact h2 h⟩
   ·simp only[Zcg,if_neg hid]at e
    simp only[K,if_neg hid]
    exact ih.2 e h
 |scp _ ih=>exact⟨fun t e=>by obtain⟨ct',h1,h2⟩:=ih.1 t e;exact⟨ct',h1,fun h=>h2 h⟩,fun e Q a w h=>ih.2 e h⟩
 |ops _ _ _ _ ih=>exact⟨fun t e=>ih.1 t (by simpa [Zcg] using e),fun e Q a w h=>ih.2 (by simpa [Zcg] using e) h⟩
 |back _ _ ih=>exact⟨fun t e=>ih.1 t (by simpa [Zcg] using e),fun e Q a w h=>ih.2 (by simpa [Zcg] using e) h⟩
theorem ZiG (n:Nat) (ops:Array Oper):ops.toList.map (Zez n ops)=(List.range ops.size).map fun i=>Zez n ops (ops.getD i default):=by
 apply List.ext_getElem?
 intro i
 simp only[List.getElem?_map,Array.getElem?_toList]
 by_cases hi:i<ops.size
 ·simp[hi,Array.getD]
 ·simp[hi]
theorem SR.took {n:Nat}{st:St}{a:Act}{w w':World} (h:SR N0 W0 n st a w fm ts) {v:Value}{av:AV}{fr':Fra}{H':Zar}{fm':FM}{t':Tie}{ts':List Tie}
  (hr:HR N0 W0 fm' (t'::ts') (fr'::H') w') (hv:VR fm' (t'::ts') av v) (hf:FmUp N0 fm fm') (hl:ZaS ts ts') (hn:∀ l k,tb ts l k=none→tb ts' l k=none) (h16:∀ k,16≤k→t' k=none)
  (ZbW:H'.length=st.low.length+1) {dst:Option Tmp} (hd:∀ d,dst=some d→d<n) (drop:List Nat):
  ∃ ts2,SR N0 W0 n (st.took dst drop av fr' H') (a.put dst v) w' fm' ts2∧Later N0 fm ts fm' ts2:=by
 cases H' with
 |nil=>simp at ZbW
 |cons f H'=>
  cases ts' with
  |nil=>have:=hr.len;simp at this
  |cons h0 rest=>
   have hnx:∀ k,st.nx≤k→h0 k=none:=by
    intro k hk
    have:=hn 0 k (h.nx k hk)
    simpa [tb] using this
   have hT:ZaS (h0::rest) (Zgw st.nx t' h0::rest):=by
    intro l k
    cases l with
    |zero=>
     simp only[tb,Zgw]
     split
     ·rename_i hk;rw[hnx k hk];trivial
     ·exact ZeL.refl _
    |succ l=>exact ZeL.refl _
   refine⟨Zgw st.nx t' h0::rest,⟨hr.imp hnx,?_,?_,by rw[ZgK];exact h.size,by rw[Zhw];exact h.dfr⟩,⟨hf,?_,?_⟩⟩
   ·exact(h.tm.mono hf.le (hl.trans hT)).put (hv.imp hnx rfl) (by rw[h.size];exact hd) drop
   ·intro k hk
    have hk':st.nx+16≤k:=hk
    simp only[tb,Zgw]
    rw[if_pos (by omega)]
    exact h16 _ (by omega)
   ·have:=hl.drop 1;simpa using this
   ·intro l k e
    rw[Zbl]at e
    have:=hn (l+1) k e
    simpa [tb] using this
theorem SR.lost {n:Nat}{st:St}{a:Act}{w w':World} (h:SR N0 W0 n st a w fm ts) {H':Zar}{fm':FM}{ts':List Tie}
  (hr:HR N0 W0 fm' ts' H' w') (hf:FmUp N0 fm fm') (hl:ZaS ts ts') (hn:∀ l k,tb ts l k=none→tb ts' l k=none) (ZbW:H'.length=st.low.length+1):
  SR N0 W0 n (st.withHeap H') a w' fm' ts'∧Later N0 fm ts fm' ts':=by
 cases H' with
 |nil=>simp at ZbW
 |cons f H'=>
  refine⟨⟨hr,h.tm.mono hf.le hl,fun k hk=>hn 0 k (h.nx k hk),h.size,h.dfr⟩,⟨hf,hl.drop 1,?_⟩⟩
  intro l k e
  rw[Zbl]at e ⊢
  exact hn _ k e
theorem Zts {t e:TypeId}{a:Option Addr}{n c m:Nat}{w:World} (hun:P.underlying t=some (.slice e)):(Op.equalIn (m+1) t (.slice a n c) (.slice none 0 0)).run P w=.ok a.isNone w:=by
 cases a<;>simp only[Op.equalIn,Sem.run_bind,run_underlying hun,Result.andThen_ok]<;>rfl
theorem ZtI {t e:TypeId}{a:Option Addr}{n c:Nat}{w:World} (hun:P.underlying t=some (.slice e)):(binOp .eql t (.slice a n c) (.slice none 0 0)).run P w=.ok (.bool a.isNone) w:=by
 have h:(Op.equalIn Op.maxDepth t (.slice a n c) (.slice none 0 0)).run P w=.ok a.isNone w:=Zts hun
 simp[binOp,Op.equal,h]
theorem Zae (hT:ZaW P T) {Φ:Exit→St→Prop}:∀ (m:Nat) (todo:List It) (st:St),Zcy P n Φ (run T m todo st)→AK P n Φ todo st
 |0,todo,st,h=>by simp only[run,Zcy]at h
 |m+1,[],st,h=>by
  intro N0 W0 fm ts a w ct Q hS hsim hQ
  simp only[run,Zcy]at h
  exact hsim.nil_inv rfl (hQ _ _ _ _ _ _ h hS (Later.refl _ _))
 |m+1,.back B::t,st,h=>by
  intro N0 W0 fm ts a w ct Q hS hsim hQ
  simp only[run,Zcy]at h
  exact hsim.back_inv rfl hS h
 |m+1,.blk id::t,st,h=>by
  intro N0 W0 fm ts a w ct Q hS hsim hQ
  simp only[run]at h
  obtain⟨ct',h1,h2⟩:=hsim.blk_inv (P:=P) rfl
  exact h2 (Zae hT m t st h N0 W0 fm ts a w ct' Q hS h1 hQ)
 |m+1,.ops []::t,st,h=>by
  intro N0 W0 fm ts a w ct Q hS hsim hQ
  simp only[run]at h
  obtain⟨arr,is,ct',h1,h2,h3,h4,h5⟩:=hsim.ops_inv (P:=P) rfl
  cases is with
  |nil=>exact h5 (Zae hT m t st h N0 W0 fm ts a w ct' Q hS h4 hQ)
  |cons=>simp at h1
 |m+1,.ops (o::os)::t,st,h=>by
  intro N0 W0 fm ts a w ct Q hS hsim hQ
  obtain⟨arr,is,ct',h1,h2,h3,h4,h5⟩:=hsim.ops_inv (P:=P) rfl
  cases is with
  |nil=>simp at h1
  |cons i is=>
   simp only[List.map_cons,List.cons.injEq]at h1
   obtain⟨h1,h1'⟩:=h1
   have hi:i<arr.size:=h2 i List.mem_cons_self
   have Zhe:arr[i]?=some arr[i]:=Array.getElem?_eq_getElem hi
   have hgd:arr.getD i default=arr[i]:=by simp[Array.getD,hi]
   rw[hgd]at h1
   simp only[Zfz,Zez,SOp.mk.injEq,and_true]at h1
   obtain⟨hdst,hop,hty,hgu⟩:=h1
   have hd:∀ d,o.dst=some d→d<n:=h3 o List.mem_cons_self
   have hsim':∀ {fm' ts'},Later N0 fm ts fm' ts'→Sim N0 W0 n fm' ts' (.ops os::t) (.ops arr is::ct'):=fun hl=>
    (Sim.ops h1' (fun j hj=>h2 j (List.mem_cons_of_mem _ hj)) (fun o ho=>h3 o (List.mem_cons_of_mem _ ho)) h4).later hl
   apply h5
   simp only[wpOpsIn,Zhe]
   have doit:∀ (m':Nat),(∀ todo st,Zcy P n Φ (run T m' todo st)→AK P n Φ todo st)→Zcy P n Φ (ZuX T (run T m') o (.ops os::t) st)→(arr[i]).wpIn FW 0 P a w (wpOpsIn FW 0 P arr (K P Q ct') is) (K P Q ct'):=by
    intro m' ihm h
    unfold ZuX at h
    split at h
    ·
     rename_i c hc
     unfold ZdD at hc
     split at hc
     ·rename_i c' hoc
      split at hc
      ·cases hc
      ·rename_i hnb
       obtain rfl:=oi hc
       unfold Zkd at h
       split at h
       ·rename_i g args hcal
        simp only[Zcy]at h
        obtain⟨st1,args1,R,Rp,hmv,⟨⟨fn,hfn,hnm,hbd⟩,hac⟩,hk,hpk⟩:=h
        unfold callee at hcal
        split at hcal
        ·rename_i f hcf
         split at hcal
         ·rename_i g' first cap xs hof hxs
          simp only[oE,Prod.mk.injEq]at hcal
          obtain⟨rfl,rfl⟩:=hcal
          have hvf:=ZcT hS.tm hof
          have hvx:=ZcA hS.tm _ _ hxs
          obtain⟨vf,vc,hev,hl1,hl2,hp1,hp2⟩:∃ vf vc,a.eval f=.func (.func g') vf vc∧first.length=vf.size∧cap.length=vc.size∧(∀ (i:Nat) x v,first[i]?=some x→vf[i]?=some v→VR fm ts x v)∧(∀ (i:Nat) x v,cap[i]?=some x→vc[i]?=some v→VR fm ts x v):=by
           generalize a.eval f=z at hvf
           cases hvf with
           |fn _ _ _ vf vc h1 h2 h3 h4=>exact⟨vf,vc,rfl,h1,h2,h3,h4⟩
          have hargs:VRs fm ts (first++(xs++cap)) (vf.toList++(c'.args.toList.map a.eval++vc.toList)):=by
           refine VRs.append ⟨by simpa using hl1,fun i x v p q=>hp1 i x v p (by simpa using q)⟩ (VRs.append hvx ⟨by simpa using hl2,fun i x v p q=>hp2 i x v p (by simpa using q)⟩)
          have hargs':VRs fm (Zci::ts) (AV.shL 1 (first++(xs++cap))) (vf.toList++(c'.args.toList.map a.eval++vc.toList)):=by
           refine⟨by rw[Zb2];exact hargs.1,?_⟩
           intro i x v hx hv
           rw[Zdu,mS]at hx
           obtain⟨y,hy,rfl⟩:=hx
           exact(hargs.2 i y v hy hv).sh 1 (by simp)
          obtain⟨fm1,ts1,hS1,hL1,hargs1⟩:=hmv N0 W0 a w fm ts _ hS hargs'
          have hcalls:=hac N0 W0 fm1 ts1 w _ hS1.hr hargs1
          have hoc':(arr[i]).op=.call c':=by rw[←hop];exact hoc
          have hrun:(execOp a.eval arr[i]).run P w=.ok (.enter g' ((vf.toList++(c'.args.toList.map a.eval++vc.toList)).toArray)) w:=by
           have e1:vf++Array.map a.eval c'.args++vc=(vf.toList++(c'.args.toList.map a.eval++vc.toList)).toArray:=by
            apply Array.toList_inj.1;simp
           simp only[execOp,hoc',resolve,hcf,Sem.run_bind,Deferred.ofValue,hev,Sem.run_pure,Result.andThen_ok,invoke,callFunc,run_program,hfn,hnm,hbd,Bool.false_eq_true,if_false,e1]
          refine ZfL (fun c0 h0=>by rw[hoc']at h0;cases h0) hrun ?_
          refine Calls.mono hcalls ?_
          rintro e w' (⟨v,av,fr',H',fm',t',ts',rfl,hR,hlen0,hhr,hvr,hfl,htl,hno,h16⟩|⟨ch,H',fm',ts',rfl,hR,hlen0,hhr,hfl,htl,hno⟩)
          ·have ZbW:H'.length=st1.low.length+1:=by simpa using hlen0
           obtain⟨ts2,hS2,hL2⟩:=hS1.took hhr hvr hfl htl hno h16 ZbW hd o.drop
           have hak:=hk av fr' H' hR N0 W0 fm' ts2 _ w' (.ops arr is::ct') Q hS2 (hsim' (hL1.trans hL2)) (fun e st' a' w' fm3 ts3 hΦ hS3 hL3=>hQ e st' a' w' fm3 ts3 hΦ hS3 ((hL1.trans hL2).trans hL3))
           rw[hdst]at hak
           exact hak
          ·have ZbW:H'.length=st1.low.length+1:=by simpa using hlen0
           obtain⟨hS2,hL2⟩:=hS1.lost hhr hfl htl hno ZbW
           exact Zc2 (hQ _ _ _ _ _ _ (hpk ch H' hR) hS2 (hL1.trans hL2)) ct'
         ·cases hcal
        ·cases hcal
       ·simp only[Zcy]at h
     ·cases hc
    ·
     split at h
     ·
      rename_i x hpx
      unfold Zmb at hpx
      split at hpx
      ·rename_i x' hox
       obtain rfl:=oi hpx
       unfold Zog at h
       split at h
       ·rename_i v hv
        simp only[Zcy]at h
        obtain⟨t0,x0,rfl,hk⟩:=h
        have hvr:=ZcT hS.tm hv
        have hox':(arr[i]).op=.panic x':=by rw[←hop];exact hox
        generalize hev:a.eval x'=z at hvr
        cases hvr with
        |ifc _ _ u hu=>
         have hrun:(execOp a.eval arr[i]).run P w=.halt (.panic (.iface t0 u)) w:=by
          simp only[execOp,hox',hev,Instr.panic,goPanic]
          rfl
         refine ZmZ (fun c0 h0=>by rw[hox']at h0;cases h0) hrun ?_
         exact Zc2 (hQ _ _ _ _ _ _ (hk fm ts u hu) hS (Later.refl _ _)) ct'
       ·simp only[Zcy]at h
      ·cases hpx
     cases hne:Zrt T o.op (look st.tm) with
     |some es=>
      rw[hne]at h
      simp only[ZgT,Zcy]at h
      obtain⟨hk1,hk2⟩:=h
      unfold Zrt at hne
      split at hne
      ·rename_i tt x ty0 hoo
       split at hne
       ·rename_i ti hti
        split at hne
        ·rename_i el hd0
         split at hne
         ·rename_i ez es' hx
          obtain rfl:=oi hne
          obtain⟨hun,_⟩:=hT.slice hti hd0
          obtain⟨v,hv,hvr⟩:=hS.tm x _ hx
          obtain⟨aa,nn,cc,rfl,hnil⟩:∃ aa nn cc,v=.slice aa nn cc∧(aa=none→es'=[]):=by
           cases hvr with
           |slNil=>exact⟨_,_,_,rfl,fun _=>rfl⟩
           |sl=>exact⟨_,_,_,rfl,fun h=>by cases h⟩
          have hev:a.eval (.tmp x)=.slice aa nn cc:=by simp[Act.eval,hv,Array.getD_eq_getD_getElem?]
          have hoo':(arr[i]).op=.binOp .eql tt (.tmp x) (.const (.slice none 0 0)) ty0:=by rw[←hop];exact hoo
          have hrun:(execOp a.eval arr[i]).run P w=.ok (.value (.bool aa.isNone)) w:=by
           have h1:=ZtI (P:=P) (a:=aa) (n:=nn) (c:=cc) (w:=w) hun
           have h2:a.eval (.const (.slice none 0 0))=.slice none 0 0:=by simp[Act.eval]
           simp only[execOp,hoo',hev,h2]
           exact Zb9 h1
          have ho:∀ b:Bool,aa.isNone=b→Out N0 W0 fm ts (st.fr::st.low) w st.nx ((execOp a.eval arr[i]).run P w) ⟨.bool b,[]⟩ fm ts w (.bool b):=fun b hb=>
           ⟨.inl (by rw[hrun,hb]),hS.hr,.bool b,FmUp.refl _ _,ZaS.refl _,fun _ _ _ h=>h⟩
          refine ZfQ (fun c0 h0=>by rw[hoo']at h0;cases h0) hrun ?_
          cases hb:aa.isNone with
          |true=>
           obtain⟨hS2,hL2⟩:=hS.by (ho true hb) hd o.drop
           have hes:es'=[]:=hnil (by simpa using hb)
           have hak:=hk1 hes N0 W0 fm ts _ w (.ops arr is::ct') Q hS2 (hsim' hL2) (fun e st' a' w' fm3 ts3 hΦ hS3 hL3=>hQ e st' a' w' fm3 ts3 hΦ hS3 (hL2.trans hL3))
           rw[hdst]at hak
           exact hak
          |false=>
           obtain⟨hS2,hL2⟩:=hS.by (ho false hb) hd o.drop
           have hak:=hk2 N0 W0 fm ts _ w (.ops arr is::ct') Q hS2 (hsim' hL2) (fun e st' a' w' fm3 ts3 hΦ hS3 hL3=>hQ e st' a' w' fm3 ts3 hΦ hS3 (hL2.trans hL3))
           rw[hdst]at hak
           exact hak
         ·cases hne
        ·cases hne
       ·cases hne
      ·cases hne
     |none=>
     rw[hne]at h
     simp only[ZgT]at h
     unfold next at h
     split at h
     ·rename_i d hde
      have hG:st.get=Zar.get (st.fr::st.low):=rfl
      rw[hop,hty,hG]at hde
      obtain⟨fm',ts',w',v,ho⟩:=Zjs (P:=P) hT hS.hr (by simp) (fun k h1 _=>hS.nx k h1) hS.tm hde
      obtain⟨hS2,hL2⟩:=hS.by ho hd o.drop
      have hak:=ihm _ _ h N0 W0 fm' ts' _ w' (.ops arr is::ct') Q hS2 (hsim' hL2) (fun e st' a' w' fm3 ts3 hΦ hS3 hL3=>hQ e st' a' w' fm3 ts3 hΦ hS3 (hL2.trans hL3))
      rw[hdst]at hak
      have hnd:∀ c,(arr[i]).op≠.defer c:=fun c0 h0=>by rw[h0]at hde;simp[ZcW]at hde
      rcases ho.done with hr|⟨hr,rfl⟩
      ·exact ZfQ hnd hr hak
      ·exact ZkM hnd hr hak
     ·simp only[Zcy]at h
   have past:∀ (m':Nat),(∀ todo st,Zcy P n Φ (run T m' todo st)→AK P n Φ todo st)→Zcy P n Φ (run T m' (.ops os::t) (st.past o))→wpOpsIn FW 0 P arr (K P Q ct') is (a.put (arr[i]).dst undef) w:=by
    intro m' ihm h
    have hS2:=hS.past hd
    have hak:=ihm _ _ h N0 W0 fm ts _ w (.ops arr is::ct') Q hS2 (hsim' (Later.refl _ _)) hQ
    rw[hdst]at hak
    exact hak
   cases hg:o.guard with
   |none=>
    rw[hg]at hgu
    have hw:Region.wanted arr[i] (yielded arr a.tmps)=true:=by
     have:(arr[i]).guard=none:=by
      cases hh:(arr[i]).guard with
      |none=>rfl
      |some g=>rw[hh]at hgu;cases hgu
     simp[Region.wanted,this]
    simp only[run,hg]at h
    rw[if_pos hw]
    exact doit m (Zae hT m) h
   |some g=>
    obtain⟨g,want⟩:=g
    rw[hg]at hgu
    obtain⟨j,hj,hjg⟩:∃ j,(arr[i]).guard=some (j,want)∧(((arr[j]?).bind (·.dst)).getD n)=g:=by
     cases hh:(arr[i]).guard with
     |none=>rw[hh]at hgu;cases hgu
     |some p=>
      rw[hh]at hgu
      simp only[Option.map_some,oE,Prod.mk.injEq]at hgu
      exact⟨p.1,by rw[hgu.2],hgu.1.symm⟩
    have hyl:∀ v,a.tmps[g]?=some v→yielded arr a.tmps j=match v with|.bool b=>some b|_=>none:=by
     intro v hv
     unfold yielded
     cases hb:(arr[j]?).bind (·.dst) with
     |none=>
      rw[hb]at hjg
      simp only[Option.getD_none]at hjg
      have:=(Array.getElem?_eq_some_iff.1 hv).1
      rw[hS.size]at this
      subst hjg
      exact absurd this (Nat.lt_irrefl _)
     |some dd=>
      rw[hb]at hjg
      simp only[Option.getD_some]at hjg
      subst hjg
      simp only[Option.bind_some,hv]
      cases v<;>rfl
    simp only[run,hg]at h
    split at h
    ·rename_i b hb
     obtain⟨v,hv,hvr⟩:=hS.tm g _ hb
     cases hvr
     have hw:Region.wanted arr[i] (yielded arr a.tmps)=(b==want):=by
      simp[Region.wanted,hj,hyl _ hv]
     rw[hw]
     cases hbw:(b==want) with
     |true=>
      rw[hbw,ZjA]at h
      rw[if_pos rfl]
      cases m with
      |zero=>simp only[run,Zcy]at h
      |succ m=>
       simp only[run]at h
       exact doit m (Zae hT m) h
     |false=>
      rw[hbw,Zi8]at h
      simp only[Bool.false_eq_true,if_false]
      exact⟨fun _ _=>trivial,past m (Zae hT m) h⟩
    ·rename_i hb
     obtain⟨v,hv,hvr⟩:=hS.tm g _ hb
     have hw:Region.wanted arr[i] (yielded arr a.tmps)=false:=by
      have:yielded arr a.tmps j=none:=by rw[hyl _ hv];cases hvr;rfl
      simp[Region.wanted,hj,this]
     rw[hw]
     simp only[Bool.false_eq_true,if_false]
     exact⟨fun _ _=>trivial,past m (Zae hT m) h⟩
    ·simp only[Zcy]at h
 |m+1,.sc s::t,st,h=>by
  intro N0 W0 fm ts a w ct Q hS hsim hQ
  obtain⟨c,ct',hns,hb,hf,ht,hK⟩:=hsim.sc_inv (P:=P) rfl
  apply hK
  cases s with
  |skip=>
   simp only[run]at h
   have:=Zae hT m t st h N0 W0 fm ts a w ct' Q hS ht hQ
   cases c<;>simp only[SC.bare,Zbh,reduceCtorEq]at hb
   case skip=>exact Zuz this
   case label=>exact Zsa this
   case region id ops dr=>cases dr<;>simp[Zbh]at hb
   case scope b=>exact absurd rfl (hns b)
  |reg ops=>
   simp only[run]at h
   cases c<;>try (simp only[SC.bare,Zbh,reduceCtorEq]at hb;done)
   case region id arr dr=>
    cases dr with
    |true=>simp[SC.bare,Zbh]at hb
    |false=>
     simp only[SC.bare,Zbh,SC.reg.injEq]at hb
     refine Zj8 ?_
     refine Zae hT m _ st h N0 W0 fm ts a w _ Q hS ?_ hQ
     refine .ops (by rw[hb,ZiG]) (by simp) ?_ ht
     simp only[Zbh,SC.fits,List.all_eq_true]at hf
     intro o ho d hd
     have:Zfz o∈ops.map Zfz:=List.mem_map_of_mem ho
     rw[hb]at this
     have:=hf _ this
     simp only[Zfz,hd]at this
     simpa using this
   case scope b=>exact absurd rfl (hns b)
  |dreg ops bef drop=>
   simp only[run,Zcy]at h
   exact h N0 W0 fm ts a w (.code c::ct') Q hS (.sc hb hf ht) hQ
  |seq x y=>
   simp only[run]at h
   cases c<;>simp only[SC.bare,Zbh,reduceCtorEq]at hb
   case seq cx cy=>
    simp only[SC.seq.injEq]at hb
    simp only[Zbh,SC.fits,Bool.and_eq_true]at hf
    exact ZkO (Zae hT m _ st h N0 W0 fm ts a w _ Q hS (.sc hb.1 hf.1 (.sc hb.2 hf.2 ht)) hQ)
   case region id ops dr=>cases dr<;>simp[Zbh]at hb
   case scope b=>exact absurd rfl (hns b)
  |cond cc x y=>
   simp only[run]at h
   cases c<;>simp only[SC.bare,Zbh,reduceCtorEq]at hb
   case cond c1 cx cy=>
    simp only[SC.cond.injEq]at hb
    obtain⟨rfl,hbx,hby⟩:=hb
    simp only[Zbh,SC.fits,Bool.and_eq_true]at hf
    split at h
    ·rename_i b hbv
     have hv:=ZcT hS.tm hbv
     have he:a.eval cc=.bool b:=by
      generalize a.eval cc=z at hv
      cases hv;rfl
     refine Zu9 he ?_
     cases b with
     |true=>rw[ZjA]at h;exact Zae hT m _ st h N0 W0 fm ts a w _ Q hS (.sc hbx hf.1 ht) hQ
     |false=>rw[Zi8]at h;exact Zae hT m _ st h N0 W0 fm ts a w _ Q hS (.sc hby hf.2 ht) hQ
    ·simp only[Zcy]at h
   case region id ops dr=>cases dr<;>simp[Zbh]at hb
   case scope b=>exact absurd rfl (hns b)
  |block id b=>
   simp only[run]at h
   cases c<;>simp only[SC.bare,Zbh,reduceCtorEq]at hb
   case block id' cb=>
    simp only[SC.block.injEq]at hb
    obtain⟨rfl,hb⟩:=hb
    simp only[Zbh,SC.fits]at hf
    exact Zke (Zae hT m _ st h N0 W0 fm ts a w _ Q hS (.sc hb hf (.blk ht)) hQ)
   case region id ops dr=>cases dr<;>simp[Zbh]at hb
   case scope b=>exact absurd rfl (hns b)
  |loop b=>
   simp only[run,Zcy]at h
   exact h N0 W0 fm ts a w (.code c::ct') Q hS (.sc hb hf ht) hQ
  |exit id=>
   simp only[run]at h
   cases c<;>simp only[SC.bare,Zbh,reduceCtorEq]at hb
   case exit id'=>
    simp only[SC.exit.injEq]at hb
    subst hb
    refine Zun ?_
    have hx:=ht.exits (P:=P) id
    split at h
    ·rename_i t' ht'
     obtain⟨ct2,h1,h2⟩:=hx.1 t' ht'
     exact h2 (Zae hT m t' st h N0 W0 fm ts a w ct2 Q hS h1 hQ)
    ·rename_i hn
     simp only[Zcy]at h
     exact hx.2 hn (hQ _ _ _ _ _ _ h hS (Later.refl _ _))
   case region id ops dr=>cases dr<;>simp[Zbh]at hb
   case scope b=>exact absurd rfl (hns b)
  |ret=>
   simp only[run,Zcy]at h
   cases c<;>simp only[SC.bare,Zbh,reduceCtorEq]at hb
   case ret=>exact Zvm (Zdn (hQ _ _ _ _ _ _ h hS (Later.refl _ _)) _)
   case region id ops dr=>cases dr<;>simp[Zbh]at hb
   case scope b=>exact absurd rfl (hns b)
  |other=>simp only[run,Zcy]at h
end
end Go.Abs
namespace Go.Abs
open Go Go.RowKit
set_option linter.unusedSectionVars false
section
variable [Md] {P:Program}{T:Tys}{N0:Nat}{W0:World}{n:Nat}{fm:FM}{ts:List Tie}{Φ:Exit→St→Prop}
def ZaE (n:Nat) (st st':St):Prop:=∀ N0 W0 a w fm ts,SR N0 W0 n st a w fm ts→∃ fm' ts',SR N0 W0 n st' a w fm' ts'∧Later N0 fm ts fm' ts'
theorem ZaE.trans {n:Nat}{a b c:St} (h:ZaE n a b) (k:ZaE n b c):ZaE n a c:=by
 intro N0 W0 x w fm ts hS
 obtain⟨f1,t1,h1,h2⟩:=h N0 W0 x w fm ts hS
 obtain⟨f2,t2,h3,h4⟩:=k N0 W0 x w f1 t1 h1
 exact⟨f2,t2,h3,h2.trans h4⟩
theorem AK.weak {todo:List It}{st st':St} (hw:ZaE n st st') (h:AK P n Φ todo st'):AK P n Φ todo st:=by
 intro N0 W0 fm ts a w ct Q hS hsim hQ
 obtain⟨fm',ts',h1,h2⟩:=hw N0 W0 a w fm ts hS
 exact h N0 W0 fm' ts' a w ct Q h1 (hsim.later h2) (fun e s x w' f t hΦ hs hl=>hQ e s x w' f t hΦ hs (h2.trans hl))
theorem AK.mono {Ψ:Exit→St→Prop} (hΦ:∀ e st,Φ e st→Ψ e st) {todo:List It}{st:St} (h:AK P n Φ todo st):AK P n Ψ todo st:=by
 intro N0 W0 fm ts a w ct Q hS hsim hQ
 exact h N0 W0 fm ts a w ct Q hS hsim (fun e s x w' f t hp hs hl=>hQ e s x w' f t (hΦ e s hp) hs hl)
theorem AK.loop (Inv:Nat→St→Prop) (m:Nat) {st st0:St}{b:SC}{todo:List It} (hw:ZaE n st st0) (h0:Inv m st0)
  (h:∀ m st,Inv m st→AK P n Φ (.sc b::.back (fun st'=>∃ st'' m',m'<m∧ZaE n st' st''∧Inv m' st'')::todo) st):AK P n Φ (.sc (.loop b)::todo) st:=by
 refine AK.weak hw ?_
 intro N0 W0 fm ts a w ct Q hS hsim hQ
 obtain⟨c,ct',hns,hb,hf,ht,hK⟩:=hsim.sc_inv (P:=P) rfl
 apply hK
 cases c<;>simp only[SC.bare,Zbh,reduceCtorEq]at hb
 case loop cb=>
  simp only[SC.loop.injEq]at hb
  simp only[Zbh,SC.fits]at hf
  refine ZrA (fun m a w=>∃ st fm' ts',Inv m st∧SR N0 W0 n st a w fm' ts'∧Later N0 fm ts fm' ts') m ⟨st0,fm,ts,h0,hS,Later.refl _ _⟩ ?_
  rintro m a w ⟨st,fm',ts',hI,hS',hL⟩
  refine h m st hI N0 W0 fm' ts' a w _ Q hS' (.sc hb hf (.back ?_ (ht.later hL))) (fun e s x w' f t hp hs hl=>hQ e s x w' f t hp hs (hL.trans hl))
  rintro st' a' w' fm2 ts2 ⟨st'',m',hlt,hwk,hI'⟩ hS2 hL2
  obtain⟨fm3,ts3,h3,h4⟩:=hwk N0 W0 a' w' fm2 ts2 hS2
  exact⟨m',hlt,st'',fm3,ts3,hI',h3,(hL.trans hL2).trans h4⟩
 case region id ops dr=>cases dr<;>simp[Zbh]at hb
 case scope b=>exact absurd rfl (hns b)
def idx:List Nat→Nat→Option Nat
 |[],_=>none
 |x::l,k=>if x=k then some 0 else (idx l k).map (·+1)
theorem ZlV:∀ (ks:List Nat) (k i:Nat),idx ks k=some i→ks[i]?=some k
 |[],k,i,h=>by simp[idx]at h
 |x::l,k,i,h=>by
  simp only[idx]at h
  split at h
  ·rename_i e
   obtain rfl:=oi h
   simp[e]
  ·simp only[mS]at h
   obtain⟨j,h1,rfl⟩:=h
   simpa using ZlV l k j h1
def Zrn (ks:List Nat) (l k:Nat):Option Nat:=
 match l with
 |0=>idx ks k
 |_+1=>some k
mutual
def AV.ren (ks:List Nat):AV→Option AV
 |.loc l k e i n g=>(Zrn ks l k).map fun k=>.loc l k e i n g
 |.inn l k e o n=>(Zrn ks l k).map fun k=>.inn l k e o n
 |.ptr l k o=>(Zrn ks l k).map fun k=>.ptr l k o
 |.eptr l k e i o g=>(Zrn ks l k).map fun k=>.eptr l k e i o g
 |.fn f a b=>match AV.renL ks a,AV.renL ks b with
  |some a,some b=>some (.fn f a b)
  |_,_=>none
 |.ifc t v=>(v.ren ks).map (.ifc t)
 |.agg cs=>(AV.renL ks cs).map .agg
 |.tup vs=>(AV.renL ks vs).map .tup
 |.bool b=>some (.bool b)
 |.int k n=>some (.int k n)
 |.str s=>some (.str s)
 |.nil=>some .nil
 |.sl e es=>some (.sl e es)
 |.pnil=>some .pnil
 |.rptr e es i o=>some (.rptr e es i o)
 |.fnil=>some .fnil
 |.inil=>some .inil
 |.dead=>some .dead
def AV.renL (ks:List Nat):List AV→Option (List AV)
 |[]=>some []
 |x::l=>match x.ren ks,AV.renL ks l with
  |some x,some l=>some (x::l)
  |_,_=>none
end
def Zhq (ks:List Nat) (t:Tie):Tie:=fun i=>(ks[i]?).bind t
theorem ZgG {ks:List Nat}{t:Tie}{rest:List Tie}{l k k':Nat} (h:Zrn ks l k=some k'):tb (Zhq ks t::rest) l k'=tb (t::rest) l k:=by
 cases l with
 |zero=>simp only[tb,Zhq,ZlV ks k k' h,Option.bind_some]
 |succ l=>simp only[Zrn,oE]at h;subst h;rfl
theorem ZeC (ks:List Nat):∀ (cs ys:List AV),AV.renL ks cs=some ys→ys.length=cs.length∧∀ (i:Nat) (x:AV),cs[i]?=some x→∃ y,ys[i]?=some y∧x.ren ks=some y
 |[],ys,h=>by simp only[AV.renL,oE]at h;subst h;simp
 |x::l,ys,h=>by
  simp only[AV.renL]at h
  split at h
  ·rename_i a b ha hb
   obtain rfl:=oi h
   have ih:=ZeC ks l b hb
   refine⟨by simp[ih.1],?_⟩
   intro i z hz
   cases i with
   |zero=>simp only[List.getElem?_cons_zero,oE]at hz;subst hz;exact⟨a,by simp,ha⟩
   |succ i=>simp only[List.getElem?_cons_succ]at hz ⊢;exact ih.2 i z hz
  ·cases h
theorem ZmL {ks:List Nat}{x y:AV} (h:x.ren ks=some y):y.flat=x.flat:=by
 cases x with
 |fn f a b=>
  simp only[AV.ren]at h
  split at h
  ·obtain rfl:=oi h;simp[AV.flat]
  ·cases h
 |_=>
  first
  |(simp only[AV.ren,oE]at h;subst h;simp[AV.flat];done)
  |(simp only[AV.ren,mS]at h;obtain⟨a,_,rfl⟩:=h;simp[AV.flat];done)
theorem VR.ren {ks:List Nat}{t:Tie}{rest:List Tie}{ts0:List Tie}{x:AV}{v:Value} (hv:VR fm ts0 x v):ts0=t::rest→∀ {y:AV},x.ren ks=some y→VR fm (Zhq ks t::rest) y v:=by
 induction hv with
 |bool b=>intro _ y e;simp only[AV.ren,oE]at e;subst e;exact .bool b
 |int k n=>intro _ y e;simp only[AV.ren,oE]at e;subst e;exact .int k n
 |str s=>intro _ y e;simp only[AV.ren,oE]at e;subst e;exact .str s
 |nil=>intro _ y e;simp only[AV.ren,oE]at e;subst e;exact .nil
 |slNil e a cap=>intro _ y e;simp only[AV.ren,oE]at e;subst e;exact .slNil _ a cap
 |sl es cb off esz cap u hcap h1 h2 h3 h4 _=>intro _ y e;simp only[AV.ren,oE]at e;subst e;exact .sl es cb off esz cap u hcap h1 h2 h3 h4
 |locGone l k esz i n g a cp h hn' ha=>
  rintro rfl y e;simp only[AV.ren,mS]at e;obtain⟨k',hk,rfl⟩:=e;exact .locGone _ _ esz i n g a cp ((ZgG hk).trans h) hn' ha
 |locOld l k esz i n g a cp m' c h hlt hn' ha=>
  rintro rfl y e;simp only[AV.ren,mS]at e;obtain⟨k',hk,rfl⟩:=e;exact .locOld _ _ esz i n g a cp m' c ((ZgG hk).trans h) hlt hn' ha
 |locNil l k esz a h=>
  rintro rfl y e;simp only[AV.ren,mS]at e;obtain⟨k',hk,rfl⟩:=e;exact .locNil _ _ esz a ((ZgG hk).trans h)
 |loc l k esz i n g c cap cp a h hn' hnc hc ha=>
  rintro rfl y e;simp only[AV.ren,mS]at e;obtain⟨k',hk,rfl⟩:=e;exact .loc _ _ esz i n g c cap cp a ((ZgG hk).trans h) hn' hnc hc ha
 |inn l k esz o n c cp a h hn' ha=>
  rintro rfl y e;simp only[AV.ren,mS]at e;obtain⟨k',hk,rfl⟩:=e;exact .inn _ _ esz o n c cp a ((ZgG hk).trans h) hn' ha
 |pnil=>intro _ y e;simp only[AV.ren,oE]at e;subst e;exact .pnil
 |ptr l k o c h=>
  rintro rfl y e;simp only[AV.ren,mS]at e;obtain⟨k',hk,rfl⟩:=e;exact .ptr _ _ o c ((ZgG hk).trans h)
 |eptrGone l k esz i o g a h=>
  rintro rfl y e;simp only[AV.ren,mS]at e;obtain⟨k',hk,rfl⟩:=e;exact .eptrGone _ _ esz i o g a ((ZgG hk).trans h)
 |eptrOld l k esz i o g a m' c h hlt=>
  rintro rfl y e;simp only[AV.ren,mS]at e;obtain⟨k',hk,rfl⟩:=e;exact .eptrOld _ _ esz i o g a m' c ((ZgG hk).trans h) hlt
 |eptr l k esz i o g c cap h=>
  rintro rfl y e;simp only[AV.ren,mS]at e;obtain⟨k',hk,rfl⟩:=e;exact .eptr _ _ esz i o g c cap ((ZgG hk).trans h)
 |rptr es i o cb off esz u h1 h2 h3 h4 _=>intro _ y e;simp only[AV.ren,oE]at e;subst e;exact .rptr es i o cb off esz u h1 h2 h3 h4
 |fnil=>intro _ y e;simp only[AV.ren,oE]at e;subst e;exact .fnil
 |fn f first cap vf vc h1 h2 _ _ ih1 ih2=>
  intro e0 y e
  simp only[AV.ren]at e
  split at e
  ·rename_i a b ha hb
   obtain rfl:=oi e
   have g1:=ZeC ks _ _ ha
   have g2:=ZeC ks _ _ hb
   refine .fn f _ _ vf vc (g1.1.trans h1) (g2.1.trans h2) ?_ ?_
   ·intro i x v hx hv
    have hlt:i<first.length:=by rw[←g1.1];exact(gS.1 hx).1
    obtain⟨z,hz,hr⟩:=g1.2 i _ (gG hlt)
    rw[hx]at hz;obtain rfl:=oi hz
    exact ih1 i _ v (gG hlt) hv e0 hr
   ·intro i x v hx hv
    have hlt:i<cap.length:=by rw[←g2.1];exact(gS.1 hx).1
    obtain⟨z,hz,hr⟩:=g2.2 i _ (gG hlt)
    rw[hx]at hz;obtain rfl:=oi hz
    exact ih2 i _ v (gG hlt) hv e0 hr
  ·cases e
 |inil=>intro _ y e;simp only[AV.ren,oE]at e;subst e;exact .inil
 |ifc t x v _ ih=>
  intro e0 y e
  simp only[AV.ren,mS]at e
  obtain⟨z,hz,rfl⟩:=e
  exact .ifc t _ v (ih e0 hz)
 |agg cs vs h1 h2 _ ih=>
  intro e0 y e
  simp only[AV.ren,mS]at e
  obtain⟨z,hz,rfl⟩:=e
  have g:=ZeC ks _ _ hz
  refine .agg _ vs (g.1.trans h1) ?_ ?_
  ·intro x hx
   obtain⟨i,hi⟩:=List.mem_iff_getElem?.1 hx
   have hlt:i<cs.length:=by rw[←g.1];exact(gS.1 hi).1
   obtain⟨q,hq,hr⟩:=g.2 i _ (gG hlt)
   rw[hi]at hq;obtain rfl:=oi hq
   rw[ZmL hr];exact h2 _ (List.getElem_mem hlt)
  ·intro i x v hx hv
   have hlt:i<cs.length:=by rw[←g.1];exact(gS.1 hx).1
   obtain⟨q,hq,hr⟩:=g.2 i _ (gG hlt)
   rw[hx]at hq;obtain rfl:=oi hq
   exact ih i _ v (gG hlt) hv e0 hr
 |tup xs vs h1 _ ih=>
  intro e0 y e
  simp only[AV.ren,mS]at e
  obtain⟨z,hz,rfl⟩:=e
  have g:=ZeC ks _ _ hz
  refine .tup _ vs (g.1.trans h1) ?_
  intro i x v hx hv
  have hlt:i<xs.length:=by rw[←g.1];exact(gS.1 hx).1
  obtain⟨q,hq,hr⟩:=g.2 i _ (gG hlt)
  rw[hx]at hq;obtain rfl:=oi hq
  exact ih i _ v (gG hlt) hv e0 hr
 |dead v=>intro _ y e;simp only[AV.ren,oE]at e;subst e;exact .dead v
def Blk.ren (ks:List Nat):Blk→Option Blk
 |.arr et e es=>some (.arr et e es)
 |.box cs=>(AV.renL ks cs).map .box
def Zhc (ks:List Nat) (fr:Fra):Nat→List Nat→Option Fra
 |_,[]=>some []
 |i,k::r=>match look fr k with
  |none=>Zhc ks fr (i+1) r
  |some b=>match b.ren ks,Zhc ks fr (i+1) r with
   |some b,some l=>some ((i,b)::l)
   |_,_=>none
def Zmv (ks:List Nat) (tm:List (Nat×AV)):List Nat→Option (List (Nat×AV))
 |[]=>some []
 |t::r=>match look tm t with
  |none=>none
  |some x=>match x.ren ks,Zmv ks tm r with
   |some x,some l=>some ((t,x)::l)
   |_,_=>none
def St.norm (st:St) (keep ks:List Nat) (nx:Nat):Option St:=
 match Zmv ks st.tm keep,Zhc ks st.fr 0 ks with
 |some tm,some fr=>some ⟨tm,fr,st.low,nx,st.nt⟩
 |_,_=>none
theorem Zj3 (ks:List Nat) (fr:Fra):∀ (r:List Nat) (i:Nat) (f:Fra),Zhc ks fr i r=some f→∀ j b,look f j=some b→i≤j∧∃ k b0,r[j - i]?=some k∧look fr k=some b0∧b0.ren ks=some b
 |[],i,f,h,j,b,hj=>by simp only[Zhc,oE]at h;subst h;simp[look]at hj
 |k::r,i,f,h,j,b,hj=>by
  have step:∀ f',Zhc ks fr (i+1) r=some f'→look f' j=some b→i≤j∧∃ k' b0,(k::r)[j - i]?=some k'∧look fr k'=some b0∧b0.ren ks=some b:=by
   intro f' h1 h2
   obtain⟨h3,k',b0,h4,h5,h6⟩:=Zj3 ks fr r (i+1) f' h1 j b h2
   refine⟨by omega,k',b0,?_,h5,h6⟩
   have e:j - i=(j - (i+1))+1:=by omega
   rw[e,List.getElem?_cons_succ];exact h4
  simp only[Zhc]at h
  split at h
  ·exact step f h hj
  ·rename_i b0 hb0
   split at h
   ·rename_i b' l hb' hl
    obtain rfl:=oi h
    simp only[look]at hj
    split at hj
    ·rename_i e
     subst e
     obtain rfl:=oi hj
     exact⟨Nat.le_refl _,k,b0,by simp,hb0,hb'⟩
    ·exact step l hl hj
   ·cases h
theorem Zht (ks:List Nat) (tm:List (Nat×AV)):∀ (r:List Nat) (f:List (Nat×AV)),Zmv ks tm r=some f→∀ t y,look f t=some y→∃ x,look tm t=some x∧x.ren ks=some y
 |[],f,h,t,y,hy=>by simp only[Zmv,oE]at h;subst h;simp[look]at hy
 |t0::r,f,h,t,y,hy=>by
  simp only[Zmv]at h
  split at h
  ·cases h
  ·rename_i x hx
   split at h
   ·rename_i x' l hx' hl
    obtain rfl:=oi h
    simp only[look]at hy
    split at hy
    ·rename_i e
     subst e
     obtain rfl:=oi hy
     exact⟨x,hx,hx'⟩
    ·exact Zht ks tm r l hl t y hy
   ·cases h
theorem HR.ren {t:Tie}{rest:List Tie}{fr fr':Fra}{low:Zar}{w:World}{ks:List Nat} (h:HR N0 W0 fm (t::rest) (fr::low) w) (hf:Zhc ks fr 0 ks=some fr') (hnd:ks.Nodup):
  HR N0 W0 fm (Zhq ks t::rest) (fr'::low) w:=by
 have src:∀ l k b,Zar.get (fr'::low) l k=some b→∃ k0 b0,Zar.get (fr::low) l k0=some b0∧tb (Zhq ks t::rest) l k=tb (t::rest) l k0∧(l=0→ks[k]?=some k0∧b0.ren ks=some b)∧(l≠0→k0=k∧b0=b):=by
  intro l k b hg
  cases l with
  |zero=>
   obtain⟨_,k0,b0,h1,h2,h3⟩:=Zj3 ks fr ks 0 fr' hf k b (by simpa [Zar.get] using hg)
   have h1:ks[k]?=some k0:=by simpa using h1
   exact⟨k0,b0,by simpa [Zar.get] using h2,by simp[tb,Zhq,h1],fun _=>⟨h1,h3⟩,fun h=>absurd rfl h⟩
  |succ l=>exact⟨k,b,by simpa [Zar.get] using hg,by simp[tb],fun h=>by omega,fun _=>⟨rfl,rfl⟩⟩
 refine⟨by have:=h.len;simpa using this,?_,?_,h.fms,?_,h.bel,h.size,h.oth⟩
 ·intro l k b hg
  obtain⟨k0,b0,h1,h2,h3,h4⟩:=src l k b hg
  rw[h2]
  have hb:=h.blk l k0 b0 h1
  cases l with
  |zero=>
   obtain⟨_,hr⟩:=h3 rfl
   simp only[List.drop_zero]at hb ⊢
   generalize tb (t::rest) 0 k0=tt at hb
   cases hb with
   |box c cs hN hB=>
    simp only[Blk.ren,mS]at hr
    obtain⟨ys,hy,rfl⟩:=hr
    have g:=ZeC ks _ _ hy
    obtain⟨cells,et,c1,c2,c3⟩:=hB
    refine .box c _ hN ⟨cells,et,c1,by rw[g.1];exact c2,?_⟩
    intro o x v hx hv
    have hlt:o<cs.length:=by rw[←g.1];exact(gS.1 hx).1
    obtain⟨z,hz,hzr⟩:=g.2 o _ (gG hlt)
    rw[hx]at hz;obtain rfl:=oi hz
    have:=c3 o _ v (gG hlt) hv
    exact⟨by rw[ZmL hzr];exact this.1,this.2.ren rfl hzr⟩
   |nil et esz=>simp only[Blk.ren,oE]at hr;subst hr;exact .nil et esz
   |arr et esz es c cap hN hA=>simp only[Blk.ren,oE]at hr;subst hr;exact .arr et esz es c cap hN hA
  |succ l=>
   obtain⟨rfl,rfl⟩:=h4 (by omega)
   simpa using hb
 ·intro l1 k1 l2 k2 b1 b2 c g1 g2 t1 t2
  obtain⟨j1,a1,p1,q1,r1,s1⟩:=src l1 k1 b1 g1
  obtain⟨j2,a2,p2,q2,r2,s2⟩:=src l2 k2 b2 g2
  rw[q1]at t1
  rw[q2]at t2
  obtain⟨rfl,rfl⟩:=h.inj l1 j1 l2 j2 a1 a2 c p1 p2 t1 t2
  refine⟨rfl,?_⟩
  by_cases hl:l1=0
  ·have e1:=(r1 hl).1
   have e2:=(r2 hl).1
   have hlt1:=(gS.1 e1).1
   exact(List.getElem?_inj hlt1 hnd).1 (e1.trans e2.symm)
  ·have e1:=(s1 hl).1
   have e2:=(s2 hl).1
   omega
 ·intro l k b c o hg ht
  obtain⟨k0,b0,h1,h2,_,_⟩:=src l k b hg
  rw[h2]at ht
  exact h.fmd l k0 b0 c o h1 ht
theorem ZaE.norm {st st':St}{keep ks:List Nat}{nx:Nat} (e:st.norm keep ks nx=some st') (hnd:ks.Nodup) (hnx:ks.length≤nx):ZaE n st st':=by
 intro N0 W0 a w fm ts h
 unfold St.norm at e
 split at e
 ·rename_i tm fr htm hfr
  obtain rfl:=oi e
  cases ts with
  |nil=>have:=h.hr.len;simp at this
  |cons t rest=>
   refine⟨fm,Zhq ks t::rest,⟨h.hr.ren hfr hnd,?_,?_,h.size,h.dfr⟩,⟨FmUp.refl _ _,ZaS.refl _,fun _ _ h=>h⟩⟩
   ·intro i y hy
    obtain⟨x,h1,h2⟩:=Zht ks st.tm keep tm htm i y hy
    obtain⟨v,h3,h4⟩:=h.tm i x h1
    exact⟨v,h3,h4.ren rfl h2⟩
   ·intro k hk
    have hk':nx≤k:=hk
    simp only[tb,Zhq]
    rw[List.getElem?_eq_none (by omega)];rfl
 ·cases e
end
end Go.Abs
namespace Go.Abs
open Go Go.RowKit
set_option linter.unusedSectionVars false
section
variable [Md] {P:Program}{T:Tys}{N0:Nat}{W0:World}{n:Nat}{fm:FM}{ts:List Tie}
def ZmQ (T:Tys) (st:St):ResultVar→Option AV
 |.tmp t=>look st.tm t
 |.cell a t=>match T t,look st.tm a with
  |some ti,some x=>Zgb st.get ti x
  |_,_=>none
def Zcw (T:Tys) (st:St):List ResultVar→Option (List AV)
 |[]=>some []
 |r::l=>match ZmQ T st r,Zcw T st l with
  |some x,some l=>some (x::l)
  |_,_=>none
def Zb6:List AV→AV
 |[x]=>x
 |l=>.tup l
theorem ZoN (hT:ZaW P T) {st:St}{a:Act}{w:World} (h:SR N0 W0 n st a w fm ts) {r:ResultVar}{x:AV} (e:ZmQ T st r=some x):
  ∃ v,(match r with
   |.tmp t=>(pure (a.tmps.getD t undef):Sem Value)
   |.cell b t=>do loadVar t (←asAddr (a.tmps.getD b undef))).run P w=.ok v w∧VR fm ts x v:=by
 cases r with
 |tmp t=>
  obtain⟨v,h1,h2⟩:=h.tm t x e
  exact⟨v,by simp[Array.getD_eq_getD_getElem?,h1],h2⟩
 |cell b t=>
  simp only[ZmQ]at e
  split at e
  ·rename_i ti y ht hy
   obtain⟨v,h1,h2⟩:=h.tm b y hy
   obtain⟨u,h3,h4⟩:=Zk5 (P:=P) hT ht h.hr h2 e
   refine⟨u,?_,h4⟩
   have hg:a.tmps.getD b undef=v:=by simp[Array.getD_eq_getD_getElem?,h1]
   unfold Zgb at e
   cases hc:cellsAt st.get ti.size y with
   |none=>rw[hc]at e;cases e
   |some cs=>
    obtain⟨ad,vs,rfl,_⟩:=h.hr.cellsAt h2 hc
    simp only[hg,asAddr,Sem.run_bind,Sem.run_pure,Result.andThen_ok]
    simpa [Instr.loadAt,Instr.sureAddr] using h3
  ·cases e
theorem ZcB (hT:ZaW P T) {st:St}{a:Act}{w:World} (h:SR N0 W0 n st a w fm ts) {fn:Func}{xs:List AV} (e:Zcw T st fn.results.toList=some xs):
  ∃ v,(results fn a.tmps).run P w=.ok v w∧VR fm ts (Zb6 xs) v:=by
 have key:∀ (l:List ResultVar) (xs:List AV),Zcw T st l=some xs→∃ vs:List Value,(l.mapM (m:=Sem) fun
   |.tmp t=>(pure (a.tmps.getD t undef):Sem Value)
   |.cell b t=>do loadVar t (←asAddr (a.tmps.getD b undef))).run P w=.ok vs w∧VRs fm ts xs vs:=by
  intro l
  induction l with
  |nil=>intro xs e;simp only[Zcw,oE]at e;subst e;exact⟨[],by simp,rfl,fun i x v h=>by simp at h⟩
  |cons r l ih=>
   intro xs e
   simp only[Zcw]at e
   split at e
   ·rename_i x l' hx hl
    obtain rfl:=oi e
    obtain⟨v,h1,h2⟩:=ZoN (P:=P) hT h hx
    obtain⟨vs,h3,h4⟩:=ih l' hl
    refine⟨v::vs,?_,by simp[h4.1],?_⟩
    ·simp only[List.mapM_cons,Sem.run_bind,h1,h3,Result.andThen_ok,Sem.run_pure]
    ·intro i y u hy hu
     cases i with
     |zero=>simp only[List.getElem?_cons_zero,oE]at hy hu;subst hy hu;exact h2
     |succ i=>simp only[List.getElem?_cons_succ]at hy hu;exact h4.2 i y u hy hu
   ·cases e
 obtain⟨vs,h1,h2⟩:=key _ _ e
 have hr:(results fn a.tmps).run P w=.ok (if h:vs.toArray.size=1 then vs.toArray[0] else .tuple vs.toArray) w:=by
  unfold results
  rw[←Array.toArray_toList (xs:=fn.results),List.mapM_toArray]
  simp only[Sem.run_bind,Sem.run_map,Sem.run_pure]
  erw [h1]
  rfl
 refine⟨_,hr,?_⟩
 have hl:=h2.1
 match xs,vs,hl,h2 with
 |[],[],_,h2=>exact .tup [] #[] rfl (fun i x v h=>by simp at h)
 |[x],[v],_,h2=>exact h2.2 0 x v rfl rfl
 |x::y::xs,v::u::vs,_,h2=>
  have:¬ ((v::u::vs).toArray.size=1):=by simp
  rw[dif_neg this]
  exact .tup _ _ (by simpa using h2.1) (fun i x v a b=>h2.2 i x v a (by simpa using b))
def Zkz:Nat→List AV→List (Nat×AV)
 |_,[]=>[]
 |i,x::l=>(i,x)::Zkz (i+1) l
theorem Zhm:∀ (l:List AV) (i t:Nat) (x:AV),look (Zkz i l) t=some x→i≤t∧l[t - i]?=some x
 |[],i,t,x,h=>by simp[Zkz,look]at h
 |y::l,i,t,x,h=>by
  simp only[Zkz,look]at h
  split at h
  ·rename_i e
   subst e
   obtain rfl:=oi h
   exact⟨Nat.le_refl _,by simp⟩
  ·obtain⟨h1,h2⟩:=Zhm l (i+1) t x h
   refine⟨by omega,?_⟩
   have e:t - i=(t - (i+1))+1:=by omega
   rw[e,List.getElem?_cons_succ];exact h2
def St.enter (args:List AV) (H:Zar) (n:Nat):St:=⟨Zkz 0 args,[],H,0,n⟩
theorem HR.push {H:Zar}{w:World} (h:HR N0 W0 fm ts H w):HR N0 W0 fm (Zci::ts) ([]::H) w:=by
 refine⟨by simp[h.len],?_,?_,h.fms,?_,h.bel,h.size,h.oth⟩
 ·intro l k b hg
  cases l with
  |zero=>simp[Zar.get,look]at hg
  |succ l=>simpa [tb] using h.blk l k b (by simpa [Zar.get] using hg)
 ·intro l1 k1 l2 k2 b1 b2 c g1 g2 t1 t2
  cases l1 with
  |zero=>simp[Zar.get,look]at g1
  |succ l1=>
   cases l2 with
   |zero=>simp[Zar.get,look]at g2
   |succ l2=>
    have:=h.inj l1 k1 l2 k2 b1 b2 c (by simpa [Zar.get] using g1) (by simpa [Zar.get] using g2) (by simpa [tb] using t1) (by simpa [tb] using t2)
    exact⟨by omega,this.2⟩
 ·intro l k b c o hg ht
  cases l with
  |zero=>simp[Zar.get,look]at hg
  |succ l=>exact h.fmd l k b c o (by simpa [Zar.get] using hg) (by simpa [tb] using ht)
theorem SR.enter {H:Zar}{w:World} (h:HR N0 W0 fm ts H w) {args:List AV}{vs:List Value} (hv:VRs fm (Zci::ts) args vs) {n:Nat} (hn:args.length≤n):
  SR N0 W0 n (St.enter args H n) { tmps:=vs.toArray++Array.replicate (n - vs.toArray.size) undef,defers:=Md.dfs } w fm (Zci::ts):=by
 have hl:=hv.1
 refine⟨h.push,?_,fun k _=>rfl,by simp;omega,rfl⟩
 intro t x hx
 obtain⟨_,hx⟩:=Zhm args 0 t x hx
 simp only[Nat.sub_zero]at hx
 have hlt:t<vs.length:=by rw[←hl];exact(gS.1 hx).1
 refine⟨vs[t],?_,hv.2 t x _ hx (gG hlt)⟩
 rw[Array.getElem?_append_left (by simpa using hlt)]
 simp[hlt]
inductive Gives (R:AV→Fra→Zar→Prop) (v:AV) (st:St):Prop
 |own (ks:List Nat) (y:AV) (fr:Fra) (hn:ks.Nodup) (hk:ks.length≤16) (hy:v.ren ks=some y) (hf:Zhc ks st.fr 0 ks=some fr) (h:R y fr st.low)
 |frz (y:AV) (hy:v.frz st.get=some y) (hr:(v.refs.all fun p=>p.1==0)=true) (h:R y [] st.low)
def ZuW (T:Tys) (rs:List ResultVar) (R:AV→Fra→Zar→Prop) (e:Exit) (st:St):Prop:=
 match e with
 |.normal|.ret=>∃ xs,Zcw T st rs=some xs∧Gives R (Zb6 xs) st
 |_=>False
theorem HR.pop {t:Tie}{f:Fra}{H:Zar}{w:World} (h:HR N0 W0 fm (t::ts) (f::H) w):HR N0 W0 fm ts H w:=by
 refine⟨by have:=h.len;simpa using this,?_,?_,h.fms,?_,h.bel,h.size,h.oth⟩
 ·intro l k b hg
  simpa [tb] using h.blk (l+1) k b (by simpa [Zar.get] using hg)
 ·intro l1 k1 l2 k2 b1 b2 c g1 g2 t1 t2
  have:=h.inj (l1+1) k1 (l2+1) k2 b1 b2 c (by simpa [Zar.get] using g1) (by simpa [Zar.get] using g2) (by simpa [tb] using t1) (by simpa [tb] using t2)
  exact⟨by omega,this.2⟩
 ·intro l k b c o hg ht
  exact h.fmd (l+1) k b c o (by simpa [Zar.get] using hg) (by simpa [tb] using ht)
theorem Zlj {r:List (Nat×Nat)} (hr:(r.all fun p=>p.1==0)=true):∀ (f:Fra) (H:Zar),∃ f',Zar.puts (f::H) (Zet r)=f'::H:=by
 induction r with
 |nil=>intro f H;exact⟨f,rfl⟩
 |cons p r ih=>
  intro f H
  simp only[List.all_cons,Bool.and_eq_true,beq_iff_eq]at hr
  obtain⟨l,k⟩:=p
  obtain⟨h1,h2⟩:=hr
  simp only at h1
  subst h1
  exact ih h2 (del f k) H
end
section
variable {P:Program}{T:Tys}{N0:Nat}{W0:World}{n:Nat}{fm:FM}{ts:List Tie}
theorem ZfU.of_body (hT : ZaW P T) {f : FuncId} {fn : Func} {c : Code} {sc : SC} {args : List AV} {H : Zar} {R : AV → Fra → Zar → Prop} (hf : P.funcs[f]? = some fn) (hb : fn.body = some c) (hnm : (fn.name == "runtime.NumGoroutine") = false)
  (he:sc.bare=Zbh fn.ntmps c) (hfit:(Zbh fn.ntmps c).fits fn.ntmps=true) (hargs:args.length≤fn.ntmps)
  (h:AK P fn.ntmps (ZuW T fn.results.toList fun y fr H'=>R y fr H') [.sc sc] (St.enter args H fn.ntmps)) (hlow:∀ y fr H',R y fr H'→H'.length=H.length):ZfU P f args H R:=by
 refine⟨⟨fn,hf,hnm,by simp[hb]⟩,?_⟩
 intro N0 W0 fm ts w vs hH hv
 refine calls_of_wp hf hb ((Zd3 []).1 ?_)
 have hS:=SR.enter hH hv hargs
 have:=h N0 W0 fm (Zci::ts) _ w [.code c] (bodyPost P fn fun e w'=>∃ v av fr' H' fm' t' ts',e=.returned v∧R av fr' H'∧H'.length=H.length∧HR N0 W0 fm' (t'::ts') (fr'::H') w'∧VR fm' (t'::ts') av v∧FmUp N0 fm fm'∧ZaS ts ts'∧
   (∀ l k,tb ts l k=none→tb ts' l k=none)∧∀ k,16≤k→t' k=none) hS (.sc he hfit .nil) ?_
 ·exact this
 ·intro e st' a' w' fm' ts' hE hS' hL
  have fin:(∃ xs,Zcw T st' fn.results.toList=some xs∧Gives R (Zb6 xs) st')→a'.defers=[]∧∃ v,(results fn a'.tmps).run P w'=.ok v w'∧∃ v_1 av fr' H' fm' t' ts',Ending.returned v=.returned v_1∧R av fr' H'∧H'.length=H.length∧HR N0 W0 fm' (t'::ts') (fr'::H') w'∧VR fm' (t'::ts') av v_1∧FmUp N0 fm fm'∧ZaS ts ts'∧
    (∀ l k,tb ts l k=none→tb ts' l k=none)∧∀ k,16≤k→t' k=none:=by
   rintro⟨xs,hxs,hg⟩
   obtain⟨v,h1,h2⟩:=ZcB (P:=P) hT hS' hxs
   refine⟨hS'.dfr,v,h1,?_⟩
   cases ts' with
   |nil=>have:=hS'.hr.len;simp at this
   |cons t rest=>
    have hts:ZaS ts rest:=by simpa using hL.tle
    have hno:∀ l k,tb ts l k=none→tb rest l k=none:=by simpa using hL.no
    cases hg with
    |own ks y fr hn hk hy hfr hR=>
     exact⟨v,y,fr,st'.low,fm',Zhq ks t,rest,rfl,hR,hlow _ _ _ hR,hS'.hr.ren hfr hn,h2.ren rfl hy,hL.fle,hts,hno,fun k hk'=>by simp only[Zhq];rw[List.getElem?_eq_none (by omega)];rfl⟩
    |frz y hy hr hR=>
     have h3:=hS'.hr.frz (Zb6 xs).refs h2 hy (fun _ h=>h)
     have h4:=hS'.hr.letGo (Zb6 xs).refs
     obtain⟨f',hf'⟩:=Zlj hr st'.fr st'.low
     rw[hf']at h4
     have hpt:∀ l k,tb (ZeO (t::rest) (Zb6 xs).refs) (l+1) k=tb rest l k:=by
      intro l k
      rw[Zcn,if_neg]
      ·simp[tb]
      ·rintro⟨hm,_⟩
       have:=List.all_eq_true.1 hr _ hm
       simp at this
     have ZbW:=Zfh (Zb6 xs).refs (t::rest)
     cases hg:ZeO (t::rest) (Zb6 xs).refs with
     |nil=>rw[hg]at ZbW;simp at ZbW
     |cons t2 rest2=>
      rw[hg]at h4 hpt
      have e2:∀ l k,tb rest2 l k=tb rest l k:=fun l k=>by simpa [tb] using hpt l k
      have hup:=hS'.hr.fmUp (Zb6 xs).refs
      exact⟨v,y,[],st'.low,_,Zci,rest2,rfl,hR,hlow _ _ _ hR,h4.pop.push,h3.mono (Zdw.refl _) (ZaS.nil _),hL.fle.trans hup,fun l k=>by rw[e2];exact hts l k,fun l k hh=>by rw[e2];exact hno l k hh,fun _ _=>rfl⟩
  cases e with
  |normal=>exact fin hE
  |ret=>exact fin hE
  |_=>exact hE.elim
end
end Go.Abs
namespace Go.Abs
open Go Go.RowKit
set_option linter.unusedSectionVars false
mutual
theorem frz_idem (G:Get):∀ (x y:AV),x.frz G=some y→y.frz (fun _ _=>none)=some y
 |.loc l k e i n g,y,h=>by
  simp only[AV.frz]at h
  split at h
  ·split at h
   ·obtain rfl:=oi h;simp[AV.frz]
   ·cases h
  ·cases h
 |.nil,y,h=>by simp only[AV.frz,oE]at h;subst h;simp[AV.frz]
 |.ifc t v,y,h=>by
  simp only[AV.frz,mS]at h
  obtain⟨a,h1,rfl⟩:=h
  simp only[AV.frz,frz_idem G v a h1,Option.map_some]
 |.agg cs,y,h=>by
  simp only[AV.frz,mS]at h
  obtain⟨a,h1,rfl⟩:=h
  simp only[AV.frz,frzL_idem G cs a h1,Option.map_some]
 |.tup vs,y,h=>by
  simp only[AV.frz,mS]at h
  obtain⟨a,h1,rfl⟩:=h
  simp only[AV.frz,frzL_idem G vs a h1,Option.map_some]
 |.bool b,y,h=>by simp only[AV.frz,oE]at h;subst h;simp[AV.frz]
 |.int k n,y,h=>by simp only[AV.frz,oE]at h;subst h;simp[AV.frz]
 |.str s,y,h=>by simp only[AV.frz,oE]at h;subst h;simp[AV.frz]
 |.sl e es,y,h=>by simp only[AV.frz,oE]at h;subst h;simp[AV.frz]
 |.pnil,y,h=>by simp only[AV.frz,oE]at h;subst h;simp[AV.frz]
 |.fnil,y,h=>by simp only[AV.frz,oE]at h;subst h;simp[AV.frz]
 |.inil,y,h=>by simp only[AV.frz,oE]at h;subst h;simp[AV.frz]
 |.fn f a b,y,h=>by
  simp only[AV.frz]at h
  split at h
  ·rename_i x z hx hz
   obtain rfl:=oi h
   simp only[AV.frz,frzL_idem G a x hx,frzL_idem G b z hz]
  ·cases h
 |.inn ..,y,h=>by simp[AV.frz]at h
 |.ptr ..,y,h=>by simp[AV.frz]at h
 |.eptr ..,y,h=>by simp[AV.frz]at h
 |.rptr ..,y,h=>by simp only[AV.frz,oE]at h;subst h;simp[AV.frz]
 |.dead,y,h=>by simp[AV.frz]at h
theorem frzL_idem (G:Get):∀ (l ys:List AV),AV.frzL G l=some ys→AV.frzL (fun _ _=>none) ys=some ys
 |[],ys,h=>by simp only[AV.frzL,oE]at h;subst h;rfl
 |x::l,ys,h=>by
  simp only[AV.frzL]at h
  split at h
  ·rename_i a b ha hb
   obtain rfl:=oi h
   simp only[AV.frzL,frz_idem G x a ha,frzL_idem G l b hb]
  ·cases h
end
def AV.leaf:AV→Bool
 |.bool _|.int _ _|.str _|.nil|.pnil|.fnil|.inil=>true
 |_=>false
def AV.scal:AV→Bool
 |.agg cs=>cs.all AV.leaf
 |.tup vs=>vs.all AV.leaf
 |x=>x.leaf
theorem VR.leaf {fm fm':FM}{ts ts':List Tie}{x:AV}{v:Value} (h:VR fm ts x v) (hx:x.leaf=true):VR fm' ts' x v:=by
 cases h<;>first|(simp[AV.leaf]at hx;done)|constructor
theorem VR.scal {fm fm':FM}{ts ts':List Tie}{x:AV}{v:Value} (h:VR fm ts x v) (hx:x.scal=true):VR fm' ts' x v:=by
 cases h with
 |agg cs vs h1 h2 h3=>exact .agg cs vs h1 h2 (fun i x v a b=>(h3 i x v a b).leaf (List.all_eq_true.1 hx x (List.mem_of_getElem? a)))
 |tup xs vs h1 h3=>exact .tup xs vs h1 (fun i x v a b=>(h3 i x v a b).leaf (List.all_eq_true.1 hx x (List.mem_of_getElem? a)))
 |_=>first|(simp[AV.scal,AV.leaf]at hx;done)|constructor
def ZtB (fm:FM) (w:World):Prop:=∀ b o v,fm b o=some v→w.cell? ⟨b,o,none⟩=some v
def Za6 (P:Program) (f:FuncId) (args:List AV) (R:AV→Prop):Prop:=
 ZmF P f∧∀ fm w vs,ZtB fm w→VRs fm [] args vs→
  Calls P f vs.toArray w fun e w'=>∃ v y fm',e=.returned v∧R y∧ZtB fm' w'∧VR fm' [] y v∧FmUp w.heap.size fm fm'∧Below w.heap.size w w'
def Zmn (T:Tys) (rs:List ResultVar) (R:AV→Prop) (e:Exit) (st:St):Prop:=
 match e with
 |.normal|.ret=>st.low=[]∧∃ xs y,Zcw T st rs=some xs∧(Zb6 xs).frz st.get=some y∧R y
 |_=>False
section
variable {P:Program}{T:Tys}{N0:Nat}{W0:World}{n:Nat}{fm:FM}{ts:List Tie}{H:Zar}{w:World}
theorem HR.nothing {w:World} (h:ZtB fm w):HR w.heap.size w fm [] [] w:=
 ⟨rfl,fun l k b hg=>by simp[Zar.get]at hg,fun l k l' k' b b' c hg=>by simp[Zar.get]at hg,h,fun l k b c o hg=>by simp[Zar.get]at hg,Below.refl _ _,Nat.le_refl _,fun _ _ h _=>h⟩
theorem Za6.of_body (hT : ZaW P T) {f : FuncId} {fn : Func} {c : Code} {sc : SC} {args : List AV} {R : AV → Prop} (hf : P.funcs[f]? = some fn) (hb : fn.body = some c) (hnm : (fn.name == "runtime.NumGoroutine") = false)
  (he:sc.bare=Zbh fn.ntmps c) (hfit:(Zbh fn.ntmps c).fits fn.ntmps=true) (hargs:args.length≤fn.ntmps)
  (h:AK P fn.ntmps (Zmn T fn.results.toList R) [.sc sc] (St.enter args [] fn.ntmps)):Za6 P f args R:=by
 have hA:ZfU P f args [] (fun y fr H'=>fr=[]∧H'=[]∧y.frz (fun _ _=>none)=some y∧R y):=by
  refine ZfU.of_body hT hf hb hnm he hfit hargs (h.mono ?_) (by rintro y fr H' ⟨_,rfl,_⟩;rfl)
  intro e st hE
  have fin:(st.low=[]∧∃ xs y,Zcw T st fn.results.toList=some xs∧(Zb6 xs).frz st.get=some y∧R y)→
    ∃ xs,Zcw T st fn.results.toList=some xs∧Gives (fun y fr H'=>fr=[]∧H'=[]∧y.frz (fun _ _=>none)=some y∧R y) (Zb6 xs) st:=by
   rintro⟨hl,xs,y,h1,h2,h3⟩
   refine⟨xs,h1,.frz y h2 ?_ ⟨rfl,hl,frz_idem _ _ _ h2,h3⟩⟩
   rw[List.all_eq_true]
   intro p hp
   obtain⟨et,esz,es,hg⟩:=frz_refs_arr _ _ _ h2 p hp
   have hlt:=Zar.get_lt _ _ _ _ (show Zar.get (st.fr::st.low) p.1 p.2=_ from hg)
   rw[hl]at hlt
   simp at hlt
   simp[hlt]
  cases e with
  |normal=>exact fin hE
  |ret=>exact fin hE
  |_=>exact hE.elim
 refine⟨hA.1,fun fm w vs h1 h2=>Calls.mono (hA.2 w.heap.size w fm [] w vs (HR.nothing h1) (h2.mono (Zdw.refl _) (ZaS.nil _))) ?_⟩
 rintro e w' ⟨v,av,fr',H',fm',t',ts',rfl,⟨rfl,rfl,hz,hR⟩,_,hhr,hvr,hup,_,_,_⟩
 refine⟨v,av,fm',rfl,hR,hhr.fms,?_,hup,hhr.bel⟩
 have:=hhr.bareL (cs:=[av]) (ys:=[av]) (vs:=[v]) ⟨rfl,fun i x u a b=>by
  cases i with
  |zero=>simp at a b;subst a b;exact hvr
  |succ i=>simp at a⟩ (by simp only[AV.frzL,hz])
 exact this.2 0 av v rfl rfl
theorem HR.up {fm':FM}{w':World} (h:HR N0 W0 fm ts H w) (hb:Below w.heap.size w w') (hup:FmUp w.heap.size fm fm') (hin:ZtB fm' w'):HR N0 W0 fm' ts H w':=by
 have h1:=h.world (w':=w') (fun i hi=>hb.block i hi) (hb.mono h.size)
 refine⟨h1.len,fun l k b hg=>(h1.blk l k b hg).mono hup.le (ZaS.refl _) (fun _ _=>rfl),h1.inj,hin,?_,h1.bel,h1.size,h1.oth⟩
 intro l k b c o hg ht
 rw[hup.fix c o ((h.blk l k b hg).lt ht).1]
 exact h.fmd l k b c o hg ht
theorem FmUp.low {fm fm':FM}{a b:Nat} (h:FmUp a fm fm') (hb:b≤a):FmUp b fm fm':=⟨h.le,fun x o hx=>h.fix x o (by omega)⟩
theorem Za6.frozen {f:FuncId}{args fargs:List AV}{R:AV→Prop} (hp:Za6 P f fargs R) (hz:AV.frzL (Zar.get ([]::H)) args=some fargs) (hr:AV.refsL args=[]):
  ZfU P f args H (fun y fr H'=>R y∧fr=[]∧H'=H):=by
 refine⟨hp.1,fun N0 W0 fm ts w vs hH hv=>?_⟩
 have h1:=hH.push.frzL [] hv hz (by rw[hr];simp)
 rw[ZfM]at h1
 refine Calls.mono (hp.2 fm w vs hH.fms h1) ?_
 rintro e w' ⟨v,y,fm',rfl,hR,hin,hvr,hup,hb⟩
 exact⟨v,y,[],H,fm',Zci,ts,rfl,⟨hR,rfl,rfl⟩,rfl,(hH.up hb hup hin).push,hvr.mono (Zdw.refl _) (ZaS.nil _),hup.low hH.size,ZaS.refl _,fun _ _ h=>h,fun _ _=>rfl⟩
theorem Za6.borrow {f:FuncId}{args fargs:List AV}{R:AV→Prop} (hp:Za6 P f fargs R) (hz:AV.frzL (Zar.get ([]::H)) args=some fargs) (hs:∀ y,R y→y.scal=true):
  ZfU P f args H (fun y fr H'=>R y∧fr=[]∧H'=H):=by
 refine⟨hp.1,fun N0 W0 fm ts w vs hH hv=>?_⟩
 have h1:=hH.push.frzL (AV.refsL args) hv hz (fun _ h=>h)
 have h2:=(hH.push.letGo (AV.refsL args)).fms
 refine Calls.mono (hp.2 _ w vs h2 h1) ?_
 rintro e w' ⟨v,y,fm',rfl,hR,hin,hvr,hup,hb⟩
 have hH':HR N0 W0 fm ts H w':=hH.world (fun i hi=>hb.block i hi) (hb.mono hH.size)
 exact⟨v,y,[],H,fm,Zci,ts,rfl,⟨hR,rfl,rfl⟩,rfl,hH'.push,hvr.scal (hs y hR),FmUp.refl _ _,ZaS.refl _,fun _ _ h=>h,fun _ _=>rfl⟩
end
mutual
def AV.br (G:Get) (F:Nat→Nat→Option (List AV)):AV→Option AV
 |.loc l k e i n g=>(AV.loc l k e i n g).frz G
 |.ptr l k o=>match F l k with
  |some ys=>some (.rptr ys.length [ys] 0 o)
  |none=>none
 |.inn l k e o n=>match F l k with
  |some ys=>if e=1∧o+n≤ys.length∧n≤65536 then some (.sl 1 (((ys.drop o).take n).map fun c=>[c])) else none
  |none=>none
 |.fn f a b=>match AV.brL G F a,AV.brL G F b with
  |some a,some b=>some (.fn f a b)
  |_,_=>none
 |.ifc t v=>(v.br G F).map (.ifc t)
 |.agg cs=>(AV.brL G F cs).map .agg
 |.tup vs=>(AV.brL G F vs).map .tup
 |.nil=>some .nil
 |.bool b=>some (.bool b)
 |.int k n=>some (.int k n)
 |.str s=>some (.str s)
 |.sl e es=>some (.sl e es)
 |.pnil=>some .pnil
 |.fnil=>some .fnil
 |.inil=>some .inil
 |.rptr e es i o=>some (.rptr e es i o)
 |_=>none
def AV.brL (G:Get) (F:Nat→Nat→Option (List AV)):List AV→Option (List AV)
 |[]=>some []
 |x::l=>match x.br G F,AV.brL G F l with
  |some x,some l=>some (x::l)
  |_,_=>none
end
def boxF (G:Get):Nat→Nat→Nat→Option (List AV)
 |0,_,_=>none
 |n+1,l,k=>match G l k with
  |some (.box cs)=>AV.brL G (boxF G n) (AV.shL l cs)
  |_=>none
theorem Ze2 (G:Get) (F:Nat→Nat→Option (List AV)):∀ (cs ys:List AV),AV.brL G F cs=some ys→ys.length=cs.length∧∀ (i:Nat) (x:AV),cs[i]?=some x→∃ y,ys[i]?=some y∧x.br G F=some y
 |[],ys,h=>by simp only[AV.brL,oE]at h;subst h;simp
 |x::l,ys,h=>by
  simp only[AV.brL]at h
  split at h
  ·rename_i a b ha hb
   obtain rfl:=oi h
   have ih:=Ze2 G F l b hb
   refine⟨by simp[ih.1],?_⟩
   intro i z hz
   cases i with
   |zero=>simp only[List.getElem?_cons_zero,oE]at hz;subst hz;exact⟨a,by simp,ha⟩
   |succ i=>simp only[List.getElem?_cons_succ]at hz ⊢;exact ih.2 i z hz
  ·cases h
theorem ZlK {G:Get}{F:Nat→Nat→Option (List AV)}{x y:AV} (h:x.br G F=some y):y.flat=x.flat:=by
 cases x with
 |loc l k e i n g=>simp only[AV.br]at h;exact Zib h
 |ptr l k o=>
  simp only[AV.br]at h
  split at h
  ·obtain rfl:=oi h;rfl
  ·cases h
 |inn l k e o n=>
  simp only[AV.br]at h
  split at h
  ·split at h
   ·obtain rfl:=oi h;rfl
   ·cases h
  ·cases h
 |fn f a b=>
  simp only[AV.br]at h
  split at h
  ·obtain rfl:=oi h;rfl
  ·cases h
 |_=>
  first
  |(simp[AV.br]at h;done)
  |(simp only[AV.br,oE]at h;subst h;simp[AV.flat];done)
  |(simp only[AV.br,mS]at h;obtain⟨a,_,rfl⟩:=h;simp[AV.flat];done)
section
variable {N0:Nat}{W0:World}{fm:FM}{ts:List Tie}{H:Zar}{w:World}
def Zgq (w:World):FM:=fun b o=>w.cell? ⟨b,o,none⟩
theorem HR.brG (h:HR N0 W0 fm ts H w) {fm':FM}{G:Get} (hle:Zdw fm fm') (hG:∀ l k b,G l k=some b→H.get l k=some b) (hcell:∀ l k b c,G l k=some b→tbc (tb ts l k)=some c→∀ o u,w.cell? ⟨c,o,none⟩=some u→fm' c o=some u) (F:Nat→Nat→Option (List AV)) (hF:∀ l k ys c,F l k=some ys→tb ts l k=some (.box c)→(∀ o u,w.cell? ⟨c,o,none⟩=some u→fm' c o=some u)∧∃ cells et,w.heap[c]?=some (.cells cells et (0,0))∧cells.size=ys.length∧
   ∀ (o:Nat) y v,ys[o]?=some y→cells[o]?=some v→y.flat=true∧VR fm' [] y v) {ts0:List Tie}{x:AV}{v:Value} (hv:VR fm ts0 x v):
  ts0=ts→∀ {y:AV},x.br G F=some y→VR fm' [] y v:=by
 have loc:∀ {l k esz i n g v y},VR fm ts (.loc l k esz i n g) v→(AV.loc l k esz i n g).frz G=some y→VR fm' [] y v:=by
  intro l k esz i n g v y hv hy
  have hy':(AV.loc l k esz i n g).frz H.get=some y∧∃ b,G l k=some b:=by
   simp only[AV.frz]at hy ⊢
   split at hy
   ·rename_i et esz' es hg
    rw[hG l k _ hg];exact⟨hy,_,hg⟩
   ·cases hy
  obtain⟨hy1,b0,hb0⟩:=hy'
  refine(h.frz [(l,k)] hv hy1 (by simp[AV.refs])).mono ?_ (ZaS.refl _)
  intro b o u hu
  unfold Zdv at hu
  split at hu
  ·rename_i hb
   obtain⟨l',k',b',hm,hg,_,ht⟩:=hb
   simp only[List.mem_singleton,Prod.mk.injEq]at hm
   obtain⟨rfl,rfl⟩:=hm
   exact hcell l' k' b0 b hb0 ht o u hu
  ·exact hle b o u hu
 induction hv with
 |bool b=>intro _ y e;simp only[AV.br,oE]at e;subst e;exact .bool b
 |int k n=>intro _ y e;simp only[AV.br,oE]at e;subst e;exact .int k n
 |str s=>intro _ y e;simp only[AV.br,oE]at e;subst e;exact .str s
 |nil=>intro _ y e;simp only[AV.br,oE]at e;subst e;exact .nil
 |slNil e0 a cap=>intro _ y e;simp only[AV.br,oE]at e;subst e;exact .slNil e0 a cap
 |sl es cb off esz cap u hcap h1 h2 h3 h4 _=>intro _ y e;simp only[AV.br,oE]at e;subst e;exact(VR.sl es cb off esz cap u hcap h1 h2 h3 h4 (ts:=[])).mono hle (ZaS.refl _)
 |locGone l k esz i n g a cp ht hn ha=>rintro rfl y e;exact loc (.locGone l k esz i n g a cp ht hn ha) (by simpa only [AV.br] using e)
 |locOld l k esz i n g a cp m' c ht hlt hn ha=>rintro rfl y e;exact loc (.locOld l k esz i n g a cp m' c ht hlt hn ha) (by simpa only [AV.br] using e)
 |locNil l k esz a ht=>rintro rfl y e;exact loc (.locNil l k esz a ht) (by simpa only [AV.br] using e)
 |loc l k esz i n g c cap cp a ht hn hnc hc ha=>rintro rfl y e;exact loc (.loc l k esz i n g c cap cp a ht hn hnc hc ha) (by simpa only [AV.br] using e)
 |inn l k esz o n c cp a ht hn ha=>
  rintro rfl y e
  simp only[AV.br]at e
  split at e
  ·rename_i ys hys
   split at e
   ·rename_i hc
    obtain⟨rfl,hle1,hn6⟩:=hc
    obtain rfl:=oi e
    obtain⟨hcc,cells,et,c1,c2,c3⟩:=hF l k ys c hys ht
    have ZbW:(((ys.drop o).take n).map fun c=>[c]).length=n:=by simp;omega
    have get:∀ (i:Nat) (d:List AV),(((ys.drop o).take n).map fun c=>[c])[i]?=some d→∃ x,d=[x]∧ys[o+i]?=some x:=by
     intro i d hd
     rw[List.getElem?_map,mS]at hd
     obtain⟨x,hx,rfl⟩:=hd
     rw[List.getElem?_take]at hx
     split at hx
     ·rw[List.getElem?_drop]at hx;exact⟨x,rfl,hx⟩
     ·cases hx
    by_cases hcp:cp=0
    ·have:n=0:=by omega
     subst this
     simp only[List.take_zero,List.map_nil]
     exact .slNil 1 (some a) cp
    ·have ha':=ha hcp
     subst ha'
     have one:∀ (i:Nat) (d:List AV) (o':Nat) (x:AV),(((ys.drop o).take n).map fun c=>[c])[i]?=some d→d[o']?=some x→o'=0∧∃ u,cells[o+i]?=some u∧x.flat=true∧VR fm' [] x u:=by
      intro i d o' x hd hx
      obtain⟨y,rfl,hy⟩:=get i d hd
      cases o' with
      |succ o'=>simp at hx
      |zero=>
       simp only[List.getElem?_cons_zero,oE]at hx
       subst hx
       have hlt:o+i<cells.size:=by rw[c2];exact(gS.1 hy).1
       have hcu:=Array.getElem?_eq_getElem hlt
       exact⟨rfl,_,hcu,c3 (o+i) y _ hy hcu⟩
     have:=VR.sl (fm:=fm') (ts:=[]) (((ys.drop o).take n).map fun c=>[c]) c o 1 cp (fun i _=>(cells[o+i]?).getD default) (by rw[ZbW];exact⟨hn,by simp[maxLen];omega⟩) (by
       intro d hd
       simp only[List.mem_map]at hd
       obtain⟨z,_,rfl⟩:=hd;rfl)
      (by
       intro i d o' x hd hx
       obtain⟨rfl,u,hu,_,_⟩:=one i d o' x hd hx
       refine hcc _ _ ?_
       simp only[World.cell?,c1,Nat.mul_one,Nat.add_zero,hu]
       simp)
      (fun i d o' x hd hx=>(one i d o' x hd hx).2.elim fun u hu=>hu.2.1)
      (by
       intro i d o' x hd hx
       obtain⟨rfl,u,hu,_,hv⟩:=one i d o' x hd hx
       rw[hu]
       exact hv)
     rw[ZbW]at this
     exact this
   ·cases e
  ·cases e
 |pnil=>intro _ y e;simp only[AV.br,oE]at e;subst e;exact .pnil
 |ptr l k o c ht=>
  rintro rfl y e
  simp only[AV.br]at e
  split at e
  ·rename_i ys hys
   obtain rfl:=oi e
   obtain⟨hcc,cells,et,c1,c2,c3⟩:=hF l k ys c hys ht
   have one:∀ (i:Nat) (cc:List AV) (o:Nat) (x:AV),[ys][i]?=some cc→cc[o]?=some x→i=0∧∃ u,cells[o]?=some u∧x.flat=true∧VR fm' [] x u:=by
    intro i cc o x hi ho
    cases i with
    |succ i=>simp at hi
    |zero=>
     simp only[List.getElem?_cons_zero,oE]at hi
     subst hi
     have hlt:o<cells.size:=by rw[c2];exact(gS.1 ho).1
     have hcu:=Array.getElem?_eq_getElem hlt
     exact⟨rfl,_,hcu,c3 o x _ ho hcu⟩
   have:=VR.rptr (fm:=fm') (ts:=[]) [ys] 0 o c 0 ys.length (fun _ o=>(cells[o]?).getD default) (by intro cc hcc;simp at hcc;rw[hcc])
    (by
     intro i cc o x hi ho
     obtain⟨rfl,u,hu,_,_⟩:=one i cc o x hi ho
     refine hcc _ _ ?_
     simp only[World.cell?,c1,Nat.zero_mul,Nat.zero_add,hu]
     simp)
    (fun i cc o x hi ho=>(one i cc o x hi ho).2.elim fun u hu=>hu.2.1)
    (by
     intro i cc o x hi ho
     obtain⟨rfl,u,hu,_,hv⟩:=one i cc o x hi ho
     rw[hu]
     exact hv)
   simpa using this
  ·cases e
 |eptrGone l k esz i o g a ht=>intro _ y e;simp[AV.br]at e
 |eptrOld l k esz i o g a m' c ht hlt=>intro _ y e;simp[AV.br]at e
 |eptr l k esz i o g c cap ht=>intro _ y e;simp[AV.br]at e
 |rptr es i o cb off esz u h1 h2 h3 h4 _=>intro _ y e;simp only[AV.br,oE]at e;subst e;exact(VR.rptr es i o cb off esz u h1 h2 h3 h4 (ts:=[])).mono hle (ZaS.refl _)
 |fnil=>intro _ y e;simp only[AV.br,oE]at e;subst e;exact .fnil
 |fn f first cap vf vc h1 h2 _ _ ih1 ih2=>
  rintro rfl y e
  simp only[AV.br]at e
  split at e
  ·rename_i a b ha hb
   simp only[oE]at e;subst e
   have g1:=Ze2 G F _ _ ha
   have g2:=Ze2 G F _ _ hb
   refine .fn f a b vf vc (by rw[g1.1];exact h1) (by rw[g2.1];exact h2) ?_ ?_
   ·intro i x v hx hv
    have hlt:i<first.length:=by rw[←g1.1];exact(gS.1 hx).1
    obtain⟨y,hy,hu⟩:=g1.2 i _ (gG hlt)
    rw[hx]at hy;obtain rfl:=oi hy
    exact ih1 i _ v (gG hlt) hv rfl hu
   ·intro i x v hx hv
    have hlt:i<cap.length:=by rw[←g2.1];exact(gS.1 hx).1
    obtain⟨y,hy,hu⟩:=g2.2 i _ (gG hlt)
    rw[hx]at hy;obtain rfl:=oi hy
    exact ih2 i _ v (gG hlt) hv rfl hu
  ·cases e
 |inil=>intro _ y e;simp only[AV.br,oE]at e;subst e;exact .inil
 |ifc t x v _ ih=>
  rintro rfl y e;simp only[AV.br,mS]at e;obtain⟨z,hz,rfl⟩:=e
  exact .ifc t z v (ih rfl hz)
 |agg cs vs h1 h2 _ ih=>
  rintro rfl y e;simp only[AV.br,mS]at e;obtain⟨z,hz,rfl⟩:=e
  have g:=Ze2 G F _ _ hz
  refine .agg z vs (by rw[g.1];exact h1) ?_ ?_
  ·intro x hx
   obtain⟨i,hi⟩:=List.mem_iff_getElem?.1 hx
   have hlt:i<cs.length:=by rw[←g.1];exact(gS.1 hi).1
   obtain⟨y,hy,hu⟩:=g.2 i _ (gG hlt)
   rw[hi]at hy;obtain rfl:=oi hy
   rw[ZlK hu]
   exact h2 _ (List.getElem_mem hlt)
  ·intro i x v hx hv
   have hlt:i<cs.length:=by rw[←g.1];exact(gS.1 hx).1
   obtain⟨y,hy,hu⟩:=g.2 i _ (gG hlt)
   rw[hx]at hy;obtain rfl:=oi hy
   exact ih i _ v (gG hlt) hv rfl hu
 |tup xs vs h1 _ ih=>
  rintro rfl y e;simp only[AV.br,mS]at e;obtain⟨z,hz,rfl⟩:=e
  have g:=Ze2 G F _ _ hz
  refine .tup z vs (by rw[g.1];exact h1) ?_
  intro i x v hx hv
  have hlt:i<xs.length:=by rw[←g.1];exact(gS.1 hx).1
  obtain⟨y,hy,hu⟩:=g.2 i _ (gG hlt)
  rw[hx]at hy;obtain rfl:=oi hy
  exact ih i _ v (gG hlt) hv rfl hu
 |dead v=>intro _ y e;simp[AV.br]at e
theorem HR.br (h:HR N0 W0 fm ts H w) (F:Nat→Nat→Option (List AV)) (hF:∀ l k ys c,F l k=some ys→tb ts l k=some (.box c)→∃ cells et,w.heap[c]?=some (.cells cells et (0,0))∧cells.size=ys.length∧
   ∀ (o:Nat) y v,ys[o]?=some y→cells[o]?=some v→y.flat=true∧VR (Zgq w) [] y v) {ts0:List Tie}{x:AV}{v:Value} (hv:VR fm ts0 x v):
  ts0=ts→∀ {y:AV},x.br H.get F=some y→VR (Zgq w) [] y v:=by
 intro e y hy
 exact h.brG (fun b o v hv=>h.fms b o v hv) (fun _ _ _ h=>h) (fun _ _ _ _ _ _ _ _ h=>h) F (fun l k ys c a b=>⟨fun _ _ h=>h,hF l k ys c a b⟩) hv e hy
theorem HR.brs (h:HR N0 W0 fm ts H w) (F:Nat→Nat→Option (List AV)) (hF:∀ l k ys c,F l k=some ys→tb ts l k=some (.box c)→∃ cells et,w.heap[c]?=some (.cells cells et (0,0))∧cells.size=ys.length∧
   ∀ (o:Nat) y v,ys[o]?=some y→cells[o]?=some v→y.flat=true∧VR (Zgq w) [] y v) {cs ys:List AV}{vs:List Value} (hv:VRs fm ts cs vs) (e:AV.brL H.get F cs=some ys):VRs (Zgq w) [] ys vs:=by
 have g:=Ze2 H.get F _ _ e
 refine⟨g.1.trans hv.1,?_⟩
 intro i x v hx hxv
 have hlt:i<cs.length:=by rw[←g.1];exact(gS.1 hx).1
 obtain⟨y,hy,hu⟩:=g.2 i _ (gG hlt)
 rw[hx]at hy;obtain rfl:=oi hy
 exact h.br F hF (hv.2 i _ v (gG hlt) hxv) rfl hu
theorem HR.boxF (h:HR N0 W0 fm ts H w):∀ (n l k:Nat) (ys:List AV) (c:Nat),boxF H.get n l k=some ys→tb ts l k=some (.box c)→∃ cells et,w.heap[c]?=some (.cells cells et (0,0))∧cells.size=ys.length∧
   ∀ (o:Nat) y v,ys[o]?=some y→cells[o]?=some v→y.flat=true∧VR (Zgq w) [] y v:=by
 intro n
 induction n with
 |zero=>intro l k ys c e;simp[Abs.boxF]at e
 |succ n ih=>
  intro l k ys c e ht
  simp only[Abs.boxF]at e
  split at e
  ·rename_i cs hg
   have hb:=h.blk l k _ hg
   rw[ht]at hb
   cases hb with
   |box _ _ hN hB=>
    obtain⟨cells,et,c1,c2,c3⟩:=hB
    have g:=Ze2 _ _ _ _ e
    have ZbW:cells.size=ys.length:=by rw[g.1,Zb2];exact c2
    refine⟨cells,et,c1,ZbW,?_⟩
    intro o y v hy hv
    have hlt:o<(AV.shL l cs).length:=by rw[←g.1];exact(gS.1 hy).1
    obtain⟨y',hy',hu⟩:=g.2 o _ (gG hlt)
    rw[hy]at hy';obtain rfl:=oi hy'
    have hx:(AV.shL l cs)[o]?=some (AV.shL l cs)[o]:=gG hlt
    rw[Zdu,mS]at hx
    obtain⟨x0,hx0,hx1⟩:=hx
    have h3:=c3 o x0 v hx0 hv
    refine⟨by rw[ZlK hu,←hx1,ZjU];exact h3.1,?_⟩
    rw[←hx1]at hu
    exact h.br _ ih (h3.2.sh l rfl) rfl hu
  ·cases e
def only (G:Get) (rs:List (Nat×Nat)):Get:=fun l k=>if rs.contains (l,k) then G l k else none
theorem HR.boxG (h:HR N0 W0 fm ts H w) {fm':FM}{G:Get} (hle:Zdw fm fm') (hG:∀ l k b,G l k=some b→H.get l k=some b) (hcell:∀ l k b c,G l k=some b→tbc (tb ts l k)=some c→∀ o u,w.cell? ⟨c,o,none⟩=some u→fm' c o=some u):
  ∀ (n l k:Nat) (ys:List AV) (c:Nat),Abs.boxF G n l k=some ys→tb ts l k=some (.box c)→(∀ o u,w.cell? ⟨c,o,none⟩=some u→fm' c o=some u)∧∃ cells et,w.heap[c]?=some (.cells cells et (0,0))∧cells.size=ys.length∧
   ∀ (o:Nat) y v,ys[o]?=some y→cells[o]?=some v→y.flat=true∧VR fm' [] y v:=by
 intro n
 induction n with
 |zero=>intro l k ys c e;simp[Abs.boxF]at e
 |succ n ih=>
  intro l k ys c e ht
  simp only[Abs.boxF]at e
  split at e
  ·rename_i cs hg
   have hb:=h.blk l k _ (hG _ _ _ hg)
   refine⟨hcell l k _ c hg (by rw[ht];rfl),?_⟩
   rw[ht]at hb
   cases hb with
   |box _ _ hN hB=>
    obtain⟨cells,et,c1,c2,c3⟩:=hB
    have g:=Ze2 _ _ _ _ e
    have ZbW:cells.size=ys.length:=by rw[g.1,Zb2];exact c2
    refine⟨cells,et,c1,ZbW,?_⟩
    intro o y v hy hv
    have hlt:o<(AV.shL l cs).length:=by rw[←g.1];exact(gS.1 hy).1
    obtain⟨y',hy',hu⟩:=g.2 o _ (gG hlt)
    rw[hy]at hy';obtain rfl:=oi hy'
    have hx:(AV.shL l cs)[o]?=some (AV.shL l cs)[o]:=gG hlt
    rw[Zdu,mS]at hx
    obtain⟨x0,hx0,hx1⟩:=hx
    have h3:=c3 o x0 v hx0 hv
    refine⟨by rw[ZlK hu,←hx1,ZjU];exact h3.1,?_⟩
    rw[←hx1]at hu
    exact h.brG hle hG hcell _ ih (h3.2.sh l rfl) rfl hu
  ·cases e
open Classical in
noncomputable def ZnQ (fm:FM) (w:World) (ts:List Tie) (H:Zar) (rs:List (Nat×Nat)):FM:=fun b o=>if (∃ l k x,(l,k)∈rs∧H.get l k=some x∧tbc (tb ts l k)=some b) then w.cell? ⟨b,o,none⟩ else fm b o
theorem HR.takeRs (h:HR N0 W0 fm ts H w) (rs:List (Nat×Nat)):HR N0 W0 (ZnQ fm w ts H rs) ts (H.puts (Zet rs)) w∧FmUp N0 fm (ZnQ fm w ts H rs):=by
 have hle:Zdw fm (ZnQ fm w ts H rs):=by
  intro b o v hv
  unfold ZnQ
  split
  ·exact h.fms b o v hv
  ·exact hv
 have src:∀ l k b,Zar.get (H.puts (Zet rs)) l k=some b→(l,k)∉rs∧H.get l k=some b:=by
  intro l k b hg
  rw[Zes]at hg
  split at hg
  ·cases hg
  ·rename_i hn;exact⟨hn,hg⟩
 refine⟨⟨by simpa using h.len,?_,?_,?_,?_,h.bel,h.size,h.oth⟩,hle,?_⟩
 ·intro l k b hg
  exact(h.blk l k b (src l k b hg).2).mono hle (ZaS.refl _) (fun _ _=>rfl)
 ·intro l k l' k' b b' c hg hg'
  exact h.inj l k l' k' b b' c (src l k b hg).2 (src l' k' b' hg').2
 ·intro b o v hv
  unfold ZnQ at hv
  split at hv
  ·exact hv
  ·exact h.fms b o v hv
 ·intro l k b c o hg ht
  obtain⟨hn,hg0⟩:=src l k b hg
  unfold ZnQ
  rw[if_neg]
  ·exact h.fmd l k b c o hg0 ht
  ·rintro⟨l',k',x,hm,hg',ht'⟩
   obtain⟨rfl,rfl⟩:=h.inj l k l' k' b x c hg0 hg' ht ht'
   exact hn hm
 ·intro b o hb
  unfold ZnQ
  rw[if_neg]
  rintro⟨l',k',x,hm,hg',ht'⟩
  have:=((h.blk l' k' x hg').lt ht').2
  omega
theorem Za6.take {P:Program}{f:FuncId}{args fargs:List AV}{R:AV→Prop} (m:Nat) (rs:List (Nat×Nat)) (hp:Za6 P f fargs R) (hz:AV.brL (only (Zar.get ([]::H)) rs) (Abs.boxF (only (Zar.get ([]::H)) rs) m) args=some fargs) (hr:(rs.all fun p=>0<p.1)=true):
  ZfU P f args H (fun y fr H'=>R y∧fr=[]∧([]:Fra)::H'=Zar.puts ([]::H) (Zet rs)):=by
 refine⟨hp.1,fun N0 W0 fm ts w vs hH hv=>?_⟩
 have hP:=hH.push
 obtain⟨hT,hU⟩:=hP.takeRs rs
 have hG:∀ l k b,only (Zar.get ([]::H)) rs l k=some b→Zar.get ([]::H) l k=some b:=by
  intro l k b e;unfold only at e;split at e
  ·exact e
  ·cases e
 have hcell:∀ l k b c,only (Zar.get ([]::H)) rs l k=some b→tbc (tb (Zci::ts) l k)=some c→∀ o u,w.cell? ⟨c,o,none⟩=some u→ZnQ fm w (Zci::ts) ([]::H) rs c o=some u:=by
  intro l k b c e hc o u hu
  unfold only at e
  split at e
  ·rename_i hm
   unfold ZnQ
   rw[if_pos ⟨l,k,b,by simpa using hm,e,hc⟩]
   exact hu
  ·cases e
 have h1:VRs (ZnQ fm w (Zci::ts) ([]::H) rs) [] fargs vs:=by
  have g:=Ze2 _ _ _ _ hz
  refine⟨g.1.trans hv.1,?_⟩
  intro i x v hx hxv
  have hlt:i<args.length:=by rw[←g.1];exact(gS.1 hx).1
  obtain⟨y,hy,hu⟩:=g.2 i _ (gG hlt)
  rw[hx]at hy;obtain rfl:=oi hy
  exact hP.brG hU.le hG hcell _ (hP.boxG hU.le hG hcell m) (hv.2 i _ v (gG hlt) hxv) rfl hu
 refine Calls.mono (hp.2 _ w vs hT.fms h1) ?_
 rintro e w' ⟨v,y,fm',rfl,hR,hin,hvr,hup,hb⟩
 obtain⟨f',H',hpu⟩:∃ f' H',Zar.puts ([]::H) (Zet rs)=f'::H':=by
  have:=Zar.length_puts (Zet rs) ([]::H)
  cases hc:Zar.puts ([]::H) (Zet rs) with
  |nil=>rw[hc]at this;simp at this
  |cons f' H'=>exact⟨f',H',rfl⟩
 have hf:f'=[]:=by
  have:∀ (rs:List (Nat×Nat)) (f:Fra) (H:Zar),(rs.all fun p=>0<p.1)=true→∃ H',Zar.puts (f::H) (Zet rs)=f::H':=by
   intro rs
   induction rs with
   |nil=>intro f H _;exact⟨H,rfl⟩
   |cons p rs ih=>
    intro f H hr
    obtain⟨l,k⟩:=p
    simp only[List.all_cons,Bool.and_eq_true,decide_eq_true_eq]at hr
    cases l with
    |zero=>omega
    |succ l=>exact ih f _ hr.2
  obtain⟨H2,e2⟩:=this rs [] H hr
  rw[hpu]at e2
  exact(List.cons.inj e2).1
 subst hf
 rw[hpu]at hT
 refine⟨v,y,[],H',fm',Zci,ts,rfl,⟨hR,rfl,hpu.symm⟩,?_,?_,hvr.mono (Zdw.refl _) (ZaS.nil _),?_,ZaS.refl _,fun _ _ h=>h,fun _ _=>rfl⟩
 ·have:=congrArg List.length hpu;simpa using this.symm
 ·exact hT.pop.up hb hup hin |>.push
 ·exact hU.trans (hup.low hP.size)
end
theorem Zie {G G':Get}{F F':Nat→Nat→Option (List AV)} (hG:∀ l k b,G l k=some b→G' l k=some b) (hF:∀ l k b,F l k=some b→F' l k=some b) (hz:∀ l k e i n g y,(AV.loc l k e i n g).frz G=some y→(AV.loc l k e i n g).frz G'=some y):
  (∀ x y:AV,x.br G F=some y→x.br G' F'=some y)∧(∀ l ys:List AV,AV.brL G F l=some ys→AV.brL G' F' l=some ys):=by
 have key:∀ (n:Nat),(∀ x y:AV,SizeOf.sizeOf x<n→x.br G F=some y→x.br G' F'=some y)∧(∀ l ys:List AV,SizeOf.sizeOf l<n→AV.brL G F l=some ys→AV.brL G' F' l=some ys):=by
  intro n
  induction n with
  |zero=>exact⟨fun x y h=>absurd h (by omega),fun x y h=>absurd h (by omega)⟩
  |succ n ih=>
   refine⟨?_,?_⟩
   ·intro x y hn h
    cases x with
    |loc l k e i g j=>simp only[AV.br]at h ⊢;exact hz _ _ _ _ _ _ _ h
    |ptr l k o=>
     simp only[AV.br]at h ⊢
     split at h
     ·rename_i ys hys;rw[hF _ _ _ hys];exact h
     ·cases h
    |inn l k e o n=>
     simp only[AV.br]at h ⊢
     split at h
     ·rename_i ys hys;rw[hF _ _ _ hys];exact h
     ·cases h
    |fn f a b=>
     simp only[AV.br]at h ⊢
     split at h
     ·rename_i x z hx hz'
      rw[ih.2 a x (by simp at hn;omega) hx,ih.2 b z (by simp at hn;omega) hz']
      exact h
     ·cases h
    |ifc t v=>
     simp only[AV.br,mS]at h ⊢
     obtain⟨a,h1,h2⟩:=h
     exact⟨a,ih.1 v a (by simp at hn;omega) h1,h2⟩
    |agg cs=>
     simp only[AV.br,mS]at h ⊢
     obtain⟨a,h1,h2⟩:=h
     exact⟨a,ih.2 cs a (by simp at hn;omega) h1,h2⟩
    |tup cs=>
     simp only[AV.br,mS]at h ⊢
     obtain⟨a,h1,h2⟩:=h
     exact⟨a,ih.2 cs a (by simp at hn;omega) h1,h2⟩
    |_=>first|(simpa [AV.br] using h)|(simp[AV.br]at h)
   ·intro l ys hn h
    cases l with
    |nil=>simpa [AV.brL] using h
    |cons x l=>
     simp only[AV.brL]at h ⊢
     split at h
     ·rename_i a b ha hb
      rw[ih.1 x a (by simp at hn;omega) ha,ih.2 l b (by simp at hn;omega) hb]
      exact h
     ·cases h
 exact⟨fun x y h=>(key (SizeOf.sizeOf x+1)).1 x y (by omega) h,fun l ys h=>(key (SizeOf.sizeOf l+1)).2 l ys (by omega) h⟩
theorem ZgV {G G':Get} (hG:∀ l k b,G l k=some b→G' l k=some b) (hz:∀ l k e i n g y,(AV.loc l k e i n g).frz G=some y→(AV.loc l k e i n g).frz G'=some y):∀ n l k ys,boxF G n l k=some ys→boxF G' n l k=some ys:=by
 intro n
 induction n with
 |zero=>intro l k ys h;simp[boxF]at h
 |succ n ih=>
  intro l k ys h
  simp only[boxF]at h ⊢
  split at h
  ·rename_i cs hg
   rw[hG l k _ hg]
   exact(Zie hG ih hz).2 _ _ h
  ·cases h
theorem Zir:∀ (rs:List Nat) (f:Fra) (H:Zar),Zar.puts ([]::f::H) (Zet (rs.map fun k=>(1,k)))=[]::ZeW f rs::H
 |[],f,H=>rfl
 |k::rs,f,H=>Zir rs (del f k) H
section
variable {P:Program}{T:Tys}{N0:Nat}{W0:World}{n:Nat}{fm:FM}{ts:List Tie}{H:Zar}{w:World}{Φ:Exit→St→Prop}
def Zc3 (P:Program) (f:FuncId) (args:List AV) (fr0:Fra) (R:AV→Fra→Prop):Prop:=
 ZmF P f∧∀ H N0 W0 fm t ts w vs,HR N0 W0 fm (t::ts) (fr0::H) w→(∀ k,16≤k→t k=none)→VRs fm (t::ts) args vs→
  Calls P f vs.toArray w fun e w'=>∃ v y fr' fm' t' ts',e=.returned v∧R y fr'∧HR N0 W0 fm' (t'::ts') (fr'::H) w'∧VR fm' (t'::ts') y v∧FmUp N0 fm fm'∧ZaS ts ts'∧
   (∀ l k,tb ts l k=none→tb ts' l k=none)∧∀ k,16≤k→t' k=none
def ZrM (T:Tys) (rs:List ResultVar) (H:Zar) (R:AV→Fra→Prop) (e:Exit) (st:St):Prop:=
 ZuW T rs (fun y fr H'=>H'=H∧R y fr) e st
theorem Zc3.of_body (hT : ZaW P T) {f : FuncId} {fn : Func} {c : Code} {sc : SC} {args : List AV} {fr0 : Fra} {R : AV → Fra → Prop} (hf : P.funcs[f]? = some fn) (hb : fn.body = some c) (hnm : (fn.name == "runtime.NumGoroutine") = false)
  (he:sc.bare=Zbh fn.ntmps c) (hfit:(Zbh fn.ntmps c).fits fn.ntmps=true) (hargs:args.length≤fn.ntmps)
  (h:∀ H,AK P fn.ntmps (ZrM T fn.results.toList H R) [.sc sc] ⟨Zkz 0 args,fr0,H,16,fn.ntmps⟩):Zc3 P f args fr0 R:=by
 refine⟨⟨fn,hf,hnm,by simp[hb]⟩,?_⟩
 intro H N0 W0 fm t ts w vs hH ht hv
 refine calls_of_wp hf hb ((Zd3 []).1 ?_)
 have hl:=hv.1
 have hS:SR N0 W0 fn.ntmps ⟨Zkz 0 args,fr0,H,16,fn.ntmps⟩ { tmps:=vs.toArray++Array.replicate (fn.ntmps - vs.toArray.size) undef,defers:=[] } w fm (t::ts):=by
  refine⟨hH,?_,fun k hk=>ht k hk,by simp;omega,rfl⟩
  intro i x hx
  obtain⟨_,hx⟩:=Zhm args 0 i x hx
  simp only[Nat.sub_zero]at hx
  have hlt:i<vs.length:=by rw[←hl];exact(gS.1 hx).1
  refine⟨vs[i],?_,hv.2 i x _ hx (gG hlt)⟩
  rw[Array.getElem?_append_left (by simpa using hlt)]
  simp[hlt]
 have:=h H N0 W0 fm (t::ts) _ w [.code c] (bodyPost P fn fun e w'=>∃ v y fr' fm' t' ts',e=.returned v∧R y fr'∧HR N0 W0 fm' (t'::ts') (fr'::H) w'∧VR fm' (t'::ts') y v∧FmUp N0 fm fm'∧ZaS ts ts'∧
   (∀ l k,tb ts l k=none→tb ts' l k=none)∧∀ k,16≤k→t' k=none) hS (.sc he hfit .nil) ?_
 ·exact this
 ·intro e st' a' w' fm' ts' hE hS' hL
  have fin:(∃ xs,Zcw T st' fn.results.toList=some xs∧Gives (fun y fr H'=>H'=H∧R y fr) (Zb6 xs) st')→a'.defers=[]∧∃ v,(results fn a'.tmps).run P w'=.ok v w'∧∃ v_1 y fr' fm' t' ts',Ending.returned v=.returned v_1∧R y fr'∧HR N0 W0 fm' (t'::ts') (fr'::H) w'∧VR fm' (t'::ts') y v_1∧FmUp N0 fm fm'∧ZaS ts ts'∧
    (∀ l k,tb ts l k=none→tb ts' l k=none)∧∀ k,16≤k→t' k=none:=by
   rintro⟨xs,hxs,hg⟩
   obtain⟨v,h1,h2⟩:=ZcB (P:=P) hT hS' hxs
   refine⟨hS'.dfr,v,h1,?_⟩
   cases ts' with
   |nil=>have:=hS'.hr.len;simp at this
   |cons t rest=>
    have hts:ZaS ts rest:=by simpa using hL.tle
    have hno:∀ l k,tb ts l k=none→tb rest l k=none:=by simpa using hL.no
    cases hg with
    |own ks y fr hn hk hy hfr hR=>
     obtain⟨hlow,hR⟩:=hR
     have hr:=hS'.hr.ren hfr hn
     rw[hlow]at hr
     exact⟨v,y,fr,fm',Zhq ks t,rest,rfl,hR,hr,h2.ren rfl hy,hL.fle,hts,hno,fun k hk'=>by simp only[Zhq];rw[List.getElem?_eq_none (by omega)];rfl⟩
    |frz y hy hr hR=>
     obtain⟨hlow,hR⟩:=hR
     have h3:=hS'.hr.frz (Zb6 xs).refs h2 hy (fun _ h=>h)
     have h4:=hS'.hr.letGo (Zb6 xs).refs
     obtain⟨f',hf'⟩:=Zlj hr st'.fr st'.low
     rw[hf']at h4
     have hpt:∀ l k,tb (ZeO (t::rest) (Zb6 xs).refs) (l+1) k=tb rest l k:=by
      intro l k
      rw[Zcn,if_neg]
      ·simp[tb]
      ·rintro⟨hm,_⟩
       have:=List.all_eq_true.1 hr _ hm
       simp at this
     have ZbW:=Zfh (Zb6 xs).refs (t::rest)
     cases hg:ZeO (t::rest) (Zb6 xs).refs with
     |nil=>rw[hg]at ZbW;simp at ZbW
     |cons t2 rest2=>
      rw[hg]at h4 hpt
      have e2:∀ l k,tb rest2 l k=tb rest l k:=fun l k=>by simpa [tb] using hpt l k
      have hup:=hS'.hr.fmUp (Zb6 xs).refs
      have h5:=h4.pop.push
      rw[hlow]at h5 hup h3
      exact⟨v,y,[],_,Zci,rest2,rfl,hR,h5,h3.mono (Zdw.refl _) (ZaS.nil _),hL.fle.trans hup,fun l k=>by rw[e2];exact hts l k,fun l k hh=>by rw[e2];exact hno l k hh,fun _ _=>rfl⟩
  cases e with
  |normal=>exact fin hE
  |ret=>exact fin hE
  |_=>exact hE.elim
def gv1 (gs:List Nat) (G:Get) (F:Nat→Nat→Option (List AV)):AV→Option AV
 |.loc 1 k e i n g=>match idx gs k with
  |some j=>some (.loc 0 j e i n g)
  |none=>(AV.loc 1 k e i n g).br G F
 |x=>x.br G F
def gvL (gs:List Nat) (G:Get) (F:Nat→Nat→Option (List AV)):List AV→Option (List AV)
 |[]=>some []
 |x::l=>match gv1 gs G F x,gvL gs G F l with
  |some x,some l=>some (x::l)
  |_,_=>none
def ZfY (f:Fra):Nat→List Nat→Option Fra
 |_,[]=>some []
 |i,k::r=>match look f k with
  |some (.arr et e es)=>(ZfY f (i+1) r).map fun l=>(i,.arr et e es)::l
  |_=>none
theorem Zij (f:Fra):∀ (r:List Nat) (i:Nat) (fr:Fra),ZfY f i r=some fr→∀ j b,look fr j=some b→i≤j∧∃ k et e es,r[j - i]?=some k∧look f k=some b∧b=.arr et e es
 |[],i,fr,h,j,b,hj=>by simp only[ZfY,oE]at h;subst h;simp[look]at hj
 |k::r,i,fr,h,j,b,hj=>by
  simp only[ZfY]at h
  split at h
  ·rename_i et e es hk
   simp only[mS]at h
   obtain⟨l,hl,rfl⟩:=h
   simp only[look]at hj
   split at hj
   ·rename_i he
    subst he
    obtain rfl:=oi hj
    exact⟨Nat.le_refl _,k,et,e,es,by simp,hk,rfl⟩
   ·obtain⟨h1,k',et',e',es',h2,h3,h4⟩:=Zij f r (i+1) l hl j b hj
    refine⟨by omega,k',et',e',es',?_,h3,h4⟩
    have:j - i=(j - (i+1))+1:=by omega
    rw[this,List.getElem?_cons_succ];exact h2
  ·cases h
theorem ZgN (ks:List Nat):∀ (f:Fra) (j:Nat),look (ZeW f ks) j=if j∈ks then none else look f j:=by
 induction ks with
 |nil=>intro f j;simp[ZeW]
 |cons k ks ih=>
  intro f j
  simp only[ZeW,ih,ZgX,List.mem_cons]
  by_cases h1:j∈ks
  ·simp[h1]
  ·by_cases h2:k=j
   ·simp[h2]
   ·simp[h1,h2,Ne.symm h2]
theorem HR.give {h:Tie}{rest:List Tie}{f:Fra} (hh:HR N0 W0 fm (Zci::h::rest) ([]::f::H) w) {gs:List Nat}{fr0:Fra} (hg:ZfY f 0 gs=some fr0) (hnd:gs.Nodup):
  HR N0 W0 fm (Zhq gs h::h::rest) (fr0::ZeW f gs::H) w:=by
 have src:∀ l k b,Zar.get (fr0::ZeW f gs::H) l k=some b→(l=0∧∃ k0 et e es,gs[k]?=some k0∧look f k0=some b∧b=.arr et e es∧tb (Zhq gs h::h::rest) 0 k=h k0)∨(l≠0∧Zar.get ([]::f::H) l k=some b∧tb (Zhq gs h::h::rest) l k=tb (Zci::h::rest) l k∧(l=1→k∉gs)):=by
  intro l k b hb
  cases l with
  |zero=>
   simp only[Zar.get]at hb
   obtain⟨_,k0,et,e,es,h1,h2,h3⟩:=Zij f gs 0 fr0 hg k b hb
   simp only[Nat.sub_zero]at h1
   exact .inl ⟨rfl,k0,et,e,es,h1,h2,h3,by simp[tb,Zhq,h1]⟩
  |succ l=>
   cases l with
   |zero=>
    simp only[Zar.get,ZgN]at hb
    split at hb
    ·cases hb
    ·rename_i hn
     exact .inr ⟨by omega,by simpa [Zar.get] using hb,by simp[tb],fun _=>hn⟩
   |succ l=>exact .inr ⟨by omega,by simpa [Zar.get] using hb,by simp[tb],fun e=>by omega⟩
 refine⟨by have:=hh.len;simpa using this,?_,?_,hh.fms,?_,hh.bel,hh.size,hh.oth⟩
 ·intro l k b hb
  rcases src l k b hb with ⟨rfl,k0,et,e,es,h1,h2,rfl,h4⟩|⟨hl,h2,h3,_⟩
  ·rw[h4]
   have:=hh.blk 1 k0 _ (by simpa [Zar.get] using h2)
   simp only[tb]at this
   generalize h k0=tt at this
   cases this with
   |nil=>exact .nil _ _
   |arr _ _ _ c cap hN hA=>exact .arr _ _ _ c cap hN hA
  ·rw[h3]
   have:=hh.blk l k b h2
   obtain⟨l,rfl⟩:∃ m,l=m+1:=⟨l - 1,by omega⟩
   simpa using this
 ·intro l1 k1 l2 k2 b1 b2 c g1 g2 t1 t2
  rcases src l1 k1 b1 g1 with ⟨rfl,q1,_,_,_,a1,a2,_,a4⟩|⟨hl1,a2,a3,a4⟩
  ·rw[a4]at t1
   rcases src l2 k2 b2 g2 with ⟨rfl,q2,_,_,_,c1,c2,_,c4⟩|⟨hl2,c2,c3,c4⟩
   ·rw[c4]at t2
    have:=(hh.inj 1 q1 1 q2 b1 b2 c (by simpa [Zar.get] using a2) (by simpa [Zar.get] using c2) (by simpa [tb] using t1) (by simpa [tb] using t2)).2
    subst this
    refine⟨rfl,?_⟩
    exact(List.getElem?_inj (gS.1 a1).1 hnd).1 (a1.trans c1.symm)
   ·rw[c3]at t2
    obtain⟨e1,e2⟩:=hh.inj 1 q1 l2 k2 b1 b2 c (by simpa [Zar.get] using a2) c2 (by simpa [tb] using t1) t2
    subst e1 e2
    exact absurd (List.mem_of_getElem? a1) (c4 rfl)
  ·rw[a3]at t1
   rcases src l2 k2 b2 g2 with ⟨rfl,q2,_,_,_,c1,c2,_,c4⟩|⟨hl2,c2,c3,c4⟩
   ·rw[c4]at t2
    obtain⟨e1,e2⟩:=hh.inj l1 k1 1 q2 b1 b2 c a2 (by simpa [Zar.get] using c2) t1 (by simpa [tb] using t2)
    subst e1 e2
    exact absurd (List.mem_of_getElem? c1) (a4 rfl)
   ·rw[c3]at t2
    exact hh.inj l1 k1 l2 k2 b1 b2 c a2 c2 t1 t2
 ·intro l k b c o hb hc
  rcases src l k b hb with ⟨rfl,k0,_,_,_,h1,h2,_,h4⟩|⟨hl,h2,h3,_⟩
  ·rw[h4]at hc
   exact hh.fmd 1 k0 b c o (by simpa [Zar.get] using h2) (by simpa [tb] using hc)
  ·rw[h3]at hc
   exact hh.fmd l k b c o h2 hc
theorem ZrG {h:Tie}{rest:List Tie}{f:Fra}{fm1:FM} (hh:HR N0 W0 fm (Zci::h::rest) ([]::f::H) w) (hle:Zdw fm fm1) {G:Get} (hG:∀ l k b,G l k=some b→Zar.get ([]::f::H) l k=some b)
  (hcell:∀ l k b c,G l k=some b→tbc (tb (Zci::h::rest) l k)=some c→∀ o u,w.cell? ⟨c,o,none⟩=some u→fm1 c o=some u) {gs:List Nat}{m:Nat}:
  ∀ (args ys:List AV) (vs:List Value),gvL gs G (boxF G m) args=some ys→VRs fm (Zci::h::rest) args vs→VRs fm1 (Zhq gs h::h::rest) ys vs
 |[],ys,vs,e,hv=>by
  simp only[gvL,oE]at e;subst e
  exact⟨hv.1,fun i x v hx=>by simp at hx⟩
 |x::l,ys,vs,e,hv=>by
  simp only[gvL]at e
  split at e
  ·rename_i y ys' hy hys
   obtain rfl:=oi e
   cases vs with
   |nil=>have:=hv.1;simp at this
   |cons v vs=>
    have hx:VR fm (Zci::h::rest) x v:=hv.2 0 x v rfl rfl
    have ih:=ZrG hh hle hG hcell l ys' vs hys ⟨by simpa using hv.1,fun i a b p q=>hv.2 (i+1) a b (by simpa using p) (by simpa using q)⟩
    refine⟨by simp[ih.1],?_⟩
    intro i a b ha hb
    cases i with
    |succ i=>simp at ha hb;exact ih.2 i a b ha hb
    |zero=>
     simp at ha hb;subst ha hb
     have br:x.br G (boxF G m)=some y→VR fm1 (Zhq gs h::h::rest) y v:=fun hbr=>
      (hh.brG hle hG hcell _ (hh.boxG hle hG hcell m) hx rfl hbr).mono (Zdw.refl _) (ZaS.nil _)
     unfold gv1 at hy
     split at hy
     ·rename_i k e i n g
      split at hy
      ·rename_i j hj
       obtain rfl:=oi hy
       have hj':=ZlV gs k j hj
       have htb:tb (Zhq gs h::h::rest) 0 j=tb (Zci::h::rest) 1 k:=by simp[tb,Zhq,hj']
       have hx':=hx.mono hle (ZaS.refl _)
       cases hx' with
       |locGone _ _ _ _ _ _ a cp ht hn ha=>exact .locGone _ _ _ _ _ _ a cp (htb.trans ht) hn ha
       |locOld _ _ _ _ _ _ a cp m' c ht hlt hn ha=>exact .locOld _ _ _ _ _ _ a cp m' c (htb.trans ht) hlt hn ha
       |locNil _ _ _ a ht=>exact .locNil _ _ _ a (htb.trans ht)
       |loc _ _ _ _ _ _ c cap cp a ht hn hnc hc ha=>exact .loc _ _ _ _ _ _ c cap cp a (htb.trans ht) hn hnc hc ha
      ·exact br hy
     ·exact br hy
  ·cases e
theorem Zc3.used {f:FuncId}{args args0:List AV}{fr0 f0:Fra}{R:AV→Fra→Prop} (m:Nat) (rs gs:List Nat) (hp:Zc3 P f args0 fr0 R) (hz:gvL gs (only (Zar.get ([]::f0::H)) (rs.map fun k=>(1,k))) (boxF (only (Zar.get ([]::f0::H)) (rs.map fun k=>(1,k))) m) args=some args0)
  (hg:ZfY (ZeW f0 rs) 0 gs=some fr0) (hnd:(decide gs.Nodup&&decide (gs.length≤16))=true):ZfU P f args (f0::H) (fun y fr H'=>R y fr∧H'=ZeW (ZeW f0 rs) gs::H):=by
 simp only[Bool.and_eq_true,decide_eq_true_eq]at hnd
 refine⟨hp.1,fun N0 W0 fm ts w vs hH hv=>?_⟩
 have hP:=hH.push
 cases ts with
 |nil=>have:=hH.len;simp at this
 |cons h rest=>
  obtain⟨hT,hU⟩:=hP.takeRs (rs.map fun k=>(1,k))
  rw[Zir]at hT
  have hG:∀ l k b,only (Zar.get ([]::f0::H)) (rs.map fun k=>(1,k)) l k=some b→Zar.get ([]::f0::H) l k=some b:=by
   intro l k b e;unfold only at e;split at e
   ·exact e
   ·cases e
  have hcell:∀ l k b c,only (Zar.get ([]::f0::H)) (rs.map fun k=>(1,k)) l k=some b→tbc (tb (Zci::h::rest) l k)=some c→∀ o u,w.cell? ⟨c,o,none⟩=some u→ZnQ fm w (Zci::h::rest) ([]::f0::H) (rs.map fun k=>(1,k)) c o=some u:=by
   intro l k b c e hc o u hu
   unfold only at e
   split at e
   ·rename_i hm
    unfold ZnQ
    rw[if_pos ⟨l,k,b,by simpa using hm,e,hc⟩]
    exact hu
   ·cases e
  have h1:=ZrG hP hU.le hG hcell args args0 vs hz hv
  have h2:=hT.give hg hnd.1
  refine Calls.mono (hp.2 (ZeW (ZeW f0 rs) gs::H) N0 W0 _ (Zhq gs h) (h::rest) w vs h2 (fun k hk=>by simp only[Zhq];rw[List.getElem?_eq_none (by omega)];rfl) h1) ?_
  rintro e w' ⟨v,y,fr',fm',t',ts',rfl,hR,hhr,hvr,hup,hts,hno,ht⟩
  exact⟨v,y,fr',ZeW (ZeW f0 rs) gs::H,fm',t',ts',rfl,⟨hR,rfl⟩,by simp,hhr,hvr,hU.trans hup,hts,hno,ht⟩
end
def ZfT (G:Get):Get:=fun l k=>match l with
 |0=>none
 |l+1=>G l k
def Zjb (G:Get):Nat→List Nat→Option Fra
 |_,[]=>some []
 |i,k::r=>match G 0 k with
  |some (.arr et e es)=>(Zjb G (i+1) r).map fun l=>(i,.arr et e es)::l
  |_=>none
theorem Zhh {G G':Get} (h:∀ l k b,G l k=some b→G' l k=some b):∀ (r:List Nat) (i:Nat) (fr:Fra),Zjb G i r=some fr→Zjb G' i r=some fr
 |[],i,fr,e=>e
 |k::r,i,fr,e=>by
  simp only[Zjb]at e ⊢
  split at e
  ·rename_i et z es hk
   simp only[mS]at e
   obtain⟨l,hl,rfl⟩:=e
   rw[h 0 k _ hk]
   simp only[Zhh h r (i+1) l hl,Option.map_some]
  ·cases e
theorem ZmH (f:Fra) (H:Zar) (rs:List Nat):∀ (r:List Nat) (i:Nat) (fr:Fra),Zjb (Zar.get (f::H)) i r=some fr→(∀ k∈r,k∉rs)→ZfY (ZeW f rs) i r=some fr
 |[],i,fr,e,_=>e
 |k::r,i,fr,e,hk=>by
  simp only[Zjb,Zar.get]at e
  simp only[ZfY,ZgN,if_neg (hk k List.mem_cons_self)]
  split at e
  ·rename_i et z es hk'
   simp only[mS]at e
   obtain⟨l,hl,rfl⟩:=e
   simp only[hk',ZmH f H rs r (i+1) l hl (fun k h=>hk k (List.mem_cons_of_mem _ h)),Option.map_some]
  ·cases e
def Zhb (ks:List Nat):List (Nat×Nat×Option Blk):=ks.map fun k=>(0,k,none)
def ZpG (kb:Nat):Fra→List (Nat×Nat×Option Blk)
 |[]=>[]
 |(c,b)::R=>ZpG kb R++[(0,kb+c,some (b.imp kb))]
theorem Zjo:∀ (ks:List Nat) (f:Fra) (H:Zar),Zar.puts (f::H) (Zhb ks)=ZeW f ks::H
 |[],_,_=>rfl
 |k::ks,f,H=>Zjo ks (del f k) H
theorem Zlh (kb:Nat):∀ (R:Fra) (f:Fra) (H:Zar),Zar.puts (f::H) (ZpG kb R)=ZhS kb R f::H
 |[],_,_=>rfl
 |(c,b)::R,f,H=>by
  simp only[ZpG,Zar.puts_append,Zlh kb R f H,ZhS]
  rfl
theorem ZjH {gs:List Nat}{G G':Get}{F F':Nat→Nat→Option (List AV)} (h:∀ x y:AV,x.br G F=some y→x.br G' F'=some y):∀ (l ys:List AV),gvL gs G F l=some ys→gvL gs G' F' l=some ys
 |[],ys,e=>e
 |x::l,ys,e=>by
  simp only[gvL]at e ⊢
  split at e
  ·rename_i a b ha hb
   have ha':gv1 gs G' F' x=some a:=by
    cases x with
    |loc lv k e i n g=>
     match lv,ha with
     |0,ha=>exact h _ _ ha
     |1,ha=>
      simp only[gv1]at ha ⊢
      cases hj:idx gs k with
      |some j=>rw[hj]at ha;exact ha
      |none=>rw[hj]at ha;exact h _ _ ha
     |_+2,ha=>exact h _ _ ha
    |_=>exact h _ _ ha
   rw[ha',ZjH h l b hb]
   exact e
  ·cases e
def Zh6 (kb:Nat) (t' h:Tie):Tie:=fun k=>if kb≤k∧k<kb+16 then t' (k - kb) else h k
end Go.Abs
namespace Go.Abs
open Go Go.RowKit
set_option linter.unusedSectionVars false
section
variable [Md] {P:Program}{T:Tys}{n:Nat}{Φ:Exit→St→Prop}
theorem Zql {f:List It→St→Ev}{b:Bool}{t t':List It}{s s':St} (h1:b=true→Zcy P n Φ (f t s)) (h2:b=false→Zcy P n Φ (f t' s')):Zcy P n Φ (two f b t s t' s'):=by
 cases b with
 |true=>exact h1 rfl
 |false=>exact h2 rfl
theorem Zme {f:FuncId}{args fargs:List AV}{dst:Option Tmp}{drop:List Nat}{todo:List It}{st:St}{R:AV→Prop} (hp:Za6 P f fargs R) (hz:AV.frzL (Zar.get ([]::st.fr::st.low)) args=some fargs) (hr:AV.refsL args=[])
  (h:∀ y,R y→AK P n Φ todo (st.took dst drop y [] (st.fr::st.low))):Zcy P n Φ (.call f args dst drop todo st):=
 ⟨_,_,_,_,Zgt.refl _ _ _,(hp.frozen hz hr).toP,by rintro v fr H ⟨h1,rfl,rfl⟩;exact h v h1,fun _ _ h=>h.elim⟩
theorem Zmj {f:FuncId}{args fargs:List AV}{dst:Option Tmp}{drop:List Nat}{todo:List It}{st:St}{R:AV→Prop} (hp:Za6 P f fargs R) (hz:AV.frzL (Zar.get ([]::st.fr::st.low)) args=some fargs) (hs:∀ y,R y→y.scal=true)
  (h:∀ y,R y→AK P n Φ todo (st.took dst drop y [] (st.fr::st.low))):Zcy P n Φ (.call f args dst drop todo st):=
 ⟨_,_,_,_,Zgt.refl _ _ _,(hp.borrow hz hs).toP,by rintro v fr H ⟨h1,rfl,rfl⟩;exact h v h1,fun _ _ h=>h.elim⟩
theorem ZgQ {f:FuncId}{args:List AV}{dst:Option Tmp}{drop:List Nat}{todo:List It}{st:St}{R:AV→Fra→Zar→Prop} (hp:ZfU P f args (st.fr::st.low) R)
  (h:∀ y fr H,R y fr H→AK P n Φ todo (st.took dst drop y fr H)):Zcy P n Φ (.call f args dst drop todo st):=⟨_,_,R,_,Zgt.refl _ _ _,hp.toP,h,fun _ _ h=>h.elim⟩
end
attribute [go_sem] Zrt ZjT ZjY run ZdD ZuX ZoY ZjX callee ZjA Zi8 St.past Znf ZlW ZcW opv Zl6 look ZkK Zmy St.by ZhL ins ZeW del Zar.puts Zar.put St.withHeap Zbz constAV constAVs
 ZcP ZuV Zia St.get Zqh Zq6 ZfP Zgb cellsAt Zfq Zlt TI.isAgg AV.cells Zau ZfD Zar.get ZfJ AV.shL AV.sh aUn Zcg St.enter Zkz St.took AV.imp AV.impL ZhS Blk.imp Zcw ZmQ Zb6 AV.frz AV.frzL AV.refs AV.refsL
 ZmK ZmI ZfZ ZdC Zm2 ZcH Zel Zbg ZbG ZbM Ze4 ZbX ZbQ Zi1 Zgj ZdA Zha ZgB ZmM bytesOf ZcK Zay AV.unL AV.un ZlD Zet AV.flat AV.scal AV.leaf
 List.length_cons List.length_nil List.append_nil List.nil_append List.cons_append reduceIte Nat.reduceAdd Nat.reduceMul Nat.reduceLT Nat.reduceEqDiff Nat.reduceLeDiff Nat.reduceSub Option.map_some Option.map_none Option.bind_some Option.bind_none List.length_map reduceCtorEq
 List.take_succ_cons List.take_zero List.drop_succ_cons List.drop_zero List.getElem?_cons_zero List.getElem?_cons_succ List.getElem?_nil List.map_cons List.map_nil beq_self_eq_true Nat.le_refl and_self and_true true_and beq_true beq_false Bool.not_true Bool.not_false
end Go.Abs
namespace Go.Abs
open Go Go.RowKit
def Zuh (tm tm':Tm):Prop:=∀ t x,tm t=some x→tm' t=some x
def GLe (G G':Get):Prop:=∀ l k b,G l k=some b→G' l k=some b
section
variable {tm tm':Tm}{G G':Get} (htm:Zuh tm tm') (hG:GLe G G')
include htm in
theorem ZhU {x:Operand}{y:AV} (h:opv tm x=some y):opv tm' x=some y:=by
 cases x with
 |tmp t=>exact htm t y h
 |_=>exact h
include htm in
theorem Zfi:∀ (l:List Operand) (ys:List AV),Zl6 tm l=some ys→Zl6 tm' l=some ys
 |[],ys,h=>h
 |x::l,ys,h=>by
  simp only[Zl6]at h ⊢
  split at h
  ·rename_i a b ha hb
   rw[ZhU htm ha,Zfi l b hb];exact h
  ·cases h
include htm in
theorem Zfj:∀ (l:List (Nat×Operand)) (ys:List (Nat×AV)),ZcH tm l=some ys→ZcH tm' l=some ys
 |[],ys,h=>h
 |(i,x)::l,ys,h=>by
  simp only[ZcH]at h ⊢
  split at h
  ·rename_i a b ha hb
   rw[ZhU htm ha,Zfj l b hb];exact h
  ·cases h
mutual
theorem frz_mono (hG:GLe G G'):∀ (x y:AV),x.frz G=some y→x.frz G'=some y
 |.loc l k e i n g,y,h=>by
  simp only[AV.frz]at h ⊢
  split at h
  ·rename_i et esz es hg
   rw[hG l k _ hg];exact h
  ·cases h
 |.ifc t v,y,h=>by
  simp only[AV.frz,mS]at h ⊢
  obtain⟨a,h1,h2⟩:=h
  exact⟨a,frz_mono hG v a h1,h2⟩
 |.agg cs,y,h=>by
  simp only[AV.frz,mS]at h ⊢
  obtain⟨a,h1,h2⟩:=h
  exact⟨a,frzL_mono hG cs a h1,h2⟩
 |.tup vs,y,h=>by
  simp only[AV.frz,mS]at h ⊢
  obtain⟨a,h1,h2⟩:=h
  exact⟨a,frzL_mono hG vs a h1,h2⟩
 |.nil,y,h=>by simpa [AV.frz] using h
 |.bool b,y,h=>by simpa [AV.frz] using h
 |.int k n,y,h=>by simpa [AV.frz] using h
 |.str s,y,h=>by simpa [AV.frz] using h
 |.sl e es,y,h=>by simpa [AV.frz] using h
 |.pnil,y,h=>by simpa [AV.frz] using h
 |.fnil,y,h=>by simpa [AV.frz] using h
 |.inil,y,h=>by simpa [AV.frz] using h
 |.fn f a b,y,h=>by
  simp only[AV.frz]at h ⊢
  split at h
  ·rename_i x z hx hz
   obtain rfl:=oi h
   simp only[frzL_mono hG a x hx,frzL_mono hG b z hz]
  ·cases h
 |.inn ..,y,h=>by simp[AV.frz]at h
 |.ptr ..,y,h=>by simp[AV.frz]at h
 |.eptr ..,y,h=>by simp[AV.frz]at h
 |.rptr ..,y,h=>by simpa [AV.frz] using h
 |.dead,y,h=>by simp[AV.frz]at h
theorem frzL_mono (hG:GLe G G'):∀ (l ys:List AV),AV.frzL G l=some ys→AV.frzL G' l=some ys
 |[],ys,h=>h
 |x::l,ys,h=>by
  simp only[AV.frzL]at h ⊢
  split at h
  ·rename_i a b ha hb
   rw[frz_mono hG x a ha,frzL_mono hG l b hb];exact h
  ·cases h
end
include hG in
theorem Zkw {size:Nat}{x:AV}{cs:List AV} (h:cellsAt G size x=some cs):cellsAt G' size x=some cs:=by
 unfold cellsAt at h ⊢
 split at h
 ·split at h
  ·rename_i hg;rw[hG _ _ _ hg];exact h
  ·cases h
 ·split at h
  ·rename_i hg;rw[hG _ _ _ hg];exact h
  ·cases h
 ·exact h
 ·cases h
include hG in
theorem Zmp {ti:TI}{x y:AV} (h:Zgb G ti x=some y):Zgb G' ti x=some y:=by
 unfold Zgb at h ⊢
 rw[Option.bind_eq_some_iff]at h ⊢
 obtain⟨cs,h1,h2⟩:=h
 exact⟨cs,Zkw hG h1,h2⟩
include hG in
theorem Zfs {sz:Nat}{x:AV}{es:List (List AV)} (h:ZbX G sz x=some es):ZbX G' sz x=some es:=by
 unfold ZbX at h ⊢
 split at h
 ·exact h
 ·exact h
 ·split at h
  ·rename_i hg;rw[hG _ _ _ hg];exact h
  ·cases h
 ·split at h
  ·rename_i hg;rw[hG _ _ _ hg];exact h
  ·cases h
 ·cases h
theorem ZnP {T:Tys}{s d:TI}{x y:AV} (h:Zjl T s d x=some y):∃ e,d.d=.slice e:=by
 unfold Zjl at h
 split at h
 ·rename_i e he;exact⟨e,he⟩
 ·cases h
theorem ZlA {T:Tys}{G:Get}{s d:TI}{x:AV} (h:∃ e,d.d=.slice e):ZgB T G s d x=none:=by
 obtain⟨e,he⟩:=h
 unfold ZgB
 rw[he]
include hG in
theorem Znh {T:Tys}{s d:TI}{x y:AV} (h:ZgB T G s d x=some y):ZgB T G' s d x=some y:=by
 unfold ZgB at h ⊢
 split at h
 ·exact h
 ·split at h
  ·exact h
  ·split at h
   ·split at h
    ·split at h
     ·rename_i h1
      rw[if_pos h1]
      rw[Option.bind_eq_some_iff]at h ⊢
      obtain⟨es,h2,h3⟩:=h
      exact⟨es,Zfs hG h2,h3⟩
     ·cases h
    ·cases h
   ·cases h
  ·cases h
 ·cases h
include hG in
theorem ZeR:∀ (l:List (Nat×AV)) (cs:List (Nat×List AV)),Zbg G l=some cs→Zbg G' l=some cs
 |[],cs,h=>h
 |(i,v)::l,cs,h=>by
  simp only[Zbg]at h ⊢
  split at h
  ·split at h
   ·rename_i a b ha hb
    rw[frzL_mono hG _ _ ha,ZeR l b hb];exact h
   ·cases h
  ·cases h
include hG in
theorem Zhx {kb len:Nat}{ti:TI}{ps:List (Nat×AV)}{d:De} (h:ZbM G kb ti len ps=some d):ZbM G' kb ti len ps=some d:=by
 unfold ZbM at h ⊢
 split at h
 ·split at h
  ·rename_i hc
   rw[if_pos hc]
   split at h
   ·rename_i cs hcs
    rw[ZeR hG _ _ hcs];exact h
   ·cases h
  ·cases h
 ·cases h
include hG in
theorem ZeD {kb:Nat}{ti:TI}{s x:AV}{d:De} (h:ZbQ G kb ti s x=some d):ZbQ G' kb ti s x=some d:=by
 unfold ZbQ at h ⊢
 split at h
 ·split at h
  ·rename_i new hnew
   rw[Zfs hG hnew]
   split at h
   ·exact h
   ·split at h
    ·rename_i hg
     simp only[hG _ _ _ hg];exact h
    ·cases h
   ·cases h
  ·cases h
 ·cases h
include hG in
theorem Zmd {ti:TI}{s x:AV}{d:De} (h:Zi1 G ti s x=some d):Zi1 G' ti s x=some d:=by
 unfold Zi1 at h ⊢
 split at h
 ·split at h
  ·rename_i new hnew
   rw[Zfs hG hnew]
   split at h
   ·exact h
   ·split at h
    ·rename_i hg
     simp only[hG _ _ _ hg];exact h
    ·cases h
   ·split at h
    ·rename_i hg
     simp only[hG _ _ _ hg];exact h
    ·cases h
   ·cases h
  ·cases h
 ·cases h
include hG in
theorem Zk3 {ti:TI}{x:AV}{d:De} (h:Zgj G ti x=some d):Zgj G' ti x=some d:=by
 unfold Zgj at h ⊢
 split at h
 ·split at h
  ·exact h
  ·split at h
   ·rename_i hg
    simp only[hG _ _ _ hg];exact h
   ·cases h
  ·cases h
 ·cases h
include hG in
theorem ZkP {kb:Nat}{ti:TI}{a:AV}{vc:List AV}{d:De} (h:ZfD G kb ti a vc=some d):ZfD G' kb ti a vc=some d:=by
 unfold ZfD at h ⊢
 split at h
 ·rename_i hl
  rw[if_pos hl]
  split at h
  ·split at h
   ·rename_i hg
    simp only[hG _ _ _ hg]
    split at h
    ·rename_i hle
     rw[if_pos hle]
     split at h
     ·rename_i h0;rw[if_pos h0];exact h
     ·rename_i h0
      rw[if_neg h0]
      split at h
      ·exact h
      ·split at h
       ·rename_i new hz;rw[frzL_mono hG _ _ hz];exact h
       ·cases h
    ·cases h
   ·cases h
  ·split at h
   ·rename_i hg
    simp only[hG _ _ _ hg]
    split at h
    ·rename_i hc
     rw[if_pos hc]
     split at h
     ·rename_i c new hc1 hz
      rw[hc1,frzL_mono hG _ _ hz];exact h
     ·cases h
    ·cases h
   ·cases h
  ·cases h
 ·cases h
theorem ZcZ {a b:Option AV}{d:De} (hm:∀ x,a=some x→b=some x) (h:Zbz a=some d):Zbz b=some d:=by
 obtain⟨x,hx,rfl⟩:=Zlg h
 rw[hm x hx];rfl
include hG in
theorem Zkf {T:Tys}{kb:Nat}{b:Builtin}{ts:List TypeId}{xs:List AV}{d:De} (h:ZcP T G kb b ts xs=some d):ZcP T G' kb b ts xs=some d:=by
 unfold ZcP at h ⊢
 split at h
 ·cases h
 ·split at h
  ·cases h
  ·split at h
   ·exact h
   ·split at h
    ·split at h
     ·rename_i hl;rw[if_pos hl];exact ZeD hG h
     ·rename_i hl
      rw[if_neg hl]
      unfold Zf2 at h ⊢
      split at h
      ·split at h
       ·split at h
        ·split at h
         ·rename_i h1;rw[if_pos h1];exact ZeD hG h
         ·cases h
        ·cases h
       ·cases h
      ·split at h
       ·split at h
        ·unfold Zek at h ⊢
         split at h
         ·rename_i h1;rw[if_pos h1];exact ZeD hG h
         ·cases h
        ·cases h
       ·cases h
      ·cases h
    ·cases h
   ·split at h
    ·split at h
     ·rename_i hl;rw[if_pos hl];exact Zmd hG h
     ·cases h
    ·cases h
   ·split at h
    ·exact Zk3 hG h
    ·cases h
   ·exact h
   ·exact h
   ·cases h
theorem ZjG {G':Get}{ti:TI}{x lo hi z z':AV} (h:Zde G' ti x lo hi=some z') (k:ZfZ ti x (some lo) (some hi)=some z):z'=z:=by
 unfold Zde at h
 split at h
 ·rename_i lv kk esz i n g
  split at h
  ·rename_i el hd
   split at h
   ·rename_i kl l kh hi2
    split at h
    ·split at h
     ·obtain rfl:=oi h
      unfold ZfZ at k
      rw[hd]at k
      simp only at k
      split at k
      ·simp only[mS]at k
       obtain⟨⟨a,b⟩,hb,rfl⟩:=k
       unfold Zbr Zf9 at hb
       simp only at hb
       split at hb
       ·rename_i hh hhe
        split at hhe
        ·obtain rfl:=oi hhe
         unfold ZfE at hb
         simp only at hb
         split at hb
         ·rename_i ll hle
          split at hle
          ·obtain rfl:=oi hle
           simp only[oE,Prod.mk.injEq]at hb
           obtain⟨rfl,rfl⟩:=hb
           rfl
          ·cases hle
         ·cases hb
        ·cases hhe
       ·cases hb
      ·cases k
     ·cases h
    ·cases h
   ·cases h
  ·cases h
 ·cases h
include htm hG in
theorem ZkT {T:Tys}{kb:Nat}{o:Op}{ty:TypeId}{d:De} (h:ZcW T kb o ty tm G=some d):ZcW T kb o ty tm' G'=some d:=by
 have ev:∀ {x:Operand}{y:AV},opv tm x=some y→opv tm' x=some y:=fun hx=>ZhU htm hx
 unfold ZcW at h ⊢
 split at h
 ·exact ZcZ (fun _=>ev) h
 ·rename_i x
  cases hx:opv tm x with
  |none=>rw[hx]at h;cases h
  |some y=>
   rw[hx]at h
   rw[ev hx]
   exact h
 ·rename_i c x y
  split at h
  ·rename_i b hb
   simp only[ev hb]
   cases b with
   |true=>exact ZcZ (fun _=>ev) h
   |false=>exact ZcZ (fun _=>ev) h
  ·cases h
 ·exact h
 ·split at h
  ·rename_i ti x' ht hx
   simp only[ht,ev hx];exact h
  ·cases h
 ·split at h
  ·rename_i ti ps ht hp
   simp only[ht,Zfj htm _ _ hp];exact h
  ·cases h
 ·split at h
  ·rename_i ti ps ht hp
   simp only[ht,Zfj htm _ _ hp];exact Zhx hG h
  ·cases h
 ·split at h
  ·rename_i ti x' ht hx
   simp only[ht,ev hx];exact ZcZ (fun _=>Zmp hG) h
  ·cases h
 ·split at h
  ·rename_i ti x' y' ht hx hy
   simp only[ht,ev hx,ev hy]
   split at h
   ·exact ZkP hG h
   ·cases h
  ·cases h
 ·split at h
  ·rename_i x' hx
   simp only[ev hx];exact h
  ·cases h
 ·split at h
  ·rename_i ti x' y' ht hx hy
   simp only[ht,ev hx,ev hy];exact h
  ·cases h
 ·split at h
  ·rename_i x' hx
   simp only[ev hx];exact h
  ·cases h
 ·split at h
  ·rename_i s d' x' hs hd hx
   simp only[hs,hd,ev hx]
   refine ZcZ (fun z hz=>?_) h
   cases hc:ZgB T G s d' x' with
   |some y=>rw[hc]at hz;rw[Znh hG hc];exact hz
   |none=>
    rw[hc,Ze5]at hz
    rw[ZlA (ZnP hz),Ze5];exact hz
  ·cases h
 ·split at h
  ·rename_i x' y' hx hy
   simp only[Zfi htm _ _ hx,Zfi htm _ _ hy];exact h
  ·cases h
 ·split at h
  ·rename_i ti l' c' ht hl hc
   simp only[ht,ev hl,ev hc];exact h
  ·cases h
 ·split at h
  ·split at h
   ·split at h
    ·rename_i ht hx hh hm
     simp only[ht,ev hx,ev hh,ev hm]
     exact h
    ·cases h
   ·split at h
    ·rename_i ht hx hl hh
     split at h
     ·rename_i hm
      simp only[ht,ev hx,ev hl,ev hh,ev hm]
      exact h
     ·cases h
    ·cases h
   ·cases h
  ·split at h
   ·rename_i ti x' ht hx
    simp only[ht,ev hx]
    split at h
    ·exact h
    ·split at h
     ·rename_i hlo;simp only[ev hlo];exact h
     ·cases h
    ·split at h
     ·rename_i hlo;simp only[ev hlo];exact h
     ·cases h
    ·split at h
     ·rename_i lo' hi' hlo hhi
      simp only[ev hlo,ev hhi]
      refine ZcZ (fun z hz=>?_) h
      cases hbe:Zde G ti x' lo' hi' with
      |none=>
       rw[hbe,Ze5]at hz
       cases hbe':Zde G' ti x' lo' hi' with
       |none=>rw[Ze5];exact hz
       |some z'=>
        rw[ZfI]
        exact(ZjG hbe' hz)▸rfl
      |some z'=>
       rw[hbe,ZfI]at hz
       have hbe':Zde G' ti x' lo' hi'=some z':=by
        unfold Zde at hbe ⊢
        split at hbe
        ·split at hbe
         ·split at hbe
          ·split at hbe
           ·rename_i hg
            simp only[hG _ _ _ hg];exact hbe
           ·cases hbe
          ·cases hbe
         ·cases hbe
        ·cases hbe
       rw[hbe',ZfI];exact hz
     ·cases h
   ·cases h
 ·split at h
  ·rename_i ti x' ht hx
   simp only[ht,ev hx];exact h
  ·cases h
 ·split at h
  ·rename_i ti x' ht hx
   simp only[ht,ev hx];exact h
  ·cases h
 ·split at h
  ·rename_i ti x' y' ht hx hy
   simp only[ht,ev hx,ev hy];exact h
  ·cases h
 ·split at h
  ·rename_i ti x' y' ht hx hy
   simp only[ht,ev hx,ev hy];exact h
  ·cases h
 ·split at h
  ·rename_i xs hx
   simp only[ev hx];exact h
  ·cases h
 ·split at h
  ·rename_i ti l k esz i n g ht hx
   simp only[ht,ev hx];exact h
  ·cases h
 ·split at h
  ·rename_i ti x' ht hx
   simp only[ht,ev hx];exact h
  ·cases h
 ·split at h
  ·split at h
   ·rename_i xs hxs
    simp only[Zfi htm _ _ hxs];exact Zkf hG h
   ·cases h
  ·cases h
 ·cases h
end
end Go.Abs
namespace Go.Abs
open Go Go.RowKit
abbrev ZjB:=List (Nat×Nat×Option Blk)
def Zf6:ZjB→Nat→Nat→Option (Option Blk)
 |[],_,_=>none
 |(l,k,b)::r,l',k'=>match Zf6 r l' k' with
  |some x=>some x
  |none=>if l=l'∧k=k' then some b else none
theorem Zey (s:ZjB):∀ (H:Zar) (l k:Nat),(H.puts s).get l k=match Zf6 s l k with
  |some b=>if l<H.length then b else none
  |none=>H.get l k:=by
 induction s with
 |nil=>intro H l k;rfl
 |cons p s ih=>
  obtain⟨l0,k0,b⟩:=p
  intro H l k
  simp only[Zar.puts,ih,Zf6,Zar.length_put]
  cases hs:Zf6 s l k with
  |some x=>rfl
  |none=>
   simp only[Zar.get_put]
   by_cases h:l0=l∧k0=k
   ·obtain⟨rfl,rfl⟩:=h
    simp only[and_self,true_and,if_true]
    split
    ·rfl
    ·rename_i hl
     cases hg:H.get l0 k0 with
     |none=>rfl
     |some b'=>exact absurd (Zar.get_lt H _ _ _ hg) hl
   ·rw[if_neg h,if_neg (fun hh=>h ⟨hh.1,hh.2.1⟩)]
theorem ZcY (s t:ZjB) (l k:Nat):Zf6 (s++t) l k=match Zf6 t l k with
  |some x=>some x
  |none=>Zf6 s l k:=by
 induction s with
 |nil=>simp only[List.nil_append,Zf6];cases Zf6 t l k<;>rfl
 |cons p s ih=>
  obtain⟨l0,k0,b⟩:=p
  simp only[List.cons_append,Zf6,ih]
  cases Zf6 t l k<;>rfl
theorem Zg3 {s:ZjB}{l k:Nat} (h:∀ p∈s,¬ (p.1=l∧p.2.1=k)):Zf6 s l k=none:=by
 induction s with
 |nil=>rfl
 |cons p s ih=>
  obtain⟨l0,k0,b⟩:=p
  simp only[Zf6,ih (fun q hq=>h q (List.mem_cons_of_mem _ hq))]
  rw[if_neg (h _ List.mem_cons_self)]
theorem Zk7 {s:ZjB}{l k:Nat}{x:Option Blk} (h:Zf6 s l k=some x):∃ p∈s,p.1=l∧p.2.1=k:=by
 induction s with
 |nil=>cases h
 |cons p s ih=>
  obtain⟨l0,k0,b⟩:=p
  simp only[Zf6]at h
  cases hs:Zf6 s l k with
  |some y=>rw[hs]at h;cases h;obtain⟨q,h1,h2⟩:=ih hs;exact⟨q,List.mem_cons_of_mem _ h1,h2⟩
  |none=>
   rw[hs]at h
   simp only at h
   split at h
   ·rename_i hh;exact⟨_,List.mem_cons_self,hh⟩
   ·cases h
def ZgR (s t:ZjB):Prop:=∀ p∈s,∀ q∈t,¬ (p.1=q.1∧p.2.1=q.2.1)
theorem ZoM {s t:ZjB} (h:ZgR s t) (l k:Nat):Zf6 (s++t) l k=Zf6 (t++s) l k:=by
 rw[ZcY,ZcY]
 cases ht:Zf6 t l k with
 |none=>cases Zf6 s l k<;>rfl
 |some x=>
  cases hs:Zf6 s l k with
  |none=>rfl
  |some y=>
   obtain⟨q,h1,h2,h3⟩:=Zk7 ht
   obtain⟨p,h4,h5,h6⟩:=Zk7 hs
   exact absurd ⟨h5.trans h2.symm,h6.trans h3.symm⟩ (h p h4 q h1)
section
variable {N0:Nat}{W0:World}{fm:FM}{ts:List Tie}{H H':Zar}{w:World}
theorem HR.ext (h:HR N0 W0 fm ts H w) (hl:H'.length=H.length) (hg:∀ l k,H'.get l k=H.get l k):HR N0 W0 fm ts H' w:=
 ⟨h.len.trans hl.symm,fun l k b e=>h.blk l k b (by rw[←hg];exact e),fun l1 k1 l2 k2 b1 b2 c g1 g2=>h.inj l1 k1 l2 k2 b1 b2 c (by rw[←hg];exact g1) (by rw[←hg];exact g2),h.fms,
  fun l k b c o e=>h.fmd l k b c o (by rw[←hg];exact e),h.bel,h.size,h.oth⟩
end
end Go.Abs
namespace Go.Abs
open Go Go.RowKit
def ZbJ (ops:List SOp) (j:Nat):Option Tmp:=(ops[j]?).bind (·.dst)
def ZeV (ops:List SOp) (ds:List De):List Nat→List (Nat×AV)→List (Nat×AV)
 |[],tm=>tm
 |j::L,tm=>ZeV ops ds L (match ds[j]? with
  |some d=>ZhL tm (ZbJ ops j) d.val
  |none=>tm)
def Zb5 (ds:List De) (j:Nat):ZjB:=((ds[j]?).map (·.sets)).getD []
def ZaI (ds:List De):List Nat→ZjB
 |[]=>[]
 |j::L=>Zb5 ds j++ZaI ds L
def Zjq (ops:List SOp):Prop:=∀ i j t,ZbJ ops i=some t→ZbJ ops j=some t→i=j
theorem Zjw (tm:List (Nat×AV)) (dst:Option Tmp) (v:AV) (t:Nat):look (ZhL tm dst v) t=if dst=some t then some v else look tm t:=by
 cases dst with
 |none=>simp[ZhL]
 |some d=>simp only[ZhL,ZdR,oE]
theorem ZbR (ops:List SOp) (ds:List De) (t:Nat):∀ (L:List Nat) (tm:List (Nat×AV)),(∀ j∈L,ZbJ ops j≠some t)→look (ZeV ops ds L tm) t=look tm t
 |[],tm,_=>rfl
 |j::L,tm,h=>by
  simp only[ZeV]
  rw[ZbR ops ds t L _ (fun k hk=>h k (List.mem_cons_of_mem _ hk))]
  split
  ·rw[Zjw,if_neg (h j List.mem_cons_self)]
  ·rfl
theorem ZdQ (ops:List SOp) (ds:List De) (h1:Zjq ops) {t j:Nat}{d:De} (hj:ZbJ ops j=some t) (hd:ds[j]?=some d):∀ (L:List Nat) (tm:List (Nat×AV)),j∈L→look (ZeV ops ds L tm) t=some d.val
 |[],tm,h=>by cases h
 |i::L,tm,h=>by
  simp only[ZeV]
  by_cases hL:j∈L
  ·exact ZdQ ops ds h1 hj hd L _ hL
  ·have:j=i:=by
    rcases List.mem_cons.1 h with h|h
    ·exact h
    ·exact absurd h hL
   subst this
   rw[ZbR ops ds t L _ (fun k hk hkt=>hL (by rw[h1 j k t hj hkt];exact hk))]
   rw[hd]
   simp only[Zjw,hj,if_true]
theorem ZfA {ds:List De}{l k:Nat} (p q:Nat→Bool) (hpq:∀ j,p j=true→q j=true):∀ (L:List Nat),(∀ j∈L,q j=true→p j=false→∀ s∈Zb5 ds j,¬ (s.1=l∧s.2.1=k))→
  Zf6 (ZaI ds (L.filter p)) l k=Zf6 (ZaI ds (L.filter q)) l k
 |[],_=>rfl
 |j::L,h=>by
  have ih:=ZfA p q hpq L (fun i hi=>h i (List.mem_cons_of_mem _ hi))
  by_cases hp:p j=true
  ·rw[List.filter_cons_of_pos hp,List.filter_cons_of_pos (hpq j hp)]
   simp only[ZaI,ZcY,ih]
  ·have hpf:p j=false:=by simpa using hp
   rw[List.filter_cons_of_neg hp]
   by_cases hq:q j=true
   ·rw[List.filter_cons_of_pos hq]
    simp only[ZaI,ZcY,←ih]
    rw[Zg3 (h j List.mem_cons_self hq hpf)]
    cases Zf6 (ZaI ds (L.filter p)) l k<;>rfl
   ·rw[List.filter_cons_of_neg hq];exact ih
theorem ZiU {ds:List De}{l k i:Nat} (p:Nat→Bool) (hpi:p i=false):∀ (L:List Nat),L.Nodup→i∈L→(∀ j,p j=true→(∃ a b,L=a++i::b∧j∈b)→ZgR (Zb5 ds i) (Zb5 ds j))→
  Zf6 (ZaI ds (L.filter fun j=>p j || j==i)) l k=Zf6 (ZaI ds (L.filter p)++Zb5 ds i) l k
 |[],_,h,_=>by cases h
 |j::L,hnd,hi,hap=>by
  by_cases hji:j=i
  ·subst hji
   have hnL:j∉L:=(List.nodup_cons.1 hnd).1
   have e1:(j::L).filter (fun k=>p k || k==j)=j::L.filter p:=by
    rw[List.filter_cons_of_pos (by simp)]
    congr 1
    apply List.filter_congr
    intro x hx
    have:(x==j)=false:=by simp;rintro rfl;exact hnL hx
    rw[this];simp
   have e2:(j::L).filter p=L.filter p:=by rw[List.filter_cons_of_neg (by simp[hpi])]
   rw[e1,e2]
   simp only[ZaI]
   refine ZoM ?_ l k
   have:∀ (M:List Nat),(∀ x∈M,x∈L)→ZgR (Zb5 ds j) (ZaI ds (M.filter p)):=by
    intro M
    induction M with
    |nil=>intro _ a _ b hb;cases hb
    |cons x M ih=>
     intro hM
     by_cases hp:p x=true
     ·rw[List.filter_cons_of_pos hp]
      intro a ha b hb
      simp only[ZaI,List.mem_append]at hb
      rcases hb with hb|hb
      ·exact hap x hp ⟨[],L,rfl,hM x List.mem_cons_self⟩ a ha b hb
      ·exact ih (fun y hy=>hM y (List.mem_cons_of_mem _ hy)) a ha b hb
     ·rw[List.filter_cons_of_neg hp]
      exact ih (fun y hy=>hM y (List.mem_cons_of_mem _ hy))
   exact this L (fun _ h=>h)
  ·have hiL:i∈L:=by
    rcases List.mem_cons.1 hi with h|h
    ·exact absurd h.symm hji
    ·exact h
   have ih:=ZiU (ds:=ds) (l:=l) (k:=k) p hpi L (List.nodup_cons.1 hnd).2 hiL (fun x hx=>by
    rintro⟨a,b,e,hb⟩
    exact hap x hx ⟨j::a,b,by rw[e];rfl,hb⟩)
   have hne:(j==i)=false:=by simpa using hji
   by_cases hp:p j=true
   ·rw[List.filter_cons_of_pos (by simp[hp]),List.filter_cons_of_pos hp]
    simp only[ZaI]
    rw[ZcY,ih,List.append_assoc,ZcY (Zb5 ds j)]
   ·have hpf:p j=false:=by simpa using hp
    rw[List.filter_cons_of_neg (by simp[hpf,hji]),List.filter_cons_of_neg hp]
    exact ih
end Go.Abs
namespace Go.Abs
open Go Go.RowKit
def ZfW (n:Nat) (p:Nat→Bool):List Nat:=(List.range n).filter p
def ZbB (befs:List (List Nat)) (i:Nat):List Nat:=(befs[i]?).getD []
def ZjL (befs:List (List Nat)) (i j:Nat):Bool:=j != i&&!(ZbB befs i).contains j&&!(ZbB befs j).contains i
def ZjS (ops:List SOp) (befs:List (List Nat)) (ds:List De) (tm:List (Nat×AV)) (i:Nat):List (Nat×AV):=
 ZeV ops ds (ZfW ops.length fun j=>(ZbB befs i).contains j) (ZeW tm ((ZfW ops.length fun j=>!(ZbB befs j).contains i).filterMap (ZbJ ops)))
def gone (s:ZjB):ZjB:=s.map fun x=>(x.1,x.2.1,none)
def Zpk (ops:List SOp) (befs:List (List Nat)) (ds:List De) (H:Zar) (i:Nat):Zar:=
 (H.puts (ZaI ds (ZfW ops.length fun j=>(ZbB befs i).contains j))).puts (gone (ZaI ds (ZfW ops.length (ZjL befs i))))
inductive Eff (P:Program) (T:Tys) (kb:Nat) (o:SOp) (tm:Tm) (G:Get) (d:De):Prop
 |op (hc:ZdD o.op=none) (h:ZcW T kb o.op o.type tm G=some d)
 |call (c:Call) (f:FuncId) (args fargs:List AV) (hc:ZdD o.op=some c) (h:callee tm c=some (f,args)) (hp:Za6 P f fargs (fun y=>y=d.val)) (hz:AV.frzL G args=some fargs)
   (hr:AV.refsL args=[]∨d.val.scal=true) (hs:d.sets=[])
 |lent (m:Nat) (c:Call) (f:FuncId) (args fargs:List AV) (hc:ZdD o.op=some c) (h:callee tm c=some (f,args)) (hp:Za6 P f fargs (fun y=>y=d.val)) (hz:AV.brL G (boxF G m) args=some fargs)
   (hr:d.val.scal=true) (hs:d.sets=[])
 |give (rs gs:List Nat) (c:Call) (f:FuncId) (args args0:List AV) (fr0 fr:Fra) (y:AV) (hc:ZdD o.op=some c) (h:callee tm c=some (f,args)) (hp:Zc3 P f args0 fr0 (fun y' fr'=>y'=y∧fr'=fr))
   (hz:gvL gs (only (ZfT G) (rs.map fun k=>(1,k))) (boxF (only (ZfT G) (rs.map fun k=>(1,k))) 5) (AV.shL 1 args)=some args0) (hg:Zjb G 0 gs=some fr0) (hnd:(decide (gs++rs).Nodup&&decide (gs.length≤16))=true)
   (hd:d=⟨y.imp kb,Zhb rs++(Zhb gs++ZpG kb fr)⟩)
def ZvP (o:SOp) (tm:Tm):Prop:=o.guard=none∨∃ g w b,o.guard=some (g,w)∧tm g=some (.bool b)∧(b==w)=true
def Zu1 (o:SOp) (tm:Tm):Prop:=∃ g w,o.guard=some (g,w)∧((∃ b,tm g=some (.bool b)∧(b==w)=false)∨tm g=some (.tup []))
def Zro (P:Program) (T:Tys) (kb:Nat) (o:SOp) (tm:Tm) (G:Get) (d:De):Prop:=(ZvP o tm∧Eff P T kb o tm G d)∨(Zu1 o tm∧d=⟨.tup [],[]⟩)
theorem ZnW {s:ZjB}{l k:Nat} (h:∃ p∈s,p.1=l∧p.2.1=k):Zf6 (gone s) l k=some none:=by
 induction s with
 |nil=>obtain⟨p,hp,_⟩:=h;cases hp
 |cons q s ih=>
  obtain⟨l0,k0,b⟩:=q
  simp only[gone,List.map_cons,Zf6]
  by_cases hs:∃ p∈s,p.1=l∧p.2.1=k
  ·have:=ih hs
   unfold gone at this
   rw[this]
  ·obtain⟨p,hp,h1,h2⟩:=h
   rcases List.mem_cons.1 hp with rfl|hp
   ·have hn:Zf6 (List.map (fun x=>(x.1,x.2.1,none)) s) l k=none:=by
     apply Zg3
     intro x hx
     obtain⟨y,hy,rfl⟩:=List.mem_map.1 hx
     exact fun hh=>hs ⟨y,hy,hh⟩
    rw[hn]
    simp only
    rw[if_pos ⟨h1,h2⟩]
   ·exact absurd ⟨p,hp,h1,h2⟩ hs
theorem Zgk {ds:List De}{s:Nat×Nat×Option Blk}:∀ (L:List Nat),s∈ZaI ds L↔∃ j∈L,s∈Zb5 ds j
 |[]=>by simp[ZaI]
 |j::L=>by simp only[ZaI,List.mem_append,Zgk L,List.mem_cons,exists_eq_or_imp]
theorem Zs5 {ops:List SOp}{befs:List (List Nat)}{ds:List De}{H:Zar}{i:Nat} (p:Nat→Bool) (hpi:p i=false) (hB:∀ j,(ZbB befs i).contains j=true→p j=true)
  (hcl:∀ j,p j=true→(ZbB befs j).contains i=false):GLe (Zar.get (Zpk ops befs ds H i)) (Zar.get (H.puts (ZaI ds (ZfW ops.length p)))):=by
 intro l k b hb
 unfold Zpk at hb
 rw[Zey]at hb
 have hnot:¬ ∃ s∈ZaI ds (ZfW ops.length (ZjL befs i)),s.1=l∧s.2.1=k:=by
  intro hex
  rw[ZnW hex]at hb
  simp only at hb
  split at hb<;>cases hb
 have hn:Zf6 (gone (ZaI ds (ZfW ops.length (ZjL befs i)))) l k=none:=by
  apply Zg3
  intro x hx
  obtain⟨y,hy,rfl⟩:=List.mem_map.1 hx
  exact fun hh=>hnot ⟨y,hy,hh⟩
 rw[hn]at hb
 simp only at hb
 rw[Zey]at hb ⊢
 have e:Zf6 (ZaI ds (ZfW ops.length fun j=>(ZbB befs i).contains j)) l k=Zf6 (ZaI ds (ZfW ops.length p)) l k:=by
  refine ZfA _ _ hB _ ?_
  intro j hj hpj hnb s hs hh
  refine hnot ⟨s,(Zgk _).2 ⟨j,?_,hs⟩,hh⟩
  unfold ZfW
  rw[List.mem_filter]
  refine⟨hj,?_⟩
  have hji:j≠i:=by rintro rfl;rw[hpi]at hpj;cases hpj
  unfold ZjL
  rw[hnb,hcl j hpj]
  simp[hji]
 rw[←e]
 exact hb
end Go.Abs
namespace Go.Abs
open Go Go.RowKit
set_option linter.unusedSectionVars false
section
variable [Md]
structure DR (N0:Nat) (W0:World) (n:Nat) (st:St) (ops:List SOp) (ds:List De) (p:Nat→Bool) (a:Act) (w:World) (fm:FM) (ts:List Tie):Prop where
 hr:HR N0 W0 fm ts (Zar.puts (st.fr::st.low) (ZaI ds (ZfW ops.length p))) w
 tm:TmR fm ts (look (ZeV ops ds (ZfW ops.length p) st.tm)) a
 fre:∀ i,i<ops.length→p i=false→∀ k,st.nx+16*i≤k→k<st.nx+16*i+16→tb ts 0 k=none
 top:∀ k,st.nx+16*ops.length≤k→tb ts 0 k=none
 size:a.tmps.size=n
 dfr:a.defers=Md.dfs
theorem Zcl {n:Nat}{p:Nat→Bool}{j:Nat}:j∈ZfW n p↔j<n∧p j=true:=by
 unfold ZfW;rw[List.mem_filter,List.mem_range]
section
variable [Md] {P:Program}{T:Tys}{N0:Nat}{W0:World}{n:Nat}{fm:FM}{ts:List Tie}{st:St}{ops:List SOp}{befs:List (List Nat)}{ds:List De}
theorem ZkL {l:List (Nat×AV)}:∀ (ks:List Nat) (l:List (Nat×AV)) (t:Nat),t∈ks→look (ZeW l ks) t=none
 |[],_,_,h=>by cases h
 |k::ks,l,t,h=>by
  simp only[ZeW]
  by_cases ht:t∈ks
  ·exact ZkL (l:=l) ks _ t ht
  ·have hk:t=k:=by
    rcases List.mem_cons.1 h with h|h
    ·exact h
    ·exact absurd h ht
   subst hk
   cases hl:look (ZeW (del l t) ks) t with
   |none=>rfl
   |some x=>
    have:=Zfg ks _ t x hl
    rw[ZgX,if_pos rfl]at this
    cases this
theorem ZmA {p:Nat→Bool}{i:Nat} (h1:Zjq ops) (hds:∀ j,j<ops.length→∃ d,ds[j]?=some d) (hB:∀ j,(ZbB befs i).contains j=true→p j=true) (hcl:∀ j,p j=true→(ZbB befs j).contains i=false):
  Zuh (look (ZjS ops befs ds st.tm i)) (look (ZeV ops ds (ZfW ops.length p) st.tm)):=by
 intro t x hx
 unfold ZjS at hx
 by_cases hex:∃ j,ZbJ ops j=some t
 ·obtain⟨j,hj⟩:=hex
  have hjl:j<ops.length:=by
   unfold ZbJ at hj
   cases ho:ops[j]? with
   |none=>rw[ho]at hj;cases hj
   |some o=>exact(gS.1 ho).1
  obtain⟨dj,hdj⟩:=hds j hjl
  have hno:∀ q:Nat→Bool,q j=false→∀ k∈ZfW ops.length q,ZbJ ops k≠some t:=by
   intro q hq k hk hkt
   have:=h1 j k t hj hkt
   subst this
   rw[(Zcl.1 hk).2]at hq;cases hq
  by_cases hb:(ZbB befs i).contains j=true
  ·rw[ZdQ ops ds h1 hj hdj _ _ (Zcl.2 ⟨hjl,hb⟩)]at hx
   rw[ZdQ ops ds h1 hj hdj _ _ (Zcl.2 ⟨hjl,hB j hb⟩)]
   exact hx
  ·rw[ZbR ops ds t _ _ (hno _ (by simpa using hb))]at hx
   by_cases ha:(ZbB befs j).contains i=true
   ·have hpj:p j=false:=by
     cases hp:p j with
     |false=>rfl
     |true=>have:=hcl j hp;rw[ha]at this;cases this
    rw[ZbR ops ds t _ _ (hno _ hpj)]
    exact Zfg _ _ _ _ hx
   ·rw[ZkL (l:=st.tm)]at hx
    ·cases hx
    ·exact List.mem_filterMap.2 ⟨j,Zcl.2 ⟨hjl,by simpa using ha⟩,hj⟩
 ·have hno:∀ (L:List Nat),∀ j∈L,ZbJ ops j≠some t:=fun L j _ hj=>hex ⟨j,hj⟩
  rw[ZbR ops ds t _ _ (hno _)]at hx ⊢
  exact Zfg _ _ _ _ hx
theorem DR.step {p:Nat→Bool}{a:Act}{w:World} (h:DR N0 W0 n st ops ds p a w fm ts) {i:Nat} (hi:i<ops.length) (hpi:p i=false) {d:De} (hd:ds[i]?=some d) {r:Result Next}{fm':FM}{ts':List Tie}{w':World}{v:Value}
  (o:Out N0 W0 fm ts (Zar.puts (st.fr::st.low) (ZaI ds (ZfW ops.length p))) w (st.nx+16*i) r d fm' ts' w' v) (h1:Zjq ops) (hds:∀ j,j<ops.length→∃ d,ds[j]?=some d)
  (hap:∀ j,p j=true→i<j→ZgR (Zb5 ds i) (Zb5 ds j)) (hfit:∀ d,ZbJ ops i=some d→d<n):
  DR N0 W0 n st ops ds (fun j=>p j || j==i) (a.put (ZbJ ops i) v) w' fm' ts'∧Later N0 fm ts fm' ts':=by
 refine⟨⟨?_,?_,?_,?_,by rw[ZgK];exact h.size,by rw[Zhw];exact h.dfr⟩,⟨o.fle,o.tle.drop 1,?_⟩⟩
 ·refine o.hr.ext (by simp) ?_
  intro l k
  have hs:Zb5 ds i=d.sets:=by simp[Zb5,hd]
  rw[←Zar.puts_append,←hs,Zey,Zey]
  have:=ZiU (ds:=ds) (l:=l) (k:=k) (i:=i) p hpi (List.range ops.length) List.nodup_range (List.mem_range.2 hi) (by
   rintro j hj ⟨x,y,hxy,hjy⟩
   refine hap j hj ?_
   have hsorted:(List.range ops.length).Pairwise (·<·):=List.pairwise_lt_range
   rw[hxy]at hsorted
   have:=(List.pairwise_append.1 hsorted).2.1
   exact(List.pairwise_cons.1 this).1 j hjy)
  unfold ZfW
  rw[this]
 ·intro t x hx
  by_cases ht:ZbJ ops i=some t
  ·have hin:i∈ZfW ops.length (fun j=>p j || j==i):=Zcl.2 ⟨hi,by simp⟩
   rw[ZdQ ops ds h1 ht hd _ _ hin]at hx
   obtain rfl:=oi hx
   have hlt:=hfit t ht
   rw[←h.size]at hlt
   exact⟨v,by rw[ht];simp[Act.put,hlt],o.val⟩
  ·have hx':look (ZeV ops ds (ZfW ops.length p) st.tm) t=some x:=by
    by_cases hex:∃ j,ZbJ ops j=some t
    ·obtain⟨j,hj⟩:=hex
     have hji:j≠i:=fun e=>ht (by rw[←e];exact hj)
     have hjl:j<ops.length:=by
      unfold ZbJ at hj
      cases ho:ops[j]? with
      |none=>rw[ho]at hj;cases hj
      |some o=>exact(gS.1 ho).1
     obtain⟨dj,hdj⟩:=hds j hjl
     by_cases hpj:p j=true
     ·rw[ZdQ ops ds h1 hj hdj _ _ (Zcl.2 ⟨hjl,by simp[hpj]⟩)]at hx
      rw[ZdQ ops ds h1 hj hdj _ _ (Zcl.2 ⟨hjl,hpj⟩)]
      exact hx
     ·have hno:∀ q:Nat→Bool,q j=false→∀ k∈ZfW ops.length q,ZbJ ops k≠some t:=by
       intro q hq k hk hkt
       have:=h1 j k t hj hkt
       subst this
       rw[(Zcl.1 hk).2]at hq;cases hq
      rw[ZbR ops ds t _ _ (hno _ (by simp[hpj,hji]))]at hx
      rw[ZbR ops ds t _ _ (hno _ (by simpa using hpj))]
      exact hx
    ·have hno:∀ (L:List Nat),∀ j∈L,ZbJ ops j≠some t:=fun L j _ hj=>hex ⟨j,hj⟩
     rw[ZbR ops ds t _ _ (hno _)]at hx ⊢
     exact hx
   obtain⟨u,h2,h3⟩:=h.tm t x hx'
   refine⟨u,?_,h3.mono o.fle.le o.tle⟩
   cases hdst:ZbJ ops i with
   |none=>exact h2
   |some dd=>
    simp only[Act.put]
    rw[Array.getElem?_setIfInBounds_ne (fun e=>ht (by rw[hdst,e]))]
    exact h2
 ·intro j hj hpj k hk1 hk2
  simp only[Bool.or_eq_false_iff,beq_eq_false_iff_ne,ne_eq]at hpj
  refine o.free 0 k ?_ (h.fre j hj hpj.1 k hk1 hk2)
  rcases Nat.lt_or_gt_of_ne hpj.2 with hlt|hgt
  ·exact .inr (.inl (by omega))
  ·exact .inr (.inr (by omega))
 ·intro k hk
  refine o.free 0 k (.inr (.inr ?_)) (h.top k hk)
  have:st.nx+16*i+16≤st.nx+16*ops.length:=by omega
  omega
 ·intro l k hn
  rw[Zbl]at hn ⊢
  exact o.free (l+1) k (by omega) hn
end
end
end Go.Abs
namespace Go.Abs
open Go Go.RowKit
set_option linter.unusedSectionVars false
section
variable [Md] {P:Program}{T:Tys}{N0:Nat}{W0:World}{n:Nat}{fm:FM}{ts:List Tie}{st:St}{ops:List SOp}{befs:List (List Nat)}{ds:List De}
theorem Zgs {tm tm':Tm} (h:Zuh tm tm') {c:Call}{x:FuncId×List AV} (e:callee tm c=some x):callee tm' c=some x:=by
 unfold callee at e ⊢
 split at e
 ·split at e
  ·rename_i hf hx
   simp only[ZhU h hf,Zfi h _ _ hx];exact e
  ·cases e
 ·cases e
theorem HR.frzL_get {H:Zar}{w:World} (h:HR N0 W0 fm ts H w) {cs ys:List AV}{vs:List Value} (hv:VRs fm ts cs vs) (e:AV.frzL H.get cs=some ys):
  VRs (Zdv fm w (Zf4 ts H (AV.refsL cs))) [] ys vs:=h.frzL _ hv e (fun _ h=>h)
theorem DR.oper (hT:ZaW P T) {p:Nat→Bool}{a:Act}{w:World} (h:DR N0 W0 n st ops ds p a w fm ts) {i:Nat} (hi:i<ops.length) (hpi:p i=false) {d:De} (hd:ds[i]?=some d) {s:SOp} (hs:ops[i]?=some s)
  (he:Eff P T (st.nx+16*i) s (look (ZjS ops befs ds st.tm i)) (Zar.get (Zpk ops befs ds (st.fr::st.low) i)) d) (h1:Zjq ops) (hds:∀ j,j<ops.length→∃ d,ds[j]?=some d)
  (hB:∀ j,(ZbB befs i).contains j=true→p j=true) (hcl:∀ j,p j=true→(ZbB befs j).contains i=false)
  (hap:∀ j,p j=true→i<j→ZgR (Zb5 ds i) (Zb5 ds j)) (hfit:∀ d,ZbJ ops i=some d→d<n)
  {o:Oper} (hop:s.op=o.op) (hty:s.type=o.type) (hdst:s.dst=o.dst) {K:Act→World→Prop}{Q:Exit→Act→World→Prop}
  (hK:∀ v w' fm' ts',DR N0 W0 n st ops ds (fun j=>p j || j==i) (a.put o.dst v) w' fm' ts'→Later N0 fm ts fm' ts'→K (a.put o.dst v) w'):o.wpIn FW 0 P a w K Q:=by
 have hdo:ZbJ ops i=o.dst:=by simp[ZbJ,hs,hdst]
 have hG:=Zs5 (ops:=ops) (ds:=ds) (H:=st.fr::st.low) p hpi hB hcl
 have hTm:Zuh (look (ZjS ops befs ds st.tm i)) (look (ZeV ops ds (ZfW ops.length p) st.tm)):=by
  exact ZmA h1 hds hB hcl
 have step:∀ {r v w' fm' ts'},Out N0 W0 fm ts (Zar.puts (st.fr::st.low) (ZaI ds (ZfW ops.length p))) w (st.nx+16*i) r d fm' ts' w' v→K (a.put o.dst v) w':=by
  intro r v w' fm' ts' ho
  obtain⟨h2,h3⟩:=h.step hi hpi hd ho h1 hds hap hfit
  rw[hdo]at h2
  exact hK v w' fm' ts' h2 h3
 cases he with
 |op hc hde=>
  have hde':=ZkT hTm hG hde
  rw[hop,hty]at hde'
  obtain⟨fm',ts',w',v,ho⟩:=Zjs (P:=P) hT h.hr (by simp) (h.fre i hi hpi) h.tm hde'
  have hk:=step ho
  have hnd:∀ c,o.op≠.defer c:=fun c0 h0=>by rw[h0]at hde';simp[ZcW]at hde'
  rcases ho.done with hr|⟨hr,rfl⟩
  ·exact ZfQ hnd hr hk
  ·exact ZkM hnd hr hk
 |call c f args fargs hc hcal hp hz hr hsets=>
  have hcal':=Zgs hTm hcal
  have hz':=frzL_mono hG _ _ hz
  unfold ZdD at hc
  split at hc
  ·rename_i c' hoc
   split at hc
   ·cases hc
   ·obtain rfl:=oi hc
    unfold callee at hcal'
    split at hcal'
    ·rename_i g hcf
     split at hcal'
     ·rename_i g' first cap xs hof hxs
      simp only[oE,Prod.mk.injEq]at hcal'
      obtain⟨rfl,rfl⟩:=hcal'
      have hvf:=ZcT h.tm hof
      have hvx:=ZcA h.tm _ _ hxs
      obtain⟨vf,vc,hev,hl1,hl2,hp1,hp2⟩:∃ vf vc,a.eval g=.func (.func g') vf vc∧first.length=vf.size∧cap.length=vc.size∧(∀ (i:Nat) x v,first[i]?=some x→vf[i]?=some v→VR fm ts x v)∧(∀ (i:Nat) x v,cap[i]?=some x→vc[i]?=some v→VR fm ts x v):=by
       generalize a.eval g=z at hvf
       cases hvf with
       |fn _ _ _ vf vc h1 h2 h3 h4=>exact⟨vf,vc,rfl,h1,h2,h3,h4⟩
      have hargs:VRs fm ts (first++(xs++cap)) (vf.toList++(c'.args.toList.map a.eval++vc.toList)):=
       VRs.append ⟨by simpa using hl1,fun i x v p q=>hp1 i x v p (by simpa using q)⟩ (VRs.append hvx ⟨by simpa using hl2,fun i x v p q=>hp2 i x v p (by simpa using q)⟩)
      obtain⟨⟨fn,hfn,hnm,hbd⟩,hpc⟩:=hp
      have hoc':o.op=.call c':=by rw[←hop];exact hoc
      have hrun:(execOp a.eval o).run P w=.ok (.enter g' ((vf.toList++(c'.args.toList.map a.eval++vc.toList)).toArray)) w:=by
       have e1:vf++Array.map a.eval c'.args++vc=(vf.toList++(c'.args.toList.map a.eval++vc.toList)).toArray:=by
        apply Array.toList_inj.1;simp
       simp only[execOp,hoc',resolve,hcf,Sem.run_bind,Deferred.ofValue,hev,Sem.run_pure,Result.andThen_ok,invoke,callFunc,run_program,hfn,hnm,hbd,Bool.false_eq_true,if_false,e1]
      have hfz:=h.hr.frzL_get hargs hz'
      have hin:=(h.hr.letGo (AV.refsL (first++(xs++cap)))).fms
      refine ZfL (fun c0 h0=>by rw[hoc']at h0;cases h0) hrun ?_
      refine Calls.mono (hpc _ w _ hin hfz) ?_
      rintro e w' ⟨v,y,fm',rfl,rfl,hin',hvr,hup,hb⟩
      refine step (r:=.ok (.value v) w') (fm':=if AV.refsL (first++(xs++cap))=[] then fm' else fm) (ts':=ts) ?_
      by_cases hrf:AV.refsL (first++(xs++cap))=[]
      ·rw[if_pos hrf]
       rw[hrf,ZfM]at hup
       refine⟨.inl rfl,?_,hvr.mono (Zdw.refl _) (ZaS.nil _),hup.low h.hr.size,ZaS.refl _,fun _ _ _ h=>h⟩
       rw[hsets]
       exact h.hr.up hb hup hin'
      ·rw[if_neg hrf]
       have hsc:d.val.scal=true:=by
        rcases hr with hr|hr
        ·exact absurd hr hrf
        ·exact hr
       refine⟨.inl rfl,?_,hvr.scal hsc,FmUp.refl _ _,ZaS.refl _,fun _ _ _ h=>h⟩
       rw[hsets]
       exact h.hr.world (fun i hi=>hb.block i hi) (hb.mono h.hr.size)
     ·cases hcal'
    ·cases hcal'
  ·cases hc
 |lent m c f args fargs hc hcal hp hz hr hsets=>
  have hcal':=Zgs hTm hcal
  have hz':=(Zie hG (ZgV hG (fun _ _ _ _ _ _ _ hh=>frz_mono hG _ _ hh) m) (fun _ _ _ _ _ _ _ hh=>frz_mono hG _ _ hh)).2 _ _ hz
  unfold ZdD at hc
  split at hc
  ·rename_i c' hoc
   split at hc
   ·cases hc
   ·obtain rfl:=oi hc
    unfold callee at hcal'
    split at hcal'
    ·rename_i g hcf
     split at hcal'
     ·rename_i g' first cap xs hof hxs
      simp only[oE,Prod.mk.injEq]at hcal'
      obtain⟨rfl,rfl⟩:=hcal'
      have hvf:=ZcT h.tm hof
      have hvx:=ZcA h.tm _ _ hxs
      obtain⟨vf,vc,hev,hl1,hl2,hp1,hp2⟩:∃ vf vc,a.eval g=.func (.func g') vf vc∧first.length=vf.size∧cap.length=vc.size∧(∀ (i:Nat) x v,first[i]?=some x→vf[i]?=some v→VR fm ts x v)∧(∀ (i:Nat) x v,cap[i]?=some x→vc[i]?=some v→VR fm ts x v):=by
       generalize a.eval g=z at hvf
       cases hvf with
       |fn _ _ _ vf vc h1 h2 h3 h4=>exact⟨vf,vc,rfl,h1,h2,h3,h4⟩
      have hargs:VRs fm ts (first++(xs++cap)) (vf.toList++(c'.args.toList.map a.eval++vc.toList)):=
       VRs.append ⟨by simpa using hl1,fun i x v p q=>hp1 i x v p (by simpa using q)⟩ (VRs.append hvx ⟨by simpa using hl2,fun i x v p q=>hp2 i x v p (by simpa using q)⟩)
      obtain⟨⟨fn,hfn,hnm,hbd⟩,hpc⟩:=hp
      have hoc':o.op=.call c':=by rw[←hop];exact hoc
      have hrun:(execOp a.eval o).run P w=.ok (.enter g' ((vf.toList++(c'.args.toList.map a.eval++vc.toList)).toArray)) w:=by
       have e1:vf++Array.map a.eval c'.args++vc=(vf.toList++(c'.args.toList.map a.eval++vc.toList)).toArray:=by
        apply Array.toList_inj.1;simp
       simp only[execOp,hoc',resolve,hcf,Sem.run_bind,Deferred.ofValue,hev,Sem.run_pure,Result.andThen_ok,invoke,callFunc,run_program,hfn,hnm,hbd,Bool.false_eq_true,if_false,e1]
      have hfz:=h.hr.brs _ (h.hr.boxF m) hargs hz'
      refine ZfL (fun c0 h0=>by rw[hoc']at h0;cases h0) hrun ?_
      refine Calls.mono (hpc (Zgq w) w _ (fun b o v h=>h) hfz) ?_
      rintro e w' ⟨v,y,fm',rfl,rfl,hin',hvr,hup,hb⟩
      refine step (r:=.ok (.value v) w') (fm':=fm) (ts':=ts) ?_
      refine⟨.inl rfl,?_,hvr.scal hr,FmUp.refl _ _,ZaS.refl _,fun _ _ _ h=>h⟩
      rw[hsets]
      exact h.hr.world (fun i hi=>hb.block i hi) (hb.mono h.hr.size)
     ·cases hcal'
    ·cases hcal'
  ·cases hc
 |give rs gs c f args args0 fr0 fr y hc hcal hp hz hg hnd hd0=>
  have hcal':=Zgs hTm hcal
  unfold ZdD at hc
  split at hc
  ·rename_i c' hoc
   split at hc
   ·cases hc
   ·obtain rfl:=oi hc
    unfold callee at hcal'
    split at hcal'
    ·rename_i g hcf
     split at hcal'
     ·rename_i g' first cap xs hof hxs
      simp only[oE,Prod.mk.injEq]at hcal'
      obtain⟨rfl,rfl⟩:=hcal'
      have hvf:=ZcT h.tm hof
      have hvx:=ZcA h.tm _ _ hxs
      obtain⟨vf,vc,hev,hl1,hl2,hp1,hp2⟩:∃ vf vc,a.eval g=.func (.func g') vf vc∧first.length=vf.size∧cap.length=vc.size∧(∀ (i:Nat) x v,first[i]?=some x→vf[i]?=some v→VR fm ts x v)∧(∀ (i:Nat) x v,cap[i]?=some x→vc[i]?=some v→VR fm ts x v):=by
       generalize a.eval g=z at hvf
       cases hvf with
       |fn _ _ _ vf vc h1 h2 h3 h4=>exact⟨vf,vc,rfl,h1,h2,h3,h4⟩
      have hargs:VRs fm ts (first++(xs++cap)) (vf.toList++(c'.args.toList.map a.eval++vc.toList)):=
       VRs.append ⟨by simpa using hl1,fun i x v p q=>hp1 i x v p (by simpa using q)⟩ (VRs.append hvx ⟨by simpa using hl2,fun i x v p q=>hp2 i x v p (by simpa using q)⟩)
      obtain⟨⟨fn,hfn,hnm,hbd⟩,hpc⟩:=hp
      have hoc':o.op=.call c':=by rw[←hop];exact hoc
      have hrun:(execOp a.eval o).run P w=.ok (.enter g' ((vf.toList++(c'.args.toList.map a.eval++vc.toList)).toArray)) w:=by
       have e1:vf++Array.map a.eval c'.args++vc=(vf.toList++(c'.args.toList.map a.eval++vc.toList)).toArray:=by
        apply Array.toList_inj.1;simp
       simp only[execOp,hoc',resolve,hcf,Sem.run_bind,Deferred.ofValue,hev,Sem.run_pure,Result.andThen_ok,invoke,callFunc,run_program,hfn,hnm,hbd,Bool.false_eq_true,if_false,e1]
      obtain⟨f1,H1,hH⟩:=Zf7 st.fr st.low (ZaI ds (ZfW ops.length p))
      have hnd':=hnd
      simp only[Bool.and_eq_true,decide_eq_true_eq]at hnd
      have hGH:∀ l k b,Zar.get (Zpk ops befs ds (st.fr::st.low) i) l k=some b→Zar.get (f1::H1) l k=some b:=by
       rw[←hH];exact hG
      have hGp:∀ l k b,only (ZfT (Zar.get (Zpk ops befs ds (st.fr::st.low) i))) (rs.map fun k=>(1,k)) l k=some b→only (Zar.get ([]::f1::H1)) (rs.map fun k=>(1,k)) l k=some b:=by
       intro l k b e
       unfold only at e ⊢
       split at e
       ·rename_i hm
        rw[if_pos hm]
        cases l with
        |zero=>simp[ZfT]at e
        |succ l=>simpa [Zar.get] using hGH l k b (by simpa [ZfT] using e)
       ·cases e
      have hloc:∀ (l k e i0 n g:Nat) (y:AV),(AV.loc l k e i0 n g).frz (only (ZfT (Zar.get (Zpk ops befs ds (st.fr::st.low) i))) (rs.map fun k=>(1,k)))=some y→(AV.loc l k e i0 n g).frz (only (Zar.get ([]::f1::H1)) (rs.map fun k=>(1,k)))=some y:=
       fun _ _ _ _ _ _ _ hh=>frz_mono hGp _ _ hh
      have hz':=ZjH (gs:=gs) (Zie hGp (ZgV hGp hloc 5) hloc).1 _ _ hz
      have hg1:=Zhh hGH gs 0 fr0 hg
      have hg':=ZmH f1 H1 rs gs 0 fr0 hg1 (by
       intro k hk hk'
       exact(List.nodup_append.1 hnd.1).2.2 k hk k hk' rfl)
      have ha:=Zc3.used (H:=H1) 5 rs gs ⟨⟨fn,hfn,hnm,hbd⟩,hpc⟩ hz' hg' (by
       simp only[Bool.and_eq_true,decide_eq_true_eq]
       exact⟨(List.nodup_append.1 hnd.1).1,hnd.2⟩)
      have hr0:=h.hr
      rw[hH]at hr0
      have hargs':VRs fm (Zci::ts) (AV.shL 1 (first++(xs++cap))) (vf.toList++(c'.args.toList.map a.eval++vc.toList)):=by
       refine⟨by rw[Zb2];exact hargs.1,?_⟩
       intro i x v hx hv
       rw[Zdu,mS]at hx
       obtain⟨y,hy,rfl⟩:=hx
       exact(hargs.2 i y v hy hv).sh 1 (by simp)
      refine ZfL (fun c0 h0=>by rw[hoc']at h0;cases h0) hrun ?_
      refine Calls.mono (ha.2 N0 W0 fm ts w _ hr0 hargs') ?_
      rintro e w' ⟨v,av,fr',H'',fm',t',ts',rfl,⟨⟨rfl,rfl⟩,rfl⟩,_,hhr,hvr,hup,htl,hno,h16⟩
      cases ts' with
      |nil=>have:=hhr.len;simp at this
      |cons hh rest=>
       have hwin:∀ k x,hh k=some x→¬ (st.nx+16*i≤k∧k<st.nx+16*i+16):=by
        rintro k x hx ⟨h1,h2⟩
        have:=hno 0 k (h.fre i hi hpi k h1 h2)
        simp only[tb]at this
        rw[this]at hx;cases hx
       have j1:∀ k x,t' k=some x→Zh6 (st.nx+16*i) t' hh (st.nx+16*i+k)=some x:=by
        intro k x hx
        have hlt:k<16:=by
         rcases Nat.lt_or_ge k 16 with hk|hk
         ·exact hk
         ·rw[h16 k hk]at hx;cases hx
        unfold Zh6
        rw[if_pos ⟨by omega,by omega⟩]
        simpa using hx
       have j2:∀ k x,hh k=some x→Zh6 (st.nx+16*i) t' hh k=some x:=by
        intro k x hx
        unfold Zh6
        rw[if_neg (hwin k x hx)];exact hx
       have hJ:∀ l k x,tb (t'::hh::rest) l k=some x→tb (Zh6 (st.nx+16*i) t' hh::rest) (l - 1) (if l=0 then st.nx+16*i+k else k)=some x:=by
        intro l k x e
        cases l with
        |zero=>simpa [tb] using j1 k x (by simpa [tb] using e)
        |succ l=>
         cases l with
         |zero=>simpa [tb] using j2 k x (by simpa [tb] using e)
         |succ l=>simpa [tb] using e
       have hTT:ZaS (hh::rest) (Zh6 (st.nx+16*i) t' hh::rest):=by
        intro l k
        cases l with
        |zero=>
         simp only[tb]
         cases hx:hh k with
         |none=>trivial
         |some x=>rw[j2 k x hx];exact ZeL.refl _
        |succ l=>exact ZeL.refl _
       refine step (r:=.ok (.value v) w') (fm':=fm') (ts':=Zh6 (st.nx+16*i) t' hh::rest) ?_
       subst hd0
       refine⟨.inl rfl,?_,hvr.impJ hJ rfl,hup,htl.trans hTT,?_⟩
       ·rw[hH]
        simp only[Zar.puts_append,Zjo,Zlh]
        exact hhr.impJ j1 j2
       ·intro l k hlk hn
        cases l with
        |zero=>
         have hk:¬ (st.nx+16*i≤k∧k<st.nx+16*i+16):=by omega
         simp only[tb,Zh6,if_neg hk]
         have:=hno 0 k hn
         simpa [tb] using this
        |succ l=>
         have:=hno (l+1) k hn
         simpa [tb] using this
     ·cases hcal'
    ·cases hcal'
  ·cases hc
end
end Go.Abs
namespace Go.Abs
open Go Go.RowKit
set_option linter.unusedSectionVars false
theorem Zla:∀ (l acc:List Nat) (x:Nat),x∈Znt acc l↔x∈acc∨x∈l
 |[],acc,x=>by simp[Znt]
 |y::l,acc,x=>by
  simp only[Znt,Zla l,List.mem_cons]
  by_cases h:acc.contains y=true
  ·rw[if_pos h]
   have:y∈acc:=by simpa using h
   constructor
   ·rintro(h|h)
    ·exact .inl h
    ·exact .inr (.inr h)
   ·rintro(h|rfl|h)
    ·exact .inl h
    ·exact .inl this
    ·exact .inr h
  ·rw[if_neg h]
   simp only[List.mem_append,List.mem_singleton,or_assoc]
theorem ZkH (b:List (List Nat)) (x:Nat):∀ (l:List Edge) (acc:List Nat),x∈ZkQ b acc l↔x∈acc∨∃ e∈l,Region.binds .any e=true∧(x=e.on∨x∈(b[e.on]?).getD [])
 |[],acc=>by simp[ZkQ]
 |e::l,acc=>by
  simp only[ZkQ,ZkH b x l,List.mem_cons]
  by_cases hb:Region.binds .any e=true
  ·rw[if_pos hb]
   simp only[Zla,List.mem_singleton]
   constructor
   ·rintro((h|h)|⟨f,hf,h⟩)
    ·rcases h with h|h
     ·exact .inl h
     ·exact .inr ⟨e,.inl rfl,hb,.inr h⟩
    ·exact .inr ⟨e,.inl rfl,hb,.inl h⟩
    ·exact .inr ⟨f,.inr hf,h⟩
   ·rintro(h|⟨f,rfl|hf,hbf,h⟩)
    ·exact .inl (.inl (.inl h))
    ·rcases h with h|h
     ·exact .inl (.inr h)
     ·exact .inl (.inl (.inr h))
    ·exact .inr ⟨f,hf,hbf,h⟩
  ·rw[if_neg hb]
   constructor
   ·rintro(h|⟨f,hf,h⟩)
    ·exact .inl h
    ·exact .inr ⟨f,.inr hf,h⟩
   ·rintro(h|⟨f,rfl|hf,hbf,h⟩)
    ·exact .inl h
    ·exact absurd hbf hb
    ·exact .inr ⟨f,hf,hbf,h⟩
theorem Zhs:∀ (l:List Oper) (b:List (List Nat)) (i:Nat),i<b.length→(Zhd b l)[i]?=b[i]?
 |[],b,i,h=>rfl
 |o::l,b,i,h=>by
  simp only[Zhd]
  rw[Zhs l _ i (by simp;omega),List.getElem?_append_left h]
theorem Zju:∀ (l:List Oper) (b:List (List Nat)) (i:Nat) (o:Oper),l[i]?=some o→
  ∃ b',(Zhd b l)[b.length+i]?=some (ZkQ b' [] o.after.toList)∧b'.length=b.length+i∧∀ j,j<b'.length→b'[j]?=(Zhd b l)[j]?
 |[],b,i,o,h=>by simp at h
 |o'::l,b,0,o,h=>by
  simp only[List.getElem?_cons_zero,oE]at h;subst h
  refine⟨b,?_,by simp,?_⟩
  ·simp only[Zhd,Nat.add_zero]
   rw[Zhs l _ _ (by simp)]
   simp
  ·intro j hj
   simp only[Zhd]
   rw[Zhs l _ j (by simp;omega),List.getElem?_append_left hj]
 |o'::l,b,i+1,o,h=>by
  simp only[List.getElem?_cons_succ]at h
  obtain⟨b',h1,h2,h3⟩:=Zju l (b++[ZkQ b [] o'.after.toList]) i o h
  refine⟨b',?_,by simp at h2;omega,h3⟩
  simp only[Zhd]
  rw[←h1]
  congr 1
  simp;omega
end Go.Abs
namespace Go.Abs
open Go Go.RowKit
set_option linter.unusedSectionVars false
def St.drawn (st:St) (ops:List SOp) (ds:List De) (drop:List Nat):St:=
 St.withHeap { st with tm:=ZeW (ZeV ops ds (List.range ops.length) st.tm) drop,nx:=st.nx+16*ops.length } (Zar.puts (st.fr::st.low) (ZaI ds (List.range ops.length)))
section
variable [Md] {P:Program}{T:Tys}{N0:Nat}{W0:World}{n:Nat}{fm:FM}{ts:List Tie}{st:St}{ops:List SOp}{befs:List (List Nat)}{ds:List De}{Φ:Exit→St→Prop}
theorem Zqr {n:Nat}{p:Nat→Bool} (h:∀ j,j<n→p j=true):ZfW n p=List.range n:=by
 unfold ZfW
 rw[List.filter_eq_self]
 intro j hj
 exact h j (List.mem_range.1 hj)
theorem DR.all {p:Nat→Bool}{a:Act}{w:World} (h:DR N0 W0 n st ops ds p a w fm ts) (hp:∀ j,j<ops.length→p j=true) (drop:List Nat):SR N0 W0 n (st.drawn ops ds drop) a w fm ts:=by
 have e:=Zqr hp
 have h1:=h.hr
 have h2:=h.tm
 rw[e]at h1 h2
 obtain⟨f',H',hp'⟩:=Zf7 st.fr st.low (ZaI ds (List.range ops.length))
 unfold St.drawn
 rw[hp']at h1 ⊢
 refine⟨h1,?_,h.top,h.size,h.dfr⟩
 intro t x hx
 exact h2 t x (Zfg drop _ t x hx)
theorem DR.none {a:Act}{w:World} (h:SR N0 W0 n st a w fm ts):DR N0 W0 n st ops ds (fun _=>false) a w fm ts:=by
 have e:ZfW ops.length (fun _=>false)=[]:=by unfold ZfW;simp
 refine⟨by rw[e];exact h.hr,?_,fun i _ _ k h1 _=>h.nx k (by omega),fun k hk=>h.nx k (by omega),h.size,h.dfr⟩
 rw[e]
 intro t x hx
 exact h.tm t x hx
end
end Go.Abs
namespace Go.Abs
open Go Go.RowKit
set_option linter.unusedSectionVars false
theorem ZiT {p q:Nat→Bool} (hpq:∀ j,p j=true→q j=true) {i:Nat} (hq:q i=true) (hp:p i=false):∀ (l:List Nat),i∈l→l.countP p<l.countP q
 |[],h=>by cases h
 |a::l,h=>by
  have hle:l.countP p≤l.countP q:=List.countP_mono_left (fun x _ hx=>hpq x hx)
  rw[List.countP_cons,List.countP_cons]
  by_cases ha:a=i
  ·subst ha
   rw[hq,hp]
   simp only[if_true,Bool.false_eq_true,if_false]
   omega
  ·have hl:i∈l:=by
    rcases List.mem_cons.1 h with h|h
    ·exact absurd h.symm ha
    ·exact h
   have ih:=ZiT hpq hq hp l hl
   cases hpa:p a with
   |false=>simp only[Bool.false_eq_true,if_false];split<;>omega
   |true=>rw[hpq a hpa];simp only[if_true];omega
section
variable [Md] {P:Program}{T:Tys}{n:Nat}{Φ:Exit→St→Prop}
theorem AK.draw (hT:ZaW P T) (hm:P.follows .mixedOrders=true) {ops:List SOp}{befs:List (List Nat)}{drop:List Nat}{todo:List It}{st:St} (ds:List De) (hds:∀ j,j<ops.length→∃ d,ds[j]?=some d) (h1:Zjq ops)
  (hbl:∀ i j,j∈ZbB befs i→j<i) (hap:∀ i j,i<j→j<ops.length→i∉ZbB befs j→ZgR (Zb5 ds i) (Zb5 ds j))
  (heff:∀ i s d,ops[i]?=some s→ds[i]?=some d→Zro P T (st.nx+16*i) s (look (ZjS ops befs ds st.tm i)) (Zar.get (Zpk ops befs ds (st.fr::st.low) i)) d)
  (hn:AK P n Φ todo (st.drawn ops ds drop)):AK P n Φ (.sc (.dreg ops befs drop)::todo) st:=by
 intro N0 W0 fm ts a w ct Q hS hsim hQ
 obtain⟨c,ct',hns,hb,hf,ht,hK⟩:=hsim.sc_inv (P:=P) rfl
 apply hK
 cases c<;>try (simp only[SC.bare,Zbh,reduceCtorEq]at hb;done)
 case scope b=>exact absurd rfl (hns b)
 case region rid arr dr=>
  cases dr with
  |false=>simp[SC.bare,Zbh]at hb
  |true=>
   simp only[SC.bare,Zbh,SC.dreg.injEq,and_true]at hb
   obtain⟨hb1,hb2⟩:=hb
   simp only[Zbh,SC.fits,List.all_eq_true]at hf
   have ZbW:ops.length=arr.size:=by have:=congrArg List.length hb1;simpa using this
   have hat:∀ i,(hi:i<arr.size)→∃ s,ops[i]?=some s∧s.dst=(arr[i]).dst∧s.op=(arr[i]).op∧s.type=(arr[i]).type∧s.guard=(arr[i]).guard.map (fun g=>(((arr[g.1]?).bind (·.dst)).getD n,g.2)):=by
    intro i hi
    have hlt:i<ops.length:=by omega
    refine⟨ops[i],gG hlt,?_⟩
    have e:=congrArg (fun l=>l[i]?) hb1
    simp only[List.getElem?_map,gG hlt,Option.map_some,Array.getElem?_toList,Array.getElem?_eq_getElem hi,oE]at e
    simp only[Zfz,Zez,SOp.mk.injEq,and_true]at e
    obtain⟨e1,e2,e3,e4⟩:=e
    exact⟨e1,e2,e3,e4⟩
   have hbef:∀ i,(hi:i<arr.size)→∀ x,x∈ZbB befs i↔∃ e∈(arr[i]).after.toList,Region.binds .any e=true∧(x=e.on∨(e.on<i∧x∈ZbB befs e.on)):=by
    intro i hi x
    obtain⟨b',g1,g2,g3⟩:=Zju arr.toList [] i arr[i] (by simp[hi])
    simp only[List.length_nil,Nat.zero_add]at g1 g2
    have e1:ZbB befs i=ZkQ b' [] (arr[i]).after.toList:=by unfold ZbB;rw[hb2,g1];rfl
    rw[e1,ZkH]
    simp only[List.not_mem_nil,false_or]
    have e2:∀ e:Edge,x∈(b'[e.on]?).getD []↔(e.on<i∧x∈ZbB befs e.on):=by
     intro e
     by_cases hj:e.on<b'.length
     ·rw[g3 _ hj]
      unfold ZbB
      rw[hb2]
      rw[g2]at hj
      simp[hj]
     ·rw[List.getElem?_eq_none (by omega)]
      simp
      omega
    constructor
    ·rintro⟨e,h1,h2,h3⟩
     exact⟨e,h1,h2,h3.imp id (e2 e).1⟩
    ·rintro⟨e,h1,h2,h3⟩
     exact⟨e,h1,h2,h3.imp id (e2 e).2⟩
   refine wpIn_region_any hm ?_
   have hrep:∀ j,(Array.replicate arr.size false).getD j false=false:=by
    intro j
    by_cases hj:j<arr.size
    ·simp[Array.getD,hj]
    ·simp[Array.getD,hj]
   have key:∀ (fuel:Nat) (listed:Array Bool) (a:Act) (w:World) (fm':FM) (ts':List Tie),listed.size=arr.size→((List.range arr.size).countP fun j=>!listed.getD j false)≤fuel→
     (∀ j,listed.getD j false=true→∀ k∈ZbB befs j,listed.getD k false=true)→DR N0 W0 n st ops ds (fun j=>listed.getD j false) a w fm' ts'→Later N0 fm ts fm' ts'→wpAnyIn FW 0 P .any arr (K P Q ct') fuel listed a w:=by
    intro fuel
    have fin:∀ (listed:Array Bool) (a:Act) (w:World) (fm':FM) (ts':List Tie),listed.size=arr.size→DR N0 W0 n st ops ds (fun j=>listed.getD j false) a w fm' ts'→Later N0 fm ts fm' ts'→Region.ready .any arr listed=[]→K P Q ct' .normal a w:=by
     intro listed a w fm' ts' hsz hD hL hr
     have hall:∀ j,j<arr.size→listed.getD j false=true:=by
      intro j
      induction j using Nat.strongRecOn with
      |_ j ih=>
       intro hj
       by_cases hl:listed.getD j false=true
       ·exact hl
       ·have hin:j∈Region.ready .any arr listed:=by
         rw[mem_ready]
         have hlt:j<listed.size:=by omega
         refine⟨by simp[Array.getD,hlt]at hl ⊢;exact hl,arr[j],Array.getElem?_eq_getElem hj,?_⟩
         intro e he hb
         have hm:e.on∈ZbB befs j:=(hbef j hj e.on).2 ⟨e,by simpa using he,hb,.inl rfl⟩
         have:=hbl j e.on hm
         exact ih e.on this (by omega)
        rw[hr]at hin;cases hin
     have hS':=hD.all (fun j hj=>hall j (by omega)) drop
     exact hn N0 W0 fm' ts' a w ct' Q hS' (ht.later hL) (fun e s x w' f t hp hs hl=>hQ e s x w' f t hp hs (hL.trans hl))
    induction fuel with
    |zero=>
     intro listed a w fm' ts' hsz hc hcl hD hL
     have hr:Region.ready .any arr listed=[]:=by
      cases h:Region.ready .any arr listed with
      |nil=>rfl
      |cons j l=>
       have hj:j∈Region.ready .any arr listed:=by rw[h];exact List.mem_cons_self
       rw[mem_ready]at hj
       obtain⟨h0,o,ho,_⟩:=hj
       have hlt:j<arr.size:=(Array.getElem?_eq_some_iff.1 ho).1
       have:0<(List.range arr.size).countP fun j=>!listed.getD j false:=by
        rw[List.countP_pos_iff]
        have hlt':j<listed.size:=by omega
        refine⟨j,List.mem_range.2 hlt,?_⟩
        simp[Array.getD,hlt']at h0 ⊢
        exact h0
       omega
     exact⟨hr,fin listed a w fm' ts' hsz hD hL hr⟩
    |succ fuel ih=>
     intro listed a w fm' ts' hsz hc hcl hD hL
     refine⟨fin listed a w fm' ts' hsz hD hL,fun i hi=>?_⟩
     rw[mem_ready]at hi
     obtain⟨h0,o,ho,hall⟩:=hi
     have hlt:i<arr.size:=(Array.getElem?_eq_some_iff.1 ho).1
     have hlt':i<listed.size:=by omega
     have hpi:listed.getD i false=false:=by
      simp[Array.getD,hlt']at h0 ⊢
      exact h0
     obtain⟨s,hs,hsd,hso,hst,hsg⟩:=hat i hlt
     have ho':o=arr[i]:=by rw[Array.getElem?_eq_getElem hlt]at ho;exact(oi ho).symm
     subst ho'
     obtain⟨d,hd⟩:=hds i (by omega)
     have hB:∀ j,(ZbB befs i).contains j=true→listed.getD j false=true:=by
      intro j hj
      have hmm:j∈ZbB befs i:=by simpa using hj
      obtain⟨e,he,hb,h⟩:=(hbef i hlt j).1 hmm
      have hon:=hall e (by simpa using he) hb
      rcases h with rfl|⟨_,h⟩
      ·exact hon
      ·exact hcl _ hon j h
     have hcl':∀ j,listed.getD j false=true→(ZbB befs j).contains i=false:=by
      intro j hj
      cases hc':(ZbB befs j).contains i with
      |false=>rfl
      |true=>
       have:=hcl j hj i (by simpa using hc')
       rw[hpi]at this;cases this
     have hset:∀ j,(listed.setIfInBounds i true).getD j false=(listed.getD j false || j==i):=by
      intro j
      by_cases hji:j=i
      ·subst hji;simp[Array.getD,hlt']
      ·rw[getD_set_ne false (Ne.symm hji)];simp[hji]
     unfold wpOpIn
     rw[ho]
     simp only
     have hTm:Zuh (look (ZjS ops befs ds st.tm i)) (look (ZeV ops ds (ZfW ops.length fun j=>listed.getD j false) st.tm)):=by
      exact ZmA h1 hds hB hcl'
     have hyl:∀ g j v,((arr[j]?).bind (·.dst)).getD n=g→a.tmps[g]?=some v→yielded arr a.tmps j=match v with|.bool b=>some b|_=>none:=by
      intro g j v hjg hv
      unfold yielded
      cases hb:(arr[j]?).bind (·.dst) with
      |none=>
       rw[hb]at hjg
       simp only[Option.getD_none]at hjg
       have:=(Array.getElem?_eq_some_iff.1 hv).1
       rw[hD.size]at this
       subst hjg
       exact absurd this (Nat.lt_irrefl _)
      |some dd=>
       rw[hb]at hjg
       simp only[Option.getD_some]at hjg
       subst hjg
       simp only[Option.bind_some,hv]
       cases v<;>rfl
     have hgu:∀ g w,s.guard=some (g,w)→∃ j,(arr[i]).guard=some (j,w)∧((arr[j]?).bind (·.dst)).getD n=g:=by
      intro g w hh
      rw[hh]at hsg
      cases hh2:(arr[i]).guard with
      |none=>rw[hh2]at hsg;cases hsg
      |some p=>
       rw[hh2]at hsg
       simp only[Option.map_some,oE,Prod.mk.injEq]at hsg
       exact⟨p.1,by rw[hsg.2],hsg.1.symm⟩
     have hmore:∀ v w' fm2 ts2,DR N0 W0 n st ops ds (fun j=>listed.getD j false || j==i) (a.put (arr[i]).dst v) w' fm2 ts2→Later N0 fm' ts' fm2 ts2→wpAnyIn FW 0 P .any arr (K P Q ct') fuel (listed.setIfInBounds i true) (a.put (arr[i]).dst v) w':=by
      intro v w' fm2 ts2 hD2 hL2
      refine ih (listed.setIfInBounds i true) _ w' fm2 ts2 (by simpa using hsz) ?_ ?_ ?_ (hL.trans hL2)
      ·have:=ZiT (p:=fun j=>!(listed.setIfInBounds i true).getD j false) (q:=fun j=>!listed.getD j false) (i:=i) (by
        intro j hj
        rw[hset]at hj
        simp only[Bool.not_or,Bool.and_eq_true]at hj
        exact hj.1) (by simp only[hpi,Bool.not_false]) (by simp only[hset,hpi];simp) (List.range arr.size) (List.mem_range.2 hlt)
       omega
      ·intro j hj k hk
       rw[hset]at hj ⊢
       simp only[Bool.or_eq_true,beq_iff_eq]at hj ⊢
       rcases hj with hj|rfl
       ·exact .inl (hcl j hj k hk)
       ·exact .inl (hB k (by simpa using hk))
      ·have e:(fun j=>(listed.setIfInBounds i true).getD j false)=fun j=>listed.getD j false || j==i:=funext hset
       rw[e]
       exact hD2
     have happ:∀ j,listed.getD j false=true→i<j→ZgR (Zb5 ds i) (Zb5 ds j):=by
      intro j hj hij
      have hjs:j<listed.size:=by
       by_cases hjs:j<listed.size
       ·exact hjs
       ·simp[Array.getD,hjs]at hj
      refine hap i j hij (by omega) ?_
      have:=hcl' j hj
      simpa using this
     have hfits:∀ d,ZbJ ops i=some d→d<n:=by
      intro dd hdd
      have hmem:Zfz s∈List.map (Zez n arr) arr.toList:=by rw[←hb1];exact List.mem_map_of_mem (List.mem_of_getElem? hs)
      have:=hf _ hmem
      simp only[ZbJ,hs,Option.bind_some]at hdd
      simp only[Zfz,hdd]at this
      simpa using this
     rcases heff i s d hs hd with ⟨hgo,hE⟩|⟨hsty,rfl⟩
     case inr=>
      obtain⟨g,want,hsgu,hcase⟩:=hsty
      obtain⟨j,hj,hjg⟩:=hgu g want hsgu
      have hnw:Region.wanted arr[i] (yielded arr a.tmps)=false:=by
       rcases hcase with ⟨b,hb,hbw⟩|hb
       ·obtain⟨v,hv,hvr⟩:=hD.tm g _ (hTm g _ hb)
        cases hvr
        simp only[Region.wanted,hj,hyl g j _ hjg hv]
        simpa using hbw
       ·obtain⟨v,hv,hvr⟩:=hD.tm g _ (hTm g _ hb)
        cases hvr
        simp[Region.wanted,hj,hyl g j _ hjg hv]
      rw[if_neg (by rw[hnw];simp)]
      have ho:Out N0 W0 fm' ts' (Zar.puts (st.fr::st.low) (ZaI ds (ZfW ops.length fun j=>listed.getD j false))) w (st.nx+16*i) (.ok .skip w) ⟨.tup [],[]⟩ fm' ts' w undef:=
       ⟨.inr ⟨rfl,rfl⟩,hD.hr,.tup [] #[] rfl (fun i x v h=>by simp at h),FmUp.refl _ _,ZaS.refl _,fun _ _ _ h=>h⟩
      obtain⟨h2,h3⟩:=hD.step (by omega) hpi hd ho h1 hds happ hfits
      have hdo:ZbJ ops i=(arr[i]).dst:=by simp[ZbJ,hs,hsd]
      rw[hdo]at h2
      exact⟨fun _ _=>trivial,hmore _ w fm' ts' h2 h3⟩
     have hwant:Region.wanted arr[i] (yielded arr a.tmps)=true:=by
      rcases hgo with hgo|⟨g,want,b,hsgu,hb,hbw⟩
      ·rw[hgo]at hsg
       have:(arr[i]).guard=none:=by
        cases hh:(arr[i]).guard with
        |none=>rfl
        |some g=>rw[hh]at hsg;cases hsg
       simp[Region.wanted,this]
      ·obtain⟨j,hj,hjg⟩:=hgu g want hsgu
       obtain⟨v,hv,hvr⟩:=hD.tm g _ (hTm g _ hb)
       cases hvr
       simp only[Region.wanted,hj,hyl g j _ hjg hv]
       simpa using hbw
     rw[if_pos hwant]
     exact(DR.oper (befs:=befs) hT hD (by omega) hpi hd hs hE h1 hds hB hcl' happ hfits hso hst hsd fun v w' fm2 ts2 hD2 hL2=>hmore v w' fm2 ts2 hD2 hL2)
   refine key arr.size (Array.replicate arr.size false) a _ fm ts (by simp) (Nat.le_trans List.countP_le_length (by simp)) (by intro j hj;rw[hrep]at hj;cases hj) ?_ (Later.refl _ _)
   have e:(fun j=>(Array.replicate arr.size false).getD j false)=fun _=>false:=funext hrep
   rw[e]
   exact DR.none ⟨hS.hr.drew,hS.tm,hS.nx,hS.size,hS.dfr⟩
end
end Go.Abs
namespace Go.Abs
open Go Go.RowKit
set_option linter.unusedSectionVars false
def Zlb:List SOp→Bool
 |[]=>true
 |o::l=>(match o.dst with
  |none=>true
  |some t=>l.all fun q=>decide (q.dst≠some t))&&Zlb l
theorem ZiH:∀ (ops:List SOp),Zlb ops=true→Zjq ops
 |[],_=>by intro i j t h;simp[ZbJ]at h
 |o::l,h=>by
  simp only[Zlb,Bool.and_eq_true]at h
  have ih:=ZiH l h.2
  have hz:∀ j t,o.dst=some t→ZbJ l j≠some t:=by
   intro j t ho hj
   have h1:=h.1
   rw[ho]at h1
   simp only[List.all_eq_true,decide_eq_true_eq]at h1
   unfold ZbJ at hj
   cases hlj:l[j]? with
   |none=>rw[hlj]at hj;cases hj
   |some q=>rw[hlj]at hj;exact h1 q (List.mem_of_getElem? hlj) hj
  have hs:∀ j,ZbJ (o::l) (j+1)=ZbJ l j:=fun j=>by simp[ZbJ]
  have h0:ZbJ (o::l) 0=o.dst:=by simp[ZbJ]
  intro i j t hi hj
  cases i with
  |zero=>
   cases j with
   |zero=>rfl
   |succ j=>rw[h0]at hi;rw[hs]at hj;exact absurd hj (hz j t hi)
  |succ i=>
   cases j with
   |zero=>rw[h0]at hj;rw[hs]at hi;exact absurd hi (hz i t hj)
   |succ j=>rw[hs]at hi hj;rw[ih i j t hi hj]
def Ziz:Nat→List (List Nat)→Bool
 |_,[]=>true
 |i,l::r=>(l.all fun j=>decide (j<i))&&Ziz (i+1) r
theorem Zhv:∀ (befs:List (List Nat)) (i0:Nat),Ziz i0 befs=true→∀ i j,j∈ZbB befs i→j<i0+i
 |[],i0,_,i,j,h=>by simp[ZbB]at h
 |l::r,i0,h,i,j,hj=>by
  simp only[Ziz,Bool.and_eq_true,List.all_eq_true,decide_eq_true_eq]at h
  cases i with
  |zero=>simp[ZbB]at hj;exact h.1 j hj
  |succ i=>
   have:=Zhv r (i0+1) h.2 i j (by simpa [ZbB] using hj)
   omega
def Zd7 (s t:ZjB):Bool:=s.all fun p=>t.all fun q=>!(p.1==q.1&&p.2.1==q.2.1)
theorem Zld {s t:ZjB} (h:Zd7 s t=true):ZgR s t:=by
 intro p hp q hq hh
 simp only[Zd7,List.all_eq_true]at h
 have:=h p hp q hq
 rw[hh.1,hh.2]at this
 simp at this
def Ze6 (befs:List (List Nat)) (ds:List De) (n:Nat):Bool:=
 (List.range n).all fun j=>(List.range j).all fun i=>(ZbB befs j).contains i || Zd7 (Zb5 ds i) (Zb5 ds j)
theorem ZlM {befs:List (List Nat)}{ds:List De}{n:Nat} (h:Ze6 befs ds n=true):∀ i j,i<j→j<n→i∉ZbB befs j→ZgR (Zb5 ds i) (Zb5 ds j):=by
 intro i j hij hj hn
 simp only[Ze6,List.all_eq_true,List.mem_range,Bool.or_eq_true]at h
 rcases h j hj i hij with h|h
 ·exact absurd (by simpa using h) hn
 ·exact Zld h
section
variable [Md] {P:Program}{T:Tys}{n:Nat}{Φ:Exit→St→Prop}
theorem Zpo (hT:ZaW P T) (hm:P.follows .mixedOrders=true) {ops:List SOp}{befs:List (List Nat)}{drop:List Nat}{todo:List It}{st:St} (ds:List De) (ZbW:ds.length=ops.length) (h1:Zlb ops=true)
  (hbl:Ziz 0 befs=true) (hap:Ze6 befs ds ops.length=true)
  (heff:∀ i s d,ops[i]?=some s→ds[i]?=some d→Zro P T (st.nx+16*i) s (look (ZjS ops befs ds st.tm i)) (Zar.get (Zpk ops befs ds (st.fr::st.low) i)) d)
  (hn:AK P n Φ todo (st.drawn ops ds drop)):Zcy P n Φ (.draw ops befs drop todo st):=by
 refine AK.draw hT hm ds (fun j hj=>⟨ds[j]'(by omega),gG (by omega)⟩) (ZiH ops h1) (fun i j hj=>by have:=Zhv befs 0 hbl i j hj;omega) (ZlM hap) heff hn
end
end Go.Abs
namespace Go.Abs
open Go Go.RowKit
set_option linter.unusedSectionVars false
section
variable [Md] {P:Program}{T:Tys}{N0:Nat}{W0:World}{n:Nat}{fm:FM}{ts:List Tie}{Φ:Exit→St→Prop}
theorem ZuF {Q:Exit→Act→World→Prop} (t:List CIt):K P Q (.back (fun a w=>K P Q t .normal a w)::t)=K P Q t:=by
 funext e a w;cases e<;>rfl
theorem Zpy {Q:Exit→Act→World→Prop} (t:List CIt):∀ c1:List CIt,K P Q (c1++.back (fun a w=>K P Q t .normal a w)::t)=K P Q (c1++t)
 |[]=>ZuF t
 |c::c1=>by
  have ih:=Zpy (Q:=Q) t c1
  funext e a w
  cases c<;>cases e<;>simp only[List.cons_append,K,ih]
theorem Sim.stop {todo:List It}:∀ {ct:List CIt}{pre:List It}{l:List It},Sim N0 W0 n fm ts l ct→l=pre++todo→∃ c1 c2,ct=c1++c2∧Sim N0 W0 n fm ts todo c2∧
  ∀ (B:St→Prop) (R:Act→World→Prop),(∀ st' a' w' fm' ts',B st'→SR N0 W0 n st' a' w' fm' ts'→Later N0 fm ts fm' ts'→R a' w')→Sim N0 W0 n fm ts (pre++.back B::todo) (c1++.back R::c2):=by
 intro ct pre l h
 induction h generalizing pre with
 |nil=>
  intro e
  have e2:pre=[]∧todo=[]:=by simpa using e.symm
  obtain⟨rfl,rfl⟩:=e2
  exact⟨[],[],rfl,.nil,fun B R hR=>.back hR .nil⟩
 |@sc s c t ct h hf ht ih=>
  intro e
  cases pre with
  |nil=>
   simp only[List.nil_append]at e;subst e
   exact⟨[],_,rfl,.sc h hf ht,fun B R hR=>.back hR (.sc h hf ht)⟩
  |cons p pre=>
   simp only[List.cons_append,List.cons.injEq]at e
   obtain⟨rfl,e⟩:=e
   obtain⟨c1,c2,rfl,h2,h3⟩:=ih e
   exact⟨.code c::c1,c2,rfl,h2,fun B R hR=>.sc h hf (h3 B R hR)⟩
 |@blk id t ct ht ih=>
  intro e
  cases pre with
  |nil=>
   simp only[List.nil_append]at e;subst e
   exact⟨[],_,rfl,.blk ht,fun B R hR=>.back hR (.blk ht)⟩
  |cons p pre=>
   simp only[List.cons_append,List.cons.injEq]at e
   obtain⟨rfl,e⟩:=e
   obtain⟨c1,c2,rfl,h2,h3⟩:=ih e
   exact⟨.blk id::c1,c2,rfl,h2,fun B R hR=>.blk (h3 B R hR)⟩
 |@scp t ct ht ih=>
  intro e
  obtain⟨c1,c2,rfl,h2,h3⟩:=ih e
  exact⟨.scp::c1,c2,rfl,h2,fun B R hR=>.scp (h3 B R hR)⟩
 |@ops l arr is t ct h hi hf ht ih=>
  intro e
  cases pre with
  |nil=>
   simp only[List.nil_append]at e;subst e
   exact⟨[],_,rfl,.ops h hi hf ht,fun B R hR=>.back hR (.ops h hi hf ht)⟩
  |cons p pre=>
   simp only[List.cons_append,List.cons.injEq]at e
   obtain⟨rfl,e⟩:=e
   obtain⟨c1,c2,rfl,h2,h3⟩:=ih e
   exact⟨.ops arr is::c1,c2,rfl,h2,fun B R hR=>.ops h hi hf (h3 B R hR)⟩
 |@back B0 R0 t ct h ht ih=>
  intro e
  cases pre with
  |nil=>
   simp only[List.nil_append]at e;subst e
   exact⟨[],_,rfl,.back h ht,fun B R hR=>.back hR (.back h ht)⟩
  |cons p pre=>
   simp only[List.cons_append,List.cons.injEq]at e
   obtain⟨rfl,e⟩:=e
   obtain⟨c1,c2,rfl,h2,h3⟩:=ih e
   exact⟨.back R0::c1,c2,rfl,h2,fun B R hR=>.back h (h3 B R hR)⟩
theorem AK.cut (B:St→Prop) (pre:List It) {todo:List It}{st:St} (h1:AK P n Φ (pre++.back B::todo) st) (h2:∀ st,B st→AK P n Φ todo st):AK P n Φ (pre++todo) st:=by
 intro N0 W0 fm ts a w ct Q hS hsim hQ
 obtain⟨c1,c2,rfl,h3,h4⟩:=hsim.stop rfl
 have:=h1 N0 W0 fm ts a w (c1++.back (fun a w=>K P Q c2 .normal a w)::c2) Q hS (h4 B _ ?_) hQ
 ·rw[Zpy]at this;exact this
 ·intro st' a' w' fm' ts' hB hS' hL
  exact h2 st' hB N0 W0 fm' ts' a' w' c2 Q hS' (h3.later hL) (fun e s x w' f t hp hs hl=>hQ e s x w' f t hp hs (hL.trans hl))
inductive Stp (S E R:Type) where
 |next (s:S)
 |brk (e:E)
 |ret (r:R)
def whl {S E R:Type} (body:S→Option (Stp S E R)):Nat→S→Option (Stp S E R)
 |0,_=>none
 |k+1,s=>match body s with
  |none=>none
  |some (.next s')=>whl body k s'
  |some (.brk s')=>some (.brk s')
  |some (.ret r)=>some (.ret r)
theorem AK.loopS {S E R:Type}{body:S→Option (Stp S E R)}{k:Nat}{s0:S}{r:Stp S E R} (hk:whl body k s0=some r) (hd:S→St) (ex:E→St) {b:SC}{id:Nat}{todo:List It}{st:St} (hw:ZaE n st (hd s0))
  (hb:∀ s x (Bk Br:St→Prop),body s=some x→(∀ s' st',x=.next s'→ZaE n st' (hd s')→Bk st')→(∀ s' st',x=.brk s'→ZaE n st' (ex s')→Br st')→(∀ v,x=.ret v→r=.ret v)→
   AK P n Φ (.sc b::.back Bk::.blk id::.back Br::todo) (hd s))
  (hx:∀ s',r=.brk s'→AK P n Φ todo (ex s')):AK P n Φ (.sc (.loop b)::.blk id::todo) st:=by
 refine AK.cut (fun st'=>∃ s',r=.brk s'∧ZaE n st' (ex s')) [.sc (.loop b),.blk id] ?_ ?_
 ·refine AK.loop (fun m st=>∃ s,st=hd s∧whl body m s=some r) k hw ⟨s0,rfl,hk⟩ ?_
  rintro m st ⟨s,rfl,hm⟩
  cases m with
  |zero=>cases hm
  |succ m=>
   simp only[whl]at hm
   cases hs:body s with
   |none=>rw[hs]at hm;cases hm
   |some x=>
    rw[hs]at hm
    refine hb s x _ _ hs ?_ ?_ ?_
    ·rintro s' st' rfl hwk
     exact⟨hd s',m,Nat.lt_succ_self m,hwk,s',rfl,hm⟩
    ·rintro s' st' rfl hwk
     exact⟨s',(oi hm).symm,hwk⟩
    ·rintro v rfl
     exact(oi hm).symm
 ·rintro st' ⟨s',hr,hwk⟩
  exact AK.weak hwk (hx s' hr)
end
section
variable [Md]
inductive NL:AV→AV→Prop
 |refl (x:AV):NL x x
 |nil (e:Nat):NL .nil (.sl e [])
 |agg (cs ys:List AV) (h1:cs.length=ys.length) (h2:∀ (i:Nat) x y,cs[i]?=some x→ys[i]?=some y→NL x y):NL (.agg cs) (.agg ys)
 |tup (cs ys:List AV) (h1:cs.length=ys.length) (h2:∀ (i:Nat) x y,cs[i]?=some x→ys[i]?=some y→NL x y):NL (.tup cs) (.tup ys)
 |sl (e:Nat) (es fs:List (List AV)) (h1:es.length=fs.length) (h2:∀ (i:Nat) c d,es[i]?=some c→fs[i]?=some d→c.length=d.length)
   (h3:∀ (i:Nat) c d (o:Nat) x y,es[i]?=some c→fs[i]?=some d→c[o]?=some x→d[o]?=some y→NL x y):NL (.sl e es) (.sl e fs)
def NLs (cs ys:List AV):Prop:=cs.length=ys.length∧∀ (i:Nat) x y,cs[i]?=some x→ys[i]?=some y→NL x y
def Zex (es fs:List (List AV)):Prop:=es.length=fs.length∧∀ (i:Nat) c d,es[i]?=some c→fs[i]?=some d→NLs c d
theorem NLs.nil:NLs [] []:=⟨rfl,fun i x y h=>by simp at h⟩
theorem NLs.cons {x y:AV}{l m:List AV} (h:NL x y) (hs:NLs l m):NLs (x::l) (y::m):=by
 refine⟨by simp[hs.1],?_⟩
 intro i a b ha hb
 cases i with
 |zero=>simp at ha hb;subst ha hb;exact h
 |succ i=>simp at ha hb;exact hs.2 i a b ha hb
theorem NLs.refl (l:List AV):NLs l l:=⟨rfl,fun i x y a b=>by rw[a]at b;cases b;exact .refl _⟩
theorem Zex.nil:Zex [] []:=⟨rfl,fun i x y h=>by simp at h⟩
theorem Zex.cons {x y:List AV}{l m:List (List AV)} (h:NLs x y) (hs:Zex l m):Zex (x::l) (y::m):=by
 refine⟨by simp[hs.1],?_⟩
 intro i a b ha hb
 cases i with
 |zero=>simp at ha hb;subst ha hb;exact h
 |succ i=>simp at ha hb;exact hs.2 i a b ha hb
theorem Zex.refl (l:List (List AV)):Zex l l:=⟨rfl,fun i x y a b=>by rw[a]at b;cases b;exact .refl _⟩
theorem Zex.append {a b c d:List (List AV)} (h:Zex a b) (k:Zex c d):Zex (a++c) (b++d):=by
 refine⟨by simp[h.1,k.1],?_⟩
 intro i x y hx hy
 by_cases hi:i<a.length
 ·rw[List.getElem?_append_left hi]at hx
  rw[List.getElem?_append_left (by rw[←h.1];exact hi)]at hy
  exact h.2 i x y hx hy
 ·rw[List.getElem?_append_right (by omega)]at hx
  rw[List.getElem?_append_right (by rw[←h.1];omega)]at hy
  rw[←h.1]at hy
  exact k.2 _ x y hx hy
theorem NL.aggs {cs ys:List AV} (h:NLs cs ys):NL (.agg cs) (.agg ys):=.agg _ _ h.1 h.2
theorem NL.tups {cs ys:List AV} (h:NLs cs ys):NL (.tup cs) (.tup ys):=.tup _ _ h.1 h.2
theorem NL.sls {e:Nat}{es fs:List (List AV)} (h:Zex es fs):NL (.sl e es) (.sl e fs):=.sl _ _ _ h.1 (fun i c d a b=>(h.2 i c d a b).1) (fun i c d o x y a b p q=>(h.2 i c d a b).2 o x y p q)
theorem NL.flat {x y:AV} (h:NL x y):y.flat=x.flat:=by
 cases h<;>rfl
theorem NL.ok {x y:AV} (h:NL x y):∀ {fm:FM}{ts:List Tie}{v:Value},VR fm ts x v→VR fm ts y v:=by
 induction h with
 |refl x=>intro fm ts v hv;exact hv
 |nil e=>intro fm ts v hv;cases hv;exact .slNil _ _ _
 |agg cs ys h1 h2 ih=>
  intro fm ts v hv
  cases hv with
  |agg _ vs k1 k2 k3=>
   have hy:∀ (i:Nat) y,ys[i]?=some y→∃ x,cs[i]?=some x:=fun i y hy=>⟨_,gG (by rw[h1];exact(gS.1 hy).1)⟩
   refine .agg _ vs (by rw[←h1];exact k1) ?_ ?_
   ·intro y hm
    obtain⟨i,hi⟩:=List.mem_iff_getElem?.1 hm
    obtain⟨x,hx⟩:=hy i y hi
    rw[(h2 i x y hx hi).flat];exact k2 x (List.mem_of_getElem? hx)
   ·intro i y u hi hu
    obtain⟨x,hx⟩:=hy i y hi
    exact ih i x y hx hi (k3 i x u hx hu)
 |tup cs ys h1 h2 ih=>
  intro fm ts v hv
  cases hv with
  |tup _ vs k1 k3=>
   refine .tup _ vs (by rw[←h1];exact k1) ?_
   intro i y u hi hu
   have hx:∃ x,cs[i]?=some x:=⟨_,gG (by rw[h1];exact(gS.1 hi).1)⟩
   obtain⟨x,hx⟩:=hx
   exact ih i x y hx hi (k3 i x u hx hu)
 |sl e es fs h1 h2 h3 ih=>
  intro fm ts v hv
  have hc:∀ (i:Nat) d,fs[i]?=some d→∃ c,es[i]?=some c∧c.length=d.length:=fun i d hd=>by
   have hlt:i<es.length:=by rw[h1];exact(gS.1 hd).1
   exact⟨_,gG hlt,h2 i _ d (gG hlt) hd⟩
  have hx:∀ (i:Nat) d (o:Nat) y,fs[i]?=some d→d[o]?=some y→∃ c x,es[i]?=some c∧c[o]?=some x:=fun i d o y hd hy=>by
   obtain⟨c,hc1,hc2⟩:=hc i d hd
   exact⟨c,_,hc1,gG (by rw[hc2];exact(gS.1 hy).1)⟩
  cases hv with
  |slNil _ a cap=>
   have:fs=[]:=List.eq_nil_of_length_eq_zero (by simpa using h1.symm)
   subst this
   exact .slNil _ _ _
  |sl _ cb off _ cap u hcap k1 k2 k3 k4=>
   have:=VR.sl (fm:=fm) (ts:=ts) fs cb off e cap u (by rw[←h1];exact hcap)
    (fun d hd=>by
     obtain⟨i,hi⟩:=List.mem_iff_getElem?.1 hd
     obtain⟨c,hc1,hc2⟩:=hc i d hi
     rw[←hc2];exact k1 c (List.mem_of_getElem? hc1))
    (fun i d o y hd hy=>by obtain⟨c,x,a,b⟩:=hx i d o y hd hy;exact k2 i c o x a b)
    (fun i d o y hd hy=>by obtain⟨c,x,a,b⟩:=hx i d o y hd hy;rw[(h3 i c d o x y a hd b hy).flat];exact k3 i c o x a b)
    (fun i d o y hd hy=>by obtain⟨c,x,a,b⟩:=hx i d o y hd hy;exact ih i c d o x y a hd b hy (k4 i c o x a b))
   rw[←h1]at this
   exact this
theorem NLs.ok {cs ys:List AV} (h:NLs cs ys) {fm:FM}{ts:List Tie}{vs:List Value} (hv:VRs fm ts cs vs):VRs fm ts ys vs:=by
 refine⟨h.1.symm.trans hv.1,?_⟩
 intro i y v hy hv'
 have hx:∃ x,cs[i]?=some x:=⟨_,gG (by rw[h.1];exact(gS.1 hy).1)⟩
 obtain⟨x,hx⟩:=hx
 exact(h.2 i x y hx hy).ok (hv.2 i x v hx hv')
inductive NLB:Blk→Blk→Prop
 |box (cs ys:List AV) (h:NLs cs ys):NLB (.box cs) (.box ys)
 |arr (et esz:Nat) (es fs:List (List AV)) (h:Zex es fs):NLB (.arr et esz es) (.arr et esz fs)
theorem NLB.refl:∀ b:Blk,NLB b b
 |.box _=>.box _ _ (.refl _)
 |.arr _ _ _=>.arr _ _ _ _ (.refl _)
inductive NLT:List (Nat×AV)→List (Nat×AV)→Prop
 |nil:NLT [] []
 |cons (t:Nat) (x y:AV) (l m:List (Nat×AV)) (h:NL x y) (hs:NLT l m):NLT ((t,x)::l) ((t,y)::m)
inductive NLF:Fra→Fra→Prop
 |nil:NLF [] []
 |cons (k:Nat) (x y:Blk) (l m:Fra) (h:NLB x y) (hs:NLF l m):NLF ((k,x)::l) ((k,y)::m)
theorem NLT.refl:∀ l:List (Nat×AV),NLT l l
 |[]=>.nil
 |(t,x)::l=>.cons t x x l l (.refl _) (NLT.refl l)
theorem NLF.refl:∀ l:Fra,NLF l l
 |[]=>.nil
 |(t,x)::l=>.cons t x x l l (.refl _) (NLF.refl l)
theorem NLT.look {l m:List (Nat×AV)} (h:NLT l m):∀ t y,look m t=some y→∃ x,look l t=some x∧NL x y:=by
 induction h with
 |nil=>intro t y h;simp[Abs.look]at h
 |cons t0 x y l m h hs ih=>
  intro t z hz
  simp only[Abs.look]at hz ⊢
  split
  ·rename_i e;rw[if_pos e]at hz;cases hz;exact⟨_,rfl,h⟩
  ·rename_i e;rw[if_neg e]at hz;exact ih t z hz
theorem NLF.look {l m:Fra} (h:NLF l m):∀ k b,look m k=some b→∃ b0,look l k=some b0∧NLB b0 b:=by
 induction h with
 |nil=>intro t y h;simp[Abs.look]at h
 |cons t0 x y l m h hs ih=>
  intro t z hz
  simp only[Abs.look]at hz ⊢
  split
  ·rename_i e;rw[if_pos e]at hz;cases hz;exact⟨_,rfl,h⟩
  ·rename_i e;rw[if_neg e]at hz;exact ih t z hz
theorem NLB.ok {fm:FM}{ts:List Tie}{w:World}{N0:Nat}{t:Option TB}{b b':Blk} (h:BR fm ts w N0 t b) (hn:NLB b b'):BR fm ts w N0 t b':=by
 cases hn with
 |box cs ys hn=>
  cases h with
  |box c _ hN h=>
   obtain⟨cells,et,c1,c2,c3⟩:=h
   refine .box c _ hN ⟨cells,et,c1,c2.trans hn.1,?_⟩
   intro o y v hy hv
   obtain⟨x,hx⟩:∃ x,cs[o]?=some x:=⟨_,gG (by rw[hn.1];exact(gS.1 hy).1)⟩
   have hxy:=hn.2 o x y hx hy
   exact⟨by rw[hxy.flat];exact(c3 o x v hx hv).1,hxy.ok (c3 o x v hx hv).2⟩
 |arr et esz es fs hn=>
  have hc:∀ (i:Nat) d,fs[i]?=some d→∃ c,es[i]?=some c∧NLs c d:=fun i d hd=>by
   have hlt:i<es.length:=by rw[hn.1];exact(gS.1 hd).1
   exact⟨_,gG hlt,hn.2 i _ d (gG hlt) hd⟩
  cases h with
  |nil=>
   have:fs=[]:=List.eq_nil_of_length_eq_zero (by simpa using hn.1.symm)
   subst this
   exact .nil _ _
  |arr _ _ _ c cap hN h=>
   obtain⟨cells,c1,c2,c3,c4,c5,c6,c7⟩:=h
   rw[hn.1]
   refine .arr et esz fs c cap hN ⟨cells,c1,c2,by rw[←hn.1];exact c3,c4,?_,c6,?_⟩
   ·intro d hd
    obtain⟨i,hi⟩:=List.mem_iff_getElem?.1 hd
    obtain⟨c,hc1,hc2⟩:=hc i d hi
    rw[←hc2.1];exact c5 c (List.mem_of_getElem? hc1)
   ·intro i d o y v hd hy hv
    obtain⟨c',hc1,hc2⟩:=hc i d hd
    obtain⟨x,hx⟩:∃ x,c'[o]?=some x:=⟨_,gG (by rw[hc2.1];exact(gS.1 hy).1)⟩
    have hxy:=hc2.2 o x y hx hy
    have:=c7 i c' o x v hc1 hx hv
    exact⟨by rw[hxy.flat];exact this.1,hxy.ok this.2⟩
theorem ZaE.nl {n:Nat}{tm tm':List (Nat×AV)}{fr fr':Fra}{low:Zar}{nx nt:Nat} (h1:NLT tm tm') (h2:NLF fr fr'):ZaE n ⟨tm,fr,low,nx,nt⟩ ⟨tm',fr',low,nx,nt⟩:=by
 intro N0 W0 a w fm ts h
 have src:∀ l k b,Zar.get (fr'::low) l k=some b→∃ b0,Zar.get (fr::low) l k=some b0∧NLB b0 b:=by
  intro l k b hg
  cases l with
  |zero=>exact h2.look k b hg
  |succ l=>exact⟨b,hg,.refl b⟩
 refine⟨fm,ts,⟨⟨by simpa using h.hr.len,?_,?_,h.hr.fms,?_,h.hr.bel,h.hr.size,h.hr.oth⟩,?_,h.nx,h.size,h.dfr⟩,Later.refl _ _⟩
 ·intro l k b hg
  obtain⟨b0,hg0,hn⟩:=src l k b hg
  exact hn.ok (h.hr.blk l k b0 hg0)
 ·intro l k l' k' b b' c hg hg'
  obtain⟨b0,hg0,_⟩:=src l k b hg
  obtain⟨b1,hg1,_⟩:=src l' k' b' hg'
  exact h.hr.inj l k l' k' b0 b1 c hg0 hg1
 ·intro l k b c o hg
  obtain⟨b0,hg0,_⟩:=src l k b hg
  exact h.hr.fmd l k b0 c o hg0
 ·intro t y hy
  obtain⟨x,hx,hn⟩:=h1.look t y hy
  obtain⟨v,h3,h4⟩:=h.tm t x hx
  exact⟨v,h3,hn.ok h4⟩
end
end Go.Abs
namespace Go.Abs
open Go Go.RowKit
set_option linter.unusedSectionVars false
def ZfV:Operand→List Nat
 |.tmp t=>[t]
 |_=>[]
def Zmk:List Operand→List Nat
 |[]=>[]
 |x::l=>ZfV x++Zmk l
def ZtD:List (Nat×Operand)→List Nat
 |[]=>[]
 |(_,x)::l=>ZfV x++ZtD l
def Zr4:Option Operand→List Nat
 |some x=>ZfV x
 |none=>[]
def ZaV:Op→List Nat
 |.move x=>ZfV x
 |.assign x=>ZfV x
 |.pick c a b=>ZfV c++(ZfV a++ZfV b)
 |.alloc _=>[]
 |.box _ x=>ZfV x
 |.build _ ps=>ZtD ps.toList
 |.buildSlice _ _ ps=>ZtD ps.toList
 |.load _ a=>ZfV a
 |.store _ a x=>ZfV a++ZfV x
 |.nilCheck x=>ZfV x
 |.binOp _ _ x y _=>ZfV x++ZfV y
 |.unOp _ _ x=>ZfV x
 |.convert _ _ x=>ZfV x
 |.makeFunc _ a b=>Zmk a.toList++Zmk b.toList
 |.makeSlice _ l c=>ZfV l++ZfV c
 |.slice _ x lo hi mx=>ZfV x++(Zr4 lo++(Zr4 hi++Zr4 mx))
 |.fieldAddr _ x _=>ZfV x
 |.field _ x _=>ZfV x
 |.indexAddr _ x i=>ZfV x++ZfV i
 |.index _ x i=>ZfV x++ZfV i
 |.extract x _=>ZfV x
 |.sliceToArrayPointer _ x=>ZfV x
 |.makeInterface _ x=>ZfV x
 |.call c=>(match c.callee with
  |.value f=>ZfV f
  |_=>[])++Zmk c.args.toList
 |_=>[]
def ZtY (o:SOp):List Nat:=(match o.guard with
 |some (g,_)=>[g]
 |none=>[])++ZaV o.op
def ZnF:Op→Bool
 |.move _|.assign _|.pick ..|.alloc _|.box ..|.build ..|.nilCheck _|.binOp ..|.unOp ..|.makeFunc ..|.makeSlice ..|.fieldAddr ..|.field ..|.indexAddr ..|.index ..|.extract ..|.sliceToArrayPointer ..|.makeInterface ..=>false
 |.call c=>match c.callee with
  |.builtin .len|.builtin .max|.builtin .min=>false
  |_=>true
 |_=>true
section
variable {tm tm':Tm}
theorem Zg8 {x:Operand} (h:∀ t∈ZfV x,tm t=tm' t):opv tm x=opv tm' x:=by
 cases x<;>simp only[opv]
 exact h _ (by simp[ZfV])
theorem Zem:∀ (l:List Operand),(∀ t∈Zmk l,tm t=tm' t)→Zl6 tm l=Zl6 tm' l
 |[],_=>rfl
 |x::l,h=>by
  simp only[Zl6]
  rw[Zg8 (fun t ht=>h t (by simp only[Zmk,List.mem_append];exact .inl ht)),Zem l (fun t ht=>h t (by simp only[Zmk,List.mem_append];exact .inr ht))]
theorem Ze0:∀ (l:List (Nat×Operand)),(∀ t∈ZtD l,tm t=tm' t)→ZcH tm l=ZcH tm' l
 |[],_=>rfl
 |(i,x)::l,h=>by
  simp only[ZcH]
  rw[Zg8 (fun t ht=>h t (by simp only[ZtD,List.mem_append];exact .inl ht)),Ze0 l (fun t ht=>h t (by simp only[ZtD,List.mem_append];exact .inr ht))]
theorem Zjy {T:Tys}{kb:Nat}{G G':Get}{o:Op}{ty:TypeId} (h:∀ t∈ZaV o,tm t=tm' t) (hG:ZnF o=true→G=G'):ZcW T kb o ty tm G=ZcW T kb o ty tm' G':=by
 have e:∀ x:Operand,(∀ t∈ZfV x,t∈ZaV o)→opv tm x=opv tm' x:=fun x hx=>Zg8 fun t ht=>h t (hx t ht)
 cases o with
 |move x=>simp only[ZcW,e x (fun t ht=>by simpa [ZaV] using ht)]
 |assign x=>simp only[ZcW,e x (fun t ht=>by simpa [ZaV] using ht)]
 |pick c a b=>simp only[ZcW,e c (fun t ht=>by simp[ZaV,ht]),e a (fun t ht=>by simp[ZaV,ht]),e b (fun t ht=>by simp[ZaV,ht])]
 |alloc t=>simp only[ZcW]
 |box t x=>simp only[ZcW,e x (fun t ht=>by simpa [ZaV] using ht)]
 |build t ps=>simp only[ZcW,Ze0 ps.toList (fun t ht=>h t (by simpa [ZaV] using ht))]
 |buildSlice t n ps=>obtain rfl:=hG rfl;simp only[ZcW,Ze0 ps.toList (fun t ht=>h t (by simpa [ZaV] using ht))]
 |load t a=>obtain rfl:=hG rfl;simp only[ZcW,e a (fun t ht=>by simpa [ZaV] using ht)]
 |store t a x=>obtain rfl:=hG rfl;simp only[ZcW,e a (fun t ht=>by simp[ZaV,ht]),e x (fun t ht=>by simp[ZaV,ht])]
 |nilCheck x=>simp only[ZcW,e x (fun t ht=>by simpa [ZaV] using ht)]
 |binOp op t x y t'=>simp only[ZcW,e x (fun t ht=>by simp[ZaV,ht]),e y (fun t ht=>by simp[ZaV,ht])]
 |unOp op t x=>simp only[ZcW,e x (fun t ht=>by simpa [ZaV] using ht)]
 |convert s d x=>obtain rfl:=hG rfl;simp only[ZcW,e x (fun t ht=>by simpa [ZaV] using ht)]
 |makeFunc f a b=>simp only[ZcW,Zem a.toList (fun t ht=>h t (by simp only[ZaV,List.mem_append];exact .inl ht)),Zem b.toList (fun t ht=>h t (by simp only[ZaV,List.mem_append];exact .inr ht))]
 |makeSlice t l c=>simp only[ZcW,e l (fun t ht=>by simp[ZaV,ht]),e c (fun t ht=>by simp[ZaV,ht])]
 |slice t x lo hi mx=>
  obtain rfl:=hG rfl
  have ex:=e x (fun t ht=>by simp[ZaV,ht])
  cases lo with
  |none=>
   cases hi with
   |none=>cases mx<;>simp only[ZcW,ex]
   |some hi=>
    have eh:=e hi (fun t ht=>by simp[ZaV,Zr4,ht])
    cases mx with
    |none=>simp only[ZcW,ex,eh]
    |some mx=>simp only[ZcW,ex,eh,e mx (fun t ht=>by simp[ZaV,Zr4,ht])]
  |some lo=>
   have el:=e lo (fun t ht=>by simp[ZaV,Zr4,ht])
   cases hi with
   |none=>cases mx<;>simp only[ZcW,ex,el]
   |some hi=>
    have eh:=e hi (fun t ht=>by simp[ZaV,Zr4,ht])
    cases mx with
    |none=>simp only[ZcW,ex,eh,el]
    |some mx=>simp only[ZcW,ex,eh,el,e mx (fun t ht=>by simp[ZaV,Zr4,ht])]
 |fieldAddr t x f=>simp only[ZcW,e x (fun t ht=>by simpa [ZaV] using ht)]
 |field t x f=>simp only[ZcW,e x (fun t ht=>by simpa [ZaV] using ht)]
 |indexAddr t x i=>simp only[ZcW,e x (fun t ht=>by simp[ZaV,ht]),e i (fun t ht=>by simp[ZaV,ht])]
 |index t x i=>simp only[ZcW,e x (fun t ht=>by simp[ZaV,ht]),e i (fun t ht=>by simp[ZaV,ht])]
 |extract x i=>simp only[ZcW,e x (fun t ht=>by simpa [ZaV] using ht)]
 |sliceToArrayPointer t x=>simp only[ZcW,e x (fun t ht=>by simpa [ZaV] using ht)]
 |makeInterface t x=>simp only[ZcW,e x (fun t ht=>by simpa [ZaV] using ht)]
 |call c=>
  obtain⟨callee,args,ats⟩:=c
  cases callee with
  |builtin b=>
   have ea:=Zem args.toList (fun t ht=>h t (by simp only[ZaV,List.mem_append];exact .inr ht))
   cases b with
   |len=>simp only[ZcW,ea,ZcP]
   |max=>simp only[ZcW,ea,ZcP]
   |min=>simp only[ZcW,ea,ZcP]
   |_=>obtain rfl:=hG rfl;simp only[ZcW,ea]
  |_=>rfl
 |_=>rfl
theorem Zft {c:Call} (h:∀ t∈ZaV (.call c),tm t=tm' t):callee tm c=callee tm' c:=by
 obtain⟨cal,args,ats⟩:=c
 have ea:=Zem args.toList (fun t ht=>h t (by simp only[ZaV,List.mem_append];exact .inr ht))
 cases cal with
 |value f=>
  have ef:opv tm f=opv tm' f:=Zg8 fun t ht=>h t (by simp only[ZaV,List.mem_append];exact .inl ht)
  simp only[callee,ef,ea]
 |_=>rfl
end
def Zgh:AV→List (Nat×Nat)
 |.ptr l k _=>[(l,k)]
 |.eptr l k _ _ _ _=>[(l,k)]
 |.loc l k _ _ _ _=>[(l,k)]
 |.inn l k _ _ _=>[(l,k)]
 |x=>x.refs
def ZlY:List AV→List (Nat×Nat)
 |[]=>[]
 |x::l=>Zgh x++ZlY l
def ZmN:AV→Option (List (Nat×Nat))
 |.ptr l k _=>if l=0 then some [(0,k)] else none
 |_=>none
def Zm5 (tm:Tm):Op→Option (List (Nat×Nat))
 |.store _ a _=>(opv tm a).bind ZmN
 |.load _ a=>(opv tm a).map Zgh
 |.buildSlice _ _ ps=>(ZcH tm ps.toList).map ZbG
 |.slice _ x _ _ _=>(opv tm x).map Zgh
 |.convert _ _ x=>(opv tm x).map Zgh
 |.call c=>match c.callee with
  |.builtin .append=>(Zl6 tm c.args.toList).map ZlY
  |.builtin .len|.builtin .max|.builtin .min=>some []
  |_=>none
 |o=>if ZnF o then none else some []
theorem Zd1 {G:Get}{ks:List (Nat×Nat)}{l k:Nat} (h:(l,k)∈ks):only G ks l k=G l k:=by
 unfold only;rw[if_pos (by simpa using h)]
mutual
theorem frz_only {G:Get}{ks:List (Nat×Nat)}:∀ (x y:AV),x.frz G=some y→(∀ p∈x.refs,p∈ks)→x.frz (only G ks)=some y
 |.loc l k e i n g,y,h,hk=>by
  simp only[AV.frz]at h ⊢
  rw[Zd1 (hk (l,k) (by simp[AV.refs]))];exact h
 |.nil,y,h,_=>by simpa [AV.frz] using h
 |.ifc t v,y,h,hk=>by
  simp only[AV.frz,mS]at h ⊢
  obtain⟨a,h1,h2⟩:=h
  exact⟨a,frz_only v a h1 (by simpa only [AV.refs] using hk),h2⟩
 |.agg cs,y,h,hk=>by
  simp only[AV.frz,mS]at h ⊢
  obtain⟨a,h1,h2⟩:=h
  exact⟨a,frzL_only cs a h1 (by simpa only [AV.refs] using hk),h2⟩
 |.tup vs,y,h,hk=>by
  simp only[AV.frz,mS]at h ⊢
  obtain⟨a,h1,h2⟩:=h
  exact⟨a,frzL_only vs a h1 (by simpa only [AV.refs] using hk),h2⟩
 |.bool b,y,h,_=>by simpa [AV.frz] using h
 |.int k n,y,h,_=>by simpa [AV.frz] using h
 |.str s,y,h,_=>by simpa [AV.frz] using h
 |.sl e es,y,h,_=>by simpa [AV.frz] using h
 |.pnil,y,h,_=>by simpa [AV.frz] using h
 |.fnil,y,h,_=>by simpa [AV.frz] using h
 |.inil,y,h,_=>by simpa [AV.frz] using h
 |.fn f a b,y,h,hk=>by
  simp only[AV.frz]at h ⊢
  split at h
  ·rename_i x z hx hz
   obtain rfl:=oi h
   simp only[AV.refs,List.mem_append]at hk
   simp only[frzL_only a x hx (fun p hp=>hk p (.inl hp)),frzL_only b z hz (fun p hp=>hk p (.inr hp))]
  ·cases h
 |.inn ..,y,h,_=>by simp[AV.frz]at h
 |.ptr ..,y,h,_=>by simp[AV.frz]at h
 |.eptr ..,y,h,_=>by simp[AV.frz]at h
 |.rptr ..,y,h,_=>by simpa [AV.frz] using h
 |.dead,y,h,_=>by simp[AV.frz]at h
theorem frzL_only {G:Get}{ks:List (Nat×Nat)}:∀ (l ys:List AV),AV.frzL G l=some ys→(∀ p∈AV.refsL l,p∈ks)→AV.frzL (only G ks) l=some ys
 |[],ys,h,_=>by simpa [AV.frzL] using h
 |x::l,ys,h,hk=>by
  simp only[AV.frzL]at h ⊢
  simp only[AV.refsL,List.mem_append]at hk
  split at h
  ·rename_i a b ha hb
   obtain rfl:=oi h
   simp only[frz_only x a ha (fun p hp=>hk p (.inl hp)),frzL_only l b hb (fun p hp=>hk p (.inr hp))]
  ·cases h
end
theorem ZeU {G:Get}{ks:List (Nat×Nat)}:∀ (l:List (Nat×AV)) (cs:List (Nat×List AV)),Zbg G l=some cs→(∀ p∈ZbG l,p∈ks)→Zbg (only G ks) l=some cs
 |[],cs,h,_=>by simpa [Zbg] using h
 |(i,v)::l,cs,h,hk=>by
  simp only[Zbg]at h ⊢
  simp only[ZbG,List.mem_append]at hk
  split at h
  ·rename_i vc hvc
   split at h
   ·rename_i a b ha hb
    have hrefs:AV.refsL vc=v.refs:=by
     cases v<;>simp only[AV.cells,oE]at hvc<;>first|(subst hvc;simp[AV.refsL,AV.refs];done)|(cases hvc)
    rw[frzL_only vc a ha (fun p hp=>hk p (.inl (by rw[←hrefs];exact hp))),ZeU l b hb (fun p hp=>hk p (.inr hp))]
    exact h
   ·cases h
  ·cases h
theorem ZhD {G:Get}{ks:List (Nat×Nat)}{sz:Nat}{x:AV} (hk:∀ p∈Zgh x,p∈ks):ZbX (only G ks) sz x=ZbX G sz x:=by
 cases x with
 |loc l k e i n g=>simp only[ZbX];rw[Zd1 (hk (l,k) (by simp[Zgh]))]
 |inn l k e o n=>simp only[ZbX];rw[Zd1 (hk (l,k) (by simp[Zgh]))]
 |_=>rfl
theorem Zs0 {T:Tys}{kb:Nat}{tm:Tm}{G:Get}{o:Op}{ty:TypeId}{d:De}{ks:List (Nat×Nat)} (h:ZcW T kb o ty tm G=some d) (hr:Zm5 tm o=some ks):ZcW T kb o ty tm (only G ks)=some d:=by
 have other:ZnF o=false→ZcW T kb o ty tm (only G ks)=some d:=fun hh=>by rw[←h];exact Zjy (fun _ _=>rfl) (fun e=>by rw[hh]at e;cases e)
 have dflt:(if ZnF o=true then none else some [])=some ks→ZcW T kb o ty tm (only G ks)=some d:=by
  intro e
  cases hh:ZnF o with
  |true=>rw[hh]at e;simp at e
  |false=>exact other hh
 cases o with
 |load t a=>
  simp only[Zm5,mS]at hr
  obtain⟨x,hx,rfl⟩:=hr
  simp only[ZcW,hx]at h ⊢
  split at h
  ·rename_i ti x' ht hx'
   obtain rfl:=oi hx'
   rw[←h]
   congr 1
   unfold Zgb
   congr 1
   cases x<;>simp only[cellsAt,Zgh]<;>rw[Zd1 (by simp)]
  ·cases h
 |store t a x=>
  simp only[Zm5,Option.bind_eq_some_iff]at hr
  obtain⟨y,hy,hr⟩:=hr
  cases y with
  |ptr l k o=>
   simp only[ZmN]at hr
   split at hr
   ·rename_i hl
    subst hl
    obtain rfl:=oi hr
    rw[←h]
    simp only[ZcW,hy]
    cases T t with
    |none=>rfl
    |some ti=>
     cases opv tm x with
     |none=>rfl
     |some xv=>
      simp only
      cases xv.cells with
      |none=>rfl
      |some cs=>
       simp only[ZfD]
       rw[Zd1 (by simp)]
       split
       ·split
        ·split
         ·rfl
         ·rfl
        ·rfl
       ·rfl
   ·cases hr
  |_=>simp[ZmN]at hr
 |buildSlice t n ps=>
  simp only[Zm5,mS]at hr
  obtain⟨x,hx,rfl⟩:=hr
  simp only[ZcW,hx]at h ⊢
  split at h
  ·rename_i ti x' ht hx'
   obtain rfl:=oi hx'
   unfold ZbM at h ⊢
   split at h
   ·split at h
    ·rename_i hc
     simp only[hc,and_self,if_true]
     split at h
     ·rename_i cs hcs
      rw[ZeU _ _ hcs (fun _ h=>h)]
      exact h
     ·cases h
    ·cases h
   ·cases h
  ·cases h
 |convert s d x=>
  simp only[Zm5,mS]at hr
  obtain⟨x1,hx,rfl⟩:=hr
  have hcv:∀ si di:TI,ZgB T (only G (Zgh x1)) si di x1=ZgB T G si di x1:=by
   intro si di
   unfold ZgB
   rw[ZhD (x:=x1) (fun p hp=>hp)]
  rw[←h]
  simp only[ZcW,hx]
  cases T s with
  |none=>rfl
  |some si=>cases T d with
   |none=>rfl
   |some di=>simp only[hcv]
 |slice t x lo hi mx=>
  simp only[Zm5,mS]at hr
  obtain⟨x1,hx,rfl⟩:=hr
  have hbe:∀ (ti:TI) (lo hi:AV),Zde (only G (Zgh x1)) ti x1 lo hi=Zde G ti x1 lo hi:=by
   intro ti lo hi
   cases x1 with
   |loc l k e i n g=>simp only[Zde];rw[Zd1 (by simp[Zgh])]
   |_=>rfl
  rw[←h]
  cases mx with
  |some mx=>cases lo<;>cases hi<;>rfl
  |none=>
   cases lo with
   |none=>cases hi<;>rfl
   |some lo=>
    cases hi with
    |none=>rfl
    |some hi=>
     simp only[ZcW,hx]
     cases T t with
     |none=>rfl
     |some ti=>
      simp only
      split
      ·rw[hbe]
      ·rfl
 |call c=>
  obtain⟨cal,args,ats⟩:=c
  cases cal with
  |builtin b=>
   cases b with
   |append=>
    simp only[Zm5,mS]at hr
    obtain⟨xs,hx,rfl⟩:=hr
    simp only[ZcW,hx]at h ⊢
    rw[←h]
    unfold ZcP
    split
    ·rfl
    ·split
     ·rfl
     ·simp only
      split
      ·rename_i xs0 s x
       split
       ·unfold ZbQ
        split
        ·rw[ZhD (x:=x) (by intro p hp;simp[ZlY,hp])]
         split
         ·cases s with
          |loc l k e i n g=>simp only;rw[Zd1 (by simp[ZlY,Zgh])]
          |_=>rfl
         ·rfl
        ·rfl
       ·unfold Zf2
        split
        ·split
         ·split
          ·split
           ·unfold ZbQ
            split
            ·simp only[ZbX]
             split
             ·cases s with
              |loc l k e i n g=>simp only;rw[Zd1 (by simp[ZlY,Zgh])]
              |_=>rfl
             ·rfl
            ·rfl
           ·rfl
          ·rfl
         ·rfl
        ·split
         ·split
          ·unfold Zek
           split
           ·unfold ZbQ
            split
            ·simp only[ZbX]
             split
             ·cases s with
              |loc l k e i n g=>simp only;rw[Zd1 (by simp[ZlY,Zgh])]
              |_=>rfl
             ·rfl
            ·rfl
           ·rfl
          ·rfl
         ·rfl
        ·rfl
      ·rfl
   |len=>exact other rfl
   |max=>exact other rfl
   |min=>exact other rfl
   |_=>simp[Zm5]at hr
  |_=>simp[Zm5]at hr
 |_=>exact dflt hr
def ZcD:St→List SOp→List De→Nat→St
 |st,o::os,d::ds,i+1=>ZcD (st.by o.dst [] d) os ds i
 |st,_,_,_=>st
theorem ZfH (st:St) (ops:List SOp) (ds:List De):ZcD st ops ds 0=st:=by
 cases ops<;>cases ds<;>rfl
theorem ZmD (st:St) (ops:List SOp) (ds:List De) (hl:ds.length=ops.length):∀ i,i≤ops.length→
  (ZcD st ops ds i).fr::(ZcD st ops ds i).low=Zar.puts (st.fr::st.low) (ZaI ds (List.range i))∧(ZcD st ops ds i).nx=st.nx+16*i∧(ZcD st ops ds i).nt=st.nt∧
  (ZcD st ops ds i).tm=ZeV ops ds (List.range i) st.tm:=by
 have key:∀ (ops:List SOp) (ds:List De) (st:St),ds.length=ops.length→∀ i o d,i<ops.length→ops[i]?=some o→ds[i]?=some d→ZcD st ops ds (i+1)=(ZcD st ops ds i).by o.dst [] d:=by
  intro ops
  induction ops with
  |nil=>intro ds st hl i o d hi;simp at hi
  |cons o' os ih=>
   intro ds st hl i o d hi ho hd
   cases ds with
   |nil=>simp at hl
   |cons d' ds=>
    cases i with
    |zero=>simp at ho hd;subst ho hd;simp[ZcD,ZfH]
    |succ i=>
     simp only[List.getElem?_cons_succ]at ho hd
     simp only[ZcD]
     exact ih ds _ (by simpa using hl) i o d (by simpa using hi) ho hd
 intro i
 induction i with
 |zero=>intro _;simp[ZfH,ZaI,Zar.puts,ZeV]
 |succ i ih=>
  intro hi
  obtain⟨h1,h2,h3,h4⟩:=ih (by omega)
  have ho:ops[i]?=some ops[i]:=gG (by omega)
  have hd:ds[i]?=some ds[i]:=gG (by omega)
  have hk:=key ops ds st hl i _ _ (by omega) ho hd
  obtain⟨f',H',hp⟩:=Zf7 (ZcD st ops ds i).fr (ZcD st ops ds i).low (ds[i]).sets
  have hb:ZcD st ops ds (i+1)={ ZcD st ops ds i with tm:=ZhL (ZcD st ops ds i).tm (ops[i]).dst (ds[i]).val,nx:=(ZcD st ops ds i).nx+16,fr:=f',low:=H' }:=by
   rw[hk];unfold St.by;rw[hp];rfl
  have es:∀ (l:List Nat) (m:List Nat),ZaI ds (l++m)=ZaI ds l++ZaI ds m:=by
   intro l m;induction l with
   |nil=>rfl
   |cons a l ih=>simp[ZaI,ih]
  have et:∀ (l:List Nat) (j:Nat) (tm:List (Nat×AV)),ZeV ops ds (l++[j]) tm=(match ds[j]? with|some d=>ZhL (ZeV ops ds l tm) (ZbJ ops j) d.val|none=>ZeV ops ds l tm):=by
   intro l;induction l with
   |nil=>intro j tm;rfl
   |cons a l ih=>intro j tm;simp only[List.cons_append,ZeV,ih]
  rw[hb]
  refine⟨?_,by simp only[h2];omega,h3,?_⟩
  ·simp only
   rw[List.range_succ,es,Zar.puts_append,←h1,←hp]
   simp[ZaI,Zb5,hd]
  ·simp only
   rw[List.range_succ,et,hd,←h4]
   simp[ZbJ,ho]
def ZuP (ops:List SOp) (befs:List (List Nat)) (i:Nat) (t:Nat):Bool:=
 (List.range ops.length).all fun j=>!(decide (ZbJ ops j=some t)) || ((ZbB befs i).contains j || (ZbB befs j).contains i)
abbrev Rd:=Option (List (Nat×Nat))
def Zgp (r:Rd) (s:ZjB):Bool:=match r with
 |none=>s.isEmpty
 |some ks=>s.all fun p=>!ks.contains (p.1,p.2.1)
def ZrI (ops:List SOp) (befs:List (List Nat)) (ds:List (De×Rd)):Bool:=
 decide (ds.length=ops.length)&&Zlb ops&&Ziz 0 befs&&Ze6 befs (ds.map (·.1)) ops.length&&
 (List.range ops.length).all fun i=>match ops[i]?,ds[i]? with
  |some o,some d=>(ZtY o).all (ZuP ops befs i)&&((List.range ops.length).all fun j=>!ZjL befs i j || ((ds[j]?).map fun x=>Zgp d.2 x.1.sets).getD true)
  |_,_=>false
section
variable [Md] {P:Program}{T:Tys}{n:Nat}{Φ:Exit→St→Prop}
theorem Eff.mono {kb:Nat}{o:SOp}{tm:Tm}{G G':Get}{d:De} (hG:GLe G G') (h:Eff P T kb o tm G d):Eff P T kb o tm G' d:=by
 cases h with
 |op hc h=>exact .op hc (ZkT (fun _ _ h=>h) hG h)
 |call c f args fargs hc h hp hz hr hs=>exact .call c f args fargs hc h hp (frzL_mono hG _ _ hz) hr hs
 |lent m c f args fargs hc h hp hz hr hs=>exact .lent m c f args fargs hc h hp ((Zie hG (ZgV hG (fun _ _ _ _ _ _ _ hh=>frz_mono hG _ _ hh) m) (fun _ _ _ _ _ _ _ hh=>frz_mono hG _ _ hh)).2 _ _ hz) hr hs
 |give rs gs c f args args0 fr0 fr y hc h hp hz hg hnd hd=>
  have hGp:∀ l k b,only (ZfT G) (rs.map fun k=>(1,k)) l k=some b→only (ZfT G') (rs.map fun k=>(1,k)) l k=some b:=by
   intro l k b e
   unfold only at e ⊢
   split at e
   ·rename_i hm
    rw[if_pos hm]
    cases l with
    |zero=>simp[ZfT]at e
    |succ l=>exact hG l k b e
   ·cases e
  have hloc:∀ (l k e i0 n g:Nat) (y:AV),(AV.loc l k e i0 n g).frz (only (ZfT G) (rs.map fun k=>(1,k)))=some y→(AV.loc l k e i0 n g).frz (only (ZfT G') (rs.map fun k=>(1,k)))=some y:=
   fun _ _ _ _ _ _ _ hh=>frz_mono hGp _ _ hh
  exact .give rs gs c f args args0 fr0 fr y hc h hp (ZjH (gs:=gs) (Zie hGp (ZgV hGp hloc 5) hloc).1 _ _ hz) (Zhh hG gs 0 fr0 hg) hnd hd
theorem Zro.congr {kb:Nat}{o:SOp}{tm tm':Tm}{G:Get}{d:De} (h:∀ t∈ZtY o,tm t=tm' t) (he:Zro P T kb o tm G d):Zro P T kb o tm' G d:=by
 have hu:∀ t∈ZaV o.op,tm t=tm' t:=fun t ht=>h t (by simp only[ZtY,List.mem_append];exact .inr ht)
 have hg:∀ g w,o.guard=some (g,w)→tm g=tm' g:=fun g w hh=>h g (by simp[ZtY,hh])
 rcases he with ⟨hgo,he⟩|⟨⟨g,w,hh,hc⟩,hd⟩
 ·refine .inl ⟨?_,?_⟩
  ·rcases hgo with hgo|⟨g,w,b,hh,h1,h2⟩
   ·exact .inl hgo
   ·exact .inr ⟨g,w,b,hh,by rw[←hg g w hh];exact h1,h2⟩
  ·cases he with
   |op hc he=>exact .op hc (by rw[←Zjy hu (fun _=>rfl)];exact he)
   |call c f args fargs hc h hp hz hr hs=>
    have hoc:o.op=.call c:=by
     unfold ZdD at hc
     split at hc
     ·split at hc
      ·cases hc
      ·obtain rfl:=oi hc;assumption
     ·cases hc
    exact .call c f args fargs hc (by rw[←Zft (by rw[←hoc];exact hu)];exact h) hp hz hr hs
   |lent m c f args fargs hc h hp hz hr hs=>
    have hoc:o.op=.call c:=by
     unfold ZdD at hc
     split at hc
     ·split at hc
      ·cases hc
      ·obtain rfl:=oi hc;assumption
     ·cases hc
    exact .lent m c f args fargs hc (by rw[←Zft (by rw[←hoc];exact hu)];exact h) hp hz hr hs
   |give rs gs c f args args0 fr0 fr y hc h hp hz hg hnd hd=>
    have hoc:o.op=.call c:=by
     unfold ZdD at hc
     split at hc
     ·split at hc
      ·cases hc
      ·obtain rfl:=oi hc;assumption
     ·cases hc
    exact .give rs gs c f args args0 fr0 fr y hc (by rw[←Zft (by rw[←hoc];exact hu)];exact h) hp hz hg hnd hd
 ·refine .inr ⟨⟨g,w,hh,?_⟩,hd⟩
  rw[←hg g w hh];exact hc
def ZrH (P:Program) (T:Tys) (kb:Nat) (o:SOp) (tm:Tm) (G:Get) (d:De×Rd):Prop:=
 Zro P T kb o tm (match d.2 with|none=>G|some ks=>only G ks) d.1
inductive Steps (P:Program) (T:Tys):St→List SOp→List (De×Rd)→Prop
 |nil (st:St):Steps P T st [] []
 |cons (st:St) (o:SOp) (os:List SOp) (d:De×Rd) (ds:List (De×Rd)) (h:ZrH P T st.nx o (look st.tm) st.get d) (hs:Steps P T (st.by o.dst [] d.1) os ds):Steps P T st (o::os) (d::ds)
theorem Steps.at {st:St}{ops:List SOp}{ds:List (De×Rd)} (h:Steps P T st ops ds):∀ i o d,ops[i]?=some o→ds[i]?=some d→
  ZrH P T (ZcD st ops (ds.map (·.1)) i).nx o (look (ZcD st ops (ds.map (·.1)) i).tm) (ZcD st ops (ds.map (·.1)) i).get d:=by
 induction h with
 |nil st=>intro i o d ho;simp at ho
 |cons st o os d ds h hs ih=>
  intro i o' d' ho hd
  cases i with
  |zero=>simp at ho hd;subst ho hd;rw[ZfH];exact h
  |succ i=>
   simp only[List.getElem?_cons_succ]at ho hd
   simp only[List.map_cons,ZcD]
   exact ih i o' d' ho hd
theorem Steps.length {st:St}{ops:List SOp}{ds:List (De×Rd)} (h:Steps P T st ops ds):ds.length=ops.length:=by
 induction h with
 |nil=>rfl
 |cons _ _ _ _ _ _ _ ih=>simp[ih]
theorem ZiQ:∀ (ks:List Nat) (l:List (Nat×AV)) (t:Nat),look (ZeW l ks) t=if t∈ks then none else look l t
 |[],l,t=>by simp[ZeW]
 |k::ks,l,t=>by
  simp only[ZeW,ZiQ ks,ZgX,List.mem_cons]
  by_cases h1:t∈ks
  ·simp[h1]
  ·by_cases h2:k=t
   ·simp[h2]
   ·simp[h1,h2,Ne.symm h2]
theorem ZoQ (hT:ZaW P T) (hm:P.follows .mixedOrders=true) {ops:List SOp}{befs:List (List Nat)}{drop:List Nat}{todo:List It}{st:St} (ds:List (De×Rd)) (hs:Steps P T st ops ds) (hc:ZrI ops befs ds=true)
  (hn:AK P n Φ todo { ZcD st ops (ds.map (·.1)) ops.length with tm:=ZeW (ZcD st ops (ds.map (·.1)) ops.length).tm drop }):Zcy P n Φ (.draw ops befs drop todo st):=by
 obtain⟨ds',hds'⟩:∃ ds',ds.map (·.1)=ds':=⟨_,rfl⟩
 have hl:=hs.length
 have hl':ds'.length=ops.length:=by rw[←hds'];simp[hl]
 simp only[ZrI,Bool.and_eq_true,decide_eq_true_eq,hds']at hc
 obtain⟨⟨⟨⟨_,h1⟩,hbl⟩,hap⟩,hall⟩:=hc
 have hO:=ZiH ops h1
 have hB:=Zhv befs 0 hbl
 rw[hds']at hn
 obtain⟨e1,e2,e3,e4⟩:=ZmD st ops ds' hl' ops.length (Nat.le_refl _)
 have hdx:∀ i,i<ops.length→∃ d,ds[i]?=some d∧ds'[i]?=some d.1:=by
  intro i hi
  obtain⟨x,h2⟩:∃ x,ds[i]?=some x:=⟨_,gG (by omega)⟩
  refine⟨x,h2,?_⟩
  have h3:(ds.map (·.1))[i]?=some x.1:=by rw[List.getElem?_map,h2];rfl
  rw[hds']at h3;exact h3
 refine Zpo hT hm ds' hl' h1 hbl hap ?_ ?_
 ·intro i s d hi hd
  have hil:i<ops.length:=(gS.1 hi).1
  obtain⟨dd,h2,h3⟩:=hdx i hil
  rw[hd]at h3
  obtain rfl:=oi h3
  have hE:=hs.at i s dd hi h2
  rw[hds']at hE
  obtain⟨f1,f2,f3,f4⟩:=ZmD st ops ds' hl' i (by omega)
  rw[f2]at hE
  simp only[List.all_eq_true,List.mem_range]at hall
  have hci:=hall i hil
  rw[hi,h2]at hci
  simp only[Bool.and_eq_true,List.all_eq_true]at hci
  obtain⟨hu,hh⟩:=hci
  have hdst:∀ j t,ZbJ ops j=some t→j<ops.length:=by
   intro j t hj
   unfold ZbJ at hj
   cases ho:ops[j]? with
   |none=>rw[ho]at hj;cases hj
   |some o=>exact(gS.1 ho).1
  have htm:∀ t∈ZtY s,look (ZcD st ops ds' i).tm t=look (ZjS ops befs ds' st.tm i) t:=by
   intro t ht
   rw[f4]
   have hut:=hu t ht
   simp only[ZuP,List.all_eq_true,List.mem_range,Bool.or_eq_true,Bool.not_eq_true',decide_eq_false_iff_not]at hut
   unfold ZjS
   by_cases hex:∃ j,ZbJ ops j=some t
   ·obtain⟨j,hj⟩:=hex
    have hjl:=hdst j t hj
    have hor:(ZbB befs i).contains j=true∨(ZbB befs j).contains i=true:=by
     rcases hut j hjl with h|h
     ·exact absurd hj h
     ·exact h
    by_cases hjb:(ZbB befs i).contains j=true
    case neg=>
     have hij:=hB j i (by simpa using hor.resolve_left hjb)
     have hno:∀ L:List Nat,j∉L→∀ k∈L,ZbJ ops k≠some t:=by
      intro L hjL k hk hkt
      have:=hO j k t hj hkt
      subst this
      exact hjL hk
     rw[ZbR ops ds' t _ _ (hno _ (by simp;omega)),ZbR ops ds' t _ _ (hno _ (by intro hm;exact hjb (Zcl.1 hm).2)),ZiQ,if_neg]
     intro hm
     obtain⟨k,hk,hkt⟩:=List.mem_filterMap.1 hm
     have:=hO j k t hj hkt
     subst this
     have:=(Zcl.1 hk).2
     rw[hor.resolve_left hjb]at this
     cases this
    have hji:=hB i j (by simpa using hjb)
    obtain⟨dj,_,hdj⟩:=hdx j hjl
    rw[ZdQ ops ds' hO hj hdj _ _ (List.mem_range.2 (by omega)),ZdQ ops ds' hO hj hdj _ _ (Zcl.2 ⟨hjl,hjb⟩)]
   ·have hno:∀ (L:List Nat),∀ j∈L,ZbJ ops j≠some t:=fun L j _ hj=>hex ⟨j,hj⟩
    rw[ZbR ops ds' t _ _ (hno _),ZbR ops ds' t _ _ (hno _),ZiQ,if_neg]
    intro hm
    obtain⟨j,_,hj⟩:=List.mem_filterMap.1 hm
    exact hex ⟨j,hj⟩
  simp only[List.all_eq_true,List.mem_range,Bool.or_eq_true,Bool.not_eq_true']at hh
  have hfar:∀ j,j<ops.length→ZjL befs i j=true→Zgp dd.2 (Zb5 ds' j)=true:=by
   intro j hj hun
   obtain⟨dj,hdj,hdj'⟩:=hdx j hj
   rcases hh j hj with h|h
   ·rw[hun]at h;cases h
   ·rw[hdj]at h
    simpa [Zb5,hdj'] using h
  have hG:∀ l k,(∀ ks,dd.2=some ks→(l,k)∈ks)→(ZcD st ops ds' i).get l k=Zar.get (Zpk ops befs ds' (st.fr::st.low) i) l k:=by
   intro l k hlk
   have hnot:∀ j,j<ops.length→ZjL befs i j=true→∀ p∈Zb5 ds' j,¬ (p.1=l∧p.2.1=k):=by
    intro j hj hun p hp hpe
    have:=hfar j hj hun
    unfold Zgp at this
    split at this
    ·rw[List.isEmpty_iff]at this;rw[this]at hp;cases hp
    ·rename_i ks hks
     have h1:=List.all_eq_true.1 this p hp
     have h2:=hlk ks hks
     rw[hpe.1,hpe.2]at h1
     simp[h2]at h1
   unfold St.get Zpk
   rw[f1,Zey,Zey]
   have g1:Zf6 (gone (ZaI ds' (ZfW ops.length (ZjL befs i)))) l k=none:=by
    apply Zg3
    intro x hx
    obtain⟨y,hy,rfl⟩:=List.mem_map.1 hx
    obtain⟨j,hj,hyj⟩:=(Zgk _).1 hy
    exact fun hh=>hnot j (Zcl.1 hj).1 (Zcl.1 hj).2 y hyj hh
   rw[g1]
   simp only
   rw[Zey]
   have g2:Zf6 (ZaI ds' (List.range i)) l k=Zf6 (ZaI ds' (ZfW ops.length fun j=>(ZbB befs i).contains j)) l k:=by
    have k2:List.range i=(List.range ops.length).filter fun j=>decide (j<i):=by
     have:∀ (m k:Nat),k≤m→List.range k=(List.range m).filter fun j=>decide (j<k):=by
      intro m
      induction m with
      |zero=>
       intro k hk
       have:k=0:=by omega
       subst this;rfl
      |succ m ih=>
       intro k hk
       by_cases hkm:k=m+1
       ·subst hkm
        symm
        rw[List.filter_eq_self]
        intro j hj;simpa using hj
       ·rw[List.range_succ,List.filter_append,←ih k (by omega)]
        have:¬ m<k:=by omega
        simp[this]
     exact this _ _ (by omega)
    rw[k2]
    symm
    unfold ZfW
    refine ZfA (ds:=ds') (l:=l) (k:=k) (fun j=>(ZbB befs i).contains j) (fun j=>decide (j<i)) ?_ (List.range ops.length) ?_
    ·intro j hj
     have:=hB i j (by simpa using hj)
     simp;omega
    ·intro j hj hji hnb s hs
     simp only[decide_eq_true_eq]at hji
     refine hnot j (List.mem_range.1 hj) ?_ s hs
     unfold ZjL
     have hn2:(ZbB befs j).contains i=false:=by
      cases hx:(ZbB befs j).contains i with
      |false=>rfl
      |true=>have:=hB j i (by simpa using hx);omega
     rw[hnb,hn2]
     have:j≠i:=by omega
     simp[this]
   rw[g2]
  have hE':=Zro.congr htm hE
  have hle:GLe (match dd.2 with|none=>(ZcD st ops ds' i).get|some ks=>only (ZcD st ops ds' i).get ks) (Zar.get (Zpk ops befs ds' (st.fr::st.low) i)):=by
   intro l k b hb
   cases hd2:dd.2 with
   |none=>
    rw[hd2]at hb
    simp only at hb
    rw[←hG l k (by intro ks e;rw[hd2]at e;cases e)];exact hb
   |some ks=>
    rw[hd2]at hb
    simp only[only]at hb
    split at hb
    ·rename_i hm
     rw[←hG l k (by intro ks' e;rw[hd2]at e;obtain rfl:=oi e;simpa using hm)];exact hb
    ·cases hb
  rcases hE' with ⟨a,b⟩|⟨a,b⟩
  ·exact .inl ⟨a,b.mono hle⟩
  ·exact .inr ⟨a,b⟩
 ·
  unfold St.drawn
  obtain⟨f',H',hp⟩:=Zf7 st.fr st.low (ZaI ds' (List.range ops.length))
  rw[hp]at e1 ⊢
  simp only[List.cons.injEq]at e1
  obtain⟨e5,e6⟩:=e1
  rw[ZlJ]
  simp only[e2,e3,e4,e5,e6]at hn
  exact hn
end
end Go.Abs
namespace Go.Abs
open Go Go.RowKit
set_option linter.unusedSectionVars false
theorem Za6.nl {P:Program}{f:FuncId}{zs args:List AV}{R:AV→Prop} (h:Za6 P f args R) (hn:NLs zs args):Za6 P f zs R:=
 ⟨h.1,fun fm w vs h1 h2=>h.2 fm w vs h1 (hn.ok h2)⟩
inductive EvD where
 |stuck
 |call (f:FuncId) (args:List AV) (o:SOp) (os:List SOp) (acc:List (De×Rd)) (st:St)
 |done (acc:List (De×Rd)) (st:St)
def Zph:De×Rd:=(⟨.tup [],[]⟩,some [])
def ZtC (f:List SOp→List (De×Rd)→St→EvD) (b:Bool) (os:List SOp) (acc:List (De×Rd)) (st:St) (os':List SOp) (acc':List (De×Rd)) (st':St):EvD:=
 match b with
 |true=>f os acc st
 |false=>f os' acc' st'
theorem ZoW (f:List SOp→List (De×Rd)→St→EvD) (os os':List SOp) (acc acc':List (De×Rd)) (st st':St):ZtC f true os acc st os' acc' st'=f os acc st:=rfl
theorem Zn6 (f:List SOp→List (De×Rd)→St→EvD) (os os':List SOp) (acc acc':List (De×Rd)) (st st':St):ZtC f false os acc st os' acc' st'=f os' acc' st':=rfl
def Zte (f:List SOp→List (De×Rd)→St→EvD) (o:SOp) (os:List SOp) (acc:List (De×Rd)) (st:St):Option De→EvD
 |some d=>f os ((d,Zm5 (look st.tm) o.op)::acc) (st.by o.dst [] d)
 |none=>.stuck
theorem ZnM (f:List SOp→List (De×Rd)→St→EvD) (o:SOp) (os:List SOp) (acc:List (De×Rd)) (st:St) (d:De):Zte f o os acc st (some d)=f os ((d,Zm5 (look st.tm) o.op)::acc) (st.by o.dst [] d):=rfl
def Zso (o:SOp) (os:List SOp) (acc:List (De×Rd)) (st:St):Option (FuncId×List AV)→EvD
 |some (f,args)=>.call f args o os acc st
 |none=>.stuck
theorem Znw (o:SOp) (os:List SOp) (acc:List (De×Rd)) (st:St) (f:FuncId) (args:List AV):Zso o os acc st (some (f,args))=.call f args o os acc st:=rfl
def doD (T:Tys) (f:List SOp→List (De×Rd)→St→EvD) (o:SOp) (os:List SOp) (acc:List (De×Rd)) (st:St):EvD:=
 match ZdD o.op with
 |some c=>Zso o os acc st (callee (look st.tm) c)
 |none=>Zte f o os acc st (ZcW T st.nx o.op o.type (look st.tm) st.get)
def Zn0 (T:Tys):Nat→List SOp→List (De×Rd)→St→EvD
 |0,_,_,_=>.stuck
 |_+1,[],acc,st=>.done acc st
 |n+1,o::os,acc,st=>match o.guard with
  |none=>doD T (Zn0 T n) o os acc st
  |some (g,w)=>match look st.tm g with
   |some (.bool b)=>ZtC (Zn0 T n) (b==w) (⟨o.dst,o.op,o.type,none,o.drop⟩::os) acc st os (Zph::acc) (st.by o.dst [] ⟨.tup [],[]⟩)
   |some (.tup [])=>Zn0 T n os (Zph::acc) (st.by o.dst [] ⟨.tup [],[]⟩)
   |_=>.stuck
section
variable [Md] {P:Program}{T:Tys}{n:Nat}{Φ:Exit→St→Prop}{C:List (De×Rd)→St→Prop}
def GD (P:Program) (T:Tys) (C:List (De×Rd)→St→Prop) (os:List SOp) (acc:List (De×Rd)) (st:St):Prop:=
 ∃ ds,Steps P T st os ds∧C (ds.reverse++acc) (ZcD st os (ds.map (·.1)) os.length)
def DG (P:Program) (T:Tys) (C:List (De×Rd)→St→Prop):EvD→Prop
 |.stuck=>False
 |.done acc st=>C acc st
 |.call f args o os acc st=>(∃ rs gs args0 fr0 fr y,Zc3 P f args0 fr0 (fun y' fr'=>y'=y∧fr'=fr)∧gvL gs (only (ZfT (only st.get ((gs++rs).map fun k=>(0,k)))) (rs.map fun k=>(1,k))) (boxF (only (ZfT (only st.get ((gs++rs).map fun k=>(0,k)))) (rs.map fun k=>(1,k))) 5) (AV.shL 1 args)=some args0∧
    Zjb (only st.get ((gs++rs).map fun k=>(0,k))) 0 gs=some fr0∧(decide (gs++rs).Nodup&&decide (gs.length≤16))=true∧GD P T C os ((⟨y.imp st.nx,Zhb rs++(Zhb gs++ZpG st.nx fr)⟩,some ((gs++rs).map fun k=>(0,k)))::acc) (st.by o.dst [] ⟨y.imp st.nx,Zhb rs++(Zhb gs++ZpG st.nx fr)⟩))∨∃ v fargs fl,Za6 P f fargs (fun y=>y=v)∧((AV.frzL st.get args=some fargs∧(AV.refsL args=[]∨v.scal=true)∧fl=some (AV.refsL args))∨(fl=none∧v.scal=true∧∃ m,AV.brL st.get (boxF st.get m) args=some fargs))∧
   GD P T C os ((⟨v,[]⟩,fl)::acc) (st.by o.dst [] ⟨v,[]⟩)
theorem GD.cons {o:SOp}{os:List SOp}{acc:List (De×Rd)}{st:St}{d:De×Rd} (h:ZrH P T st.nx o (look st.tm) st.get d) (hg:GD P T C os (d::acc) (st.by o.dst [] d.1)):GD P T C (o::os) acc st:=by
 obtain⟨ds,h1,h2⟩:=hg
 exact⟨d::ds,.cons st o os d ds h h1,by simpa [ZcD] using h2⟩
theorem Zhp:∀ (m:Nat) (os:List SOp) (acc:List (De×Rd)) (st:St),DG P T C (Zn0 T m os acc st)→GD P T C os acc st:=by
 intro m
 induction m with
 |zero=>intro os acc st h;exact h.elim
 |succ m ih=>
  intro os acc st h
  cases os with
  |nil=>exact⟨[],.nil st,by simp only[Zn0,DG]at h;simpa [ZfH] using h⟩
  |cons o os=>
   have past:(Zu1 o (look st.tm))→DG P T C (Zn0 T m os (Zph::acc) (st.by o.dst [] ⟨.tup [],[]⟩))→GD P T C (o::os) acc st:=by
    intro hs h
    exact GD.cons (d:=Zph) (by simp only[ZrH,Zph];exact .inr ⟨hs,rfl⟩) (ih _ _ _ h)
   cases hg:o.guard with
   |none=>
    simp only[Zn0,hg,doD]at h
    cases hc:ZdD o.op with
    |none=>
     rw[hc]at h
     simp only at h
     cases hd:ZcW T st.nx o.op o.type (look st.tm) st.get with
     |none=>rw[hd]at h;exact h.elim
     |some d=>
      rw[hd]at h
      simp only[Zte]at h
      refine GD.cons (d:=(d,Zm5 (look st.tm) o.op)) ?_ (ih _ _ _ h)
      unfold ZrH
      simp only
      cases hr:Zm5 (look st.tm) o.op with
      |none=>exact .inl ⟨.inl hg,.op hc hd⟩
      |some ks=>exact .inl ⟨.inl hg,.op hc (Zs0 hd hr)⟩
    |some c=>
     rw[hc]at h
     simp only at h
     cases hcal:callee (look st.tm) c with
     |none=>rw[hcal]at h;exact h.elim
     |some fa=>
      obtain⟨f,args⟩:=fa
      rw[hcal]at h
      simp only[Zso,DG]at h
      rcases h with ⟨rs,gs,args0,fr0,fr,y,h1,h2,h3,h5,h4⟩|h
      ·refine GD.cons (d:=(⟨y.imp st.nx,Zhb rs++(Zhb gs++ZpG st.nx fr)⟩,some ((gs++rs).map fun k=>(0,k)))) ?_ h4
       unfold ZrH
       exact .inl ⟨.inl hg,.give rs gs c f args args0 fr0 fr y hc hcal h1 h2 h3 h5 rfl⟩
      obtain⟨v,fargs,fl,h1,hor,h4⟩:=h
      refine GD.cons (d:=(⟨v,[]⟩,fl)) ?_ h4
      unfold ZrH
      rcases hor with ⟨h2,h3,rfl⟩|⟨rfl,h3,m,h2⟩
      ·exact .inl ⟨.inl hg,.call c f args fargs hc hcal h1 (frzL_only _ _ h2 (fun _ h=>h)) h3 rfl⟩
      ·exact .inl ⟨.inl hg,.lent m c f args fargs hc hcal h1 h2 h3 rfl⟩
   |some gw=>
    obtain⟨g,w⟩:=gw
    simp only[Zn0,hg]at h
    split at h
    ·rename_i b hb
     cases hbw:b==w with
     |true=>
      rw[hbw]at h
      simp only[ZtC]at h
      obtain⟨ds,h1,h2⟩:=ih _ _ _ h
      cases h1 with
      |cons _ _ _ d ds hE hs=>
       refine⟨d::ds,.cons st o os d ds ?_ hs,by simpa [ZcD] using h2⟩
       have hgo:ZvP o (look st.tm):=.inr ⟨g,w,b,hg,hb,hbw⟩
       unfold ZrH at hE ⊢
       have conv:∀ G,Zro P T st.nx ⟨o.dst,o.op,o.type,none,o.drop⟩ (look st.tm) G d.1→Zro P T st.nx o (look st.tm) G d.1:=by
        rintro G (⟨_,he⟩|⟨⟨g',w',hh,_⟩,_⟩)
        ·refine .inl ⟨hgo,?_⟩
         cases he with
         |op hc h=>exact .op hc h
         |call c f args fargs hc h hp hz hr hs=>exact .call c f args fargs hc h hp hz hr hs
         |lent m c f args fargs hc h hp hz hr hs=>exact .lent m c f args fargs hc h hp hz hr hs
         |give rs gs c f args args0 fr0 fr y hc h hp hz hg hnd hd=>exact .give rs gs c f args args0 fr0 fr y hc h hp hz hg hnd hd
        ·cases hh
       exact conv _ hE
     |false=>
      rw[hbw]at h
      simp only[ZtC]at h
      exact past ⟨g,w,hg,.inl ⟨b,hb,hbw⟩⟩ h
    ·rename_i hb
     exact past ⟨g,w,hg,.inr hb⟩ h
    ·exact h.elim
theorem Zs8 {f:FuncId}{args fargs zargs:List AV}{v:AV}{o:SOp}{os:List SOp}{acc:List (De×Rd)}{st:St} (m:Nat) (hp:Za6 P f fargs (fun y=>y=v)) (hz:AV.frzL st.get args=some zargs) (hn:NLs zargs fargs)
  (hr:AV.refsL args=[]∨v.scal=true) (h:DG P T C (Zn0 T m os ((⟨v,[]⟩,some (AV.refsL args))::acc) (st.by o.dst [] ⟨v,[]⟩))):DG P T C (.call f args o os acc st):=
 .inr ⟨v,zargs,_,hp.nl hn,.inl ⟨hz,hr,rfl⟩,Zhp m _ _ _ h⟩
theorem ZiN {f:FuncId}{args args0:List AV}{fr0 fr:Fra}{y:AV}{o:SOp}{os:List SOp}{acc:List (De×Rd)}{st:St} (m:Nat) (rs gs:List Nat) (hp:Zc3 P f args0 fr0 (fun y' fr'=>y'=y∧fr'=fr))
  (hz:gvL gs (only (ZfT (only st.get ((gs++rs).map fun k=>(0,k)))) (rs.map fun k=>(1,k))) (boxF (only (ZfT (only st.get ((gs++rs).map fun k=>(0,k)))) (rs.map fun k=>(1,k))) 5) (AV.shL 1 args)=some args0∧Zjb (only st.get ((gs++rs).map fun k=>(0,k))) 0 gs=some fr0) (hnd:(decide (gs++rs).Nodup&&decide (gs.length≤16))=true)
  (h:DG P T C (Zn0 T m os ((⟨y.imp st.nx,Zhb rs++(Zhb gs++ZpG st.nx fr)⟩,some ((gs++rs).map fun k=>(0,k)))::acc) (st.by o.dst [] ⟨y.imp st.nx,Zhb rs++(Zhb gs++ZpG st.nx fr)⟩))):DG P T C (.call f args o os acc st):=
 .inl ⟨rs,gs,args0,fr0,fr,y,hp,hz.1,hz.2,hnd,Zhp m _ _ _ h⟩
theorem Za4 {acc:List (De×Rd)}{st:St} (h:C acc st):DG P T C (.done acc st):=h
def ZcE (ds:List (De×Rd)):List (List (Nat×Nat)×Rd):=ds.map fun d=>(d.1.sets.map fun p=>(p.1,p.2.1),d.2)
def ZkG (sk:List (List (Nat×Nat)×Rd)):List (De×Rd):=sk.map fun d=>(⟨.tup [],d.1.map fun p=>(p.1,p.2,none)⟩,d.2)
theorem ZiY (s t s' t':ZjB) (hs:s.map (fun p=>(p.1,p.2.1))=s'.map (fun p=>(p.1,p.2.1))) (ht:t.map (fun p=>(p.1,p.2.1))=t'.map (fun p=>(p.1,p.2.1))):Zd7 s t=Zd7 s' t':=by
 have key:∀ s t:ZjB,Zd7 s t=((s.map fun p=>(p.1,p.2.1)).all fun p=>(t.map fun p=>(p.1,p.2.1)).all fun q=>!(p.1==q.1&&p.2==q.2)):=by
  intro s t
  unfold Zd7
  simp[List.all_map,Function.comp_def]
 rw[key,key,hs,ht]
theorem Zkm (r:Rd) (s s':ZjB) (hs:s.map (fun p=>(p.1,p.2.1))=s'.map (fun p=>(p.1,p.2.1))):Zgp r s=Zgp r s':=by
 have key:∀ s:ZjB,Zgp r s=(match r with
   |none=>(s.map fun p=>(p.1,p.2.1)).isEmpty
   |some ks=>(s.map fun p=>(p.1,p.2.1)).all fun p=>!ks.contains p):=by
  intro s
  cases r with
  |none=>cases s<;>rfl
  |some ks=>simp[Zgp,List.all_map,Function.comp_def]
 rw[key,key,hs]
theorem ZmW (ops:List SOp) (befs:List (List Nat)) (ds:List (De×Rd)):ZrI ops befs ds=ZrI ops befs (ZkG (ZcE ds)):=by
 have Zhe:∀ i:Nat,(ZkG (ZcE ds))[i]?=(ds[i]?).map fun d=>((⟨.tup [],d.1.sets.map fun p=>(p.1,p.2.1,none)⟩:De),d.2):=by
  intro i
  simp[ZkG,ZcE,List.getElem?_map,Function.comp_def]
 have hk:∀ i:Nat,(Zb5 (ds.map (·.1)) i).map (fun p=>(p.1,p.2.1))=(Zb5 ((ZkG (ZcE ds)).map (·.1)) i).map (fun p=>(p.1,p.2.1)):=by
  intro i
  unfold Zb5
  rw[List.getElem?_map,List.getElem?_map,Zhe]
  cases ds[i]? with
  |none=>rfl
  |some d=>simp[Function.comp_def]
 have h1:(ZkG (ZcE ds)).length=ds.length:=by simp[ZkG,ZcE]
 have h2:Ze6 befs ((ZkG (ZcE ds)).map (·.1)) ops.length=Ze6 befs (ds.map (·.1)) ops.length:=by
  unfold Ze6
  congr 1;funext j;congr 1;funext i
  rw[ZiY _ _ _ _ (hk i).symm (hk j).symm]
 unfold ZrI
 rw[h1,h2]
 congr 1
 congr 1;funext i
 rw[Zhe]
 cases ops[i]? with
 |none=>rfl
 |some o=>
  cases ds[i]? with
  |none=>rfl
  |some d=>
   simp only[Option.map_some]
   congr 1
   congr 1;funext j
   rw[Zhe]
   cases ds[j]? with
   |none=>rfl
   |some x=>
    simp only[Option.map_some,Option.getD_some]
    rw[Zkm d.2 x.1.sets (x.1.sets.map fun p=>(p.1,p.2.1,none)) (by simp[Function.comp_def])]
theorem Za3 {ops:List SOp}{befs:List (List Nat)}{ds:List (De×Rd)}{sk:List (List (Nat×Nat)×Rd)} (h1:ZcE ds=sk) (h2:ZrI ops befs (ZkG sk)=true):ZrI ops befs ds=true:=by
 rw[ZmW,h1];exact h2
theorem Zas (hT:ZaW P T) (hm:P.follows .mixedOrders=true) {ops:List SOp}{befs:List (List Nat)}{drop:List Nat}{todo:List It}{st:St} (m:Nat)
  (h:DG P T (fun acc st'=>ZrI ops befs acc.reverse=true∧AK P n Φ todo { st' with tm:=ZeW st'.tm drop }) (Zn0 T m ops [] st)):Zcy P n Φ (.draw ops befs drop todo st):=by
 obtain⟨ds,h1,h2,h3⟩:=Zhp m _ _ _ h
 simp only[List.append_nil,List.reverse_reverse]at h2
 exact ZoQ hT hm ds h1 h2 h3
theorem Znj (hT:ZaW P T) {f:FuncId}{args fargs zargs:List AV}{v:AV}{dst:Option Tmp}{drop:List Nat}{todo:List It}{st:St} (m:Nat) (hp:Za6 P f fargs (fun y=>y=v)) (hz:AV.frzL (Zar.get ([]::st.fr::st.low)) args=some zargs) (hn:NLs zargs fargs)
  (hr:AV.refsL args=[]∨v.scal=true) (h:Zcy P n Φ (run T m todo (st.took dst drop v [] (st.fr::st.low)))):Zcy P n Φ (.call f args dst drop todo st):=by
 have hk:=Zae hT m todo _ h
 rcases hr with hr|hr
 ·exact Zme (hp.nl hn) hz hr (by rintro y rfl;exact hk)
 ·exact Zmj (hp.nl hn) hz (by rintro y rfl;exact hr) (by rintro y rfl;exact hk)
def zOK (o:Option (List AV)) (fargs:List AV):Prop:=match o with
 |some z=>NLs z fargs
 |none=>False
theorem Zqy (z fargs:List AV):zOK (some z) fargs=NLs z fargs:=rfl
def yOK (o:Option AV) (v:AV):Prop:=match o with
 |some y=>NL y v
 |none=>False
theorem ZqG (y v:AV):yOK (some y) v=NL y v:=rfl
theorem ZgF (hT:ZaW P T) {f:FuncId}{args fargs:List AV}{v:AV}{dst:Option Tmp}{drop:List Nat}{todo:List It}{st:St} (m:Nat) (rs:List Nat) (hp:Za6 P f fargs (fun y=>y=v)) (hz:zOK (AV.brL (only (Zar.get ([]::st.fr::st.low)) (rs.map fun k=>(1,k))) (boxF (only (Zar.get ([]::st.fr::st.low)) (rs.map fun k=>(1,k))) 5) args) fargs)
  (h:Zcy P n Φ (run T m todo (st.took dst drop v [] (ZeW st.fr rs::st.low)))):Zcy P n Φ (.call f args dst drop todo st):=by
 unfold zOK at hz
 split at hz
 ·rename_i z hz'
  have hk:=Zae hT m todo _ h
  refine ZgQ (Za6.take 5 _ (hp.nl hz) hz' (by simp)) ?_
  rintro y fr H ⟨rfl,rfl,e⟩
  rw[Zir]at e
  obtain rfl:=(List.cons.inj e).2
  exact hk
 ·exact hz.elim
theorem Za6.nlr {f:FuncId}{args:List AV}{v:AV} (h:Za6 P f args (fun y=>NL y v)):Za6 P f args (fun y=>y=v):=by
 refine⟨h.1,fun fm w vs h1 h2=>Calls.mono (h.2 fm w vs h1 h2) ?_⟩
 rintro e w' ⟨u,y,fm',h3,h4,h5,h6,h7⟩
 exact⟨u,v,fm',h3,rfl,h5,h4.ok h6,h7⟩
theorem Zab {f:List It→St→Ev}{b:Bool}{t t':List It}{s s':St}{ρ:Type}{A B:Option ρ}{r:ρ} (h:(bif b then A else B)=some r) (h1:b=true→A=some r→Zcy P n Φ (f t s)) (h2:b=false→B=some r→Zcy P n Φ (f t' s')):Zcy P n Φ (two f b t s t' s'):=by
 cases b with
 |true=>exact h1 rfl h
 |false=>exact h2 rfl h
theorem ZgC {f:List SOp→List (De×Rd)→St→EvD}{b:Bool}{os os':List SOp}{acc acc':List (De×Rd)}{st st':St}{ρ:Type}{A B:Option ρ}{r:ρ} (h:(bif b then A else B)=some r) (h1:b=true→A=some r→DG P T C (f os acc st)) (h2:b=false→B=some r→DG P T C (f os' acc' st')):DG P T C (ZtC f b os acc st os' acc' st'):=by
 cases b with
 |true=>exact h1 rfl h
 |false=>exact h2 rfl h
theorem Zaz {S E R:Type}{body:S→Option (Stp S E R)}{k:Nat}{s0:S}{r:Stp S E R} (hk:whl body k s0=some r) (hd:S→St) (ex:E→St) {b:SC}{id:Nat}{todo:List It}{st:St} (hw:ZaE n st (hd s0))
  (hb:∀ s x (Bk Br:St→Prop),body s=some x→(∀ s' st',x=.next s'→ZaE n st' (hd s')→Bk st')→(∀ s' st',x=.brk s'→ZaE n st' (ex s')→Br st')→(∀ v,x=.ret v→r=.ret v)→
   AK P n Φ (.sc b::.back Bk::.blk id::.back Br::todo) (hd s))
  (hx:∀ s',r=.brk s'→AK P n Φ todo (ex s')):Zcy P n Φ (.loop b (.blk id::todo) st):=AK.loopS hk hd ex hw hb hx
theorem ZrO (x:AV):NL x x=True:=eq_true (.refl x)
theorem Zq3 (x:List AV):NLs x x=True:=eq_true (.refl x)
theorem Zba (hT:ZaW P T) {f:FuncId}{args fargs:List AV}{v:AV}{dst:Option Tmp}{drop:List Nat}{todo:List It}{st:St} (m:Nat) (hp:Za6 P f fargs (fun y=>y=v)) (hz:zOK (AV.frzL (Zar.get ([]::st.fr::st.low)) args) fargs)
  (hr:(AV.refsL args).isEmpty || v.scal=true) (h:Zcy P n Φ (run T m todo (st.took dst drop v [] (st.fr::st.low)))):Zcy P n Φ (.call f args dst drop todo st):=by
 unfold zOK at hz
 split at hz
 ·rename_i z hz'
  refine Znj hT m hp hz' hz ?_ h
  simpa using hr
 ·exact hz.elim
theorem ZaC {f:FuncId}{args fargs:List AV}{v:AV}{o:SOp}{os:List SOp}{acc:List (De×Rd)}{st:St} (m:Nat) (hp:Za6 P f fargs (fun y=>y=v)) (hz:zOK (AV.frzL st.get args) fargs)
  (hr:(AV.refsL args).isEmpty || v.scal=true) (h:DG P T C (Zn0 T m os ((⟨v,[]⟩,some (AV.refsL args))::acc) (st.by o.dst [] ⟨v,[]⟩))):DG P T C (.call f args o os acc st):=by
 unfold zOK at hz
 split at hz
 ·rename_i z hz'
  refine Zs8 m hp hz' hz ?_ h
  simpa using hr
 ·exact hz.elim
def wOK (o:Option St) (tm:List (Nat×AV)) (fr:Fra) (low:Zar) (nx nt:Nat):Prop:=match o with
 |some s=>NLT s.tm tm∧NLF s.fr fr∧s.low=low∧s.nx=nx∧s.nt=nt
 |none=>False
theorem ZpL (s:St) (tm:List (Nat×AV)) (fr:Fra) (low:Zar) (nx nt:Nat):wOK (some s) tm fr low nx nt=(NLT s.tm tm∧NLF s.fr fr∧s.low=low∧s.nx=nx∧s.nt=nt):=rfl
theorem ZaE.go {n:Nat}{st:St}{tm:List (Nat×AV)}{fr:Fra}{low:Zar}{nx nt:Nat} (keep ks:List Nat) (hnd:(decide ks.Nodup&&decide (ks.length≤nx))=true) (h:wOK (st.norm keep ks nx) tm fr low nx nt):ZaE n st ⟨tm,fr,low,nx,nt⟩:=by
 unfold wOK at h
 split at h
 ·rename_i s hs
  simp only[Bool.and_eq_true,decide_eq_true_eq]at hnd
  obtain⟨h1,h2,h3,h4,h5⟩:=h
  refine(ZaE.norm hs hnd.1 hnd.2).trans ?_
  obtain⟨tm0,fr0,low0,nx0,nt0⟩:=s
  simp only at h3 h4 h5
  subst h3 h4 h5
  exact ZaE.nl h1 h2
 ·exact h.elim
theorem ZpM (x:List (Nat×AV)):NLT x x=True:=eq_true (.refl x)
theorem ZpU (x:Fra):NLF x x=True:=eq_true (.refl x)
theorem bind_some {α β:Type}{o:Option α}{f:α→Option β}{r:β} (h:o.bind f=some r):∃ x,o=some x∧f x=some r:=Option.bind_eq_some_iff.1 h
end
end Go.Abs
namespace Go.Abs
open Go Go.RowKit
set_option linter.unusedSectionVars false
mutual
def AV.fz (k:Nat) (b:Blk):AV→Option AV
 |.ptr 0 k' o=>if k'=k then (match b with|.box ys=>some (.rptr ys.length [ys] 0 o)|_=>none) else some (.ptr 0 k' o)
 |.ptr (l+1) k' o=>some (.ptr (l+1) k' o)
 |.loc 0 k' e i n g=>if k'=k then (match b with|.arr _ esz es=>if esz=e∧es.length=g∧i+n≤g then some (.sl e ((es.drop i).take n)) else none|_=>none) else some (.loc 0 k' e i n g)
 |.loc (l+1) k' e i n g=>some (.loc (l+1) k' e i n g)
 |.eptr 0 k' e i o g=>if k'=k then none else some (.eptr 0 k' e i o g)
 |.eptr (l+1) k' e i o g=>some (.eptr (l+1) k' e i o g)
 |.inn 0 k' e o n=>if k'=k then none else some (.inn 0 k' e o n)
 |.inn (l+1) k' e o n=>some (.inn (l+1) k' e o n)
 |.fn f x y=>match AV.fzL k b x,AV.fzL k b y with
  |some x,some y=>some (.fn f x y)
  |_,_=>none
 |.ifc t v=>(v.fz k b).map (.ifc t)
 |.agg cs=>(AV.fzL k b cs).map .agg
 |.tup vs=>(AV.fzL k b vs).map .tup
 |.bool b=>some (.bool b)
 |.int k n=>some (.int k n)
 |.str s=>some (.str s)
 |.nil=>some .nil
 |.sl e es=>some (.sl e es)
 |.pnil=>some .pnil
 |.rptr e es i o=>some (.rptr e es i o)
 |.fnil=>some .fnil
 |.inil=>some .inil
 |.dead=>some .dead
def AV.fzL (k:Nat) (b:Blk):List AV→Option (List AV)
 |[]=>some []
 |x::l=>match x.fz k b,AV.fzL k b l with
  |some x,some l=>some (x::l)
  |_,_=>none
end
theorem Zhi (k:Nat) (b:Blk):∀ (cs ys:List AV),AV.fzL k b cs=some ys→ys.length=cs.length∧∀ (i:Nat) (x:AV),cs[i]?=some x→∃ y,ys[i]?=some y∧x.fz k b=some y
 |[],ys,h=>by simp only[AV.fzL,oE]at h;subst h;simp
 |x::l,ys,h=>by
  simp only[AV.fzL]at h
  split at h
  ·rename_i a c ha hc
   obtain rfl:=oi h
   have ih:=Zhi k b l c hc
   refine⟨by simp[ih.1],?_⟩
   intro i z hz
   cases i with
   |zero=>simp only[List.getElem?_cons_zero,oE]at hz;subst hz;exact⟨a,by simp,ha⟩
   |succ i=>simp only[List.getElem?_cons_succ]at hz ⊢;exact ih.2 i z hz
  ·cases h
theorem ZoK {k:Nat}{b:Blk}{x y:AV} (h:x.fz k b=some y):y.flat=x.flat:=by
 cases x with
 |ptr l k' o=>
  cases l with
  |zero=>
   simp only[AV.fz]at h
   split at h
   ·split at h
    ·obtain rfl:=oi h;rfl
    ·cases h
   ·obtain rfl:=oi h;rfl
  |succ l=>simp only[AV.fz,oE]at h;subst h;rfl
 |loc l k' e i n g=>
  cases l with
  |zero=>
   simp only[AV.fz]at h
   split at h
   ·split at h
    ·split at h
     ·obtain rfl:=oi h;rfl
     ·cases h
    ·cases h
   ·obtain rfl:=oi h;rfl
  |succ l=>simp only[AV.fz,oE]at h;subst h;rfl
 |eptr l k' e i o g=>
  cases l with
  |zero=>
   simp only[AV.fz]at h
   split at h
   ·cases h
   ·obtain rfl:=oi h;rfl
  |succ l=>simp only[AV.fz,oE]at h;subst h;rfl
 |inn l k' e o n=>
  cases l with
  |zero=>
   simp only[AV.fz]at h
   split at h
   ·cases h
   ·obtain rfl:=oi h;rfl
  |succ l=>simp only[AV.fz,oE]at h;subst h;rfl
 |fn f a c=>
  simp only[AV.fz]at h
  split at h
  ·obtain rfl:=oi h;rfl
  ·cases h
 |_=>
  first
  |(simp only[AV.fz,oE]at h;subst h;rfl)
  |(simp only[AV.fz,mS]at h;obtain⟨a,_,rfl⟩:=h;rfl)
section
variable [Md] {P:Program}{T:Tys}{N0:Nat}{W0:World}{n:Nat}{fm:FM}{ts:List Tie}{H:Zar}{w:World}
noncomputable def Zfx (fm:FM) (w:World) (c:Option Nat):FM:=fun b o=>if c=some b then w.cell? ⟨b,o,none⟩ else fm b o
theorem ZiP (h:HR N0 W0 fm ts H w) (c:Option Nat):Zdw fm (Zfx fm w c):=by
 intro b o v hv
 unfold Zfx
 split
 ·exact h.fms b o v hv
 ·exact hv
theorem HR.fz (h:HR N0 W0 fm ts H w) {k:Nat}{b:Blk} (hk:H.get 0 k=some b) (hz:∀ ys,b=.box ys→AV.frzL (fun _ _=>none) ys=some ys) {ts0:List Tie}{x:AV}{v:Value} (hv:VR fm ts0 x v):
  ts0=ts→∀ {y:AV},x.fz k b=some y→VR (Zfx fm w (tbc (tb ts 0 k))) ts y v:=by
 have hF:=ZiP h (tbc (tb ts 0 k))
 have hcell:∀ c o u,tbc (tb ts 0 k)=some c→w.cell? ⟨c,o,none⟩=some u→Zfx fm w (tbc (tb ts 0 k)) c o=some u:=by
  intro c o u hc hu
  unfold Zfx;rw[if_pos hc];exact hu
 generalize Zfx fm w (tbc (tb ts 0 k))=fm' at hF hcell
 induction hv with
 |bool b=>intro e y hy;simp only[AV.fz,oE]at hy;subst hy;exact .bool _
 |int k n=>intro e y hy;simp only[AV.fz,oE]at hy;subst hy;exact .int _ _
 |str s=>intro e y hy;simp only[AV.fz,oE]at hy;subst hy;exact .str _
 |nil=>intro e y hy;simp only[AV.fz,oE]at hy;subst hy;exact .nil
 |slNil e a cap=>intro _ y hy;simp only[AV.fz,oE]at hy;subst hy;exact .slNil _ _ _
 |sl es cb off esz cap u hcap h1 h2 h3 h4 _=>intro _ y hy;simp only[AV.fz,oE]at hy;subst hy;exact(VR.sl es cb off esz cap u hcap h1 h2 h3 h4 (ts:=ts)).mono hF (ZaS.refl _)
 |@locGone ts1 l k' esz i n g a cp ht hn ha=>
  rintro rfl y hy
  cases l with
  |zero=>
   simp only[AV.fz]at hy
   split at hy
   ·rename_i e;subst e
    have:=h.blk 0 k' b hk
    rw[ht]at this
    cases this
   ·obtain rfl:=oi hy;exact .locGone _ _ _ _ _ _ _ _ ht hn ha
  |succ l=>simp only[AV.fz,oE]at hy;subst hy;exact .locGone _ _ _ _ _ _ _ _ ht hn ha
 |@locOld ts1 l k' esz i n g a cp m' c ht hlt hn ha=>
  rintro rfl y hy
  cases l with
  |zero=>
   simp only[AV.fz]at hy
   split at hy
   ·rename_i e;subst e
    have hb:=h.blk 0 k' b hk
    rw[ht]at hb
    split at hy
    ·split at hy
     ·rename_i hc
      cases hb with
      |nil et esz=>have:=hc.2.1;simp at this;omega
      |arr et esz es c cap hN h=>have:=hc.2.1;omega
     ·cases hy
    ·cases hy
   ·obtain rfl:=oi hy;exact .locOld _ _ _ _ _ _ _ _ _ _ ht hlt hn ha
  |succ l=>simp only[AV.fz,oE]at hy;subst hy;exact .locOld _ _ _ _ _ _ _ _ _ _ ht hlt hn ha
 |@locNil ts1 l k' esz a ht=>
  rintro rfl y hy
  cases l with
  |zero=>
   simp only[AV.fz]at hy
   split at hy
   ·split at hy
    ·split at hy
     ·simp only[List.drop_zero,List.take_zero,oE]at hy;subst hy;exact .slNil _ _ _
     ·cases hy
    ·cases hy
   ·obtain rfl:=oi hy;exact .locNil _ _ _ _ ht
  |succ l=>simp only[AV.fz,oE]at hy;subst hy;exact .locNil _ _ _ _ ht
 |@loc ts1 l k' esz i n g c cap cp a ht hn hnc hc ha=>
  rintro rfl y hy
  cases l with
  |succ l=>simp only[AV.fz,oE]at hy;subst hy;exact .loc _ _ _ _ _ _ _ _ _ _ ht hn hnc hc ha
  |zero=>
   simp only[AV.fz]at hy
   split at hy
   ·rename_i e;subst e
    have hb:=h.blk 0 k' b hk
    split at hy
    ·rename_i et esz' es
     split at hy
     ·rename_i hh
      obtain⟨he,ZbW,hin⟩:=hh
      subst he
      simp only[oE]at hy;subst hy
      rw[ht]at hb
      cases hb with
      |arr et _ es c cap hN hA=>
       obtain⟨cells,c1,c2,c3,c4,c5,c6,c7⟩:=hA
       by_cases hn0:n=0
       ·subst hn0
        simp only[List.take_zero]
        exact .slNil _ _ _
       ·have ha':=ha (.inl (by omega))
        subst ha'
        have hl:((es.drop i).take n).length=n:=by simp;omega
        have key:∀ (j:Nat) (cc:List AV) (o:Nat) (x:AV),((es.drop i).take n)[j]?=some cc→cc[o]?=some x→∃ u,cells[(i+j)*esz'+o]?=some u∧x.flat=true∧VR fm [] x u:=by
         intro j cc o x hj ho
         have hj':es[i+j]?=some cc:=by
          rw[List.getElem?_take]at hj
          split at hj
          ·rw[List.getElem?_drop]at hj;exact hj
          ·cases hj
         have hlt:i+j<es.length:=(gS.1 hj').1
         have hcc:cc.length=esz':=c5 cc (List.mem_of_getElem? hj')
         have hol:o<esz':=by rw[←hcc];exact(gS.1 ho).1
         have hsz:(i+j)*esz'+o<cells.size:=by
          rw[c2]
          have:(i+j+1)*esz'≤cap*esz':=Nat.mul_le_mul_right _ (by omega)
          rw[Nat.add_mul]at this
          omega
         have hcell':=Array.getElem?_eq_getElem hsz
         have:=c7 (i+j) cc o x _ hj' ho hcell'
         exact⟨_,hcell',this.1,this.2⟩
        have hsl:=VR.sl (fm:=fm') (ts:=ts1) ((es.drop i).take n) c (i*esz') esz' cp (fun j o=>(cells[(i+j)*esz'+o]?).getD default) (by rw[hl];exact⟨hnc,by omega⟩)
         (fun cc hcc=>c5 cc (List.mem_of_mem_drop (List.mem_of_mem_take hcc)))
         (by
          intro j cc o x hj ho
          obtain⟨u,hu,_,_⟩:=key j cc o x hj ho
          refine hcell c _ _ (by rw[ht];rfl) ?_
          simp only[World.cell?,c1]
          have:i*esz'+(j*esz'+o)=(i+j)*esz'+o:=by rw[Nat.add_mul];omega
          rw[this,hu]
          simp)
         (fun j cc o x hj ho=>(key j cc o x hj ho).elim fun u hu=>hu.2.1)
         (by
          intro j cc o x hj ho
          obtain⟨u,hu,_,hv⟩:=key j cc o x hj ho
          rw[hu]
          exact hv.mono hF (ZaS.refl _))
        rw[hl]at hsl
        exact hsl
     ·cases hy
    ·cases hy
   ·obtain rfl:=oi hy;exact .loc _ _ _ _ _ _ _ _ _ _ ht hn hnc hc ha
 |@inn ts1 l k' esz o n c cp a ht hn ha=>
  rintro rfl y hy
  cases l with
  |zero=>
   simp only[AV.fz]at hy
   split at hy
   ·cases hy
   ·obtain rfl:=oi hy;exact .inn _ _ _ _ _ _ _ _ ht hn ha
  |succ l=>simp only[AV.fz,oE]at hy;subst hy;exact .inn _ _ _ _ _ _ _ _ ht hn ha
 |pnil=>intro e y hy;simp only[AV.fz,oE]at hy;subst hy;exact .pnil
 |@ptr ts1 l k' o c ht=>
  rintro rfl y hy
  cases l with
  |succ l=>simp only[AV.fz,oE]at hy;subst hy;exact .ptr _ _ _ _ ht
  |zero=>
   simp only[AV.fz]at hy
   split at hy
   ·rename_i e;subst e
    have hb:=h.blk 0 k' b hk
    split at hy
    ·rename_i ys
     obtain rfl:=oi hy
     rw[ht]at hb
     cases hb with
     |box c _ hN hB=>
      obtain⟨cells,et,c1,c2,c3⟩:=hB
      have hzz:=hz ys rfl
      have g:=Go.Abs.frzL_get _ _ _ hzz
      have one:∀ (i:Nat) (cc:List AV) (o:Nat) (x:AV),[ys][i]?=some cc→cc[o]?=some x→i=0∧cc=ys∧∃ u,cells[o]?=some u∧x.flat=true∧VR fm [] x u:=by
       intro i cc o x hi ho
       cases i with
       |succ i=>simp at hi
       |zero=>
        simp only[List.getElem?_cons_zero,oE]at hi
        subst hi
        have hlt:o<cells.size:=by rw[c2];exact(gS.1 ho).1
        have hcu:=Array.getElem?_eq_getElem hlt
        have h3:=c3 o x _ ho hcu
        obtain⟨y,hy1,hy2⟩:=g.2 o x ho
        rw[ho]at hy1
        obtain rfl:=oi hy1
        have h4:=h.frz (N0:=N0) [] (by simpa using h3.2) (frz_none H.get _ _ hy2) (by rw[frz_refs _ _ hy2];simp)
        rw[ZfM]at h4
        exact⟨rfl,rfl,_,hcu,h3.1,h4⟩
      have:=VR.rptr (fm:=fm') (ts:=ts1) [ys] 0 o c 0 ys.length (fun _ o=>(cells[o]?).getD default) (by intro cc hcc;simp at hcc;rw[hcc])
       (by
        intro i cc o x hi ho
        obtain⟨rfl,rfl,u,hu,_,_⟩:=one i cc o x hi ho
        refine hcell c _ _ (by rw[ht];rfl) ?_
        simp only[World.cell?,c1,Nat.zero_mul,Nat.zero_add,hu]
        simp)
       (fun i cc o x hi ho=>(one i cc o x hi ho).2.2.elim fun u hu=>hu.2.1)
       (by
        intro i cc o x hi ho
        obtain⟨rfl,rfl,u,hu,_,hv⟩:=one i cc o x hi ho
        rw[hu]
        exact hv.mono hF (ZaS.refl _))
      simpa using this
    ·cases hy
   ·obtain rfl:=oi hy;exact .ptr _ _ _ _ ht
 |@eptrGone ts1 l k' esz i o g a ht=>
  rintro rfl y hy
  cases l with
  |zero=>
   simp only[AV.fz]at hy
   split at hy
   ·cases hy
   ·obtain rfl:=oi hy;exact .eptrGone _ _ _ _ _ _ _ ht
  |succ l=>simp only[AV.fz,oE]at hy;subst hy;exact .eptrGone _ _ _ _ _ _ _ ht
 |@eptrOld ts1 l k' esz i o g a m' c ht hlt=>
  rintro rfl y hy
  cases l with
  |zero=>
   simp only[AV.fz]at hy
   split at hy
   ·cases hy
   ·obtain rfl:=oi hy;exact .eptrOld _ _ _ _ _ _ _ _ _ ht hlt
  |succ l=>simp only[AV.fz,oE]at hy;subst hy;exact .eptrOld _ _ _ _ _ _ _ _ _ ht hlt
 |@eptr ts1 l k' esz i o g c cap ht=>
  rintro rfl y hy
  cases l with
  |zero=>
   simp only[AV.fz]at hy
   split at hy
   ·cases hy
   ·obtain rfl:=oi hy;exact .eptr _ _ _ _ _ _ _ _ ht
  |succ l=>simp only[AV.fz,oE]at hy;subst hy;exact .eptr _ _ _ _ _ _ _ _ ht
 |rptr es i o cb off esz u h1 h2 h3 h4 _=>intro _ y hy;simp only[AV.fz,oE]at hy;subst hy;exact(VR.rptr es i o cb off esz u h1 h2 h3 h4 (ts:=ts)).mono hF (ZaS.refl _)
 |fnil=>intro e y hy;simp only[AV.fz,oE]at hy;subst hy;exact .fnil
 |fn f first cap vf vc h1 h2 _ _ ih1 ih2=>
  rintro rfl y hy
  simp only[AV.fz]at hy
  split at hy
  ·rename_i a c ha hc
   obtain rfl:=oi hy
   have g1:=Zhi k b _ _ ha
   have g2:=Zhi k b _ _ hc
   refine .fn f a c vf vc (by rw[g1.1];exact h1) (by rw[g2.1];exact h2) ?_ ?_
   ·intro i x v hx hv
    have hi:i<first.length:=by rw[←g1.1];exact(gS.1 hx).1
    obtain⟨y,hy,hu⟩:=g1.2 i _ (gG hi)
    rw[hx]at hy;obtain rfl:=oi hy
    exact ih1 i _ v (gG hi) hv rfl hu
   ·intro i x v hx hv
    have hi:i<cap.length:=by rw[←g2.1];exact(gS.1 hx).1
    obtain⟨y,hy,hu⟩:=g2.2 i _ (gG hi)
    rw[hx]at hy;obtain rfl:=oi hy
    exact ih2 i _ v (gG hi) hv rfl hu
  ·cases hy
 |inil=>intro e y hy;simp only[AV.fz,oE]at hy;subst hy;exact .inil
 |ifc t x v _ ih=>
  rintro rfl y hy
  simp only[AV.fz,mS]at hy;obtain⟨z,hz',rfl⟩:=hy
  exact .ifc t z v (ih rfl hz')
 |agg cs vs h1 h2 _ ih=>
  rintro rfl y hy
  simp only[AV.fz,mS]at hy;obtain⟨z,hz',rfl⟩:=hy
  have g:=Zhi k b _ _ hz'
  refine .agg z vs (by rw[g.1];exact h1) ?_ ?_
  ·intro x hx
   obtain⟨i,hi⟩:=List.mem_iff_getElem?.1 hx
   have hlt:i<cs.length:=by rw[←g.1];exact(gS.1 hi).1
   obtain⟨y,hy,hu⟩:=g.2 i _ (gG hlt)
   rw[hi]at hy;obtain rfl:=oi hy
   rw[ZoK hu]
   exact h2 _ (List.getElem_mem hlt)
  ·intro i x v hx hv
   have hlt:i<cs.length:=by rw[←g.1];exact(gS.1 hx).1
   obtain⟨y,hy,hu⟩:=g.2 i _ (gG hlt)
   rw[hx]at hy;obtain rfl:=oi hy
   exact ih i _ v (gG hlt) hv rfl hu
 |tup xs vs h1 _ ih=>
  rintro rfl y hy
  simp only[AV.fz,mS]at hy;obtain⟨z,hz',rfl⟩:=hy
  have g:=Zhi k b _ _ hz'
  refine .tup z vs (by rw[g.1];exact h1) ?_
  intro i x v hx hv
  have hlt:i<xs.length:=by rw[←g.1];exact(gS.1 hx).1
  obtain⟨y,hy,hu⟩:=g.2 i _ (gG hlt)
  rw[hx]at hy;obtain rfl:=oi hy
  exact ih i _ v (gG hlt) hv rfl hu
 |dead v=>intro e y hy;simp only[AV.fz,oE]at hy;subst hy;exact .dead v
def Zus (k:Nat) (b:Blk):List (Nat×AV)→List (Nat×AV)
 |[]=>[]
 |(t,x)::l=>(t,(x.fz k b).getD x)::Zus k b l
def Blk.fz (k:Nat) (b:Blk):Blk→Blk
 |.arr et e es=>.arr et e es
 |.box cs=>.box ((AV.fzL k b cs).getD cs)
def Zr6 (k:Nat) (b:Blk):Fra→Fra
 |[]=>[]
 |(j,x)::l=>if j=k then Zr6 k b l else (j,Blk.fz k b x)::Zr6 k b l
theorem Zle (k:Nat) (b:Blk):∀ (l:List (Nat×AV)) (t:Nat),look (Zus k b l) t=(look l t).map fun x=>(x.fz k b).getD x
 |[],t=>rfl
 |(t0,x)::l,t=>by
  simp only[Zus,look]
  split
  ·rfl
  ·exact Zle k b l t
theorem ZiL (k:Nat) (b:Blk):∀ (l:Fra) (j:Nat),look (Zr6 k b l) j=if j=k then none else (look l j).map (Blk.fz k b)
 |[],j=>by simp[Zr6,look]
 |(j0,x)::l,j=>by
  simp only[Zr6]
  by_cases h:j0=k
  ·rw[if_pos h,ZiL k b l j]
   by_cases hj:j=k
   ·simp[hj]
   ·have:¬ j0=j:=fun e=>hj (by rw[←e,h])
    simp[hj,look,this]
  ·rw[if_neg h]
   simp only[look]
   by_cases hj:j0=j
   ·subst hj;simp[h]
   ·simp only[hj,if_false];exact ZiL k b l j
theorem HR.fz_blk (h:HR N0 W0 fm ts H w) {k:Nat}{b:Blk} (hk:H.get 0 k=some b) (hz:∀ ys,b=.box ys→AV.frzL (fun _ _=>none) ys=some ys) {t:Option TB}{x:Blk} (hx:BR fm ts w N0 t x):BR (Zfx fm w (tbc (tb ts 0 k))) ts w N0 t (Blk.fz k b x):=by
 have hF:=ZiP h (tbc (tb ts 0 k))
 cases hx with
 |nil et esz=>exact .nil et esz
 |arr et esz es c cap hN hA=>exact .arr et esz es c cap hN (hA.mono hF rfl)
 |box c cs hN hB=>
  obtain⟨cells,et,c1,c2,c3⟩:=hB
  simp only[Blk.fz]
  cases hf:AV.fzL k b cs with
  |none=>exact .box c _ hN ⟨cells,et,c1,c2,fun o x v a b=>⟨(c3 o x v a b).1,(c3 o x v a b).2.mono hF (ZaS.refl _)⟩⟩
  |some ys=>
   have g:=Zhi k b _ _ hf
   refine .box c _ hN ⟨cells,et,c1,by rw[c2];exact g.1.symm,?_⟩
   intro o y v hy hv
   have hlt:o<cs.length:=by rw[←g.1];exact(gS.1 hy).1
   obtain⟨y',hy',hu⟩:=g.2 o _ (gG hlt)
   simp only[Option.getD_some]at hy
   rw[hy]at hy';obtain rfl:=oi hy'
   have h3:=c3 o _ v (gG hlt) hv
   exact⟨by rw[ZoK hu];exact h3.1,h.fz hk hz h3.2 rfl hu⟩
theorem ZaE.fz {n:Nat}{tm:List (Nat×AV)}{fr:Fra}{low:Zar}{nx nt:Nat} (k:Nat) {b:Blk} (hk:look fr k=some b) (hz:∀ ys,b=.box ys→AV.frzL (fun _ _=>none) ys=some ys):
  ZaE n ⟨tm,fr,low,nx,nt⟩ ⟨Zus k b tm,Zr6 k b fr,low,nx,nt⟩:=by
 intro N0 W0 a w fm ts h
 have hg0:Zar.get (fr::low) 0 k=some b:=by simpa [Zar.get] using hk
 have hF:=ZiP h.hr (tbc (tb ts 0 k))
 have hbr:=h.hr.blk 0 k b hg0
 have src:∀ l j x,Zar.get (Zr6 k b fr::low) l j=some x→∃ x0,Zar.get (fr::low) l j=some x0∧¬ (l=0∧j=k)∧(l=0→x=Blk.fz k b x0)∧(l≠0→x=x0):=by
  intro l j x hx
  cases l with
  |zero=>
   simp only[Zar.get,ZiL]at hx
   split at hx
   ·cases hx
   ·rename_i hj
    simp only[mS]at hx
    obtain⟨x0,hx0,rfl⟩:=hx
    exact⟨x0,hx0,fun hh=>hj hh.2,fun _=>rfl,fun hh=>absurd rfl hh⟩
  |succ l=>exact⟨x,hx,fun hh=>absurd hh.1 (by omega),fun hh=>absurd hh (by omega),fun _=>rfl⟩
 refine⟨Zfx fm w (tbc (tb ts 0 k)),ts,⟨⟨by simpa using h.hr.len,?_,?_,?_,?_,h.hr.bel,h.hr.size,h.hr.oth⟩,?_,h.nx,h.size,h.dfr⟩,⟨⟨hF,?_⟩,ZaS.refl _,fun _ _ h=>h⟩⟩
 ·intro l j x hx
  obtain⟨x0,hx0,hne,h1,h2⟩:=src l j x hx
  have hb:=h.hr.blk l j x0 hx0
  cases l with
  |zero=>
   rw[h1 rfl]
   exact h.hr.fz_blk hg0 hz hb
  |succ l=>
   rw[h2 (by omega)]
   exact hb.mono hF (ZaS.refl _) (fun _ _=>rfl)
 ·intro l j l' j' x x' c hx hx'
  obtain⟨x0,hx0,_⟩:=src l j x hx
  obtain⟨x1,hx1,_⟩:=src l' j' x' hx'
  exact h.hr.inj l j l' j' x0 x1 c hx0 hx1
 ·intro c o v hv
  unfold Zfx at hv
  split at hv
  ·exact hv
  ·exact h.hr.fms c o v hv
 ·intro l j x c o hx hc
  obtain⟨x0,hx0,hne,_⟩:=src l j x hx
  unfold Zfx
  rw[if_neg]
  ·exact h.hr.fmd l j x0 c o hx0 hc
  ·intro e
   exact hne (h.hr.inj l j 0 k x0 b c hx0 hg0 hc e)
 ·intro t x hx
  simp only[Zle,mS]at hx
  obtain⟨x0,hx0,rfl⟩:=hx
  obtain⟨v,hv,hvr⟩:=h.tm t x0 hx0
  refine⟨v,hv,?_⟩
  cases hf:x0.fz k b with
  |none=>exact hvr.mono hF (ZaS.refl _)
  |some y=>exact h.hr.fz hg0 hz hvr rfl hf
 ·intro c o hc
  unfold Zfx
  rw[if_neg]
  intro e
  have:=(hbr.lt e).2
  omega
end
end Go.Abs
namespace Go.Abs
open Go Go.RowKit
abbrev w64 (x:Int):Int:=IntKind.i64.wrap x
def eI (x:Int):List AV:=[.int .i64 x]
def eB (x:Bool):List AV:=[.bool x]
def eU8 (x:Int):List AV:=[.int .u8 x]
def eS (x:ByteArray):List AV:=[.str x]
def eL {α:Type} (sz:Nat) (E:α→List AV) (l:List α):List AV:=[.sl sz (l.map E)]
structure A2 (α:Type) where
 x0:α
 x1:α
structure A3 (α:Type) where
 x0:α
 x1:α
 x2:α
structure A4 (α:Type) where
 x0:α
 x1:α
 x2:α
 x3:α
def A2.c {α:Type} (E:α→List AV) (a:A2 α):List AV:=E a.x0++E a.x1
def A3.c {α:Type} (E:α→List AV) (a:A3 α):List AV:=E a.x0++(E a.x1++E a.x2)
def A4.c {α:Type} (E:α→List AV) (a:A4 α):List AV:=E a.x0++(E a.x1++(E a.x2++E a.x3))
def at? {α:Type} (l:List α) (i:Int):Option α:=if 0≤i∧i<l.length then l[i.toNat]? else none
def Zjd {α:Type} (b:Nat) (l x:List α):Option (List α):=if room (l.length+x.length) b then some (l++x) else none
def Zmt {α:Type} (l:List α) (lo hi:Int):Option (List α):=if (0≤lo∧lo≤hi)∧hi≤l.length then some ((l.drop lo.toNat).take (hi.toNat - lo.toNat)) else none
def nz? (y:Int):Option Unit:=if y=0 then none else some ()
def mk? (n:Int) (b:Nat):Option Unit:=if (0≤n∧n≤n)∧n*b≤140737488355328∧n<4611686018427387904 then some () else none
section
variable {α:Type}
theorem ZuL {l:List α}{i:Int}{x:α} (h:at? l i=some x):0≤i∧i<l.length∧l[i.toNat]?=some x:=by
 unfold at? at h
 split at h
 ·rename_i hh;exact⟨hh.1,hh.2,h⟩
 ·cases h
theorem ZaR {l:List α}{i:Int}{x:α} (h:at? l i=some x):ZbY i l.length=some i.toNat:=by
 obtain⟨h1,h2,_⟩:=ZuL h
 simp[ZbY,h1,h2]
theorem Za1 {β:Type} (E:α→β) {l:List α}{i:Int}{x:α} (h:at? l i=some x):(l.map E)[i.toNat]?=some (E x):=by
 obtain⟨_,_,h3⟩:=ZuL h
 simp[h3]
theorem ZfN {b:Nat}{l x y:List α} (h:Zjd b l x=some y):room (l.length+x.length) b∧y=l++x:=by
 unfold Zjd at h
 split at h
 ·rename_i hh;exact⟨hh,(oi h).symm⟩
 ·cases h
theorem Zb0 {y:Int}{u:Unit} (h:nz? y=some u):¬ y=0:=by
 unfold nz? at h
 split at h
 ·cases h
 ·assumption
theorem ZhT {l:List α}{lo hi:Int}{y:List α} (h:Zmt l lo hi=some y):(0≤lo∧lo≤hi∧hi≤l.length)∧y=(l.drop lo.toNat).take (hi.toNat - lo.toNat):=by
 unfold Zmt at h
 split at h
 ·rename_i hh;exact⟨⟨hh.1.1,hh.1.2,hh.2⟩,(oi h).symm⟩
 ·cases h
theorem Zo9 {n:Nat}{lo hi:Int}{k k':IntKind} (h:0≤lo∧lo≤hi∧hi≤n):Zbr n (some (.int k lo)) (some (.int k' hi))=some (lo.toNat,hi.toNat):=by
 have h1:0≤hi:=by omega
 have h2:lo≤max hi 0:=by omega
 simp[Zbr,Zf9,ZfE,h1,h2,h.1,h.2.2]
theorem Zls {n:Nat}{lo:Int}{k:IntKind} (h:0≤lo∧lo≤n∧(n:Int)≤n):Zbr n (some (.int k lo)) none=some (lo.toNat,n):=by
 simp[Zbr,Zf9,ZfE,h.1,h.2.1]
theorem Zkx {n:Nat}{hi:Int}{k':IntKind} (h:(0:Int)≤0∧0≤hi∧hi≤n):Zbr n none (some (.int k' hi))=some (0,hi.toNat):=by
 simp[Zbr,Zf9,ZfE,h.2.1,h.2.2]
theorem ZnI {n:Nat}:Zbr n none none=some (0,n):=by simp[Zbr,Zf9,ZfE]
def ZeY {α:Type} (b:Nat) (l:List α) (x:α):Option (List α):=Zjd b l [x]
theorem Zd6 {b:Nat}{l y:List α}{x:α} (h:ZeY b l x=some y):room (l.length+1) b:=by
 have:=(ZfN h).1;simpa using this
theorem ZeB {β:Type} (E:α→β) {b:Nat}{l y:List α}{x:α} (h:ZeY b l x=some y):l.map E++[E x]=y.map E:=by
 rw[(ZfN h).2];simp
theorem ZdS {b:Nat}{l y:List α}{x:α} (h:ZeY b l x=some y):y.length=l.length+1:=by
 rw[(ZfN h).2];simp
theorem ZdF {β:Type} (E:α→β) {b:Nat}{l y:List α}{x:α} (h:ZeY b l x=some y):(y.map E).take (l.length+1)=y.map E:=by
 rw[List.take_of_length_le];simp[ZdS h]
theorem ZdV {b:Nat}{l y x:List α} (h:Zjd b l x=some y):room (l.length+x.length) b:=(ZfN h).1
theorem Zfp {β:Type} (E:α→β) {b:Nat}{l y x:List α} (h:Zjd b l x=some y):l.map E++x.map E=y.map E:=by
 rw[(ZfN h).2];simp
theorem ZeF {b:Nat}{l y x:List α} (h:Zjd b l x=some y):y.length=l.length+x.length:=by
 rw[(ZfN h).2];simp
theorem ZdM {β:Type} (E:α→β) {b:Nat}{l y x:List α} (h:Zjd b l x=some y):(y.map E).take (l.length+x.length)=y.map E:=by
 rw[List.take_of_length_le];simp[ZeF h]
def ZhQ (n b:Nat):Option Unit:=if room n b then some () else none
theorem ZfC {n b:Nat}{u:Unit} (h:ZhQ n b=some u):room n b:=by
 unfold ZhQ at h
 split at h
 ·assumption
 ·cases h
def ZlT {α:Type} (l:List α) (i:Int) (x:α):Option (List α):=if 0≤i∧i<l.length then some (l.set i.toNat x) else none
theorem Zka {β:Type} (E:α→β) {l y:List α}{i:Int}{x:α} (h:ZlT l i x=some y):(l.map E).set i.toNat (E x)=y.map E:=by
 unfold ZlT at h
 split at h
 ·rw[←oi h,List.map_set]
 ·cases h
theorem Zdc {l y:List α}{i:Int}{x:α} (h:ZlT l i x=some y):y.length=l.length:=by
 unfold ZlT at h
 split at h
 ·rw[←oi h,List.length_set]
 ·cases h
theorem Zdh {β:Type} (E:α→β) {l y:List α}{i:Int}{x:α} (h:ZlT l i x=some y):(y.map E).take l.length=y.map E:=by
 rw[List.take_of_length_le];simp[Zdc h]
theorem Znu {l:List α}{lo hi:Int}{y:List α}{k k':IntKind} (h:Zmt l lo hi=some y):Zbr l.length (some (.int k lo)) (some (.int k' hi))=some (lo.toNat,hi.toNat):=Zo9 (ZhT h).1
theorem ZeH {l:List α}{lo:Int}{y:List α}{k:IntKind} (h:Zmt l lo l.length=some y):Zbr l.length (some (.int k lo)) none=some (lo.toNat,l.length):=Zls (ZhT h).1
theorem ZeJ {l:List α}{hi:Int}{y:List α}{k:IntKind} (h:Zmt l 0 hi=some y):Zbr l.length none (some (.int k hi))=some (0,hi.toNat):=Zkx (ZhT h).1
theorem ZlB {β:Type} (E:α→β) {l:List α}{lo hi:Int}{y:List α} (h:Zmt l lo hi=some y):((l.map E).drop lo.toNat).take (hi.toNat - lo.toNat)=y.map E:=by
 rw[(ZhT h).2,List.map_take,List.map_drop]
theorem ZnD {β:Type} (E:α→β) {l:List α}{lo:Int}{y:List α} (h:Zmt l lo l.length=some y):((l.map E).drop lo.toNat).take (l.length - lo.toNat)=y.map E:=by
 have:=ZlB E h;simpa using this
theorem Znc {β:Type} (E:α→β) {l:List α}{hi:Int}{y:List α} (h:Zmt l 0 hi=some y):((l.map E).drop 0).take (hi.toNat - 0)=y.map E:=by
 have:=ZlB E h;simpa using this
def ls? (n:Nat) (lo:Int):Option Unit:=if 0≤lo∧lo≤n then some () else none
theorem Zin {n:Nat}{lo:Int}{k:IntKind}{u:Unit} (e:ls? n lo=some u):Zbr n (some (.int k lo)) none=some (lo.toNat,n):=by
 unfold ls? at e
 split at e
 ·rename_i h;exact Zls ⟨h.1,h.2,Int.le_refl _⟩
 ·cases e
theorem Ztq {n:Nat}{lo:Int}{u:Unit} (e:ls? n lo=some u):lo.toNat+(n - lo.toNat)≤n:=by
 unfold ls? at e
 split at e
 ·omega
 ·cases e
def hs? (n:Nat) (hi:Int):Option Unit:=if 0≤hi∧hi≤n then some () else none
theorem Zl4 {n:Nat}{hi:Int}{k:IntKind}{u:Unit} (e:hs? n hi=some u):Zbr n none (some (.int k hi))=some (0,hi.toNat):=by
 unfold hs? at e
 split at e
 ·rename_i h;exact Zkx ⟨Int.le_refl _,h.1,h.2⟩
 ·cases e
theorem Zui {n:Nat}{hi:Int}{u:Unit} (e:hs? n hi=some u):hi.toNat≤n:=by
 unfold hs? at e
 split at e
 ·omega
 ·cases e
theorem Zgi {β:Type} (E:α→β) (l:List α) (a m:Nat):((l.map E).drop a).take m=((l.drop a).take m).map E:=by
 rw[List.map_take,List.map_drop]
theorem Zbp {β:Type} (E:α→β) (l:List α) (m:Nat):(l.map E).take m=(l.take m).map E:=by
 rw[List.map_take]
theorem ZsC {n:Int}{b:Nat}{u:Unit} (h:mk? n b=some u):(0≤n∧n≤n)∧n*b≤140737488355328∧n<4611686018427387904:=by
 unfold mk? at h
 split at h
 ·assumption
 ·cases h
theorem Zk9 {β:Type} (E:α→β) (l:List α):(l.map E).take l.length=l.map E:=by
 rw[List.take_of_length_le (by simp)]
end
structure Ice (cap:List AV):Prop where
 sh:∀ d,AV.shL d cap=cap
 frz:∀ G,AV.frzL G cap=some cap
 br:∀ G F,AV.brL G F cap=some cap
 refs:AV.refsL cap=[]
 imp:∀ k,AV.impL k cap=cap
 ren:∀ ks,AV.renL ks cap=some cap
 un:∀ d,AV.unL d cap=some cap
theorem Zhk (d:Nat):∀ a b:List AV,AV.shL d (a++b)=AV.shL d a++AV.shL d b
 |[],b=>rfl
 |x::a,b=>by simp only[List.cons_append,AV.shL,Zhk d a b]
section
variable {P:Program}{T:Tys}{n:Nat}{Φ:Exit→St→Prop}
theorem Zac {rs:List ResultVar}{st:St}{v:AV} (h0:st.low=[]) (h1:yOK ((Zcw T st rs).bind (fun xs=>(Zb6 xs).frz st.get)) v):Zcy P n (Zmn T rs fun y=>NL y v) (.fin .ret st):=by
 unfold yOK at h1
 split at h1
 ·rename_i y hy
  obtain⟨xs,h3,h4⟩:=Option.bind_eq_some_iff.1 hy
  exact⟨h0,xs,y,h3,h4,h1⟩
 ·exact h1.elim
theorem Zaf {B:St→Prop}{st:St} (h:B st):Zcy P n Φ (.back B st):=h
end
attribute [go_sem] Zn0 doD ZnM Znw ZoW Zn6 ZnF Zm5 ZmN Zgh ZlY
 Int.reduceEq Int.reduceLT Int.reduceLE List.set_cons_zero List.set_cons_succ List.replicate_succ List.replicate_zero List.length_replicate Nat.zero_lt_succ Bool.not_not Zus Zr6 AV.fz AV.fzL Blk.fz Option.getD_some Option.getD_none
 Nat.sub_zero ZfI Ze5 Zde ZgL gvL gv1 ZfY Zjb ZfT Zhb ZpG
 AV.br AV.brL boxF only List.contains_cons List.contains_nil decide_true decide_false Bool.or_true Bool.or_false Bool.and_true Bool.true_and Bool.and_false Bool.false_and Prod.mk.injEq ZnI Zk9 Zhk
 ZpL Zqy ZqG ZrO Zq3 ZpM ZpU List.isEmpty_nil List.isEmpty_cons Bool.true_or Bool.false_or
 eI eB eU8 eS eL A2.c A3.c A4.c
 St.norm Zmv Zhc AV.ren AV.renL Zrn idx Blk.ren
 Nat.zero_add Nat.add_zero ZeI
 List.reverse_cons List.reverse_nil List.map_append
end Go.Abs
namespace Go.Abs
open Go Go.RowKit
set_option linter.unusedSectionVars false
section
variable [Md] {P:Program}{T:Tys}{n:Nat}{Φ:Exit→St→Prop}
def gOK (o:Option (List AV)) (f:Option Fra) (args0:List AV) (fr0:Fra):Prop:=o=some args0∧f=some fr0
theorem Zei (hT:ZaW P T) {f:FuncId}{args args0:List AV}{fr0:Fra}{y:AV}{fr:Fra}{dst:Option Tmp}{drop:List Nat}{todo:List It}{st:St} (m:Nat) (rs gs:List Nat) (hp:Zc3 P f args0 fr0 (fun y' fr'=>y'=y∧fr'=fr))
  (hz:gOK (gvL gs (only (Zar.get ([]::st.fr::st.low)) (rs.map fun k=>(1,k))) (boxF (only (Zar.get ([]::st.fr::st.low)) (rs.map fun k=>(1,k))) 5) args) (ZfY (ZeW st.fr rs) 0 gs) args0 fr0) (hnd:(decide gs.Nodup&&decide (gs.length≤16))=true)
  (h:Zcy P n Φ (run T m todo (st.took dst drop y fr (ZeW (ZeW st.fr rs) gs::st.low)))):Zcy P n Φ (.call f args dst drop todo st):=by
 have hk:=Zae hT m todo _ h
 refine ZgQ (Zc3.used 5 rs gs hp hz.1 hz.2 hnd) ?_
 rintro y' fr' H' ⟨⟨rfl,rfl⟩,rfl⟩
 exact hk
theorem Zc3.own {f:FuncId}{args:List AV}{fr0:Fra}{sz et:Nat}{ls:List (List AV)}
  (hp:Zc3 P f args fr0 (fun y fr=>∃ m g es,y=.loc 0 0 sz 0 m g∧fr=[(0,.arr et sz es)]∧es.length=g∧m≤g∧es.take m=ls)):
  Zc3 P f args fr0 (fun y fr=>y=.loc 0 0 sz 0 ls.length ls.length∧fr=[(0,.arr et sz ls)]):=by
 refine⟨hp.1,fun H N0 W0 fm t ts w vs hH ht hv=>Calls.mono (hp.2 H N0 W0 fm t ts w vs hH ht hv) ?_⟩
 rintro e w' ⟨v,y,fr',fm',t',ts',rfl,⟨m,g,es,rfl,rfl,hg,hm,hls⟩,hhr,hvr,hup,htl,hno,h16⟩
 have ZbW:ls.length=m:=by rw[←hls,List.length_take];omega
 have hb:=hhr.blk 0 0 _ (show Zar.get ([(0,Blk.arr et sz es)]::H) 0 0=some (.arr et sz es) by rfl)
 obtain⟨x,hx1,hx2,hx3⟩:∃ x:TB,BR fm' [] w' N0 (some x) (.arr et sz ls)∧tbc (some x)=tbc (tb (t'::ts') 0 0)∧∀ ts1:List Tie,tb ts1 0 0=some x→VR fm' ts1 (.loc 0 0 sz 0 ls.length ls.length) v:=by
  generalize htt:tb (t'::ts') 0 0=tt at hb
  cases hb with
  |nil=>
   simp at hls
   subst hls
   refine⟨.arr 0 none,.nil _ _,rfl,?_⟩
   intro ts1 h1
   cases hvr with
   |locGone _ _ _ _ _ _ a cp h hn ha=>rw[htt]at h;cases h
   |locOld _ _ _ _ _ _ a cp m' c h hlt hn ha=>rw[htt]at h;cases h;simp at hlt
   |locNil _ _ _ a h=>exact .locNil _ _ _ _ h1
   |loc _ _ _ _ _ _ c cap cp a h hin hnc hcc ha=>rw[htt]at h;cases h
  |arr _ _ _ c cap hN hA=>
   obtain⟨cells,c1,c2,c3,c4,c5,c6,c7⟩:=hA
   refine⟨.arr ls.length (some (c,cap)),.arr et sz ls c cap hN ⟨cells,c1,c2,by omega,c4,?_,c6,?_⟩,rfl,?_⟩
   ·rw[←hls];exact fun d hd=>c5 d (List.mem_of_mem_take hd)
   ·intro i cc o x v hi ho hc
    rw[←hls,List.getElem?_take]at hi
    split at hi
    ·exact c7 i cc o x v hi ho hc
    ·cases hi
   ·intro ts1 h1
    cases hvr with
    |locGone _ _ _ _ _ _ a cp h hn ha=>rw[htt]at h;cases h
    |locOld _ _ _ _ _ _ a cp m' c h hlt hn ha=>
     rw[htt]at h
     simp only[oE,TB.arr.injEq]at h
     omega
    |locNil _ _ _ a h=>rw[htt]at h;simp at h
    |loc _ _ _ _ _ _ c' cap' cp a h hin hnc hcc ha=>
     rw[htt]at h
     simp only[oE,TB.arr.injEq,Prod.mk.injEq]at h
     obtain⟨_,rfl,rfl⟩:=h
     rw[ZbW]at h1 ⊢
     exact .loc _ _ _ _ _ _ c cap cp a h1 (by omega) hnc hcc ha
 have src:∀ l k b,Zar.get ([(0,Blk.arr et sz ls)]::H) l k=some b→(l=0∧k=0∧b=.arr et sz ls)∨(l≠0∧Zar.get ([(0,Blk.arr et sz es)]::H) l k=some b):=by
  intro l k b hg
  cases l with
  |zero=>
   simp only[Zar.get,look]at hg
   split at hg
   ·rename_i e;exact .inl ⟨rfl,e.symm,(oi hg).symm⟩
   ·cases hg
  |succ l=>exact .inr ⟨by omega,by simpa [Zar.get] using hg⟩
 have old0:Zar.get ([(0,Blk.arr et sz es)]::H) 0 0=some (.arr et sz es):=rfl
 have hT:tb ((fun k=>if k=0 then some x else none)::ts') 0 0=some x:=rfl
 refine⟨v,_,_,fm',fun k=>if k=0 then some x else none,ts',rfl,⟨rfl,rfl⟩,⟨by have:=hhr.len;simpa using this,?_,?_,hhr.fms,?_,hhr.bel,hhr.size,hhr.oth⟩,hx3 _ hT,hup,htl,hno,fun k hk=>by show (if k=0 then some x else none)=none;rw[if_neg (by omega)]⟩
 ·intro l k b hg
  rcases src l k b hg with ⟨rfl,rfl,rfl⟩|⟨hl,hg'⟩
  ·rw[hT]
   exact hx1.mono (Zdw.refl _) (ZaS.nil _) (fun _ _=>rfl)
  ·obtain⟨l,rfl⟩:∃ q,l=q+1:=⟨l - 1,by omega⟩
   have:=hhr.blk (l+1) k b hg'
   simpa [tb] using this
 ·intro l1 k1 l2 k2 b1 b2 c g1 g2 t1 t2
  have conv:∀ l k b c,Zar.get ([(0,Blk.arr et sz ls)]::H) l k=some b→tbc (tb ((fun k=>if k=0 then some x else none)::ts') l k)=some c→∃ b',Zar.get ([(0,Blk.arr et sz es)]::H) l k=some b'∧tbc (tb (t'::ts') l k)=some c:=by
   intro l k b c g t
   rcases src l k b g with ⟨rfl,rfl,rfl⟩|⟨hl,hg'⟩
   ·rw[hT,hx2]at t;exact⟨_,old0,t⟩
   ·obtain⟨l,rfl⟩:∃ q,l=q+1:=⟨l - 1,by omega⟩
    exact⟨b,hg',by simpa [tb] using t⟩
  obtain⟨b1',g1',t1'⟩:=conv l1 k1 b1 c g1 t1
  obtain⟨b2',g2',t2'⟩:=conv l2 k2 b2 c g2 t2
  exact hhr.inj l1 k1 l2 k2 b1' b2' c g1' g2' t1' t2'
 ·intro l k b c o g t
  rcases src l k b g with ⟨rfl,rfl,rfl⟩|⟨hl,hg'⟩
  ·rw[hT,hx2]at t;exact hhr.fmd 0 0 _ c o old0 t
  ·obtain⟨l,rfl⟩:∃ q,l=q+1:=⟨l - 1,by omega⟩
   exact hhr.fmd (l+1) k b c o hg' (by simpa [tb] using t)
def oOK (fr:Fra) (sz et:Nat) (ls:List (List AV)):Option AV→Prop
 |some (.loc 0 k sz' 0 m g)=>sz'=sz∧(match look fr k with
  |some (.arr et' sz'' es)=>et'=et∧sz''=sz∧es.length=g∧m≤g∧es.take m=ls
  |_=>False)
 |_=>False
theorem Zd9 {rs:List ResultVar}{H:Zar}{st:St}{sz et:Nat}{ls:List (List AV)} (h0:st.low=H) (h1:oOK st.fr sz et ls ((Zcw T st rs).map Zb6)):
  Zcy P n (ZrM T rs H (fun y fr=>∃ m g es,y=.loc 0 0 sz 0 m g∧fr=[(0,.arr et sz es)]∧es.length=g∧m≤g∧es.take m=ls)) (.fin .ret st):=by
 unfold oOK at h1
 split at h1
 ·rename_i k sz' m g hr
  rw[mS]at hr
  obtain⟨xs,h2,h3⟩:=hr
  obtain⟨rfl,h4⟩:=h1
  split at h4
  ·rename_i et' sz'' es hk
   obtain⟨rfl,rfl,h5,h6,h7⟩:=h4
   refine⟨xs,h2,?_⟩
   rw[h3]
   exact .own [k] (.loc 0 0 sz'' 0 m g) [(0,.arr et' sz'' es)] (by simp) (by simp) (by simp[AV.ren,Zrn,idx]) (by simp[Zhc,hk,Blk.ren]) ⟨h0,m,g,es,rfl,rfl,h5,h6,h7⟩
  ·exact h4.elim
 ·exact h1.elim
end
end Go.Abs
namespace Go.Abs
open Go Go.RowKit
set_option linter.unusedSectionVars false
attribute [go_sem] Int.toNat_natCast
section
variable [Md] {P:Program}{T:Tys}{n:Nat}{Φ:Exit→St→Prop}
end
end Go.Abs
namespace Go.Abs
open Go Go.RowKit
set_option linter.unusedSectionVars false
variable [Md]
def ZvJ (o:Option AV) (f:Option Fra) (y:AV) (fr:Fra):Prop:=o=some y∧f=some fr
theorem Zo8 {P:Program}{T:Tys}{n:Nat}{rs:List ResultVar}{H:Zar}{st:St}{e:Exit}{y:AV}{fr:Fra} (ks:List Nat) (he:e=.ret∨e=.normal) (h0:st.low=H) (hn:(decide ks.Nodup&&decide (ks.length≤16))=true)
  (h1:ZvJ ((Zcw T st rs).bind fun xs=>(Zb6 xs).ren ks) (Zhc ks st.fr 0 ks) y fr):Zcy P n (ZrM T rs H (fun y' fr'=>y'=y∧fr'=fr)) (.fin e st):=by
 obtain⟨h1,h2⟩:=h1
 obtain⟨xs,h3,h4⟩:=Option.bind_eq_some_iff.1 h1
 simp only[Bool.and_eq_true,decide_eq_true_eq]at hn
 have:∃ xs,Zcw T st rs=some xs∧Gives (fun y' fr' H'=>H'=H∧y'=y∧fr'=fr) (Zb6 xs) st:=
  ⟨xs,h3,.own ks y fr hn.1 hn.2 h4 h2 ⟨h0,rfl,rfl⟩⟩
 rcases he with rfl|rfl<;>exact this
end Go.Abs
namespace Go.Abs
attribute [go_sem] List.all_nil List.all_cons List.map_replicate
end Go.Abs
namespace Go.Abs
open Go Go.RowKit
def Zdx (B:Nat) (P:Program) (t:TypeId) {α:Type} (E:α→List AV) (Q:α→Prop):Prop:=
 ∀ (w:World) (H:Type) (enc:TypeId×Value→H) (fuel:Nat) (cs:List Value) (x:DataW H×List MemPlace),
  DataW.trod enc P w 0 (fun _=>true) true fuel t cs=some x→(∀ n∈x.1.weights P t,n≤B)→∃ a,Q a∧VRs (Zgq w) [] (E a) cs∧(∀ y∈E a,y.flat=true)
def Zii (n:Int):Prop:=-9223372036854775808≤n∧n≤9223372036854775807
section
variable {B:Nat}{P:Program}{t:TypeId}
theorem VRs.one {fm:FM}{ts:List Tie}{x:AV}{v:Value} (h:VR fm ts x v):VRs fm ts [x] [v]:=by
 refine⟨rfl,?_⟩
 intro i a b h1 h2
 cases i with
 |zero=>cases h1;cases h2;exact h
 |succ i=>simp at h1
theorem Zdx.int (ht:P.underlying t=some (.int .i64)):Zdx B P t eI Zii:=by
 intro w H enc fuel cs x h hsz
 cases fuel with
 |zero=>simp[DataW.trod]at h
 |succ n=>
  rw[DataW.trod_step]at h
  unfold DataW.trodStep at h
  rw[ht]at h
  split at h
  case h_2 k k' m e=>
   cases e
   split at h
   ·rename_i hk
    obtain⟨rfl,hw⟩:=hk
    refine⟨m,?_,VRs.one (.int _ _),by simp[eI,AV.flat]⟩
    simpa [Lit.wf,IntKind.min,IntKind.max,IntKind.signed,IntKind.bits,Zii] using hw
   ·cases h
  all_goals first|(cases h;done)|(rename_i e;cases e;done)
theorem Zj9 {w:World}{a:Addr}{n:Nat}{cs:List Value} (h:w.cells? 0 a n=some cs):cs.length=n∧∀ o,o<n→∃ v,cs[o]?=some v∧w.cell? (a.add o)=some v:=by
 unfold World.cells? at h
 rw[if_pos (Nat.zero_le _)]at h
 have hl:cs.length=n:=by simpa using mapM_some_length h
 refine⟨hl,fun o ho=>?_⟩
 have hg:=mapM_some_get h o o (by simp[ho])
 have:o<cs.length:=by omega
 rw[gG this]at hg ⊢
 exact⟨_,rfl,hg⟩
theorem ZfX {H:Type}{e:TypeId}:∀ {ds:List (DataW H)}{d:DataW H},d∈ds→∀ n∈d.weights P e,n∈DataW.weightsAll P e ds
 |d0::ds,d,h,n,hn=>by
  simp only[DataW.weightsAll,List.mem_append]
  rcases List.mem_cons.1 h with rfl|h
  ·exact .inl hn
  ·exact .inr (ZfX h n hn)
theorem Zdx.slice {α:Type}{e:TypeId}{sz bt:Nat}{E:α→List AV}{Q:α→Prop} (ht:P.underlying t=some (.slice e)) (hs:P.cellsOf e=sz) (hbt:P.bytesOf e=bt) (h0:0<sz) (he:Zdx B P e E Q):
  Zdx B P t (eL sz E) (fun l=>l.length≤Go.maxLen∧l.length*bt≤B∧∀ a∈l,Q a):=by
 intro w H enc fuel cs x h hsz
 cases fuel with
 |zero=>simp[DataW.trod]at h
 |succ n=>
  rw[DataW.trod_step]at h
  unfold DataW.trodStep at h
  rw[ht]at h
  split at h
  case h_7 e2 hq=>exact⟨[],⟨by simp,by simp,by simp⟩,VRs.one (.slNil _ _ _),by simp[eL,AV.flat]⟩
  case h_8 e2 a len cap hq2=>
   cases hq2
   simp only at h
   split at h
   ·rename_i hc
    simp only[mS,Option.bind_eq_some_iff]at h
    obtain⟨elems,hel,rest,_,rfl⟩:=h
    simp only[DataW.weights,ht]at hsz
    have ZbW:elems.length=len:=by simpa using mapM_some_length hel
    have each:∀ i,i<len→∃ b:α,Q b∧∃ cs',w.cells? 0 (a.add (i*P.cellsOf e)) (P.cellsOf e)=some cs'∧VRs (Zgq w) [] (E b) cs'∧∀ y∈E b,y.flat=true:=by
     intro i hi
     have hg:=mapM_some_get hel i i (by simp[hi])
     have hlt:i<elems.length:=by omega
     rw[gG hlt,Option.bind_eq_some_iff]at hg
     obtain⟨cs',h1,h2⟩:=hg
     obtain⟨b,hq,hv,hf⟩:=he w H enc n cs' _ h2 (fun m hm=>hsz m (by
      simp only[List.mem_cons,List.mem_append]
      exact .inr (.inl (ZfX (List.mem_map.2 ⟨elems[i],List.getElem_mem hlt,rfl⟩) m hm))))
     exact⟨b,hq,cs',h1,hv,hf⟩
    have all:∀ m,m≤len→∃ l:List α,l.length=m∧∀ i (hi:i<l.length),Q l[i]∧∃ cs',w.cells? 0 (a.add (i*P.cellsOf e)) (P.cellsOf e)=some cs'∧VRs (Zgq w) [] (E l[i]) cs'∧∀ y∈E l[i],y.flat=true:=by
     intro m
     induction m with
     |zero=>exact fun _=>⟨[],rfl,fun i hi=>by simp at hi⟩
     |succ m ih=>
      intro hm
      obtain⟨l,hl,h1⟩:=ih (by omega)
      obtain⟨b,hb⟩:=each m (by omega)
      refine⟨l++[b],by simp[hl],fun i hi=>?_⟩
      by_cases him:i<l.length
      ·rw[List.getElem_append_left him];exact h1 i him
      ·have:i=m:=by simp at hi;omega
       subst this
       have hb':(l++[b])[i]=b:=by
        rw[List.getElem_append_right (by omega)];simp[hl]
       rw[hb']
       exact⟨hb.1,hb.2⟩
    obtain⟨l,hl,hall⟩:=all len (Nat.le_refl _)
    have hby:l.length*bt≤B:=by
     have h1:=hsz _ (List.mem_cons_self ..)
     simp only[List.length_map]at h1
     rw[hbt]at h1
     have h2:l.length*bt≤(elems.length+rest.length)*bt:=Nat.mul_le_mul_right _ (by omega)
     omega
    refine⟨l,⟨by rw[hl];omega,hby,?_⟩,?_,by simp[eL,AV.flat]⟩
    ·intro b hb
     obtain⟨i,hi,rfl⟩:=List.getElem_of_mem hb
     exact(hall i hi).1
    ·by_cases hz:len=0
     ·subst hz
      have:l=[]:=List.eq_nil_of_length_eq_zero hl
      subst this
      exact VRs.one (.slNil _ _ _)
     ·
      have hsp:a.spot=none:=by
       obtain⟨_,cs',h1,_,_⟩:=hall 0 (by omega)
       obtain⟨_,h3⟩:=Zj9 h1
       obtain⟨v,_,h4⟩:=h3 0 (by omega)
       simp only[Nat.zero_mul,Addr.add,if_true]at h4
       unfold World.cell? at h4
       split at h4
       ·split at h4
        ·cases h4
        ·rename_i hh;simpa using hh
       ·cases h4
      have hadd:∀ k,a.add k=⟨a.block,a.off+k,none⟩:=by
       intro k
       unfold Addr.add
       split
       ·rename_i h;subst h;obtain⟨b,o,s⟩:=a;simp only at hsp;subst hsp;rfl
       ·rfl
      have hcell:∀ i (hi:i<l.length) o x,(E l[i])[o]?=some x→∃ v,w.cell? ⟨a.block,a.off+(i*sz+o),none⟩=some v∧VR (Zgq w) [] x v∧x.flat=true:=by
       intro i hi o y hy
       obtain⟨_,cs',h1,h2,h3⟩:=hall i hi
       obtain⟨h4,h5⟩:=Zj9 h1
       have ho:o<P.cellsOf e:=by
        rw[←h4,←h2.1];exact(gS.1 hy).1
       obtain⟨v,h6,h7⟩:=h5 o ho
       refine⟨v,?_,h2.2 o y v hy h6,h3 y (List.mem_of_getElem? hy)⟩
       rw[hadd]at h7
       have:Addr.add ⟨a.block,a.off+i*P.cellsOf e,none⟩ o=⟨a.block,a.off+(i*sz+o),none⟩:=by
        unfold Addr.add
        split
        ·rename_i h;subst h;rw[hs];rfl
        ·simp only[Addr.mk.injEq,true_and,and_true];rw[hs];omega
       rwa [this]at h7
      have ha:a=⟨a.block,a.off,none⟩:=by obtain⟨b,o,s⟩:=a;simp only at hsp;subst hsp;rfl
      have hmap:(l.map E).length=len:=by simp[hl]
      have key:VR (Zgq w) [] (.sl sz (l.map E)) (.slice (some ⟨a.block,a.off,none⟩) (l.map E).length cap):=by
       refine .sl (l.map E) a.block a.off sz cap (fun i o=>(w.cell? ⟨a.block,a.off+(i*sz+o),none⟩).getD default) ⟨by omega,by omega⟩ ?_ ?_ ?_ ?_
       ·intro c hc
        simp only[List.mem_map]at hc
        obtain⟨b,hb,rfl⟩:=hc
        obtain⟨i,hi,rfl⟩:=List.getElem_of_mem hb
        obtain⟨_,cs',h1,h2,_⟩:=hall i hi
        rw[h2.1,(Zj9 h1).1,hs]
       all_goals
        intro i c o y h1 h2
        simp only[List.getElem?_map,mS]at h1
        obtain⟨b,h3,rfl⟩:=h1
        obtain⟨hi,rfl⟩:=gS.1 h3
        obtain⟨v,h4,h5,h6⟩:=hcell i hi o y h2
       ·show w.cell? _=_
        rw[h4];rfl
       ·exact h6
       ·simp only[h4,Option.getD_some];exact h5
      rw[hmap,←ha]at key
      exact VRs.one key
   ·cases h
  all_goals first|(cases h;done)|(rename_i e;cases e;done)
def ZcF (B:Nat) (P:Program) (l:List (Nat×TypeId)) (off tot:Nat) {α:Type} (E:α→List AV) (Q:α→Prop):Prop:=
 ∀ (w:World) (H:Type) (enc:TypeId×Value→H) (fuel:Nat) (cs:List Value) (xs:List (DataW H×List MemPlace)),cs.length=tot→
  l.mapM (fun f=>DataW.trod enc P w 0 (fun _=>true) true fuel f.2 ((cs.drop f.1).take (P.cellsOf f.2)))=some xs→(∀ n∈DataW.weightsEach P (l.map (·.2)) (xs.map (·.1)),n≤B)→∃ a,Q a∧VRs (Zgq w) [] (E a) (cs.drop off)∧(∀ y∈E a,y.flat=true)
theorem ZcF.nil {off tot:Nat} (h:tot≤off):ZcF B P [] off tot (fun _:Unit=>[]) (fun _=>True):=by
 intro w H enc fuel cs xs hl _ _
 refine⟨(),trivial,⟨?_,?_⟩,by simp⟩
 ·simp;omega
 ·intro i x v h1;simp at h1
theorem ZcF.cons {α β:Type}{f:Nat×TypeId}{l:List (Nat×TypeId)}{off sz off' tot:Nat}{E:α→List AV}{Q:α→Prop}{E':β→List AV}{Q':β→Prop} (ho:f.1=off) (hs:P.cellsOf f.2=sz) (ho':off+sz=off') (hr:Zdx B P f.2 E Q) (hl:ZcF B P l off' tot E' Q'):
  ZcF B P (f::l) off tot (fun p:α×β=>E p.1++E' p.2) (fun p=>Q p.1∧Q' p.2):=by
 intro w H enc fuel cs xs hc h hsz
 rw[List.mapM_cons]at h
 simp only[Option.pure_def,Option.bind_eq_bind,Option.bind_eq_some_iff]at h
 obtain⟨x,h1,ys,h2,hx⟩:=h
 obtain rfl:=oi hx
 simp only[List.map_cons,DataW.weightsEach,List.mem_append]at hsz
 obtain⟨a,q1,v1,f1⟩:=hr w H enc fuel _ _ h1 (fun n hn=>hsz n (.inl hn))
 obtain⟨b,q2,v2,f2⟩:=hl w H enc fuel cs ys hc h2 (fun n hn=>hsz n (.inr hn))
 refine⟨(a,b),⟨q1,q2⟩,?_,?_⟩
 ·have:cs.drop off=(cs.drop f.1).take (P.cellsOf f.2)++cs.drop off':=by
   rw[ho,hs,←ho',←List.drop_drop,List.take_append_drop]
  rw[this]
  exact v1.append v2
 ·intro y hy
  rcases List.mem_append.1 hy with hy|hy
  ·exact f1 y hy
  ·exact f2 y hy
theorem Zgo {α β γ:Type} (g:α→β) (f:β→Option γ):∀ l:List α,(l.map g).mapM f=l.mapM (fun x=>f (g x))
 |[]=>rfl
 |x::l=>by rw[List.map_cons,List.mapM_cons,List.mapM_cons,Zgo g f l]
theorem Zdx.struct {α:Type}{fs:Array Field}{E:α→List AV}{Q:α→Prop}{tot:Nat} (ht:P.underlying t=some (.struct fs)) (hs:P.cellsOf t=tot) (hr:ZcF B P (fs.toList.map fun f=>(f.offset,f.type)) 0 tot E Q):Zdx B P t E Q:=by
 intro w H enc fuel cs x h hsz
 cases fuel with
 |zero=>simp[DataW.trod]at h
 |succ n=>
  rw[DataW.trod_step]at h
  unfold DataW.trodStep at h
  rw[ht]at h
  split at h
  case h_9 c0 x0 c1 fs2 hq=>
   cases hq
   split at h
   ·rename_i hl
    simp only[mS]at h
    obtain⟨xs,h1,rfl⟩:=h
    have:=hr w H enc n c0 xs (by omega) (by rw[Zgo];exact h1) (fun m hm=>hsz m (by simp only[DataW.weights,ht];simpa [List.map_map,Function.comp_def] using hm))
    simpa using this
   ·cases h
  all_goals first|(cases h;done)|(rename_i e;cases e;done)|(simp_all;done)
theorem ZeS {H:Type}{e:TypeId}{m:Nat}:∀ (l:List Nat) (ds:List (DataW H)),m∈DataW.weightsEach P (l.map fun _=>e) ds→m∈DataW.weightsAll P e ds
 |[],_,h=>by simp[DataW.weightsEach]at h
 |_::_,[],h=>by simp[DataW.weightsEach]at h
 |_::l,d::ds,h=>by
  simp only[List.map_cons,DataW.weightsEach,List.mem_append]at h
  simp only[DataW.weightsAll,List.mem_append]
  rcases h with h|h
  ·exact .inl h
  ·exact .inr (ZeS l ds h)
theorem Zdx.array {α:Type}{m:Nat}{e:TypeId}{E:α→List AV}{Q:α→Prop}{tot:Nat} (ht:P.underlying t=some (.array m e)) (hs:P.cellsOf t=tot) (hr:ZcF B P ((List.range m).map fun i=>(i*P.cellsOf e,e)) 0 tot E Q):Zdx B P t E Q:=by
 intro w H enc fuel cs x h hsz
 cases fuel with
 |zero=>simp[DataW.trod]at h
 |succ n=>
  rw[DataW.trod_step]at h
  unfold DataW.trodStep at h
  rw[ht]at h
  split at h
  case h_10 c0 x0 c1 m2 e2 hq=>
   cases hq
   split at h
   ·rename_i hl
    simp only[mS]at h
    obtain⟨xs,h1,rfl⟩:=h
    have:=hr w H enc n c0 xs (by omega) (by rw[Zgo];exact h1) (fun n0 hm=>hsz n0 (by simp only[DataW.weights,ht];exact ZeS (List.range m) _ (by simpa [List.map_map,Function.comp_def] using hm)))
    simpa using this
   ·cases h
  all_goals first|(cases h;done)|(rename_i e;cases e;done)|(simp_all;done)
theorem Zdx.as {α β:Type}{E:α→List AV}{Q:α→Prop}{E':β→List AV}{Q':β→Prop} (hr:Zdx B P t E Q) (g:α→β) (hE:∀ a,E' (g a)=E a) (hQ:∀ a,Q a→Q' (g a)):Zdx B P t E' Q':=by
 intro w H enc fuel cs x h hsz
 obtain⟨a,h1,h2,h3⟩:=hr w H enc fuel cs x h hsz
 exact⟨g a,hQ a h1,by rw[hE];exact h2,by rw[hE];exact h3⟩
theorem Zp0 {α:Type}{E:α→List AV}{Q:α→Prop}{w:World}{H:Type}{enc:TypeId×Value→H}{v:Value}{d:DataW H}{ps:List MemPlace} (hr:Zdx B P t E Q) (hv:v.cells=#[v]) (F:α→AV) (hF:∀ a,E a=[F a]) (h:DataW.Trod enc P w 0 (fun _=>true) true t v d ps) (hsz:∀ n∈d.weights P t,n≤B):
  ∃ a,Q a∧VR (Zgq w) [] (F a) v:=by
 obtain⟨fuel,h⟩:=h
 rw[hv]at h
 obtain⟨a,h1,h2,_⟩:=hr w H enc fuel _ _ h hsz
 rw[hF]at h2
 exact⟨a,h1,h2.2 0 _ _ rfl rfl⟩
end
end Go.Abs
namespace Go.Abs
open Go Go.RowKit
theorem ZhJ {W W':World} (h:Below W.heap.size W W') (may:MemPlace→Prop):W.keptBut W' may:=by
 refine⟨h.os,h.output,fun i hi=>?_⟩
 have hb:=h.block i hi
 have:∃ o,W.heap[i]?=some o:=⟨_,Array.getElem?_eq_getElem hi⟩
 obtain⟨o,ho⟩:=this
 rw[hb,ho]
 cases o with
 |cells c t fr=>exact⟨rfl,rfl,rfl,fun _ _=>rfl⟩
 |map es clock=>exact .inr ⟨rfl,rfl⟩
 |_=>rfl
theorem Zih {W W':World} (h:Below W.heap.size W W') (p:MemPlace) (hp:p.block<W.heap.size):W.sameAt W' p:=by
 cases p with
 |cell b off=>
  have hb:=h.block b hp
  show W'.cell? _=W.cell? _
  unfold World.cell?
  simp only[hb]
 |map b=>exact h.block b hp
section
variable {H:Type}{enc:TypeId×Value→H}{P:Program}
theorem Zn5 {ts us:List TypeId}{ds gs:List (DataW H)} (hl:ds.length=ts.length) (h:(DataW.weightsEach P (ts++us) (ds++gs)).all (·≤reachBytes)=true) (j:Nat) (t:TypeId) (d:DataW H) (ht:ts[j]?=some t) (hd:ds[j]?=some d):∀ n∈d.weights P t,n≤reachBytes:=by
 intro n hn
 have h1:j<ts.length:=(gS.1 ht).1
 have:=List.all_eq_true.1 h n (DataW.weights_mem_each (j:=j) (by rw[List.getElem?_append_left h1];exact ht) (by rw[List.getElem?_append_left (by omega)];exact hd) n hn)
 simpa using this
theorem ZgI {w w':World}{base:Nat}{spare:Nat→Bool}{held:Bool}:∀ {ts:List TypeId}{vs:List Value}{ds:List (DataW H)}{ps:List MemPlace},DataW.TrodAll enc P w base spare held ts vs ds ps→(∀ p∈ps,w.sameAt w' p)→DataW.TrodAll enc P w' base spare held ts vs ds ps
 |[],[],[],_,h,_=>h
 |_::_,_::_,_::_,_,⟨p,q,⟨n,h1⟩,h2,e⟩,hs=>
  ⟨p,q,⟨n,DataW.trod_carry n _ _ _ h1 (fun x hx=>hs x (by rw[e];exact List.mem_append_left _ hx))⟩,ZgI h2 (fun x hx=>hs x (by rw[e];exact List.mem_append_right _ hx)),e⟩
theorem ZqR {f:Func}{s:ChangeSpec}{W W':World}{args:Array Value}{ds gs:List (DataW H)}{before:List MemPlace}{t:TypeId} (hl:laidOutB P=true) (hm:mapsRowed P=true)
  (hz:((List.range P.types.size).all fun t=>match P.underlying t with|some (.slice e)=>decide (0<P.cellsOf e)|_=>true)=true)
  (hW:DataW.Whole enc P f.params.toList s.vars false W args.toList ds gs before) (hvs:s.vars=[]) (hB:Below W.heap.size W W') (hpar:∀ t∈f.params.toList,t<P.types.size) (hrt:f.resultTypes=#[t]) (ht:P.underlying t=some .bool)
  (hfn:s.fn H (ds++gs)={ results:=[.lit (.bool true)],args:=ds }):s.post enc P f false true false false W args (.bool true) W':=by
 have hlt:=hW.lt
 have hW0:=hW
 obtain⟨p,q,hA,hV,hps,_,_⟩:=hW
 rw[hvs]at hV
 obtain⟨rfl,rfl⟩:gs=[]∧q=[]:=by
  cases gs with
  |nil=>exact⟨rfl,hV⟩
  |cons g gs=>exact hV.elim
 have hp:∀ x∈p,x.block<W.heap.size:=fun x hx=>hlt x (by rw[hps];simp[hx])
 refine⟨ds,[],before,[],p,[],hW0,?_,?_,?_,ZhJ hB _,by simp⟩
 ·rw[hfn,hrt]
  exact⟨[],[],⟨1,by simp[DataW.trod_step,DataW.trodStep,ht,Value.cells]⟩,rfl,rfl⟩
 ·rw[hfn]
  exact DataW.TrodAll.respare (kids_rows hl hm) (fun t e h1 h2=>slices_full_of P hz t e h1 h2) hpar (ZgI hA (fun x hx=>Zih hB x (hp x hx))) (fun x hx=>by simpa using hp x hx)
 ·rw[hfn,hvs]
  rfl
end
end Go.Abs
namespace Go.Abs
open Go
def og (d:Nat) (o:Op) (t a:Nat) (b:Bool) (l:List Nat):SOp:=⟨some d,o,t,some (a,b),l⟩
def oq (d:Nat) (o:Op) (t:Nat) (l:List Nat):SOp:=⟨some d,o,t,none,l⟩
def mv (d s t:Nat) (l:List Nat):SOp:=⟨some d,.move (.tmp s),t,none,l⟩
def ld (d t s:Nat) (l:List Nat):SOp:=⟨some d,.load t (.tmp s),t,none,l⟩
def fa (d t s i:Nat) (l:List Nat):SOp:=⟨some d,.fieldAddr t (.tmp s) i,0,none,l⟩
def ia (d t s i:Nat) (l:List Nat):SOp:=⟨some d,.indexAddr t (.tmp s) (.tmp i),0,none,l⟩
def sg (d s t:Nat) (l:List Nat):SOp:=⟨some d,.assign (.tmp s),t,none,l⟩
def sn (d:Nat) (n:Int) (t:Nat) (l:List Nat):SOp:=⟨some d,.assign (.const (.int .i64 n)),t,none,l⟩
def sb (d:Nat) (b:Bool) (t:Nat) (l:List Nat):SOp:=⟨some d,.assign (.const (.bool b)),t,none,l⟩
def xt (d s i t:Nat) (l:List Nat):SOp:=⟨some d,.extract (.tmp s) i,t,none,l⟩
def ln (d s u t:Nat) (l:List Nat):SOp:=⟨some d,.call ⟨.builtin .len,#[.tmp s],#[u]⟩,t,none,l⟩
def cf1 (d f a ta t:Nat) (l:List Nat):SOp:=⟨some d,.call ⟨.value (.func f),#[.tmp a],#[ta]⟩,t,none,l⟩
def cf2 (d f a b ta tb t:Nat) (l:List Nat):SOp:=⟨some d,.call ⟨.value (.func f),#[.tmp a,.tmp b],#[ta,tb]⟩,t,none,l⟩
def b2 (d:Nat) (o:BinOp) (u a b v t:Nat) (l:List Nat):SOp:=⟨some d,.binOp o u (.tmp a) (.tmp b) v,t,none,l⟩
def bn (d:Nat) (o:BinOp) (u a:Nat) (n:Int) (v t:Nat) (l:List Nat):SOp:=⟨some d,.binOp o u (.tmp a) (.const (.int .i64 n)) v,t,none,l⟩
attribute [go_sem] og oq mv ld fa ia sg sn sb xt ln cf1 cf2 b2 bn
theorem aa {α:Type}{l:List α}{i:Int}{x:α} (h:at? l i=some x):ZbY i l.length=some i.toNat∧∀ (β:Type) (E:α→β),(l.map E)[i.toNat]?=some (E x):=⟨ZaR h,fun _ E=>Za1 E h⟩
theorem bs {α β:Type}{o:Option α}{f:α→Option β}{r:β} (h:o.bind f=some r):∃ x,o=some x∧f x=some r:=bind_some h
end Go.Abs
