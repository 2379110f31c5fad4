/-
  Part 2 of the proof: a machine over named blocks, what each function computes, and what follows. No condition.
-/
import Derived.Orders
import Derived.Shelf.Sort.Plain
import Derived.Shelf.Slices.In.SortNone
import Derived.ReadAgain
import Derived.ChangeSame
import Derived.SizedLaws
import Derived.OpenShut
import Derived.ProofKit
import Derived.Test.YtpgccpdlilnakaaBDisksA
set_option linter.unusedVariables false
set_option linter.unusedSimpArgs false
set_option linter.all false
namespace Go.Abs
open Go Go.RowKit
mutual
def AV.imp (kb:Nat):AV->AV
 |.loc l k e i n g=>.loc (l - 1) (if l=0 then kb+k else k) e i n g
 |.bF l k e o n=>.bF (l - 1) (if l=0 then kb+k else k) e o n
 |.ptr l k o=>.ptr (l - 1) (if l=0 then kb+k else k) o
 |.bu l k e i o g=>.bu (l - 1) (if l=0 then kb+k else k) e i o g
 |.fn f a b=>.fn f (AV.iu kb a) (AV.iu kb b)
 |.bR t v=>.bR t (v.imp kb)
 |.agg cs=>.agg (AV.iu kb cs)
 |.ar vs=>.ar (AV.iu kb vs)
 |.bool b=>.bool b
 |.int k n=>.int k n
 |.str s=>.str s
 |.nil=>.nil
 |.sl e es=>.sl e es
 |.bG=>.bG
 |.aA e es i o=>.aA e es i o
 |.bP=>.bP
 |.bS=>.bS
 |.raw r_=>.raw r_
 |.dead=>.dead
def AV.iu (kb:Nat):List AV->List AV
 |[]=>[]
 |x::l=>x.imp kb::AV.iu kb l
end
def AG.imp (kb:Nat):AG->AG
 |.arr et e es=>.arr et e es
 |.box cs=>.box (AV.iu kb cs)
def mI (kb:Nat):Av->Av->Av
 |[],f=>f
 |(c,b)::R,f=>ins (mI kb R f) (kb+c) (b.imp kb)
def St.gA (st:St) (dst:Option Tmp) (drop:List Nat) (v:AV) (R:Av):Heap->St
 |[]=>st
 |f::H=>⟨cC (mP st.tm dst (v.imp st.nx)) drop,mI st.nx R f,H,st.nx+16,st.nt⟩
def cM:Ai:=fun _=>none
def Enters (P : Program) (f : FuncId) : Prop := ∃ fn, P.funcs[f]? = some fn ∧ (fn.name == "runtime.NumGoroutine") = false ∧ fn.body.isNone = false
def Cx (P:Program) (f:FuncId) (args:List AV) (H:Heap) (R:AV->Av->Heap->Prop):Prop:=
 Enters P f/\∀ N0 W0 fm ts w vs,HR N0 W0 fm ts H w->Au fm (cM::ts) args vs->
  Calls P f vs.toArray w fun e w'=>∃ v av aU H' fm' t' ts',e=.returned v/\R av aU H'/\H'.length=H.length/\HR N0 W0 fm' (t'::ts') (aU::H') w'/\VR fm' (t'::ts') av v/\AN N0 fm fm'/\As ts ts'/\
   (∀ l k,tb ts l k=none->tb ts' l k=none)/\∀ k,16<=k->t' k=none
def Dh (P:Program) (f:FuncId) (args:List AV) (H:Heap) (R:AV->Av->Heap->Prop) (Rp:List PanicEntry->Heap->Prop):Prop:=
 Enters P f/\∀ N0 W0 fm ts w vs,HR N0 W0 fm ts H w->Au fm (cM::ts) args vs->
  Calls P f vs.toArray w fun e w'=>(∃ v av aU H' fm' t' ts',e=.returned v/\R av aU H'/\H'.length=H.length/\HR N0 W0 fm' (t'::ts') (aU::H') w'/\VR fm' (t'::ts') av v/\AN N0 fm fm'/\As ts ts'/\
   (∀ l k,tb ts l k=none->tb ts' l k=none)/\∀ k,16<=k->t' k=none)\/
   ∃ ch H' fm' ts',e=.panicked ch/\Rp ch H'/\H'.length=H.length/\HR N0 W0 fm' ts' H' w'/\AN N0 fm fm'/\As ts ts'/\∀ l k,tb ts l k=none->tb ts' l k=none
theorem Cx.toP {P:Program}{f:FuncId}{args:List AV}{H:Heap}{R:AV->Av->Heap->Prop} (h:Cx P f args H R):Dh P f args H R (fun _ _=>False):=
 ⟨h.1,fun N0 W0 fm ts w vs a b=>(h.2 N0 W0 fm ts w vs a b).mono fun _ _ q=>.inl q⟩
section
variable [Md]
def CI (n:Nat) (st:St) (args:List AV) (ao:St) (ak5:List AV):Prop:=
 ∀ N0 W0 a w fm ts vs,SR N0 W0 n st a w fm ts->Au fm (cM::ts) args vs->∃ fm' ts',SR N0 W0 n ao a w fm' ts'/\Be N0 fm ts fm' ts'/\Au fm' (cM::ts') ak5 vs
theorem CI.refl (n:Nat) (st:St) (args:List AV):CI n st args st args:=fun _ _ _ _ fm ts _ h hv=>⟨fm,ts,h,Be.refl _ _,hv⟩
def AK (P:Program) (n:Nat) (Φ:Exit->St->Prop) (todo:List It) (st:St):Prop:=
 ∀ N0 W0 fm ts a w ct Q,SR N0 W0 n st a w fm ts->Bo N0 W0 n fm ts todo ct->
  (∀ e ao a' w' fm' ts',Φ e ao->SR N0 W0 n ao a' w' fm' ts'->Be N0 fm ts fm' ts'->Q e a' w')->K P Q ct .normal a w
def AJ (P:Program) (n:Nat) (Φ:Exit->St->Prop):Ev->Prop
 |.stuck=>False
 |.fin e st=>Φ e st
 |.back B st=>B st
 |.call f args dst drop todo st=>∃ fZ gU R Rp,CI n st args fZ gU/\Dh P f gU (fZ.fr::fZ.low) R Rp/\(∀ v fr H,R v fr H->AK P n Φ todo (fZ.gA dst drop v fr H))/\∀ ch H,Rp ch H->Φ (.panic ch) (fZ.uy H)
 |.loop b todo st=>AK P n Φ (.sc (.loop b)::todo) st
 |.throw v st=>∃ t x,v=.bR t x/\∀ fm ts u,VR fm ts x u->Φ (.panic [{ v:=.iface t u,recovered:=false }]) st
 |.either es t s1 s2=>(es=[]->AK P n Φ t s1)/\AK P n Φ t s2
 |.draw ops mj drop todo st=>AK P n Φ (.sc (.aL ops mj drop)::todo) st
 |.mark b todo st=>AK P n Φ (.sc b::todo) st
end
theorem nu (kb:Nat):∀ cs:List AV,(AV.iu kb cs).length=cs.length
 |[]=>rfl
 |x::l=>by simp[AV.iu,nu kb l]
theorem lT (kb:Nat):∀ (cs:List AV) (i:Nat),(AV.iu kb cs)[i]?=(cs[i]?).map (AV.imp kb)
 |[],i=>by simp[AV.iu]
 |x::l,0=>by simp[AV.iu]
 |x::l,i+1=>by simp[AV.iu,lT kb l i]
theorem abq (kb:Nat) (x:AV):(x.imp kb).flat=x.flat:=by
 cases x<;>simp[AV.imp,AV.flat]
def ku (kb:Nat) (t' h:Ai):Ai:=fun k=>if kb<=k then t' (k - kb) else h k
theorem qA {kb:Nat}{t' h:Ai}{rest:List Ai} (hn:∀ k,kb<=k->h k=none) {l k:Nat}{x:TB} (e:tb (t'::h::rest) l k=some x):
  tb (ku kb t' h::rest) (l - 1) (if l=0 then kb+k else k)=some x:=by
 cases l with
 |zero=>simpa [tb,ku] using e
 |succ l=>
  cases l with
  |zero=>
   simp only[tb]at e
   have hk:¬ kb<=k:=fun hk=>by rw[hn k hk]at e;cases e
   simp[tb,ku,hk,e]
  |succ l=>simpa [tb] using e
theorem VR.imp {fm:FM}{kb:Nat}{t' h:Ai}{rest:List Ai} (hn:∀ k,kb<=k->h k=none) {ga:List Ai}{x:AV}{v:Value} (hv:VR fm ga x v):ga=t'::h::rest->VR fm (ku kb t' h::rest) (x.imp kb) v:=by
 induction hv with
 |bool b=>intro _;exact .bool b
 |int k n=>intro _;exact .int k n
 |str s=>intro _;exact .str s
 |nil=>intro _;exact .nil
 |cg e a cap=>intro _;exact .cg e a cap
 |sl es cb off esz cap u bV h1 h2 h3 h4 _=>intro _;exact .sl es cb off esz cap u bV h1 h2 h3 h4
 |cI l k esz i n g a cp h dW ha=>rintro rfl;exact .cI _ _ esz i n g a cp (qA hn h) dW ha
 |cJ l k esz i n g a cp m' c h ae dW ha=>rintro rfl;exact .cJ _ _ esz i n g a cp m' c (qA hn h) ae dW ha
 |cv l k esz a h=>rintro rfl;exact .cv _ _ esz a (qA hn h)
 |loc l k esz i n g c cap cp a h dW bI hc ha=>rintro rfl;exact .loc _ _ esz i n g c cap cp a (qA hn h) dW bI hc ha
 |bF l k esz o n c cp a h dW ha=>rintro rfl;exact .bF _ _ esz o n c cp a (qA hn h) dW ha
 |bG=>intro _;exact .bG
 |ptr l k o c h=>rintro rfl;exact .ptr _ _ o c (qA hn h)
 |eA l k esz i o g a h=>rintro rfl;exact .eA _ _ esz i o g a (qA hn h)
 |eC l k esz i o g a m' c h ae=>rintro rfl;exact .eC _ _ esz i o g a m' c (qA hn h) ae
 |bu l k esz i o g c cap h=>rintro rfl;exact .bu _ _ esz i o g c cap (qA hn h)
 |aA es i o cb off esz u h1 h2 h3 h4 _=>intro _;exact .aA es i o cb off esz u h1 h2 h3 h4
 |bP=>intro _;exact .bP
 |fn f first cap vf vc h1 h2 _ _ im iq=>
  intro e
  simp only[AV.imp]
  refine .fn f _ _ vf vc (by rw[nu];exact h1) (by rw[nu];exact h2) ?_ ?_
  ·intro i x v hx hv
   rw[lT,mS]at hx
   obtain⟨y,hy,rfl⟩:=hx
   exact im i y v hy hv e
  ·intro i x v hx hv
   rw[lT,mS]at hx
   obtain⟨y,hy,rfl⟩:=hx
   exact iq i y v hy hv e
 |bS=>intro _;exact .bS
 |raw r_ jl=>intro _;exact .raw r_ jl
 |bR t x v _ ih=>intro e;exact .bR t _ v (ih e)
 |agg cs vs h1 h2 _ ih=>
  intro e
  simp only[AV.imp]
  refine .agg _ vs (by rw[nu];exact h1) ?_ ?_
  ·intro x hx
   obtain⟨i,hi⟩:=BC.1 hx
   rw[lT,mS]at hi
   obtain⟨y,hy,rfl⟩:=hi
   rw[abq];exact h2 y (AW hy)
  ·intro i x v hx hv
   rw[lT,mS]at hx
   obtain⟨y,hy,rfl⟩:=hx
   exact ih i y v hy hv e
 |ar xs vs h1 _ ih=>
  intro e
  simp only[AV.imp]
  refine .ar _ vs (by rw[nu];exact h1) ?_
  intro i x v hx hv
  rw[lT,mS]at hx
  obtain⟨y,hy,rfl⟩:=hx
  exact ih i y v hy hv e
 |dead v=>intro _;exact .dead v
theorem adV (kb:Nat) (f:Av):∀ (R:Av) (k:Nat),look (mI kb R f) k=if kb<=k then (match look R (k - kb) with|some b=>some (b.imp kb)|none=>look f k) else look f k
 |[],k=>by simp[mI,look]
 |(c,b)::R,k=>by
  have ih:=adV kb f R k
  simp only[mI,rO,ih,look]
  by_cases hk:kb+c=k
  ·subst hk
   simp
  ·by_cases hkb:kb<=k
   ·have:¬ c=k - kb:=by omega
    simp[hk,hkb,this]
   ·simp[hk,hkb]
theorem HR.imp {N0:Nat}{W0:World}{fm:FM}{t' h:Ai}{rest:List Ai}{R f:Av}{H:Heap}{w:World} (hr:HR N0 W0 fm (t'::h::rest) (R::f::H) w) {kb:Nat} (hn:∀ k,kb<=k->h k=none):
  HR N0 W0 fm (ku kb t' h::rest) (mI kb R f::H) w:=by
 have hT:As (h::rest) (ku kb t' h::rest):=by
  intro l k
  cases l with
  |zero=>
   simp only[tb,ku]
   split
   ·rename_i hk;rw[hn k hk];trivial
   ·exact Bl.refl _
  |succ l=>exact Bl.refl _
 have src:∀ l k b,Heap.get (mI kb R f::H) l k=some b->(l=0/\kb<=k/\∃ b0,look R (k - kb)=some b0/\b=b0.imp kb)\/
   (¬ (l=0/\kb<=k)/\Heap.get (R::f::H) (l+1) k=some b/\tb (ku kb t' h::rest) l k=tb (t'::h::rest) (l+1) k):=by
  intro l k b hg
  cases l with
  |zero=>
   simp only[Heap.get,adV]at hg
   by_cases hk:kb<=k
   ·rw[if_pos hk]at hg
    cases hR:look R (k - kb) with
    |some b0=>
     rw[hR]at hg
     exact .inl ⟨rfl,hk,b0,rfl,(oi hg).symm⟩
    |none=>
     rw[hR]at hg
     have:=hr.al 1 k b (by simpa [Heap.get] using hg)
     simp only[tb,hn k hk]at this
     cases this
   ·rw[if_neg hk]at hg
    exact .inr ⟨fun hh=>hk hh.2,by simpa [Heap.get] using hg,by simp[tb,ku,hk]⟩
  |succ l=>exact .inr ⟨fun hh=>by omega,by simpa [Heap.get] using hg,by simp[tb]⟩
 have own:∀ k,kb<=k->tb (ku kb t' h::rest) 0 k=tb (t'::h::rest) 0 (k - kb):=by
  intro k hk;simp[tb,ku,hk]
 refine⟨by have:=hr.len;simp at this ⊢;exact this,?_,?_,hr.bO,?_,hr.dh,hr.size,hr.cV,hr.ec⟩
 ·intro l k b hg
  rcases src l k b hg with ⟨rfl,hk,b0,fD,rfl⟩|⟨bh,bo,ht⟩
  ·rw[own k hk]
   have:=hr.al 0 (k - kb) b0 (by simpa [Heap.get] using fD)
   simp only[List.drop_zero]at this ⊢
   generalize tb (t'::h::rest) 0 (k - kb)=tt at this
   cases this with
   |box c cs hN hB=>
    obtain⟨cells,et,c1,c2,c3⟩:=hB
    refine .box c _ hN ⟨cells,et,c1,by rw[nu];exact c2,?_⟩
    intro o x v hx hv
    rw[lT,mS]at hx
    obtain⟨y,hy,rfl⟩:=hx
    have:=c3 o y v hy hv
    exact⟨by rw[abq];exact this.1,this.2.imp hn rfl⟩
   |nil et esz=>exact .nil et esz
   |arr et esz es c cap hN hA=>exact .arr et esz es c cap hN hA
  ·rw[ht]
   have:=hr.al (l+1) k b bo
   refine this.mono (AZ.refl _) ?_ (fun _ _=>rfl)
   have e1:List.drop (l+1) (t'::h::rest)=List.drop l (h::rest):=by simp
   rw[e1]
   exact hT.drop l
 ·intro l1 k1 l2 k2 b1 b2 c g1 g2 t1 t2
  rcases src l1 k1 b1 g1 with ⟨rfl,bg,mi,eN,rfl⟩|⟨anF,mD,ht1⟩
  ·rw[own k1 bg]at t1
   rcases src l2 k2 b2 g2 with ⟨rfl,pQ,sI,jf,rfl⟩|⟨adE,tC,qe⟩
   ·rw[own k2 pQ]at t2
    have:=hr.inj 0 (k1 - kb) 0 (k2 - kb) mi sI c (by simpa [Heap.get] using eN) (by simpa [Heap.get] using jf) t1 t2
    exact⟨rfl,by omega⟩
   ·rw[qe]at t2
    have:=hr.inj 0 (k1 - kb) (l2+1) k2 mi b2 c (by simpa [Heap.get] using eN) tC t1 t2
    omega
  ·rw[ht1]at t1
   rcases src l2 k2 b2 g2 with ⟨rfl,pQ,sI,jf,rfl⟩|⟨adE,tC,qe⟩
   ·rw[own k2 pQ]at t2
    have:=hr.inj (l1+1) k1 0 (k2 - kb) b1 sI c mD (by simpa [Heap.get] using jf) t1 t2
    omega
   ·rw[qe]at t2
    have:=hr.inj (l1+1) k1 (l2+1) k2 b1 b2 c mD tC t1 t2
    exact⟨by omega,this.2⟩
 ·intro l k b c o hg ht
  rcases src l k b hg with ⟨rfl,hk,b0,fD,rfl⟩|⟨bh,bo,eF⟩
  ·rw[own k hk]at ht
   exact hr.dk 0 (k - kb) b0 c o (by simpa [Heap.get] using fD) ht
  ·rw[eF]at ht
   exact hr.dk (l+1) k b c o bo ht
theorem VR.vT {fm:FM}{kb:Nat}{t' h J:Ai}{rest:List Ai} (hn:∀ l k x,tb (t'::h::rest) l k=some x->tb (J::rest) (l - 1) (if l=0 then kb+k else k)=some x) {ga:List Ai}{x:AV}{v:Value} (hv:VR fm ga x v):ga=t'::h::rest->VR fm (J::rest) (x.imp kb) v:=by
 induction hv with
 |bool b=>intro _;exact .bool b
 |int k n=>intro _;exact .int k n
 |str s=>intro _;exact .str s
 |nil=>intro _;exact .nil
 |cg e a cap=>intro _;exact .cg e a cap
 |sl es cb off esz cap u bV h1 h2 h3 h4 _=>intro _;exact .sl es cb off esz cap u bV h1 h2 h3 h4
 |cI l k esz i n g a cp h dW ha=>rintro rfl;exact .cI _ _ esz i n g a cp (hn _ _ _ h) dW ha
 |cJ l k esz i n g a cp m' c h ae dW ha=>rintro rfl;exact .cJ _ _ esz i n g a cp m' c (hn _ _ _ h) ae dW ha
 |cv l k esz a h=>rintro rfl;exact .cv _ _ esz a (hn _ _ _ h)
 |loc l k esz i n g c cap cp a h dW bI hc ha=>rintro rfl;exact .loc _ _ esz i n g c cap cp a (hn _ _ _ h) dW bI hc ha
 |bF l k esz o n c cp a h dW ha=>rintro rfl;exact .bF _ _ esz o n c cp a (hn _ _ _ h) dW ha
 |bG=>intro _;exact .bG
 |ptr l k o c h=>rintro rfl;exact .ptr _ _ o c (hn _ _ _ h)
 |eA l k esz i o g a h=>rintro rfl;exact .eA _ _ esz i o g a (hn _ _ _ h)
 |eC l k esz i o g a m' c h ae=>rintro rfl;exact .eC _ _ esz i o g a m' c (hn _ _ _ h) ae
 |bu l k esz i o g c cap h=>rintro rfl;exact .bu _ _ esz i o g c cap (hn _ _ _ h)
 |aA es i o cb off esz u h1 h2 h3 h4 _=>intro _;exact .aA es i o cb off esz u h1 h2 h3 h4
 |bP=>intro _;exact .bP
 |fn f first cap vf vc h1 h2 _ _ im iq=>
  intro e
  simp only[AV.imp]
  refine .fn f _ _ vf vc (by rw[nu];exact h1) (by rw[nu];exact h2) ?_ ?_
  ·intro i x v hx hv
   rw[lT,mS]at hx
   obtain⟨y,hy,rfl⟩:=hx
   exact im i y v hy hv e
  ·intro i x v hx hv
   rw[lT,mS]at hx
   obtain⟨y,hy,rfl⟩:=hx
   exact iq i y v hy hv e
 |bS=>intro _;exact .bS
 |raw r_ jl=>intro _;exact .raw r_ jl
 |bR t x v _ ih=>intro e;exact .bR t _ v (ih e)
 |agg cs vs h1 h2 _ ih=>
  intro e
  simp only[AV.imp]
  refine .agg _ vs (by rw[nu];exact h1) ?_ ?_
  ·intro x hx
   obtain⟨i,hi⟩:=BC.1 hx
   rw[lT,mS]at hi
   obtain⟨y,hy,rfl⟩:=hi
   rw[abq];exact h2 y (AW hy)
  ·intro i x v hx hv
   rw[lT,mS]at hx
   obtain⟨y,hy,rfl⟩:=hx
   exact ih i y v hy hv e
 |ar xs vs h1 _ ih=>
  intro e
  simp only[AV.imp]
  refine .ar _ vs (by rw[nu];exact h1) ?_
  intro i x v hx hv
  rw[lT,mS]at hx
  obtain⟨y,hy,rfl⟩:=hx
  exact ih i y v hy hv e
 |dead v=>intro _;exact .dead v
theorem HR.vT {N0:Nat}{W0:World}{fm:FM}{t' h J:Ai}{rest:List Ai}{R f:Av}{H:Heap}{w:World} (hr:HR N0 W0 fm (t'::h::rest) (R::f::H) w) {kb:Nat} (h1:∀ k x,t' k=some x->J (kb+k)=some x) (h2:∀ k x,h k=some x->J k=some x):
  HR N0 W0 fm (J::rest) (mI kb R f::H) w:=by
 have hJ:∀ l k x,tb (t'::h::rest) l k=some x->tb (J::rest) (l - 1) (if l=0 then kb+k else k)=some x:=by
  intro l k x e
  cases l with
  |zero=>simpa [tb] using h1 k x (by simpa [tb] using e)
  |succ l=>
   cases l with
   |zero=>simpa [tb] using h2 k x (by simpa [tb] using e)
   |succ l=>simpa [tb] using e
 have hT:As (h::rest) (J::rest):=by
  intro l k
  cases l with
  |zero=>
   simp only[tb]
   cases hh:h k with
   |none=>trivial
   |some x=>rw[h2 k x hh];exact Bl.refl _
  |succ l=>exact Bl.refl _
 have src:∀ l k b,Heap.get (mI kb R f::H) l k=some b->(l=0/\kb<=k/\∃ b0,look R (k - kb)=some b0/\b=b0.imp kb/\tb (J::rest) l k=tb (t'::h::rest) 0 (k - kb))\/
   (Heap.get (R::f::H) (l+1) k=some b/\tb (J::rest) l k=tb (t'::h::rest) (l+1) k/\¬ (l=0/\kb<=k/\∃ b0,look R (k - kb)=some b0)):=by
  intro l k b hg
  have kj:Heap.get (R::f::H) (l+1) k=some b->tb (J::rest) l k=tb (t'::h::rest) (l+1) k:=by
   intro hg
   have hb:=hr.al (l+1) k b hg
   cases ht:tb (t'::h::rest) (l+1) k with
   |none=>rw[ht]at hb;cases hb
   |some x=>have:=hJ (l+1) k x ht;simpa using this
  cases l with
  |zero=>
   simp only[Heap.get,adV]at hg
   by_cases hk:kb<=k
   ·rw[if_pos hk]at hg
    cases hR:look R (k - kb) with
    |some b0=>
     rw[hR]at hg
     refine .inl ⟨rfl,hk,b0,rfl,(oi hg).symm,?_⟩
     have hb:=hr.al 0 (k - kb) b0 (by simpa [Heap.get] using hR)
     cases ht:tb (t'::h::rest) 0 (k - kb) with
     |none=>rw[ht]at hb;cases hb
     |some x=>
      have:=hJ 0 (k - kb) x ht
      simp only[if_true]at this
      rw[show kb+(k - kb)=k by omega]at this
      exact this
    |none=>
     rw[hR]at hg
     have bo:Heap.get (R::f::H) (0+1) k=some b:=by simpa [Heap.get] using hg
     exact .inr ⟨bo,kj bo,fun hh=>by obtain⟨_,_,b0,e⟩:=hh;cases e⟩
   ·rw[if_neg hk]at hg
    have bo:Heap.get (R::f::H) (0+1) k=some b:=by simpa [Heap.get] using hg
    exact .inr ⟨bo,kj bo,fun hh=>hk hh.2.1⟩
  |succ l=>
   have bo:Heap.get (R::f::H) (l+1+1) k=some b:=by simpa [Heap.get] using hg
   exact .inr ⟨bo,kj bo,fun hh=>by omega⟩
 refine⟨by have:=hr.len;simp at this ⊢;exact this,?_,?_,hr.bO,?_,hr.dh,hr.size,hr.cV,hr.ec⟩
 ·intro l k b hg
  rcases src l k b hg with ⟨rfl,hk,b0,fD,rfl,ht⟩|⟨bo,ht,_⟩
  ·rw[ht]
   have:=hr.al 0 (k - kb) b0 (by simpa [Heap.get] using fD)
   simp only[List.drop_zero]at this ⊢
   generalize tb (t'::h::rest) 0 (k - kb)=tt at this
   cases this with
   |box c cs hN hB=>
    obtain⟨cells,et,c1,c2,c3⟩:=hB
    refine .box c _ hN ⟨cells,et,c1,by rw[nu];exact c2,?_⟩
    intro o x v hx hv
    rw[lT,mS]at hx
    obtain⟨y,hy,rfl⟩:=hx
    have:=c3 o y v hy hv
    exact⟨by rw[abq];exact this.1,this.2.vT hJ rfl⟩
   |nil et esz=>exact .nil et esz
   |arr et esz es c cap hN hA=>exact .arr et esz es c cap hN hA
  ·rw[ht]
   have:=hr.al (l+1) k b bo
   refine this.mono (AZ.refl _) ?_ (fun _ _=>rfl)
   have e1:List.drop (l+1) (t'::h::rest)=List.drop l (h::rest):=by simp
   rw[e1]
   exact hT.drop l
 ·intro l1 k1 l2 k2 b1 b2 c g1 g2 t1 t2
  rcases src l1 k1 b1 g1 with ⟨rfl,bg,mi,eN,_,e1⟩|⟨mD,e1,n1⟩
  ·rw[e1]at t1
   rcases src l2 k2 b2 g2 with ⟨rfl,pQ,sI,jf,_,e2⟩|⟨tC,e2,n2⟩
   ·rw[e2]at t2
    have:=hr.inj 0 (k1 - kb) 0 (k2 - kb) mi sI c (by simpa [Heap.get] using eN) (by simpa [Heap.get] using jf) t1 t2
    exact⟨rfl,by omega⟩
   ·rw[e2]at t2
    have:=hr.inj 0 (k1 - kb) (l2+1) k2 mi b2 c (by simpa [Heap.get] using eN) tC t1 t2
    omega
  ·rw[e1]at t1
   rcases src l2 k2 b2 g2 with ⟨rfl,pQ,sI,jf,_,e2⟩|⟨tC,e2,n2⟩
   ·rw[e2]at t2
    have:=hr.inj (l1+1) k1 0 (k2 - kb) b1 sI c mD (by simpa [Heap.get] using jf) t1 t2
    omega
   ·rw[e2]at t2
    have:=hr.inj (l1+1) k1 (l2+1) k2 b1 b2 c mD tC t1 t2
    exact⟨by omega,this.2⟩
 ·intro l k b c o hg ht
  rcases src l k b hg with ⟨rfl,hk,b0,fD,_,e⟩|⟨bo,e,_⟩
  ·rw[e]at ht
   exact hr.dk 0 (k - kb) b0 c o (by simpa [Heap.get] using fD) ht
  ·rw[e]at ht
   exact hr.dk (l+1) k b c o bo ht
end Go.Abs
namespace Go.Abs
open Go Go.RowKit
section
variable [Md] {P:Program}{T:AM}{N0:Nat}{W0:World}{n:Nat}{fm:FM}{ts:List Ai}
theorem Bo.aoY {todo:List It}{ct:List BE} (h:Bo N0 W0 n fm ts todo ct):todo=[]->∀ {Q:Exit->Act->World->Prop}{a w},Q .normal a w->K P Q ct .normal a w:=by
 induction h with
 |nil=>intro _ Q a w h;exact h
 |gQ _ ih=>intro e Q a w h;exact ih e h
 |_=>intro e;cases e
theorem Bo.alb {todo:List It}{ct:List BE} (h:Bo N0 W0 n fm ts todo ct):∀ {id:Nat}{t:List It},todo=.al id::t->∃ bj,Bo N0 W0 n fm ts t bj/\∀ {Q:Exit->Act->World->Prop}{a w},K P Q bj .normal a w->K P Q ct .normal a w:=by
 induction h with
 |al ht _=>intro id t e;cases e;exact⟨_,ht,fun h=>h⟩
 |gQ _ ih=>intro id t e;obtain⟨bj,h1,h2⟩:=ih e;exact⟨bj,h1,fun h=>h2 h⟩
 |_=>intro id t e;cases e
theorem Bo.ak8 {todo:List It}{ct:List BE} (h:Bo N0 W0 n fm ts todo ct):∀ {B:St->Prop}{t:List It},todo=.back B::t->∀ {Q:Exit->Act->World->Prop}{st a w},SR N0 W0 n st a w fm ts->B st->K P Q ct .normal a w:=by
 induction h with
 |back h ht _=>intro B t e;cases e;intro Q st a w hS hB;exact h _ _ _ _ _ hB hS (Be.refl _ _)
 |gQ _ ih=>intro B t e Q st a w hS hB;exact ih e hS hB
 |_=>intro B t e;cases e
theorem Bo.aie {todo:List It}{ct:List BE} (h:Bo N0 W0 n fm ts todo ct):∀ {l:List Am}{t:List It},todo=.ops l::t->
  ∃ arr is bj,l.map jW=is.map (fun i=>my n arr (arr.getD i default))/\(∀ i∈is,i<arr.size)/\(∀ o∈l,∀ d,o.dst=some d->d<n)/\Bo N0 W0 n fm ts t bj/\
   ∀ {Q:Exit->Act->World->Prop}{a w},wpOpsIn FW 0 P arr (K P Q bj) is a w->K P Q ct .normal a w:=by
 induction h with
 |ops h hi hf ht _=>intro l t e;cases e;exact⟨_,_,_,h,hi,hf,ht,fun h=>h⟩
 |gQ _ ih=>intro l t e;obtain⟨arr,is,bj,h1,h2,h3,h4,h5⟩:=ih e;exact⟨arr,is,bj,h1,h2,h3,h4,fun h=>h5 h⟩
 |_=>intro l t e;cases e
theorem aii (n:Nat):∀ (c:Code) (t:List It) (ct:List BE),Bo N0 W0 n fm ts t ct->∃ c' bj,(∀ b,c'≠.scope b)/\erase n c'=erase n c/\Bo N0 W0 n fm ts t bj/\∀ {Q:Exit->Act->World->Prop}{a w},K P Q (.code c'::bj) .normal a w->K P Q (.code c::ct) .normal a w
 |.scope b,t,ct,h=>by
  obtain⟨c',bj,h1,h2,h3,h4⟩:=aii n b t (.gQ::ct) (.gQ h)
  exact⟨c',bj,h1,by rw[h2];rfl,h3,fun h=>Io (h4 h)⟩
 |.skip,t,ct,h=>⟨.skip,ct,by simp,rfl,h,fun h=>h⟩
 |.region a b c,t,ct,h=>⟨.region a b c,ct,by simp,rfl,h,fun h=>h⟩
 |.seq a b,t,ct,h=>⟨.seq a b,ct,by simp,rfl,h,fun h=>h⟩
 |.cond a b c,t,ct,h=>⟨.cond a b c,ct,by simp,rfl,h,fun h=>h⟩
 |.block a b,t,ct,h=>⟨.block a b,ct,by simp,rfl,h,fun h=>h⟩
 |.loop a,t,ct,h=>⟨.loop a,ct,by simp,rfl,h,fun h=>h⟩
 |.rangeFunc a b c d,t,ct,h=>⟨.rangeFunc a b c d,ct,by simp,rfl,h,fun h=>h⟩
 |.exit a,t,ct,h=>⟨.exit a,ct,by simp,rfl,h,fun h=>h⟩
 |.label a,t,ct,h=>⟨.label a,ct,by simp,rfl,h,fun h=>h⟩
 |.goto a,t,ct,h=>⟨.goto a,ct,by simp,rfl,h,fun h=>h⟩
 |.ret,t,ct,h=>⟨.ret,ct,by simp,rfl,h,fun h=>h⟩
 |.refuse a,t,ct,h=>⟨.refuse a,ct,by simp,rfl,h,fun h=>h⟩
theorem Bo.aeA {todo:List It}{ct:List BE} (h:Bo N0 W0 n fm ts todo ct):∀ {s:SC}{t:List It},todo=.sc s::t->
  ∃ c bj,(∀ b,c≠.scope b)/\s.bare=erase n c/\(erase n c).fits n=true/\Bo N0 W0 n fm ts t bj/\∀ {Q:Exit->Act->World->Prop}{a w},K P Q (.code c::bj) .normal a w->K P Q ct .normal a w:=by
 induction h with
 |sc h hf ht _=>
  intro s t e;cases e
  obtain⟨c',bj,h1,h2,h3,h4⟩:=aii (P:=P) n _ _ _ ht
  exact⟨c',bj,h1,by rw[h2];exact h,by rw[h2];exact hf,h3,fun h=>h4 h⟩
 |gQ _ ih=>intro s t e;obtain⟨c,bj,h1,h2,h3,h4,h5⟩:=ih e;exact⟨c,bj,h1,h2,h3,h4,fun h=>h5 h⟩
 |_=>intro s t e;cases e
theorem Bo.amI {todo:List It}{ct:List BE} (h:Bo N0 W0 n fm ts todo ct) (id:Nat):
  (∀ t,iZ id todo=some t->∃ bj,Bo N0 W0 n fm ts t bj/\∀ {Q:Exit->Act->World->Prop}{a w},K P Q bj .normal a w->K P Q ct (.exit id) a w)/\
  (iZ id todo=none->∀ {Q:Exit->Act->World->Prop}{a w},Q (.exit id) a w->K P Q ct (.exit id) a w):=by
 induction h with
 |nil=>exact⟨fun t e=>by simp[iZ]at e,fun _ Q a w h=>h⟩
 |sc _ _ _ ih=>exact⟨fun t e=>ih.1 t (by simpa [iZ] using e),fun e Q a w h=>ih.2 (by simpa [iZ] using e) h⟩
 |@al rF t ct ht ih=>
  by_cases yC:id=rF
  ·subst yC
   refine⟨fun t' e=>?_,fun e=>by simp[iZ]at e⟩
   simp only[iZ,if_true,oE]at e
   subst e
   exact⟨ct,ht,fun h=>by simp only[K,if_true];exact h⟩
  ·refine⟨fun t' e=>?_,fun e Q a w h=>?_⟩
   ·simp only[iZ,if_neg yC]at e
    obtain⟨bj,h1,h2⟩:=ih.1 t' e
    exact⟨bj,h1,fun h=>by simp only[K,if_neg yC];exact h2 h⟩
   ·simp only[iZ,if_neg yC]at e
    simp only[K,if_neg yC]
    exact ih.2 e h
 |gQ _ ih=>exact⟨fun t e=>by obtain⟨bj,h1,h2⟩:=ih.1 t e;exact⟨bj,h1,fun h=>h2 h⟩,fun e Q a w h=>ih.2 e h⟩
 |ops _ _ _ _ ih=>exact⟨fun t e=>ih.1 t (by simpa [iZ] using e),fun e Q a w h=>ih.2 (by simpa [iZ] using e) h⟩
 |back _ _ ih=>exact⟨fun t e=>ih.1 t (by simpa [iZ] using e),fun e Q a w h=>ih.2 (by simpa [iZ] using e) h⟩
theorem apM (n:Nat) (ops:Array Oper):ops.toList.map (my n ops)=(List.range ops.size).map fun i=>my n ops (ops.getD i default):=by
 apply List.ext_getElem?
 intro i
 simp only[Bw,Array.getElem?_toList]
 by_cases hi:i<ops.size
 ·simp[hi,Array.getD]
 ·simp[hi]
theorem SR.gA {n:Nat}{st:St}{a:Act}{w w':World} (h:SR N0 W0 n st a w fm ts) {v:Value}{av:AV}{aU:Av}{H':Heap}{fm':FM}{t':Ai}{ts':List Ai}
  (hr:HR N0 W0 fm' (t'::ts') (aU::H') w') (hv:VR fm' (t'::ts') av v) (hf:AN N0 fm fm') (hl:As ts ts') (hn:∀ l k,tb ts l k=none->tb ts' l k=none) (jc:∀ k,16<=k->t' k=none)
  (hlen:H'.length=st.low.length+1) {dst:Option Tmp} (hd:∀ d,dst=some d->d<n) (drop:List Nat):
  ∃ du,SR N0 W0 n (st.gA dst drop av aU H') (a.put dst v) w' fm' du/\Be N0 fm ts fm' du:=by
 cases H' with
 |nil=>simp at hlen
 |cons f H'=>
  cases ts' with
  |nil=>have:=hr.len;simp at this
  |cons h0 rest=>
   have kd:∀ k,st.nx<=k->h0 k=none:=by
    intro k hk
    have:=hn 0 k (h.nx k hk)
    simpa [tb] using this
   have hT:As (h0::rest) (ku st.nx t' h0::rest):=by
    intro l k
    cases l with
    |zero=>
     simp only[tb,ku]
     split
     ·rename_i hk;rw[kd k hk];trivial
     ·exact Bl.refl _
    |succ l=>exact Bl.refl _
   refine⟨ku st.nx t' h0::rest,⟨hr.imp kd,?_,?_,by rw[zQ];exact h.size,by rw[wh];exact h.dZ⟩,⟨hf,?_,?_⟩⟩
   ·exact(h.tm.mono hf.le (hl.trans hT)).put (hv.imp kd rfl) (by rw[h.size];exact hd) drop
   ·intro k hk
    have eT:st.nx+16<=k:=hk
    simp only[tb,ku]
    rw[if_pos (by omega)]
    exact jc _ (by omega)
   ·have:=hl.drop 1;simpa using this
   ·intro l k e
    rw[ff]at e
    have:=hn (l+1) k e
    simpa [tb] using this
theorem SR.lost {n:Nat}{st:St}{a:Act}{w w':World} (h:SR N0 W0 n st a w fm ts) {H':Heap}{fm':FM}{ts':List Ai}
  (hr:HR N0 W0 fm' ts' H' w') (hf:AN N0 fm fm') (hl:As ts ts') (hn:∀ l k,tb ts l k=none->tb ts' l k=none) (hlen:H'.length=st.low.length+1):
  SR N0 W0 n (st.uy H') a w' fm' ts'/\Be N0 fm ts fm' ts':=by
 cases H' with
 |nil=>simp at hlen
 |cons f H'=>
  refine⟨⟨hr,h.tm.mono hf.le hl,fun k hk=>hn 0 k (h.nx k hk),h.size,h.dZ⟩,⟨hf,hl.drop 1,?_⟩⟩
  intro l k e
  rw[ff]at e ⊢
  exact hn _ k e
theorem amE {t e:TypeId}{a:Option Addr}{n c m:Nat}{w:World} (bX:P.underlying t=some (.slice e)):(Op.equalIn (m+1) t (.slice a n c) (.slice none 0 0)).run P w=.ok a.isNone w:=by
 cases a<;>simp only[Op.equalIn,Sem.run_bind,run_underlying bX,Result.andThen_ok]<;>rfl
theorem amD {t e:TypeId}{a:Option Addr}{n c:Nat}{w:World} (bX:P.underlying t=some (.slice e)):(binOp .eql t (.slice a n c) (.slice none 0 0)).run P w=.ok (.bool a.isNone) w:=by
 have h:(Op.equalIn Op.maxDepth t (.slice a n c) (.slice none 0 0)).run P w=.ok a.isNone w:=amE bX
 simp[binOp,Op.equal,h]
theorem xu {tm:Tm}{a:Act}{w:World} (eG:CV fm ts tm a) {c:Call}{f:FuncId}{args:List AV} (fE:callee tm c=some (f,args)) {s:Am} (hc:ke s.op=some c) {o:Oper} (lL:s.op=o.op) (hE:Enters P f):
  ∃ vs:List Value,Au fm ts args vs/\(execOp a.eval o).run P w=.ok (.enter f vs.toArray) w/\∀ c0,o.op≠.defer c0:=by
 unfold ke at hc
 split at hc
 ·rename_i c' nm
  split at hc
  ·cases hc
  ·obtain rfl:=oi hc
   unfold callee at fE
   split at fE
   ·rename_i g hcf
    split at fE
    ·rename_i g' first cap xs hof fX
     simp only[oE,Prod.mk.injEq]at fE
     obtain⟨rfl,rfl⟩:=fE
     have hvf:=rT eG hof
     have eU:=zI eG _ _ fX
     obtain⟨vf,vc,vJ,gq,kO,pX,yS⟩:∃ vf vc,a.eval g=.func (.func g') vf vc/\first.length=vf.size/\cap.length=vc.size/\(∀ (i:Nat) x v,first[i]?=some x->vf[i]?=some v->VR fm ts x v)/\(∀ (i:Nat) x v,cap[i]?=some x->vc[i]?=some v->VR fm ts x v):=by
      generalize a.eval g=z at hvf
      cases hvf with
      |fn _ _ _ vf vc h1 h2 h3 h4=>exact⟨vf,vc,rfl,h1,h2,h3,h4⟩
     have fk:Au fm ts (first++(xs++cap)) (vf.toList++(c'.args.toList.map a.eval++vc.toList)):=
      Au.append ⟨by simpa using gq,fun i x v p q=>pX i x v p (by simpa using q)⟩ (Au.append eU ⟨by simpa using kO,fun i x v p q=>yS i x v p (by simpa using q)⟩)
     obtain⟨fn,tz,jj,hbd⟩:=hE
     have ahj:o.op=.call c':=by rw[<-lL];exact nm
     have bf:(execOp a.eval o).run P w=.ok (.enter g' ((vf.toList++(c'.args.toList.map a.eval++vc.toList)).toArray)) w:=by
      have e1:vf++Array.map a.eval c'.args++vc=(vf.toList++(c'.args.toList.map a.eval++vc.toList)).toArray:=by
       apply Array.toList_inj.1;simp
      simp only[execOp,ahj,resolve,hcf,Sem.run_bind,Deferred.ofValue,vJ,Sem.run_pure,Result.andThen_ok,invoke,callFunc,run_program,tz,jj,hbd,C0,if_false,e1]
     exact⟨_,fk,bf,fun c0 h0=>by rw[ahj]at h0;cases h0⟩
    ·cases fE
   ·cases fE
 ·cases hc
theorem gO (hT:AQ P T) {Φ:Exit->St->Prop}:∀ (m:Nat) (todo:List It) (st:St),AJ P n Φ (run T m todo st)->AK P n Φ todo st
 |0,todo,st,h=>by simp only[run,AJ]at h
 |m+1,[],st,h=>by
  intro N0 W0 fm ts a w ct Q hS fU hQ
  simp only[run,AJ]at h
  exact fU.aoY rfl (hQ _ _ _ _ _ _ h hS (Be.refl _ _))
 |m+1,.back B::t,st,h=>by
  intro N0 W0 fm ts a w ct Q hS fU hQ
  simp only[run,AJ]at h
  exact fU.ak8 rfl hS h
 |m+1,.al id::t,st,h=>by
  intro N0 W0 fm ts a w ct Q hS fU hQ
  simp only[run]at h
  obtain⟨bj,h1,h2⟩:=fU.alb (P:=P) rfl
  exact h2 (gO hT m t st h N0 W0 fm ts a w bj Q hS h1 hQ)
 |m+1,.ops []::t,st,h=>by
  intro N0 W0 fm ts a w ct Q hS fU hQ
  simp only[run]at h
  obtain⟨arr,is,bj,h1,h2,h3,h4,h5⟩:=fU.aie (P:=P) rfl
  cases is with
  |nil=>exact h5 (gO hT m t st h N0 W0 fm ts a w bj Q hS h4 hQ)
  |cons=>simp at h1
 |m+1,.ops (o::os)::t,st,h=>by
  intro N0 W0 fm ts a w ct Q hS fU hQ
  obtain⟨arr,is,bj,h1,h2,h3,h4,h5⟩:=fU.aie (P:=P) rfl
  cases is with
  |nil=>simp at h1
  |cons i is=>
   simp only[List.map_cons,List.cons.injEq]at h1
   obtain⟨h1,tf⟩:=h1
   have hi:i<arr.size:=h2 i List.mem_cons_self
   have dJ:arr[i]?=some arr[i]:=Bu hi
   have yz:arr.getD i default=arr[i]:=by simp[Array.getD,hi]
   rw[yz]at h1
   simp only[jW,my,Am.mk.injEq,and_true]at h1
   obtain⟨ni,lL,hty,jF⟩:=h1
   have hd:∀ d,o.dst=some d->d<n:=h3 o List.mem_cons_self
   have y4:∀ {fm' ts'},Be N0 fm ts fm' ts'->Bo N0 W0 n fm' ts' (.ops os::t) (.ops arr is::bj):=fun hl=>
    (Bo.ops tf (fun j hj=>h2 j (List.mem_cons_of_mem _ hj)) (fun o ho=>h3 o (List.mem_cons_of_mem _ ho)) h4).later hl
   apply h5
   simp only[wpOpsIn,dJ]
   have agd:∀ (m':Nat),(∀ todo st,AJ P n Φ (run T m' todo st)->AK P n Φ todo st)->AJ P n Φ (aa5 T (run T m') o (.ops os::t) st)->(arr[i]).wpIn FW 0 P a w (wpOpsIn FW 0 P arr (K P Q bj) is) (K P Q bj):=by
    intro m' zg h
    unfold aa5 at h
    split at h
    ·
     rename_i c hc
     unfold ad8 at h
     split at h
     ·rename_i g args fE
      simp only[AJ]at h
      obtain⟨fZ,gU,R,Rp,hmv,⟨hE,hac⟩,hk,hpk⟩:=h
      obtain⟨vs,fk,bf,bW⟩:=xu (w:=w) hS.tm fE hc lL hE
      have adt:Au fm (cM::ts) (AV.dg 1 args) vs:=by
       refine⟨by rw[mT];exact fk.1,?_⟩
       intro i x v hx hv
       rw[mR,mS]at hx
       obtain⟨y,hy,rfl⟩:=hx
       exact(fk.2 i y v hy hv).sh 1 (by simp)
      obtain⟨dU,dN,dt,jB,am6⟩:=hmv N0 W0 a w fm ts _ hS adt
      refine zJ bW bf ?_
      refine Calls.mono (hac N0 W0 dU dN w _ dt.hr am6) ?_
      rintro e w' (⟨v,av,aU,H',fm',t',ts',rfl,hR,adC,bY,bq,dB,lM,bx,jc⟩|⟨ch,H',fm',ts',rfl,hR,adC,bY,dB,lM,bx⟩)
      ·have hlen:H'.length=fZ.low.length+1:=by simpa using adC
       obtain⟨du,eM,dI⟩:=dt.gA bY bq dB lM bx jc hlen hd o.drop
       have j9:=hk av aU H' hR N0 W0 fm' du _ w' (.ops arr is::bj) Q eM (y4 (jB.trans dI)) (fun e ao a' w' iI jT jm ic jC=>hQ e ao a' w' iI jT jm ic ((jB.trans dI).trans jC))
       rw[ni]at j9
       exact j9
      ·have hlen:H'.length=fZ.low.length+1:=by simpa using adC
       obtain⟨eM,dI⟩:=dt.lost bY dB lM bx hlen
       exact DM (hQ _ _ _ _ _ _ (hpk ch H' hR) eM (jB.trans dI)) bj
     ·simp only[AJ]at h
    ·
     split at h
     ·
      rename_i x ot
      unfold adQ at ot
      split at ot
      ·rename_i x' hox
       obtain rfl:=oi ot
       unfold aeJ at h
       split at h
       ·rename_i v hv
        simp only[AJ]at h
        obtain⟨t0,x0,rfl,hk⟩:=h
        have bq:=rT hS.tm hv
        have ahl:(arr[i]).op=.panic x':=by rw[<-lL];exact hox
        generalize vJ:a.eval x'=z at bq
        cases bq with
        |bR _ _ u hu=>
         have bf:(execOp a.eval arr[i]).run P w=.halt (.panic (.iface t0 u)) w:=by
          simp only[execOp,ahl,vJ,Instr.panic,goPanic]
          rfl
         refine apg (fun c0 h0=>by rw[ahl]at h0;cases h0) bf ?_
         exact DM (hQ _ _ _ _ _ _ (hk fm ts u hu) hS (Be.refl _ _)) bj
       ·simp only[AJ]at h
      ·cases ot
     cases bh:abB T o.op (look st.tm) with
     |some es=>
      rw[bh]at h
      simp only[zM,AJ]at h
      obtain⟨bg,pQ⟩:=h
      unfold abB at bh
      split at bh
      ·rename_i tt x ty0 hoo
       split at bh
       ·rename_i ti hti
        split at bh
        ·rename_i el ym
         split at bh
         ·rename_i ez es' hx
          obtain rfl:=oi bh
          obtain⟨bX,_⟩:=hT.slice hti ym
          obtain⟨v,hv,bq⟩:=hS.tm x _ hx
          obtain⟨aa,nn,cc,rfl,tL⟩:∃ aa nn cc,v=.slice aa nn cc/\(aa=none->es'=[]):=by
           cases bq with
           |cg=>exact⟨_,_,_,rfl,fun _=>rfl⟩
           |sl=>exact⟨_,_,_,rfl,fun h=>by cases h⟩
          have vJ:a.eval (.tmp x)=.slice aa nn cc:=by simp[Act.eval,hv,Array.getD_eq_getD_getElem?]
          have ahk:(arr[i]).op=.binOp .eql tt (.tmp x) (.const (.slice none 0 0)) ty0:=by rw[<-lL];exact hoo
          have bf:(execOp a.eval arr[i]).run P w=.ok (.value (.bool aa.isNone)) w:=by
           have h1:=amD (P:=P) (a:=aa) (n:=nn) (c:=cc) (w:=w) bX
           have h2:a.eval (.const (.slice none 0 0))=.slice none 0 0:=by simp[Act.eval]
           simp only[execOp,ahk,vJ,h2]
           exact eb h1
          have ho:∀ b:Bool,aa.isNone=b->Out N0 W0 fm ts (st.fr::st.low) w st.nx ((execOp a.eval arr[i]).run P w) ⟨.bool b,[]⟩ fm ts w (.bool b):=fun b hb=>
           ⟨.inl (by rw[bf,hb]),hS.hr,.bool b,AN.refl _ _,As.refl _,fun _ _ _ h=>h⟩
          refine zK (fun c0 h0=>by rw[ahk]at h0;cases h0) bf ?_
          cases hb:aa.isNone with
          |true=>
           obtain⟨eM,dI⟩:=hS.by (ho true hb) hd o.drop
           have oc:es'=[]:=tL (by simpa using hb)
           have j9:=bg oc N0 W0 fm ts _ w (.ops arr is::bj) Q eM (y4 dI) (fun e ao a' w' iI jT jm ic jC=>hQ e ao a' w' iI jT jm ic (dI.trans jC))
           rw[ni]at j9
           exact j9
          |false=>
           obtain⟨eM,dI⟩:=hS.by (ho false hb) hd o.drop
           have j9:=pQ N0 W0 fm ts _ w (.ops arr is::bj) Q eM (y4 dI) (fun e ao a' w' iI jT jm ic jC=>hQ e ao a' w' iI jT jm ic (dI.trans jC))
           rw[ni]at j9
           exact j9
         ·cases bh
        ·cases bh
       ·cases bh
      ·cases bh
     |none=>
     rw[bh]at h
     simp only[zM]at h
     unfold next at h
     split at h
     ·rename_i d rn
      have hG:st.get=Heap.get (st.fr::st.low):=rfl
      rw[lL,hty,hG]at rn
      obtain⟨fm',ts',w',v,ho⟩:=ah7 (P:=P) hT hS.hr (by simp) (fun k h1 _=>hS.nx k h1) hS.tm rn
      obtain⟨eM,dI⟩:=hS.by ho hd o.drop
      have j9:=zg _ _ h N0 W0 fm' ts' _ w' (.ops arr is::bj) Q eM (y4 dI) (fun e ao a' w' iI jT jm ic jC=>hQ e ao a' w' iI jT jm ic (dI.trans jC))
      rw[ni]at j9
      have bW:∀ c,(arr[i]).op≠.defer c:=fun c0 h0=>by rw[h0]at rn;simp[bE]at rn
      rcases ho.done with hr|⟨hr,rfl⟩
      ·exact zK bW hr j9
      ·exact aeh bW hr j9
     ·simp only[AJ]at h
   have lZ:∀ (m':Nat),(∀ todo st,AJ P n Φ (run T m' todo st)->AK P n Φ todo st)->AJ P n Φ (run T m' (.ops os::t) (st.lZ o))->wpOpsIn FW 0 P arr (K P Q bj) is (a.put (arr[i]).dst undef) w:=by
    intro m' zg h
    have eM:=hS.lZ hd
    have j9:=zg _ _ h N0 W0 fm ts _ w (.ops arr is::bj) Q eM (y4 (Be.refl _ _)) hQ
    rw[ni]at j9
    exact j9
   cases hg:o.guard with
   |none=>
    rw[hg]at jF
    have hw:Region.wanted arr[i] (yielded arr a.tmps)=true:=by
     have:(arr[i]).guard=none:=by
      cases hh:(arr[i]).guard with
      |none=>rfl
      |some g=>rw[hh]at jF;cases jF
     simp[Region.wanted,this]
    simp only[run,hg]at h
    rw[if_pos hw]
    exact agd m (gO hT m) h
   |some g=>
    obtain⟨g,want⟩:=g
    rw[hg]at jF
    obtain⟨j,hj,ei⟩:∃ j,(arr[i]).guard=some (j,want)/\(((arr[j]?).bind (·.dst)).getD n)=g:=by
     cases hh:(arr[i]).guard with
     |none=>rw[hh]at jF;cases jF
     |some p=>
      rw[hh]at jF
      simp only[A5,oE,Prod.mk.injEq]at jF
      exact⟨p.1,by rw[jF.2],jF.1.symm⟩
    have lP:∀ v,a.tmps[g]?=some v->yielded arr a.tmps j=match v with|.bool b=>some b|_=>none:=by
     intro v hv
     unfold yielded
     cases hb:(arr[j]?).bind (·.dst) with
     |none=>
      rw[hb]at ei
      simp only[Option.getD_none]at ei
      have:=(CF.1 hv).1
      rw[hS.size]at this
      subst ei
      exact absurd this (Nat.lt_irrefl _)
     |some dd=>
      rw[hb]at ei
      simp only[Option.getD_some]at ei
      subst ei
      simp only[Af,hv]
      cases v<;>rfl
    simp only[run,hg]at h
    split at h
    ·rename_i b hb
     obtain⟨v,hv,bq⟩:=hS.tm g _ hb
     cases bq
     have hw:Region.wanted arr[i] (yielded arr a.tmps)=(b==want):=by
      simp[Region.wanted,hj,lP _ hv]
     rw[hw]
     cases jg:(b==want) with
     |true=>
      rw[jg,aeL]at h
      rw[if_pos rfl]
      cases m with
      |zero=>simp only[run,AJ]at h
      |succ m=>
       simp only[run]at h
       exact agd m (gO hT m) h
     |false=>
      rw[jg,aeK]at h
      simp only[C0,if_false]
      exact⟨fun _ _=>trivial,lZ m (gO hT m) h⟩
    ·rename_i hb
     obtain⟨v,hv,bq⟩:=hS.tm g _ hb
     have hw:Region.wanted arr[i] (yielded arr a.tmps)=false:=by
      have:yielded arr a.tmps j=none:=by rw[lP _ hv];cases bq;rfl
      simp[Region.wanted,hj,this]
     rw[hw]
     simp only[C0,if_false]
     exact⟨fun _ _=>trivial,lZ m (gO hT m) h⟩
    ·simp only[AJ]at h
 |m+1,.sc s::t,st,h=>by
  intro N0 W0 fm ts a w ct Q hS fU hQ
  obtain⟨c,bj,lK,hb,hf,ht,hK⟩:=fU.aeA (P:=P) rfl
  apply hK
  cases s with
  |skip=>
   simp only[run]at h
   have:=gO hT m t st h N0 W0 fm ts a w bj Q hS ht hQ
   cases c<;>simp only[SC.bare,erase,reduceCtorEq]at hb
   case skip=>exact Iq this
   case label=>exact Ig this
   case region id ops dr=>cases dr<;>simp[erase]at hb
   case scope b=>exact absurd rfl (lK b)
  |kY ops=>
   simp only[run]at h
   cases c<;>try (simp only[SC.bare,erase,reduceCtorEq]at hb;done)
   case region id arr dr=>
    cases dr with
    |true=>simp[SC.bare,erase]at hb
    |false=>
     simp only[SC.bare,erase,SC.kY.injEq]at hb
     refine FC ?_
     refine gO hT m _ st h N0 W0 fm ts a w _ Q hS ?_ hQ
     refine .ops (by rw[hb,apM]) (by simp) ?_ ht
     simp only[erase,SC.fits,List.all_eq_true]at hf
     intro o ho d hd
     have:jW o∈ops.map jW:=List.mem_map_of_mem ho
     rw[hb]at this
     have:=hf _ this
     simp only[jW,hd]at this
     simpa using this
   case scope b=>exact absurd rfl (lK b)
  |aL ops mj drop=>
   simp only[run,AJ]at h
   exact h N0 W0 fm ts a w (.code c::bj) Q hS (.sc hb hf ht) hQ
  |mark b=>
   simp only[run,AJ]at h
   exact h N0 W0 fm ts a w (.code c::bj) Q hS (.sc (by simpa only [SC.bare] using hb) hf ht) hQ
  |seq x y=>
   simp only[run]at h
   cases c<;>simp only[SC.bare,erase,reduceCtorEq]at hb
   case seq cx cy=>
    simp only[SC.seq.injEq]at hb
    simp only[erase,SC.fits,A7]at hf
    exact CY (gO hT m _ st h N0 W0 fm ts a w _ Q hS (.sc hb.1 hf.1 (.sc hb.2 hf.2 ht)) hQ)
   case region id ops dr=>cases dr<;>simp[erase]at hb
   case scope b=>exact absurd rfl (lK b)
  |cond cc x y=>
   simp only[run]at h
   cases c<;>simp only[SC.bare,erase,reduceCtorEq]at hb
   case cond c1 cx cy=>
    simp only[SC.cond.injEq]at hb
    obtain⟨rfl,hbx,hby⟩:=hb
    simp only[erase,SC.fits,A7]at hf
    split at h
    ·rename_i b hbv
     have hv:=rT hS.tm hbv
     have he:a.eval cc=.bool b:=by
      generalize a.eval cc=z at hv
      cases hv;rfl
     refine Ib he ?_
     cases b with
     |true=>rw[aeL]at h;exact gO hT m _ st h N0 W0 fm ts a w _ Q hS (.sc hbx hf.1 ht) hQ
     |false=>rw[aeK]at h;exact gO hT m _ st h N0 W0 fm ts a w _ Q hS (.sc hby hf.2 ht) hQ
    ·simp only[AJ]at h
   case region id ops dr=>cases dr<;>simp[erase]at hb
   case scope b=>exact absurd rfl (lK b)
  |block id b=>
   simp only[run]at h
   cases c<;>simp only[SC.bare,erase,reduceCtorEq]at hb
   case block rF cb=>
    simp only[SC.block.injEq]at hb
    obtain⟨rfl,hb⟩:=hb
    simp only[erase,SC.fits]at hf
    exact D6 (gO hT m _ st h N0 W0 fm ts a w _ Q hS (.sc hb hf (.al ht)) hQ)
   case region id ops dr=>cases dr<;>simp[erase]at hb
   case scope b=>exact absurd rfl (lK b)
  |loop b=>
   simp only[run,AJ]at h
   exact h N0 W0 fm ts a w (.code c::bj) Q hS (.sc hb hf ht) hQ
  |exit id=>
   simp only[run]at h
   cases c<;>simp only[SC.bare,erase,reduceCtorEq]at hb
   case exit rF=>
    simp only[SC.exit.injEq]at hb
    subst hb
    refine Ie ?_
    have hx:=ht.amI (P:=P) id
    split at h
    ·rename_i t' eF
     obtain⟨ct2,h1,h2⟩:=hx.1 t' eF
     exact h2 (gO hT m t' st h N0 W0 fm ts a w ct2 Q hS h1 hQ)
    ·rename_i hn
     simp only[AJ]at h
     exact hx.2 hn (hQ _ _ _ _ _ _ h hS (Be.refl _ _))
   case region id ops dr=>cases dr<;>simp[erase]at hb
   case scope b=>exact absurd rfl (lK b)
  |ret=>
   simp only[run,AJ]at h
   cases c<;>simp only[SC.bare,erase,reduceCtorEq]at hb
   case ret=>exact Im (Dw (hQ _ _ _ _ _ _ h hS (Be.refl _ _)) _)
   case region id ops dr=>cases dr<;>simp[erase]at hb
   case scope b=>exact absurd rfl (lK b)
  |other=>simp only[run,AJ]at h
end
section
variable [Md] {P:Program}{T:AM}{N0:Nat}{W0:World}{n:Nat}{fm:FM}{ts:List Ai}{Φ:Exit->St->Prop}
def Ah (n:Nat) (st ao:St):Prop:=∀ N0 W0 a w fm ts,SR N0 W0 n st a w fm ts->∃ fm' ts',SR N0 W0 n ao a w fm' ts'/\Be N0 fm ts fm' ts'
theorem Ah.trans {n:Nat}{a b c:St} (h:Ah n a b) (k:Ah n b c):Ah n a c:=by
 intro N0 W0 x w fm ts hS
 obtain⟨f1,t1,h1,h2⟩:=h N0 W0 x w fm ts hS
 obtain⟨f2,t2,h3,h4⟩:=k N0 W0 x w f1 t1 h1
 exact⟨f2,t2,h3,h2.trans h4⟩
theorem AK.sv {todo:List It}{st ao:St} (hw:Ah n st ao) (h:AK P n Φ todo ao):AK P n Φ todo st:=by
 intro N0 W0 fm ts a w ct Q hS fU hQ
 obtain⟨fm',ts',h1,h2⟩:=hw N0 W0 a w fm ts hS
 exact h N0 W0 fm' ts' a w ct Q h1 (fU.later h2) (fun e s x w' f t jm hs hl=>hQ e s x w' f t jm hs (h2.trans hl))
theorem AK.mono {Ψ:Exit->St->Prop} (jm:∀ e st,Φ e st->Ψ e st) {todo:List It}{st:St} (h:AK P n Φ todo st):AK P n Ψ todo st:=by
 intro N0 W0 fm ts a w ct Q hS fU hQ
 exact h N0 W0 fm ts a w ct Q hS fU (fun e s x w' f t hp hs hl=>hQ e s x w' f t (jm e s hp) hs hl)
theorem AK.loop (Inv:Nat->St->Prop) (m:Nat) {st wM:St}{b:SC}{todo:List It} (hw:Ah n st wM) (h0:Inv m wM)
  (h:∀ m st,Inv m st->AK P n Φ (.sc b::.back (fun ao=>∃ ab0 m',m'<m/\Ah n ao ab0/\Inv m' ab0)::todo) st):AK P n Φ (.sc (.loop b)::todo) st:=by
 refine AK.sv hw ?_
 intro N0 W0 fm ts a w ct Q hS fU hQ
 obtain⟨c,bj,lK,hb,hf,ht,hK⟩:=fU.aeA (P:=P) rfl
 apply hK
 cases c<;>simp only[SC.bare,erase,reduceCtorEq]at hb
 case loop cb=>
  simp only[SC.loop.injEq]at hb
  simp only[erase,SC.fits]at hf
  refine FA (fun m a w=>∃ st fm' ts',Inv m st/\SR N0 W0 n st a w fm' ts'/\Be N0 fm ts fm' ts') m ⟨wM,fm,ts,h0,hS,Be.refl _ _⟩ ?_
  rintro m a w ⟨st,fm',ts',hI,cK,hL⟩
  refine h m st hI N0 W0 fm' ts' a w _ Q cK (.sc hb hf (.back ?_ (ht.later hL))) (fun e s x w' f t hp hs hl=>hQ e s x w' f t hp hs (hL.trans hl))
  rintro ao a' w' dV du ⟨ab0,m',ae,tS,hI'⟩ eM dI
  obtain⟨iI,jT,h3,h4⟩:=tS N0 W0 a' w' dV du eM
  exact⟨m',ae,ab0,iI,jT,hI',h3,(hL.trans dI).trans h4⟩
 case region id ops dr=>cases dr<;>simp[erase]at hb
 case scope b=>exact absurd rfl (lK b)
def idx:List Nat->Nat->Option Nat
 |[],_=>none
 |x::l,k=>if x=k then some 0 else (idx l k).map (·+1)
theorem adO:∀ (ks:List Nat) (k i:Nat),idx ks k=some i->ks[i]?=some k
 |[],k,i,h=>by simp[idx]at h
 |x::l,k,i,h=>by
  simp only[idx]at h
  split at h
  ·rename_i e
   obtain rfl:=oi h
   simp[e]
  ·simp only[mS]at h
   obtain⟨j,h1,rfl⟩:=h
   simpa using adO l k j h1
def qx (ks:List Nat) (l k:Nat):Option Nat:=
 match l with
 |0=>idx ks k
 |_+1=>some k
mutual
def AV.aQ (ks:List Nat):AV->Option AV
 |.loc l k e i n g=>(qx ks l k).map fun k=>.loc l k e i n g
 |.bF l k e o n=>(qx ks l k).map fun k=>.bF l k e o n
 |.ptr l k o=>(qx ks l k).map fun k=>.ptr l k o
 |.bu l k e i o g=>(qx ks l k).map fun k=>.bu l k e i o g
 |.fn f a b=>match AV.dK ks a,AV.dK ks b with
  |some a,some b=>some (.fn f a b)
  |_,_=>none
 |.bR t v=>(v.aQ ks).map (.bR t)
 |.agg cs=>(AV.dK ks cs).map .agg
 |.ar vs=>(AV.dK ks vs).map .ar
 |.bool b=>some (.bool b)
 |.int k n=>some (.int k n)
 |.str s=>some (.str s)
 |.nil=>some .nil
 |.sl e es=>some (.sl e es)
 |.bG=>some .bG
 |.aA e es i o=>some (.aA e es i o)
 |.bP=>some .bP
 |.bS=>some .bS
 |.raw r_=>some (.raw r_)
 |.dead=>some .dead
def AV.dK (ks:List Nat):List AV->Option (List AV)
 |[]=>some []
 |x::l=>match x.aQ ks,AV.dK ks l with
  |some x,some l=>some (x::l)
  |_,_=>none
end
def eY (ks:List Nat) (t:Ai):Ai:=fun i=>(ks[i]?).bind t
theorem qC {ks:List Nat}{t:Ai}{rest:List Ai}{l k k':Nat} (h:qx ks l k=some k'):tb (eY ks t::rest) l k'=tb (t::rest) l k:=by
 cases l with
 |zero=>simp only[tb,eY,adO ks k k' h,Af]
 |succ l=>simp only[qx,oE]at h;subst h;rfl
theorem ug (ks:List Nat):∀ (cs ys:List AV),AV.dK ks cs=some ys->ys.length=cs.length/\∀ (i:Nat) (x:AV),cs[i]?=some x->∃ y,ys[i]?=some y/\x.aQ ks=some y
 |[],ys,h=>by simp only[AV.dK,oE]at h;subst h;simp
 |x::l,ys,h=>by
  simp only[AV.dK]at h
  split at h
  ·rename_i a b ha hb
   obtain rfl:=oi h
   have ih:=ug ks l b hb
   refine⟨by simp[ih.1],?_⟩
   intro i z hz
   cases i with
   |zero=>simp only[BU,oE]at hz;subst hz;exact⟨a,by simp,ha⟩
   |succ i=>simp only[Ca]at hz ⊢;exact ih.2 i z hz
  ·cases h
theorem aiB {ks:List Nat}{x y:AV} (h:x.aQ ks=some y):y.flat=x.flat:=by
 cases x with
 |fn f a b=>
  simp only[AV.aQ]at h
  split at h
  ·obtain rfl:=oi h;simp[AV.flat]
  ·cases h
 |_=>
  first
  |(simp only[AV.aQ,oE]at h;subst h;simp[AV.flat];done)
  |(simp only[AV.aQ,mS]at h;obtain⟨a,_,rfl⟩:=h;simp[AV.flat];done)
theorem VR.aQ {ks:List Nat}{t:Ai}{rest:List Ai}{ga:List Ai}{x:AV}{v:Value} (hv:VR fm ga x v):ga=t::rest->∀ {y:AV},x.aQ ks=some y->VR fm (eY ks t::rest) y v:=by
 induction hv with
 |bool b=>intro _ y e;simp only[AV.aQ,oE]at e;subst e;exact .bool b
 |int k n=>intro _ y e;simp only[AV.aQ,oE]at e;subst e;exact .int k n
 |str s=>intro _ y e;simp only[AV.aQ,oE]at e;subst e;exact .str s
 |nil=>intro _ y e;simp only[AV.aQ,oE]at e;subst e;exact .nil
 |cg e a cap=>intro _ y e;simp only[AV.aQ,oE]at e;subst e;exact .cg _ a cap
 |sl es cb off esz cap u bV h1 h2 h3 h4 _=>intro _ y e;simp only[AV.aQ,oE]at e;subst e;exact .sl es cb off esz cap u bV h1 h2 h3 h4
 |cI l k esz i n g a cp h dW ha=>
  rintro rfl y e;simp only[AV.aQ,mS]at e;obtain⟨k',hk,rfl⟩:=e;exact .cI _ _ esz i n g a cp ((qC hk).trans h) dW ha
 |cJ l k esz i n g a cp m' c h ae dW ha=>
  rintro rfl y e;simp only[AV.aQ,mS]at e;obtain⟨k',hk,rfl⟩:=e;exact .cJ _ _ esz i n g a cp m' c ((qC hk).trans h) ae dW ha
 |cv l k esz a h=>
  rintro rfl y e;simp only[AV.aQ,mS]at e;obtain⟨k',hk,rfl⟩:=e;exact .cv _ _ esz a ((qC hk).trans h)
 |loc l k esz i n g c cap cp a h dW bI hc ha=>
  rintro rfl y e;simp only[AV.aQ,mS]at e;obtain⟨k',hk,rfl⟩:=e;exact .loc _ _ esz i n g c cap cp a ((qC hk).trans h) dW bI hc ha
 |bF l k esz o n c cp a h dW ha=>
  rintro rfl y e;simp only[AV.aQ,mS]at e;obtain⟨k',hk,rfl⟩:=e;exact .bF _ _ esz o n c cp a ((qC hk).trans h) dW ha
 |bG=>intro _ y e;simp only[AV.aQ,oE]at e;subst e;exact .bG
 |ptr l k o c h=>
  rintro rfl y e;simp only[AV.aQ,mS]at e;obtain⟨k',hk,rfl⟩:=e;exact .ptr _ _ o c ((qC hk).trans h)
 |eA l k esz i o g a h=>
  rintro rfl y e;simp only[AV.aQ,mS]at e;obtain⟨k',hk,rfl⟩:=e;exact .eA _ _ esz i o g a ((qC hk).trans h)
 |eC l k esz i o g a m' c h ae=>
  rintro rfl y e;simp only[AV.aQ,mS]at e;obtain⟨k',hk,rfl⟩:=e;exact .eC _ _ esz i o g a m' c ((qC hk).trans h) ae
 |bu l k esz i o g c cap h=>
  rintro rfl y e;simp only[AV.aQ,mS]at e;obtain⟨k',hk,rfl⟩:=e;exact .bu _ _ esz i o g c cap ((qC hk).trans h)
 |aA es i o cb off esz u h1 h2 h3 h4 _=>intro _ y e;simp only[AV.aQ,oE]at e;subst e;exact .aA es i o cb off esz u h1 h2 h3 h4
 |bP=>intro _ y e;simp only[AV.aQ,oE]at e;subst e;exact .bP
 |fn f first cap vf vc h1 h2 _ _ im iq=>
  intro e0 y e
  simp only[AV.aQ]at e
  split at e
  ·rename_i a b ha hb
   obtain rfl:=oi e
   have g1:=ug ks _ _ ha
   have g2:=ug ks _ _ hb
   refine .fn f _ _ vf vc (g1.1.trans h1) (g2.1.trans h2) ?_ ?_
   ·intro i x v hx hv
    have ae:i<first.length:=by rw[<-g1.1];exact(gS.1 hx).1
    obtain⟨z,hz,hr⟩:=g1.2 i _ (gG ae)
    rw[hx]at hz;obtain rfl:=oi hz
    exact im i _ v (gG ae) hv e0 hr
   ·intro i x v hx hv
    have ae:i<cap.length:=by rw[<-g2.1];exact(gS.1 hx).1
    obtain⟨z,hz,hr⟩:=g2.2 i _ (gG ae)
    rw[hx]at hz;obtain rfl:=oi hz
    exact iq i _ v (gG ae) hv e0 hr
  ·cases e
 |bS=>intro _ y e;simp only[AV.aQ,oE]at e;subst e;exact .bS
 |raw r_ jl=>intro _ y e;simp only[AV.aQ,oE]at e;subst e;exact .raw r_ jl
 |bR t x v _ ih=>
  intro e0 y e
  simp only[AV.aQ,mS]at e
  obtain⟨z,hz,rfl⟩:=e
  exact .bR t _ v (ih e0 hz)
 |agg cs vs h1 h2 _ ih=>
  intro e0 y e
  simp only[AV.aQ,mS]at e
  obtain⟨z,hz,rfl⟩:=e
  have g:=ug ks _ _ hz
  refine .agg _ vs (g.1.trans h1) ?_ ?_
  ·intro x hx
   obtain⟨i,hi⟩:=BC.1 hx
   have ae:i<cs.length:=by rw[<-g.1];exact(gS.1 hi).1
   obtain⟨q,hq,hr⟩:=g.2 i _ (gG ae)
   rw[hi]at hq;obtain rfl:=oi hq
   rw[aiB hr];exact h2 _ (List.getElem_mem ae)
  ·intro i x v hx hv
   have ae:i<cs.length:=by rw[<-g.1];exact(gS.1 hx).1
   obtain⟨q,hq,hr⟩:=g.2 i _ (gG ae)
   rw[hx]at hq;obtain rfl:=oi hq
   exact ih i _ v (gG ae) hv e0 hr
 |ar xs vs h1 _ ih=>
  intro e0 y e
  simp only[AV.aQ,mS]at e
  obtain⟨z,hz,rfl⟩:=e
  have g:=ug ks _ _ hz
  refine .ar _ vs (g.1.trans h1) ?_
  intro i x v hx hv
  have ae:i<xs.length:=by rw[<-g.1];exact(gS.1 hx).1
  obtain⟨q,hq,hr⟩:=g.2 i _ (gG ae)
  rw[hx]at hq;obtain rfl:=oi hq
  exact ih i _ v (gG ae) hv e0 hr
 |dead v=>intro _ y e;simp only[AV.aQ,oE]at e;subst e;exact .dead v
def AG.aQ (ks:List Nat):AG->Option AG
 |.arr et e es=>some (.arr et e es)
 |.box cs=>(AV.dK ks cs).map .box
def kZ (ks:List Nat) (fr:Av):Nat->List Nat->Option Av
 |_,[]=>some []
 |i,k::r=>match look fr k with
  |none=>kZ ks fr (i+1) r
  |some b=>match b.aQ ks,kZ ks fr (i+1) r with
   |some b,some l=>some ((i,b)::l)
   |_,_=>none
def uh (ks:List Nat) (tm:List (Nat×AV)):List Nat->Option (List (Nat×AV))
 |[]=>some []
 |t::r=>match look tm t with
  |none=>none
  |some x=>match x.aQ ks,uh ks tm r with
   |some x,some l=>some ((t,x)::l)
   |_,_=>none
def St.norm (st:St) (nw ks:List Nat) (nx:Nat):Option St:=
 match uh ks st.tm nw,kZ ks st.fr 0 ks with
 |some tm,some fr=>some ⟨tm,fr,st.low,nx,st.nt⟩
 |_,_=>none
theorem aiy (ks:List Nat) (fr:Av):∀ (r:List Nat) (i:Nat) (f:Av),kZ ks fr i r=some f->∀ j b,look f j=some b->i<=j/\∃ k b0,r[j - i]?=some k/\look fr k=some b0/\b0.aQ ks=some b
 |[],i,f,h,j,b,hj=>by simp only[kZ,oE]at h;subst h;simp[look]at hj
 |k::r,i,f,h,j,b,hj=>by
  have step:∀ f',kZ ks fr (i+1) r=some f'->look f' j=some b->i<=j/\∃ k' b0,(k::r)[j - i]?=some k'/\look fr k'=some b0/\b0.aQ ks=some b:=by
   intro f' h1 h2
   obtain⟨h3,k',b0,h4,h5,h6⟩:=aiy ks fr r (i+1) f' h1 j b h2
   refine⟨by omega,k',b0,?_,h5,h6⟩
   have e:j - i=(j - (i+1))+1:=by omega
   rw[e,Ca];exact h4
  simp only[kZ]at h
  split at h
  ·exact step f h hj
  ·rename_i b0 fD
   split at h
   ·rename_i b' l bQ hl
    obtain rfl:=oi h
    simp only[look]at hj
    split at hj
    ·rename_i e
     subst e
     obtain rfl:=oi hj
     exact⟨Bd _,k,b0,by simp,fD,bQ⟩
    ·exact step l hl hj
   ·cases h
theorem aew (ks:List Nat) (tm:List (Nat×AV)):∀ (r:List Nat) (f:List (Nat×AV)),uh ks tm r=some f->∀ t y,look f t=some y->∃ x,look tm t=some x/\x.aQ ks=some y
 |[],f,h,t,y,hy=>by simp only[uh,oE]at h;subst h;simp[look]at hy
 |t0::r,f,h,t,y,hy=>by
  simp only[uh]at h
  split at h
  ·cases h
  ·rename_i x hx
   split at h
   ·rename_i x' l iQ hl
    obtain rfl:=oi h
    simp only[look]at hy
    split at hy
    ·rename_i e
     subst e
     obtain rfl:=oi hy
     exact⟨x,hx,iQ⟩
    ·exact aew ks tm r l hl t y hy
   ·cases h
theorem HR.aQ {t:Ai}{rest:List Ai}{fr aU:Av}{low:Heap}{w:World}{ks:List Nat} (h:HR N0 W0 fm (t::rest) (fr::low) w) (hf:kZ ks fr 0 ks=some aU) (bW:ks.Nodup):
  HR N0 W0 fm (eY ks t::rest) (aU::low) w:=by
 have src:∀ l k b,Heap.get (aU::low) l k=some b->∃ k0 b0,Heap.get (fr::low) l k0=some b0/\tb (eY ks t::rest) l k=tb (t::rest) l k0/\(l=0->ks[k]?=some k0/\b0.aQ ks=some b)/\(l≠0->k0=k/\b0=b):=by
  intro l k b hg
  cases l with
  |zero=>
   obtain⟨_,k0,b0,h1,h2,h3⟩:=aiy ks fr ks 0 aU hf k b (by simpa [Heap.get] using hg)
   have h1:ks[k]?=some k0:=by simpa using h1
   exact⟨k0,b0,by simpa [Heap.get] using h2,by simp[tb,eY,h1],fun _=>⟨h1,h3⟩,fun h=>absurd rfl h⟩
  |succ l=>exact⟨k,b,by simpa [Heap.get] using hg,by simp[tb],fun h=>by omega,fun _=>⟨rfl,rfl⟩⟩
 refine⟨by have:=h.len;simpa using this,?_,?_,h.bO,?_,h.dh,h.size,h.cV,h.ec⟩
 ·intro l k b hg
  obtain⟨k0,b0,h1,h2,h3,h4⟩:=src l k b hg
  rw[h2]
  have hb:=h.al l k0 b0 h1
  cases l with
  |zero=>
   obtain⟨_,hr⟩:=h3 rfl
   simp only[List.drop_zero]at hb ⊢
   generalize tb (t::rest) 0 k0=tt at hb
   cases hb with
   |box c cs hN hB=>
    simp only[AG.aQ,mS]at hr
    obtain⟨ys,hy,rfl⟩:=hr
    have g:=ug ks _ _ hy
    obtain⟨cells,et,c1,c2,c3⟩:=hB
    refine .box c _ hN ⟨cells,et,c1,by rw[g.1];exact c2,?_⟩
    intro o x v hx hv
    have ae:o<cs.length:=by rw[<-g.1];exact(gS.1 hx).1
    obtain⟨z,hz,hzr⟩:=g.2 o _ (gG ae)
    rw[hx]at hz;obtain rfl:=oi hz
    have:=c3 o _ v (gG ae) hv
    exact⟨by rw[aiB hzr];exact this.1,this.2.aQ rfl hzr⟩
   |nil et esz=>simp only[AG.aQ,oE]at hr;subst hr;exact .nil et esz
   |arr et esz es c cap hN hA=>simp only[AG.aQ,oE]at hr;subst hr;exact .arr et esz es c cap hN hA
  |succ l=>
   obtain⟨rfl,rfl⟩:=h4 (by omega)
   simpa using hb
 ·intro l1 k1 l2 k2 b1 b2 c g1 g2 t1 t2
  obtain⟨j1,a1,p1,q1,r1,s1⟩:=src l1 k1 b1 g1
  obtain⟨j2,a2,p2,q2,r2,s2⟩:=src l2 k2 b2 g2
  rw[q1]at t1
  rw[q2]at t2
  obtain⟨rfl,rfl⟩:=h.inj l1 j1 l2 j2 a1 a2 c p1 p2 t1 t2
  refine⟨rfl,?_⟩
  by_cases hl:l1=0
  ·have e1:=(r1 hl).1
   have e2:=(r2 hl).1
   have tG:=(gS.1 e1).1
   exact(List.getElem?_inj tG bW).1 (e1.trans e2.symm)
  ·have e1:=(s1 hl).1
   have e2:=(s2 hl).1
   omega
 ·intro l k b c o hg ht
  obtain⟨k0,b0,h1,h2,_,_⟩:=src l k b hg
  rw[h2]at ht
  exact h.dk l k0 b0 c o h1 ht
theorem Ah.norm {st ao:St}{nw ks:List Nat}{nx:Nat} (e:st.norm nw ks nx=some ao) (bW:ks.Nodup) (kd:ks.length<=nx):Ah n st ao:=by
 intro N0 W0 a w fm ts h
 unfold St.norm at e
 split at e
 ·rename_i tm fr eG pM
  obtain rfl:=oi e
  cases ts with
  |nil=>have:=h.hr.len;simp at this
  |cons t rest=>
   refine⟨fm,eY ks t::rest,⟨h.hr.aQ pM bW,?_,?_,h.size,h.dZ⟩,⟨AN.refl _ _,As.refl _,fun _ _ h=>h⟩⟩
   ·intro i y hy
    obtain⟨x,h1,h2⟩:=aew ks st.tm nw tm eG i y hy
    obtain⟨v,h3,h4⟩:=h.tm i x h1
    exact⟨v,h3,h4.aQ rfl h2⟩
   ·intro k hk
    have eT:nx<=k:=hk
    simp only[tb,eY]
    rw[CK (by omega)];rfl
 ·cases e
end
section
variable [Md] {P:Program}{T:AM}{N0:Nat}{W0:World}{n:Nat}{fm:FM}{ts:List Ai}
def abL (T:AM) (st:St):ResultVar->Option AV
 |.tmp t=>look st.tm t
 |.cell a t=>match T t,look st.tm a with
  |some ti,some x=>nT st.get ti x
  |_,_=>none
def gN (T:AM) (st:St):List ResultVar->Option (List AV)
 |[]=>some []
 |r::l=>match abL T st r,gN T st l with
  |some x,some l=>some (x::l)
  |_,_=>none
def bZ:List AV->AV
 |[x]=>x
 |l=>.ar l
theorem ap5 (hT:AQ P T) {st:St}{a:Act}{w:World} (h:SR N0 W0 n st a w fm ts) {r:ResultVar}{x:AV} (e:abL T st r=some x):
  ∃ v,(match r with
   |.tmp t=>(pure (a.tmps.getD t undef):Sem Value)
   |.cell b t=>do loadVar t (<-asAddr (a.tmps.getD b undef))).run P w=.ok v w/\VR fm ts x v:=by
 cases r with
 |tmp t=>
  obtain⟨v,h1,h2⟩:=h.tm t x e
  exact⟨v,by simp[Array.getD_eq_getD_getElem?,h1],h2⟩
 |cell b t=>
  simp only[abL]at e
  split at e
  ·rename_i ti y ht hy
   obtain⟨v,h1,h2⟩:=h.tm b y hy
   obtain⟨u,h3,h4⟩:=agb (P:=P) hT ht h.hr h2 e
   refine⟨u,?_,h4⟩
   have hg:a.tmps.getD b undef=v:=by simp[Array.getD_eq_getD_getElem?,h1]
   unfold nT at e
   cases hc:iF st.get ti.size y with
   |none=>rw[hc]at e;cases e
   |some cs=>
    obtain⟨ad,vs,rfl,_⟩:=h.hr.iF h2 hc
    simp only[hg,asAddr,Sem.run_bind,Sem.run_pure,Result.andThen_ok]
    simpa [Instr.loadAt,Instr.sureAddr] using h3
  ·cases e
theorem rZ (hT:AQ P T) {st:St}{a:Act}{w:World} (h:SR N0 W0 n st a w fm ts) {fn:Func}{xs:List AV} (e:gN T st fn.results.toList=some xs):
  ∃ v,(results fn a.tmps).run P w=.ok v w/\VR fm ts (bZ xs) v:=by
 have key:∀ (l:List ResultVar) (xs:List AV),gN T st l=some xs->∃ vs:List Value,(l.mapM (m:=Sem) fun
   |.tmp t=>(pure (a.tmps.getD t undef):Sem Value)
   |.cell b t=>do loadVar t (<-asAddr (a.tmps.getD b undef))).run P w=.ok vs w/\Au fm ts xs vs:=by
  intro l
  induction l with
  |nil=>intro xs e;simp only[gN,oE]at e;subst e;exact⟨[],by simp,rfl,fun i x v h=>by simp at h⟩
  |cons r l ih=>
   intro xs e
   simp only[gN]at e
   split at e
   ·rename_i x l' hx hl
    obtain rfl:=oi e
    obtain⟨v,h1,h2⟩:=ap5 (P:=P) hT h hx
    obtain⟨vs,h3,h4⟩:=ih l' hl
    refine⟨v::vs,?_,by simp[h4.1],?_⟩
    ·simp only[List.mapM_cons,Sem.run_bind,h1,h3,Result.andThen_ok,Sem.run_pure]
    ·intro i y u hy hu
     cases i with
     |zero=>simp only[BU,oE]at hy hu;subst hy hu;exact h2
     |succ i=>simp only[Ca]at hy hu;exact h4.2 i y u hy hu
   ·cases e
 obtain⟨vs,h1,h2⟩:=key _ _ e
 have hr:(results fn a.tmps).run P w=.ok (if h:vs.toArray.size=1 then vs.toArray[0] else .tuple vs.toArray) w:=by
  unfold results
  rw[<-Array.toArray_toList (xs:=fn.results),List.mapM_toArray]
  simp only[Sem.run_bind,Sem.run_map,Sem.run_pure]
  erw [h1]
  rfl
 refine⟨_,hr,?_⟩
 have hl:=h2.1
 match xs,vs,hl,h2 with
 |[],[],_,h2=>exact .ar [] #[] rfl (fun i x v h=>by simp at h)
 |[x],[v],_,h2=>exact h2.2 0 x v rfl rfl
 |x::y::xs,v::u::vs,_,h2=>
  have:¬ ((v::u::vs).toArray.size=1):=by simp
  rw[dif_neg this]
  exact .ar _ _ (by simpa using h2.1) (fun i x v a b=>h2.2 i x v a (by simpa using b))
def sG:Nat->List AV->List (Nat×AV)
 |_,[]=>[]
 |i,x::l=>(i,x)::sG (i+1) l
theorem ae3:∀ (l:List AV) (i t:Nat) (x:AV),look (sG i l) t=some x->i<=t/\l[t - i]?=some x
 |[],i,t,x,h=>by simp[sG,look]at h
 |y::l,i,t,x,h=>by
  simp only[sG,look]at h
  split at h
  ·rename_i e
   subst e
   obtain rfl:=oi h
   exact⟨Bd _,by simp⟩
  ·obtain⟨h1,h2⟩:=ae3 l (i+1) t x h
   refine⟨by omega,?_⟩
   have e:t - i=(t - (i+1))+1:=by omega
   rw[e,Ca];exact h2
def St.enter (args:List AV) (H:Heap) (n:Nat):St:=⟨sG 0 args,[],H,0,n⟩
theorem HR.push {H:Heap}{w:World} (h:HR N0 W0 fm ts H w):HR N0 W0 fm (cM::ts) ([]::H) w:=by
 refine⟨by simp[h.len],?_,?_,h.bO,?_,h.dh,h.size,h.cV,h.ec⟩
 ·intro l k b hg
  cases l with
  |zero=>simp[Heap.get,look]at hg
  |succ l=>simpa [tb] using h.al l k b (by simpa [Heap.get] using hg)
 ·intro l1 k1 l2 k2 b1 b2 c g1 g2 t1 t2
  cases l1 with
  |zero=>simp[Heap.get,look]at g1
  |succ l1=>
   cases l2 with
   |zero=>simp[Heap.get,look]at g2
   |succ l2=>
    have:=h.inj l1 k1 l2 k2 b1 b2 c (by simpa [Heap.get] using g1) (by simpa [Heap.get] using g2) (by simpa [tb] using t1) (by simpa [tb] using t2)
    exact⟨by omega,this.2⟩
 ·intro l k b c o hg ht
  cases l with
  |zero=>simp[Heap.get,look]at hg
  |succ l=>exact h.dk l k b c o (by simpa [Heap.get] using hg) (by simpa [tb] using ht)
theorem SR.enter {H:Heap}{w:World} (h:HR N0 W0 fm ts H w) {args:List AV}{vs:List Value} (hv:Au fm (cM::ts) args vs) {n:Nat} (hn:args.length<=n) (hm:Dx W0:=by exact Dx.kU _):
  SR N0 W0 n (St.enter args H n) { tmps:=vs.toArray++Array.replicate (n - vs.toArray.size) undef,defers:=Md.uZ } w fm (cM::ts):=by
 have hl:=hv.1
 refine⟨h.push,?_,fun k _=>rfl,by simp;omega,rfl,hm⟩
 intro t x hx
 obtain⟨_,hx⟩:=ae3 args 0 t x hx
 simp only[Nat.sub_zero]at hx
 have ae:t<vs.length:=by rw[<-hl];exact(gS.1 hx).1
 refine⟨vs[t],?_,hv.2 t x _ hx (gG ae)⟩
 rw[Array.getElem?_append_left (by simpa using ae)]
 simp[ae]
inductive D4 (R:AV->Av->Heap->Prop) (v:AV) (st:St):Prop
 |own (ks:List Nat) (y:AV) (fr:Av) (hn:ks.Nodup) (hk:ks.length<=16) (hy:v.aQ ks=some y) (hf:kZ ks st.fr 0 ks=some fr) (h:R y fr st.low)
 |ai (y:AV) (hy:v.ai st.get=some y) (hr:(v.refs.all fun p=>p.1==0)=true) (h:R y [] st.low)
def Ends (T:AM) (rs:List ResultVar) (R:AV->Av->Heap->Prop) (e:Exit) (st:St):Prop:=
 match e with
 |.normal|.ret=>∃ xs,gN T st rs=some xs/\D4 R (bZ xs) st
 |_=>False
theorem HR.pop {t:Ai}{f:Av}{H:Heap}{w:World} (h:HR N0 W0 fm (t::ts) (f::H) w):HR N0 W0 fm ts H w:=by
 refine⟨by have:=h.len;simpa using this,?_,?_,h.bO,?_,h.dh,h.size,h.cV,h.ec⟩
 ·intro l k b hg
  simpa [tb] using h.al (l+1) k b (by simpa [Heap.get] using hg)
 ·intro l1 k1 l2 k2 b1 b2 c g1 g2 t1 t2
  have:=h.inj (l1+1) k1 (l2+1) k2 b1 b2 c (by simpa [Heap.get] using g1) (by simpa [Heap.get] using g2) (by simpa [tb] using t1) (by simpa [tb] using t2)
  exact⟨by omega,this.2⟩
 ·intro l k b c o hg ht
  exact h.dk (l+1) k b c o (by simpa [Heap.get] using hg) (by simpa [tb] using ht)
theorem ahD {r:List (Nat×Nat)} (hr:(r.all fun p=>p.1==0)=true):∀ (f:Av) (H:Heap),∃ f',Heap.bL (f::H) (gZ r)=f'::H:=by
 induction r with
 |nil=>intro f H;exact⟨f,rfl⟩
 |cons p r ih=>
  intro f H
  simp only[List.all_cons,A7,beq_iff_eq]at hr
  obtain⟨l,k⟩:=p
  obtain⟨h1,h2⟩:=hr
  simp only at h1
  subst h1
  exact ih h2 (del f k) H
end
section
variable {P:Program}{T:AM}{N0:Nat}{W0:World}{n:Nat}{fm:FM}{ts:List Ai}
theorem Cx.gu (hT : AQ P T) {f : FuncId} {fn : Func} {c : Code} {sc : SC} {args : List AV} {H : Heap} {R : AV → Av → Heap → Prop} (hf : P.funcs[f]? = some fn) (hb : fn.body = some c) (jj : (fn.name == "runtime.NumGoroutine") = false)
  (he:sc.bare=erase fn.ntmps c) (eO:(erase fn.ntmps c).fits fn.ntmps=true) (fk:args.length<=fn.ntmps)
  (h:AK P fn.ntmps (Ends T fn.results.toList fun y fr H'=>R y fr H') [.sc sc] (St.enter args H fn.ntmps)) (jG:∀ y fr H',R y fr H'->H'.length=H.length):Cx P f args H R:=by
 refine⟨⟨fn,hf,jj,by simp[hb]⟩,?_⟩
 intro N0 W0 fm ts w vs hH hv
 refine calls_of_wp hf hb ((xe []).1 ?_)
 have hS:=SR.enter hH hv fk
 have:=h N0 W0 fm (cM::ts) _ w [.code c] (bodyPost P fn fun e w'=>∃ v av aU H' fm' t' ts',e=.returned v/\R av aU H'/\H'.length=H.length/\HR N0 W0 fm' (t'::ts') (aU::H') w'/\VR fm' (t'::ts') av v/\AN N0 fm fm'/\As ts ts'/\
   (∀ l k,tb ts l k=none->tb ts' l k=none)/\∀ k,16<=k->t' k=none) hS (.sc he eO .nil) ?_
 ·exact this
 ·intro e ao a' w' fm' ts' hE cK hL
  have fin:(∃ xs,gN T ao fn.results.toList=some xs/\D4 R (bZ xs) ao)->a'.defers=[]/\∃ v,(results fn a'.tmps).run P w'=.ok v w'/\∃ v_1 av aU H' fm' t' ts',Ending.returned v=.returned v_1/\R av aU H'/\H'.length=H.length/\HR N0 W0 fm' (t'::ts') (aU::H') w'/\VR fm' (t'::ts') av v_1/\AN N0 fm fm'/\As ts ts'/\
    (∀ l k,tb ts l k=none->tb ts' l k=none)/\∀ k,16<=k->t' k=none:=by
   rintro⟨xs,fX,hg⟩
   obtain⟨v,h1,h2⟩:=rZ (P:=P) hT cK fX
   refine⟨cK.dZ.1,v,h1,?_⟩
   cases ts' with
   |nil=>have:=cK.hr.len;simp at this
   |cons t rest=>
    have ik:As ts rest:=by simpa using hL.jS
    have bx:∀ l k,tb ts l k=none->tb rest l k=none:=by simpa using hL.no
    cases hg with
    |own ks y fr hn hk hy pM hR=>
     exact⟨v,y,fr,ao.low,fm',eY ks t,rest,rfl,hR,jG _ _ _ hR,cK.hr.aQ pM hn,h2.aQ rfl hy,hL.cU,ik,bx,fun k eT=>by simp only[eY];rw[CK (by omega)];rfl⟩
    |ai y hy hr hR=>
     have h3:=cK.hr.ai (bZ xs).refs h2 hy (fun _ h=>h)
     have h4:=cK.hr.rM (bZ xs).refs
     obtain⟨f',yv⟩:=ahD hr ao.fr ao.low
     rw[yv]at h4
     have yU:∀ l k,tb (iz (t::rest) (bZ xs).refs) (l+1) k=tb rest l k:=by
      intro l k
      rw[mb,if_neg]
      ·simp[tb]
      ·rintro⟨hm,_⟩
       have:=List.all_eq_true.1 hr _ hm
       simp at this
     have hlen:=adT (bZ xs).refs (t::rest)
     cases hg:iz (t::rest) (bZ xs).refs with
     |nil=>rw[hg]at hlen;simp at hlen
     |cons t2 z6=>
      rw[hg]at h4 yU
      have e2:∀ l k,tb z6 l k=tb rest l k:=fun l k=>by simpa [tb] using yU l k
      have bp:=cK.hr.ve (bZ xs).refs
      exact⟨v,y,[],ao.low,_,cM,z6,rfl,hR,jG _ _ _ hR,h4.pop.push,h3.mono (AZ.refl _) (As.nil _),hL.cU.trans bp,fun l k=>by rw[e2];exact ik l k,fun l k hh=>by rw[e2];exact bx l k hh,fun _ _=>rfl⟩
  cases e with
  |normal=>exact fin hE
  |ret=>exact fin hE
  |_=>exact hE.elim
end
mutual
theorem ade (G:AR):∀ (x y:AV),x.ai G=some y->y.ai (fun _ _=>none)=some y
 |.loc l k e i n g,y,h=>by
  simp only[AV.ai]at h
  split at h
  ·split at h
   ·obtain rfl:=oi h;simp[AV.ai]
   ·cases h
  ·cases h
 |.nil,y,h=>by simp only[AV.ai,oE]at h;subst h;simp[AV.ai]
 |.bR t v,y,h=>by
  simp only[AV.ai,mS]at h
  obtain⟨a,h1,rfl⟩:=h
  simp only[AV.ai,ade G v a h1,A5]
 |.agg cs,y,h=>by
  simp only[AV.ai,mS]at h
  obtain⟨a,h1,rfl⟩:=h
  simp only[AV.ai,xQ G cs a h1,A5]
 |.ar vs,y,h=>by
  simp only[AV.ai,mS]at h
  obtain⟨a,h1,rfl⟩:=h
  simp only[AV.ai,xQ G vs a h1,A5]
 |.bool b,y,h=>by simp only[AV.ai,oE]at h;subst h;simp[AV.ai]
 |.int k n,y,h=>by simp only[AV.ai,oE]at h;subst h;simp[AV.ai]
 |.str s,y,h=>by simp only[AV.ai,oE]at h;subst h;simp[AV.ai]
 |.sl e es,y,h=>by simp only[AV.ai,oE]at h;subst h;simp[AV.ai]
 |.bG,y,h=>by simp only[AV.ai,oE]at h;subst h;simp[AV.ai]
 |.bP,y,h=>by simp only[AV.ai,oE]at h;subst h;simp[AV.ai]
 |.bS,y,h=>by simp only[AV.ai,oE]at h;subst h;simp[AV.ai]
 |.raw r_,y,h=>by simp only[AV.ai,oE]at h;subst h;simp[AV.ai]
 |.fn f a b,y,h=>by
  simp only[AV.ai]at h
  split at h
  ·rename_i x z hx hz
   obtain rfl:=oi h
   simp only[AV.ai,xQ G a x hx,xQ G b z hz]
  ·cases h
 |.bF ..,y,h=>by simp[AV.ai]at h
 |.ptr ..,y,h=>by simp[AV.ai]at h
 |.bu ..,y,h=>by simp[AV.ai]at h
 |.aA ..,y,h=>by simp only[AV.ai,oE]at h;subst h;simp[AV.ai]
 |.dead,y,h=>by simp[AV.ai]at h
theorem xQ (G:AR):∀ (l ys:List AV),AV.aF G l=some ys->AV.aF (fun _ _=>none) ys=some ys
 |[],ys,h=>by simp only[AV.aF,oE]at h;subst h;rfl
 |x::l,ys,h=>by
  simp only[AV.aF]at h
  split at h
  ·rename_i a b ha hb
   obtain rfl:=oi h
   simp only[AV.aF,ade G x a ha,xQ G l b hb]
  ·cases h
end
def AV.leaf:AV->Bool
 |.bool _|.int _ _|.str _|.nil|.bG|.bP|.bS|.raw _=>true
 |_=>false
def AV.cW:AV->Bool
 |.agg cs=>cs.all AV.leaf
 |.ar vs=>vs.all AV.leaf
 |x=>x.leaf
theorem VR.leaf {fm fm':FM}{ts ts':List Ai}{x:AV}{v:Value} (h:VR fm ts x v) (hx:x.leaf=true):VR fm' ts' x v:=by
 cases h<;>first|(simp[AV.leaf]at hx;done)|(refine .raw _ ?_;assumption)|constructor
theorem VR.cW {fm fm':FM}{ts ts':List Ai}{x:AV}{v:Value} (h:VR fm ts x v) (hx:x.cW=true):VR fm' ts' x v:=by
 cases h with
 |agg cs vs h1 h2 h3=>exact .agg cs vs h1 h2 (fun i x v a b=>(h3 i x v a b).leaf (List.all_eq_true.1 hx x (AW a)))
 |ar xs vs h1 h3=>exact .ar xs vs h1 (fun i x v a b=>(h3 i x v a b).leaf (List.all_eq_true.1 hx x (AW a)))
 |_=>first|(simp[AV.cW,AV.leaf]at hx;done)|(refine .raw _ ?_;assumption)|constructor
def Dv (fm:FM) (w:World):Prop:=∀ b o v,fm b o=some v->w.cell? ⟨b,o,none⟩=some v
def Aw (P:Program) (f:FuncId) (args:List AV) (R:AV->Prop):Prop:=
 Enters P f/\∀ fm w vs,Dv fm w->Au fm [] args vs->
  Calls P f vs.toArray w fun e w'=>∃ v y fm',e=.returned v/\R y/\(Dv fm' w'/\EV w.heap.size fm' w')/\VR fm' [] y v/\AN w.heap.size fm fm'/\Below w.heap.size w w'
def Dy (T:AM) (rs:List ResultVar) (R:AV->Prop) (e:Exit) (st:St):Prop:=
 match e with
 |.normal|.ret=>st.low=[]/\∃ xs y,gN T st rs=some xs/\(bZ xs).ai st.get=some y/\R y
 |_=>False
section
variable {P:Program}{T:AM}{N0:Nat}{W0:World}{n:Nat}{fm:FM}{ts:List Ai}{H:Heap}{w:World}
theorem HR.nothing {w:World} (h:Dv fm w):HR w.heap.size w fm [] [] w:=
 ⟨rfl,fun l k b hg=>by simp[Heap.get]at hg,fun l k l' k' b b' c hg=>by simp[Heap.get]at hg,h,fun l k b c o hg=>by simp[Heap.get]at hg,Below.refl _ _,Bd _,fun _ _ h _=>h,fun b o v hN hv _=>absurd (World.block_lt_of_cell? w _ (h b o v hv)) (by simp only;omega)⟩
theorem Aw.gu (hT : AQ P T) {f : FuncId} {fn : Func} {c : Code} {sc : SC} {args : List AV} {R : AV → Prop} (hf : P.funcs[f]? = some fn) (hb : fn.body = some c) (jj : (fn.name == "runtime.NumGoroutine") = false)
  (he:sc.bare=erase fn.ntmps c) (eO:(erase fn.ntmps c).fits fn.ntmps=true) (fk:args.length<=fn.ntmps)
  (h:AK P fn.ntmps (Dy T fn.results.toList R) [.sc sc] (St.enter args [] fn.ntmps)):Aw P f args R:=by
 have hA:Cx P f args [] (fun y fr H'=>fr=[]/\H'=[]/\y.ai (fun _ _=>none)=some y/\R y):=by
  refine Cx.gu hT hf hb jj he eO fk (h.mono ?_) (by rintro y fr H' ⟨_,rfl,_⟩;rfl)
  intro e st hE
  have fin:(st.low=[]/\∃ xs y,gN T st fn.results.toList=some xs/\(bZ xs).ai st.get=some y/\R y)->
    ∃ xs,gN T st fn.results.toList=some xs/\D4 (fun y fr H'=>fr=[]/\H'=[]/\y.ai (fun _ _=>none)=some y/\R y) (bZ xs) st:=by
   rintro⟨hl,xs,y,h1,h2,h3⟩
   refine⟨xs,h1,.ai y h2 ?_ ⟨rfl,hl,ade _ _ _ h2,h3⟩⟩
   rw[List.all_eq_true]
   intro p hp
   obtain⟨et,esz,es,hg⟩:=adh _ _ _ h2 p hp
   have ae:=Heap.ri _ _ _ _ (show Heap.get (st.fr::st.low) p.1 p.2=_ from hg)
   rw[hl]at ae
   simp at ae
   simp[ae]
  cases e with
  |normal=>exact fin hE
  |ret=>exact fin hE
  |_=>exact hE.elim
 refine⟨hA.1,fun fm w vs h1 h2=>Calls.mono (hA.2 w.heap.size w fm [] w vs (HR.nothing h1) (h2.mono (AZ.refl _) (As.nil _))) ?_⟩
 rintro e w' ⟨v,av,aU,H',fm',t',ts',rfl,⟨rfl,rfl,hz,hR⟩,_,bY,bq,bp,_,_,_⟩
 refine⟨v,av,fm',rfl,hR,⟨bY.bO,bY.ec⟩,?_,bp,bY.dh⟩
 have:=bY.pe (cs:=[av]) (ys:=[av]) (vs:=[v]) ⟨rfl,fun i x u a b=>by
  cases i with
  |zero=>simp at a b;subst a b;exact bq
  |succ i=>simp at a⟩ (by simp only[AV.aF,hz])
 exact this.2 0 av v rfl rfl
theorem HR.up {fm':FM}{w':World} (h:HR N0 W0 fm ts H w) (hb:Below w.heap.size w w') (bp:AN w.heap.size fm fm') (bB:Dv fm' w'/\EV w.heap.size fm' w'):HR N0 W0 fm' ts H w':=by
 have h1:=h.world (w':=w') (fun i hi=>hb.block i hi) (hb.mono h.size)
 refine⟨h1.len,fun l k b hg=>(h1.al l k b hg).mono bp.le (As.refl _) (fun _ _=>rfl),h1.inj,bB.1,?_,h1.dh,h1.size,h1.cV,fun b o v hN hv ht=>?_⟩
 rotate_right
 ·by_cases bQ:b<w.heap.size
  ·rw[bp.fix b o bQ]at hv
   rw[bp.fit b bQ]at ht
   exact(h.ec b o v hN hv ht).of (hb.block b bQ)
  ·exact bB.2 b o v (by omega) hv ht
 intro l k b c o hg ht
 rw[bp.fix c o ((h.al l k b hg).lt ht).1]
 exact h.dk l k b c o hg ht
theorem AN.low {fm fm':FM}{a b:Nat} (h:AN a fm fm') (hb:b<=a):AN b fm fm':=⟨h.le,fun x o hx=>h.fix x o (by omega),fun x hx=>h.fit x (by omega),h.new⟩
theorem Aw.frozen {f:FuncId}{args ay:List AV}{R:AV->Prop} (hp:Aw P f ay R) (hz:AV.aF (Heap.get ([]::H)) args=some ay) (hr:AV.aO args=[]):
  Cx P f args H (fun y fr H'=>R y/\fr=[]/\H'=H):=by
 refine⟨hp.1,fun N0 W0 fm ts w vs hH hv=>?_⟩
 have h1:=hH.push.aF [] hv hz (by rw[hr];simp)
 rw[abe]at h1
 refine Calls.mono (hp.2 fm w vs hH.bO h1) ?_
 rintro e w' ⟨v,y,fm',rfl,hR,bB,bq,bp,hb⟩
 exact⟨v,y,[],H,fm',cM,ts,rfl,⟨hR,rfl,rfl⟩,rfl,(hH.up hb bp bB).push,bq.mono (AZ.refl _) (As.nil _),bp.low hH.size,As.refl _,fun _ _ h=>h,fun _ _=>rfl⟩
theorem Aw.borrow {f:FuncId}{args ay:List AV}{R:AV->Prop} (hp:Aw P f ay R) (hz:AV.aF (Heap.get ([]::H)) args=some ay) (hs:∀ y,R y->y.cW=true):
  Cx P f args H (fun y fr H'=>R y/\fr=[]/\H'=H):=by
 refine⟨hp.1,fun N0 W0 fm ts w vs hH hv=>?_⟩
 have h1:=hH.push.aF (AV.aO args) hv hz (fun _ h=>h)
 have h2:=(hH.push.rM (AV.aO args)).bO
 refine Calls.mono (hp.2 _ w vs h2 h1) ?_
 rintro e w' ⟨v,y,fm',rfl,hR,bB,bq,bp,hb⟩
 have j7:HR N0 W0 fm ts H w':=hH.world (fun i hi=>hb.block i hi) (hb.mono hH.size)
 exact⟨v,y,[],H,fm,cM,ts,rfl,⟨hR,rfl,rfl⟩,rfl,j7.push,bq.cW (hs y hR),AN.refl _ _,As.refl _,fun _ _ h=>h,fun _ _=>rfl⟩
end
mutual
def AV.br (G:AR) (F:Nat->Nat->Option (List AV)):AV->Option AV
 |.loc l k e i n g=>(AV.loc l k e i n g).ai G
 |.ptr l k o=>match F l k with
  |some ys=>some (.aA ys.length [ys] 0 o)
  |none=>none
 |.bF l k e o n=>match F l k with
  |some ys=>if e=1/\o+n<=ys.length/\n<=65536 then some (.sl 1 (((ys.drop o).take n).map fun c=>[c])) else none
  |none=>none
 |.fn f a b=>match AV.cY G F a,AV.cY G F b with
  |some a,some b=>some (.fn f a b)
  |_,_=>none
 |.bR t v=>(v.br G F).map (.bR t)
 |.agg cs=>(AV.cY G F cs).map .agg
 |.ar vs=>(AV.cY G F vs).map .ar
 |.nil=>some .nil
 |.bool b=>some (.bool b)
 |.int k n=>some (.int k n)
 |.str s=>some (.str s)
 |.sl e es=>some (.sl e es)
 |.bG=>some .bG
 |.bP=>some .bP
 |.bS=>some .bS
 |.raw r_=>some (.raw r_)
 |.aA e es i o=>some (.aA e es i o)
 |_=>none
def AV.cY (G:AR) (F:Nat->Nat->Option (List AV)):List AV->Option (List AV)
 |[]=>some []
 |x::l=>match x.br G F,AV.cY G F l with
  |some x,some l=>some (x::l)
  |_,_=>none
end
def cT (G:AR):Nat->Nat->Nat->Option (List AV)
 |0,_,_=>none
 |n+1,l,k=>match G l k with
  |some (.box cs)=>AV.cY G (cT G n) (AV.dg l cs)
  |_=>none
theorem pr (G:AR) (F:Nat->Nat->Option (List AV)):∀ (cs ys:List AV),AV.cY G F cs=some ys->ys.length=cs.length/\∀ (i:Nat) (x:AV),cs[i]?=some x->∃ y,ys[i]?=some y/\x.br G F=some y
 |[],ys,h=>by simp only[AV.cY,oE]at h;subst h;simp
 |x::l,ys,h=>by
  simp only[AV.cY]at h
  split at h
  ·rename_i a b ha hb
   obtain rfl:=oi h
   have ih:=pr G F l b hb
   refine⟨by simp[ih.1],?_⟩
   intro i z hz
   cases i with
   |zero=>simp only[BU,oE]at hz;subst hz;exact⟨a,by simp,ha⟩
   |succ i=>simp only[Ca]at hz ⊢;exact ih.2 i z hz
  ·cases h
theorem acD {G:AR}{F:Nat->Nat->Option (List AV)}{x y:AV} (h:x.br G F=some y):y.flat=x.flat:=by
 cases x with
 |loc l k e i n g=>simp only[AV.br]at h;exact abf h
 |ptr l k o=>
  simp only[AV.br]at h
  split at h
  ·obtain rfl:=oi h;rfl
  ·cases h
 |bF l k e o n=>
  simp only[AV.br]at h
  split at h
  ·split at h
   ·obtain rfl:=oi h;rfl
   ·cases h
  ·cases h
 |fn f a b=>
  simp only[AV.br]at h
  split at h
  ·obtain rfl:=oi h;rfl
  ·cases h
 |_=>
  first
  |(simp[AV.br]at h;done)
  |(simp only[AV.br,oE]at h;subst h;simp[AV.flat];done)
  |(simp only[AV.br,mS]at h;obtain⟨a,_,rfl⟩:=h;simp[AV.flat];done)
section
variable {N0:Nat}{W0:World}{fm:FM}{ts:List Ai}{H:Heap}{w:World}
def nX (w:World):FM:=⟨fun b o=>w.cell? ⟨b,o,none⟩,fun _=>0⟩
noncomputable def fJ (ts:List Ai) (H:Heap) (c:Nat):Nat:=if lh ts H c=0 then 1 else lh ts H c
theorem aiU (ts:List Ai) (H:Heap) (c:Nat):fJ ts H c≠0:=by unfold fJ;split<;>omega
theorem HR.aqy {N0:Nat}{W0:World}{fm:FM}{ts:List Ai}{H:Heap}{w:World} (h:HR N0 W0 fm ts H w) {l k c et z:Nat}{es:List (List AV)} (hg:H.get l k=some (.arr et z es)) (ht:bz (tb ts l k)=some c):Abs.fJ ts H c=z:=by
 have h1:=h.lh hg ht
 have hb:=h.al l k _ hg
 cases hq:tb ts l k with
 |none=>rw[hq]at ht;simp[bz]at ht
 |some x=>
  rw[hq]at hb
  cases hb with
  |nil=>rw[hq]at ht;simp[bz]at ht
  |arr _ _ _ c' cap hN hA=>
   obtain⟨_,_,_,_,_,_,hz,_⟩:=hA
   unfold Abs.fJ
   rw[h1,if_neg (by omega)]
theorem HR.aeH {N0:Nat}{W0:World}{fm:FM}{ts:List Ai}{H:Heap}{w:World} (h:HR N0 W0 fm ts H w) {l k c:Nat}{cs:List AV} (hg:H.get l k=some (.box cs)) (ht:bz (tb ts l k)=some c):Abs.fJ ts H c=1:=by
 have h1:Abs.lh ts H c=0:=by
  unfold Abs.lh
  rw[dif_neg]
  rintro⟨z,l',k',et,es,bo,eF⟩
  obtain⟨rfl,rfl⟩:=h.inj _ _ _ _ _ _ _ hg bo ht eF
  rw[hg]at bo
  cases bo
 unfold Abs.fJ
 rw[if_pos h1]
open Classical in
noncomputable def lC (fm:FM) (w:World) (ts:List Ai) (H:Heap):FM:=⟨fun b o=>w.cell? ⟨b,o,none⟩,fun b=>if ∃ o v,fm b o=some v then fm.t b else fJ ts H b⟩
theorem HR.aoC {N0:Nat}{W0:World}{fm:FM}{ts:List Ai}{H:Heap}{w:World} (h:HR N0 W0 fm ts H w):AZ fm (lC fm w ts H):=
 ⟨fun b o v hv=>h.bO b o v hv,fun b o v hv=>if_pos ⟨o,v,hv⟩⟩
theorem HR.aiY {N0:Nat}{W0:World}{fm:FM}{ts:List Ai}{H:Heap}{w:World} (h:HR N0 W0 fm ts H w) {l k c:Nat}{b:AG} (hg:H.get l k=some b) (ht:bz (tb ts l k)=some c):(lC fm w ts H).t c=fJ ts H c:=by
 refine if_neg ?_
 rintro⟨o,v,hv⟩
 rw[h.dk l k b c o hg ht]at hv
 cases hv
theorem HR.brG (h:HR N0 W0 fm ts H w) {fm':FM}{G:AR} (hle:AZ fm fm') (hG:∀ l k b,G l k=some b->H.get l k=some b) (bw:∀ l k b c,G l k=some b->bz (tb ts l k)=some c->fm'.t c=Abs.fJ ts H c/\∀ o u,w.cell? ⟨c,o,none⟩=some u->fm' c o=some u) (F:Nat->Nat->Option (List AV)) (hF:∀ l k ys c,F l k=some ys->tb ts l k=some (.box c)->(fm'.t c=1/\∀ o u,w.cell? ⟨c,o,none⟩=some u->fm' c o=some u)/\∃ cells et,w.heap[c]?=some (.cells cells et (0,0))/\cells.size=ys.length/\
   ∀ (o:Nat) y v,ys[o]?=some y->cells[o]?=some v->y.flat=true/\VR fm' [] y v) {ga:List Ai}{x:AV}{v:Value} (hv:VR fm ga x v):
  ga=ts->∀ {y:AV},x.br G F=some y->VR fm' [] y v:=by
 have loc:∀ {l k esz i n g v y},VR fm ts (.loc l k esz i n g) v->(AV.loc l k esz i n g).ai G=some y->VR fm' [] y v:=by
  intro l k esz i n g v y hv hy
  have jJ:(AV.loc l k esz i n g).ai H.get=some y/\∃ b,G l k=some b:=by
   simp only[AV.ai]at hy ⊢
   split at hy
   ·rename_i et aN es hg
    rw[hG l k _ hg];exact⟨hy,_,hg⟩
   ·cases hy
  obtain⟨hy1,b0,fD⟩:=jJ
  refine(h.ai [(l,k)] hv hy1 (by simp[AV.refs])).mono ⟨?_,?_⟩ (As.refl _)
  ·intro b o u hu
   unfold gn at hu
   simp only at hu
   split at hu
   ·rename_i hb
    obtain⟨l',k',b',hm,hg,_,ht⟩:=hb
    simp only[CL,Prod.mk.injEq]at hm
    obtain⟨rfl,rfl⟩:=hm
    exact(bw l' k' b0 b fD ht).2 o u hu
   ·exact hle.le b o u hu
  ·intro b o u hu
   unfold gn at hu ⊢
   simp only at hu ⊢
   split at hu
   ·rename_i hb
    rw[if_pos hb]
    have jf:=hb
    obtain⟨l',k',b',hm,hg,ha,ht⟩:=hb
    simp only[CL,Prod.mk.injEq]at hm
    obtain⟨rfl,rfl⟩:=hm
    rw[(bw l' k' b0 b fD ht).1]
    have bh:=(h.aaO jf).1
    show Abs.fJ ts H b=Abs.lh ts H b
    unfold Abs.fJ
    rw[if_neg]
    exact bh
   ·rename_i hb
    rw[if_neg hb]
    exact hle.tg b o u hu
 induction hv with
 |bool b=>intro _ y e;simp only[AV.br,oE]at e;subst e;exact .bool b
 |int k n=>intro _ y e;simp only[AV.br,oE]at e;subst e;exact .int k n
 |str s=>intro _ y e;simp only[AV.br,oE]at e;subst e;exact .str s
 |nil=>intro _ y e;simp only[AV.br,oE]at e;subst e;exact .nil
 |cg e0 a cap=>intro _ y e;simp only[AV.br,oE]at e;subst e;exact .cg e0 a cap
 |sl es cb off esz cap u bV h1 h2 h3 h4 _=>intro _ y e;simp only[AV.br,oE]at e;subst e;exact(VR.sl es cb off esz cap u bV h1 h2 h3 h4 (ts:=[])).mono hle (As.refl _)
 |cI l k esz i n g a cp ht hn ha=>rintro rfl y e;exact loc (.cI l k esz i n g a cp ht hn ha) (by simpa only [AV.br] using e)
 |cJ l k esz i n g a cp m' c ht ae hn ha=>rintro rfl y e;exact loc (.cJ l k esz i n g a cp m' c ht ae hn ha) (by simpa only [AV.br] using e)
 |cv l k esz a ht=>rintro rfl y e;exact loc (.cv l k esz a ht) (by simpa only [AV.br] using e)
 |loc l k esz i n g c cap cp a ht hn bI hc ha=>rintro rfl y e;exact loc (.loc l k esz i n g c cap cp a ht hn bI hc ha) (by simpa only [AV.br] using e)
 |bF l k esz o n c cp a ht hn ha=>
  rintro rfl y e
  simp only[AV.br]at e
  split at e
  ·rename_i ys lQ
   split at e
   ·rename_i hc
    obtain⟨rfl,arN,hn6⟩:=hc
    obtain rfl:=oi e
    obtain⟨b9,cells,et,c1,c2,c3⟩:=hF l k ys c lQ ht
    have hlen:(((ys.drop o).take n).map fun c=>[c]).length=n:=by simp;omega
    have get:∀ (i:Nat) (d:List AV),(((ys.drop o).take n).map fun c=>[c])[i]?=some d->∃ x,d=[x]/\ys[o+i]?=some x:=by
     intro i d hd
     rw[Bw,mS]at hd
     obtain⟨x,hx,rfl⟩:=hd
     rw[BO]at hx
     split at hx
     ·rw[Ce]at hx;exact⟨x,rfl,hx⟩
     ·cases hx
    by_cases hcp:cp=0
    ·have:n=0:=by omega
     subst this
     simp only[List.take_zero,List.map_nil]
     exact .cg 1 (some a) cp
    ·have gp:=ha hcp
     subst gp
     have one:∀ (i:Nat) (d:List AV) (o':Nat) (x:AV),(((ys.drop o).take n).map fun c=>[c])[i]?=some d->d[o']?=some x->o'=0/\∃ u,cells[o+i]?=some u/\x.flat=true/\VR fm' [] x u:=by
      intro i d o' x hd hx
      obtain⟨y,rfl,hy⟩:=get i d hd
      cases o' with
      |succ o'=>simp at hx
      |zero=>
       simp only[BU,oE]at hx
       subst hx
       have ae:o+i<cells.size:=by rw[c2];exact(gS.1 hy).1
       have rm:=Bu ae
       exact⟨rfl,_,rm,c3 (o+i) y _ hy rm⟩
     have:=VR.sl (fm:=fm') (ts:=[]) (((ys.drop o).take n).map fun c=>[c]) c o 1 cp (fun i _=>(cells[o+i]?).getD default) (by rw[hlen];exact⟨hn,by simp[maxLen];omega⟩) (by
       intro d hd
       simp only[List.mem_map]at hd
       obtain⟨z,_,rfl⟩:=hd;rfl)
      (by
       intro i d o' x hd hx
       obtain⟨rfl,u,hu,_,_⟩:=one i d o' x hd hx
       refine⟨b9.2 _ _ ?_,.inr b9.1⟩
       simp only[World.cell?,c1,Nat.mul_one,Nat.add_zero,hu]
       simp)
      (fun i d o' x hd hx=>(one i d o' x hd hx).2.elim fun u hu=>hu.2.1)
      (by
       intro i d o' x hd hx
       obtain⟨rfl,u,hu,_,hv⟩:=one i d o' x hd hx
       rw[hu]
       exact hv)
     rw[hlen]at this
     exact this
   ·cases e
  ·cases e
 |bG=>intro _ y e;simp only[AV.br,oE]at e;subst e;exact .bG
 |ptr l k o c ht=>
  rintro rfl y e
  simp only[AV.br]at e
  split at e
  ·rename_i ys lQ
   obtain rfl:=oi e
   obtain⟨b9,cells,et,c1,c2,c3⟩:=hF l k ys c lQ ht
   have one:∀ (i:Nat) (cc:List AV) (o:Nat) (x:AV),[ys][i]?=some cc->cc[o]?=some x->i=0/\∃ u,cells[o]?=some u/\x.flat=true/\VR fm' [] x u:=by
    intro i cc o x hi ho
    cases i with
    |succ i=>simp at hi
    |zero=>
     simp only[BU,oE]at hi
     subst hi
     have ae:o<cells.size:=by rw[c2];exact(gS.1 ho).1
     have rm:=Bu ae
     exact⟨rfl,_,rm,c3 o x _ ho rm⟩
   have:=VR.aA (fm:=fm') (ts:=[]) [ys] 0 o c 0 ys.length (fun _ o=>(cells[o]?).getD default) (by intro cc b9;simp at b9;rw[b9])
    (by
     intro i cc o x hi ho
     obtain⟨rfl,u,hu,_,_⟩:=one i cc o x hi ho
     refine⟨b9.2 _ _ ?_,.inr (.inr b9.1)⟩
     simp only[World.cell?,c1,Nat.zero_mul,Cq,hu]
     simp)
    (fun i cc o x hi ho=>(one i cc o x hi ho).2.elim fun u hu=>hu.2.1)
    (by
     intro i cc o x hi ho
     obtain⟨rfl,u,hu,_,hv⟩:=one i cc o x hi ho
     rw[hu]
     exact hv)
   simpa using this
  ·cases e
 |eA l k esz i o g a ht=>intro _ y e;simp[AV.br]at e
 |eC l k esz i o g a m' c ht ae=>intro _ y e;simp[AV.br]at e
 |bu l k esz i o g c cap ht=>intro _ y e;simp[AV.br]at e
 |aA es i o cb off esz u h1 h2 h3 h4 _=>intro _ y e;simp only[AV.br,oE]at e;subst e;exact(VR.aA es i o cb off esz u h1 h2 h3 h4 (ts:=[])).mono hle (As.refl _)
 |bP=>intro _ y e;simp only[AV.br,oE]at e;subst e;exact .bP
 |fn f first cap vf vc h1 h2 _ _ im iq=>
  rintro rfl y e
  simp only[AV.br]at e
  split at e
  ·rename_i a b ha hb
   simp only[oE]at e;subst e
   have g1:=pr G F _ _ ha
   have g2:=pr G F _ _ hb
   refine .fn f a b vf vc (by rw[g1.1];exact h1) (by rw[g2.1];exact h2) ?_ ?_
   ·intro i x v hx hv
    have ae:i<first.length:=by rw[<-g1.1];exact(gS.1 hx).1
    obtain⟨y,hy,hu⟩:=g1.2 i _ (gG ae)
    rw[hx]at hy;obtain rfl:=oi hy
    exact im i _ v (gG ae) hv rfl hu
   ·intro i x v hx hv
    have ae:i<cap.length:=by rw[<-g2.1];exact(gS.1 hx).1
    obtain⟨y,hy,hu⟩:=g2.2 i _ (gG ae)
    rw[hx]at hy;obtain rfl:=oi hy
    exact iq i _ v (gG ae) hv rfl hu
  ·cases e
 |bS=>intro _ y e;simp only[AV.br,oE]at e;subst e;exact .bS
 |raw r_ jl=>intro _ y e;simp only[AV.br,oE]at e;subst e;exact .raw r_ jl
 |bR t x v _ ih=>
  rintro rfl y e;simp only[AV.br,mS]at e;obtain⟨z,hz,rfl⟩:=e
  exact .bR t z v (ih rfl hz)
 |agg cs vs h1 h2 _ ih=>
  rintro rfl y e;simp only[AV.br,mS]at e;obtain⟨z,hz,rfl⟩:=e
  have g:=pr G F _ _ hz
  refine .agg z vs (by rw[g.1];exact h1) ?_ ?_
  ·intro x hx
   obtain⟨i,hi⟩:=BC.1 hx
   have ae:i<cs.length:=by rw[<-g.1];exact(gS.1 hi).1
   obtain⟨y,hy,hu⟩:=g.2 i _ (gG ae)
   rw[hi]at hy;obtain rfl:=oi hy
   rw[acD hu]
   exact h2 _ (List.getElem_mem ae)
  ·intro i x v hx hv
   have ae:i<cs.length:=by rw[<-g.1];exact(gS.1 hx).1
   obtain⟨y,hy,hu⟩:=g.2 i _ (gG ae)
   rw[hx]at hy;obtain rfl:=oi hy
   exact ih i _ v (gG ae) hv rfl hu
 |ar xs vs h1 _ ih=>
  rintro rfl y e;simp only[AV.br,mS]at e;obtain⟨z,hz,rfl⟩:=e
  have g:=pr G F _ _ hz
  refine .ar z vs (by rw[g.1];exact h1) ?_
  intro i x v hx hv
  have ae:i<xs.length:=by rw[<-g.1];exact(gS.1 hx).1
  obtain⟨y,hy,hu⟩:=g.2 i _ (gG ae)
  rw[hx]at hy;obtain rfl:=oi hy
  exact ih i _ v (gG ae) hv rfl hu
 |dead v=>intro _ y e;simp[AV.br]at e
theorem HR.br (h:HR N0 W0 fm ts H w) (F:Nat->Nat->Option (List AV)) (hF:∀ l k ys c,F l k=some ys->tb ts l k=some (.box c)->((lC fm w ts H).t c=1/\∀ o u,w.cell? ⟨c,o,none⟩=some u->(lC fm w ts H) c o=some u)/\∃ cells et,w.heap[c]?=some (.cells cells et (0,0))/\cells.size=ys.length/\
   ∀ (o:Nat) y v,ys[o]?=some y->cells[o]?=some v->y.flat=true/\VR (lC fm w ts H) [] y v) {ga:List Ai}{x:AV}{v:Value} (hv:VR fm ga x v):
  ga=ts->∀ {y:AV},x.br H.get F=some y->VR (lC fm w ts H) [] y v:=by
 intro e y hy
 exact h.brG h.aoC (fun _ _ _ h=>h) (fun l k b c hg ht=>⟨h.aiY hg ht,fun _ _ h=>h⟩) F (fun l k ys c a b=>hF l k ys c a b) hv e hy
theorem HR.brs (h:HR N0 W0 fm ts H w) (F:Nat->Nat->Option (List AV)) (hF:∀ l k ys c,F l k=some ys->tb ts l k=some (.box c)->((lC fm w ts H).t c=1/\∀ o u,w.cell? ⟨c,o,none⟩=some u->(lC fm w ts H) c o=some u)/\∃ cells et,w.heap[c]?=some (.cells cells et (0,0))/\cells.size=ys.length/\
   ∀ (o:Nat) y v,ys[o]?=some y->cells[o]?=some v->y.flat=true/\VR (lC fm w ts H) [] y v) {cs ys:List AV}{vs:List Value} (hv:Au fm ts cs vs) (e:AV.cY H.get F cs=some ys):Au (lC fm w ts H) [] ys vs:=by
 have g:=pr H.get F _ _ e
 refine⟨g.1.trans hv.1,?_⟩
 intro i x v hx tV
 have ae:i<cs.length:=by rw[<-g.1];exact(gS.1 hx).1
 obtain⟨y,hy,hu⟩:=g.2 i _ (gG ae)
 rw[hx]at hy;obtain rfl:=oi hy
 exact h.br F hF (hv.2 i _ v (gG ae) tV) rfl hu
theorem HR.cT (h:HR N0 W0 fm ts H w):∀ (n l k:Nat) (ys:List AV) (c:Nat),cT H.get n l k=some ys->tb ts l k=some (.box c)->((lC fm w ts H).t c=1/\∀ o u,w.cell? ⟨c,o,none⟩=some u->(lC fm w ts H) c o=some u)/\∃ cells et,w.heap[c]?=some (.cells cells et (0,0))/\cells.size=ys.length/\
   ∀ (o:Nat) y v,ys[o]?=some y->cells[o]?=some v->y.flat=true/\VR (lC fm w ts H) [] y v:=by
 intro n
 induction n with
 |zero=>intro l k ys c e;simp[Abs.cT]at e
 |succ n ih=>
  intro l k ys c e ht
  simp only[Abs.cT]at e
  split at e
  ·rename_i cs hg
   have hb:=h.al l k _ hg
   rw[ht]at hb
   cases hb with
   |box _ _ hN hB=>
    obtain⟨cells,et,c1,c2,c3⟩:=hB
    have g:=pr _ _ _ _ e
    have hlen:cells.size=ys.length:=by rw[g.1,mT];exact c2
    refine⟨⟨(h.aiY hg (by rw[ht];rfl)).trans (h.aeH hg (by rw[ht];rfl)),fun _ _ h=>h⟩,cells,et,c1,hlen,?_⟩
    intro o y v hy hv
    have ae:o<(AV.dg l cs).length:=by rw[<-g.1];exact(gS.1 hy).1
    obtain⟨y',jJ,hu⟩:=g.2 o _ (gG ae)
    rw[hy]at jJ;obtain rfl:=oi jJ
    have hx:(AV.dg l cs)[o]?=some (AV.dg l cs)[o]:=gG ae
    rw[mR,mS]at hx
    obtain⟨x0,eH,kQ⟩:=hx
    have h3:=c3 o x0 v eH hv
    refine⟨by rw[acD hu,<-kQ,abS];exact h3.1,?_⟩
    rw[<-kQ]at hu
    exact h.br _ ih (h3.2.sh l rfl) rfl hu
  ·cases e
theorem Aw.mL {P:Program}{f:FuncId}{args ay:List AV}{R:AV->Prop} (m:Nat) (hp:Aw P f ay R) (hz:AV.cY (Heap.get ([]::H)) (Abs.cT (Heap.get ([]::H)) m) args=some ay) (hs:∀ y,R y->y.cW=true):
  Cx P f args H (fun y fr H'=>R y/\fr=[]/\H'=H):=by
 refine⟨hp.1,fun N0 W0 fm ts w vs hH hv=>?_⟩
 have h1:=hH.push.brs _ (hH.push.cT m) hv hz
 refine Calls.mono (hp.2 _ w vs (fun b o v h=>h) h1) ?_
 rintro e w' ⟨v,y,fm',rfl,hR,bB,bq,bp,hb⟩
 have j7:HR N0 W0 fm ts H w':=hH.world (fun i hi=>hb.block i hi) (hb.mono hH.size)
 exact⟨v,y,[],H,fm,cM,ts,rfl,⟨hR,rfl,rfl⟩,rfl,j7.push,bq.cW (hs y hR),AN.refl _ _,As.refl _,fun _ _ h=>h,fun _ _=>rfl⟩
def only (G:AR) (rs:List (Nat×Nat)):AR:=fun l k=>if rs.contains (l,k) then G l k else none
theorem HR.afC (h:HR N0 W0 fm ts H w) {fm':FM}{G:AR} (hle:AZ fm fm') (hG:∀ l k b,G l k=some b->H.get l k=some b) (bw:∀ l k b c,G l k=some b->bz (tb ts l k)=some c->fm'.t c=Abs.fJ ts H c/\∀ o u,w.cell? ⟨c,o,none⟩=some u->fm' c o=some u):
  ∀ (n l k:Nat) (ys:List AV) (c:Nat),Abs.cT G n l k=some ys->tb ts l k=some (.box c)->(fm'.t c=1/\∀ o u,w.cell? ⟨c,o,none⟩=some u->fm' c o=some u)/\∃ cells et,w.heap[c]?=some (.cells cells et (0,0))/\cells.size=ys.length/\
   ∀ (o:Nat) y v,ys[o]?=some y->cells[o]?=some v->y.flat=true/\VR fm' [] y v:=by
 intro n
 induction n with
 |zero=>intro l k ys c e;simp[Abs.cT]at e
 |succ n ih=>
  intro l k ys c e ht
  simp only[Abs.cT]at e
  split at e
  ·rename_i cs hg
   have hb:=h.al l k _ (hG _ _ _ hg)
   refine⟨⟨(bw l k _ c hg (by rw[ht];rfl)).1.trans (h.aeH (hG _ _ _ hg) (by rw[ht];rfl)),(bw l k _ c hg (by rw[ht];rfl)).2⟩,?_⟩
   rw[ht]at hb
   cases hb with
   |box _ _ hN hB=>
    obtain⟨cells,et,c1,c2,c3⟩:=hB
    have g:=pr _ _ _ _ e
    have hlen:cells.size=ys.length:=by rw[g.1,mT];exact c2
    refine⟨cells,et,c1,hlen,?_⟩
    intro o y v hy hv
    have ae:o<(AV.dg l cs).length:=by rw[<-g.1];exact(gS.1 hy).1
    obtain⟨y',jJ,hu⟩:=g.2 o _ (gG ae)
    rw[hy]at jJ;obtain rfl:=oi jJ
    have hx:(AV.dg l cs)[o]?=some (AV.dg l cs)[o]:=gG ae
    rw[mR,mS]at hx
    obtain⟨x0,eH,kQ⟩:=hx
    have h3:=c3 o x0 v eH hv
    refine⟨by rw[acD hu,<-kQ,abS];exact h3.1,?_⟩
    rw[<-kQ]at hu
    exact h.brG hle hG bw _ ih (h3.2.sh l rfl) rfl hu
  ·cases e
open Classical in
noncomputable def iJ (fm:FM) (w:World) (ts:List Ai) (H:Heap) (rs:List (Nat×Nat)):FM:=⟨fun b o=>if (∃ l k x,(l,k)∈rs/\H.get l k=some x/\bz (tb ts l k)=some b) then w.cell? ⟨b,o,none⟩ else fm b o,fun b=>if (∃ l k x,(l,k)∈rs/\H.get l k=some x/\bz (tb ts l k)=some b) then fJ ts H b else fm.t b⟩
theorem HR.aiW (h:HR N0 W0 fm ts H w) (rs:List (Nat×Nat)):HR N0 W0 (iJ fm w ts H rs) ts (H.bL (gZ rs)) w/\AN N0 fm (iJ fm w ts H rs):=by
 have hle:AZ fm (iJ fm w ts H rs):=by
  refine⟨fun b o v hv=>?_,fun b o v hv=>?_⟩
  ·unfold iJ
   simp only
   split
   ·exact h.bO b o v hv
   ·exact hv
  ·unfold iJ
   simp only
   rw[if_neg]
   rintro⟨l',k',x,hm,bo,eF⟩
   rw[h.dk l' k' x b o bo eF]at hv
   cases hv
 have src:∀ l k b,Heap.get (H.bL (gZ rs)) l k=some b->(l,k)∉rs/\H.get l k=some b:=by
  intro l k b hg
  rw[vp]at hg
  split at hg
  ·cases hg
  ·rename_i hn;exact⟨hn,hg⟩
 refine⟨⟨by simpa using h.len,?_,?_,?_,?_,h.dh,h.size,h.cV,?_⟩,hle,?_,?_,?_⟩
 ·intro l k b hg
  exact(h.al l k b (src l k b hg).2).mono hle (As.refl _) (fun _ _=>rfl)
 ·intro l k l' k' b b' c hg bo
  exact h.inj l k l' k' b b' c (src l k b hg).2 (src l' k' b' bo).2
 ·intro b o v hv
  unfold iJ at hv
  simp only at hv
  split at hv
  ·exact hv
  ·exact h.bO b o v hv
 ·intro l k b c o hg ht
  obtain⟨hn,iP⟩:=src l k b hg
  unfold iJ
  simp only
  rw[if_neg]
  ·exact h.dk l k b c o iP ht
  ·rintro⟨l',k',x,hm,bo,eF⟩
   obtain⟨rfl,rfl⟩:=h.inj l k l' k' b x c iP bo ht eF
   exact hn hm
 ·intro b o v hN hv ht
  unfold iJ at hv ht
  simp only at hv ht
  split at hv
  ·rename_i hb
   rw[if_pos hb]at ht
   obtain⟨l,k,x,hm,hg,hc⟩:=hb
   have eE:=h.al l k x hg
   cases hq:tb ts l k with
   |none=>rw[hq]at hc;simp[bz]at hc
   |some y=>
    rw[hq]at eE hc
    cases eE with
    |nil=>simp[bz]at hc
    |box c' cs hN hB=>
     obtain⟨cells,et,h1,_⟩:=hB
     simp only[bz,oE]at hc
     exact⟨cells,et,by rw[<-hc];exact h1⟩
    |arr et esz es c' cap hN hA=>
     obtain⟨cells,h1,_⟩:=hA
     simp only[bz,oE]at hc
     exact⟨cells,et,by rw[<-hc];exact h1⟩
  ·rename_i hb
   rw[if_neg hb]at ht
   exact h.ec b o v hN hv ht
 ·intro b o hb
  unfold iJ
  simp only
  rw[if_neg]
  rintro⟨l',k',x,hm,bo,eF⟩
  have:=((h.al l' k' x bo).lt eF).2
  omega
 ·intro b hb
  unfold iJ
  simp only
  rw[if_neg]
  rintro⟨l',k',x,hm,bo,eF⟩
  have:=((h.al l' k' x bo).lt eF).2
  omega
 ·intro b o v hv
  unfold iJ at hv ⊢
  simp only at hv ⊢
  split at hv
  ·rename_i hb;right;rw[if_pos hb];exact aiU _ _ _
  ·exact .inl hv
theorem Aw.take {P:Program}{f:FuncId}{args ay:List AV}{R:AV->Prop} (m:Nat) (rs:List (Nat×Nat)) (hp:Aw P f ay R) (hz:AV.cY (only (Heap.get ([]::H)) rs) (Abs.cT (only (Heap.get ([]::H)) rs) m) args=some ay) (hr:(rs.all fun p=>0<p.1)=true):
  Cx P f args H (fun y fr H'=>R y/\fr=[]/\([]:Av)::H'=Heap.bL ([]::H) (gZ rs)):=by
 refine⟨hp.1,fun N0 W0 fm ts w vs hH hv=>?_⟩
 have hP:=hH.push
 obtain⟨hT,hU⟩:=hP.aiW rs
 have hG:∀ l k b,only (Heap.get ([]::H)) rs l k=some b->Heap.get ([]::H) l k=some b:=by
  intro l k b e;unfold only at e;split at e
  ·exact e
  ·cases e
 have bw:∀ l k b c,only (Heap.get ([]::H)) rs l k=some b->bz (tb (cM::ts) l k)=some c->(iJ fm w (cM::ts) ([]::H) rs).t c=Abs.fJ (cM::ts) ([]::H) c/\∀ o u,w.cell? ⟨c,o,none⟩=some u->iJ fm w (cM::ts) ([]::H) rs c o=some u:=by
  intro l k b c e hc
  unfold only at e
  split at e
  ·rename_i hm
   unfold iJ
   simp only
   rw[if_pos ⟨l,k,b,by simpa using hm,e,hc⟩]
   refine⟨rfl,fun o u hu=>?_⟩
   rw[if_pos ⟨l,k,b,by simpa using hm,e,hc⟩]
   exact hu
  ·cases e
 have h1:Au (iJ fm w (cM::ts) ([]::H) rs) [] ay vs:=by
  have g:=pr _ _ _ _ hz
  refine⟨g.1.trans hv.1,?_⟩
  intro i x v hx tV
  have ae:i<args.length:=by rw[<-g.1];exact(gS.1 hx).1
  obtain⟨y,hy,hu⟩:=g.2 i _ (gG ae)
  rw[hx]at hy;obtain rfl:=oi hy
  exact hP.brG hU.le hG bw _ (hP.afC hU.le hG bw m) (hv.2 i _ v (gG ae) tV) rfl hu
 refine Calls.mono (hp.2 _ w vs hT.bO h1) ?_
 rintro e w' ⟨v,y,fm',rfl,hR,bB,bq,bp,hb⟩
 obtain⟨f',H',hpu⟩:∃ f' H',Heap.bL ([]::H) (gZ rs)=f'::H':=by
  have:=Heap.ahG (gZ rs) ([]::H)
  cases hc:Heap.bL ([]::H) (gZ rs) with
  |nil=>rw[hc]at this;simp at this
  |cons f' H'=>exact⟨f',H',rfl⟩
 have hf:f'=[]:=by
  have:∀ (rs:List (Nat×Nat)) (f:Av) (H:Heap),(rs.all fun p=>0<p.1)=true->∃ H',Heap.bL (f::H) (gZ rs)=f::H':=by
   intro rs
   induction rs with
   |nil=>intro f H _;exact⟨H,rfl⟩
   |cons p rs ih=>
    intro f H hr
    obtain⟨l,k⟩:=p
    simp only[List.all_cons,A7,decide_eq_true_eq]at hr
    cases l with
    |zero=>omega
    |succ l=>exact ih f _ hr.2
  obtain⟨H2,e2⟩:=this rs [] H hr
  rw[hpu]at e2
  exact(List.cons.inj e2).1
 subst hf
 rw[hpu]at hT
 refine⟨v,y,[],H',fm',cM,ts,rfl,⟨hR,rfl,hpu.symm⟩,?_,?_,bq.mono (AZ.refl _) (As.nil _),?_,As.refl _,fun _ _ h=>h,fun _ _=>rfl⟩
 ·have:=congrArg List.length hpu;simpa using this.symm
 ·exact hT.pop.up hb bp bB |>.push
 ·exact hU.trans (bp.low hP.size)
end
theorem sK {G G':AR}{F F':Nat->Nat->Option (List AV)} (hG:∀ l k b,G l k=some b->G' l k=some b) (hF:∀ l k b,F l k=some b->F' l k=some b) (hz:∀ l k e i n g y,(AV.loc l k e i n g).ai G=some y->(AV.loc l k e i n g).ai G'=some y):
  (∀ x y:AV,x.br G F=some y->x.br G' F'=some y)/\(∀ l ys:List AV,AV.cY G F l=some ys->AV.cY G' F' l=some ys):=by
 have key:∀ (n:Nat),(∀ x y:AV,SizeOf.sizeOf x<n->x.br G F=some y->x.br G' F'=some y)/\(∀ l ys:List AV,SizeOf.sizeOf l<n->AV.cY G F l=some ys->AV.cY G' F' l=some ys):=by
  intro n
  induction n with
  |zero=>exact⟨fun x y h=>absurd h (by omega),fun x y h=>absurd h (by omega)⟩
  |succ n ih=>
   refine⟨?_,?_⟩
   ·intro x y hn h
    cases x with
    |loc l k e i g j=>simp only[AV.br]at h ⊢;exact hz _ _ _ _ _ _ _ h
    |ptr l k o=>
     simp only[AV.br]at h ⊢
     split at h
     ·rename_i ys lQ;rw[hF _ _ _ lQ];exact h
     ·cases h
    |bF l k e o n=>
     simp only[AV.br]at h ⊢
     split at h
     ·rename_i ys lQ;rw[hF _ _ _ lQ];exact h
     ·cases h
    |fn f a b=>
     simp only[AV.br]at h ⊢
     split at h
     ·rename_i x z hx ek
      rw[ih.2 a x (by simp at hn;omega) hx,ih.2 b z (by simp at hn;omega) ek]
      exact h
     ·cases h
    |bR t v=>
     simp only[AV.br,mS]at h ⊢
     obtain⟨a,h1,h2⟩:=h
     exact⟨a,ih.1 v a (by simp at hn;omega) h1,h2⟩
    |agg cs=>
     simp only[AV.br,mS]at h ⊢
     obtain⟨a,h1,h2⟩:=h
     exact⟨a,ih.2 cs a (by simp at hn;omega) h1,h2⟩
    |ar cs=>
     simp only[AV.br,mS]at h ⊢
     obtain⟨a,h1,h2⟩:=h
     exact⟨a,ih.2 cs a (by simp at hn;omega) h1,h2⟩
    |_=>first|(simpa [AV.br] using h)|(simp[AV.br]at h)
   ·intro l ys hn h
    cases l with
    |nil=>simpa [AV.cY] using h
    |cons x l=>
     simp only[AV.cY]at h ⊢
     split at h
     ·rename_i a b ha hb
      rw[ih.1 x a (by simp at hn;omega) ha,ih.2 l b (by simp at hn;omega) hb]
      exact h
     ·cases h
 exact⟨fun x y h=>(key (SizeOf.sizeOf x+1)).1 x y (by omega) h,fun l ys h=>(key (SizeOf.sizeOf l+1)).2 l ys (by omega) h⟩
theorem uO {G G':AR} (hG:∀ l k b,G l k=some b->G' l k=some b) (hz:∀ l k e i n g y,(AV.loc l k e i n g).ai G=some y->(AV.loc l k e i n g).ai G'=some y):∀ n l k ys,cT G n l k=some ys->cT G' n l k=some ys:=by
 intro n
 induction n with
 |zero=>intro l k ys h;simp[cT]at h
 |succ n ih=>
  intro l k ys h
  simp only[cT]at h ⊢
  split at h
  ·rename_i cs hg
   rw[hG l k _ hg]
   exact(sK hG ih hz).2 _ _ h
  ·cases h
theorem adR:∀ (rs:List Nat) (f:Av) (H:Heap),Heap.bL ([]::f::H) (gZ (rs.map fun k=>(1,k)))=[]::cC f rs::H
 |[],f,H=>rfl
 |k::rs,f,H=>adR rs (del f k) H
section
variable {P:Program}{T:AM}{N0:Nat}{W0:World}{n:Nat}{fm:FM}{ts:List Ai}{H:Heap}{w:World}{Φ:Exit->St->Prop}
def A6 (P:Program) (f:FuncId) (args:List AV) (fr0:Av) (R:AV->Av->Prop):Prop:=
 Enters P f/\∀ H N0 W0 fm t ts w vs,HR N0 W0 fm (t::ts) (fr0::H) w->(∀ k,16<=k->t k=none)->Au fm (t::ts) args vs->
  Calls P f vs.toArray w fun e w'=>∃ v y aU fm' t' ts',e=.returned v/\R y aU/\HR N0 W0 fm' (t'::ts') (aU::H) w'/\VR fm' (t'::ts') y v/\AN N0 fm fm'/\As ts ts'/\
   (∀ l k,tb ts l k=none->tb ts' l k=none)/\∀ k,16<=k->t' k=none
def Fz (T:AM) (rs:List ResultVar) (H:Heap) (R:AV->Av->Prop) (e:Exit) (st:St):Prop:=
 Ends T rs (fun y fr H'=>H'=H/\R y fr) e st
theorem A6.gu (hT : AQ P T) {f : FuncId} {fn : Func} {c : Code} {sc : SC} {args : List AV} {fr0 : Av} {R : AV → Av → Prop} (hf : P.funcs[f]? = some fn) (hb : fn.body = some c) (jj : (fn.name == "runtime.NumGoroutine") = false)
  (he:sc.bare=erase fn.ntmps c) (eO:(erase fn.ntmps c).fits fn.ntmps=true) (fk:args.length<=fn.ntmps)
  (h:∀ H,AK P fn.ntmps (Fz T fn.results.toList H R) [.sc sc] ⟨sG 0 args,fr0,H,16,fn.ntmps⟩):A6 P f args fr0 R:=by
 refine⟨⟨fn,hf,jj,by simp[hb]⟩,?_⟩
 intro H N0 W0 fm t ts w vs hH ht hv
 refine calls_of_wp hf hb ((xe []).1 ?_)
 have hl:=hv.1
 have hS:SR N0 W0 fn.ntmps ⟨sG 0 args,fr0,H,16,fn.ntmps⟩ { tmps:=vs.toArray++Array.replicate (fn.ntmps - vs.toArray.size) undef,defers:=[] } w fm (t::ts):=by
  refine⟨hH,?_,fun k hk=>ht k hk,by simp;omega,⟨rfl,Dx.kU _⟩⟩
  intro i x hx
  obtain⟨_,hx⟩:=ae3 args 0 i x hx
  simp only[Nat.sub_zero]at hx
  have ae:i<vs.length:=by rw[<-hl];exact(gS.1 hx).1
  refine⟨vs[i],?_,hv.2 i x _ hx (gG ae)⟩
  rw[Array.getElem?_append_left (by simpa using ae)]
  simp[ae]
 have:=h H N0 W0 fm (t::ts) _ w [.code c] (bodyPost P fn fun e w'=>∃ v y aU fm' t' ts',e=.returned v/\R y aU/\HR N0 W0 fm' (t'::ts') (aU::H) w'/\VR fm' (t'::ts') y v/\AN N0 fm fm'/\As ts ts'/\
   (∀ l k,tb ts l k=none->tb ts' l k=none)/\∀ k,16<=k->t' k=none) hS (.sc he eO .nil) ?_
 ·exact this
 ·intro e ao a' w' fm' ts' hE cK hL
  have fin:(∃ xs,gN T ao fn.results.toList=some xs/\D4 (fun y fr H'=>H'=H/\R y fr) (bZ xs) ao)->a'.defers=[]/\∃ v,(results fn a'.tmps).run P w'=.ok v w'/\∃ v_1 y aU fm' t' ts',Ending.returned v=.returned v_1/\R y aU/\HR N0 W0 fm' (t'::ts') (aU::H) w'/\VR fm' (t'::ts') y v_1/\AN N0 fm fm'/\As ts ts'/\
    (∀ l k,tb ts l k=none->tb ts' l k=none)/\∀ k,16<=k->t' k=none:=by
   rintro⟨xs,fX,hg⟩
   obtain⟨v,h1,h2⟩:=rZ (P:=P) hT cK fX
   refine⟨cK.dZ.1,v,h1,?_⟩
   cases ts' with
   |nil=>have:=cK.hr.len;simp at this
   |cons t rest=>
    have ik:As ts rest:=by simpa using hL.jS
    have bx:∀ l k,tb ts l k=none->tb rest l k=none:=by simpa using hL.no
    cases hg with
    |own ks y fr hn hk hy pM hR=>
     obtain⟨jG,hR⟩:=hR
     have hr:=cK.hr.aQ pM hn
     rw[jG]at hr
     exact⟨v,y,fr,fm',eY ks t,rest,rfl,hR,hr,h2.aQ rfl hy,hL.cU,ik,bx,fun k eT=>by simp only[eY];rw[CK (by omega)];rfl⟩
    |ai y hy hr hR=>
     obtain⟨jG,hR⟩:=hR
     have h3:=cK.hr.ai (bZ xs).refs h2 hy (fun _ h=>h)
     have h4:=cK.hr.rM (bZ xs).refs
     obtain⟨f',yv⟩:=ahD hr ao.fr ao.low
     rw[yv]at h4
     have yU:∀ l k,tb (iz (t::rest) (bZ xs).refs) (l+1) k=tb rest l k:=by
      intro l k
      rw[mb,if_neg]
      ·simp[tb]
      ·rintro⟨hm,_⟩
       have:=List.all_eq_true.1 hr _ hm
       simp at this
     have hlen:=adT (bZ xs).refs (t::rest)
     cases hg:iz (t::rest) (bZ xs).refs with
     |nil=>rw[hg]at hlen;simp at hlen
     |cons t2 z6=>
      rw[hg]at h4 yU
      have e2:∀ l k,tb z6 l k=tb rest l k:=fun l k=>by simpa [tb] using yU l k
      have bp:=cK.hr.ve (bZ xs).refs
      have h5:=h4.pop.push
      rw[jG]at h5 bp h3
      exact⟨v,y,[],_,cM,z6,rfl,hR,h5,h3.mono (AZ.refl _) (As.nil _),hL.cU.trans bp,fun l k=>by rw[e2];exact ik l k,fun l k hh=>by rw[e2];exact bx l k hh,fun _ _=>rfl⟩
  cases e with
  |normal=>exact fin hE
  |ret=>exact fin hE
  |_=>exact hE.elim
def xT (gs:List Nat) (G:AR) (F:Nat->Nat->Option (List AV)):AV->Option AV
 |.loc 1 k e i n g=>match idx gs k with
  |some j=>some (.loc 0 j e i n g)
  |none=>(AV.loc 1 k e i n g).br G F
 |x=>x.br G F
def kI (gs:List Nat) (G:AR) (F:Nat->Nat->Option (List AV)):List AV->Option (List AV)
 |[]=>some []
 |x::l=>match xT gs G F x,kI gs G F l with
  |some x,some l=>some (x::l)
  |_,_=>none
def nf (f:Av):Nat->List Nat->Option Av
 |_,[]=>some []
 |i,k::r=>match look f k with
  |some (.arr et e es)=>(nf f (i+1) r).map fun l=>(i,.arr et e es)::l
  |_=>none
theorem agY (f:Av):∀ (r:List Nat) (i:Nat) (fr:Av),nf f i r=some fr->∀ j b,look fr j=some b->i<=j/\∃ k et e es,r[j - i]?=some k/\look f k=some b/\b=.arr et e es
 |[],i,fr,h,j,b,hj=>by simp only[nf,oE]at h;subst h;simp[look]at hj
 |k::r,i,fr,h,j,b,hj=>by
  simp only[nf]at h
  split at h
  ·rename_i et e es hk
   simp only[mS]at h
   obtain⟨l,hl,rfl⟩:=h
   simp only[look]at hj
   split at hj
   ·rename_i he
    subst he
    obtain rfl:=oi hj
    exact⟨Bd _,k,et,e,es,by simp,hk,rfl⟩
   ·obtain⟨h1,k',jz,e',es',h2,h3,h4⟩:=agY f r (i+1) l hl j b hj
    refine⟨by omega,k',jz,e',es',?_,h3,h4⟩
    have:j - i=(j - (i+1))+1:=by omega
    rw[this,Ca];exact h2
  ·cases h
theorem ahM (ks:List Nat):∀ (f:Av) (j:Nat),look (cC f ks) j=if j∈ks then none else look f j:=by
 induction ks with
 |nil=>intro f j;simp[cC]
 |cons k ks ih=>
  intro f j
  simp only[cC,ih,zr,BD]
  by_cases h1:j∈ks
  ·simp[h1]
  ·by_cases h2:k=j
   ·simp[h2]
   ·simp[h1,h2,Ne.symm h2]
theorem HR.n4 {h:Ai}{rest:List Ai}{f:Av} (hh:HR N0 W0 fm (cM::h::rest) ([]::f::H) w) {gs:List Nat}{fr0:Av} (hg:nf f 0 gs=some fr0) (bW:gs.Nodup):
  HR N0 W0 fm (eY gs h::h::rest) (fr0::cC f gs::H) w:=by
 have src:∀ l k b,Heap.get (fr0::cC f gs::H) l k=some b->(l=0/\∃ k0 et e es,gs[k]?=some k0/\look f k0=some b/\b=.arr et e es/\tb (eY gs h::h::rest) 0 k=h k0)\/(l≠0/\Heap.get ([]::f::H) l k=some b/\tb (eY gs h::h::rest) l k=tb (cM::h::rest) l k/\(l=1->k∉gs)):=by
  intro l k b hb
  cases l with
  |zero=>
   simp only[Heap.get]at hb
   obtain⟨_,k0,et,e,es,h1,h2,h3⟩:=agY f gs 0 fr0 hg k b hb
   simp only[Nat.sub_zero]at h1
   exact .inl ⟨rfl,k0,et,e,es,h1,h2,h3,by simp[tb,eY,h1]⟩
  |succ l=>
   cases l with
   |zero=>
    simp only[Heap.get,ahM]at hb
    split at hb
    ·cases hb
    ·rename_i hn
     exact .inr ⟨by omega,by simpa [Heap.get] using hb,by simp[tb],fun _=>hn⟩
   |succ l=>exact .inr ⟨by omega,by simpa [Heap.get] using hb,by simp[tb],fun e=>by omega⟩
 refine⟨by have:=hh.len;simpa using this,?_,?_,hh.bO,?_,hh.dh,hh.size,hh.cV,hh.ec⟩
 ·intro l k b hb
  rcases src l k b hb with ⟨rfl,k0,et,e,es,h1,h2,rfl,h4⟩|⟨hl,h2,h3,_⟩
  ·rw[h4]
   have:=hh.al 1 k0 _ (by simpa [Heap.get] using h2)
   simp only[tb]at this
   generalize h k0=tt at this
   cases this with
   |nil=>exact .nil _ _
   |arr _ _ _ c cap hN hA=>exact .arr _ _ _ c cap hN hA
  ·rw[h3]
   have:=hh.al l k b h2
   obtain⟨l,rfl⟩:∃ m,l=m+1:=⟨l - 1,by omega⟩
   simpa using this
 ·intro l1 k1 l2 k2 b1 b2 c g1 g2 t1 t2
  rcases src l1 k1 b1 g1 with ⟨rfl,q1,_,_,_,a1,a2,_,a4⟩|⟨gq,a2,a3,a4⟩
  ·rw[a4]at t1
   rcases src l2 k2 b2 g2 with ⟨rfl,q2,_,_,_,c1,c2,_,c4⟩|⟨kO,c2,c3,c4⟩
   ·rw[c4]at t2
    have:=(hh.inj 1 q1 1 q2 b1 b2 c (by simpa [Heap.get] using a2) (by simpa [Heap.get] using c2) (by simpa [tb] using t1) (by simpa [tb] using t2)).2
    subst this
    refine⟨rfl,?_⟩
    exact(List.getElem?_inj (gS.1 a1).1 bW).1 (a1.trans c1.symm)
   ·rw[c3]at t2
    obtain⟨e1,e2⟩:=hh.inj 1 q1 l2 k2 b1 b2 c (by simpa [Heap.get] using a2) c2 (by simpa [tb] using t1) t2
    subst e1 e2
    exact absurd (AW a1) (c4 rfl)
  ·rw[a3]at t1
   rcases src l2 k2 b2 g2 with ⟨rfl,q2,_,_,_,c1,c2,_,c4⟩|⟨kO,c2,c3,c4⟩
   ·rw[c4]at t2
    obtain⟨e1,e2⟩:=hh.inj l1 k1 1 q2 b1 b2 c a2 (by simpa [Heap.get] using c2) t1 (by simpa [tb] using t2)
    subst e1 e2
    exact absurd (AW c1) (a4 rfl)
   ·rw[c3]at t2
    exact hh.inj l1 k1 l2 k2 b1 b2 c a2 c2 t1 t2
 ·intro l k b c o hb hc
  rcases src l k b hb with ⟨rfl,k0,_,_,_,h1,h2,_,h4⟩|⟨hl,h2,h3,_⟩
  ·rw[h4]at hc
   exact hh.dk 1 k0 b c o (by simpa [Heap.get] using h2) (by simpa [tb] using hc)
  ·rw[h3]at hc
   exact hh.dk l k b c o h2 hc
theorem ag2 {h:Ai}{rest:List Ai}{f:Av}{dU:FM} (hh:HR N0 W0 fm (cM::h::rest) ([]::f::H) w) (hle:AZ fm dU) {G:AR} (hG:∀ l k b,G l k=some b->Heap.get ([]::f::H) l k=some b)
  (bw:∀ l k b c,G l k=some b->bz (tb (cM::h::rest) l k)=some c->dU.t c=Abs.fJ (cM::h::rest) ([]::f::H) c/\∀ o u,w.cell? ⟨c,o,none⟩=some u->dU c o=some u) {gs:List Nat}{m:Nat}:
  ∀ (args ys:List AV) (vs:List Value),kI gs G (cT G m) args=some ys->Au fm (cM::h::rest) args vs->Au dU (eY gs h::h::rest) ys vs
 |[],ys,vs,e,hv=>by
  simp only[kI,oE]at e;subst e
  exact⟨hv.1,fun i x v hx=>by simp at hx⟩
 |x::l,ys,vs,e,hv=>by
  simp only[kI]at e
  split at e
  ·rename_i y ys' hy lQ
   obtain rfl:=oi e
   cases vs with
   |nil=>have:=hv.1;simp at this
   |cons v vs=>
    have hx:VR fm (cM::h::rest) x v:=hv.2 0 x v rfl rfl
    have ih:=ag2 hh hle hG bw l ys' vs lQ ⟨by simpa using hv.1,fun i a b p q=>hv.2 (i+1) a b (by simpa using p) (by simpa using q)⟩
    refine⟨by simp[ih.1],?_⟩
    intro i a b ha hb
    cases i with
    |succ i=>simp at ha hb;exact ih.2 i a b ha hb
    |zero=>
     simp at ha hb;subst ha hb
     have br:x.br G (cT G m)=some y->VR dU (eY gs h::h::rest) y v:=fun eE=>
      (hh.brG hle hG bw _ (hh.afC hle hG bw m) hx rfl eE).mono (AZ.refl _) (As.nil _)
     unfold xT at hy
     split at hy
     ·rename_i k e i n g
      split at hy
      ·rename_i j hj
       obtain rfl:=oi hy
       have pP:=adO gs k j hj
       have fo:tb (eY gs h::h::rest) 0 j=tb (cM::h::rest) 1 k:=by simp[tb,eY,pP]
       have iQ:=hx.mono hle (As.refl _)
       cases iQ with
       |cI _ _ _ _ _ _ a cp ht hn ha=>exact .cI _ _ _ _ _ _ a cp (fo.trans ht) hn ha
       |cJ _ _ _ _ _ _ a cp m' c ht ae hn ha=>exact .cJ _ _ _ _ _ _ a cp m' c (fo.trans ht) ae hn ha
       |cv _ _ _ a ht=>exact .cv _ _ _ a (fo.trans ht)
       |loc _ _ _ _ _ _ c cap cp a ht hn bI hc ha=>exact .loc _ _ _ _ _ _ c cap cp a (fo.trans ht) hn bI hc ha
      ·exact br hy
     ·exact br hy
  ·cases e
theorem A6.used {f:FuncId}{args dF:List AV}{fr0 f0:Av}{R:AV->Av->Prop} (m:Nat) (rs gs:List Nat) (hp:A6 P f dF fr0 R) (hz:kI gs (only (Heap.get ([]::f0::H)) (rs.map fun k=>(1,k))) (cT (only (Heap.get ([]::f0::H)) (rs.map fun k=>(1,k))) m) args=some dF)
  (hg:nf (cC f0 rs) 0 gs=some fr0) (bW:(decide gs.Nodup&&decide (gs.length<=16))=true):Cx P f args (f0::H) (fun y fr H'=>R y fr/\H'=cC (cC f0 rs) gs::H):=by
 simp only[A7,decide_eq_true_eq]at bW
 refine⟨hp.1,fun N0 W0 fm ts w vs hH hv=>?_⟩
 have hP:=hH.push
 cases ts with
 |nil=>have:=hH.len;simp at this
 |cons h rest=>
  obtain⟨hT,hU⟩:=hP.aiW (rs.map fun k=>(1,k))
  rw[adR]at hT
  have hG:∀ l k b,only (Heap.get ([]::f0::H)) (rs.map fun k=>(1,k)) l k=some b->Heap.get ([]::f0::H) l k=some b:=by
   intro l k b e;unfold only at e;split at e
   ·exact e
   ·cases e
  have bw:∀ l k b c,only (Heap.get ([]::f0::H)) (rs.map fun k=>(1,k)) l k=some b->bz (tb (cM::h::rest) l k)=some c->(iJ fm w (cM::h::rest) ([]::f0::H) (rs.map fun k=>(1,k))).t c=Abs.fJ (cM::h::rest) ([]::f0::H) c/\∀ o u,w.cell? ⟨c,o,none⟩=some u->iJ fm w (cM::h::rest) ([]::f0::H) (rs.map fun k=>(1,k)) c o=some u:=by
   intro l k b c e hc
   unfold only at e
   split at e
   ·rename_i hm
    unfold iJ
    simp only
    rw[if_pos ⟨l,k,b,by simpa using hm,e,hc⟩]
    refine⟨rfl,fun o u hu=>?_⟩
    rw[if_pos ⟨l,k,b,by simpa using hm,e,hc⟩]
    exact hu
   ·cases e
  have h1:=ag2 hP hU.le hG bw args dF vs hz hv
  have h2:=hT.n4 hg bW.1
  refine Calls.mono (hp.2 (cC (cC f0 rs) gs::H) N0 W0 _ (eY gs h) (h::rest) w vs h2 (fun k hk=>by simp only[eY];rw[CK (by omega)];rfl) h1) ?_
  rintro e w' ⟨v,y,aU,fm',t',ts',rfl,hR,bY,bq,bp,ik,bx,ht⟩
  exact⟨v,y,aU,cC (cC f0 rs) gs::H,fm',t',ts',rfl,⟨hR,rfl⟩,by simp,bY,bq,hU.trans bp,ik,bx,ht⟩
end
def jQ (G:AR):AR:=fun l k=>match l with
 |0=>none
 |l+1=>G l k
def n5 (G:AR):Nat->List Nat->Option Av
 |_,[]=>some []
 |i,k::r=>match G 0 k with
  |some (.arr et e es)=>(n5 G (i+1) r).map fun l=>(i,.arr et e es)::l
  |_=>none
theorem adk {G G':AR} (h:∀ l k b,G l k=some b->G' l k=some b):∀ (r:List Nat) (i:Nat) (fr:Av),n5 G i r=some fr->n5 G' i r=some fr
 |[],i,fr,e=>e
 |k::r,i,fr,e=>by
  simp only[n5]at e ⊢
  split at e
  ·rename_i et z es hk
   simp only[mS]at e
   obtain⟨l,hl,rfl⟩:=e
   rw[h 0 k _ hk]
   simp only[adk h r (i+1) l hl,A5]
  ·cases e
theorem agZ (f:Av) (H:Heap) (rs:List Nat):∀ (r:List Nat) (i:Nat) (fr:Av),n5 (Heap.get (f::H)) i r=some fr->(∀ k∈r,k∉rs)->nf (cC f rs) i r=some fr
 |[],i,fr,e,_=>e
 |k::r,i,fr,e,hk=>by
  simp only[n5,Heap.get]at e
  simp only[nf,ahM,if_neg (hk k List.mem_cons_self)]
  split at e
  ·rename_i et z es eT
   simp only[mS]at e
   obtain⟨l,hl,rfl⟩:=e
   simp only[eT,agZ f H rs r (i+1) l hl (fun k h=>hk k (List.mem_cons_of_mem _ h)),A5]
  ·cases e
def kT (ks:List Nat):List (Nat×Nat×Option AG):=ks.map fun k=>(0,k,none)
def kS (kb:Nat):Av->List (Nat×Nat×Option AG)
 |[]=>[]
 |(c,b)::R=>kS kb R++[(0,kb+c,some (b.imp kb))]
theorem aeq:∀ (ks:List Nat) (f:Av) (H:Heap),Heap.bL (f::H) (kT ks)=cC f ks::H
 |[],_,_=>rfl
 |k::ks,f,H=>aeq ks (del f k) H
theorem aep (kb:Nat):∀ (R:Av) (f:Av) (H:Heap),Heap.bL (f::H) (kS kb R)=mI kb R f::H
 |[],_,_=>rfl
 |(c,b)::R,f,H=>by
  simp only[kS,Heap.oN,aep kb R f H,mI]
  rfl
theorem adl {gs:List Nat}{G G':AR}{F F':Nat->Nat->Option (List AV)} (h:∀ x y:AV,x.br G F=some y->x.br G' F'=some y):∀ (l ys:List AV),kI gs G F l=some ys->kI gs G' F' l=some ys
 |[],ys,e=>e
 |x::l,ys,e=>by
  simp only[kI]at e ⊢
  split at e
  ·rename_i a b ha hb
   have gp:xT gs G' F' x=some a:=by
    cases x with
    |loc lv k e i n g=>
     match lv,ha with
     |0,ha=>exact h _ _ ha
     |1,ha=>
      simp only[xT]at ha ⊢
      cases hj:idx gs k with
      |some j=>rw[hj]at ha;exact ha
      |none=>rw[hj]at ha;exact h _ _ ha
     |_+2,ha=>exact h _ _ ha
    |_=>exact h _ _ ha
   rw[gp,adl h l b hb]
   exact e
  ·cases e
def jR (kb:Nat) (t' h:Ai):Ai:=fun k=>if kb<=k/\k<kb+16 then t' (k - kb) else h k
end Go.Abs
namespace Go.Abs
open Go Go.RowKit
section
variable {P:Program}{T:AM}{N0:Nat}{W0:World}{fm:FM}{ts:List Ai}{H:Heap}{w:World}
def AV.lo:AV->Bool
 |.loc l _ _ _ _ _=>l==0
 |.ptr l _ _=>l==0
 |x=>x.leaf
def AV.mM:AV->Bool
 |.ar vs=>vs.all AV.lo
 |.agg cs=>cs.all AV.lo
 |x=>x.lo
def AG.lo:AG->Prop
 |.arr _ _ es=>∀ c∈es,∀ x∈c,x.leaf=true
 |.box cs=>∀ x∈cs,x.lo=true
theorem VR.lo {fm fm':FM}{t:Ai}{ts:List Ai}{x:AV}{v:Value} (h:VR fm' [t] x v) (hx:x.lo=true):VR fm (t::ts) x v:=by
 cases h with
 |cI l k esz i n g a cp h dW ha=>
  obtain rfl:l=0:=by simpa [AV.lo] using hx
  exact .cI 0 _ esz i n g a cp h dW ha
 |cJ l k esz i n g a cp m' c h ae dW ha=>
  obtain rfl:l=0:=by simpa [AV.lo] using hx
  exact .cJ 0 _ esz i n g a cp m' c h ae dW ha
 |cv l k esz a h=>
  obtain rfl:l=0:=by simpa [AV.lo] using hx
  exact .cv 0 _ esz a h
 |loc l k esz i n g c cap cp a h dW bI hc ha=>
  obtain rfl:l=0:=by simpa [AV.lo] using hx
  exact .loc 0 _ esz i n g c cap cp a h dW bI hc ha
 |ptr l k o c h=>
  obtain rfl:l=0:=by simpa [AV.lo] using hx
  exact .ptr 0 _ o c h
 |bool b=>exact .bool b
 |int k n=>exact .int k n
 |str s=>exact .str s
 |nil=>exact .nil
 |bG=>exact .bG
 |bP=>exact .bP
 |bS=>exact .bS
 |raw r_=>exact .raw _ (by assumption)
 |_=>simp[AV.lo,AV.leaf]at hx
theorem VR.mM {fm fm':FM}{t:Ai}{ts:List Ai}{x:AV}{v:Value} (h:VR fm' [t] x v) (hx:x.mM=true):VR fm (t::ts) x v:=by
 cases x with
 |ar xs=>
  cases h with
  |ar _ vs h1 h3=>exact .ar xs vs h1 (fun i x v a b=>(h3 i x v a b).lo (List.all_eq_true.1 hx x (AW a)))
 |agg cs=>
  cases h with
  |agg _ vs h1 h2 h3=>exact .agg cs vs h1 h2 (fun i x v a b=>(h3 i x v a b).lo (List.all_eq_true.1 hx x (AW a)))
 |_=>exact h.lo hx
theorem BR.lo {fm fm':FM}{t:Ai}{ts:List Ai}{w:World}{N N0:Nat}{x:Option TB}{b:AG} (h:BR fm' [t] w N x b) (hN:N0<=N) (hb:b.lo):BR fm (t::ts) w N0 x b:=by
 cases h with
 |nil et esz=>exact .nil et esz
 |arr et esz es c cap h1 hA=>
  obtain⟨cells,a1,a2,a3,a4,a5,a6,a7⟩:=hA
  refine .arr et esz es c cap (Ea hN h1) ⟨cells,a1,a2,a3,a4,a5,a6,?_⟩
  intro i d o x v p q r
  have:=a7 i d o x v p q r
  exact⟨this.1,this.2.leaf (hb d (AW p) x (AW q))⟩
 |box c cs h1 hB=>
  obtain⟨cells,et,c1,c2,c3⟩:=hB
  exact .box c cs (Ea hN h1) ⟨cells,et,c1,c2,fun o x v p q=>⟨(c3 o x v p q).1,(c3 o x v p q).2.lo (hb x (AW p))⟩⟩
def rN:Av->Prop
 |[]=>True
 |(_,b)::l=>b.lo/\rN l
theorem ahK:∀ (l:Av) (k:Nat) (b:AG),rN l->look l k=some b->b.lo
 |[],k,b,_,h=>by simp[look]at h
 |(j,x)::l,k,b,h,e=>by
  simp only[look]at e
  split at e
  ·obtain rfl:=oi e;exact h.1
  ·exact ahK l k b h.2 e
theorem A6.ahH {f:FuncId}{ay:List AV}{vs:List Value}{y0:AV}{fr0:Av} (hp:A6 P f ay [] (fun y fr=>y=y0/\fr=fr0)) (hH:HR N0 W0 fm ts H w) {fmx:FM} (hfx:Dv fmx w) (h1:Au fmx [] ay vs) (hy:y0.mM=true) (hf:rN fr0):
  Calls P f vs.toArray w fun e w'=>∃ v t',e=.returned v/\HR N0 W0 fm (t'::ts) (fr0::H) w'/\VR fm (t'::ts) y0 v/\∀ k,16<=k->t' k=none:=by
 have hn:HR w.heap.size w fmx [] [] w:=HR.nothing hfx
 have rB:Au fmx (cM::[]) ay vs:=by
  refine⟨h1.1,fun i x v a b=>?_⟩
  have h2:=h1.2 i x v a b
  exact h2.mono (AZ.refl _) (As.nil _)
 refine Calls.mono (hp.2 [] w.heap.size w _ cM [] w vs hn.push (fun _ _=>rfl) rB) ?_
 rintro e w' ⟨v,y,aU,fm',t',ts',rfl,⟨rfl,rfl⟩,bY,bq,bp,lM,bx,jc⟩
 have ik:ts'=[]:=by have:=bY.len;simp at this;exact this
 subst ik
 have hb:=bY.dh
 have j7:HR N0 W0 fm ts H w':=hH.world (fun i hi=>hb.block i hi) (hb.mono hH.size)
 refine⟨v,t',rfl,?_,bq.mM hy,jc⟩
 have up:∀ {k b c},look aU k=some b->bz (t' k)=some c->w.heap.size<=c:=by
  intro k b c hk hc
  have:=(bY.al 0 k b (by simpa [Heap.get] using hk)).lt (by simpa [tb] using hc)
  exact this.2
 have low:∀ {l k b c},Heap.get H l k=some b->bz (tb ts l k)=some c->c<w.heap.size:=by
  intro l k b c hk hc
  exact((hH.al l k b hk).lt hc).1
 refine⟨by have:=j7.len;simpa using this,?_,?_,j7.bO,?_,j7.dh,j7.size,j7.cV,j7.ec⟩
 ·intro l k b hg
  cases l with
  |zero=>
   have h2:=bY.al 0 k b (by simpa [Heap.get] using hg)
   simp only[List.drop_zero,tb]at h2 ⊢
   exact h2.lo hH.size (ahK _ _ _ hf (by simpa [Heap.get] using hg))
  |succ l=>exact j7.al l k b hg
 ·intro l k l' k' b b' c g1 g2 t1 t2
  cases l with
  |zero=>
   cases l' with
   |zero=>exact bY.inj 0 k 0 k' b b' c (by simpa [Heap.get] using g1) (by simpa [Heap.get] using g2) t1 t2
   |succ l'=>exact absurd (low g2 t2) (by have:=up (by simpa [Heap.get] using g1) t1;omega)
  |succ l=>
   cases l' with
   |zero=>exact absurd (low g1 t1) (by have:=up (by simpa [Heap.get] using g2) t2;omega)
   |succ l'=>
    have:=j7.inj l k l' k' b b' c g1 g2 t1 t2
    exact⟨by omega,this.2⟩
 ·intro l k b c o hg hc
  cases l with
  |zero=>exact hH.ah3 (up (by simpa [Heap.get] using hg) hc) o
  |succ l=>exact j7.dk l k b c o hg hc
theorem A6.mL {f:FuncId}{args ay:List AV}{y0:AV}{fr0:Av} (m:Nat) (hp:A6 P f ay [] (fun y fr=>y=y0/\fr=fr0)) (hz:AV.cY (Heap.get ([]::H)) (Abs.cT (Heap.get ([]::H)) m) args=some ay) (hy:y0.mM=true) (hf:rN fr0):
  Cx P f args H (fun y fr H'=>y=y0/\fr=fr0/\H'=H):=by
 refine⟨hp.1,fun N0 W0 fm ts w vs hH hv=>?_⟩
 have h1:=hH.push.brs _ (hH.push.cT m) hv hz
 refine Calls.mono (A6.ahH hp hH (fun _ _ _ h=>h) h1 hy hf) ?_
 rintro e w' ⟨v,t',rfl,h2,h3,h4⟩
 exact⟨v,y0,fr0,H,fm,t',ts,rfl,⟨rfl,rfl,rfl⟩,rfl,h2,h3,AN.refl _ _,As.refl _,fun _ _ h=>h,h4⟩
end
section
variable [Md] {P:Program}{T:AM}{n:Nat}{Φ:Exit->St->Prop}
theorem H3 {f:List It->St->Ev}{b:Bool}{t t':List It}{s s':St} (h1:b=true->AJ P n Φ (f t s)) (h2:b=false->AJ P n Φ (f t' s')):AJ P n Φ (two f b t s t' s'):=by
 cases b with
 |true=>exact h1 rfl
 |false=>exact h2 rfl
theorem HU {f:FuncId}{args ay:List AV}{dst:Option Tmp}{drop:List Nat}{todo:List It}{st:St}{R:AV->Prop} (hp:Aw P f ay R) (hz:AV.aF (Heap.get ([]::st.fr::st.low)) args=some ay) (hr:AV.aO args=[])
  (h:∀ y,R y->AK P n Φ todo (st.gA dst drop y [] (st.fr::st.low))):AJ P n Φ (.call f args dst drop todo st):=
 ⟨_,_,_,_,CI.refl _ _ _,(hp.frozen hz hr).toP,by rintro v fr H ⟨h1,rfl,rfl⟩;exact h v h1,fun _ _ h=>h.elim⟩
theorem HP {f:FuncId}{args ay:List AV}{dst:Option Tmp}{drop:List Nat}{todo:List It}{st:St}{R:AV->Prop} (hp:Aw P f ay R) (hz:AV.aF (Heap.get ([]::st.fr::st.low)) args=some ay) (hs:∀ y,R y->y.cW=true)
  (h:∀ y,R y->AK P n Φ todo (st.gA dst drop y [] (st.fr::st.low))):AJ P n Φ (.call f args dst drop todo st):=
 ⟨_,_,_,_,CI.refl _ _ _,(hp.borrow hz hs).toP,by rintro v fr H ⟨h1,rfl,rfl⟩;exact h v h1,fun _ _ h=>h.elim⟩
theorem DW {f:FuncId}{args:List AV}{dst:Option Tmp}{drop:List Nat}{todo:List It}{st:St}{R:AV->Av->Heap->Prop} (hp:Cx P f args (st.fr::st.low) R)
  (h:∀ y fr H,R y fr H->AK P n Φ todo (st.gA dst drop y fr H)):AJ P n Φ (.call f args dst drop todo st):=⟨_,_,R,_,CI.refl _ _ _,hp.toP,h,fun _ _ h=>h.elim⟩
end
attribute [go_sem] abB apj api run ke aa5 aoX aoU callee aeL aeK St.lZ apB apA bE bd jO look zx lk St.by mP ins cC del Heap.bL Heap.put St.uy dY fP uV m4 aaH abV St.get aaB pa aaG nT iF zY qO TI.isAgg AV.cells overwrite qZ Heap.get aaE AV.dg AV.sh aUn iZ St.enter sG St.gA AV.imp AV.iu mI AG.imp gN abL bZ AV.ai AV.aF AV.refs AV.aO aaD aaF nN sW aaC partsOf u6 lD jP qY aa4 iG j3 sS sR m7 aaI kE byteOf bytesOf j4 bJ AV.gb AV.un tZ gZ AV.flat AV.cW AV.leaf Az Ay List.append_nil BL Bq reduceIte Nat.reduceAdd Nat.reduceMul Nat.reduceLT Nat.reduceEqDiff Nat.reduceLeDiff Nat.reduceSub A5 D9 Af Option.bind_none Bg reduceCtorEq List.take_succ_cons List.take_zero List.drop_succ_cons List.drop_zero BU Ca List.getElem?_nil List.map_cons List.map_nil beq_self_eq_true Bd and_self and_true true_and beq_true beq_false AX Bj
def Eh (tm tm':Tm):Prop:=∀ t x,tm t=some x->tm' t=some x
def D3 (G G':AR):Prop:=∀ l k b,G l k=some b->G' l k=some b
section
variable {tm tm':Tm}{G G':AR} (eG:Eh tm tm') (hG:D3 G G')
include eG in
theorem we {x:Operand}{y:AV} (h:bd tm x=some y):bd tm' x=some y:=by
 cases x with
 |tmp t=>exact eG t y h
 |_=>exact h
include eG in
theorem zH:∀ (l:List Operand) (ys:List AV),jO tm l=some ys->jO tm' l=some ys
 |[],ys,h=>h
 |x::l,ys,h=>by
  simp only[jO]at h ⊢
  split at h
  ·rename_i a b ha hb
   rw[we eG ha,zH l b hb];exact h
  ·cases h
include eG in
theorem aem:∀ (l:List (Nat×Operand)) (ys:List (Nat×AV)),partsOf tm l=some ys->partsOf tm' l=some ys
 |[],ys,h=>h
 |(i,x)::l,ys,h=>by
  simp only[partsOf]at h ⊢
  split at h
  ·rename_i a b ha hb
   rw[we eG ha,aem l b hb];exact h
  ·cases h
mutual
theorem mA (hG:D3 G G'):∀ (x y:AV),x.ai G=some y->x.ai G'=some y
 |.loc l k e i n g,y,h=>by
  simp only[AV.ai]at h ⊢
  split at h
  ·rename_i et esz es hg
   rw[hG l k _ hg];exact h
  ·cases h
 |.bR t v,y,h=>by
  simp only[AV.ai,mS]at h ⊢
  obtain⟨a,h1,h2⟩:=h
  exact⟨a,mA hG v a h1,h2⟩
 |.agg cs,y,h=>by
  simp only[AV.ai,mS]at h ⊢
  obtain⟨a,h1,h2⟩:=h
  exact⟨a,nY hG cs a h1,h2⟩
 |.ar vs,y,h=>by
  simp only[AV.ai,mS]at h ⊢
  obtain⟨a,h1,h2⟩:=h
  exact⟨a,nY hG vs a h1,h2⟩
 |.nil,y,h=>by simpa [AV.ai] using h
 |.bool b,y,h=>by simpa [AV.ai] using h
 |.int k n,y,h=>by simpa [AV.ai] using h
 |.str s,y,h=>by simpa [AV.ai] using h
 |.sl e es,y,h=>by simpa [AV.ai] using h
 |.bG,y,h=>by simpa [AV.ai] using h
 |.bP,y,h=>by simpa [AV.ai] using h
 |.bS,y,h=>by simpa [AV.ai] using h
 |.raw r_,y,h=>by simpa [AV.ai] using h
 |.fn f a b,y,h=>by
  simp only[AV.ai]at h ⊢
  split at h
  ·rename_i x z hx hz
   obtain rfl:=oi h
   simp only[nY hG a x hx,nY hG b z hz]
  ·cases h
 |.bF ..,y,h=>by simp[AV.ai]at h
 |.ptr ..,y,h=>by simp[AV.ai]at h
 |.bu ..,y,h=>by simp[AV.ai]at h
 |.aA ..,y,h=>by simpa [AV.ai] using h
 |.dead,y,h=>by simp[AV.ai]at h
theorem nY (hG:D3 G G'):∀ (l ys:List AV),AV.aF G l=some ys->AV.aF G' l=some ys
 |[],ys,h=>h
 |x::l,ys,h=>by
  simp only[AV.aF]at h ⊢
  split at h
  ·rename_i a b ha hb
   rw[mA hG x a ha,nY hG l b hb];exact h
  ·cases h
end
include hG in
theorem alN {size:Nat}{x:AV}{cs:List AV} (h:iF G size x=some cs):iF G' size x=some cs:=by
 unfold iF at h ⊢
 split at h
 ·split at h
  ·rename_i hg;rw[hG _ _ _ hg];exact h
  ·cases h
 ·split at h
  ·rename_i hg;rw[hG _ _ _ hg];exact h
  ·cases h
 ·exact h
 ·cases h
include hG in
theorem amq {ti:TI}{x y:AV} (h:nT G ti x=some y):nT G' ti x=some y:=by
 unfold nT at h ⊢
 rw[Option.bind_eq_some_iff]at h ⊢
 obtain⟨cs,h1,h2⟩:=h
 exact⟨cs,alN hG h1,h2⟩
include hG in
theorem acX {sz:Nat}{x:AV}{es:List (List AV)} (h:iG G sz x=some es):iG G' sz x=some es:=by
 unfold iG at h ⊢
 split at h
 ·exact h
 ·exact h
 ·split at h
  ·rename_i hg;rw[hG _ _ _ hg];exact h
  ·cases h
 ·split at h
  ·rename_i hg;rw[hG _ _ _ hg];exact h
  ·cases h
 ·cases h
theorem aky {T:AM}{s d:TI}{x y:AV} (h:uE T s d x=some y):∃ e,d.d=.slice e:=by
 unfold uE at h
 split at h
 ·rename_i e he;exact⟨e,he⟩
 ·cases h
theorem akC {T:AM}{G:AR}{s d:TI}{x:AV} (h:∃ e,d.d=.slice e):kE T G s d x=none:=by
 obtain⟨e,he⟩:=h
 unfold kE
 rw[he]
include hG in
theorem akA {T:AM}{s d:TI}{x y:AV} (h:kE T G s d x=some y):kE T G' s d x=some y:=by
 unfold kE at h ⊢
 split at h
 ·exact h
 ·split at h
  ·exact h
  ·split at h
   ·split at h
    ·split at h
     ·rename_i h1
      rw[if_pos h1]
      rw[Option.bind_eq_some_iff]at h ⊢
      obtain⟨es,h2,h3⟩:=h
      exact⟨es,acX hG h2,h3⟩
     ·cases h
    ·cases h
   ·cases h
  ·cases h
 ·cases h
include hG in
theorem agR:∀ (l:List (Nat×AV)) (cs:List (Nat×List AV)),lD G l=some cs->lD G' l=some cs
 |[],cs,h=>h
 |(i,v)::l,cs,h=>by
  simp only[lD]at h ⊢
  split at h
  ·split at h
   ·rename_i a b ha hb
    rw[nY hG _ _ ha,agR l b hb];exact h
   ·cases h
  ·cases h
include hG in
theorem amk {kb len:Nat}{ti:TI}{ps:List (Nat×AV)}{d:De} (h:qY G kb ti len ps=some d):qY G' kb ti len ps=some d:=by
 unfold qY at h ⊢
 split at h
 ·split at h
  ·rename_i hc
   rw[if_pos hc]
   split at h
   ·rename_i cs fQ
    rw[agR hG _ _ fQ];exact h
   ·cases h
  ·cases h
 ·cases h
include hG in
theorem acS {kb:Nat}{ti:TI}{s x:AV}{d:De} (h:j3 G kb ti s x=some d):j3 G' kb ti s x=some d:=by
 unfold j3 at h ⊢
 split at h
 ·split at h
  ·rename_i new dw
   rw[acX hG dw]
   split at h
   ·exact h
   ·split at h
    ·rename_i hg
     simp only[hG _ _ _ hg];exact h
    ·cases h
   ·cases h
  ·cases h
 ·cases h
include hG in
theorem amo {ti:TI}{s x:AV}{d:De} (h:sS G ti s x=some d):sS G' ti s x=some d:=by
 unfold sS at h ⊢
 split at h
 ·split at h
  ·rename_i new dw
   rw[acX hG dw]
   split at h
   ·exact h
   ·split at h
    ·rename_i hg
     simp only[hG _ _ _ hg];exact h
    ·cases h
   ·split at h
    ·rename_i hg
     simp only[hG _ _ _ hg];exact h
    ·cases h
   ·cases h
  ·cases h
 ·cases h
include hG in
theorem amm {ti:TI}{x:AV}{d:De} (h:sR G ti x=some d):sR G' ti x=some d:=by
 unfold sR at h ⊢
 split at h
 ·split at h
  ·exact h
  ·split at h
   ·rename_i hg
    simp only[hG _ _ _ hg];exact h
   ·cases h
  ·cases h
 ·cases h
include hG in
theorem amt {kb:Nat}{ti:TI}{a:AV}{vc:List AV}{d:De} (h:qZ G kb ti a vc=some d):qZ G' kb ti a vc=some d:=by
 unfold qZ at h ⊢
 split at h
 ·rename_i hl
  rw[if_pos hl]
  split at h
  ·split at h
   ·rename_i hg
    simp only[hG _ _ _ hg]
    split at h
    ·rename_i hle
     rw[if_pos hle]
     split at h
     ·rename_i h0;rw[if_pos h0];exact h
     ·rename_i h0
      rw[if_neg h0]
      split at h
      ·exact h
      ·split at h
       ·rename_i new hz;rw[nY hG _ _ hz];exact h
       ·cases h
    ·cases h
   ·cases h
  ·split at h
   ·rename_i hg
    simp only[hG _ _ _ hg]
    split at h
    ·rename_i hc
     rw[if_pos hc]
     split at h
     ·rename_i c new mB hz
      rw[mB,nY hG _ _ hz];exact h
     ·cases h
    ·cases h
   ·cases h
  ·cases h
 ·cases h
theorem uH {a b:Option AV}{d:De} (hm:∀ x,a=some x->b=some x) (h:dY a=some d):dY b=some d:=by
 obtain⟨x,hx,rfl⟩:=afp h
 rw[hm x hx];rfl
include hG in
theorem akw {T:AM}{kb:Nat}{b:Builtin}{ts:List TypeId}{xs:List AV}{d:De} (h:m4 T G kb b ts xs=some d):m4 T G' kb b ts xs=some d:=by
 unfold m4 at h ⊢
 split at h
 ·cases h
 ·split at h
  ·cases h
  ·split at h
   ·exact h
   ·split at h
    ·split at h
     ·rename_i hl;rw[if_pos hl];exact acS hG h
     ·rename_i hl
      rw[if_neg hl]
      unfold xC at h ⊢
      split at h
      ·split at h
       ·split at h
        ·split at h
         ·rename_i h1;rw[if_pos h1];exact acS hG h
         ·cases h
        ·cases h
       ·cases h
      ·split at h
       ·split at h
        ·unfold u0 at h ⊢
         split at h
         ·rename_i h1;rw[if_pos h1];exact acS hG h
         ·cases h
        ·cases h
       ·cases h
      ·cases h
    ·cases h
   ·split at h
    ·split at h
     ·rename_i hl;rw[if_pos hl];exact amo hG h
     ·cases h
    ·cases h
   ·split at h
    ·exact amm hG h
    ·cases h
   ·exact h
   ·exact h
   ·cases h
theorem akr {G':AR}{ti:TI}{x lo hi z z':AV} (h:lp G' ti x lo hi=some z') (k:nN ti x (some lo) (some hi)=some z):z'=z:=by
 unfold lp at h
 split at h
 ·rename_i lv kk esz i n g
  split at h
  ·rename_i el hd
   split at h
   ·rename_i kl l kh jh
    split at h
    ·split at h
     ·obtain rfl:=oi h
      unfold nN at k
      rw[hd]at k
      simp only at k
      split at k
      ·simp only[mS]at k
       obtain⟨⟨a,b⟩,hb,rfl⟩:=k
       unfold bounds qS at hb
       simp only at hb
       split at hb
       ·rename_i hh hhe
        split at hhe
        ·obtain rfl:=oi hhe
         unfold qT at hb
         simp only at hb
         split at hb
         ·rename_i ll hle
          split at hle
          ·obtain rfl:=oi hle
           simp only[oE,Prod.mk.injEq]at hb
           obtain⟨rfl,rfl⟩:=hb
           rfl
          ·cases hle
         ·cases hb
        ·cases hhe
       ·cases hb
      ·cases k
     ·cases h
    ·cases h
   ·cases h
  ·cases h
 ·cases h
include eG hG in
theorem ah6 {T:AM}{kb:Nat}{o:Op}{ty:TypeId}{d:De} (h:bE T kb o ty tm G=some d):bE T kb o ty tm' G'=some d:=by
 have ev:∀ {x:Operand}{y:AV},bd tm x=some y->bd tm' x=some y:=fun hx=>we eG hx
 unfold bE at h ⊢
 split at h
 ·exact uH (fun _=>ev) h
 ·rename_i x
  cases hx:bd tm x with
  |none=>rw[hx]at h;cases h
  |some y=>
   rw[hx]at h
   rw[ev hx]
   exact h
 ·rename_i c x y
  split at h
  ·rename_i b hb
   simp only[ev hb]
   cases b with
   |true=>exact uH (fun _=>ev) h
   |false=>exact uH (fun _=>ev) h
  ·cases h
 ·exact h
 ·split at h
  ·rename_i ti x' ht hx
   simp only[ht,ev hx];exact h
  ·cases h
 ·split at h
  ·rename_i ti ps ht hp
   simp only[ht,aem eG _ _ hp];exact h
  ·cases h
 ·split at h
  ·rename_i ti ps ht hp
   simp only[ht,aem eG _ _ hp];exact amk hG h
  ·cases h
 ·split at h
  ·rename_i ti x' ht hx
   simp only[ht,ev hx];exact uH (fun _=>amq hG) h
  ·cases h
 ·split at h
  ·rename_i ti x' y' ht hx hy
   simp only[ht,ev hx,ev hy]
   split at h
   ·exact amt hG h
   ·cases h
  ·cases h
 ·split at h
  ·rename_i x' hx
   simp only[ev hx];exact h
  ·cases h
 ·split at h
  ·rename_i ti x' y' ht hx hy
   simp only[ht,ev hx,ev hy];exact h
  ·cases h
 ·split at h
  ·rename_i x' hx
   simp only[ev hx];exact h
  ·cases h
 ·split at h
  ·rename_i s d' x' hs hd hx
   simp only[hs,hd,ev hx]
   refine uH (fun z hz=>?_) h
   cases hc:kE T G s d' x' with
   |some y=>rw[hc]at hz;rw[akA hG hc];exact hz
   |none=>
    rw[hc,uc]at hz
    rw[akC (aky hz),uc];exact hz
  ·cases h
 ·split at h
  ·rename_i x' y' hx hy
   simp only[zH eG _ _ hx,zH eG _ _ hy];exact h
  ·cases h
 ·split at h
  ·rename_i ti l' c' ht hl hc
   simp only[ht,ev hl,ev hc];exact h
  ·cases h
 ·split at h
  ·split at h
   ·split at h
    ·rename_i ht hx hh hm
     simp only[ht,ev hx,ev hh,ev hm]
     exact h
    ·cases h
   ·split at h
    ·rename_i ht hx hl hh
     split at h
     ·rename_i hm
      simp only[ht,ev hx,ev hl,ev hh,ev hm]
      exact h
     ·cases h
    ·cases h
   ·cases h
  ·split at h
   ·rename_i ti x' ht hx
    simp only[ht,ev hx]
    split at h
    ·exact h
    ·split at h
     ·rename_i ji;simp only[ev ji];exact h
     ·cases h
    ·split at h
     ·rename_i ji;simp only[ev ji];exact h
     ·cases h
    ·split at h
     ·rename_i lU eQ ji rp
      simp only[ev ji,ev rp]
      refine uH (fun z hz=>?_) h
      cases eD:lp G ti x' lU eQ with
      |none=>
       rw[eD,uc]at hz
       cases adu:lp G' ti x' lU eQ with
       |none=>rw[uc];exact hz
       |some z'=>
        rw[wg]
        exact(akr adu hz)▸rfl
      |some z'=>
       rw[eD,wg]at hz
       have adu:lp G' ti x' lU eQ=some z':=by
        unfold lp at eD ⊢
        split at eD
        ·split at eD
         ·split at eD
          ·split at eD
           ·rename_i hg
            simp only[hG _ _ _ hg];exact eD
           ·cases eD
          ·cases eD
         ·cases eD
        ·cases eD
       rw[adu,wg];exact hz
     ·cases h
   ·cases h
 ·split at h
  ·rename_i ti x' ht hx
   simp only[ht,ev hx];exact h
  ·cases h
 ·split at h
  ·rename_i ti x' ht hx
   simp only[ht,ev hx];exact h
  ·cases h
 ·split at h
  ·rename_i ti x' y' ht hx hy
   simp only[ht,ev hx,ev hy];exact h
  ·cases h
 ·split at h
  ·rename_i ti x' y' ht hx hy
   simp only[ht,ev hx,ev hy];exact h
  ·cases h
 ·split at h
  ·rename_i xs hx
   simp only[ev hx];exact h
  ·cases h
 ·split at h
  ·rename_i ti l k esz i n g ht hx
   simp only[ht,ev hx];exact h
  ·cases h
 ·split at h
  ·rename_i ti x' ht hx
   simp only[ht,ev hx];exact h
  ·cases h
 ·split at h
  ·split at h
   ·rename_i xs fX
    simp only[zH eG _ _ fX];exact akw hG h
   ·cases h
  ·cases h
 ·cases h
end
abbrev Sets:=List (Nat×Nat×Option AG)
def said:Sets->Nat->Nat->Option (Option AG)
 |[],_,_=>none
 |(l,k,b)::r,l',k'=>match said r l' k' with
  |some x=>some x
  |none=>if l=l'/\k=k' then some b else none
theorem s9 (s:Sets):∀ (H:Heap) (l k:Nat),(H.bL s).get l k=match said s l k with
  |some b=>if l<H.length then b else none
  |none=>H.get l k:=by
 induction s with
 |nil=>intro H l k;rfl
 |cons p s ih=>
  obtain⟨l0,k0,b⟩:=p
  intro H l k
  simp only[Heap.bL,ih,said,Heap.aoE]
  cases hs:said s l k with
  |some x=>rfl
  |none=>
   simp only[Heap.pG]
   by_cases h:l0=l/\k0=k
   ·obtain⟨rfl,rfl⟩:=h
    simp only[and_self,true_and,if_true]
    split
    ·rfl
    ·rename_i hl
     cases hg:H.get l0 k0 with
     |none=>rfl
     |some b'=>exact absurd (Heap.ri H _ _ _ hg) hl
   ·rw[if_neg h,if_neg (fun hh=>h ⟨hh.1,hh.2.1⟩)]
theorem wo (s t:Sets) (l k:Nat):said (s++t) l k=match said t l k with
  |some x=>some x
  |none=>said s l k:=by
 induction s with
 |nil=>simp only[BL,said];cases said t l k<;>rfl
 |cons p s ih=>
  obtain⟨l0,k0,b⟩:=p
  simp only[Bq,said,ih]
  cases said t l k<;>rfl
theorem abO {s:Sets}{l k:Nat} (h:∀ p∈s,¬ (p.1=l/\p.2.1=k)):said s l k=none:=by
 induction s with
 |nil=>rfl
 |cons p s ih=>
  obtain⟨l0,k0,b⟩:=p
  simp only[said,ih (fun q hq=>h q (List.mem_cons_of_mem _ hq))]
  rw[if_neg (h _ List.mem_cons_self)]
theorem aiG {s:Sets}{l k:Nat}{x:Option AG} (h:said s l k=some x):∃ p∈s,p.1=l/\p.2.1=k:=by
 induction s with
 |nil=>cases h
 |cons p s ih=>
  obtain⟨l0,k0,b⟩:=p
  simp only[said]at h
  cases hs:said s l k with
  |some y=>rw[hs]at h;cases h;obtain⟨q,h1,h2⟩:=ih hs;exact⟨q,List.mem_cons_of_mem _ h1,h2⟩
  |none=>
   rw[hs]at h
   simp only at h
   split at h
   ·rename_i hh;exact⟨_,List.mem_cons_self,hh⟩
   ·cases h
def m8 (s t:Sets):Prop:=∀ p∈s,∀ q∈t,¬ (p.1=q.1/\p.2.1=q.2.1)
theorem ap9 {s t:Sets} (h:m8 s t) (l k:Nat):said (s++t) l k=said (t++s) l k:=by
 rw[wo,wo]
 cases ht:said t l k with
 |none=>cases said s l k<;>rfl
 |some x=>
  cases hs:said s l k with
  |none=>rfl
  |some y=>
   obtain⟨q,h1,h2,h3⟩:=aiG ht
   obtain⟨p,h4,h5,h6⟩:=aiG hs
   exact absurd ⟨h5.trans h2.symm,h6.trans h3.symm⟩ (h p h4 q h1)
section
variable {N0:Nat}{W0:World}{fm:FM}{ts:List Ai}{H H':Heap}{w:World}
theorem HR.ext (h:HR N0 W0 fm ts H w) (hl:H'.length=H.length) (hg:∀ l k,H'.get l k=H.get l k):HR N0 W0 fm ts H' w:=
 ⟨h.len.trans hl.symm,fun l k b e=>h.al l k b (by rw[<-hg];exact e),fun l1 k1 l2 k2 b1 b2 c g1 g2=>h.inj l1 k1 l2 k2 b1 b2 c (by rw[<-hg];exact g1) (by rw[<-hg];exact g2),h.bO,
  fun l k b c o e=>h.dk l k b c o (by rw[<-hg];exact e),h.dh,h.size,h.cV,h.ec⟩
end
def cq (ops:List Am) (j:Nat):Option Tmp:=(ops[j]?).bind (·.dst)
def ib (ops:List Am) (ds:List De):List Nat->List (Nat×AV)->List (Nat×AV)
 |[],tm=>tm
 |j::L,tm=>ib ops ds L (match ds[j]? with
  |some d=>mP tm (cq ops j) d.val
  |none=>tm)
def dM (ds:List De) (j:Nat):Sets:=((ds[j]?).map (·.lf)).getD []
def cH (ds:List De):List Nat->Sets
 |[]=>[]
 |j::L=>dM ds j++cH ds L
def DO (ops:List Am):Prop:=∀ i j t,cq ops i=some t->cq ops j=some t->i=j
theorem ahO (tm:List (Nat×AV)) (dst:Option Tmp) (v:AV) (t:Nat):look (mP tm dst v) t=if dst=some t then some v else look tm t:=by
 cases dst with
 |none=>simp[mP]
 |some d=>simp only[mP,rO,oE]
theorem mw (ops:List Am) (ds:List De) (t:Nat):∀ (L:List Nat) (tm:List (Nat×AV)),(∀ j∈L,cq ops j≠some t)->look (ib ops ds L tm) t=look tm t
 |[],tm,_=>rfl
 |j::L,tm,h=>by
  simp only[ib]
  rw[mw ops ds t L _ (fun k hk=>h k (List.mem_cons_of_mem _ hk))]
  split
  ·rw[ahO,if_neg (h j List.mem_cons_self)]
  ·rfl
theorem q9 (ops:List Am) (ds:List De) (h1:DO ops) {t j:Nat}{d:De} (hj:cq ops j=some t) (hd:ds[j]?=some d):∀ (L:List Nat) (tm:List (Nat×AV)),j∈L->look (ib ops ds L tm) t=some d.val
 |[],tm,h=>by cases h
 |i::L,tm,h=>by
  simp only[ib]
  by_cases hL:j∈L
  ·exact q9 ops ds h1 hj hd L _ hL
  ·have:j=i:=by
    rcases BD.1 h with h|h
    ·exact h
    ·exact absurd h hL
   subst this
   rw[mw ops ds t L _ (fun k hk pR=>hL (by rw[h1 j k t hj pR];exact hk))]
   rw[hd]
   simp only[ahO,hj,if_true]
theorem aez {ds:List De}{l k:Nat} (p q:Nat->Bool) (vN:∀ j,p j=true->q j=true):∀ (L:List Nat),(∀ j∈L,q j=true->p j=false->∀ s∈dM ds j,¬ (s.1=l/\s.2.1=k))->
  said (cH ds (L.filter p)) l k=said (cH ds (L.filter q)) l k
 |[],_=>rfl
 |j::L,h=>by
  have ih:=aez p q vN L (fun i hi=>h i (List.mem_cons_of_mem _ hi))
  by_cases hp:p j=true
  ·rw[List.filter_cons_of_pos hp,List.filter_cons_of_pos (vN j hp)]
   simp only[cH,wo,ih]
  ·have hpf:p j=false:=by simpa using hp
   rw[List.filter_cons_of_neg hp]
   by_cases hq:q j=true
   ·rw[List.filter_cons_of_pos hq]
    simp only[cH,wo,<-ih]
    rw[abO (h j List.mem_cons_self hq hpf)]
    cases said (cH ds (L.filter p)) l k<;>rfl
   ·rw[List.filter_cons_of_neg hq];exact ih
theorem aiF {ds:List De}{l k i:Nat} (p:Nat->Bool) (fb:p i=false):∀ (L:List Nat),L.Nodup->i∈L->(∀ j,p j=true->(∃ a b,L=a++i::b/\j∈b)->m8 (dM ds i) (dM ds j))->
  said (cH ds (L.filter fun j=>p j || j==i)) l k=said (cH ds (L.filter p)++dM ds i) l k
 |[],_,h,_=>by cases h
 |j::L,bW,hi,jd=>by
  by_cases gI:j=i
  ·subst gI
   have hnL:j∉L:=(List.nodup_cons.1 bW).1
   have e1:(j::L).filter (fun k=>p k || k==j)=j::L.filter p:=by
    rw[List.filter_cons_of_pos (by simp)]
    congr 1
    apply List.filter_congr
    intro x hx
    have:(x==j)=false:=by simp;rintro rfl;exact hnL hx
    rw[this];simp
   have e2:(j::L).filter p=L.filter p:=by rw[List.filter_cons_of_neg (by simp[fb])]
   rw[e1,e2]
   simp only[cH]
   refine ap9 ?_ l k
   have:∀ (M:List Nat),(∀ x∈M,x∈L)->m8 (dM ds j) (cH ds (M.filter p)):=by
    intro M
    induction M with
    |nil=>intro _ a _ b hb;cases hb
    |cons x M ih=>
     intro hM
     by_cases hp:p x=true
     ·rw[List.filter_cons_of_pos hp]
      intro a ha b hb
      simp only[cH,A9]at hb
      rcases hb with hb|hb
      ·exact jd x hp ⟨[],L,rfl,hM x List.mem_cons_self⟩ a ha b hb
      ·exact ih (fun y hy=>hM y (List.mem_cons_of_mem _ hy)) a ha b hb
     ·rw[List.filter_cons_of_neg hp]
      exact ih (fun y hy=>hM y (List.mem_cons_of_mem _ hy))
   exact this L (fun _ h=>h)
  ·have hiL:i∈L:=by
    rcases BD.1 hi with h|h
    ·exact absurd h.symm gI
    ·exact h
   have ih:=aiF (ds:=ds) (l:=l) (k:=k) p fb L (List.nodup_cons.1 bW).2 hiL (fun x hx=>by
    rintro⟨a,b,e,hb⟩
    exact jd x hx ⟨j::a,b,by rw[e];rfl,hb⟩)
   have bh:(j==i)=false:=by simpa using gI
   by_cases hp:p j=true
   ·rw[List.filter_cons_of_pos (by simp[hp]),List.filter_cons_of_pos hp]
    simp only[cH]
    rw[wo,ih,Cp,wo (dM ds j)]
   ·have hpf:p j=false:=by simpa using hp
    rw[List.filter_cons_of_neg (by simp[hpf,gI]),List.filter_cons_of_neg hp]
    exact ih
def idxs (n:Nat) (p:Nat->Bool):List Nat:=(List.range n).filter p
def bA (befs:List (List Nat)) (i:Nat):List Nat:=(befs[i]?).getD []
def qE (befs:List (List Nat)) (i j:Nat):Bool:=j != i&&!(bA befs i).contains j&&!(bA befs j).contains i
def mr (ops:List Am) (befs:List (List Nat)) (ds:List De) (tm:List (Nat×AV)) (i:Nat):List (Nat×AV):=
 ib ops ds (idxs ops.length fun j=>(bA befs i).contains j) (cC tm ((idxs ops.length fun j=>!(bA befs j).contains i).filterMap (cq ops)))
def gone (s:Sets):Sets:=s.map fun x=>(x.1,x.2.1,none)
def lA (ops:List Am) (befs:List (List Nat)) (ds:List De) (H:Heap) (i:Nat):Heap:=
 (H.bL (cH ds (idxs ops.length fun j=>(bA befs i).contains j))).bL (gone (cH ds (idxs ops.length (qE befs i))))
def HA (P:Program) (t:TypeId) (ob:Obj) (r:Nat) (kv y:AV):Prop:=∀ (fm:FM) (ts:List Ai) (v:Value) (w:World),VR fm ts kv v->w.heap[r]?=some ob->∃ u,(Instr.lookup t (.map (some r)) v false).run P w=.ok u w/\VR fm ts y u
inductive Em [Md] (P:Program) (T:AM) (kb:Nat) (o:Am) (tm:Tm) (G:AR) (d:De):Prop
 |op (hc:ke o.op=none) (h:bE T kb o.op o.type tm G=some d)
 |call (c:Call) (f:FuncId) (args ay:List AV) (hc:ke o.op=some c) (h:callee tm c=some (f,args)) (hp:Aw P f ay (fun y=>y=d.val)) (hz:AV.aF G args=some ay)
   (hr:AV.aO args=[]\/d.val.cW=true) (hs:d.lf=[])
 |mL (m:Nat) (c:Call) (f:FuncId) (args ay:List AV) (hc:ke o.op=some c) (h:callee tm c=some (f,args)) (hp:Aw P f ay (fun y=>y=d.val)) (hz:AV.cY G (cT G m) args=some ay)
   (hr:d.val.cW=true) (hs:d.lf=[])
 |n4 (rs gs:List Nat) (c:Call) (f:FuncId) (args dF:List AV) (fr0 fr:Av) (y:AV) (hc:ke o.op=some c) (h:callee tm c=some (f,args)) (hp:A6 P f dF fr0 (fun y' aU=>y'=y/\aU=fr))
   (hz:kI gs (only (jQ G) (rs.map fun k=>(1,k))) (cT (only (jQ G) (rs.map fun k=>(1,k))) 5) (AV.dg 1 args)=some dF) (hg:n5 G 0 gs=some fr0) (bW:(decide (gs++rs).Nodup&&decide (gs.length<=16))=true)
   (hd:d=⟨y.imp kb,kT rs++(kT gs++kS kb fr)⟩)
 |rj (m:Nat) (c:Call) (f:FuncId) (args ay:List AV) (fr:Av) (y:AV) (hc:ke o.op=some c) (h:callee tm c=some (f,args)) (hp:A6 P f ay [] (fun y' aU=>y'=y/\aU=fr)) (hz:AV.cY G (cT G m) args=some ay)
   (hy:y.mM=true) (hf:rN fr) (hd:d=⟨y.imp kb,kS kb fr⟩)
 |look (t:TypeId) (m x:Operand) (r:Nat) (kv:AV) (ob:Obj) (ho:o.op=.lookup t m x false) (hm:bd tm m=some (.raw (.map (some r)))) (hx:bd tm x=some kv) (hr:Md.mps r=some ob) (hl:HA P t ob r kv d.val) (hs:d.lf=[])
def ag1 (o:Am) (tm:Tm):Prop:=o.guard=none\/∃ g w b,o.guard=some (g,w)/\tm g=some (.bool b)/\(b==w)=true
def stays (o:Am) (tm:Tm):Prop:=∃ g w,o.guard=some (g,w)/\((∃ b,tm g=some (.bool b)/\(b==w)=false)\/tm g=some (.ar []))
def C2 [Md] (P:Program) (T:AM) (kb:Nat) (o:Am) (tm:Tm) (G:AR) (d:De):Prop:=(ag1 o tm/\Em P T kb o tm G d)\/(stays o tm/\d=⟨.ar [],[]⟩)
theorem amV {s:Sets}{l k:Nat} (h:∃ p∈s,p.1=l/\p.2.1=k):said (gone s) l k=some none:=by
 induction s with
 |nil=>obtain⟨p,hp,_⟩:=h;cases hp
 |cons q s ih=>
  obtain⟨l0,k0,b⟩:=q
  simp only[gone,List.map_cons,said]
  by_cases hs:∃ p∈s,p.1=l/\p.2.1=k
  ·have:=ih hs
   unfold gone at this
   rw[this]
  ·obtain⟨p,hp,h1,h2⟩:=h
   rcases BD.1 hp with rfl|hp
   ·have hn:said (List.map (fun x=>(x.1,x.2.1,none)) s) l k=none:=by
     apply abO
     intro x hx
     obtain⟨y,hy,rfl⟩:=List.mem_map.1 hx
     exact fun hh=>hs ⟨y,hy,hh⟩
    rw[hn]
    simp only
    rw[if_pos ⟨h1,h2⟩]
   ·exact absurd ⟨p,hp,h1,h2⟩ hs
theorem ad0 {ds:List De}{s:Nat×Nat×Option AG}:∀ (L:List Nat),s∈cH ds L↔∃ j∈L,s∈dM ds j
 |[]=>by simp[cH]
 |j::L=>by simp only[cH,A9,ad0 L,BD,exists_eq_or_imp]
theorem al3 {ops:List Am}{befs:List (List Nat)}{ds:List De}{H:Heap}{i:Nat} (p:Nat->Bool) (fb:p i=false) (hB:∀ j,(bA befs i).contains j=true->p j=true)
  (ca:∀ j,p j=true->(bA befs j).contains i=false):D3 (Heap.get (lA ops befs ds H i)) (Heap.get (H.bL (cH ds (idxs ops.length p)))):=by
 intro l k b hb
 unfold lA at hb
 rw[s9]at hb
 have yN:¬ ∃ s∈cH ds (idxs ops.length (qE befs i)),s.1=l/\s.2.1=k:=by
  intro hex
  rw[amV hex]at hb
  simp only at hb
  split at hb<;>cases hb
 have hn:said (gone (cH ds (idxs ops.length (qE befs i)))) l k=none:=by
  apply abO
  intro x hx
  obtain⟨y,hy,rfl⟩:=List.mem_map.1 hx
  exact fun hh=>yN ⟨y,hy,hh⟩
 rw[hn]at hb
 simp only at hb
 rw[s9]at hb ⊢
 have e:said (cH ds (idxs ops.length fun j=>(bA befs i).contains j)) l k=said (cH ds (idxs ops.length p)) l k:=by
  refine aez _ _ hB _ ?_
  intro j hj kP hnb s hs hh
  refine yN ⟨s,(ad0 _).2 ⟨j,?_,hs⟩,hh⟩
  unfold idxs
  rw[List.mem_filter]
  refine⟨hj,?_⟩
  have gI:j≠i:=by rintro rfl;rw[fb]at kP;cases kP
  unfold qE
  rw[hnb,ca j kP]
  simp[gI]
 rw[<-e]
 exact hb
section
variable [Md]
structure DR (N0:Nat) (W0:World) (n:Nat) (st:St) (ops:List Am) (ds:List De) (p:Nat->Bool) (a:Act) (w:World) (fm:FM) (ts:List Ai):Prop where
 hr:HR N0 W0 fm ts (Heap.bL (st.fr::st.low) (cH ds (idxs ops.length p))) w
 tm:CV fm ts (look (ib ops ds (idxs ops.length p) st.tm)) a
 fre:∀ i,i<ops.length->p i=false->∀ k,st.nx+16*i<=k->k<st.nx+16*i+16->tb ts 0 k=none
 top:∀ k,st.nx+16*ops.length<=k->tb ts 0 k=none
 size:a.tmps.size=n
 dZ:a.defers=Md.uZ/\Dx W0
theorem lS {n:Nat}{p:Nat->Bool}{j:Nat}:j∈idxs n p↔j<n/\p j=true:=by
 unfold idxs;rw[List.mem_filter,List.mem_range]
section
variable [Md] {P:Program}{T:AM}{N0:Nat}{W0:World}{n:Nat}{fm:FM}{ts:List Ai}{st:St}{ops:List Am}{befs:List (List Nat)}{ds:List De}
theorem af9 {l:List (Nat×AV)}:∀ (ks:List Nat) (l:List (Nat×AV)) (t:Nat),t∈ks->look (cC l ks) t=none
 |[],_,_,h=>by cases h
 |k::ks,l,t,h=>by
  simp only[cC]
  by_cases ht:t∈ks
  ·exact af9 (l:=l) ks _ t ht
  ·have hk:t=k:=by
    rcases BD.1 h with h|h
    ·exact h
    ·exact absurd h ht
   subst hk
   cases hl:look (cC (del l t) ks) t with
   |none=>rfl
   |some x=>
    have:=zt ks _ t x hl
    rw[zr,if_pos rfl]at this
    cases this
theorem acN {p:Nat->Bool}{i:Nat} (h1:DO ops) (jE:∀ j,j<ops.length->∃ d,ds[j]?=some d) (hB:∀ j,(bA befs i).contains j=true->p j=true) (ca:∀ j,p j=true->(bA befs j).contains i=false):
  Eh (look (mr ops befs ds st.tm i)) (look (ib ops ds (idxs ops.length p) st.tm)):=by
 intro t x hx
 unfold mr at hx
 by_cases hex:∃ j,cq ops j=some t
 ·obtain⟨j,hj⟩:=hex
  have kM:j<ops.length:=by
   unfold cq at hj
   cases ho:ops[j]? with
   |none=>rw[ho]at hj;cases hj
   |some o=>exact(gS.1 ho).1
  obtain⟨dj,n9⟩:=jE j kM
  have bx:∀ q:Nat->Bool,q j=false->∀ k∈idxs ops.length q,cq ops k≠some t:=by
   intro q hq k hk pR
   have:=h1 j k t hj pR
   subst this
   rw[(lS.1 hk).2]at hq;cases hq
  by_cases hb:(bA befs i).contains j=true
  ·rw[q9 ops ds h1 hj n9 _ _ (lS.2 ⟨kM,hb⟩)]at hx
   rw[q9 ops ds h1 hj n9 _ _ (lS.2 ⟨kM,hB j hb⟩)]
   exact hx
  ·rw[mw ops ds t _ _ (bx _ (by simpa using hb))]at hx
   by_cases ha:(bA befs j).contains i=true
   ·have kP:p j=false:=by
     cases hp:p j with
     |false=>rfl
     |true=>have:=ca j hp;rw[ha]at this;cases this
    rw[mw ops ds t _ _ (bx _ kP)]
    exact zt _ _ _ _ hx
   ·rw[af9 (l:=st.tm)]at hx
    ·cases hx
    ·exact List.mem_filterMap.2 ⟨j,lS.2 ⟨kM,by simpa using ha⟩,hj⟩
 ·have bx:∀ (L:List Nat),∀ j∈L,cq ops j≠some t:=fun L j _ hj=>hex ⟨j,hj⟩
  rw[mw ops ds t _ _ (bx _)]at hx ⊢
  exact zt _ _ _ _ hx
theorem DR.step {p:Nat->Bool}{a:Act}{w:World} (h:DR N0 W0 n st ops ds p a w fm ts) {i:Nat} (hi:i<ops.length) (fb:p i=false) {d:De} (hd:ds[i]?=some d) {r:Result Next}{fm':FM}{ts':List Ai}{w':World}{v:Value}
  (o:Out N0 W0 fm ts (Heap.bL (st.fr::st.low) (cH ds (idxs ops.length p))) w (st.nx+16*i) r d fm' ts' w' v) (h1:DO ops) (jE:∀ j,j<ops.length->∃ d,ds[j]?=some d)
  (jd:∀ j,p j=true->i<j->m8 (dM ds i) (dM ds j)) (eO:∀ d,cq ops i=some d->d<n):
  DR N0 W0 n st ops ds (fun j=>p j || j==i) (a.put (cq ops i) v) w' fm' ts'/\Be N0 fm ts fm' ts':=by
 refine⟨⟨?_,?_,?_,?_,by rw[zQ];exact h.size,by rw[wh];exact h.dZ⟩,⟨o.cU,o.jS.drop 1,?_⟩⟩
 ·refine o.hr.ext (by simp) ?_
  intro l k
  have hs:dM ds i=d.lf:=by simp[dM,hd]
  rw[<-Heap.oN,<-hs,s9,s9]
  have:=aiF (ds:=ds) (l:=l) (k:=k) (i:=i) p fb (List.range ops.length) List.nodup_range (List.mem_range.2 hi) (by
   rintro j hj ⟨x,y,tW,hjy⟩
   refine jd j hj ?_
   have ahr:(List.range ops.length).Pairwise (·<·):=List.pairwise_lt_range
   rw[tW]at ahr
   have:=(List.pairwise_append.1 ahr).2.1
   exact(List.pairwise_cons.1 this).1 j hjy)
  unfold idxs
  rw[this]
 ·intro t x hx
  by_cases ht:cq ops i=some t
  ·have bB:i∈idxs ops.length (fun j=>p j || j==i):=lS.2 ⟨hi,by simp⟩
   rw[q9 ops ds h1 ht hd _ _ bB]at hx
   obtain rfl:=oi hx
   have ae:=eO t ht
   rw[<-h.size]at ae
   exact⟨v,by rw[ht];simp[Act.put,ae],o.val⟩
  ·have iQ:look (ib ops ds (idxs ops.length p) st.tm) t=some x:=by
    by_cases hex:∃ j,cq ops j=some t
    ·obtain⟨j,hj⟩:=hex
     have gI:j≠i:=fun e=>ht (by rw[<-e];exact hj)
     have kM:j<ops.length:=by
      unfold cq at hj
      cases ho:ops[j]? with
      |none=>rw[ho]at hj;cases hj
      |some o=>exact(gS.1 ho).1
     obtain⟨dj,n9⟩:=jE j kM
     by_cases kP:p j=true
     ·rw[q9 ops ds h1 hj n9 _ _ (lS.2 ⟨kM,by simp[kP]⟩)]at hx
      rw[q9 ops ds h1 hj n9 _ _ (lS.2 ⟨kM,kP⟩)]
      exact hx
     ·have bx:∀ q:Nat->Bool,q j=false->∀ k∈idxs ops.length q,cq ops k≠some t:=by
       intro q hq k hk pR
       have:=h1 j k t hj pR
       subst this
       rw[(lS.1 hk).2]at hq;cases hq
      rw[mw ops ds t _ _ (bx _ (by simp[kP,gI]))]at hx
      rw[mw ops ds t _ _ (bx _ (by simpa using kP))]
      exact hx
    ·have bx:∀ (L:List Nat),∀ j∈L,cq ops j≠some t:=fun L j _ hj=>hex ⟨j,hj⟩
     rw[mw ops ds t _ _ (bx _)]at hx ⊢
     exact hx
   obtain⟨u,h2,h3⟩:=h.tm t x iQ
   refine⟨u,?_,h3.mono o.cU.le o.jS⟩
   cases ni:cq ops i with
   |none=>exact h2
   |some dd=>
    simp only[Act.put]
    rw[Array.getElem?_setIfInBounds_ne (fun e=>ht (by rw[ni,e]))]
    exact h2
 ·intro j hj kP k bg pQ
  simp only[Bool.or_eq_false_iff,beq_eq_false_iff_ne,ne_eq]at kP
  refine o.free 0 k ?_ (h.fre j hj kP.1 k bg pQ)
  rcases Nat.lt_or_gt_of_ne kP.2 with ae|hgt
  ·exact .inr (.inl (by omega))
  ·exact .inr (.inr (by omega))
 ·intro k hk
  refine o.free 0 k (.inr (.inr ?_)) (h.top k hk)
  have:st.nx+16*i+16<=st.nx+16*ops.length:=by omega
  omega
 ·intro l k hn
  rw[ff]at hn ⊢
  exact o.free (l+1) k (by omega) hn
end
end
section
variable [Md] {P:Program}{T:AM}{N0:Nat}{W0:World}{n:Nat}{fm:FM}{ts:List Ai}{st:St}{ops:List Am}{befs:List (List Nat)}{ds:List De}
theorem aaZ {tm tm':Tm} (h:Eh tm tm') {c:Call}{x:FuncId×List AV} (e:callee tm c=some x):callee tm' c=some x:=by
 unfold callee at e ⊢
 split at e
 ·split at e
  ·rename_i hf hx
   simp only[we h hf,zH h _ _ hx];exact e
  ·cases e
 ·cases e
theorem HR.lE {H:Heap}{w:World} (h:HR N0 W0 fm ts H w) {cs ys:List AV}{vs:List Value} (hv:Au fm ts cs vs) (e:AV.aF H.get cs=some ys):
  Au (gn fm w (behind ts H (AV.aO cs))) [] ys vs:=h.aF _ hv e (fun _ h=>h)
theorem DR.oper (hT:AQ P T) {p:Nat->Bool}{a:Act}{w:World} (h:DR N0 W0 n st ops ds p a w fm ts) {i:Nat} (hi:i<ops.length) (fb:p i=false) {d:De} (hd:ds[i]?=some d) {s:Am} (hs:ops[i]?=some s)
  (he:Em P T (st.nx+16*i) s (look (mr ops befs ds st.tm i)) (Heap.get (lA ops befs ds (st.fr::st.low) i)) d) (h1:DO ops) (jE:∀ j,j<ops.length->∃ d,ds[j]?=some d)
  (hB:∀ j,(bA befs i).contains j=true->p j=true) (ca:∀ j,p j=true->(bA befs j).contains i=false)
  (jd:∀ j,p j=true->i<j->m8 (dM ds i) (dM ds j)) (eO:∀ d,cq ops i=some d->d<n)
  {o:Oper} (lL:s.op=o.op) (hty:s.type=o.type) (ni:s.dst=o.dst) {K:Act->World->Prop}{Q:Exit->Act->World->Prop}
  (hK:∀ v w' fm' ts',DR N0 W0 n st ops ds (fun j=>p j || j==i) (a.put o.dst v) w' fm' ts'->Be N0 fm ts fm' ts'->K (a.put o.dst v) w'):o.wpIn FW 0 P a w K Q:=by
 have yp:cq ops i=o.dst:=by simp[cq,hs,ni]
 have hG:=al3 (ops:=ops) (ds:=ds) (H:=st.fr::st.low) p fb hB ca
 have j8:Eh (look (mr ops befs ds st.tm i)) (look (ib ops ds (idxs ops.length p) st.tm)):=by
  exact acN h1 jE hB ca
 have step:∀ {r v w' fm' ts'},Out N0 W0 fm ts (Heap.bL (st.fr::st.low) (cH ds (idxs ops.length p))) w (st.nx+16*i) r d fm' ts' w' v->K (a.put o.dst v) w':=by
  intro r v w' fm' ts' ho
  obtain⟨h2,h3⟩:=h.step hi fb hd ho h1 jE jd eO
  rw[yp]at h2
  exact hK v w' fm' ts' h2 h3
 cases he with
 |op hc rn=>
  have abh:=ah6 j8 hG rn
  rw[lL,hty]at abh
  obtain⟨fm',ts',w',v,ho⟩:=ah7 (P:=P) hT h.hr (by simp) (h.fre i hi fb) h.tm abh
  have hk:=step ho
  have bW:∀ c,o.op≠.defer c:=fun c0 h0=>by rw[h0]at abh;simp[bE]at abh
  rcases ho.done with hr|⟨hr,rfl⟩
  ·exact zK bW hr hk
  ·exact aeh bW hr hk
 |look t m x r kv ob ho hm hx hr hl hs=>
  have lN:=h.dZ.2 r ob hr
  have hw:w.heap[r]?=some ob:=h.hr.cV r ob lN.1 lN.2
  have h1:=rT h.tm (we j8 hm)
  have h2:=rT h.tm (we j8 hx)
  have e1:a.eval m=.map (some r):=by generalize a.eval m=u at h1;cases h1;rfl
  obtain⟨z,h3,h4⟩:=hl fm ts _ w h2 hw
  have om:o.op=.lookup t m x false:=by rw[<-lL];exact ho
  refine zK (v:=z) (fun c0 h0=>by rw[om]at h0;cases h0) (w':=w) (by simp only[execOp,om,e1];exact eb h3) (step (r:=.ok (.value z) w) ⟨.inl rfl,?_,h4,AN.refl _ _,As.refl _,fun _ _ _ h=>h⟩)
  rw[hs]
  exact h.hr
 |call c f args ay hc fE hp hz hr abo=>
  have tr:=aaZ j8 fE
  have ek:=nY hG _ _ hz
  obtain⟨vs,fk,bf,tK⟩:=xu (w:=w) h.tm tr hc lL hp.1
  have nj:=h.hr.lE fk ek
  have bB:=(h.hr.rM (AV.aO args)).bO
  refine zJ tK bf ?_
  refine Calls.mono (hp.2 _ w _ bB nj) ?_
  rintro e w' ⟨v,y,fm',rfl,rfl,yD,bq,bp,hb⟩
  refine step (r:=.ok (.value v) w') (fm':=if AV.aO args=[] then fm' else fm) (ts':=ts) ?_
  by_cases vP:AV.aO args=[]
  ·rw[if_pos vP]
   rw[vP,abe]at bp
   refine⟨.inl rfl,?_,bq.mono (AZ.refl _) (As.nil _),bp.low h.hr.size,As.refl _,fun _ _ _ h=>h⟩
   rw[abo]
   exact h.hr.up hb bp yD
  ·rw[if_neg vP]
   have hsc:d.val.cW=true:=by
    rcases hr with hr|hr
    ·exact absurd hr vP
    ·exact hr
   refine⟨.inl rfl,?_,bq.cW hsc,AN.refl _ _,As.refl _,fun _ _ _ h=>h⟩
   rw[abo]
   exact h.hr.world (fun i hi=>hb.block i hi) (hb.mono h.hr.size)
 |mL m c f args ay hc fE hp hz hr abo=>
  have tr:=aaZ j8 fE
  have ek:=(sK hG (uO hG (fun _ _ _ _ _ _ _ hh=>mA hG _ _ hh) m) (fun _ _ _ _ _ _ _ hh=>mA hG _ _ hh)).2 _ _ hz
  obtain⟨vs,fk,bf,tK⟩:=xu (w:=w) h.tm tr hc lL hp.1
  have nj:=h.hr.brs _ (h.hr.cT m) fk ek
  refine zJ tK bf ?_
  refine Calls.mono (hp.2 _ w _ (fun b o v h=>h) nj) ?_
  rintro e w' ⟨v,y,fm',rfl,rfl,yD,bq,bp,hb⟩
  refine step (r:=.ok (.value v) w') (fm':=fm) (ts':=ts) ?_
  refine⟨.inl rfl,?_,bq.cW hr,AN.refl _ _,As.refl _,fun _ _ _ h=>h⟩
  rw[abo]
  exact h.hr.world (fun i hi=>hb.block i hi) (hb.mono h.hr.size)
 |rj m c f args ay fr y hc fE hp hz hy hf ym=>
  have tr:=aaZ j8 fE
  have ek:=(sK hG (uO hG (fun _ _ _ _ _ _ _ hh=>mA hG _ _ hh) m) (fun _ _ _ _ _ _ _ hh=>mA hG _ _ hh)).2 _ _ hz
  obtain⟨vs,fk,bf,tK⟩:=xu (w:=w) h.tm tr hc lL hp.1
  have nj:=h.hr.brs _ (h.hr.cT m) fk ek
  obtain⟨f1,H1,hH⟩:=ue st.fr st.low (cH ds (idxs ops.length p))
  refine zJ tK bf ?_
  refine Calls.mono (A6.ahH hp h.hr (fun _ _ _ h=>h) nj hy hf) ?_
  rintro e w' ⟨v,t',rfl,bY,bq,jc⟩
  cases ts with
  |nil=>have:=bY.len;rw[hH]at this;simp at this
  |cons hh rest=>
   have bx:∀ l k,tb (hh::rest) l k=none->tb (hh::rest) l k=none:=fun _ _ h=>h
   have bp:AN N0 fm fm:=AN.refl _ _
   have lM:As (hh::rest) (hh::rest):=As.refl _
   have adN:∀ k x,hh k=some x->¬ (st.nx+16*i<=k/\k<st.nx+16*i+16):=by
    rintro k x hx ⟨h1,h2⟩
    have:=bx 0 k (h.fre i hi fb k h1 h2)
    simp only[tb]at this
    rw[this]at hx;cases hx
   have j1:∀ k x,t' k=some x->jR (st.nx+16*i) t' hh (st.nx+16*i+k)=some x:=by
    intro k x hx
    have ae:k<16:=by
     rcases Nat.lt_or_ge k 16 with hk|hk
     ·exact hk
     ·rw[jc k hk]at hx;cases hx
    unfold jR
    rw[if_pos ⟨by omega,by omega⟩]
    simpa using hx
   have j2:∀ k x,hh k=some x->jR (st.nx+16*i) t' hh k=some x:=by
    intro k x hx
    unfold jR
    rw[if_neg (adN k x hx)];exact hx
   have hJ:∀ l k x,tb (t'::hh::rest) l k=some x->tb (jR (st.nx+16*i) t' hh::rest) (l - 1) (if l=0 then st.nx+16*i+k else k)=some x:=by
    intro l k x e
    cases l with
    |zero=>simpa [tb] using j1 k x (by simpa [tb] using e)
    |succ l=>
     cases l with
     |zero=>simpa [tb] using j2 k x (by simpa [tb] using e)
     |succ l=>simpa [tb] using e
   have hTT:As (hh::rest) (jR (st.nx+16*i) t' hh::rest):=by
    intro l k
    cases l with
    |zero=>
     simp only[tb]
     cases hx:hh k with
     |none=>trivial
     |some x=>rw[j2 k x hx];exact Bl.refl _
    |succ l=>exact Bl.refl _
   refine step (r:=.ok (.value v) w') (fm':=fm) (ts':=jR (st.nx+16*i) t' hh::rest) ?_
   subst ym
   refine⟨.inl rfl,?_,bq.vT hJ rfl,bp,lM.trans hTT,?_⟩
   ·rw[hH]at bY ⊢
    simp only[Heap.oN,aeq,aep]
    exact bY.vT j1 j2
   ·intro l k nk hn
    cases l with
    |zero=>
     have hk:¬ (st.nx+16*i<=k/\k<st.nx+16*i+16):=by omega
     simp only[tb,jR,if_neg hk]
     have:=bx 0 k hn
     simpa [tb] using this
    |succ l=>
     have:=bx (l+1) k hn
     simpa [tb] using this
 |n4 rs gs c f args dF fr0 fr y hc fE hp hz hg bW ym=>
  have tr:=aaZ j8 fE
  obtain⟨vs,fk,bf,tK⟩:=xu (w:=w) h.tm tr hc lL hp.1
  obtain⟨f1,H1,hH⟩:=ue st.fr st.low (cH ds (idxs ops.length p))
  have arQ:=bW
  simp only[A7,decide_eq_true_eq]at bW
  have hGH:∀ l k b,Heap.get (lA ops befs ds (st.fr::st.low) i) l k=some b->Heap.get (f1::H1) l k=some b:=by
   rw[<-hH];exact hG
  have tj:∀ l k b,only (jQ (Heap.get (lA ops befs ds (st.fr::st.low) i))) (rs.map fun k=>(1,k)) l k=some b->only (Heap.get ([]::f1::H1)) (rs.map fun k=>(1,k)) l k=some b:=by
   intro l k b e
   unfold only at e ⊢
   split at e
   ·rename_i hm
    rw[if_pos hm]
    cases l with
    |zero=>simp[jQ]at e
    |succ l=>simpa [Heap.get] using hGH l k b (by simpa [jQ] using e)
   ·cases e
  have yG:∀ (l k e i0 n g:Nat) (y:AV),(AV.loc l k e i0 n g).ai (only (jQ (Heap.get (lA ops befs ds (st.fr::st.low) i))) (rs.map fun k=>(1,k)))=some y->(AV.loc l k e i0 n g).ai (only (Heap.get ([]::f1::H1)) (rs.map fun k=>(1,k)))=some y:=
   fun _ _ _ _ _ _ _ hh=>mA tj _ _ hh
  have ek:=adl (gs:=gs) (sK tj (uO tj yG 5) yG).1 _ _ hz
  have mD:=adk hGH gs 0 fr0 hg
  have bo:=agZ f1 H1 rs gs 0 fr0 mD (by
   intro k hk eT
   exact(List.nodup_append.1 bW.1).2.2 k hk k eT rfl)
  have ha:=A6.used (H:=H1) 5 rs gs hp ek bo (by
   simp only[A7,decide_eq_true_eq]
   exact⟨(List.nodup_append.1 bW.1).1,bW.2⟩)
  have hr0:=h.hr
  rw[hH]at hr0
  have adt:Au fm (cM::ts) (AV.dg 1 args) vs:=by
   refine⟨by rw[mT];exact fk.1,?_⟩
   intro i x v hx hv
   rw[mR,mS]at hx
   obtain⟨y,hy,rfl⟩:=hx
   exact(fk.2 i y v hy hv).sh 1 (by simp)
  refine zJ tK bf ?_
  refine Calls.mono (ha.2 N0 W0 fm ts w _ hr0 adt) ?_
  rintro e w' ⟨v,av,aU,JJ,fm',t',ts',rfl,⟨⟨rfl,rfl⟩,rfl⟩,_,bY,bq,bp,lM,bx,jc⟩
  cases ts' with
  |nil=>have:=bY.len;simp at this
  |cons hh rest=>
   have adN:∀ k x,hh k=some x->¬ (st.nx+16*i<=k/\k<st.nx+16*i+16):=by
    rintro k x hx ⟨h1,h2⟩
    have:=bx 0 k (h.fre i hi fb k h1 h2)
    simp only[tb]at this
    rw[this]at hx;cases hx
   have j1:∀ k x,t' k=some x->jR (st.nx+16*i) t' hh (st.nx+16*i+k)=some x:=by
    intro k x hx
    have ae:k<16:=by
     rcases Nat.lt_or_ge k 16 with hk|hk
     ·exact hk
     ·rw[jc k hk]at hx;cases hx
    unfold jR
    rw[if_pos ⟨by omega,by omega⟩]
    simpa using hx
   have j2:∀ k x,hh k=some x->jR (st.nx+16*i) t' hh k=some x:=by
    intro k x hx
    unfold jR
    rw[if_neg (adN k x hx)];exact hx
   have hJ:∀ l k x,tb (t'::hh::rest) l k=some x->tb (jR (st.nx+16*i) t' hh::rest) (l - 1) (if l=0 then st.nx+16*i+k else k)=some x:=by
    intro l k x e
    cases l with
    |zero=>simpa [tb] using j1 k x (by simpa [tb] using e)
    |succ l=>
     cases l with
     |zero=>simpa [tb] using j2 k x (by simpa [tb] using e)
     |succ l=>simpa [tb] using e
   have hTT:As (hh::rest) (jR (st.nx+16*i) t' hh::rest):=by
    intro l k
    cases l with
    |zero=>
     simp only[tb]
     cases hx:hh k with
     |none=>trivial
     |some x=>rw[j2 k x hx];exact Bl.refl _
    |succ l=>exact Bl.refl _
   refine step (r:=.ok (.value v) w') (fm':=fm') (ts':=jR (st.nx+16*i) t' hh::rest) ?_
   subst ym
   refine⟨.inl rfl,?_,bq.vT hJ rfl,bp,lM.trans hTT,?_⟩
   ·rw[hH]
    simp only[Heap.oN,aeq,aep]
    exact bY.vT j1 j2
   ·intro l k nk hn
    cases l with
    |zero=>
     have hk:¬ (st.nx+16*i<=k/\k<st.nx+16*i+16):=by omega
     simp only[tb,jR,if_neg hk]
     have:=bx 0 k hn
     simpa [tb] using this
    |succ l=>
     have:=bx (l+1) k hn
     simpa [tb] using this
end
theorem ahT:∀ (l acc:List Nat) (x:Nat),x∈vV acc l↔x∈acc\/x∈l
 |[],acc,x=>by simp[vV]
 |y::l,acc,x=>by
  simp only[vV,ahT l,BD]
  by_cases h:acc.contains y=true
  ·rw[if_pos h]
   have:y∈acc:=by simpa using h
   constructor
   ·rintro(h|h)
    ·exact .inl h
    ·exact .inr (.inr h)
   ·rintro(h|rfl|h)
    ·exact .inl h
    ·exact .inl this
    ·exact .inr h
  ·rw[if_neg h]
   simp only[A9,CL,or_assoc]
theorem adZ (b:List (List Nat)) (x:Nat):∀ (l:List Edge) (acc:List Nat),x∈pf b acc l↔x∈acc\/∃ e∈l,Region.binds .any e=true/\(x=e.on\/x∈(b[e.on]?).getD [])
 |[],acc=>by simp[pf]
 |e::l,acc=>by
  simp only[pf,adZ b x l,BD]
  by_cases hb:Region.binds .any e=true
  ·rw[if_pos hb]
   simp only[ahT,CL]
   constructor
   ·rintro((h|h)|⟨f,hf,h⟩)
    ·rcases h with h|h
     ·exact .inl h
     ·exact .inr ⟨e,.inl rfl,hb,.inr h⟩
    ·exact .inr ⟨e,.inl rfl,hb,.inl h⟩
    ·exact .inr ⟨f,.inr hf,h⟩
   ·rintro(h|⟨f,rfl|hf,n8,h⟩)
    ·exact .inl (.inl (.inl h))
    ·rcases h with h|h
     ·exact .inl (.inr h)
     ·exact .inl (.inl (.inr h))
    ·exact .inr ⟨f,hf,n8,h⟩
  ·rw[if_neg hb]
   constructor
   ·rintro(h|⟨f,hf,h⟩)
    ·exact .inl h
    ·exact .inr ⟨f,.inr hf,h⟩
   ·rintro(h|⟨f,rfl|hf,n8,h⟩)
    ·exact .inl h
    ·exact absurd n8 hb
    ·exact .inr ⟨f,hf,n8,h⟩
theorem acq:∀ (l:List Oper) (b:List (List Nat)) (i:Nat),i<b.length->(pj b l)[i]?=b[i]?
 |[],b,i,h=>rfl
 |o::l,b,i,h=>by
  simp only[pj]
  rw[acq l _ i (by simp;omega),Cs h]
theorem acp:∀ (l:List Oper) (b:List (List Nat)) (i:Nat) (o:Oper),l[i]?=some o->
  ∃ b',(pj b l)[b.length+i]?=some (pf b' [] o.after.toList)/\b'.length=b.length+i/\∀ j,j<b'.length->b'[j]?=(pj b l)[j]?
 |[],b,i,o,h=>by simp at h
 |o'::l,b,0,o,h=>by
  simp only[BU,oE]at h;subst h
  refine⟨b,?_,by simp,?_⟩
  ·simp only[pj,Nat.add_zero]
   rw[acq l _ _ (by simp)]
   simp
  ·intro j hj
   simp only[pj]
   rw[acq l _ j (by simp;omega),Cs hj]
 |o'::l,b,i+1,o,h=>by
  simp only[Ca]at h
  obtain⟨b',h1,h2,h3⟩:=acp l (b++[pf b [] o'.after.toList]) i o h
  refine⟨b',?_,by simp at h2;omega,h3⟩
  simp only[pj]
  rw[<-h1]
  congr 1
  simp;omega
def St.drawn (st:St) (ops:List Am) (ds:List De) (drop:List Nat):St:=
 St.uy { st with tm:=cC (ib ops ds (List.range ops.length) st.tm) drop,nx:=st.nx+16*ops.length } (Heap.bL (st.fr::st.low) (cH ds (List.range ops.length)))
section
variable [Md] {P:Program}{T:AM}{N0:Nat}{W0:World}{n:Nat}{fm:FM}{ts:List Ai}{st:St}{ops:List Am}{befs:List (List Nat)}{ds:List De}{Φ:Exit->St->Prop}
theorem an2 {n:Nat}{p:Nat->Bool} (h:∀ j,j<n->p j=true):idxs n p=List.range n:=by
 unfold idxs
 rw[List.filter_eq_self]
 intro j hj
 exact h j (List.mem_range.1 hj)
theorem DR.all {p:Nat->Bool}{a:Act}{w:World} (h:DR N0 W0 n st ops ds p a w fm ts) (hp:∀ j,j<ops.length->p j=true) (drop:List Nat):SR N0 W0 n (st.drawn ops ds drop) a w fm ts:=by
 have e:=an2 hp
 have h1:=h.hr
 have h2:=h.tm
 rw[e]at h1 h2
 obtain⟨f',H',hp'⟩:=ue st.fr st.low (cH ds (List.range ops.length))
 unfold St.drawn
 rw[hp']at h1 ⊢
 refine⟨h1,?_,h.top,h.size,h.dZ⟩
 intro t x hx
 exact h2 t x (zt drop _ t x hx)
theorem DR.none {a:Act}{w:World} (h:SR N0 W0 n st a w fm ts):DR N0 W0 n st ops ds (fun _=>false) a w fm ts:=by
 have e:idxs ops.length (fun _=>false)=[]:=by unfold idxs;simp
 refine⟨by rw[e];exact h.hr,?_,fun i _ _ k h1 _=>h.nx k (by omega),fun k hk=>h.nx k (by omega),h.size,h.dZ⟩
 rw[e]
 intro t x hx
 exact h.tm t x hx
end
theorem acM {p q:Nat->Bool} (vN:∀ j,p j=true->q j=true) {i:Nat} (hq:q i=true) (hp:p i=false):∀ (l:List Nat),i∈l->l.countP p<l.countP q
 |[],h=>by cases h
 |a::l,h=>by
  have hle:l.countP p<=l.countP q:=List.countP_mono_left (fun x _ hx=>vN x hx)
  rw[List.countP_cons,List.countP_cons]
  by_cases ha:a=i
  ·subst ha
   rw[hq,hp]
   simp only[if_true,C0,if_false]
   omega
  ·have hl:i∈l:=by
    rcases BD.1 h with h|h
    ·exact absurd h.symm ha
    ·exact h
   have ih:=acM vN hq hp l hl
   cases vL:p a with
   |false=>simp only[C0,if_false];split<;>omega
   |true=>rw[vN a vL];simp only[if_true];omega
section
variable [Md] {P:Program}{T:AM}{n:Nat}{Φ:Exit->St->Prop}
theorem AK.draw (hT:AQ P T) (hm:P.follows .mixedOrders=true) {ops:List Am}{befs:List (List Nat)}{drop:List Nat}{todo:List It}{st:St} (ds:List De) (jE:∀ j,j<ops.length->∃ d,ds[j]?=some d) (h1:DO ops)
  (gH:∀ i j,j∈bA befs i->j<i) (jd:∀ i j,i<j->j<ops.length->i∉bA befs j->m8 (dM ds i) (dM ds j))
  (yt:∀ i s d,ops[i]?=some s->ds[i]?=some d->C2 P T (st.nx+16*i) s (look (mr ops befs ds st.tm i)) (Heap.get (lA ops befs ds (st.fr::st.low) i)) d)
  (hn:AK P n Φ todo (st.drawn ops ds drop)):AK P n Φ (.sc (.aL ops befs drop)::todo) st:=by
 intro N0 W0 fm ts a w ct Q hS fU hQ
 obtain⟨c,bj,lK,hb,hf,ht,hK⟩:=fU.aeA (P:=P) rfl
 apply hK
 cases c<;>try (simp only[SC.bare,erase,reduceCtorEq]at hb;done)
 case scope b=>exact absurd rfl (lK b)
 case region sa arr dr=>
  cases dr with
  |false=>simp[SC.bare,erase]at hb
  |true=>
   simp only[SC.bare,erase,SC.aL.injEq,and_true]at hb
   obtain⟨eN,jf⟩:=hb
   simp only[erase,SC.fits,List.all_eq_true]at hf
   have hlen:ops.length=arr.size:=by have:=congrArg List.length eN;simpa using this
   have je:∀ i,(hi:i<arr.size)->∃ s,ops[i]?=some s/\s.dst=(arr[i]).dst/\s.op=(arr[i]).op/\s.type=(arr[i]).type/\s.guard=(arr[i]).guard.map (fun g=>(((arr[g.1]?).bind (·.dst)).getD n,g.2)):=by
    intro i hi
    have ae:i<ops.length:=by omega
    refine⟨ops[i],gG ae,?_⟩
    have e:=congrArg (fun l=>l[i]?) eN
    simp only[Bw,gG ae,A5,Array.getElem?_toList,Bu hi,oE]at e
    simp only[jW,my,Am.mk.injEq,and_true]at e
    obtain⟨e1,e2,e3,e4⟩:=e
    exact⟨e1,e2,e3,e4⟩
   have vC:∀ i,(hi:i<arr.size)->∀ x,x∈bA befs i↔∃ e∈(arr[i]).after.toList,Region.binds .any e=true/\(x=e.on\/(e.on<i/\x∈bA befs e.on)):=by
    intro i hi x
    obtain⟨b',g1,g2,g3⟩:=acp arr.toList [] i arr[i] (by simp[hi])
    simp only[Ay,Cq]at g1 g2
    have e1:bA befs i=pf b' [] (arr[i]).after.toList:=by unfold bA;rw[jf,g1];rfl
    rw[e1,adZ]
    simp only[List.not_mem_nil,false_or]
    have e2:∀ e:Edge,x∈(b'[e.on]?).getD []↔(e.on<i/\x∈bA befs e.on):=by
     intro e
     by_cases hj:e.on<b'.length
     ·rw[g3 _ hj]
      unfold bA
      rw[jf]
      rw[g2]at hj
      simp[hj]
     ·rw[CK (by omega)]
      simp
      omega
    constructor
    ·rintro⟨e,h1,h2,h3⟩
     exact⟨e,h1,h2,h3.imp id (e2 e).1⟩
    ·rintro⟨e,h1,h2,h3⟩
     exact⟨e,h1,h2,h3.imp id (e2 e).2⟩
   refine wpIn_region_any hm ?_
   have vO:∀ j,(Array.replicate arr.size false).getD j false=false:=by
    intro j
    by_cases hj:j<arr.size
    ·simp[Array.getD,hj]
    ·simp[Array.getD,hj]
   have key:∀ (fuel:Nat) (aH:Array Bool) (a:Act) (w:World) (fm':FM) (ts':List Ai),aH.size=arr.size->((List.range arr.size).countP fun j=>!aH.getD j false)<=fuel->
     (∀ j,aH.getD j false=true->∀ k∈bA befs j,aH.getD k false=true)->DR N0 W0 n st ops ds (fun j=>aH.getD j false) a w fm' ts'->Be N0 fm ts fm' ts'->wpAnyIn FW 0 P .any arr (K P Q bj) fuel aH a w:=by
    intro fuel
    have fin:∀ (aH:Array Bool) (a:Act) (w:World) (fm':FM) (ts':List Ai),aH.size=arr.size->DR N0 W0 n st ops ds (fun j=>aH.getD j false) a w fm' ts'->Be N0 fm ts fm' ts'->Region.ready .any arr aH=[]->K P Q bj .normal a w:=by
     intro aH a w fm' ts' aw hD hL hr
     have iO:∀ j,j<arr.size->aH.getD j false=true:=by
      intro j
      induction j using Nat.strongRecOn with
      |_ j ih=>
       intro hj
       by_cases hl:aH.getD j false=true
       ·exact hl
       ·have bB:j∈Region.ready .any arr aH:=by
         rw[mem_ready]
         have ae:j<aH.size:=by omega
         refine⟨by simp[Array.getD,ae]at hl ⊢;exact hl,arr[j],Bu hj,?_⟩
         intro e he hb
         have hm:e.on∈bA befs j:=(vC j hj e.on).2 ⟨e,by simpa using he,hb,.inl rfl⟩
         have:=gH j e.on hm
         exact ih e.on this (by omega)
        rw[hr]at bB;cases bB
     have cK:=hD.all (fun j hj=>iO j (by omega)) drop
     exact hn N0 W0 fm' ts' a w bj Q cK (ht.later hL) (fun e s x w' f t hp hs hl=>hQ e s x w' f t hp hs (hL.trans hl))
    induction fuel with
    |zero=>
     intro aH a w fm' ts' aw hc ca hD hL
     have hr:Region.ready .any arr aH=[]:=by
      cases h:Region.ready .any arr aH with
      |nil=>rfl
      |cons j l=>
       have hj:j∈Region.ready .any arr aH:=by rw[h];exact List.mem_cons_self
       rw[mem_ready]at hj
       obtain⟨h0,o,ho,_⟩:=hj
       have ae:j<arr.size:=(CF.1 ho).1
       have:0<(List.range arr.size).countP fun j=>!aH.getD j false:=by
        rw[List.countP_pos_iff]
        have fS:j<aH.size:=by omega
        refine⟨j,List.mem_range.2 ae,?_⟩
        simp[Array.getD,fS]at h0 ⊢
        exact h0
       omega
     exact⟨hr,fin aH a w fm' ts' aw hD hL hr⟩
    |succ fuel ih=>
     intro aH a w fm' ts' aw hc ca hD hL
     refine⟨fin aH a w fm' ts' aw hD hL,fun i hi=>?_⟩
     rw[mem_ready]at hi
     obtain⟨h0,o,ho,iO⟩:=hi
     have ae:i<arr.size:=(CF.1 ho).1
     have fS:i<aH.size:=by omega
     have fb:aH.getD i false=false:=by
      simp[Array.getD,fS]at h0 ⊢
      exact h0
     obtain⟨s,hs,tP,hso,fW,gJ⟩:=je i ae
     have om:o=arr[i]:=by rw[Bu ae]at ho;exact(oi ho).symm
     subst om
     obtain⟨d,hd⟩:=jE i (by omega)
     have hB:∀ j,(bA befs i).contains j=true->aH.getD j false=true:=by
      intro j hj
      have hmm:j∈bA befs i:=by simpa using hj
      obtain⟨e,he,hb,h⟩:=(vC i ae j).1 hmm
      have pW:=iO e (by simpa using he) hb
      rcases h with rfl|⟨_,h⟩
      ·exact pW
      ·exact ca _ pW j h
     have tu:∀ j,aH.getD j false=true->(bA befs j).contains i=false:=by
      intro j hj
      cases kK:(bA befs j).contains i with
      |false=>rfl
      |true=>
       have:=ca j hj i (by simpa using kK)
       rw[fb]at this;cases this
     have fT:∀ j,(aH.setIfInBounds i true).getD j false=(aH.getD j false || j==i):=by
      intro j
      by_cases gI:j=i
      ·subst gI;simp[Array.getD,fS]
      ·rw[getD_set_ne false (Ne.symm gI)];simp[gI]
     unfold wpOpIn
     rw[ho]
     simp only
     have j8:Eh (look (mr ops befs ds st.tm i)) (look (ib ops ds (idxs ops.length fun j=>aH.getD j false) st.tm)):=by
      exact acN h1 jE hB tu
     have lP:∀ g j v,((arr[j]?).bind (·.dst)).getD n=g->a.tmps[g]?=some v->yielded arr a.tmps j=match v with|.bool b=>some b|_=>none:=by
      intro g j v ei hv
      unfold yielded
      cases hb:(arr[j]?).bind (·.dst) with
      |none=>
       rw[hb]at ei
       simp only[Option.getD_none]at ei
       have:=(CF.1 hv).1
       rw[hD.size]at this
       subst ei
       exact absurd this (Nat.lt_irrefl _)
      |some dd=>
       rw[hb]at ei
       simp only[Option.getD_some]at ei
       subst ei
       simp only[Af,hv]
       cases v<;>rfl
     have jF:∀ g w,s.guard=some (g,w)->∃ j,(arr[i]).guard=some (j,w)/\((arr[j]?).bind (·.dst)).getD n=g:=by
      intro g w hh
      rw[hh]at gJ
      cases yA:(arr[i]).guard with
      |none=>rw[yA]at gJ;cases gJ
      |some p=>
       rw[yA]at gJ
       simp only[A5,oE,Prod.mk.injEq]at gJ
       exact⟨p.1,by rw[gJ.2],gJ.1.symm⟩
     have tH:∀ v w' dV du,DR N0 W0 n st ops ds (fun j=>aH.getD j false || j==i) (a.put (arr[i]).dst v) w' dV du->Be N0 fm' ts' dV du->wpAnyIn FW 0 P .any arr (K P Q bj) fuel (aH.setIfInBounds i true) (a.put (arr[i]).dst v) w':=by
      intro v w' dV du th dI
      refine ih (aH.setIfInBounds i true) _ w' dV du (by simpa using aw) ?_ ?_ ?_ (hL.trans dI)
      ·have:=acM (p:=fun j=>!(aH.setIfInBounds i true).getD j false) (q:=fun j=>!aH.getD j false) (i:=i) (by
        intro j hj
        rw[fT]at hj
        simp only[Bool.not_or,A7]at hj
        exact hj.1) (by simp only[fb,Bj]) (by simp only[fT,fb];simp) (List.range arr.size) (List.mem_range.2 ae)
       omega
      ·intro j hj k hk
       rw[fT]at hj ⊢
       simp only[Bool.or_eq_true,beq_iff_eq]at hj ⊢
       rcases hj with hj|rfl
       ·exact .inl (ca j hj k hk)
       ·exact .inl (hB k (by simpa using hk))
      ·have e:(fun j=>(aH.setIfInBounds i true).getD j false)=fun j=>aH.getD j false || j==i:=funext fT
       rw[e]
       exact th
     have yg:∀ j,aH.getD j false=true->i<j->m8 (dM ds i) (dM ds j):=by
      intro j hj pO
      have tD:j<aH.size:=by
       by_cases tD:j<aH.size
       ·exact tD
       ·simp[Array.getD,tD]at hj
      refine jd i j pO (by omega) ?_
      have:=tu j hj
      simpa using this
     have yx:∀ d,cq ops i=some d->d<n:=by
      intro dd nh
      have adD:jW s∈List.map (my n arr) arr.toList:=by rw[<-eN];exact List.mem_map_of_mem (AW hs)
      have:=hf _ adD
      simp only[cq,hs,Af]at nh
      simp only[jW,nh]at this
      simpa using this
     rcases yt i s d hs hd with ⟨ee,hE⟩|⟨adL,rfl⟩
     case inr=>
      obtain⟨g,want,tQ,adv⟩:=adL
      obtain⟨j,hj,ei⟩:=jF g want tQ
      have hnw:Region.wanted arr[i] (yielded arr a.tmps)=false:=by
       rcases adv with ⟨b,hb,jg⟩|hb
       ·obtain⟨v,hv,bq⟩:=hD.tm g _ (j8 g _ hb)
        cases bq
        simp only[Region.wanted,hj,lP g j _ ei hv]
        simpa using jg
       ·obtain⟨v,hv,bq⟩:=hD.tm g _ (j8 g _ hb)
        cases bq
        simp[Region.wanted,hj,lP g j _ ei hv]
      rw[if_neg (by rw[hnw];simp)]
      have ho:Out N0 W0 fm' ts' (Heap.bL (st.fr::st.low) (cH ds (idxs ops.length fun j=>aH.getD j false))) w (st.nx+16*i) (.ok .skip w) ⟨.ar [],[]⟩ fm' ts' w undef:=
       ⟨.inr ⟨rfl,rfl⟩,hD.hr,.ar [] #[] rfl (fun i x v h=>by simp at h),AN.refl _ _,As.refl _,fun _ _ _ h=>h⟩
      obtain⟨h2,h3⟩:=hD.step (by omega) fb hd ho h1 jE yg yx
      have yp:cq ops i=(arr[i]).dst:=by simp[cq,hs,tP]
      rw[yp]at h2
      exact⟨fun _ _=>trivial,tH _ w fm' ts' h2 h3⟩
     have adM:Region.wanted arr[i] (yielded arr a.tmps)=true:=by
      rcases ee with ee|⟨g,want,b,tQ,hb,jg⟩
      ·rw[ee]at gJ
       have:(arr[i]).guard=none:=by
        cases hh:(arr[i]).guard with
        |none=>rfl
        |some g=>rw[hh]at gJ;cases gJ
       simp[Region.wanted,this]
      ·obtain⟨j,hj,ei⟩:=jF g want tQ
       obtain⟨v,hv,bq⟩:=hD.tm g _ (j8 g _ hb)
       cases bq
       simp only[Region.wanted,hj,lP g j _ ei hv]
       simpa using jg
     rw[if_pos adM]
     exact(DR.oper (befs:=befs) hT hD (by omega) fb hd hs hE h1 jE hB tu yg yx hso fW tP fun v w' dV du th dI=>tH v w' dV du th dI)
   refine key arr.size (Array.replicate arr.size false) a _ fm ts (by simp) (Ea List.countP_le_length (by simp)) (by intro j hj;rw[vO]at hj;cases hj) ?_ (Be.refl _ _)
   have e:(fun j=>(Array.replicate arr.size false).getD j false)=fun _=>false:=funext vO
   rw[e]
   exact DR.none ⟨hS.hr.drew,hS.tm,hS.nx,hS.size,hS.dZ⟩
end
def zC:List Am->Bool
 |[]=>true
 |o::l=>(match o.dst with
  |none=>true
  |some t=>l.all fun q=>decide (q.dst≠some t))&&zC l
theorem abG:∀ (ops:List Am),zC ops=true->DO ops
 |[],_=>by intro i j t h;simp[cq]at h
 |o::l,h=>by
  simp only[zC,A7]at h
  have ih:=abG l h.2
  have hz:∀ j t,o.dst=some t->cq l j≠some t:=by
   intro j t ho hj
   have h1:=h.1
   rw[ho]at h1
   simp only[List.all_eq_true,decide_eq_true_eq]at h1
   unfold cq at hj
   cases hlj:l[j]? with
   |none=>rw[hlj]at hj;cases hj
   |some q=>rw[hlj]at hj;exact h1 q (AW hlj) hj
  have hs:∀ j,cq (o::l) (j+1)=cq l j:=fun j=>by simp[cq]
  have h0:cq (o::l) 0=o.dst:=by simp[cq]
  intro i j t hi hj
  cases i with
  |zero=>
   cases j with
   |zero=>rfl
   |succ j=>rw[h0]at hi;rw[hs]at hj;exact absurd hj (hz j t hi)
  |succ i=>
   cases j with
   |zero=>rw[h0]at hj;rw[hs]at hi;exact absurd hi (hz i t hj)
   |succ j=>rw[hs]at hi hj;rw[ih i j t hi hj]
def xk:Nat->List (List Nat)->Bool
 |_,[]=>true
 |i,l::r=>(l.all fun j=>decide (j<i))&&xk (i+1) r
theorem aaN:∀ (befs:List (List Nat)) (i0:Nat),xk i0 befs=true->∀ i j,j∈bA befs i->j<i0+i
 |[],i0,_,i,j,h=>by simp[bA]at h
 |l::r,i0,h,i,j,hj=>by
  simp only[xk,A7,List.all_eq_true,decide_eq_true_eq]at h
  cases i with
  |zero=>simp[bA]at hj;exact h.1 j hj
  |succ i=>
   have:=aaN r (i0+1) h.2 i j (by simpa [bA] using hj)
   omega
def tX (s t:Sets):Bool:=s.all fun p=>t.all fun q=>!(p.1==q.1&&p.2.1==q.2.1)
theorem aoz {s t:Sets} (h:tX s t=true):m8 s t:=by
 intro p hp q hq hh
 simp only[tX,List.all_eq_true]at h
 have:=h p hp q hq
 rw[hh.1,hh.2]at this
 simp at this
def sH (befs:List (List Nat)) (ds:List De) (n:Nat):Bool:=
 (List.range n).all fun j=>(List.range j).all fun i=>(bA befs j).contains i || tX (dM ds i) (dM ds j)
theorem afh {befs:List (List Nat)}{ds:List De}{n:Nat} (h:sH befs ds n=true):∀ i j,i<j->j<n->i∉bA befs j->m8 (dM ds i) (dM ds j):=by
 intro i j pO hj hn
 simp only[sH,List.all_eq_true,List.mem_range,Bool.or_eq_true]at h
 rcases h j hj i pO with h|h
 ·exact absurd (by simpa using h) hn
 ·exact aoz h
section
variable [Md] {P:Program}{T:AM}{n:Nat}{Φ:Exit->St->Prop}
theorem HT (hT:AQ P T) (hm:P.follows .mixedOrders=true) {ops:List Am}{befs:List (List Nat)}{drop:List Nat}{todo:List It}{st:St} (ds:List De) (hlen:ds.length=ops.length) (h1:zC ops=true)
  (gH:xk 0 befs=true) (jd:sH befs ds ops.length=true)
  (yt:∀ i s d,ops[i]?=some s->ds[i]?=some d->C2 P T (st.nx+16*i) s (look (mr ops befs ds st.tm i)) (Heap.get (lA ops befs ds (st.fr::st.low) i)) d)
  (hn:AK P n Φ todo (st.drawn ops ds drop)):AJ P n Φ (.draw ops befs drop todo st):=by
 refine AK.draw hT hm ds (fun j hj=>⟨ds[j]'(by omega),gG (by omega)⟩) (abG ops h1) (fun i j hj=>by have:=aaN befs 0 gH i j hj;omega) (afh jd) yt hn
end
section
variable [Md] {P:Program}{T:AM}{N0:Nat}{W0:World}{n:Nat}{fm:FM}{ts:List Ai}{Φ:Exit->St->Prop}
theorem Ir {Q:Exit->Act->World->Prop} (t:List BE):K P Q (.back (fun a w=>K P Q t .normal a w)::t)=K P Q t:=by
 funext e a w;cases e<;>rfl
theorem Hz {Q:Exit->Act->World->Prop} (t:List BE):∀ c1:List BE,K P Q (c1++.back (fun a w=>K P Q t .normal a w)::t)=K P Q (c1++t)
 |[]=>Ir t
 |c::c1=>by
  have ih:=Hz (Q:=Q) t c1
  funext e a w
  cases c<;>cases e<;>simp only[Bq,K,ih]
theorem Bo.stop {todo:List It}:∀ {ct:List BE}{pre:List It}{l:List It},Bo N0 W0 n fm ts l ct->l=pre++todo->∃ c1 c2,ct=c1++c2/\Bo N0 W0 n fm ts todo c2/\
  ∀ (B:St->Prop) (R:Act->World->Prop),(∀ ao a' w' fm' ts',B ao->SR N0 W0 n ao a' w' fm' ts'->Be N0 fm ts fm' ts'->R a' w')->Bo N0 W0 n fm ts (pre++.back B::todo) (c1++.back R::c2):=by
 intro ct pre l h
 induction h generalizing pre with
 |nil=>
  intro e
  have e2:pre=[]/\todo=[]:=by simpa using e.symm
  obtain⟨rfl,rfl⟩:=e2
  exact⟨[],[],rfl,.nil,fun B R hR=>.back hR .nil⟩
 |@sc s c t ct h hf ht ih=>
  intro e
  cases pre with
  |nil=>
   simp only[BL]at e;subst e
   exact⟨[],_,rfl,.sc h hf ht,fun B R hR=>.back hR (.sc h hf ht)⟩
  |cons p pre=>
   simp only[Bq,List.cons.injEq]at e
   obtain⟨rfl,e⟩:=e
   obtain⟨c1,c2,rfl,h2,h3⟩:=ih e
   exact⟨.code c::c1,c2,rfl,h2,fun B R hR=>.sc h hf (h3 B R hR)⟩
 |@al id t ct ht ih=>
  intro e
  cases pre with
  |nil=>
   simp only[BL]at e;subst e
   exact⟨[],_,rfl,.al ht,fun B R hR=>.back hR (.al ht)⟩
  |cons p pre=>
   simp only[Bq,List.cons.injEq]at e
   obtain⟨rfl,e⟩:=e
   obtain⟨c1,c2,rfl,h2,h3⟩:=ih e
   exact⟨.al id::c1,c2,rfl,h2,fun B R hR=>.al (h3 B R hR)⟩
 |@gQ t ct ht ih=>
  intro e
  obtain⟨c1,c2,rfl,h2,h3⟩:=ih e
  exact⟨.gQ::c1,c2,rfl,h2,fun B R hR=>.gQ (h3 B R hR)⟩
 |@ops l arr is t ct h hi hf ht ih=>
  intro e
  cases pre with
  |nil=>
   simp only[BL]at e;subst e
   exact⟨[],_,rfl,.ops h hi hf ht,fun B R hR=>.back hR (.ops h hi hf ht)⟩
  |cons p pre=>
   simp only[Bq,List.cons.injEq]at e
   obtain⟨rfl,e⟩:=e
   obtain⟨c1,c2,rfl,h2,h3⟩:=ih e
   exact⟨.ops arr is::c1,c2,rfl,h2,fun B R hR=>.ops h hi hf (h3 B R hR)⟩
 |@back B0 R0 t ct h ht ih=>
  intro e
  cases pre with
  |nil=>
   simp only[BL]at e;subst e
   exact⟨[],_,rfl,.back h ht,fun B R hR=>.back hR (.back h ht)⟩
  |cons p pre=>
   simp only[Bq,List.cons.injEq]at e
   obtain⟨rfl,e⟩:=e
   obtain⟨c1,c2,rfl,h2,h3⟩:=ih e
   exact⟨.back R0::c1,c2,rfl,h2,fun B R hR=>.back h (h3 B R hR)⟩
theorem AK.cut (B:St->Prop) (pre:List It) {todo:List It}{st:St} (h1:AK P n Φ (pre++.back B::todo) st) (h2:∀ st,B st->AK P n Φ todo st):AK P n Φ (pre++todo) st:=by
 intro N0 W0 fm ts a w ct Q hS fU hQ
 obtain⟨c1,c2,rfl,h3,h4⟩:=fU.stop rfl
 have:=h1 N0 W0 fm ts a w (c1++.back (fun a w=>K P Q c2 .normal a w)::c2) Q hS (h4 B _ ?_) hQ
 ·rw[Hz]at this;exact this
 ·intro ao a' w' fm' ts' hB cK hL
  exact h2 ao hB N0 W0 fm' ts' a' w' c2 Q cK (h3.later hL) (fun e s x w' f t hp hs hl=>hQ e s x w' f t hp hs (hL.trans hl))
inductive AU (S E R:Type) where
 |next (s:S)
 |brk (e:E)
 |ret (r:R)
def aj {S E R:Type} (body:S->Option (AU S E R)):Nat->S->Option (AU S E R)
 |0,_=>none
 |k+1,s=>match body s with
  |none=>none
  |some (.next s')=>aj body k s'
  |some (.brk s')=>some (.brk s')
  |some (.ret r)=>some (.ret r)
theorem AK.aoG {S E R:Type}{body:S->Option (AU S E R)}{k:Nat}{s0:S}{r:AU S E R} (hk:aj body k s0=some r) (hd:S->St) (ex:E->St) {b:SC}{id:Nat}{todo:List It}{st:St} (hw:Ah n st (hd s0))
  (hb:∀ s x (Bk Br:St->Prop),body s=some x->(∀ s' ao,x=.next s'->Ah n ao (hd s')->Bk ao)->(∀ s' ao,x=.brk s'->Ah n ao (ex s')->Br ao)->(∀ v,x=.ret v->r=.ret v)->
   AK P n Φ (.sc b::.back Bk::.al id::.back Br::todo) (hd s))
  (hx:∀ s',r=.brk s'->AK P n Φ todo (ex s')):AK P n Φ (.sc (.loop b)::.al id::todo) st:=by
 refine AK.cut (fun ao=>∃ s',r=.brk s'/\Ah n ao (ex s')) [.sc (.loop b),.al id] ?_ ?_
 ·refine AK.loop (fun m st=>∃ s,st=hd s/\aj body m s=some r) k hw ⟨s0,rfl,hk⟩ ?_
  rintro m st ⟨s,rfl,hm⟩
  cases m with
  |zero=>cases hm
  |succ m=>
   simp only[aj]at hm
   cases hs:body s with
   |none=>rw[hs]at hm;cases hm
   |some x=>
    rw[hs]at hm
    refine hb s x _ _ hs ?_ ?_ ?_
    ·rintro s' ao rfl tS
     exact⟨hd s',m,Nat.lt_succ_self m,tS,s',rfl,hm⟩
    ·rintro s' ao rfl tS
     exact⟨s',(oi hm).symm,tS⟩
    ·rintro v rfl
     exact(oi hm).symm
 ·rintro ao ⟨s',hr,tS⟩
  exact AK.sv tS (hx s' hr)
end
section
variable [Md]
inductive NL:AV->AV->Prop
 |refl (x:AV):NL x x
 |nil (e:Nat):NL .nil (.sl e [])
 |agg (cs ys:List AV) (h1:cs.length=ys.length) (h2:∀ (i:Nat) x y,cs[i]?=some x->ys[i]?=some y->NL x y):NL (.agg cs) (.agg ys)
 |ar (cs ys:List AV) (h1:cs.length=ys.length) (h2:∀ (i:Nat) x y,cs[i]?=some x->ys[i]?=some y->NL x y):NL (.ar cs) (.ar ys)
 |sl (e:Nat) (es fs:List (List AV)) (h1:es.length=fs.length) (h2:∀ (i:Nat) c d,es[i]?=some c->fs[i]?=some d->c.length=d.length)
   (h3:∀ (i:Nat) c d (o:Nat) x y,es[i]?=some c->fs[i]?=some d->c[o]?=some x->d[o]?=some y->NL x y):NL (.sl e es) (.sl e fs)
def A1 (cs ys:List AV):Prop:=cs.length=ys.length/\∀ (i:Nat) x y,cs[i]?=some x->ys[i]?=some y->NL x y
def Bt (es fs:List (List AV)):Prop:=es.length=fs.length/\∀ (i:Nat) c d,es[i]?=some c->fs[i]?=some d->A1 c d
theorem A1.nil:A1 [] []:=⟨rfl,fun i x y h=>by simp at h⟩
theorem A1.cons {x y:AV}{l m:List AV} (h:NL x y) (hs:A1 l m):A1 (x::l) (y::m):=by
 refine⟨by simp[hs.1],?_⟩
 intro i a b ha hb
 cases i with
 |zero=>simp at ha hb;subst ha hb;exact h
 |succ i=>simp at ha hb;exact hs.2 i a b ha hb
theorem A1.refl (l:List AV):A1 l l:=⟨rfl,fun i x y a b=>by rw[a]at b;cases b;exact .refl _⟩
theorem Bt.nil:Bt [] []:=⟨rfl,fun i x y h=>by simp at h⟩
theorem Bt.cons {x y:List AV}{l m:List (List AV)} (h:A1 x y) (hs:Bt l m):Bt (x::l) (y::m):=by
 refine⟨by simp[hs.1],?_⟩
 intro i a b ha hb
 cases i with
 |zero=>simp at ha hb;subst ha hb;exact h
 |succ i=>simp at ha hb;exact hs.2 i a b ha hb
theorem Bt.refl (l:List (List AV)):Bt l l:=⟨rfl,fun i x y a b=>by rw[a]at b;cases b;exact .refl _⟩
theorem Bt.append {a b c d:List (List AV)} (h:Bt a b) (k:Bt c d):Bt (a++c) (b++d):=by
 refine⟨by simp[h.1,k.1],?_⟩
 intro i x y hx hy
 by_cases hi:i<a.length
 ·rw[Cs hi]at hx
  rw[Cs (by rw[<-h.1];exact hi)]at hy
  exact h.2 i x y hx hy
 ·rw[CE (by omega)]at hx
  rw[CE (by rw[<-h.1];omega)]at hy
  rw[<-h.1]at hy
  exact k.2 _ x y hx hy
theorem NL.mh {cs ys:List AV} (h:A1 cs ys):NL (.agg cs) (.agg ys):=.agg _ _ h.1 h.2
theorem NL.uo {cs ys:List AV} (h:A1 cs ys):NL (.ar cs) (.ar ys):=.ar _ _ h.1 h.2
theorem NL.wH {e:Nat}{es fs:List (List AV)} (h:Bt es fs):NL (.sl e es) (.sl e fs):=.sl _ _ _ h.1 (fun i c d a b=>(h.2 i c d a b).1) (fun i c d o x y a b p q=>(h.2 i c d a b).2 o x y p q)
theorem NL.flat {x y:AV} (h:NL x y):y.flat=x.flat:=by
 cases h<;>rfl
theorem NL.ok {x y:AV} (h:NL x y):∀ {fm:FM}{ts:List Ai}{v:Value},VR fm ts x v->VR fm ts y v:=by
 induction h with
 |refl x=>intro fm ts v hv;exact hv
 |nil e=>intro fm ts v hv;cases hv;exact .cg _ _ _
 |agg cs ys h1 h2 ih=>
  intro fm ts v hv
  cases hv with
  |agg _ vs k1 k2 k3=>
   have hy:∀ (i:Nat) y,ys[i]?=some y->∃ x,cs[i]?=some x:=fun i y hy=>⟨_,gG (by rw[h1];exact(gS.1 hy).1)⟩
   refine .agg _ vs (by rw[<-h1];exact k1) ?_ ?_
   ·intro y hm
    obtain⟨i,hi⟩:=BC.1 hm
    obtain⟨x,hx⟩:=hy i y hi
    rw[(h2 i x y hx hi).flat];exact k2 x (AW hx)
   ·intro i y u hi hu
    obtain⟨x,hx⟩:=hy i y hi
    exact ih i x y hx hi (k3 i x u hx hu)
 |ar cs ys h1 h2 ih=>
  intro fm ts v hv
  cases hv with
  |ar _ vs k1 k3=>
   refine .ar _ vs (by rw[<-h1];exact k1) ?_
   intro i y u hi hu
   have hx:∃ x,cs[i]?=some x:=⟨_,gG (by rw[h1];exact(gS.1 hi).1)⟩
   obtain⟨x,hx⟩:=hx
   exact ih i x y hx hi (k3 i x u hx hu)
 |sl e es fs h1 h2 h3 ih=>
  intro fm ts v hv
  have hc:∀ (i:Nat) d,fs[i]?=some d->∃ c,es[i]?=some c/\c.length=d.length:=fun i d hd=>by
   have ae:i<es.length:=by rw[h1];exact(gS.1 hd).1
   exact⟨_,gG ae,h2 i _ d (gG ae) hd⟩
  have hx:∀ (i:Nat) d (o:Nat) y,fs[i]?=some d->d[o]?=some y->∃ c x,es[i]?=some c/\c[o]?=some x:=fun i d o y hd hy=>by
   obtain⟨c,mB,mC⟩:=hc i d hd
   exact⟨c,_,mB,gG (by rw[mC];exact(gS.1 hy).1)⟩
  cases hv with
  |cg _ a cap=>
   have:fs=[]:=List.eq_nil_of_length_eq_zero (by simpa using h1.symm)
   subst this
   exact .cg _ _ _
  |sl _ cb off _ cap u bV k1 k2 k3 k4=>
   have:=VR.sl (fm:=fm) (ts:=ts) fs cb off e cap u (by rw[<-h1];exact bV)
    (fun d hd=>by
     obtain⟨i,hi⟩:=BC.1 hd
     obtain⟨c,mB,mC⟩:=hc i d hi
     rw[<-mC];exact k1 c (AW mB))
    (fun i d o y hd hy=>by obtain⟨c,x,a,b⟩:=hx i d o y hd hy;exact k2 i c o x a b)
    (fun i d o y hd hy=>by obtain⟨c,x,a,b⟩:=hx i d o y hd hy;rw[(h3 i c d o x y a hd b hy).flat];exact k3 i c o x a b)
    (fun i d o y hd hy=>by obtain⟨c,x,a,b⟩:=hx i d o y hd hy;exact ih i c d o x y a hd b hy (k4 i c o x a b))
   rw[<-h1]at this
   exact this
theorem A1.ok {cs ys:List AV} (h:A1 cs ys) {fm:FM}{ts:List Ai}{vs:List Value} (hv:Au fm ts cs vs):Au fm ts ys vs:=by
 refine⟨h.1.symm.trans hv.1,?_⟩
 intro i y v hy gK
 have hx:∃ x,cs[i]?=some x:=⟨_,gG (by rw[h.1];exact(gS.1 hy).1)⟩
 obtain⟨x,hx⟩:=hx
 exact(h.2 i x y hx hy).ok (hv.2 i x v hx gK)
inductive Cd:AG->AG->Prop
 |box (cs ys:List AV) (h:A1 cs ys):Cd (.box cs) (.box ys)
 |arr (et esz:Nat) (es fs:List (List AV)) (h:Bt es fs):Cd (.arr et esz es) (.arr et esz fs)
theorem Cd.refl:∀ b:AG,Cd b b
 |.box _=>.box _ _ (.refl _)
 |.arr _ _ _=>.arr _ _ _ _ (.refl _)
inductive B9:List (Nat×AV)->List (Nat×AV)->Prop
 |nil:B9 [] []
 |cons (t:Nat) (x y:AV) (l m:List (Nat×AV)) (h:NL x y) (hs:B9 l m):B9 ((t,x)::l) ((t,y)::m)
inductive BX:Av->Av->Prop
 |nil:BX [] []
 |cons (k:Nat) (x y:AG) (l m:Av) (h:Cd x y) (hs:BX l m):BX ((k,x)::l) ((k,y)::m)
theorem B9.refl:∀ l:List (Nat×AV),B9 l l
 |[]=>.nil
 |(t,x)::l=>.cons t x x l l (.refl _) (B9.refl l)
theorem BX.refl:∀ l:Av,BX l l
 |[]=>.nil
 |(t,x)::l=>.cons t x x l l (.refl _) (BX.refl l)
theorem B9.look {l m:List (Nat×AV)} (h:B9 l m):∀ t y,look m t=some y->∃ x,look l t=some x/\NL x y:=by
 induction h with
 |nil=>intro t y h;simp[Abs.look]at h
 |cons t0 x y l m h hs ih=>
  intro t z hz
  simp only[Abs.look]at hz ⊢
  split
  ·rename_i e;rw[if_pos e]at hz;cases hz;exact⟨_,rfl,h⟩
  ·rename_i e;rw[if_neg e]at hz;exact ih t z hz
theorem BX.look {l m:Av} (h:BX l m):∀ k b,look m k=some b->∃ b0,look l k=some b0/\Cd b0 b:=by
 induction h with
 |nil=>intro t y h;simp[Abs.look]at h
 |cons t0 x y l m h hs ih=>
  intro t z hz
  simp only[Abs.look]at hz ⊢
  split
  ·rename_i e;rw[if_pos e]at hz;cases hz;exact⟨_,rfl,h⟩
  ·rename_i e;rw[if_neg e]at hz;exact ih t z hz
theorem Cd.ok {fm:FM}{ts:List Ai}{w:World}{N0:Nat}{t:Option TB}{b b':AG} (h:BR fm ts w N0 t b) (hn:Cd b b'):BR fm ts w N0 t b':=by
 cases hn with
 |box cs ys hn=>
  cases h with
  |box c _ hN h=>
   obtain⟨cells,et,c1,c2,c3⟩:=h
   refine .box c _ hN ⟨cells,et,c1,c2.trans hn.1,?_⟩
   intro o y v hy hv
   obtain⟨x,hx⟩:∃ x,cs[o]?=some x:=⟨_,gG (by rw[hn.1];exact(gS.1 hy).1)⟩
   have tW:=hn.2 o x y hx hy
   exact⟨by rw[tW.flat];exact(c3 o x v hx hv).1,tW.ok (c3 o x v hx hv).2⟩
 |arr et esz es fs hn=>
  have hc:∀ (i:Nat) d,fs[i]?=some d->∃ c,es[i]?=some c/\A1 c d:=fun i d hd=>by
   have ae:i<es.length:=by rw[hn.1];exact(gS.1 hd).1
   exact⟨_,gG ae,hn.2 i _ d (gG ae) hd⟩
  cases h with
  |nil=>
   have:fs=[]:=List.eq_nil_of_length_eq_zero (by simpa using hn.1.symm)
   subst this
   exact .nil _ _
  |arr _ _ _ c cap hN h=>
   obtain⟨cells,c1,c2,c3,c4,c5,c6,c7⟩:=h
   rw[hn.1]
   refine .arr et esz fs c cap hN ⟨cells,c1,c2,by rw[<-hn.1];exact c3,c4,?_,c6,?_⟩
   ·intro d hd
    obtain⟨i,hi⟩:=BC.1 hd
    obtain⟨c,mB,mC⟩:=hc i d hi
    rw[<-mC.1];exact c5 c (AW mB)
   ·intro i d o y v hd hy hv
    obtain⟨c',mB,mC⟩:=hc i d hd
    obtain⟨x,hx⟩:∃ x,c'[o]?=some x:=⟨_,gG (by rw[mC.1];exact(gS.1 hy).1)⟩
    have tW:=mC.2 o x y hx hy
    have:=c7 i c' o x v mB hx hv
    exact⟨by rw[tW.flat];exact this.1,tW.ok this.2⟩
theorem Ah.nl {n:Nat}{tm tm':List (Nat×AV)}{fr aU:Av}{low:Heap}{nx nt:Nat} (h1:B9 tm tm') (h2:BX fr aU):Ah n ⟨tm,fr,low,nx,nt⟩ ⟨tm',aU,low,nx,nt⟩:=by
 intro N0 W0 a w fm ts h
 have src:∀ l k b,Heap.get (aU::low) l k=some b->∃ b0,Heap.get (fr::low) l k=some b0/\Cd b0 b:=by
  intro l k b hg
  cases l with
  |zero=>exact h2.look k b hg
  |succ l=>exact⟨b,hg,.refl b⟩
 refine⟨fm,ts,⟨⟨by simpa using h.hr.len,?_,?_,h.hr.bO,?_,h.hr.dh,h.hr.size,h.hr.cV,h.hr.ec⟩,?_,h.nx,h.size,h.dZ⟩,Be.refl _ _⟩
 ·intro l k b hg
  obtain⟨b0,iP,hn⟩:=src l k b hg
  exact hn.ok (h.hr.al l k b0 iP)
 ·intro l k l' k' b b' c hg bo
  obtain⟨b0,iP,_⟩:=src l k b hg
  obtain⟨b1,mD,_⟩:=src l' k' b' bo
  exact h.hr.inj l k l' k' b0 b1 c iP mD
 ·intro l k b c o hg
  obtain⟨b0,iP,_⟩:=src l k b hg
  exact h.hr.dk l k b0 c o iP
 ·intro t y hy
  obtain⟨x,hx,hn⟩:=h1.look t y hy
  obtain⟨v,h3,h4⟩:=h.tm t x hx
  exact⟨v,h3,hn.ok h4⟩
end
def dv:Operand->List Nat
 |.tmp t=>[t]
 |_=>[]
def uq:List Operand->List Nat
 |[]=>[]
 |x::l=>dv x++uq l
def xb:List (Nat×Operand)->List Nat
 |[]=>[]
 |(_,x)::l=>dv x++xb l
def sr:Option Operand->List Nat
 |some x=>dv x
 |none=>[]
def cn:Op->List Nat
 |.move x=>dv x
 |.assign x=>dv x
 |.pick c a b=>dv c++(dv a++dv b)
 |.alloc _=>[]
 |.box _ x=>dv x
 |.build _ ps=>xb ps.toList
 |.buildSlice _ _ ps=>xb ps.toList
 |.load _ a=>dv a
 |.store _ a x=>dv a++dv x
 |.nilCheck x=>dv x
 |.binOp _ _ x y _=>dv x++dv y
 |.unOp _ _ x=>dv x
 |.convert _ _ x=>dv x
 |.makeFunc _ a b=>uq a.toList++uq b.toList
 |.makeSlice _ l c=>dv l++dv c
 |.slice _ x lo hi mx=>dv x++(sr lo++(sr hi++sr mx))
 |.fieldAddr _ x _=>dv x
 |.field _ x _=>dv x
 |.indexAddr _ x i=>dv x++dv i
 |.index _ x i=>dv x++dv i
 |.extract x _=>dv x
 |.sliceToArrayPointer _ x=>dv x
 |.makeInterface _ x=>dv x
 |.lookup _ m x _=>dv m++dv x
 |.call c=>(match c.callee with
  |.value f=>dv f
  |_=>[])++uq c.args.toList
 |_=>[]
def aah (o:Am):List Nat:=(match o.guard with
 |some (g,_)=>[g]
 |none=>[])++cn o.op
def vH:Op->Bool
 |.move _|.assign _|.pick ..|.alloc _|.box ..|.build ..|.nilCheck _|.binOp ..|.unOp ..|.makeFunc ..|.makeSlice ..|.fieldAddr ..|.field ..|.indexAddr ..|.index ..|.extract ..|.sliceToArrayPointer ..|.makeInterface ..=>false
 |.call c=>match c.callee with
  |.builtin .len|.builtin .max|.builtin .min=>false
  |_=>true
 |_=>true
section
variable {tm tm':Tm}
theorem zF {x:Operand} (h:∀ t∈dv x,tm t=tm' t):bd tm x=bd tm' x:=by
 cases x<;>simp only[bd]
 exact h _ (by simp[dv])
theorem zG:∀ (l:List Operand),(∀ t∈uq l,tm t=tm' t)->jO tm l=jO tm' l
 |[],_=>rfl
 |x::l,h=>by
  simp only[jO]
  rw[zF (fun t ht=>h t (by simp only[uq,A9];exact .inl ht)),zG l (fun t ht=>h t (by simp only[uq,A9];exact .inr ht))]
theorem ael:∀ (l:List (Nat×Operand)),(∀ t∈xb l,tm t=tm' t)->partsOf tm l=partsOf tm' l
 |[],_=>rfl
 |(i,x)::l,h=>by
  simp only[partsOf]
  rw[zF (fun t ht=>h t (by simp only[xb,A9];exact .inl ht)),ael l (fun t ht=>h t (by simp only[xb,A9];exact .inr ht))]
theorem ah5 {T:AM}{kb:Nat}{G G':AR}{o:Op}{ty:TypeId} (h:∀ t∈cn o,tm t=tm' t) (hG:vH o=true->G=G'):bE T kb o ty tm G=bE T kb o ty tm' G':=by
 have e:∀ x:Operand,(∀ t∈dv x,t∈cn o)->bd tm x=bd tm' x:=fun x hx=>zF fun t ht=>h t (hx t ht)
 cases o with
 |move x=>simp only[bE,e x (fun t ht=>by simpa [cn] using ht)]
 |assign x=>simp only[bE,e x (fun t ht=>by simpa [cn] using ht)]
 |pick c a b=>simp only[bE,e c (fun t ht=>by simp[cn,ht]),e a (fun t ht=>by simp[cn,ht]),e b (fun t ht=>by simp[cn,ht])]
 |alloc t=>simp only[bE]
 |box t x=>simp only[bE,e x (fun t ht=>by simpa [cn] using ht)]
 |build t ps=>simp only[bE,ael ps.toList (fun t ht=>h t (by simpa [cn] using ht))]
 |buildSlice t n ps=>obtain rfl:=hG rfl;simp only[bE,ael ps.toList (fun t ht=>h t (by simpa [cn] using ht))]
 |load t a=>obtain rfl:=hG rfl;simp only[bE,e a (fun t ht=>by simpa [cn] using ht)]
 |store t a x=>obtain rfl:=hG rfl;simp only[bE,e a (fun t ht=>by simp[cn,ht]),e x (fun t ht=>by simp[cn,ht])]
 |nilCheck x=>simp only[bE,e x (fun t ht=>by simpa [cn] using ht)]
 |binOp op t x y t'=>simp only[bE,e x (fun t ht=>by simp[cn,ht]),e y (fun t ht=>by simp[cn,ht])]
 |unOp op t x=>simp only[bE,e x (fun t ht=>by simpa [cn] using ht)]
 |convert s d x=>obtain rfl:=hG rfl;simp only[bE,e x (fun t ht=>by simpa [cn] using ht)]
 |makeFunc f a b=>simp only[bE,zG a.toList (fun t ht=>h t (by simp only[cn,A9];exact .inl ht)),zG b.toList (fun t ht=>h t (by simp only[cn,A9];exact .inr ht))]
 |makeSlice t l c=>simp only[bE,e l (fun t ht=>by simp[cn,ht]),e c (fun t ht=>by simp[cn,ht])]
 |slice t x lo hi mx=>
  obtain rfl:=hG rfl
  have ex:=e x (fun t ht=>by simp[cn,ht])
  cases lo with
  |none=>
   cases hi with
   |none=>cases mx<;>simp only[bE,ex]
   |some hi=>
    have eh:=e hi (fun t ht=>by simp[cn,sr,ht])
    cases mx with
    |none=>simp only[bE,ex,eh]
    |some mx=>simp only[bE,ex,eh,e mx (fun t ht=>by simp[cn,sr,ht])]
  |some lo=>
   have el:=e lo (fun t ht=>by simp[cn,sr,ht])
   cases hi with
   |none=>cases mx<;>simp only[bE,ex,el]
   |some hi=>
    have eh:=e hi (fun t ht=>by simp[cn,sr,ht])
    cases mx with
    |none=>simp only[bE,ex,eh,el]
    |some mx=>simp only[bE,ex,eh,el,e mx (fun t ht=>by simp[cn,sr,ht])]
 |fieldAddr t x f=>simp only[bE,e x (fun t ht=>by simpa [cn] using ht)]
 |field t x f=>simp only[bE,e x (fun t ht=>by simpa [cn] using ht)]
 |indexAddr t x i=>simp only[bE,e x (fun t ht=>by simp[cn,ht]),e i (fun t ht=>by simp[cn,ht])]
 |index t x i=>simp only[bE,e x (fun t ht=>by simp[cn,ht]),e i (fun t ht=>by simp[cn,ht])]
 |extract x i=>simp only[bE,e x (fun t ht=>by simpa [cn] using ht)]
 |sliceToArrayPointer t x=>simp only[bE,e x (fun t ht=>by simpa [cn] using ht)]
 |makeInterface t x=>simp only[bE,e x (fun t ht=>by simpa [cn] using ht)]
 |call c=>
  obtain⟨callee,args,ats⟩:=c
  cases callee with
  |builtin b=>
   have ea:=zG args.toList (fun t ht=>h t (by simp only[cn,A9];exact .inr ht))
   cases b with
   |len=>simp only[bE,ea,m4]
   |max=>simp only[bE,ea,m4]
   |min=>simp only[bE,ea,m4]
   |_=>obtain rfl:=hG rfl;simp only[bE,ea]
  |_=>rfl
 |_=>rfl
theorem aaY {c:Call} (h:∀ t∈cn (.call c),tm t=tm' t):callee tm c=callee tm' c:=by
 obtain⟨cal,args,ats⟩:=c
 have ea:=zG args.toList (fun t ht=>h t (by simp only[cn,A9];exact .inr ht))
 cases cal with
 |value f=>
  have ef:bd tm f=bd tm' f:=zF fun t ht=>h t (by simp only[cn,A9];exact .inl ht)
  simp only[callee,ef,ea]
 |_=>rfl
end
def kf:AV->List (Nat×Nat)
 |.ptr l k _=>[(l,k)]
 |.bu l k _ _ _ _=>[(l,k)]
 |.loc l k _ _ _ _=>[(l,k)]
 |.bF l k _ _ _=>[(l,k)]
 |x=>x.refs
def tY:List AV->List (Nat×Nat)
 |[]=>[]
 |x::l=>kf x++tY l
def abH:AV->Option (List (Nat×Nat))
 |.ptr l k _=>if l=0 then some [(0,k)] else none
 |_=>none
def kW (tm:Tm):Op->Option (List (Nat×Nat))
 |.store _ a _=>(bd tm a).bind abH
 |.load _ a=>(bd tm a).map kf
 |.buildSlice _ _ ps=>(partsOf tm ps.toList).map jP
 |.slice _ x _ _ _=>(bd tm x).map kf
 |.convert _ _ x=>(bd tm x).map kf
 |.call c=>match c.callee with
  |.builtin .append=>(jO tm c.args.toList).map tY
  |.builtin .len|.builtin .max|.builtin .min=>some []
  |_=>none
 |o=>if vH o then none else some []
theorem qq {G:AR}{ks:List (Nat×Nat)}{l k:Nat} (h:(l,k)∈ks):only G ks l k=G l k:=by
 unfold only;rw[if_pos (by simpa using h)]
mutual
theorem agW {G:AR}{ks:List (Nat×Nat)}:∀ (x y:AV),x.ai G=some y->(∀ p∈x.refs,p∈ks)->x.ai (only G ks)=some y
 |.loc l k e i n g,y,h,hk=>by
  simp only[AV.ai]at h ⊢
  rw[qq (hk (l,k) (by simp[AV.refs]))];exact h
 |.nil,y,h,_=>by simpa [AV.ai] using h
 |.bR t v,y,h,hk=>by
  simp only[AV.ai,mS]at h ⊢
  obtain⟨a,h1,h2⟩:=h
  exact⟨a,agW v a h1 (by simpa only [AV.refs] using hk),h2⟩
 |.agg cs,y,h,hk=>by
  simp only[AV.ai,mS]at h ⊢
  obtain⟨a,h1,h2⟩:=h
  exact⟨a,sZ cs a h1 (by simpa only [AV.refs] using hk),h2⟩
 |.ar vs,y,h,hk=>by
  simp only[AV.ai,mS]at h ⊢
  obtain⟨a,h1,h2⟩:=h
  exact⟨a,sZ vs a h1 (by simpa only [AV.refs] using hk),h2⟩
 |.bool b,y,h,_=>by simpa [AV.ai] using h
 |.int k n,y,h,_=>by simpa [AV.ai] using h
 |.str s,y,h,_=>by simpa [AV.ai] using h
 |.sl e es,y,h,_=>by simpa [AV.ai] using h
 |.bG,y,h,_=>by simpa [AV.ai] using h
 |.bP,y,h,_=>by simpa [AV.ai] using h
 |.bS,y,h,_=>by simpa [AV.ai] using h
 |.raw r_,y,h,_=>by simpa [AV.ai] using h
 |.fn f a b,y,h,hk=>by
  simp only[AV.ai]at h ⊢
  split at h
  ·rename_i x z hx hz
   obtain rfl:=oi h
   simp only[AV.refs,A9]at hk
   simp only[sZ a x hx (fun p hp=>hk p (.inl hp)),sZ b z hz (fun p hp=>hk p (.inr hp))]
  ·cases h
 |.bF ..,y,h,_=>by simp[AV.ai]at h
 |.ptr ..,y,h,_=>by simp[AV.ai]at h
 |.bu ..,y,h,_=>by simp[AV.ai]at h
 |.aA ..,y,h,_=>by simpa [AV.ai] using h
 |.dead,y,h,_=>by simp[AV.ai]at h
theorem sZ {G:AR}{ks:List (Nat×Nat)}:∀ (l ys:List AV),AV.aF G l=some ys->(∀ p∈AV.aO l,p∈ks)->AV.aF (only G ks) l=some ys
 |[],ys,h,_=>by simpa [AV.aF] using h
 |x::l,ys,h,hk=>by
  simp only[AV.aF]at h ⊢
  simp only[AV.aO,A9]at hk
  split at h
  ·rename_i a b ha hb
   obtain rfl:=oi h
   simp only[agW x a ha (fun p hp=>hk p (.inl hp)),sZ l b hb (fun p hp=>hk p (.inr hp))]
  ·cases h
end
theorem agT {G:AR}{ks:List (Nat×Nat)}:∀ (l:List (Nat×AV)) (cs:List (Nat×List AV)),lD G l=some cs->(∀ p∈jP l,p∈ks)->lD (only G ks) l=some cs
 |[],cs,h,_=>by simpa [lD] using h
 |(i,v)::l,cs,h,hk=>by
  simp only[lD]at h ⊢
  simp only[jP,A9]at hk
  split at h
  ·rename_i vc oC
   split at h
   ·rename_i a b ha hb
    have hrefs:AV.aO vc=v.refs:=by
     cases v<;>simp only[AV.cells,oE]at oC<;>first|(subst oC;simp[AV.aO,AV.refs];done)|(cases oC)
    rw[sZ vc a ha (fun p hp=>hk p (.inl (by rw[<-hrefs];exact hp))),agT l b hb (fun p hp=>hk p (.inr hp))]
    exact h
   ·cases h
  ·cases h
theorem agh {G:AR}{ks:List (Nat×Nat)}{sz:Nat}{x:AV} (hk:∀ p∈kf x,p∈ks):iG (only G ks) sz x=iG G sz x:=by
 cases x with
 |loc l k e i n g=>simp only[iG];rw[qq (hk (l,k) (by simp[kf]))]
 |bF l k e o n=>simp only[iG];rw[qq (hk (l,k) (by simp[kf]))]
 |_=>rfl
theorem apN {T:AM}{kb:Nat}{tm:Tm}{G:AR}{o:Op}{ty:TypeId}{d:De}{ks:List (Nat×Nat)} (h:bE T kb o ty tm G=some d) (hr:kW tm o=some ks):bE T kb o ty tm (only G ks)=some d:=by
 have other:vH o=false->bE T kb o ty tm (only G ks)=some d:=fun hh=>by rw[<-h];exact ah5 (fun _ _=>rfl) (fun e=>by rw[hh]at e;cases e)
 have ame:(if vH o=true then none else some [])=some ks->bE T kb o ty tm (only G ks)=some d:=by
  intro e
  cases hh:vH o with
  |true=>rw[hh]at e;simp at e
  |false=>exact other hh
 cases o with
 |load t a=>
  simp only[kW,mS]at hr
  obtain⟨x,hx,rfl⟩:=hr
  simp only[bE,hx]at h ⊢
  split at h
  ·rename_i ti x' ht iQ
   obtain rfl:=oi iQ
   rw[<-h]
   congr 1
   unfold nT
   congr 1
   cases x<;>simp only[iF,kf]<;>rw[qq (by simp)]
  ·cases h
 |store t a x=>
  simp only[kW,Option.bind_eq_some_iff]at hr
  obtain⟨y,hy,hr⟩:=hr
  cases y with
  |ptr l k o=>
   simp only[abH]at hr
   split at hr
   ·rename_i hl
    subst hl
    obtain rfl:=oi hr
    rw[<-h]
    simp only[bE,hy]
    cases T t with
    |none=>rfl
    |some ti=>
     cases bd tm x with
     |none=>rfl
     |some xv=>
      simp only
      cases xv.cells with
      |none=>rfl
      |some cs=>
       simp only[qZ]
       rw[qq (by simp)]
       split
       ·split
        ·split
         ·rfl
         ·rfl
        ·rfl
       ·rfl
   ·cases hr
  |_=>simp[abH]at hr
 |buildSlice t n ps=>
  simp only[kW,mS]at hr
  obtain⟨x,hx,rfl⟩:=hr
  simp only[bE,hx]at h ⊢
  split at h
  ·rename_i ti x' ht iQ
   obtain rfl:=oi iQ
   unfold qY at h ⊢
   split at h
   ·split at h
    ·rename_i hc
     simp only[hc,and_self,if_true]
     split at h
     ·rename_i cs fQ
      rw[agT _ _ fQ (fun _ h=>h)]
      exact h
     ·cases h
    ·cases h
   ·cases h
  ·cases h
 |convert s d x=>
  simp only[kW,mS]at hr
  obtain⟨x1,hx,rfl⟩:=hr
  have hcv:∀ si di:TI,kE T (only G (kf x1)) si di x1=kE T G si di x1:=by
   intro si di
   unfold kE
   rw[agh (x:=x1) (fun p hp=>hp)]
  rw[<-h]
  simp only[bE,hx]
  cases T s with
  |none=>rfl
  |some si=>cases T d with
   |none=>rfl
   |some di=>simp only[hcv]
 |slice t x lo hi mx=>
  simp only[kW,mS]at hr
  obtain⟨x1,hx,rfl⟩:=hr
  have eD:∀ (ti:TI) (lo hi:AV),lp (only G (kf x1)) ti x1 lo hi=lp G ti x1 lo hi:=by
   intro ti lo hi
   cases x1 with
   |loc l k e i n g=>simp only[lp];rw[qq (by simp[kf])]
   |_=>rfl
  rw[<-h]
  cases mx with
  |some mx=>cases lo<;>cases hi<;>rfl
  |none=>
   cases lo with
   |none=>cases hi<;>rfl
   |some lo=>
    cases hi with
    |none=>rfl
    |some hi=>
     simp only[bE,hx]
     cases T t with
     |none=>rfl
     |some ti=>
      simp only
      split
      ·rw[eD]
      ·rfl
 |call c=>
  obtain⟨cal,args,ats⟩:=c
  cases cal with
  |builtin b=>
   cases b with
   |append=>
    simp only[kW,mS]at hr
    obtain⟨xs,hx,rfl⟩:=hr
    simp only[bE,hx]at h ⊢
    rw[<-h]
    unfold m4
    split
    ·rfl
    ·split
     ·rfl
     ·simp only
      split
      ·rename_i xs0 s x
       split
       ·unfold j3
        split
        ·rw[agh (x:=x) (by intro p hp;simp[tY,hp])]
         split
         ·cases s with
          |loc l k e i n g=>simp only;rw[qq (by simp[tY,kf])]
          |_=>rfl
         ·rfl
        ·rfl
       ·unfold xC
        split
        ·split
         ·split
          ·split
           ·unfold j3
            split
            ·simp only[iG]
             split
             ·cases s with
              |loc l k e i n g=>simp only;rw[qq (by simp[tY,kf])]
              |_=>rfl
             ·rfl
            ·rfl
           ·rfl
          ·rfl
         ·rfl
        ·split
         ·split
          ·unfold u0
           split
           ·unfold j3
            split
            ·simp only[iG]
             split
             ·cases s with
              |loc l k e i n g=>simp only;rw[qq (by simp[tY,kf])]
              |_=>rfl
             ·rfl
            ·rfl
           ·rfl
          ·rfl
         ·rfl
        ·rfl
      ·rfl
   |len=>exact other rfl
   |max=>exact other rfl
   |min=>exact other rfl
   |_=>simp[kW]at hr
  |_=>simp[kW]at hr
 |_=>exact ame hr
def dD:St->List Am->List De->Nat->St
 |st,o::os,d::ds,i+1=>dD (st.by o.dst [] d) os ds i
 |st,_,_,_=>st
theorem abQ (st:St) (ops:List Am) (ds:List De):dD st ops ds 0=st:=by
 cases ops<;>cases ds<;>rfl
theorem aeB (st:St) (ops:List Am) (ds:List De) (hl:ds.length=ops.length):∀ i,i<=ops.length->
  (dD st ops ds i).fr::(dD st ops ds i).low=Heap.bL (st.fr::st.low) (cH ds (List.range i))/\(dD st ops ds i).nx=st.nx+16*i/\(dD st ops ds i).nt=st.nt/\
  (dD st ops ds i).tm=ib ops ds (List.range i) st.tm:=by
 have key:∀ (ops:List Am) (ds:List De) (st:St),ds.length=ops.length->∀ i o d,i<ops.length->ops[i]?=some o->ds[i]?=some d->dD st ops ds (i+1)=(dD st ops ds i).by o.dst [] d:=by
  intro ops
  induction ops with
  |nil=>intro ds st hl i o d hi;simp at hi
  |cons o' os ih=>
   intro ds st hl i o d hi ho hd
   cases ds with
   |nil=>simp at hl
   |cons d' ds=>
    cases i with
    |zero=>simp at ho hd;subst ho hd;simp[dD,abQ]
    |succ i=>
     simp only[Ca]at ho hd
     simp only[dD]
     exact ih ds _ (by simpa using hl) i o d (by simpa using hi) ho hd
 intro i
 induction i with
 |zero=>intro _;simp[abQ,cH,Heap.bL,ib]
 |succ i ih=>
  intro hi
  obtain⟨h1,h2,h3,h4⟩:=ih (by omega)
  have ho:ops[i]?=some ops[i]:=gG (by omega)
  have hd:ds[i]?=some ds[i]:=gG (by omega)
  have hk:=key ops ds st hl i _ _ (by omega) ho hd
  obtain⟨f',H',hp⟩:=ue (dD st ops ds i).fr (dD st ops ds i).low (ds[i]).lf
  have hb:dD st ops ds (i+1)={ dD st ops ds i with tm:=mP (dD st ops ds i).tm (ops[i]).dst (ds[i]).val,nx:=(dD st ops ds i).nx+16,fr:=f',low:=H' }:=by
   rw[hk];unfold St.by;rw[hp];rfl
  have es:∀ (l:List Nat) (m:List Nat),cH ds (l++m)=cH ds l++cH ds m:=by
   intro l m;induction l with
   |nil=>rfl
   |cons a l ih=>simp[cH,ih]
  have et:∀ (l:List Nat) (j:Nat) (tm:List (Nat×AV)),ib ops ds (l++[j]) tm=(match ds[j]? with|some d=>mP (ib ops ds l tm) (cq ops j) d.val|none=>ib ops ds l tm):=by
   intro l;induction l with
   |nil=>intro j tm;rfl
   |cons a l ih=>intro j tm;simp only[Bq,ib,ih]
  rw[hb]
  refine⟨?_,by simp only[h2];omega,h3,?_⟩
  ·simp only
   rw[List.range_succ,es,Heap.oN,<-h1,<-hp]
   simp[cH,dM,hd]
  ·simp only
   rw[List.range_succ,et,hd,<-h4]
   simp[cq,ho]
def ai6 (ops:List Am) (befs:List (List Nat)) (i:Nat) (t:Nat):Bool:=
 (List.range ops.length).all fun j=>!(decide (cq ops j=some t)) || ((bA befs i).contains j || (bA befs j).contains i)
abbrev Rd:=Option (List (Nat×Nat))
def sV (r:Rd) (s:Sets):Bool:=match r with
 |none=>s.isEmpty
 |some ks=>s.all fun p=>!ks.contains (p.1,p.2.1)
def calm (ops:List Am) (befs:List (List Nat)) (ds:List (De×Rd)):Bool:=
 decide (ds.length=ops.length)&&zC ops&&xk 0 befs&&sH befs (ds.map (·.1)) ops.length&&
 (List.range ops.length).all fun i=>match ops[i]?,ds[i]? with
  |some o,some d=>(aah o).all (ai6 ops befs i)&&((List.range ops.length).all fun j=>!qE befs i j || ((ds[j]?).map fun x=>sV d.2 x.1.lf).getD true)
  |_,_=>false
section
variable [Md] {P:Program}{T:AM}{n:Nat}{Φ:Exit->St->Prop}
theorem Em.mono {kb:Nat}{o:Am}{tm:Tm}{G G':AR}{d:De} (hG:D3 G G') (h:Em P T kb o tm G d):Em P T kb o tm G' d:=by
 cases h with
 |op hc h=>exact .op hc (ah6 (fun _ _ h=>h) hG h)
 |look t m x r kv ob ho hm hx hr hl hs=>exact .look t m x r kv ob ho hm hx hr hl hs
 |call c f args ay hc h hp hz hr hs=>exact .call c f args ay hc h hp (nY hG _ _ hz) hr hs
 |mL m c f args ay hc h hp hz hr hs=>exact .mL m c f args ay hc h hp ((sK hG (uO hG (fun _ _ _ _ _ _ _ hh=>mA hG _ _ hh) m) (fun _ _ _ _ _ _ _ hh=>mA hG _ _ hh)).2 _ _ hz) hr hs
 |rj m c f args ay fr y hc h hp hz hy hf hd=>exact .rj m c f args ay fr y hc h hp ((sK hG (uO hG (fun _ _ _ _ _ _ _ hh=>mA hG _ _ hh) m) (fun _ _ _ _ _ _ _ hh=>mA hG _ _ hh)).2 _ _ hz) hy hf hd
 |n4 rs gs c f args dF fr0 fr y hc h hp hz hg bW hd=>
  have tj:∀ l k b,only (jQ G) (rs.map fun k=>(1,k)) l k=some b->only (jQ G') (rs.map fun k=>(1,k)) l k=some b:=by
   intro l k b e
   unfold only at e ⊢
   split at e
   ·rename_i hm
    rw[if_pos hm]
    cases l with
    |zero=>simp[jQ]at e
    |succ l=>exact hG l k b e
   ·cases e
  have yG:∀ (l k e i0 n g:Nat) (y:AV),(AV.loc l k e i0 n g).ai (only (jQ G) (rs.map fun k=>(1,k)))=some y->(AV.loc l k e i0 n g).ai (only (jQ G') (rs.map fun k=>(1,k)))=some y:=
   fun _ _ _ _ _ _ _ hh=>mA tj _ _ hh
  exact .n4 rs gs c f args dF fr0 fr y hc h hp (adl (gs:=gs) (sK tj (uO tj yG 5) yG).1 _ _ hz) (adk hG gs 0 fr0 hg) bW hd
theorem C2.congr {kb:Nat}{o:Am}{tm tm':Tm}{G:AR}{d:De} (h:∀ t∈aah o,tm t=tm' t) (he:C2 P T kb o tm G d):C2 P T kb o tm' G d:=by
 have hu:∀ t∈cn o.op,tm t=tm' t:=fun t ht=>h t (by simp only[aah,A9];exact .inr ht)
 have hg:∀ g w,o.guard=some (g,w)->tm g=tm' g:=fun g w hh=>h g (by simp[aah,hh])
 rcases he with ⟨ee,he⟩|⟨⟨g,w,hh,hc⟩,hd⟩
 ·refine .inl ⟨?_,?_⟩
  ·rcases ee with ee|⟨g,w,b,hh,h1,h2⟩
   ·exact .inl ee
   ·exact .inr ⟨g,w,b,hh,by rw[<-hg g w hh];exact h1,h2⟩
  ·cases he with
   |op hc he=>exact .op hc (by rw[<-ah5 hu (fun _=>rfl)];exact he)
   |look t m x r kv ob ho hm hx hr hl hs=>
    have e:∀ z,(∀ t∈dv z,t∈cn o.op)->bd tm' z=bd tm z:=fun z hz=>(zF fun t ht=>hu t (hz t ht)).symm
    exact .look t m x r kv ob ho (by rw[e m (fun t ht=>by rw[ho];simp[cn,ht])];exact hm) (by rw[e x (fun t ht=>by rw[ho];simp[cn,ht])];exact hx) hr hl hs
   |call c f args ay hc h hp hz hr hs=>
    have nm:o.op=.call c:=by
     unfold ke at hc
     split at hc
     ·split at hc
      ·cases hc
      ·obtain rfl:=oi hc;assumption
     ·cases hc
    exact .call c f args ay hc (by rw[<-aaY (by rw[<-nm];exact hu)];exact h) hp hz hr hs
   |mL m c f args ay hc h hp hz hr hs=>
    have nm:o.op=.call c:=by
     unfold ke at hc
     split at hc
     ·split at hc
      ·cases hc
      ·obtain rfl:=oi hc;assumption
     ·cases hc
    exact .mL m c f args ay hc (by rw[<-aaY (by rw[<-nm];exact hu)];exact h) hp hz hr hs
   |rj m c f args ay fr y hc h hp hz hy hf hd=>
    have nm:o.op=.call c:=by
     unfold ke at hc
     split at hc
     ·split at hc
      ·cases hc
      ·obtain rfl:=oi hc;assumption
     ·cases hc
    exact .rj m c f args ay fr y hc (by rw[<-aaY (by rw[<-nm];exact hu)];exact h) hp hz hy hf hd
   |n4 rs gs c f args dF fr0 fr y hc h hp hz hg bW hd=>
    have nm:o.op=.call c:=by
     unfold ke at hc
     split at hc
     ·split at hc
      ·cases hc
      ·obtain rfl:=oi hc;assumption
     ·cases hc
    exact .n4 rs gs c f args dF fr0 fr y hc (by rw[<-aaY (by rw[<-nm];exact hu)];exact h) hp hz hg bW hd
 ·refine .inr ⟨⟨g,w,hh,?_⟩,hd⟩
  rw[<-hg g w hh];exact hc
def C8 (P:Program) (T:AM) (kb:Nat) (o:Am) (tm:Tm) (G:AR) (d:De×Rd):Prop:=
 C2 P T kb o tm (match d.2 with|none=>G|some ks=>only G ks) d.1
inductive Steps (P:Program) (T:AM):St->List Am->List (De×Rd)->Prop
 |nil (st:St):Steps P T st [] []
 |cons (st:St) (o:Am) (os:List Am) (d:De×Rd) (ds:List (De×Rd)) (h:C8 P T st.nx o (look st.tm) st.get d) (hs:Steps P T (st.by o.dst [] d.1) os ds):Steps P T st (o::os) (d::ds)
theorem Steps.at {st:St}{ops:List Am}{ds:List (De×Rd)} (h:Steps P T st ops ds):∀ i o d,ops[i]?=some o->ds[i]?=some d->
  C8 P T (dD st ops (ds.map (·.1)) i).nx o (look (dD st ops (ds.map (·.1)) i).tm) (dD st ops (ds.map (·.1)) i).get d:=by
 induction h with
 |nil st=>intro i o d ho;simp at ho
 |cons st o os d ds h hs ih=>
  intro i o' d' ho hd
  cases i with
  |zero=>simp at ho hd;subst ho hd;rw[abQ];exact h
  |succ i=>
   simp only[Ca]at ho hd
   simp only[List.map_cons,dD]
   exact ih i o' d' ho hd
theorem Steps.length {st:St}{ops:List Am}{ds:List (De×Rd)} (h:Steps P T st ops ds):ds.length=ops.length:=by
 induction h with
 |nil=>rfl
 |cons _ _ _ _ _ _ _ ih=>simp[ih]
theorem acR:∀ (ks:List Nat) (l:List (Nat×AV)) (t:Nat),look (cC l ks) t=if t∈ks then none else look l t
 |[],l,t=>by simp[cC]
 |k::ks,l,t=>by
  simp only[cC,acR ks,zr,BD]
  by_cases h1:t∈ks
  ·simp[h1]
  ·by_cases h2:k=t
   ·simp[h2]
   ·simp[h1,h2,Ne.symm h2]
theorem afK {ops:List Am}{befs:List (List Nat)}{st:St} (ds:List (De×Rd)) (hs:Steps P T st ops ds) (hc:calm ops befs ds=true):
  ∀ i s d,ops[i]?=some s->(ds.map (·.1))[i]?=some d->C2 P T (st.nx+16*i) s (look (mr ops befs (ds.map (·.1)) st.tm i)) (Heap.get (lA ops befs (ds.map (·.1)) (st.fr::st.low) i)) d:=by
 obtain⟨cZ,yr⟩:∃ cZ,ds.map (·.1)=cZ:=⟨_,rfl⟩
 have hl:=hs.length
 have tE:cZ.length=ops.length:=by rw[<-yr];simp[hl]
 simp only[calm,A7,decide_eq_true_eq,yr]at hc
 obtain⟨⟨⟨⟨_,h1⟩,gH⟩,jd⟩,iO⟩:=hc
 have hO:=abG ops h1
 have hB:=aaN befs 0 gH
 have hdx:∀ i,i<ops.length->∃ d,ds[i]?=some d/\cZ[i]?=some d.1:=by
  intro i hi
  obtain⟨x,h2⟩:∃ x,ds[i]?=some x:=⟨_,gG (by omega)⟩
  refine⟨x,h2,?_⟩
  have h3:(ds.map (·.1))[i]?=some x.1:=by rw[Bw,h2];rfl
  rw[yr]at h3;exact h3
 rw[yr]
 intro i s d hi hd
 have hil:i<ops.length:=(gS.1 hi).1
 obtain⟨dd,h2,h3⟩:=hdx i hil
 rw[hd]at h3
 obtain rfl:=oi h3
 have hE:=hs.at i s dd hi h2
 rw[yr]at hE
 obtain⟨f1,f2,f3,f4⟩:=aeB st ops cZ tE i (by omega)
 rw[f2]at hE
 simp only[List.all_eq_true,List.mem_range]at iO
 have hci:=iO i hil
 rw[hi,h2]at hci
 simp only[A7,List.all_eq_true]at hci
 obtain⟨hu,hh⟩:=hci
 have ni:∀ j t,cq ops j=some t->j<ops.length:=by
  intro j t hj
  unfold cq at hj
  cases ho:ops[j]? with
  |none=>rw[ho]at hj;cases hj
  |some o=>exact(gS.1 ho).1
 have eG:∀ t∈aah s,look (dD st ops cZ i).tm t=look (mr ops befs cZ st.tm i) t:=by
  intro t ht
  rw[f4]
  have hut:=hu t ht
  simp only[ai6,List.all_eq_true,List.mem_range,Bool.or_eq_true,Bool.not_eq_true',decide_eq_false_iff_not]at hut
  unfold mr
  by_cases hex:∃ j,cq ops j=some t
  ·obtain⟨j,hj⟩:=hex
   have kM:=ni j t hj
   have hor:(bA befs i).contains j=true\/(bA befs j).contains i=true:=by
    rcases hut j kM with h|h
    ·exact absurd hj h
    ·exact h
   by_cases yE:(bA befs i).contains j=true
   case neg=>
    have pO:=hB j i (by simpa using hor.resolve_left yE)
    have bx:∀ L:List Nat,j∉L->∀ k∈L,cq ops k≠some t:=by
     intro L hjL k hk pR
     have:=hO j k t hj pR
     subst this
     exact hjL hk
    rw[mw ops cZ t _ _ (bx _ (by simp;omega)),mw ops cZ t _ _ (bx _ (by intro hm;exact yE (lS.1 hm).2)),acR,if_neg]
    intro hm
    obtain⟨k,hk,pR⟩:=List.mem_filterMap.1 hm
    have:=hO j k t hj pR
    subst this
    have:=(lS.1 hk).2
    rw[hor.resolve_left yE]at this
    cases this
   have gI:=hB i j (by simpa using yE)
   obtain⟨dj,_,n9⟩:=hdx j kM
   rw[q9 ops cZ hO hj n9 _ _ (List.mem_range.2 (by omega)),q9 ops cZ hO hj n9 _ _ (lS.2 ⟨kM,yE⟩)]
  ·have bx:∀ (L:List Nat),∀ j∈L,cq ops j≠some t:=fun L j _ hj=>hex ⟨j,hj⟩
   rw[mw ops cZ t _ _ (bx _),mw ops cZ t _ _ (bx _),acR,if_neg]
   intro hm
   obtain⟨j,_,hj⟩:=List.mem_filterMap.1 hm
   exact hex ⟨j,hj⟩
 simp only[List.all_eq_true,List.mem_range,Bool.or_eq_true,Bool.not_eq_true']at hh
 have anq:∀ j,j<ops.length->qE befs i j=true->sV dd.2 (dM cZ j)=true:=by
  intro j hj bX
  obtain⟨dj,n9,ani⟩:=hdx j hj
  rcases hh j hj with h|h
  ·rw[bX]at h;cases h
  ·rw[n9]at h
   simpa [dM,ani] using h
 have hG:∀ l k,(∀ ks,dd.2=some ks->(l,k)∈ks)->(dD st ops cZ i).get l k=Heap.get (lA ops befs cZ (st.fr::st.low) i) l k:=by
  intro l k nk
  have yN:∀ j,j<ops.length->qE befs i j=true->∀ p∈dM cZ j,¬ (p.1=l/\p.2.1=k):=by
   intro j hj bX p hp hpe
   have:=anq j hj bX
   unfold sV at this
   split at this
   ·rw[List.isEmpty_iff]at this;rw[this]at hp;cases hp
   ·rename_i ks hks
    have h1:=List.all_eq_true.1 this p hp
    have h2:=nk ks hks
    rw[hpe.1,hpe.2]at h1
    simp[h2]at h1
  unfold St.get lA
  rw[f1,s9,s9]
  have g1:said (gone (cH cZ (idxs ops.length (qE befs i)))) l k=none:=by
   apply abO
   intro x hx
   obtain⟨y,hy,rfl⟩:=List.mem_map.1 hx
   obtain⟨j,hj,hyj⟩:=(ad0 _).1 hy
   exact fun hh=>yN j (lS.1 hj).1 (lS.1 hj).2 y hyj hh
  rw[g1]
  simp only
  rw[s9]
  have g2:said (cH cZ (List.range i)) l k=said (cH cZ (idxs ops.length fun j=>(bA befs i).contains j)) l k:=by
   have k2:List.range i=(List.range ops.length).filter fun j=>decide (j<i):=by
    have:∀ (m k:Nat),k<=m->List.range k=(List.range m).filter fun j=>decide (j<k):=by
     intro m
     induction m with
     |zero=>
      intro k hk
      have:k=0:=by omega
      subst this;rfl
     |succ m ih=>
      intro k hk
      by_cases hkm:k=m+1
      ·subst hkm
       symm
       rw[List.filter_eq_self]
       intro j hj;simpa using hj
      ·rw[List.range_succ,List.filter_append,<-ih k (by omega)]
       have:¬ m<k:=by omega
       simp[this]
    exact this _ _ (by omega)
   rw[k2]
   symm
   unfold idxs
   refine aez (ds:=cZ) (l:=l) (k:=k) (fun j=>(bA befs i).contains j) (fun j=>decide (j<i)) ?_ (List.range ops.length) ?_
   ·intro j hj
    have:=hB i j (by simpa using hj)
    simp;omega
   ·intro j hj gI hnb s hs
    simp only[decide_eq_true_eq]at gI
    refine yN j (List.mem_range.1 hj) ?_ s hs
    unfold qE
    have pU:(bA befs j).contains i=false:=by
     cases hx:(bA befs j).contains i with
     |false=>rfl
     |true=>have:=hB j i (by simpa using hx);omega
    rw[hnb,pU]
    have:j≠i:=by omega
    simp[this]
  rw[g2]
 have hE':=C2.congr eG hE
 have hle:D3 (match dd.2 with|none=>(dD st ops cZ i).get|some ks=>only (dD st ops cZ i).get ks) (Heap.get (lA ops befs cZ (st.fr::st.low) i)):=by
  intro l k b hb
  cases kL:dd.2 with
  |none=>
   rw[kL]at hb
   simp only at hb
   rw[<-hG l k (by intro ks e;rw[kL]at e;cases e)];exact hb
  |some ks=>
   rw[kL]at hb
   simp only[only]at hb
   split at hb
   ·rename_i hm
    rw[<-hG l k (by intro ks' e;rw[kL]at e;obtain rfl:=oi e;simpa using hm)];exact hb
   ·cases hb
 rcases hE' with ⟨a,b⟩|⟨a,b⟩
 ·exact .inl ⟨a,b.mono hle⟩
 ·exact .inr ⟨a,b⟩
theorem alJ {ops:List Am}{drop:List Nat}{todo:List It}{st:St} (cZ:List De) (tE:cZ.length=ops.length)
  (hn:AK P n Φ todo { dD st ops cZ ops.length with tm:=cC (dD st ops cZ ops.length).tm drop }):AK P n Φ todo (st.drawn ops cZ drop):=by
 obtain⟨e1,e2,e3,e4⟩:=aeB st ops cZ tE ops.length (Bd _)
 unfold St.drawn
 obtain⟨f',H',hp⟩:=ue st.fr st.low (cH cZ (List.range ops.length))
 rw[hp]at e1 ⊢
 simp only[List.cons.injEq]at e1
 obtain⟨e5,e6⟩:=e1
 rw[ajs]
 simp only[e2,e3,e4,e5,e6]at hn
 exact hn
theorem HS (hT:AQ P T) (hm:P.follows .mixedOrders=true) {ops:List Am}{befs:List (List Nat)}{drop:List Nat}{todo:List It}{st:St} (ds:List (De×Rd)) (hs:Steps P T st ops ds) (hc:calm ops befs ds=true)
  (hn:AK P n Φ todo { dD st ops (ds.map (·.1)) ops.length with tm:=cC (dD st ops (ds.map (·.1)) ops.length).tm drop }):AJ P n Φ (.draw ops befs drop todo st):=by
 have hl:(ds.map (·.1)).length=ops.length:=by simp[hs.length]
 have kK:=hc
 simp only[calm,A7,decide_eq_true_eq]at kK
 obtain⟨⟨⟨⟨_,h1⟩,gH⟩,jd⟩,_⟩:=kK
 exact HT hT hm _ hl h1 gH jd (afK ds hs hc) (alJ _ hl hn)
end
end Go.Abs
namespace Go.Abs
open Go Go.RowKit
theorem Aw.nl {P:Program}{f:FuncId}{zs args:List AV}{R:AV->Prop} (h:Aw P f args R) (hn:A1 zs args):Aw P f zs R:=
 ⟨h.1,fun fm w vs h1 h2=>h.2 fm w vs h1 (hn.ok h2)⟩
inductive Cy where
 |stuck
 |call (f:FuncId) (args:List AV) (o:Am) (os:List Am) (acc:List (De×Rd)) (st:St)
 |look (t:TypeId) (r:Nat) (kv:AV) (o:Am) (os:List Am) (acc:List (De×Rd)) (st:St)
 |done (acc:List (De×Rd)) (st:St)
def zO:De×Rd:=(⟨.ar [],[]⟩,some [])
def qD (f:List Am->List (De×Rd)->St->Cy) (b:Bool) (os:List Am) (acc:List (De×Rd)) (st:St) (iS:List Am) (iD:List (De×Rd)) (ao:St):Cy:=
 match b with
 |true=>f os acc st
 |false=>f iS iD ao
theorem aqE (f:List Am->List (De×Rd)->St->Cy) (os iS:List Am) (acc iD:List (De×Rd)) (st ao:St):qD f true os acc st iS iD ao=f os acc st:=rfl
theorem aqD (f:List Am->List (De×Rd)->St->Cy) (os iS:List Am) (acc iD:List (De×Rd)) (st ao:St):qD f false os acc st iS iD ao=f iS iD ao:=rfl
def ahL (o:Am) (os:List Am) (acc:List (De×Rd)) (st:St):Cy:=
 match o.op with
 |.lookup t m x false=>match bd (look st.tm) m,bd (look st.tm) x with
  |some (.raw (.map (some r))),some kv=>.look t r kv o os acc st
  |_,_=>.stuck
 |_=>.stuck
def abA (f:List Am->List (De×Rd)->St->Cy) (o:Am) (os:List Am) (acc:List (De×Rd)) (st:St):Option De->Cy
 |some d=>f os ((d,kW (look st.tm) o.op)::acc) (st.by o.dst [] d)
 |none=>ahL o os acc st
theorem aoV (f:List Am->List (De×Rd)->St->Cy) (o:Am) (os:List Am) (acc:List (De×Rd)) (st:St) (d:De):abA f o os acc st (some d)=f os ((d,kW (look st.tm) o.op)::acc) (st.by o.dst [] d):=rfl
def acH (o:Am) (os:List Am) (acc:List (De×Rd)) (st:St):Option (FuncId×List AV)->Cy
 |some (f,args)=>.call f args o os acc st
 |none=>.stuck
theorem alG (o:Am) (os:List Am) (acc:List (De×Rd)) (st:St) (f:FuncId) (args:List AV):acH o os acc st (some (f,args))=.call f args o os acc st:=rfl
def doD (T:AM) (f:List Am->List (De×Rd)->St->Cy) (o:Am) (os:List Am) (acc:List (De×Rd)) (st:St):Cy:=
 match ke o.op with
 |some c=>acH o os acc st (callee (look st.tm) c)
 |none=>abA f o os acc st (bE T st.nx o.op o.type (look st.tm) st.get)
def jt (T:AM):Nat->List Am->List (De×Rd)->St->Cy
 |0,_,_,_=>.stuck
 |_+1,[],acc,st=>.done acc st
 |n+1,o::os,acc,st=>match o.guard with
  |none=>doD T (jt T n) o os acc st
  |some (g,w)=>match look st.tm g with
   |some (.bool b)=>qD (jt T n) (b==w) (⟨o.dst,o.op,o.type,none,o.drop⟩::os) acc st os (zO::acc) (st.by o.dst [] ⟨.ar [],[]⟩)
   |some (.ar [])=>jt T n os (zO::acc) (st.by o.dst [] ⟨.ar [],[]⟩)
   |_=>.stuck
section
variable [Md] {P:Program}{T:AM}{n:Nat}{Φ:Exit->St->Prop}{C:List (De×Rd)->St->Prop}
def GD (P:Program) (T:AM) (C:List (De×Rd)->St->Prop) (os:List Am) (acc:List (De×Rd)) (st:St):Prop:=
 ∃ ds,Steps P T st os ds/\C (ds.reverse++acc) (dD st os (ds.map (·.1)) os.length)
def DG (P:Program) (T:AM) (C:List (De×Rd)->St->Prop):Cy->Prop
 |.stuck=>False
 |.look t r kv o os acc st=>∃ ob y,Md.mps r=some ob/\HA P t ob r kv y/\GD P T C os ((⟨y,[]⟩,some [])::acc) (st.by o.dst [] ⟨y,[]⟩)
 |.done acc st=>C acc st
 |.call f args o os acc st=>(∃ rs gs dF fr0 fr y,A6 P f dF fr0 (fun y' aU=>y'=y/\aU=fr)/\kI gs (only (jQ (only st.get ((gs++rs).map fun k=>(0,k)))) (rs.map fun k=>(1,k))) (cT (only (jQ (only st.get ((gs++rs).map fun k=>(0,k)))) (rs.map fun k=>(1,k))) 5) (AV.dg 1 args)=some dF/\
    n5 (only st.get ((gs++rs).map fun k=>(0,k))) 0 gs=some fr0/\(decide (gs++rs).Nodup&&decide (gs.length<=16))=true/\GD P T C os ((⟨y.imp st.nx,kT rs++(kT gs++kS st.nx fr)⟩,some ((gs++rs).map fun k=>(0,k)))::acc) (st.by o.dst [] ⟨y.imp st.nx,kT rs++(kT gs++kS st.nx fr)⟩))\/
   (∃ m ks ay fr y,A6 P f ay [] (fun y' aU=>y'=y/\aU=fr)/\AV.cY (only st.get ks) (cT (only st.get ks) m) args=some ay/\y.mM=true/\rN fr/\GD P T C os ((⟨y.imp st.nx,kS st.nx fr⟩,some ks)::acc) (st.by o.dst [] ⟨y.imp st.nx,kS st.nx fr⟩))\/∃ v ay fl,Aw P f ay (fun y=>y=v)/\((AV.aF st.get args=some ay/\(AV.aO args=[]\/v.cW=true)/\fl=some (AV.aO args))\/(fl=none/\v.cW=true/\∃ m,AV.cY st.get (cT st.get m) args=some ay))/\
   GD P T C os ((⟨v,[]⟩,fl)::acc) (st.by o.dst [] ⟨v,[]⟩)
theorem GD.cons {o:Am}{os:List Am}{acc:List (De×Rd)}{st:St}{d:De×Rd} (h:C8 P T st.nx o (look st.tm) st.get d) (hg:GD P T C os (d::acc) (st.by o.dst [] d.1)):GD P T C (o::os) acc st:=by
 obtain⟨ds,h1,h2⟩:=hg
 exact⟨d::ds,.cons st o os d ds h h1,by simpa [dD] using h2⟩
theorem abM:∀ (m:Nat) (os:List Am) (acc:List (De×Rd)) (st:St),DG P T C (jt T m os acc st)->GD P T C os acc st:=by
 intro m
 induction m with
 |zero=>intro os acc st h;exact h.elim
 |succ m ih=>
  intro os acc st h
  cases os with
  |nil=>exact⟨[],.nil st,by simp only[jt,DG]at h;simpa [abQ] using h⟩
  |cons o os=>
   have lZ:(stays o (look st.tm))->DG P T C (jt T m os (zO::acc) (st.by o.dst [] ⟨.ar [],[]⟩))->GD P T C (o::os) acc st:=by
    intro hs h
    exact GD.cons (d:=zO) (by simp only[C8,zO];exact .inr ⟨hs,rfl⟩) (ih _ _ _ h)
   cases hg:o.guard with
   |none=>
    simp only[jt,hg,doD]at h
    cases hc:ke o.op with
    |none=>
     rw[hc]at h
     simp only at h
     cases hd:bE T st.nx o.op o.type (look st.tm) st.get with
     |none=>
      rw[hd]at h
      simp only[abA,ahL]at h
      split at h
      ·rename_i t m' x' ho
       split at h
       ·rename_i r kv hm hx
        obtain⟨ob,y,h1,h2,h3⟩:=h
        refine GD.cons (d:=(⟨y,[]⟩,some [])) ?_ h3
        unfold C8
        exact .inl ⟨.inl hg,.look t m' x' r kv ob ho hm hx h1 h2 rfl⟩
       ·exact h.elim
      ·exact h.elim
     |some d=>
      rw[hd]at h
      simp only[abA]at h
      refine GD.cons (d:=(d,kW (look st.tm) o.op)) ?_ (ih _ _ _ h)
      unfold C8
      simp only
      cases hr:kW (look st.tm) o.op with
      |none=>exact .inl ⟨.inl hg,.op hc hd⟩
      |some ks=>exact .inl ⟨.inl hg,.op hc (apN hd hr)⟩
    |some c=>
     rw[hc]at h
     simp only at h
     cases fE:callee (look st.tm) c with
     |none=>rw[fE]at h;exact h.elim
     |some fa=>
      obtain⟨f,args⟩:=fa
      rw[fE]at h
      simp only[acH,DG]at h
      rcases h with ⟨rs,gs,dF,fr0,fr,y,h1,h2,h3,h5,h4⟩|⟨m,ks,ay,fr,y,h1,h2,h3,h5,h4⟩|h
      ·refine GD.cons (d:=(⟨y.imp st.nx,kT rs++(kT gs++kS st.nx fr)⟩,some ((gs++rs).map fun k=>(0,k)))) ?_ h4
       unfold C8
       exact .inl ⟨.inl hg,.n4 rs gs c f args dF fr0 fr y hc fE h1 h2 h3 h5 rfl⟩
      ·refine GD.cons (d:=(⟨y.imp st.nx,kS st.nx fr⟩,some ks)) ?_ h4
       unfold C8
       exact .inl ⟨.inl hg,.rj m c f args ay fr y hc fE h1 h2 h3 h5 rfl⟩
      obtain⟨v,ay,fl,h1,hor,h4⟩:=h
      refine GD.cons (d:=(⟨v,[]⟩,fl)) ?_ h4
      unfold C8
      rcases hor with ⟨h2,h3,rfl⟩|⟨rfl,h3,m,h2⟩
      ·exact .inl ⟨.inl hg,.call c f args ay hc fE h1 (sZ _ _ h2 (fun _ h=>h)) h3 rfl⟩
      ·exact .inl ⟨.inl hg,.mL m c f args ay hc fE h1 h2 h3 rfl⟩
   |some gw=>
    obtain⟨g,w⟩:=gw
    simp only[jt,hg]at h
    split at h
    ·rename_i b hb
     cases jg:b==w with
     |true=>
      rw[jg]at h
      simp only[qD]at h
      obtain⟨ds,h1,h2⟩:=ih _ _ _ h
      cases h1 with
      |cons _ _ _ d ds hE hs=>
       refine⟨d::ds,.cons st o os d ds ?_ hs,by simpa [dD] using h2⟩
       have ee:ag1 o (look st.tm):=.inr ⟨g,w,b,hg,hb,jg⟩
       unfold C8 at hE ⊢
       have conv:∀ G,C2 P T st.nx ⟨o.dst,o.op,o.type,none,o.drop⟩ (look st.tm) G d.1->C2 P T st.nx o (look st.tm) G d.1:=by
        rintro G (⟨_,he⟩|⟨⟨g',w',hh,_⟩,_⟩)
        ·refine .inl ⟨ee,?_⟩
         cases he with
         |op hc h=>exact .op hc h
         |look t m x r kv ob ho hm hx hr hl hs=>exact .look t m x r kv ob ho hm hx hr hl hs
         |call c f args ay hc h hp hz hr hs=>exact .call c f args ay hc h hp hz hr hs
         |mL m c f args ay hc h hp hz hr hs=>exact .mL m c f args ay hc h hp hz hr hs
         |n4 rs gs c f args dF fr0 fr y hc h hp hz hg bW hd=>exact .n4 rs gs c f args dF fr0 fr y hc h hp hz hg bW hd
         |rj m c f args ay fr y hc h hp hz hy hf hd=>exact .rj m c f args ay fr y hc h hp hz hy hf hd
        ·cases hh
       exact conv _ hE
     |false=>
      rw[jg]at h
      simp only[qD]at h
      exact lZ ⟨g,w,hg,.inl ⟨b,hb,jg⟩⟩ h
    ·rename_i hb
     exact lZ ⟨g,w,hg,.inr hb⟩ h
    ·exact h.elim
theorem H6 {f:FuncId}{args ay qN:List AV}{v:AV}{o:Am}{os:List Am}{acc:List (De×Rd)}{st:St} (m:Nat) (hp:Aw P f ay (fun y=>y=v)) (hz:AV.aF st.get args=some qN) (hn:A1 qN ay)
  (hr:AV.aO args=[]\/v.cW=true) (h:DG P T C (jt T m os ((⟨v,[]⟩,some (AV.aO args))::acc) (st.by o.dst [] ⟨v,[]⟩))):DG P T C (.call f args o os acc st):=
 .inr <| .inr ⟨v,qN,_,hp.nl hn,.inl ⟨hz,hr,rfl⟩,abM m _ _ _ h⟩
theorem DZ {f:FuncId}{args dF:List AV}{fr0 fr:Av}{y:AV}{o:Am}{os:List Am}{acc:List (De×Rd)}{st:St} (m:Nat) (rs gs:List Nat) (hp:A6 P f dF fr0 (fun y' aU=>y'=y/\aU=fr))
  (hz:kI gs (only (jQ (only st.get ((gs++rs).map fun k=>(0,k)))) (rs.map fun k=>(1,k))) (cT (only (jQ (only st.get ((gs++rs).map fun k=>(0,k)))) (rs.map fun k=>(1,k))) 5) (AV.dg 1 args)=some dF/\n5 (only st.get ((gs++rs).map fun k=>(0,k))) 0 gs=some fr0) (bW:(decide (gs++rs).Nodup&&decide (gs.length<=16))=true)
  (h:DG P T C (jt T m os ((⟨y.imp st.nx,kT rs++(kT gs++kS st.nx fr)⟩,some ((gs++rs).map fun k=>(0,k)))::acc) (st.by o.dst [] ⟨y.imp st.nx,kT rs++(kT gs++kS st.nx fr)⟩))):DG P T C (.call f args o os acc st):=
 .inl ⟨rs,gs,dF,fr0,fr,y,hp,hz.1,hz.2,bW,abM m _ _ _ h⟩
theorem GH {acc:List (De×Rd)}{st:St} (h:C acc st):DG P T C (.done acc st):=h
def mU (ds:List (De×Rd)):List (List (Nat×Nat)×Rd):=ds.map fun d=>(d.1.lf.map fun p=>(p.1,p.2.1),d.2)
def nP (sk:List (List (Nat×Nat)×Rd)):List (De×Rd):=sk.map fun d=>(⟨.ar [],d.1.map fun p=>(p.1,p.2,none)⟩,d.2)
theorem aoy (s t s' t':Sets) (hs:s.map (fun p=>(p.1,p.2.1))=s'.map (fun p=>(p.1,p.2.1))) (ht:t.map (fun p=>(p.1,p.2.1))=t'.map (fun p=>(p.1,p.2.1))):tX s t=tX s' t':=by
 have key:∀ s t:Sets,tX s t=((s.map fun p=>(p.1,p.2.1)).all fun p=>(t.map fun p=>(p.1,p.2.1)).all fun q=>!(p.1==q.1&&p.2==q.2)):=by
  intro s t
  unfold tX
  simp[List.all_map,Function.comp_def]
 rw[key,key,hs,ht]
theorem amJ (r:Rd) (s s':Sets) (hs:s.map (fun p=>(p.1,p.2.1))=s'.map (fun p=>(p.1,p.2.1))):sV r s=sV r s':=by
 have key:∀ s:Sets,sV r s=(match r with
   |none=>(s.map fun p=>(p.1,p.2.1)).isEmpty
   |some ks=>(s.map fun p=>(p.1,p.2.1)).all fun p=>!ks.contains p):=by
  intro s
  cases r with
  |none=>cases s<;>rfl
  |some ks=>simp[sV,List.all_map,Function.comp_def]
 rw[key,key,hs]
theorem alI (ops:List Am) (befs:List (List Nat)) (ds:List (De×Rd)):calm ops befs ds=calm ops befs (nP (mU ds)):=by
 have dJ:∀ i:Nat,(nP (mU ds))[i]?=(ds[i]?).map fun d=>((⟨.ar [],d.1.lf.map fun p=>(p.1,p.2.1,none)⟩:De),d.2):=by
  intro i
  simp[nP,mU,Bw,Function.comp_def]
 have hk:∀ i:Nat,(dM (ds.map (·.1)) i).map (fun p=>(p.1,p.2.1))=(dM ((nP (mU ds)).map (·.1)) i).map (fun p=>(p.1,p.2.1)):=by
  intro i
  unfold dM
  rw[Bw,Bw,dJ]
  cases ds[i]? with
  |none=>rfl
  |some d=>simp[Function.comp_def]
 have h1:(nP (mU ds)).length=ds.length:=by simp[nP,mU]
 have h2:sH befs ((nP (mU ds)).map (·.1)) ops.length=sH befs (ds.map (·.1)) ops.length:=by
  unfold sH
  congr 1;funext j;congr 1;funext i
  rw[aoy _ _ _ _ (hk i).symm (hk j).symm]
 unfold calm
 rw[h1,h2]
 congr 1
 congr 1;funext i
 rw[dJ]
 cases ops[i]? with
 |none=>rfl
 |some o=>
  cases ds[i]? with
  |none=>rfl
  |some d=>
   simp only[A5]
   congr 1
   congr 1;funext j
   rw[dJ]
   cases ds[j]? with
   |none=>rfl
   |some x=>
    simp only[A5,Option.getD_some]
    rw[amJ d.2 x.1.lf (x.1.lf.map fun p=>(p.1,p.2.1,none)) (by simp[Function.comp_def])]
theorem afL {ops:List Am}{befs:List (List Nat)}{ds:List (De×Rd)}{sk:List (List (Nat×Nat)×Rd)} (h1:mU ds=sk) (h2:calm ops befs (nP sk)=true):calm ops befs ds=true:=by
 rw[alI,h1];exact h2
theorem AL (hT:AQ P T) (hm:P.follows .mixedOrders=true) {ops:List Am}{befs:List (List Nat)}{drop:List Nat}{todo:List It}{st:St} (m:Nat)
  (h:DG P T (fun acc ao=>calm ops befs acc.reverse=true/\AK P n Φ todo { ao with tm:=cC ao.tm drop }) (jt T m ops [] st)):AJ P n Φ (.draw ops befs drop todo st):=by
 obtain⟨ds,h1,h2,h3⟩:=abM m _ _ _ h
 simp only[List.append_nil,List.reverse_reverse]at h2
 exact HS hT hm ds h1 h2 h3
theorem HZ (hT:AQ P T) {f:FuncId}{args ay qN:List AV}{v:AV}{dst:Option Tmp}{drop:List Nat}{todo:List It}{st:St} (m:Nat) (hp:Aw P f ay (fun y=>y=v)) (hz:AV.aF (Heap.get ([]::st.fr::st.low)) args=some qN) (hn:A1 qN ay)
  (hr:AV.aO args=[]\/v.cW=true) (h:AJ P n Φ (run T m todo (st.gA dst drop v [] (st.fr::st.low)))):AJ P n Φ (.call f args dst drop todo st):=by
 have hk:=gO hT m todo _ h
 rcases hr with hr|hr
 ·exact HU (hp.nl hn) hz hr (by rintro y rfl;exact hk)
 ·exact HP (hp.nl hn) hz (by rintro y rfl;exact hr) (by rintro y rfl;exact hk)
theorem HX (hT:AQ P T) {f:FuncId}{args ay qN:List AV}{v:AV}{dst:Option Tmp}{drop:List Nat}{todo:List It}{st:St} (m:Nat) (hp:Aw P f ay (fun y=>y=v)) (hz:AV.cY (Heap.get ([]::st.fr::st.low)) (cT (Heap.get ([]::st.fr::st.low)) 5) args=some qN) (hn:A1 qN ay)
  (hr:v.cW=true) (h:AJ P n Φ (run T m todo (st.gA dst drop v [] (st.fr::st.low)))):AJ P n Φ (.call f args dst drop todo st):=by
 have hk:=gO hT m todo _ h
 exact DW (Aw.mL 5 (hp.nl hn) hz (by rintro y rfl;exact hr)) (by rintro v fr H ⟨rfl,rfl,rfl⟩;exact hk)
def kC (o:Option (List AV)) (ay:List AV):Prop:=match o with
 |some z=>A1 z ay
 |none=>False
theorem ars (z ay:List AV):kC (some z) ay=A1 z ay:=rfl
def yOK (o:Option AV) (v:AV):Prop:=match o with
 |some y=>NL y v
 |none=>False
theorem aq7 (y v:AV):yOK (some y) v=NL y v:=rfl
theorem Fb (hT:AQ P T) {f:FuncId}{args ay:List AV}{v:AV}{dst:Option Tmp}{drop:List Nat}{todo:List It}{st:St} (m:Nat) (rs:List Nat) (hp:Aw P f ay (fun y=>y=v)) (hz:kC (AV.cY (only (Heap.get ([]::st.fr::st.low)) (rs.map fun k=>(1,k))) (cT (only (Heap.get ([]::st.fr::st.low)) (rs.map fun k=>(1,k))) 5) args) ay)
  (h:AJ P n Φ (run T m todo (st.gA dst drop v [] (cC st.fr rs::st.low)))):AJ P n Φ (.call f args dst drop todo st):=by
 unfold kC at hz
 split at hz
 ·rename_i z ek
  have hk:=gO hT m todo _ h
  refine DW (Aw.take 5 _ (hp.nl hz) ek (by simp)) ?_
  rintro y fr H ⟨rfl,rfl,e⟩
  rw[adR]at e
  obtain rfl:=(List.cons.inj e).2
  exact hk
 ·exact hz.elim
theorem Aw.nlr {f:FuncId}{args:List AV}{v:AV} (h:Aw P f args (fun y=>NL y v)):Aw P f args (fun y=>y=v):=by
 refine⟨h.1,fun fm w vs h1 h2=>Calls.mono (h.2 fm w vs h1 h2) ?_⟩
 rintro e w' ⟨u,y,fm',h3,h4,h5,h6,h7⟩
 exact⟨u,v,fm',h3,rfl,h5,h4.ok h6,h7⟩
theorem AT {f:List It->St->Ev}{b:Bool}{t t':List It}{s s':St}{ρ:Type}{A B:Option ρ}{r:ρ} (h:(bif b then A else B)=some r) (h1:b=true->A=some r->AJ P n Φ (f t s)) (h2:b=false->B=some r->AJ P n Φ (f t' s')):AJ P n Φ (two f b t s t' s'):=by
 cases b with
 |true=>exact h1 rfl h
 |false=>exact h2 rfl h
theorem Fx {f:List Am->List (De×Rd)->St->Cy}{b:Bool}{os iS:List Am}{acc iD:List (De×Rd)}{st ao:St}{ρ:Type}{A B:Option ρ}{r:ρ} (h:(bif b then A else B)=some r) (h1:b=true->A=some r->DG P T C (f os acc st)) (h2:b=false->B=some r->DG P T C (f iS iD ao)):DG P T C (qD f b os acc st iS iD ao):=by
 cases b with
 |true=>exact h1 rfl h
 |false=>exact h2 rfl h
theorem Bf {S E R:Type}{body:S->Option (AU S E R)}{k:Nat}{s0:S}{r:AU S E R} (hk:aj body k s0=some r) (hd:S->St) (ex:E->St) {b:SC}{id:Nat}{todo:List It}{st:St} (hw:Ah n st (hd s0))
  (hb:∀ s x (Bk Br:St->Prop),body s=some x->(∀ s' ao,x=.next s'->Ah n ao (hd s')->Bk ao)->(∀ s' ao,x=.brk s'->Ah n ao (ex s')->Br ao)->(∀ v,x=.ret v->r=.ret v)->
   AK P n Φ (.sc b::.back Bk::.al id::.back Br::todo) (hd s))
  (hx:∀ s',r=.brk s'->AK P n Φ todo (ex s')):AJ P n Φ (.loop b (.al id::todo) st):=AK.aoG hk hd ex hw hb hx
theorem Iy (x:AV):NL x x=True:=eq_true (.refl x)
theorem Iz (x:List AV):A1 x x=True:=eq_true (.refl x)
theorem Gy (hT:AQ P T) {f:FuncId}{args ay:List AV}{v:AV}{dst:Option Tmp}{drop:List Nat}{todo:List It}{st:St} (m:Nat) (hp:Aw P f ay (fun y=>y=v)) (hz:kC (AV.aF (Heap.get ([]::st.fr::st.low)) args) ay)
  (hr:(AV.aO args).isEmpty || v.cW=true) (h:AJ P n Φ (run T m todo (st.gA dst drop v [] (st.fr::st.low)))):AJ P n Φ (.call f args dst drop todo st):=by
 unfold kC at hz
 split at hz
 ·rename_i z ek
  refine HZ hT m hp ek hz ?_ h
  simpa using hr
 ·exact hz.elim
theorem HQ (hT:AQ P T) {f:FuncId}{args ay:List AV}{v:AV}{dst:Option Tmp}{drop:List Nat}{todo:List It}{st:St} (m:Nat) (hp:Aw P f ay (fun y=>y=v)) (hz:kC (AV.cY (Heap.get ([]::st.fr::st.low)) (cT (Heap.get ([]::st.fr::st.low)) 5) args) ay)
  (hr:v.cW=true) (h:AJ P n Φ (run T m todo (st.gA dst drop v [] (st.fr::st.low)))):AJ P n Φ (.call f args dst drop todo st):=by
 unfold kC at hz
 split at hz
 ·rename_i z ek
  exact HX hT m hp ek hz hr h
 ·exact hz.elim
theorem GG {f:FuncId}{args ay:List AV}{v:AV}{o:Am}{os:List Am}{acc:List (De×Rd)}{st:St} (m:Nat) (hp:Aw P f ay (fun y=>y=v)) (hz:kC (AV.aF st.get args) ay)
  (hr:(AV.aO args).isEmpty || v.cW=true) (h:DG P T C (jt T m os ((⟨v,[]⟩,some (AV.aO args))::acc) (st.by o.dst [] ⟨v,[]⟩))):DG P T C (.call f args o os acc st):=by
 unfold kC at hz
 split at hz
 ·rename_i z ek
  refine H6 m hp ek hz ?_ h
  simpa using hr
 ·exact hz.elim
def wOK (o:Option St) (tm:List (Nat×AV)) (fr:Av) (low:Heap) (nx nt:Nat):Prop:=match o with
 |some s=>B9 s.tm tm/\BX s.fr fr/\s.low=low/\s.nx=nx/\s.nt=nt
 |none=>False
theorem aqX (s:St) (tm:List (Nat×AV)) (fr:Av) (low:Heap) (nx nt:Nat):wOK (some s) tm fr low nx nt=(B9 s.tm tm/\BX s.fr fr/\s.low=low/\s.nx=nx/\s.nt=nt):=rfl
theorem Ah.go {n:Nat}{st:St}{tm:List (Nat×AV)}{fr:Av}{low:Heap}{nx nt:Nat} (nw ks:List Nat) (bW:(decide ks.Nodup&&decide (ks.length<=nx))=true) (h:wOK (st.norm nw ks nx) tm fr low nx nt):Ah n st ⟨tm,fr,low,nx,nt⟩:=by
 unfold wOK at h
 split at h
 ·rename_i s hs
  simp only[A7,decide_eq_true_eq]at bW
  obtain⟨h1,h2,h3,h4,h5⟩:=h
  refine(Ah.norm hs bW.1 bW.2).trans ?_
  obtain⟨tm0,fr0,ar1,nx0,nt0⟩:=s
  simp only at h3 h4 h5
  subst h3 h4 h5
  exact Ah.nl h1 h2
 ·exact h.elim
theorem Ix (x:List (Nat×AV)):B9 x x=True:=eq_true (.refl x)
theorem Iw (x:Av):BX x x=True:=eq_true (.refl x)
theorem bind_some {α β:Type}{o:Option α}{f:α->Option β}{r:β} (h:o.bind f=some r):∃ x,o=some x/\f x=some r:=Option.bind_eq_some_iff.1 h
end
mutual
def AV.fz (k:Nat) (b:AG):AV->Option AV
 |.ptr 0 k' o=>if k'=k then (match b with|.box ys=>some (.aA ys.length [ys] 0 o)|_=>none) else some (.ptr 0 k' o)
 |.ptr (l+1) k' o=>some (.ptr (l+1) k' o)
 |.loc 0 k' e i n g=>if k'=k then (match b with|.arr _ esz es=>if esz=e/\es.length=g/\i+n<=g then some (.sl e ((es.drop i).take n)) else none|_=>none) else some (.loc 0 k' e i n g)
 |.loc (l+1) k' e i n g=>some (.loc (l+1) k' e i n g)
 |.bu 0 k' e i o g=>if k'=k then none else some (.bu 0 k' e i o g)
 |.bu (l+1) k' e i o g=>some (.bu (l+1) k' e i o g)
 |.bF 0 k' e o n=>if k'=k then none else some (.bF 0 k' e o n)
 |.bF (l+1) k' e o n=>some (.bF (l+1) k' e o n)
 |.fn f x y=>match AV.dA k b x,AV.dA k b y with
  |some x,some y=>some (.fn f x y)
  |_,_=>none
 |.bR t v=>(v.fz k b).map (.bR t)
 |.agg cs=>(AV.dA k b cs).map .agg
 |.ar vs=>(AV.dA k b vs).map .ar
 |.bool b=>some (.bool b)
 |.int k n=>some (.int k n)
 |.str s=>some (.str s)
 |.nil=>some .nil
 |.sl e es=>some (.sl e es)
 |.bG=>some .bG
 |.aA e es i o=>some (.aA e es i o)
 |.bP=>some .bP
 |.bS=>some .bS
 |.raw r_=>some (.raw r_)
 |.dead=>some .dead
def AV.dA (k:Nat) (b:AG):List AV->Option (List AV)
 |[]=>some []
 |x::l=>match x.fz k b,AV.dA k b l with
  |some x,some l=>some (x::l)
  |_,_=>none
end
theorem vn (k:Nat) (b:AG):∀ (cs ys:List AV),AV.dA k b cs=some ys->ys.length=cs.length/\∀ (i:Nat) (x:AV),cs[i]?=some x->∃ y,ys[i]?=some y/\x.fz k b=some y
 |[],ys,h=>by simp only[AV.dA,oE]at h;subst h;simp
 |x::l,ys,h=>by
  simp only[AV.dA]at h
  split at h
  ·rename_i a c ha hc
   obtain rfl:=oi h
   have ih:=vn k b l c hc
   refine⟨by simp[ih.1],?_⟩
   intro i z hz
   cases i with
   |zero=>simp only[BU,oE]at hz;subst hz;exact⟨a,by simp,ha⟩
   |succ i=>simp only[Ca]at hz ⊢;exact ih.2 i z hz
  ·cases h
theorem agX {k:Nat}{b:AG}{x y:AV} (h:x.fz k b=some y):y.flat=x.flat:=by
 cases x with
 |ptr l k' o=>
  cases l with
  |zero=>
   simp only[AV.fz]at h
   split at h
   ·split at h
    ·obtain rfl:=oi h;rfl
    ·cases h
   ·obtain rfl:=oi h;rfl
  |succ l=>simp only[AV.fz,oE]at h;subst h;rfl
 |loc l k' e i n g=>
  cases l with
  |zero=>
   simp only[AV.fz]at h
   split at h
   ·split at h
    ·split at h
     ·obtain rfl:=oi h;rfl
     ·cases h
    ·cases h
   ·obtain rfl:=oi h;rfl
  |succ l=>simp only[AV.fz,oE]at h;subst h;rfl
 |bu l k' e i o g=>
  cases l with
  |zero=>
   simp only[AV.fz]at h
   split at h
   ·cases h
   ·obtain rfl:=oi h;rfl
  |succ l=>simp only[AV.fz,oE]at h;subst h;rfl
 |bF l k' e o n=>
  cases l with
  |zero=>
   simp only[AV.fz]at h
   split at h
   ·cases h
   ·obtain rfl:=oi h;rfl
  |succ l=>simp only[AV.fz,oE]at h;subst h;rfl
 |fn f a c=>
  simp only[AV.fz]at h
  split at h
  ·obtain rfl:=oi h;rfl
  ·cases h
 |_=>
  first
  |(simp only[AV.fz,oE]at h;subst h;rfl)
  |(simp only[AV.fz,mS]at h;obtain⟨a,_,rfl⟩:=h;rfl)
section
variable [Md] {P:Program}{T:AM}{N0:Nat}{W0:World}{n:Nat}{fm:FM}{ts:List Ai}{H:Heap}{w:World}
noncomputable def jb (fm:FM) (w:World) (tg:Nat->Nat) (c:Option Nat):FM:=⟨fun b o=>if c=some b then w.cell? ⟨b,o,none⟩ else fm b o,fun b=>if c=some b then tg b else fm.t b⟩
theorem ac9 (h:HR N0 W0 fm ts H w) {k:Nat}{b0:AG} (hk:H.get 0 k=some b0):AZ fm (jb fm w (fJ ts H) (bz (tb ts 0 k))):=by
 refine⟨fun b o v hv=>?_,fun b o v hv=>?_⟩
 ·unfold jb
  simp only
  split
  ·exact h.bO b o v hv
  ·exact hv
 ·unfold jb
  simp only
  rw[if_neg]
  intro e
  rw[h.dk 0 k b0 b o hk e]at hv
  cases hv
theorem HR.fz (h:HR N0 W0 fm ts H w) {k:Nat}{b:AG} (hk:H.get 0 k=some b) (hz:∀ ys,b=.box ys->AV.aF (fun _ _=>none) ys=some ys) {ga:List Ai}{x:AV}{v:Value} (hv:VR fm ga x v):
  ga=ts->∀ {y:AV},x.fz k b=some y->VR (jb fm w (fJ ts H) (bz (tb ts 0 k))) ts y v:=by
 have hF:=ac9 h hk
 have bw:∀ c o u,bz (tb ts 0 k)=some c->w.cell? ⟨c,o,none⟩=some u->jb fm w (fJ ts H) (bz (tb ts 0 k)) c o=some u:=by
  intro c o u hc hu
  unfold jb;simp only;rw[if_pos hc];exact hu
 have oz:∀ c,bz (tb ts 0 k)=some c->(jb fm w (fJ ts H) (bz (tb ts 0 k))).t c=fJ ts H c:=by
  intro c hc
  unfold jb;simp only;rw[if_pos hc]
 generalize jb fm w (fJ ts H) (bz (tb ts 0 k))=fm' at hF bw oz
 induction hv with
 |bool b=>intro e y hy;simp only[AV.fz,oE]at hy;subst hy;exact .bool _
 |int k n=>intro e y hy;simp only[AV.fz,oE]at hy;subst hy;exact .int _ _
 |str s=>intro e y hy;simp only[AV.fz,oE]at hy;subst hy;exact .str _
 |nil=>intro e y hy;simp only[AV.fz,oE]at hy;subst hy;exact .nil
 |cg e a cap=>intro _ y hy;simp only[AV.fz,oE]at hy;subst hy;exact .cg _ _ _
 |sl es cb off esz cap u bV h1 h2 h3 h4 _=>intro _ y hy;simp only[AV.fz,oE]at hy;subst hy;exact(VR.sl es cb off esz cap u bV h1 h2 h3 h4 (ts:=ts)).mono hF (As.refl _)
 |@cI dN l k' esz i n g a cp ht hn ha=>
  rintro rfl y hy
  cases l with
  |zero=>
   simp only[AV.fz]at hy
   split at hy
   ·rename_i e;subst e
    have:=h.al 0 k' b hk
    rw[ht]at this
    cases this
   ·obtain rfl:=oi hy;exact .cI _ _ _ _ _ _ _ _ ht hn ha
  |succ l=>simp only[AV.fz,oE]at hy;subst hy;exact .cI _ _ _ _ _ _ _ _ ht hn ha
 |@cJ dN l k' esz i n g a cp m' c ht ae hn ha=>
  rintro rfl y hy
  cases l with
  |zero=>
   simp only[AV.fz]at hy
   split at hy
   ·rename_i e;subst e
    have hb:=h.al 0 k' b hk
    rw[ht]at hb
    split at hy
    ·split at hy
     ·rename_i hc
      cases hb with
      |nil et esz=>have:=hc.2.1;simp at this;omega
      |arr et esz es c cap hN h=>have:=hc.2.1;omega
     ·cases hy
    ·cases hy
   ·obtain rfl:=oi hy;exact .cJ _ _ _ _ _ _ _ _ _ _ ht ae hn ha
  |succ l=>simp only[AV.fz,oE]at hy;subst hy;exact .cJ _ _ _ _ _ _ _ _ _ _ ht ae hn ha
 |@cv dN l k' esz a ht=>
  rintro rfl y hy
  cases l with
  |zero=>
   simp only[AV.fz]at hy
   split at hy
   ·split at hy
    ·split at hy
     ·simp only[List.drop_zero,List.take_zero,oE]at hy;subst hy;exact .cg _ _ _
     ·cases hy
    ·cases hy
   ·obtain rfl:=oi hy;exact .cv _ _ _ _ ht
  |succ l=>simp only[AV.fz,oE]at hy;subst hy;exact .cv _ _ _ _ ht
 |@loc dN l k' esz i n g c cap cp a ht hn bI hc ha=>
  rintro rfl y hy
  cases l with
  |succ l=>simp only[AV.fz,oE]at hy;subst hy;exact .loc _ _ _ _ _ _ _ _ _ _ ht hn bI hc ha
  |zero=>
   simp only[AV.fz]at hy
   split at hy
   ·rename_i e;subst e
    have hb:=h.al 0 k' b hk
    split at hy
    ·rename_i et aN es
     split at hy
     ·rename_i hh
      obtain⟨he,hlen,bB⟩:=hh
      subst he
      simp only[oE]at hy;subst hy
      rw[ht]at hb
      cases hb with
      |arr et _ es c cap hN hA=>
       obtain⟨cells,c1,c2,c3,c4,c5,c6,c7⟩:=hA
       by_cases hn0:n=0
       ·subst hn0
        simp only[List.take_zero]
        exact .cg _ _ _
       ·have gp:=ha (.inl (by omega))
        subst gp
        have hl:((es.drop i).take n).length=n:=by simp;omega
        have key:∀ (j:Nat) (cc:List AV) (o:Nat) (x:AV),((es.drop i).take n)[j]?=some cc->cc[o]?=some x->∃ u,cells[(i+j)*aN+o]?=some u/\x.flat=true/\VR fm [] x u:=by
         intro j cc o x hj ho
         have pP:es[i+j]?=some cc:=by
          rw[BO]at hj
          split at hj
          ·rw[Ce]at hj;exact hj
          ·cases hj
         have ae:i+j<es.length:=(gS.1 pP).1
         have b9:cc.length=aN:=c5 cc (AW pP)
         have yR:o<aN:=by rw[<-b9];exact(gS.1 ho).1
         have aw:(i+j)*aN+o<cells.size:=by
          rw[c2]
          have:(i+j+1)*aN<=cap*aN:=BT _ (by omega)
          rw[Nat.add_mul]at this
          omega
         have yk:=Bu aw
         have:=c7 (i+j) cc o x _ pP ho yk
         exact⟨_,yk,this.1,this.2⟩
        have fV:=VR.sl (fm:=fm') (ts:=dN) ((es.drop i).take n) c (i*aN) aN cp (fun j o=>(cells[(i+j)*aN+o]?).getD default) (by rw[hl];exact⟨bI,by omega⟩)
         (fun cc b9=>c5 cc (Ci (BY b9)))
         (by
          intro j cc o x hj ho
          obtain⟨u,hu,_,_⟩:=key j cc o x hj ho
          refine⟨bw c _ _ (by rw[ht];rfl) ?_,.inr ((oz c (by rw[ht];rfl)).trans (h.aqy hk (by rw[ht];rfl)))⟩
          simp only[World.cell?,c1]
          have:i*aN+(j*aN+o)=(i+j)*aN+o:=by rw[Nat.add_mul];omega
          rw[this,hu]
          simp)
         (fun j cc o x hj ho=>(key j cc o x hj ho).elim fun u hu=>hu.2.1)
         (by
          intro j cc o x hj ho
          obtain⟨u,hu,_,hv⟩:=key j cc o x hj ho
          rw[hu]
          exact hv.mono hF (As.refl _))
        rw[hl]at fV
        exact fV
     ·cases hy
    ·cases hy
   ·obtain rfl:=oi hy;exact .loc _ _ _ _ _ _ _ _ _ _ ht hn bI hc ha
 |@bF dN l k' esz o n c cp a ht hn ha=>
  rintro rfl y hy
  cases l with
  |zero=>
   simp only[AV.fz]at hy
   split at hy
   ·cases hy
   ·obtain rfl:=oi hy;exact .bF _ _ _ _ _ _ _ _ ht hn ha
  |succ l=>simp only[AV.fz,oE]at hy;subst hy;exact .bF _ _ _ _ _ _ _ _ ht hn ha
 |bG=>intro e y hy;simp only[AV.fz,oE]at hy;subst hy;exact .bG
 |@ptr dN l k' o c ht=>
  rintro rfl y hy
  cases l with
  |succ l=>simp only[AV.fz,oE]at hy;subst hy;exact .ptr _ _ _ _ ht
  |zero=>
   simp only[AV.fz]at hy
   split at hy
   ·rename_i e;subst e
    have hb:=h.al 0 k' b hk
    split at hy
    ·rename_i ys
     obtain rfl:=oi hy
     rw[ht]at hb
     cases hb with
     |box c _ hN hB=>
      obtain⟨cells,et,c1,c2,c3⟩:=hB
      have hzz:=hz ys rfl
      have g:=Go.Abs.lE _ _ _ hzz
      have one:∀ (i:Nat) (cc:List AV) (o:Nat) (x:AV),[ys][i]?=some cc->cc[o]?=some x->i=0/\cc=ys/\∃ u,cells[o]?=some u/\x.flat=true/\VR fm [] x u:=by
       intro i cc o x hi ho
       cases i with
       |succ i=>simp at hi
       |zero=>
        simp only[BU,oE]at hi
        subst hi
        have ae:o<cells.size:=by rw[c2];exact(gS.1 ho).1
        have rm:=Bu ae
        have h3:=c3 o x _ ho rm
        obtain⟨y,hy1,hy2⟩:=g.2 o x ho
        rw[ho]at hy1
        obtain rfl:=oi hy1
        have h4:=h.ai (N0:=N0) [] (by simpa using h3.2) (adf H.get _ _ hy2) (by rw[adg _ _ hy2];simp)
        rw[abe]at h4
        exact⟨rfl,rfl,_,rm,h3.1,h4⟩
      have:=VR.aA (fm:=fm') (ts:=dN) [ys] 0 o c 0 ys.length (fun _ o=>(cells[o]?).getD default) (by intro cc b9;simp at b9;rw[b9])
       (by
        intro i cc o x hi ho
        obtain⟨rfl,rfl,u,hu,_,_⟩:=one i cc o x hi ho
        refine⟨bw c _ _ (by rw[ht];rfl) ?_,.inr (.inr ((oz c (by rw[ht];rfl)).trans (h.aeH hk (by rw[ht];rfl))))⟩
        simp only[World.cell?,c1,Nat.zero_mul,Cq,hu]
        simp)
       (fun i cc o x hi ho=>(one i cc o x hi ho).2.2.elim fun u hu=>hu.2.1)
       (by
        intro i cc o x hi ho
        obtain⟨rfl,rfl,u,hu,_,hv⟩:=one i cc o x hi ho
        rw[hu]
        exact hv.mono hF (As.refl _))
      simpa using this
    ·cases hy
   ·obtain rfl:=oi hy;exact .ptr _ _ _ _ ht
 |@eA dN l k' esz i o g a ht=>
  rintro rfl y hy
  cases l with
  |zero=>
   simp only[AV.fz]at hy
   split at hy
   ·cases hy
   ·obtain rfl:=oi hy;exact .eA _ _ _ _ _ _ _ ht
  |succ l=>simp only[AV.fz,oE]at hy;subst hy;exact .eA _ _ _ _ _ _ _ ht
 |@eC dN l k' esz i o g a m' c ht ae=>
  rintro rfl y hy
  cases l with
  |zero=>
   simp only[AV.fz]at hy
   split at hy
   ·cases hy
   ·obtain rfl:=oi hy;exact .eC _ _ _ _ _ _ _ _ _ ht ae
  |succ l=>simp only[AV.fz,oE]at hy;subst hy;exact .eC _ _ _ _ _ _ _ _ _ ht ae
 |@bu dN l k' esz i o g c cap ht=>
  rintro rfl y hy
  cases l with
  |zero=>
   simp only[AV.fz]at hy
   split at hy
   ·cases hy
   ·obtain rfl:=oi hy;exact .bu _ _ _ _ _ _ _ _ ht
  |succ l=>simp only[AV.fz,oE]at hy;subst hy;exact .bu _ _ _ _ _ _ _ _ ht
 |aA es i o cb off esz u h1 h2 h3 h4 _=>intro _ y hy;simp only[AV.fz,oE]at hy;subst hy;exact(VR.aA es i o cb off esz u h1 h2 h3 h4 (ts:=ts)).mono hF (As.refl _)
 |bP=>intro e y hy;simp only[AV.fz,oE]at hy;subst hy;exact .bP
 |fn f first cap vf vc h1 h2 _ _ im iq=>
  rintro rfl y hy
  simp only[AV.fz]at hy
  split at hy
  ·rename_i a c ha hc
   obtain rfl:=oi hy
   have g1:=vn k b _ _ ha
   have g2:=vn k b _ _ hc
   refine .fn f a c vf vc (by rw[g1.1];exact h1) (by rw[g2.1];exact h2) ?_ ?_
   ·intro i x v hx hv
    have hi:i<first.length:=by rw[<-g1.1];exact(gS.1 hx).1
    obtain⟨y,hy,hu⟩:=g1.2 i _ (gG hi)
    rw[hx]at hy;obtain rfl:=oi hy
    exact im i _ v (gG hi) hv rfl hu
   ·intro i x v hx hv
    have hi:i<cap.length:=by rw[<-g2.1];exact(gS.1 hx).1
    obtain⟨y,hy,hu⟩:=g2.2 i _ (gG hi)
    rw[hx]at hy;obtain rfl:=oi hy
    exact iq i _ v (gG hi) hv rfl hu
  ·cases hy
 |bS=>intro e y hy;simp only[AV.fz,oE]at hy;subst hy;exact .bS
 |raw r_ jl=>intro e y hy;simp only[AV.fz,oE]at hy;subst hy;exact .raw r_ jl
 |bR t x v _ ih=>
  rintro rfl y hy
  simp only[AV.fz,mS]at hy;obtain⟨z,ek,rfl⟩:=hy
  exact .bR t z v (ih rfl ek)
 |agg cs vs h1 h2 _ ih=>
  rintro rfl y hy
  simp only[AV.fz,mS]at hy;obtain⟨z,ek,rfl⟩:=hy
  have g:=vn k b _ _ ek
  refine .agg z vs (by rw[g.1];exact h1) ?_ ?_
  ·intro x hx
   obtain⟨i,hi⟩:=BC.1 hx
   have ae:i<cs.length:=by rw[<-g.1];exact(gS.1 hi).1
   obtain⟨y,hy,hu⟩:=g.2 i _ (gG ae)
   rw[hi]at hy;obtain rfl:=oi hy
   rw[agX hu]
   exact h2 _ (List.getElem_mem ae)
  ·intro i x v hx hv
   have ae:i<cs.length:=by rw[<-g.1];exact(gS.1 hx).1
   obtain⟨y,hy,hu⟩:=g.2 i _ (gG ae)
   rw[hx]at hy;obtain rfl:=oi hy
   exact ih i _ v (gG ae) hv rfl hu
 |ar xs vs h1 _ ih=>
  rintro rfl y hy
  simp only[AV.fz,mS]at hy;obtain⟨z,ek,rfl⟩:=hy
  have g:=vn k b _ _ ek
  refine .ar z vs (by rw[g.1];exact h1) ?_
  intro i x v hx hv
  have ae:i<xs.length:=by rw[<-g.1];exact(gS.1 hx).1
  obtain⟨y,hy,hu⟩:=g.2 i _ (gG ae)
  rw[hx]at hy;obtain rfl:=oi hy
  exact ih i _ v (gG ae) hv rfl hu
 |dead v=>intro e y hy;simp only[AV.fz,oE]at hy;subst hy;exact .dead v
def xR (k:Nat) (b:AG):List (Nat×AV)->List (Nat×AV)
 |[]=>[]
 |(t,x)::l=>(t,(x.fz k b).getD x)::xR k b l
def AG.fz (k:Nat) (b:AG):AG->AG
 |.arr et e es=>.arr et e es
 |.box cs=>.box ((AV.dA k b cs).getD cs)
def rh (k:Nat) (b:AG):Av->Av
 |[]=>[]
 |(j,x)::l=>if j=k then rh k b l else (j,AG.fz k b x)::rh k b l
theorem ahN (k:Nat) (b:AG):∀ (l:List (Nat×AV)) (t:Nat),look (xR k b l) t=(look l t).map fun x=>(x.fz k b).getD x
 |[],t=>rfl
 |(t0,x)::l,t=>by
  simp only[xR,look]
  split
  ·rfl
  ·exact ahN k b l t
theorem adU (k:Nat) (b:AG):∀ (l:Av) (j:Nat),look (rh k b l) j=if j=k then none else (look l j).map (AG.fz k b)
 |[],j=>by simp[rh,look]
 |(j0,x)::l,j=>by
  simp only[rh]
  by_cases h:j0=k
  ·rw[if_pos h,adU k b l j]
   by_cases hj:j=k
   ·simp[hj]
   ·have:¬ j0=j:=fun e=>hj (by rw[<-e,h])
    simp[hj,look,this]
  ·rw[if_neg h]
   simp only[look]
   by_cases hj:j0=j
   ·subst hj;simp[h]
   ·simp only[hj,if_false];exact adU k b l j
theorem HR.amU (h:HR N0 W0 fm ts H w) {k:Nat}{b:AG} (hk:H.get 0 k=some b) (hz:∀ ys,b=.box ys->AV.aF (fun _ _=>none) ys=some ys) {t:Option TB}{x:AG} (hx:BR fm ts w N0 t x):BR (jb fm w (fJ ts H) (bz (tb ts 0 k))) ts w N0 t (AG.fz k b x):=by
 have hF:=ac9 h hk
 cases hx with
 |nil et esz=>exact .nil et esz
 |arr et esz es c cap hN hA=>exact .arr et esz es c cap hN (hA.mono hF rfl)
 |box c cs hN hB=>
  obtain⟨cells,et,c1,c2,c3⟩:=hB
  simp only[AG.fz]
  cases hf:AV.dA k b cs with
  |none=>exact .box c _ hN ⟨cells,et,c1,c2,fun o x v a b=>⟨(c3 o x v a b).1,(c3 o x v a b).2.mono hF (As.refl _)⟩⟩
  |some ys=>
   have g:=vn k b _ _ hf
   refine .box c _ hN ⟨cells,et,c1,by rw[c2];exact g.1.symm,?_⟩
   intro o y v hy hv
   have ae:o<cs.length:=by rw[<-g.1];exact(gS.1 hy).1
   obtain⟨y',jJ,hu⟩:=g.2 o _ (gG ae)
   simp only[Option.getD_some]at hy
   rw[hy]at jJ;obtain rfl:=oi jJ
   have h3:=c3 o _ v (gG ae) hv
   exact⟨by rw[agX hu];exact h3.1,h.fz hk hz h3.2 rfl hu⟩
theorem Ah.fz {n:Nat}{tm:List (Nat×AV)}{fr:Av}{low:Heap}{nx nt:Nat} (k:Nat) {b:AG} (hk:look fr k=some b) (hz:∀ ys,b=.box ys->AV.aF (fun _ _=>none) ys=some ys):
  Ah n ⟨tm,fr,low,nx,nt⟩ ⟨xR k b tm,rh k b fr,low,nx,nt⟩:=by
 intro N0 W0 a w fm ts h
 have iP:Heap.get (fr::low) 0 k=some b:=by simpa [Heap.get] using hk
 have hF:=ac9 h.hr iP
 have eE:=h.hr.al 0 k b iP
 have src:∀ l j x,Heap.get (rh k b fr::low) l j=some x->∃ x0,Heap.get (fr::low) l j=some x0/\¬ (l=0/\j=k)/\(l=0->x=AG.fz k b x0)/\(l≠0->x=x0):=by
  intro l j x hx
  cases l with
  |zero=>
   simp only[Heap.get,adU]at hx
   split at hx
   ·cases hx
   ·rename_i hj
    simp only[mS]at hx
    obtain⟨x0,eH,rfl⟩:=hx
    exact⟨x0,eH,fun hh=>hj hh.2,fun _=>rfl,fun hh=>absurd rfl hh⟩
  |succ l=>exact⟨x,hx,fun hh=>absurd hh.1 (by omega),fun hh=>absurd hh (by omega),fun _=>rfl⟩
 refine⟨jb fm w (fJ ts (fr::low)) (bz (tb ts 0 k)),ts,⟨⟨by simpa using h.hr.len,?_,?_,?_,?_,h.hr.dh,h.hr.size,h.hr.cV,?_⟩,?_,h.nx,h.size,h.dZ⟩,⟨⟨hF,?_,?_,?_⟩,As.refl _,fun _ _ h=>h⟩⟩
 ·intro l j x hx
  obtain⟨x0,eH,bh,h1,h2⟩:=src l j x hx
  have hb:=h.hr.al l j x0 eH
  cases l with
  |zero=>
   rw[h1 rfl]
   exact h.hr.amU iP hz hb
  |succ l=>
   rw[h2 (by omega)]
   exact hb.mono hF (As.refl _) (fun _ _=>rfl)
 ·intro l j l' j' x x' c hx iQ
  obtain⟨x0,eH,_⟩:=src l j x hx
  obtain⟨x1,kQ,_⟩:=src l' j' x' iQ
  exact h.hr.inj l j l' j' x0 x1 c eH kQ
 ·intro c o v hv
  unfold jb at hv
  simp only at hv
  split at hv
  ·exact hv
  ·exact h.hr.bO c o v hv
 ·intro l j x c o hx hc
  obtain⟨x0,eH,bh,_⟩:=src l j x hx
  unfold jb
  simp only
  rw[if_neg]
  ·exact h.hr.dk l j x0 c o eH hc
  ·intro e
   exact bh (h.hr.inj l j 0 k x0 b c eH iP hc e)
 ·intro c o v hN hv ht
  unfold jb at hv ht
  simp only at hv ht
  split at hv
  ·rename_i e
   cases hq:tb ts 0 k with
   |none=>rw[hq]at e;simp[bz]at e
   |some y=>
    rw[hq]at eE e
    cases eE with
    |nil=>simp[bz]at e
    |box c' cs hN hB=>
     obtain⟨cells,et,h1,_⟩:=hB
     simp only[bz,oE]at e
     exact⟨cells,et,by rw[<-e];exact h1⟩
    |arr et esz es c' cap hN hA=>
     obtain⟨cells,h1,_⟩:=hA
     simp only[bz,oE]at e
     exact⟨cells,et,by rw[<-e];exact h1⟩
  ·rename_i e
   rw[if_neg e]at ht
   exact h.hr.ec c o v hN hv ht
 ·intro t x hx
  simp only[ahN,mS]at hx
  obtain⟨x0,eH,rfl⟩:=hx
  obtain⟨v,hv,bq⟩:=h.tm t x0 eH
  refine⟨v,hv,?_⟩
  cases hf:x0.fz k b with
  |none=>exact bq.mono hF (As.refl _)
  |some y=>exact h.hr.fz iP hz bq rfl hf
 ·intro c o hc
  unfold jb
  simp only
  rw[if_neg]
  intro e
  have:=(eE.lt e).2
  omega
 ·intro c hc
  unfold jb
  simp only
  rw[if_neg]
  intro e
  have:=(eE.lt e).2
  omega
 ·intro c o v hv
  unfold jb at hv ⊢
  simp only at hv ⊢
  split at hv
  ·rename_i e;right;rw[if_pos e];exact aiU _ _ _
  ·exact .inl hv
end
end Go.Abs
namespace Go.Abs
open Go Go.RowKit
abbrev ab (x:Int):Int:=IntKind.i64.wrap x
def eI (x:Int):List AV:=[.int .i64 x]
def eB (x:Bool):List AV:=[.bool x]
def af (x:Int):List AV:=[.int .u8 x]
def eS (x:ByteArray):List AV:=[.str x]
def eL {α:Type} (sz:Nat) (E:α->List AV) (l:List α):List AV:=[.sl sz (l.map E)]
structure A2 (α:Type) where
 x0:α
 x1:α
structure A3 (α:Type) where
 x0:α
 x1:α
 x2:α
structure A4 (α:Type) where
 x0:α
 x1:α
 x2:α
 x3:α
def A2.c {α:Type} (E:α->List AV) (a:A2 α):List AV:=E a.x0++E a.x1
def A3.c {α:Type} (E:α->List AV) (a:A3 α):List AV:=E a.x0++(E a.x1++E a.x2)
def A4.c {α:Type} (E:α->List AV) (a:A4 α):List AV:=E a.x0++(E a.x1++(E a.x2++E a.x3))
def at? {α:Type} (l:List α) (i:Int):Option α:=if 0<=i/\i<l.length then l[i.toNat]? else none
def dO {α:Type} (b:Nat) (l x:List α):Option (List α):=if room (l.length+x.length) b then some (l++x) else none
def cw {α:Type} (l:List α) (lo hi:Int):Option (List α):=if (0<=lo/\lo<=hi)/\hi<=l.length then some ((l.drop lo.toNat).take (hi.toNat - lo.toNat)) else none
def oJ (y:Int):Option Unit:=if y=0 then none else some ()
def mk? (n:Int) (b:Nat):Option Unit:=if (0<=n/\n<=n)/\n*b<=140737488355328/\n<4611686018427387904 then some () else none
section
variable {α:Type}
theorem afm {l:List α}{i:Int}{x:α} (h:at? l i=some x):0<=i/\i<l.length/\l[i.toNat]?=some x:=by
 unfold at? at h
 split at h
 ·rename_i hh;exact⟨hh.1,hh.2,h⟩
 ·cases h
theorem aC {l:List α}{i:Int}{x:α} (h:at? l i=some x):fY i l.length=some i.toNat:=by
 obtain⟨h1,h2,_⟩:=afm h
 simp[fY,h1,h2]
theorem aD {β:Type} (E:α->β) {l:List α}{i:Int}{x:α} (h:at? l i=some x):(l.map E)[i.toNat]?=some (E x):=by
 obtain⟨_,_,h3⟩:=afm h
 simp[h3]
theorem uF {b:Nat}{l x y:List α} (h:dO b l x=some y):room (l.length+x.length) b/\y=l++x:=by
 unfold dO at h
 split at h
 ·rename_i hh;exact⟨hh,(oi h).symm⟩
 ·cases h
theorem aef {y:Int}{u:Unit} (h:oJ y=some u):¬ y=0:=by
 unfold oJ at h
 split at h
 ·cases h
 ·assumption
theorem ab1 {l:List α}{lo hi:Int}{y:List α} (h:cw l lo hi=some y):(0<=lo/\lo<=hi/\hi<=l.length)/\y=(l.drop lo.toNat).take (hi.toNat - lo.toNat):=by
 unfold cw at h
 split at h
 ·rename_i hh;exact⟨⟨hh.1.1,hh.1.2,hh.2⟩,(oi h).symm⟩
 ·cases h
theorem alz {n:Nat}{lo hi:Int}{k k':IntKind} (h:0<=lo/\lo<=hi/\hi<=n):bounds n (some (.int k lo)) (some (.int k' hi))=some (lo.toNat,hi.toNat):=by
 have h1:0<=hi:=by omega
 have h2:lo<=max hi 0:=by omega
 simp[bounds,qS,qT,h1,h2,h.1,h.2.2]
theorem afB {n:Nat}{lo:Int}{k:IntKind} (h:0<=lo/\lo<=n/\(n:Int)<=n):bounds n (some (.int k lo)) none=some (lo.toNat,n):=by
 simp[bounds,qS,qT,h.1,h.2.1]
theorem afA {n:Nat}{hi:Int}{k':IntKind} (h:(0:Int)<=0/\0<=hi/\hi<=n):bounds n none (some (.int k' hi))=some (0,hi.toNat):=by
 simp[bounds,qS,qT,h.2.1,h.2.2]
theorem aly {n:Nat}:bounds n none none=some (0,n):=by simp[bounds,qS,qT]
def fH {α:Type} (b:Nat) (l:List α) (x:α):Option (List α):=dO b l [x]
theorem apH {b:Nat}{l y:List α}{x:α} (h:fH b l x=some y):room (l.length+1) b:=by
 have:=(uF h).1;simpa using this
theorem apG {β:Type} (E:α->β) {b:Nat}{l y:List α}{x:α} (h:fH b l x=some y):l.map E++[E x]=y.map E:=by
 rw[(uF h).2];simp
theorem aim {b:Nat}{l y:List α}{x:α} (h:fH b l x=some y):y.length=l.length+1:=by
 rw[(uF h).2];simp
theorem apI {β:Type} (E:α->β) {b:Nat}{l y:List α}{x:α} (h:fH b l x=some y):(y.map E).take (l.length+1)=y.map E:=by
 rw[CA];simp[aim h]
theorem akX {b:Nat}{l y x:List α} (h:dO b l x=some y):room (l.length+x.length) b:=(uF h).1
theorem akW {β:Type} (E:α->β) {b:Nat}{l y x:List α} (h:dO b l x=some y):l.map E++x.map E=y.map E:=by
 rw[(uF h).2];simp
theorem afi {b:Nat}{l y x:List α} (h:dO b l x=some y):y.length=l.length+x.length:=by
 rw[(uF h).2];simp
theorem akY {β:Type} (E:α->β) {b:Nat}{l y x:List α} (h:dO b l x=some y):(y.map E).take (l.length+x.length)=y.map E:=by
 rw[CA];simp[afi h]
def fp (n b:Nat):Option Unit:=if room n b then some () else none
theorem ma {n b:Nat}{u:Unit} (h:fp n b=some u):room n b:=by
 unfold fp at h
 split at h
 ·assumption
 ·cases h
def dL {α:Type} (l:List α) (i:Int) (x:α):Option (List α):=if 0<=i/\i<l.length then some (l.set i.toNat x) else none
theorem k9 {β:Type} (E:α->β) {l y:List α}{i:Int}{x:α} (h:dL l i x=some y):(l.map E).set i.toNat (E x)=y.map E:=by
 unfold dL at h
 split at h
 ·rw[<-oi h,List.map_set]
 ·cases h
theorem ko {l y:List α}{i:Int}{x:α} (h:dL l i x=some y):y.length=l.length:=by
 unfold dL at h
 split at h
 ·rw[<-oi h,C3]
 ·cases h
theorem la {β:Type} (E:α->β) {l y:List α}{i:Int}{x:α} (h:dL l i x=some y):(y.map E).take l.length=y.map E:=by
 rw[CA];simp[ko h]
theorem uk {l:List α}{lo hi:Int}{y:List α}{k k':IntKind} (h:cw l lo hi=some y):bounds l.length (some (.int k lo)) (some (.int k' hi))=some (lo.toNat,hi.toNat):=alz (ab1 h).1
theorem um {l:List α}{lo:Int}{y:List α}{k:IntKind} (h:cw l lo l.length=some y):bounds l.length (some (.int k lo)) none=some (lo.toNat,l.length):=afB (ab1 h).1
theorem aad {l:List α}{hi:Int}{y:List α}{k:IntKind} (h:cw l 0 hi=some y):bounds l.length none (some (.int k hi))=some (0,hi.toNat):=afA (ab1 h).1
theorem qz {β:Type} (E:α->β) {l:List α}{lo hi:Int}{y:List α} (h:cw l lo hi=some y):((l.map E).drop lo.toNat).take (hi.toNat - lo.toNat)=y.map E:=by
 rw[(ab1 h).2,List.map_take,List.map_drop]
theorem aae {β:Type} (E:α->β) {l:List α}{lo:Int}{y:List α} (h:cw l lo l.length=some y):((l.map E).drop lo.toNat).take (l.length - lo.toNat)=y.map E:=by
 have:=qz E h;simpa using this
theorem aeG {β:Type} (E:α->β) {l:List α}{hi:Int}{y:List α} (h:cw l 0 hi=some y):((l.map E).drop 0).take (hi.toNat - 0)=y.map E:=by
 have:=qz E h;simpa using this
def vX (n:Nat) (lo:Int):Option Unit:=if 0<=lo/\lo<=n then some () else none
theorem aoH {n:Nat}{lo:Int}{k:IntKind}{u:Unit} (e:vX n lo=some u):bounds n (some (.int k lo)) none=some (lo.toNat,n):=by
 unfold vX at e
 split at e
 ·rename_i h;exact afB ⟨h.1,h.2,Int.le_refl _⟩
 ·cases e
theorem aoI {n:Nat}{lo:Int}{u:Unit} (e:vX n lo=some u):lo.toNat+(n - lo.toNat)<=n:=by
 unfold vX at e
 split at e
 ·omega
 ·cases e
def nr (n:Nat) (hi:Int):Option Unit:=if 0<=hi/\hi<=n then some () else none
theorem ahp {n:Nat}{hi:Int}{k:IntKind}{u:Unit} (e:nr n hi=some u):bounds n none (some (.int k hi))=some (0,hi.toNat):=by
 unfold nr at e
 split at e
 ·rename_i h;exact afA ⟨Int.le_refl _,h.1,h.2⟩
 ·cases e
theorem ahq {n:Nat}{hi:Int}{u:Unit} (e:nr n hi=some u):hi.toNat<=n:=by
 unfold nr at e
 split at e
 ·omega
 ·cases e
theorem uX {β:Type} (E:α->β) (l:List α) (a m:Nat):((l.map E).drop a).take m=((l.drop a).take m).map E:=by
 rw[List.map_take,List.map_drop]
theorem sQ {β:Type} (E:α->β) (l:List α) (m:Nat):(l.map E).take m=(l.take m).map E:=by
 rw[List.map_take]
theorem ad1 {n:Int}{b:Nat}{u:Unit} (h:mk? n b=some u):(0<=n/\n<=n)/\n*b<=140737488355328/\n<4611686018427387904:=by
 unfold mk? at h
 split at h
 ·assumption
 ·cases h
theorem aqz {β:Type} (E:α->β) (l:List α):(l.map E).take l.length=l.map E:=by
 rw[CA (by simp)]
end
structure Co (cap:List AV):Prop where
 sh:∀ d,AV.dg d cap=cap
 ai:∀ G,AV.aF G cap=some cap
 br:∀ G F,AV.cY G F cap=some cap
 refs:AV.aO cap=[]
 imp:∀ k,AV.iu k cap=cap
 aQ:∀ ks,AV.dK ks cap=some cap
 un:∀ d,AV.gb d cap=some cap
theorem aeC (d:Nat):∀ a b:List AV,AV.dg d (a++b)=AV.dg d a++AV.dg d b
 |[],b=>rfl
 |x::a,b=>by simp only[Bq,AV.dg,aeC d a b]
section
variable {P:Program}{T:AM}{n:Nat}{Φ:Exit->St->Prop}
theorem Ag {rs:List ResultVar}{st:St}{v:AV} (h0:st.low=[]) (h1:yOK ((gN T st rs).bind (fun xs=>(bZ xs).ai st.get)) v):AJ P n (Dy T rs fun y=>NL y v) (.fin .ret st):=by
 unfold yOK at h1
 split at h1
 ·rename_i y hy
  obtain⟨xs,h3,h4⟩:=Option.bind_eq_some_iff.1 hy
  exact⟨h0,xs,y,h3,h4,h1⟩
 ·exact h1.elim
theorem AA {B:St->Prop}{st:St} (h:B st):AJ P n Φ (.back B st):=h
end
attribute [go_sem] jt doD aoV alG aqE aqD vH kW abH kf tY Int.reduceEq Int.reduceLT Int.reduceLE List.set_cons_zero List.set_cons_succ List.replicate_succ List.replicate_zero CS Nat.zero_lt_succ Bool.not_not xR rh AV.fz AV.dA AG.fz Option.getD_some Option.getD_none Nat.sub_zero wg uc lp xD kI xT nf n5 jQ kT kS AV.br AV.cY cT only List.contains_cons List.contains_nil BA decide_false Bool.or_true Bool.or_false Bool.and_true BN Bool.and_false Bool.false_and Prod.mk.injEq aly aqz aeC aqX ars aq7 Iy Iz Ix Iw List.isEmpty_nil List.isEmpty_cons Bool.true_or Bool.false_or eI eB af eS eL A2.c A3.c A4.c St.norm uh kZ AV.aQ AV.dK qx idx AG.aQ Cq Nat.add_zero aa6 List.reverse_cons List.reverse_nil Dd
section
variable [Md] {P:Program}{T:AM}{n:Nat}{Φ:Exit->St->Prop}
def fC (o:Option (List AV)) (f:Option Av) (dF:List AV) (fr0:Av):Prop:=o=some dF/\f=some fr0
theorem CD (hT:AQ P T) {f:FuncId}{args dF:List AV}{fr0:Av}{y:AV}{fr:Av}{dst:Option Tmp}{drop:List Nat}{todo:List It}{st:St} (m:Nat) (rs gs:List Nat) (hp:A6 P f dF fr0 (fun y' aU=>y'=y/\aU=fr))
  (hz:fC (kI gs (only (Heap.get ([]::st.fr::st.low)) (rs.map fun k=>(1,k))) (cT (only (Heap.get ([]::st.fr::st.low)) (rs.map fun k=>(1,k))) 5) args) (nf (cC st.fr rs) 0 gs) dF fr0) (bW:(decide gs.Nodup&&decide (gs.length<=16))=true)
  (h:AJ P n Φ (run T m todo (st.gA dst drop y fr (cC (cC st.fr rs) gs::st.low)))):AJ P n Φ (.call f args dst drop todo st):=by
 have hk:=gO hT m todo _ h
 refine DW (A6.used 5 rs gs hp hz.1 hz.2 bW) ?_
 rintro y' aU H' ⟨⟨rfl,rfl⟩,rfl⟩
 exact hk
theorem A6.own {f:FuncId}{args:List AV}{fr0:Av}{sz et:Nat}{ls:List (List AV)}
  (hp:A6 P f args fr0 (fun y fr=>∃ m g es,y=.loc 0 0 sz 0 m g/\fr=[(0,.arr et sz es)]/\es.length=g/\m<=g/\es.take m=ls)):
  A6 P f args fr0 (fun y fr=>y=.loc 0 0 sz 0 ls.length ls.length/\fr=[(0,.arr et sz ls)]):=by
 refine⟨hp.1,fun H N0 W0 fm t ts w vs hH ht hv=>Calls.mono (hp.2 H N0 W0 fm t ts w vs hH ht hv) ?_⟩
 rintro e w' ⟨v,y,aU,fm',t',ts',rfl,⟨m,g,es,rfl,rfl,hg,hm,rr⟩,bY,bq,bp,lM,bx,jc⟩
 have hlen:ls.length=m:=by rw[<-rr,Bb];omega
 have hb:=bY.al 0 0 _ (show Heap.get ([(0,AG.arr et sz es)]::H) 0 0=some (.arr et sz es) by rfl)
 obtain⟨x,kQ,hx2,hx3⟩:∃ x:TB,BR fm' [] w' N0 (some x) (.arr et sz ls)/\bz (some x)=bz (tb (t'::ts') 0 0)/\∀ dN:List Ai,tb dN 0 0=some x->VR fm' dN (.loc 0 0 sz 0 ls.length ls.length) v:=by
  generalize jI:tb (t'::ts') 0 0=tt at hb
  cases hb with
  |nil=>
   simp at rr
   subst rr
   refine⟨.arr 0 none,.nil _ _,rfl,?_⟩
   intro dN h1
   cases bq with
   |cI _ _ _ _ _ _ a cp h hn ha=>rw[jI]at h;cases h
   |cJ _ _ _ _ _ _ a cp m' c h ae hn ha=>rw[jI]at h;cases h;simp at ae
   |cv _ _ _ a h=>exact .cv _ _ _ _ h1
   |loc _ _ _ _ _ _ c cap cp a h bB bI b9 ha=>rw[jI]at h;cases h
  |arr _ _ _ c cap hN hA=>
   obtain⟨cells,c1,c2,c3,c4,c5,c6,c7⟩:=hA
   refine⟨.arr ls.length (some (c,cap)),.arr et sz ls c cap hN ⟨cells,c1,c2,by omega,c4,?_,c6,?_⟩,rfl,?_⟩
   ·rw[<-rr];exact fun d hd=>c5 d (BY hd)
   ·intro i cc o x v hi ho hc
    rw[<-rr,BO]at hi
    split at hi
    ·exact c7 i cc o x v hi ho hc
    ·cases hi
   ·intro dN h1
    cases bq with
    |cI _ _ _ _ _ _ a cp h hn ha=>rw[jI]at h;cases h
    |cJ _ _ _ _ _ _ a cp m' c h ae hn ha=>
     rw[jI]at h
     simp only[oE,TB.arr.injEq]at h
     omega
    |cv _ _ _ a h=>rw[jI]at h;simp at h
    |loc _ _ _ _ _ _ c' uQ cp a h bB bI b9 ha=>
     rw[jI]at h
     simp only[oE,TB.arr.injEq,Prod.mk.injEq]at h
     obtain⟨_,rfl,rfl⟩:=h
     rw[hlen]at h1 ⊢
     exact .loc _ _ _ _ _ _ c cap cp a h1 (by omega) bI b9 ha
 have src:∀ l k b,Heap.get ([(0,AG.arr et sz ls)]::H) l k=some b->(l=0/\k=0/\b=.arr et sz ls)\/(l≠0/\Heap.get ([(0,AG.arr et sz es)]::H) l k=some b):=by
  intro l k b hg
  cases l with
  |zero=>
   simp only[Heap.get,look]at hg
   split at hg
   ·rename_i e;exact .inl ⟨rfl,e.symm,(oi hg).symm⟩
   ·cases hg
  |succ l=>exact .inr ⟨by omega,by simpa [Heap.get] using hg⟩
 have ah4:Heap.get ([(0,AG.arr et sz es)]::H) 0 0=some (.arr et sz es):=rfl
 have hT:tb ((fun k=>if k=0 then some x else none)::ts') 0 0=some x:=rfl
 refine⟨v,_,_,fm',fun k=>if k=0 then some x else none,ts',rfl,⟨rfl,rfl⟩,⟨by have:=bY.len;simpa using this,?_,?_,bY.bO,?_,bY.dh,bY.size,bY.cV,bY.ec⟩,hx3 _ hT,bp,lM,bx,fun k hk=>by show (if k=0 then some x else none)=none;rw[if_neg (by omega)]⟩
 ·intro l k b hg
  rcases src l k b hg with ⟨rfl,rfl,rfl⟩|⟨hl,bo⟩
  ·rw[hT]
   exact kQ.mono (AZ.refl _) (As.nil _) (fun _ _=>rfl)
  ·obtain⟨l,rfl⟩:∃ q,l=q+1:=⟨l - 1,by omega⟩
   have:=bY.al (l+1) k b bo
   simpa [tb] using this
 ·intro l1 k1 l2 k2 b1 b2 c g1 g2 t1 t2
  have conv:∀ l k b c,Heap.get ([(0,AG.arr et sz ls)]::H) l k=some b->bz (tb ((fun k=>if k=0 then some x else none)::ts') l k)=some c->∃ b',Heap.get ([(0,AG.arr et sz es)]::H) l k=some b'/\bz (tb (t'::ts') l k)=some c:=by
   intro l k b c g t
   rcases src l k b g with ⟨rfl,rfl,rfl⟩|⟨hl,bo⟩
   ·rw[hT,hx2]at t;exact⟨_,ah4,t⟩
   ·obtain⟨l,rfl⟩:∃ q,l=q+1:=⟨l - 1,by omega⟩
    exact⟨b,bo,by simpa [tb] using t⟩
  obtain⟨b1',g1',t1'⟩:=conv l1 k1 b1 c g1 t1
  obtain⟨b2',g2',t2'⟩:=conv l2 k2 b2 c g2 t2
  exact bY.inj l1 k1 l2 k2 b1' b2' c g1' g2' t1' t2'
 ·intro l k b c o g t
  rcases src l k b g with ⟨rfl,rfl,rfl⟩|⟨hl,bo⟩
  ·rw[hT,hx2]at t;exact bY.dk 0 0 _ c o ah4 t
  ·obtain⟨l,rfl⟩:∃ q,l=q+1:=⟨l - 1,by omega⟩
   exact bY.dk (l+1) k b c o bo (by simpa [tb] using t)
def mO (fr:Av) (sz et:Nat) (ls:List (List AV)):Option AV->Prop
 |some (.loc 0 k sz' 0 m g)=>sz'=sz/\(match look fr k with
  |some (.arr jz ab2 es)=>jz=et/\ab2=sz/\es.length=g/\m<=g/\es.take m=ls
  |_=>False)
 |_=>False
theorem C7 {rs:List ResultVar}{H:Heap}{st:St}{sz et:Nat}{ls:List (List AV)} (h0:st.low=H) (h1:mO st.fr sz et ls ((gN T st rs).map bZ)):
  AJ P n (Fz T rs H (fun y fr=>∃ m g es,y=.loc 0 0 sz 0 m g/\fr=[(0,.arr et sz es)]/\es.length=g/\m<=g/\es.take m=ls)) (.fin .ret st):=by
 unfold mO at h1
 split at h1
 ·rename_i k sz' m g hr
  rw[mS]at hr
  obtain⟨xs,h2,h3⟩:=hr
  obtain⟨rfl,h4⟩:=h1
  split at h4
  ·rename_i jz ab2 es hk
   obtain⟨rfl,rfl,h5,h6,h7⟩:=h4
   refine⟨xs,h2,?_⟩
   rw[h3]
   exact .own [k] (.loc 0 0 ab2 0 m g) [(0,.arr jz ab2 es)] (by simp) (by simp) (by simp[AV.aQ,qx,idx]) (by simp[kZ,hk,AG.aQ]) ⟨h0,m,g,es,rfl,rfl,h5,h6,h7⟩
  ·exact h4.elim
 ·exact h1.elim
end
attribute [go_sem] Ck
section
variable [Md] {P:Program}{T:AM}{n:Nat}{Φ:Exit->St->Prop}
end
variable [Md]
theorem A6.ao4 {P:Program}{f:FuncId}{args:List AV}{R:AV->Prop} (hp:Aw P f args R) (hz:AV.aF (fun _ _=>none) args=some args):A6 P f args [] (fun y fr=>R y/\fr=[]):=by
 refine⟨hp.1,fun H N0 W0 fm t ts w vs hH ht hv=>?_⟩
 refine Calls.mono (hp.2 fm w vs hH.bO (hH.pe hv hz)) ?_
 rintro e w' ⟨v,y,fm',rfl,hR,bB,bq,bp,hb⟩
 exact⟨v,y,[],fm',t,ts,rfl,⟨hR,rfl⟩,hH.up hb bp bB,bq.mono (AZ.refl _) (As.nil _),bp.low hH.size,As.refl _,fun _ _ h=>h,ht⟩
def adm (o:Option AV) (f:Option Av) (y:AV) (fr:Av):Prop:=o=some y/\f=some fr
theorem GA {P:Program}{T:AM}{n:Nat}{rs:List ResultVar}{H:Heap}{st:St}{e:Exit}{y:AV}{fr:Av} (ks:List Nat) (he:e=.ret\/e=.normal) (h0:st.low=H) (hn:(decide ks.Nodup&&decide (ks.length<=16))=true)
  (h1:adm ((gN T st rs).bind fun xs=>(bZ xs).aQ ks) (kZ ks st.fr 0 ks) y fr):AJ P n (Fz T rs H (fun y' aU=>y'=y/\aU=fr)) (.fin e st):=by
 obtain⟨h1,h2⟩:=h1
 obtain⟨xs,h3,h4⟩:=Option.bind_eq_some_iff.1 h1
 simp only[A7,decide_eq_true_eq]at hn
 have:∃ xs,gN T st rs=some xs/\D4 (fun y' aU H'=>H'=H/\y'=y/\aU=fr) (bZ xs) st:=
  ⟨xs,h3,.own ks y fr hn.1 hn.2 h4 h2 ⟨h0,rfl,rfl⟩⟩
 rcases he with rfl|rfl<;>exact this
theorem HV {P:Program}{n:Nat}{Φ:Exit->St->Prop}{f:FuncId}{args dF:List AV}{fr0:Av}{y:AV}{fr:Av}{dst:Option Tmp}{drop:List Nat}{todo:List It}{st:St} (rs gs:List Nat) (hp:A6 P f dF fr0 (fun y' aU=>y'=y/\aU=fr))
  (hz:fC (kI gs (only (Heap.get ([]::st.fr::st.low)) (rs.map fun k=>(1,k))) (cT (only (Heap.get ([]::st.fr::st.low)) (rs.map fun k=>(1,k))) 5) args) (nf (cC st.fr rs) 0 gs) dF fr0) (bW:(decide gs.Nodup&&decide (gs.length<=16))=true)
  (h:AK P n Φ todo (st.gA dst drop y fr (cC (cC st.fr rs) gs::st.low))):AJ P n Φ (.call f args dst drop todo st):=by
 refine DW (A6.used 5 rs gs hp hz.1 hz.2 bW) ?_
 rintro y' aU H' ⟨⟨rfl,rfl⟩,rfl⟩
 exact h
end Go.Abs
namespace Go.Abs
attribute [go_sem] List.all_nil List.all_cons List.map_replicate
end Go.Abs
namespace Go.Abs
open Go Go.RowKit
def Reads (B:Nat) (P:Program) (t:TypeId) {α:Type} (E:α->List AV) (Q:α->Prop):Prop:=
 ∀ (w:World) (H:Type) (enc:TypeId×Value->H) (fuel:Nat) (cs:List Value) (x:DataW H×List MemPlace),
  DataW.trod enc P w 0 (fun _=>true) true fuel t cs=some x->(∀ n∈x.1.weights P t,n<=B)->∃ a,Q a/\Au (nX w) [] (E a) cs/\(∀ y∈E a,y.flat=true)
def kR (n:Int):Prop:=-9223372036854775808<=n/\n<=9223372036854775807
section
variable {B:Nat}{P:Program}{t:TypeId}
theorem Au.one {fm:FM}{ts:List Ai}{x:AV}{v:Value} (h:VR fm ts x v):Au fm ts [x] [v]:=by
 refine⟨rfl,?_⟩
 intro i a b h1 h2
 cases i with
 |zero=>cases h1;cases h2;exact h
 |succ i=>simp at h1
theorem Reads.int (ht:P.underlying t=some (.int .i64)):Reads B P t eI kR:=by
 intro w H enc fuel cs x h aw
 cases fuel with
 |zero=>simp[DataW.trod]at h
 |succ n=>
  rw[DataW.trod_step]at h
  unfold DataW.trodStep at h
  rw[ht]at h
  split at h
  case h_2 k k' m e=>
   cases e
   split at h
   ·rename_i hk
    obtain⟨rfl,hw⟩:=hk
    refine⟨m,?_,Au.one (.int _ _),by simp[eI,AV.flat]⟩
    simpa [Lit.wf,IntKind.min,IntKind.max,IntKind.signed,IntKind.bits,kR] using hw
   ·cases h
  all_goals first|(cases h;done)|(rename_i e;cases e;done)
theorem Reads.bool (ht:P.underlying t=some .bool):Reads B P t eB (fun _=>True):=by
 intro w H enc fuel cs x h aw
 cases fuel with
 |zero=>simp[DataW.trod]at h
 |succ n=>
  rw[DataW.trod_step]at h
  unfold DataW.trodStep at h
  rw[ht]at h
  split at h
  case h_1 b e=>exact⟨b,trivial,Au.one (.bool _),by simp[eB,AV.flat]⟩
  all_goals first|(cases h;done)|(rename_i e;cases e;done)
theorem acI {w:World}{a:Addr}{n:Nat}{cs:List Value} (h:w.cells? 0 a n=some cs):cs.length=n/\∀ o,o<n->∃ v,cs[o]?=some v/\w.cell? (a.add o)=some v:=by
 unfold World.cells? at h
 rw[if_pos (Nat.zero_le _)]at h
 have hl:cs.length=n:=by simpa using mapM_some_length h
 refine⟨hl,fun o ho=>?_⟩
 have hg:=mapM_some_get h o o (by simp[ho])
 have:o<cs.length:=by omega
 rw[gG this]at hg ⊢
 exact⟨_,rfl,hg⟩
theorem ajp {H:Type}{e:TypeId}:∀ {ds:List (DataW H)}{d:DataW H},d∈ds->∀ n∈d.weights P e,n∈DataW.weightsAll P e ds
 |d0::ds,d,h,n,hn=>by
  simp only[DataW.weightsAll,A9]
  rcases BD.1 h with rfl|h
  ·exact .inl hn
  ·exact .inr (ajp h n hn)
theorem Reads.slice {α:Type}{e:TypeId}{sz bt:Nat}{E:α->List AV}{Q:α->Prop} (ht:P.underlying t=some (.slice e)) (hs:P.cellsOf e=sz) (hbt:P.bytesOf e=bt) (h0:0<sz) (he:Reads B P e E Q):
  Reads B P t (eL sz E) (fun l=>l.length<=Go.maxLen/\l.length*bt<=B/\∀ a∈l,Q a):=by
 intro w H enc fuel cs x h aw
 cases fuel with
 |zero=>simp[DataW.trod]at h
 |succ n=>
  rw[DataW.trod_step]at h
  unfold DataW.trodStep at h
  rw[ht]at h
  split at h
  case h_7 e2 hq=>exact⟨[],⟨by simp,by simp,by simp⟩,Au.one (.cg _ _ _),by simp[eL,AV.flat]⟩
  case h_8 e2 a len cap hq2=>
   cases hq2
   simp only at h
   split at h
   ·rename_i hc
    simp only[mS,Option.bind_eq_some_iff]at h
    obtain⟨elems,fR,rest,_,rfl⟩:=h
    simp only[DataW.weights,ht]at aw
    have hlen:elems.length=len:=by simpa using mapM_some_length fR
    have each:∀ i,i<len->∃ b:α,Q b/\∃ cs',w.cells? 0 (a.add (i*P.cellsOf e)) (P.cellsOf e)=some cs'/\Au (nX w) [] (E b) cs'/\∀ y∈E b,y.flat=true:=by
     intro i hi
     have hg:=mapM_some_get fR i i (by simp[hi])
     have ae:i<elems.length:=by omega
     rw[gG ae,Option.bind_eq_some_iff]at hg
     obtain⟨cs',h1,h2⟩:=hg
     obtain⟨b,hq,hv,hf⟩:=he w H enc n cs' _ h2 (fun m hm=>aw m (by
      simp only[BD,A9]
      exact .inr (.inl (ajp (List.mem_map.2 ⟨elems[i],List.getElem_mem ae,rfl⟩) m hm))))
     exact⟨b,hq,cs',h1,hv,hf⟩
    have all:∀ m,m<=len->∃ l:List α,l.length=m/\∀ i (hi:i<l.length),Q l[i]/\∃ cs',w.cells? 0 (a.add (i*P.cellsOf e)) (P.cellsOf e)=some cs'/\Au (nX w) [] (E l[i]) cs'/\∀ y∈E l[i],y.flat=true:=by
     intro m
     induction m with
     |zero=>exact fun _=>⟨[],rfl,fun i hi=>by simp at hi⟩
     |succ m ih=>
      intro hm
      obtain⟨l,hl,h1⟩:=ih (by omega)
      obtain⟨b,hb⟩:=each m (by omega)
      refine⟨l++[b],by simp[hl],fun i hi=>?_⟩
      by_cases him:i<l.length
      ·rw[List.getElem_append_left him];exact h1 i him
      ·have:i=m:=by simp at hi;omega
       subst this
       have bQ:(l++[b])[i]=b:=by
        rw[List.getElem_append_right (by omega)];simp[hl]
       rw[bQ]
       exact⟨hb.1,hb.2⟩
    obtain⟨l,hl,iO⟩:=all len (Bd _)
    have hby:l.length*bt<=B:=by
     have h1:=aw _ (List.mem_cons_self ..)
     simp only[Bg]at h1
     rw[hbt]at h1
     have h2:l.length*bt<=(elems.length+rest.length)*bt:=BT _ (by omega)
     omega
    refine⟨l,⟨by rw[hl];omega,hby,?_⟩,?_,by simp[eL,AV.flat]⟩
    ·intro b hb
     obtain⟨i,hi,rfl⟩:=List.getElem_of_mem hb
     exact(iO i hi).1
    ·by_cases hz:len=0
     ·subst hz
      have:l=[]:=List.eq_nil_of_length_eq_zero hl
      subst this
      exact Au.one (.cg _ _ _)
     ·
      have ov:a.spot=none:=by
       obtain⟨_,cs',h1,_,_⟩:=iO 0 (by omega)
       obtain⟨_,h3⟩:=acI h1
       obtain⟨v,_,h4⟩:=h3 0 (by omega)
       simp only[Nat.zero_mul,Addr.add,if_true]at h4
       unfold World.cell? at h4
       split at h4
       ·split at h4
        ·cases h4
        ·rename_i hh;simpa using hh
       ·cases h4
      have jD:∀ k,a.add k=⟨a.block,a.off+k,none⟩:=by
       intro k
       unfold Addr.add
       split
       ·rename_i h;subst h;obtain⟨b,o,s⟩:=a;simp only at ov;subst ov;rfl
       ·rfl
      have bw:∀ i (hi:i<l.length) o x,(E l[i])[o]?=some x->∃ v,w.cell? ⟨a.block,a.off+(i*sz+o),none⟩=some v/\VR (nX w) [] x v/\x.flat=true:=by
       intro i hi o y hy
       obtain⟨_,cs',h1,h2,h3⟩:=iO i hi
       obtain⟨h4,h5⟩:=acI h1
       have ho:o<P.cellsOf e:=by
        rw[<-h4,<-h2.1];exact(gS.1 hy).1
       obtain⟨v,h6,h7⟩:=h5 o ho
       refine⟨v,?_,h2.2 o y v hy h6,h3 y (AW hy)⟩
       rw[jD]at h7
       have:Addr.add ⟨a.block,a.off+i*P.cellsOf e,none⟩ o=⟨a.block,a.off+(i*sz+o),none⟩:=by
        unfold Addr.add
        split
        ·rename_i h;subst h;rw[hs];rfl
        ·simp only[Addr.mk.injEq,true_and,and_true];rw[hs];omega
       rwa [this]at h7
      have ha:a=⟨a.block,a.off,none⟩:=by obtain⟨b,o,s⟩:=a;simp only at ov;subst ov;rfl
      have anC:(l.map E).length=len:=by simp[hl]
      have key:VR (nX w) [] (.sl sz (l.map E)) (.slice (some ⟨a.block,a.off,none⟩) (l.map E).length cap):=by
       refine .sl (l.map E) a.block a.off sz cap (fun i o=>(w.cell? ⟨a.block,a.off+(i*sz+o),none⟩).getD default) ⟨by omega,by omega⟩ ?_ ?_ ?_ ?_
       ·intro c hc
        simp only[List.mem_map]at hc
        obtain⟨b,hb,rfl⟩:=hc
        obtain⟨i,hi,rfl⟩:=List.getElem_of_mem hb
        obtain⟨_,cs',h1,h2,_⟩:=iO i hi
        rw[h2.1,(acI h1).1,hs]
       all_goals
        intro i c o y h1 h2
        simp only[Bw,mS]at h1
        obtain⟨b,h3,rfl⟩:=h1
        obtain⟨hi,rfl⟩:=gS.1 h3
        obtain⟨v,h4,h5,h6⟩:=bw i hi o y h2
       ·refine⟨?_,.inl rfl⟩
        show w.cell? _=_
        rw[h4];rfl
       ·exact h6
       ·simp only[h4,Option.getD_some];exact h5
      rw[anC,<-ha]at key
      exact Au.one key
   ·cases h
  all_goals first|(cases h;done)|(rename_i e;cases e;done)
def BS (B:Nat) (P:Program) (l:List (Nat×TypeId)) (off tot:Nat) {α:Type} (E:α->List AV) (Q:α->Prop):Prop:=
 ∀ (w:World) (H:Type) (enc:TypeId×Value->H) (fuel:Nat) (cs:List Value) (xs:List (DataW H×List MemPlace)),cs.length=tot->
  l.mapM (fun f=>DataW.trod enc P w 0 (fun _=>true) true fuel f.2 ((cs.drop f.1).take (P.cellsOf f.2)))=some xs->(∀ n∈DataW.weightsEach P (l.map (·.2)) (xs.map (·.1)),n<=B)->∃ a,Q a/\Au (nX w) [] (E a) (cs.drop off)/\(∀ y∈E a,y.flat=true)
theorem BS.nil {off tot:Nat} (h:tot<=off):BS B P [] off tot (fun _:Unit=>[]) (fun _=>True):=by
 intro w H enc fuel cs xs hl _ _
 refine⟨(),trivial,⟨?_,?_⟩,by simp⟩
 ·simp;omega
 ·intro i x v h1;simp at h1
theorem BS.cons {α β:Type}{f:Nat×TypeId}{l:List (Nat×TypeId)}{off sz off' tot:Nat}{E:α->List AV}{Q:α->Prop}{E':β->List AV}{Q':β->Prop} (ho:f.1=off) (hs:P.cellsOf f.2=sz) (om:off+sz=off') (hr:Reads B P f.2 E Q) (hl:BS B P l off' tot E' Q'):
  BS B P (f::l) off tot (fun p:α×β=>E p.1++E' p.2) (fun p=>Q p.1/\Q' p.2):=by
 intro w H enc fuel cs xs hc h aw
 rw[List.mapM_cons]at h
 simp only[Option.pure_def,Option.bind_eq_bind,Option.bind_eq_some_iff]at h
 obtain⟨x,h1,ys,h2,hx⟩:=h
 obtain rfl:=oi hx
 simp only[List.map_cons,DataW.weightsEach,A9]at aw
 obtain⟨a,q1,v1,f1⟩:=hr w H enc fuel _ _ h1 (fun n hn=>aw n (.inl hn))
 obtain⟨b,q2,v2,f2⟩:=hl w H enc fuel cs ys hc h2 (fun n hn=>aw n (.inr hn))
 refine⟨(a,b),⟨q1,q2⟩,?_,?_⟩
 ·have:cs.drop off=(cs.drop f.1).take (P.cellsOf f.2)++cs.drop off':=by
   rw[ho,hs,<-om,<-List.drop_drop,CZ]
  rw[this]
  exact v1.append v2
 ·intro y hy
  rcases A9.1 hy with hy|hy
  ·exact f1 y hy
  ·exact f2 y hy
theorem adX {α β γ:Type} (g:α->β) (f:β->Option γ):∀ l:List α,(l.map g).mapM f=l.mapM (fun x=>f (g x))
 |[]=>rfl
 |x::l=>by rw[List.map_cons,List.mapM_cons,List.mapM_cons,adX g f l]
theorem Reads.struct {α:Type}{fs:Array Field}{E:α->List AV}{Q:α->Prop}{tot:Nat} (ht:P.underlying t=some (.struct fs)) (hs:P.cellsOf t=tot) (hr:BS B P (fs.toList.map fun f=>(f.offset,f.type)) 0 tot E Q):Reads B P t E Q:=by
 intro w H enc fuel cs x h aw
 cases fuel with
 |zero=>simp[DataW.trod]at h
 |succ n=>
  rw[DataW.trod_step]at h
  unfold DataW.trodStep at h
  rw[ht]at h
  split at h
  case h_9 c0 x0 c1 fs2 hq=>
   cases hq
   split at h
   ·rename_i hl
    simp only[mS]at h
    obtain⟨xs,h1,rfl⟩:=h
    have:=hr w H enc n c0 xs (by omega) (by rw[adX];exact h1) (fun m hm=>aw m (by simp only[DataW.weights,ht];simpa [List.map_map,Function.comp_def] using hm))
    simpa using this
   ·cases h
  all_goals first|(cases h;done)|(rename_i e;cases e;done)|(simp_all;done)
theorem ajq {H:Type}{e:TypeId}{m:Nat}:∀ (l:List Nat) (ds:List (DataW H)),m∈DataW.weightsEach P (l.map fun _=>e) ds->m∈DataW.weightsAll P e ds
 |[],_,h=>by simp[DataW.weightsEach]at h
 |_::_,[],h=>by simp[DataW.weightsEach]at h
 |_::l,d::ds,h=>by
  simp only[List.map_cons,DataW.weightsEach,A9]at h
  simp only[DataW.weightsAll,A9]
  rcases h with h|h
  ·exact .inl h
  ·exact .inr (ajq l ds h)
theorem Reads.array {α:Type}{m:Nat}{e:TypeId}{E:α->List AV}{Q:α->Prop}{tot:Nat} (ht:P.underlying t=some (.array m e)) (hs:P.cellsOf t=tot) (hr:BS B P ((List.range m).map fun i=>(i*P.cellsOf e,e)) 0 tot E Q):Reads B P t E Q:=by
 intro w H enc fuel cs x h aw
 cases fuel with
 |zero=>simp[DataW.trod]at h
 |succ n=>
  rw[DataW.trod_step]at h
  unfold DataW.trodStep at h
  rw[ht]at h
  split at h
  case h_10 c0 x0 c1 m2 e2 hq=>
   cases hq
   split at h
   ·rename_i hl
    simp only[mS]at h
    obtain⟨xs,h1,rfl⟩:=h
    have:=hr w H enc n c0 xs (by omega) (by rw[adX];exact h1) (fun n0 hm=>aw n0 (by simp only[DataW.weights,ht];exact ajq (List.range m) _ (by simpa [List.map_map,Function.comp_def] using hm)))
    simpa using this
   ·cases h
  all_goals first|(cases h;done)|(rename_i e;cases e;done)|(simp_all;done)
theorem Reads.as {α β:Type}{E:α->List AV}{Q:α->Prop}{E':β->List AV}{Q':β->Prop} (hr:Reads B P t E Q) (g:α->β) (hE:∀ a,E' (g a)=E a) (hQ:∀ a,Q a->Q' (g a)):Reads B P t E' Q':=by
 intro w H enc fuel cs x h aw
 obtain⟨a,h1,h2,h3⟩:=hr w H enc fuel cs x h aw
 exact⟨g a,hQ a h1,by rw[hE];exact h2,by rw[hE];exact h3⟩
theorem ak3 {α:Type}{E:α->List AV}{Q:α->Prop}{w:World}{H:Type}{enc:TypeId×Value->H}{v:Value}{d:DataW H}{ps:List MemPlace} (hr:Reads B P t E Q) (hv:∃ cs,v=.agg cs) (h:DataW.Trod enc P w 0 (fun _=>true) true t v d ps) (aw:∀ n∈d.weights P t,n<=B):
  ∃ a,Q a/\VR (nX w) [] (.agg (E a)) v:=by
 obtain⟨cs,rfl⟩:=hv
 obtain⟨fuel,h⟩:=h
 obtain⟨a,h1,h2,h3⟩:=hr w H enc fuel _ _ h aw
 exact⟨a,h1,.agg _ _ (by simpa [Value.cells] using h2.1) h3 (fun i x v hx hv=>h2.2 i x v hx (by simpa [Value.cells] using hv))⟩
theorem ak4 {α:Type}{E:α->List AV}{Q:α->Prop}{w:World}{H:Type}{enc:TypeId×Value->H}{v:Value}{d:DataW H}{ps:List MemPlace} (hr:Reads B P t E Q) (hv:v.cells=#[v]) (F:α->AV) (hF:∀ a,E a=[F a]) (h:DataW.Trod enc P w 0 (fun _=>true) true t v d ps) (aw:∀ n∈d.weights P t,n<=B):
  ∃ a,Q a/\VR (nX w) [] (F a) v:=by
 obtain⟨fuel,h⟩:=h
 rw[hv]at h
 obtain⟨a,h1,h2,_⟩:=hr w H enc fuel _ _ h aw
 rw[hF]at h2
 exact⟨a,h1,h2.2 0 _ _ rfl rfl⟩
end
theorem aox {W W':World} (h:Below W.heap.size W W') (may:MemPlace->Prop):W.keptBut W' may:=by
 refine⟨h.os,h.output,fun i hi=>?_⟩
 have hb:=h.block i hi
 have:∃ o,W.heap[i]?=some o:=⟨_,Bu hi⟩
 obtain⟨o,ho⟩:=this
 rw[hb,ho]
 cases o with
 |cells c t fr=>exact⟨rfl,rfl,rfl,fun _ _=>rfl⟩
 |map es clock=>exact .inr ⟨rfl,rfl⟩
 |_=>rfl
theorem aqa {W W':World} (h:Below W.heap.size W W') (p:MemPlace) (hp:p.block<W.heap.size):W.sameAt W' p:=by
 cases p with
 |cell b off=>
  have hb:=h.block b hp
  show W'.cell? _=W.cell? _
  unfold World.cell?
  simp only[hb]
 |map b=>exact h.block b hp
section
variable {H:Type}{enc:TypeId×Value->H}{P:Program}
theorem aqZ {ts us:List TypeId}{ds gs:List (DataW H)} (hl:ds.length=ts.length) (h:(DataW.weightsEach P (ts++us) (ds++gs)).all (·<=reachBytes)=true) (j:Nat) (t:TypeId) (d:DataW H) (ht:ts[j]?=some t) (hd:ds[j]?=some d):∀ n∈d.weights P t,n<=reachBytes:=by
 intro n hn
 have h1:j<ts.length:=(gS.1 ht).1
 have:=List.all_eq_true.1 h n (DataW.weights_mem_each (j:=j) (by rw[Cs h1];exact ht) (by rw[Cs (by omega)];exact hd) n hn)
 simpa using this
theorem aiZ {w w':World}{base:Nat}{spare:Nat->Bool}{held:Bool}:∀ {ts:List TypeId}{vs:List Value}{ds:List (DataW H)}{ps:List MemPlace},DataW.TrodAll enc P w base spare held ts vs ds ps->(∀ p∈ps,w.sameAt w' p)->DataW.TrodAll enc P w' base spare held ts vs ds ps
 |[],[],[],_,h,_=>h
 |_::_,_::_,_::_,_,⟨p,q,⟨n,h1⟩,h2,e⟩,hs=>
  ⟨p,q,⟨n,DataW.trod_carry n _ _ _ h1 (fun x hx=>hs x (by rw[e];exact List.mem_append_left _ hx))⟩,aiZ h2 (fun x hx=>hs x (by rw[e];exact List.mem_append_right _ hx)),e⟩
theorem aoB {f:Func}{s:ChangeSpec}{W W':World}{args:Array Value}{ds gs:List (DataW H)}{before:List MemPlace}{t:TypeId} (hl:laidOutB P=true) (hm:mapsRowed P=true)
  (hz:((List.range P.types.size).all fun t=>match P.underlying t with|some (.slice e)=>decide (0<P.cellsOf e)|_=>true)=true)
  (hW:DataW.Whole enc P f.params.toList s.vars false W args.toList ds gs before) (bl:s.vars=[]) (hB:Below W.heap.size W W') (anI:∀ t∈f.params.toList,t<P.types.size) (hrt:f.resultTypes=#[t]) (ht:P.underlying t=some .bool)
  (tz:s.fn H (ds++gs)={ results:=[.lit (.bool true)],args:=ds }):s.post enc P f false true false false W args (.bool true) W':=by
 have ae:=hW.lt
 have hW0:=hW
 obtain⟨p,q,hA,hV,yT,_,_⟩:=hW
 rw[bl]at hV
 obtain⟨rfl,rfl⟩:gs=[]/\q=[]:=by
  cases gs with
  |nil=>exact⟨rfl,hV⟩
  |cons g gs=>exact hV.elim
 have hp:∀ x∈p,x.block<W.heap.size:=fun x hx=>ae x (by rw[yT];simp[hx])
 refine⟨ds,[],before,[],p,[],hW0,?_,?_,?_,aox hB _,by simp⟩
 ·rw[tz,hrt]
  exact⟨[],[],⟨1,by simp[DataW.trod_step,DataW.trodStep,ht,Value.cells]⟩,rfl,rfl⟩
 ·rw[tz]
  exact DataW.TrodAll.respare (kids_rows hl hm) (fun t e h1 h2=>slices_full_of P hz t e h1 h2) anI (aiZ hA (fun x hx=>aqa hB x (hp x hx))) (fun x hx=>by simpa using hp x hx)
 ·rw[tz,bl]
  rfl
end
end Go.Abs
