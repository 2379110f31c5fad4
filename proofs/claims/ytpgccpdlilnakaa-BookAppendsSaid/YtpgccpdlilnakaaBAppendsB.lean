/-
  Part 2 of the proof: a machine over named blocks, what each function computes, and what follows. No condition.
-/
import Derived.Orders
import Derived.Shelf.Sort.Plain
import Derived.Shelf.Slices.In.SortNone
import Derived.ReadAgain
import Derived.ChangeSame
import Derived.SizedLaws
import Derived.OpenShut
import Derived.ProofKit
import Derived.Test.YtpgccpdlilnakaaBAppendsA
set_option linter.unusedVariables false
set_option linter.unusedSimpArgs false
set_option linter.all false
namespace Go.Abs
open Go Go.RowKit
mutual
def AV.imp (kb:Nat):AV->AV
 |.loc l k e i n g=>.loc (l - 1) (if l=0 then kb+k else k) e i n g
 |.bF l k e o n=>.bF (l - 1) (if l=0 then kb+k else k) e o n
 |.ptr l k o=>.ptr (l - 1) (if l=0 then kb+k else k) o
 |.bq l k e i o g=>.bq (l - 1) (if l=0 then kb+k else k) e i o g
 |.fn f a b=>.fn f (AV.iv kb a) (AV.iv kb b)
 |.bR t v=>.bR t (v.imp kb)
 |.agg cs=>.agg (AV.iv kb cs)
 |.ar vs=>.ar (AV.iv kb vs)
 |.bool b=>.bool b
 |.int k n=>.int k n
 |.str s=>.str s
 |.nil=>.nil
 |.sl e es=>.sl e es
 |.bG=>.bG
 |.aA e es i o=>.aA e es i o
 |.bP=>.bP
 |.bS=>.bS
 |.raw r_=>.raw r_
 |.dead=>.dead
def AV.iv (kb:Nat):List AV->List AV
 |[]=>[]
 |x::l=>x.imp kb::AV.iv kb l
end
def AH.imp (kb:Nat):AH->AH
 |.arr et e es=>.arr et e es
 |.box cs=>.box (AV.iv kb cs)
def mJ (kb:Nat):Av->Av->Av
 |[],f=>f
 |(c,b)::R,f=>ins (mJ kb R f) (kb+c) (b.imp kb)
def St.gz (st:St) (dst:Option Tmp) (drop:List Nat) (v:AV) (R:Av):Heap->St
 |[]=>st
 |f::H=>⟨cA (mO st.tm dst (v.imp st.nx)) drop,mJ st.nx R f,H,st.nx+16,st.nt⟩
def cL:Ak:=fun _=>none
def Enters (P : Program) (f : FuncId) : Prop := ∃ fn, P.funcs[f]? = some fn ∧ (fn.name == "runtime.NumGoroutine") = false ∧ fn.body.isNone = false
def Cy (P:Program) (f:FuncId) (args:List AV) (H:Heap) (R:AV->Av->Heap->Prop):Prop:=
 Enters P f/\∀ N0 W0 fm ts w vs,HR N0 W0 fm ts H w->Au fm (cL::ts) args vs->
  Calls P f vs.toArray w fun e w'=>∃ v av aU H' fm' t' ts',e=.returned v/\R av aU H'/\H'.length=H.length/\HR N0 W0 fm' (t'::ts') (aU::H') w'/\VR fm' (t'::ts') av v/\AN N0 fm fm'/\As ts ts'/\
   (∀ l k,tb ts l k=none->tb ts' l k=none)/\∀ k,16<=k->t' k=none
def Di (P:Program) (f:FuncId) (args:List AV) (H:Heap) (R:AV->Av->Heap->Prop) (Rp:List PanicEntry->Heap->Prop):Prop:=
 Enters P f/\∀ N0 W0 fm ts w vs,HR N0 W0 fm ts H w->Au fm (cL::ts) args vs->
  Calls P f vs.toArray w fun e w'=>(∃ v av aU H' fm' t' ts',e=.returned v/\R av aU H'/\H'.length=H.length/\HR N0 W0 fm' (t'::ts') (aU::H') w'/\VR fm' (t'::ts') av v/\AN N0 fm fm'/\As ts ts'/\
   (∀ l k,tb ts l k=none->tb ts' l k=none)/\∀ k,16<=k->t' k=none)\/
   ∃ ch H' fm' ts',e=.panicked ch/\Rp ch H'/\H'.length=H.length/\HR N0 W0 fm' ts' H' w'/\AN N0 fm fm'/\As ts ts'/\∀ l k,tb ts l k=none->tb ts' l k=none
theorem Cy.toP {P:Program}{f:FuncId}{args:List AV}{H:Heap}{R:AV->Av->Heap->Prop} (h:Cy P f args H R):Di P f args H R (fun _ _=>False):=
 ⟨h.1,fun N0 W0 fm ts w vs a b=>(h.2 N0 W0 fm ts w vs a b).mono fun _ _ q=>.inl q⟩
section
variable [Md]
def CJ (n:Nat) (st:St) (args:List AV) (ao:St) (ak3:List AV):Prop:=
 ∀ N0 W0 a w fm ts vs,SR N0 W0 n st a w fm ts->Au fm (cL::ts) args vs->∃ fm' ts',SR N0 W0 n ao a w fm' ts'/\Be N0 fm ts fm' ts'/\Au fm' (cL::ts') ak3 vs
theorem CJ.refl (n:Nat) (st:St) (args:List AV):CJ n st args st args:=fun _ _ _ _ fm ts _ h hv=>⟨fm,ts,h,Be.refl _ _,hv⟩
def AK (P:Program) (n:Nat) (Φ:Exit->St->Prop) (todo:List It) (st:St):Prop:=
 ∀ N0 W0 fm ts a w ct Q,SR N0 W0 n st a w fm ts->Bo N0 W0 n fm ts todo ct->
  (∀ e ao a' w' fm' ts',Φ e ao->SR N0 W0 n ao a' w' fm' ts'->Be N0 fm ts fm' ts'->Q e a' w')->K P Q ct .normal a w
def AJ (P:Program) (n:Nat) (Φ:Exit->St->Prop):Ev->Prop
 |.stuck=>False
 |.fin e st=>Φ e st
 |.back B st=>B st
 |.call f args dst drop todo st=>∃ fX gU R Rp,CJ n st args fX gU/\Di P f gU (fX.fr::fX.low) R Rp/\(∀ v fr H,R v fr H->AK P n Φ todo (fX.gz dst drop v fr H))/\∀ ch H,Rp ch H->Φ (.panic ch) (fX.ux H)
 |.loop b todo st=>AK P n Φ (.sc (.loop b)::todo) st
 |.throw v st=>∃ t x,v=.bR t x/\∀ fm ts u,VR fm ts x u->Φ (.panic [{ v:=.iface t u,recovered:=false }]) st
 |.either es t s1 s2=>(es=[]->AK P n Φ t s1)/\AK P n Φ t s2
 |.draw ops mo drop todo st=>AK P n Φ (.sc (.aO ops mo drop)::todo) st
 |.mark b todo st=>AK P n Φ (.sc b::todo) st
end
theorem nr (kb:Nat):∀ cs:List AV,(AV.iv kb cs).length=cs.length
 |[]=>rfl
 |x::l=>by simp[AV.iv,nr kb l]
theorem lX (kb:Nat):∀ (cs:List AV) (i:Nat),(AV.iv kb cs)[i]?=(cs[i]?).map (AV.imp kb)
 |[],i=>by simp[AV.iv]
 |x::l,0=>by simp[AV.iv]
 |x::l,i+1=>by simp[AV.iv,lX kb l i]
theorem abl (kb:Nat) (x:AV):(x.imp kb).flat=x.flat:=by
 cases x<;>simp[AV.imp,AV.flat]
def kC (kb:Nat) (t' h:Ak):Ak:=fun k=>if kb<=k then t' (k - kb) else h k
theorem qC {kb:Nat}{t' h:Ak}{rest:List Ak} (hn:∀ k,kb<=k->h k=none) {l k:Nat}{x:TB} (e:tb (t'::h::rest) l k=some x):
  tb (kC kb t' h::rest) (l - 1) (if l=0 then kb+k else k)=some x:=by
 cases l with
 |zero=>simpa [tb,kC] using e
 |succ l=>
  cases l with
  |zero=>
   simp only[tb]at e
   have hk:¬ kb<=k:=fun hk=>by rw[hn k hk]at e;cases e
   simp[tb,kC,hk,e]
  |succ l=>simpa [tb] using e
theorem VR.imp {fm:FM}{kb:Nat}{t' h:Ak}{rest:List Ak} (hn:∀ k,kb<=k->h k=none) {fY:List Ak}{x:AV}{v:Value} (hv:VR fm fY x v):fY=t'::h::rest->VR fm (kC kb t' h::rest) (x.imp kb) v:=by
 induction hv with
 |bool b=>intro _;exact .bool b
 |int k n=>intro _;exact .int k n
 |str s=>intro _;exact .str s
 |nil=>intro _;exact .nil
 |cd e a cap=>intro _;exact .cd e a cap
 |sl es cb off esz cap u bU h1 h2 h3 h4 _=>intro _;exact .sl es cb off esz cap u bU h1 h2 h3 h4
 |cH l k esz i n g a cp h dU ha=>rintro rfl;exact .cH _ _ esz i n g a cp (qC hn h) dU ha
 |cI l k esz i n g a cp m' c h ae dU ha=>rintro rfl;exact .cI _ _ esz i n g a cp m' c (qC hn h) ae dU ha
 |cv l k esz a h=>rintro rfl;exact .cv _ _ esz a (qC hn h)
 |loc l k esz i n g c cap cp a h dU bI hc ha=>rintro rfl;exact .loc _ _ esz i n g c cap cp a (qC hn h) dU bI hc ha
 |bF l k esz o n c cp a h dU ha=>rintro rfl;exact .bF _ _ esz o n c cp a (qC hn h) dU ha
 |bG=>intro _;exact .bG
 |ptr l k o c h=>rintro rfl;exact .ptr _ _ o c (qC hn h)
 |ey l k esz i o g a h=>rintro rfl;exact .ey _ _ esz i o g a (qC hn h)
 |eA l k esz i o g a m' c h ae=>rintro rfl;exact .eA _ _ esz i o g a m' c (qC hn h) ae
 |bq l k esz i o g c cap h=>rintro rfl;exact .bq _ _ esz i o g c cap (qC hn h)
 |aA es i o cb off esz u h1 h2 h3 h4 _=>intro _;exact .aA es i o cb off esz u h1 h2 h3 h4
 |bP=>intro _;exact .bP
 |fn f first cap vf vc h1 h2 _ _ iq iu=>
  intro e
  simp only[AV.imp]
  refine .fn f _ _ vf vc (by rw[nr];exact h1) (by rw[nr];exact h2) ?_ ?_
  ·intro i x v hx hv
   rw[lX,mS]at hx
   obtain⟨y,hy,rfl⟩:=hx
   exact iq i y v hy hv e
  ·intro i x v hx hv
   rw[lX,mS]at hx
   obtain⟨y,hy,rfl⟩:=hx
   exact iu i y v hy hv e
 |bS=>intro _;exact .bS
 |raw r_ jo=>intro _;exact .raw r_ jo
 |bR t x v _ ih=>intro e;exact .bR t _ v (ih e)
 |agg cs vs h1 h2 _ ih=>
  intro e
  simp only[AV.imp]
  refine .agg _ vs (by rw[nr];exact h1) ?_ ?_
  ·intro x hx
   obtain⟨i,hi⟩:=BD.1 hx
   rw[lX,mS]at hi
   obtain⟨y,hy,rfl⟩:=hi
   rw[abl];exact h2 y (AW hy)
  ·intro i x v hx hv
   rw[lX,mS]at hx
   obtain⟨y,hy,rfl⟩:=hx
   exact ih i y v hy hv e
 |ar xs vs h1 _ ih=>
  intro e
  simp only[AV.imp]
  refine .ar _ vs (by rw[nr];exact h1) ?_
  intro i x v hx hv
  rw[lX,mS]at hx
  obtain⟨y,hy,rfl⟩:=hx
  exact ih i y v hy hv e
 |dead v=>intro _;exact .dead v
theorem adW (kb:Nat) (f:Av):∀ (R:Av) (k:Nat),look (mJ kb R f) k=if kb<=k then (match look R (k - kb) with|some b=>some (b.imp kb)|none=>look f k) else look f k
 |[],k=>by simp[mJ,look]
 |(c,b)::R,k=>by
  have ih:=adW kb f R k
  simp only[mJ,rN,ih,look]
  by_cases hk:kb+c=k
  ·subst hk
   simp
  ·by_cases hkb:kb<=k
   ·have:¬ c=k - kb:=by omega
    simp[hk,hkb,this]
   ·simp[hk,hkb]
theorem HR.imp {N0:Nat}{W0:World}{fm:FM}{t' h:Ak}{rest:List Ak}{R f:Av}{H:Heap}{w:World} (hr:HR N0 W0 fm (t'::h::rest) (R::f::H) w) {kb:Nat} (hn:∀ k,kb<=k->h k=none):
  HR N0 W0 fm (kC kb t' h::rest) (mJ kb R f::H) w:=by
 have hT:As (h::rest) (kC kb t' h::rest):=by
  intro l k
  cases l with
  |zero=>
   simp only[tb,kC]
   split
   ·rename_i hk;rw[hn k hk];trivial
   ·exact Bl.refl _
  |succ l=>exact Bl.refl _
 have src:∀ l k b,Heap.get (mJ kb R f::H) l k=some b->(l=0/\kb<=k/\∃ b0,look R (k - kb)=some b0/\b=b0.imp kb)\/
   (¬ (l=0/\kb<=k)/\Heap.get (R::f::H) (l+1) k=some b/\tb (kC kb t' h::rest) l k=tb (t'::h::rest) (l+1) k):=by
  intro l k b hg
  cases l with
  |zero=>
   simp only[Heap.get,adW]at hg
   by_cases hk:kb<=k
   ·rw[if_pos hk]at hg
    cases hR:look R (k - kb) with
    |some b0=>
     rw[hR]at hg
     exact .inl ⟨rfl,hk,b0,rfl,(oi hg).symm⟩
    |none=>
     rw[hR]at hg
     have:=hr.al 1 k b (by simpa [Heap.get] using hg)
     simp only[tb,hn k hk]at this
     cases this
   ·rw[if_neg hk]at hg
    exact .inr ⟨fun hh=>hk hh.2,by simpa [Heap.get] using hg,by simp[tb,kC,hk]⟩
  |succ l=>exact .inr ⟨fun hh=>by omega,by simpa [Heap.get] using hg,by simp[tb]⟩
 have own:∀ k,kb<=k->tb (kC kb t' h::rest) 0 k=tb (t'::h::rest) 0 (k - kb):=by
  intro k hk;simp[tb,kC,hk]
 refine⟨by have:=hr.len;simp at this ⊢;exact this,?_,?_,hr.bO,?_,hr.dg,hr.size,hr.cT,hr.dZ⟩
 ·intro l k b hg
  rcases src l k b hg with ⟨rfl,hk,b0,fC,rfl⟩|⟨bg,bm,ht⟩
  ·rw[own k hk]
   have:=hr.al 0 (k - kb) b0 (by simpa [Heap.get] using fC)
   simp only[List.drop_zero]at this ⊢
   generalize tb (t'::h::rest) 0 (k - kb)=tt at this
   cases this with
   |box c cs hN hB=>
    obtain⟨cells,et,c1,c2,c3⟩:=hB
    refine .box c _ hN ⟨cells,et,c1,by rw[nr];exact c2,?_⟩
    intro o x v hx hv
    rw[lX,mS]at hx
    obtain⟨y,hy,rfl⟩:=hx
    have:=c3 o y v hy hv
    exact⟨by rw[abl];exact this.1,this.2.imp hn rfl⟩
   |nil et esz=>exact .nil et esz
   |arr et esz es c cap hN hA=>exact .arr et esz es c cap hN hA
  ·rw[ht]
   have:=hr.al (l+1) k b bm
   refine this.mono (AZ.refl _) ?_ (fun _ _=>rfl)
   have e1:List.drop (l+1) (t'::h::rest)=List.drop l (h::rest):=by simp
   rw[e1]
   exact hT.drop l
 ·intro l1 k1 l2 k2 b1 b2 c g1 g2 t1 t2
  rcases src l1 k1 b1 g1 with ⟨rfl,bw,mn,eM,rfl⟩|⟨anE,mE,ht1⟩
  ·rw[own k1 bw]at t1
   rcases src l2 k2 b2 g2 with ⟨rfl,pR,sH,jh,rfl⟩|⟨adF,tz,qf⟩
   ·rw[own k2 pR]at t2
    have:=hr.inj 0 (k1 - kb) 0 (k2 - kb) mn sH c (by simpa [Heap.get] using eM) (by simpa [Heap.get] using jh) t1 t2
    exact⟨rfl,by omega⟩
   ·rw[qf]at t2
    have:=hr.inj 0 (k1 - kb) (l2+1) k2 mn b2 c (by simpa [Heap.get] using eM) tz t1 t2
    omega
  ·rw[ht1]at t1
   rcases src l2 k2 b2 g2 with ⟨rfl,pR,sH,jh,rfl⟩|⟨adF,tz,qf⟩
   ·rw[own k2 pR]at t2
    have:=hr.inj (l1+1) k1 0 (k2 - kb) b1 sH c mE (by simpa [Heap.get] using jh) t1 t2
    omega
   ·rw[qf]at t2
    have:=hr.inj (l1+1) k1 (l2+1) k2 b1 b2 c mE tz t1 t2
    exact⟨by omega,this.2⟩
 ·intro l k b c o hg ht
  rcases src l k b hg with ⟨rfl,hk,b0,fC,rfl⟩|⟨bg,bm,eE⟩
  ·rw[own k hk]at ht
   exact hr.dh 0 (k - kb) b0 c o (by simpa [Heap.get] using fC) ht
  ·rw[eE]at ht
   exact hr.dh (l+1) k b c o bm ht
theorem VR.vS {fm:FM}{kb:Nat}{t' h J:Ak}{rest:List Ak} (hn:∀ l k x,tb (t'::h::rest) l k=some x->tb (J::rest) (l - 1) (if l=0 then kb+k else k)=some x) {fY:List Ak}{x:AV}{v:Value} (hv:VR fm fY x v):fY=t'::h::rest->VR fm (J::rest) (x.imp kb) v:=by
 induction hv with
 |bool b=>intro _;exact .bool b
 |int k n=>intro _;exact .int k n
 |str s=>intro _;exact .str s
 |nil=>intro _;exact .nil
 |cd e a cap=>intro _;exact .cd e a cap
 |sl es cb off esz cap u bU h1 h2 h3 h4 _=>intro _;exact .sl es cb off esz cap u bU h1 h2 h3 h4
 |cH l k esz i n g a cp h dU ha=>rintro rfl;exact .cH _ _ esz i n g a cp (hn _ _ _ h) dU ha
 |cI l k esz i n g a cp m' c h ae dU ha=>rintro rfl;exact .cI _ _ esz i n g a cp m' c (hn _ _ _ h) ae dU ha
 |cv l k esz a h=>rintro rfl;exact .cv _ _ esz a (hn _ _ _ h)
 |loc l k esz i n g c cap cp a h dU bI hc ha=>rintro rfl;exact .loc _ _ esz i n g c cap cp a (hn _ _ _ h) dU bI hc ha
 |bF l k esz o n c cp a h dU ha=>rintro rfl;exact .bF _ _ esz o n c cp a (hn _ _ _ h) dU ha
 |bG=>intro _;exact .bG
 |ptr l k o c h=>rintro rfl;exact .ptr _ _ o c (hn _ _ _ h)
 |ey l k esz i o g a h=>rintro rfl;exact .ey _ _ esz i o g a (hn _ _ _ h)
 |eA l k esz i o g a m' c h ae=>rintro rfl;exact .eA _ _ esz i o g a m' c (hn _ _ _ h) ae
 |bq l k esz i o g c cap h=>rintro rfl;exact .bq _ _ esz i o g c cap (hn _ _ _ h)
 |aA es i o cb off esz u h1 h2 h3 h4 _=>intro _;exact .aA es i o cb off esz u h1 h2 h3 h4
 |bP=>intro _;exact .bP
 |fn f first cap vf vc h1 h2 _ _ iq iu=>
  intro e
  simp only[AV.imp]
  refine .fn f _ _ vf vc (by rw[nr];exact h1) (by rw[nr];exact h2) ?_ ?_
  ·intro i x v hx hv
   rw[lX,mS]at hx
   obtain⟨y,hy,rfl⟩:=hx
   exact iq i y v hy hv e
  ·intro i x v hx hv
   rw[lX,mS]at hx
   obtain⟨y,hy,rfl⟩:=hx
   exact iu i y v hy hv e
 |bS=>intro _;exact .bS
 |raw r_ jo=>intro _;exact .raw r_ jo
 |bR t x v _ ih=>intro e;exact .bR t _ v (ih e)
 |agg cs vs h1 h2 _ ih=>
  intro e
  simp only[AV.imp]
  refine .agg _ vs (by rw[nr];exact h1) ?_ ?_
  ·intro x hx
   obtain⟨i,hi⟩:=BD.1 hx
   rw[lX,mS]at hi
   obtain⟨y,hy,rfl⟩:=hi
   rw[abl];exact h2 y (AW hy)
  ·intro i x v hx hv
   rw[lX,mS]at hx
   obtain⟨y,hy,rfl⟩:=hx
   exact ih i y v hy hv e
 |ar xs vs h1 _ ih=>
  intro e
  simp only[AV.imp]
  refine .ar _ vs (by rw[nr];exact h1) ?_
  intro i x v hx hv
  rw[lX,mS]at hx
  obtain⟨y,hy,rfl⟩:=hx
  exact ih i y v hy hv e
 |dead v=>intro _;exact .dead v
theorem HR.vS {N0:Nat}{W0:World}{fm:FM}{t' h J:Ak}{rest:List Ak}{R f:Av}{H:Heap}{w:World} (hr:HR N0 W0 fm (t'::h::rest) (R::f::H) w) {kb:Nat} (h1:∀ k x,t' k=some x->J (kb+k)=some x) (h2:∀ k x,h k=some x->J k=some x):
  HR N0 W0 fm (J::rest) (mJ kb R f::H) w:=by
 have hJ:∀ l k x,tb (t'::h::rest) l k=some x->tb (J::rest) (l - 1) (if l=0 then kb+k else k)=some x:=by
  intro l k x e
  cases l with
  |zero=>simpa [tb] using h1 k x (by simpa [tb] using e)
  |succ l=>
   cases l with
   |zero=>simpa [tb] using h2 k x (by simpa [tb] using e)
   |succ l=>simpa [tb] using e
 have hT:As (h::rest) (J::rest):=by
  intro l k
  cases l with
  |zero=>
   simp only[tb]
   cases hh:h k with
   |none=>trivial
   |some x=>rw[h2 k x hh];exact Bl.refl _
  |succ l=>exact Bl.refl _
 have src:∀ l k b,Heap.get (mJ kb R f::H) l k=some b->(l=0/\kb<=k/\∃ b0,look R (k - kb)=some b0/\b=b0.imp kb/\tb (J::rest) l k=tb (t'::h::rest) 0 (k - kb))\/
   (Heap.get (R::f::H) (l+1) k=some b/\tb (J::rest) l k=tb (t'::h::rest) (l+1) k/\¬ (l=0/\kb<=k/\∃ b0,look R (k - kb)=some b0)):=by
  intro l k b hg
  have kr:Heap.get (R::f::H) (l+1) k=some b->tb (J::rest) l k=tb (t'::h::rest) (l+1) k:=by
   intro hg
   have hb:=hr.al (l+1) k b hg
   cases ht:tb (t'::h::rest) (l+1) k with
   |none=>rw[ht]at hb;cases hb
   |some x=>have:=hJ (l+1) k x ht;simpa using this
  cases l with
  |zero=>
   simp only[Heap.get,adW]at hg
   by_cases hk:kb<=k
   ·rw[if_pos hk]at hg
    cases hR:look R (k - kb) with
    |some b0=>
     rw[hR]at hg
     refine .inl ⟨rfl,hk,b0,rfl,(oi hg).symm,?_⟩
     have hb:=hr.al 0 (k - kb) b0 (by simpa [Heap.get] using hR)
     cases ht:tb (t'::h::rest) 0 (k - kb) with
     |none=>rw[ht]at hb;cases hb
     |some x=>
      have:=hJ 0 (k - kb) x ht
      simp only[if_true]at this
      rw[show kb+(k - kb)=k by omega]at this
      exact this
    |none=>
     rw[hR]at hg
     have bm:Heap.get (R::f::H) (0+1) k=some b:=by simpa [Heap.get] using hg
     exact .inr ⟨bm,kr bm,fun hh=>by obtain⟨_,_,b0,e⟩:=hh;cases e⟩
   ·rw[if_neg hk]at hg
    have bm:Heap.get (R::f::H) (0+1) k=some b:=by simpa [Heap.get] using hg
    exact .inr ⟨bm,kr bm,fun hh=>hk hh.2.1⟩
  |succ l=>
   have bm:Heap.get (R::f::H) (l+1+1) k=some b:=by simpa [Heap.get] using hg
   exact .inr ⟨bm,kr bm,fun hh=>by omega⟩
 refine⟨by have:=hr.len;simp at this ⊢;exact this,?_,?_,hr.bO,?_,hr.dg,hr.size,hr.cT,hr.dZ⟩
 ·intro l k b hg
  rcases src l k b hg with ⟨rfl,hk,b0,fC,rfl,ht⟩|⟨bm,ht,_⟩
  ·rw[ht]
   have:=hr.al 0 (k - kb) b0 (by simpa [Heap.get] using fC)
   simp only[List.drop_zero]at this ⊢
   generalize tb (t'::h::rest) 0 (k - kb)=tt at this
   cases this with
   |box c cs hN hB=>
    obtain⟨cells,et,c1,c2,c3⟩:=hB
    refine .box c _ hN ⟨cells,et,c1,by rw[nr];exact c2,?_⟩
    intro o x v hx hv
    rw[lX,mS]at hx
    obtain⟨y,hy,rfl⟩:=hx
    have:=c3 o y v hy hv
    exact⟨by rw[abl];exact this.1,this.2.vS hJ rfl⟩
   |nil et esz=>exact .nil et esz
   |arr et esz es c cap hN hA=>exact .arr et esz es c cap hN hA
  ·rw[ht]
   have:=hr.al (l+1) k b bm
   refine this.mono (AZ.refl _) ?_ (fun _ _=>rfl)
   have e1:List.drop (l+1) (t'::h::rest)=List.drop l (h::rest):=by simp
   rw[e1]
   exact hT.drop l
 ·intro l1 k1 l2 k2 b1 b2 c g1 g2 t1 t2
  rcases src l1 k1 b1 g1 with ⟨rfl,bw,mn,eM,_,e1⟩|⟨mE,e1,n1⟩
  ·rw[e1]at t1
   rcases src l2 k2 b2 g2 with ⟨rfl,pR,sH,jh,_,e2⟩|⟨tz,e2,n2⟩
   ·rw[e2]at t2
    have:=hr.inj 0 (k1 - kb) 0 (k2 - kb) mn sH c (by simpa [Heap.get] using eM) (by simpa [Heap.get] using jh) t1 t2
    exact⟨rfl,by omega⟩
   ·rw[e2]at t2
    have:=hr.inj 0 (k1 - kb) (l2+1) k2 mn b2 c (by simpa [Heap.get] using eM) tz t1 t2
    omega
  ·rw[e1]at t1
   rcases src l2 k2 b2 g2 with ⟨rfl,pR,sH,jh,_,e2⟩|⟨tz,e2,n2⟩
   ·rw[e2]at t2
    have:=hr.inj (l1+1) k1 0 (k2 - kb) b1 sH c mE (by simpa [Heap.get] using jh) t1 t2
    omega
   ·rw[e2]at t2
    have:=hr.inj (l1+1) k1 (l2+1) k2 b1 b2 c mE tz t1 t2
    exact⟨by omega,this.2⟩
 ·intro l k b c o hg ht
  rcases src l k b hg with ⟨rfl,hk,b0,fC,_,e⟩|⟨bm,e,_⟩
  ·rw[e]at ht
   exact hr.dh 0 (k - kb) b0 c o (by simpa [Heap.get] using fC) ht
  ·rw[e]at ht
   exact hr.dh (l+1) k b c o bm ht
end Go.Abs
namespace Go.Abs
open Go Go.RowKit
section
variable [Md] {P:Program}{T:AM}{N0:Nat}{W0:World}{n:Nat}{fm:FM}{ts:List Ak}
theorem Bo.aoX {todo:List It}{ct:List BF} (h:Bo N0 W0 n fm ts todo ct):todo=[]->∀ {Q:Exit->Act->World->Prop}{a w},Q .normal a w->K P Q ct .normal a w:=by
 induction h with
 |nil=>intro _ Q a w h;exact h
 |gP _ ih=>intro e Q a w h;exact ih e h
 |_=>intro e;cases e
theorem Bo.ak9 {todo:List It}{ct:List BF} (h:Bo N0 W0 n fm ts todo ct):∀ {id:Nat}{t:List It},todo=.al id::t->∃ bh,Bo N0 W0 n fm ts t bh/\∀ {Q:Exit->Act->World->Prop}{a w},K P Q bh .normal a w->K P Q ct .normal a w:=by
 induction h with
 |al ht _=>intro id t e;cases e;exact⟨_,ht,fun h=>h⟩
 |gP _ ih=>intro id t e;obtain⟨bh,h1,h2⟩:=ih e;exact⟨bh,h1,fun h=>h2 h⟩
 |_=>intro id t e;cases e
theorem Bo.ak6 {todo:List It}{ct:List BF} (h:Bo N0 W0 n fm ts todo ct):∀ {B:St->Prop}{t:List It},todo=.back B::t->∀ {Q:Exit->Act->World->Prop}{st a w},SR N0 W0 n st a w fm ts->B st->K P Q ct .normal a w:=by
 induction h with
 |back h ht _=>intro B t e;cases e;intro Q st a w hS hB;exact h _ _ _ _ _ hB hS (Be.refl _ _)
 |gP _ ih=>intro B t e Q st a w hS hB;exact ih e hS hB
 |_=>intro B t e;cases e
theorem Bo.aib {todo:List It}{ct:List BF} (h:Bo N0 W0 n fm ts todo ct):∀ {l:List An}{t:List It},todo=.ops l::t->
  ∃ arr is bh,l.map jX=is.map (fun i=>mz n arr (arr.getD i default))/\(∀ i∈is,i<arr.size)/\(∀ o∈l,∀ d,o.dst=some d->d<n)/\Bo N0 W0 n fm ts t bh/\
   ∀ {Q:Exit->Act->World->Prop}{a w},wpOpsIn FW 0 P arr (K P Q bh) is a w->K P Q ct .normal a w:=by
 induction h with
 |ops h hi hf ht _=>intro l t e;cases e;exact⟨_,_,_,h,hi,hf,ht,fun h=>h⟩
 |gP _ ih=>intro l t e;obtain⟨arr,is,bh,h1,h2,h3,h4,h5⟩:=ih e;exact⟨arr,is,bh,h1,h2,h3,h4,fun h=>h5 h⟩
 |_=>intro l t e;cases e
theorem aie (n:Nat):∀ (c:Code) (t:List It) (ct:List BF),Bo N0 W0 n fm ts t ct->∃ c' bh,(∀ b,c'≠.scope b)/\erase n c'=erase n c/\Bo N0 W0 n fm ts t bh/\∀ {Q:Exit->Act->World->Prop}{a w},K P Q (.code c'::bh) .normal a w->K P Q (.code c::ct) .normal a w
 |.scope b,t,ct,h=>by
  obtain⟨c',bh,h1,h2,h3,h4⟩:=aie n b t (.gP::ct) (.gP h)
  exact⟨c',bh,h1,by rw[h2];rfl,h3,fun h=>Ip (h4 h)⟩
 |.skip,t,ct,h=>⟨.skip,ct,by simp,rfl,h,fun h=>h⟩
 |.region a b c,t,ct,h=>⟨.region a b c,ct,by simp,rfl,h,fun h=>h⟩
 |.seq a b,t,ct,h=>⟨.seq a b,ct,by simp,rfl,h,fun h=>h⟩
 |.cond a b c,t,ct,h=>⟨.cond a b c,ct,by simp,rfl,h,fun h=>h⟩
 |.block a b,t,ct,h=>⟨.block a b,ct,by simp,rfl,h,fun h=>h⟩
 |.loop a,t,ct,h=>⟨.loop a,ct,by simp,rfl,h,fun h=>h⟩
 |.rangeFunc a b c d,t,ct,h=>⟨.rangeFunc a b c d,ct,by simp,rfl,h,fun h=>h⟩
 |.exit a,t,ct,h=>⟨.exit a,ct,by simp,rfl,h,fun h=>h⟩
 |.label a,t,ct,h=>⟨.label a,ct,by simp,rfl,h,fun h=>h⟩
 |.goto a,t,ct,h=>⟨.goto a,ct,by simp,rfl,h,fun h=>h⟩
 |.ret,t,ct,h=>⟨.ret,ct,by simp,rfl,h,fun h=>h⟩
 |.refuse a,t,ct,h=>⟨.refuse a,ct,by simp,rfl,h,fun h=>h⟩
theorem Bo.aeB {todo:List It}{ct:List BF} (h:Bo N0 W0 n fm ts todo ct):∀ {s:SC}{t:List It},todo=.sc s::t->
  ∃ c bh,(∀ b,c≠.scope b)/\s.bare=erase n c/\(erase n c).fits n=true/\Bo N0 W0 n fm ts t bh/\∀ {Q:Exit->Act->World->Prop}{a w},K P Q (.code c::bh) .normal a w->K P Q ct .normal a w:=by
 induction h with
 |sc h hf ht _=>
  intro s t e;cases e
  obtain⟨c',bh,h1,h2,h3,h4⟩:=aie (P:=P) n _ _ _ ht
  exact⟨c',bh,h1,by rw[h2];exact h,by rw[h2];exact hf,h3,fun h=>h4 h⟩
 |gP _ ih=>intro s t e;obtain⟨c,bh,h1,h2,h3,h4,h5⟩:=ih e;exact⟨c,bh,h1,h2,h3,h4,fun h=>h5 h⟩
 |_=>intro s t e;cases e
theorem Bo.amH {todo:List It}{ct:List BF} (h:Bo N0 W0 n fm ts todo ct) (id:Nat):
  (∀ t,jb id todo=some t->∃ bh,Bo N0 W0 n fm ts t bh/\∀ {Q:Exit->Act->World->Prop}{a w},K P Q bh .normal a w->K P Q ct (.exit id) a w)/\
  (jb id todo=none->∀ {Q:Exit->Act->World->Prop}{a w},Q (.exit id) a w->K P Q ct (.exit id) a w):=by
 induction h with
 |nil=>exact⟨fun t e=>by simp[jb]at e,fun _ Q a w h=>h⟩
 |sc _ _ _ ih=>exact⟨fun t e=>ih.1 t (by simpa [jb] using e),fun e Q a w h=>ih.2 (by simpa [jb] using e) h⟩
 |@al rE t ct ht ih=>
  by_cases yD:id=rE
  ·subst yD
   refine⟨fun t' e=>?_,fun e=>by simp[jb]at e⟩
   simp only[jb,if_true,oE]at e
   subst e
   exact⟨ct,ht,fun h=>by simp only[K,if_true];exact h⟩
  ·refine⟨fun t' e=>?_,fun e Q a w h=>?_⟩
   ·simp only[jb,if_neg yD]at e
    obtain⟨bh,h1,h2⟩:=ih.1 t' e
    exact⟨bh,h1,fun h=>by simp only[K,if_neg yD];exact h2 h⟩
   ·simp only[jb,if_neg yD]at e
    simp only[K,if_neg yD]
    exact ih.2 e h
 |gP _ ih=>exact⟨fun t e=>by obtain⟨bh,h1,h2⟩:=ih.1 t e;exact⟨bh,h1,fun h=>h2 h⟩,fun e Q a w h=>ih.2 e h⟩
 |ops _ _ _ _ ih=>exact⟨fun t e=>ih.1 t (by simpa [jb] using e),fun e Q a w h=>ih.2 (by simpa [jb] using e) h⟩
 |back _ _ ih=>exact⟨fun t e=>ih.1 t (by simpa [jb] using e),fun e Q a w h=>ih.2 (by simpa [jb] using e) h⟩
theorem apL (n:Nat) (ops:Array Oper):ops.toList.map (mz n ops)=(List.range ops.size).map fun i=>mz n ops (ops.getD i default):=by
 apply List.ext_getElem?
 intro i
 simp only[Bx,Array.getElem?_toList]
 by_cases hi:i<ops.size
 ·simp[hi,Array.getD]
 ·simp[hi]
theorem SR.gz {n:Nat}{st:St}{a:Act}{w w':World} (h:SR N0 W0 n st a w fm ts) {v:Value}{av:AV}{aU:Av}{H':Heap}{fm':FM}{t':Ak}{ts':List Ak}
  (hr:HR N0 W0 fm' (t'::ts') (aU::H') w') (hv:VR fm' (t'::ts') av v) (hf:AN N0 fm fm') (hl:As ts ts') (hn:∀ l k,tb ts l k=none->tb ts' l k=none) (je:∀ k,16<=k->t' k=none)
  (hlen:H'.length=st.low.length+1) {dst:Option Tmp} (hd:∀ d,dst=some d->d<n) (drop:List Nat):
  ∃ du,SR N0 W0 n (st.gz dst drop av aU H') (a.put dst v) w' fm' du/\Be N0 fm ts fm' du:=by
 cases H' with
 |nil=>simp at hlen
 |cons f H'=>
  cases ts' with
  |nil=>have:=hr.len;simp at this
  |cons h0 rest=>
   have kg:∀ k,st.nx<=k->h0 k=none:=by
    intro k hk
    have:=hn 0 k (h.nx k hk)
    simpa [tb] using this
   have hT:As (h0::rest) (kC st.nx t' h0::rest):=by
    intro l k
    cases l with
    |zero=>
     simp only[tb,kC]
     split
     ·rename_i hk;rw[kg k hk];trivial
     ·exact Bl.refl _
    |succ l=>exact Bl.refl _
   refine⟨kC st.nx t' h0::rest,⟨hr.imp kg,?_,?_,by rw[zT];exact h.size,by rw[wg];exact h.dX⟩,⟨hf,?_,?_⟩⟩
   ·exact(h.tm.mono hf.le (hl.trans hT)).put (hv.imp kg rfl) (by rw[h.size];exact hd) drop
   ·intro k hk
    have eQ:st.nx+16<=k:=hk
    simp only[tb,kC]
    rw[if_pos (by omega)]
    exact je _ (by omega)
   ·have:=hl.drop 1;simpa using this
   ·intro l k e
    rw[fg]at e
    have:=hn (l+1) k e
    simpa [tb] using this
theorem SR.lost {n:Nat}{st:St}{a:Act}{w w':World} (h:SR N0 W0 n st a w fm ts) {H':Heap}{fm':FM}{ts':List Ak}
  (hr:HR N0 W0 fm' ts' H' w') (hf:AN N0 fm fm') (hl:As ts ts') (hn:∀ l k,tb ts l k=none->tb ts' l k=none) (hlen:H'.length=st.low.length+1):
  SR N0 W0 n (st.ux H') a w' fm' ts'/\Be N0 fm ts fm' ts':=by
 cases H' with
 |nil=>simp at hlen
 |cons f H'=>
  refine⟨⟨hr,h.tm.mono hf.le hl,fun k hk=>hn 0 k (h.nx k hk),h.size,h.dX⟩,⟨hf,hl.drop 1,?_⟩⟩
  intro l k e
  rw[fg]at e ⊢
  exact hn _ k e
theorem amD {t e:TypeId}{a:Option Addr}{n c m:Nat}{w:World} (bW:P.underlying t=some (.slice e)):(Op.equalIn (m+1) t (.slice a n c) (.slice none 0 0)).run P w=.ok a.isNone w:=by
 cases a<;>simp only[Op.equalIn,Sem.run_bind,run_underlying bW,Result.andThen_ok]<;>rfl
theorem amC {t e:TypeId}{a:Option Addr}{n c:Nat}{w:World} (bW:P.underlying t=some (.slice e)):(binOp .eql t (.slice a n c) (.slice none 0 0)).run P w=.ok (.bool a.isNone) w:=by
 have h:(Op.equalIn Op.maxDepth t (.slice a n c) (.slice none 0 0)).run P w=.ok a.isNone w:=amD bW
 simp[binOp,Op.equal,h]
theorem xw {tm:Tm}{a:Act}{w:World} (eF:CY fm ts tm a) {c:Call}{f:FuncId}{args:List AV} (fD:callee tm c=some (f,args)) {s:An} (hc:kj s.op=some c) {o:Oper} (lP:s.op=o.op) (hE:Enters P f):
  ∃ vs:List Value,Au fm ts args vs/\(execOp a.eval o).run P w=.ok (.enter f vs.toArray) w/\∀ c0,o.op≠.defer c0:=by
 unfold kj at hc
 split at hc
 ·rename_i c' nk
  split at hc
  ·cases hc
  ·obtain rfl:=oi hc
   unfold callee at fD
   split at fD
   ·rename_i g hcf
    split at fD
    ·rename_i g' first cap xs hof fV
     simp only[oE,Prod.mk.injEq]at fD
     obtain⟨rfl,rfl⟩:=fD
     have hvf:=rR eF hof
     have eT:=zM eF _ _ fV
     obtain⟨vf,vc,vI,gp,kT,pY,yT⟩:∃ vf vc,a.eval g=.func (.func g') vf vc/\first.length=vf.size/\cap.length=vc.size/\(∀ (i:Nat) x v,first[i]?=some x->vf[i]?=some v->VR fm ts x v)/\(∀ (i:Nat) x v,cap[i]?=some x->vc[i]?=some v->VR fm ts x v):=by
      generalize a.eval g=z at hvf
      cases hvf with
      |fn _ _ _ vf vc h1 h2 h3 h4=>exact⟨vf,vc,rfl,h1,h2,h3,h4⟩
     have fo:Au fm ts (first++(xs++cap)) (vf.toList++(c'.args.toList.map a.eval++vc.toList)):=
      Au.append ⟨by simpa using gp,fun i x v p q=>pY i x v p (by simpa using q)⟩ (Au.append eT ⟨by simpa using kT,fun i x v p q=>yT i x v p (by simpa using q)⟩)
     obtain⟨fn,tw,jl,hbd⟩:=hE
     have ahg:o.op=.call c':=by rw[<-lP];exact nk
     have bf:(execOp a.eval o).run P w=.ok (.enter g' ((vf.toList++(c'.args.toList.map a.eval++vc.toList)).toArray)) w:=by
      have e1:vf++Array.map a.eval c'.args++vc=(vf.toList++(c'.args.toList.map a.eval++vc.toList)).toArray:=by
       apply Array.toList_inj.1;simp
      simp only[execOp,ahg,resolve,hcf,Sem.run_bind,Deferred.ofValue,vI,Sem.run_pure,Result.andThen_ok,invoke,callFunc,run_program,tw,jl,hbd,C3,if_false,e1]
     exact⟨_,fo,bf,fun c0 h0=>by rw[ahg]at h0;cases h0⟩
    ·cases fD
   ·cases fD
 ·cases hc
theorem gN (hT:AQ P T) {Φ:Exit->St->Prop}:∀ (m:Nat) (todo:List It) (st:St),AJ P n Φ (run T m todo st)->AK P n Φ todo st
 |0,todo,st,h=>by simp only[run,AJ]at h
 |m+1,[],st,h=>by
  intro N0 W0 fm ts a w ct Q hS fS hQ
  simp only[run,AJ]at h
  exact fS.aoX rfl (hQ _ _ _ _ _ _ h hS (Be.refl _ _))
 |m+1,.back B::t,st,h=>by
  intro N0 W0 fm ts a w ct Q hS fS hQ
  simp only[run,AJ]at h
  exact fS.ak6 rfl hS h
 |m+1,.al id::t,st,h=>by
  intro N0 W0 fm ts a w ct Q hS fS hQ
  simp only[run]at h
  obtain⟨bh,h1,h2⟩:=fS.ak9 (P:=P) rfl
  exact h2 (gN hT m t st h N0 W0 fm ts a w bh Q hS h1 hQ)
 |m+1,.ops []::t,st,h=>by
  intro N0 W0 fm ts a w ct Q hS fS hQ
  simp only[run]at h
  obtain⟨arr,is,bh,h1,h2,h3,h4,h5⟩:=fS.aib (P:=P) rfl
  cases is with
  |nil=>exact h5 (gN hT m t st h N0 W0 fm ts a w bh Q hS h4 hQ)
  |cons=>simp at h1
 |m+1,.ops (o::os)::t,st,h=>by
  intro N0 W0 fm ts a w ct Q hS fS hQ
  obtain⟨arr,is,bh,h1,h2,h3,h4,h5⟩:=fS.aib (P:=P) rfl
  cases is with
  |nil=>simp at h1
  |cons i is=>
   simp only[List.map_cons,List.cons.injEq]at h1
   obtain⟨h1,td⟩:=h1
   have hi:i<arr.size:=h2 i List.mem_cons_self
   have dH:arr[i]?=some arr[i]:=Bv hi
   have yA:arr.getD i default=arr[i]:=by simp[Array.getD,hi]
   rw[yA]at h1
   simp only[jX,mz,An.mk.injEq,and_true]at h1
   obtain⟨nh,lP,hty,jG⟩:=h1
   have hd:∀ d,o.dst=some d->d<n:=h3 o List.mem_cons_self
   have y7:∀ {fm' ts'},Be N0 fm ts fm' ts'->Bo N0 W0 n fm' ts' (.ops os::t) (.ops arr is::bh):=fun hl=>
    (Bo.ops td (fun j hj=>h2 j (List.mem_cons_of_mem _ hj)) (fun o ho=>h3 o (List.mem_cons_of_mem _ ho)) h4).later hl
   apply h5
   simp only[wpOpsIn,dH]
   have aga:∀ (m':Nat),(∀ todo st,AJ P n Φ (run T m' todo st)->AK P n Φ todo st)->AJ P n Φ (aa0 T (run T m') o (.ops os::t) st)->(arr[i]).wpIn FW 0 P a w (wpOpsIn FW 0 P arr (K P Q bh) is) (K P Q bh):=by
    intro m' zk h
    unfold aa0 at h
    split at h
    ·
     rename_i c hc
     unfold ad9 at h
     split at h
     ·rename_i g args fD
      simp only[AJ]at h
      obtain⟨fX,gU,R,Rp,hmv,⟨hE,hac⟩,hk,hpk⟩:=h
      obtain⟨vs,fo,bf,bV⟩:=xw (w:=w) hS.tm fD hc lP hE
      have adu:Au fm (cL::ts) (AV.de 1 args) vs:=by
       refine⟨by rw[mQ];exact fo.1,?_⟩
       intro i x v hx hv
       rw[mP,mS]at hx
       obtain⟨y,hy,rfl⟩:=hx
       exact(fo.2 i y v hy hv).sh 1 (by simp)
      obtain⟨dR,dL,dt,jC,am5⟩:=hmv N0 W0 a w fm ts _ hS adu
      refine zN bV bf ?_
      refine Calls.mono (hac N0 W0 dR dL w _ dt.hr am5) ?_
      rintro e w' (⟨v,av,aU,H',fm',t',ts',rfl,hR,adD,bX,bp,dA,lQ,bx,je⟩|⟨ch,H',fm',ts',rfl,hR,adD,bX,dA,lQ,bx⟩)
      ·have hlen:H'.length=fX.low.length+1:=by simpa using adD
       obtain⟨du,eK,dG⟩:=dt.gz bX bp dA lQ bx je hlen hd o.drop
       have kd:=hk av aU H' hR N0 W0 fm' du _ w' (.ops arr is::bh) Q eK (y7 (jC.trans dG)) (fun e ao a' w' iK jU jq ig jD=>hQ e ao a' w' iK jU jq ig ((jC.trans dG).trans jD))
       rw[nh]at kd
       exact kd
      ·have hlen:H'.length=fX.low.length+1:=by simpa using adD
       obtain⟨eK,dG⟩:=dt.lost bX dA lQ bx hlen
       exact DN (hQ _ _ _ _ _ _ (hpk ch H' hR) eK (jC.trans dG)) bh
     ·simp only[AJ]at h
    ·
     split at h
     ·
      rename_i x oo
      unfold adR at oo
      split at oo
      ·rename_i x' hox
       obtain rfl:=oi oo
       unfold aeI at h
       split at h
       ·rename_i v hv
        simp only[AJ]at h
        obtain⟨t0,x0,rfl,hk⟩:=h
        have bp:=rR hS.tm hv
        have ahi:(arr[i]).op=.panic x':=by rw[<-lP];exact hox
        generalize vI:a.eval x'=z at bp
        cases bp with
        |bR _ _ u hu=>
         have bf:(execOp a.eval arr[i]).run P w=.halt (.panic (.iface t0 u)) w:=by
          simp only[execOp,ahi,vI,Instr.panic,goPanic]
          rfl
         refine apf (fun c0 h0=>by rw[ahi]at h0;cases h0) bf ?_
         exact DN (hQ _ _ _ _ _ _ (hk fm ts u hu) hS (Be.refl _ _)) bh
       ·simp only[AJ]at h
      ·cases oo
     cases bg:abw T o.op (look st.tm) with
     |some es=>
      rw[bg]at h
      simp only[zP,AJ]at h
      obtain⟨bw,pR⟩:=h
      unfold abw at bg
      split at bg
      ·rename_i tt x ty0 hoo
       split at bg
       ·rename_i ti hti
        split at bg
        ·rename_i el yn
         split at bg
         ·rename_i ez es' hx
          obtain rfl:=oi bg
          obtain⟨bW,_⟩:=hT.slice hti yn
          obtain⟨v,hv,bp⟩:=hS.tm x _ hx
          obtain⟨aa,nn,cc,rfl,tK⟩:∃ aa nn cc,v=.slice aa nn cc/\(aa=none->es'=[]):=by
           cases bp with
           |cd=>exact⟨_,_,_,rfl,fun _=>rfl⟩
           |sl=>exact⟨_,_,_,rfl,fun h=>by cases h⟩
          have vI:a.eval (.tmp x)=.slice aa nn cc:=by simp[Act.eval,hv,Array.getD_eq_getD_getElem?]
          have ahh:(arr[i]).op=.binOp .eql tt (.tmp x) (.const (.slice none 0 0)) ty0:=by rw[<-lP];exact hoo
          have bf:(execOp a.eval arr[i]).run P w=.ok (.value (.bool aa.isNone)) w:=by
           have h1:=amC (P:=P) (a:=aa) (n:=nn) (c:=cc) (w:=w) bW
           have h2:a.eval (.const (.slice none 0 0))=.slice none 0 0:=by simp[Act.eval]
           simp only[execOp,ahh,vI,h2]
           exact dY h1
          have ho:∀ b:Bool,aa.isNone=b->Out N0 W0 fm ts (st.fr::st.low) w st.nx ((execOp a.eval arr[i]).run P w) ⟨.bool b,[]⟩ fm ts w (.bool b):=fun b hb=>
           ⟨.inl (by rw[bf,hb]),hS.hr,.bool b,AN.refl _ _,As.refl _,fun _ _ _ h=>h⟩
          refine zO (fun c0 h0=>by rw[ahh]at h0;cases h0) bf ?_
          cases hb:aa.isNone with
          |true=>
           obtain⟨eK,dG⟩:=hS.by (ho true hb) hd o.drop
           have n9:es'=[]:=tK (by simpa using hb)
           have kd:=bw n9 N0 W0 fm ts _ w (.ops arr is::bh) Q eK (y7 dG) (fun e ao a' w' iK jU jq ig jD=>hQ e ao a' w' iK jU jq ig (dG.trans jD))
           rw[nh]at kd
           exact kd
          |false=>
           obtain⟨eK,dG⟩:=hS.by (ho false hb) hd o.drop
           have kd:=pR N0 W0 fm ts _ w (.ops arr is::bh) Q eK (y7 dG) (fun e ao a' w' iK jU jq ig jD=>hQ e ao a' w' iK jU jq ig (dG.trans jD))
           rw[nh]at kd
           exact kd
         ·cases bg
        ·cases bg
       ·cases bg
      ·cases bg
     |none=>
     rw[bg]at h
     simp only[zP]at h
     unfold next at h
     split at h
     ·rename_i d rm
      have hG:st.get=Heap.get (st.fr::st.low):=rfl
      rw[lP,hty,hG]at rm
      obtain⟨fm',ts',w',v,ho⟩:=ah5 (P:=P) hT hS.hr (by simp) (fun k h1 _=>hS.nx k h1) hS.tm rm
      obtain⟨eK,dG⟩:=hS.by ho hd o.drop
      have kd:=zk _ _ h N0 W0 fm' ts' _ w' (.ops arr is::bh) Q eK (y7 dG) (fun e ao a' w' iK jU jq ig jD=>hQ e ao a' w' iK jU jq ig (dG.trans jD))
      rw[nh]at kd
      have bV:∀ c,(arr[i]).op≠.defer c:=fun c0 h0=>by rw[h0]at rm;simp[bE]at rm
      rcases ho.done with hr|⟨hr,rfl⟩
      ·exact zO bV hr kd
      ·exact aei bV hr kd
     ·simp only[AJ]at h
   have mg:∀ (m':Nat),(∀ todo st,AJ P n Φ (run T m' todo st)->AK P n Φ todo st)->AJ P n Φ (run T m' (.ops os::t) (st.mg o))->wpOpsIn FW 0 P arr (K P Q bh) is (a.put (arr[i]).dst undef) w:=by
    intro m' zk h
    have eK:=hS.mg hd
    have kd:=zk _ _ h N0 W0 fm ts _ w (.ops arr is::bh) Q eK (y7 (Be.refl _ _)) hQ
    rw[nh]at kd
    exact kd
   cases hg:o.guard with
   |none=>
    rw[hg]at jG
    have hw:Region.wanted arr[i] (yielded arr a.tmps)=true:=by
     have:(arr[i]).guard=none:=by
      cases hh:(arr[i]).guard with
      |none=>rfl
      |some g=>rw[hh]at jG;cases jG
     simp[Region.wanted,this]
    simp only[run,hg]at h
    rw[if_pos hw]
    exact aga m (gN hT m) h
   |some g=>
    obtain⟨g,want⟩:=g
    rw[hg]at jG
    obtain⟨j,hj,ec⟩:∃ j,(arr[i]).guard=some (j,want)/\(((arr[j]?).bind (·.dst)).getD n)=g:=by
     cases hh:(arr[i]).guard with
     |none=>rw[hh]at jG;cases jG
     |some p=>
      rw[hh]at jG
      simp only[A5,oE,Prod.mk.injEq]at jG
      exact⟨p.1,by rw[jG.2],jG.1.symm⟩
    have lT:∀ v,a.tmps[g]?=some v->yielded arr a.tmps j=match v with|.bool b=>some b|_=>none:=by
     intro v hv
     unfold yielded
     cases hb:(arr[j]?).bind (·.dst) with
     |none=>
      rw[hb]at ec
      simp only[Option.getD_none]at ec
      have:=(CF.1 hv).1
      rw[hS.size]at this
      subst ec
      exact absurd this (Nat.lt_irrefl _)
     |some dd=>
      rw[hb]at ec
      simp only[Option.getD_some]at ec
      subst ec
      simp only[Af,hv]
      cases v<;>rfl
    simp only[run,hg]at h
    split at h
    ·rename_i b hb
     obtain⟨v,hv,bp⟩:=hS.tm g _ hb
     cases bp
     have hw:Region.wanted arr[i] (yielded arr a.tmps)=(b==want):=by
      simp[Region.wanted,hj,lT _ hv]
     rw[hw]
     cases ji:(b==want) with
     |true=>
      rw[ji,aeK]at h
      rw[if_pos rfl]
      cases m with
      |zero=>simp only[run,AJ]at h
      |succ m=>
       simp only[run]at h
       exact aga m (gN hT m) h
     |false=>
      rw[ji,aeJ]at h
      simp only[C3,if_false]
      exact⟨fun _ _=>trivial,mg m (gN hT m) h⟩
    ·rename_i hb
     obtain⟨v,hv,bp⟩:=hS.tm g _ hb
     have hw:Region.wanted arr[i] (yielded arr a.tmps)=false:=by
      have:yielded arr a.tmps j=none:=by rw[lT _ hv];cases bp;rfl
      simp[Region.wanted,hj,this]
     rw[hw]
     simp only[C3,if_false]
     exact⟨fun _ _=>trivial,mg m (gN hT m) h⟩
    ·simp only[AJ]at h
 |m+1,.sc s::t,st,h=>by
  intro N0 W0 fm ts a w ct Q hS fS hQ
  obtain⟨c,bh,lO,hb,hf,ht,hK⟩:=fS.aeB (P:=P) rfl
  apply hK
  cases s with
  |skip=>
   simp only[run]at h
   have:=gN hT m t st h N0 W0 fm ts a w bh Q hS ht hQ
   cases c<;>simp only[SC.bare,erase,reduceCtorEq]at hb
   case skip=>exact Ir this
   case label=>exact Ih this
   case region id ops dr=>cases dr<;>simp[erase]at hb
   case scope b=>exact absurd rfl (lO b)
  |lf ops=>
   simp only[run]at h
   cases c<;>try (simp only[SC.bare,erase,reduceCtorEq]at hb;done)
   case region id arr dr=>
    cases dr with
    |true=>simp[SC.bare,erase]at hb
    |false=>
     simp only[SC.bare,erase,SC.lf.injEq]at hb
     refine FF ?_
     refine gN hT m _ st h N0 W0 fm ts a w _ Q hS ?_ hQ
     refine .ops (by rw[hb,apL]) (by simp) ?_ ht
     simp only[erase,SC.fits,List.all_eq_true]at hf
     intro o ho d hd
     have:jX o∈ops.map jX:=List.mem_map_of_mem ho
     rw[hb]at this
     have:=hf _ this
     simp only[jX,hd]at this
     simpa using this
   case scope b=>exact absurd rfl (lO b)
  |aO ops mo drop=>
   simp only[run,AJ]at h
   exact h N0 W0 fm ts a w (.code c::bh) Q hS (.sc hb hf ht) hQ
  |mark b=>
   simp only[run,AJ]at h
   exact h N0 W0 fm ts a w (.code c::bh) Q hS (.sc (by simpa only [SC.bare] using hb) hf ht) hQ
  |seq x y=>
   simp only[run]at h
   cases c<;>simp only[SC.bare,erase,reduceCtorEq]at hb
   case seq cx cy=>
    simp only[SC.seq.injEq]at hb
    simp only[erase,SC.fits,A7]at hf
    exact C1 (gN hT m _ st h N0 W0 fm ts a w _ Q hS (.sc hb.1 hf.1 (.sc hb.2 hf.2 ht)) hQ)
   case region id ops dr=>cases dr<;>simp[erase]at hb
   case scope b=>exact absurd rfl (lO b)
  |cond cc x y=>
   simp only[run]at h
   cases c<;>simp only[SC.bare,erase,reduceCtorEq]at hb
   case cond c1 cx cy=>
    simp only[SC.cond.injEq]at hb
    obtain⟨rfl,hbx,hby⟩:=hb
    simp only[erase,SC.fits,A7]at hf
    split at h
    ·rename_i b hbv
     have hv:=rR hS.tm hbv
     have he:a.eval cc=.bool b:=by
      generalize a.eval cc=z at hv
      cases hv;rfl
     refine Ic he ?_
     cases b with
     |true=>rw[aeK]at h;exact gN hT m _ st h N0 W0 fm ts a w _ Q hS (.sc hbx hf.1 ht) hQ
     |false=>rw[aeJ]at h;exact gN hT m _ st h N0 W0 fm ts a w _ Q hS (.sc hby hf.2 ht) hQ
    ·simp only[AJ]at h
   case region id ops dr=>cases dr<;>simp[erase]at hb
   case scope b=>exact absurd rfl (lO b)
  |block id b=>
   simp only[run]at h
   cases c<;>simp only[SC.bare,erase,reduceCtorEq]at hb
   case block rE cb=>
    simp only[SC.block.injEq]at hb
    obtain⟨rfl,hb⟩:=hb
    simp only[erase,SC.fits]at hf
    exact D8 (gN hT m _ st h N0 W0 fm ts a w _ Q hS (.sc hb hf (.al ht)) hQ)
   case region id ops dr=>cases dr<;>simp[erase]at hb
   case scope b=>exact absurd rfl (lO b)
  |loop b=>
   simp only[run,AJ]at h
   exact h N0 W0 fm ts a w (.code c::bh) Q hS (.sc hb hf ht) hQ
  |exit id=>
   simp only[run]at h
   cases c<;>simp only[SC.bare,erase,reduceCtorEq]at hb
   case exit rE=>
    simp only[SC.exit.injEq]at hb
    subst hb
    refine Ig ?_
    have hx:=ht.amH (P:=P) id
    split at h
    ·rename_i t' eE
     obtain⟨ct2,h1,h2⟩:=hx.1 t' eE
     exact h2 (gN hT m t' st h N0 W0 fm ts a w ct2 Q hS h1 hQ)
    ·rename_i hn
     simp only[AJ]at h
     exact hx.2 hn (hQ _ _ _ _ _ _ h hS (Be.refl _ _))
   case region id ops dr=>cases dr<;>simp[erase]at hb
   case scope b=>exact absurd rfl (lO b)
  |ret=>
   simp only[run,AJ]at h
   cases c<;>simp only[SC.bare,erase,reduceCtorEq]at hb
   case ret=>exact Io (Dv (hQ _ _ _ _ _ _ h hS (Be.refl _ _)) _)
   case region id ops dr=>cases dr<;>simp[erase]at hb
   case scope b=>exact absurd rfl (lO b)
  |other=>simp only[run,AJ]at h
end
section
variable [Md] {P:Program}{T:AM}{N0:Nat}{W0:World}{n:Nat}{fm:FM}{ts:List Ak}{Φ:Exit->St->Prop}
def Ah (n:Nat) (st ao:St):Prop:=∀ N0 W0 a w fm ts,SR N0 W0 n st a w fm ts->∃ fm' ts',SR N0 W0 n ao a w fm' ts'/\Be N0 fm ts fm' ts'
theorem Ah.trans {n:Nat}{a b c:St} (h:Ah n a b) (k:Ah n b c):Ah n a c:=by
 intro N0 W0 x w fm ts hS
 obtain⟨f1,t1,h1,h2⟩:=h N0 W0 x w fm ts hS
 obtain⟨f2,t2,h3,h4⟩:=k N0 W0 x w f1 t1 h1
 exact⟨f2,t2,h3,h2.trans h4⟩
theorem AK.su {todo:List It}{st ao:St} (hw:Ah n st ao) (h:AK P n Φ todo ao):AK P n Φ todo st:=by
 intro N0 W0 fm ts a w ct Q hS fS hQ
 obtain⟨fm',ts',h1,h2⟩:=hw N0 W0 a w fm ts hS
 exact h N0 W0 fm' ts' a w ct Q h1 (fS.later h2) (fun e s x w' f t jq hs hl=>hQ e s x w' f t jq hs (h2.trans hl))
theorem AK.mono {Ψ:Exit->St->Prop} (jq:∀ e st,Φ e st->Ψ e st) {todo:List It}{st:St} (h:AK P n Φ todo st):AK P n Ψ todo st:=by
 intro N0 W0 fm ts a w ct Q hS fS hQ
 exact h N0 W0 fm ts a w ct Q hS fS (fun e s x w' f t hp hs hl=>hQ e s x w' f t (jq e s hp) hs hl)
theorem AK.loop (Inv:Nat->St->Prop) (m:Nat) {st wH:St}{b:SC}{todo:List It} (hw:Ah n st wH) (h0:Inv m wH)
  (h:∀ m st,Inv m st->AK P n Φ (.sc b::.back (fun ao=>∃ abU m',m'<m/\Ah n ao abU/\Inv m' abU)::todo) st):AK P n Φ (.sc (.loop b)::todo) st:=by
 refine AK.su hw ?_
 intro N0 W0 fm ts a w ct Q hS fS hQ
 obtain⟨c,bh,lO,hb,hf,ht,hK⟩:=fS.aeB (P:=P) rfl
 apply hK
 cases c<;>simp only[SC.bare,erase,reduceCtorEq]at hb
 case loop cb=>
  simp only[SC.loop.injEq]at hb
  simp only[erase,SC.fits]at hf
  refine FD (fun m a w=>∃ st fm' ts',Inv m st/\SR N0 W0 n st a w fm' ts'/\Be N0 fm ts fm' ts') m ⟨wH,fm,ts,h0,hS,Be.refl _ _⟩ ?_
  rintro m a w ⟨st,fm',ts',hI,cJ,hL⟩
  refine h m st hI N0 W0 fm' ts' a w _ Q cJ (.sc hb hf (.back ?_ (ht.later hL))) (fun e s x w' f t hp hs hl=>hQ e s x w' f t hp hs (hL.trans hl))
  rintro ao a' w' dS du ⟨abU,m',ae,tR,hI'⟩ eK dG
  obtain⟨iK,jU,h3,h4⟩:=tR N0 W0 a' w' dS du eK
  exact⟨m',ae,abU,iK,jU,hI',h3,(hL.trans dG).trans h4⟩
 case region id ops dr=>cases dr<;>simp[erase]at hb
 case scope b=>exact absurd rfl (lO b)
def idx:List Nat->Nat->Option Nat
 |[],_=>none
 |x::l,k=>if x=k then some 0 else (idx l k).map (·+1)
theorem adP:∀ (ks:List Nat) (k i:Nat),idx ks k=some i->ks[i]?=some k
 |[],k,i,h=>by simp[idx]at h
 |x::l,k,i,h=>by
  simp only[idx]at h
  split at h
  ·rename_i e
   obtain rfl:=oi h
   simp[e]
  ·simp only[mS]at h
   obtain⟨j,h1,rfl⟩:=h
   simpa using adP l k j h1
def qy (ks:List Nat) (l k:Nat):Option Nat:=
 match l with
 |0=>idx ks k
 |_+1=>some k
mutual
def AV.aQ (ks:List Nat):AV->Option AV
 |.loc l k e i n g=>(qy ks l k).map fun k=>.loc l k e i n g
 |.bF l k e o n=>(qy ks l k).map fun k=>.bF l k e o n
 |.ptr l k o=>(qy ks l k).map fun k=>.ptr l k o
 |.bq l k e i o g=>(qy ks l k).map fun k=>.bq l k e i o g
 |.fn f a b=>match AV.dI ks a,AV.dI ks b with
  |some a,some b=>some (.fn f a b)
  |_,_=>none
 |.bR t v=>(v.aQ ks).map (.bR t)
 |.agg cs=>(AV.dI ks cs).map .agg
 |.ar vs=>(AV.dI ks vs).map .ar
 |.bool b=>some (.bool b)
 |.int k n=>some (.int k n)
 |.str s=>some (.str s)
 |.nil=>some .nil
 |.sl e es=>some (.sl e es)
 |.bG=>some .bG
 |.aA e es i o=>some (.aA e es i o)
 |.bP=>some .bP
 |.bS=>some .bS
 |.raw r_=>some (.raw r_)
 |.dead=>some .dead
def AV.dI (ks:List Nat):List AV->Option (List AV)
 |[]=>some []
 |x::l=>match x.aQ ks,AV.dI ks l with
  |some x,some l=>some (x::l)
  |_,_=>none
end
def eY (ks:List Nat) (t:Ak):Ak:=fun i=>(ks[i]?).bind t
theorem qD {ks:List Nat}{t:Ak}{rest:List Ak}{l k k':Nat} (h:qy ks l k=some k'):tb (eY ks t::rest) l k'=tb (t::rest) l k:=by
 cases l with
 |zero=>simp only[tb,eY,adP ks k k' h,Af]
 |succ l=>simp only[qy,oE]at h;subst h;rfl
theorem uf (ks:List Nat):∀ (cs ys:List AV),AV.dI ks cs=some ys->ys.length=cs.length/\∀ (i:Nat) (x:AV),cs[i]?=some x->∃ y,ys[i]?=some y/\x.aQ ks=some y
 |[],ys,h=>by simp only[AV.dI,oE]at h;subst h;simp
 |x::l,ys,h=>by
  simp only[AV.dI]at h
  split at h
  ·rename_i a b ha hb
   obtain rfl:=oi h
   have ih:=uf ks l b hb
   refine⟨by simp[ih.1],?_⟩
   intro i z hz
   cases i with
   |zero=>simp only[BV,oE]at hz;subst hz;exact⟨a,by simp,ha⟩
   |succ i=>simp only[Cb]at hz ⊢;exact ih.2 i z hz
  ·cases h
theorem aiz {ks:List Nat}{x y:AV} (h:x.aQ ks=some y):y.flat=x.flat:=by
 cases x with
 |fn f a b=>
  simp only[AV.aQ]at h
  split at h
  ·obtain rfl:=oi h;simp[AV.flat]
  ·cases h
 |_=>
  first
  |(simp only[AV.aQ,oE]at h;subst h;simp[AV.flat];done)
  |(simp only[AV.aQ,mS]at h;obtain⟨a,_,rfl⟩:=h;simp[AV.flat];done)
theorem VR.aQ {ks:List Nat}{t:Ak}{rest:List Ak}{fY:List Ak}{x:AV}{v:Value} (hv:VR fm fY x v):fY=t::rest->∀ {y:AV},x.aQ ks=some y->VR fm (eY ks t::rest) y v:=by
 induction hv with
 |bool b=>intro _ y e;simp only[AV.aQ,oE]at e;subst e;exact .bool b
 |int k n=>intro _ y e;simp only[AV.aQ,oE]at e;subst e;exact .int k n
 |str s=>intro _ y e;simp only[AV.aQ,oE]at e;subst e;exact .str s
 |nil=>intro _ y e;simp only[AV.aQ,oE]at e;subst e;exact .nil
 |cd e a cap=>intro _ y e;simp only[AV.aQ,oE]at e;subst e;exact .cd _ a cap
 |sl es cb off esz cap u bU h1 h2 h3 h4 _=>intro _ y e;simp only[AV.aQ,oE]at e;subst e;exact .sl es cb off esz cap u bU h1 h2 h3 h4
 |cH l k esz i n g a cp h dU ha=>
  rintro rfl y e;simp only[AV.aQ,mS]at e;obtain⟨k',hk,rfl⟩:=e;exact .cH _ _ esz i n g a cp ((qD hk).trans h) dU ha
 |cI l k esz i n g a cp m' c h ae dU ha=>
  rintro rfl y e;simp only[AV.aQ,mS]at e;obtain⟨k',hk,rfl⟩:=e;exact .cI _ _ esz i n g a cp m' c ((qD hk).trans h) ae dU ha
 |cv l k esz a h=>
  rintro rfl y e;simp only[AV.aQ,mS]at e;obtain⟨k',hk,rfl⟩:=e;exact .cv _ _ esz a ((qD hk).trans h)
 |loc l k esz i n g c cap cp a h dU bI hc ha=>
  rintro rfl y e;simp only[AV.aQ,mS]at e;obtain⟨k',hk,rfl⟩:=e;exact .loc _ _ esz i n g c cap cp a ((qD hk).trans h) dU bI hc ha
 |bF l k esz o n c cp a h dU ha=>
  rintro rfl y e;simp only[AV.aQ,mS]at e;obtain⟨k',hk,rfl⟩:=e;exact .bF _ _ esz o n c cp a ((qD hk).trans h) dU ha
 |bG=>intro _ y e;simp only[AV.aQ,oE]at e;subst e;exact .bG
 |ptr l k o c h=>
  rintro rfl y e;simp only[AV.aQ,mS]at e;obtain⟨k',hk,rfl⟩:=e;exact .ptr _ _ o c ((qD hk).trans h)
 |ey l k esz i o g a h=>
  rintro rfl y e;simp only[AV.aQ,mS]at e;obtain⟨k',hk,rfl⟩:=e;exact .ey _ _ esz i o g a ((qD hk).trans h)
 |eA l k esz i o g a m' c h ae=>
  rintro rfl y e;simp only[AV.aQ,mS]at e;obtain⟨k',hk,rfl⟩:=e;exact .eA _ _ esz i o g a m' c ((qD hk).trans h) ae
 |bq l k esz i o g c cap h=>
  rintro rfl y e;simp only[AV.aQ,mS]at e;obtain⟨k',hk,rfl⟩:=e;exact .bq _ _ esz i o g c cap ((qD hk).trans h)
 |aA es i o cb off esz u h1 h2 h3 h4 _=>intro _ y e;simp only[AV.aQ,oE]at e;subst e;exact .aA es i o cb off esz u h1 h2 h3 h4
 |bP=>intro _ y e;simp only[AV.aQ,oE]at e;subst e;exact .bP
 |fn f first cap vf vc h1 h2 _ _ iq iu=>
  intro e0 y e
  simp only[AV.aQ]at e
  split at e
  ·rename_i a b ha hb
   obtain rfl:=oi e
   have g1:=uf ks _ _ ha
   have g2:=uf ks _ _ hb
   refine .fn f _ _ vf vc (g1.1.trans h1) (g2.1.trans h2) ?_ ?_
   ·intro i x v hx hv
    have ae:i<first.length:=by rw[<-g1.1];exact(gS.1 hx).1
    obtain⟨z,hz,hr⟩:=g1.2 i _ (gG ae)
    rw[hx]at hz;obtain rfl:=oi hz
    exact iq i _ v (gG ae) hv e0 hr
   ·intro i x v hx hv
    have ae:i<cap.length:=by rw[<-g2.1];exact(gS.1 hx).1
    obtain⟨z,hz,hr⟩:=g2.2 i _ (gG ae)
    rw[hx]at hz;obtain rfl:=oi hz
    exact iu i _ v (gG ae) hv e0 hr
  ·cases e
 |bS=>intro _ y e;simp only[AV.aQ,oE]at e;subst e;exact .bS
 |raw r_ jo=>intro _ y e;simp only[AV.aQ,oE]at e;subst e;exact .raw r_ jo
 |bR t x v _ ih=>
  intro e0 y e
  simp only[AV.aQ,mS]at e
  obtain⟨z,hz,rfl⟩:=e
  exact .bR t _ v (ih e0 hz)
 |agg cs vs h1 h2 _ ih=>
  intro e0 y e
  simp only[AV.aQ,mS]at e
  obtain⟨z,hz,rfl⟩:=e
  have g:=uf ks _ _ hz
  refine .agg _ vs (g.1.trans h1) ?_ ?_
  ·intro x hx
   obtain⟨i,hi⟩:=BD.1 hx
   have ae:i<cs.length:=by rw[<-g.1];exact(gS.1 hi).1
   obtain⟨q,hq,hr⟩:=g.2 i _ (gG ae)
   rw[hi]at hq;obtain rfl:=oi hq
   rw[aiz hr];exact h2 _ (List.getElem_mem ae)
  ·intro i x v hx hv
   have ae:i<cs.length:=by rw[<-g.1];exact(gS.1 hx).1
   obtain⟨q,hq,hr⟩:=g.2 i _ (gG ae)
   rw[hx]at hq;obtain rfl:=oi hq
   exact ih i _ v (gG ae) hv e0 hr
 |ar xs vs h1 _ ih=>
  intro e0 y e
  simp only[AV.aQ,mS]at e
  obtain⟨z,hz,rfl⟩:=e
  have g:=uf ks _ _ hz
  refine .ar _ vs (g.1.trans h1) ?_
  intro i x v hx hv
  have ae:i<xs.length:=by rw[<-g.1];exact(gS.1 hx).1
  obtain⟨q,hq,hr⟩:=g.2 i _ (gG ae)
  rw[hx]at hq;obtain rfl:=oi hq
  exact ih i _ v (gG ae) hv e0 hr
 |dead v=>intro _ y e;simp only[AV.aQ,oE]at e;subst e;exact .dead v
def AH.aQ (ks:List Nat):AH->Option AH
 |.arr et e es=>some (.arr et e es)
 |.box cs=>(AV.dI ks cs).map .box
def lg (ks:List Nat) (fr:Av):Nat->List Nat->Option Av
 |_,[]=>some []
 |i,k::r=>match look fr k with
  |none=>lg ks fr (i+1) r
  |some b=>match b.aQ ks,lg ks fr (i+1) r with
   |some b,some l=>some ((i,b)::l)
   |_,_=>none
def ug (ks:List Nat) (tm:List (Nat×AV)):List Nat->Option (List (Nat×AV))
 |[]=>some []
 |t::r=>match look tm t with
  |none=>none
  |some x=>match x.aQ ks,ug ks tm r with
   |some x,some l=>some ((t,x)::l)
   |_,_=>none
def St.norm (st:St) (nu ks:List Nat) (nx:Nat):Option St:=
 match ug ks st.tm nu,lg ks st.fr 0 ks with
 |some tm,some fr=>some ⟨tm,fr,st.low,nx,st.nt⟩
 |_,_=>none
theorem aiw (ks:List Nat) (fr:Av):∀ (r:List Nat) (i:Nat) (f:Av),lg ks fr i r=some f->∀ j b,look f j=some b->i<=j/\∃ k b0,r[j - i]?=some k/\look fr k=some b0/\b0.aQ ks=some b
 |[],i,f,h,j,b,hj=>by simp only[lg,oE]at h;subst h;simp[look]at hj
 |k::r,i,f,h,j,b,hj=>by
  have step:∀ f',lg ks fr (i+1) r=some f'->look f' j=some b->i<=j/\∃ k' b0,(k::r)[j - i]?=some k'/\look fr k'=some b0/\b0.aQ ks=some b:=by
   intro f' h1 h2
   obtain⟨h3,k',b0,h4,h5,h6⟩:=aiw ks fr r (i+1) f' h1 j b h2
   refine⟨by omega,k',b0,?_,h5,h6⟩
   have e:j - i=(j - (i+1))+1:=by omega
   rw[e,Cb];exact h4
  simp only[lg]at h
  split at h
  ·exact step f h hj
  ·rename_i b0 fC
   split at h
   ·rename_i b' l bQ hl
    obtain rfl:=oi h
    simp only[look]at hj
    split at hj
    ·rename_i e
     subst e
     obtain rfl:=oi hj
     exact⟨Bd _,k,b0,by simp,fC,bQ⟩
    ·exact step l hl hj
   ·cases h
theorem aew (ks:List Nat) (tm:List (Nat×AV)):∀ (r:List Nat) (f:List (Nat×AV)),ug ks tm r=some f->∀ t y,look f t=some y->∃ x,look tm t=some x/\x.aQ ks=some y
 |[],f,h,t,y,hy=>by simp only[ug,oE]at h;subst h;simp[look]at hy
 |t0::r,f,h,t,y,hy=>by
  simp only[ug]at h
  split at h
  ·cases h
  ·rename_i x hx
   split at h
   ·rename_i x' l iS hl
    obtain rfl:=oi h
    simp only[look]at hy
    split at hy
    ·rename_i e
     subst e
     obtain rfl:=oi hy
     exact⟨x,hx,iS⟩
    ·exact aew ks tm r l hl t y hy
   ·cases h
theorem HR.aQ {t:Ak}{rest:List Ak}{fr aU:Av}{low:Heap}{w:World}{ks:List Nat} (h:HR N0 W0 fm (t::rest) (fr::low) w) (hf:lg ks fr 0 ks=some aU) (bV:ks.Nodup):
  HR N0 W0 fm (eY ks t::rest) (aU::low) w:=by
 have src:∀ l k b,Heap.get (aU::low) l k=some b->∃ k0 b0,Heap.get (fr::low) l k0=some b0/\tb (eY ks t::rest) l k=tb (t::rest) l k0/\(l=0->ks[k]?=some k0/\b0.aQ ks=some b)/\(l≠0->k0=k/\b0=b):=by
  intro l k b hg
  cases l with
  |zero=>
   obtain⟨_,k0,b0,h1,h2,h3⟩:=aiw ks fr ks 0 aU hf k b (by simpa [Heap.get] using hg)
   have h1:ks[k]?=some k0:=by simpa using h1
   exact⟨k0,b0,by simpa [Heap.get] using h2,by simp[tb,eY,h1],fun _=>⟨h1,h3⟩,fun h=>absurd rfl h⟩
  |succ l=>exact⟨k,b,by simpa [Heap.get] using hg,by simp[tb],fun h=>by omega,fun _=>⟨rfl,rfl⟩⟩
 refine⟨by have:=h.len;simpa using this,?_,?_,h.bO,?_,h.dg,h.size,h.cT,h.dZ⟩
 ·intro l k b hg
  obtain⟨k0,b0,h1,h2,h3,h4⟩:=src l k b hg
  rw[h2]
  have hb:=h.al l k0 b0 h1
  cases l with
  |zero=>
   obtain⟨_,hr⟩:=h3 rfl
   simp only[List.drop_zero]at hb ⊢
   generalize tb (t::rest) 0 k0=tt at hb
   cases hb with
   |box c cs hN hB=>
    simp only[AH.aQ,mS]at hr
    obtain⟨ys,hy,rfl⟩:=hr
    have g:=uf ks _ _ hy
    obtain⟨cells,et,c1,c2,c3⟩:=hB
    refine .box c _ hN ⟨cells,et,c1,by rw[g.1];exact c2,?_⟩
    intro o x v hx hv
    have ae:o<cs.length:=by rw[<-g.1];exact(gS.1 hx).1
    obtain⟨z,hz,hzr⟩:=g.2 o _ (gG ae)
    rw[hx]at hz;obtain rfl:=oi hz
    have:=c3 o _ v (gG ae) hv
    exact⟨by rw[aiz hzr];exact this.1,this.2.aQ rfl hzr⟩
   |nil et esz=>simp only[AH.aQ,oE]at hr;subst hr;exact .nil et esz
   |arr et esz es c cap hN hA=>simp only[AH.aQ,oE]at hr;subst hr;exact .arr et esz es c cap hN hA
  |succ l=>
   obtain⟨rfl,rfl⟩:=h4 (by omega)
   simpa using hb
 ·intro l1 k1 l2 k2 b1 b2 c g1 g2 t1 t2
  obtain⟨j1,a1,p1,q1,r1,s1⟩:=src l1 k1 b1 g1
  obtain⟨j2,a2,p2,q2,r2,s2⟩:=src l2 k2 b2 g2
  rw[q1]at t1
  rw[q2]at t2
  obtain⟨rfl,rfl⟩:=h.inj l1 j1 l2 j2 a1 a2 c p1 p2 t1 t2
  refine⟨rfl,?_⟩
  by_cases hl:l1=0
  ·have e1:=(r1 hl).1
   have e2:=(r2 hl).1
   have tF:=(gS.1 e1).1
   exact(List.getElem?_inj tF bV).1 (e1.trans e2.symm)
  ·have e1:=(s1 hl).1
   have e2:=(s2 hl).1
   omega
 ·intro l k b c o hg ht
  obtain⟨k0,b0,h1,h2,_,_⟩:=src l k b hg
  rw[h2]at ht
  exact h.dh l k0 b0 c o h1 ht
theorem Ah.norm {st ao:St}{nu ks:List Nat}{nx:Nat} (e:st.norm nu ks nx=some ao) (bV:ks.Nodup) (kg:ks.length<=nx):Ah n st ao:=by
 intro N0 W0 a w fm ts h
 unfold St.norm at e
 split at e
 ·rename_i tm fr eF pN
  obtain rfl:=oi e
  cases ts with
  |nil=>have:=h.hr.len;simp at this
  |cons t rest=>
   refine⟨fm,eY ks t::rest,⟨h.hr.aQ pN bV,?_,?_,h.size,h.dX⟩,⟨AN.refl _ _,As.refl _,fun _ _ h=>h⟩⟩
   ·intro i y hy
    obtain⟨x,h1,h2⟩:=aew ks st.tm nu tm eF i y hy
    obtain⟨v,h3,h4⟩:=h.tm i x h1
    exact⟨v,h3,h4.aQ rfl h2⟩
   ·intro k hk
    have eQ:nx<=k:=hk
    simp only[tb,eY]
    rw[CL (by omega)];rfl
 ·cases e
end
section
variable [Md] {P:Program}{T:AM}{N0:Nat}{W0:World}{n:Nat}{fm:FM}{ts:List Ak}
def abG (T:AM) (st:St):ResultVar->Option AV
 |.tmp t=>look st.tm t
 |.cell a t=>match T t,look st.tm a with
  |some ti,some x=>nT st.get ti x
  |_,_=>none
def gM (T:AM) (st:St):List ResultVar->Option (List AV)
 |[]=>some []
 |r::l=>match abG T st r,gM T st l with
  |some x,some l=>some (x::l)
  |_,_=>none
def bZ:List AV->AV
 |[x]=>x
 |l=>.ar l
theorem ap8 (hT:AQ P T) {st:St}{a:Act}{w:World} (h:SR N0 W0 n st a w fm ts) {r:ResultVar}{x:AV} (e:abG T st r=some x):
  ∃ v,(match r with
   |.tmp t=>(pure (a.tmps.getD t undef):Sem Value)
   |.cell b t=>do loadVar t (<-asAddr (a.tmps.getD b undef))).run P w=.ok v w/\VR fm ts x v:=by
 cases r with
 |tmp t=>
  obtain⟨v,h1,h2⟩:=h.tm t x e
  exact⟨v,by simp[Array.getD_eq_getD_getElem?,h1],h2⟩
 |cell b t=>
  simp only[abG]at e
  split at e
  ·rename_i ti y ht hy
   obtain⟨v,h1,h2⟩:=h.tm b y hy
   obtain⟨u,h3,h4⟩:=af8 (P:=P) hT ht h.hr h2 e
   refine⟨u,?_,h4⟩
   have hg:a.tmps.getD b undef=v:=by simp[Array.getD_eq_getD_getElem?,h1]
   unfold nT at e
   cases hc:iH st.get ti.size y with
   |none=>rw[hc]at e;cases e
   |some cs=>
    obtain⟨ad,vs,rfl,_⟩:=h.hr.iH h2 hc
    simp only[hg,asAddr,Sem.run_bind,Sem.run_pure,Result.andThen_ok]
    simpa [Instr.loadAt,Instr.sureAddr] using h3
  ·cases e
theorem rY (hT:AQ P T) {st:St}{a:Act}{w:World} (h:SR N0 W0 n st a w fm ts) {fn:Func}{xs:List AV} (e:gM T st fn.results.toList=some xs):
  ∃ v,(results fn a.tmps).run P w=.ok v w/\VR fm ts (bZ xs) v:=by
 have key:∀ (l:List ResultVar) (xs:List AV),gM T st l=some xs->∃ vs:List Value,(l.mapM (m:=Sem) fun
   |.tmp t=>(pure (a.tmps.getD t undef):Sem Value)
   |.cell b t=>do loadVar t (<-asAddr (a.tmps.getD b undef))).run P w=.ok vs w/\Au fm ts xs vs:=by
  intro l
  induction l with
  |nil=>intro xs e;simp only[gM,oE]at e;subst e;exact⟨[],by simp,rfl,fun i x v h=>by simp at h⟩
  |cons r l ih=>
   intro xs e
   simp only[gM]at e
   split at e
   ·rename_i x l' hx hl
    obtain rfl:=oi e
    obtain⟨v,h1,h2⟩:=ap8 (P:=P) hT h hx
    obtain⟨vs,h3,h4⟩:=ih l' hl
    refine⟨v::vs,?_,by simp[h4.1],?_⟩
    ·simp only[List.mapM_cons,Sem.run_bind,h1,h3,Result.andThen_ok,Sem.run_pure]
    ·intro i y u hy hu
     cases i with
     |zero=>simp only[BV,oE]at hy hu;subst hy hu;exact h2
     |succ i=>simp only[Cb]at hy hu;exact h4.2 i y u hy hu
   ·cases e
 obtain⟨vs,h1,h2⟩:=key _ _ e
 have hr:(results fn a.tmps).run P w=.ok (if h:vs.toArray.size=1 then vs.toArray[0] else .tuple vs.toArray) w:=by
  unfold results
  rw[<-Array.toArray_toList (xs:=fn.results),List.mapM_toArray]
  simp only[Sem.run_bind,Sem.run_map,Sem.run_pure]
  erw [h1]
  rfl
 refine⟨_,hr,?_⟩
 have hl:=h2.1
 match xs,vs,hl,h2 with
 |[],[],_,h2=>exact .ar [] #[] rfl (fun i x v h=>by simp at h)
 |[x],[v],_,h2=>exact h2.2 0 x v rfl rfl
 |x::y::xs,v::u::vs,_,h2=>
  have:¬ ((v::u::vs).toArray.size=1):=by simp
  rw[dif_neg this]
  exact .ar _ _ (by simpa using h2.1) (fun i x v a b=>h2.2 i x v a (by simpa using b))
def sF:Nat->List AV->List (Nat×AV)
 |_,[]=>[]
 |i,x::l=>(i,x)::sF (i+1) l
theorem ae2:∀ (l:List AV) (i t:Nat) (x:AV),look (sF i l) t=some x->i<=t/\l[t - i]?=some x
 |[],i,t,x,h=>by simp[sF,look]at h
 |y::l,i,t,x,h=>by
  simp only[sF,look]at h
  split at h
  ·rename_i e
   subst e
   obtain rfl:=oi h
   exact⟨Bd _,by simp⟩
  ·obtain⟨h1,h2⟩:=ae2 l (i+1) t x h
   refine⟨by omega,?_⟩
   have e:t - i=(t - (i+1))+1:=by omega
   rw[e,Cb];exact h2
def St.enter (args:List AV) (H:Heap) (n:Nat):St:=⟨sF 0 args,[],H,0,n⟩
theorem HR.push {H:Heap}{w:World} (h:HR N0 W0 fm ts H w):HR N0 W0 fm (cL::ts) ([]::H) w:=by
 refine⟨by simp[h.len],?_,?_,h.bO,?_,h.dg,h.size,h.cT,h.dZ⟩
 ·intro l k b hg
  cases l with
  |zero=>simp[Heap.get,look]at hg
  |succ l=>simpa [tb] using h.al l k b (by simpa [Heap.get] using hg)
 ·intro l1 k1 l2 k2 b1 b2 c g1 g2 t1 t2
  cases l1 with
  |zero=>simp[Heap.get,look]at g1
  |succ l1=>
   cases l2 with
   |zero=>simp[Heap.get,look]at g2
   |succ l2=>
    have:=h.inj l1 k1 l2 k2 b1 b2 c (by simpa [Heap.get] using g1) (by simpa [Heap.get] using g2) (by simpa [tb] using t1) (by simpa [tb] using t2)
    exact⟨by omega,this.2⟩
 ·intro l k b c o hg ht
  cases l with
  |zero=>simp[Heap.get,look]at hg
  |succ l=>exact h.dh l k b c o (by simpa [Heap.get] using hg) (by simpa [tb] using ht)
theorem SR.enter {H:Heap}{w:World} (h:HR N0 W0 fm ts H w) {args:List AV}{vs:List Value} (hv:Au fm (cL::ts) args vs) {n:Nat} (hn:args.length<=n) (hm:Dw W0:=by exact Dw.kY _):
  SR N0 W0 n (St.enter args H n) { tmps:=vs.toArray++Array.replicate (n - vs.toArray.size) undef,defers:=Md.uX } w fm (cL::ts):=by
 have hl:=hv.1
 refine⟨h.push,?_,fun k _=>rfl,by simp;omega,rfl,hm⟩
 intro t x hx
 obtain⟨_,hx⟩:=ae2 args 0 t x hx
 simp only[Nat.sub_zero]at hx
 have ae:t<vs.length:=by rw[<-hl];exact(gS.1 hx).1
 refine⟨vs[t],?_,hv.2 t x _ hx (gG ae)⟩
 rw[Array.getElem?_append_left (by simpa using ae)]
 simp[ae]
inductive D5 (R:AV->Av->Heap->Prop) (v:AV) (st:St):Prop
 |own (ks:List Nat) (y:AV) (fr:Av) (hn:ks.Nodup) (hk:ks.length<=16) (hy:v.aQ ks=some y) (hf:lg ks st.fr 0 ks=some fr) (h:R y fr st.low)
 |ai (y:AV) (hy:v.ai st.get=some y) (hr:(v.refs.all fun p=>p.1==0)=true) (h:R y [] st.low)
def Ends (T:AM) (rs:List ResultVar) (R:AV->Av->Heap->Prop) (e:Exit) (st:St):Prop:=
 match e with
 |.normal|.ret=>∃ xs,gM T st rs=some xs/\D5 R (bZ xs) st
 |_=>False
theorem HR.pop {t:Ak}{f:Av}{H:Heap}{w:World} (h:HR N0 W0 fm (t::ts) (f::H) w):HR N0 W0 fm ts H w:=by
 refine⟨by have:=h.len;simpa using this,?_,?_,h.bO,?_,h.dg,h.size,h.cT,h.dZ⟩
 ·intro l k b hg
  simpa [tb] using h.al (l+1) k b (by simpa [Heap.get] using hg)
 ·intro l1 k1 l2 k2 b1 b2 c g1 g2 t1 t2
  have:=h.inj (l1+1) k1 (l2+1) k2 b1 b2 c (by simpa [Heap.get] using g1) (by simpa [Heap.get] using g2) (by simpa [tb] using t1) (by simpa [tb] using t2)
  exact⟨by omega,this.2⟩
 ·intro l k b c o hg ht
  exact h.dh (l+1) k b c o (by simpa [Heap.get] using hg) (by simpa [tb] using ht)
theorem ahB {r:List (Nat×Nat)} (hr:(r.all fun p=>p.1==0)=true):∀ (f:Av) (H:Heap),∃ f',Heap.bL (f::H) (hX r)=f'::H:=by
 induction r with
 |nil=>intro f H;exact⟨f,rfl⟩
 |cons p r ih=>
  intro f H
  simp only[List.all_cons,A7,beq_iff_eq]at hr
  obtain⟨l,k⟩:=p
  obtain⟨h1,h2⟩:=hr
  simp only at h1
  subst h1
  exact ih h2 (del f k) H
end
section
variable {P:Program}{T:AM}{N0:Nat}{W0:World}{n:Nat}{fm:FM}{ts:List Ak}
theorem Cy.gr (hT : AQ P T) {f : FuncId} {fn : Func} {c : Code} {sc : SC} {args : List AV} {H : Heap} {R : AV → Av → Heap → Prop} (hf : P.funcs[f]? = some fn) (hb : fn.body = some c) (jl : (fn.name == "runtime.NumGoroutine") = false)
  (he:sc.bare=erase fn.ntmps c) (eN:(erase fn.ntmps c).fits fn.ntmps=true) (fo:args.length<=fn.ntmps)
  (h:AK P fn.ntmps (Ends T fn.results.toList fun y fr H'=>R y fr H') [.sc sc] (St.enter args H fn.ntmps)) (jH:∀ y fr H',R y fr H'->H'.length=H.length):Cy P f args H R:=by
 refine⟨⟨fn,hf,jl,by simp[hb]⟩,?_⟩
 intro N0 W0 fm ts w vs hH hv
 refine calls_of_wp hf hb ((xe []).1 ?_)
 have hS:=SR.enter hH hv fo
 have:=h N0 W0 fm (cL::ts) _ w [.code c] (bodyPost P fn fun e w'=>∃ v av aU H' fm' t' ts',e=.returned v/\R av aU H'/\H'.length=H.length/\HR N0 W0 fm' (t'::ts') (aU::H') w'/\VR fm' (t'::ts') av v/\AN N0 fm fm'/\As ts ts'/\
   (∀ l k,tb ts l k=none->tb ts' l k=none)/\∀ k,16<=k->t' k=none) hS (.sc he eN .nil) ?_
 ·exact this
 ·intro e ao a' w' fm' ts' hE cJ hL
  have fin:(∃ xs,gM T ao fn.results.toList=some xs/\D5 R (bZ xs) ao)->a'.defers=[]/\∃ v,(results fn a'.tmps).run P w'=.ok v w'/\∃ v_1 av aU H' fm' t' ts',Ending.returned v=.returned v_1/\R av aU H'/\H'.length=H.length/\HR N0 W0 fm' (t'::ts') (aU::H') w'/\VR fm' (t'::ts') av v_1/\AN N0 fm fm'/\As ts ts'/\
    (∀ l k,tb ts l k=none->tb ts' l k=none)/\∀ k,16<=k->t' k=none:=by
   rintro⟨xs,fV,hg⟩
   obtain⟨v,h1,h2⟩:=rY (P:=P) hT cJ fV
   refine⟨cJ.dX.1,v,h1,?_⟩
   cases ts' with
   |nil=>have:=cJ.hr.len;simp at this
   |cons t rest=>
    have il:As ts rest:=by simpa using hL.jT
    have bx:∀ l k,tb ts l k=none->tb rest l k=none:=by simpa using hL.no
    cases hg with
    |own ks y fr hn hk hy pN hR=>
     exact⟨v,y,fr,ao.low,fm',eY ks t,rest,rfl,hR,jH _ _ _ hR,cJ.hr.aQ pN hn,h2.aQ rfl hy,hL.cS,il,bx,fun k eQ=>by simp only[eY];rw[CL (by omega)];rfl⟩
    |ai y hy hr hR=>
     have h3:=cJ.hr.ai (bZ xs).refs h2 hy (fun _ h=>h)
     have h4:=cJ.hr.rL (bZ xs).refs
     obtain⟨f',yw⟩:=ahB hr ao.fr ao.low
     rw[yw]at h4
     have yV:∀ l k,tb (iB (t::rest) (bZ xs).refs) (l+1) k=tb rest l k:=by
      intro l k
      rw[mh,if_neg]
      ·simp[tb]
      ·rintro⟨hm,_⟩
       have:=List.all_eq_true.1 hr _ hm
       simp at this
     have hlen:=adU (bZ xs).refs (t::rest)
     cases hg:iB (t::rest) (bZ xs).refs with
     |nil=>rw[hg]at hlen;simp at hlen
     |cons t2 aaa=>
      rw[hg]at h4 yV
      have e2:∀ l k,tb aaa l k=tb rest l k:=fun l k=>by simpa [tb] using yV l k
      have bo:=cJ.hr.u7 (bZ xs).refs
      exact⟨v,y,[],ao.low,_,cL,aaa,rfl,hR,jH _ _ _ hR,h4.pop.push,h3.mono (AZ.refl _) (As.nil _),hL.cS.trans bo,fun l k=>by rw[e2];exact il l k,fun l k hh=>by rw[e2];exact bx l k hh,fun _ _=>rfl⟩
  cases e with
  |normal=>exact fin hE
  |ret=>exact fin hE
  |_=>exact hE.elim
end
mutual
theorem adf (G:AR):∀ (x y:AV),x.ai G=some y->y.ai (fun _ _=>none)=some y
 |.loc l k e i n g,y,h=>by
  simp only[AV.ai]at h
  split at h
  ·split at h
   ·obtain rfl:=oi h;simp[AV.ai]
   ·cases h
  ·cases h
 |.nil,y,h=>by simp only[AV.ai,oE]at h;subst h;simp[AV.ai]
 |.bR t v,y,h=>by
  simp only[AV.ai,mS]at h
  obtain⟨a,h1,rfl⟩:=h
  simp only[AV.ai,adf G v a h1,A5]
 |.agg cs,y,h=>by
  simp only[AV.ai,mS]at h
  obtain⟨a,h1,rfl⟩:=h
  simp only[AV.ai,xR G cs a h1,A5]
 |.ar vs,y,h=>by
  simp only[AV.ai,mS]at h
  obtain⟨a,h1,rfl⟩:=h
  simp only[AV.ai,xR G vs a h1,A5]
 |.bool b,y,h=>by simp only[AV.ai,oE]at h;subst h;simp[AV.ai]
 |.int k n,y,h=>by simp only[AV.ai,oE]at h;subst h;simp[AV.ai]
 |.str s,y,h=>by simp only[AV.ai,oE]at h;subst h;simp[AV.ai]
 |.sl e es,y,h=>by simp only[AV.ai,oE]at h;subst h;simp[AV.ai]
 |.bG,y,h=>by simp only[AV.ai,oE]at h;subst h;simp[AV.ai]
 |.bP,y,h=>by simp only[AV.ai,oE]at h;subst h;simp[AV.ai]
 |.bS,y,h=>by simp only[AV.ai,oE]at h;subst h;simp[AV.ai]
 |.raw r_,y,h=>by simp only[AV.ai,oE]at h;subst h;simp[AV.ai]
 |.fn f a b,y,h=>by
  simp only[AV.ai]at h
  split at h
  ·rename_i x z hx hz
   obtain rfl:=oi h
   simp only[AV.ai,xR G a x hx,xR G b z hz]
  ·cases h
 |.bF ..,y,h=>by simp[AV.ai]at h
 |.ptr ..,y,h=>by simp[AV.ai]at h
 |.bq ..,y,h=>by simp[AV.ai]at h
 |.aA ..,y,h=>by simp only[AV.ai,oE]at h;subst h;simp[AV.ai]
 |.dead,y,h=>by simp[AV.ai]at h
theorem xR (G:AR):∀ (l ys:List AV),AV.aG G l=some ys->AV.aG (fun _ _=>none) ys=some ys
 |[],ys,h=>by simp only[AV.aG,oE]at h;subst h;rfl
 |x::l,ys,h=>by
  simp only[AV.aG]at h
  split at h
  ·rename_i a b ha hb
   obtain rfl:=oi h
   simp only[AV.aG,adf G x a ha,xR G l b hb]
  ·cases h
end
def AV.leaf:AV->Bool
 |.bool _|.int _ _|.str _|.nil|.bG|.bP|.bS|.raw _=>true
 |_=>false
def AV.cU:AV->Bool
 |.agg cs=>cs.all AV.leaf
 |.ar vs=>vs.all AV.leaf
 |x=>x.leaf
theorem VR.leaf {fm fm':FM}{ts ts':List Ak}{x:AV}{v:Value} (h:VR fm ts x v) (hx:x.leaf=true):VR fm' ts' x v:=by
 cases h<;>first|(simp[AV.leaf]at hx;done)|(refine .raw _ ?_;assumption)|constructor
theorem VR.cU {fm fm':FM}{ts ts':List Ak}{x:AV}{v:Value} (h:VR fm ts x v) (hx:x.cU=true):VR fm' ts' x v:=by
 cases h with
 |agg cs vs h1 h2 h3=>exact .agg cs vs h1 h2 (fun i x v a b=>(h3 i x v a b).leaf (List.all_eq_true.1 hx x (AW a)))
 |ar xs vs h1 h3=>exact .ar xs vs h1 (fun i x v a b=>(h3 i x v a b).leaf (List.all_eq_true.1 hx x (AW a)))
 |_=>first|(simp[AV.cU,AV.leaf]at hx;done)|(refine .raw _ ?_;assumption)|constructor
def Du (fm:FM) (w:World):Prop:=∀ b o v,fm b o=some v->w.cell? ⟨b,o,none⟩=some v
def Aw (P:Program) (f:FuncId) (args:List AV) (R:AV->Prop):Prop:=
 Enters P f/\∀ fm w vs,Du fm w->Au fm [] args vs->
  Calls P f vs.toArray w fun e w'=>∃ v y fm',e=.returned v/\R y/\(Du fm' w'/\EW w.heap.size fm' w')/\VR fm' [] y v/\AN w.heap.size fm fm'/\Below w.heap.size w w'
def Dx (T:AM) (rs:List ResultVar) (R:AV->Prop) (e:Exit) (st:St):Prop:=
 match e with
 |.normal|.ret=>st.low=[]/\∃ xs y,gM T st rs=some xs/\(bZ xs).ai st.get=some y/\R y
 |_=>False
section
variable {P:Program}{T:AM}{N0:Nat}{W0:World}{n:Nat}{fm:FM}{ts:List Ak}{H:Heap}{w:World}
theorem HR.nothing {w:World} (h:Du fm w):HR w.heap.size w fm [] [] w:=
 ⟨rfl,fun l k b hg=>by simp[Heap.get]at hg,fun l k l' k' b b' c hg=>by simp[Heap.get]at hg,h,fun l k b c o hg=>by simp[Heap.get]at hg,Below.refl _ _,Bd _,fun _ _ h _=>h,fun b o v hN hv _=>absurd (World.block_lt_of_cell? w _ (h b o v hv)) (by simp only;omega)⟩
theorem Aw.gr (hT : AQ P T) {f : FuncId} {fn : Func} {c : Code} {sc : SC} {args : List AV} {R : AV → Prop} (hf : P.funcs[f]? = some fn) (hb : fn.body = some c) (jl : (fn.name == "runtime.NumGoroutine") = false)
  (he:sc.bare=erase fn.ntmps c) (eN:(erase fn.ntmps c).fits fn.ntmps=true) (fo:args.length<=fn.ntmps)
  (h:AK P fn.ntmps (Dx T fn.results.toList R) [.sc sc] (St.enter args [] fn.ntmps)):Aw P f args R:=by
 have hA:Cy P f args [] (fun y fr H'=>fr=[]/\H'=[]/\y.ai (fun _ _=>none)=some y/\R y):=by
  refine Cy.gr hT hf hb jl he eN fo (h.mono ?_) (by rintro y fr H' ⟨_,rfl,_⟩;rfl)
  intro e st hE
  have fin:(st.low=[]/\∃ xs y,gM T st fn.results.toList=some xs/\(bZ xs).ai st.get=some y/\R y)->
    ∃ xs,gM T st fn.results.toList=some xs/\D5 (fun y fr H'=>fr=[]/\H'=[]/\y.ai (fun _ _=>none)=some y/\R y) (bZ xs) st:=by
   rintro⟨hl,xs,y,h1,h2,h3⟩
   refine⟨xs,h1,.ai y h2 ?_ ⟨rfl,hl,adf _ _ _ h2,h3⟩⟩
   rw[List.all_eq_true]
   intro p hp
   obtain⟨et,esz,es,hg⟩:=adi _ _ _ h2 p hp
   have ae:=Heap.rh _ _ _ _ (show Heap.get (st.fr::st.low) p.1 p.2=_ from hg)
   rw[hl]at ae
   simp at ae
   simp[ae]
  cases e with
  |normal=>exact fin hE
  |ret=>exact fin hE
  |_=>exact hE.elim
 refine⟨hA.1,fun fm w vs h1 h2=>Calls.mono (hA.2 w.heap.size w fm [] w vs (HR.nothing h1) (h2.mono (AZ.refl _) (As.nil _))) ?_⟩
 rintro e w' ⟨v,av,aU,H',fm',t',ts',rfl,⟨rfl,rfl,hz,hR⟩,_,bX,bp,bo,_,_,_⟩
 refine⟨v,av,fm',rfl,hR,⟨bX.bO,bX.dZ⟩,?_,bo,bX.dg⟩
 have:=bX.pe (cs:=[av]) (ys:=[av]) (vs:=[v]) ⟨rfl,fun i x u a b=>by
  cases i with
  |zero=>simp at a b;subst a b;exact bp
  |succ i=>simp at a⟩ (by simp only[AV.aG,hz])
 exact this.2 0 av v rfl rfl
theorem HR.up {fm':FM}{w':World} (h:HR N0 W0 fm ts H w) (hb:Below w.heap.size w w') (bo:AN w.heap.size fm fm') (bB:Du fm' w'/\EW w.heap.size fm' w'):HR N0 W0 fm' ts H w':=by
 have h1:=h.world (w':=w') (fun i hi=>hb.block i hi) (hb.mono h.size)
 refine⟨h1.len,fun l k b hg=>(h1.al l k b hg).mono bo.le (As.refl _) (fun _ _=>rfl),h1.inj,bB.1,?_,h1.dg,h1.size,h1.cT,fun b o v hN hv ht=>?_⟩
 rotate_right
 ·by_cases bQ:b<w.heap.size
  ·rw[bo.fix b o bQ]at hv
   rw[bo.fit b bQ]at ht
   exact(h.dZ b o v hN hv ht).of (hb.block b bQ)
  ·exact bB.2 b o v (by omega) hv ht
 intro l k b c o hg ht
 rw[bo.fix c o ((h.al l k b hg).lt ht).1]
 exact h.dh l k b c o hg ht
theorem AN.low {fm fm':FM}{a b:Nat} (h:AN a fm fm') (hb:b<=a):AN b fm fm':=⟨h.le,fun x o hx=>h.fix x o (by omega),fun x hx=>h.fit x (by omega),h.new⟩
theorem Aw.frozen {f:FuncId}{args ay:List AV}{R:AV->Prop} (hp:Aw P f ay R) (hz:AV.aG (Heap.get ([]::H)) args=some ay) (hr:AV.aN args=[]):
  Cy P f args H (fun y fr H'=>R y/\fr=[]/\H'=H):=by
 refine⟨hp.1,fun N0 W0 fm ts w vs hH hv=>?_⟩
 have h1:=hH.push.aG [] hv hz (by rw[hr];simp)
 rw[aa9]at h1
 refine Calls.mono (hp.2 fm w vs hH.bO h1) ?_
 rintro e w' ⟨v,y,fm',rfl,hR,bB,bp,bo,hb⟩
 exact⟨v,y,[],H,fm',cL,ts,rfl,⟨hR,rfl,rfl⟩,rfl,(hH.up hb bo bB).push,bp.mono (AZ.refl _) (As.nil _),bo.low hH.size,As.refl _,fun _ _ h=>h,fun _ _=>rfl⟩
theorem Aw.borrow {f:FuncId}{args ay:List AV}{R:AV->Prop} (hp:Aw P f ay R) (hz:AV.aG (Heap.get ([]::H)) args=some ay) (hs:∀ y,R y->y.cU=true):
  Cy P f args H (fun y fr H'=>R y/\fr=[]/\H'=H):=by
 refine⟨hp.1,fun N0 W0 fm ts w vs hH hv=>?_⟩
 have h1:=hH.push.aG (AV.aN args) hv hz (fun _ h=>h)
 have h2:=(hH.push.rL (AV.aN args)).bO
 refine Calls.mono (hp.2 _ w vs h2 h1) ?_
 rintro e w' ⟨v,y,fm',rfl,hR,bB,bp,bo,hb⟩
 have ka:HR N0 W0 fm ts H w':=hH.world (fun i hi=>hb.block i hi) (hb.mono hH.size)
 exact⟨v,y,[],H,fm,cL,ts,rfl,⟨hR,rfl,rfl⟩,rfl,ka.push,bp.cU (hs y hR),AN.refl _ _,As.refl _,fun _ _ h=>h,fun _ _=>rfl⟩
end
mutual
def AV.br (G:AR) (F:Nat->Nat->Option (List AV)):AV->Option AV
 |.loc l k e i n g=>(AV.loc l k e i n g).ai G
 |.ptr l k o=>match F l k with
  |some ys=>some (.aA ys.length [ys] 0 o)
  |none=>none
 |.bF l k e o n=>match F l k with
  |some ys=>if e=1/\o+n<=ys.length/\n<=65536 then some (.sl 1 (((ys.drop o).take n).map fun c=>[c])) else none
  |none=>none
 |.fn f a b=>match AV.cW G F a,AV.cW G F b with
  |some a,some b=>some (.fn f a b)
  |_,_=>none
 |.bR t v=>(v.br G F).map (.bR t)
 |.agg cs=>(AV.cW G F cs).map .agg
 |.ar vs=>(AV.cW G F vs).map .ar
 |.nil=>some .nil
 |.bool b=>some (.bool b)
 |.int k n=>some (.int k n)
 |.str s=>some (.str s)
 |.sl e es=>some (.sl e es)
 |.bG=>some .bG
 |.bP=>some .bP
 |.bS=>some .bS
 |.raw r_=>some (.raw r_)
 |.aA e es i o=>some (.aA e es i o)
 |_=>none
def AV.cW (G:AR) (F:Nat->Nat->Option (List AV)):List AV->Option (List AV)
 |[]=>some []
 |x::l=>match x.br G F,AV.cW G F l with
  |some x,some l=>some (x::l)
  |_,_=>none
end
def cQ (G:AR):Nat->Nat->Nat->Option (List AV)
 |0,_,_=>none
 |n+1,l,k=>match G l k with
  |some (.box cs)=>AV.cW G (cQ G n) (AV.de l cs)
  |_=>none
theorem pr (G:AR) (F:Nat->Nat->Option (List AV)):∀ (cs ys:List AV),AV.cW G F cs=some ys->ys.length=cs.length/\∀ (i:Nat) (x:AV),cs[i]?=some x->∃ y,ys[i]?=some y/\x.br G F=some y
 |[],ys,h=>by simp only[AV.cW,oE]at h;subst h;simp
 |x::l,ys,h=>by
  simp only[AV.cW]at h
  split at h
  ·rename_i a b ha hb
   obtain rfl:=oi h
   have ih:=pr G F l b hb
   refine⟨by simp[ih.1],?_⟩
   intro i z hz
   cases i with
   |zero=>simp only[BV,oE]at hz;subst hz;exact⟨a,by simp,ha⟩
   |succ i=>simp only[Cb]at hz ⊢;exact ih.2 i z hz
  ·cases h
theorem acD {G:AR}{F:Nat->Nat->Option (List AV)}{x y:AV} (h:x.br G F=some y):y.flat=x.flat:=by
 cases x with
 |loc l k e i n g=>simp only[AV.br]at h;exact aba h
 |ptr l k o=>
  simp only[AV.br]at h
  split at h
  ·obtain rfl:=oi h;rfl
  ·cases h
 |bF l k e o n=>
  simp only[AV.br]at h
  split at h
  ·split at h
   ·obtain rfl:=oi h;rfl
   ·cases h
  ·cases h
 |fn f a b=>
  simp only[AV.br]at h
  split at h
  ·obtain rfl:=oi h;rfl
  ·cases h
 |_=>
  first
  |(simp[AV.br]at h;done)
  |(simp only[AV.br,oE]at h;subst h;simp[AV.flat];done)
  |(simp only[AV.br,mS]at h;obtain⟨a,_,rfl⟩:=h;simp[AV.flat];done)
section
variable {N0:Nat}{W0:World}{fm:FM}{ts:List Ak}{H:Heap}{w:World}
def pG (w:World):FM:=⟨fun b o=>w.cell? ⟨b,o,none⟩,fun _=>0⟩
noncomputable def fI (ts:List Ak) (H:Heap) (c:Nat):Nat:=if lr ts H c=0 then 1 else lr ts H c
theorem aiU (ts:List Ak) (H:Heap) (c:Nat):fI ts H c≠0:=by unfold fI;split<;>omega
theorem HR.aqz {N0:Nat}{W0:World}{fm:FM}{ts:List Ak}{H:Heap}{w:World} (h:HR N0 W0 fm ts H w) {l k c et z:Nat}{es:List (List AV)} (hg:H.get l k=some (.arr et z es)) (ht:bz (tb ts l k)=some c):Abs.fI ts H c=z:=by
 have h1:=h.lr hg ht
 have hb:=h.al l k _ hg
 cases hq:tb ts l k with
 |none=>rw[hq]at ht;simp[bz]at ht
 |some x=>
  rw[hq]at hb
  cases hb with
  |nil=>rw[hq]at ht;simp[bz]at ht
  |arr _ _ _ c' cap hN hA=>
   obtain⟨_,_,_,_,_,_,hz,_⟩:=hA
   unfold Abs.fI
   rw[h1,if_neg (by omega)]
theorem HR.aeG {N0:Nat}{W0:World}{fm:FM}{ts:List Ak}{H:Heap}{w:World} (h:HR N0 W0 fm ts H w) {l k c:Nat}{cs:List AV} (hg:H.get l k=some (.box cs)) (ht:bz (tb ts l k)=some c):Abs.fI ts H c=1:=by
 have h1:Abs.lr ts H c=0:=by
  unfold Abs.lr
  rw[dif_neg]
  rintro⟨z,l',k',et,es,bm,eE⟩
  obtain⟨rfl,rfl⟩:=h.inj _ _ _ _ _ _ _ hg bm ht eE
  rw[hg]at bm
  cases bm
 unfold Abs.fI
 rw[if_pos h1]
open Classical in
noncomputable def lG (fm:FM) (w:World) (ts:List Ak) (H:Heap):FM:=⟨fun b o=>w.cell? ⟨b,o,none⟩,fun b=>if ∃ o v,fm b o=some v then fm.t b else fI ts H b⟩
theorem HR.aoA {N0:Nat}{W0:World}{fm:FM}{ts:List Ak}{H:Heap}{w:World} (h:HR N0 W0 fm ts H w):AZ fm (lG fm w ts H):=
 ⟨fun b o v hv=>h.bO b o v hv,fun b o v hv=>if_pos ⟨o,v,hv⟩⟩
theorem HR.aiY {N0:Nat}{W0:World}{fm:FM}{ts:List Ak}{H:Heap}{w:World} (h:HR N0 W0 fm ts H w) {l k c:Nat}{b:AH} (hg:H.get l k=some b) (ht:bz (tb ts l k)=some c):(lG fm w ts H).t c=fI ts H c:=by
 refine if_neg ?_
 rintro⟨o,v,hv⟩
 rw[h.dh l k b c o hg ht]at hv
 cases hv
theorem HR.brG (h:HR N0 W0 fm ts H w) {fm':FM}{G:AR} (hle:AZ fm fm') (hG:∀ l k b,G l k=some b->H.get l k=some b) (bu:∀ l k b c,G l k=some b->bz (tb ts l k)=some c->fm'.t c=Abs.fI ts H c/\∀ o u,w.cell? ⟨c,o,none⟩=some u->fm' c o=some u) (F:Nat->Nat->Option (List AV)) (hF:∀ l k ys c,F l k=some ys->tb ts l k=some (.box c)->(fm'.t c=1/\∀ o u,w.cell? ⟨c,o,none⟩=some u->fm' c o=some u)/\∃ cells et,w.heap[c]?=some (.cells cells et (0,0))/\cells.size=ys.length/\
   ∀ (o:Nat) y v,ys[o]?=some y->cells[o]?=some v->y.flat=true/\VR fm' [] y v) {fY:List Ak}{x:AV}{v:Value} (hv:VR fm fY x v):
  fY=ts->∀ {y:AV},x.br G F=some y->VR fm' [] y v:=by
 have loc:∀ {l k esz i n g v y},VR fm ts (.loc l k esz i n g) v->(AV.loc l k esz i n g).ai G=some y->VR fm' [] y v:=by
  intro l k esz i n g v y hv hy
  have jK:(AV.loc l k esz i n g).ai H.get=some y/\∃ b,G l k=some b:=by
   simp only[AV.ai]at hy ⊢
   split at hy
   ·rename_i et aM es hg
    rw[hG l k _ hg];exact⟨hy,_,hg⟩
   ·cases hy
  obtain⟨hy1,b0,fC⟩:=jK
  refine(h.ai [(l,k)] hv hy1 (by simp[AV.refs])).mono ⟨?_,?_⟩ (As.refl _)
  ·intro b o u hu
   unfold gm at hu
   simp only at hu
   split at hu
   ·rename_i hb
    obtain⟨l',k',b',hm,hg,_,ht⟩:=hb
    simp only[CM,Prod.mk.injEq]at hm
    obtain⟨rfl,rfl⟩:=hm
    exact(bu l' k' b0 b fC ht).2 o u hu
   ·exact hle.le b o u hu
  ·intro b o u hu
   unfold gm at hu ⊢
   simp only at hu ⊢
   split at hu
   ·rename_i hb
    rw[if_pos hb]
    have jh:=hb
    obtain⟨l',k',b',hm,hg,ha,ht⟩:=hb
    simp only[CM,Prod.mk.injEq]at hm
    obtain⟨rfl,rfl⟩:=hm
    rw[(bu l' k' b0 b fC ht).1]
    have bg:=(h.aaN jh).1
    show Abs.fI ts H b=Abs.lr ts H b
    unfold Abs.fI
    rw[if_neg]
    exact bg
   ·rename_i hb
    rw[if_neg hb]
    exact hle.tg b o u hu
 induction hv with
 |bool b=>intro _ y e;simp only[AV.br,oE]at e;subst e;exact .bool b
 |int k n=>intro _ y e;simp only[AV.br,oE]at e;subst e;exact .int k n
 |str s=>intro _ y e;simp only[AV.br,oE]at e;subst e;exact .str s
 |nil=>intro _ y e;simp only[AV.br,oE]at e;subst e;exact .nil
 |cd e0 a cap=>intro _ y e;simp only[AV.br,oE]at e;subst e;exact .cd e0 a cap
 |sl es cb off esz cap u bU h1 h2 h3 h4 _=>intro _ y e;simp only[AV.br,oE]at e;subst e;exact(VR.sl es cb off esz cap u bU h1 h2 h3 h4 (ts:=[])).mono hle (As.refl _)
 |cH l k esz i n g a cp ht hn ha=>rintro rfl y e;exact loc (.cH l k esz i n g a cp ht hn ha) (by simpa only [AV.br] using e)
 |cI l k esz i n g a cp m' c ht ae hn ha=>rintro rfl y e;exact loc (.cI l k esz i n g a cp m' c ht ae hn ha) (by simpa only [AV.br] using e)
 |cv l k esz a ht=>rintro rfl y e;exact loc (.cv l k esz a ht) (by simpa only [AV.br] using e)
 |loc l k esz i n g c cap cp a ht hn bI hc ha=>rintro rfl y e;exact loc (.loc l k esz i n g c cap cp a ht hn bI hc ha) (by simpa only [AV.br] using e)
 |bF l k esz o n c cp a ht hn ha=>
  rintro rfl y e
  simp only[AV.br]at e
  split at e
  ·rename_i ys lU
   split at e
   ·rename_i hc
    obtain⟨rfl,arO,hn6⟩:=hc
    obtain rfl:=oi e
    obtain⟨b9,cells,et,c1,c2,c3⟩:=hF l k ys c lU ht
    have hlen:(((ys.drop o).take n).map fun c=>[c]).length=n:=by simp;omega
    have get:∀ (i:Nat) (d:List AV),(((ys.drop o).take n).map fun c=>[c])[i]?=some d->∃ x,d=[x]/\ys[o+i]?=some x:=by
     intro i d hd
     rw[Bx,mS]at hd
     obtain⟨x,hx,rfl⟩:=hd
     rw[BP]at hx
     split at hx
     ·rw[Cf]at hx;exact⟨x,rfl,hx⟩
     ·cases hx
    by_cases hcp:cp=0
    ·have:n=0:=by omega
     subst this
     simp only[List.take_zero,List.map_nil]
     exact .cd 1 (some a) cp
    ·have gn:=ha hcp
     subst gn
     have one:∀ (i:Nat) (d:List AV) (o':Nat) (x:AV),(((ys.drop o).take n).map fun c=>[c])[i]?=some d->d[o']?=some x->o'=0/\∃ u,cells[o+i]?=some u/\x.flat=true/\VR fm' [] x u:=by
      intro i d o' x hd hx
      obtain⟨y,rfl,hy⟩:=get i d hd
      cases o' with
      |succ o'=>simp at hx
      |zero=>
       simp only[BV,oE]at hx
       subst hx
       have ae:o+i<cells.size:=by rw[c2];exact(gS.1 hy).1
       have rl:=Bv ae
       exact⟨rfl,_,rl,c3 (o+i) y _ hy rl⟩
     have:=VR.sl (fm:=fm') (ts:=[]) (((ys.drop o).take n).map fun c=>[c]) c o 1 cp (fun i _=>(cells[o+i]?).getD default) (by rw[hlen];exact⟨hn,by simp[maxLen];omega⟩) (by
       intro d hd
       simp only[List.mem_map]at hd
       obtain⟨z,_,rfl⟩:=hd;rfl)
      (by
       intro i d o' x hd hx
       obtain⟨rfl,u,hu,_,_⟩:=one i d o' x hd hx
       refine⟨b9.2 _ _ ?_,.inr b9.1⟩
       simp only[World.cell?,c1,Nat.mul_one,Nat.add_zero,hu]
       simp)
      (fun i d o' x hd hx=>(one i d o' x hd hx).2.elim fun u hu=>hu.2.1)
      (by
       intro i d o' x hd hx
       obtain⟨rfl,u,hu,_,hv⟩:=one i d o' x hd hx
       rw[hu]
       exact hv)
     rw[hlen]at this
     exact this
   ·cases e
  ·cases e
 |bG=>intro _ y e;simp only[AV.br,oE]at e;subst e;exact .bG
 |ptr l k o c ht=>
  rintro rfl y e
  simp only[AV.br]at e
  split at e
  ·rename_i ys lU
   obtain rfl:=oi e
   obtain⟨b9,cells,et,c1,c2,c3⟩:=hF l k ys c lU ht
   have one:∀ (i:Nat) (cc:List AV) (o:Nat) (x:AV),[ys][i]?=some cc->cc[o]?=some x->i=0/\∃ u,cells[o]?=some u/\x.flat=true/\VR fm' [] x u:=by
    intro i cc o x hi ho
    cases i with
    |succ i=>simp at hi
    |zero=>
     simp only[BV,oE]at hi
     subst hi
     have ae:o<cells.size:=by rw[c2];exact(gS.1 ho).1
     have rl:=Bv ae
     exact⟨rfl,_,rl,c3 o x _ ho rl⟩
   have:=VR.aA (fm:=fm') (ts:=[]) [ys] 0 o c 0 ys.length (fun _ o=>(cells[o]?).getD default) (by intro cc b9;simp at b9;rw[b9])
    (by
     intro i cc o x hi ho
     obtain⟨rfl,u,hu,_,_⟩:=one i cc o x hi ho
     refine⟨b9.2 _ _ ?_,.inr (.inr b9.1)⟩
     simp only[World.cell?,c1,Nat.zero_mul,Cq,hu]
     simp)
    (fun i cc o x hi ho=>(one i cc o x hi ho).2.elim fun u hu=>hu.2.1)
    (by
     intro i cc o x hi ho
     obtain⟨rfl,u,hu,_,hv⟩:=one i cc o x hi ho
     rw[hu]
     exact hv)
   simpa using this
  ·cases e
 |ey l k esz i o g a ht=>intro _ y e;simp[AV.br]at e
 |eA l k esz i o g a m' c ht ae=>intro _ y e;simp[AV.br]at e
 |bq l k esz i o g c cap ht=>intro _ y e;simp[AV.br]at e
 |aA es i o cb off esz u h1 h2 h3 h4 _=>intro _ y e;simp only[AV.br,oE]at e;subst e;exact(VR.aA es i o cb off esz u h1 h2 h3 h4 (ts:=[])).mono hle (As.refl _)
 |bP=>intro _ y e;simp only[AV.br,oE]at e;subst e;exact .bP
 |fn f first cap vf vc h1 h2 _ _ iq iu=>
  rintro rfl y e
  simp only[AV.br]at e
  split at e
  ·rename_i a b ha hb
   simp only[oE]at e;subst e
   have g1:=pr G F _ _ ha
   have g2:=pr G F _ _ hb
   refine .fn f a b vf vc (by rw[g1.1];exact h1) (by rw[g2.1];exact h2) ?_ ?_
   ·intro i x v hx hv
    have ae:i<first.length:=by rw[<-g1.1];exact(gS.1 hx).1
    obtain⟨y,hy,hu⟩:=g1.2 i _ (gG ae)
    rw[hx]at hy;obtain rfl:=oi hy
    exact iq i _ v (gG ae) hv rfl hu
   ·intro i x v hx hv
    have ae:i<cap.length:=by rw[<-g2.1];exact(gS.1 hx).1
    obtain⟨y,hy,hu⟩:=g2.2 i _ (gG ae)
    rw[hx]at hy;obtain rfl:=oi hy
    exact iu i _ v (gG ae) hv rfl hu
  ·cases e
 |bS=>intro _ y e;simp only[AV.br,oE]at e;subst e;exact .bS
 |raw r_ jo=>intro _ y e;simp only[AV.br,oE]at e;subst e;exact .raw r_ jo
 |bR t x v _ ih=>
  rintro rfl y e;simp only[AV.br,mS]at e;obtain⟨z,hz,rfl⟩:=e
  exact .bR t z v (ih rfl hz)
 |agg cs vs h1 h2 _ ih=>
  rintro rfl y e;simp only[AV.br,mS]at e;obtain⟨z,hz,rfl⟩:=e
  have g:=pr G F _ _ hz
  refine .agg z vs (by rw[g.1];exact h1) ?_ ?_
  ·intro x hx
   obtain⟨i,hi⟩:=BD.1 hx
   have ae:i<cs.length:=by rw[<-g.1];exact(gS.1 hi).1
   obtain⟨y,hy,hu⟩:=g.2 i _ (gG ae)
   rw[hi]at hy;obtain rfl:=oi hy
   rw[acD hu]
   exact h2 _ (List.getElem_mem ae)
  ·intro i x v hx hv
   have ae:i<cs.length:=by rw[<-g.1];exact(gS.1 hx).1
   obtain⟨y,hy,hu⟩:=g.2 i _ (gG ae)
   rw[hx]at hy;obtain rfl:=oi hy
   exact ih i _ v (gG ae) hv rfl hu
 |ar xs vs h1 _ ih=>
  rintro rfl y e;simp only[AV.br,mS]at e;obtain⟨z,hz,rfl⟩:=e
  have g:=pr G F _ _ hz
  refine .ar z vs (by rw[g.1];exact h1) ?_
  intro i x v hx hv
  have ae:i<xs.length:=by rw[<-g.1];exact(gS.1 hx).1
  obtain⟨y,hy,hu⟩:=g.2 i _ (gG ae)
  rw[hx]at hy;obtain rfl:=oi hy
  exact ih i _ v (gG ae) hv rfl hu
 |dead v=>intro _ y e;simp[AV.br]at e
theorem HR.br (h:HR N0 W0 fm ts H w) (F:Nat->Nat->Option (List AV)) (hF:∀ l k ys c,F l k=some ys->tb ts l k=some (.box c)->((lG fm w ts H).t c=1/\∀ o u,w.cell? ⟨c,o,none⟩=some u->(lG fm w ts H) c o=some u)/\∃ cells et,w.heap[c]?=some (.cells cells et (0,0))/\cells.size=ys.length/\
   ∀ (o:Nat) y v,ys[o]?=some y->cells[o]?=some v->y.flat=true/\VR (lG fm w ts H) [] y v) {fY:List Ak}{x:AV}{v:Value} (hv:VR fm fY x v):
  fY=ts->∀ {y:AV},x.br H.get F=some y->VR (lG fm w ts H) [] y v:=by
 intro e y hy
 exact h.brG h.aoA (fun _ _ _ h=>h) (fun l k b c hg ht=>⟨h.aiY hg ht,fun _ _ h=>h⟩) F (fun l k ys c a b=>hF l k ys c a b) hv e hy
theorem HR.brs (h:HR N0 W0 fm ts H w) (F:Nat->Nat->Option (List AV)) (hF:∀ l k ys c,F l k=some ys->tb ts l k=some (.box c)->((lG fm w ts H).t c=1/\∀ o u,w.cell? ⟨c,o,none⟩=some u->(lG fm w ts H) c o=some u)/\∃ cells et,w.heap[c]?=some (.cells cells et (0,0))/\cells.size=ys.length/\
   ∀ (o:Nat) y v,ys[o]?=some y->cells[o]?=some v->y.flat=true/\VR (lG fm w ts H) [] y v) {cs ys:List AV}{vs:List Value} (hv:Au fm ts cs vs) (e:AV.cW H.get F cs=some ys):Au (lG fm w ts H) [] ys vs:=by
 have g:=pr H.get F _ _ e
 refine⟨g.1.trans hv.1,?_⟩
 intro i x v hx tU
 have ae:i<cs.length:=by rw[<-g.1];exact(gS.1 hx).1
 obtain⟨y,hy,hu⟩:=g.2 i _ (gG ae)
 rw[hx]at hy;obtain rfl:=oi hy
 exact h.br F hF (hv.2 i _ v (gG ae) tU) rfl hu
theorem HR.cQ (h:HR N0 W0 fm ts H w):∀ (n l k:Nat) (ys:List AV) (c:Nat),cQ H.get n l k=some ys->tb ts l k=some (.box c)->((lG fm w ts H).t c=1/\∀ o u,w.cell? ⟨c,o,none⟩=some u->(lG fm w ts H) c o=some u)/\∃ cells et,w.heap[c]?=some (.cells cells et (0,0))/\cells.size=ys.length/\
   ∀ (o:Nat) y v,ys[o]?=some y->cells[o]?=some v->y.flat=true/\VR (lG fm w ts H) [] y v:=by
 intro n
 induction n with
 |zero=>intro l k ys c e;simp[Abs.cQ]at e
 |succ n ih=>
  intro l k ys c e ht
  simp only[Abs.cQ]at e
  split at e
  ·rename_i cs hg
   have hb:=h.al l k _ hg
   rw[ht]at hb
   cases hb with
   |box _ _ hN hB=>
    obtain⟨cells,et,c1,c2,c3⟩:=hB
    have g:=pr _ _ _ _ e
    have hlen:cells.size=ys.length:=by rw[g.1,mQ];exact c2
    refine⟨⟨(h.aiY hg (by rw[ht];rfl)).trans (h.aeG hg (by rw[ht];rfl)),fun _ _ h=>h⟩,cells,et,c1,hlen,?_⟩
    intro o y v hy hv
    have ae:o<(AV.de l cs).length:=by rw[<-g.1];exact(gS.1 hy).1
    obtain⟨y',jK,hu⟩:=g.2 o _ (gG ae)
    rw[hy]at jK;obtain rfl:=oi jK
    have hx:(AV.de l cs)[o]?=some (AV.de l cs)[o]:=gG ae
    rw[mP,mS]at hx
    obtain⟨x0,eG,kV⟩:=hx
    have h3:=c3 o x0 v eG hv
    refine⟨by rw[acD hu,<-kV,abN];exact h3.1,?_⟩
    rw[<-kV]at hu
    exact h.br _ ih (h3.2.sh l rfl) rfl hu
  ·cases e
theorem Aw.mL {P:Program}{f:FuncId}{args ay:List AV}{R:AV->Prop} (m:Nat) (hp:Aw P f ay R) (hz:AV.cW (Heap.get ([]::H)) (Abs.cQ (Heap.get ([]::H)) m) args=some ay) (hs:∀ y,R y->y.cU=true):
  Cy P f args H (fun y fr H'=>R y/\fr=[]/\H'=H):=by
 refine⟨hp.1,fun N0 W0 fm ts w vs hH hv=>?_⟩
 have h1:=hH.push.brs _ (hH.push.cQ m) hv hz
 refine Calls.mono (hp.2 _ w vs (fun b o v h=>h) h1) ?_
 rintro e w' ⟨v,y,fm',rfl,hR,bB,bp,bo,hb⟩
 have ka:HR N0 W0 fm ts H w':=hH.world (fun i hi=>hb.block i hi) (hb.mono hH.size)
 exact⟨v,y,[],H,fm,cL,ts,rfl,⟨hR,rfl,rfl⟩,rfl,ka.push,bp.cU (hs y hR),AN.refl _ _,As.refl _,fun _ _ h=>h,fun _ _=>rfl⟩
def only (G:AR) (rs:List (Nat×Nat)):AR:=fun l k=>if rs.contains (l,k) then G l k else none
theorem HR.afD (h:HR N0 W0 fm ts H w) {fm':FM}{G:AR} (hle:AZ fm fm') (hG:∀ l k b,G l k=some b->H.get l k=some b) (bu:∀ l k b c,G l k=some b->bz (tb ts l k)=some c->fm'.t c=Abs.fI ts H c/\∀ o u,w.cell? ⟨c,o,none⟩=some u->fm' c o=some u):
  ∀ (n l k:Nat) (ys:List AV) (c:Nat),Abs.cQ G n l k=some ys->tb ts l k=some (.box c)->(fm'.t c=1/\∀ o u,w.cell? ⟨c,o,none⟩=some u->fm' c o=some u)/\∃ cells et,w.heap[c]?=some (.cells cells et (0,0))/\cells.size=ys.length/\
   ∀ (o:Nat) y v,ys[o]?=some y->cells[o]?=some v->y.flat=true/\VR fm' [] y v:=by
 intro n
 induction n with
 |zero=>intro l k ys c e;simp[Abs.cQ]at e
 |succ n ih=>
  intro l k ys c e ht
  simp only[Abs.cQ]at e
  split at e
  ·rename_i cs hg
   have hb:=h.al l k _ (hG _ _ _ hg)
   refine⟨⟨(bu l k _ c hg (by rw[ht];rfl)).1.trans (h.aeG (hG _ _ _ hg) (by rw[ht];rfl)),(bu l k _ c hg (by rw[ht];rfl)).2⟩,?_⟩
   rw[ht]at hb
   cases hb with
   |box _ _ hN hB=>
    obtain⟨cells,et,c1,c2,c3⟩:=hB
    have g:=pr _ _ _ _ e
    have hlen:cells.size=ys.length:=by rw[g.1,mQ];exact c2
    refine⟨cells,et,c1,hlen,?_⟩
    intro o y v hy hv
    have ae:o<(AV.de l cs).length:=by rw[<-g.1];exact(gS.1 hy).1
    obtain⟨y',jK,hu⟩:=g.2 o _ (gG ae)
    rw[hy]at jK;obtain rfl:=oi jK
    have hx:(AV.de l cs)[o]?=some (AV.de l cs)[o]:=gG ae
    rw[mP,mS]at hx
    obtain⟨x0,eG,kV⟩:=hx
    have h3:=c3 o x0 v eG hv
    refine⟨by rw[acD hu,<-kV,abN];exact h3.1,?_⟩
    rw[<-kV]at hu
    exact h.brG hle hG bu _ ih (h3.2.sh l rfl) rfl hu
  ·cases e
open Classical in
noncomputable def iL (fm:FM) (w:World) (ts:List Ak) (H:Heap) (rs:List (Nat×Nat)):FM:=⟨fun b o=>if (∃ l k x,(l,k)∈rs/\H.get l k=some x/\bz (tb ts l k)=some b) then w.cell? ⟨b,o,none⟩ else fm b o,fun b=>if (∃ l k x,(l,k)∈rs/\H.get l k=some x/\bz (tb ts l k)=some b) then fI ts H b else fm.t b⟩
theorem HR.aiW (h:HR N0 W0 fm ts H w) (rs:List (Nat×Nat)):HR N0 W0 (iL fm w ts H rs) ts (H.bL (hX rs)) w/\AN N0 fm (iL fm w ts H rs):=by
 have hle:AZ fm (iL fm w ts H rs):=by
  refine⟨fun b o v hv=>?_,fun b o v hv=>?_⟩
  ·unfold iL
   simp only
   split
   ·exact h.bO b o v hv
   ·exact hv
  ·unfold iL
   simp only
   rw[if_neg]
   rintro⟨l',k',x,hm,bm,eE⟩
   rw[h.dh l' k' x b o bm eE]at hv
   cases hv
 have src:∀ l k b,Heap.get (H.bL (hX rs)) l k=some b->(l,k)∉rs/\H.get l k=some b:=by
  intro l k b hg
  rw[vn]at hg
  split at hg
  ·cases hg
  ·rename_i hn;exact⟨hn,hg⟩
 refine⟨⟨by simpa using h.len,?_,?_,?_,?_,h.dg,h.size,h.cT,?_⟩,hle,?_,?_,?_⟩
 ·intro l k b hg
  exact(h.al l k b (src l k b hg).2).mono hle (As.refl _) (fun _ _=>rfl)
 ·intro l k l' k' b b' c hg bm
  exact h.inj l k l' k' b b' c (src l k b hg).2 (src l' k' b' bm).2
 ·intro b o v hv
  unfold iL at hv
  simp only at hv
  split at hv
  ·exact hv
  ·exact h.bO b o v hv
 ·intro l k b c o hg ht
  obtain⟨hn,iR⟩:=src l k b hg
  unfold iL
  simp only
  rw[if_neg]
  ·exact h.dh l k b c o iR ht
  ·rintro⟨l',k',x,hm,bm,eE⟩
   obtain⟨rfl,rfl⟩:=h.inj l k l' k' b x c iR bm ht eE
   exact hn hm
 ·intro b o v hN hv ht
  unfold iL at hv ht
  simp only at hv ht
  split at hv
  ·rename_i hb
   rw[if_pos hb]at ht
   obtain⟨l,k,x,hm,hg,hc⟩:=hb
   have eD:=h.al l k x hg
   cases hq:tb ts l k with
   |none=>rw[hq]at hc;simp[bz]at hc
   |some y=>
    rw[hq]at eD hc
    cases eD with
    |nil=>simp[bz]at hc
    |box c' cs hN hB=>
     obtain⟨cells,et,h1,_⟩:=hB
     simp only[bz,oE]at hc
     exact⟨cells,et,by rw[<-hc];exact h1⟩
    |arr et esz es c' cap hN hA=>
     obtain⟨cells,h1,_⟩:=hA
     simp only[bz,oE]at hc
     exact⟨cells,et,by rw[<-hc];exact h1⟩
  ·rename_i hb
   rw[if_neg hb]at ht
   exact h.dZ b o v hN hv ht
 ·intro b o hb
  unfold iL
  simp only
  rw[if_neg]
  rintro⟨l',k',x,hm,bm,eE⟩
  have:=((h.al l' k' x bm).lt eE).2
  omega
 ·intro b hb
  unfold iL
  simp only
  rw[if_neg]
  rintro⟨l',k',x,hm,bm,eE⟩
  have:=((h.al l' k' x bm).lt eE).2
  omega
 ·intro b o v hv
  unfold iL at hv ⊢
  simp only at hv ⊢
  split at hv
  ·rename_i hb;right;rw[if_pos hb];exact aiU _ _ _
  ·exact .inl hv
theorem Aw.take {P:Program}{f:FuncId}{args ay:List AV}{R:AV->Prop} (m:Nat) (rs:List (Nat×Nat)) (hp:Aw P f ay R) (hz:AV.cW (only (Heap.get ([]::H)) rs) (Abs.cQ (only (Heap.get ([]::H)) rs) m) args=some ay) (hr:(rs.all fun p=>0<p.1)=true):
  Cy P f args H (fun y fr H'=>R y/\fr=[]/\([]:Av)::H'=Heap.bL ([]::H) (hX rs)):=by
 refine⟨hp.1,fun N0 W0 fm ts w vs hH hv=>?_⟩
 have hP:=hH.push
 obtain⟨hT,hU⟩:=hP.aiW rs
 have hG:∀ l k b,only (Heap.get ([]::H)) rs l k=some b->Heap.get ([]::H) l k=some b:=by
  intro l k b e;unfold only at e;split at e
  ·exact e
  ·cases e
 have bu:∀ l k b c,only (Heap.get ([]::H)) rs l k=some b->bz (tb (cL::ts) l k)=some c->(iL fm w (cL::ts) ([]::H) rs).t c=Abs.fI (cL::ts) ([]::H) c/\∀ o u,w.cell? ⟨c,o,none⟩=some u->iL fm w (cL::ts) ([]::H) rs c o=some u:=by
  intro l k b c e hc
  unfold only at e
  split at e
  ·rename_i hm
   unfold iL
   simp only
   rw[if_pos ⟨l,k,b,by simpa using hm,e,hc⟩]
   refine⟨rfl,fun o u hu=>?_⟩
   rw[if_pos ⟨l,k,b,by simpa using hm,e,hc⟩]
   exact hu
  ·cases e
 have h1:Au (iL fm w (cL::ts) ([]::H) rs) [] ay vs:=by
  have g:=pr _ _ _ _ hz
  refine⟨g.1.trans hv.1,?_⟩
  intro i x v hx tU
  have ae:i<args.length:=by rw[<-g.1];exact(gS.1 hx).1
  obtain⟨y,hy,hu⟩:=g.2 i _ (gG ae)
  rw[hx]at hy;obtain rfl:=oi hy
  exact hP.brG hU.le hG bu _ (hP.afD hU.le hG bu m) (hv.2 i _ v (gG ae) tU) rfl hu
 refine Calls.mono (hp.2 _ w vs hT.bO h1) ?_
 rintro e w' ⟨v,y,fm',rfl,hR,bB,bp,bo,hb⟩
 obtain⟨f',H',hpu⟩:∃ f' H',Heap.bL ([]::H) (hX rs)=f'::H':=by
  have:=Heap.ahE (hX rs) ([]::H)
  cases hc:Heap.bL ([]::H) (hX rs) with
  |nil=>rw[hc]at this;simp at this
  |cons f' H'=>exact⟨f',H',rfl⟩
 have hf:f'=[]:=by
  have:∀ (rs:List (Nat×Nat)) (f:Av) (H:Heap),(rs.all fun p=>0<p.1)=true->∃ H',Heap.bL (f::H) (hX rs)=f::H':=by
   intro rs
   induction rs with
   |nil=>intro f H _;exact⟨H,rfl⟩
   |cons p rs ih=>
    intro f H hr
    obtain⟨l,k⟩:=p
    simp only[List.all_cons,A7,decide_eq_true_eq]at hr
    cases l with
    |zero=>omega
    |succ l=>exact ih f _ hr.2
  obtain⟨H2,e2⟩:=this rs [] H hr
  rw[hpu]at e2
  exact(List.cons.inj e2).1
 subst hf
 rw[hpu]at hT
 refine⟨v,y,[],H',fm',cL,ts,rfl,⟨hR,rfl,hpu.symm⟩,?_,?_,bp.mono (AZ.refl _) (As.nil _),?_,As.refl _,fun _ _ h=>h,fun _ _=>rfl⟩
 ·have:=congrArg List.length hpu;simpa using this.symm
 ·exact hT.pop.up hb bo bB |>.push
 ·exact hU.trans (bo.low hP.size)
end
theorem sJ {G G':AR}{F F':Nat->Nat->Option (List AV)} (hG:∀ l k b,G l k=some b->G' l k=some b) (hF:∀ l k b,F l k=some b->F' l k=some b) (hz:∀ l k e i n g y,(AV.loc l k e i n g).ai G=some y->(AV.loc l k e i n g).ai G'=some y):
  (∀ x y:AV,x.br G F=some y->x.br G' F'=some y)/\(∀ l ys:List AV,AV.cW G F l=some ys->AV.cW G' F' l=some ys):=by
 have key:∀ (n:Nat),(∀ x y:AV,SizeOf.sizeOf x<n->x.br G F=some y->x.br G' F'=some y)/\(∀ l ys:List AV,SizeOf.sizeOf l<n->AV.cW G F l=some ys->AV.cW G' F' l=some ys):=by
  intro n
  induction n with
  |zero=>exact⟨fun x y h=>absurd h (by omega),fun x y h=>absurd h (by omega)⟩
  |succ n ih=>
   refine⟨?_,?_⟩
   ·intro x y hn h
    cases x with
    |loc l k e i g j=>simp only[AV.br]at h ⊢;exact hz _ _ _ _ _ _ _ h
    |ptr l k o=>
     simp only[AV.br]at h ⊢
     split at h
     ·rename_i ys lU;rw[hF _ _ _ lU];exact h
     ·cases h
    |bF l k e o n=>
     simp only[AV.br]at h ⊢
     split at h
     ·rename_i ys lU;rw[hF _ _ _ lU];exact h
     ·cases h
    |fn f a b=>
     simp only[AV.br]at h ⊢
     split at h
     ·rename_i x z hx ei
      rw[ih.2 a x (by simp at hn;omega) hx,ih.2 b z (by simp at hn;omega) ei]
      exact h
     ·cases h
    |bR t v=>
     simp only[AV.br,mS]at h ⊢
     obtain⟨a,h1,h2⟩:=h
     exact⟨a,ih.1 v a (by simp at hn;omega) h1,h2⟩
    |agg cs=>
     simp only[AV.br,mS]at h ⊢
     obtain⟨a,h1,h2⟩:=h
     exact⟨a,ih.2 cs a (by simp at hn;omega) h1,h2⟩
    |ar cs=>
     simp only[AV.br,mS]at h ⊢
     obtain⟨a,h1,h2⟩:=h
     exact⟨a,ih.2 cs a (by simp at hn;omega) h1,h2⟩
    |_=>first|(simpa [AV.br] using h)|(simp[AV.br]at h)
   ·intro l ys hn h
    cases l with
    |nil=>simpa [AV.cW] using h
    |cons x l=>
     simp only[AV.cW]at h ⊢
     split at h
     ·rename_i a b ha hb
      rw[ih.1 x a (by simp at hn;omega) ha,ih.2 l b (by simp at hn;omega) hb]
      exact h
     ·cases h
 exact⟨fun x y h=>(key (SizeOf.sizeOf x+1)).1 x y (by omega) h,fun l ys h=>(key (SizeOf.sizeOf l+1)).2 l ys (by omega) h⟩
theorem uM {G G':AR} (hG:∀ l k b,G l k=some b->G' l k=some b) (hz:∀ l k e i n g y,(AV.loc l k e i n g).ai G=some y->(AV.loc l k e i n g).ai G'=some y):∀ n l k ys,cQ G n l k=some ys->cQ G' n l k=some ys:=by
 intro n
 induction n with
 |zero=>intro l k ys h;simp[cQ]at h
 |succ n ih=>
  intro l k ys h
  simp only[cQ]at h ⊢
  split at h
  ·rename_i cs hg
   rw[hG l k _ hg]
   exact(sJ hG ih hz).2 _ _ h
  ·cases h
theorem adS:∀ (rs:List Nat) (f:Av) (H:Heap),Heap.bL ([]::f::H) (hX (rs.map fun k=>(1,k)))=[]::cA f rs::H
 |[],f,H=>rfl
 |k::rs,f,H=>adS rs (del f k) H
section
variable {P:Program}{T:AM}{N0:Nat}{W0:World}{n:Nat}{fm:FM}{ts:List Ak}{H:Heap}{w:World}{Φ:Exit->St->Prop}
def A6 (P:Program) (f:FuncId) (args:List AV) (fr0:Av) (R:AV->Av->Prop):Prop:=
 Enters P f/\∀ H N0 W0 fm t ts w vs,HR N0 W0 fm (t::ts) (fr0::H) w->(∀ k,16<=k->t k=none)->Au fm (t::ts) args vs->
  Calls P f vs.toArray w fun e w'=>∃ v y aU fm' t' ts',e=.returned v/\R y aU/\HR N0 W0 fm' (t'::ts') (aU::H) w'/\VR fm' (t'::ts') y v/\AN N0 fm fm'/\As ts ts'/\
   (∀ l k,tb ts l k=none->tb ts' l k=none)/\∀ k,16<=k->t' k=none
def FC (T:AM) (rs:List ResultVar) (H:Heap) (R:AV->Av->Prop) (e:Exit) (st:St):Prop:=
 Ends T rs (fun y fr H'=>H'=H/\R y fr) e st
theorem A6.gr (hT : AQ P T) {f : FuncId} {fn : Func} {c : Code} {sc : SC} {args : List AV} {fr0 : Av} {R : AV → Av → Prop} (hf : P.funcs[f]? = some fn) (hb : fn.body = some c) (jl : (fn.name == "runtime.NumGoroutine") = false)
  (he:sc.bare=erase fn.ntmps c) (eN:(erase fn.ntmps c).fits fn.ntmps=true) (fo:args.length<=fn.ntmps)
  (h:∀ H,AK P fn.ntmps (FC T fn.results.toList H R) [.sc sc] ⟨sF 0 args,fr0,H,16,fn.ntmps⟩):A6 P f args fr0 R:=by
 refine⟨⟨fn,hf,jl,by simp[hb]⟩,?_⟩
 intro H N0 W0 fm t ts w vs hH ht hv
 refine calls_of_wp hf hb ((xe []).1 ?_)
 have hl:=hv.1
 have hS:SR N0 W0 fn.ntmps ⟨sF 0 args,fr0,H,16,fn.ntmps⟩ { tmps:=vs.toArray++Array.replicate (fn.ntmps - vs.toArray.size) undef,defers:=[] } w fm (t::ts):=by
  refine⟨hH,?_,fun k hk=>ht k hk,by simp;omega,⟨rfl,Dw.kY _⟩⟩
  intro i x hx
  obtain⟨_,hx⟩:=ae2 args 0 i x hx
  simp only[Nat.sub_zero]at hx
  have ae:i<vs.length:=by rw[<-hl];exact(gS.1 hx).1
  refine⟨vs[i],?_,hv.2 i x _ hx (gG ae)⟩
  rw[Array.getElem?_append_left (by simpa using ae)]
  simp[ae]
 have:=h H N0 W0 fm (t::ts) _ w [.code c] (bodyPost P fn fun e w'=>∃ v y aU fm' t' ts',e=.returned v/\R y aU/\HR N0 W0 fm' (t'::ts') (aU::H) w'/\VR fm' (t'::ts') y v/\AN N0 fm fm'/\As ts ts'/\
   (∀ l k,tb ts l k=none->tb ts' l k=none)/\∀ k,16<=k->t' k=none) hS (.sc he eN .nil) ?_
 ·exact this
 ·intro e ao a' w' fm' ts' hE cJ hL
  have fin:(∃ xs,gM T ao fn.results.toList=some xs/\D5 (fun y fr H'=>H'=H/\R y fr) (bZ xs) ao)->a'.defers=[]/\∃ v,(results fn a'.tmps).run P w'=.ok v w'/\∃ v_1 y aU fm' t' ts',Ending.returned v=.returned v_1/\R y aU/\HR N0 W0 fm' (t'::ts') (aU::H) w'/\VR fm' (t'::ts') y v_1/\AN N0 fm fm'/\As ts ts'/\
    (∀ l k,tb ts l k=none->tb ts' l k=none)/\∀ k,16<=k->t' k=none:=by
   rintro⟨xs,fV,hg⟩
   obtain⟨v,h1,h2⟩:=rY (P:=P) hT cJ fV
   refine⟨cJ.dX.1,v,h1,?_⟩
   cases ts' with
   |nil=>have:=cJ.hr.len;simp at this
   |cons t rest=>
    have il:As ts rest:=by simpa using hL.jT
    have bx:∀ l k,tb ts l k=none->tb rest l k=none:=by simpa using hL.no
    cases hg with
    |own ks y fr hn hk hy pN hR=>
     obtain⟨jH,hR⟩:=hR
     have hr:=cJ.hr.aQ pN hn
     rw[jH]at hr
     exact⟨v,y,fr,fm',eY ks t,rest,rfl,hR,hr,h2.aQ rfl hy,hL.cS,il,bx,fun k eQ=>by simp only[eY];rw[CL (by omega)];rfl⟩
    |ai y hy hr hR=>
     obtain⟨jH,hR⟩:=hR
     have h3:=cJ.hr.ai (bZ xs).refs h2 hy (fun _ h=>h)
     have h4:=cJ.hr.rL (bZ xs).refs
     obtain⟨f',yw⟩:=ahB hr ao.fr ao.low
     rw[yw]at h4
     have yV:∀ l k,tb (iB (t::rest) (bZ xs).refs) (l+1) k=tb rest l k:=by
      intro l k
      rw[mh,if_neg]
      ·simp[tb]
      ·rintro⟨hm,_⟩
       have:=List.all_eq_true.1 hr _ hm
       simp at this
     have hlen:=adU (bZ xs).refs (t::rest)
     cases hg:iB (t::rest) (bZ xs).refs with
     |nil=>rw[hg]at hlen;simp at hlen
     |cons t2 aaa=>
      rw[hg]at h4 yV
      have e2:∀ l k,tb aaa l k=tb rest l k:=fun l k=>by simpa [tb] using yV l k
      have bo:=cJ.hr.u7 (bZ xs).refs
      have h5:=h4.pop.push
      rw[jH]at h5 bo h3
      exact⟨v,y,[],_,cL,aaa,rfl,hR,h5,h3.mono (AZ.refl _) (As.nil _),hL.cS.trans bo,fun l k=>by rw[e2];exact il l k,fun l k hh=>by rw[e2];exact bx l k hh,fun _ _=>rfl⟩
  cases e with
  |normal=>exact fin hE
  |ret=>exact fin hE
  |_=>exact hE.elim
def xU (gs:List Nat) (G:AR) (F:Nat->Nat->Option (List AV)):AV->Option AV
 |.loc 1 k e i n g=>match idx gs k with
  |some j=>some (.loc 0 j e i n g)
  |none=>(AV.loc 1 k e i n g).br G F
 |x=>x.br G F
def kN (gs:List Nat) (G:AR) (F:Nat->Nat->Option (List AV)):List AV->Option (List AV)
 |[]=>some []
 |x::l=>match xU gs G F x,kN gs G F l with
  |some x,some l=>some (x::l)
  |_,_=>none
def nd (f:Av):Nat->List Nat->Option Av
 |_,[]=>some []
 |i,k::r=>match look f k with
  |some (.arr et e es)=>(nd f (i+1) r).map fun l=>(i,.arr et e es)::l
  |_=>none
theorem agV (f:Av):∀ (r:List Nat) (i:Nat) (fr:Av),nd f i r=some fr->∀ j b,look fr j=some b->i<=j/\∃ k et e es,r[j - i]?=some k/\look f k=some b/\b=.arr et e es
 |[],i,fr,h,j,b,hj=>by simp only[nd,oE]at h;subst h;simp[look]at hj
 |k::r,i,fr,h,j,b,hj=>by
  simp only[nd]at h
  split at h
  ·rename_i et e es hk
   simp only[mS]at h
   obtain⟨l,hl,rfl⟩:=h
   simp only[look]at hj
   split at hj
   ·rename_i he
    subst he
    obtain rfl:=oi hj
    exact⟨Bd _,k,et,e,es,by simp,hk,rfl⟩
   ·obtain⟨h1,k',jA,e',es',h2,h3,h4⟩:=agV f r (i+1) l hl j b hj
    refine⟨by omega,k',jA,e',es',?_,h3,h4⟩
    have:j - i=(j - (i+1))+1:=by omega
    rw[this,Cb];exact h2
  ·cases h
theorem ahK (ks:List Nat):∀ (f:Av) (j:Nat),look (cA f ks) j=if j∈ks then none else look f j:=by
 induction ks with
 |nil=>intro f j;simp[cA]
 |cons k ks ih=>
  intro f j
  simp only[cA,ih,zw,BE]
  by_cases h1:j∈ks
  ·simp[h1]
  ·by_cases h2:k=j
   ·simp[h2]
   ·simp[h1,h2,Ne.symm h2]
theorem HR.nZ {h:Ak}{rest:List Ak}{f:Av} (hh:HR N0 W0 fm (cL::h::rest) ([]::f::H) w) {gs:List Nat}{fr0:Av} (hg:nd f 0 gs=some fr0) (bV:gs.Nodup):
  HR N0 W0 fm (eY gs h::h::rest) (fr0::cA f gs::H) w:=by
 have src:∀ l k b,Heap.get (fr0::cA f gs::H) l k=some b->(l=0/\∃ k0 et e es,gs[k]?=some k0/\look f k0=some b/\b=.arr et e es/\tb (eY gs h::h::rest) 0 k=h k0)\/(l≠0/\Heap.get ([]::f::H) l k=some b/\tb (eY gs h::h::rest) l k=tb (cL::h::rest) l k/\(l=1->k∉gs)):=by
  intro l k b hb
  cases l with
  |zero=>
   simp only[Heap.get]at hb
   obtain⟨_,k0,et,e,es,h1,h2,h3⟩:=agV f gs 0 fr0 hg k b hb
   simp only[Nat.sub_zero]at h1
   exact .inl ⟨rfl,k0,et,e,es,h1,h2,h3,by simp[tb,eY,h1]⟩
  |succ l=>
   cases l with
   |zero=>
    simp only[Heap.get,ahK]at hb
    split at hb
    ·cases hb
    ·rename_i hn
     exact .inr ⟨by omega,by simpa [Heap.get] using hb,by simp[tb],fun _=>hn⟩
   |succ l=>exact .inr ⟨by omega,by simpa [Heap.get] using hb,by simp[tb],fun e=>by omega⟩
 refine⟨by have:=hh.len;simpa using this,?_,?_,hh.bO,?_,hh.dg,hh.size,hh.cT,hh.dZ⟩
 ·intro l k b hb
  rcases src l k b hb with ⟨rfl,k0,et,e,es,h1,h2,rfl,h4⟩|⟨hl,h2,h3,_⟩
  ·rw[h4]
   have:=hh.al 1 k0 _ (by simpa [Heap.get] using h2)
   simp only[tb]at this
   generalize h k0=tt at this
   cases this with
   |nil=>exact .nil _ _
   |arr _ _ _ c cap hN hA=>exact .arr _ _ _ c cap hN hA
  ·rw[h3]
   have:=hh.al l k b h2
   obtain⟨l,rfl⟩:∃ m,l=m+1:=⟨l - 1,by omega⟩
   simpa using this
 ·intro l1 k1 l2 k2 b1 b2 c g1 g2 t1 t2
  rcases src l1 k1 b1 g1 with ⟨rfl,q1,_,_,_,a1,a2,_,a4⟩|⟨gp,a2,a3,a4⟩
  ·rw[a4]at t1
   rcases src l2 k2 b2 g2 with ⟨rfl,q2,_,_,_,c1,c2,_,c4⟩|⟨kT,c2,c3,c4⟩
   ·rw[c4]at t2
    have:=(hh.inj 1 q1 1 q2 b1 b2 c (by simpa [Heap.get] using a2) (by simpa [Heap.get] using c2) (by simpa [tb] using t1) (by simpa [tb] using t2)).2
    subst this
    refine⟨rfl,?_⟩
    exact(List.getElem?_inj (gS.1 a1).1 bV).1 (a1.trans c1.symm)
   ·rw[c3]at t2
    obtain⟨e1,e2⟩:=hh.inj 1 q1 l2 k2 b1 b2 c (by simpa [Heap.get] using a2) c2 (by simpa [tb] using t1) t2
    subst e1 e2
    exact absurd (AW a1) (c4 rfl)
  ·rw[a3]at t1
   rcases src l2 k2 b2 g2 with ⟨rfl,q2,_,_,_,c1,c2,_,c4⟩|⟨kT,c2,c3,c4⟩
   ·rw[c4]at t2
    obtain⟨e1,e2⟩:=hh.inj l1 k1 1 q2 b1 b2 c a2 (by simpa [Heap.get] using c2) t1 (by simpa [tb] using t2)
    subst e1 e2
    exact absurd (AW c1) (a4 rfl)
   ·rw[c3]at t2
    exact hh.inj l1 k1 l2 k2 b1 b2 c a2 c2 t1 t2
 ·intro l k b c o hb hc
  rcases src l k b hb with ⟨rfl,k0,_,_,_,h1,h2,_,h4⟩|⟨hl,h2,h3,_⟩
  ·rw[h4]at hc
   exact hh.dh 1 k0 b c o (by simpa [Heap.get] using h2) (by simpa [tb] using hc)
  ·rw[h3]at hc
   exact hh.dh l k b c o h2 hc
theorem agZ {h:Ak}{rest:List Ak}{f:Av}{dR:FM} (hh:HR N0 W0 fm (cL::h::rest) ([]::f::H) w) (hle:AZ fm dR) {G:AR} (hG:∀ l k b,G l k=some b->Heap.get ([]::f::H) l k=some b)
  (bu:∀ l k b c,G l k=some b->bz (tb (cL::h::rest) l k)=some c->dR.t c=Abs.fI (cL::h::rest) ([]::f::H) c/\∀ o u,w.cell? ⟨c,o,none⟩=some u->dR c o=some u) {gs:List Nat}{m:Nat}:
  ∀ (args ys:List AV) (vs:List Value),kN gs G (cQ G m) args=some ys->Au fm (cL::h::rest) args vs->Au dR (eY gs h::h::rest) ys vs
 |[],ys,vs,e,hv=>by
  simp only[kN,oE]at e;subst e
  exact⟨hv.1,fun i x v hx=>by simp at hx⟩
 |x::l,ys,vs,e,hv=>by
  simp only[kN]at e
  split at e
  ·rename_i y ys' hy lU
   obtain rfl:=oi e
   cases vs with
   |nil=>have:=hv.1;simp at this
   |cons v vs=>
    have hx:VR fm (cL::h::rest) x v:=hv.2 0 x v rfl rfl
    have ih:=agZ hh hle hG bu l ys' vs lU ⟨by simpa using hv.1,fun i a b p q=>hv.2 (i+1) a b (by simpa using p) (by simpa using q)⟩
    refine⟨by simp[ih.1],?_⟩
    intro i a b ha hb
    cases i with
    |succ i=>simp at ha hb;exact ih.2 i a b ha hb
    |zero=>
     simp at ha hb;subst ha hb
     have br:x.br G (cQ G m)=some y->VR dR (eY gs h::h::rest) y v:=fun eD=>
      (hh.brG hle hG bu _ (hh.afD hle hG bu m) hx rfl eD).mono (AZ.refl _) (As.nil _)
     unfold xU at hy
     split at hy
     ·rename_i k e i n g
      split at hy
      ·rename_i j hj
       obtain rfl:=oi hy
       have pQ:=adP gs k j hj
       have fp:tb (eY gs h::h::rest) 0 j=tb (cL::h::rest) 1 k:=by simp[tb,eY,pQ]
       have iS:=hx.mono hle (As.refl _)
       cases iS with
       |cH _ _ _ _ _ _ a cp ht hn ha=>exact .cH _ _ _ _ _ _ a cp (fp.trans ht) hn ha
       |cI _ _ _ _ _ _ a cp m' c ht ae hn ha=>exact .cI _ _ _ _ _ _ a cp m' c (fp.trans ht) ae hn ha
       |cv _ _ _ a ht=>exact .cv _ _ _ a (fp.trans ht)
       |loc _ _ _ _ _ _ c cap cp a ht hn bI hc ha=>exact .loc _ _ _ _ _ _ c cap cp a (fp.trans ht) hn bI hc ha
      ·exact br hy
     ·exact br hy
  ·cases e
theorem A6.used {f:FuncId}{args dD:List AV}{fr0 f0:Av}{R:AV->Av->Prop} (m:Nat) (rs gs:List Nat) (hp:A6 P f dD fr0 R) (hz:kN gs (only (Heap.get ([]::f0::H)) (rs.map fun k=>(1,k))) (cQ (only (Heap.get ([]::f0::H)) (rs.map fun k=>(1,k))) m) args=some dD)
  (hg:nd (cA f0 rs) 0 gs=some fr0) (bV:(decide gs.Nodup&&decide (gs.length<=16))=true):Cy P f args (f0::H) (fun y fr H'=>R y fr/\H'=cA (cA f0 rs) gs::H):=by
 simp only[A7,decide_eq_true_eq]at bV
 refine⟨hp.1,fun N0 W0 fm ts w vs hH hv=>?_⟩
 have hP:=hH.push
 cases ts with
 |nil=>have:=hH.len;simp at this
 |cons h rest=>
  obtain⟨hT,hU⟩:=hP.aiW (rs.map fun k=>(1,k))
  rw[adS]at hT
  have hG:∀ l k b,only (Heap.get ([]::f0::H)) (rs.map fun k=>(1,k)) l k=some b->Heap.get ([]::f0::H) l k=some b:=by
   intro l k b e;unfold only at e;split at e
   ·exact e
   ·cases e
  have bu:∀ l k b c,only (Heap.get ([]::f0::H)) (rs.map fun k=>(1,k)) l k=some b->bz (tb (cL::h::rest) l k)=some c->(iL fm w (cL::h::rest) ([]::f0::H) (rs.map fun k=>(1,k))).t c=Abs.fI (cL::h::rest) ([]::f0::H) c/\∀ o u,w.cell? ⟨c,o,none⟩=some u->iL fm w (cL::h::rest) ([]::f0::H) (rs.map fun k=>(1,k)) c o=some u:=by
   intro l k b c e hc
   unfold only at e
   split at e
   ·rename_i hm
    unfold iL
    simp only
    rw[if_pos ⟨l,k,b,by simpa using hm,e,hc⟩]
    refine⟨rfl,fun o u hu=>?_⟩
    rw[if_pos ⟨l,k,b,by simpa using hm,e,hc⟩]
    exact hu
   ·cases e
  have h1:=agZ hP hU.le hG bu args dD vs hz hv
  have h2:=hT.nZ hg bV.1
  refine Calls.mono (hp.2 (cA (cA f0 rs) gs::H) N0 W0 _ (eY gs h) (h::rest) w vs h2 (fun k hk=>by simp only[eY];rw[CL (by omega)];rfl) h1) ?_
  rintro e w' ⟨v,y,aU,fm',t',ts',rfl,hR,bX,bp,bo,il,bx,ht⟩
  exact⟨v,y,aU,cA (cA f0 rs) gs::H,fm',t',ts',rfl,⟨hR,rfl⟩,by simp,bX,bp,hU.trans bo,il,bx,ht⟩
end
def jR (G:AR):AR:=fun l k=>match l with
 |0=>none
 |l+1=>G l k
def n4 (G:AR):Nat->List Nat->Option Av
 |_,[]=>some []
 |i,k::r=>match G 0 k with
  |some (.arr et e es)=>(n4 G (i+1) r).map fun l=>(i,.arr et e es)::l
  |_=>none
theorem adl {G G':AR} (h:∀ l k b,G l k=some b->G' l k=some b):∀ (r:List Nat) (i:Nat) (fr:Av),n4 G i r=some fr->n4 G' i r=some fr
 |[],i,fr,e=>e
 |k::r,i,fr,e=>by
  simp only[n4]at e ⊢
  split at e
  ·rename_i et z es hk
   simp only[mS]at e
   obtain⟨l,hl,rfl⟩:=e
   rw[h 0 k _ hk]
   simp only[adl h r (i+1) l hl,A5]
  ·cases e
theorem agW (f:Av) (H:Heap) (rs:List Nat):∀ (r:List Nat) (i:Nat) (fr:Av),n4 (Heap.get (f::H)) i r=some fr->(∀ k∈r,k∉rs)->nd (cA f rs) i r=some fr
 |[],i,fr,e,_=>e
 |k::r,i,fr,e,hk=>by
  simp only[n4,Heap.get]at e
  simp only[nd,ahK,if_neg (hk k List.mem_cons_self)]
  split at e
  ·rename_i et z es eQ
   simp only[mS]at e
   obtain⟨l,hl,rfl⟩:=e
   simp only[eQ,agW f H rs r (i+1) l hl (fun k h=>hk k (List.mem_cons_of_mem _ h)),A5]
  ·cases e
def kX (ks:List Nat):List (Nat×Nat×Option AH):=ks.map fun k=>(0,k,none)
def kW (kb:Nat):Av->List (Nat×Nat×Option AH)
 |[]=>[]
 |(c,b)::R=>kW kb R++[(0,kb+c,some (b.imp kb))]
theorem aer:∀ (ks:List Nat) (f:Av) (H:Heap),Heap.bL (f::H) (kX ks)=cA f ks::H
 |[],_,_=>rfl
 |k::ks,f,H=>aer ks (del f k) H
theorem aeq (kb:Nat):∀ (R:Av) (f:Av) (H:Heap),Heap.bL (f::H) (kW kb R)=mJ kb R f::H
 |[],_,_=>rfl
 |(c,b)::R,f,H=>by
  simp only[kW,Heap.oN,aeq kb R f H,mJ]
  rfl
theorem adm {gs:List Nat}{G G':AR}{F F':Nat->Nat->Option (List AV)} (h:∀ x y:AV,x.br G F=some y->x.br G' F'=some y):∀ (l ys:List AV),kN gs G F l=some ys->kN gs G' F' l=some ys
 |[],ys,e=>e
 |x::l,ys,e=>by
  simp only[kN]at e ⊢
  split at e
  ·rename_i a b ha hb
   have gn:xU gs G' F' x=some a:=by
    cases x with
    |loc lv k e i n g=>
     match lv,ha with
     |0,ha=>exact h _ _ ha
     |1,ha=>
      simp only[xU]at ha ⊢
      cases hj:idx gs k with
      |some j=>rw[hj]at ha;exact ha
      |none=>rw[hj]at ha;exact h _ _ ha
     |_+2,ha=>exact h _ _ ha
    |_=>exact h _ _ ha
   rw[gn,adm h l b hb]
   exact e
  ·cases e
def jS (kb:Nat) (t' h:Ak):Ak:=fun k=>if kb<=k/\k<kb+16 then t' (k - kb) else h k
end Go.Abs
namespace Go.Abs
open Go Go.RowKit
section
variable {P:Program}{T:AM}{N0:Nat}{W0:World}{fm:FM}{ts:List Ak}{H:Heap}{w:World}
def AV.lo:AV->Bool
 |.loc l _ _ _ _ _=>l==0
 |.ptr l _ _=>l==0
 |x=>x.leaf
def AV.mM:AV->Bool
 |.ar vs=>vs.all AV.lo
 |.agg cs=>cs.all AV.lo
 |x=>x.lo
def AH.lo:AH->Prop
 |.arr _ _ es=>∀ c∈es,∀ x∈c,x.leaf=true
 |.box cs=>∀ x∈cs,x.lo=true
theorem VR.lo {fm fm':FM}{t:Ak}{ts:List Ak}{x:AV}{v:Value} (h:VR fm' [t] x v) (hx:x.lo=true):VR fm (t::ts) x v:=by
 cases h with
 |cH l k esz i n g a cp h dU ha=>
  obtain rfl:l=0:=by simpa [AV.lo] using hx
  exact .cH 0 _ esz i n g a cp h dU ha
 |cI l k esz i n g a cp m' c h ae dU ha=>
  obtain rfl:l=0:=by simpa [AV.lo] using hx
  exact .cI 0 _ esz i n g a cp m' c h ae dU ha
 |cv l k esz a h=>
  obtain rfl:l=0:=by simpa [AV.lo] using hx
  exact .cv 0 _ esz a h
 |loc l k esz i n g c cap cp a h dU bI hc ha=>
  obtain rfl:l=0:=by simpa [AV.lo] using hx
  exact .loc 0 _ esz i n g c cap cp a h dU bI hc ha
 |ptr l k o c h=>
  obtain rfl:l=0:=by simpa [AV.lo] using hx
  exact .ptr 0 _ o c h
 |bool b=>exact .bool b
 |int k n=>exact .int k n
 |str s=>exact .str s
 |nil=>exact .nil
 |bG=>exact .bG
 |bP=>exact .bP
 |bS=>exact .bS
 |raw r_=>exact .raw _ (by assumption)
 |_=>simp[AV.lo,AV.leaf]at hx
theorem VR.mM {fm fm':FM}{t:Ak}{ts:List Ak}{x:AV}{v:Value} (h:VR fm' [t] x v) (hx:x.mM=true):VR fm (t::ts) x v:=by
 cases x with
 |ar xs=>
  cases h with
  |ar _ vs h1 h3=>exact .ar xs vs h1 (fun i x v a b=>(h3 i x v a b).lo (List.all_eq_true.1 hx x (AW a)))
 |agg cs=>
  cases h with
  |agg _ vs h1 h2 h3=>exact .agg cs vs h1 h2 (fun i x v a b=>(h3 i x v a b).lo (List.all_eq_true.1 hx x (AW a)))
 |_=>exact h.lo hx
theorem BR.lo {fm fm':FM}{t:Ak}{ts:List Ak}{w:World}{N N0:Nat}{x:Option TB}{b:AH} (h:BR fm' [t] w N x b) (hN:N0<=N) (hb:b.lo):BR fm (t::ts) w N0 x b:=by
 cases h with
 |nil et esz=>exact .nil et esz
 |arr et esz es c cap h1 hA=>
  obtain⟨cells,a1,a2,a3,a4,a5,a6,a7⟩:=hA
  refine .arr et esz es c cap (Ec hN h1) ⟨cells,a1,a2,a3,a4,a5,a6,?_⟩
  intro i d o x v p q r
  have:=a7 i d o x v p q r
  exact⟨this.1,this.2.leaf (hb d (AW p) x (AW q))⟩
 |box c cs h1 hB=>
  obtain⟨cells,et,c1,c2,c3⟩:=hB
  exact .box c cs (Ec hN h1) ⟨cells,et,c1,c2,fun o x v p q=>⟨(c3 o x v p q).1,(c3 o x v p q).2.lo (hb x (AW p))⟩⟩
def rM:Av->Prop
 |[]=>True
 |(_,b)::l=>b.lo/\rM l
theorem ahI:∀ (l:Av) (k:Nat) (b:AH),rM l->look l k=some b->b.lo
 |[],k,b,_,h=>by simp[look]at h
 |(j,x)::l,k,b,h,e=>by
  simp only[look]at e
  split at e
  ·obtain rfl:=oi e;exact h.1
  ·exact ahI l k b h.2 e
theorem A6.ahF {f:FuncId}{ay:List AV}{vs:List Value}{y0:AV}{fr0:Av} (hp:A6 P f ay [] (fun y fr=>y=y0/\fr=fr0)) (hH:HR N0 W0 fm ts H w) {fmx:FM} (hfx:Du fmx w) (h1:Au fmx [] ay vs) (hy:y0.mM=true) (hf:rM fr0):
  Calls P f vs.toArray w fun e w'=>∃ v t',e=.returned v/\HR N0 W0 fm (t'::ts) (fr0::H) w'/\VR fm (t'::ts) y0 v/\∀ k,16<=k->t' k=none:=by
 have hn:HR w.heap.size w fmx [] [] w:=HR.nothing hfx
 have rA:Au fmx (cL::[]) ay vs:=by
  refine⟨h1.1,fun i x v a b=>?_⟩
  have h2:=h1.2 i x v a b
  exact h2.mono (AZ.refl _) (As.nil _)
 refine Calls.mono (hp.2 [] w.heap.size w _ cL [] w vs hn.push (fun _ _=>rfl) rA) ?_
 rintro e w' ⟨v,y,aU,fm',t',ts',rfl,⟨rfl,rfl⟩,bX,bp,bo,lQ,bx,je⟩
 have il:ts'=[]:=by have:=bX.len;simp at this;exact this
 subst il
 have hb:=bX.dg
 have ka:HR N0 W0 fm ts H w':=hH.world (fun i hi=>hb.block i hi) (hb.mono hH.size)
 refine⟨v,t',rfl,?_,bp.mM hy,je⟩
 have up:∀ {k b c},look aU k=some b->bz (t' k)=some c->w.heap.size<=c:=by
  intro k b c hk hc
  have:=(bX.al 0 k b (by simpa [Heap.get] using hk)).lt (by simpa [tb] using hc)
  exact this.2
 have low:∀ {l k b c},Heap.get H l k=some b->bz (tb ts l k)=some c->c<w.heap.size:=by
  intro l k b c hk hc
  exact((hH.al l k b hk).lt hc).1
 refine⟨by have:=ka.len;simpa using this,?_,?_,ka.bO,?_,ka.dg,ka.size,ka.cT,ka.dZ⟩
 ·intro l k b hg
  cases l with
  |zero=>
   have h2:=bX.al 0 k b (by simpa [Heap.get] using hg)
   simp only[List.drop_zero,tb]at h2 ⊢
   exact h2.lo hH.size (ahI _ _ _ hf (by simpa [Heap.get] using hg))
  |succ l=>exact ka.al l k b hg
 ·intro l k l' k' b b' c g1 g2 t1 t2
  cases l with
  |zero=>
   cases l' with
   |zero=>exact bX.inj 0 k 0 k' b b' c (by simpa [Heap.get] using g1) (by simpa [Heap.get] using g2) t1 t2
   |succ l'=>exact absurd (low g2 t2) (by have:=up (by simpa [Heap.get] using g1) t1;omega)
  |succ l=>
   cases l' with
   |zero=>exact absurd (low g1 t1) (by have:=up (by simpa [Heap.get] using g2) t2;omega)
   |succ l'=>
    have:=ka.inj l k l' k' b b' c g1 g2 t1 t2
    exact⟨by omega,this.2⟩
 ·intro l k b c o hg hc
  cases l with
  |zero=>exact hH.ah1 (up (by simpa [Heap.get] using hg) hc) o
  |succ l=>exact ka.dh l k b c o hg hc
theorem A6.mL {f:FuncId}{args ay:List AV}{y0:AV}{fr0:Av} (m:Nat) (hp:A6 P f ay [] (fun y fr=>y=y0/\fr=fr0)) (hz:AV.cW (Heap.get ([]::H)) (Abs.cQ (Heap.get ([]::H)) m) args=some ay) (hy:y0.mM=true) (hf:rM fr0):
  Cy P f args H (fun y fr H'=>y=y0/\fr=fr0/\H'=H):=by
 refine⟨hp.1,fun N0 W0 fm ts w vs hH hv=>?_⟩
 have h1:=hH.push.brs _ (hH.push.cQ m) hv hz
 refine Calls.mono (A6.ahF hp hH (fun _ _ _ h=>h) h1 hy hf) ?_
 rintro e w' ⟨v,t',rfl,h2,h3,h4⟩
 exact⟨v,y0,fr0,H,fm,t',ts,rfl,⟨rfl,rfl,rfl⟩,rfl,h2,h3,AN.refl _ _,As.refl _,fun _ _ h=>h,h4⟩
end
section
variable [Md] {P:Program}{T:AM}{n:Nat}{Φ:Exit->St->Prop}
theorem H4 {f:List It->St->Ev}{b:Bool}{t t':List It}{s s':St} (h1:b=true->AJ P n Φ (f t s)) (h2:b=false->AJ P n Φ (f t' s')):AJ P n Φ (two f b t s t' s'):=by
 cases b with
 |true=>exact h1 rfl
 |false=>exact h2 rfl
theorem HV {f:FuncId}{args ay:List AV}{dst:Option Tmp}{drop:List Nat}{todo:List It}{st:St}{R:AV->Prop} (hp:Aw P f ay R) (hz:AV.aG (Heap.get ([]::st.fr::st.low)) args=some ay) (hr:AV.aN args=[])
  (h:∀ y,R y->AK P n Φ todo (st.gz dst drop y [] (st.fr::st.low))):AJ P n Φ (.call f args dst drop todo st):=
 ⟨_,_,_,_,CJ.refl _ _ _,(hp.frozen hz hr).toP,by rintro v fr H ⟨h1,rfl,rfl⟩;exact h v h1,fun _ _ h=>h.elim⟩
theorem HQ {f:FuncId}{args ay:List AV}{dst:Option Tmp}{drop:List Nat}{todo:List It}{st:St}{R:AV->Prop} (hp:Aw P f ay R) (hz:AV.aG (Heap.get ([]::st.fr::st.low)) args=some ay) (hs:∀ y,R y->y.cU=true)
  (h:∀ y,R y->AK P n Φ todo (st.gz dst drop y [] (st.fr::st.low))):AJ P n Φ (.call f args dst drop todo st):=
 ⟨_,_,_,_,CJ.refl _ _ _,(hp.borrow hz hs).toP,by rintro v fr H ⟨h1,rfl,rfl⟩;exact h v h1,fun _ _ h=>h.elim⟩
theorem DY {f:FuncId}{args:List AV}{dst:Option Tmp}{drop:List Nat}{todo:List It}{st:St}{R:AV->Av->Heap->Prop} (hp:Cy P f args (st.fr::st.low) R)
  (h:∀ y fr H,R y fr H->AK P n Φ todo (st.gz dst drop y fr H)):AJ P n Φ (.call f args dst drop todo st):=⟨_,_,R,_,CJ.refl _ _ _,hp.toP,h,fun _ _ h=>h.elim⟩
end
attribute [go_sem] abw api aph run kj aa0 aoW aoT callee aeK aeJ St.mg apA apz bE bd jP look zA lx St.by mO ins cA del Heap.bL Heap.put St.ux dW fM uT mX aaG abP St.get aaA pa aaF nT iH z7 qP TI.isAgg AV.cells overwrite qZ Heap.get aaD AV.de AV.sh aUn jb St.enter sF St.gz AV.imp AV.iv mJ AH.imp gM abG bZ AV.ai AV.aG AV.refs AV.aN aaC aaE nM sV aaB partsOf u0 lH jQ qY aaZ iI j6 sR sQ mY aaH kI byteOf bytesOf j7 bJ AV.fZ AV.un tY hX AV.flat AV.cU AV.leaf AA Az List.append_nil BM Bq reduceIte Nat.reduceAdd Nat.reduceMul Nat.reduceLT Nat.reduceEqDiff Nat.reduceLeDiff Nat.reduceSub A5 Eb Af Option.bind_none Bg reduceCtorEq List.take_succ_cons List.take_zero List.drop_succ_cons List.drop_zero BV Cb List.getElem?_nil List.map_cons List.map_nil beq_self_eq_true Bd and_self and_true true_and beq_true beq_false AX Bs
def Ej (tm tm':Tm):Prop:=∀ t x,tm t=some x->tm' t=some x
def D4 (G G':AR):Prop:=∀ l k b,G l k=some b->G' l k=some b
section
variable {tm tm':Tm}{G G':AR} (eF:Ej tm tm') (hG:D4 G G')
include eF in
theorem wc {x:Operand}{y:AV} (h:bd tm x=some y):bd tm' x=some y:=by
 cases x with
 |tmp t=>exact eF t y h
 |_=>exact h
include eF in
theorem zK:∀ (l:List Operand) (ys:List AV),jP tm l=some ys->jP tm' l=some ys
 |[],ys,h=>h
 |x::l,ys,h=>by
  simp only[jP]at h ⊢
  split at h
  ·rename_i a b ha hb
   rw[wc eF ha,zK l b hb];exact h
  ·cases h
include eF in
theorem aen:∀ (l:List (Nat×Operand)) (ys:List (Nat×AV)),partsOf tm l=some ys->partsOf tm' l=some ys
 |[],ys,h=>h
 |(i,x)::l,ys,h=>by
  simp only[partsOf]at h ⊢
  split at h
  ·rename_i a b ha hb
   rw[wc eF ha,aen l b hb];exact h
  ·cases h
mutual
theorem mB (hG:D4 G G'):∀ (x y:AV),x.ai G=some y->x.ai G'=some y
 |.loc l k e i n g,y,h=>by
  simp only[AV.ai]at h ⊢
  split at h
  ·rename_i et esz es hg
   rw[hG l k _ hg];exact h
  ·cases h
 |.bR t v,y,h=>by
  simp only[AV.ai,mS]at h ⊢
  obtain⟨a,h1,h2⟩:=h
  exact⟨a,mB hG v a h1,h2⟩
 |.agg cs,y,h=>by
  simp only[AV.ai,mS]at h ⊢
  obtain⟨a,h1,h2⟩:=h
  exact⟨a,nX hG cs a h1,h2⟩
 |.ar vs,y,h=>by
  simp only[AV.ai,mS]at h ⊢
  obtain⟨a,h1,h2⟩:=h
  exact⟨a,nX hG vs a h1,h2⟩
 |.nil,y,h=>by simpa [AV.ai] using h
 |.bool b,y,h=>by simpa [AV.ai] using h
 |.int k n,y,h=>by simpa [AV.ai] using h
 |.str s,y,h=>by simpa [AV.ai] using h
 |.sl e es,y,h=>by simpa [AV.ai] using h
 |.bG,y,h=>by simpa [AV.ai] using h
 |.bP,y,h=>by simpa [AV.ai] using h
 |.bS,y,h=>by simpa [AV.ai] using h
 |.raw r_,y,h=>by simpa [AV.ai] using h
 |.fn f a b,y,h=>by
  simp only[AV.ai]at h ⊢
  split at h
  ·rename_i x z hx hz
   obtain rfl:=oi h
   simp only[nX hG a x hx,nX hG b z hz]
  ·cases h
 |.bF ..,y,h=>by simp[AV.ai]at h
 |.ptr ..,y,h=>by simp[AV.ai]at h
 |.bq ..,y,h=>by simp[AV.ai]at h
 |.aA ..,y,h=>by simpa [AV.ai] using h
 |.dead,y,h=>by simp[AV.ai]at h
theorem nX (hG:D4 G G'):∀ (l ys:List AV),AV.aG G l=some ys->AV.aG G' l=some ys
 |[],ys,h=>h
 |x::l,ys,h=>by
  simp only[AV.aG]at h ⊢
  split at h
  ·rename_i a b ha hb
   rw[mB hG x a ha,nX hG l b hb];exact h
  ·cases h
end
include hG in
theorem alJ {size:Nat}{x:AV}{cs:List AV} (h:iH G size x=some cs):iH G' size x=some cs:=by
 unfold iH at h ⊢
 split at h
 ·split at h
  ·rename_i hg;rw[hG _ _ _ hg];exact h
  ·cases h
 ·split at h
  ·rename_i hg;rw[hG _ _ _ hg];exact h
  ·cases h
 ·exact h
 ·cases h
include hG in
theorem amp {ti:TI}{x y:AV} (h:nT G ti x=some y):nT G' ti x=some y:=by
 unfold nT at h ⊢
 rw[Option.bind_eq_some_iff]at h ⊢
 obtain⟨cs,h1,h2⟩:=h
 exact⟨cs,alJ hG h1,h2⟩
include hG in
theorem acY {sz:Nat}{x:AV}{es:List (List AV)} (h:iI G sz x=some es):iI G' sz x=some es:=by
 unfold iI at h ⊢
 split at h
 ·exact h
 ·exact h
 ·split at h
  ·rename_i hg;rw[hG _ _ _ hg];exact h
  ·cases h
 ·split at h
  ·rename_i hg;rw[hG _ _ _ hg];exact h
  ·cases h
 ·cases h
theorem aky {T:AM}{s d:TI}{x y:AV} (h:uD T s d x=some y):∃ e,d.d=.slice e:=by
 unfold uD at h
 split at h
 ·rename_i e he;exact⟨e,he⟩
 ·cases h
theorem akC {T:AM}{G:AR}{s d:TI}{x:AV} (h:∃ e,d.d=.slice e):kI T G s d x=none:=by
 obtain⟨e,he⟩:=h
 unfold kI
 rw[he]
include hG in
theorem akA {T:AM}{s d:TI}{x y:AV} (h:kI T G s d x=some y):kI T G' s d x=some y:=by
 unfold kI at h ⊢
 split at h
 ·exact h
 ·split at h
  ·exact h
  ·split at h
   ·split at h
    ·split at h
     ·rename_i h1
      rw[if_pos h1]
      rw[Option.bind_eq_some_iff]at h ⊢
      obtain⟨es,h2,h3⟩:=h
      exact⟨es,acY hG h2,h3⟩
     ·cases h
    ·cases h
   ·cases h
  ·cases h
 ·cases h
include hG in
theorem agO:∀ (l:List (Nat×AV)) (cs:List (Nat×List AV)),lH G l=some cs->lH G' l=some cs
 |[],cs,h=>h
 |(i,v)::l,cs,h=>by
  simp only[lH]at h ⊢
  split at h
  ·split at h
   ·rename_i a b ha hb
    rw[nX hG _ _ ha,agO l b hb];exact h
   ·cases h
  ·cases h
include hG in
theorem amj {kb len:Nat}{ti:TI}{ps:List (Nat×AV)}{d:De} (h:qY G kb ti len ps=some d):qY G' kb ti len ps=some d:=by
 unfold qY at h ⊢
 split at h
 ·split at h
  ·rename_i hc
   rw[if_pos hc]
   split at h
   ·rename_i cs fO
    rw[agO hG _ _ fO];exact h
   ·cases h
  ·cases h
 ·cases h
include hG in
theorem acT {kb:Nat}{ti:TI}{s x:AV}{d:De} (h:j6 G kb ti s x=some d):j6 G' kb ti s x=some d:=by
 unfold j6 at h ⊢
 split at h
 ·split at h
  ·rename_i new dw
   rw[acY hG dw]
   split at h
   ·exact h
   ·split at h
    ·rename_i hg
     simp only[hG _ _ _ hg];exact h
    ·cases h
   ·cases h
  ·cases h
 ·cases h
include hG in
theorem amn {ti:TI}{s x:AV}{d:De} (h:sR G ti s x=some d):sR G' ti s x=some d:=by
 unfold sR at h ⊢
 split at h
 ·split at h
  ·rename_i new dw
   rw[acY hG dw]
   split at h
   ·exact h
   ·split at h
    ·rename_i hg
     simp only[hG _ _ _ hg];exact h
    ·cases h
   ·split at h
    ·rename_i hg
     simp only[hG _ _ _ hg];exact h
    ·cases h
   ·cases h
  ·cases h
 ·cases h
include hG in
theorem aml {ti:TI}{x:AV}{d:De} (h:sQ G ti x=some d):sQ G' ti x=some d:=by
 unfold sQ at h ⊢
 split at h
 ·split at h
  ·exact h
  ·split at h
   ·rename_i hg
    simp only[hG _ _ _ hg];exact h
   ·cases h
  ·cases h
 ·cases h
include hG in
theorem ams {kb:Nat}{ti:TI}{a:AV}{vc:List AV}{d:De} (h:qZ G kb ti a vc=some d):qZ G' kb ti a vc=some d:=by
 unfold qZ at h ⊢
 split at h
 ·rename_i hl
  rw[if_pos hl]
  split at h
  ·split at h
   ·rename_i hg
    simp only[hG _ _ _ hg]
    split at h
    ·rename_i hle
     rw[if_pos hle]
     split at h
     ·rename_i h0;rw[if_pos h0];exact h
     ·rename_i h0
      rw[if_neg h0]
      split at h
      ·exact h
      ·split at h
       ·rename_i new hz;rw[nX hG _ _ hz];exact h
       ·cases h
    ·cases h
   ·cases h
  ·split at h
   ·rename_i hg
    simp only[hG _ _ _ hg]
    split at h
    ·rename_i hc
     rw[if_pos hc]
     split at h
     ·rename_i c new mC hz
      rw[mC,nX hG _ _ hz];exact h
     ·cases h
    ·cases h
   ·cases h
  ·cases h
 ·cases h
theorem uG {a b:Option AV}{d:De} (hm:∀ x,a=some x->b=some x) (h:dW a=some d):dW b=some d:=by
 obtain⟨x,hx,rfl⟩:=afq h
 rw[hm x hx];rfl
include hG in
theorem akw {T:AM}{kb:Nat}{b:Builtin}{ts:List TypeId}{xs:List AV}{d:De} (h:mX T G kb b ts xs=some d):mX T G' kb b ts xs=some d:=by
 unfold mX at h ⊢
 split at h
 ·cases h
 ·split at h
  ·cases h
  ·split at h
   ·exact h
   ·split at h
    ·split at h
     ·rename_i hl;rw[if_pos hl];exact acT hG h
     ·rename_i hl
      rw[if_neg hl]
      unfold xD at h ⊢
      split at h
      ·split at h
       ·split at h
        ·split at h
         ·rename_i h1;rw[if_pos h1];exact acT hG h
         ·cases h
        ·cases h
       ·cases h
      ·split at h
       ·split at h
        ·unfold uY at h ⊢
         split at h
         ·rename_i h1;rw[if_pos h1];exact acT hG h
         ·cases h
        ·cases h
       ·cases h
      ·cases h
    ·cases h
   ·split at h
    ·split at h
     ·rename_i hl;rw[if_pos hl];exact amn hG h
     ·cases h
    ·cases h
   ·split at h
    ·exact aml hG h
    ·cases h
   ·exact h
   ·exact h
   ·cases h
theorem akr {G':AR}{ti:TI}{x lo hi z z':AV} (h:ly G' ti x lo hi=some z') (k:nM ti x (some lo) (some hi)=some z):z'=z:=by
 unfold ly at h
 split at h
 ·rename_i lv kk esz i n g
  split at h
  ·rename_i el hd
   split at h
   ·rename_i kl l kh jj
    split at h
    ·split at h
     ·obtain rfl:=oi h
      unfold nM at k
      rw[hd]at k
      simp only at k
      split at k
      ·simp only[mS]at k
       obtain⟨⟨a,b⟩,hb,rfl⟩:=k
       unfold bounds qS at hb
       simp only at hb
       split at hb
       ·rename_i hh hhe
        split at hhe
        ·obtain rfl:=oi hhe
         unfold qT at hb
         simp only at hb
         split at hb
         ·rename_i ll hle
          split at hle
          ·obtain rfl:=oi hle
           simp only[oE,Prod.mk.injEq]at hb
           obtain⟨rfl,rfl⟩:=hb
           rfl
          ·cases hle
         ·cases hb
        ·cases hhe
       ·cases hb
      ·cases k
     ·cases h
    ·cases h
   ·cases h
  ·cases h
 ·cases h
include eF hG in
theorem ah4 {T:AM}{kb:Nat}{o:Op}{ty:TypeId}{d:De} (h:bE T kb o ty tm G=some d):bE T kb o ty tm' G'=some d:=by
 have ev:∀ {x:Operand}{y:AV},bd tm x=some y->bd tm' x=some y:=fun hx=>wc eF hx
 unfold bE at h ⊢
 split at h
 ·exact uG (fun _=>ev) h
 ·rename_i x
  cases hx:bd tm x with
  |none=>rw[hx]at h;cases h
  |some y=>
   rw[hx]at h
   rw[ev hx]
   exact h
 ·rename_i c x y
  split at h
  ·rename_i b hb
   simp only[ev hb]
   cases b with
   |true=>exact uG (fun _=>ev) h
   |false=>exact uG (fun _=>ev) h
  ·cases h
 ·exact h
 ·split at h
  ·rename_i ti x' ht hx
   simp only[ht,ev hx];exact h
  ·cases h
 ·split at h
  ·rename_i ti ps ht hp
   simp only[ht,aen eF _ _ hp];exact h
  ·cases h
 ·split at h
  ·rename_i ti ps ht hp
   simp only[ht,aen eF _ _ hp];exact amj hG h
  ·cases h
 ·split at h
  ·rename_i ti x' ht hx
   simp only[ht,ev hx];exact uG (fun _=>amp hG) h
  ·cases h
 ·split at h
  ·rename_i ti x' y' ht hx hy
   simp only[ht,ev hx,ev hy]
   split at h
   ·exact ams hG h
   ·cases h
  ·cases h
 ·split at h
  ·rename_i x' hx
   simp only[ev hx];exact h
  ·cases h
 ·split at h
  ·rename_i ti x' y' ht hx hy
   simp only[ht,ev hx,ev hy];exact h
  ·cases h
 ·split at h
  ·rename_i x' hx
   simp only[ev hx];exact h
  ·cases h
 ·split at h
  ·rename_i s d' x' hs hd hx
   simp only[hs,hd,ev hx]
   refine uG (fun z hz=>?_) h
   cases hc:kI T G s d' x' with
   |some y=>rw[hc]at hz;rw[akA hG hc];exact hz
   |none=>
    rw[hc,ub]at hz
    rw[akC (aky hz),ub];exact hz
  ·cases h
 ·split at h
  ·rename_i x' y' hx hy
   simp only[zK eF _ _ hx,zK eF _ _ hy];exact h
  ·cases h
 ·split at h
  ·rename_i ti l' c' ht hl hc
   simp only[ht,ev hl,ev hc];exact h
  ·cases h
 ·split at h
  ·split at h
   ·split at h
    ·rename_i ht hx hh hm
     simp only[ht,ev hx,ev hh,ev hm]
     exact h
    ·cases h
   ·split at h
    ·rename_i ht hx hl hh
     split at h
     ·rename_i hm
      simp only[ht,ev hx,ev hl,ev hh,ev hm]
      exact h
     ·cases h
    ·cases h
   ·cases h
  ·split at h
   ·rename_i ti x' ht hx
    simp only[ht,ev hx]
    split at h
    ·exact h
    ·split at h
     ·rename_i jk;simp only[ev jk];exact h
     ·cases h
    ·split at h
     ·rename_i jk;simp only[ev jk];exact h
     ·cases h
    ·split at h
     ·rename_i lY eP jk rn
      simp only[ev jk,ev rn]
      refine uG (fun z hz=>?_) h
      cases eC:ly G ti x' lY eP with
      |none=>
       rw[eC,ub]at hz
       cases adv:ly G' ti x' lY eP with
       |none=>rw[ub];exact hz
       |some z'=>
        rw[we]
        exact(akr adv hz)▸rfl
      |some z'=>
       rw[eC,we]at hz
       have adv:ly G' ti x' lY eP=some z':=by
        unfold ly at eC ⊢
        split at eC
        ·split at eC
         ·split at eC
          ·split at eC
           ·rename_i hg
            simp only[hG _ _ _ hg];exact eC
           ·cases eC
          ·cases eC
         ·cases eC
        ·cases eC
       rw[adv,we];exact hz
     ·cases h
   ·cases h
 ·split at h
  ·rename_i ti x' ht hx
   simp only[ht,ev hx];exact h
  ·cases h
 ·split at h
  ·rename_i ti x' ht hx
   simp only[ht,ev hx];exact h
  ·cases h
 ·split at h
  ·rename_i ti x' y' ht hx hy
   simp only[ht,ev hx,ev hy];exact h
  ·cases h
 ·split at h
  ·rename_i ti x' y' ht hx hy
   simp only[ht,ev hx,ev hy];exact h
  ·cases h
 ·split at h
  ·rename_i xs hx
   simp only[ev hx];exact h
  ·cases h
 ·split at h
  ·rename_i ti l k esz i n g ht hx
   simp only[ht,ev hx];exact h
  ·cases h
 ·split at h
  ·rename_i ti x' ht hx
   simp only[ht,ev hx];exact h
  ·cases h
 ·split at h
  ·split at h
   ·rename_i xs fV
    simp only[zK eF _ _ fV];exact akw hG h
   ·cases h
  ·cases h
 ·cases h
end
abbrev Sets:=List (Nat×Nat×Option AH)
def said:Sets->Nat->Nat->Option (Option AH)
 |[],_,_=>none
 |(l,k,b)::r,l',k'=>match said r l' k' with
  |some x=>some x
  |none=>if l=l'/\k=k' then some b else none
theorem sZ (s:Sets):∀ (H:Heap) (l k:Nat),(H.bL s).get l k=match said s l k with
  |some b=>if l<H.length then b else none
  |none=>H.get l k:=by
 induction s with
 |nil=>intro H l k;rfl
 |cons p s ih=>
  obtain⟨l0,k0,b⟩:=p
  intro H l k
  simp only[Heap.bL,ih,said,Heap.aoD]
  cases hs:said s l k with
  |some x=>rfl
  |none=>
   simp only[Heap.pH]
   by_cases h:l0=l/\k0=k
   ·obtain⟨rfl,rfl⟩:=h
    simp only[and_self,true_and,if_true]
    split
    ·rfl
    ·rename_i hl
     cases hg:H.get l0 k0 with
     |none=>rfl
     |some b'=>exact absurd (Heap.rh H _ _ _ hg) hl
   ·rw[if_neg h,if_neg (fun hh=>h ⟨hh.1,hh.2.1⟩)]
theorem wk (s t:Sets) (l k:Nat):said (s++t) l k=match said t l k with
  |some x=>some x
  |none=>said s l k:=by
 induction s with
 |nil=>simp only[BM,said];cases said t l k<;>rfl
 |cons p s ih=>
  obtain⟨l0,k0,b⟩:=p
  simp only[Bq,said,ih]
  cases said t l k<;>rfl
theorem abJ {s:Sets}{l k:Nat} (h:∀ p∈s,¬ (p.1=l/\p.2.1=k)):said s l k=none:=by
 induction s with
 |nil=>rfl
 |cons p s ih=>
  obtain⟨l0,k0,b⟩:=p
  simp only[said,ih (fun q hq=>h q (List.mem_cons_of_mem _ hq))]
  rw[if_neg (h _ List.mem_cons_self)]
theorem aiE {s:Sets}{l k:Nat}{x:Option AH} (h:said s l k=some x):∃ p∈s,p.1=l/\p.2.1=k:=by
 induction s with
 |nil=>cases h
 |cons p s ih=>
  obtain⟨l0,k0,b⟩:=p
  simp only[said]at h
  cases hs:said s l k with
  |some y=>rw[hs]at h;cases h;obtain⟨q,h1,h2⟩:=ih hs;exact⟨q,List.mem_cons_of_mem _ h1,h2⟩
  |none=>
   rw[hs]at h
   simp only at h
   split at h
   ·rename_i hh;exact⟨_,List.mem_cons_self,hh⟩
   ·cases h
def mZ (s t:Sets):Prop:=∀ p∈s,∀ q∈t,¬ (p.1=q.1/\p.2.1=q.2.1)
theorem aqc {s t:Sets} (h:mZ s t) (l k:Nat):said (s++t) l k=said (t++s) l k:=by
 rw[wk,wk]
 cases ht:said t l k with
 |none=>cases said s l k<;>rfl
 |some x=>
  cases hs:said s l k with
  |none=>rfl
  |some y=>
   obtain⟨q,h1,h2,h3⟩:=aiE ht
   obtain⟨p,h4,h5,h6⟩:=aiE hs
   exact absurd ⟨h5.trans h2.symm,h6.trans h3.symm⟩ (h p h4 q h1)
section
variable {N0:Nat}{W0:World}{fm:FM}{ts:List Ak}{H H':Heap}{w:World}
theorem HR.ext (h:HR N0 W0 fm ts H w) (hl:H'.length=H.length) (hg:∀ l k,H'.get l k=H.get l k):HR N0 W0 fm ts H' w:=
 ⟨h.len.trans hl.symm,fun l k b e=>h.al l k b (by rw[<-hg];exact e),fun l1 k1 l2 k2 b1 b2 c g1 g2=>h.inj l1 k1 l2 k2 b1 b2 c (by rw[<-hg];exact g1) (by rw[<-hg];exact g2),h.bO,
  fun l k b c o e=>h.dh l k b c o (by rw[<-hg];exact e),h.dg,h.size,h.cT,h.dZ⟩
end
def cq (ops:List An) (j:Nat):Option Tmp:=(ops[j]?).bind (·.dst)
def ic (ops:List An) (ds:List De):List Nat->List (Nat×AV)->List (Nat×AV)
 |[],tm=>tm
 |j::L,tm=>ic ops ds L (match ds[j]? with
  |some d=>mO tm (cq ops j) d.val
  |none=>tm)
def dK (ds:List De) (j:Nat):Sets:=((ds[j]?).map (·.lp)).getD []
def cG (ds:List De):List Nat->Sets
 |[]=>[]
 |j::L=>dK ds j++cG ds L
def DP (ops:List An):Prop:=∀ i j t,cq ops i=some t->cq ops j=some t->i=j
theorem ahM (tm:List (Nat×AV)) (dst:Option Tmp) (v:AV) (t:Nat):look (mO tm dst v) t=if dst=some t then some v else look tm t:=by
 cases dst with
 |none=>simp[mO]
 |some d=>simp only[mO,rN,oE]
theorem my (ops:List An) (ds:List De) (t:Nat):∀ (L:List Nat) (tm:List (Nat×AV)),(∀ j∈L,cq ops j≠some t)->look (ic ops ds L tm) t=look tm t
 |[],tm,_=>rfl
 |j::L,tm,h=>by
  simp only[ic]
  rw[my ops ds t L _ (fun k hk=>h k (List.mem_cons_of_mem _ hk))]
  split
  ·rw[ahM,if_neg (h j List.mem_cons_self)]
  ·rfl
theorem q9 (ops:List An) (ds:List De) (h1:DP ops) {t j:Nat}{d:De} (hj:cq ops j=some t) (hd:ds[j]?=some d):∀ (L:List Nat) (tm:List (Nat×AV)),j∈L->look (ic ops ds L tm) t=some d.val
 |[],tm,h=>by cases h
 |i::L,tm,h=>by
  simp only[ic]
  by_cases hL:j∈L
  ·exact q9 ops ds h1 hj hd L _ hL
  ·have:j=i:=by
    rcases BE.1 h with h|h
    ·exact h
    ·exact absurd h hL
   subst this
   rw[my ops ds t L _ (fun k hk pS=>hL (by rw[h1 j k t hj pS];exact hk))]
   rw[hd]
   simp only[ahM,hj,if_true]
theorem aez {ds:List De}{l k:Nat} (p q:Nat->Bool) (vM:∀ j,p j=true->q j=true):∀ (L:List Nat),(∀ j∈L,q j=true->p j=false->∀ s∈dK ds j,¬ (s.1=l/\s.2.1=k))->
  said (cG ds (L.filter p)) l k=said (cG ds (L.filter q)) l k
 |[],_=>rfl
 |j::L,h=>by
  have ih:=aez p q vM L (fun i hi=>h i (List.mem_cons_of_mem _ hi))
  by_cases hp:p j=true
  ·rw[List.filter_cons_of_pos hp,List.filter_cons_of_pos (vM j hp)]
   simp only[cG,wk,ih]
  ·have hpf:p j=false:=by simpa using hp
   rw[List.filter_cons_of_neg hp]
   by_cases hq:q j=true
   ·rw[List.filter_cons_of_pos hq]
    simp only[cG,wk,<-ih]
    rw[abJ (h j List.mem_cons_self hq hpf)]
    cases said (cG ds (L.filter p)) l k<;>rfl
   ·rw[List.filter_cons_of_neg hq];exact ih
theorem aiD {ds:List De}{l k i:Nat} (p:Nat->Bool) (fc:p i=false):∀ (L:List Nat),L.Nodup->i∈L->(∀ j,p j=true->(∃ a b,L=a++i::b/\j∈b)->mZ (dK ds i) (dK ds j))->
  said (cG ds (L.filter fun j=>p j || j==i)) l k=said (cG ds (L.filter p)++dK ds i) l k
 |[],_,h,_=>by cases h
 |j::L,bV,hi,jf=>by
  by_cases gH:j=i
  ·subst gH
   have hnL:j∉L:=(List.nodup_cons.1 bV).1
   have e1:(j::L).filter (fun k=>p k || k==j)=j::L.filter p:=by
    rw[List.filter_cons_of_pos (by simp)]
    congr 1
    apply List.filter_congr
    intro x hx
    have:(x==j)=false:=by simp;rintro rfl;exact hnL hx
    rw[this];simp
   have e2:(j::L).filter p=L.filter p:=by rw[List.filter_cons_of_neg (by simp[fc])]
   rw[e1,e2]
   simp only[cG]
   refine aqc ?_ l k
   have:∀ (M:List Nat),(∀ x∈M,x∈L)->mZ (dK ds j) (cG ds (M.filter p)):=by
    intro M
    induction M with
    |nil=>intro _ a _ b hb;cases hb
    |cons x M ih=>
     intro hM
     by_cases hp:p x=true
     ·rw[List.filter_cons_of_pos hp]
      intro a ha b hb
      simp only[cG,Ba]at hb
      rcases hb with hb|hb
      ·exact jf x hp ⟨[],L,rfl,hM x List.mem_cons_self⟩ a ha b hb
      ·exact ih (fun y hy=>hM y (List.mem_cons_of_mem _ hy)) a ha b hb
     ·rw[List.filter_cons_of_neg hp]
      exact ih (fun y hy=>hM y (List.mem_cons_of_mem _ hy))
   exact this L (fun _ h=>h)
  ·have hiL:i∈L:=by
    rcases BE.1 hi with h|h
    ·exact absurd h.symm gH
    ·exact h
   have ih:=aiD (ds:=ds) (l:=l) (k:=k) p fc L (List.nodup_cons.1 bV).2 hiL (fun x hx=>by
    rintro⟨a,b,e,hb⟩
    exact jf x hx ⟨j::a,b,by rw[e];rfl,hb⟩)
   have bg:(j==i)=false:=by simpa using gH
   by_cases hp:p j=true
   ·rw[List.filter_cons_of_pos (by simp[hp]),List.filter_cons_of_pos hp]
    simp only[cG]
    rw[wk,ih,Cp,wk (dK ds j)]
   ·have hpf:p j=false:=by simpa using hp
    rw[List.filter_cons_of_neg (by simp[hpf,gH]),List.filter_cons_of_neg hp]
    exact ih
def idxs (n:Nat) (p:Nat->Bool):List Nat:=(List.range n).filter p
def bA (befs:List (List Nat)) (i:Nat):List Nat:=(befs[i]?).getD []
def qF (befs:List (List Nat)) (i j:Nat):Bool:=j != i&&!(bA befs i).contains j&&!(bA befs j).contains i
def mw (ops:List An) (befs:List (List Nat)) (ds:List De) (tm:List (Nat×AV)) (i:Nat):List (Nat×AV):=
 ic ops ds (idxs ops.length fun j=>(bA befs i).contains j) (cA tm ((idxs ops.length fun j=>!(bA befs j).contains i).filterMap (cq ops)))
def gone (s:Sets):Sets:=s.map fun x=>(x.1,x.2.1,none)
def lE (ops:List An) (befs:List (List Nat)) (ds:List De) (H:Heap) (i:Nat):Heap:=
 (H.bL (cG ds (idxs ops.length fun j=>(bA befs i).contains j))).bL (gone (cG ds (idxs ops.length (qF befs i))))
def HC (P:Program) (t:TypeId) (ob:Obj) (r:Nat) (kv y:AV):Prop:=∀ (fm:FM) (ts:List Ak) (v:Value) (w:World),VR fm ts kv v->w.heap[r]?=some ob->∃ u,(Instr.lookup t (.map (some r)) v false).run P w=.ok u w/\VR fm ts y u
inductive Em [Md] (P:Program) (T:AM) (kb:Nat) (o:An) (tm:Tm) (G:AR) (d:De):Prop
 |op (hc:kj o.op=none) (h:bE T kb o.op o.type tm G=some d)
 |call (c:Call) (f:FuncId) (args ay:List AV) (hc:kj o.op=some c) (h:callee tm c=some (f,args)) (hp:Aw P f ay (fun y=>y=d.val)) (hz:AV.aG G args=some ay)
   (hr:AV.aN args=[]\/d.val.cU=true) (hs:d.lp=[])
 |mL (m:Nat) (c:Call) (f:FuncId) (args ay:List AV) (hc:kj o.op=some c) (h:callee tm c=some (f,args)) (hp:Aw P f ay (fun y=>y=d.val)) (hz:AV.cW G (cQ G m) args=some ay)
   (hr:d.val.cU=true) (hs:d.lp=[])
 |nZ (rs gs:List Nat) (c:Call) (f:FuncId) (args dD:List AV) (fr0 fr:Av) (y:AV) (hc:kj o.op=some c) (h:callee tm c=some (f,args)) (hp:A6 P f dD fr0 (fun y' aU=>y'=y/\aU=fr))
   (hz:kN gs (only (jR G) (rs.map fun k=>(1,k))) (cQ (only (jR G) (rs.map fun k=>(1,k))) 5) (AV.de 1 args)=some dD) (hg:n4 G 0 gs=some fr0) (bV:(decide (gs++rs).Nodup&&decide (gs.length<=16))=true)
   (hd:d=⟨y.imp kb,kX rs++(kX gs++kW kb fr)⟩)
 |ri (m:Nat) (c:Call) (f:FuncId) (args ay:List AV) (fr:Av) (y:AV) (hc:kj o.op=some c) (h:callee tm c=some (f,args)) (hp:A6 P f ay [] (fun y' aU=>y'=y/\aU=fr)) (hz:AV.cW G (cQ G m) args=some ay)
   (hy:y.mM=true) (hf:rM fr) (hd:d=⟨y.imp kb,kW kb fr⟩)
 |look (t:TypeId) (m x:Operand) (r:Nat) (kv:AV) (ob:Obj) (ho:o.op=.lookup t m x false) (hm:bd tm m=some (.raw (.map (some r)))) (hx:bd tm x=some kv) (hr:Md.mps r=some ob) (hl:HC P t ob r kv d.val) (hs:d.lp=[])
def agY (o:An) (tm:Tm):Prop:=o.guard=none\/∃ g w b,o.guard=some (g,w)/\tm g=some (.bool b)/\(b==w)=true
def stays (o:An) (tm:Tm):Prop:=∃ g w,o.guard=some (g,w)/\((∃ b,tm g=some (.bool b)/\(b==w)=false)\/tm g=some (.ar []))
def C4 [Md] (P:Program) (T:AM) (kb:Nat) (o:An) (tm:Tm) (G:AR) (d:De):Prop:=(agY o tm/\Em P T kb o tm G d)\/(stays o tm/\d=⟨.ar [],[]⟩)
theorem amU {s:Sets}{l k:Nat} (h:∃ p∈s,p.1=l/\p.2.1=k):said (gone s) l k=some none:=by
 induction s with
 |nil=>obtain⟨p,hp,_⟩:=h;cases hp
 |cons q s ih=>
  obtain⟨l0,k0,b⟩:=q
  simp only[gone,List.map_cons,said]
  by_cases hs:∃ p∈s,p.1=l/\p.2.1=k
  ·have:=ih hs
   unfold gone at this
   rw[this]
  ·obtain⟨p,hp,h1,h2⟩:=h
   rcases BE.1 hp with rfl|hp
   ·have hn:said (List.map (fun x=>(x.1,x.2.1,none)) s) l k=none:=by
     apply abJ
     intro x hx
     obtain⟨y,hy,rfl⟩:=List.mem_map.1 hx
     exact fun hh=>hs ⟨y,hy,hh⟩
    rw[hn]
    simp only
    rw[if_pos ⟨h1,h2⟩]
   ·exact absurd ⟨p,hp,h1,h2⟩ hs
theorem ad1 {ds:List De}{s:Nat×Nat×Option AH}:∀ (L:List Nat),s∈cG ds L↔∃ j∈L,s∈dK ds j
 |[]=>by simp[cG]
 |j::L=>by simp only[cG,Ba,ad1 L,BE,exists_eq_or_imp]
theorem al2 {ops:List An}{befs:List (List Nat)}{ds:List De}{H:Heap}{i:Nat} (p:Nat->Bool) (fc:p i=false) (hB:∀ j,(bA befs i).contains j=true->p j=true)
  (ca:∀ j,p j=true->(bA befs j).contains i=false):D4 (Heap.get (lE ops befs ds H i)) (Heap.get (H.bL (cG ds (idxs ops.length p)))):=by
 intro l k b hb
 unfold lE at hb
 rw[sZ]at hb
 have yO:¬ ∃ s∈cG ds (idxs ops.length (qF befs i)),s.1=l/\s.2.1=k:=by
  intro hex
  rw[amU hex]at hb
  simp only at hb
  split at hb<;>cases hb
 have hn:said (gone (cG ds (idxs ops.length (qF befs i)))) l k=none:=by
  apply abJ
  intro x hx
  obtain⟨y,hy,rfl⟩:=List.mem_map.1 hx
  exact fun hh=>yO ⟨y,hy,hh⟩
 rw[hn]at hb
 simp only at hb
 rw[sZ]at hb ⊢
 have e:said (cG ds (idxs ops.length fun j=>(bA befs i).contains j)) l k=said (cG ds (idxs ops.length p)) l k:=by
  refine aez _ _ hB _ ?_
  intro j hj kU hnb s hs hh
  refine yO ⟨s,(ad1 _).2 ⟨j,?_,hs⟩,hh⟩
  unfold idxs
  rw[List.mem_filter]
  refine⟨hj,?_⟩
  have gH:j≠i:=by rintro rfl;rw[fc]at kU;cases kU
  unfold qF
  rw[hnb,ca j kU]
  simp[gH]
 rw[<-e]
 exact hb
section
variable [Md]
structure DR (N0:Nat) (W0:World) (n:Nat) (st:St) (ops:List An) (ds:List De) (p:Nat->Bool) (a:Act) (w:World) (fm:FM) (ts:List Ak):Prop where
 hr:HR N0 W0 fm ts (Heap.bL (st.fr::st.low) (cG ds (idxs ops.length p))) w
 tm:CY fm ts (look (ic ops ds (idxs ops.length p) st.tm)) a
 fre:∀ i,i<ops.length->p i=false->∀ k,st.nx+16*i<=k->k<st.nx+16*i+16->tb ts 0 k=none
 top:∀ k,st.nx+16*ops.length<=k->tb ts 0 k=none
 size:a.tmps.size=n
 dX:a.defers=Md.uX/\Dw W0
theorem lW {n:Nat}{p:Nat->Bool}{j:Nat}:j∈idxs n p↔j<n/\p j=true:=by
 unfold idxs;rw[List.mem_filter,List.mem_range]
section
variable [Md] {P:Program}{T:AM}{N0:Nat}{W0:World}{n:Nat}{fm:FM}{ts:List Ak}{st:St}{ops:List An}{befs:List (List Nat)}{ds:List De}
theorem af6 {l:List (Nat×AV)}:∀ (ks:List Nat) (l:List (Nat×AV)) (t:Nat),t∈ks->look (cA l ks) t=none
 |[],_,_,h=>by cases h
 |k::ks,l,t,h=>by
  simp only[cA]
  by_cases ht:t∈ks
  ·exact af6 (l:=l) ks _ t ht
  ·have hk:t=k:=by
    rcases BE.1 h with h|h
    ·exact h
    ·exact absurd h ht
   subst hk
   cases hl:look (cA (del l t) ks) t with
   |none=>rfl
   |some x=>
    have:=zx ks _ t x hl
    rw[zw,if_pos rfl]at this
    cases this
theorem acO {p:Nat->Bool}{i:Nat} (h1:DP ops) (jF:∀ j,j<ops.length->∃ d,ds[j]?=some d) (hB:∀ j,(bA befs i).contains j=true->p j=true) (ca:∀ j,p j=true->(bA befs j).contains i=false):
  Ej (look (mw ops befs ds st.tm i)) (look (ic ops ds (idxs ops.length p) st.tm)):=by
 intro t x hx
 unfold mw at hx
 by_cases hex:∃ j,cq ops j=some t
 ·obtain⟨j,hj⟩:=hex
  have kR:j<ops.length:=by
   unfold cq at hj
   cases ho:ops[j]? with
   |none=>rw[ho]at hj;cases hj
   |some o=>exact(gS.1 ho).1
  obtain⟨dj,n8⟩:=jF j kR
  have bx:∀ q:Nat->Bool,q j=false->∀ k∈idxs ops.length q,cq ops k≠some t:=by
   intro q hq k hk pS
   have:=h1 j k t hj pS
   subst this
   rw[(lW.1 hk).2]at hq;cases hq
  by_cases hb:(bA befs i).contains j=true
  ·rw[q9 ops ds h1 hj n8 _ _ (lW.2 ⟨kR,hb⟩)]at hx
   rw[q9 ops ds h1 hj n8 _ _ (lW.2 ⟨kR,hB j hb⟩)]
   exact hx
  ·rw[my ops ds t _ _ (bx _ (by simpa using hb))]at hx
   by_cases ha:(bA befs j).contains i=true
   ·have kU:p j=false:=by
     cases hp:p j with
     |false=>rfl
     |true=>have:=ca j hp;rw[ha]at this;cases this
    rw[my ops ds t _ _ (bx _ kU)]
    exact zx _ _ _ _ hx
   ·rw[af6 (l:=st.tm)]at hx
    ·cases hx
    ·exact List.mem_filterMap.2 ⟨j,lW.2 ⟨kR,by simpa using ha⟩,hj⟩
 ·have bx:∀ (L:List Nat),∀ j∈L,cq ops j≠some t:=fun L j _ hj=>hex ⟨j,hj⟩
  rw[my ops ds t _ _ (bx _)]at hx ⊢
  exact zx _ _ _ _ hx
theorem DR.step {p:Nat->Bool}{a:Act}{w:World} (h:DR N0 W0 n st ops ds p a w fm ts) {i:Nat} (hi:i<ops.length) (fc:p i=false) {d:De} (hd:ds[i]?=some d) {r:Result Next}{fm':FM}{ts':List Ak}{w':World}{v:Value}
  (o:Out N0 W0 fm ts (Heap.bL (st.fr::st.low) (cG ds (idxs ops.length p))) w (st.nx+16*i) r d fm' ts' w' v) (h1:DP ops) (jF:∀ j,j<ops.length->∃ d,ds[j]?=some d)
  (jf:∀ j,p j=true->i<j->mZ (dK ds i) (dK ds j)) (eN:∀ d,cq ops i=some d->d<n):
  DR N0 W0 n st ops ds (fun j=>p j || j==i) (a.put (cq ops i) v) w' fm' ts'/\Be N0 fm ts fm' ts':=by
 refine⟨⟨?_,?_,?_,?_,by rw[zT];exact h.size,by rw[wg];exact h.dX⟩,⟨o.cS,o.jT.drop 1,?_⟩⟩
 ·refine o.hr.ext (by simp) ?_
  intro l k
  have hs:dK ds i=d.lp:=by simp[dK,hd]
  rw[<-Heap.oN,<-hs,sZ,sZ]
  have:=aiD (ds:=ds) (l:=l) (k:=k) (i:=i) p fc (List.range ops.length) List.nodup_range (List.mem_range.2 hi) (by
   rintro j hj ⟨x,y,tV,hjy⟩
   refine jf j hj ?_
   have aho:(List.range ops.length).Pairwise (·<·):=List.pairwise_lt_range
   rw[tV]at aho
   have:=(List.pairwise_append.1 aho).2.1
   exact(List.pairwise_cons.1 this).1 j hjy)
  unfold idxs
  rw[this]
 ·intro t x hx
  by_cases ht:cq ops i=some t
  ·have bB:i∈idxs ops.length (fun j=>p j || j==i):=lW.2 ⟨hi,by simp⟩
   rw[q9 ops ds h1 ht hd _ _ bB]at hx
   obtain rfl:=oi hx
   have ae:=eN t ht
   rw[<-h.size]at ae
   exact⟨v,by rw[ht];simp[Act.put,ae],o.val⟩
  ·have iS:look (ic ops ds (idxs ops.length p) st.tm) t=some x:=by
    by_cases hex:∃ j,cq ops j=some t
    ·obtain⟨j,hj⟩:=hex
     have gH:j≠i:=fun e=>ht (by rw[<-e];exact hj)
     have kR:j<ops.length:=by
      unfold cq at hj
      cases ho:ops[j]? with
      |none=>rw[ho]at hj;cases hj
      |some o=>exact(gS.1 ho).1
     obtain⟨dj,n8⟩:=jF j kR
     by_cases kU:p j=true
     ·rw[q9 ops ds h1 hj n8 _ _ (lW.2 ⟨kR,by simp[kU]⟩)]at hx
      rw[q9 ops ds h1 hj n8 _ _ (lW.2 ⟨kR,kU⟩)]
      exact hx
     ·have bx:∀ q:Nat->Bool,q j=false->∀ k∈idxs ops.length q,cq ops k≠some t:=by
       intro q hq k hk pS
       have:=h1 j k t hj pS
       subst this
       rw[(lW.1 hk).2]at hq;cases hq
      rw[my ops ds t _ _ (bx _ (by simp[kU,gH]))]at hx
      rw[my ops ds t _ _ (bx _ (by simpa using kU))]
      exact hx
    ·have bx:∀ (L:List Nat),∀ j∈L,cq ops j≠some t:=fun L j _ hj=>hex ⟨j,hj⟩
     rw[my ops ds t _ _ (bx _)]at hx ⊢
     exact hx
   obtain⟨u,h2,h3⟩:=h.tm t x iS
   refine⟨u,?_,h3.mono o.cS.le o.jT⟩
   cases nh:cq ops i with
   |none=>exact h2
   |some dd=>
    simp only[Act.put]
    rw[Array.getElem?_setIfInBounds_ne (fun e=>ht (by rw[nh,e]))]
    exact h2
 ·intro j hj kU k bw pR
  simp only[Bool.or_eq_false_iff,beq_eq_false_iff_ne,ne_eq]at kU
  refine o.free 0 k ?_ (h.fre j hj kU.1 k bw pR)
  rcases Nat.lt_or_gt_of_ne kU.2 with ae|hgt
  ·exact .inr (.inl (by omega))
  ·exact .inr (.inr (by omega))
 ·intro k hk
  refine o.free 0 k (.inr (.inr ?_)) (h.top k hk)
  have:st.nx+16*i+16<=st.nx+16*ops.length:=by omega
  omega
 ·intro l k hn
  rw[fg]at hn ⊢
  exact o.free (l+1) k (by omega) hn
end
end
section
variable [Md] {P:Program}{T:AM}{N0:Nat}{W0:World}{n:Nat}{fm:FM}{ts:List Ak}{st:St}{ops:List An}{befs:List (List Nat)}{ds:List De}
theorem aaU {tm tm':Tm} (h:Ej tm tm') {c:Call}{x:FuncId×List AV} (e:callee tm c=some x):callee tm' c=some x:=by
 unfold callee at e ⊢
 split at e
 ·split at e
  ·rename_i hf hx
   simp only[wc h hf,zK h _ _ hx];exact e
  ·cases e
 ·cases e
theorem HR.lI {H:Heap}{w:World} (h:HR N0 W0 fm ts H w) {cs ys:List AV}{vs:List Value} (hv:Au fm ts cs vs) (e:AV.aG H.get cs=some ys):
  Au (gm fm w (behind ts H (AV.aN cs))) [] ys vs:=h.aG _ hv e (fun _ h=>h)
theorem DR.oper (hT:AQ P T) {p:Nat->Bool}{a:Act}{w:World} (h:DR N0 W0 n st ops ds p a w fm ts) {i:Nat} (hi:i<ops.length) (fc:p i=false) {d:De} (hd:ds[i]?=some d) {s:An} (hs:ops[i]?=some s)
  (he:Em P T (st.nx+16*i) s (look (mw ops befs ds st.tm i)) (Heap.get (lE ops befs ds (st.fr::st.low) i)) d) (h1:DP ops) (jF:∀ j,j<ops.length->∃ d,ds[j]?=some d)
  (hB:∀ j,(bA befs i).contains j=true->p j=true) (ca:∀ j,p j=true->(bA befs j).contains i=false)
  (jf:∀ j,p j=true->i<j->mZ (dK ds i) (dK ds j)) (eN:∀ d,cq ops i=some d->d<n)
  {o:Oper} (lP:s.op=o.op) (hty:s.type=o.type) (nh:s.dst=o.dst) {K:Act->World->Prop}{Q:Exit->Act->World->Prop}
  (hK:∀ v w' fm' ts',DR N0 W0 n st ops ds (fun j=>p j || j==i) (a.put o.dst v) w' fm' ts'->Be N0 fm ts fm' ts'->K (a.put o.dst v) w'):o.wpIn FW 0 P a w K Q:=by
 have yr:cq ops i=o.dst:=by simp[cq,hs,nh]
 have hG:=al2 (ops:=ops) (ds:=ds) (H:=st.fr::st.low) p fc hB ca
 have kc:Ej (look (mw ops befs ds st.tm i)) (look (ic ops ds (idxs ops.length p) st.tm)):=by
  exact acO h1 jF hB ca
 have step:∀ {r v w' fm' ts'},Out N0 W0 fm ts (Heap.bL (st.fr::st.low) (cG ds (idxs ops.length p))) w (st.nx+16*i) r d fm' ts' w' v->K (a.put o.dst v) w':=by
  intro r v w' fm' ts' ho
  obtain⟨h2,h3⟩:=h.step hi fc hd ho h1 jF jf eN
  rw[yr]at h2
  exact hK v w' fm' ts' h2 h3
 cases he with
 |op hc rm=>
  have abc:=ah4 kc hG rm
  rw[lP,hty]at abc
  obtain⟨fm',ts',w',v,ho⟩:=ah5 (P:=P) hT h.hr (by simp) (h.fre i hi fc) h.tm abc
  have hk:=step ho
  have bV:∀ c,o.op≠.defer c:=fun c0 h0=>by rw[h0]at abc;simp[bE]at abc
  rcases ho.done with hr|⟨hr,rfl⟩
  ·exact zO bV hr hk
  ·exact aei bV hr hk
 |look t m x r kv ob ho hm hx hr hl hs=>
  have lR:=h.dX.2 r ob hr
  have hw:w.heap[r]?=some ob:=h.hr.cT r ob lR.1 lR.2
  have h1:=rR h.tm (wc kc hm)
  have h2:=rR h.tm (wc kc hx)
  have e1:a.eval m=.map (some r):=by generalize a.eval m=u at h1;cases h1;rfl
  obtain⟨z,h3,h4⟩:=hl fm ts _ w h2 hw
  have oj:o.op=.lookup t m x false:=by rw[<-lP];exact ho
  refine zO (v:=z) (fun c0 h0=>by rw[oj]at h0;cases h0) (w':=w) (by simp only[execOp,oj,e1];exact dY h3) (step (r:=.ok (.value z) w) ⟨.inl rfl,?_,h4,AN.refl _ _,As.refl _,fun _ _ _ h=>h⟩)
  rw[hs]
  exact h.hr
 |call c f args ay hc fD hp hz hr abj=>
  have tq:=aaU kc fD
  have ei:=nX hG _ _ hz
  obtain⟨vs,fo,bf,tJ⟩:=xw (w:=w) h.tm tq hc lP hp.1
  have ni:=h.hr.lI fo ei
  have bB:=(h.hr.rL (AV.aN args)).bO
  refine zN tJ bf ?_
  refine Calls.mono (hp.2 _ w _ bB ni) ?_
  rintro e w' ⟨v,y,fm',rfl,rfl,yE,bp,bo,hb⟩
  refine step (r:=.ok (.value v) w') (fm':=if AV.aN args=[] then fm' else fm) (ts':=ts) ?_
  by_cases vO:AV.aN args=[]
  ·rw[if_pos vO]
   rw[vO,aa9]at bo
   refine⟨.inl rfl,?_,bp.mono (AZ.refl _) (As.nil _),bo.low h.hr.size,As.refl _,fun _ _ _ h=>h⟩
   rw[abj]
   exact h.hr.up hb bo yE
  ·rw[if_neg vO]
   have hsc:d.val.cU=true:=by
    rcases hr with hr|hr
    ·exact absurd hr vO
    ·exact hr
   refine⟨.inl rfl,?_,bp.cU hsc,AN.refl _ _,As.refl _,fun _ _ _ h=>h⟩
   rw[abj]
   exact h.hr.world (fun i hi=>hb.block i hi) (hb.mono h.hr.size)
 |mL m c f args ay hc fD hp hz hr abj=>
  have tq:=aaU kc fD
  have ei:=(sJ hG (uM hG (fun _ _ _ _ _ _ _ hh=>mB hG _ _ hh) m) (fun _ _ _ _ _ _ _ hh=>mB hG _ _ hh)).2 _ _ hz
  obtain⟨vs,fo,bf,tJ⟩:=xw (w:=w) h.tm tq hc lP hp.1
  have ni:=h.hr.brs _ (h.hr.cQ m) fo ei
  refine zN tJ bf ?_
  refine Calls.mono (hp.2 _ w _ (fun b o v h=>h) ni) ?_
  rintro e w' ⟨v,y,fm',rfl,rfl,yE,bp,bo,hb⟩
  refine step (r:=.ok (.value v) w') (fm':=fm) (ts':=ts) ?_
  refine⟨.inl rfl,?_,bp.cU hr,AN.refl _ _,As.refl _,fun _ _ _ h=>h⟩
  rw[abj]
  exact h.hr.world (fun i hi=>hb.block i hi) (hb.mono h.hr.size)
 |ri m c f args ay fr y hc fD hp hz hy hf yn=>
  have tq:=aaU kc fD
  have ei:=(sJ hG (uM hG (fun _ _ _ _ _ _ _ hh=>mB hG _ _ hh) m) (fun _ _ _ _ _ _ _ hh=>mB hG _ _ hh)).2 _ _ hz
  obtain⟨vs,fo,bf,tJ⟩:=xw (w:=w) h.tm tq hc lP hp.1
  have ni:=h.hr.brs _ (h.hr.cQ m) fo ei
  obtain⟨f1,H1,hH⟩:=ud st.fr st.low (cG ds (idxs ops.length p))
  refine zN tJ bf ?_
  refine Calls.mono (A6.ahF hp h.hr (fun _ _ _ h=>h) ni hy hf) ?_
  rintro e w' ⟨v,t',rfl,bX,bp,je⟩
  cases ts with
  |nil=>have:=bX.len;rw[hH]at this;simp at this
  |cons hh rest=>
   have bx:∀ l k,tb (hh::rest) l k=none->tb (hh::rest) l k=none:=fun _ _ h=>h
   have bo:AN N0 fm fm:=AN.refl _ _
   have lQ:As (hh::rest) (hh::rest):=As.refl _
   have adO:∀ k x,hh k=some x->¬ (st.nx+16*i<=k/\k<st.nx+16*i+16):=by
    rintro k x hx ⟨h1,h2⟩
    have:=bx 0 k (h.fre i hi fc k h1 h2)
    simp only[tb]at this
    rw[this]at hx;cases hx
   have j1:∀ k x,t' k=some x->jS (st.nx+16*i) t' hh (st.nx+16*i+k)=some x:=by
    intro k x hx
    have ae:k<16:=by
     rcases Nat.lt_or_ge k 16 with hk|hk
     ·exact hk
     ·rw[je k hk]at hx;cases hx
    unfold jS
    rw[if_pos ⟨by omega,by omega⟩]
    simpa using hx
   have j2:∀ k x,hh k=some x->jS (st.nx+16*i) t' hh k=some x:=by
    intro k x hx
    unfold jS
    rw[if_neg (adO k x hx)];exact hx
   have hJ:∀ l k x,tb (t'::hh::rest) l k=some x->tb (jS (st.nx+16*i) t' hh::rest) (l - 1) (if l=0 then st.nx+16*i+k else k)=some x:=by
    intro l k x e
    cases l with
    |zero=>simpa [tb] using j1 k x (by simpa [tb] using e)
    |succ l=>
     cases l with
     |zero=>simpa [tb] using j2 k x (by simpa [tb] using e)
     |succ l=>simpa [tb] using e
   have hTT:As (hh::rest) (jS (st.nx+16*i) t' hh::rest):=by
    intro l k
    cases l with
    |zero=>
     simp only[tb]
     cases hx:hh k with
     |none=>trivial
     |some x=>rw[j2 k x hx];exact Bl.refl _
    |succ l=>exact Bl.refl _
   refine step (r:=.ok (.value v) w') (fm':=fm) (ts':=jS (st.nx+16*i) t' hh::rest) ?_
   subst yn
   refine⟨.inl rfl,?_,bp.vS hJ rfl,bo,lQ.trans hTT,?_⟩
   ·rw[hH]at bX ⊢
    simp only[Heap.oN,aer,aeq]
    exact bX.vS j1 j2
   ·intro l k nj hn
    cases l with
    |zero=>
     have hk:¬ (st.nx+16*i<=k/\k<st.nx+16*i+16):=by omega
     simp only[tb,jS,if_neg hk]
     have:=bx 0 k hn
     simpa [tb] using this
    |succ l=>
     have:=bx (l+1) k hn
     simpa [tb] using this
 |nZ rs gs c f args dD fr0 fr y hc fD hp hz hg bV yn=>
  have tq:=aaU kc fD
  obtain⟨vs,fo,bf,tJ⟩:=xw (w:=w) h.tm tq hc lP hp.1
  obtain⟨f1,H1,hH⟩:=ud st.fr st.low (cG ds (idxs ops.length p))
  have arS:=bV
  simp only[A7,decide_eq_true_eq]at bV
  have hGH:∀ l k b,Heap.get (lE ops befs ds (st.fr::st.low) i) l k=some b->Heap.get (f1::H1) l k=some b:=by
   rw[<-hH];exact hG
  have th:∀ l k b,only (jR (Heap.get (lE ops befs ds (st.fr::st.low) i))) (rs.map fun k=>(1,k)) l k=some b->only (Heap.get ([]::f1::H1)) (rs.map fun k=>(1,k)) l k=some b:=by
   intro l k b e
   unfold only at e ⊢
   split at e
   ·rename_i hm
    rw[if_pos hm]
    cases l with
    |zero=>simp[jR]at e
    |succ l=>simpa [Heap.get] using hGH l k b (by simpa [jR] using e)
   ·cases e
  have yH:∀ (l k e i0 n g:Nat) (y:AV),(AV.loc l k e i0 n g).ai (only (jR (Heap.get (lE ops befs ds (st.fr::st.low) i))) (rs.map fun k=>(1,k)))=some y->(AV.loc l k e i0 n g).ai (only (Heap.get ([]::f1::H1)) (rs.map fun k=>(1,k)))=some y:=
   fun _ _ _ _ _ _ _ hh=>mB th _ _ hh
  have ei:=adm (gs:=gs) (sJ th (uM th yH 5) yH).1 _ _ hz
  have mE:=adl hGH gs 0 fr0 hg
  have bm:=agW f1 H1 rs gs 0 fr0 mE (by
   intro k hk eQ
   exact(List.nodup_append.1 bV.1).2.2 k hk k eQ rfl)
  have ha:=A6.used (H:=H1) 5 rs gs hp ei bm (by
   simp only[A7,decide_eq_true_eq]
   exact⟨(List.nodup_append.1 bV.1).1,bV.2⟩)
  have hr0:=h.hr
  rw[hH]at hr0
  have adu:Au fm (cL::ts) (AV.de 1 args) vs:=by
   refine⟨by rw[mQ];exact fo.1,?_⟩
   intro i x v hx hv
   rw[mP,mS]at hx
   obtain⟨y,hy,rfl⟩:=hx
   exact(fo.2 i y v hy hv).sh 1 (by simp)
  refine zN tJ bf ?_
  refine Calls.mono (ha.2 N0 W0 fm ts w _ hr0 adu) ?_
  rintro e w' ⟨v,av,aU,JL,fm',t',ts',rfl,⟨⟨rfl,rfl⟩,rfl⟩,_,bX,bp,bo,lQ,bx,je⟩
  cases ts' with
  |nil=>have:=bX.len;simp at this
  |cons hh rest=>
   have adO:∀ k x,hh k=some x->¬ (st.nx+16*i<=k/\k<st.nx+16*i+16):=by
    rintro k x hx ⟨h1,h2⟩
    have:=bx 0 k (h.fre i hi fc k h1 h2)
    simp only[tb]at this
    rw[this]at hx;cases hx
   have j1:∀ k x,t' k=some x->jS (st.nx+16*i) t' hh (st.nx+16*i+k)=some x:=by
    intro k x hx
    have ae:k<16:=by
     rcases Nat.lt_or_ge k 16 with hk|hk
     ·exact hk
     ·rw[je k hk]at hx;cases hx
    unfold jS
    rw[if_pos ⟨by omega,by omega⟩]
    simpa using hx
   have j2:∀ k x,hh k=some x->jS (st.nx+16*i) t' hh k=some x:=by
    intro k x hx
    unfold jS
    rw[if_neg (adO k x hx)];exact hx
   have hJ:∀ l k x,tb (t'::hh::rest) l k=some x->tb (jS (st.nx+16*i) t' hh::rest) (l - 1) (if l=0 then st.nx+16*i+k else k)=some x:=by
    intro l k x e
    cases l with
    |zero=>simpa [tb] using j1 k x (by simpa [tb] using e)
    |succ l=>
     cases l with
     |zero=>simpa [tb] using j2 k x (by simpa [tb] using e)
     |succ l=>simpa [tb] using e
   have hTT:As (hh::rest) (jS (st.nx+16*i) t' hh::rest):=by
    intro l k
    cases l with
    |zero=>
     simp only[tb]
     cases hx:hh k with
     |none=>trivial
     |some x=>rw[j2 k x hx];exact Bl.refl _
    |succ l=>exact Bl.refl _
   refine step (r:=.ok (.value v) w') (fm':=fm') (ts':=jS (st.nx+16*i) t' hh::rest) ?_
   subst yn
   refine⟨.inl rfl,?_,bp.vS hJ rfl,bo,lQ.trans hTT,?_⟩
   ·rw[hH]
    simp only[Heap.oN,aer,aeq]
    exact bX.vS j1 j2
   ·intro l k nj hn
    cases l with
    |zero=>
     have hk:¬ (st.nx+16*i<=k/\k<st.nx+16*i+16):=by omega
     simp only[tb,jS,if_neg hk]
     have:=bx 0 k hn
     simpa [tb] using this
    |succ l=>
     have:=bx (l+1) k hn
     simpa [tb] using this
end
theorem ahR:∀ (l acc:List Nat) (x:Nat),x∈vU acc l↔x∈acc\/x∈l
 |[],acc,x=>by simp[vU]
 |y::l,acc,x=>by
  simp only[vU,ahR l,BE]
  by_cases h:acc.contains y=true
  ·rw[if_pos h]
   have:y∈acc:=by simpa using h
   constructor
   ·rintro(h|h)
    ·exact .inl h
    ·exact .inr (.inr h)
   ·rintro(h|rfl|h)
    ·exact .inl h
    ·exact .inl this
    ·exact .inr h
  ·rw[if_neg h]
   simp only[Ba,CM,or_assoc]
theorem ad0 (b:List (List Nat)) (x:Nat):∀ (l:List Edge) (acc:List Nat),x∈pf b acc l↔x∈acc\/∃ e∈l,Region.binds .any e=true/\(x=e.on\/x∈(b[e.on]?).getD [])
 |[],acc=>by simp[pf]
 |e::l,acc=>by
  simp only[pf,ad0 b x l,BE]
  by_cases hb:Region.binds .any e=true
  ·rw[if_pos hb]
   simp only[ahR,CM]
   constructor
   ·rintro((h|h)|⟨f,hf,h⟩)
    ·rcases h with h|h
     ·exact .inl h
     ·exact .inr ⟨e,.inl rfl,hb,.inr h⟩
    ·exact .inr ⟨e,.inl rfl,hb,.inl h⟩
    ·exact .inr ⟨f,.inr hf,h⟩
   ·rintro(h|⟨f,rfl|hf,n7,h⟩)
    ·exact .inl (.inl (.inl h))
    ·rcases h with h|h
     ·exact .inl (.inr h)
     ·exact .inl (.inl (.inr h))
    ·exact .inr ⟨f,hf,n7,h⟩
  ·rw[if_neg hb]
   constructor
   ·rintro(h|⟨f,hf,h⟩)
    ·exact .inl h
    ·exact .inr ⟨f,.inr hf,h⟩
   ·rintro(h|⟨f,rfl|hf,n7,h⟩)
    ·exact .inl h
    ·exact absurd n7 hb
    ·exact .inr ⟨f,hf,n7,h⟩
theorem ack:∀ (l:List Oper) (b:List (List Nat)) (i:Nat),i<b.length->(pj b l)[i]?=b[i]?
 |[],b,i,h=>rfl
 |o::l,b,i,h=>by
  simp only[pj]
  rw[ack l _ i (by simp;omega),Ct h]
theorem acj:∀ (l:List Oper) (b:List (List Nat)) (i:Nat) (o:Oper),l[i]?=some o->
  ∃ b',(pj b l)[b.length+i]?=some (pf b' [] o.after.toList)/\b'.length=b.length+i/\∀ j,j<b'.length->b'[j]?=(pj b l)[j]?
 |[],b,i,o,h=>by simp at h
 |o'::l,b,0,o,h=>by
  simp only[BV,oE]at h;subst h
  refine⟨b,?_,by simp,?_⟩
  ·simp only[pj,Nat.add_zero]
   rw[ack l _ _ (by simp)]
   simp
  ·intro j hj
   simp only[pj]
   rw[ack l _ j (by simp;omega),Ct hj]
 |o'::l,b,i+1,o,h=>by
  simp only[Cb]at h
  obtain⟨b',h1,h2,h3⟩:=acj l (b++[pf b [] o'.after.toList]) i o h
  refine⟨b',?_,by simp at h2;omega,h3⟩
  simp only[pj]
  rw[<-h1]
  congr 1
  simp;omega
def St.drawn (st:St) (ops:List An) (ds:List De) (drop:List Nat):St:=
 St.ux { st with tm:=cA (ic ops ds (List.range ops.length) st.tm) drop,nx:=st.nx+16*ops.length } (Heap.bL (st.fr::st.low) (cG ds (List.range ops.length)))
section
variable [Md] {P:Program}{T:AM}{N0:Nat}{W0:World}{n:Nat}{fm:FM}{ts:List Ak}{st:St}{ops:List An}{befs:List (List Nat)}{ds:List De}{Φ:Exit->St->Prop}
theorem an1 {n:Nat}{p:Nat->Bool} (h:∀ j,j<n->p j=true):idxs n p=List.range n:=by
 unfold idxs
 rw[List.filter_eq_self]
 intro j hj
 exact h j (List.mem_range.1 hj)
theorem DR.all {p:Nat->Bool}{a:Act}{w:World} (h:DR N0 W0 n st ops ds p a w fm ts) (hp:∀ j,j<ops.length->p j=true) (drop:List Nat):SR N0 W0 n (st.drawn ops ds drop) a w fm ts:=by
 have e:=an1 hp
 have h1:=h.hr
 have h2:=h.tm
 rw[e]at h1 h2
 obtain⟨f',H',hp'⟩:=ud st.fr st.low (cG ds (List.range ops.length))
 unfold St.drawn
 rw[hp']at h1 ⊢
 refine⟨h1,?_,h.top,h.size,h.dX⟩
 intro t x hx
 exact h2 t x (zx drop _ t x hx)
theorem DR.none {a:Act}{w:World} (h:SR N0 W0 n st a w fm ts):DR N0 W0 n st ops ds (fun _=>false) a w fm ts:=by
 have e:idxs ops.length (fun _=>false)=[]:=by unfold idxs;simp
 refine⟨by rw[e];exact h.hr,?_,fun i _ _ k h1 _=>h.nx k (by omega),fun k hk=>h.nx k (by omega),h.size,h.dX⟩
 rw[e]
 intro t x hx
 exact h.tm t x hx
end
theorem acN {p q:Nat->Bool} (vM:∀ j,p j=true->q j=true) {i:Nat} (hq:q i=true) (hp:p i=false):∀ (l:List Nat),i∈l->l.countP p<l.countP q
 |[],h=>by cases h
 |a::l,h=>by
  have hle:l.countP p<=l.countP q:=List.countP_mono_left (fun x _ hx=>vM x hx)
  rw[List.countP_cons,List.countP_cons]
  by_cases ha:a=i
  ·subst ha
   rw[hq,hp]
   simp only[if_true,C3,if_false]
   omega
  ·have hl:i∈l:=by
    rcases BE.1 h with h|h
    ·exact absurd h.symm ha
    ·exact h
   have ih:=acN vM hq hp l hl
   cases vK:p a with
   |false=>simp only[C3,if_false];split<;>omega
   |true=>rw[vM a vK];simp only[if_true];omega
section
variable [Md] {P:Program}{T:AM}{n:Nat}{Φ:Exit->St->Prop}
theorem AK.draw (hT:AQ P T) (hm:P.follows .mixedOrders=true) {ops:List An}{befs:List (List Nat)}{drop:List Nat}{todo:List It}{st:St} (ds:List De) (jF:∀ j,j<ops.length->∃ d,ds[j]?=some d) (h1:DP ops)
  (gF:∀ i j,j∈bA befs i->j<i) (jf:∀ i j,i<j->j<ops.length->i∉bA befs j->mZ (dK ds i) (dK ds j))
  (yu:∀ i s d,ops[i]?=some s->ds[i]?=some d->C4 P T (st.nx+16*i) s (look (mw ops befs ds st.tm i)) (Heap.get (lE ops befs ds (st.fr::st.low) i)) d)
  (hn:AK P n Φ todo (st.drawn ops ds drop)):AK P n Φ (.sc (.aO ops befs drop)::todo) st:=by
 intro N0 W0 fm ts a w ct Q hS fS hQ
 obtain⟨c,bh,lO,hb,hf,ht,hK⟩:=fS.aeB (P:=P) rfl
 apply hK
 cases c<;>try (simp only[SC.bare,erase,reduceCtorEq]at hb;done)
 case scope b=>exact absurd rfl (lO b)
 case region rZ arr dr=>
  cases dr with
  |false=>simp[SC.bare,erase]at hb
  |true=>
   simp only[SC.bare,erase,SC.aO.injEq,and_true]at hb
   obtain⟨eM,jh⟩:=hb
   simp only[erase,SC.fits,List.all_eq_true]at hf
   have hlen:ops.length=arr.size:=by have:=congrArg List.length eM;simpa using this
   have jg:∀ i,(hi:i<arr.size)->∃ s,ops[i]?=some s/\s.dst=(arr[i]).dst/\s.op=(arr[i]).op/\s.type=(arr[i]).type/\s.guard=(arr[i]).guard.map (fun g=>(((arr[g.1]?).bind (·.dst)).getD n,g.2)):=by
    intro i hi
    have ae:i<ops.length:=by omega
    refine⟨ops[i],gG ae,?_⟩
    have e:=congrArg (fun l=>l[i]?) eM
    simp only[Bx,gG ae,A5,Array.getElem?_toList,Bv hi,oE]at e
    simp only[jX,mz,An.mk.injEq,and_true]at e
    obtain⟨e1,e2,e3,e4⟩:=e
    exact⟨e1,e2,e3,e4⟩
   have vB:∀ i,(hi:i<arr.size)->∀ x,x∈bA befs i↔∃ e∈(arr[i]).after.toList,Region.binds .any e=true/\(x=e.on\/(e.on<i/\x∈bA befs e.on)):=by
    intro i hi x
    obtain⟨b',g1,g2,g3⟩:=acj arr.toList [] i arr[i] (by simp[hi])
    simp only[Az,Cq]at g1 g2
    have e1:bA befs i=pf b' [] (arr[i]).after.toList:=by unfold bA;rw[jh,g1];rfl
    rw[e1,ad0]
    simp only[List.not_mem_nil,false_or]
    have e2:∀ e:Edge,x∈(b'[e.on]?).getD []↔(e.on<i/\x∈bA befs e.on):=by
     intro e
     by_cases hj:e.on<b'.length
     ·rw[g3 _ hj]
      unfold bA
      rw[jh]
      rw[g2]at hj
      simp[hj]
     ·rw[CL (by omega)]
      simp
      omega
    constructor
    ·rintro⟨e,h1,h2,h3⟩
     exact⟨e,h1,h2,h3.imp id (e2 e).1⟩
    ·rintro⟨e,h1,h2,h3⟩
     exact⟨e,h1,h2,h3.imp id (e2 e).2⟩
   refine wpIn_region_any hm ?_
   have vN:∀ j,(Array.replicate arr.size false).getD j false=false:=by
    intro j
    by_cases hj:j<arr.size
    ·simp[Array.getD,hj]
    ·simp[Array.getD,hj]
   have key:∀ (fuel:Nat) (aI:Array Bool) (a:Act) (w:World) (fm':FM) (ts':List Ak),aI.size=arr.size->((List.range arr.size).countP fun j=>!aI.getD j false)<=fuel->
     (∀ j,aI.getD j false=true->∀ k∈bA befs j,aI.getD k false=true)->DR N0 W0 n st ops ds (fun j=>aI.getD j false) a w fm' ts'->Be N0 fm ts fm' ts'->wpAnyIn FW 0 P .any arr (K P Q bh) fuel aI a w:=by
    intro fuel
    have fin:∀ (aI:Array Bool) (a:Act) (w:World) (fm':FM) (ts':List Ak),aI.size=arr.size->DR N0 W0 n st ops ds (fun j=>aI.getD j false) a w fm' ts'->Be N0 fm ts fm' ts'->Region.ready .any arr aI=[]->K P Q bh .normal a w:=by
     intro aI a w fm' ts' aw hD hL hr
     have iQ:∀ j,j<arr.size->aI.getD j false=true:=by
      intro j
      induction j using Nat.strongRecOn with
      |_ j ih=>
       intro hj
       by_cases hl:aI.getD j false=true
       ·exact hl
       ·have bB:j∈Region.ready .any arr aI:=by
         rw[mem_ready]
         have ae:j<aI.size:=by omega
         refine⟨by simp[Array.getD,ae]at hl ⊢;exact hl,arr[j],Bv hj,?_⟩
         intro e he hb
         have hm:e.on∈bA befs j:=(vB j hj e.on).2 ⟨e,by simpa using he,hb,.inl rfl⟩
         have:=gF j e.on hm
         exact ih e.on this (by omega)
        rw[hr]at bB;cases bB
     have cJ:=hD.all (fun j hj=>iQ j (by omega)) drop
     exact hn N0 W0 fm' ts' a w bh Q cJ (ht.later hL) (fun e s x w' f t hp hs hl=>hQ e s x w' f t hp hs (hL.trans hl))
    induction fuel with
    |zero=>
     intro aI a w fm' ts' aw hc ca hD hL
     have hr:Region.ready .any arr aI=[]:=by
      cases h:Region.ready .any arr aI with
      |nil=>rfl
      |cons j l=>
       have hj:j∈Region.ready .any arr aI:=by rw[h];exact List.mem_cons_self
       rw[mem_ready]at hj
       obtain⟨h0,o,ho,_⟩:=hj
       have ae:j<arr.size:=(CF.1 ho).1
       have:0<(List.range arr.size).countP fun j=>!aI.getD j false:=by
        rw[List.countP_pos_iff]
        have fQ:j<aI.size:=by omega
        refine⟨j,List.mem_range.2 ae,?_⟩
        simp[Array.getD,fQ]at h0 ⊢
        exact h0
       omega
     exact⟨hr,fin aI a w fm' ts' aw hD hL hr⟩
    |succ fuel ih=>
     intro aI a w fm' ts' aw hc ca hD hL
     refine⟨fin aI a w fm' ts' aw hD hL,fun i hi=>?_⟩
     rw[mem_ready]at hi
     obtain⟨h0,o,ho,iQ⟩:=hi
     have ae:i<arr.size:=(CF.1 ho).1
     have fQ:i<aI.size:=by omega
     have fc:aI.getD i false=false:=by
      simp[Array.getD,fQ]at h0 ⊢
      exact h0
     obtain⟨s,hs,tO,hso,fU,gI⟩:=jg i ae
     have oj:o=arr[i]:=by rw[Bv ae]at ho;exact(oi ho).symm
     subst oj
     obtain⟨d,hd⟩:=jF i (by omega)
     have hB:∀ j,(bA befs i).contains j=true->aI.getD j false=true:=by
      intro j hj
      have hmm:j∈bA befs i:=by simpa using hj
      obtain⟨e,he,hb,h⟩:=(vB i ae j).1 hmm
      have pX:=iQ e (by simpa using he) hb
      rcases h with rfl|⟨_,h⟩
      ·exact pX
      ·exact ca _ pX j h
     have tr:∀ j,aI.getD j false=true->(bA befs j).contains i=false:=by
      intro j hj
      cases kP:(bA befs j).contains i with
      |false=>rfl
      |true=>
       have:=ca j hj i (by simpa using kP)
       rw[fc]at this;cases this
     have fR:∀ j,(aI.setIfInBounds i true).getD j false=(aI.getD j false || j==i):=by
      intro j
      by_cases gH:j=i
      ·subst gH;simp[Array.getD,fQ]
      ·rw[getD_set_ne false (Ne.symm gH)];simp[gH]
     unfold wpOpIn
     rw[ho]
     simp only
     have kc:Ej (look (mw ops befs ds st.tm i)) (look (ic ops ds (idxs ops.length fun j=>aI.getD j false) st.tm)):=by
      exact acO h1 jF hB tr
     have lT:∀ g j v,((arr[j]?).bind (·.dst)).getD n=g->a.tmps[g]?=some v->yielded arr a.tmps j=match v with|.bool b=>some b|_=>none:=by
      intro g j v ec hv
      unfold yielded
      cases hb:(arr[j]?).bind (·.dst) with
      |none=>
       rw[hb]at ec
       simp only[Option.getD_none]at ec
       have:=(CF.1 hv).1
       rw[hD.size]at this
       subst ec
       exact absurd this (Nat.lt_irrefl _)
      |some dd=>
       rw[hb]at ec
       simp only[Option.getD_some]at ec
       subst ec
       simp only[Af,hv]
       cases v<;>rfl
     have jG:∀ g w,s.guard=some (g,w)->∃ j,(arr[i]).guard=some (j,w)/\((arr[j]?).bind (·.dst)).getD n=g:=by
      intro g w hh
      rw[hh]at gI
      cases yB:(arr[i]).guard with
      |none=>rw[yB]at gI;cases gI
      |some p=>
       rw[yB]at gI
       simp only[A5,oE,Prod.mk.injEq]at gI
       exact⟨p.1,by rw[gI.2],gI.1.symm⟩
     have tG:∀ v w' dS du,DR N0 W0 n st ops ds (fun j=>aI.getD j false || j==i) (a.put (arr[i]).dst v) w' dS du->Be N0 fm' ts' dS du->wpAnyIn FW 0 P .any arr (K P Q bh) fuel (aI.setIfInBounds i true) (a.put (arr[i]).dst v) w':=by
      intro v w' dS du tf dG
      refine ih (aI.setIfInBounds i true) _ w' dS du (by simpa using aw) ?_ ?_ ?_ (hL.trans dG)
      ·have:=acN (p:=fun j=>!(aI.setIfInBounds i true).getD j false) (q:=fun j=>!aI.getD j false) (i:=i) (by
        intro j hj
        rw[fR]at hj
        simp only[Bool.not_or,A7]at hj
        exact hj.1) (by simp only[fc,Bs]) (by simp only[fR,fc];simp) (List.range arr.size) (List.mem_range.2 ae)
       omega
      ·intro j hj k hk
       rw[fR]at hj ⊢
       simp only[Bool.or_eq_true,beq_iff_eq]at hj ⊢
       rcases hj with hj|rfl
       ·exact .inl (ca j hj k hk)
       ·exact .inl (hB k (by simpa using hk))
      ·have e:(fun j=>(aI.setIfInBounds i true).getD j false)=fun j=>aI.getD j false || j==i:=funext fR
       rw[e]
       exact tf
     have yi:∀ j,aI.getD j false=true->i<j->mZ (dK ds i) (dK ds j):=by
      intro j hj pP
      have tC:j<aI.size:=by
       by_cases tC:j<aI.size
       ·exact tC
       ·simp[Array.getD,tC]at hj
      refine jf i j pP (by omega) ?_
      have:=tr j hj
      simpa using this
     have yz:∀ d,cq ops i=some d->d<n:=by
      intro dd ng
      have adE:jX s∈List.map (mz n arr) arr.toList:=by rw[<-eM];exact List.mem_map_of_mem (AW hs)
      have:=hf _ adE
      simp only[cq,hs,Af]at ng
      simp only[jX,ng]at this
      simpa using this
     rcases yu i s d hs hd with ⟨eb,hE⟩|⟨adM,rfl⟩
     case inr=>
      obtain⟨g,want,tP,adw⟩:=adM
      obtain⟨j,hj,ec⟩:=jG g want tP
      have hnw:Region.wanted arr[i] (yielded arr a.tmps)=false:=by
       rcases adw with ⟨b,hb,ji⟩|hb
       ·obtain⟨v,hv,bp⟩:=hD.tm g _ (kc g _ hb)
        cases bp
        simp only[Region.wanted,hj,lT g j _ ec hv]
        simpa using ji
       ·obtain⟨v,hv,bp⟩:=hD.tm g _ (kc g _ hb)
        cases bp
        simp[Region.wanted,hj,lT g j _ ec hv]
      rw[if_neg (by rw[hnw];simp)]
      have ho:Out N0 W0 fm' ts' (Heap.bL (st.fr::st.low) (cG ds (idxs ops.length fun j=>aI.getD j false))) w (st.nx+16*i) (.ok .skip w) ⟨.ar [],[]⟩ fm' ts' w undef:=
       ⟨.inr ⟨rfl,rfl⟩,hD.hr,.ar [] #[] rfl (fun i x v h=>by simp at h),AN.refl _ _,As.refl _,fun _ _ _ h=>h⟩
      obtain⟨h2,h3⟩:=hD.step (by omega) fc hd ho h1 jF yi yz
      have yr:cq ops i=(arr[i]).dst:=by simp[cq,hs,tO]
      rw[yr]at h2
      exact⟨fun _ _=>trivial,tG _ w fm' ts' h2 h3⟩
     have adN:Region.wanted arr[i] (yielded arr a.tmps)=true:=by
      rcases eb with eb|⟨g,want,b,tP,hb,ji⟩
      ·rw[eb]at gI
       have:(arr[i]).guard=none:=by
        cases hh:(arr[i]).guard with
        |none=>rfl
        |some g=>rw[hh]at gI;cases gI
       simp[Region.wanted,this]
      ·obtain⟨j,hj,ec⟩:=jG g want tP
       obtain⟨v,hv,bp⟩:=hD.tm g _ (kc g _ hb)
       cases bp
       simp only[Region.wanted,hj,lT g j _ ec hv]
       simpa using ji
     rw[if_pos adN]
     exact(DR.oper (befs:=befs) hT hD (by omega) fc hd hs hE h1 jF hB tr yi yz hso fU tO fun v w' dS du tf dG=>tG v w' dS du tf dG)
   refine key arr.size (Array.replicate arr.size false) a _ fm ts (by simp) (Ec List.countP_le_length (by simp)) (by intro j hj;rw[vN]at hj;cases hj) ?_ (Be.refl _ _)
   have e:(fun j=>(Array.replicate arr.size false).getD j false)=fun _=>false:=funext vN
   rw[e]
   exact DR.none ⟨hS.hr.drew,hS.tm,hS.nx,hS.size,hS.dX⟩
end
def zG:List An->Bool
 |[]=>true
 |o::l=>(match o.dst with
  |none=>true
  |some t=>l.all fun q=>decide (q.dst≠some t))&&zG l
theorem abB:∀ (ops:List An),zG ops=true->DP ops
 |[],_=>by intro i j t h;simp[cq]at h
 |o::l,h=>by
  simp only[zG,A7]at h
  have ih:=abB l h.2
  have hz:∀ j t,o.dst=some t->cq l j≠some t:=by
   intro j t ho hj
   have h1:=h.1
   rw[ho]at h1
   simp only[List.all_eq_true,decide_eq_true_eq]at h1
   unfold cq at hj
   cases hlj:l[j]? with
   |none=>rw[hlj]at hj;cases hj
   |some q=>rw[hlj]at hj;exact h1 q (AW hlj) hj
  have hs:∀ j,cq (o::l) (j+1)=cq l j:=fun j=>by simp[cq]
  have h0:cq (o::l) 0=o.dst:=by simp[cq]
  intro i j t hi hj
  cases i with
  |zero=>
   cases j with
   |zero=>rfl
   |succ j=>rw[h0]at hi;rw[hs]at hj;exact absurd hj (hz j t hi)
  |succ i=>
   cases j with
   |zero=>rw[h0]at hj;rw[hs]at hi;exact absurd hi (hz i t hj)
   |succ j=>rw[hs]at hi hj;rw[ih i j t hi hj]
def xk:Nat->List (List Nat)->Bool
 |_,[]=>true
 |i,l::r=>(l.all fun j=>decide (j<i))&&xk (i+1) r
theorem aaM:∀ (befs:List (List Nat)) (i0:Nat),xk i0 befs=true->∀ i j,j∈bA befs i->j<i0+i
 |[],i0,_,i,j,h=>by simp[bA]at h
 |l::r,i0,h,i,j,hj=>by
  simp only[xk,A7,List.all_eq_true,decide_eq_true_eq]at h
  cases i with
  |zero=>simp[bA]at hj;exact h.1 j hj
  |succ i=>
   have:=aaM r (i0+1) h.2 i j (by simpa [bA] using hj)
   omega
def tW (s t:Sets):Bool:=s.all fun p=>t.all fun q=>!(p.1==q.1&&p.2.1==q.2.1)
theorem aox {s t:Sets} (h:tW s t=true):mZ s t:=by
 intro p hp q hq hh
 simp only[tW,List.all_eq_true]at h
 have:=h p hp q hq
 rw[hh.1,hh.2]at this
 simp at this
def sG (befs:List (List Nat)) (ds:List De) (n:Nat):Bool:=
 (List.range n).all fun j=>(List.range j).all fun i=>(bA befs j).contains i || tW (dK ds i) (dK ds j)
theorem afg {befs:List (List Nat)}{ds:List De}{n:Nat} (h:sG befs ds n=true):∀ i j,i<j->j<n->i∉bA befs j->mZ (dK ds i) (dK ds j):=by
 intro i j pP hj hn
 simp only[sG,List.all_eq_true,List.mem_range,Bool.or_eq_true]at h
 rcases h j hj i pP with h|h
 ·exact absurd (by simpa using h) hn
 ·exact aox h
section
variable [Md] {P:Program}{T:AM}{n:Nat}{Φ:Exit->St->Prop}
theorem HU (hT:AQ P T) (hm:P.follows .mixedOrders=true) {ops:List An}{befs:List (List Nat)}{drop:List Nat}{todo:List It}{st:St} (ds:List De) (hlen:ds.length=ops.length) (h1:zG ops=true)
  (gF:xk 0 befs=true) (jf:sG befs ds ops.length=true)
  (yu:∀ i s d,ops[i]?=some s->ds[i]?=some d->C4 P T (st.nx+16*i) s (look (mw ops befs ds st.tm i)) (Heap.get (lE ops befs ds (st.fr::st.low) i)) d)
  (hn:AK P n Φ todo (st.drawn ops ds drop)):AJ P n Φ (.draw ops befs drop todo st):=by
 refine AK.draw hT hm ds (fun j hj=>⟨ds[j]'(by omega),gG (by omega)⟩) (abB ops h1) (fun i j hj=>by have:=aaM befs 0 gF i j hj;omega) (afg jf) yu hn
end
section
variable [Md] {P:Program}{T:AM}{N0:Nat}{W0:World}{n:Nat}{fm:FM}{ts:List Ak}{Φ:Exit->St->Prop}
theorem Is {Q:Exit->Act->World->Prop} (t:List BF):K P Q (.back (fun a w=>K P Q t .normal a w)::t)=K P Q t:=by
 funext e a w;cases e<;>rfl
theorem HB {Q:Exit->Act->World->Prop} (t:List BF):∀ c1:List BF,K P Q (c1++.back (fun a w=>K P Q t .normal a w)::t)=K P Q (c1++t)
 |[]=>Is t
 |c::c1=>by
  have ih:=HB (Q:=Q) t c1
  funext e a w
  cases c<;>cases e<;>simp only[Bq,K,ih]
theorem Bo.stop {todo:List It}:∀ {ct:List BF}{pre:List It}{l:List It},Bo N0 W0 n fm ts l ct->l=pre++todo->∃ c1 c2,ct=c1++c2/\Bo N0 W0 n fm ts todo c2/\
  ∀ (B:St->Prop) (R:Act->World->Prop),(∀ ao a' w' fm' ts',B ao->SR N0 W0 n ao a' w' fm' ts'->Be N0 fm ts fm' ts'->R a' w')->Bo N0 W0 n fm ts (pre++.back B::todo) (c1++.back R::c2):=by
 intro ct pre l h
 induction h generalizing pre with
 |nil=>
  intro e
  have e2:pre=[]/\todo=[]:=by simpa using e.symm
  obtain⟨rfl,rfl⟩:=e2
  exact⟨[],[],rfl,.nil,fun B R hR=>.back hR .nil⟩
 |@sc s c t ct h hf ht ih=>
  intro e
  cases pre with
  |nil=>
   simp only[BM]at e;subst e
   exact⟨[],_,rfl,.sc h hf ht,fun B R hR=>.back hR (.sc h hf ht)⟩
  |cons p pre=>
   simp only[Bq,List.cons.injEq]at e
   obtain⟨rfl,e⟩:=e
   obtain⟨c1,c2,rfl,h2,h3⟩:=ih e
   exact⟨.code c::c1,c2,rfl,h2,fun B R hR=>.sc h hf (h3 B R hR)⟩
 |@al id t ct ht ih=>
  intro e
  cases pre with
  |nil=>
   simp only[BM]at e;subst e
   exact⟨[],_,rfl,.al ht,fun B R hR=>.back hR (.al ht)⟩
  |cons p pre=>
   simp only[Bq,List.cons.injEq]at e
   obtain⟨rfl,e⟩:=e
   obtain⟨c1,c2,rfl,h2,h3⟩:=ih e
   exact⟨.al id::c1,c2,rfl,h2,fun B R hR=>.al (h3 B R hR)⟩
 |@gP t ct ht ih=>
  intro e
  obtain⟨c1,c2,rfl,h2,h3⟩:=ih e
  exact⟨.gP::c1,c2,rfl,h2,fun B R hR=>.gP (h3 B R hR)⟩
 |@ops l arr is t ct h hi hf ht ih=>
  intro e
  cases pre with
  |nil=>
   simp only[BM]at e;subst e
   exact⟨[],_,rfl,.ops h hi hf ht,fun B R hR=>.back hR (.ops h hi hf ht)⟩
  |cons p pre=>
   simp only[Bq,List.cons.injEq]at e
   obtain⟨rfl,e⟩:=e
   obtain⟨c1,c2,rfl,h2,h3⟩:=ih e
   exact⟨.ops arr is::c1,c2,rfl,h2,fun B R hR=>.ops h hi hf (h3 B R hR)⟩
 |@back B0 R0 t ct h ht ih=>
  intro e
  cases pre with
  |nil=>
   simp only[BM]at e;subst e
   exact⟨[],_,rfl,.back h ht,fun B R hR=>.back hR (.back h ht)⟩
  |cons p pre=>
   simp only[Bq,List.cons.injEq]at e
   obtain⟨rfl,e⟩:=e
   obtain⟨c1,c2,rfl,h2,h3⟩:=ih e
   exact⟨.back R0::c1,c2,rfl,h2,fun B R hR=>.back h (h3 B R hR)⟩
theorem AK.cut (B:St->Prop) (pre:List It) {todo:List It}{st:St} (h1:AK P n Φ (pre++.back B::todo) st) (h2:∀ st,B st->AK P n Φ todo st):AK P n Φ (pre++todo) st:=by
 intro N0 W0 fm ts a w ct Q hS fS hQ
 obtain⟨c1,c2,rfl,h3,h4⟩:=fS.stop rfl
 have:=h1 N0 W0 fm ts a w (c1++.back (fun a w=>K P Q c2 .normal a w)::c2) Q hS (h4 B _ ?_) hQ
 ·rw[HB]at this;exact this
 ·intro ao a' w' fm' ts' hB cJ hL
  exact h2 ao hB N0 W0 fm' ts' a' w' c2 Q cJ (h3.later hL) (fun e s x w' f t hp hs hl=>hQ e s x w' f t hp hs (hL.trans hl))
inductive AT (S E R:Type) where
 |next (s:S)
 |brk (e:E)
 |ret (r:R)
def aj {S E R:Type} (body:S->Option (AT S E R)):Nat->S->Option (AT S E R)
 |0,_=>none
 |k+1,s=>match body s with
  |none=>none
  |some (.next s')=>aj body k s'
  |some (.brk s')=>some (.brk s')
  |some (.ret r)=>some (.ret r)
theorem AK.aoF {S E R:Type}{body:S->Option (AT S E R)}{k:Nat}{s0:S}{r:AT S E R} (hk:aj body k s0=some r) (hd:S->St) (ex:E->St) {b:SC}{id:Nat}{todo:List It}{st:St} (hw:Ah n st (hd s0))
  (hb:∀ s x (Bk Br:St->Prop),body s=some x->(∀ s' ao,x=.next s'->Ah n ao (hd s')->Bk ao)->(∀ s' ao,x=.brk s'->Ah n ao (ex s')->Br ao)->(∀ v,x=.ret v->r=.ret v)->
   AK P n Φ (.sc b::.back Bk::.al id::.back Br::todo) (hd s))
  (hx:∀ s',r=.brk s'->AK P n Φ todo (ex s')):AK P n Φ (.sc (.loop b)::.al id::todo) st:=by
 refine AK.cut (fun ao=>∃ s',r=.brk s'/\Ah n ao (ex s')) [.sc (.loop b),.al id] ?_ ?_
 ·refine AK.loop (fun m st=>∃ s,st=hd s/\aj body m s=some r) k hw ⟨s0,rfl,hk⟩ ?_
  rintro m st ⟨s,rfl,hm⟩
  cases m with
  |zero=>cases hm
  |succ m=>
   simp only[aj]at hm
   cases hs:body s with
   |none=>rw[hs]at hm;cases hm
   |some x=>
    rw[hs]at hm
    refine hb s x _ _ hs ?_ ?_ ?_
    ·rintro s' ao rfl tR
     exact⟨hd s',m,Nat.lt_succ_self m,tR,s',rfl,hm⟩
    ·rintro s' ao rfl tR
     exact⟨s',(oi hm).symm,tR⟩
    ·rintro v rfl
     exact(oi hm).symm
 ·rintro ao ⟨s',hr,tR⟩
  exact AK.su tR (hx s' hr)
end
section
variable [Md]
inductive NL:AV->AV->Prop
 |refl (x:AV):NL x x
 |nil (e:Nat):NL .nil (.sl e [])
 |agg (cs ys:List AV) (h1:cs.length=ys.length) (h2:∀ (i:Nat) x y,cs[i]?=some x->ys[i]?=some y->NL x y):NL (.agg cs) (.agg ys)
 |ar (cs ys:List AV) (h1:cs.length=ys.length) (h2:∀ (i:Nat) x y,cs[i]?=some x->ys[i]?=some y->NL x y):NL (.ar cs) (.ar ys)
 |sl (e:Nat) (es fs:List (List AV)) (h1:es.length=fs.length) (h2:∀ (i:Nat) c d,es[i]?=some c->fs[i]?=some d->c.length=d.length)
   (h3:∀ (i:Nat) c d (o:Nat) x y,es[i]?=some c->fs[i]?=some d->c[o]?=some x->d[o]?=some y->NL x y):NL (.sl e es) (.sl e fs)
def A1 (cs ys:List AV):Prop:=cs.length=ys.length/\∀ (i:Nat) x y,cs[i]?=some x->ys[i]?=some y->NL x y
def Bu (es fs:List (List AV)):Prop:=es.length=fs.length/\∀ (i:Nat) c d,es[i]?=some c->fs[i]?=some d->A1 c d
theorem A1.nil:A1 [] []:=⟨rfl,fun i x y h=>by simp at h⟩
theorem A1.cons {x y:AV}{l m:List AV} (h:NL x y) (hs:A1 l m):A1 (x::l) (y::m):=by
 refine⟨by simp[hs.1],?_⟩
 intro i a b ha hb
 cases i with
 |zero=>simp at ha hb;subst ha hb;exact h
 |succ i=>simp at ha hb;exact hs.2 i a b ha hb
theorem A1.refl (l:List AV):A1 l l:=⟨rfl,fun i x y a b=>by rw[a]at b;cases b;exact .refl _⟩
theorem Bu.nil:Bu [] []:=⟨rfl,fun i x y h=>by simp at h⟩
theorem Bu.cons {x y:List AV}{l m:List (List AV)} (h:A1 x y) (hs:Bu l m):Bu (x::l) (y::m):=by
 refine⟨by simp[hs.1],?_⟩
 intro i a b ha hb
 cases i with
 |zero=>simp at ha hb;subst ha hb;exact h
 |succ i=>simp at ha hb;exact hs.2 i a b ha hb
theorem Bu.refl (l:List (List AV)):Bu l l:=⟨rfl,fun i x y a b=>by rw[a]at b;cases b;exact .refl _⟩
theorem Bu.append {a b c d:List (List AV)} (h:Bu a b) (k:Bu c d):Bu (a++c) (b++d):=by
 refine⟨by simp[h.1,k.1],?_⟩
 intro i x y hx hy
 by_cases hi:i<a.length
 ·rw[Ct hi]at hx
  rw[Ct (by rw[<-h.1];exact hi)]at hy
  exact h.2 i x y hx hy
 ·rw[CE (by omega)]at hx
  rw[CE (by rw[<-h.1];omega)]at hy
  rw[<-h.1]at hy
  exact k.2 _ x y hx hy
theorem NL.mm {cs ys:List AV} (h:A1 cs ys):NL (.agg cs) (.agg ys):=.agg _ _ h.1 h.2
theorem NL.um {cs ys:List AV} (h:A1 cs ys):NL (.ar cs) (.ar ys):=.ar _ _ h.1 h.2
theorem NL.wz {e:Nat}{es fs:List (List AV)} (h:Bu es fs):NL (.sl e es) (.sl e fs):=.sl _ _ _ h.1 (fun i c d a b=>(h.2 i c d a b).1) (fun i c d o x y a b p q=>(h.2 i c d a b).2 o x y p q)
theorem NL.flat {x y:AV} (h:NL x y):y.flat=x.flat:=by
 cases h<;>rfl
theorem NL.ok {x y:AV} (h:NL x y):∀ {fm:FM}{ts:List Ak}{v:Value},VR fm ts x v->VR fm ts y v:=by
 induction h with
 |refl x=>intro fm ts v hv;exact hv
 |nil e=>intro fm ts v hv;cases hv;exact .cd _ _ _
 |agg cs ys h1 h2 ih=>
  intro fm ts v hv
  cases hv with
  |agg _ vs k1 k2 k3=>
   have hy:∀ (i:Nat) y,ys[i]?=some y->∃ x,cs[i]?=some x:=fun i y hy=>⟨_,gG (by rw[h1];exact(gS.1 hy).1)⟩
   refine .agg _ vs (by rw[<-h1];exact k1) ?_ ?_
   ·intro y hm
    obtain⟨i,hi⟩:=BD.1 hm
    obtain⟨x,hx⟩:=hy i y hi
    rw[(h2 i x y hx hi).flat];exact k2 x (AW hx)
   ·intro i y u hi hu
    obtain⟨x,hx⟩:=hy i y hi
    exact ih i x y hx hi (k3 i x u hx hu)
 |ar cs ys h1 h2 ih=>
  intro fm ts v hv
  cases hv with
  |ar _ vs k1 k3=>
   refine .ar _ vs (by rw[<-h1];exact k1) ?_
   intro i y u hi hu
   have hx:∃ x,cs[i]?=some x:=⟨_,gG (by rw[h1];exact(gS.1 hi).1)⟩
   obtain⟨x,hx⟩:=hx
   exact ih i x y hx hi (k3 i x u hx hu)
 |sl e es fs h1 h2 h3 ih=>
  intro fm ts v hv
  have hc:∀ (i:Nat) d,fs[i]?=some d->∃ c,es[i]?=some c/\c.length=d.length:=fun i d hd=>by
   have ae:i<es.length:=by rw[h1];exact(gS.1 hd).1
   exact⟨_,gG ae,h2 i _ d (gG ae) hd⟩
  have hx:∀ (i:Nat) d (o:Nat) y,fs[i]?=some d->d[o]?=some y->∃ c x,es[i]?=some c/\c[o]?=some x:=fun i d o y hd hy=>by
   obtain⟨c,mC,mD⟩:=hc i d hd
   exact⟨c,_,mC,gG (by rw[mD];exact(gS.1 hy).1)⟩
  cases hv with
  |cd _ a cap=>
   have:fs=[]:=List.eq_nil_of_length_eq_zero (by simpa using h1.symm)
   subst this
   exact .cd _ _ _
  |sl _ cb off _ cap u bU k1 k2 k3 k4=>
   have:=VR.sl (fm:=fm) (ts:=ts) fs cb off e cap u (by rw[<-h1];exact bU)
    (fun d hd=>by
     obtain⟨i,hi⟩:=BD.1 hd
     obtain⟨c,mC,mD⟩:=hc i d hi
     rw[<-mD];exact k1 c (AW mC))
    (fun i d o y hd hy=>by obtain⟨c,x,a,b⟩:=hx i d o y hd hy;exact k2 i c o x a b)
    (fun i d o y hd hy=>by obtain⟨c,x,a,b⟩:=hx i d o y hd hy;rw[(h3 i c d o x y a hd b hy).flat];exact k3 i c o x a b)
    (fun i d o y hd hy=>by obtain⟨c,x,a,b⟩:=hx i d o y hd hy;exact ih i c d o x y a hd b hy (k4 i c o x a b))
   rw[<-h1]at this
   exact this
theorem A1.ok {cs ys:List AV} (h:A1 cs ys) {fm:FM}{ts:List Ak}{vs:List Value} (hv:Au fm ts cs vs):Au fm ts ys vs:=by
 refine⟨h.1.symm.trans hv.1,?_⟩
 intro i y v hy gJ
 have hx:∃ x,cs[i]?=some x:=⟨_,gG (by rw[h.1];exact(gS.1 hy).1)⟩
 obtain⟨x,hx⟩:=hx
 exact(h.2 i x y hx hy).ok (hv.2 i x v hx gJ)
inductive Ce:AH->AH->Prop
 |box (cs ys:List AV) (h:A1 cs ys):Ce (.box cs) (.box ys)
 |arr (et esz:Nat) (es fs:List (List AV)) (h:Bu es fs):Ce (.arr et esz es) (.arr et esz fs)
theorem Ce.refl:∀ b:AH,Ce b b
 |.box _=>.box _ _ (.refl _)
 |.arr _ _ _=>.arr _ _ _ _ (.refl _)
inductive Ca:List (Nat×AV)->List (Nat×AV)->Prop
 |nil:Ca [] []
 |cons (t:Nat) (x y:AV) (l m:List (Nat×AV)) (h:NL x y) (hs:Ca l m):Ca ((t,x)::l) ((t,y)::m)
inductive BX:Av->Av->Prop
 |nil:BX [] []
 |cons (k:Nat) (x y:AH) (l m:Av) (h:Ce x y) (hs:BX l m):BX ((k,x)::l) ((k,y)::m)
theorem Ca.refl:∀ l:List (Nat×AV),Ca l l
 |[]=>.nil
 |(t,x)::l=>.cons t x x l l (.refl _) (Ca.refl l)
theorem BX.refl:∀ l:Av,BX l l
 |[]=>.nil
 |(t,x)::l=>.cons t x x l l (.refl _) (BX.refl l)
theorem Ca.look {l m:List (Nat×AV)} (h:Ca l m):∀ t y,look m t=some y->∃ x,look l t=some x/\NL x y:=by
 induction h with
 |nil=>intro t y h;simp[Abs.look]at h
 |cons t0 x y l m h hs ih=>
  intro t z hz
  simp only[Abs.look]at hz ⊢
  split
  ·rename_i e;rw[if_pos e]at hz;cases hz;exact⟨_,rfl,h⟩
  ·rename_i e;rw[if_neg e]at hz;exact ih t z hz
theorem BX.look {l m:Av} (h:BX l m):∀ k b,look m k=some b->∃ b0,look l k=some b0/\Ce b0 b:=by
 induction h with
 |nil=>intro t y h;simp[Abs.look]at h
 |cons t0 x y l m h hs ih=>
  intro t z hz
  simp only[Abs.look]at hz ⊢
  split
  ·rename_i e;rw[if_pos e]at hz;cases hz;exact⟨_,rfl,h⟩
  ·rename_i e;rw[if_neg e]at hz;exact ih t z hz
theorem Ce.ok {fm:FM}{ts:List Ak}{w:World}{N0:Nat}{t:Option TB}{b b':AH} (h:BR fm ts w N0 t b) (hn:Ce b b'):BR fm ts w N0 t b':=by
 cases hn with
 |box cs ys hn=>
  cases h with
  |box c _ hN h=>
   obtain⟨cells,et,c1,c2,c3⟩:=h
   refine .box c _ hN ⟨cells,et,c1,c2.trans hn.1,?_⟩
   intro o y v hy hv
   obtain⟨x,hx⟩:∃ x,cs[o]?=some x:=⟨_,gG (by rw[hn.1];exact(gS.1 hy).1)⟩
   have tV:=hn.2 o x y hx hy
   exact⟨by rw[tV.flat];exact(c3 o x v hx hv).1,tV.ok (c3 o x v hx hv).2⟩
 |arr et esz es fs hn=>
  have hc:∀ (i:Nat) d,fs[i]?=some d->∃ c,es[i]?=some c/\A1 c d:=fun i d hd=>by
   have ae:i<es.length:=by rw[hn.1];exact(gS.1 hd).1
   exact⟨_,gG ae,hn.2 i _ d (gG ae) hd⟩
  cases h with
  |nil=>
   have:fs=[]:=List.eq_nil_of_length_eq_zero (by simpa using hn.1.symm)
   subst this
   exact .nil _ _
  |arr _ _ _ c cap hN h=>
   obtain⟨cells,c1,c2,c3,c4,c5,c6,c7⟩:=h
   rw[hn.1]
   refine .arr et esz fs c cap hN ⟨cells,c1,c2,by rw[<-hn.1];exact c3,c4,?_,c6,?_⟩
   ·intro d hd
    obtain⟨i,hi⟩:=BD.1 hd
    obtain⟨c,mC,mD⟩:=hc i d hi
    rw[<-mD.1];exact c5 c (AW mC)
   ·intro i d o y v hd hy hv
    obtain⟨c',mC,mD⟩:=hc i d hd
    obtain⟨x,hx⟩:∃ x,c'[o]?=some x:=⟨_,gG (by rw[mD.1];exact(gS.1 hy).1)⟩
    have tV:=mD.2 o x y hx hy
    have:=c7 i c' o x v mC hx hv
    exact⟨by rw[tV.flat];exact this.1,tV.ok this.2⟩
theorem Ah.nl {n:Nat}{tm tm':List (Nat×AV)}{fr aU:Av}{low:Heap}{nx nt:Nat} (h1:Ca tm tm') (h2:BX fr aU):Ah n ⟨tm,fr,low,nx,nt⟩ ⟨tm',aU,low,nx,nt⟩:=by
 intro N0 W0 a w fm ts h
 have src:∀ l k b,Heap.get (aU::low) l k=some b->∃ b0,Heap.get (fr::low) l k=some b0/\Ce b0 b:=by
  intro l k b hg
  cases l with
  |zero=>exact h2.look k b hg
  |succ l=>exact⟨b,hg,.refl b⟩
 refine⟨fm,ts,⟨⟨by simpa using h.hr.len,?_,?_,h.hr.bO,?_,h.hr.dg,h.hr.size,h.hr.cT,h.hr.dZ⟩,?_,h.nx,h.size,h.dX⟩,Be.refl _ _⟩
 ·intro l k b hg
  obtain⟨b0,iR,hn⟩:=src l k b hg
  exact hn.ok (h.hr.al l k b0 iR)
 ·intro l k l' k' b b' c hg bm
  obtain⟨b0,iR,_⟩:=src l k b hg
  obtain⟨b1,mE,_⟩:=src l' k' b' bm
  exact h.hr.inj l k l' k' b0 b1 c iR mE
 ·intro l k b c o hg
  obtain⟨b0,iR,_⟩:=src l k b hg
  exact h.hr.dh l k b0 c o iR
 ·intro t y hy
  obtain⟨x,hx,hn⟩:=h1.look t y hy
  obtain⟨v,h3,h4⟩:=h.tm t x hx
  exact⟨v,h3,hn.ok h4⟩
end
def dv:Operand->List Nat
 |.tmp t=>[t]
 |_=>[]
def uo:List Operand->List Nat
 |[]=>[]
 |x::l=>dv x++uo l
def xb:List (Nat×Operand)->List Nat
 |[]=>[]
 |(_,x)::l=>dv x++xb l
def sq:Option Operand->List Nat
 |some x=>dv x
 |none=>[]
def cm:Op->List Nat
 |.move x=>dv x
 |.assign x=>dv x
 |.pick c a b=>dv c++(dv a++dv b)
 |.alloc _=>[]
 |.box _ x=>dv x
 |.build _ ps=>xb ps.toList
 |.buildSlice _ _ ps=>xb ps.toList
 |.load _ a=>dv a
 |.store _ a x=>dv a++dv x
 |.nilCheck x=>dv x
 |.binOp _ _ x y _=>dv x++dv y
 |.unOp _ _ x=>dv x
 |.convert _ _ x=>dv x
 |.makeFunc _ a b=>uo a.toList++uo b.toList
 |.makeSlice _ l c=>dv l++dv c
 |.slice _ x lo hi mx=>dv x++(sq lo++(sq hi++sq mx))
 |.fieldAddr _ x _=>dv x
 |.field _ x _=>dv x
 |.indexAddr _ x i=>dv x++dv i
 |.index _ x i=>dv x++dv i
 |.extract x _=>dv x
 |.sliceToArrayPointer _ x=>dv x
 |.makeInterface _ x=>dv x
 |.lookup _ m x _=>dv m++dv x
 |.call c=>(match c.callee with
  |.value f=>dv f
  |_=>[])++uo c.args.toList
 |_=>[]
def aag (o:An):List Nat:=(match o.guard with
 |some (g,_)=>[g]
 |none=>[])++cm o.op
def vG:Op->Bool
 |.move _|.assign _|.pick ..|.alloc _|.box ..|.build ..|.nilCheck _|.binOp ..|.unOp ..|.makeFunc ..|.makeSlice ..|.fieldAddr ..|.field ..|.indexAddr ..|.index ..|.extract ..|.sliceToArrayPointer ..|.makeInterface ..=>false
 |.call c=>match c.callee with
  |.builtin .len|.builtin .max|.builtin .min=>false
  |_=>true
 |_=>true
section
variable {tm tm':Tm}
theorem zI {x:Operand} (h:∀ t∈dv x,tm t=tm' t):bd tm x=bd tm' x:=by
 cases x<;>simp only[bd]
 exact h _ (by simp[dv])
theorem zJ:∀ (l:List Operand),(∀ t∈uo l,tm t=tm' t)->jP tm l=jP tm' l
 |[],_=>rfl
 |x::l,h=>by
  simp only[jP]
  rw[zI (fun t ht=>h t (by simp only[uo,Ba];exact .inl ht)),zJ l (fun t ht=>h t (by simp only[uo,Ba];exact .inr ht))]
theorem aem:∀ (l:List (Nat×Operand)),(∀ t∈xb l,tm t=tm' t)->partsOf tm l=partsOf tm' l
 |[],_=>rfl
 |(i,x)::l,h=>by
  simp only[partsOf]
  rw[zI (fun t ht=>h t (by simp only[xb,Ba];exact .inl ht)),aem l (fun t ht=>h t (by simp only[xb,Ba];exact .inr ht))]
theorem ah3 {T:AM}{kb:Nat}{G G':AR}{o:Op}{ty:TypeId} (h:∀ t∈cm o,tm t=tm' t) (hG:vG o=true->G=G'):bE T kb o ty tm G=bE T kb o ty tm' G':=by
 have e:∀ x:Operand,(∀ t∈dv x,t∈cm o)->bd tm x=bd tm' x:=fun x hx=>zI fun t ht=>h t (hx t ht)
 cases o with
 |move x=>simp only[bE,e x (fun t ht=>by simpa [cm] using ht)]
 |assign x=>simp only[bE,e x (fun t ht=>by simpa [cm] using ht)]
 |pick c a b=>simp only[bE,e c (fun t ht=>by simp[cm,ht]),e a (fun t ht=>by simp[cm,ht]),e b (fun t ht=>by simp[cm,ht])]
 |alloc t=>simp only[bE]
 |box t x=>simp only[bE,e x (fun t ht=>by simpa [cm] using ht)]
 |build t ps=>simp only[bE,aem ps.toList (fun t ht=>h t (by simpa [cm] using ht))]
 |buildSlice t n ps=>obtain rfl:=hG rfl;simp only[bE,aem ps.toList (fun t ht=>h t (by simpa [cm] using ht))]
 |load t a=>obtain rfl:=hG rfl;simp only[bE,e a (fun t ht=>by simpa [cm] using ht)]
 |store t a x=>obtain rfl:=hG rfl;simp only[bE,e a (fun t ht=>by simp[cm,ht]),e x (fun t ht=>by simp[cm,ht])]
 |nilCheck x=>simp only[bE,e x (fun t ht=>by simpa [cm] using ht)]
 |binOp op t x y t'=>simp only[bE,e x (fun t ht=>by simp[cm,ht]),e y (fun t ht=>by simp[cm,ht])]
 |unOp op t x=>simp only[bE,e x (fun t ht=>by simpa [cm] using ht)]
 |convert s d x=>obtain rfl:=hG rfl;simp only[bE,e x (fun t ht=>by simpa [cm] using ht)]
 |makeFunc f a b=>simp only[bE,zJ a.toList (fun t ht=>h t (by simp only[cm,Ba];exact .inl ht)),zJ b.toList (fun t ht=>h t (by simp only[cm,Ba];exact .inr ht))]
 |makeSlice t l c=>simp only[bE,e l (fun t ht=>by simp[cm,ht]),e c (fun t ht=>by simp[cm,ht])]
 |slice t x lo hi mx=>
  obtain rfl:=hG rfl
  have ex:=e x (fun t ht=>by simp[cm,ht])
  cases lo with
  |none=>
   cases hi with
   |none=>cases mx<;>simp only[bE,ex]
   |some hi=>
    have eh:=e hi (fun t ht=>by simp[cm,sq,ht])
    cases mx with
    |none=>simp only[bE,ex,eh]
    |some mx=>simp only[bE,ex,eh,e mx (fun t ht=>by simp[cm,sq,ht])]
  |some lo=>
   have el:=e lo (fun t ht=>by simp[cm,sq,ht])
   cases hi with
   |none=>cases mx<;>simp only[bE,ex,el]
   |some hi=>
    have eh:=e hi (fun t ht=>by simp[cm,sq,ht])
    cases mx with
    |none=>simp only[bE,ex,eh,el]
    |some mx=>simp only[bE,ex,eh,el,e mx (fun t ht=>by simp[cm,sq,ht])]
 |fieldAddr t x f=>simp only[bE,e x (fun t ht=>by simpa [cm] using ht)]
 |field t x f=>simp only[bE,e x (fun t ht=>by simpa [cm] using ht)]
 |indexAddr t x i=>simp only[bE,e x (fun t ht=>by simp[cm,ht]),e i (fun t ht=>by simp[cm,ht])]
 |index t x i=>simp only[bE,e x (fun t ht=>by simp[cm,ht]),e i (fun t ht=>by simp[cm,ht])]
 |extract x i=>simp only[bE,e x (fun t ht=>by simpa [cm] using ht)]
 |sliceToArrayPointer t x=>simp only[bE,e x (fun t ht=>by simpa [cm] using ht)]
 |makeInterface t x=>simp only[bE,e x (fun t ht=>by simpa [cm] using ht)]
 |call c=>
  obtain⟨callee,args,ats⟩:=c
  cases callee with
  |builtin b=>
   have ea:=zJ args.toList (fun t ht=>h t (by simp only[cm,Ba];exact .inr ht))
   cases b with
   |len=>simp only[bE,ea,mX]
   |max=>simp only[bE,ea,mX]
   |min=>simp only[bE,ea,mX]
   |_=>obtain rfl:=hG rfl;simp only[bE,ea]
  |_=>rfl
 |_=>rfl
theorem aaT {c:Call} (h:∀ t∈cm (.call c),tm t=tm' t):callee tm c=callee tm' c:=by
 obtain⟨cal,args,ats⟩:=c
 have ea:=zJ args.toList (fun t ht=>h t (by simp only[cm,Ba];exact .inr ht))
 cases cal with
 |value f=>
  have ef:bd tm f=bd tm' f:=zI fun t ht=>h t (by simp only[cm,Ba];exact .inl ht)
  simp only[callee,ef,ea]
 |_=>rfl
end
def ko:AV->List (Nat×Nat)
 |.ptr l k _=>[(l,k)]
 |.bq l k _ _ _ _=>[(l,k)]
 |.loc l k _ _ _ _=>[(l,k)]
 |.bF l k _ _ _=>[(l,k)]
 |x=>x.refs
def tX:List AV->List (Nat×Nat)
 |[]=>[]
 |x::l=>ko x++tX l
def abC:AV->Option (List (Nat×Nat))
 |.ptr l k _=>if l=0 then some [(0,k)] else none
 |_=>none
def k9 (tm:Tm):Op->Option (List (Nat×Nat))
 |.store _ a _=>(bd tm a).bind abC
 |.load _ a=>(bd tm a).map ko
 |.buildSlice _ _ ps=>(partsOf tm ps.toList).map jQ
 |.slice _ x _ _ _=>(bd tm x).map ko
 |.convert _ _ x=>(bd tm x).map ko
 |.call c=>match c.callee with
  |.builtin .append=>(jP tm c.args.toList).map tX
  |.builtin .len|.builtin .max|.builtin .min=>some []
  |_=>none
 |o=>if vG o then none else some []
theorem qs {G:AR}{ks:List (Nat×Nat)}{l k:Nat} (h:(l,k)∈ks):only G ks l k=G l k:=by
 unfold only;rw[if_pos (by simpa using h)]
mutual
theorem agT {G:AR}{ks:List (Nat×Nat)}:∀ (x y:AV),x.ai G=some y->(∀ p∈x.refs,p∈ks)->x.ai (only G ks)=some y
 |.loc l k e i n g,y,h,hk=>by
  simp only[AV.ai]at h ⊢
  rw[qs (hk (l,k) (by simp[AV.refs]))];exact h
 |.nil,y,h,_=>by simpa [AV.ai] using h
 |.bR t v,y,h,hk=>by
  simp only[AV.ai,mS]at h ⊢
  obtain⟨a,h1,h2⟩:=h
  exact⟨a,agT v a h1 (by simpa only [AV.refs] using hk),h2⟩
 |.agg cs,y,h,hk=>by
  simp only[AV.ai,mS]at h ⊢
  obtain⟨a,h1,h2⟩:=h
  exact⟨a,sY cs a h1 (by simpa only [AV.refs] using hk),h2⟩
 |.ar vs,y,h,hk=>by
  simp only[AV.ai,mS]at h ⊢
  obtain⟨a,h1,h2⟩:=h
  exact⟨a,sY vs a h1 (by simpa only [AV.refs] using hk),h2⟩
 |.bool b,y,h,_=>by simpa [AV.ai] using h
 |.int k n,y,h,_=>by simpa [AV.ai] using h
 |.str s,y,h,_=>by simpa [AV.ai] using h
 |.sl e es,y,h,_=>by simpa [AV.ai] using h
 |.bG,y,h,_=>by simpa [AV.ai] using h
 |.bP,y,h,_=>by simpa [AV.ai] using h
 |.bS,y,h,_=>by simpa [AV.ai] using h
 |.raw r_,y,h,_=>by simpa [AV.ai] using h
 |.fn f a b,y,h,hk=>by
  simp only[AV.ai]at h ⊢
  split at h
  ·rename_i x z hx hz
   obtain rfl:=oi h
   simp only[AV.refs,Ba]at hk
   simp only[sY a x hx (fun p hp=>hk p (.inl hp)),sY b z hz (fun p hp=>hk p (.inr hp))]
  ·cases h
 |.bF ..,y,h,_=>by simp[AV.ai]at h
 |.ptr ..,y,h,_=>by simp[AV.ai]at h
 |.bq ..,y,h,_=>by simp[AV.ai]at h
 |.aA ..,y,h,_=>by simpa [AV.ai] using h
 |.dead,y,h,_=>by simp[AV.ai]at h
theorem sY {G:AR}{ks:List (Nat×Nat)}:∀ (l ys:List AV),AV.aG G l=some ys->(∀ p∈AV.aN l,p∈ks)->AV.aG (only G ks) l=some ys
 |[],ys,h,_=>by simpa [AV.aG] using h
 |x::l,ys,h,hk=>by
  simp only[AV.aG]at h ⊢
  simp only[AV.aN,Ba]at hk
  split at h
  ·rename_i a b ha hb
   obtain rfl:=oi h
   simp only[agT x a ha (fun p hp=>hk p (.inl hp)),sY l b hb (fun p hp=>hk p (.inr hp))]
  ·cases h
end
theorem agQ {G:AR}{ks:List (Nat×Nat)}:∀ (l:List (Nat×AV)) (cs:List (Nat×List AV)),lH G l=some cs->(∀ p∈jQ l,p∈ks)->lH (only G ks) l=some cs
 |[],cs,h,_=>by simpa [lH] using h
 |(i,v)::l,cs,h,hk=>by
  simp only[lH]at h ⊢
  simp only[jQ,Ba]at hk
  split at h
  ·rename_i vc oB
   split at h
   ·rename_i a b ha hb
    have hrefs:AV.aN vc=v.refs:=by
     cases v<;>simp only[AV.cells,oE]at oB<;>first|(subst oB;simp[AV.aN,AV.refs];done)|(cases oB)
    rw[sY vc a ha (fun p hp=>hk p (.inl (by rw[<-hrefs];exact hp))),agQ l b hb (fun p hp=>hk p (.inr hp))]
    exact h
   ·cases h
  ·cases h
theorem agd {G:AR}{ks:List (Nat×Nat)}{sz:Nat}{x:AV} (hk:∀ p∈ko x,p∈ks):iI (only G ks) sz x=iI G sz x:=by
 cases x with
 |loc l k e i n g=>simp only[iI];rw[qs (hk (l,k) (by simp[ko]))]
 |bF l k e o n=>simp only[iI];rw[qs (hk (l,k) (by simp[ko]))]
 |_=>rfl
theorem apM {T:AM}{kb:Nat}{tm:Tm}{G:AR}{o:Op}{ty:TypeId}{d:De}{ks:List (Nat×Nat)} (h:bE T kb o ty tm G=some d) (hr:k9 tm o=some ks):bE T kb o ty tm (only G ks)=some d:=by
 have other:vG o=false->bE T kb o ty tm (only G ks)=some d:=fun hh=>by rw[<-h];exact ah3 (fun _ _=>rfl) (fun e=>by rw[hh]at e;cases e)
 have amd:(if vG o=true then none else some [])=some ks->bE T kb o ty tm (only G ks)=some d:=by
  intro e
  cases hh:vG o with
  |true=>rw[hh]at e;simp at e
  |false=>exact other hh
 cases o with
 |load t a=>
  simp only[k9,mS]at hr
  obtain⟨x,hx,rfl⟩:=hr
  simp only[bE,hx]at h ⊢
  split at h
  ·rename_i ti x' ht iS
   obtain rfl:=oi iS
   rw[<-h]
   congr 1
   unfold nT
   congr 1
   cases x<;>simp only[iH,ko]<;>rw[qs (by simp)]
  ·cases h
 |store t a x=>
  simp only[k9,Option.bind_eq_some_iff]at hr
  obtain⟨y,hy,hr⟩:=hr
  cases y with
  |ptr l k o=>
   simp only[abC]at hr
   split at hr
   ·rename_i hl
    subst hl
    obtain rfl:=oi hr
    rw[<-h]
    simp only[bE,hy]
    cases T t with
    |none=>rfl
    |some ti=>
     cases bd tm x with
     |none=>rfl
     |some xv=>
      simp only
      cases xv.cells with
      |none=>rfl
      |some cs=>
       simp only[qZ]
       rw[qs (by simp)]
       split
       ·split
        ·split
         ·rfl
         ·rfl
        ·rfl
       ·rfl
   ·cases hr
  |_=>simp[abC]at hr
 |buildSlice t n ps=>
  simp only[k9,mS]at hr
  obtain⟨x,hx,rfl⟩:=hr
  simp only[bE,hx]at h ⊢
  split at h
  ·rename_i ti x' ht iS
   obtain rfl:=oi iS
   unfold qY at h ⊢
   split at h
   ·split at h
    ·rename_i hc
     simp only[hc,and_self,if_true]
     split at h
     ·rename_i cs fO
      rw[agQ _ _ fO (fun _ h=>h)]
      exact h
     ·cases h
    ·cases h
   ·cases h
  ·cases h
 |convert s d x=>
  simp only[k9,mS]at hr
  obtain⟨x1,hx,rfl⟩:=hr
  have hcv:∀ si di:TI,kI T (only G (ko x1)) si di x1=kI T G si di x1:=by
   intro si di
   unfold kI
   rw[agd (x:=x1) (fun p hp=>hp)]
  rw[<-h]
  simp only[bE,hx]
  cases T s with
  |none=>rfl
  |some si=>cases T d with
   |none=>rfl
   |some di=>simp only[hcv]
 |slice t x lo hi mx=>
  simp only[k9,mS]at hr
  obtain⟨x1,hx,rfl⟩:=hr
  have eC:∀ (ti:TI) (lo hi:AV),ly (only G (ko x1)) ti x1 lo hi=ly G ti x1 lo hi:=by
   intro ti lo hi
   cases x1 with
   |loc l k e i n g=>simp only[ly];rw[qs (by simp[ko])]
   |_=>rfl
  rw[<-h]
  cases mx with
  |some mx=>cases lo<;>cases hi<;>rfl
  |none=>
   cases lo with
   |none=>cases hi<;>rfl
   |some lo=>
    cases hi with
    |none=>rfl
    |some hi=>
     simp only[bE,hx]
     cases T t with
     |none=>rfl
     |some ti=>
      simp only
      split
      ·rw[eC]
      ·rfl
 |call c=>
  obtain⟨cal,args,ats⟩:=c
  cases cal with
  |builtin b=>
   cases b with
   |append=>
    simp only[k9,mS]at hr
    obtain⟨xs,hx,rfl⟩:=hr
    simp only[bE,hx]at h ⊢
    rw[<-h]
    unfold mX
    split
    ·rfl
    ·split
     ·rfl
     ·simp only
      split
      ·rename_i xs0 s x
       split
       ·unfold j6
        split
        ·rw[agd (x:=x) (by intro p hp;simp[tX,hp])]
         split
         ·cases s with
          |loc l k e i n g=>simp only;rw[qs (by simp[tX,ko])]
          |_=>rfl
         ·rfl
        ·rfl
       ·unfold xD
        split
        ·split
         ·split
          ·split
           ·unfold j6
            split
            ·simp only[iI]
             split
             ·cases s with
              |loc l k e i n g=>simp only;rw[qs (by simp[tX,ko])]
              |_=>rfl
             ·rfl
            ·rfl
           ·rfl
          ·rfl
         ·rfl
        ·split
         ·split
          ·unfold uY
           split
           ·unfold j6
            split
            ·simp only[iI]
             split
             ·cases s with
              |loc l k e i n g=>simp only;rw[qs (by simp[tX,ko])]
              |_=>rfl
             ·rfl
            ·rfl
           ·rfl
          ·rfl
         ·rfl
        ·rfl
      ·rfl
   |len=>exact other rfl
   |max=>exact other rfl
   |min=>exact other rfl
   |_=>simp[k9]at hr
  |_=>simp[k9]at hr
 |_=>exact amd hr
def dC:St->List An->List De->Nat->St
 |st,o::os,d::ds,i+1=>dC (st.by o.dst [] d) os ds i
 |st,_,_,_=>st
theorem abL (st:St) (ops:List An) (ds:List De):dC st ops ds 0=st:=by
 cases ops<;>cases ds<;>rfl
theorem aeC (st:St) (ops:List An) (ds:List De) (hl:ds.length=ops.length):∀ i,i<=ops.length->
  (dC st ops ds i).fr::(dC st ops ds i).low=Heap.bL (st.fr::st.low) (cG ds (List.range i))/\(dC st ops ds i).nx=st.nx+16*i/\(dC st ops ds i).nt=st.nt/\
  (dC st ops ds i).tm=ic ops ds (List.range i) st.tm:=by
 have key:∀ (ops:List An) (ds:List De) (st:St),ds.length=ops.length->∀ i o d,i<ops.length->ops[i]?=some o->ds[i]?=some d->dC st ops ds (i+1)=(dC st ops ds i).by o.dst [] d:=by
  intro ops
  induction ops with
  |nil=>intro ds st hl i o d hi;simp at hi
  |cons o' os ih=>
   intro ds st hl i o d hi ho hd
   cases ds with
   |nil=>simp at hl
   |cons d' ds=>
    cases i with
    |zero=>simp at ho hd;subst ho hd;simp[dC,abL]
    |succ i=>
     simp only[Cb]at ho hd
     simp only[dC]
     exact ih ds _ (by simpa using hl) i o d (by simpa using hi) ho hd
 intro i
 induction i with
 |zero=>intro _;simp[abL,cG,Heap.bL,ic]
 |succ i ih=>
  intro hi
  obtain⟨h1,h2,h3,h4⟩:=ih (by omega)
  have ho:ops[i]?=some ops[i]:=gG (by omega)
  have hd:ds[i]?=some ds[i]:=gG (by omega)
  have hk:=key ops ds st hl i _ _ (by omega) ho hd
  obtain⟨f',H',hp⟩:=ud (dC st ops ds i).fr (dC st ops ds i).low (ds[i]).lp
  have hb:dC st ops ds (i+1)={ dC st ops ds i with tm:=mO (dC st ops ds i).tm (ops[i]).dst (ds[i]).val,nx:=(dC st ops ds i).nx+16,fr:=f',low:=H' }:=by
   rw[hk];unfold St.by;rw[hp];rfl
  have es:∀ (l:List Nat) (m:List Nat),cG ds (l++m)=cG ds l++cG ds m:=by
   intro l m;induction l with
   |nil=>rfl
   |cons a l ih=>simp[cG,ih]
  have et:∀ (l:List Nat) (j:Nat) (tm:List (Nat×AV)),ic ops ds (l++[j]) tm=(match ds[j]? with|some d=>mO (ic ops ds l tm) (cq ops j) d.val|none=>ic ops ds l tm):=by
   intro l;induction l with
   |nil=>intro j tm;rfl
   |cons a l ih=>intro j tm;simp only[Bq,ic,ih]
  rw[hb]
  refine⟨?_,by simp only[h2];omega,h3,?_⟩
  ·simp only
   rw[List.range_succ,es,Heap.oN,<-h1,<-hp]
   simp[cG,dK,hd]
  ·simp only
   rw[List.range_succ,et,hd,<-h4]
   simp[cq,ho]
def ai6 (ops:List An) (befs:List (List Nat)) (i:Nat) (t:Nat):Bool:=
 (List.range ops.length).all fun j=>!(decide (cq ops j=some t)) || ((bA befs i).contains j || (bA befs j).contains i)
abbrev Rd:=Option (List (Nat×Nat))
def sU (r:Rd) (s:Sets):Bool:=match r with
 |none=>s.isEmpty
 |some ks=>s.all fun p=>!ks.contains (p.1,p.2.1)
def calm (ops:List An) (befs:List (List Nat)) (ds:List (De×Rd)):Bool:=
 decide (ds.length=ops.length)&&zG ops&&xk 0 befs&&sG befs (ds.map (·.1)) ops.length&&
 (List.range ops.length).all fun i=>match ops[i]?,ds[i]? with
  |some o,some d=>(aag o).all (ai6 ops befs i)&&((List.range ops.length).all fun j=>!qF befs i j || ((ds[j]?).map fun x=>sU d.2 x.1.lp).getD true)
  |_,_=>false
section
variable [Md] {P:Program}{T:AM}{n:Nat}{Φ:Exit->St->Prop}
theorem Em.mono {kb:Nat}{o:An}{tm:Tm}{G G':AR}{d:De} (hG:D4 G G') (h:Em P T kb o tm G d):Em P T kb o tm G' d:=by
 cases h with
 |op hc h=>exact .op hc (ah4 (fun _ _ h=>h) hG h)
 |look t m x r kv ob ho hm hx hr hl hs=>exact .look t m x r kv ob ho hm hx hr hl hs
 |call c f args ay hc h hp hz hr hs=>exact .call c f args ay hc h hp (nX hG _ _ hz) hr hs
 |mL m c f args ay hc h hp hz hr hs=>exact .mL m c f args ay hc h hp ((sJ hG (uM hG (fun _ _ _ _ _ _ _ hh=>mB hG _ _ hh) m) (fun _ _ _ _ _ _ _ hh=>mB hG _ _ hh)).2 _ _ hz) hr hs
 |ri m c f args ay fr y hc h hp hz hy hf hd=>exact .ri m c f args ay fr y hc h hp ((sJ hG (uM hG (fun _ _ _ _ _ _ _ hh=>mB hG _ _ hh) m) (fun _ _ _ _ _ _ _ hh=>mB hG _ _ hh)).2 _ _ hz) hy hf hd
 |nZ rs gs c f args dD fr0 fr y hc h hp hz hg bV hd=>
  have th:∀ l k b,only (jR G) (rs.map fun k=>(1,k)) l k=some b->only (jR G') (rs.map fun k=>(1,k)) l k=some b:=by
   intro l k b e
   unfold only at e ⊢
   split at e
   ·rename_i hm
    rw[if_pos hm]
    cases l with
    |zero=>simp[jR]at e
    |succ l=>exact hG l k b e
   ·cases e
  have yH:∀ (l k e i0 n g:Nat) (y:AV),(AV.loc l k e i0 n g).ai (only (jR G) (rs.map fun k=>(1,k)))=some y->(AV.loc l k e i0 n g).ai (only (jR G') (rs.map fun k=>(1,k)))=some y:=
   fun _ _ _ _ _ _ _ hh=>mB th _ _ hh
  exact .nZ rs gs c f args dD fr0 fr y hc h hp (adm (gs:=gs) (sJ th (uM th yH 5) yH).1 _ _ hz) (adl hG gs 0 fr0 hg) bV hd
theorem C4.congr {kb:Nat}{o:An}{tm tm':Tm}{G:AR}{d:De} (h:∀ t∈aag o,tm t=tm' t) (he:C4 P T kb o tm G d):C4 P T kb o tm' G d:=by
 have hu:∀ t∈cm o.op,tm t=tm' t:=fun t ht=>h t (by simp only[aag,Ba];exact .inr ht)
 have hg:∀ g w,o.guard=some (g,w)->tm g=tm' g:=fun g w hh=>h g (by simp[aag,hh])
 rcases he with ⟨eb,he⟩|⟨⟨g,w,hh,hc⟩,hd⟩
 ·refine .inl ⟨?_,?_⟩
  ·rcases eb with eb|⟨g,w,b,hh,h1,h2⟩
   ·exact .inl eb
   ·exact .inr ⟨g,w,b,hh,by rw[<-hg g w hh];exact h1,h2⟩
  ·cases he with
   |op hc he=>exact .op hc (by rw[<-ah3 hu (fun _=>rfl)];exact he)
   |look t m x r kv ob ho hm hx hr hl hs=>
    have e:∀ z,(∀ t∈dv z,t∈cm o.op)->bd tm' z=bd tm z:=fun z hz=>(zI fun t ht=>hu t (hz t ht)).symm
    exact .look t m x r kv ob ho (by rw[e m (fun t ht=>by rw[ho];simp[cm,ht])];exact hm) (by rw[e x (fun t ht=>by rw[ho];simp[cm,ht])];exact hx) hr hl hs
   |call c f args ay hc h hp hz hr hs=>
    have nk:o.op=.call c:=by
     unfold kj at hc
     split at hc
     ·split at hc
      ·cases hc
      ·obtain rfl:=oi hc;assumption
     ·cases hc
    exact .call c f args ay hc (by rw[<-aaT (by rw[<-nk];exact hu)];exact h) hp hz hr hs
   |mL m c f args ay hc h hp hz hr hs=>
    have nk:o.op=.call c:=by
     unfold kj at hc
     split at hc
     ·split at hc
      ·cases hc
      ·obtain rfl:=oi hc;assumption
     ·cases hc
    exact .mL m c f args ay hc (by rw[<-aaT (by rw[<-nk];exact hu)];exact h) hp hz hr hs
   |ri m c f args ay fr y hc h hp hz hy hf hd=>
    have nk:o.op=.call c:=by
     unfold kj at hc
     split at hc
     ·split at hc
      ·cases hc
      ·obtain rfl:=oi hc;assumption
     ·cases hc
    exact .ri m c f args ay fr y hc (by rw[<-aaT (by rw[<-nk];exact hu)];exact h) hp hz hy hf hd
   |nZ rs gs c f args dD fr0 fr y hc h hp hz hg bV hd=>
    have nk:o.op=.call c:=by
     unfold kj at hc
     split at hc
     ·split at hc
      ·cases hc
      ·obtain rfl:=oi hc;assumption
     ·cases hc
    exact .nZ rs gs c f args dD fr0 fr y hc (by rw[<-aaT (by rw[<-nk];exact hu)];exact h) hp hz hg bV hd
 ·refine .inr ⟨⟨g,w,hh,?_⟩,hd⟩
  rw[<-hg g w hh];exact hc
def C9 (P:Program) (T:AM) (kb:Nat) (o:An) (tm:Tm) (G:AR) (d:De×Rd):Prop:=
 C4 P T kb o tm (match d.2 with|none=>G|some ks=>only G ks) d.1
inductive Steps (P:Program) (T:AM):St->List An->List (De×Rd)->Prop
 |nil (st:St):Steps P T st [] []
 |cons (st:St) (o:An) (os:List An) (d:De×Rd) (ds:List (De×Rd)) (h:C9 P T st.nx o (look st.tm) st.get d) (hs:Steps P T (st.by o.dst [] d.1) os ds):Steps P T st (o::os) (d::ds)
theorem Steps.at {st:St}{ops:List An}{ds:List (De×Rd)} (h:Steps P T st ops ds):∀ i o d,ops[i]?=some o->ds[i]?=some d->
  C9 P T (dC st ops (ds.map (·.1)) i).nx o (look (dC st ops (ds.map (·.1)) i).tm) (dC st ops (ds.map (·.1)) i).get d:=by
 induction h with
 |nil st=>intro i o d ho;simp at ho
 |cons st o os d ds h hs ih=>
  intro i o' d' ho hd
  cases i with
  |zero=>simp at ho hd;subst ho hd;rw[abL];exact h
  |succ i=>
   simp only[Cb]at ho hd
   simp only[List.map_cons,dC]
   exact ih i o' d' ho hd
theorem Steps.length {st:St}{ops:List An}{ds:List (De×Rd)} (h:Steps P T st ops ds):ds.length=ops.length:=by
 induction h with
 |nil=>rfl
 |cons _ _ _ _ _ _ _ ih=>simp[ih]
theorem acS:∀ (ks:List Nat) (l:List (Nat×AV)) (t:Nat),look (cA l ks) t=if t∈ks then none else look l t
 |[],l,t=>by simp[cA]
 |k::ks,l,t=>by
  simp only[cA,acS ks,zw,BE]
  by_cases h1:t∈ks
  ·simp[h1]
  ·by_cases h2:k=t
   ·simp[h2]
   ·simp[h1,h2,Ne.symm h2]
theorem afL {ops:List An}{befs:List (List Nat)}{st:St} (ds:List (De×Rd)) (hs:Steps P T st ops ds) (hc:calm ops befs ds=true):
  ∀ i s d,ops[i]?=some s->(ds.map (·.1))[i]?=some d->C4 P T (st.nx+16*i) s (look (mw ops befs (ds.map (·.1)) st.tm i)) (Heap.get (lE ops befs (ds.map (·.1)) (st.fr::st.low) i)) d:=by
 obtain⟨cX,yt⟩:∃ cX,ds.map (·.1)=cX:=⟨_,rfl⟩
 have hl:=hs.length
 have tD:cX.length=ops.length:=by rw[<-yt];simp[hl]
 simp only[calm,A7,decide_eq_true_eq,yt]at hc
 obtain⟨⟨⟨⟨_,h1⟩,gF⟩,jf⟩,iQ⟩:=hc
 have hO:=abB ops h1
 have hB:=aaM befs 0 gF
 have hdx:∀ i,i<ops.length->∃ d,ds[i]?=some d/\cX[i]?=some d.1:=by
  intro i hi
  obtain⟨x,h2⟩:∃ x,ds[i]?=some x:=⟨_,gG (by omega)⟩
  refine⟨x,h2,?_⟩
  have h3:(ds.map (·.1))[i]?=some x.1:=by rw[Bx,h2];rfl
  rw[yt]at h3;exact h3
 rw[yt]
 intro i s d hi hd
 have hil:i<ops.length:=(gS.1 hi).1
 obtain⟨dd,h2,h3⟩:=hdx i hil
 rw[hd]at h3
 obtain rfl:=oi h3
 have hE:=hs.at i s dd hi h2
 rw[yt]at hE
 obtain⟨f1,f2,f3,f4⟩:=aeC st ops cX tD i (by omega)
 rw[f2]at hE
 simp only[List.all_eq_true,List.mem_range]at iQ
 have hci:=iQ i hil
 rw[hi,h2]at hci
 simp only[A7,List.all_eq_true]at hci
 obtain⟨hu,hh⟩:=hci
 have nh:∀ j t,cq ops j=some t->j<ops.length:=by
  intro j t hj
  unfold cq at hj
  cases ho:ops[j]? with
  |none=>rw[ho]at hj;cases hj
  |some o=>exact(gS.1 ho).1
 have eF:∀ t∈aag s,look (dC st ops cX i).tm t=look (mw ops befs cX st.tm i) t:=by
  intro t ht
  rw[f4]
  have hut:=hu t ht
  simp only[ai6,List.all_eq_true,List.mem_range,Bool.or_eq_true,Bool.not_eq_true',decide_eq_false_iff_not]at hut
  unfold mw
  by_cases hex:∃ j,cq ops j=some t
  ·obtain⟨j,hj⟩:=hex
   have kR:=nh j t hj
   have hor:(bA befs i).contains j=true\/(bA befs j).contains i=true:=by
    rcases hut j kR with h|h
    ·exact absurd hj h
    ·exact h
   by_cases yF:(bA befs i).contains j=true
   case neg=>
    have pP:=hB j i (by simpa using hor.resolve_left yF)
    have bx:∀ L:List Nat,j∉L->∀ k∈L,cq ops k≠some t:=by
     intro L hjL k hk pS
     have:=hO j k t hj pS
     subst this
     exact hjL hk
    rw[my ops cX t _ _ (bx _ (by simp;omega)),my ops cX t _ _ (bx _ (by intro hm;exact yF (lW.1 hm).2)),acS,if_neg]
    intro hm
    obtain⟨k,hk,pS⟩:=List.mem_filterMap.1 hm
    have:=hO j k t hj pS
    subst this
    have:=(lW.1 hk).2
    rw[hor.resolve_left yF]at this
    cases this
   have gH:=hB i j (by simpa using yF)
   obtain⟨dj,_,n8⟩:=hdx j kR
   rw[q9 ops cX hO hj n8 _ _ (List.mem_range.2 (by omega)),q9 ops cX hO hj n8 _ _ (lW.2 ⟨kR,yF⟩)]
  ·have bx:∀ (L:List Nat),∀ j∈L,cq ops j≠some t:=fun L j _ hj=>hex ⟨j,hj⟩
   rw[my ops cX t _ _ (bx _),my ops cX t _ _ (bx _),acS,if_neg]
   intro hm
   obtain⟨j,_,hj⟩:=List.mem_filterMap.1 hm
   exact hex ⟨j,hj⟩
 simp only[List.all_eq_true,List.mem_range,Bool.or_eq_true,Bool.not_eq_true']at hh
 have anp:∀ j,j<ops.length->qF befs i j=true->sU dd.2 (dK cX j)=true:=by
  intro j hj bW
  obtain⟨dj,n8,anh⟩:=hdx j hj
  rcases hh j hj with h|h
  ·rw[bW]at h;cases h
  ·rw[n8]at h
   simpa [dK,anh] using h
 have hG:∀ l k,(∀ ks,dd.2=some ks->(l,k)∈ks)->(dC st ops cX i).get l k=Heap.get (lE ops befs cX (st.fr::st.low) i) l k:=by
  intro l k nj
  have yO:∀ j,j<ops.length->qF befs i j=true->∀ p∈dK cX j,¬ (p.1=l/\p.2.1=k):=by
   intro j hj bW p hp hpe
   have:=anp j hj bW
   unfold sU at this
   split at this
   ·rw[List.isEmpty_iff]at this;rw[this]at hp;cases hp
   ·rename_i ks hks
    have h1:=List.all_eq_true.1 this p hp
    have h2:=nj ks hks
    rw[hpe.1,hpe.2]at h1
    simp[h2]at h1
  unfold St.get lE
  rw[f1,sZ,sZ]
  have g1:said (gone (cG cX (idxs ops.length (qF befs i)))) l k=none:=by
   apply abJ
   intro x hx
   obtain⟨y,hy,rfl⟩:=List.mem_map.1 hx
   obtain⟨j,hj,hyj⟩:=(ad1 _).1 hy
   exact fun hh=>yO j (lW.1 hj).1 (lW.1 hj).2 y hyj hh
  rw[g1]
  simp only
  rw[sZ]
  have g2:said (cG cX (List.range i)) l k=said (cG cX (idxs ops.length fun j=>(bA befs i).contains j)) l k:=by
   have k2:List.range i=(List.range ops.length).filter fun j=>decide (j<i):=by
    have:∀ (m k:Nat),k<=m->List.range k=(List.range m).filter fun j=>decide (j<k):=by
     intro m
     induction m with
     |zero=>
      intro k hk
      have:k=0:=by omega
      subst this;rfl
     |succ m ih=>
      intro k hk
      by_cases hkm:k=m+1
      ·subst hkm
       symm
       rw[List.filter_eq_self]
       intro j hj;simpa using hj
      ·rw[List.range_succ,List.filter_append,<-ih k (by omega)]
       have:¬ m<k:=by omega
       simp[this]
    exact this _ _ (by omega)
   rw[k2]
   symm
   unfold idxs
   refine aez (ds:=cX) (l:=l) (k:=k) (fun j=>(bA befs i).contains j) (fun j=>decide (j<i)) ?_ (List.range ops.length) ?_
   ·intro j hj
    have:=hB i j (by simpa using hj)
    simp;omega
   ·intro j hj gH hnb s hs
    simp only[decide_eq_true_eq]at gH
    refine yO j (List.mem_range.1 hj) ?_ s hs
    unfold qF
    have pV:(bA befs j).contains i=false:=by
     cases hx:(bA befs j).contains i with
     |false=>rfl
     |true=>have:=hB j i (by simpa using hx);omega
    rw[hnb,pV]
    have:j≠i:=by omega
    simp[this]
  rw[g2]
 have hE':=C4.congr eF hE
 have hle:D4 (match dd.2 with|none=>(dC st ops cX i).get|some ks=>only (dC st ops cX i).get ks) (Heap.get (lE ops befs cX (st.fr::st.low) i)):=by
  intro l k b hb
  cases kQ:dd.2 with
  |none=>
   rw[kQ]at hb
   simp only at hb
   rw[<-hG l k (by intro ks e;rw[kQ]at e;cases e)];exact hb
  |some ks=>
   rw[kQ]at hb
   simp only[only]at hb
   split at hb
   ·rename_i hm
    rw[<-hG l k (by intro ks' e;rw[kQ]at e;obtain rfl:=oi e;simpa using hm)];exact hb
   ·cases hb
 rcases hE' with ⟨a,b⟩|⟨a,b⟩
 ·exact .inl ⟨a,b.mono hle⟩
 ·exact .inr ⟨a,b⟩
theorem alF {ops:List An}{drop:List Nat}{todo:List It}{st:St} (cX:List De) (tD:cX.length=ops.length)
  (hn:AK P n Φ todo { dC st ops cX ops.length with tm:=cA (dC st ops cX ops.length).tm drop }):AK P n Φ todo (st.drawn ops cX drop):=by
 obtain⟨e1,e2,e3,e4⟩:=aeC st ops cX tD ops.length (Bd _)
 unfold St.drawn
 obtain⟨f',H',hp⟩:=ud st.fr st.low (cG cX (List.range ops.length))
 rw[hp]at e1 ⊢
 simp only[List.cons.injEq]at e1
 obtain⟨e5,e6⟩:=e1
 rw[ajs]
 simp only[e2,e3,e4,e5,e6]at hn
 exact hn
theorem HT (hT:AQ P T) (hm:P.follows .mixedOrders=true) {ops:List An}{befs:List (List Nat)}{drop:List Nat}{todo:List It}{st:St} (ds:List (De×Rd)) (hs:Steps P T st ops ds) (hc:calm ops befs ds=true)
  (hn:AK P n Φ todo { dC st ops (ds.map (·.1)) ops.length with tm:=cA (dC st ops (ds.map (·.1)) ops.length).tm drop }):AJ P n Φ (.draw ops befs drop todo st):=by
 have hl:(ds.map (·.1)).length=ops.length:=by simp[hs.length]
 have kP:=hc
 simp only[calm,A7,decide_eq_true_eq]at kP
 obtain⟨⟨⟨⟨_,h1⟩,gF⟩,jf⟩,_⟩:=kP
 exact HU hT hm _ hl h1 gF jf (afL ds hs hc) (alF _ hl hn)
end
end Go.Abs
namespace Go.Abs
open Go Go.RowKit
theorem Aw.nl {P:Program}{f:FuncId}{zs args:List AV}{R:AV->Prop} (h:Aw P f args R) (hn:A1 zs args):Aw P f zs R:=
 ⟨h.1,fun fm w vs h1 h2=>h.2 fm w vs h1 (hn.ok h2)⟩
inductive Cz where
 |stuck
 |call (f:FuncId) (args:List AV) (o:An) (os:List An) (acc:List (De×Rd)) (st:St)
 |look (t:TypeId) (r:Nat) (kv:AV) (o:An) (os:List An) (acc:List (De×Rd)) (st:St)
 |done (acc:List (De×Rd)) (st:St)
def zR:De×Rd:=(⟨.ar [],[]⟩,some [])
def qE (f:List An->List (De×Rd)->St->Cz) (b:Bool) (os:List An) (acc:List (De×Rd)) (st:St) (iU:List An) (iF:List (De×Rd)) (ao:St):Cz:=
 match b with
 |true=>f os acc st
 |false=>f iU iF ao
theorem aqF (f:List An->List (De×Rd)->St->Cz) (os iU:List An) (acc iF:List (De×Rd)) (st ao:St):qE f true os acc st iU iF ao=f os acc st:=rfl
theorem aqE (f:List An->List (De×Rd)->St->Cz) (os iU:List An) (acc iF:List (De×Rd)) (st ao:St):qE f false os acc st iU iF ao=f iU iF ao:=rfl
def ahJ (o:An) (os:List An) (acc:List (De×Rd)) (st:St):Cz:=
 match o.op with
 |.lookup t m x false=>match bd (look st.tm) m,bd (look st.tm) x with
  |some (.raw (.map (some r))),some kv=>.look t r kv o os acc st
  |_,_=>.stuck
 |_=>.stuck
def abv (f:List An->List (De×Rd)->St->Cz) (o:An) (os:List An) (acc:List (De×Rd)) (st:St):Option De->Cz
 |some d=>f os ((d,k9 (look st.tm) o.op)::acc) (st.by o.dst [] d)
 |none=>ahJ o os acc st
theorem aoU (f:List An->List (De×Rd)->St->Cz) (o:An) (os:List An) (acc:List (De×Rd)) (st:St) (d:De):abv f o os acc st (some d)=f os ((d,k9 (look st.tm) o.op)::acc) (st.by o.dst [] d):=rfl
def acH (o:An) (os:List An) (acc:List (De×Rd)) (st:St):Option (FuncId×List AV)->Cz
 |some (f,args)=>.call f args o os acc st
 |none=>.stuck
theorem alC (o:An) (os:List An) (acc:List (De×Rd)) (st:St) (f:FuncId) (args:List AV):acH o os acc st (some (f,args))=.call f args o os acc st:=rfl
def doD (T:AM) (f:List An->List (De×Rd)->St->Cz) (o:An) (os:List An) (acc:List (De×Rd)) (st:St):Cz:=
 match kj o.op with
 |some c=>acH o os acc st (callee (look st.tm) c)
 |none=>abv f o os acc st (bE T st.nx o.op o.type (look st.tm) st.get)
def jv (T:AM):Nat->List An->List (De×Rd)->St->Cz
 |0,_,_,_=>.stuck
 |_+1,[],acc,st=>.done acc st
 |n+1,o::os,acc,st=>match o.guard with
  |none=>doD T (jv T n) o os acc st
  |some (g,w)=>match look st.tm g with
   |some (.bool b)=>qE (jv T n) (b==w) (⟨o.dst,o.op,o.type,none,o.drop⟩::os) acc st os (zR::acc) (st.by o.dst [] ⟨.ar [],[]⟩)
   |some (.ar [])=>jv T n os (zR::acc) (st.by o.dst [] ⟨.ar [],[]⟩)
   |_=>.stuck
section
variable [Md] {P:Program}{T:AM}{n:Nat}{Φ:Exit->St->Prop}{C:List (De×Rd)->St->Prop}
def GD (P:Program) (T:AM) (C:List (De×Rd)->St->Prop) (os:List An) (acc:List (De×Rd)) (st:St):Prop:=
 ∃ ds,Steps P T st os ds/\C (ds.reverse++acc) (dC st os (ds.map (·.1)) os.length)
def DG (P:Program) (T:AM) (C:List (De×Rd)->St->Prop):Cz->Prop
 |.stuck=>False
 |.look t r kv o os acc st=>∃ ob y,Md.mps r=some ob/\HC P t ob r kv y/\GD P T C os ((⟨y,[]⟩,some [])::acc) (st.by o.dst [] ⟨y,[]⟩)
 |.done acc st=>C acc st
 |.call f args o os acc st=>(∃ rs gs dD fr0 fr y,A6 P f dD fr0 (fun y' aU=>y'=y/\aU=fr)/\kN gs (only (jR (only st.get ((gs++rs).map fun k=>(0,k)))) (rs.map fun k=>(1,k))) (cQ (only (jR (only st.get ((gs++rs).map fun k=>(0,k)))) (rs.map fun k=>(1,k))) 5) (AV.de 1 args)=some dD/\
    n4 (only st.get ((gs++rs).map fun k=>(0,k))) 0 gs=some fr0/\(decide (gs++rs).Nodup&&decide (gs.length<=16))=true/\GD P T C os ((⟨y.imp st.nx,kX rs++(kX gs++kW st.nx fr)⟩,some ((gs++rs).map fun k=>(0,k)))::acc) (st.by o.dst [] ⟨y.imp st.nx,kX rs++(kX gs++kW st.nx fr)⟩))\/
   (∃ m ks ay fr y,A6 P f ay [] (fun y' aU=>y'=y/\aU=fr)/\AV.cW (only st.get ks) (cQ (only st.get ks) m) args=some ay/\y.mM=true/\rM fr/\GD P T C os ((⟨y.imp st.nx,kW st.nx fr⟩,some ks)::acc) (st.by o.dst [] ⟨y.imp st.nx,kW st.nx fr⟩))\/∃ v ay fl,Aw P f ay (fun y=>y=v)/\((AV.aG st.get args=some ay/\(AV.aN args=[]\/v.cU=true)/\fl=some (AV.aN args))\/(fl=none/\v.cU=true/\∃ m,AV.cW st.get (cQ st.get m) args=some ay))/\
   GD P T C os ((⟨v,[]⟩,fl)::acc) (st.by o.dst [] ⟨v,[]⟩)
theorem GD.cons {o:An}{os:List An}{acc:List (De×Rd)}{st:St}{d:De×Rd} (h:C9 P T st.nx o (look st.tm) st.get d) (hg:GD P T C os (d::acc) (st.by o.dst [] d.1)):GD P T C (o::os) acc st:=by
 obtain⟨ds,h1,h2⟩:=hg
 exact⟨d::ds,.cons st o os d ds h h1,by simpa [dC] using h2⟩
theorem abH:∀ (m:Nat) (os:List An) (acc:List (De×Rd)) (st:St),DG P T C (jv T m os acc st)->GD P T C os acc st:=by
 intro m
 induction m with
 |zero=>intro os acc st h;exact h.elim
 |succ m ih=>
  intro os acc st h
  cases os with
  |nil=>exact⟨[],.nil st,by simp only[jv,DG]at h;simpa [abL] using h⟩
  |cons o os=>
   have mg:(stays o (look st.tm))->DG P T C (jv T m os (zR::acc) (st.by o.dst [] ⟨.ar [],[]⟩))->GD P T C (o::os) acc st:=by
    intro hs h
    exact GD.cons (d:=zR) (by simp only[C9,zR];exact .inr ⟨hs,rfl⟩) (ih _ _ _ h)
   cases hg:o.guard with
   |none=>
    simp only[jv,hg,doD]at h
    cases hc:kj o.op with
    |none=>
     rw[hc]at h
     simp only at h
     cases hd:bE T st.nx o.op o.type (look st.tm) st.get with
     |none=>
      rw[hd]at h
      simp only[abv,ahJ]at h
      split at h
      ·rename_i t m' x' ho
       split at h
       ·rename_i r kv hm hx
        obtain⟨ob,y,h1,h2,h3⟩:=h
        refine GD.cons (d:=(⟨y,[]⟩,some [])) ?_ h3
        unfold C9
        exact .inl ⟨.inl hg,.look t m' x' r kv ob ho hm hx h1 h2 rfl⟩
       ·exact h.elim
      ·exact h.elim
     |some d=>
      rw[hd]at h
      simp only[abv]at h
      refine GD.cons (d:=(d,k9 (look st.tm) o.op)) ?_ (ih _ _ _ h)
      unfold C9
      simp only
      cases hr:k9 (look st.tm) o.op with
      |none=>exact .inl ⟨.inl hg,.op hc hd⟩
      |some ks=>exact .inl ⟨.inl hg,.op hc (apM hd hr)⟩
    |some c=>
     rw[hc]at h
     simp only at h
     cases fD:callee (look st.tm) c with
     |none=>rw[fD]at h;exact h.elim
     |some fa=>
      obtain⟨f,args⟩:=fa
      rw[fD]at h
      simp only[acH,DG]at h
      rcases h with ⟨rs,gs,dD,fr0,fr,y,h1,h2,h3,h5,h4⟩|⟨m,ks,ay,fr,y,h1,h2,h3,h5,h4⟩|h
      ·refine GD.cons (d:=(⟨y.imp st.nx,kX rs++(kX gs++kW st.nx fr)⟩,some ((gs++rs).map fun k=>(0,k)))) ?_ h4
       unfold C9
       exact .inl ⟨.inl hg,.nZ rs gs c f args dD fr0 fr y hc fD h1 h2 h3 h5 rfl⟩
      ·refine GD.cons (d:=(⟨y.imp st.nx,kW st.nx fr⟩,some ks)) ?_ h4
       unfold C9
       exact .inl ⟨.inl hg,.ri m c f args ay fr y hc fD h1 h2 h3 h5 rfl⟩
      obtain⟨v,ay,fl,h1,hor,h4⟩:=h
      refine GD.cons (d:=(⟨v,[]⟩,fl)) ?_ h4
      unfold C9
      rcases hor with ⟨h2,h3,rfl⟩|⟨rfl,h3,m,h2⟩
      ·exact .inl ⟨.inl hg,.call c f args ay hc fD h1 (sY _ _ h2 (fun _ h=>h)) h3 rfl⟩
      ·exact .inl ⟨.inl hg,.mL m c f args ay hc fD h1 h2 h3 rfl⟩
   |some gw=>
    obtain⟨g,w⟩:=gw
    simp only[jv,hg]at h
    split at h
    ·rename_i b hb
     cases ji:b==w with
     |true=>
      rw[ji]at h
      simp only[qE]at h
      obtain⟨ds,h1,h2⟩:=ih _ _ _ h
      cases h1 with
      |cons _ _ _ d ds hE hs=>
       refine⟨d::ds,.cons st o os d ds ?_ hs,by simpa [dC] using h2⟩
       have eb:agY o (look st.tm):=.inr ⟨g,w,b,hg,hb,ji⟩
       unfold C9 at hE ⊢
       have conv:∀ G,C4 P T st.nx ⟨o.dst,o.op,o.type,none,o.drop⟩ (look st.tm) G d.1->C4 P T st.nx o (look st.tm) G d.1:=by
        rintro G (⟨_,he⟩|⟨⟨g',w',hh,_⟩,_⟩)
        ·refine .inl ⟨eb,?_⟩
         cases he with
         |op hc h=>exact .op hc h
         |look t m x r kv ob ho hm hx hr hl hs=>exact .look t m x r kv ob ho hm hx hr hl hs
         |call c f args ay hc h hp hz hr hs=>exact .call c f args ay hc h hp hz hr hs
         |mL m c f args ay hc h hp hz hr hs=>exact .mL m c f args ay hc h hp hz hr hs
         |nZ rs gs c f args dD fr0 fr y hc h hp hz hg bV hd=>exact .nZ rs gs c f args dD fr0 fr y hc h hp hz hg bV hd
         |ri m c f args ay fr y hc h hp hz hy hf hd=>exact .ri m c f args ay fr y hc h hp hz hy hf hd
        ·cases hh
       exact conv _ hE
     |false=>
      rw[ji]at h
      simp only[qE]at h
      exact mg ⟨g,w,hg,.inl ⟨b,hb,ji⟩⟩ h
    ·rename_i hb
     exact mg ⟨g,w,hg,.inr hb⟩ h
    ·exact h.elim
theorem H7 {f:FuncId}{args ay qO:List AV}{v:AV}{o:An}{os:List An}{acc:List (De×Rd)}{st:St} (m:Nat) (hp:Aw P f ay (fun y=>y=v)) (hz:AV.aG st.get args=some qO) (hn:A1 qO ay)
  (hr:AV.aN args=[]\/v.cU=true) (h:DG P T C (jv T m os ((⟨v,[]⟩,some (AV.aN args))::acc) (st.by o.dst [] ⟨v,[]⟩))):DG P T C (.call f args o os acc st):=
 .inr <| .inr ⟨v,qO,_,hp.nl hn,.inl ⟨hz,hr,rfl⟩,abH m _ _ _ h⟩
theorem D1 {f:FuncId}{args dD:List AV}{fr0 fr:Av}{y:AV}{o:An}{os:List An}{acc:List (De×Rd)}{st:St} (m:Nat) (rs gs:List Nat) (hp:A6 P f dD fr0 (fun y' aU=>y'=y/\aU=fr))
  (hz:kN gs (only (jR (only st.get ((gs++rs).map fun k=>(0,k)))) (rs.map fun k=>(1,k))) (cQ (only (jR (only st.get ((gs++rs).map fun k=>(0,k)))) (rs.map fun k=>(1,k))) 5) (AV.de 1 args)=some dD/\n4 (only st.get ((gs++rs).map fun k=>(0,k))) 0 gs=some fr0) (bV:(decide (gs++rs).Nodup&&decide (gs.length<=16))=true)
  (h:DG P T C (jv T m os ((⟨y.imp st.nx,kX rs++(kX gs++kW st.nx fr)⟩,some ((gs++rs).map fun k=>(0,k)))::acc) (st.by o.dst [] ⟨y.imp st.nx,kX rs++(kX gs++kW st.nx fr)⟩))):DG P T C (.call f args o os acc st):=
 .inl ⟨rs,gs,dD,fr0,fr,y,hp,hz.1,hz.2,bV,abH m _ _ _ h⟩
theorem GJ {acc:List (De×Rd)}{st:St} (h:C acc st):DG P T C (.done acc st):=h
def mR (ds:List (De×Rd)):List (List (Nat×Nat)×Rd):=ds.map fun d=>(d.1.lp.map fun p=>(p.1,p.2.1),d.2)
def nO (sk:List (List (Nat×Nat)×Rd)):List (De×Rd):=sk.map fun d=>(⟨.ar [],d.1.map fun p=>(p.1,p.2,none)⟩,d.2)
theorem aow (s t s' t':Sets) (hs:s.map (fun p=>(p.1,p.2.1))=s'.map (fun p=>(p.1,p.2.1))) (ht:t.map (fun p=>(p.1,p.2.1))=t'.map (fun p=>(p.1,p.2.1))):tW s t=tW s' t':=by
 have key:∀ s t:Sets,tW s t=((s.map fun p=>(p.1,p.2.1)).all fun p=>(t.map fun p=>(p.1,p.2.1)).all fun q=>!(p.1==q.1&&p.2==q.2)):=by
  intro s t
  unfold tW
  simp[List.all_map,Function.comp_def]
 rw[key,key,hs,ht]
theorem amI (r:Rd) (s s':Sets) (hs:s.map (fun p=>(p.1,p.2.1))=s'.map (fun p=>(p.1,p.2.1))):sU r s=sU r s':=by
 have key:∀ s:Sets,sU r s=(match r with
   |none=>(s.map fun p=>(p.1,p.2.1)).isEmpty
   |some ks=>(s.map fun p=>(p.1,p.2.1)).all fun p=>!ks.contains p):=by
  intro s
  cases r with
  |none=>cases s<;>rfl
  |some ks=>simp[sU,List.all_map,Function.comp_def]
 rw[key,key,hs]
theorem alE (ops:List An) (befs:List (List Nat)) (ds:List (De×Rd)):calm ops befs ds=calm ops befs (nO (mR ds)):=by
 have dH:∀ i:Nat,(nO (mR ds))[i]?=(ds[i]?).map fun d=>((⟨.ar [],d.1.lp.map fun p=>(p.1,p.2.1,none)⟩:De),d.2):=by
  intro i
  simp[nO,mR,Bx,Function.comp_def]
 have hk:∀ i:Nat,(dK (ds.map (·.1)) i).map (fun p=>(p.1,p.2.1))=(dK ((nO (mR ds)).map (·.1)) i).map (fun p=>(p.1,p.2.1)):=by
  intro i
  unfold dK
  rw[Bx,Bx,dH]
  cases ds[i]? with
  |none=>rfl
  |some d=>simp[Function.comp_def]
 have h1:(nO (mR ds)).length=ds.length:=by simp[nO,mR]
 have h2:sG befs ((nO (mR ds)).map (·.1)) ops.length=sG befs (ds.map (·.1)) ops.length:=by
  unfold sG
  congr 1;funext j;congr 1;funext i
  rw[aow _ _ _ _ (hk i).symm (hk j).symm]
 unfold calm
 rw[h1,h2]
 congr 1
 congr 1;funext i
 rw[dH]
 cases ops[i]? with
 |none=>rfl
 |some o=>
  cases ds[i]? with
  |none=>rfl
  |some d=>
   simp only[A5]
   congr 1
   congr 1;funext j
   rw[dH]
   cases ds[j]? with
   |none=>rfl
   |some x=>
    simp only[A5,Option.getD_some]
    rw[amI d.2 x.1.lp (x.1.lp.map fun p=>(p.1,p.2.1,none)) (by simp[Function.comp_def])]
theorem afM {ops:List An}{befs:List (List Nat)}{ds:List (De×Rd)}{sk:List (List (Nat×Nat)×Rd)} (h1:mR ds=sk) (h2:calm ops befs (nO sk)=true):calm ops befs ds=true:=by
 rw[alE,h1];exact h2
theorem AL (hT:AQ P T) (hm:P.follows .mixedOrders=true) {ops:List An}{befs:List (List Nat)}{drop:List Nat}{todo:List It}{st:St} (m:Nat)
  (h:DG P T (fun acc ao=>calm ops befs acc.reverse=true/\AK P n Φ todo { ao with tm:=cA ao.tm drop }) (jv T m ops [] st)):AJ P n Φ (.draw ops befs drop todo st):=by
 obtain⟨ds,h1,h2,h3⟩:=abH m _ _ _ h
 simp only[List.append_nil,List.reverse_reverse]at h2
 exact HT hT hm ds h1 h2 h3
theorem H0 (hT:AQ P T) {f:FuncId}{args ay qO:List AV}{v:AV}{dst:Option Tmp}{drop:List Nat}{todo:List It}{st:St} (m:Nat) (hp:Aw P f ay (fun y=>y=v)) (hz:AV.aG (Heap.get ([]::st.fr::st.low)) args=some qO) (hn:A1 qO ay)
  (hr:AV.aN args=[]\/v.cU=true) (h:AJ P n Φ (run T m todo (st.gz dst drop v [] (st.fr::st.low)))):AJ P n Φ (.call f args dst drop todo st):=by
 have hk:=gN hT m todo _ h
 rcases hr with hr|hr
 ·exact HV (hp.nl hn) hz hr (by rintro y rfl;exact hk)
 ·exact HQ (hp.nl hn) hz (by rintro y rfl;exact hr) (by rintro y rfl;exact hk)
theorem HY (hT:AQ P T) {f:FuncId}{args ay qO:List AV}{v:AV}{dst:Option Tmp}{drop:List Nat}{todo:List It}{st:St} (m:Nat) (hp:Aw P f ay (fun y=>y=v)) (hz:AV.cW (Heap.get ([]::st.fr::st.low)) (cQ (Heap.get ([]::st.fr::st.low)) 5) args=some qO) (hn:A1 qO ay)
  (hr:v.cU=true) (h:AJ P n Φ (run T m todo (st.gz dst drop v [] (st.fr::st.low)))):AJ P n Φ (.call f args dst drop todo st):=by
 have hk:=gN hT m todo _ h
 exact DY (Aw.mL 5 (hp.nl hn) hz (by rintro y rfl;exact hr)) (by rintro v fr H ⟨rfl,rfl,rfl⟩;exact hk)
def kG (o:Option (List AV)) (ay:List AV):Prop:=match o with
 |some z=>A1 z ay
 |none=>False
theorem art (z ay:List AV):kG (some z) ay=A1 z ay:=rfl
def yOK (o:Option AV) (v:AV):Prop:=match o with
 |some y=>NL y v
 |none=>False
theorem aq8 (y v:AV):yOK (some y) v=NL y v:=rfl
theorem Fe (hT:AQ P T) {f:FuncId}{args ay:List AV}{v:AV}{dst:Option Tmp}{drop:List Nat}{todo:List It}{st:St} (m:Nat) (rs:List Nat) (hp:Aw P f ay (fun y=>y=v)) (hz:kG (AV.cW (only (Heap.get ([]::st.fr::st.low)) (rs.map fun k=>(1,k))) (cQ (only (Heap.get ([]::st.fr::st.low)) (rs.map fun k=>(1,k))) 5) args) ay)
  (h:AJ P n Φ (run T m todo (st.gz dst drop v [] (cA st.fr rs::st.low)))):AJ P n Φ (.call f args dst drop todo st):=by
 unfold kG at hz
 split at hz
 ·rename_i z ei
  have hk:=gN hT m todo _ h
  refine DY (Aw.take 5 _ (hp.nl hz) ei (by simp)) ?_
  rintro y fr H ⟨rfl,rfl,e⟩
  rw[adS]at e
  obtain rfl:=(List.cons.inj e).2
  exact hk
 ·exact hz.elim
theorem Aw.nlr {f:FuncId}{args:List AV}{v:AV} (h:Aw P f args (fun y=>NL y v)):Aw P f args (fun y=>y=v):=by
 refine⟨h.1,fun fm w vs h1 h2=>Calls.mono (h.2 fm w vs h1 h2) ?_⟩
 rintro e w' ⟨u,y,fm',h3,h4,h5,h6,h7⟩
 exact⟨u,v,fm',h3,rfl,h5,h4.ok h6,h7⟩
theorem AS {f:List It->St->Ev}{b:Bool}{t t':List It}{s s':St}{ρ:Type}{A B:Option ρ}{r:ρ} (h:(bif b then A else B)=some r) (h1:b=true->A=some r->AJ P n Φ (f t s)) (h2:b=false->B=some r->AJ P n Φ (f t' s')):AJ P n Φ (two f b t s t' s'):=by
 cases b with
 |true=>exact h1 rfl h
 |false=>exact h2 rfl h
theorem Fi {f:List An->List (De×Rd)->St->Cz}{b:Bool}{os iU:List An}{acc iF:List (De×Rd)}{st ao:St}{ρ:Type}{A B:Option ρ}{r:ρ} (h:(bif b then A else B)=some r) (h1:b=true->A=some r->DG P T C (f os acc st)) (h2:b=false->B=some r->DG P T C (f iU iF ao)):DG P T C (qE f b os acc st iU iF ao):=by
 cases b with
 |true=>exact h1 rfl h
 |false=>exact h2 rfl h
theorem Bf {S E R:Type}{body:S->Option (AT S E R)}{k:Nat}{s0:S}{r:AT S E R} (hk:aj body k s0=some r) (hd:S->St) (ex:E->St) {b:SC}{id:Nat}{todo:List It}{st:St} (hw:Ah n st (hd s0))
  (hb:∀ s x (Bk Br:St->Prop),body s=some x->(∀ s' ao,x=.next s'->Ah n ao (hd s')->Bk ao)->(∀ s' ao,x=.brk s'->Ah n ao (ex s')->Br ao)->(∀ v,x=.ret v->r=.ret v)->
   AK P n Φ (.sc b::.back Bk::.al id::.back Br::todo) (hd s))
  (hx:∀ s',r=.brk s'->AK P n Φ todo (ex s')):AJ P n Φ (.loop b (.al id::todo) st):=AK.aoF hk hd ex hw hb hx
theorem IA (x:AV):NL x x=True:=eq_true (.refl x)
theorem IB (x:List AV):A1 x x=True:=eq_true (.refl x)
theorem GA (hT:AQ P T) {f:FuncId}{args ay:List AV}{v:AV}{dst:Option Tmp}{drop:List Nat}{todo:List It}{st:St} (m:Nat) (hp:Aw P f ay (fun y=>y=v)) (hz:kG (AV.aG (Heap.get ([]::st.fr::st.low)) args) ay)
  (hr:(AV.aN args).isEmpty || v.cU=true) (h:AJ P n Φ (run T m todo (st.gz dst drop v [] (st.fr::st.low)))):AJ P n Φ (.call f args dst drop todo st):=by
 unfold kG at hz
 split at hz
 ·rename_i z ei
  refine H0 hT m hp ei hz ?_ h
  simpa using hr
 ·exact hz.elim
theorem HS (hT:AQ P T) {f:FuncId}{args ay:List AV}{v:AV}{dst:Option Tmp}{drop:List Nat}{todo:List It}{st:St} (m:Nat) (hp:Aw P f ay (fun y=>y=v)) (hz:kG (AV.cW (Heap.get ([]::st.fr::st.low)) (cQ (Heap.get ([]::st.fr::st.low)) 5) args) ay)
  (hr:v.cU=true) (h:AJ P n Φ (run T m todo (st.gz dst drop v [] (st.fr::st.low)))):AJ P n Φ (.call f args dst drop todo st):=by
 unfold kG at hz
 split at hz
 ·rename_i z ei
  exact HY hT m hp ei hz hr h
 ·exact hz.elim
theorem GI {f:FuncId}{args ay:List AV}{v:AV}{o:An}{os:List An}{acc:List (De×Rd)}{st:St} (m:Nat) (hp:Aw P f ay (fun y=>y=v)) (hz:kG (AV.aG st.get args) ay)
  (hr:(AV.aN args).isEmpty || v.cU=true) (h:DG P T C (jv T m os ((⟨v,[]⟩,some (AV.aN args))::acc) (st.by o.dst [] ⟨v,[]⟩))):DG P T C (.call f args o os acc st):=by
 unfold kG at hz
 split at hz
 ·rename_i z ei
  refine H7 m hp ei hz ?_ h
  simpa using hr
 ·exact hz.elim
def wOK (o:Option St) (tm:List (Nat×AV)) (fr:Av) (low:Heap) (nx nt:Nat):Prop:=match o with
 |some s=>Ca s.tm tm/\BX s.fr fr/\s.low=low/\s.nx=nx/\s.nt=nt
 |none=>False
theorem aqY (s:St) (tm:List (Nat×AV)) (fr:Av) (low:Heap) (nx nt:Nat):wOK (some s) tm fr low nx nt=(Ca s.tm tm/\BX s.fr fr/\s.low=low/\s.nx=nx/\s.nt=nt):=rfl
theorem Ah.go {n:Nat}{st:St}{tm:List (Nat×AV)}{fr:Av}{low:Heap}{nx nt:Nat} (nu ks:List Nat) (bV:(decide ks.Nodup&&decide (ks.length<=nx))=true) (h:wOK (st.norm nu ks nx) tm fr low nx nt):Ah n st ⟨tm,fr,low,nx,nt⟩:=by
 unfold wOK at h
 split at h
 ·rename_i s hs
  simp only[A7,decide_eq_true_eq]at bV
  obtain⟨h1,h2,h3,h4,h5⟩:=h
  refine(Ah.norm hs bV.1 bV.2).trans ?_
  obtain⟨tm0,fr0,ar2,nx0,nt0⟩:=s
  simp only at h3 h4 h5
  subst h3 h4 h5
  exact Ah.nl h1 h2
 ·exact h.elim
theorem Iz (x:List (Nat×AV)):Ca x x=True:=eq_true (.refl x)
theorem Iy (x:Av):BX x x=True:=eq_true (.refl x)
theorem bind_some {α β:Type}{o:Option α}{f:α->Option β}{r:β} (h:o.bind f=some r):∃ x,o=some x/\f x=some r:=Option.bind_eq_some_iff.1 h
end
mutual
def AV.fz (k:Nat) (b:AH):AV->Option AV
 |.ptr 0 k' o=>if k'=k then (match b with|.box ys=>some (.aA ys.length [ys] 0 o)|_=>none) else some (.ptr 0 k' o)
 |.ptr (l+1) k' o=>some (.ptr (l+1) k' o)
 |.loc 0 k' e i n g=>if k'=k then (match b with|.arr _ esz es=>if esz=e/\es.length=g/\i+n<=g then some (.sl e ((es.drop i).take n)) else none|_=>none) else some (.loc 0 k' e i n g)
 |.loc (l+1) k' e i n g=>some (.loc (l+1) k' e i n g)
 |.bq 0 k' e i o g=>if k'=k then none else some (.bq 0 k' e i o g)
 |.bq (l+1) k' e i o g=>some (.bq (l+1) k' e i o g)
 |.bF 0 k' e o n=>if k'=k then none else some (.bF 0 k' e o n)
 |.bF (l+1) k' e o n=>some (.bF (l+1) k' e o n)
 |.fn f x y=>match AV.dz k b x,AV.dz k b y with
  |some x,some y=>some (.fn f x y)
  |_,_=>none
 |.bR t v=>(v.fz k b).map (.bR t)
 |.agg cs=>(AV.dz k b cs).map .agg
 |.ar vs=>(AV.dz k b vs).map .ar
 |.bool b=>some (.bool b)
 |.int k n=>some (.int k n)
 |.str s=>some (.str s)
 |.nil=>some .nil
 |.sl e es=>some (.sl e es)
 |.bG=>some .bG
 |.aA e es i o=>some (.aA e es i o)
 |.bP=>some .bP
 |.bS=>some .bS
 |.raw r_=>some (.raw r_)
 |.dead=>some .dead
def AV.dz (k:Nat) (b:AH):List AV->Option (List AV)
 |[]=>some []
 |x::l=>match x.fz k b,AV.dz k b l with
  |some x,some l=>some (x::l)
  |_,_=>none
end
theorem vm (k:Nat) (b:AH):∀ (cs ys:List AV),AV.dz k b cs=some ys->ys.length=cs.length/\∀ (i:Nat) (x:AV),cs[i]?=some x->∃ y,ys[i]?=some y/\x.fz k b=some y
 |[],ys,h=>by simp only[AV.dz,oE]at h;subst h;simp
 |x::l,ys,h=>by
  simp only[AV.dz]at h
  split at h
  ·rename_i a c ha hc
   obtain rfl:=oi h
   have ih:=vm k b l c hc
   refine⟨by simp[ih.1],?_⟩
   intro i z hz
   cases i with
   |zero=>simp only[BV,oE]at hz;subst hz;exact⟨a,by simp,ha⟩
   |succ i=>simp only[Cb]at hz ⊢;exact ih.2 i z hz
  ·cases h
theorem agU {k:Nat}{b:AH}{x y:AV} (h:x.fz k b=some y):y.flat=x.flat:=by
 cases x with
 |ptr l k' o=>
  cases l with
  |zero=>
   simp only[AV.fz]at h
   split at h
   ·split at h
    ·obtain rfl:=oi h;rfl
    ·cases h
   ·obtain rfl:=oi h;rfl
  |succ l=>simp only[AV.fz,oE]at h;subst h;rfl
 |loc l k' e i n g=>
  cases l with
  |zero=>
   simp only[AV.fz]at h
   split at h
   ·split at h
    ·split at h
     ·obtain rfl:=oi h;rfl
     ·cases h
    ·cases h
   ·obtain rfl:=oi h;rfl
  |succ l=>simp only[AV.fz,oE]at h;subst h;rfl
 |bq l k' e i o g=>
  cases l with
  |zero=>
   simp only[AV.fz]at h
   split at h
   ·cases h
   ·obtain rfl:=oi h;rfl
  |succ l=>simp only[AV.fz,oE]at h;subst h;rfl
 |bF l k' e o n=>
  cases l with
  |zero=>
   simp only[AV.fz]at h
   split at h
   ·cases h
   ·obtain rfl:=oi h;rfl
  |succ l=>simp only[AV.fz,oE]at h;subst h;rfl
 |fn f a c=>
  simp only[AV.fz]at h
  split at h
  ·obtain rfl:=oi h;rfl
  ·cases h
 |_=>
  first
  |(simp only[AV.fz,oE]at h;subst h;rfl)
  |(simp only[AV.fz,mS]at h;obtain⟨a,_,rfl⟩:=h;rfl)
section
variable [Md] {P:Program}{T:AM}{N0:Nat}{W0:World}{n:Nat}{fm:FM}{ts:List Ak}{H:Heap}{w:World}
noncomputable def jd (fm:FM) (w:World) (tg:Nat->Nat) (c:Option Nat):FM:=⟨fun b o=>if c=some b then w.cell? ⟨b,o,none⟩ else fm b o,fun b=>if c=some b then tg b else fm.t b⟩
theorem ada (h:HR N0 W0 fm ts H w) {k:Nat}{b0:AH} (hk:H.get 0 k=some b0):AZ fm (jd fm w (fI ts H) (bz (tb ts 0 k))):=by
 refine⟨fun b o v hv=>?_,fun b o v hv=>?_⟩
 ·unfold jd
  simp only
  split
  ·exact h.bO b o v hv
  ·exact hv
 ·unfold jd
  simp only
  rw[if_neg]
  intro e
  rw[h.dh 0 k b0 b o hk e]at hv
  cases hv
theorem HR.fz (h:HR N0 W0 fm ts H w) {k:Nat}{b:AH} (hk:H.get 0 k=some b) (hz:∀ ys,b=.box ys->AV.aG (fun _ _=>none) ys=some ys) {fY:List Ak}{x:AV}{v:Value} (hv:VR fm fY x v):
  fY=ts->∀ {y:AV},x.fz k b=some y->VR (jd fm w (fI ts H) (bz (tb ts 0 k))) ts y v:=by
 have hF:=ada h hk
 have bu:∀ c o u,bz (tb ts 0 k)=some c->w.cell? ⟨c,o,none⟩=some u->jd fm w (fI ts H) (bz (tb ts 0 k)) c o=some u:=by
  intro c o u hc hu
  unfold jd;simp only;rw[if_pos hc];exact hu
 have ov:∀ c,bz (tb ts 0 k)=some c->(jd fm w (fI ts H) (bz (tb ts 0 k))).t c=fI ts H c:=by
  intro c hc
  unfold jd;simp only;rw[if_pos hc]
 generalize jd fm w (fI ts H) (bz (tb ts 0 k))=fm' at hF bu ov
 induction hv with
 |bool b=>intro e y hy;simp only[AV.fz,oE]at hy;subst hy;exact .bool _
 |int k n=>intro e y hy;simp only[AV.fz,oE]at hy;subst hy;exact .int _ _
 |str s=>intro e y hy;simp only[AV.fz,oE]at hy;subst hy;exact .str _
 |nil=>intro e y hy;simp only[AV.fz,oE]at hy;subst hy;exact .nil
 |cd e a cap=>intro _ y hy;simp only[AV.fz,oE]at hy;subst hy;exact .cd _ _ _
 |sl es cb off esz cap u bU h1 h2 h3 h4 _=>intro _ y hy;simp only[AV.fz,oE]at hy;subst hy;exact(VR.sl es cb off esz cap u bU h1 h2 h3 h4 (ts:=ts)).mono hF (As.refl _)
 |@cH dL l k' esz i n g a cp ht hn ha=>
  rintro rfl y hy
  cases l with
  |zero=>
   simp only[AV.fz]at hy
   split at hy
   ·rename_i e;subst e
    have:=h.al 0 k' b hk
    rw[ht]at this
    cases this
   ·obtain rfl:=oi hy;exact .cH _ _ _ _ _ _ _ _ ht hn ha
  |succ l=>simp only[AV.fz,oE]at hy;subst hy;exact .cH _ _ _ _ _ _ _ _ ht hn ha
 |@cI dL l k' esz i n g a cp m' c ht ae hn ha=>
  rintro rfl y hy
  cases l with
  |zero=>
   simp only[AV.fz]at hy
   split at hy
   ·rename_i e;subst e
    have hb:=h.al 0 k' b hk
    rw[ht]at hb
    split at hy
    ·split at hy
     ·rename_i hc
      cases hb with
      |nil et esz=>have:=hc.2.1;simp at this;omega
      |arr et esz es c cap hN h=>have:=hc.2.1;omega
     ·cases hy
    ·cases hy
   ·obtain rfl:=oi hy;exact .cI _ _ _ _ _ _ _ _ _ _ ht ae hn ha
  |succ l=>simp only[AV.fz,oE]at hy;subst hy;exact .cI _ _ _ _ _ _ _ _ _ _ ht ae hn ha
 |@cv dL l k' esz a ht=>
  rintro rfl y hy
  cases l with
  |zero=>
   simp only[AV.fz]at hy
   split at hy
   ·split at hy
    ·split at hy
     ·simp only[List.drop_zero,List.take_zero,oE]at hy;subst hy;exact .cd _ _ _
     ·cases hy
    ·cases hy
   ·obtain rfl:=oi hy;exact .cv _ _ _ _ ht
  |succ l=>simp only[AV.fz,oE]at hy;subst hy;exact .cv _ _ _ _ ht
 |@loc dL l k' esz i n g c cap cp a ht hn bI hc ha=>
  rintro rfl y hy
  cases l with
  |succ l=>simp only[AV.fz,oE]at hy;subst hy;exact .loc _ _ _ _ _ _ _ _ _ _ ht hn bI hc ha
  |zero=>
   simp only[AV.fz]at hy
   split at hy
   ·rename_i e;subst e
    have hb:=h.al 0 k' b hk
    split at hy
    ·rename_i et aM es
     split at hy
     ·rename_i hh
      obtain⟨he,hlen,bB⟩:=hh
      subst he
      simp only[oE]at hy;subst hy
      rw[ht]at hb
      cases hb with
      |arr et _ es c cap hN hA=>
       obtain⟨cells,c1,c2,c3,c4,c5,c6,c7⟩:=hA
       by_cases hn0:n=0
       ·subst hn0
        simp only[List.take_zero]
        exact .cd _ _ _
       ·have gn:=ha (.inl (by omega))
        subst gn
        have hl:((es.drop i).take n).length=n:=by simp;omega
        have key:∀ (j:Nat) (cc:List AV) (o:Nat) (x:AV),((es.drop i).take n)[j]?=some cc->cc[o]?=some x->∃ u,cells[(i+j)*aM+o]?=some u/\x.flat=true/\VR fm [] x u:=by
         intro j cc o x hj ho
         have pQ:es[i+j]?=some cc:=by
          rw[BP]at hj
          split at hj
          ·rw[Cf]at hj;exact hj
          ·cases hj
         have ae:i+j<es.length:=(gS.1 pQ).1
         have b9:cc.length=aM:=c5 cc (AW pQ)
         have yS:o<aM:=by rw[<-b9];exact(gS.1 ho).1
         have aw:(i+j)*aM+o<cells.size:=by
          rw[c2]
          have:(i+j+1)*aM<=cap*aM:=BU _ (by omega)
          rw[Nat.add_mul]at this
          omega
         have yl:=Bv aw
         have:=c7 (i+j) cc o x _ pQ ho yl
         exact⟨_,yl,this.1,this.2⟩
        have fT:=VR.sl (fm:=fm') (ts:=dL) ((es.drop i).take n) c (i*aM) aM cp (fun j o=>(cells[(i+j)*aM+o]?).getD default) (by rw[hl];exact⟨bI,by omega⟩)
         (fun cc b9=>c5 cc (Cj (BY b9)))
         (by
          intro j cc o x hj ho
          obtain⟨u,hu,_,_⟩:=key j cc o x hj ho
          refine⟨bu c _ _ (by rw[ht];rfl) ?_,.inr ((ov c (by rw[ht];rfl)).trans (h.aqz hk (by rw[ht];rfl)))⟩
          simp only[World.cell?,c1]
          have:i*aM+(j*aM+o)=(i+j)*aM+o:=by rw[Nat.add_mul];omega
          rw[this,hu]
          simp)
         (fun j cc o x hj ho=>(key j cc o x hj ho).elim fun u hu=>hu.2.1)
         (by
          intro j cc o x hj ho
          obtain⟨u,hu,_,hv⟩:=key j cc o x hj ho
          rw[hu]
          exact hv.mono hF (As.refl _))
        rw[hl]at fT
        exact fT
     ·cases hy
    ·cases hy
   ·obtain rfl:=oi hy;exact .loc _ _ _ _ _ _ _ _ _ _ ht hn bI hc ha
 |@bF dL l k' esz o n c cp a ht hn ha=>
  rintro rfl y hy
  cases l with
  |zero=>
   simp only[AV.fz]at hy
   split at hy
   ·cases hy
   ·obtain rfl:=oi hy;exact .bF _ _ _ _ _ _ _ _ ht hn ha
  |succ l=>simp only[AV.fz,oE]at hy;subst hy;exact .bF _ _ _ _ _ _ _ _ ht hn ha
 |bG=>intro e y hy;simp only[AV.fz,oE]at hy;subst hy;exact .bG
 |@ptr dL l k' o c ht=>
  rintro rfl y hy
  cases l with
  |succ l=>simp only[AV.fz,oE]at hy;subst hy;exact .ptr _ _ _ _ ht
  |zero=>
   simp only[AV.fz]at hy
   split at hy
   ·rename_i e;subst e
    have hb:=h.al 0 k' b hk
    split at hy
    ·rename_i ys
     obtain rfl:=oi hy
     rw[ht]at hb
     cases hb with
     |box c _ hN hB=>
      obtain⟨cells,et,c1,c2,c3⟩:=hB
      have hzz:=hz ys rfl
      have g:=Go.Abs.lI _ _ _ hzz
      have one:∀ (i:Nat) (cc:List AV) (o:Nat) (x:AV),[ys][i]?=some cc->cc[o]?=some x->i=0/\cc=ys/\∃ u,cells[o]?=some u/\x.flat=true/\VR fm [] x u:=by
       intro i cc o x hi ho
       cases i with
       |succ i=>simp at hi
       |zero=>
        simp only[BV,oE]at hi
        subst hi
        have ae:o<cells.size:=by rw[c2];exact(gS.1 ho).1
        have rl:=Bv ae
        have h3:=c3 o x _ ho rl
        obtain⟨y,hy1,hy2⟩:=g.2 o x ho
        rw[ho]at hy1
        obtain rfl:=oi hy1
        have h4:=h.ai (N0:=N0) [] (by simpa using h3.2) (adg H.get _ _ hy2) (by rw[adh _ _ hy2];simp)
        rw[aa9]at h4
        exact⟨rfl,rfl,_,rl,h3.1,h4⟩
      have:=VR.aA (fm:=fm') (ts:=dL) [ys] 0 o c 0 ys.length (fun _ o=>(cells[o]?).getD default) (by intro cc b9;simp at b9;rw[b9])
       (by
        intro i cc o x hi ho
        obtain⟨rfl,rfl,u,hu,_,_⟩:=one i cc o x hi ho
        refine⟨bu c _ _ (by rw[ht];rfl) ?_,.inr (.inr ((ov c (by rw[ht];rfl)).trans (h.aeG hk (by rw[ht];rfl))))⟩
        simp only[World.cell?,c1,Nat.zero_mul,Cq,hu]
        simp)
       (fun i cc o x hi ho=>(one i cc o x hi ho).2.2.elim fun u hu=>hu.2.1)
       (by
        intro i cc o x hi ho
        obtain⟨rfl,rfl,u,hu,_,hv⟩:=one i cc o x hi ho
        rw[hu]
        exact hv.mono hF (As.refl _))
      simpa using this
    ·cases hy
   ·obtain rfl:=oi hy;exact .ptr _ _ _ _ ht
 |@ey dL l k' esz i o g a ht=>
  rintro rfl y hy
  cases l with
  |zero=>
   simp only[AV.fz]at hy
   split at hy
   ·cases hy
   ·obtain rfl:=oi hy;exact .ey _ _ _ _ _ _ _ ht
  |succ l=>simp only[AV.fz,oE]at hy;subst hy;exact .ey _ _ _ _ _ _ _ ht
 |@eA dL l k' esz i o g a m' c ht ae=>
  rintro rfl y hy
  cases l with
  |zero=>
   simp only[AV.fz]at hy
   split at hy
   ·cases hy
   ·obtain rfl:=oi hy;exact .eA _ _ _ _ _ _ _ _ _ ht ae
  |succ l=>simp only[AV.fz,oE]at hy;subst hy;exact .eA _ _ _ _ _ _ _ _ _ ht ae
 |@bq dL l k' esz i o g c cap ht=>
  rintro rfl y hy
  cases l with
  |zero=>
   simp only[AV.fz]at hy
   split at hy
   ·cases hy
   ·obtain rfl:=oi hy;exact .bq _ _ _ _ _ _ _ _ ht
  |succ l=>simp only[AV.fz,oE]at hy;subst hy;exact .bq _ _ _ _ _ _ _ _ ht
 |aA es i o cb off esz u h1 h2 h3 h4 _=>intro _ y hy;simp only[AV.fz,oE]at hy;subst hy;exact(VR.aA es i o cb off esz u h1 h2 h3 h4 (ts:=ts)).mono hF (As.refl _)
 |bP=>intro e y hy;simp only[AV.fz,oE]at hy;subst hy;exact .bP
 |fn f first cap vf vc h1 h2 _ _ iq iu=>
  rintro rfl y hy
  simp only[AV.fz]at hy
  split at hy
  ·rename_i a c ha hc
   obtain rfl:=oi hy
   have g1:=vm k b _ _ ha
   have g2:=vm k b _ _ hc
   refine .fn f a c vf vc (by rw[g1.1];exact h1) (by rw[g2.1];exact h2) ?_ ?_
   ·intro i x v hx hv
    have hi:i<first.length:=by rw[<-g1.1];exact(gS.1 hx).1
    obtain⟨y,hy,hu⟩:=g1.2 i _ (gG hi)
    rw[hx]at hy;obtain rfl:=oi hy
    exact iq i _ v (gG hi) hv rfl hu
   ·intro i x v hx hv
    have hi:i<cap.length:=by rw[<-g2.1];exact(gS.1 hx).1
    obtain⟨y,hy,hu⟩:=g2.2 i _ (gG hi)
    rw[hx]at hy;obtain rfl:=oi hy
    exact iu i _ v (gG hi) hv rfl hu
  ·cases hy
 |bS=>intro e y hy;simp only[AV.fz,oE]at hy;subst hy;exact .bS
 |raw r_ jo=>intro e y hy;simp only[AV.fz,oE]at hy;subst hy;exact .raw r_ jo
 |bR t x v _ ih=>
  rintro rfl y hy
  simp only[AV.fz,mS]at hy;obtain⟨z,ei,rfl⟩:=hy
  exact .bR t z v (ih rfl ei)
 |agg cs vs h1 h2 _ ih=>
  rintro rfl y hy
  simp only[AV.fz,mS]at hy;obtain⟨z,ei,rfl⟩:=hy
  have g:=vm k b _ _ ei
  refine .agg z vs (by rw[g.1];exact h1) ?_ ?_
  ·intro x hx
   obtain⟨i,hi⟩:=BD.1 hx
   have ae:i<cs.length:=by rw[<-g.1];exact(gS.1 hi).1
   obtain⟨y,hy,hu⟩:=g.2 i _ (gG ae)
   rw[hi]at hy;obtain rfl:=oi hy
   rw[agU hu]
   exact h2 _ (List.getElem_mem ae)
  ·intro i x v hx hv
   have ae:i<cs.length:=by rw[<-g.1];exact(gS.1 hx).1
   obtain⟨y,hy,hu⟩:=g.2 i _ (gG ae)
   rw[hx]at hy;obtain rfl:=oi hy
   exact ih i _ v (gG ae) hv rfl hu
 |ar xs vs h1 _ ih=>
  rintro rfl y hy
  simp only[AV.fz,mS]at hy;obtain⟨z,ei,rfl⟩:=hy
  have g:=vm k b _ _ ei
  refine .ar z vs (by rw[g.1];exact h1) ?_
  intro i x v hx hv
  have ae:i<xs.length:=by rw[<-g.1];exact(gS.1 hx).1
  obtain⟨y,hy,hu⟩:=g.2 i _ (gG ae)
  rw[hx]at hy;obtain rfl:=oi hy
  exact ih i _ v (gG ae) hv rfl hu
 |dead v=>intro e y hy;simp only[AV.fz,oE]at hy;subst hy;exact .dead v
def xS (k:Nat) (b:AH):List (Nat×AV)->List (Nat×AV)
 |[]=>[]
 |(t,x)::l=>(t,(x.fz k b).getD x)::xS k b l
def AH.fz (k:Nat) (b:AH):AH->AH
 |.arr et e es=>.arr et e es
 |.box cs=>.box ((AV.dz k b cs).getD cs)
def rf (k:Nat) (b:AH):Av->Av
 |[]=>[]
 |(j,x)::l=>if j=k then rf k b l else (j,AH.fz k b x)::rf k b l
theorem ahL (k:Nat) (b:AH):∀ (l:List (Nat×AV)) (t:Nat),look (xS k b l) t=(look l t).map fun x=>(x.fz k b).getD x
 |[],t=>rfl
 |(t0,x)::l,t=>by
  simp only[xS,look]
  split
  ·rfl
  ·exact ahL k b l t
theorem adV (k:Nat) (b:AH):∀ (l:Av) (j:Nat),look (rf k b l) j=if j=k then none else (look l j).map (AH.fz k b)
 |[],j=>by simp[rf,look]
 |(j0,x)::l,j=>by
  simp only[rf]
  by_cases h:j0=k
  ·rw[if_pos h,adV k b l j]
   by_cases hj:j=k
   ·simp[hj]
   ·have:¬ j0=j:=fun e=>hj (by rw[<-e,h])
    simp[hj,look,this]
  ·rw[if_neg h]
   simp only[look]
   by_cases hj:j0=j
   ·subst hj;simp[h]
   ·simp only[hj,if_false];exact adV k b l j
theorem HR.amT (h:HR N0 W0 fm ts H w) {k:Nat}{b:AH} (hk:H.get 0 k=some b) (hz:∀ ys,b=.box ys->AV.aG (fun _ _=>none) ys=some ys) {t:Option TB}{x:AH} (hx:BR fm ts w N0 t x):BR (jd fm w (fI ts H) (bz (tb ts 0 k))) ts w N0 t (AH.fz k b x):=by
 have hF:=ada h hk
 cases hx with
 |nil et esz=>exact .nil et esz
 |arr et esz es c cap hN hA=>exact .arr et esz es c cap hN (hA.mono hF rfl)
 |box c cs hN hB=>
  obtain⟨cells,et,c1,c2,c3⟩:=hB
  simp only[AH.fz]
  cases hf:AV.dz k b cs with
  |none=>exact .box c _ hN ⟨cells,et,c1,c2,fun o x v a b=>⟨(c3 o x v a b).1,(c3 o x v a b).2.mono hF (As.refl _)⟩⟩
  |some ys=>
   have g:=vm k b _ _ hf
   refine .box c _ hN ⟨cells,et,c1,by rw[c2];exact g.1.symm,?_⟩
   intro o y v hy hv
   have ae:o<cs.length:=by rw[<-g.1];exact(gS.1 hy).1
   obtain⟨y',jK,hu⟩:=g.2 o _ (gG ae)
   simp only[Option.getD_some]at hy
   rw[hy]at jK;obtain rfl:=oi jK
   have h3:=c3 o _ v (gG ae) hv
   exact⟨by rw[agU hu];exact h3.1,h.fz hk hz h3.2 rfl hu⟩
theorem Ah.fz {n:Nat}{tm:List (Nat×AV)}{fr:Av}{low:Heap}{nx nt:Nat} (k:Nat) {b:AH} (hk:look fr k=some b) (hz:∀ ys,b=.box ys->AV.aG (fun _ _=>none) ys=some ys):
  Ah n ⟨tm,fr,low,nx,nt⟩ ⟨xS k b tm,rf k b fr,low,nx,nt⟩:=by
 intro N0 W0 a w fm ts h
 have iR:Heap.get (fr::low) 0 k=some b:=by simpa [Heap.get] using hk
 have hF:=ada h.hr iR
 have eD:=h.hr.al 0 k b iR
 have src:∀ l j x,Heap.get (rf k b fr::low) l j=some x->∃ x0,Heap.get (fr::low) l j=some x0/\¬ (l=0/\j=k)/\(l=0->x=AH.fz k b x0)/\(l≠0->x=x0):=by
  intro l j x hx
  cases l with
  |zero=>
   simp only[Heap.get,adV]at hx
   split at hx
   ·cases hx
   ·rename_i hj
    simp only[mS]at hx
    obtain⟨x0,eG,rfl⟩:=hx
    exact⟨x0,eG,fun hh=>hj hh.2,fun _=>rfl,fun hh=>absurd rfl hh⟩
  |succ l=>exact⟨x,hx,fun hh=>absurd hh.1 (by omega),fun hh=>absurd hh (by omega),fun _=>rfl⟩
 refine⟨jd fm w (fI ts (fr::low)) (bz (tb ts 0 k)),ts,⟨⟨by simpa using h.hr.len,?_,?_,?_,?_,h.hr.dg,h.hr.size,h.hr.cT,?_⟩,?_,h.nx,h.size,h.dX⟩,⟨⟨hF,?_,?_,?_⟩,As.refl _,fun _ _ h=>h⟩⟩
 ·intro l j x hx
  obtain⟨x0,eG,bg,h1,h2⟩:=src l j x hx
  have hb:=h.hr.al l j x0 eG
  cases l with
  |zero=>
   rw[h1 rfl]
   exact h.hr.amT iR hz hb
  |succ l=>
   rw[h2 (by omega)]
   exact hb.mono hF (As.refl _) (fun _ _=>rfl)
 ·intro l j l' j' x x' c hx iS
  obtain⟨x0,eG,_⟩:=src l j x hx
  obtain⟨x1,kV,_⟩:=src l' j' x' iS
  exact h.hr.inj l j l' j' x0 x1 c eG kV
 ·intro c o v hv
  unfold jd at hv
  simp only at hv
  split at hv
  ·exact hv
  ·exact h.hr.bO c o v hv
 ·intro l j x c o hx hc
  obtain⟨x0,eG,bg,_⟩:=src l j x hx
  unfold jd
  simp only
  rw[if_neg]
  ·exact h.hr.dh l j x0 c o eG hc
  ·intro e
   exact bg (h.hr.inj l j 0 k x0 b c eG iR hc e)
 ·intro c o v hN hv ht
  unfold jd at hv ht
  simp only at hv ht
  split at hv
  ·rename_i e
   cases hq:tb ts 0 k with
   |none=>rw[hq]at e;simp[bz]at e
   |some y=>
    rw[hq]at eD e
    cases eD with
    |nil=>simp[bz]at e
    |box c' cs hN hB=>
     obtain⟨cells,et,h1,_⟩:=hB
     simp only[bz,oE]at e
     exact⟨cells,et,by rw[<-e];exact h1⟩
    |arr et esz es c' cap hN hA=>
     obtain⟨cells,h1,_⟩:=hA
     simp only[bz,oE]at e
     exact⟨cells,et,by rw[<-e];exact h1⟩
  ·rename_i e
   rw[if_neg e]at ht
   exact h.hr.dZ c o v hN hv ht
 ·intro t x hx
  simp only[ahL,mS]at hx
  obtain⟨x0,eG,rfl⟩:=hx
  obtain⟨v,hv,bp⟩:=h.tm t x0 eG
  refine⟨v,hv,?_⟩
  cases hf:x0.fz k b with
  |none=>exact bp.mono hF (As.refl _)
  |some y=>exact h.hr.fz iR hz bp rfl hf
 ·intro c o hc
  unfold jd
  simp only
  rw[if_neg]
  intro e
  have:=(eD.lt e).2
  omega
 ·intro c hc
  unfold jd
  simp only
  rw[if_neg]
  intro e
  have:=(eD.lt e).2
  omega
 ·intro c o v hv
  unfold jd at hv ⊢
  simp only at hv ⊢
  split at hv
  ·rename_i e;right;rw[if_pos e];exact aiU _ _ _
  ·exact .inl hv
end
end Go.Abs
namespace Go.Abs
open Go Go.RowKit
abbrev ab (x:Int):Int:=IntKind.i64.wrap x
def eI (x:Int):List AV:=[.int .i64 x]
def eB (x:Bool):List AV:=[.bool x]
def af (x:Int):List AV:=[.int .u8 x]
def eS (x:ByteArray):List AV:=[.str x]
def eL {α:Type} (sz:Nat) (E:α->List AV) (l:List α):List AV:=[.sl sz (l.map E)]
structure A2 (α:Type) where
 x0:α
 x1:α
structure A3 (α:Type) where
 x0:α
 x1:α
 x2:α
structure A4 (α:Type) where
 x0:α
 x1:α
 x2:α
 x3:α
def A2.c {α:Type} (E:α->List AV) (a:A2 α):List AV:=E a.x0++E a.x1
def A3.c {α:Type} (E:α->List AV) (a:A3 α):List AV:=E a.x0++(E a.x1++E a.x2)
def A4.c {α:Type} (E:α->List AV) (a:A4 α):List AV:=E a.x0++(E a.x1++(E a.x2++E a.x3))
def at? {α:Type} (l:List α) (i:Int):Option α:=if 0<=i/\i<l.length then l[i.toNat]? else none
def dM {α:Type} (b:Nat) (l x:List α):Option (List α):=if room (l.length+x.length) b then some (l++x) else none
def bY {α:Type} (l:List α) (lo hi:Int):Option (List α):=if (0<=lo/\lo<=hi)/\hi<=l.length then some ((l.drop lo.toNat).take (hi.toNat - lo.toNat)) else none
def oJ (y:Int):Option Unit:=if y=0 then none else some ()
def mk? (n:Int) (b:Nat):Option Unit:=if (0<=n/\n<=n)/\n*b<=140737488355328/\n<4611686018427387904 then some () else none
section
variable {α:Type}
theorem afn {l:List α}{i:Int}{x:α} (h:at? l i=some x):0<=i/\i<l.length/\l[i.toNat]?=some x:=by
 unfold at? at h
 split at h
 ·rename_i hh;exact⟨hh.1,hh.2,h⟩
 ·cases h
theorem aC {l:List α}{i:Int}{x:α} (h:at? l i=some x):fW i l.length=some i.toNat:=by
 obtain⟨h1,h2,_⟩:=afn h
 simp[fW,h1,h2]
theorem aD {β:Type} (E:α->β) {l:List α}{i:Int}{x:α} (h:at? l i=some x):(l.map E)[i.toNat]?=some (E x):=by
 obtain⟨_,_,h3⟩:=afn h
 simp[h3]
theorem uE {b:Nat}{l x y:List α} (h:dM b l x=some y):room (l.length+x.length) b/\y=l++x:=by
 unfold dM at h
 split at h
 ·rename_i hh;exact⟨hh,(oi h).symm⟩
 ·cases h
theorem aeg {y:Int}{u:Unit} (h:oJ y=some u):¬ y=0:=by
 unfold oJ at h
 split at h
 ·cases h
 ·assumption
theorem abV {l:List α}{lo hi:Int}{y:List α} (h:bY l lo hi=some y):(0<=lo/\lo<=hi/\hi<=l.length)/\y=(l.drop lo.toNat).take (hi.toNat - lo.toNat):=by
 unfold bY at h
 split at h
 ·rename_i hh;exact⟨⟨hh.1.1,hh.1.2,hh.2⟩,(oi h).symm⟩
 ·cases h
theorem alv {n:Nat}{lo hi:Int}{k k':IntKind} (h:0<=lo/\lo<=hi/\hi<=n):bounds n (some (.int k lo)) (some (.int k' hi))=some (lo.toNat,hi.toNat):=by
 have h1:0<=hi:=by omega
 have h2:lo<=max hi 0:=by omega
 simp[bounds,qS,qT,h1,h2,h.1,h.2.2]
theorem afC {n:Nat}{lo:Int}{k:IntKind} (h:0<=lo/\lo<=n/\(n:Int)<=n):bounds n (some (.int k lo)) none=some (lo.toNat,n):=by
 simp[bounds,qS,qT,h.1,h.2.1]
theorem afB {n:Nat}{hi:Int}{k':IntKind} (h:(0:Int)<=0/\0<=hi/\hi<=n):bounds n none (some (.int k' hi))=some (0,hi.toNat):=by
 simp[bounds,qS,qT,h.2.1,h.2.2]
theorem alu {n:Nat}:bounds n none none=some (0,n):=by simp[bounds,qS,qT]
def fG {α:Type} (b:Nat) (l:List α) (x:α):Option (List α):=dM b l [x]
theorem apG {b:Nat}{l y:List α}{x:α} (h:fG b l x=some y):room (l.length+1) b:=by
 have:=(uE h).1;simpa using this
theorem apF {β:Type} (E:α->β) {b:Nat}{l y:List α}{x:α} (h:fG b l x=some y):l.map E++[E x]=y.map E:=by
 rw[(uE h).2];simp
theorem aij {b:Nat}{l y:List α}{x:α} (h:fG b l x=some y):y.length=l.length+1:=by
 rw[(uE h).2];simp
theorem apH {β:Type} (E:α->β) {b:Nat}{l y:List α}{x:α} (h:fG b l x=some y):(y.map E).take (l.length+1)=y.map E:=by
 rw[CB];simp[aij h]
theorem akX {b:Nat}{l y x:List α} (h:dM b l x=some y):room (l.length+x.length) b:=(uE h).1
theorem akW {β:Type} (E:α->β) {b:Nat}{l y x:List α} (h:dM b l x=some y):l.map E++x.map E=y.map E:=by
 rw[(uE h).2];simp
theorem afh {b:Nat}{l y x:List α} (h:dM b l x=some y):y.length=l.length+x.length:=by
 rw[(uE h).2];simp
theorem akY {β:Type} (E:α->β) {b:Nat}{l y x:List α} (h:dM b l x=some y):(y.map E).take (l.length+x.length)=y.map E:=by
 rw[CB];simp[afh h]
def eW (n b:Nat):Option Unit:=if room n b then some () else none
theorem lh {n b:Nat}{u:Unit} (h:eW n b=some u):room n b:=by
 unfold eW at h
 split at h
 ·assumption
 ·cases h
def dJ {α:Type} (l:List α) (i:Int) (x:α):Option (List α):=if 0<=i/\i<l.length then some (l.set i.toNat x) else none
theorem lj {β:Type} (E:α->β) {l y:List α}{i:Int}{x:α} (h:dJ l i x=some y):(l.map E).set i.toNat (E x)=y.map E:=by
 unfold dJ at h
 split at h
 ·rw[<-oi h,List.map_set]
 ·cases h
theorem kt {l y:List α}{i:Int}{x:α} (h:dJ l i x=some y):y.length=l.length:=by
 unfold dJ at h
 split at h
 ·rw[<-oi h,C5]
 ·cases h
theorem lk {β:Type} (E:α->β) {l y:List α}{i:Int}{x:α} (h:dJ l i x=some y):(y.map E).take l.length=y.map E:=by
 rw[CB];simp[kt h]
theorem uj {l:List α}{lo hi:Int}{y:List α}{k k':IntKind} (h:bY l lo hi=some y):bounds l.length (some (.int k lo)) (some (.int k' hi))=some (lo.toNat,hi.toNat):=alv (abV h).1
theorem sf {l:List α}{lo:Int}{y:List α}{k:IntKind} (h:bY l lo l.length=some y):bounds l.length (some (.int k lo)) none=some (lo.toNat,l.length):=afC (abV h).1
theorem aae {l:List α}{hi:Int}{y:List α}{k:IntKind} (h:bY l 0 hi=some y):bounds l.length none (some (.int k hi))=some (0,hi.toNat):=afB (abV h).1
theorem qA {β:Type} (E:α->β) {l:List α}{lo hi:Int}{y:List α} (h:bY l lo hi=some y):((l.map E).drop lo.toNat).take (hi.toNat - lo.toNat)=y.map E:=by
 rw[(abV h).2,List.map_take,List.map_drop]
theorem wR {β:Type} (E:α->β) {l:List α}{lo:Int}{y:List α} (h:bY l lo l.length=some y):((l.map E).drop lo.toNat).take (l.length - lo.toNat)=y.map E:=by
 have:=qA E h;simpa using this
theorem aeF {β:Type} (E:α->β) {l:List α}{hi:Int}{y:List α} (h:bY l 0 hi=some y):((l.map E).drop 0).take (hi.toNat - 0)=y.map E:=by
 have:=qA E h;simpa using this
def vW (n:Nat) (lo:Int):Option Unit:=if 0<=lo/\lo<=n then some () else none
theorem aoG {n:Nat}{lo:Int}{k:IntKind}{u:Unit} (e:vW n lo=some u):bounds n (some (.int k lo)) none=some (lo.toNat,n):=by
 unfold vW at e
 split at e
 ·rename_i h;exact afC ⟨h.1,h.2,Int.le_refl _⟩
 ·cases e
theorem aoH {n:Nat}{lo:Int}{u:Unit} (e:vW n lo=some u):lo.toNat+(n - lo.toNat)<=n:=by
 unfold vW at e
 split at e
 ·omega
 ·cases e
def nq (n:Nat) (hi:Int):Option Unit:=if 0<=hi/\hi<=n then some () else none
theorem ahm {n:Nat}{hi:Int}{k:IntKind}{u:Unit} (e:nq n hi=some u):bounds n none (some (.int k hi))=some (0,hi.toNat):=by
 unfold nq at e
 split at e
 ·rename_i h;exact afB ⟨Int.le_refl _,h.1,h.2⟩
 ·cases e
theorem ahn {n:Nat}{hi:Int}{u:Unit} (e:nq n hi=some u):hi.toNat<=n:=by
 unfold nq at e
 split at e
 ·omega
 ·cases e
theorem uV {β:Type} (E:α->β) (l:List α) (a m:Nat):((l.map E).drop a).take m=((l.drop a).take m).map E:=by
 rw[List.map_take,List.map_drop]
theorem sP {β:Type} (E:α->β) (l:List α) (m:Nat):(l.map E).take m=(l.take m).map E:=by
 rw[List.map_take]
theorem ad2 {n:Int}{b:Nat}{u:Unit} (h:mk? n b=some u):(0<=n/\n<=n)/\n*b<=140737488355328/\n<4611686018427387904:=by
 unfold mk? at h
 split at h
 ·assumption
 ·cases h
theorem aqA {β:Type} (E:α->β) (l:List α):(l.map E).take l.length=l.map E:=by
 rw[CB (by simp)]
end
structure Co (cap:List AV):Prop where
 sh:∀ d,AV.de d cap=cap
 ai:∀ G,AV.aG G cap=some cap
 br:∀ G F,AV.cW G F cap=some cap
 refs:AV.aN cap=[]
 imp:∀ k,AV.iv k cap=cap
 aQ:∀ ks,AV.dI ks cap=some cap
 un:∀ d,AV.fZ d cap=some cap
theorem aeD (d:Nat):∀ a b:List AV,AV.de d (a++b)=AV.de d a++AV.de d b
 |[],b=>rfl
 |x::a,b=>by simp only[Bq,AV.de,aeD d a b]
section
variable {P:Program}{T:AM}{n:Nat}{Φ:Exit->St->Prop}
theorem Ag {rs:List ResultVar}{st:St}{v:AV} (h0:st.low=[]) (h1:yOK ((gM T st rs).bind (fun xs=>(bZ xs).ai st.get)) v):AJ P n (Dx T rs fun y=>NL y v) (.fin .ret st):=by
 unfold yOK at h1
 split at h1
 ·rename_i y hy
  obtain⟨xs,h3,h4⟩:=Option.bind_eq_some_iff.1 hy
  exact⟨h0,xs,y,h3,h4,h1⟩
 ·exact h1.elim
theorem AB {B:St->Prop}{st:St} (h:B st):AJ P n Φ (.back B st):=h
end
attribute [go_sem] jv doD aoU alC aqF aqE vG k9 abC ko tX Int.reduceEq Int.reduceLT Int.reduceLE List.set_cons_zero List.set_cons_succ List.replicate_succ List.replicate_zero CU Nat.zero_lt_succ Bool.not_not xS rf AV.fz AV.dz AH.fz Option.getD_some Option.getD_none Nat.sub_zero we ub ly xE kN xU nd n4 jR kX kW AV.br AV.cW cQ only List.contains_cons List.contains_nil BC decide_false Bool.or_true Bool.or_false Bool.and_true BO Bool.and_false Bool.false_and Prod.mk.injEq alu aqA aeD aqY art aq8 IA IB Iz Iy List.isEmpty_nil List.isEmpty_cons Bool.true_or Bool.false_or eI eB af eS eL A2.c A3.c A4.c St.norm ug lg AV.aQ AV.dI qy idx AH.aQ Cq Nat.add_zero aa1 List.reverse_cons List.reverse_nil Dg
section
variable [Md] {P:Program}{T:AM}{n:Nat}{Φ:Exit->St->Prop}
def fN (o:Option (List AV)) (f:Option Av) (dD:List AV) (fr0:Av):Prop:=o=some dD/\f=some fr0
theorem CG (hT:AQ P T) {f:FuncId}{args dD:List AV}{fr0:Av}{y:AV}{fr:Av}{dst:Option Tmp}{drop:List Nat}{todo:List It}{st:St} (m:Nat) (rs gs:List Nat) (hp:A6 P f dD fr0 (fun y' aU=>y'=y/\aU=fr))
  (hz:fN (kN gs (only (Heap.get ([]::st.fr::st.low)) (rs.map fun k=>(1,k))) (cQ (only (Heap.get ([]::st.fr::st.low)) (rs.map fun k=>(1,k))) 5) args) (nd (cA st.fr rs) 0 gs) dD fr0) (bV:(decide gs.Nodup&&decide (gs.length<=16))=true)
  (h:AJ P n Φ (run T m todo (st.gz dst drop y fr (cA (cA st.fr rs) gs::st.low)))):AJ P n Φ (.call f args dst drop todo st):=by
 have hk:=gN hT m todo _ h
 refine DY (A6.used 5 rs gs hp hz.1 hz.2 bV) ?_
 rintro y' aU H' ⟨⟨rfl,rfl⟩,rfl⟩
 exact hk
theorem A6.own {f:FuncId}{args:List AV}{fr0:Av}{sz et:Nat}{ls:List (List AV)}
  (hp:A6 P f args fr0 (fun y fr=>∃ m g es,y=.loc 0 0 sz 0 m g/\fr=[(0,.arr et sz es)]/\es.length=g/\m<=g/\es.take m=ls)):
  A6 P f args fr0 (fun y fr=>y=.loc 0 0 sz 0 ls.length ls.length/\fr=[(0,.arr et sz ls)]):=by
 refine⟨hp.1,fun H N0 W0 fm t ts w vs hH ht hv=>Calls.mono (hp.2 H N0 W0 fm t ts w vs hH ht hv) ?_⟩
 rintro e w' ⟨v,y,aU,fm',t',ts',rfl,⟨m,g,es,rfl,rfl,hg,hm,rq⟩,bX,bp,bo,lQ,bx,je⟩
 have hlen:ls.length=m:=by rw[<-rq,A9];omega
 have hb:=bX.al 0 0 _ (show Heap.get ([(0,AH.arr et sz es)]::H) 0 0=some (.arr et sz es) by rfl)
 obtain⟨x,kV,hx2,hx3⟩:∃ x:TB,BR fm' [] w' N0 (some x) (.arr et sz ls)/\bz (some x)=bz (tb (t'::ts') 0 0)/\∀ dL:List Ak,tb dL 0 0=some x->VR fm' dL (.loc 0 0 sz 0 ls.length ls.length) v:=by
  generalize jJ:tb (t'::ts') 0 0=tt at hb
  cases hb with
  |nil=>
   simp at rq
   subst rq
   refine⟨.arr 0 none,.nil _ _,rfl,?_⟩
   intro dL h1
   cases bp with
   |cH _ _ _ _ _ _ a cp h hn ha=>rw[jJ]at h;cases h
   |cI _ _ _ _ _ _ a cp m' c h ae hn ha=>rw[jJ]at h;cases h;simp at ae
   |cv _ _ _ a h=>exact .cv _ _ _ _ h1
   |loc _ _ _ _ _ _ c cap cp a h bB bI b9 ha=>rw[jJ]at h;cases h
  |arr _ _ _ c cap hN hA=>
   obtain⟨cells,c1,c2,c3,c4,c5,c6,c7⟩:=hA
   refine⟨.arr ls.length (some (c,cap)),.arr et sz ls c cap hN ⟨cells,c1,c2,by omega,c4,?_,c6,?_⟩,rfl,?_⟩
   ·rw[<-rq];exact fun d hd=>c5 d (BY hd)
   ·intro i cc o x v hi ho hc
    rw[<-rq,BP]at hi
    split at hi
    ·exact c7 i cc o x v hi ho hc
    ·cases hi
   ·intro dL h1
    cases bp with
    |cH _ _ _ _ _ _ a cp h hn ha=>rw[jJ]at h;cases h
    |cI _ _ _ _ _ _ a cp m' c h ae hn ha=>
     rw[jJ]at h
     simp only[oE,TB.arr.injEq]at h
     omega
    |cv _ _ _ a h=>rw[jJ]at h;simp at h
    |loc _ _ _ _ _ _ c' uO cp a h bB bI b9 ha=>
     rw[jJ]at h
     simp only[oE,TB.arr.injEq,Prod.mk.injEq]at h
     obtain⟨_,rfl,rfl⟩:=h
     rw[hlen]at h1 ⊢
     exact .loc _ _ _ _ _ _ c cap cp a h1 (by omega) bI b9 ha
 have src:∀ l k b,Heap.get ([(0,AH.arr et sz ls)]::H) l k=some b->(l=0/\k=0/\b=.arr et sz ls)\/(l≠0/\Heap.get ([(0,AH.arr et sz es)]::H) l k=some b):=by
  intro l k b hg
  cases l with
  |zero=>
   simp only[Heap.get,look]at hg
   split at hg
   ·rename_i e;exact .inl ⟨rfl,e.symm,(oi hg).symm⟩
   ·cases hg
  |succ l=>exact .inr ⟨by omega,by simpa [Heap.get] using hg⟩
 have ah2:Heap.get ([(0,AH.arr et sz es)]::H) 0 0=some (.arr et sz es):=rfl
 have hT:tb ((fun k=>if k=0 then some x else none)::ts') 0 0=some x:=rfl
 refine⟨v,_,_,fm',fun k=>if k=0 then some x else none,ts',rfl,⟨rfl,rfl⟩,⟨by have:=bX.len;simpa using this,?_,?_,bX.bO,?_,bX.dg,bX.size,bX.cT,bX.dZ⟩,hx3 _ hT,bo,lQ,bx,fun k hk=>by show (if k=0 then some x else none)=none;rw[if_neg (by omega)]⟩
 ·intro l k b hg
  rcases src l k b hg with ⟨rfl,rfl,rfl⟩|⟨hl,bm⟩
  ·rw[hT]
   exact kV.mono (AZ.refl _) (As.nil _) (fun _ _=>rfl)
  ·obtain⟨l,rfl⟩:∃ q,l=q+1:=⟨l - 1,by omega⟩
   have:=bX.al (l+1) k b bm
   simpa [tb] using this
 ·intro l1 k1 l2 k2 b1 b2 c g1 g2 t1 t2
  have conv:∀ l k b c,Heap.get ([(0,AH.arr et sz ls)]::H) l k=some b->bz (tb ((fun k=>if k=0 then some x else none)::ts') l k)=some c->∃ b',Heap.get ([(0,AH.arr et sz es)]::H) l k=some b'/\bz (tb (t'::ts') l k)=some c:=by
   intro l k b c g t
   rcases src l k b g with ⟨rfl,rfl,rfl⟩|⟨hl,bm⟩
   ·rw[hT,hx2]at t;exact⟨_,ah2,t⟩
   ·obtain⟨l,rfl⟩:∃ q,l=q+1:=⟨l - 1,by omega⟩
    exact⟨b,bm,by simpa [tb] using t⟩
  obtain⟨b1',g1',t1'⟩:=conv l1 k1 b1 c g1 t1
  obtain⟨b2',g2',t2'⟩:=conv l2 k2 b2 c g2 t2
  exact bX.inj l1 k1 l2 k2 b1' b2' c g1' g2' t1' t2'
 ·intro l k b c o g t
  rcases src l k b g with ⟨rfl,rfl,rfl⟩|⟨hl,bm⟩
  ·rw[hT,hx2]at t;exact bX.dh 0 0 _ c o ah2 t
  ·obtain⟨l,rfl⟩:∃ q,l=q+1:=⟨l - 1,by omega⟩
   exact bX.dh (l+1) k b c o bm (by simpa [tb] using t)
def mN (fr:Av) (sz et:Nat) (ls:List (List AV)):Option AV->Prop
 |some (.loc 0 k sz' 0 m g)=>sz'=sz/\(match look fr k with
  |some (.arr jA abX es)=>jA=et/\abX=sz/\es.length=g/\m<=g/\es.take m=ls
  |_=>False)
 |_=>False
theorem C8 {rs:List ResultVar}{H:Heap}{st:St}{sz et:Nat}{ls:List (List AV)} (h0:st.low=H) (h1:mN st.fr sz et ls ((gM T st rs).map bZ)):
  AJ P n (FC T rs H (fun y fr=>∃ m g es,y=.loc 0 0 sz 0 m g/\fr=[(0,.arr et sz es)]/\es.length=g/\m<=g/\es.take m=ls)) (.fin .ret st):=by
 unfold mN at h1
 split at h1
 ·rename_i k sz' m g hr
  rw[mS]at hr
  obtain⟨xs,h2,h3⟩:=hr
  obtain⟨rfl,h4⟩:=h1
  split at h4
  ·rename_i jA abX es hk
   obtain⟨rfl,rfl,h5,h6,h7⟩:=h4
   refine⟨xs,h2,?_⟩
   rw[h3]
   exact .own [k] (.loc 0 0 abX 0 m g) [(0,.arr jA abX es)] (by simp) (by simp) (by simp[AV.aQ,qy,idx]) (by simp[lg,hk,AH.aQ]) ⟨h0,m,g,es,rfl,rfl,h5,h6,h7⟩
  ·exact h4.elim
 ·exact h1.elim
end
attribute [go_sem] Cl
section
variable [Md] {P:Program}{T:AM}{n:Nat}{Φ:Exit->St->Prop}
end
variable [Md]
theorem A6.ao3 {P:Program}{f:FuncId}{args:List AV}{R:AV->Prop} (hp:Aw P f args R) (hz:AV.aG (fun _ _=>none) args=some args):A6 P f args [] (fun y fr=>R y/\fr=[]):=by
 refine⟨hp.1,fun H N0 W0 fm t ts w vs hH ht hv=>?_⟩
 refine Calls.mono (hp.2 fm w vs hH.bO (hH.pe hv hz)) ?_
 rintro e w' ⟨v,y,fm',rfl,hR,bB,bp,bo,hb⟩
 exact⟨v,y,[],fm',t,ts,rfl,⟨hR,rfl⟩,hH.up hb bo bB,bp.mono (AZ.refl _) (As.nil _),bo.low hH.size,As.refl _,fun _ _ h=>h,ht⟩
def adn (o:Option AV) (f:Option Av) (y:AV) (fr:Av):Prop:=o=some y/\f=some fr
theorem GC {P:Program}{T:AM}{n:Nat}{rs:List ResultVar}{H:Heap}{st:St}{e:Exit}{y:AV}{fr:Av} (ks:List Nat) (he:e=.ret\/e=.normal) (h0:st.low=H) (hn:(decide ks.Nodup&&decide (ks.length<=16))=true)
  (h1:adn ((gM T st rs).bind fun xs=>(bZ xs).aQ ks) (lg ks st.fr 0 ks) y fr):AJ P n (FC T rs H (fun y' aU=>y'=y/\aU=fr)) (.fin e st):=by
 obtain⟨h1,h2⟩:=h1
 obtain⟨xs,h3,h4⟩:=Option.bind_eq_some_iff.1 h1
 simp only[A7,decide_eq_true_eq]at hn
 have:∃ xs,gM T st rs=some xs/\D5 (fun y' aU H'=>H'=H/\y'=y/\aU=fr) (bZ xs) st:=
  ⟨xs,h3,.own ks y fr hn.1 hn.2 h4 h2 ⟨h0,rfl,rfl⟩⟩
 rcases he with rfl|rfl<;>exact this
theorem HW {P:Program}{n:Nat}{Φ:Exit->St->Prop}{f:FuncId}{args dD:List AV}{fr0:Av}{y:AV}{fr:Av}{dst:Option Tmp}{drop:List Nat}{todo:List It}{st:St} (rs gs:List Nat) (hp:A6 P f dD fr0 (fun y' aU=>y'=y/\aU=fr))
  (hz:fN (kN gs (only (Heap.get ([]::st.fr::st.low)) (rs.map fun k=>(1,k))) (cQ (only (Heap.get ([]::st.fr::st.low)) (rs.map fun k=>(1,k))) 5) args) (nd (cA st.fr rs) 0 gs) dD fr0) (bV:(decide gs.Nodup&&decide (gs.length<=16))=true)
  (h:AK P n Φ todo (st.gz dst drop y fr (cA (cA st.fr rs) gs::st.low))):AJ P n Φ (.call f args dst drop todo st):=by
 refine DY (A6.used 5 rs gs hp hz.1 hz.2 bV) ?_
 rintro y' aU H' ⟨⟨rfl,rfl⟩,rfl⟩
 exact h
end Go.Abs
namespace Go.Abs
attribute [go_sem] List.all_nil List.all_cons List.map_replicate
end Go.Abs
namespace Go.Abs
open Go Go.RowKit
def Reads (B:Nat) (P:Program) (t:TypeId) {α:Type} (E:α->List AV) (Q:α->Prop):Prop:=
 ∀ (w:World) (H:Type) (enc:TypeId×Value->H) (fuel:Nat) (cs:List Value) (x:DataW H×List MemPlace),
  DataW.trod enc P w 0 (fun _=>true) true fuel t cs=some x->(∀ n∈x.1.weights P t,n<=B)->∃ a,Q a/\Au (pG w) [] (E a) cs/\(∀ y∈E a,y.flat=true)
def gZ (n:Int):Prop:=-9223372036854775808<=n/\n<=9223372036854775807
section
variable {B:Nat}{P:Program}{t:TypeId}
theorem Au.one {fm:FM}{ts:List Ak}{x:AV}{v:Value} (h:VR fm ts x v):Au fm ts [x] [v]:=by
 refine⟨rfl,?_⟩
 intro i a b h1 h2
 cases i with
 |zero=>cases h1;cases h2;exact h
 |succ i=>simp at h1
theorem Reads.int (ht:P.underlying t=some (.int .i64)):Reads B P t eI gZ:=by
 intro w H enc fuel cs x h aw
 cases fuel with
 |zero=>simp[DataW.trod]at h
 |succ n=>
  rw[DataW.trod_step]at h
  unfold DataW.trodStep at h
  rw[ht]at h
  split at h
  case h_2 k k' m e=>
   cases e
   split at h
   ·rename_i hk
    obtain⟨rfl,hw⟩:=hk
    refine⟨m,?_,Au.one (.int _ _),by simp[eI,AV.flat]⟩
    simpa [Lit.wf,IntKind.min,IntKind.max,IntKind.signed,IntKind.bits,gZ] using hw
   ·cases h
  all_goals first|(cases h;done)|(rename_i e;cases e;done)
theorem Reads.bool (ht:P.underlying t=some .bool):Reads B P t eB (fun _=>True):=by
 intro w H enc fuel cs x h aw
 cases fuel with
 |zero=>simp[DataW.trod]at h
 |succ n=>
  rw[DataW.trod_step]at h
  unfold DataW.trodStep at h
  rw[ht]at h
  split at h
  case h_1 b e=>exact⟨b,trivial,Au.one (.bool _),by simp[eB,AV.flat]⟩
  all_goals first|(cases h;done)|(rename_i e;cases e;done)
theorem Reads.string (ht:P.underlying t=some .string):Reads B P t eS (fun s=>s.size<=Go.maxLen):=by
 intro w H enc fuel cs x h aw
 cases fuel with
 |zero=>simp[DataW.trod]at h
 |succ n=>
  rw[DataW.trod_step]at h
  unfold DataW.trodStep at h
  rw[ht]at h
  split at h
  case h_4 s e=>
   split at h
   ·rename_i hk
    exact⟨s,hk,Au.one (.str _),by simp[eS,AV.flat]⟩
   ·cases h
  all_goals first|(cases h;done)|(rename_i e;cases e;done)
theorem acI {w:World}{a:Addr}{n:Nat}{cs:List Value} (h:w.cells? 0 a n=some cs):cs.length=n/\∀ o,o<n->∃ v,cs[o]?=some v/\w.cell? (a.add o)=some v:=by
 unfold World.cells? at h
 rw[if_pos (Nat.zero_le _)]at h
 have hl:cs.length=n:=by simpa using mapM_some_length h
 refine⟨hl,fun o ho=>?_⟩
 have hg:=mapM_some_get h o o (by simp[ho])
 have:o<cs.length:=by omega
 rw[gG this]at hg ⊢
 exact⟨_,rfl,hg⟩
theorem ajp {H:Type}{e:TypeId}:∀ {ds:List (DataW H)}{d:DataW H},d∈ds->∀ n∈d.weights P e,n∈DataW.weightsAll P e ds
 |d0::ds,d,h,n,hn=>by
  simp only[DataW.weightsAll,Ba]
  rcases BE.1 h with rfl|h
  ·exact .inl hn
  ·exact .inr (ajp h n hn)
theorem Reads.slice {α:Type}{e:TypeId}{sz bt:Nat}{E:α->List AV}{Q:α->Prop} (ht:P.underlying t=some (.slice e)) (hs:P.cellsOf e=sz) (hbt:P.bytesOf e=bt) (h0:0<sz) (he:Reads B P e E Q):
  Reads B P t (eL sz E) (fun l=>l.length<=Go.maxLen/\l.length*bt<=B/\∀ a∈l,Q a):=by
 intro w H enc fuel cs x h aw
 cases fuel with
 |zero=>simp[DataW.trod]at h
 |succ n=>
  rw[DataW.trod_step]at h
  unfold DataW.trodStep at h
  rw[ht]at h
  split at h
  case h_7 e2 hq=>exact⟨[],⟨by simp,by simp,by simp⟩,Au.one (.cd _ _ _),by simp[eL,AV.flat]⟩
  case h_8 e2 a len cap hq2=>
   cases hq2
   simp only at h
   split at h
   ·rename_i hc
    simp only[mS,Option.bind_eq_some_iff]at h
    obtain⟨elems,fP,rest,_,rfl⟩:=h
    simp only[DataW.weights,ht]at aw
    have hlen:elems.length=len:=by simpa using mapM_some_length fP
    have each:∀ i,i<len->∃ b:α,Q b/\∃ cs',w.cells? 0 (a.add (i*P.cellsOf e)) (P.cellsOf e)=some cs'/\Au (pG w) [] (E b) cs'/\∀ y∈E b,y.flat=true:=by
     intro i hi
     have hg:=mapM_some_get fP i i (by simp[hi])
     have ae:i<elems.length:=by omega
     rw[gG ae,Option.bind_eq_some_iff]at hg
     obtain⟨cs',h1,h2⟩:=hg
     obtain⟨b,hq,hv,hf⟩:=he w H enc n cs' _ h2 (fun m hm=>aw m (by
      simp only[BE,Ba]
      exact .inr (.inl (ajp (List.mem_map.2 ⟨elems[i],List.getElem_mem ae,rfl⟩) m hm))))
     exact⟨b,hq,cs',h1,hv,hf⟩
    have all:∀ m,m<=len->∃ l:List α,l.length=m/\∀ i (hi:i<l.length),Q l[i]/\∃ cs',w.cells? 0 (a.add (i*P.cellsOf e)) (P.cellsOf e)=some cs'/\Au (pG w) [] (E l[i]) cs'/\∀ y∈E l[i],y.flat=true:=by
     intro m
     induction m with
     |zero=>exact fun _=>⟨[],rfl,fun i hi=>by simp at hi⟩
     |succ m ih=>
      intro hm
      obtain⟨l,hl,h1⟩:=ih (by omega)
      obtain⟨b,hb⟩:=each m (by omega)
      refine⟨l++[b],by simp[hl],fun i hi=>?_⟩
      by_cases him:i<l.length
      ·rw[List.getElem_append_left him];exact h1 i him
      ·have:i=m:=by simp at hi;omega
       subst this
       have bQ:(l++[b])[i]=b:=by
        rw[List.getElem_append_right (by omega)];simp[hl]
       rw[bQ]
       exact⟨hb.1,hb.2⟩
    obtain⟨l,hl,iQ⟩:=all len (Bd _)
    have hby:l.length*bt<=B:=by
     have h1:=aw _ (List.mem_cons_self ..)
     simp only[Bg]at h1
     rw[hbt]at h1
     have h2:l.length*bt<=(elems.length+rest.length)*bt:=BU _ (by omega)
     omega
    refine⟨l,⟨by rw[hl];omega,hby,?_⟩,?_,by simp[eL,AV.flat]⟩
    ·intro b hb
     obtain⟨i,hi,rfl⟩:=List.getElem_of_mem hb
     exact(iQ i hi).1
    ·by_cases hz:len=0
     ·subst hz
      have:l=[]:=List.eq_nil_of_length_eq_zero hl
      subst this
      exact Au.one (.cd _ _ _)
     ·
      have ou:a.spot=none:=by
       obtain⟨_,cs',h1,_,_⟩:=iQ 0 (by omega)
       obtain⟨_,h3⟩:=acI h1
       obtain⟨v,_,h4⟩:=h3 0 (by omega)
       simp only[Nat.zero_mul,Addr.add,if_true]at h4
       unfold World.cell? at h4
       split at h4
       ·split at h4
        ·cases h4
        ·rename_i hh;simpa using hh
       ·cases h4
      have jE:∀ k,a.add k=⟨a.block,a.off+k,none⟩:=by
       intro k
       unfold Addr.add
       split
       ·rename_i h;subst h;obtain⟨b,o,s⟩:=a;simp only at ou;subst ou;rfl
       ·rfl
      have bu:∀ i (hi:i<l.length) o x,(E l[i])[o]?=some x->∃ v,w.cell? ⟨a.block,a.off+(i*sz+o),none⟩=some v/\VR (pG w) [] x v/\x.flat=true:=by
       intro i hi o y hy
       obtain⟨_,cs',h1,h2,h3⟩:=iQ i hi
       obtain⟨h4,h5⟩:=acI h1
       have ho:o<P.cellsOf e:=by
        rw[<-h4,<-h2.1];exact(gS.1 hy).1
       obtain⟨v,h6,h7⟩:=h5 o ho
       refine⟨v,?_,h2.2 o y v hy h6,h3 y (AW hy)⟩
       rw[jE]at h7
       have:Addr.add ⟨a.block,a.off+i*P.cellsOf e,none⟩ o=⟨a.block,a.off+(i*sz+o),none⟩:=by
        unfold Addr.add
        split
        ·rename_i h;subst h;rw[hs];rfl
        ·simp only[Addr.mk.injEq,true_and,and_true];rw[hs];omega
       rwa [this]at h7
      have ha:a=⟨a.block,a.off,none⟩:=by obtain⟨b,o,s⟩:=a;simp only at ou;subst ou;rfl
      have anB:(l.map E).length=len:=by simp[hl]
      have key:VR (pG w) [] (.sl sz (l.map E)) (.slice (some ⟨a.block,a.off,none⟩) (l.map E).length cap):=by
       refine .sl (l.map E) a.block a.off sz cap (fun i o=>(w.cell? ⟨a.block,a.off+(i*sz+o),none⟩).getD default) ⟨by omega,by omega⟩ ?_ ?_ ?_ ?_
       ·intro c hc
        simp only[List.mem_map]at hc
        obtain⟨b,hb,rfl⟩:=hc
        obtain⟨i,hi,rfl⟩:=List.getElem_of_mem hb
        obtain⟨_,cs',h1,h2,_⟩:=iQ i hi
        rw[h2.1,(acI h1).1,hs]
       all_goals
        intro i c o y h1 h2
        simp only[Bx,mS]at h1
        obtain⟨b,h3,rfl⟩:=h1
        obtain⟨hi,rfl⟩:=gS.1 h3
        obtain⟨v,h4,h5,h6⟩:=bu i hi o y h2
       ·refine⟨?_,.inl rfl⟩
        show w.cell? _=_
        rw[h4];rfl
       ·exact h6
       ·simp only[h4,Option.getD_some];exact h5
      rw[anB,<-ha]at key
      exact Au.one key
   ·cases h
  all_goals first|(cases h;done)|(rename_i e;cases e;done)
def Bj (B:Nat) (P:Program) (l:List (Nat×TypeId)) (off tot:Nat) {α:Type} (E:α->List AV) (Q:α->Prop):Prop:=
 ∀ (w:World) (H:Type) (enc:TypeId×Value->H) (fuel:Nat) (cs:List Value) (xs:List (DataW H×List MemPlace)),cs.length=tot->
  l.mapM (fun f=>DataW.trod enc P w 0 (fun _=>true) true fuel f.2 ((cs.drop f.1).take (P.cellsOf f.2)))=some xs->(∀ n∈DataW.weightsEach P (l.map (·.2)) (xs.map (·.1)),n<=B)->∃ a,Q a/\Au (pG w) [] (E a) (cs.drop off)/\(∀ y∈E a,y.flat=true)
theorem Bj.nil {off tot:Nat} (h:tot<=off):Bj B P [] off tot (fun _:Unit=>[]) (fun _=>True):=by
 intro w H enc fuel cs xs hl _ _
 refine⟨(),trivial,⟨?_,?_⟩,by simp⟩
 ·simp;omega
 ·intro i x v h1;simp at h1
theorem Bj.cons {α β:Type}{f:Nat×TypeId}{l:List (Nat×TypeId)}{off sz off' tot:Nat}{E:α->List AV}{Q:α->Prop}{E':β->List AV}{Q':β->Prop} (ho:f.1=off) (hs:P.cellsOf f.2=sz) (oj:off+sz=off') (hr:Reads B P f.2 E Q) (hl:Bj B P l off' tot E' Q'):
  Bj B P (f::l) off tot (fun p:α×β=>E p.1++E' p.2) (fun p=>Q p.1/\Q' p.2):=by
 intro w H enc fuel cs xs hc h aw
 rw[List.mapM_cons]at h
 simp only[Option.pure_def,Option.bind_eq_bind,Option.bind_eq_some_iff]at h
 obtain⟨x,h1,ys,h2,hx⟩:=h
 obtain rfl:=oi hx
 simp only[List.map_cons,DataW.weightsEach,Ba]at aw
 obtain⟨a,q1,v1,f1⟩:=hr w H enc fuel _ _ h1 (fun n hn=>aw n (.inl hn))
 obtain⟨b,q2,v2,f2⟩:=hl w H enc fuel cs ys hc h2 (fun n hn=>aw n (.inr hn))
 refine⟨(a,b),⟨q1,q2⟩,?_,?_⟩
 ·have:cs.drop off=(cs.drop f.1).take (P.cellsOf f.2)++cs.drop off':=by
   rw[ho,hs,<-oj,<-List.drop_drop,C2]
  rw[this]
  exact v1.append v2
 ·intro y hy
  rcases Ba.1 hy with hy|hy
  ·exact f1 y hy
  ·exact f2 y hy
theorem adY {α β γ:Type} (g:α->β) (f:β->Option γ):∀ l:List α,(l.map g).mapM f=l.mapM (fun x=>f (g x))
 |[]=>rfl
 |x::l=>by rw[List.map_cons,List.mapM_cons,List.mapM_cons,adY g f l]
theorem Reads.struct {α:Type}{fs:Array Field}{E:α->List AV}{Q:α->Prop}{tot:Nat} (ht:P.underlying t=some (.struct fs)) (hs:P.cellsOf t=tot) (hr:Bj B P (fs.toList.map fun f=>(f.offset,f.type)) 0 tot E Q):Reads B P t E Q:=by
 intro w H enc fuel cs x h aw
 cases fuel with
 |zero=>simp[DataW.trod]at h
 |succ n=>
  rw[DataW.trod_step]at h
  unfold DataW.trodStep at h
  rw[ht]at h
  split at h
  case h_9 c0 x0 c1 fs2 hq=>
   cases hq
   split at h
   ·rename_i hl
    simp only[mS]at h
    obtain⟨xs,h1,rfl⟩:=h
    have:=hr w H enc n c0 xs (by omega) (by rw[adY];exact h1) (fun m hm=>aw m (by simp only[DataW.weights,ht];simpa [List.map_map,Function.comp_def] using hm))
    simpa using this
   ·cases h
  all_goals first|(cases h;done)|(rename_i e;cases e;done)|(simp_all;done)
theorem ajq {H:Type}{e:TypeId}{m:Nat}:∀ (l:List Nat) (ds:List (DataW H)),m∈DataW.weightsEach P (l.map fun _=>e) ds->m∈DataW.weightsAll P e ds
 |[],_,h=>by simp[DataW.weightsEach]at h
 |_::_,[],h=>by simp[DataW.weightsEach]at h
 |_::l,d::ds,h=>by
  simp only[List.map_cons,DataW.weightsEach,Ba]at h
  simp only[DataW.weightsAll,Ba]
  rcases h with h|h
  ·exact .inl h
  ·exact .inr (ajq l ds h)
theorem Reads.array {α:Type}{m:Nat}{e:TypeId}{E:α->List AV}{Q:α->Prop}{tot:Nat} (ht:P.underlying t=some (.array m e)) (hs:P.cellsOf t=tot) (hr:Bj B P ((List.range m).map fun i=>(i*P.cellsOf e,e)) 0 tot E Q):Reads B P t E Q:=by
 intro w H enc fuel cs x h aw
 cases fuel with
 |zero=>simp[DataW.trod]at h
 |succ n=>
  rw[DataW.trod_step]at h
  unfold DataW.trodStep at h
  rw[ht]at h
  split at h
  case h_10 c0 x0 c1 m2 e2 hq=>
   cases hq
   split at h
   ·rename_i hl
    simp only[mS]at h
    obtain⟨xs,h1,rfl⟩:=h
    have:=hr w H enc n c0 xs (by omega) (by rw[adY];exact h1) (fun n0 hm=>aw n0 (by simp only[DataW.weights,ht];exact ajq (List.range m) _ (by simpa [List.map_map,Function.comp_def] using hm)))
    simpa using this
   ·cases h
  all_goals first|(cases h;done)|(rename_i e;cases e;done)|(simp_all;done)
theorem Reads.as {α β:Type}{E:α->List AV}{Q:α->Prop}{E':β->List AV}{Q':β->Prop} (hr:Reads B P t E Q) (g:α->β) (hE:∀ a,E' (g a)=E a) (hQ:∀ a,Q a->Q' (g a)):Reads B P t E' Q':=by
 intro w H enc fuel cs x h aw
 obtain⟨a,h1,h2,h3⟩:=hr w H enc fuel cs x h aw
 exact⟨g a,hQ a h1,by rw[hE];exact h2,by rw[hE];exact h3⟩
theorem afk {α:Type}{E:α->List AV}{Q:α->Prop}{w:World}{H:Type}{enc:TypeId×Value->H}{v:Value}{d:DataW H}{ps:List MemPlace} (hr:Reads B P t E Q) (hv:∃ cs,v=.agg cs) (h:DataW.Trod enc P w 0 (fun _=>true) true t v d ps) (aw:∀ n∈d.weights P t,n<=B):
  ∃ a,Q a/\VR (pG w) [] (.agg (E a)) v:=by
 obtain⟨cs,rfl⟩:=hv
 obtain⟨fuel,h⟩:=h
 obtain⟨a,h1,h2,h3⟩:=hr w H enc fuel _ _ h aw
 exact⟨a,h1,.agg _ _ (by simpa [Value.cells] using h2.1) h3 (fun i x v hx hv=>h2.2 i x v hx (by simpa [Value.cells] using hv))⟩
end
theorem aov {W W':World} (h:Below W.heap.size W W') (may:MemPlace->Prop):W.keptBut W' may:=by
 refine⟨h.os,h.output,fun i hi=>?_⟩
 have hb:=h.block i hi
 have:∃ o,W.heap[i]?=some o:=⟨_,Bv hi⟩
 obtain⟨o,ho⟩:=this
 rw[hb,ho]
 cases o with
 |cells c t fr=>exact⟨rfl,rfl,rfl,fun _ _=>rfl⟩
 |map es clock=>exact .inr ⟨rfl,rfl⟩
 |_=>rfl
theorem aqd {W W':World} (h:Below W.heap.size W W') (p:MemPlace) (hp:p.block<W.heap.size):W.sameAt W' p:=by
 cases p with
 |cell b off=>
  have hb:=h.block b hp
  show W'.cell? _=W.cell? _
  unfold World.cell?
  simp only[hb]
 |map b=>exact h.block b hp
section
variable {H:Type}{enc:TypeId×Value->H}{P:Program}
theorem aq0 {ts us:List TypeId}{ds gs:List (DataW H)} (hl:ds.length=ts.length) (h:(DataW.weightsEach P (ts++us) (ds++gs)).all (·<=reachBytes)=true) (j:Nat) (t:TypeId) (d:DataW H) (ht:ts[j]?=some t) (hd:ds[j]?=some d):∀ n∈d.weights P t,n<=reachBytes:=by
 intro n hn
 have h1:j<ts.length:=(gS.1 ht).1
 have:=List.all_eq_true.1 h n (DataW.weights_mem_each (j:=j) (by rw[Ct h1];exact ht) (by rw[Ct (by omega)];exact hd) n hn)
 simpa using this
theorem aiZ {w w':World}{base:Nat}{spare:Nat->Bool}{held:Bool}:∀ {ts:List TypeId}{vs:List Value}{ds:List (DataW H)}{ps:List MemPlace},DataW.TrodAll enc P w base spare held ts vs ds ps->(∀ p∈ps,w.sameAt w' p)->DataW.TrodAll enc P w' base spare held ts vs ds ps
 |[],[],[],_,h,_=>h
 |_::_,_::_,_::_,_,⟨p,q,⟨n,h1⟩,h2,e⟩,hs=>
  ⟨p,q,⟨n,DataW.trod_carry n _ _ _ h1 (fun x hx=>hs x (by rw[e];exact List.mem_append_left _ hx))⟩,aiZ h2 (fun x hx=>hs x (by rw[e];exact List.mem_append_right _ hx)),e⟩
theorem aoz {f:Func}{s:ChangeSpec}{W W':World}{args:Array Value}{ds gs:List (DataW H)}{before:List MemPlace}{t:TypeId} (hl:laidOutB P=true) (hm:mapsRowed P=true)
  (hz:((List.range P.types.size).all fun t=>match P.underlying t with|some (.slice e)=>decide (0<P.cellsOf e)|_=>true)=true)
  (hW:DataW.Whole enc P f.params.toList s.vars false W args.toList ds gs before) (bj:s.vars=[]) (hB:Below W.heap.size W W') (anH:∀ t∈f.params.toList,t<P.types.size) (hrt:f.resultTypes=#[t]) (ht:P.underlying t=some .bool)
  (tw:s.fn H (ds++gs)={ results:=[.lit (.bool true)],args:=ds }):s.post enc P f false true false false W args (.bool true) W':=by
 have ae:=hW.lt
 have hW0:=hW
 obtain⟨p,q,hA,hV,yU,_,_⟩:=hW
 rw[bj]at hV
 obtain⟨rfl,rfl⟩:gs=[]/\q=[]:=by
  cases gs with
  |nil=>exact⟨rfl,hV⟩
  |cons g gs=>exact hV.elim
 have hp:∀ x∈p,x.block<W.heap.size:=fun x hx=>ae x (by rw[yU];simp[hx])
 refine⟨ds,[],before,[],p,[],hW0,?_,?_,?_,aov hB _,by simp⟩
 ·rw[tw,hrt]
  exact⟨[],[],⟨1,by simp[DataW.trod_step,DataW.trodStep,ht,Value.cells]⟩,rfl,rfl⟩
 ·rw[tw]
  exact DataW.TrodAll.respare (kids_rows hl hm) (fun t e h1 h2=>slices_full_of P hz t e h1 h2) anH (aiZ hA (fun x hx=>aqd hB x (hp x hx))) (fun x hx=>by simpa using hp x hx)
 ·rw[tw,bj]
  rfl
end
end Go.Abs
