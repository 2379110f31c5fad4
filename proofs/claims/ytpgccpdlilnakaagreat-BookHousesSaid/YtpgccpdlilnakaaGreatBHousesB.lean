/-
  Part 2 of the proof: a machine over named blocks, what each function computes, and what follows. No condition.
-/
import Derived.Orders
import Derived.Shelf.Sort.Plain
import Derived.Shelf.Slices.In.SortNone
import Derived.ReadAgain
import Derived.ChangeSame
import Derived.SizedLaws
import Derived.OpenShut
import Derived.ProofKit
import Derived.Test.YtpgccpdlilnakaaGreatBHousesA
set_option linter.unusedVariables false
set_option linter.unusedSimpArgs false
set_option linter.all false
namespace Go.Abs
open Go Go.RowKit
mutual
def AV.imp (kb:Nat):AV->AV
 |.loc l k e i n g=>.loc (l - 1) (if l=0 then kb+k else k) e i n g
 |.bP l k e o n=>.bP (l - 1) (if l=0 then kb+k else k) e o n
 |.ptr l k o=>.ptr (l - 1) (if l=0 then kb+k else k) o
 |.bz l k e i o g=>.bz (l - 1) (if l=0 then kb+k else k) e i o g
 |.fn f a b=>.fn f (AV.iS kb a) (AV.iS kb b)
 |.cq t v=>.cq t (v.imp kb)
 |.agg cs=>.agg (AV.iS kb cs)
 |.aw vs=>.aw (AV.iS kb vs)
 |.bool b=>.bool b
 |.int k n=>.int k n
 |.str s=>.str s
 |.nil=>.nil
 |.sl e es=>.sl e es
 |.bQ=>.bQ
 |.aL e es i o=>.aL e es i o
 |.cg=>.cg
 |.cj=>.cj
 |.dead=>.dead
def AV.iS (kb:Nat):List AV->List AV
 |[]=>[]
 |x::l=>x.imp kb::AV.iS kb l
end
def AJ.imp (kb:Nat):AJ->AJ
 |.arr et e es=>.arr et e es
 |.box cs=>.box (AV.iS kb cs)
def nz (kb:Nat):AH->AH->AH
 |[],f=>f
 |(c,b)::R,f=>ins (nz kb R f) (kb+c) (b.imp kb)
def St.gF (st:St) (dst:Option Tmp) (drop:List Nat) (v:AV) (R:AH):Heap->St
 |[]=>st
 |f::H=>⟨cM (nH st.tm dst (v.imp st.nx)) drop,nz st.nx R f,H,st.nx+16,st.nt⟩
def dF:Aw:=fun _=>none
def Enters (P : Program) (f : FuncId) : Prop := ∃ fn, P.funcs[f]? = some fn ∧ (fn.name == "runtime.NumGoroutine") = false ∧ fn.body.isNone = false
def CE (P:Program) (f:FuncId) (args:List AV) (H:Heap) (R:AV->AH->Heap->Prop):Prop:=
 Enters P f/\∀ N0 W0 fm ts w vs,HR N0 W0 fm ts H w->AG fm (dF::ts) args vs->
  Calls P f vs.toArray w fun e w'=>∃ v av aZ H' fm' t' ts',e=.returned v/\R av aZ H'/\H'.length=H.length/\HR N0 W0 fm' (t'::ts') (aZ::H') w'/\VR fm' (t'::ts') av v/\AU N0 fm fm'/\AD ts ts'/\
   (∀ l k,tb ts l k=none->tb ts' l k=none)/\∀ k,16<=k->t' k=none
def Dk (P:Program) (f:FuncId) (args:List AV) (H:Heap) (R:AV->AH->Heap->Prop) (Rp:List PanicEntry->Heap->Prop):Prop:=
 Enters P f/\∀ N0 W0 fm ts w vs,HR N0 W0 fm ts H w->AG fm (dF::ts) args vs->
  Calls P f vs.toArray w fun e w'=>(∃ v av aZ H' fm' t' ts',e=.returned v/\R av aZ H'/\H'.length=H.length/\HR N0 W0 fm' (t'::ts') (aZ::H') w'/\VR fm' (t'::ts') av v/\AU N0 fm fm'/\AD ts ts'/\
   (∀ l k,tb ts l k=none->tb ts' l k=none)/\∀ k,16<=k->t' k=none)\/
   ∃ ch H' fm' ts',e=.panicked ch/\Rp ch H'/\H'.length=H.length/\HR N0 W0 fm' ts' H' w'/\AU N0 fm fm'/\AD ts ts'/\∀ l k,tb ts l k=none->tb ts' l k=none
theorem CE.toP {P:Program}{f:FuncId}{args:List AV}{H:Heap}{R:AV->AH->Heap->Prop} (h:CE P f args H R):Dk P f args H R (fun _ _=>False):=
 ⟨h.1,fun N0 W0 fm ts w vs a b=>(h.2 N0 W0 fm ts w vs a b).mono fun _ _ q=>.inl q⟩
section
variable [Md]
def CO (n:Nat) (st:St) (args:List AV) (ay:St) (amm:List AV):Prop:=
 ∀ N0 W0 a w fm ts vs,SR N0 W0 n st a w fm ts->AG fm (dF::ts) args vs->∃ fm' ts',SR N0 W0 n ay a w fm' ts'/\Bq N0 fm ts fm' ts'/\AG fm' (dF::ts') amm vs
theorem CO.refl (n:Nat) (st:St) (args:List AV):CO n st args st args:=fun _ _ _ _ fm ts _ h hv=>⟨fm,ts,h,Bq.refl _ _,hv⟩
def AK (P:Program) (n:Nat) (Φ:Exit->St->Prop) (todo:List It) (st:St):Prop:=
 ∀ N0 W0 fm ts a w ct Q,SR N0 W0 n st a w fm ts->Bw N0 W0 n fm ts todo ct->
  (∀ e ay a' w' fm' ts',Φ e ay->SR N0 W0 n ay a' w' fm' ts'->Bq N0 fm ts fm' ts'->Q e a' w')->K P Q ct .normal a w
def AM (P:Program) (n:Nat) (Φ:Exit->St->Prop):Ev->Prop
 |.stuck=>False
 |.fin e st=>Φ e st
 |.back B st=>B st
 |.call f args dst drop todo st=>∃ gp iw R Rp,CO n st args gp iw/\Dk P f iw (gp.fr::gp.low) R Rp/\(∀ v fr H,R v fr H->AK P n Φ todo (gp.gF dst drop v fr H))/\∀ ch H,Rp ch H->Φ (.panic ch) (gp.vB H)
 |.loop b todo st=>AK P n Φ (.sc (.loop b)::todo) st
 |.throw v st=>∃ t x,v=.cq t x/\∀ fm ts u,VR fm ts x u->Φ (.panic [{ v:=.iface t u,recovered:=false }]) st
 |.either es t s1 s2=>(es=[]->AK P n Φ t s1)/\AK P n Φ t s2
 |.draw ops rV drop todo st=>AK P n Φ (.sc (.aS ops rV drop)::todo) st
 |.mark b todo st=>AK P n Φ (.sc b::todo) st
end
theorem ov (kb:Nat):∀ cs:List AV,(AV.iS kb cs).length=cs.length
 |[]=>rfl
 |x::l=>by simp[AV.iS,ov kb l]
theorem mP (kb:Nat):∀ (cs:List AV) (i:Nat),(AV.iS kb cs)[i]?=(cs[i]?).map (AV.imp kb)
 |[],i=>by simp[AV.iS]
 |x::l,0=>by simp[AV.iS]
 |x::l,i+1=>by simp[AV.iS,mP kb l i]
theorem ace (kb:Nat) (x:AV):(x.imp kb).flat=x.flat:=by
 cases x<;>simp[AV.imp,AV.flat]
def k9 (kb:Nat) (t' h:Aw):Aw:=fun k=>if kb<=k then t' (k - kb) else h k
theorem rB {kb:Nat}{t' h:Aw}{rest:List Aw} (hn:∀ k,kb<=k->h k=none) {l k:Nat}{x:TB} (e:tb (t'::h::rest) l k=some x):
  tb (k9 kb t' h::rest) (l - 1) (if l=0 then kb+k else k)=some x:=by
 cases l with
 |zero=>simpa [tb,k9] using e
 |succ l=>
  cases l with
  |zero=>
   simp only[tb]at e
   have hk:¬ kb<=k:=fun hk=>by rw[hn k hk]at e;cases e
   simp[tb,k9,hk,e]
  |succ l=>simpa [tb] using e
theorem VR.imp {fm:FM}{kb:Nat}{t' h:Aw}{rest:List Aw} (hn:∀ k,kb<=k->h k=none) {gH:List Aw}{x:AV}{v:Value} (hv:VR fm gH x v):gH=t'::h::rest->VR fm (k9 kb t' h::rest) (x.imp kb) v:=by
 induction hv with
 |bool b=>intro _;exact .bool b
 |int k n=>intro _;exact .int k n
 |str s=>intro _;exact .str s
 |nil=>intro _;exact .nil
 |dn e a cap=>intro _;exact .dn e a cap
 |sl es cb off esz cap u dM h1 h2 h3 h4 _=>intro _;exact .sl es cb off esz cap u dM h1 h2 h3 h4
 |cW l k esz i n g a cp h ee ha=>rintro rfl;exact .cW _ _ esz i n g a cp (rB hn h) ee ha
 |cX l k esz i n g a cp m' c h af ee ha=>rintro rfl;exact .cX _ _ esz i n g a cp m' c (rB hn h) af ee ha
 |cH l k esz a h=>rintro rfl;exact .cH _ _ esz a (rB hn h)
 |loc l k esz i n g c cap cp a h ee bU hc ha=>rintro rfl;exact .loc _ _ esz i n g c cap cp a (rB hn h) ee bU hc ha
 |bP l k esz o n c cp a h ee ha=>rintro rfl;exact .bP _ _ esz o n c cp a (rB hn h) ee ha
 |bQ=>intro _;exact .bQ
 |ptr l k o c h=>rintro rfl;exact .ptr _ _ o c (rB hn h)
 |eY l k esz i o g a h=>rintro rfl;exact .eY _ _ esz i o g a (rB hn h)
 |eZ l k esz i o g a m' c h af=>rintro rfl;exact .eZ _ _ esz i o g a m' c (rB hn h) af
 |bz l k esz i o g c cap h=>rintro rfl;exact .bz _ _ esz i o g c cap (rB hn h)
 |aL es i o cb off esz u h1 h2 h3 h4 _=>intro _;exact .aL es i o cb off esz u h1 h2 h3 h4
 |cg=>intro _;exact .cg
 |fn f first cap vf vc h1 h2 _ _ jL jM=>
  intro e
  simp only[AV.imp]
  refine .fn f _ _ vf vc (by rw[ov];exact h1) (by rw[ov];exact h2) ?_ ?_
  ·intro i x v hx hv
   rw[mP,mS]at hx
   obtain⟨y,hy,rfl⟩:=hx
   exact jL i y v hy hv e
  ·intro i x v hx hv
   rw[mP,mS]at hx
   obtain⟨y,hy,rfl⟩:=hx
   exact jM i y v hy hv e
 |cj=>intro _;exact .cj
 |cq t x v _ ih=>intro e;exact .cq t _ v (ih e)
 |agg cs vs h1 h2 _ ih=>
  intro e
  simp only[AV.imp]
  refine .agg _ vs (by rw[ov];exact h1) ?_ ?_
  ·intro x hx
   obtain⟨i,hi⟩:=BH.1 hx
   rw[mP,mS]at hi
   obtain⟨y,hy,rfl⟩:=hi
   rw[ace];exact h2 y (A6 hy)
  ·intro i x v hx hv
   rw[mP,mS]at hx
   obtain⟨y,hy,rfl⟩:=hx
   exact ih i y v hy hv e
 |aw xs vs h1 _ ih=>
  intro e
  simp only[AV.imp]
  refine .aw _ vs (by rw[ov];exact h1) ?_
  intro i x v hx hv
  rw[mP,mS]at hx
  obtain⟨y,hy,rfl⟩:=hx
  exact ih i y v hy hv e
 |dead v=>intro _;exact .dead v
theorem aeG (kb:Nat) (f:AH):∀ (R:AH) (k:Nat),look (nz kb R f) k=if kb<=k then (match look R (k - kb) with|some b=>some (b.imp kb)|none=>look f k) else look f k
 |[],k=>by simp[nz,look]
 |(c,b)::R,k=>by
  have ih:=aeG kb f R k
  simp only[nz,tp,ih,look]
  by_cases hk:kb+c=k
  ·subst hk
   simp
  ·by_cases hkb:kb<=k
   ·have:¬ c=k - kb:=by omega
    simp[hk,hkb,this]
   ·simp[hk,hkb]
theorem HR.imp {N0:Nat}{W0:World}{fm:FM}{t' h:Aw}{rest:List Aw}{R f:AH}{H:Heap}{w:World} (hr:HR N0 W0 fm (t'::h::rest) (R::f::H) w) {kb:Nat} (hn:∀ k,kb<=k->h k=none):
  HR N0 W0 fm (k9 kb t' h::rest) (nz kb R f::H) w:=by
 have hT:AD (h::rest) (k9 kb t' h::rest):=by
  intro l k
  cases l with
  |zero=>
   simp only[tb,k9]
   split
   ·rename_i hk;rw[hn k hk];trivial
   ·exact Bv.refl _
  |succ l=>exact Bv.refl _
 have src:∀ l k b,Heap.get (nz kb R f::H) l k=some b->(l=0/\kb<=k/\∃ b0,look R (k - kb)=some b0/\b=b0.imp kb)\/
   (¬ (l=0/\kb<=k)/\Heap.get (R::f::H) (l+1) k=some b/\tb (k9 kb t' h::rest) l k=tb (t'::h::rest) (l+1) k):=by
  intro l k b hg
  cases l with
  |zero=>
   simp only[Heap.get,aeG]at hg
   by_cases hk:kb<=k
   ·rw[if_pos hk]at hg
    cases hR:look R (k - kb) with
    |some b0=>
     rw[hR]at hg
     exact .inl ⟨rfl,hk,b0,rfl,(oi hg).symm⟩
    |none=>
     rw[hR]at hg
     have:=hr.aD 1 k b (by simpa [Heap.get] using hg)
     simp only[tb,hn k hk]at this
     cases this
   ·rw[if_neg hk]at hg
    exact .inr ⟨fun hh=>hk hh.2,by simpa [Heap.get] using hg,by simp[tb,k9,hk]⟩
  |succ l=>exact .inr ⟨fun hh=>by omega,by simpa [Heap.get] using hg,by simp[tb]⟩
 have own:∀ k,kb<=k->tb (k9 kb t' h::rest) 0 k=tb (t'::h::rest) 0 (k - kb):=by
  intro k hk;simp[tb,k9,hk]
 refine⟨by have:=hr.len;simp at this ⊢;exact this,?_,?_,hr.cV,?_,hr.dL,hr.size,hr.dH⟩
 ·intro l k b hg
  rcases src l k b hg with ⟨rfl,hk,b0,gb,rfl⟩|⟨ba,bK,ht⟩
  ·rw[own k hk]
   have:=hr.aD 0 (k - kb) b0 (by simpa [Heap.get] using gb)
   simp only[List.drop_zero]at this ⊢
   generalize tb (t'::h::rest) 0 (k - kb)=tt at this
   cases this with
   |box c cs hN hB=>
    obtain⟨cells,et,c1,c2,c3⟩:=hB
    refine .box c _ hN ⟨cells,et,c1,by rw[ov];exact c2,?_⟩
    intro o x v hx hv
    rw[mP,mS]at hx
    obtain⟨y,hy,rfl⟩:=hx
    have:=c3 o y v hy hv
    exact⟨by rw[ace];exact this.1,this.2.imp hn rfl⟩
   |nil et esz=>exact .nil et esz
   |arr et esz es c cap hN hA=>exact .arr et esz es c cap hN hA
  ·rw[ht]
   have:=hr.aD (l+1) k b bK
   refine this.mono (Bh.refl _) ?_ (fun _ _=>rfl)
   have e1:List.drop (l+1) (t'::h::rest)=List.drop l (h::rest):=by simp
   rw[e1]
   exact hT.drop l
 ·intro l1 k1 l2 k2 b1 b2 c g1 g2 t1 t2
  rcases src l1 k1 b1 g1 with ⟨rfl,gX,na,jj,rfl⟩|⟨aoU,nr,ht1⟩
  ·rw[own k1 gX]at t1
   rcases src l2 k2 b2 g2 with ⟨rfl,qL,uc,kK,rfl⟩|⟨aeq,uK,ot⟩
   ·rw[own k2 qL]at t2
    have:=hr.inj 0 (k1 - kb) 0 (k2 - kb) na uc c (by simpa [Heap.get] using jj) (by simpa [Heap.get] using kK) t1 t2
    exact⟨rfl,by omega⟩
   ·rw[ot]at t2
    have:=hr.inj 0 (k1 - kb) (l2+1) k2 na b2 c (by simpa [Heap.get] using jj) uK t1 t2
    omega
  ·rw[ht1]at t1
   rcases src l2 k2 b2 g2 with ⟨rfl,qL,uc,kK,rfl⟩|⟨aeq,uK,ot⟩
   ·rw[own k2 qL]at t2
    have:=hr.inj (l1+1) k1 0 (k2 - kb) b1 uc c nr (by simpa [Heap.get] using kK) t1 t2
    omega
   ·rw[ot]at t2
    have:=hr.inj (l1+1) k1 (l2+1) k2 b1 b2 c nr uK t1 t2
    exact⟨by omega,this.2⟩
 ·intro l k b c o hg ht
  rcases src l k b hg with ⟨rfl,hk,b0,gb,rfl⟩|⟨ba,bK,gZ⟩
  ·rw[own k hk]at ht
   exact hr.eR 0 (k - kb) b0 c o (by simpa [Heap.get] using gb) ht
  ·rw[gZ]at ht
   exact hr.eR (l+1) k b c o bK ht
theorem VR.xr {fm:FM}{kb:Nat}{t' h J:Aw}{rest:List Aw} (hn:∀ l k x,tb (t'::h::rest) l k=some x->tb (J::rest) (l - 1) (if l=0 then kb+k else k)=some x) {gH:List Aw}{x:AV}{v:Value} (hv:VR fm gH x v):gH=t'::h::rest->VR fm (J::rest) (x.imp kb) v:=by
 induction hv with
 |bool b=>intro _;exact .bool b
 |int k n=>intro _;exact .int k n
 |str s=>intro _;exact .str s
 |nil=>intro _;exact .nil
 |dn e a cap=>intro _;exact .dn e a cap
 |sl es cb off esz cap u dM h1 h2 h3 h4 _=>intro _;exact .sl es cb off esz cap u dM h1 h2 h3 h4
 |cW l k esz i n g a cp h ee ha=>rintro rfl;exact .cW _ _ esz i n g a cp (hn _ _ _ h) ee ha
 |cX l k esz i n g a cp m' c h af ee ha=>rintro rfl;exact .cX _ _ esz i n g a cp m' c (hn _ _ _ h) af ee ha
 |cH l k esz a h=>rintro rfl;exact .cH _ _ esz a (hn _ _ _ h)
 |loc l k esz i n g c cap cp a h ee bU hc ha=>rintro rfl;exact .loc _ _ esz i n g c cap cp a (hn _ _ _ h) ee bU hc ha
 |bP l k esz o n c cp a h ee ha=>rintro rfl;exact .bP _ _ esz o n c cp a (hn _ _ _ h) ee ha
 |bQ=>intro _;exact .bQ
 |ptr l k o c h=>rintro rfl;exact .ptr _ _ o c (hn _ _ _ h)
 |eY l k esz i o g a h=>rintro rfl;exact .eY _ _ esz i o g a (hn _ _ _ h)
 |eZ l k esz i o g a m' c h af=>rintro rfl;exact .eZ _ _ esz i o g a m' c (hn _ _ _ h) af
 |bz l k esz i o g c cap h=>rintro rfl;exact .bz _ _ esz i o g c cap (hn _ _ _ h)
 |aL es i o cb off esz u h1 h2 h3 h4 _=>intro _;exact .aL es i o cb off esz u h1 h2 h3 h4
 |cg=>intro _;exact .cg
 |fn f first cap vf vc h1 h2 _ _ jL jM=>
  intro e
  simp only[AV.imp]
  refine .fn f _ _ vf vc (by rw[ov];exact h1) (by rw[ov];exact h2) ?_ ?_
  ·intro i x v hx hv
   rw[mP,mS]at hx
   obtain⟨y,hy,rfl⟩:=hx
   exact jL i y v hy hv e
  ·intro i x v hx hv
   rw[mP,mS]at hx
   obtain⟨y,hy,rfl⟩:=hx
   exact jM i y v hy hv e
 |cj=>intro _;exact .cj
 |cq t x v _ ih=>intro e;exact .cq t _ v (ih e)
 |agg cs vs h1 h2 _ ih=>
  intro e
  simp only[AV.imp]
  refine .agg _ vs (by rw[ov];exact h1) ?_ ?_
  ·intro x hx
   obtain⟨i,hi⟩:=BH.1 hx
   rw[mP,mS]at hi
   obtain⟨y,hy,rfl⟩:=hi
   rw[ace];exact h2 y (A6 hy)
  ·intro i x v hx hv
   rw[mP,mS]at hx
   obtain⟨y,hy,rfl⟩:=hx
   exact ih i y v hy hv e
 |aw xs vs h1 _ ih=>
  intro e
  simp only[AV.imp]
  refine .aw _ vs (by rw[ov];exact h1) ?_
  intro i x v hx hv
  rw[mP,mS]at hx
  obtain⟨y,hy,rfl⟩:=hx
  exact ih i y v hy hv e
 |dead v=>intro _;exact .dead v
theorem HR.xr {N0:Nat}{W0:World}{fm:FM}{t' h J:Aw}{rest:List Aw}{R f:AH}{H:Heap}{w:World} (hr:HR N0 W0 fm (t'::h::rest) (R::f::H) w) {kb:Nat} (h1:∀ k x,t' k=some x->J (kb+k)=some x) (h2:∀ k x,h k=some x->J k=some x):
  HR N0 W0 fm (J::rest) (nz kb R f::H) w:=by
 have hJ:∀ l k x,tb (t'::h::rest) l k=some x->tb (J::rest) (l - 1) (if l=0 then kb+k else k)=some x:=by
  intro l k x e
  cases l with
  |zero=>simpa [tb] using h1 k x (by simpa [tb] using e)
  |succ l=>
   cases l with
   |zero=>simpa [tb] using h2 k x (by simpa [tb] using e)
   |succ l=>simpa [tb] using e
 have hT:AD (h::rest) (J::rest):=by
  intro l k
  cases l with
  |zero=>
   simp only[tb]
   cases hh:h k with
   |none=>trivial
   |some x=>rw[h2 k x hh];exact Bv.refl _
  |succ l=>exact Bv.refl _
 have src:∀ l k b,Heap.get (nz kb R f::H) l k=some b->(l=0/\kb<=k/\∃ b0,look R (k - kb)=some b0/\b=b0.imp kb/\tb (J::rest) l k=tb (t'::h::rest) 0 (k - kb))\/
   (Heap.get (R::f::H) (l+1) k=some b/\tb (J::rest) l k=tb (t'::h::rest) (l+1) k/\¬ (l=0/\kb<=k/\∃ b0,look R (k - kb)=some b0)):=by
  intro l k b hg
  have nF:Heap.get (R::f::H) (l+1) k=some b->tb (J::rest) l k=tb (t'::h::rest) (l+1) k:=by
   intro hg
   have hb:=hr.aD (l+1) k b hg
   cases ht:tb (t'::h::rest) (l+1) k with
   |none=>rw[ht]at hb;cases hb
   |some x=>have:=hJ (l+1) k x ht;simpa using this
  cases l with
  |zero=>
   simp only[Heap.get,aeG]at hg
   by_cases hk:kb<=k
   ·rw[if_pos hk]at hg
    cases hR:look R (k - kb) with
    |some b0=>
     rw[hR]at hg
     refine .inl ⟨rfl,hk,b0,rfl,(oi hg).symm,?_⟩
     have hb:=hr.aD 0 (k - kb) b0 (by simpa [Heap.get] using hR)
     cases ht:tb (t'::h::rest) 0 (k - kb) with
     |none=>rw[ht]at hb;cases hb
     |some x=>
      have:=hJ 0 (k - kb) x ht
      simp only[if_true]at this
      rw[show kb+(k - kb)=k by omega]at this
      exact this
    |none=>
     rw[hR]at hg
     have bK:Heap.get (R::f::H) (0+1) k=some b:=by simpa [Heap.get] using hg
     exact .inr ⟨bK,nF bK,fun hh=>by obtain⟨_,_,b0,e⟩:=hh;cases e⟩
   ·rw[if_neg hk]at hg
    have bK:Heap.get (R::f::H) (0+1) k=some b:=by simpa [Heap.get] using hg
    exact .inr ⟨bK,nF bK,fun hh=>hk hh.2.1⟩
  |succ l=>
   have bK:Heap.get (R::f::H) (l+1+1) k=some b:=by simpa [Heap.get] using hg
   exact .inr ⟨bK,nF bK,fun hh=>by omega⟩
 refine⟨by have:=hr.len;simp at this ⊢;exact this,?_,?_,hr.cV,?_,hr.dL,hr.size,hr.dH⟩
 ·intro l k b hg
  rcases src l k b hg with ⟨rfl,hk,b0,gb,rfl,ht⟩|⟨bK,ht,_⟩
  ·rw[ht]
   have:=hr.aD 0 (k - kb) b0 (by simpa [Heap.get] using gb)
   simp only[List.drop_zero]at this ⊢
   generalize tb (t'::h::rest) 0 (k - kb)=tt at this
   cases this with
   |box c cs hN hB=>
    obtain⟨cells,et,c1,c2,c3⟩:=hB
    refine .box c _ hN ⟨cells,et,c1,by rw[ov];exact c2,?_⟩
    intro o x v hx hv
    rw[mP,mS]at hx
    obtain⟨y,hy,rfl⟩:=hx
    have:=c3 o y v hy hv
    exact⟨by rw[ace];exact this.1,this.2.xr hJ rfl⟩
   |nil et esz=>exact .nil et esz
   |arr et esz es c cap hN hA=>exact .arr et esz es c cap hN hA
  ·rw[ht]
   have:=hr.aD (l+1) k b bK
   refine this.mono (Bh.refl _) ?_ (fun _ _=>rfl)
   have e1:List.drop (l+1) (t'::h::rest)=List.drop l (h::rest):=by simp
   rw[e1]
   exact hT.drop l
 ·intro l1 k1 l2 k2 b1 b2 c g1 g2 t1 t2
  rcases src l1 k1 b1 g1 with ⟨rfl,gX,na,jj,_,e1⟩|⟨nr,e1,n1⟩
  ·rw[e1]at t1
   rcases src l2 k2 b2 g2 with ⟨rfl,qL,uc,kK,_,e2⟩|⟨uK,e2,n2⟩
   ·rw[e2]at t2
    have:=hr.inj 0 (k1 - kb) 0 (k2 - kb) na uc c (by simpa [Heap.get] using jj) (by simpa [Heap.get] using kK) t1 t2
    exact⟨rfl,by omega⟩
   ·rw[e2]at t2
    have:=hr.inj 0 (k1 - kb) (l2+1) k2 na b2 c (by simpa [Heap.get] using jj) uK t1 t2
    omega
  ·rw[e1]at t1
   rcases src l2 k2 b2 g2 with ⟨rfl,qL,uc,kK,_,e2⟩|⟨uK,e2,n2⟩
   ·rw[e2]at t2
    have:=hr.inj (l1+1) k1 0 (k2 - kb) b1 uc c nr (by simpa [Heap.get] using kK) t1 t2
    omega
   ·rw[e2]at t2
    have:=hr.inj (l1+1) k1 (l2+1) k2 b1 b2 c nr uK t1 t2
    exact⟨by omega,this.2⟩
 ·intro l k b c o hg ht
  rcases src l k b hg with ⟨rfl,hk,b0,gb,_,e⟩|⟨bK,e,_⟩
  ·rw[e]at ht
   exact hr.eR 0 (k - kb) b0 c o (by simpa [Heap.get] using gb) ht
  ·rw[e]at ht
   exact hr.eR (l+1) k b c o bK ht
end Go.Abs
namespace Go.Abs
open Go Go.RowKit
section
variable [Md] {P:Program}{T:AR}{N0:Nat}{W0:World}{n:Nat}{fm:FM}{ts:List Aw}
theorem Bw.aqa {todo:List It}{ct:List BL} (h:Bw N0 W0 n fm ts todo ct):todo=[]->∀ {Q:Exit->Act->World->Prop}{a w},Q .normal a w->K P Q ct .normal a w:=by
 induction h with
 |nil=>intro _ Q a w h;exact h
 |im _ ih=>intro e Q a w h;exact ih e h
 |_=>intro e;cases e
theorem Bw.amr {todo:List It}{ct:List BL} (h:Bw N0 W0 n fm ts todo ct):∀ {id:Nat}{t:List It},todo=.aD id::t->∃ bI,Bw N0 W0 n fm ts t bI/\∀ {Q:Exit->Act->World->Prop}{a w},K P Q bI .normal a w->K P Q ct .normal a w:=by
 induction h with
 |aD ht _=>intro id t e;cases e;exact⟨_,ht,fun h=>h⟩
 |im _ ih=>intro id t e;obtain⟨bI,h1,h2⟩:=ih e;exact⟨bI,h1,fun h=>h2 h⟩
 |_=>intro id t e;cases e
theorem Bw.amp {todo:List It}{ct:List BL} (h:Bw N0 W0 n fm ts todo ct):∀ {B:St->Prop}{t:List It},todo=.back B::t->∀ {Q:Exit->Act->World->Prop}{st a w},SR N0 W0 n st a w fm ts->B st->K P Q ct .normal a w:=by
 induction h with
 |back h ht _=>intro B t e;cases e;intro Q st a w hS hB;exact h _ _ _ _ _ hB hS (Bq.refl _ _)
 |im _ ih=>intro B t e Q st a w hS hB;exact ih e hS hB
 |_=>intro B t e;cases e
theorem Bw.ajf {todo:List It}{ct:List BL} (h:Bw N0 W0 n fm ts todo ct):∀ {l:List Az}{t:List It},todo=.ops l::t->
  ∃ arr is bI,l.map nS=is.map (fun i=>qy n arr (arr.getD i default))/\(∀ i∈is,i<arr.size)/\(∀ o∈l,∀ d,o.dst=some d->d<n)/\Bw N0 W0 n fm ts t bI/\
   ∀ {Q:Exit->Act->World->Prop}{a w},wpOpsIn FW 0 P arr (K P Q bI) is a w->K P Q ct .normal a w:=by
 induction h with
 |ops h hi hf ht _=>intro l t e;cases e;exact⟨_,_,_,h,hi,hf,ht,fun h=>h⟩
 |im _ ih=>intro l t e;obtain⟨arr,is,bI,h1,h2,h3,h4,h5⟩:=ih e;exact⟨arr,is,bI,h1,h2,h3,h4,fun h=>h5 h⟩
 |_=>intro l t e;cases e
theorem aji (n:Nat):∀ (c:Code) (t:List It) (ct:List BL),Bw N0 W0 n fm ts t ct->∃ c' bI,(∀ b,c'≠.scope b)/\erase n c'=erase n c/\Bw N0 W0 n fm ts t bI/\∀ {Q:Exit->Act->World->Prop}{a w},K P Q (.code c'::bI) .normal a w->K P Q (.code c::ct) .normal a w
 |.scope b,t,ct,h=>by
  obtain⟨c',bI,h1,h2,h3,h4⟩:=aji n b t (.im::ct) (.im h)
  exact⟨c',bI,h1,by rw[h2];rfl,h3,fun h=>I0 (h4 h)⟩
 |.skip,t,ct,h=>⟨.skip,ct,by simp,rfl,h,fun h=>h⟩
 |.region a b c,t,ct,h=>⟨.region a b c,ct,by simp,rfl,h,fun h=>h⟩
 |.seq a b,t,ct,h=>⟨.seq a b,ct,by simp,rfl,h,fun h=>h⟩
 |.cond a b c,t,ct,h=>⟨.cond a b c,ct,by simp,rfl,h,fun h=>h⟩
 |.block a b,t,ct,h=>⟨.block a b,ct,by simp,rfl,h,fun h=>h⟩
 |.loop a,t,ct,h=>⟨.loop a,ct,by simp,rfl,h,fun h=>h⟩
 |.rangeFunc a b c d,t,ct,h=>⟨.rangeFunc a b c d,ct,by simp,rfl,h,fun h=>h⟩
 |.exit a,t,ct,h=>⟨.exit a,ct,by simp,rfl,h,fun h=>h⟩
 |.label a,t,ct,h=>⟨.label a,ct,by simp,rfl,h,fun h=>h⟩
 |.goto a,t,ct,h=>⟨.goto a,ct,by simp,rfl,h,fun h=>h⟩
 |.ret,t,ct,h=>⟨.ret,ct,by simp,rfl,h,fun h=>h⟩
 |.refuse a,t,ct,h=>⟨.refuse a,ct,by simp,rfl,h,fun h=>h⟩
theorem Bw.afk {todo:List It}{ct:List BL} (h:Bw N0 W0 n fm ts todo ct):∀ {s:SC}{t:List It},todo=.sc s::t->
  ∃ c bI,(∀ b,c≠.scope b)/\s.bare=erase n c/\(erase n c).fits n=true/\Bw N0 W0 n fm ts t bI/\∀ {Q:Exit->Act->World->Prop}{a w},K P Q (.code c::bI) .normal a w->K P Q ct .normal a w:=by
 induction h with
 |sc h hf ht _=>
  intro s t e;cases e
  obtain⟨c',bI,h1,h2,h3,h4⟩:=aji (P:=P) n _ _ _ ht
  exact⟨c',bI,h1,by rw[h2];exact h,by rw[h2];exact hf,h3,fun h=>h4 h⟩
 |im _ ih=>intro s t e;obtain⟨c,bI,h1,h2,h3,h4,h5⟩:=ih e;exact⟨c,bI,h1,h2,h3,h4,fun h=>h5 h⟩
 |_=>intro s t e;cases e
theorem Bw.an0 {todo:List It}{ct:List BL} (h:Bw N0 W0 n fm ts todo ct) (id:Nat):
  (∀ t,jB id todo=some t->∃ bI,Bw N0 W0 n fm ts t bI/\∀ {Q:Exit->Act->World->Prop}{a w},K P Q bI .normal a w->K P Q ct (.exit id) a w)/\
  (jB id todo=none->∀ {Q:Exit->Act->World->Prop}{a w},Q (.exit id) a w->K P Q ct (.exit id) a w):=by
 induction h with
 |nil=>exact⟨fun t e=>by simp[jB]at e,fun _ Q a w h=>h⟩
 |sc _ _ _ ih=>exact⟨fun t e=>ih.1 t (by simpa [jB] using e),fun e Q a w h=>ih.2 (by simpa [jB] using e) h⟩
 |@aD td t ct ht ih=>
  by_cases zy:id=td
  ·subst zy
   refine⟨fun t' e=>?_,fun e=>by simp[jB]at e⟩
   simp only[jB,if_true,oE]at e
   subst e
   exact⟨ct,ht,fun h=>by simp only[K,if_true];exact h⟩
  ·refine⟨fun t' e=>?_,fun e Q a w h=>?_⟩
   ·simp only[jB,if_neg zy]at e
    obtain⟨bI,h1,h2⟩:=ih.1 t' e
    exact⟨bI,h1,fun h=>by simp only[K,if_neg zy];exact h2 h⟩
   ·simp only[jB,if_neg zy]at e
    simp only[K,if_neg zy]
    exact ih.2 e h
 |im _ ih=>exact⟨fun t e=>by obtain⟨bI,h1,h2⟩:=ih.1 t e;exact⟨bI,h1,fun h=>h2 h⟩,fun e Q a w h=>ih.2 e h⟩
 |ops _ _ _ _ ih=>exact⟨fun t e=>ih.1 t (by simpa [jB] using e),fun e Q a w h=>ih.2 (by simpa [jB] using e) h⟩
 |back _ _ ih=>exact⟨fun t e=>ih.1 t (by simpa [jB] using e),fun e Q a w h=>ih.2 (by simpa [jB] using e) h⟩
theorem aqS (n:Nat) (ops:Array Oper):ops.toList.map (qy n ops)=(List.range ops.size).map fun i=>qy n ops (ops.getD i default):=by
 apply List.ext_getElem?
 intro i
 simp only[BX,Array.getElem?_toList]
 by_cases hi:i<ops.size
 ·simp[hi,Array.getD]
 ·simp[hi]
theorem SR.gF {n:Nat}{st:St}{a:Act}{w w':World} (h:SR N0 W0 n st a w fm ts) {v:Value}{av:AV}{aZ:AH}{H':Heap}{fm':FM}{t':Aw}{ts':List Aw}
  (hr:HR N0 W0 fm' (t'::ts') (aZ::H') w') (hv:VR fm' (t'::ts') av v) (hf:AU N0 fm fm') (hl:AD ts ts') (hn:∀ l k,tb ts l k=none->tb ts' l k=none) (jE:∀ k,16<=k->t' k=none)
  (hlen:H'.length=st.low.length+1) {dst:Option Tmp} (hd:∀ d,dst=some d->d<n) (drop:List Nat):
  ∃ eU,SR N0 W0 n (st.gF dst drop av aZ H') (a.put dst v) w' fm' eU/\Bq N0 fm ts fm' eU:=by
 cases H' with
 |nil=>simp at hlen
 |cons f H'=>
  cases ts' with
  |nil=>have:=hr.len;simp at this
  |cons h0 rest=>
   have kO:∀ k,st.nx<=k->h0 k=none:=by
    intro k hk
    have:=hn 0 k (h.nx k hk)
    simpa [tb] using this
   have hT:AD (h0::rest) (k9 st.nx t' h0::rest):=by
    intro l k
    cases l with
    |zero=>
     simp only[tb,k9]
     split
     ·rename_i hk;rw[kO k hk];trivial
     ·exact Bv.refl _
    |succ l=>exact Bv.refl _
   refine⟨k9 st.nx t' h0::rest,⟨hr.imp kO,?_,?_,by rw[aav];exact h.size,by rw[xK];exact h.fy⟩,⟨hf,?_,?_⟩⟩
   ·exact(h.tm.mono hf.le (hl.trans hT)).put (hv.imp kO rfl) (by rw[h.size];exact hd) drop
   ·intro k hk
    have e9:st.nx+16<=k:=hk
    simp only[tb,k9]
    rw[if_pos (by omega)]
    exact jE _ (by omega)
   ·have:=hl.drop 1;simpa using this
   ·intro l k e
    rw[ft]at e
    have:=hn (l+1) k e
    simpa [tb] using this
theorem SR.lost {n:Nat}{st:St}{a:Act}{w w':World} (h:SR N0 W0 n st a w fm ts) {H':Heap}{fm':FM}{ts':List Aw}
  (hr:HR N0 W0 fm' ts' H' w') (hf:AU N0 fm fm') (hl:AD ts ts') (hn:∀ l k,tb ts l k=none->tb ts' l k=none) (hlen:H'.length=st.low.length+1):
  SR N0 W0 n (st.vB H') a w' fm' ts'/\Bq N0 fm ts fm' ts':=by
 cases H' with
 |nil=>simp at hlen
 |cons f H'=>
  refine⟨⟨hr,h.tm.mono hf.le hl,fun k hk=>hn 0 k (h.nx k hk),h.size,h.fy⟩,⟨hf,hl.drop 1,?_⟩⟩
  intro l k e
  rw[ft]at e ⊢
  exact hn _ k e
theorem anX {t e:TypeId}{a:Option Addr}{n c m:Nat}{w:World} (bZ:P.underlying t=some (.slice e)):(Op.equalIn (m+1) t (.slice a n c) (.slice none 0 0)).run P w=.ok a.isNone w:=by
 cases a<;>simp only[Op.equalIn,Sem.run_bind,run_underlying bZ,Result.andThen_ok]<;>rfl
theorem anW {t e:TypeId}{a:Option Addr}{n c:Nat}{w:World} (bZ:P.underlying t=some (.slice e)):(binOp .eql t (.slice a n c) (.slice none 0 0)).run P w=.ok (.bool a.isNone) w:=by
 have h:(Op.equalIn Op.maxDepth t (.slice a n c) (.slice none 0 0)).run P w=.ok a.isNone w:=anX bZ
 simp[binOp,Op.equal,h]
theorem yF {tm:Tm}{a:Act}{w:World} (eM:C1 fm ts tm a) {c:Call}{f:FuncId}{args:List AV} (fJ:callee tm c=some (f,args)) {s:Az} (hc:kP s.op=some c) {o:Oper} (nw:s.op=o.op) (hE:Enters P f):
  ∃ vs:List Value,AG fm ts args vs/\(execOp a.eval o).run P w=.ok (.enter f vs.toArray) w/\∀ c0,o.op≠.defer c0:=by
 unfold kP at hc
 split at hc
 ·rename_i c' oj
  split at hc
  ·cases hc
  ·obtain rfl:=oi hc
   unfold callee at fJ
   split at fJ
   ·rename_i g hcf
    split at fJ
    ·rename_i g' first cap xs hof gm
     simp only[oE,Prod.mk.injEq]at fJ
     obtain⟨rfl,rfl⟩:=fJ
     have hvf:=xI eM hof
     have fc:=aap eM _ _ gm
     obtain⟨vf,vc,uH,fb,jo,qQ,zP⟩:∃ vf vc,a.eval g=.func (.func g') vf vc/\first.length=vf.size/\cap.length=vc.size/\(∀ (i:Nat) x v,first[i]?=some x->vf[i]?=some v->VR fm ts x v)/\(∀ (i:Nat) x v,cap[i]?=some x->vc[i]?=some v->VR fm ts x v):=by
      generalize a.eval g=z at hvf
      cases hvf with
      |fn _ _ _ vf vc h1 h2 h3 h4=>exact⟨vf,vc,rfl,h1,h2,h3,h4⟩
     have fC:AG fm ts (first++(xs++cap)) (vf.toList++(c'.args.toList.map a.eval++vc.toList)):=
      AG.append ⟨by simpa using fb,fun i x v p q=>qQ i x v p (by simpa using q)⟩ (AG.append fc ⟨by simpa using jo,fun i x v p q=>zP i x v p (by simpa using q)⟩)
     obtain⟨fn,uI,jJ,hbd⟩:=hE
     have aim:o.op=.call c':=by rw[<-nw];exact oj
     have bm:(execOp a.eval o).run P w=.ok (.enter g' ((vf.toList++(c'.args.toList.map a.eval++vc.toList)).toArray)) w:=by
      have e1:vf++Array.map a.eval c'.args++vc=(vf.toList++(c'.args.toList.map a.eval++vc.toList)).toArray:=by
       apply Array.toList_inj.1;simp
      simp only[execOp,aim,resolve,hcf,Sem.run_bind,Deferred.ofValue,uH,Sem.run_pure,Result.andThen_ok,invoke,callFunc,run_program,uI,jJ,hbd,C4,if_false,e1]
     exact⟨_,fC,bm,fun c0 h0=>by rw[aim]at h0;cases h0⟩
    ·cases fJ
   ·cases fJ
 ·cases hc
theorem ik (hT:AX P T) {Φ:Exit->St->Prop}:∀ (m:Nat) (todo:List It) (st:St),AM P n Φ (run T m todo st)->AK P n Φ todo st
 |0,todo,st,h=>by simp only[run,AM]at h
 |m+1,[],st,h=>by
  intro N0 W0 fm ts a w ct Q hS gj hQ
  simp only[run,AM]at h
  exact gj.aqa rfl (hQ _ _ _ _ _ _ h hS (Bq.refl _ _))
 |m+1,.back B::t,st,h=>by
  intro N0 W0 fm ts a w ct Q hS gj hQ
  simp only[run,AM]at h
  exact gj.amp rfl hS h
 |m+1,.aD id::t,st,h=>by
  intro N0 W0 fm ts a w ct Q hS gj hQ
  simp only[run]at h
  obtain⟨bI,h1,h2⟩:=gj.amr (P:=P) rfl
  exact h2 (ik hT m t st h N0 W0 fm ts a w bI Q hS h1 hQ)
 |m+1,.ops []::t,st,h=>by
  intro N0 W0 fm ts a w ct Q hS gj hQ
  simp only[run]at h
  obtain⟨arr,is,bI,h1,h2,h3,h4,h5⟩:=gj.ajf (P:=P) rfl
  cases is with
  |nil=>exact h5 (ik hT m t st h N0 W0 fm ts a w bI Q hS h4 hQ)
  |cons=>simp at h1
 |m+1,.ops (o::os)::t,st,h=>by
  intro N0 W0 fm ts a w ct Q hS gj hQ
  obtain⟨arr,is,bI,h1,h2,h3,h4,h5⟩:=gj.ajf (P:=P) rfl
  cases is with
  |nil=>simp at h1
  |cons i is=>
   simp only[List.map_cons,List.cons.injEq]at h1
   obtain⟨h1,uA⟩:=h1
   have hi:i<arr.size:=h2 i List.mem_cons_self
   have eA:arr[i]?=some arr[i]:=BV hi
   have hgd:arr.getD i default=arr[i]:=by simp[Array.getD,hi]
   rw[hgd]at h1
   simp only[nS,qy,Az.mk.injEq,and_true]at h1
   obtain⟨n9,nw,hty,mG⟩:=h1
   have hd:∀ d,o.dst=some d->d<n:=h3 o List.mem_cons_self
   have zU:∀ {fm' ts'},Bq N0 fm ts fm' ts'->Bw N0 W0 n fm' ts' (.ops os::t) (.ops arr is::bI):=fun hl=>
    (Bw.ops uA (fun j hj=>h2 j (List.mem_cons_of_mem _ hj)) (fun o ho=>h3 o (List.mem_cons_of_mem _ ho)) h4).later hl
   apply h5
   simp only[wpOpsIn,eA]
   have ag5:∀ (m':Nat),(∀ todo st,AM P n Φ (run T m' todo st)->AK P n Φ todo st)->AM P n Φ (abK T (run T m') o (.ops os::t) st)->(arr[i]).wpIn FW 0 P a w (wpOpsIn FW 0 P arr (K P Q bI) is) (K P Q bI):=by
    intro m' ihm h
    unfold abK at h
    split at h
    ·
     rename_i c hc
     unfold aeT at h
     split at h
     ·rename_i g args fJ
      simp only[AM]at h
      obtain⟨gp,iw,R,Rp,hmv,⟨hE,hac⟩,hk,hpk⟩:=h
      obtain⟨vs,fC,bm,bY⟩:=yF (w:=w) hS.tm fJ hc nw hE
      have aec:AG fm (dF::ts) (AV.dm 1 args) vs:=by
       refine⟨by rw[nM];exact fC.1,?_⟩
       intro i x v hx hv
       rw[nL,mS]at hx
       obtain⟨y,hy,rfl⟩:=hx
       exact(fC.2 i y v hy hv).sh 1 (by simp)
      obtain⟨gV,en,dX,lD,aoo⟩:=hmv N0 W0 a w fm ts _ hS aec
      refine aaq bY bm ?_
      refine Calls.mono (hac N0 W0 gV en w _ dX.hr aoo) ?_
      rintro e w' (⟨v,av,aZ,H',fm',t',ts',rfl,hR,aen,cQ,bM,dG,mL,bw,jE⟩|⟨ch,H',fm',ts',rfl,hR,aen,cQ,dG,mL,bw⟩)
      ·have hlen:H'.length=gp.low.length+1:=by simpa using aen
       obtain⟨eU,ga,eH⟩:=dX.gF cQ bM dG mL bw jE hlen hd o.drop
       have kJ:=hk av aZ H' hR N0 W0 fm' eU _ w' (.ops arr is::bI) Q ga (zU (lD.trans eH)) (fun e ay a' w' jV lY jK kI nm=>hQ e ay a' w' jV lY jK kI ((lD.trans eH).trans nm))
       rw[n9]at kJ
       exact kJ
      ·have hlen:H'.length=gp.low.length+1:=by simpa using aen
       obtain⟨ga,eH⟩:=dX.lost cQ dG mL bw hlen
       exact DQ (hQ _ _ _ _ _ _ (hpk ch H' hR) ga (lD.trans eH)) bI
     ·simp only[AM]at h
    ·
     split at h
     ·
      rename_i x pD
      unfold aeB at pD
      split at pD
      ·rename_i x' hox
       obtain rfl:=oi pD
       unfold afo at h
       split at h
       ·rename_i v hv
        simp only[AM]at h
        obtain⟨t0,x0,rfl,hk⟩:=h
        have bM:=xI hS.tm hv
        have aip:(arr[i]).op=.panic x':=by rw[<-nw];exact hox
        generalize uH:a.eval x'=z at bM
        cases bM with
        |cq _ _ u hu=>
         have bm:(execOp a.eval arr[i]).run P w=.halt (.panic (.iface t0 u)) w:=by
          simp only[execOp,aip,uH,Instr.panic,goPanic]
          rfl
         refine aqp (fun c0 h0=>by rw[aip]at h0;cases h0) bm ?_
         exact DQ (hQ _ _ _ _ _ _ (hk fm ts u hu) hS (Bq.refl _ _)) bI
       ·simp only[AM]at h
      ·cases pD
     cases ba:ack T o.op (look st.tm) with
     |some es=>
      rw[ba]at h
      simp only[aar,AM]at h
      obtain⟨gX,qL⟩:=h
      unfold ack at ba
      split at ba
      ·rename_i tt x ty0 hoo
       split at ba
       ·rename_i ti hti
        split at ba
        ·rename_i el zj
         split at ba
         ·rename_i ez es' hx
          obtain rfl:=oi ba
          obtain⟨bZ,_⟩:=hT.slice hti zj
          obtain⟨v,hv,bM⟩:=hS.tm x _ hx
          obtain⟨aa,nn,cc,rfl,zH⟩:∃ aa nn cc,v=.slice aa nn cc/\(aa=none->es'=[]):=by
           cases bM with
           |dn=>exact⟨_,_,_,rfl,fun _=>rfl⟩
           |sl=>exact⟨_,_,_,rfl,fun h=>by cases h⟩
          have uH:a.eval (.tmp x)=.slice aa nn cc:=by simp[Act.eval,hv,Array.getD_eq_getD_getElem?]
          have ain:(arr[i]).op=.binOp .eql tt (.tmp x) (.const (.slice none 0 0)) ty0:=by rw[<-nw];exact hoo
          have bm:(execOp a.eval arr[i]).run P w=.ok (.value (.bool aa.isNone)) w:=by
           have h1:=anW (P:=P) (a:=aa) (n:=nn) (c:=cc) (w:=w) bZ
           have h2:a.eval (.const (.slice none 0 0))=.slice none 0 0:=by simp[Act.eval]
           simp only[execOp,ain,uH,h2]
           exact eG h1
          have ho:∀ b:Bool,aa.isNone=b->Out N0 W0 fm ts (st.fr::st.low) w st.nx ((execOp a.eval arr[i]).run P w) ⟨.bool b,[]⟩ fm ts w (.bool b):=fun b hb=>
           ⟨.inl (by rw[bm,hb]),hS.hr,.bool b,AU.refl _ _,AD.refl _,fun _ _ _ h=>h⟩
          refine acs (fun c0 h0=>by rw[ain]at h0;cases h0) bm ?_
          cases hb:aa.isNone with
          |true=>
           obtain⟨ga,eH⟩:=hS.by (ho true hb) hd o.drop
           have pt:es'=[]:=zH (by simpa using hb)
           have kJ:=gX pt N0 W0 fm ts _ w (.ops arr is::bI) Q ga (zU eH) (fun e ay a' w' jV lY jK kI nm=>hQ e ay a' w' jV lY jK kI (eH.trans nm))
           rw[n9]at kJ
           exact kJ
          |false=>
           obtain⟨ga,eH⟩:=hS.by (ho false hb) hd o.drop
           have kJ:=qL N0 W0 fm ts _ w (.ops arr is::bI) Q ga (zU eH) (fun e ay a' w' jV lY jK kI nm=>hQ e ay a' w' jV lY jK kI (eH.trans nm))
           rw[n9]at kJ
           exact kJ
         ·cases ba
        ·cases ba
       ·cases ba
      ·cases ba
     |none=>
     rw[ba]at h
     simp only[aar]at h
     unfold next at h
     split at h
     ·rename_i d sM
      have hG:st.get=Heap.get (st.fr::st.low):=rfl
      rw[nw,hty,hG]at sM
      obtain⟨fm',ts',w',v,ho⟩:=ai8 (P:=P) hT hS.hr (by simp) (fun k h1 _=>hS.nx k h1) hS.tm sM
      obtain⟨ga,eH⟩:=hS.by ho hd o.drop
      have kJ:=ihm _ _ h N0 W0 fm' ts' _ w' (.ops arr is::bI) Q ga (zU eH) (fun e ay a' w' jV lY jK kI nm=>hQ e ay a' w' jV lY jK kI (eH.trans nm))
      rw[n9]at kJ
      have bY:∀ c,(arr[i]).op≠.defer c:=fun c0 h0=>by rw[h0]at sM;simp[bH]at sM
      rcases ho.done with hr|⟨hr,rfl⟩
      ·exact acs bY hr kJ
      ·exact ajg bY hr kJ
     ·simp only[AM]at h
   have mU:∀ (m':Nat),(∀ todo st,AM P n Φ (run T m' todo st)->AK P n Φ todo st)->AM P n Φ (run T m' (.ops os::t) (st.mU o))->wpOpsIn FW 0 P arr (K P Q bI) is (a.put (arr[i]).dst undef) w:=by
    intro m' ihm h
    have ga:=hS.mU hd
    have kJ:=ihm _ _ h N0 W0 fm ts _ w (.ops arr is::bI) Q ga (zU (Bq.refl _ _)) hQ
    rw[n9]at kJ
    exact kJ
   cases hg:o.guard with
   |none=>
    rw[hg]at mG
    have hw:Region.wanted arr[i] (yielded arr a.tmps)=true:=by
     have:(arr[i]).guard=none:=by
      cases hh:(arr[i]).guard with
      |none=>rfl
      |some g=>rw[hh]at mG;cases mG
     simp[Region.wanted,this]
    simp only[run,hg]at h
    rw[if_pos hw]
    exact ag5 m (ik hT m) h
   |some g=>
    obtain⟨g,want⟩:=g
    rw[hg]at mG
    obtain⟨j,hj,jk⟩:∃ j,(arr[i]).guard=some (j,want)/\(((arr[j]?).bind (·.dst)).getD n)=g:=by
     cases hh:(arr[i]).guard with
     |none=>rw[hh]at mG;cases mG
     |some p=>
      rw[hh]at mG
      simp only[Be,oE,Prod.mk.injEq]at mG
      exact⟨p.1,by rw[mG.2],mG.1.symm⟩
    have qZ:∀ v,a.tmps[g]?=some v->yielded arr a.tmps j=match v with|.bool b=>some b|_=>none:=by
     intro v hv
     unfold yielded
     cases hb:(arr[j]?).bind (·.dst) with
     |none=>
      rw[hb]at jk
      simp only[Option.getD_none]at jk
      have:=(CZ.1 hv).1
      rw[hS.size]at this
      subst jk
      exact absurd this (Nat.lt_irrefl _)
     |some dd=>
      rw[hb]at jk
      simp only[Option.getD_some]at jk
      subst jk
      simp only[Ae,hv]
      cases v<;>rfl
    simp only[run,hg]at h
    split at h
    ·rename_i b hb
     obtain⟨v,hv,bM⟩:=hS.tm g _ hb
     cases bM
     have hw:Region.wanted arr[i] (yielded arr a.tmps)=(b==want):=by
      simp[Region.wanted,hj,qZ _ hv]
     rw[hw]
     cases mF:(b==want) with
     |true=>
      rw[mF,afq]at h
      rw[if_pos rfl]
      cases m with
      |zero=>simp only[run,AM]at h
      |succ m=>
       simp only[run]at h
       exact ag5 m (ik hT m) h
     |false=>
      rw[mF,afp]at h
      simp only[C4,if_false]
      exact⟨fun _ _=>trivial,mU m (ik hT m) h⟩
    ·rename_i hb
     obtain⟨v,hv,bM⟩:=hS.tm g _ hb
     have hw:Region.wanted arr[i] (yielded arr a.tmps)=false:=by
      have:yielded arr a.tmps j=none:=by rw[qZ _ hv];cases bM;rfl
      simp[Region.wanted,hj,this]
     rw[hw]
     simp only[C4,if_false]
     exact⟨fun _ _=>trivial,mU m (ik hT m) h⟩
    ·simp only[AM]at h
 |m+1,.sc s::t,st,h=>by
  intro N0 W0 fm ts a w ct Q hS gj hQ
  obtain⟨c,bI,mH,hb,hf,ht,hK⟩:=gj.afk (P:=P) rfl
  apply hK
  cases s with
  |skip=>
   simp only[run]at h
   have:=ik hT m t st h N0 W0 fm ts a w bI Q hS ht hQ
   cases c<;>simp only[SC.bare,erase,reduceCtorEq]at hb
   case skip=>exact I2 this
   case label=>exact IU this
   case region id ops dr=>cases dr<;>simp[erase]at hb
   case scope b=>exact absurd rfl (mH b)
  |lS ops=>
   simp only[run]at h
   cases c<;>try (simp only[SC.bare,erase,reduceCtorEq]at hb;done)
   case region id arr dr=>
    cases dr with
    |true=>simp[SC.bare,erase]at hb
    |false=>
     simp only[SC.bare,erase,SC.lS.injEq]at hb
     refine FQ ?_
     refine ik hT m _ st h N0 W0 fm ts a w _ Q hS ?_ hQ
     refine .ops (by rw[hb,aqS]) (by simp) ?_ ht
     simp only[erase,SC.fits,List.all_eq_true]at hf
     intro o ho d hd
     have:nS o∈ops.map nS:=List.mem_map_of_mem ho
     rw[hb]at this
     have:=hf _ this
     simp only[nS,hd]at this
     simpa using this
   case scope b=>exact absurd rfl (mH b)
  |aS ops rV drop=>
   simp only[run,AM]at h
   exact h N0 W0 fm ts a w (.code c::bI) Q hS (.sc hb hf ht) hQ
  |mark b=>
   simp only[run,AM]at h
   exact h N0 W0 fm ts a w (.code c::bI) Q hS (.sc (by simpa only [SC.bare] using hb) hf ht) hQ
  |seq x y=>
   simp only[run]at h
   cases c<;>simp only[SC.bare,erase,reduceCtorEq]at hb
   case seq cx cy=>
    simp only[SC.seq.injEq]at hb
    simp only[erase,SC.fits,Bo]at hf
    exact DH (ik hT m _ st h N0 W0 fm ts a w _ Q hS (.sc hb.1 hf.1 (.sc hb.2 hf.2 ht)) hQ)
   case region id ops dr=>cases dr<;>simp[erase]at hb
   case scope b=>exact absurd rfl (mH b)
  |cond cc x y=>
   simp only[run]at h
   cases c<;>simp only[SC.bare,erase,reduceCtorEq]at hb
   case cond c1 cx cy=>
    simp only[SC.cond.injEq]at hb
    obtain⟨rfl,hbx,hby⟩:=hb
    simp only[erase,SC.fits,Bo]at hf
    split at h
    ·rename_i b hbv
     have hv:=xI hS.tm hbv
     have he:a.eval cc=.bool b:=by
      generalize a.eval cc=z at hv
      cases hv;rfl
     refine IS he ?_
     cases b with
     |true=>rw[afq]at h;exact ik hT m _ st h N0 W0 fm ts a w _ Q hS (.sc hbx hf.1 ht) hQ
     |false=>rw[afp]at h;exact ik hT m _ st h N0 W0 fm ts a w _ Q hS (.sc hby hf.2 ht) hQ
    ·simp only[AM]at h
   case region id ops dr=>cases dr<;>simp[erase]at hb
   case scope b=>exact absurd rfl (mH b)
  |block id b=>
   simp only[run]at h
   cases c<;>simp only[SC.bare,erase,reduceCtorEq]at hb
   case block td cb=>
    simp only[SC.block.injEq]at hb
    obtain⟨rfl,hb⟩:=hb
    simp only[erase,SC.fits]at hf
    exact Fz (ik hT m _ st h N0 W0 fm ts a w _ Q hS (.sc hb hf (.aD ht)) hQ)
   case region id ops dr=>cases dr<;>simp[erase]at hb
   case scope b=>exact absurd rfl (mH b)
  |loop b=>
   simp only[run,AM]at h
   exact h N0 W0 fm ts a w (.code c::bI) Q hS (.sc hb hf ht) hQ
  |exit id=>
   simp only[run]at h
   cases c<;>simp only[SC.bare,erase,reduceCtorEq]at hb
   case exit td=>
    simp only[SC.exit.injEq]at hb
    subst hb
    refine IT ?_
    have hx:=ht.an0 (P:=P) id
    split at h
    ·rename_i t' gZ
     obtain⟨ct2,h1,h2⟩:=hx.1 t' gZ
     exact h2 (ik hT m t' st h N0 W0 fm ts a w ct2 Q hS h1 hQ)
    ·rename_i hn
     simp only[AM]at h
     exact hx.2 hn (hQ _ _ _ _ _ _ h hS (Bq.refl _ _))
   case region id ops dr=>cases dr<;>simp[erase]at hb
   case scope b=>exact absurd rfl (mH b)
  |ret=>
   simp only[run,AM]at h
   cases c<;>simp only[SC.bare,erase,reduceCtorEq]at hb
   case ret=>exact IZ (DE (hQ _ _ _ _ _ _ h hS (Bq.refl _ _)) _)
   case region id ops dr=>cases dr<;>simp[erase]at hb
   case scope b=>exact absurd rfl (mH b)
  |other=>simp only[run,AM]at h
end
section
variable [Md] {P:Program}{T:AR}{N0:Nat}{W0:World}{n:Nat}{fm:FM}{ts:List Aw}{Φ:Exit->St->Prop}
def Al (n:Nat) (st ay:St):Prop:=∀ N0 W0 a w fm ts,SR N0 W0 n st a w fm ts->∃ fm' ts',SR N0 W0 n ay a w fm' ts'/\Bq N0 fm ts fm' ts'
theorem Al.trans {n:Nat}{a b c:St} (h:Al n a b) (k:Al n b c):Al n a c:=by
 intro N0 W0 x w fm ts hS
 obtain⟨f1,t1,h1,h2⟩:=h N0 W0 x w fm ts hS
 obtain⟨f2,t2,h3,h4⟩:=k N0 W0 x w f1 t1 h1
 exact⟨f2,t2,h3,h2.trans h4⟩
theorem AK.rI {todo:List It}{st ay:St} (hw:Al n st ay) (h:AK P n Φ todo ay):AK P n Φ todo st:=by
 intro N0 W0 fm ts a w ct Q hS gj hQ
 obtain⟨fm',ts',h1,h2⟩:=hw N0 W0 a w fm ts hS
 exact h N0 W0 fm' ts' a w ct Q h1 (gj.later h2) (fun e s x w' f t jK hs hl=>hQ e s x w' f t jK hs (h2.trans hl))
theorem AK.mono {Ψ:Exit->St->Prop} (jK:∀ e st,Φ e st->Ψ e st) {todo:List It}{st:St} (h:AK P n Φ todo st):AK P n Ψ todo st:=by
 intro N0 W0 fm ts a w ct Q hS gj hQ
 exact h N0 W0 fm ts a w ct Q hS gj (fun e s x w' f t hp hs hl=>hQ e s x w' f t (jK e s hp) hs hl)
theorem AK.loop (Inv:Nat->St->Prop) (m:Nat) {st st0:St}{b:SC}{todo:List It} (hw:Al n st st0) (h0:Inv m st0)
  (h:∀ m st,Inv m st->AK P n Φ (.sc b::.back (fun ay=>∃ acQ m',m'<m/\Al n ay acQ/\Inv m' acQ)::todo) st):AK P n Φ (.sc (.loop b)::todo) st:=by
 refine AK.rI hw ?_
 intro N0 W0 fm ts a w ct Q hS gj hQ
 obtain⟨c,bI,mH,hb,hf,ht,hK⟩:=gj.afk (P:=P) rfl
 apply hK
 cases c<;>simp only[SC.bare,erase,reduceCtorEq]at hb
 case loop cb=>
  simp only[SC.loop.injEq]at hb
  simp only[erase,SC.fits]at hf
  refine H5 (fun m a w=>∃ st fm' ts',Inv m st/\SR N0 W0 n st a w fm' ts'/\Bq N0 fm ts fm' ts') m ⟨st0,fm,ts,h0,hS,Bq.refl _ _⟩ ?_
  rintro m a w ⟨st,fm',ts',hI,du,hL⟩
  refine h m st hI N0 W0 fm' ts' a w _ Q du (.sc hb hf (.back ?_ (ht.later hL))) (fun e s x w' f t hp hs hl=>hQ e s x w' f t hp hs (hL.trans hl))
  rintro ay a' w' fZ eU ⟨acQ,m',af,qX,hI'⟩ ga eH
  obtain⟨jV,lY,h3,h4⟩:=qX N0 W0 a' w' fZ eU ga
  exact⟨m',af,acQ,jV,lY,hI',h3,(hL.trans eH).trans h4⟩
 case region id ops dr=>cases dr<;>simp[erase]at hb
 case scope b=>exact absurd rfl (mH b)
def idx:List Nat->Nat->Option Nat
 |[],_=>none
 |x::l,k=>if x=k then some 0 else (idx l k).map (·+1)
theorem aez:∀ (ks:List Nat) (k i:Nat),idx ks k=some i->ks[i]?=some k
 |[],k,i,h=>by simp[idx]at h
 |x::l,k,i,h=>by
  simp only[idx]at h
  split at h
  ·rename_i e
   obtain rfl:=oi h
   simp[e]
  ·simp only[mS]at h
   obtain⟨j,h1,rfl⟩:=h
   simpa using aez l k j h1
def rv (ks:List Nat) (l k:Nat):Option Nat:=
 match l with
 |0=>idx ks k
 |_+1=>some k
mutual
def AV.aV (ks:List Nat):AV->Option AV
 |.loc l k e i n g=>(rv ks l k).map fun k=>.loc l k e i n g
 |.bP l k e o n=>(rv ks l k).map fun k=>.bP l k e o n
 |.ptr l k o=>(rv ks l k).map fun k=>.ptr l k o
 |.bz l k e i o g=>(rv ks l k).map fun k=>.bz l k e i o g
 |.fn f a b=>match AV.dR ks a,AV.dR ks b with
  |some a,some b=>some (.fn f a b)
  |_,_=>none
 |.cq t v=>(v.aV ks).map (.cq t)
 |.agg cs=>(AV.dR ks cs).map .agg
 |.aw vs=>(AV.dR ks vs).map .aw
 |.bool b=>some (.bool b)
 |.int k n=>some (.int k n)
 |.str s=>some (.str s)
 |.nil=>some .nil
 |.sl e es=>some (.sl e es)
 |.bQ=>some .bQ
 |.aL e es i o=>some (.aL e es i o)
 |.cg=>some .cg
 |.cj=>some .cj
 |.dead=>some .dead
def AV.dR (ks:List Nat):List AV->Option (List AV)
 |[]=>some []
 |x::l=>match x.aV ks,AV.dR ks l with
  |some x,some l=>some (x::l)
  |_,_=>none
end
def fe (ks:List Nat) (t:Aw):Aw:=fun i=>(ks[i]?).bind t
theorem rC {ks:List Nat}{t:Aw}{rest:List Aw}{l k k':Nat} (h:rv ks l k=some k'):tb (fe ks t::rest) l k'=tb (t::rest) l k:=by
 cases l with
 |zero=>simp only[tb,fe,aez ks k k' h,Ae]
 |succ l=>simp only[rv,oE]at h;subst h;rfl
theorem vm (ks:List Nat):∀ (cs ys:List AV),AV.dR ks cs=some ys->ys.length=cs.length/\∀ (i:Nat) (x:AV),cs[i]?=some x->∃ y,ys[i]?=some y/\x.aV ks=some y
 |[],ys,h=>by simp only[AV.dR,oE]at h;subst h;simp
 |x::l,ys,h=>by
  simp only[AV.dR]at h
  split at h
  ·rename_i a b ha hb
   obtain rfl:=oi h
   have ih:=vm ks l b hb
   refine⟨by simp[ih.1],?_⟩
   intro i z hz
   cases i with
   |zero=>simp only[Cl,oE]at hz;subst hz;exact⟨a,by simp,ha⟩
   |succ i=>simp only[Ci]at hz ⊢;exact ih.2 i z hz
  ·cases h
theorem ajG {ks:List Nat}{x y:AV} (h:x.aV ks=some y):y.flat=x.flat:=by
 cases x with
 |fn f a b=>
  simp only[AV.aV]at h
  split at h
  ·obtain rfl:=oi h;simp[AV.flat]
  ·cases h
 |_=>
  first
  |(simp only[AV.aV,oE]at h;subst h;simp[AV.flat];done)
  |(simp only[AV.aV,mS]at h;obtain⟨a,_,rfl⟩:=h;simp[AV.flat];done)
theorem VR.aV {ks:List Nat}{t:Aw}{rest:List Aw}{gH:List Aw}{x:AV}{v:Value} (hv:VR fm gH x v):gH=t::rest->∀ {y:AV},x.aV ks=some y->VR fm (fe ks t::rest) y v:=by
 induction hv with
 |bool b=>intro _ y e;simp only[AV.aV,oE]at e;subst e;exact .bool b
 |int k n=>intro _ y e;simp only[AV.aV,oE]at e;subst e;exact .int k n
 |str s=>intro _ y e;simp only[AV.aV,oE]at e;subst e;exact .str s
 |nil=>intro _ y e;simp only[AV.aV,oE]at e;subst e;exact .nil
 |dn e a cap=>intro _ y e;simp only[AV.aV,oE]at e;subst e;exact .dn _ a cap
 |sl es cb off esz cap u dM h1 h2 h3 h4 _=>intro _ y e;simp only[AV.aV,oE]at e;subst e;exact .sl es cb off esz cap u dM h1 h2 h3 h4
 |cW l k esz i n g a cp h ee ha=>
  rintro rfl y e;simp only[AV.aV,mS]at e;obtain⟨k',hk,rfl⟩:=e;exact .cW _ _ esz i n g a cp ((rC hk).trans h) ee ha
 |cX l k esz i n g a cp m' c h af ee ha=>
  rintro rfl y e;simp only[AV.aV,mS]at e;obtain⟨k',hk,rfl⟩:=e;exact .cX _ _ esz i n g a cp m' c ((rC hk).trans h) af ee ha
 |cH l k esz a h=>
  rintro rfl y e;simp only[AV.aV,mS]at e;obtain⟨k',hk,rfl⟩:=e;exact .cH _ _ esz a ((rC hk).trans h)
 |loc l k esz i n g c cap cp a h ee bU hc ha=>
  rintro rfl y e;simp only[AV.aV,mS]at e;obtain⟨k',hk,rfl⟩:=e;exact .loc _ _ esz i n g c cap cp a ((rC hk).trans h) ee bU hc ha
 |bP l k esz o n c cp a h ee ha=>
  rintro rfl y e;simp only[AV.aV,mS]at e;obtain⟨k',hk,rfl⟩:=e;exact .bP _ _ esz o n c cp a ((rC hk).trans h) ee ha
 |bQ=>intro _ y e;simp only[AV.aV,oE]at e;subst e;exact .bQ
 |ptr l k o c h=>
  rintro rfl y e;simp only[AV.aV,mS]at e;obtain⟨k',hk,rfl⟩:=e;exact .ptr _ _ o c ((rC hk).trans h)
 |eY l k esz i o g a h=>
  rintro rfl y e;simp only[AV.aV,mS]at e;obtain⟨k',hk,rfl⟩:=e;exact .eY _ _ esz i o g a ((rC hk).trans h)
 |eZ l k esz i o g a m' c h af=>
  rintro rfl y e;simp only[AV.aV,mS]at e;obtain⟨k',hk,rfl⟩:=e;exact .eZ _ _ esz i o g a m' c ((rC hk).trans h) af
 |bz l k esz i o g c cap h=>
  rintro rfl y e;simp only[AV.aV,mS]at e;obtain⟨k',hk,rfl⟩:=e;exact .bz _ _ esz i o g c cap ((rC hk).trans h)
 |aL es i o cb off esz u h1 h2 h3 h4 _=>intro _ y e;simp only[AV.aV,oE]at e;subst e;exact .aL es i o cb off esz u h1 h2 h3 h4
 |cg=>intro _ y e;simp only[AV.aV,oE]at e;subst e;exact .cg
 |fn f first cap vf vc h1 h2 _ _ jL jM=>
  intro e0 y e
  simp only[AV.aV]at e
  split at e
  ·rename_i a b ha hb
   obtain rfl:=oi e
   have g1:=vm ks _ _ ha
   have g2:=vm ks _ _ hb
   refine .fn f _ _ vf vc (g1.1.trans h1) (g2.1.trans h2) ?_ ?_
   ·intro i x v hx hv
    have af:i<first.length:=by rw[<-g1.1];exact(gS.1 hx).1
    obtain⟨z,hz,hr⟩:=g1.2 i _ (gG af)
    rw[hx]at hz;obtain rfl:=oi hz
    exact jL i _ v (gG af) hv e0 hr
   ·intro i x v hx hv
    have af:i<cap.length:=by rw[<-g2.1];exact(gS.1 hx).1
    obtain⟨z,hz,hr⟩:=g2.2 i _ (gG af)
    rw[hx]at hz;obtain rfl:=oi hz
    exact jM i _ v (gG af) hv e0 hr
  ·cases e
 |cj=>intro _ y e;simp only[AV.aV,oE]at e;subst e;exact .cj
 |cq t x v _ ih=>
  intro e0 y e
  simp only[AV.aV,mS]at e
  obtain⟨z,hz,rfl⟩:=e
  exact .cq t _ v (ih e0 hz)
 |agg cs vs h1 h2 _ ih=>
  intro e0 y e
  simp only[AV.aV,mS]at e
  obtain⟨z,hz,rfl⟩:=e
  have g:=vm ks _ _ hz
  refine .agg _ vs (g.1.trans h1) ?_ ?_
  ·intro x hx
   obtain⟨i,hi⟩:=BH.1 hx
   have af:i<cs.length:=by rw[<-g.1];exact(gS.1 hi).1
   obtain⟨q,hq,hr⟩:=g.2 i _ (gG af)
   rw[hi]at hq;obtain rfl:=oi hq
   rw[ajG hr];exact h2 _ (List.getElem_mem af)
  ·intro i x v hx hv
   have af:i<cs.length:=by rw[<-g.1];exact(gS.1 hx).1
   obtain⟨q,hq,hr⟩:=g.2 i _ (gG af)
   rw[hx]at hq;obtain rfl:=oi hq
   exact ih i _ v (gG af) hv e0 hr
 |aw xs vs h1 _ ih=>
  intro e0 y e
  simp only[AV.aV,mS]at e
  obtain⟨z,hz,rfl⟩:=e
  have g:=vm ks _ _ hz
  refine .aw _ vs (g.1.trans h1) ?_
  intro i x v hx hv
  have af:i<xs.length:=by rw[<-g.1];exact(gS.1 hx).1
  obtain⟨q,hq,hr⟩:=g.2 i _ (gG af)
  rw[hx]at hq;obtain rfl:=oi hq
  exact ih i _ v (gG af) hv e0 hr
 |dead v=>intro _ y e;simp only[AV.aV,oE]at e;subst e;exact .dead v
def AJ.aV (ks:List Nat):AJ->Option AJ
 |.arr et e es=>some (.arr et e es)
 |.box cs=>(AV.dR ks cs).map .box
def lT (ks:List Nat) (fr:AH):Nat->List Nat->Option AH
 |_,[]=>some []
 |i,k::r=>match look fr k with
  |none=>lT ks fr (i+1) r
  |some b=>match b.aV ks,lT ks fr (i+1) r with
   |some b,some l=>some ((i,b)::l)
   |_,_=>none
def vn (ks:List Nat) (tm:List (Nat×AV)):List Nat->Option (List (Nat×AV))
 |[]=>some []
 |t::r=>match look tm t with
  |none=>none
  |some x=>match x.aV ks,vn ks tm r with
   |some x,some l=>some ((t,x)::l)
   |_,_=>none
def St.norm (st:St) (oz ks:List Nat) (nx:Nat):Option St:=
 match vn ks st.tm oz,lT ks st.fr 0 ks with
 |some tm,some fr=>some ⟨tm,fr,st.low,nx,st.nt⟩
 |_,_=>none
theorem ajD (ks:List Nat) (fr:AH):∀ (r:List Nat) (i:Nat) (f:AH),lT ks fr i r=some f->∀ j b,look f j=some b->i<=j/\∃ k b0,r[j - i]?=some k/\look fr k=some b0/\b0.aV ks=some b
 |[],i,f,h,j,b,hj=>by simp only[lT,oE]at h;subst h;simp[look]at hj
 |k::r,i,f,h,j,b,hj=>by
  have step:∀ f',lT ks fr (i+1) r=some f'->look f' j=some b->i<=j/\∃ k' b0,(k::r)[j - i]?=some k'/\look fr k'=some b0/\b0.aV ks=some b:=by
   intro f' h1 h2
   obtain⟨h3,k',b0,h4,h5,h6⟩:=ajD ks fr r (i+1) f' h1 j b h2
   refine⟨by omega,k',b0,?_,h5,h6⟩
   have e:j - i=(j - (i+1))+1:=by omega
   rw[e,Ci];exact h4
  simp only[lT]at h
  split at h
  ·exact step f h hj
  ·rename_i b0 gb
   split at h
   ·rename_i b' l cK hl
    obtain rfl:=oi h
    simp only[look]at hj
    split at hj
    ·rename_i e
     subst e
     obtain rfl:=oi hj
     exact⟨AY _,k,b0,by simp,gb,cK⟩
    ·exact step l hl hj
   ·cases h
theorem afg (ks:List Nat) (tm:List (Nat×AV)):∀ (r:List Nat) (f:List (Nat×AV)),vn ks tm r=some f->∀ t y,look f t=some y->∃ x,look tm t=some x/\x.aV ks=some y
 |[],f,h,t,y,hy=>by simp only[vn,oE]at h;subst h;simp[look]at hy
 |t0::r,f,h,t,y,hy=>by
  simp only[vn]at h
  split at h
  ·cases h
  ·rename_i x hx
   split at h
   ·rename_i x' l jq hl
    obtain rfl:=oi h
    simp only[look]at hy
    split at hy
    ·rename_i e
     subst e
     obtain rfl:=oi hy
     exact⟨x,hx,jq⟩
    ·exact afg ks tm r l hl t y hy
   ·cases h
theorem HR.aV {t:Aw}{rest:List Aw}{fr aZ:AH}{low:Heap}{w:World}{ks:List Nat} (h:HR N0 W0 fm (t::rest) (fr::low) w) (hf:lT ks fr 0 ks=some aZ) (bY:ks.Nodup):
  HR N0 W0 fm (fe ks t::rest) (aZ::low) w:=by
 have src:∀ l k b,Heap.get (aZ::low) l k=some b->∃ k0 b0,Heap.get (fr::low) l k0=some b0/\tb (fe ks t::rest) l k=tb (t::rest) l k0/\(l=0->ks[k]?=some k0/\b0.aV ks=some b)/\(l≠0->k0=k/\b0=b):=by
  intro l k b hg
  cases l with
  |zero=>
   obtain⟨_,k0,b0,h1,h2,h3⟩:=ajD ks fr ks 0 aZ hf k b (by simpa [Heap.get] using hg)
   have h1:ks[k]?=some k0:=by simpa using h1
   exact⟨k0,b0,by simpa [Heap.get] using h2,by simp[tb,fe,h1],fun _=>⟨h1,h3⟩,fun h=>absurd rfl h⟩
  |succ l=>exact⟨k,b,by simpa [Heap.get] using hg,by simp[tb],fun h=>by omega,fun _=>⟨rfl,rfl⟩⟩
 refine⟨by have:=h.len;simpa using this,?_,?_,h.cV,?_,h.dL,h.size,h.dH⟩
 ·intro l k b hg
  obtain⟨k0,b0,h1,h2,h3,h4⟩:=src l k b hg
  rw[h2]
  have hb:=h.aD l k0 b0 h1
  cases l with
  |zero=>
   obtain⟨_,hr⟩:=h3 rfl
   simp only[List.drop_zero]at hb ⊢
   generalize tb (t::rest) 0 k0=tt at hb
   cases hb with
   |box c cs hN hB=>
    simp only[AJ.aV,mS]at hr
    obtain⟨ys,hy,rfl⟩:=hr
    have g:=vm ks _ _ hy
    obtain⟨cells,et,c1,c2,c3⟩:=hB
    refine .box c _ hN ⟨cells,et,c1,by rw[g.1];exact c2,?_⟩
    intro o x v hx hv
    have af:o<cs.length:=by rw[<-g.1];exact(gS.1 hx).1
    obtain⟨z,hz,hzr⟩:=g.2 o _ (gG af)
    rw[hx]at hz;obtain rfl:=oi hz
    have:=c3 o _ v (gG af) hv
    exact⟨by rw[ajG hzr];exact this.1,this.2.aV rfl hzr⟩
   |nil et esz=>simp only[AJ.aV,oE]at hr;subst hr;exact .nil et esz
   |arr et esz es c cap hN hA=>simp only[AJ.aV,oE]at hr;subst hr;exact .arr et esz es c cap hN hA
  |succ l=>
   obtain⟨rfl,rfl⟩:=h4 (by omega)
   simpa using hb
 ·intro l1 k1 l2 k2 b1 b2 c g1 g2 t1 t2
  obtain⟨j1,a1,p1,q1,r1,s1⟩:=src l1 k1 b1 g1
  obtain⟨j2,a2,p2,q2,r2,s2⟩:=src l2 k2 b2 g2
  rw[q1]at t1
  rw[q2]at t2
  obtain⟨rfl,rfl⟩:=h.inj l1 j1 l2 j2 a1 a2 c p1 p2 t1 t2
  refine⟨rfl,?_⟩
  by_cases hl:l1=0
  ·have e1:=(r1 hl).1
   have e2:=(r2 hl).1
   have uN:=(gS.1 e1).1
   exact(List.getElem?_inj uN bY).1 (e1.trans e2.symm)
  ·have e1:=(s1 hl).1
   have e2:=(s2 hl).1
   omega
 ·intro l k b c o hg ht
  obtain⟨k0,b0,h1,h2,_,_⟩:=src l k b hg
  rw[h2]at ht
  exact h.eR l k0 b0 c o h1 ht
theorem Al.norm {st ay:St}{oz ks:List Nat}{nx:Nat} (e:st.norm oz ks nx=some ay) (bY:ks.Nodup) (kO:ks.length<=nx):Al n st ay:=by
 intro N0 W0 a w fm ts h
 unfold St.norm at e
 split at e
 ·rename_i tm fr eM nq
  obtain rfl:=oi e
  cases ts with
  |nil=>have:=h.hr.len;simp at this
  |cons t rest=>
   refine⟨fm,fe ks t::rest,⟨h.hr.aV nq bY,?_,?_,h.size,h.fy⟩,⟨AU.refl _ _,AD.refl _,fun _ _ h=>h⟩⟩
   ·intro i y hy
    obtain⟨x,h1,h2⟩:=afg ks st.tm oz tm eM i y hy
    obtain⟨v,h3,h4⟩:=h.tm i x h1
    exact⟨v,h3,h4.aV rfl h2⟩
   ·intro k hk
    have e9:nx<=k:=hk
    simp only[tb,fe]
    rw[CF (by omega)];rfl
 ·cases e
end
section
variable [Md] {P:Program}{T:AR}{N0:Nat}{W0:World}{n:Nat}{fm:FM}{ts:List Aw}
def acC (T:AR) (st:St):ResultVar->Option AV
 |.tmp t=>look st.tm t
 |.cell a t=>match T t,look st.tm a with
  |some ti,some x=>o9 st.get ti x
  |_,_=>none
def ij (T:AR) (st:St):List ResultVar->Option (List AV)
 |[]=>some []
 |r::l=>match acC T st r,ij T st l with
  |some x,some l=>some (x::l)
  |_,_=>none
def cm:List AV->AV
 |[x]=>x
 |l=>.aw l
theorem arf (hT:AX P T) {st:St}{a:Act}{w:World} (h:SR N0 W0 n st a w fm ts) {r:ResultVar}{x:AV} (e:acC T st r=some x):
  ∃ v,(match r with
   |.tmp t=>(pure (a.tmps.getD t undef):Sem Value)
   |.cell b t=>do loadVar t (<-asAddr (a.tmps.getD b undef))).run P w=.ok v w/\VR fm ts x v:=by
 cases r with
 |tmp t=>
  obtain⟨v,h1,h2⟩:=h.tm t x e
  exact⟨v,by simp[Array.getD_eq_getD_getElem?,h1],h2⟩
 |cell b t=>
  simp only[acC]at e
  split at e
  ·rename_i ti y ht hy
   obtain⟨v,h1,h2⟩:=h.tm b y hy
   obtain⟨u,h3,h4⟩:=ag3 (P:=P) hT ht h.hr h2 e
   refine⟨u,?_,h4⟩
   have hg:a.tmps.getD b undef=v:=by simp[Array.getD_eq_getD_getElem?,h1]
   unfold o9 at e
   cases hc:jc st.get ti.size y with
   |none=>rw[hc]at e;cases e
   |some cs=>
    obtain⟨ad,vs,rfl,_⟩:=h.hr.jc h2 hc
    simp only[hg,asAddr,Sem.run_bind,Sem.run_pure,Result.andThen_ok]
    simpa [Instr.loadAt,Instr.sureAddr] using h3
  ·cases e
theorem tC (hT:AX P T) {st:St}{a:Act}{w:World} (h:SR N0 W0 n st a w fm ts) {fn:Func}{xs:List AV} (e:ij T st fn.results.toList=some xs):
  ∃ v,(results fn a.tmps).run P w=.ok v w/\VR fm ts (cm xs) v:=by
 have key:∀ (l:List ResultVar) (xs:List AV),ij T st l=some xs->∃ vs:List Value,(l.mapM (m:=Sem) fun
   |.tmp t=>(pure (a.tmps.getD t undef):Sem Value)
   |.cell b t=>do loadVar t (<-asAddr (a.tmps.getD b undef))).run P w=.ok vs w/\AG fm ts xs vs:=by
  intro l
  induction l with
  |nil=>intro xs e;simp only[ij,oE]at e;subst e;exact⟨[],by simp,rfl,fun i x v h=>by simp at h⟩
  |cons r l ih=>
   intro xs e
   simp only[ij]at e
   split at e
   ·rename_i x l' hx hl
    obtain rfl:=oi e
    obtain⟨v,h1,h2⟩:=arf (P:=P) hT h hx
    obtain⟨vs,h3,h4⟩:=ih l' hl
    refine⟨v::vs,?_,by simp[h4.1],?_⟩
    ·simp only[List.mapM_cons,Sem.run_bind,h1,h3,Result.andThen_ok,Sem.run_pure]
    ·intro i y u hy hu
     cases i with
     |zero=>simp only[Cl,oE]at hy hu;subst hy hu;exact h2
     |succ i=>simp only[Ci]at hy hu;exact h4.2 i y u hy hu
   ·cases e
 obtain⟨vs,h1,h2⟩:=key _ _ e
 have hr:(results fn a.tmps).run P w=.ok (if h:vs.toArray.size=1 then vs.toArray[0] else .tuple vs.toArray) w:=by
  unfold results
  rw[<-Array.toArray_toList (xs:=fn.results),List.mapM_toArray]
  simp only[Sem.run_bind,Sem.run_map,Sem.run_pure]
  erw [h1]
  rfl
 refine⟨_,hr,?_⟩
 have hl:=h2.1
 match xs,vs,hl,h2 with
 |[],[],_,h2=>exact .aw [] #[] rfl (fun i x v h=>by simp at h)
 |[x],[v],_,h2=>exact h2.2 0 x v rfl rfl
 |x::y::xs,v::u::vs,_,h2=>
  have:¬ ((v::u::vs).toArray.size=1):=by simp
  rw[dif_neg this]
  exact .aw _ _ (by simpa using h2.1) (fun i x v a b=>h2.2 i x v a (by simpa using b))
def tZ:Nat->List AV->List (Nat×AV)
 |_,[]=>[]
 |i,x::l=>(i,x)::tZ (i+1) l
theorem afJ:∀ (l:List AV) (i t:Nat) (x:AV),look (tZ i l) t=some x->i<=t/\l[t - i]?=some x
 |[],i,t,x,h=>by simp[tZ,look]at h
 |y::l,i,t,x,h=>by
  simp only[tZ,look]at h
  split at h
  ·rename_i e
   subst e
   obtain rfl:=oi h
   exact⟨AY _,by simp⟩
  ·obtain⟨h1,h2⟩:=afJ l (i+1) t x h
   refine⟨by omega,?_⟩
   have e:t - i=(t - (i+1))+1:=by omega
   rw[e,Ci];exact h2
def St.enter (args:List AV) (H:Heap) (n:Nat):St:=⟨tZ 0 args,[],H,0,n⟩
theorem HR.push {H:Heap}{w:World} (h:HR N0 W0 fm ts H w):HR N0 W0 fm (dF::ts) ([]::H) w:=by
 refine⟨by simp[h.len],?_,?_,h.cV,?_,h.dL,h.size,h.dH⟩
 ·intro l k b hg
  cases l with
  |zero=>simp[Heap.get,look]at hg
  |succ l=>simpa [tb] using h.aD l k b (by simpa [Heap.get] using hg)
 ·intro l1 k1 l2 k2 b1 b2 c g1 g2 t1 t2
  cases l1 with
  |zero=>simp[Heap.get,look]at g1
  |succ l1=>
   cases l2 with
   |zero=>simp[Heap.get,look]at g2
   |succ l2=>
    have:=h.inj l1 k1 l2 k2 b1 b2 c (by simpa [Heap.get] using g1) (by simpa [Heap.get] using g2) (by simpa [tb] using t1) (by simpa [tb] using t2)
    exact⟨by omega,this.2⟩
 ·intro l k b c o hg ht
  cases l with
  |zero=>simp[Heap.get,look]at hg
  |succ l=>exact h.eR l k b c o (by simpa [Heap.get] using hg) (by simpa [tb] using ht)
theorem SR.enter {H:Heap}{w:World} (h:HR N0 W0 fm ts H w) {args:List AV}{vs:List Value} (hv:AG fm (dF::ts) args vs) {n:Nat} (hn:args.length<=n):
  SR N0 W0 n (St.enter args H n) { tmps:=vs.toArray++Array.replicate (n - vs.toArray.size) undef,defers:=Md.wg } w fm (dF::ts):=by
 have hl:=hv.1
 refine⟨h.push,?_,fun k _=>rfl,by simp;omega,rfl⟩
 intro t x hx
 obtain⟨_,hx⟩:=afJ args 0 t x hx
 simp only[Nat.sub_zero]at hx
 have af:t<vs.length:=by rw[<-hl];exact(gS.1 hx).1
 refine⟨vs[t],?_,hv.2 t x _ hx (gG af)⟩
 rw[Array.getElem?_append_left (by simpa using af)]
 simp[af]
inductive D9 (R:AV->AH->Heap->Prop) (v:AV) (st:St):Prop
 |own (ks:List Nat) (y:AV) (fr:AH) (hn:ks.Nodup) (hk:ks.length<=16) (hy:v.aV ks=some y) (hf:lT ks st.fr 0 ks=some fr) (h:R y fr st.low)
 |ak (y:AV) (hy:v.ak st.get=some y) (hr:(v.refs.all fun p=>p.1==0)=true) (h:R y [] st.low)
def Ends (T:AR) (rs:List ResultVar) (R:AV->AH->Heap->Prop) (e:Exit) (st:St):Prop:=
 match e with
 |.normal|.ret=>∃ xs,ij T st rs=some xs/\D9 R (cm xs) st
 |_=>False
theorem HR.pop {t:Aw}{f:AH}{H:Heap}{w:World} (h:HR N0 W0 fm (t::ts) (f::H) w):HR N0 W0 fm ts H w:=by
 refine⟨by have:=h.len;simpa using this,?_,?_,h.cV,?_,h.dL,h.size,h.dH⟩
 ·intro l k b hg
  simpa [tb] using h.aD (l+1) k b (by simpa [Heap.get] using hg)
 ·intro l1 k1 l2 k2 b1 b2 c g1 g2 t1 t2
  have:=h.inj (l1+1) k1 (l2+1) k2 b1 b2 c (by simpa [Heap.get] using g1) (by simpa [Heap.get] using g2) (by simpa [tb] using t1) (by simpa [tb] using t2)
  exact⟨by omega,this.2⟩
 ·intro l k b c o hg ht
  exact h.eR (l+1) k b c o (by simpa [Heap.get] using hg) (by simpa [tb] using ht)
theorem aiD {r:List (Nat×Nat)} (hr:(r.all fun p=>p.1==0)=true):∀ (f:AH) (H:Heap),∃ f',Heap.bV (f::H) (iE r)=f'::H:=by
 induction r with
 |nil=>intro f H;exact⟨f,rfl⟩
 |cons p r ih=>
  intro f H
  simp only[List.all_cons,Bo,beq_iff_eq]at hr
  obtain⟨l,k⟩:=p
  obtain⟨h1,h2⟩:=hr
  simp only at h1
  subst h1
  exact ih h2 (del f k) H
end
section
variable {P:Program}{T:AR}{N0:Nat}{W0:World}{n:Nat}{fm:FM}{ts:List Aw}
theorem CE.gD (hT : AX P T) {f : FuncId} {fn : Func} {c : Code} {sc : SC} {args : List AV} {H : Heap} {R : AV → AH → Heap → Prop} (hf : P.funcs[f]? = some fn) (hb : fn.body = some c) (jJ : (fn.name == "runtime.NumGoroutine") = false)
  (he:sc.bare=erase fn.ntmps c) (eT:(erase fn.ntmps c).fits fn.ntmps=true) (fC:args.length<=fn.ntmps)
  (h:AK P fn.ntmps (Ends T fn.results.toList fun y fr H'=>R y fr H') [.sc sc] (St.enter args H fn.ntmps)) (iN:∀ y fr H',R y fr H'->H'.length=H.length):CE P f args H R:=by
 refine⟨⟨fn,hf,jJ,by simp[hb]⟩,?_⟩
 intro N0 W0 fm ts w vs hH hv
 refine calls_of_wp hf hb ((yc []).1 ?_)
 have hS:=SR.enter hH hv fC
 have:=h N0 W0 fm (dF::ts) _ w [.code c] (bodyPost P fn fun e w'=>∃ v av aZ H' fm' t' ts',e=.returned v/\R av aZ H'/\H'.length=H.length/\HR N0 W0 fm' (t'::ts') (aZ::H') w'/\VR fm' (t'::ts') av v/\AU N0 fm fm'/\AD ts ts'/\
   (∀ l k,tb ts l k=none->tb ts' l k=none)/\∀ k,16<=k->t' k=none) hS (.sc he eT .nil) ?_
 ·exact this
 ·intro e ay a' w' fm' ts' hE du hL
  have fin:(∃ xs,ij T ay fn.results.toList=some xs/\D9 R (cm xs) ay)->a'.defers=[]/\∃ v,(results fn a'.tmps).run P w'=.ok v w'/\∃ v_1 av aZ H' fm' t' ts',Ending.returned v=.returned v_1/\R av aZ H'/\H'.length=H.length/\HR N0 W0 fm' (t'::ts') (aZ::H') w'/\VR fm' (t'::ts') av v_1/\AU N0 fm fm'/\AD ts ts'/\
    (∀ l k,tb ts l k=none->tb ts' l k=none)/\∀ k,16<=k->t' k=none:=by
   rintro⟨xs,gm,hg⟩
   obtain⟨v,h1,h2⟩:=tC (P:=P) hT du gm
   refine⟨du.fy,v,h1,?_⟩
   cases ts' with
   |nil=>have:=du.hr.len;simp at this
   |cons t rest=>
    have iQ:AD ts rest:=by simpa using hL.ke
    have bw:∀ l k,tb ts l k=none->tb rest l k=none:=by simpa using hL.no
    cases hg with
    |own ks y fr hn hk hy nq hR=>
     exact⟨v,y,fr,ay.low,fm',fe ks t,rest,rfl,hR,iN _ _ _ hR,du.hr.aV nq hn,h2.aV rfl hy,hL.fj,iQ,bw,fun k e9=>by simp only[fe];rw[CF (by omega)];rfl⟩
    |ak y hy hr hR=>
     have h3:=du.hr.ak (cm xs).refs h2 hy (fun _ h=>h)
     have h4:=du.hr.tk (cm xs).refs
     obtain⟨f',zq⟩:=aiD hr ay.fr ay.low
     rw[zq]at h4
     have zR:∀ l k,tb (iW (t::rest) (cm xs).refs) (l+1) k=tb rest l k:=by
      intro l k
      rw[mX,if_neg]
      ·simp[tb]
      ·rintro⟨hm,_⟩
       have:=List.all_eq_true.1 hr _ hm
       simp at this
     have hlen:=aeE (cm xs).refs (t::rest)
     cases hg:iW (t::rest) (cm xs).refs with
     |nil=>rw[hg]at hlen;simp at hlen
     |cons t2 aay=>
      rw[hg]at h4 zR
      have e2:∀ l k,tb aay l k=tb rest l k:=fun l k=>by simpa [tb] using zR l k
      have b9:=du.hr.wq (cm xs).refs
      exact⟨v,y,[],ay.low,_,dF,aay,rfl,hR,iN _ _ _ hR,h4.pop.push,h3.mono (Bh.refl _) (AD.nil _),hL.fj.trans b9,fun l k=>by rw[e2];exact iQ l k,fun l k hh=>by rw[e2];exact bw l k hh,fun _ _=>rfl⟩
  cases e with
  |normal=>exact fin hE
  |ret=>exact fin hE
  |_=>exact hE.elim
end
mutual
theorem adX (G:AW):∀ (x y:AV),x.ak G=some y->y.ak (fun _ _=>none)=some y
 |.loc l k e i n g,y,h=>by
  simp only[AV.ak]at h
  split at h
  ·split at h
   ·obtain rfl:=oi h;simp[AV.ak]
   ·cases h
  ·cases h
 |.nil,y,h=>by simp only[AV.ak,oE]at h;subst h;simp[AV.ak]
 |.cq t v,y,h=>by
  simp only[AV.ak,mS]at h
  obtain⟨a,h1,rfl⟩:=h
  simp only[AV.ak,adX G v a h1,Be]
 |.agg cs,y,h=>by
  simp only[AV.ak,mS]at h
  obtain⟨a,h1,rfl⟩:=h
  simp only[AV.ak,y7 G cs a h1,Be]
 |.aw vs,y,h=>by
  simp only[AV.ak,mS]at h
  obtain⟨a,h1,rfl⟩:=h
  simp only[AV.ak,y7 G vs a h1,Be]
 |.bool b,y,h=>by simp only[AV.ak,oE]at h;subst h;simp[AV.ak]
 |.int k n,y,h=>by simp only[AV.ak,oE]at h;subst h;simp[AV.ak]
 |.str s,y,h=>by simp only[AV.ak,oE]at h;subst h;simp[AV.ak]
 |.sl e es,y,h=>by simp only[AV.ak,oE]at h;subst h;simp[AV.ak]
 |.bQ,y,h=>by simp only[AV.ak,oE]at h;subst h;simp[AV.ak]
 |.cg,y,h=>by simp only[AV.ak,oE]at h;subst h;simp[AV.ak]
 |.cj,y,h=>by simp only[AV.ak,oE]at h;subst h;simp[AV.ak]
 |.fn f a b,y,h=>by
  simp only[AV.ak]at h
  split at h
  ·rename_i x z hx hz
   obtain rfl:=oi h
   simp only[AV.ak,y7 G a x hx,y7 G b z hz]
  ·cases h
 |.bP ..,y,h=>by simp[AV.ak]at h
 |.ptr ..,y,h=>by simp[AV.ak]at h
 |.bz ..,y,h=>by simp[AV.ak]at h
 |.aL ..,y,h=>by simp only[AV.ak,oE]at h;subst h;simp[AV.ak]
 |.dead,y,h=>by simp[AV.ak]at h
theorem y7 (G:AW):∀ (l ys:List AV),AV.aQ G l=some ys->AV.aQ (fun _ _=>none) ys=some ys
 |[],ys,h=>by simp only[AV.aQ,oE]at h;subst h;rfl
 |x::l,ys,h=>by
  simp only[AV.aQ]at h
  split at h
  ·rename_i a b ha hb
   obtain rfl:=oi h
   simp only[AV.aQ,adX G x a ha,y7 G l b hb]
  ·cases h
end
def AV.leaf:AV->Bool
 |.bool _|.int _ _|.str _|.nil|.bQ|.cg|.cj=>true
 |_=>false
def AV.cS:AV->Bool
 |.agg cs=>cs.all AV.leaf
 |.aw vs=>vs.all AV.leaf
 |x=>x.leaf
theorem VR.leaf {fm fm':FM}{ts ts':List Aw}{x:AV}{v:Value} (h:VR fm ts x v) (hx:x.leaf=true):VR fm' ts' x v:=by
 cases h<;>first|(simp[AV.leaf]at hx;done)|constructor
theorem VR.cS {fm fm':FM}{ts ts':List Aw}{x:AV}{v:Value} (h:VR fm ts x v) (hx:x.cS=true):VR fm' ts' x v:=by
 cases h with
 |agg cs vs h1 h2 h3=>exact .agg cs vs h1 h2 (fun i x v a b=>(h3 i x v a b).leaf (List.all_eq_true.1 hx x (A6 a)))
 |aw xs vs h1 h3=>exact .aw xs vs h1 (fun i x v a b=>(h3 i x v a b).leaf (List.all_eq_true.1 hx x (A6 a)))
 |_=>first|(simp[AV.cS,AV.leaf]at hx;done)|constructor
def D7 (fm:FM) (w:World):Prop:=∀ b o v,fm b o=some v->w.cell? ⟨b,o,none⟩=some v
def Ay (P:Program) (f:FuncId) (args:List AV) (R:AV->Prop):Prop:=
 Enters P f/\∀ fm w vs,D7 fm w->AG fm [] args vs->
  Calls P f vs.toArray w fun e w'=>∃ v y fm',e=.returned v/\R y/\D7 fm' w'/\VR fm' [] y v/\AU w.heap.size fm fm'/\Below w.heap.size w w'
def DT (T:AR) (rs:List ResultVar) (R:AV->Prop) (e:Exit) (st:St):Prop:=
 match e with
 |.normal|.ret=>st.low=[]/\∃ xs y,ij T st rs=some xs/\(cm xs).ak st.get=some y/\R y
 |_=>False
section
variable {P:Program}{T:AR}{N0:Nat}{W0:World}{n:Nat}{fm:FM}{ts:List Aw}{H:Heap}{w:World}
theorem HR.nothing {w:World} (h:D7 fm w):HR w.heap.size w fm [] [] w:=
 ⟨rfl,fun l k b hg=>by simp[Heap.get]at hg,fun l k l' k' b b' c hg=>by simp[Heap.get]at hg,h,fun l k b c o hg=>by simp[Heap.get]at hg,Below.refl _ _,AY _,fun _ _ h _=>h⟩
theorem Ay.gD (hT : AX P T) {f : FuncId} {fn : Func} {c : Code} {sc : SC} {args : List AV} {R : AV → Prop} (hf : P.funcs[f]? = some fn) (hb : fn.body = some c) (jJ : (fn.name == "runtime.NumGoroutine") = false)
  (he:sc.bare=erase fn.ntmps c) (eT:(erase fn.ntmps c).fits fn.ntmps=true) (fC:args.length<=fn.ntmps)
  (h:AK P fn.ntmps (DT T fn.results.toList R) [.sc sc] (St.enter args [] fn.ntmps)):Ay P f args R:=by
 have hA:CE P f args [] (fun y fr H'=>fr=[]/\H'=[]/\y.ak (fun _ _=>none)=some y/\R y):=by
  refine CE.gD hT hf hb jJ he eT fC (h.mono ?_) (by rintro y fr H' ⟨_,rfl,_⟩;rfl)
  intro e st hE
  have fin:(st.low=[]/\∃ xs y,ij T st fn.results.toList=some xs/\(cm xs).ak st.get=some y/\R y)->
    ∃ xs,ij T st fn.results.toList=some xs/\D9 (fun y fr H'=>fr=[]/\H'=[]/\y.ak (fun _ _=>none)=some y/\R y) (cm xs) st:=by
   rintro⟨hl,xs,y,h1,h2,h3⟩
   refine⟨xs,h1,.ak y h2 ?_ ⟨rfl,hl,adX _ _ _ h2,h3⟩⟩
   rw[List.all_eq_true]
   intro p hp
   obtain⟨et,esz,es,hg⟩:=ad0 _ _ _ h2 p hp
   have af:=Heap.sD _ _ _ _ (show Heap.get (st.fr::st.low) p.1 p.2=_ from hg)
   rw[hl]at af
   simp at af
   simp[af]
  cases e with
  |normal=>exact fin hE
  |ret=>exact fin hE
  |_=>exact hE.elim
 refine⟨hA.1,fun fm w vs h1 h2=>Calls.mono (hA.2 w.heap.size w fm [] w vs (HR.nothing h1) (h2.mono (Bh.refl _) (AD.nil _))) ?_⟩
 rintro e w' ⟨v,av,aZ,H',fm',t',ts',rfl,⟨rfl,rfl,hz,hR⟩,_,cQ,bM,b9,_,_,_⟩
 refine⟨v,av,fm',rfl,hR,cQ.cV,?_,b9,cQ.dL⟩
 have:=cQ.vP (cs:=[av]) (ys:=[av]) (vs:=[v]) ⟨rfl,fun i x u a b=>by
  cases i with
  |zero=>simp at a b;subst a b;exact bM
  |succ i=>simp at a⟩ (by simp only[AV.aQ,hz])
 exact this.2 0 av v rfl rfl
theorem HR.up {fm':FM}{w':World} (h:HR N0 W0 fm ts H w) (hb:Below w.heap.size w w') (b9:AU w.heap.size fm fm') (bT:D7 fm' w'):HR N0 W0 fm' ts H w':=by
 have h1:=h.world (w':=w') (fun i hi=>hb.block i hi) (hb.mono h.size)
 refine⟨h1.len,fun l k b hg=>(h1.aD l k b hg).mono b9.le (AD.refl _) (fun _ _=>rfl),h1.inj,bT,?_,h1.dL,h1.size,h1.dH⟩
 intro l k b c o hg ht
 rw[b9.fix c o ((h.aD l k b hg).lt ht).1]
 exact h.eR l k b c o hg ht
theorem AU.low {fm fm':FM}{a b:Nat} (h:AU a fm fm') (hb:b<=a):AU b fm fm':=⟨h.le,fun x o hx=>h.fix x o (by omega)⟩
theorem Ay.frozen {f:FuncId}{args aE:List AV}{R:AV->Prop} (hp:Ay P f aE R) (hz:AV.aQ (Heap.get ([]::H)) args=some aE) (hr:AV.aT args=[]):
  CE P f args H (fun y fr H'=>R y/\fr=[]/\H'=H):=by
 refine⟨hp.1,fun N0 W0 fm ts w vs hH hv=>?_⟩
 have h1:=hH.push.aQ [] hv hz (by rw[hr];simp)
 rw[abT]at h1
 refine Calls.mono (hp.2 fm w vs hH.cV h1) ?_
 rintro e w' ⟨v,y,fm',rfl,hR,bT,bM,b9,hb⟩
 exact⟨v,y,[],H,fm',dF,ts,rfl,⟨hR,rfl,rfl⟩,rfl,(hH.up hb b9 bT).push,bM.mono (Bh.refl _) (AD.nil _),b9.low hH.size,AD.refl _,fun _ _ h=>h,fun _ _=>rfl⟩
theorem Ay.borrow {f:FuncId}{args aE:List AV}{R:AV->Prop} (hp:Ay P f aE R) (hz:AV.aQ (Heap.get ([]::H)) args=some aE) (hs:∀ y,R y->y.cS=true):
  CE P f args H (fun y fr H'=>R y/\fr=[]/\H'=H):=by
 refine⟨hp.1,fun N0 W0 fm ts w vs hH hv=>?_⟩
 have h1:=hH.push.aQ (AV.aT args) hv hz (fun _ h=>h)
 have h2:=(hH.push.tk (AV.aT args)).cV
 refine Calls.mono (hp.2 _ w vs h2 h1) ?_
 rintro e w' ⟨v,y,fm',rfl,hR,bT,bM,b9,hb⟩
 have lC:HR N0 W0 fm ts H w':=hH.world (fun i hi=>hb.block i hi) (hb.mono hH.size)
 exact⟨v,y,[],H,fm,dF,ts,rfl,⟨hR,rfl,rfl⟩,rfl,lC.push,bM.cS (hs y hR),AU.refl _ _,AD.refl _,fun _ _ h=>h,fun _ _=>rfl⟩
end
mutual
def AV.br (G:AW) (F:Nat->Nat->Option (List AV)):AV->Option AV
 |.loc l k e i n g=>(AV.loc l k e i n g).ak G
 |.ptr l k o=>match F l k with
  |some ys=>some (.aL ys.length [ys] 0 o)
  |none=>none
 |.bP l k e o n=>match F l k with
  |some ys=>if e=1/\o+n<=ys.length/\n<=65536 then some (.sl 1 (((ys.drop o).take n).map fun c=>[c])) else none
  |none=>none
 |.fn f a b=>match AV.dk G F a,AV.dk G F b with
  |some a,some b=>some (.fn f a b)
  |_,_=>none
 |.cq t v=>(v.br G F).map (.cq t)
 |.agg cs=>(AV.dk G F cs).map .agg
 |.aw vs=>(AV.dk G F vs).map .aw
 |.nil=>some .nil
 |.bool b=>some (.bool b)
 |.int k n=>some (.int k n)
 |.str s=>some (.str s)
 |.sl e es=>some (.sl e es)
 |.bQ=>some .bQ
 |.cg=>some .cg
 |.cj=>some .cj
 |.aL e es i o=>some (.aL e es i o)
 |_=>none
def AV.dk (G:AW) (F:Nat->Nat->Option (List AV)):List AV->Option (List AV)
 |[]=>some []
 |x::l=>match x.br G F,AV.dk G F l with
  |some x,some l=>some (x::l)
  |_,_=>none
end
def cZ (G:AW):Nat->Nat->Nat->Option (List AV)
 |0,_,_=>none
 |n+1,l,k=>match G l k with
  |some (.box cs)=>AV.dk G (cZ G n) (AV.dm l cs)
  |_=>none
theorem qn (G:AW) (F:Nat->Nat->Option (List AV)):∀ (cs ys:List AV),AV.dk G F cs=some ys->ys.length=cs.length/\∀ (i:Nat) (x:AV),cs[i]?=some x->∃ y,ys[i]?=some y/\x.br G F=some y
 |[],ys,h=>by simp only[AV.dk,oE]at h;subst h;simp
 |x::l,ys,h=>by
  simp only[AV.dk]at h
  split at h
  ·rename_i a b ha hb
   obtain rfl:=oi h
   have ih:=qn G F l b hb
   refine⟨by simp[ih.1],?_⟩
   intro i z hz
   cases i with
   |zero=>simp only[Cl,oE]at hz;subst hz;exact⟨a,by simp,ha⟩
   |succ i=>simp only[Ci]at hz ⊢;exact ih.2 i z hz
  ·cases h
theorem ads {G:AW}{F:Nat->Nat->Option (List AV)}{x y:AV} (h:x.br G F=some y):y.flat=x.flat:=by
 cases x with
 |loc l k e i n g=>simp only[AV.br]at h;exact abU h
 |ptr l k o=>
  simp only[AV.br]at h
  split at h
  ·obtain rfl:=oi h;rfl
  ·cases h
 |bP l k e o n=>
  simp only[AV.br]at h
  split at h
  ·split at h
   ·obtain rfl:=oi h;rfl
   ·cases h
  ·cases h
 |fn f a b=>
  simp only[AV.br]at h
  split at h
  ·obtain rfl:=oi h;rfl
  ·cases h
 |_=>
  first
  |(simp[AV.br]at h;done)
  |(simp only[AV.br,oE]at h;subst h;simp[AV.flat];done)
  |(simp only[AV.br,mS]at h;obtain⟨a,_,rfl⟩:=h;simp[AV.flat];done)
section
variable {N0:Nat}{W0:World}{fm:FM}{ts:List Aw}{H:Heap}{w:World}
def jD (w:World):FM:=fun b o=>w.cell? ⟨b,o,none⟩
theorem HR.brG (h:HR N0 W0 fm ts H w) {fm':FM}{G:AW} (hle:Bh fm fm') (hG:∀ l k b,G l k=some b->H.get l k=some b) (bG:∀ l k b c,G l k=some b->dg (tb ts l k)=some c->∀ o u,w.cell? ⟨c,o,none⟩=some u->fm' c o=some u) (F:Nat->Nat->Option (List AV)) (hF:∀ l k ys c,F l k=some ys->tb ts l k=some (.box c)->(∀ o u,w.cell? ⟨c,o,none⟩=some u->fm' c o=some u)/\∃ cells et,w.heap[c]?=some (.cells cells et (0,0))/\cells.size=ys.length/\
   ∀ (o:Nat) y v,ys[o]?=some y->cells[o]?=some v->y.flat=true/\VR fm' [] y v) {gH:List Aw}{x:AV}{v:Value} (hv:VR fm gH x v):
  gH=ts->∀ {y:AV},x.br G F=some y->VR fm' [] y v:=by
 have loc:∀ {l k esz i n g v y},VR fm ts (.loc l k esz i n g) v->(AV.loc l k esz i n g).ak G=some y->VR fm' [] y v:=by
  intro l k esz i n g v y hv hy
  have j4:(AV.loc l k esz i n g).ak H.get=some y/\∃ b,G l k=some b:=by
   simp only[AV.ak]at hy ⊢
   split at hy
   ·rename_i et aU es hg
    rw[hG l k _ hg];exact⟨hy,_,hg⟩
   ·cases hy
  obtain⟨hy1,b0,gb⟩:=j4
  refine(h.ak [(l,k)] hv hy1 (by simp[AV.refs])).mono ?_ (AD.refl _)
  intro b o u hu
  unfold jW at hu
  split at hu
  ·rename_i hb
   obtain⟨l',k',b',hm,hg,_,ht⟩:=hb
   simp only[CS,Prod.mk.injEq]at hm
   obtain⟨rfl,rfl⟩:=hm
   exact bG l' k' b0 b gb ht o u hu
  ·exact hle b o u hu
 induction hv with
 |bool b=>intro _ y e;simp only[AV.br,oE]at e;subst e;exact .bool b
 |int k n=>intro _ y e;simp only[AV.br,oE]at e;subst e;exact .int k n
 |str s=>intro _ y e;simp only[AV.br,oE]at e;subst e;exact .str s
 |nil=>intro _ y e;simp only[AV.br,oE]at e;subst e;exact .nil
 |dn e0 a cap=>intro _ y e;simp only[AV.br,oE]at e;subst e;exact .dn e0 a cap
 |sl es cb off esz cap u dM h1 h2 h3 h4 _=>intro _ y e;simp only[AV.br,oE]at e;subst e;exact(VR.sl es cb off esz cap u dM h1 h2 h3 h4 (ts:=[])).mono hle (AD.refl _)
 |cW l k esz i n g a cp ht hn ha=>rintro rfl y e;exact loc (.cW l k esz i n g a cp ht hn ha) (by simpa only [AV.br] using e)
 |cX l k esz i n g a cp m' c ht af hn ha=>rintro rfl y e;exact loc (.cX l k esz i n g a cp m' c ht af hn ha) (by simpa only [AV.br] using e)
 |cH l k esz a ht=>rintro rfl y e;exact loc (.cH l k esz a ht) (by simpa only [AV.br] using e)
 |loc l k esz i n g c cap cp a ht hn bU hc ha=>rintro rfl y e;exact loc (.loc l k esz i n g c cap cp a ht hn bU hc ha) (by simpa only [AV.br] using e)
 |bP l k esz o n c cp a ht hn ha=>
  rintro rfl y e
  simp only[AV.br]at e
  split at e
  ·rename_i ys mM
   split at e
   ·rename_i hc
    obtain⟨rfl,asX,hn6⟩:=hc
    obtain rfl:=oi e
    obtain⟨cP,cells,et,c1,c2,c3⟩:=hF l k ys c mM ht
    have hlen:(((ys.drop o).take n).map fun c=>[c]).length=n:=by simp;omega
    have get:∀ (i:Nat) (d:List AV),(((ys.drop o).take n).map fun c=>[c])[i]?=some d->∃ x,d=[x]/\ys[o+i]?=some x:=by
     intro i d hd
     rw[BX,mS]at hd
     obtain⟨x,hx,rfl⟩:=hd
     rw[Ca]at hx
     split at hx
     ·rw[Cu]at hx;exact⟨x,rfl,hx⟩
     ·cases hx
    by_cases sI:cp=0
    ·have:n=0:=by omega
     subst this
     simp only[List.take_zero,List.map_nil]
     exact .dn 1 (some a) cp
    ·have gB:=ha sI
     subst gB
     have one:∀ (i:Nat) (d:List AV) (o':Nat) (x:AV),(((ys.drop o).take n).map fun c=>[c])[i]?=some d->d[o']?=some x->o'=0/\∃ u,cells[o+i]?=some u/\x.flat=true/\VR fm' [] x u:=by
      intro i d o' x hd hx
      obtain⟨y,rfl,hy⟩:=get i d hd
      cases o' with
      |succ o'=>simp at hx
      |zero=>
       simp only[Cl,oE]at hx
       subst hx
       have af:o+i<cells.size:=by rw[c2];exact(gS.1 hy).1
       have sJ:=BV af
       exact⟨rfl,_,sJ,c3 (o+i) y _ hy sJ⟩
     have:=VR.sl (fm:=fm') (ts:=[]) (((ys.drop o).take n).map fun c=>[c]) c o 1 cp (fun i _=>(cells[o+i]?).getD default) (by rw[hlen];exact⟨hn,by simp[maxLen];omega⟩) (by
       intro d hd
       simp only[List.mem_map]at hd
       obtain⟨z,_,rfl⟩:=hd;rfl)
      (by
       intro i d o' x hd hx
       obtain⟨rfl,u,hu,_,_⟩:=one i d o' x hd hx
       refine cP _ _ ?_
       simp only[World.cell?,c1,Nat.mul_one,Nat.add_zero,hu]
       simp)
      (fun i d o' x hd hx=>(one i d o' x hd hx).2.elim fun u hu=>hu.2.1)
      (by
       intro i d o' x hd hx
       obtain⟨rfl,u,hu,_,hv⟩:=one i d o' x hd hx
       rw[hu]
       exact hv)
     rw[hlen]at this
     exact this
   ·cases e
  ·cases e
 |bQ=>intro _ y e;simp only[AV.br,oE]at e;subst e;exact .bQ
 |ptr l k o c ht=>
  rintro rfl y e
  simp only[AV.br]at e
  split at e
  ·rename_i ys mM
   obtain rfl:=oi e
   obtain⟨cP,cells,et,c1,c2,c3⟩:=hF l k ys c mM ht
   have one:∀ (i:Nat) (cc:List AV) (o:Nat) (x:AV),[ys][i]?=some cc->cc[o]?=some x->i=0/\∃ u,cells[o]?=some u/\x.flat=true/\VR fm' [] x u:=by
    intro i cc o x hi ho
    cases i with
    |succ i=>simp at hi
    |zero=>
     simp only[Cl,oE]at hi
     subst hi
     have af:o<cells.size:=by rw[c2];exact(gS.1 ho).1
     have sJ:=BV af
     exact⟨rfl,_,sJ,c3 o x _ ho sJ⟩
   have:=VR.aL (fm:=fm') (ts:=[]) [ys] 0 o c 0 ys.length (fun _ o=>(cells[o]?).getD default) (by intro cc cP;simp at cP;rw[cP])
    (by
     intro i cc o x hi ho
     obtain⟨rfl,u,hu,_,_⟩:=one i cc o x hi ho
     refine cP _ _ ?_
     simp only[World.cell?,c1,Nat.zero_mul,CA,hu]
     simp)
    (fun i cc o x hi ho=>(one i cc o x hi ho).2.elim fun u hu=>hu.2.1)
    (by
     intro i cc o x hi ho
     obtain⟨rfl,u,hu,_,hv⟩:=one i cc o x hi ho
     rw[hu]
     exact hv)
   simpa using this
  ·cases e
 |eY l k esz i o g a ht=>intro _ y e;simp[AV.br]at e
 |eZ l k esz i o g a m' c ht af=>intro _ y e;simp[AV.br]at e
 |bz l k esz i o g c cap ht=>intro _ y e;simp[AV.br]at e
 |aL es i o cb off esz u h1 h2 h3 h4 _=>intro _ y e;simp only[AV.br,oE]at e;subst e;exact(VR.aL es i o cb off esz u h1 h2 h3 h4 (ts:=[])).mono hle (AD.refl _)
 |cg=>intro _ y e;simp only[AV.br,oE]at e;subst e;exact .cg
 |fn f first cap vf vc h1 h2 _ _ jL jM=>
  rintro rfl y e
  simp only[AV.br]at e
  split at e
  ·rename_i a b ha hb
   simp only[oE]at e;subst e
   have g1:=qn G F _ _ ha
   have g2:=qn G F _ _ hb
   refine .fn f a b vf vc (by rw[g1.1];exact h1) (by rw[g2.1];exact h2) ?_ ?_
   ·intro i x v hx hv
    have af:i<first.length:=by rw[<-g1.1];exact(gS.1 hx).1
    obtain⟨y,hy,hu⟩:=g1.2 i _ (gG af)
    rw[hx]at hy;obtain rfl:=oi hy
    exact jL i _ v (gG af) hv rfl hu
   ·intro i x v hx hv
    have af:i<cap.length:=by rw[<-g2.1];exact(gS.1 hx).1
    obtain⟨y,hy,hu⟩:=g2.2 i _ (gG af)
    rw[hx]at hy;obtain rfl:=oi hy
    exact jM i _ v (gG af) hv rfl hu
  ·cases e
 |cj=>intro _ y e;simp only[AV.br,oE]at e;subst e;exact .cj
 |cq t x v _ ih=>
  rintro rfl y e;simp only[AV.br,mS]at e;obtain⟨z,hz,rfl⟩:=e
  exact .cq t z v (ih rfl hz)
 |agg cs vs h1 h2 _ ih=>
  rintro rfl y e;simp only[AV.br,mS]at e;obtain⟨z,hz,rfl⟩:=e
  have g:=qn G F _ _ hz
  refine .agg z vs (by rw[g.1];exact h1) ?_ ?_
  ·intro x hx
   obtain⟨i,hi⟩:=BH.1 hx
   have af:i<cs.length:=by rw[<-g.1];exact(gS.1 hi).1
   obtain⟨y,hy,hu⟩:=g.2 i _ (gG af)
   rw[hi]at hy;obtain rfl:=oi hy
   rw[ads hu]
   exact h2 _ (List.getElem_mem af)
  ·intro i x v hx hv
   have af:i<cs.length:=by rw[<-g.1];exact(gS.1 hx).1
   obtain⟨y,hy,hu⟩:=g.2 i _ (gG af)
   rw[hx]at hy;obtain rfl:=oi hy
   exact ih i _ v (gG af) hv rfl hu
 |aw xs vs h1 _ ih=>
  rintro rfl y e;simp only[AV.br,mS]at e;obtain⟨z,hz,rfl⟩:=e
  have g:=qn G F _ _ hz
  refine .aw z vs (by rw[g.1];exact h1) ?_
  intro i x v hx hv
  have af:i<xs.length:=by rw[<-g.1];exact(gS.1 hx).1
  obtain⟨y,hy,hu⟩:=g.2 i _ (gG af)
  rw[hx]at hy;obtain rfl:=oi hy
  exact ih i _ v (gG af) hv rfl hu
 |dead v=>intro _ y e;simp[AV.br]at e
theorem HR.br (h:HR N0 W0 fm ts H w) (F:Nat->Nat->Option (List AV)) (hF:∀ l k ys c,F l k=some ys->tb ts l k=some (.box c)->∃ cells et,w.heap[c]?=some (.cells cells et (0,0))/\cells.size=ys.length/\
   ∀ (o:Nat) y v,ys[o]?=some y->cells[o]?=some v->y.flat=true/\VR (jD w) [] y v) {gH:List Aw}{x:AV}{v:Value} (hv:VR fm gH x v):
  gH=ts->∀ {y:AV},x.br H.get F=some y->VR (jD w) [] y v:=by
 intro e y hy
 exact h.brG (fun b o v hv=>h.cV b o v hv) (fun _ _ _ h=>h) (fun _ _ _ _ _ _ _ _ h=>h) F (fun l k ys c a b=>⟨fun _ _ h=>h,hF l k ys c a b⟩) hv e hy
theorem HR.brs (h:HR N0 W0 fm ts H w) (F:Nat->Nat->Option (List AV)) (hF:∀ l k ys c,F l k=some ys->tb ts l k=some (.box c)->∃ cells et,w.heap[c]?=some (.cells cells et (0,0))/\cells.size=ys.length/\
   ∀ (o:Nat) y v,ys[o]?=some y->cells[o]?=some v->y.flat=true/\VR (jD w) [] y v) {cs ys:List AV}{vs:List Value} (hv:AG fm ts cs vs) (e:AV.dk H.get F cs=some ys):AG (jD w) [] ys vs:=by
 have g:=qn H.get F _ _ e
 refine⟨g.1.trans hv.1,?_⟩
 intro i x v hx uW
 have af:i<cs.length:=by rw[<-g.1];exact(gS.1 hx).1
 obtain⟨y,hy,hu⟩:=g.2 i _ (gG af)
 rw[hx]at hy;obtain rfl:=oi hy
 exact h.br F hF (hv.2 i _ v (gG af) uW) rfl hu
theorem HR.cZ (h:HR N0 W0 fm ts H w):∀ (n l k:Nat) (ys:List AV) (c:Nat),cZ H.get n l k=some ys->tb ts l k=some (.box c)->∃ cells et,w.heap[c]?=some (.cells cells et (0,0))/\cells.size=ys.length/\
   ∀ (o:Nat) y v,ys[o]?=some y->cells[o]?=some v->y.flat=true/\VR (jD w) [] y v:=by
 intro n
 induction n with
 |zero=>intro l k ys c e;simp[Abs.cZ]at e
 |succ n ih=>
  intro l k ys c e ht
  simp only[Abs.cZ]at e
  split at e
  ·rename_i cs hg
   have hb:=h.aD l k _ hg
   rw[ht]at hb
   cases hb with
   |box _ _ hN hB=>
    obtain⟨cells,et,c1,c2,c3⟩:=hB
    have g:=qn _ _ _ _ e
    have hlen:cells.size=ys.length:=by rw[g.1,nM];exact c2
    refine⟨cells,et,c1,hlen,?_⟩
    intro o y v hy hv
    have af:o<(AV.dm l cs).length:=by rw[<-g.1];exact(gS.1 hy).1
    obtain⟨y',j4,hu⟩:=g.2 o _ (gG af)
    rw[hy]at j4;obtain rfl:=oi j4
    have hx:(AV.dm l cs)[o]?=some (AV.dm l cs)[o]:=gG af
    rw[nL,mS]at hx
    obtain⟨x0,ek,jZ⟩:=hx
    have h3:=c3 o x0 v ek hv
    refine⟨by rw[ads hu,<-jZ,acJ];exact h3.1,?_⟩
    rw[<-jZ]at hu
    exact h.br _ ih (h3.2.sh l rfl) rfl hu
  ·cases e
theorem Ay.nD {P:Program}{f:FuncId}{args aE:List AV}{R:AV->Prop} (m:Nat) (hp:Ay P f aE R) (hz:AV.dk (Heap.get ([]::H)) (Abs.cZ (Heap.get ([]::H)) m) args=some aE) (hs:∀ y,R y->y.cS=true):
  CE P f args H (fun y fr H'=>R y/\fr=[]/\H'=H):=by
 refine⟨hp.1,fun N0 W0 fm ts w vs hH hv=>?_⟩
 have h1:=hH.push.brs _ (hH.push.cZ m) hv hz
 refine Calls.mono (hp.2 _ w vs (fun b o v h=>h) h1) ?_
 rintro e w' ⟨v,y,fm',rfl,hR,bT,bM,b9,hb⟩
 have lC:HR N0 W0 fm ts H w':=hH.world (fun i hi=>hb.block i hi) (hb.mono hH.size)
 exact⟨v,y,[],H,fm,dF,ts,rfl,⟨hR,rfl,rfl⟩,rfl,lC.push,bM.cS (hs y hR),AU.refl _ _,AD.refl _,fun _ _ h=>h,fun _ _=>rfl⟩
def only (G:AW) (rs:List (Nat×Nat)):AW:=fun l k=>if rs.contains (l,k) then G l k else none
theorem HR.agx (h:HR N0 W0 fm ts H w) {fm':FM}{G:AW} (hle:Bh fm fm') (hG:∀ l k b,G l k=some b->H.get l k=some b) (bG:∀ l k b c,G l k=some b->dg (tb ts l k)=some c->∀ o u,w.cell? ⟨c,o,none⟩=some u->fm' c o=some u):
  ∀ (n l k:Nat) (ys:List AV) (c:Nat),Abs.cZ G n l k=some ys->tb ts l k=some (.box c)->(∀ o u,w.cell? ⟨c,o,none⟩=some u->fm' c o=some u)/\∃ cells et,w.heap[c]?=some (.cells cells et (0,0))/\cells.size=ys.length/\
   ∀ (o:Nat) y v,ys[o]?=some y->cells[o]?=some v->y.flat=true/\VR fm' [] y v:=by
 intro n
 induction n with
 |zero=>intro l k ys c e;simp[Abs.cZ]at e
 |succ n ih=>
  intro l k ys c e ht
  simp only[Abs.cZ]at e
  split at e
  ·rename_i cs hg
   have hb:=h.aD l k _ (hG _ _ _ hg)
   refine⟨bG l k _ c hg (by rw[ht];rfl),?_⟩
   rw[ht]at hb
   cases hb with
   |box _ _ hN hB=>
    obtain⟨cells,et,c1,c2,c3⟩:=hB
    have g:=qn _ _ _ _ e
    have hlen:cells.size=ys.length:=by rw[g.1,nM];exact c2
    refine⟨cells,et,c1,hlen,?_⟩
    intro o y v hy hv
    have af:o<(AV.dm l cs).length:=by rw[<-g.1];exact(gS.1 hy).1
    obtain⟨y',j4,hu⟩:=g.2 o _ (gG af)
    rw[hy]at j4;obtain rfl:=oi j4
    have hx:(AV.dm l cs)[o]?=some (AV.dm l cs)[o]:=gG af
    rw[nL,mS]at hx
    obtain⟨x0,ek,jZ⟩:=hx
    have h3:=c3 o x0 v ek hv
    refine⟨by rw[ads hu,<-jZ,acJ];exact h3.1,?_⟩
    rw[<-jZ]at hu
    exact h.brG hle hG bG _ ih (h3.2.sh l rfl) rfl hu
  ·cases e
open Classical in
noncomputable def nj (fm:FM) (w:World) (ts:List Aw) (H:Heap) (rs:List (Nat×Nat)):FM:=fun b o=>if (∃ l k x,(l,k)∈rs/\H.get l k=some x/\dg (tb ts l k)=some b) then w.cell? ⟨b,o,none⟩ else fm b o
theorem HR.aka (h:HR N0 W0 fm ts H w) (rs:List (Nat×Nat)):HR N0 W0 (nj fm w ts H rs) ts (H.bV (iE rs)) w/\AU N0 fm (nj fm w ts H rs):=by
 have hle:Bh fm (nj fm w ts H rs):=by
  intro b o v hv
  unfold nj
  split
  ·exact h.cV b o v hv
  ·exact hv
 have src:∀ l k b,Heap.get (H.bV (iE rs)) l k=some b->(l,k)∉rs/\H.get l k=some b:=by
  intro l k b hg
  rw[wH]at hg
  split at hg
  ·cases hg
  ·rename_i hn;exact⟨hn,hg⟩
 refine⟨⟨by simpa using h.len,?_,?_,?_,?_,h.dL,h.size,h.dH⟩,hle,?_⟩
 ·intro l k b hg
  exact(h.aD l k b (src l k b hg).2).mono hle (AD.refl _) (fun _ _=>rfl)
 ·intro l k l' k' b b' c hg bK
  exact h.inj l k l' k' b b' c (src l k b hg).2 (src l' k' b' bK).2
 ·intro b o v hv
  unfold nj at hv
  split at hv
  ·exact hv
  ·exact h.cV b o v hv
 ·intro l k b c o hg ht
  obtain⟨hn,jH⟩:=src l k b hg
  unfold nj
  rw[if_neg]
  ·exact h.eR l k b c o jH ht
  ·rintro⟨l',k',x,hm,bK,gZ⟩
   obtain⟨rfl,rfl⟩:=h.inj l k l' k' b x c jH bK ht gZ
   exact hn hm
 ·intro b o hb
  unfold nj
  rw[if_neg]
  rintro⟨l',k',x,hm,bK,gZ⟩
  have:=((h.aD l' k' x bK).lt gZ).2
  omega
theorem Ay.take {P:Program}{f:FuncId}{args aE:List AV}{R:AV->Prop} (m:Nat) (rs:List (Nat×Nat)) (hp:Ay P f aE R) (hz:AV.dk (only (Heap.get ([]::H)) rs) (Abs.cZ (only (Heap.get ([]::H)) rs) m) args=some aE) (hr:(rs.all fun p=>0<p.1)=true):
  CE P f args H (fun y fr H'=>R y/\fr=[]/\([]:AH)::H'=Heap.bV ([]::H) (iE rs)):=by
 refine⟨hp.1,fun N0 W0 fm ts w vs hH hv=>?_⟩
 have hP:=hH.push
 obtain⟨hT,hU⟩:=hP.aka rs
 have hG:∀ l k b,only (Heap.get ([]::H)) rs l k=some b->Heap.get ([]::H) l k=some b:=by
  intro l k b e;unfold only at e;split at e
  ·exact e
  ·cases e
 have bG:∀ l k b c,only (Heap.get ([]::H)) rs l k=some b->dg (tb (dF::ts) l k)=some c->∀ o u,w.cell? ⟨c,o,none⟩=some u->nj fm w (dF::ts) ([]::H) rs c o=some u:=by
  intro l k b c e hc o u hu
  unfold only at e
  split at e
  ·rename_i hm
   unfold nj
   rw[if_pos ⟨l,k,b,by simpa using hm,e,hc⟩]
   exact hu
  ·cases e
 have h1:AG (nj fm w (dF::ts) ([]::H) rs) [] aE vs:=by
  have g:=qn _ _ _ _ hz
  refine⟨g.1.trans hv.1,?_⟩
  intro i x v hx uW
  have af:i<args.length:=by rw[<-g.1];exact(gS.1 hx).1
  obtain⟨y,hy,hu⟩:=g.2 i _ (gG af)
  rw[hx]at hy;obtain rfl:=oi hy
  exact hP.brG hU.le hG bG _ (hP.agx hU.le hG bG m) (hv.2 i _ v (gG af) uW) rfl hu
 refine Calls.mono (hp.2 _ w vs hT.cV h1) ?_
 rintro e w' ⟨v,y,fm',rfl,hR,bT,bM,b9,hb⟩
 obtain⟨f',H',hpu⟩:∃ f' H',Heap.bV ([]::H) (iE rs)=f'::H':=by
  have:=Heap.aiG (iE rs) ([]::H)
  cases hc:Heap.bV ([]::H) (iE rs) with
  |nil=>rw[hc]at this;simp at this
  |cons f' H'=>exact⟨f',H',rfl⟩
 have hf:f'=[]:=by
  have:∀ (rs:List (Nat×Nat)) (f:AH) (H:Heap),(rs.all fun p=>0<p.1)=true->∃ H',Heap.bV (f::H) (iE rs)=f::H':=by
   intro rs
   induction rs with
   |nil=>intro f H _;exact⟨H,rfl⟩
   |cons p rs ih=>
    intro f H hr
    obtain⟨l,k⟩:=p
    simp only[List.all_cons,Bo,decide_eq_true_eq]at hr
    cases l with
    |zero=>omega
    |succ l=>exact ih f _ hr.2
  obtain⟨H2,e2⟩:=this rs [] H hr
  rw[hpu]at e2
  exact(List.cons.inj e2).1
 subst hf
 rw[hpu]at hT
 refine⟨v,y,[],H',fm',dF,ts,rfl,⟨hR,rfl,hpu.symm⟩,?_,?_,bM.mono (Bh.refl _) (AD.nil _),?_,AD.refl _,fun _ _ h=>h,fun _ _=>rfl⟩
 ·have:=congrArg List.length hpu;simpa using this.symm
 ·exact hT.pop.up hb b9 bT |>.push
 ·exact hU.trans (b9.low hP.size)
end
theorem ue {G G':AW}{F F':Nat->Nat->Option (List AV)} (hG:∀ l k b,G l k=some b->G' l k=some b) (hF:∀ l k b,F l k=some b->F' l k=some b) (hz:∀ l k e i n g y,(AV.loc l k e i n g).ak G=some y->(AV.loc l k e i n g).ak G'=some y):
  (∀ x y:AV,x.br G F=some y->x.br G' F'=some y)/\(∀ l ys:List AV,AV.dk G F l=some ys->AV.dk G' F' l=some ys):=by
 have key:∀ (n:Nat),(∀ x y:AV,SizeOf.sizeOf x<n->x.br G F=some y->x.br G' F'=some y)/\(∀ l ys:List AV,SizeOf.sizeOf l<n->AV.dk G F l=some ys->AV.dk G' F' l=some ys):=by
  intro n
  induction n with
  |zero=>exact⟨fun x y h=>absurd h (by omega),fun x y h=>absurd h (by omega)⟩
  |succ n ih=>
   refine⟨?_,?_⟩
   ·intro x y hn h
    cases x with
    |loc l k e i g j=>simp only[AV.br]at h ⊢;exact hz _ _ _ _ _ _ _ h
    |ptr l k o=>
     simp only[AV.br]at h ⊢
     split at h
     ·rename_i ys mM;rw[hF _ _ _ mM];exact h
     ·cases h
    |bP l k e o n=>
     simp only[AV.br]at h ⊢
     split at h
     ·rename_i ys mM;rw[hF _ _ _ mM];exact h
     ·cases h
    |fn f a b=>
     simp only[AV.br]at h ⊢
     split at h
     ·rename_i x z hx eD
      rw[ih.2 a x (by simp at hn;omega) hx,ih.2 b z (by simp at hn;omega) eD]
      exact h
     ·cases h
    |cq t v=>
     simp only[AV.br,mS]at h ⊢
     obtain⟨a,h1,h2⟩:=h
     exact⟨a,ih.1 v a (by simp at hn;omega) h1,h2⟩
    |agg cs=>
     simp only[AV.br,mS]at h ⊢
     obtain⟨a,h1,h2⟩:=h
     exact⟨a,ih.2 cs a (by simp at hn;omega) h1,h2⟩
    |aw cs=>
     simp only[AV.br,mS]at h ⊢
     obtain⟨a,h1,h2⟩:=h
     exact⟨a,ih.2 cs a (by simp at hn;omega) h1,h2⟩
    |_=>first|(simpa [AV.br] using h)|(simp[AV.br]at h)
   ·intro l ys hn h
    cases l with
    |nil=>simpa [AV.dk] using h
    |cons x l=>
     simp only[AV.dk]at h ⊢
     split at h
     ·rename_i a b ha hb
      rw[ih.1 x a (by simp at hn;omega) ha,ih.2 l b (by simp at hn;omega) hb]
      exact h
     ·cases h
 exact⟨fun x y h=>(key (SizeOf.sizeOf x+1)).1 x y (by omega) h,fun l ys h=>(key (SizeOf.sizeOf l+1)).2 l ys (by omega) h⟩
theorem vX {G G':AW} (hG:∀ l k b,G l k=some b->G' l k=some b) (hz:∀ l k e i n g y,(AV.loc l k e i n g).ak G=some y->(AV.loc l k e i n g).ak G'=some y):∀ n l k ys,cZ G n l k=some ys->cZ G' n l k=some ys:=by
 intro n
 induction n with
 |zero=>intro l k ys h;simp[cZ]at h
 |succ n ih=>
  intro l k ys h
  simp only[cZ]at h ⊢
  split at h
  ·rename_i cs hg
   rw[hG l k _ hg]
   exact(ue hG ih hz).2 _ _ h
  ·cases h
theorem aeC:∀ (rs:List Nat) (f:AH) (H:Heap),Heap.bV ([]::f::H) (iE (rs.map fun k=>(1,k)))=[]::cM f rs::H
 |[],f,H=>rfl
 |k::rs,f,H=>aeC rs (del f k) H
section
variable {P:Program}{T:AR}{N0:Nat}{W0:World}{n:Nat}{fm:FM}{ts:List Aw}{H:Heap}{w:World}{Φ:Exit->St->Prop}
def Bg (P:Program) (f:FuncId) (args:List AV) (fr0:AH) (R:AV->AH->Prop):Prop:=
 Enters P f/\∀ H N0 W0 fm t ts w vs,HR N0 W0 fm (t::ts) (fr0::H) w->(∀ k,16<=k->t k=none)->AG fm (t::ts) args vs->
  Calls P f vs.toArray w fun e w'=>∃ v y aZ fm' t' ts',e=.returned v/\R y aZ/\HR N0 W0 fm' (t'::ts') (aZ::H) w'/\VR fm' (t'::ts') y v/\AU N0 fm fm'/\AD ts ts'/\
   (∀ l k,tb ts l k=none->tb ts' l k=none)/\∀ k,16<=k->t' k=none
def FN (T:AR) (rs:List ResultVar) (H:Heap) (R:AV->AH->Prop) (e:Exit) (st:St):Prop:=
 Ends T rs (fun y fr H'=>H'=H/\R y fr) e st
theorem Bg.gD (hT : AX P T) {f : FuncId} {fn : Func} {c : Code} {sc : SC} {args : List AV} {fr0 : AH} {R : AV → AH → Prop} (hf : P.funcs[f]? = some fn) (hb : fn.body = some c) (jJ : (fn.name == "runtime.NumGoroutine") = false)
  (he:sc.bare=erase fn.ntmps c) (eT:(erase fn.ntmps c).fits fn.ntmps=true) (fC:args.length<=fn.ntmps)
  (h:∀ H,AK P fn.ntmps (FN T fn.results.toList H R) [.sc sc] ⟨tZ 0 args,fr0,H,16,fn.ntmps⟩):Bg P f args fr0 R:=by
 refine⟨⟨fn,hf,jJ,by simp[hb]⟩,?_⟩
 intro H N0 W0 fm t ts w vs hH ht hv
 refine calls_of_wp hf hb ((yc []).1 ?_)
 have hl:=hv.1
 have hS:SR N0 W0 fn.ntmps ⟨tZ 0 args,fr0,H,16,fn.ntmps⟩ { tmps:=vs.toArray++Array.replicate (fn.ntmps - vs.toArray.size) undef,defers:=[] } w fm (t::ts):=by
  refine⟨hH,?_,fun k hk=>ht k hk,by simp;omega,rfl⟩
  intro i x hx
  obtain⟨_,hx⟩:=afJ args 0 i x hx
  simp only[Nat.sub_zero]at hx
  have af:i<vs.length:=by rw[<-hl];exact(gS.1 hx).1
  refine⟨vs[i],?_,hv.2 i x _ hx (gG af)⟩
  rw[Array.getElem?_append_left (by simpa using af)]
  simp[af]
 have:=h H N0 W0 fm (t::ts) _ w [.code c] (bodyPost P fn fun e w'=>∃ v y aZ fm' t' ts',e=.returned v/\R y aZ/\HR N0 W0 fm' (t'::ts') (aZ::H) w'/\VR fm' (t'::ts') y v/\AU N0 fm fm'/\AD ts ts'/\
   (∀ l k,tb ts l k=none->tb ts' l k=none)/\∀ k,16<=k->t' k=none) hS (.sc he eT .nil) ?_
 ·exact this
 ·intro e ay a' w' fm' ts' hE du hL
  have fin:(∃ xs,ij T ay fn.results.toList=some xs/\D9 (fun y fr H'=>H'=H/\R y fr) (cm xs) ay)->a'.defers=[]/\∃ v,(results fn a'.tmps).run P w'=.ok v w'/\∃ v_1 y aZ fm' t' ts',Ending.returned v=.returned v_1/\R y aZ/\HR N0 W0 fm' (t'::ts') (aZ::H) w'/\VR fm' (t'::ts') y v_1/\AU N0 fm fm'/\AD ts ts'/\
    (∀ l k,tb ts l k=none->tb ts' l k=none)/\∀ k,16<=k->t' k=none:=by
   rintro⟨xs,gm,hg⟩
   obtain⟨v,h1,h2⟩:=tC (P:=P) hT du gm
   refine⟨du.fy,v,h1,?_⟩
   cases ts' with
   |nil=>have:=du.hr.len;simp at this
   |cons t rest=>
    have iQ:AD ts rest:=by simpa using hL.ke
    have bw:∀ l k,tb ts l k=none->tb rest l k=none:=by simpa using hL.no
    cases hg with
    |own ks y fr hn hk hy nq hR=>
     obtain⟨iN,hR⟩:=hR
     have hr:=du.hr.aV nq hn
     rw[iN]at hr
     exact⟨v,y,fr,fm',fe ks t,rest,rfl,hR,hr,h2.aV rfl hy,hL.fj,iQ,bw,fun k e9=>by simp only[fe];rw[CF (by omega)];rfl⟩
    |ak y hy hr hR=>
     obtain⟨iN,hR⟩:=hR
     have h3:=du.hr.ak (cm xs).refs h2 hy (fun _ h=>h)
     have h4:=du.hr.tk (cm xs).refs
     obtain⟨f',zq⟩:=aiD hr ay.fr ay.low
     rw[zq]at h4
     have zR:∀ l k,tb (iW (t::rest) (cm xs).refs) (l+1) k=tb rest l k:=by
      intro l k
      rw[mX,if_neg]
      ·simp[tb]
      ·rintro⟨hm,_⟩
       have:=List.all_eq_true.1 hr _ hm
       simp at this
     have hlen:=aeE (cm xs).refs (t::rest)
     cases hg:iW (t::rest) (cm xs).refs with
     |nil=>rw[hg]at hlen;simp at hlen
     |cons t2 aay=>
      rw[hg]at h4 zR
      have e2:∀ l k,tb aay l k=tb rest l k:=fun l k=>by simpa [tb] using zR l k
      have b9:=du.hr.wq (cm xs).refs
      have h5:=h4.pop.push
      rw[iN]at h5 b9 h3
      exact⟨v,y,[],_,dF,aay,rfl,hR,h5,h3.mono (Bh.refl _) (AD.nil _),hL.fj.trans b9,fun l k=>by rw[e2];exact iQ l k,fun l k hh=>by rw[e2];exact bw l k hh,fun _ _=>rfl⟩
  cases e with
  |normal=>exact fin hE
  |ret=>exact fin hE
  |_=>exact hE.elim
def za (gs:List Nat) (G:AW) (F:Nat->Nat->Option (List AV)):AV->Option AV
 |.loc 1 k e i n g=>match idx gs k with
  |some j=>some (.loc 0 j e i n g)
  |none=>(AV.loc 1 k e i n g).br G F
 |x=>x.br G F
def lA (gs:List Nat) (G:AW) (F:Nat->Nat->Option (List AV)):List AV->Option (List AV)
 |[]=>some []
 |x::l=>match za gs G F x,lA gs G F l with
  |some x,some l=>some (x::l)
  |_,_=>none
def n5 (f:AH):Nat->List Nat->Option AH
 |_,[]=>some []
 |i,k::r=>match look f k with
  |some (.arr et e es)=>(n5 f (i+1) r).map fun l=>(i,.arr et e es)::l
  |_=>none
theorem ahS (f:AH):∀ (r:List Nat) (i:Nat) (fr:AH),n5 f i r=some fr->∀ j b,look fr j=some b->i<=j/\∃ k et e es,r[j - i]?=some k/\look f k=some b/\b=.arr et e es
 |[],i,fr,h,j,b,hj=>by simp only[n5,oE]at h;subst h;simp[look]at hj
 |k::r,i,fr,h,j,b,hj=>by
  simp only[n5]at h
  split at h
  ·rename_i et e es hk
   simp only[mS]at h
   obtain⟨l,hl,rfl⟩:=h
   simp only[look]at hj
   split at hj
   ·rename_i he
    subst he
    obtain rfl:=oi hj
    exact⟨AY _,k,et,e,es,by simp,hk,rfl⟩
   ·obtain⟨h1,k',qz,e',es',h2,h3,h4⟩:=ahS f r (i+1) l hl j b hj
    refine⟨by omega,k',qz,e',es',?_,h3,h4⟩
    have:j - i=(j - (i+1))+1:=by omega
    rw[this,Ci];exact h2
  ·cases h
theorem aiL (ks:List Nat):∀ (f:AH) (j:Nat),look (cM f ks) j=if j∈ks then none else look f j:=by
 induction ks with
 |nil=>intro f j;simp[cM]
 |cons k ks ih=>
  intro f j
  simp only[cM,ih,aae,BF]
  by_cases h1:j∈ks
  ·simp[h1]
  ·by_cases h2:k=j
   ·simp[h2]
   ·simp[h1,h2,Ne.symm h2]
theorem HR.pg {h:Aw}{rest:List Aw}{f:AH} (hh:HR N0 W0 fm (dF::h::rest) ([]::f::H) w) {gs:List Nat}{fr0:AH} (hg:n5 f 0 gs=some fr0) (bY:gs.Nodup):
  HR N0 W0 fm (fe gs h::h::rest) (fr0::cM f gs::H) w:=by
 have src:∀ l k b,Heap.get (fr0::cM f gs::H) l k=some b->(l=0/\∃ k0 et e es,gs[k]?=some k0/\look f k0=some b/\b=.arr et e es/\tb (fe gs h::h::rest) 0 k=h k0)\/(l≠0/\Heap.get ([]::f::H) l k=some b/\tb (fe gs h::h::rest) l k=tb (dF::h::rest) l k/\(l=1->k∉gs)):=by
  intro l k b hb
  cases l with
  |zero=>
   simp only[Heap.get]at hb
   obtain⟨_,k0,et,e,es,h1,h2,h3⟩:=ahS f gs 0 fr0 hg k b hb
   simp only[Nat.sub_zero]at h1
   exact .inl ⟨rfl,k0,et,e,es,h1,h2,h3,by simp[tb,fe,h1]⟩
  |succ l=>
   cases l with
   |zero=>
    simp only[Heap.get,aiL]at hb
    split at hb
    ·cases hb
    ·rename_i hn
     exact .inr ⟨by omega,by simpa [Heap.get] using hb,by simp[tb],fun _=>hn⟩
   |succ l=>exact .inr ⟨by omega,by simpa [Heap.get] using hb,by simp[tb],fun e=>by omega⟩
 refine⟨by have:=hh.len;simpa using this,?_,?_,hh.cV,?_,hh.dL,hh.size,hh.dH⟩
 ·intro l k b hb
  rcases src l k b hb with ⟨rfl,k0,et,e,es,h1,h2,rfl,h4⟩|⟨hl,h2,h3,_⟩
  ·rw[h4]
   have:=hh.aD 1 k0 _ (by simpa [Heap.get] using h2)
   simp only[tb]at this
   generalize h k0=tt at this
   cases this with
   |nil=>exact .nil _ _
   |arr _ _ _ c cap hN hA=>exact .arr _ _ _ c cap hN hA
  ·rw[h3]
   have:=hh.aD l k b h2
   obtain⟨l,rfl⟩:∃ m,l=m+1:=⟨l - 1,by omega⟩
   simpa using this
 ·intro l1 k1 l2 k2 b1 b2 c g1 g2 t1 t2
  rcases src l1 k1 b1 g1 with ⟨rfl,q1,_,_,_,a1,a2,_,a4⟩|⟨fb,a2,a3,a4⟩
  ·rw[a4]at t1
   rcases src l2 k2 b2 g2 with ⟨rfl,q2,_,_,_,c1,c2,_,c4⟩|⟨jo,c2,c3,c4⟩
   ·rw[c4]at t2
    have:=(hh.inj 1 q1 1 q2 b1 b2 c (by simpa [Heap.get] using a2) (by simpa [Heap.get] using c2) (by simpa [tb] using t1) (by simpa [tb] using t2)).2
    subst this
    refine⟨rfl,?_⟩
    exact(List.getElem?_inj (gS.1 a1).1 bY).1 (a1.trans c1.symm)
   ·rw[c3]at t2
    obtain⟨e1,e2⟩:=hh.inj 1 q1 l2 k2 b1 b2 c (by simpa [Heap.get] using a2) c2 (by simpa [tb] using t1) t2
    subst e1 e2
    exact absurd (A6 a1) (c4 rfl)
  ·rw[a3]at t1
   rcases src l2 k2 b2 g2 with ⟨rfl,q2,_,_,_,c1,c2,_,c4⟩|⟨jo,c2,c3,c4⟩
   ·rw[c4]at t2
    obtain⟨e1,e2⟩:=hh.inj l1 k1 1 q2 b1 b2 c a2 (by simpa [Heap.get] using c2) t1 (by simpa [tb] using t2)
    subst e1 e2
    exact absurd (A6 c1) (a4 rfl)
   ·rw[c3]at t2
    exact hh.inj l1 k1 l2 k2 b1 b2 c a2 c2 t1 t2
 ·intro l k b c o hb hc
  rcases src l k b hb with ⟨rfl,k0,_,_,_,h1,h2,_,h4⟩|⟨hl,h2,h3,_⟩
  ·rw[h4]at hc
   exact hh.eR 1 k0 b c o (by simpa [Heap.get] using h2) (by simpa [tb] using hc)
  ·rw[h3]at hc
   exact hh.eR l k b c o h2 hc
theorem ahW {h:Aw}{rest:List Aw}{f:AH}{gV:FM} (hh:HR N0 W0 fm (dF::h::rest) ([]::f::H) w) (hle:Bh fm gV) {G:AW} (hG:∀ l k b,G l k=some b->Heap.get ([]::f::H) l k=some b)
  (bG:∀ l k b c,G l k=some b->dg (tb (dF::h::rest) l k)=some c->∀ o u,w.cell? ⟨c,o,none⟩=some u->gV c o=some u) {gs:List Nat}{m:Nat}:
  ∀ (args ys:List AV) (vs:List Value),lA gs G (cZ G m) args=some ys->AG fm (dF::h::rest) args vs->AG gV (fe gs h::h::rest) ys vs
 |[],ys,vs,e,hv=>by
  simp only[lA,oE]at e;subst e
  exact⟨hv.1,fun i x v hx=>by simp at hx⟩
 |x::l,ys,vs,e,hv=>by
  simp only[lA]at e
  split at e
  ·rename_i y ys' hy mM
   obtain rfl:=oi e
   cases vs with
   |nil=>have:=hv.1;simp at this
   |cons v vs=>
    have hx:VR fm (dF::h::rest) x v:=hv.2 0 x v rfl rfl
    have ih:=ahW hh hle hG bG l ys' vs mM ⟨by simpa using hv.1,fun i a b p q=>hv.2 (i+1) a b (by simpa using p) (by simpa using q)⟩
    refine⟨by simp[ih.1],?_⟩
    intro i a b ha hb
    cases i with
    |succ i=>simp at ha hb;exact ih.2 i a b ha hb
    |zero=>
     simp at ha hb;subst ha hb
     have br:x.br G (cZ G m)=some y->VR gV (fe gs h::h::rest) y v:=fun dQ=>
      (hh.brG hle hG bG _ (hh.agx hle hG bG m) hx rfl dQ).mono (Bh.refl _) (AD.nil _)
     unfold za at hy
     split at hy
     ·rename_i k e i n g
      split at hy
      ·rename_i j hj
       obtain rfl:=oi hy
       have qK:=aez gs k j hj
       have fD:tb (fe gs h::h::rest) 0 j=tb (dF::h::rest) 1 k:=by simp[tb,fe,qK]
       have jq:=hx.mono hle (AD.refl _)
       cases jq with
       |cW _ _ _ _ _ _ a cp ht hn ha=>exact .cW _ _ _ _ _ _ a cp (fD.trans ht) hn ha
       |cX _ _ _ _ _ _ a cp m' c ht af hn ha=>exact .cX _ _ _ _ _ _ a cp m' c (fD.trans ht) af hn ha
       |cH _ _ _ a ht=>exact .cH _ _ _ a (fD.trans ht)
       |loc _ _ _ _ _ _ c cap cp a ht hn bU hc ha=>exact .loc _ _ _ _ _ _ c cap cp a (fD.trans ht) hn bU hc ha
      ·exact br hy
     ·exact br hy
  ·cases e
theorem Bg.used {f:FuncId}{args dO:List AV}{fr0 f0:AH}{R:AV->AH->Prop} (m:Nat) (rs gs:List Nat) (hp:Bg P f dO fr0 R) (hz:lA gs (only (Heap.get ([]::f0::H)) (rs.map fun k=>(1,k))) (cZ (only (Heap.get ([]::f0::H)) (rs.map fun k=>(1,k))) m) args=some dO)
  (hg:n5 (cM f0 rs) 0 gs=some fr0) (bY:(decide gs.Nodup&&decide (gs.length<=16))=true):CE P f args (f0::H) (fun y fr H'=>R y fr/\H'=cM (cM f0 rs) gs::H):=by
 simp only[Bo,decide_eq_true_eq]at bY
 refine⟨hp.1,fun N0 W0 fm ts w vs hH hv=>?_⟩
 have hP:=hH.push
 cases ts with
 |nil=>have:=hH.len;simp at this
 |cons h rest=>
  obtain⟨hT,hU⟩:=hP.aka (rs.map fun k=>(1,k))
  rw[aeC]at hT
  have hG:∀ l k b,only (Heap.get ([]::f0::H)) (rs.map fun k=>(1,k)) l k=some b->Heap.get ([]::f0::H) l k=some b:=by
   intro l k b e;unfold only at e;split at e
   ·exact e
   ·cases e
  have bG:∀ l k b c,only (Heap.get ([]::f0::H)) (rs.map fun k=>(1,k)) l k=some b->dg (tb (dF::h::rest) l k)=some c->∀ o u,w.cell? ⟨c,o,none⟩=some u->nj fm w (dF::h::rest) ([]::f0::H) (rs.map fun k=>(1,k)) c o=some u:=by
   intro l k b c e hc o u hu
   unfold only at e
   split at e
   ·rename_i hm
    unfold nj
    rw[if_pos ⟨l,k,b,by simpa using hm,e,hc⟩]
    exact hu
   ·cases e
  have h1:=ahW hP hU.le hG bG args dO vs hz hv
  have h2:=hT.pg hg bY.1
  refine Calls.mono (hp.2 (cM (cM f0 rs) gs::H) N0 W0 _ (fe gs h) (h::rest) w vs h2 (fun k hk=>by simp only[fe];rw[CF (by omega)];rfl) h1) ?_
  rintro e w' ⟨v,y,aZ,fm',t',ts',rfl,hR,cQ,bM,b9,iQ,bw,ht⟩
  exact⟨v,y,aZ,cM (cM f0 rs) gs::H,fm',t',ts',rfl,⟨hR,rfl⟩,by simp,cQ,bM,hU.trans b9,iQ,bw,ht⟩
end
def ka (G:AW):AW:=fun l k=>match l with
 |0=>none
 |l+1=>G l k
def pj (G:AW):Nat->List Nat->Option AH
 |_,[]=>some []
 |i,k::r=>match G 0 k with
  |some (.arr et e es)=>(pj G (i+1) r).map fun l=>(i,.arr et e es)::l
  |_=>none
theorem ad4 {G G':AW} (h:∀ l k b,G l k=some b->G' l k=some b):∀ (r:List Nat) (i:Nat) (fr:AH),pj G i r=some fr->pj G' i r=some fr
 |[],i,fr,e=>e
 |k::r,i,fr,e=>by
  simp only[pj]at e ⊢
  split at e
  ·rename_i et z es hk
   simp only[mS]at e
   obtain⟨l,hl,rfl⟩:=e
   rw[h 0 k _ hk]
   simp only[ad4 h r (i+1) l hl,Be]
  ·cases e
theorem ahT (f:AH) (H:Heap) (rs:List Nat):∀ (r:List Nat) (i:Nat) (fr:AH),pj (Heap.get (f::H)) i r=some fr->(∀ k∈r,k∉rs)->n5 (cM f rs) i r=some fr
 |[],i,fr,e,_=>e
 |k::r,i,fr,e,hk=>by
  simp only[pj,Heap.get]at e
  simp only[n5,aiL,if_neg (hk k List.mem_cons_self)]
  split at e
  ·rename_i et z es e9
   simp only[mS]at e
   obtain⟨l,hl,rfl⟩:=e
   simp only[e9,ahT f H rs r (i+1) l hl (fun k h=>hk k (List.mem_cons_of_mem _ h)),Be]
  ·cases e
def lM (ks:List Nat):List (Nat×Nat×Option AJ):=ks.map fun k=>(0,k,none)
def lJ (kb:Nat):AH->List (Nat×Nat×Option AJ)
 |[]=>[]
 |(c,b)::R=>lJ kb R++[(0,kb+c,some (b.imp kb))]
theorem ae8:∀ (ks:List Nat) (f:AH) (H:Heap),Heap.bV (f::H) (lM ks)=cM f ks::H
 |[],_,_=>rfl
 |k::ks,f,H=>ae8 ks (del f k) H
theorem ae7 (kb:Nat):∀ (R:AH) (f:AH) (H:Heap),Heap.bV (f::H) (lJ kb R)=nz kb R f::H
 |[],_,_=>rfl
 |(c,b)::R,f,H=>by
  simp only[lJ,Heap.pR,ae7 kb R f H,nz]
  rfl
theorem ad5 {gs:List Nat}{G G':AW}{F F':Nat->Nat->Option (List AV)} (h:∀ x y:AV,x.br G F=some y->x.br G' F'=some y):∀ (l ys:List AV),lA gs G F l=some ys->lA gs G' F' l=some ys
 |[],ys,e=>e
 |x::l,ys,e=>by
  simp only[lA]at e ⊢
  split at e
  ·rename_i a b ha hb
   have gB:za gs G' F' x=some a:=by
    cases x with
    |loc lv k e i n g=>
     match lv,ha with
     |0,ha=>exact h _ _ ha
     |1,ha=>
      simp only[za]at ha ⊢
      cases hj:idx gs k with
      |some j=>rw[hj]at ha;exact ha
      |none=>rw[hj]at ha;exact h _ _ ha
     |_+2,ha=>exact h _ _ ha
    |_=>exact h _ _ ha
   rw[gB,ad5 h l b hb]
   exact e
  ·cases e
def kc (kb:Nat) (t' h:Aw):Aw:=fun k=>if kb<=k/\k<kb+16 then t' (k - kb) else h k
end Go.Abs
namespace Go.Abs
open Go Go.RowKit
section
variable {P:Program}{T:AR}{N0:Nat}{W0:World}{fm:FM}{ts:List Aw}{H:Heap}{w:World}
def AV.lo:AV->Bool
 |.loc l _ _ _ _ _=>l==0
 |.ptr l _ _=>l==0
 |x=>x.leaf
def AV.rh:AV->Bool
 |.aw vs=>vs.all AV.lo
 |.agg cs=>cs.all AV.lo
 |x=>x.lo
def AJ.lo:AJ->Prop
 |.arr _ _ es=>∀ c∈es,∀ x∈c,x.leaf=true
 |.box cs=>∀ x∈cs,x.lo=true
theorem VR.lo {fm fm':FM}{t:Aw}{ts:List Aw}{x:AV}{v:Value} (h:VR fm' [t] x v) (hx:x.lo=true):VR fm (t::ts) x v:=by
 cases h with
 |cW l k esz i n g a cp h ee ha=>
  obtain rfl:l=0:=by simpa [AV.lo] using hx
  exact .cW 0 _ esz i n g a cp h ee ha
 |cX l k esz i n g a cp m' c h af ee ha=>
  obtain rfl:l=0:=by simpa [AV.lo] using hx
  exact .cX 0 _ esz i n g a cp m' c h af ee ha
 |cH l k esz a h=>
  obtain rfl:l=0:=by simpa [AV.lo] using hx
  exact .cH 0 _ esz a h
 |loc l k esz i n g c cap cp a h ee bU hc ha=>
  obtain rfl:l=0:=by simpa [AV.lo] using hx
  exact .loc 0 _ esz i n g c cap cp a h ee bU hc ha
 |ptr l k o c h=>
  obtain rfl:l=0:=by simpa [AV.lo] using hx
  exact .ptr 0 _ o c h
 |bool b=>exact .bool b
 |int k n=>exact .int k n
 |str s=>exact .str s
 |nil=>exact .nil
 |bQ=>exact .bQ
 |cg=>exact .cg
 |cj=>exact .cj
 |_=>simp[AV.lo,AV.leaf]at hx
theorem VR.rh {fm fm':FM}{t:Aw}{ts:List Aw}{x:AV}{v:Value} (h:VR fm' [t] x v) (hx:x.rh=true):VR fm (t::ts) x v:=by
 cases x with
 |aw xs=>
  cases h with
  |aw _ vs h1 h3=>exact .aw xs vs h1 (fun i x v a b=>(h3 i x v a b).lo (List.all_eq_true.1 hx x (A6 a)))
 |agg cs=>
  cases h with
  |agg _ vs h1 h2 h3=>exact .agg cs vs h1 h2 (fun i x v a b=>(h3 i x v a b).lo (List.all_eq_true.1 hx x (A6 a)))
 |_=>exact h.lo hx
theorem BR.lo {fm fm':FM}{t:Aw}{ts:List Aw}{w:World}{N N0:Nat}{x:Option TB}{b:AJ} (h:BR fm' [t] w N x b) (hN:N0<=N) (hb:b.lo):BR fm (t::ts) w N0 x b:=by
 cases h with
 |nil et esz=>exact .nil et esz
 |arr et esz es c cap h1 hA=>
  obtain⟨cells,a1,a2,a3,a4,a5,a6,a7⟩:=hA
  refine .arr et esz es c cap (Ef hN h1) ⟨cells,a1,a2,a3,a4,a5,a6,?_⟩
  intro i d o x v p q r
  have:=a7 i d o x v p q r
  exact⟨this.1,this.2.leaf (hb d (A6 p) x (A6 q))⟩
 |box c cs h1 hB=>
  obtain⟨cells,et,c1,c2,c3⟩:=hB
  exact .box c cs (Ef hN h1) ⟨cells,et,c1,c2,fun o x v p q=>⟨(c3 o x v p q).1,(c3 o x v p q).2.lo (hb x (A6 p))⟩⟩
def tn:AH->Prop
 |[]=>True
 |(_,b)::l=>b.lo/\tn l
theorem aiK:∀ (l:AH) (k:Nat) (b:AJ),tn l->look l k=some b->b.lo
 |[],k,b,_,h=>by simp[look]at h
 |(j,x)::l,k,b,h,e=>by
  simp only[look]at e
  split at e
  ·obtain rfl:=oi e;exact h.1
  ·exact aiK l k b h.2 e
theorem Bg.aiH {f:FuncId}{aE:List AV}{vs:List Value}{y0:AV}{fr0:AH} (hp:Bg P f aE [] (fun y fr=>y=y0/\fr=fr0)) (hH:HR N0 W0 fm ts H w) (h1:AG (jD w) [] aE vs) (hy:y0.rh=true) (hf:tn fr0):
  Calls P f vs.toArray w fun e w'=>∃ v t',e=.returned v/\HR N0 W0 fm (t'::ts) (fr0::H) w'/\VR fm (t'::ts) y0 v/\∀ k,16<=k->t' k=none:=by
 have hn:HR w.heap.size w (fun b o=>w.cell? ⟨b,o,none⟩) [] [] w:=HR.nothing (fun b o v h=>h)
 have sW:AG (fun b o=>w.cell? ⟨b,o,none⟩) (dF::[]) aE vs:=by
  refine⟨h1.1,fun i x v a b=>?_⟩
  have h2:=h1.2 i x v a b
  exact h2.mono (Bh.refl _) (AD.nil _)
 refine Calls.mono (hp.2 [] w.heap.size w _ dF [] w vs hn.push (fun _ _=>rfl) sW) ?_
 rintro e w' ⟨v,y,aZ,fm',t',ts',rfl,⟨rfl,rfl⟩,cQ,bM,b9,mL,bw,jE⟩
 have iQ:ts'=[]:=by have:=cQ.len;simp at this;exact this
 subst iQ
 have hb:=cQ.dL
 have lC:HR N0 W0 fm ts H w':=hH.world (fun i hi=>hb.block i hi) (hb.mono hH.size)
 refine⟨v,t',rfl,?_,bM.rh hy,jE⟩
 have up:∀ {k b c},look aZ k=some b->dg (t' k)=some c->w.heap.size<=c:=by
  intro k b c hk hc
  have:=(cQ.aD 0 k b (by simpa [Heap.get] using hk)).lt (by simpa [tb] using hc)
  exact this.2
 have low:∀ {l k b c},Heap.get H l k=some b->dg (tb ts l k)=some c->c<w.heap.size:=by
  intro l k b c hk hc
  exact((hH.aD l k b hk).lt hc).1
 refine⟨by have:=lC.len;simpa using this,?_,?_,lC.cV,?_,lC.dL,lC.size,lC.dH⟩
 ·intro l k b hg
  cases l with
  |zero=>
   have h2:=cQ.aD 0 k b (by simpa [Heap.get] using hg)
   simp only[List.drop_zero,tb]at h2 ⊢
   exact h2.lo hH.size (aiK _ _ _ hf (by simpa [Heap.get] using hg))
  |succ l=>exact lC.aD l k b hg
 ·intro l k l' k' b b' c g1 g2 t1 t2
  cases l with
  |zero=>
   cases l' with
   |zero=>exact cQ.inj 0 k 0 k' b b' c (by simpa [Heap.get] using g1) (by simpa [Heap.get] using g2) t1 t2
   |succ l'=>exact absurd (low g2 t2) (by have:=up (by simpa [Heap.get] using g1) t1;omega)
  |succ l=>
   cases l' with
   |zero=>exact absurd (low g1 t1) (by have:=up (by simpa [Heap.get] using g2) t2;omega)
   |succ l'=>
    have:=lC.inj l k l' k' b b' c g1 g2 t1 t2
    exact⟨by omega,this.2⟩
 ·intro l k b c o hg hc
  cases l with
  |zero=>exact hH.ai2 (up (by simpa [Heap.get] using hg) hc) o
  |succ l=>exact lC.eR l k b c o hg hc
theorem Bg.nD {f:FuncId}{args aE:List AV}{y0:AV}{fr0:AH} (m:Nat) (hp:Bg P f aE [] (fun y fr=>y=y0/\fr=fr0)) (hz:AV.dk (Heap.get ([]::H)) (Abs.cZ (Heap.get ([]::H)) m) args=some aE) (hy:y0.rh=true) (hf:tn fr0):
  CE P f args H (fun y fr H'=>y=y0/\fr=fr0/\H'=H):=by
 refine⟨hp.1,fun N0 W0 fm ts w vs hH hv=>?_⟩
 have h1:=hH.push.brs _ (hH.push.cZ m) hv hz
 refine Calls.mono (Bg.aiH hp hH h1 hy hf) ?_
 rintro e w' ⟨v,t',rfl,h2,h3,h4⟩
 exact⟨v,y0,fr0,H,fm,t',ts,rfl,⟨rfl,rfl,rfl⟩,rfl,h2,h3,AU.refl _ _,AD.refl _,fun _ _ h=>h,h4⟩
end
section
variable [Md] {P:Program}{T:AR}{n:Nat}{Φ:Exit->St->Prop}
theorem IE {f:List It->St->Ev}{b:Bool}{t t':List It}{s s':St} (h1:b=true->AM P n Φ (f t s)) (h2:b=false->AM P n Φ (f t' s')):AM P n Φ (two f b t s t' s'):=by
 cases b with
 |true=>exact h1 rfl
 |false=>exact h2 rfl
theorem Iw {f:FuncId}{args aE:List AV}{dst:Option Tmp}{drop:List Nat}{todo:List It}{st:St}{R:AV->Prop} (hp:Ay P f aE R) (hz:AV.aQ (Heap.get ([]::st.fr::st.low)) args=some aE) (hr:AV.aT args=[])
  (h:∀ y,R y->AK P n Φ todo (st.gF dst drop y [] (st.fr::st.low))):AM P n Φ (.call f args dst drop todo st):=
 ⟨_,_,_,_,CO.refl _ _ _,(hp.frozen hz hr).toP,by rintro v fr H ⟨h1,rfl,rfl⟩;exact h v h1,fun _ _ h=>h.elim⟩
theorem Ir {f:FuncId}{args aE:List AV}{dst:Option Tmp}{drop:List Nat}{todo:List It}{st:St}{R:AV->Prop} (hp:Ay P f aE R) (hz:AV.aQ (Heap.get ([]::st.fr::st.low)) args=some aE) (hs:∀ y,R y->y.cS=true)
  (h:∀ y,R y->AK P n Φ todo (st.gF dst drop y [] (st.fr::st.low))):AM P n Φ (.call f args dst drop todo st):=
 ⟨_,_,_,_,CO.refl _ _ _,(hp.borrow hz hs).toP,by rintro v fr H ⟨h1,rfl,rfl⟩;exact h v h1,fun _ _ h=>h.elim⟩
theorem D2 {f:FuncId}{args:List AV}{dst:Option Tmp}{drop:List Nat}{todo:List It}{st:St}{R:AV->AH->Heap->Prop} (hp:CE P f args (st.fr::st.low) R)
  (h:∀ y fr H,R y fr H->AK P n Φ todo (st.gF dst drop y fr H)):AM P n Φ (.call f args dst drop todo st):=⟨_,_,R,_,CO.refl _ _ _,hp.toP,h,fun _ _ h=>h.elim⟩
end
attribute [go_sem] ack aqs aqr run kP abK ap9 ap6 callee afq afp St.mU aqH aqG bH bu j8 look aai mb St.by nH ins cM del Heap.bV Heap.put St.vB eu fX wa nQ abm acL St.get abg qe abl o9 jc aaw rU TI.isAgg AV.cells overwrite sw Heap.get abj AV.dm AV.sh aUn jB St.enter tZ St.gF AV.imp AV.iS nz AJ.imp ij acC cm AV.ak AV.aQ AV.refs AV.aT abi abk oR uw abh partsOf wj mz j9 sv abJ jf kG uq uo nR abn lk byteOf bytesOf jT bL AV.gq AV.un u6 iE AV.flat AV.cS AV.leaf AA AB List.append_nil Ce Bz reduceIte Nat.reduceAdd Nat.reduceMul Nat.reduceLT Nat.reduceEqDiff Nat.reduceLeDiff Nat.reduceSub Be Ee Ae Option.bind_none Bu reduceCtorEq List.take_succ_cons List.take_zero List.drop_succ_cons List.drop_zero Cl Ci List.getElem?_nil List.map_cons List.map_nil beq_self_eq_true AY and_self and_true true_and beq_true beq_false AO Bn
def Fm (tm tm':Tm):Prop:=∀ t x,tm t=some x->tm' t=some x
def D8 (G G':AW):Prop:=∀ l k b,G l k=some b->G' l k=some b
section
variable {tm tm':Tm}{G G':AW} (eM:Fm tm tm') (hG:D8 G G')
include eM in
theorem acr {x:Operand}{y:AV} (h:bu tm x=some y):bu tm' x=some y:=by
 cases x with
 |tmp t=>exact eM t y h
 |_=>exact h
include eM in
theorem aao:∀ (l:List Operand) (ys:List AV),j8 tm l=some ys->j8 tm' l=some ys
 |[],ys,h=>h
 |x::l,ys,h=>by
  simp only[j8]at h ⊢
  split at h
  ·rename_i a b ha hb
   rw[acr eM ha,aao l b hb];exact h
  ·cases h
include eM in
theorem ae4:∀ (l:List (Nat×Operand)) (ys:List (Nat×AV)),partsOf tm l=some ys->partsOf tm' l=some ys
 |[],ys,h=>h
 |(i,x)::l,ys,h=>by
  simp only[partsOf]at h ⊢
  split at h
  ·rename_i a b ha hb
   rw[acr eM ha,ae4 l b hb];exact h
  ·cases h
mutual
theorem nk (hG:D8 G G'):∀ (x y:AV),x.ak G=some y->x.ak G'=some y
 |.loc l k e i n g,y,h=>by
  simp only[AV.ak]at h ⊢
  split at h
  ·rename_i et esz es hg
   rw[hG l k _ hg];exact h
  ·cases h
 |.cq t v,y,h=>by
  simp only[AV.ak,mS]at h ⊢
  obtain⟨a,h1,h2⟩:=h
  exact⟨a,nk hG v a h1,h2⟩
 |.agg cs,y,h=>by
  simp only[AV.ak,mS]at h ⊢
  obtain⟨a,h1,h2⟩:=h
  exact⟨a,pe hG cs a h1,h2⟩
 |.aw vs,y,h=>by
  simp only[AV.ak,mS]at h ⊢
  obtain⟨a,h1,h2⟩:=h
  exact⟨a,pe hG vs a h1,h2⟩
 |.nil,y,h=>by simpa [AV.ak] using h
 |.bool b,y,h=>by simpa [AV.ak] using h
 |.int k n,y,h=>by simpa [AV.ak] using h
 |.str s,y,h=>by simpa [AV.ak] using h
 |.sl e es,y,h=>by simpa [AV.ak] using h
 |.bQ,y,h=>by simpa [AV.ak] using h
 |.cg,y,h=>by simpa [AV.ak] using h
 |.cj,y,h=>by simpa [AV.ak] using h
 |.fn f a b,y,h=>by
  simp only[AV.ak]at h ⊢
  split at h
  ·rename_i x z hx hz
   obtain rfl:=oi h
   simp only[pe hG a x hx,pe hG b z hz]
  ·cases h
 |.bP ..,y,h=>by simp[AV.ak]at h
 |.ptr ..,y,h=>by simp[AV.ak]at h
 |.bz ..,y,h=>by simp[AV.ak]at h
 |.aL ..,y,h=>by simpa [AV.ak] using h
 |.dead,y,h=>by simp[AV.ak]at h
theorem pe (hG:D8 G G'):∀ (l ys:List AV),AV.aQ G l=some ys->AV.aQ G' l=some ys
 |[],ys,h=>h
 |x::l,ys,h=>by
  simp only[AV.aQ]at h ⊢
  split at h
  ·rename_i a b ha hb
   rw[nk hG x a ha,pe hG l b hb];exact h
  ·cases h
end
include hG in
theorem am3 {size:Nat}{x:AV}{cs:List AV} (h:jc G size x=some cs):jc G' size x=some cs:=by
 unfold jc at h ⊢
 split at h
 ·split at h
  ·rename_i hg;rw[hG _ _ _ hg];exact h
  ·cases h
 ·split at h
  ·rename_i hg;rw[hG _ _ _ hg];exact h
  ·cases h
 ·exact h
 ·cases h
include hG in
theorem anL {ti:TI}{x y:AV} (h:o9 G ti x=some y):o9 G' ti x=some y:=by
 unfold o9 at h ⊢
 rw[Option.bind_eq_some_iff]at h ⊢
 obtain⟨cs,h1,h2⟩:=h
 exact⟨cs,am3 hG h1,h2⟩
include hG in
theorem adJ {sz:Nat}{x:AV}{es:List (List AV)} (h:jf G sz x=some es):jf G' sz x=some es:=by
 unfold jf at h ⊢
 split at h
 ·exact h
 ·exact h
 ·split at h
  ·rename_i hg;rw[hG _ _ _ hg];exact h
  ·cases h
 ·split at h
  ·rename_i hg;rw[hG _ _ _ hg];exact h
  ·cases h
 ·cases h
theorem alP {T:AR}{s d:TI}{x y:AV} (h:vM T s d x=some y):∃ e,d.d=.slice e:=by
 unfold vM at h
 split at h
 ·rename_i e he;exact⟨e,he⟩
 ·cases h
theorem alT {T:AR}{G:AW}{s d:TI}{x:AV} (h:∃ e,d.d=.slice e):lk T G s d x=none:=by
 obtain⟨e,he⟩:=h
 unfold lk
 rw[he]
include hG in
theorem alR {T:AR}{s d:TI}{x y:AV} (h:lk T G s d x=some y):lk T G' s d x=some y:=by
 unfold lk at h ⊢
 split at h
 ·exact h
 ·split at h
  ·exact h
  ·split at h
   ·split at h
    ·split at h
     ·rename_i h1
      rw[if_pos h1]
      rw[Option.bind_eq_some_iff]at h ⊢
      obtain⟨es,h2,h3⟩:=h
      exact⟨es,adJ hG h2,h3⟩
     ·cases h
    ·cases h
   ·cases h
  ·cases h
 ·cases h
include hG in
theorem ahL:∀ (l:List (Nat×AV)) (cs:List (Nat×List AV)),mz G l=some cs->mz G' l=some cs
 |[],cs,h=>h
 |(i,v)::l,cs,h=>by
  simp only[mz]at h ⊢
  split at h
  ·split at h
   ·rename_i a b ha hb
    rw[pe hG _ _ ha,ahL l b hb];exact h
   ·cases h
  ·cases h
include hG in
theorem anF {kb len:Nat}{ti:TI}{ps:List (Nat×AV)}{d:De} (h:sv G kb ti len ps=some d):sv G' kb ti len ps=some d:=by
 unfold sv at h ⊢
 split at h
 ·split at h
  ·rename_i hc
   rw[if_pos hc]
   split at h
   ·rename_i cs gg
    rw[ahL hG _ _ gg];exact h
   ·cases h
  ·cases h
 ·cases h
include hG in
theorem adF {kb:Nat}{ti:TI}{s x:AV}{d:De} (h:kG G kb ti s x=some d):kG G' kb ti s x=some d:=by
 unfold kG at h ⊢
 split at h
 ·split at h
  ·rename_i new ei
   rw[adJ hG ei]
   split at h
   ·exact h
   ·split at h
    ·rename_i hg
     simp only[hG _ _ _ hg];exact h
    ·cases h
   ·cases h
  ·cases h
 ·cases h
include hG in
theorem anJ {ti:TI}{s x:AV}{d:De} (h:uq G ti s x=some d):uq G' ti s x=some d:=by
 unfold uq at h ⊢
 split at h
 ·split at h
  ·rename_i new ei
   rw[adJ hG ei]
   split at h
   ·exact h
   ·split at h
    ·rename_i hg
     simp only[hG _ _ _ hg];exact h
    ·cases h
   ·split at h
    ·rename_i hg
     simp only[hG _ _ _ hg];exact h
    ·cases h
   ·cases h
  ·cases h
 ·cases h
include hG in
theorem anH {ti:TI}{x:AV}{d:De} (h:uo G ti x=some d):uo G' ti x=some d:=by
 unfold uo at h ⊢
 split at h
 ·split at h
  ·exact h
  ·split at h
   ·rename_i hg
    simp only[hG _ _ _ hg];exact h
   ·cases h
  ·cases h
 ·cases h
include hG in
theorem anO {kb:Nat}{ti:TI}{a:AV}{vc:List AV}{d:De} (h:sw G kb ti a vc=some d):sw G' kb ti a vc=some d:=by
 unfold sw at h ⊢
 split at h
 ·rename_i hl
  rw[if_pos hl]
  split at h
  ·split at h
   ·rename_i hg
    simp only[hG _ _ _ hg]
    split at h
    ·rename_i hle
     rw[if_pos hle]
     split at h
     ·rename_i h0;rw[if_pos h0];exact h
     ·rename_i h0
      rw[if_neg h0]
      split at h
      ·exact h
      ·split at h
       ·rename_i new hz;rw[pe hG _ _ hz];exact h
       ·cases h
    ·cases h
   ·cases h
  ·split at h
   ·rename_i hg
    simp only[hG _ _ _ hg]
    split at h
    ·rename_i hc
     rw[if_pos hc]
     split at h
     ·rename_i c new qG hz
      rw[qG,pe hG _ _ hz];exact h
     ·cases h
    ·cases h
   ·cases h
  ·cases h
 ·cases h
theorem vO {a b:Option AV}{d:De} (hm:∀ x,a=some x->b=some x) (h:eu a=some d):eu b=some d:=by
 obtain⟨x,hx,rfl⟩:=agf h
 rw[hm x hx];rfl
include hG in
theorem alN {T:AR}{kb:Nat}{b:Builtin}{ts:List TypeId}{xs:List AV}{d:De} (h:nQ T G kb b ts xs=some d):nQ T G' kb b ts xs=some d:=by
 unfold nQ at h ⊢
 split at h
 ·cases h
 ·split at h
  ·cases h
  ·split at h
   ·exact h
   ·split at h
    ·split at h
     ·rename_i hl;rw[if_pos hl];exact adF hG h
     ·rename_i hl
      rw[if_neg hl]
      unfold yO at h ⊢
      split at h
      ·split at h
       ·split at h
        ·split at h
         ·rename_i h1;rw[if_pos h1];exact adF hG h
         ·cases h
        ·cases h
       ·cases h
      ·split at h
       ·split at h
        ·unfold wh at h ⊢
         split at h
         ·rename_i h1;rw[if_pos h1];exact adF hG h
         ·cases h
        ·cases h
       ·cases h
      ·cases h
    ·cases h
   ·split at h
    ·split at h
     ·rename_i hl;rw[if_pos hl];exact anJ hG h
     ·cases h
    ·cases h
   ·split at h
    ·exact anH hG h
    ·cases h
   ·exact h
   ·exact h
   ·cases h
theorem alI {G':AW}{ti:TI}{x lo hi z z':AV} (h:mm G' ti x lo hi=some z') (k:oR ti x (some lo) (some hi)=some z):z'=z:=by
 unfold mm at h
 split at h
 ·rename_i lv kk esz i n g
  split at h
  ·rename_i el hd
   split at h
   ·rename_i kl l kh iK
    split at h
    ·split at h
     ·obtain rfl:=oi h
      unfold oR at k
      rw[hd]at k
      simp only at k
      split at k
      ·simp only[mS]at k
       obtain⟨⟨a,b⟩,hb,rfl⟩:=k
       unfold bounds sj at hb
       simp only at hb
       split at hb
       ·rename_i hh hhe
        split at hhe
        ·obtain rfl:=oi hhe
         unfold sm at hb
         simp only at hb
         split at hb
         ·rename_i ll hle
          split at hle
          ·obtain rfl:=oi hle
           simp only[oE,Prod.mk.injEq]at hb
           obtain⟨rfl,rfl⟩:=hb
           rfl
          ·cases hle
         ·cases hb
        ·cases hhe
       ·cases hb
      ·cases k
     ·cases h
    ·cases h
   ·cases h
  ·cases h
 ·cases h
include eM hG in
theorem ai7 {T:AR}{kb:Nat}{o:Op}{ty:TypeId}{d:De} (h:bH T kb o ty tm G=some d):bH T kb o ty tm' G'=some d:=by
 have ev:∀ {x:Operand}{y:AV},bu tm x=some y->bu tm' x=some y:=fun hx=>acr eM hx
 unfold bH at h ⊢
 split at h
 ·exact vO (fun _=>ev) h
 ·rename_i x
  cases hx:bu tm x with
  |none=>rw[hx]at h;cases h
  |some y=>
   rw[hx]at h
   rw[ev hx]
   exact h
 ·rename_i c x y
  split at h
  ·rename_i b hb
   simp only[ev hb]
   cases b with
   |true=>exact vO (fun _=>ev) h
   |false=>exact vO (fun _=>ev) h
  ·cases h
 ·exact h
 ·split at h
  ·rename_i ti x' ht hx
   simp only[ht,ev hx];exact h
  ·cases h
 ·split at h
  ·rename_i ti ps ht hp
   simp only[ht,ae4 eM _ _ hp];exact h
  ·cases h
 ·split at h
  ·rename_i ti ps ht hp
   simp only[ht,ae4 eM _ _ hp];exact anF hG h
  ·cases h
 ·split at h
  ·rename_i ti x' ht hx
   simp only[ht,ev hx];exact vO (fun _=>anL hG) h
  ·cases h
 ·split at h
  ·rename_i ti x' y' ht hx hy
   simp only[ht,ev hx,ev hy]
   split at h
   ·exact anO hG h
   ·cases h
  ·cases h
 ·split at h
  ·rename_i x' hx
   simp only[ev hx];exact h
  ·cases h
 ·split at h
  ·rename_i ti x' y' ht hx hy
   simp only[ht,ev hx,ev hy];exact h
  ·cases h
 ·split at h
  ·rename_i x' hx
   simp only[ev hx];exact h
  ·cases h
 ·split at h
  ·rename_i s d' x' hs hd hx
   simp only[hs,hd,ev hx]
   refine vO (fun z hz=>?_) h
   cases hc:lk T G s d' x' with
   |some y=>rw[hc]at hz;rw[alR hG hc];exact hz
   |none=>
    rw[hc,vj]at hz
    rw[alT (alP hz),vj];exact hz
  ·cases h
 ·split at h
  ·rename_i x' y' hx hy
   simp only[aao eM _ _ hx,aao eM _ _ hy];exact h
  ·cases h
 ·split at h
  ·rename_i ti l' c' ht hl hc
   simp only[ht,ev hl,ev hc];exact h
  ·cases h
 ·split at h
  ·split at h
   ·split at h
    ·rename_i ht hx hh hm
     simp only[ht,ev hx,ev hh,ev hm]
     exact h
    ·cases h
   ·split at h
    ·rename_i ht hx hl hh
     split at h
     ·rename_i hm
      simp only[ht,ev hx,ev hl,ev hh,ev hm]
      exact h
     ·cases h
    ·cases h
   ·cases h
  ·split at h
   ·rename_i ti x' ht hx
    simp only[ht,ev hx]
    split at h
    ·exact h
    ·split at h
     ·rename_i iM;simp only[ev iM];exact h
     ·cases h
    ·split at h
     ·rename_i iM;simp only[ev iM];exact h
     ·cases h
    ·split at h
     ·rename_i mQ gW iM sO
      simp only[ev iM,ev sO]
      refine vO (fun z hz=>?_) h
      cases eJ:mm G ti x' mQ gW with
      |none=>
       rw[eJ,vj]at hz
       cases aee:mm G' ti x' mQ gW with
       |none=>rw[vj];exact hz
       |some z'=>
        rw[xJ]
        exact(alI aee hz)▸rfl
      |some z'=>
       rw[eJ,xJ]at hz
       have aee:mm G' ti x' mQ gW=some z':=by
        unfold mm at eJ ⊢
        split at eJ
        ·split at eJ
         ·split at eJ
          ·split at eJ
           ·rename_i hg
            simp only[hG _ _ _ hg];exact eJ
           ·cases eJ
          ·cases eJ
         ·cases eJ
        ·cases eJ
       rw[aee,xJ];exact hz
     ·cases h
   ·cases h
 ·split at h
  ·rename_i ti x' ht hx
   simp only[ht,ev hx];exact h
  ·cases h
 ·split at h
  ·rename_i ti x' ht hx
   simp only[ht,ev hx];exact h
  ·cases h
 ·split at h
  ·rename_i ti x' y' ht hx hy
   simp only[ht,ev hx,ev hy];exact h
  ·cases h
 ·split at h
  ·rename_i ti x' y' ht hx hy
   simp only[ht,ev hx,ev hy];exact h
  ·cases h
 ·split at h
  ·rename_i xs hx
   simp only[ev hx];exact h
  ·cases h
 ·split at h
  ·rename_i ti l k esz i n g ht hx
   simp only[ht,ev hx];exact h
  ·cases h
 ·split at h
  ·rename_i ti x' ht hx
   simp only[ht,ev hx];exact h
  ·cases h
 ·split at h
  ·split at h
   ·rename_i xs gm
    simp only[aao eM _ _ gm];exact alN hG h
   ·cases h
  ·cases h
 ·cases h
end
abbrev Sets:=List (Nat×Nat×Option AJ)
def said:Sets->Nat->Nat->Option (Option AJ)
 |[],_,_=>none
 |(l,k,b)::r,l',k'=>match said r l' k' with
  |some x=>some x
  |none=>if l=l'/\k=k' then some b else none
theorem uz (s:Sets):∀ (H:Heap) (l k:Nat),(H.bV s).get l k=match said s l k with
  |some b=>if l<H.length then b else none
  |none=>H.get l k:=by
 induction s with
 |nil=>intro H l k;rfl
 |cons p s ih=>
  obtain⟨l0,k0,b⟩:=p
  intro H l k
  simp only[Heap.bV,ih,said,Heap.apK]
  cases hs:said s l k with
  |some x=>rfl
  |none=>
   simp only[Heap.qA]
   by_cases h:l0=l/\k0=k
   ·obtain⟨rfl,rfl⟩:=h
    simp only[and_self,true_and,if_true]
    split
    ·rfl
    ·rename_i hl
     cases hg:H.get l0 k0 with
     |none=>rfl
     |some b'=>exact absurd (Heap.sD H _ _ _ hg) hl
   ·rw[if_neg h,if_neg (fun hh=>h ⟨hh.1,hh.2.1⟩)]
theorem xN (s t:Sets) (l k:Nat):said (s++t) l k=match said t l k with
  |some x=>some x
  |none=>said s l k:=by
 induction s with
 |nil=>simp only[Ce,said];cases said t l k<;>rfl
 |cons p s ih=>
  obtain⟨l0,k0,b⟩:=p
  simp only[Bz,said,ih]
  cases said t l k<;>rfl
theorem acF {s:Sets}{l k:Nat} (h:∀ p∈s,¬ (p.1=l/\p.2.1=k)):said s l k=none:=by
 induction s with
 |nil=>rfl
 |cons p s ih=>
  obtain⟨l0,k0,b⟩:=p
  simp only[said,ih (fun q hq=>h q (List.mem_cons_of_mem _ hq))]
  rw[if_neg (h _ List.mem_cons_self)]
theorem ajM {s:Sets}{l k:Nat}{x:Option AJ} (h:said s l k=some x):∃ p∈s,p.1=l/\p.2.1=k:=by
 induction s with
 |nil=>cases h
 |cons p s ih=>
  obtain⟨l0,k0,b⟩:=p
  simp only[said]at h
  cases hs:said s l k with
  |some y=>rw[hs]at h;cases h;obtain⟨q,h1,h2⟩:=ih hs;exact⟨q,List.mem_cons_of_mem _ h1,h2⟩
  |none=>
   rw[hs]at h
   simp only at h
   split at h
   ·rename_i hh;exact⟨_,List.mem_cons_self,hh⟩
   ·cases h
def qf (s t:Sets):Prop:=∀ p∈s,∀ q∈t,¬ (p.1=q.1/\p.2.1=q.2.1)
theorem arj {s t:Sets} (h:qf s t) (l k:Nat):said (s++t) l k=said (t++s) l k:=by
 rw[xN,xN]
 cases ht:said t l k with
 |none=>cases said s l k<;>rfl
 |some x=>
  cases hs:said s l k with
  |none=>rfl
  |some y=>
   obtain⟨q,h1,h2,h3⟩:=ajM ht
   obtain⟨p,h4,h5,h6⟩:=ajM hs
   exact absurd ⟨h5.trans h2.symm,h6.trans h3.symm⟩ (h p h4 q h1)
section
variable {N0:Nat}{W0:World}{fm:FM}{ts:List Aw}{H H':Heap}{w:World}
theorem HR.ext (h:HR N0 W0 fm ts H w) (hl:H'.length=H.length) (hg:∀ l k,H'.get l k=H.get l k):HR N0 W0 fm ts H' w:=
 ⟨h.len.trans hl.symm,fun l k b e=>h.aD l k b (by rw[<-hg];exact e),fun l1 k1 l2 k2 b1 b2 c g1 g2=>h.inj l1 k1 l2 k2 b1 b2 c (by rw[<-hg];exact g1) (by rw[<-hg];exact g2),h.cV,
  fun l k b c o e=>h.eR l k b c o (by rw[<-hg];exact e),h.dL,h.size,h.dH⟩
end
def cN (ops:List Az) (j:Nat):Option Tmp:=(ops[j]?).bind (·.dst)
def jd (ops:List Az) (ds:List De):List Nat->List (Nat×AV)->List (Nat×AV)
 |[],tm=>tm
 |j::L,tm=>jd ops ds L (match ds[j]? with
  |some d=>nH tm (cN ops j) d.val
  |none=>tm)
def eP (ds:List De) (j:Nat):Sets:=((ds[j]?).map (·.mW)).getD []
def cO (ds:List De):List Nat->Sets
 |[]=>[]
 |j::L=>eP ds j++cO ds L
def Eb (ops:List Az):Prop:=∀ i j t,cN ops i=some t->cN ops j=some t->i=j
theorem aiN (tm:List (Nat×AV)) (dst:Option Tmp) (v:AV) (t:Nat):look (nH tm dst v) t=if dst=some t then some v else look tm t:=by
 cases dst with
 |none=>simp[nH]
 |some d=>simp only[nH,tp,oE]
theorem ni (ops:List Az) (ds:List De) (t:Nat):∀ (L:List Nat) (tm:List (Nat×AV)),(∀ j∈L,cN ops j≠some t)->look (jd ops ds L tm) t=look tm t
 |[],tm,_=>rfl
 |j::L,tm,h=>by
  simp only[jd]
  rw[ni ops ds t L _ (fun k hk=>h k (List.mem_cons_of_mem _ hk))]
  split
  ·rw[aiN,if_neg (h j List.mem_cons_self)]
  ·rfl
theorem sx (ops:List Az) (ds:List De) (h1:Eb ops) {t j:Nat}{d:De} (hj:cN ops j=some t) (hd:ds[j]?=some d):∀ (L:List Nat) (tm:List (Nat×AV)),j∈L->look (jd ops ds L tm) t=some d.val
 |[],tm,h=>by cases h
 |i::L,tm,h=>by
  simp only[jd]
  by_cases hL:j∈L
  ·exact sx ops ds h1 hj hd L _ hL
  ·have:j=i:=by
    rcases BF.1 h with h|h
    ·exact h
    ·exact absurd h hL
   subst this
   rw[ni ops ds t L _ (fun k hk qM=>hL (by rw[h1 j k t hj qM];exact hk))]
   rw[hd]
   simp only[aiN,hj,if_true]
theorem afj {ds:List De}{l k:Nat} (p q:Nat->Bool) (xl:∀ j,p j=true->q j=true):∀ (L:List Nat),(∀ j∈L,q j=true->p j=false->∀ s∈eP ds j,¬ (s.1=l/\s.2.1=k))->
  said (cO ds (L.filter p)) l k=said (cO ds (L.filter q)) l k
 |[],_=>rfl
 |j::L,h=>by
  have ih:=afj p q xl L (fun i hi=>h i (List.mem_cons_of_mem _ hi))
  by_cases hp:p j=true
  ·rw[List.filter_cons_of_pos hp,List.filter_cons_of_pos (xl j hp)]
   simp only[cO,xN,ih]
  ·have hpf:p j=false:=by simpa using hp
   rw[List.filter_cons_of_neg hp]
   by_cases hq:q j=true
   ·rw[List.filter_cons_of_pos hq]
    simp only[cO,xN,<-ih]
    rw[acF (h j List.mem_cons_self hq hpf)]
    cases said (cO ds (L.filter p)) l k<;>rfl
   ·rw[List.filter_cons_of_neg hq];exact ih
theorem ajL {ds:List De}{l k i:Nat} (p:Nat->Bool) (iD:p i=false):∀ (L:List Nat),L.Nodup->i∈L->(∀ j,p j=true->(∃ a b,L=a++i::b/\j∈b)->qf (eP ds i) (eP ds j))->
  said (cO ds (L.filter fun j=>p j || j==i)) l k=said (cO ds (L.filter p)++eP ds i) l k
 |[],_,h,_=>by cases h
 |j::L,bY,hi,mE=>by
  by_cases kL:j=i
  ·subst kL
   have hnL:j∉L:=(List.nodup_cons.1 bY).1
   have e1:(j::L).filter (fun k=>p k || k==j)=j::L.filter p:=by
    rw[List.filter_cons_of_pos (by simp)]
    congr 1
    apply List.filter_congr
    intro x hx
    have:(x==j)=false:=by simp;rintro rfl;exact hnL hx
    rw[this];simp
   have e2:(j::L).filter p=L.filter p:=by rw[List.filter_cons_of_neg (by simp[iD])]
   rw[e1,e2]
   simp only[cO]
   refine arj ?_ l k
   have:∀ (M:List Nat),(∀ x∈M,x∈L)->qf (eP ds j) (cO ds (M.filter p)):=by
    intro M
    induction M with
    |nil=>intro _ a _ b hb;cases hb
    |cons x M ih=>
     intro hM
     by_cases hp:p x=true
     ·rw[List.filter_cons_of_pos hp]
      intro a ha b hb
      simp only[cO,A9]at hb
      rcases hb with hb|hb
      ·exact mE x hp ⟨[],L,rfl,hM x List.mem_cons_self⟩ a ha b hb
      ·exact ih (fun y hy=>hM y (List.mem_cons_of_mem _ hy)) a ha b hb
     ·rw[List.filter_cons_of_neg hp]
      exact ih (fun y hy=>hM y (List.mem_cons_of_mem _ hy))
   exact this L (fun _ h=>h)
  ·have hiL:i∈L:=by
    rcases BF.1 hi with h|h
    ·exact absurd h.symm kL
    ·exact h
   have ih:=ajL (ds:=ds) (l:=l) (k:=k) p iD L (List.nodup_cons.1 bY).2 hiL (fun x hx=>by
    rintro⟨a,b,e,hb⟩
    exact mE x hx ⟨j::a,b,by rw[e];rfl,hb⟩)
   have ba:(j==i)=false:=by simpa using kL
   by_cases hp:p j=true
   ·rw[List.filter_cons_of_pos (by simp[hp]),List.filter_cons_of_pos hp]
    simp only[cO]
    rw[xN,ih,Cy,xN (eP ds j)]
   ·have hpf:p j=false:=by simpa using hp
    rw[List.filter_cons_of_neg (by simp[hpf,kL]),List.filter_cons_of_neg hp]
    exact ih
def idxs (n:Nat) (p:Nat->Bool):List Nat:=(List.range n).filter p
def cE (befs:List (List Nat)) (i:Nat):List Nat:=(befs[i]?).getD []
def rF (befs:List (List Nat)) (i j:Nat):Bool:=j != i&&!(cE befs i).contains j&&!(cE befs j).contains i
def o8 (ops:List Az) (befs:List (List Nat)) (ds:List De) (tm:List (Nat×AV)) (i:Nat):List (Nat×AV):=
 jd ops ds (idxs ops.length fun j=>(cE befs i).contains j) (cM tm ((idxs ops.length fun j=>!(cE befs j).contains i).filterMap (cN ops)))
def gone (s:Sets):Sets:=s.map fun x=>(x.1,x.2.1,none)
def nh (ops:List Az) (befs:List (List Nat)) (ds:List De) (H:Heap) (i:Nat):Heap:=
 (H.bV (cO ds (idxs ops.length fun j=>(cE befs i).contains j))).bV (gone (cO ds (idxs ops.length (rF befs i))))
inductive Eu (P:Program) (T:AR) (kb:Nat) (o:Az) (tm:Tm) (G:AW) (d:De):Prop
 |op (hc:kP o.op=none) (h:bH T kb o.op o.type tm G=some d)
 |call (c:Call) (f:FuncId) (args aE:List AV) (hc:kP o.op=some c) (h:callee tm c=some (f,args)) (hp:Ay P f aE (fun y=>y=d.val)) (hz:AV.aQ G args=some aE)
   (hr:AV.aT args=[]\/d.val.cS=true) (hs:d.mW=[])
 |nD (m:Nat) (c:Call) (f:FuncId) (args aE:List AV) (hc:kP o.op=some c) (h:callee tm c=some (f,args)) (hp:Ay P f aE (fun y=>y=d.val)) (hz:AV.dk G (cZ G m) args=some aE)
   (hr:d.val.cS=true) (hs:d.mW=[])
 |pg (rs gs:List Nat) (c:Call) (f:FuncId) (args dO:List AV) (fr0 fr:AH) (y:AV) (hc:kP o.op=some c) (h:callee tm c=some (f,args)) (hp:Bg P f dO fr0 (fun y' aZ=>y'=y/\aZ=fr))
   (hz:lA gs (only (ka G) (rs.map fun k=>(1,k))) (cZ (only (ka G) (rs.map fun k=>(1,k))) 5) (AV.dm 1 args)=some dO) (hg:pj G 0 gs=some fr0) (bY:(decide (gs++rs).Nodup&&decide (gs.length<=16))=true)
   (hd:d=⟨y.imp kb,lM rs++(lM gs++lJ kb fr)⟩)
 |sE (m:Nat) (c:Call) (f:FuncId) (args aE:List AV) (fr:AH) (y:AV) (hc:kP o.op=some c) (h:callee tm c=some (f,args)) (hp:Bg P f aE [] (fun y' aZ=>y'=y/\aZ=fr)) (hz:AV.dk G (cZ G m) args=some aE)
   (hy:y.rh=true) (hf:tn fr) (hd:d=⟨y.imp kb,lJ kb fr⟩)
def ahV (o:Az) (tm:Tm):Prop:=o.guard=none\/∃ g w b,o.guard=some (g,w)/\tm g=some (.bool b)/\(b==w)=true
def stays (o:Az) (tm:Tm):Prop:=∃ g w,o.guard=some (g,w)/\((∃ b,tm g=some (.bool b)/\(b==w)=false)\/tm g=some (.aw []))
def C8 (P:Program) (T:AR) (kb:Nat) (o:Az) (tm:Tm) (G:AW) (d:De):Prop:=(ahV o tm/\Eu P T kb o tm G d)\/(stays o tm/\d=⟨.aw [],[]⟩)
theorem aog {s:Sets}{l k:Nat} (h:∃ p∈s,p.1=l/\p.2.1=k):said (gone s) l k=some none:=by
 induction s with
 |nil=>obtain⟨p,hp,_⟩:=h;cases hp
 |cons q s ih=>
  obtain⟨l0,k0,b⟩:=q
  simp only[gone,List.map_cons,said]
  by_cases hs:∃ p∈s,p.1=l/\p.2.1=k
  ·have:=ih hs
   unfold gone at this
   rw[this]
  ·obtain⟨p,hp,h1,h2⟩:=h
   rcases BF.1 hp with rfl|hp
   ·have hn:said (List.map (fun x=>(x.1,x.2.1,none)) s) l k=none:=by
     apply acF
     intro x hx
     obtain⟨y,hy,rfl⟩:=List.mem_map.1 hx
     exact fun hh=>hs ⟨y,hy,hh⟩
    rw[hn]
    simp only
    rw[if_pos ⟨h1,h2⟩]
   ·exact absurd ⟨p,hp,h1,h2⟩ hs
theorem aeL {ds:List De}{s:Nat×Nat×Option AJ}:∀ (L:List Nat),s∈cO ds L↔∃ j∈L,s∈eP ds j
 |[]=>by simp[cO]
 |j::L=>by simp only[cO,A9,aeL L,BF,exists_eq_or_imp]
theorem ano {ops:List Az}{befs:List (List Nat)}{ds:List De}{H:Heap}{i:Nat} (p:Nat->Bool) (iD:p i=false) (hB:∀ j,(cE befs i).contains j=true->p j=true)
  (cG:∀ j,p j=true->(cE befs j).contains i=false):D8 (Heap.get (nh ops befs ds H i)) (Heap.get (H.bV (cO ds (idxs ops.length p)))):=by
 intro l k b hb
 unfold nh at hb
 rw[uz]at hb
 have zK:¬ ∃ s∈cO ds (idxs ops.length (rF befs i)),s.1=l/\s.2.1=k:=by
  intro hex
  rw[aog hex]at hb
  simp only at hb
  split at hb<;>cases hb
 have hn:said (gone (cO ds (idxs ops.length (rF befs i)))) l k=none:=by
  apply acF
  intro x hx
  obtain⟨y,hy,rfl⟩:=List.mem_map.1 hx
  exact fun hh=>zK ⟨y,hy,hh⟩
 rw[hn]at hb
 simp only at hb
 rw[uz]at hb ⊢
 have e:said (cO ds (idxs ops.length fun j=>(cE befs i).contains j)) l k=said (cO ds (idxs ops.length p)) l k:=by
  refine afj _ _ hB _ ?_
  intro j hj lH hnb s hs hh
  refine zK ⟨s,(aeL _).2 ⟨j,?_,hs⟩,hh⟩
  unfold idxs
  rw[List.mem_filter]
  refine⟨hj,?_⟩
  have kL:j≠i:=by rintro rfl;rw[iD]at lH;cases lH
  unfold rF
  rw[hnb,cG j lH]
  simp[kL]
 rw[<-e]
 exact hb
section
variable [Md]
structure DR (N0:Nat) (W0:World) (n:Nat) (st:St) (ops:List Az) (ds:List De) (p:Nat->Bool) (a:Act) (w:World) (fm:FM) (ts:List Aw):Prop where
 hr:HR N0 W0 fm ts (Heap.bV (st.fr::st.low) (cO ds (idxs ops.length p))) w
 tm:C1 fm ts (look (jd ops ds (idxs ops.length p) st.tm)) a
 fre:∀ i,i<ops.length->p i=false->∀ k,st.nx+16*i<=k->k<st.nx+16*i+16->tb ts 0 k=none
 top:∀ k,st.nx+16*ops.length<=k->tb ts 0 k=none
 size:a.tmps.size=n
 fy:a.defers=Md.wg
theorem mO {n:Nat}{p:Nat->Bool}{j:Nat}:j∈idxs n p↔j<n/\p j=true:=by
 unfold idxs;rw[List.mem_filter,List.mem_range]
section
variable [Md] {P:Program}{T:AR}{N0:Nat}{W0:World}{n:Nat}{fm:FM}{ts:List Aw}{st:St}{ops:List Az}{befs:List (List Nat)}{ds:List De}
theorem ag1 {l:List (Nat×AV)}:∀ (ks:List Nat) (l:List (Nat×AV)) (t:Nat),t∈ks->look (cM l ks) t=none
 |[],_,_,h=>by cases h
 |k::ks,l,t,h=>by
  simp only[cM]
  by_cases ht:t∈ks
  ·exact ag1 (l:=l) ks _ t ht
  ·have hk:t=k:=by
    rcases BF.1 h with h|h
    ·exact h
    ·exact absurd h ht
   subst hk
   cases hl:look (cM (del l t) ks) t with
   |none=>rfl
   |some x=>
    have:=aaf ks _ t x hl
    rw[aae,if_pos rfl]at this
    cases this
theorem agW {p:Nat->Bool}{i:Nat} (h1:Eb ops) (n8:∀ j,j<ops.length->∃ d,ds[j]?=some d) (hB:∀ j,(cE befs i).contains j=true->p j=true) (cG:∀ j,p j=true->(cE befs j).contains i=false):
  Fm (look (o8 ops befs ds st.tm i)) (look (jd ops ds (idxs ops.length p) st.tm)):=by
 intro t x hx
 unfold o8 at hx
 by_cases hex:∃ j,cN ops j=some t
 ·obtain⟨j,hj⟩:=hex
  have jY:j<ops.length:=by
   unfold cN at hj
   cases ho:ops[j]? with
   |none=>rw[ho]at hj;cases hj
   |some o=>exact(gS.1 ho).1
  obtain⟨dj,pr⟩:=n8 j jY
  have bw:∀ q:Nat->Bool,q j=false->∀ k∈idxs ops.length q,cN ops k≠some t:=by
   intro q hq k hk qM
   have:=h1 j k t hj qM
   subst this
   rw[(mO.1 hk).2]at hq;cases hq
  by_cases hb:(cE befs i).contains j=true
  ·rw[sx ops ds h1 hj pr _ _ (mO.2 ⟨jY,hb⟩)]at hx
   rw[sx ops ds h1 hj pr _ _ (mO.2 ⟨jY,hB j hb⟩)]
   exact hx
  ·rw[ni ops ds t _ _ (bw _ (by simpa using hb))]at hx
   by_cases ha:(cE befs j).contains i=true
   ·have lH:p j=false:=by
     cases hp:p j with
     |false=>rfl
     |true=>have:=cG j hp;rw[ha]at this;cases this
    rw[ni ops ds t _ _ (bw _ lH)]
    exact aaf _ _ _ _ hx
   ·rw[ag1 (l:=st.tm)]at hx
    ·cases hx
    ·exact List.mem_filterMap.2 ⟨j,mO.2 ⟨jY,by simpa using ha⟩,hj⟩
 ·have bw:∀ (L:List Nat),∀ j∈L,cN ops j≠some t:=fun L j _ hj=>hex ⟨j,hj⟩
  rw[ni ops ds t _ _ (bw _)]at hx ⊢
  exact aaf _ _ _ _ hx
theorem DR.step {p:Nat->Bool}{a:Act}{w:World} (h:DR N0 W0 n st ops ds p a w fm ts) {i:Nat} (hi:i<ops.length) (iD:p i=false) {d:De} (hd:ds[i]?=some d) {r:Result Next}{fm':FM}{ts':List Aw}{w':World}{v:Value}
  (o:Out N0 W0 fm ts (Heap.bV (st.fr::st.low) (cO ds (idxs ops.length p))) w (st.nx+16*i) r d fm' ts' w' v) (h1:Eb ops) (n8:∀ j,j<ops.length->∃ d,ds[j]?=some d)
  (mE:∀ j,p j=true->i<j->qf (eP ds i) (eP ds j)) (eT:∀ d,cN ops i=some d->d<n):
  DR N0 W0 n st ops ds (fun j=>p j || j==i) (a.put (cN ops i) v) w' fm' ts'/\Bq N0 fm ts fm' ts':=by
 refine⟨⟨?_,?_,?_,?_,by rw[aav];exact h.size,by rw[xK];exact h.fy⟩,⟨o.fj,o.ke.drop 1,?_⟩⟩
 ·refine o.hr.ext (by simp) ?_
  intro l k
  have hs:eP ds i=d.mW:=by simp[eP,hd]
  rw[<-Heap.pR,<-hs,uz,uz]
  have:=ajL (ds:=ds) (l:=l) (k:=k) (i:=i) p iD (List.range ops.length) List.nodup_range (List.mem_range.2 hi) (by
   rintro j hj ⟨x,y,uX,hjy⟩
   refine mE j hj ?_
   have aiv:(List.range ops.length).Pairwise (·<·):=List.pairwise_lt_range
   rw[uX]at aiv
   have:=(List.pairwise_append.1 aiv).2.1
   exact(List.pairwise_cons.1 this).1 j hjy)
  unfold idxs
  rw[this]
 ·intro t x hx
  by_cases ht:cN ops i=some t
  ·have bT:i∈idxs ops.length (fun j=>p j || j==i):=mO.2 ⟨hi,by simp⟩
   rw[sx ops ds h1 ht hd _ _ bT]at hx
   obtain rfl:=oi hx
   have af:=eT t ht
   rw[<-h.size]at af
   exact⟨v,by rw[ht];simp[Act.put,af],o.val⟩
  ·have jq:look (jd ops ds (idxs ops.length p) st.tm) t=some x:=by
    by_cases hex:∃ j,cN ops j=some t
    ·obtain⟨j,hj⟩:=hex
     have kL:j≠i:=fun e=>ht (by rw[<-e];exact hj)
     have jY:j<ops.length:=by
      unfold cN at hj
      cases ho:ops[j]? with
      |none=>rw[ho]at hj;cases hj
      |some o=>exact(gS.1 ho).1
     obtain⟨dj,pr⟩:=n8 j jY
     by_cases lH:p j=true
     ·rw[sx ops ds h1 hj pr _ _ (mO.2 ⟨jY,by simp[lH]⟩)]at hx
      rw[sx ops ds h1 hj pr _ _ (mO.2 ⟨jY,lH⟩)]
      exact hx
     ·have bw:∀ q:Nat->Bool,q j=false->∀ k∈idxs ops.length q,cN ops k≠some t:=by
       intro q hq k hk qM
       have:=h1 j k t hj qM
       subst this
       rw[(mO.1 hk).2]at hq;cases hq
      rw[ni ops ds t _ _ (bw _ (by simp[lH,kL]))]at hx
      rw[ni ops ds t _ _ (bw _ (by simpa using lH))]
      exact hx
    ·have bw:∀ (L:List Nat),∀ j∈L,cN ops j≠some t:=fun L j _ hj=>hex ⟨j,hj⟩
     rw[ni ops ds t _ _ (bw _)]at hx ⊢
     exact hx
   obtain⟨u,h2,h3⟩:=h.tm t x jq
   refine⟨u,?_,h3.mono o.fj.le o.ke⟩
   cases n9:cN ops i with
   |none=>exact h2
   |some dd=>
    simp only[Act.put]
    rw[Array.getElem?_setIfInBounds_ne (fun e=>ht (by rw[n9,e]))]
    exact h2
 ·intro j hj lH k gX qL
  simp only[Bool.or_eq_false_iff,beq_eq_false_iff_ne,ne_eq]at lH
  refine o.free 0 k ?_ (h.fre j hj lH.1 k gX qL)
  rcases Nat.lt_or_gt_of_ne lH.2 with af|hgt
  ·exact .inr (.inl (by omega))
  ·exact .inr (.inr (by omega))
 ·intro k hk
  refine o.free 0 k (.inr (.inr ?_)) (h.top k hk)
  have:st.nx+16*i+16<=st.nx+16*ops.length:=by omega
  omega
 ·intro l k hn
  rw[ft]at hn ⊢
  exact o.free (l+1) k (by omega) hn
end
end
section
variable [Md] {P:Program}{T:AR}{N0:Nat}{W0:World}{n:Nat}{fm:FM}{ts:List Aw}{st:St}{ops:List Az}{befs:List (List Nat)}{ds:List De}
theorem abD {tm tm':Tm} (h:Fm tm tm') {c:Call}{x:FuncId×List AV} (e:callee tm c=some x):callee tm' c=some x:=by
 unfold callee at e ⊢
 split at e
 ·split at e
  ·rename_i hf hx
   simp only[acr h hf,aao h _ _ hx];exact e
  ·cases e
 ·cases e
theorem HR.mA {H:Heap}{w:World} (h:HR N0 W0 fm ts H w) {cs ys:List AV}{vs:List Value} (hv:AG fm ts cs vs) (e:AV.aQ H.get cs=some ys):
  AG (jW fm w (behind ts H (AV.aT cs))) [] ys vs:=h.aQ _ hv e (fun _ h=>h)
theorem DR.oper (hT:AX P T) {p:Nat->Bool}{a:Act}{w:World} (h:DR N0 W0 n st ops ds p a w fm ts) {i:Nat} (hi:i<ops.length) (iD:p i=false) {d:De} (hd:ds[i]?=some d) {s:Az} (hs:ops[i]?=some s)
  (he:Eu P T (st.nx+16*i) s (look (o8 ops befs ds st.tm i)) (Heap.get (nh ops befs ds (st.fr::st.low) i)) d) (h1:Eb ops) (n8:∀ j,j<ops.length->∃ d,ds[j]?=some d)
  (hB:∀ j,(cE befs i).contains j=true->p j=true) (cG:∀ j,p j=true->(cE befs j).contains i=false)
  (mE:∀ j,p j=true->i<j->qf (eP ds i) (eP ds j)) (eT:∀ d,cN ops i=some d->d<n)
  {o:Oper} (nw:s.op=o.op) (hty:s.type=o.type) (n9:s.dst=o.dst) {K:Act->World->Prop}{Q:Exit->Act->World->Prop}
  (hK:∀ v w' fm' ts',DR N0 W0 n st ops ds (fun j=>p j || j==i) (a.put o.dst v) w' fm' ts'->Bq N0 fm ts fm' ts'->K (a.put o.dst v) w'):o.wpIn FW 0 P a w K Q:=by
 have hdo:cN ops i=o.dst:=by simp[cN,hs,n9]
 have hG:=ano (ops:=ops) (ds:=ds) (H:=st.fr::st.low) p iD hB cG
 have qF:Fm (look (o8 ops befs ds st.tm i)) (look (jd ops ds (idxs ops.length p) st.tm)):=by
  exact agW h1 n8 hB cG
 have step:∀ {r v w' fm' ts'},Out N0 W0 fm ts (Heap.bV (st.fr::st.low) (cO ds (idxs ops.length p))) w (st.nx+16*i) r d fm' ts' w' v->K (a.put o.dst v) w':=by
  intro r v w' fm' ts' ho
  obtain⟨h2,h3⟩:=h.step hi iD hd ho h1 n8 mE eT
  rw[hdo]at h2
  exact hK v w' fm' ts' h2 h3
 cases he with
 |op hc sM=>
  have ab0:=ai7 qF hG sM
  rw[nw,hty]at ab0
  obtain⟨fm',ts',w',v,ho⟩:=ai8 (P:=P) hT h.hr (by simp) (h.fre i hi iD) h.tm ab0
  have hk:=step ho
  have bY:∀ c,o.op≠.defer c:=fun c0 h0=>by rw[h0]at ab0;simp[bH]at ab0
  rcases ho.done with hr|⟨hr,rfl⟩
  ·exact acs bY hr hk
  ·exact ajg bY hr hk
 |call c f args aE hc fJ hp hz hr aca=>
  have uE:=abD qF fJ
  have eD:=pe hG _ _ hz
  obtain⟨vs,fC,bm,uP⟩:=yF (w:=w) h.tm uE hc nw hp.1
  have oc:=h.hr.mA fC eD
  have bT:=(h.hr.tk (AV.aT args)).cV
  refine aaq uP bm ?_
  refine Calls.mono (hp.2 _ w _ bT oc) ?_
  rintro e w' ⟨v,y,fm',rfl,rfl,zz,bM,b9,hb⟩
  refine step (r:=.ok (.value v) w') (fm':=if AV.aT args=[] then fm' else fm) (ts':=ts) ?_
  by_cases xn:AV.aT args=[]
  ·rw[if_pos xn]
   rw[xn,abT]at b9
   refine⟨.inl rfl,?_,bM.mono (Bh.refl _) (AD.nil _),b9.low h.hr.size,AD.refl _,fun _ _ _ h=>h⟩
   rw[aca]
   exact h.hr.up hb b9 zz
  ·rw[if_neg xn]
   have hsc:d.val.cS=true:=by
    rcases hr with hr|hr
    ·exact absurd hr xn
    ·exact hr
   refine⟨.inl rfl,?_,bM.cS hsc,AU.refl _ _,AD.refl _,fun _ _ _ h=>h⟩
   rw[aca]
   exact h.hr.world (fun i hi=>hb.block i hi) (hb.mono h.hr.size)
 |nD m c f args aE hc fJ hp hz hr aca=>
  have uE:=abD qF fJ
  have eD:=(ue hG (vX hG (fun _ _ _ _ _ _ _ hh=>nk hG _ _ hh) m) (fun _ _ _ _ _ _ _ hh=>nk hG _ _ hh)).2 _ _ hz
  obtain⟨vs,fC,bm,uP⟩:=yF (w:=w) h.tm uE hc nw hp.1
  have oc:=h.hr.brs _ (h.hr.cZ m) fC eD
  refine aaq uP bm ?_
  refine Calls.mono (hp.2 (jD w) w _ (fun b o v h=>h) oc) ?_
  rintro e w' ⟨v,y,fm',rfl,rfl,zz,bM,b9,hb⟩
  refine step (r:=.ok (.value v) w') (fm':=fm) (ts':=ts) ?_
  refine⟨.inl rfl,?_,bM.cS hr,AU.refl _ _,AD.refl _,fun _ _ _ h=>h⟩
  rw[aca]
  exact h.hr.world (fun i hi=>hb.block i hi) (hb.mono h.hr.size)
 |sE m c f args aE fr y hc fJ hp hz hy hf zj=>
  have uE:=abD qF fJ
  have eD:=(ue hG (vX hG (fun _ _ _ _ _ _ _ hh=>nk hG _ _ hh) m) (fun _ _ _ _ _ _ _ hh=>nk hG _ _ hh)).2 _ _ hz
  obtain⟨vs,fC,bm,uP⟩:=yF (w:=w) h.tm uE hc nw hp.1
  have oc:=h.hr.brs _ (h.hr.cZ m) fC eD
  obtain⟨f1,H1,hH⟩:=xL st.fr st.low (cO ds (idxs ops.length p))
  refine aaq uP bm ?_
  refine Calls.mono (Bg.aiH hp h.hr oc hy hf) ?_
  rintro e w' ⟨v,t',rfl,cQ,bM,jE⟩
  cases ts with
  |nil=>have:=cQ.len;rw[hH]at this;simp at this
  |cons hh rest=>
   have bw:∀ l k,tb (hh::rest) l k=none->tb (hh::rest) l k=none:=fun _ _ h=>h
   have b9:AU N0 fm fm:=AU.refl _ _
   have mL:AD (hh::rest) (hh::rest):=AD.refl _
   have aey:∀ k x,hh k=some x->¬ (st.nx+16*i<=k/\k<st.nx+16*i+16):=by
    rintro k x hx ⟨h1,h2⟩
    have:=bw 0 k (h.fre i hi iD k h1 h2)
    simp only[tb]at this
    rw[this]at hx;cases hx
   have j1:∀ k x,t' k=some x->kc (st.nx+16*i) t' hh (st.nx+16*i+k)=some x:=by
    intro k x hx
    have af:k<16:=by
     rcases Nat.lt_or_ge k 16 with hk|hk
     ·exact hk
     ·rw[jE k hk]at hx;cases hx
    unfold kc
    rw[if_pos ⟨by omega,by omega⟩]
    simpa using hx
   have j2:∀ k x,hh k=some x->kc (st.nx+16*i) t' hh k=some x:=by
    intro k x hx
    unfold kc
    rw[if_neg (aey k x hx)];exact hx
   have hJ:∀ l k x,tb (t'::hh::rest) l k=some x->tb (kc (st.nx+16*i) t' hh::rest) (l - 1) (if l=0 then st.nx+16*i+k else k)=some x:=by
    intro l k x e
    cases l with
    |zero=>simpa [tb] using j1 k x (by simpa [tb] using e)
    |succ l=>
     cases l with
     |zero=>simpa [tb] using j2 k x (by simpa [tb] using e)
     |succ l=>simpa [tb] using e
   have hTT:AD (hh::rest) (kc (st.nx+16*i) t' hh::rest):=by
    intro l k
    cases l with
    |zero=>
     simp only[tb]
     cases hx:hh k with
     |none=>trivial
     |some x=>rw[j2 k x hx];exact Bv.refl _
    |succ l=>exact Bv.refl _
   refine step (r:=.ok (.value v) w') (fm':=fm) (ts':=kc (st.nx+16*i) t' hh::rest) ?_
   subst zj
   refine⟨.inl rfl,?_,bM.xr hJ rfl,b9,mL.trans hTT,?_⟩
   ·rw[hH]at cQ ⊢
    simp only[Heap.pR,ae8,ae7]
    exact cQ.xr j1 j2
   ·intro l k od hn
    cases l with
    |zero=>
     have hk:¬ (st.nx+16*i<=k/\k<st.nx+16*i+16):=by omega
     simp only[tb,kc,if_neg hk]
     have:=bw 0 k hn
     simpa [tb] using this
    |succ l=>
     have:=bw (l+1) k hn
     simpa [tb] using this
 |pg rs gs c f args dO fr0 fr y hc fJ hp hz hg bY zj=>
  have uE:=abD qF fJ
  obtain⟨vs,fC,bm,uP⟩:=yF (w:=w) h.tm uE hc nw hp.1
  obtain⟨f1,H1,hH⟩:=xL st.fr st.low (cO ds (idxs ops.length p))
  have asZ:=bY
  simp only[Bo,decide_eq_true_eq]at bY
  have hGH:∀ l k b,Heap.get (nh ops befs ds (st.fr::st.low) i) l k=some b->Heap.get (f1::H1) l k=some b:=by
   rw[<-hH];exact hG
  have uC:∀ l k b,only (ka (Heap.get (nh ops befs ds (st.fr::st.low) i))) (rs.map fun k=>(1,k)) l k=some b->only (Heap.get ([]::f1::H1)) (rs.map fun k=>(1,k)) l k=some b:=by
   intro l k b e
   unfold only at e ⊢
   split at e
   ·rename_i hm
    rw[if_pos hm]
    cases l with
    |zero=>simp[ka]at e
    |succ l=>simpa [Heap.get] using hGH l k b (by simpa [ka] using e)
   ·cases e
  have zC:∀ (l k e i0 n g:Nat) (y:AV),(AV.loc l k e i0 n g).ak (only (ka (Heap.get (nh ops befs ds (st.fr::st.low) i))) (rs.map fun k=>(1,k)))=some y->(AV.loc l k e i0 n g).ak (only (Heap.get ([]::f1::H1)) (rs.map fun k=>(1,k)))=some y:=
   fun _ _ _ _ _ _ _ hh=>nk uC _ _ hh
  have eD:=ad5 (gs:=gs) (ue uC (vX uC zC 5) zC).1 _ _ hz
  have nr:=ad4 hGH gs 0 fr0 hg
  have bK:=ahT f1 H1 rs gs 0 fr0 nr (by
   intro k hk e9
   exact(List.nodup_append.1 bY.1).2.2 k hk k e9 rfl)
  have ha:=Bg.used (H:=H1) 5 rs gs hp eD bK (by
   simp only[Bo,decide_eq_true_eq]
   exact⟨(List.nodup_append.1 bY.1).1,bY.2⟩)
  have hr0:=h.hr
  rw[hH]at hr0
  have aec:AG fm (dF::ts) (AV.dm 1 args) vs:=by
   refine⟨by rw[nM];exact fC.1,?_⟩
   intro i x v hx hv
   rw[nL,mS]at hx
   obtain⟨y,hy,rfl⟩:=hx
   exact(fC.2 i y v hy hv).sh 1 (by simp)
  refine aaq uP bm ?_
  refine Calls.mono (ha.2 N0 W0 fm ts w _ hr0 aec) ?_
  rintro e w' ⟨v,av,aZ,Kq,fm',t',ts',rfl,⟨⟨rfl,rfl⟩,rfl⟩,_,cQ,bM,b9,mL,bw,jE⟩
  cases ts' with
  |nil=>have:=cQ.len;simp at this
  |cons hh rest=>
   have aey:∀ k x,hh k=some x->¬ (st.nx+16*i<=k/\k<st.nx+16*i+16):=by
    rintro k x hx ⟨h1,h2⟩
    have:=bw 0 k (h.fre i hi iD k h1 h2)
    simp only[tb]at this
    rw[this]at hx;cases hx
   have j1:∀ k x,t' k=some x->kc (st.nx+16*i) t' hh (st.nx+16*i+k)=some x:=by
    intro k x hx
    have af:k<16:=by
     rcases Nat.lt_or_ge k 16 with hk|hk
     ·exact hk
     ·rw[jE k hk]at hx;cases hx
    unfold kc
    rw[if_pos ⟨by omega,by omega⟩]
    simpa using hx
   have j2:∀ k x,hh k=some x->kc (st.nx+16*i) t' hh k=some x:=by
    intro k x hx
    unfold kc
    rw[if_neg (aey k x hx)];exact hx
   have hJ:∀ l k x,tb (t'::hh::rest) l k=some x->tb (kc (st.nx+16*i) t' hh::rest) (l - 1) (if l=0 then st.nx+16*i+k else k)=some x:=by
    intro l k x e
    cases l with
    |zero=>simpa [tb] using j1 k x (by simpa [tb] using e)
    |succ l=>
     cases l with
     |zero=>simpa [tb] using j2 k x (by simpa [tb] using e)
     |succ l=>simpa [tb] using e
   have hTT:AD (hh::rest) (kc (st.nx+16*i) t' hh::rest):=by
    intro l k
    cases l with
    |zero=>
     simp only[tb]
     cases hx:hh k with
     |none=>trivial
     |some x=>rw[j2 k x hx];exact Bv.refl _
    |succ l=>exact Bv.refl _
   refine step (r:=.ok (.value v) w') (fm':=fm') (ts':=kc (st.nx+16*i) t' hh::rest) ?_
   subst zj
   refine⟨.inl rfl,?_,bM.xr hJ rfl,b9,mL.trans hTT,?_⟩
   ·rw[hH]
    simp only[Heap.pR,ae8,ae7]
    exact cQ.xr j1 j2
   ·intro l k od hn
    cases l with
    |zero=>
     have hk:¬ (st.nx+16*i<=k/\k<st.nx+16*i+16):=by omega
     simp only[tb,kc,if_neg hk]
     have:=bw 0 k hn
     simpa [tb] using this
    |succ l=>
     have:=bw (l+1) k hn
     simpa [tb] using this
end
theorem aiV:∀ (l acc:List Nat) (x:Nat),x∈xx acc l↔x∈acc\/x∈l
 |[],acc,x=>by simp[xx]
 |y::l,acc,x=>by
  simp only[xx,aiV l,BF]
  by_cases h:acc.contains y=true
  ·rw[if_pos h]
   have:y∈acc:=by simpa using h
   constructor
   ·rintro(h|h)
    ·exact .inl h
    ·exact .inr (.inr h)
   ·rintro(h|rfl|h)
    ·exact .inl h
    ·exact .inl this
    ·exact .inr h
  ·rw[if_neg h]
   simp only[A9,CS,or_assoc]
theorem aiU (b:List (List Nat)) (x:Nat):∀ (l:List Edge) (acc:List Nat),x∈rW b acc l↔x∈acc\/∃ e∈l,Region.binds .any e=true/\(x=e.on\/x∈(b[e.on]?).getD [])
 |[],acc=>by simp[rW]
 |e::l,acc=>by
  simp only[rW,aiU b x l,BF]
  by_cases hb:Region.binds .any e=true
  ·rw[if_pos hb]
   simp only[aiV,CS]
   constructor
   ·rintro((h|h)|⟨f,hf,h⟩)
    ·rcases h with h|h
     ·exact .inl h
     ·exact .inr ⟨e,.inl rfl,hb,.inr h⟩
    ·exact .inr ⟨e,.inl rfl,hb,.inl h⟩
    ·exact .inr ⟨f,.inr hf,h⟩
   ·rintro(h|⟨f,rfl|hf,po,h⟩)
    ·exact .inl (.inl (.inl h))
    ·rcases h with h|h
     ·exact .inl (.inr h)
     ·exact .inl (.inl (.inr h))
    ·exact .inr ⟨f,hf,po,h⟩
  ·rw[if_neg hb]
   constructor
   ·rintro(h|⟨f,hf,h⟩)
    ·exact .inl h
    ·exact .inr ⟨f,.inr hf,h⟩
   ·rintro(h|⟨f,rfl|hf,po,h⟩)
    ·exact .inl h
    ·exact absurd po hb
    ·exact .inr ⟨f,hf,po,h⟩
theorem adh:∀ (l:List Oper) (b:List (List Nat)) (i:Nat),i<b.length->(qj b l)[i]?=b[i]?
 |[],b,i,h=>rfl
 |o::l,b,i,h=>by
  simp only[qj]
  rw[adh l _ i (by simp;omega),CL h]
theorem agh:∀ (l:List Oper) (b:List (List Nat)) (i:Nat) (o:Oper),l[i]?=some o->
  ∃ b',(qj b l)[b.length+i]?=some (rW b' [] o.after.toList)/\b'.length=b.length+i/\∀ j,j<b'.length->b'[j]?=(qj b l)[j]?
 |[],b,i,o,h=>by simp at h
 |o'::l,b,0,o,h=>by
  simp only[Cl,oE]at h;subst h
  refine⟨b,?_,by simp,?_⟩
  ·simp only[qj,Nat.add_zero]
   rw[adh l _ _ (by simp)]
   simp
  ·intro j hj
   simp only[qj]
   rw[adh l _ j (by simp;omega),CL hj]
 |o'::l,b,i+1,o,h=>by
  simp only[Ci]at h
  obtain⟨b',h1,h2,h3⟩:=agh l (b++[rW b [] o'.after.toList]) i o h
  refine⟨b',?_,by simp at h2;omega,h3⟩
  simp only[qj]
  rw[<-h1]
  congr 1
  simp;omega
def St.drawn (st:St) (ops:List Az) (ds:List De) (drop:List Nat):St:=
 St.vB { st with tm:=cM (jd ops ds (List.range ops.length) st.tm) drop,nx:=st.nx+16*ops.length } (Heap.bV (st.fr::st.low) (cO ds (List.range ops.length)))
section
variable [Md] {P:Program}{T:AR}{N0:Nat}{W0:World}{n:Nat}{fm:FM}{ts:List Aw}{st:St}{ops:List Az}{befs:List (List Nat)}{ds:List De}{Φ:Exit->St->Prop}
theorem api {n:Nat}{p:Nat->Bool} (h:∀ j,j<n->p j=true):idxs n p=List.range n:=by
 unfold idxs
 rw[List.filter_eq_self]
 intro j hj
 exact h j (List.mem_range.1 hj)
theorem DR.all {p:Nat->Bool}{a:Act}{w:World} (h:DR N0 W0 n st ops ds p a w fm ts) (hp:∀ j,j<ops.length->p j=true) (drop:List Nat):SR N0 W0 n (st.drawn ops ds drop) a w fm ts:=by
 have e:=api hp
 have h1:=h.hr
 have h2:=h.tm
 rw[e]at h1 h2
 obtain⟨f',H',hp'⟩:=xL st.fr st.low (cO ds (List.range ops.length))
 unfold St.drawn
 rw[hp']at h1 ⊢
 refine⟨h1,?_,h.top,h.size,h.fy⟩
 intro t x hx
 exact h2 t x (aaf drop _ t x hx)
theorem DR.none {a:Act}{w:World} (h:SR N0 W0 n st a w fm ts):DR N0 W0 n st ops ds (fun _=>false) a w fm ts:=by
 have e:idxs ops.length (fun _=>false)=[]:=by unfold idxs;simp
 refine⟨by rw[e];exact h.hr,?_,fun i _ _ k h1 _=>h.nx k (by omega),fun k hk=>h.nx k (by omega),h.size,h.fy⟩
 rw[e]
 intro t x hx
 exact h.tm t x hx
end
theorem agS {p q:Nat->Bool} (xl:∀ j,p j=true->q j=true) {i:Nat} (hq:q i=true) (hp:p i=false):∀ (l:List Nat),i∈l->l.countP p<l.countP q
 |[],h=>by cases h
 |a::l,h=>by
  have hle:l.countP p<=l.countP q:=List.countP_mono_left (fun x _ hx=>xl x hx)
  rw[List.countP_cons,List.countP_cons]
  by_cases ha:a=i
  ·subst ha
   rw[hq,hp]
   simp only[if_true,C4,if_false]
   omega
  ·have hl:i∈l:=by
    rcases BF.1 h with h|h
    ·exact absurd h.symm ha
    ·exact h
   have ih:=agS xl hq hp l hl
   cases hpa:p a with
   |false=>simp only[C4,if_false];split<;>omega
   |true=>rw[xl a hpa];simp only[if_true];omega
section
variable [Md] {P:Program}{T:AR}{n:Nat}{Φ:Exit->St->Prop}
theorem AK.draw (hT:AX P T) (hm:P.follows .mixedOrders=true) {ops:List Az}{befs:List (List Nat)}{drop:List Nat}{todo:List It}{st:St} (ds:List De) (n8:∀ j,j<ops.length->∃ d,ds[j]?=some d) (h1:Eb ops)
  (iB:∀ i j,j∈cE befs i->j<i) (mE:∀ i j,i<j->j<ops.length->i∉cE befs j->qf (eP ds i) (eP ds j))
  (aeg:∀ i s d,ops[i]?=some s->ds[i]?=some d->C8 P T (st.nx+16*i) s (look (o8 ops befs ds st.tm i)) (Heap.get (nh ops befs ds (st.fr::st.low) i)) d)
  (hn:AK P n Φ todo (st.drawn ops ds drop)):AK P n Φ (.sc (.aS ops befs drop)::todo) st:=by
 intro N0 W0 fm ts a w ct Q hS gj hQ
 obtain⟨c,bI,mH,hb,hf,ht,hK⟩:=gj.afk (P:=P) rfl
 apply hK
 cases c<;>try (simp only[SC.bare,erase,reduceCtorEq]at hb;done)
 case scope b=>exact absurd rfl (mH b)
 case region rid arr dr=>
  cases dr with
  |false=>simp[SC.bare,erase]at hb
  |true=>
   simp only[SC.bare,erase,SC.aS.injEq,and_true]at hb
   obtain⟨jj,kK⟩:=hb
   simp only[erase,SC.fits,List.all_eq_true]at hf
   have hlen:ops.length=arr.size:=by have:=congrArg List.length jj;simpa using this
   have iI:∀ i,(hi:i<arr.size)->∃ s,ops[i]?=some s/\s.dst=(arr[i]).dst/\s.op=(arr[i]).op/\s.type=(arr[i]).type/\s.guard=(arr[i]).guard.map (fun g=>(((arr[g.1]?).bind (·.dst)).getD n,g.2)):=by
    intro i hi
    have af:i<ops.length:=by omega
    refine⟨ops[i],gG af,?_⟩
    have e:=congrArg (fun l=>l[i]?) jj
    simp only[BX,gG af,Be,Array.getElem?_toList,BV hi,oE]at e
    simp only[nS,qy,Az.mk.injEq,and_true]at e
    obtain⟨e1,e2,e3,e4⟩:=e
    exact⟨e1,e2,e3,e4⟩
   have ah4:∀ i,(hi:i<arr.size)->∀ x,x∈cE befs i↔∃ e∈(arr[i]).after.toList,Region.binds .any e=true/\(x=e.on\/(e.on<i/\x∈cE befs e.on)):=by
    intro i hi x
    obtain⟨b',g1,g2,g3⟩:=agh arr.toList [] i arr[i] (by simp[hi])
    simp only[AB,CA]at g1 g2
    have e1:cE befs i=rW b' [] (arr[i]).after.toList:=by unfold cE;rw[kK,g1];rfl
    rw[e1,aiU]
    simp only[List.not_mem_nil,false_or]
    have e2:∀ e:Edge,x∈(b'[e.on]?).getD []↔(e.on<i/\x∈cE befs e.on):=by
     intro e
     by_cases hj:e.on<b'.length
     ·rw[g3 _ hj]
      unfold cE
      rw[kK]
      rw[g2]at hj
      simp[hj]
     ·rw[CF (by omega)]
      simp
      omega
    constructor
    ·rintro⟨e,h1,h2,h3⟩
     exact⟨e,h1,h2,h3.imp id (e2 e).1⟩
    ·rintro⟨e,h1,h2,h3⟩
     exact⟨e,h1,h2,h3.imp id (e2 e).2⟩
   refine wpIn_region_any hm ?_
   have ait:∀ j,(Array.replicate arr.size false).getD j false=false:=by
    intro j
    by_cases hj:j<arr.size
    ·simp[Array.getD,hj]
    ·simp[Array.getD,hj]
   have key:∀ (fuel:Nat) (cL:Array Bool) (a:Act) (w:World) (fm':FM) (ts':List Aw),cL.size=arr.size->((List.range arr.size).countP fun j=>!cL.getD j false)<=fuel->
     (∀ j,cL.getD j false=true->∀ k∈cE befs j,cL.getD k false=true)->DR N0 W0 n st ops ds (fun j=>cL.getD j false) a w fm' ts'->Bq N0 fm ts fm' ts'->wpAnyIn FW 0 P .any arr (K P Q bI) fuel cL a w:=by
    intro fuel
    have fin:∀ (cL:Array Bool) (a:Act) (w:World) (fm':FM) (ts':List Aw),cL.size=arr.size->DR N0 W0 n st ops ds (fun j=>cL.getD j false) a w fm' ts'->Bq N0 fm ts fm' ts'->Region.ready .any arr cL=[]->K P Q bI .normal a w:=by
     intro cL a w fm' ts' aC hD hL hr
     have jF:∀ j,j<arr.size->cL.getD j false=true:=by
      intro j
      induction j using Nat.strongRecOn with
      |_ j ih=>
       intro hj
       by_cases hl:cL.getD j false=true
       ·exact hl
       ·have bT:j∈Region.ready .any arr cL:=by
         rw[mem_ready]
         have af:j<cL.size:=by omega
         refine⟨by simp[Array.getD,af]at hl ⊢;exact hl,arr[j],BV hj,?_⟩
         intro e he hb
         have hm:e.on∈cE befs j:=(ah4 j hj e.on).2 ⟨e,by simpa using he,hb,.inl rfl⟩
         have:=iB j e.on hm
         exact ih e.on this (by omega)
        rw[hr]at bT;cases bT
     have du:=hD.all (fun j hj=>jF j (by omega)) drop
     exact hn N0 W0 fm' ts' a w bI Q du (ht.later hL) (fun e s x w' f t hp hs hl=>hQ e s x w' f t hp hs (hL.trans hl))
    induction fuel with
    |zero=>
     intro cL a w fm' ts' aC hc cG hD hL
     have hr:Region.ready .any arr cL=[]:=by
      cases h:Region.ready .any arr cL with
      |nil=>rfl
      |cons j l=>
       have hj:j∈Region.ready .any arr cL:=by rw[h];exact List.mem_cons_self
       rw[mem_ready]at hj
       obtain⟨h0,o,ho,_⟩:=hj
       have af:j<arr.size:=(CZ.1 ho).1
       have:0<(List.range arr.size).countP fun j=>!cL.getD j false:=by
        rw[List.countP_pos_iff]
        have jI:j<cL.size:=by omega
        refine⟨j,List.mem_range.2 af,?_⟩
        simp[Array.getD,jI]at h0 ⊢
        exact h0
       omega
     exact⟨hr,fin cL a w fm' ts' aC hD hL hr⟩
    |succ fuel ih=>
     intro cL a w fm' ts' aC hc cG hD hL
     refine⟨fin cL a w fm' ts' aC hD hL,fun i hi=>?_⟩
     rw[mem_ready]at hi
     obtain⟨h0,o,ho,jF⟩:=hi
     have af:i<arr.size:=(CZ.1 ho).1
     have jI:i<cL.size:=by omega
     have iD:cL.getD i false=false:=by
      simp[Array.getD,jI]at h0 ⊢
      exact h0
     obtain⟨s,hs,hsd,hso,gY,pF⟩:=iI i af
     have ho':o=arr[i]:=by rw[BV af]at ho;exact(oi ho).symm
     subst ho'
     obtain⟨d,hd⟩:=n8 i (by omega)
     have hB:∀ j,(cE befs i).contains j=true->cL.getD j false=true:=by
      intro j hj
      have hmm:j∈cE befs i:=by simpa using hj
      obtain⟨e,he,hb,h⟩:=(ah4 i af j).1 hmm
      have hon:=jF e (by simpa using he) hb
      rcases h with rfl|⟨_,h⟩
      ·exact hon
      ·exact cG _ hon j h
     have aef:∀ j,cL.getD j false=true->(cE befs j).contains i=false:=by
      intro j hj
      cases np:(cE befs j).contains i with
      |false=>rfl
      |true=>
       have:=cG j hj i (by simpa using np)
       rw[iD]at this;cases this
     have iP:∀ j,(cL.setIfInBounds i true).getD j false=(cL.getD j false || j==i):=by
      intro j
      by_cases kL:j=i
      ·subst kL;simp[Array.getD,jI]
      ·rw[getD_set_ne false (Ne.symm kL)];simp[kL]
     unfold wpOpIn
     rw[ho]
     simp only
     have qF:Fm (look (o8 ops befs ds st.tm i)) (look (jd ops ds (idxs ops.length fun j=>cL.getD j false) st.tm)):=by
      exact agW h1 n8 hB aef
     have qZ:∀ g j v,((arr[j]?).bind (·.dst)).getD n=g->a.tmps[g]?=some v->yielded arr a.tmps j=match v with|.bool b=>some b|_=>none:=by
      intro g j v jk hv
      unfold yielded
      cases hb:(arr[j]?).bind (·.dst) with
      |none=>
       rw[hb]at jk
       simp only[Option.getD_none]at jk
       have:=(CZ.1 hv).1
       rw[hD.size]at this
       subst jk
       exact absurd this (Nat.lt_irrefl _)
      |some dd=>
       rw[hb]at jk
       simp only[Option.getD_some]at jk
       subst jk
       simp only[Ae,hv]
       cases v<;>rfl
     have mG:∀ g w,s.guard=some (g,w)->∃ j,(arr[i]).guard=some (j,w)/\((arr[j]?).bind (·.dst)).getD n=g:=by
      intro g w hh
      rw[hh]at pF
      cases hh2:(arr[i]).guard with
      |none=>rw[hh2]at pF;cases pF
      |some p=>
       rw[hh2]at pF
       simp only[Be,oE,Prod.mk.injEq]at pF
       exact⟨p.1,by rw[pF.2],pF.1.symm⟩
     have ab4:∀ v w' fZ eU,DR N0 W0 n st ops ds (fun j=>cL.getD j false || j==i) (a.put (arr[i]).dst v) w' fZ eU->Bq N0 fm' ts' fZ eU->wpAnyIn FW 0 P .any arr (K P Q bI) fuel (cL.setIfInBounds i true) (a.put (arr[i]).dst v) w':=by
      intro v w' fZ eU hD2 eH
      refine ih (cL.setIfInBounds i true) _ w' fZ eU (by simpa using aC) ?_ ?_ ?_ (hL.trans eH)
      ·have:=agS (p:=fun j=>!(cL.setIfInBounds i true).getD j false) (q:=fun j=>!cL.getD j false) (i:=i) (by
        intro j hj
        rw[iP]at hj
        simp only[Bool.not_or,Bo]at hj
        exact hj.1) (by simp only[iD,Bn]) (by simp only[iP,iD];simp) (List.range arr.size) (List.mem_range.2 af)
       omega
      ·intro j hj k hk
       rw[iP]at hj ⊢
       simp only[Bool.or_eq_true,beq_iff_eq]at hj ⊢
       rcases hj with hj|rfl
       ·exact .inl (cG j hj k hk)
       ·exact .inl (hB k (by simpa using hk))
      ·have e:(fun j=>(cL.setIfInBounds i true).getD j false)=fun j=>cL.getD j false || j==i:=funext iP
       rw[e]
       exact hD2
     have sG:∀ j,cL.getD j false=true->i<j->qf (eP ds i) (eP ds j):=by
      intro j hj uL
      have hjs:j<cL.size:=by
       by_cases hjs:j<cL.size
       ·exact hjs
       ·simp[Array.getD,hjs]at hj
      refine mE i j uL (by omega) ?_
      have:=aef j hj
      simpa using this
     have aic:∀ d,cN ops i=some d->d<n:=by
      intro dd sL
      have aoS:nS s∈List.map (qy n arr) arr.toList:=by rw[<-jj];exact List.mem_map_of_mem (A6 hs)
      have:=hf _ aoS
      simp only[cN,hs,Ae]at sL
      simp only[nS,sL]at this
      simpa using this
     rcases aeg i s d hs hd with ⟨iJ,hE⟩|⟨ao5,rfl⟩
     case inr=>
      obtain⟨g,want,aeu,aos⟩:=ao5
      obtain⟨j,hj,jk⟩:=mG g want aeu
      have hnw:Region.wanted arr[i] (yielded arr a.tmps)=false:=by
       rcases aos with ⟨b,hb,mF⟩|hb
       ·obtain⟨v,hv,bM⟩:=hD.tm g _ (qF g _ hb)
        cases bM
        simp only[Region.wanted,hj,qZ g j _ jk hv]
        simpa using mF
       ·obtain⟨v,hv,bM⟩:=hD.tm g _ (qF g _ hb)
        cases bM
        simp[Region.wanted,hj,qZ g j _ jk hv]
      rw[if_neg (by rw[hnw];simp)]
      have ho:Out N0 W0 fm' ts' (Heap.bV (st.fr::st.low) (cO ds (idxs ops.length fun j=>cL.getD j false))) w (st.nx+16*i) (.ok .skip w) ⟨.aw [],[]⟩ fm' ts' w undef:=
       ⟨.inr ⟨rfl,rfl⟩,hD.hr,.aw [] #[] rfl (fun i x v h=>by simp at h),AU.refl _ _,AD.refl _,fun _ _ _ h=>h⟩
      obtain⟨h2,h3⟩:=hD.step (by omega) iD hd ho h1 n8 sG aic
      have hdo:cN ops i=(arr[i]).dst:=by simp[cN,hs,hsd]
      rw[hdo]at h2
      exact⟨fun _ _=>trivial,ab4 _ w fm' ts' h2 h3⟩
     have apg:Region.wanted arr[i] (yielded arr a.tmps)=true:=by
      rcases iJ with iJ|⟨g,want,b,aeu,hb,mF⟩
      ·rw[iJ]at pF
       have:(arr[i]).guard=none:=by
        cases hh:(arr[i]).guard with
        |none=>rfl
        |some g=>rw[hh]at pF;cases pF
       simp[Region.wanted,this]
      ·obtain⟨j,hj,jk⟩:=mG g want aeu
       obtain⟨v,hv,bM⟩:=hD.tm g _ (qF g _ hb)
       cases bM
       simp only[Region.wanted,hj,qZ g j _ jk hv]
       simpa using mF
     rw[if_pos apg]
     exact(DR.oper (befs:=befs) hT hD (by omega) iD hd hs hE h1 n8 hB aef sG aic hso gY hsd fun v w' fZ eU hD2 eH=>ab4 v w' fZ eU hD2 eH)
   refine key arr.size (Array.replicate arr.size false) a _ fm ts (by simp) (Ef List.countP_le_length (by simp)) (by intro j hj;rw[ait]at hj;cases hj) ?_ (Bq.refl _ _)
   have e:(fun j=>(Array.replicate arr.size false).getD j false)=fun _=>false:=funext ait
   rw[e]
   exact DR.none ⟨hS.hr.drew,hS.tm,hS.nx,hS.size,hS.fy⟩
end
def aam:List Az->Bool
 |[]=>true
 |o::l=>(match o.dst with
  |none=>true
  |some t=>l.all fun q=>decide (q.dst≠some t))&&aam l
theorem ae0:∀ (ops:List Az),aam ops=true->Eb ops
 |[],_=>by intro i j t h;simp[cN]at h
 |o::l,h=>by
  simp only[aam,Bo]at h
  have ih:=ae0 l h.2
  have hz:∀ j t,o.dst=some t->cN l j≠some t:=by
   intro j t ho hj
   have h1:=h.1
   rw[ho]at h1
   simp only[List.all_eq_true,decide_eq_true_eq]at h1
   unfold cN at hj
   cases hlj:l[j]? with
   |none=>rw[hlj]at hj;cases hj
   |some q=>rw[hlj]at hj;exact h1 q (A6 hlj) hj
  have hs:∀ j,cN (o::l) (j+1)=cN l j:=fun j=>by simp[cN]
  have h0:cN (o::l) 0=o.dst:=by simp[cN]
  intro i j t hi hj
  cases i with
  |zero=>
   cases j with
   |zero=>rfl
   |succ j=>rw[h0]at hi;rw[hs]at hj;exact absurd hj (hz j t hi)
  |succ i=>
   cases j with
   |zero=>rw[h0]at hj;rw[hs]at hi;exact absurd hi (hz i t hj)
   |succ j=>rw[hs]at hi hj;rw[ih i j t hi hj]
def yu:Nat->List (List Nat)->Bool
 |_,[]=>true
 |i,l::r=>(l.all fun j=>decide (j<i))&&yu (i+1) r
theorem adg:∀ (befs:List (List Nat)) (i0:Nat),yu i0 befs=true->∀ i j,j∈cE befs i->j<i0+i
 |[],i0,_,i,j,h=>by simp[cE]at h
 |l::r,i0,h,i,j,hj=>by
  simp only[yu,Bo,List.all_eq_true,decide_eq_true_eq]at h
  cases i with
  |zero=>simp[cE]at hj;exact h.1 j hj
  |succ i=>
   have:=adg r (i0+1) h.2 i j (by simpa [cE] using hj)
   omega
def uZ (s t:Sets):Bool:=s.all fun p=>t.all fun q=>!(p.1==q.1&&p.2.1==q.2.1)
theorem apB {s t:Sets} (h:uZ s t=true):qf s t:=by
 intro p hp q hq hh
 simp only[uZ,List.all_eq_true]at h
 have:=h p hp q hq
 rw[hh.1,hh.2]at this
 simp at this
def ua (befs:List (List Nat)) (ds:List De) (n:Nat):Bool:=
 (List.range n).all fun j=>(List.range j).all fun i=>(cE befs j).contains i || uZ (eP ds i) (eP ds j)
theorem ame {befs:List (List Nat)}{ds:List De}{n:Nat} (h:ua befs ds n=true):∀ i j,i<j->j<n->i∉cE befs j->qf (eP ds i) (eP ds j):=by
 intro i j uL hj hn
 simp only[ua,List.all_eq_true,List.mem_range,Bool.or_eq_true]at h
 rcases h j hj i uL with h|h
 ·exact absurd (by simpa using h) hn
 ·exact apB h
section
variable [Md] {P:Program}{T:AR}{n:Nat}{Φ:Exit->St->Prop}
theorem Iv (hT:AX P T) (hm:P.follows .mixedOrders=true) {ops:List Az}{befs:List (List Nat)}{drop:List Nat}{todo:List It}{st:St} (ds:List De) (hlen:ds.length=ops.length) (h1:aam ops=true)
  (iB:yu 0 befs=true) (mE:ua befs ds ops.length=true)
  (aeg:∀ i s d,ops[i]?=some s->ds[i]?=some d->C8 P T (st.nx+16*i) s (look (o8 ops befs ds st.tm i)) (Heap.get (nh ops befs ds (st.fr::st.low) i)) d)
  (hn:AK P n Φ todo (st.drawn ops ds drop)):AM P n Φ (.draw ops befs drop todo st):=by
 refine AK.draw hT hm ds (fun j hj=>⟨ds[j]'(by omega),gG (by omega)⟩) (ae0 ops h1) (fun i j hj=>by have:=adg befs 0 iB i j hj;omega) (ame mE) aeg hn
end
section
variable [Md] {P:Program}{T:AR}{N0:Nat}{W0:World}{n:Nat}{fm:FM}{ts:List Aw}{Φ:Exit->St->Prop}
theorem I3 {Q:Exit->Act->World->Prop} (t:List BL):K P Q (.back (fun a w=>K P Q t .normal a w)::t)=K P Q t:=by
 funext e a w;cases e<;>rfl
theorem H6 {Q:Exit->Act->World->Prop} (t:List BL):∀ c1:List BL,K P Q (c1++.back (fun a w=>K P Q t .normal a w)::t)=K P Q (c1++t)
 |[]=>I3 t
 |c::c1=>by
  have ih:=H6 (Q:=Q) t c1
  funext e a w
  cases c<;>cases e<;>simp only[Bz,K,ih]
theorem Bw.stop {todo:List It}:∀ {ct:List BL}{pre:List It}{l:List It},Bw N0 W0 n fm ts l ct->l=pre++todo->∃ c1 c2,ct=c1++c2/\Bw N0 W0 n fm ts todo c2/\
  ∀ (B:St->Prop) (R:Act->World->Prop),(∀ ay a' w' fm' ts',B ay->SR N0 W0 n ay a' w' fm' ts'->Bq N0 fm ts fm' ts'->R a' w')->Bw N0 W0 n fm ts (pre++.back B::todo) (c1++.back R::c2):=by
 intro ct pre l h
 induction h generalizing pre with
 |nil=>
  intro e
  have e2:pre=[]/\todo=[]:=by simpa using e.symm
  obtain⟨rfl,rfl⟩:=e2
  exact⟨[],[],rfl,.nil,fun B R hR=>.back hR .nil⟩
 |@sc s c t ct h hf ht ih=>
  intro e
  cases pre with
  |nil=>
   simp only[Ce]at e;subst e
   exact⟨[],_,rfl,.sc h hf ht,fun B R hR=>.back hR (.sc h hf ht)⟩
  |cons p pre=>
   simp only[Bz,List.cons.injEq]at e
   obtain⟨rfl,e⟩:=e
   obtain⟨c1,c2,rfl,h2,h3⟩:=ih e
   exact⟨.code c::c1,c2,rfl,h2,fun B R hR=>.sc h hf (h3 B R hR)⟩
 |@aD id t ct ht ih=>
  intro e
  cases pre with
  |nil=>
   simp only[Ce]at e;subst e
   exact⟨[],_,rfl,.aD ht,fun B R hR=>.back hR (.aD ht)⟩
  |cons p pre=>
   simp only[Bz,List.cons.injEq]at e
   obtain⟨rfl,e⟩:=e
   obtain⟨c1,c2,rfl,h2,h3⟩:=ih e
   exact⟨.aD id::c1,c2,rfl,h2,fun B R hR=>.aD (h3 B R hR)⟩
 |@im t ct ht ih=>
  intro e
  obtain⟨c1,c2,rfl,h2,h3⟩:=ih e
  exact⟨.im::c1,c2,rfl,h2,fun B R hR=>.im (h3 B R hR)⟩
 |@ops l arr is t ct h hi hf ht ih=>
  intro e
  cases pre with
  |nil=>
   simp only[Ce]at e;subst e
   exact⟨[],_,rfl,.ops h hi hf ht,fun B R hR=>.back hR (.ops h hi hf ht)⟩
  |cons p pre=>
   simp only[Bz,List.cons.injEq]at e
   obtain⟨rfl,e⟩:=e
   obtain⟨c1,c2,rfl,h2,h3⟩:=ih e
   exact⟨.ops arr is::c1,c2,rfl,h2,fun B R hR=>.ops h hi hf (h3 B R hR)⟩
 |@back B0 R0 t ct h ht ih=>
  intro e
  cases pre with
  |nil=>
   simp only[Ce]at e;subst e
   exact⟨[],_,rfl,.back h ht,fun B R hR=>.back hR (.back h ht)⟩
  |cons p pre=>
   simp only[Bz,List.cons.injEq]at e
   obtain⟨rfl,e⟩:=e
   obtain⟨c1,c2,rfl,h2,h3⟩:=ih e
   exact⟨.back R0::c1,c2,rfl,h2,fun B R hR=>.back h (h3 B R hR)⟩
theorem AK.cut (B:St->Prop) (pre:List It) {todo:List It}{st:St} (h1:AK P n Φ (pre++.back B::todo) st) (h2:∀ st,B st->AK P n Φ todo st):AK P n Φ (pre++todo) st:=by
 intro N0 W0 fm ts a w ct Q hS gj hQ
 obtain⟨c1,c2,rfl,h3,h4⟩:=gj.stop rfl
 have:=h1 N0 W0 fm ts a w (c1++.back (fun a w=>K P Q c2 .normal a w)::c2) Q hS (h4 B _ ?_) hQ
 ·rw[H6]at this;exact this
 ·intro ay a' w' fm' ts' hB du hL
  exact h2 ay hB N0 W0 fm' ts' a' w' c2 Q du (h3.later hL) (fun e s x w' f t hp hs hl=>hQ e s x w' f t hp hs (hL.trans hl))
inductive AN (S E R:Type) where
 |next (s:S)
 |brk (e:E)
 |ret (r:R)
def ai {S E R:Type} (body:S->Option (AN S E R)):Nat->S->Option (AN S E R)
 |0,_=>none
 |k+1,s=>match body s with
  |none=>none
  |some (.next s')=>ai body k s'
  |some (.brk s')=>some (.brk s')
  |some (.ret r)=>some (.ret r)
theorem AK.apM {S E R:Type}{body:S->Option (AN S E R)}{k:Nat}{s0:S}{r:AN S E R} (hk:ai body k s0=some r) (hd:S->St) (ex:E->St) {b:SC}{id:Nat}{todo:List It}{st:St} (hw:Al n st (hd s0))
  (hb:∀ s x (Bk Br:St->Prop),body s=some x->(∀ s' ay,x=.next s'->Al n ay (hd s')->Bk ay)->(∀ s' ay,x=.brk s'->Al n ay (ex s')->Br ay)->(∀ v,x=.ret v->r=.ret v)->
   AK P n Φ (.sc b::.back Bk::.aD id::.back Br::todo) (hd s))
  (hx:∀ s',r=.brk s'->AK P n Φ todo (ex s')):AK P n Φ (.sc (.loop b)::.aD id::todo) st:=by
 refine AK.cut (fun ay=>∃ s',r=.brk s'/\Al n ay (ex s')) [.sc (.loop b),.aD id] ?_ ?_
 ·refine AK.loop (fun m st=>∃ s,st=hd s/\ai body m s=some r) k hw ⟨s0,rfl,hk⟩ ?_
  rintro m st ⟨s,rfl,hm⟩
  cases m with
  |zero=>cases hm
  |succ m=>
   simp only[ai]at hm
   cases hs:body s with
   |none=>rw[hs]at hm;cases hm
   |some x=>
    rw[hs]at hm
    refine hb s x _ _ hs ?_ ?_ ?_
    ·rintro s' ay rfl qX
     exact⟨hd s',m,Nat.lt_succ_self m,qX,s',rfl,hm⟩
    ·rintro s' ay rfl qX
     exact⟨s',(oi hm).symm,qX⟩
    ·rintro v rfl
     exact(oi hm).symm
 ·rintro ay ⟨s',hr,qX⟩
  exact AK.rI qX (hx s' hr)
theorem Iz {E R:Type}{j:Option (AN Unit E R)}{r:AN Unit E R} (hk:j=some r) (ex:E->St) {b:SC}{todo:List It}{st:St}
  (hb:∀ Br:St->Prop,j=some r->(∀ s' ay,r=.brk s'->Al n ay (ex s')->Br ay)->(∀ v,r=.ret v->r=.ret v)->AK P n Φ (.sc b::.back Br::todo) st)
  (hx:∀ s',r=.brk s'->AK P n Φ todo (ex s')):AM P n Φ (.mark b todo st):=
 AK.cut (fun ay=>∃ s',r=.brk s'/\Al n ay (ex s')) [.sc b] (hb _ hk (fun s' ay h1 h2=>⟨s',h1,h2⟩) (fun _ h=>h)) fun ay ⟨s',hr,qX⟩=>AK.rI qX (hx s' hr)
end
section
variable [Md]
inductive NL:AV->AV->Prop
 |refl (x:AV):NL x x
 |nil (e:Nat):NL .nil (.sl e [])
 |agg (cs ys:List AV) (h1:cs.length=ys.length) (h2:∀ (i:Nat) x y,cs[i]?=some x->ys[i]?=some y->NL x y):NL (.agg cs) (.agg ys)
 |aw (cs ys:List AV) (h1:cs.length=ys.length) (h2:∀ (i:Nat) x y,cs[i]?=some x->ys[i]?=some y->NL x y):NL (.aw cs) (.aw ys)
 |sl (e:Nat) (es fs:List (List AV)) (h1:es.length=fs.length) (h2:∀ (i:Nat) c d,es[i]?=some c->fs[i]?=some d->c.length=d.length)
   (h3:∀ (i:Nat) c d (o:Nat) x y,es[i]?=some c->fs[i]?=some d->c[o]?=some x->d[o]?=some y->NL x y):NL (.sl e es) (.sl e fs)
def AZ (cs ys:List AV):Prop:=cs.length=ys.length/\∀ (i:Nat) x y,cs[i]?=some x->ys[i]?=some y->NL x y
def Bm (es fs:List (List AV)):Prop:=es.length=fs.length/\∀ (i:Nat) c d,es[i]?=some c->fs[i]?=some d->AZ c d
theorem AZ.nil:AZ [] []:=⟨rfl,fun i x y h=>by simp at h⟩
theorem AZ.cons {x y:AV}{l m:List AV} (h:NL x y) (hs:AZ l m):AZ (x::l) (y::m):=by
 refine⟨by simp[hs.1],?_⟩
 intro i a b ha hb
 cases i with
 |zero=>simp at ha hb;subst ha hb;exact h
 |succ i=>simp at ha hb;exact hs.2 i a b ha hb
theorem AZ.refl (l:List AV):AZ l l:=⟨rfl,fun i x y a b=>by rw[a]at b;cases b;exact .refl _⟩
theorem Bm.nil:Bm [] []:=⟨rfl,fun i x y h=>by simp at h⟩
theorem Bm.cons {x y:List AV}{l m:List (List AV)} (h:AZ x y) (hs:Bm l m):Bm (x::l) (y::m):=by
 refine⟨by simp[hs.1],?_⟩
 intro i a b ha hb
 cases i with
 |zero=>simp at ha hb;subst ha hb;exact h
 |succ i=>simp at ha hb;exact hs.2 i a b ha hb
theorem Bm.refl (l:List (List AV)):Bm l l:=⟨rfl,fun i x y a b=>by rw[a]at b;cases b;exact .refl _⟩
theorem Bm.append {a b c d:List (List AV)} (h:Bm a b) (k:Bm c d):Bm (a++c) (b++d):=by
 refine⟨by simp[h.1,k.1],?_⟩
 intro i x y hx hy
 by_cases hi:i<a.length
 ·rw[CL hi]at hx
  rw[CL (by rw[<-h.1];exact hi)]at hy
  exact h.2 i x y hx hy
 ·rw[CX (by omega)]at hx
  rw[CX (by rw[<-h.1];omega)]at hy
  rw[<-h.1]at hy
  exact k.2 _ x y hx hy
theorem NL.lp {cs ys:List AV} (h:AZ cs ys):NL (.agg cs) (.agg ys):=.agg _ _ h.1 h.2
theorem NL.rD {cs ys:List AV} (h:AZ cs ys):NL (.aw cs) (.aw ys):=.aw _ _ h.1 h.2
theorem NL.tE {e:Nat}{es fs:List (List AV)} (h:Bm es fs):NL (.sl e es) (.sl e fs):=.sl _ _ _ h.1 (fun i c d a b=>(h.2 i c d a b).1) (fun i c d o x y a b p q=>(h.2 i c d a b).2 o x y p q)
theorem NL.flat {x y:AV} (h:NL x y):y.flat=x.flat:=by
 cases h<;>rfl
theorem NL.ok {x y:AV} (h:NL x y):∀ {fm:FM}{ts:List Aw}{v:Value},VR fm ts x v->VR fm ts y v:=by
 induction h with
 |refl x=>intro fm ts v hv;exact hv
 |nil e=>intro fm ts v hv;cases hv;exact .dn _ _ _
 |agg cs ys h1 h2 ih=>
  intro fm ts v hv
  cases hv with
  |agg _ vs k1 k2 k3=>
   have hy:∀ (i:Nat) y,ys[i]?=some y->∃ x,cs[i]?=some x:=fun i y hy=>⟨_,gG (by rw[h1];exact(gS.1 hy).1)⟩
   refine .agg _ vs (by rw[<-h1];exact k1) ?_ ?_
   ·intro y hm
    obtain⟨i,hi⟩:=BH.1 hm
    obtain⟨x,hx⟩:=hy i y hi
    rw[(h2 i x y hx hi).flat];exact k2 x (A6 hx)
   ·intro i y u hi hu
    obtain⟨x,hx⟩:=hy i y hi
    exact ih i x y hx hi (k3 i x u hx hu)
 |aw cs ys h1 h2 ih=>
  intro fm ts v hv
  cases hv with
  |aw _ vs k1 k3=>
   refine .aw _ vs (by rw[<-h1];exact k1) ?_
   intro i y u hi hu
   have hx:∃ x,cs[i]?=some x:=⟨_,gG (by rw[h1];exact(gS.1 hi).1)⟩
   obtain⟨x,hx⟩:=hx
   exact ih i x y hx hi (k3 i x u hx hu)
 |sl e es fs h1 h2 h3 ih=>
  intro fm ts v hv
  have hc:∀ (i:Nat) d,fs[i]?=some d->∃ c,es[i]?=some c/\c.length=d.length:=fun i d hd=>by
   have af:i<es.length:=by rw[h1];exact(gS.1 hd).1
   exact⟨_,gG af,h2 i _ d (gG af) hd⟩
  have hx:∀ (i:Nat) d (o:Nat) y,fs[i]?=some d->d[o]?=some y->∃ c x,es[i]?=some c/\c[o]?=some x:=fun i d o y hd hy=>by
   obtain⟨c,qG,sH⟩:=hc i d hd
   exact⟨c,_,qG,gG (by rw[sH];exact(gS.1 hy).1)⟩
  cases hv with
  |dn _ a cap=>
   have:fs=[]:=List.eq_nil_of_length_eq_zero (by simpa using h1.symm)
   subst this
   exact .dn _ _ _
  |sl _ cb off _ cap u dM k1 k2 k3 k4=>
   have:=VR.sl (fm:=fm) (ts:=ts) fs cb off e cap u (by rw[<-h1];exact dM)
    (fun d hd=>by
     obtain⟨i,hi⟩:=BH.1 hd
     obtain⟨c,qG,sH⟩:=hc i d hi
     rw[<-sH];exact k1 c (A6 qG))
    (fun i d o y hd hy=>by obtain⟨c,x,a,b⟩:=hx i d o y hd hy;exact k2 i c o x a b)
    (fun i d o y hd hy=>by obtain⟨c,x,a,b⟩:=hx i d o y hd hy;rw[(h3 i c d o x y a hd b hy).flat];exact k3 i c o x a b)
    (fun i d o y hd hy=>by obtain⟨c,x,a,b⟩:=hx i d o y hd hy;exact ih i c d o x y a hd b hy (k4 i c o x a b))
   rw[<-h1]at this
   exact this
theorem AZ.ok {cs ys:List AV} (h:AZ cs ys) {fm:FM}{ts:List Aw}{vs:List Value} (hv:AG fm ts cs vs):AG fm ts ys vs:=by
 refine⟨h.1.symm.trans hv.1,?_⟩
 intro i y v hy hX
 have hx:∃ x,cs[i]?=some x:=⟨_,gG (by rw[h.1];exact(gS.1 hy).1)⟩
 obtain⟨x,hx⟩:=hx
 exact(h.2 i x y hx hy).ok (hv.2 i x v hx hX)
inductive B2:AJ->AJ->Prop
 |box (cs ys:List AV) (h:AZ cs ys):B2 (.box cs) (.box ys)
 |arr (et esz:Nat) (es fs:List (List AV)) (h:Bm es fs):B2 (.arr et esz es) (.arr et esz fs)
theorem B2.refl:∀ b:AJ,B2 b b
 |.box _=>.box _ _ (.refl _)
 |.arr _ _ _=>.arr _ _ _ _ (.refl _)
inductive BU:List (Nat×AV)->List (Nat×AV)->Prop
 |nil:BU [] []
 |cons (t:Nat) (x y:AV) (l m:List (Nat×AV)) (h:NL x y) (hs:BU l m):BU ((t,x)::l) ((t,y)::m)
inductive BP:AH->AH->Prop
 |nil:BP [] []
 |cons (k:Nat) (x y:AJ) (l m:AH) (h:B2 x y) (hs:BP l m):BP ((k,x)::l) ((k,y)::m)
theorem BU.refl:∀ l:List (Nat×AV),BU l l
 |[]=>.nil
 |(t,x)::l=>.cons t x x l l (.refl _) (BU.refl l)
theorem BP.refl:∀ l:AH,BP l l
 |[]=>.nil
 |(t,x)::l=>.cons t x x l l (.refl _) (BP.refl l)
theorem BU.look {l m:List (Nat×AV)} (h:BU l m):∀ t y,look m t=some y->∃ x,look l t=some x/\NL x y:=by
 induction h with
 |nil=>intro t y h;simp[Abs.look]at h
 |cons t0 x y l m h hs ih=>
  intro t z hz
  simp only[Abs.look]at hz ⊢
  split
  ·rename_i e;rw[if_pos e]at hz;cases hz;exact⟨_,rfl,h⟩
  ·rename_i e;rw[if_neg e]at hz;exact ih t z hz
theorem BP.look {l m:AH} (h:BP l m):∀ k b,look m k=some b->∃ b0,look l k=some b0/\B2 b0 b:=by
 induction h with
 |nil=>intro t y h;simp[Abs.look]at h
 |cons t0 x y l m h hs ih=>
  intro t z hz
  simp only[Abs.look]at hz ⊢
  split
  ·rename_i e;rw[if_pos e]at hz;cases hz;exact⟨_,rfl,h⟩
  ·rename_i e;rw[if_neg e]at hz;exact ih t z hz
theorem B2.ok {fm:FM}{ts:List Aw}{w:World}{N0:Nat}{t:Option TB}{b b':AJ} (h:BR fm ts w N0 t b) (hn:B2 b b'):BR fm ts w N0 t b':=by
 cases hn with
 |box cs ys hn=>
  cases h with
  |box c _ hN h=>
   obtain⟨cells,et,c1,c2,c3⟩:=h
   refine .box c _ hN ⟨cells,et,c1,c2.trans hn.1,?_⟩
   intro o y v hy hv
   obtain⟨x,hx⟩:∃ x,cs[o]?=some x:=⟨_,gG (by rw[hn.1];exact(gS.1 hy).1)⟩
   have uX:=hn.2 o x y hx hy
   exact⟨by rw[uX.flat];exact(c3 o x v hx hv).1,uX.ok (c3 o x v hx hv).2⟩
 |arr et esz es fs hn=>
  have hc:∀ (i:Nat) d,fs[i]?=some d->∃ c,es[i]?=some c/\AZ c d:=fun i d hd=>by
   have af:i<es.length:=by rw[hn.1];exact(gS.1 hd).1
   exact⟨_,gG af,hn.2 i _ d (gG af) hd⟩
  cases h with
  |nil=>
   have:fs=[]:=List.eq_nil_of_length_eq_zero (by simpa using hn.1.symm)
   subst this
   exact .nil _ _
  |arr _ _ _ c cap hN h=>
   obtain⟨cells,c1,c2,c3,c4,c5,c6,c7⟩:=h
   rw[hn.1]
   refine .arr et esz fs c cap hN ⟨cells,c1,c2,by rw[<-hn.1];exact c3,c4,?_,c6,?_⟩
   ·intro d hd
    obtain⟨i,hi⟩:=BH.1 hd
    obtain⟨c,qG,sH⟩:=hc i d hi
    rw[<-sH.1];exact c5 c (A6 qG)
   ·intro i d o y v hd hy hv
    obtain⟨c',qG,sH⟩:=hc i d hd
    obtain⟨x,hx⟩:∃ x,c'[o]?=some x:=⟨_,gG (by rw[sH.1];exact(gS.1 hy).1)⟩
    have uX:=sH.2 o x y hx hy
    have:=c7 i c' o x v qG hx hv
    exact⟨by rw[uX.flat];exact this.1,uX.ok this.2⟩
theorem Al.nl {n:Nat}{tm tm':List (Nat×AV)}{fr aZ:AH}{low:Heap}{nx nt:Nat} (h1:BU tm tm') (h2:BP fr aZ):Al n ⟨tm,fr,low,nx,nt⟩ ⟨tm',aZ,low,nx,nt⟩:=by
 intro N0 W0 a w fm ts h
 have src:∀ l k b,Heap.get (aZ::low) l k=some b->∃ b0,Heap.get (fr::low) l k=some b0/\B2 b0 b:=by
  intro l k b hg
  cases l with
  |zero=>exact h2.look k b hg
  |succ l=>exact⟨b,hg,.refl b⟩
 refine⟨fm,ts,⟨⟨by simpa using h.hr.len,?_,?_,h.hr.cV,?_,h.hr.dL,h.hr.size,h.hr.dH⟩,?_,h.nx,h.size,h.fy⟩,Bq.refl _ _⟩
 ·intro l k b hg
  obtain⟨b0,jH,hn⟩:=src l k b hg
  exact hn.ok (h.hr.aD l k b0 jH)
 ·intro l k l' k' b b' c hg bK
  obtain⟨b0,jH,_⟩:=src l k b hg
  obtain⟨b1,nr,_⟩:=src l' k' b' bK
  exact h.hr.inj l k l' k' b0 b1 c jH nr
 ·intro l k b c o hg
  obtain⟨b0,jH,_⟩:=src l k b hg
  exact h.hr.eR l k b0 c o jH
 ·intro t y hy
  obtain⟨x,hx,hn⟩:=h1.look t y hy
  obtain⟨v,h3,h4⟩:=h.tm t x hx
  exact⟨v,h3,hn.ok h4⟩
end
def dU:Operand->List Nat
 |.tmp t=>[t]
 |_=>[]
def vv:List Operand->List Nat
 |[]=>[]
 |x::l=>dU x++vv l
def xX:List (Nat×Operand)->List Nat
 |[]=>[]
 |(_,x)::l=>dU x++xX l
def tJ:Option Operand->List Nat
 |some x=>dU x
 |none=>[]
def cI:Op->List Nat
 |.move x=>dU x
 |.assign x=>dU x
 |.pick c a b=>dU c++(dU a++dU b)
 |.alloc _=>[]
 |.box _ x=>dU x
 |.build _ ps=>xX ps.toList
 |.buildSlice _ _ ps=>xX ps.toList
 |.load _ a=>dU a
 |.store _ a x=>dU a++dU x
 |.nilCheck x=>dU x
 |.binOp _ _ x y _=>dU x++dU y
 |.unOp _ _ x=>dU x
 |.convert _ _ x=>dU x
 |.makeFunc _ a b=>vv a.toList++vv b.toList
 |.makeSlice _ l c=>dU l++dU c
 |.slice _ x lo hi mx=>dU x++(tJ lo++(tJ hi++tJ mx))
 |.fieldAddr _ x _=>dU x
 |.field _ x _=>dU x
 |.indexAddr _ x i=>dU x++dU i
 |.index _ x i=>dU x++dU i
 |.extract x _=>dU x
 |.sliceToArrayPointer _ x=>dU x
 |.makeInterface _ x=>dU x
 |.call c=>(match c.callee with
  |.value f=>dU f
  |_=>[])++vv c.args.toList
 |_=>[]
def aaJ (o:Az):List Nat:=(match o.guard with
 |some (g,_)=>[g]
 |none=>[])++cI o.op
def xe:Op->Bool
 |.move _|.assign _|.pick ..|.alloc _|.box ..|.build ..|.nilCheck _|.binOp ..|.unOp ..|.makeFunc ..|.makeSlice ..|.fieldAddr ..|.field ..|.indexAddr ..|.index ..|.extract ..|.sliceToArrayPointer ..|.makeInterface ..=>false
 |.call c=>match c.callee with
  |.builtin .len|.builtin .max|.builtin .min=>false
  |_=>true
 |_=>true
section
variable {tm tm':Tm}
theorem acq {x:Operand} (h:∀ t∈dU x,tm t=tm' t):bu tm x=bu tm' x:=by
 cases x<;>simp only[bu]
 exact h _ (by simp[dU])
theorem aan:∀ (l:List Operand),(∀ t∈vv l,tm t=tm' t)->j8 tm l=j8 tm' l
 |[],_=>rfl
 |x::l,h=>by
  simp only[j8]
  rw[acq (fun t ht=>h t (by simp only[vv,A9];exact .inl ht)),aan l (fun t ht=>h t (by simp only[vv,A9];exact .inr ht))]
theorem ae3:∀ (l:List (Nat×Operand)),(∀ t∈xX l,tm t=tm' t)->partsOf tm l=partsOf tm' l
 |[],_=>rfl
 |(i,x)::l,h=>by
  simp only[partsOf]
  rw[acq (fun t ht=>h t (by simp only[xX,A9];exact .inl ht)),ae3 l (fun t ht=>h t (by simp only[xX,A9];exact .inr ht))]
theorem ai6 {T:AR}{kb:Nat}{G G':AW}{o:Op}{ty:TypeId} (h:∀ t∈cI o,tm t=tm' t) (hG:xe o=true->G=G'):bH T kb o ty tm G=bH T kb o ty tm' G':=by
 have e:∀ x:Operand,(∀ t∈dU x,t∈cI o)->bu tm x=bu tm' x:=fun x hx=>acq fun t ht=>h t (hx t ht)
 cases o with
 |move x=>simp only[bH,e x (fun t ht=>by simpa [cI] using ht)]
 |assign x=>simp only[bH,e x (fun t ht=>by simpa [cI] using ht)]
 |pick c a b=>simp only[bH,e c (fun t ht=>by simp[cI,ht]),e a (fun t ht=>by simp[cI,ht]),e b (fun t ht=>by simp[cI,ht])]
 |alloc t=>simp only[bH]
 |box t x=>simp only[bH,e x (fun t ht=>by simpa [cI] using ht)]
 |build t ps=>simp only[bH,ae3 ps.toList (fun t ht=>h t (by simpa [cI] using ht))]
 |buildSlice t n ps=>obtain rfl:=hG rfl;simp only[bH,ae3 ps.toList (fun t ht=>h t (by simpa [cI] using ht))]
 |load t a=>obtain rfl:=hG rfl;simp only[bH,e a (fun t ht=>by simpa [cI] using ht)]
 |store t a x=>obtain rfl:=hG rfl;simp only[bH,e a (fun t ht=>by simp[cI,ht]),e x (fun t ht=>by simp[cI,ht])]
 |nilCheck x=>simp only[bH,e x (fun t ht=>by simpa [cI] using ht)]
 |binOp op t x y t'=>simp only[bH,e x (fun t ht=>by simp[cI,ht]),e y (fun t ht=>by simp[cI,ht])]
 |unOp op t x=>simp only[bH,e x (fun t ht=>by simpa [cI] using ht)]
 |convert s d x=>obtain rfl:=hG rfl;simp only[bH,e x (fun t ht=>by simpa [cI] using ht)]
 |makeFunc f a b=>simp only[bH,aan a.toList (fun t ht=>h t (by simp only[cI,A9];exact .inl ht)),aan b.toList (fun t ht=>h t (by simp only[cI,A9];exact .inr ht))]
 |makeSlice t l c=>simp only[bH,e l (fun t ht=>by simp[cI,ht]),e c (fun t ht=>by simp[cI,ht])]
 |slice t x lo hi mx=>
  obtain rfl:=hG rfl
  have ex:=e x (fun t ht=>by simp[cI,ht])
  cases lo with
  |none=>
   cases hi with
   |none=>cases mx<;>simp only[bH,ex]
   |some hi=>
    have eh:=e hi (fun t ht=>by simp[cI,tJ,ht])
    cases mx with
    |none=>simp only[bH,ex,eh]
    |some mx=>simp only[bH,ex,eh,e mx (fun t ht=>by simp[cI,tJ,ht])]
  |some lo=>
   have el:=e lo (fun t ht=>by simp[cI,tJ,ht])
   cases hi with
   |none=>cases mx<;>simp only[bH,ex,el]
   |some hi=>
    have eh:=e hi (fun t ht=>by simp[cI,tJ,ht])
    cases mx with
    |none=>simp only[bH,ex,eh,el]
    |some mx=>simp only[bH,ex,eh,el,e mx (fun t ht=>by simp[cI,tJ,ht])]
 |fieldAddr t x f=>simp only[bH,e x (fun t ht=>by simpa [cI] using ht)]
 |field t x f=>simp only[bH,e x (fun t ht=>by simpa [cI] using ht)]
 |indexAddr t x i=>simp only[bH,e x (fun t ht=>by simp[cI,ht]),e i (fun t ht=>by simp[cI,ht])]
 |index t x i=>simp only[bH,e x (fun t ht=>by simp[cI,ht]),e i (fun t ht=>by simp[cI,ht])]
 |extract x i=>simp only[bH,e x (fun t ht=>by simpa [cI] using ht)]
 |sliceToArrayPointer t x=>simp only[bH,e x (fun t ht=>by simpa [cI] using ht)]
 |makeInterface t x=>simp only[bH,e x (fun t ht=>by simpa [cI] using ht)]
 |call c=>
  obtain⟨callee,args,ats⟩:=c
  cases callee with
  |builtin b=>
   have ea:=aan args.toList (fun t ht=>h t (by simp only[cI,A9];exact .inr ht))
   cases b with
   |len=>simp only[bH,ea,nQ]
   |max=>simp only[bH,ea,nQ]
   |min=>simp only[bH,ea,nQ]
   |_=>obtain rfl:=hG rfl;simp only[bH,ea]
  |_=>rfl
 |_=>rfl
theorem abC {c:Call} (h:∀ t∈cI (.call c),tm t=tm' t):callee tm c=callee tm' c:=by
 obtain⟨cal,args,ats⟩:=c
 have ea:=aan args.toList (fun t ht=>h t (by simp only[cI,A9];exact .inr ht))
 cases cal with
 |value f=>
  have ef:bu tm f=bu tm' f:=acq fun t ht=>h t (by simp only[cI,A9];exact .inl ht)
  simp only[callee,ef,ea]
 |_=>rfl
end
def kQ:AV->List (Nat×Nat)
 |.ptr l k _=>[(l,k)]
 |.bz l k _ _ _ _=>[(l,k)]
 |.loc l k _ _ _ _=>[(l,k)]
 |.bP l k _ _ _=>[(l,k)]
 |x=>x.refs
def u0:List AV->List (Nat×Nat)
 |[]=>[]
 |x::l=>kQ x++u0 l
def acv:AV->Option (List (Nat×Nat))
 |.ptr l k _=>if l=0 then some [(0,k)] else none
 |_=>none
def lR (tm:Tm):Op->Option (List (Nat×Nat))
 |.store _ a _=>(bu tm a).bind acv
 |.load _ a=>(bu tm a).map kQ
 |.buildSlice _ _ ps=>(partsOf tm ps.toList).map j9
 |.slice _ x _ _ _=>(bu tm x).map kQ
 |.convert _ _ x=>(bu tm x).map kQ
 |.call c=>match c.callee with
  |.builtin .append=>(j8 tm c.args.toList).map u0
  |.builtin .len|.builtin .max|.builtin .min=>some []
  |_=>none
 |o=>if xe o then none else some []
theorem rl {G:AW}{ks:List (Nat×Nat)}{l k:Nat} (h:(l,k)∈ks):only G ks l k=G l k:=by
 unfold only;rw[if_pos (by simpa using h)]
mutual
theorem ahQ {G:AW}{ks:List (Nat×Nat)}:∀ (x y:AV),x.ak G=some y->(∀ p∈x.refs,p∈ks)->x.ak (only G ks)=some y
 |.loc l k e i n g,y,h,hk=>by
  simp only[AV.ak]at h ⊢
  rw[rl (hk (l,k) (by simp[AV.refs]))];exact h
 |.nil,y,h,_=>by simpa [AV.ak] using h
 |.cq t v,y,h,hk=>by
  simp only[AV.ak,mS]at h ⊢
  obtain⟨a,h1,h2⟩:=h
  exact⟨a,ahQ v a h1 (by simpa only [AV.refs] using hk),h2⟩
 |.agg cs,y,h,hk=>by
  simp only[AV.ak,mS]at h ⊢
  obtain⟨a,h1,h2⟩:=h
  exact⟨a,ux cs a h1 (by simpa only [AV.refs] using hk),h2⟩
 |.aw vs,y,h,hk=>by
  simp only[AV.ak,mS]at h ⊢
  obtain⟨a,h1,h2⟩:=h
  exact⟨a,ux vs a h1 (by simpa only [AV.refs] using hk),h2⟩
 |.bool b,y,h,_=>by simpa [AV.ak] using h
 |.int k n,y,h,_=>by simpa [AV.ak] using h
 |.str s,y,h,_=>by simpa [AV.ak] using h
 |.sl e es,y,h,_=>by simpa [AV.ak] using h
 |.bQ,y,h,_=>by simpa [AV.ak] using h
 |.cg,y,h,_=>by simpa [AV.ak] using h
 |.cj,y,h,_=>by simpa [AV.ak] using h
 |.fn f a b,y,h,hk=>by
  simp only[AV.ak]at h ⊢
  split at h
  ·rename_i x z hx hz
   obtain rfl:=oi h
   simp only[AV.refs,A9]at hk
   simp only[ux a x hx (fun p hp=>hk p (.inl hp)),ux b z hz (fun p hp=>hk p (.inr hp))]
  ·cases h
 |.bP ..,y,h,_=>by simp[AV.ak]at h
 |.ptr ..,y,h,_=>by simp[AV.ak]at h
 |.bz ..,y,h,_=>by simp[AV.ak]at h
 |.aL ..,y,h,_=>by simpa [AV.ak] using h
 |.dead,y,h,_=>by simp[AV.ak]at h
theorem ux {G:AW}{ks:List (Nat×Nat)}:∀ (l ys:List AV),AV.aQ G l=some ys->(∀ p∈AV.aT l,p∈ks)->AV.aQ (only G ks) l=some ys
 |[],ys,h,_=>by simpa [AV.aQ] using h
 |x::l,ys,h,hk=>by
  simp only[AV.aQ]at h ⊢
  simp only[AV.aT,A9]at hk
  split at h
  ·rename_i a b ha hb
   obtain rfl:=oi h
   simp only[ahQ x a ha (fun p hp=>hk p (.inl hp)),ux l b hb (fun p hp=>hk p (.inr hp))]
  ·cases h
end
theorem ahN {G:AW}{ks:List (Nat×Nat)}:∀ (l:List (Nat×AV)) (cs:List (Nat×List AV)),mz G l=some cs->(∀ p∈j9 l,p∈ks)->mz (only G ks) l=some cs
 |[],cs,h,_=>by simpa [mz] using h
 |(i,v)::l,cs,h,hk=>by
  simp only[mz]at h ⊢
  simp only[j9,A9]at hk
  split at h
  ·rename_i vc pH
   split at h
   ·rename_i a b ha hb
    have hrefs:AV.aT vc=v.refs:=by
     cases v<;>simp only[AV.cells,oE]at pH<;>first|(subst pH;simp[AV.aT,AV.refs];done)|(cases pH)
    rw[ux vc a ha (fun p hp=>hk p (.inl (by rw[<-hrefs];exact hp))),ahN l b hb (fun p hp=>hk p (.inr hp))]
    exact h
   ·cases h
  ·cases h
theorem ag8 {G:AW}{ks:List (Nat×Nat)}{sz:Nat}{x:AV} (hk:∀ p∈kQ x,p∈ks):jf (only G ks) sz x=jf G sz x:=by
 cases x with
 |loc l k e i n g=>simp only[jf];rw[rl (hk (l,k) (by simp[kQ]))]
 |bP l k e o n=>simp only[jf];rw[rl (hk (l,k) (by simp[kQ]))]
 |_=>rfl
theorem aqU {T:AR}{kb:Nat}{tm:Tm}{G:AW}{o:Op}{ty:TypeId}{d:De}{ks:List (Nat×Nat)} (h:bH T kb o ty tm G=some d) (hr:lR tm o=some ks):bH T kb o ty tm (only G ks)=some d:=by
 have other:xe o=false->bH T kb o ty tm (only G ks)=some d:=fun hh=>by rw[<-h];exact ai6 (fun _ _=>rfl) (fun e=>by rw[hh]at e;cases e)
 have anA:(if xe o=true then none else some [])=some ks->bH T kb o ty tm (only G ks)=some d:=by
  intro e
  cases hh:xe o with
  |true=>rw[hh]at e;simp at e
  |false=>exact other hh
 cases o with
 |load t a=>
  simp only[lR,mS]at hr
  obtain⟨x,hx,rfl⟩:=hr
  simp only[bH,hx]at h ⊢
  split at h
  ·rename_i ti x' ht jq
   obtain rfl:=oi jq
   rw[<-h]
   congr 1
   unfold o9
   congr 1
   cases x<;>simp only[jc,kQ]<;>rw[rl (by simp)]
  ·cases h
 |store t a x=>
  simp only[lR,Option.bind_eq_some_iff]at hr
  obtain⟨y,hy,hr⟩:=hr
  cases y with
  |ptr l k o=>
   simp only[acv]at hr
   split at hr
   ·rename_i hl
    subst hl
    obtain rfl:=oi hr
    rw[<-h]
    simp only[bH,hy]
    cases T t with
    |none=>rfl
    |some ti=>
     cases bu tm x with
     |none=>rfl
     |some xv=>
      simp only
      cases xv.cells with
      |none=>rfl
      |some cs=>
       simp only[sw]
       rw[rl (by simp)]
       split
       ·split
        ·split
         ·rfl
         ·rfl
        ·rfl
       ·rfl
   ·cases hr
  |_=>simp[acv]at hr
 |buildSlice t n ps=>
  simp only[lR,mS]at hr
  obtain⟨x,hx,rfl⟩:=hr
  simp only[bH,hx]at h ⊢
  split at h
  ·rename_i ti x' ht jq
   obtain rfl:=oi jq
   unfold sv at h ⊢
   split at h
   ·split at h
    ·rename_i hc
     simp only[hc,and_self,if_true]
     split at h
     ·rename_i cs gg
      rw[ahN _ _ gg (fun _ h=>h)]
      exact h
     ·cases h
    ·cases h
   ·cases h
  ·cases h
 |convert s d x=>
  simp only[lR,mS]at hr
  obtain⟨x1,hx,rfl⟩:=hr
  have hcv:∀ si di:TI,lk T (only G (kQ x1)) si di x1=lk T G si di x1:=by
   intro si di
   unfold lk
   rw[ag8 (x:=x1) (fun p hp=>hp)]
  rw[<-h]
  simp only[bH,hx]
  cases T s with
  |none=>rfl
  |some si=>cases T d with
   |none=>rfl
   |some di=>simp only[hcv]
 |slice t x lo hi mx=>
  simp only[lR,mS]at hr
  obtain⟨x1,hx,rfl⟩:=hr
  have eJ:∀ (ti:TI) (lo hi:AV),mm (only G (kQ x1)) ti x1 lo hi=mm G ti x1 lo hi:=by
   intro ti lo hi
   cases x1 with
   |loc l k e i n g=>simp only[mm];rw[rl (by simp[kQ])]
   |_=>rfl
  rw[<-h]
  cases mx with
  |some mx=>cases lo<;>cases hi<;>rfl
  |none=>
   cases lo with
   |none=>cases hi<;>rfl
   |some lo=>
    cases hi with
    |none=>rfl
    |some hi=>
     simp only[bH,hx]
     cases T t with
     |none=>rfl
     |some ti=>
      simp only
      split
      ·rw[eJ]
      ·rfl
 |call c=>
  obtain⟨cal,args,ats⟩:=c
  cases cal with
  |builtin b=>
   cases b with
   |append=>
    simp only[lR,mS]at hr
    obtain⟨xs,hx,rfl⟩:=hr
    simp only[bH,hx]at h ⊢
    rw[<-h]
    unfold nQ
    split
    ·rfl
    ·split
     ·rfl
     ·simp only
      split
      ·rename_i xs0 s x
       split
       ·unfold kG
        split
        ·rw[ag8 (x:=x) (by intro p hp;simp[u0,hp])]
         split
         ·cases s with
          |loc l k e i n g=>simp only;rw[rl (by simp[u0,kQ])]
          |_=>rfl
         ·rfl
        ·rfl
       ·unfold yO
        split
        ·split
         ·split
          ·split
           ·unfold kG
            split
            ·simp only[jf]
             split
             ·cases s with
              |loc l k e i n g=>simp only;rw[rl (by simp[u0,kQ])]
              |_=>rfl
             ·rfl
            ·rfl
           ·rfl
          ·rfl
         ·rfl
        ·split
         ·split
          ·unfold wh
           split
           ·unfold kG
            split
            ·simp only[jf]
             split
             ·cases s with
              |loc l k e i n g=>simp only;rw[rl (by simp[u0,kQ])]
              |_=>rfl
             ·rfl
            ·rfl
           ·rfl
          ·rfl
         ·rfl
        ·rfl
      ·rfl
   |len=>exact other rfl
   |max=>exact other rfl
   |min=>exact other rfl
   |_=>simp[lR]at hr
  |_=>simp[lR]at hr
 |_=>exact anA hr
def dY:St->List Az->List De->Nat->St
 |st,o::os,d::ds,i+1=>dY (st.by o.dst [] d) os ds i
 |st,_,_,_=>st
theorem acH (st:St) (ops:List Az) (ds:List De):dY st ops ds 0=st:=by
 cases ops<;>cases ds<;>rfl
theorem ajV (st:St) (ops:List Az) (ds:List De) (hl:ds.length=ops.length):∀ i,i<=ops.length->
  (dY st ops ds i).fr::(dY st ops ds i).low=Heap.bV (st.fr::st.low) (cO ds (List.range i))/\(dY st ops ds i).nx=st.nx+16*i/\(dY st ops ds i).nt=st.nt/\
  (dY st ops ds i).tm=jd ops ds (List.range i) st.tm:=by
 have key:∀ (ops:List Az) (ds:List De) (st:St),ds.length=ops.length->∀ i o d,i<ops.length->ops[i]?=some o->ds[i]?=some d->dY st ops ds (i+1)=(dY st ops ds i).by o.dst [] d:=by
  intro ops
  induction ops with
  |nil=>intro ds st hl i o d hi;simp at hi
  |cons o' os ih=>
   intro ds st hl i o d hi ho hd
   cases ds with
   |nil=>simp at hl
   |cons d' ds=>
    cases i with
    |zero=>simp at ho hd;subst ho hd;simp[dY,acH]
    |succ i=>
     simp only[Ci]at ho hd
     simp only[dY]
     exact ih ds _ (by simpa using hl) i o d (by simpa using hi) ho hd
 intro i
 induction i with
 |zero=>intro _;simp[acH,cO,Heap.bV,jd]
 |succ i ih=>
  intro hi
  obtain⟨h1,h2,h3,h4⟩:=ih (by omega)
  have ho:ops[i]?=some ops[i]:=gG (by omega)
  have hd:ds[i]?=some ds[i]:=gG (by omega)
  have hk:=key ops ds st hl i _ _ (by omega) ho hd
  obtain⟨f',H',hp⟩:=xL (dY st ops ds i).fr (dY st ops ds i).low (ds[i]).mW
  have hb:dY st ops ds (i+1)={ dY st ops ds i with tm:=nH (dY st ops ds i).tm (ops[i]).dst (ds[i]).val,nx:=(dY st ops ds i).nx+16,fr:=f',low:=H' }:=by
   rw[hk];unfold St.by;rw[hp];rfl
  have es:∀ (l:List Nat) (m:List Nat),cO ds (l++m)=cO ds l++cO ds m:=by
   intro l m;induction l with
   |nil=>rfl
   |cons a l ih=>simp[cO,ih]
  have et:∀ (l:List Nat) (j:Nat) (tm:List (Nat×AV)),jd ops ds (l++[j]) tm=(match ds[j]? with|some d=>nH (jd ops ds l tm) (cN ops j) d.val|none=>jd ops ds l tm):=by
   intro l;induction l with
   |nil=>intro j tm;rfl
   |cons a l ih=>intro j tm;simp only[Bz,jd,ih]
  rw[hb]
  refine⟨?_,by simp only[h2];omega,h3,?_⟩
  ·simp only
   rw[List.range_succ,es,Heap.pR,<-h1,<-hp]
   simp[cO,eP,hd]
  ·simp only
   rw[List.range_succ,et,hd,<-h4]
   simp[cN,ho]
def akj (ops:List Az) (befs:List (List Nat)) (i:Nat) (t:Nat):Bool:=
 (List.range ops.length).all fun j=>!(decide (cN ops j=some t)) || ((cE befs i).contains j || (cE befs j).contains i)
abbrev Rd:=Option (List (Nat×Nat))
def uv (r:Rd) (s:Sets):Bool:=match r with
 |none=>s.isEmpty
 |some ks=>s.all fun p=>!ks.contains (p.1,p.2.1)
def calm (ops:List Az) (befs:List (List Nat)) (ds:List (De×Rd)):Bool:=
 decide (ds.length=ops.length)&&aam ops&&yu 0 befs&&ua befs (ds.map (·.1)) ops.length&&
 (List.range ops.length).all fun i=>match ops[i]?,ds[i]? with
  |some o,some d=>(aaJ o).all (akj ops befs i)&&((List.range ops.length).all fun j=>!rF befs i j || ((ds[j]?).map fun x=>uv d.2 x.1.mW).getD true)
  |_,_=>false
section
variable [Md] {P:Program}{T:AR}{n:Nat}{Φ:Exit->St->Prop}
theorem Eu.mono {kb:Nat}{o:Az}{tm:Tm}{G G':AW}{d:De} (hG:D8 G G') (h:Eu P T kb o tm G d):Eu P T kb o tm G' d:=by
 cases h with
 |op hc h=>exact .op hc (ai7 (fun _ _ h=>h) hG h)
 |call c f args aE hc h hp hz hr hs=>exact .call c f args aE hc h hp (pe hG _ _ hz) hr hs
 |nD m c f args aE hc h hp hz hr hs=>exact .nD m c f args aE hc h hp ((ue hG (vX hG (fun _ _ _ _ _ _ _ hh=>nk hG _ _ hh) m) (fun _ _ _ _ _ _ _ hh=>nk hG _ _ hh)).2 _ _ hz) hr hs
 |sE m c f args aE fr y hc h hp hz hy hf hd=>exact .sE m c f args aE fr y hc h hp ((ue hG (vX hG (fun _ _ _ _ _ _ _ hh=>nk hG _ _ hh) m) (fun _ _ _ _ _ _ _ hh=>nk hG _ _ hh)).2 _ _ hz) hy hf hd
 |pg rs gs c f args dO fr0 fr y hc h hp hz hg bY hd=>
  have uC:∀ l k b,only (ka G) (rs.map fun k=>(1,k)) l k=some b->only (ka G') (rs.map fun k=>(1,k)) l k=some b:=by
   intro l k b e
   unfold only at e ⊢
   split at e
   ·rename_i hm
    rw[if_pos hm]
    cases l with
    |zero=>simp[ka]at e
    |succ l=>exact hG l k b e
   ·cases e
  have zC:∀ (l k e i0 n g:Nat) (y:AV),(AV.loc l k e i0 n g).ak (only (ka G) (rs.map fun k=>(1,k)))=some y->(AV.loc l k e i0 n g).ak (only (ka G') (rs.map fun k=>(1,k)))=some y:=
   fun _ _ _ _ _ _ _ hh=>nk uC _ _ hh
  exact .pg rs gs c f args dO fr0 fr y hc h hp (ad5 (gs:=gs) (ue uC (vX uC zC 5) zC).1 _ _ hz) (ad4 hG gs 0 fr0 hg) bY hd
theorem C8.congr {kb:Nat}{o:Az}{tm tm':Tm}{G:AW}{d:De} (h:∀ t∈aaJ o,tm t=tm' t) (he:C8 P T kb o tm G d):C8 P T kb o tm' G d:=by
 have hu:∀ t∈cI o.op,tm t=tm' t:=fun t ht=>h t (by simp only[aaJ,A9];exact .inr ht)
 have hg:∀ g w,o.guard=some (g,w)->tm g=tm' g:=fun g w hh=>h g (by simp[aaJ,hh])
 rcases he with ⟨iJ,he⟩|⟨⟨g,w,hh,hc⟩,hd⟩
 ·refine .inl ⟨?_,?_⟩
  ·rcases iJ with iJ|⟨g,w,b,hh,h1,h2⟩
   ·exact .inl iJ
   ·exact .inr ⟨g,w,b,hh,by rw[<-hg g w hh];exact h1,h2⟩
  ·cases he with
   |op hc he=>exact .op hc (by rw[<-ai6 hu (fun _=>rfl)];exact he)
   |call c f args aE hc h hp hz hr hs=>
    have oj:o.op=.call c:=by
     unfold kP at hc
     split at hc
     ·split at hc
      ·cases hc
      ·obtain rfl:=oi hc;assumption
     ·cases hc
    exact .call c f args aE hc (by rw[<-abC (by rw[<-oj];exact hu)];exact h) hp hz hr hs
   |nD m c f args aE hc h hp hz hr hs=>
    have oj:o.op=.call c:=by
     unfold kP at hc
     split at hc
     ·split at hc
      ·cases hc
      ·obtain rfl:=oi hc;assumption
     ·cases hc
    exact .nD m c f args aE hc (by rw[<-abC (by rw[<-oj];exact hu)];exact h) hp hz hr hs
   |sE m c f args aE fr y hc h hp hz hy hf hd=>
    have oj:o.op=.call c:=by
     unfold kP at hc
     split at hc
     ·split at hc
      ·cases hc
      ·obtain rfl:=oi hc;assumption
     ·cases hc
    exact .sE m c f args aE fr y hc (by rw[<-abC (by rw[<-oj];exact hu)];exact h) hp hz hy hf hd
   |pg rs gs c f args dO fr0 fr y hc h hp hz hg bY hd=>
    have oj:o.op=.call c:=by
     unfold kP at hc
     split at hc
     ·split at hc
      ·cases hc
      ·obtain rfl:=oi hc;assumption
     ·cases hc
    exact .pg rs gs c f args dO fr0 fr y hc (by rw[<-abC (by rw[<-oj];exact hu)];exact h) hp hz hg bY hd
 ·refine .inr ⟨⟨g,w,hh,?_⟩,hd⟩
  rw[<-hg g w hh];exact hc
def Dn (P:Program) (T:AR) (kb:Nat) (o:Az) (tm:Tm) (G:AW) (d:De×Rd):Prop:=
 C8 P T kb o tm (match d.2 with|none=>G|some ks=>only G ks) d.1
inductive Steps (P:Program) (T:AR):St->List Az->List (De×Rd)->Prop
 |nil (st:St):Steps P T st [] []
 |cons (st:St) (o:Az) (os:List Az) (d:De×Rd) (ds:List (De×Rd)) (h:Dn P T st.nx o (look st.tm) st.get d) (hs:Steps P T (st.by o.dst [] d.1) os ds):Steps P T st (o::os) (d::ds)
theorem Steps.at {st:St}{ops:List Az}{ds:List (De×Rd)} (h:Steps P T st ops ds):∀ i o d,ops[i]?=some o->ds[i]?=some d->
  Dn P T (dY st ops (ds.map (·.1)) i).nx o (look (dY st ops (ds.map (·.1)) i).tm) (dY st ops (ds.map (·.1)) i).get d:=by
 induction h with
 |nil st=>intro i o d ho;simp at ho
 |cons st o os d ds h hs ih=>
  intro i o' d' ho hd
  cases i with
  |zero=>simp at ho hd;subst ho hd;rw[acH];exact h
  |succ i=>
   simp only[Ci]at ho hd
   simp only[List.map_cons,dY]
   exact ih i o' d' ho hd
theorem Steps.length {st:St}{ops:List Az}{ds:List (De×Rd)} (h:Steps P T st ops ds):ds.length=ops.length:=by
 induction h with
 |nil=>rfl
 |cons _ _ _ _ _ _ _ ih=>simp[ih]
theorem adE:∀ (ks:List Nat) (l:List (Nat×AV)) (t:Nat),look (cM l ks) t=if t∈ks then none else look l t
 |[],l,t=>by simp[cM]
 |k::ks,l,t=>by
  simp only[cM,adE ks,aae,BF]
  by_cases h1:t∈ks
  ·simp[h1]
  ·by_cases h2:k=t
   ·simp[h2]
   ·simp[h1,h2,Ne.symm h2]
theorem amW {ops:List Az}{befs:List (List Nat)}{st:St} (ds:List (De×Rd)) (hs:Steps P T st ops ds) (hc:calm ops befs ds=true):
  ∀ i s d,ops[i]?=some s->(ds.map (·.1))[i]?=some d->C8 P T (st.nx+16*i) s (look (o8 ops befs (ds.map (·.1)) st.tm i)) (Heap.get (nh ops befs (ds.map (·.1)) (st.fr::st.low) i)) d:=by
 obtain⟨eb,zo⟩:∃ eb,ds.map (·.1)=eb:=⟨_,rfl⟩
 have hl:=hs.length
 have xh:eb.length=ops.length:=by rw[<-zo];simp[hl]
 simp only[calm,Bo,decide_eq_true_eq,zo]at hc
 obtain⟨⟨⟨⟨_,h1⟩,iB⟩,mE⟩,jF⟩:=hc
 have hO:=ae0 ops h1
 have hB:=adg befs 0 iB
 have hdx:∀ i,i<ops.length->∃ d,ds[i]?=some d/\eb[i]?=some d.1:=by
  intro i hi
  obtain⟨x,h2⟩:∃ x,ds[i]?=some x:=⟨_,gG (by omega)⟩
  refine⟨x,h2,?_⟩
  have h3:(ds.map (·.1))[i]?=some x.1:=by rw[BX,h2];rfl
  rw[zo]at h3;exact h3
 rw[zo]
 intro i s d hi hd
 have hil:i<ops.length:=(gS.1 hi).1
 obtain⟨dd,h2,h3⟩:=hdx i hil
 rw[hd]at h3
 obtain rfl:=oi h3
 have hE:=hs.at i s dd hi h2
 rw[zo]at hE
 obtain⟨f1,f2,f3,f4⟩:=ajV st ops eb xh i (by omega)
 rw[f2]at hE
 simp only[List.all_eq_true,List.mem_range]at jF
 have hci:=jF i hil
 rw[hi,h2]at hci
 simp only[Bo,List.all_eq_true]at hci
 obtain⟨hu,hh⟩:=hci
 have n9:∀ j t,cN ops j=some t->j<ops.length:=by
  intro j t hj
  unfold cN at hj
  cases ho:ops[j]? with
  |none=>rw[ho]at hj;cases hj
  |some o=>exact(gS.1 ho).1
 have eM:∀ t∈aaJ s,look (dY st ops eb i).tm t=look (o8 ops befs eb st.tm i) t:=by
  intro t ht
  rw[f4]
  have hut:=hu t ht
  simp only[akj,List.all_eq_true,List.mem_range,Bool.or_eq_true,Bool.not_eq_true',decide_eq_false_iff_not]at hut
  unfold o8
  by_cases hex:∃ j,cN ops j=some t
  ·obtain⟨j,hj⟩:=hex
   have jY:=n9 j t hj
   have hor:(cE befs i).contains j=true\/(cE befs j).contains i=true:=by
    rcases hut j jY with h|h
    ·exact absurd hj h
    ·exact h
   by_cases zA:(cE befs i).contains j=true
   case neg=>
    have uL:=hB j i (by simpa using hor.resolve_left zA)
    have bw:∀ L:List Nat,j∉L->∀ k∈L,cN ops k≠some t:=by
     intro L hjL k hk qM
     have:=hO j k t hj qM
     subst this
     exact hjL hk
    rw[ni ops eb t _ _ (bw _ (by simp;omega)),ni ops eb t _ _ (bw _ (by intro hm;exact zA (mO.1 hm).2)),adE,if_neg]
    intro hm
    obtain⟨k,hk,qM⟩:=List.mem_filterMap.1 hm
    have:=hO j k t hj qM
    subst this
    have:=(mO.1 hk).2
    rw[hor.resolve_left zA]at this
    cases this
   have kL:=hB i j (by simpa using zA)
   obtain⟨dj,_,pr⟩:=hdx j jY
   rw[sx ops eb hO hj pr _ _ (List.mem_range.2 (by omega)),sx ops eb hO hj pr _ _ (mO.2 ⟨jY,zA⟩)]
  ·have bw:∀ (L:List Nat),∀ j∈L,cN ops j≠some t:=fun L j _ hj=>hex ⟨j,hj⟩
   rw[ni ops eb t _ _ (bw _),ni ops eb t _ _ (bw _),adE,if_neg]
   intro hm
   obtain⟨j,_,hj⟩:=List.mem_filterMap.1 hm
   exact hex ⟨j,hj⟩
 simp only[List.all_eq_true,List.mem_range,Bool.or_eq_true,Bool.not_eq_true']at hh
 have aoG:∀ j,j<ops.length->rF befs i j=true->uv dd.2 (eP eb j)=true:=by
  intro j hj bZ
  obtain⟨dj,pr,aoA⟩:=hdx j hj
  rcases hh j hj with h|h
  ·rw[bZ]at h;cases h
  ·rw[pr]at h
   simpa [eP,aoA] using h
 have hG:∀ l k,(∀ ks,dd.2=some ks->(l,k)∈ks)->(dY st ops eb i).get l k=Heap.get (nh ops befs eb (st.fr::st.low) i) l k:=by
  intro l k od
  have zK:∀ j,j<ops.length->rF befs i j=true->∀ p∈eP eb j,¬ (p.1=l/\p.2.1=k):=by
   intro j hj bZ p hp hpe
   have:=aoG j hj bZ
   unfold uv at this
   split at this
   ·rw[List.isEmpty_iff]at this;rw[this]at hp;cases hp
   ·rename_i ks hks
    have h1:=List.all_eq_true.1 this p hp
    have h2:=od ks hks
    rw[hpe.1,hpe.2]at h1
    simp[h2]at h1
  unfold St.get nh
  rw[f1,uz,uz]
  have g1:said (gone (cO eb (idxs ops.length (rF befs i)))) l k=none:=by
   apply acF
   intro x hx
   obtain⟨y,hy,rfl⟩:=List.mem_map.1 hx
   obtain⟨j,hj,hyj⟩:=(aeL _).1 hy
   exact fun hh=>zK j (mO.1 hj).1 (mO.1 hj).2 y hyj hh
  rw[g1]
  simp only
  rw[uz]
  have g2:said (cO eb (List.range i)) l k=said (cO eb (idxs ops.length fun j=>(cE befs i).contains j)) l k:=by
   have k2:List.range i=(List.range ops.length).filter fun j=>decide (j<i):=by
    have:∀ (m k:Nat),k<=m->List.range k=(List.range m).filter fun j=>decide (j<k):=by
     intro m
     induction m with
     |zero=>
      intro k hk
      have:k=0:=by omega
      subst this;rfl
     |succ m ih=>
      intro k hk
      by_cases hkm:k=m+1
      ·subst hkm
       symm
       rw[List.filter_eq_self]
       intro j hj;simpa using hj
      ·rw[List.range_succ,List.filter_append,<-ih k (by omega)]
       have:¬ m<k:=by omega
       simp[this]
    exact this _ _ (by omega)
   rw[k2]
   symm
   unfold idxs
   refine afj (ds:=eb) (l:=l) (k:=k) (fun j=>(cE befs i).contains j) (fun j=>decide (j<i)) ?_ (List.range ops.length) ?_
   ·intro j hj
    have:=hB i j (by simpa using hj)
    simp;omega
   ·intro j hj kL hnb s hs
    simp only[decide_eq_true_eq]at kL
    refine zK j (List.mem_range.1 hj) ?_ s hs
    unfold rF
    have qP:(cE befs j).contains i=false:=by
     cases hx:(cE befs j).contains i with
     |false=>rfl
     |true=>have:=hB j i (by simpa using hx);omega
    rw[hnb,qP]
    have:j≠i:=by omega
    simp[this]
  rw[g2]
 have hE':=C8.congr eM hE
 have hle:D8 (match dd.2 with|none=>(dY st ops eb i).get|some ks=>only (dY st ops eb i).get ks) (Heap.get (nh ops befs eb (st.fr::st.low) i)):=by
  intro l k b hb
  cases sK:dd.2 with
  |none=>
   rw[sK]at hb
   simp only at hb
   rw[<-hG l k (by intro ks e;rw[sK]at e;cases e)];exact hb
  |some ks=>
   rw[sK]at hb
   simp only[only]at hb
   split at hb
   ·rename_i hm
    rw[<-hG l k (by intro ks' e;rw[sK]at e;obtain rfl:=oi e;simpa using hm)];exact hb
   ·cases hb
 rcases hE' with ⟨a,b⟩|⟨a,b⟩
 ·exact .inl ⟨a,b.mono hle⟩
 ·exact .inr ⟨a,b⟩
theorem amX {ops:List Az}{drop:List Nat}{todo:List It}{st:St} (eb:List De) (xh:eb.length=ops.length)
  (hn:AK P n Φ todo { dY st ops eb ops.length with tm:=cM (dY st ops eb ops.length).tm drop }):AK P n Φ todo (st.drawn ops eb drop):=by
 obtain⟨e1,e2,e3,e4⟩:=ajV st ops eb xh ops.length (AY _)
 unfold St.drawn
 obtain⟨f',H',hp⟩:=xL st.fr st.low (cO eb (List.range ops.length))
 rw[hp]at e1 ⊢
 simp only[List.cons.injEq]at e1
 obtain⟨e5,e6⟩:=e1
 rw[asg]
 simp only[e2,e3,e4,e5,e6]at hn
 exact hn
theorem Iu (hT:AX P T) (hm:P.follows .mixedOrders=true) {ops:List Az}{befs:List (List Nat)}{drop:List Nat}{todo:List It}{st:St} (ds:List (De×Rd)) (hs:Steps P T st ops ds) (hc:calm ops befs ds=true)
  (hn:AK P n Φ todo { dY st ops (ds.map (·.1)) ops.length with tm:=cM (dY st ops (ds.map (·.1)) ops.length).tm drop }):AM P n Φ (.draw ops befs drop todo st):=by
 have hl:(ds.map (·.1)).length=ops.length:=by simp[hs.length]
 have np:=hc
 simp only[calm,Bo,decide_eq_true_eq]at np
 obtain⟨⟨⟨⟨_,h1⟩,iB⟩,mE⟩,_⟩:=np
 exact Iv hT hm _ hl h1 iB mE (amW ds hs hc) (amX _ hl hn)
end
end Go.Abs
namespace Go.Abs
open Go Go.RowKit
theorem Ay.nl {P:Program}{f:FuncId}{zs args:List AV}{R:AV->Prop} (h:Ay P f args R) (hn:AZ zs args):Ay P f zs R:=
 ⟨h.1,fun fm w vs h1 h2=>h.2 fm w vs h1 (hn.ok h2)⟩
inductive CK where
 |stuck
 |call (f:FuncId) (args:List AV) (o:Az) (os:List Az) (acc:List (De×Rd)) (st:St)
 |done (acc:List (De×Rd)) (st:St)
def aas:De×Rd:=(⟨.aw [],[]⟩,some [])
def rE (f:List Az->List (De×Rd)->St->CK) (b:Bool) (os:List Az) (acc:List (De×Rd)) (st:St) (ju:List Az) (iZ:List (De×Rd)) (ay:St):CK:=
 match b with
 |true=>f os acc st
 |false=>f ju iZ ay
theorem arS (f:List Az->List (De×Rd)->St->CK) (os ju:List Az) (acc iZ:List (De×Rd)) (st ay:St):rE f true os acc st ju iZ ay=f os acc st:=rfl
theorem arQ (f:List Az->List (De×Rd)->St->CK) (os ju:List Az) (acc iZ:List (De×Rd)) (st ay:St):rE f false os acc st ju iZ ay=f ju iZ ay:=rfl
def aeU (f:List Az->List (De×Rd)->St->CK) (o:Az) (os:List Az) (acc:List (De×Rd)) (st:St):Option De->CK
 |some d=>f os ((d,lR (look st.tm) o.op)::acc) (st.by o.dst [] d)
 |none=>.stuck
theorem ap7 (f:List Az->List (De×Rd)->St->CK) (o:Az) (os:List Az) (acc:List (De×Rd)) (st:St) (d:De):aeU f o os acc st (some d)=f os ((d,lR (look st.tm) o.op)::acc) (st.by o.dst [] d):=rfl
def adw (o:Az) (os:List Az) (acc:List (De×Rd)) (st:St):Option (FuncId×List AV)->CK
 |some (f,args)=>.call f args o os acc st
 |none=>.stuck
theorem amT (o:Az) (os:List Az) (acc:List (De×Rd)) (st:St) (f:FuncId) (args:List AV):adw o os acc st (some (f,args))=.call f args o os acc st:=rfl
def doD (T:AR) (f:List Az->List (De×Rd)->St->CK) (o:Az) (os:List Az) (acc:List (De×Rd)) (st:St):CK:=
 match kP o.op with
 |some c=>adw o os acc st (callee (look st.tm) c)
 |none=>aeU f o os acc st (bH T st.nx o.op o.type (look st.tm) st.get)
def kU (T:AR):Nat->List Az->List (De×Rd)->St->CK
 |0,_,_,_=>.stuck
 |_+1,[],acc,st=>.done acc st
 |n+1,o::os,acc,st=>match o.guard with
  |none=>doD T (kU T n) o os acc st
  |some (g,w)=>match look st.tm g with
   |some (.bool b)=>rE (kU T n) (b==w) (⟨o.dst,o.op,o.type,none,o.drop⟩::os) acc st os (aas::acc) (st.by o.dst [] ⟨.aw [],[]⟩)
   |some (.aw [])=>kU T n os (aas::acc) (st.by o.dst [] ⟨.aw [],[]⟩)
   |_=>.stuck
section
variable [Md] {P:Program}{T:AR}{n:Nat}{Φ:Exit->St->Prop}{C:List (De×Rd)->St->Prop}
def GD (P:Program) (T:AR) (C:List (De×Rd)->St->Prop) (os:List Az) (acc:List (De×Rd)) (st:St):Prop:=
 ∃ ds,Steps P T st os ds/\C (ds.reverse++acc) (dY st os (ds.map (·.1)) os.length)
def DG (P:Program) (T:AR) (C:List (De×Rd)->St->Prop):CK->Prop
 |.stuck=>False
 |.done acc st=>C acc st
 |.call f args o os acc st=>(∃ rs gs dO fr0 fr y,Bg P f dO fr0 (fun y' aZ=>y'=y/\aZ=fr)/\lA gs (only (ka (only st.get ((gs++rs).map fun k=>(0,k)))) (rs.map fun k=>(1,k))) (cZ (only (ka (only st.get ((gs++rs).map fun k=>(0,k)))) (rs.map fun k=>(1,k))) 5) (AV.dm 1 args)=some dO/\
    pj (only st.get ((gs++rs).map fun k=>(0,k))) 0 gs=some fr0/\(decide (gs++rs).Nodup&&decide (gs.length<=16))=true/\GD P T C os ((⟨y.imp st.nx,lM rs++(lM gs++lJ st.nx fr)⟩,some ((gs++rs).map fun k=>(0,k)))::acc) (st.by o.dst [] ⟨y.imp st.nx,lM rs++(lM gs++lJ st.nx fr)⟩))\/
   (∃ m ks aE fr y,Bg P f aE [] (fun y' aZ=>y'=y/\aZ=fr)/\AV.dk (only st.get ks) (cZ (only st.get ks) m) args=some aE/\y.rh=true/\tn fr/\GD P T C os ((⟨y.imp st.nx,lJ st.nx fr⟩,some ks)::acc) (st.by o.dst [] ⟨y.imp st.nx,lJ st.nx fr⟩))\/∃ v aE fl,Ay P f aE (fun y=>y=v)/\((AV.aQ st.get args=some aE/\(AV.aT args=[]\/v.cS=true)/\fl=some (AV.aT args))\/(fl=none/\v.cS=true/\∃ m,AV.dk st.get (cZ st.get m) args=some aE))/\
   GD P T C os ((⟨v,[]⟩,fl)::acc) (st.by o.dst [] ⟨v,[]⟩)
theorem GD.cons {o:Az}{os:List Az}{acc:List (De×Rd)}{st:St}{d:De×Rd} (h:Dn P T st.nx o (look st.tm) st.get d) (hg:GD P T C os (d::acc) (st.by o.dst [] d.1)):GD P T C (o::os) acc st:=by
 obtain⟨ds,h1,h2⟩:=hg
 exact⟨d::ds,.cons st o os d ds h h1,by simpa [dY] using h2⟩
theorem afi:∀ (m:Nat) (os:List Az) (acc:List (De×Rd)) (st:St),DG P T C (kU T m os acc st)->GD P T C os acc st:=by
 intro m
 induction m with
 |zero=>intro os acc st h;exact h.elim
 |succ m ih=>
  intro os acc st h
  cases os with
  |nil=>exact⟨[],.nil st,by simp only[kU,DG]at h;simpa [acH] using h⟩
  |cons o os=>
   have mU:(stays o (look st.tm))->DG P T C (kU T m os (aas::acc) (st.by o.dst [] ⟨.aw [],[]⟩))->GD P T C (o::os) acc st:=by
    intro hs h
    exact GD.cons (d:=aas) (by simp only[Dn,aas];exact .inr ⟨hs,rfl⟩) (ih _ _ _ h)
   cases hg:o.guard with
   |none=>
    simp only[kU,hg,doD]at h
    cases hc:kP o.op with
    |none=>
     rw[hc]at h
     simp only at h
     cases hd:bH T st.nx o.op o.type (look st.tm) st.get with
     |none=>rw[hd]at h;exact h.elim
     |some d=>
      rw[hd]at h
      simp only[aeU]at h
      refine GD.cons (d:=(d,lR (look st.tm) o.op)) ?_ (ih _ _ _ h)
      unfold Dn
      simp only
      cases hr:lR (look st.tm) o.op with
      |none=>exact .inl ⟨.inl hg,.op hc hd⟩
      |some ks=>exact .inl ⟨.inl hg,.op hc (aqU hd hr)⟩
    |some c=>
     rw[hc]at h
     simp only at h
     cases fJ:callee (look st.tm) c with
     |none=>rw[fJ]at h;exact h.elim
     |some fa=>
      obtain⟨f,args⟩:=fa
      rw[fJ]at h
      simp only[adw,DG]at h
      rcases h with ⟨rs,gs,dO,fr0,fr,y,h1,h2,h3,h5,h4⟩|⟨m,ks,aE,fr,y,h1,h2,h3,h5,h4⟩|h
      ·refine GD.cons (d:=(⟨y.imp st.nx,lM rs++(lM gs++lJ st.nx fr)⟩,some ((gs++rs).map fun k=>(0,k)))) ?_ h4
       unfold Dn
       exact .inl ⟨.inl hg,.pg rs gs c f args dO fr0 fr y hc fJ h1 h2 h3 h5 rfl⟩
      ·refine GD.cons (d:=(⟨y.imp st.nx,lJ st.nx fr⟩,some ks)) ?_ h4
       unfold Dn
       exact .inl ⟨.inl hg,.sE m c f args aE fr y hc fJ h1 h2 h3 h5 rfl⟩
      obtain⟨v,aE,fl,h1,hor,h4⟩:=h
      refine GD.cons (d:=(⟨v,[]⟩,fl)) ?_ h4
      unfold Dn
      rcases hor with ⟨h2,h3,rfl⟩|⟨rfl,h3,m,h2⟩
      ·exact .inl ⟨.inl hg,.call c f args aE hc fJ h1 (ux _ _ h2 (fun _ h=>h)) h3 rfl⟩
      ·exact .inl ⟨.inl hg,.nD m c f args aE hc fJ h1 h2 h3 rfl⟩
   |some gw=>
    obtain⟨g,w⟩:=gw
    simp only[kU,hg]at h
    split at h
    ·rename_i b hb
     cases mF:b==w with
     |true=>
      rw[mF]at h
      simp only[rE]at h
      obtain⟨ds,h1,h2⟩:=ih _ _ _ h
      cases h1 with
      |cons _ _ _ d ds hE hs=>
       refine⟨d::ds,.cons st o os d ds ?_ hs,by simpa [dY] using h2⟩
       have iJ:ahV o (look st.tm):=.inr ⟨g,w,b,hg,hb,mF⟩
       unfold Dn at hE ⊢
       have conv:∀ G,C8 P T st.nx ⟨o.dst,o.op,o.type,none,o.drop⟩ (look st.tm) G d.1->C8 P T st.nx o (look st.tm) G d.1:=by
        rintro G (⟨_,he⟩|⟨⟨g',w',hh,_⟩,_⟩)
        ·refine .inl ⟨iJ,?_⟩
         cases he with
         |op hc h=>exact .op hc h
         |call c f args aE hc h hp hz hr hs=>exact .call c f args aE hc h hp hz hr hs
         |nD m c f args aE hc h hp hz hr hs=>exact .nD m c f args aE hc h hp hz hr hs
         |pg rs gs c f args dO fr0 fr y hc h hp hz hg bY hd=>exact .pg rs gs c f args dO fr0 fr y hc h hp hz hg bY hd
         |sE m c f args aE fr y hc h hp hz hy hf hd=>exact .sE m c f args aE fr y hc h hp hz hy hf hd
        ·cases hh
       exact conv _ hE
     |false=>
      rw[mF]at h
      simp only[rE]at h
      exact mU ⟨g,w,hg,.inl ⟨b,hb,mF⟩⟩ h
    ·rename_i hb
     exact mU ⟨g,w,hg,.inr hb⟩ h
    ·exact h.elim
theorem IJ {f:FuncId}{args aE rT:List AV}{v:AV}{o:Az}{os:List Az}{acc:List (De×Rd)}{st:St} (m:Nat) (hp:Ay P f aE (fun y=>y=v)) (hz:AV.aQ st.get args=some rT) (hn:AZ rT aE)
  (hr:AV.aT args=[]\/v.cS=true) (h:DG P T C (kU T m os ((⟨v,[]⟩,some (AV.aT args))::acc) (st.by o.dst [] ⟨v,[]⟩))):DG P T C (.call f args o os acc st):=
 .inr <| .inr ⟨v,rT,_,hp.nl hn,.inl ⟨hz,hr,rfl⟩,afi m _ _ _ h⟩
theorem D4 {f:FuncId}{args dO:List AV}{fr0 fr:AH}{y:AV}{o:Az}{os:List Az}{acc:List (De×Rd)}{st:St} (m:Nat) (rs gs:List Nat) (hp:Bg P f dO fr0 (fun y' aZ=>y'=y/\aZ=fr))
  (hz:lA gs (only (ka (only st.get ((gs++rs).map fun k=>(0,k)))) (rs.map fun k=>(1,k))) (cZ (only (ka (only st.get ((gs++rs).map fun k=>(0,k)))) (rs.map fun k=>(1,k))) 5) (AV.dm 1 args)=some dO/\pj (only st.get ((gs++rs).map fun k=>(0,k))) 0 gs=some fr0) (bY:(decide (gs++rs).Nodup&&decide (gs.length<=16))=true)
  (h:DG P T C (kU T m os ((⟨y.imp st.nx,lM rs++(lM gs++lJ st.nx fr)⟩,some ((gs++rs).map fun k=>(0,k)))::acc) (st.by o.dst [] ⟨y.imp st.nx,lM rs++(lM gs++lJ st.nx fr)⟩))):DG P T C (.call f args o os acc st):=
 .inl ⟨rs,gs,dO,fr0,fr,y,hp,hz.1,hz.2,bY,afi m _ _ _ h⟩
theorem IK {acc:List (De×Rd)}{st:St} (h:C acc st):DG P T C (.done acc st):=h
def oK (ds:List (De×Rd)):List (List (Nat×Nat)×Rd):=ds.map fun d=>(d.1.mW.map fun p=>(p.1,p.2.1),d.2)
def oT (sk:List (List (Nat×Nat)×Rd)):List (De×Rd):=sk.map fun d=>(⟨.aw [],d.1.map fun p=>(p.1,p.2,none)⟩,d.2)
theorem apA (s t s' t':Sets) (hs:s.map (fun p=>(p.1,p.2.1))=s'.map (fun p=>(p.1,p.2.1))) (ht:t.map (fun p=>(p.1,p.2.1))=t'.map (fun p=>(p.1,p.2.1))):uZ s t=uZ s' t':=by
 have key:∀ s t:Sets,uZ s t=((s.map fun p=>(p.1,p.2.1)).all fun p=>(t.map fun p=>(p.1,p.2.1)).all fun q=>!(p.1==q.1&&p.2==q.2)):=by
  intro s t
  unfold uZ
  simp[List.all_map,Function.comp_def]
 rw[key,key,hs,ht]
theorem an2 (r:Rd) (s s':Sets) (hs:s.map (fun p=>(p.1,p.2.1))=s'.map (fun p=>(p.1,p.2.1))):uv r s=uv r s':=by
 have key:∀ s:Sets,uv r s=(match r with
   |none=>(s.map fun p=>(p.1,p.2.1)).isEmpty
   |some ks=>(s.map fun p=>(p.1,p.2.1)).all fun p=>!ks.contains p):=by
  intro s
  cases r with
  |none=>cases s<;>rfl
  |some ks=>simp[uv,List.all_map,Function.comp_def]
 rw[key,key,hs]
theorem amV (ops:List Az) (befs:List (List Nat)) (ds:List (De×Rd)):calm ops befs ds=calm ops befs (oT (oK ds)):=by
 have eA:∀ i:Nat,(oT (oK ds))[i]?=(ds[i]?).map fun d=>((⟨.aw [],d.1.mW.map fun p=>(p.1,p.2.1,none)⟩:De),d.2):=by
  intro i
  simp[oT,oK,BX,Function.comp_def]
 have hk:∀ i:Nat,(eP (ds.map (·.1)) i).map (fun p=>(p.1,p.2.1))=(eP ((oT (oK ds)).map (·.1)) i).map (fun p=>(p.1,p.2.1)):=by
  intro i
  unfold eP
  rw[BX,BX,eA]
  cases ds[i]? with
  |none=>rfl
  |some d=>simp[Function.comp_def]
 have h1:(oT (oK ds)).length=ds.length:=by simp[oT,oK]
 have h2:ua befs ((oT (oK ds)).map (·.1)) ops.length=ua befs (ds.map (·.1)) ops.length:=by
  unfold ua
  congr 1;funext j;congr 1;funext i
  rw[apA _ _ _ _ (hk i).symm (hk j).symm]
 unfold calm
 rw[h1,h2]
 congr 1
 congr 1;funext i
 rw[eA]
 cases ops[i]? with
 |none=>rfl
 |some o=>
  cases ds[i]? with
  |none=>rfl
  |some d=>
   simp only[Be]
   congr 1
   congr 1;funext j
   rw[eA]
   cases ds[j]? with
   |none=>rfl
   |some x=>
    simp only[Be,Option.getD_some]
    rw[an2 d.2 x.1.mW (x.1.mW.map fun p=>(p.1,p.2.1,none)) (by simp[Function.comp_def])]
theorem amY {ops:List Az}{befs:List (List Nat)}{ds:List (De×Rd)}{sk:List (List (Nat×Nat)×Rd)} (h1:oK ds=sk) (h2:calm ops befs (oT sk)=true):calm ops befs ds=true:=by
 rw[amV,h1];exact h2
theorem AL (hT:AX P T) (hm:P.follows .mixedOrders=true) {ops:List Az}{befs:List (List Nat)}{drop:List Nat}{todo:List It}{st:St} (m:Nat)
  (h:DG P T (fun acc ay=>calm ops befs acc.reverse=true/\AK P n Φ todo { ay with tm:=cM ay.tm drop }) (kU T m ops [] st)):AM P n Φ (.draw ops befs drop todo st):=by
 obtain⟨ds,h1,h2,h3⟩:=afi m _ _ _ h
 simp only[List.append_nil,List.reverse_reverse]at h2
 exact Iu hT hm ds h1 h2 h3
theorem IC (hT:AX P T) {f:FuncId}{args aE rT:List AV}{v:AV}{dst:Option Tmp}{drop:List Nat}{todo:List It}{st:St} (m:Nat) (hp:Ay P f aE (fun y=>y=v)) (hz:AV.aQ (Heap.get ([]::st.fr::st.low)) args=some rT) (hn:AZ rT aE)
  (hr:AV.aT args=[]\/v.cS=true) (h:AM P n Φ (run T m todo (st.gF dst drop v [] (st.fr::st.low)))):AM P n Φ (.call f args dst drop todo st):=by
 have hk:=ik hT m todo _ h
 rcases hr with hr|hr
 ·exact Iw (hp.nl hn) hz hr (by rintro y rfl;exact hk)
 ·exact Ir (hp.nl hn) hz (by rintro y rfl;exact hr) (by rintro y rfl;exact hk)
theorem IA (hT:AX P T) {f:FuncId}{args aE rT:List AV}{v:AV}{dst:Option Tmp}{drop:List Nat}{todo:List It}{st:St} (m:Nat) (hp:Ay P f aE (fun y=>y=v)) (hz:AV.dk (Heap.get ([]::st.fr::st.low)) (cZ (Heap.get ([]::st.fr::st.low)) 5) args=some rT) (hn:AZ rT aE)
  (hr:v.cS=true) (h:AM P n Φ (run T m todo (st.gF dst drop v [] (st.fr::st.low)))):AM P n Φ (.call f args dst drop todo st):=by
 have hk:=ik hT m todo _ h
 exact D2 (Ay.nD 5 (hp.nl hn) hz (by rintro y rfl;exact hr)) (by rintro v fr H ⟨rfl,rfl,rfl⟩;exact hk)
def lh (o:Option (List AV)) (aE:List AV):Prop:=match o with
 |some z=>AZ z aE
 |none=>False
theorem asK (z aE:List AV):lh (some z) aE=AZ z aE:=rfl
def yOK (o:Option AV) (v:AV):Prop:=match o with
 |some y=>NL y v
 |none=>False
theorem asl (y v:AV):yOK (some y) v=NL y v:=rfl
theorem Fp (hT:AX P T) {f:FuncId}{args aE:List AV}{v:AV}{dst:Option Tmp}{drop:List Nat}{todo:List It}{st:St} (m:Nat) (rs:List Nat) (hp:Ay P f aE (fun y=>y=v)) (hz:lh (AV.dk (only (Heap.get ([]::st.fr::st.low)) (rs.map fun k=>(1,k))) (cZ (only (Heap.get ([]::st.fr::st.low)) (rs.map fun k=>(1,k))) 5) args) aE)
  (h:AM P n Φ (run T m todo (st.gF dst drop v [] (cM st.fr rs::st.low)))):AM P n Φ (.call f args dst drop todo st):=by
 unfold lh at hz
 split at hz
 ·rename_i z eD
  have hk:=ik hT m todo _ h
  refine D2 (Ay.take 5 _ (hp.nl hz) eD (by simp)) ?_
  rintro y fr H ⟨rfl,rfl,e⟩
  rw[aeC]at e
  obtain rfl:=(List.cons.inj e).2
  exact hk
 ·exact hz.elim
theorem Ay.nlr {f:FuncId}{args:List AV}{v:AV} (h:Ay P f args (fun y=>NL y v)):Ay P f args (fun y=>y=v):=by
 refine⟨h.1,fun fm w vs h1 h2=>Calls.mono (h.2 fm w vs h1 h2) ?_⟩
 rintro e w' ⟨u,y,fm',h3,h4,h5,h6,h7⟩
 exact⟨u,v,fm',h3,rfl,h5,h4.ok h6,h7⟩
theorem AP {f:List It->St->Ev}{b:Bool}{t t':List It}{s s':St}{ρ:Type}{A B:Option ρ}{r:ρ} (h:(bif b then A else B)=some r) (h1:b=true->A=some r->AM P n Φ (f t s)) (h2:b=false->B=some r->AM P n Φ (f t' s')):AM P n Φ (two f b t s t' s'):=by
 cases b with
 |true=>exact h1 rfl h
 |false=>exact h2 rfl h
theorem FI {f:List Az->List (De×Rd)->St->CK}{b:Bool}{os ju:List Az}{acc iZ:List (De×Rd)}{st ay:St}{ρ:Type}{A B:Option ρ}{r:ρ} (h:(bif b then A else B)=some r) (h1:b=true->A=some r->DG P T C (f os acc st)) (h2:b=false->B=some r->DG P T C (f ju iZ ay)):DG P T C (rE f b os acc st ju iZ ay):=by
 cases b with
 |true=>exact h1 rfl h
 |false=>exact h2 rfl h
theorem A5 {S E R:Type}{body:S->Option (AN S E R)}{k:Nat}{s0:S}{r:AN S E R} (hk:ai body k s0=some r) (hd:S->St) (ex:E->St) {b:SC}{id:Nat}{todo:List It}{st:St} (hw:Al n st (hd s0))
  (hb:∀ s x (Bk Br:St->Prop),body s=some x->(∀ s' ay,x=.next s'->Al n ay (hd s')->Bk ay)->(∀ s' ay,x=.brk s'->Al n ay (ex s')->Br ay)->(∀ v,x=.ret v->r=.ret v)->
   AK P n Φ (.sc b::.back Bk::.aD id::.back Br::todo) (hd s))
  (hx:∀ s',r=.brk s'->AK P n Φ todo (ex s')):AM P n Φ (.loop b (.aD id::todo) st):=AK.apM hk hd ex hw hb hx
theorem I8 (x:AV):NL x x=True:=eq_true (.refl x)
theorem I9 (x:List AV):AZ x x=True:=eq_true (.refl x)
theorem GU (hT:AX P T) {f:FuncId}{args aE:List AV}{v:AV}{dst:Option Tmp}{drop:List Nat}{todo:List It}{st:St} (m:Nat) (hp:Ay P f aE (fun y=>y=v)) (hz:lh (AV.aQ (Heap.get ([]::st.fr::st.low)) args) aE)
  (hr:(AV.aT args).isEmpty || v.cS=true) (h:AM P n Φ (run T m todo (st.gF dst drop v [] (st.fr::st.low)))):AM P n Φ (.call f args dst drop todo st):=by
 unfold lh at hz
 split at hz
 ·rename_i z eD
  refine IC hT m hp eD hz ?_ h
  simpa using hr
 ·exact hz.elim
theorem Is (hT:AX P T) {f:FuncId}{args aE:List AV}{v:AV}{dst:Option Tmp}{drop:List Nat}{todo:List It}{st:St} (m:Nat) (hp:Ay P f aE (fun y=>y=v)) (hz:lh (AV.dk (Heap.get ([]::st.fr::st.low)) (cZ (Heap.get ([]::st.fr::st.low)) 5) args) aE)
  (hr:v.cS=true) (h:AM P n Φ (run T m todo (st.gF dst drop v [] (st.fr::st.low)))):AM P n Φ (.call f args dst drop todo st):=by
 unfold lh at hz
 split at hz
 ·rename_i z eD
  exact IA hT m hp eD hz hr h
 ·exact hz.elim
theorem GZ {f:FuncId}{args aE:List AV}{v:AV}{o:Az}{os:List Az}{acc:List (De×Rd)}{st:St} (m:Nat) (hp:Ay P f aE (fun y=>y=v)) (hz:lh (AV.aQ st.get args) aE)
  (hr:(AV.aT args).isEmpty || v.cS=true) (h:DG P T C (kU T m os ((⟨v,[]⟩,some (AV.aT args))::acc) (st.by o.dst [] ⟨v,[]⟩))):DG P T C (.call f args o os acc st):=by
 unfold lh at hz
 split at hz
 ·rename_i z eD
  refine IJ m hp eD hz ?_ h
  simpa using hr
 ·exact hz.elim
def wOK (o:Option St) (tm:List (Nat×AV)) (fr:AH) (low:Heap) (nx nt:Nat):Prop:=match o with
 |some s=>BU s.tm tm/\BP s.fr fr/\s.low=low/\s.nx=nx/\s.nt=nt
 |none=>False
theorem ar9 (s:St) (tm:List (Nat×AV)) (fr:AH) (low:Heap) (nx nt:Nat):wOK (some s) tm fr low nx nt=(BU s.tm tm/\BP s.fr fr/\s.low=low/\s.nx=nx/\s.nt=nt):=rfl
theorem Al.go {n:Nat}{st:St}{tm:List (Nat×AV)}{fr:AH}{low:Heap}{nx nt:Nat} (oz ks:List Nat) (bY:(decide ks.Nodup&&decide (ks.length<=nx))=true) (h:wOK (st.norm oz ks nx) tm fr low nx nt):Al n st ⟨tm,fr,low,nx,nt⟩:=by
 unfold wOK at h
 split at h
 ·rename_i s hs
  simp only[Bo,decide_eq_true_eq]at bY
  obtain⟨h1,h2,h3,h4,h5⟩:=h
  refine(Al.norm hs bY.1 bY.2).trans ?_
  obtain⟨tm0,fr0,ata,nx0,nt0⟩:=s
  simp only at h3 h4 h5
  subst h3 h4 h5
  exact Al.nl h1 h2
 ·exact h.elim
theorem I7 (x:List (Nat×AV)):BU x x=True:=eq_true (.refl x)
theorem I6 (x:AH):BP x x=True:=eq_true (.refl x)
theorem bind_some {α β:Type}{o:Option α}{f:α->Option β}{r:β} (h:o.bind f=some r):∃ x,o=some x/\f x=some r:=Option.bind_eq_some_iff.1 h
end
mutual
def AV.fz (k:Nat) (b:AJ):AV->Option AV
 |.ptr 0 k' o=>if k'=k then (match b with|.box ys=>some (.aL ys.length [ys] 0 o)|_=>none) else some (.ptr 0 k' o)
 |.ptr (l+1) k' o=>some (.ptr (l+1) k' o)
 |.loc 0 k' e i n g=>if k'=k then (match b with|.arr _ esz es=>if esz=e/\es.length=g/\i+n<=g then some (.sl e ((es.drop i).take n)) else none|_=>none) else some (.loc 0 k' e i n g)
 |.loc (l+1) k' e i n g=>some (.loc (l+1) k' e i n g)
 |.bz 0 k' e i o g=>if k'=k then none else some (.bz 0 k' e i o g)
 |.bz (l+1) k' e i o g=>some (.bz (l+1) k' e i o g)
 |.bP 0 k' e o n=>if k'=k then none else some (.bP 0 k' e o n)
 |.bP (l+1) k' e o n=>some (.bP (l+1) k' e o n)
 |.fn f x y=>match AV.dD k b x,AV.dD k b y with
  |some x,some y=>some (.fn f x y)
  |_,_=>none
 |.cq t v=>(v.fz k b).map (.cq t)
 |.agg cs=>(AV.dD k b cs).map .agg
 |.aw vs=>(AV.dD k b vs).map .aw
 |.bool b=>some (.bool b)
 |.int k n=>some (.int k n)
 |.str s=>some (.str s)
 |.nil=>some .nil
 |.sl e es=>some (.sl e es)
 |.bQ=>some .bQ
 |.aL e es i o=>some (.aL e es i o)
 |.cg=>some .cg
 |.cj=>some .cj
 |.dead=>some .dead
def AV.dD (k:Nat) (b:AJ):List AV->Option (List AV)
 |[]=>some []
 |x::l=>match x.fz k b,AV.dD k b l with
  |some x,some l=>some (x::l)
  |_,_=>none
end
theorem wz (k:Nat) (b:AJ):∀ (cs ys:List AV),AV.dD k b cs=some ys->ys.length=cs.length/\∀ (i:Nat) (x:AV),cs[i]?=some x->∃ y,ys[i]?=some y/\x.fz k b=some y
 |[],ys,h=>by simp only[AV.dD,oE]at h;subst h;simp
 |x::l,ys,h=>by
  simp only[AV.dD]at h
  split at h
  ·rename_i a c ha hc
   obtain rfl:=oi h
   have ih:=wz k b l c hc
   refine⟨by simp[ih.1],?_⟩
   intro i z hz
   cases i with
   |zero=>simp only[Cl,oE]at hz;subst hz;exact⟨a,by simp,ha⟩
   |succ i=>simp only[Ci]at hz ⊢;exact ih.2 i z hz
  ·cases h
theorem ahR {k:Nat}{b:AJ}{x y:AV} (h:x.fz k b=some y):y.flat=x.flat:=by
 cases x with
 |ptr l k' o=>
  cases l with
  |zero=>
   simp only[AV.fz]at h
   split at h
   ·split at h
    ·obtain rfl:=oi h;rfl
    ·cases h
   ·obtain rfl:=oi h;rfl
  |succ l=>simp only[AV.fz,oE]at h;subst h;rfl
 |loc l k' e i n g=>
  cases l with
  |zero=>
   simp only[AV.fz]at h
   split at h
   ·split at h
    ·split at h
     ·obtain rfl:=oi h;rfl
     ·cases h
    ·cases h
   ·obtain rfl:=oi h;rfl
  |succ l=>simp only[AV.fz,oE]at h;subst h;rfl
 |bz l k' e i o g=>
  cases l with
  |zero=>
   simp only[AV.fz]at h
   split at h
   ·cases h
   ·obtain rfl:=oi h;rfl
  |succ l=>simp only[AV.fz,oE]at h;subst h;rfl
 |bP l k' e o n=>
  cases l with
  |zero=>
   simp only[AV.fz]at h
   split at h
   ·cases h
   ·obtain rfl:=oi h;rfl
  |succ l=>simp only[AV.fz,oE]at h;subst h;rfl
 |fn f a c=>
  simp only[AV.fz]at h
  split at h
  ·obtain rfl:=oi h;rfl
  ·cases h
 |_=>
  first
  |(simp only[AV.fz,oE]at h;subst h;rfl)
  |(simp only[AV.fz,mS]at h;obtain⟨a,_,rfl⟩:=h;rfl)
section
variable [Md] {P:Program}{T:AR}{N0:Nat}{W0:World}{n:Nat}{fm:FM}{ts:List Aw}{H:Heap}{w:World}
noncomputable def nZ (fm:FM) (w:World) (c:Option Nat):FM:=fun b o=>if c=some b then w.cell? ⟨b,o,none⟩ else fm b o
theorem adU (h:HR N0 W0 fm ts H w) (c:Option Nat):Bh fm (nZ fm w c):=by
 intro b o v hv
 unfold nZ
 split
 ·exact h.cV b o v hv
 ·exact hv
theorem HR.fz (h:HR N0 W0 fm ts H w) {k:Nat}{b:AJ} (hk:H.get 0 k=some b) (hz:∀ ys,b=.box ys->AV.aQ (fun _ _=>none) ys=some ys) {gH:List Aw}{x:AV}{v:Value} (hv:VR fm gH x v):
  gH=ts->∀ {y:AV},x.fz k b=some y->VR (nZ fm w (dg (tb ts 0 k))) ts y v:=by
 have hF:=adU h (dg (tb ts 0 k))
 have bG:∀ c o u,dg (tb ts 0 k)=some c->w.cell? ⟨c,o,none⟩=some u->nZ fm w (dg (tb ts 0 k)) c o=some u:=by
  intro c o u hc hu
  unfold nZ;rw[if_pos hc];exact hu
 generalize nZ fm w (dg (tb ts 0 k))=fm' at hF bG
 induction hv with
 |bool b=>intro e y hy;simp only[AV.fz,oE]at hy;subst hy;exact .bool _
 |int k n=>intro e y hy;simp only[AV.fz,oE]at hy;subst hy;exact .int _ _
 |str s=>intro e y hy;simp only[AV.fz,oE]at hy;subst hy;exact .str _
 |nil=>intro e y hy;simp only[AV.fz,oE]at hy;subst hy;exact .nil
 |dn e a cap=>intro _ y hy;simp only[AV.fz,oE]at hy;subst hy;exact .dn _ _ _
 |sl es cb off esz cap u dM h1 h2 h3 h4 _=>intro _ y hy;simp only[AV.fz,oE]at hy;subst hy;exact(VR.sl es cb off esz cap u dM h1 h2 h3 h4 (ts:=ts)).mono hF (AD.refl _)
 |@cW en l k' esz i n g a cp ht hn ha=>
  rintro rfl y hy
  cases l with
  |zero=>
   simp only[AV.fz]at hy
   split at hy
   ·rename_i e;subst e
    have:=h.aD 0 k' b hk
    rw[ht]at this
    cases this
   ·obtain rfl:=oi hy;exact .cW _ _ _ _ _ _ _ _ ht hn ha
  |succ l=>simp only[AV.fz,oE]at hy;subst hy;exact .cW _ _ _ _ _ _ _ _ ht hn ha
 |@cX en l k' esz i n g a cp m' c ht af hn ha=>
  rintro rfl y hy
  cases l with
  |zero=>
   simp only[AV.fz]at hy
   split at hy
   ·rename_i e;subst e
    have hb:=h.aD 0 k' b hk
    rw[ht]at hb
    split at hy
    ·split at hy
     ·rename_i hc
      cases hb with
      |nil et esz=>have:=hc.2.1;simp at this;omega
      |arr et esz es c cap hN h=>have:=hc.2.1;omega
     ·cases hy
    ·cases hy
   ·obtain rfl:=oi hy;exact .cX _ _ _ _ _ _ _ _ _ _ ht af hn ha
  |succ l=>simp only[AV.fz,oE]at hy;subst hy;exact .cX _ _ _ _ _ _ _ _ _ _ ht af hn ha
 |@cH en l k' esz a ht=>
  rintro rfl y hy
  cases l with
  |zero=>
   simp only[AV.fz]at hy
   split at hy
   ·split at hy
    ·split at hy
     ·simp only[List.drop_zero,List.take_zero,oE]at hy;subst hy;exact .dn _ _ _
     ·cases hy
    ·cases hy
   ·obtain rfl:=oi hy;exact .cH _ _ _ _ ht
  |succ l=>simp only[AV.fz,oE]at hy;subst hy;exact .cH _ _ _ _ ht
 |@loc en l k' esz i n g c cap cp a ht hn bU hc ha=>
  rintro rfl y hy
  cases l with
  |succ l=>simp only[AV.fz,oE]at hy;subst hy;exact .loc _ _ _ _ _ _ _ _ _ _ ht hn bU hc ha
  |zero=>
   simp only[AV.fz]at hy
   split at hy
   ·rename_i e;subst e
    have hb:=h.aD 0 k' b hk
    split at hy
    ·rename_i et aU es
     split at hy
     ·rename_i hh
      obtain⟨he,hlen,bT⟩:=hh
      subst he
      simp only[oE]at hy;subst hy
      rw[ht]at hb
      cases hb with
      |arr et _ es c cap hN hA=>
       obtain⟨cells,c1,c2,c3,c4,c5,c6,c7⟩:=hA
       by_cases hn0:n=0
       ·subst hn0
        simp only[List.take_zero]
        exact .dn _ _ _
       ·have gB:=ha (.inl (by omega))
        subst gB
        have hl:((es.drop i).take n).length=n:=by simp;omega
        have key:∀ (j:Nat) (cc:List AV) (o:Nat) (x:AV),((es.drop i).take n)[j]?=some cc->cc[o]?=some x->∃ u,cells[(i+j)*aU+o]?=some u/\x.flat=true/\VR fm [] x u:=by
         intro j cc o x hj ho
         have qK:es[i+j]?=some cc:=by
          rw[Ca]at hj
          split at hj
          ·rw[Cu]at hj;exact hj
          ·cases hj
         have af:i+j<es.length:=(gS.1 qK).1
         have cP:cc.length=aU:=c5 cc (A6 qK)
         have zO:o<aU:=by rw[<-cP];exact(gS.1 ho).1
         have aC:(i+j)*aU+o<cells.size:=by
          rw[c2]
          have:(i+j+1)*aU<=cap*aU:=B7 _ (by omega)
          rw[Nat.add_mul]at this
          omega
         have zi:=BV aC
         have:=c7 (i+j) cc o x _ qK ho zi
         exact⟨_,zi,this.1,this.2⟩
        have eK:=VR.sl (fm:=fm') (ts:=en) ((es.drop i).take n) c (i*aU) aU cp (fun j o=>(cells[(i+j)*aU+o]?).getD default) (by rw[hl];exact⟨bU,by omega⟩)
         (fun cc cP=>c5 cc (Cj (BD cP)))
         (by
          intro j cc o x hj ho
          obtain⟨u,hu,_,_⟩:=key j cc o x hj ho
          refine bG c _ _ (by rw[ht];rfl) ?_
          simp only[World.cell?,c1]
          have:i*aU+(j*aU+o)=(i+j)*aU+o:=by rw[Nat.add_mul];omega
          rw[this,hu]
          simp)
         (fun j cc o x hj ho=>(key j cc o x hj ho).elim fun u hu=>hu.2.1)
         (by
          intro j cc o x hj ho
          obtain⟨u,hu,_,hv⟩:=key j cc o x hj ho
          rw[hu]
          exact hv.mono hF (AD.refl _))
        rw[hl]at eK
        exact eK
     ·cases hy
    ·cases hy
   ·obtain rfl:=oi hy;exact .loc _ _ _ _ _ _ _ _ _ _ ht hn bU hc ha
 |@bP en l k' esz o n c cp a ht hn ha=>
  rintro rfl y hy
  cases l with
  |zero=>
   simp only[AV.fz]at hy
   split at hy
   ·cases hy
   ·obtain rfl:=oi hy;exact .bP _ _ _ _ _ _ _ _ ht hn ha
  |succ l=>simp only[AV.fz,oE]at hy;subst hy;exact .bP _ _ _ _ _ _ _ _ ht hn ha
 |bQ=>intro e y hy;simp only[AV.fz,oE]at hy;subst hy;exact .bQ
 |@ptr en l k' o c ht=>
  rintro rfl y hy
  cases l with
  |succ l=>simp only[AV.fz,oE]at hy;subst hy;exact .ptr _ _ _ _ ht
  |zero=>
   simp only[AV.fz]at hy
   split at hy
   ·rename_i e;subst e
    have hb:=h.aD 0 k' b hk
    split at hy
    ·rename_i ys
     obtain rfl:=oi hy
     rw[ht]at hb
     cases hb with
     |box c _ hN hB=>
      obtain⟨cells,et,c1,c2,c3⟩:=hB
      have hzz:=hz ys rfl
      have g:=Go.Abs.mA _ _ _ hzz
      have one:∀ (i:Nat) (cc:List AV) (o:Nat) (x:AV),[ys][i]?=some cc->cc[o]?=some x->i=0/\cc=ys/\∃ u,cells[o]?=some u/\x.flat=true/\VR fm [] x u:=by
       intro i cc o x hi ho
       cases i with
       |succ i=>simp at hi
       |zero=>
        simp only[Cl,oE]at hi
        subst hi
        have af:o<cells.size:=by rw[c2];exact(gS.1 ho).1
        have sJ:=BV af
        have h3:=c3 o x _ ho sJ
        obtain⟨y,hy1,hy2⟩:=g.2 o x ho
        rw[ho]at hy1
        obtain rfl:=oi hy1
        have h4:=h.ak (N0:=N0) [] (by simpa using h3.2) (adY H.get _ _ hy2) (by rw[adZ _ _ hy2];simp)
        rw[abT]at h4
        exact⟨rfl,rfl,_,sJ,h3.1,h4⟩
      have:=VR.aL (fm:=fm') (ts:=en) [ys] 0 o c 0 ys.length (fun _ o=>(cells[o]?).getD default) (by intro cc cP;simp at cP;rw[cP])
       (by
        intro i cc o x hi ho
        obtain⟨rfl,rfl,u,hu,_,_⟩:=one i cc o x hi ho
        refine bG c _ _ (by rw[ht];rfl) ?_
        simp only[World.cell?,c1,Nat.zero_mul,CA,hu]
        simp)
       (fun i cc o x hi ho=>(one i cc o x hi ho).2.2.elim fun u hu=>hu.2.1)
       (by
        intro i cc o x hi ho
        obtain⟨rfl,rfl,u,hu,_,hv⟩:=one i cc o x hi ho
        rw[hu]
        exact hv.mono hF (AD.refl _))
      simpa using this
    ·cases hy
   ·obtain rfl:=oi hy;exact .ptr _ _ _ _ ht
 |@eY en l k' esz i o g a ht=>
  rintro rfl y hy
  cases l with
  |zero=>
   simp only[AV.fz]at hy
   split at hy
   ·cases hy
   ·obtain rfl:=oi hy;exact .eY _ _ _ _ _ _ _ ht
  |succ l=>simp only[AV.fz,oE]at hy;subst hy;exact .eY _ _ _ _ _ _ _ ht
 |@eZ en l k' esz i o g a m' c ht af=>
  rintro rfl y hy
  cases l with
  |zero=>
   simp only[AV.fz]at hy
   split at hy
   ·cases hy
   ·obtain rfl:=oi hy;exact .eZ _ _ _ _ _ _ _ _ _ ht af
  |succ l=>simp only[AV.fz,oE]at hy;subst hy;exact .eZ _ _ _ _ _ _ _ _ _ ht af
 |@bz en l k' esz i o g c cap ht=>
  rintro rfl y hy
  cases l with
  |zero=>
   simp only[AV.fz]at hy
   split at hy
   ·cases hy
   ·obtain rfl:=oi hy;exact .bz _ _ _ _ _ _ _ _ ht
  |succ l=>simp only[AV.fz,oE]at hy;subst hy;exact .bz _ _ _ _ _ _ _ _ ht
 |aL es i o cb off esz u h1 h2 h3 h4 _=>intro _ y hy;simp only[AV.fz,oE]at hy;subst hy;exact(VR.aL es i o cb off esz u h1 h2 h3 h4 (ts:=ts)).mono hF (AD.refl _)
 |cg=>intro e y hy;simp only[AV.fz,oE]at hy;subst hy;exact .cg
 |fn f first cap vf vc h1 h2 _ _ jL jM=>
  rintro rfl y hy
  simp only[AV.fz]at hy
  split at hy
  ·rename_i a c ha hc
   obtain rfl:=oi hy
   have g1:=wz k b _ _ ha
   have g2:=wz k b _ _ hc
   refine .fn f a c vf vc (by rw[g1.1];exact h1) (by rw[g2.1];exact h2) ?_ ?_
   ·intro i x v hx hv
    have hi:i<first.length:=by rw[<-g1.1];exact(gS.1 hx).1
    obtain⟨y,hy,hu⟩:=g1.2 i _ (gG hi)
    rw[hx]at hy;obtain rfl:=oi hy
    exact jL i _ v (gG hi) hv rfl hu
   ·intro i x v hx hv
    have hi:i<cap.length:=by rw[<-g2.1];exact(gS.1 hx).1
    obtain⟨y,hy,hu⟩:=g2.2 i _ (gG hi)
    rw[hx]at hy;obtain rfl:=oi hy
    exact jM i _ v (gG hi) hv rfl hu
  ·cases hy
 |cj=>intro e y hy;simp only[AV.fz,oE]at hy;subst hy;exact .cj
 |cq t x v _ ih=>
  rintro rfl y hy
  simp only[AV.fz,mS]at hy;obtain⟨z,eD,rfl⟩:=hy
  exact .cq t z v (ih rfl eD)
 |agg cs vs h1 h2 _ ih=>
  rintro rfl y hy
  simp only[AV.fz,mS]at hy;obtain⟨z,eD,rfl⟩:=hy
  have g:=wz k b _ _ eD
  refine .agg z vs (by rw[g.1];exact h1) ?_ ?_
  ·intro x hx
   obtain⟨i,hi⟩:=BH.1 hx
   have af:i<cs.length:=by rw[<-g.1];exact(gS.1 hi).1
   obtain⟨y,hy,hu⟩:=g.2 i _ (gG af)
   rw[hi]at hy;obtain rfl:=oi hy
   rw[ahR hu]
   exact h2 _ (List.getElem_mem af)
  ·intro i x v hx hv
   have af:i<cs.length:=by rw[<-g.1];exact(gS.1 hx).1
   obtain⟨y,hy,hu⟩:=g.2 i _ (gG af)
   rw[hx]at hy;obtain rfl:=oi hy
   exact ih i _ v (gG af) hv rfl hu
 |aw xs vs h1 _ ih=>
  rintro rfl y hy
  simp only[AV.fz,mS]at hy;obtain⟨z,eD,rfl⟩:=hy
  have g:=wz k b _ _ eD
  refine .aw z vs (by rw[g.1];exact h1) ?_
  intro i x v hx hv
  have af:i<xs.length:=by rw[<-g.1];exact(gS.1 hx).1
  obtain⟨y,hy,hu⟩:=g.2 i _ (gG af)
  rw[hx]at hy;obtain rfl:=oi hy
  exact ih i _ v (gG af) hv rfl hu
 |dead v=>intro e y hy;simp only[AV.fz,oE]at hy;subst hy;exact .dead v
def y8 (k:Nat) (b:AJ):List (Nat×AV)->List (Nat×AV)
 |[]=>[]
 |(t,x)::l=>(t,(x.fz k b).getD x)::y8 k b l
def AJ.fz (k:Nat) (b:AJ):AJ->AJ
 |.arr et e es=>.arr et e es
 |.box cs=>.box ((AV.dD k b cs).getD cs)
def sC (k:Nat) (b:AJ):AH->AH
 |[]=>[]
 |(j,x)::l=>if j=k then sC k b l else (j,AJ.fz k b x)::sC k b l
theorem aiM (k:Nat) (b:AJ):∀ (l:List (Nat×AV)) (t:Nat),look (y8 k b l) t=(look l t).map fun x=>(x.fz k b).getD x
 |[],t=>rfl
 |(t0,x)::l,t=>by
  simp only[y8,look]
  split
  ·rfl
  ·exact aiM k b l t
theorem aeF (k:Nat) (b:AJ):∀ (l:AH) (j:Nat),look (sC k b l) j=if j=k then none else (look l j).map (AJ.fz k b)
 |[],j=>by simp[sC,look]
 |(j0,x)::l,j=>by
  simp only[sC]
  by_cases h:j0=k
  ·rw[if_pos h,aeF k b l j]
   by_cases hj:j=k
   ·simp[hj]
   ·have:¬ j0=j:=fun e=>hj (by rw[<-e,h])
    simp[hj,look,this]
  ·rw[if_neg h]
   simp only[look]
   by_cases hj:j0=j
   ·subst hj;simp[h]
   ·simp only[hj,if_false];exact aeF k b l j
theorem HR.aoe (h:HR N0 W0 fm ts H w) {k:Nat}{b:AJ} (hk:H.get 0 k=some b) (hz:∀ ys,b=.box ys->AV.aQ (fun _ _=>none) ys=some ys) {t:Option TB}{x:AJ} (hx:BR fm ts w N0 t x):BR (nZ fm w (dg (tb ts 0 k))) ts w N0 t (AJ.fz k b x):=by
 have hF:=adU h (dg (tb ts 0 k))
 cases hx with
 |nil et esz=>exact .nil et esz
 |arr et esz es c cap hN hA=>exact .arr et esz es c cap hN (hA.mono hF rfl)
 |box c cs hN hB=>
  obtain⟨cells,et,c1,c2,c3⟩:=hB
  simp only[AJ.fz]
  cases hf:AV.dD k b cs with
  |none=>exact .box c _ hN ⟨cells,et,c1,c2,fun o x v a b=>⟨(c3 o x v a b).1,(c3 o x v a b).2.mono hF (AD.refl _)⟩⟩
  |some ys=>
   have g:=wz k b _ _ hf
   refine .box c _ hN ⟨cells,et,c1,by rw[c2];exact g.1.symm,?_⟩
   intro o y v hy hv
   have af:o<cs.length:=by rw[<-g.1];exact(gS.1 hy).1
   obtain⟨y',j4,hu⟩:=g.2 o _ (gG af)
   simp only[Option.getD_some]at hy
   rw[hy]at j4;obtain rfl:=oi j4
   have h3:=c3 o _ v (gG af) hv
   exact⟨by rw[ahR hu];exact h3.1,h.fz hk hz h3.2 rfl hu⟩
theorem Al.fz {n:Nat}{tm:List (Nat×AV)}{fr:AH}{low:Heap}{nx nt:Nat} (k:Nat) {b:AJ} (hk:look fr k=some b) (hz:∀ ys,b=.box ys->AV.aQ (fun _ _=>none) ys=some ys):
  Al n ⟨tm,fr,low,nx,nt⟩ ⟨y8 k b tm,sC k b fr,low,nx,nt⟩:=by
 intro N0 W0 a w fm ts h
 have jH:Heap.get (fr::low) 0 k=some b:=by simpa [Heap.get] using hk
 have hF:=adU h.hr (dg (tb ts 0 k))
 have dQ:=h.hr.aD 0 k b jH
 have src:∀ l j x,Heap.get (sC k b fr::low) l j=some x->∃ x0,Heap.get (fr::low) l j=some x0/\¬ (l=0/\j=k)/\(l=0->x=AJ.fz k b x0)/\(l≠0->x=x0):=by
  intro l j x hx
  cases l with
  |zero=>
   simp only[Heap.get,aeF]at hx
   split at hx
   ·cases hx
   ·rename_i hj
    simp only[mS]at hx
    obtain⟨x0,ek,rfl⟩:=hx
    exact⟨x0,ek,fun hh=>hj hh.2,fun _=>rfl,fun hh=>absurd rfl hh⟩
  |succ l=>exact⟨x,hx,fun hh=>absurd hh.1 (by omega),fun hh=>absurd hh (by omega),fun _=>rfl⟩
 refine⟨nZ fm w (dg (tb ts 0 k)),ts,⟨⟨by simpa using h.hr.len,?_,?_,?_,?_,h.hr.dL,h.hr.size,h.hr.dH⟩,?_,h.nx,h.size,h.fy⟩,⟨⟨hF,?_⟩,AD.refl _,fun _ _ h=>h⟩⟩
 ·intro l j x hx
  obtain⟨x0,ek,ba,h1,h2⟩:=src l j x hx
  have hb:=h.hr.aD l j x0 ek
  cases l with
  |zero=>
   rw[h1 rfl]
   exact h.hr.aoe jH hz hb
  |succ l=>
   rw[h2 (by omega)]
   exact hb.mono hF (AD.refl _) (fun _ _=>rfl)
 ·intro l j l' j' x x' c hx jq
  obtain⟨x0,ek,_⟩:=src l j x hx
  obtain⟨x1,jZ,_⟩:=src l' j' x' jq
  exact h.hr.inj l j l' j' x0 x1 c ek jZ
 ·intro c o v hv
  unfold nZ at hv
  split at hv
  ·exact hv
  ·exact h.hr.cV c o v hv
 ·intro l j x c o hx hc
  obtain⟨x0,ek,ba,_⟩:=src l j x hx
  unfold nZ
  rw[if_neg]
  ·exact h.hr.eR l j x0 c o ek hc
  ·intro e
   exact ba (h.hr.inj l j 0 k x0 b c ek jH hc e)
 ·intro t x hx
  simp only[aiM,mS]at hx
  obtain⟨x0,ek,rfl⟩:=hx
  obtain⟨v,hv,bM⟩:=h.tm t x0 ek
  refine⟨v,hv,?_⟩
  cases hf:x0.fz k b with
  |none=>exact bM.mono hF (AD.refl _)
  |some y=>exact h.hr.fz jH hz bM rfl hf
 ·intro c o hc
  unfold nZ
  rw[if_neg]
  intro e
  have:=(dQ.lt e).2
  omega
end
end Go.Abs
namespace Go.Abs
open Go Go.RowKit
abbrev ab (x:Int):Int:=IntKind.i64.wrap x
def eI (x:Int):List AV:=[.int .i64 x]
def eB (x:Bool):List AV:=[.bool x]
def ae (x:Int):List AV:=[.int .u8 x]
def eS (x:ByteArray):List AV:=[.str x]
def eL {α:Type} (sz:Nat) (E:α->List AV) (l:List α):List AV:=[.sl sz (l.map E)]
structure A2 (α:Type) where
 x0:α
 x1:α
structure A3 (α:Type) where
 x0:α
 x1:α
 x2:α
structure A4 (α:Type) where
 x0:α
 x1:α
 x2:α
 x3:α
def A2.c {α:Type} (E:α->List AV) (a:A2 α):List AV:=E a.x0++E a.x1
def A3.c {α:Type} (E:α->List AV) (a:A3 α):List AV:=E a.x0++(E a.x1++E a.x2)
def A4.c {α:Type} (E:α->List AV) (a:A4 α):List AV:=E a.x0++(E a.x1++(E a.x2++E a.x3))
def at? {α:Type} (l:List α) (i:Int):Option α:=if 0<=i/\i<l.length then l[i.toNat]? else none
def cY {α:Type} (b:Nat) (l x:List α):Option (List α):=if room (l.length+x.length) b then some (l++x) else none
def ck {α:Type} (l:List α) (lo hi:Int):Option (List α):=if (0<=lo/\lo<=hi)/\hi<=l.length then some ((l.drop lo.toNat).take (hi.toNat - lo.toNat)) else none
def pO (y:Int):Option Unit:=if y=0 then none else some ()
def mk? (n:Int) (b:Nat):Option Unit:=if (0<=n/\n<=n)/\n*b<=140737488355328/\n<4611686018427387904 then some () else none
section
variable {α:Type}
theorem agc {l:List α}{i:Int}{x:α} (h:at? l i=some x):0<=i/\i<l.length/\l[i.toNat]?=some x:=by
 unfold at? at h
 split at h
 ·rename_i hh;exact⟨hh.1,hh.2,h⟩
 ·cases h
theorem aI {l:List α}{i:Int}{x:α} (h:at? l i=some x):jt i l.length=some i.toNat:=by
 obtain⟨h1,h2,_⟩:=agc h
 simp[jt,h1,h2]
theorem aH {β:Type} (E:α->β) {l:List α}{i:Int}{x:α} (h:at? l i=some x):(l.map E)[i.toNat]?=some (E x):=by
 obtain⟨_,_,h3⟩:=agc h
 simp[h3]
theorem vN {b:Nat}{l x y:List α} (h:cY b l x=some y):room (l.length+x.length) b/\y=l++x:=by
 unfold cY at h
 split at h
 ·rename_i hh;exact⟨hh,(oi h).symm⟩
 ·cases h
theorem aeZ {y:Int}{u:Unit} (h:pO y=some u):¬ y=0:=by
 unfold pO at h
 split at h
 ·cases h
 ·assumption
theorem acR {l:List α}{lo hi:Int}{y:List α} (h:ck l lo hi=some y):(0<=lo/\lo<=hi/\hi<=l.length)/\y=(l.drop lo.toNat).take (hi.toNat - lo.toNat):=by
 unfold ck at h
 split at h
 ·rename_i hh;exact⟨⟨hh.1.1,hh.1.2,hh.2⟩,(oi h).symm⟩
 ·cases h
theorem amP {n:Nat}{lo hi:Int}{k k':IntKind} (h:0<=lo/\lo<=hi/\hi<=n):bounds n (some (.int k lo)) (some (.int k' hi))=some (lo.toNat,hi.toNat):=by
 have h1:0<=hi:=by omega
 have h2:lo<=max hi 0:=by omega
 simp[bounds,sj,sm,h1,h2,h.1,h.2.2]
theorem agw {n:Nat}{lo:Int}{k:IntKind} (h:0<=lo/\lo<=n/\(n:Int)<=n):bounds n (some (.int k lo)) none=some (lo.toNat,n):=by
 simp[bounds,sj,sm,h.1,h.2.1]
theorem agv {n:Nat}{hi:Int}{k':IntKind} (h:(0:Int)<=0/\0<=hi/\hi<=n):bounds n none (some (.int k' hi))=some (0,hi.toNat):=by
 simp[bounds,sj,sm,h.2.1,h.2.2]
theorem amO {n:Nat}:bounds n none none=some (0,n):=by simp[bounds,sj,sm]
def eO {α:Type} (b:Nat) (l:List α) (x:α):Option (List α):=cY b l [x]
theorem aqN {b:Nat}{l y:List α}{x:α} (h:eO b l x=some y):room (l.length+1) b:=by
 have:=(vN h).1;simpa using this
theorem aqM {β:Type} (E:α->β) {b:Nat}{l y:List α}{x:α} (h:eO b l x=some y):l.map E++[E x]=y.map E:=by
 rw[(vN h).2];simp
theorem ajk {b:Nat}{l y:List α}{x:α} (h:eO b l x=some y):y.length=l.length+1:=by
 rw[(vN h).2];simp
theorem aqO {β:Type} (E:α->β) {b:Nat}{l y:List α}{x:α} (h:eO b l x=some y):(y.map E).take (l.length+1)=y.map E:=by
 rw[Co];simp[ajk h]
theorem amg {b:Nat}{l y x:List α} (h:cY b l x=some y):room (l.length+x.length) b:=(vN h).1
theorem amf {β:Type} (E:α->β) {b:Nat}{l y x:List α} (h:cY b l x=some y):l.map E++x.map E=y.map E:=by
 rw[(vN h).2];simp
theorem af1 {b:Nat}{l y x:List α} (h:cY b l x=some y):y.length=l.length+x.length:=by
 rw[(vN h).2];simp
theorem amh {β:Type} (E:α->β) {b:Nat}{l y x:List α} (h:cY b l x=some y):(y.map E).take (l.length+x.length)=y.map E:=by
 rw[Co];simp[af1 h]
def dI (n b:Nat):Option Unit:=if room n b then some () else none
theorem jv {n b:Nat}{u:Unit} (h:dI n b=some u):room n b:=by
 unfold dI at h
 split at h
 ·assumption
 ·cases h
def dN {α:Type} (l:List α) (i:Int) (x:α):Option (List α):=if 0<=i/\i<l.length then some (l.set i.toNat x) else none
theorem lV {β:Type} (E:α->β) {l y:List α}{i:Int}{x:α} (h:dN l i x=some y):(l.map E).set i.toNat (E x)=y.map E:=by
 unfold dN at h
 split at h
 ·rw[<-oi h,List.map_set]
 ·cases h
theorem kW {l y:List α}{i:Int}{x:α} (h:dN l i x=some y):y.length=l.length:=by
 unfold dN at h
 split at h
 ·rw[<-oi h,C3]
 ·cases h
theorem lW {β:Type} (E:α->β) {l y:List α}{i:Int}{x:α} (h:dN l i x=some y):(y.map E).take l.length=y.map E:=by
 rw[Co];simp[kW h]
theorem vt {l:List α}{lo hi:Int}{y:List α}{k k':IntKind} (h:ck l lo hi=some y):bounds l.length (some (.int k lo)) (some (.int k' hi))=some (lo.toNat,hi.toNat):=amP (acR h).1
theorem tF {l:List α}{lo:Int}{y:List α}{k:IntKind} (h:ck l lo l.length=some y):bounds l.length (some (.int k lo)) none=some (lo.toNat,l.length):=agw (acR h).1
theorem vu {l:List α}{hi:Int}{y:List α}{k:IntKind} (h:ck l 0 hi=some y):bounds l.length none (some (.int k hi))=some (0,hi.toNat):=agv (acR h).1
theorem rA {β:Type} (E:α->β) {l:List α}{lo hi:Int}{y:List α} (h:ck l lo hi=some y):((l.map E).drop lo.toNat).take (hi.toNat - lo.toNat)=y.map E:=by
 rw[(acR h).2,List.map_take,List.map_drop]
theorem xU {β:Type} (E:α->β) {l:List α}{lo:Int}{y:List α} (h:ck l lo l.length=some y):((l.map E).drop lo.toNat).take (l.length - lo.toNat)=y.map E:=by
 have:=rA E h;simpa using this
theorem aaE {β:Type} (E:α->β) {l:List α}{hi:Int}{y:List α} (h:ck l 0 hi=some y):((l.map E).drop 0).take (hi.toNat - 0)=y.map E:=by
 have:=rA E h;simpa using this
def xC (n:Nat) (lo:Int):Option Unit:=if 0<=lo/\lo<=n then some () else none
theorem apN {n:Nat}{lo:Int}{k:IntKind}{u:Unit} (e:xC n lo=some u):bounds n (some (.int k lo)) none=some (lo.toNat,n):=by
 unfold xC at e
 split at e
 ·rename_i h;exact agw ⟨h.1,h.2,Df _⟩
 ·cases e
theorem apO {n:Nat}{lo:Int}{u:Unit} (e:xC n lo=some u):lo.toNat+(n - lo.toNat)<=n:=by
 unfold xC at e
 split at e
 ·omega
 ·cases e
def uT (n:Nat) (hi:Int):Option Unit:=if 0<=hi/\hi<=n then some () else none
theorem ao1 {n:Nat}{hi:Int}{k:IntKind}{u:Unit} (e:uT n hi=some u):bounds n none (some (.int k hi))=some (0,hi.toNat):=by
 unfold uT at e
 split at e
 ·rename_i h;exact agv ⟨Df _,h.1,h.2⟩
 ·cases e
theorem ao2 {n:Nat}{hi:Int}{u:Unit} (e:uT n hi=some u):hi.toNat<=n:=by
 unfold uT at e
 split at e
 ·omega
 ·cases e
theorem we {β:Type} (E:α->β) (l:List α) (a m:Nat):((l.map E).drop a).take m=((l.drop a).take m).map E:=by
 rw[List.map_take,List.map_drop]
theorem um {β:Type} (E:α->β) (l:List α) (m:Nat):(l.map E).take m=(l.take m).map E:=by
 rw[List.map_take]
theorem aeM {n:Int}{b:Nat}{u:Unit} (h:mk? n b=some u):(0<=n/\n<=n)/\n*b<=140737488355328/\n<4611686018427387904:=by
 unfold mk? at h
 split at h
 ·assumption
 ·cases h
theorem arN {β:Type} (E:α->β) (l:List α):(l.map E).take l.length=l.map E:=by
 rw[Co (by simp)]
end
structure Ch (cap:List AV):Prop where
 sh:∀ d,AV.dm d cap=cap
 ak:∀ G,AV.aQ G cap=some cap
 br:∀ G F,AV.dk G F cap=some cap
 refs:AV.aT cap=[]
 imp:∀ k,AV.iS k cap=cap
 aV:∀ ks,AV.dR ks cap=some cap
 un:∀ d,AV.gq d cap=some cap
theorem afl (d:Nat):∀ a b:List AV,AV.dm d (a++b)=AV.dm d a++AV.dm d b
 |[],b=>rfl
 |x::a,b=>by simp only[Bz,AV.dm,afl d a b]
section
variable {P:Program}{T:AR}{n:Nat}{Φ:Exit->St->Prop}
theorem Ag {rs:List ResultVar}{st:St}{v:AV} (h0:st.low=[]) (h1:yOK ((ij T st rs).bind (fun xs=>(cm xs).ak st.get)) v):AM P n (DT T rs fun y=>NL y v) (.fin .ret st):=by
 unfold yOK at h1
 split at h1
 ·rename_i y hy
  obtain⟨xs,h3,h4⟩:=Option.bind_eq_some_iff.1 hy
  exact⟨h0,xs,y,h3,h4,h1⟩
 ·exact h1.elim
theorem Ax {B:St->Prop}{st:St} (h:B st):AM P n Φ (.back B st):=h
end
attribute [go_sem] kU doD ap7 amT arS arQ xe lR acv kQ u0 Int.reduceEq Int.reduceLT Int.reduceLE List.set_cons_zero List.set_cons_succ List.replicate_succ List.replicate_zero CR Nat.zero_lt_succ Bool.not_not y8 sC AV.fz AV.dD AJ.fz Option.getD_some Option.getD_none Nat.sub_zero xJ vj mm yP lA za n5 pj ka lM lJ AV.br AV.dk cZ only List.contains_cons List.contains_nil Bf decide_false Bool.or_true Bool.or_false Bool.and_true BB Bool.and_false Bool.false_and Prod.mk.injEq amO arN afl ar9 asK asl I8 I9 I7 I6 List.isEmpty_nil List.isEmpty_cons Bool.true_or Bool.false_or eI eB ae eS eL A2.c A3.c A4.c St.norm vn lT AV.aV AV.dR rv idx AJ.aV CA Nat.add_zero abL List.reverse_cons List.reverse_nil DJ
section
variable [Md] {P:Program}{T:AR}{n:Nat}{Φ:Exit->St->Prop}
def fB (o:Option (List AV)) (f:Option AH) (dO:List AV) (fr0:AH):Prop:=o=some dO/\f=some fr0
theorem CJ (hT:AX P T) {f:FuncId}{args dO:List AV}{fr0:AH}{y:AV}{fr:AH}{dst:Option Tmp}{drop:List Nat}{todo:List It}{st:St} (m:Nat) (rs gs:List Nat) (hp:Bg P f dO fr0 (fun y' aZ=>y'=y/\aZ=fr))
  (hz:fB (lA gs (only (Heap.get ([]::st.fr::st.low)) (rs.map fun k=>(1,k))) (cZ (only (Heap.get ([]::st.fr::st.low)) (rs.map fun k=>(1,k))) 5) args) (n5 (cM st.fr rs) 0 gs) dO fr0) (bY:(decide gs.Nodup&&decide (gs.length<=16))=true)
  (h:AM P n Φ (run T m todo (st.gF dst drop y fr (cM (cM st.fr rs) gs::st.low)))):AM P n Φ (.call f args dst drop todo st):=by
 have hk:=ik hT m todo _ h
 refine D2 (Bg.used 5 rs gs hp hz.1 hz.2 bY) ?_
 rintro y' aZ H' ⟨⟨rfl,rfl⟩,rfl⟩
 exact hk
theorem Bg.own {f:FuncId}{args:List AV}{fr0:AH}{sz et:Nat}{ls:List (List AV)}
  (hp:Bg P f args fr0 (fun y fr=>∃ m g es,y=.loc 0 0 sz 0 m g/\fr=[(0,.arr et sz es)]/\es.length=g/\m<=g/\es.take m=ls)):
  Bg P f args fr0 (fun y fr=>y=.loc 0 0 sz 0 ls.length ls.length/\fr=[(0,.arr et sz ls)]):=by
 refine⟨hp.1,fun H N0 W0 fm t ts w vs hH ht hv=>Calls.mono (hp.2 H N0 W0 fm t ts w vs hH ht hv) ?_⟩
 rintro e w' ⟨v,y,aZ,fm',t',ts',rfl,⟨m,g,es,rfl,rfl,hg,hm,sQ⟩,cQ,bM,b9,mL,bw,jE⟩
 have hlen:ls.length=m:=by rw[<-sQ,A8];omega
 have hb:=cQ.aD 0 0 _ (show Heap.get ([(0,AJ.arr et sz es)]::H) 0 0=some (.arr et sz es) by rfl)
 obtain⟨x,jZ,qY,hx3⟩:∃ x:TB,BR fm' [] w' N0 (some x) (.arr et sz ls)/\dg (some x)=dg (tb (t'::ts') 0 0)/\∀ en:List Aw,tb en 0 0=some x->VR fm' en (.loc 0 0 sz 0 ls.length ls.length) v:=by
  generalize gC:tb (t'::ts') 0 0=tt at hb
  cases hb with
  |nil=>
   simp at sQ
   subst sQ
   refine⟨.arr 0 none,.nil _ _,rfl,?_⟩
   intro en h1
   cases bM with
   |cW _ _ _ _ _ _ a cp h hn ha=>rw[gC]at h;cases h
   |cX _ _ _ _ _ _ a cp m' c h af hn ha=>rw[gC]at h;cases h;simp at af
   |cH _ _ _ a h=>exact .cH _ _ _ _ h1
   |loc _ _ _ _ _ _ c cap cp a h bT bU cP ha=>rw[gC]at h;cases h
  |arr _ _ _ c cap hN hA=>
   obtain⟨cells,c1,c2,c3,c4,c5,c6,c7⟩:=hA
   refine⟨.arr ls.length (some (c,cap)),.arr et sz ls c cap hN ⟨cells,c1,c2,by omega,c4,?_,c6,?_⟩,rfl,?_⟩
   ·rw[<-sQ];exact fun d hd=>c5 d (BD hd)
   ·intro i cc o x v hi ho hc
    rw[<-sQ,Ca]at hi
    split at hi
    ·exact c7 i cc o x v hi ho hc
    ·cases hi
   ·intro en h1
    cases bM with
    |cW _ _ _ _ _ _ a cp h hn ha=>rw[gC]at h;cases h
    |cX _ _ _ _ _ _ a cp m' c h af hn ha=>
     rw[gC]at h
     simp only[oE,TB.arr.injEq]at h
     omega
    |cH _ _ _ a h=>rw[gC]at h;simp at h
    |loc _ _ _ _ _ _ c' amZ cp a h bT bU cP ha=>
     rw[gC]at h
     simp only[oE,TB.arr.injEq,Prod.mk.injEq]at h
     obtain⟨_,rfl,rfl⟩:=h
     rw[hlen]at h1 ⊢
     exact .loc _ _ _ _ _ _ c cap cp a h1 (by omega) bU cP ha
 have src:∀ l k b,Heap.get ([(0,AJ.arr et sz ls)]::H) l k=some b->(l=0/\k=0/\b=.arr et sz ls)\/(l≠0/\Heap.get ([(0,AJ.arr et sz es)]::H) l k=some b):=by
  intro l k b hg
  cases l with
  |zero=>
   simp only[Heap.get,look]at hg
   split at hg
   ·rename_i e;exact .inl ⟨rfl,e.symm,(oi hg).symm⟩
   ·cases hg
  |succ l=>exact .inr ⟨by omega,by simpa [Heap.get] using hg⟩
 have ai5:Heap.get ([(0,AJ.arr et sz es)]::H) 0 0=some (.arr et sz es):=rfl
 have hT:tb ((fun k=>if k=0 then some x else none)::ts') 0 0=some x:=rfl
 refine⟨v,_,_,fm',fun k=>if k=0 then some x else none,ts',rfl,⟨rfl,rfl⟩,⟨by have:=cQ.len;simpa using this,?_,?_,cQ.cV,?_,cQ.dL,cQ.size,cQ.dH⟩,hx3 _ hT,b9,mL,bw,fun k hk=>by show (if k=0 then some x else none)=none;rw[if_neg (by omega)]⟩
 ·intro l k b hg
  rcases src l k b hg with ⟨rfl,rfl,rfl⟩|⟨hl,bK⟩
  ·rw[hT]
   exact jZ.mono (Bh.refl _) (AD.nil _) (fun _ _=>rfl)
  ·obtain⟨l,rfl⟩:∃ q,l=q+1:=⟨l - 1,by omega⟩
   have:=cQ.aD (l+1) k b bK
   simpa [tb] using this
 ·intro l1 k1 l2 k2 b1 b2 c g1 g2 t1 t2
  have conv:∀ l k b c,Heap.get ([(0,AJ.arr et sz ls)]::H) l k=some b->dg (tb ((fun k=>if k=0 then some x else none)::ts') l k)=some c->∃ b',Heap.get ([(0,AJ.arr et sz es)]::H) l k=some b'/\dg (tb (t'::ts') l k)=some c:=by
   intro l k b c g t
   rcases src l k b g with ⟨rfl,rfl,rfl⟩|⟨hl,bK⟩
   ·rw[hT,qY]at t;exact⟨_,ai5,t⟩
   ·obtain⟨l,rfl⟩:∃ q,l=q+1:=⟨l - 1,by omega⟩
    exact⟨b,bK,by simpa [tb] using t⟩
  obtain⟨b1',g1',t1'⟩:=conv l1 k1 b1 c g1 t1
  obtain⟨b2',g2',t2'⟩:=conv l2 k2 b2 c g2 t2
  exact cQ.inj l1 k1 l2 k2 b1' b2' c g1' g2' t1' t2'
 ·intro l k b c o g t
  rcases src l k b g with ⟨rfl,rfl,rfl⟩|⟨hl,bK⟩
  ·rw[hT,qY]at t;exact cQ.eR 0 0 _ c o ai5 t
  ·obtain⟨l,rfl⟩:∃ q,l=q+1:=⟨l - 1,by omega⟩
   exact cQ.eR (l+1) k b c o bK (by simpa [tb] using t)
def nE (fr:AH) (sz et:Nat) (ls:List (List AV)):Option AV->Prop
 |some (.loc 0 k sz' 0 m g)=>sz'=sz/\(match look fr k with
  |some (.arr qz acS es)=>qz=et/\acS=sz/\es.length=g/\m<=g/\es.take m=ls
  |_=>False)
 |_=>False
theorem C6 {rs:List ResultVar}{H:Heap}{st:St}{sz et:Nat}{ls:List (List AV)} (h0:st.low=H) (h1:nE st.fr sz et ls ((ij T st rs).map cm)):
  AM P n (FN T rs H (fun y fr=>∃ m g es,y=.loc 0 0 sz 0 m g/\fr=[(0,.arr et sz es)]/\es.length=g/\m<=g/\es.take m=ls)) (.fin .ret st):=by
 unfold nE at h1
 split at h1
 ·rename_i k sz' m g hr
  rw[mS]at hr
  obtain⟨xs,h2,h3⟩:=hr
  obtain⟨rfl,h4⟩:=h1
  split at h4
  ·rename_i qz acS es hk
   obtain⟨rfl,rfl,h5,h6,h7⟩:=h4
   refine⟨xs,h2,?_⟩
   rw[h3]
   exact .own [k] (.loc 0 0 acS 0 m g) [(0,.arr qz acS es)] (by simp) (by simp) (by simp[AV.aV,rv,idx]) (by simp[lT,hk,AJ.aV]) ⟨h0,m,g,es,rfl,rfl,h5,h6,h7⟩
  ·exact h4.elim
 ·exact h1.elim
end
attribute [go_sem] BQ
section
variable [Md] {P:Program}{T:AR}{n:Nat}{Φ:Exit->St->Prop}
end
variable [Md]
def ad6 (o:Option AV) (f:Option AH) (y:AV) (fr:AH):Prop:=o=some y/\f=some fr
theorem GW {P:Program}{T:AR}{n:Nat}{rs:List ResultVar}{H:Heap}{st:St}{e:Exit}{y:AV}{fr:AH} (ks:List Nat) (he:e=.ret\/e=.normal) (h0:st.low=H) (hn:(decide ks.Nodup&&decide (ks.length<=16))=true)
  (h1:ad6 ((ij T st rs).bind fun xs=>(cm xs).aV ks) (lT ks st.fr 0 ks) y fr):AM P n (FN T rs H (fun y' aZ=>y'=y/\aZ=fr)) (.fin e st):=by
 obtain⟨h1,h2⟩:=h1
 obtain⟨xs,h3,h4⟩:=Option.bind_eq_some_iff.1 h1
 simp only[Bo,decide_eq_true_eq]at hn
 have:∃ xs,ij T st rs=some xs/\D9 (fun y' aZ H'=>H'=H/\y'=y/\aZ=fr) (cm xs) st:=
  ⟨xs,h3,.own ks y fr hn.1 hn.2 h4 h2 ⟨h0,rfl,rfl⟩⟩
 rcases he with rfl|rfl<;>exact this
theorem Ix {P:Program}{n:Nat}{Φ:Exit->St->Prop}{f:FuncId}{args dO:List AV}{fr0:AH}{y:AV}{fr:AH}{dst:Option Tmp}{drop:List Nat}{todo:List It}{st:St} (rs gs:List Nat) (hp:Bg P f dO fr0 (fun y' aZ=>y'=y/\aZ=fr))
  (hz:fB (lA gs (only (Heap.get ([]::st.fr::st.low)) (rs.map fun k=>(1,k))) (cZ (only (Heap.get ([]::st.fr::st.low)) (rs.map fun k=>(1,k))) 5) args) (n5 (cM st.fr rs) 0 gs) dO fr0) (bY:(decide gs.Nodup&&decide (gs.length<=16))=true)
  (h:AK P n Φ todo (st.gF dst drop y fr (cM (cM st.fr rs) gs::st.low))):AM P n Φ (.call f args dst drop todo st):=by
 refine D2 (Bg.used 5 rs gs hp hz.1 hz.2 bY) ?_
 rintro y' aZ H' ⟨⟨rfl,rfl⟩,rfl⟩
 exact h
end Go.Abs
namespace Go.Abs
attribute [go_sem] List.all_nil List.all_cons List.map_replicate
end Go.Abs
namespace Go.Abs
open Go Go.RowKit
def Reads (B:Nat) (P:Program) (t:TypeId) {α:Type} (E:α->List AV) (Q:α->Prop):Prop:=
 ∀ (w:World) (H:Type) (enc:TypeId×Value->H) (fuel:Nat) (cs:List Value) (x:DataW H×List MemPlace),
  DataW.trod enc P w 0 (fun _=>true) true fuel t cs=some x->(∀ n∈x.1.weights P t,n<=B)->∃ a,Q a/\AG (jD w) [] (E a) cs/\(∀ y∈E a,y.flat=true)
def fL (n:Int):Prop:=-9223372036854775808<=n/\n<=9223372036854775807
section
variable {B:Nat}{P:Program}{t:TypeId}
theorem AG.one {fm:FM}{ts:List Aw}{x:AV}{v:Value} (h:VR fm ts x v):AG fm ts [x] [v]:=by
 refine⟨rfl,?_⟩
 intro i a b h1 h2
 cases i with
 |zero=>cases h1;cases h2;exact h
 |succ i=>simp at h1
theorem Reads.int (ht:P.underlying t=some (.int .i64)):Reads B P t eI fL:=by
 intro w H enc fuel cs x h aC
 cases fuel with
 |zero=>simp[DataW.trod]at h
 |succ n=>
  rw[DataW.trod_step]at h
  unfold DataW.trodStep at h
  rw[ht]at h
  split at h
  case h_2 k k' m e=>
   cases e
   split at h
   ·rename_i hk
    obtain⟨rfl,hw⟩:=hk
    refine⟨m,?_,AG.one (.int _ _),by simp[eI,AV.flat]⟩
    simpa [Lit.wf,IntKind.min,IntKind.max,IntKind.signed,IntKind.bits,fL] using hw
   ·cases h
  all_goals first|(cases h;done)|(rename_i e;cases e;done)
theorem Reads.string (ht:P.underlying t=some .string):Reads B P t eS (fun s=>s.size<=Go.maxLen):=by
 intro w H enc fuel cs x h aC
 cases fuel with
 |zero=>simp[DataW.trod]at h
 |succ n=>
  rw[DataW.trod_step]at h
  unfold DataW.trodStep at h
  rw[ht]at h
  split at h
  case h_4 s e=>
   split at h
   ·rename_i hk
    exact⟨s,hk,AG.one (.str _),by simp[eS,AV.flat]⟩
   ·cases h
  all_goals first|(cases h;done)|(rename_i e;cases e;done)
theorem adx {w:World}{a:Addr}{n:Nat}{cs:List Value} (h:w.cells? 0 a n=some cs):cs.length=n/\∀ o,o<n->∃ v,cs[o]?=some v/\w.cell? (a.add o)=some v:=by
 unfold World.cells? at h
 rw[if_pos (Nat.zero_le _)]at h
 have hl:cs.length=n:=by simpa using mapM_some_length h
 refine⟨hl,fun o ho=>?_⟩
 have hg:=mapM_some_get h o o (by simp[ho])
 have:o<cs.length:=by omega
 rw[gG this]at hg ⊢
 exact⟨_,rfl,hg⟩
theorem aky {H:Type}{e:TypeId}:∀ {ds:List (DataW H)}{d:DataW H},d∈ds->∀ n∈d.weights P e,n∈DataW.weightsAll P e ds
 |d0::ds,d,h,n,hn=>by
  simp only[DataW.weightsAll,A9]
  rcases BF.1 h with rfl|h
  ·exact .inl hn
  ·exact .inr (aky h n hn)
theorem Reads.slice {α:Type}{e:TypeId}{sz bt:Nat}{E:α->List AV}{Q:α->Prop} (ht:P.underlying t=some (.slice e)) (hs:P.cellsOf e=sz) (hbt:P.bytesOf e=bt) (h0:0<sz) (he:Reads B P e E Q):
  Reads B P t (eL sz E) (fun l=>l.length<=Go.maxLen/\l.length*bt<=B/\∀ a∈l,Q a):=by
 intro w H enc fuel cs x h aC
 cases fuel with
 |zero=>simp[DataW.trod]at h
 |succ n=>
  rw[DataW.trod_step]at h
  unfold DataW.trodStep at h
  rw[ht]at h
  split at h
  case h_7 e2 hq=>exact⟨[],⟨by simp,by simp,by simp⟩,AG.one (.dn _ _ _),by simp[eL,AV.flat]⟩
  case h_8 e2 a len cap hq2=>
   cases hq2
   simp only at h
   split at h
   ·rename_i hc
    simp only[mS,Option.bind_eq_some_iff]at h
    obtain⟨elems,gh,rest,_,rfl⟩:=h
    simp only[DataW.weights,ht]at aC
    have hlen:elems.length=len:=by simpa using mapM_some_length gh
    have each:∀ i,i<len->∃ b:α,Q b/\∃ cs',w.cells? 0 (a.add (i*P.cellsOf e)) (P.cellsOf e)=some cs'/\AG (jD w) [] (E b) cs'/\∀ y∈E b,y.flat=true:=by
     intro i hi
     have hg:=mapM_some_get gh i i (by simp[hi])
     have af:i<elems.length:=by omega
     rw[gG af,Option.bind_eq_some_iff]at hg
     obtain⟨cs',h1,h2⟩:=hg
     obtain⟨b,hq,hv,hf⟩:=he w H enc n cs' _ h2 (fun m hm=>aC m (by
      simp only[BF,A9]
      exact .inr (.inl (aky (List.mem_map.2 ⟨elems[i],List.getElem_mem af,rfl⟩) m hm))))
     exact⟨b,hq,cs',h1,hv,hf⟩
    have all:∀ m,m<=len->∃ l:List α,l.length=m/\∀ i (hi:i<l.length),Q l[i]/\∃ cs',w.cells? 0 (a.add (i*P.cellsOf e)) (P.cellsOf e)=some cs'/\AG (jD w) [] (E l[i]) cs'/\∀ y∈E l[i],y.flat=true:=by
     intro m
     induction m with
     |zero=>exact fun _=>⟨[],rfl,fun i hi=>by simp at hi⟩
     |succ m ih=>
      intro hm
      obtain⟨l,hl,h1⟩:=ih (by omega)
      obtain⟨b,hb⟩:=each m (by omega)
      refine⟨l++[b],by simp[hl],fun i hi=>?_⟩
      by_cases him:i<l.length
      ·rw[List.getElem_append_left him];exact h1 i him
      ·have:i=m:=by simp at hi;omega
       subst this
       have cK:(l++[b])[i]=b:=by
        rw[List.getElem_append_right (by omega)];simp[hl]
       rw[cK]
       exact⟨hb.1,hb.2⟩
    obtain⟨l,hl,jF⟩:=all len (AY _)
    have hby:l.length*bt<=B:=by
     have h1:=aC _ (List.mem_cons_self ..)
     simp only[Bu]at h1
     rw[hbt]at h1
     have h2:l.length*bt<=(elems.length+rest.length)*bt:=B7 _ (by omega)
     omega
    refine⟨l,⟨by rw[hl];omega,hby,?_⟩,?_,by simp[eL,AV.flat]⟩
    ·intro b hb
     obtain⟨i,hi,rfl⟩:=List.getElem_of_mem hb
     exact(jF i hi).1
    ·by_cases hz:len=0
     ·subst hz
      have:l=[]:=List.eq_nil_of_length_eq_zero hl
      subst this
      exact AG.one (.dn _ _ _)
     ·
      have pG:a.spot=none:=by
       obtain⟨_,cs',h1,_,_⟩:=jF 0 (by omega)
       obtain⟨_,h3⟩:=adx h1
       obtain⟨v,_,h4⟩:=h3 0 (by omega)
       simp only[Nat.zero_mul,Addr.add,if_true]at h4
       unfold World.cell? at h4
       split at h4
       ·split at h4
        ·cases h4
        ·rename_i hh;simpa using hh
       ·cases h4
      have lE:∀ k,a.add k=⟨a.block,a.off+k,none⟩:=by
       intro k
       unfold Addr.add
       split
       ·rename_i h;subst h;obtain⟨b,o,s⟩:=a;simp only at pG;subst pG;rfl
       ·rfl
      have bG:∀ i (hi:i<l.length) o x,(E l[i])[o]?=some x->∃ v,w.cell? ⟨a.block,a.off+(i*sz+o),none⟩=some v/\VR (jD w) [] x v/\x.flat=true:=by
       intro i hi o y hy
       obtain⟨_,cs',h1,h2,h3⟩:=jF i hi
       obtain⟨h4,h5⟩:=adx h1
       have ho:o<P.cellsOf e:=by
        rw[<-h4,<-h2.1];exact(gS.1 hy).1
       obtain⟨v,h6,h7⟩:=h5 o ho
       refine⟨v,?_,h2.2 o y v hy h6,h3 y (A6 hy)⟩
       rw[lE]at h7
       have:Addr.add ⟨a.block,a.off+i*P.cellsOf e,none⟩ o=⟨a.block,a.off+(i*sz+o),none⟩:=by
        unfold Addr.add
        split
        ·rename_i h;subst h;rw[hs];rfl
        ·simp only[Addr.mk.injEq,true_and,and_true];rw[hs];omega
       rwa [this]at h7
      have ha:a=⟨a.block,a.off,none⟩:=by obtain⟨b,o,s⟩:=a;simp only at pG;subst pG;rfl
      have aoQ:(l.map E).length=len:=by simp[hl]
      have key:VR (jD w) [] (.sl sz (l.map E)) (.slice (some ⟨a.block,a.off,none⟩) (l.map E).length cap):=by
       refine .sl (l.map E) a.block a.off sz cap (fun i o=>(w.cell? ⟨a.block,a.off+(i*sz+o),none⟩).getD default) ⟨by omega,by omega⟩ ?_ ?_ ?_ ?_
       ·intro c hc
        simp only[List.mem_map]at hc
        obtain⟨b,hb,rfl⟩:=hc
        obtain⟨i,hi,rfl⟩:=List.getElem_of_mem hb
        obtain⟨_,cs',h1,h2,_⟩:=jF i hi
        rw[h2.1,(adx h1).1,hs]
       all_goals
        intro i c o y h1 h2
        simp only[BX,mS]at h1
        obtain⟨b,h3,rfl⟩:=h1
        obtain⟨hi,rfl⟩:=gS.1 h3
        obtain⟨v,h4,h5,h6⟩:=bG i hi o y h2
       ·show w.cell? _=_
        rw[h4];rfl
       ·exact h6
       ·simp only[h4,Option.getD_some];exact h5
      rw[aoQ,<-ha]at key
      exact AG.one key
   ·cases h
  all_goals first|(cases h;done)|(rename_i e;cases e;done)
def Bj (B:Nat) (P:Program) (l:List (Nat×TypeId)) (off tot:Nat) {α:Type} (E:α->List AV) (Q:α->Prop):Prop:=
 ∀ (w:World) (H:Type) (enc:TypeId×Value->H) (fuel:Nat) (cs:List Value) (xs:List (DataW H×List MemPlace)),cs.length=tot->
  l.mapM (fun f=>DataW.trod enc P w 0 (fun _=>true) true fuel f.2 ((cs.drop f.1).take (P.cellsOf f.2)))=some xs->(∀ n∈DataW.weightsEach P (l.map (·.2)) (xs.map (·.1)),n<=B)->∃ a,Q a/\AG (jD w) [] (E a) (cs.drop off)/\(∀ y∈E a,y.flat=true)
theorem Bj.nil {off tot:Nat} (h:tot<=off):Bj B P [] off tot (fun _:Unit=>[]) (fun _=>True):=by
 intro w H enc fuel cs xs hl _ _
 refine⟨(),trivial,⟨?_,?_⟩,by simp⟩
 ·simp;omega
 ·intro i x v h1;simp at h1
theorem Bj.cons {α β:Type}{f:Nat×TypeId}{l:List (Nat×TypeId)}{off sz off' tot:Nat}{E:α->List AV}{Q:α->Prop}{E':β->List AV}{Q':β->Prop} (ho:f.1=off) (hs:P.cellsOf f.2=sz) (ho':off+sz=off') (hr:Reads B P f.2 E Q) (hl:Bj B P l off' tot E' Q'):
  Bj B P (f::l) off tot (fun p:α×β=>E p.1++E' p.2) (fun p=>Q p.1/\Q' p.2):=by
 intro w H enc fuel cs xs hc h aC
 rw[List.mapM_cons]at h
 simp only[Option.pure_def,Option.bind_eq_bind,Option.bind_eq_some_iff]at h
 obtain⟨x,h1,ys,h2,hx⟩:=h
 obtain rfl:=oi hx
 simp only[List.map_cons,DataW.weightsEach,A9]at aC
 obtain⟨a,q1,v1,f1⟩:=hr w H enc fuel _ _ h1 (fun n hn=>aC n (.inl hn))
 obtain⟨b,q2,v2,f2⟩:=hl w H enc fuel cs ys hc h2 (fun n hn=>aC n (.inr hn))
 refine⟨(a,b),⟨q1,q2⟩,?_,?_⟩
 ·have:cs.drop off=(cs.drop f.1).take (P.cellsOf f.2)++cs.drop off':=by
   rw[ho,hs,<-ho',<-List.drop_drop,CY]
  rw[this]
  exact v1.append v2
 ·intro y hy
  rcases A9.1 hy with hy|hy
  ·exact f1 y hy
  ·exact f2 y hy
theorem aeJ {α β γ:Type} (g:α->β) (f:β->Option γ):∀ l:List α,(l.map g).mapM f=l.mapM (fun x=>f (g x))
 |[]=>rfl
 |x::l=>by rw[List.map_cons,List.mapM_cons,List.mapM_cons,aeJ g f l]
theorem Reads.struct {α:Type}{fs:Array Field}{E:α->List AV}{Q:α->Prop}{tot:Nat} (ht:P.underlying t=some (.struct fs)) (hs:P.cellsOf t=tot) (hr:Bj B P (fs.toList.map fun f=>(f.offset,f.type)) 0 tot E Q):Reads B P t E Q:=by
 intro w H enc fuel cs x h aC
 cases fuel with
 |zero=>simp[DataW.trod]at h
 |succ n=>
  rw[DataW.trod_step]at h
  unfold DataW.trodStep at h
  rw[ht]at h
  split at h
  case h_9 c0 x0 c1 fs2 hq=>
   cases hq
   split at h
   ·rename_i hl
    simp only[mS]at h
    obtain⟨xs,h1,rfl⟩:=h
    have:=hr w H enc n c0 xs (by omega) (by rw[aeJ];exact h1) (fun m hm=>aC m (by simp only[DataW.weights,ht];simpa [List.map_map,Function.comp_def] using hm))
    simpa using this
   ·cases h
  all_goals first|(cases h;done)|(rename_i e;cases e;done)|(simp_all;done)
theorem akz {H:Type}{e:TypeId}{m:Nat}:∀ (l:List Nat) (ds:List (DataW H)),m∈DataW.weightsEach P (l.map fun _=>e) ds->m∈DataW.weightsAll P e ds
 |[],_,h=>by simp[DataW.weightsEach]at h
 |_::_,[],h=>by simp[DataW.weightsEach]at h
 |_::l,d::ds,h=>by
  simp only[List.map_cons,DataW.weightsEach,A9]at h
  simp only[DataW.weightsAll,A9]
  rcases h with h|h
  ·exact .inl h
  ·exact .inr (akz l ds h)
theorem Reads.array {α:Type}{m:Nat}{e:TypeId}{E:α->List AV}{Q:α->Prop}{tot:Nat} (ht:P.underlying t=some (.array m e)) (hs:P.cellsOf t=tot) (hr:Bj B P ((List.range m).map fun i=>(i*P.cellsOf e,e)) 0 tot E Q):Reads B P t E Q:=by
 intro w H enc fuel cs x h aC
 cases fuel with
 |zero=>simp[DataW.trod]at h
 |succ n=>
  rw[DataW.trod_step]at h
  unfold DataW.trodStep at h
  rw[ht]at h
  split at h
  case h_10 c0 x0 c1 m2 e2 hq=>
   cases hq
   split at h
   ·rename_i hl
    simp only[mS]at h
    obtain⟨xs,h1,rfl⟩:=h
    have:=hr w H enc n c0 xs (by omega) (by rw[aeJ];exact h1) (fun n0 hm=>aC n0 (by simp only[DataW.weights,ht];exact akz (List.range m) _ (by simpa [List.map_map,Function.comp_def] using hm)))
    simpa using this
   ·cases h
  all_goals first|(cases h;done)|(rename_i e;cases e;done)|(simp_all;done)
theorem Reads.as {α β:Type}{E:α->List AV}{Q:α->Prop}{E':β->List AV}{Q':β->Prop} (hr:Reads B P t E Q) (g:α->β) (hE:∀ a,E' (g a)=E a) (hQ:∀ a,Q a->Q' (g a)):Reads B P t E' Q':=by
 intro w H enc fuel cs x h aC
 obtain⟨a,h1,h2,h3⟩:=hr w H enc fuel cs x h aC
 exact⟨g a,hQ a h1,by rw[hE];exact h2,by rw[hE];exact h3⟩
theorem amk {α:Type}{E:α->List AV}{Q:α->Prop}{w:World}{H:Type}{enc:TypeId×Value->H}{v:Value}{d:DataW H}{ps:List MemPlace} (hr:Reads B P t E Q) (hv:∃ cs,v=.agg cs) (h:DataW.Trod enc P w 0 (fun _=>true) true t v d ps) (aC:∀ n∈d.weights P t,n<=B):
  ∃ a,Q a/\VR (jD w) [] (.agg (E a)) v:=by
 obtain⟨cs,rfl⟩:=hv
 obtain⟨fuel,h⟩:=h
 obtain⟨a,h1,h2,h3⟩:=hr w H enc fuel _ _ h aC
 exact⟨a,h1,.agg _ _ (by simpa [Value.cells] using h2.1) h3 (fun i x v hx hv=>h2.2 i x v hx (by simpa [Value.cells] using hv))⟩
theorem aml {α:Type}{E:α->List AV}{Q:α->Prop}{w:World}{H:Type}{enc:TypeId×Value->H}{v:Value}{d:DataW H}{ps:List MemPlace} (hr:Reads B P t E Q) (hv:v.cells=#[v]) (F:α->AV) (hF:∀ a,E a=[F a]) (h:DataW.Trod enc P w 0 (fun _=>true) true t v d ps) (aC:∀ n∈d.weights P t,n<=B):
  ∃ a,Q a/\VR (jD w) [] (F a) v:=by
 obtain⟨fuel,h⟩:=h
 rw[hv]at h
 obtain⟨a,h1,h2,_⟩:=hr w H enc fuel _ _ h aC
 rw[hF]at h2
 exact⟨a,h1,h2.2 0 _ _ rfl rfl⟩
end
theorem apz {W W':World} (h:Below W.heap.size W W') (may:MemPlace->Prop):W.keptBut W' may:=by
 refine⟨h.os,h.output,fun i hi=>?_⟩
 have hb:=h.block i hi
 have:∃ o,W.heap[i]?=some o:=⟨_,BV hi⟩
 obtain⟨o,ho⟩:=this
 rw[hb,ho]
 cases o with
 |cells c t fr=>exact⟨rfl,rfl,rfl,fun _ _=>rfl⟩
 |map es clock=>exact .inr ⟨rfl,rfl⟩
 |_=>rfl
theorem ark {W W':World} (h:Below W.heap.size W W') (p:MemPlace) (hp:p.block<W.heap.size):W.sameAt W' p:=by
 cases p with
 |cell b off=>
  have hb:=h.block b hp
  show W'.cell? _=W.cell? _
  unfold World.cell?
  simp only[hb]
 |map b=>exact h.block b hp
section
variable {H:Type}{enc:TypeId×Value->H}{P:Program}
theorem asc {ts us:List TypeId}{ds gs:List (DataW H)} (hl:ds.length=ts.length) (h:(DataW.weightsEach P (ts++us) (ds++gs)).all (·<=reachBytes)=true) (j:Nat) (t:TypeId) (d:DataW H) (ht:ts[j]?=some t) (hd:ds[j]?=some d):∀ n∈d.weights P t,n<=reachBytes:=by
 intro n hn
 have h1:j<ts.length:=(gS.1 ht).1
 have:=List.all_eq_true.1 h n (DataW.weights_mem_each (j:=j) (by rw[CL h1];exact ht) (by rw[CL (by omega)];exact hd) n hn)
 simpa using this
theorem akc {w w':World}{base:Nat}{spare:Nat->Bool}{held:Bool}:∀ {ts:List TypeId}{vs:List Value}{ds:List (DataW H)}{ps:List MemPlace},DataW.TrodAll enc P w base spare held ts vs ds ps->(∀ p∈ps,w.sameAt w' p)->DataW.TrodAll enc P w' base spare held ts vs ds ps
 |[],[],[],_,h,_=>h
 |_::_,_::_,_::_,_,⟨p,q,⟨n,h1⟩,h2,e⟩,hs=>
  ⟨p,q,⟨n,DataW.trod_carry n _ _ _ h1 (fun x hx=>hs x (by rw[e];exact List.mem_append_left _ hx))⟩,akc h2 (fun x hx=>hs x (by rw[e];exact List.mem_append_right _ hx)),e⟩
theorem apJ {f:Func}{s:ChangeSpec}{W W':World}{args:Array Value}{ds gs:List (DataW H)}{before:List MemPlace}{t:TypeId} (hl:laidOutB P=true) (hm:mapsRowed P=true)
  (hz:((List.range P.types.size).all fun t=>match P.underlying t with|some (.slice e)=>decide (0<P.cellsOf e)|_=>true)=true)
  (hW:DataW.Whole enc P f.params.toList s.vars false W args.toList ds gs before) (bq:s.vars=[]) (hB:Below W.heap.size W W') (aoY:∀ t∈f.params.toList,t<P.types.size) (hrt:f.resultTypes=#[t]) (ht:P.underlying t=some .bool)
  (uI:s.fn H (ds++gs)={ results:=[.lit (.bool true)],args:=ds }):s.post enc P f false true false false W args (.bool true) W':=by
 have af:=hW.lt
 have hW0:=hW
 obtain⟨p,q,hA,hV,zQ,_,_⟩:=hW
 rw[bq]at hV
 obtain⟨rfl,rfl⟩:gs=[]/\q=[]:=by
  cases gs with
  |nil=>exact⟨rfl,hV⟩
  |cons g gs=>exact hV.elim
 have hp:∀ x∈p,x.block<W.heap.size:=fun x hx=>af x (by rw[zQ];simp[hx])
 refine⟨ds,[],before,[],p,[],hW0,?_,?_,?_,apz hB _,by simp⟩
 ·rw[uI,hrt]
  exact⟨[],[],⟨1,by simp[DataW.trod_step,DataW.trodStep,ht,Value.cells]⟩,rfl,rfl⟩
 ·rw[uI]
  exact DataW.TrodAll.respare (kids_rows hl hm) (fun t e h1 h2=>slices_full_of P hz t e h1 h2) aoY (akc hA (fun x hx=>ark hB x (hp x hx))) (fun x hx=>by simpa using hp x hx)
 ·rw[uI,bq]
  rfl
end
end Go.Abs
namespace Go.Abs
open Go
def og (d:Nat) (o:Op) (t a:Nat) (b:Bool) (l:List Nat):Az:=⟨some d,o,t,some (a,b),l⟩
def oq (d:Nat) (o:Op) (t:Nat) (l:List Nat):Az:=⟨some d,o,t,none,l⟩
def mv (d s t:Nat) (l:List Nat):Az:=⟨some d,.move (.tmp s),t,none,l⟩
def ld (d t s:Nat) (l:List Nat):Az:=⟨some d,.load t (.tmp s),t,none,l⟩
def fa (d t s i:Nat) (l:List Nat):Az:=⟨some d,.fieldAddr t (.tmp s) i,0,none,l⟩
def ia (d t s i:Nat) (l:List Nat):Az:=⟨some d,.indexAddr t (.tmp s) (.tmp i),0,none,l⟩
def sg (d s t:Nat) (l:List Nat):Az:=⟨some d,.assign (.tmp s),t,none,l⟩
def sn (d:Nat) (n:Int) (t:Nat) (l:List Nat):Az:=⟨some d,.assign (.const (.int .i64 n)),t,none,l⟩
def sb (d:Nat) (b:Bool) (t:Nat) (l:List Nat):Az:=⟨some d,.assign (.const (.bool b)),t,none,l⟩
def xt (d s i t:Nat) (l:List Nat):Az:=⟨some d,.extract (.tmp s) i,t,none,l⟩
def ln (d s u t:Nat) (l:List Nat):Az:=⟨some d,.call ⟨.builtin .len,#[.tmp s],#[u]⟩,t,none,l⟩
def cf1 (d f a ta t:Nat) (l:List Nat):Az:=⟨some d,.call ⟨.value (.func f),#[.tmp a],#[ta]⟩,t,none,l⟩
def cf2 (d f a b ta tb t:Nat) (l:List Nat):Az:=⟨some d,.call ⟨.value (.func f),#[.tmp a,.tmp b],#[ta,tb]⟩,t,none,l⟩
def b2 (d:Nat) (o:BinOp) (u a b v t:Nat) (l:List Nat):Az:=⟨some d,.binOp o u (.tmp a) (.tmp b) v,t,none,l⟩
def bn (d:Nat) (o:BinOp) (u a:Nat) (n:Int) (v t:Nat) (l:List Nat):Az:=⟨some d,.binOp o u (.tmp a) (.const (.int .i64 n)) v,t,none,l⟩
attribute [go_sem] og oq mv ld fa ia sg sn sb xt ln cf1 cf2 b2 bn
theorem aa {α:Type}{l:List α}{i:Int}{x:α} (h:at? l i=some x):jt i l.length=some i.toNat/\∀ (β:Type) (E:α->β),(l.map E)[i.toNat]?=some (E x):=⟨aI h,fun _ E=>aH E h⟩
theorem bs {α β:Type}{o:Option α}{f:α->Option β}{r:β} (h:o.bind f=some r):∃ x,o=some x/\f x=some r:=bind_some h
end Go.Abs
