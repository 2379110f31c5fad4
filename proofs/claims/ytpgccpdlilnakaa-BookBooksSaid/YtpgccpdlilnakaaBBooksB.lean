/-
  Part 2 of the proof: a machine over named blocks, what each function computes, and what follows. No condition.
-/
import Derived.Orders
import Derived.Shelf.Sort.Plain
import Derived.Shelf.Slices.In.SortNone
import Derived.ReadAgain
import Derived.ChangeSame
import Derived.SizedLaws
import Derived.OpenShut
import Derived.ProofKit
import Derived.Test.YtpgccpdlilnakaaBBooksA
set_option linter.unusedVariables false
set_option linter.unusedSimpArgs false
set_option linter.all false
namespace Go.Abs
open Go Go.RowKit
mutual
def AV.imp (kb:Nat):AV->AV
 |.loc l k e i n g=>.loc (l - 1) (if l=0 then kb+k else k) e i n g
 |.bd l k e o n=>.bd (l - 1) (if l=0 then kb+k else k) e o n
 |.ptr l k o=>.ptr (l - 1) (if l=0 then kb+k else k) o
 |.aR l k e i o g=>.aR (l - 1) (if l=0 then kb+k else k) e i o g
 |.fn f a b=>.fn f (AV.fF kb a) (AV.fF kb b)
 |.bA t v=>.bA t (v.imp kb)
 |.agg cs=>.agg (AV.fF kb cs)
 |.ak vs=>.ak (AV.fF kb vs)
 |.bool b=>.bool b
 |.int k n=>.int k n
 |.str s=>.str s
 |.nil=>.nil
 |.sl e es=>.sl e es
 |.bf=>.bf
 |.aq e es i o=>.aq e es i o
 |.bo=>.bo
 |.bp=>.bp
 |.mp r_=>.mp r_
 |.dead=>.dead
def AV.fF (kb:Nat):List AV->List AV
 |[]=>[]
 |x::l=>x.imp kb::AV.fF kb l
end
def Ap.imp (kb:Nat):Ap->Ap
 |.arr et e es=>.arr et e es
 |.box cs=>.box (AV.fF kb cs)
def kf (kb:Nat):Aj->Aj->Aj
 |[],f=>f
 |(c,b)::R,f=>ins (kf kb R f) (kb+c) (b.imp kb)
def St.ga (st:St) (dst:Option Tmp) (drop:List Nat) (v:AV) (R:Aj):Heap->St
 |[]=>st
 |f::H=>⟨cd (kr st.tm dst (v.imp st.nx)) drop,kf st.nx R f,H,st.nx+16,st.nt⟩
def cj:Ah:=fun _=>none
def Enters (P : Program) (f : FuncId) : Prop := ∃ fn, P.funcs[f]? = some fn ∧ (fn.name == "runtime.NumGoroutine") = false ∧ fn.body.isNone = false
def BO (P:Program) (f:FuncId) (args:List AV) (H:Heap) (R:AV->Aj->Heap->Prop):Prop:=
 Enters P f/\∀ N0 W0 fm ts w vs,HR N0 W0 fm ts H w->Am fm (cj::ts) args vs->
  Calls P f vs.toArray w fun e w'=>∃ v av aH H' fm' t' ts',e=.returned v/\R av aH H'/\H'.length=H.length/\HR N0 W0 fm' (t'::ts') (aH::H') w'/\VR fm' (t'::ts') av v/\Ax N0 fm fm'/\Ak ts ts'/\
   (∀ l k,tb ts l k=none->tb ts' l k=none)/\∀ k,16<=k->t' k=none
def Cq (P:Program) (f:FuncId) (args:List AV) (H:Heap) (R:AV->Aj->Heap->Prop) (Rp:List PanicEntry->Heap->Prop):Prop:=
 Enters P f/\∀ N0 W0 fm ts w vs,HR N0 W0 fm ts H w->Am fm (cj::ts) args vs->
  Calls P f vs.toArray w fun e w'=>(∃ v av aH H' fm' t' ts',e=.returned v/\R av aH H'/\H'.length=H.length/\HR N0 W0 fm' (t'::ts') (aH::H') w'/\VR fm' (t'::ts') av v/\Ax N0 fm fm'/\Ak ts ts'/\
   (∀ l k,tb ts l k=none->tb ts' l k=none)/\∀ k,16<=k->t' k=none)\/
   ∃ ch H' fm' ts',e=.panicked ch/\Rp ch H'/\H'.length=H.length/\HR N0 W0 fm' ts' H' w'/\Ax N0 fm fm'/\Ak ts ts'/\∀ l k,tb ts l k=none->tb ts' l k=none
theorem BO.toP {P:Program}{f:FuncId}{args:List AV}{H:Heap}{R:AV->Aj->Heap->Prop} (h:BO P f args H R):Cq P f args H R (fun _ _=>False):=
 ⟨h.1,fun N0 W0 fm ts w vs a b=>(h.2 N0 W0 fm ts w vs a b).mono fun _ _ q=>.inl q⟩
section
variable [Md]
def B2 (n:Nat) (st:St) (args:List AV) (al:St) (af3:List AV):Prop:=
 ∀ N0 W0 a w fm ts vs,SR N0 W0 n st a w fm ts->Am fm (cj::ts) args vs->∃ fm' ts',SR N0 W0 n al a w fm' ts'/\AT N0 fm ts fm' ts'/\Am fm' (cj::ts') af3 vs
theorem B2.refl (n:Nat) (st:St) (args:List AV):B2 n st args st args:=fun _ _ _ _ fm ts _ h hv=>⟨fm,ts,h,AT.refl _ _,hv⟩
def AK (P:Program) (n:Nat) (Φ:Exit->St->Prop) (todo:List It) (st:St):Prop:=
 ∀ N0 W0 fm ts a w ct Q,SR N0 W0 n st a w fm ts->A0 N0 W0 n fm ts todo ct->
  (∀ e al a' w' fm' ts',Φ e al->SR N0 W0 n al a' w' fm' ts'->AT N0 fm ts fm' ts'->Q e a' w')->K P Q ct .normal a w
def Ar (P:Program) (n:Nat) (Φ:Exit->St->Prop):Ev->Prop
 |.stuck=>False
 |.fin e st=>Φ e st
 |.back B st=>B st
 |.call f args dst drop todo st=>∃ eC fh R Rp,B2 n st args eC fh/\Cq P f fh (eC.fr::eC.low) R Rp/\(∀ v fr H,R v fr H->AK P n Φ todo (eC.ga dst drop v fr H))/\∀ ch H,Rp ch H->Φ (.panic ch) (eC.qm H)
 |.loop b todo st=>AK P n Φ (.sc (.loop b)::todo) st
 |.throw v st=>∃ t x,v=.bA t x/\∀ fm ts u,VR fm ts x u->Φ (.panic [{ v:=.iface t u,recovered:=false }]) st
 |.either es t s1 s2=>(es=[]->AK P n Φ t s1)/\AK P n Φ t s2
 |.draw ops nA drop todo st=>AK P n Φ (.sc (.bB ops nA drop)::todo) st
 |.mark b todo st=>AK P n Φ (.sc b::todo) st
end
theorem kX (kb:Nat):∀ cs:List AV,(AV.fF kb cs).length=cs.length
 |[]=>rfl
 |x::l=>by simp[AV.fF,kX kb l]
theorem jG (kb:Nat):∀ (cs:List AV) (i:Nat),(AV.fF kb cs)[i]?=(cs[i]?).map (AV.imp kb)
 |[],i=>by simp[AV.fF]
 |x::l,0=>by simp[AV.fF]
 |x::l,i+1=>by simp[AV.fF,jG kb l i]
theorem xJ (kb:Nat) (x:AV):(x.imp kb).flat=x.flat:=by
 cases x<;>simp[AV.imp,AV.flat]
def iK (kb:Nat) (t' h:Ah):Ah:=fun k=>if kb<=k then t' (k - kb) else h k
theorem nm {kb:Nat}{t' h:Ah}{rest:List Ah} (hn:∀ k,kb<=k->h k=none) {l k:Nat}{x:TB} (e:tb (t'::h::rest) l k=some x):
  tb (iK kb t' h::rest) (l - 1) (if l=0 then kb+k else k)=some x:=by
 cases l with
 |zero=>simpa [tb,iK] using e
 |succ l=>
  cases l with
  |zero=>
   simp only[tb]at e
   have hk:¬ kb<=k:=fun hk=>by rw[hn k hk]at e;cases e
   simp[tb,iK,hk,e]
  |succ l=>simpa [tb] using e
theorem VR.imp {fm:FM}{kb:Nat}{t' h:Ah}{rest:List Ah} (hn:∀ k,kb<=k->h k=none) {ec:List Ah}{x:AV}{v:Value} (hv:VR fm ec x v):ec=t'::h::rest->VR fm (iK kb t' h::rest) (x.imp kb) v:=by
 induction hv with
 |bool b=>intro _;exact .bool b
 |int k n=>intro _;exact .int k n
 |str s=>intro _;exact .str s
 |nil=>intro _;exact .nil
 |cm e a cap=>intro _;exact .cm e a cap
 |sl es cb off esz cap u cD h1 h2 h3 h4 _=>intro _;exact .sl es cb off esz cap u cD h1 h2 h3 h4
 |bW l k esz i n g a cp h cR ha=>rintro rfl;exact .bW _ _ esz i n g a cp (nm hn h) cR ha
 |bX l k esz i n g a cp m' c h ab cR ha=>rintro rfl;exact .bX _ _ esz i n g a cp m' c (nm hn h) ab cR ha
 |bI l k esz a h=>rintro rfl;exact .bI _ _ esz a (nm hn h)
 |loc l k esz i n g c cap cp a h cR bh hc ha=>rintro rfl;exact .loc _ _ esz i n g c cap cp a (nm hn h) cR bh hc ha
 |bd l k esz o n c cp a h cR ha=>rintro rfl;exact .bd _ _ esz o n c cp a (nm hn h) cR ha
 |bf=>intro _;exact .bf
 |ptr l k o c h=>rintro rfl;exact .ptr _ _ o c (nm hn h)
 |dF l k esz i o g a h=>rintro rfl;exact .dF _ _ esz i o g a (nm hn h)
 |dG l k esz i o g a m' c h ab=>rintro rfl;exact .dG _ _ esz i o g a m' c (nm hn h) ab
 |aR l k esz i o g c cap h=>rintro rfl;exact .aR _ _ esz i o g c cap (nm hn h)
 |aq es i o cb off esz u h1 h2 h3 h4 _=>intro _;exact .aq es i o cb off esz u h1 h2 h3 h4
 |bo=>intro _;exact .bo
 |fn f first cap vf vc h1 h2 _ _ fE eP=>
  intro e
  simp only[AV.imp]
  refine .fn f _ _ vf vc (by rw[kX];exact h1) (by rw[kX];exact h2) ?_ ?_
  ·intro i x v hx hv
   rw[jG,mS]at hx
   obtain⟨y,hy,rfl⟩:=hx
   exact fE i y v hy hv e
  ·intro i x v hx hv
   rw[jG,mS]at hx
   obtain⟨y,hy,rfl⟩:=hx
   exact eP i y v hy hv e
 |bp=>intro _;exact .bp
 |mp r_=>intro _;exact .mp r_
 |bA t x v _ ih=>intro e;exact .bA t _ v (ih e)
 |agg cs vs h1 h2 _ ih=>
  intro e
  simp only[AV.imp]
  refine .agg _ vs (by rw[kX];exact h1) ?_ ?_
  ·intro x hx
   obtain⟨i,hi⟩:=Bl.1 hx
   rw[jG,mS]at hi
   obtain⟨y,hy,rfl⟩:=hi
   rw[xJ];exact h2 y (Ba hy)
  ·intro i x v hx hv
   rw[jG,mS]at hx
   obtain⟨y,hy,rfl⟩:=hx
   exact ih i y v hy hv e
 |ak xs vs h1 _ ih=>
  intro e
  simp only[AV.imp]
  refine .ak _ vs (by rw[kX];exact h1) ?_
  intro i x v hx hv
  rw[jG,mS]at hx
  obtain⟨y,hy,rfl⟩:=hx
  exact ih i y v hy hv e
 |dead v=>intro _;exact .dead v
theorem aaG (kb:Nat) (f:Aj):∀ (R:Aj) (k:Nat),look (kf kb R f) k=if kb<=k then (match look R (k - kb) with|some b=>some (b.imp kb)|none=>look f k) else look f k
 |[],k=>by simp[kf,look]
 |(c,b)::R,k=>by
  have ih:=aaG kb f R k
  simp only[kf,oo,ih,look]
  by_cases hk:kb+c=k
  ·subst hk
   simp
  ·by_cases hkb:kb<=k
   ·have:¬ c=k - kb:=by omega
    simp[hk,hkb,this]
   ·simp[hk,hkb]
theorem HR.imp {N0:Nat}{W0:World}{fm:FM}{t' h:Ah}{rest:List Ah}{R f:Aj}{H:Heap}{w:World} (hr:HR N0 W0 fm (t'::h::rest) (R::f::H) w) {kb:Nat} (hn:∀ k,kb<=k->h k=none):
  HR N0 W0 fm (iK kb t' h::rest) (kf kb R f::H) w:=by
 have hT:Ak (h::rest) (iK kb t' h::rest):=by
  intro l k
  cases l with
  |zero=>
   simp only[tb,iK]
   split
   ·rename_i hk;rw[hn k hk];trivial
   ·exact AX.refl _
  |succ l=>exact AX.refl _
 have src:∀ l k b,Heap.get (kf kb R f::H) l k=some b->(l=0/\kb<=k/\∃ b0,look R (k - kb)=some b0/\b=b0.imp kb)\/
   (¬ (l=0/\kb<=k)/\Heap.get (R::f::H) (l+1) k=some b/\tb (iK kb t' h::rest) l k=tb (t'::h::rest) (l+1) k):=by
  intro l k b hg
  cases l with
  |zero=>
   simp only[Heap.get,aaG]at hg
   by_cases hk:kb<=k
   ·rw[if_pos hk]at hg
    cases hR:look R (k - kb) with
    |some b0=>
     rw[hR]at hg
     exact .inl ⟨rfl,hk,b0,rfl,(oi hg).symm⟩
    |none=>
     rw[hR]at hg
     have:=hr.aj 1 k b (by simpa [Heap.get] using hg)
     simp only[tb,hn k hk]at this
     cases this
   ·rw[if_neg hk]at hg
    exact .inr ⟨fun hh=>hk hh.2,by simpa [Heap.get] using hg,by simp[tb,iK,hk]⟩
  |succ l=>exact .inr ⟨fun hh=>by omega,by simpa [Heap.get] using hg,by simp[tb]⟩
 have own:∀ k,kb<=k->tb (iK kb t' h::rest) 0 k=tb (t'::h::rest) 0 (k - kb):=by
  intro k hk;simp[tb,iK,hk]
 refine⟨by have:=hr.len;simp at this ⊢;exact this,?_,?_,hr.bL,?_,hr.bJ,hr.size,hr.bj⟩
 ·intro l k b hg
  rcases src l k b hg with ⟨rfl,hk,b0,fV,rfl⟩|⟨bg,bS,ht⟩
  ·rw[own k hk]
   have:=hr.aj 0 (k - kb) b0 (by simpa [Heap.get] using fV)
   simp only[List.drop_zero]at this ⊢
   generalize tb (t'::h::rest) 0 (k - kb)=tt at this
   cases this with
   |box c cs hN hB=>
    obtain⟨cells,et,c1,c2,c3⟩:=hB
    refine .box c _ hN ⟨cells,et,c1,by rw[kX];exact c2,?_⟩
    intro o x v hx hv
    rw[jG,mS]at hx
    obtain⟨y,hy,rfl⟩:=hx
    have:=c3 o y v hy hv
    exact⟨by rw[xJ];exact this.1,this.2.imp hn rfl⟩
   |nil et esz=>exact .nil et esz
   |arr et esz es c cap hN hA=>exact .arr et esz es c cap hN hA
  ·rw[ht]
   have:=hr.aj (l+1) k b bS
   refine this.mono (AM.refl _) ?_ (fun _ _=>rfl)
   have e1:List.drop (l+1) (t'::h::rest)=List.drop l (h::rest):=by simp
   rw[e1]
   exact hT.drop l
 ·intro l1 k1 l2 k2 b1 b2 c g1 g2 t1 t2
  rcases src l1 k1 b1 g1 with ⟨rfl,rl,sq,fW,rfl⟩|⟨ah4,j6,xC⟩
  ·rw[own k1 rl]at t1
   rcases src l2 k2 b2 g2 with ⟨rfl,mQ,oU,gI,rfl⟩|⟨aak,pz,mW⟩
   ·rw[own k2 mQ]at t2
    have:=hr.inj 0 (k1 - kb) 0 (k2 - kb) sq oU c (by simpa [Heap.get] using fW) (by simpa [Heap.get] using gI) t1 t2
    exact⟨rfl,by omega⟩
   ·rw[mW]at t2
    have:=hr.inj 0 (k1 - kb) (l2+1) k2 sq b2 c (by simpa [Heap.get] using fW) pz t1 t2
    omega
  ·rw[xC]at t1
   rcases src l2 k2 b2 g2 with ⟨rfl,mQ,oU,gI,rfl⟩|⟨aak,pz,mW⟩
   ·rw[own k2 mQ]at t2
    have:=hr.inj (l1+1) k1 0 (k2 - kb) b1 oU c j6 (by simpa [Heap.get] using gI) t1 t2
    omega
   ·rw[mW]at t2
    have:=hr.inj (l1+1) k1 (l2+1) k2 b1 b2 c j6 pz t1 t2
    exact⟨by omega,this.2⟩
 ·intro l k b c o hg ht
  rcases src l k b hg with ⟨rfl,hk,b0,fV,rfl⟩|⟨bg,bS,eZ⟩
  ·rw[own k hk]at ht
   exact hr.dx 0 (k - kb) b0 c o (by simpa [Heap.get] using fV) ht
  ·rw[eZ]at ht
   exact hr.dx (l+1) k b c o bS ht
theorem VR.rv {fm:FM}{kb:Nat}{t' h J:Ah}{rest:List Ah} (hn:∀ l k x,tb (t'::h::rest) l k=some x->tb (J::rest) (l - 1) (if l=0 then kb+k else k)=some x) {ec:List Ah}{x:AV}{v:Value} (hv:VR fm ec x v):ec=t'::h::rest->VR fm (J::rest) (x.imp kb) v:=by
 induction hv with
 |bool b=>intro _;exact .bool b
 |int k n=>intro _;exact .int k n
 |str s=>intro _;exact .str s
 |nil=>intro _;exact .nil
 |cm e a cap=>intro _;exact .cm e a cap
 |sl es cb off esz cap u cD h1 h2 h3 h4 _=>intro _;exact .sl es cb off esz cap u cD h1 h2 h3 h4
 |bW l k esz i n g a cp h cR ha=>rintro rfl;exact .bW _ _ esz i n g a cp (hn _ _ _ h) cR ha
 |bX l k esz i n g a cp m' c h ab cR ha=>rintro rfl;exact .bX _ _ esz i n g a cp m' c (hn _ _ _ h) ab cR ha
 |bI l k esz a h=>rintro rfl;exact .bI _ _ esz a (hn _ _ _ h)
 |loc l k esz i n g c cap cp a h cR bh hc ha=>rintro rfl;exact .loc _ _ esz i n g c cap cp a (hn _ _ _ h) cR bh hc ha
 |bd l k esz o n c cp a h cR ha=>rintro rfl;exact .bd _ _ esz o n c cp a (hn _ _ _ h) cR ha
 |bf=>intro _;exact .bf
 |ptr l k o c h=>rintro rfl;exact .ptr _ _ o c (hn _ _ _ h)
 |dF l k esz i o g a h=>rintro rfl;exact .dF _ _ esz i o g a (hn _ _ _ h)
 |dG l k esz i o g a m' c h ab=>rintro rfl;exact .dG _ _ esz i o g a m' c (hn _ _ _ h) ab
 |aR l k esz i o g c cap h=>rintro rfl;exact .aR _ _ esz i o g c cap (hn _ _ _ h)
 |aq es i o cb off esz u h1 h2 h3 h4 _=>intro _;exact .aq es i o cb off esz u h1 h2 h3 h4
 |bo=>intro _;exact .bo
 |fn f first cap vf vc h1 h2 _ _ fE eP=>
  intro e
  simp only[AV.imp]
  refine .fn f _ _ vf vc (by rw[kX];exact h1) (by rw[kX];exact h2) ?_ ?_
  ·intro i x v hx hv
   rw[jG,mS]at hx
   obtain⟨y,hy,rfl⟩:=hx
   exact fE i y v hy hv e
  ·intro i x v hx hv
   rw[jG,mS]at hx
   obtain⟨y,hy,rfl⟩:=hx
   exact eP i y v hy hv e
 |bp=>intro _;exact .bp
 |mp r_=>intro _;exact .mp r_
 |bA t x v _ ih=>intro e;exact .bA t _ v (ih e)
 |agg cs vs h1 h2 _ ih=>
  intro e
  simp only[AV.imp]
  refine .agg _ vs (by rw[kX];exact h1) ?_ ?_
  ·intro x hx
   obtain⟨i,hi⟩:=Bl.1 hx
   rw[jG,mS]at hi
   obtain⟨y,hy,rfl⟩:=hi
   rw[xJ];exact h2 y (Ba hy)
  ·intro i x v hx hv
   rw[jG,mS]at hx
   obtain⟨y,hy,rfl⟩:=hx
   exact ih i y v hy hv e
 |ak xs vs h1 _ ih=>
  intro e
  simp only[AV.imp]
  refine .ak _ vs (by rw[kX];exact h1) ?_
  intro i x v hx hv
  rw[jG,mS]at hx
  obtain⟨y,hy,rfl⟩:=hx
  exact ih i y v hy hv e
 |dead v=>intro _;exact .dead v
theorem HR.rv {N0:Nat}{W0:World}{fm:FM}{t' h J:Ah}{rest:List Ah}{R f:Aj}{H:Heap}{w:World} (hr:HR N0 W0 fm (t'::h::rest) (R::f::H) w) {kb:Nat} (h1:∀ k x,t' k=some x->J (kb+k)=some x) (h2:∀ k x,h k=some x->J k=some x):
  HR N0 W0 fm (J::rest) (kf kb R f::H) w:=by
 have hJ:∀ l k x,tb (t'::h::rest) l k=some x->tb (J::rest) (l - 1) (if l=0 then kb+k else k)=some x:=by
  intro l k x e
  cases l with
  |zero=>simpa [tb] using h1 k x (by simpa [tb] using e)
  |succ l=>
   cases l with
   |zero=>simpa [tb] using h2 k x (by simpa [tb] using e)
   |succ l=>simpa [tb] using e
 have hT:Ak (h::rest) (J::rest):=by
  intro l k
  cases l with
  |zero=>
   simp only[tb]
   cases hh:h k with
   |none=>trivial
   |some x=>rw[h2 k x hh];exact AX.refl _
  |succ l=>exact AX.refl _
 have src:∀ l k b,Heap.get (kf kb R f::H) l k=some b->(l=0/\kb<=k/\∃ b0,look R (k - kb)=some b0/\b=b0.imp kb/\tb (J::rest) l k=tb (t'::h::rest) 0 (k - kb))\/
   (Heap.get (R::f::H) (l+1) k=some b/\tb (J::rest) l k=tb (t'::h::rest) (l+1) k/\¬ (l=0/\kb<=k/\∃ b0,look R (k - kb)=some b0)):=by
  intro l k b hg
  have pQ:Heap.get (R::f::H) (l+1) k=some b->tb (J::rest) l k=tb (t'::h::rest) (l+1) k:=by
   intro hg
   have hb:=hr.aj (l+1) k b hg
   cases ht:tb (t'::h::rest) (l+1) k with
   |none=>rw[ht]at hb;cases hb
   |some x=>have:=hJ (l+1) k x ht;simpa using this
  cases l with
  |zero=>
   simp only[Heap.get,aaG]at hg
   by_cases hk:kb<=k
   ·rw[if_pos hk]at hg
    cases hR:look R (k - kb) with
    |some b0=>
     rw[hR]at hg
     refine .inl ⟨rfl,hk,b0,rfl,(oi hg).symm,?_⟩
     have hb:=hr.aj 0 (k - kb) b0 (by simpa [Heap.get] using hR)
     cases ht:tb (t'::h::rest) 0 (k - kb) with
     |none=>rw[ht]at hb;cases hb
     |some x=>
      have:=hJ 0 (k - kb) x ht
      simp only[if_true]at this
      rw[show kb+(k - kb)=k by omega]at this
      exact this
    |none=>
     rw[hR]at hg
     have bS:Heap.get (R::f::H) (0+1) k=some b:=by simpa [Heap.get] using hg
     exact .inr ⟨bS,pQ bS,fun hh=>by obtain⟨_,_,b0,e⟩:=hh;cases e⟩
   ·rw[if_neg hk]at hg
    have bS:Heap.get (R::f::H) (0+1) k=some b:=by simpa [Heap.get] using hg
    exact .inr ⟨bS,pQ bS,fun hh=>hk hh.2.1⟩
  |succ l=>
   have bS:Heap.get (R::f::H) (l+1+1) k=some b:=by simpa [Heap.get] using hg
   exact .inr ⟨bS,pQ bS,fun hh=>by omega⟩
 refine⟨by have:=hr.len;simp at this ⊢;exact this,?_,?_,hr.bL,?_,hr.bJ,hr.size,hr.bj⟩
 ·intro l k b hg
  rcases src l k b hg with ⟨rfl,hk,b0,fV,rfl,ht⟩|⟨bS,ht,_⟩
  ·rw[ht]
   have:=hr.aj 0 (k - kb) b0 (by simpa [Heap.get] using fV)
   simp only[List.drop_zero]at this ⊢
   generalize tb (t'::h::rest) 0 (k - kb)=tt at this
   cases this with
   |box c cs hN hB=>
    obtain⟨cells,et,c1,c2,c3⟩:=hB
    refine .box c _ hN ⟨cells,et,c1,by rw[kX];exact c2,?_⟩
    intro o x v hx hv
    rw[jG,mS]at hx
    obtain⟨y,hy,rfl⟩:=hx
    have:=c3 o y v hy hv
    exact⟨by rw[xJ];exact this.1,this.2.rv hJ rfl⟩
   |nil et esz=>exact .nil et esz
   |arr et esz es c cap hN hA=>exact .arr et esz es c cap hN hA
  ·rw[ht]
   have:=hr.aj (l+1) k b bS
   refine this.mono (AM.refl _) ?_ (fun _ _=>rfl)
   have e1:List.drop (l+1) (t'::h::rest)=List.drop l (h::rest):=by simp
   rw[e1]
   exact hT.drop l
 ·intro l1 k1 l2 k2 b1 b2 c g1 g2 t1 t2
  rcases src l1 k1 b1 g1 with ⟨rfl,rl,sq,fW,_,e1⟩|⟨j6,e1,n1⟩
  ·rw[e1]at t1
   rcases src l2 k2 b2 g2 with ⟨rfl,mQ,oU,gI,_,e2⟩|⟨pz,e2,n2⟩
   ·rw[e2]at t2
    have:=hr.inj 0 (k1 - kb) 0 (k2 - kb) sq oU c (by simpa [Heap.get] using fW) (by simpa [Heap.get] using gI) t1 t2
    exact⟨rfl,by omega⟩
   ·rw[e2]at t2
    have:=hr.inj 0 (k1 - kb) (l2+1) k2 sq b2 c (by simpa [Heap.get] using fW) pz t1 t2
    omega
  ·rw[e1]at t1
   rcases src l2 k2 b2 g2 with ⟨rfl,mQ,oU,gI,_,e2⟩|⟨pz,e2,n2⟩
   ·rw[e2]at t2
    have:=hr.inj (l1+1) k1 0 (k2 - kb) b1 oU c j6 (by simpa [Heap.get] using gI) t1 t2
    omega
   ·rw[e2]at t2
    have:=hr.inj (l1+1) k1 (l2+1) k2 b1 b2 c j6 pz t1 t2
    exact⟨by omega,this.2⟩
 ·intro l k b c o hg ht
  rcases src l k b hg with ⟨rfl,hk,b0,fV,_,e⟩|⟨bS,e,_⟩
  ·rw[e]at ht
   exact hr.dx 0 (k - kb) b0 c o (by simpa [Heap.get] using fV) ht
  ·rw[e]at ht
   exact hr.dx (l+1) k b c o bS ht
end Go.Abs
namespace Go.Abs
open Go Go.RowKit
section
variable [Md] {P:Program}{T:Aw}{N0:Nat}{W0:World}{n:Nat}{fm:FM}{ts:List Ah}
theorem A0.ai1 {todo:List It}{ct:List Be} (h:A0 N0 W0 n fm ts todo ct):todo=[]->∀ {Q:Exit->Act->World->Prop}{a w},Q .normal a w->K P Q ct .normal a w:=by
 induction h with
 |nil=>intro _ Q a w h;exact h
 |fe _ ih=>intro e Q a w h;exact ih e h
 |_=>intro e;cases e
theorem A0.age {todo:List It}{ct:List Be} (h:A0 N0 W0 n fm ts todo ct):∀ {id:Nat}{t:List It},todo=.aj id::t->∃ aX,A0 N0 W0 n fm ts t aX/\∀ {Q:Exit->Act->World->Prop}{a w},K P Q aX .normal a w->K P Q ct .normal a w:=by
 induction h with
 |aj ht _=>intro id t e;cases e;exact⟨_,ht,fun h=>h⟩
 |fe _ ih=>intro id t e;obtain⟨aX,h1,h2⟩:=ih e;exact⟨aX,h1,fun h=>h2 h⟩
 |_=>intro id t e;cases e
theorem A0.af6 {todo:List It}{ct:List Be} (h:A0 N0 W0 n fm ts todo ct):∀ {B:St->Prop}{t:List It},todo=.back B::t->∀ {Q:Exit->Act->World->Prop}{st a w},SR N0 W0 n st a w fm ts->B st->K P Q ct .normal a w:=by
 induction h with
 |back h ht _=>intro B t e;cases e;intro Q st a w hS hB;exact h _ _ _ _ _ hB hS (AT.refl _ _)
 |fe _ ih=>intro B t e Q st a w hS hB;exact ih e hS hB
 |_=>intro B t e;cases e
theorem A0.adZ {todo:List It}{ct:List Be} (h:A0 N0 W0 n fm ts todo ct):∀ {l:List Ai}{t:List It},todo=.ops l::t->
  ∃ arr is aX,l.map kI=is.map (fun i=>mD n arr (arr.getD i default))/\(∀ i∈is,i<arr.size)/\(∀ o∈l,∀ d,o.dst=some d->d<n)/\A0 N0 W0 n fm ts t aX/\
   ∀ {Q:Exit->Act->World->Prop}{a w},wpOpsIn FW 0 P arr (K P Q aX) is a w->K P Q ct .normal a w:=by
 induction h with
 |ops h hi hf ht _=>intro l t e;cases e;exact⟨_,_,_,h,hi,hf,ht,fun h=>h⟩
 |fe _ ih=>intro l t e;obtain⟨arr,is,aX,h1,h2,h3,h4,h5⟩:=ih e;exact⟨arr,is,aX,h1,h2,h3,h4,fun h=>h5 h⟩
 |_=>intro l t e;cases e
theorem ad1 (n:Nat):∀ (c:Code) (t:List It) (ct:List Be),A0 N0 W0 n fm ts t ct->∃ c' aX,(∀ b,c'≠.scope b)/\erase n c'=erase n c/\A0 N0 W0 n fm ts t aX/\∀ {Q:Exit->Act->World->Prop}{a w},K P Q (.code c'::aX) .normal a w->K P Q (.code c::ct) .normal a w
 |.scope b,t,ct,h=>by
  obtain⟨c',aX,h1,h2,h3,h4⟩:=ad1 n b t (.fe::ct) (.fe h)
  exact⟨c',aX,h1,by rw[h2];rfl,h3,fun h=>Ge (h4 h)⟩
 |.skip,t,ct,h=>⟨.skip,ct,by simp,rfl,h,fun h=>h⟩
 |.region a b c,t,ct,h=>⟨.region a b c,ct,by simp,rfl,h,fun h=>h⟩
 |.seq a b,t,ct,h=>⟨.seq a b,ct,by simp,rfl,h,fun h=>h⟩
 |.cond a b c,t,ct,h=>⟨.cond a b c,ct,by simp,rfl,h,fun h=>h⟩
 |.block a b,t,ct,h=>⟨.block a b,ct,by simp,rfl,h,fun h=>h⟩
 |.loop a,t,ct,h=>⟨.loop a,ct,by simp,rfl,h,fun h=>h⟩
 |.rangeFunc a b c d,t,ct,h=>⟨.rangeFunc a b c d,ct,by simp,rfl,h,fun h=>h⟩
 |.exit a,t,ct,h=>⟨.exit a,ct,by simp,rfl,h,fun h=>h⟩
 |.label a,t,ct,h=>⟨.label a,ct,by simp,rfl,h,fun h=>h⟩
 |.goto a,t,ct,h=>⟨.goto a,ct,by simp,rfl,h,fun h=>h⟩
 |.ret,t,ct,h=>⟨.ret,ct,by simp,rfl,h,fun h=>h⟩
 |.refuse a,t,ct,h=>⟨.refuse a,ct,by simp,rfl,h,fun h=>h⟩
theorem A0.aa2 {todo:List It}{ct:List Be} (h:A0 N0 W0 n fm ts todo ct):∀ {s:SC}{t:List It},todo=.sc s::t->
  ∃ c aX,(∀ b,c≠.scope b)/\s.bare=erase n c/\(erase n c).fits n=true/\A0 N0 W0 n fm ts t aX/\∀ {Q:Exit->Act->World->Prop}{a w},K P Q (.code c::aX) .normal a w->K P Q ct .normal a w:=by
 induction h with
 |sc h hf ht _=>
  intro s t e;cases e
  obtain⟨c',aX,h1,h2,h3,h4⟩:=ad1 (P:=P) n _ _ _ ht
  exact⟨c',aX,h1,by rw[h2];exact h,by rw[h2];exact hf,h3,fun h=>h4 h⟩
 |fe _ ih=>intro s t e;obtain⟨c,aX,h1,h2,h3,h4,h5⟩:=ih e;exact⟨c,aX,h1,h2,h3,h4,fun h=>h5 h⟩
 |_=>intro s t e;cases e
theorem A0.ahk {todo:List It}{ct:List Be} (h:A0 N0 W0 n fm ts todo ct) (id:Nat):
  (∀ t,gj id todo=some t->∃ aX,A0 N0 W0 n fm ts t aX/\∀ {Q:Exit->Act->World->Prop}{a w},K P Q aX .normal a w->K P Q ct (.exit id) a w)/\
  (gj id todo=none->∀ {Q:Exit->Act->World->Prop}{a w},Q (.exit id) a w->K P Q ct (.exit id) a w):=by
 induction h with
 |nil=>exact⟨fun t e=>by simp[gj]at e,fun _ Q a w h=>h⟩
 |sc _ _ _ ih=>exact⟨fun t e=>ih.1 t (by simpa [gj] using e),fun e Q a w h=>ih.2 (by simpa [gj] using e) h⟩
 |@aj od t ct ht ih=>
  by_cases tz:id=od
  ·subst tz
   refine⟨fun t' e=>?_,fun e=>by simp[gj]at e⟩
   simp only[gj,if_true,oE]at e
   subst e
   exact⟨ct,ht,fun h=>by simp only[K,if_true];exact h⟩
  ·refine⟨fun t' e=>?_,fun e Q a w h=>?_⟩
   ·simp only[gj,if_neg tz]at e
    obtain⟨aX,h1,h2⟩:=ih.1 t' e
    exact⟨aX,h1,fun h=>by simp only[K,if_neg tz];exact h2 h⟩
   ·simp only[gj,if_neg tz]at e
    simp only[K,if_neg tz]
    exact ih.2 e h
 |fe _ ih=>exact⟨fun t e=>by obtain⟨aX,h1,h2⟩:=ih.1 t e;exact⟨aX,h1,fun h=>h2 h⟩,fun e Q a w h=>ih.2 e h⟩
 |ops _ _ _ _ ih=>exact⟨fun t e=>ih.1 t (by simpa [gj] using e),fun e Q a w h=>ih.2 (by simpa [gj] using e) h⟩
 |back _ _ ih=>exact⟨fun t e=>ih.1 t (by simpa [gj] using e),fun e Q a w h=>ih.2 (by simpa [gj] using e) h⟩
theorem ajA (n:Nat) (ops:Array Oper):ops.toList.map (mD n ops)=(List.range ops.size).map fun i=>mD n ops (ops.getD i default):=by
 apply List.ext_getElem?
 intro i
 simp only[Bz,Array.getElem?_toList]
 by_cases hi:i<ops.size
 ·simp[hi,Array.getD]
 ·simp[hi]
theorem SR.ga {n:Nat}{st:St}{a:Act}{w w':World} (h:SR N0 W0 n st a w fm ts) {v:Value}{av:AV}{aH:Aj}{H':Heap}{fm':FM}{t':Ah}{ts':List Ah}
  (hr:HR N0 W0 fm' (t'::ts') (aH::H') w') (hv:VR fm' (t'::ts') av v) (hf:Ax N0 fm fm') (hl:Ak ts ts') (hn:∀ l k,tb ts l k=none->tb ts' l k=none) (il:∀ k,16<=k->t' k=none)
  (hlen:H'.length=st.low.length+1) {dst:Option Tmp} (hd:∀ d,dst=some d->d<n) (drop:List Nat):
  ∃ cE,SR N0 W0 n (st.ga dst drop av aH H') (a.put dst v) w' fm' cE/\AT N0 fm ts fm' cE:=by
 cases H' with
 |nil=>simp at hlen
 |cons f H'=>
  cases ts' with
  |nil=>have:=hr.len;simp at this
  |cons h0 rest=>
   have tK:∀ k,st.nx<=k->h0 k=none:=by
    intro k hk
    have:=hn 0 k (h.nx k hk)
    simpa [tb] using this
   have hT:Ak (h0::rest) (iK st.nx t' h0::rest):=by
    intro l k
    cases l with
    |zero=>
     simp only[tb,iK]
     split
     ·rename_i hk;rw[tK k hk];trivial
     ·exact AX.refl _
    |succ l=>exact AX.refl _
   refine⟨iK st.nx t' h0::rest,⟨hr.imp tK,?_,?_,by rw[pW];exact h.size,by rw[oB];exact h.cV⟩,⟨hf,?_,?_⟩⟩
   ·exact(h.tm.mono hf.le (hl.trans hT)).put (hv.imp tK rfl) (by rw[h.size];exact hd) drop
   ·intro k hk
    have dH:st.nx+16<=k:=hk
    simp only[tb,iK]
    rw[if_pos (by omega)]
    exact il _ (by omega)
   ·have:=hl.drop 1;simpa using this
   ·intro l k e
    rw[dC]at e
    have:=hn (l+1) k e
    simpa [tb] using this
theorem SR.lost {n:Nat}{st:St}{a:Act}{w w':World} (h:SR N0 W0 n st a w fm ts) {H':Heap}{fm':FM}{ts':List Ah}
  (hr:HR N0 W0 fm' ts' H' w') (hf:Ax N0 fm fm') (hl:Ak ts ts') (hn:∀ l k,tb ts l k=none->tb ts' l k=none) (hlen:H'.length=st.low.length+1):
  SR N0 W0 n (st.qm H') a w' fm' ts'/\AT N0 fm ts fm' ts':=by
 cases H' with
 |nil=>simp at hlen
 |cons f H'=>
  refine⟨⟨hr,h.tm.mono hf.le hl,fun k hk=>hn 0 k (h.nx k hk),h.size,h.cV⟩,⟨hf,hl.drop 1,?_⟩⟩
  intro l k e
  rw[dC]at e ⊢
  exact hn _ k e
theorem ahi {t e:TypeId}{a:Option Addr}{n c m:Nat}{w:World} (bm:P.underlying t=some (.slice e)):(Op.equalIn (m+1) t (.slice a n c) (.slice none 0 0)).run P w=.ok a.isNone w:=by
 cases a<;>simp only[Op.equalIn,Sem.run_bind,run_underlying bm,Result.andThen_ok]<;>rfl
theorem ahh {t e:TypeId}{a:Option Addr}{n c:Nat}{w:World} (bm:P.underlying t=some (.slice e)):(binOp .eql t (.slice a n c) (.slice none 0 0)).run P w=.ok (.bool a.isNone) w:=by
 have h:(Op.equalIn Op.maxDepth t (.slice a n c) (.slice none 0 0)).run P w=.ok a.isNone w:=ahi bm
 simp[binOp,Op.equal,h]
theorem sF {tm:Tm}{a:Act}{w:World} (de:Ce fm ts tm a) {c:Call}{f:FuncId}{args:List AV} (dX:callee tm c=some (f,args)) {s:Ai} (hc:iy s.op=some c) {o:Oper} (jA:s.op=o.op) (hE:Enters P f):
  ∃ vs:List Value,Am fm ts args vs/\(execOp a.eval o).run P w=.ok (.enter f vs.toArray) w/\∀ c0,o.op≠.defer c0:=by
 unfold iy at hc
 split at hc
 ·rename_i c' kV
  split at hc
  ·cases hc
  ·obtain rfl:=oi hc
   unfold callee at dX
   split at dX
   ·rename_i g hcf
    split at dX
    ·rename_i g' first cap xs hof eA
     simp only[oE,Prod.mk.injEq]at dX
     obtain⟨rfl,rfl⟩:=dX
     have hvf:=oz de hof
     have dI:=uE de _ _ eA
     obtain⟨vf,vc,tu,eY,iT,tQ,tR⟩:∃ vf vc,a.eval g=.func (.func g') vf vc/\first.length=vf.size/\cap.length=vc.size/\(∀ (i:Nat) x v,first[i]?=some x->vf[i]?=some v->VR fm ts x v)/\(∀ (i:Nat) x v,cap[i]?=some x->vc[i]?=some v->VR fm ts x v):=by
      generalize a.eval g=z at hvf
      cases hvf with
      |fn _ _ _ vf vc h1 h2 h3 h4=>exact⟨vf,vc,rfl,h1,h2,h3,h4⟩
     have dR:Am fm ts (first++(xs++cap)) (vf.toList++(c'.args.toList.map a.eval++vc.toList)):=
      Am.append ⟨by simpa using eY,fun i x v p q=>tQ i x v p (by simpa using q)⟩ (Am.append dI ⟨by simpa using iT,fun i x v p q=>tR i x v p (by simpa using q)⟩)
     obtain⟨fn,tv,gq,hbd⟩:=hE
     have adn:o.op=.call c':=by rw[<-jA];exact kV
     have aK:(execOp a.eval o).run P w=.ok (.enter g' ((vf.toList++(c'.args.toList.map a.eval++vc.toList)).toArray)) w:=by
      have e1:vf++Array.map a.eval c'.args++vc=(vf.toList++(c'.args.toList.map a.eval++vc.toList)).toArray:=by
       apply Array.toList_inj.1;simp
      simp only[execOp,adn,resolve,hcf,Sem.run_bind,Deferred.ofValue,tu,Sem.run_pure,Result.andThen_ok,invoke,callFunc,run_program,tv,gq,hbd,B7,if_false,e1]
     exact⟨_,dR,aK,fun c0 h0=>by rw[adn]at h0;cases h0⟩
    ·cases dX
   ·cases dX
 ·cases hc
theorem eQ (hT:AG P T) {Φ:Exit->St->Prop}:∀ (m:Nat) (todo:List It) (st:St),Ar P n Φ (run T m todo st)->AK P n Φ todo st
 |0,todo,st,h=>by simp only[run,Ar]at h
 |m+1,[],st,h=>by
  intro N0 W0 fm ts a w ct Q hS ey hQ
  simp only[run,Ar]at h
  exact ey.ai1 rfl (hQ _ _ _ _ _ _ h hS (AT.refl _ _))
 |m+1,.back B::t,st,h=>by
  intro N0 W0 fm ts a w ct Q hS ey hQ
  simp only[run,Ar]at h
  exact ey.af6 rfl hS h
 |m+1,.aj id::t,st,h=>by
  intro N0 W0 fm ts a w ct Q hS ey hQ
  simp only[run]at h
  obtain⟨aX,h1,h2⟩:=ey.age (P:=P) rfl
  exact h2 (eQ hT m t st h N0 W0 fm ts a w aX Q hS h1 hQ)
 |m+1,.ops []::t,st,h=>by
  intro N0 W0 fm ts a w ct Q hS ey hQ
  simp only[run]at h
  obtain⟨arr,is,aX,h1,h2,h3,h4,h5⟩:=ey.adZ (P:=P) rfl
  cases is with
  |nil=>exact h5 (eQ hT m t st h N0 W0 fm ts a w aX Q hS h4 hQ)
  |cons=>simp at h1
 |m+1,.ops (o::os)::t,st,h=>by
  intro N0 W0 fm ts a w ct Q hS ey hQ
  obtain⟨arr,is,aX,h1,h2,h3,h4,h5⟩:=ey.adZ (P:=P) rfl
  cases is with
  |nil=>simp at h1
  |cons i is=>
   simp only[List.map_cons,List.cons.injEq]at h1
   obtain⟨h1,sX⟩:=h1
   have hi:i<arr.size:=h2 i List.mem_cons_self
   have dz:arr[i]?=some arr[i]:=Bg hi
   have xh:arr.getD i default=arr[i]:=by simp[Array.getD,hi]
   rw[xh]at h1
   simp only[kI,mD,Ai.mk.injEq,and_true]at h1
   obtain⟨kS,jA,hty,jy⟩:=h1
   have hd:∀ d,o.dst=some d->d<n:=h3 o List.mem_cons_self
   have ub:∀ {fm' ts'},AT N0 fm ts fm' ts'->A0 N0 W0 n fm' ts' (.ops os::t) (.ops arr is::aX):=fun hl=>
    (A0.ops sX (fun j hj=>h2 j (List.mem_cons_of_mem _ hj)) (fun o ho=>h3 o (List.mem_cons_of_mem _ ho)) h4).later hl
   apply h5
   simp only[wpOpsIn,dz]
   have acn:∀ (m':Nat),(∀ todo st,Ar P n Φ (run T m' todo st)->AK P n Φ todo st)->Ar P n Φ (v8 T (run T m') o (.ops os::t) st)->(arr[i]).wpIn FW 0 P a w (wpOpsIn FW 0 P arr (K P Q aX) is) (K P Q aX):=by
    intro m' uj h
    unfold v8 at h
    split at h
    ·
     rename_i c hc
     unfold aaL at h
     split at h
     ·rename_i g args dX
      simp only[Ar]at h
      obtain⟨eC,fh,R,Rp,hmv,⟨hE,hac⟩,hk,tS⟩:=h
      obtain⟨vs,dR,aK,bw⟩:=sF (w:=w) hS.tm dX hc jA hE
      have aab:Am fm (cj::ts) (AV.ck 1 args) vs:=by
       refine⟨by rw[kz];exact dR.1,?_⟩
       intro i x v hx hv
       rw[ky,mS]at hx
       obtain⟨y,hy,rfl⟩:=hx
       exact(dR.2 i y v hy hv).sh 1 (by simp)
      obtain⟨dv,cn,bE,fy,ahE⟩:=hmv N0 W0 a w fm ts _ hS aab
      refine uF bw aK ?_
      refine Calls.mono (hac N0 W0 dv cn w _ bE.hr ahE) ?_
      rintro e w' (⟨v,av,aH,H',fm',t',ts',rfl,hR,aaj,bu,aZ,cM,jC,bx,il⟩|⟨ch,H',fm',ts',rfl,hR,aaj,bu,cM,jC,bx⟩)
      ·have hlen:H'.length=eC.low.length+1:=by simpa using aaj
       obtain⟨cE,cL,bU⟩:=bE.ga bu aZ cM jC bx il hlen hd o.drop
       have im:=hk av aH H' hR N0 W0 fm' cE _ w' (.ops arr is::aX) Q cL (ub (fy.trans bU)) (fun e al a' w' eM fv gr cX eW=>hQ e al a' w' eM fv gr cX ((fy.trans bU).trans eW))
       rw[kS]at im
       exact im
      ·have hlen:H'.length=eC.low.length+1:=by simpa using aaj
       obtain⟨cL,bU⟩:=bE.lost bu cM jC bx hlen
       exact CL (hQ _ _ _ _ _ _ (tS ch H' hR) cL (fy.trans bU)) aX
     ·simp only[Ar]at h
    ·
     split at h
     ·
      rename_i x lP
      unfold aaA at lP
      split at lP
      ·rename_i x' hox
       obtain rfl:=oi lP
       unfold aa9 at h
       split at h
       ·rename_i v hv
        simp only[Ar]at h
        obtain⟨t0,x0,rfl,hk⟩:=h
        have aZ:=oz hS.tm hv
        have adp:(arr[i]).op=.panic x':=by rw[<-jA];exact hox
        generalize tu:a.eval x'=z at aZ
        cases aZ with
        |bA _ _ u hu=>
         have aK:(execOp a.eval arr[i]).run P w=.halt (.panic (.iface t0 u)) w:=by
          simp only[execOp,adp,tu,Instr.panic,goPanic]
          rfl
         refine ajf (fun c0 h0=>by rw[adp]at h0;cases h0) aK ?_
         exact CL (hQ _ _ _ _ _ _ (hk fm ts u hu) hS (AT.refl _ _)) aX
       ·simp only[Ar]at h
      ·cases lP
     cases bg:xO T o.op (look st.tm) with
     |some es=>
      rw[bg]at h
      simp only[uG,Ar]at h
      obtain⟨rl,mQ⟩:=h
      unfold xO at bg
      split at bg
      ·rename_i tt x ty0 lM
       split at bg
       ·rename_i ti hti
        split at bg
        ·rename_i el tn
         split at bg
         ·rename_i ez es' hx
          obtain rfl:=oi bg
          obtain⟨bm,_⟩:=hT.slice hti tn
          obtain⟨v,hv,aZ⟩:=hS.tm x _ hx
          obtain⟨aa,nn,cc,rfl,ah6⟩:∃ aa nn cc,v=.slice aa nn cc/\(aa=none->es'=[]):=by
           cases aZ with
           |cm=>exact⟨_,_,_,rfl,fun _=>rfl⟩
           |sl=>exact⟨_,_,_,rfl,fun h=>by cases h⟩
          have tu:a.eval (.tmp x)=.slice aa nn cc:=by simp[Act.eval,hv,Array.getD_eq_getD_getElem?]
          have ado:(arr[i]).op=.binOp .eql tt (.tmp x) (.const (.slice none 0 0)) ty0:=by rw[<-jA];exact lM
          have aK:(execOp a.eval arr[i]).run P w=.ok (.value (.bool aa.isNone)) w:=by
           have h1:=ahh (P:=P) (a:=aa) (n:=nn) (c:=cc) (w:=w) bm
           have h2:a.eval (.const (.slice none 0 0))=.slice none 0 0:=by simp[Act.eval]
           simp only[execOp,ado,tu,h2]
           exact cW h1
          have ho:∀ b:Bool,aa.isNone=b->Out N0 W0 fm ts (st.fr::st.low) w st.nx ((execOp a.eval arr[i]).run P w) ⟨.bool b,[]⟩ fm ts w (.bool b):=fun b hb=>
           ⟨.inl (by rw[aK,hb]),hS.hr,.bool b,Ax.refl _ _,Ak.refl _,fun _ _ _ h=>h⟩
          refine rJ (fun c0 h0=>by rw[ado]at h0;cases h0) aK ?_
          cases hb:aa.isNone with
          |true=>
           obtain⟨cL,bU⟩:=hS.by (ho true hb) hd o.drop
           have lK:es'=[]:=ah6 (by simpa using hb)
           have im:=rl lK N0 W0 fm ts _ w (.ops arr is::aX) Q cL (ub bU) (fun e al a' w' eM fv gr cX eW=>hQ e al a' w' eM fv gr cX (bU.trans eW))
           rw[kS]at im
           exact im
          |false=>
           obtain⟨cL,bU⟩:=hS.by (ho false hb) hd o.drop
           have im:=mQ N0 W0 fm ts _ w (.ops arr is::aX) Q cL (ub bU) (fun e al a' w' eM fv gr cX eW=>hQ e al a' w' eM fv gr cX (bU.trans eW))
           rw[kS]at im
           exact im
         ·cases bg
        ·cases bg
       ·cases bg
      ·cases bg
     |none=>
     rw[bg]at h
     simp only[uG]at h
     unfold next at h
     split at h
     ·rename_i d nU
      have hG:st.get=Heap.get (st.fr::st.low):=rfl
      rw[jA,hty,hG]at nU
      obtain⟨fm',ts',w',v,ho⟩:=adU (P:=P) hT hS.hr (by simp) (fun k h1 _=>hS.nx k h1) hS.tm nU
      obtain⟨cL,bU⟩:=hS.by ho hd o.drop
      have im:=uj _ _ h N0 W0 fm' ts' _ w' (.ops arr is::aX) Q cL (ub bU) (fun e al a' w' eM fv gr cX eW=>hQ e al a' w' eM fv gr cX (bU.trans eW))
      rw[kS]at im
      have bw:∀ c,(arr[i]).op≠.defer c:=fun c0 h0=>by rw[h0]at nU;simp[aW]at nU
      rcases ho.done with hr|⟨hr,rfl⟩
      ·exact rJ bw hr im
      ·exact aaO bw hr im
     ·simp only[Ar]at h
   have jL:∀ (m':Nat),(∀ todo st,Ar P n Φ (run T m' todo st)->AK P n Φ todo st)->Ar P n Φ (run T m' (.ops os::t) (st.jL o))->wpOpsIn FW 0 P arr (K P Q aX) is (a.put (arr[i]).dst undef) w:=by
    intro m' uj h
    have cL:=hS.jL hd
    have im:=uj _ _ h N0 W0 fm ts _ w (.ops arr is::aX) Q cL (ub (AT.refl _ _)) hQ
    rw[kS]at im
    exact im
   cases hg:o.guard with
   |none=>
    rw[hg]at jy
    have hw:Region.wanted arr[i] (yielded arr a.tmps)=true:=by
     have:(arr[i]).guard=none:=by
      cases hh:(arr[i]).guard with
      |none=>rfl
      |some g=>rw[hh]at jy;cases jy
     simp[Region.wanted,this]
    simp only[run,hg]at h
    rw[if_pos hw]
    exact acn m (eQ hT m) h
   |some g=>
    obtain⟨g,want⟩:=g
    rw[hg]at jy
    obtain⟨j,hj,fX⟩:∃ j,(arr[i]).guard=some (j,want)/\(((arr[j]?).bind (·.dst)).getD n)=g:=by
     cases hh:(arr[i]).guard with
     |none=>rw[hh]at jy;cases jy
     |some p=>
      rw[hh]at jy
      simp only[AQ,oE,Prod.mk.injEq]at jy
      exact⟨p.1,by rw[jy.2],jy.1.symm⟩
    have mY:∀ v,a.tmps[g]?=some v->yielded arr a.tmps j=match v with|.bool b=>some b|_=>none:=by
     intro v hv
     unfold yielded
     cases hb:(arr[j]?).bind (·.dst) with
     |none=>
      rw[hb]at fX
      simp only[Option.getD_none]at fX
      have:=(BY.1 hv).1
      rw[hS.size]at this
      subst fX
      exact absurd this (Nat.lt_irrefl _)
     |some dd=>
      rw[hb]at fX
      simp only[Option.getD_some]at fX
      subst fX
      simp only[Av,hv]
      cases v<;>rfl
    simp only[run,hg]at h
    split at h
    ·rename_i b hb
     obtain⟨v,hv,aZ⟩:=hS.tm g _ hb
     cases aZ
     have hw:Region.wanted arr[i] (yielded arr a.tmps)=(b==want):=by
      simp[Region.wanted,hj,mY _ hv]
     rw[hw]
     cases jx:(b==want) with
     |true=>
      rw[jx,abb]at h
      rw[if_pos rfl]
      cases m with
      |zero=>simp only[run,Ar]at h
      |succ m=>
       simp only[run]at h
       exact acn m (eQ hT m) h
     |false=>
      rw[jx,aba]at h
      simp only[B7,if_false]
      exact⟨fun _ _=>trivial,jL m (eQ hT m) h⟩
    ·rename_i hb
     obtain⟨v,hv,aZ⟩:=hS.tm g _ hb
     have hw:Region.wanted arr[i] (yielded arr a.tmps)=false:=by
      have:yielded arr a.tmps j=none:=by rw[mY _ hv];cases aZ;rfl
      simp[Region.wanted,hj,this]
     rw[hw]
     simp only[B7,if_false]
     exact⟨fun _ _=>trivial,jL m (eQ hT m) h⟩
    ·simp only[Ar]at h
 |m+1,.sc s::t,st,h=>by
  intro N0 W0 fm ts a w ct Q hS ey hQ
  obtain⟨c,aX,jz,hb,hf,ht,hK⟩:=ey.aa2 (P:=P) rfl
  apply hK
  cases s with
  |skip=>
   simp only[run]at h
   have:=eQ hT m t st h N0 W0 fm ts a w aX Q hS ht hQ
   cases c<;>simp only[SC.bare,erase,reduceCtorEq]at hb
   case skip=>exact FF this
   case label=>exact Gb this
   case region id ops dr=>cases dr<;>simp[erase]at hb
   case scope b=>exact absurd rfl (jz b)
  |ja ops=>
   simp only[run]at h
   cases c<;>try (simp only[SC.bare,erase,reduceCtorEq]at hb;done)
   case region id arr dr=>
    cases dr with
    |true=>simp[SC.bare,erase]at hb
    |false=>
     simp only[SC.bare,erase,SC.ja.injEq]at hb
     refine DD ?_
     refine eQ hT m _ st h N0 W0 fm ts a w _ Q hS ?_ hQ
     refine .ops (by rw[hb,ajA]) (by simp) ?_ ht
     simp only[erase,SC.fits,List.all_eq_true]at hf
     intro o ho d hd
     have:kI o∈ops.map kI:=List.mem_map_of_mem ho
     rw[hb]at this
     have:=hf _ this
     simp only[kI,hd]at this
     simpa using this
   case scope b=>exact absurd rfl (jz b)
  |bB ops nA drop=>
   simp only[run,Ar]at h
   exact h N0 W0 fm ts a w (.code c::aX) Q hS (.sc hb hf ht) hQ
  |mark b=>
   simp only[run,Ar]at h
   exact h N0 W0 fm ts a w (.code c::aX) Q hS (.sc (by simpa only [SC.bare] using hb) hf ht) hQ
  |seq x y=>
   simp only[run]at h
   cases c<;>simp only[SC.bare,erase,reduceCtorEq]at hb
   case seq cx cy=>
    simp only[SC.seq.injEq]at hb
    simp only[erase,SC.fits,AP]at hf
    exact B1 (eQ hT m _ st h N0 W0 fm ts a w _ Q hS (.sc hb.1 hf.1 (.sc hb.2 hf.2 ht)) hQ)
   case region id ops dr=>cases dr<;>simp[erase]at hb
   case scope b=>exact absurd rfl (jz b)
  |cond cc x y=>
   simp only[run]at h
   cases c<;>simp only[SC.bare,erase,reduceCtorEq]at hb
   case cond c1 cx cy=>
    simp only[SC.cond.injEq]at hb
    obtain⟨rfl,hbx,xc⟩:=hb
    simp only[erase,SC.fits,AP]at hf
    split at h
    ·rename_i b hbv
     have hv:=oz hS.tm hbv
     have he:a.eval cc=.bool b:=by
      generalize a.eval cc=z at hv
      cases hv;rfl
     refine FB he ?_
     cases b with
     |true=>rw[abb]at h;exact eQ hT m _ st h N0 W0 fm ts a w _ Q hS (.sc hbx hf.1 ht) hQ
     |false=>rw[aba]at h;exact eQ hT m _ st h N0 W0 fm ts a w _ Q hS (.sc xc hf.2 ht) hQ
    ·simp only[Ar]at h
   case region id ops dr=>cases dr<;>simp[erase]at hb
   case scope b=>exact absurd rfl (jz b)
  |block id b=>
   simp only[run]at h
   cases c<;>simp only[SC.bare,erase,reduceCtorEq]at hb
   case block od cb=>
    simp only[SC.block.injEq]at hb
    obtain⟨rfl,hb⟩:=hb
    simp only[erase,SC.fits]at hf
    exact CB (eQ hT m _ st h N0 W0 fm ts a w _ Q hS (.sc hb hf (.aj ht)) hQ)
   case region id ops dr=>cases dr<;>simp[erase]at hb
   case scope b=>exact absurd rfl (jz b)
  |loop b=>
   simp only[run,Ar]at h
   exact h N0 W0 fm ts a w (.code c::aX) Q hS (.sc hb hf ht) hQ
  |exit id=>
   simp only[run]at h
   cases c<;>simp only[SC.bare,erase,reduceCtorEq]at hb
   case exit od=>
    simp only[SC.exit.injEq]at hb
    subst hb
    refine Ga ?_
    have hx:=ht.ahk (P:=P) id
    split at h
    ·rename_i t' eZ
     obtain⟨ct2,h1,h2⟩:=hx.1 t' eZ
     exact h2 (eQ hT m t' st h N0 W0 fm ts a w ct2 Q hS h1 hQ)
    ·rename_i hn
     simp only[Ar]at h
     exact hx.2 hn (hQ _ _ _ _ _ _ h hS (AT.refl _ _))
   case region id ops dr=>cases dr<;>simp[erase]at hb
   case scope b=>exact absurd rfl (jz b)
  |ret=>
   simp only[run,Ar]at h
   cases c<;>simp only[SC.bare,erase,reduceCtorEq]at hb
   case ret=>exact Gd (CC (hQ _ _ _ _ _ _ h hS (AT.refl _ _)) _)
   case region id ops dr=>cases dr<;>simp[erase]at hb
   case scope b=>exact absurd rfl (jz b)
  |other=>simp only[run,Ar]at h
end
section
variable [Md] {P:Program}{T:Aw}{N0:Nat}{W0:World}{n:Nat}{fm:FM}{ts:List Ah}{Φ:Exit->St->Prop}
def Ae (n:Nat) (st al:St):Prop:=∀ N0 W0 a w fm ts,SR N0 W0 n st a w fm ts->∃ fm' ts',SR N0 W0 n al a w fm' ts'/\AT N0 fm ts fm' ts'
theorem Ae.trans {n:Nat}{a b c:St} (h:Ae n a b) (k:Ae n b c):Ae n a c:=by
 intro N0 W0 x w fm ts hS
 obtain⟨f1,t1,h1,h2⟩:=h N0 W0 x w fm ts hS
 obtain⟨f2,t2,h3,h4⟩:=k N0 W0 x w f1 t1 h1
 exact⟨f2,t2,h3,h2.trans h4⟩
theorem AK.qk {todo:List It}{st al:St} (hw:Ae n st al) (h:AK P n Φ todo al):AK P n Φ todo st:=by
 intro N0 W0 fm ts a w ct Q hS ey hQ
 obtain⟨fm',ts',h1,h2⟩:=hw N0 W0 a w fm ts hS
 exact h N0 W0 fm' ts' a w ct Q h1 (ey.later h2) (fun e s x w' f t gr hs hl=>hQ e s x w' f t gr hs (h2.trans hl))
theorem AK.mono {Ψ:Exit->St->Prop} (gr:∀ e st,Φ e st->Ψ e st) {todo:List It}{st:St} (h:AK P n Φ todo st):AK P n Ψ todo st:=by
 intro N0 W0 fm ts a w ct Q hS ey hQ
 exact h N0 W0 fm ts a w ct Q hS ey (fun e s x w' f t hp hs hl=>hQ e s x w' f t (gr e s hp) hs hl)
theorem AK.loop (Inv:Nat->St->Prop) (m:Nat) {st p8:St}{b:SC}{todo:List It} (hw:Ae n st p8) (h0:Inv m p8)
  (h:∀ m st,Inv m st->AK P n Φ (.sc b::.back (fun al=>∃ yk m',m'<m/\Ae n al yk/\Inv m' yk)::todo) st):AK P n Φ (.sc (.loop b)::todo) st:=by
 refine AK.qk hw ?_
 intro N0 W0 fm ts a w ct Q hS ey hQ
 obtain⟨c,aX,jz,hb,hf,ht,hK⟩:=ey.aa2 (P:=P) rfl
 apply hK
 cases c<;>simp only[SC.bare,erase,reduceCtorEq]at hb
 case loop cb=>
  simp only[SC.loop.injEq]at hb
  simp only[erase,SC.fits]at hf
  refine Ee (fun m a w=>∃ st fm' ts',Inv m st/\SR N0 W0 n st a w fm' ts'/\AT N0 fm ts fm' ts') m ⟨p8,fm,ts,h0,hS,AT.refl _ _⟩ ?_
  rintro m a w ⟨st,fm',ts',hI,bZ,hL⟩
  refine h m st hI N0 W0 fm' ts' a w _ Q bZ (.sc hb hf (.back ?_ (ht.later hL))) (fun e s x w' f t hp hs hl=>hQ e s x w' f t hp hs (hL.trans hl))
  rintro al a' w' dw cE ⟨yk,m',ab,pJ,hI'⟩ cL bU
  obtain⟨eM,fv,h3,h4⟩:=pJ N0 W0 a' w' dw cE cL
  exact⟨m',ab,yk,eM,fv,hI',h3,(hL.trans bU).trans h4⟩
 case region id ops dr=>cases dr<;>simp[erase]at hb
 case scope b=>exact absurd rfl (jz b)
def idx:List Nat->Nat->Option Nat
 |[],_=>none
 |x::l,k=>if x=k then some 0 else (idx l k).map (·+1)
theorem aax:∀ (ks:List Nat) (k i:Nat),idx ks k=some i->ks[i]?=some k
 |[],k,i,h=>by simp[idx]at h
 |x::l,k,i,h=>by
  simp only[idx]at h
  split at h
  ·rename_i e
   obtain rfl:=oi h
   simp[e]
  ·simp only[mS]at h
   obtain⟨j,h1,rfl⟩:=h
   simpa using aax l k j h1
def nf (ks:List Nat) (l k:Nat):Option Nat:=
 match l with
 |0=>idx ks k
 |_+1=>some k
mutual
def AV.aE (ks:List Nat):AV->Option AV
 |.loc l k e i n g=>(nf ks l k).map fun k=>.loc l k e i n g
 |.bd l k e o n=>(nf ks l k).map fun k=>.bd l k e o n
 |.ptr l k o=>(nf ks l k).map fun k=>.ptr l k o
 |.aR l k e i o g=>(nf ks l k).map fun k=>.aR l k e i o g
 |.fn f a b=>match AV.cI ks a,AV.cI ks b with
  |some a,some b=>some (.fn f a b)
  |_,_=>none
 |.bA t v=>(v.aE ks).map (.bA t)
 |.agg cs=>(AV.cI ks cs).map .agg
 |.ak vs=>(AV.cI ks vs).map .ak
 |.bool b=>some (.bool b)
 |.int k n=>some (.int k n)
 |.str s=>some (.str s)
 |.nil=>some .nil
 |.sl e es=>some (.sl e es)
 |.bf=>some .bf
 |.aq e es i o=>some (.aq e es i o)
 |.bo=>some .bo
 |.bp=>some .bp
 |.mp r_=>some (.mp r_)
 |.dead=>some .dead
def AV.cI (ks:List Nat):List AV->Option (List AV)
 |[]=>some []
 |x::l=>match x.aE ks,AV.cI ks l with
  |some x,some l=>some (x::l)
  |_,_=>none
end
def dJ (ks:List Nat) (t:Ah):Ah:=fun i=>(ks[i]?).bind t
theorem np {ks:List Nat}{t:Ah}{rest:List Ah}{l k k':Nat} (h:nf ks l k=some k'):tb (dJ ks t::rest) l k'=tb (t::rest) l k:=by
 cases l with
 |zero=>simp only[tb,dJ,aax ks k k' h,Av]
 |succ l=>simp only[nf,oE]at h;subst h;rfl
theorem pX (ks:List Nat):∀ (cs ys:List AV),AV.cI ks cs=some ys->ys.length=cs.length/\∀ (i:Nat) (x:AV),cs[i]?=some x->∃ y,ys[i]?=some y/\x.aE ks=some y
 |[],ys,h=>by simp only[AV.cI,oE]at h;subst h;simp
 |x::l,ys,h=>by
  simp only[AV.cI]at h
  split at h
  ·rename_i a b ha hb
   obtain rfl:=oi h
   have ih:=pX ks l b hb
   refine⟨by simp[ih.1],?_⟩
   intro i z hz
   cases i with
   |zero=>simp only[BG,oE]at hz;subst hz;exact⟨a,by simp,ha⟩
   |succ i=>simp only[BE]at hz ⊢;exact ih.2 i z hz
  ·cases h
theorem aed {ks:List Nat}{x y:AV} (h:x.aE ks=some y):y.flat=x.flat:=by
 cases x with
 |fn f a b=>
  simp only[AV.aE]at h
  split at h
  ·obtain rfl:=oi h;simp[AV.flat]
  ·cases h
 |_=>
  first
  |(simp only[AV.aE,oE]at h;subst h;simp[AV.flat];done)
  |(simp only[AV.aE,mS]at h;obtain⟨a,_,rfl⟩:=h;simp[AV.flat];done)
theorem VR.aE {ks:List Nat}{t:Ah}{rest:List Ah}{ec:List Ah}{x:AV}{v:Value} (hv:VR fm ec x v):ec=t::rest->∀ {y:AV},x.aE ks=some y->VR fm (dJ ks t::rest) y v:=by
 induction hv with
 |bool b=>intro _ y e;simp only[AV.aE,oE]at e;subst e;exact .bool b
 |int k n=>intro _ y e;simp only[AV.aE,oE]at e;subst e;exact .int k n
 |str s=>intro _ y e;simp only[AV.aE,oE]at e;subst e;exact .str s
 |nil=>intro _ y e;simp only[AV.aE,oE]at e;subst e;exact .nil
 |cm e a cap=>intro _ y e;simp only[AV.aE,oE]at e;subst e;exact .cm _ a cap
 |sl es cb off esz cap u cD h1 h2 h3 h4 _=>intro _ y e;simp only[AV.aE,oE]at e;subst e;exact .sl es cb off esz cap u cD h1 h2 h3 h4
 |bW l k esz i n g a cp h cR ha=>
  rintro rfl y e;simp only[AV.aE,mS]at e;obtain⟨k',hk,rfl⟩:=e;exact .bW _ _ esz i n g a cp ((np hk).trans h) cR ha
 |bX l k esz i n g a cp m' c h ab cR ha=>
  rintro rfl y e;simp only[AV.aE,mS]at e;obtain⟨k',hk,rfl⟩:=e;exact .bX _ _ esz i n g a cp m' c ((np hk).trans h) ab cR ha
 |bI l k esz a h=>
  rintro rfl y e;simp only[AV.aE,mS]at e;obtain⟨k',hk,rfl⟩:=e;exact .bI _ _ esz a ((np hk).trans h)
 |loc l k esz i n g c cap cp a h cR bh hc ha=>
  rintro rfl y e;simp only[AV.aE,mS]at e;obtain⟨k',hk,rfl⟩:=e;exact .loc _ _ esz i n g c cap cp a ((np hk).trans h) cR bh hc ha
 |bd l k esz o n c cp a h cR ha=>
  rintro rfl y e;simp only[AV.aE,mS]at e;obtain⟨k',hk,rfl⟩:=e;exact .bd _ _ esz o n c cp a ((np hk).trans h) cR ha
 |bf=>intro _ y e;simp only[AV.aE,oE]at e;subst e;exact .bf
 |ptr l k o c h=>
  rintro rfl y e;simp only[AV.aE,mS]at e;obtain⟨k',hk,rfl⟩:=e;exact .ptr _ _ o c ((np hk).trans h)
 |dF l k esz i o g a h=>
  rintro rfl y e;simp only[AV.aE,mS]at e;obtain⟨k',hk,rfl⟩:=e;exact .dF _ _ esz i o g a ((np hk).trans h)
 |dG l k esz i o g a m' c h ab=>
  rintro rfl y e;simp only[AV.aE,mS]at e;obtain⟨k',hk,rfl⟩:=e;exact .dG _ _ esz i o g a m' c ((np hk).trans h) ab
 |aR l k esz i o g c cap h=>
  rintro rfl y e;simp only[AV.aE,mS]at e;obtain⟨k',hk,rfl⟩:=e;exact .aR _ _ esz i o g c cap ((np hk).trans h)
 |aq es i o cb off esz u h1 h2 h3 h4 _=>intro _ y e;simp only[AV.aE,oE]at e;subst e;exact .aq es i o cb off esz u h1 h2 h3 h4
 |bo=>intro _ y e;simp only[AV.aE,oE]at e;subst e;exact .bo
 |fn f first cap vf vc h1 h2 _ _ fE eP=>
  intro e0 y e
  simp only[AV.aE]at e
  split at e
  ·rename_i a b ha hb
   obtain rfl:=oi e
   have g1:=pX ks _ _ ha
   have g2:=pX ks _ _ hb
   refine .fn f _ _ vf vc (g1.1.trans h1) (g2.1.trans h2) ?_ ?_
   ·intro i x v hx hv
    have ab:i<first.length:=by rw[<-g1.1];exact(gS.1 hx).1
    obtain⟨z,hz,hr⟩:=g1.2 i _ (gG ab)
    rw[hx]at hz;obtain rfl:=oi hz
    exact fE i _ v (gG ab) hv e0 hr
   ·intro i x v hx hv
    have ab:i<cap.length:=by rw[<-g2.1];exact(gS.1 hx).1
    obtain⟨z,hz,hr⟩:=g2.2 i _ (gG ab)
    rw[hx]at hz;obtain rfl:=oi hz
    exact eP i _ v (gG ab) hv e0 hr
  ·cases e
 |bp=>intro _ y e;simp only[AV.aE,oE]at e;subst e;exact .bp
 |mp r_=>intro _ y e;simp only[AV.aE,oE]at e;subst e;exact .mp r_
 |bA t x v _ ih=>
  intro e0 y e
  simp only[AV.aE,mS]at e
  obtain⟨z,hz,rfl⟩:=e
  exact .bA t _ v (ih e0 hz)
 |agg cs vs h1 h2 _ ih=>
  intro e0 y e
  simp only[AV.aE,mS]at e
  obtain⟨z,hz,rfl⟩:=e
  have g:=pX ks _ _ hz
  refine .agg _ vs (g.1.trans h1) ?_ ?_
  ·intro x hx
   obtain⟨i,hi⟩:=Bl.1 hx
   have ab:i<cs.length:=by rw[<-g.1];exact(gS.1 hi).1
   obtain⟨q,hq,hr⟩:=g.2 i _ (gG ab)
   rw[hi]at hq;obtain rfl:=oi hq
   rw[aed hr];exact h2 _ (List.getElem_mem ab)
  ·intro i x v hx hv
   have ab:i<cs.length:=by rw[<-g.1];exact(gS.1 hx).1
   obtain⟨q,hq,hr⟩:=g.2 i _ (gG ab)
   rw[hx]at hq;obtain rfl:=oi hq
   exact ih i _ v (gG ab) hv e0 hr
 |ak xs vs h1 _ ih=>
  intro e0 y e
  simp only[AV.aE,mS]at e
  obtain⟨z,hz,rfl⟩:=e
  have g:=pX ks _ _ hz
  refine .ak _ vs (g.1.trans h1) ?_
  intro i x v hx hv
  have ab:i<xs.length:=by rw[<-g.1];exact(gS.1 hx).1
  obtain⟨q,hq,hr⟩:=g.2 i _ (gG ab)
  rw[hx]at hq;obtain rfl:=oi hq
  exact ih i _ v (gG ab) hv e0 hr
 |dead v=>intro _ y e;simp only[AV.aE,oE]at e;subst e;exact .dead v
def Ap.aE (ks:List Nat):Ap->Option Ap
 |.arr et e es=>some (.arr et e es)
 |.box cs=>(AV.cI ks cs).map .box
def iD (ks:List Nat) (fr:Aj):Nat->List Nat->Option Aj
 |_,[]=>some []
 |i,k::r=>match look fr k with
  |none=>iD ks fr (i+1) r
  |some b=>match b.aE ks,iD ks fr (i+1) r with
   |some b,some l=>some ((i,b)::l)
   |_,_=>none
def pY (ks:List Nat) (tm:List (Nat×AV)):List Nat->Option (List (Nat×AV))
 |[]=>some []
 |t::r=>match look tm t with
  |none=>none
  |some x=>match x.aE ks,pY ks tm r with
   |some x,some l=>some ((t,x)::l)
   |_,_=>none
def St.norm (st:St) (kY ks:List Nat) (nx:Nat):Option St:=
 match pY ks st.tm kY,iD ks st.fr 0 ks with
 |some tm,some fr=>some ⟨tm,fr,st.low,nx,st.nt⟩
 |_,_=>none
theorem aea (ks:List Nat) (fr:Aj):∀ (r:List Nat) (i:Nat) (f:Aj),iD ks fr i r=some f->∀ j b,look f j=some b->i<=j/\∃ k b0,r[j - i]?=some k/\look fr k=some b0/\b0.aE ks=some b
 |[],i,f,h,j,b,hj=>by simp only[iD,oE]at h;subst h;simp[look]at hj
 |k::r,i,f,h,j,b,hj=>by
  have step:∀ f',iD ks fr (i+1) r=some f'->look f' j=some b->i<=j/\∃ k' b0,(k::r)[j - i]?=some k'/\look fr k'=some b0/\b0.aE ks=some b:=by
   intro f' h1 h2
   obtain⟨h3,k',b0,h4,h5,h6⟩:=aea ks fr r (i+1) f' h1 j b h2
   refine⟨by omega,k',b0,?_,h5,h6⟩
   have e:j - i=(j - (i+1))+1:=by omega
   rw[e,BE];exact h4
  simp only[iD]at h
  split at h
  ·exact step f h hj
  ·rename_i b0 fV
   split at h
   ·rename_i b' l cg hl
    obtain rfl:=oi h
    simp only[look]at hj
    split at hj
    ·rename_i e
     subst e
     obtain rfl:=oi hj
     exact⟨A7 _,k,b0,by simp,fV,cg⟩
    ·exact step l hl hj
   ·cases h
theorem aa0 (ks:List Nat) (tm:List (Nat×AV)):∀ (r:List Nat) (f:List (Nat×AV)),pY ks tm r=some f->∀ t y,look f t=some y->∃ x,look tm t=some x/\x.aE ks=some y
 |[],f,h,t,y,hy=>by simp only[pY,oE]at h;subst h;simp[look]at hy
 |t0::r,f,h,t,y,hy=>by
  simp only[pY]at h
  split at h
  ·cases h
  ·rename_i x hx
   split at h
   ·rename_i x' l eO hl
    obtain rfl:=oi h
    simp only[look]at hy
    split at hy
    ·rename_i e
     subst e
     obtain rfl:=oi hy
     exact⟨x,hx,eO⟩
    ·exact aa0 ks tm r l hl t y hy
   ·cases h
theorem HR.aE {t:Ah}{rest:List Ah}{fr aH:Aj}{low:Heap}{w:World}{ks:List Nat} (h:HR N0 W0 fm (t::rest) (fr::low) w) (hf:iD ks fr 0 ks=some aH) (bw:ks.Nodup):
  HR N0 W0 fm (dJ ks t::rest) (aH::low) w:=by
 have src:∀ l k b,Heap.get (aH::low) l k=some b->∃ k0 b0,Heap.get (fr::low) l k0=some b0/\tb (dJ ks t::rest) l k=tb (t::rest) l k0/\(l=0->ks[k]?=some k0/\b0.aE ks=some b)/\(l≠0->k0=k/\b0=b):=by
  intro l k b hg
  cases l with
  |zero=>
   obtain⟨_,k0,b0,h1,h2,h3⟩:=aea ks fr ks 0 aH hf k b (by simpa [Heap.get] using hg)
   have h1:ks[k]?=some k0:=by simpa using h1
   exact⟨k0,b0,by simpa [Heap.get] using h2,by simp[tb,dJ,h1],fun _=>⟨h1,h3⟩,fun h=>absurd rfl h⟩
  |succ l=>exact⟨k,b,by simpa [Heap.get] using hg,by simp[tb],fun h=>by omega,fun _=>⟨rfl,rfl⟩⟩
 refine⟨by have:=h.len;simpa using this,?_,?_,h.bL,?_,h.bJ,h.size,h.bj⟩
 ·intro l k b hg
  obtain⟨k0,b0,h1,h2,h3,h4⟩:=src l k b hg
  rw[h2]
  have hb:=h.aj l k0 b0 h1
  cases l with
  |zero=>
   obtain⟨_,hr⟩:=h3 rfl
   simp only[List.drop_zero]at hb ⊢
   generalize tb (t::rest) 0 k0=tt at hb
   cases hb with
   |box c cs hN hB=>
    simp only[Ap.aE,mS]at hr
    obtain⟨ys,hy,rfl⟩:=hr
    have g:=pX ks _ _ hy
    obtain⟨cells,et,c1,c2,c3⟩:=hB
    refine .box c _ hN ⟨cells,et,c1,by rw[g.1];exact c2,?_⟩
    intro o x v hx hv
    have ab:o<cs.length:=by rw[<-g.1];exact(gS.1 hx).1
    obtain⟨z,hz,hzr⟩:=g.2 o _ (gG ab)
    rw[hx]at hz;obtain rfl:=oi hz
    have:=c3 o _ v (gG ab) hv
    exact⟨by rw[aed hzr];exact this.1,this.2.aE rfl hzr⟩
   |nil et esz=>simp only[Ap.aE,oE]at hr;subst hr;exact .nil et esz
   |arr et esz es c cap hN hA=>simp only[Ap.aE,oE]at hr;subst hr;exact .arr et esz es c cap hN hA
  |succ l=>
   obtain⟨rfl,rfl⟩:=h4 (by omega)
   simpa using hb
 ·intro l1 k1 l2 k2 b1 b2 c g1 g2 t1 t2
  obtain⟨j1,a1,p1,q1,r1,s1⟩:=src l1 k1 b1 g1
  obtain⟨j2,a2,p2,q2,r2,s2⟩:=src l2 k2 b2 g2
  rw[q1]at t1
  rw[q2]at t2
  obtain⟨rfl,rfl⟩:=h.inj l1 j1 l2 j2 a1 a2 c p1 p2 t1 t2
  refine⟨rfl,?_⟩
  by_cases hl:l1=0
  ·have e1:=(r1 hl).1
   have e2:=(r2 hl).1
   have pB:=(gS.1 e1).1
   exact(List.getElem?_inj pB bw).1 (e1.trans e2.symm)
  ·have e1:=(s1 hl).1
   have e2:=(s2 hl).1
   omega
 ·intro l k b c o hg ht
  obtain⟨k0,b0,h1,h2,_,_⟩:=src l k b hg
  rw[h2]at ht
  exact h.dx l k0 b0 c o h1 ht
theorem Ae.norm {st al:St}{kY ks:List Nat}{nx:Nat} (e:st.norm kY ks nx=some al) (bw:ks.Nodup) (tK:ks.length<=nx):Ae n st al:=by
 intro N0 W0 a w fm ts h
 unfold St.norm at e
 split at e
 ·rename_i tm fr de py
  obtain rfl:=oi e
  cases ts with
  |nil=>have:=h.hr.len;simp at this
  |cons t rest=>
   refine⟨fm,dJ ks t::rest,⟨h.hr.aE py bw,?_,?_,h.size,h.cV⟩,⟨Ax.refl _ _,Ak.refl _,fun _ _ h=>h⟩⟩
   ·intro i y hy
    obtain⟨x,h1,h2⟩:=aa0 ks st.tm kY tm de i y hy
    obtain⟨v,h3,h4⟩:=h.tm i x h1
    exact⟨v,h3,h4.aE rfl h2⟩
   ·intro k hk
    have dH:nx<=k:=hk
    simp only[tb,dJ]
    rw[CE (by omega)];rfl
 ·cases e
end
section
variable [Md] {P:Program}{T:Aw}{N0:Nat}{W0:World}{n:Nat}{fm:FM}{ts:List Ah}
def xX (T:Aw) (st:St):ResultVar->Option AV
 |.tmp t=>look st.tm t
 |.cell a t=>match T t,look st.tm a with
  |some ti,some x=>ly st.get ti x
  |_,_=>none
def fb (T:Aw) (st:St):List ResultVar->Option (List AV)
 |[]=>some []
 |r::l=>match xX T st r,fb T st l with
  |some x,some l=>some (x::l)
  |_,_=>none
def bC:List AV->AV
 |[x]=>x
 |l=>.ak l
theorem ajM (hT:AG P T) {st:St}{a:Act}{w:World} (h:SR N0 W0 n st a w fm ts) {r:ResultVar}{x:AV} (e:xX T st r=some x):
  ∃ v,(match r with
   |.tmp t=>(pure (a.tmps.getD t undef):Sem Value)
   |.cell b t=>do loadVar t (<-asAddr (a.tmps.getD b undef))).run P w=.ok v w/\VR fm ts x v:=by
 cases r with
 |tmp t=>
  obtain⟨v,h1,h2⟩:=h.tm t x e
  exact⟨v,by simp[Array.getD_eq_getD_getElem?,h1],h2⟩
 |cell b t=>
  simp only[xX]at e
  split at e
  ·rename_i ti y ht hy
   obtain⟨v,h1,h2⟩:=h.tm b y hy
   obtain⟨u,h3,h4⟩:=ack (P:=P) hT ht h.hr h2 e
   refine⟨u,?_,h4⟩
   have hg:a.tmps.getD b undef=v:=by simp[Array.getD_eq_getD_getElem?,h1]
   unfold ly at e
   cases hc:fP st.get ti.size y with
   |none=>rw[hc]at e;cases e
   |some cs=>
    obtain⟨ad,vs,rfl,_⟩:=h.hr.fP h2 hc
    simp only[hg,asAddr,Sem.run_bind,Sem.run_pure,Result.andThen_ok]
    simpa [Instr.loadAt,Instr.sureAddr] using h3
  ·cases e
theorem ng (hT:AG P T) {st:St}{a:Act}{w:World} (h:SR N0 W0 n st a w fm ts) {fn:Func}{xs:List AV} (e:fb T st fn.results.toList=some xs):
  ∃ v,(results fn a.tmps).run P w=.ok v w/\VR fm ts (bC xs) v:=by
 have key:∀ (l:List ResultVar) (xs:List AV),fb T st l=some xs->∃ vs:List Value,(l.mapM (m:=Sem) fun
   |.tmp t=>(pure (a.tmps.getD t undef):Sem Value)
   |.cell b t=>do loadVar t (<-asAddr (a.tmps.getD b undef))).run P w=.ok vs w/\Am fm ts xs vs:=by
  intro l
  induction l with
  |nil=>intro xs e;simp only[fb,oE]at e;subst e;exact⟨[],by simp,rfl,fun i x v h=>by simp at h⟩
  |cons r l ih=>
   intro xs e
   simp only[fb]at e
   split at e
   ·rename_i x l' hx hl
    obtain rfl:=oi e
    obtain⟨v,h1,h2⟩:=ajM (P:=P) hT h hx
    obtain⟨vs,h3,h4⟩:=ih l' hl
    refine⟨v::vs,?_,by simp[h4.1],?_⟩
    ·simp only[List.mapM_cons,Sem.run_bind,h1,h3,Result.andThen_ok,Sem.run_pure]
    ·intro i y u hy hu
     cases i with
     |zero=>simp only[BG,oE]at hy hu;subst hy hu;exact h2
     |succ i=>simp only[BE]at hy hu;exact h4.2 i y u hy hu
   ·cases e
 obtain⟨vs,h1,h2⟩:=key _ _ e
 have hr:(results fn a.tmps).run P w=.ok (if h:vs.toArray.size=1 then vs.toArray[0] else .tuple vs.toArray) w:=by
  unfold results
  rw[<-Array.toArray_toList (xs:=fn.results),List.mapM_toArray]
  simp only[Sem.run_bind,Sem.run_map,Sem.run_pure]
  erw [h1]
  rfl
 refine⟨_,hr,?_⟩
 have hl:=h2.1
 match xs,vs,hl,h2 with
 |[],[],_,h2=>exact .ak [] #[] rfl (fun i x v h=>by simp at h)
 |[x],[v],_,h2=>exact h2.2 0 x v rfl rfl
 |x::y::xs,v::u::vs,_,h2=>
  have:¬ ((v::u::vs).toArray.size=1):=by simp
  rw[dif_neg this]
  exact .ak _ _ (by simpa using h2.1) (fun i x v a b=>h2.2 i x v a (by simpa using b))
def oS:Nat->List AV->List (Nat×AV)
 |_,[]=>[]
 |i,x::l=>(i,x)::oS (i+1) l
theorem abj:∀ (l:List AV) (i t:Nat) (x:AV),look (oS i l) t=some x->i<=t/\l[t - i]?=some x
 |[],i,t,x,h=>by simp[oS,look]at h
 |y::l,i,t,x,h=>by
  simp only[oS,look]at h
  split at h
  ·rename_i e
   subst e
   obtain rfl:=oi h
   exact⟨A7 _,by simp⟩
  ·obtain⟨h1,h2⟩:=abj l (i+1) t x h
   refine⟨by omega,?_⟩
   have e:t - i=(t - (i+1))+1:=by omega
   rw[e,BE];exact h2
def St.enter (args:List AV) (H:Heap) (n:Nat):St:=⟨oS 0 args,[],H,0,n⟩
theorem HR.push {H:Heap}{w:World} (h:HR N0 W0 fm ts H w):HR N0 W0 fm (cj::ts) ([]::H) w:=by
 refine⟨by simp[h.len],?_,?_,h.bL,?_,h.bJ,h.size,h.bj⟩
 ·intro l k b hg
  cases l with
  |zero=>simp[Heap.get,look]at hg
  |succ l=>simpa [tb] using h.aj l k b (by simpa [Heap.get] using hg)
 ·intro l1 k1 l2 k2 b1 b2 c g1 g2 t1 t2
  cases l1 with
  |zero=>simp[Heap.get,look]at g1
  |succ l1=>
   cases l2 with
   |zero=>simp[Heap.get,look]at g2
   |succ l2=>
    have:=h.inj l1 k1 l2 k2 b1 b2 c (by simpa [Heap.get] using g1) (by simpa [Heap.get] using g2) (by simpa [tb] using t1) (by simpa [tb] using t2)
    exact⟨by omega,this.2⟩
 ·intro l k b c o hg ht
  cases l with
  |zero=>simp[Heap.get,look]at hg
  |succ l=>exact h.dx l k b c o (by simpa [Heap.get] using hg) (by simpa [tb] using ht)
theorem SR.enter {H:Heap}{w:World} (h:HR N0 W0 fm ts H w) {args:List AV}{vs:List Value} (hv:Am fm (cj::ts) args vs) {n:Nat} (hn:args.length<=n) (hm:Cu W0:=by exact Cu.gu _):
  SR N0 W0 n (St.enter args H n) { tmps:=vs.toArray++Array.replicate (n - vs.toArray.size) undef,defers:=Md.qL } w fm (cj::ts):=by
 have hl:=hv.1
 refine⟨h.push,?_,fun k _=>rfl,by simp;omega,rfl,hm⟩
 intro t x hx
 obtain⟨_,hx⟩:=abj args 0 t x hx
 simp only[Nat.sub_zero]at hx
 have ab:t<vs.length:=by rw[<-hl];exact(gS.1 hx).1
 refine⟨vs[t],?_,hv.2 t x _ hx (gG ab)⟩
 rw[Array.getElem?_append_left (by simpa using ab)]
 simp[ab]
inductive CU (R:AV->Aj->Heap->Prop) (v:AV) (st:St):Prop
 |own (ks:List Nat) (y:AV) (fr:Aj) (hn:ks.Nodup) (hk:ks.length<=16) (hy:v.aE ks=some y) (hf:iD ks st.fr 0 ks=some fr) (h:R y fr st.low)
 |ag (y:AV) (hy:v.ag st.get=some y) (hr:(v.refs.all fun p=>p.1==0)=true) (h:R y [] st.low)
def Ends (T:Aw) (rs:List ResultVar) (R:AV->Aj->Heap->Prop) (e:Exit) (st:St):Prop:=
 match e with
 |.normal|.ret=>∃ xs,fb T st rs=some xs/\CU R (bC xs) st
 |_=>False
theorem HR.pop {t:Ah}{f:Aj}{H:Heap}{w:World} (h:HR N0 W0 fm (t::ts) (f::H) w):HR N0 W0 fm ts H w:=by
 refine⟨by have:=h.len;simpa using this,?_,?_,h.bL,?_,h.bJ,h.size,h.bj⟩
 ·intro l k b hg
  simpa [tb] using h.aj (l+1) k b (by simpa [Heap.get] using hg)
 ·intro l1 k1 l2 k2 b1 b2 c g1 g2 t1 t2
  have:=h.inj (l1+1) k1 (l2+1) k2 b1 b2 c (by simpa [Heap.get] using g1) (by simpa [Heap.get] using g2) (by simpa [tb] using t1) (by simpa [tb] using t2)
  exact⟨by omega,this.2⟩
 ·intro l k b c o hg ht
  exact h.dx (l+1) k b c o (by simpa [Heap.get] using hg) (by simpa [tb] using ht)
theorem adA {r:List (Nat×Nat)} (hr:(r.all fun p=>p.1==0)=true):∀ (f:Aj) (H:Heap),∃ f',Heap.bk (f::H) (fq r)=f'::H:=by
 induction r with
 |nil=>intro f H;exact⟨f,rfl⟩
 |cons p r ih=>
  intro f H
  simp only[List.all_cons,AP,beq_iff_eq]at hr
  obtain⟨l,k⟩:=p
  obtain⟨h1,h2⟩:=hr
  simp only at h1
  subst h1
  exact ih h2 (del f k) H
end
section
variable {P:Program}{T:Aw}{N0:Nat}{W0:World}{n:Nat}{fm:FM}{ts:List Ah}
theorem BO.ft (hT : AG P T) {f : FuncId} {fn : Func} {c : Code} {sc : SC} {args : List AV} {H : Heap} {R : AV → Aj → Heap → Prop} (hf : P.funcs[f]? = some fn) (hb : fn.body = some c) (gq : (fn.name == "runtime.NumGoroutine") = false)
  (he:sc.bare=erase fn.ntmps c) (dy:(erase fn.ntmps c).fits fn.ntmps=true) (dR:args.length<=fn.ntmps)
  (h:AK P fn.ntmps (Ends T fn.results.toList fun y fr H'=>R y fr H') [.sc sc] (St.enter args H fn.ntmps)) (gJ:∀ y fr H',R y fr H'->H'.length=H.length):BO P f args H R:=by
 refine⟨⟨fn,hf,gq,by simp[hb]⟩,?_⟩
 intro N0 W0 fm ts w vs hH hv
 refine calls_of_wp hf hb ((qn []).1 ?_)
 have hS:=SR.enter hH hv dR
 have:=h N0 W0 fm (cj::ts) _ w [.code c] (bodyPost P fn fun e w'=>∃ v av aH H' fm' t' ts',e=.returned v/\R av aH H'/\H'.length=H.length/\HR N0 W0 fm' (t'::ts') (aH::H') w'/\VR fm' (t'::ts') av v/\Ax N0 fm fm'/\Ak ts ts'/\
   (∀ l k,tb ts l k=none->tb ts' l k=none)/\∀ k,16<=k->t' k=none) hS (.sc he dy .nil) ?_
 ·exact this
 ·intro e al a' w' fm' ts' hE bZ hL
  have fin:(∃ xs,fb T al fn.results.toList=some xs/\CU R (bC xs) al)->a'.defers=[]/\∃ v,(results fn a'.tmps).run P w'=.ok v w'/\∃ u2 av aH H' fm' t' ts',Ending.returned v=.returned u2/\R av aH H'/\H'.length=H.length/\HR N0 W0 fm' (t'::ts') (aH::H') w'/\VR fm' (t'::ts') av u2/\Ax N0 fm fm'/\Ak ts ts'/\
    (∀ l k,tb ts l k=none->tb ts' l k=none)/\∀ k,16<=k->t' k=none:=by
   rintro⟨xs,eA,hg⟩
   obtain⟨v,h1,h2⟩:=ng (P:=P) hT bZ eA
   refine⟨bZ.cV.1,v,h1,?_⟩
   cases ts' with
   |nil=>have:=bZ.hr.len;simp at this
   |cons t rest=>
    have e8:Ak ts rest:=by simpa using hL.fu
    have bx:∀ l k,tb ts l k=none->tb rest l k=none:=by simpa using hL.no
    cases hg with
    |own ks y fr hn hk hy py hR=>
     exact⟨v,y,fr,al.low,fm',dJ ks t,rest,rfl,hR,gJ _ _ _ hR,bZ.hr.aE py hn,h2.aE rfl hy,hL.cC,e8,bx,fun k dH=>by simp only[dJ];rw[CE (by omega)];rfl⟩
    |ag y hy hr hR=>
     have h3:=bZ.hr.ag (bC xs).refs h2 hy (fun _ h=>h)
     have h4:=bZ.hr.oj (bC xs).refs
     obtain⟨f',rj⟩:=adA hr al.fr al.low
     rw[rj]at h4
     have tU:∀ l k,tb (fL (t::rest) (bC xs).refs) (l+1) k=tb rest l k:=by
      intro l k
      rw[jO,if_neg]
      ·simp[tb]
      ·rintro⟨hm,_⟩
       have:=List.all_eq_true.1 hr _ hm
       simp at this
     have hlen:=aaD (bC xs).refs (t::rest)
     cases hg:fL (t::rest) (bC xs).refs with
     |nil=>rw[hg]at hlen;simp at hlen
     |cons t2 uQ=>
      rw[hg]at h4 tU
      have e2:∀ l k,tb uQ l k=tb rest l k:=fun l k=>by simpa [tb] using tU l k
      have bz:=bZ.hr.qS (bC xs).refs
      exact⟨v,y,[],al.low,_,cj,uQ,rfl,hR,gJ _ _ _ hR,h4.pop.push,h3.mono (AM.refl _) (Ak.nil _),hL.cC.trans bz,fun l k=>by rw[e2];exact e8 l k,fun l k hh=>by rw[e2];exact bx l k hh,fun _ _=>rfl⟩
  cases e with
  |normal=>exact fin hE
  |ret=>exact fin hE
  |_=>exact hE.elim
end
mutual
theorem zM (G:AA):∀ (x y:AV),x.ag G=some y->y.ag (fun _ _=>none)=some y
 |.loc l k e i n g,y,h=>by
  simp only[AV.ag]at h
  split at h
  ·split at h
   ·obtain rfl:=oi h;simp[AV.ag]
   ·cases h
  ·cases h
 |.nil,y,h=>by simp only[AV.ag,oE]at h;subst h;simp[AV.ag]
 |.bA t v,y,h=>by
  simp only[AV.ag,mS]at h
  obtain⟨a,h1,rfl⟩:=h
  simp only[AV.ag,zM G v a h1,AQ]
 |.agg cs,y,h=>by
  simp only[AV.ag,mS]at h
  obtain⟨a,h1,rfl⟩:=h
  simp only[AV.ag,sU G cs a h1,AQ]
 |.ak vs,y,h=>by
  simp only[AV.ag,mS]at h
  obtain⟨a,h1,rfl⟩:=h
  simp only[AV.ag,sU G vs a h1,AQ]
 |.bool b,y,h=>by simp only[AV.ag,oE]at h;subst h;simp[AV.ag]
 |.int k n,y,h=>by simp only[AV.ag,oE]at h;subst h;simp[AV.ag]
 |.str s,y,h=>by simp only[AV.ag,oE]at h;subst h;simp[AV.ag]
 |.sl e es,y,h=>by simp only[AV.ag,oE]at h;subst h;simp[AV.ag]
 |.bf,y,h=>by simp only[AV.ag,oE]at h;subst h;simp[AV.ag]
 |.bo,y,h=>by simp only[AV.ag,oE]at h;subst h;simp[AV.ag]
 |.bp,y,h=>by simp only[AV.ag,oE]at h;subst h;simp[AV.ag]
 |.mp r_,y,h=>by simp only[AV.ag,oE]at h;subst h;simp[AV.ag]
 |.fn f a b,y,h=>by
  simp only[AV.ag]at h
  split at h
  ·rename_i x z hx hz
   obtain rfl:=oi h
   simp only[AV.ag,sU G a x hx,sU G b z hz]
  ·cases h
 |.bd ..,y,h=>by simp[AV.ag]at h
 |.ptr ..,y,h=>by simp[AV.ag]at h
 |.aR ..,y,h=>by simp[AV.ag]at h
 |.aq ..,y,h=>by simp only[AV.ag,oE]at h;subst h;simp[AV.ag]
 |.dead,y,h=>by simp[AV.ag]at h
theorem sU (G:AA):∀ (l ys:List AV),AV.az G l=some ys->AV.az (fun _ _=>none) ys=some ys
 |[],ys,h=>by simp only[AV.az,oE]at h;subst h;rfl
 |x::l,ys,h=>by
  simp only[AV.az]at h
  split at h
  ·rename_i a b ha hb
   obtain rfl:=oi h
   simp only[AV.az,zM G x a ha,sU G l b hb]
  ·cases h
end
def AV.leaf:AV->Bool
 |.bool _|.int _ _|.str _|.nil|.bf|.bo|.bp|.mp _=>true
 |_=>false
def AV.cJ:AV->Bool
 |.agg cs=>cs.all AV.leaf
 |.ak vs=>vs.all AV.leaf
 |x=>x.leaf
theorem VR.leaf {fm fm':FM}{ts ts':List Ah}{x:AV}{v:Value} (h:VR fm ts x v) (hx:x.leaf=true):VR fm' ts' x v:=by
 cases h<;>first|(simp[AV.leaf]at hx;done)|constructor
theorem VR.cJ {fm fm':FM}{ts ts':List Ah}{x:AV}{v:Value} (h:VR fm ts x v) (hx:x.cJ=true):VR fm' ts' x v:=by
 cases h with
 |agg cs vs h1 h2 h3=>exact .agg cs vs h1 h2 (fun i x v a b=>(h3 i x v a b).leaf (List.all_eq_true.1 hx x (Ba a)))
 |ak xs vs h1 h3=>exact .ak xs vs h1 (fun i x v a b=>(h3 i x v a b).leaf (List.all_eq_true.1 hx x (Ba a)))
 |_=>first|(simp[AV.cJ,AV.leaf]at hx;done)|constructor
def CK (fm:FM) (w:World):Prop:=∀ b o v,fm b o=some v->w.cell? ⟨b,o,none⟩=some v
def An (P:Program) (f:FuncId) (args:List AV) (R:AV->Prop):Prop:=
 Enters P f/\∀ fm w vs,CK fm w->Am fm [] args vs->
  Calls P f vs.toArray w fun e w'=>∃ v y fm',e=.returned v/\R y/\CK fm' w'/\VR fm' [] y v/\Ax w.heap.size fm fm'/\Below w.heap.size w w'
def Cv (T:Aw) (rs:List ResultVar) (R:AV->Prop) (e:Exit) (st:St):Prop:=
 match e with
 |.normal|.ret=>st.low=[]/\∃ xs y,fb T st rs=some xs/\(bC xs).ag st.get=some y/\R y
 |_=>False
section
variable {P:Program}{T:Aw}{N0:Nat}{W0:World}{n:Nat}{fm:FM}{ts:List Ah}{H:Heap}{w:World}
theorem HR.nothing {w:World} (h:CK fm w):HR w.heap.size w fm [] [] w:=
 ⟨rfl,fun l k b hg=>by simp[Heap.get]at hg,fun l k l' k' b b' c hg=>by simp[Heap.get]at hg,h,fun l k b c o hg=>by simp[Heap.get]at hg,Below.refl _ _,A7 _,fun _ _ h _=>h⟩
theorem An.ft (hT : AG P T) {f : FuncId} {fn : Func} {c : Code} {sc : SC} {args : List AV} {R : AV → Prop} (hf : P.funcs[f]? = some fn) (hb : fn.body = some c) (gq : (fn.name == "runtime.NumGoroutine") = false)
  (he:sc.bare=erase fn.ntmps c) (dy:(erase fn.ntmps c).fits fn.ntmps=true) (dR:args.length<=fn.ntmps)
  (h:AK P fn.ntmps (Cv T fn.results.toList R) [.sc sc] (St.enter args [] fn.ntmps)):An P f args R:=by
 have hA:BO P f args [] (fun y fr H'=>fr=[]/\H'=[]/\y.ag (fun _ _=>none)=some y/\R y):=by
  refine BO.ft hT hf hb gq he dy dR (h.mono ?_) (by rintro y fr H' ⟨_,rfl,_⟩;rfl)
  intro e st hE
  have fin:(st.low=[]/\∃ xs y,fb T st fn.results.toList=some xs/\(bC xs).ag st.get=some y/\R y)->
    ∃ xs,fb T st fn.results.toList=some xs/\CU (fun y fr H'=>fr=[]/\H'=[]/\y.ag (fun _ _=>none)=some y/\R y) (bC xs) st:=by
   rintro⟨hl,xs,y,h1,h2,h3⟩
   refine⟨xs,h1,.ag y h2 ?_ ⟨rfl,hl,zM _ _ _ h2,h3⟩⟩
   rw[List.all_eq_true]
   intro p hp
   obtain⟨et,esz,es,hg⟩:=zP _ _ _ h2 p hp
   have ab:=Heap.nM _ _ _ _ (show Heap.get (st.fr::st.low) p.1 p.2=_ from hg)
   rw[hl]at ab
   simp at ab
   simp[ab]
  cases e with
  |normal=>exact fin hE
  |ret=>exact fin hE
  |_=>exact hE.elim
 refine⟨hA.1,fun fm w vs h1 h2=>Calls.mono (hA.2 w.heap.size w fm [] w vs (HR.nothing h1) (h2.mono (AM.refl _) (Ak.nil _))) ?_⟩
 rintro e w' ⟨v,av,aH,H',fm',t',ts',rfl,⟨rfl,rfl,hz,hR⟩,_,bu,aZ,bz,_,_,_⟩
 refine⟨v,av,fm',rfl,hR,bu.bL,?_,bz,bu.bJ⟩
 have:=bu.oX (cs:=[av]) (ys:=[av]) (vs:=[v]) ⟨rfl,fun i x u a b=>by
  cases i with
  |zero=>simp at a b;subst a b;exact aZ
  |succ i=>simp at a⟩ (by simp only[AV.az,hz])
 exact this.2 0 av v rfl rfl
theorem HR.up {fm':FM}{w':World} (h:HR N0 W0 fm ts H w) (hb:Below w.heap.size w w') (bz:Ax w.heap.size fm fm') (bl:CK fm' w'):HR N0 W0 fm' ts H w':=by
 have h1:=h.world (w':=w') (fun i hi=>hb.block i hi) (hb.mono h.size)
 refine⟨h1.len,fun l k b hg=>(h1.aj l k b hg).mono bz.le (Ak.refl _) (fun _ _=>rfl),h1.inj,bl,?_,h1.bJ,h1.size,h1.bj⟩
 intro l k b c o hg ht
 rw[bz.fix c o ((h.aj l k b hg).lt ht).1]
 exact h.dx l k b c o hg ht
theorem Ax.low {fm fm':FM}{a b:Nat} (h:Ax a fm fm') (hb:b<=a):Ax b fm fm':=⟨h.le,fun x o hx=>h.fix x o (by omega)⟩
theorem An.frozen {f:FuncId}{args aw:List AV}{R:AV->Prop} (hp:An P f aw R) (hz:AV.az (Heap.get ([]::H)) args=some aw) (hr:AV.aD args=[]):
  BO P f args H (fun y fr H'=>R y/\fr=[]/\H'=H):=by
 refine⟨hp.1,fun N0 W0 fm ts w vs hH hv=>?_⟩
 have h1:=hH.push.az [] hv hz (by rw[hr];simp)
 rw[wi]at h1
 refine Calls.mono (hp.2 fm w vs hH.bL h1) ?_
 rintro e w' ⟨v,y,fm',rfl,hR,bl,aZ,bz,hb⟩
 exact⟨v,y,[],H,fm',cj,ts,rfl,⟨hR,rfl,rfl⟩,rfl,(hH.up hb bz bl).push,aZ.mono (AM.refl _) (Ak.nil _),bz.low hH.size,Ak.refl _,fun _ _ h=>h,fun _ _=>rfl⟩
theorem An.borrow {f:FuncId}{args aw:List AV}{R:AV->Prop} (hp:An P f aw R) (hz:AV.az (Heap.get ([]::H)) args=some aw) (hs:∀ y,R y->y.cJ=true):
  BO P f args H (fun y fr H'=>R y/\fr=[]/\H'=H):=by
 refine⟨hp.1,fun N0 W0 fm ts w vs hH hv=>?_⟩
 have h1:=hH.push.az (AV.aD args) hv hz (fun _ h=>h)
 have h2:=(hH.push.oj (AV.aD args)).bL
 refine Calls.mono (hp.2 _ w vs h2 h1) ?_
 rintro e w' ⟨v,y,fm',rfl,hR,bl,aZ,bz,hb⟩
 have j4:HR N0 W0 fm ts H w':=hH.world (fun i hi=>hb.block i hi) (hb.mono hH.size)
 exact⟨v,y,[],H,fm,cj,ts,rfl,⟨hR,rfl,rfl⟩,rfl,j4.push,aZ.cJ (hs y hR),Ax.refl _ _,Ak.refl _,fun _ _ h=>h,fun _ _=>rfl⟩
end
mutual
def AV.br (G:AA) (F:Nat->Nat->Option (List AV)):AV->Option AV
 |.loc l k e i n g=>(AV.loc l k e i n g).ag G
 |.ptr l k o=>match F l k with
  |some ys=>some (.aq ys.length [ys] 0 o)
  |none=>none
 |.bd l k e o n=>match F l k with
  |some ys=>if e=1/\o+n<=ys.length/\n<=65536 then some (.sl 1 (((ys.drop o).take n).map fun c=>[c])) else none
  |none=>none
 |.fn f a b=>match AV.cB G F a,AV.cB G F b with
  |some a,some b=>some (.fn f a b)
  |_,_=>none
 |.bA t v=>(v.br G F).map (.bA t)
 |.agg cs=>(AV.cB G F cs).map .agg
 |.ak vs=>(AV.cB G F vs).map .ak
 |.nil=>some .nil
 |.bool b=>some (.bool b)
 |.int k n=>some (.int k n)
 |.str s=>some (.str s)
 |.sl e es=>some (.sl e es)
 |.bf=>some .bf
 |.bo=>some .bo
 |.bp=>some .bp
 |.mp r_=>some (.mp r_)
 |.aq e es i o=>some (.aq e es i o)
 |_=>none
def AV.cB (G:AA) (F:Nat->Nat->Option (List AV)):List AV->Option (List AV)
 |[]=>some []
 |x::l=>match x.br G F,AV.cB G F l with
  |some x,some l=>some (x::l)
  |_,_=>none
end
def cF (G:AA):Nat->Nat->Nat->Option (List AV)
 |0,_,_=>none
 |n+1,l,k=>match G l k with
  |some (.box cs)=>AV.cB G (cF G n) (AV.ck l cs)
  |_=>none
theorem mw (G:AA) (F:Nat->Nat->Option (List AV)):∀ (cs ys:List AV),AV.cB G F cs=some ys->ys.length=cs.length/\∀ (i:Nat) (x:AV),cs[i]?=some x->∃ y,ys[i]?=some y/\x.br G F=some y
 |[],ys,h=>by simp only[AV.cB,oE]at h;subst h;simp
 |x::l,ys,h=>by
  simp only[AV.cB]at h
  split at h
  ·rename_i a b ha hb
   obtain rfl:=oi h
   have ih:=mw G F l b hb
   refine⟨by simp[ih.1],?_⟩
   intro i z hz
   cases i with
   |zero=>simp only[BG,oE]at hz;subst hz;exact⟨a,by simp,ha⟩
   |succ i=>simp only[BE]at hz ⊢;exact ih.2 i z hz
  ·cases h
theorem y8 {G:AA}{F:Nat->Nat->Option (List AV)}{x y:AV} (h:x.br G F=some y):y.flat=x.flat:=by
 cases x with
 |loc l k e i n g=>simp only[AV.br]at h;exact wk h
 |ptr l k o=>
  simp only[AV.br]at h
  split at h
  ·obtain rfl:=oi h;rfl
  ·cases h
 |bd l k e o n=>
  simp only[AV.br]at h
  split at h
  ·split at h
   ·obtain rfl:=oi h;rfl
   ·cases h
  ·cases h
 |fn f a b=>
  simp only[AV.br]at h
  split at h
  ·obtain rfl:=oi h;rfl
  ·cases h
 |_=>
  first
  |(simp[AV.br]at h;done)
  |(simp only[AV.br,oE]at h;subst h;simp[AV.flat];done)
  |(simp only[AV.br,mS]at h;obtain⟨a,_,rfl⟩:=h;simp[AV.flat];done)
section
variable {N0:Nat}{W0:World}{fm:FM}{ts:List Ah}{H:Heap}{w:World}
def gE (w:World):FM:=fun b o=>w.cell? ⟨b,o,none⟩
theorem HR.vT (h:HR N0 W0 fm ts H w) {fm':FM}{G:AA} (hle:AM fm fm') (hG:∀ l k b,G l k=some b->H.get l k=some b) (aV:∀ l k b c,G l k=some b->b9 (tb ts l k)=some c->∀ o u,w.cell? ⟨c,o,none⟩=some u->fm' c o=some u) (F:Nat->Nat->Option (List AV)) (hF:∀ l k ys c,F l k=some ys->tb ts l k=some (.box c)->(∀ o u,w.cell? ⟨c,o,none⟩=some u->fm' c o=some u)/\∃ cells et,w.heap[c]?=some (.cells cells et (0,0))/\cells.size=ys.length/\
   ∀ (o:Nat) y v,ys[o]?=some y->cells[o]?=some v->y.flat=true/\VR fm' [] y v) {ec:List Ah}{x:AV}{v:Value} (hv:VR fm ec x v):
  ec=ts->∀ {y:AV},x.br G F=some y->VR fm' [] y v:=by
 have loc:∀ {l k esz i n g v y},VR fm ts (.loc l k esz i n g) v->(AV.loc l k esz i n g).ag G=some y->VR fm' [] y v:=by
  intro l k esz i n g v y hv hy
  have gM:(AV.loc l k esz i n g).ag H.get=some y/\∃ b,G l k=some b:=by
   simp only[AV.ag]at hy ⊢
   split at hy
   ·rename_i et aC es hg
    rw[hG l k _ hg];exact⟨hy,_,hg⟩
   ·cases hy
  obtain⟨xH,b0,fV⟩:=gM
  refine(h.ag [(l,k)] hv xH (by simp[AV.refs])).mono ?_ (Ak.refl _)
  intro b o u hu
  unfold gF at hu
  split at hu
  ·rename_i hb
   obtain⟨l',k',b',hm,hg,_,ht⟩:=hb
   simp only[Cw,Prod.mk.injEq]at hm
   obtain⟨rfl,rfl⟩:=hm
   exact aV l' k' b0 b fV ht o u hu
  ·exact hle b o u hu
 induction hv with
 |bool b=>intro _ y e;simp only[AV.br,oE]at e;subst e;exact .bool b
 |int k n=>intro _ y e;simp only[AV.br,oE]at e;subst e;exact .int k n
 |str s=>intro _ y e;simp only[AV.br,oE]at e;subst e;exact .str s
 |nil=>intro _ y e;simp only[AV.br,oE]at e;subst e;exact .nil
 |cm e0 a cap=>intro _ y e;simp only[AV.br,oE]at e;subst e;exact .cm e0 a cap
 |sl es cb off esz cap u cD h1 h2 h3 h4 _=>intro _ y e;simp only[AV.br,oE]at e;subst e;exact(VR.sl es cb off esz cap u cD h1 h2 h3 h4 (ts:=[])).mono hle (Ak.refl _)
 |bW l k esz i n g a cp ht hn ha=>rintro rfl y e;exact loc (.bW l k esz i n g a cp ht hn ha) (by simpa only [AV.br] using e)
 |bX l k esz i n g a cp m' c ht ab hn ha=>rintro rfl y e;exact loc (.bX l k esz i n g a cp m' c ht ab hn ha) (by simpa only [AV.br] using e)
 |bI l k esz a ht=>rintro rfl y e;exact loc (.bI l k esz a ht) (by simpa only [AV.br] using e)
 |loc l k esz i n g c cap cp a ht hn bh hc ha=>rintro rfl y e;exact loc (.loc l k esz i n g c cap cp a ht hn bh hc ha) (by simpa only [AV.br] using e)
 |bd l k esz o n c cp a ht hn ha=>
  rintro rfl y e
  simp only[AV.br]at e
  split at e
  ·rename_i ys jD
   split at e
   ·rename_i hc
    obtain⟨rfl,alb,hn6⟩:=hc
    obtain rfl:=oi e
    obtain⟨bR,cells,et,c1,c2,c3⟩:=hF l k ys c jD ht
    have hlen:(((ys.drop o).take n).map fun c=>[c]).length=n:=by simp;omega
    have get:∀ (i:Nat) (d:List AV),(((ys.drop o).take n).map fun c=>[c])[i]?=some d->∃ x,d=[x]/\ys[o+i]?=some x:=by
     intro i d hd
     rw[Bz,mS]at hd
     obtain⟨x,hx,rfl⟩:=hd
     rw[Bx]at hx
     split at hx
     ·rw[BN]at hx;exact⟨x,rfl,hx⟩
     ·cases hx
    by_cases hcp:cp=0
    ·have:n=0:=by omega
     subst this
     simp only[List.take_zero,List.map_nil]
     exact .cm 1 (some a) cp
    ·have eN:=ha hcp
     subst eN
     have one:∀ (i:Nat) (d:List AV) (o':Nat) (x:AV),(((ys.drop o).take n).map fun c=>[c])[i]?=some d->d[o']?=some x->o'=0/\∃ u,cells[o+i]?=some u/\x.flat=true/\VR fm' [] x u:=by
      intro i d o' x hd hx
      obtain⟨y,rfl,hy⟩:=get i d hd
      cases o' with
      |succ o'=>simp at hx
      |zero=>
       simp only[BG,oE]at hx
       subst hx
       have ab:o+i<cells.size:=by rw[c2];exact(gS.1 hy).1
       have nR:=Bg ab
       exact⟨rfl,_,nR,c3 (o+i) y _ hy nR⟩
     have:=VR.sl (fm:=fm') (ts:=[]) (((ys.drop o).take n).map fun c=>[c]) c o 1 cp (fun i _=>(cells[o+i]?).getD default) (by rw[hlen];exact⟨hn,by simp[maxLen];omega⟩) (by
       intro d hd
       simp only[List.mem_map]at hd
       obtain⟨z,_,rfl⟩:=hd;rfl)
      (by
       intro i d o' x hd hx
       obtain⟨rfl,u,hu,_,_⟩:=one i d o' x hd hx
       refine bR _ _ ?_
       simp only[World.cell?,c1,Nat.mul_one,Nat.add_zero,hu]
       simp)
      (fun i d o' x hd hx=>(one i d o' x hd hx).2.elim fun u hu=>hu.2.1)
      (by
       intro i d o' x hd hx
       obtain⟨rfl,u,hu,_,hv⟩:=one i d o' x hd hx
       rw[hu]
       exact hv)
     rw[hlen]at this
     exact this
   ·cases e
  ·cases e
 |bf=>intro _ y e;simp only[AV.br,oE]at e;subst e;exact .bf
 |ptr l k o c ht=>
  rintro rfl y e
  simp only[AV.br]at e
  split at e
  ·rename_i ys jD
   obtain rfl:=oi e
   obtain⟨bR,cells,et,c1,c2,c3⟩:=hF l k ys c jD ht
   have one:∀ (i:Nat) (cc:List AV) (o:Nat) (x:AV),[ys][i]?=some cc->cc[o]?=some x->i=0/\∃ u,cells[o]?=some u/\x.flat=true/\VR fm' [] x u:=by
    intro i cc o x hi ho
    cases i with
    |succ i=>simp at hi
    |zero=>
     simp only[BG,oE]at hi
     subst hi
     have ab:o<cells.size:=by rw[c2];exact(gS.1 ho).1
     have nR:=Bg ab
     exact⟨rfl,_,nR,c3 o x _ ho nR⟩
   have:=VR.aq (fm:=fm') (ts:=[]) [ys] 0 o c 0 ys.length (fun _ o=>(cells[o]?).getD default) (by intro cc bR;simp at bR;rw[bR])
    (by
     intro i cc o x hi ho
     obtain⟨rfl,u,hu,_,_⟩:=one i cc o x hi ho
     refine bR _ _ ?_
     simp only[World.cell?,c1,Nat.zero_mul,B6,hu]
     simp)
    (fun i cc o x hi ho=>(one i cc o x hi ho).2.elim fun u hu=>hu.2.1)
    (by
     intro i cc o x hi ho
     obtain⟨rfl,u,hu,_,hv⟩:=one i cc o x hi ho
     rw[hu]
     exact hv)
   simpa using this
  ·cases e
 |dF l k esz i o g a ht=>intro _ y e;simp[AV.br]at e
 |dG l k esz i o g a m' c ht ab=>intro _ y e;simp[AV.br]at e
 |aR l k esz i o g c cap ht=>intro _ y e;simp[AV.br]at e
 |aq es i o cb off esz u h1 h2 h3 h4 _=>intro _ y e;simp only[AV.br,oE]at e;subst e;exact(VR.aq es i o cb off esz u h1 h2 h3 h4 (ts:=[])).mono hle (Ak.refl _)
 |bo=>intro _ y e;simp only[AV.br,oE]at e;subst e;exact .bo
 |fn f first cap vf vc h1 h2 _ _ fE eP=>
  rintro rfl y e
  simp only[AV.br]at e
  split at e
  ·rename_i a b ha hb
   simp only[oE]at e;subst e
   have g1:=mw G F _ _ ha
   have g2:=mw G F _ _ hb
   refine .fn f a b vf vc (by rw[g1.1];exact h1) (by rw[g2.1];exact h2) ?_ ?_
   ·intro i x v hx hv
    have ab:i<first.length:=by rw[<-g1.1];exact(gS.1 hx).1
    obtain⟨y,hy,hu⟩:=g1.2 i _ (gG ab)
    rw[hx]at hy;obtain rfl:=oi hy
    exact fE i _ v (gG ab) hv rfl hu
   ·intro i x v hx hv
    have ab:i<cap.length:=by rw[<-g2.1];exact(gS.1 hx).1
    obtain⟨y,hy,hu⟩:=g2.2 i _ (gG ab)
    rw[hx]at hy;obtain rfl:=oi hy
    exact eP i _ v (gG ab) hv rfl hu
  ·cases e
 |bp=>intro _ y e;simp only[AV.br,oE]at e;subst e;exact .bp
 |mp r_=>intro _ y e;simp only[AV.br,oE]at e;subst e;exact .mp r_
 |bA t x v _ ih=>
  rintro rfl y e;simp only[AV.br,mS]at e;obtain⟨z,hz,rfl⟩:=e
  exact .bA t z v (ih rfl hz)
 |agg cs vs h1 h2 _ ih=>
  rintro rfl y e;simp only[AV.br,mS]at e;obtain⟨z,hz,rfl⟩:=e
  have g:=mw G F _ _ hz
  refine .agg z vs (by rw[g.1];exact h1) ?_ ?_
  ·intro x hx
   obtain⟨i,hi⟩:=Bl.1 hx
   have ab:i<cs.length:=by rw[<-g.1];exact(gS.1 hi).1
   obtain⟨y,hy,hu⟩:=g.2 i _ (gG ab)
   rw[hi]at hy;obtain rfl:=oi hy
   rw[y8 hu]
   exact h2 _ (List.getElem_mem ab)
  ·intro i x v hx hv
   have ab:i<cs.length:=by rw[<-g.1];exact(gS.1 hx).1
   obtain⟨y,hy,hu⟩:=g.2 i _ (gG ab)
   rw[hx]at hy;obtain rfl:=oi hy
   exact ih i _ v (gG ab) hv rfl hu
 |ak xs vs h1 _ ih=>
  rintro rfl y e;simp only[AV.br,mS]at e;obtain⟨z,hz,rfl⟩:=e
  have g:=mw G F _ _ hz
  refine .ak z vs (by rw[g.1];exact h1) ?_
  intro i x v hx hv
  have ab:i<xs.length:=by rw[<-g.1];exact(gS.1 hx).1
  obtain⟨y,hy,hu⟩:=g.2 i _ (gG ab)
  rw[hx]at hy;obtain rfl:=oi hy
  exact ih i _ v (gG ab) hv rfl hu
 |dead v=>intro _ y e;simp[AV.br]at e
theorem HR.br (h:HR N0 W0 fm ts H w) (F:Nat->Nat->Option (List AV)) (hF:∀ l k ys c,F l k=some ys->tb ts l k=some (.box c)->∃ cells et,w.heap[c]?=some (.cells cells et (0,0))/\cells.size=ys.length/\
   ∀ (o:Nat) y v,ys[o]?=some y->cells[o]?=some v->y.flat=true/\VR (gE w) [] y v) {ec:List Ah}{x:AV}{v:Value} (hv:VR fm ec x v):
  ec=ts->∀ {y:AV},x.br H.get F=some y->VR (gE w) [] y v:=by
 intro e y hy
 exact h.vT (fun b o v hv=>h.bL b o v hv) (fun _ _ _ h=>h) (fun _ _ _ _ _ _ _ _ h=>h) F (fun l k ys c a b=>⟨fun _ _ h=>h,hF l k ys c a b⟩) hv e hy
theorem HR.y9 (h:HR N0 W0 fm ts H w) (F:Nat->Nat->Option (List AV)) (hF:∀ l k ys c,F l k=some ys->tb ts l k=some (.box c)->∃ cells et,w.heap[c]?=some (.cells cells et (0,0))/\cells.size=ys.length/\
   ∀ (o:Nat) y v,ys[o]?=some y->cells[o]?=some v->y.flat=true/\VR (gE w) [] y v) {cs ys:List AV}{vs:List Value} (hv:Am fm ts cs vs) (e:AV.cB H.get F cs=some ys):Am (gE w) [] ys vs:=by
 have g:=mw H.get F _ _ e
 refine⟨g.1.trans hv.1,?_⟩
 intro i x v hx pK
 have ab:i<cs.length:=by rw[<-g.1];exact(gS.1 hx).1
 obtain⟨y,hy,hu⟩:=g.2 i _ (gG ab)
 rw[hx]at hy;obtain rfl:=oi hy
 exact h.br F hF (hv.2 i _ v (gG ab) pK) rfl hu
theorem HR.cF (h:HR N0 W0 fm ts H w):∀ (n l k:Nat) (ys:List AV) (c:Nat),cF H.get n l k=some ys->tb ts l k=some (.box c)->∃ cells et,w.heap[c]?=some (.cells cells et (0,0))/\cells.size=ys.length/\
   ∀ (o:Nat) y v,ys[o]?=some y->cells[o]?=some v->y.flat=true/\VR (gE w) [] y v:=by
 intro n
 induction n with
 |zero=>intro l k ys c e;simp[Abs.cF]at e
 |succ n ih=>
  intro l k ys c e ht
  simp only[Abs.cF]at e
  split at e
  ·rename_i cs hg
   have hb:=h.aj l k _ hg
   rw[ht]at hb
   cases hb with
   |box _ _ hN hB=>
    obtain⟨cells,et,c1,c2,c3⟩:=hB
    have g:=mw _ _ _ _ e
    have hlen:cells.size=ys.length:=by rw[g.1,kz];exact c2
    refine⟨cells,et,c1,hlen,?_⟩
    intro o y v hy hv
    have ab:o<(AV.ck l cs).length:=by rw[<-g.1];exact(gS.1 hy).1
    obtain⟨y',gM,hu⟩:=g.2 o _ (gG ab)
    rw[hy]at gM;obtain rfl:=oi gM
    have hx:(AV.ck l cs)[o]?=some (AV.ck l cs)[o]:=gG ab
    rw[ky,mS]at hx
    obtain⟨x0,dg,kW⟩:=hx
    have h3:=c3 o x0 v dg hv
    refine⟨by rw[y8 hu,<-kW,yi];exact h3.1,?_⟩
    rw[<-kW]at hu
    exact h.br _ ih (h3.2.sh l rfl) rfl hu
  ·cases e
def only (G:AA) (rs:List (Nat×Nat)):AA:=fun l k=>if rs.contains (l,k) then G l k else none
theorem HR.abW (h:HR N0 W0 fm ts H w) {fm':FM}{G:AA} (hle:AM fm fm') (hG:∀ l k b,G l k=some b->H.get l k=some b) (aV:∀ l k b c,G l k=some b->b9 (tb ts l k)=some c->∀ o u,w.cell? ⟨c,o,none⟩=some u->fm' c o=some u):
  ∀ (n l k:Nat) (ys:List AV) (c:Nat),Abs.cF G n l k=some ys->tb ts l k=some (.box c)->(∀ o u,w.cell? ⟨c,o,none⟩=some u->fm' c o=some u)/\∃ cells et,w.heap[c]?=some (.cells cells et (0,0))/\cells.size=ys.length/\
   ∀ (o:Nat) y v,ys[o]?=some y->cells[o]?=some v->y.flat=true/\VR fm' [] y v:=by
 intro n
 induction n with
 |zero=>intro l k ys c e;simp[Abs.cF]at e
 |succ n ih=>
  intro l k ys c e ht
  simp only[Abs.cF]at e
  split at e
  ·rename_i cs hg
   have hb:=h.aj l k _ (hG _ _ _ hg)
   refine⟨aV l k _ c hg (by rw[ht];rfl),?_⟩
   rw[ht]at hb
   cases hb with
   |box _ _ hN hB=>
    obtain⟨cells,et,c1,c2,c3⟩:=hB
    have g:=mw _ _ _ _ e
    have hlen:cells.size=ys.length:=by rw[g.1,kz];exact c2
    refine⟨cells,et,c1,hlen,?_⟩
    intro o y v hy hv
    have ab:o<(AV.ck l cs).length:=by rw[<-g.1];exact(gS.1 hy).1
    obtain⟨y',gM,hu⟩:=g.2 o _ (gG ab)
    rw[hy]at gM;obtain rfl:=oi gM
    have hx:(AV.ck l cs)[o]?=some (AV.ck l cs)[o]:=gG ab
    rw[ky,mS]at hx
    obtain⟨x0,dg,kW⟩:=hx
    have h3:=c3 o x0 v dg hv
    refine⟨by rw[y8 hu,<-kW,yi];exact h3.1,?_⟩
    rw[<-kW]at hu
    exact h.vT hle hG aV _ ih (h3.2.sh l rfl) rfl hu
  ·cases e
open Classical in
noncomputable def jY (fm:FM) (w:World) (ts:List Ah) (H:Heap) (rs:List (Nat×Nat)):FM:=fun b o=>if (∃ l k x,(l,k)∈rs/\H.get l k=some x/\b9 (tb ts l k)=some b) then w.cell? ⟨b,o,none⟩ else fm b o
theorem HR.aeC (h:HR N0 W0 fm ts H w) (rs:List (Nat×Nat)):HR N0 W0 (jY fm w ts H rs) ts (H.bk (fq rs)) w/\Ax N0 fm (jY fm w ts H rs):=by
 have hle:AM fm (jY fm w ts H rs):=by
  intro b o v hv
  unfold jY
  split
  ·exact h.bL b o v hv
  ·exact hv
 have src:∀ l k b,Heap.get (H.bk (fq rs)) l k=some b->(l,k)∉rs/\H.get l k=some b:=by
  intro l k b hg
  rw[qY]at hg
  split at hg
  ·cases hg
  ·rename_i hn;exact⟨hn,hg⟩
 refine⟨⟨by simpa using h.len,?_,?_,?_,?_,h.bJ,h.size,h.bj⟩,hle,?_⟩
 ·intro l k b hg
  exact(h.aj l k b (src l k b hg).2).mono hle (Ak.refl _) (fun _ _=>rfl)
 ·intro l k l' k' b b' c hg bS
  exact h.inj l k l' k' b b' c (src l k b hg).2 (src l' k' b' bS).2
 ·intro b o v hv
  unfold jY at hv
  split at hv
  ·exact hv
  ·exact h.bL b o v hv
 ·intro l k b c o hg ht
  obtain⟨hn,gm⟩:=src l k b hg
  unfold jY
  rw[if_neg]
  ·exact h.dx l k b c o gm ht
  ·rintro⟨l',k',x,hm,bS,eZ⟩
   obtain⟨rfl,rfl⟩:=h.inj l k l' k' b x c gm bS ht eZ
   exact hn hm
 ·intro b o hb
  unfold jY
  rw[if_neg]
  rintro⟨l',k',x,hm,bS,eZ⟩
  have:=((h.aj l' k' x bS).lt eZ).2
  omega
theorem An.take {P:Program}{f:FuncId}{args aw:List AV}{R:AV->Prop} (m:Nat) (rs:List (Nat×Nat)) (hp:An P f aw R) (hz:AV.cB (only (Heap.get ([]::H)) rs) (Abs.cF (only (Heap.get ([]::H)) rs) m) args=some aw) (hr:(rs.all fun p=>0<p.1)=true):
  BO P f args H (fun y fr H'=>R y/\fr=[]/\([]:Aj)::H'=Heap.bk ([]::H) (fq rs)):=by
 refine⟨hp.1,fun N0 W0 fm ts w vs hH hv=>?_⟩
 have hP:=hH.push
 obtain⟨hT,hU⟩:=hP.aeC rs
 have hG:∀ l k b,only (Heap.get ([]::H)) rs l k=some b->Heap.get ([]::H) l k=some b:=by
  intro l k b e;unfold only at e;split at e
  ·exact e
  ·cases e
 have aV:∀ l k b c,only (Heap.get ([]::H)) rs l k=some b->b9 (tb (cj::ts) l k)=some c->∀ o u,w.cell? ⟨c,o,none⟩=some u->jY fm w (cj::ts) ([]::H) rs c o=some u:=by
  intro l k b c e hc o u hu
  unfold only at e
  split at e
  ·rename_i hm
   unfold jY
   rw[if_pos ⟨l,k,b,by simpa using hm,e,hc⟩]
   exact hu
  ·cases e
 have h1:Am (jY fm w (cj::ts) ([]::H) rs) [] aw vs:=by
  have g:=mw _ _ _ _ hz
  refine⟨g.1.trans hv.1,?_⟩
  intro i x v hx pK
  have ab:i<args.length:=by rw[<-g.1];exact(gS.1 hx).1
  obtain⟨y,hy,hu⟩:=g.2 i _ (gG ab)
  rw[hx]at hy;obtain rfl:=oi hy
  exact hP.vT hU.le hG aV _ (hP.abW hU.le hG aV m) (hv.2 i _ v (gG ab) pK) rfl hu
 refine Calls.mono (hp.2 _ w vs hT.bL h1) ?_
 rintro e w' ⟨v,y,fm',rfl,hR,bl,aZ,bz,hb⟩
 obtain⟨f',H',xu⟩:∃ f' H',Heap.bk ([]::H) (fq rs)=f'::H':=by
  have:=Heap.adB (fq rs) ([]::H)
  cases hc:Heap.bk ([]::H) (fq rs) with
  |nil=>rw[hc]at this;simp at this
  |cons f' H'=>exact⟨f',H',rfl⟩
 have hf:f'=[]:=by
  have:∀ (rs:List (Nat×Nat)) (f:Aj) (H:Heap),(rs.all fun p=>0<p.1)=true->∃ H',Heap.bk (f::H) (fq rs)=f::H':=by
   intro rs
   induction rs with
   |nil=>intro f H _;exact⟨H,rfl⟩
   |cons p rs ih=>
    intro f H hr
    obtain⟨l,k⟩:=p
    simp only[List.all_cons,AP,decide_eq_true_eq]at hr
    cases l with
    |zero=>omega
    |succ l=>exact ih f _ hr.2
  obtain⟨H2,e2⟩:=this rs [] H hr
  rw[xu]at e2
  exact(List.cons.inj e2).1
 subst hf
 rw[xu]at hT
 refine⟨v,y,[],H',fm',cj,ts,rfl,⟨hR,rfl,xu.symm⟩,?_,?_,aZ.mono (AM.refl _) (Ak.nil _),?_,Ak.refl _,fun _ _ h=>h,fun _ _=>rfl⟩
 ·have:=congrArg List.length xu;simpa using this.symm
 ·exact hT.pop.up hb bz bl |>.push
 ·exact hU.trans (bz.low hP.size)
end
theorem o8 {G G':AA}{F F':Nat->Nat->Option (List AV)} (hG:∀ l k b,G l k=some b->G' l k=some b) (hF:∀ l k b,F l k=some b->F' l k=some b) (hz:∀ l k e i n g y,(AV.loc l k e i n g).ag G=some y->(AV.loc l k e i n g).ag G'=some y):
  (∀ x y:AV,x.br G F=some y->x.br G' F'=some y)/\(∀ l ys:List AV,AV.cB G F l=some ys->AV.cB G' F' l=some ys):=by
 have key:∀ (n:Nat),(∀ x y:AV,SizeOf.sizeOf x<n->x.br G F=some y->x.br G' F'=some y)/\(∀ l ys:List AV,SizeOf.sizeOf l<n->AV.cB G F l=some ys->AV.cB G' F' l=some ys):=by
  intro n
  induction n with
  |zero=>exact⟨fun x y h=>absurd h (by omega),fun x y h=>absurd h (by omega)⟩
  |succ n ih=>
   refine⟨?_,?_⟩
   ·intro x y hn h
    cases x with
    |loc l k e i g j=>simp only[AV.br]at h ⊢;exact hz _ _ _ _ _ _ _ h
    |ptr l k o=>
     simp only[AV.br]at h ⊢
     split at h
     ·rename_i ys jD;rw[hF _ _ _ jD];exact h
     ·cases h
    |bd l k e o n=>
     simp only[AV.br]at h ⊢
     split at h
     ·rename_i ys jD;rw[hF _ _ _ jD];exact h
     ·cases h
    |fn f a b=>
     simp only[AV.br]at h ⊢
     split at h
     ·rename_i x z hx dB
      rw[ih.2 a x (by simp at hn;omega) hx,ih.2 b z (by simp at hn;omega) dB]
      exact h
     ·cases h
    |bA t v=>
     simp only[AV.br,mS]at h ⊢
     obtain⟨a,h1,h2⟩:=h
     exact⟨a,ih.1 v a (by simp at hn;omega) h1,h2⟩
    |agg cs=>
     simp only[AV.br,mS]at h ⊢
     obtain⟨a,h1,h2⟩:=h
     exact⟨a,ih.2 cs a (by simp at hn;omega) h1,h2⟩
    |ak cs=>
     simp only[AV.br,mS]at h ⊢
     obtain⟨a,h1,h2⟩:=h
     exact⟨a,ih.2 cs a (by simp at hn;omega) h1,h2⟩
    |_=>first|(simpa [AV.br] using h)|(simp[AV.br]at h)
   ·intro l ys hn h
    cases l with
    |nil=>simpa [AV.cB] using h
    |cons x l=>
     simp only[AV.cB]at h ⊢
     split at h
     ·rename_i a b ha hb
      rw[ih.1 x a (by simp at hn;omega) ha,ih.2 l b (by simp at hn;omega) hb]
      exact h
     ·cases h
 exact⟨fun x y h=>(key (SizeOf.sizeOf x+1)).1 x y (by omega) h,fun l ys h=>(key (SizeOf.sizeOf l+1)).2 l ys (by omega) h⟩
theorem qH {G G':AA} (hG:∀ l k b,G l k=some b->G' l k=some b) (hz:∀ l k e i n g y,(AV.loc l k e i n g).ag G=some y->(AV.loc l k e i n g).ag G'=some y):∀ n l k ys,cF G n l k=some ys->cF G' n l k=some ys:=by
 intro n
 induction n with
 |zero=>intro l k ys h;simp[cF]at h
 |succ n ih=>
  intro l k ys h
  simp only[cF]at h ⊢
  split at h
  ·rename_i cs hg
   rw[hG l k _ hg]
   exact(o8 hG ih hz).2 _ _ h
  ·cases h
theorem aaC:∀ (rs:List Nat) (f:Aj) (H:Heap),Heap.bk ([]::f::H) (fq (rs.map fun k=>(1,k)))=[]::cd f rs::H
 |[],f,H=>rfl
 |k::rs,f,H=>aaC rs (del f k) H
section
variable {P:Program}{T:Aw}{N0:Nat}{W0:World}{n:Nat}{fm:FM}{ts:List Ah}{H:Heap}{w:World}{Φ:Exit->St->Prop}
def AY (P:Program) (f:FuncId) (args:List AV) (fr0:Aj) (R:AV->Aj->Prop):Prop:=
 Enters P f/\∀ H N0 W0 fm t ts w vs,HR N0 W0 fm (t::ts) (fr0::H) w->(∀ k,16<=k->t k=none)->Am fm (t::ts) args vs->
  Calls P f vs.toArray w fun e w'=>∃ v y aH fm' t' ts',e=.returned v/\R y aH/\HR N0 W0 fm' (t'::ts') (aH::H) w'/\VR fm' (t'::ts') y v/\Ax N0 fm fm'/\Ak ts ts'/\
   (∀ l k,tb ts l k=none->tb ts' l k=none)/\∀ k,16<=k->t' k=none
def Ed (T:Aw) (rs:List ResultVar) (H:Heap) (R:AV->Aj->Prop) (e:Exit) (st:St):Prop:=
 Ends T rs (fun y fr H'=>H'=H/\R y fr) e st
theorem AY.ft (hT : AG P T) {f : FuncId} {fn : Func} {c : Code} {sc : SC} {args : List AV} {fr0 : Aj} {R : AV → Aj → Prop} (hf : P.funcs[f]? = some fn) (hb : fn.body = some c) (gq : (fn.name == "runtime.NumGoroutine") = false)
  (he:sc.bare=erase fn.ntmps c) (dy:(erase fn.ntmps c).fits fn.ntmps=true) (dR:args.length<=fn.ntmps)
  (h:∀ H,AK P fn.ntmps (Ed T fn.results.toList H R) [.sc sc] ⟨oS 0 args,fr0,H,16,fn.ntmps⟩):AY P f args fr0 R:=by
 refine⟨⟨fn,hf,gq,by simp[hb]⟩,?_⟩
 intro H N0 W0 fm t ts w vs hH ht hv
 refine calls_of_wp hf hb ((qn []).1 ?_)
 have hl:=hv.1
 have hS:SR N0 W0 fn.ntmps ⟨oS 0 args,fr0,H,16,fn.ntmps⟩ { tmps:=vs.toArray++Array.replicate (fn.ntmps - vs.toArray.size) undef,defers:=[] } w fm (t::ts):=by
  refine⟨hH,?_,fun k hk=>ht k hk,by simp;omega,⟨rfl,Cu.gu _⟩⟩
  intro i x hx
  obtain⟨_,hx⟩:=abj args 0 i x hx
  simp only[Nat.sub_zero]at hx
  have ab:i<vs.length:=by rw[<-hl];exact(gS.1 hx).1
  refine⟨vs[i],?_,hv.2 i x _ hx (gG ab)⟩
  rw[Array.getElem?_append_left (by simpa using ab)]
  simp[ab]
 have:=h H N0 W0 fm (t::ts) _ w [.code c] (bodyPost P fn fun e w'=>∃ v y aH fm' t' ts',e=.returned v/\R y aH/\HR N0 W0 fm' (t'::ts') (aH::H) w'/\VR fm' (t'::ts') y v/\Ax N0 fm fm'/\Ak ts ts'/\
   (∀ l k,tb ts l k=none->tb ts' l k=none)/\∀ k,16<=k->t' k=none) hS (.sc he dy .nil) ?_
 ·exact this
 ·intro e al a' w' fm' ts' hE bZ hL
  have fin:(∃ xs,fb T al fn.results.toList=some xs/\CU (fun y fr H'=>H'=H/\R y fr) (bC xs) al)->a'.defers=[]/\∃ v,(results fn a'.tmps).run P w'=.ok v w'/\∃ u2 y aH fm' t' ts',Ending.returned v=.returned u2/\R y aH/\HR N0 W0 fm' (t'::ts') (aH::H) w'/\VR fm' (t'::ts') y u2/\Ax N0 fm fm'/\Ak ts ts'/\
    (∀ l k,tb ts l k=none->tb ts' l k=none)/\∀ k,16<=k->t' k=none:=by
   rintro⟨xs,eA,hg⟩
   obtain⟨v,h1,h2⟩:=ng (P:=P) hT bZ eA
   refine⟨bZ.cV.1,v,h1,?_⟩
   cases ts' with
   |nil=>have:=bZ.hr.len;simp at this
   |cons t rest=>
    have e8:Ak ts rest:=by simpa using hL.fu
    have bx:∀ l k,tb ts l k=none->tb rest l k=none:=by simpa using hL.no
    cases hg with
    |own ks y fr hn hk hy py hR=>
     obtain⟨gJ,hR⟩:=hR
     have hr:=bZ.hr.aE py hn
     rw[gJ]at hr
     exact⟨v,y,fr,fm',dJ ks t,rest,rfl,hR,hr,h2.aE rfl hy,hL.cC,e8,bx,fun k dH=>by simp only[dJ];rw[CE (by omega)];rfl⟩
    |ag y hy hr hR=>
     obtain⟨gJ,hR⟩:=hR
     have h3:=bZ.hr.ag (bC xs).refs h2 hy (fun _ h=>h)
     have h4:=bZ.hr.oj (bC xs).refs
     obtain⟨f',rj⟩:=adA hr al.fr al.low
     rw[rj]at h4
     have tU:∀ l k,tb (fL (t::rest) (bC xs).refs) (l+1) k=tb rest l k:=by
      intro l k
      rw[jO,if_neg]
      ·simp[tb]
      ·rintro⟨hm,_⟩
       have:=List.all_eq_true.1 hr _ hm
       simp at this
     have hlen:=aaD (bC xs).refs (t::rest)
     cases hg:fL (t::rest) (bC xs).refs with
     |nil=>rw[hg]at hlen;simp at hlen
     |cons t2 uQ=>
      rw[hg]at h4 tU
      have e2:∀ l k,tb uQ l k=tb rest l k:=fun l k=>by simpa [tb] using tU l k
      have bz:=bZ.hr.qS (bC xs).refs
      have h5:=h4.pop.push
      rw[gJ]at h5 bz h3
      exact⟨v,y,[],_,cj,uQ,rfl,hR,h5,h3.mono (AM.refl _) (Ak.nil _),hL.cC.trans bz,fun l k=>by rw[e2];exact e8 l k,fun l k hh=>by rw[e2];exact bx l k hh,fun _ _=>rfl⟩
  cases e with
  |normal=>exact fin hE
  |ret=>exact fin hE
  |_=>exact hE.elim
def sW (gs:List Nat) (G:AA) (F:Nat->Nat->Option (List AV)):AV->Option AV
 |.loc 1 k e i n g=>match idx gs k with
  |some j=>some (.loc 0 j e i n g)
  |none=>(AV.loc 1 k e i n g).br G F
 |x=>x.br G F
def jo (gs:List Nat) (G:AA) (F:Nat->Nat->Option (List AV)):List AV->Option (List AV)
 |[]=>some []
 |x::l=>match sW gs G F x,jo gs G F l with
  |some x,some l=>some (x::l)
  |_,_=>none
def lE (f:Aj):Nat->List Nat->Option Aj
 |_,[]=>some []
 |i,k::r=>match look f k with
  |some (.arr et e es)=>(lE f (i+1) r).map fun l=>(i,.arr et e es)::l
  |_=>none
theorem acY (f:Aj):∀ (r:List Nat) (i:Nat) (fr:Aj),lE f i r=some fr->∀ j b,look fr j=some b->i<=j/\∃ k et e es,r[j - i]?=some k/\look f k=some b/\b=.arr et e es
 |[],i,fr,h,j,b,hj=>by simp only[lE,oE]at h;subst h;simp[look]at hj
 |k::r,i,fr,h,j,b,hj=>by
  simp only[lE]at h
  split at h
  ·rename_i et e es hk
   simp only[mS]at h
   obtain⟨l,hl,rfl⟩:=h
   simp only[look]at hj
   split at hj
   ·rename_i he
    subst he
    obtain rfl:=oi hj
    exact⟨A7 _,k,et,e,es,by simp,hk,rfl⟩
   ·obtain⟨h1,k',mE,e',es',h2,h3,h4⟩:=acY f r (i+1) l hl j b hj
    refine⟨by omega,k',mE,e',es',?_,h3,h4⟩
    have:j - i=(j - (i+1))+1:=by omega
    rw[this,BE];exact h2
  ·cases h
theorem adG (ks:List Nat):∀ (f:Aj) (j:Nat),look (cd f ks) j=if j∈ks then none else look f j:=by
 induction ks with
 |nil=>intro f j;simp[cd]
 |cons k ks ih=>
  intro f j
  simp only[cd,ih,uq,BA]
  by_cases h1:j∈ks
  ·simp[h1]
  ·by_cases h2:k=j
   ·simp[h2]
   ·simp[h1,h2,Ne.symm h2]
theorem HR.lD {h:Ah}{rest:List Ah}{f:Aj} (hh:HR N0 W0 fm (cj::h::rest) ([]::f::H) w) {gs:List Nat}{fr0:Aj} (hg:lE f 0 gs=some fr0) (bw:gs.Nodup):
  HR N0 W0 fm (dJ gs h::h::rest) (fr0::cd f gs::H) w:=by
 have src:∀ l k b,Heap.get (fr0::cd f gs::H) l k=some b->(l=0/\∃ k0 et e es,gs[k]?=some k0/\look f k0=some b/\b=.arr et e es/\tb (dJ gs h::h::rest) 0 k=h k0)\/(l≠0/\Heap.get ([]::f::H) l k=some b/\tb (dJ gs h::h::rest) l k=tb (cj::h::rest) l k/\(l=1->k∉gs)):=by
  intro l k b hb
  cases l with
  |zero=>
   simp only[Heap.get]at hb
   obtain⟨_,k0,et,e,es,h1,h2,h3⟩:=acY f gs 0 fr0 hg k b hb
   simp only[Nat.sub_zero]at h1
   exact .inl ⟨rfl,k0,et,e,es,h1,h2,h3,by simp[tb,dJ,h1]⟩
  |succ l=>
   cases l with
   |zero=>
    simp only[Heap.get,adG]at hb
    split at hb
    ·cases hb
    ·rename_i hn
     exact .inr ⟨by omega,by simpa [Heap.get] using hb,by simp[tb],fun _=>hn⟩
   |succ l=>exact .inr ⟨by omega,by simpa [Heap.get] using hb,by simp[tb],fun e=>by omega⟩
 refine⟨by have:=hh.len;simpa using this,?_,?_,hh.bL,?_,hh.bJ,hh.size,hh.bj⟩
 ·intro l k b hb
  rcases src l k b hb with ⟨rfl,k0,et,e,es,h1,h2,rfl,h4⟩|⟨hl,h2,h3,_⟩
  ·rw[h4]
   have:=hh.aj 1 k0 _ (by simpa [Heap.get] using h2)
   simp only[tb]at this
   generalize h k0=tt at this
   cases this with
   |nil=>exact .nil _ _
   |arr _ _ _ c cap hN hA=>exact .arr _ _ _ c cap hN hA
  ·rw[h3]
   have:=hh.aj l k b h2
   obtain⟨l,rfl⟩:∃ m,l=m+1:=⟨l - 1,by omega⟩
   simpa using this
 ·intro l1 k1 l2 k2 b1 b2 c g1 g2 t1 t2
  rcases src l1 k1 b1 g1 with ⟨rfl,q1,_,_,_,a1,a2,_,a4⟩|⟨eY,a2,a3,a4⟩
  ·rw[a4]at t1
   rcases src l2 k2 b2 g2 with ⟨rfl,q2,_,_,_,c1,c2,_,c4⟩|⟨iT,c2,c3,c4⟩
   ·rw[c4]at t2
    have:=(hh.inj 1 q1 1 q2 b1 b2 c (by simpa [Heap.get] using a2) (by simpa [Heap.get] using c2) (by simpa [tb] using t1) (by simpa [tb] using t2)).2
    subst this
    refine⟨rfl,?_⟩
    exact(List.getElem?_inj (gS.1 a1).1 bw).1 (a1.trans c1.symm)
   ·rw[c3]at t2
    obtain⟨e1,e2⟩:=hh.inj 1 q1 l2 k2 b1 b2 c (by simpa [Heap.get] using a2) c2 (by simpa [tb] using t1) t2
    subst e1 e2
    exact absurd (Ba a1) (c4 rfl)
  ·rw[a3]at t1
   rcases src l2 k2 b2 g2 with ⟨rfl,q2,_,_,_,c1,c2,_,c4⟩|⟨iT,c2,c3,c4⟩
   ·rw[c4]at t2
    obtain⟨e1,e2⟩:=hh.inj l1 k1 1 q2 b1 b2 c a2 (by simpa [Heap.get] using c2) t1 (by simpa [tb] using t2)
    subst e1 e2
    exact absurd (Ba c1) (a4 rfl)
   ·rw[c3]at t2
    exact hh.inj l1 k1 l2 k2 b1 b2 c a2 c2 t1 t2
 ·intro l k b c o hb hc
  rcases src l k b hb with ⟨rfl,k0,_,_,_,h1,h2,_,h4⟩|⟨hl,h2,h3,_⟩
  ·rw[h4]at hc
   exact hh.dx 1 k0 b c o (by simpa [Heap.get] using h2) (by simpa [tb] using hc)
  ·rw[h3]at hc
   exact hh.dx l k b c o h2 hc
theorem ac2 {h:Ah}{rest:List Ah}{f:Aj}{dv:FM} (hh:HR N0 W0 fm (cj::h::rest) ([]::f::H) w) (hle:AM fm dv) {G:AA} (hG:∀ l k b,G l k=some b->Heap.get ([]::f::H) l k=some b)
  (aV:∀ l k b c,G l k=some b->b9 (tb (cj::h::rest) l k)=some c->∀ o u,w.cell? ⟨c,o,none⟩=some u->dv c o=some u) {gs:List Nat}{m:Nat}:
  ∀ (args ys:List AV) (vs:List Value),jo gs G (cF G m) args=some ys->Am fm (cj::h::rest) args vs->Am dv (dJ gs h::h::rest) ys vs
 |[],ys,vs,e,hv=>by
  simp only[jo,oE]at e;subst e
  exact⟨hv.1,fun i x v hx=>by simp at hx⟩
 |x::l,ys,vs,e,hv=>by
  simp only[jo]at e
  split at e
  ·rename_i y yG hy jD
   obtain rfl:=oi e
   cases vs with
   |nil=>have:=hv.1;simp at this
   |cons v vs=>
    have hx:VR fm (cj::h::rest) x v:=hv.2 0 x v rfl rfl
    have ih:=ac2 hh hle hG aV l yG vs jD ⟨by simpa using hv.1,fun i a b p q=>hv.2 (i+1) a b (by simpa using p) (by simpa using q)⟩
    refine⟨by simp[ih.1],?_⟩
    intro i a b ha hb
    cases i with
    |succ i=>simp at ha hb;exact ih.2 i a b ha hb
    |zero=>
     simp at ha hb;subst ha hb
     have br:x.br G (cF G m)=some y->VR dv (dJ gs h::h::rest) y v:=fun pt=>
      (hh.vT hle hG aV _ (hh.abW hle hG aV m) hx rfl pt).mono (AM.refl _) (Ak.nil _)
     unfold sW at hy
     split at hy
     ·rename_i k e i n g
      split at hy
      ·rename_i j hj
       obtain rfl:=oi hy
       have mP:=aax gs k j hj
       have dS:tb (dJ gs h::h::rest) 0 j=tb (cj::h::rest) 1 k:=by simp[tb,dJ,mP]
       have eO:=hx.mono hle (Ak.refl _)
       cases eO with
       |bW _ _ _ _ _ _ a cp ht hn ha=>exact .bW _ _ _ _ _ _ a cp (dS.trans ht) hn ha
       |bX _ _ _ _ _ _ a cp m' c ht ab hn ha=>exact .bX _ _ _ _ _ _ a cp m' c (dS.trans ht) ab hn ha
       |bI _ _ _ a ht=>exact .bI _ _ _ a (dS.trans ht)
       |loc _ _ _ _ _ _ c cap cp a ht hn bh hc ha=>exact .loc _ _ _ _ _ _ c cap cp a (dS.trans ht) hn bh hc ha
      ·exact br hy
     ·exact br hy
  ·cases e
theorem AY.used {f:FuncId}{args cT:List AV}{fr0 f0:Aj}{R:AV->Aj->Prop} (m:Nat) (rs gs:List Nat) (hp:AY P f cT fr0 R) (hz:jo gs (only (Heap.get ([]::f0::H)) (rs.map fun k=>(1,k))) (cF (only (Heap.get ([]::f0::H)) (rs.map fun k=>(1,k))) m) args=some cT)
  (hg:lE (cd f0 rs) 0 gs=some fr0) (bw:(decide gs.Nodup&&decide (gs.length<=16))=true):BO P f args (f0::H) (fun y fr H'=>R y fr/\H'=cd (cd f0 rs) gs::H):=by
 simp only[AP,decide_eq_true_eq]at bw
 refine⟨hp.1,fun N0 W0 fm ts w vs hH hv=>?_⟩
 have hP:=hH.push
 cases ts with
 |nil=>have:=hH.len;simp at this
 |cons h rest=>
  obtain⟨hT,hU⟩:=hP.aeC (rs.map fun k=>(1,k))
  rw[aaC]at hT
  have hG:∀ l k b,only (Heap.get ([]::f0::H)) (rs.map fun k=>(1,k)) l k=some b->Heap.get ([]::f0::H) l k=some b:=by
   intro l k b e;unfold only at e;split at e
   ·exact e
   ·cases e
  have aV:∀ l k b c,only (Heap.get ([]::f0::H)) (rs.map fun k=>(1,k)) l k=some b->b9 (tb (cj::h::rest) l k)=some c->∀ o u,w.cell? ⟨c,o,none⟩=some u->jY fm w (cj::h::rest) ([]::f0::H) (rs.map fun k=>(1,k)) c o=some u:=by
   intro l k b c e hc o u hu
   unfold only at e
   split at e
   ·rename_i hm
    unfold jY
    rw[if_pos ⟨l,k,b,by simpa using hm,e,hc⟩]
    exact hu
   ·cases e
  have h1:=ac2 hP hU.le hG aV args cT vs hz hv
  have h2:=hT.lD hg bw.1
  refine Calls.mono (hp.2 (cd (cd f0 rs) gs::H) N0 W0 _ (dJ gs h) (h::rest) w vs h2 (fun k hk=>by simp only[dJ];rw[CE (by omega)];rfl) h1) ?_
  rintro e w' ⟨v,y,aH,fm',t',ts',rfl,hR,bu,aZ,bz,e8,bx,ht⟩
  exact⟨v,y,aH,cd (cd f0 rs) gs::H,fm',t',ts',rfl,⟨hR,rfl⟩,by simp,bu,aZ,hU.trans bz,e8,bx,ht⟩
end
def gP (G:AA):AA:=fun l k=>match l with
 |0=>none
 |l+1=>G l k
def lF (G:AA):Nat->List Nat->Option Aj
 |_,[]=>some []
 |i,k::r=>match G 0 k with
  |some (.arr et e es)=>(lF G (i+1) r).map fun l=>(i,.arr et e es)::l
  |_=>none
theorem zS {G G':AA} (h:∀ l k b,G l k=some b->G' l k=some b):∀ (r:List Nat) (i:Nat) (fr:Aj),lF G i r=some fr->lF G' i r=some fr
 |[],i,fr,e=>e
 |k::r,i,fr,e=>by
  simp only[lF]at e ⊢
  split at e
  ·rename_i et z es hk
   simp only[mS]at e
   obtain⟨l,hl,rfl⟩:=e
   rw[h 0 k _ hk]
   simp only[zS h r (i+1) l hl,AQ]
  ·cases e
theorem acZ (f:Aj) (H:Heap) (rs:List Nat):∀ (r:List Nat) (i:Nat) (fr:Aj),lF (Heap.get (f::H)) i r=some fr->(∀ k∈r,k∉rs)->lE (cd f rs) i r=some fr
 |[],i,fr,e,_=>e
 |k::r,i,fr,e,hk=>by
  simp only[lF,Heap.get]at e
  simp only[lE,adG,if_neg (hk k List.mem_cons_self)]
  split at e
  ·rename_i et z es dH
   simp only[mS]at e
   obtain⟨l,hl,rfl⟩:=e
   simp only[dH,acZ f H rs r (i+1) l hl (fun k h=>hk k (List.mem_cons_of_mem _ h)),AQ]
  ·cases e
def iX (ks:List Nat):List (Nat×Nat×Option Ap):=ks.map fun k=>(0,k,none)
def iV (kb:Nat):Aj->List (Nat×Nat×Option Ap)
 |[]=>[]
 |(c,b)::R=>iV kb R++[(0,kb+c,some (b.imp kb))]
theorem aaW:∀ (ks:List Nat) (f:Aj) (H:Heap),Heap.bk (f::H) (iX ks)=cd f ks::H
 |[],_,_=>rfl
 |k::ks,f,H=>aaW ks (del f k) H
theorem aaV (kb:Nat):∀ (R:Aj) (f:Aj) (H:Heap),Heap.bk (f::H) (iV kb R)=kf kb R f::H
 |[],_,_=>rfl
 |(c,b)::R,f,H=>by
  simp only[iV,Heap.mb,aaV kb R f H,kf]
  rfl
theorem zT {gs:List Nat}{G G':AA}{F F':Nat->Nat->Option (List AV)} (h:∀ x y:AV,x.br G F=some y->x.br G' F'=some y):∀ (l ys:List AV),jo gs G F l=some ys->jo gs G' F' l=some ys
 |[],ys,e=>e
 |x::l,ys,e=>by
  simp only[jo]at e ⊢
  split at e
  ·rename_i a b ha hb
   have eN:sW gs G' F' x=some a:=by
    cases x with
    |loc lv k e i n g=>
     match lv,ha with
     |0,ha=>exact h _ _ ha
     |1,ha=>
      simp only[sW]at ha ⊢
      cases hj:idx gs k with
      |some j=>rw[hj]at ha;exact ha
      |none=>rw[hj]at ha;exact h _ _ ha
     |_+2,ha=>exact h _ _ ha
    |_=>exact h _ _ ha
   rw[eN,zT h l b hb]
   exact e
  ·cases e
def gT (kb:Nat) (t' h:Ah):Ah:=fun k=>if kb<=k/\k<kb+16 then t' (k - kb) else h k
end Go.Abs
namespace Go.Abs
open Go Go.RowKit
section
variable {P:Program}{T:Aw}{N0:Nat}{W0:World}{fm:FM}{ts:List Ah}{H:Heap}{w:World}
def AV.lo:AV->Bool
 |.loc l _ _ _ _ _=>l==0
 |.ptr l _ _=>l==0
 |x=>x.leaf
def AV.m4:AV->Bool
 |.ak vs=>vs.all AV.lo
 |.agg cs=>cs.all AV.lo
 |x=>x.lo
def Ap.lo:Ap->Prop
 |.arr _ _ es=>∀ c∈es,∀ x∈c,x.leaf=true
 |.box cs=>∀ x∈cs,x.lo=true
theorem VR.lo {fm fm':FM}{t:Ah}{ts:List Ah}{x:AV}{v:Value} (h:VR fm' [t] x v) (hx:x.lo=true):VR fm (t::ts) x v:=by
 cases h with
 |bW l k esz i n g a cp h cR ha=>
  obtain rfl:l=0:=by simpa [AV.lo] using hx
  exact .bW 0 _ esz i n g a cp h cR ha
 |bX l k esz i n g a cp m' c h ab cR ha=>
  obtain rfl:l=0:=by simpa [AV.lo] using hx
  exact .bX 0 _ esz i n g a cp m' c h ab cR ha
 |bI l k esz a h=>
  obtain rfl:l=0:=by simpa [AV.lo] using hx
  exact .bI 0 _ esz a h
 |loc l k esz i n g c cap cp a h cR bh hc ha=>
  obtain rfl:l=0:=by simpa [AV.lo] using hx
  exact .loc 0 _ esz i n g c cap cp a h cR bh hc ha
 |ptr l k o c h=>
  obtain rfl:l=0:=by simpa [AV.lo] using hx
  exact .ptr 0 _ o c h
 |bool b=>exact .bool b
 |int k n=>exact .int k n
 |str s=>exact .str s
 |nil=>exact .nil
 |bf=>exact .bf
 |bo=>exact .bo
 |bp=>exact .bp
 |mp r_=>exact .mp r_
 |_=>simp[AV.lo,AV.leaf]at hx
theorem VR.m4 {fm fm':FM}{t:Ah}{ts:List Ah}{x:AV}{v:Value} (h:VR fm' [t] x v) (hx:x.m4=true):VR fm (t::ts) x v:=by
 cases x with
 |ak xs=>
  cases h with
  |ak _ vs h1 h3=>exact .ak xs vs h1 (fun i x v a b=>(h3 i x v a b).lo (List.all_eq_true.1 hx x (Ba a)))
 |agg cs=>
  cases h with
  |agg _ vs h1 h2 h3=>exact .agg cs vs h1 h2 (fun i x v a b=>(h3 i x v a b).lo (List.all_eq_true.1 hx x (Ba a)))
 |_=>exact h.lo hx
theorem BR.lo {fm fm':FM}{t:Ah}{ts:List Ah}{w:World}{N N0:Nat}{x:Option TB}{b:Ap} (h:BR fm' [t] w N x b) (hN:N0<=N) (hb:b.lo):BR fm (t::ts) w N0 x b:=by
 cases h with
 |nil et esz=>exact .nil et esz
 |arr et esz es c cap h1 hA=>
  obtain⟨cells,a1,a2,a3,a4,a5,a6,a7⟩:=hA
  refine .arr et esz es c cap (C2 hN h1) ⟨cells,a1,a2,a3,a4,a5,a6,?_⟩
  intro i d o x v p q r
  have:=a7 i d o x v p q r
  exact⟨this.1,this.2.leaf (hb d (Ba p) x (Ba q))⟩
 |box c cs h1 hB=>
  obtain⟨cells,et,c1,c2,c3⟩:=hB
  exact .box c cs (C2 hN h1) ⟨cells,et,c1,c2,fun o x v p q=>⟨(c3 o x v p q).1,(c3 o x v p q).2.lo (hb x (Ba p))⟩⟩
def om:Aj->Prop
 |[]=>True
 |(_,b)::l=>b.lo/\om l
theorem adF:∀ (l:Aj) (k:Nat) (b:Ap),om l->look l k=some b->b.lo
 |[],k,b,_,h=>by simp[look]at h
 |(j,x)::l,k,b,h,e=>by
  simp only[look]at e
  split at e
  ·obtain rfl:=oi e;exact h.1
  ·exact adF l k b h.2 e
theorem AY.adC {f:FuncId}{aw:List AV}{vs:List Value}{y0:AV}{fr0:Aj} (hp:AY P f aw [] (fun y fr=>y=y0/\fr=fr0)) (hH:HR N0 W0 fm ts H w) (h1:Am (gE w) [] aw vs) (hy:y0.m4=true) (hf:om fr0):
  Calls P f vs.toArray w fun e w'=>∃ v t',e=.returned v/\HR N0 W0 fm (t'::ts) (fr0::H) w'/\VR fm (t'::ts) y0 v/\∀ k,16<=k->t' k=none:=by
 have hn:HR w.heap.size w (fun b o=>w.cell? ⟨b,o,none⟩) [] [] w:=HR.nothing (fun b o v h=>h)
 have n9:Am (fun b o=>w.cell? ⟨b,o,none⟩) (cj::[]) aw vs:=by
  refine⟨h1.1,fun i x v a b=>?_⟩
  have h2:=h1.2 i x v a b
  exact h2.mono (AM.refl _) (Ak.nil _)
 refine Calls.mono (hp.2 [] w.heap.size w _ cj [] w vs hn.push (fun _ _=>rfl) n9) ?_
 rintro e w' ⟨v,y,aH,fm',t',ts',rfl,⟨rfl,rfl⟩,bu,aZ,bz,jC,bx,il⟩
 have e8:ts'=[]:=by have:=bu.len;simp at this;exact this
 subst e8
 have hb:=bu.bJ
 have j4:HR N0 W0 fm ts H w':=hH.world (fun i hi=>hb.block i hi) (hb.mono hH.size)
 refine⟨v,t',rfl,?_,aZ.m4 hy,il⟩
 have up:∀ {k b c},look aH k=some b->b9 (t' k)=some c->w.heap.size<=c:=by
  intro k b c hk hc
  have:=(bu.aj 0 k b (by simpa [Heap.get] using hk)).lt (by simpa [tb] using hc)
  exact this.2
 have low:∀ {l k b c},Heap.get H l k=some b->b9 (tb ts l k)=some c->c<w.heap.size:=by
  intro l k b c hk hc
  exact((hH.aj l k b hk).lt hc).1
 refine⟨by have:=j4.len;simpa using this,?_,?_,j4.bL,?_,j4.bJ,j4.size,j4.bj⟩
 ·intro l k b hg
  cases l with
  |zero=>
   have h2:=bu.aj 0 k b (by simpa [Heap.get] using hg)
   simp only[List.drop_zero,tb]at h2 ⊢
   exact h2.lo hH.size (adF _ _ _ hf (by simpa [Heap.get] using hg))
  |succ l=>exact j4.aj l k b hg
 ·intro l k l' k' b b' c g1 g2 t1 t2
  cases l with
  |zero=>
   cases l' with
   |zero=>exact bu.inj 0 k 0 k' b b' c (by simpa [Heap.get] using g1) (by simpa [Heap.get] using g2) t1 t2
   |succ l'=>exact absurd (low g2 t2) (by have:=up (by simpa [Heap.get] using g1) t1;omega)
  |succ l=>
   cases l' with
   |zero=>exact absurd (low g1 t1) (by have:=up (by simpa [Heap.get] using g2) t2;omega)
   |succ l'=>
    have:=j4.inj l k l' k' b b' c g1 g2 t1 t2
    exact⟨by omega,this.2⟩
 ·intro l k b c o hg hc
  cases l with
  |zero=>exact hH.adP (up (by simpa [Heap.get] using hg) hc) o
  |succ l=>exact j4.dx l k b c o hg hc
theorem AY.lW {f:FuncId}{args aw:List AV}{y0:AV}{fr0:Aj} (m:Nat) (hp:AY P f aw [] (fun y fr=>y=y0/\fr=fr0)) (hz:AV.cB (Heap.get ([]::H)) (Abs.cF (Heap.get ([]::H)) m) args=some aw) (hy:y0.m4=true) (hf:om fr0):
  BO P f args H (fun y fr H'=>y=y0/\fr=fr0/\H'=H):=by
 refine⟨hp.1,fun N0 W0 fm ts w vs hH hv=>?_⟩
 have h1:=hH.push.y9 _ (hH.push.cF m) hv hz
 refine Calls.mono (AY.adC hp hH h1 hy hf) ?_
 rintro e w' ⟨v,t',rfl,h2,h3,h4⟩
 exact⟨v,y0,fr0,H,fm,t',ts,rfl,⟨rfl,rfl,rfl⟩,rfl,h2,h3,Ax.refl _ _,Ak.refl _,fun _ _ h=>h,h4⟩
end
section
variable [Md] {P:Program}{T:Aw}{n:Nat}{Φ:Exit->St->Prop}
theorem F2 {f:List It->St->Ev}{b:Bool}{t t':List It}{s s':St} (h1:b=true->Ar P n Φ (f t s)) (h2:b=false->Ar P n Φ (f t' s')):Ar P n Φ (two f b t s t' s'):=by
 cases b with
 |true=>exact h1 rfl
 |false=>exact h2 rfl
theorem FV {f:FuncId}{args aw:List AV}{dst:Option Tmp}{drop:List Nat}{todo:List It}{st:St}{R:AV->Prop} (hp:An P f aw R) (hz:AV.az (Heap.get ([]::st.fr::st.low)) args=some aw) (hr:AV.aD args=[])
  (h:∀ y,R y->AK P n Φ todo (st.ga dst drop y [] (st.fr::st.low))):Ar P n Φ (.call f args dst drop todo st):=
 ⟨_,_,_,_,B2.refl _ _ _,(hp.frozen hz hr).toP,by rintro v fr H ⟨h1,rfl,rfl⟩;exact h v h1,fun _ _ h=>h.elim⟩
theorem FR {f:FuncId}{args aw:List AV}{dst:Option Tmp}{drop:List Nat}{todo:List It}{st:St}{R:AV->Prop} (hp:An P f aw R) (hz:AV.az (Heap.get ([]::st.fr::st.low)) args=some aw) (hs:∀ y,R y->y.cJ=true)
  (h:∀ y,R y->AK P n Φ todo (st.ga dst drop y [] (st.fr::st.low))):Ar P n Φ (.call f args dst drop todo st):=
 ⟨_,_,_,_,B2.refl _ _ _,(hp.borrow hz hs).toP,by rintro v fr H ⟨h1,rfl,rfl⟩;exact h v h1,fun _ _ h=>h.elim⟩
theorem DS {f:FuncId}{args:List AV}{dst:Option Tmp}{drop:List Nat}{todo:List It}{st:St}{R:AV->Aj->Heap->Prop} (hp:BO P f args (st.fr::st.low) R)
  (h:∀ y fr H,R y fr H->AK P n Φ todo (st.ga dst drop y fr H)):Ar P n Φ (.call f args dst drop todo st):=⟨_,_,R,_,B2.refl _ _ _,hp.toP,h,fun _ _ h=>h.elim⟩
end
attribute [go_sem] xO ajh ajg run iy v8 ai0 aiY callee abb aba St.jL ajr ajq aW aN gN look uw jc St.by kr ins cd del Heap.bk Heap.put St.qm cU ej qK kF vF yj St.get vz ml vE ly fP uP nz TI.isAgg AV.cells overwrite nI Heap.get vC AV.ck AV.sh vH gj St.enter oS St.ga AV.imp AV.fF kf Ap.imp fb xX bC AV.ag AV.az AV.refs AV.aD vB vD lj ph vA partsOf qO jj gO nH v7 fR ic pf pe kG vG iM byteOf bytesOf gD ba AV.eD AV.un pP fq AV.flat AV.cJ AV.leaf Ay AE List.append_nil BV A8 reduceIte Nat.reduceAdd Nat.reduceMul Nat.reduceLT Nat.reduceEqDiff Nat.reduceLeDiff Nat.reduceSub AQ C1 Av Option.bind_none Bh reduceCtorEq List.take_succ_cons List.take_zero List.drop_succ_cons List.drop_zero BG BE List.getElem?_nil List.map_cons List.map_nil beq_self_eq_true A7 and_self and_true true_and beq_true beq_false BM B4
def DP (tm tm':Tm):Prop:=∀ t x,tm t=some x->tm' t=some x
def CT (G G':AA):Prop:=∀ l k b,G l k=some b->G' l k=some b
section
variable {tm tm':Tm}{G G':AA} (de:DP tm tm') (hG:CT G G')
include de in
theorem rI {x:Operand}{y:AV} (h:aN tm x=some y):aN tm' x=some y:=by
 cases x with
 |tmp t=>exact de t y h
 |_=>exact h
include de in
theorem uD:∀ (l:List Operand) (ys:List AV),gN tm l=some ys->gN tm' l=some ys
 |[],ys,h=>h
 |x::l,ys,h=>by
  simp only[gN]at h ⊢
  split at h
  ·rename_i a b ha hb
   rw[rI de ha,uD l b hb];exact h
  ·cases h
include de in
theorem aaS:∀ (l:List (Nat×Operand)) (ys:List (Nat×AV)),partsOf tm l=some ys->partsOf tm' l=some ys
 |[],ys,h=>h
 |(i,x)::l,ys,h=>by
  simp only[partsOf]at h ⊢
  split at h
  ·rename_i a b ha hb
   rw[rI de ha,aaS l b hb];exact h
  ·cases h
mutual
theorem jZ (hG:CT G G'):∀ (x y:AV),x.ag G=some y->x.ag G'=some y
 |.loc l k e i n g,y,h=>by
  simp only[AV.ag]at h ⊢
  split at h
  ·rename_i et esz es hg
   rw[hG l k _ hg];exact h
  ·cases h
 |.bA t v,y,h=>by
  simp only[AV.ag,mS]at h ⊢
  obtain⟨a,h1,h2⟩:=h
  exact⟨a,jZ hG v a h1,h2⟩
 |.agg cs,y,h=>by
  simp only[AV.ag,mS]at h ⊢
  obtain⟨a,h1,h2⟩:=h
  exact⟨a,lB hG cs a h1,h2⟩
 |.ak vs,y,h=>by
  simp only[AV.ag,mS]at h ⊢
  obtain⟨a,h1,h2⟩:=h
  exact⟨a,lB hG vs a h1,h2⟩
 |.nil,y,h=>by simpa [AV.ag] using h
 |.bool b,y,h=>by simpa [AV.ag] using h
 |.int k n,y,h=>by simpa [AV.ag] using h
 |.str s,y,h=>by simpa [AV.ag] using h
 |.sl e es,y,h=>by simpa [AV.ag] using h
 |.bf,y,h=>by simpa [AV.ag] using h
 |.bo,y,h=>by simpa [AV.ag] using h
 |.bp,y,h=>by simpa [AV.ag] using h
 |.mp r_,y,h=>by simpa [AV.ag] using h
 |.fn f a b,y,h=>by
  simp only[AV.ag]at h ⊢
  split at h
  ·rename_i x z hx hz
   obtain rfl:=oi h
   simp only[lB hG a x hx,lB hG b z hz]
  ·cases h
 |.bd ..,y,h=>by simp[AV.ag]at h
 |.ptr ..,y,h=>by simp[AV.ag]at h
 |.aR ..,y,h=>by simp[AV.ag]at h
 |.aq ..,y,h=>by simpa [AV.ag] using h
 |.dead,y,h=>by simp[AV.ag]at h
theorem lB (hG:CT G G'):∀ (l ys:List AV),AV.az G l=some ys->AV.az G' l=some ys
 |[],ys,h=>h
 |x::l,ys,h=>by
  simp only[AV.az]at h ⊢
  split at h
  ·rename_i a b ha hb
   rw[jZ hG x a ha,lB hG l b hb];exact h
  ·cases h
end
include hG in
theorem agJ {size:Nat}{x:AV}{cs:List AV} (h:fP G size x=some cs):fP G' size x=some cs:=by
 unfold fP at h ⊢
 split at h
 ·split at h
  ·rename_i hg;rw[hG _ _ _ hg];exact h
  ·cases h
 ·split at h
  ·rename_i hg;rw[hG _ _ _ hg];exact h
  ·cases h
 ·exact h
 ·cases h
include hG in
theorem ag6 {ti:TI}{x y:AV} (h:ly G ti x=some y):ly G' ti x=some y:=by
 unfold ly at h ⊢
 rw[Option.bind_eq_some_iff]at h ⊢
 obtain⟨cs,h1,h2⟩:=h
 exact⟨cs,agJ hG h1,h2⟩
include hG in
theorem zA {sz:Nat}{x:AV}{es:List (List AV)} (h:fR G sz x=some es):fR G' sz x=some es:=by
 unfold fR at h ⊢
 split at h
 ·exact h
 ·exact h
 ·split at h
  ·rename_i hg;rw[hG _ _ _ hg];exact h
  ·cases h
 ·split at h
  ·rename_i hg;rw[hG _ _ _ hg];exact h
  ·cases h
 ·cases h
theorem afz {T:Aw}{s d:TI}{x y:AV} (h:qx T s d x=some y):∃ e,d.d=.slice e:=by
 unfold qx at h
 split at h
 ·rename_i e he;exact⟨e,he⟩
 ·cases h
theorem afD {T:Aw}{G:AA}{s d:TI}{x:AV} (h:∃ e,d.d=.slice e):iM T G s d x=none:=by
 obtain⟨e,he⟩:=h
 unfold iM
 rw[he]
include hG in
theorem afB {T:Aw}{s d:TI}{x y:AV} (h:iM T G s d x=some y):iM T G' s d x=some y:=by
 unfold iM at h ⊢
 split at h
 ·exact h
 ·split at h
  ·exact h
  ·split at h
   ·split at h
    ·split at h
     ·rename_i h1
      rw[if_pos h1]
      rw[Option.bind_eq_some_iff]at h ⊢
      obtain⟨es,h2,h3⟩:=h
      exact⟨es,zA hG h2,h3⟩
     ·cases h
    ·cases h
   ·cases h
  ·cases h
 ·cases h
include hG in
theorem acR:∀ (l:List (Nat×AV)) (cs:List (Nat×List AV)),jj G l=some cs->jj G' l=some cs
 |[],cs,h=>h
 |(i,v)::l,cs,h=>by
  simp only[jj]at h ⊢
  split at h
  ·split at h
   ·rename_i a b ha hb
    rw[lB hG _ _ ha,acR l b hb];exact h
   ·cases h
  ·cases h
include hG in
theorem ag0 {kb len:Nat}{ti:TI}{ps:List (Nat×AV)}{d:De} (h:nH G kb ti len ps=some d):nH G' kb ti len ps=some d:=by
 unfold nH at h ⊢
 split at h
 ·split at h
  ·rename_i hc
   rw[if_pos hc]
   split at h
   ·rename_i cs ek
    rw[acR hG _ _ ek];exact h
   ·cases h
  ·cases h
 ·cases h
include hG in
theorem zt {kb:Nat}{ti:TI}{s x:AV}{d:De} (h:ic G kb ti s x=some d):ic G' kb ti s x=some d:=by
 unfold ic at h ⊢
 split at h
 ·split at h
  ·rename_i new dA
   rw[zA hG dA]
   split at h
   ·exact h
   ·split at h
    ·rename_i hg
     simp only[hG _ _ _ hg];exact h
    ·cases h
   ·cases h
  ·cases h
 ·cases h
include hG in
theorem ag4 {ti:TI}{s x:AV}{d:De} (h:pf G ti s x=some d):pf G' ti s x=some d:=by
 unfold pf at h ⊢
 split at h
 ·split at h
  ·rename_i new dA
   rw[zA hG dA]
   split at h
   ·exact h
   ·split at h
    ·rename_i hg
     simp only[hG _ _ _ hg];exact h
    ·cases h
   ·split at h
    ·rename_i hg
     simp only[hG _ _ _ hg];exact h
    ·cases h
   ·cases h
  ·cases h
 ·cases h
include hG in
theorem ag2 {ti:TI}{x:AV}{d:De} (h:pe G ti x=some d):pe G' ti x=some d:=by
 unfold pe at h ⊢
 split at h
 ·split at h
  ·exact h
  ·split at h
   ·rename_i hg
    simp only[hG _ _ _ hg];exact h
   ·cases h
  ·cases h
 ·cases h
include hG in
theorem ag9 {kb:Nat}{ti:TI}{a:AV}{vc:List AV}{d:De} (h:nI G kb ti a vc=some d):nI G' kb ti a vc=some d:=by
 unfold nI at h ⊢
 split at h
 ·rename_i hl
  rw[if_pos hl]
  split at h
  ·split at h
   ·rename_i hg
    simp only[hG _ _ _ hg]
    split at h
    ·rename_i hle
     rw[if_pos hle]
     split at h
     ·rename_i h0;rw[if_pos h0];exact h
     ·rename_i h0
      rw[if_neg h0]
      split at h
      ·exact h
      ·split at h
       ·rename_i new hz;rw[lB hG _ _ hz];exact h
       ·cases h
    ·cases h
   ·cases h
  ·split at h
   ·rename_i hg
    simp only[hG _ _ _ hg]
    split at h
    ·rename_i hc
     rw[if_pos hc]
     split at h
     ·rename_i c new mL hz
      rw[mL,lB hG _ _ hz];exact h
     ·cases h
    ·cases h
   ·cases h
  ·cases h
 ·cases h
theorem qz {a b:Option AV}{d:De} (hm:∀ x,a=some x->b=some x) (h:cU a=some d):cU b=some d:=by
 obtain⟨x,hx,rfl⟩:=abE h
 rw[hm x hx];rfl
include hG in
theorem afx {T:Aw}{kb:Nat}{b:Builtin}{ts:List TypeId}{xs:List AV}{d:De} (h:kF T G kb b ts xs=some d):kF T G' kb b ts xs=some d:=by
 unfold kF at h ⊢
 split at h
 ·cases h
 ·split at h
  ·cases h
  ·split at h
   ·exact h
   ·split at h
    ·split at h
     ·rename_i hl;rw[if_pos hl];exact zt hG h
     ·rename_i hl
      rw[if_neg hl]
      unfold sK at h ⊢
      split at h
      ·split at h
       ·split at h
        ·split at h
         ·rename_i h1;rw[if_pos h1];exact zt hG h
         ·cases h
        ·cases h
       ·cases h
      ·split at h
       ·split at h
        ·unfold qM at h ⊢
         split at h
         ·rename_i h1;rw[if_pos h1];exact zt hG h
         ·cases h
        ·cases h
       ·cases h
      ·cases h
    ·cases h
   ·split at h
    ·split at h
     ·rename_i hl;rw[if_pos hl];exact ag4 hG h
     ·cases h
    ·cases h
   ·split at h
    ·exact ag2 hG h
    ·cases h
   ·exact h
   ·exact h
   ·cases h
theorem afs {G':AA}{ti:TI}{x lo hi z z':AV} (h:jd G' ti x lo hi=some z') (k:lj ti x (some lo) (some hi)=some z):z'=z:=by
 unfold jd at h
 split at h
 ·rename_i lv kk esz i n g
  split at h
  ·rename_i el hd
   split at h
   ·rename_i kl l kh gn
    split at h
    ·split at h
     ·obtain rfl:=oi h
      unfold lj at k
      rw[hd]at k
      simp only at k
      split at k
      ·simp only[mS]at k
       obtain⟨⟨a,b⟩,hb,rfl⟩:=k
       unfold bounds nD at hb
       simp only at hb
       split at hb
       ·rename_i hh hhe
        split at hhe
        ·obtain rfl:=oi hhe
         unfold nE at hb
         simp only at hb
         split at hb
         ·rename_i ll hle
          split at hle
          ·obtain rfl:=oi hle
           simp only[oE,Prod.mk.injEq]at hb
           obtain⟨rfl,rfl⟩:=hb
           rfl
          ·cases hle
         ·cases hb
        ·cases hhe
       ·cases hb
      ·cases k
     ·cases h
    ·cases h
   ·cases h
  ·cases h
 ·cases h
include de hG in
theorem adT {T:Aw}{kb:Nat}{o:Op}{ty:TypeId}{d:De} (h:aW T kb o ty tm G=some d):aW T kb o ty tm' G'=some d:=by
 have ev:∀ {x:Operand}{y:AV},aN tm x=some y->aN tm' x=some y:=fun hx=>rI de hx
 unfold aW at h ⊢
 split at h
 ·exact qz (fun _=>ev) h
 ·rename_i x
  cases hx:aN tm x with
  |none=>rw[hx]at h;cases h
  |some y=>
   rw[hx]at h
   rw[ev hx]
   exact h
 ·rename_i c x y
  split at h
  ·rename_i b hb
   simp only[ev hb]
   cases b with
   |true=>exact qz (fun _=>ev) h
   |false=>exact qz (fun _=>ev) h
  ·cases h
 ·exact h
 ·split at h
  ·rename_i ti x' ht hx
   simp only[ht,ev hx];exact h
  ·cases h
 ·split at h
  ·rename_i ti ps ht hp
   simp only[ht,aaS de _ _ hp];exact h
  ·cases h
 ·split at h
  ·rename_i ti ps ht hp
   simp only[ht,aaS de _ _ hp];exact ag0 hG h
  ·cases h
 ·split at h
  ·rename_i ti x' ht hx
   simp only[ht,ev hx];exact qz (fun _=>ag6 hG) h
  ·cases h
 ·split at h
  ·rename_i ti x' y' ht hx hy
   simp only[ht,ev hx,ev hy]
   split at h
   ·exact ag9 hG h
   ·cases h
  ·cases h
 ·split at h
  ·rename_i x' hx
   simp only[ev hx];exact h
  ·cases h
 ·split at h
  ·rename_i ti x' y' ht hx hy
   simp only[ht,ev hx,ev hy];exact h
  ·cases h
 ·split at h
  ·rename_i x' hx
   simp only[ev hx];exact h
  ·cases h
 ·split at h
  ·rename_i s d' x' hs hd hx
   simp only[hs,hd,ev hx]
   refine qz (fun z hz=>?_) h
   cases hc:iM T G s d' x' with
   |some y=>rw[hc]at hz;rw[afB hG hc];exact hz
   |none=>
    rw[hc,pU]at hz
    rw[afD (afz hz),pU];exact hz
  ·cases h
 ·split at h
  ·rename_i x' y' hx hy
   simp only[uD de _ _ hx,uD de _ _ hy];exact h
  ·cases h
 ·split at h
  ·rename_i ti l' c' ht hl hc
   simp only[ht,ev hl,ev hc];exact h
  ·cases h
 ·split at h
  ·split at h
   ·split at h
    ·rename_i ht hx hh hm
     simp only[ht,ev hx,ev hh,ev hm]
     exact h
    ·cases h
   ·split at h
    ·rename_i ht hx hl hh
     split at h
     ·rename_i hm
      simp only[ht,ev hx,ev hl,ev hh,ev hm]
      exact h
     ·cases h
    ·cases h
   ·cases h
  ·split at h
   ·rename_i ti x' ht hx
    simp only[ht,ev hx]
    split at h
    ·exact h
    ·split at h
     ·rename_i er;simp only[ev er];exact h
     ·cases h
    ·split at h
     ·rename_i er;simp only[ev er];exact h
     ·cases h
    ·split at h
     ·rename_i jI fB er nV
      simp only[ev er,ev nV]
      refine qz (fun z hz=>?_) h
      cases db:jd G ti x' jI fB with
      |none=>
       rw[db,pU]at hz
       cases aac:jd G' ti x' jI fB with
       |none=>rw[pU];exact hz
       |some z'=>
        rw[rK]
        exact(afs aac hz)▸rfl
      |some z'=>
       rw[db,rK]at hz
       have aac:jd G' ti x' jI fB=some z':=by
        unfold jd at db ⊢
        split at db
        ·split at db
         ·split at db
          ·split at db
           ·rename_i hg
            simp only[hG _ _ _ hg];exact db
           ·cases db
          ·cases db
         ·cases db
        ·cases db
       rw[aac,rK];exact hz
     ·cases h
   ·cases h
 ·split at h
  ·rename_i ti x' ht hx
   simp only[ht,ev hx];exact h
  ·cases h
 ·split at h
  ·rename_i ti x' ht hx
   simp only[ht,ev hx];exact h
  ·cases h
 ·split at h
  ·rename_i ti x' y' ht hx hy
   simp only[ht,ev hx,ev hy];exact h
  ·cases h
 ·split at h
  ·rename_i ti x' y' ht hx hy
   simp only[ht,ev hx,ev hy];exact h
  ·cases h
 ·split at h
  ·rename_i xs hx
   simp only[ev hx];exact h
  ·cases h
 ·split at h
  ·rename_i ti l k esz i n g ht hx
   simp only[ht,ev hx];exact h
  ·cases h
 ·split at h
  ·rename_i ti x' ht hx
   simp only[ht,ev hx];exact h
  ·cases h
 ·split at h
  ·split at h
   ·rename_i xs eA
    simp only[uD de _ _ eA];exact afx hG h
   ·cases h
  ·cases h
 ·cases h
end
abbrev Sets:=List (Nat×Nat×Option Ap)
def said:Sets->Nat->Nat->Option (Option Ap)
 |[],_,_=>none
 |(l,k,b)::r,l',k'=>match said r l' k' with
  |some x=>some x
  |none=>if l=l'/\k=k' then some b else none
theorem pk (s:Sets):∀ (H:Heap) (l k:Nat),(H.bk s).get l k=match said s l k with
  |some b=>if l<H.length then b else none
  |none=>H.get l k:=by
 induction s with
 |nil=>intro H l k;rfl
 |cons p s ih=>
  obtain⟨l0,k0,b⟩:=p
  intro H l k
  simp only[Heap.bk,ih,said,Heap.aiH]
  cases hs:said s l k with
  |some x=>rfl
  |none=>
   simp only[Heap.mH]
   by_cases h:l0=l/\k0=k
   ·obtain⟨rfl,rfl⟩:=h
    simp only[and_self,true_and,if_true]
    split
    ·rfl
    ·rename_i hl
     cases hg:H.get l0 k0 with
     |none=>rfl
     |some b'=>exact absurd (Heap.nM H _ _ _ hg) hl
   ·rw[if_neg h,if_neg (fun hh=>h ⟨hh.1,hh.2.1⟩)]
theorem rP (s t:Sets) (l k:Nat):said (s++t) l k=match said t l k with
  |some x=>some x
  |none=>said s l k:=by
 induction s with
 |nil=>simp only[BV,said];cases said t l k<;>rfl
 |cons p s ih=>
  obtain⟨l0,k0,b⟩:=p
  simp only[A8,said,ih]
  cases said t l k<;>rfl
theorem yc {s:Sets}{l k:Nat} (h:∀ p∈s,¬ (p.1=l/\p.2.1=k)):said s l k=none:=by
 induction s with
 |nil=>rfl
 |cons p s ih=>
  obtain⟨l0,k0,b⟩:=p
  simp only[said,ih (fun q hq=>h q (List.mem_cons_of_mem _ hq))]
  rw[if_neg (h _ List.mem_cons_self)]
theorem aei {s:Sets}{l k:Nat}{x:Option Ap} (h:said s l k=some x):∃ p∈s,p.1=l/\p.2.1=k:=by
 induction s with
 |nil=>cases h
 |cons p s ih=>
  obtain⟨l0,k0,b⟩:=p
  simp only[said]at h
  cases hs:said s l k with
  |some y=>rw[hs]at h;cases h;obtain⟨q,h1,h2⟩:=ih hs;exact⟨q,List.mem_cons_of_mem _ h1,h2⟩
  |none=>
   rw[hs]at h
   simp only at h
   split at h
   ·rename_i hh;exact⟨_,List.mem_cons_self,hh⟩
   ·cases h
def mm (s t:Sets):Prop:=∀ p∈s,∀ q∈t,¬ (p.1=q.1/\p.2.1=q.2.1)
theorem ajO {s t:Sets} (h:mm s t) (l k:Nat):said (s++t) l k=said (t++s) l k:=by
 rw[rP,rP]
 cases ht:said t l k with
 |none=>cases said s l k<;>rfl
 |some x=>
  cases hs:said s l k with
  |none=>rfl
  |some y=>
   obtain⟨q,h1,h2,h3⟩:=aei ht
   obtain⟨p,h4,h5,h6⟩:=aei hs
   exact absurd ⟨h5.trans h2.symm,h6.trans h3.symm⟩ (h p h4 q h1)
section
variable {N0:Nat}{W0:World}{fm:FM}{ts:List Ah}{H H':Heap}{w:World}
theorem HR.ext (h:HR N0 W0 fm ts H w) (hl:H'.length=H.length) (hg:∀ l k,H'.get l k=H.get l k):HR N0 W0 fm ts H' w:=
 ⟨h.len.trans hl.symm,fun l k b e=>h.aj l k b (by rw[<-hg];exact e),fun l1 k1 l2 k2 b1 b2 c g1 g2=>h.inj l1 k1 l2 k2 b1 b2 c (by rw[<-hg];exact g1) (by rw[<-hg];exact g2),h.bL,
  fun l k b c o e=>h.dx l k b c o (by rw[<-hg];exact e),h.bJ,h.size,h.bj⟩
end
def bP (ops:List Ai) (j:Nat):Option Tmp:=(ops[j]?).bind (·.dst)
def fQ (ops:List Ai) (ds:List De):List Nat->List (Nat×AV)->List (Nat×AV)
 |[],tm=>tm
 |j::L,tm=>fQ ops ds L (match ds[j]? with
  |some d=>kr tm (bP ops j) d.val
  |none=>tm)
def dk (ds:List De) (j:Nat):Sets:=((ds[j]?).map (·.jb)).getD []
def bQ (ds:List De):List Nat->Sets
 |[]=>[]
 |j::L=>dk ds j++bQ ds L
def CX (ops:List Ai):Prop:=∀ i j t,bP ops i=some t->bP ops j=some t->i=j
theorem adI (tm:List (Nat×AV)) (dst:Option Tmp) (v:AV) (t:Nat):look (kr tm dst v) t=if dst=some t then some v else look tm t:=by
 cases dst with
 |none=>simp[kr]
 |some d=>simp only[kr,oo,oE]
theorem jW (ops:List Ai) (ds:List De) (t:Nat):∀ (L:List Nat) (tm:List (Nat×AV)),(∀ j∈L,bP ops j≠some t)->look (fQ ops ds L tm) t=look tm t
 |[],tm,_=>rfl
 |j::L,tm,h=>by
  simp only[fQ]
  rw[jW ops ds t L _ (fun k hk=>h k (List.mem_cons_of_mem _ hk))]
  split
  ·rw[adI,if_neg (h j List.mem_cons_self)]
  ·rfl
theorem nJ (ops:List Ai) (ds:List De) (h1:CX ops) {t j:Nat}{d:De} (hj:bP ops j=some t) (hd:ds[j]?=some d):∀ (L:List Nat) (tm:List (Nat×AV)),j∈L->look (fQ ops ds L tm) t=some d.val
 |[],tm,h=>by cases h
 |i::L,tm,h=>by
  simp only[fQ]
  by_cases hL:j∈L
  ·exact nJ ops ds h1 hj hd L _ hL
  ·have:j=i:=by
    rcases BA.1 h with h|h
    ·exact h
    ·exact absurd h hL
   subst this
   rw[jW ops ds t L _ (fun k hk mR=>hL (by rw[h1 j k t hj mR];exact hk))]
   rw[hd]
   simp only[adI,hj,if_true]
theorem aa1 {ds:List De}{l k:Nat} (p q:Nat->Bool) (lO:∀ j,p j=true->q j=true):∀ (L:List Nat),(∀ j∈L,q j=true->p j=false->∀ s∈dk ds j,¬ (s.1=l/\s.2.1=k))->
  said (bQ ds (L.filter p)) l k=said (bQ ds (L.filter q)) l k
 |[],_=>rfl
 |j::L,h=>by
  have ih:=aa1 p q lO L (fun i hi=>h i (List.mem_cons_of_mem _ hi))
  by_cases hp:p j=true
  ·rw[List.filter_cons_of_pos hp,List.filter_cons_of_pos (lO j hp)]
   simp only[bQ,rP,ih]
  ·have hpf:p j=false:=by simpa using hp
   rw[List.filter_cons_of_neg hp]
   by_cases hq:q j=true
   ·rw[List.filter_cons_of_pos hq]
    simp only[bQ,rP,<-ih]
    rw[yc (h j List.mem_cons_self hq hpf)]
    cases said (bQ ds (L.filter p)) l k<;>rfl
   ·rw[List.filter_cons_of_neg hq];exact ih
theorem aeh {ds:List De}{l k i:Nat} (p:Nat->Bool) (fo:p i=false):∀ (L:List Nat),L.Nodup->i∈L->(∀ j,p j=true->(∃ a b,L=a++i::b/\j∈b)->mm (dk ds i) (dk ds j))->
  said (bQ ds (L.filter fun j=>p j || j==i)) l k=said (bQ ds (L.filter p)++dk ds i) l k
 |[],_,h,_=>by cases h
 |j::L,bw,hi,jv=>by
  by_cases iq:j=i
  ·subst iq
   have hnL:j∉L:=(List.nodup_cons.1 bw).1
   have e1:(j::L).filter (fun k=>p k || k==j)=j::L.filter p:=by
    rw[List.filter_cons_of_pos (by simp)]
    congr 1
    apply List.filter_congr
    intro x hx
    have:(x==j)=false:=by simp;rintro rfl;exact hnL hx
    rw[this];simp
   have e2:(j::L).filter p=L.filter p:=by rw[List.filter_cons_of_neg (by simp[fo])]
   rw[e1,e2]
   simp only[bQ]
   refine ajO ?_ l k
   have:∀ (M:List Nat),(∀ x∈M,x∈L)->mm (dk ds j) (bQ ds (M.filter p)):=by
    intro M
    induction M with
    |nil=>intro _ a _ b hb;cases hb
    |cons x M ih=>
     intro hM
     by_cases hp:p x=true
     ·rw[List.filter_cons_of_pos hp]
      intro a ha b hb
      simp only[bQ,AZ]at hb
      rcases hb with hb|hb
      ·exact jv x hp ⟨[],L,rfl,hM x List.mem_cons_self⟩ a ha b hb
      ·exact ih (fun y hy=>hM y (List.mem_cons_of_mem _ hy)) a ha b hb
     ·rw[List.filter_cons_of_neg hp]
      exact ih (fun y hy=>hM y (List.mem_cons_of_mem _ hy))
   exact this L (fun _ h=>h)
  ·have hiL:i∈L:=by
    rcases BA.1 hi with h|h
    ·exact absurd h.symm iq
    ·exact h
   have ih:=aeh (ds:=ds) (l:=l) (k:=k) p fo L (List.nodup_cons.1 bw).2 hiL (fun x hx=>by
    rintro⟨a,b,e,hb⟩
    exact jv x hx ⟨j::a,b,by rw[e];rfl,hb⟩)
   have bg:(j==i)=false:=by simpa using iq
   by_cases hp:p j=true
   ·rw[List.filter_cons_of_pos (by simp[hp]),List.filter_cons_of_pos hp]
    simp only[bQ]
    rw[rP,ih,Cd,rP (dk ds j)]
   ·have hpf:p j=false:=by simpa using hp
    rw[List.filter_cons_of_neg (by simp[hpf,iq]),List.filter_cons_of_neg hp]
    exact ih
def idxs (n:Nat) (p:Nat->Bool):List Nat:=(List.range n).filter p
def bH (befs:List (List Nat)) (i:Nat):List Nat:=(befs[i]?).getD []
def nu (befs:List (List Nat)) (i j:Nat):Bool:=j != i&&!(bH befs i).contains j&&!(bH befs j).contains i
def lx (ops:List Ai) (befs:List (List Nat)) (ds:List De) (tm:List (Nat×AV)) (i:Nat):List (Nat×AV):=
 fQ ops ds (idxs ops.length fun j=>(bH befs i).contains j) (cd tm ((idxs ops.length fun j=>!(bH befs j).contains i).filterMap (bP ops)))
def gone (s:Sets):Sets:=s.map fun x=>(x.1,x.2.1,none)
def jV (ops:List Ai) (befs:List (List Nat)) (ds:List De) (H:Heap) (i:Nat):Heap:=
 (H.bk (bQ ds (idxs ops.length fun j=>(bH befs i).contains j))).bk (gone (bQ ds (idxs ops.length (nu befs i))))
def DH (P:Program) (t:TypeId) (ob:Obj) (r:Nat) (kv y:AV):Prop:=∀ (fm:FM) (ts:List Ah) (v:Value) (w:World),VR fm ts kv v->w.heap[r]?=some ob->∃ u,(Instr.lookup t (.map (some r)) v false).run P w=.ok u w/\VR fm ts y u
inductive Df [Md] (P:Program) (T:Aw) (kb:Nat) (o:Ai) (tm:Tm) (G:AA) (d:De):Prop
 |op (hc:iy o.op=none) (h:aW T kb o.op o.type tm G=some d)
 |call (c:Call) (f:FuncId) (args aw:List AV) (hc:iy o.op=some c) (h:callee tm c=some (f,args)) (hp:An P f aw (fun y=>y=d.val)) (hz:AV.az G args=some aw)
   (hr:AV.aD args=[]\/d.val.cJ=true) (hs:d.jb=[])
 |lW (m:Nat) (c:Call) (f:FuncId) (args aw:List AV) (hc:iy o.op=some c) (h:callee tm c=some (f,args)) (hp:An P f aw (fun y=>y=d.val)) (hz:AV.cB G (cF G m) args=some aw)
   (hr:d.val.cJ=true) (hs:d.jb=[])
 |lD (rs gs:List Nat) (c:Call) (f:FuncId) (args cT:List AV) (fr0 fr:Aj) (y:AV) (hc:iy o.op=some c) (h:callee tm c=some (f,args)) (hp:AY P f cT fr0 (fun y' aH=>y'=y/\aH=fr))
   (hz:jo gs (only (gP G) (rs.map fun k=>(1,k))) (cF (only (gP G) (rs.map fun k=>(1,k))) 5) (AV.ck 1 args)=some cT) (hg:lF G 0 gs=some fr0) (bw:(decide (gs++rs).Nodup&&decide (gs.length<=16))=true)
   (hd:d=⟨y.imp kb,iX rs++(iX gs++iV kb fr)⟩)
 |nN (m:Nat) (c:Call) (f:FuncId) (args aw:List AV) (fr:Aj) (y:AV) (hc:iy o.op=some c) (h:callee tm c=some (f,args)) (hp:AY P f aw [] (fun y' aH=>y'=y/\aH=fr)) (hz:AV.cB G (cF G m) args=some aw)
   (hy:y.m4=true) (hf:om fr) (hd:d=⟨y.imp kb,iV kb fr⟩)
 |look (t:TypeId) (m x:Operand) (r:Nat) (kv:AV) (ob:Obj) (ho:o.op=.lookup t m x false) (hm:aN tm m=some (.mp (some r))) (hx:aN tm x=some kv) (hr:Md.ou r=some ob) (hl:DH P t ob r kv d.val) (hs:d.jb=[])
def ac1 (o:Ai) (tm:Tm):Prop:=o.guard=none\/∃ g w b,o.guard=some (g,w)/\tm g=some (.bool b)/\(b==w)=true
def stays (o:Ai) (tm:Tm):Prop:=∃ g w,o.guard=some (g,w)/\((∃ b,tm g=some (.bool b)/\(b==w)=false)\/tm g=some (.ak []))
def Ck [Md] (P:Program) (T:Aw) (kb:Nat) (o:Ai) (tm:Tm) (G:AA) (d:De):Prop:=(ac1 o tm/\Df P T kb o tm G d)\/(stays o tm/\d=⟨.ak [],[]⟩)
theorem ahw {s:Sets}{l k:Nat} (h:∃ p∈s,p.1=l/\p.2.1=k):said (gone s) l k=some none:=by
 induction s with
 |nil=>obtain⟨p,hp,_⟩:=h;cases hp
 |cons q s ih=>
  obtain⟨l0,k0,b⟩:=q
  simp only[gone,List.map_cons,said]
  by_cases hs:∃ p∈s,p.1=l/\p.2.1=k
  ·have:=ih hs
   unfold gone at this
   rw[this]
  ·obtain⟨p,hp,h1,h2⟩:=h
   rcases BA.1 hp with rfl|hp
   ·have hn:said (List.map (fun x=>(x.1,x.2.1,none)) s) l k=none:=by
     apply yc
     intro x hx
     obtain⟨y,hy,rfl⟩:=List.mem_map.1 hx
     exact fun hh=>hs ⟨y,hy,hh⟩
    rw[hn]
    simp only
    rw[if_pos ⟨h1,h2⟩]
   ·exact absurd ⟨p,hp,h1,h2⟩ hs
theorem aaI {ds:List De}{s:Nat×Nat×Option Ap}:∀ (L:List Nat),s∈bQ ds L↔∃ j∈L,s∈dk ds j
 |[]=>by simp[bQ]
 |j::L=>by simp only[bQ,AZ,aaI L,BA,exists_eq_or_imp]
theorem agQ {ops:List Ai}{befs:List (List Nat)}{ds:List De}{H:Heap}{i:Nat} (p:Nat->Bool) (fo:p i=false) (hB:∀ j,(bH befs i).contains j=true->p j=true)
  (bV:∀ j,p j=true->(bH befs j).contains i=false):CT (Heap.get (jV ops befs ds H i)) (Heap.get (H.bk (bQ ds (idxs ops.length p)))):=by
 intro l k b hb
 unfold jV at hb
 rw[pk]at hb
 have tJ:¬ ∃ s∈bQ ds (idxs ops.length (nu befs i)),s.1=l/\s.2.1=k:=by
  intro hex
  rw[ahw hex]at hb
  simp only at hb
  split at hb<;>cases hb
 have hn:said (gone (bQ ds (idxs ops.length (nu befs i)))) l k=none:=by
  apply yc
  intro x hx
  obtain⟨y,hy,rfl⟩:=List.mem_map.1 hx
  exact fun hh=>tJ ⟨y,hy,hh⟩
 rw[hn]at hb
 simp only at hb
 rw[pk]at hb ⊢
 have e:said (bQ ds (idxs ops.length fun j=>(bH befs i).contains j)) l k=said (bQ ds (idxs ops.length p)) l k:=by
  refine aa1 _ _ hB _ ?_
  intro j hj iU hnb s hs hh
  refine tJ ⟨s,(aaI _).2 ⟨j,?_,hs⟩,hh⟩
  unfold idxs
  rw[List.mem_filter]
  refine⟨hj,?_⟩
  have iq:j≠i:=by rintro rfl;rw[fo]at iU;cases iU
  unfold nu
  rw[hnb,bV j iU]
  simp[iq]
 rw[<-e]
 exact hb
section
variable [Md]
structure DR (N0:Nat) (W0:World) (n:Nat) (st:St) (ops:List Ai) (ds:List De) (p:Nat->Bool) (a:Act) (w:World) (fm:FM) (ts:List Ah):Prop where
 hr:HR N0 W0 fm ts (Heap.bk (st.fr::st.low) (bQ ds (idxs ops.length p))) w
 tm:Ce fm ts (look (fQ ops ds (idxs ops.length p) st.tm)) a
 wj:∀ i,i<ops.length->p i=false->∀ k,st.nx+16*i<=k->k<st.nx+16*i+16->tb ts 0 k=none
 top:∀ k,st.nx+16*ops.length<=k->tb ts 0 k=none
 size:a.tmps.size=n
 cV:a.defers=Md.qL/\Cu W0
theorem jF {n:Nat}{p:Nat->Bool}{j:Nat}:j∈idxs n p↔j<n/\p j=true:=by
 unfold idxs;rw[List.mem_filter,List.mem_range]
section
variable [Md] {P:Program}{T:Aw}{N0:Nat}{W0:World}{n:Nat}{fm:FM}{ts:List Ah}{st:St}{ops:List Ai}{befs:List (List Nat)}{ds:List De}
theorem aci {l:List (Nat×AV)}:∀ (ks:List Nat) (l:List (Nat×AV)) (t:Nat),t∈ks->look (cd l ks) t=none
 |[],_,_,h=>by cases h
 |k::ks,l,t,h=>by
  simp only[cd]
  by_cases ht:t∈ks
  ·exact aci (l:=l) ks _ t ht
  ·have hk:t=k:=by
    rcases BA.1 h with h|h
    ·exact h
    ·exact absurd h ht
   subst hk
   cases hl:look (cd (del l t) ks) t with
   |none=>rfl
   |some x=>
    have:=ur ks _ t x hl
    rw[uq,if_pos rfl]at this
    cases this
theorem ace {p:Nat->Bool}{i:Nat} (h1:CX ops) (kR:∀ j,j<ops.length->∃ d,ds[j]?=some d) (hB:∀ j,(bH befs i).contains j=true->p j=true) (bV:∀ j,p j=true->(bH befs j).contains i=false):
  DP (look (lx ops befs ds st.tm i)) (look (fQ ops ds (idxs ops.length p) st.tm)):=by
 intro t x hx
 unfold lx at hx
 by_cases hex:∃ j,bP ops j=some t
 ·obtain⟨j,hj⟩:=hex
  have j8:j<ops.length:=by
   unfold bP at hj
   cases ho:ops[j]? with
   |none=>rw[ho]at hj;cases hj
   |some o=>exact(gS.1 ho).1
  obtain⟨dj,lJ⟩:=kR j j8
  have bx:∀ q:Nat->Bool,q j=false->∀ k∈idxs ops.length q,bP ops k≠some t:=by
   intro q hq k hk mR
   have:=h1 j k t hj mR
   subst this
   rw[(jF.1 hk).2]at hq;cases hq
  by_cases hb:(bH befs i).contains j=true
  ·rw[nJ ops ds h1 hj lJ _ _ (jF.2 ⟨j8,hb⟩)]at hx
   rw[nJ ops ds h1 hj lJ _ _ (jF.2 ⟨j8,hB j hb⟩)]
   exact hx
  ·rw[jW ops ds t _ _ (bx _ (by simpa using hb))]at hx
   by_cases ha:(bH befs j).contains i=true
   ·have iU:p j=false:=by
     cases hp:p j with
     |false=>rfl
     |true=>have:=bV j hp;rw[ha]at this;cases this
    rw[jW ops ds t _ _ (bx _ iU)]
    exact ur _ _ _ _ hx
   ·rw[aci (l:=st.tm)]at hx
    ·cases hx
    ·exact List.mem_filterMap.2 ⟨j,jF.2 ⟨j8,by simpa using ha⟩,hj⟩
 ·have bx:∀ (L:List Nat),∀ j∈L,bP ops j≠some t:=fun L j _ hj=>hex ⟨j,hj⟩
  rw[jW ops ds t _ _ (bx _)]at hx ⊢
  exact ur _ _ _ _ hx
theorem DR.step {p:Nat->Bool}{a:Act}{w:World} (h:DR N0 W0 n st ops ds p a w fm ts) {i:Nat} (hi:i<ops.length) (fo:p i=false) {d:De} (hd:ds[i]?=some d) {r:Result Next}{fm':FM}{ts':List Ah}{w':World}{v:Value}
  (o:Out N0 W0 fm ts (Heap.bk (st.fr::st.low) (bQ ds (idxs ops.length p))) w (st.nx+16*i) r d fm' ts' w' v) (h1:CX ops) (kR:∀ j,j<ops.length->∃ d,ds[j]?=some d)
  (jv:∀ j,p j=true->i<j->mm (dk ds i) (dk ds j)) (dy:∀ d,bP ops i=some d->d<n):
  DR N0 W0 n st ops ds (fun j=>p j || j==i) (a.put (bP ops i) v) w' fm' ts'/\AT N0 fm ts fm' ts':=by
 refine⟨⟨?_,?_,?_,?_,by rw[pW];exact h.size,by rw[oB];exact h.cV⟩,⟨o.cC,o.fu.drop 1,?_⟩⟩
 ·refine o.hr.ext (by simp) ?_
  intro l k
  have hs:dk ds i=d.jb:=by simp[dk,hd]
  rw[<-Heap.mb,<-hs,pk,pk]
  have:=aeh (ds:=ds) (l:=l) (k:=k) (i:=i) p fo (List.range ops.length) List.nodup_range (List.mem_range.2 hi) (by
   rintro j hj ⟨x,y,pL,hjy⟩
   refine jv j hj ?_
   have adt:(List.range ops.length).Pairwise (·<·):=List.pairwise_lt_range
   rw[pL]at adt
   have:=(List.pairwise_append.1 adt).2.1
   exact(List.pairwise_cons.1 this).1 j hjy)
  unfold idxs
  rw[this]
 ·intro t x hx
  by_cases ht:bP ops i=some t
  ·have bl:i∈idxs ops.length (fun j=>p j || j==i):=jF.2 ⟨hi,by simp⟩
   rw[nJ ops ds h1 ht hd _ _ bl]at hx
   obtain rfl:=oi hx
   have ab:=dy t ht
   rw[<-h.size]at ab
   exact⟨v,by rw[ht];simp[Act.put,ab],o.val⟩
  ·have eO:look (fQ ops ds (idxs ops.length p) st.tm) t=some x:=by
    by_cases hex:∃ j,bP ops j=some t
    ·obtain⟨j,hj⟩:=hex
     have iq:j≠i:=fun e=>ht (by rw[<-e];exact hj)
     have j8:j<ops.length:=by
      unfold bP at hj
      cases ho:ops[j]? with
      |none=>rw[ho]at hj;cases hj
      |some o=>exact(gS.1 ho).1
     obtain⟨dj,lJ⟩:=kR j j8
     by_cases iU:p j=true
     ·rw[nJ ops ds h1 hj lJ _ _ (jF.2 ⟨j8,by simp[iU]⟩)]at hx
      rw[nJ ops ds h1 hj lJ _ _ (jF.2 ⟨j8,iU⟩)]
      exact hx
     ·have bx:∀ q:Nat->Bool,q j=false->∀ k∈idxs ops.length q,bP ops k≠some t:=by
       intro q hq k hk mR
       have:=h1 j k t hj mR
       subst this
       rw[(jF.1 hk).2]at hq;cases hq
      rw[jW ops ds t _ _ (bx _ (by simp[iU,iq]))]at hx
      rw[jW ops ds t _ _ (bx _ (by simpa using iU))]
      exact hx
    ·have bx:∀ (L:List Nat),∀ j∈L,bP ops j≠some t:=fun L j _ hj=>hex ⟨j,hj⟩
     rw[jW ops ds t _ _ (bx _)]at hx ⊢
     exact hx
   obtain⟨u,h2,h3⟩:=h.tm t x eO
   refine⟨u,?_,h3.mono o.cC.le o.fu⟩
   cases kS:bP ops i with
   |none=>exact h2
   |some dd=>
    simp only[Act.put]
    rw[Array.getElem?_setIfInBounds_ne (fun e=>ht (by rw[kS,e]))]
    exact h2
 ·intro j hj iU k rl mQ
  simp only[Bool.or_eq_false_iff,beq_eq_false_iff_ne,ne_eq]at iU
  refine o.free 0 k ?_ (h.wj j hj iU.1 k rl mQ)
  rcases Nat.lt_or_gt_of_ne iU.2 with ab|hgt
  ·exact .inr (.inl (by omega))
  ·exact .inr (.inr (by omega))
 ·intro k hk
  refine o.free 0 k (.inr (.inr ?_)) (h.top k hk)
  have:st.nx+16*i+16<=st.nx+16*ops.length:=by omega
  omega
 ·intro l k hn
  rw[dC]at hn ⊢
  exact o.free (l+1) k (by omega) hn
end
end
section
variable [Md] {P:Program}{T:Aw}{N0:Nat}{W0:World}{n:Nat}{fm:FM}{ts:List Ah}{st:St}{ops:List Ai}{befs:List (List Nat)}{ds:List De}
theorem vW {tm tm':Tm} (h:DP tm tm') {c:Call}{x:FuncId×List AV} (e:callee tm c=some x):callee tm' c=some x:=by
 unfold callee at e ⊢
 split at e
 ·split at e
  ·rename_i hf hx
   simp only[rI h hf,uD h _ _ hx];exact e
  ·cases e
 ·cases e
theorem HR.jk {H:Heap}{w:World} (h:HR N0 W0 fm ts H w) {cs ys:List AV}{vs:List Value} (hv:Am fm ts cs vs) (e:AV.az H.get cs=some ys):
  Am (gF fm w (behind ts H (AV.aD cs))) [] ys vs:=h.az _ hv e (fun _ h=>h)
theorem DR.oper (hT:AG P T) {p:Nat->Bool}{a:Act}{w:World} (h:DR N0 W0 n st ops ds p a w fm ts) {i:Nat} (hi:i<ops.length) (fo:p i=false) {d:De} (hd:ds[i]?=some d) {s:Ai} (hs:ops[i]?=some s)
  (he:Df P T (st.nx+16*i) s (look (lx ops befs ds st.tm i)) (Heap.get (jV ops befs ds (st.fr::st.low) i)) d) (h1:CX ops) (kR:∀ j,j<ops.length->∃ d,ds[j]?=some d)
  (hB:∀ j,(bH befs i).contains j=true->p j=true) (bV:∀ j,p j=true->(bH befs j).contains i=false)
  (jv:∀ j,p j=true->i<j->mm (dk ds i) (dk ds j)) (dy:∀ d,bP ops i=some d->d<n)
  {o:Oper} (jA:s.op=o.op) (hty:s.type=o.type) (kS:s.dst=o.dst) {K:Act->World->Prop}{Q:Exit->Act->World->Prop}
  (hK:∀ v w' fm' ts',DR N0 W0 n st ops ds (fun j=>p j || j==i) (a.put o.dst v) w' fm' ts'->AT N0 fm ts fm' ts'->K (a.put o.dst v) w'):o.wpIn FW 0 P a w K Q:=by
 have rf:bP ops i=o.dst:=by simp[bP,hs,kS]
 have hG:=agQ (ops:=ops) (ds:=ds) (H:=st.fr::st.low) p fo hB bV
 have kQ:DP (look (lx ops befs ds st.tm i)) (look (fQ ops ds (idxs ops.length p) st.tm)):=by
  exact ace h1 kR hB bV
 have step:∀ {r v w' fm' ts'},Out N0 W0 fm ts (Heap.bk (st.fr::st.low) (bQ ds (idxs ops.length p))) w (st.nx+16*i) r d fm' ts' w' v->K (a.put o.dst v) w':=by
  intro r v w' fm' ts' ho
  obtain⟨h2,h3⟩:=h.step hi fo hd ho h1 kR jv dy
  rw[rf]at h2
  exact hK v w' fm' ts' h2 h3
 cases he with
 |op hc nU=>
  have xf:=adT kQ hG nU
  rw[jA,hty]at xf
  obtain⟨fm',ts',w',v,ho⟩:=adU (P:=P) hT h.hr (by simp) (h.wj i hi fo) h.tm xf
  have hk:=step ho
  have bw:∀ c,o.op≠.defer c:=fun c0 h0=>by rw[h0]at xf;simp[aW]at xf
  rcases ho.done with hr|⟨hr,rfl⟩
  ·exact rJ bw hr hk
  ·exact aaO bw hr hk
 |look t m x r kv ob ho hm hx hr hl hs=>
  have lV:=h.cV.2 r ob hr
  have hw:w.heap[r]?=some ob:=h.hr.bj r ob lV.1 lV.2
  have h1:=oz h.tm (rI kQ hm)
  have h2:=oz h.tm (rI kQ hx)
  have e1:a.eval m=.map (some r):=by generalize a.eval m=u at h1;cases h1;rfl
  obtain⟨z,h3,h4⟩:=hl fm ts _ w h2 hw
  have n4:o.op=.lookup t m x false:=by rw[<-jA];exact ho
  refine rJ (v:=z) (fun c0 h0=>by rw[n4]at h0;cases h0) (w':=w) (by simp only[execOp,n4,e1];exact cW h3) (step (r:=.ok (.value z) w) ⟨.inl rfl,?_,h4,Ax.refl _ _,Ak.refl _,fun _ _ _ h=>h⟩)
  rw[hs]
  exact h.hr
 |call c f args aw hc dX hp hz hr xB=>
  have pv:=vW kQ dX
  have dB:=lB hG _ _ hz
  obtain⟨vs,dR,aK,pF⟩:=sF (w:=w) h.tm pv hc jA hp.1
  have kT:=h.hr.jk dR dB
  have bl:=(h.hr.oj (AV.aD args)).bL
  refine uF pF aK ?_
  refine Calls.mono (hp.2 _ w _ bl kT) ?_
  rintro e w' ⟨v,y,fm',rfl,rfl,tC,aZ,bz,hb⟩
  refine step (r:=.ok (.value v) w') (fm':=if AV.aD args=[] then fm' else fm) (ts':=ts) ?_
  by_cases kd:AV.aD args=[]
  ·rw[if_pos kd]
   rw[kd,wi]at bz
   refine⟨.inl rfl,?_,aZ.mono (AM.refl _) (Ak.nil _),bz.low h.hr.size,Ak.refl _,fun _ _ _ h=>h⟩
   rw[xB]
   exact h.hr.up hb bz tC
  ·rw[if_neg kd]
   have hsc:d.val.cJ=true:=by
    rcases hr with hr|hr
    ·exact absurd hr kd
    ·exact hr
   refine⟨.inl rfl,?_,aZ.cJ hsc,Ax.refl _ _,Ak.refl _,fun _ _ _ h=>h⟩
   rw[xB]
   exact h.hr.world (fun i hi=>hb.block i hi) (hb.mono h.hr.size)
 |lW m c f args aw hc dX hp hz hr xB=>
  have pv:=vW kQ dX
  have dB:=(o8 hG (qH hG (fun _ _ _ _ _ _ _ hh=>jZ hG _ _ hh) m) (fun _ _ _ _ _ _ _ hh=>jZ hG _ _ hh)).2 _ _ hz
  obtain⟨vs,dR,aK,pF⟩:=sF (w:=w) h.tm pv hc jA hp.1
  have kT:=h.hr.y9 _ (h.hr.cF m) dR dB
  refine uF pF aK ?_
  refine Calls.mono (hp.2 (gE w) w _ (fun b o v h=>h) kT) ?_
  rintro e w' ⟨v,y,fm',rfl,rfl,tC,aZ,bz,hb⟩
  refine step (r:=.ok (.value v) w') (fm':=fm) (ts':=ts) ?_
  refine⟨.inl rfl,?_,aZ.cJ hr,Ax.refl _ _,Ak.refl _,fun _ _ _ h=>h⟩
  rw[xB]
  exact h.hr.world (fun i hi=>hb.block i hi) (hb.mono h.hr.size)
 |nN m c f args aw fr y hc dX hp hz hy hf tn=>
  have pv:=vW kQ dX
  have dB:=(o8 hG (qH hG (fun _ _ _ _ _ _ _ hh=>jZ hG _ _ hh) m) (fun _ _ _ _ _ _ _ hh=>jZ hG _ _ hh)).2 _ _ hz
  obtain⟨vs,dR,aK,pF⟩:=sF (w:=w) h.tm pv hc jA hp.1
  have kT:=h.hr.y9 _ (h.hr.cF m) dR dB
  obtain⟨f1,H1,hH⟩:=rL st.fr st.low (bQ ds (idxs ops.length p))
  refine uF pF aK ?_
  refine Calls.mono (AY.adC hp h.hr kT hy hf) ?_
  rintro e w' ⟨v,t',rfl,bu,aZ,il⟩
  cases ts with
  |nil=>have:=bu.len;rw[hH]at this;simp at this
  |cons hh rest=>
   have bx:∀ l k,tb (hh::rest) l k=none->tb (hh::rest) l k=none:=fun _ _ h=>h
   have bz:Ax N0 fm fm:=Ax.refl _ _
   have jC:Ak (hh::rest) (hh::rest):=Ak.refl _
   have aaw:∀ k x,hh k=some x->¬ (st.nx+16*i<=k/\k<st.nx+16*i+16):=by
    rintro k x hx ⟨h1,h2⟩
    have:=bx 0 k (h.wj i hi fo k h1 h2)
    simp only[tb]at this
    rw[this]at hx;cases hx
   have j1:∀ k x,t' k=some x->gT (st.nx+16*i) t' hh (st.nx+16*i+k)=some x:=by
    intro k x hx
    have ab:k<16:=by
     rcases Nat.lt_or_ge k 16 with hk|hk
     ·exact hk
     ·rw[il k hk]at hx;cases hx
    unfold gT
    rw[if_pos ⟨by omega,by omega⟩]
    simpa using hx
   have j2:∀ k x,hh k=some x->gT (st.nx+16*i) t' hh k=some x:=by
    intro k x hx
    unfold gT
    rw[if_neg (aaw k x hx)];exact hx
   have hJ:∀ l k x,tb (t'::hh::rest) l k=some x->tb (gT (st.nx+16*i) t' hh::rest) (l - 1) (if l=0 then st.nx+16*i+k else k)=some x:=by
    intro l k x e
    cases l with
    |zero=>simpa [tb] using j1 k x (by simpa [tb] using e)
    |succ l=>
     cases l with
     |zero=>simpa [tb] using j2 k x (by simpa [tb] using e)
     |succ l=>simpa [tb] using e
   have hTT:Ak (hh::rest) (gT (st.nx+16*i) t' hh::rest):=by
    intro l k
    cases l with
    |zero=>
     simp only[tb]
     cases hx:hh k with
     |none=>trivial
     |some x=>rw[j2 k x hx];exact AX.refl _
    |succ l=>exact AX.refl _
   refine step (r:=.ok (.value v) w') (fm':=fm) (ts':=gT (st.nx+16*i) t' hh::rest) ?_
   subst tn
   refine⟨.inl rfl,?_,aZ.rv hJ rfl,bz,jC.trans hTT,?_⟩
   ·rw[hH]at bu ⊢
    simp only[Heap.mb,aaW,aaV]
    exact bu.rv j1 j2
   ·intro l k kU hn
    cases l with
    |zero=>
     have hk:¬ (st.nx+16*i<=k/\k<st.nx+16*i+16):=by omega
     simp only[tb,gT,if_neg hk]
     have:=bx 0 k hn
     simpa [tb] using this
    |succ l=>
     have:=bx (l+1) k hn
     simpa [tb] using this
 |lD rs gs c f args cT fr0 fr y hc dX hp hz hg bw tn=>
  have pv:=vW kQ dX
  obtain⟨vs,dR,aK,pF⟩:=sF (w:=w) h.tm pv hc jA hp.1
  obtain⟨f1,H1,hH⟩:=rL st.fr st.low (bQ ds (idxs ops.length p))
  have ald:=bw
  simp only[AP,decide_eq_true_eq]at bw
  have hGH:∀ l k b,Heap.get (jV ops befs ds (st.fr::st.low) i) l k=some b->Heap.get (f1::H1) l k=some b:=by
   rw[<-hH];exact hG
  have pn:∀ l k b,only (gP (Heap.get (jV ops befs ds (st.fr::st.low) i))) (rs.map fun k=>(1,k)) l k=some b->only (Heap.get ([]::f1::H1)) (rs.map fun k=>(1,k)) l k=some b:=by
   intro l k b e
   unfold only at e ⊢
   split at e
   ·rename_i hm
    rw[if_pos hm]
    cases l with
    |zero=>simp[gP]at e
    |succ l=>simpa [Heap.get] using hGH l k b (by simpa [gP] using e)
   ·cases e
  have tG:∀ (l k e i0 n g:Nat) (y:AV),(AV.loc l k e i0 n g).ag (only (gP (Heap.get (jV ops befs ds (st.fr::st.low) i))) (rs.map fun k=>(1,k)))=some y->(AV.loc l k e i0 n g).ag (only (Heap.get ([]::f1::H1)) (rs.map fun k=>(1,k)))=some y:=
   fun _ _ _ _ _ _ _ hh=>jZ pn _ _ hh
  have dB:=zT (gs:=gs) (o8 pn (qH pn tG 5) tG).1 _ _ hz
  have j6:=zS hGH gs 0 fr0 hg
  have bS:=acZ f1 H1 rs gs 0 fr0 j6 (by
   intro k hk dH
   exact(List.nodup_append.1 bw.1).2.2 k hk k dH rfl)
  have ha:=AY.used (H:=H1) 5 rs gs hp dB bS (by
   simp only[AP,decide_eq_true_eq]
   exact⟨(List.nodup_append.1 bw.1).1,bw.2⟩)
  have xw:=h.hr
  rw[hH]at xw
  have aab:Am fm (cj::ts) (AV.ck 1 args) vs:=by
   refine⟨by rw[kz];exact dR.1,?_⟩
   intro i x v hx hv
   rw[ky,mS]at hx
   obtain⟨y,hy,rfl⟩:=hx
   exact(dR.2 i y v hy hv).sh 1 (by simp)
  refine uF pF aK ?_
  refine Calls.mono (ha.2 N0 W0 fm ts w _ xw aab) ?_
  rintro e w' ⟨v,av,aH,Ha,fm',t',ts',rfl,⟨⟨rfl,rfl⟩,rfl⟩,_,bu,aZ,bz,jC,bx,il⟩
  cases ts' with
  |nil=>have:=bu.len;simp at this
  |cons hh rest=>
   have aaw:∀ k x,hh k=some x->¬ (st.nx+16*i<=k/\k<st.nx+16*i+16):=by
    rintro k x hx ⟨h1,h2⟩
    have:=bx 0 k (h.wj i hi fo k h1 h2)
    simp only[tb]at this
    rw[this]at hx;cases hx
   have j1:∀ k x,t' k=some x->gT (st.nx+16*i) t' hh (st.nx+16*i+k)=some x:=by
    intro k x hx
    have ab:k<16:=by
     rcases Nat.lt_or_ge k 16 with hk|hk
     ·exact hk
     ·rw[il k hk]at hx;cases hx
    unfold gT
    rw[if_pos ⟨by omega,by omega⟩]
    simpa using hx
   have j2:∀ k x,hh k=some x->gT (st.nx+16*i) t' hh k=some x:=by
    intro k x hx
    unfold gT
    rw[if_neg (aaw k x hx)];exact hx
   have hJ:∀ l k x,tb (t'::hh::rest) l k=some x->tb (gT (st.nx+16*i) t' hh::rest) (l - 1) (if l=0 then st.nx+16*i+k else k)=some x:=by
    intro l k x e
    cases l with
    |zero=>simpa [tb] using j1 k x (by simpa [tb] using e)
    |succ l=>
     cases l with
     |zero=>simpa [tb] using j2 k x (by simpa [tb] using e)
     |succ l=>simpa [tb] using e
   have hTT:Ak (hh::rest) (gT (st.nx+16*i) t' hh::rest):=by
    intro l k
    cases l with
    |zero=>
     simp only[tb]
     cases hx:hh k with
     |none=>trivial
     |some x=>rw[j2 k x hx];exact AX.refl _
    |succ l=>exact AX.refl _
   refine step (r:=.ok (.value v) w') (fm':=fm') (ts':=gT (st.nx+16*i) t' hh::rest) ?_
   subst tn
   refine⟨.inl rfl,?_,aZ.rv hJ rfl,bz,jC.trans hTT,?_⟩
   ·rw[hH]
    simp only[Heap.mb,aaW,aaV]
    exact bu.rv j1 j2
   ·intro l k kU hn
    cases l with
    |zero=>
     have hk:¬ (st.nx+16*i<=k/\k<st.nx+16*i+16):=by omega
     simp only[tb,gT,if_neg hk]
     have:=bx 0 k hn
     simpa [tb] using this
    |succ l=>
     have:=bx (l+1) k hn
     simpa [tb] using this
end
theorem adL:∀ (l acc:List Nat) (x:Nat),x∈rA acc l↔x∈acc\/x∈l
 |[],acc,x=>by simp[rA]
 |y::l,acc,x=>by
  simp only[rA,adL l,BA]
  by_cases h:acc.contains y=true
  ·rw[if_pos h]
   have:y∈acc:=by simpa using h
   constructor
   ·rintro(h|h)
    ·exact .inl h
    ·exact .inr (.inr h)
   ·rintro(h|rfl|h)
    ·exact .inl h
    ·exact .inl this
    ·exact .inr h
  ·rw[if_neg h]
   simp only[AZ,Cw,or_assoc]
theorem adK (b:List (List Nat)) (x:Nat):∀ (l:List Edge) (acc:List Nat),x∈nB b acc l↔x∈acc\/∃ e∈l,Region.binds .any e=true/\(x=e.on\/x∈(b[e.on]?).getD [])
 |[],acc=>by simp[nB]
 |e::l,acc=>by
  simp only[nB,adK b x l,BA]
  by_cases hb:Region.binds .any e=true
  ·rw[if_pos hb]
   simp only[adL,Cw]
   constructor
   ·rintro((h|h)|⟨f,hf,h⟩)
    ·rcases h with h|h
     ·exact .inl h
     ·exact .inr ⟨e,.inl rfl,hb,.inr h⟩
    ·exact .inr ⟨e,.inl rfl,hb,.inl h⟩
    ·exact .inr ⟨f,.inr hf,h⟩
   ·rintro(h|⟨f,rfl|hf,xa,h⟩)
    ·exact .inl (.inl (.inl h))
    ·rcases h with h|h
     ·exact .inl (.inr h)
     ·exact .inl (.inl (.inr h))
    ·exact .inr ⟨f,hf,xa,h⟩
  ·rw[if_neg hb]
   constructor
   ·rintro(h|⟨f,hf,h⟩)
    ·exact .inl h
    ·exact .inr ⟨f,.inr hf,h⟩
   ·rintro(h|⟨f,rfl|hf,xa,h⟩)
    ·exact .inl h
    ·exact absurd xa hb
    ·exact .inr ⟨f,hf,xa,h⟩
theorem yQ:∀ (l:List Oper) (b:List (List Nat)) (i:Nat),i<b.length->(mo b l)[i]?=b[i]?
 |[],b,i,h=>rfl
 |o::l,b,i,h=>by
  simp only[mo]
  rw[yQ l _ i (by simp;omega),B5 h]
theorem abF:∀ (l:List Oper) (b:List (List Nat)) (i:Nat) (o:Oper),l[i]?=some o->
  ∃ b',(mo b l)[b.length+i]?=some (nB b' [] o.after.toList)/\b'.length=b.length+i/\∀ j,j<b'.length->b'[j]?=(mo b l)[j]?
 |[],b,i,o,h=>by simp at h
 |o'::l,b,0,o,h=>by
  simp only[BG,oE]at h;subst h
  refine⟨b,?_,by simp,?_⟩
  ·simp only[mo,Nat.add_zero]
   rw[yQ l _ _ (by simp)]
   simp
  ·intro j hj
   simp only[mo]
   rw[yQ l _ j (by simp;omega),B5 hj]
 |o'::l,b,i+1,o,h=>by
  simp only[BE]at h
  obtain⟨b',h1,h2,h3⟩:=abF l (b++[nB b [] o'.after.toList]) i o h
  refine⟨b',?_,by simp at h2;omega,h3⟩
  simp only[mo]
  rw[<-h1]
  congr 1
  simp;omega
def St.drawn (st:St) (ops:List Ai) (ds:List De) (drop:List Nat):St:=
 St.qm { st with tm:=cd (fQ ops ds (List.range ops.length) st.tm) drop,nx:=st.nx+16*ops.length } (Heap.bk (st.fr::st.low) (bQ ds (List.range ops.length)))
section
variable [Md] {P:Program}{T:Aw}{N0:Nat}{W0:World}{n:Nat}{fm:FM}{ts:List Ah}{st:St}{ops:List Ai}{befs:List (List Nat)}{ds:List De}{Φ:Exit->St->Prop}
theorem aim {n:Nat}{p:Nat->Bool} (h:∀ j,j<n->p j=true):idxs n p=List.range n:=by
 unfold idxs
 rw[List.filter_eq_self]
 intro j hj
 exact h j (List.mem_range.1 hj)
theorem DR.all {p:Nat->Bool}{a:Act}{w:World} (h:DR N0 W0 n st ops ds p a w fm ts) (hp:∀ j,j<ops.length->p j=true) (drop:List Nat):SR N0 W0 n (st.drawn ops ds drop) a w fm ts:=by
 have e:=aim hp
 have h1:=h.hr
 have h2:=h.tm
 rw[e]at h1 h2
 obtain⟨f',H',tP⟩:=rL st.fr st.low (bQ ds (List.range ops.length))
 unfold St.drawn
 rw[tP]at h1 ⊢
 refine⟨h1,?_,h.top,h.size,h.cV⟩
 intro t x hx
 exact h2 t x (ur drop _ t x hx)
theorem DR.none {a:Act}{w:World} (h:SR N0 W0 n st a w fm ts):DR N0 W0 n st ops ds (fun _=>false) a w fm ts:=by
 have e:idxs ops.length (fun _=>false)=[]:=by unfold idxs;simp
 refine⟨by rw[e];exact h.hr,?_,fun i _ _ k h1 _=>h.nx k (by omega),fun k hk=>h.nx k (by omega),h.size,h.cV⟩
 rw[e]
 intro t x hx
 exact h.tm t x hx
end
theorem acb {p q:Nat->Bool} (lO:∀ j,p j=true->q j=true) {i:Nat} (hq:q i=true) (hp:p i=false):∀ (l:List Nat),i∈l->l.countP p<l.countP q
 |[],h=>by cases h
 |a::l,h=>by
  have hle:l.countP p<=l.countP q:=List.countP_mono_left (fun x _ hx=>lO x hx)
  rw[List.countP_cons,List.countP_cons]
  by_cases ha:a=i
  ·subst ha
   rw[hq,hp]
   simp only[if_true,B7,if_false]
   omega
  ·have hl:i∈l:=by
    rcases BA.1 h with h|h
    ·exact absurd h.symm ha
    ·exact h
   have ih:=acb lO hq hp l hl
   cases hpa:p a with
   |false=>simp only[B7,if_false];split<;>omega
   |true=>rw[lO a hpa];simp only[if_true];omega
section
variable [Md] {P:Program}{T:Aw}{n:Nat}{Φ:Exit->St->Prop}
theorem AK.draw (hT:AG P T) (hm:P.follows .mixedOrders=true) {ops:List Ai}{befs:List (List Nat)}{drop:List Nat}{todo:List It}{st:St} (ds:List De) (kR:∀ j,j<ops.length->∃ d,ds[j]?=some d) (h1:CX ops)
  (mK:∀ i j,j∈bH befs i->j<i) (jv:∀ i j,i<j->j<ops.length->i∉bH befs j->mm (dk ds i) (dk ds j))
  (aag:∀ i s d,ops[i]?=some s->ds[i]?=some d->Ck P T (st.nx+16*i) s (look (lx ops befs ds st.tm i)) (Heap.get (jV ops befs ds (st.fr::st.low) i)) d)
  (hn:AK P n Φ todo (st.drawn ops ds drop)):AK P n Φ (.sc (.bB ops befs drop)::todo) st:=by
 intro N0 W0 fm ts a w ct Q hS ey hQ
 obtain⟨c,aX,jz,hb,hf,ht,hK⟩:=ey.aa2 (P:=P) rfl
 apply hK
 cases c<;>try (simp only[SC.bare,erase,reduceCtorEq]at hb;done)
 case scope b=>exact absurd rfl (jz b)
 case region rid arr dr=>
  cases dr with
  |false=>simp[SC.bare,erase]at hb
  |true=>
   simp only[SC.bare,erase,SC.bB.injEq,and_true]at hb
   obtain⟨fW,gI⟩:=hb
   simp only[erase,SC.fits,List.all_eq_true]at hf
   have hlen:ops.length=arr.size:=by have:=congrArg List.length fW;simpa using this
   have jw:∀ i,(hi:i<arr.size)->∃ s,ops[i]?=some s/\s.dst=(arr[i]).dst/\s.op=(arr[i]).op/\s.type=(arr[i]).type/\s.guard=(arr[i]).guard.map (fun g=>(((arr[g.1]?).bind (·.dst)).getD n,g.2)):=by
    intro i hi
    have ab:i<ops.length:=by omega
    refine⟨ops[i],gG ab,?_⟩
    have e:=congrArg (fun l=>l[i]?) fW
    simp only[Bz,gG ab,AQ,Array.getElem?_toList,Bg hi,oE]at e
    simp only[kI,mD,Ai.mk.injEq,and_true]at e
    obtain⟨e1,e2,e3,e4⟩:=e
    exact⟨e1,e2,e3,e4⟩
   have ac8:∀ i,(hi:i<arr.size)->∀ x,x∈bH befs i↔∃ e∈(arr[i]).after.toList,Region.binds .any e=true/\(x=e.on\/(e.on<i/\x∈bH befs e.on)):=by
    intro i hi x
    obtain⟨b',g1,g2,g3⟩:=abF arr.toList [] i arr[i] (by simp[hi])
    simp only[AE,B6]at g1 g2
    have e1:bH befs i=nB b' [] (arr[i]).after.toList:=by unfold bH;rw[gI,g1];rfl
    rw[e1,adK]
    simp only[List.not_mem_nil,false_or]
    have e2:∀ e:Edge,x∈(b'[e.on]?).getD []↔(e.on<i/\x∈bH befs e.on):=by
     intro e
     by_cases hj:e.on<b'.length
     ·rw[g3 _ hj]
      unfold bH
      rw[gI]
      rw[g2]at hj
      simp[hj]
     ·rw[CE (by omega)]
      simp
      omega
    constructor
    ·rintro⟨e,h1,h2,h3⟩
     exact⟨e,h1,h2,h3.imp id (e2 e).1⟩
    ·rintro⟨e,h1,h2,h3⟩
     exact⟨e,h1,h2,h3.imp id (e2 e).2⟩
   refine wpIn_region_any hm ?_
   have adr:∀ j,(Array.replicate arr.size false).getD j false=false:=by
    intro j
    by_cases hj:j<arr.size
    ·simp[Array.getD,hj]
    ·simp[Array.getD,hj]
   have key:∀ (fuel:Nat) (bN:Array Bool) (a:Act) (w:World) (fm':FM) (ts':List Ah),bN.size=arr.size->((List.range arr.size).countP fun j=>!bN.getD j false)<=fuel->
     (∀ j,bN.getD j false=true->∀ k∈bH befs j,bN.getD k false=true)->DR N0 W0 n st ops ds (fun j=>bN.getD j false) a w fm' ts'->AT N0 fm ts fm' ts'->wpAnyIn FW 0 P .any arr (K P Q aX) fuel bN a w:=by
    intro fuel
    have fin:∀ (bN:Array Bool) (a:Act) (w:World) (fm':FM) (ts':List Ah),bN.size=arr.size->DR N0 W0 n st ops ds (fun j=>bN.getD j false) a w fm' ts'->AT N0 fm ts fm' ts'->Region.ready .any arr bN=[]->K P Q aX .normal a w:=by
     intro bN a w fm' ts' ao hD hL hr
     have ju:∀ j,j<arr.size->bN.getD j false=true:=by
      intro j
      induction j using Nat.strongRecOn with
      |_ j ih=>
       intro hj
       by_cases hl:bN.getD j false=true
       ·exact hl
       ·have bl:j∈Region.ready .any arr bN:=by
         rw[mem_ready]
         have ab:j<bN.size:=by omega
         refine⟨by simp[Array.getD,ab]at hl ⊢;exact hl,arr[j],Bg hj,?_⟩
         intro e he hb
         have hm:e.on∈bH befs j:=(ac8 j hj e.on).2 ⟨e,by simpa using he,hb,.inl rfl⟩
         have:=mK j e.on hm
         exact ih e.on this (by omega)
        rw[hr]at bl;cases bl
     have bZ:=hD.all (fun j hj=>ju j (by omega)) drop
     exact hn N0 W0 fm' ts' a w aX Q bZ (ht.later hL) (fun e s x w' f t hp hs hl=>hQ e s x w' f t hp hs (hL.trans hl))
    induction fuel with
    |zero=>
     intro bN a w fm' ts' ao hc bV hD hL
     have hr:Region.ready .any arr bN=[]:=by
      cases h:Region.ready .any arr bN with
      |nil=>rfl
      |cons j l=>
       have hj:j∈Region.ready .any arr bN:=by rw[h];exact List.mem_cons_self
       rw[mem_ready]at hj
       obtain⟨h0,o,ho,_⟩:=hj
       have ab:j<arr.size:=(BY.1 ho).1
       have:0<(List.range arr.size).countP fun j=>!bN.getD j false:=by
        rw[List.countP_pos_iff]
        have gp:j<bN.size:=by omega
        refine⟨j,List.mem_range.2 ab,?_⟩
        simp[Array.getD,gp]at h0 ⊢
        exact h0
       omega
     exact⟨hr,fin bN a w fm' ts' ao hD hL hr⟩
    |succ fuel ih=>
     intro bN a w fm' ts' ao hc bV hD hL
     refine⟨fin bN a w fm' ts' ao hD hL,fun i hi=>?_⟩
     rw[mem_ready]at hi
     obtain⟨h0,o,ho,ju⟩:=hi
     have ab:i<arr.size:=(BY.1 ho).1
     have gp:i<bN.size:=by omega
     have fo:bN.getD i false=false:=by
      simp[Array.getD,gp]at h0 ⊢
      exact h0
     obtain⟨s,hs,xA,hso,cw,lR⟩:=jw i ab
     have n4:o=arr[i]:=by rw[Bg ab]at ho;exact(oi ho).symm
     subst n4
     obtain⟨d,hd⟩:=kR i (by omega)
     have hB:∀ j,(bH befs i).contains j=true->bN.getD j false=true:=by
      intro j hj
      have hmm:j∈bH befs i:=by simpa using hj
      obtain⟨e,he,hb,h⟩:=(ac8 i ab j).1 hmm
      have hon:=ju e (by simpa using he) hb
      rcases h with rfl|⟨_,h⟩
      ·exact hon
      ·exact bV _ hon j h
     have aad:∀ j,bN.getD j false=true->(bH befs j).contains i=false:=by
      intro j hj
      cases j5:(bH befs j).contains i with
      |false=>rfl
      |true=>
       have:=bV j hj i (by simpa using j5)
       rw[fo]at this;cases this
     have jB:∀ j,(bN.setIfInBounds i true).getD j false=(bN.getD j false || j==i):=by
      intro j
      by_cases iq:j=i
      ·subst iq;simp[Array.getD,gp]
      ·rw[getD_set_ne false (Ne.symm iq)];simp[iq]
     unfold wpOpIn
     rw[ho]
     simp only
     have kQ:DP (look (lx ops befs ds st.tm i)) (look (fQ ops ds (idxs ops.length fun j=>bN.getD j false) st.tm)):=by
      exact ace h1 kR hB aad
     have mY:∀ g j v,((arr[j]?).bind (·.dst)).getD n=g->a.tmps[g]?=some v->yielded arr a.tmps j=match v with|.bool b=>some b|_=>none:=by
      intro g j v fX hv
      unfold yielded
      cases hb:(arr[j]?).bind (·.dst) with
      |none=>
       rw[hb]at fX
       simp only[Option.getD_none]at fX
       have:=(BY.1 hv).1
       rw[hD.size]at this
       subst fX
       exact absurd this (Nat.lt_irrefl _)
      |some dd=>
       rw[hb]at fX
       simp only[Option.getD_some]at fX
       subst fX
       simp only[Av,hv]
       cases v<;>rfl
     have jy:∀ g w,s.guard=some (g,w)->∃ j,(arr[i]).guard=some (j,w)/\((arr[j]?).bind (·.dst)).getD n=g:=by
      intro g w hh
      rw[hh]at lR
      cases xi:(arr[i]).guard with
      |none=>rw[xi]at lR;cases lR
      |some p=>
       rw[xi]at lR
       simp only[AQ,oE,Prod.mk.injEq]at lR
       exact⟨p.1,by rw[lR.2],lR.1.symm⟩
     have adk:∀ v w' dw cE,DR N0 W0 n st ops ds (fun j=>bN.getD j false || j==i) (a.put (arr[i]).dst v) w' dw cE->AT N0 fm' ts' dw cE->wpAnyIn FW 0 P .any arr (K P Q aX) fuel (bN.setIfInBounds i true) (a.put (arr[i]).dst v) w':=by
      intro v w' dw cE sZ bU
      refine ih (bN.setIfInBounds i true) _ w' dw cE (by simpa using ao) ?_ ?_ ?_ (hL.trans bU)
      ·have:=acb (p:=fun j=>!(bN.setIfInBounds i true).getD j false) (q:=fun j=>!bN.getD j false) (i:=i) (by
        intro j hj
        rw[jB]at hj
        simp only[Bool.not_or,AP]at hj
        exact hj.1) (by simp only[fo,B4]) (by simp only[jB,fo];simp) (List.range arr.size) (List.mem_range.2 ab)
       omega
      ·intro j hj k hk
       rw[jB]at hj ⊢
       simp only[Bool.or_eq_true,beq_iff_eq]at hj ⊢
       rcases hj with hj|rfl
       ·exact .inl (bV j hj k hk)
       ·exact .inl (hB k (by simpa using hk))
      ·have e:(fun j=>(bN.setIfInBounds i true).getD j false)=fun j=>bN.getD j false || j==i:=funext jB
       rw[e]
       exact sZ
     have ac6:∀ j,bN.getD j false=true->i<j->mm (dk ds i) (dk ds j):=by
      intro j hj nW
      have hjs:j<bN.size:=by
       by_cases hjs:j<bN.size
       ·exact hjs
       ·simp[Array.getD,hjs]at hj
      refine jv i j nW (by omega) ?_
      have:=aad j hj
      simpa using this
     have adf:∀ d,bP ops i=some d->d<n:=by
      intro dd nT
      have ah3:kI s∈List.map (mD n arr) arr.toList:=by rw[<-fW];exact List.mem_map_of_mem (Ba hs)
      have:=hf _ ah3
      simp only[bP,hs,Av]at nT
      simp only[kI,nT]at this
      simpa using this
     rcases aag i s d hs hd with ⟨fA,hE⟩|⟨aid,rfl⟩
     case inr=>
      obtain⟨g,want,aar,ahJ⟩:=aid
      obtain⟨j,hj,fX⟩:=jy g want aar
      have hnw:Region.wanted arr[i] (yielded arr a.tmps)=false:=by
       rcases ahJ with ⟨b,hb,jx⟩|hb
       ·obtain⟨v,hv,aZ⟩:=hD.tm g _ (kQ g _ hb)
        cases aZ
        simp only[Region.wanted,hj,mY g j _ fX hv]
        simpa using jx
       ·obtain⟨v,hv,aZ⟩:=hD.tm g _ (kQ g _ hb)
        cases aZ
        simp[Region.wanted,hj,mY g j _ fX hv]
      rw[if_neg (by rw[hnw];simp)]
      have ho:Out N0 W0 fm' ts' (Heap.bk (st.fr::st.low) (bQ ds (idxs ops.length fun j=>bN.getD j false))) w (st.nx+16*i) (.ok .skip w) ⟨.ak [],[]⟩ fm' ts' w undef:=
       ⟨.inr ⟨rfl,rfl⟩,hD.hr,.ak [] #[] rfl (fun i x v h=>by simp at h),Ax.refl _ _,Ak.refl _,fun _ _ _ h=>h⟩
      obtain⟨h2,h3⟩:=hD.step (by omega) fo hd ho h1 kR ac6 adf
      have rf:bP ops i=(arr[i]).dst:=by simp[bP,hs,xA]
      rw[rf]at h2
      exact⟨fun _ _=>trivial,adk _ w fm' ts' h2 h3⟩
     have ail:Region.wanted arr[i] (yielded arr a.tmps)=true:=by
      rcases fA with fA|⟨g,want,b,aar,hb,jx⟩
      ·rw[fA]at lR
       have:(arr[i]).guard=none:=by
        cases hh:(arr[i]).guard with
        |none=>rfl
        |some g=>rw[hh]at lR;cases lR
       simp[Region.wanted,this]
      ·obtain⟨j,hj,fX⟩:=jy g want aar
       obtain⟨v,hv,aZ⟩:=hD.tm g _ (kQ g _ hb)
       cases aZ
       simp only[Region.wanted,hj,mY g j _ fX hv]
       simpa using jx
     rw[if_pos ail]
     exact(DR.oper (befs:=befs) hT hD (by omega) fo hd hs hE h1 kR hB aad ac6 adf hso cw xA fun v w' dw cE sZ bU=>adk v w' dw cE sZ bU)
   refine key arr.size (Array.replicate arr.size false) a _ fm ts (by simp) (C2 List.countP_le_length (by simp)) (by intro j hj;rw[adr]at hj;cases hj) ?_ (AT.refl _ _)
   have e:(fun j=>(Array.replicate arr.size false).getD j false)=fun _=>false:=funext adr
   rw[e]
   exact DR.none ⟨hS.hr.drew,hS.tm,hS.nx,hS.size,hS.cV⟩
end
def uz:List Ai->Bool
 |[]=>true
 |o::l=>(match o.dst with
  |none=>true
  |some t=>l.all fun q=>decide (q.dst≠some t))&&uz l
theorem aaN:∀ (ops:List Ai),uz ops=true->CX ops
 |[],_=>by intro i j t h;simp[bP]at h
 |o::l,h=>by
  simp only[uz,AP]at h
  have ih:=aaN l h.2
  have hz:∀ j t,o.dst=some t->bP l j≠some t:=by
   intro j t ho hj
   have h1:=h.1
   rw[ho]at h1
   simp only[List.all_eq_true,decide_eq_true_eq]at h1
   unfold bP at hj
   cases hlj:l[j]? with
   |none=>rw[hlj]at hj;cases hj
   |some q=>rw[hlj]at hj;exact h1 q (Ba hlj) hj
  have hs:∀ j,bP (o::l) (j+1)=bP l j:=fun j=>by simp[bP]
  have h0:bP (o::l) 0=o.dst:=by simp[bP]
  intro i j t hi hj
  cases i with
  |zero=>
   cases j with
   |zero=>rfl
   |succ j=>rw[h0]at hi;rw[hs]at hj;exact absurd hj (hz j t hi)
  |succ i=>
   cases j with
   |zero=>rw[h0]at hj;rw[hs]at hi;exact absurd hi (hz i t hj)
   |succ j=>rw[hs]at hi hj;rw[ih i j t hi hj]
def sr:Nat->List (List Nat)->Bool
 |_,[]=>true
 |i,l::r=>(l.all fun j=>decide (j<i))&&sr (i+1) r
theorem yP:∀ (befs:List (List Nat)) (i0:Nat),sr i0 befs=true->∀ i j,j∈bH befs i->j<i0+i
 |[],i0,_,i,j,h=>by simp[bH]at h
 |l::r,i0,h,i,j,hj=>by
  simp only[sr,AP,List.all_eq_true,decide_eq_true_eq]at h
  cases i with
  |zero=>simp[bH]at hj;exact h.1 j hj
  |succ i=>
   have:=yP r (i0+1) h.2 i j (by simpa [bH] using hj)
   omega
def pN (s t:Sets):Bool:=s.all fun p=>t.all fun q=>!(p.1==q.1&&p.2.1==q.2.1)
theorem aiE {s t:Sets} (h:pN s t=true):mm s t:=by
 intro p hp q hq hh
 simp only[pN,List.all_eq_true]at h
 have:=h p hp q hq
 rw[hh.1,hh.2]at this
 simp at this
def oT (befs:List (List Nat)) (ds:List De) (n:Nat):Bool:=
 (List.range n).all fun j=>(List.range j).all fun i=>(bH befs j).contains i || pN (dk ds i) (dk ds j)
theorem afY {befs:List (List Nat)}{ds:List De}{n:Nat} (h:oT befs ds n=true):∀ i j,i<j->j<n->i∉bH befs j->mm (dk ds i) (dk ds j):=by
 intro i j nW hj hn
 simp only[oT,List.all_eq_true,List.mem_range,Bool.or_eq_true]at h
 rcases h j hj i nW with h|h
 ·exact absurd (by simpa using h) hn
 ·exact aiE h
section
variable [Md] {P:Program}{T:Aw}{n:Nat}{Φ:Exit->St->Prop}
theorem FU (hT:AG P T) (hm:P.follows .mixedOrders=true) {ops:List Ai}{befs:List (List Nat)}{drop:List Nat}{todo:List It}{st:St} (ds:List De) (hlen:ds.length=ops.length) (h1:uz ops=true)
  (mK:sr 0 befs=true) (jv:oT befs ds ops.length=true)
  (aag:∀ i s d,ops[i]?=some s->ds[i]?=some d->Ck P T (st.nx+16*i) s (look (lx ops befs ds st.tm i)) (Heap.get (jV ops befs ds (st.fr::st.low) i)) d)
  (hn:AK P n Φ todo (st.drawn ops ds drop)):Ar P n Φ (.draw ops befs drop todo st):=by
 refine AK.draw hT hm ds (fun j hj=>⟨ds[j]'(by omega),gG (by omega)⟩) (aaN ops h1) (fun i j hj=>by have:=yP befs 0 mK i j hj;omega) (afY jv) aag hn
end
section
variable [Md] {P:Program}{T:Aw}{N0:Nat}{W0:World}{n:Nat}{fm:FM}{ts:List Ah}{Φ:Exit->St->Prop}
theorem Gg {Q:Exit->Act->World->Prop} (t:List Be):K P Q (.back (fun a w=>K P Q t .normal a w)::t)=K P Q t:=by
 funext e a w;cases e<;>rfl
theorem FG {Q:Exit->Act->World->Prop} (t:List Be):∀ c1:List Be,K P Q (c1++.back (fun a w=>K P Q t .normal a w)::t)=K P Q (c1++t)
 |[]=>Gg t
 |c::c1=>by
  have ih:=FG (Q:=Q) t c1
  funext e a w
  cases c<;>cases e<;>simp only[A8,K,ih]
theorem A0.stop {todo:List It}:∀ {ct:List Be}{pre:List It}{l:List It},A0 N0 W0 n fm ts l ct->l=pre++todo->∃ c1 c2,ct=c1++c2/\A0 N0 W0 n fm ts todo c2/\
  ∀ (B:St->Prop) (R:Act->World->Prop),(∀ al a' w' fm' ts',B al->SR N0 W0 n al a' w' fm' ts'->AT N0 fm ts fm' ts'->R a' w')->A0 N0 W0 n fm ts (pre++.back B::todo) (c1++.back R::c2):=by
 intro ct pre l h
 induction h generalizing pre with
 |nil=>
  intro e
  have e2:pre=[]/\todo=[]:=by simpa using e.symm
  obtain⟨rfl,rfl⟩:=e2
  exact⟨[],[],rfl,.nil,fun B R hR=>.back hR .nil⟩
 |@sc s c t ct h hf ht ih=>
  intro e
  cases pre with
  |nil=>
   simp only[BV]at e;subst e
   exact⟨[],_,rfl,.sc h hf ht,fun B R hR=>.back hR (.sc h hf ht)⟩
  |cons p pre=>
   simp only[A8,List.cons.injEq]at e
   obtain⟨rfl,e⟩:=e
   obtain⟨c1,c2,rfl,h2,h3⟩:=ih e
   exact⟨.code c::c1,c2,rfl,h2,fun B R hR=>.sc h hf (h3 B R hR)⟩
 |@aj id t ct ht ih=>
  intro e
  cases pre with
  |nil=>
   simp only[BV]at e;subst e
   exact⟨[],_,rfl,.aj ht,fun B R hR=>.back hR (.aj ht)⟩
  |cons p pre=>
   simp only[A8,List.cons.injEq]at e
   obtain⟨rfl,e⟩:=e
   obtain⟨c1,c2,rfl,h2,h3⟩:=ih e
   exact⟨.aj id::c1,c2,rfl,h2,fun B R hR=>.aj (h3 B R hR)⟩
 |@fe t ct ht ih=>
  intro e
  obtain⟨c1,c2,rfl,h2,h3⟩:=ih e
  exact⟨.fe::c1,c2,rfl,h2,fun B R hR=>.fe (h3 B R hR)⟩
 |@ops l arr is t ct h hi hf ht ih=>
  intro e
  cases pre with
  |nil=>
   simp only[BV]at e;subst e
   exact⟨[],_,rfl,.ops h hi hf ht,fun B R hR=>.back hR (.ops h hi hf ht)⟩
  |cons p pre=>
   simp only[A8,List.cons.injEq]at e
   obtain⟨rfl,e⟩:=e
   obtain⟨c1,c2,rfl,h2,h3⟩:=ih e
   exact⟨.ops arr is::c1,c2,rfl,h2,fun B R hR=>.ops h hi hf (h3 B R hR)⟩
 |@back B0 R0 t ct h ht ih=>
  intro e
  cases pre with
  |nil=>
   simp only[BV]at e;subst e
   exact⟨[],_,rfl,.back h ht,fun B R hR=>.back hR (.back h ht)⟩
  |cons p pre=>
   simp only[A8,List.cons.injEq]at e
   obtain⟨rfl,e⟩:=e
   obtain⟨c1,c2,rfl,h2,h3⟩:=ih e
   exact⟨.back R0::c1,c2,rfl,h2,fun B R hR=>.back h (h3 B R hR)⟩
theorem AK.cut (B:St->Prop) (pre:List It) {todo:List It}{st:St} (h1:AK P n Φ (pre++.back B::todo) st) (h2:∀ st,B st->AK P n Φ todo st):AK P n Φ (pre++todo) st:=by
 intro N0 W0 fm ts a w ct Q hS ey hQ
 obtain⟨c1,c2,rfl,h3,h4⟩:=ey.stop rfl
 have:=h1 N0 W0 fm ts a w (c1++.back (fun a w=>K P Q c2 .normal a w)::c2) Q hS (h4 B _ ?_) hQ
 ·rw[FG]at this;exact this
 ·intro al a' w' fm' ts' hB bZ hL
  exact h2 al hB N0 W0 fm' ts' a' w' c2 Q bZ (h3.later hL) (fun e s x w' f t hp hs hl=>hQ e s x w' f t hp hs (hL.trans hl))
inductive AW (S E R:Type) where
 |next (s:S)
 |brk (e:E)
 |ret (r:R)
def aB {S E R:Type} (body:S->Option (AW S E R)):Nat->S->Option (AW S E R)
 |0,_=>none
 |k+1,s=>match body s with
  |none=>none
  |some (.next s')=>aB body k s'
  |some (.brk s')=>some (.brk s')
  |some (.ret r)=>some (.ret r)
theorem AK.aiJ {S E R:Type}{body:S->Option (AW S E R)}{k:Nat}{s0:S}{r:AW S E R} (hk:aB body k s0=some r) (hd:S->St) (ex:E->St) {b:SC}{id:Nat}{todo:List It}{st:St} (hw:Ae n st (hd s0))
  (hb:∀ s x (Bk Br:St->Prop),body s=some x->(∀ s' al,x=.next s'->Ae n al (hd s')->Bk al)->(∀ s' al,x=.brk s'->Ae n al (ex s')->Br al)->(∀ v,x=.ret v->r=.ret v)->
   AK P n Φ (.sc b::.back Bk::.aj id::.back Br::todo) (hd s))
  (hx:∀ s',r=.brk s'->AK P n Φ todo (ex s')):AK P n Φ (.sc (.loop b)::.aj id::todo) st:=by
 refine AK.cut (fun al=>∃ s',r=.brk s'/\Ae n al (ex s')) [.sc (.loop b),.aj id] ?_ ?_
 ·refine AK.loop (fun m st=>∃ s,st=hd s/\aB body m s=some r) k hw ⟨s0,rfl,hk⟩ ?_
  rintro m st ⟨s,rfl,hm⟩
  cases m with
  |zero=>cases hm
  |succ m=>
   simp only[aB]at hm
   cases hs:body s with
   |none=>rw[hs]at hm;cases hm
   |some x=>
    rw[hs]at hm
    refine hb s x _ _ hs ?_ ?_ ?_
    ·rintro s' al rfl pJ
     exact⟨hd s',m,Nat.lt_succ_self m,pJ,s',rfl,hm⟩
    ·rintro s' al rfl pJ
     exact⟨s',(oi hm).symm,pJ⟩
    ·rintro v rfl
     exact(oi hm).symm
 ·rintro al ⟨s',hr,pJ⟩
  exact AK.qk pJ (hx s' hr)
end
section
variable [Md]
inductive NL:AV->AV->Prop
 |refl (x:AV):NL x x
 |nil (e:Nat):NL .nil (.sl e [])
 |agg (cs ys:List AV) (h1:cs.length=ys.length) (h2:∀ (i:Nat) x y,cs[i]?=some x->ys[i]?=some y->NL x y):NL (.agg cs) (.agg ys)
 |ak (cs ys:List AV) (h1:cs.length=ys.length) (h2:∀ (i:Nat) x y,cs[i]?=some x->ys[i]?=some y->NL x y):NL (.ak cs) (.ak ys)
 |sl (e:Nat) (es fs:List (List AV)) (h1:es.length=fs.length) (h2:∀ (i:Nat) c d,es[i]?=some c->fs[i]?=some d->c.length=d.length)
   (h3:∀ (i:Nat) c d (o:Nat) x y,es[i]?=some c->fs[i]?=some d->c[o]?=some x->d[o]?=some y->NL x y):NL (.sl e es) (.sl e fs)
def AN (cs ys:List AV):Prop:=cs.length=ys.length/\∀ (i:Nat) x y,cs[i]?=some x->ys[i]?=some y->NL x y
def A5 (es fs:List (List AV)):Prop:=es.length=fs.length/\∀ (i:Nat) c d,es[i]?=some c->fs[i]?=some d->AN c d
theorem AN.nil:AN [] []:=⟨rfl,fun i x y h=>by simp at h⟩
theorem AN.cons {x y:AV}{l m:List AV} (h:NL x y) (hs:AN l m):AN (x::l) (y::m):=by
 refine⟨by simp[hs.1],?_⟩
 intro i a b ha hb
 cases i with
 |zero=>simp at ha hb;subst ha hb;exact h
 |succ i=>simp at ha hb;exact hs.2 i a b ha hb
theorem AN.refl (l:List AV):AN l l:=⟨rfl,fun i x y a b=>by rw[a]at b;cases b;exact .refl _⟩
theorem A5.nil:A5 [] []:=⟨rfl,fun i x y h=>by simp at h⟩
theorem A5.cons {x y:List AV}{l m:List (List AV)} (h:AN x y) (hs:A5 l m):A5 (x::l) (y::m):=by
 refine⟨by simp[hs.1],?_⟩
 intro i a b ha hb
 cases i with
 |zero=>simp at ha hb;subst ha hb;exact h
 |succ i=>simp at ha hb;exact hs.2 i a b ha hb
theorem A5.refl (l:List (List AV)):A5 l l:=⟨rfl,fun i x y a b=>by rw[a]at b;cases b;exact .refl _⟩
theorem A5.append {a b c d:List (List AV)} (h:A5 a b) (k:A5 c d):A5 (a++c) (b++d):=by
 refine⟨by simp[h.1,k.1],?_⟩
 intro i x y hx hy
 by_cases hi:i<a.length
 ·rw[B5 hi]at hx
  rw[B5 (by rw[<-h.1];exact hi)]at hy
  exact h.2 i x y hx hy
 ·rw[Ch (by omega)]at hx
  rw[Ch (by rw[<-h.1];omega)]at hy
  rw[<-h.1]at hy
  exact k.2 _ x y hx hy
theorem NL.jS {cs ys:List AV} (h:AN cs ys):NL (.agg cs) (.agg ys):=.agg _ _ h.1 h.2
theorem NL.qd {cs ys:List AV} (h:AN cs ys):NL (.ak cs) (.ak ys):=.ak _ _ h.1 h.2
theorem NL.rV {e:Nat}{es fs:List (List AV)} (h:A5 es fs):NL (.sl e es) (.sl e fs):=.sl _ _ _ h.1 (fun i c d a b=>(h.2 i c d a b).1) (fun i c d o x y a b p q=>(h.2 i c d a b).2 o x y p q)
theorem NL.flat {x y:AV} (h:NL x y):y.flat=x.flat:=by
 cases h<;>rfl
theorem NL.ok {x y:AV} (h:NL x y):∀ {fm:FM}{ts:List Ah}{v:Value},VR fm ts x v->VR fm ts y v:=by
 induction h with
 |refl x=>intro fm ts v hv;exact hv
 |nil e=>intro fm ts v hv;cases hv;exact .cm _ _ _
 |agg cs ys h1 h2 ih=>
  intro fm ts v hv
  cases hv with
  |agg _ vs k1 k2 k3=>
   have hy:∀ (i:Nat) y,ys[i]?=some y->∃ x,cs[i]?=some x:=fun i y hy=>⟨_,gG (by rw[h1];exact(gS.1 hy).1)⟩
   refine .agg _ vs (by rw[<-h1];exact k1) ?_ ?_
   ·intro y hm
    obtain⟨i,hi⟩:=Bl.1 hm
    obtain⟨x,hx⟩:=hy i y hi
    rw[(h2 i x y hx hi).flat];exact k2 x (Ba hx)
   ·intro i y u hi hu
    obtain⟨x,hx⟩:=hy i y hi
    exact ih i x y hx hi (k3 i x u hx hu)
 |ak cs ys h1 h2 ih=>
  intro fm ts v hv
  cases hv with
  |ak _ vs k1 k3=>
   refine .ak _ vs (by rw[<-h1];exact k1) ?_
   intro i y u hi hu
   have hx:∃ x,cs[i]?=some x:=⟨_,gG (by rw[h1];exact(gS.1 hi).1)⟩
   obtain⟨x,hx⟩:=hx
   exact ih i x y hx hi (k3 i x u hx hu)
 |sl e es fs h1 h2 h3 ih=>
  intro fm ts v hv
  have hc:∀ (i:Nat) d,fs[i]?=some d->∃ c,es[i]?=some c/\c.length=d.length:=fun i d hd=>by
   have ab:i<es.length:=by rw[h1];exact(gS.1 hd).1
   exact⟨_,gG ab,h2 i _ d (gG ab) hd⟩
  have hx:∀ (i:Nat) d (o:Nat) y,fs[i]?=some d->d[o]?=some y->∃ c x,es[i]?=some c/\c[o]?=some x:=fun i d o y hd hy=>by
   obtain⟨c,mL,nQ⟩:=hc i d hd
   exact⟨c,_,mL,gG (by rw[nQ];exact(gS.1 hy).1)⟩
  cases hv with
  |cm _ a cap=>
   have:fs=[]:=List.eq_nil_of_length_eq_zero (by simpa using h1.symm)
   subst this
   exact .cm _ _ _
  |sl _ cb off _ cap u cD k1 k2 k3 k4=>
   have:=VR.sl (fm:=fm) (ts:=ts) fs cb off e cap u (by rw[<-h1];exact cD)
    (fun d hd=>by
     obtain⟨i,hi⟩:=Bl.1 hd
     obtain⟨c,mL,nQ⟩:=hc i d hi
     rw[<-nQ];exact k1 c (Ba mL))
    (fun i d o y hd hy=>by obtain⟨c,x,a,b⟩:=hx i d o y hd hy;exact k2 i c o x a b)
    (fun i d o y hd hy=>by obtain⟨c,x,a,b⟩:=hx i d o y hd hy;rw[(h3 i c d o x y a hd b hy).flat];exact k3 i c o x a b)
    (fun i d o y hd hy=>by obtain⟨c,x,a,b⟩:=hx i d o y hd hy;exact ih i c d o x y a hd b hy (k4 i c o x a b))
   rw[<-h1]at this
   exact this
theorem AN.ok {cs ys:List AV} (h:AN cs ys) {fm:FM}{ts:List Ah}{vs:List Value} (hv:Am fm ts cs vs):Am fm ts ys vs:=by
 refine⟨h.1.symm.trans hv.1,?_⟩
 intro i y v hy e9
 have hx:∃ x,cs[i]?=some x:=⟨_,gG (by rw[h.1];exact(gS.1 hy).1)⟩
 obtain⟨x,hx⟩:=hx
 exact(h.2 i x y hx hy).ok (hv.2 i x v hx e9)
inductive BD:Ap->Ap->Prop
 |box (cs ys:List AV) (h:AN cs ys):BD (.box cs) (.box ys)
 |arr (et esz:Nat) (es fs:List (List AV)) (h:A5 es fs):BD (.arr et esz es) (.arr et esz fs)
theorem BD.refl:∀ b:Ap,BD b b
 |.box _=>.box _ _ (.refl _)
 |.arr _ _ _=>.arr _ _ _ _ (.refl _)
inductive Bw:List (Nat×AV)->List (Nat×AV)->Prop
 |nil:Bw [] []
 |cons (t:Nat) (x y:AV) (l m:List (Nat×AV)) (h:NL x y) (hs:Bw l m):Bw ((t,x)::l) ((t,y)::m)
inductive Bt:Aj->Aj->Prop
 |nil:Bt [] []
 |cons (k:Nat) (x y:Ap) (l m:Aj) (h:BD x y) (hs:Bt l m):Bt ((k,x)::l) ((k,y)::m)
theorem Bw.refl:∀ l:List (Nat×AV),Bw l l
 |[]=>.nil
 |(t,x)::l=>.cons t x x l l (.refl _) (Bw.refl l)
theorem Bt.refl:∀ l:Aj,Bt l l
 |[]=>.nil
 |(t,x)::l=>.cons t x x l l (.refl _) (Bt.refl l)
theorem Bw.look {l m:List (Nat×AV)} (h:Bw l m):∀ t y,look m t=some y->∃ x,look l t=some x/\NL x y:=by
 induction h with
 |nil=>intro t y h;simp[Abs.look]at h
 |cons t0 x y l m h hs ih=>
  intro t z hz
  simp only[Abs.look]at hz ⊢
  split
  ·rename_i e;rw[if_pos e]at hz;cases hz;exact⟨_,rfl,h⟩
  ·rename_i e;rw[if_neg e]at hz;exact ih t z hz
theorem Bt.look {l m:Aj} (h:Bt l m):∀ k b,look m k=some b->∃ b0,look l k=some b0/\BD b0 b:=by
 induction h with
 |nil=>intro t y h;simp[Abs.look]at h
 |cons t0 x y l m h hs ih=>
  intro t z hz
  simp only[Abs.look]at hz ⊢
  split
  ·rename_i e;rw[if_pos e]at hz;cases hz;exact⟨_,rfl,h⟩
  ·rename_i e;rw[if_neg e]at hz;exact ih t z hz
theorem BD.ok {fm:FM}{ts:List Ah}{w:World}{N0:Nat}{t:Option TB}{b b':Ap} (h:BR fm ts w N0 t b) (hn:BD b b'):BR fm ts w N0 t b':=by
 cases hn with
 |box cs ys hn=>
  cases h with
  |box c _ hN h=>
   obtain⟨cells,et,c1,c2,c3⟩:=h
   refine .box c _ hN ⟨cells,et,c1,c2.trans hn.1,?_⟩
   intro o y v hy hv
   obtain⟨x,hx⟩:∃ x,cs[o]?=some x:=⟨_,gG (by rw[hn.1];exact(gS.1 hy).1)⟩
   have pL:=hn.2 o x y hx hy
   exact⟨by rw[pL.flat];exact(c3 o x v hx hv).1,pL.ok (c3 o x v hx hv).2⟩
 |arr et esz es fs hn=>
  have hc:∀ (i:Nat) d,fs[i]?=some d->∃ c,es[i]?=some c/\AN c d:=fun i d hd=>by
   have ab:i<es.length:=by rw[hn.1];exact(gS.1 hd).1
   exact⟨_,gG ab,hn.2 i _ d (gG ab) hd⟩
  cases h with
  |nil=>
   have:fs=[]:=List.eq_nil_of_length_eq_zero (by simpa using hn.1.symm)
   subst this
   exact .nil _ _
  |arr _ _ _ c cap hN h=>
   obtain⟨cells,c1,c2,c3,c4,c5,c6,c7⟩:=h
   rw[hn.1]
   refine .arr et esz fs c cap hN ⟨cells,c1,c2,by rw[<-hn.1];exact c3,c4,?_,c6,?_⟩
   ·intro d hd
    obtain⟨i,hi⟩:=Bl.1 hd
    obtain⟨c,mL,nQ⟩:=hc i d hi
    rw[<-nQ.1];exact c5 c (Ba mL)
   ·intro i d o y v hd hy hv
    obtain⟨c',mL,nQ⟩:=hc i d hd
    obtain⟨x,hx⟩:∃ x,c'[o]?=some x:=⟨_,gG (by rw[nQ.1];exact(gS.1 hy).1)⟩
    have pL:=nQ.2 o x y hx hy
    have:=c7 i c' o x v mL hx hv
    exact⟨by rw[pL.flat];exact this.1,pL.ok this.2⟩
theorem Ae.nl {n:Nat}{tm tm':List (Nat×AV)}{fr aH:Aj}{low:Heap}{nx nt:Nat} (h1:Bw tm tm') (h2:Bt fr aH):Ae n ⟨tm,fr,low,nx,nt⟩ ⟨tm',aH,low,nx,nt⟩:=by
 intro N0 W0 a w fm ts h
 have src:∀ l k b,Heap.get (aH::low) l k=some b->∃ b0,Heap.get (fr::low) l k=some b0/\BD b0 b:=by
  intro l k b hg
  cases l with
  |zero=>exact h2.look k b hg
  |succ l=>exact⟨b,hg,.refl b⟩
 refine⟨fm,ts,⟨⟨by simpa using h.hr.len,?_,?_,h.hr.bL,?_,h.hr.bJ,h.hr.size,h.hr.bj⟩,?_,h.nx,h.size,h.cV⟩,AT.refl _ _⟩
 ·intro l k b hg
  obtain⟨b0,gm,hn⟩:=src l k b hg
  exact hn.ok (h.hr.aj l k b0 gm)
 ·intro l k l' k' b b' c hg bS
  obtain⟨b0,gm,_⟩:=src l k b hg
  obtain⟨b1,j6,_⟩:=src l' k' b' bS
  exact h.hr.inj l k l' k' b0 b1 c gm j6
 ·intro l k b c o hg
  obtain⟨b0,gm,_⟩:=src l k b hg
  exact h.hr.dx l k b0 c o gm
 ·intro t y hy
  obtain⟨x,hx,hn⟩:=h1.look t y hy
  obtain⟨v,h3,h4⟩:=h.tm t x hx
  exact⟨v,h3,hn.ok h4⟩
end
def cz:Operand->List Nat
 |.tmp t=>[t]
 |_=>[]
def qe:List Operand->List Nat
 |[]=>[]
 |x::l=>cz x++qe l
def sd:List (Nat×Operand)->List Nat
 |[]=>[]
 |(_,x)::l=>cz x++sd l
def oJ:Option Operand->List Nat
 |some x=>cz x
 |none=>[]
def bD:Op->List Nat
 |.move x=>cz x
 |.assign x=>cz x
 |.pick c a b=>cz c++(cz a++cz b)
 |.alloc _=>[]
 |.box _ x=>cz x
 |.build _ ps=>sd ps.toList
 |.buildSlice _ _ ps=>sd ps.toList
 |.load _ a=>cz a
 |.store _ a x=>cz a++cz x
 |.nilCheck x=>cz x
 |.binOp _ _ x y _=>cz x++cz y
 |.unOp _ _ x=>cz x
 |.convert _ _ x=>cz x
 |.makeFunc _ a b=>qe a.toList++qe b.toList
 |.makeSlice _ l c=>cz l++cz c
 |.slice _ x lo hi mx=>cz x++(oJ lo++(oJ hi++oJ mx))
 |.fieldAddr _ x _=>cz x
 |.field _ x _=>cz x
 |.indexAddr _ x i=>cz x++cz i
 |.index _ x i=>cz x++cz i
 |.extract x _=>cz x
 |.sliceToArrayPointer _ x=>cz x
 |.makeInterface _ x=>cz x
 |.lookup _ m x _=>cz m++cz x
 |.call c=>(match c.callee with
  |.value f=>cz f
  |_=>[])++qe c.args.toList
 |_=>[]
def uX (o:Ai):List Nat:=(match o.guard with
 |some (g,_)=>[g]
 |none=>[])++bD o.op
def ri:Op->Bool
 |.move _|.assign _|.pick ..|.alloc _|.box ..|.build ..|.nilCheck _|.binOp ..|.unOp ..|.makeFunc ..|.makeSlice ..|.fieldAddr ..|.field ..|.indexAddr ..|.index ..|.extract ..|.sliceToArrayPointer ..|.makeInterface ..=>false
 |.call c=>match c.callee with
  |.builtin .len|.builtin .max|.builtin .min=>false
  |_=>true
 |_=>true
section
variable {tm tm':Tm}
theorem uB {x:Operand} (h:∀ t∈cz x,tm t=tm' t):aN tm x=aN tm' x:=by
 cases x<;>simp only[aN]
 exact h _ (by simp[cz])
theorem uC:∀ (l:List Operand),(∀ t∈qe l,tm t=tm' t)->gN tm l=gN tm' l
 |[],_=>rfl
 |x::l,h=>by
  simp only[gN]
  rw[uB (fun t ht=>h t (by simp only[qe,AZ];exact .inl ht)),uC l (fun t ht=>h t (by simp only[qe,AZ];exact .inr ht))]
theorem aaR:∀ (l:List (Nat×Operand)),(∀ t∈sd l,tm t=tm' t)->partsOf tm l=partsOf tm' l
 |[],_=>rfl
 |(i,x)::l,h=>by
  simp only[partsOf]
  rw[uB (fun t ht=>h t (by simp only[sd,AZ];exact .inl ht)),aaR l (fun t ht=>h t (by simp only[sd,AZ];exact .inr ht))]
theorem adS {T:Aw}{kb:Nat}{G G':AA}{o:Op}{ty:TypeId} (h:∀ t∈bD o,tm t=tm' t) (hG:ri o=true->G=G'):aW T kb o ty tm G=aW T kb o ty tm' G':=by
 have e:∀ x:Operand,(∀ t∈cz x,t∈bD o)->aN tm x=aN tm' x:=fun x hx=>uB fun t ht=>h t (hx t ht)
 cases o with
 |move x=>simp only[aW,e x (fun t ht=>by simpa [bD] using ht)]
 |assign x=>simp only[aW,e x (fun t ht=>by simpa [bD] using ht)]
 |pick c a b=>simp only[aW,e c (fun t ht=>by simp[bD,ht]),e a (fun t ht=>by simp[bD,ht]),e b (fun t ht=>by simp[bD,ht])]
 |alloc t=>simp only[aW]
 |box t x=>simp only[aW,e x (fun t ht=>by simpa [bD] using ht)]
 |build t ps=>simp only[aW,aaR ps.toList (fun t ht=>h t (by simpa [bD] using ht))]
 |buildSlice t n ps=>obtain rfl:=hG rfl;simp only[aW,aaR ps.toList (fun t ht=>h t (by simpa [bD] using ht))]
 |load t a=>obtain rfl:=hG rfl;simp only[aW,e a (fun t ht=>by simpa [bD] using ht)]
 |store t a x=>obtain rfl:=hG rfl;simp only[aW,e a (fun t ht=>by simp[bD,ht]),e x (fun t ht=>by simp[bD,ht])]
 |nilCheck x=>simp only[aW,e x (fun t ht=>by simpa [bD] using ht)]
 |binOp op t x y t'=>simp only[aW,e x (fun t ht=>by simp[bD,ht]),e y (fun t ht=>by simp[bD,ht])]
 |unOp op t x=>simp only[aW,e x (fun t ht=>by simpa [bD] using ht)]
 |convert s d x=>obtain rfl:=hG rfl;simp only[aW,e x (fun t ht=>by simpa [bD] using ht)]
 |makeFunc f a b=>simp only[aW,uC a.toList (fun t ht=>h t (by simp only[bD,AZ];exact .inl ht)),uC b.toList (fun t ht=>h t (by simp only[bD,AZ];exact .inr ht))]
 |makeSlice t l c=>simp only[aW,e l (fun t ht=>by simp[bD,ht]),e c (fun t ht=>by simp[bD,ht])]
 |slice t x lo hi mx=>
  obtain rfl:=hG rfl
  have ex:=e x (fun t ht=>by simp[bD,ht])
  cases lo with
  |none=>
   cases hi with
   |none=>cases mx<;>simp only[aW,ex]
   |some hi=>
    have eh:=e hi (fun t ht=>by simp[bD,oJ,ht])
    cases mx with
    |none=>simp only[aW,ex,eh]
    |some mx=>simp only[aW,ex,eh,e mx (fun t ht=>by simp[bD,oJ,ht])]
  |some lo=>
   have el:=e lo (fun t ht=>by simp[bD,oJ,ht])
   cases hi with
   |none=>cases mx<;>simp only[aW,ex,el]
   |some hi=>
    have eh:=e hi (fun t ht=>by simp[bD,oJ,ht])
    cases mx with
    |none=>simp only[aW,ex,eh,el]
    |some mx=>simp only[aW,ex,eh,el,e mx (fun t ht=>by simp[bD,oJ,ht])]
 |fieldAddr t x f=>simp only[aW,e x (fun t ht=>by simpa [bD] using ht)]
 |field t x f=>simp only[aW,e x (fun t ht=>by simpa [bD] using ht)]
 |indexAddr t x i=>simp only[aW,e x (fun t ht=>by simp[bD,ht]),e i (fun t ht=>by simp[bD,ht])]
 |index t x i=>simp only[aW,e x (fun t ht=>by simp[bD,ht]),e i (fun t ht=>by simp[bD,ht])]
 |extract x i=>simp only[aW,e x (fun t ht=>by simpa [bD] using ht)]
 |sliceToArrayPointer t x=>simp only[aW,e x (fun t ht=>by simpa [bD] using ht)]
 |makeInterface t x=>simp only[aW,e x (fun t ht=>by simpa [bD] using ht)]
 |call c=>
  obtain⟨callee,args,ats⟩:=c
  cases callee with
  |builtin b=>
   have ea:=uC args.toList (fun t ht=>h t (by simp only[bD,AZ];exact .inr ht))
   cases b with
   |len=>simp only[aW,ea,kF]
   |max=>simp only[aW,ea,kF]
   |min=>simp only[aW,ea,kF]
   |_=>obtain rfl:=hG rfl;simp only[aW,ea]
  |_=>rfl
 |_=>rfl
theorem vV {c:Call} (h:∀ t∈bD (.call c),tm t=tm' t):callee tm c=callee tm' c:=by
 obtain⟨zb,args,ats⟩:=c
 have ea:=uC args.toList (fun t ht=>h t (by simp only[bD,AZ];exact .inr ht))
 cases zb with
 |value f=>
  have ef:aN tm f=aN tm' f:=uB fun t ht=>h t (by simp only[bD,AZ];exact .inl ht)
  simp only[callee,ef,ea]
 |_=>rfl
end
def iA:AV->List (Nat×Nat)
 |.ptr l k _=>[(l,k)]
 |.aR l k _ _ _ _=>[(l,k)]
 |.loc l k _ _ _ _=>[(l,k)]
 |.bd l k _ _ _=>[(l,k)]
 |x=>x.refs
def pO:List AV->List (Nat×Nat)
 |[]=>[]
 |x::l=>iA x++pO l
def xS:AV->Option (List (Nat×Nat))
 |.ptr l k _=>if l=0 then some [(0,k)] else none
 |_=>none
def iZ (tm:Tm):Op->Option (List (Nat×Nat))
 |.store _ a _=>(aN tm a).bind xS
 |.load _ a=>(aN tm a).map iA
 |.buildSlice _ _ ps=>(partsOf tm ps.toList).map gO
 |.slice _ x _ _ _=>(aN tm x).map iA
 |.convert _ _ x=>(aN tm x).map iA
 |.call c=>match c.callee with
  |.builtin .append=>(gN tm c.args.toList).map pO
  |.builtin .len|.builtin .max|.builtin .min=>some []
  |_=>none
 |o=>if ri o then none else some []
theorem m7 {G:AA}{ks:List (Nat×Nat)}{l k:Nat} (h:(l,k)∈ks):only G ks l k=G l k:=by
 unfold only;rw[if_pos (by simpa using h)]
mutual
theorem acW {G:AA}{ks:List (Nat×Nat)}:∀ (x y:AV),x.ag G=some y->(∀ p∈x.refs,p∈ks)->x.ag (only G ks)=some y
 |.loc l k e i n g,y,h,hk=>by
  simp only[AV.ag]at h ⊢
  rw[m7 (hk (l,k) (by simp[AV.refs]))];exact h
 |.nil,y,h,_=>by simpa [AV.ag] using h
 |.bA t v,y,h,hk=>by
  simp only[AV.ag,mS]at h ⊢
  obtain⟨a,h1,h2⟩:=h
  exact⟨a,acW v a h1 (by simpa only [AV.refs] using hk),h2⟩
 |.agg cs,y,h,hk=>by
  simp only[AV.ag,mS]at h ⊢
  obtain⟨a,h1,h2⟩:=h
  exact⟨a,pj cs a h1 (by simpa only [AV.refs] using hk),h2⟩
 |.ak vs,y,h,hk=>by
  simp only[AV.ag,mS]at h ⊢
  obtain⟨a,h1,h2⟩:=h
  exact⟨a,pj vs a h1 (by simpa only [AV.refs] using hk),h2⟩
 |.bool b,y,h,_=>by simpa [AV.ag] using h
 |.int k n,y,h,_=>by simpa [AV.ag] using h
 |.str s,y,h,_=>by simpa [AV.ag] using h
 |.sl e es,y,h,_=>by simpa [AV.ag] using h
 |.bf,y,h,_=>by simpa [AV.ag] using h
 |.bo,y,h,_=>by simpa [AV.ag] using h
 |.bp,y,h,_=>by simpa [AV.ag] using h
 |.mp r_,y,h,_=>by simpa [AV.ag] using h
 |.fn f a b,y,h,hk=>by
  simp only[AV.ag]at h ⊢
  split at h
  ·rename_i x z hx hz
   obtain rfl:=oi h
   simp only[AV.refs,AZ]at hk
   simp only[pj a x hx (fun p hp=>hk p (.inl hp)),pj b z hz (fun p hp=>hk p (.inr hp))]
  ·cases h
 |.bd ..,y,h,_=>by simp[AV.ag]at h
 |.ptr ..,y,h,_=>by simp[AV.ag]at h
 |.aR ..,y,h,_=>by simp[AV.ag]at h
 |.aq ..,y,h,_=>by simpa [AV.ag] using h
 |.dead,y,h,_=>by simp[AV.ag]at h
theorem pj {G:AA}{ks:List (Nat×Nat)}:∀ (l ys:List AV),AV.az G l=some ys->(∀ p∈AV.aD l,p∈ks)->AV.az (only G ks) l=some ys
 |[],ys,h,_=>by simpa [AV.az] using h
 |x::l,ys,h,hk=>by
  simp only[AV.az]at h ⊢
  simp only[AV.aD,AZ]at hk
  split at h
  ·rename_i a b ha hb
   obtain rfl:=oi h
   simp only[acW x a ha (fun p hp=>hk p (.inl hp)),pj l b hb (fun p hp=>hk p (.inr hp))]
  ·cases h
end
theorem acT {G:AA}{ks:List (Nat×Nat)}:∀ (l:List (Nat×AV)) (cs:List (Nat×List AV)),jj G l=some cs->(∀ p∈gO l,p∈ks)->jj (only G ks) l=some cs
 |[],cs,h,_=>by simpa [jj] using h
 |(i,v)::l,cs,h,hk=>by
  simp only[jj]at h ⊢
  simp only[gO,AZ]at hk
  split at h
  ·rename_i vc lT
   split at h
   ·rename_i a b ha hb
    have hrefs:AV.aD vc=v.refs:=by
     cases v<;>simp only[AV.cells,oE]at lT<;>first|(subst lT;simp[AV.aD,AV.refs];done)|(cases lT)
    rw[pj vc a ha (fun p hp=>hk p (.inl (by rw[<-hrefs];exact hp))),acT l b hb (fun p hp=>hk p (.inr hp))]
    exact h
   ·cases h
  ·cases h
theorem acq {G:AA}{ks:List (Nat×Nat)}{sz:Nat}{x:AV} (hk:∀ p∈iA x,p∈ks):fR (only G ks) sz x=fR G sz x:=by
 cases x with
 |loc l k e i n g=>simp only[fR];rw[m7 (hk (l,k) (by simp[iA]))]
 |bd l k e o n=>simp only[fR];rw[m7 (hk (l,k) (by simp[iA]))]
 |_=>rfl
theorem ajB {T:Aw}{kb:Nat}{tm:Tm}{G:AA}{o:Op}{ty:TypeId}{d:De}{ks:List (Nat×Nat)} (h:aW T kb o ty tm G=some d) (hr:iZ tm o=some ks):aW T kb o ty tm (only G ks)=some d:=by
 have other:ri o=false->aW T kb o ty tm (only G ks)=some d:=fun hh=>by rw[<-h];exact adS (fun _ _=>rfl) (fun e=>by rw[hh]at e;cases e)
 have agV:(if ri o=true then none else some [])=some ks->aW T kb o ty tm (only G ks)=some d:=by
  intro e
  cases hh:ri o with
  |true=>rw[hh]at e;simp at e
  |false=>exact other hh
 cases o with
 |load t a=>
  simp only[iZ,mS]at hr
  obtain⟨x,hx,rfl⟩:=hr
  simp only[aW,hx]at h ⊢
  split at h
  ·rename_i ti x' ht eO
   obtain rfl:=oi eO
   rw[<-h]
   congr 1
   unfold ly
   congr 1
   cases x<;>simp only[fP,iA]<;>rw[m7 (by simp)]
  ·cases h
 |store t a x=>
  simp only[iZ,Option.bind_eq_some_iff]at hr
  obtain⟨y,hy,hr⟩:=hr
  cases y with
  |ptr l k o=>
   simp only[xS]at hr
   split at hr
   ·rename_i hl
    subst hl
    obtain rfl:=oi hr
    rw[<-h]
    simp only[aW,hy]
    cases T t with
    |none=>rfl
    |some ti=>
     cases aN tm x with
     |none=>rfl
     |some xv=>
      simp only
      cases xv.cells with
      |none=>rfl
      |some cs=>
       simp only[nI]
       rw[m7 (by simp)]
       split
       ·split
        ·split
         ·rfl
         ·rfl
        ·rfl
       ·rfl
   ·cases hr
  |_=>simp[xS]at hr
 |buildSlice t n ps=>
  simp only[iZ,mS]at hr
  obtain⟨x,hx,rfl⟩:=hr
  simp only[aW,hx]at h ⊢
  split at h
  ·rename_i ti x' ht eO
   obtain rfl:=oi eO
   unfold nH at h ⊢
   split at h
   ·split at h
    ·rename_i hc
     simp only[hc,and_self,if_true]
     split at h
     ·rename_i cs ek
      rw[acT _ _ ek (fun _ h=>h)]
      exact h
     ·cases h
    ·cases h
   ·cases h
  ·cases h
 |convert s d x=>
  simp only[iZ,mS]at hr
  obtain⟨x1,hx,rfl⟩:=hr
  have xe:∀ si di:TI,iM T (only G (iA x1)) si di x1=iM T G si di x1:=by
   intro si di
   unfold iM
   rw[acq (x:=x1) (fun p hp=>hp)]
  rw[<-h]
  simp only[aW,hx]
  cases T s with
  |none=>rfl
  |some si=>cases T d with
   |none=>rfl
   |some di=>simp only[xe]
 |slice t x lo hi mx=>
  simp only[iZ,mS]at hr
  obtain⟨x1,hx,rfl⟩:=hr
  have db:∀ (ti:TI) (lo hi:AV),jd (only G (iA x1)) ti x1 lo hi=jd G ti x1 lo hi:=by
   intro ti lo hi
   cases x1 with
   |loc l k e i n g=>simp only[jd];rw[m7 (by simp[iA])]
   |_=>rfl
  rw[<-h]
  cases mx with
  |some mx=>cases lo<;>cases hi<;>rfl
  |none=>
   cases lo with
   |none=>cases hi<;>rfl
   |some lo=>
    cases hi with
    |none=>rfl
    |some hi=>
     simp only[aW,hx]
     cases T t with
     |none=>rfl
     |some ti=>
      simp only
      split
      ·rw[db]
      ·rfl
 |call c=>
  obtain⟨zb,args,ats⟩:=c
  cases zb with
  |builtin b=>
   cases b with
   |append=>
    simp only[iZ,mS]at hr
    obtain⟨xs,hx,rfl⟩:=hr
    simp only[aW,hx]at h ⊢
    rw[<-h]
    unfold kF
    split
    ·rfl
    ·split
     ·rfl
     ·simp only
      split
      ·rename_i xs0 s x
       split
       ·unfold ic
        split
        ·rw[acq (x:=x) (by intro p hp;simp[pO,hp])]
         split
         ·cases s with
          |loc l k e i n g=>simp only;rw[m7 (by simp[pO,iA])]
          |_=>rfl
         ·rfl
        ·rfl
       ·unfold sK
        split
        ·split
         ·split
          ·split
           ·unfold ic
            split
            ·simp only[fR]
             split
             ·cases s with
              |loc l k e i n g=>simp only;rw[m7 (by simp[pO,iA])]
              |_=>rfl
             ·rfl
            ·rfl
           ·rfl
          ·rfl
         ·rfl
        ·split
         ·split
          ·unfold qM
           split
           ·unfold ic
            split
            ·simp only[fR]
             split
             ·cases s with
              |loc l k e i n g=>simp only;rw[m7 (by simp[pO,iA])]
              |_=>rfl
             ·rfl
            ·rfl
           ·rfl
          ·rfl
         ·rfl
        ·rfl
      ·rfl
   |len=>exact other rfl
   |max=>exact other rfl
   |min=>exact other rfl
   |_=>simp[iZ]at hr
  |_=>simp[iZ]at hr
 |_=>exact agV hr
def cN:St->List Ai->List De->Nat->St
 |st,o::os,d::ds,i+1=>cN (st.by o.dst [] d) os ds i
 |st,_,_,_=>st
theorem yf (st:St) (ops:List Ai) (ds:List De):cN st ops ds 0=st:=by
 cases ops<;>cases ds<;>rfl
theorem aep (st:St) (ops:List Ai) (ds:List De) (hl:ds.length=ops.length):∀ i,i<=ops.length->
  (cN st ops ds i).fr::(cN st ops ds i).low=Heap.bk (st.fr::st.low) (bQ ds (List.range i))/\(cN st ops ds i).nx=st.nx+16*i/\(cN st ops ds i).nt=st.nt/\
  (cN st ops ds i).tm=fQ ops ds (List.range i) st.tm:=by
 have key:∀ (ops:List Ai) (ds:List De) (st:St),ds.length=ops.length->∀ i o d,i<ops.length->ops[i]?=some o->ds[i]?=some d->cN st ops ds (i+1)=(cN st ops ds i).by o.dst [] d:=by
  intro ops
  induction ops with
  |nil=>intro ds st hl i o d hi;simp at hi
  |cons o' os ih=>
   intro ds st hl i o d hi ho hd
   cases ds with
   |nil=>simp at hl
   |cons d' ds=>
    cases i with
    |zero=>simp at ho hd;subst ho hd;simp[cN,yf]
    |succ i=>
     simp only[BE]at ho hd
     simp only[cN]
     exact ih ds _ (by simpa using hl) i o d (by simpa using hi) ho hd
 intro i
 induction i with
 |zero=>intro _;simp[yf,bQ,Heap.bk,fQ]
 |succ i ih=>
  intro hi
  obtain⟨h1,h2,h3,h4⟩:=ih (by omega)
  have ho:ops[i]?=some ops[i]:=gG (by omega)
  have hd:ds[i]?=some ds[i]:=gG (by omega)
  have hk:=key ops ds st hl i _ _ (by omega) ho hd
  obtain⟨f',H',hp⟩:=rL (cN st ops ds i).fr (cN st ops ds i).low (ds[i]).jb
  have hb:cN st ops ds (i+1)={ cN st ops ds i with tm:=kr (cN st ops ds i).tm (ops[i]).dst (ds[i]).val,nx:=(cN st ops ds i).nx+16,fr:=f',low:=H' }:=by
   rw[hk];unfold St.by;rw[hp];rfl
  have es:∀ (l:List Nat) (m:List Nat),bQ ds (l++m)=bQ ds l++bQ ds m:=by
   intro l m;induction l with
   |nil=>rfl
   |cons a l ih=>simp[bQ,ih]
  have et:∀ (l:List Nat) (j:Nat) (tm:List (Nat×AV)),fQ ops ds (l++[j]) tm=(match ds[j]? with|some d=>kr (fQ ops ds l tm) (bP ops j) d.val|none=>fQ ops ds l tm):=by
   intro l;induction l with
   |nil=>intro j tm;rfl
   |cons a l ih=>intro j tm;simp only[A8,fQ,ih]
  rw[hb]
  refine⟨?_,by simp only[h2];omega,h3,?_⟩
  ·simp only
   rw[List.range_succ,es,Heap.mb,<-h1,<-hp]
   simp[bQ,dk,hd]
  ·simp only
   rw[List.range_succ,et,hd,<-h4]
   simp[bP,ho]
def aeK (ops:List Ai) (befs:List (List Nat)) (i:Nat) (t:Nat):Bool:=
 (List.range ops.length).all fun j=>!(decide (bP ops j=some t)) || ((bH befs i).contains j || (bH befs j).contains i)
abbrev Rd:=Option (List (Nat×Nat))
def pg (r:Rd) (s:Sets):Bool:=match r with
 |none=>s.isEmpty
 |some ks=>s.all fun p=>!ks.contains (p.1,p.2.1)
def calm (ops:List Ai) (befs:List (List Nat)) (ds:List (De×Rd)):Bool:=
 decide (ds.length=ops.length)&&uz ops&&sr 0 befs&&oT befs (ds.map (·.1)) ops.length&&
 (List.range ops.length).all fun i=>match ops[i]?,ds[i]? with
  |some o,some d=>(uX o).all (aeK ops befs i)&&((List.range ops.length).all fun j=>!nu befs i j || ((ds[j]?).map fun x=>pg d.2 x.1.jb).getD true)
  |_,_=>false
section
variable [Md] {P:Program}{T:Aw}{n:Nat}{Φ:Exit->St->Prop}
theorem Df.mono {kb:Nat}{o:Ai}{tm:Tm}{G G':AA}{d:De} (hG:CT G G') (h:Df P T kb o tm G d):Df P T kb o tm G' d:=by
 cases h with
 |op hc h=>exact .op hc (adT (fun _ _ h=>h) hG h)
 |look t m x r kv ob ho hm hx hr hl hs=>exact .look t m x r kv ob ho hm hx hr hl hs
 |call c f args aw hc h hp hz hr hs=>exact .call c f args aw hc h hp (lB hG _ _ hz) hr hs
 |lW m c f args aw hc h hp hz hr hs=>exact .lW m c f args aw hc h hp ((o8 hG (qH hG (fun _ _ _ _ _ _ _ hh=>jZ hG _ _ hh) m) (fun _ _ _ _ _ _ _ hh=>jZ hG _ _ hh)).2 _ _ hz) hr hs
 |nN m c f args aw fr y hc h hp hz hy hf hd=>exact .nN m c f args aw fr y hc h hp ((o8 hG (qH hG (fun _ _ _ _ _ _ _ hh=>jZ hG _ _ hh) m) (fun _ _ _ _ _ _ _ hh=>jZ hG _ _ hh)).2 _ _ hz) hy hf hd
 |lD rs gs c f args cT fr0 fr y hc h hp hz hg bw hd=>
  have pn:∀ l k b,only (gP G) (rs.map fun k=>(1,k)) l k=some b->only (gP G') (rs.map fun k=>(1,k)) l k=some b:=by
   intro l k b e
   unfold only at e ⊢
   split at e
   ·rename_i hm
    rw[if_pos hm]
    cases l with
    |zero=>simp[gP]at e
    |succ l=>exact hG l k b e
   ·cases e
  have tG:∀ (l k e i0 n g:Nat) (y:AV),(AV.loc l k e i0 n g).ag (only (gP G) (rs.map fun k=>(1,k)))=some y->(AV.loc l k e i0 n g).ag (only (gP G') (rs.map fun k=>(1,k)))=some y:=
   fun _ _ _ _ _ _ _ hh=>jZ pn _ _ hh
  exact .lD rs gs c f args cT fr0 fr y hc h hp (zT (gs:=gs) (o8 pn (qH pn tG 5) tG).1 _ _ hz) (zS hG gs 0 fr0 hg) bw hd
theorem Ck.congr {kb:Nat}{o:Ai}{tm tm':Tm}{G:AA}{d:De} (h:∀ t∈uX o,tm t=tm' t) (he:Ck P T kb o tm G d):Ck P T kb o tm' G d:=by
 have hu:∀ t∈bD o.op,tm t=tm' t:=fun t ht=>h t (by simp only[uX,AZ];exact .inr ht)
 have hg:∀ g w,o.guard=some (g,w)->tm g=tm' g:=fun g w hh=>h g (by simp[uX,hh])
 rcases he with ⟨fA,he⟩|⟨⟨g,w,hh,hc⟩,hd⟩
 ·refine .inl ⟨?_,?_⟩
  ·rcases fA with fA|⟨g,w,b,hh,h1,h2⟩
   ·exact .inl fA
   ·exact .inr ⟨g,w,b,hh,by rw[<-hg g w hh];exact h1,h2⟩
  ·cases he with
   |op hc he=>exact .op hc (by rw[<-adS hu (fun _=>rfl)];exact he)
   |look t m x r kv ob ho hm hx hr hl hs=>
    have e:∀ z,(∀ t∈cz z,t∈bD o.op)->aN tm' z=aN tm z:=fun z hz=>(uB fun t ht=>hu t (hz t ht)).symm
    exact .look t m x r kv ob ho (by rw[e m (fun t ht=>by rw[ho];simp[bD,ht])];exact hm) (by rw[e x (fun t ht=>by rw[ho];simp[bD,ht])];exact hx) hr hl hs
   |call c f args aw hc h hp hz hr hs=>
    have kV:o.op=.call c:=by
     unfold iy at hc
     split at hc
     ·split at hc
      ·cases hc
      ·obtain rfl:=oi hc;assumption
     ·cases hc
    exact .call c f args aw hc (by rw[<-vV (by rw[<-kV];exact hu)];exact h) hp hz hr hs
   |lW m c f args aw hc h hp hz hr hs=>
    have kV:o.op=.call c:=by
     unfold iy at hc
     split at hc
     ·split at hc
      ·cases hc
      ·obtain rfl:=oi hc;assumption
     ·cases hc
    exact .lW m c f args aw hc (by rw[<-vV (by rw[<-kV];exact hu)];exact h) hp hz hr hs
   |nN m c f args aw fr y hc h hp hz hy hf hd=>
    have kV:o.op=.call c:=by
     unfold iy at hc
     split at hc
     ·split at hc
      ·cases hc
      ·obtain rfl:=oi hc;assumption
     ·cases hc
    exact .nN m c f args aw fr y hc (by rw[<-vV (by rw[<-kV];exact hu)];exact h) hp hz hy hf hd
   |lD rs gs c f args cT fr0 fr y hc h hp hz hg bw hd=>
    have kV:o.op=.call c:=by
     unfold iy at hc
     split at hc
     ·split at hc
      ·cases hc
      ·obtain rfl:=oi hc;assumption
     ·cases hc
    exact .lD rs gs c f args cT fr0 fr y hc (by rw[<-vV (by rw[<-kV];exact hu)];exact h) hp hz hg bw hd
 ·refine .inr ⟨⟨g,w,hh,?_⟩,hd⟩
  rw[<-hg g w hh];exact hc
def Cj (P:Program) (T:Aw) (kb:Nat) (o:Ai) (tm:Tm) (G:AA) (d:De×Rd):Prop:=
 Ck P T kb o tm (match d.2 with|none=>G|some ks=>only G ks) d.1
inductive Steps (P:Program) (T:Aw):St->List Ai->List (De×Rd)->Prop
 |nil (st:St):Steps P T st [] []
 |cons (st:St) (o:Ai) (os:List Ai) (d:De×Rd) (ds:List (De×Rd)) (h:Cj P T st.nx o (look st.tm) st.get d) (hs:Steps P T (st.by o.dst [] d.1) os ds):Steps P T st (o::os) (d::ds)
theorem Steps.at {st:St}{ops:List Ai}{ds:List (De×Rd)} (h:Steps P T st ops ds):∀ i o d,ops[i]?=some o->ds[i]?=some d->
  Cj P T (cN st ops (ds.map (·.1)) i).nx o (look (cN st ops (ds.map (·.1)) i).tm) (cN st ops (ds.map (·.1)) i).get d:=by
 induction h with
 |nil st=>intro i o d ho;simp at ho
 |cons st o os d ds h hs ih=>
  intro i o' d' ho hd
  cases i with
  |zero=>simp at ho hd;subst ho hd;rw[yf];exact h
  |succ i=>
   simp only[BE]at ho hd
   simp only[List.map_cons,cN]
   exact ih i o' d' ho hd
theorem Steps.length {st:St}{ops:List Ai}{ds:List (De×Rd)} (h:Steps P T st ops ds):ds.length=ops.length:=by
 induction h with
 |nil=>rfl
 |cons _ _ _ _ _ _ _ ih=>simp[ih]
theorem zr:∀ (ks:List Nat) (l:List (Nat×AV)) (t:Nat),look (cd l ks) t=if t∈ks then none else look l t
 |[],l,t=>by simp[cd]
 |k::ks,l,t=>by
  simp only[cd,zr ks,uq,BA]
  by_cases h1:t∈ks
  ·simp[h1]
  ·by_cases h2:k=t
   ·simp[h2]
   ·simp[h1,h2,Ne.symm h2]
theorem agF {ops:List Ai}{befs:List (List Nat)}{st:St} (ds:List (De×Rd)) (hs:Steps P T st ops ds) (hc:calm ops befs ds=true):
  ∀ i s d,ops[i]?=some s->(ds.map (·.1))[i]?=some d->Ck P T (st.nx+16*i) s (look (lx ops befs (ds.map (·.1)) st.tm i)) (Heap.get (jV ops befs (ds.map (·.1)) (st.fr::st.low) i)) d:=by
 obtain⟨cP,tq⟩:∃ cP,ds.map (·.1)=cP:=⟨_,rfl⟩
 have hl:=hs.length
 have rm:cP.length=ops.length:=by rw[<-tq];simp[hl]
 simp only[calm,AP,decide_eq_true_eq,tq]at hc
 obtain⟨⟨⟨⟨_,h1⟩,mK⟩,jv⟩,ju⟩:=hc
 have hO:=aaN ops h1
 have hB:=yP befs 0 mK
 have hdx:∀ i,i<ops.length->∃ d,ds[i]?=some d/\cP[i]?=some d.1:=by
  intro i hi
  obtain⟨x,h2⟩:∃ x,ds[i]?=some x:=⟨_,gG (by omega)⟩
  refine⟨x,h2,?_⟩
  have h3:(ds.map (·.1))[i]?=some x.1:=by rw[Bz,h2];rfl
  rw[tq]at h3;exact h3
 rw[tq]
 intro i s d hi hd
 have hil:i<ops.length:=(gS.1 hi).1
 obtain⟨dd,h2,h3⟩:=hdx i hil
 rw[hd]at h3
 obtain rfl:=oi h3
 have hE:=hs.at i s dd hi h2
 rw[tq]at hE
 obtain⟨f1,f2,f3,f4⟩:=aep st ops cP rm i (by omega)
 rw[f2]at hE
 simp only[List.all_eq_true,List.mem_range]at ju
 have xd:=ju i hil
 rw[hi,h2]at xd
 simp only[AP,List.all_eq_true]at xd
 obtain⟨hu,hh⟩:=xd
 have kS:∀ j t,bP ops j=some t->j<ops.length:=by
  intro j t hj
  unfold bP at hj
  cases ho:ops[j]? with
  |none=>rw[ho]at hj;cases hj
  |some o=>exact(gS.1 ho).1
 have de:∀ t∈uX s,look (cN st ops cP i).tm t=look (lx ops befs cP st.tm i) t:=by
  intro t ht
  rw[f4]
  have hut:=hu t ht
  simp only[aeK,List.all_eq_true,List.mem_range,Bool.or_eq_true,Bool.not_eq_true',decide_eq_false_iff_not]at hut
  unfold lx
  by_cases hex:∃ j,bP ops j=some t
  ·obtain⟨j,hj⟩:=hex
   have j8:=kS j t hj
   have xp:(bH befs i).contains j=true\/(bH befs j).contains i=true:=by
    rcases hut j j8 with h|h
    ·exact absurd hj h
    ·exact h
   by_cases tD:(bH befs i).contains j=true
   case neg=>
    have nW:=hB j i (by simpa using xp.resolve_left tD)
    have bx:∀ L:List Nat,j∉L->∀ k∈L,bP ops k≠some t:=by
     intro L hjL k hk mR
     have:=hO j k t hj mR
     subst this
     exact hjL hk
    rw[jW ops cP t _ _ (bx _ (by simp;omega)),jW ops cP t _ _ (bx _ (by intro hm;exact tD (jF.1 hm).2)),zr,if_neg]
    intro hm
    obtain⟨k,hk,mR⟩:=List.mem_filterMap.1 hm
    have:=hO j k t hj mR
    subst this
    have:=(jF.1 hk).2
    rw[xp.resolve_left tD]at this
    cases this
   have iq:=hB i j (by simpa using tD)
   obtain⟨dj,_,lJ⟩:=hdx j j8
   rw[nJ ops cP hO hj lJ _ _ (List.mem_range.2 (by omega)),nJ ops cP hO hj lJ _ _ (jF.2 ⟨j8,tD⟩)]
  ·have bx:∀ (L:List Nat),∀ j∈L,bP ops j≠some t:=fun L j _ hj=>hex ⟨j,hj⟩
   rw[jW ops cP t _ _ (bx _),jW ops cP t _ _ (bx _),zr,if_neg]
   intro hm
   obtain⟨j,_,hj⟩:=List.mem_filterMap.1 hm
   exact hex ⟨j,hj⟩
 simp only[List.all_eq_true,List.mem_range,Bool.or_eq_true,Bool.not_eq_true']at hh
 have ahU:∀ j,j<ops.length->nu befs i j=true->pg dd.2 (dk cP j)=true:=by
  intro j hj bm
  obtain⟨dj,lJ,ahO⟩:=hdx j hj
  rcases hh j hj with h|h
  ·rw[bm]at h;cases h
  ·rw[lJ]at h
   simpa [dk,ahO] using h
 have hG:∀ l k,(∀ ks,dd.2=some ks->(l,k)∈ks)->(cN st ops cP i).get l k=Heap.get (jV ops befs cP (st.fr::st.low) i) l k:=by
  intro l k kU
  have tJ:∀ j,j<ops.length->nu befs i j=true->∀ p∈dk cP j,¬ (p.1=l/\p.2.1=k):=by
   intro j hj bm p hp hpe
   have:=ahU j hj bm
   unfold pg at this
   split at this
   ·rw[List.isEmpty_iff]at this;rw[this]at hp;cases hp
   ·rename_i ks hks
    have h1:=List.all_eq_true.1 this p hp
    have h2:=kU ks hks
    rw[hpe.1,hpe.2]at h1
    simp[h2]at h1
  unfold St.get jV
  rw[f1,pk,pk]
  have g1:said (gone (bQ cP (idxs ops.length (nu befs i)))) l k=none:=by
   apply yc
   intro x hx
   obtain⟨y,hy,rfl⟩:=List.mem_map.1 hx
   obtain⟨j,hj,hyj⟩:=(aaI _).1 hy
   exact fun hh=>tJ j (jF.1 hj).1 (jF.1 hj).2 y hyj hh
  rw[g1]
  simp only
  rw[pk]
  have g2:said (bQ cP (List.range i)) l k=said (bQ cP (idxs ops.length fun j=>(bH befs i).contains j)) l k:=by
   have k2:List.range i=(List.range ops.length).filter fun j=>decide (j<i):=by
    have:∀ (m k:Nat),k<=m->List.range k=(List.range m).filter fun j=>decide (j<k):=by
     intro m
     induction m with
     |zero=>
      intro k hk
      have:k=0:=by omega
      subst this;rfl
     |succ m ih=>
      intro k hk
      by_cases hkm:k=m+1
      ·subst hkm
       symm
       rw[List.filter_eq_self]
       intro j hj;simpa using hj
      ·rw[List.range_succ,List.filter_append,<-ih k (by omega)]
       have:¬ m<k:=by omega
       simp[this]
    exact this _ _ (by omega)
   rw[k2]
   symm
   unfold idxs
   refine aa1 (ds:=cP) (l:=l) (k:=k) (fun j=>(bH befs i).contains j) (fun j=>decide (j<i)) ?_ (List.range ops.length) ?_
   ·intro j hj
    have:=hB i j (by simpa using hj)
    simp;omega
   ·intro j hj iq hnb s hs
    simp only[decide_eq_true_eq]at iq
    refine tJ j (List.mem_range.1 hj) ?_ s hs
    unfold nu
    have mU:(bH befs j).contains i=false:=by
     cases hx:(bH befs j).contains i with
     |false=>rfl
     |true=>have:=hB j i (by simpa using hx);omega
    rw[hnb,mU]
    have:j≠i:=by omega
    simp[this]
  rw[g2]
 have hE':=Ck.congr de hE
 have hle:CT (match dd.2 with|none=>(cN st ops cP i).get|some ks=>only (cN st ops cP i).get ks) (Heap.get (jV ops befs cP (st.fr::st.low) i)):=by
  intro l k b hb
  cases nS:dd.2 with
  |none=>
   rw[nS]at hb
   simp only at hb
   rw[<-hG l k (by intro ks e;rw[nS]at e;cases e)];exact hb
  |some ks=>
   rw[nS]at hb
   simp only[only]at hb
   split at hb
   ·rename_i hm
    rw[<-hG l k (by intro ks' e;rw[nS]at e;obtain rfl:=oi e;simpa using hm)];exact hb
   ·cases hb
 rcases hE' with ⟨a,b⟩|⟨a,b⟩
 ·exact .inl ⟨a,b.mono hle⟩
 ·exact .inr ⟨a,b⟩
theorem agG {ops:List Ai}{drop:List Nat}{todo:List It}{st:St} (cP:List De) (rm:cP.length=ops.length)
  (hn:AK P n Φ todo { cN st ops cP ops.length with tm:=cd (cN st ops cP ops.length).tm drop }):AK P n Φ todo (st.drawn ops cP drop):=by
 obtain⟨e1,e2,e3,e4⟩:=aep st ops cP rm ops.length (A7 _)
 unfold St.drawn
 obtain⟨f',H',hp⟩:=rL st.fr st.low (bQ cP (List.range ops.length))
 rw[hp]at e1 ⊢
 simp only[List.cons.injEq]at e1
 obtain⟨e5,e6⟩:=e1
 rw[akE]
 simp only[e2,e3,e4,e5,e6]at hn
 exact hn
theorem FT (hT:AG P T) (hm:P.follows .mixedOrders=true) {ops:List Ai}{befs:List (List Nat)}{drop:List Nat}{todo:List It}{st:St} (ds:List (De×Rd)) (hs:Steps P T st ops ds) (hc:calm ops befs ds=true)
  (hn:AK P n Φ todo { cN st ops (ds.map (·.1)) ops.length with tm:=cd (cN st ops (ds.map (·.1)) ops.length).tm drop }):Ar P n Φ (.draw ops befs drop todo st):=by
 have hl:(ds.map (·.1)).length=ops.length:=by simp[hs.length]
 have j5:=hc
 simp only[calm,AP,decide_eq_true_eq]at j5
 obtain⟨⟨⟨⟨_,h1⟩,mK⟩,jv⟩,_⟩:=j5
 exact FU hT hm _ hl h1 mK jv (agF ds hs hc) (agG _ hl hn)
end
end Go.Abs
namespace Go.Abs
open Go Go.RowKit
theorem An.nl {P:Program}{f:FuncId}{zs args:List AV}{R:AV->Prop} (h:An P f args R) (hn:AN zs args):An P f zs R:=
 ⟨h.1,fun fm w vs h1 h2=>h.2 fm w vs h1 (hn.ok h2)⟩
inductive BT where
 |stuck
 |call (f:FuncId) (args:List AV) (o:Ai) (os:List Ai) (acc:List (De×Rd)) (st:St)
 |look (t:TypeId) (r:Nat) (kv:AV) (o:Ai) (os:List Ai) (acc:List (De×Rd)) (st:St)
 |done (acc:List (De×Rd)) (st:St)
def uH:De×Rd:=(⟨.ak [],[]⟩,some [])
def nr (f:List Ai->List (De×Rd)->St->BT) (b:Bool) (os:List Ai) (acc:List (De×Rd)) (st:St) (fY:List Ai) (fN:List (De×Rd)) (al:St):BT:=
 match b with
 |true=>f os acc st
 |false=>f fY fN al
theorem akq (f:List Ai->List (De×Rd)->St->BT) (os fY:List Ai) (acc fN:List (De×Rd)) (st al:St):nr f true os acc st fY fN al=f os acc st:=rfl
theorem akp (f:List Ai->List (De×Rd)->St->BT) (os fY:List Ai) (acc fN:List (De×Rd)) (st al:St):nr f false os acc st fY fN al=f fY fN al:=rfl
def aaE (o:Ai) (os:List Ai) (acc:List (De×Rd)) (st:St):BT:=
 match o.op with
 |.lookup t m x false=>match aN (look st.tm) m,aN (look st.tm) x with
  |some (.mp (some r)),some kv=>.look t r kv o os acc st
  |_,_=>.stuck
 |_=>.stuck
def ux (f:List Ai->List (De×Rd)->St->BT) (o:Ai) (os:List Ai) (acc:List (De×Rd)) (st:St):Option De->BT
 |some d=>f os ((d,iZ (look st.tm) o.op)::acc) (st.by o.dst [] d)
 |none=>aaE o os acc st
theorem aiZ (f:List Ai->List (De×Rd)->St->BT) (o:Ai) (os:List Ai) (acc:List (De×Rd)) (st:St) (d:De):ux f o os acc st (some d)=f os ((d,iZ (look st.tm) o.op)::acc) (st.by o.dst [] d):=rfl
def zd (o:Ai) (os:List Ai) (acc:List (De×Rd)) (st:St):Option (FuncId×List AV)->BT
 |some (f,args)=>.call f args o os acc st
 |none=>.stuck
theorem agC (o:Ai) (os:List Ai) (acc:List (De×Rd)) (st:St) (f:FuncId) (args:List AV):zd o os acc st (some (f,args))=.call f args o os acc st:=rfl
def zw (T:Aw) (f:List Ai->List (De×Rd)->St->BT) (o:Ai) (os:List Ai) (acc:List (De×Rd)) (st:St):BT:=
 match iy o.op with
 |some c=>zd o os acc st (callee (look st.tm) c)
 |none=>ux f o os acc st (aW T st.nx o.op o.type (look st.tm) st.get)
def gQ (T:Aw):Nat->List Ai->List (De×Rd)->St->BT
 |0,_,_,_=>.stuck
 |_+1,[],acc,st=>.done acc st
 |n+1,o::os,acc,st=>match o.guard with
  |none=>zw T (gQ T n) o os acc st
  |some (g,w)=>match look st.tm g with
   |some (.bool b)=>nr (gQ T n) (b==w) (⟨o.dst,o.op,o.type,none,o.drop⟩::os) acc st os (uH::acc) (st.by o.dst [] ⟨.ak [],[]⟩)
   |some (.ak [])=>gQ T n os (uH::acc) (st.by o.dst [] ⟨.ak [],[]⟩)
   |_=>.stuck
section
variable [Md] {P:Program}{T:Aw}{n:Nat}{Φ:Exit->St->Prop}{C:List (De×Rd)->St->Prop}
def GD (P:Program) (T:Aw) (C:List (De×Rd)->St->Prop) (os:List Ai) (acc:List (De×Rd)) (st:St):Prop:=
 ∃ ds,Steps P T st os ds/\C (ds.reverse++acc) (cN st os (ds.map (·.1)) os.length)
def DG (P:Program) (T:Aw) (C:List (De×Rd)->St->Prop):BT->Prop
 |.stuck=>False
 |.look t r kv o os acc st=>∃ ob y,Md.ou r=some ob/\DH P t ob r kv y/\GD P T C os ((⟨y,[]⟩,some [])::acc) (st.by o.dst [] ⟨y,[]⟩)
 |.done acc st=>C acc st
 |.call f args o os acc st=>(∃ rs gs cT fr0 fr y,AY P f cT fr0 (fun y' aH=>y'=y/\aH=fr)/\jo gs (only (gP (only st.get ((gs++rs).map fun k=>(0,k)))) (rs.map fun k=>(1,k))) (cF (only (gP (only st.get ((gs++rs).map fun k=>(0,k)))) (rs.map fun k=>(1,k))) 5) (AV.ck 1 args)=some cT/\
    lF (only st.get ((gs++rs).map fun k=>(0,k))) 0 gs=some fr0/\(decide (gs++rs).Nodup&&decide (gs.length<=16))=true/\GD P T C os ((⟨y.imp st.nx,iX rs++(iX gs++iV st.nx fr)⟩,some ((gs++rs).map fun k=>(0,k)))::acc) (st.by o.dst [] ⟨y.imp st.nx,iX rs++(iX gs++iV st.nx fr)⟩))\/
   (∃ m ks aw fr y,AY P f aw [] (fun y' aH=>y'=y/\aH=fr)/\AV.cB (only st.get ks) (cF (only st.get ks) m) args=some aw/\y.m4=true/\om fr/\GD P T C os ((⟨y.imp st.nx,iV st.nx fr⟩,some ks)::acc) (st.by o.dst [] ⟨y.imp st.nx,iV st.nx fr⟩))\/∃ v aw fl,An P f aw (fun y=>y=v)/\((AV.az st.get args=some aw/\(AV.aD args=[]\/v.cJ=true)/\fl=some (AV.aD args))\/(fl=none/\v.cJ=true/\∃ m,AV.cB st.get (cF st.get m) args=some aw))/\
   GD P T C os ((⟨v,[]⟩,fl)::acc) (st.by o.dst [] ⟨v,[]⟩)
theorem GD.cons {o:Ai}{os:List Ai}{acc:List (De×Rd)}{st:St}{d:De×Rd} (h:Cj P T st.nx o (look st.tm) st.get d) (hg:GD P T C os (d::acc) (st.by o.dst [] d.1)):GD P T C (o::os) acc st:=by
 obtain⟨ds,h1,h2⟩:=hg
 exact⟨d::ds,.cons st o os d ds h h1,by simpa [cN] using h2⟩
theorem xY:∀ (m:Nat) (os:List Ai) (acc:List (De×Rd)) (st:St),DG P T C (gQ T m os acc st)->GD P T C os acc st:=by
 intro m
 induction m with
 |zero=>intro os acc st h;exact h.elim
 |succ m ih=>
  intro os acc st h
  cases os with
  |nil=>exact⟨[],.nil st,by simp only[gQ,DG]at h;simpa [yf] using h⟩
  |cons o os=>
   have jL:(stays o (look st.tm))->DG P T C (gQ T m os (uH::acc) (st.by o.dst [] ⟨.ak [],[]⟩))->GD P T C (o::os) acc st:=by
    intro hs h
    exact GD.cons (d:=uH) (by simp only[Cj,uH];exact .inr ⟨hs,rfl⟩) (ih _ _ _ h)
   cases hg:o.guard with
   |none=>
    simp only[gQ,hg,zw]at h
    cases hc:iy o.op with
    |none=>
     rw[hc]at h
     simp only at h
     cases hd:aW T st.nx o.op o.type (look st.tm) st.get with
     |none=>
      rw[hd]at h
      simp only[ux,aaE]at h
      split at h
      ·rename_i t m' x' ho
       split at h
       ·rename_i r kv hm hx
        obtain⟨ob,y,h1,h2,h3⟩:=h
        refine GD.cons (d:=(⟨y,[]⟩,some [])) ?_ h3
        unfold Cj
        exact .inl ⟨.inl hg,.look t m' x' r kv ob ho hm hx h1 h2 rfl⟩
       ·exact h.elim
      ·exact h.elim
     |some d=>
      rw[hd]at h
      simp only[ux]at h
      refine GD.cons (d:=(d,iZ (look st.tm) o.op)) ?_ (ih _ _ _ h)
      unfold Cj
      simp only
      cases hr:iZ (look st.tm) o.op with
      |none=>exact .inl ⟨.inl hg,.op hc hd⟩
      |some ks=>exact .inl ⟨.inl hg,.op hc (ajB hd hr)⟩
    |some c=>
     rw[hc]at h
     simp only at h
     cases dX:callee (look st.tm) c with
     |none=>rw[dX]at h;exact h.elim
     |some fa=>
      obtain⟨f,args⟩:=fa
      rw[dX]at h
      simp only[zd,DG]at h
      rcases h with ⟨rs,gs,cT,fr0,fr,y,h1,h2,h3,h5,h4⟩|⟨m,ks,aw,fr,y,h1,h2,h3,h5,h4⟩|h
      ·refine GD.cons (d:=(⟨y.imp st.nx,iX rs++(iX gs++iV st.nx fr)⟩,some ((gs++rs).map fun k=>(0,k)))) ?_ h4
       unfold Cj
       exact .inl ⟨.inl hg,.lD rs gs c f args cT fr0 fr y hc dX h1 h2 h3 h5 rfl⟩
      ·refine GD.cons (d:=(⟨y.imp st.nx,iV st.nx fr⟩,some ks)) ?_ h4
       unfold Cj
       exact .inl ⟨.inl hg,.nN m c f args aw fr y hc dX h1 h2 h3 h5 rfl⟩
      obtain⟨v,aw,fl,h1,xp,h4⟩:=h
      refine GD.cons (d:=(⟨v,[]⟩,fl)) ?_ h4
      unfold Cj
      rcases xp with ⟨h2,h3,rfl⟩|⟨rfl,h3,m,h2⟩
      ·exact .inl ⟨.inl hg,.call c f args aw hc dX h1 (pj _ _ h2 (fun _ h=>h)) h3 rfl⟩
      ·exact .inl ⟨.inl hg,.lW m c f args aw hc dX h1 h2 h3 rfl⟩
   |some gw=>
    obtain⟨g,w⟩:=gw
    simp only[gQ,hg]at h
    split at h
    ·rename_i b hb
     cases jx:b==w with
     |true=>
      rw[jx]at h
      simp only[nr]at h
      obtain⟨ds,h1,h2⟩:=ih _ _ _ h
      cases h1 with
      |cons _ _ _ d ds hE hs=>
       refine⟨d::ds,.cons st o os d ds ?_ hs,by simpa [cN] using h2⟩
       have fA:ac1 o (look st.tm):=.inr ⟨g,w,b,hg,hb,jx⟩
       unfold Cj at hE ⊢
       have conv:∀ G,Ck P T st.nx ⟨o.dst,o.op,o.type,none,o.drop⟩ (look st.tm) G d.1->Ck P T st.nx o (look st.tm) G d.1:=by
        rintro G (⟨_,he⟩|⟨⟨g',w',hh,_⟩,_⟩)
        ·refine .inl ⟨fA,?_⟩
         cases he with
         |op hc h=>exact .op hc h
         |look t m x r kv ob ho hm hx hr hl hs=>exact .look t m x r kv ob ho hm hx hr hl hs
         |call c f args aw hc h hp hz hr hs=>exact .call c f args aw hc h hp hz hr hs
         |lW m c f args aw hc h hp hz hr hs=>exact .lW m c f args aw hc h hp hz hr hs
         |lD rs gs c f args cT fr0 fr y hc h hp hz hg bw hd=>exact .lD rs gs c f args cT fr0 fr y hc h hp hz hg bw hd
         |nN m c f args aw fr y hc h hp hz hy hf hd=>exact .nN m c f args aw fr y hc h hp hz hy hf hd
        ·cases hh
       exact conv _ hE
     |false=>
      rw[jx]at h
      simp only[nr]at h
      exact jL ⟨g,w,hg,.inl ⟨b,hb,jx⟩⟩ h
    ·rename_i hb
     exact jL ⟨g,w,hg,.inr hb⟩ h
    ·exact h.elim
theorem F4 {f:FuncId}{args aw sm:List AV}{v:AV}{o:Ai}{os:List Ai}{acc:List (De×Rd)}{st:St} (m:Nat) (hp:An P f aw (fun y=>y=v)) (hz:AV.az st.get args=some sm) (hn:AN sm aw)
  (hr:AV.aD args=[]\/v.cJ=true) (h:DG P T C (gQ T m os ((⟨v,[]⟩,some (AV.aD args))::acc) (st.by o.dst [] ⟨v,[]⟩))):DG P T C (.call f args o os acc st):=
 .inr <| .inr ⟨v,sm,_,hp.nl hn,.inl ⟨hz,hr,rfl⟩,xY m _ _ _ h⟩
theorem Dc {f:FuncId}{args cT:List AV}{fr0 fr:Aj}{y:AV}{o:Ai}{os:List Ai}{acc:List (De×Rd)}{st:St} (m:Nat) (rs gs:List Nat) (hp:AY P f cT fr0 (fun y' aH=>y'=y/\aH=fr))
  (hz:jo gs (only (gP (only st.get ((gs++rs).map fun k=>(0,k)))) (rs.map fun k=>(1,k))) (cF (only (gP (only st.get ((gs++rs).map fun k=>(0,k)))) (rs.map fun k=>(1,k))) 5) (AV.ck 1 args)=some cT/\lF (only st.get ((gs++rs).map fun k=>(0,k))) 0 gs=some fr0) (bw:(decide (gs++rs).Nodup&&decide (gs.length<=16))=true)
  (h:DG P T C (gQ T m os ((⟨y.imp st.nx,iX rs++(iX gs++iV st.nx fr)⟩,some ((gs++rs).map fun k=>(0,k)))::acc) (st.by o.dst [] ⟨y.imp st.nx,iX rs++(iX gs++iV st.nx fr)⟩))):DG P T C (.call f args o os acc st):=
 .inl ⟨rs,gs,cT,fr0,fr,y,hp,hz.1,hz.2,bw,xY m _ _ _ h⟩
theorem Eb {acc:List (De×Rd)}{st:St} (h:C acc st):DG P T C (.done acc st):=h
def jM (ds:List (De×Rd)):List (List (Nat×Nat)×Rd):=ds.map fun d=>(d.1.jb.map fun p=>(p.1,p.2.1),d.2)
def lk (sk:List (List (Nat×Nat)×Rd)):List (De×Rd):=sk.map fun d=>(⟨.ak [],d.1.map fun p=>(p.1,p.2,none)⟩,d.2)
theorem aiD (s t s' t':Sets) (hs:s.map (fun p=>(p.1,p.2.1))=s'.map (fun p=>(p.1,p.2.1))) (ht:t.map (fun p=>(p.1,p.2.1))=t'.map (fun p=>(p.1,p.2.1))):pN s t=pN s' t':=by
 have key:∀ s t:Sets,pN s t=((s.map fun p=>(p.1,p.2.1)).all fun p=>(t.map fun p=>(p.1,p.2.1)).all fun q=>!(p.1==q.1&&p.2==q.2)):=by
  intro s t
  unfold pN
  simp[List.all_map,Function.comp_def]
 rw[key,key,hs,ht]
theorem ahm (r:Rd) (s s':Sets) (hs:s.map (fun p=>(p.1,p.2.1))=s'.map (fun p=>(p.1,p.2.1))):pg r s=pg r s':=by
 have key:∀ s:Sets,pg r s=(match r with
   |none=>(s.map fun p=>(p.1,p.2.1)).isEmpty
   |some ks=>(s.map fun p=>(p.1,p.2.1)).all fun p=>!ks.contains p):=by
  intro s
  cases r with
  |none=>cases s<;>rfl
  |some ks=>simp[pg,List.all_map,Function.comp_def]
 rw[key,key,hs]
theorem agE (ops:List Ai) (befs:List (List Nat)) (ds:List (De×Rd)):calm ops befs ds=calm ops befs (lk (jM ds)):=by
 have dz:∀ i:Nat,(lk (jM ds))[i]?=(ds[i]?).map fun d=>((⟨.ak [],d.1.jb.map fun p=>(p.1,p.2.1,none)⟩:De),d.2):=by
  intro i
  simp[lk,jM,Bz,Function.comp_def]
 have hk:∀ i:Nat,(dk (ds.map (·.1)) i).map (fun p=>(p.1,p.2.1))=(dk ((lk (jM ds)).map (·.1)) i).map (fun p=>(p.1,p.2.1)):=by
  intro i
  unfold dk
  rw[Bz,Bz,dz]
  cases ds[i]? with
  |none=>rfl
  |some d=>simp[Function.comp_def]
 have h1:(lk (jM ds)).length=ds.length:=by simp[lk,jM]
 have h2:oT befs ((lk (jM ds)).map (·.1)) ops.length=oT befs (ds.map (·.1)) ops.length:=by
  unfold oT
  congr 1;funext j;congr 1;funext i
  rw[aiD _ _ _ _ (hk i).symm (hk j).symm]
 unfold calm
 rw[h1,h2]
 congr 1
 congr 1;funext i
 rw[dz]
 cases ops[i]? with
 |none=>rfl
 |some o=>
  cases ds[i]? with
  |none=>rfl
  |some d=>
   simp only[AQ]
   congr 1
   congr 1;funext j
   rw[dz]
   cases ds[j]? with
   |none=>rfl
   |some x=>
    simp only[AQ,Option.getD_some]
    rw[ahm d.2 x.1.jb (x.1.jb.map fun p=>(p.1,p.2.1,none)) (by simp[Function.comp_def])]
theorem ze {ops:List Ai}{befs:List (List Nat)}{ds:List (De×Rd)}{sk:List (List (Nat×Nat)×Rd)} (h1:jM ds=sk) (h2:calm ops befs (lk sk)=true):calm ops befs ds=true:=by
 rw[agE,h1];exact h2
theorem A1 (hT:AG P T) (hm:P.follows .mixedOrders=true) {ops:List Ai}{befs:List (List Nat)}{drop:List Nat}{todo:List It}{st:St} (m:Nat)
  (h:DG P T (fun acc al=>calm ops befs acc.reverse=true/\AK P n Φ todo { al with tm:=cd al.tm drop }) (gQ T m ops [] st)):Ar P n Φ (.draw ops befs drop todo st):=by
 obtain⟨ds,h1,h2,h3⟩:=xY m _ _ _ h
 simp only[List.append_nil,List.reverse_reverse]at h2
 exact FT hT hm ds h1 h2 h3
theorem F0 (hT:AG P T) {f:FuncId}{args aw sm:List AV}{v:AV}{dst:Option Tmp}{drop:List Nat}{todo:List It}{st:St} (m:Nat) (hp:An P f aw (fun y=>y=v)) (hz:AV.az (Heap.get ([]::st.fr::st.low)) args=some sm) (hn:AN sm aw)
  (hr:AV.aD args=[]\/v.cJ=true) (h:Ar P n Φ (run T m todo (st.ga dst drop v [] (st.fr::st.low)))):Ar P n Φ (.call f args dst drop todo st):=by
 have hk:=eQ hT m todo _ h
 rcases hr with hr|hr
 ·exact FV (hp.nl hn) hz hr (by rintro y rfl;exact hk)
 ·exact FR (hp.nl hn) hz (by rintro y rfl;exact hr) (by rintro y rfl;exact hk)
def kE (o:Option (List AV)) (aw:List AV):Prop:=match o with
 |some z=>AN z aw
 |none=>False
theorem akY (z aw:List AV):kE (some z) aw=AN z aw:=rfl
def yOK (o:Option AV) (v:AV):Prop:=match o with
 |some y=>NL y v
 |none=>False
theorem akG (y v:AV):yOK (some y) v=NL y v:=rfl
theorem DV (hT:AG P T) {f:FuncId}{args aw:List AV}{v:AV}{dst:Option Tmp}{drop:List Nat}{todo:List It}{st:St} (m:Nat) (rs:List Nat) (hp:An P f aw (fun y=>y=v)) (hz:kE (AV.cB (only (Heap.get ([]::st.fr::st.low)) (rs.map fun k=>(1,k))) (cF (only (Heap.get ([]::st.fr::st.low)) (rs.map fun k=>(1,k))) 5) args) aw)
  (h:Ar P n Φ (run T m todo (st.ga dst drop v [] (cd st.fr rs::st.low)))):Ar P n Φ (.call f args dst drop todo st):=by
 unfold kE at hz
 split at hz
 ·rename_i z dB
  have hk:=eQ hT m todo _ h
  refine DS (An.take 5 _ (hp.nl hz) dB (by simp)) ?_
  rintro y fr H ⟨rfl,rfl,e⟩
  rw[aaC]at e
  obtain rfl:=(List.cons.inj e).2
  exact hk
 ·exact hz.elim
theorem An.nlr {f:FuncId}{args:List AV}{v:AV} (h:An P f args (fun y=>NL y v)):An P f args (fun y=>y=v):=by
 refine⟨h.1,fun fm w vs h1 h2=>Calls.mono (h.2 fm w vs h1 h2) ?_⟩
 rintro e w' ⟨u,y,fm',h3,h4,h5,h6,h7⟩
 exact⟨u,v,fm',h3,rfl,h5,h4.ok h6,h7⟩
theorem AO {f:List It->St->Ev}{b:Bool}{t t':List It}{s s':St}{ρ:Type}{A B:Option ρ}{r:ρ} (h:(bif b then A else B)=some r) (h1:b=true->A=some r->Ar P n Φ (f t s)) (h2:b=false->B=some r->Ar P n Φ (f t' s')):Ar P n Φ (two f b t s t' s'):=by
 cases b with
 |true=>exact h1 rfl h
 |false=>exact h2 rfl h
theorem DZ {f:List Ai->List (De×Rd)->St->BT}{b:Bool}{os fY:List Ai}{acc fN:List (De×Rd)}{st al:St}{ρ:Type}{A B:Option ρ}{r:ρ} (h:(bif b then A else B)=some r) (h1:b=true->A=some r->DG P T C (f os acc st)) (h2:b=false->B=some r->DG P T C (f fY fN al)):DG P T C (nr f b os acc st fY fN al):=by
 cases b with
 |true=>exact h1 rfl h
 |false=>exact h2 rfl h
theorem Bc {S E R:Type}{body:S->Option (AW S E R)}{k:Nat}{s0:S}{r:AW S E R} (hk:aB body k s0=some r) (hd:S->St) (ex:E->St) {b:SC}{id:Nat}{todo:List It}{st:St} (hw:Ae n st (hd s0))
  (hb:∀ s x (Bk Br:St->Prop),body s=some x->(∀ s' al,x=.next s'->Ae n al (hd s')->Bk al)->(∀ s' al,x=.brk s'->Ae n al (ex s')->Br al)->(∀ v,x=.ret v->r=.ret v)->
   AK P n Φ (.sc b::.back Bk::.aj id::.back Br::todo) (hd s))
  (hx:∀ s',r=.brk s'->AK P n Φ todo (ex s')):Ar P n Φ (.loop b (.aj id::todo) st):=AK.aiJ hk hd ex hw hb hx
theorem Gl (x:AV):NL x x=True:=eq_true (.refl x)
theorem Gm (x:List AV):AN x x=True:=eq_true (.refl x)
theorem EP (hT:AG P T) {f:FuncId}{args aw:List AV}{v:AV}{dst:Option Tmp}{drop:List Nat}{todo:List It}{st:St} (m:Nat) (hp:An P f aw (fun y=>y=v)) (hz:kE (AV.az (Heap.get ([]::st.fr::st.low)) args) aw)
  (hr:(AV.aD args).isEmpty || v.cJ=true) (h:Ar P n Φ (run T m todo (st.ga dst drop v [] (st.fr::st.low)))):Ar P n Φ (.call f args dst drop todo st):=by
 unfold kE at hz
 split at hz
 ·rename_i z dB
  refine F0 hT m hp dB hz ?_ h
  simpa using hr
 ·exact hz.elim
theorem EU {f:FuncId}{args aw:List AV}{v:AV}{o:Ai}{os:List Ai}{acc:List (De×Rd)}{st:St} (m:Nat) (hp:An P f aw (fun y=>y=v)) (hz:kE (AV.az st.get args) aw)
  (hr:(AV.aD args).isEmpty || v.cJ=true) (h:DG P T C (gQ T m os ((⟨v,[]⟩,some (AV.aD args))::acc) (st.by o.dst [] ⟨v,[]⟩))):DG P T C (.call f args o os acc st):=by
 unfold kE at hz
 split at hz
 ·rename_i z dB
  refine F4 m hp dB hz ?_ h
  simpa using hr
 ·exact hz.elim
def wOK (o:Option St) (tm:List (Nat×AV)) (fr:Aj) (low:Heap) (nx nt:Nat):Prop:=match o with
 |some s=>Bw s.tm tm/\Bt s.fr fr/\s.low=low/\s.nx=nx/\s.nt=nt
 |none=>False
theorem akz (s:St) (tm:List (Nat×AV)) (fr:Aj) (low:Heap) (nx nt:Nat):wOK (some s) tm fr low nx nt=(Bw s.tm tm/\Bt s.fr fr/\s.low=low/\s.nx=nx/\s.nt=nt):=rfl
theorem Ae.go {n:Nat}{st:St}{tm:List (Nat×AV)}{fr:Aj}{low:Heap}{nx nt:Nat} (kY ks:List Nat) (bw:(decide ks.Nodup&&decide (ks.length<=nx))=true) (h:wOK (st.norm kY ks nx) tm fr low nx nt):Ae n st ⟨tm,fr,low,nx,nt⟩:=by
 unfold wOK at h
 split at h
 ·rename_i s hs
  simp only[AP,decide_eq_true_eq]at bw
  obtain⟨h1,h2,h3,h4,h5⟩:=h
  refine(Ae.norm hs bw.1 bw.2).trans ?_
  obtain⟨tm0,fr0,alo,nx0,nt0⟩:=s
  simp only at h3 h4 h5
  subst h3 h4 h5
  exact Ae.nl h1 h2
 ·exact h.elim
theorem Gk (x:List (Nat×AV)):Bw x x=True:=eq_true (.refl x)
theorem Gj (x:Aj):Bt x x=True:=eq_true (.refl x)
theorem bind_some {α β:Type}{o:Option α}{f:α->Option β}{r:β} (h:o.bind f=some r):∃ x,o=some x/\f x=some r:=Option.bind_eq_some_iff.1 h
end
mutual
def AV.fz (k:Nat) (b:Ap):AV->Option AV
 |.ptr 0 k' o=>if k'=k then (match b with|.box ys=>some (.aq ys.length [ys] 0 o)|_=>none) else some (.ptr 0 k' o)
 |.ptr (l+1) k' o=>some (.ptr (l+1) k' o)
 |.loc 0 k' e i n g=>if k'=k then (match b with|.arr _ esz es=>if esz=e/\es.length=g/\i+n<=g then some (.sl e ((es.drop i).take n)) else none|_=>none) else some (.loc 0 k' e i n g)
 |.loc (l+1) k' e i n g=>some (.loc (l+1) k' e i n g)
 |.aR 0 k' e i o g=>if k'=k then none else some (.aR 0 k' e i o g)
 |.aR (l+1) k' e i o g=>some (.aR (l+1) k' e i o g)
 |.bd 0 k' e o n=>if k'=k then none else some (.bd 0 k' e o n)
 |.bd (l+1) k' e o n=>some (.bd (l+1) k' e o n)
 |.fn f x y=>match AV.cH k b x,AV.cH k b y with
  |some x,some y=>some (.fn f x y)
  |_,_=>none
 |.bA t v=>(v.fz k b).map (.bA t)
 |.agg cs=>(AV.cH k b cs).map .agg
 |.ak vs=>(AV.cH k b vs).map .ak
 |.bool b=>some (.bool b)
 |.int k n=>some (.int k n)
 |.str s=>some (.str s)
 |.nil=>some .nil
 |.sl e es=>some (.sl e es)
 |.bf=>some .bf
 |.aq e es i o=>some (.aq e es i o)
 |.bo=>some .bo
 |.bp=>some .bp
 |.mp r_=>some (.mp r_)
 |.dead=>some .dead
def AV.cH (k:Nat) (b:Ap):List AV->Option (List AV)
 |[]=>some []
 |x::l=>match x.fz k b,AV.cH k b l with
  |some x,some l=>some (x::l)
  |_,_=>none
end
theorem qX (k:Nat) (b:Ap):∀ (cs ys:List AV),AV.cH k b cs=some ys->ys.length=cs.length/\∀ (i:Nat) (x:AV),cs[i]?=some x->∃ y,ys[i]?=some y/\x.fz k b=some y
 |[],ys,h=>by simp only[AV.cH,oE]at h;subst h;simp
 |x::l,ys,h=>by
  simp only[AV.cH]at h
  split at h
  ·rename_i a c ha hc
   obtain rfl:=oi h
   have ih:=qX k b l c hc
   refine⟨by simp[ih.1],?_⟩
   intro i z hz
   cases i with
   |zero=>simp only[BG,oE]at hz;subst hz;exact⟨a,by simp,ha⟩
   |succ i=>simp only[BE]at hz ⊢;exact ih.2 i z hz
  ·cases h
theorem acX {k:Nat}{b:Ap}{x y:AV} (h:x.fz k b=some y):y.flat=x.flat:=by
 cases x with
 |ptr l k' o=>
  cases l with
  |zero=>
   simp only[AV.fz]at h
   split at h
   ·split at h
    ·obtain rfl:=oi h;rfl
    ·cases h
   ·obtain rfl:=oi h;rfl
  |succ l=>simp only[AV.fz,oE]at h;subst h;rfl
 |loc l k' e i n g=>
  cases l with
  |zero=>
   simp only[AV.fz]at h
   split at h
   ·split at h
    ·split at h
     ·obtain rfl:=oi h;rfl
     ·cases h
    ·cases h
   ·obtain rfl:=oi h;rfl
  |succ l=>simp only[AV.fz,oE]at h;subst h;rfl
 |aR l k' e i o g=>
  cases l with
  |zero=>
   simp only[AV.fz]at h
   split at h
   ·cases h
   ·obtain rfl:=oi h;rfl
  |succ l=>simp only[AV.fz,oE]at h;subst h;rfl
 |bd l k' e o n=>
  cases l with
  |zero=>
   simp only[AV.fz]at h
   split at h
   ·cases h
   ·obtain rfl:=oi h;rfl
  |succ l=>simp only[AV.fz,oE]at h;subst h;rfl
 |fn f a c=>
  simp only[AV.fz]at h
  split at h
  ·obtain rfl:=oi h;rfl
  ·cases h
 |_=>
  first
  |(simp only[AV.fz,oE]at h;subst h;rfl)
  |(simp only[AV.fz,mS]at h;obtain⟨a,_,rfl⟩:=h;rfl)
section
variable [Md] {P:Program}{T:Aw}{N0:Nat}{W0:World}{n:Nat}{fm:FM}{ts:List Ah}{H:Heap}{w:World}
noncomputable def kP (fm:FM) (w:World) (c:Option Nat):FM:=fun b o=>if c=some b then w.cell? ⟨b,o,none⟩ else fm b o
theorem zK (h:HR N0 W0 fm ts H w) (c:Option Nat):AM fm (kP fm w c):=by
 intro b o v hv
 unfold kP
 split
 ·exact h.bL b o v hv
 ·exact hv
theorem HR.fz (h:HR N0 W0 fm ts H w) {k:Nat}{b:Ap} (hk:H.get 0 k=some b) (hz:∀ ys,b=.box ys->AV.az (fun _ _=>none) ys=some ys) {ec:List Ah}{x:AV}{v:Value} (hv:VR fm ec x v):
  ec=ts->∀ {y:AV},x.fz k b=some y->VR (kP fm w (b9 (tb ts 0 k))) ts y v:=by
 have hF:=zK h (b9 (tb ts 0 k))
 have aV:∀ c o u,b9 (tb ts 0 k)=some c->w.cell? ⟨c,o,none⟩=some u->kP fm w (b9 (tb ts 0 k)) c o=some u:=by
  intro c o u hc hu
  unfold kP;rw[if_pos hc];exact hu
 generalize kP fm w (b9 (tb ts 0 k))=fm' at hF aV
 induction hv with
 |bool b=>intro e y hy;simp only[AV.fz,oE]at hy;subst hy;exact .bool _
 |int k n=>intro e y hy;simp only[AV.fz,oE]at hy;subst hy;exact .int _ _
 |str s=>intro e y hy;simp only[AV.fz,oE]at hy;subst hy;exact .str _
 |nil=>intro e y hy;simp only[AV.fz,oE]at hy;subst hy;exact .nil
 |cm e a cap=>intro _ y hy;simp only[AV.fz,oE]at hy;subst hy;exact .cm _ _ _
 |sl es cb off esz cap u cD h1 h2 h3 h4 _=>intro _ y hy;simp only[AV.fz,oE]at hy;subst hy;exact(VR.sl es cb off esz cap u cD h1 h2 h3 h4 (ts:=ts)).mono hF (Ak.refl _)
 |@bW cn l k' esz i n g a cp ht hn ha=>
  rintro rfl y hy
  cases l with
  |zero=>
   simp only[AV.fz]at hy
   split at hy
   ·rename_i e;subst e
    have:=h.aj 0 k' b hk
    rw[ht]at this
    cases this
   ·obtain rfl:=oi hy;exact .bW _ _ _ _ _ _ _ _ ht hn ha
  |succ l=>simp only[AV.fz,oE]at hy;subst hy;exact .bW _ _ _ _ _ _ _ _ ht hn ha
 |@bX cn l k' esz i n g a cp m' c ht ab hn ha=>
  rintro rfl y hy
  cases l with
  |zero=>
   simp only[AV.fz]at hy
   split at hy
   ·rename_i e;subst e
    have hb:=h.aj 0 k' b hk
    rw[ht]at hb
    split at hy
    ·split at hy
     ·rename_i hc
      cases hb with
      |nil et esz=>have:=hc.2.1;simp at this;omega
      |arr et esz es c cap hN h=>have:=hc.2.1;omega
     ·cases hy
    ·cases hy
   ·obtain rfl:=oi hy;exact .bX _ _ _ _ _ _ _ _ _ _ ht ab hn ha
  |succ l=>simp only[AV.fz,oE]at hy;subst hy;exact .bX _ _ _ _ _ _ _ _ _ _ ht ab hn ha
 |@bI cn l k' esz a ht=>
  rintro rfl y hy
  cases l with
  |zero=>
   simp only[AV.fz]at hy
   split at hy
   ·split at hy
    ·split at hy
     ·simp only[List.drop_zero,List.take_zero,oE]at hy;subst hy;exact .cm _ _ _
     ·cases hy
    ·cases hy
   ·obtain rfl:=oi hy;exact .bI _ _ _ _ ht
  |succ l=>simp only[AV.fz,oE]at hy;subst hy;exact .bI _ _ _ _ ht
 |@loc cn l k' esz i n g c cap cp a ht hn bh hc ha=>
  rintro rfl y hy
  cases l with
  |succ l=>simp only[AV.fz,oE]at hy;subst hy;exact .loc _ _ _ _ _ _ _ _ _ _ ht hn bh hc ha
  |zero=>
   simp only[AV.fz]at hy
   split at hy
   ·rename_i e;subst e
    have hb:=h.aj 0 k' b hk
    split at hy
    ·rename_i et aC es
     split at hy
     ·rename_i hh
      obtain⟨he,hlen,bl⟩:=hh
      subst he
      simp only[oE]at hy;subst hy
      rw[ht]at hb
      cases hb with
      |arr et _ es c cap hN hA=>
       obtain⟨cells,c1,c2,c3,c4,c5,c6,c7⟩:=hA
       by_cases hn0:n=0
       ·subst hn0
        simp only[List.take_zero]
        exact .cm _ _ _
       ·have eN:=ha (.inl (by omega))
        subst eN
        have hl:((es.drop i).take n).length=n:=by simp;omega
        have key:∀ (j:Nat) (cc:List AV) (o:Nat) (x:AV),((es.drop i).take n)[j]?=some cc->cc[o]?=some x->∃ u,cells[(i+j)*aC+o]?=some u/\x.flat=true/\VR fm [] x u:=by
         intro j cc o x hj ho
         have mP:es[i+j]?=some cc:=by
          rw[Bx]at hj
          split at hj
          ·rw[BN]at hj;exact hj
          ·cases hj
         have ab:i+j<es.length:=(gS.1 mP).1
         have bR:cc.length=aC:=c5 cc (Ba mP)
         have xo:o<aC:=by rw[<-bR];exact(gS.1 ho).1
         have ao:(i+j)*aC+o<cells.size:=by
          rw[c2]
          have:(i+j+1)*aC<=cap*aC:=Bp _ (by omega)
          rw[Nat.add_mul]at this
          omega
         have tk:=Bg ao
         have:=c7 (i+j) cc o x _ mP ho tk
         exact⟨_,tk,this.1,this.2⟩
        have fp:=VR.sl (fm:=fm') (ts:=cn) ((es.drop i).take n) c (i*aC) aC cp (fun j o=>(cells[(i+j)*aC+o]?).getD default) (by rw[hl];exact⟨bh,by omega⟩)
         (fun cc bR=>c5 cc (BX (BQ bR)))
         (by
          intro j cc o x hj ho
          obtain⟨u,hu,_,_⟩:=key j cc o x hj ho
          refine aV c _ _ (by rw[ht];rfl) ?_
          simp only[World.cell?,c1]
          have:i*aC+(j*aC+o)=(i+j)*aC+o:=by rw[Nat.add_mul];omega
          rw[this,hu]
          simp)
         (fun j cc o x hj ho=>(key j cc o x hj ho).elim fun u hu=>hu.2.1)
         (by
          intro j cc o x hj ho
          obtain⟨u,hu,_,hv⟩:=key j cc o x hj ho
          rw[hu]
          exact hv.mono hF (Ak.refl _))
        rw[hl]at fp
        exact fp
     ·cases hy
    ·cases hy
   ·obtain rfl:=oi hy;exact .loc _ _ _ _ _ _ _ _ _ _ ht hn bh hc ha
 |@bd cn l k' esz o n c cp a ht hn ha=>
  rintro rfl y hy
  cases l with
  |zero=>
   simp only[AV.fz]at hy
   split at hy
   ·cases hy
   ·obtain rfl:=oi hy;exact .bd _ _ _ _ _ _ _ _ ht hn ha
  |succ l=>simp only[AV.fz,oE]at hy;subst hy;exact .bd _ _ _ _ _ _ _ _ ht hn ha
 |bf=>intro e y hy;simp only[AV.fz,oE]at hy;subst hy;exact .bf
 |@ptr cn l k' o c ht=>
  rintro rfl y hy
  cases l with
  |succ l=>simp only[AV.fz,oE]at hy;subst hy;exact .ptr _ _ _ _ ht
  |zero=>
   simp only[AV.fz]at hy
   split at hy
   ·rename_i e;subst e
    have hb:=h.aj 0 k' b hk
    split at hy
    ·rename_i ys
     obtain rfl:=oi hy
     rw[ht]at hb
     cases hb with
     |box c _ hN hB=>
      obtain⟨cells,et,c1,c2,c3⟩:=hB
      have hzz:=hz ys rfl
      have g:=Go.Abs.jk _ _ _ hzz
      have one:∀ (i:Nat) (cc:List AV) (o:Nat) (x:AV),[ys][i]?=some cc->cc[o]?=some x->i=0/\cc=ys/\∃ u,cells[o]?=some u/\x.flat=true/\VR fm [] x u:=by
       intro i cc o x hi ho
       cases i with
       |succ i=>simp at hi
       |zero=>
        simp only[BG,oE]at hi
        subst hi
        have ab:o<cells.size:=by rw[c2];exact(gS.1 ho).1
        have nR:=Bg ab
        have h3:=c3 o x _ ho nR
        obtain⟨y,xH,hy2⟩:=g.2 o x ho
        rw[ho]at xH
        obtain rfl:=oi xH
        have h4:=h.ag (N0:=N0) [] (by simpa using h3.2) (zN H.get _ _ hy2) (by rw[zO _ _ hy2];simp)
        rw[wi]at h4
        exact⟨rfl,rfl,_,nR,h3.1,h4⟩
      have:=VR.aq (fm:=fm') (ts:=cn) [ys] 0 o c 0 ys.length (fun _ o=>(cells[o]?).getD default) (by intro cc bR;simp at bR;rw[bR])
       (by
        intro i cc o x hi ho
        obtain⟨rfl,rfl,u,hu,_,_⟩:=one i cc o x hi ho
        refine aV c _ _ (by rw[ht];rfl) ?_
        simp only[World.cell?,c1,Nat.zero_mul,B6,hu]
        simp)
       (fun i cc o x hi ho=>(one i cc o x hi ho).2.2.elim fun u hu=>hu.2.1)
       (by
        intro i cc o x hi ho
        obtain⟨rfl,rfl,u,hu,_,hv⟩:=one i cc o x hi ho
        rw[hu]
        exact hv.mono hF (Ak.refl _))
      simpa using this
    ·cases hy
   ·obtain rfl:=oi hy;exact .ptr _ _ _ _ ht
 |@dF cn l k' esz i o g a ht=>
  rintro rfl y hy
  cases l with
  |zero=>
   simp only[AV.fz]at hy
   split at hy
   ·cases hy
   ·obtain rfl:=oi hy;exact .dF _ _ _ _ _ _ _ ht
  |succ l=>simp only[AV.fz,oE]at hy;subst hy;exact .dF _ _ _ _ _ _ _ ht
 |@dG cn l k' esz i o g a m' c ht ab=>
  rintro rfl y hy
  cases l with
  |zero=>
   simp only[AV.fz]at hy
   split at hy
   ·cases hy
   ·obtain rfl:=oi hy;exact .dG _ _ _ _ _ _ _ _ _ ht ab
  |succ l=>simp only[AV.fz,oE]at hy;subst hy;exact .dG _ _ _ _ _ _ _ _ _ ht ab
 |@aR cn l k' esz i o g c cap ht=>
  rintro rfl y hy
  cases l with
  |zero=>
   simp only[AV.fz]at hy
   split at hy
   ·cases hy
   ·obtain rfl:=oi hy;exact .aR _ _ _ _ _ _ _ _ ht
  |succ l=>simp only[AV.fz,oE]at hy;subst hy;exact .aR _ _ _ _ _ _ _ _ ht
 |aq es i o cb off esz u h1 h2 h3 h4 _=>intro _ y hy;simp only[AV.fz,oE]at hy;subst hy;exact(VR.aq es i o cb off esz u h1 h2 h3 h4 (ts:=ts)).mono hF (Ak.refl _)
 |bo=>intro e y hy;simp only[AV.fz,oE]at hy;subst hy;exact .bo
 |fn f first cap vf vc h1 h2 _ _ fE eP=>
  rintro rfl y hy
  simp only[AV.fz]at hy
  split at hy
  ·rename_i a c ha hc
   obtain rfl:=oi hy
   have g1:=qX k b _ _ ha
   have g2:=qX k b _ _ hc
   refine .fn f a c vf vc (by rw[g1.1];exact h1) (by rw[g2.1];exact h2) ?_ ?_
   ·intro i x v hx hv
    have hi:i<first.length:=by rw[<-g1.1];exact(gS.1 hx).1
    obtain⟨y,hy,hu⟩:=g1.2 i _ (gG hi)
    rw[hx]at hy;obtain rfl:=oi hy
    exact fE i _ v (gG hi) hv rfl hu
   ·intro i x v hx hv
    have hi:i<cap.length:=by rw[<-g2.1];exact(gS.1 hx).1
    obtain⟨y,hy,hu⟩:=g2.2 i _ (gG hi)
    rw[hx]at hy;obtain rfl:=oi hy
    exact eP i _ v (gG hi) hv rfl hu
  ·cases hy
 |bp=>intro e y hy;simp only[AV.fz,oE]at hy;subst hy;exact .bp
 |mp r_=>intro e y hy;simp only[AV.fz,oE]at hy;subst hy;exact .mp r_
 |bA t x v _ ih=>
  rintro rfl y hy
  simp only[AV.fz,mS]at hy;obtain⟨z,dB,rfl⟩:=hy
  exact .bA t z v (ih rfl dB)
 |agg cs vs h1 h2 _ ih=>
  rintro rfl y hy
  simp only[AV.fz,mS]at hy;obtain⟨z,dB,rfl⟩:=hy
  have g:=qX k b _ _ dB
  refine .agg z vs (by rw[g.1];exact h1) ?_ ?_
  ·intro x hx
   obtain⟨i,hi⟩:=Bl.1 hx
   have ab:i<cs.length:=by rw[<-g.1];exact(gS.1 hi).1
   obtain⟨y,hy,hu⟩:=g.2 i _ (gG ab)
   rw[hi]at hy;obtain rfl:=oi hy
   rw[acX hu]
   exact h2 _ (List.getElem_mem ab)
  ·intro i x v hx hv
   have ab:i<cs.length:=by rw[<-g.1];exact(gS.1 hx).1
   obtain⟨y,hy,hu⟩:=g.2 i _ (gG ab)
   rw[hx]at hy;obtain rfl:=oi hy
   exact ih i _ v (gG ab) hv rfl hu
 |ak xs vs h1 _ ih=>
  rintro rfl y hy
  simp only[AV.fz,mS]at hy;obtain⟨z,dB,rfl⟩:=hy
  have g:=qX k b _ _ dB
  refine .ak z vs (by rw[g.1];exact h1) ?_
  intro i x v hx hv
  have ab:i<xs.length:=by rw[<-g.1];exact(gS.1 hx).1
  obtain⟨y,hy,hu⟩:=g.2 i _ (gG ab)
  rw[hx]at hy;obtain rfl:=oi hy
  exact ih i _ v (gG ab) hv rfl hu
 |dead v=>intro e y hy;simp only[AV.fz,oE]at hy;subst hy;exact .dead v
def sV (k:Nat) (b:Ap):List (Nat×AV)->List (Nat×AV)
 |[]=>[]
 |(t,x)::l=>(t,(x.fz k b).getD x)::sV k b l
def Ap.fz (k:Nat) (b:Ap):Ap->Ap
 |.arr et e es=>.arr et e es
 |.box cs=>.box ((AV.cH k b cs).getD cs)
def nL (k:Nat) (b:Ap):Aj->Aj
 |[]=>[]
 |(j,x)::l=>if j=k then nL k b l else (j,Ap.fz k b x)::nL k b l
theorem adH (k:Nat) (b:Ap):∀ (l:List (Nat×AV)) (t:Nat),look (sV k b l) t=(look l t).map fun x=>(x.fz k b).getD x
 |[],t=>rfl
 |(t0,x)::l,t=>by
  simp only[sV,look]
  split
  ·rfl
  ·exact adH k b l t
theorem aaF (k:Nat) (b:Ap):∀ (l:Aj) (j:Nat),look (nL k b l) j=if j=k then none else (look l j).map (Ap.fz k b)
 |[],j=>by simp[nL,look]
 |(j0,x)::l,j=>by
  simp only[nL]
  by_cases h:j0=k
  ·rw[if_pos h,aaF k b l j]
   by_cases hj:j=k
   ·simp[hj]
   ·have:¬ j0=j:=fun e=>hj (by rw[<-e,h])
    simp[hj,look,this]
  ·rw[if_neg h]
   simp only[look]
   by_cases hj:j0=j
   ·subst hj;simp[h]
   ·simp only[hj,if_false];exact aaF k b l j
theorem HR.ahv (h:HR N0 W0 fm ts H w) {k:Nat}{b:Ap} (hk:H.get 0 k=some b) (hz:∀ ys,b=.box ys->AV.az (fun _ _=>none) ys=some ys) {t:Option TB}{x:Ap} (hx:BR fm ts w N0 t x):BR (kP fm w (b9 (tb ts 0 k))) ts w N0 t (Ap.fz k b x):=by
 have hF:=zK h (b9 (tb ts 0 k))
 cases hx with
 |nil et esz=>exact .nil et esz
 |arr et esz es c cap hN hA=>exact .arr et esz es c cap hN (hA.mono hF rfl)
 |box c cs hN hB=>
  obtain⟨cells,et,c1,c2,c3⟩:=hB
  simp only[Ap.fz]
  cases hf:AV.cH k b cs with
  |none=>exact .box c _ hN ⟨cells,et,c1,c2,fun o x v a b=>⟨(c3 o x v a b).1,(c3 o x v a b).2.mono hF (Ak.refl _)⟩⟩
  |some ys=>
   have g:=qX k b _ _ hf
   refine .box c _ hN ⟨cells,et,c1,by rw[c2];exact g.1.symm,?_⟩
   intro o y v hy hv
   have ab:o<cs.length:=by rw[<-g.1];exact(gS.1 hy).1
   obtain⟨y',gM,hu⟩:=g.2 o _ (gG ab)
   simp only[Option.getD_some]at hy
   rw[hy]at gM;obtain rfl:=oi gM
   have h3:=c3 o _ v (gG ab) hv
   exact⟨by rw[acX hu];exact h3.1,h.fz hk hz h3.2 rfl hu⟩
theorem Ae.fz {n:Nat}{tm:List (Nat×AV)}{fr:Aj}{low:Heap}{nx nt:Nat} (k:Nat) {b:Ap} (hk:look fr k=some b) (hz:∀ ys,b=.box ys->AV.az (fun _ _=>none) ys=some ys):
  Ae n ⟨tm,fr,low,nx,nt⟩ ⟨sV k b tm,nL k b fr,low,nx,nt⟩:=by
 intro N0 W0 a w fm ts h
 have gm:Heap.get (fr::low) 0 k=some b:=by simpa [Heap.get] using hk
 have hF:=zK h.hr (b9 (tb ts 0 k))
 have pt:=h.hr.aj 0 k b gm
 have src:∀ l j x,Heap.get (nL k b fr::low) l j=some x->∃ x0,Heap.get (fr::low) l j=some x0/\¬ (l=0/\j=k)/\(l=0->x=Ap.fz k b x0)/\(l≠0->x=x0):=by
  intro l j x hx
  cases l with
  |zero=>
   simp only[Heap.get,aaF]at hx
   split at hx
   ·cases hx
   ·rename_i hj
    simp only[mS]at hx
    obtain⟨x0,dg,rfl⟩:=hx
    exact⟨x0,dg,fun hh=>hj hh.2,fun _=>rfl,fun hh=>absurd rfl hh⟩
  |succ l=>exact⟨x,hx,fun hh=>absurd hh.1 (by omega),fun hh=>absurd hh (by omega),fun _=>rfl⟩
 refine⟨kP fm w (b9 (tb ts 0 k)),ts,⟨⟨by simpa using h.hr.len,?_,?_,?_,?_,h.hr.bJ,h.hr.size,h.hr.bj⟩,?_,h.nx,h.size,h.cV⟩,⟨⟨hF,?_⟩,Ak.refl _,fun _ _ h=>h⟩⟩
 ·intro l j x hx
  obtain⟨x0,dg,bg,h1,h2⟩:=src l j x hx
  have hb:=h.hr.aj l j x0 dg
  cases l with
  |zero=>
   rw[h1 rfl]
   exact h.hr.ahv gm hz hb
  |succ l=>
   rw[h2 (by omega)]
   exact hb.mono hF (Ak.refl _) (fun _ _=>rfl)
 ·intro l j l' j' x x' c hx eO
  obtain⟨x0,dg,_⟩:=src l j x hx
  obtain⟨x1,kW,_⟩:=src l' j' x' eO
  exact h.hr.inj l j l' j' x0 x1 c dg kW
 ·intro c o v hv
  unfold kP at hv
  split at hv
  ·exact hv
  ·exact h.hr.bL c o v hv
 ·intro l j x c o hx hc
  obtain⟨x0,dg,bg,_⟩:=src l j x hx
  unfold kP
  rw[if_neg]
  ·exact h.hr.dx l j x0 c o dg hc
  ·intro e
   exact bg (h.hr.inj l j 0 k x0 b c dg gm hc e)
 ·intro t x hx
  simp only[adH,mS]at hx
  obtain⟨x0,dg,rfl⟩:=hx
  obtain⟨v,hv,aZ⟩:=h.tm t x0 dg
  refine⟨v,hv,?_⟩
  cases hf:x0.fz k b with
  |none=>exact aZ.mono hF (Ak.refl _)
  |some y=>exact h.hr.fz gm hz aZ rfl hf
 ·intro c o hc
  unfold kP
  rw[if_neg]
  intro e
  have:=(pt.lt e).2
  omega
end
end Go.Abs
namespace Go.Abs
open Go Go.RowKit
abbrev af (x:Int):Int:=IntKind.i64.wrap x
def eI (x:Int):List AV:=[.int .i64 x]
def eB (x:Bool):List AV:=[.bool x]
def ah (x:Int):List AV:=[.int .u8 x]
def eS (x:ByteArray):List AV:=[.str x]
def eL {α:Type} (sz:Nat) (E:α->List AV) (l:List α):List AV:=[.sl sz (l.map E)]
structure A2 (α:Type) where
 x0:α
 x1:α
structure A3 (α:Type) where
 x0:α
 x1:α
 x2:α
structure A4 (α:Type) where
 x0:α
 x1:α
 x2:α
 x3:α
def A2.c {α:Type} (E:α->List AV) (a:A2 α):List AV:=E a.x0++E a.x1
def A3.c {α:Type} (E:α->List AV) (a:A3 α):List AV:=E a.x0++(E a.x1++E a.x2)
def A4.c {α:Type} (E:α->List AV) (a:A4 α):List AV:=E a.x0++(E a.x1++(E a.x2++E a.x3))
def at? {α:Type} (l:List α) (i:Int):Option α:=if 0<=i/\i<l.length then l[i.toNat]? else none
def iN {α:Type} (b:Nat) (l x:List α):Option (List α):=if room (l.length+x.length) b then some (l++x) else none
def ff {α:Type} (l:List α) (lo hi:Int):Option (List α):=if (0<=lo/\lo<=hi)/\hi<=l.length then some ((l.drop lo.toNat).take (hi.toNat - lo.toNat)) else none
def nz? (y:Int):Option Unit:=if y=0 then none else some ()
def mk? (n:Int) (b:Nat):Option Unit:=if (0<=n/\n<=n)/\n*b<=140737488355328/\n<4611686018427387904 then some () else none
section
variable {α:Type}
theorem abA {l:List α}{i:Int}{x:α} (h:at? l i=some x):0<=i/\i<l.length/\l[i.toNat]?=some x:=by
 unfold at? at h
 split at h
 ·rename_i hh;exact⟨hh.1,hh.2,h⟩
 ·cases h
theorem aG {l:List α}{i:Int}{x:α} (h:at? l i=some x):fG i l.length=some i.toNat:=by
 obtain⟨h1,h2,_⟩:=abA h
 simp[fG,h1,h2]
theorem aF {β:Type} (E:α->β) {l:List α}{i:Int}{x:α} (h:at? l i=some x):(l.map E)[i.toNat]?=some (E x):=by
 obtain⟨_,_,h3⟩:=abA h
 simp[h3]
theorem qy {b:Nat}{l x y:List α} (h:iN b l x=some y):room (l.length+x.length) b/\y=l++x:=by
 unfold iN at h
 split at h
 ·rename_i hh;exact⟨hh,(oi h).symm⟩
 ·cases h
theorem ai4 {y:Int}{u:Unit} (h:nz? y=some u):¬ y=0:=by
 unfold nz? at h
 split at h
 ·cases h
 ·assumption
theorem yt {l:List α}{lo hi:Int}{y:List α} (h:ff l lo hi=some y):(0<=lo/\lo<=hi/\hi<=l.length)/\y=(l.drop lo.toNat).take (hi.toNat - lo.toNat):=by
 unfold ff at h
 split at h
 ·rename_i hh;exact⟨⟨hh.1.1,hh.1.2,hh.2⟩,(oi h).symm⟩
 ·cases h
theorem agB {n:Nat}{lo hi:Int}{k k':IntKind} (h:0<=lo/\lo<=hi/\hi<=n):bounds n (some (.int k lo)) (some (.int k' hi))=some (lo.toNat,hi.toNat):=by
 have h1:0<=hi:=by omega
 have h2:lo<=max hi 0:=by omega
 simp[bounds,nD,nE,h1,h2,h.1,h.2.2]
theorem abV {n:Nat}{lo:Int}{k:IntKind} (h:0<=lo/\lo<=n/\(n:Int)<=n):bounds n (some (.int k lo)) none=some (lo.toNat,n):=by
 simp[bounds,nD,nE,h.1,h.2.1]
theorem agA {n:Nat}{hi:Int}{k':IntKind} (h:(0:Int)<=0/\0<=hi/\hi<=n):bounds n none (some (.int k' hi))=some (0,hi.toNat):=by
 simp[bounds,nD,nE,h.2.1,h.2.2]
theorem agz {n:Nat}:bounds n none none=some (0,n):=by simp[bounds,nD,nE]
def iC {α:Type} (b:Nat) (l:List α) (x:α):Option (List α):=iN b l [x]
theorem ajx {b:Nat}{l y:List α}{x:α} (h:iC b l x=some y):room (l.length+1) b:=by
 have:=(qy h).1;simpa using this
theorem ajw {β:Type} (E:α->β) {b:Nat}{l y:List α}{x:α} (h:iC b l x=some y):l.map E++[E x]=y.map E:=by
 rw[(qy h).2];simp
theorem ad4 {b:Nat}{l y:List α}{x:α} (h:iC b l x=some y):y.length=l.length+1:=by
 rw[(qy h).2];simp
theorem ajy {β:Type} (E:α->β) {b:Nat}{l y:List α}{x:α} (h:iC b l x=some y):(y.map E).take (l.length+1)=y.map E:=by
 rw[Cn];simp[ad4 h]
theorem af1 {b:Nat}{l y x:List α} (h:iN b l x=some y):room (l.length+x.length) b:=(qy h).1
theorem afZ {β:Type} (E:α->β) {b:Nat}{l y x:List α} (h:iN b l x=some y):l.map E++x.map E=y.map E:=by
 rw[(qy h).2];simp
theorem abw {b:Nat}{l y x:List α} (h:iN b l x=some y):y.length=l.length+x.length:=by
 rw[(qy h).2];simp
theorem af2 {β:Type} (E:α->β) {b:Nat}{l y x:List α} (h:iN b l x=some y):(y.map E).take (l.length+x.length)=y.map E:=by
 rw[Cn];simp[abw h]
def nh (n b:Nat):Option Unit:=if room n b then some () else none
theorem uS {n b:Nat}{u:Unit} (h:nh n b=some u):room n b:=by
 unfold nh at h
 split at h
 ·assumption
 ·cases h
def fZ {α:Type} (l:List α) (i:Int) (x:α):Option (List α):=if 0<=i/\i<l.length then some (l.set i.toNat x) else none
theorem p4 {β:Type} (E:α->β) {l y:List α}{i:Int}{x:α} (h:fZ l i x=some y):(l.map E).set i.toNat (E x)=y.map E:=by
 unfold fZ at h
 split at h
 ·rw[<-oi h,List.map_set]
 ·cases h
theorem ni {l y:List α}{i:Int}{x:α} (h:fZ l i x=some y):y.length=l.length:=by
 unfold fZ at h
 split at h
 ·rw[<-oi h,List.length_set]
 ·cases h
theorem p7 {β:Type} (E:α->β) {l y:List α}{i:Int}{x:α} (h:fZ l i x=some y):(y.map E).take l.length=y.map E:=by
 rw[Cn];simp[ni h]
theorem akl {l:List α}{lo hi:Int}{y:List α}{k k':IntKind} (h:ff l lo hi=some y):bounds l.length (some (.int k lo)) (some (.int k' hi))=some (lo.toNat,hi.toNat):=agB (yt h).1
theorem yp {l:List α}{lo:Int}{y:List α}{k:IntKind} (h:ff l lo l.length=some y):bounds l.length (some (.int k lo)) none=some (lo.toNat,l.length):=abV (yt h).1
theorem rY {l:List α}{hi:Int}{y:List α}{k:IntKind} (h:ff l 0 hi=some y):bounds l.length none (some (.int k hi))=some (0,hi.toNat):=agA (yt h).1
theorem aa8 {β:Type} (E:α->β) {l:List α}{lo hi:Int}{y:List α} (h:ff l lo hi=some y):((l.map E).drop lo.toNat).take (hi.toNat - lo.toNat)=y.map E:=by
 rw[(yt h).2,List.map_take,List.map_drop]
theorem aeA {β:Type} (E:α->β) {l:List α}{lo:Int}{y:List α} (h:ff l lo l.length=some y):((l.map E).drop lo.toNat).take (l.length - lo.toNat)=y.map E:=by
 have:=aa8 E h;simpa using this
theorem yr {β:Type} (E:α->β) {l:List α}{hi:Int}{y:List α} (h:ff l 0 hi=some y):((l.map E).drop 0).take (hi.toNat - 0)=y.map E:=by
 have:=aa8 E h;simpa using this
def rD (n:Nat) (lo:Int):Option Unit:=if 0<=lo/\lo<=n then some () else none
theorem aiK {n:Nat}{lo:Int}{k:IntKind}{u:Unit} (e:rD n lo=some u):bounds n (some (.int k lo)) none=some (lo.toNat,n):=by
 unfold rD at e
 split at e
 ·rename_i h;exact abV ⟨h.1,h.2,Int.le_refl _⟩
 ·cases e
theorem aiL {n:Nat}{lo:Int}{u:Unit} (e:rD n lo=some u):lo.toNat+(n - lo.toNat)<=n:=by
 unfold rD at e
 split at e
 ·omega
 ·cases e
theorem vZ {β:Type} (E:α->β) (l:List α) (a m:Nat):((l.map E).drop a).take m=((l.drop a).take m).map E:=by
 rw[List.map_take,List.map_drop]
theorem vY {β:Type} (E:α->β) (l:List α) (m:Nat):(l.map E).take m=(l.take m).map E:=by
 rw[List.map_take]
theorem aaJ {n:Int}{b:Nat}{u:Unit} (h:mk? n b=some u):(0<=n/\n<=n)/\n*b<=140737488355328/\n<4611686018427387904:=by
 unfold mk? at h
 split at h
 ·assumption
 ·cases h
theorem akn {β:Type} (E:α->β) (l:List α):(l.map E).take l.length=l.map E:=by
 rw[Cn (by simp)]
end
structure BK (cap:List AV):Prop where
 sh:∀ d,AV.ck d cap=cap
 ag:∀ G,AV.az G cap=some cap
 br:∀ G F,AV.cB G F cap=some cap
 refs:AV.aD cap=[]
 imp:∀ k,AV.fF k cap=cap
 aE:∀ ks,AV.cI ks cap=some cap
 un:∀ d,AV.eD d cap=some cap
theorem aa3 (d:Nat):∀ a b:List AV,AV.ck d (a++b)=AV.ck d a++AV.ck d b
 |[],b=>rfl
 |x::a,b=>by simp only[A8,AV.ck,aa3 d a b]
section
variable {P:Program}{T:Aw}{n:Nat}{Φ:Exit->St->Prop}
theorem Ad {rs:List ResultVar}{st:St}{v:AV} (h0:st.low=[]) (h1:yOK ((fb T st rs).bind (fun xs=>(bC xs).ag st.get)) v):Ar P n (Cv T rs fun y=>NL y v) (.fin .ret st):=by
 unfold yOK at h1
 split at h1
 ·rename_i y hy
  obtain⟨xs,h3,h4⟩:=Option.bind_eq_some_iff.1 hy
  exact⟨h0,xs,y,h3,h4,h1⟩
 ·exact h1.elim
theorem Aq {B:St->Prop}{st:St} (h:B st):Ar P n Φ (.back B st):=h
end
attribute [go_sem] gQ zw aiZ agC akq akp ri iZ xS iA pO Int.reduceEq Int.reduceLT Int.reduceLE List.set_cons_zero List.set_cons_succ List.replicate_succ List.replicate_zero CF Nat.zero_lt_succ Bool.not_not sV nL AV.fz AV.cH Ap.fz Option.getD_some Option.getD_none Nat.sub_zero rK pU jd sL jo sW lE lF gP iX iV AV.br AV.cB cF only List.contains_cons List.contains_nil decide_true decide_false Bool.or_true Bool.or_false Bool.and_true Bb Bool.and_false Bool.false_and Prod.mk.injEq agz akn aa3 akz akY akG Gl Gm Gk Gj List.isEmpty_nil List.isEmpty_cons Bool.true_or Bool.false_or eI eB ah eS eL A2.c A3.c A4.c St.norm pY iD AV.aE AV.cI nf idx Ap.aE B6 Nat.add_zero wa List.reverse_cons List.reverse_nil C3
section
variable [Md] {P:Program}{T:Aw}{n:Nat}{Φ:Exit->St->Prop}
def j3 (o:Option (List AV)) (f:Option Aj) (cT:List AV) (fr0:Aj):Prop:=o=some cT/\f=some fr0
theorem CP (hT:AG P T) {f:FuncId}{args cT:List AV}{fr0:Aj}{y:AV}{fr:Aj}{dst:Option Tmp}{drop:List Nat}{todo:List It}{st:St} (m:Nat) (rs gs:List Nat) (hp:AY P f cT fr0 (fun y' aH=>y'=y/\aH=fr))
  (hz:j3 (jo gs (only (Heap.get ([]::st.fr::st.low)) (rs.map fun k=>(1,k))) (cF (only (Heap.get ([]::st.fr::st.low)) (rs.map fun k=>(1,k))) 5) args) (lE (cd st.fr rs) 0 gs) cT fr0) (bw:(decide gs.Nodup&&decide (gs.length<=16))=true)
  (h:Ar P n Φ (run T m todo (st.ga dst drop y fr (cd (cd st.fr rs) gs::st.low)))):Ar P n Φ (.call f args dst drop todo st):=by
 have hk:=eQ hT m todo _ h
 refine DS (AY.used 5 rs gs hp hz.1 hz.2 bw) ?_
 rintro y' aH H' ⟨⟨rfl,rfl⟩,rfl⟩
 exact hk
theorem AY.own {f:FuncId}{args:List AV}{fr0:Aj}{sz et:Nat}{ls:List (List AV)}
  (hp:AY P f args fr0 (fun y fr=>∃ m g es,y=.loc 0 0 sz 0 m g/\fr=[(0,.arr et sz es)]/\es.length=g/\m<=g/\es.take m=ls)):
  AY P f args fr0 (fun y fr=>y=.loc 0 0 sz 0 ls.length ls.length/\fr=[(0,.arr et sz ls)]):=by
 refine⟨hp.1,fun H N0 W0 fm t ts w vs hH ht hv=>Calls.mono (hp.2 H N0 W0 fm t ts w vs hH ht hv) ?_⟩
 rintro e w' ⟨v,y,aH,fm',t',ts',rfl,⟨m,g,es,rfl,rfl,hg,hm,nY⟩,bu,aZ,bz,jC,bx,il⟩
 have hlen:ls.length=m:=by rw[<-nY,A6];omega
 have hb:=bu.aj 0 0 _ (show Heap.get ([(0,Ap.arr et sz es)]::H) 0 0=some (.arr et sz es) by rfl)
 obtain⟨x,kW,xG,hx3⟩:∃ x:TB,BR fm' [] w' N0 (some x) (.arr et sz ls)/\b9 (some x)=b9 (tb (t'::ts') 0 0)/\∀ cn:List Ah,tb cn 0 0=some x->VR fm' cn (.loc 0 0 sz 0 ls.length ls.length) v:=by
  generalize gL:tb (t'::ts') 0 0=tt at hb
  cases hb with
  |nil=>
   simp at nY
   subst nY
   refine⟨.arr 0 none,.nil _ _,rfl,?_⟩
   intro cn h1
   cases aZ with
   |bW _ _ _ _ _ _ a cp h hn ha=>rw[gL]at h;cases h
   |bX _ _ _ _ _ _ a cp m' c h ab hn ha=>rw[gL]at h;cases h;simp at ab
   |bI _ _ _ a h=>exact .bI _ _ _ _ h1
   |loc _ _ _ _ _ _ c cap cp a h bl bh bR ha=>rw[gL]at h;cases h
  |arr _ _ _ c cap hN hA=>
   obtain⟨cells,c1,c2,c3,c4,c5,c6,c7⟩:=hA
   refine⟨.arr ls.length (some (c,cap)),.arr et sz ls c cap hN ⟨cells,c1,c2,by omega,c4,?_,c6,?_⟩,rfl,?_⟩
   ·rw[<-nY];exact fun d hd=>c5 d (BQ hd)
   ·intro i cc o x v hi ho hc
    rw[<-nY,Bx]at hi
    split at hi
    ·exact c7 i cc o x v hi ho hc
    ·cases hi
   ·intro cn h1
    cases aZ with
    |bW _ _ _ _ _ _ a cp h hn ha=>rw[gL]at h;cases h
    |bX _ _ _ _ _ _ a cp m' c h ab hn ha=>
     rw[gL]at h
     simp only[oE,TB.arr.injEq]at h
     omega
    |bI _ _ _ a h=>rw[gL]at h;simp at h
    |loc _ _ _ _ _ _ c' agH cp a h bl bh bR ha=>
     rw[gL]at h
     simp only[oE,TB.arr.injEq,Prod.mk.injEq]at h
     obtain⟨_,rfl,rfl⟩:=h
     rw[hlen]at h1 ⊢
     exact .loc _ _ _ _ _ _ c cap cp a h1 (by omega) bh bR ha
 have src:∀ l k b,Heap.get ([(0,Ap.arr et sz ls)]::H) l k=some b->(l=0/\k=0/\b=.arr et sz ls)\/(l≠0/\Heap.get ([(0,Ap.arr et sz es)]::H) l k=some b):=by
  intro l k b hg
  cases l with
  |zero=>
   simp only[Heap.get,look]at hg
   split at hg
   ·rename_i e;exact .inl ⟨rfl,e.symm,(oi hg).symm⟩
   ·cases hg
  |succ l=>exact .inr ⟨by omega,by simpa [Heap.get] using hg⟩
 have adR:Heap.get ([(0,Ap.arr et sz es)]::H) 0 0=some (.arr et sz es):=rfl
 have hT:tb ((fun k=>if k=0 then some x else none)::ts') 0 0=some x:=rfl
 refine⟨v,_,_,fm',fun k=>if k=0 then some x else none,ts',rfl,⟨rfl,rfl⟩,⟨by have:=bu.len;simpa using this,?_,?_,bu.bL,?_,bu.bJ,bu.size,bu.bj⟩,hx3 _ hT,bz,jC,bx,fun k hk=>by show (if k=0 then some x else none)=none;rw[if_neg (by omega)]⟩
 ·intro l k b hg
  rcases src l k b hg with ⟨rfl,rfl,rfl⟩|⟨hl,bS⟩
  ·rw[hT]
   exact kW.mono (AM.refl _) (Ak.nil _) (fun _ _=>rfl)
  ·obtain⟨l,rfl⟩:∃ q,l=q+1:=⟨l - 1,by omega⟩
   have:=bu.aj (l+1) k b bS
   simpa [tb] using this
 ·intro l1 k1 l2 k2 b1 b2 c g1 g2 t1 t2
  have conv:∀ l k b c,Heap.get ([(0,Ap.arr et sz ls)]::H) l k=some b->b9 (tb ((fun k=>if k=0 then some x else none)::ts') l k)=some c->∃ b',Heap.get ([(0,Ap.arr et sz es)]::H) l k=some b'/\b9 (tb (t'::ts') l k)=some c:=by
   intro l k b c g t
   rcases src l k b g with ⟨rfl,rfl,rfl⟩|⟨hl,bS⟩
   ·rw[hT,xG]at t;exact⟨_,adR,t⟩
   ·obtain⟨l,rfl⟩:∃ q,l=q+1:=⟨l - 1,by omega⟩
    exact⟨b,bS,by simpa [tb] using t⟩
  obtain⟨b1',g1',t1'⟩:=conv l1 k1 b1 c g1 t1
  obtain⟨b2',g2',t2'⟩:=conv l2 k2 b2 c g2 t2
  exact bu.inj l1 k1 l2 k2 b1' b2' c g1' g2' t1' t2'
 ·intro l k b c o g t
  rcases src l k b g with ⟨rfl,rfl,rfl⟩|⟨hl,bS⟩
  ·rw[hT,xG]at t;exact bu.dx 0 0 _ c o adR t
  ·obtain⟨l,rfl⟩:∃ q,l=q+1:=⟨l - 1,by omega⟩
   exact bu.dx (l+1) k b c o bS (by simpa [tb] using t)
def lZ (fr:Aj) (sz et:Nat) (ls:List (List AV)):Option AV->Prop
 |some (.loc 0 k sz' 0 m g)=>sz'=sz/\(match look fr k with
  |some (.arr mE yu es)=>mE=et/\yu=sz/\es.length=g/\m<=g/\es.take m=ls
  |_=>False)
 |_=>False
theorem Cx {rs:List ResultVar}{H:Heap}{st:St}{sz et:Nat}{ls:List (List AV)} (h0:st.low=H) (h1:lZ st.fr sz et ls ((fb T st rs).map bC)):
  Ar P n (Ed T rs H (fun y fr=>∃ m g es,y=.loc 0 0 sz 0 m g/\fr=[(0,.arr et sz es)]/\es.length=g/\m<=g/\es.take m=ls)) (.fin .ret st):=by
 unfold lZ at h1
 split at h1
 ·rename_i k sz' m g hr
  rw[mS]at hr
  obtain⟨xs,h2,h3⟩:=hr
  obtain⟨rfl,h4⟩:=h1
  split at h4
  ·rename_i mE yu es hk
   obtain⟨rfl,rfl,h5,h6,h7⟩:=h4
   refine⟨xs,h2,?_⟩
   rw[h3]
   exact .own [k] (.loc 0 0 yu 0 m g) [(0,.arr mE yu es)] (by simp) (by simp) (by simp[AV.aE,nf,idx]) (by simp[iD,hk,Ap.aE]) ⟨h0,m,g,es,rfl,rfl,h5,h6,h7⟩
  ·exact h4.elim
 ·exact h1.elim
end
attribute [go_sem] CZ
section
variable [Md] {P:Program}{T:Aw}{n:Nat}{Φ:Exit->St->Prop}
end
variable [Md]
def ac3 (o:Option AV) (f:Option Aj) (y:AV) (fr:Aj):Prop:=o=some y/\f=some fr
theorem FY {P:Program}{T:Aw}{n:Nat}{rs:List ResultVar}{H:Heap}{st:St}{e:Exit}{y:AV}{fr:Aj} (ks:List Nat) (he:e=.ret\/e=.normal) (h0:st.low=H) (hn:(decide ks.Nodup&&decide (ks.length<=16))=true)
  (h1:ac3 ((fb T st rs).bind fun xs=>(bC xs).aE ks) (iD ks st.fr 0 ks) y fr):Ar P n (Ed T rs H (fun y' aH=>y'=y/\aH=fr)) (.fin e st):=by
 obtain⟨h1,h2⟩:=h1
 obtain⟨xs,h3,h4⟩:=Option.bind_eq_some_iff.1 h1
 simp only[AP,decide_eq_true_eq]at hn
 have:∃ xs,fb T st rs=some xs/\CU (fun y' aH H'=>H'=H/\y'=y/\aH=fr) (bC xs) st:=
  ⟨xs,h3,.own ks y fr hn.1 hn.2 h4 h2 ⟨h0,rfl,rfl⟩⟩
 rcases he with rfl|rfl<;>exact this
end Go.Abs
namespace Go.Abs
attribute [go_sem] List.all_nil List.all_cons List.map_replicate
end Go.Abs
namespace Go.Abs
open Go Go.RowKit
def Reads (B:Nat) (P:Program) (t:TypeId) {α:Type} (E:α->List AV) (Q:α->Prop):Prop:=
 ∀ (w:World) (H:Type) (enc:TypeId×Value->H) (fuel:Nat) (cs:List Value) (x:DataW H×List MemPlace),
  DataW.trod enc P w 0 (fun _=>true) true fuel t cs=some x->(∀ n∈x.1.weights P t,n<=B)->∃ a,Q a/\Am (gE w) [] (E a) cs/\(∀ y∈E a,y.flat=true)
def m0 (n:Int):Prop:=-9223372036854775808<=n/\n<=9223372036854775807
section
variable {B:Nat}{P:Program}{t:TypeId}
theorem Am.one {fm:FM}{ts:List Ah}{x:AV}{v:Value} (h:VR fm ts x v):Am fm ts [x] [v]:=by
 refine⟨rfl,?_⟩
 intro i a b h1 h2
 cases i with
 |zero=>cases h1;cases h2;exact h
 |succ i=>simp at h1
theorem Reads.int (ht:P.underlying t=some (.int .i64)):Reads B P t eI m0:=by
 intro w H enc fuel cs x h ao
 cases fuel with
 |zero=>simp[DataW.trod]at h
 |succ n=>
  rw[DataW.trod_step]at h
  unfold DataW.trodStep at h
  rw[ht]at h
  split at h
  case h_2 k k' m e=>
   cases e
   split at h
   ·rename_i hk
    obtain⟨rfl,hw⟩:=hk
    refine⟨m,?_,Am.one (.int _ _),by simp[eI,AV.flat]⟩
    simpa [Lit.wf,IntKind.min,IntKind.max,IntKind.signed,IntKind.bits,m0] using hw
   ·cases h
  all_goals first|(cases h;done)|(rename_i e;cases e;done)
theorem Reads.string (ht:P.underlying t=some .string):Reads B P t eS (fun s=>s.size<=Go.maxLen):=by
 intro w H enc fuel cs x h ao
 cases fuel with
 |zero=>simp[DataW.trod]at h
 |succ n=>
  rw[DataW.trod_step]at h
  unfold DataW.trodStep at h
  rw[ht]at h
  split at h
  case h_4 s e=>
   split at h
   ·rename_i hk
    exact⟨s,hk,Am.one (.str _),by simp[eS,AV.flat]⟩
   ·cases h
  all_goals first|(cases h;done)|(rename_i e;cases e;done)
theorem zg {w:World}{a:Addr}{n:Nat}{cs:List Value} (h:w.cells? 0 a n=some cs):cs.length=n/\∀ o,o<n->∃ v,cs[o]?=some v/\w.cell? (a.add o)=some v:=by
 unfold World.cells? at h
 rw[if_pos (Nat.zero_le _)]at h
 have hl:cs.length=n:=by simpa using mapM_some_length h
 refine⟨hl,fun o ho=>?_⟩
 have hg:=mapM_some_get h o o (by simp[ho])
 have:o<cs.length:=by omega
 rw[gG this]at hg ⊢
 exact⟨_,rfl,hg⟩
theorem aeV {H:Type}{e:TypeId}:∀ {ds:List (DataW H)}{d:DataW H},d∈ds->∀ n∈d.weights P e,n∈DataW.weightsAll P e ds
 |d0::ds,d,h,n,hn=>by
  simp only[DataW.weightsAll,AZ]
  rcases BA.1 h with rfl|h
  ·exact .inl hn
  ·exact .inr (aeV h n hn)
theorem Reads.slice {α:Type}{e:TypeId}{sz bt:Nat}{E:α->List AV}{Q:α->Prop} (ht:P.underlying t=some (.slice e)) (hs:P.cellsOf e=sz) (hbt:P.bytesOf e=bt) (h0:0<sz) (he:Reads B P e E Q):
  Reads B P t (eL sz E) (fun l=>l.length<=Go.maxLen/\l.length*bt<=B/\∀ a∈l,Q a):=by
 intro w H enc fuel cs x h ao
 cases fuel with
 |zero=>simp[DataW.trod]at h
 |succ n=>
  rw[DataW.trod_step]at h
  unfold DataW.trodStep at h
  rw[ht]at h
  split at h
  case h_7 e2 hq=>exact⟨[],⟨by simp,by simp,by simp⟩,Am.one (.cm _ _ _),by simp[eL,AV.flat]⟩
  case h_8 e2 a len cap hq2=>
   cases hq2
   simp only at h
   split at h
   ·rename_i hc
    simp only[mS,Option.bind_eq_some_iff]at h
    obtain⟨elems,en,rest,_,rfl⟩:=h
    simp only[DataW.weights,ht]at ao
    have hlen:elems.length=len:=by simpa using mapM_some_length en
    have each:∀ i,i<len->∃ b:α,Q b/\∃ cs',w.cells? 0 (a.add (i*P.cellsOf e)) (P.cellsOf e)=some cs'/\Am (gE w) [] (E b) cs'/\∀ y∈E b,y.flat=true:=by
     intro i hi
     have hg:=mapM_some_get en i i (by simp[hi])
     have ab:i<elems.length:=by omega
     rw[gG ab,Option.bind_eq_some_iff]at hg
     obtain⟨cs',h1,h2⟩:=hg
     obtain⟨b,hq,hv,hf⟩:=he w H enc n cs' _ h2 (fun m hm=>ao m (by
      simp only[BA,AZ]
      exact .inr (.inl (aeV (List.mem_map.2 ⟨elems[i],List.getElem_mem ab,rfl⟩) m hm))))
     exact⟨b,hq,cs',h1,hv,hf⟩
    have all:∀ m,m<=len->∃ l:List α,l.length=m/\∀ i (hi:i<l.length),Q l[i]/\∃ cs',w.cells? 0 (a.add (i*P.cellsOf e)) (P.cellsOf e)=some cs'/\Am (gE w) [] (E l[i]) cs'/\∀ y∈E l[i],y.flat=true:=by
     intro m
     induction m with
     |zero=>exact fun _=>⟨[],rfl,fun i hi=>by simp at hi⟩
     |succ m ih=>
      intro hm
      obtain⟨l,hl,h1⟩:=ih (by omega)
      obtain⟨b,hb⟩:=each m (by omega)
      refine⟨l++[b],by simp[hl],fun i hi=>?_⟩
      by_cases him:i<l.length
      ·rw[List.getElem_append_left him];exact h1 i him
      ·have:i=m:=by simp at hi;omega
       subst this
       have cg:(l++[b])[i]=b:=by
        rw[List.getElem_append_right (by omega)];simp[hl]
       rw[cg]
       exact⟨hb.1,hb.2⟩
    obtain⟨l,hl,ju⟩:=all len (A7 _)
    have xc:l.length*bt<=B:=by
     have h1:=ao _ (List.mem_cons_self ..)
     simp only[Bh]at h1
     rw[hbt]at h1
     have h2:l.length*bt<=(elems.length+rest.length)*bt:=Bp _ (by omega)
     omega
    refine⟨l,⟨by rw[hl];omega,xc,?_⟩,?_,by simp[eL,AV.flat]⟩
    ·intro b hb
     obtain⟨i,hi,rfl⟩:=List.getElem_of_mem hb
     exact(ju i hi).1
    ·by_cases hz:len=0
     ·subst hz
      have:l=[]:=List.eq_nil_of_length_eq_zero hl
      subst this
      exact Am.one (.cm _ _ _)
     ·
      have n7:a.spot=none:=by
       obtain⟨_,cs',h1,_,_⟩:=ju 0 (by omega)
       obtain⟨_,h3⟩:=zg h1
       obtain⟨v,_,h4⟩:=h3 0 (by omega)
       simp only[Nat.zero_mul,Addr.add,if_true]at h4
       unfold World.cell? at h4
       split at h4
       ·split at h4
        ·cases h4
        ·rename_i hh;simpa using hh
       ·cases h4
      have ahB:∀ k,a.add k=⟨a.block,a.off+k,none⟩:=by
       intro k
       unfold Addr.add
       split
       ·rename_i h;subst h;obtain⟨b,o,s⟩:=a;simp only at n7;subst n7;rfl
       ·rfl
      have aV:∀ i (hi:i<l.length) o x,(E l[i])[o]?=some x->∃ v,w.cell? ⟨a.block,a.off+(i*sz+o),none⟩=some v/\VR (gE w) [] x v/\x.flat=true:=by
       intro i hi o y hy
       obtain⟨_,cs',h1,h2,h3⟩:=ju i hi
       obtain⟨h4,h5⟩:=zg h1
       have ho:o<P.cellsOf e:=by
        rw[<-h4,<-h2.1];exact(gS.1 hy).1
       obtain⟨v,h6,h7⟩:=h5 o ho
       refine⟨v,?_,h2.2 o y v hy h6,h3 y (Ba hy)⟩
       rw[ahB]at h7
       have:Addr.add ⟨a.block,a.off+i*P.cellsOf e,none⟩ o=⟨a.block,a.off+(i*sz+o),none⟩:=by
        unfold Addr.add
        split
        ·rename_i h;subst h;rw[hs];rfl
        ·simp only[Addr.mk.injEq,true_and,and_true];rw[hs];omega
       rwa [this]at h7
      have ha:a=⟨a.block,a.off,none⟩:=by obtain⟨b,o,s⟩:=a;simp only at n7;subst n7;rfl
      have ah2:(l.map E).length=len:=by simp[hl]
      have key:VR (gE w) [] (.sl sz (l.map E)) (.slice (some ⟨a.block,a.off,none⟩) (l.map E).length cap):=by
       refine .sl (l.map E) a.block a.off sz cap (fun i o=>(w.cell? ⟨a.block,a.off+(i*sz+o),none⟩).getD default) ⟨by omega,by omega⟩ ?_ ?_ ?_ ?_
       ·intro c hc
        simp only[List.mem_map]at hc
        obtain⟨b,hb,rfl⟩:=hc
        obtain⟨i,hi,rfl⟩:=List.getElem_of_mem hb
        obtain⟨_,cs',h1,h2,_⟩:=ju i hi
        rw[h2.1,(zg h1).1,hs]
       all_goals
        intro i c o y h1 h2
        simp only[Bz,mS]at h1
        obtain⟨b,h3,rfl⟩:=h1
        obtain⟨hi,rfl⟩:=gS.1 h3
        obtain⟨v,h4,h5,h6⟩:=aV i hi o y h2
       ·show w.cell? _=_
        rw[h4];rfl
       ·exact h6
       ·simp only[h4,Option.getD_some];exact h5
      rw[ah2,<-ha]at key
      exact Am.one key
   ·cases h
  all_goals first|(cases h;done)|(rename_i e;cases e;done)
def BF (B:Nat) (P:Program) (l:List (Nat×TypeId)) (off tot:Nat) {α:Type} (E:α->List AV) (Q:α->Prop):Prop:=
 ∀ (w:World) (H:Type) (enc:TypeId×Value->H) (fuel:Nat) (cs:List Value) (xs:List (DataW H×List MemPlace)),cs.length=tot->
  l.mapM (fun f=>DataW.trod enc P w 0 (fun _=>true) true fuel f.2 ((cs.drop f.1).take (P.cellsOf f.2)))=some xs->(∀ n∈DataW.weightsEach P (l.map (·.2)) (xs.map (·.1)),n<=B)->∃ a,Q a/\Am (gE w) [] (E a) (cs.drop off)/\(∀ y∈E a,y.flat=true)
theorem BF.nil {off tot:Nat} (h:tot<=off):BF B P [] off tot (fun _:Unit=>[]) (fun _=>True):=by
 intro w H enc fuel cs xs hl _ _
 refine⟨(),trivial,⟨?_,?_⟩,by simp⟩
 ·simp;omega
 ·intro i x v h1;simp at h1
theorem BF.cons {α β:Type}{f:Nat×TypeId}{l:List (Nat×TypeId)}{off sz off' tot:Nat}{E:α->List AV}{Q:α->Prop}{E':β->List AV}{Q':β->Prop} (ho:f.1=off) (hs:P.cellsOf f.2=sz) (n4:off+sz=off') (hr:Reads B P f.2 E Q) (hl:BF B P l off' tot E' Q'):
  BF B P (f::l) off tot (fun p:α×β=>E p.1++E' p.2) (fun p=>Q p.1/\Q' p.2):=by
 intro w H enc fuel cs xs hc h ao
 rw[List.mapM_cons]at h
 simp only[Option.pure_def,Option.bind_eq_bind,Option.bind_eq_some_iff]at h
 obtain⟨x,h1,ys,h2,hx⟩:=h
 obtain rfl:=oi hx
 simp only[List.map_cons,DataW.weightsEach,AZ]at ao
 obtain⟨a,q1,v1,f1⟩:=hr w H enc fuel _ _ h1 (fun n hn=>ao n (.inl hn))
 obtain⟨b,q2,v2,f2⟩:=hl w H enc fuel cs ys hc h2 (fun n hn=>ao n (.inr hn))
 refine⟨(a,b),⟨q1,q2⟩,?_,?_⟩
 ·have:cs.drop off=(cs.drop f.1).take (P.cellsOf f.2)++cs.drop off':=by
   rw[ho,hs,<-n4,<-List.drop_drop,C0]
  rw[this]
  exact v1.append v2
 ·intro y hy
  rcases AZ.1 hy with hy|hy
  ·exact f1 y hy
  ·exact f2 y hy
theorem adJ {α β γ:Type} (g:α->β) (f:β->Option γ):∀ l:List α,(l.map g).mapM f=l.mapM (fun x=>f (g x))
 |[]=>rfl
 |x::l=>by rw[List.map_cons,List.mapM_cons,List.mapM_cons,adJ g f l]
theorem Reads.struct {α:Type}{fs:Array Field}{E:α->List AV}{Q:α->Prop}{tot:Nat} (ht:P.underlying t=some (.struct fs)) (hs:P.cellsOf t=tot) (hr:BF B P (fs.toList.map fun f=>(f.offset,f.type)) 0 tot E Q):Reads B P t E Q:=by
 intro w H enc fuel cs x h ao
 cases fuel with
 |zero=>simp[DataW.trod]at h
 |succ n=>
  rw[DataW.trod_step]at h
  unfold DataW.trodStep at h
  rw[ht]at h
  split at h
  case h_9 c0 x0 c1 fs2 hq=>
   cases hq
   split at h
   ·rename_i hl
    simp only[mS]at h
    obtain⟨xs,h1,rfl⟩:=h
    have:=hr w H enc n c0 xs (by omega) (by rw[adJ];exact h1) (fun m hm=>ao m (by simp only[DataW.weights,ht];simpa [List.map_map,Function.comp_def] using hm))
    simpa using this
   ·cases h
  all_goals first|(cases h;done)|(rename_i e;cases e;done)|(simp_all;done)
theorem Reads.as {α β:Type}{E:α->List AV}{Q:α->Prop}{E':β->List AV}{Q':β->Prop} (hr:Reads B P t E Q) (g:α->β) (hE:∀ a,E' (g a)=E a) (hQ:∀ a,Q a->Q' (g a)):Reads B P t E' Q':=by
 intro w H enc fuel cs x h ao
 obtain⟨a,h1,h2,h3⟩:=hr w H enc fuel cs x h ao
 exact⟨g a,hQ a h1,by rw[hE];exact h2,by rw[hE];exact h3⟩
theorem abx {α:Type}{E:α->List AV}{Q:α->Prop}{w:World}{H:Type}{enc:TypeId×Value->H}{v:Value}{d:DataW H}{ps:List MemPlace} (hr:Reads B P t E Q) (hv:∃ cs,v=.agg cs) (h:DataW.Trod enc P w 0 (fun _=>true) true t v d ps) (ao:∀ n∈d.weights P t,n<=B):
  ∃ a,Q a/\VR (gE w) [] (.agg (E a)) v:=by
 obtain⟨cs,rfl⟩:=hv
 obtain⟨fuel,h⟩:=h
 obtain⟨a,h1,h2,h3⟩:=hr w H enc fuel _ _ h ao
 exact⟨a,h1,.agg _ _ (by simpa [Value.cells] using h2.1) h3 (fun i x v hx hv=>h2.2 i x v hx (by simpa [Value.cells] using hv))⟩
end
theorem aiC {W W':World} (h:Below W.heap.size W W') (may:MemPlace->Prop):W.keptBut W' may:=by
 refine⟨h.os,h.output,fun i hi=>?_⟩
 have hb:=h.block i hi
 have:∃ o,W.heap[i]?=some o:=⟨_,Bg hi⟩
 obtain⟨o,ho⟩:=this
 rw[hb,ho]
 cases o with
 |cells c t fr=>exact⟨rfl,rfl,rfl,fun _ _=>rfl⟩
 |map es clock=>exact .inr ⟨rfl,rfl⟩
 |_=>rfl
theorem ajP {W W':World} (h:Below W.heap.size W W') (p:MemPlace) (hp:p.block<W.heap.size):W.sameAt W' p:=by
 cases p with
 |cell b off=>
  have hb:=h.block b hp
  show W'.cell? _=W.cell? _
  unfold World.cell?
  simp only[hb]
 |map b=>exact h.block b hp
section
variable {H:Type}{enc:TypeId×Value->H}{P:Program}
theorem akA {ts us:List TypeId}{ds gs:List (DataW H)} (hl:ds.length=ts.length) (h:(DataW.weightsEach P (ts++us) (ds++gs)).all (·<=reachBytes)=true) (j:Nat) (t:TypeId) (d:DataW H) (ht:ts[j]?=some t) (hd:ds[j]?=some d):∀ n∈d.weights P t,n<=reachBytes:=by
 intro n hn
 have h1:j<ts.length:=(gS.1 ht).1
 have:=List.all_eq_true.1 h n (DataW.weights_mem_each (j:=j) (by rw[B5 h1];exact ht) (by rw[B5 (by omega)];exact hd) n hn)
 simpa using this
theorem aeE {w w':World}{base:Nat}{spare:Nat->Bool}{held:Bool}:∀ {ts:List TypeId}{vs:List Value}{ds:List (DataW H)}{ps:List MemPlace},DataW.TrodAll enc P w base spare held ts vs ds ps->(∀ p∈ps,w.sameAt w' p)->DataW.TrodAll enc P w' base spare held ts vs ds ps
 |[],[],[],_,h,_=>h
 |_::_,_::_,_::_,_,⟨p,q,⟨n,h1⟩,h2,e⟩,hs=>
  ⟨p,q,⟨n,DataW.trod_carry n _ _ _ h1 (fun x hx=>hs x (by rw[e];exact List.mem_append_left _ hx))⟩,aeE h2 (fun x hx=>hs x (by rw[e];exact List.mem_append_right _ hx)),e⟩
theorem aiG {f:Func}{s:ChangeSpec}{W W':World}{args:Array Value}{ds gs:List (DataW H)}{before:List MemPlace}{t:TypeId} (hl:laidOutB P=true) (hm:mapsRowed P=true)
  (hz:((List.range P.types.size).all fun t=>match P.underlying t with|some (.slice e)=>decide (0<P.cellsOf e)|_=>true)=true)
  (hW:DataW.Whole enc P f.params.toList s.vars false W args.toList ds gs before) (aM:s.vars=[]) (hB:Below W.heap.size W W') (aia:∀ t∈f.params.toList,t<P.types.size) (hrt:f.resultTypes=#[t]) (ht:P.underlying t=some .bool)
  (tv:s.fn H (ds++gs)={ results:=[.lit (.bool true)],args:=ds }):s.post enc P f false true false false W args (.bool true) W':=by
 have ab:=hW.lt
 have hW0:=hW
 obtain⟨p,q,hA,hV,tT,_,_⟩:=hW
 rw[aM]at hV
 obtain⟨rfl,rfl⟩:gs=[]/\q=[]:=by
  cases gs with
  |nil=>exact⟨rfl,hV⟩
  |cons g gs=>exact hV.elim
 have hp:∀ x∈p,x.block<W.heap.size:=fun x hx=>ab x (by rw[tT];simp[hx])
 refine⟨ds,[],before,[],p,[],hW0,?_,?_,?_,aiC hB _,by simp⟩
 ·rw[tv,hrt]
  exact⟨[],[],⟨1,by simp[DataW.trod_step,DataW.trodStep,ht,Value.cells]⟩,rfl,rfl⟩
 ·rw[tv]
  exact DataW.TrodAll.respare (kids_rows hl hm) (fun t e h1 h2=>slices_full_of P hz t e h1 h2) aia (aeE hA (fun x hx=>ajP hB x (hp x hx))) (fun x hx=>by simpa using hp x hx)
 ·rw[tv,aM]
  rfl
end
end Go.Abs
namespace Go.Abs
open Go
def og (d:Nat) (o:Op) (t a:Nat) (b:Bool) (l:List Nat):Ai:=⟨some d,o,t,some (a,b),l⟩
def oq (d:Nat) (o:Op) (t:Nat) (l:List Nat):Ai:=⟨some d,o,t,none,l⟩
def mv (d s t:Nat) (l:List Nat):Ai:=⟨some d,.move (.tmp s),t,none,l⟩
def ld (d t s:Nat) (l:List Nat):Ai:=⟨some d,.load t (.tmp s),t,none,l⟩
def fa (d t s i:Nat) (l:List Nat):Ai:=⟨some d,.fieldAddr t (.tmp s) i,0,none,l⟩
def ia (d t s i:Nat) (l:List Nat):Ai:=⟨some d,.indexAddr t (.tmp s) (.tmp i),0,none,l⟩
def sg (d s t:Nat) (l:List Nat):Ai:=⟨some d,.assign (.tmp s),t,none,l⟩
def sn (d:Nat) (n:Int) (t:Nat) (l:List Nat):Ai:=⟨some d,.assign (.const (.int .i64 n)),t,none,l⟩
def sb (d:Nat) (b:Bool) (t:Nat) (l:List Nat):Ai:=⟨some d,.assign (.const (.bool b)),t,none,l⟩
def xt (d s i t:Nat) (l:List Nat):Ai:=⟨some d,.extract (.tmp s) i,t,none,l⟩
def ln (d s u t:Nat) (l:List Nat):Ai:=⟨some d,.call ⟨.builtin .len,#[.tmp s],#[u]⟩,t,none,l⟩
def cf1 (d f a ta t:Nat) (l:List Nat):Ai:=⟨some d,.call ⟨.value (.func f),#[.tmp a],#[ta]⟩,t,none,l⟩
def cf2 (d f a b ta tb t:Nat) (l:List Nat):Ai:=⟨some d,.call ⟨.value (.func f),#[.tmp a,.tmp b],#[ta,tb]⟩,t,none,l⟩
def b2 (d:Nat) (o:BinOp) (u a b v t:Nat) (l:List Nat):Ai:=⟨some d,.binOp o u (.tmp a) (.tmp b) v,t,none,l⟩
def bn (d:Nat) (o:BinOp) (u a:Nat) (n:Int) (v t:Nat) (l:List Nat):Ai:=⟨some d,.binOp o u (.tmp a) (.const (.int .i64 n)) v,t,none,l⟩
attribute [go_sem] og oq mv ld fa ia sg sn sb xt ln cf1 cf2 b2 bn
theorem aa {α:Type}{l:List α}{i:Int}{x:α} (h:at? l i=some x):fG i l.length=some i.toNat/\∀ (β:Type) (E:α->β),(l.map E)[i.toNat]?=some (E x):=⟨aG h,fun _ E=>aF E h⟩
theorem bs {α β:Type}{o:Option α}{f:α->Option β}{r:β} (h:o.bind f=some r):∃ x,o=some x/\f x=some r:=bind_some h
end Go.Abs
