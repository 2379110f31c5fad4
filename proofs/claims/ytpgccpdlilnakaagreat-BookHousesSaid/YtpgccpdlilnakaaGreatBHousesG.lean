/-
  Part 7 of the proof: a machine over named blocks, what each function computes, and what follows. No condition.
-/
import Derived.Test.YtpgccpdlilnakaaGreatRows
import Derived.WalkKit
import Derived.ProofKit
import Derived.OpenShut
import Derived.JoinedCond
import Derived.Test.YtpgccpdlilnakaaGreatBHousesF
set_option linter.unusedVariables false
set_option linter.unusedSimpArgs false
set_option linter.all false
set_option maxRecDepth 100000
set_option maxHeartbeats 8000000
namespace Go.Abs
open Go Go.Proofs
section
variable {d:Ad}{l:Ai}{log:List Ab}{aK a:Nat}{e0 c:Int}{ep:Nat->Int}{k:Nat}
theorem ang (hk:10000000<k) {rs:List Ab} (hl:rs.length<=8):vq k rs (fun q0=>oX k q0)=some (!rs.all bC):=by
 unfold vq gn
 have h:=afx (n:=rs.length) (body:=gn.b0 k (fun q0=>oX k q0) rs) (f:=fun(i:Nat)=>match rs[i]? with|some x=>bif bC x then none else some (i:Int)|none=>none) (by omega) (k:=k) (by omega) (fun i hi=>by
  obtain⟨x,hx⟩:∃ x,rs[i]?=some x:=⟨_,gG hi⟩
  unfold gn.b0 oX
  simp only[Au (show (i:Int)<(rs.length:Int) by omega),Am,bp hx,Ae,acg (show 1000<k by omega),hx]
  cases bC x<;>rfl) (by
  unfold gn.b0
  simp only[(by simp:decide ((rs.length:Int)<(rs.length:Int))=false),An])
 rw[h]
 cases jF:rs.all bC with
 |true=>
  have hn:(List.range rs.length).findSome? (fun(i:Nat)=>match rs[i]? with|some x=>bif bC x then none else some (i:Int)|none=>none)=none:=by
   rw[List.findSome?_eq_none_iff]
   intro i hi
   rw[List.mem_range]at hi
   rw[gG hi]
   have:=List.all_eq_true.1 jF _ (List.getElem_mem hi)
   simp only[this,Am]
  rw[hn]
  rfl
 |false=>
  cases hf:(List.range rs.length).findSome? (fun(i:Nat)=>match rs[i]? with|some x=>bif bC x then none else some (i:Int)|none=>none) with
  |some v=>
   obtain⟨i,hi,hv⟩:=List.exists_of_findSome?_eq_some hf
   rw[List.mem_range]at hi
   rw[gG hi]at hv
   simp only at hv
   cases hr:bC rs[i] with
   |true=>rw[hr]at hv;cases hv
   |false=>
    rw[hr]at hv
    have:v=(i:Int):=(oi hv).symm
    subst this
    simp only[Ae,Au (show (0:Int)<=(i:Int) by omega),Bn]
  |none=>
   rw[List.findSome?_eq_none_iff]at hf
   exfalso
   rw[List.all_eq_false]at jF
   obtain⟨x,hx,qY⟩:=jF
   obtain⟨i,hi⟩:=BH.1 hx
   have af:=(gS.1 hi).1
   have:=hf i (List.mem_range.2 af)
   rw[hi]at this
   have hx3:bC x=false:=by simpa using qY
   simp only[hx3,An]at this
   cases this
theorem arH (hk:10000000<k) (s:Av):∃ b:Bool,fV k s=some b/\Cp k s=some (bif b then 0 else 97)/\(b=true->(0<=s.Bs/\s.Bs<=5)/\s.Ah.length<=8/\(∀ r∈s.Ah,bC r=true)):=by
 have gX:1000000<k:=by omega
 refine⟨within s.Bs 0 5&&(within s.To 0 5&&(!decide (s.Bs=s.To)&&(kF s.Have&&(decide (s.Ah.length<=8)&&s.Ah.all bC)))),?_,?_,fun hb=>?_⟩
 ·unfold fV mn
  simp only[nB,Ae]
  cases within s.Bs 0 5 with
  |false=>rfl
  |true=>
   cases within s.To 0 5 with
   |false=>rfl
   |true=>
    simp only[Am,BB]
    cases decide (s.Bs=s.To) with
    |true=>rfl
    |false=>
     simp only[Bn,Am,BB]
     by_cases h8:s.Ah.length<=8
     ·simp only[AI (show ¬ (8:Int)<(s.Ah.length:Int) by omega),An,Au h8,BB]
      rw[adz (v:=s.Have) (cc:=false) gX (fun y hy=>by
       unfold fV.b0
       simp only[Au (show (y:Int)<6 by omega),Am]) (by unfold fV.b0;rfl)]
      cases kF s.Have with
      |false=>rfl
      |true=>
       simp only[Am,Ae,ang hk h8,Bool.not_not,BB]
     ·simp only[Au (show (8:Int)<(s.Ah.length:Int) by omega),Am,AI h8,Bool.false_and,Bool.and_false]
 ·unfold Cp
  simp only[ra,Ae,af5 gX]
  cases within s.Bs 0 5 with
  |false=>rfl
  |true=>
   cases within s.To 0 5 with
   |false=>rfl
   |true=>
    simp only[Am,BB]
    cases decide (s.Bs=s.To) with
    |true=>rfl
    |false=>
     simp only[Bn,Am,BB]
     cases kF s.Have with
     |false=>rfl
     |true=>
      simp only[Am,BB]
      by_cases h8:s.Ah.length<=8
      ·simp only[AI (show ¬ (8:Int)<(s.Ah.length:Int) by omega),An,Au h8,BB]
       have:=xZ (l:=s.Ah) (body:=Cp.b0 k s) (p:=bC) (c:=(97:Int)) (by omega) (k:=k) (by omega) (fun i x hx=>by
        have hi:=(gS.1 hx).1
        unfold Cp.b0
        simp only[Au (show (i:Int)<(s.Ah.length:Int) by omega),Am,bp hx,Ae,vZ (show 1000<k by omega)]
        cases bC x<;>rfl) (by
        unfold Cp.b0
        simp only[(by simp:decide ((s.Ah.length:Int)<(s.Ah.length:Int))=false),An])
       rw[this]
       cases s.Ah.all bC<;>rfl
      ·simp only[Au (show (8:Int)<(s.Ah.length:Int) by omega),Am,AI h8,Bool.false_and]
       rfl
 ·simp only[Bo]at hb
  obtain⟨h1,h2,h3,h4,h5,h6⟩:=hb
  unfold within at h1
  exact⟨by simpa using h1,of_decide_eq_true h5,fun r hr=>List.all_eq_true.1 h6 r hr⟩
theorem arb (hk:10000000<k) {s:Av} (hs:s.Ah.length<=8) (mJ:∀ r∈s.Ah,bC r=true) (Me:Int) (K:Aa 6 (Aa 6 Int)):∀ (n j m:Nat) {d:Ad}{l:Ai}{log:List Ab}{aK a:Nat}{e0 c:Int}{ep:Nat->Int},j+n=s.Ah.length->n<m->Jr d l log aK a e0 c ep->log.length+n<=50->
  (∃ v,ai (bA.b0 k s) m ((⟨Me,d,l,K⟩:Ac),(j:Int))=some (.ret v)/\ai (Bi.b0 k s) m ((⟨Me,d,l,K⟩:Ac),(j:Int))=some (.ret v)/\Dq v.1/\v.2.1=[])\/
  (∃ d' l',ai (bA.b0 k s) m ((⟨Me,d,l,K⟩:Ac),(j:Int))=some (.brk ⟨Me,d',l',K⟩)/\ai (Bi.b0 k s) m ((⟨Me,d,l,K⟩:Ac),(j:Int))=some (.brk ⟨Me,d',l',K⟩)/\∃ u7 ahE a' e0' c' qw,Jr d' l' u7 ahE a' e0' c' qw):=by
 intro n
 induction n with
 |zero=>
  intro j m d l log aK a e0 c ep h1 h2 h h4
  obtain⟨m,rfl⟩:∃ q,m=q+1:=⟨m - 1,by omega⟩
  have hb:∀ h,bA.b0 k s (h,(j:Int))=some (.brk h):=fun h=>by
   unfold bA.b0
   simp only[AI (show ¬ (j:Int)<(s.Ah.length:Int) by omega),An]
  have hr:∀ h,Bi.b0 k s (h,(j:Int))=some (.brk h):=fun h=>by
   unfold Bi.b0
   simp only[AI (show ¬ (j:Int)<(s.Ah.length:Int) by omega),An]
  exact .inr ⟨d,l,by simp only[ai,hb],by simp only[ai,hr],_,_,_,_,_,_,h⟩
 |succ n ih=>
  intro j m d l log aK a e0 c ep h1 h2 h h4
  obtain⟨m,rfl⟩:∃ q,m=q+1:=⟨m - 1,by omega⟩
  obtain⟨r,hx⟩:∃ r,s.Ah[j]?=some r:=⟨_,gG (by omega)⟩
  have hrb:=mJ r (A6 hx)
  have fK:=kT hrb
  have hw:ab ((j:Int)+1)=((j+1:Nat):Int):=by rw[aW (by omega) (by omega)];omega
  obtain⟨c1,c2,c3,c4⟩:=h.counts hk
  by_cases cc:((ao ag log r.At.Ac:Nat):Int)<r.At.No
  ·have hb:bA.b0 k s ((⟨Me,d,l,K⟩:Ac),(j:Int))=some (.next ((⟨Me,d,l,K⟩:Ac),((j+1:Nat):Int))):=by
    unfold bA.b0
    simp only[Au (show (j:Int)<(s.Ah.length:Int) by omega),Am,bp hx,Ae,c1,mw log fK.1 fK.2,hw,Au cc]
   have hr:Bi.b0 k s ((⟨Me,d,l,K⟩:Ac),(j:Int))=some (.next ((⟨Me,d,l,K⟩:Ac),((j+1:Nat):Int))):=by
    unfold Bi.b0
    simp only[Au (show (j:Int)<(s.Ah.length:Int) by omega),Am,bp hx,Ae,c2,mw log fK.1 fK.2,hw,Au cc]
   simp only[ai,hb,hr]
   exact ih (j+1) m (by omega) (by omega) h (by omega)
  ·obtain⟨y,y1,y2,y3,y4⟩:=h.af2 hk (by omega) r
   by_cases he:y.2.2=0
   ·obtain⟨_,u7,qw,xh,J'⟩:=y3 he
    have hb:bA.b0 k s ((⟨Me,d,l,K⟩:Ac),(j:Int))=some (.next ((⟨Me,y.1,y.2.1,K⟩:Ac),((j+1:Nat):Int))):=by
     unfold bA.b0
     simp only[Au (show (j:Int)<(s.Ah.length:Int) by omega),Am,bp hx,Ae,c1,mw log fK.1 fK.2,hw,AI cc,An,y1,Au he,AO]
    have hr:Bi.b0 k s ((⟨Me,d,l,K⟩:Ac),(j:Int))=some (.next ((⟨Me,y.1,y.2.1,K⟩:Ac),((j+1:Nat):Int))):=by
     unfold Bi.b0
     simp only[Au (show (j:Int)<(s.Ah.length:Int) by omega),Am,bp hx,Ae,c2,mw log fK.1 fK.2,hw,AI cc,An,y2,Au he,AO]
    simp only[ai,hb,hr]
    exact ih (j+1) m (by omega) (by omega) J' (by omega)
   ·left
    refine⟨((⟨0,(⟨[],[]⟩:Ad),(⟨(⟨[]⟩:Ak),0,0,0⟩:Ai),(Aa.rep 6 ((Aa.rep 6 (0:Int)):(Aa 6 Int)))⟩:Ac),[],y.2.2),?_,?_,oo _,rfl⟩
    ·have hb:bA.b0 k s ((⟨Me,d,l,K⟩:Ac),(j:Int))=some (.ret ((⟨0,(⟨[],[]⟩:Ad),(⟨(⟨[]⟩:Ak),0,0,0⟩:Ai),(Aa.rep 6 ((Aa.rep 6 (0:Int)):(Aa 6 Int)))⟩:Ac),[],y.2.2)):=by
      unfold bA.b0
      simp only[Au (show (j:Int)<(s.Ah.length:Int) by omega),Am,bp hx,Ae,c1,mw log fK.1 fK.2,hw,AI cc,An,y1,AI he,Bn]
     simp only[ai,hb]
    ·have hr:Bi.b0 k s ((⟨Me,d,l,K⟩:Ac),(j:Int))=some (.ret ((⟨0,(⟨[],[]⟩:Ad),(⟨(⟨[]⟩:Ak),0,0,0⟩:Ai),(Aa.rep 6 ((Aa.rep 6 (0:Int)):(Aa 6 Int)))⟩:Ac),[],y.2.2)):=by
      unfold Bi.b0
      simp only[Au (show (j:Int)<(s.Ah.length:Int) by omega),Am,bp hx,Ae,c2,mw log fK.1 fK.2,hw,AI cc,An,y2,AI he,Bn]
     simp only[ai,hr]
theorem apC {s:Av}{f:Nat} (hf:s.Bs=(f:Int)) (hf5:f<6) (Me:Int) (d:Ad) (l:Ai):∀ (n x m:Nat) (K:Aa 6 (Aa 6 Int)),x+n=6->n<m->
  ∃ K',ai (bA.b1 k s) m ((⟨Me,d,l,K⟩:Ac),(x:Int))=some (.brk ⟨Me,d,l,K'⟩)/\ai (Bi.b1 k s) m ((⟨Me,d,l,K⟩:Ac),(x:Int))=some (.brk ⟨Me,d,l,K'⟩):=by
 intro n
 induction n with
 |zero=>
  intro x m K g1 g2
  obtain⟨m,rfl⟩:∃ q,m=q+1:=⟨m - 1,by omega⟩
  have:x=6:=by omega
  subst this
  exact⟨K,rfl,rfl⟩
 |succ n ih=>
  intro x m K g1 g2
  obtain⟨m,rfl⟩:∃ q,m=q+1:=⟨m - 1,by omega⟩
  have hx:x<6:=by omega
  have hw:ab ((x:Int)+1)=((x+1:Nat):Int):=by rw[aW (by omega) (by omega)];omega
  have hb:bA.b1 k s ((⟨Me,d,l,K⟩:Ac),(x:Int))=some (.next ((⟨Me,d,l,K.set (f:Int) ((kr K f).set (x:Int) (max (g6 (kr K f) x) (g6 s.Have x)))⟩:Ac),((x+1:Nat):Int))):=by
   unfold bA.b1
   simp only[Au (show (x:Int)<6 by omega),Am,n4 s.Have hx,Ae,hf,rb K hf5,n4 (kr K f) hx,hw]
  have hr:Bi.b1 k s ((⟨Me,d,l,K⟩:Ac),(x:Int))=some (.next ((⟨Me,d,l,K.set (f:Int) ((kr K f).set (x:Int) (max (g6 (kr K f) x) (g6 s.Have x)))⟩:Ac),((x+1:Nat):Int))):=by
   unfold Bi.b1
   simp only[Au (show (x:Int)<6 by omega),Am,n4 s.Have hx,Ae,hf,rb K hf5,n4 (kr K f) hx,hw]
  obtain⟨K',q1,q2⟩:=ih (x+1) m _ (by omega) (by omega)
  exact⟨K',by simp only[ai,hb];exact q1,by simp only[ai,hr];exact q2⟩
theorem Jr.acB (h:Jr d l log aK a e0 c ep) (hk:10000000<k) (hlen:log.length+8<=50) (Me u:Int) (K:Aa 6 (Aa 6 Int)) (s:Av):
  ∃ y,bA k ⟨Me,d,⟨l.Ak,l.AS,l.Aq,u⟩,K⟩ s=some y/\Bi k ⟨Me,d,⟨l.Ak,l.AS,l.Aq,u⟩,K⟩ s=some y/\Dq y.1/\y.2.1.length<=1/\∀ q∈y.2.1,q.Ah=[]:=by
 obtain⟨b,b1,b2,b3⟩:=h.ab6 hk Me u K
 obtain⟨sl,t1,t2,t3⟩:=arH hk s
 unfold bA Bi
 rw[b1,b2]
 simp only[Ae]
 cases b with
 |false=>exact⟨_,rfl,rfl,oo _,by simp,by simp⟩
 |true=>
  simp only[Am,Bf,AO,An,t1,t2,Ae]
  cases sl with
  |false=>exact⟨_,rfl,rfl,oo _,by simp,by simp⟩
  |true=>
   simp only[Am,Bf]
   by_cases hm:s.To=Me
   ·simp only[Au hm,AO,An]
    obtain⟨⟨q1,q2⟩,q3,q4⟩:=b3 rfl
    obtain⟨⟨f1,f2⟩,r8,rok⟩:=t3 rfl
    obtain⟨c1,c2,c3,c4⟩:=h.counts hk
    have n6:=h.cF.len
    subst q3
    obtain⟨f,hf⟩:=Int.eq_ofNat_of_zero_le f1
    have sI:D1 k l.Ak.Ah=some l.Ak.Ah:=agP (by omega)
    have cG:nb k ⟨l.Ak,l.AS,l.Aq,l.Used⟩=some l:=by
     unfold nb
     rw[wc (show l.Ak.Ah.length<=1000 by omega)]
     rfl
    have hch:DX k ⟨Me,d,⟨l.Ak,l.AS,l.Aq,l.Used⟩,K⟩=some ⟨Me,d,l,K⟩:=by
     unfold DX
     simp only[(abI k h.db.ok).1,sI,Ae]
    rw[nY h.db.ok,hch]
    simp only[Ae,cG]
    rcases arb hk r8 rok Me K s.Ah.length 0 k (by omega) (by omega) h (by omega) with ⟨v,v1,v2,v3,v4⟩|⟨d',l',v1,v2,u7,ahE,a',e0',c',qw,J'⟩
    ·rw[Cz]at v1 v2
     rw[v1,v2]
     exact⟨_,rfl,rfl,v3,by rw[v4];simp,by rw[v4];simp⟩
    ·rw[Cz]at v1 v2
     rw[v1,v2]
     obtain⟨s1,s2⟩:=J'.aj8 hk Me K
     obtain⟨K',k1,k2⟩:=apC (k:=k) hf (by omega) Me ⟨au d'.Aj d'.Af,[]⟩ l' 6 0 k K (by omega) (by omega)
     rw[Cz]at k1 k2
     obtain⟨g1,g2,_,_⟩:=J'.counts hk
     simp only[Ae,s1,s2,k1,k2]
     by_cases hz:(s.Ah.length:Int)=0
     ·simp only[Au hz,Am]
      exact⟨_,rfl,rfl,J'.sync.aC _ _,by simp,by simp⟩
     ·simp only[AI hz,An,g1,g2,Ae]
      exact⟨_,rfl,rfl,J'.sync.aC _ _,by simp,by simp⟩
   ·simp only[AI hm,Bn,Am]
    exact⟨_,rfl,rfl,oo _,by simp,by simp⟩
theorem Jr.acD (h:Jr d l log aK a e0 c ep) (hk:10000000<k) (hE:l.Aq<1000000) (Me u:Int) (K:Aa 6 (Aa 6 Int)) (bD:List Int) (hp:bD.length<=4611686018427387904):
  ∃ y,nT k ⟨Me,d,⟨l.Ak,l.AS,l.Aq,u⟩,K⟩ bD=some y/\Ds k ⟨Me,d,⟨l.Ak,l.AS,l.Aq,u⟩,K⟩ bD=some y/\Dq y.1:=by
 obtain⟨b,b1,b2,b3⟩:=h.ab6 hk Me u K
 unfold nT Ds
 rw[b1,b2]
 simp only[Ae]
 cases b with
 |false=>exact⟨_,rfl,rfl,oo _⟩
 |true=>
  obtain⟨p',p1,p2,p3⟩:=agV (show 1000000<k by omega) h.db bD hp h.waits
  obtain⟨m,l',m1,m2,m3,m4,m5,m6⟩:=h.an1 hE p2 p3 hk
  simp only[Am,Bf,AO,An,anm hk h.db,p1,m3,m4,Ae]
  exact⟨_,rfl,rfl,m6.aC _ _⟩
theorem aku {n:Nat}{α:Type}{eq:α->α->Bool} (h:∀ x,eq x x=true) (v:Aa n α):Aa.eq eq v v=true:=by
 unfold Aa.eq
 have key:∀ l:List α,(l.zip l).all (fun p=>eq p.1 p.2)=true:=by
  intro l
  induction l with
  |nil=>rfl
  |cons x l ih=>rw[List.zip_cons_cons,List.all_cons,h,ih];rfl
 exact key v.l
theorem akt {n:Nat} (v:Aa n Int):Aa.eq (fun(x y:Int)=>decide (x=y)) v v=true:=aku (eq:=fun(x y:Int)=>decide (x=y)) (fun x=>by simp) v
theorem afv {n m:Nat} (v:Aa n (Aa m Int)):Aa.eq (Aa.eq fun(x y:Int)=>decide (x=y)) v v=true:=aku (fun x=>akt x) v
theorem arn (hk:10000000<k) {d:Ad} (h1:d.Aj.length<=1000) (h2:d.Af.length<=2000):A0 k d d=some true:=by
 unfold A0
 simp only[Bf,Am]
 have w1:=qa (l:=d.Aj) (body:=A0.b0 k d d) (fun i s=>(s,i)) (fun s x=>true) (fun i s=>s=true) (by omega) (k:=k) (by omega) (s0:=true) rfl (fun i x s hx hs=>by
  have hi:=(gS.1 hx).1
  subst hs
  refine⟨?_,rfl⟩
  unfold A0.b0
  have hv:Aa.eq (Aa.eq fun(x y:Int)=>decide (x=y)) x x=true:=afv _
  simp only[Au (show (i:Int)<(d.Aj.length:Int) by omega),Am,bp hx,Ae,hv]) (fun s hs=>by
  unfold A0.b0
  simp only[(by simp:decide ((d.Aj.length:Int)<(d.Aj.length:Int))=false),An])
 rw[w1.1]
 have e1:d.Aj.foldl (fun(s:Bool) x=>true) true=true:=w1.2
 simp only[Ae,e1]
 have w2:=qa (l:=d.Af) (body:=A0.b1 k d d) (fun i s=>(s,i)) (fun s x=>true) (fun i s=>s=true) (by omega) (k:=k) (by omega) (s0:=true) rfl (fun i x s hx hs=>by
  have hi:=(gS.1 hx).1
  subst hs
  refine⟨?_,rfl⟩
  unfold A0.b1
  have hv:Aa.eq (Aa.eq fun(x y:Int)=>decide (x=y)) x.AQ x.AQ=true:=afv _
  simp only[Au (show (i:Int)<(d.Af.length:Int) by omega),Am,bp hx,Ae,hv,Bf,Bool.and_self]) (fun s hs=>by
  unfold A0.b1
  simp only[(by simp:decide ((d.Af.length:Int)<(d.Af.length:Int))=false),An])
 rw[w2.1]
 have e2:d.Af.foldl (fun(s:Bool) x=>true) true=true:=w2.2
 simp only[Ae,e2]
theorem aaA (hk:10000000<k) {h:Ac} (hs:Dq h):CT k h h=some true:=by
 unfold CT FF
 rw[arn hk hs.1 hs.2.1,arl hk hs.2.2]
 have hv:Aa.eq (Aa.eq fun(x y:Int)=>decide (x=y)) h.Ap h.Ap=true:=afv _
 simp only[Ae,Am,Bf,hv]
theorem ajP (hk:10000000<k) {s:Av} (hs:s.Ah.length<=1000):DZ k s s=some true:=by
 unfold DZ
 rw[ajO hk hs]
 have hv:Aa.eq (fun(x y:Int)=>decide (x=y)) s.Have s.Have=true:=akt _
 simp only[Ae,Am,Bf,hv]
theorem aro (hk:10000000<k) {l:List Av} (hl:l.length<=1) (h:∀ q∈l,q.Ah=[]):Ck k l l=some true:=by
 unfold Ck
 have w:=qa (l:=l) (body:=Ck.b0 k l l) (fun i s=>(s,i)) (fun s x=>true) (fun i s=>s=true) (by omega) (k:=k) (by omega) (s0:=true) rfl (fun i x s hx hs=>by
  have hi:=(gS.1 hx).1
  subst hs
  refine⟨?_,rfl⟩
  unfold Ck.b0
  simp only[Au (show (i:Int)<(l.length:Int) by omega),Am,bp hx,Ae,ajP hk (show x.Ah.length<=1000 by rw[h x (A6 hx)];simp)]) (fun s hs=>by
  unfold Ck.b0
  simp only[(by simp:decide ((l.length:Int)<(l.length:Int))=false),An])
 have e:l.foldl (fun(s:Bool) x=>true) true=true:=w.2
 simp only[Bf,w.1,Ae,e]
end
theorem abX (v:Aa 3 Ac) {i:Nat} (hi:i<=2) (x:Ac):h3 (v.set (i:Int) x)=up (h3 v) i x:=by
 funext j
 rw[uB v hi];rfl
def Ok (v:Aa 3 Ac) (sl:List Av) (t:Nat):Prop:=sl.length<=2*t/\∃ L F,W (h3 v) sl L F t
section
variable {k t:Nat}{v:Aa 3 Ac}{sl:List Av}
theorem Ok.offer (h:Ok v sl t) (hk:1000000<k) (ht:t<=14) {me to:Nat} (hm:me<=2) (qV:to<=2) (ba:to≠me):
  ∃ h' s,eF k (h3 v me) (to:Int)=some (h',s,0)/\Ok (v.set (me:Int) h') (sl++[s]) (t+1):=by
 obtain⟨h0,L,F,w⟩:=h
 obtain⟨h',g1,_,_,g4,g5,g6,g7⟩:=w.offer hk hm qV ba (by omega)
 refine⟨h',_,g1,by simp;omega,up L me (L me),up F me (L me).length,?_⟩
 rw[abX v hm]
 refine W.later (W.aj0 g4 fun s hs=>?_) (by omega)
 rcases A9.1 hs with q|q
 ·exact .inl q
 ·rw[CS.1 q];exact .inr ⟨me,to,g5,g6,g7⟩
theorem Ok.aax (h:Ok v sl t) (hk:1000000<k) (ht:t<=14) {s:Av} (hs:s∈sl):
  ∃ u:Nat,u<=2/\s.To=(u:Int)/\∃ h' back,bA k (h3 v u) s=some (h',back,0)/\back.length<=1/\∀ fR:List Av,(∀ x∈fR,x∈sl\/x∈back)->fR.length<=sl.length+1->Ok (v.set (u:Int) h') fR (t+1):=by
 obtain⟨h0,L,F,w⟩:=h
 obtain⟨f,u,S,s2,s3⟩:=w.slp s hs
 obtain⟨h',g1,g2,g3,g4,g5,g6⟩:=w.aax hk S (by omega) s2 s3
 refine⟨u,S.t2,S.to_,h',_,g1,by split<;>simp,fun fR hx hl=>⟨by omega,up L u (fE (L u) s.Ah),up F u (fE (L u) s.Ah).length,?_⟩⟩
 rw[abX v S.t2]
 refine W.later (W.aj0 g4 fun x z7=>?_) (by omega)
 rcases hx x z7 with q|q
 ·exact .inl q
 ·split at q
  ·cases q
  ·rw[CS.1 q]
   exact .inr ⟨u,f,g5,by simp,g6⟩
theorem Ok.aaz (h:Ok v sl t) (hk:1000000<k) (ht:t<=14) {me:Nat} (hm:me<=2) (bD:List Int) (hp:bD.length<=4611686018427387904):
  ∃ h',nT k (h3 v me) bD=some (h',0)/\Ok (v.set (me:Int) h') sl (t+1):=by
 obtain⟨h0,L,F,w⟩:=h
 obtain⟨h',m,g1,_,_,_,g2⟩:=w.aaz hk hm (by omega) bD hp
 exact⟨h',g1,by omega,_,_,by rw[abX v hm];exact g2⟩
theorem qv (n:Int) {m:Nat} (hm:0<m):∃ q:Nat,q<m/\n % (m:Int)=(q:Int):=by
 have:=ve n (m:=(m:Int)) (by omega)
 obtain⟨q,hq⟩:=Int.eq_ofNat_of_zero_le this.1
 exact⟨q,by omega,hq⟩
end
def tx5:List ByteArray:=[ByteArray.empty,(⟨#[97]⟩:ByteArray),(⟨#[112,105,101,99,101,32,49,55]⟩:ByteArray),(⟨#[48,32,48,32,49,32,48,32,48,32,48]⟩:ByteArray),(⟨#[97,32,116,101,120,116,32,111,102,32,97,32,108,101,110,103,116,104,32,116,104,97,116,32,116,97,107,101,115,32,116,104,114,101,101,32,104,97,108,118,101,115,32,111,102,32,97,32,112,97,103,101]⟩:ByteArray)]
theorem arT {i:Int} (h0:0<=i) (h1:i<5):∃ s,at? tx5 i=some s/\pX s=true:=by
 have:i=0\/i=1\/i=2\/i=3\/i=4:=by omega
 rcases this with rfl|rfl|rfl|rfl|rfl
 ·exact⟨_,rfl,by decide +kernel⟩
 ·exact⟨_,rfl,by decide +kernel⟩
 ·exact⟨_,rfl,by decide +kernel⟩
 ·exact⟨_,rfl,by decide +kernel⟩
 ·exact⟨_,rfl,by decide +kernel⟩
theorem ara {k:Nat} (hk:1000000<k) {l:List Ab} (hl:l.length<=100) (hh:∀ r∈l,iC r) (v:Aa 5 Int):
  ∃ r,En k l v=some r/\bC r=true/\(r.At.Ac=0\/r.At.Ac=1\/r.At.Ac=2)/\(ag r).2=ao ag l (ag r).1:=by
 obtain⟨a,b,c,d,e,rfl⟩:=ar5 v
 have a0:(⟨[a,b,c,d,e],rfl⟩:Aa 5 Int).at? 0=some a:=rfl
 have a1:(⟨[a,b,c,d,e],rfl⟩:Aa 5 Int).at? 1=some b:=rfl
 have a2:(⟨[a,b,c,d,e],rfl⟩:Aa 5 Int).at? 2=some c:=rfl
 have a3:(⟨[a,b,c,d,e],rfl⟩:Aa 5 Int).at? 3=some d:=rfl
 have a4:(⟨[a,b,c,d,e],rfl⟩:Aa 5 Int).at? 4=some e:=rfl
 have m3:=jN k a (m:=3) (by decide) (by decide)
 have m6:=jN k b (m:=6) (by decide) (by decide)
 have m50:=jN k c (m:=50) (by decide) (by decide)
 have m51:=jN k d (m:=50) (by decide) (by decide)
 have m5:=jN k e (m:=5) (by decide) (by decide)
 have B3:=ve a (m:=3) (by decide)
 have B6:=ve b (m:=6) (by decide)
 have IF:=ve c (m:=50) (by decide)
 have GY:=ve d (m:=50) (by decide)
 have B5:=ve e (m:=5) (by decide)
 obtain⟨s,qU,pE⟩:=arT B5.1 B5.2
 have hc:=abG l (a % 3)
 have ael:a % 3=0\/a % 3=1\/a % 3=2:=by omega
 unfold En
 unfold tx5 at qU
 simp only[a0,a1,a2,a3,a4,m3,m6,m50,m51,m5,Ae,aeI hk (show l.length<=100000 by omega) hh,mw l (show 0<=a % 3 from B3.1) (by omega),qU]
 have W:∀ x lo hi:Int,lo<=x->x<=hi->within x lo hi=true:=fun x lo hi h1 h2=>by
  unfold within;simp[h1,h2]
 have aie:∀ kk:Int,0<kk->kk<=7->bC (⟨(⟨a % 3,((ao ag l (a % 3):Nat):Int)⟩:Entry),kk,c % 50,d % 50,(⟨0,0⟩:Entry),s⟩:Ab)=true:=fun kk h1 h2=>by
  unfold bC ly
  simp only[W _ 0 5 (show 0<=a % 3 from B3.1) (by omega),W _ 0 9999 (show (0:Int)<=((ao ag l (a % 3):Nat):Int) by omega) (by omega),W kk 0 40 (by omega) (by omega),W _ 0 100000 IF.1 (by omega),W _ 0 100000 GY.1 (by omega),pE,
   AI (show ¬ kk=0 by omega),Bn,Am,Bool.and_self,Bf]
 by_cases h0:b % 6=0
 ·simp only[Au h0,Am]
  by_cases hp:(0:Int)<((ao ag l (a % 3):Nat):Int)
  ·have mc:=jN k c (m:=((ao ag l (a % 3):Nat):Int)) hp (by omega)
   have Bc:=ve c hp
   simp only[Au hp,Am,mc,Ae]
   refine⟨_,rfl,?_,ael,rfl⟩
   have te:pX ByteArray.empty=true:=by decide +kernel
   unfold bC ly
   simp only[W _ 0 5 (show 0<=a % 3 from B3.1) (by omega),W _ 0 9999 (show (0:Int)<=((ao ag l (a % 3):Nat):Int) by omega) (by omega),W (b % 6) 0 40 (by omega) (by omega),W 0 0 100000 (by decide) (by decide),W _ 0 100000 GY.1 (by omega),te,
    Au h0,AO,An,Bool.and_self,Bf,beq_self_eq_true,W _ 0 9999 Bc.1 (by omega),Au Bc.2]
  ·simp only[AI hp,An]
   exact⟨_,rfl,aie 7 (by decide) (by decide),ael,rfl⟩
 ·simp only[AI h0,An]
  exact⟨_,rfl,aie _ (by omega) (by omega),ael,rfl⟩
def mk1 (k:Nat) (s:List Ab) (v:Aa 5 Int):List Ab:=s++[(En k s v).getD aq8]
where aq8:Ab:=⟨⟨0,0⟩,0,0,0,⟨0,0⟩,ByteArray.empty⟩
def nK (k:Nat) (l:List (Aa 5 Int)):List Ab:=l.foldl (mk1 k) []
theorem ap3 {k:Nat} (hk:10000000<k):Fb k=some (⟨j6,[]⟩,⟨⟨[]⟩,0,1,1⟩):=by
 have hm:kR 602 64 ((Aa.rep 2 ((Aa.rep 32 (0:Int)):(Aa 32 Int))):(Aa 2 (Aa 32 Int)))=some (List.replicate 602 pz):=by
  unfold kR mk?
  rw[if_pos (by decide)]
  rfl
 have hl:(List.replicate 602 pz).length=602:=CR
 have h0:(List.replicate 602 pz)[0]?=some pz:=by rw[Ed];rfl
 have ha:at? (List.replicate 602 pz) 0=some pz:=bp h0
 have hp0:pz.at? 0=some hz:=rfl
 unfold Fb
 rw[hm]
 simp only[Ae,ah9 (show 100<k by omega),ha,hp0]
 unfold dN
 rw[if_pos (by rw[hl];decide)]
 rfl
theorem aiY {k:Nat} (hk:10000000<k) (n:Int):∃ y,rY k n=some y/\DL k n=some y/\Dq y.1:=by
 unfold rY DL mn
 simp only[nB,ra,Ae]
 cases within n 0 5 with
 |false=>exact⟨_,rfl,rfl,oo _⟩
 |true=>
  simp only[AO,An,aiZ,ap3 hk,Ae]
  exact⟨_,rfl,rfl,Jr.new.aC _ _⟩
theorem ap1 {k:Nat} (hk:10000000<k) {i:Nat} (hi:i<=2):∃ h,DL k (i:Int)=some (h,0)/\HI h i [] 0/\h.Ap=lN/\h.Ai.Aq=1:=by
 obtain⟨h,h1,h2,h3,h4⟩:=ap2 (k:=k) hi
 obtain⟨y,y1,y2,_⟩:=aiY hk (i:Int)
 rw[h1]at y1
 obtain rfl:=oi y1
 exact⟨h,y2,h2,h3,h4⟩
theorem ap5 {k:Nat} (hk:10000000<k):∃ v,ai (Bp.b0 k) k ((Aa.rep 3 ((⟨0,(⟨[],[]⟩:Ad),(⟨(⟨[]⟩:Ak),0,0,0⟩:Ai),(Aa.rep 6 ((Aa.rep 6 (0:Int)):(Aa 6 Int)))⟩:Ac):Ac)),0)=some (.brk v)/\Ok v [] 0:=by
 obtain⟨m,rfl⟩:∃ m,k=m+4:=⟨k - 4,by omega⟩
 have step:∀ (i:Nat) (v:Aa 3 Ac),i<=2->∃ h,Bp.b0 (m+4) (v,(i:Int))=some (.next (v.set (i:Int) h,((i+1:Nat):Int)))/\HI h i [] 0/\h.Ap=lN/\h.Ai.Aq=1:=by
  intro i v hi
  obtain⟨h,g1,g2,g3,g4⟩:=ap1 hk hi
  have hw:ab ((i:Int)+1)=((i+1:Nat):Int):=by rw[aW (by omega) (by omega)];omega
  refine⟨h,?_,g2,g3,g4⟩
  unfold Bp.b0
  simp only[Au (show (i:Int)<3 by omega),Am,g1,Ae,abW v hi,hw]
 generalize (Aa.rep 3 ((⟨0,(⟨[],[]⟩:Ad),(⟨(⟨[]⟩:Ak),0,0,0⟩:Ai),(Aa.rep 6 ((Aa.rep 6 (0:Int)):(Aa 6 Int)))⟩:Ac):Ac))=v0
 obtain⟨a,a1,a2,a3,a4⟩:=step 0 v0 (by decide)
 obtain⟨b,b1,b2,b3,b4⟩:=step 1 (v0.set ((0:Nat):Int) a) (by decide)
 obtain⟨c,c1,c2,c3,c4⟩:=step 2 ((v0.set ((0:Nat):Int) a).set ((1:Nat):Int) b) (by decide)
 have e3:∀ v,Bp.b0 (m+4) (v,((3:Nat):Int))=some (.brk v):=fun v=>by unfold Bp.b0;rfl
 have yp:Bp.b0 (m+4) (v0,0)=some (.next (v0.set ((0:Nat):Int) a,((1:Nat):Int))):=a1
 have b1':Bp.b0 (m+4) (v0.set ((0:Nat):Int) a,((1:Nat):Int))=some (.next ((v0.set ((0:Nat):Int) a).set ((1:Nat):Int) b,((2:Nat):Int))):=b1
 have c1':Bp.b0 (m+4) ((v0.set ((0:Nat):Int) a).set ((1:Nat):Int) b,((2:Nat):Int))=some (.next (((v0.set ((0:Nat):Int) a).set ((1:Nat):Int) b).set ((2:Nat):Int) c,((3:Nat):Int))):=c1
 refine⟨((v0.set ((0:Nat):Int) a).set ((1:Nat):Int) b).set ((2:Nat):Int) c,by simp only[ai,yp,b1',c1',e3],by simp,fun _=>[],fun _=>0,?_⟩
 have h0:h3 (((v0.set ((0:Nat):Int) a).set ((1:Nat):Int) b).set ((2:Nat):Int) c) 0=a:=by rw[uB _ (by decide),if_neg (by decide),uB _ (by decide),if_neg (by decide),uB _ (by decide),if_pos rfl]
 have h1:h3 (((v0.set ((0:Nat):Int) a).set ((1:Nat):Int) b).set ((2:Nat):Int) c) 1=b:=by rw[uB _ (by decide),if_neg (by decide),uB _ (by decide),if_pos rfl]
 have h2:h3 (((v0.set ((0:Nat):Int) a).set ((1:Nat):Int) b).set ((2:Nat):Int) c) 2=c:=by rw[uB _ (by decide),if_pos rfl]
 have three:∀ i:Nat,i<=2->i=0\/i=1\/i=2:=fun i hi=>by omega
 refine⟨fun i hi=>?_,fun i hi=>?_,by decide,fun i hi r hr=>by simp at hr,fun i j hi hj ba r hr=>by simp at hr,fun q i x hq hi hx=>?_,by simp⟩
 ·rcases three i hi with rfl|rfl|rfl
  ·rw[h0];exact a2
  ·rw[h1];exact b2
  ·rw[h2];exact c2
 ·rcases three i hi with rfl|rfl|rfl
  ·rw[h0,a4];decide
  ·rw[h1,b4];decide
  ·rw[h2,c4];decide
 ·rcases three q hq with rfl|rfl|rfl
  ·rw[h0,a3,xy];omega
  ·rw[h1,b3,xy];omega
  ·rw[h2,c3,xy];omega
section
variable {k t:Nat}{v:Aa 3 Ac}{sl:List Av}
theorem Ok.jr (h:Ok v sl t) (ht:t<=14) {me:Nat} (hm:me<=2):∃ log aK a e0 c ep,Jr (h3 v me).Ad (h3 v me).Ai log aK a e0 c ep/\log.length<=14/\(h3 v me).Ai.Aq<=15/\(h3 v me).Me=(me:Int):=by
 obtain⟨h0,L,F,w⟩:=h
 have hl:=w.len hm
 have he:=w.ep me hm
 obtain⟨a,e0,c,ep,J⟩:=(w.hi me hm).jr
 exact⟨L me,F me,a,e0,c,ep,J,by omega,by omega,(w.hi me hm).me⟩
theorem Ok.skip (h:Ok v sl t):Ok v sl (t+1):=by
 obtain⟨h0,L,F,w⟩:=h
 exact⟨by omega,L,F,w.later (by omega)⟩
theorem Ok.acp (h:Ok v sl t) (hk:10000000<k) (ht:t<=14) {me to:Nat} (hm:me<=2) (qV:to<=2) (ba:to≠me):
  ∃ h' s,BK k (h3 v me) (to:Int)=some (h',s,0)/\Ok (v.set (me:Int) h') (sl++[s]) (t+1):=by
 obtain⟨h',s,g1,g2⟩:=h.offer (k:=k) (by omega) ht hm qV ba
 obtain⟨log,aK,a,e0,c,ep,J,_,_,_⟩:=h.jr ht hm
 obtain⟨y,y1,y2,_⟩:=J.acp hk (h3 v me).Me (h3 v me).Ai.Used (h3 v me).Ap (to:Int)
 have m8:eF k (h3 v me) (to:Int)=some y:=y1
 have rM:BK k (h3 v me) (to:Int)=some y:=y2
 rw[g1]at m8
 obtain rfl:=oi m8
 exact⟨h',s,rM,g2⟩
theorem Ok.acB (h:Ok v sl t) (hk:10000000<k) (ht:t<=14) {s:Av} (hs:s∈sl):
  ∃ u:Nat,u<=2/\s.To=(u:Int)/\∃ h' back,Bi k (h3 v u) s=some (h',back,0)/\back.length<=1/\∀ fR:List Av,(∀ x∈fR,x∈sl\/x∈back)->fR.length<=sl.length+1->Ok (v.set (u:Int) h') fR (t+1):=by
 obtain⟨u,u1,u2,h',back,g1,g2,g3⟩:=h.aax (k:=k) (by omega) ht hs
 obtain⟨log,aK,a,e0,c,ep,J,jl,_,_⟩:=h.jr ht u1
 obtain⟨y,y1,y2,_⟩:=J.acB hk (by omega) (h3 v u).Me (h3 v u).Ai.Used (h3 v u).Ap s
 have m8:bA k (h3 v u) s=some y:=y1
 have rM:Bi k (h3 v u) s=some y:=y2
 rw[g1]at m8
 obtain rfl:=oi m8
 exact⟨u,u1,u2,h',back,rM,g2,g3⟩
theorem Ok.acD (h:Ok v sl t) (hk:10000000<k) (ht:t<=14) {me:Nat} (hm:me<=2) (bD:List Int) (hp:bD.length<=4611686018427387904):
  ∃ h',Ds k (h3 v me) bD=some (h',0)/\Ok (v.set (me:Int) h') sl (t+1):=by
 obtain⟨h',g1,g2⟩:=h.aaz (k:=k) (by omega) ht hm bD hp
 obtain⟨log,aK,a,e0,c,ep,J,jl,je,_⟩:=h.jr ht hm
 obtain⟨y,y1,y2,_⟩:=J.acD hk (by omega) (h3 v me).Me (h3 v me).Ai.Used (h3 v me).Ap bD hp
 have m8:nT k (h3 v me) bD=some y:=y1
 have rM:Ds k (h3 v me) bD=some y:=y2
 rw[g1]at m8
 obtain rfl:=oi m8
 exact⟨h',rM,g2⟩
theorem Ok.aak (h:Ok v sl t) (hk:10000000<k) (ht:t<=14) {me:Nat} (hm:me<=2) (r:Ab):∃ y,Dh k (h3 v me) r=some y/\(y.2.2=0->Ok (v.set (me:Int) y.1) sl (t+1)):=by
 obtain⟨h0,L,F,w⟩:=h
 have hl:=w.len hm
 obtain⟨a,e0,c,ep,J⟩:=(w.hi me hm).jr
 have hMe:=(w.hi me hm).me
 obtain⟨y,y1,y2,y3,_⟩:=J.aak hk (by omega) (h3 v me).Me (h3 v me).Ai.Used (h3 v me).Ap r
 have m8:oU k (h3 v me) r=some y:=y1
 have rM:Dh k (h3 v me) r=some y:=y2
 refine⟨y,rM,fun he=>?_⟩
 rw[hMe]at y3
 cases hr:bC ⟨⟨(me:Int),((ao ag (L me) (me:Int):Nat):Int)⟩,r.Kind,r.Day,r.Ap,r.Of,r.Text⟩ with
 |false=>exact absurd he (y3 hr)
 |true=>
  obtain⟨h',x,g1,g2,L',g3⟩:=w.note (k:=k) (by omega) hm (by omega) r hr
  rw[g1]at m8
  obtain rfl:=oi m8
  exact⟨by omega,_,_,by rw[abX v hm];exact g3⟩
theorem arM (h:Ok v sl t) (hk:10000000<k) (ht:t<=14) (y:BE) (ba:¬ sl.length=0):
  ∃ v' fR,((Cc k y.To (sl.length:Int)).bind fun cT=>
     (at? sl cT).bind fun gJ=>
     (v.at? gJ.To).bind fun iX=>
     (Bi k iX gJ).bind fun bE=>
     (dI sl.length 88).bind fun _=>
     bif decide (Int.tmod y.Ac 2=(0:Int)) then
      (ck sl 0 cT).bind fun j5=>
      (dI j5.length 88).bind fun _=>
      (ck sl (ab (cT+1)) sl.length).bind fun l28=>
      (cY 88 j5 l28).bind fun l29=>
      bif decide (bE.2.2=(0:Int)) then
       (cY 88 l29 bE.2.1).bind fun l32=>
       some (v.set gJ.To bE.1,l32)
      else
       some (v,sl)
     else
      bif decide (bE.2.2=(0:Int)) then
       (cY 88 sl bE.2.1).bind fun u3=>
       some (v.set gJ.To bE.1,u3)
      else
       some (v,sl))=some (v',fR)/\Ok v' fR (t+1):=by
 have eK:=h.1
 obtain⟨q,q1,q2⟩:=qv y.To (m:=sl.length) (by omega)
 obtain⟨s,hs⟩:∃ s,sl[q]?=some s:=⟨_,gG q1⟩
 obtain⟨u,u1,u2,h',back,g1,g2,g3⟩:=h.acB hk ht (A6 hs)
 have hw:ab ((q:Int)+1)=((q+1:Nat):Int):=by rw[aW (by omega) (by omega)];omega
 have fb:(sl.take q).length=q:=by rw[A8];omega
 have jo:(sl.drop (q+1)).length=sl.length - (q+1):=by rw[Bt]
 have uQ:dI sl.length 88=some ():=by unfold dI;rw[if_pos ⟨by omega,by omega⟩]
 have mK:dI (sl.take q).length 88=some ():=by unfold dI;rw[if_pos ⟨by omega,by omega⟩]
 rw[jN k y.To (m:=(sl.length:Int)) (by omega) (by omega),q2]
 simp only[Ae,bp hs,u2,abW v u1,g1,uQ]
 by_cases he:Int.tmod y.Ac 2=0
 ·simp only[Au he,Am,aj6 (show q<=sl.length by omega),Ae,mK,hw,aj5 (show q+1<=sl.length by omega)]
  rw[kz (by rw[fb,jo];omega) (by rw[fb,jo];omega)]
  simp only[Ae,Bf,Am]
  rw[kz (by rw[A1,fb,jo];omega) (by rw[A1,fb,jo];omega)]
  refine⟨_,_,rfl,g3 _ (fun x hx=>?_) ?_⟩
  ·rcases A9.1 hx with a|a
   ·left
    rcases A9.1 a with b|b
    ·exact BD b
    ·exact Cj b
   ·exact .inr a
  ·rw[A1,A1,fb,jo];omega
 ·simp only[AI he,An,Bf,Am]
  rw[kz (by omega) (by omega)]
  exact⟨_,_,rfl,g3 _ (fun x hx=>A9.1 hx) (by rw[A1];omega)⟩
theorem amc (h:Ok v sl t) (hk:10000000<k) (ht:t<14) (y:BE) (hp:y.Cx.length<=4611686018427387904):
  ∃ v' fR,Fg k v sl y=some (v',fR)/\Ok v' fR (t+1):=by
 have eK:=h.1
 have gX:1000000<k:=by omega
 obtain⟨me,m1,m2⟩:=qv y.Ac (m:=3) (by decide)
 obtain⟨kd,k1,k2⟩:=qv y.Kind (m:=8) (by decide)
 obtain⟨xV,t1,t2⟩:=qv y.To (m:=2) (by decide)
 have m2':y.Ac % 3=(me:Int):=m2
 have k2':y.Kind % 8=(kd:Int):=k2
 have t2':y.To % 2=(xV:Int):=t2
 have qV:Int.tmod (ab ((ab ((me:Int)+1))+(xV:Int))) 3=(((me+1+xV) % 3:Nat):Int):=by
  rw[aW (n:=(me:Int)+1) (by omega) (by omega),aW (by omega) (by omega)]
  rw[show (me:Int)+1+(xV:Int)=((me+1+xV:Nat):Int) by omega,show (3:Int)=((3:Nat):Int) from rfl,<-Int.ofNat_tmod]
 obtain⟨ho,s,o1,o2⟩:=h.acp hk (by omega) (me:=me) (to:=(me+1+xV) % 3) (by omega) (by omega) (by omega)
 obtain⟨hr,r1,r2⟩:=h.acD hk (by omega) (me:=me) (by omega) y.Cx hp
 have sS:eO 88 sl s=some (sl++[s]):=nG (by omega) (by omega)
 have qS:dI sl.length 88=some ():=by unfold dI;rw[if_pos ⟨by omega,by omega⟩]
 have recv:=fun(ba:¬ sl.length=0)=>arM (k:=k) h hk (by omega) y ba
 unfold Fg
 simp only[jN k y.Ac (m:=3) (by decide) (by decide),jN k y.Kind (m:=8) (by decide) (by decide),m2',k2',Ae,abW v (show me<=2 by omega)]
 by_cases c3:kd=3
 ·simp only[Au (show (kd:Int)=3 by omega),Am,jN k y.To (m:=2) (by decide) (by decide),t2',qV,o1,Bf,qS,sS,Ae]
  exact⟨_,_,rfl,o2⟩
 simp only[AI (show ¬ (kd:Int)=3 by omega),An]
 by_cases c4:kd=4
 ·simp only[Au (show (kd:Int)=4 by omega),Am,jN k y.To (m:=2) (by decide) (by decide),t2',qV,o1,Bf,qS,sS,Ae]
  exact⟨_,_,rfl,o2⟩
 simp only[AI (show ¬ (kd:Int)=4 by omega),An]
 by_cases c5:kd=5
 ·simp only[Au (show (kd:Int)=5 by omega),Am]
  by_cases hz:sl.length=0
  ·simp only[Au (show ((sl.length:Nat):Int)=0 by omega),Am]
   exact⟨_,_,rfl,h.skip⟩
  ·simp only[AI (show ¬ ((sl.length:Nat):Int)=0 by omega),An]
   exact recv hz
 simp only[AI (show ¬ (kd:Int)=5 by omega),An]
 by_cases c6:kd=6
 ·simp only[Au (show (kd:Int)=6 by omega),Am]
  by_cases hz:sl.length=0
  ·simp only[Au (show ((sl.length:Nat):Int)=0 by omega),Am]
   exact⟨_,_,rfl,h.skip⟩
  ·simp only[AI (show ¬ ((sl.length:Nat):Int)=0 by omega),An]
   exact recv hz
 simp only[AI (show ¬ (kd:Int)=6 by omega),An]
 by_cases c7:kd=7
 ·simp only[Au (show (kd:Int)=7 by omega),Am,r1,Ae,Bf]
  exact⟨_,_,rfl,r2⟩
 simp only[AI (show ¬ (kd:Int)=7 by omega),An]
 obtain⟨log,aK,a,e0,c,ep,J,jl,_,_⟩:=h.jr (by omega) (me:=me) (by omega)
 obtain⟨_,_,c3',c4'⟩:=J.counts hk
 obtain⟨r,q1,q2,_,_⟩:=ara gX (l:=(h3 v me).Ai.Ak.Ah) (by omega) c4' y.Ab
 have q3:=vk q2
 have aot:ug (⟨#[111,102,32]⟩:ByteArray) r.Text=some ((⟨#[111,102,32]⟩:ByteArray)++r.Text):=by
  unfold ug
  rw[if_pos (by
   have:(⟨#[111,102,32]⟩:ByteArray).size=3:=rfl
   omega)]
 obtain⟨z,z1,z2⟩:=h.aak hk (by omega) (me:=me) (by omega) (⟨(⟨0,0⟩:Entry),5,r.Day,r.Ap,(⟨0,0⟩:Entry),(⟨#[111,102,32]⟩:ByteArray)++r.Text⟩:Ab)
 obtain⟨x,x1,x2⟩:=h.aak hk (by omega) (me:=me) (by omega) r
 simp only[q1,Ae,aot,z1,x1]
 cases decide (r.At.Ac=(me:Int)) with
 |true=>
  simp only[AO,An]
  by_cases he:x.2.2=0
  ·simp only[Au he,Am];exact⟨_,_,rfl,x2 he⟩
  ·simp only[AI he,An];exact⟨_,_,rfl,h.skip⟩
 |false=>
  simp only[Bn,Am]
  by_cases he:z.2.2=0
  ·simp only[Au he,Am];exact⟨_,_,rfl,z2 he⟩
  ·simp only[AI he,An];exact⟨_,_,rfl,h.skip⟩
end
theorem aoW {k:Nat} (hk:10000000<k) (l:List BE) (hp:∀ y∈l,y.Cx.length<=4611686018427387904):∃ v sl t,Bp k l=some (v,sl)/\t<=14/\Ok v sl t:=by
 obtain⟨v0,n1,n2⟩:=ap5 hk
 have key:∀ (n t m:Nat) (v:Aa 3 Ac) (sl:List Av),t+n=min 14 l.length->n<m->Ok v sl t->∃ v' fR,ai (Bp.b1 k l) m (v,sl,(t:Int))=some (.brk (v',fR))/\Ok v' fR (t+n):=by
  intro n
  induction n with
  |zero=>
   intro t m v sl h1 h2 h
   obtain⟨m,rfl⟩:∃ q,m=q+1:=⟨m - 1,by omega⟩
   have hb:Bp.b1 k l (v,sl,(t:Int))=some (.brk (v,sl)):=by
    unfold Bp.b1
    by_cases hl:(t:Int)<(l.length:Int)
    ·simp only[Au hl,Am,AI (show ¬ (t:Int)<14 by omega),An]
    ·simp only[AI hl,An]
   exact⟨v,sl,by simp only[ai,hb],h⟩
  |succ n ih=>
   intro t m v sl h1 h2 h
   obtain⟨m,rfl⟩:∃ q,m=q+1:=⟨m - 1,by omega⟩
   obtain⟨y,hy⟩:∃ y,l[t]?=some y:=⟨_,gG (by omega)⟩
   obtain⟨v1,sl1,g1,g2⟩:=amc h hk (by omega) y (hp y (A6 hy))
   obtain⟨v',fR,k1,k2⟩:=ih (t+1) m v1 sl1 (by omega) (by omega) g2
   have hw:ab ((t:Int)+1)=((t+1:Nat):Int):=by rw[aW (by omega) (by omega)];omega
   have hb:Bp.b1 k l (v,sl,(t:Int))=some (.next (v1,sl1,((t+1:Nat):Int))):=by
    unfold Bp.b1
    simp only[Au (show (t:Int)<(l.length:Int) by omega),Am,Au (show (t:Int)<14 by omega),bp hy,Ae,g1,hw]
   exact⟨v',fR,by simp only[ai,hb,k1],by rw[show t+(n+1)=t+1+n by omega];exact k2⟩
 obtain⟨v',fR,k1,k2⟩:=key (min 14 l.length) 0 k v0 [] (by omega) (by omega) n2
 rw[Cz]at k1
 refine⟨v',fR,_,?_,by omega,k2⟩
 unfold Bp
 rw[n1]
 simp only[Ae,k1]
section
variable {d:Ad}{l:Ai}{log:List Ab}{aK a:Nat}{e0 c:Int}{ep:Nat->Int}{k:Nat}
theorem aoX (J:Jr d l log aK a e0 c ep) (hk:10000000<k) (hlen:log.length+8<=50) (hE:l.Aq<1000000) (Me u:Int) (K:Aa 6 (Aa 6 Int)) (to:Int) (r:Ab) (s:Av) (bD:List Int) (hp:bD.length<=4611686018427387904):(
  (rY k to).bind fun iX=>
  (DL k to).bind fun bE=>
  (oU k (⟨Me,d,⟨l.Ak,l.AS,l.Aq,u⟩,K⟩:Ac) r).bind fun fu=>
  (Dh k (⟨Me,d,⟨l.Ak,l.AS,l.Aq,u⟩,K⟩:Ac) r).bind fun cJ=>
  (eF k (⟨Me,d,⟨l.Ak,l.AS,l.Aq,u⟩,K⟩:Ac) to).bind fun la=>
  (BK k (⟨Me,d,⟨l.Ak,l.AS,l.Aq,u⟩,K⟩:Ac) to).bind fun kg=>
  (bA k (⟨Me,d,⟨l.Ak,l.AS,l.Aq,u⟩,K⟩:Ac) s).bind fun mZ=>
  (Bi k (⟨Me,d,⟨l.Ak,l.AS,l.Aq,u⟩,K⟩:Ac) s).bind fun kj=>
  (nT k (⟨Me,d,⟨l.Ak,l.AS,l.Aq,u⟩,K⟩:Ac) bD).bind fun rJ=>
  (Ds k (⟨Me,d,⟨l.Ak,l.AS,l.Aq,u⟩,K⟩:Ac) bD).bind fun m7=>
  (CT k iX.1 bE.1).bind fun fv=>
  (CT k fu.1 cJ.1).bind fun yd=>
  (CT k la.1 kg.1).bind fun tX=>
  (CT k mZ.1 kj.1).bind fun rK=>
  (CT k rJ.1 m7.1).bind fun yf=>
  (DZ k la.2.1 kg.2.1).bind fun x37=>
  (Ck k mZ.2.1 kj.2.1).bind fun rL=>
  bif true then
   bif fv then
    bif decide (iX.2=bE.2) then
     bif yd then
      bif (decide (fu.2.1.At.Ac=cJ.2.1.At.Ac)&&(decide (fu.2.1.At.No=cJ.2.1.At.No)&&(decide (fu.2.1.Kind=cJ.2.1.Kind)&&(decide (fu.2.1.Day=cJ.2.1.Day)&&(decide (fu.2.1.Ap=cJ.2.1.Ap)&&(decide (fu.2.1.Of.Ac=cJ.2.1.Of.Ac)&&(decide (fu.2.1.Of.No=cJ.2.1.Of.No)&&(fu.2.1.Text.toList==cJ.2.1.Text.toList)))))))) then
       bif decide (fu.2.2=cJ.2.2) then
        bif tX then
         bif x37 then
          bif decide (la.2.2=kg.2.2) then
           bif rK then
            bif rL then
             bif decide (mZ.2.2=kj.2.2) then
              bif yf then
               some (decide (rJ.2=m7.2))
              else
               some false
             else
              some false
            else
             some false
           else
            some false
          else
           some false
         else
          some false
        else
         some false
       else
        some false
      else
       some false
     else
      some false
    else
     some false
   else
    some false
  else
   some false)=some true:=by
 obtain⟨y0,a1,a2,a3⟩:=aiY hk to
 obtain⟨y1,b1,b2,_,b3⟩:=J.aak hk (by omega) Me u K r
 obtain⟨y2,c1,c2,c3,c4⟩:=J.acp hk Me u K to
 obtain⟨y3,d1,d2,d3,d4,d5⟩:=J.acB hk hlen Me u K s
 obtain⟨y4,f1,f2,f3⟩:=J.acD hk hE Me u K bD hp
 rw[a1,Ae,a2,Ae,b1,Ae,b2,Ae,c1,Ae,c2,Ae,d1,Ae,d2,Ae,f1,Ae,f2,Ae,aaA hk a3,Ae,aaA hk b3,Ae,aaA hk c3,Ae,aaA hk d3,Ae,aaA hk f3,Ae,ajP hk c4,Ae,aro hk d4 d5,Ae]
 simp only[Am,Bf,beq_self_eq_true,Bool.and_self]
end
theorem ams (l0:List BE) (x1:Ct) (hp:∀ y∈l0,y.Cx.length<=4611686018427387904) (hq:x1.Cx.length<=4611686018427387904):Cw 18446744073709551616 l0 x1=some true:=by
 have hk:10000000<18446744073709551616:=by decide
 obtain⟨v,sl,t,h1,h2,h⟩:=aoW hk l0 hp
 obtain⟨me,m1,m2⟩:=qv x1.Ac (m:=3) (by decide)
 obtain⟨q,q1,q2⟩:=qv x1.Dj (m:=10) (by decide)
 have m2':x1.Ac % 3=(me:Int):=m2
 have q2':x1.Dj % 10=(q:Int):=q2
 obtain⟨log,aK,a,e0,c,ep,J,jl,je,jm⟩:=h.jr h2 (me:=me) (by omega)
 have T:=fun(Me u:Int) (K:Aa 6 (Aa 6 Int)) (s:Av)=>aoX J hk (by omega) (by omega) Me u K x1.To x1.Ab s x1.Cx hq
 unfold Cw
 rw[arq,Ae,h1,Ae,jN _ x1.Ac (m:=3) (by decide) (by decide),Ae,m2',abW v (show me<=2 by omega),Ae,jN _ x1.Dj (m:=10) (by decide) (by decide),Ae,q2']
 generalize h3 v me=x5 at J je jm T
 unfold Cw.j0
 by_cases c0:(q:Int)=0
 ·rw[Au c0,Am,Ae]
  exact T (ab (x5.Me+x1.By)) x5.Ai.Used x5.Ap x1.Av
 rw[AI c0,An]
 by_cases c1:(q:Int)=1
 ·rw[Au c1,Am]
  obtain⟨i,i1,i2⟩:=qv x1.By (m:=6) (by decide)
  obtain⟨j,j1,j2⟩:=qv x1.To (m:=6) (by decide)
  have i2':x1.By % 6=(i:Int):=i2
  have j2':x1.To % 6=(j:Int):=j2
  rw[jN _ x1.By (m:=6) (by decide) (by decide),Ae,jN _ x1.To (m:=6) (by decide) (by decide),Ae,i2',j2',rb x5.Ap i1,Ae,n4 (kr x5.Ap i) j1,Ae,Ae]
  exact T x5.Me x5.Ai.Used (x5.Ap.set (i:Int) ((kr x5.Ap i).set (j:Int) x1.By)) x1.Av
 rw[AI c1,An]
 by_cases c2:(q:Int)=2
 ·rw[Au c2,Am,Ae]
  exact T x5.Me (ab (x5.Ai.Used+x1.By)) x5.Ap x1.Av
 rw[AI c2,An]
 by_cases c3:(q:Int)=3
 ·rw[Au c3,Am]
  by_cases hz:(0:Int)<(sl.length:Int)
  ·rw[Au hz,Am]
   obtain⟨i,i1,i2⟩:=qv x1.By (m:=sl.length) (by omega)
   have eK:=h.1
   obtain⟨s,hs⟩:∃ s,sl[i]?=some s:=⟨_,gG i1⟩
   rw[jN _ x1.By (m:=(sl.length:Int)) (by omega) (by omega),Ae,i2,bp hs,Ae,Ae]
   exact T x5.Me x5.Ai.Used x5.Ap s
  ·rw[AI hz,An,Ae]
   exact T x5.Me x5.Ai.Used x5.Ap x1.Av
 rw[AI c3,An,Ae]
 exact T x5.Me x5.Ai.Used x5.Ap x1.Av
end Go.Abs
namespace Go.Proofs.YtpgccpdlilnakaaGreat.bookHouses
open Go.Abs
theorem plain (a0:(List Go.Abs.BE)) (a1:Go.Abs.Ct):(fun l=>l.length<=Go.maxLen/\l.length*88<=qB/\∀ a∈l,Go.Abs.BE.q a) a0->Go.Abs.Ct.q a1->∃ k,Cw k a0 a1=some true:=by
 intro q0 q1;exact⟨_,ams a0 a1 (fun y hy=>by have h:=(q0.2.2 y hy).2.2.2.2;have h2:=h.2.1;have:=ajl;omega) (by have h2:=q1.2.2.2.2.1.2.1;have:=ajl;omega)⟩
end Go.Proofs.YtpgccpdlilnakaaGreat.bookHouses
namespace Go.Proofs.YtpgccpdlilnakaaGreat.bookHouses
open Go.ChangeShapes Go.WideShapes Go.ChangeAt Go.RowKit Go.Abs
theorem own:ownKnob Tryz.prog.godebug=none:=by kernel_rfl
theorem anh (H:Type) (enc:TypeId×Value->H) (W:World) (base:Nat) (args:Array Value) (ds gs:List (DataW H)) (before:List MemPlace)
  (qW:∀ (j:Nat) t v,Tryz.f4.params[j]?=some t->args[j]?=some v->Value.okWide Tryz.prog W .any base t v)
  (hW:DataW.Whole enc Tryz.prog Tryz.f4.params.toList Rows.bookHousesSpec.vars false W args.toList ds gs before) (ao8:(DataW.weightsEach Tryz.prog (Tryz.f4.params.toList++Rows.bookHousesSpec.plain.varTypes Tryz.prog) (ds++gs)).all (·<=reachBytes)=true):
  Calls Tryz.prog 4 args W fun e W'=>∃ v,e=.returned v/\Rows.bookHousesSpec.post enc Tryz.prog Tryz.f4 false true false false W args v W':=by
 have hW':=hW
 obtain⟨p,q,hA0,hV,rfl,oc,bY⟩:=hW
 have hA:DataW.TrodAll enc Tryz.prog W 0 (fun _=>true) true Tryz.f4.params.toList args.toList ds p:=hA0
 rw[Tryz.params4]at hA qW
 obtain⟨v0,vs0,d0,ds0,p0,q0,fC,rfl,rfl,h0,r0⟩:=trodAll_cons hA
 obtain⟨v1,vs1,d1,ds1,p1,q1,rfl,rfl,rfl,h1,r1⟩:=trodAll_cons r0
 obtain⟨rfl,rfl,rfl⟩:=trodAll_nil r1
 have aC:∀ (j:Nat) t d,Tryz.f4.params.toList[j]?=some t->[d0,d1][j]?=some d->∀ n∈d.weights Tryz.prog t,n<=reachBytes:=asc (by rw[Tryz.params4];rfl) ao8
 rw[Tryz.params4]at aC
 obtain rfl:args=#[v0,v1]:=by cases args;simp_all
 obtain⟨a0,Q0,V0⟩:=aml aq1 (by have h:=qW 0 54 v0 rfl rfl;unfold Value.okWide at h;rw[Tryz.underlying54]at h;unfold Cell.okWide Cell.ok at h;rw[Tryz.underlying54]at h;cases v0<;>first|rfl|(simp at h;done)) (fun l=>AV.sl 9 (List.map Go.Abs.BE.c l)) (fun _=>rfl) h0 (aC 0 54 d0 rfl rfl)
 obtain⟨a1,Q1,V1⟩:=amk aq4 (by have h:=qW 1 60 v1 rfl rfl;unfold Value.okWide at h;rw[Tryz.underlying60]at h;obtain⟨cs,h,_⟩:=h;exact⟨cs,h⟩) h1 (aC 1 60 d1 rfl rfl)
 obtain⟨k,hk⟩:=plain a0 a1 Q0 Q1
 have hv:AG (jD W) [] [.sl 9 (List.map Go.Abs.BE.c a0),.agg (Go.Abs.Ct.c a1)] [v0,v1]:=⟨rfl,fun i x v h1 h2=>by
  match i with
  |0=>cases h1;cases h2;exact V0
  |1=>cases h1;cases h2;exact V1
  |i+2=>simp at h1⟩
 refine Calls.mono ((I4 k a0 a1 true hk).2 (jD W) W _ (fun _ _ _ h=>h) hv) ?_
 rintro e W1 ⟨v,y,gV,rfl,rfl,_,bM,_,hB⟩
 cases bM
 exact⟨_,rfl,apJ (t:=4) (by kernel_rfl) (by kernel_rfl) (by kernel_rfl) hW' rfl hB (by rw[Tryz.params4];decide +kernel) rfl Tryz.underlying4 (by obtain⟨rfl,_⟩:=trodVars_none hV;rfl)⟩
theorem lifted (os:Os) (started:os.Started) (H:Type) (enc:TypeId×Value->H):
  ReturnsInHanded {} Tryz.checked os 4 .any (Rows.bookHousesSpec.pre6 enc Tryz.prog Tryz.f4 Rows.bookHousesRow.domain false) (Rows.bookHousesSpec.post enc Tryz.prog Tryz.f4 false true false false):=by
 refine returnsInHanded_of_change_sized (C:=Tryz.checked) own started (by kernel_rfl) Tryz.func4
  (ChangeSpec.witness6 (enc:=enc) (C:=Tryz.checked) false ⟨#[],#[.slice none 0 0,.agg #[.int .i64 0,.int .i64 0,.int .i64 0,.int .i64 0,.int .i64 0,.int .i64 0,.int .i64 0,.int .i64 0,.int .i64 0,.string ⟨#[]⟩,.int .i64 0,.int .i64 0,.int .i64 0,.int .i64 0,.int .i64 0,.int .i64 0,.int .i64 0,.int .i64 0,.slice none 0 0,.slice none 0 0,.int .i64 0,.int .i64 0]],[]⟩ 8 (by kernel_rfl) (by kernel_rfl) (by kernel_rfl) (by kernel_rfl)) ?_
 intro W base args ds gs before apf hW qH aC _
 exact anh H enc W base args ds gs before apf hW aC
theorem aqv:Rows.bookHousesRow.holds Tryz.pinned (OpenSpec.ofChange Rows.bookHousesSpec):=
 OpenClaim.holds_of_wide 4 Tryz.f4 rfl rfl rfl rfl rfl rfl rfl ⟨rfl,rfl,rfl,rfl,rfl⟩ rfl rfl rfl rfl rfl (by kernel_rfl) Tryz.func4 (by kernel_rfl)
  (of_decide_eq_true (by kernel_rfl)) (by unfold Func.isWrapper;first|(rw[if_pos (by decide +kernel)];kernel_rfl)|(rw[if_neg (by decide +kernel)];exact⟨rfl,rfl⟩))
  (fun os started H enc _=>lifted os started H enc)
theorem proved:Rows.BookHousesSaid:=aqv
end Go.Proofs.YtpgccpdlilnakaaGreat.bookHouses
