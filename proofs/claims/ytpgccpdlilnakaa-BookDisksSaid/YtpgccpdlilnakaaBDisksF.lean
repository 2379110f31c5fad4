/-
  Part 6 of the proof: a machine over named blocks, what each function computes, and what follows. No condition.
-/
import Derived.Test.YtpgccpdlilnakaaRows
import Derived.WalkKit
import Derived.ProofKit
import Derived.OpenShut
import Derived.JoinedCond
import Derived.Test.YtpgccpdlilnakaaBDisksE
set_option linter.unusedVariables false
set_option linter.unusedSimpArgs false
set_option linter.all false
set_option maxRecDepth 100000
set_option maxHeartbeats 8000000
namespace Go.Abs
open Go Go.Proofs
theorem aeu {k:Nat} (hk:100<k) {l:List Int} (hb:AY l) (hl:l.length<=5):BH k l=some (bm l):=by
 unfold BH
 rw[aip hb hl (k:=k) (by omega) (fun i x s hx=>by
  have hi:=(gS.1 hx).1
  unfold BH.b0
  simp only[AD (show (i:Int)<(l.length:Int) by omega),Al,bC hx,Af]) (fun s=>by
  unfold BH.b0
  simp only[(by simp:decide ((l.length:Int)<(l.length:Int))=false),Aj])]
 rfl
def nD:Ab:=⟨⟨0,0⟩,0,0,0,⟨0,0⟩,ByteArray.empty⟩
def decode (b:List Int):Ab×Int:=match gE b with
 |some (r,[])=>bif df r then (r,0) else (nD,90)
 |_=>(nD,90)
theorem sj {l:List Int}{i j:Nat} (h1:i<=j) (h2:j<=l.length):cw l (i:Int) (j:Int)=some ((l.drop i).take (j - i)):=by
 unfold cw
 rw[if_pos (by omega),Ck,Ck]
theorem amc {k:Nat} (hk:1000<k) {b:List Int} (hb:AY b) (hlen:b.length<=4611686018427387904):Ec k b=some (decode b):=by
 unfold Ec decode gE
 by_cases jc:b.length<16
 ·rw[if_pos jc]
  have:decide ((b.length:Int)<(16:Int))=true:=by simp;omega
  simp only[this,AX,Aj]
  rfl
 ·rw[if_neg jc]
  have hx:b[15]?=some (b[15]'(by omega)):=gG (by omega)
  have hM:ck b=b[15]'(by omega):=by
   unfold ck
   rw[List.drop_eq_getElem_cons (show 15<b.length by omega)]
   exact aiq _
  have hM0:=hb _ (AW hx)
  rw[<-hM]at hM0
  have e1:decide ((b.length:Int)<(16:Int))=false:=by simp;omega
  have e2:ab (16+(ab (ck b)))=16+ck b:=by
   rw[aV (n:=ck b) (by omega) (by omega),aV (by omega) (by omega)]
  have je:at? b 15=some (ck b):=by
   have:=bC hx
   rw[hM];exact this
  simp only[e1,Bj,Al,je,Af,e2]
  by_cases ae:(b.length:Int)<16+ck b
  ·rw[if_pos ae]
   have:decide ((b.length:Int)=16+ck b)=false:=by simp;omega
   simp only[this,Bj,Al]
   rfl
  ·rw[if_neg ae]
   by_cases he:(b.length:Int)=16+ck b
   ·have s1:cw b 0 1=some (b.take 1):=sj (i:=0) (j:=1) (by omega) (by omega)
    have s2:cw b 1 3=some ((b.drop 1).take 2):=sj (i:=1) (j:=3) (by omega) (by omega)
    have s3:cw b 3 4=some ((b.drop 3).take 1):=sj (i:=3) (j:=4) (by omega) (by omega)
    have s4:cw b 4 8=some ((b.drop 4).take 4):=sj (i:=4) (j:=8) (by omega) (by omega)
    have s5:cw b 8 12=some ((b.drop 8).take 4):=sj (i:=8) (j:=12) (by omega) (by omega)
    have s6:cw b 12 13=some ((b.drop 12).take 1):=sj (i:=12) (j:=13) (by omega) (by omega)
    have s7:cw b 13 15=some ((b.drop 13).take 2):=sj (i:=13) (j:=15) (by omega) (by omega)
    have s8:cw b 16 (b.length:Int)=some (b.drop 16):=by
     have:=sj (l:=b) (i:=16) (j:=b.length) (by omega) (by omega)
     rw[CA (by rw[Bi];omega)]at this
     exact this
    have R:∀ (i n:Nat),n<=5->BH k ((b.drop i).take n)=some (bm ((b.drop i).take n)):=fun i n hn=>aeu (by omega) ((hb.drop i).take n) (by rw[Bb];omega)
    have R0:BH k (b.take 1)=some (bm (b.take 1)):=aeu (by omega) (hb.take 1) (by rw[Bb];omega)
    have ed:decide ((b.length:Int)=16+ck b)=true:=AD he
    have ry:(⟨(⟨bm (b.take 1),bm ((b.drop 1).take 2)⟩:Entry),bm ((b.drop 3).take 1),bm ((b.drop 4).take 4),bm ((b.drop 8).take 4),(⟨bm ((b.drop 12).take 1),bm ((b.drop 13).take 2)⟩:Entry),strOf (b.drop 16)⟩:Ab)=xB b ((b.drop 16).take (ck b).toNat):=by
     rw[CA (l:=b.drop 16) (i:=(ck b).toNat) (by rw[Bi];omega)];rfl
    have tL:(b.drop 16).drop (ck b).toNat=[]:=Dz (by rw[Bi];omega)
    simp only[ed,AX,Aj,s1,s2,s3,s4,s5,s6,s7,s8,Af,R0,R 1 2 (by omega),R 3 1 (by omega),R 4 4 (by omega),R 8 4 (by omega),R 12 1 (by omega),R 13 2 (by omega),ry,xy hk,tL]
    cases df (xB b ((b.drop 16).take (ck b).toNat))<;>rfl
   ·have:decide ((b.length:Int)=16+ck b)=false:=by simp;omega
    simp only[this,Bj,Al]
    have bh:(b.drop 16).drop (ck b).toNat≠[]:=by
     intro h
     have:=congrArg List.length h
     rw[Bi,Bi]at this
     simp at this
     omega
    cases hq:(b.drop 16).drop (ck b).toNat with
    |nil=>exact absurd hq bh
    |cons x l=>rfl
theorem ahR {k:Nat} (hk:1000000<k) {l:List Ab} (hl:l.length<=100000) (hh:∀ r∈l,jk r):Cj k l=some (qX l):=by
 unfold Cj
 rw[af1 (l:=l) (body:=Cj.b0 k l) (fun i s=>(s,i)) hl hh hk (fun i r s hx=>by
  have hi:=(gS.1 hx).1
  unfold Cj.b0
  simp only[AD (show (i:Int)<(l.length:Int) by omega),Al,bC hx,Af]) (fun s=>by
  unfold Cj.b0
  simp only[(by simp:decide ((l.length:Int)<(l.length:Int))=false),Aj])]
 rfl
theorem afg (k:Nat) (a b:Entry):E5 k a b=some (decide (fA (cr a) (cr b))):=by
 unfold E5 fA cr
 by_cases h1:a.Ap<b.Ap
 ·simp[h1]
 ·by_cases h2:a.Ap=b.Ap
  ·simp[h2]
  ·simp[h1,h2]
theorem aiT {α:Type}{l:List α}{i j:Nat} (h1:i<=j) (h2:j<=l.length):cw l (i:Int) (j:Int)=some ((l.drop i).take (j - i)):=by
 unfold cw
 rw[if_pos (by omega),Ck,Ck]
theorem aqv {α:Type}{l:List α}{i:Nat} (h2:i<=l.length):cw l 0 (i:Int)=some (l.take i):=aiT (i:=0) (by omega) h2
theorem aqu {α:Type}{l:List α}{i:Nat} (h2:i<=l.length):cw l (i:Int) (l.length:Int)=some (l.drop i):=by
 have:=aiT (l:=l) (i:=i) (j:=l.length) h2 (Bd _)
 rw[CA (by rw[Bi];omega)]at this
 exact this
theorem agL {k:Nat}{l:List Ab} (hl:l.length<=100000) (hk:1000000<k) (e:Entry):
  (∃ (i:Nat) (x:Ab),BP k l e=some (i:Int)/\l[i]?=some x/\ag x=cr e)\/(BP k l e=some (-1)/\∀ x∈l,ag x≠cr e):=by
 have hc:∀ x:Ab,(decide (x.At.Ap=e.Ap)&&decide (x.At.No=e.No))=decide (ag x=cr e):=fun x=>by
  unfold ag cr
  simp only[Prod.mk.injEq]
  by_cases h1:x.At.Ap=e.Ap<;>by_cases h2:x.At.No=e.No<;>simp[h1,h2]
 have key:∀ (d i m:Nat),i+d=l.length->d<m->(∃ (j:Nat) (x:Ab),aj (BP.b0 k l e) m (i:Int)=some (.ret (j:Int))/\l[j]?=some x/\ag x=cr e)\/(aj (BP.b0 k l e) m (i:Int)=some (.brk ())/\∀ x∈l.drop i,ag x≠cr e):=by
  intro d
  induction d with
  |zero=>
   intro i m h1 h2
   obtain⟨m,rfl⟩:∃ q,m=q+1:=⟨m - 1,by omega⟩
   have e1:decide ((i:Int)<(l.length:Int))=false:=by simp;omega
   have hb:BP.b0 k l e (i:Int)=some (.brk ()):=by
    unfold BP.b0
    simp only[e1,Aj]
   right
   refine⟨by simp only[aj,hb],?_⟩
   rw[Dz (by omega)]
   intro x hx;cases hx
  |succ d ih=>
   intro i m h1 h2
   obtain⟨m,rfl⟩:∃ q,m=q+1:=⟨m - 1,by omega⟩
   obtain⟨x,hx⟩:∃ x,l[i]?=some x:=⟨_,gG (by omega)⟩
   have hw:ab ((i:Int)+1)=((i+1:Nat):Int):=by rw[aV (by omega) (by omega)];omega
   by_cases he:ag x=cr e
   ·left
    have hb:BP.b0 k l e (i:Int)=some (.ret (i:Int)):=by
     unfold BP.b0
     simp only[AD (show (i:Int)<(l.length:Int) by omega),Al,bC hx,Af,hc,AD he]
    exact⟨i,x,by simp only[aj,hb],hx,he⟩
   ·have hb:BP.b0 k l e (i:Int)=some (.next ((i+1:Nat):Int)):=by
     unfold BP.b0
     simp only[AD (show (i:Int)<(l.length:Int) by omega),Al,bC hx,Af,hc,AI he,Aj,hw]
    have vG:l.drop i=x::l.drop (i+1):=by
     have:=(gS.1 hx)
     obtain⟨h3,h4⟩:=this
     rw[List.drop_eq_getElem_cons h3,h4]
    rcases ih (i+1) m (by omega) (by omega) with ⟨j,y,g1,g2,g3⟩|⟨g1,g2⟩
    ·exact .inl ⟨j,y,by simp only[aj,hb,g1],g2,g3⟩
    ·right
     refine⟨by simp only[aj,hb,g1],fun y hy=>?_⟩
     rw[vG]at hy
     rcases BD.1 hy with rfl|hy
     ·exact he
     ·exact g2 y hy
 unfold BP
 rcases key l.length 0 k (by omega) (by omega) with ⟨j,x,h1,h2,h3⟩|⟨h1,h2⟩
 ·left
  rw[CT]at h1
  exact⟨j,x,by rw[h1];rfl,h2,h3⟩
 ·right
  rw[CT]at h1
  exact⟨by rw[h1];rfl,fun x hx=>h2 x (by simpa using hx)⟩
def ey (l:List Ab) (r:Ab):List Ab×Int:=match gF ag l (ag r) with
 |some x=>if x=r then (l,0) else ([],92)
 |none=>if (ax ag l r.At.Ap:Int)<r.At.No then ([],93) else if (l.length:Int)=60 then ([],2) else (eo ag l r,0)
theorem afY {k:Nat}{l:List Ab} (hl:l.length<=1000):Ee k l=some l:=by
 unfold Ee fp
 rw[if_pos ⟨by omega,by omega⟩];rfl
theorem alY {k:Nat}{l:List Ab} (hl:l.length<=1000):E7 k l=some l:=by
 unfold E7 fp
 rw[if_pos ⟨by omega,by omega⟩];rfl
theorem apD {k0:Nat}{l:List Ab} (hs:CC ag l) (hl:l.length<=1000) (r:Ab):∀ (d i k:Nat),pos ag l (ag r) - i<=d->d<k->i<=pos ag l (ag r)->
  aj (B8.b0 k0 l r) k (i:Int)=some (.brk ((pos ag l (ag r):Nat):Int)):=by
 have hp:=zP ag l (ag r)
 intro d
 induction d with
 |zero=>
  intro i k h1 h2 h3
  obtain⟨m,rfl⟩:∃ q,k=q+1:=⟨k - 1,by omega⟩
  have hi:i=pos ag l (ag r):=by omega
  have hb:B8.b0 k0 l r (i:Int)=some (.brk (i:Int)):=by
   unfold B8.b0
   by_cases ae:i<l.length
   ·have hx:l[i]?=some l[i]:=gG ae
    have ej:cr l[i].At=ag l[i]:=rfl
    have adB:cr r.At=ag r:=rfl
    have:=qy ag hs (ag r) hx
    simp only[AD (show (i:Int)<(l.length:Int) by omega),Al,bC hx,Af,afg,ej,adB,AI (show ¬ fA (ag l[i]) (ag r) from fun c=>by have:=this.1 c;omega),Aj]
   ·simp only[AI (show ¬ (i:Int)<(l.length:Int) by omega),Aj]
  simp only[aj,hb]
  rw[hi]
 |succ d ih=>
  intro i k h1 h2 h3
  obtain⟨m,rfl⟩:∃ q,k=q+1:=⟨k - 1,by omega⟩
  by_cases ae:i<pos ag l (ag r)
  ·have hx:l[i]?=some (l[i]'(by omega)):=gG (by omega)
   have ej:cr (l[i]'(by omega)).At=ag (l[i]'(by omega)):=rfl
   have adB:cr r.At=ag r:=rfl
   have hw:ab ((i:Int)+1)=((i+1:Nat):Int):=by rw[aV (by omega) (by omega)];omega
   have hb:B8.b0 k0 l r (i:Int)=some (.next ((i+1:Nat):Int)):=by
    unfold B8.b0
    simp only[AD (show (i:Int)<(l.length:Int) by omega),Al,bC hx,Af,afg,ej,adB,AD ((qy ag hs (ag r) hx).2 ae),hw]
   simp only[aj,hb]
   exact ih (i+1) m (by omega) (by omega) (by omega)
  ·have hi:i=pos ag l (ag r):=by omega
   exact(by
    have:=ih i (m+1) (by omega) (by omega) h3
    exact this)
theorem aaJ {k:Nat} (hk:1000000<k) {l:List Ab} (hs:CC ag l) (hl:l.length<=900) (hh:∀ r∈l,jk r) {r:Ab} (hr:jk r):B8 k l r=some (ey l r):=by
 unfold B8 ey
 have ej:cr r.At=ag r:=rfl
 rcases agL (k:=k) (l:=l) (by omega) hk r.At with ⟨i,x,h1,h2,h3⟩|⟨h1,h2⟩
 ·rw[ej]at h3
  have hf:gF ag l (ag r)=some x:=by rw[<-h3];exact agI ag hs (AW h2)
  rw[h1,hf]
  simp only[Af,AD (show (0:Int)<=(i:Int) by omega),Al,bC h2]
  by_cases e:x=r
  ·subst e
   have:=aix x
   unfold kX at this
   rw[this]
   simp only[Al,afY (show l.length<=1000 by omega),Af,if_true]
  ·have:=aiw e
   unfold kX at this
   rw[this]
   simp only[Aj,if_neg e]
 ·rw[ej]at h2
  have hf:gF ag l (ag r)=none:=abc ag h2
  rw[h1,hf]
  have hp:=zP ag l (ag r)
  have ji:=apD (k0:=k) hs (by omega) r (pos ag l (ag r)) 0 k (by omega) (by omega) (by omega)
  rw[CT]at ji
  simp only[Af,(by decide:decide ((0:Int)<=-1)=false),Aj,ahR hk (show l.length<=100000 by omega) hh,aa1 _ hr.1 hr.2]
  by_cases hc:((ax ag l r.At.Ap:Nat):Int)<r.At.No
  ·simp only[AD hc,Al,if_pos hc]
  ·simp only[AI hc,Aj,if_neg hc]
   by_cases iL:(l.length:Int)=60
   ·simp only[AD iL,Al,if_pos iL]
   ·have ht:(l.take (pos ag l (ag r))).length=pos ag l (ag r):=by rw[Bb];omega
    simp only[AI iL,Aj,if_neg iL,ji,Af,aqv hp,aqu hp]
    rw[afY (by omega)]
    simp only[Af]
    rw[qw (by rw[ht];omega) (by rw[ht];omega)]
    simp only[Af]
    rw[lq (by rw[A8,ht,Bi];simp;omega) (by rw[A8,ht,Bi];simp;omega)]
    simp only[Af]
    unfold eo
    simp
theorem aaK {k:Nat} (hk:1000000<k) {b:Ak} (hs:CC ag b.Aq) (hl:b.Aq.length<=900) (hh:∀ r∈b.Aq,jk r) (r:Ab):
  qP k b r=some (bif df r then (⟨(ey b.Aq r).1⟩,(ey b.Aq r).2) else (⟨[]⟩,90)):=by
 unfold qP
 rw[ahC (by omega)]
 simp only[Af]
 cases hr:df r with
 |false=>rfl
 |true=>
  have hho:=nC hr
  have ej:cr r.At=ag r:=rfl
  simp only[AX,Aj,Al,amK (show 10000<k by omega) hs (show b.Aq.length<=1000 by omega),Af,ej]
  unfold ey
  cases hf:gF ag b.Aq (ag r) with
  |some x=>
   have hp:=agJ ag hs (ag r)
   rw[hf]at hp
   have hx:b.Aq[pos ag b.Aq (ag r)]?=some x:=by
    cases hq:b.Aq[pos ag b.Aq (ag r)]? with
    |none=>rw[hq]at hp;cases hp
    |some y=>
     rw[hq]at hp
     simp only[Option.filter]at hp
     split at hp
     ·exact hp.symm
     ·cases hp
   simp only[Option.isSome_some,Al,bC hx,Af]
   by_cases e:x=r
   ·subst e
    have:=aix x
    unfold kX at this
    rw[this]
    simp only[Al,acL (show b.Aq.length<=1000 by omega),Af,if_true]
   ·have:=aiw e
    unfold kX at this
    rw[this]
    simp only[Aj,if_neg e]
  |none=>
   simp only[Option.isSome_none,Aj,am7 hk (show b.Aq.length<=100000 by omega) hh,Af,aa1 _ hho.1 hho.2]
   by_cases hc:((ax ag b.Aq r.At.Ap:Nat):Int)<r.At.No
   ·simp only[AD hc,Al,if_pos hc]
   ·simp only[AI hc,Aj,if_neg hc]
    by_cases iL:(b.Aq.length:Int)=60
    ·simp only[AD iL,Al,if_pos iL]
    ·simp only[AI iL,Aj,if_neg iL,afO (show b.Aq.length<=1000 by omega),Af,aom (show b.Aq.length<=1000 by omega)]
theorem take_at {α:Type}{l:List α}{i:Nat}{x:α} (h:l[i]?=some x):l.take (i+1)=l.take i++[x]:=by
 rw[List.take_add_one,h];rfl
theorem aiI {k:Nat} (hk:10000000<k) {a b:List Ab} (hl:a.length<=1000):∃ c:Bool,B7 k a b=some c/\(c=true↔a=b):=by
 unfold B7
 by_cases vz:a.length=b.length
 ·obtain⟨c,h1,h2⟩:=aqc (body:=B7.b0 k a b) (eq:=kX) vz (by omega) (fun x y=>wj) hk (fun i x y hx hy=>by
   have hi:=(gS.1 hx).1
   unfold B7.b0 kX
   simp only[AD (show (i:Int)<(a.length:Int) by omega),Al,bC hx,bC hy,Af]) (fun i hi=>by
   unfold B7.b0
   by_cases h:(i:Int)<(a.length:Int)<;>simp[h]) (by
   unfold B7.b0
   simp only[(by simp:decide ((a.length:Int)<(a.length:Int))=false),Aj])
  refine⟨c,?_,h2⟩
  have hd:decide ((a.length:Int)=(b.length:Int))=true:=by simp[vz]
  rw[hd,h1]
  rfl
 ·refine⟨false,?_,?_⟩
  ·have hd:decide ((a.length:Int)=(b.length:Int))=false:=by simp;omega
   obtain⟨m,rfl⟩:∃ q,k=q+1:=⟨k - 1,by omega⟩
   have:B7.b0 (m+1) a b (false,0)=some (.brk false):=by
    unfold B7.b0
    by_cases h:(0:Int)<(a.length:Int)<;>simp[h]
   rw[hd]
   simp only[aj,this]
   rfl
  ·constructor
   ·intro h;cases h
   ·rintro rfl;exact absurd rfl vz
theorem aqb {k:Nat} (hk:10000000<k) {a:Ak} (hl:a.Aq.length<=1000):E3 k a a=some true:=by
 obtain⟨c,h1,h2⟩:=aiI hk (a:=a.Aq) (b:=a.Aq) hl
 unfold E3
 rw[h1,h2.2 rfl];rfl
theorem mN (k:Nat) (n:Int) {m:Int} (h0:0<m) (h1:m<=4611686018427387904):Cb k n m=some (n % m):=by
 unfold Cb oJ
 rw[if_neg (by omega)]
 simp only[Af]
 have b1:Int.tmod n m<m:=Int.tmod_lt_of_pos n h0
 have b2:-m<Int.tmod n m:=by
  rcases Int.le_total 0 n with h|h
  ·have:=Int.tmod_nonneg m h
   omega
  ·have:=Int.tmod_lt_of_pos (-n) h0
   rw[Int.neg_tmod]at this
   omega
 have e1:Int.tmod n m % m=n % m:=by
  have:=Int.mul_tdiv_add_tmod n m
  rw[<-this,Int.add_comm,Int.add_mul_emod_self_left]
  congr 1
  have e:=Int.mul_tdiv_add_tmod n m
  rw[Int.add_comm]at e
  rw[e]
 rw[aV (by omega) (by omega),Int.tmod_eq_emod_of_nonneg (by omega),Int.add_emod_right,e1]
theorem oG (n:Int) {m:Int} (h0:0<m):0<=n % m/\n % m<m:=⟨Int.emod_nonneg _ (by omega),Int.emod_lt_of_pos _ h0⟩
theorem aqS (v:Aa 5 Int):∃ a b c d e,v=⟨[a,b,c,d,e],rfl⟩:=by
 obtain⟨l,h⟩:=v
 match l,h with
 |[a,b,c,d,e],h=>exact⟨a,b,c,d,e,rfl⟩
def tx5:List ByteArray:=[ByteArray.empty,(⟨#[97]⟩:ByteArray),(⟨#[112,105,101,99,101,32,49,55]⟩:ByteArray),(⟨#[48,32,48,32,49,32,48,32,48,32,48]⟩:ByteArray),(⟨#[97,32,116,101,120,116,32,111,102,32,97,32,108,101,110,103,116,104,32,116,104,97,116,32,116,97,107,101,115,32,116,104,114,101,101,32,104,97,108,118,101,115,32,111,102,32,97,32,112,97,103,101]⟩:ByteArray)]
theorem aqF {i:Int} (h0:0<=i) (h1:i<5):∃ s,at? tx5 i=some s/\oS s=true:=by
 have:i=0\/i=1\/i=2\/i=3\/i=4:=by omega
 rcases this with rfl|rfl|rfl|rfl|rfl
 ·exact⟨_,rfl,by decide +kernel⟩
 ·exact⟨_,rfl,by decide +kernel⟩
 ·exact⟨_,rfl,by decide +kernel⟩
 ·exact⟨_,rfl,by decide +kernel⟩
 ·exact⟨_,rfl,by decide +kernel⟩
theorem ap1 {k:Nat} (hk:1000000<k) {l:List Ab} (hl:l.length<=100) (hh:∀ r∈l,jk r) (v:Aa 5 Int):
  ∃ r,Ef k l v=some r/\df r=true/\(r.At.Ap=0\/r.At.Ap=1\/r.At.Ap=2)/\(ag r).2=ax ag l (ag r).1:=by
 obtain⟨a,b,c,d,e,rfl⟩:=aqS v
 have a0:(⟨[a,b,c,d,e],rfl⟩:Aa 5 Int).at? 0=some a:=rfl
 have a1:(⟨[a,b,c,d,e],rfl⟩:Aa 5 Int).at? 1=some b:=rfl
 have a2:(⟨[a,b,c,d,e],rfl⟩:Aa 5 Int).at? 2=some c:=rfl
 have a3:(⟨[a,b,c,d,e],rfl⟩:Aa 5 Int).at? 3=some d:=rfl
 have a4:(⟨[a,b,c,d,e],rfl⟩:Aa 5 Int).at? 4=some e:=rfl
 have m3:=mN k a (m:=3) (by decide) (by decide)
 have m6:=mN k b (m:=6) (by decide) (by decide)
 have m50:=mN k c (m:=50) (by decide) (by decide)
 have m51:=mN k d (m:=50) (by decide) (by decide)
 have m5:=mN k e (m:=5) (by decide) (by decide)
 have B3:=oG a (m:=3) (by decide)
 have B6:=oG b (m:=6) (by decide)
 have H4:=oG c (m:=50) (by decide)
 have GC:=oG d (m:=50) (by decide)
 have B5:=oG e (m:=5) (by decide)
 obtain⟨s,mG,ou⟩:=aqF B5.1 B5.2
 have hc:=afU l (a % 3)
 have adz:a % 3=0\/a % 3=1\/a % 3=2:=by omega
 unfold Ef
 unfold tx5 at mG
 simp only[a0,a1,a2,a3,a4,m3,m6,m50,m51,m5,Af,ahR hk (show l.length<=100000 by omega) hh,aa1 l (show 0<=a % 3 from B3.1) (by omega),mG]
 have W:∀ x lo hi:Int,lo<=x->x<=hi->within x lo hi=true:=fun x lo hi h1 h2=>by
  unfold within;simp[h1,h2]
 have ahd:∀ kk:Int,0<kk->kk<=7->df (⟨(⟨a % 3,((ax ag l (a % 3):Nat):Int)⟩:Entry),kk,c % 50,d % 50,(⟨0,0⟩:Entry),s⟩:Ab)=true:=fun kk h1 h2=>by
  unfold df kG
  simp only[W _ 0 5 (show 0<=a % 3 from B3.1) (by omega),W _ 0 9999 (show (0:Int)<=((ax ag l (a % 3):Nat):Int) by omega) (by omega),W kk 0 40 (by omega) (by omega),W _ 0 100000 H4.1 (by omega),W _ 0 100000 GC.1 (by omega),ou,
   AI (show ¬ kk=0 by omega),Bj,Al,Bool.and_self,BA]
 by_cases h0:b % 6=0
 ·simp only[AD h0,Al]
  by_cases hp:(0:Int)<((ax ag l (a % 3):Nat):Int)
  ·have mc:=mN k c (m:=((ax ag l (a % 3):Nat):Int)) hp (by omega)
   have Bc:=oG c hp
   simp only[AD hp,Al,mc,Af]
   refine⟨_,rfl,?_,adz,rfl⟩
   have te:oS ByteArray.empty=true:=by decide +kernel
   unfold df kG
   simp only[W _ 0 5 (show 0<=a % 3 from B3.1) (by omega),W _ 0 9999 (show (0:Int)<=((ax ag l (a % 3):Nat):Int) by omega) (by omega),W (b % 6) 0 40 (by omega) (by omega),W 0 0 100000 (by decide) (by decide),W _ 0 100000 GC.1 (by omega),te,
    AD h0,AX,Aj,Bool.and_self,BA,beq_self_eq_true,W _ 0 9999 Bc.1 (by omega),AD Bc.2]
  ·simp only[AI hp,Aj]
   exact⟨_,rfl,ahd 7 (by decide) (by decide),adz,rfl⟩
 ·simp only[AI h0,Aj]
  exact⟨_,rfl,ahd _ (by omega) (by omega),adz,rfl⟩
def mk1 (k:Nat) (s:List Ab) (v:Aa 5 Int):List Ab:=s++[(Ef k s v).getD apZ]
where apZ:Ab:=⟨⟨0,0⟩,0,0,0,⟨0,0⟩,ByteArray.empty⟩
def fe (k:Nat) (l:List (Aa 5 Int)):List Ab:=l.foldl (mk1 k) []
abbrev Hf:=Aa 32 Int
abbrev Pg:=Aa 2 Hf
def hz:Hf:=Aa.rep 32 0
def hf (p:List Pg) (a i:Nat):Hf:=match p[301*a+i / 2]? with
 |some g=>(g.l[i % 2]?).getD hz
 |none=>hz
theorem ab8 (g:Pg) (i:Nat):g.at? ((i % 2:Nat):Int)=some ((g.l[i % 2]?).getD hz):=by
 have h:=g.h
 have hi:i % 2<g.l.length:=by omega
 unfold Aa.at?
 rw[if_pos (by omega),Ck,gG hi];rfl
theorem aaM {p:List Pg} (hp:p.length=602) {a i:Nat} (ha:a<=1) (hi:i<602):ab ((ab ((a:Int)*301))+(ab (Int.tdiv (i:Int) 2)))=((301*a+i / 2:Nat):Int):=by
 have e:Int.tdiv (i:Int) 2=((i / 2:Nat):Int):=by
  rw[show (2:Int)=((2:Nat):Int) from rfl,<-Int.ofNat_tdiv]
 rw[e,aV (n:=(a:Int)*301) (by omega) (by omega),aV (n:=((i / 2:Nat):Int)) (by omega) (by omega),aV (by omega) (by omega)]
 omega
theorem qm (i:Nat):Int.tmod (i:Int) 2=((i % 2:Nat):Int):=by
 rw[show (2:Int)=((2:Nat):Int) from rfl,<-Int.ofNat_tmod]
theorem vA (k:Nat) {p:List Pg} (hp:p.length=602) (w:List Ao) {a i:Nat} (ha:a<=1) (hi:i<602):m9 k ⟨⟨p,w⟩⟩ (a:Int) (i:Int)=some (hf p a i):=by
 unfold m9 hf
 have hx:p[301*a+i / 2]?=some (p[301*a+i / 2]'(by omega)):=gG (by omega)
 simp only[aaM hp ha hi,bC hx,Af,qm,ab8,hx]
theorem aei {n b:Int}{s:Nat} (hs:s<=32) (h0:0<=n) (h1:n<1073741824) (h2:0<=b) (h3:b<2 ^ s):fM .i64 (n*2 ^ s) b=n*2 ^ s+b:=by
 obtain⟨m,rfl⟩:=Int.eq_ofNat_of_zero_le h0
 obtain⟨c,rfl⟩:=Int.eq_ofNat_of_zero_le h2
 have hp:(2:Nat) ^ s<=2 ^ 32:=Nat.pow_le_pow_right (by decide) hs
 have hc:c<2 ^ s:=by
  have:((2:Int) ^ s)=((2 ^ s:Nat):Int):=by push_cast;rfl
  rw[this]at h3;omega
 have hm:m<4294967296:=by omega
 have hmp:m*2 ^ s<4294967296*4294967296:=Nat.mul_lt_mul_of_lt_of_le hm hp (by decide)
 have e:((m:Int)*2 ^ s)=((m*2 ^ s:Nat):Int):=by push_cast;rfl
 rw[e]
 unfold fM
 have t:∀ x:Nat,x<18446744073709551616->(BitVec.ofInt IntKind.i64.bits (x:Int)).toNat=x:=fun x hx=>by
  rw[BitVec.toNat_ofInt]
  have:(x:Int) % ((2 ^ IntKind.i64.bits:Nat):Int)=(x:Int):=by
   rw[show ((2 ^ IntKind.i64.bits:Nat):Int)=18446744073709551616 from rfl];omega
  rw[this];omega
 have ij:m*2 ^ s<9223372036854775808 - 4294967296:=by
  have:m*2 ^ s<=m*4294967296:=Nat.mul_le_mul_left _ hp
  omega
 rw[BitVec.toNat_or,t _ (by omega),t _ (by omega)]
 have:=Nat.shiftLeft_add_eq_or_of_lt hc m
 rw[Nat.shiftLeft_eq]at this
 rw[<-this]
 exact aV (by omega) (by omega)
theorem aeO {x:Int} (h:0<=x/\x<256) (s:Nat) (hs:s<=16):ab ((ab x)*2 ^ s)=x*2 ^ s:=by
 have hp:(2:Int) ^ s<=65536:=by
  have:(2:Nat) ^ s<=2 ^ 16:=Nat.pow_le_pow_right (by decide) hs
  have e:((2:Int) ^ s)=((2 ^ s:Nat):Int):=by push_cast;rfl
  rw[e];omega
 have hp0:(0:Int)<2 ^ s:=Int.pow_pos (by decide)
 have h1:x*2 ^ s<=255*65536:=Int.mul_le_mul (by omega) hp (by omega) (by omega)
 have h2:0<=x*2 ^ s:=Int.mul_nonneg h.1 (by omega)
 rw[aV (n:=x) (by omega) (by omega),aV (by omega) (by omega)]
theorem or3 {a b c:Int} (ha:0<=a/\a<256) (hb:0<=b/\b<256) (hc:0<=c/\c<256):
  fM .i64 (fM .i64 (ab ((ab a)*2 ^ 16)) (ab ((ab b)*2 ^ 8))) (ab c)=bm [a,b,c]:=by
 rw[aeO ha 16 (by decide),aeO hb 8 (by decide),aei (s:=16) (by decide) ha.1 (by omega) (by omega) (by omega),aV (n:=c) (by omega) (by omega)]
 have e:a*2 ^ 16+b*2 ^ 8=(a*256+b)*2 ^ 8:=by omega
 rw[e,aei (s:=8) (by decide) (by omega) (by omega) hc.1 (by omega)]
 simp[bm,oO]
theorem or2 {a b:Int} (ha:0<=a/\a<256) (hb:0<=b/\b<256):fM .i64 (ab ((ab a)*2 ^ 8)) (ab b)=bm [a,b]:=by
 rw[aeO ha 8 (by decide),aV (n:=b) (by omega) (by omega),aei (s:=8) (by decide) ha.1 (by omega) hb.1 (by omega)]
 simp[bm,oO]
def bt (h:Hf) (i:Nat):Int:=(h.l[i]?).getD 0
theorem lx (h:Hf) {i:Nat} (hi:i<32):h.at? (i:Int)=some (bt h i):=by
 have hl:=h.h
 unfold Aa.at? bt
 rw[if_pos (by omega),Ck,gG (by omega)];rfl
theorem qU {h:Hf} (hb:AY h.l) (i:Nat):0<=bt h i/\bt h i<256:=by
 unfold bt
 cases hq:h.l[i]? with
 |none=>simp
 |some x=>exact hb x (AW hq)
def aM (h:Hf):Int:=
 if (bt h 0=104\/bt h 0=112)/\bt h 31=165/\bm [bt h 1,bt h 2,bt h 3]<=1000000 then bm [bt h 1,bt h 2,bt h 3] else 0
theorem acZ {h:Hf} (hb:AY h.l):0<=aM h/\aM h<=1000000:=by
 unfold aM
 have:=aes (l:=[bt h 1,bt h 2,bt h 3]) (by
  intro x hx
  simp only[BD,List.not_mem_nil,or_false]at hx
  rcases hx with rfl|rfl|rfl<;>exact qU hb _)
 split
 ·rename_i hc;exact⟨this.1,hc.2.2⟩
 ·omega
theorem aba (k:Nat) {h:Hf} (hb:AY h.l):pn k h=some (aM h):=by
 have h0:=lx h (i:=0) (by decide)
 have h1:=lx h (i:=1) (by decide)
 have h2:=lx h (i:=2) (by decide)
 have h3:=lx h (i:=3) (by decide)
 have xV:=lx h (i:=31) (by decide)
 have e0:h.at? 0=some (bt h 0):=h0
 have e1:h.at? 1=some (bt h 1):=h1
 have e2:h.at? 2=some (bt h 2):=h2
 have e3:h.at? 3=some (bt h 3):=h3
 have xE:h.at? 31=some (bt h 31):=xV
 unfold pn aM
 simp only[e0,e1,e2,e3,xE,Af,or3 (qU hb 1) (qU hb 2) (qU hb 3)]
 by_cases a:bt h 0=104
 ·have a2:¬ bt h 0=112:=by omega
  by_cases c:bt h 31=165
  ·by_cases d:(1000000:Int)<bm [bt h 1,bt h 2,bt h 3]
   ·simp[a,c,d,show ¬ bm [bt h 1,bt h 2,bt h 3]<=1000000 by omega]
   ·simp[a,c,d,show bm [bt h 1,bt h 2,bt h 3]<=1000000 by omega]
  ·simp[a,c]
 ·by_cases b:bt h 0=112
  ·by_cases c:bt h 31=165
   ·by_cases d:(1000000:Int)<bm [bt h 1,bt h 2,bt h 3]
    ·simp[b,c,d,show ¬ bm [bt h 1,bt h 2,bt h 3]<=1000000 by omega]
    ·simp[b,c,d,show bm [bt h 1,bt h 2,bt h 3]<=1000000 by omega]
   ·simp[b,c]
  ·simp[a,b]
def Bp (p:List Pg):Prop:=∀ g∈p,∀ h∈g.l,AY h.l
theorem Bp.hf {p:List Pg} (hp:Bp p) (a i:Nat):AY (hf p a i).l:=by
 have rC:AY hz.l:=by
  intro x hx
  have:x=0:=by
   simp only[hz,Aa.rep,List.mem_replicate]at hx
   exact hx.2
  omega
 unfold Go.Abs.hf
 cases hq:p[301*a+i / 2]? with
 |none=>exact rC
 |some g=>
  simp only
  cases hr:g.l[i % 2]? with
  |none=>exact rC
  |some h=>exact hp g (AW hq) h (AW hr)
def jy (d:Ac):Bool:=decide (d.Ae.length=602)&&(decide (d.Ad.length<=1200)&&d.Ad.all fun w=>within w.At 0 601)
theorem mK {k:Nat} (hk:1000000<k) (d:Ac):qR k d=some (jy d):=by
 unfold qR jy
 by_cases h1:d.Ae.length=602
 ·have e1:decide ((d.Ae.length:Int)=602)=true:=AD (by omega)
  by_cases h2:d.Ad.length<=1200
  ·have e2:decide ((d.Ad.length:Int)<=1200)=true:=AD (by omega)
   have tF:=ajr (body:=iy.b0 k (fun q0=>uM k q0) d.Ad) (n:=d.Ad.length) (f:=fun i=>match d.Ad[i]? with|some w=>bif within w.At 0 601 then none else some (i:Int)|none=>none) (by omega) (k:=k) (by omega) (fun i hi=>by
    obtain⟨w,hw⟩:∃ w,d.Ad[i]?=some w:=⟨_,gG hi⟩
    unfold iy.b0 uM
    simp only[AD (show (i:Int)<(d.Ad.length:Int) by omega),Al,bC hw,Af,zk,hw]
    cases within w.At 0 601<;>rfl) (by
    unfold iy.b0
    simp only[(by simp:decide ((d.Ad.length:Int)<(d.Ad.length:Int))=false),Aj])
   simp only[e1,e2,Al,h1,h2,BA,BN]
   unfold abY iy
   rw[tF]
   simp only[Af]
   cases hq:(List.range d.Ad.length).findSome? (fun i=>match d.Ad[i]? with|some w=>bif within w.At 0 601 then none else some (i:Int)|none=>none) with
   |none=>
    have:d.Ad.all (fun w=>within w.At 0 601)=true:=by
     rw[List.all_eq_true]
     intro w hw
     obtain⟨i,hi⟩:=BC.1 hw
     rw[List.findSome?_eq_none_iff]at hq
     have:=hq i (List.mem_range.2 (gS.1 hi).1)
     rw[hi]at this
     simp only at this
     cases hb:within w.At 0 601 with
     |true=>rfl
     |false=>rw[hb]at this;cases this
    rw[this];rfl
   |some r=>
    obtain⟨i,hi,hf⟩:=List.exists_of_findSome?_eq_some hq
    obtain⟨w,hw⟩:∃ w,d.Ad[i]?=some w:=⟨_,gG (List.mem_range.1 hi)⟩
    rw[hw]at hf
    simp only at hf
    have hb:within w.At 0 601=false:=by
     cases hb:within w.At 0 601 with
     |false=>rfl
     |true=>rw[hb]at hf;cases hf
    rw[hb]at hf
    have hr:(i:Int)=r:=oi hf
    have:d.Ad.all (fun w=>within w.At 0 601)=false:=by
     rw[List.all_eq_false]
     exact⟨w,AW hw,by rw[hb];decide⟩
    rw[this]
    simp only[Af]
    rw[AD (show (0:Int)<=r by omega)]
    rfl
  ·have e2:decide ((d.Ad.length:Int)<=1200)=false:=AI (by omega)
   simp[e1,e2,h1,h2]
 ·have e1:decide ((d.Ae.length:Int)=602)=false:=AI (by omega)
  simp[e1,h1]
theorem afZ {k:Nat}{d:Ac} (h:d.Ae.length<=100000000/\d.Ad.length<=100000000):mm k d=some ⟨d⟩:=by
 unfold mm abW abX fp
 rw[if_pos ⟨by omega,by omega⟩,if_pos ⟨by omega,by omega⟩]
 rfl
theorem gk {d:Ac}:jy d=true↔d.Ae.length=602/\d.Ad.length<=1200/\∀ w∈d.Ad,0<=w.At/\w.At<=601:=by
 unfold jy within
 simp only[A7,decide_eq_true_eq,List.all_eq_true]
theorem mo {k:Nat}{d:Ac} (h:jy d=true):mm k d=some ⟨d⟩:=by
 obtain⟨h1,h2,_⟩:=gk.1 h
 exact afZ ⟨by omega,by omega⟩
def ak (p:List Pg) (w:List Ao):List Pg:=w.foldl (fun p x=>p.set x.At.toNat x.AE) p
theorem aoK (w:List Ao):∀ p:List Pg,(ak p w).length=p.length:=by
 induction w with
 |nil=>intro p;rfl
 |cons x w ih=>intro p;exact(ih _).trans (by simp)
theorem sm {k:Nat} (hk:1000000<k) {d:Ac} (h:jy d=true):fN k ⟨d⟩=some ⟨⟨ak d.Ae d.Ad,[]⟩⟩:=by
 obtain⟨h1,h2,h3⟩:=gk.1 h
 unfold fN
 have hf:=qI (l:=d.Ad) (body:=fN.b0 k ⟨d⟩) (fun i s=>(i,s)) (fun p x=>p.set x.At.toNat x.AE) (fun i s=>s.length=602) (by omega) (k:=k) (by omega) (s0:=d.Ae) h1 (fun i x s hx hs=>by
  have hi:=(gS.1 hx).1
  have hb:=h3 x (AW hx)
  refine⟨?_,by simp[hs]⟩
  unfold fN.b0
  have ha:at? s x.At=some (s[x.At.toNat]'(by omega)):=by
   unfold at?
   rw[if_pos ⟨by omega,by omega⟩,gG (by omega)]
  have fT:dL s x.At x.AE=some (s.set x.At.toNat x.AE):=by
   unfold dL
   rw[if_pos ⟨by omega,by omega⟩]
  simp only[AD (show (i:Int)<(d.Ad.length:Int) by omega),Al,bC hx,Af,ha,fT]) (fun s hs=>by
  unfold fN.b0
  simp only[(by simp:decide ((d.Ad.length:Int)<(d.Ad.length:Int))=false),Aj])
 rw[hf.1]
 rfl
theorem aqw {k:Nat} (hk:1000000<k) {d:Ac} (h:jy d=true):sJ k d=some ⟨ak d.Ae d.Ad,[]⟩:=by
 unfold sJ
 rw[mo h,mK hk,h]
 simp only[Af,AX,Aj]
 rw[sm hk h]
 rfl
def mx (p:List Pg) (a from_:Nat):Int:=(List.range' from_ (602 - from_)).foldl (fun m i=>max m (aM (hf p a i))) 0
theorem agP {f:Nat->Int}:∀ (l:List Nat) (z E:Int),l.foldl (fun m i=>max m (f i)) z<=E↔z<=E/\∀ i∈l,f i<=E
 |[],z,E=>by simp
 |x::l,z,E=>by
  rw[List.foldl_cons,agP l]
  simp only[Int.max_le,and_assoc,BD,forall_eq_or_imp]
theorem ahW {p:List Pg}{a from_:Nat}{E:Int}:mx p a from_<=E↔0<=E/\∀ i,from_<=i->i<602->aM (hf p a i)<=E:=by
 unfold mx
 rw[agP]
 constructor
 ·rintro⟨h1,h2⟩
  exact⟨h1,fun i h3 h4=>h2 i (by rw[List.mem_range'_1];omega)⟩
 ·rintro⟨h1,h2⟩
  exact⟨h1,fun i hi=>h2 i (by rw[List.mem_range'_1]at hi;omega) (by rw[List.mem_range'_1]at hi;omega)⟩
theorem vY (p:List Pg) (a from_:Nat):0<=mx p a from_:=(ahW.1 (Int.le_refl _)).1
theorem ahX {p:List Pg} (hp:Bp p) (a from_:Nat):mx p a from_<=1000000:=ahW.2 ⟨by omega,fun i _ _=>(acZ (hp.hf a i)).2⟩
theorem nU {k:Nat} (hk:1000000<k) {p:List Pg} (hp:p.length=602) (hb:Bp p) (w:List Ao) {a:Nat} (ha:a<=1) (from_:Nat):dz k ⟨⟨p,w⟩⟩ (a:Int) (from_:Int)=some (mx p a from_):=by
 unfold dz mx
 have key:∀ (d i m:Nat) (z:Int),602 - i=d->d<m->aj (dz.b0 k ⟨⟨p,w⟩⟩ (a:Int)) m (z,(i:Int))=some (.brk ((List.range' i d).foldl (fun m i=>max m (aM (hf p a i))) z)):=by
  intro d
  induction d with
  |zero=>
   intro i m z h1 h2
   obtain⟨m,rfl⟩:∃ q,m=q+1:=⟨m - 1,by omega⟩
   have tq:dz.b0 k ⟨⟨p,w⟩⟩ (a:Int) (z,(i:Int))=some (.brk z):=by
    unfold dz.b0
    simp only[AI (show ¬ (i:Int)<602 by omega),Aj]
   simp only[aj,tq]
   rfl
  |succ d ih=>
   intro i m z h1 h2
   obtain⟨m,rfl⟩:∃ q,m=q+1:=⟨m - 1,by omega⟩
   have hw:ab ((i:Int)+1)=((i+1:Nat):Int):=by rw[aV (by omega) (by omega)];omega
   have tq:dz.b0 k ⟨⟨p,w⟩⟩ (a:Int) (z,(i:Int))=some (.next (max z (aM (hf p a i)),((i+1:Nat):Int))):=by
    unfold dz.b0
    simp only[AD (show (i:Int)<602 by omega),Al,vA k hp w ha (show i<602 by omega),Af,aba k (hb.hf a i),hw]
   simp only[aj,tq]
   rw[List.range'_succ,List.foldl_cons]
   exact ih (i+1) m _ (by omega) (by omega)
 have:=key (602 - from_) from_ k 0 rfl (by omega)
 rw[this]
 rfl
def ap7 (p:List Pg) (a from_:Nat) (l:List Hf):Prop:=from_+l.length<=602/\∀ (i:Nat) x,l[i]?=some x->hf p a (from_+i)=x
instance:DecidableEq Hf:=fun a b=>decidable_of_iff (Aa.eq (fun(x y:Int)=>decide (x=y)) a b=true) (qH a b)
def oP (p:List Pg) (a from_:Nat) (l:List Hf):Bool:=(List.range l.length).all fun i=>match l[i]? with|some x=>decide (hf p a (from_+i)=x)|none=>true
theorem aiC {p:List Pg}{a from_:Nat}{l:List Hf}:oP p a from_ l=true↔∀ (i:Nat) x,l[i]?=some x->hf p a (from_+i)=x:=by
 unfold oP
 rw[List.all_eq_true]
 constructor
 ·intro h i x hx
  have:=h i (List.mem_range.2 (gS.1 hx).1)
  rw[hx]at this
  simpa using this
 ·intro h i hi
  cases hq:l[i]? with
  |none=>rfl
  |some x=>simpa using h i x hq
def recAt (p:List Pg) (a from_:Nat) (n:Nat):Option (Ab×Int×Nat):=
 if 602<=from_ then none else if aM (hf p a from_)=0\/602<from_+(bt (hf p a from_) 7).toNat then none else
 match gE ((List.range (bt (hf p a from_) 7).toNat).map fun i=>gM (hf p a (from_+i))).flatten with
 |none=>none
 |some q=>if df q.1=true/\(cD q.1 n (aM (hf p a from_))).length=(bt (hf p a from_) 7).toNat/\oP p a from_ (cD q.1 n (aM (hf p a from_)))=true then some (q.1,aM (hf p a from_),(bt (hf p a from_) 7).toNat) else none
theorem afI {h:Hf} (hb:AY h.l):AY (gM h):=(hb.drop 8).take 23
theorem afF {l:List (List Int)} (h:∀ x∈l,AY x):AY l.flatten:=fun x hx=>by
 obtain⟨y,hy,hx⟩:=List.mem_flatten.1 hx
 exact h y hy x hx
theorem ap0 {k:Nat} (hk:1000000<k) {p:List Pg} (hp:p.length=602) (hb:Bp p) (w:List Ao) {a:Nat} (ha:a<=1) (from_ n:Nat) (pM:from_<=100000):
  dp k ⟨⟨p,w⟩⟩ (a:Int) (from_:Int) (n:Int)=some (match recAt p a from_ n with|some q=>(q.1,q.2.1,(q.2.2:Int))|none=>(nD,0,0)):=by
 unfold dp recAt
 by_cases h1:602<=from_
 ·simp only[AD (show (602:Int)<=(from_:Int) by omega),Al,if_pos h1]
  rfl
 ·have fD:=qU (hb.hf a from_) 7
  obtain⟨m,hm⟩:=Int.eq_ofNat_of_zero_le fD.1
  have hmN:(bt (hf p a from_) 7).toNat=m:=by rw[hm];rfl
  have e7:(hf p a from_).at? 7=some (m:Int):=by have:=lx (hf p a from_) (i:=7) (by decide);rw[hm]at this;exact this
  have wm:ab (m:Int)=(m:Int):=aV (by omega) (by omega)
  have wfm:ab ((from_:Int)+(m:Int))=((from_+m:Nat):Int):=by rw[aV (by omega) (by omega)];omega
  rw[hmN]
  simp only[AI (show ¬ (602:Int)<=(from_:Int) by omega),Aj,if_neg h1,vA k hp w ha (show from_<602 by omega),Af,aba k (hb.hf a from_),e7,wm,wfm]
  by_cases he:aM (hf p a from_)=0
  ·rw[if_pos (Or.inl he)]
   simp only[AD he,AX,Aj]
   rfl
  ·simp only[AI he,Bj,Al]
   by_cases h2:602<from_+m
   ·simp only[AD (show (602:Int)<((from_+m:Nat):Int) by omega),Al,if_pos (Or.inr h2)]
    rfl
   ·simp only[AI (show ¬ (602:Int)<((from_+m:Nat):Int) by omega),Aj,if_neg (show ¬ (aM (hf p a from_)=0\/602<from_+m) from fun c=>c.elim he h2)]
    have lN:=acd (n:=m) (body:=dp.b0 k ⟨⟨p,w⟩⟩ (a:Int) (from_:Int) (m:Int)) (fun i s=>(i,s)) (fun s i=>s++gM (hf p a (from_+i))) (fun i s=>s.length=23*i) (by omega) (k:=k) (by omega) (s0:=[]) rfl (fun i s hi hs=>by
     have hl:=(hf p a (from_+i)).h
     have vM:(gM (hf p a (from_+i))).length=23:=by unfold gM;simp[hl]
     have ux:ab ((from_:Int)+(i:Int))=((from_+i:Nat):Int):=by rw[aV (by omega) (by omega)];omega
     refine⟨?_,by simp[hs,vM];omega⟩
     unfold dp.b0
     simp only[wm,AD (show (i:Int)<(m:Int) by omega),Al,ux,vA k hp w ha (show from_+i<602 by omega),Af]
     rw[show (List.take 23 (List.drop 8 (hf p a (from_+i)).l))=gM (hf p a (from_+i)) from rfl,lq (by omega) (by omega)]
     rfl) (fun s hs=>by
     unfold dp.b0
     simp only[wm,(by simp:decide ((m:Int)<(m:Int))=false),Aj])
    have dB:∀ (L:List Nat) (s:List Int),L.foldl (fun s i=>s++gM (hf p a (from_+i))) s=s++(L.map fun i=>gM (hf p a (from_+i))).flatten:=by
     intro L
     induction L with
     |nil=>intro s;simp
     |cons x L ih=>intro s;rw[List.foldl_cons,ih];simp
    have eV:=lN.1
    rw[dB,BL]at eV
    rw[eV]
    simp only[Af]
    have n8:AY ((List.range m).map fun i=>gM (hf p a (from_+i))).flatten:=afF (by
     intro x hx
     obtain⟨i,_,rfl⟩:=List.mem_map.1 hx
     exact afI (hb.hf a _))
    rw[amd (by omega) n8]
    cases hd:gE ((List.range m).map fun i=>gM (hf p a (from_+i))).flatten with
    |none=>rfl
    |some q=>
     simp only[Af]
     cases hr:df q.1 with
     |false=>simp;rfl
     |true=>
      have ht:=wi hr
      simp only[AX,Aj,aih (show 100000<k by omega) ht,Af]
      have hH:(List.range (bD (enc q.1).length)).map (dR (aM (hf p a from_)) (n:Int) (bD (enc q.1).length) (enc q.1))=cD q.1 (n:Int) (aM (hf p a from_)):=rfl
      rw[hH]
      by_cases hlen:(cD q.1 (n:Int) (aM (hf p a from_))).length=m
      ·have hwN:=aeQ (n:=m) (body:=dp.b1 k ⟨⟨p,w⟩⟩ (a:Int) (from_:Int) (cD q.1 (n:Int) (aM (hf p a from_)))) (p:=fun i=>match (cD q.1 (n:Int) (aM (hf p a from_)))[i]? with|some x=>decide (hf p a (from_+i)=x)|none=>true) (c:=(nD,(0:Int),(0:Int))) (by omega) (k:=k) (by omega) (fun i hi=>by
        obtain⟨x,hx⟩:∃ x,(cD q.1 (n:Int) (aM (hf p a from_)))[i]?=some x:=⟨_,gG (by omega)⟩
        have ux:ab ((from_:Int)+(i:Int))=((from_+i:Nat):Int):=by rw[aV (by omega) (by omega)];omega
        have hve:Aa.eq (fun(x y:Int)=>decide (x=y)) (hf p a (from_+i)) x=decide (hf p a (from_+i)=x):=by
         by_cases e:hf p a (from_+i)=x
         ·rw[(qH _ _).2 e,AD e]
         ·rw[AI e]
          cases hq:Aa.eq (fun(x y:Int)=>decide (x=y)) (hf p a (from_+i)) x with
          |false=>rfl
          |true=>exact absurd ((qH _ _).1 hq) e
        unfold dp.b1
        simp only[AD (show (i:Int)<((cD q.1 (n:Int) (aM (hf p a from_))).length:Int) by omega),Al,bC hx,Af,ux,vA k hp w ha (show from_+i<602 by omega),hve,hx]
        cases decide (hf p a (from_+i)=x)<;>rfl) (by
        unfold dp.b1
        simp only[hlen,(by simp:decide ((m:Int)<(m:Int))=false),Aj])
       have bf:oP p a from_ (cD q.1 (n:Int) (aM (hf p a from_)))=(List.range m).all (fun i=>match (cD q.1 (n:Int) (aM (hf p a from_)))[i]? with|some x=>decide (hf p a (from_+i)=x)|none=>true):=by
        unfold oP;rw[hlen];rfl
       simp only[AD (show ((cD q.1 (n:Int) (aM (hf p a from_))).length:Int)=(m:Int) by omega),AX,Aj,hwN,<-bf,hlen,true_and]
       cases oP p a from_ (cD q.1 (n:Int) (aM (hf p a from_)))<;>rfl
      ·simp only[AI (show ¬ ((cD q.1 (n:Int) (aM (hf p a from_))).length:Int)=(m:Int) by omega),Bj,Al,hlen,false_and,and_false,if_false]
       rfl
end Go.Abs
namespace Go.Abs
open Go Go.Proofs
theorem ag7 (r:Ab) (n e:Int):(cD r n e)[0]?=some (dR e n (bD (enc r).length) (enc r) 0):=by
 unfold cD
 rw[Bw,List.getElem?_range (uU r)];rfl
theorem am4 {r:Ab}{n e:Int}{i:Nat}{x:Hf} (h:(cD r n e)[i]?=some x):x=dR e n (bD (enc r).length) (enc r) i:=by
 have hi:=(gS.1 h).1
 rw[kJ]at hi
 unfold cD at h
 rw[Bw,List.getElem?_range hi]at h
 exact(oi h).symm
theorem acE (e n ax:Int) (c:List Int) (i:Nat):bt (dR e n ax c i) 0=112/\bt (dR e n ax c i) 1=IntKind.u8.wrap (Int.fdiv e (2 ^ 16))/\bt (dR e n ax c i) 2=IntKind.u8.wrap (Int.fdiv e (2 ^ 8))/\bt (dR e n ax c i) 3=IntKind.u8.wrap e/\bt (dR e n ax c i) 7=IntKind.u8.wrap ax/\bt (dR e n ax c i) 31=165:=by
 have hl:((c.drop (23*i)).take 23++List.replicate (23 - min (c.drop (23*i)).length 23) (0:Int)).length=23:=by
  simp only[A8,Bb,CS];omega
 have xE:(iN e n ax c i)[31]?=some 165:=by
  unfold iN
  rw[nO,xj]
  rw[CE (by simp only[A8,Az,Ay,hl];omega)]
  simp only[A8,Az,Ay,hl]
  rfl
 unfold bt dR
 refine⟨?_,?_,?_,?_,?_,?_⟩
 ·simp[iN]
 ·simp[iN,nO]
 ·simp[iN,nO]
 ·simp[iN,nO]
 ·simp[iN,nO,xj]
 ·rw[xE];rfl
theorem ac0 {e:Int} (he:1<=e/\e<=1000000) (n ax:Int) (c:List Int) (i:Nat):aM (dR e n ax c i)=e:=by
 obtain⟨h0,h1,h2,h3,_,xV⟩:=acE e n ax c i
 have hr:bm [bt (dR e n ax c i) 1,bt (dR e n ax c i) 2,bt (dR e n ax c i) 3]=e:=by
  rw[h1,h2,h3,<-nO,rd3 (by omega) (by omega)]
 unfold aM
 rw[hr,if_pos ⟨.inr h0,xV,he.2⟩]
theorem afE {e n:Int}{ax:Nat} (hc:ax<256) (c:List Int) (i:Nat):bt (dR e n ax c i) 7=ax:=by
 obtain⟨_,_,_,_,h7,_⟩:=acE e n ax c i
 rw[h7,qJ];omega
theorem uS {r:Ab} (h:df r=true):bD (enc r).length<=10:=by
 have:=wi h
 rw[xG];unfold bD;omega
structure DL (p:List Pg) (a from_ n:Nat) (r:Ab) (e:Int):Prop where
 ok:df r=true
 ep:1<=e/\e<=1000000
 run:ap7 p a from_ (cD r n e)
theorem zZ {p:List Pg} (hb:Bp p) {a from_ n:Nat}{q:Ab×Int×Nat}:recAt p a from_ n=some q↔DL p a from_ n q.1 q.2.1/\q.2.2=(cD q.1 n q.2.1).length:=by
 obtain⟨r,e,m⟩:=q
 constructor
 ·intro h
  unfold recAt at h
  split at h
  ·cases h
  rename_i h1
  split at h
  ·cases h
  rename_i h2
  split at h
  ·cases h
  rename_i q hq
  split at h
  ·rename_i h3
   simp only[oE,Prod.mk.injEq]at h
   obtain⟨rfl,rfl,rfl⟩:=h
   have hE:=acZ (hb.hf a from_)
   have oj:¬ aM (hf p a from_)=0:=fun c=>h2 (.inl c)
   have hle:¬ 602<from_+(bt (hf p a from_) 7).toNat:=fun c=>h2 (.inr c)
   refine⟨⟨h3.1,⟨show 1<=aM (hf p a from_) by omega,hE.2⟩,⟨?_,aiC.1 h3.2.2⟩⟩,h3.2.1.symm⟩
   show from_+(cD q.1 n (aM (hf p a from_))).length<=602
   rw[h3.2.1];omega
  ·cases h
 ·rintro⟨⟨h1,h2,h3,h4⟩,h5⟩
  simp only at h1 h2 h3 h4 h5
  have hc:=uS h1
  have hf0:=h4 0 _ (ag7 r n e)
  rw[Nat.add_zero]at hf0
  have hE:aM (hf p a from_)=e:=by rw[hf0];exact ac0 h2 _ _ _ _
  have h7:(bt (hf p a from_) 7).toNat=m:=by
   rw[hf0,afE (by omega),h5,kJ];rfl
  have hmp:0<m:=by rw[h5,kJ];exact uU r
  rw[<-h5]at h3
  have anK:((List.range m).map fun i=>gM (hf p a (from_+i))).flatten=rU (enc r):=by
   rw[<-aov e n (enc r)]
   congr 1
   rw[List.map_map,<-kJ r n e,<-h5]
   apply List.map_congr_left
   intro i hi
   have eQ:=List.mem_range.1 hi
   have hx:(cD r n e)[i]?=some (dR e n (bD (enc r).length) (enc r) i):=by
    unfold cD
    rw[Bw,List.getElem?_range (by rw[<-kJ r n e,<-h5];exact eQ)];rfl
   rw[h4 i _ hx];rfl
  have hd:=al9 h1 (List.replicate (23*bD (enc r).length - (enc r).length) 0)
  unfold recAt
  rw[if_neg (by omega),h7,hE,if_neg (by omega),anK]
  unfold rU
  rw[hd]
  simp only
  rw[if_pos ⟨h1,h5.symm,aiC.2 h4⟩]
def iv (b:List Ab) (r:Ab):Option (List Ab):=if (ey b r).2=0/\(ey b r).1.length≠b.length then some (ey b r).1 else none
def rd (p:List Pg) (a:Nat):Nat->List Ab->Int->Nat->Nat->List (Ab×Nat)
 |0,_,_,_,_=>[]
 |m+1,b,e,u,n=>match recAt p a u n with
  |none=>[]
  |some q=>if q.2.1<e then [] else match iv b q.1 with
   |none=>[]
   |some b'=>(q.1,u+q.2.2)::rd p a m b' q.2.1 (u+q.2.2) (n+1)
theorem qn {b b':List Ab}{r:Ab} (h:iv b r=some b'):b'=eo ag b r/\gF ag b (ag r)=none/\r.At.No<=ax ag b r.At.Ap/\b.length≠60:=by
 unfold iv ey at h
 cases hf:gF ag b (ag r) with
 |some x=>
  rw[hf]at h
  simp only at h
  by_cases e:x=r
  ·rw[if_pos e]at h;simp at h
  ·rw[if_neg e]at h;simp at h
 |none=>
  rw[hf]at h
  simp only at h
  by_cases hc:((ax ag b r.At.Ap:Nat):Int)<r.At.No
  ·rw[if_pos hc]at h;simp at h
  ·rw[if_neg hc]at h
   by_cases iL:(b.length:Int)=60
   ·rw[if_pos iL]at h;simp at h
   ·rw[if_neg iL]at h
    split at h
    ·exact⟨(oi h).symm,rfl,by omega,by omega⟩
    ·cases h
theorem ad7 {b b':List Ab}{r:Ab} (hv:Dg ag b) (hr:df r=true) (h:iv b r=some b'):Dg ag b'/\b'.length=b.length+1:=by
 obtain⟨h1,h2,h3,h4⟩:=qn h
 subst h1
 refine⟨ajg ag hv ?_,zj ag b r⟩
 show r.At.No=_
 have hn:=xN ag h2
 by_cases ae:r.At.No<ax ag b r.At.Ap
 ·have h0:=(abK hr).2.1.1
  obtain⟨x,hx,hk⟩:=ajf ag hv (h:=r.At.Ap) (n:=r.At.No) h0 ae
  exact absurd hk (hn x hx)
 ·show r.At.No=((ax ag b r.At.Ap:Nat):Int)
  omega
theorem apO {k:Nat} (hk:1000000<k) {p:List Pg} (hp:p.length=602) (hb:Bp p) (w:List Ao) {a:Nat} (ha:a<=1):∀ (m:Nat) (b:List Ab) (e:Int) (u n:Nat),Dg ag b->(∀ r∈b,df r=true)->b.length=n->n<=60->u<=602->61<=m+n->
  jY.go k ⟨⟨p,w⟩⟩ (a:Int) (m+1) ⟨b⟩ e (u:Int) (n:Int)=some ((rd p a (m+1) b e u n).map fun x=>(x.1,(x.2:Int))):=by
 intro m
 induction m with
 |zero=>intro b e u n _ _ h1 h2 _ h3;omega
 |succ m ih=>
  intro b e u n hv rv gH hn hu hm
  rw[jY.go,rd,ap0 hk hp hb w ha u n (by omega)]
  simp only[Af]
  cases hq:recAt p a u n with
  |none=>rfl
  |some q=>
   obtain⟨⟨g1,g2,g3⟩,g4⟩:=(zZ hb).1 hq
   have hmp:0<q.2.2:=by rw[g4,kJ];exact uU q.1
   have adp:=g3.1
   rw[<-g4]at adp
   simp only[AI (show ¬ (q.2.2:Int)=0 by omega),Bj,Al]
   by_cases he:q.2.1<e
   ·simp only[AD he,Al,if_pos he];rfl
   ·have hh:∀ r∈b,jk r:=fun r hr=>nC (rv r hr)
    simp only[AI he,Aj,if_neg he,aaK hk (b:=⟨b⟩) hv.1 (show b.length<=900 by omega) hh,g1,Al,Af]
    cases de:iv b q.1 with
    |none=>
     unfold iv at de
     by_cases h0:(ey b q.1).2=0
     ·simp only[AD h0,Al]
      by_cases hl:(ey b q.1).1.length=b.length
      ·simp only[AD (show (((ey b q.1).1.length:Nat):Int)=(b.length:Int) by omega),Al];rfl
      ·rw[if_pos ⟨h0,hl⟩]at de;cases de
     ·simp only[AI h0,Aj];rfl
    |some b'=>
     obtain⟨v1,v2⟩:=ad7 hv g1 de
     have ij:=de
     unfold iv at ij
     split at ij
     ·rename_i hc
      have bQ:(ey b q.1).1=b':=oi ij
      have eV:ab ((u:Int)+(q.2.2:Int))=((u+q.2.2:Nat):Int):=by rw[aV (by omega) (by omega)];omega
      have lO:ab ((n:Int)+1)=((n+1:Nat):Int):=by rw[aV (by omega) (by omega)];omega
      have iL:b.length≠60:=(qn de).2.2.2
      simp only[AD hc.1,Al,bQ,AI (show ¬ ((b'.length:Nat):Int)=(b.length:Int) by omega),Aj,eV,lO]
      obtain⟨m,rfl⟩:∃ q,m=q+1:=⟨m - 1,by omega⟩
      rw[ih b' q.2.1 (u+q.2.2) (n+1) v1 (fun r hr=>by
       rw[(qn de).1,abx]at hr
       rcases hr with rfl|hr
       ·exact g1
       ·exact rv r hr) (by omega) (by omega) (by omega) (by omega)]
      rfl
     ·cases ij
def fin (s:List Ab×Nat) (L:List (Ab×Nat)):List Ab×Nat:=L.foldl (fun s x=>(eo ag s.1 x.1,x.2)) s
theorem apc {k:Nat} (hk:1000000<k) {p:List Pg} (hb:Bp p) {a:Nat} (D:Option az) (A E:Int):∀ (m:Nat) (b:List Ab) (e:Int) (u n:Nat) (U R:Int),Dg ag b->(∀ r∈b,df r=true)->b.length<=60->0<=R->R+100<=1000000 - (100 - m:Int)*0 - m->U=(u:Int)->
  jr k ⟨D,A,E,U,⟨b⟩,R⟩ ((rd p a m b e u n).map fun x=>(x.1,(x.2:Int)))=some ⟨D,A,E,((fin (b,u) (rd p a m b e u n)).2:Int),⟨(fin (b,u) (rd p a m b e u n)).1⟩,R+(rd p a m b e u n).length⟩:=by
 intro m
 induction m with
 |zero=>intro b e u n U R _ _ _ _ _ hU;subst hU;simp[rd,jr,fin]
 |succ m ih=>
  intro b e u n U R hv rv hl hR0 hR hU
  subst hU
  have stop:jr k ⟨D,A,E,(u:Int),⟨b⟩,R⟩ (([]:List (Ab×Nat)).map fun x=>(x.1,(x.2:Int)))=some ⟨D,A,E,((fin (b,u) []).2:Int),⟨(fin (b,u) []).1⟩,R+(([]:List (Ab×Nat)).length:Int)⟩:=by
   simp[jr,fin]
  rw[rd]
  cases hq:recAt p a u n with
  |none=>exact stop
  |some q=>
   obtain⟨⟨g1,g2,g3⟩,g4⟩:=(zZ hb).1 hq
   simp only
   by_cases he:q.2.1<e
   ·rw[if_pos he];exact stop
   ·rw[if_neg he]
    cases de:iv b q.1 with
    |none=>exact stop
    |some b'=>
     obtain⟨v1,v2⟩:=ad7 hv g1 de
     obtain⟨i1,_,_,i4⟩:=qn de
     have ij:=de
     unfold iv at ij
     split at ij
     ·rename_i hc
      have bQ:(ey b q.1).1=b':=oi ij
      have hh:∀ r∈b,jk r:=fun r hr=>nC (rv r hr)
      simp only[List.map_cons,jr]
      have fW:qs k ⟨D,A,E,(u:Int),⟨b⟩,R⟩ (q.1,((u+q.2.2:Nat):Int))=some ⟨D,A,E,((u+q.2.2:Nat):Int),⟨b'⟩,R+1⟩:=by
       unfold qs
       rw[aaK hk (b:=⟨b⟩) hv.1 (show b.length<=900 by omega) hh,g1]
       simp only[Al,Af,bQ]
       rw[aV (by omega) (by omega)]
      rw[fW,Af]
      rw[ih b' q.2.1 (u+q.2.2) (n+1) _ (R+1) v1 (fun r hr=>by
       rw[i1,abx]at hr
       rcases hr with rfl|hr
       ·exact g1
       ·exact rv r hr) (by omega) (by omega) (by omega) rfl]
      have hf:fin (b,u) ((q.1,u+q.2.2)::rd p a m b' q.2.1 (u+q.2.2) (n+1))=fin (b',u+q.2.2) (rd p a m b' q.2.1 (u+q.2.2) (n+1)):=by
       unfold fin
       rw[List.foldl_cons,i1]
      rw[hf]
      simp only[Az]
      congr 2
      push_cast
      omega
     ·cases ij
theorem anj (k:Nat) (e n:Int):xq k e n=some ⟨[104,IntKind.u8.wrap (Int.fdiv e (2 ^ 16)),IntKind.u8.wrap (Int.fdiv e (2 ^ 8)),IntKind.u8.wrap e,IntKind.u8.wrap (Int.fdiv n (2 ^ 8)),IntKind.u8.wrap n,
  0,0,0,0,0,0,0,0,0,0,0,0,0,0,0,0,0,0,0,0,0,0,0,0,0,165],rfl⟩:=rfl
def cL (e n:Int):Hf:=⟨[104,IntKind.u8.wrap (Int.fdiv e (2 ^ 16)),IntKind.u8.wrap (Int.fdiv e (2 ^ 8)),IntKind.u8.wrap e,IntKind.u8.wrap (Int.fdiv n (2 ^ 8)),IntKind.u8.wrap n,
  0,0,0,0,0,0,0,0,0,0,0,0,0,0,0,0,0,0,0,0,0,0,0,0,0,165],rfl⟩
def uf (p:List Pg) (a:Nat):List (Ab×Nat):=rd p a 100 [] (aM (hf p a 0)) 1 0
structure Ar where
 dG:Int
 fe:List (Ab×Nat)
def Ar.book (x:Ar):List Ab:=(fin ([],1) x.fe).1
def Ar.used (x:Ar):Nat:=(fin ([],1) x.fe).2
def dX (p:List Pg) (a:Nat):Option Ar:=
 if aM (hf p a 0)≠0/\hf p a 0=cL (aM (hf p a 0)) (bm [bt (hf p a 0) 4,bt (hf p a 0) 5])/\bm [bt (hf p a 0) 4,bt (hf p a 0) 5]<=((uf p a).length:Int) then some ⟨aM (hf p a 0),uf p a⟩ else none
theorem aio {p:List Pg}{a:Nat}:∀ (m:Nat) (b:List Ab) (e:Int) (u n:Nat),(rd p a m b e u n).length<=m
 |0,_,_,_,_=>Bd _
 |m+1,b,e,u,n=>by
  rw[rd]
  split
  ·exact Nat.zero_le _
  ·split
   ·exact Nat.zero_le _
   ·split
    ·exact Nat.zero_le _
    ·rw[Az]
     exact Nat.succ_le_succ (aio m _ _ _ _)
theorem aet {p:List Pg} (hb:Bp p) {a:Nat}:∀ (m m':Nat) (b:List Ab) (e:Int) (u n:Nat),61<=m+b.length->61<=m'+b.length->b.length<=60->rd p a m b e u n=rd p a m' b e u n
 |0,_,b,_,_,_,h1,_,h3=>by omega
 |_+1,0,b,_,_,_,_,h2,h3=>by omega
 |m+1,m'+1,b,e,u,n,h1,h2,h3=>by
  rw[rd,rd]
  cases hq:recAt p a u n with
  |none=>rfl
  |some q=>
   simp only
   by_cases he:q.2.1<e
   ·rw[if_pos he,if_pos he]
   ·rw[if_neg he,if_neg he]
    cases de:iv b q.1 with
    |none=>rfl
    |some b'=>
     obtain⟨i1,_,_,i4⟩:=qn de
     have hl:b'.length=b.length+1:=by rw[i1,zj]
     simp only
     rw[aet hb m m' b' q.2.1 _ _ (by omega) (by omega) (by omega)]
theorem apQ {k:Nat} (hk:1000000<k) {p:List Pg} (hp:p.length=602) (hb:Bp p) (w:List Ao) {a:Nat} (ha:a<=1):
  jY k ⟨⟨p,w⟩⟩ (a:Int)=some ((uf p a).map fun x=>(x.1,(x.2:Int))):=by
 unfold jY
 have h0:=vA k hp w ha (show 0<602 by decide)
 rw[CT]at h0
 rw[h0]
 simp only[Af,aba k (hb.hf a 0)]
 obtain⟨m,rfl⟩:∃ m,k=m+1:=⟨k - 1,by omega⟩
 have h1:=apO hk hp hb w ha m [] (aM (hf p a 0)) 1 0 ⟨.nil,trivial⟩ (by simp) rfl (by decide) (by decide) (by omega)
 have h2:=aet hb (m+1) 100 [] (aM (hf p a 0)) 1 0 (by simp;omega) (by decide) (by decide) (a:=a)
 rw[h2]at h1
 exact h1
theorem aic {k:Nat} (hk:1000000<k) {p:List Pg} (hp:p.length=602) (hb:Bp p) (w:List Ao) {a:Nat} (ha:a<=1):
  ∃ J ok,pk k ⟨⟨p,w⟩⟩ (a:Int)=some (J,ok)/\(match dX p a with|none=>ok=false|some q=>ok=true/\J.aW=(a:Int)/\J.dG=q.dG/\J.book=⟨q.book⟩/\J.used=(q.used:Int)):=by
 have h0:=vA k hp w ha (show 0<602 by decide)
 rw[CT]at h0
 have e4:(hf p a 0).at? 4=some (bt (hf p a 0) 4):=lx _ (i:=4) (by decide)
 have e5:(hf p a 0).at? 5=some (bt (hf p a 0) 5):=lx _ (i:=5) (by decide)
 have B4:=qU (hb.hf a 0) 4
 have B5:=qU (hb.hf a 0) 5
 unfold pk dX oL
 rw[h0]
 simp only[Af,aba k (hb.hf a 0),e4,e5,or2 B4 B5]
 by_cases he:aM (hf p a 0)=0
 ·simp only[AD he,AX,Aj]
  rw[if_neg (fun c=>c.1 he)]
  exact⟨_,_,rfl,rfl⟩
 ·simp only[AI he,Bj,Al,anj,Af]
  by_cases hh:hf p a 0=cL (aM (hf p a 0)) (bm [bt (hf p a 0) 4,bt (hf p a 0) 5])
  ·have hv:Aa.eq (fun(x y:Int)=>decide (x=y)) (hf p a 0) (cL (aM (hf p a 0)) (bm [bt (hf p a 0) 4,bt (hf p a 0) 5]))=true:=(qH _ _).2 hh
   unfold cL at hv
   simp only[hv,AX,Aj,apQ hk hp hb w ha,Af]
   have ho:=apc hk hb (a:=a) (some ⟨⟨p,w⟩⟩) (a:Int) (aM (hf p a 0)) 100 [] (aM (hf p a 0)) 1 0 1 0 ⟨.nil,trivial⟩ (by simp) (by decide) (by decide) (by decide) rfl
   have hl:=aio (p:=p) (a:=a) 100 [] (aM (hf p a 0)) 1 0
   unfold rR
   rw[show uf p a=rd p a 100 [] (aM (hf p a 0)) 1 0 from rfl,ho]
   simp only[Af,Int.zero_add]
   refine⟨_,_,rfl,?_⟩
   by_cases hc:bm [bt (hf p a 0) 4,bt (hf p a 0) 5]<=((rd p a 100 [] (aM (hf p a 0)) 1 0).length:Int)
   ·rw[if_pos ⟨he,hh,hc⟩]
    exact⟨AD hc,rfl,rfl,rfl,rfl⟩
   ·rw[if_neg (fun c=>hc c.2.2)]
    exact AI hc
  ·have hv:Aa.eq (fun(x y:Int)=>decide (x=y)) (hf p a 0) (cL (aM (hf p a 0)) (bm [bt (hf p a 0) 4,bt (hf p a 0) 5]))=false:=by
    cases hq:Aa.eq (fun(x y:Int)=>decide (x=y)) (hf p a 0) (cL (aM (hf p a 0)) (bm [bt (hf p a 0) 4,bt (hf p a 0) 5])) with
    |false=>rfl
    |true=>exact absurd ((qH _ _).1 hq) hh
   unfold cL at hv
   simp only[hv,Bj,Al]
   rw[if_neg (fun c=>hh c.2.1)]
   exact⟨_,_,rfl,rfl⟩
def lV (p:List Pg):Option (Nat×Ar):=match dX p 0,dX p 1 with
 |some x,some y=>if x.dG<y.dG then some (1,y) else some (0,x)
 |some x,none=>some (0,x)
 |none,some y=>some (1,y)
 |none,none=>none
theorem abw {k:Nat} (hk:1000000<k) {p:List Pg} (hp:p.length=602) (hb:Bp p) (w:List Ao):
  ∃ J ok,uL k ⟨⟨p,w⟩⟩=some (J,ok)/\(match lV p with|none=>ok=false|some q=>ok=true/\J.aW=(q.1:Int)/\J.dG=q.2.dG/\J.book=⟨q.2.book⟩/\J.used=(q.2.used:Int)):=by
 obtain⟨J0,o0,h0,g0⟩:=aic hk hp hb w (a:=0) (by decide)
 obtain⟨J1,o1,h1,g1⟩:=aic hk hp hb w (a:=1) (by decide)
 have xU:pk k ⟨⟨p,w⟩⟩ 0=some (J0,o0):=h0
 have tf:pk k ⟨⟨p,w⟩⟩ 1=some (J1,o1):=h1
 unfold uL lV
 rw[xU,tf]
 simp only[Af]
 cases hx:dX p 0 with
 |none=>
  rw[hx]at g0
  simp only at g0
  subst g0
  cases hy:dX p 1 with
  |none=>
   rw[hy]at g1
   simp only at g1
   subst g1
   exact⟨_,_,rfl,rfl⟩
  |some y=>
   rw[hy]at g1
   simp only at g1
   obtain⟨rfl,a2,a3,a4,a5⟩:=g1
   exact⟨_,_,rfl,rfl,a2,a3,a4,a5⟩
 |some x=>
  rw[hx]at g0
  simp only at g0
  obtain⟨rfl,b2,b3,b4,b5⟩:=g0
  cases hy:dX p 1 with
  |none=>
   rw[hy]at g1
   simp only at g1
   subst g1
   exact⟨_,_,rfl,rfl,b2,b3,b4,b5⟩
  |some y=>
   rw[hy]at g1
   simp only at g1
   obtain⟨rfl,a2,a3,a4,a5⟩:=g1
   simp only[Al,b3,a3]
   by_cases ae:x.dG<y.dG
   ·simp only[AD ae,Al,if_pos ae]
    exact⟨_,_,rfl,rfl,a2,a3,a4,a5⟩
   ·simp only[AI ae,Aj,if_neg ae]
    exact⟨_,_,rfl,rfl,b2,b3,b4,b5⟩
theorem amG {k:Nat} (hk:1000000<k) {l:List Ab} (hl:l.length<=100000):fq k l l=some true:=by
 unfold fq
 simp only[BA,AX,Aj]
 have h:=acb (l:=l) (body:=fq.b0 k l l) (p:=fun _=>true) (c:=false) (by omega) (k:=k) (by omega) (fun i x hx=>by
  have hi:=(gS.1 hx).1
  unfold fq.b0
  simp only[AD (show (i:Int)<(l.length:Int) by omega),Al,bC hx,Af,BA,BN,beq_self_eq_true,AX,Aj]) (by
  unfold fq.b0
  simp only[(by simp:decide ((l.length:Int)<(l.length:Int))=false),Aj])
 rw[h]
 have:l.all (fun _=>true)=true:=by simp
 rw[this]
 rfl
theorem Bp.ak {w:List Ao} (hw:∀ x∈w,∀ h∈x.AE.l,AY h.l):∀ {p:List Pg},Bp p->Bp (ak p w):=by
 induction w with
 |nil=>intro p h;exact h
 |cons x w ih=>
  intro p h
  refine ih (fun y hy=>hw y (by simp[hy])) (fun g hg=>?_)
  rcases List.mem_or_eq_of_mem_set hg with g1|rfl
  ·exact h g g1
  ·exact hw x (by simp)
structure DB (d:Ac):Prop where
 ok:jy d=true
 pb:Bp d.Ae
 wb:∀ x∈d.Ad,∀ h∈x.AE.l,AY h.l
theorem DB.new {d:Ac} (h:DB d):Bp (ak d.Ae d.Ad):=Bp.ak h.wb h.pb
theorem DB.len {d:Ac} (h:DB d):(ak d.Ae d.Ad).length=602:=by rw[aoK];exact(gk.1 h.ok).1
structure FE (d:Ac) (l:AB) (q:Nat×Ar):Prop where
 adY:lV (ak d.Ae d.Ad)=some q
 le:q.1<=1
 aW:l.BG=(q.1:Int)
 used:l.Used=(q.2.used:Int)
 book:l.Ak=⟨q.2.book⟩
 short:q.2.book.length<=60
 ep:1<=l.AH/\l.AH<=1000000
 m0:mx (ak d.Ae d.Ad) 0 0<=l.AH
 m1:mx (ak d.Ae d.Ad) 1 0<=l.AH
 mu:mx (ak d.Ae d.Ad) q.1 q.2.used<l.AH
theorem ajt {x lo hi:Int} (h:lo<=x/\x<=hi):within x lo hi=true:=by unfold within;simp[h.1,h.2]
theorem alO {k:Nat} (hk:1000000<k) {d:Ac} (hd:DB d) {l:AB}{q:Nat×Ar} (h:FE d l q):nQ k d l=some 0:=by
 obtain⟨J,ok,h1,h2⟩:=abw hk hd.len hd.new []
 rw[h.adY]at h2
 simp only at h2
 obtain⟨rfl,ha,he,vD,hu⟩:=h2
 have E0:=nU hk hd.len hd.new [] (a:=0) (by decide) 0
 have E1:=nU hk hd.len hd.new [] (a:=1) (by decide) 0
 have E2:=nU hk hd.len hd.new [] h.le q.2.used
 have DH:dz k ⟨⟨ak d.Ae d.Ad,[]⟩⟩ 0 0=some (mx (ak d.Ae d.Ad) 0 0):=E0
 have DI:dz k ⟨⟨ak d.Ae d.Ad,[]⟩⟩ 1 0=some (mx (ak d.Ae d.Ad) 1 0):=E1
 have ru:=h.m0
 have de:=h.m1
 have hmu:=h.mu
 have hs:=h.short
 unfold nQ
 rw[mK hk,hd.ok]
 simp only[Af,AX,Aj]
 rw[mo hd.ok]
 simp only[Af]
 rw[sm hk hd.ok]
 simp only[Af,h1,Al,h.aW,ha,hu,h.used,BA,vD,h.book,amG hk (show q.2.book.length<=100000 by omega),zk,ajt h.ep,AX,Aj,DH,DI]
 rw[AI (show ¬ l.AH<max (mx (ak d.Ae d.Ad) 0 0) (mx (ak d.Ae d.Ad) 1 0) by omega)]
 simp only[Bj,Al,E2,Af]
 rw[AI (show ¬ l.AH<=mx (ak d.Ae d.Ad) q.1 q.2.used by omega)]
 rfl
theorem ape {k:Nat} (hk:1000000<k) {d:Ac} (hd:DB d) {q:Nat×Ar} (h:lV (ak d.Ae d.Ad)=some q) (hm:max (mx (ak d.Ae d.Ad) 0 0) (mx (ak d.Ae d.Ad) 1 0)<1000000):
  lr k d=some (⟨ak d.Ae d.Ad,[]⟩,⟨⟨q.2.book⟩,(q.1:Int),1+max (mx (ak d.Ae d.Ad) 0 0) (mx (ak d.Ae d.Ad) 1 0),(q.2.used:Int)⟩,0):=by
 obtain⟨J,ok,h1,h2⟩:=abw hk hd.len hd.new []
 rw[h]at h2
 simp only at h2
 obtain⟨rfl,ha,he,vD,hu⟩:=h2
 have DH:dz k ⟨⟨ak d.Ae d.Ad,[]⟩⟩ 0 0=some (mx (ak d.Ae d.Ad) 0 0):=nU hk hd.len hd.new [] (a:=0) (by decide) 0
 have DI:dz k ⟨⟨ak d.Ae d.Ad,[]⟩⟩ 1 0=some (mx (ak d.Ae d.Ad) 1 0):=nU hk hd.len hd.new [] (a:=1) (by decide) 0
 have n0:=vY (ak d.Ae d.Ad) 0 0
 have n1:=vY (ak d.Ae d.Ad) 1 0
 have hw:ab (1+max (mx (ak d.Ae d.Ad) 0 0) (mx (ak d.Ae d.Ad) 1 0))=1+max (mx (ak d.Ae d.Ad) 0 0) (mx (ak d.Ae d.Ad) 1 0):=aV (by omega) (by omega)
 unfold lr
 rw[mK hk,hd.ok]
 simp only[Af,AX,Aj]
 rw[mo hd.ok]
 simp only[Af]
 rw[sm hk hd.ok]
 simp only[Af,h1,AX,Aj,DH,DI,hw,vD,ha,hu]
 rw[AI (show ¬ (1000000:Int)<1+max (mx (ak d.Ae d.Ad) 0 0) (mx (ak d.Ae d.Ad) 1 0) by omega)]
 rfl
def ph (p:List Pg) (j s:Nat):Hf:=match p[j]? with
 |some g=>(g.l[s]?).getD hz
 |none=>hz
theorem anp (p:List Pg) (a i:Nat):hf p a i=ph p (301*a+i / 2) (i % 2):=rfl
def sd (g:Pg) (s:Nat):Hf:=(g.l[s]?).getD hz
theorem ud {p:List Pg}{j:Nat}{g:Pg} (h:p[j]?=some g) (s:Nat):ph p j s=sd g s:=by unfold ph;rw[h];rfl
theorem aik {p:List Pg}{j:Nat} (hj:j<p.length) (g:Pg) (j' s:Nat):ph (p.set j g) j' s=if j'=j then sd g s else ph p j' s:=by
 by_cases e:j'=j
 ·subst e
  rw[if_pos rfl,ud (by rw[List.getElem?_set_self hj])]
 ·rw[if_neg e]
  unfold ph
  rw[List.getElem?_set_ne (Ne.symm e)]
theorem wu (g:Pg) {s:Nat} (hs:s<2) (x:Hf) (s':Nat):sd (g.set (s:Int) x) s'=if s'=s then x else sd g s':=by
 have hl:=g.h
 unfold sd Aa.set
 simp only[Ck]
 by_cases e:s'=s
 ·subst e
  rw[if_pos rfl,List.getElem?_set_self (by omega)];rfl
 ·rw[if_neg e,List.getElem?_set_ne (Ne.symm e)]
theorem ss (g:Pg) {s:Nat} (hs:s<2):g.at? (s:Int)=some (sd g s):=by
 have:=ab8 g s
 rw[Nat.mod_eq_of_lt hs]at this
 exact this
def GF (kj new p:List Pg):Prop:=∀ j s,ph p j s=ph kj j s\/ph p j s=ph new j s
theorem abU {k:Nat}{p:List Pg} (hp:p.length=602) {w:Ao} (hw:0<=w.At/\w.At<=601) {s:Nat} (hs:s<2):
  ∃ g,at? p w.At=some g/\dL p w.At (g.set (s:Int) (sd w.AE s))=some (p.set w.At.toNat (g.set (s:Int) (sd w.AE s)))/\∀ j' s',ph (p.set w.At.toNat (g.set (s:Int) (sd w.AE s))) j' s'=if j'=w.At.toNat/\s'=s then sd w.AE s else ph p j' s':=by
 have hj:w.At.toNat<p.length:=by omega
 refine⟨p[w.At.toNat],?_,?_,fun j' s'=>?_⟩
 ·unfold at?
  rw[if_pos ⟨by omega,by omega⟩,gG hj]
 ·unfold dL
  rw[if_pos ⟨by omega,by omega⟩]
 ·rw[aik hj,wu _ hs]
  by_cases e:j'=w.At.toNat
  ·subst e
   by_cases e2:s'=s
   ·rw[if_pos rfl,if_pos e2,if_pos ⟨rfl,e2⟩]
   ·rw[if_pos rfl,if_neg e2,if_neg (fun c=>e2 c.2),ud (gG hj)]
  ·rw[if_neg e,if_neg (fun c=>e c.1)]
def Part (p p':List Pg) (w:Ao):Prop:=p'.length=602/\∀ j s,ph p' j s=ph p j s\/(j=w.At.toNat/\ph p' j s=sd w.AE s)
theorem aiP {R:Type}{w:Ao} (hw:0<=w.At/\w.At<=601) {body:Int×List Pg->Option (AU (Int×List Pg) (List Pg) R)}{c:Nat->Bool}
  (h1:∀ (s:Nat) p,s<2->p.length=602->body ((s:Int),p)=bif c s then (w.AE.at? (s:Int)).bind fun x=>(at? p w.At).bind fun g=>(g.at? (s:Int)).bind fun _=>(dL p w.At (g.set (s:Int) x)).bind fun l=>some (.next (ab ((s:Int)+1),l)) else some (.next (ab ((s:Int)+1),p)))
  (h2:∀ p,body (2,p)=some (.brk p)) {p:List Pg} (hp:p.length=602) (m:Nat):∃ p',aj body (m+3) (0,p)=some (.brk p')/\Part p p' w:=by
 have w1:ab (((0:Nat):Int)+1)=((1:Nat):Int):=by decide
 have w2:ab (((1:Nat):Int)+1)=2:=by decide
 have one:∀ (s:Nat) (p:List Pg),s<2->p.length=602->∃ p',body ((s:Int),p)=some (.next (ab ((s:Int)+1),p'))/\Part p p' w:=by
  intro s p hs hp
  rw[h1 s p hs hp]
  cases c s with
  |false=>exact⟨p,rfl,hp,fun j s=>.inl rfl⟩
  |true=>
   obtain⟨g,g1,g3,g4⟩:=abU (k:=0) hp hw hs
   refine⟨p.set w.At.toNat (g.set (s:Int) (sd w.AE s)),?_,by rw[C3];exact hp,fun j s'=>?_⟩
   ·simp only[Al,ss w.AE hs,ss g hs,g1,g3,Af]
   ·rw[g4]
    by_cases e:j=w.At.toNat/\s'=s
    ·rw[if_pos e];exact .inr ⟨e.1,by rw[e.2]⟩
    ·rw[if_neg e];exact .inl rfl
 obtain⟨p1,a1,b1,b2⟩:=one 0 p (by decide) hp
 obtain⟨p2,a2,c1,c2⟩:=one 1 p1 (by decide) b1
 rw[w1]at a1
 rw[w2]at a2
 refine⟨p2,?_,c1,fun j s=>?_⟩
 ·have a1':body (0,p)=some (.next (((1:Nat):Int),p1)):=a1
  simp only[aj,a1',a2,h2]
 ·rcases c2 j s with e|⟨e1,e2⟩
  ·rcases b2 j s with f|⟨f1,f2⟩
   ·exact .inl (e.trans f)
   ·exact .inr ⟨f1,e.trans f2⟩
  ·exact .inr ⟨e1,e2⟩
def pz:Pg:=Aa.rep 2 hz
def eZ (p:List Pg) (a u:Nat) (l:List Hf):Nat->Nat->List Ao
 |0,_=>[]
 |f+1,i=>match l[i]? with
  |none=>[]
  |some x=>if (u+i) % 2=1 then ⟨((301*a+(u+i) / 2:Nat):Int),((p[301*a+(u+i) / 2]?).getD pz).set 1 x⟩::eZ p a u l f (i+1) else match l[i+1]? with
   |none=>[⟨((301*a+(u+i) / 2:Nat):Int),((p[301*a+(u+i) / 2]?).getD pz).set 0 x⟩]
   |some y=>⟨((301*a+(u+i) / 2:Nat):Int),(((p[301*a+(u+i) / 2]?).getD pz).set 0 x).set 1 y⟩::eZ p a u l f (i+2)
theorem aq4 {k:Nat} (hk:1000000<k) {p:List Pg} (hp:p.length=602) {a u:Nat} (ha:a<=1) {l:List Hf} (cE:u+l.length<=602):∀ (f i m:Nat) (ws:List Ao),l.length - i<=f->f<m->i<=l.length->ws.length+f<=100000->
  aj (bT.b0 k (a:Int) (u:Int) l ⟨⟨p,[]⟩⟩) m ((i:Int),ws)=some (.brk (ws++eZ p a u l f i)):=by
 intro f
 induction f with
 |zero=>
  intro i m ws h1 h2 h3 h4
  obtain⟨m,rfl⟩:∃ q,m=q+1:=⟨m - 1,by omega⟩
  have hb:bT.b0 k (a:Int) (u:Int) l ⟨⟨p,[]⟩⟩ ((i:Int),ws)=some (.brk ws):=by
   unfold bT.b0
   simp only[AI (show ¬ (i:Int)<(l.length:Int) by omega),Aj]
  simp only[aj,hb,eZ,List.append_nil]
 |succ f ih=>
  intro i m ws h1 h2 h3 h4
  obtain⟨m,rfl⟩:∃ q,m=q+1:=⟨m - 1,by omega⟩
  by_cases hi:i<l.length
  ·obtain⟨x,hx⟩:∃ x,l[i]?=some x:=⟨_,gG hi⟩
   have rA:ab ((u:Int)+(i:Int))=((u+i:Nat):Int):=by rw[aV (by omega) (by omega)];omega
   have eV:ab ((i:Int)+1)=((i+1:Nat):Int):=by rw[aV (by omega) (by omega)];omega
   have y7:ab ((u:Int)+((i+1:Nat):Int))=((u+(i+1):Nat):Int):=by rw[aV (by omega) (by omega)];omega
   have hg:p[301*a+(u+i) / 2]?=some (p[301*a+(u+i) / 2]'(by omega)):=gG (by omega)
   obtain⟨g,bo⟩:∃ g,p[301*a+(u+i) / 2]?=some g:=⟨_,hg⟩
   have pY:=aaM hp ha (show u+i<602 by omega)
   obtain⟨k',rfl⟩:∃ k',k=k'+2:=⟨k - 2,by omega⟩
   have yV:∀ v:Ao,fH 72 ws v=some (ws++[v]):=fun v=>qw (by omega) (by omega)
   by_cases np:(u+i) % 2=1
   ·have bB:bT.b1 (k'+2) (u:Int) l (g,(i:Int))=some (.brk (g.set 1 x,((i+1:Nat):Int))):=by
     unfold bT.b1
     have hm:Int.tmod ((u+i:Nat):Int) 2=((1:Nat):Int):=by rw[qm,np]
     have de:Int.tmod ((u+(i+1):Nat):Int) 2=0:=by rw[qm];omega
     simp only[bC hx,Af,rA,hm,ss g (show 1<2 by decide),eV,y7,de,BA,Al]
     cases decide (((i+1:Nat):Int)=(l.length:Int))<;>rfl
    have hb:bT.b0 (k'+2) (a:Int) (u:Int) l ⟨⟨p,[]⟩⟩ ((i:Int),ws)=some (.next (((i+1:Nat):Int),ws++[⟨((301*a+(u+i) / 2:Nat):Int),g.set 1 x⟩])):=by
     unfold bT.b0
     simp only[AD (show (i:Int)<(l.length:Int) by omega),Al,rA,pY,bC bo,Af,aj,bB,yV]
    simp only[aj,hb]
    rw[ih (i+1) m _ (by omega) (by omega) (by omega) (by simp;omega)]
    rw[eZ,hx]
    simp only[if_pos np,bo,Option.getD_some]
    simp
   ·have hm:Int.tmod ((u+i:Nat):Int) 2=((0:Nat):Int):=by rw[qm];omega
    have de:¬ Int.tmod ((u+(i+1):Nat):Int) 2=0:=by rw[qm];omega
    by_cases gq:i+1=l.length
    ·have bB:bT.b1 (k'+2) (u:Int) l (g,(i:Int))=some (.brk (g.set 0 x,((i+1:Nat):Int))):=by
      unfold bT.b1
      simp only[bC hx,Af,rA,hm,ss g (show 0<2 by decide),eV,AD (show ((i+1:Nat):Int)=(l.length:Int) by omega),AX,Aj]
      rfl
     have hb:bT.b0 (k'+2) (a:Int) (u:Int) l ⟨⟨p,[]⟩⟩ ((i:Int),ws)=some (.next (((i+1:Nat):Int),ws++[⟨((301*a+(u+i) / 2:Nat):Int),g.set 0 x⟩])):=by
      unfold bT.b0
      simp only[AD (show (i:Int)<(l.length:Int) by omega),Al,rA,pY,bC bo,Af,aj,bB,yV]
     have hn:l[i+1]?=none:=CK (by omega)
     have vI:eZ p a u l f (i+1)=[]:=by
      cases f with
      |zero=>rfl
      |succ f=>rw[eZ,hn]
     simp only[aj,hb]
     rw[ih (i+1) m _ (by omega) (by omega) (by omega) (by simp;omega),vI]
     rw[eZ,hx]
     simp only[if_neg np,hn,bo,Option.getD_some]
     simp
    ·obtain⟨y,hy⟩:∃ y,l[i+1]?=some y:=⟨_,gG (by omega)⟩
     have lO:ab (((i+1:Nat):Int)+1)=((i+2:Nat):Int):=by rw[aV (by omega) (by omega)];omega
     have anU:ab ((u:Int)+((i+2:Nat):Int))=((u+(i+2):Nat):Int):=by rw[aV (by omega) (by omega)];omega
     have ij:Int.tmod ((u+(i+1):Nat):Int) 2=((1:Nat):Int):=by rw[qm];omega
     have hm3:Int.tmod ((u+(i+2):Nat):Int) 2=0:=by rw[qm];omega
     have adA:bT.b1 (k'+2) (u:Int) l (g,(i:Int))=some (.next (g.set 0 x,((i+1:Nat):Int))):=by
      unfold bT.b1
      simp only[bC hx,Af,rA,hm,ss g (show 0<2 by decide),eV,AI (show ¬ ((i+1:Nat):Int)=(l.length:Int) by omega),Bj,Al,y7,AI de,Aj]
      rfl
     have anu:bT.b1 (k'+2) (u:Int) l (g.set 0 x,((i+1:Nat):Int))=some (.brk ((g.set 0 x).set 1 y,((i+2:Nat):Int))):=by
      unfold bT.b1
      simp only[bC hy,Af,y7,ij,ss (g.set 0 x) (show 1<2 by decide),lO,anU,hm3,BA,Al]
      cases decide (((i+2:Nat):Int)=(l.length:Int))<;>rfl
     have hb:bT.b0 (k'+2) (a:Int) (u:Int) l ⟨⟨p,[]⟩⟩ ((i:Int),ws)=some (.next (((i+2:Nat):Int),ws++[⟨((301*a+(u+i) / 2:Nat):Int),(g.set 0 x).set 1 y⟩])):=by
      unfold bT.b0
      simp only[AD (show (i:Int)<(l.length:Int) by omega),Al,rA,pY,bC bo,Af,aj,adA,anu,yV]
     simp only[aj,hb]
     rw[ih (i+2) m _ (by omega) (by omega) (by omega) (by simp;omega)]
     rw[eZ,hx]
     simp only[if_neg np,hy,bo,Option.getD_some]
     simp
  ·have hn:l[i]?=none:=CK (by omega)
   have hb:bT.b0 k (a:Int) (u:Int) l ⟨⟨p,[]⟩⟩ ((i:Int),ws)=some (.brk ws):=by
    unfold bT.b0
    simp only[AI (show ¬ (i:Int)<(l.length:Int) by omega),Aj]
   simp only[aj,hb]
   rw[eZ,hn]
   simp
abbrev abr (a u i n j s:Nat):Prop:=301*a<=j/\j<301*a+301/\u+i<=2*(j - 301*a)+s/\2*(j - 301*a)+s<u+n
def tg (p:List Pg) (a u:Nat) (l:List Hf) (i j s:Nat):Hf:=if abr a u i l.length j s then (l[2*(j - 301*a)+s - u]?).getD hz else ph p j s
theorem ace (p:List Pg) (a u:Nat) (l:List Hf):∀ f i,(eZ p a u l f i).length<=l.length - i
 |0,i=>by simp[eZ]
 |f+1,i=>by
  rw[eZ]
  cases hx:l[i]? with
  |none=>simp
  |some x=>
   have hi:=(gS.1 hx).1
   simp only
   split
   ·have:=ace p a u l f (i+1)
    rw[Az];omega
   ·cases hy:l[i+1]? with
    |none=>simp;omega
    |some y=>
     have hi1:=(gS.1 hy).1
     have:=ace p a u l f (i+2)
     simp only[Az];omega
theorem aeR {p:List Pg} (hp:p.length=602) {a u:Nat} (ha:a<=1) {l:List Hf} (cE:u+l.length<=602):∀ f i,((u+i) % 2=1->i=0)->∀ w∈eZ p a u l f i,(0<=w.At/\w.At<=601)/\∀ s,s<2->sd w.AE s=tg p a u l 0 w.At.toNat s
 |0,i,_,w,hw=>by simp[eZ]at hw
 |f+1,i,ho,w,hw=>by
  rw[eZ]at hw
  cases hx:l[i]? with
  |none=>rw[hx]at hw;simp at hw
  |some x=>
   have hi:=(gS.1 hx).1
   have hg:p[301*a+(u+i) / 2]?=some (p[301*a+(u+i) / 2]'(by omega)):=gG (by omega)
   obtain⟨g,bo⟩:∃ g,p[301*a+(u+i) / 2]?=some g:=⟨_,hg⟩
   rw[hx]at hw
   simp only[bo,Option.getD_some]at hw
   split at hw
   ·rename_i np
    rcases BD.1 hw with rfl|hw
    ·refine⟨by simp only;omega,fun s hs=>?_⟩
     simp only[Ck]
     rw[show (1:Int)=((1:Nat):Int) from rfl,wu g (show 1<2 by decide)]
     have h0:=ho np
     unfold tg abr
     by_cases e:s=1
     ·rw[if_pos e,if_pos (by omega),show 2*(301*a+(u+i) / 2 - 301*a)+s - u=i by omega,hx];rfl
     ·rw[if_neg e,if_neg (by omega),ud bo]
    ·exact aeR hp ha cE f (i+1) (by omega) w hw
   ·rename_i vJ
    cases hy:l[i+1]? with
    |none=>
     have hi1:l.length<=i+1:=List.getElem?_eq_none_iff.1 hy
     rw[hy]at hw
     simp only[CL]at hw
     subst hw
     refine⟨by simp only;omega,fun s hs=>?_⟩
     simp only[Ck]
     rw[show (0:Int)=((0:Nat):Int) from rfl,wu g (show 0<2 by decide)]
     unfold tg abr
     by_cases e:s=0
     ·rw[if_pos e,if_pos (by omega),show 2*(301*a+(u+i) / 2 - 301*a)+s - u=i by omega,hx];rfl
     ·rw[if_neg e,if_neg (by omega),ud bo]
    |some y=>
     have hi1:=(gS.1 hy).1
     rw[hy]at hw
     simp only at hw
     rcases BD.1 hw with rfl|hw
     ·refine⟨by simp only;omega,fun s hs=>?_⟩
      simp only[Ck]
      rw[show (1:Int)=((1:Nat):Int) from rfl,wu _ (show 1<2 by decide),show (0:Int)=((0:Nat):Int) from rfl,wu g (show 0<2 by decide)]
      unfold tg abr
      by_cases e:s=1
      ·rw[if_pos e,if_pos (by omega),show 2*(301*a+(u+i) / 2 - 301*a)+s - u=i+1 by omega,hy];rfl
      ·rw[if_neg e,if_pos (by omega),if_pos (by omega),show 2*(301*a+(u+i) / 2 - 301*a)+s - u=i by omega,hx];rfl
     ·exact aeR hp ha cE f (i+2) (by omega) w hw
theorem aq5 {k:Nat} (hk:1000000<k) {d:Ac} (hd:DB d) {a u:Nat} (ha:a<=1) {l:List Hf} (cE:u+l.length<=602):
  bT k ⟨d⟩ (a:Int) (u:Int) l=some ⟨⟨d.Ae,d.Ad++eZ (ak d.Ae d.Ad) a u l l.length 0⟩⟩:=by
 obtain⟨h1,h2,h3⟩:=gk.1 hd.ok
 unfold bT
 simp only
 rw[mo hd.ok]
 simp only[Af]
 rw[sm hk hd.ok]
 simp only[Af]
 have:=aq4 hk hd.len ha cE l.length 0 k d.Ad (by omega) (by omega) (by omega) (by omega)
 rw[CT]at this
 rw[this]
 rfl
theorem ak0 {k:Nat} (hk:1000000<k) {d:Ac} (hd:DB d) {l:AB}{q:Nat×Ar} (hL:FE d l q) {r:Ab} (hr:df r=true) (hs:CC ag l.Ak.Aq) (hh:∀ x∈l.Ak.Aq,jk x) (ha:ey l.Ak.Aq r=(l.Ak.Aq,0)):
  ml k d l r=some (d,l,0):=by
 have gH:l.Ak.Aq.length<=60:=by rw[hL.book];exact hL.short
 unfold ml
 rw[alO hk hd hL]
 simp only[Af,BA,AX,Aj]
 rw[aaK hk (b:=l.Ak) hs (show l.Ak.Aq.length<=900 by omega) hh,hr,ha]
 simp only[Al,Af,BA,AX,Aj]
 rw[mo hd.ok]
 simp only[Af]
 unfold xn
 rw[acL (show l.Ak.Aq.length<=1000 by omega)]
 simp only[Af,BA,Al]
def jM:List Pg:=(List.replicate 602 pz).set 0 (pz.set 0 (cL 1 0))
def IU (p q:List Pg) (a:Nat):Prop:=∀ i,i<602->hf p a i=hf q a i
theorem alA (e n:Int):bt (cL e n) 0=104/\bt (cL e n) 1=IntKind.u8.wrap (Int.fdiv e (2 ^ 16))/\bt (cL e n) 2=IntKind.u8.wrap (Int.fdiv e (2 ^ 8))/\bt (cL e n) 3=IntKind.u8.wrap e/\bt (cL e n) 4=IntKind.u8.wrap (Int.fdiv n (2 ^ 8))/\bt (cL e n) 5=IntKind.u8.wrap n/\bt (cL e n) 31=165:=
 ⟨rfl,rfl,rfl,rfl,rfl,rfl,rfl⟩
theorem amB {e:Int} (he:1<=e/\e<=1000000) (n:Int):aM (cL e n)=e:=by
 obtain⟨h0,h1,h2,h3,_,_,xV⟩:=alA e n
 have hr:bm [bt (cL e n) 1,bt (cL e n) 2,bt (cL e n) 3]=e:=by
  rw[h1,h2,h3,<-nO,rd3 (by omega) (by omega)]
 unfold aM
 rw[hr,if_pos ⟨.inl h0,xV,he.2⟩]
theorem aa9:aM hz=0:=by decide +kernel
def nF (log:List Ab):Nat:=1+(log.map fun r=>bD (enc r).length).sum
def ahE (e0:Int) (ep:Nat->Int):Nat->Int
 |0=>e0
 |j+1=>ep j
structure EU (log:List Ab):Prop where
 ok:∀ r∈log,df r=true
 vl:VL ag (fun _=>0) log
 len:log.length<=50
theorem EU.no {log:List Ab} (h:EU log) {j:Nat}{r:Ab} (hx:log[j]?=some r):(ag r).2=ax ag (log.take j) (ag r).1:=by
 rw[(HN ag).1 h.vl j r hx];exact Int.zero_add _
structure Jr (d:Ac) (l:AB) (log:List Ab) (mz:Nat) (a:Nat) (e0 c:Int) (ep:Nat->Int):Prop where
 db:DB d
 a1:a<=1
 ary:EU log
 aru:mz<=log.length
 aW:l.BG=(a:Int)
 book:l.Ak=⟨bk ag [] log⟩
 used:l.Used=(nF log:Int)
 epo:1<=l.AH/\l.AH<=1000000
 he0:1<=e0/\e0<=1000000
 hc:0<=c/\c<=mz
 arG:hf (ak d.Ae d.Ad) a 0=cL e0 c
 arH:hf d.Ae a 0=cL e0 c
 fe:∀ j r,log[j]?=some r->DL (ak d.Ae d.Ad) a (nF (log.take j)) j r (ep j)
 mono:∀ j,j<log.length->ahE e0 ep j<=ep j
 late:∀ j,mz<=j->j<log.length->ep j=l.AH
 bound:∀ b i,b<=1->i<602->aM (hf (ak d.Ae d.Ad) b i)<=l.AH/\aM (hf d.Ae b i)<=l.AH
 free:∀ i,nF log<=i->i<602->aM (hf (ak d.Ae d.Ad) a i)<l.AH/\hf d.Ae a i=hf (ak d.Ae d.Ad) a i
 arv:∀ i,i<nF (log.take mz)->hf d.Ae a i=hf (ak d.Ae d.Ad) a i
 soft:∀ i,nF (log.take mz)<=i->i<nF log->aM (hf (ak d.Ae d.Ad) a i)=l.AH/\aM (hf d.Ae a i)<l.AH
 other:IU d.Ae (ak d.Ae d.Ad) (1 - a)
 pick:∀ y,dX (ak d.Ae d.Ad) (1 - a)=some y->if a=0 then y.dG<=e0 else y.dG<e0
 stop:∀ r e,DL d.Ae a (nF (log.take mz)) mz r e->ahE e0 ep mz<=e->iv (bk ag [] (log.take mz)) r=none
 waits:∀ w∈d.Ad,∀ s,sd w.AE s=ph d.Ae w.At.toNat s\/sd w.AE s=ph (ak d.Ae d.Ad) w.At.toNat s
 ar5:d.Ad.length<=10*log.length
section
variable {d:Ac}{l:AB}{log:List Ab}{mz a:Nat}{e0 c:Int}{ep:Nat->Int}
theorem DL.ep0 {p:List Pg}{a f n:Nat}{r:Ab}{e:Int} (h:DL p a f n r e) {i:Nat} (hi:i<(cD r n e).length):aM (hf p a (f+i))=e:=by
 obtain⟨x,hx⟩:∃ x,(cD r n e)[i]?=some x:=⟨_,gG hi⟩
 rw[h.run.2 i x hx,am4 hx]
 exact ac0 h.ep _ _ _ _
theorem DL.at0 {p:List Pg}{a f n:Nat}{r:Ab}{e:Int} (h:DL p a f n r e):aM (hf p a f)=e:=by
 have:=h.ep0 (i:=0) (by rw[kJ];exact uU r)
 simpa using this
end
section
variable {d:Ac}{l:AB}{log:List Ab}{mz a:Nat}{e0 c:Int}{ep:Nat->Int}
theorem DB.sync {d:Ac} (h:DB d):DB ⟨ak d.Ae d.Ad,[]⟩:=by
 refine⟨gk.2 ⟨h.len,by simp,by simp⟩,h.new,by simp⟩
theorem aby (p:List Pg):ak p []=p:=rfl
theorem GF.pb {kj new p:List Pg} (h:GF kj new p) (ho:Bp kj) (hn:Bp new):Bp p:=by
 have one:∀ (q:List Pg),Bp q->∀ j s,AY (ph q j s).l:=fun q hq j s=>by
  have rC:AY hz.l:=by
   intro y hy
   have:y=0:=by
    simp only[hz,Aa.rep,List.mem_replicate]at hy
    exact hy.2
   omega
  unfold ph
  cases hg:q[j]? with
  |none=>exact rC
  |some g=>
   simp only
   cases hx:g.l[s]? with
   |none=>exact rC
   |some x=>exact hq g (AW hg) x (AW hx)
 intro g hg x hx
 obtain⟨j,hj⟩:=BC.1 hg
 obtain⟨s,hs⟩:=BC.1 hx
 have e:ph p j s=x:=by rw[ud hj];unfold sd;rw[hs];rfl
 rcases h j s with g1|g1
 ·rw[<-e,g1];exact one kj ho j s
 ·rw[<-e,g1];exact one new hn j s
end
theorem yw (b i:Nat) (hb:b<=1) (hi:i<602):hf jM b i=if b=0/\i=0 then cL 1 0 else hz:=by
 have hl:(List.replicate 602 pz).length=602:=CS
 rw[anp]
 unfold jM
 rw[aik (by rw[hl];decide),show (0:Int)=((0:Nat):Int) from rfl,wu pz (show 0<2 by decide)]
 have hpz:∀ s,s<2->sd pz s=hz:=fun s hs=>by
  have:s=0\/s=1:=by omega
  rcases this with rfl|rfl<;>rfl
 by_cases h1:301*b+i / 2=0
 ·rw[if_pos h1]
  by_cases h2:i % 2=0
  ·rw[if_pos h2,if_pos (by omega)]
  ·rw[if_neg h2,if_neg (by omega),hpz _ (by omega)]
 ·rw[if_neg h1,if_neg (by omega),ud (g:=pz) (by rw[List.getElem?_replicate,if_pos (by omega)]),hpz _ (by omega)]
theorem aoT:DB ⟨jM,[]⟩:=by
 have hz0:AY hz.l:=by
  intro y hy
  have:y=0:=by
   simp only[hz,Aa.rep,List.mem_replicate]at hy
   exact hy.2
  omega
 have hh:AY (cL 1 0).l:=by
  unfold AY;decide
 refine⟨gk.2 ⟨by unfold jM;rw[C3];exact CS,by simp,by simp⟩,fun g hg x hx=>?_,by simp⟩
 simp only[jM]at hg
 rcases List.mem_or_eq_of_mem_set hg with g1|rfl
 ·rw[List.mem_replicate]at g1
  rw[g1.2]at hx
  have:x=hz:=by
   simp only[pz,Aa.rep,List.mem_replicate]at hx
   exact hx.2
  rw[this];exact hz0
 ·have:x=cL 1 0\/x=hz:=by
   simp only[pz,Aa.rep,Aa.set,Int.toNat_zero,List.replicate,List.set_cons_zero,BD,List.not_mem_nil,or_false]at hx
   exact hx
  rcases this with rfl|rfl
  ·exact hh
  ·exact hz0
theorem Jr.new:Jr ⟨jM,[]⟩ ⟨⟨[]⟩,0,1,1⟩ [] 0 0 1 0 (fun _=>1):=by
 have hhd:hf jM 0 0=cL 1 0:=by rw[yw 0 0 (by decide) (by decide),if_pos ⟨rfl,rfl⟩]
 have hE:∀ b i,b<=1->i<602->aM (hf jM b i)<=1:=fun b i hb hi=>by
  rw[yw b i hb hi]
  split
  ·rw[amB ⟨by decide,by decide⟩];decide
  ·rw[aa9];decide
 refine⟨aoT,by decide,⟨by simp,trivial,by simp⟩,Bd _,rfl,rfl,rfl,⟨by decide,by decide⟩,⟨by decide,by decide⟩,⟨by decide,by decide⟩,hhd,hhd,by simp,by simp,by simp,fun b i hb hi=>⟨hE b i hb hi,hE b i hb hi⟩,fun i h1 h2=>⟨?_,rfl⟩,fun i _=>rfl,fun i h1 h2=>?_,fun i _=>rfl,fun y hy=>?_,fun r e hr he=>?_,by simp,by simp⟩
 ·show aM (hf jM 0 i)<1
  have:1<=i:=h1
  rw[yw 0 i (by decide) h2,if_neg (by omega),aa9];decide
 ·have e1:nF (([]:List Ab).take 0)=1:=rfl
  have e2:nF ([]:List Ab)=1:=rfl
  omega
 ·exfalso
  have h0:dX jM 1=some y:=hy
  unfold dX at h0
  have e1:hf jM 1 0=hz:=by rw[yw 1 0 (by decide) (by decide),if_neg (by decide)]
  rw[e1,aa9,if_neg (fun c=>c.1 rfl)]at h0
  cases h0
 ·exfalso
  have h1:=hr.at0
  have e1:nF (([]:List Ab).take 0)=1:=rfl
  have h2:hf (Ac.mk jM []).Ae 0 (nF (([]:List Ab).take 0))=hf jM 0 1:=rfl
  rw[h2,yw 0 1 (by decide) (by decide),if_neg (by omega),aa9]at h1
  have:=hr.ep.1
  omega
theorem yf (k:Nat) {p:List Pg} (hp:p.length=602) {a i:Nat} (ha:a<=1) (hi:i<602):Dq k p (a:Int) (i:Int)=some (hf p a i):=by
 unfold Dq hf
 have e:(301:Int)*(a:Int)=(a:Int)*301:=Int.mul_comm _ _
 have hx:p[301*a+i / 2]?=some (p[301*a+i / 2]'(by omega)):=gG (by omega)
 rw[e]
 simp only[aaM hp ha hi,bC hx,Af,qm,ab8,hx]
theorem af5 (h:Hf):∀ (n i:Nat),i+n<=32->(h.l.drop i).take n=(List.range' i n).map (bt h)
 |0,i,_=>by simp
 |n+1,i,hi=>by
  have hl:=h.h
  have hx:i<h.l.length:=by omega
  rw[List.drop_eq_getElem_cons hx,List.take_succ_cons,af5 h n (i+1) (by omega),List.range'_succ,List.map_cons]
  congr 1
  unfold bt
  rw[gG hx];rfl
theorem ait {k:Nat} (hk:100<k) {h:Hf} (hb:AY h.l) {n i:Nat} (hn:n<=5) (hi:i+n<=32):BH k ((h.l.drop i).take n)=some (bm ((List.range' i n).map (bt h))):=by
 rw[aeu hk ((hb.drop i).take n) (by rw[Bb];omega),af5 h n i hi]
theorem ac1 {k:Nat} (hk:100<k) {h:Hf} (hb:AY h.l):DS k h=some (aM h):=by
 have e0:h.at? 0=some (bt h 0):=lx h (i:=0) (by decide)
 have xE:h.at? 31=some (bt h 31):=lx h (i:=31) (by decide)
 have e3:(List.range' 1 3).map (bt h)=[bt h 1,bt h 2,bt h 3]:=rfl
 unfold DS aM
 rw[ait hk hb (n:=3) (i:=1) (by decide) (by decide),e3]
 simp only[e0,xE,Af]
 by_cases a:bt h 0=104
 ·by_cases c:bt h 31=165
  ·by_cases d:(1000000:Int)<bm [bt h 1,bt h 2,bt h 3]
   ·simp[a,c,d,show ¬ bm [bt h 1,bt h 2,bt h 3]<=1000000 by omega]
   ·simp[a,c,d,show bm [bt h 1,bt h 2,bt h 3]<=1000000 by omega]
  ·simp[a,c]
 ·by_cases b:bt h 0=112
  ·by_cases c:bt h 31=165
   ·by_cases d:(1000000:Int)<bm [bt h 1,bt h 2,bt h 3]
    ·simp[b,c,d,show ¬ bm [bt h 1,bt h 2,bt h 3]<=1000000 by omega]
    ·simp[b,c,d,show bm [bt h 1,bt h 2,bt h 3]<=1000000 by omega]
   ·simp[b,c]
  ·simp[a,b]
theorem rI {k:Nat} (hk:1000000<k) {d:Ac} (h:jy d=true):BZ k d=some true:=by
 obtain⟨h1,h2,h3⟩:=gk.1 h
 unfold BZ
 simp only[AD (show (d.Ae.length:Int)=602 by omega),Al,AI (show ¬ (1200:Int)<(d.Ad.length:Int) by omega),Aj]
 have hw:=acb (l:=d.Ad) (body:=BZ.b0 k d) (p:=fun _=>true) (c:=false) (by omega) (k:=k) (by omega) (fun i x hx=>by
  have hi:=(gS.1 hx).1
  unfold BZ.b0
  simp only[AD (show (i:Int)<(d.Ad.length:Int) by omega),Al,bC hx,Af,zi,ajt (h3 x (AW hx)),AX,Aj]) (by
  unfold BZ.b0
  simp only[(by simp:decide ((d.Ad.length:Int)<(d.Ad.length:Int))=false),Aj])
 rw[hw]
 have:d.Ad.all (fun _=>true)=true:=by simp
 rw[this];rfl
theorem ahV {R:Type}{k:Nat} (hk:1000000<k) {d:Ac} (h:jy d=true) {body:Int×List Pg->Option (AU (Int×List Pg) (List Pg) R)}
  (hb:∀ (i:Int) (s:List Pg),body (i,s)=bif decide (i<(d.Ad.length:Int)) then (at? d.Ad i).bind fun x6=>(at? s x6.At).bind fun _=>(dL s x6.At x6.AE).bind fun l8=>some (.next (ab (i+1),l8)) else some (.brk s)):
  aj body k (0,d.Ae)=some (.brk (ak d.Ae d.Ad)):=by
 obtain⟨h1,h2,h3⟩:=gk.1 h
 have hf:=qI (l:=d.Ad) (body:=body) (fun i s=>(i,s)) (fun p x=>p.set x.At.toNat x.AE) (fun i s=>s.length=602) (by omega) (k:=k) (by omega) (s0:=d.Ae) h1 (fun i x s hx hs=>by
  have hi:=(gS.1 hx).1
  have hbd:=h3 x (AW hx)
  refine⟨?_,by simp[hs]⟩
  have ha:at? s x.At=some (s[x.At.toNat]'(by omega)):=by
   unfold at?
   rw[if_pos ⟨by omega,by omega⟩,gG (by omega)]
  have fT:dL s x.At x.AE=some (s.set x.At.toNat x.AE):=by
   unfold dL
   rw[if_pos ⟨by omega,by omega⟩]
  rw[hb]
  simp only[AD (show (i:Int)<(d.Ad.length:Int) by omega),Al,bC hx,Af,ha,fT]) (fun s hs=>by
  rw[hb]
  simp only[(by simp:decide ((d.Ad.length:Int)<(d.Ad.length:Int))=false),Aj])
 exact hf.1
theorem aex {d:Ac} (h:jy d=true):fp d.Ae.length 64=some ()/\fp d.Ad.length 72=some ():=by
 obtain⟨h1,h2,_⟩:=gk.1 h
 unfold fp
 exact⟨by rw[if_pos ⟨by omega,by omega⟩],by rw[if_pos ⟨by omega,by omega⟩]⟩
theorem rV {k:Nat} (hk:1000000<k) {d:Ac} (h:jy d=true):Cm k d=some (ak d.Ae d.Ad)/\Cu k d=some (ak d.Ae d.Ad):=by
 obtain⟨r1,r2⟩:=aex h
 unfold Cm Cu
 rw[r1]
 simp only[Af]
 rw[ahV hk h (body:=Cm.b0 k d) (fun i s=>rfl),ahV hk h (body:=Cu.b0 k d) (fun i s=>rfl)]
 exact⟨rfl,rfl⟩
theorem af0 (k:Nat) {d:Ac} (h:jy d=true):Dp k d=some d/\EX k d=some d:=by
 obtain⟨r1,r2⟩:=aex h
 unfold Dp EX
 rw[r1,r2]
 exact⟨rfl,rfl⟩
theorem aaf {k:Nat} (hk:1000000<k) {d:Ac} (h:jy d=true):C5 k d=some ⟨ak d.Ae d.Ad,[]⟩:=by
 unfold C5
 rw[rI hk h]
 simp only[Af,AX,Aj,(rV hk h).1]
theorem td {k:Nat} (hk:1000000<k) {p:List Pg} (hp:p.length=602) (hb:Bp p) {a:Nat} (ha:a<=1) (from_:Nat):BF k p (a:Int) (from_:Int)=some (mx p a from_):=by
 unfold BF mx
 have key:∀ (d i m:Nat) (z:Int),602 - i=d->d<m->aj (BF.b0 k p (a:Int)) m (z,(i:Int))=some (.brk ((List.range' i d).foldl (fun m i=>max m (aM (hf p a i))) z)):=by
  intro d
  induction d with
  |zero=>
   intro i m z h1 h2
   obtain⟨m,rfl⟩:∃ q,m=q+1:=⟨m - 1,by omega⟩
   have tq:BF.b0 k p (a:Int) (z,(i:Int))=some (.brk z):=by
    unfold BF.b0
    simp only[AI (show ¬ (i:Int)<602 by omega),Aj]
   simp only[aj,tq]
   rfl
  |succ d ih=>
   intro i m z h1 h2
   obtain⟨m,rfl⟩:∃ q,m=q+1:=⟨m - 1,by omega⟩
   have hw:ab ((i:Int)+1)=((i+1:Nat):Int):=by rw[aV (by omega) (by omega)];omega
   have tq:BF.b0 k p (a:Int) (z,(i:Int))=some (.next (max z (aM (hf p a i)),((i+1:Nat):Int))):=by
    unfold BF.b0
    simp only[AD (show (i:Int)<602 by omega),Al,yf k hp ha (show i<602 by omega),Af,ac1 (show 100<k by omega) (hb.hf a i),hw]
   simp only[aj,tq]
   rw[List.range'_succ,List.foldl_cons]
   exact ih (i+1) m _ (by omega) (by omega)
 have:=key (602 - from_) from_ k 0 rfl (by omega)
 rw[this]
 rfl
theorem ama {b:List Int} (hb:AY b) {r:Ab}{l:List Int} (h:gE b=some (r,l)):gE (b.take (16+(ck b).toNat))=some (r,[])/\16<=b.length/\(16:Int)+ck b<=(b.length:Int):=by
 unfold gE at h
 split at h
 ·cases h
 rename_i jc
 split at h
 ·cases h
 rename_i ae
 simp only[oE,Prod.mk.injEq]at h
 obtain⟨rfl,rfl⟩:=h
 have hm:=(aes ((hb.drop 15).take 1)).1
 have ru:0<=ck b:=hm
 obtain⟨m,e⟩:=Int.eq_ofNat_of_zero_le ru
 have em:(ck b).toNat=m:=by rw[e];rfl
 have T:∀ i n,i+n<=16->((b.take (16+m)).drop i).take n=(b.drop i).take n:=fun i n hi=>by
  rw[List.drop_take,List.take_take,Nat.min_eq_left (by omega)]
 have T0:(b.take (16+m)).take 1=b.take 1:=by rw[List.take_take,Nat.min_eq_left (by omega)]
 have hM:ck (b.take (16+m))=ck b:=by
  unfold ck;rw[T 15 1 (by omega)]
 have hlen:(b.take (16+m)).length=16+m:=by rw[Bb];omega
 refine⟨?_,by omega,by omega⟩
 rw[em]
 unfold gE
 rw[if_neg (by omega),hM,if_neg (by rw[hlen];omega),em]
 have htx:((b.take (16+m)).drop 16).take m=(b.drop 16).take m:=by
  rw[List.drop_take,List.take_take,Nat.min_eq_left (by omega)]
 have tL:((b.take (16+m)).drop 16).drop m=[]:=Dz (by rw[Bi,hlen];omega)
 rw[htx,tL]
 unfold xB
 rw[T0,T 1 2 (by omega),T 3 1 (by omega),T 4 4 (by omega),T 8 4 (by omega),T 12 1 (by omega),T 13 2 (by omega)]
theorem aiv {p:List Pg} (hb:Bp p) {a f n:Nat}{q:Ab×Int×Nat} (h:recAt p a f n=some q):bt (hf p a f) 0=112/\bt (hf p a f) 7=(q.2.2:Int)/\0<q.2.2/\aM (hf p a f)=q.2.1:=by
 obtain⟨h1,h2⟩:=(zZ hb).1 h
 have h0:=h1.run.2 0 _ (ag7 q.1 n q.2.1)
 rw[Nat.add_zero]at h0
 obtain⟨b0,_,_,_,_,_⟩:=acE q.2.1 n (bD (enc q.1).length) (enc q.1) 0
 have hc:=uS h1.ok
 have hp:=uU q.1
 rw[h0]
 refine⟨b0,?_,by rw[h2,kJ];exact hp,ac0 h1.ep _ _ _ _⟩
 rw[afE (by omega),h2,kJ]
theorem aoW {k:Nat} (hk:1000000<k) {p:List Pg} (hp:p.length=602) (hb:Bp p) {a:Nat} (ha:a<=1) (f n:Nat) (pM:f<=100000) (hn:n<60):
  Bv k p (a:Int) (f:Int) (n:Int)=some (match recAt p a f n with|some q=>(q.1,(q.2.2:Int),q.2.1,true)|none=>(nD,0,0,false)):=by
 have zA:recAt p a f n=none->∀ x,x=some (nD,(0:Int),(0:Int),false)->x=some (match recAt p a f n with|some q=>(q.1,(q.2.2:Int),q.2.1,true)|none=>(nD,0,0,false)):=fun h x hx=>by rw[h,hx]
 unfold Bv
 by_cases h1:602<=f
 ·have:recAt p a f n=none:=by unfold recAt;rw[if_pos h1]
  refine zA this _ ?_
  simp only[AD (show (602:Int)<=(f:Int) by omega),AX,Aj]
  rfl
 ·have fD:=qU (hb.hf a f) 7
  obtain⟨m,hm⟩:=Int.eq_ofNat_of_zero_le fD.1
  have hmN:(bt (hf p a f) 7).toNat=m:=by rw[hm];rfl
  have e7:(hf p a f).at? 7=some (m:Int):=by have:=lx (hf p a f) (i:=7) (by decide);rw[hm]at this;exact this
  have e0:(hf p a f).at? 0=some (bt (hf p a f) 0):=lx _ (i:=0) (by decide)
  have wm:ab (m:Int)=(m:Int):=aV (by omega) (by omega)
  have wfm:ab ((f:Int)+(m:Int))=((f+m:Nat):Int):=by rw[aV (by omega) (by omega)];omega
  simp only[AI (show ¬ (602:Int)<=(f:Int) by omega),Bj,Al,AI (show ¬ (60:Int)<=(n:Int) by omega),Aj,yf k hp ha (show f<602 by omega),Af,ac1 (show 100<k by omega) (hb.hf a f),e7,e0,wm,wfm]
  by_cases ado:bt (hf p a f) 0=112
  ·by_cases he:aM (hf p a f)=0
   ·refine zA (by unfold recAt;rw[if_neg h1,if_pos (Or.inl he)]) _ ?_
    simp only[AD ado,Al,AD he,AX,Aj]
    rfl
   ·simp only[AD ado,Al,AI he,Bj]
    by_cases ru:m=0
    ·refine zA ?_ _ ?_
     ·cases hq:recAt p a f n with
      |none=>rfl
      |some q=>have:=aiv hb hq;omega
     ·simp only[AD (show (m:Int)=0 by omega),AX,Aj]
      rfl
    ·simp only[AI (show ¬ (m:Int)=0 by omega),Bj,Al]
     by_cases h2:602<f+m
     ·refine zA (by unfold recAt;rw[if_neg h1,if_pos (Or.inr (by rw[hmN];exact h2))]) _ ?_
      simp only[AD (show (602:Int)<((f+m:Nat):Int) by omega),Al]
      rfl
     ·simp only[AI (show ¬ (602:Int)<((f+m:Nat):Int) by omega),Aj]
      have lN:=aq1 (n:=m) (body:=Bv.b0 k p (a:Int) (f:Int) (m:Int)) (fun i (s:Hf×List Int)=>(s.1,i,s.2)) (fun s=>s.2) (fun s i=>some (hf p a (f+i),s.2++gM (hf p a (f+i)))) ((nD,(0:Int),(0:Int),false)) (fun i s=>s.2.length=23*i/\s.2=((List.range i).map fun i=>gM (hf p a (f+i))).flatten) (by omega) (k:=k) (by omega) (s0:=(hf p a f,[])) ⟨rfl,rfl⟩ (fun i s hi hs=>by
       have hl:=(hf p a (f+i)).h
       have vM:(gM (hf p a (f+i))).length=23:=by unfold gM;simp[hl]
       have ux:ab ((f:Int)+(i:Int))=((f+i:Nat):Int):=by rw[aV (by omega) (by omega)];omega
       have mG:=hs.1
       refine⟨?_,fun s' tO=>?_⟩
       ·unfold Bv.b0
        simp only[wm,AD (show (i:Int)<(m:Int) by omega),Al,ux,yf k hp ha (show f+i<602 by omega),Af]
        rw[show (List.take 23 (List.drop 8 (hf p a (f+i)).l))=gM (hf p a (f+i)) from rfl,lq (by omega) (by omega)]
        rfl
       ·obtain rfl:=oi tO
        refine⟨by simp only[A8,vM];omega,?_⟩
        simp only
        rw[List.range_succ,Dd,List.flatten_append,<-hs.2]
        simp) (fun s hs=>by
       unfold Bv.b0
       simp only[wm,(by simp:decide ((m:Int)<(m:Int))=false),Aj])
      have hex:∀ (L:List Nat) (s:Hf×List Int),∃ o,L.foldlM (fun(s:Hf×List Int) i=>some (hf p a (f+i),s.2++gM (hf p a (f+i)))) s=some o:=by
       intro L
       induction L with
       |nil=>intro s;exact⟨s,rfl⟩
       |cons x L ih=>intro s;exact ih _
      obtain⟨o,ho⟩:=hex (List.range m) (hf p a f,[])
      have eV:=lN.1
      obtain⟨yR,hof⟩:=lN.2 o ho
      rw[ho]at eV
      rw[eV]
      simp only[Af]
      have n8:AY o.2:=by
       rw[hof]
       refine afF (fun x hx=>?_)
       obtain⟨i,_,rfl⟩:=List.mem_map.1 hx
       exact afI (hb.hf a _)
      have ahx:o.2[15]?=some (o.2[15]'(by omega)):=gG (by omega)
      have hM:ck o.2=o.2[15]'(by omega):=by
       unfold ck
       rw[List.drop_eq_getElem_cons (show 15<o.2.length by omega)]
       exact aiq _
      have hM0:=n8 _ (AW ahx)
      rw[<-hM]at hM0
      have je:at? o.2 15=some (ck o.2):=by
       rw[hM];exact bC ahx
      have w16:ab (16+(ab (ck o.2)))=16+ck o.2:=by
       rw[aV (n:=ck o.2) (by omega) (by omega),aV (by omega) (by omega)]
      simp only[AI (show ¬ ((o.2.length:Nat):Int)<16 by omega),Bj,Al,je,Af,w16]
      have ry:recAt p a f n=match gE o.2 with
        |none=>none
        |some q=>if df q.1=true/\(cD q.1 n (aM (hf p a f))).length=m/\oP p a f (cD q.1 n (aM (hf p a f)))=true then some (q.1,aM (hf p a f),m) else none:=by
       unfold recAt
       rw[if_neg h1,hmN,if_neg (fun c=>c.elim he h2),<-hof]
       all_goals rfl
      rw[ry]
      by_cases ae:(o.2.length:Int)<16+ck o.2
      ·have hd:gE o.2=none:=by
        unfold gE
        rw[if_neg (by omega),if_pos ae]
       rw[hd]
       simp only[AD ae,Al]
       rfl
      ·simp only[AI ae,Aj]
       have hhs:nr o.2.length (16+ck o.2)=some ():=by unfold nr;rw[if_pos (by omega)]
       have yM:(16+ck o.2).toNat=16+(ck o.2).toNat:=by omega
       rw[hhs]
       have hdR:Ec k (o.2.take (16+(ck o.2).toNat))=some (decode (o.2.take (16+(ck o.2).toNat))):=amc (show 1000<k by omega) (n8.take _) (by rw[Bb];omega)
       simp only[Af,yM,hdR]
       cases hd:gE o.2 with
       |none=>
        exfalso
        unfold gE at hd
        rw[if_neg (by omega),if_neg ae]at hd
        cases hd
       |some q=>
        obtain⟨r,l⟩:=q
        have hdt:=(ama n8 hd).1
        have anh:decode (o.2.take (16+(ck o.2).toNat))=bif df r then (r,0) else (nD,90):=by
         unfold decode
         rw[hdt]
        simp only[anh]
        cases hr:df r with
        |false=>simp;rfl
        |true=>
         have ht:=wi hr
         simp only[Al,BA,AX,Aj,ads (show 100000<k by omega) ht,Af]
         have hH:(List.range (bD (enc r).length)).map (dR (aM (hf p a f)) (n:Int) (bD (enc r).length) (enc r))=cD r (n:Int) (aM (hf p a f)):=rfl
         rw[hH]
         by_cases hlen:(cD r (n:Int) (aM (hf p a f))).length=m
         ·have hwN:=aeQ (n:=m) (body:=Bv.b1 k p (a:Int) (f:Int) (m:Int) (cD r (n:Int) (aM (hf p a f)))) (p:=fun i=>match (cD r (n:Int) (aM (hf p a f)))[i]? with|some x=>decide (hf p a (f+i)=x)|none=>true) (c:=(nD,(0:Int),(0:Int),false)) (by omega) (k:=k) (by omega) (fun i hi=>by
           obtain⟨x,hx⟩:∃ x,(cD r (n:Int) (aM (hf p a f)))[i]?=some x:=⟨_,gG (by omega)⟩
           have ux:ab ((f:Int)+(i:Int))=((f+i:Nat):Int):=by rw[aV (by omega) (by omega)];omega
           have hve:Aa.eq (fun(x y:Int)=>decide (x=y)) (hf p a (f+i)) x=decide (hf p a (f+i)=x):=by
            by_cases e:hf p a (f+i)=x
            ·rw[(qH _ _).2 e,AD e]
            ·rw[AI e]
             cases hq:Aa.eq (fun(x y:Int)=>decide (x=y)) (hf p a (f+i)) x with
             |false=>rfl
             |true=>exact absurd ((qH _ _).1 hq) e
           unfold Bv.b1
           simp only[wm,AD (show (i:Int)<(m:Int) by omega),Al,bC hx,Af,ux,yf k hp ha (show f+i<602 by omega),hve,hx]
           cases decide (hf p a (f+i)=x)<;>rfl) (by
           unfold Bv.b1
           simp only[wm,(by simp:decide ((m:Int)<(m:Int))=false),Aj])
          have bf:oP p a f (cD r (n:Int) (aM (hf p a f)))=(List.range m).all (fun i=>match (cD r (n:Int) (aM (hf p a f)))[i]? with|some x=>decide (hf p a (f+i)=x)|none=>true):=by
           unfold oP;rw[hlen];rfl
          simp only[AD (show ((cD r (n:Int) (aM (hf p a f))).length:Int)=(m:Int) by omega),AX,Aj,hwN,<-bf,hlen,true_and]
          cases oP p a f (cD r (n:Int) (aM (hf p a f)))<;>rfl
         ·simp only[AI (show ¬ ((cD r (n:Int) (aM (hf p a f))).length:Int)=(m:Int) by omega),Bj,Al,hlen,false_and,and_false,if_false]
          rfl
  ·refine zA ?_ _ ?_
   ·cases hq:recAt p a f n with
    |none=>rfl
    |some q=>have:=aiv hb hq;omega
   ·simp only[AI ado,Aj]
    rfl
theorem agH (s:List Ab×Nat) (x:Ab×Nat) (L:List (Ab×Nat)):fin s (x::L)=fin (eo ag s.1 x.1,x.2) L:=rfl
theorem ak2 {k:Nat} (hk:1000000<k) {p:List Pg} (hp:p.length=602) (hb:Bp p) {a:Nat} (ha:a<=1):∀ (m K:Nat) (b:List Ab) (e:Int) (u:Nat) (R:List Ab),Dg ag b->(∀ r∈b,df r=true)->b.length=R.length->R.length<=60->u<=602->61<=m+R.length->m<K->
  aj (Bz.b0 k p (a:Int)) K (e,b,(u:Int),R)=some (.brk (((fin (b,u) (rd p a (m+1) b e u R.length)).2:Int),R++(rd p a (m+1) b e u R.length).map (·.1))):=by
 intro m
 induction m with
 |zero=>intro K b e u R _ _ h1 h2 _ h3 _;omega
 |succ m ih=>
  intro K b e u R hv rv gH hR hu hm hK
  obtain⟨K,rfl⟩:∃ q,K=q+1:=⟨K - 1,by omega⟩
  have stop:Bz.b0 k p (a:Int) (e,b,(u:Int),R)=some (.brk ((u:Int),R))->rd p a (m+1+1) b e u R.length=[]->aj (Bz.b0 k p (a:Int)) (K+1) (e,b,(u:Int),R)=some (.brk (((fin (b,u) (rd p a (m+1+1) b e u R.length)).2:Int),R++(rd p a (m+1+1) b e u R.length).map (·.1))):=fun h1 h2=>by
   rw[h2]
   simp only[aj,h1,fin,List.foldl_nil,List.map_nil,List.append_nil]
  have hh:∀ r∈b,jk r:=fun r hr=>nC (rv r hr)
  by_cases iL:R.length=60
  ·
   have pZ:rd p a (m+1+1) b e u R.length=[]:=by
    rw[rd]
    cases hq:recAt p a u R.length with
    |none=>rfl
    |some q=>
     simp only
     split
     ·rfl
     ·have:iv b q.1=none:=by
       cases de:iv b q.1 with
       |none=>rfl
       |some b'=>have:=(qn de).2.2.2;omega
      rw[this]
   refine stop ?_ pZ
   have kd:Bv k p (a:Int) (u:Int) ((R.length:Nat):Int)=some (nD,0,0,false):=by
    unfold Bv
    by_cases h1:(602:Int)<=(u:Int)
    ·simp only[AD h1,AX,Aj];rfl
    ·simp only[AI h1,Bj,Al,AD (show (60:Int)<=((R.length:Nat):Int) by omega)];rfl
   unfold Bz.b0
   simp only[kd,Af,Aj]
  ·have kd:=aoW hk hp hb ha u R.length (by omega) (by omega)
   cases hq:recAt p a u R.length with
   |none=>
    rw[hq]at kd
    refine stop ?_ (by rw[rd,hq])
    unfold Bz.b0
    simp only[kd,Af,Aj]
   |some q=>
    rw[hq]at kd
    obtain⟨⟨g1,g2,g3⟩,g4⟩:=(zZ hb).1 hq
    have hmp:0<q.2.2:=by rw[g4,kJ];exact uU q.1
    have adp:=g3.1
    rw[<-g4]at adp
    by_cases he:q.2.1<e
    ·refine stop ?_ (by rw[rd,hq];simp only;rw[if_pos he])
     unfold Bz.b0
     simp only[kd,Af,Al,AD he,AX,Aj]
    ·have ej:cr q.1.At=ag q.1:=rfl
     rcases agL (k:=k) (l:=b) (by omega) hk q.1.At with ⟨i,x,f1,f2,f3⟩|⟨f1,f2⟩
     ·
      rw[ej]at f3
      have hf:gF ag b (ag q.1)=some x:=by rw[<-f3];exact agI ag hv.1 (AW f2)
      have de:iv b q.1=none:=by
       cases de:iv b q.1 with
       |none=>rfl
       |some b'=>have:=(qn de).2.1;rw[hf]at this;cases this
      refine stop ?_ (by rw[rd,hq];simp only;rw[if_neg he,de])
      unfold Bz.b0
      simp only[kd,Af,Al,AI he,Bj,f1,AD (show (0:Int)<=(i:Int) by omega)]
     ·have jD:=aaJ hk hv.1 (show b.length<=900 by omega) hh (nC g1)
      cases de:iv b q.1 with
      |none=>
       have bh:¬ (ey b q.1).2=0:=fun c=>by
        rw[ej]at f2
        have tz:=abc ag f2
        unfold iv at de
        have hl:(ey b q.1).1.length≠b.length:=by
         unfold ey at c ⊢
         rw[tz]at c ⊢
         simp only at c ⊢
         split at c
         ·cases c
         ·split at c
          ·cases c
          ·rename_i c1 c2
           rw[if_neg c1,if_neg c2]
           simp only
           rw[zj];omega
        rw[if_pos ⟨c,hl⟩]at de
        cases de
       refine stop ?_ (by rw[rd,hq];simp only;rw[if_neg he,de])
       unfold Bz.b0
       simp only[kd,Af,Al,AI he,Bj,f1,(by decide:decide ((0:Int)<=-1)=false),Aj,jD,AI bh]
      |some b'=>
       obtain⟨v1,v2⟩:=ad7 hv g1 de
       obtain⟨i1,_,_,_⟩:=qn de
       have ij:=de
       unfold iv at ij
       split at ij
       ·rename_i hc
        have bQ:(ey b q.1).1=b':=oi ij
        have eV:ab ((u:Int)+(q.2.2:Int))=((u+q.2.2:Nat):Int):=by rw[aV (by omega) (by omega)];omega
        have anO:Bz.b0 k p (a:Int) (e,b,(u:Int),R)=some (.next (q.2.1,b',((u+q.2.2:Nat):Int),R++[q.1])):=by
         unfold Bz.b0
         simp only[kd,Af,Al,AI he,Bj,f1,(by decide:decide ((0:Int)<=-1)=false),Aj,jD,AD hc.1,AX,qw (show (R.length+1)*72<=140737488355328 by omega) (show R.length+1<4611686018427387904 by omega),bQ,eV]
        have hih:=ih K b' q.2.1 (u+q.2.2) (R++[q.1]) v1 (fun r hr=>by
         rw[i1,abx]at hr
         rcases hr with rfl|hr
         ·exact g1
         ·exact rv r hr) (by simp;omega) (by simp;omega) (by omega) (by simp;omega) (by omega)
        have pZ:rd p a (m+1+1) b e u R.length=(q.1,u+q.2.2)::rd p a (m+1) b' q.2.1 (u+q.2.2) (R.length+1):=by
         rw[rd,hq];simp only;rw[if_neg he,de]
        rw[pZ,agH]
        simp only[aj,anO]
        rw[hih]
        simp only[A8,Az,Ay,List.map_cons,Cq,<-i1]
        simp
       ·cases ij
theorem adx {k:Nat} (hk:100<k) (e n:Int):DT k e n=some (cL e n):=by
 unfold DT
 have h3:Cc k e 3=some (be e 3):=abF e (w:=3) (by decide) (by omega)
 have h2:Cc k n 2=some (be n 2):=abF n (w:=2) (by decide) (by omega)
 rw[h3]
 simp only[Af]
 rw[lq (by simp[dQ]) (by simp[dQ])]
 simp only[Af,h2]
 rw[lq (by simp[dQ]) (by simp[dQ])]
 simp only[Af]
 rw[lq (by simp[dQ]) (by simp[dQ])]
 simp only[Af]
 rw[qw (by simp[dQ]) (by simp[dQ])]
 simp only[Af]
 have hl:([(104:Int)]++be e 3++be n 2++List.replicate 25 0++[165])=(cL e n).l:=by
  rw[nO,xj];rfl
 rw[hl]
 unfold Aa.nz
 rw[dif_pos (by rw[(cL e n).h];exact Bd _)]
 simp only[Af]
 congr 1
def iW (x:Option Ar):CB:=match x with|none=>⟨0,[],0⟩|some x=>⟨x.dG,x.fe.map (·.1),(x.used:Int)⟩
theorem aaL {k:Nat} (hk:1000000<k) {p:List Pg} (hp:p.length=602) (hb:Bp p) {a:Nat} (ha:a<=1):Bz k p (a:Int)=some (iW (dX p a)):=by
 have h0:=yf k hp ha (show 0<602 by decide)
 rw[CT]at h0
 have e0:(hf p a 0).at? 0=some (bt (hf p a 0) 0):=lx _ (i:=0) (by decide)
 have e2:(List.range' 4 2).map (bt (hf p a 0))=[bt (hf p a 0) 4,bt (hf p a 0) 5]:=rfl
 have vF:=ait (show 100<k by omega) (hb.hf a 0) (n:=2) (i:=4) (by decide) (by decide)
 rw[e2]at vF
 unfold Bz dX
 rw[h0]
 simp only[Af,ac1 (show 100<k by omega) (hb.hf a 0),vF,e0]
 generalize hE:aM (hf p a 0)=E
 generalize hC:bm [bt (hf p a 0) 4,bt (hf p a 0) 5]=C
 have tF:=ak2 hk hp hb ha 61 k [] E 1 [] ⟨.nil,trivial⟩ (by simp) rfl (by simp) (by decide) (by simp) (by omega)
 have tH:=aet hb 62 100 [] E 1 0 (by simp) (by simp) (by simp) (a:=a)
 have pZ:uf p a=rd p a 62 [] E 1 0:=by unfold uf;rw[hE,tH]
 by_cases abg:bt (hf p a 0) 0=104
 ·simp only[AD abg,Al]
  by_cases he:E=0
  ·rw[if_neg (fun c=>c.1 he)]
   simp only[AD he,AX,Aj]
   rfl
  ·simp only[AI he,Bj,Al,adx (show 100<k by omega),Af]
   by_cases hh:hf p a 0=cL E C
   ·simp only[(qH _ _).2 hh,AX,Aj]
    have gq:((1:Nat):Int)=1:=rfl
    rw[gq]at tF
    rw[tF]
    simp only[Af,BL,Ay]
    by_cases hc:C<=((uf p a).length:Int)
    ·rw[if_pos ⟨he,hh,hc⟩]
     rw[pZ]at hc
     rw[AI (show ¬ (((rd p a 62 [] E 1 0).map (·.1)).length:Int)<C by rw[Bg];omega)]
     unfold iW Ar.used
     simp only[Aj,pZ]
    ·rw[if_neg (fun c=>hc c.2.2)]
     rw[pZ]at hc
     rw[AD (show (((rd p a 62 [] E 1 0).map (·.1)).length:Int)<C by rw[Bg];omega)]
     rfl
   ·have hv:Aa.eq (fun(x y:Int)=>decide (x=y)) (hf p a 0) (cL E C)=false:=by
     cases hq:Aa.eq (fun(x y:Int)=>decide (x=y)) (hf p a 0) (cL E C) with
     |false=>rfl
     |true=>exact absurd ((qH _ _).1 hq) hh
    rw[if_neg (fun c=>hh c.2.1)]
    simp only[hv,Bj,Al]
    rfl
 ·have hh:¬ hf p a 0=cL E C:=fun c=>by
   rw[c]at abg
   exact abg rfl
  rw[if_neg (fun c=>hh c.2.1)]
  simp only[AI abg,Aj]
  rfl
theorem afj {p:List Pg} (hb:Bp p) {a:Nat}{x:Ar} (h:dX p a=some x):1<=x.dG:=by
 unfold dX at h
 split at h
 ·rename_i hc
  obtain rfl:=oi h
  have:=(acZ (hb.hf a 0)).1
  simp only
  omega
 ·cases h
theorem abv {k:Nat} (hk:1000000<k) {p:List Pg} (hp:p.length=602) (hb:Bp p) {q:Nat×Ar} (h:lV p=some q):DA k p=some ((q.1:Int),iW (some q.2),true):=by
 have a0:=aaL hk hp hb (a:=0) (by decide)
 have a1:=aaL hk hp hb (a:=1) (by decide)
 have a0':Bz k p 0=some (iW (dX p 0)):=a0
 have a1':Bz k p 1=some (iW (dX p 1)):=a1
 unfold DA
 rw[a0',a1']
 simp only[Af]
 unfold lV at h
 cases hx:dX p 0 with
 |none=>
  cases hy:dX p 1 with
  |none=>rw[hx,hy]at h;cases h
  |some y=>
   rw[hx,hy]at h
   simp only at h
   obtain rfl:=oi h
   have py:=afj hb hy
   have e0:(iW none).AH=0:=rfl
   have e1:(iW (some y)).AH=y.dG:=rfl
   simp only[e0,e1,BA,Al,AI (show ¬ y.dG=0 by omega),Aj,AD (show (0:Int)<y.dG by omega)]
   rfl
 |some x=>
  have px:=afj hb hx
  have e0:(iW (some x)).AH=x.dG:=rfl
  cases hy:dX p 1 with
  |none=>
   rw[hx,hy]at h
   simp only at h
   obtain rfl:=oi h
   have e1:(iW none).AH=0:=rfl
   simp only[e0,e1,AI (show ¬ x.dG=0 by omega),Aj,AI (show ¬ x.dG<0 by omega)]
   rfl
  |some y=>
   rw[hx,hy]at h
   simp only at h
   have e1:(iW (some y)).AH=y.dG:=rfl
   by_cases ae:x.dG<y.dG
   ·rw[if_pos ae]at h
    obtain rfl:=oi h
    simp only[e0,e1,AI (show ¬ x.dG=0 by omega),Aj,AD ae,Al]
    rfl
   ·rw[if_neg ae]at h
    obtain rfl:=oi h
    simp only[e0,e1,AI (show ¬ x.dG=0 by omega),Aj,AI ae]
    rfl
theorem ald {k:Nat} (hk:1000000<k) {l:List Ab} (hg:EU l):BW k l=some ⟨bk ag [] l⟩:=by
 have h50:=hg.len
 unfold BW
 have h:=qI (l:=l) (body:=BW.b0 k l) (fun i s=>(s,i)) (eo ag) (fun i s=>BI ag (l.take i) s) (by omega) (k:=k) (by omega) (s0:=[]) (BI.nil ag) (fun i r s hx hs=>by
  have hi:=(gS.1 hx).1
  have bx:(ag r).2=ax ag (l.take i) (ag r).1:=hg.no hx
  have fV:=hs.len
  rw[Bb]at fV
  have hh:∀ x∈s,jk x:=fun x hx=>nC (hg.ok x (BY ((hs.mem x).1 hx)))
  have jD:ey s r=(eo ag s r,0):=by
   unfold ey
   rw[abc ag (hs.no ag bx)]
   simp only
   have e:r.At.No=((ax ag s r.At.Ap:Nat):Int):=by
    rw[hs.num];exact bx
   rw[if_neg (by omega),if_neg (by omega)]
  refine⟨?_,?_⟩
  ·unfold BW.b0
   simp only[AD (show (i:Int)<(l.length:Int) by omega),Al,bC hx,Af,aaJ hk hs.val.1 (show s.length<=900 by omega) hh (nC (hg.ok r (AW hx))),jD]
  ·rw[take_at hx]
   exact hs.step ag bx) (fun s hs=>by
  unfold BW.b0
  simp only[(by simp:decide ((l.length:Int)<(l.length:Int))=false),Aj])
 rw[h.1]
 rfl
section
variable {d:Ac}{l:AB}{log:List Ab}{mz a:Nat}{e0 c:Int}{ep:Nat->Int}
theorem ar2 {k:Nat} (hk:10000000<k) {d:Ac} (hd:DB d) {q:Nat×Ar} (h:lV (ak d.Ae d.Ad)=some q) {log:List Ab} (hg:EU log) (hq:q.2.fe.map (·.1)=log) (hb:q.2.book=bk ag [] log) (hm:max (mx (ak d.Ae d.Ad) 0 0) (mx (ak d.Ae d.Ad) 1 0)<1000000):
  C1 k d=some (⟨ak d.Ae d.Ad,[]⟩,⟨⟨q.2.book⟩,(q.1:Int),1+max (mx (ak d.Ae d.Ad) 0 0) (mx (ak d.Ae d.Ad) 1 0),(q.2.used:Int)⟩,0):=by
 have g0:BF k (ak d.Ae d.Ad) 0 0=some (mx (ak d.Ae d.Ad) 0 0):=td (show 1000000<k by omega) hd.len hd.new (a:=0) (by decide) 0
 have g1:BF k (ak d.Ae d.Ad) 1 0=some (mx (ak d.Ae d.Ad) 1 0):=td (show 1000000<k by omega) hd.len hd.new (a:=1) (by decide) 0
 have n0:=vY (ak d.Ae d.Ad) 0 0
 have n1:=vY (ak d.Ae d.Ad) 1 0
 have hw:ab ((max (mx (ak d.Ae d.Ad) 0 0) (mx (ak d.Ae d.Ad) 1 0))+1)=1+max (mx (ak d.Ae d.Ad) 0 0) (mx (ak d.Ae d.Ad) 1 0):=by rw[aV (by omega) (by omega)];omega
 have hA:iW (some q.2)=⟨q.2.dG,log,(q.2.used:Int)⟩:=by unfold iW;simp only[hq]
 unfold C1
 rw[rI (show 1000000<k by omega) hd.ok]
 simp only[Af,AX,Aj,(rV (show 1000000<k by omega) hd.ok).1,abv (show 1000000<k by omega) hd.len hd.new h,hA,g0,g1,hw]
 rw[AI (show ¬ (1000000:Int)<1+max (mx (ak d.Ae d.Ad) 0 0) (mx (ak d.Ae d.Ad) 1 0) by omega)]
 simp only[Aj,ald (show 1000000<k by omega) hg,Af,hb]
end
theorem akV (x:Int):dP .i64 x 3=x % 4:=by
 have h1:0<=x % 4:=by omega
 have h2:x % 4<4:=by omega
 have h3:(BitVec.ofInt IntKind.i64.bits 3).toNat=2 ^ 2 - 1:=by decide +kernel
 have hx:(BitVec.ofInt IntKind.i64.bits x).toNat=(x % 18446744073709551616).toNat:=by
  rw[BitVec.toNat_ofInt,show ((2 ^ IntKind.i64.bits:Nat):Int)=18446744073709551616 from rfl]
 have e:(x % 18446744073709551616).toNat % 2 ^ 2=(x % 4).toNat:=by
  rw[show (2:Nat) ^ 2=4 from rfl];omega
 unfold dP
 rw[BitVec.toNat_and,h3,Nat.and_two_pow_sub_one_eq_mod,hx,e]
 have h4:(((x % 4).toNat:Nat):Int)=x % 4:=by omega
 rw[h4]
 exact aV (by omega) (by omega)
theorem al2 {k:Nat} (hk:10000000<k) {d:Ac} (hd:DB d) (dx:List Int) {i:Nat}{w:Ao}{p:List Pg} (hx:d.Ad[i]?=some w) (hp:p.length=602):
  ∃ p',BB.b0 k d dx ((i:Int),p)=some (.next (ab ((i:Int)+1),p'))/\aX.b0 k dx ⟨d⟩ ((i:Int),p)=some (.next (ab ((i:Int)+1),p'))/\p'.length=602:=by
 obtain⟨h1,h2,h3⟩:=gk.1 hd.ok
 have hi:=(gS.1 hx).1
 have hw:=h3 w (AW hx)
 obtain⟨g0,a1,a2,_⟩:=abU (k:=0) hp hw (s:=0) (by decide)
 obtain⟨g1,b1,b2,_⟩:=abU (k:=0) hp hw (s:=1) (by decide)
 have eg:g1=g0:=by rw[a1]at b1;exact(oi b1).symm
 subst eg
 have pX:(p.set w.At.toNat (g1.set 0 (sd w.AE 0))).length=602:=by rw[C3];exact hp
 obtain⟨g2,c1,c2,_⟩:=abU (k:=0) pX hw (s:=1) (by decide)
 have v0:∀ g:Pg,g.at? 0=some (sd g 0):=fun g=>ss g (s:=0) (by decide)
 have v1:∀ g:Pg,g.at? 1=some (sd g 1):=fun g=>ss g (s:=1) (by decide)
 have a2':dL p w.At (g1.set 0 (sd w.AE 0))=some (p.set w.At.toNat (g1.set 0 (sd w.AE 0))):=a2
 have b2':dL p w.At (g1.set 1 (sd w.AE 1))=some (p.set w.At.toNat (g1.set 1 (sd w.AE 1))):=b2
 have c2':dL (p.set w.At.toNat (g1.set 0 (sd w.AE 0))) w.At (g2.set 1 (sd w.AE 1))=some ((p.set w.At.toNat (g1.set 0 (sd w.AE 0))).set w.At.toNat (g2.set 1 (sd w.AE 1))):=c2
 obtain⟨m,rfl⟩:∃ m,k=m+3:=⟨k - 3,by omega⟩
 have s0:lg 0=some ():=rfl
 have s1:lg 1=some ():=rfl
 have w1:ab ((0:Int)+1)=1:=aV (by omega) (by omega)
 have w2:ab ((1:Int)+1)=2:=aV (by omega) (by omega)
 by_cases hz:(0:Int)<(dx.length:Int)
 ·have oj:oJ (dx.length:Int)=some ():=by unfold oJ;rw[if_neg (by omega)]
  obtain⟨x,tU⟩:∃ x,at? dx (Int.tmod (i:Int) (dx.length:Int))=some x:=by
   rw[<-Int.ofNat_tmod]
   have ae:i % dx.length<dx.length:=Nat.mod_lt _ (by omega)
   exact⟨_,bC (gG ae)⟩
  have ze:=akV x
  have hmd:=mN (m+3) x (m:=4) (by decide) (by decide)
  have yW:0<=x % 4:=by omega
  have mF:x % 4<4:=by omega
  generalize x % 4=y at ze hmd yW mF
  have hR:∀ (t0 t1:Bool) (r:List Pg),decide (dP .i64 y 1=1)=t0->decide (dP .i64 y 2=2)=t1->(bif t0 then (bif t1 then (p.set w.At.toNat (g1.set 0 (sd w.AE 0))).set w.At.toNat (g2.set 1 (sd w.AE 1)) else p.set w.At.toNat (g1.set 0 (sd w.AE 0))) else (bif t1 then p.set w.At.toNat (g1.set 1 (sd w.AE 1)) else p))=r->BB.b0 (m+3) d dx ((i:Int),p)=some (.next (ab ((i:Int)+1),r)):=by
   intro t0 t1 r e0 e1 er
   unfold BB.b0
   simp only[AD (show (i:Int)<((d.Ad.length:Nat):Int) by omega),Al,AD hz,oj,Af]
   rw[tU,Af,hmd,Af,bC hx,Af,e0,e1]
   subst er
   cases t0<;>cases t1
   ·rfl
   ·rw[Aj,Al,v1,Af,a1,Af,v1,Af,b2',Af];rfl
   ·rw[Al,v0,Af,a1,Af,v0,Af,a2',Af];rfl
   ·rw[Al,v0,Af,a1,Af,v0,Af,a2',Af,Al,v1,Af,c1,Af,v1,Af,c2',Af];rfl
  have hy:y=0\/y=1\/y=2\/y=3:=by omega
  rcases hy with rfl|rfl|rfl|rfl
  ·refine⟨p,?_,?_,hp⟩
   ·exact hR false false _ (by decide +kernel) (by decide +kernel) rfl
   ·unfold aX.b0
    simp only[AD (show (i:Int)<((d.Ad.length:Nat):Int) by omega),Al,bC hx,Af,AD hz,oj,tU,aj,aX.b1,ze,s0,s1,w1,w2,(by decide:decide ((0:Int)<2)=true),(by decide:decide ((1:Int)<2)=true),(by decide:decide ((2:Int)<2)=false),Aj,(by decide +kernel:decide (dP .i64 (Int.fdiv 0 (2 ^ (min (Int.toNat 0) 64))) 1=1)=false),(by decide +kernel:decide (dP .i64 (Int.fdiv 0 (2 ^ (min (Int.toNat 1) 64))) 1=1)=false)]
  ·refine⟨p.set w.At.toNat (g1.set 0 (sd w.AE 0)),?_,?_,pX⟩
   ·exact hR true false _ (by decide +kernel) (by decide +kernel) rfl
   ·unfold aX.b0
    simp only[AD (show (i:Int)<((d.Ad.length:Nat):Int) by omega),Al,bC hx,Af,AD hz,oj,tU,aj,aX.b1,ze,s0,s1,w1,w2,(by decide:decide ((0:Int)<2)=true),(by decide:decide ((1:Int)<2)=true),(by decide:decide ((2:Int)<2)=false),Aj,(by decide +kernel:decide (dP .i64 (Int.fdiv 1 (2 ^ (min (Int.toNat 0) 64))) 1=1)=true),(by decide +kernel:decide (dP .i64 (Int.fdiv 1 (2 ^ (min (Int.toNat 1) 64))) 1=1)=false),v0,v1,a1,a2']
  ·refine⟨p.set w.At.toNat (g1.set 1 (sd w.AE 1)),?_,?_,by rw[C3];exact hp⟩
   ·exact hR false true _ (by decide +kernel) (by decide +kernel) rfl
   ·unfold aX.b0
    simp only[AD (show (i:Int)<((d.Ad.length:Nat):Int) by omega),Al,bC hx,Af,AD hz,oj,tU,aj,aX.b1,ze,s0,s1,w1,w2,(by decide:decide ((0:Int)<2)=true),(by decide:decide ((1:Int)<2)=true),(by decide:decide ((2:Int)<2)=false),Aj,(by decide +kernel:decide (dP .i64 (Int.fdiv 2 (2 ^ (min (Int.toNat 0) 64))) 1=1)=false),(by decide +kernel:decide (dP .i64 (Int.fdiv 2 (2 ^ (min (Int.toNat 1) 64))) 1=1)=true),v0,v1,b1,b2']
  ·refine⟨(p.set w.At.toNat (g1.set 0 (sd w.AE 0))).set w.At.toNat (g2.set 1 (sd w.AE 1)),?_,?_,by rw[C3];exact pX⟩
   ·exact hR true true _ (by decide +kernel) (by decide +kernel) rfl
   ·unfold aX.b0
    simp only[AD (show (i:Int)<((d.Ad.length:Nat):Int) by omega),Al,bC hx,Af,AD hz,oj,tU,aj,aX.b1,ze,s0,s1,w1,w2,(by decide:decide ((0:Int)<2)=true),(by decide:decide ((1:Int)<2)=true),(by decide:decide ((2:Int)<2)=false),Aj,(by decide +kernel:decide (dP .i64 (Int.fdiv 3 (2 ^ (min (Int.toNat 0) 64))) 1=1)=true),(by decide +kernel:decide (dP .i64 (Int.fdiv 3 (2 ^ (min (Int.toNat 1) 64))) 1=1)=true),v0,v1,a1,a2',c1,c2']
 ·refine⟨p,?_,?_,hp⟩
  ·unfold BB.b0
   simp only[AD (show (i:Int)<((d.Ad.length:Nat):Int) by omega),Al,bC hx,Af,AI hz,(by decide +kernel:decide (dP .i64 0 1=1)=false),(by decide +kernel:decide (dP .i64 0 2=2)=false),Aj]
  ·unfold aX.b0
   simp only[AD (show (i:Int)<((d.Ad.length:Nat):Int) by omega),Al,bC hx,Af,AI hz,aj,aX.pd,s0,s1,w1,w2,(by decide:decide ((0:Int)<2)=true),(by decide:decide ((1:Int)<2)=true),(by decide:decide ((2:Int)<2)=false),Aj,(by decide +kernel:decide (dP .i64 (Int.fdiv 0 (2 ^ (min (Int.toNat 0) 64))) 1=1)=false),(by decide +kernel:decide (dP .i64 (Int.fdiv 0 (2 ^ (min (Int.toNat 1) 64))) 1=1)=false)]
theorem af3 {k:Nat} (hk:10000000<k) {d:Ac} (hd:DB d) (dx:List Int):BB k d dx=aX k d dx:=by
 obtain⟨h1,h2,h3⟩:=gk.1 hd.ok
 have key:∀ (n i m:Nat) (p:List Pg),i+n=d.Ad.length->n<m->p.length=602->
   aj (BB.b0 k d dx) m ((i:Int),p)=aj (aX.b0 k dx ⟨d⟩) m ((i:Int),p):=by
  intro n
  induction n with
  |zero=>
   intro i m p g1 g2 g3
   obtain⟨m,rfl⟩:∃ q,m=q+1:=⟨m - 1,by omega⟩
   have hb:aX.b0 k dx ⟨d⟩ ((i:Int),p)=some (.brk p):=by
    unfold aX.b0
    simp only[AI (show ¬ (i:Int)<((d.Ad.length:Nat):Int) by omega),Aj]
   have hr:BB.b0 k d dx ((i:Int),p)=some (.brk p):=by
    unfold BB.b0
    simp only[AI (show ¬ (i:Int)<((d.Ad.length:Nat):Int) by omega),Aj]
   simp only[aj,hb,hr]
  |succ n ih=>
   intro i m p g1 g2 g3
   obtain⟨m,rfl⟩:∃ q,m=q+1:=⟨m - 1,by omega⟩
   obtain⟨w,hw⟩:∃ w,d.Ad[i]?=some w:=⟨_,gG (by omega)⟩
   obtain⟨p1,a1,a2,a3⟩:=al2 hk hd dx hw g3
   have zb:ab ((i:Int)+1)=((i+1:Nat):Int):=by rw[aV (by omega) (by omega)];omega
   rw[zb]at a1 a2
   simp only[aj,a1,a2]
   exact ih (i+1) m p1 (by omega) (by omega) a3
 have h0:=key d.Ad.length 0 k d.Ae (by omega) (by omega) h1
 rw[CT]at h0
 unfold aX BB
 rw[mo hd.ok,mK (show 1000000<k by omega),rI (show 1000000<k by omega) hd.ok,hd.ok,(aex hd.ok).1]
 simp only[Af,AX,Aj,h0]
 rfl
theorem aqY {k:Nat} (hk:10000000<k) {p:List Pg} (hp:p.length=602) {a u:Nat} (ha:a<=1) {l:List Hf} (cE:u+l.length<=602):∀ (f i m:Nat) (ws:List Ao) (pp:List Pg),l.length - i<=f->l.length - i<m->i<=l.length->ws.length+f<=100000->pp.length=602->((u+i) % 2=1->i=0)->(∀ j,301*a+(u+i) / 2<=j->pp[j]?=p[j]?)->
  aj (BJ.b0 k (a:Int) (u:Int) l) m ((i:Int),ws,pp)=some (.brk (ws++eZ p a u l f i)):=by
 intro f
 induction f using Nat.strongRecOn with
 |ind f ih=>
 intro i m ws pp h1 h2 h3 h4 h5 h6 h7
 obtain⟨m,rfl⟩:∃ q,m=q+1:=⟨m - 1,by omega⟩
 by_cases hi:i<l.length
 ·obtain⟨x,hx⟩:∃ x,l[i]?=some x:=⟨_,gG hi⟩
  obtain⟨f,rfl⟩:∃ q,f=q+1:=⟨f - 1,by omega⟩
  have yV:∀ v:Ao,fH 72 ws v=some (ws++[v]):=fun v=>qw (by omega) (by omega)
  have one:∀ (i:Nat) (x:Hf) (pp:List Pg) (g:Pg),l[i]?=some x->i<l.length->pp.length=602->pp[301*a+(u+i) / 2]?=some g->BJ.b0 k (a:Int) (u:Int) l ((i:Int),ws,pp)=some (.next (((i+1:Nat):Int),(if i+1=l.length\/(u+i) % 2=1 then ws++[⟨((301*a+(u+i) / 2:Nat):Int),g.set (((u+i) % 2:Nat):Int) x⟩] else ws),pp.set (301*a+(u+i) / 2) (g.set (((u+i) % 2:Nat):Int) x))):=by
   intro i x pp g hx hi hpp hg
   have rA:ab ((u:Int)+(i:Int))=((u+i:Nat):Int):=by rw[aV (by omega) (by omega)];omega
   have y7:ab (((u+i:Nat):Int)+1)=((u+i+1:Nat):Int):=by rw[aV (by omega) (by omega)];omega
   have eV:ab ((i:Int)+1)=((i+1:Nat):Int):=by rw[aV (by omega) (by omega)];omega
   have pY:=aaM hp ha (show u+i<602 by omega)
   have amA:(301:Int)*(a:Int)=(a:Int)*301:=Int.mul_comm _ _
   have gq:ab ((l.length:Int) - 1)=((l.length - 1:Nat):Int):=by rw[aV (by omega) (by omega)];omega
   have fT:dL pp ((301*a+(u+i) / 2:Nat):Int) (g.set (((u+i) % 2:Nat):Int) x)=some (pp.set (301*a+(u+i) / 2) (g.set (((u+i) % 2:Nat):Int) x)):=by
    unfold dL
    rw[if_pos ⟨by omega,by omega⟩,Ck]
   have dJ:(pp.set (301*a+(u+i) / 2) (g.set (((u+i) % 2:Nat):Int) x))[301*a+(u+i) / 2]?=some (g.set (((u+i) % 2:Nat):Int) x):=List.getElem?_set_self (by omega)
   have d1:ab (Int.tdiv ((u+i:Nat):Int) 2)=(((u+i) / 2:Nat):Int):=by
    have e:Int.tdiv ((u+i:Nat):Int) 2=(((u+i) / 2:Nat):Int):=by rw[Int.tdiv_eq_ediv_of_nonneg (by omega)];omega
    rw[e,aV (by omega) (by omega)]
   have d2:ab (Int.tdiv ((u+i+1:Nat):Int) 2)=(((u+i+1) / 2:Nat):Int):=by
    have e:Int.tdiv ((u+i+1:Nat):Int) 2=(((u+i+1) / 2:Nat):Int):=by rw[Int.tdiv_eq_ediv_of_nonneg (by omega)];omega
    rw[e,aV (by omega) (by omega)]
   rw[d1]at pY
   unfold BJ.b0
   rw[amA]
   simp only[AD (show (i:Int)<(l.length:Int) by omega),Al,bC hx,Af,rA,pY,bC hg,qm,ab8,fT,gq,y7,bC dJ,yV,eV,d1,d2]
   by_cases e1:i+1=l.length
   ·rw[AD (show (i:Int)=((l.length - 1:Nat):Int) by omega),if_pos (.inl e1)]
    rfl
   ·rw[AI (show ¬ (i:Int)=((l.length - 1:Nat):Int) by omega)]
    by_cases e2:(u+i) % 2=1
    ·rw[AI (show ¬ (((u+i+1) / 2:Nat):Int)=(((u+i) / 2:Nat):Int) by omega),if_pos (.inr e2)]
     rfl
    ·rw[AD (show (((u+i+1) / 2:Nat):Int)=(((u+i) / 2:Nat):Int) by omega),if_neg (by omega)]
     rfl
  obtain⟨g,hg⟩:∃ g,p[301*a+(u+i) / 2]?=some g:=⟨_,gG (by omega)⟩
  have hgp:=(h7 _ (Bd _)).trans hg
  have s1:=one i x pp g hx hi h5 hgp
  rw[eZ,hx]
  simp only[hg,Option.getD_some]
  by_cases np:(u+i) % 2=1
  ·rw[if_pos (.inr np),np]at s1
   rw[if_pos np]
   simp only[aj,s1]
   have:=ih f (by omega) (i+1) m (ws++[⟨((301*a+(u+i) / 2:Nat):Int),g.set ((1:Nat):Int) x⟩]) (pp.set (301*a+(u+i) / 2) (g.set ((1:Nat):Int) x)) (by omega) (by omega) (by omega) (by simp;omega) (by rw[C3];exact h5) (by omega) (fun j hj=>by
    rw[List.getElem?_set_ne (by omega)];exact h7 j (by omega))
   rw[this,Cp]
   rfl
  ·have ahc:(u+i) % 2=0:=by omega
   rw[if_neg np]
   by_cases e1:i+1=l.length
   ·rw[if_pos (.inl e1),ahc]at s1
    have hn:l[i+1]?=none:=CK (by omega)
    rw[hn]
    simp only[aj,s1]
    obtain⟨m,rfl⟩:∃ q,m=q+1:=⟨m - 1,by omega⟩
    have hb:∀ s,BJ.b0 k (a:Int) (u:Int) l (((i+1:Nat):Int),s)=some (.brk s.1):=by
     intro s
     unfold BJ.b0
     simp only[AI (show ¬ ((i+1:Nat):Int)<(l.length:Int) by omega),Aj]
    simp only[aj,hb]
    rfl
   ·rw[if_neg (by omega),ahc]at s1
    obtain⟨y,hy⟩:∃ y,l[i+1]?=some y:=⟨_,gG (by omega)⟩
    rw[hy]
    have hdv:(u+(i+1)) / 2=(u+i) / 2:=by omega
    have s2:=one (i+1) y (pp.set (301*a+(u+i) / 2) (g.set ((0:Nat):Int) x)) (g.set ((0:Nat):Int) x) hy (by omega) (by rw[C3];exact h5) (by rw[hdv,List.getElem?_set_self (by omega)])
    rw[if_pos (.inr (by omega)),show (u+(i+1)) % 2=1 by omega,hdv]at s2
    obtain⟨m,rfl⟩:∃ q,m=q+1:=⟨m - 1,by omega⟩
    simp only[aj,s1,s2]
    have:=ih f (by omega) (i+2) m (ws++[⟨((301*a+(u+i) / 2:Nat):Int),(g.set ((0:Nat):Int) x).set ((1:Nat):Int) y⟩]) ((pp.set (301*a+(u+i) / 2) (g.set ((0:Nat):Int) x)).set (301*a+(u+i) / 2) ((g.set ((0:Nat):Int) x).set ((1:Nat):Int) y)) (by omega) (by omega) (by omega) (by simp;omega) (by rw[C3,C3];exact h5) (by omega) (fun j hj=>by
     rw[List.getElem?_set_ne (by omega),List.getElem?_set_ne (by omega)];exact h7 j (by omega))
    rw[this,Cp]
    rfl
 ·have hb:BJ.b0 k (a:Int) (u:Int) l ((i:Int),ws,pp)=some (.brk ws):=by
   unfold BJ.b0
   simp only[AI (show ¬ (i:Int)<(l.length:Int) by omega),Aj]
  have hw:eZ p a u l f i=[]:=by
   cases f with
   |zero=>rfl
   |succ f=>rw[eZ,CK (by omega)]
  simp only[aj,hb,hw,List.append_nil]
theorem aeP {k:Nat} (hk:10000000<k) {d:Ac} (hd:DB d) {a u:Nat} (ha:a<=1) {l:List Hf} (cE:u+l.length<=602):
  BJ k d (a:Int) (u:Int) l=some ⟨d.Ae,d.Ad++eZ (ak d.Ae d.Ad) a u l l.length 0⟩:=by
 obtain⟨h1,h2,h3⟩:=gk.1 hd.ok
 unfold BJ
 rw[(af0 k hd.ok).2,(rV (show 1000000<k by omega) hd.ok).2]
 simp only[Af]
 have:=aqY hk hd.len ha cE l.length 0 k d.Ad (ak d.Ae d.Ad) (by omega) (by omega) (by omega) (by omega) hd.len (fun _=>rfl) (fun j _=>rfl)
 rw[CT]at this
 rw[this]
 rfl
structure Cv (l:List Ab):Prop where
 ok:∀ r∈l,df r=true
 vl:VL ag (fun _=>0) l
 len:l.length<=60
theorem Cv.bi {l:List Ab} (h:Cv l):BI ag l (bk ag [] l):=BI.of ag h.vl
theorem Cv.hh {l:List Ab} (h:Cv l):∀ r∈bk ag [] l,jk r:=fun r hr=>nC (h.ok r ((h.bi.mem r).1 hr))
theorem Cv.no {l:List Ab} (h:Cv l) {i:Nat}{r:Ab} (hx:l[i]?=some r):(ag r).2=ax ag (l.take i) (ag r).1:=by
 have e:l=l.take i++(r::l.drop (i+1)):=by
  have hi:=(gS.1 hx).1
  have:l[i]=r:=by rw[gG hi]at hx;exact oi hx
  rw[<-this,<-List.drop_eq_getElem_cons hi,CZ]
 have hv:=h.vl
 rw[e,Ei]at hv
 have:=hv.2.1
 simpa using this
theorem air {p:List Pg} (hb:Bp p) {a:Nat}:∀ (m:Nat) (done b:List Ab) (e:Int) (u n:Nat),BI ag done b->Cv done->
  Cv (done++(rd p a m b e u n).map (·.1))/\(fin (b,u) (rd p a m b e u n)).1=bk ag b ((rd p a m b e u n).map (·.1))/\(fin (b,u) (rd p a m b e u n)).2<=u+10*(rd p a m b e u n).length/\BI ag (done++(rd p a m b e u n).map (·.1)) (bk ag b ((rd p a m b e u n).map (·.1)))
 |0,done,b,e,u,n,hJ,hR=>⟨by rw[rd];simpa using hR,rfl,Bd _,by rw[rd];simpa [bk] using hJ⟩
 |m+1,done,b,e,u,n,hJ,hR=>by
  have nil:Cv (done++([]:List (Ab×Nat)).map (·.1))/\(fin (b,u) []).1=bk ag b (([]:List (Ab×Nat)).map (·.1))/\(fin (b,u) []).2<=u+10*([]:List (Ab×Nat)).length/\BI ag (done++([]:List (Ab×Nat)).map (·.1)) (bk ag b (([]:List (Ab×Nat)).map (·.1))):=⟨by simpa using hR,rfl,Bd _,by simpa [bk] using hJ⟩
  rw[rd]
  cases hq:recAt p a u n with
  |none=>exact nil
  |some q=>
   simp only
   by_cases he:q.2.1<e
   ·rw[if_pos he];exact nil
   ·rw[if_neg he]
    cases de:iv b q.1 with
    |none=>exact nil
    |some b'=>
     simp only
     obtain⟨⟨g1,_,_⟩,g4⟩:=(zZ hb).1 hq
     obtain⟨i1,i2,i3,i4⟩:=qn de
     have bx:(ag q.1).2=ax ag done (ag q.1).1:=by
      show q.1.At.No=((ax ag done q.1.At.Ap:Nat):Int)
      rw[<-hJ.num]
      by_cases ae:q.1.At.No<ax ag b q.1.At.Ap
      ·have h0:=(abK g1).2.1.1
       obtain⟨x,hx,hk⟩:=ajf ag hJ.val (h:=q.1.At.Ap) (n:=q.1.At.No) h0 ae
       exact absurd hk (xN ag i2 x hx)
      ·omega
     have hl:=hJ.len
     have hd:=hR.len
     have hJ':=hJ.step ag bx
     have hR':Cv (done++[q.1]):=by
      refine⟨fun r hr=>?_,?_,by rw[A8,List.length_singleton];omega⟩
      ·rcases A9.1 hr with g|g
       ·exact hR.ok r g
       ·rw[CL.1 g];exact g1
      ·rw[Ei]
       exact⟨hR.vl,by rw[bx];exact(Int.zero_add _).symm,trivial⟩
     subst i1
     obtain⟨k1,k2,k3,k4⟩:=air hb m (done++[q.1]) (eo ag b q.1) q.2.1 (u+q.2.2) (n+1) hJ' hR'
     have h10:=uS g1
     have hq2:q.2.2<=10:=by rw[g4,kJ];exact h10
     rw[List.map_cons,agH]
     refine⟨?_,?_,?_,?_⟩
     ·rw[Cp,List.singleton_append]at k1;exact k1
     ·exact k2
     ·simp only[Az];omega
     ·rw[Cp,List.singleton_append]at k4;exact k4
theorem ak1 {p:List Pg} (hb:Bp p) {a:Nat}{x:Ar} (h:dX p a=some x):Cv (x.fe.map (·.1))/\x.book=bk ag [] (x.fe.map (·.1))/\x.used<=1+10*x.fe.length:=by
 unfold dX at h
 split at h
 ·obtain rfl:=oi h
  obtain⟨k1,k2,k3,_⟩:=air hb (a:=a) 100 [] [] (aM (hf p a 0)) 1 0 (BI.nil ag) ⟨by simp,trivial,by simp⟩
  exact⟨by rw[BL]at k1;exact k1,k2,k3⟩
 ·cases h
theorem abu {p:List Pg} (hb:Bp p) {q:Nat×Ar} (h:lV p=some q):q.1<=1/\Cv (q.2.fe.map (·.1))/\q.2.book=bk ag [] (q.2.fe.map (·.1))/\q.2.used<=1+10*q.2.fe.length:=by
 have key:q.1<=1/\dX p q.1=some q.2:=by
  unfold lV at h
  cases hx:dX p 0 with
  |none=>
   cases hy:dX p 1 with
   |none=>rw[hx,hy]at h;cases h
   |some y=>rw[hx,hy]at h;obtain rfl:=oi h;exact⟨Bd 1,hy⟩
  |some x=>
   cases hy:dX p 1 with
   |none=>rw[hx,hy]at h;obtain rfl:=oi h;exact⟨Nat.zero_le 1,hx⟩
   |some y=>
    rw[hx,hy]at h
    simp only at h
    by_cases ae:x.dG<y.dG
    ·rw[if_pos ae]at h;obtain rfl:=oi h;exact⟨Bd 1,hy⟩
    ·rw[if_neg ae]at h;obtain rfl:=oi h;exact⟨Nat.zero_le 1,hx⟩
 exact⟨key.1,ak1 hb key.2⟩
theorem ahS {k:Nat} (hk:1000000<k) {p:List Pg} (hp:p.length=602) (hb:Bp p) (h:lV p=none):DA k p=some (0,⟨0,[],0⟩,false):=by
 have a0:Bz k p 0=some (iW (dX p 0)):=aaL hk hp hb (a:=0) (by decide)
 have a1:Bz k p 1=some (iW (dX p 1)):=aaL hk hp hb (a:=1) (by decide)
 unfold DA
 rw[a0,a1]
 simp only[Af]
 unfold lV at h
 cases hx:dX p 0 with
 |none=>
  cases hy:dX p 1 with
  |none=>
   have e0:(iW none).AH=0:=rfl
   simp only[e0,BA,Al]
  |some y=>rw[hx,hy]at h;cases h
 |some x=>
  cases hy:dX p 1 with
  |none=>rw[hx,hy]at h;cases h
  |some y=>
   rw[hx,hy]at h
   simp only at h
   split at h<;>cases h
theorem afq {k:Nat} (hk:1000000<k) {l:List Ab} (hg:Cv l):BW k l=some ⟨bk ag [] l⟩:=by
 have h50:=hg.len
 unfold BW
 have h:=qI (l:=l) (body:=BW.b0 k l) (fun i s=>(s,i)) (eo ag) (fun i s=>BI ag (l.take i) s) (by omega) (k:=k) (by omega) (s0:=[]) (BI.nil ag) (fun i r s hx hs=>by
  have hi:=(gS.1 hx).1
  have bx:(ag r).2=ax ag (l.take i) (ag r).1:=hg.no hx
  have fV:=hs.len
  rw[Bb]at fV
  have hh:∀ x∈s,jk x:=fun x hx=>nC (hg.ok x (BY ((hs.mem x).1 hx)))
  have jD:ey s r=(eo ag s r,0):=by
   unfold ey
   rw[abc ag (hs.no ag bx)]
   simp only
   have e:r.At.No=((ax ag s r.At.Ap:Nat):Int):=by
    rw[hs.num];exact bx
   rw[if_neg (by omega),if_neg (by omega)]
  refine⟨?_,?_⟩
  ·unfold BW.b0
   simp only[AD (show (i:Int)<(l.length:Int) by omega),Al,bC hx,Af,aaJ hk hs.val.1 (show s.length<=900 by omega) hh (nC (hg.ok r (AW hx))),jD]
  ·rw[take_at hx]
   exact hs.step ag bx) (fun s hs=>by
  unfold BW.b0
  simp only[(by simp:decide ((l.length:Int)<(l.length:Int))=false),Aj])
 rw[h.1]
 rfl
theorem aib {k:Nat} (hk:10000000<k) {d:Ac} (hd:DB d):∃ y,lr k d=some y/\C1 k d=some y/\((y=(⟨[],[]⟩,⟨⟨[]⟩,0,0,0⟩,95)\/y=(⟨[],[]⟩,⟨⟨[]⟩,0,0,0⟩,2))\/(y.2.2=0/\y.1=⟨ak d.Ae d.Ad,[]⟩/\∃ L,Cv L/\y.2.1.Ak=⟨bk ag [] L⟩)):=by
 have bg:1000000<k:=by omega
 obtain⟨J,ok,h1,h2⟩:=abw bg hd.len hd.new []
 have DH:dz k ⟨⟨ak d.Ae d.Ad,[]⟩⟩ 0 0=some (mx (ak d.Ae d.Ad) 0 0):=nU bg hd.len hd.new [] (a:=0) (by decide) 0
 have DI:dz k ⟨⟨ak d.Ae d.Ad,[]⟩⟩ 1 0=some (mx (ak d.Ae d.Ad) 1 0):=nU bg hd.len hd.new [] (a:=1) (by decide) 0
 have g0:BF k (ak d.Ae d.Ad) 0 0=some (mx (ak d.Ae d.Ad) 0 0):=td bg hd.len hd.new (a:=0) (by decide) 0
 have g1:BF k (ak d.Ae d.Ad) 1 0=some (mx (ak d.Ae d.Ad) 1 0):=td bg hd.len hd.new (a:=1) (by decide) 0
 cases hm:lV (ak d.Ae d.Ad) with
 |none=>
  rw[hm]at h2
  simp only at h2
  subst h2
  refine⟨_,?_,?_,.inl (.inl rfl)⟩
  ·unfold lr
   rw[mK bg,hd.ok]
   simp only[Af,AX,Aj]
   rw[mo hd.ok]
   simp only[Af]
   rw[sm bg hd.ok]
   simp only[Af,h1,Bj,Al]
  ·unfold C1
   rw[rI bg hd.ok]
   simp only[Af,AX,Aj,(rV bg hd.ok).1,ahS bg hd.len hd.new hm,Bj,Al]
 |some q=>
  rw[hm]at h2
  simp only at h2
  obtain⟨rfl,ha,he,vD,hu⟩:=h2
  obtain⟨q1,q2,q3,q4⟩:=abu hd.new hm
  have hA:iW (some q.2)=⟨q.2.dG,q.2.fe.map (·.1),(q.2.used:Int)⟩:=rfl
  have n0:=vY (ak d.Ae d.Ad) 0 0
  have n1:=vY (ak d.Ae d.Ad) 1 0
  have hle:=ahX hd.new 0 0
  have arM:=ahX hd.new 1 0
  have hw:ab (1+max (mx (ak d.Ae d.Ad) 0 0) (mx (ak d.Ae d.Ad) 1 0))=1+max (mx (ak d.Ae d.Ad) 0 0) (mx (ak d.Ae d.Ad) 1 0):=aV (by omega) (by omega)
  have za:ab (max (mx (ak d.Ae d.Ad) 0 0) (mx (ak d.Ae d.Ad) 1 0)+1)=1+max (mx (ak d.Ae d.Ad) 0 0) (mx (ak d.Ae d.Ad) 1 0):=by rw[aV (by omega) (by omega)];omega
  by_cases hc:(1000000:Int)<1+max (mx (ak d.Ae d.Ad) 0 0) (mx (ak d.Ae d.Ad) 1 0)
  ·refine⟨_,?_,?_,.inl (.inr rfl)⟩
   ·unfold lr
    rw[mK bg,hd.ok]
    simp only[Af,AX,Aj]
    rw[mo hd.ok]
    simp only[Af]
    rw[sm bg hd.ok]
    simp only[Af,h1,AX,Aj,DH,DI,hw,AD hc,Al]
   ·unfold C1
    rw[rI bg hd.ok]
    simp only[Af,AX,Aj,(rV bg hd.ok).1,abv bg hd.len hd.new hm,g0,g1,za,AD hc,Al]
  ·refine⟨(⟨ak d.Ae d.Ad,[]⟩,⟨⟨q.2.book⟩,(q.1:Int),1+max (mx (ak d.Ae d.Ad) 0 0) (mx (ak d.Ae d.Ad) 1 0),(q.2.used:Int)⟩,0),?_,?_,.inr ⟨rfl,rfl,_,q2,by rw[q3]⟩⟩
   ·exact ape bg hd hm (by omega)
   ·unfold C1
    rw[rI bg hd.ok]
    simp only[Af,AX,Aj,(rV bg hd.ok).1,abv bg hd.len hd.new hm,hA,g0,g1,za,AI hc,afq bg q2,q3]
theorem amF {k:Nat} (hk:1000000<k) {a b:List Ab} (hl:a.length<=100000):∃ c:Bool,fq k a b=some c/\(c=true↔a=b):=by
 unfold fq
 by_cases vz:a.length=b.length
 ·have hd:decide ((a.length:Int)=(b.length:Int))=true:=AD (by omega)
  simp only[hd,AX,Aj]
  have h:=aeQ (n:=a.length) (body:=fq.b0 k a b) (p:=fun i=>decide (a[i]?=b[i]?)) (c:=false) (by omega) (k:=k) (by omega) (fun i hi=>by
   have hx:a[i]?=some a[i]:=gG hi
   have hy:b[i]?=some (b[i]'(by omega)):=gG _
   unfold fq.b0
   simp only[AD (show (i:Int)<(a.length:Int) by omega),Al,bC hx,bC hy,Af]
   rw[hx,hy]
   have he:(decide (a[i].At.Ap=(b[i]'(by omega)).At.Ap)&&(decide (a[i].At.No=(b[i]'(by omega)).At.No)&&(decide (a[i].Kind=(b[i]'(by omega)).Kind)&&(decide (a[i].Day=(b[i]'(by omega)).Day)&&(decide (a[i].Bh=(b[i]'(by omega)).Bh)&&(decide (a[i].Of.Ap=(b[i]'(by omega)).Of.Ap)&&(decide (a[i].Of.No=(b[i]'(by omega)).Of.No)&&(a[i].Text.toList==(b[i]'(by omega)).Text.toList))))))))=kX a[i] (b[i]'(by omega)):=rfl
   rw[he]
   cases hc:kX a[i] (b[i]'(by omega)) with
   |true=>rw[wj]at hc;simp only[hc,AX,Aj,BA,Al]
   |false=>
    have:a[i]≠(b[i]'(by omega)):=fun e=>by rw[<-wj,hc]at e;cases e
    rw[AI (fun e=>this (oi e))]
    rfl) (by
   unfold fq.b0
   simp only[(by simp:decide ((a.length:Int)<(a.length:Int))=false),Aj])
  rw[h]
  refine⟨(List.range a.length).all fun i=>decide (a[i]?=b[i]?),?_,?_⟩
  ·cases (List.range a.length).all fun i=>decide (a[i]?=b[i]?)<;>rfl
  ·rw[List.all_eq_true]
   constructor
   ·intro hq
    apply List.ext_getElem?
    intro i
    by_cases hi:i<a.length
    ·simpa using hq i (by simp[hi])
    ·rw[CK (by omega),CK (by omega)]
   ·rintro rfl;intro i _;simp
 ·have hd:decide ((a.length:Int)=(b.length:Int))=false:=AI (by omega)
  simp only[hd,Bj,Al]
  exact⟨false,rfl,⟨fun h=>(by cases h),fun h=>absurd (congrArg List.length h) vz⟩⟩
theorem afN {k:Nat} (hk:10000000<k) {d:Ac} (hd:DB d) (l:AB) (hl:l.Ak.Aq.length<=1000):
  (nQ k d l=some 0/\Dn k d l=some 0/\∃ q,FE d l q)\/(nQ k d l=some 94/\Dn k d l=some 94):=by
 have bg:1000000<k:=by omega
 obtain⟨J,ok,h1,h2⟩:=abw bg hd.len hd.new []
 have DH:dz k ⟨⟨ak d.Ae d.Ad,[]⟩⟩ 0 0=some (mx (ak d.Ae d.Ad) 0 0):=nU bg hd.len hd.new [] (a:=0) (by decide) 0
 have DI:dz k ⟨⟨ak d.Ae d.Ad,[]⟩⟩ 1 0=some (mx (ak d.Ae d.Ad) 1 0):=nU bg hd.len hd.new [] (a:=1) (by decide) 0
 have g0:BF k (ak d.Ae d.Ad) 0 0=some (mx (ak d.Ae d.Ad) 0 0):=td bg hd.len hd.new (a:=0) (by decide) 0
 have g1:BF k (ak d.Ae d.Ad) 1 0=some (mx (ak d.Ae d.Ad) 1 0):=td bg hd.len hd.new (a:=1) (by decide) 0
 cases hm:lV (ak d.Ae d.Ad) with
 |none=>
  rw[hm]at h2
  simp only at h2
  subst h2
  refine .inr ⟨?_,?_⟩
  ·unfold nQ
   rw[mK bg,hd.ok]
   simp only[Af,AX,Aj]
   rw[mo hd.ok]
   simp only[Af]
   rw[sm bg hd.ok]
   simp only[Af,h1,Aj]
  ·unfold Dn
   rw[rI bg hd.ok]
   simp only[Af,Al,zi]
   cases within l.AH 1 1000000<;>simp only[AX,Bj,Al,Aj,(rV bg hd.ok).1,Af,ahS bg hd.len hd.new hm]
 |some q=>
  rw[hm]at h2
  simp only at h2
  obtain⟨rfl,ha,he,vD,hu⟩:=h2
  obtain⟨q1,q2,q3,q4⟩:=abu hd.new hm
  have hA:iW (some q.2)=⟨q.2.dG,q.2.fe.map (·.1),(q.2.used:Int)⟩:=rfl
  have gH:=q2.bi.len
  have iL:=q2.len
  have E2:=nU bg hd.len hd.new [] q1 q.2.used
  have g2:=td bg hd.len hd.new q1 q.2.used
  obtain⟨cR,cR1,cR2⟩:=aiI hk (a:=l.Ak.Aq) (b:=bk ag [] (q.2.fe.map (·.1))) hl
  obtain⟨cB,cB1,cB2⟩:=amF bg (a:=l.Ak.Aq) (b:=bk ag [] (q.2.fe.map (·.1))) (by omega)
  have b9:cB=cR:=by
   cases cB<;>cases cR<;>first|rfl|skip
   ·exact absurd (cB2.2 (cR2.1 rfl)) (by simp)
   ·exact absurd (cR2.2 (cB2.1 rfl)) (by simp)
  subst b9
  have anD:decide (l.AH<max (mx (ak d.Ae d.Ad) 0 0) (mx (ak d.Ae d.Ad) 1 0))=(decide (l.AH<mx (ak d.Ae d.Ad) 0 0) || decide (l.AH<mx (ak d.Ae d.Ad) 1 0)):=by
   rw[Bool.eq_iff_iff];simp only[Bool.or_eq_true,decide_eq_true_eq];omega
  have eB:nQ k d l=some (bif decide (l.BG=(q.1:Int))&&(decide (l.Used=(q.2.used:Int))&&(cB&&(within l.AH 1 1000000&&(!decide (l.AH<mx (ak d.Ae d.Ad) 0 0)&&(!decide (l.AH<mx (ak d.Ae d.Ad) 1 0)&&!decide (l.AH<=mx (ak d.Ae d.Ad) q.1 q.2.used)))))) then 0 else 94):=by
   unfold nQ
   rw[mK bg,hd.ok]
   simp only[Af,AX,Aj]
   rw[mo hd.ok]
   simp only[Af]
   rw[sm bg hd.ok]
   simp only[Af,h1,Al,ha,hu,vD,q3,cB1,zk,DH,DI,anD,E2]
   cases decide (l.BG=(q.1:Int))<;>cases decide (l.Used=(q.2.used:Int))<;>cases cB<;>cases within l.AH 1 1000000<;>cases decide (l.AH<mx (ak d.Ae d.Ad) 0 0)<;>cases decide (l.AH<mx (ak d.Ae d.Ad) 1 0)<;>cases decide (l.AH<=mx (ak d.Ae d.Ad) q.1 q.2.used)<;>rfl
  have eR:Dn k d l=some (bif decide (l.BG=(q.1:Int))&&(decide (l.Used=(q.2.used:Int))&&(cB&&(within l.AH 1 1000000&&(!decide (l.AH<mx (ak d.Ae d.Ad) 0 0)&&(!decide (l.AH<mx (ak d.Ae d.Ad) 1 0)&&!decide (l.AH<=mx (ak d.Ae d.Ad) q.1 q.2.used)))))) then 0 else 94):=by
   unfold Dn
   rw[rI bg hd.ok]
   simp only[Af,Al,zi,(rV bg hd.ok).1,abv bg hd.len hd.new hm,hA,afq bg q2,cR1,g0,g1,g2]
   cases decide (l.BG=(q.1:Int))<;>cases decide (l.Used=(q.2.used:Int))<;>cases cB<;>cases within l.AH 1 1000000<;>cases decide (l.AH<mx (ak d.Ae d.Ad) 0 0)<;>cases decide (l.AH<mx (ak d.Ae d.Ad) 1 0)<;>cases decide (l.AH<=mx (ak d.Ae d.Ad) q.1 q.2.used)<;>rfl
  rw[eB,eR]
  cases hb:decide (l.BG=(q.1:Int))&&(decide (l.Used=(q.2.used:Int))&&(cB&&(within l.AH 1 1000000&&(!decide (l.AH<mx (ak d.Ae d.Ad) 0 0)&&(!decide (l.AH<mx (ak d.Ae d.Ad) 1 0)&&!decide (l.AH<=mx (ak d.Ae d.Ad) q.1 q.2.used)))))) with
  |false=>exact .inr ⟨rfl,rfl⟩
  |true=>
   simp only[A7,Bool.not_eq_true',decide_eq_true_eq,decide_eq_false_iff_not]at hb
   obtain⟨b1,b2,b3,b4,b5,b6,b7⟩:=hb
   refine .inl ⟨rfl,rfl,q,⟨hm,q1,b1,b2,?_,by rw[q3];omega,?_,by omega,by omega,by omega⟩⟩
   ·have:=cB2.1 b3
    rw[q3,<-this]
   ·unfold within at b4
    simpa using b4
theorem afG (e n c:Int) (r:Ab) (i:Nat):AY (dR e n c (enc r) i).l:=by
 intro y hy
 simp only[dR,iN,A9,BD,List.not_mem_nil,or_false,List.mem_replicate]at hy
 rcases hy with (((((hy|hy)|hy)|hy)|hy)|hy)
 ·omega
 ·exact na _ _ y hy
 ·exact na _ _ y hy
 ·rcases hy with hy|hy<;>rw[hy,qJ]<;>omega
 ·rcases hy with hy|hy
  ·exact alB r y (Ci (BY hy))
  ·omega
 ·omega
theorem aaX:AY hz.l:=by
 intro y hy
 have:y=0:=by
  simp only[hz,Aa.rep,List.mem_replicate]at hy
  exact hy.2
 omega
theorem afH {p:List Pg} (h:Bp p) (j s:Nat):AY (ph p j s).l:=by
 unfold ph
 cases hg:p[j]? with
 |none=>exact aaX
 |some g=>
  simp only
  cases hx:g.l[s]? with
  |none=>exact aaX
  |some x=>exact h g (AW hg) x (AW hx)
theorem apz {p:List Pg} (h:∀ j s,AY (ph p j s).l):Bp p:=by
 intro g hg x hx
 obtain⟨j,hj⟩:=BC.1 hg
 obtain⟨s,hs⟩:=BC.1 hx
 have e:ph p j s=x:=by rw[ud hj];unfold sd;rw[hs];rfl
 rw[<-e];exact h j s
theorem DB.more {d:Ac} (h:DB d) {a u:Nat} (ha:a<=1) {H:List Hf} (cE:u+H.length<=602) (hH:∀ x∈H,AY x.l) (hlen:(d.Ad++eZ (ak d.Ae d.Ad) a u H H.length 0).length<=1200):DB ⟨d.Ae,d.Ad++eZ (ak d.Ae d.Ad) a u H H.length 0⟩:=by
 obtain⟨k1,k2,k3⟩:=gk.1 h.ok
 have ahw:=aeR h.len ha cE H.length 0 (fun _=>rfl)
 have hG:∀ i:Nat,AY ((H[i]?).getD hz).l:=fun i=>by
  cases hx:H[i]? with
  |none=>exact aaX
  |some x=>exact hH x (AW hx)
 have oA:∀ j s,s<2->AY (tg (ak d.Ae d.Ad) a u H 0 j s).l:=fun j s hs=>by
  unfold tg
  split
  ·exact hG _
  ·exact afH h.new j s
 refine⟨gk.2 ⟨k1,hlen,fun w hw=>?_⟩,h.pb,fun w hw x hx=>?_⟩
 ·rcases A9.1 hw with g|g
  ·exact k3 w g
  ·exact(ahw w g).1
 ·rcases A9.1 hw with g|g
  ·exact h.wb w g x hx
  ·obtain⟨s,hs⟩:=BC.1 hx
   have ou:s<2:=by
    have:=(gS.1 hs).1
    have:=w.AE.h
    omega
   have e:sd w.AE s=x:=by unfold sd;rw[hs];rfl
   rw[<-e,(ahw w g).2 s ou]
   exact oA _ _ ou
def zD:Ac:=⟨[],[]⟩
def zL:AB:=⟨⟨[]⟩,0,0,0⟩
theorem akZ {k:Nat} (hk:10000000<k) {d:Ac} (hd:DB d) (l:AB) (hl:l.Ak.Aq.length<=1000) (r:Ab):
  ∃ y,ml k d l r=some y/\Df k d l r=some y/\((y.1=zD/\y.2.1=zL/\y.2.2≠0)\/(y.2.2=0/\DB y.1/\∃ L,Cv L/\y.2.1.Ak=⟨bk ag [] L⟩)):=by
 have bg:1000000<k:=by omega
 rcases afN hk hd l hl with ⟨cB,cR,q,hL⟩|⟨cB,cR⟩
 rotate_left
 ·refine⟨(zD,zL,94),?_,?_,.inl ⟨rfl,rfl,by decide⟩⟩
  ·unfold ml;rw[cB];rfl
  ·unfold Df;rw[cR];rfl
 obtain⟨q1,q2,q3,q4⟩:=abu hd.new hL.adY
 have tp:=q2.bi
 have gH:=tp.len
 have iL:=q2.len
 have yX:(q.2.fe.map (·.1)).length=q.2.fe.length:=Bg _
 have eE:l.Ak.Aq=bk ag [] (q.2.fe.map (·.1)):=by rw[hL.book,q3]
 have hs:CC ag l.Ak.Aq:=by rw[eE];exact tp.val.1
 have hh:∀ x∈l.Ak.Aq,jk x:=by rw[eE];exact q2.hh
 have hLl:l.Ak.Aq.length=(q.2.fe.map (·.1)).length:=by rw[eE,gH]
 have aB:=aaK bg (b:=l.Ak) hs (by omega) hh r
 cases hr:df r with
 |false=>
  refine⟨(zD,zL,90),?_,?_,.inl ⟨rfl,rfl,by decide⟩⟩
  ·unfold ml
   rw[cB]
   simp only[Af,BA,AX,Aj]
   rw[aB,hr]
   rfl
  ·unfold Df
   rw[cR]
   simp only[Af,BA,AX,Aj,xy (show 1000<k by omega),hr]
   rfl
 |true=>
  have aR:=aaJ bg hs (show l.Ak.Aq.length<=900 by omega) hh (nC hr)
  rw[hr]at aB
  simp only[Al]at aB
  by_cases he:(ey l.Ak.Aq r).2=0
  ·cases hf:gF ag l.Ak.Aq (ag r) with
   |some x=>
    have jD:ey l.Ak.Aq r=(l.Ak.Aq,0):=by
     unfold ey at he ⊢
     rw[hf]at he ⊢
     simp only at he ⊢
     split
     ·rfl
     ·rename_i hx
      rw[if_neg hx]at he
      cases he
    have hB:=ak0 bg hd hL hr hs hh jD
    refine⟨(d,l,0),hB,?_,.inr ⟨rfl,hd,_,q2,by rw[hL.book,q3]⟩⟩
    unfold Df
    rw[cR]
    simp only[Af,BA,AX,Aj,xy (show 1000<k by omega),hr,Al,aR,jD,(af0 k hd.ok).1]
   |none=>
    have jD:ey l.Ak.Aq r=(eo ag l.Ak.Aq r,0)/\l.Ak.Aq.length≠60/\r.At.No<=((ax ag l.Ak.Aq r.At.Ap:Nat):Int):=by
     unfold ey at he ⊢
     rw[hf]at he ⊢
     simp only at he ⊢
     by_cases c1:((ax ag l.Ak.Aq r.At.Ap:Nat):Int)<r.At.No
     ·rw[if_pos c1]at he;cases he
     ·rw[if_neg c1]at he ⊢
      by_cases c2:(l.Ak.Aq.length:Int)=60
      ·rw[if_pos c2]at he;cases he
      ·rw[if_neg c2]
       exact⟨rfl,by omega,by omega⟩
    obtain⟨jD,arO,hle⟩:=jD
    have bx:(ag r).2=ax ag (q.2.fe.map (·.1)) (ag r).1:=by
     show r.At.No=((ax ag (q.2.fe.map (·.1)) r.At.Ap:Nat):Int)
     rw[eE,tp.num]at hle
     have h0:=(abK hr).2.1.1
     by_cases c3:r.At.No<((ax ag (q.2.fe.map (·.1)) r.At.Ap:Nat):Int)
     ·obtain⟨y,hy,hky⟩:=Ft ag q2.vl r.At.Ap r.At.No h0 (by omega)
      exact absurd hky (xN ag hf y (by rw[eE];exact(tp.mem y).2 hy))
     ·omega
    have hil:=zj ag l.Ak.Aq r
    have hR':Cv (q.2.fe.map (·.1)++[r]):=by
     refine⟨fun x hx=>?_,?_,by rw[A8,List.length_singleton];omega⟩
     ·rcases A9.1 hx with g|g
      ·exact q2.ok x g
      ·rw[CL.1 g];exact hr
     ·rw[Ei]
      exact⟨q2.vl,by rw[bx];exact(Int.zero_add _).symm,trivial⟩
    have am9:bk ag [] (q.2.fe.map (·.1)++[r])=eo ag l.Ak.Aq r:=by
     rw[eE];unfold bk;rw[List.foldl_append];rfl
    have arC:=uS hr
    have ht:=wi hr
    obtain⟨H,hHe⟩:∃ H,H=cD r (l.Ak.Aq.length:Int) l.AH:=⟨_,rfl⟩
    have hH:(List.range (bD (enc r).length)).map (dR l.AH (l.Ak.Aq.length:Int) (bD (enc r).length) (enc r))=H:=hHe.symm
    have hHl:H.length=bD (enc r).length:=by rw[hHe];exact kJ _ _ _
    have hHb:∀ x∈H,AY x.l:=fun x hx=>by
     rw[<-hH]at hx
     obtain⟨i,_,rfl⟩:=List.mem_map.1 hx
     exact afG _ _ _ _ _
    have cE:q.2.used+H.length<=602:=by omega
    have hu:ab (l.Used+(H.length:Int))=((q.2.used+H.length:Nat):Int):=by
     rw[hL.used,aV (by omega) (by omega)];omega
    have hw:=aq5 bg hd q1 cE
    rw[<-hL.aW,<-hL.used]at hw
    have hwR:=aeP hk hd q1 cE
    rw[<-hL.aW,<-hL.used]at hwR
    obtain⟨W,hW⟩:∃ W,W=d.Ad++eZ (ak d.Ae d.Ad) q.1 q.2.used H H.length 0:=⟨_,rfl⟩
    rw[<-hW]at hw hwR
    have eB:ml k d l r=some (bif decide ((1200:Int)<(W.length:Int)) then (zD,zL,2) else (⟨d.Ae,W⟩,⟨⟨eo ag l.Ak.Aq r⟩,l.BG,l.AH,((q.2.used+H.length:Nat):Int)⟩,0)):=by
     unfold ml
     rw[cB]
     simp only[Af,BA,AX,Aj]
     rw[aB,jD]
     simp only[Af,BA,AX,Aj]
     rw[mo hd.ok]
     simp only[Af]
     unfold xn
     rw[acL (show l.Ak.Aq.length<=1000 by omega)]
     simp only[Af,AI (show ¬ ((eo ag l.Ak.Aq r).length:Int)=(l.Ak.Aq.length:Int) by omega),Aj]
     rw[aih (show 100000<k by omega) ht,hH]
     simp only[Af,hu,AI (show ¬ (602:Int)<((q.2.used+H.length:Nat):Int) by omega),Aj,hw]
     cases decide ((1200:Int)<(W.length:Int))<;>rfl
    have eR:Df k d l r=some (bif decide ((1200:Int)<(W.length:Int)) then (zD,zL,2) else (⟨d.Ae,W⟩,⟨⟨eo ag l.Ak.Aq r⟩,l.BG,l.AH,((q.2.used+H.length:Nat):Int)⟩,0)):=by
     unfold Df
     rw[cR]
     simp only[Af,BA,AX,Aj,xy (show 1000<k by omega),hr,Al,aR,jD,AI (show ¬ ((eo ag l.Ak.Aq r).length:Int)=(l.Ak.Aq.length:Int) by omega),ads (show 100000<k by omega) ht,hH,hwR,hu]
     cases decide ((1200:Int)<(W.length:Int))<;>rfl
    refine⟨_,eB,eR,?_⟩
    by_cases hc:(1200:Int)<(W.length:Int)
    ·rw[AD hc];exact .inl ⟨rfl,rfl,by simp⟩
    ·rw[AI hc]
     refine .inr ⟨rfl,?_,_,hR',by rw[am9];rfl⟩
     rw[hW]at hc
     have:=hd.more q1 cE hHb (by omega)
     rw[<-hW]at this
     exact this
  ·refine⟨(zD,zL,(ey l.Ak.Aq r).2),?_,?_,.inl ⟨rfl,rfl,he⟩⟩
   ·unfold ml
    rw[cB]
    simp only[Af,BA,AX,Aj]
    rw[aB]
    simp only[Af,AI he,Bj,Al]
    rfl
   ·unfold Df
    rw[cR]
    simp only[Af,BA,AX,Aj,xy (show 1000<k by omega),hr,Al,aR,AI he,Bj]
    rfl
theorem alD {g:Pg} (h:∀ x∈g.l,AY x.l) (s:Nat):AY (sd g s).l:=by
 unfold sd
 cases hx:g.l[s]? with
 |none=>exact aaX
 |some x=>exact h x (AW hx)
theorem af4 {k:Nat} (hk:1000000<k) {d:Ac} (hd:DB d) (dx:List Int) (vM:dx.length<=4611686018427387904):
  ∃ p',aX k d dx=some ⟨p',[]⟩/\DB ⟨p',[]⟩:=by
 obtain⟨h1,h2,h3⟩:=gk.1 hd.ok
 have step:∀ (i:Nat) w (p:List Pg),d.Ad[i]?=some w->p.length=602->∃ p',aX.b0 k dx ⟨d⟩ ((i:Int),p)=some (.next (ab ((i:Int)+1),p'))/\Part p p' w:=by
  intro i w p hx hp
  have hi:=(gS.1 hx).1
  have hw:=h3 w (AW hx)
  unfold aX.b0
  simp only[AD (show (i:Int)<((d.Ad.length:Nat):Int) by omega),Al,bC hx,Af]
  obtain⟨m,rfl⟩:∃ m,k=m+3:=⟨k - 3,by omega⟩
  have sh0:∀ s:Nat,s<2->lg (s:Int)=some ():=fun s hs=>by unfold lg;rw[if_neg (by omega)]
  by_cases hz:(0:Int)<(dx.length:Int)
  ·have oj:oJ (dx.length:Int)=some ():=by unfold oJ;rw[if_neg (by omega)]
   obtain⟨x,tU⟩:∃ x,at? dx (Int.tmod (i:Int) (dx.length:Int))=some x:=by
    rw[<-Int.ofNat_tmod]
    have ae:i % dx.length<dx.length:=Nat.mod_lt _ (by omega)
    exact⟨_,bC (gG ae)⟩
   simp only[AD hz,Al,oj,tU,Af]
   obtain⟨p',g1,g2⟩:=aiP (w:=w) hw (body:=aX.b1 (m+3) w x) (c:=fun s=>decide (dP .i64 (Int.fdiv (dP .i64 x 3) (2 ^ (min (Int.toNat (s:Int)) 64))) 1=(1:Int))) (fun s p hs hp=>by
    unfold aX.b1
    simp only[AD (show (s:Int)<2 by omega),Al,sh0 s hs,Af]) (fun p=>by
    unfold aX.b1
    simp only[(by decide:decide ((2:Int)<2)=false),Aj]) hp m
   exact⟨p',by rw[g1];rfl,g2⟩
  ·simp only[AI hz,Aj]
   obtain⟨p',g1,g2⟩:=aiP (w:=w) hw (body:=aX.pd (m+3) w) (c:=fun s=>decide (dP .i64 (Int.fdiv 0 (2 ^ (min (Int.toNat (s:Int)) 64))) 1=(1:Int))) (fun s p hs hp=>by
    unfold aX.pd
    simp only[AD (show (s:Int)<2 by omega),Al,sh0 s hs,Af]) (fun p=>by
    unfold aX.pd
    simp only[(by decide:decide ((2:Int)<2)=false),Aj]) hp m
   exact⟨p',by rw[g1];rfl,g2⟩
 have key:∀ (n i m:Nat) (p:List Pg),i+n=d.Ad.length->n<m->p.length=602->(∀ j s,AY (ph p j s).l)->
   ∃ p',aj (aX.b0 k dx ⟨d⟩) m ((i:Int),p)=some (.brk p')/\p'.length=602/\(∀ j s,AY (ph p' j s).l):=by
  intro n
  induction n with
  |zero=>
   intro i m p g1 g2 g3 g4
   obtain⟨m,rfl⟩:∃ q,m=q+1:=⟨m - 1,by omega⟩
   have hb:aX.b0 k dx ⟨d⟩ ((i:Int),p)=some (.brk p):=by
    unfold aX.b0
    simp only[AI (show ¬ (i:Int)<((d.Ad.length:Nat):Int) by omega),Aj]
   exact⟨p,by simp only[aj,hb],g3,g4⟩
  |succ n ih=>
   intro i m p g1 g2 g3 g4
   obtain⟨m,rfl⟩:∃ q,m=q+1:=⟨m - 1,by omega⟩
   obtain⟨w,hw⟩:∃ w,d.Ad[i]?=some w:=⟨_,gG (by omega)⟩
   obtain⟨p1,a1,a2,a3⟩:=step i w p hw g3
   have zb:ab ((i:Int)+1)=((i+1:Nat):Int):=by rw[aV (by omega) (by omega)];omega
   rw[zb]at a1
   obtain⟨p',b1,b2⟩:=ih (i+1) m p1 (by omega) (by omega) a2 (fun j s=>by
    rcases a3 j s with e|⟨e1,e2⟩
    ·rw[e];exact g4 j s
    ·rw[e2];exact alD (hd.wb w (AW hw)) s)
   exact⟨p',by simp only[aj,a1,b1],b2⟩
 unfold aX
 rw[mo hd.ok,mK hk,hd.ok]
 simp only[Af,AX,Aj]
 obtain⟨p',b1,b2,b3⟩:=key d.Ad.length 0 k d.Ae (by omega) (by omega) h1 (fun j s=>afH hd.pb j s)
 rw[CT]at b1
 exact⟨p',by rw[b1];rfl,⟨gk.2 ⟨b2,by simp,by simp⟩,apz b3,by simp⟩⟩
def oM (l:List Ab) (e:Int):Nat->List Hf
 |0=>[]
 |n+1=>oM l e n++(match l[n]? with|some r=>cD r (n:Int) e|none=>[])
theorem aej {l:List Ab}{e:Int} (h:∀ r∈l,df r=true):∀ n,(oM l e n).length<=10*n
 |0=>Bd _
 |n+1=>by
  have:=aej (e:=e) h n
  rw[oM,A8]
  cases hx:l[n]? with
  |none=>simp only[Ay];omega
  |some r=>
   simp only
   have:=uS (h r (AW hx))
   rw[kJ]
   omega
theorem aif {l:List Ab}{e:Int}:∀ n,∀ x∈oM l e n,AY x.l
 |0,x,h=>by simp[oM]at h
 |n+1,x,h=>by
  rw[oM,A9]at h
  rcases h with h|h
  ·exact aif n x h
  ·cases hx:l[n]? with
   |none=>rw[hx]at h;simp at h
   |some r=>
    rw[hx]at h
    simp only at h
    unfold cD at h
    obtain⟨i,_,rfl⟩:=List.mem_map.1 h
    exact afG _ _ _ _ _
theorem alC (e n:Int):AY (cL e n).l:=by
 intro y hy
 simp only[cL,BD,List.not_mem_nil,or_false,A9,List.mem_replicate]at hy
 have h8:∀ x:Int,0<=IntKind.u8.wrap x/\IntKind.u8.wrap x<256:=fun x=>by rw[qJ];omega
 have a1:=h8 (Int.fdiv e (2 ^ 16))
 have a2:=h8 (Int.fdiv e (2 ^ 8))
 have a3:=h8 e
 have a4:=h8 (Int.fdiv n (2 ^ 8))
 have a5:=h8 n
 omega
theorem apw {R:Type}{k:Nat} (hk:1000000<k) {l:List Ab} (hl:l.length<=60) (hr:∀ r∈l,df r=true) {e:Int}{body:Int×List Hf->Option (AU (Int×List Hf) (List Hf) R)}
  (h1:∀ (i:Nat) (r:Ab) (s:List Hf),l[i]?=some r->body ((i:Int),s)=(dO 32 s (cD r (i:Int) e)).bind fun gr=>some (.next (ab ((i:Int)+1),gr)))
  (h2:∀ s,body ((l.length:Int),s)=some (.brk s)):aj body k (0,[])=some (.brk (oM l e l.length)):=by
 have h:=acd (n:=l.length) (body:=body) (fun i s=>(i,s)) (fun s i=>s++(match l[i]? with|some r=>cD r (i:Int) e|none=>[])) (fun i s=>s=oM l e i) (by omega) (k:=k) (by omega) (s0:=[]) rfl (fun i s hi hs=>by
  obtain⟨r,hx⟩:∃ r,l[i]?=some r:=⟨_,gG hi⟩
  have hL:=aej (e:=e) hr i
  have hc:=uS (hr r (AW hx))
  have hHl:=kJ r (i:Int) e
  refine⟨?_,by rw[hs,oM]⟩
  rw[h1 i r s hx,hs,lq (by omega) (by omega),Af,hx]) (fun s hs=>h2 s)
 rw[h.1,h.2]
theorem apv {k:Nat} (hk:10000000<k) {d:Ac} (hd:DB d) (l:AB) (hl:l.Ak.Aq.length<=1000):
  ∃ y,Cf k d l=some y/\((y.1=[]/\y.2.1=zL/\y.2.2≠0)\/(y.2.2=0/\∃ d1 d2 d3 d4 d5,y.1=[d1,d2,d3,d4,d5]/\DB d1/\DB d2/\DB d3/\DB d4/\DB d5/\y.2.1.Ak=l.Ak/\∃ L,Cv L/\l.Ak=⟨bk ag [] L⟩)):=by
 have bg:1000000<k:=by omega
 rcases afN hk hd l hl with ⟨cB,cR,q,hL⟩|⟨cB,cR⟩
 rotate_left
 ·refine⟨([],zL,94),?_,.inl ⟨rfl,rfl,by decide⟩⟩
  unfold Cf;rw[cR];rfl
 obtain⟨q1,q2,q3,q4⟩:=abu hd.new hL.adY
 have tp:=q2.bi
 have gH:=tp.len
 have iL:=q2.len
 have eE:l.Ak.Aq=bk ag [] (q.2.fe.map (·.1)):=by rw[hL.book,q3]
 have hBr:∀ r∈l.Ak.Aq,df r=true:=fun r hr=>by rw[eE]at hr;exact q2.ok r ((tp.mem r).1 hr)
 have hLl:l.Ak.Aq.length<=60:=by rw[eE,gH];exact iL
 have hep:=hL.ep
 by_cases hE:l.AH=1000000
 ·refine⟨([],zL,2),?_,.inl ⟨rfl,rfl,by decide⟩⟩
  unfold Cf
  rw[cR]
  simp only[Af,BA,AX,Aj,AD hE,Al]
  rfl
 have he:ab (l.AH+1)=l.AH+1:=aV (by omega) (by omega)
 have tF:=apw (R:=List Ac×AB×Int) bg hLl hBr (e:=l.AH+1) (body:=Cf.b0 k l) (fun i r s hx=>by
  have hi:=(gS.1 hx).1
  have hH:(List.range (bD (enc r).length)).map (dR (l.AH+1) (i:Int) (bD (enc r).length) (enc r))=cD r (i:Int) (l.AH+1):=rfl
  unfold Cf.b0
  simp only
  rw[AD (show (i:Int)<(l.Ak.Aq.length:Int) by omega),Al,bC hx,Af,he,ads (show 100000<k by omega) (wi (hBr r (AW hx))),hH,Af]) (fun s=>by
  unfold Cf.b0
  simp only
  rw[AI (Int.lt_irrefl _),Aj])
 have hAl:=aej (e:=l.AH+1) hBr l.Ak.Aq.length
 have hAb:=aif (l:=l.Ak.Aq) (e:=l.AH+1) l.Ak.Aq.length
 generalize hA:oM l.Ak.Aq (l.AH+1) l.Ak.Aq.length=A at tF hAl hAb
 have har:ab (1 - l.BG)=((1 - q.1:Nat):Int):=by rw[hL.aW,aV (by omega) (by omega)];omega
 have eN:1 - q.1<=1:=by omega
 have mG:=aaf bg hd.ok
 have hd1:DB ⟨ak d.Ae d.Ad,[]⟩:=hd.sync
 generalize ak d.Ae d.Ad=P1 at mG hd1
 have eV:=aeP hk hd1 eN (u:=1) (l:=A) (by omega)
 have gq:=ace P1 (1 - q.1) 1 A A.length 0
 have kL:=hd1.more eN (u:=1) (H:=A) (by omega) hAb (by simp only[aby,BL];omega)
 simp only[aby,BL]at eV kL
 generalize eZ P1 (1 - q.1) 1 A A.length 0=w1 at eV kL
 have yZ:=aaf bg kL.ok
 have hd3:DB ⟨ak P1 w1,[]⟩:=kL.sync
 simp only at yZ
 generalize ak P1 w1=P3 at yZ hd3
 have lO:=aeP hk hd3 eN (u:=0) (l:=[cL (l.AH+1) (l.Ak.Aq.length:Int)]) (by simp)
 have kO:=ace P3 (1 - q.1) 0 [cL (l.AH+1) (l.Ak.Aq.length:Int)] [cL (l.AH+1) (l.Ak.Aq.length:Int)].length 0
 have yn:=hd3.more eN (u:=0) (H:=[cL (l.AH+1) (l.Ak.Aq.length:Int)]) (by simp) (fun x hx=>by rw[CL.1 hx];exact alC _ _) (by
  simp only[aby,BL]
  simp only[List.length_singleton]at kO ⊢
  omega)
 simp only[aby,BL]at lO yn
 generalize eZ P3 (1 - q.1) 0 [cL (l.AH+1) (l.Ak.Aq.length:Int)] [cL (l.AH+1) (l.Ak.Aq.length:Int)].length 0=w2 at lO yn
 have hs5:=aaf bg yn.ok
 have hd5:DB ⟨ak P3 w2,[]⟩:=yn.sync
 simp only at hs5
 generalize ak P3 w2=P5 at hs5 hd5
 have anX:BJ k ⟨P1,[]⟩ ((1 - q.1:Nat):Int) 1 A=some ⟨P1,w1⟩:=eV
 have anZ:BJ k ⟨P3,[]⟩ ((1 - q.1:Nat):Int) 0 [cL (l.AH+1) (l.Ak.Aq.length:Int)]=some ⟨P3,w2⟩:=lO
 refine⟨([⟨P1,[]⟩,⟨P1,w1⟩,⟨P3,[]⟩,⟨P3,w2⟩,⟨P5,[]⟩],⟨l.Ak,((1 - q.1:Nat):Int),l.AH+1,ab (1+((A.length:Nat):Int))⟩,0),?_,.inr ⟨rfl,_,_,_,_,_,rfl,hd1,kL,hd3,yn,hd5,rfl,_,q2,by rw[hL.book,q3]⟩⟩
 unfold Cf
 rw[cR]
 simp only[Af,BA,AX,Aj,AI hE,alY (show l.Ak.Aq.length<=1000 by omega),tF,mG,har,anX,yZ,he,adx (show 100<k by omega),anZ,hs5]
theorem ajl {n:Nat}{α:Type}{eq:α->α->Bool} (h:∀ x,eq x x=true) (v:Aa n α):Aa.eq eq v v=true:=by
 unfold Aa.eq
 have key:∀ l:List α,(l.zip l).all (fun p=>eq p.1 p.2)=true:=by
  intro l
  induction l with
  |nil=>rfl
  |cons x l ih=>rw[List.zip_cons_cons,List.all_cons,h,ih];rfl
 exact key v.l
theorem aqT {n:Nat} (v:Aa n Int):Aa.eq (fun(x y:Int)=>decide (x=y)) v v=true:=ajl (eq:=fun(x y:Int)=>decide (x=y)) (fun x=>by simp) v
theorem ajk {n m:Nat} (v:Aa n (Aa m Int)):Aa.eq (Aa.eq fun(x y:Int)=>decide (x=y)) v v=true:=ajl (fun x=>aqT x) v
theorem z8 {k:Nat} (hk:10000000<k) {d:Ac} (h1:d.Ae.length<=1000) (h2:d.Ad.length<=2000):AS k d d=some true:=by
 unfold AS
 simp only[BA,Al]
 have w1:=qI (l:=d.Ae) (body:=AS.b0 k d d) (fun i s=>(s,i)) (fun s x=>true) (fun i s=>s=true) (by omega) (k:=k) (by omega) (s0:=true) rfl (fun i x s hx hs=>by
  have hi:=(gS.1 hx).1
  subst hs
  refine⟨?_,rfl⟩
  unfold AS.b0
  have hv:Aa.eq (Aa.eq fun(x y:Int)=>decide (x=y)) x x=true:=ajk _
  simp only[AD (show (i:Int)<(d.Ae.length:Int) by omega),Al,bC hx,Af,hv]) (fun s hs=>by
  unfold AS.b0
  simp only[(by simp:decide ((d.Ae.length:Int)<(d.Ae.length:Int))=false),Aj])
 rw[w1.1]
 have e1:d.Ae.foldl (fun(s:Bool) x=>true) true=true:=w1.2
 simp only[Af,e1]
 have w2:=qI (l:=d.Ad) (body:=AS.b1 k d d) (fun i s=>(s,i)) (fun s x=>true) (fun i s=>s=true) (by omega) (k:=k) (by omega) (s0:=true) rfl (fun i x s hx hs=>by
  have hi:=(gS.1 hx).1
  subst hs
  refine⟨?_,rfl⟩
  unfold AS.b1
  have hv:Aa.eq (Aa.eq fun(x y:Int)=>decide (x=y)) x.AE x.AE=true:=ajk _
  simp only[AD (show (i:Int)<(d.Ad.length:Int) by omega),Al,bC hx,Af,hv,BA,Bool.and_self]) (fun s hs=>by
  unfold AS.b1
  simp only[(by simp:decide ((d.Ad.length:Int)<(d.Ad.length:Int))=false),Aj])
 rw[w2.1]
 have e2:d.Ad.foldl (fun(s:Bool) x=>true) true=true:=w2.2
 simp only[Af,e2]
theorem aiH {k:Nat} (hk:10000000<k) {l:AB} (hl:l.Ak.Aq.length<=1000):DV k l l=some true:=by
 unfold DV
 rw[aqb hk hl]
 simp only[Af,Al,BA]
structure Jn (d:Ac) (l:AB):Prop where
 db:DB d
 book:∃ L,Cv L/\l.Ak=⟨bk ag [] L⟩
theorem Jn.len {d:Ac}{l:AB} (h:Jn d l):l.Ak.Aq.length<=60:=by
 obtain⟨L,h1,h2⟩:=h.book
 have:=h1.bi.len
 have:=h1.len
 rw[h2];simp only;omega
theorem Jn.hh {d:Ac}{l:AB} (h:Jn d l):∀ r∈l.Ak.Aq,jk r:=by
 obtain⟨L,h1,h2⟩:=h.book
 rw[h2];exact h1.hh
theorem aoS {k:Nat} (hk:10000000<k):EZ k=some (⟨jM,[]⟩,⟨⟨[]⟩,0,1,1⟩):=by
 have hm:lW 602 64 ((Aa.rep 2 ((Aa.rep 32 (0:Int)):(Aa 32 Int))):(Aa 2 (Aa 32 Int)))=some (List.replicate 602 pz):=by
  unfold lW mk?
  rw[if_pos (by decide)]
  rfl
 have hl:(List.replicate 602 pz).length=602:=CS
 have h0:(List.replicate 602 pz)[0]?=some pz:=by rw[List.getElem?_replicate];rfl
 have ha:at? (List.replicate 602 pz) 0=some pz:=bC h0
 have hp0:pz.at? 0=some hz:=rfl
 unfold EZ
 rw[hm]
 simp only[Af,adx (show 100<k by omega),ha,hp0]
 unfold dL
 rw[if_pos (by rw[hl];decide)]
 rfl
theorem amv {k:Nat} (hk:10000000<k) {d:Ac}{l:AB} (h:Jn d l) (y:Bx) (hp:y.Dm.length<=4611686018427387904):∃ z,E8 k d l y=some z/\Jn z.1 z.2:=by
 have bg:1000000<k:=by omega
 have hlen:=h.len
 unfold E8
 rw[mN k y.Kind (m:=8) (by decide) (by decide)]
 simp only[Af]
 by_cases c5:y.Kind % 8=5
 ·simp only[AD c5,Al,aaf bg h.db.ok,Af]
  exact⟨_,rfl,h.db.sync,h.book⟩
 ·simp only[AI c5,Aj]
  by_cases c6:y.Kind % 8=6
  ·simp only[AD c6,Al]
   obtain⟨z,h1,h2⟩:=apv hk h.db l (by omega)
   rw[h1]
   simp only[Af]
   rcases h2 with ⟨_,_,h3⟩|⟨h3,d1,d2,d3,d4,d5,h4,_,_,_,_,h5,h6,h7⟩
   ·simp only[AI h3,Aj]
    exact⟨_,rfl,h⟩
   ·rw[h4]
    simp only[h3,BA,Al]
    have:at? [d1,d2,d3,d4,d5] (ab (((5:Nat):Int) - 1))=some d5:=rfl
    simp only[Az,Ay,Cq,Nat.reduceAdd,this,Af]
    exact⟨_,rfl,h5,by simp only[h6];exact h7⟩
  ·simp only[AI c6,Aj]
   by_cases c7:y.Kind % 8=7
   ·simp only[AD c7,Al]
    obtain⟨p,h1,h2⟩:=af4 bg h.db y.Dm hp
    rw[af3 hk h.db,h1]
    simp only[Af]
    obtain⟨z,_,h3,h4⟩:=aib hk h2
    rw[h3]
    simp only[Af]
    rcases h4 with (rfl|rfl)|⟨h5,h6,h7⟩
    ·exact⟨_,rfl,h⟩
    ·exact⟨_,rfl,h⟩
    ·simp only[h5,BA,Al]
     refine⟨_,rfl,?_,h7⟩
     rw[h6]
     exact h2.sync
   ·simp only[AI c7,Aj]
    obtain⟨r,h1,_⟩:=ap1 bg (show l.Ak.Aq.length<=100 by omega) h.hh y.Ab
    obtain⟨z,_,h3,h4⟩:=akZ hk h.db l (by omega) r
    rw[h1]
    simp only[Af,h3]
    rcases h4 with ⟨_,_,h5⟩|⟨h5,h6,h7⟩
    ·simp only[AI h5,Aj]
     exact⟨_,rfl,h⟩
    ·simp only[h5,BA,Al]
     exact⟨_,rfl,h6,h7⟩
theorem aow {k:Nat} (hk:10000000<k) (l0:List Bx) (hp:∀ y∈l0,y.Dm.length<=4611686018427387904):∃ z,BV k l0=some z/\Jn z.1 z.2:=by
 have dw:Jn ⟨jM,[]⟩ ⟨⟨[]⟩,0,1,1⟩:=⟨Jr.new.db,[],⟨by simp,trivial,by simp⟩,rfl⟩
 have key:∀ (n i m:Nat) (d:Ac) (l:AB),i+n=12->n<m->Jn d l->∃ z,aj (BV.b0 k l0) m (d,l,(i:Int))=some (.brk z)/\Jn z.1 z.2:=by
  intro n
  induction n with
  |zero=>
   intro i m d l g1 g2 g3
   obtain⟨m,rfl⟩:∃ q,m=q+1:=⟨m - 1,by omega⟩
   have hb:BV.b0 k l0 (d,l,(i:Int))=some (.brk (d,l)):=by
    unfold BV.b0
    simp only[AI (show ¬ (i:Int)<12 by omega),Aj]
    cases decide ((i:Int)<(l0.length:Int))<;>rfl
   exact⟨(d,l),by simp only[aj,hb],g3⟩
  |succ n ih=>
   intro i m d l g1 g2 g3
   obtain⟨m,rfl⟩:∃ q,m=q+1:=⟨m - 1,by omega⟩
   by_cases hi:i<l0.length
   ·have hx:l0[i]?=some l0[i]:=gG hi
    obtain⟨z,h1,h2⟩:=amv hk g3 l0[i] (hp _ (List.getElem_mem hi))
    have zb:ab ((i:Int)+1)=((i+1:Nat):Int):=by rw[aV (by omega) (by omega)];omega
    have hb:BV.b0 k l0 (d,l,(i:Int))=some (.next (z.1,z.2,((i+1:Nat):Int))):=by
     unfold BV.b0
     simp only[AD (show (i:Int)<(l0.length:Int) by omega),AD (show (i:Int)<12 by omega),Al,bC hx,Af,h1,zb]
    obtain⟨y,h3,h4⟩:=ih (i+1) m z.1 z.2 (by omega) (by omega) h2
    exact⟨y,by simp only[aj,hb,h3],h4⟩
   ·have hb:BV.b0 k l0 (d,l,(i:Int))=some (.brk (d,l)):=by
     unfold BV.b0
     simp only[AI (show ¬ (i:Int)<(l0.length:Int) by omega),Aj]
    exact⟨(d,l),by simp only[aj,hb],g3⟩
 obtain⟨z,h1,h2⟩:=key 12 0 k ⟨jM,[]⟩ ⟨⟨[]⟩,0,1,1⟩ (by omega) (by omega) dw
 unfold BV
 rw[aoS hk]
 rw[CT]at h1
 simp only[Af,h1]
 exact⟨z,rfl,h2⟩
theorem aji {n:Nat}{α:Type} (v:Aa n α) {i:Int} (h0:0<=i) (h1:i<n):∃ x,v.at? i=some x/\x∈v.l:=by
 unfold Aa.at?
 have hl:=v.h
 have ae:i.toNat<v.l.length:=by omega
 rw[if_pos ⟨h0,h1⟩,gG ae]
 exact⟨_,rfl,List.getElem_mem ae⟩
theorem ahU {n:Nat}{α:Type}{v:Aa n α}{i:Int}{x y:α} (h:y∈(v.set i x).l):y∈v.l\/y=x:=by
 unfold Aa.set at h
 exact List.mem_or_eq_of_mem_set h
theorem aoh (k:Nat) {P:List AE} (hP:P.length=602) (hb:Bp P) (s:Ba):∃ P',abp k P s=some P'/\P'.length=602/\Bp P':=by
 have B1:=oG s.AE (m:=602) (by decide)
 have B2:=oG s.DD (m:=2) (by decide)
 have B3:=oG s.At (m:=32) (by decide)
 unfold abp
 rw[mN k s.AE (m:=602) (by decide) (by decide),mN k s.DD (m:=2) (by decide) (by decide),mN k s.At (m:=32) (by decide) (by decide)]
 simp only[Af]
 have ae:(s.AE % 602).toNat<P.length:=by omega
 have hx:P[(s.AE % 602).toNat]?=some P[(s.AE % 602).toNat]:=gG ae
 have ha:at? P (s.AE % 602)=some P[(s.AE % 602).toNat]:=by
  have:=bC hx
  rw[Int.toNat_of_nonneg B1.1]at this
  exact this
 obtain⟨h,h1,h2⟩:=aji P[(s.AE % 602).toNat] (i:=s.DD % 2) B2.1 B2.2
 obtain⟨m0,m1,m2⟩:=aji h (i:=s.At % 32) B3.1 B3.2
 rw[ha]
 simp only[Af,h1,m1]
 refine⟨_,rfl,by rw[C3];exact hP,fun g hg x hx=>?_⟩
 rcases List.mem_or_eq_of_mem_set hg with e|e
 ·exact hb g e x hx
 ·subst e
  rcases ahU hx with e|e
  ·exact hb _ (List.getElem_mem ae) x e
  ·subst e
   intro y hy
   rcases ahU hy with e|e
   ·exact hb _ (List.getElem_mem ae) h h2 y e
   ·subst e
    have:=qJ s.CG
    omega
theorem ahy (k:Nat):∀ (l:List Ba) {P:List AE},P.length=602->Bp P->∃ P',rH k P l=some P'/\P'.length=602/\Bp P'
 |[],P,h1,h2=>⟨P,rfl,h1,h2⟩
 |s::l,P,h1,h2=>by
  obtain⟨Q,q1,q2,q3⟩:=aoh k h1 h2 s
  obtain⟨R,r1,r2,r3⟩:=ahy k l q2 q3
  exact⟨R,by rw[rH,q1];exact r1,r2,r3⟩
theorem aof {k:Nat} (hk:10000000<k) (l0:List Bx) (hp:∀ y∈l0,y.Dm.length<=4611686018427387904) (cm:List Ba) (hs:cm.length<=4611686018427387904) (cut:Int):∃ d,EY k l0 cm cut=some d/\DB d:=by
 obtain⟨z,h1,h2⟩:=aow hk l0 hp
 obtain⟨g1,g2,g3⟩:=gk.1 h2.db.ok
 obtain⟨P,p1,p2,p3⟩:=ahy k (cm.take 6) g1 h2.db.pb
 unfold EY
 rw[if_pos hs,h1]
 simp only[Af,p1]
 have full:DB ⟨P,z.1.Ad⟩:=⟨gk.2 ⟨p2,g2,g3⟩,p3,h2.db.wb⟩
 by_cases c1:0<cut
 ·simp only[AD c1,Al]
  by_cases c2:(0:Int)<(z.1.Ad.length:Int)
  ·have hw:ab ((z.1.Ad.length:Int)+1)=(z.1.Ad.length:Int)+1:=aV (by omega) (by omega)
   have B:=oG cut (m:=(z.1.Ad.length:Int)+1) (by omega)
   have lO:ab ((z.1.Ad.length:Int) - cut % ((z.1.Ad.length:Int)+1))=(z.1.Ad.length:Int) - cut % ((z.1.Ad.length:Int)+1):=aV (by omega) (by omega)
   simp only[AD c2,Al,hw,mN k cut (m:=(z.1.Ad.length:Int)+1) (by omega) (by omega),Af,lO]
   have hh:nr z.1.Ad.length ((z.1.Ad.length:Int) - cut % ((z.1.Ad.length:Int)+1))=some ():=by unfold nr;rw[if_pos (by omega)]
   rw[hh]
   refine⟨_,rfl,gk.2 ⟨p2,?_,fun w hw=>g3 w (BY hw)⟩,p3,fun w hw=>h2.db.wb w (BY hw)⟩
   simp only[Bb];omega
  ·simp only[AI c2,Aj]
   exact⟨_,rfl,full⟩
 ·simp only[AI c1,Aj]
  exact⟨_,rfl,full⟩
def Dl (d:Ac):Prop:=DB d\/(d.Ae.length=601/\d.Ad.length<=1200)
theorem amg {k:Nat} (hk:10000000<k) (x0:Cr) (hp:∀ y∈x0.D0,y.Dm.length<=4611686018427387904) (hs:x0.Eg.length<=4611686018427387904):∃ d,ET k x0=some d/\Dl d:=by
 obtain⟨d,h1,h2⟩:=aof hk x0.D0 hp x0.Eg hs x0.Cut
 obtain⟨g1,g2,g3⟩:=gk.1 h2.ok
 unfold ET
 rw[h1]
 simp only[Af]
 cases hc:x0.Fs with
 |false=>exact⟨d,rfl,.inl h2⟩
 |true=>
  have e1:cw d.Ae 1 d.Ae.length=some ((d.Ae.drop 1).take (d.Ae.length - 1)):=by
   unfold cw
   rw[if_pos (by omega)]
   congr 2
  have e2:((d.Ae.drop 1).take (d.Ae.length - 1)).length=601:=by
   rw[Bb,Bi];omega
  have e3:fp ((d.Ae.drop 1).take (d.Ae.length - 1)).length 64=some ():=by
   rw[e2];unfold fp;rw[if_pos (by decide)]
  simp only[Al,e1,Af,e3]
  exact⟨_,rfl,.inr ⟨e2,g2⟩⟩
section
variable {k:Nat}{d:Ac}
theorem aeD (h:d.Ae.length=601):jy d=false:=by
 cases hc:jy d with
 |false=>rfl
 |true=>have:=(gk.1 hc).1;omega
theorem aeE (h:d.Ae.length=601):BZ k d=some false:=by
 unfold BZ
 simp only[AI (show ¬ (d.Ae.length:Int)=602 by omega),Aj]
theorem abT (h:d.Ae.length=601) (hw:d.Ad.length<=1200):mm k d=some ⟨d⟩/\Dp k d=some d:=by
 refine⟨afZ ⟨by omega,by omega⟩,?_⟩
 unfold Dp fp
 rw[if_pos ⟨by omega,by omega⟩,if_pos ⟨by omega,by omega⟩]
 rfl
theorem Dl.same (hk:10000000<k) (h:Dl d):AS k d d=some true:=by
 rcases h with h|⟨h,hw⟩
 ·obtain⟨g1,g2,_⟩:=gk.1 h.ok
  exact z8 hk (by omega) (by omega)
 ·exact z8 hk (by omega) (by omega)
theorem apd (hk:10000000<k) (h:Dl d):∃ y,lr k d=some y/\C1 k d=some y/\AS k y.1 y.1=some true/\DV k y.2.1 y.2.1=some true:=by
 have zd:AS k ⟨[],[]⟩ ⟨[],[]⟩=some true:=z8 hk (by simp) (by simp)
 have zl:DV k ⟨⟨[]⟩,0,0,0⟩ ⟨⟨[]⟩,0,0,0⟩=some true:=aiH hk (by simp)
 rcases h with h|⟨h,hw⟩
 ·obtain⟨y,h1,h2,h3⟩:=aib hk h
  refine⟨y,h1,h2,?_⟩
  rcases h3 with (rfl|rfl)|⟨_,h4,L,h5,h6⟩
  ·exact⟨zd,zl⟩
  ·exact⟨zd,zl⟩
  ·have hl:=h.len
   have hb:=h5.bi.len
   have jf:=h5.len
   rw[h4]
   exact⟨z8 hk (by simp only;omega) (by simp),aiH hk (by rw[h6];simp only;omega)⟩
 ·refine⟨(⟨[],[]⟩,⟨⟨[]⟩,0,0,0⟩,94),?_,?_,zd,zl⟩
  ·unfold lr
   rw[mK (show 1000000<k by omega),aeD h]
   rfl
  ·unfold C1
   rw[aeE h]
   rfl
theorem aqx (hk:10000000<k) (h:Dl d):∃ y,sJ k d=some y/\C5 k d=some y/\AS k y y=some true:=by
 have bg:1000000<k:=by omega
 rcases h with h|⟨h,hw⟩
 ·have hl:=h.len
  exact⟨_,aqw bg h.ok,aaf bg h.ok,z8 hk (by simp only;omega) (by simp)⟩
 ·refine⟨d,?_,?_,Dl.same hk (.inr ⟨h,hw⟩)⟩
  ·unfold sJ
   rw[(abT h hw).1,mK bg,aeD h]
   rfl
  ·unfold C5
   rw[aeE h]
   simp only[Af,Bj,Al,(abT h hw).2]
theorem al1 (hk:10000000<k) (h:Dl d) (dx:List Int) (hp:dx.length<=4611686018427387904):∃ y,aX k d dx=some y/\BB k d dx=some y/\AS k y y=some true:=by
 have bg:1000000<k:=by omega
 rcases h with h|⟨h,hw⟩
 ·obtain⟨p,h1,h2⟩:=af4 bg h dx hp
  exact⟨_,h1,(af3 hk h dx).trans h1,Dl.same hk (.inl h2)⟩
 ·refine⟨d,?_,?_,Dl.same hk (.inr ⟨h,hw⟩)⟩
  ·unfold aX
   rw[(abT h hw).1,mK bg,aeD h]
   rfl
  ·unfold BB
   rw[aeE h]
   simp only[Af,Bj,Al,(abT h hw).2]
end
theorem alc (x0:Cr) (cd:List Int) (hp:∀ y∈x0.D0,y.Dm.length<=4611686018427387904) (hs:x0.Eg.length<=4611686018427387904) (hq:cd.length<=4611686018427387904):ES 18446744073709551616 x0 cd=some true:=by
 have hk:10000000<18446744073709551616:=by decide
 obtain⟨d,h1,h2⟩:=amg hk x0 hp hs
 obtain⟨a,a1,a2,a3,a4⟩:=apd hk h2
 obtain⟨b,b1,b2,b3⟩:=aqx hk h2
 obtain⟨c,c1,c2,c3⟩:=al1 hk h2 cd hq
 unfold ES
 rw[aqd,h1]
 simp only[Af,a1,a2,a3,a4,b1,b2,b3,c1,c2,c3,Al,BA]
end Go.Abs
namespace Go.Proofs.Ytpgccpdlilnakaa.bookDisks
open Go.Abs
theorem plain (a0:Go.Abs.Cr) (a1:(List Int)):Go.Abs.Cr.q a0->(fun l=>l.length<=Go.maxLen/\l.length*8<=qB/\∀ a∈l,kR a) a1->∃ k,ES k a0 a1=some true:=by
 intro q0 q1;exact⟨_,alc a0 a1 (fun y hy=>by have h:=(q0.1.2.2 y hy).2.2.2.1;have:=aer;omega) (by have h:=q0.2.1.2.1;have:=aer;omega) (by have h:=q1.2.1;have:=aer;omega)⟩
end Go.Proofs.Ytpgccpdlilnakaa.bookDisks
namespace Go.Proofs.Ytpgccpdlilnakaa.bookDisks
open Go.ChangeShapes Go.WideShapes Go.ChangeAt Go.RowKit Go.Abs
theorem own:ownKnob Try.prog.godebug=none:=by kernel_rfl
theorem alX (H:Type) (enc:TypeId×Value->H) (W:World) (base:Nat) (args:Array Value) (ds gs:List (DataW H)) (before:List MemPlace)
  (qf:∀ (j:Nat) t v,Try.f6.params[j]?=some t->args[j]?=some v->Value.okWide Try.prog W .any base t v)
  (hW:DataW.Whole enc Try.prog Try.f6.params.toList Rows.bookDisksSpec.vars false W args.toList ds gs before) (anR:(DataW.weightsEach Try.prog (Try.f6.params.toList++Rows.bookDisksSpec.plain.varTypes Try.prog) (ds++gs)).all (·<=reachBytes)=true):
  Calls Try.prog 6 args W fun e W'=>∃ v,e=.returned v/\Rows.bookDisksSpec.post enc Try.prog Try.f6 false true false false W args v W':=by
 have hW':=hW
 obtain⟨p,q,hA0,hV,rfl,nj,bW⟩:=hW
 have hA:DataW.TrodAll enc Try.prog W 0 (fun _=>true) true Try.f6.params.toList args.toList ds p:=hA0
 rw[Try.params6]at hA qf
 obtain⟨v0,vs0,d0,ds0,p0,q0,fk,rfl,rfl,h0,r0⟩:=trodAll_cons hA
 obtain⟨v1,vs1,d1,ds1,p1,q1,rfl,rfl,rfl,h1,r1⟩:=trodAll_cons r0
 obtain⟨rfl,rfl,rfl⟩:=trodAll_nil r1
 have aw:∀ (j:Nat) t d,Try.f6.params.toList[j]?=some t->[d0,d1][j]?=some d->∀ n∈d.weights Try.prog t,n<=reachBytes:=aqZ (by rw[Try.params6];rfl) anR
 rw[Try.params6]at aw
 obtain rfl:args=#[v0,v1]:=by cases args;simp_all
 obtain⟨a0,Q0,V0⟩:=ak3 apU (by have h:=qf 0 36 v0 rfl rfl;unfold Value.okWide at h;rw[Try.underlying36]at h;obtain⟨cs,h,_⟩:=h;exact⟨cs,h⟩) h0 (aw 0 36 d0 rfl rfl)
 obtain⟨a1,Q1,V1⟩:=ak4 aiu (by have h:=qf 1 63 v1 rfl rfl;unfold Value.okWide at h;rw[Try.underlying63]at h;unfold Cell.okWide Cell.ok at h;rw[Try.underlying63]at h;cases v1<;>first|rfl|(simp at h;done)) (fun l=>AV.sl 1 (List.map eI l)) (fun _=>rfl) h1 (aw 1 63 d1 rfl rfl)
 obtain⟨k,hk⟩:=plain a0 a1 Q0 Q1
 have hv:Au (nX W) [] [.agg (Go.Abs.Cr.c a0),.sl 1 (List.map eI a1)] [v0,v1]:=⟨rfl,fun i x v h1 h2=>by
  match i with
  |0=>cases h1;cases h2;exact V0
  |1=>cases h1;cases h2;exact V1
  |i+2=>simp at h1⟩
 refine Calls.mono ((Is k a0 a1 true hk).2 (nX W) W _ (fun _ _ _ h=>h) hv) ?_
 rintro e W1 ⟨v,y,dU,rfl,rfl,_,bq,_,hB⟩
 cases bq
 exact⟨_,rfl,aoB (t:=4) (by kernel_rfl) (by kernel_rfl) (by kernel_rfl) hW' rfl hB (by rw[Try.params6];decide +kernel) rfl Try.underlying4 (by obtain⟨rfl,_⟩:=trodVars_none hV;rfl)⟩
theorem lifted (os:Os) (started:os.Started) (H:Type) (enc:TypeId×Value->H):
  ReturnsInHanded {} Try.checked os 6 .any (Rows.bookDisksSpec.pre6 enc Try.prog Try.f6 Rows.bookDisksRow.domain false) (Rows.bookDisksSpec.post enc Try.prog Try.f6 false true false false):=by
 refine returnsInHanded_of_change_sized (C:=Try.checked) own started (by kernel_rfl) Try.func6
  (ChangeSpec.witness6 (enc:=enc) (C:=Try.checked) false ⟨#[],#[.agg #[.slice none 0 0,.slice none 0 0,.int .i64 0,.bool false],.slice none 0 0],[]⟩ 8 (by kernel_rfl) (by kernel_rfl) (by kernel_rfl) (by kernel_rfl)) ?_
 intro W base args ds gs before anW hW arF aw _
 exact alX H enc W base args ds gs before anW hW aw
theorem apm:Rows.bookDisksRow.holds Try.pinned (OpenSpec.ofChange Rows.bookDisksSpec):=
 OpenClaim.holds_of_wide 6 Try.f6 rfl rfl rfl rfl rfl rfl rfl ⟨rfl,rfl,rfl,rfl,rfl⟩ rfl rfl rfl rfl rfl (by kernel_rfl) Try.func6 (by kernel_rfl)
  (of_decide_eq_true (by kernel_rfl)) (by unfold Func.isWrapper;first|(rw[if_pos (by decide +kernel)];kernel_rfl)|(rw[if_neg (by decide +kernel)];exact⟨rfl,rfl⟩))
  (fun os started H enc _=>lifted os started H enc)
theorem proved:Rows.BookDisksSaid:=apm
end Go.Proofs.Ytpgccpdlilnakaa.bookDisks
