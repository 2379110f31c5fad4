/-
  Part 6 of the proof: a machine over named blocks, what each function computes, and what follows. No condition.
-/
import Derived.Test.YtpgccpdlilnakaaRows
import Derived.WalkKit
import Derived.ProofKit
import Derived.OpenShut
import Derived.JoinedCond
import Derived.Test.YtpgccpdlilnakaaBAppendsE
set_option linter.unusedVariables false
set_option linter.unusedSimpArgs false
set_option linter.all false
set_option maxRecDepth 100000
set_option maxHeartbeats 8000000
namespace Go.Abs
open Go Go.Proofs
section
variable {α:Type} (key:α->Int×Int)
theorem HO:∀ {l:List α}{c:Int->Int},VL key c l↔∀ (i:Nat) x,l[i]?=some x->(key x).2=c (key x).1+ax key (l.take i) (key x).1
 |[],c=>by simp[VL]
 |y::l,c=>by
  unfold VL
  rw[HO (l:=l)]
  constructor
  ·rintro⟨h1,h2⟩ i x hx
   cases i with
   |zero=>cases hx;rw[h1];simp[sO]
   |succ i=>
    rw[Cb]at hx
    rw[h2 i x hx,List.take_succ_cons,nS]
    by_cases e:(key x).1=(key y).1
    ·rw[if_pos e,if_pos e.symm];simp only[e];omega
    ·rw[if_neg e,if_neg (Ne.symm e)];omega
  ·intro h
   refine⟨?_,fun i x hx=>?_⟩
   ·have:=h 0 y rfl
    simpa [sO] using this
   ·have:=h (i+1) x (by rw[Cb];exact hx)
    rw[this,List.take_succ_cons,nS]
    by_cases e:(key x).1=(key y).1
    ·rw[if_pos e,if_pos e.symm];simp only[e];omega
    ·rw[if_neg e,if_neg (Ne.symm e)];omega
end
theorem aeu {k:Nat} (hk:100<k) {l:List Int} (hb:AY l) (hl:l.length<=5):BJ k l=some (bl l):=by
 unfold BJ
 rw[ain hb hl (k:=k) (by omega) (fun i x s hx=>by
  have hi:=(gS.1 hx).1
  unfold BJ.b0
  simp only[AD (show (i:Int)<(l.length:Int) by omega),Am,bC hx,Af]) (fun s=>by
  unfold BJ.b0
  simp only[(by simp:decide ((l.length:Int)<(l.length:Int))=false),Aj])]
 rfl
def nC:Ab:=⟨⟨0,0⟩,0,0,0,⟨0,0⟩,ByteArray.empty⟩
def decode (b:List Int):Ab×Int:=match gD b with
 |some (r,[])=>bif cZ r then (r,0) else (nC,90)
 |_=>(nC,90)
theorem sj {l:List Int}{i j:Nat} (h1:i<=j) (h2:j<=l.length):bY l (i:Int) (j:Int)=some ((l.drop i).take (j - i)):=by
 unfold bY
 rw[if_pos (by omega),Cl,Cl]
theorem amb {k:Nat} (hk:1000<k) {b:List Int} (hb:AY b) (hlen:b.length<=4611686018427387904):Ee k b=some (decode b):=by
 unfold Ee decode gD
 by_cases je:b.length<16
 ·rw[if_pos je]
  have:decide ((b.length:Int)<(16:Int))=true:=by simp;omega
  simp only[this,AX,Aj]
  rfl
 ·rw[if_neg je]
  have hx:b[15]?=some (b[15]'(by omega)):=gG (by omega)
  have hM:cj b=b[15]'(by omega):=by
   unfold cj
   rw[List.drop_eq_getElem_cons (show 15<b.length by omega)]
   exact aio _
  have hM0:=hb _ (AW hx)
  rw[<-hM]at hM0
  have e1:decide ((b.length:Int)<(16:Int))=false:=by simp;omega
  have e2:ab (16+(ab (cj b)))=16+cj b:=by
   rw[aV (n:=cj b) (by omega) (by omega),aV (by omega) (by omega)]
  have jg:at? b 15=some (cj b):=by
   have:=bC hx
   rw[hM];exact this
  simp only[e1,Bs,Am,jg,Af,e2]
  by_cases ae:(b.length:Int)<16+cj b
  ·rw[if_pos ae]
   have:decide ((b.length:Int)=16+cj b)=false:=by simp;omega
   simp only[this,Bs,Am]
   rfl
  ·rw[if_neg ae]
   by_cases he:(b.length:Int)=16+cj b
   ·have s1:bY b 0 1=some (b.take 1):=sj (i:=0) (j:=1) (by omega) (by omega)
    have s2:bY b 1 3=some ((b.drop 1).take 2):=sj (i:=1) (j:=3) (by omega) (by omega)
    have s3:bY b 3 4=some ((b.drop 3).take 1):=sj (i:=3) (j:=4) (by omega) (by omega)
    have s4:bY b 4 8=some ((b.drop 4).take 4):=sj (i:=4) (j:=8) (by omega) (by omega)
    have s5:bY b 8 12=some ((b.drop 8).take 4):=sj (i:=8) (j:=12) (by omega) (by omega)
    have s6:bY b 12 13=some ((b.drop 12).take 1):=sj (i:=12) (j:=13) (by omega) (by omega)
    have s7:bY b 13 15=some ((b.drop 13).take 2):=sj (i:=13) (j:=15) (by omega) (by omega)
    have s8:bY b 16 (b.length:Int)=some (b.drop 16):=by
     have:=sj (l:=b) (i:=16) (j:=b.length) (by omega) (by omega)
     rw[CB (by rw[Bi];omega)]at this
     exact this
    have R:∀ (i n:Nat),n<=5->BJ k ((b.drop i).take n)=some (bl ((b.drop i).take n)):=fun i n hn=>aeu (by omega) ((hb.drop i).take n) (by rw[A9];omega)
    have R0:BJ k (b.take 1)=some (bl (b.take 1)):=aeu (by omega) (hb.take 1) (by rw[A9];omega)
    have ed:decide ((b.length:Int)=16+cj b)=true:=AD he
    have rv:(⟨(⟨bl (b.take 1),bl ((b.drop 1).take 2)⟩:Entry),bl ((b.drop 3).take 1),bl ((b.drop 4).take 4),bl ((b.drop 8).take 4),(⟨bl ((b.drop 12).take 1),bl ((b.drop 13).take 2)⟩:Entry),strOf (b.drop 16)⟩:Ab)=xC b ((b.drop 16).take (cj b).toNat):=by
     rw[CB (l:=b.drop 16) (i:=(cj b).toNat) (by rw[Bi];omega)];rfl
    have tK:(b.drop 16).drop (cj b).toNat=[]:=Dy (by rw[Bi];omega)
    simp only[ed,AX,Aj,s1,s2,s3,s4,s5,s6,s7,s8,Af,R0,R 1 2 (by omega),R 3 1 (by omega),R 4 4 (by omega),R 8 4 (by omega),R 12 1 (by omega),R 13 2 (by omega),rv,xz hk,tK]
    cases cZ (xC b ((b.drop 16).take (cj b).toNat))<;>rfl
   ·have:decide ((b.length:Int)=16+cj b)=false:=by simp;omega
    simp only[this,Bs,Am]
    have bg:(b.drop 16).drop (cj b).toNat≠[]:=by
     intro h
     have:=congrArg List.length h
     rw[Bi,Bi]at this
     simp at this
     omega
    cases hq:(b.drop 16).drop (cj b).toNat with
    |nil=>exact absurd hq bg
    |cons x l=>rfl
theorem ahP {k:Nat} (hk:1000000<k) {l:List Ab} (hl:l.length<=100000) (hh:∀ r∈l,jm r):Ck k l=some (qX l):=by
 unfold Ck
 rw[af0 (l:=l) (body:=Ck.b0 k l) (fun i s=>(s,i)) hl hh hk (fun i r s hx=>by
  have hi:=(gS.1 hx).1
  unfold Ck.b0
  simp only[AD (show (i:Int)<(l.length:Int) by omega),Am,bC hx,Af]) (fun s=>by
  unfold Ck.b0
  simp only[(by simp:decide ((l.length:Int)<(l.length:Int))=false),Aj])]
 rfl
theorem aff (k:Nat) (a b:Entry):E5 k a b=some (decide (fA (cr a) (cr b))):=by
 unfold E5 fA cr
 by_cases h1:a.Ap<b.Ap
 ·simp[h1]
 ·by_cases h2:a.Ap=b.Ap
  ·simp[h2]
  ·simp[h1,h2]
theorem aiT {α:Type}{l:List α}{i j:Nat} (h1:i<=j) (h2:j<=l.length):bY l (i:Int) (j:Int)=some ((l.drop i).take (j - i)):=by
 unfold bY
 rw[if_pos (by omega),Cl,Cl]
theorem aqy {α:Type}{l:List α}{i:Nat} (h2:i<=l.length):bY l 0 (i:Int)=some (l.take i):=aiT (i:=0) (by omega) h2
theorem aqx {α:Type}{l:List α}{i:Nat} (h2:i<=l.length):bY l (i:Int) (l.length:Int)=some (l.drop i):=by
 have:=aiT (l:=l) (i:=i) (j:=l.length) h2 (Bd _)
 rw[CB (by rw[Bi];omega)]at this
 exact this
theorem agI {k:Nat}{l:List Ab} (hl:l.length<=100000) (hk:1000000<k) (e:Entry):
  (∃ (i:Nat) (x:Ab),BS k l e=some (i:Int)/\l[i]?=some x/\ag x=cr e)\/(BS k l e=some (-1)/\∀ x∈l,ag x≠cr e):=by
 have hc:∀ x:Ab,(decide (x.At.Ap=e.Ap)&&decide (x.At.No=e.No))=decide (ag x=cr e):=fun x=>by
  unfold ag cr
  simp only[Prod.mk.injEq]
  by_cases h1:x.At.Ap=e.Ap<;>by_cases h2:x.At.No=e.No<;>simp[h1,h2]
 have key:∀ (d i m:Nat),i+d=l.length->d<m->(∃ (j:Nat) (x:Ab),aj (BS.b0 k l e) m (i:Int)=some (.ret (j:Int))/\l[j]?=some x/\ag x=cr e)\/(aj (BS.b0 k l e) m (i:Int)=some (.brk ())/\∀ x∈l.drop i,ag x≠cr e):=by
  intro d
  induction d with
  |zero=>
   intro i m h1 h2
   obtain⟨m,rfl⟩:∃ q,m=q+1:=⟨m - 1,by omega⟩
   have e1:decide ((i:Int)<(l.length:Int))=false:=by simp;omega
   have hb:BS.b0 k l e (i:Int)=some (.brk ()):=by
    unfold BS.b0
    simp only[e1,Aj]
   right
   refine⟨by simp only[aj,hb],?_⟩
   rw[Dy (by omega)]
   intro x hx;cases hx
  |succ d ih=>
   intro i m h1 h2
   obtain⟨m,rfl⟩:∃ q,m=q+1:=⟨m - 1,by omega⟩
   obtain⟨x,hx⟩:∃ x,l[i]?=some x:=⟨_,gG (by omega)⟩
   have hw:ab ((i:Int)+1)=((i+1:Nat):Int):=by rw[aV (by omega) (by omega)];omega
   by_cases he:ag x=cr e
   ·left
    have hb:BS.b0 k l e (i:Int)=some (.ret (i:Int)):=by
     unfold BS.b0
     simp only[AD (show (i:Int)<(l.length:Int) by omega),Am,bC hx,Af,hc,AD he]
    exact⟨i,x,by simp only[aj,hb],hx,he⟩
   ·have hb:BS.b0 k l e (i:Int)=some (.next ((i+1:Nat):Int)):=by
     unfold BS.b0
     simp only[AD (show (i:Int)<(l.length:Int) by omega),Am,bC hx,Af,hc,AI he,Aj,hw]
    have vF:l.drop i=x::l.drop (i+1):=by
     have:=(gS.1 hx)
     obtain⟨h3,h4⟩:=this
     rw[List.drop_eq_getElem_cons h3,h4]
    rcases ih (i+1) m (by omega) (by omega) with ⟨j,y,g1,g2,g3⟩|⟨g1,g2⟩
    ·exact .inl ⟨j,y,by simp only[aj,hb,g1],g2,g3⟩
    ·right
     refine⟨by simp only[aj,hb,g1],fun y hy=>?_⟩
     rw[vF]at hy
     rcases BE.1 hy with rfl|hy
     ·exact he
     ·exact g2 y hy
 unfold BS
 rcases key l.length 0 k (by omega) (by omega) with ⟨j,x,h1,h2,h3⟩|⟨h1,h2⟩
 ·left
  rw[CV]at h1
  exact⟨j,x,by rw[h1];rfl,h2,h3⟩
 ·right
  rw[CV]at h1
  exact⟨by rw[h1];rfl,fun x hx=>h2 x (by simpa using hx)⟩
def eu (l:List Ab) (r:Ab):List Ab×Int:=match gE ag l (ag r) with
 |some x=>if x=r then (l,0) else ([],92)
 |none=>if (ax ag l r.At.Ap:Int)<r.At.No then ([],93) else if (l.length:Int)=60 then ([],2) else (ej ag l r,0)
theorem afY {k:Nat}{l:List Ab} (hl:l.length<=1000):Eg k l=some l:=by
 unfold Eg eW
 rw[if_pos ⟨by omega,by omega⟩];rfl
theorem alV {k:Nat}{l:List Ab} (hl:l.length<=1000):E7 k l=some l:=by
 unfold E7 eW
 rw[if_pos ⟨by omega,by omega⟩];rfl
theorem apC {k0:Nat}{l:List Ab} (hs:CD ag l) (hl:l.length<=1000) (r:Ab):∀ (d i k:Nat),pos ag l (ag r) - i<=d->d<k->i<=pos ag l (ag r)->
  aj (B9.b0 k0 l r) k (i:Int)=some (.brk ((pos ag l (ag r):Nat):Int)):=by
 have hp:=zS ag l (ag r)
 intro d
 induction d with
 |zero=>
  intro i k h1 h2 h3
  obtain⟨m,rfl⟩:∃ q,k=q+1:=⟨k - 1,by omega⟩
  have hi:i=pos ag l (ag r):=by omega
  have hb:B9.b0 k0 l r (i:Int)=some (.brk (i:Int)):=by
   unfold B9.b0
   by_cases ae:i<l.length
   ·have hx:l[i]?=some l[i]:=gG ae
    have ee:cr l[i].At=ag l[i]:=rfl
    have adC:cr r.At=ag r:=rfl
    have:=qz ag hs (ag r) hx
    simp only[AD (show (i:Int)<(l.length:Int) by omega),Am,bC hx,Af,aff,ee,adC,AI (show ¬ fA (ag l[i]) (ag r) from fun c=>by have:=this.1 c;omega),Aj]
   ·simp only[AI (show ¬ (i:Int)<(l.length:Int) by omega),Aj]
  simp only[aj,hb]
  rw[hi]
 |succ d ih=>
  intro i k h1 h2 h3
  obtain⟨m,rfl⟩:∃ q,k=q+1:=⟨k - 1,by omega⟩
  by_cases ae:i<pos ag l (ag r)
  ·have hx:l[i]?=some (l[i]'(by omega)):=gG (by omega)
   have ee:cr (l[i]'(by omega)).At=ag (l[i]'(by omega)):=rfl
   have adC:cr r.At=ag r:=rfl
   have hw:ab ((i:Int)+1)=((i+1:Nat):Int):=by rw[aV (by omega) (by omega)];omega
   have hb:B9.b0 k0 l r (i:Int)=some (.next ((i+1:Nat):Int)):=by
    unfold B9.b0
    simp only[AD (show (i:Int)<(l.length:Int) by omega),Am,bC hx,Af,aff,ee,adC,AD ((qz ag hs (ag r) hx).2 ae),hw]
   simp only[aj,hb]
   exact ih (i+1) m (by omega) (by omega) (by omega)
  ·have hi:i=pos ag l (ag r):=by omega
   exact(by
    have:=ih i (m+1) (by omega) (by omega) h3
    exact this)
theorem aaI {k:Nat} (hk:1000000<k) {l:List Ab} (hs:CD ag l) (hl:l.length<=900) (hh:∀ r∈l,jm r) {r:Ab} (hr:jm r):B9 k l r=some (eu l r):=by
 unfold B9 eu
 have ee:cr r.At=ag r:=rfl
 rcases agI (k:=k) (l:=l) (by omega) hk r.At with ⟨i,x,h1,h2,h3⟩|⟨h1,h2⟩
 ·rw[ee]at h3
  have hf:gE ag l (ag r)=some x:=by rw[<-h3];exact agF ag hs (AW h2)
  rw[h1,hf]
  simp only[Af,AD (show (0:Int)<=(i:Int) by omega),Am,bC h2]
  by_cases e:x=r
  ·subst e
   have:=aiv x
   unfold la at this
   rw[this]
   simp only[Am,afY (show l.length<=1000 by omega),Af,if_true]
  ·have:=aiu e
   unfold la at this
   rw[this]
   simp only[Aj,if_neg e]
 ·rw[ee]at h2
  have hf:gE ag l (ag r)=none:=aa7 ag h2
  rw[h1,hf]
  have hp:=zS ag l (ag r)
  have jk:=apC (k0:=k) hs (by omega) r (pos ag l (ag r)) 0 k (by omega) (by omega) (by omega)
  rw[CV]at jk
  simp only[Af,(by decide:decide ((0:Int)<=-1)=false),Aj,ahP hk (show l.length<=100000 by omega) hh,aaW _ hr.1 hr.2]
  by_cases hc:((ax ag l r.At.Ap:Nat):Int)<r.At.No
  ·simp only[AD hc,Am,if_pos hc]
  ·simp only[AI hc,Aj,if_neg hc]
   by_cases iN:(l.length:Int)=60
   ·simp only[AD iN,Am,if_pos iN]
   ·have ht:(l.take (pos ag l (ag r))).length=pos ag l (ag r):=by rw[A9];omega
    simp only[AI iN,Aj,if_neg iN,jk,Af,aqy hp,aqx hp]
    rw[afY (by omega)]
    simp only[Af]
    rw[qx (by rw[ht];omega) (by rw[ht];omega)]
    simp only[Af]
    rw[lz (by rw[A8,ht,Bi];simp;omega) (by rw[A8,ht,Bi];simp;omega)]
    simp only[Af]
    unfold ej
    simp
theorem aaJ {k:Nat} (hk:1000000<k) {b:Ai} (hs:CD ag b.Al) (hl:b.Al.length<=900) (hh:∀ r∈b.Al,jm r) (r:Ab):
  qQ k b r=some (bif cZ r then (⟨(eu b.Al r).1⟩,(eu b.Al r).2) else (⟨[]⟩,90)):=by
 unfold qQ
 rw[ahz (by omega)]
 simp only[Af]
 cases hr:cZ r with
 |false=>rfl
 |true=>
  have hho:=nB hr
  have ee:cr r.At=ag r:=rfl
  simp only[AX,Aj,Am,amJ (show 10000<k by omega) hs (show b.Al.length<=1000 by omega),Af,ee]
  unfold eu
  cases hf:gE ag b.Al (ag r) with
  |some x=>
   have hp:=agG ag hs (ag r)
   rw[hf]at hp
   have hx:b.Al[pos ag b.Al (ag r)]?=some x:=by
    cases hq:b.Al[pos ag b.Al (ag r)]? with
    |none=>rw[hq]at hp;cases hp
    |some y=>
     rw[hq]at hp
     simp only[Option.filter]at hp
     split at hp
     ·exact hp.symm
     ·cases hp
   simp only[Option.isSome_some,Am,bC hx,Af]
   by_cases e:x=r
   ·subst e
    have:=aiv x
    unfold la at this
    rw[this]
    simp only[Am,acM (show b.Al.length<=1000 by omega),Af,if_true]
   ·have:=aiu e
    unfold la at this
    rw[this]
    simp only[Aj,if_neg e]
  |none=>
   simp only[Option.isSome_none,Aj,am6 hk (show b.Al.length<=100000 by omega) hh,Af,aaW _ hho.1 hho.2]
   by_cases hc:((ax ag b.Al r.At.Ap:Nat):Int)<r.At.No
   ·simp only[AD hc,Am,if_pos hc]
   ·simp only[AI hc,Aj,if_neg hc]
    by_cases iN:(b.Al.length:Int)=60
    ·simp only[AD iN,Am,if_pos iN]
    ·simp only[AI iN,Aj,if_neg iN,afO (show b.Al.length<=1000 by omega),Af,aol (show b.Al.length<=1000 by omega)]
theorem take_at {α:Type}{l:List α}{i:Nat}{x:α} (h:l[i]?=some x):l.take (i+1)=l.take i++[x]:=by
 rw[List.take_add_one,h];rfl
theorem aiG {k:Nat} (hk:10000000<k) {a b:List Ab} (hl:a.length<=1000):∃ c:Bool,B8 k a b=some c/\(c=true↔a=b):=by
 unfold B8
 by_cases vw:a.length=b.length
 ·obtain⟨c,h1,h2⟩:=aqf (body:=B8.b0 k a b) (eq:=la) vw (by omega) (fun x y=>wi) hk (fun i x y hx hy=>by
   have hi:=(gS.1 hx).1
   unfold B8.b0 la
   simp only[AD (show (i:Int)<(a.length:Int) by omega),Am,bC hx,bC hy,Af]) (fun i hi=>by
   unfold B8.b0
   by_cases h:(i:Int)<(a.length:Int)<;>simp[h]) (by
   unfold B8.b0
   simp only[(by simp:decide ((a.length:Int)<(a.length:Int))=false),Aj])
  refine⟨c,?_,h2⟩
  have hd:decide ((a.length:Int)=(b.length:Int))=true:=by simp[vw]
  rw[hd,h1]
  rfl
 ·refine⟨false,?_,?_⟩
  ·have hd:decide ((a.length:Int)=(b.length:Int))=false:=by simp;omega
   obtain⟨m,rfl⟩:∃ q,k=q+1:=⟨k - 1,by omega⟩
   have:B8.b0 (m+1) a b (false,0)=some (.brk false):=by
    unfold B8.b0
    by_cases h:(0:Int)<(a.length:Int)<;>simp[h]
   rw[hd]
   simp only[aj,this]
   rfl
  ·constructor
   ·intro h;cases h
   ·rintro rfl;exact absurd rfl vw
theorem aqe {k:Nat} (hk:10000000<k) {a:Ai} (hl:a.Al.length<=1000):E4 k a a=some true:=by
 obtain⟨c,h1,h2⟩:=aiG hk (a:=a.Al) (b:=a.Al) hl
 unfold E4
 rw[h1,h2.2 rfl];rfl
theorem mb (k:Nat) (n:Int) {m:Int} (h0:0<m) (h1:m<=4611686018427387904):B7 k n m=some (n % m):=by
 unfold B7 oJ
 rw[if_neg (by omega)]
 simp only[Af]
 have b1:Int.tmod n m<m:=Int.tmod_lt_of_pos n h0
 have b2:-m<Int.tmod n m:=by
  rcases Int.le_total 0 n with h|h
  ·have:=Int.tmod_nonneg m h
   omega
  ·have:=Int.tmod_lt_of_pos (-n) h0
   rw[Int.neg_tmod]at this
   omega
 have e1:Int.tmod n m % m=n % m:=by
  have:=Int.mul_tdiv_add_tmod n m
  rw[<-this,Int.add_comm,Int.add_mul_emod_self_left]
  congr 1
  have e:=Int.mul_tdiv_add_tmod n m
  rw[Int.add_comm]at e
  rw[e]
 rw[aV (by omega) (by omega),Int.tmod_eq_emod_of_nonneg (by omega),Int.add_emod_right,e1]
theorem oG (n:Int) {m:Int} (h0:0<m):0<=n % m/\n % m<m:=⟨Int.emod_nonneg _ (by omega),Int.emod_lt_of_pos _ h0⟩
theorem aqT (v:Aa 5 Int):∃ a b c d e,v=⟨[a,b,c,d,e],rfl⟩:=by
 obtain⟨l,h⟩:=v
 match l,h with
 |[a,b,c,d,e],h=>exact⟨a,b,c,d,e,rfl⟩
def tx5:List ByteArray:=[ByteArray.empty,(⟨#[97]⟩:ByteArray),(⟨#[112,105,101,99,101,32,49,55]⟩:ByteArray),(⟨#[48,32,48,32,49,32,48,32,48,32,48]⟩:ByteArray),(⟨#[97,32,116,101,120,116,32,111,102,32,97,32,108,101,110,103,116,104,32,116,104,97,116,32,116,97,107,101,115,32,116,104,114,101,101,32,104,97,108,118,101,115,32,111,102,32,97,32,112,97,103,101]⟩:ByteArray)]
theorem aqG {i:Int} (h0:0<=i) (h1:i<5):∃ s,at? tx5 i=some s/\oS s=true:=by
 have:i=0\/i=1\/i=2\/i=3\/i=4:=by omega
 rcases this with rfl|rfl|rfl|rfl|rfl
 ·exact⟨_,rfl,by decide +kernel⟩
 ·exact⟨_,rfl,by decide +kernel⟩
 ·exact⟨_,rfl,by decide +kernel⟩
 ·exact⟨_,rfl,by decide +kernel⟩
 ·exact⟨_,rfl,by decide +kernel⟩
theorem ap4 {k:Nat} (hk:1000000<k) {l:List Ab} (hl:l.length<=100) (hh:∀ r∈l,jm r) (v:Aa 5 Int):
  ∃ r,Eh k l v=some r/\cZ r=true/\(r.At.Ap=0\/r.At.Ap=1\/r.At.Ap=2)/\(ag r).2=ax ag l (ag r).1:=by
 obtain⟨a,b,c,d,e,rfl⟩:=aqT v
 have a0:(⟨[a,b,c,d,e],rfl⟩:Aa 5 Int).at? 0=some a:=rfl
 have a1:(⟨[a,b,c,d,e],rfl⟩:Aa 5 Int).at? 1=some b:=rfl
 have a2:(⟨[a,b,c,d,e],rfl⟩:Aa 5 Int).at? 2=some c:=rfl
 have a3:(⟨[a,b,c,d,e],rfl⟩:Aa 5 Int).at? 3=some d:=rfl
 have a4:(⟨[a,b,c,d,e],rfl⟩:Aa 5 Int).at? 4=some e:=rfl
 have m3:=mb k a (m:=3) (by decide) (by decide)
 have m6:=mb k b (m:=6) (by decide) (by decide)
 have m50:=mb k c (m:=50) (by decide) (by decide)
 have m51:=mb k d (m:=50) (by decide) (by decide)
 have m5:=mb k e (m:=5) (by decide) (by decide)
 have B3:=oG a (m:=3) (by decide)
 have B6:=oG b (m:=6) (by decide)
 have H5:=oG c (m:=50) (by decide)
 have GG:=oG d (m:=50) (by decide)
 have B5:=oG e (m:=5) (by decide)
 obtain⟨s,mH,ot⟩:=aqG B5.1 B5.2
 have hc:=afU l (a % 3)
 have adA:a % 3=0\/a % 3=1\/a % 3=2:=by omega
 unfold Eh
 unfold tx5 at mH
 simp only[a0,a1,a2,a3,a4,m3,m6,m50,m51,m5,Af,ahP hk (show l.length<=100000 by omega) hh,aaW l (show 0<=a % 3 from B3.1) (by omega),mH]
 have W:∀ x lo hi:Int,lo<=x->x<=hi->within x lo hi=true:=fun x lo hi h1 h2=>by
  unfold within;simp[h1,h2]
 have aha:∀ kk:Int,0<kk->kk<=7->cZ (⟨(⟨a % 3,((ax ag l (a % 3):Nat):Int)⟩:Entry),kk,c % 50,d % 50,(⟨0,0⟩:Entry),s⟩:Ab)=true:=fun kk h1 h2=>by
  unfold cZ kL
  simp only[W _ 0 5 (show 0<=a % 3 from B3.1) (by omega),W _ 0 9999 (show (0:Int)<=((ax ag l (a % 3):Nat):Int) by omega) (by omega),W kk 0 40 (by omega) (by omega),W _ 0 100000 H5.1 (by omega),W _ 0 100000 GG.1 (by omega),ot,
   AI (show ¬ kk=0 by omega),Bs,Am,Bool.and_self,BC]
 by_cases h0:b % 6=0
 ·simp only[AD h0,Am]
  by_cases hp:(0:Int)<((ax ag l (a % 3):Nat):Int)
  ·have mc:=mb k c (m:=((ax ag l (a % 3):Nat):Int)) hp (by omega)
   have Bc:=oG c hp
   simp only[AD hp,Am,mc,Af]
   refine⟨_,rfl,?_,adA,rfl⟩
   have te:oS ByteArray.empty=true:=by decide +kernel
   unfold cZ kL
   simp only[W _ 0 5 (show 0<=a % 3 from B3.1) (by omega),W _ 0 9999 (show (0:Int)<=((ax ag l (a % 3):Nat):Int) by omega) (by omega),W (b % 6) 0 40 (by omega) (by omega),W 0 0 100000 (by decide) (by decide),W _ 0 100000 GG.1 (by omega),te,
    AD h0,AX,Aj,Bool.and_self,BC,beq_self_eq_true,W _ 0 9999 Bc.1 (by omega),AD Bc.2]
  ·simp only[AI hp,Aj]
   exact⟨_,rfl,aha 7 (by decide) (by decide),adA,rfl⟩
 ·simp only[AI h0,Aj]
  exact⟨_,rfl,aha _ (by omega) (by omega),adA,rfl⟩
def mk1 (k:Nat) (s:List Ab) (v:Aa 5 Int):List Ab:=s++[(Eh k s v).getD ap2]
where ap2:Ab:=⟨⟨0,0⟩,0,0,0,⟨0,0⟩,ByteArray.empty⟩
def ff (k:Nat) (l:List (Aa 5 Int)):List Ab:=l.foldl (mk1 k) []
abbrev Hf:=Aa 32 Int
abbrev Pg:=Aa 2 Hf
def hz:Hf:=Aa.rep 32 0
def hf (p:List Pg) (a i:Nat):Hf:=match p[301*a+i / 2]? with
 |some g=>(g.l[i % 2]?).getD hz
 |none=>hz
theorem ab3 (g:Pg) (i:Nat):g.at? ((i % 2:Nat):Int)=some ((g.l[i % 2]?).getD hz):=by
 have h:=g.h
 have hi:i % 2<g.l.length:=by omega
 unfold Aa.at?
 rw[if_pos (by omega),Cl,gG hi];rfl
theorem aaL {p:List Pg} (hp:p.length=602) {a i:Nat} (ha:a<=1) (hi:i<602):ab ((ab ((a:Int)*301))+(ab (Int.tdiv (i:Int) 2)))=((301*a+i / 2:Nat):Int):=by
 have e:Int.tdiv (i:Int) 2=((i / 2:Nat):Int):=by
  rw[show (2:Int)=((2:Nat):Int) from rfl,<-Int.ofNat_tdiv]
 rw[e,aV (n:=(a:Int)*301) (by omega) (by omega),aV (n:=((i / 2:Nat):Int)) (by omega) (by omega),aV (by omega) (by omega)]
 omega
theorem qn (i:Nat):Int.tmod (i:Int) 2=((i % 2:Nat):Int):=by
 rw[show (2:Int)=((2:Nat):Int) from rfl,<-Int.ofNat_tmod]
theorem vz (k:Nat) {p:List Pg} (hp:p.length=602) (w:List Aq) {a i:Nat} (ha:a<=1) (hi:i<602):m4 k ⟨⟨p,w⟩⟩ (a:Int) (i:Int)=some (hf p a i):=by
 unfold m4 hf
 have hx:p[301*a+i / 2]?=some (p[301*a+i / 2]'(by omega)):=gG (by omega)
 simp only[aaL hp ha hi,bC hx,Af,qn,ab3,hx]
theorem aej {n b:Int}{s:Nat} (hs:s<=32) (h0:0<=n) (h1:n<1073741824) (h2:0<=b) (h3:b<2 ^ s):fK .i64 (n*2 ^ s) b=n*2 ^ s+b:=by
 obtain⟨m,rfl⟩:=Int.eq_ofNat_of_zero_le h0
 obtain⟨c,rfl⟩:=Int.eq_ofNat_of_zero_le h2
 have hp:(2:Nat) ^ s<=2 ^ 32:=Nat.pow_le_pow_right (by decide) hs
 have hc:c<2 ^ s:=by
  have:((2:Int) ^ s)=((2 ^ s:Nat):Int):=by push_cast;rfl
  rw[this]at h3;omega
 have hm:m<4294967296:=by omega
 have hmp:m*2 ^ s<4294967296*4294967296:=Nat.mul_lt_mul_of_lt_of_le hm hp (by decide)
 have e:((m:Int)*2 ^ s)=((m*2 ^ s:Nat):Int):=by push_cast;rfl
 rw[e]
 unfold fK
 have t:∀ x:Nat,x<18446744073709551616->(BitVec.ofInt IntKind.i64.bits (x:Int)).toNat=x:=fun x hx=>by
  rw[BitVec.toNat_ofInt]
  have:(x:Int) % ((2 ^ IntKind.i64.bits:Nat):Int)=(x:Int):=by
   rw[show ((2 ^ IntKind.i64.bits:Nat):Int)=18446744073709551616 from rfl];omega
  rw[this];omega
 have ik:m*2 ^ s<9223372036854775808 - 4294967296:=by
  have:m*2 ^ s<=m*4294967296:=Nat.mul_le_mul_left _ hp
  omega
 rw[BitVec.toNat_or,t _ (by omega),t _ (by omega)]
 have:=Nat.shiftLeft_add_eq_or_of_lt hc m
 rw[Nat.shiftLeft_eq]at this
 rw[<-this]
 exact aV (by omega) (by omega)
theorem aeN {x:Int} (h:0<=x/\x<256) (s:Nat) (hs:s<=16):ab ((ab x)*2 ^ s)=x*2 ^ s:=by
 have hp:(2:Int) ^ s<=65536:=by
  have:(2:Nat) ^ s<=2 ^ 16:=Nat.pow_le_pow_right (by decide) hs
  have e:((2:Int) ^ s)=((2 ^ s:Nat):Int):=by push_cast;rfl
  rw[e];omega
 have hp0:(0:Int)<2 ^ s:=Int.pow_pos (by decide)
 have h1:x*2 ^ s<=255*65536:=Int.mul_le_mul (by omega) hp (by omega) (by omega)
 have h2:0<=x*2 ^ s:=Int.mul_nonneg h.1 (by omega)
 rw[aV (n:=x) (by omega) (by omega),aV (by omega) (by omega)]
theorem or3 {a b c:Int} (ha:0<=a/\a<256) (hb:0<=b/\b<256) (hc:0<=c/\c<256):
  fK .i64 (fK .i64 (ab ((ab a)*2 ^ 16)) (ab ((ab b)*2 ^ 8))) (ab c)=bl [a,b,c]:=by
 rw[aeN ha 16 (by decide),aeN hb 8 (by decide),aej (s:=16) (by decide) ha.1 (by omega) (by omega) (by omega),aV (n:=c) (by omega) (by omega)]
 have e:a*2 ^ 16+b*2 ^ 8=(a*256+b)*2 ^ 8:=by omega
 rw[e,aej (s:=8) (by decide) (by omega) (by omega) hc.1 (by omega)]
 simp[bl,oO]
theorem or2 {a b:Int} (ha:0<=a/\a<256) (hb:0<=b/\b<256):fK .i64 (ab ((ab a)*2 ^ 8)) (ab b)=bl [a,b]:=by
 rw[aeN ha 8 (by decide),aV (n:=b) (by omega) (by omega),aej (s:=8) (by decide) ha.1 (by omega) hb.1 (by omega)]
 simp[bl,oO]
def bt (h:Hf) (i:Nat):Int:=(h.l[i]?).getD 0
theorem lB (h:Hf) {i:Nat} (hi:i<32):h.at? (i:Int)=some (bt h i):=by
 have hl:=h.h
 unfold Aa.at? bt
 rw[if_pos (by omega),Cl,gG (by omega)];rfl
theorem qU {h:Hf} (hb:AY h.l) (i:Nat):0<=bt h i/\bt h i<256:=by
 unfold bt
 cases hq:h.l[i]? with
 |none=>simp
 |some x=>exact hb x (AW hq)
def aL (h:Hf):Int:=
 if (bt h 0=104\/bt h 0=112)/\bt h 31=165/\bl [bt h 1,bt h 2,bt h 3]<=1000000 then bl [bt h 1,bt h 2,bt h 3] else 0
theorem ac0 {h:Hf} (hb:AY h.l):0<=aL h/\aL h<=1000000:=by
 unfold aL
 have:=aes (l:=[bt h 1,bt h 2,bt h 3]) (by
  intro x hx
  simp only[BE,List.not_mem_nil,or_false]at hx
  rcases hx with rfl|rfl|rfl<;>exact qU hb _)
 split
 ·rename_i hc;exact⟨this.1,hc.2.2⟩
 ·omega
theorem aa5 (k:Nat) {h:Hf} (hb:AY h.l):pn k h=some (aL h):=by
 have h0:=lB h (i:=0) (by decide)
 have h1:=lB h (i:=1) (by decide)
 have h2:=lB h (i:=2) (by decide)
 have h3:=lB h (i:=3) (by decide)
 have xW:=lB h (i:=31) (by decide)
 have e0:h.at? 0=some (bt h 0):=h0
 have e1:h.at? 1=some (bt h 1):=h1
 have e2:h.at? 2=some (bt h 2):=h2
 have e3:h.at? 3=some (bt h 3):=h3
 have xF:h.at? 31=some (bt h 31):=xW
 unfold pn aL
 simp only[e0,e1,e2,e3,xF,Af,or3 (qU hb 1) (qU hb 2) (qU hb 3)]
 by_cases a:bt h 0=104
 ·have a2:¬ bt h 0=112:=by omega
  by_cases c:bt h 31=165
  ·by_cases d:(1000000:Int)<bl [bt h 1,bt h 2,bt h 3]
   ·simp[a,c,d,show ¬ bl [bt h 1,bt h 2,bt h 3]<=1000000 by omega]
   ·simp[a,c,d,show bl [bt h 1,bt h 2,bt h 3]<=1000000 by omega]
  ·simp[a,c]
 ·by_cases b:bt h 0=112
  ·by_cases c:bt h 31=165
   ·by_cases d:(1000000:Int)<bl [bt h 1,bt h 2,bt h 3]
    ·simp[b,c,d,show ¬ bl [bt h 1,bt h 2,bt h 3]<=1000000 by omega]
    ·simp[b,c,d,show bl [bt h 1,bt h 2,bt h 3]<=1000000 by omega]
   ·simp[b,c]
  ·simp[a,b]
def Bp (p:List Pg):Prop:=∀ g∈p,∀ h∈g.l,AY h.l
theorem Bp.hf {p:List Pg} (hp:Bp p) (a i:Nat):AY (hf p a i).l:=by
 have rB:AY hz.l:=by
  intro x hx
  have:x=0:=by
   simp only[hz,Aa.rep,List.mem_replicate]at hx
   exact hx.2
  omega
 unfold Go.Abs.hf
 cases hq:p[301*a+i / 2]? with
 |none=>exact rB
 |some g=>
  simp only
  cases hr:g.l[i % 2]? with
  |none=>exact rB
  |some h=>exact hp g (AW hq) h (AW hr)
def j5 (d:Ac):Bool:=decide (d.Ae.length=602)&&(decide (d.Ad.length<=1200)&&d.Ad.all fun w=>within w.At 0 601)
theorem oD {k:Nat} (hk:1000000<k) (d:Ac):sI k d=some (j5 d):=by
 unfold sI j5
 by_cases h1:d.Ae.length=602
 ·have e1:decide ((d.Ae.length:Int)=602)=true:=AD (by omega)
  by_cases h2:d.Ad.length<=1200
  ·have e2:decide ((d.Ad.length:Int)<=1200)=true:=AD (by omega)
   have tE:=ajr (body:=iA.b0 k (fun q0=>uK k q0) d.Ad) (n:=d.Ad.length) (f:=fun i=>match d.Ad[i]? with|some w=>bif within w.At 0 601 then none else some (i:Int)|none=>none) (by omega) (k:=k) (by omega) (fun i hi=>by
    obtain⟨w,hw⟩:∃ w,d.Ad[i]?=some w:=⟨_,gG hi⟩
    unfold iA.b0 uK
    simp only[AD (show (i:Int)<(d.Ad.length:Int) by omega),Am,bC hw,Af,zp,hw]
    cases within w.At 0 601<;>rfl) (by
    unfold iA.b0
    simp only[(by simp:decide ((d.Ad.length:Int)<(d.Ad.length:Int))=false),Aj])
   simp only[e1,e2,Am,h1,h2,BC,BO]
   unfold abS iA
   rw[tE]
   simp only[Af]
   cases hq:(List.range d.Ad.length).findSome? (fun i=>match d.Ad[i]? with|some w=>bif within w.At 0 601 then none else some (i:Int)|none=>none) with
   |none=>
    have:d.Ad.all (fun w=>within w.At 0 601)=true:=by
     rw[List.all_eq_true]
     intro w hw
     obtain⟨i,hi⟩:=BD.1 hw
     rw[List.findSome?_eq_none_iff]at hq
     have:=hq i (List.mem_range.2 (gS.1 hi).1)
     rw[hi]at this
     simp only at this
     cases hb:within w.At 0 601 with
     |true=>rfl
     |false=>rw[hb]at this;cases this
    rw[this];rfl
   |some r=>
    obtain⟨i,hi,hf⟩:=List.exists_of_findSome?_eq_some hq
    obtain⟨w,hw⟩:∃ w,d.Ad[i]?=some w:=⟨_,gG (List.mem_range.1 hi)⟩
    rw[hw]at hf
    simp only at hf
    have hb:within w.At 0 601=false:=by
     cases hb:within w.At 0 601 with
     |false=>rfl
     |true=>rw[hb]at hf;cases hf
    rw[hb]at hf
    have hr:(i:Int)=r:=oi hf
    have:d.Ad.all (fun w=>within w.At 0 601)=false:=by
     rw[List.all_eq_false]
     exact⟨w,AW hw,by rw[hb];decide⟩
    rw[this]
    simp only[Af]
    rw[AD (show (0:Int)<=r by omega)]
    rfl
  ·have e2:decide ((d.Ad.length:Int)<=1200)=false:=AI (by omega)
   simp[e1,e2,h1,h2]
 ·have e1:decide ((d.Ae.length:Int)=602)=false:=AI (by omega)
  simp[e1,h1]
theorem alW {k:Nat}{d:Ac} (h:d.Ae.length<=100000000/\d.Ad.length<=100000000):nQ k d=some ⟨d⟩:=by
 unfold nQ abQ abR eW
 rw[if_pos ⟨by omega,by omega⟩,if_pos ⟨by omega,by omega⟩]
 rfl
theorem gj {d:Ac}:j5 d=true↔d.Ae.length=602/\d.Ad.length<=1200/\∀ w∈d.Ad,0<=w.At/\w.At<=601:=by
 unfold j5 within
 simp only[A7,decide_eq_true_eq,List.all_eq_true]
theorem na {k:Nat}{d:Ac} (h:j5 d=true):nQ k d=some ⟨d⟩:=by
 obtain⟨h1,h2,_⟩:=gj.1 h
 exact alW ⟨by omega,by omega⟩
def ak (p:List Pg) (w:List Aq):List Pg:=w.foldl (fun p x=>p.set x.At.toNat x.AE) p
theorem aoJ (w:List Aq):∀ p:List Pg,(ak p w).length=p.length:=by
 induction w with
 |nil=>intro p;rfl
 |cons x w ih=>intro p;exact(ih _).trans (by simp)
theorem uk {k:Nat} (hk:1000000<k) {d:Ac} (h:j5 d=true):gf k ⟨d⟩=some ⟨⟨ak d.Ae d.Ad,[]⟩⟩:=by
 obtain⟨h1,h2,h3⟩:=gj.1 h
 unfold gf
 have hf:=qJ (l:=d.Ad) (body:=gf.b0 k ⟨d⟩) (fun i s=>(i,s)) (fun p x=>p.set x.At.toNat x.AE) (fun i s=>s.length=602) (by omega) (k:=k) (by omega) (s0:=d.Ae) h1 (fun i x s hx hs=>by
  have hi:=(gS.1 hx).1
  have hb:=h3 x (AW hx)
  refine⟨?_,by simp[hs]⟩
  unfold gf.b0
  have ha:at? s x.At=some (s[x.At.toNat]'(by omega)):=by
   unfold at?
   rw[if_pos ⟨by omega,by omega⟩,gG (by omega)]
  have fR:dJ s x.At x.AE=some (s.set x.At.toNat x.AE):=by
   unfold dJ
   rw[if_pos ⟨by omega,by omega⟩]
  simp only[AD (show (i:Int)<(d.Ad.length:Int) by omega),Am,bC hx,Af,ha,fR]) (fun s hs=>by
  unfold gf.b0
  simp only[(by simp:decide ((d.Ad.length:Int)<(d.Ad.length:Int))=false),Aj])
 rw[hf.1]
 rfl
def mx (p:List Pg) (a from_:Nat):Int:=(List.range' from_ (602 - from_)).foldl (fun m i=>max m (aL (hf p a i))) 0
theorem agM {f:Nat->Int}:∀ (l:List Nat) (z E:Int),l.foldl (fun m i=>max m (f i)) z<=E↔z<=E/\∀ i∈l,f i<=E
 |[],z,E=>by simp
 |x::l,z,E=>by
  rw[List.foldl_cons,agM l]
  simp only[Int.max_le,and_assoc,BE,forall_eq_or_imp]
theorem ahU {p:List Pg}{a from_:Nat}{E:Int}:mx p a from_<=E↔0<=E/\∀ i,from_<=i->i<602->aL (hf p a i)<=E:=by
 unfold mx
 rw[agM]
 constructor
 ·rintro⟨h1,h2⟩
  exact⟨h1,fun i h3 h4=>h2 i (by rw[List.mem_range'_1];omega)⟩
 ·rintro⟨h1,h2⟩
  exact⟨h1,fun i hi=>h2 i (by rw[List.mem_range'_1]at hi;omega) (by rw[List.mem_range'_1]at hi;omega)⟩
theorem vX (p:List Pg) (a from_:Nat):0<=mx p a from_:=(ahU.1 (Int.le_refl _)).1
theorem ahV {p:List Pg} (hp:Bp p) (a from_:Nat):mx p a from_<=1000000:=ahU.2 ⟨by omega,fun i _ _=>(ac0 (hp.hf a i)).2⟩
theorem nU {k:Nat} (hk:1000000<k) {p:List Pg} (hp:p.length=602) (hb:Bp p) (w:List Aq) {a:Nat} (ha:a<=1) (from_:Nat):dy k ⟨⟨p,w⟩⟩ (a:Int) (from_:Int)=some (mx p a from_):=by
 unfold dy mx
 have key:∀ (d i m:Nat) (z:Int),602 - i=d->d<m->aj (dy.b0 k ⟨⟨p,w⟩⟩ (a:Int)) m (z,(i:Int))=some (.brk ((List.range' i d).foldl (fun m i=>max m (aL (hf p a i))) z)):=by
  intro d
  induction d with
  |zero=>
   intro i m z h1 h2
   obtain⟨m,rfl⟩:∃ q,m=q+1:=⟨m - 1,by omega⟩
   have tp:dy.b0 k ⟨⟨p,w⟩⟩ (a:Int) (z,(i:Int))=some (.brk z):=by
    unfold dy.b0
    simp only[AI (show ¬ (i:Int)<602 by omega),Aj]
   simp only[aj,tp]
   rfl
  |succ d ih=>
   intro i m z h1 h2
   obtain⟨m,rfl⟩:∃ q,m=q+1:=⟨m - 1,by omega⟩
   have hw:ab ((i:Int)+1)=((i+1:Nat):Int):=by rw[aV (by omega) (by omega)];omega
   have tp:dy.b0 k ⟨⟨p,w⟩⟩ (a:Int) (z,(i:Int))=some (.next (max z (aL (hf p a i)),((i+1:Nat):Int))):=by
    unfold dy.b0
    simp only[AD (show (i:Int)<602 by omega),Am,vz k hp w ha (show i<602 by omega),Af,aa5 k (hb.hf a i),hw]
   simp only[aj,tp]
   rw[List.range'_succ,List.foldl_cons]
   exact ih (i+1) m _ (by omega) (by omega)
 have:=key (602 - from_) from_ k 0 rfl (by omega)
 rw[this]
 rfl
def aqa (p:List Pg) (a from_:Nat) (l:List Hf):Prop:=from_+l.length<=602/\∀ (i:Nat) x,l[i]?=some x->hf p a (from_+i)=x
instance:DecidableEq Hf:=fun a b=>decidable_of_iff (Aa.eq (fun(x y:Int)=>decide (x=y)) a b=true) (qI a b)
def oP (p:List Pg) (a from_:Nat) (l:List Hf):Bool:=(List.range l.length).all fun i=>match l[i]? with|some x=>decide (hf p a (from_+i)=x)|none=>true
theorem aiA {p:List Pg}{a from_:Nat}{l:List Hf}:oP p a from_ l=true↔∀ (i:Nat) x,l[i]?=some x->hf p a (from_+i)=x:=by
 unfold oP
 rw[List.all_eq_true]
 constructor
 ·intro h i x hx
  have:=h i (List.mem_range.2 (gS.1 hx).1)
  rw[hx]at this
  simpa using this
 ·intro h i hi
  cases hq:l[i]? with
  |none=>rfl
  |some x=>simpa using h i x hq
def recAt (p:List Pg) (a from_:Nat) (n:Nat):Option (Ab×Int×Nat):=
 if 602<=from_ then none else if aL (hf p a from_)=0\/602<from_+(bt (hf p a from_) 7).toNat then none else
 match gD ((List.range (bt (hf p a from_) 7).toNat).map fun i=>gL (hf p a (from_+i))).flatten with
 |none=>none
 |some q=>if cZ q.1=true/\(cC q.1 n (aL (hf p a from_))).length=(bt (hf p a from_) 7).toNat/\oP p a from_ (cC q.1 n (aL (hf p a from_)))=true then some (q.1,aL (hf p a from_),(bt (hf p a from_) 7).toNat) else none
theorem afJ {h:Hf} (hb:AY h.l):AY (gL h):=(hb.drop 8).take 23
theorem afG {l:List (List Int)} (h:∀ x∈l,AY x):AY l.flatten:=fun x hx=>by
 obtain⟨y,hy,hx⟩:=List.mem_flatten.1 hx
 exact h y hy x hx
theorem ap3 {k:Nat} (hk:1000000<k) {p:List Pg} (hp:p.length=602) (hb:Bp p) (w:List Aq) {a:Nat} (ha:a<=1) (from_ n:Nat) (pN:from_<=100000):
  dp k ⟨⟨p,w⟩⟩ (a:Int) (from_:Int) (n:Int)=some (match recAt p a from_ n with|some q=>(q.1,q.2.1,(q.2.2:Int))|none=>(nC,0,0)):=by
 unfold dp recAt
 by_cases h1:602<=from_
 ·simp only[AD (show (602:Int)<=(from_:Int) by omega),Am,if_pos h1]
  rfl
 ·have fC:=qU (hb.hf a from_) 7
  obtain⟨m,hm⟩:=Int.eq_ofNat_of_zero_le fC.1
  have hmN:(bt (hf p a from_) 7).toNat=m:=by rw[hm];rfl
  have e7:(hf p a from_).at? 7=some (m:Int):=by have:=lB (hf p a from_) (i:=7) (by decide);rw[hm]at this;exact this
  have wm:ab (m:Int)=(m:Int):=aV (by omega) (by omega)
  have wfm:ab ((from_:Int)+(m:Int))=((from_+m:Nat):Int):=by rw[aV (by omega) (by omega)];omega
  rw[hmN]
  simp only[AI (show ¬ (602:Int)<=(from_:Int) by omega),Aj,if_neg h1,vz k hp w ha (show from_<602 by omega),Af,aa5 k (hb.hf a from_),e7,wm,wfm]
  by_cases he:aL (hf p a from_)=0
  ·rw[if_pos (Or.inl he)]
   simp only[AD he,AX,Aj]
   rfl
  ·simp only[AI he,Bs,Am]
   by_cases h2:602<from_+m
   ·simp only[AD (show (602:Int)<((from_+m:Nat):Int) by omega),Am,if_pos (Or.inr h2)]
    rfl
   ·simp only[AI (show ¬ (602:Int)<((from_+m:Nat):Int) by omega),Aj,if_neg (show ¬ (aL (hf p a from_)=0\/602<from_+m) from fun c=>c.elim he h2)]
    have lR:=ab7 (n:=m) (body:=dp.b0 k ⟨⟨p,w⟩⟩ (a:Int) (from_:Int) (m:Int)) (fun i s=>(i,s)) (fun s i=>s++gL (hf p a (from_+i))) (fun i s=>s.length=23*i) (by omega) (k:=k) (by omega) (s0:=[]) rfl (fun i s hi hs=>by
     have hl:=(hf p a (from_+i)).h
     have vL:(gL (hf p a (from_+i))).length=23:=by unfold gL;simp[hl]
     have uw:ab ((from_:Int)+(i:Int))=((from_+i:Nat):Int):=by rw[aV (by omega) (by omega)];omega
     refine⟨?_,by simp[hs,vL];omega⟩
     unfold dp.b0
     simp only[wm,AD (show (i:Int)<(m:Int) by omega),Am,uw,vz k hp w ha (show from_+i<602 by omega),Af]
     rw[show (List.take 23 (List.drop 8 (hf p a (from_+i)).l))=gL (hf p a (from_+i)) from rfl,lz (by omega) (by omega)]
     rfl) (fun s hs=>by
     unfold dp.b0
     simp only[wm,(by simp:decide ((m:Int)<(m:Int))=false),Aj])
    have dA:∀ (L:List Nat) (s:List Int),L.foldl (fun s i=>s++gL (hf p a (from_+i))) s=s++(L.map fun i=>gL (hf p a (from_+i))).flatten:=by
     intro L
     induction L with
     |nil=>intro s;simp
     |cons x L ih=>intro s;rw[List.foldl_cons,ih];simp
    have eU:=lR.1
    rw[dA,BM]at eU
    rw[eU]
    simp only[Af]
    have n7:AY ((List.range m).map fun i=>gL (hf p a (from_+i))).flatten:=afG (by
     intro x hx
     obtain⟨i,_,rfl⟩:=List.mem_map.1 hx
     exact afJ (hb.hf a _))
    rw[amc (by omega) n7]
    cases hd:gD ((List.range m).map fun i=>gL (hf p a (from_+i))).flatten with
    |none=>rfl
    |some q=>
     simp only[Af]
     cases hr:cZ q.1 with
     |false=>simp;rfl
     |true=>
      have ht:=wh hr
      simp only[AX,Aj,aid (show 100000<k by omega) ht,Af]
      have hH:(List.range (bD (enc q.1).length)).map (dP (aL (hf p a from_)) (n:Int) (bD (enc q.1).length) (enc q.1))=cC q.1 (n:Int) (aL (hf p a from_)):=rfl
      rw[hH]
      by_cases hlen:(cC q.1 (n:Int) (aL (hf p a from_))).length=m
      ·have hwN:=aeP (n:=m) (body:=dp.b1 k ⟨⟨p,w⟩⟩ (a:Int) (from_:Int) (cC q.1 (n:Int) (aL (hf p a from_)))) (p:=fun i=>match (cC q.1 (n:Int) (aL (hf p a from_)))[i]? with|some x=>decide (hf p a (from_+i)=x)|none=>true) (c:=(nC,(0:Int),(0:Int))) (by omega) (k:=k) (by omega) (fun i hi=>by
        obtain⟨x,hx⟩:∃ x,(cC q.1 (n:Int) (aL (hf p a from_)))[i]?=some x:=⟨_,gG (by omega)⟩
        have uw:ab ((from_:Int)+(i:Int))=((from_+i:Nat):Int):=by rw[aV (by omega) (by omega)];omega
        have hve:Aa.eq (fun(x y:Int)=>decide (x=y)) (hf p a (from_+i)) x=decide (hf p a (from_+i)=x):=by
         by_cases e:hf p a (from_+i)=x
         ·rw[(qI _ _).2 e,AD e]
         ·rw[AI e]
          cases hq:Aa.eq (fun(x y:Int)=>decide (x=y)) (hf p a (from_+i)) x with
          |false=>rfl
          |true=>exact absurd ((qI _ _).1 hq) e
        unfold dp.b1
        simp only[AD (show (i:Int)<((cC q.1 (n:Int) (aL (hf p a from_))).length:Int) by omega),Am,bC hx,Af,uw,vz k hp w ha (show from_+i<602 by omega),hve,hx]
        cases decide (hf p a (from_+i)=x)<;>rfl) (by
        unfold dp.b1
        simp only[hlen,(by simp:decide ((m:Int)<(m:Int))=false),Aj])
       have bf:oP p a from_ (cC q.1 (n:Int) (aL (hf p a from_)))=(List.range m).all (fun i=>match (cC q.1 (n:Int) (aL (hf p a from_)))[i]? with|some x=>decide (hf p a (from_+i)=x)|none=>true):=by
        unfold oP;rw[hlen];rfl
       simp only[AD (show ((cC q.1 (n:Int) (aL (hf p a from_))).length:Int)=(m:Int) by omega),AX,Aj,hwN,<-bf,hlen,true_and]
       cases oP p a from_ (cC q.1 (n:Int) (aL (hf p a from_)))<;>rfl
      ·simp only[AI (show ¬ ((cC q.1 (n:Int) (aL (hf p a from_))).length:Int)=(m:Int) by omega),Bs,Am,hlen,false_and,and_false,if_false]
       rfl
end Go.Abs
namespace Go.Abs
open Go Go.Proofs
theorem ag4 (r:Ab) (n e:Int):(cC r n e)[0]?=some (dP e n (bD (enc r).length) (enc r) 0):=by
 unfold cC
 rw[Bx,List.getElem?_range (uS r)];rfl
theorem am3 {r:Ab}{n e:Int}{i:Nat}{x:Hf} (h:(cC r n e)[i]?=some x):x=dP e n (bD (enc r).length) (enc r) i:=by
 have hi:=(gS.1 h).1
 rw[kO]at hi
 unfold cC at h
 rw[Bx,List.getElem?_range hi]at h
 exact(oi h).symm
theorem acE (e n ax:Int) (c:List Int) (i:Nat):bt (dP e n ax c i) 0=112/\bt (dP e n ax c i) 1=IntKind.u8.wrap (Int.fdiv e (2 ^ 16))/\bt (dP e n ax c i) 2=IntKind.u8.wrap (Int.fdiv e (2 ^ 8))/\bt (dP e n ax c i) 3=IntKind.u8.wrap e/\bt (dP e n ax c i) 7=IntKind.u8.wrap ax/\bt (dP e n ax c i) 31=165:=by
 have hl:((c.drop (23*i)).take 23++List.replicate (23 - min (c.drop (23*i)).length 23) (0:Int)).length=23:=by
  simp only[A8,A9,CU];omega
 have xF:(iP e n ax c i)[31]?=some 165:=by
  unfold iP
  rw[nN,xj]
  rw[CE (by simp only[A8,AA,Az,hl];omega)]
  simp only[A8,AA,Az,hl]
  rfl
 unfold bt dP
 refine⟨?_,?_,?_,?_,?_,?_⟩
 ·simp[iP]
 ·simp[iP,nN]
 ·simp[iP,nN]
 ·simp[iP,nN]
 ·simp[iP,nN,xj]
 ·rw[xF];rfl
theorem ac1 {e:Int} (he:1<=e/\e<=1000000) (n ax:Int) (c:List Int) (i:Nat):aL (dP e n ax c i)=e:=by
 obtain⟨h0,h1,h2,h3,_,xW⟩:=acE e n ax c i
 have hr:bl [bt (dP e n ax c i) 1,bt (dP e n ax c i) 2,bt (dP e n ax c i) 3]=e:=by
  rw[h1,h2,h3,<-nN,rd3 (by omega) (by omega)]
 unfold aL
 rw[hr,if_pos ⟨.inr h0,xW,he.2⟩]
theorem afF {e n:Int}{ax:Nat} (hc:ax<256) (c:List Int) (i:Nat):bt (dP e n ax c i) 7=ax:=by
 obtain⟨_,_,_,_,h7,_⟩:=acE e n ax c i
 rw[h7,qK];omega
theorem uQ {r:Ab} (h:cZ r=true):bD (enc r).length<=10:=by
 have:=wh h
 rw[xH];unfold bD;omega
structure DM (p:List Pg) (a from_ n:Nat) (r:Ab) (e:Int):Prop where
 ok:cZ r=true
 ep:1<=e/\e<=1000000
 run:aqa p a from_ (cC r n e)
theorem z8 {p:List Pg} (hb:Bp p) {a from_ n:Nat}{q:Ab×Int×Nat}:recAt p a from_ n=some q↔DM p a from_ n q.1 q.2.1/\q.2.2=(cC q.1 n q.2.1).length:=by
 obtain⟨r,e,m⟩:=q
 constructor
 ·intro h
  unfold recAt at h
  split at h
  ·cases h
  rename_i h1
  split at h
  ·cases h
  rename_i h2
  split at h
  ·cases h
  rename_i q hq
  split at h
  ·rename_i h3
   simp only[oE,Prod.mk.injEq]at h
   obtain⟨rfl,rfl,rfl⟩:=h
   have hE:=ac0 (hb.hf a from_)
   have oe:¬ aL (hf p a from_)=0:=fun c=>h2 (.inl c)
   have hle:¬ 602<from_+(bt (hf p a from_) 7).toNat:=fun c=>h2 (.inr c)
   refine⟨⟨h3.1,⟨show 1<=aL (hf p a from_) by omega,hE.2⟩,⟨?_,aiA.1 h3.2.2⟩⟩,h3.2.1.symm⟩
   show from_+(cC q.1 n (aL (hf p a from_))).length<=602
   rw[h3.2.1];omega
  ·cases h
 ·rintro⟨⟨h1,h2,h3,h4⟩,h5⟩
  simp only at h1 h2 h3 h4 h5
  have hc:=uQ h1
  have hf0:=h4 0 _ (ag4 r n e)
  rw[Nat.add_zero]at hf0
  have hE:aL (hf p a from_)=e:=by rw[hf0];exact ac1 h2 _ _ _ _
  have h7:(bt (hf p a from_) 7).toNat=m:=by
   rw[hf0,afF (by omega),h5,kO];rfl
  have hmp:0<m:=by rw[h5,kO];exact uS r
  rw[<-h5]at h3
  have anJ:((List.range m).map fun i=>gL (hf p a (from_+i))).flatten=rT (enc r):=by
   rw[<-aou e n (enc r)]
   congr 1
   rw[List.map_map,<-kO r n e,<-h5]
   apply List.map_congr_left
   intro i hi
   have eP:=List.mem_range.1 hi
   have hx:(cC r n e)[i]?=some (dP e n (bD (enc r).length) (enc r) i):=by
    unfold cC
    rw[Bx,List.getElem?_range (by rw[<-kO r n e,<-h5];exact eP)];rfl
   rw[h4 i _ hx];rfl
  have hd:=al8 h1 (List.replicate (23*bD (enc r).length - (enc r).length) 0)
  unfold recAt
  rw[if_neg (by omega),h7,hE,if_neg (by omega),anJ]
  unfold rT
  rw[hd]
  simp only
  rw[if_pos ⟨h1,h5.symm,aiA.2 h4⟩]
def iw (b:List Ab) (r:Ab):Option (List Ab):=if (eu b r).2=0/\(eu b r).1.length≠b.length then some (eu b r).1 else none
def rd (p:List Pg) (a:Nat):Nat->List Ab->Int->Nat->Nat->List (Ab×Nat)
 |0,_,_,_,_=>[]
 |m+1,b,e,u,n=>match recAt p a u n with
  |none=>[]
  |some q=>if q.2.1<e then [] else match iw b q.1 with
   |none=>[]
   |some b'=>(q.1,u+q.2.2)::rd p a m b' q.2.1 (u+q.2.2) (n+1)
theorem qo {b b':List Ab}{r:Ab} (h:iw b r=some b'):b'=ej ag b r/\gE ag b (ag r)=none/\r.At.No<=ax ag b r.At.Ap/\b.length≠60:=by
 unfold iw eu at h
 cases hf:gE ag b (ag r) with
 |some x=>
  rw[hf]at h
  simp only at h
  by_cases e:x=r
  ·rw[if_pos e]at h;simp at h
  ·rw[if_neg e]at h;simp at h
 |none=>
  rw[hf]at h
  simp only at h
  by_cases hc:((ax ag b r.At.Ap:Nat):Int)<r.At.No
  ·rw[if_pos hc]at h;simp at h
  ·rw[if_neg hc]at h
   by_cases iN:(b.length:Int)=60
   ·rw[if_pos iN]at h;simp at h
   ·rw[if_neg iN]at h
    split at h
    ·exact⟨(oi h).symm,rfl,by omega,by omega⟩
    ·cases h
theorem ad8 {b b':List Ab}{r:Ab} (hv:Dh ag b) (hr:cZ r=true) (h:iw b r=some b'):Dh ag b'/\b'.length=b.length+1:=by
 obtain⟨h1,h2,h3,h4⟩:=qo h
 subst h1
 refine⟨ajg ag hv ?_,zo ag b r⟩
 show r.At.No=_
 have hn:=xO ag h2
 by_cases ae:r.At.No<ax ag b r.At.Ap
 ·have h0:=(abF hr).2.1.1
  obtain⟨x,hx,hk⟩:=ajf ag hv (h:=r.At.Ap) (n:=r.At.No) h0 ae
  exact absurd hk (hn x hx)
 ·show r.At.No=((ax ag b r.At.Ap:Nat):Int)
  omega
theorem apN {k:Nat} (hk:1000000<k) {p:List Pg} (hp:p.length=602) (hb:Bp p) (w:List Aq) {a:Nat} (ha:a<=1):∀ (m:Nat) (b:List Ab) (e:Int) (u n:Nat),Dh ag b->(∀ r∈b,cZ r=true)->b.length=n->n<=60->u<=602->61<=m+n->
  j3.go k ⟨⟨p,w⟩⟩ (a:Int) (m+1) ⟨b⟩ e (u:Int) (n:Int)=some ((rd p a (m+1) b e u n).map fun x=>(x.1,(x.2:Int))):=by
 intro m
 induction m with
 |zero=>intro b e u n _ _ h1 h2 _ h3;omega
 |succ m ih=>
  intro b e u n hv ru gF hn hu hm
  rw[j3.go,rd,ap3 hk hp hb w ha u n (by omega)]
  simp only[Af]
  cases hq:recAt p a u n with
  |none=>rfl
  |some q=>
   obtain⟨⟨g1,g2,g3⟩,g4⟩:=(z8 hb).1 hq
   have hmp:0<q.2.2:=by rw[g4,kO];exact uS q.1
   have adq:=g3.1
   rw[<-g4]at adq
   simp only[AI (show ¬ (q.2.2:Int)=0 by omega),Bs,Am]
   by_cases he:q.2.1<e
   ·simp only[AD he,Am,if_pos he];rfl
   ·have hh:∀ r∈b,jm r:=fun r hr=>nB (ru r hr)
    simp only[AI he,Aj,if_neg he,aaJ hk (b:=⟨b⟩) hv.1 (show b.length<=900 by omega) hh,g1,Am,Af]
    cases cY:iw b q.1 with
    |none=>
     unfold iw at cY
     by_cases h0:(eu b q.1).2=0
     ·simp only[AD h0,Am]
      by_cases hl:(eu b q.1).1.length=b.length
      ·simp only[AD (show (((eu b q.1).1.length:Nat):Int)=(b.length:Int) by omega),Am];rfl
      ·rw[if_pos ⟨h0,hl⟩]at cY;cases cY
     ·simp only[AI h0,Aj];rfl
    |some b'=>
     obtain⟨v1,v2⟩:=ad8 hv g1 cY
     have ik:=cY
     unfold iw at ik
     split at ik
     ·rename_i hc
      have bQ:(eu b q.1).1=b':=oi ik
      have eU:ab ((u:Int)+(q.2.2:Int))=((u+q.2.2:Nat):Int):=by rw[aV (by omega) (by omega)];omega
      have lS:ab ((n:Int)+1)=((n+1:Nat):Int):=by rw[aV (by omega) (by omega)];omega
      have iN:b.length≠60:=(qo cY).2.2.2
      simp only[AD hc.1,Am,bQ,AI (show ¬ ((b'.length:Nat):Int)=(b.length:Int) by omega),Aj,eU,lS]
      obtain⟨m,rfl⟩:∃ q,m=q+1:=⟨m - 1,by omega⟩
      rw[ih b' q.2.1 (u+q.2.2) (n+1) v1 (fun r hr=>by
       rw[(qo cY).1,abr]at hr
       rcases hr with rfl|hr
       ·exact g1
       ·exact ru r hr) (by omega) (by omega) (by omega) (by omega)]
      rfl
     ·cases ik
def fin (s:List Ab×Nat) (L:List (Ab×Nat)):List Ab×Nat:=L.foldl (fun s x=>(ej ag s.1 x.1,x.2)) s
theorem apb {k:Nat} (hk:1000000<k) {p:List Pg} (hb:Bp p) {a:Nat} (D:Option az) (A E:Int):∀ (m:Nat) (b:List Ab) (e:Int) (u n:Nat) (U R:Int),Dh ag b->(∀ r∈b,cZ r=true)->b.length<=60->0<=R->R+100<=1000000 - (100 - m:Int)*0 - m->U=(u:Int)->
  ju k ⟨D,A,E,U,⟨b⟩,R⟩ ((rd p a m b e u n).map fun x=>(x.1,(x.2:Int)))=some ⟨D,A,E,((fin (b,u) (rd p a m b e u n)).2:Int),⟨(fin (b,u) (rd p a m b e u n)).1⟩,R+(rd p a m b e u n).length⟩:=by
 intro m
 induction m with
 |zero=>intro b e u n U R _ _ _ _ _ hU;subst hU;simp[rd,ju,fin]
 |succ m ih=>
  intro b e u n U R hv ru hl hR0 hR hU
  subst hU
  have stop:ju k ⟨D,A,E,(u:Int),⟨b⟩,R⟩ (([]:List (Ab×Nat)).map fun x=>(x.1,(x.2:Int)))=some ⟨D,A,E,((fin (b,u) []).2:Int),⟨(fin (b,u) []).1⟩,R+(([]:List (Ab×Nat)).length:Int)⟩:=by
   simp[ju,fin]
  rw[rd]
  cases hq:recAt p a u n with
  |none=>exact stop
  |some q=>
   obtain⟨⟨g1,g2,g3⟩,g4⟩:=(z8 hb).1 hq
   simp only
   by_cases he:q.2.1<e
   ·rw[if_pos he];exact stop
   ·rw[if_neg he]
    cases cY:iw b q.1 with
    |none=>exact stop
    |some b'=>
     obtain⟨v1,v2⟩:=ad8 hv g1 cY
     obtain⟨i1,_,_,i4⟩:=qo cY
     have ik:=cY
     unfold iw at ik
     split at ik
     ·rename_i hc
      have bQ:(eu b q.1).1=b':=oi ik
      have hh:∀ r∈b,jm r:=fun r hr=>nB (ru r hr)
      simp only[List.map_cons,ju]
      have fU:qt k ⟨D,A,E,(u:Int),⟨b⟩,R⟩ (q.1,((u+q.2.2:Nat):Int))=some ⟨D,A,E,((u+q.2.2:Nat):Int),⟨b'⟩,R+1⟩:=by
       unfold qt
       rw[aaJ hk (b:=⟨b⟩) hv.1 (show b.length<=900 by omega) hh,g1]
       simp only[Am,Af,bQ]
       rw[aV (by omega) (by omega)]
      rw[fU,Af]
      rw[ih b' q.2.1 (u+q.2.2) (n+1) _ (R+1) v1 (fun r hr=>by
       rw[i1,abr]at hr
       rcases hr with rfl|hr
       ·exact g1
       ·exact ru r hr) (by omega) (by omega) (by omega) rfl]
      have hf:fin (b,u) ((q.1,u+q.2.2)::rd p a m b' q.2.1 (u+q.2.2) (n+1))=fin (b',u+q.2.2) (rd p a m b' q.2.1 (u+q.2.2) (n+1)):=by
       unfold fin
       rw[List.foldl_cons,i1]
      rw[hf]
      simp only[AA]
      congr 2
      push_cast
      omega
     ·cases ik
theorem ani (k:Nat) (e n:Int):xr k e n=some ⟨[104,IntKind.u8.wrap (Int.fdiv e (2 ^ 16)),IntKind.u8.wrap (Int.fdiv e (2 ^ 8)),IntKind.u8.wrap e,IntKind.u8.wrap (Int.fdiv n (2 ^ 8)),IntKind.u8.wrap n,
  0,0,0,0,0,0,0,0,0,0,0,0,0,0,0,0,0,0,0,0,0,0,0,0,0,165],rfl⟩:=rfl
def cK (e n:Int):Hf:=⟨[104,IntKind.u8.wrap (Int.fdiv e (2 ^ 16)),IntKind.u8.wrap (Int.fdiv e (2 ^ 8)),IntKind.u8.wrap e,IntKind.u8.wrap (Int.fdiv n (2 ^ 8)),IntKind.u8.wrap n,
  0,0,0,0,0,0,0,0,0,0,0,0,0,0,0,0,0,0,0,0,0,0,0,0,0,165],rfl⟩
def ue (p:List Pg) (a:Nat):List (Ab×Nat):=rd p a 100 [] (aL (hf p a 0)) 1 0
structure Ar where
 dE:Int
 ff:List (Ab×Nat)
def Ar.book (x:Ar):List Ab:=(fin ([],1) x.ff).1
def Ar.used (x:Ar):Nat:=(fin ([],1) x.ff).2
def dV (p:List Pg) (a:Nat):Option Ar:=
 if aL (hf p a 0)≠0/\hf p a 0=cK (aL (hf p a 0)) (bl [bt (hf p a 0) 4,bt (hf p a 0) 5])/\bl [bt (hf p a 0) 4,bt (hf p a 0) 5]<=((ue p a).length:Int) then some ⟨aL (hf p a 0),ue p a⟩ else none
theorem aim {p:List Pg}{a:Nat}:∀ (m:Nat) (b:List Ab) (e:Int) (u n:Nat),(rd p a m b e u n).length<=m
 |0,_,_,_,_=>Bd _
 |m+1,b,e,u,n=>by
  rw[rd]
  split
  ·exact Nat.zero_le _
  ·split
   ·exact Nat.zero_le _
   ·split
    ·exact Nat.zero_le _
    ·rw[AA]
     exact Nat.succ_le_succ (aim m _ _ _ _)
theorem aet {p:List Pg} (hb:Bp p) {a:Nat}:∀ (m m':Nat) (b:List Ab) (e:Int) (u n:Nat),61<=m+b.length->61<=m'+b.length->b.length<=60->rd p a m b e u n=rd p a m' b e u n
 |0,_,b,_,_,_,h1,_,h3=>by omega
 |_+1,0,b,_,_,_,_,h2,h3=>by omega
 |m+1,m'+1,b,e,u,n,h1,h2,h3=>by
  rw[rd,rd]
  cases hq:recAt p a u n with
  |none=>rfl
  |some q=>
   simp only
   by_cases he:q.2.1<e
   ·rw[if_pos he,if_pos he]
   ·rw[if_neg he,if_neg he]
    cases cY:iw b q.1 with
    |none=>rfl
    |some b'=>
     obtain⟨i1,_,_,i4⟩:=qo cY
     have hl:b'.length=b.length+1:=by rw[i1,zo]
     simp only
     rw[aet hb m m' b' q.2.1 _ _ (by omega) (by omega) (by omega)]
theorem apP {k:Nat} (hk:1000000<k) {p:List Pg} (hp:p.length=602) (hb:Bp p) (w:List Aq) {a:Nat} (ha:a<=1):
  j3 k ⟨⟨p,w⟩⟩ (a:Int)=some ((ue p a).map fun x=>(x.1,(x.2:Int))):=by
 unfold j3
 have h0:=vz k hp w ha (show 0<602 by decide)
 rw[CV]at h0
 rw[h0]
 simp only[Af,aa5 k (hb.hf a 0)]
 obtain⟨m,rfl⟩:∃ m,k=m+1:=⟨k - 1,by omega⟩
 have h1:=apN hk hp hb w ha m [] (aL (hf p a 0)) 1 0 ⟨.nil,trivial⟩ (by simp) rfl (by decide) (by decide) (by omega)
 have h2:=aet hb (m+1) 100 [] (aL (hf p a 0)) 1 0 (by simp;omega) (by decide) (by decide) (a:=a)
 rw[h2]at h1
 exact h1
theorem ah9 {k:Nat} (hk:1000000<k) {p:List Pg} (hp:p.length=602) (hb:Bp p) (w:List Aq) {a:Nat} (ha:a<=1):
  ∃ J ok,pk k ⟨⟨p,w⟩⟩ (a:Int)=some (J,ok)/\(match dV p a with|none=>ok=false|some q=>ok=true/\J.aW=(a:Int)/\J.dE=q.dE/\J.book=⟨q.book⟩/\J.used=(q.used:Int)):=by
 have h0:=vz k hp w ha (show 0<602 by decide)
 rw[CV]at h0
 have e4:(hf p a 0).at? 4=some (bt (hf p a 0) 4):=lB _ (i:=4) (by decide)
 have e5:(hf p a 0).at? 5=some (bt (hf p a 0) 5):=lB _ (i:=5) (by decide)
 have B4:=qU (hb.hf a 0) 4
 have B5:=qU (hb.hf a 0) 5
 unfold pk dV oL
 rw[h0]
 simp only[Af,aa5 k (hb.hf a 0),e4,e5,or2 B4 B5]
 by_cases he:aL (hf p a 0)=0
 ·simp only[AD he,AX,Aj]
  rw[if_neg (fun c=>c.1 he)]
  exact⟨_,_,rfl,rfl⟩
 ·simp only[AI he,Bs,Am,ani,Af]
  by_cases hh:hf p a 0=cK (aL (hf p a 0)) (bl [bt (hf p a 0) 4,bt (hf p a 0) 5])
  ·have hv:Aa.eq (fun(x y:Int)=>decide (x=y)) (hf p a 0) (cK (aL (hf p a 0)) (bl [bt (hf p a 0) 4,bt (hf p a 0) 5]))=true:=(qI _ _).2 hh
   unfold cK at hv
   simp only[hv,AX,Aj,apP hk hp hb w ha,Af]
   have ho:=apb hk hb (a:=a) (some ⟨⟨p,w⟩⟩) (a:Int) (aL (hf p a 0)) 100 [] (aL (hf p a 0)) 1 0 1 0 ⟨.nil,trivial⟩ (by simp) (by decide) (by decide) (by decide) rfl
   have hl:=aim (p:=p) (a:=a) 100 [] (aL (hf p a 0)) 1 0
   unfold rQ
   rw[show ue p a=rd p a 100 [] (aL (hf p a 0)) 1 0 from rfl,ho]
   simp only[Af,Int.zero_add]
   refine⟨_,_,rfl,?_⟩
   by_cases hc:bl [bt (hf p a 0) 4,bt (hf p a 0) 5]<=((rd p a 100 [] (aL (hf p a 0)) 1 0).length:Int)
   ·rw[if_pos ⟨he,hh,hc⟩]
    exact⟨AD hc,rfl,rfl,rfl,rfl⟩
   ·rw[if_neg (fun c=>hc c.2.2)]
    exact AI hc
  ·have hv:Aa.eq (fun(x y:Int)=>decide (x=y)) (hf p a 0) (cK (aL (hf p a 0)) (bl [bt (hf p a 0) 4,bt (hf p a 0) 5]))=false:=by
    cases hq:Aa.eq (fun(x y:Int)=>decide (x=y)) (hf p a 0) (cK (aL (hf p a 0)) (bl [bt (hf p a 0) 4,bt (hf p a 0) 5])) with
    |false=>rfl
    |true=>exact absurd ((qI _ _).1 hq) hh
   unfold cK at hv
   simp only[hv,Bs,Am]
   rw[if_neg (fun c=>hh c.2.1)]
   exact⟨_,_,rfl,rfl⟩
def lZ (p:List Pg):Option (Nat×Ar):=match dV p 0,dV p 1 with
 |some x,some y=>if x.dE<y.dE then some (1,y) else some (0,x)
 |some x,none=>some (0,x)
 |none,some y=>some (1,y)
 |none,none=>none
theorem abq {k:Nat} (hk:1000000<k) {p:List Pg} (hp:p.length=602) (hb:Bp p) (w:List Aq):
  ∃ J ok,uJ k ⟨⟨p,w⟩⟩=some (J,ok)/\(match lZ p with|none=>ok=false|some q=>ok=true/\J.aW=(q.1:Int)/\J.dE=q.2.dE/\J.book=⟨q.2.book⟩/\J.used=(q.2.used:Int)):=by
 obtain⟨J0,o0,h0,g0⟩:=ah9 hk hp hb w (a:=0) (by decide)
 obtain⟨J1,o1,h1,g1⟩:=ah9 hk hp hb w (a:=1) (by decide)
 have xV:pk k ⟨⟨p,w⟩⟩ 0=some (J0,o0):=h0
 have td:pk k ⟨⟨p,w⟩⟩ 1=some (J1,o1):=h1
 unfold uJ lZ
 rw[xV,td]
 simp only[Af]
 cases hx:dV p 0 with
 |none=>
  rw[hx]at g0
  simp only at g0
  subst g0
  cases hy:dV p 1 with
  |none=>
   rw[hy]at g1
   simp only at g1
   subst g1
   exact⟨_,_,rfl,rfl⟩
  |some y=>
   rw[hy]at g1
   simp only at g1
   obtain⟨rfl,a2,a3,a4,a5⟩:=g1
   exact⟨_,_,rfl,rfl,a2,a3,a4,a5⟩
 |some x=>
  rw[hx]at g0
  simp only at g0
  obtain⟨rfl,b2,b3,b4,b5⟩:=g0
  cases hy:dV p 1 with
  |none=>
   rw[hy]at g1
   simp only at g1
   subst g1
   exact⟨_,_,rfl,rfl,b2,b3,b4,b5⟩
  |some y=>
   rw[hy]at g1
   simp only at g1
   obtain⟨rfl,a2,a3,a4,a5⟩:=g1
   simp only[Am,b3,a3]
   by_cases ae:x.dE<y.dE
   ·simp only[AD ae,Am,if_pos ae]
    exact⟨_,_,rfl,rfl,a2,a3,a4,a5⟩
   ·simp only[AI ae,Aj,if_neg ae]
    exact⟨_,_,rfl,rfl,b2,b3,b4,b5⟩
theorem amF {k:Nat} (hk:1000000<k) {l:List Ab} (hl:l.length<=100000):fq k l l=some true:=by
 unfold fq
 simp only[BC,AX,Aj]
 have h:=ab6 (l:=l) (body:=fq.b0 k l l) (p:=fun _=>true) (c:=false) (by omega) (k:=k) (by omega) (fun i x hx=>by
  have hi:=(gS.1 hx).1
  unfold fq.b0
  simp only[AD (show (i:Int)<(l.length:Int) by omega),Am,bC hx,Af,BC,BO,beq_self_eq_true,AX,Aj]) (by
  unfold fq.b0
  simp only[(by simp:decide ((l.length:Int)<(l.length:Int))=false),Aj])
 rw[h]
 have:l.all (fun _=>true)=true:=by simp
 rw[this]
 rfl
theorem Bp.ak {w:List Aq} (hw:∀ x∈w,∀ h∈x.AE.l,AY h.l):∀ {p:List Pg},Bp p->Bp (ak p w):=by
 induction w with
 |nil=>intro p h;exact h
 |cons x w ih=>
  intro p h
  refine ih (fun y hy=>hw y (by simp[hy])) (fun g hg=>?_)
  rcases List.mem_or_eq_of_mem_set hg with g1|rfl
  ·exact h g g1
  ·exact hw x (by simp)
structure DB (d:Ac):Prop where
 ok:j5 d=true
 pb:Bp d.Ae
 wb:∀ x∈d.Ad,∀ h∈x.AE.l,AY h.l
theorem DB.new {d:Ac} (h:DB d):Bp (ak d.Ae d.Ad):=Bp.ak h.wb h.pb
theorem DB.len {d:Ac} (h:DB d):(ak d.Ae d.Ad).length=602:=by rw[aoJ];exact(gj.1 h.ok).1
structure FG (d:Ac) (l:Ay) (q:Nat×Ar):Prop where
 adZ:lZ (ak d.Ae d.Ad)=some q
 le:q.1<=1
 aW:l.BB=(q.1:Int)
 used:l.Used=(q.2.used:Int)
 book:l.Ai=⟨q.2.book⟩
 short:q.2.book.length<=60
 ep:1<=l.AG/\l.AG<=1000000
 m0:mx (ak d.Ae d.Ad) 0 0<=l.AG
 m1:mx (ak d.Ae d.Ad) 1 0<=l.AG
 mu:mx (ak d.Ae d.Ad) q.1 q.2.used<l.AG
theorem ajt {x lo hi:Int} (h:lo<=x/\x<=hi):within x lo hi=true:=by unfold within;simp[h.1,h.2]
theorem alK {k:Nat} (hk:1000000<k) {d:Ac} (hd:DB d) {l:Ay}{q:Nat×Ar} (h:FG d l q):kJ k d l=some 0:=by
 obtain⟨J,ok,h1,h2⟩:=abq hk hd.len hd.new []
 rw[h.adZ]at h2
 simp only at h2
 obtain⟨rfl,ha,he,vC,hu⟩:=h2
 have E0:=nU hk hd.len hd.new [] (a:=0) (by decide) 0
 have E1:=nU hk hd.len hd.new [] (a:=1) (by decide) 0
 have E2:=nU hk hd.len hd.new [] h.le q.2.used
 have DI:dy k ⟨⟨ak d.Ae d.Ad,[]⟩⟩ 0 0=some (mx (ak d.Ae d.Ad) 0 0):=E0
 have DJ:dy k ⟨⟨ak d.Ae d.Ad,[]⟩⟩ 1 0=some (mx (ak d.Ae d.Ad) 1 0):=E1
 have rr:=h.m0
 have cY:=h.m1
 have hmu:=h.mu
 have hs:=h.short
 unfold kJ
 rw[oD hk,hd.ok]
 simp only[Af,AX,Aj]
 rw[na hd.ok]
 simp only[Af]
 rw[uk hk hd.ok]
 simp only[Af,h1,Am,h.aW,ha,hu,h.used,BC,vC,h.book,amF hk (show q.2.book.length<=100000 by omega),zp,ajt h.ep,AX,Aj,DI,DJ]
 rw[AI (show ¬ l.AG<max (mx (ak d.Ae d.Ad) 0 0) (mx (ak d.Ae d.Ad) 1 0) by omega)]
 simp only[Bs,Am,E2,Af]
 rw[AI (show ¬ l.AG<=mx (ak d.Ae d.Ad) q.1 q.2.used by omega)]
 rfl
theorem apd {k:Nat} (hk:1000000<k) {d:Ac} (hd:DB d) {q:Nat×Ar} (h:lZ (ak d.Ae d.Ad)=some q) (hm:max (mx (ak d.Ae d.Ad) 0 0) (mx (ak d.Ae d.Ad) 1 0)<1000000):
  nP k d=some (⟨ak d.Ae d.Ad,[]⟩,⟨⟨q.2.book⟩,(q.1:Int),1+max (mx (ak d.Ae d.Ad) 0 0) (mx (ak d.Ae d.Ad) 1 0),(q.2.used:Int)⟩,0):=by
 obtain⟨J,ok,h1,h2⟩:=abq hk hd.len hd.new []
 rw[h]at h2
 simp only at h2
 obtain⟨rfl,ha,he,vC,hu⟩:=h2
 have DI:dy k ⟨⟨ak d.Ae d.Ad,[]⟩⟩ 0 0=some (mx (ak d.Ae d.Ad) 0 0):=nU hk hd.len hd.new [] (a:=0) (by decide) 0
 have DJ:dy k ⟨⟨ak d.Ae d.Ad,[]⟩⟩ 1 0=some (mx (ak d.Ae d.Ad) 1 0):=nU hk hd.len hd.new [] (a:=1) (by decide) 0
 have n0:=vX (ak d.Ae d.Ad) 0 0
 have n1:=vX (ak d.Ae d.Ad) 1 0
 have hw:ab (1+max (mx (ak d.Ae d.Ad) 0 0) (mx (ak d.Ae d.Ad) 1 0))=1+max (mx (ak d.Ae d.Ad) 0 0) (mx (ak d.Ae d.Ad) 1 0):=aV (by omega) (by omega)
 unfold nP
 rw[oD hk,hd.ok]
 simp only[Af,AX,Aj]
 rw[na hd.ok]
 simp only[Af]
 rw[uk hk hd.ok]
 simp only[Af,h1,AX,Aj,DI,DJ,hw,vC,ha,hu]
 rw[AI (show ¬ (1000000:Int)<1+max (mx (ak d.Ae d.Ad) 0 0) (mx (ak d.Ae d.Ad) 1 0) by omega)]
 rfl
def ph (p:List Pg) (j s:Nat):Hf:=match p[j]? with
 |some g=>(g.l[s]?).getD hz
 |none=>hz
theorem ano (p:List Pg) (a i:Nat):hf p a i=ph p (301*a+i / 2) (i % 2):=rfl
def sd (g:Pg) (s:Nat):Hf:=(g.l[s]?).getD hz
theorem uc {p:List Pg}{j:Nat}{g:Pg} (h:p[j]?=some g) (s:Nat):ph p j s=sd g s:=by unfold ph;rw[h];rfl
theorem aih {p:List Pg}{j:Nat} (hj:j<p.length) (g:Pg) (j' s:Nat):ph (p.set j g) j' s=if j'=j then sd g s else ph p j' s:=by
 by_cases e:j'=j
 ·subst e
  rw[if_pos rfl,uc (by rw[List.getElem?_set_self hj])]
 ·rw[if_neg e]
  unfold ph
  rw[List.getElem?_set_ne (Ne.symm e)]
theorem wq (g:Pg) {s:Nat} (hs:s<2) (x:Hf) (s':Nat):sd (g.set (s:Int) x) s'=if s'=s then x else sd g s':=by
 have hl:=g.h
 unfold sd Aa.set
 simp only[Cl]
 by_cases e:s'=s
 ·subst e
  rw[if_pos rfl,List.getElem?_set_self (by omega)];rfl
 ·rw[if_neg e,List.getElem?_set_ne (Ne.symm e)]
theorem sr (g:Pg) {s:Nat} (hs:s<2):g.at? (s:Int)=some (sd g s):=by
 have:=ab3 g s
 rw[Nat.mod_eq_of_lt hs]at this
 exact this
def GH (kr new p:List Pg):Prop:=∀ j s,ph p j s=ph kr j s\/ph p j s=ph new j s
theorem abO {k:Nat}{p:List Pg} (hp:p.length=602) {w:Aq} (hw:0<=w.At/\w.At<=601) {s:Nat} (hs:s<2):
  ∃ g,at? p w.At=some g/\dJ p w.At (g.set (s:Int) (sd w.AE s))=some (p.set w.At.toNat (g.set (s:Int) (sd w.AE s)))/\∀ j' s',ph (p.set w.At.toNat (g.set (s:Int) (sd w.AE s))) j' s'=if j'=w.At.toNat/\s'=s then sd w.AE s else ph p j' s':=by
 have hj:w.At.toNat<p.length:=by omega
 refine⟨p[w.At.toNat],?_,?_,fun j' s'=>?_⟩
 ·unfold at?
  rw[if_pos ⟨by omega,by omega⟩,gG hj]
 ·unfold dJ
  rw[if_pos ⟨by omega,by omega⟩]
 ·rw[aih hj,wq _ hs]
  by_cases e:j'=w.At.toNat
  ·subst e
   by_cases e2:s'=s
   ·rw[if_pos rfl,if_pos e2,if_pos ⟨rfl,e2⟩]
   ·rw[if_pos rfl,if_neg e2,if_neg (fun c=>e2 c.2),uc (gG hj)]
  ·rw[if_neg e,if_neg (fun c=>e c.1)]
def Part (p p':List Pg) (w:Aq):Prop:=p'.length=602/\∀ j s,ph p' j s=ph p j s\/(j=w.At.toNat/\ph p' j s=sd w.AE s)
theorem aiP {R:Type}{w:Aq} (hw:0<=w.At/\w.At<=601) {body:Int×List Pg->Option (AT (Int×List Pg) (List Pg) R)}{c:Nat->Bool}
  (h1:∀ (s:Nat) p,s<2->p.length=602->body ((s:Int),p)=bif c s then (w.AE.at? (s:Int)).bind fun x=>(at? p w.At).bind fun g=>(g.at? (s:Int)).bind fun _=>(dJ p w.At (g.set (s:Int) x)).bind fun l=>some (.next (ab ((s:Int)+1),l)) else some (.next (ab ((s:Int)+1),p)))
  (h2:∀ p,body (2,p)=some (.brk p)) {p:List Pg} (hp:p.length=602) (m:Nat):∃ p',aj body (m+3) (0,p)=some (.brk p')/\Part p p' w:=by
 have w1:ab (((0:Nat):Int)+1)=((1:Nat):Int):=by decide
 have w2:ab (((1:Nat):Int)+1)=2:=by decide
 have one:∀ (s:Nat) (p:List Pg),s<2->p.length=602->∃ p',body ((s:Int),p)=some (.next (ab ((s:Int)+1),p'))/\Part p p' w:=by
  intro s p hs hp
  rw[h1 s p hs hp]
  cases c s with
  |false=>exact⟨p,rfl,hp,fun j s=>.inl rfl⟩
  |true=>
   obtain⟨g,g1,g3,g4⟩:=abO (k:=0) hp hw hs
   refine⟨p.set w.At.toNat (g.set (s:Int) (sd w.AE s)),?_,by rw[C5];exact hp,fun j s'=>?_⟩
   ·simp only[Am,sr w.AE hs,sr g hs,g1,g3,Af]
   ·rw[g4]
    by_cases e:j=w.At.toNat/\s'=s
    ·rw[if_pos e];exact .inr ⟨e.1,by rw[e.2]⟩
    ·rw[if_neg e];exact .inl rfl
 obtain⟨p1,a1,b1,b2⟩:=one 0 p (by decide) hp
 obtain⟨p2,a2,c1,c2⟩:=one 1 p1 (by decide) b1
 rw[w1]at a1
 rw[w2]at a2
 refine⟨p2,?_,c1,fun j s=>?_⟩
 ·have a1':body (0,p)=some (.next (((1:Nat):Int),p1)):=a1
  simp only[aj,a1',a2,h2]
 ·rcases c2 j s with e|⟨e1,e2⟩
  ·rcases b2 j s with f|⟨f1,f2⟩
   ·exact .inl (e.trans f)
   ·exact .inr ⟨f1,e.trans f2⟩
  ·exact .inr ⟨e1,e2⟩
def pz:Pg:=Aa.rep 2 hz
def eZ (p:List Pg) (a u:Nat) (l:List Hf):Nat->Nat->List Aq
 |0,_=>[]
 |f+1,i=>match l[i]? with
  |none=>[]
  |some x=>if (u+i) % 2=1 then ⟨((301*a+(u+i) / 2:Nat):Int),((p[301*a+(u+i) / 2]?).getD pz).set 1 x⟩::eZ p a u l f (i+1) else match l[i+1]? with
   |none=>[⟨((301*a+(u+i) / 2:Nat):Int),((p[301*a+(u+i) / 2]?).getD pz).set 0 x⟩]
   |some y=>⟨((301*a+(u+i) / 2:Nat):Int),(((p[301*a+(u+i) / 2]?).getD pz).set 0 x).set 1 y⟩::eZ p a u l f (i+2)
theorem aq5 {k:Nat} (hk:1000000<k) {p:List Pg} (hp:p.length=602) {a u:Nat} (ha:a<=1) {l:List Hf} (cD:u+l.length<=602):∀ (f i m:Nat) (ws:List Aq),l.length - i<=f->f<m->i<=l.length->ws.length+f<=100000->
  aj (bT.b0 k (a:Int) (u:Int) l ⟨⟨p,[]⟩⟩) m ((i:Int),ws)=some (.brk (ws++eZ p a u l f i)):=by
 intro f
 induction f with
 |zero=>
  intro i m ws h1 h2 h3 h4
  obtain⟨m,rfl⟩:∃ q,m=q+1:=⟨m - 1,by omega⟩
  have hb:bT.b0 k (a:Int) (u:Int) l ⟨⟨p,[]⟩⟩ ((i:Int),ws)=some (.brk ws):=by
   unfold bT.b0
   simp only[AI (show ¬ (i:Int)<(l.length:Int) by omega),Aj]
  simp only[aj,hb,eZ,List.append_nil]
 |succ f ih=>
  intro i m ws h1 h2 h3 h4
  obtain⟨m,rfl⟩:∃ q,m=q+1:=⟨m - 1,by omega⟩
  by_cases hi:i<l.length
  ·obtain⟨x,hx⟩:∃ x,l[i]?=some x:=⟨_,gG hi⟩
   have rz:ab ((u:Int)+(i:Int))=((u+i:Nat):Int):=by rw[aV (by omega) (by omega)];omega
   have eU:ab ((i:Int)+1)=((i+1:Nat):Int):=by rw[aV (by omega) (by omega)];omega
   have za:ab ((u:Int)+((i+1:Nat):Int))=((u+(i+1):Nat):Int):=by rw[aV (by omega) (by omega)];omega
   have hg:p[301*a+(u+i) / 2]?=some (p[301*a+(u+i) / 2]'(by omega)):=gG (by omega)
   obtain⟨g,bm⟩:∃ g,p[301*a+(u+i) / 2]?=some g:=⟨_,hg⟩
   have pZ:=aaL hp ha (show u+i<602 by omega)
   obtain⟨k',rfl⟩:∃ k',k=k'+2:=⟨k - 2,by omega⟩
   have yW:∀ v:Aq,fG 72 ws v=some (ws++[v]):=fun v=>qx (by omega) (by omega)
   by_cases nm:(u+i) % 2=1
   ·have bB:bT.b1 (k'+2) (u:Int) l (g,(i:Int))=some (.brk (g.set 1 x,((i+1:Nat):Int))):=by
     unfold bT.b1
     have hm:Int.tmod ((u+i:Nat):Int) 2=((1:Nat):Int):=by rw[qn,nm]
     have cY:Int.tmod ((u+(i+1):Nat):Int) 2=0:=by rw[qn];omega
     simp only[bC hx,Af,rz,hm,sr g (show 1<2 by decide),eU,za,cY,BC,Am]
     cases decide (((i+1:Nat):Int)=(l.length:Int))<;>rfl
    have hb:bT.b0 (k'+2) (a:Int) (u:Int) l ⟨⟨p,[]⟩⟩ ((i:Int),ws)=some (.next (((i+1:Nat):Int),ws++[⟨((301*a+(u+i) / 2:Nat):Int),g.set 1 x⟩])):=by
     unfold bT.b0
     simp only[AD (show (i:Int)<(l.length:Int) by omega),Am,rz,pZ,bC bm,Af,aj,bB,yW]
    simp only[aj,hb]
    rw[ih (i+1) m _ (by omega) (by omega) (by omega) (by simp;omega)]
    rw[eZ,hx]
    simp only[if_pos nm,bm,Option.getD_some]
    simp
   ·have hm:Int.tmod ((u+i:Nat):Int) 2=((0:Nat):Int):=by rw[qn];omega
    have cY:¬ Int.tmod ((u+(i+1):Nat):Int) 2=0:=by rw[qn];omega
    by_cases gp:i+1=l.length
    ·have bB:bT.b1 (k'+2) (u:Int) l (g,(i:Int))=some (.brk (g.set 0 x,((i+1:Nat):Int))):=by
      unfold bT.b1
      simp only[bC hx,Af,rz,hm,sr g (show 0<2 by decide),eU,AD (show ((i+1:Nat):Int)=(l.length:Int) by omega),AX,Aj]
      rfl
     have hb:bT.b0 (k'+2) (a:Int) (u:Int) l ⟨⟨p,[]⟩⟩ ((i:Int),ws)=some (.next (((i+1:Nat):Int),ws++[⟨((301*a+(u+i) / 2:Nat):Int),g.set 0 x⟩])):=by
      unfold bT.b0
      simp only[AD (show (i:Int)<(l.length:Int) by omega),Am,rz,pZ,bC bm,Af,aj,bB,yW]
     have hn:l[i+1]?=none:=CL (by omega)
     have vH:eZ p a u l f (i+1)=[]:=by
      cases f with
      |zero=>rfl
      |succ f=>rw[eZ,hn]
     simp only[aj,hb]
     rw[ih (i+1) m _ (by omega) (by omega) (by omega) (by simp;omega),vH]
     rw[eZ,hx]
     simp only[if_neg nm,hn,bm,Option.getD_some]
     simp
    ·obtain⟨y,hy⟩:∃ y,l[i+1]?=some y:=⟨_,gG (by omega)⟩
     have lS:ab (((i+1:Nat):Int)+1)=((i+2:Nat):Int):=by rw[aV (by omega) (by omega)];omega
     have anT:ab ((u:Int)+((i+2:Nat):Int))=((u+(i+2):Nat):Int):=by rw[aV (by omega) (by omega)];omega
     have ik:Int.tmod ((u+(i+1):Nat):Int) 2=((1:Nat):Int):=by rw[qn];omega
     have hm3:Int.tmod ((u+(i+2):Nat):Int) 2=0:=by rw[qn];omega
     have adB:bT.b1 (k'+2) (u:Int) l (g,(i:Int))=some (.next (g.set 0 x,((i+1:Nat):Int))):=by
      unfold bT.b1
      simp only[bC hx,Af,rz,hm,sr g (show 0<2 by decide),eU,AI (show ¬ ((i+1:Nat):Int)=(l.length:Int) by omega),Bs,Am,za,AI cY,Aj]
      rfl
     have ant:bT.b1 (k'+2) (u:Int) l (g.set 0 x,((i+1:Nat):Int))=some (.brk ((g.set 0 x).set 1 y,((i+2:Nat):Int))):=by
      unfold bT.b1
      simp only[bC hy,Af,za,ik,sr (g.set 0 x) (show 1<2 by decide),lS,anT,hm3,BC,Am]
      cases decide (((i+2:Nat):Int)=(l.length:Int))<;>rfl
     have hb:bT.b0 (k'+2) (a:Int) (u:Int) l ⟨⟨p,[]⟩⟩ ((i:Int),ws)=some (.next (((i+2:Nat):Int),ws++[⟨((301*a+(u+i) / 2:Nat):Int),(g.set 0 x).set 1 y⟩])):=by
      unfold bT.b0
      simp only[AD (show (i:Int)<(l.length:Int) by omega),Am,rz,pZ,bC bm,Af,aj,adB,ant,yW]
     simp only[aj,hb]
     rw[ih (i+2) m _ (by omega) (by omega) (by omega) (by simp;omega)]
     rw[eZ,hx]
     simp only[if_neg nm,hy,bm,Option.getD_some]
     simp
  ·have hn:l[i]?=none:=CL (by omega)
   have hb:bT.b0 k (a:Int) (u:Int) l ⟨⟨p,[]⟩⟩ ((i:Int),ws)=some (.brk ws):=by
    unfold bT.b0
    simp only[AI (show ¬ (i:Int)<(l.length:Int) by omega),Aj]
   simp only[aj,hb]
   rw[eZ,hn]
   simp
abbrev abm (a u i n j s:Nat):Prop:=301*a<=j/\j<301*a+301/\u+i<=2*(j - 301*a)+s/\2*(j - 301*a)+s<u+n
def tg (p:List Pg) (a u:Nat) (l:List Hf) (i j s:Nat):Hf:=if abm a u i l.length j s then (l[2*(j - 301*a)+s - u]?).getD hz else ph p j s
theorem ab8 (p:List Pg) (a u:Nat) (l:List Hf):∀ f i,(eZ p a u l f i).length<=l.length - i
 |0,i=>by simp[eZ]
 |f+1,i=>by
  rw[eZ]
  cases hx:l[i]? with
  |none=>simp
  |some x=>
   have hi:=(gS.1 hx).1
   simp only
   split
   ·have:=ab8 p a u l f (i+1)
    rw[AA];omega
   ·cases hy:l[i+1]? with
    |none=>simp;omega
    |some y=>
     have hi1:=(gS.1 hy).1
     have:=ab8 p a u l f (i+2)
     simp only[AA];omega
theorem aeQ {p:List Pg} (hp:p.length=602) {a u:Nat} (ha:a<=1) {l:List Hf} (cD:u+l.length<=602):∀ f i,((u+i) % 2=1->i=0)->∀ w∈eZ p a u l f i,(0<=w.At/\w.At<=601)/\∀ s,s<2->sd w.AE s=tg p a u l 0 w.At.toNat s
 |0,i,_,w,hw=>by simp[eZ]at hw
 |f+1,i,ho,w,hw=>by
  rw[eZ]at hw
  cases hx:l[i]? with
  |none=>rw[hx]at hw;simp at hw
  |some x=>
   have hi:=(gS.1 hx).1
   have hg:p[301*a+(u+i) / 2]?=some (p[301*a+(u+i) / 2]'(by omega)):=gG (by omega)
   obtain⟨g,bm⟩:∃ g,p[301*a+(u+i) / 2]?=some g:=⟨_,hg⟩
   rw[hx]at hw
   simp only[bm,Option.getD_some]at hw
   split at hw
   ·rename_i nm
    rcases BE.1 hw with rfl|hw
    ·refine⟨by simp only;omega,fun s hs=>?_⟩
     simp only[Cl]
     rw[show (1:Int)=((1:Nat):Int) from rfl,wq g (show 1<2 by decide)]
     have h0:=ho nm
     unfold tg abm
     by_cases e:s=1
     ·rw[if_pos e,if_pos (by omega),show 2*(301*a+(u+i) / 2 - 301*a)+s - u=i by omega,hx];rfl
     ·rw[if_neg e,if_neg (by omega),uc bm]
    ·exact aeQ hp ha cD f (i+1) (by omega) w hw
   ·rename_i vI
    cases hy:l[i+1]? with
    |none=>
     have hi1:l.length<=i+1:=List.getElem?_eq_none_iff.1 hy
     rw[hy]at hw
     simp only[CM]at hw
     subst hw
     refine⟨by simp only;omega,fun s hs=>?_⟩
     simp only[Cl]
     rw[show (0:Int)=((0:Nat):Int) from rfl,wq g (show 0<2 by decide)]
     unfold tg abm
     by_cases e:s=0
     ·rw[if_pos e,if_pos (by omega),show 2*(301*a+(u+i) / 2 - 301*a)+s - u=i by omega,hx];rfl
     ·rw[if_neg e,if_neg (by omega),uc bm]
    |some y=>
     have hi1:=(gS.1 hy).1
     rw[hy]at hw
     simp only at hw
     rcases BE.1 hw with rfl|hw
     ·refine⟨by simp only;omega,fun s hs=>?_⟩
      simp only[Cl]
      rw[show (1:Int)=((1:Nat):Int) from rfl,wq _ (show 1<2 by decide),show (0:Int)=((0:Nat):Int) from rfl,wq g (show 0<2 by decide)]
      unfold tg abm
      by_cases e:s=1
      ·rw[if_pos e,if_pos (by omega),show 2*(301*a+(u+i) / 2 - 301*a)+s - u=i+1 by omega,hy];rfl
      ·rw[if_neg e,if_pos (by omega),if_pos (by omega),show 2*(301*a+(u+i) / 2 - 301*a)+s - u=i by omega,hx];rfl
     ·exact aeQ hp ha cD f (i+2) (by omega) w hw
theorem aq6 {k:Nat} (hk:1000000<k) {d:Ac} (hd:DB d) {a u:Nat} (ha:a<=1) {l:List Hf} (cD:u+l.length<=602):
  bT k ⟨d⟩ (a:Int) (u:Int) l=some ⟨⟨d.Ae,d.Ad++eZ (ak d.Ae d.Ad) a u l l.length 0⟩⟩:=by
 obtain⟨h1,h2,h3⟩:=gj.1 hd.ok
 unfold bT
 simp only
 rw[na hd.ok]
 simp only[Af]
 rw[uk hk hd.ok]
 simp only[Af]
 have:=aq5 hk hd.len ha cD l.length 0 k d.Ad (by omega) (by omega) (by omega) (by omega)
 rw[CV]at this
 rw[this]
 rfl
theorem ak0 {k:Nat} (hk:1000000<k) {d:Ac} (hd:DB d) {l:Ay}{q:Nat×Ar} (hL:FG d l q) {r:Ab} (hr:cZ r=true) (hs:CD ag l.Ai.Al) (hh:∀ x∈l.Ai.Al,jm x) (ha:eu l.Ai.Al r=(l.Ai.Al,0)):
  jY k d l r=some (d,l,0):=by
 have gF:l.Ai.Al.length<=60:=by rw[hL.book];exact hL.short
 unfold jY
 rw[alK hk hd hL]
 simp only[Af,BC,AX,Aj]
 rw[aaJ hk (b:=l.Ai) hs (show l.Ai.Al.length<=900 by omega) hh,hr,ha]
 simp only[Am,Af,BC,AX,Aj]
 rw[na hd.ok]
 simp only[Af]
 unfold xn
 rw[acM (show l.Ai.Al.length<=1000 by omega)]
 simp only[Af,BC,Am]
def jN:List Pg:=(List.replicate 602 pz).set 0 (pz.set 0 (cK 1 0))
def IX (p q:List Pg) (a:Nat):Prop:=∀ i,i<602->hf p a i=hf q a i
theorem alw (e n:Int):bt (cK e n) 0=104/\bt (cK e n) 1=IntKind.u8.wrap (Int.fdiv e (2 ^ 16))/\bt (cK e n) 2=IntKind.u8.wrap (Int.fdiv e (2 ^ 8))/\bt (cK e n) 3=IntKind.u8.wrap e/\bt (cK e n) 4=IntKind.u8.wrap (Int.fdiv n (2 ^ 8))/\bt (cK e n) 5=IntKind.u8.wrap n/\bt (cK e n) 31=165:=
 ⟨rfl,rfl,rfl,rfl,rfl,rfl,rfl⟩
theorem amA {e:Int} (he:1<=e/\e<=1000000) (n:Int):aL (cK e n)=e:=by
 obtain⟨h0,h1,h2,h3,_,_,xW⟩:=alw e n
 have hr:bl [bt (cK e n) 1,bt (cK e n) 2,bt (cK e n) 3]=e:=by
  rw[h1,h2,h3,<-nN,rd3 (by omega) (by omega)]
 unfold aL
 rw[hr,if_pos ⟨.inl h0,xW,he.2⟩]
theorem aa4:aL hz=0:=by decide +kernel
def nE (log:List Ab):Nat:=1+(log.map fun r=>bD (enc r).length).sum
def ahC (e0:Int) (ep:Nat->Int):Nat->Int
 |0=>e0
 |j+1=>ep j
structure EV (log:List Ab):Prop where
 ok:∀ r∈log,cZ r=true
 vl:VL ag (fun _=>0) log
 len:log.length<=50
theorem EV.no {log:List Ab} (h:EV log) {j:Nat}{r:Ab} (hx:log[j]?=some r):(ag r).2=ax ag (log.take j) (ag r).1:=by
 rw[(HO ag).1 h.vl j r hx];exact Int.zero_add _
structure Jr (d:Ac) (l:Ay) (log:List Ab) (mA:Nat) (a:Nat) (e0 c:Int) (ep:Nat->Int):Prop where
 db:DB d
 a1:a<=1
 arz:EV log
 arv:mA<=log.length
 aW:l.BB=(a:Int)
 book:l.Ai=⟨bk ag [] log⟩
 used:l.Used=(nE log:Int)
 epo:1<=l.AG/\l.AG<=1000000
 he0:1<=e0/\e0<=1000000
 hc:0<=c/\c<=mA
 arH:hf (ak d.Ae d.Ad) a 0=cK e0 c
 arI:hf d.Ae a 0=cK e0 c
 ff:∀ j r,log[j]?=some r->DM (ak d.Ae d.Ad) a (nE (log.take j)) j r (ep j)
 mono:∀ j,j<log.length->ahC e0 ep j<=ep j
 late:∀ j,mA<=j->j<log.length->ep j=l.AG
 bound:∀ b i,b<=1->i<602->aL (hf (ak d.Ae d.Ad) b i)<=l.AG/\aL (hf d.Ae b i)<=l.AG
 free:∀ i,nE log<=i->i<602->aL (hf (ak d.Ae d.Ad) a i)<l.AG/\hf d.Ae a i=hf (ak d.Ae d.Ad) a i
 arw:∀ i,i<nE (log.take mA)->hf d.Ae a i=hf (ak d.Ae d.Ad) a i
 soft:∀ i,nE (log.take mA)<=i->i<nE log->aL (hf (ak d.Ae d.Ad) a i)=l.AG/\aL (hf d.Ae a i)<l.AG
 other:IX d.Ae (ak d.Ae d.Ad) (1 - a)
 pick:∀ y,dV (ak d.Ae d.Ad) (1 - a)=some y->if a=0 then y.dE<=e0 else y.dE<e0
 stop:∀ r e,DM d.Ae a (nE (log.take mA)) mA r e->ahC e0 ep mA<=e->iw (bk ag [] (log.take mA)) r=none
 waits:∀ w∈d.Ad,∀ s,sd w.AE s=ph d.Ae w.At.toNat s\/sd w.AE s=ph (ak d.Ae d.Ad) w.At.toNat s
 ar6:d.Ad.length<=10*log.length
section
variable {d:Ac}{l:Ay}{log:List Ab}{mA a:Nat}{e0 c:Int}{ep:Nat->Int}
theorem DM.ep0 {p:List Pg}{a f n:Nat}{r:Ab}{e:Int} (h:DM p a f n r e) {i:Nat} (hi:i<(cC r n e).length):aL (hf p a (f+i))=e:=by
 obtain⟨x,hx⟩:∃ x,(cC r n e)[i]?=some x:=⟨_,gG hi⟩
 rw[h.run.2 i x hx,am3 hx]
 exact ac1 h.ep _ _ _ _
theorem DM.at0 {p:List Pg}{a f n:Nat}{r:Ab}{e:Int} (h:DM p a f n r e):aL (hf p a f)=e:=by
 have:=h.ep0 (i:=0) (by rw[kO];exact uS r)
 simpa using this
end
section
variable {d:Ac}{l:Ay}{log:List Ab}{mA a:Nat}{e0 c:Int}{ep:Nat->Int}
theorem DB.sync {d:Ac} (h:DB d):DB ⟨ak d.Ae d.Ad,[]⟩:=by
 refine⟨gj.2 ⟨h.len,by simp,by simp⟩,h.new,by simp⟩
theorem abt (p:List Pg):ak p []=p:=rfl
theorem GH.pb {kr new p:List Pg} (h:GH kr new p) (ho:Bp kr) (hn:Bp new):Bp p:=by
 have one:∀ (q:List Pg),Bp q->∀ j s,AY (ph q j s).l:=fun q hq j s=>by
  have rB:AY hz.l:=by
   intro y hy
   have:y=0:=by
    simp only[hz,Aa.rep,List.mem_replicate]at hy
    exact hy.2
   omega
  unfold ph
  cases hg:q[j]? with
  |none=>exact rB
  |some g=>
   simp only
   cases hx:g.l[s]? with
   |none=>exact rB
   |some x=>exact hq g (AW hg) x (AW hx)
 intro g hg x hx
 obtain⟨j,hj⟩:=BD.1 hg
 obtain⟨s,hs⟩:=BD.1 hx
 have e:ph p j s=x:=by rw[uc hj];unfold sd;rw[hs];rfl
 rcases h j s with g1|g1
 ·rw[<-e,g1];exact one kr ho j s
 ·rw[<-e,g1];exact one new hn j s
end
theorem yx (b i:Nat) (hb:b<=1) (hi:i<602):hf jN b i=if b=0/\i=0 then cK 1 0 else hz:=by
 have hl:(List.replicate 602 pz).length=602:=CU
 rw[ano]
 unfold jN
 rw[aih (by rw[hl];decide),show (0:Int)=((0:Nat):Int) from rfl,wq pz (show 0<2 by decide)]
 have hpz:∀ s,s<2->sd pz s=hz:=fun s hs=>by
  have:s=0\/s=1:=by omega
  rcases this with rfl|rfl<;>rfl
 by_cases h1:301*b+i / 2=0
 ·rw[if_pos h1]
  by_cases h2:i % 2=0
  ·rw[if_pos h2,if_pos (by omega)]
  ·rw[if_neg h2,if_neg (by omega),hpz _ (by omega)]
 ·rw[if_neg h1,if_neg (by omega),uc (g:=pz) (by rw[List.getElem?_replicate,if_pos (by omega)]),hpz _ (by omega)]
theorem aoS:DB ⟨jN,[]⟩:=by
 have hz0:AY hz.l:=by
  intro y hy
  have:y=0:=by
   simp only[hz,Aa.rep,List.mem_replicate]at hy
   exact hy.2
  omega
 have hh:AY (cK 1 0).l:=by
  unfold AY;decide
 refine⟨gj.2 ⟨by unfold jN;rw[C5];exact CU,by simp,by simp⟩,fun g hg x hx=>?_,by simp⟩
 simp only[jN]at hg
 rcases List.mem_or_eq_of_mem_set hg with g1|rfl
 ·rw[List.mem_replicate]at g1
  rw[g1.2]at hx
  have:x=hz:=by
   simp only[pz,Aa.rep,List.mem_replicate]at hx
   exact hx.2
  rw[this];exact hz0
 ·have:x=cK 1 0\/x=hz:=by
   simp only[pz,Aa.rep,Aa.set,Int.toNat_zero,List.replicate,List.set_cons_zero,BE,List.not_mem_nil,or_false]at hx
   exact hx
  rcases this with rfl|rfl
  ·exact hh
  ·exact hz0
theorem Jr.new:Jr ⟨jN,[]⟩ ⟨⟨[]⟩,0,1,1⟩ [] 0 0 1 0 (fun _=>1):=by
 have hhd:hf jN 0 0=cK 1 0:=by rw[yx 0 0 (by decide) (by decide),if_pos ⟨rfl,rfl⟩]
 have hE:∀ b i,b<=1->i<602->aL (hf jN b i)<=1:=fun b i hb hi=>by
  rw[yx b i hb hi]
  split
  ·rw[amA ⟨by decide,by decide⟩];decide
  ·rw[aa4];decide
 refine⟨aoS,by decide,⟨by simp,trivial,by simp⟩,Bd _,rfl,rfl,rfl,⟨by decide,by decide⟩,⟨by decide,by decide⟩,⟨by decide,by decide⟩,hhd,hhd,by simp,by simp,by simp,fun b i hb hi=>⟨hE b i hb hi,hE b i hb hi⟩,fun i h1 h2=>⟨?_,rfl⟩,fun i _=>rfl,fun i h1 h2=>?_,fun i _=>rfl,fun y hy=>?_,fun r e hr he=>?_,by simp,by simp⟩
 ·show aL (hf jN 0 i)<1
  have:1<=i:=h1
  rw[yx 0 i (by decide) h2,if_neg (by omega),aa4];decide
 ·have e1:nE (([]:List Ab).take 0)=1:=rfl
  have e2:nE ([]:List Ab)=1:=rfl
  omega
 ·exfalso
  have h0:dV jN 1=some y:=hy
  unfold dV at h0
  have e1:hf jN 1 0=hz:=by rw[yx 1 0 (by decide) (by decide),if_neg (by decide)]
  rw[e1,aa4,if_neg (fun c=>c.1 rfl)]at h0
  cases h0
 ·exfalso
  have h1:=hr.at0
  have e1:nE (([]:List Ab).take 0)=1:=rfl
  have h2:hf (Ac.mk jN []).Ae 0 (nE (([]:List Ab).take 0))=hf jN 0 1:=rfl
  rw[h2,yx 0 1 (by decide) (by decide),if_neg (by omega),aa4]at h1
  have:=hr.ep.1
  omega
theorem yg (k:Nat) {p:List Pg} (hp:p.length=602) {a i:Nat} (ha:a<=1) (hi:i<602):Dp k p (a:Int) (i:Int)=some (hf p a i):=by
 unfold Dp hf
 have e:(301:Int)*(a:Int)=(a:Int)*301:=Int.mul_comm _ _
 have hx:p[301*a+i / 2]?=some (p[301*a+i / 2]'(by omega)):=gG (by omega)
 rw[e]
 simp only[aaL hp ha hi,bC hx,Af,qn,ab3,hx]
theorem af2 (h:Hf):∀ (n i:Nat),i+n<=32->(h.l.drop i).take n=(List.range' i n).map (bt h)
 |0,i,_=>by simp
 |n+1,i,hi=>by
  have hl:=h.h
  have hx:i<h.l.length:=by omega
  rw[List.drop_eq_getElem_cons hx,List.take_succ_cons,af2 h n (i+1) (by omega),List.range'_succ,List.map_cons]
  congr 1
  unfold bt
  rw[gG hx];rfl
theorem air {k:Nat} (hk:100<k) {h:Hf} (hb:AY h.l) {n i:Nat} (hn:n<=5) (hi:i+n<=32):BJ k ((h.l.drop i).take n)=some (bl ((List.range' i n).map (bt h))):=by
 rw[aeu hk ((hb.drop i).take n) (by rw[A9];omega),af2 h n i hi]
theorem ac2 {k:Nat} (hk:100<k) {h:Hf} (hb:AY h.l):DU k h=some (aL h):=by
 have e0:h.at? 0=some (bt h 0):=lB h (i:=0) (by decide)
 have xF:h.at? 31=some (bt h 31):=lB h (i:=31) (by decide)
 have e3:(List.range' 1 3).map (bt h)=[bt h 1,bt h 2,bt h 3]:=rfl
 unfold DU aL
 rw[air hk hb (n:=3) (i:=1) (by decide) (by decide),e3]
 simp only[e0,xF,Af]
 by_cases a:bt h 0=104
 ·by_cases c:bt h 31=165
  ·by_cases d:(1000000:Int)<bl [bt h 1,bt h 2,bt h 3]
   ·simp[a,c,d,show ¬ bl [bt h 1,bt h 2,bt h 3]<=1000000 by omega]
   ·simp[a,c,d,show bl [bt h 1,bt h 2,bt h 3]<=1000000 by omega]
  ·simp[a,c]
 ·by_cases b:bt h 0=112
  ·by_cases c:bt h 31=165
   ·by_cases d:(1000000:Int)<bl [bt h 1,bt h 2,bt h 3]
    ·simp[b,c,d,show ¬ bl [bt h 1,bt h 2,bt h 3]<=1000000 by omega]
    ·simp[b,c,d,show bl [bt h 1,bt h 2,bt h 3]<=1000000 by omega]
   ·simp[b,c]
  ·simp[a,b]
theorem rH {k:Nat} (hk:1000000<k) {d:Ac} (h:j5 d=true):BZ k d=some true:=by
 obtain⟨h1,h2,h3⟩:=gj.1 h
 unfold BZ
 simp only[AD (show (d.Ae.length:Int)=602 by omega),Am,AI (show ¬ (1200:Int)<(d.Ad.length:Int) by omega),Aj]
 have hw:=ab6 (l:=d.Ad) (body:=BZ.b0 k d) (p:=fun _=>true) (c:=false) (by omega) (k:=k) (by omega) (fun i x hx=>by
  have hi:=(gS.1 hx).1
  unfold BZ.b0
  simp only[AD (show (i:Int)<(d.Ad.length:Int) by omega),Am,bC hx,Af,zn,ajt (h3 x (AW hx)),AX,Aj]) (by
  unfold BZ.b0
  simp only[(by simp:decide ((d.Ad.length:Int)<(d.Ad.length:Int))=false),Aj])
 rw[hw]
 have:d.Ad.all (fun _=>true)=true:=by simp
 rw[this];rfl
theorem ahT {R:Type}{k:Nat} (hk:1000000<k) {d:Ac} (h:j5 d=true) {body:Int×List Pg->Option (AT (Int×List Pg) (List Pg) R)}
  (hb:∀ (i:Int) (s:List Pg),body (i,s)=bif decide (i<(d.Ad.length:Int)) then (at? d.Ad i).bind fun x6=>(at? s x6.At).bind fun _=>(dJ s x6.At x6.AE).bind fun l8=>some (.next (ab (i+1),l8)) else some (.brk s)):
  aj body k (0,d.Ae)=some (.brk (ak d.Ae d.Ad)):=by
 obtain⟨h1,h2,h3⟩:=gj.1 h
 have hf:=qJ (l:=d.Ad) (body:=body) (fun i s=>(i,s)) (fun p x=>p.set x.At.toNat x.AE) (fun i s=>s.length=602) (by omega) (k:=k) (by omega) (s0:=d.Ae) h1 (fun i x s hx hs=>by
  have hi:=(gS.1 hx).1
  have hbd:=h3 x (AW hx)
  refine⟨?_,by simp[hs]⟩
  have ha:at? s x.At=some (s[x.At.toNat]'(by omega)):=by
   unfold at?
   rw[if_pos ⟨by omega,by omega⟩,gG (by omega)]
  have fR:dJ s x.At x.AE=some (s.set x.At.toNat x.AE):=by
   unfold dJ
   rw[if_pos ⟨by omega,by omega⟩]
  rw[hb]
  simp only[AD (show (i:Int)<(d.Ad.length:Int) by omega),Am,bC hx,Af,ha,fR]) (fun s hs=>by
  rw[hb]
  simp only[(by simp:decide ((d.Ad.length:Int)<(d.Ad.length:Int))=false),Aj])
 exact hf.1
theorem aex {d:Ac} (h:j5 d=true):eW d.Ae.length 64=some ()/\eW d.Ad.length 72=some ():=by
 obtain⟨h1,h2,_⟩:=gj.1 h
 unfold eW
 exact⟨by rw[if_pos ⟨by omega,by omega⟩],by rw[if_pos ⟨by omega,by omega⟩]⟩
theorem rU {k:Nat} (hk:1000000<k) {d:Ac} (h:j5 d=true):Cn k d=some (ak d.Ae d.Ad)/\Cv k d=some (ak d.Ae d.Ad):=by
 obtain⟨r1,r2⟩:=aex h
 unfold Cn Cv
 rw[r1]
 simp only[Af]
 rw[ahT hk h (body:=Cn.b0 k d) (fun i s=>rfl),ahT hk h (body:=Cv.b0 k d) (fun i s=>rfl)]
 exact⟨rfl,rfl⟩
theorem afZ (k:Nat) {d:Ac} (h:j5 d=true):DT k d=some d/\EY k d=some d:=by
 obtain⟨r1,r2⟩:=aex h
 unfold DT EY
 rw[r1,r2]
 exact⟨rfl,rfl⟩
theorem abW {k:Nat} (hk:1000000<k) {d:Ac} (h:j5 d=true):Dz k d=some ⟨ak d.Ae d.Ad,[]⟩:=by
 unfold Dz
 rw[rH hk h]
 simp only[Af,AX,Aj,(rU hk h).1]
theorem s9 {k:Nat} (hk:1000000<k) {p:List Pg} (hp:p.length=602) (hb:Bp p) {a:Nat} (ha:a<=1) (from_:Nat):BG k p (a:Int) (from_:Int)=some (mx p a from_):=by
 unfold BG mx
 have key:∀ (d i m:Nat) (z:Int),602 - i=d->d<m->aj (BG.b0 k p (a:Int)) m (z,(i:Int))=some (.brk ((List.range' i d).foldl (fun m i=>max m (aL (hf p a i))) z)):=by
  intro d
  induction d with
  |zero=>
   intro i m z h1 h2
   obtain⟨m,rfl⟩:∃ q,m=q+1:=⟨m - 1,by omega⟩
   have tp:BG.b0 k p (a:Int) (z,(i:Int))=some (.brk z):=by
    unfold BG.b0
    simp only[AI (show ¬ (i:Int)<602 by omega),Aj]
   simp only[aj,tp]
   rfl
  |succ d ih=>
   intro i m z h1 h2
   obtain⟨m,rfl⟩:∃ q,m=q+1:=⟨m - 1,by omega⟩
   have hw:ab ((i:Int)+1)=((i+1:Nat):Int):=by rw[aV (by omega) (by omega)];omega
   have tp:BG.b0 k p (a:Int) (z,(i:Int))=some (.next (max z (aL (hf p a i)),((i+1:Nat):Int))):=by
    unfold BG.b0
    simp only[AD (show (i:Int)<602 by omega),Am,yg k hp ha (show i<602 by omega),Af,ac2 (show 100<k by omega) (hb.hf a i),hw]
   simp only[aj,tp]
   rw[List.range'_succ,List.foldl_cons]
   exact ih (i+1) m _ (by omega) (by omega)
 have:=key (602 - from_) from_ k 0 rfl (by omega)
 rw[this]
 rfl
theorem al9 {b:List Int} (hb:AY b) {r:Ab}{l:List Int} (h:gD b=some (r,l)):gD (b.take (16+(cj b).toNat))=some (r,[])/\16<=b.length/\(16:Int)+cj b<=(b.length:Int):=by
 unfold gD at h
 split at h
 ·cases h
 rename_i je
 split at h
 ·cases h
 rename_i ae
 simp only[oE,Prod.mk.injEq]at h
 obtain⟨rfl,rfl⟩:=h
 have hm:=(aes ((hb.drop 15).take 1)).1
 have rr:0<=cj b:=hm
 obtain⟨m,e⟩:=Int.eq_ofNat_of_zero_le rr
 have em:(cj b).toNat=m:=by rw[e];rfl
 have T:∀ i n,i+n<=16->((b.take (16+m)).drop i).take n=(b.drop i).take n:=fun i n hi=>by
  rw[List.drop_take,List.take_take,Nat.min_eq_left (by omega)]
 have T0:(b.take (16+m)).take 1=b.take 1:=by rw[List.take_take,Nat.min_eq_left (by omega)]
 have hM:cj (b.take (16+m))=cj b:=by
  unfold cj;rw[T 15 1 (by omega)]
 have hlen:(b.take (16+m)).length=16+m:=by rw[A9];omega
 refine⟨?_,by omega,by omega⟩
 rw[em]
 unfold gD
 rw[if_neg (by omega),hM,if_neg (by rw[hlen];omega),em]
 have htx:((b.take (16+m)).drop 16).take m=(b.drop 16).take m:=by
  rw[List.drop_take,List.take_take,Nat.min_eq_left (by omega)]
 have tK:((b.take (16+m)).drop 16).drop m=[]:=Dy (by rw[Bi,hlen];omega)
 rw[htx,tK]
 unfold xC
 rw[T0,T 1 2 (by omega),T 3 1 (by omega),T 4 4 (by omega),T 8 4 (by omega),T 12 1 (by omega),T 13 2 (by omega)]
theorem ait {p:List Pg} (hb:Bp p) {a f n:Nat}{q:Ab×Int×Nat} (h:recAt p a f n=some q):bt (hf p a f) 0=112/\bt (hf p a f) 7=(q.2.2:Int)/\0<q.2.2/\aL (hf p a f)=q.2.1:=by
 obtain⟨h1,h2⟩:=(z8 hb).1 h
 have h0:=h1.run.2 0 _ (ag4 q.1 n q.2.1)
 rw[Nat.add_zero]at h0
 obtain⟨b0,_,_,_,_,_⟩:=acE q.2.1 n (bD (enc q.1).length) (enc q.1) 0
 have hc:=uQ h1.ok
 have hp:=uS q.1
 rw[h0]
 refine⟨b0,?_,by rw[h2,kO];exact hp,ac1 h1.ep _ _ _ _⟩
 rw[afF (by omega),h2,kO]
theorem aoV {k:Nat} (hk:1000000<k) {p:List Pg} (hp:p.length=602) (hb:Bp p) {a:Nat} (ha:a<=1) (f n:Nat) (pN:f<=100000) (hn:n<60):
  Bw k p (a:Int) (f:Int) (n:Int)=some (match recAt p a f n with|some q=>(q.1,(q.2.2:Int),q.2.1,true)|none=>(nC,0,0,false)):=by
 have zE:recAt p a f n=none->∀ x,x=some (nC,(0:Int),(0:Int),false)->x=some (match recAt p a f n with|some q=>(q.1,(q.2.2:Int),q.2.1,true)|none=>(nC,0,0,false)):=fun h x hx=>by rw[h,hx]
 unfold Bw
 by_cases h1:602<=f
 ·have:recAt p a f n=none:=by unfold recAt;rw[if_pos h1]
  refine zE this _ ?_
  simp only[AD (show (602:Int)<=(f:Int) by omega),AX,Aj]
  rfl
 ·have fC:=qU (hb.hf a f) 7
  obtain⟨m,hm⟩:=Int.eq_ofNat_of_zero_le fC.1
  have hmN:(bt (hf p a f) 7).toNat=m:=by rw[hm];rfl
  have e7:(hf p a f).at? 7=some (m:Int):=by have:=lB (hf p a f) (i:=7) (by decide);rw[hm]at this;exact this
  have e0:(hf p a f).at? 0=some (bt (hf p a f) 0):=lB _ (i:=0) (by decide)
  have wm:ab (m:Int)=(m:Int):=aV (by omega) (by omega)
  have wfm:ab ((f:Int)+(m:Int))=((f+m:Nat):Int):=by rw[aV (by omega) (by omega)];omega
  simp only[AI (show ¬ (602:Int)<=(f:Int) by omega),Bs,Am,AI (show ¬ (60:Int)<=(n:Int) by omega),Aj,yg k hp ha (show f<602 by omega),Af,ac2 (show 100<k by omega) (hb.hf a f),e7,e0,wm,wfm]
  by_cases adp:bt (hf p a f) 0=112
  ·by_cases he:aL (hf p a f)=0
   ·refine zE (by unfold recAt;rw[if_neg h1,if_pos (Or.inl he)]) _ ?_
    simp only[AD adp,Am,AD he,AX,Aj]
    rfl
   ·simp only[AD adp,Am,AI he,Bs]
    by_cases rr:m=0
    ·refine zE ?_ _ ?_
     ·cases hq:recAt p a f n with
      |none=>rfl
      |some q=>have:=ait hb hq;omega
     ·simp only[AD (show (m:Int)=0 by omega),AX,Aj]
      rfl
    ·simp only[AI (show ¬ (m:Int)=0 by omega),Bs,Am]
     by_cases h2:602<f+m
     ·refine zE (by unfold recAt;rw[if_neg h1,if_pos (Or.inr (by rw[hmN];exact h2))]) _ ?_
      simp only[AD (show (602:Int)<((f+m:Nat):Int) by omega),Am]
      rfl
     ·simp only[AI (show ¬ (602:Int)<((f+m:Nat):Int) by omega),Aj]
      have lR:=aq2 (n:=m) (body:=Bw.b0 k p (a:Int) (f:Int) (m:Int)) (fun i (s:Hf×List Int)=>(s.1,i,s.2)) (fun s=>s.2) (fun s i=>some (hf p a (f+i),s.2++gL (hf p a (f+i)))) ((nC,(0:Int),(0:Int),false)) (fun i s=>s.2.length=23*i/\s.2=((List.range i).map fun i=>gL (hf p a (f+i))).flatten) (by omega) (k:=k) (by omega) (s0:=(hf p a f,[])) ⟨rfl,rfl⟩ (fun i s hi hs=>by
       have hl:=(hf p a (f+i)).h
       have vL:(gL (hf p a (f+i))).length=23:=by unfold gL;simp[hl]
       have uw:ab ((f:Int)+(i:Int))=((f+i:Nat):Int):=by rw[aV (by omega) (by omega)];omega
       have mH:=hs.1
       refine⟨?_,fun s' tN=>?_⟩
       ·unfold Bw.b0
        simp only[wm,AD (show (i:Int)<(m:Int) by omega),Am,uw,yg k hp ha (show f+i<602 by omega),Af]
        rw[show (List.take 23 (List.drop 8 (hf p a (f+i)).l))=gL (hf p a (f+i)) from rfl,lz (by omega) (by omega)]
        rfl
       ·obtain rfl:=oi tN
        refine⟨by simp only[A8,vL];omega,?_⟩
        simp only
        rw[List.range_succ,Dg,List.flatten_append,<-hs.2]
        simp) (fun s hs=>by
       unfold Bw.b0
       simp only[wm,(by simp:decide ((m:Int)<(m:Int))=false),Aj])
      have hex:∀ (L:List Nat) (s:Hf×List Int),∃ o,L.foldlM (fun(s:Hf×List Int) i=>some (hf p a (f+i),s.2++gL (hf p a (f+i)))) s=some o:=by
       intro L
       induction L with
       |nil=>intro s;exact⟨s,rfl⟩
       |cons x L ih=>intro s;exact ih _
      obtain⟨o,ho⟩:=hex (List.range m) (hf p a f,[])
      have eU:=lR.1
      obtain⟨yS,hof⟩:=lR.2 o ho
      rw[ho]at eU
      rw[eU]
      simp only[Af]
      have n7:AY o.2:=by
       rw[hof]
       refine afG (fun x hx=>?_)
       obtain⟨i,_,rfl⟩:=List.mem_map.1 hx
       exact afJ (hb.hf a _)
      have ahu:o.2[15]?=some (o.2[15]'(by omega)):=gG (by omega)
      have hM:cj o.2=o.2[15]'(by omega):=by
       unfold cj
       rw[List.drop_eq_getElem_cons (show 15<o.2.length by omega)]
       exact aio _
      have hM0:=n7 _ (AW ahu)
      rw[<-hM]at hM0
      have jg:at? o.2 15=some (cj o.2):=by
       rw[hM];exact bC ahu
      have w16:ab (16+(ab (cj o.2)))=16+cj o.2:=by
       rw[aV (n:=cj o.2) (by omega) (by omega),aV (by omega) (by omega)]
      simp only[AI (show ¬ ((o.2.length:Nat):Int)<16 by omega),Bs,Am,jg,Af,w16]
      have rv:recAt p a f n=match gD o.2 with
        |none=>none
        |some q=>if cZ q.1=true/\(cC q.1 n (aL (hf p a f))).length=m/\oP p a f (cC q.1 n (aL (hf p a f)))=true then some (q.1,aL (hf p a f),m) else none:=by
       unfold recAt
       rw[if_neg h1,hmN,if_neg (fun c=>c.elim he h2),<-hof]
       all_goals rfl
      rw[rv]
      by_cases ae:(o.2.length:Int)<16+cj o.2
      ·have hd:gD o.2=none:=by
        unfold gD
        rw[if_neg (by omega),if_pos ae]
       rw[hd]
       simp only[AD ae,Am]
       rfl
      ·simp only[AI ae,Aj]
       have hhs:nq o.2.length (16+cj o.2)=some ():=by unfold nq;rw[if_pos (by omega)]
       have yN:(16+cj o.2).toNat=16+(cj o.2).toNat:=by omega
       rw[hhs]
       have hdR:Ee k (o.2.take (16+(cj o.2).toNat))=some (decode (o.2.take (16+(cj o.2).toNat))):=amb (show 1000<k by omega) (n7.take _) (by rw[A9];omega)
       simp only[Af,yN,hdR]
       cases hd:gD o.2 with
       |none=>
        exfalso
        unfold gD at hd
        rw[if_neg (by omega),if_neg ae]at hd
        cases hd
       |some q=>
        obtain⟨r,l⟩:=q
        have hdt:=(al9 n7 hd).1
        have ang:decode (o.2.take (16+(cj o.2).toNat))=bif cZ r then (r,0) else (nC,90):=by
         unfold decode
         rw[hdt]
        simp only[ang]
        cases hr:cZ r with
        |false=>simp;rfl
        |true=>
         have ht:=wh hr
         simp only[Am,BC,AX,Aj,adt (show 100000<k by omega) ht,Af]
         have hH:(List.range (bD (enc r).length)).map (dP (aL (hf p a f)) (n:Int) (bD (enc r).length) (enc r))=cC r (n:Int) (aL (hf p a f)):=rfl
         rw[hH]
         by_cases hlen:(cC r (n:Int) (aL (hf p a f))).length=m
         ·have hwN:=aeP (n:=m) (body:=Bw.b1 k p (a:Int) (f:Int) (m:Int) (cC r (n:Int) (aL (hf p a f)))) (p:=fun i=>match (cC r (n:Int) (aL (hf p a f)))[i]? with|some x=>decide (hf p a (f+i)=x)|none=>true) (c:=(nC,(0:Int),(0:Int),false)) (by omega) (k:=k) (by omega) (fun i hi=>by
           obtain⟨x,hx⟩:∃ x,(cC r (n:Int) (aL (hf p a f)))[i]?=some x:=⟨_,gG (by omega)⟩
           have uw:ab ((f:Int)+(i:Int))=((f+i:Nat):Int):=by rw[aV (by omega) (by omega)];omega
           have hve:Aa.eq (fun(x y:Int)=>decide (x=y)) (hf p a (f+i)) x=decide (hf p a (f+i)=x):=by
            by_cases e:hf p a (f+i)=x
            ·rw[(qI _ _).2 e,AD e]
            ·rw[AI e]
             cases hq:Aa.eq (fun(x y:Int)=>decide (x=y)) (hf p a (f+i)) x with
             |false=>rfl
             |true=>exact absurd ((qI _ _).1 hq) e
           unfold Bw.b1
           simp only[wm,AD (show (i:Int)<(m:Int) by omega),Am,bC hx,Af,uw,yg k hp ha (show f+i<602 by omega),hve,hx]
           cases decide (hf p a (f+i)=x)<;>rfl) (by
           unfold Bw.b1
           simp only[wm,(by simp:decide ((m:Int)<(m:Int))=false),Aj])
          have bf:oP p a f (cC r (n:Int) (aL (hf p a f)))=(List.range m).all (fun i=>match (cC r (n:Int) (aL (hf p a f)))[i]? with|some x=>decide (hf p a (f+i)=x)|none=>true):=by
           unfold oP;rw[hlen];rfl
          simp only[AD (show ((cC r (n:Int) (aL (hf p a f))).length:Int)=(m:Int) by omega),AX,Aj,hwN,<-bf,hlen,true_and]
          cases oP p a f (cC r (n:Int) (aL (hf p a f)))<;>rfl
         ·simp only[AI (show ¬ ((cC r (n:Int) (aL (hf p a f))).length:Int)=(m:Int) by omega),Bs,Am,hlen,false_and,and_false,if_false]
          rfl
  ·refine zE ?_ _ ?_
   ·cases hq:recAt p a f n with
    |none=>rfl
    |some q=>have:=ait hb hq;omega
   ·simp only[AI adp,Aj]
    rfl
theorem agE (s:List Ab×Nat) (x:Ab×Nat) (L:List (Ab×Nat)):fin s (x::L)=fin (ej ag s.1 x.1,x.2) L:=rfl
theorem ak2 {k:Nat} (hk:1000000<k) {p:List Pg} (hp:p.length=602) (hb:Bp p) {a:Nat} (ha:a<=1):∀ (m K:Nat) (b:List Ab) (e:Int) (u:Nat) (R:List Ab),Dh ag b->(∀ r∈b,cZ r=true)->b.length=R.length->R.length<=60->u<=602->61<=m+R.length->m<K->
  aj (BA.b0 k p (a:Int)) K (e,b,(u:Int),R)=some (.brk (((fin (b,u) (rd p a (m+1) b e u R.length)).2:Int),R++(rd p a (m+1) b e u R.length).map (·.1))):=by
 intro m
 induction m with
 |zero=>intro K b e u R _ _ h1 h2 _ h3 _;omega
 |succ m ih=>
  intro K b e u R hv ru gF hR hu hm hK
  obtain⟨K,rfl⟩:∃ q,K=q+1:=⟨K - 1,by omega⟩
  have stop:BA.b0 k p (a:Int) (e,b,(u:Int),R)=some (.brk ((u:Int),R))->rd p a (m+1+1) b e u R.length=[]->aj (BA.b0 k p (a:Int)) (K+1) (e,b,(u:Int),R)=some (.brk (((fin (b,u) (rd p a (m+1+1) b e u R.length)).2:Int),R++(rd p a (m+1+1) b e u R.length).map (·.1))):=fun h1 h2=>by
   rw[h2]
   simp only[aj,h1,fin,List.foldl_nil,List.map_nil,List.append_nil]
  have hh:∀ r∈b,jm r:=fun r hr=>nB (ru r hr)
  by_cases iN:R.length=60
  ·
   have qc:rd p a (m+1+1) b e u R.length=[]:=by
    rw[rd]
    cases hq:recAt p a u R.length with
    |none=>rfl
    |some q=>
     simp only
     split
     ·rfl
     ·have:iw b q.1=none:=by
       cases cY:iw b q.1 with
       |none=>rfl
       |some b'=>have:=(qo cY).2.2.2;omega
      rw[this]
   refine stop ?_ qc
   have kg:Bw k p (a:Int) (u:Int) ((R.length:Nat):Int)=some (nC,0,0,false):=by
    unfold Bw
    by_cases h1:(602:Int)<=(u:Int)
    ·simp only[AD h1,AX,Aj];rfl
    ·simp only[AI h1,Bs,Am,AD (show (60:Int)<=((R.length:Nat):Int) by omega)];rfl
   unfold BA.b0
   simp only[kg,Af,Aj]
  ·have kg:=aoV hk hp hb ha u R.length (by omega) (by omega)
   cases hq:recAt p a u R.length with
   |none=>
    rw[hq]at kg
    refine stop ?_ (by rw[rd,hq])
    unfold BA.b0
    simp only[kg,Af,Aj]
   |some q=>
    rw[hq]at kg
    obtain⟨⟨g1,g2,g3⟩,g4⟩:=(z8 hb).1 hq
    have hmp:0<q.2.2:=by rw[g4,kO];exact uS q.1
    have adq:=g3.1
    rw[<-g4]at adq
    by_cases he:q.2.1<e
    ·refine stop ?_ (by rw[rd,hq];simp only;rw[if_pos he])
     unfold BA.b0
     simp only[kg,Af,Am,AD he,AX,Aj]
    ·have ee:cr q.1.At=ag q.1:=rfl
     rcases agI (k:=k) (l:=b) (by omega) hk q.1.At with ⟨i,x,f1,f2,f3⟩|⟨f1,f2⟩
     ·
      rw[ee]at f3
      have hf:gE ag b (ag q.1)=some x:=by rw[<-f3];exact agF ag hv.1 (AW f2)
      have cY:iw b q.1=none:=by
       cases cY:iw b q.1 with
       |none=>rfl
       |some b'=>have:=(qo cY).2.1;rw[hf]at this;cases this
      refine stop ?_ (by rw[rd,hq];simp only;rw[if_neg he,cY])
      unfold BA.b0
      simp only[kg,Af,Am,AI he,Bs,f1,AD (show (0:Int)<=(i:Int) by omega)]
     ·have jE:=aaI hk hv.1 (show b.length<=900 by omega) hh (nB g1)
      cases cY:iw b q.1 with
      |none=>
       have bg:¬ (eu b q.1).2=0:=fun c=>by
        rw[ee]at f2
        have tw:=aa7 ag f2
        unfold iw at cY
        have hl:(eu b q.1).1.length≠b.length:=by
         unfold eu at c ⊢
         rw[tw]at c ⊢
         simp only at c ⊢
         split at c
         ·cases c
         ·split at c
          ·cases c
          ·rename_i c1 c2
           rw[if_neg c1,if_neg c2]
           simp only
           rw[zo];omega
        rw[if_pos ⟨c,hl⟩]at cY
        cases cY
       refine stop ?_ (by rw[rd,hq];simp only;rw[if_neg he,cY])
       unfold BA.b0
       simp only[kg,Af,Am,AI he,Bs,f1,(by decide:decide ((0:Int)<=-1)=false),Aj,jE,AI bg]
      |some b'=>
       obtain⟨v1,v2⟩:=ad8 hv g1 cY
       obtain⟨i1,_,_,_⟩:=qo cY
       have ik:=cY
       unfold iw at ik
       split at ik
       ·rename_i hc
        have bQ:(eu b q.1).1=b':=oi ik
        have eU:ab ((u:Int)+(q.2.2:Int))=((u+q.2.2:Nat):Int):=by rw[aV (by omega) (by omega)];omega
        have anN:BA.b0 k p (a:Int) (e,b,(u:Int),R)=some (.next (q.2.1,b',((u+q.2.2:Nat):Int),R++[q.1])):=by
         unfold BA.b0
         simp only[kg,Af,Am,AI he,Bs,f1,(by decide:decide ((0:Int)<=-1)=false),Aj,jE,AD hc.1,AX,qx (show (R.length+1)*72<=140737488355328 by omega) (show R.length+1<4611686018427387904 by omega),bQ,eU]
        have hih:=ih K b' q.2.1 (u+q.2.2) (R++[q.1]) v1 (fun r hr=>by
         rw[i1,abr]at hr
         rcases hr with rfl|hr
         ·exact g1
         ·exact ru r hr) (by simp;omega) (by simp;omega) (by omega) (by simp;omega) (by omega)
        have qc:rd p a (m+1+1) b e u R.length=(q.1,u+q.2.2)::rd p a (m+1) b' q.2.1 (u+q.2.2) (R.length+1):=by
         rw[rd,hq];simp only;rw[if_neg he,cY]
        rw[qc,agE]
        simp only[aj,anN]
        rw[hih]
        simp only[A8,AA,Az,List.map_cons,Cq,<-i1]
        simp
       ·cases ik
theorem ady {k:Nat} (hk:100<k) (e n:Int):DV k e n=some (cK e n):=by
 unfold DV
 have h3:Cc k e 3=some (be e 3):=abA e (w:=3) (by decide) (by omega)
 have h2:Cc k n 2=some (be n 2):=abA n (w:=2) (by decide) (by omega)
 rw[h3]
 simp only[Af]
 rw[lz (by simp[dO]) (by simp[dO])]
 simp only[Af,h2]
 rw[lz (by simp[dO]) (by simp[dO])]
 simp only[Af]
 rw[lz (by simp[dO]) (by simp[dO])]
 simp only[Af]
 rw[qx (by simp[dO]) (by simp[dO])]
 simp only[Af]
 have hl:([(104:Int)]++be e 3++be n 2++List.replicate 25 0++[165])=(cK e n).l:=by
  rw[nN,xj];rfl
 rw[hl]
 unfold Aa.ny
 rw[dif_pos (by rw[(cK e n).h];exact Bd _)]
 simp only[Af]
 congr 1
def iY (x:Option Ar):CC:=match x with|none=>⟨0,[],0⟩|some x=>⟨x.dE,x.ff.map (·.1),(x.used:Int)⟩
theorem aaK {k:Nat} (hk:1000000<k) {p:List Pg} (hp:p.length=602) (hb:Bp p) {a:Nat} (ha:a<=1):BA k p (a:Int)=some (iY (dV p a)):=by
 have h0:=yg k hp ha (show 0<602 by decide)
 rw[CV]at h0
 have e0:(hf p a 0).at? 0=some (bt (hf p a 0) 0):=lB _ (i:=0) (by decide)
 have e2:(List.range' 4 2).map (bt (hf p a 0))=[bt (hf p a 0) 4,bt (hf p a 0) 5]:=rfl
 have vE:=air (show 100<k by omega) (hb.hf a 0) (n:=2) (i:=4) (by decide) (by decide)
 rw[e2]at vE
 unfold BA dV
 rw[h0]
 simp only[Af,ac2 (show 100<k by omega) (hb.hf a 0),vE,e0]
 generalize hE:aL (hf p a 0)=E
 generalize hC:bl [bt (hf p a 0) 4,bt (hf p a 0) 5]=C
 have tE:=ak2 hk hp hb ha 61 k [] E 1 [] ⟨.nil,trivial⟩ (by simp) rfl (by simp) (by decide) (by simp) (by omega)
 have tG:=aet hb 62 100 [] E 1 0 (by simp) (by simp) (by simp) (a:=a)
 have qc:ue p a=rd p a 62 [] E 1 0:=by unfold ue;rw[hE,tG]
 by_cases abb:bt (hf p a 0) 0=104
 ·simp only[AD abb,Am]
  by_cases he:E=0
  ·rw[if_neg (fun c=>c.1 he)]
   simp only[AD he,AX,Aj]
   rfl
  ·simp only[AI he,Bs,Am,ady (show 100<k by omega),Af]
   by_cases hh:hf p a 0=cK E C
   ·simp only[(qI _ _).2 hh,AX,Aj]
    have gp:((1:Nat):Int)=1:=rfl
    rw[gp]at tE
    rw[tE]
    simp only[Af,BM,Az]
    by_cases hc:C<=((ue p a).length:Int)
    ·rw[if_pos ⟨he,hh,hc⟩]
     rw[qc]at hc
     rw[AI (show ¬ (((rd p a 62 [] E 1 0).map (·.1)).length:Int)<C by rw[Bg];omega)]
     unfold iY Ar.used
     simp only[Aj,qc]
    ·rw[if_neg (fun c=>hc c.2.2)]
     rw[qc]at hc
     rw[AD (show (((rd p a 62 [] E 1 0).map (·.1)).length:Int)<C by rw[Bg];omega)]
     rfl
   ·have hv:Aa.eq (fun(x y:Int)=>decide (x=y)) (hf p a 0) (cK E C)=false:=by
     cases hq:Aa.eq (fun(x y:Int)=>decide (x=y)) (hf p a 0) (cK E C) with
     |false=>rfl
     |true=>exact absurd ((qI _ _).1 hq) hh
    rw[if_neg (fun c=>hh c.2.1)]
    simp only[hv,Bs,Am]
    rfl
 ·have hh:¬ hf p a 0=cK E C:=fun c=>by
   rw[c]at abb
   exact abb rfl
  rw[if_neg (fun c=>hh c.2.1)]
  simp only[AI abb,Aj]
  rfl
theorem afj {p:List Pg} (hb:Bp p) {a:Nat}{x:Ar} (h:dV p a=some x):1<=x.dE:=by
 unfold dV at h
 split at h
 ·rename_i hc
  obtain rfl:=oi h
  have:=(ac0 (hb.hf a 0)).1
  simp only
  omega
 ·cases h
theorem abp {k:Nat} (hk:1000000<k) {p:List Pg} (hp:p.length=602) (hb:Bp p) {q:Nat×Ar} (h:lZ p=some q):DA k p=some ((q.1:Int),iY (some q.2),true):=by
 have a0:=aaK hk hp hb (a:=0) (by decide)
 have a1:=aaK hk hp hb (a:=1) (by decide)
 have a0':BA k p 0=some (iY (dV p 0)):=a0
 have a1':BA k p 1=some (iY (dV p 1)):=a1
 unfold DA
 rw[a0',a1']
 simp only[Af]
 unfold lZ at h
 cases hx:dV p 0 with
 |none=>
  cases hy:dV p 1 with
  |none=>rw[hx,hy]at h;cases h
  |some y=>
   rw[hx,hy]at h
   simp only at h
   obtain rfl:=oi h
   have py:=afj hb hy
   have e0:(iY none).AG=0:=rfl
   have e1:(iY (some y)).AG=y.dE:=rfl
   simp only[e0,e1,BC,Am,AI (show ¬ y.dE=0 by omega),Aj,AD (show (0:Int)<y.dE by omega)]
   rfl
 |some x=>
  have px:=afj hb hx
  have e0:(iY (some x)).AG=x.dE:=rfl
  cases hy:dV p 1 with
  |none=>
   rw[hx,hy]at h
   simp only at h
   obtain rfl:=oi h
   have e1:(iY none).AG=0:=rfl
   simp only[e0,e1,AI (show ¬ x.dE=0 by omega),Aj,AI (show ¬ x.dE<0 by omega)]
   rfl
  |some y=>
   rw[hx,hy]at h
   simp only at h
   have e1:(iY (some y)).AG=y.dE:=rfl
   by_cases ae:x.dE<y.dE
   ·rw[if_pos ae]at h
    obtain rfl:=oi h
    simp only[e0,e1,AI (show ¬ x.dE=0 by omega),Aj,AD ae,Am]
    rfl
   ·rw[if_neg ae]at h
    obtain rfl:=oi h
    simp only[e0,e1,AI (show ¬ x.dE=0 by omega),Aj,AI ae]
    rfl
theorem alb {k:Nat} (hk:1000000<k) {l:List Ab} (hg:EV l):BW k l=some ⟨bk ag [] l⟩:=by
 have h50:=hg.len
 unfold BW
 have h:=qJ (l:=l) (body:=BW.b0 k l) (fun i s=>(s,i)) (ej ag) (fun i s=>BI ag (l.take i) s) (by omega) (k:=k) (by omega) (s0:=[]) (BI.nil ag) (fun i r s hx hs=>by
  have hi:=(gS.1 hx).1
  have bx:(ag r).2=ax ag (l.take i) (ag r).1:=hg.no hx
  have fT:=hs.len
  rw[A9]at fT
  have hh:∀ x∈s,jm x:=fun x hx=>nB (hg.ok x (BY ((hs.mem x).1 hx)))
  have jE:eu s r=(ej ag s r,0):=by
   unfold eu
   rw[aa7 ag (hs.no ag bx)]
   simp only
   have e:r.At.No=((ax ag s r.At.Ap:Nat):Int):=by
    rw[hs.num];exact bx
   rw[if_neg (by omega),if_neg (by omega)]
  refine⟨?_,?_⟩
  ·unfold BW.b0
   simp only[AD (show (i:Int)<(l.length:Int) by omega),Am,bC hx,Af,aaI hk hs.val.1 (show s.length<=900 by omega) hh (nB (hg.ok r (AW hx))),jE]
  ·rw[take_at hx]
   exact hs.step ag bx) (fun s hs=>by
  unfold BW.b0
  simp only[(by simp:decide ((l.length:Int)<(l.length:Int))=false),Aj])
 rw[h.1]
 rfl
section
variable {d:Ac}{l:Ay}{log:List Ab}{mA a:Nat}{e0 c:Int}{ep:Nat->Int}
theorem ar3 {k:Nat} (hk:10000000<k) {d:Ac} (hd:DB d) {q:Nat×Ar} (h:lZ (ak d.Ae d.Ad)=some q) {log:List Ab} (hg:EV log) (hq:q.2.ff.map (·.1)=log) (hb:q.2.book=bk ag [] log) (hm:max (mx (ak d.Ae d.Ad) 0 0) (mx (ak d.Ae d.Ad) 1 0)<1000000):
  Dn k d=some (⟨ak d.Ae d.Ad,[]⟩,⟨⟨q.2.book⟩,(q.1:Int),1+max (mx (ak d.Ae d.Ad) 0 0) (mx (ak d.Ae d.Ad) 1 0),(q.2.used:Int)⟩,0):=by
 have g0:BG k (ak d.Ae d.Ad) 0 0=some (mx (ak d.Ae d.Ad) 0 0):=s9 (show 1000000<k by omega) hd.len hd.new (a:=0) (by decide) 0
 have g1:BG k (ak d.Ae d.Ad) 1 0=some (mx (ak d.Ae d.Ad) 1 0):=s9 (show 1000000<k by omega) hd.len hd.new (a:=1) (by decide) 0
 have n0:=vX (ak d.Ae d.Ad) 0 0
 have n1:=vX (ak d.Ae d.Ad) 1 0
 have hw:ab ((max (mx (ak d.Ae d.Ad) 0 0) (mx (ak d.Ae d.Ad) 1 0))+1)=1+max (mx (ak d.Ae d.Ad) 0 0) (mx (ak d.Ae d.Ad) 1 0):=by rw[aV (by omega) (by omega)];omega
 have hA:iY (some q.2)=⟨q.2.dE,log,(q.2.used:Int)⟩:=by unfold iY;simp only[hq]
 unfold Dn
 rw[rH (show 1000000<k by omega) hd.ok]
 simp only[Af,AX,Aj,(rU (show 1000000<k by omega) hd.ok).1,abp (show 1000000<k by omega) hd.len hd.new h,hA,g0,g1,hw]
 rw[AI (show ¬ (1000000:Int)<1+max (mx (ak d.Ae d.Ad) 0 0) (mx (ak d.Ae d.Ad) 1 0) by omega)]
 simp only[Aj,alb (show 1000000<k by omega) hg,Af,hb]
end
theorem akV (x:Int):dN .i64 x 3=x % 4:=by
 have h1:0<=x % 4:=by omega
 have h2:x % 4<4:=by omega
 have h3:(BitVec.ofInt IntKind.i64.bits 3).toNat=2 ^ 2 - 1:=by decide +kernel
 have hx:(BitVec.ofInt IntKind.i64.bits x).toNat=(x % 18446744073709551616).toNat:=by
  rw[BitVec.toNat_ofInt,show ((2 ^ IntKind.i64.bits:Nat):Int)=18446744073709551616 from rfl]
 have e:(x % 18446744073709551616).toNat % 2 ^ 2=(x % 4).toNat:=by
  rw[show (2:Nat) ^ 2=4 from rfl];omega
 unfold dN
 rw[BitVec.toNat_and,h3,Nat.and_two_pow_sub_one_eq_mod,hx,e]
 have h4:(((x % 4).toNat:Nat):Int)=x % 4:=by omega
 rw[h4]
 exact aV (by omega) (by omega)
theorem al1 {k:Nat} (hk:10000000<k) {d:Ac} (hd:DB d) (eH:List Int) {i:Nat}{w:Aq}{p:List Pg} (hx:d.Ad[i]?=some w) (hp:p.length=602):
  ∃ p',BH.b0 k d eH ((i:Int),p)=some (.next (ab ((i:Int)+1),p'))/\aZ.b0 k eH ⟨d⟩ ((i:Int),p)=some (.next (ab ((i:Int)+1),p'))/\p'.length=602:=by
 obtain⟨h1,h2,h3⟩:=gj.1 hd.ok
 have hi:=(gS.1 hx).1
 have hw:=h3 w (AW hx)
 obtain⟨g0,a1,a2,_⟩:=abO (k:=0) hp hw (s:=0) (by decide)
 obtain⟨g1,b1,b2,_⟩:=abO (k:=0) hp hw (s:=1) (by decide)
 have eg:g1=g0:=by rw[a1]at b1;exact(oi b1).symm
 subst eg
 have pY:(p.set w.At.toNat (g1.set 0 (sd w.AE 0))).length=602:=by rw[C5];exact hp
 obtain⟨g2,c1,c2,_⟩:=abO (k:=0) pY hw (s:=1) (by decide)
 have v0:∀ g:Pg,g.at? 0=some (sd g 0):=fun g=>sr g (s:=0) (by decide)
 have v1:∀ g:Pg,g.at? 1=some (sd g 1):=fun g=>sr g (s:=1) (by decide)
 have a2':dJ p w.At (g1.set 0 (sd w.AE 0))=some (p.set w.At.toNat (g1.set 0 (sd w.AE 0))):=a2
 have b2':dJ p w.At (g1.set 1 (sd w.AE 1))=some (p.set w.At.toNat (g1.set 1 (sd w.AE 1))):=b2
 have c2':dJ (p.set w.At.toNat (g1.set 0 (sd w.AE 0))) w.At (g2.set 1 (sd w.AE 1))=some ((p.set w.At.toNat (g1.set 0 (sd w.AE 0))).set w.At.toNat (g2.set 1 (sd w.AE 1))):=c2
 obtain⟨m,rfl⟩:∃ m,k=m+3:=⟨k - 3,by omega⟩
 have s0:lq 0=some ():=rfl
 have s1:lq 1=some ():=rfl
 have w1:ab ((0:Int)+1)=1:=aV (by omega) (by omega)
 have w2:ab ((1:Int)+1)=2:=aV (by omega) (by omega)
 by_cases hz:(0:Int)<(eH.length:Int)
 ·have oe:oJ (eH.length:Int)=some ():=by unfold oJ;rw[if_neg (by omega)]
  obtain⟨x,tT⟩:∃ x,at? eH (Int.tmod (i:Int) (eH.length:Int))=some x:=by
   rw[<-Int.ofNat_tmod]
   have ae:i % eH.length<eH.length:=Nat.mod_lt _ (by omega)
   exact⟨_,bC (gG ae)⟩
  have zi:=akV x
  have hmd:=mb (m+3) x (m:=4) (by decide) (by decide)
  have yX:0<=x % 4:=by omega
  have mG:x % 4<4:=by omega
  generalize x % 4=y at zi hmd yX mG
  have hR:∀ (t0 t1:Bool) (r:List Pg),decide (dN .i64 y 1=1)=t0->decide (dN .i64 y 2=2)=t1->(bif t0 then (bif t1 then (p.set w.At.toNat (g1.set 0 (sd w.AE 0))).set w.At.toNat (g2.set 1 (sd w.AE 1)) else p.set w.At.toNat (g1.set 0 (sd w.AE 0))) else (bif t1 then p.set w.At.toNat (g1.set 1 (sd w.AE 1)) else p))=r->BH.b0 (m+3) d eH ((i:Int),p)=some (.next (ab ((i:Int)+1),r)):=by
   intro t0 t1 r e0 e1 er
   unfold BH.b0
   simp only[AD (show (i:Int)<((d.Ad.length:Nat):Int) by omega),Am,AD hz,oe,Af]
   rw[tT,Af,hmd,Af,bC hx,Af,e0,e1]
   subst er
   cases t0<;>cases t1
   ·rfl
   ·rw[Aj,Am,v1,Af,a1,Af,v1,Af,b2',Af];rfl
   ·rw[Am,v0,Af,a1,Af,v0,Af,a2',Af];rfl
   ·rw[Am,v0,Af,a1,Af,v0,Af,a2',Af,Am,v1,Af,c1,Af,v1,Af,c2',Af];rfl
  have hy:y=0\/y=1\/y=2\/y=3:=by omega
  rcases hy with rfl|rfl|rfl|rfl
  ·refine⟨p,?_,?_,hp⟩
   ·exact hR false false _ (by decide +kernel) (by decide +kernel) rfl
   ·unfold aZ.b0
    simp only[AD (show (i:Int)<((d.Ad.length:Nat):Int) by omega),Am,bC hx,Af,AD hz,oe,tT,aj,aZ.b1,zi,s0,s1,w1,w2,(by decide:decide ((0:Int)<2)=true),(by decide:decide ((1:Int)<2)=true),(by decide:decide ((2:Int)<2)=false),Aj,(by decide +kernel:decide (dN .i64 (Int.fdiv 0 (2 ^ (min (Int.toNat 0) 64))) 1=1)=false),(by decide +kernel:decide (dN .i64 (Int.fdiv 0 (2 ^ (min (Int.toNat 1) 64))) 1=1)=false)]
  ·refine⟨p.set w.At.toNat (g1.set 0 (sd w.AE 0)),?_,?_,pY⟩
   ·exact hR true false _ (by decide +kernel) (by decide +kernel) rfl
   ·unfold aZ.b0
    simp only[AD (show (i:Int)<((d.Ad.length:Nat):Int) by omega),Am,bC hx,Af,AD hz,oe,tT,aj,aZ.b1,zi,s0,s1,w1,w2,(by decide:decide ((0:Int)<2)=true),(by decide:decide ((1:Int)<2)=true),(by decide:decide ((2:Int)<2)=false),Aj,(by decide +kernel:decide (dN .i64 (Int.fdiv 1 (2 ^ (min (Int.toNat 0) 64))) 1=1)=true),(by decide +kernel:decide (dN .i64 (Int.fdiv 1 (2 ^ (min (Int.toNat 1) 64))) 1=1)=false),v0,v1,a1,a2']
  ·refine⟨p.set w.At.toNat (g1.set 1 (sd w.AE 1)),?_,?_,by rw[C5];exact hp⟩
   ·exact hR false true _ (by decide +kernel) (by decide +kernel) rfl
   ·unfold aZ.b0
    simp only[AD (show (i:Int)<((d.Ad.length:Nat):Int) by omega),Am,bC hx,Af,AD hz,oe,tT,aj,aZ.b1,zi,s0,s1,w1,w2,(by decide:decide ((0:Int)<2)=true),(by decide:decide ((1:Int)<2)=true),(by decide:decide ((2:Int)<2)=false),Aj,(by decide +kernel:decide (dN .i64 (Int.fdiv 2 (2 ^ (min (Int.toNat 0) 64))) 1=1)=false),(by decide +kernel:decide (dN .i64 (Int.fdiv 2 (2 ^ (min (Int.toNat 1) 64))) 1=1)=true),v0,v1,b1,b2']
  ·refine⟨(p.set w.At.toNat (g1.set 0 (sd w.AE 0))).set w.At.toNat (g2.set 1 (sd w.AE 1)),?_,?_,by rw[C5];exact pY⟩
   ·exact hR true true _ (by decide +kernel) (by decide +kernel) rfl
   ·unfold aZ.b0
    simp only[AD (show (i:Int)<((d.Ad.length:Nat):Int) by omega),Am,bC hx,Af,AD hz,oe,tT,aj,aZ.b1,zi,s0,s1,w1,w2,(by decide:decide ((0:Int)<2)=true),(by decide:decide ((1:Int)<2)=true),(by decide:decide ((2:Int)<2)=false),Aj,(by decide +kernel:decide (dN .i64 (Int.fdiv 3 (2 ^ (min (Int.toNat 0) 64))) 1=1)=true),(by decide +kernel:decide (dN .i64 (Int.fdiv 3 (2 ^ (min (Int.toNat 1) 64))) 1=1)=true),v0,v1,a1,a2',c1,c2']
 ·refine⟨p,?_,?_,hp⟩
  ·unfold BH.b0
   simp only[AD (show (i:Int)<((d.Ad.length:Nat):Int) by omega),Am,bC hx,Af,AI hz,(by decide +kernel:decide (dN .i64 0 1=1)=false),(by decide +kernel:decide (dN .i64 0 2=2)=false),Aj]
  ·unfold aZ.b0
   simp only[AD (show (i:Int)<((d.Ad.length:Nat):Int) by omega),Am,bC hx,Af,AI hz,aj,aZ.pd,s0,s1,w1,w2,(by decide:decide ((0:Int)<2)=true),(by decide:decide ((1:Int)<2)=true),(by decide:decide ((2:Int)<2)=false),Aj,(by decide +kernel:decide (dN .i64 (Int.fdiv 0 (2 ^ (min (Int.toNat 0) 64))) 1=1)=false),(by decide +kernel:decide (dN .i64 (Int.fdiv 0 (2 ^ (min (Int.toNat 1) 64))) 1=1)=false)]
theorem alZ {k:Nat} (hk:10000000<k) {d:Ac} (hd:DB d) (eH:List Int):BH k d eH=aZ k d eH:=by
 obtain⟨h1,h2,h3⟩:=gj.1 hd.ok
 have key:∀ (n i m:Nat) (p:List Pg),i+n=d.Ad.length->n<m->p.length=602->
   aj (BH.b0 k d eH) m ((i:Int),p)=aj (aZ.b0 k eH ⟨d⟩) m ((i:Int),p):=by
  intro n
  induction n with
  |zero=>
   intro i m p g1 g2 g3
   obtain⟨m,rfl⟩:∃ q,m=q+1:=⟨m - 1,by omega⟩
   have hb:aZ.b0 k eH ⟨d⟩ ((i:Int),p)=some (.brk p):=by
    unfold aZ.b0
    simp only[AI (show ¬ (i:Int)<((d.Ad.length:Nat):Int) by omega),Aj]
   have hr:BH.b0 k d eH ((i:Int),p)=some (.brk p):=by
    unfold BH.b0
    simp only[AI (show ¬ (i:Int)<((d.Ad.length:Nat):Int) by omega),Aj]
   simp only[aj,hb,hr]
  |succ n ih=>
   intro i m p g1 g2 g3
   obtain⟨m,rfl⟩:∃ q,m=q+1:=⟨m - 1,by omega⟩
   obtain⟨w,hw⟩:∃ w,d.Ad[i]?=some w:=⟨_,gG (by omega)⟩
   obtain⟨p1,a1,a2,a3⟩:=al1 hk hd eH hw g3
   have zg:ab ((i:Int)+1)=((i+1:Nat):Int):=by rw[aV (by omega) (by omega)];omega
   rw[zg]at a1 a2
   simp only[aj,a1,a2]
   exact ih (i+1) m p1 (by omega) (by omega) a3
 have h0:=key d.Ad.length 0 k d.Ae (by omega) (by omega) h1
 rw[CV]at h0
 unfold aZ BH
 rw[na hd.ok,oD (show 1000000<k by omega),rH (show 1000000<k by omega) hd.ok,hd.ok,(aex hd.ok).1]
 simp only[Af,AX,Aj,h0]
 rfl
theorem aqZ {k:Nat} (hk:10000000<k) {p:List Pg} (hp:p.length=602) {a u:Nat} (ha:a<=1) {l:List Hf} (cD:u+l.length<=602):∀ (f i m:Nat) (ws:List Aq) (pp:List Pg),l.length - i<=f->l.length - i<m->i<=l.length->ws.length+f<=100000->pp.length=602->((u+i) % 2=1->i=0)->(∀ j,301*a+(u+i) / 2<=j->pp[j]?=p[j]?)->
  aj (BK.b0 k (a:Int) (u:Int) l) m ((i:Int),ws,pp)=some (.brk (ws++eZ p a u l f i)):=by
 intro f
 induction f using Nat.strongRecOn with
 |ind f ih=>
 intro i m ws pp h1 h2 h3 h4 h5 h6 h7
 obtain⟨m,rfl⟩:∃ q,m=q+1:=⟨m - 1,by omega⟩
 by_cases hi:i<l.length
 ·obtain⟨x,hx⟩:∃ x,l[i]?=some x:=⟨_,gG hi⟩
  obtain⟨f,rfl⟩:∃ q,f=q+1:=⟨f - 1,by omega⟩
  have yW:∀ v:Aq,fG 72 ws v=some (ws++[v]):=fun v=>qx (by omega) (by omega)
  have one:∀ (i:Nat) (x:Hf) (pp:List Pg) (g:Pg),l[i]?=some x->i<l.length->pp.length=602->pp[301*a+(u+i) / 2]?=some g->BK.b0 k (a:Int) (u:Int) l ((i:Int),ws,pp)=some (.next (((i+1:Nat):Int),(if i+1=l.length\/(u+i) % 2=1 then ws++[⟨((301*a+(u+i) / 2:Nat):Int),g.set (((u+i) % 2:Nat):Int) x⟩] else ws),pp.set (301*a+(u+i) / 2) (g.set (((u+i) % 2:Nat):Int) x))):=by
   intro i x pp g hx hi hpp hg
   have rz:ab ((u:Int)+(i:Int))=((u+i:Nat):Int):=by rw[aV (by omega) (by omega)];omega
   have za:ab (((u+i:Nat):Int)+1)=((u+i+1:Nat):Int):=by rw[aV (by omega) (by omega)];omega
   have eU:ab ((i:Int)+1)=((i+1:Nat):Int):=by rw[aV (by omega) (by omega)];omega
   have pZ:=aaL hp ha (show u+i<602 by omega)
   have amz:(301:Int)*(a:Int)=(a:Int)*301:=Int.mul_comm _ _
   have gp:ab ((l.length:Int) - 1)=((l.length - 1:Nat):Int):=by rw[aV (by omega) (by omega)];omega
   have fR:dJ pp ((301*a+(u+i) / 2:Nat):Int) (g.set (((u+i) % 2:Nat):Int) x)=some (pp.set (301*a+(u+i) / 2) (g.set (((u+i) % 2:Nat):Int) x)):=by
    unfold dJ
    rw[if_pos ⟨by omega,by omega⟩,Cl]
   have dH:(pp.set (301*a+(u+i) / 2) (g.set (((u+i) % 2:Nat):Int) x))[301*a+(u+i) / 2]?=some (g.set (((u+i) % 2:Nat):Int) x):=List.getElem?_set_self (by omega)
   have d1:ab (Int.tdiv ((u+i:Nat):Int) 2)=(((u+i) / 2:Nat):Int):=by
    have e:Int.tdiv ((u+i:Nat):Int) 2=(((u+i) / 2:Nat):Int):=by rw[Int.tdiv_eq_ediv_of_nonneg (by omega)];omega
    rw[e,aV (by omega) (by omega)]
   have d2:ab (Int.tdiv ((u+i+1:Nat):Int) 2)=(((u+i+1) / 2:Nat):Int):=by
    have e:Int.tdiv ((u+i+1:Nat):Int) 2=(((u+i+1) / 2:Nat):Int):=by rw[Int.tdiv_eq_ediv_of_nonneg (by omega)];omega
    rw[e,aV (by omega) (by omega)]
   rw[d1]at pZ
   unfold BK.b0
   rw[amz]
   simp only[AD (show (i:Int)<(l.length:Int) by omega),Am,bC hx,Af,rz,pZ,bC hg,qn,ab3,fR,gp,za,bC dH,yW,eU,d1,d2]
   by_cases e1:i+1=l.length
   ·rw[AD (show (i:Int)=((l.length - 1:Nat):Int) by omega),if_pos (.inl e1)]
    rfl
   ·rw[AI (show ¬ (i:Int)=((l.length - 1:Nat):Int) by omega)]
    by_cases e2:(u+i) % 2=1
    ·rw[AI (show ¬ (((u+i+1) / 2:Nat):Int)=(((u+i) / 2:Nat):Int) by omega),if_pos (.inr e2)]
     rfl
    ·rw[AD (show (((u+i+1) / 2:Nat):Int)=(((u+i) / 2:Nat):Int) by omega),if_neg (by omega)]
     rfl
  obtain⟨g,hg⟩:∃ g,p[301*a+(u+i) / 2]?=some g:=⟨_,gG (by omega)⟩
  have hgp:=(h7 _ (Bd _)).trans hg
  have s1:=one i x pp g hx hi h5 hgp
  rw[eZ,hx]
  simp only[hg,Option.getD_some]
  by_cases nm:(u+i) % 2=1
  ·rw[if_pos (.inr nm),nm]at s1
   rw[if_pos nm]
   simp only[aj,s1]
   have:=ih f (by omega) (i+1) m (ws++[⟨((301*a+(u+i) / 2:Nat):Int),g.set ((1:Nat):Int) x⟩]) (pp.set (301*a+(u+i) / 2) (g.set ((1:Nat):Int) x)) (by omega) (by omega) (by omega) (by simp;omega) (by rw[C5];exact h5) (by omega) (fun j hj=>by
    rw[List.getElem?_set_ne (by omega)];exact h7 j (by omega))
   rw[this,Cp]
   rfl
  ·have ag9:(u+i) % 2=0:=by omega
   rw[if_neg nm]
   by_cases e1:i+1=l.length
   ·rw[if_pos (.inl e1),ag9]at s1
    have hn:l[i+1]?=none:=CL (by omega)
    rw[hn]
    simp only[aj,s1]
    obtain⟨m,rfl⟩:∃ q,m=q+1:=⟨m - 1,by omega⟩
    have hb:∀ s,BK.b0 k (a:Int) (u:Int) l (((i+1:Nat):Int),s)=some (.brk s.1):=by
     intro s
     unfold BK.b0
     simp only[AI (show ¬ ((i+1:Nat):Int)<(l.length:Int) by omega),Aj]
    simp only[aj,hb]
    rfl
   ·rw[if_neg (by omega),ag9]at s1
    obtain⟨y,hy⟩:∃ y,l[i+1]?=some y:=⟨_,gG (by omega)⟩
    rw[hy]
    have hdv:(u+(i+1)) / 2=(u+i) / 2:=by omega
    have s2:=one (i+1) y (pp.set (301*a+(u+i) / 2) (g.set ((0:Nat):Int) x)) (g.set ((0:Nat):Int) x) hy (by omega) (by rw[C5];exact h5) (by rw[hdv,List.getElem?_set_self (by omega)])
    rw[if_pos (.inr (by omega)),show (u+(i+1)) % 2=1 by omega,hdv]at s2
    obtain⟨m,rfl⟩:∃ q,m=q+1:=⟨m - 1,by omega⟩
    simp only[aj,s1,s2]
    have:=ih f (by omega) (i+2) m (ws++[⟨((301*a+(u+i) / 2:Nat):Int),(g.set ((0:Nat):Int) x).set ((1:Nat):Int) y⟩]) ((pp.set (301*a+(u+i) / 2) (g.set ((0:Nat):Int) x)).set (301*a+(u+i) / 2) ((g.set ((0:Nat):Int) x).set ((1:Nat):Int) y)) (by omega) (by omega) (by omega) (by simp;omega) (by rw[C5,C5];exact h5) (by omega) (fun j hj=>by
     rw[List.getElem?_set_ne (by omega),List.getElem?_set_ne (by omega)];exact h7 j (by omega))
    rw[this,Cp]
    rfl
 ·have hb:BK.b0 k (a:Int) (u:Int) l ((i:Int),ws,pp)=some (.brk ws):=by
   unfold BK.b0
   simp only[AI (show ¬ (i:Int)<(l.length:Int) by omega),Aj]
  have hw:eZ p a u l f i=[]:=by
   cases f with
   |zero=>rfl
   |succ f=>rw[eZ,CL (by omega)]
  simp only[aj,hb,hw,List.append_nil]
theorem aeO {k:Nat} (hk:10000000<k) {d:Ac} (hd:DB d) {a u:Nat} (ha:a<=1) {l:List Hf} (cD:u+l.length<=602):
  BK k d (a:Int) (u:Int) l=some ⟨d.Ae,d.Ad++eZ (ak d.Ae d.Ad) a u l l.length 0⟩:=by
 obtain⟨h1,h2,h3⟩:=gj.1 hd.ok
 unfold BK
 rw[(afZ k hd.ok).2,(rU (show 1000000<k by omega) hd.ok).2]
 simp only[Af]
 have:=aqZ hk hd.len ha cD l.length 0 k d.Ad (ak d.Ae d.Ad) (by omega) (by omega) (by omega) (by omega) hd.len (fun _=>rfl) (fun j _=>rfl)
 rw[CV]at this
 rw[this]
 rfl
structure Cw (l:List Ab):Prop where
 ok:∀ r∈l,cZ r=true
 vl:VL ag (fun _=>0) l
 len:l.length<=60
theorem Cw.bi {l:List Ab} (h:Cw l):BI ag l (bk ag [] l):=BI.of ag h.vl
theorem Cw.hh {l:List Ab} (h:Cw l):∀ r∈bk ag [] l,jm r:=fun r hr=>nB (h.ok r ((h.bi.mem r).1 hr))
theorem Cw.no {l:List Ab} (h:Cw l) {i:Nat}{r:Ab} (hx:l[i]?=some r):(ag r).2=ax ag (l.take i) (ag r).1:=by
 have e:l=l.take i++(r::l.drop (i+1)):=by
  have hi:=(gS.1 hx).1
  have:l[i]=r:=by rw[gG hi]at hx;exact oi hx
  rw[<-this,<-List.drop_eq_getElem_cons hi,C2]
 have hv:=h.vl
 rw[e,Ek]at hv
 have:=hv.2.1
 simpa using this
theorem aip {p:List Pg} (hb:Bp p) {a:Nat}:∀ (m:Nat) (done b:List Ab) (e:Int) (u n:Nat),BI ag done b->Cw done->
  Cw (done++(rd p a m b e u n).map (·.1))/\(fin (b,u) (rd p a m b e u n)).1=bk ag b ((rd p a m b e u n).map (·.1))/\(fin (b,u) (rd p a m b e u n)).2<=u+10*(rd p a m b e u n).length/\BI ag (done++(rd p a m b e u n).map (·.1)) (bk ag b ((rd p a m b e u n).map (·.1)))
 |0,done,b,e,u,n,hJ,hR=>⟨by rw[rd];simpa using hR,rfl,Bd _,by rw[rd];simpa [bk] using hJ⟩
 |m+1,done,b,e,u,n,hJ,hR=>by
  have nil:Cw (done++([]:List (Ab×Nat)).map (·.1))/\(fin (b,u) []).1=bk ag b (([]:List (Ab×Nat)).map (·.1))/\(fin (b,u) []).2<=u+10*([]:List (Ab×Nat)).length/\BI ag (done++([]:List (Ab×Nat)).map (·.1)) (bk ag b (([]:List (Ab×Nat)).map (·.1))):=⟨by simpa using hR,rfl,Bd _,by simpa [bk] using hJ⟩
  rw[rd]
  cases hq:recAt p a u n with
  |none=>exact nil
  |some q=>
   simp only
   by_cases he:q.2.1<e
   ·rw[if_pos he];exact nil
   ·rw[if_neg he]
    cases cY:iw b q.1 with
    |none=>exact nil
    |some b'=>
     simp only
     obtain⟨⟨g1,_,_⟩,g4⟩:=(z8 hb).1 hq
     obtain⟨i1,i2,i3,i4⟩:=qo cY
     have bx:(ag q.1).2=ax ag done (ag q.1).1:=by
      show q.1.At.No=((ax ag done q.1.At.Ap:Nat):Int)
      rw[<-hJ.num]
      by_cases ae:q.1.At.No<ax ag b q.1.At.Ap
      ·have h0:=(abF g1).2.1.1
       obtain⟨x,hx,hk⟩:=ajf ag hJ.val (h:=q.1.At.Ap) (n:=q.1.At.No) h0 ae
       exact absurd hk (xO ag i2 x hx)
      ·omega
     have hl:=hJ.len
     have hd:=hR.len
     have hJ':=hJ.step ag bx
     have hR':Cw (done++[q.1]):=by
      refine⟨fun r hr=>?_,?_,by rw[A8,List.length_singleton];omega⟩
      ·rcases Ba.1 hr with g|g
       ·exact hR.ok r g
       ·rw[CM.1 g];exact g1
      ·rw[Ek]
       exact⟨hR.vl,by rw[bx];exact(Int.zero_add _).symm,trivial⟩
     subst i1
     obtain⟨k1,k2,k3,k4⟩:=aip hb m (done++[q.1]) (ej ag b q.1) q.2.1 (u+q.2.2) (n+1) hJ' hR'
     have h10:=uQ g1
     have hq2:q.2.2<=10:=by rw[g4,kO];exact h10
     rw[List.map_cons,agE]
     refine⟨?_,?_,?_,?_⟩
     ·rw[Cp,List.singleton_append]at k1;exact k1
     ·exact k2
     ·simp only[AA];omega
     ·rw[Cp,List.singleton_append]at k4;exact k4
theorem ak1 {p:List Pg} (hb:Bp p) {a:Nat}{x:Ar} (h:dV p a=some x):Cw (x.ff.map (·.1))/\x.book=bk ag [] (x.ff.map (·.1))/\x.used<=1+10*x.ff.length:=by
 unfold dV at h
 split at h
 ·obtain rfl:=oi h
  obtain⟨k1,k2,k3,_⟩:=aip hb (a:=a) 100 [] [] (aL (hf p a 0)) 1 0 (BI.nil ag) ⟨by simp,trivial,by simp⟩
  exact⟨by rw[BM]at k1;exact k1,k2,k3⟩
 ·cases h
theorem abo {p:List Pg} (hb:Bp p) {q:Nat×Ar} (h:lZ p=some q):q.1<=1/\Cw (q.2.ff.map (·.1))/\q.2.book=bk ag [] (q.2.ff.map (·.1))/\q.2.used<=1+10*q.2.ff.length:=by
 have key:q.1<=1/\dV p q.1=some q.2:=by
  unfold lZ at h
  cases hx:dV p 0 with
  |none=>
   cases hy:dV p 1 with
   |none=>rw[hx,hy]at h;cases h
   |some y=>rw[hx,hy]at h;obtain rfl:=oi h;exact⟨Bd 1,hy⟩
  |some x=>
   cases hy:dV p 1 with
   |none=>rw[hx,hy]at h;obtain rfl:=oi h;exact⟨Nat.zero_le 1,hx⟩
   |some y=>
    rw[hx,hy]at h
    simp only at h
    by_cases ae:x.dE<y.dE
    ·rw[if_pos ae]at h;obtain rfl:=oi h;exact⟨Bd 1,hy⟩
    ·rw[if_neg ae]at h;obtain rfl:=oi h;exact⟨Nat.zero_le 1,hx⟩
 exact⟨key.1,ak1 hb key.2⟩
theorem ahQ {k:Nat} (hk:1000000<k) {p:List Pg} (hp:p.length=602) (hb:Bp p) (h:lZ p=none):DA k p=some (0,⟨0,[],0⟩,false):=by
 have a0:BA k p 0=some (iY (dV p 0)):=aaK hk hp hb (a:=0) (by decide)
 have a1:BA k p 1=some (iY (dV p 1)):=aaK hk hp hb (a:=1) (by decide)
 unfold DA
 rw[a0,a1]
 simp only[Af]
 unfold lZ at h
 cases hx:dV p 0 with
 |none=>
  cases hy:dV p 1 with
  |none=>
   have e0:(iY none).AG=0:=rfl
   simp only[e0,BC,Am]
  |some y=>rw[hx,hy]at h;cases h
 |some x=>
  cases hy:dV p 1 with
  |none=>rw[hx,hy]at h;cases h
  |some y=>
   rw[hx,hy]at h
   simp only at h
   split at h<;>cases h
theorem afr {k:Nat} (hk:1000000<k) {l:List Ab} (hg:Cw l):BW k l=some ⟨bk ag [] l⟩:=by
 have h50:=hg.len
 unfold BW
 have h:=qJ (l:=l) (body:=BW.b0 k l) (fun i s=>(s,i)) (ej ag) (fun i s=>BI ag (l.take i) s) (by omega) (k:=k) (by omega) (s0:=[]) (BI.nil ag) (fun i r s hx hs=>by
  have hi:=(gS.1 hx).1
  have bx:(ag r).2=ax ag (l.take i) (ag r).1:=hg.no hx
  have fT:=hs.len
  rw[A9]at fT
  have hh:∀ x∈s,jm x:=fun x hx=>nB (hg.ok x (BY ((hs.mem x).1 hx)))
  have jE:eu s r=(ej ag s r,0):=by
   unfold eu
   rw[aa7 ag (hs.no ag bx)]
   simp only
   have e:r.At.No=((ax ag s r.At.Ap:Nat):Int):=by
    rw[hs.num];exact bx
   rw[if_neg (by omega),if_neg (by omega)]
  refine⟨?_,?_⟩
  ·unfold BW.b0
   simp only[AD (show (i:Int)<(l.length:Int) by omega),Am,bC hx,Af,aaI hk hs.val.1 (show s.length<=900 by omega) hh (nB (hg.ok r (AW hx))),jE]
  ·rw[take_at hx]
   exact hs.step ag bx) (fun s hs=>by
  unfold BW.b0
  simp only[(by simp:decide ((l.length:Int)<(l.length:Int))=false),Aj])
 rw[h.1]
 rfl
theorem apc {k:Nat} (hk:10000000<k) {d:Ac} (hd:DB d):∃ y,nP k d=some y/\Dn k d=some y/\((y=(⟨[],[]⟩,⟨⟨[]⟩,0,0,0⟩,95)\/y=(⟨[],[]⟩,⟨⟨[]⟩,0,0,0⟩,2))\/(y.2.2=0/\y.1=⟨ak d.Ae d.Ad,[]⟩/\∃ L,Cw L/\y.2.1.Ai=⟨bk ag [] L⟩)):=by
 have bw:1000000<k:=by omega
 obtain⟨J,ok,h1,h2⟩:=abq bw hd.len hd.new []
 have DI:dy k ⟨⟨ak d.Ae d.Ad,[]⟩⟩ 0 0=some (mx (ak d.Ae d.Ad) 0 0):=nU bw hd.len hd.new [] (a:=0) (by decide) 0
 have DJ:dy k ⟨⟨ak d.Ae d.Ad,[]⟩⟩ 1 0=some (mx (ak d.Ae d.Ad) 1 0):=nU bw hd.len hd.new [] (a:=1) (by decide) 0
 have g0:BG k (ak d.Ae d.Ad) 0 0=some (mx (ak d.Ae d.Ad) 0 0):=s9 bw hd.len hd.new (a:=0) (by decide) 0
 have g1:BG k (ak d.Ae d.Ad) 1 0=some (mx (ak d.Ae d.Ad) 1 0):=s9 bw hd.len hd.new (a:=1) (by decide) 0
 cases hm:lZ (ak d.Ae d.Ad) with
 |none=>
  rw[hm]at h2
  simp only at h2
  subst h2
  refine⟨_,?_,?_,.inl (.inl rfl)⟩
  ·unfold nP
   rw[oD bw,hd.ok]
   simp only[Af,AX,Aj]
   rw[na hd.ok]
   simp only[Af]
   rw[uk bw hd.ok]
   simp only[Af,h1,Bs,Am]
  ·unfold Dn
   rw[rH bw hd.ok]
   simp only[Af,AX,Aj,(rU bw hd.ok).1,ahQ bw hd.len hd.new hm,Bs,Am]
 |some q=>
  rw[hm]at h2
  simp only at h2
  obtain⟨rfl,ha,he,vC,hu⟩:=h2
  obtain⟨q1,q2,q3,q4⟩:=abo hd.new hm
  have hA:iY (some q.2)=⟨q.2.dE,q.2.ff.map (·.1),(q.2.used:Int)⟩:=rfl
  have n0:=vX (ak d.Ae d.Ad) 0 0
  have n1:=vX (ak d.Ae d.Ad) 1 0
  have hle:=ahV hd.new 0 0
  have arN:=ahV hd.new 1 0
  have hw:ab (1+max (mx (ak d.Ae d.Ad) 0 0) (mx (ak d.Ae d.Ad) 1 0))=1+max (mx (ak d.Ae d.Ad) 0 0) (mx (ak d.Ae d.Ad) 1 0):=aV (by omega) (by omega)
  have zf:ab (max (mx (ak d.Ae d.Ad) 0 0) (mx (ak d.Ae d.Ad) 1 0)+1)=1+max (mx (ak d.Ae d.Ad) 0 0) (mx (ak d.Ae d.Ad) 1 0):=by rw[aV (by omega) (by omega)];omega
  by_cases hc:(1000000:Int)<1+max (mx (ak d.Ae d.Ad) 0 0) (mx (ak d.Ae d.Ad) 1 0)
  ·refine⟨_,?_,?_,.inl (.inr rfl)⟩
   ·unfold nP
    rw[oD bw,hd.ok]
    simp only[Af,AX,Aj]
    rw[na hd.ok]
    simp only[Af]
    rw[uk bw hd.ok]
    simp only[Af,h1,AX,Aj,DI,DJ,hw,AD hc,Am]
   ·unfold Dn
    rw[rH bw hd.ok]
    simp only[Af,AX,Aj,(rU bw hd.ok).1,abp bw hd.len hd.new hm,g0,g1,zf,AD hc,Am]
  ·refine⟨(⟨ak d.Ae d.Ad,[]⟩,⟨⟨q.2.book⟩,(q.1:Int),1+max (mx (ak d.Ae d.Ad) 0 0) (mx (ak d.Ae d.Ad) 1 0),(q.2.used:Int)⟩,0),?_,?_,.inr ⟨rfl,rfl,_,q2,by rw[q3]⟩⟩
   ·exact apd bw hd hm (by omega)
   ·unfold Dn
    rw[rH bw hd.ok]
    simp only[Af,AX,Aj,(rU bw hd.ok).1,abp bw hd.len hd.new hm,hA,g0,g1,zf,AI hc,afr bw q2,q3]
theorem amE {k:Nat} (hk:1000000<k) {a b:List Ab} (hl:a.length<=100000):∃ c:Bool,fq k a b=some c/\(c=true↔a=b):=by
 unfold fq
 by_cases vw:a.length=b.length
 ·have hd:decide ((a.length:Int)=(b.length:Int))=true:=AD (by omega)
  simp only[hd,AX,Aj]
  have h:=aeP (n:=a.length) (body:=fq.b0 k a b) (p:=fun i=>decide (a[i]?=b[i]?)) (c:=false) (by omega) (k:=k) (by omega) (fun i hi=>by
   have hx:a[i]?=some a[i]:=gG hi
   have hy:b[i]?=some (b[i]'(by omega)):=gG _
   unfold fq.b0
   simp only[AD (show (i:Int)<(a.length:Int) by omega),Am,bC hx,bC hy,Af]
   rw[hx,hy]
   have he:(decide (a[i].At.Ap=(b[i]'(by omega)).At.Ap)&&(decide (a[i].At.No=(b[i]'(by omega)).At.No)&&(decide (a[i].Kind=(b[i]'(by omega)).Kind)&&(decide (a[i].Day=(b[i]'(by omega)).Day)&&(decide (a[i].Bh=(b[i]'(by omega)).Bh)&&(decide (a[i].Of.Ap=(b[i]'(by omega)).Of.Ap)&&(decide (a[i].Of.No=(b[i]'(by omega)).Of.No)&&(a[i].Text.toList==(b[i]'(by omega)).Text.toList))))))))=la a[i] (b[i]'(by omega)):=rfl
   rw[he]
   cases hc:la a[i] (b[i]'(by omega)) with
   |true=>rw[wi]at hc;simp only[hc,AX,Aj,BC,Am]
   |false=>
    have:a[i]≠(b[i]'(by omega)):=fun e=>by rw[<-wi,hc]at e;cases e
    rw[AI (fun e=>this (oi e))]
    rfl) (by
   unfold fq.b0
   simp only[(by simp:decide ((a.length:Int)<(a.length:Int))=false),Aj])
  rw[h]
  refine⟨(List.range a.length).all fun i=>decide (a[i]?=b[i]?),?_,?_⟩
  ·cases (List.range a.length).all fun i=>decide (a[i]?=b[i]?)<;>rfl
  ·rw[List.all_eq_true]
   constructor
   ·intro hq
    apply List.ext_getElem?
    intro i
    by_cases hi:i<a.length
    ·simpa using hq i (by simp[hi])
    ·rw[CL (by omega),CL (by omega)]
   ·rintro rfl;intro i _;simp
 ·have hd:decide ((a.length:Int)=(b.length:Int))=false:=AI (by omega)
  simp only[hd,Bs,Am]
  exact⟨false,rfl,⟨fun h=>(by cases h),fun h=>absurd (congrArg List.length h) vw⟩⟩
theorem acJ {k:Nat} (hk:10000000<k) {d:Ac} (hd:DB d) (l:Ay) (hl:l.Ai.Al.length<=1000):
  (kJ k d l=some 0/\CX k d l=some 0/\∃ q,FG d l q)\/(kJ k d l=some 94/\CX k d l=some 94):=by
 have bw:1000000<k:=by omega
 obtain⟨J,ok,h1,h2⟩:=abq bw hd.len hd.new []
 have DI:dy k ⟨⟨ak d.Ae d.Ad,[]⟩⟩ 0 0=some (mx (ak d.Ae d.Ad) 0 0):=nU bw hd.len hd.new [] (a:=0) (by decide) 0
 have DJ:dy k ⟨⟨ak d.Ae d.Ad,[]⟩⟩ 1 0=some (mx (ak d.Ae d.Ad) 1 0):=nU bw hd.len hd.new [] (a:=1) (by decide) 0
 have g0:BG k (ak d.Ae d.Ad) 0 0=some (mx (ak d.Ae d.Ad) 0 0):=s9 bw hd.len hd.new (a:=0) (by decide) 0
 have g1:BG k (ak d.Ae d.Ad) 1 0=some (mx (ak d.Ae d.Ad) 1 0):=s9 bw hd.len hd.new (a:=1) (by decide) 0
 cases hm:lZ (ak d.Ae d.Ad) with
 |none=>
  rw[hm]at h2
  simp only at h2
  subst h2
  refine .inr ⟨?_,?_⟩
  ·unfold kJ
   rw[oD bw,hd.ok]
   simp only[Af,AX,Aj]
   rw[na hd.ok]
   simp only[Af]
   rw[uk bw hd.ok]
   simp only[Af,h1,Aj]
  ·unfold CX
   rw[rH bw hd.ok]
   simp only[Af,Am,zn]
   cases within l.AG 1 1000000<;>simp only[AX,Bs,Am,Aj,(rU bw hd.ok).1,Af,ahQ bw hd.len hd.new hm]
 |some q=>
  rw[hm]at h2
  simp only at h2
  obtain⟨rfl,ha,he,vC,hu⟩:=h2
  obtain⟨q1,q2,q3,q4⟩:=abo hd.new hm
  have hA:iY (some q.2)=⟨q.2.dE,q.2.ff.map (·.1),(q.2.used:Int)⟩:=rfl
  have gF:=q2.bi.len
  have iN:=q2.len
  have E2:=nU bw hd.len hd.new [] q1 q.2.used
  have g2:=s9 bw hd.len hd.new q1 q.2.used
  obtain⟨cR,cR1,cR2⟩:=aiG hk (a:=l.Ai.Al) (b:=bk ag [] (q.2.ff.map (·.1))) hl
  obtain⟨cB,cB1,cB2⟩:=amE bw (a:=l.Ai.Al) (b:=bk ag [] (q.2.ff.map (·.1))) (by omega)
  have b9:cB=cR:=by
   cases cB<;>cases cR<;>first|rfl|skip
   ·exact absurd (cB2.2 (cR2.1 rfl)) (by simp)
   ·exact absurd (cR2.2 (cB2.1 rfl)) (by simp)
  subst b9
  have anC:decide (l.AG<max (mx (ak d.Ae d.Ad) 0 0) (mx (ak d.Ae d.Ad) 1 0))=(decide (l.AG<mx (ak d.Ae d.Ad) 0 0) || decide (l.AG<mx (ak d.Ae d.Ad) 1 0)):=by
   rw[Bool.eq_iff_iff];simp only[Bool.or_eq_true,decide_eq_true_eq];omega
  have eB:kJ k d l=some (bif decide (l.BB=(q.1:Int))&&(decide (l.Used=(q.2.used:Int))&&(cB&&(within l.AG 1 1000000&&(!decide (l.AG<mx (ak d.Ae d.Ad) 0 0)&&(!decide (l.AG<mx (ak d.Ae d.Ad) 1 0)&&!decide (l.AG<=mx (ak d.Ae d.Ad) q.1 q.2.used)))))) then 0 else 94):=by
   unfold kJ
   rw[oD bw,hd.ok]
   simp only[Af,AX,Aj]
   rw[na hd.ok]
   simp only[Af]
   rw[uk bw hd.ok]
   simp only[Af,h1,Am,ha,hu,vC,q3,cB1,zp,DI,DJ,anC,E2]
   cases decide (l.BB=(q.1:Int))<;>cases decide (l.Used=(q.2.used:Int))<;>cases cB<;>cases within l.AG 1 1000000<;>cases decide (l.AG<mx (ak d.Ae d.Ad) 0 0)<;>cases decide (l.AG<mx (ak d.Ae d.Ad) 1 0)<;>cases decide (l.AG<=mx (ak d.Ae d.Ad) q.1 q.2.used)<;>rfl
  have eR:CX k d l=some (bif decide (l.BB=(q.1:Int))&&(decide (l.Used=(q.2.used:Int))&&(cB&&(within l.AG 1 1000000&&(!decide (l.AG<mx (ak d.Ae d.Ad) 0 0)&&(!decide (l.AG<mx (ak d.Ae d.Ad) 1 0)&&!decide (l.AG<=mx (ak d.Ae d.Ad) q.1 q.2.used)))))) then 0 else 94):=by
   unfold CX
   rw[rH bw hd.ok]
   simp only[Af,Am,zn,(rU bw hd.ok).1,abp bw hd.len hd.new hm,hA,afr bw q2,cR1,g0,g1,g2]
   cases decide (l.BB=(q.1:Int))<;>cases decide (l.Used=(q.2.used:Int))<;>cases cB<;>cases within l.AG 1 1000000<;>cases decide (l.AG<mx (ak d.Ae d.Ad) 0 0)<;>cases decide (l.AG<mx (ak d.Ae d.Ad) 1 0)<;>cases decide (l.AG<=mx (ak d.Ae d.Ad) q.1 q.2.used)<;>rfl
  rw[eB,eR]
  cases hb:decide (l.BB=(q.1:Int))&&(decide (l.Used=(q.2.used:Int))&&(cB&&(within l.AG 1 1000000&&(!decide (l.AG<mx (ak d.Ae d.Ad) 0 0)&&(!decide (l.AG<mx (ak d.Ae d.Ad) 1 0)&&!decide (l.AG<=mx (ak d.Ae d.Ad) q.1 q.2.used)))))) with
  |false=>exact .inr ⟨rfl,rfl⟩
  |true=>
   simp only[A7,Bool.not_eq_true',decide_eq_true_eq,decide_eq_false_iff_not]at hb
   obtain⟨b1,b2,b3,b4,b5,b6,b7⟩:=hb
   refine .inl ⟨rfl,rfl,q,⟨hm,q1,b1,b2,?_,by rw[q3];omega,?_,by omega,by omega,by omega⟩⟩
   ·have:=cB2.1 b3
    rw[q3,<-this]
   ·unfold within at b4
    simpa using b4
theorem afH (e n c:Int) (r:Ab) (i:Nat):AY (dP e n c (enc r) i).l:=by
 intro y hy
 simp only[dP,iP,Ba,BE,List.not_mem_nil,or_false,List.mem_replicate]at hy
 rcases hy with (((((hy|hy)|hy)|hy)|hy)|hy)
 ·omega
 ·exact m7 _ _ y hy
 ·exact m7 _ _ y hy
 ·rcases hy with hy|hy<;>rw[hy,qK]<;>omega
 ·rcases hy with hy|hy
  ·exact alx r y (Cj (BY hy))
  ·omega
 ·omega
theorem aaS:AY hz.l:=by
 intro y hy
 have:y=0:=by
  simp only[hz,Aa.rep,List.mem_replicate]at hy
  exact hy.2
 omega
theorem afI {p:List Pg} (h:Bp p) (j s:Nat):AY (ph p j s).l:=by
 unfold ph
 cases hg:p[j]? with
 |none=>exact aaS
 |some g=>
  simp only
  cases hx:g.l[s]? with
  |none=>exact aaS
  |some x=>exact h g (AW hg) x (AW hx)
theorem apy {p:List Pg} (h:∀ j s,AY (ph p j s).l):Bp p:=by
 intro g hg x hx
 obtain⟨j,hj⟩:=BD.1 hg
 obtain⟨s,hs⟩:=BD.1 hx
 have e:ph p j s=x:=by rw[uc hj];unfold sd;rw[hs];rfl
 rw[<-e];exact h j s
theorem DB.more {d:Ac} (h:DB d) {a u:Nat} (ha:a<=1) {H:List Hf} (cD:u+H.length<=602) (hH:∀ x∈H,AY x.l) (hlen:(d.Ad++eZ (ak d.Ae d.Ad) a u H H.length 0).length<=1200):DB ⟨d.Ae,d.Ad++eZ (ak d.Ae d.Ad) a u H H.length 0⟩:=by
 obtain⟨k1,k2,k3⟩:=gj.1 h.ok
 have aht:=aeQ h.len ha cD H.length 0 (fun _=>rfl)
 have hG:∀ i:Nat,AY ((H[i]?).getD hz).l:=fun i=>by
  cases hx:H[i]? with
  |none=>exact aaS
  |some x=>exact hH x (AW hx)
 have oz:∀ j s,s<2->AY (tg (ak d.Ae d.Ad) a u H 0 j s).l:=fun j s hs=>by
  unfold tg
  split
  ·exact hG _
  ·exact afI h.new j s
 refine⟨gj.2 ⟨k1,hlen,fun w hw=>?_⟩,h.pb,fun w hw x hx=>?_⟩
 ·rcases Ba.1 hw with g|g
  ·exact k3 w g
  ·exact(aht w g).1
 ·rcases Ba.1 hw with g|g
  ·exact h.wb w g x hx
  ·obtain⟨s,hs⟩:=BD.1 hx
   have ot:s<2:=by
    have:=(gS.1 hs).1
    have:=w.AE.h
    omega
   have e:sd w.AE s=x:=by unfold sd;rw[hs];rfl
   rw[<-e,(aht w g).2 s ot]
   exact oz _ _ ot
def zD:Ac:=⟨[],[]⟩
def zL:Ay:=⟨⟨[]⟩,0,0,0⟩
theorem afi {k:Nat} (hk:10000000<k) {d:Ac} (hd:DB d) (l:Ay) (hl:l.Ai.Al.length<=1000) (r:Ab):
  ∃ y,jY k d l r=some y/\CW k d l r=some y/\((y.1=zD/\y.2.1=zL/\y.2.2≠0)\/(y.2.2=0/\DB y.1/\∃ L,Cw L/\y.2.1.Ai=⟨bk ag [] L⟩)):=by
 have bw:1000000<k:=by omega
 rcases acJ hk hd l hl with ⟨cB,cR,q,hL⟩|⟨cB,cR⟩
 rotate_left
 ·refine⟨(zD,zL,94),?_,?_,.inl ⟨rfl,rfl,by decide⟩⟩
  ·unfold jY;rw[cB];rfl
  ·unfold CW;rw[cR];rfl
 obtain⟨q1,q2,q3,q4⟩:=abo hd.new hL.adZ
 have tn:=q2.bi
 have gF:=tn.len
 have iN:=q2.len
 have yY:(q.2.ff.map (·.1)).length=q.2.ff.length:=Bg _
 have eD:l.Ai.Al=bk ag [] (q.2.ff.map (·.1)):=by rw[hL.book,q3]
 have hs:CD ag l.Ai.Al:=by rw[eD];exact tn.val.1
 have hh:∀ x∈l.Ai.Al,jm x:=by rw[eD];exact q2.hh
 have hLl:l.Ai.Al.length=(q.2.ff.map (·.1)).length:=by rw[eD,gF]
 have aB:=aaJ bw (b:=l.Ai) hs (by omega) hh r
 cases hr:cZ r with
 |false=>
  refine⟨(zD,zL,90),?_,?_,.inl ⟨rfl,rfl,by decide⟩⟩
  ·unfold jY
   rw[cB]
   simp only[Af,BC,AX,Aj]
   rw[aB,hr]
   rfl
  ·unfold CW
   rw[cR]
   simp only[Af,BC,AX,Aj,xz (show 1000<k by omega),hr]
   rfl
 |true=>
  have aR:=aaI bw hs (show l.Ai.Al.length<=900 by omega) hh (nB hr)
  rw[hr]at aB
  simp only[Am]at aB
  by_cases he:(eu l.Ai.Al r).2=0
  ·cases hf:gE ag l.Ai.Al (ag r) with
   |some x=>
    have jE:eu l.Ai.Al r=(l.Ai.Al,0):=by
     unfold eu at he ⊢
     rw[hf]at he ⊢
     simp only at he ⊢
     split
     ·rfl
     ·rename_i hx
      rw[if_neg hx]at he
      cases he
    have hB:=ak0 bw hd hL hr hs hh jE
    refine⟨(d,l,0),hB,?_,.inr ⟨rfl,hd,_,q2,by rw[hL.book,q3]⟩⟩
    unfold CW
    rw[cR]
    simp only[Af,BC,AX,Aj,xz (show 1000<k by omega),hr,Am,aR,jE,(afZ k hd.ok).1]
   |none=>
    have jE:eu l.Ai.Al r=(ej ag l.Ai.Al r,0)/\l.Ai.Al.length≠60/\r.At.No<=((ax ag l.Ai.Al r.At.Ap:Nat):Int):=by
     unfold eu at he ⊢
     rw[hf]at he ⊢
     simp only at he ⊢
     by_cases c1:((ax ag l.Ai.Al r.At.Ap:Nat):Int)<r.At.No
     ·rw[if_pos c1]at he;cases he
     ·rw[if_neg c1]at he ⊢
      by_cases c2:(l.Ai.Al.length:Int)=60
      ·rw[if_pos c2]at he;cases he
      ·rw[if_neg c2]
       exact⟨rfl,by omega,by omega⟩
    obtain⟨jE,arP,hle⟩:=jE
    have bx:(ag r).2=ax ag (q.2.ff.map (·.1)) (ag r).1:=by
     show r.At.No=((ax ag (q.2.ff.map (·.1)) r.At.Ap:Nat):Int)
     rw[eD,tn.num]at hle
     have h0:=(abF hr).2.1.1
     by_cases c3:r.At.No<((ax ag (q.2.ff.map (·.1)) r.At.Ap:Nat):Int)
     ·obtain⟨y,hy,hky⟩:=Fx ag q2.vl r.At.Ap r.At.No h0 (by omega)
      exact absurd hky (xO ag hf y (by rw[eD];exact(tn.mem y).2 hy))
     ·omega
    have hil:=zo ag l.Ai.Al r
    have hR':Cw (q.2.ff.map (·.1)++[r]):=by
     refine⟨fun x hx=>?_,?_,by rw[A8,List.length_singleton];omega⟩
     ·rcases Ba.1 hx with g|g
      ·exact q2.ok x g
      ·rw[CM.1 g];exact hr
     ·rw[Ek]
      exact⟨q2.vl,by rw[bx];exact(Int.zero_add _).symm,trivial⟩
    have am8:bk ag [] (q.2.ff.map (·.1)++[r])=ej ag l.Ai.Al r:=by
     rw[eD];unfold bk;rw[List.foldl_append];rfl
    have arD:=uQ hr
    have ht:=wh hr
    obtain⟨H,hHe⟩:∃ H,H=cC r (l.Ai.Al.length:Int) l.AG:=⟨_,rfl⟩
    have hH:(List.range (bD (enc r).length)).map (dP l.AG (l.Ai.Al.length:Int) (bD (enc r).length) (enc r))=H:=hHe.symm
    have hHl:H.length=bD (enc r).length:=by rw[hHe];exact kO _ _ _
    have hHb:∀ x∈H,AY x.l:=fun x hx=>by
     rw[<-hH]at hx
     obtain⟨i,_,rfl⟩:=List.mem_map.1 hx
     exact afH _ _ _ _ _
    have cD:q.2.used+H.length<=602:=by omega
    have hu:ab (l.Used+(H.length:Int))=((q.2.used+H.length:Nat):Int):=by
     rw[hL.used,aV (by omega) (by omega)];omega
    have hw:=aq6 bw hd q1 cD
    rw[<-hL.aW,<-hL.used]at hw
    have hwR:=aeO hk hd q1 cD
    rw[<-hL.aW,<-hL.used]at hwR
    obtain⟨W,hW⟩:∃ W,W=d.Ad++eZ (ak d.Ae d.Ad) q.1 q.2.used H H.length 0:=⟨_,rfl⟩
    rw[<-hW]at hw hwR
    have eB:jY k d l r=some (bif decide ((1200:Int)<(W.length:Int)) then (zD,zL,2) else (⟨d.Ae,W⟩,⟨⟨ej ag l.Ai.Al r⟩,l.BB,l.AG,((q.2.used+H.length:Nat):Int)⟩,0)):=by
     unfold jY
     rw[cB]
     simp only[Af,BC,AX,Aj]
     rw[aB,jE]
     simp only[Af,BC,AX,Aj]
     rw[na hd.ok]
     simp only[Af]
     unfold xn
     rw[acM (show l.Ai.Al.length<=1000 by omega)]
     simp only[Af,AI (show ¬ ((ej ag l.Ai.Al r).length:Int)=(l.Ai.Al.length:Int) by omega),Aj]
     rw[aid (show 100000<k by omega) ht,hH]
     simp only[Af,hu,AI (show ¬ (602:Int)<((q.2.used+H.length:Nat):Int) by omega),Aj,hw]
     cases decide ((1200:Int)<(W.length:Int))<;>rfl
    have eR:CW k d l r=some (bif decide ((1200:Int)<(W.length:Int)) then (zD,zL,2) else (⟨d.Ae,W⟩,⟨⟨ej ag l.Ai.Al r⟩,l.BB,l.AG,((q.2.used+H.length:Nat):Int)⟩,0)):=by
     unfold CW
     rw[cR]
     simp only[Af,BC,AX,Aj,xz (show 1000<k by omega),hr,Am,aR,jE,AI (show ¬ ((ej ag l.Ai.Al r).length:Int)=(l.Ai.Al.length:Int) by omega),adt (show 100000<k by omega) ht,hH,hwR,hu]
     cases decide ((1200:Int)<(W.length:Int))<;>rfl
    refine⟨_,eB,eR,?_⟩
    by_cases hc:(1200:Int)<(W.length:Int)
    ·rw[AD hc];exact .inl ⟨rfl,rfl,by simp⟩
    ·rw[AI hc]
     refine .inr ⟨rfl,?_,_,hR',by rw[am8];rfl⟩
     rw[hW]at hc
     have:=hd.more q1 cD hHb (by omega)
     rw[<-hW]at this
     exact this
  ·refine⟨(zD,zL,(eu l.Ai.Al r).2),?_,?_,.inl ⟨rfl,rfl,he⟩⟩
   ·unfold jY
    rw[cB]
    simp only[Af,BC,AX,Aj]
    rw[aB]
    simp only[Af,AI he,Bs,Am]
    rfl
   ·unfold CW
    rw[cR]
    simp only[Af,BC,AX,Aj,xz (show 1000<k by omega),hr,Am,aR,AI he,Bs]
    rfl
theorem alz {g:Pg} (h:∀ x∈g.l,AY x.l) (s:Nat):AY (sd g s).l:=by
 unfold sd
 cases hx:g.l[s]? with
 |none=>exact aaS
 |some x=>exact h x (AW hx)
theorem al0 {k:Nat} (hk:1000000<k) {d:Ac} (hd:DB d) (eH:List Int) (vL:eH.length<=4611686018427387904):
  ∃ p',aZ k d eH=some ⟨p',[]⟩/\DB ⟨p',[]⟩:=by
 obtain⟨h1,h2,h3⟩:=gj.1 hd.ok
 have step:∀ (i:Nat) w (p:List Pg),d.Ad[i]?=some w->p.length=602->∃ p',aZ.b0 k eH ⟨d⟩ ((i:Int),p)=some (.next (ab ((i:Int)+1),p'))/\Part p p' w:=by
  intro i w p hx hp
  have hi:=(gS.1 hx).1
  have hw:=h3 w (AW hx)
  unfold aZ.b0
  simp only[AD (show (i:Int)<((d.Ad.length:Nat):Int) by omega),Am,bC hx,Af]
  obtain⟨m,rfl⟩:∃ m,k=m+3:=⟨k - 3,by omega⟩
  have sh0:∀ s:Nat,s<2->lq (s:Int)=some ():=fun s hs=>by unfold lq;rw[if_neg (by omega)]
  by_cases hz:(0:Int)<(eH.length:Int)
  ·have oe:oJ (eH.length:Int)=some ():=by unfold oJ;rw[if_neg (by omega)]
   obtain⟨x,tT⟩:∃ x,at? eH (Int.tmod (i:Int) (eH.length:Int))=some x:=by
    rw[<-Int.ofNat_tmod]
    have ae:i % eH.length<eH.length:=Nat.mod_lt _ (by omega)
    exact⟨_,bC (gG ae)⟩
   simp only[AD hz,Am,oe,tT,Af]
   obtain⟨p',g1,g2⟩:=aiP (w:=w) hw (body:=aZ.b1 (m+3) w x) (c:=fun s=>decide (dN .i64 (Int.fdiv (dN .i64 x 3) (2 ^ (min (Int.toNat (s:Int)) 64))) 1=(1:Int))) (fun s p hs hp=>by
    unfold aZ.b1
    simp only[AD (show (s:Int)<2 by omega),Am,sh0 s hs,Af]) (fun p=>by
    unfold aZ.b1
    simp only[(by decide:decide ((2:Int)<2)=false),Aj]) hp m
   exact⟨p',by rw[g1];rfl,g2⟩
  ·simp only[AI hz,Aj]
   obtain⟨p',g1,g2⟩:=aiP (w:=w) hw (body:=aZ.pd (m+3) w) (c:=fun s=>decide (dN .i64 (Int.fdiv 0 (2 ^ (min (Int.toNat (s:Int)) 64))) 1=(1:Int))) (fun s p hs hp=>by
    unfold aZ.pd
    simp only[AD (show (s:Int)<2 by omega),Am,sh0 s hs,Af]) (fun p=>by
    unfold aZ.pd
    simp only[(by decide:decide ((2:Int)<2)=false),Aj]) hp m
   exact⟨p',by rw[g1];rfl,g2⟩
 have key:∀ (n i m:Nat) (p:List Pg),i+n=d.Ad.length->n<m->p.length=602->(∀ j s,AY (ph p j s).l)->
   ∃ p',aj (aZ.b0 k eH ⟨d⟩) m ((i:Int),p)=some (.brk p')/\p'.length=602/\(∀ j s,AY (ph p' j s).l):=by
  intro n
  induction n with
  |zero=>
   intro i m p g1 g2 g3 g4
   obtain⟨m,rfl⟩:∃ q,m=q+1:=⟨m - 1,by omega⟩
   have hb:aZ.b0 k eH ⟨d⟩ ((i:Int),p)=some (.brk p):=by
    unfold aZ.b0
    simp only[AI (show ¬ (i:Int)<((d.Ad.length:Nat):Int) by omega),Aj]
   exact⟨p,by simp only[aj,hb],g3,g4⟩
  |succ n ih=>
   intro i m p g1 g2 g3 g4
   obtain⟨m,rfl⟩:∃ q,m=q+1:=⟨m - 1,by omega⟩
   obtain⟨w,hw⟩:∃ w,d.Ad[i]?=some w:=⟨_,gG (by omega)⟩
   obtain⟨p1,a1,a2,a3⟩:=step i w p hw g3
   have zg:ab ((i:Int)+1)=((i+1:Nat):Int):=by rw[aV (by omega) (by omega)];omega
   rw[zg]at a1
   obtain⟨p',b1,b2⟩:=ih (i+1) m p1 (by omega) (by omega) a2 (fun j s=>by
    rcases a3 j s with e|⟨e1,e2⟩
    ·rw[e];exact g4 j s
    ·rw[e2];exact alz (hd.wb w (AW hw)) s)
   exact⟨p',by simp only[aj,a1,b1],b2⟩
 unfold aZ
 rw[na hd.ok,oD hk,hd.ok]
 simp only[Af,AX,Aj]
 obtain⟨p',b1,b2,b3⟩:=key d.Ad.length 0 k d.Ae (by omega) (by omega) h1 (fun j s=>afI hd.pb j s)
 rw[CV]at b1
 exact⟨p',by rw[b1];rfl,⟨gj.2 ⟨b2,by simp,by simp⟩,apy b3,by simp⟩⟩
def oM (l:List Ab) (e:Int):Nat->List Hf
 |0=>[]
 |n+1=>oM l e n++(match l[n]? with|some r=>cC r (n:Int) e|none=>[])
theorem aek {l:List Ab}{e:Int} (h:∀ r∈l,cZ r=true):∀ n,(oM l e n).length<=10*n
 |0=>Bd _
 |n+1=>by
  have:=aek (e:=e) h n
  rw[oM,A8]
  cases hx:l[n]? with
  |none=>simp only[Az];omega
  |some r=>
   simp only
   have:=uQ (h r (AW hx))
   rw[kO]
   omega
theorem aic {l:List Ab}{e:Int}:∀ n,∀ x∈oM l e n,AY x.l
 |0,x,h=>by simp[oM]at h
 |n+1,x,h=>by
  rw[oM,Ba]at h
  rcases h with h|h
  ·exact aic n x h
  ·cases hx:l[n]? with
   |none=>rw[hx]at h;simp at h
   |some r=>
    rw[hx]at h
    simp only at h
    unfold cC at h
    obtain⟨i,_,rfl⟩:=List.mem_map.1 h
    exact afH _ _ _ _ _
theorem aly (e n:Int):AY (cK e n).l:=by
 intro y hy
 simp only[cK,BE,List.not_mem_nil,or_false,Ba,List.mem_replicate]at hy
 have h8:∀ x:Int,0<=IntKind.u8.wrap x/\IntKind.u8.wrap x<256:=fun x=>by rw[qK];omega
 have a1:=h8 (Int.fdiv e (2 ^ 16))
 have a2:=h8 (Int.fdiv e (2 ^ 8))
 have a3:=h8 e
 have a4:=h8 (Int.fdiv n (2 ^ 8))
 have a5:=h8 n
 omega
theorem apv {R:Type}{k:Nat} (hk:1000000<k) {l:List Ab} (hl:l.length<=60) (hr:∀ r∈l,cZ r=true) {e:Int}{body:Int×List Hf->Option (AT (Int×List Hf) (List Hf) R)}
  (h1:∀ (i:Nat) (r:Ab) (s:List Hf),l[i]?=some r->body ((i:Int),s)=(dM 32 s (cC r (i:Int) e)).bind fun gq=>some (.next (ab ((i:Int)+1),gq)))
  (h2:∀ s,body ((l.length:Int),s)=some (.brk s)):aj body k (0,[])=some (.brk (oM l e l.length)):=by
 have h:=ab7 (n:=l.length) (body:=body) (fun i s=>(i,s)) (fun s i=>s++(match l[i]? with|some r=>cC r (i:Int) e|none=>[])) (fun i s=>s=oM l e i) (by omega) (k:=k) (by omega) (s0:=[]) rfl (fun i s hi hs=>by
  obtain⟨r,hx⟩:∃ r,l[i]?=some r:=⟨_,gG hi⟩
  have hL:=aek (e:=e) hr i
  have hc:=uQ (hr r (AW hx))
  have hHl:=kO r (i:Int) e
  refine⟨?_,by rw[hs,oM]⟩
  rw[h1 i r s hx,hs,lz (by omega) (by omega),Af,hx]) (fun s hs=>h2 s)
 rw[h.1,h.2]
theorem apu {k:Nat} (hk:10000000<k) {d:Ac} (hd:DB d) (l:Ay) (hl:l.Ai.Al.length<=1000):
  ∃ y,Cg k d l=some y/\((y.1=[]/\y.2.1=zL/\y.2.2≠0)\/(y.2.2=0/\∃ d1 d2 d3 d4 d5,y.1=[d1,d2,d3,d4,d5]/\DB d1/\DB d2/\DB d3/\DB d4/\DB d5/\y.2.1.Ai=l.Ai/\∃ L,Cw L/\l.Ai=⟨bk ag [] L⟩)):=by
 have bw:1000000<k:=by omega
 rcases acJ hk hd l hl with ⟨cB,cR,q,hL⟩|⟨cB,cR⟩
 rotate_left
 ·refine⟨([],zL,94),?_,.inl ⟨rfl,rfl,by decide⟩⟩
  unfold Cg;rw[cR];rfl
 obtain⟨q1,q2,q3,q4⟩:=abo hd.new hL.adZ
 have tn:=q2.bi
 have gF:=tn.len
 have iN:=q2.len
 have eD:l.Ai.Al=bk ag [] (q.2.ff.map (·.1)):=by rw[hL.book,q3]
 have hBr:∀ r∈l.Ai.Al,cZ r=true:=fun r hr=>by rw[eD]at hr;exact q2.ok r ((tn.mem r).1 hr)
 have hLl:l.Ai.Al.length<=60:=by rw[eD,gF];exact iN
 have hep:=hL.ep
 by_cases hE:l.AG=1000000
 ·refine⟨([],zL,2),?_,.inl ⟨rfl,rfl,by decide⟩⟩
  unfold Cg
  rw[cR]
  simp only[Af,BC,AX,Aj,AD hE,Am]
  rfl
 have he:ab (l.AG+1)=l.AG+1:=aV (by omega) (by omega)
 have tE:=apv (R:=List Ac×Ay×Int) bw hLl hBr (e:=l.AG+1) (body:=Cg.b0 k l) (fun i r s hx=>by
  have hi:=(gS.1 hx).1
  have hH:(List.range (bD (enc r).length)).map (dP (l.AG+1) (i:Int) (bD (enc r).length) (enc r))=cC r (i:Int) (l.AG+1):=rfl
  unfold Cg.b0
  simp only
  rw[AD (show (i:Int)<(l.Ai.Al.length:Int) by omega),Am,bC hx,Af,he,adt (show 100000<k by omega) (wh (hBr r (AW hx))),hH,Af]) (fun s=>by
  unfold Cg.b0
  simp only
  rw[AI (Int.lt_irrefl _),Aj])
 have hAl:=aek (e:=l.AG+1) hBr l.Ai.Al.length
 have hAb:=aic (l:=l.Ai.Al) (e:=l.AG+1) l.Ai.Al.length
 generalize hA:oM l.Ai.Al (l.AG+1) l.Ai.Al.length=A at tE hAl hAb
 have har:ab (1 - l.BB)=((1 - q.1:Nat):Int):=by rw[hL.aW,aV (by omega) (by omega)];omega
 have eM:1 - q.1<=1:=by omega
 have mH:=abW bw hd.ok
 have hd1:DB ⟨ak d.Ae d.Ad,[]⟩:=hd.sync
 generalize ak d.Ae d.Ad=P1 at mH hd1
 have eU:=aeO hk hd1 eM (u:=1) (l:=A) (by omega)
 have gp:=ab8 P1 (1 - q.1) 1 A A.length 0
 have kQ:=hd1.more eM (u:=1) (H:=A) (by omega) hAb (by simp only[abt,BM];omega)
 simp only[abt,BM]at eU kQ
 generalize eZ P1 (1 - q.1) 1 A A.length 0=w1 at eU kQ
 have y5:=abW bw kQ.ok
 have hd3:DB ⟨ak P1 w1,[]⟩:=kQ.sync
 simp only at y5
 generalize ak P1 w1=P3 at y5 hd3
 have lS:=aeO hk hd3 eM (u:=0) (l:=[cK (l.AG+1) (l.Ai.Al.length:Int)]) (by simp)
 have kT:=ab8 P3 (1 - q.1) 0 [cK (l.AG+1) (l.Ai.Al.length:Int)] [cK (l.AG+1) (l.Ai.Al.length:Int)].length 0
 have yo:=hd3.more eM (u:=0) (H:=[cK (l.AG+1) (l.Ai.Al.length:Int)]) (by simp) (fun x hx=>by rw[CM.1 hx];exact aly _ _) (by
  simp only[abt,BM]
  simp only[List.length_singleton]at kT ⊢
  omega)
 simp only[abt,BM]at lS yo
 generalize eZ P3 (1 - q.1) 0 [cK (l.AG+1) (l.Ai.Al.length:Int)] [cK (l.AG+1) (l.Ai.Al.length:Int)].length 0=w2 at lS yo
 have hs5:=abW bw yo.ok
 have hd5:DB ⟨ak P3 w2,[]⟩:=yo.sync
 simp only at hs5
 generalize ak P3 w2=P5 at hs5 hd5
 have anW:BK k ⟨P1,[]⟩ ((1 - q.1:Nat):Int) 1 A=some ⟨P1,w1⟩:=eU
 have anY:BK k ⟨P3,[]⟩ ((1 - q.1:Nat):Int) 0 [cK (l.AG+1) (l.Ai.Al.length:Int)]=some ⟨P3,w2⟩:=lS
 refine⟨([⟨P1,[]⟩,⟨P1,w1⟩,⟨P3,[]⟩,⟨P3,w2⟩,⟨P5,[]⟩],⟨l.Ai,((1 - q.1:Nat):Int),l.AG+1,ab (1+((A.length:Nat):Int))⟩,0),?_,.inr ⟨rfl,_,_,_,_,_,rfl,hd1,kQ,hd3,yo,hd5,rfl,_,q2,by rw[hL.book,q3]⟩⟩
 unfold Cg
 rw[cR]
 simp only[Af,BC,AX,Aj,AI hE,alV (show l.Ai.Al.length<=1000 by omega),tE,mH,har,anW,y5,he,ady (show 100<k by omega),anY,hs5]
theorem ajl {n:Nat}{α:Type}{eq:α->α->Bool} (h:∀ x,eq x x=true) (v:Aa n α):Aa.eq eq v v=true:=by
 unfold Aa.eq
 have key:∀ l:List α,(l.zip l).all (fun p=>eq p.1 p.2)=true:=by
  intro l
  induction l with
  |nil=>rfl
  |cons x l ih=>rw[List.zip_cons_cons,List.all_cons,h,ih];rfl
 exact key v.l
theorem aqU {n:Nat} (v:Aa n Int):Aa.eq (fun(x y:Int)=>decide (x=y)) v v=true:=ajl (eq:=fun(x y:Int)=>decide (x=y)) (fun x=>by simp) v
theorem ajk {n m:Nat} (v:Aa n (Aa m Int)):Aa.eq (Aa.eq fun(x y:Int)=>decide (x=y)) v v=true:=ajl (fun x=>aqU x) v
theorem aeA {k:Nat} (hk:10000000<k) {d:Ac} (h1:d.Ae.length<=1000) (h2:d.Ad.length<=2000):AU k d d=some true:=by
 unfold AU
 simp only[BC,Am]
 have w1:=qJ (l:=d.Ae) (body:=AU.b0 k d d) (fun i s=>(s,i)) (fun s x=>true) (fun i s=>s=true) (by omega) (k:=k) (by omega) (s0:=true) rfl (fun i x s hx hs=>by
  have hi:=(gS.1 hx).1
  subst hs
  refine⟨?_,rfl⟩
  unfold AU.b0
  have hv:Aa.eq (Aa.eq fun(x y:Int)=>decide (x=y)) x x=true:=ajk _
  simp only[AD (show (i:Int)<(d.Ae.length:Int) by omega),Am,bC hx,Af,hv]) (fun s hs=>by
  unfold AU.b0
  simp only[(by simp:decide ((d.Ae.length:Int)<(d.Ae.length:Int))=false),Aj])
 rw[w1.1]
 have e1:d.Ae.foldl (fun(s:Bool) x=>true) true=true:=w1.2
 simp only[Af,e1]
 have w2:=qJ (l:=d.Ad) (body:=AU.b1 k d d) (fun i s=>(s,i)) (fun s x=>true) (fun i s=>s=true) (by omega) (k:=k) (by omega) (s0:=true) rfl (fun i x s hx hs=>by
  have hi:=(gS.1 hx).1
  subst hs
  refine⟨?_,rfl⟩
  unfold AU.b1
  have hv:Aa.eq (Aa.eq fun(x y:Int)=>decide (x=y)) x.AE x.AE=true:=ajk _
  simp only[AD (show (i:Int)<(d.Ad.length:Int) by omega),Am,bC hx,Af,hv,BC,Bool.and_self]) (fun s hs=>by
  unfold AU.b1
  simp only[(by simp:decide ((d.Ad.length:Int)<(d.Ad.length:Int))=false),Aj])
 rw[w2.1]
 have e2:d.Ad.foldl (fun(s:Bool) x=>true) true=true:=w2.2
 simp only[Af,e2]
theorem aiF {k:Nat} (hk:10000000<k) {l:Ay} (hl:l.Ai.Al.length<=1000):DX k l l=some true:=by
 unfold DX
 rw[aqe hk hl]
 simp only[Af,Am,BC]
structure Jn (d:Ac) (l:Ay):Prop where
 db:DB d
 book:∃ L,Cw L/\l.Ai=⟨bk ag [] L⟩
theorem Jn.len {d:Ac}{l:Ay} (h:Jn d l):l.Ai.Al.length<=60:=by
 obtain⟨L,h1,h2⟩:=h.book
 have:=h1.bi.len
 have:=h1.len
 rw[h2];simp only;omega
theorem Jn.hh {d:Ac}{l:Ay} (h:Jn d l):∀ r∈l.Ai.Al,jm r:=by
 obtain⟨L,h1,h2⟩:=h.book
 rw[h2];exact h1.hh
theorem aoR {k:Nat} (hk:10000000<k):E3 k=some (⟨jN,[]⟩,⟨⟨[]⟩,0,1,1⟩):=by
 have hm:ma 602 64 ((Aa.rep 2 ((Aa.rep 32 (0:Int)):(Aa 32 Int))):(Aa 2 (Aa 32 Int)))=some (List.replicate 602 pz):=by
  unfold ma mk?
  rw[if_pos (by decide)]
  rfl
 have hl:(List.replicate 602 pz).length=602:=CU
 have h0:(List.replicate 602 pz)[0]?=some pz:=by rw[List.getElem?_replicate];rfl
 have ha:at? (List.replicate 602 pz) 0=some pz:=bC h0
 have hp0:pz.at? 0=some hz:=rfl
 unfold E3
 rw[hm]
 simp only[Af,ady (show 100<k by omega),ha,hp0]
 unfold dJ
 rw[if_pos (by rw[hl];decide)]
 rfl
theorem amu {k:Nat} (hk:10000000<k) {d:Ac}{l:Ay} (h:Jn d l) (y:Bz) (hp:y.Df.length<=4611686018427387904):∃ z,E8 k d l y=some z/\Jn z.1 z.2:=by
 have bw:1000000<k:=by omega
 have hlen:=h.len
 unfold E8
 rw[mb k y.Kind (m:=8) (by decide) (by decide)]
 simp only[Af]
 by_cases c5:y.Kind % 8=5
 ·simp only[AD c5,Am,abW bw h.db.ok,Af]
  exact⟨_,rfl,h.db.sync,h.book⟩
 ·simp only[AI c5,Aj]
  by_cases c6:y.Kind % 8=6
  ·simp only[AD c6,Am]
   obtain⟨z,h1,h2⟩:=apu hk h.db l (by omega)
   rw[h1]
   simp only[Af]
   rcases h2 with ⟨_,_,h3⟩|⟨h3,d1,d2,d3,d4,d5,h4,_,_,_,_,h5,h6,h7⟩
   ·simp only[AI h3,Aj]
    exact⟨_,rfl,h⟩
   ·rw[h4]
    simp only[h3,BC,Am]
    have:at? [d1,d2,d3,d4,d5] (ab (((5:Nat):Int) - 1))=some d5:=rfl
    simp only[AA,Az,Cq,Nat.reduceAdd,this,Af]
    exact⟨_,rfl,h5,by simp only[h6];exact h7⟩
  ·simp only[AI c6,Aj]
   by_cases c7:y.Kind % 8=7
   ·simp only[AD c7,Am]
    obtain⟨p,h1,h2⟩:=al0 bw h.db y.Df hp
    rw[alZ hk h.db,h1]
    simp only[Af]
    obtain⟨z,_,h3,h4⟩:=apc hk h2
    rw[h3]
    simp only[Af]
    rcases h4 with (rfl|rfl)|⟨h5,h6,h7⟩
    ·exact⟨_,rfl,h⟩
    ·exact⟨_,rfl,h⟩
    ·simp only[h5,BC,Am]
     refine⟨_,rfl,?_,h7⟩
     rw[h6]
     exact h2.sync
   ·simp only[AI c7,Aj]
    obtain⟨r,h1,_⟩:=ap4 bw (show l.Ai.Al.length<=100 by omega) h.hh y.Ab
    obtain⟨z,_,h3,h4⟩:=afi hk h.db l (by omega) r
    rw[h1]
    simp only[Af,h3]
    rcases h4 with ⟨_,_,h5⟩|⟨h5,h6,h7⟩
    ·simp only[AI h5,Aj]
     exact⟨_,rfl,h⟩
    ·simp only[h5,BC,Am]
     exact⟨_,rfl,h6,h7⟩
theorem ahA {k:Nat} (hk:10000000<k) (l0:List Bz) (hp:∀ y∈l0,y.Df.length<=4611686018427387904):∃ z,BQ k l0=some z/\Jn z.1 z.2:=by
 have dw:Jn ⟨jN,[]⟩ ⟨⟨[]⟩,0,1,1⟩:=⟨Jr.new.db,[],⟨by simp,trivial,by simp⟩,rfl⟩
 have key:∀ (n i m:Nat) (d:Ac) (l:Ay),i+n=12->n<m->Jn d l->∃ z,aj (BQ.b0 k l0) m (d,l,(i:Int))=some (.brk z)/\Jn z.1 z.2:=by
  intro n
  induction n with
  |zero=>
   intro i m d l g1 g2 g3
   obtain⟨m,rfl⟩:∃ q,m=q+1:=⟨m - 1,by omega⟩
   have hb:BQ.b0 k l0 (d,l,(i:Int))=some (.brk (d,l)):=by
    unfold BQ.b0
    simp only[AI (show ¬ (i:Int)<12 by omega),Aj]
    cases decide ((i:Int)<(l0.length:Int))<;>rfl
   exact⟨(d,l),by simp only[aj,hb],g3⟩
  |succ n ih=>
   intro i m d l g1 g2 g3
   obtain⟨m,rfl⟩:∃ q,m=q+1:=⟨m - 1,by omega⟩
   by_cases hi:i<l0.length
   ·have hx:l0[i]?=some l0[i]:=gG hi
    obtain⟨z,h1,h2⟩:=amu hk g3 l0[i] (hp _ (List.getElem_mem hi))
    have zg:ab ((i:Int)+1)=((i+1:Nat):Int):=by rw[aV (by omega) (by omega)];omega
    have hb:BQ.b0 k l0 (d,l,(i:Int))=some (.next (z.1,z.2,((i+1:Nat):Int))):=by
     unfold BQ.b0
     simp only[AD (show (i:Int)<(l0.length:Int) by omega),AD (show (i:Int)<12 by omega),Am,bC hx,Af,h1,zg]
    obtain⟨y,h3,h4⟩:=ih (i+1) m z.1 z.2 (by omega) (by omega) h2
    exact⟨y,by simp only[aj,hb,h3],h4⟩
   ·have hb:BQ.b0 k l0 (d,l,(i:Int))=some (.brk (d,l)):=by
     unfold BQ.b0
     simp only[AI (show ¬ (i:Int)<(l0.length:Int) by omega),Aj]
    exact⟨(d,l),by simp only[aj,hb],g3⟩
 obtain⟨z,h1,h2⟩:=key 12 0 k ⟨jN,[]⟩ ⟨⟨[]⟩,0,1,1⟩ (by omega) (by omega) dw
 unfold BQ
 rw[aoR hk]
 rw[CV]at h1
 simp only[Af,h1]
 exact⟨z,rfl,h2⟩
theorem aji {n:Nat}{α:Type} (v:Aa n α) {i:Int} (h0:0<=i) (h1:i<n):∃ x,v.at? i=some x/\x∈v.l:=by
 unfold Aa.at?
 have hl:=v.h
 have ae:i.toNat<v.l.length:=by omega
 rw[if_pos ⟨h0,h1⟩,gG ae]
 exact⟨_,rfl,List.getElem_mem ae⟩
theorem ahS {n:Nat}{α:Type}{v:Aa n α}{i:Int}{x y:α} (h:y∈(v.set i x).l):y∈v.l\/y=x:=by
 unfold Aa.set at h
 exact List.mem_or_eq_of_mem_set h
theorem aog (k:Nat) {P:List AE} (hP:P.length=602) (hb:Bp P) (s:Bb):∃ P',abk k P s=some P'/\P'.length=602/\Bp P':=by
 have B1:=oG s.AE (m:=602) (by decide)
 have B2:=oG s.DD (m:=2) (by decide)
 have B3:=oG s.At (m:=32) (by decide)
 unfold abk
 rw[mb k s.AE (m:=602) (by decide) (by decide),mb k s.DD (m:=2) (by decide) (by decide),mb k s.At (m:=32) (by decide) (by decide)]
 simp only[Af]
 have ae:(s.AE % 602).toNat<P.length:=by omega
 have hx:P[(s.AE % 602).toNat]?=some P[(s.AE % 602).toNat]:=gG ae
 have ha:at? P (s.AE % 602)=some P[(s.AE % 602).toNat]:=by
  have:=bC hx
  rw[Int.toNat_of_nonneg B1.1]at this
  exact this
 obtain⟨h,h1,h2⟩:=aji P[(s.AE % 602).toNat] (i:=s.DD % 2) B2.1 B2.2
 obtain⟨m0,m1,m2⟩:=aji h (i:=s.At % 32) B3.1 B3.2
 rw[ha]
 simp only[Af,h1,m1]
 refine⟨_,rfl,by rw[C5];exact hP,fun g hg x hx=>?_⟩
 rcases List.mem_or_eq_of_mem_set hg with e|e
 ·exact hb g e x hx
 ·subst e
  rcases ahS hx with e|e
  ·exact hb _ (List.getElem_mem ae) x e
  ·subst e
   intro y hy
   rcases ahS hy with e|e
   ·exact hb _ (List.getElem_mem ae) h h2 y e
   ·subst e
    have:=qK s.CH
    omega
theorem ahv (k:Nat):∀ (l:List Bb) {P:List AE},P.length=602->Bp P->∃ P',rG k P l=some P'/\P'.length=602/\Bp P'
 |[],P,h1,h2=>⟨P,rfl,h1,h2⟩
 |s::l,P,h1,h2=>by
  obtain⟨Q,q1,q2,q3⟩:=aog k h1 h2 s
  obtain⟨R,r1,r2,r3⟩:=ahv k l q2 q3
  exact⟨R,by rw[rG,q1];exact r1,r2,r3⟩
theorem aoe {k:Nat} (hk:10000000<k) (l0:List Bz) (hp:∀ y∈l0,y.Df.length<=4611686018427387904) (ck:List Bb) (hs:ck.length<=4611686018427387904) (cut:Int):∃ d,EZ k l0 ck cut=some d/\DB d:=by
 obtain⟨z,h1,h2⟩:=ahA hk l0 hp
 obtain⟨g1,g2,g3⟩:=gj.1 h2.db.ok
 obtain⟨P,p1,p2,p3⟩:=ahv k (ck.take 6) g1 h2.db.pb
 unfold EZ
 rw[if_pos hs,h1]
 simp only[Af,p1]
 have full:DB ⟨P,z.1.Ad⟩:=⟨gj.2 ⟨p2,g2,g3⟩,p3,h2.db.wb⟩
 by_cases c1:0<cut
 ·simp only[AD c1,Am]
  by_cases c2:(0:Int)<(z.1.Ad.length:Int)
  ·have hw:ab ((z.1.Ad.length:Int)+1)=(z.1.Ad.length:Int)+1:=aV (by omega) (by omega)
   have B:=oG cut (m:=(z.1.Ad.length:Int)+1) (by omega)
   have lS:ab ((z.1.Ad.length:Int) - cut % ((z.1.Ad.length:Int)+1))=(z.1.Ad.length:Int) - cut % ((z.1.Ad.length:Int)+1):=aV (by omega) (by omega)
   simp only[AD c2,Am,hw,mb k cut (m:=(z.1.Ad.length:Int)+1) (by omega) (by omega),Af,lS]
   have hh:nq z.1.Ad.length ((z.1.Ad.length:Int) - cut % ((z.1.Ad.length:Int)+1))=some ():=by unfold nq;rw[if_pos (by omega)]
   rw[hh]
   refine⟨_,rfl,gj.2 ⟨p2,?_,fun w hw=>g3 w (BY hw)⟩,p3,fun w hw=>h2.db.wb w (BY hw)⟩
   simp only[A9];omega
  ·simp only[AI c2,Aj]
   exact⟨_,rfl,full⟩
 ·simp only[AI c1,Aj]
  exact⟨_,rfl,full⟩
def D6 (d:Ac):Prop:=DB d\/(d.Ae.length=601/\d.Ad.length<=1200)
theorem amf {k:Nat} (hk:10000000<k) (x0:Cd) (hp:∀ y∈x0.Dl,y.Df.length<=4611686018427387904) (hs:x0.Ei.length<=4611686018427387904):∃ d,ET k x0=some d/\D6 d:=by
 obtain⟨d,h1,h2⟩:=aoe hk x0.Dl hp x0.Ei hs x0.Cut
 obtain⟨g1,g2,g3⟩:=gj.1 h2.ok
 unfold ET
 rw[h1]
 simp only[Af]
 cases hc:x0.Fw with
 |false=>exact⟨d,rfl,.inl h2⟩
 |true=>
  have e1:bY d.Ae 1 d.Ae.length=some ((d.Ae.drop 1).take (d.Ae.length - 1)):=by
   unfold bY
   rw[if_pos (by omega)]
   congr 2
  have e2:((d.Ae.drop 1).take (d.Ae.length - 1)).length=601:=by
   rw[A9,Bi];omega
  have e3:eW ((d.Ae.drop 1).take (d.Ae.length - 1)).length 64=some ():=by
   rw[e2];unfold eW;rw[if_pos (by decide)]
  simp only[Am,e1,Af,e3]
  exact⟨_,rfl,.inr ⟨e2,g2⟩⟩
section
variable {k:Nat}{d:Ac}
theorem aiN (h:d.Ae.length=601):j5 d=false:=by
 cases hc:j5 d with
 |false=>rfl
 |true=>have:=(gj.1 hc).1;omega
theorem aiO (h:d.Ae.length=601):BZ k d=some false:=by
 unfold BZ
 simp only[AI (show ¬ (d.Ae.length:Int)=602 by omega),Aj]
theorem D6.same (hk:10000000<k) (h:D6 d):AU k d d=some true:=by
 rcases h with h|⟨h,hw⟩
 ·obtain⟨g1,g2,_⟩:=gj.1 h.ok
  exact aeA hk (by omega) (by omega)
 ·exact aeA hk (by omega) (by omega)
end
theorem aoC {k:Nat} (hk:10000000<k) (x0:Cd) (c1:Cs) (hp:∀ y∈x0.Dl,y.Df.length<=4611686018427387904):∃ l,EU k x0 c1=some l/\l.Ai.Al.length<=60:=by
 obtain⟨z,h1,h2⟩:=ahA hk x0.Dl hp
 have hl:=h2.len
 unfold EU
 rw[h1,Af,mb k c1.DE (m:=8) (by decide) (by decide),Af]
 by_cases e0:c1.DE % 8=0
 ·simp only[AD e0,Am];exact⟨_,rfl,hl⟩
 simp only[AI e0,Aj]
 by_cases e1:c1.DE % 8=1
 ·simp only[AD e1,Am];exact⟨_,rfl,hl⟩
 simp only[AI e1,Aj]
 by_cases e2:c1.DE % 8=2
 ·simp only[AD e2,Am];exact⟨_,rfl,hl⟩
 simp only[AI e2,Aj]
 by_cases e3:c1.DE % 8=3
 ·simp only[AD e3,Am]
  by_cases e4:(0:Int)<(z.2.Ai.Al.length:Int)
  ·have h3:bY z.2.Ai.Al 1 z.2.Ai.Al.length=some ((z.2.Ai.Al.drop 1).take (z.2.Ai.Al.length - 1)):=by
    unfold bY
    rw[if_pos (by omega)]
    congr 2
   have h4:((z.2.Ai.Al.drop 1).take (z.2.Ai.Al.length - 1)).length<=60:=by
    rw[A9,Bi];omega
   have h5:eW ((z.2.Ai.Al.drop 1).take (z.2.Ai.Al.length - 1)).length 72=some ():=by
    unfold eW;rw[if_pos ⟨by omega,by omega⟩]
   simp only[AD e4,Am,h3,Af,h5]
   exact⟨_,rfl,h4⟩
  ·simp only[AI e4,Aj]
   exact⟨_,rfl,hl⟩
 ·simp only[AI e3,Aj]
  exact⟨_,rfl,hl⟩
section
variable {k:Nat}{d:Ac}
theorem alL (hk:10000000<k) (h:D6 d) (l:Ay) (hl:l.Ai.Al.length<=1000):∃ y,kJ k d l=some y/\CX k d l=some y:=by
 rcases h with h|⟨h,hw⟩
 ·rcases acJ hk h l hl with ⟨h1,h2,_⟩|⟨h1,h2⟩
  ·exact⟨_,h1,h2⟩
  ·exact⟨_,h1,h2⟩
 ·refine⟨94,?_,?_⟩
  ·unfold kJ
   rw[oD (show 1000000<k by omega),aiN h]
   rfl
  ·unfold CX
   rw[aiO h]
   rfl
theorem akZ (hk:10000000<k) (h:D6 d) (l:Ay) (hl:l.Ai.Al.length<=1000) (r:Ab):∃ y,jY k d l r=some y/\CW k d l r=some y/\AU k y.1 y.1=some true/\DX k y.2.1 y.2.1=some true:=by
 have zd:AU k zD zD=some true:=aeA hk (by simp[zD]) (by simp[zD])
 have zl:DX k zL zL=some true:=aiF hk (by simp[zL])
 rcases h with h|⟨h,hw⟩
 ·obtain⟨y,h1,h2,h3⟩:=afi hk h l hl r
  refine⟨y,h1,h2,?_⟩
  rcases h3 with ⟨e1,e2,_⟩|⟨_,e1,L,e2,e3⟩
  ·rw[e1,e2];exact⟨zd,zl⟩
  ·have hb:=e2.bi.len
   have jh:=e2.len
   exact⟨D6.same hk (.inl e1),aiF hk (by rw[e3];simp only;omega)⟩
 ·refine⟨(zD,zL,94),?_,?_,zd,zl⟩
  ·unfold jY kJ
   rw[oD (show 1000000<k by omega),aiN h]
   rfl
  ·unfold CW CX
   rw[aiO h]
   rfl
end
theorem ala (x0:Cd) (c1:Cs) (hp:∀ y∈x0.Dl,y.Df.length<=4611686018427387904) (hs:x0.Ei.length<=4611686018427387904):ES 18446744073709551616 x0 c1=some true:=by
 have hk:10000000<18446744073709551616:=by decide
 obtain⟨d,h1,h2⟩:=amf hk x0 hp hs
 obtain⟨l,l1,l2⟩:=aoC hk x0 c1 hp
 obtain⟨y,y1,y2,y3,y4⟩:=akZ hk h2 l (by omega) c1.Ab
 obtain⟨z,z1,z2⟩:=alL hk h2 l (by omega)
 unfold ES
 rw[aqg,h1]
 simp only[Af,l1,y1,y2,y3,y4,z1,z2,Am,BC]
end Go.Abs
namespace Go.Proofs.Ytpgccpdlilnakaa.bookAppends
open Go.Abs
theorem plain (a0:Go.Abs.Cd) (a1:Go.Abs.Cs):Go.Abs.Cd.q a0->Go.Abs.Cs.q a1->∃ k,ES k a0 a1=some true:=by
 intro q0 q1;exact⟨_,ala a0 a1 (fun y hy=>by have h:=(q0.1.2.2 y hy).2.2.2.1;have:=aik;omega) (by have h:=q0.2.1.2.1;have:=aik;omega)⟩
end Go.Proofs.Ytpgccpdlilnakaa.bookAppends
namespace Go.Proofs.Ytpgccpdlilnakaa.bookAppends
open Go.ChangeShapes Go.WideShapes Go.ChangeAt Go.RowKit Go.Abs
theorem own:ownKnob Try.prog.godebug=none:=by kernel_rfl
theorem alU (H:Type) (enc:TypeId×Value->H) (W:World) (base:Nat) (args:Array Value) (ds gs:List (DataW H)) (before:List MemPlace)
  (qg:∀ (j:Nat) t v,Try.f4.params[j]?=some t->args[j]?=some v->Value.okWide Try.prog W .any base t v)
  (hW:DataW.Whole enc Try.prog Try.f4.params.toList Rows.bookAppendsSpec.vars false W args.toList ds gs before) (anQ:(DataW.weightsEach Try.prog (Try.f4.params.toList++Rows.bookAppendsSpec.plain.varTypes Try.prog) (ds++gs)).all (·<=reachBytes)=true):
  Calls Try.prog 4 args W fun e W'=>∃ v,e=.returned v/\Rows.bookAppendsSpec.post enc Try.prog Try.f4 false true false false W args v W':=by
 have hW':=hW
 obtain⟨p,q,hA0,hV,rfl,ni,bV⟩:=hW
 have hA:DataW.TrodAll enc Try.prog W 0 (fun _=>true) true Try.f4.params.toList args.toList ds p:=hA0
 rw[Try.params4]at hA qg
 obtain⟨v0,vs0,d0,ds0,p0,q0,fo,rfl,rfl,h0,r0⟩:=trodAll_cons hA
 obtain⟨v1,vs1,d1,ds1,p1,q1,rfl,rfl,rfl,h1,r1⟩:=trodAll_cons r0
 obtain⟨rfl,rfl,rfl⟩:=trodAll_nil r1
 have aw:∀ (j:Nat) t d,Try.f4.params.toList[j]?=some t->[d0,d1][j]?=some d->∀ n∈d.weights Try.prog t,n<=reachBytes:=aq0 (by rw[Try.params4];rfl) anQ
 rw[Try.params4]at aw
 obtain rfl:args=#[v0,v1]:=by cases args;simp_all
 obtain⟨a0,Q0,V0⟩:=afk apU (by have h:=qg 0 36 v0 rfl rfl;unfold Value.okWide at h;rw[Try.underlying36]at h;obtain⟨cs,h,_⟩:=h;exact⟨cs,h⟩) h0 (aw 0 36 d0 rfl rfl)
 obtain⟨a1,Q1,V1⟩:=afk apV (by have h:=qg 1 38 v1 rfl rfl;unfold Value.okWide at h;rw[Try.underlying38]at h;obtain⟨cs,h,_⟩:=h;exact⟨cs,h⟩) h1 (aw 1 38 d1 rfl rfl)
 obtain⟨k,hk⟩:=plain a0 a1 Q0 Q1
 have hv:Au (pG W) [] [.agg (Go.Abs.Cd.c a0),.agg (Go.Abs.Cs.c a1)] [v0,v1]:=⟨rfl,fun i x v h1 h2=>by
  match i with
  |0=>cases h1;cases h2;exact V0
  |1=>cases h1;cases h2;exact V1
  |i+2=>simp at h1⟩
 refine Calls.mono ((Iu k a0 a1 true hk).2 (pG W) W _ (fun _ _ _ h=>h) hv) ?_
 rintro e W1 ⟨v,y,dR,rfl,rfl,_,bp,_,hB⟩
 cases bp
 exact⟨_,rfl,aoz (t:=4) (by kernel_rfl) (by kernel_rfl) (by kernel_rfl) hW' rfl hB (by rw[Try.params4];decide +kernel) rfl Try.underlying4 (by obtain⟨rfl,_⟩:=trodVars_none hV;rfl)⟩
theorem lifted (os:Os) (started:os.Started) (H:Type) (enc:TypeId×Value->H):
  ReturnsInHanded {} Try.checked os 4 .any (Rows.bookAppendsSpec.pre6 enc Try.prog Try.f4 Rows.bookAppendsRow.domain false) (Rows.bookAppendsSpec.post enc Try.prog Try.f4 false true false false):=by
 refine returnsInHanded_of_change_sized (C:=Try.checked) own started (by kernel_rfl) Try.func4
  (ChangeSpec.witness6 (enc:=enc) (C:=Try.checked) false ⟨#[],#[.agg #[.slice none 0 0,.slice none 0 0,.int .i64 0,.bool false],.agg #[.int .i64 0,.int .i64 0,.int .i64 0,.int .i64 0,.int .i64 0,.int .i64 0,.int .i64 0,.int .i64 0,.int .i64 0,.string ⟨#[]⟩]],[]⟩ 8 (by kernel_rfl) (by kernel_rfl) (by kernel_rfl) (by kernel_rfl)) ?_
 intro W base args ds gs before anV hW arG aw _
 exact alU H enc W base args ds gs before anV hW aw
theorem apl:Rows.bookAppendsRow.holds Try.pinned (OpenSpec.ofChange Rows.bookAppendsSpec):=
 OpenClaim.holds_of_wide 4 Try.f4 rfl rfl rfl rfl rfl rfl rfl ⟨rfl,rfl,rfl,rfl,rfl⟩ rfl rfl rfl rfl rfl (by kernel_rfl) Try.func4 (by kernel_rfl)
  (of_decide_eq_true (by kernel_rfl)) (by unfold Func.isWrapper;first|(rw[if_pos (by decide +kernel)];kernel_rfl)|(rw[if_neg (by decide +kernel)];exact⟨rfl,rfl⟩))
  (fun os started H enc _=>lifted os started H enc)
theorem proved:Rows.BookAppendsSaid:=apl
end Go.Proofs.Ytpgccpdlilnakaa.bookAppends
