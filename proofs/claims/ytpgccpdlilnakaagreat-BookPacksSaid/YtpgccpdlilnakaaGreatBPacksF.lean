/-
  Part 6 of the proof: a machine over named blocks, what each function computes, and what follows. No condition.
-/
import Derived.Test.YtpgccpdlilnakaaGreatRows
import Derived.WalkKit
import Derived.ProofKit
import Derived.OpenShut
import Derived.JoinedCond
import Derived.Test.YtpgccpdlilnakaaGreatBPacksE
set_option linter.unusedVariables false
set_option linter.unusedSimpArgs false
set_option linter.all false
set_option maxRecDepth 100000
set_option maxHeartbeats 8000000
namespace Go.Abs
open Go Go.Proofs
theorem afY (s:ByteArray):s.toList=s.data.toList:=by
 have key:∀ (d i:Nat) (r:List UInt8),i+d=s.size->ByteArray.toList.loop s i r=r.reverse++s.data.toList.drop i:=by
  intro d
  induction d with
  |zero=>
   intro i r h
   rw[ByteArray.toList.loop,if_neg (by omega)]
   have hl:s.data.toList.length=s.size:=rfl
   rw[DE (by omega),List.append_nil]
  |succ d ih=>
   intro i r h
   have hl:s.data.toList.length=s.size:=rfl
   have hi:i<s.data.toList.length:=by omega
   rw[ByteArray.toList.loop,if_pos (by omega),ih (i+1) _ (by omega),List.drop_eq_getElem_cons hi]
   have e:s.get! i=s.data.toList[i]:=by
    show s.data[i]! = _
    rw[getElem!_pos s.data i (by simpa using hi)];simp
   rw[e];simp
 have:=key s.size 0 [] (by omega)
 simpa [ByteArray.toList] using this
theorem alE {a b:ByteArray}:a.toList=b.toList↔a=b:=by
 constructor
 ·intro h
  rw[afY,afY]at h
  cases a;cases b
  rename_i x y
  have:x=y:=Array.toList_inj.1 h
  rw[this]
 ·rintro rfl;rfl
def lE (x r:Ab):Bool:=(decide (x.At.Aq=r.At.Aq)&&(decide (x.At.No=r.At.No)&&(decide (x.Kind=r.Kind)&&(decide (x.Day=r.Day)&&(decide (x.Bn=r.Bn)&&(decide (x.Of.Aq=r.Of.Aq)&&(decide (x.Of.No=r.Of.No)&&(x.Text.toList==r.Text.toList))))))))
theorem xx {x r:Ab}:lE x r=true↔x=r:=by
 obtain⟨⟨a1,a2⟩,a3,a4,a5,⟨a6,a7⟩,a8⟩:=x
 obtain⟨⟨b1,b2⟩,b3,b4,b5,⟨b6,b7⟩,b8⟩:=r
 simp only[lE,A1,decide_eq_true_eq,beq_iff_eq,alE,Ab.mk.injEq,Entry.mk.injEq]
 constructor
 ·rintro⟨h1,h2,h3,h4,h5,h6,h7,h8⟩;exact⟨⟨h1,h2⟩,h3,h4,h5,⟨h6,h7⟩,h8⟩
 ·rintro⟨⟨h1,h2⟩,h3,h4,h5,⟨h6,h7⟩,h8⟩;exact⟨h1,h2,h3,h4,h5,h6,h7,h8⟩
theorem ai8 (x:Ab):lE x x=true:=xx.2 rfl
theorem ai7 {x r:Ab} (h:x≠r):lE x r=false:=by
 cases e:lE x r with
 |false=>rfl
 |true=>exact absurd (xx.1 e) h
instance:DecidableEq Ab:=fun x y=>decidable_of_iff (lE x y=true) xx
def cC (a:Entry):Int×Int:=(a.Aq,a.No)
def ag (r:Ab):Int×Int:=(r.At.Aq,r.At.No)
def tK (a b:Int):Int:=if a<b then -1 else if b<a then 1 else 0
def qe (a b:Entry):Int:=if tK a.Aq b.Aq≠0 then tK a.Aq b.Aq else tK a.No b.No
theorem amf (a b:Entry):qe a b<0↔fQ (cC a) (cC b):=by
 unfold qe tK fQ cC
 simp only
 repeat' split
 all_goals omega
theorem ame (a b:Entry):qe a b=0↔cC a=cC b:=by
 unfold qe tK cC
 simp only[Prod.mk.injEq]
 repeat' split
 all_goals omega
theorem aml (k:Nat) (a b:Int):vJ k a b=some (tK a b):=by
 unfold vJ cmp_isNaN_int tK
 simp only[Ae,Ak]
 by_cases h:a<b
 ·simp[h]
 ·by_cases h2:b<a<;>simp[h,h2]
theorem apH {k:Nat} (hk:10<k) (a b:Int):iu k [a,b]=some (if a≠0 then a else b):=by
 obtain⟨m,rfl⟩:∃ m,k=m+3:=⟨k - 3,by omega⟩
 unfold iu
 have h0:at? [a,b] 0=some a:=rfl
 have h1:at? [a,b] 1=some b:=rfl
 have w0:ab (0+1)=1:=by decide
 have w1:ab (1+1)=2:=by decide
 have v1:ab 1=1:=by decide
 have v2:ab 2=2:=by decide
 have l2:decide ((2:Int)<(([a,b]:List Int).length:Int))=false:=rfl
 have l1:decide ((1:Int)<(([a,b]:List Int).length:Int))=true:=rfl
 have l0:decide ((0:Int)<(([a,b]:List Int).length:Int))=true:=rfl
 by_cases e:a=0
 ·subst e
  by_cases e2:b=0
  ·subst e2
   simp[aj,iu.b0,h0,h1,w0,w1,v1,v2,l0,l1,l2]
  ·simp[aj,iu.b0,h0,h1,w0,w1,v1,v2,l0,l1,l2,e2]
 ·simp[aj,iu.b0,h0,l0,e]
theorem agy {k:Nat} (hk:10<k) (a b:Entry):yd k a b=some (qe a b):=by
 unfold yd qe
 simp only[aml,apH hk,Ae]
theorem anu {n:Nat} (h:n<=1000000):ab (Int.fdiv (IntKind.u64.wrap (ab (n:Int))) (2 ^ 1))=((n / 2:Nat):Int):=by
 have h1:IntKind.u64.wrap (n:Int)=n:=by
  simp only[IntKind.wrap,IntKind.bits,IntKind.signed]
  simp
  omega
 rw[aU (n:=(n:Int)) (by omega) (by omega),h1,Int.fdiv_eq_ediv_of_nonneg _ (by decide)]
 have:((n:Int) / 2 ^ 1)=((n / 2:Nat):Int):=by simp
 rw[this,aU (by omega) (by omega)]
theorem aqE {k0:Nat} (gk:10<k0) {l:List Ab} (hs:CI ag l) (hl:l.length<=1000) (e:Entry):∀ (d i j k:Nat),j - i<=d->d<k->i<=pos ag l (cC e)->pos ag l (cC e)<=j->j<=l.length->
  aj (gI.b0 k0 (fun q0 q1=>rz k0 q0 q1) l e) k ((i:Int),(j:Int))=some (.brk ((pos ag l (cC e):Nat):Int)):=by
 intro d
 induction d with
 |zero=>
  intro i j k h1 h2 h3 h4 h5
  obtain⟨m,rfl⟩:∃ m,k=m+1:=⟨k - 1,by omega⟩
  have:i=pos ag l (cC e):=by omega
  have hd:decide ((i:Int)<(j:Int))=false:=by simp;omega
  simp only[aj,gI.b0,hd,Ak]
  rw[this]
 |succ d ih=>
  intro i j k h1 h2 h3 h4 h5
  obtain⟨m,rfl⟩:∃ m,k=m+1:=⟨k - 1,by omega⟩
  by_cases nE:i<j
  ·have hd:decide ((i:Int)<(j:Int))=true:=by simp;omega
   have hm:ab (Int.fdiv (IntKind.u64.wrap (ab ((i:Int)+(j:Int)))) (2 ^ 1))=(((i+j) / 2:Nat):Int):=by
    have:=anu (n:=i+j) (by omega)
    rw[<-this];push_cast;rfl
   have ae:(i+j) / 2<l.length:=by omega
   have hx:l[(i+j) / 2]?=some l[(i+j) / 2]:=gG ae
   have iF:=qZ ag hs (cC e) hx
   have hf:rz k0 l[(i+j) / 2] e=some (qe l[(i+j) / 2].At e):=by
    unfold rz;rw[agy gk];rfl
   have hc:=amf l[(i+j) / 2].At e
   have eC:cC l[(i+j) / 2].At=ag l[(i+j) / 2]:=rfl
   rw[eC]at hc
   by_cases hp:(i+j) / 2<pos ag l (cC e)
   ·have zu:decide (qe l[(i+j) / 2].At e<0)=true:=AE (hc.2 (iF.2 hp))
    have hw:ab ((((i+j) / 2:Nat):Int)+1)=(((i+j) / 2+1:Nat):Int):=by rw[aU (by omega) (by omega)];push_cast;rfl
    simp only[aj,gI.b0,hd,Am,hm,bA hx,Ae,hf,zu,hw]
    exact ih _ _ _ (by omega) (by omega) (by omega) h4 h5
   ·have zu:decide (qe l[(i+j) / 2].At e<0)=false:=AI (fun c=>hp (iF.1 (hc.1 c)))
    simp only[aj,gI.b0,hd,Am,hm,bA hx,Ae,hf,zu,Ak]
    exact ih _ _ _ (by omega) (by omega) h3 (by omega) (by omega)
  ·have:i=pos ag l (cC e):=by omega
   have hd:decide ((i:Int)<(j:Int))=false:=by simp;omega
   simp only[aj,gI.b0,hd,Ak]
   rw[this]
theorem anb {k:Nat} (hk:10000<k) {b:Ah} (hs:CI ag b.Aj) (hl:b.Aj.length<=1000) (e:Entry):
  yg k b e=some (((pos ag b.Aj (cC e):Nat):Int),(gR ag b.Aj (cC e)).isSome):=by
 unfold yg gI
 have h:=aqE (k0:=k) (by omega) hs hl e b.Aj.length 0 b.Aj.length k (by omega) (by omega) (by omega) (aay ag _ _) (by omega)
 rw[CY]at h
 rw[h]
 simp only[Ae]
 rw[ahj ag hs]
 by_cases hp:pos ag b.Aj (cC e)<b.Aj.length
 ·have hx:b.Aj[pos ag b.Aj (cC e)]?=some b.Aj[pos ag b.Aj (cC e)]:=gG hp
  have hd:decide (((pos ag b.Aj (cC e):Nat):Int)<(b.Aj.length:Int))=true:=by simp;omega
  simp only[hd,Am,bA hx,Ae]
  unfold rz
  rw[agy (by omega)]
  simp only[Ae,hx]
  have hc:=ame b.Aj[pos ag b.Aj (cC e)].At e
  have eC:cC b.Aj[pos ag b.Aj (cC e)].At=ag b.Aj[pos ag b.Aj (cC e)]:=rfl
  rw[eC]at hc
  by_cases he:ag b.Aj[pos ag b.Aj (cC e)]=cC e
  ·rw[hc.2 he];simp[Option.filter,he]
  ·simp[Option.filter,he,mt hc.1 he]
 ·have hx:b.Aj[pos ag b.Aj (cC e)]?=none:=CK (by omega)
  have hd:decide (((pos ag b.Aj (cC e):Nat):Int)<(b.Aj.length:Int))=false:=by simp;omega
  simp only[hd,Ak,hx]
  rfl
def rF (l:List Ab):Aa 6 Int:=⟨[aA ag l 0,aA ag l 1,aA ag l 2,aA ag l 3,aA ag l 4,aA ag l 5],rfl⟩
theorem six {h:Int} (h0:0<=h) (h1:h<=5):h=0\/h=1\/h=2\/h=3\/h=4\/h=5:=by omega
theorem abp (l:List Ab) {h:Int} (h0:0<=h) (h1:h<=5):(rF l).at? h=some ((aA ag l h:Nat):Int):=by
 rcases six h0 h1 with rfl|rfl|rfl|rfl|rfl|rfl<;>rfl
theorem amh (l:List Ab) (r:Ab) (h0:0<=r.At.Aq) (h1:r.At.Aq<=5):(rF l).set r.At.Aq ((aA ag l r.At.Aq:Nat)+1:Int)=rF (l++[r]):=by
 have hc:∀ h,aA ag (l++[r]) h=aA ag l h+if r.At.Aq=h then 1 else 0:=fun h=>by
  rw[vL,oj,tL]
  show _+(0+if r.At.Aq=h then 1 else 0)=_
  omega
 apply Aa.ext
 unfold rF
 simp only[hc]
 rcases six h0 h1 with e|e|e|e|e|e<;>rw[e]<;>simp[Aa.set]
def jC (r:Ab):Prop:=0<=r.At.Aq/\r.At.Aq<=5
theorem nT {r:Ab} (h:dg r=true):jC r:=by
 unfold dg lj within at h
 simp only[A1,decide_eq_true_eq]at h
 exact h.1.1
theorem agx (l:List Ab) (h:Int):aA ag l h<=l.length:=List.countP_le_length
theorem agE {τ:Type}{body:τ->Option (AT τ (Aa 6 Int) (Aa 6 Int))} (mk:Int->Aa 6 Int->τ) {l:List Ab} (hl:l.length<=100000) (hh:∀ r∈l,jC r) {k:Nat} (hk:1000000<k)
  (h1:∀ (i:Nat) r s,l[i]?=some r->body (mk i s)=(s.at? r.At.Aq).bind fun x=>some (.next (mk (ab ((i:Int)+1)) (s.set r.At.Aq (ab (x+1)))))) (h2:∀ s,body (mk l.length s)=some (.brk s)):
  aj body k (mk 0 (Aa.rep 6 (0:Int)))=some (.brk (rF l)):=by
 have h:=pF (l:=l) (body:=body) mk (fun s r=>match s.at? r.At.Aq with|some x=>s.set r.At.Aq (ab (x+1))|none=>s) (fun i s=>s=rF (l.take i)) (by omega) (k:=k) (by omega) (s0:=Aa.rep 6 (0:Int)) (by rfl) (fun i r s hx hs=>by
  have hi:=(gS.1 hx).1
  have hr:=hh r (AU hx)
  have e:l.take (i+1)=l.take i++[r]:=by rw[List.take_add_one,hx];rfl
  have hc:=agx (l.take i) r.At.Aq
  rw[Ba]at hc
  rw[h1 i r s hx,hs,abp _ hr.1 hr.2]
  simp only[Ae]
  have hw:ab (((aA ag (l.take i) r.At.Aq:Nat):Int)+1)=((aA ag (l.take i) r.At.Aq:Nat):Int)+1:=aU (by omega) (by omega)
  rw[hw,amh _ _ hr.1 hr.2,e]
  exact⟨trivial,rfl⟩) (fun s hs=>h2 s)
 have h3:=h.2
 rw[CO]at h3
 rw[h.1,h3]
theorem anw {k:Nat} (hk:1000000<k) {b:Ah} (hl:b.Aj.length<=100000) (hh:∀ r∈b.Aj,jC r):il k b=some (rF b.Aj):=by
 unfold il
 rw[agE (l:=b.Aj) (body:=il.b0 k b) (fun i s=>(s,i)) hl hh hk (fun i r s hx=>by
  have hi:=(gS.1 hx).1
  unfold il.b0
  simp only[AE (show (i:Int)<(b.Aj.length:Int) by omega),Am,bA hx,Ae]) (fun s=>by
  unfold il.b0
  simp only[(by simp:decide ((b.Aj.length:Int)<(b.Aj.length:Int))=false),Ak])]
 rfl
theorem agr {k:Nat}{l:List Ab} (hl:l.length<=1000):xF k l=some l:=by
 unfold xF fo
 rw[if_pos ⟨by omega,by omega⟩];rfl
theorem abr {k:Nat}{b:Ah} (hl:b.Aj.length<=1000):vA k b=some b:=by
 unfold vA
 rw[agr hl];rfl
theorem aoI {k:Nat}{l:List Ab} (hl:l.length<=1000) (r:Ab):aaE k l ((pos ag l (ag r):Nat):Int) [r]=some (eF ag l r):=by
 have:=aay ag l (ag r)
 unfold aaE
 rw[if_pos ⟨⟨by omega,by omega⟩,rfl,⟨by omega,by omega⟩⟩]
 rfl
end Go.Abs
namespace Go.Abs
open Go Go.Proofs
theorem ajw (l:List Int) (n:Nat):sW l (n:Int)=if l.length<n then none else some (l.take n,l.drop n):=by
 unfold sW
 by_cases h:l.length<n
 ·rw[if_pos (by omega),if_pos h]
 ·rw[if_neg (by omega),if_neg h,Cn]
theorem aeI {k:Nat} (hk:100<k) {l:List Int} (hb:AZ l) {n:Nat} (hn:n<=5):j7 k l (n:Int)=some (if l.length<n then none else some (bp (l.take n),l.drop n)):=by
 unfold j7
 rw[ajw]
 by_cases h:l.length<n
 ·simp only[if_pos h]
 ·simp only[if_neg h]
  have hl:(l.take n).length=n:=by rw[Ba];omega
  rw[ai0 (hb.take n) (by omega) (k:=k) (by omega) (fun i x s hx=>by
   have hi:=(gS.1 hx).1
   unfold aca
   simp only[AE (show (i:Int)<((l.take n).length:Int) by omega),Am,bA hx,Ae]) (fun s=>by
   unfold aca
   simp only[(by simp:decide (((l.take n).length:Int)<((l.take n).length:Int))=false),Ak])]
  rfl
def yp (b tx:List Int):Ab:=⟨⟨bp (b.take 1),bp ((b.drop 1).take 2)⟩,bp ((b.drop 3).take 1),bp ((b.drop 4).take 4),bp ((b.drop 8).take 4),⟨bp ((b.drop 12).take 1),bp ((b.drop 13).take 2)⟩,strOf tx⟩
def cn (b:List Int):Int:=bp ((b.drop 15).take 1)
def gQ (b:List Int):Option (Ab×List Int):=
 if b.length<16 then none else if (b.length:Int)<16+cn b then none else some (yp b ((b.drop 16).take (cn b).toNat),(b.drop 16).drop (cn b).toNat)
theorem amx {k:Nat} (hk:100<k) {b:List Int} (hb:AZ b):yo k b=some (gQ b):=by
 have N1:∀ {l:List Int},AZ l->j7 k l 1=some (if l.length<1 then none else some (bp (l.take 1),l.drop 1)):=fun h=>aeI hk h (n:=1) (by omega)
 have N2:∀ {l:List Int},AZ l->j7 k l 2=some (if l.length<2 then none else some (bp (l.take 2),l.drop 2)):=fun h=>aeI hk h (n:=2) (by omega)
 have N4:∀ {l:List Int},AZ l->j7 k l 4=some (if l.length<4 then none else some (bp (l.take 4),l.drop 4)):=fun h=>aeI hk h (n:=4) (by omega)
 unfold yo
 by_cases jy:b.length<16
 ·have e:gQ b=none:=by unfold gQ;rw[if_pos jy]
  rw[e,N1 hb,Ae]
  by_cases h1:b.length<1
  ·rw[if_pos h1]
  rw[if_neg h1];simp only
  rw[N2 (hb.drop _),Ae,Bp,List.drop_drop]
  by_cases h1:b.length - 1<2
  ·rw[if_pos h1]
  rw[if_neg h1];simp only
  rw[N1 (hb.drop _),Ae,Bp,List.drop_drop]
  by_cases h1:b.length - (1+2)<1
  ·rw[if_pos h1]
  rw[if_neg h1];simp only
  rw[N4 (hb.drop _),Ae,Bp,List.drop_drop]
  by_cases h1:b.length - (1+2+1)<4
  ·rw[if_pos h1]
  rw[if_neg h1];simp only
  rw[N4 (hb.drop _),Ae,Bp,List.drop_drop]
  by_cases h1:b.length - (1+2+1+4)<4
  ·rw[if_pos h1]
  rw[if_neg h1];simp only
  rw[N1 (hb.drop _),Ae,Bp,List.drop_drop]
  by_cases h1:b.length - (1+2+1+4+4)<1
  ·rw[if_pos h1]
  rw[if_neg h1];simp only
  rw[N2 (hb.drop _),Ae,Bp,List.drop_drop]
  by_cases h1:b.length - (1+2+1+4+4+1)<2
  ·rw[if_pos h1]
  rw[if_neg h1];simp only
  rw[N1 (hb.drop _),Ae,Bp,List.drop_drop]
  rw[if_pos (by omega)]
 ·rw[N1 hb,Ae,if_neg (by omega)];simp only
  rw[N2 (hb.drop _),Ae,Bp,List.drop_drop,if_neg (by omega)];simp only
  rw[N1 (hb.drop _),Ae,Bp,List.drop_drop,if_neg (by omega)];simp only
  rw[N4 (hb.drop _),Ae,Bp,List.drop_drop,if_neg (by omega)];simp only
  rw[N4 (hb.drop _),Ae,Bp,List.drop_drop,if_neg (by omega)];simp only
  rw[N1 (hb.drop _),Ae,Bp,List.drop_drop,if_neg (by omega)];simp only
  rw[N2 (hb.drop _),Ae,Bp,List.drop_drop,if_neg (by omega)];simp only
  rw[N1 (hb.drop _),Ae,Bp,List.drop_drop,if_neg (by omega)];simp only
  have hm:=ae0 ((hb.drop 15).take 1)
  have hM:bp ((b.drop (1+2+1+4+4+1+2)).take 1)=cn b:=rfl
  rw[hM]
  have rZ:0<=cn b:=hm.1
  rw[if_pos rZ]
  obtain⟨m,mW⟩:=Int.eq_ofNat_of_zero_le rZ
  unfold gQ
  rw[if_neg jy,mW,ajw,Bp]
  by_cases ae:(b.length:Int)<16+(m:Int)
  ·rw[if_pos ae,if_pos (by omega)]
  ·rw[if_neg ae,if_neg (by omega)]
   rfl
theorem amD {k:Nat} (hk:1000<k) {b:List Int} (hb:AZ b):
  abi k b=some (match gQ b with|none=>(⟨⟨0,0⟩,0,0,0,⟨0,0⟩,ByteArray.empty⟩,[],false)|some p=>(p.1,p.2,dg p.1)):=by
 unfold abi
 rw[amx (by omega) hb]
 cases gQ b with
 |none=>rfl
 |some p=>simp only[Ae,aif hk]
theorem rd1 {n:Int} (h0:0<=n) (h1:n<256):bp (be n 1)=n:=by
 simp only[be,rm,bp,pt,List.foldl]
 rw[Int.fdiv_eq_ediv_of_nonneg _ (by decide)]
 simp
 omega
theorem rd2 {n:Int} (h0:0<=n) (h1:n<65536):bp (be n 2)=n:=by
 simp only[be,rm,bp,pt,List.foldl]
 rw[Int.fdiv_eq_ediv_of_nonneg _ (by decide),Int.fdiv_eq_ediv_of_nonneg _ (by decide)]
 simp
 omega
theorem rd4 {n:Int} (h0:0<=n) (h1:n<4294967296):bp (be n 4)=n:=by
 simp only[be,rm,bp,pt,List.foldl]
 rw[Int.fdiv_eq_ediv_of_nonneg _ (by decide),Int.fdiv_eq_ediv_of_nonneg _ (by decide),Int.fdiv_eq_ediv_of_nonneg _ (by decide),Int.fdiv_eq_ediv_of_nonneg _ (by decide)]
 simp
 omega
theorem np (n:Int):∀ w,AZ (be n w)
 |0=>by intro x hx;simp[be]at hx
 |w+1=>by
  intro x hx
  rcases BE.1 hx with rfl|hx
  ·rw[rm];omega
  ·exact np n w x hx
theorem al4 (s:ByteArray):AZ (iC s):=by
 intro x hx
 obtain⟨c,_,rfl⟩:=List.mem_map.1 hx
 have:=c.toNat_lt
 omega
theorem AZ.append {a b:List Int} (ha:AZ a) (hb:AZ b):AZ (a++b):=fun x hx=>by
 rcases Bb.1 hx with h|h
 ·exact ha x h
 ·exact hb x h
theorem al2 (r:Ab):AZ (enc r):=by
 unfold enc
 exact((((((((np _ _).append (np _ _)).append (np _ _)).append (np _ _)).append (np _ _)).append (np _ _)).append (np _ _)).append (np _ _)).append (al4 _)
theorem agS (r:Ab):(enc r).take 1=be r.At.Aq 1/\((enc r).drop 1).take 2=be r.At.No 2/\((enc r).drop 3).take 1=be r.Kind 1/\((enc r).drop 4).take 4=be r.Day 4/\((enc r).drop 8).take 4=be r.Bn 4/\
  ((enc r).drop 12).take 1=be r.Of.Aq 1/\((enc r).drop 13).take 2=be r.Of.No 2/\((enc r).drop 15).take 1=be (r.Text.size:Int) 1/\(enc r).drop 16=iC r.Text:=by
 unfold enc
 simp[be]
theorem aci {r:Ab} (h:dg r=true):(0<=r.At.Aq/\r.At.Aq<=5)/\(0<=r.At.No/\r.At.No<=9999)/\(0<=r.Kind/\r.Kind<=40)/\(0<=r.Day/\r.Day<=100000)/\(0<=r.Bn/\r.Bn<=100000)/\(0<=r.Of.Aq/\r.Of.Aq<=5)/\(0<=r.Of.No/\r.Of.No<=9999):=by
 unfold dg lj within at h
 simp only[A1,decide_eq_true_eq]at h
 obtain⟨⟨a1,a2⟩,a3,a4,a5,a6,h⟩:=h
 refine⟨a1,a2,a3,a4,a5,?_⟩
 by_cases hk:r.Kind=0
 ·simp only[hk,Bw,AW,Ak,A1,decide_eq_true_eq]at h
  exact⟨h.2.2.1.1,h.2.2.1.2⟩
 ·simp only[hk,decide_false,Bs,Am,A1,decide_eq_true_eq]at h
  omega
theorem amy {r:Ab} (ht:r.Text.size<=200):cn (enc r)=(r.Text.size:Int):=by
 unfold cn
 rw[(agS r).2.2.2.2.2.2.2.1,rd1 (by omega) (by omega)]
theorem amz {r:Ab} (h:dg r=true) (l:List Int):gQ (enc r++l)=some (r,l):=by
 have ht:=sQ h
 have hlen:=yw r
 obtain⟨b1,b2,b3,b4,b5,b6,b7⟩:=aci h
 obtain⟨p1,p2,p3,p4,p5,p6,p7,p8,p9⟩:=agS r
 have T:∀ (i n:Nat),i+n<=16->((enc r++l).drop i).take n=((enc r).drop i).take n:=fun i n hi=>by
  rw[DW (by omega),E4 (by rw[Bp];omega)]
 have hM:cn (enc r++l)=(r.Text.size:Int):=by
  have:=amy ht
  unfold cn at this ⊢
  rw[T 15 1 (by omega)];exact this
 have hd:(enc r++l).drop 16=iC r.Text++l:=by
  rw[DW (by omega),p9]
 unfold gQ
 rw[if_neg (by rw[A9];omega),hM,if_neg (by rw[A9];omega),hd,Cn]
 have gn:=kQ r.Text
 rw[E4 (by omega),DW (by omega),CF (by omega),DE (by omega),Bt]
 have t0:=T 0 1 (by omega)
 simp only[List.drop_zero]at t0
 unfold yp
 rw[t0,T 1 2 (by omega),T 3 1 (by omega),T 4 4 (by omega),T 8 4 (by omega),T 12 1 (by omega),T 13 2 (by omega),p1,p2,p3,p4,p5,p6,p7,
  rd1 b1.1 (by omega),rd2 b2.1 (by omega),rd1 b3.1 (by omega),rd4 b4.1 (by omega),rd4 b5.1 (by omega),rd1 b6.1 (by omega),rd2 b7.1 (by omega)]
 have hs:strOf (iC r.Text)=r.Text:=aqU r.Text
 rw[hs]
def gZ (h:Aa 32 Int):List Int:=(h.l.drop 8).take 23
def sL (c:List Int):List Int:=c++List.replicate (23*bB c.length - c.length) 0
theorem agw (n:Nat):n<=23*bB n:=by unfold bB;omega
theorem apT (c:List Int):(sL c).length=23*bB c.length:=by
 have:=agw c.length
 unfold sL;simp;omega
theorem apY (e n:Int) (c:List Int) {i:Nat} (hi:i<bB c.length):gZ (dH e n (bB c.length) c i)=((sL c).drop (23*i)).take 23:=by
 have ae:=ado hi
 unfold gZ dH jj sL
 simp only
 rw[n8,xX]
 simp only[Bg,Bt,Cu,List.drop_succ_cons,List.drop_zero]
 rw[DW (by omega),<-Cu,E4 (by simp;omega),CF (by simp;omega)]
 rw[List.take_append,List.take_replicate,Bp]
 congr 2
 have:=agw c.length
 omega
theorem chunks (P:List Int) (w:Nat):∀ n,((List.range n).map fun i=>(P.drop (w*i)).take w).flatten=P.take (w*n)
 |0=>by simp
 |n+1=>by
  rw[List.range_succ,C7,List.flatten_append,chunks P w n]
  simp only[List.map_cons,List.map_nil,Cx,List.flatten_nil,List.append_nil]
  rw[Nat.mul_succ,List.take_add]
theorem aoR (e n:Int) (c:List Int):(((List.range (bB c.length)).map (dH e n (bB c.length) c)).map gZ).flatten=sL c:=by
 have:(((List.range (bB c.length)).map (dH e n (bB c.length) c)).map gZ)=(List.range (bB c.length)).map fun i=>((sL c).drop (23*i)).take 23:=by
  rw[List.map_map]
  apply List.map_congr_left
  intro i hi
  exact apY e n c (List.mem_range.1 hi)
 rw[this,chunks,<-apT,CO]
def cq (r:Ab) (n e:Int):List (Aa 32 Int):=(List.range (bB (enc r).length)).map (dH e n (bB (enc r).length) (enc r))
theorem lq (r:Ab) (n e:Int):(cq r n e).length=bB (enc r).length:=by simp[cq]
theorem vM (r:Ab):0<bB (enc r).length:=by rw[yw];unfold bB;omega
theorem rd3 {n:Int} (h0:0<=n) (h1:n<16777216):bp (be n 3)=n:=by
 simp only[be,rm,bp,pt,List.foldl]
 rw[Int.fdiv_eq_ediv_of_nonneg _ (by decide),Int.fdiv_eq_ediv_of_nonneg _ (by decide),Int.fdiv_eq_ediv_of_nonneg _ (by decide)]
 simp
 omega
theorem rl (v w:Aa 32 Int):Aa.eq (fun(x y:Int)=>decide (x=y)) v w=true↔v=w:=by
 constructor
 ·intro h
  unfold Aa.eq at h
  rw[List.all_eq_true]at h
  apply Aa.ext
  apply List.ext_getElem (by rw[v.h,w.h])
  intro i h1 h2
  have:=h (v.l[i],w.l[i]) (List.mem_iff_getElem.2 ⟨i,by simp;omega,by simp⟩)
  simpa using this
 ·rintro rfl;exact ark _
theorem aqC {α R:Type}{body:Bool×Int->Option (AT (Bool×Int) Bool R)}{a b:List α} (wk:a.length=b.length) (hl:a.length<=1000000) {eq:α->α->Bool} (he:∀ x y,eq x y=true↔x=y) {k:Nat} (hk:10000000<k)
  (h1:∀ (i:Nat) x y,a[i]?=some x->b[i]?=some y->body (true,(i:Int))=some (.next (eq x y,ab ((i:Int)+1))))
  (h2:∀ i:Nat,i<=a.length->body (false,(i:Int))=some (.brk false)) (h3:body (true,(a.length:Int))=some (.brk true)):
  ∃ c:Bool,aj body k (true,0)=some (.brk c)/\(c=true↔a=b):=by
 have key:∀ (d i m:Nat),i+d=a.length->d+2<=m->∃ c:Bool,aj body m (true,(i:Int))=some (.brk c)/\(c=true↔a.drop i=b.drop i):=by
  intro d
  induction d with
  |zero=>
   intro i m h4 h5
   obtain⟨m,rfl⟩:∃ q,m=q+1:=⟨m - 1,by omega⟩
   have:i=a.length:=by omega
   subst this
   refine⟨true,by simp only[aj,h3],?_⟩
   rw[DE (Be _),DE (by omega)]
   simp
  |succ d ih=>
   intro i m h4 h5
   obtain⟨m,rfl⟩:∃ q,m=q+1:=⟨m - 1,by omega⟩
   have ha:a[i]?=some (a[i]'(by omega)):=gG (by omega)
   have hb:b[i]?=some (b[i]'(by omega)):=gG (by omega)
   have hw:ab ((i:Int)+1)=((i+1:Nat):Int):=by rw[aU (by omega) (by omega)];omega
   rw[List.drop_eq_getElem_cons (show i<a.length by omega),List.drop_eq_getElem_cons (show i<b.length by omega)]
   simp only[aj,h1 i _ _ ha hb,hw]
   cases hq:eq (a[i]'(by omega)) (b[i]'(by omega)) with
   |true=>
    obtain⟨c,h6,h7⟩:=ih (i+1) m (by omega) (by omega)
    refine⟨c,h6,?_⟩
    rw[h7,(he _ _).1 hq]
    exact⟨fun h=>by rw[h],fun h=>(List.cons.inj h).2⟩
   |false=>
    obtain⟨m,rfl⟩:∃ q,m=q+1:=⟨m - 1,by omega⟩
    refine⟨false,by simp only[aj,h2 (i+1) (by omega)],?_⟩
    constructor
    ·intro h;cases h
    ·intro h
     have:=(List.cons.inj h).1
     rw[(he _ _).2 this]at hq;cases hq
 have:=key a.length 0 k (by omega) (by omega)
 simpa using this
section
variable {α:Type} (key:α->Int×Int)
theorem HY:∀ {l:List α}{c:Int->Int},VL key c l↔∀ (i:Nat) x,l[i]?=some x->(key x).2=c (key x).1+aA key (l.take i) (key x).1
 |[],c=>by simp[VL]
 |y::l,c=>by
  unfold VL
  rw[HY (l:=l)]
  constructor
  ·rintro⟨h1,h2⟩ i x hx
   cases i with
   |zero=>cases hx;rw[h1];simp[tL]
   |succ i=>
    rw[Cc]at hx
    rw[h2 i x hx,List.take_succ_cons,oj]
    by_cases e:(key x).1=(key y).1
    ·rw[if_pos e,if_pos e.symm];simp only[e];omega
    ·rw[if_neg e,if_neg (Ne.symm e)];omega
  ·intro h
   refine⟨?_,fun i x hx=>?_⟩
   ·have:=h 0 y rfl
    simpa [tL] using this
   ·have:=h (i+1) x (by rw[Cc];exact hx)
    rw[this,List.take_succ_cons,oj]
    by_cases e:(key x).1=(key y).1
    ·rw[if_pos e,if_pos e.symm];simp only[e];omega
    ·rw[if_neg e,if_neg (Ne.symm e)];omega
end
theorem ae2 {k:Nat} (hk:100<k) {l:List Int} (hb:AZ l) (hl:l.length<=5):BM k l=some (bp l):=by
 unfold BM
 rw[ai0 hb hl (k:=k) (by omega) (fun i x s hx=>by
  have hi:=(gS.1 hx).1
  unfold BM.b0
  simp only[AE (show (i:Int)<(l.length:Int) by omega),Am,bA hx,Ae]) (fun s=>by
  unfold BM.b0
  simp only[(by simp:decide ((l.length:Int)<(l.length:Int))=false),Ak])]
 rfl
def nU:Ab:=⟨⟨0,0⟩,0,0,0,⟨0,0⟩,ByteArray.empty⟩
def decode (b:List Int):Ab×Int:=match gQ b with
 |some (r,[])=>bif dg r then (r,0) else (nU,90)
 |_=>(nU,90)
theorem sV {l:List Int}{i j:Nat} (h1:i<=j) (h2:j<=l.length):cg l (i:Int) (j:Int)=some ((l.drop i).take (j - i)):=by
 unfold cg
 rw[if_pos (by omega),Cn,Cn]
theorem amC {k:Nat} (hk:1000<k) {b:List Int} (hb:AZ b) (hlen:b.length<=4611686018427387904):Eh k b=some (decode b):=by
 unfold Eh decode gQ
 by_cases jy:b.length<16
 ·rw[if_pos jy]
  have:decide ((b.length:Int)<(16:Int))=true:=by simp;omega
  simp only[this,AW,Ak]
  rfl
 ·rw[if_neg jy]
  have hx:b[15]?=some (b[15]'(by omega)):=gG (by omega)
  have hM:cn b=b[15]'(by omega):=by
   unfold cn
   rw[List.drop_eq_getElem_cons (show 15<b.length by omega)]
   exact ai1 _
  have hM0:=hb _ (AU hx)
  rw[<-hM]at hM0
  have e1:decide ((b.length:Int)<(16:Int))=false:=by simp;omega
  have e2:ab (16+(ab (cn b)))=16+cn b:=by
   rw[aU (n:=cn b) (by omega) (by omega),aU (by omega) (by omega)]
  have iF:at? b 15=some (cn b):=by
   have:=bA hx
   rw[hM];exact this
  simp only[e1,Bs,Am,iF,Ae,e2]
  by_cases ae:(b.length:Int)<16+cn b
  ·rw[if_pos ae]
   have:decide ((b.length:Int)=16+cn b)=false:=by simp;omega
   simp only[this,Bs,Am]
   rfl
  ·rw[if_neg ae]
   by_cases he:(b.length:Int)=16+cn b
   ·have s1:cg b 0 1=some (b.take 1):=sV (i:=0) (j:=1) (by omega) (by omega)
    have s2:cg b 1 3=some ((b.drop 1).take 2):=sV (i:=1) (j:=3) (by omega) (by omega)
    have s3:cg b 3 4=some ((b.drop 3).take 1):=sV (i:=3) (j:=4) (by omega) (by omega)
    have s4:cg b 4 8=some ((b.drop 4).take 4):=sV (i:=4) (j:=8) (by omega) (by omega)
    have s5:cg b 8 12=some ((b.drop 8).take 4):=sV (i:=8) (j:=12) (by omega) (by omega)
    have s6:cg b 12 13=some ((b.drop 12).take 1):=sV (i:=12) (j:=13) (by omega) (by omega)
    have s7:cg b 13 15=some ((b.drop 13).take 2):=sV (i:=13) (j:=15) (by omega) (by omega)
    have s8:cg b 16 (b.length:Int)=some (b.drop 16):=by
     have:=sV (l:=b) (i:=16) (j:=b.length) (by omega) (by omega)
     rw[CF (by rw[Bp];omega)]at this
     exact this
    have R:∀ (i n:Nat),n<=5->BM k ((b.drop i).take n)=some (bp ((b.drop i).take n)):=fun i n hn=>ae2 (by omega) ((hb.drop i).take n) (by rw[Ba];omega)
    have R0:BM k (b.take 1)=some (bp (b.take 1)):=ae2 (by omega) (hb.take 1) (by rw[Ba];omega)
    have ed:decide ((b.length:Int)=16+cn b)=true:=AE he
    have sj:(⟨(⟨bp (b.take 1),bp ((b.drop 1).take 2)⟩:Entry),bp ((b.drop 3).take 1),bp ((b.drop 4).take 4),bp ((b.drop 8).take 4),(⟨bp ((b.drop 12).take 1),bp ((b.drop 13).take 2)⟩:Entry),strOf (b.drop 16)⟩:Ab)=yp b ((b.drop 16).take (cn b).toNat):=by
     rw[CF (l:=b.drop 16) (i:=(cn b).toNat) (by rw[Bp];omega)];rfl
    have uv:(b.drop 16).drop (cn b).toNat=[]:=DE (by rw[Bp];omega)
    simp only[ed,AW,Ak,s1,s2,s3,s4,s5,s6,s7,s8,Ae,R0,R 1 2 (by omega),R 3 1 (by omega),R 4 4 (by omega),R 8 4 (by omega),R 12 1 (by omega),R 13 2 (by omega),sj,ym hk,uv]
    cases dg (yp b ((b.drop 16).take (cn b).toNat))<;>rfl
   ·have:decide ((b.length:Int)=16+cn b)=false:=by simp;omega
    simp only[this,Bs,Am]
    have bj:(b.drop 16).drop (cn b).toNat≠[]:=by
     intro h
     have:=congrArg List.length h
     rw[Bp,Bp]at this
     simp at this
     omega
    cases hq:(b.drop 16).drop (cn b).toNat with
    |nil=>exact absurd hq bj
    |cons x l=>rfl
theorem aiu {k:Nat} (hk:1000000<k) {l:List Ab} (hl:l.length<=100000) (hh:∀ r∈l,jC r):Cm k l=some (rF l):=by
 unfold Cm
 rw[agE (l:=l) (body:=Cm.b0 k l) (fun i s=>(s,i)) hl hh hk (fun i r s hx=>by
  have hi:=(gS.1 hx).1
  unfold Cm.b0
  simp only[AE (show (i:Int)<(l.length:Int) by omega),Am,bA hx,Ae]) (fun s=>by
  unfold Cm.b0
  simp only[(by simp:decide ((l.length:Int)<(l.length:Int))=false),Ak])]
 rfl
theorem afQ (k:Nat) (a b:Entry):E8 k a b=some (decide (fQ (cC a) (cC b))):=by
 unfold E8 fQ cC
 by_cases h1:a.Aq<b.Aq
 ·simp[h1]
 ·by_cases h2:a.Aq=b.Aq
  ·simp[h2]
  ·simp[h1,h2]
theorem ajv {α:Type}{l:List α}{i j:Nat} (h1:i<=j) (h2:j<=l.length):cg l (i:Int) (j:Int)=some ((l.drop i).take (j - i)):=by
 unfold cg
 rw[if_pos (by omega),Cn,Cn]
theorem aqW {α:Type}{l:List α}{i:Nat} (h2:i<=l.length):cg l 0 (i:Int)=some (l.take i):=ajv (i:=0) (by omega) h2
theorem aqV {α:Type}{l:List α}{i:Nat} (h2:i<=l.length):cg l (i:Int) (l.length:Int)=some (l.drop i):=by
 have:=ajv (l:=l) (i:=i) (j:=l.length) h2 (Be _)
 rw[CF (by rw[Bp];omega)]at this
 exact this
theorem ahl {k:Nat}{l:List Ab} (hl:l.length<=100000) (hk:1000000<k) (e:Entry):
  (∃ (i:Nat) (x:Ab),BU k l e=some (i:Int)/\l[i]?=some x/\ag x=cC e)\/(BU k l e=some (-1)/\∀ x∈l,ag x≠cC e):=by
 have hc:∀ x:Ab,(decide (x.At.Aq=e.Aq)&&decide (x.At.No=e.No))=decide (ag x=cC e):=fun x=>by
  unfold ag cC
  simp only[Prod.mk.injEq]
  by_cases h1:x.At.Aq=e.Aq<;>by_cases h2:x.At.No=e.No<;>simp[h1,h2]
 have key:∀ (d i m:Nat),i+d=l.length->d<m->(∃ (j:Nat) (x:Ab),aj (BU.b0 k l e) m (i:Int)=some (.ret (j:Int))/\l[j]?=some x/\ag x=cC e)\/(aj (BU.b0 k l e) m (i:Int)=some (.brk ())/\∀ x∈l.drop i,ag x≠cC e):=by
  intro d
  induction d with
  |zero=>
   intro i m h1 h2
   obtain⟨m,rfl⟩:∃ q,m=q+1:=⟨m - 1,by omega⟩
   have e1:decide ((i:Int)<(l.length:Int))=false:=by simp;omega
   have hb:BU.b0 k l e (i:Int)=some (.brk ()):=by
    unfold BU.b0
    simp only[e1,Ak]
   right
   refine⟨by simp only[aj,hb],?_⟩
   rw[DE (by omega)]
   intro x hx;cases hx
  |succ d ih=>
   intro i m h1 h2
   obtain⟨m,rfl⟩:∃ q,m=q+1:=⟨m - 1,by omega⟩
   obtain⟨x,hx⟩:∃ x,l[i]?=some x:=⟨_,gG (by omega)⟩
   have hw:ab ((i:Int)+1)=((i+1:Nat):Int):=by rw[aU (by omega) (by omega)];omega
   by_cases he:ag x=cC e
   ·left
    have hb:BU.b0 k l e (i:Int)=some (.ret (i:Int)):=by
     unfold BU.b0
     simp only[AE (show (i:Int)<(l.length:Int) by omega),Am,bA hx,Ae,hc,AE he]
    exact⟨i,x,by simp only[aj,hb],hx,he⟩
   ·have hb:BU.b0 k l e (i:Int)=some (.next ((i+1:Nat):Int)):=by
     unfold BU.b0
     simp only[AE (show (i:Int)<(l.length:Int) by omega),Am,bA hx,Ae,hc,AI he,Ak,hw]
    have wz:l.drop i=x::l.drop (i+1):=by
     have:=(gS.1 hx)
     obtain⟨h3,h4⟩:=this
     rw[List.drop_eq_getElem_cons h3,h4]
    rcases ih (i+1) m (by omega) (by omega) with ⟨j,y,g1,g2,g3⟩|⟨g1,g2⟩
    ·exact .inl ⟨j,y,by simp only[aj,hb,g1],g2,g3⟩
    ·right
     refine⟨by simp only[aj,hb,g1],fun y hy=>?_⟩
     rw[wz]at hy
     rcases BE.1 hy with rfl|hy
     ·exact he
     ·exact g2 y hy
 unfold BU
 rcases key l.length 0 k (by omega) (by omega) with ⟨j,x,h1,h2,h3⟩|⟨h1,h2⟩
 ·left
  rw[CY]at h1
  exact⟨j,x,by rw[h1];rfl,h2,h3⟩
 ·right
  rw[CY]at h1
  exact⟨by rw[h1];rfl,fun x hx=>h2 x (by simpa using hx)⟩
def eH (l:List Ab) (r:Ab):List Ab×Int:=match gR ag l (ag r) with
 |some x=>if x=r then (l,0) else ([],92)
 |none=>if (aA ag l r.At.Aq:Int)<r.At.No then ([],93) else if (l.length:Int)=60 then ([],2) else (eF ag l r,0)
theorem agC {k:Nat}{l:List Ab} (hl:l.length<=1000):Ek k l=some l:=by
 unfold Ek fo
 rw[if_pos ⟨by omega,by omega⟩];rfl
theorem agB {k:Nat}{l:List Ab} (hl:l.length<=1000):Fa k l=some l:=by
 unfold Fa fo
 rw[if_pos ⟨by omega,by omega⟩];rfl
theorem apZ {k0:Nat}{l:List Ab} (hs:CI ag l) (hl:l.length<=1000) (r:Ab):∀ (d i k:Nat),pos ag l (ag r) - i<=d->d<k->i<=pos ag l (ag r)->
  aj (Ca.b0 k0 l r) k (i:Int)=some (.brk ((pos ag l (ag r):Nat):Int)):=by
 have hp:=aay ag l (ag r)
 intro d
 induction d with
 |zero=>
  intro i k h1 h2 h3
  obtain⟨m,rfl⟩:∃ q,k=q+1:=⟨k - 1,by omega⟩
  have hi:i=pos ag l (ag r):=by omega
  have hb:Ca.b0 k0 l r (i:Int)=some (.brk (i:Int)):=by
   unfold Ca.b0
   by_cases ae:i<l.length
   ·have hx:l[i]?=some l[i]:=gG ae
    have eC:cC l[i].At=ag l[i]:=rfl
    have aea:cC r.At=ag r:=rfl
    have:=qZ ag hs (ag r) hx
    simp only[AE (show (i:Int)<(l.length:Int) by omega),Am,bA hx,Ae,afQ,eC,aea,AI (show ¬ fQ (ag l[i]) (ag r) from fun c=>by have:=this.1 c;omega),Ak]
   ·simp only[AI (show ¬ (i:Int)<(l.length:Int) by omega),Ak]
  simp only[aj,hb]
  rw[hi]
 |succ d ih=>
  intro i k h1 h2 h3
  obtain⟨m,rfl⟩:∃ q,k=q+1:=⟨k - 1,by omega⟩
  by_cases ae:i<pos ag l (ag r)
  ·have hx:l[i]?=some (l[i]'(by omega)):=gG (by omega)
   have eC:cC (l[i]'(by omega)).At=ag (l[i]'(by omega)):=rfl
   have aea:cC r.At=ag r:=rfl
   have hw:ab ((i:Int)+1)=((i+1:Nat):Int):=by rw[aU (by omega) (by omega)];omega
   have hb:Ca.b0 k0 l r (i:Int)=some (.next ((i+1:Nat):Int)):=by
    unfold Ca.b0
    simp only[AE (show (i:Int)<(l.length:Int) by omega),Am,bA hx,Ae,afQ,eC,aea,AE ((qZ ag hs (ag r) hx).2 ae),hw]
   simp only[aj,hb]
   exact ih (i+1) m (by omega) (by omega) (by omega)
  ·have hi:i=pos ag l (ag r):=by omega
   exact(by
    have:=ih i (m+1) (by omega) (by omega) h3
    exact this)
theorem aba {k:Nat} (hk:1000000<k) {l:List Ab} (hs:CI ag l) (hl:l.length<=900) (hh:∀ r∈l,jC r) {r:Ab} (hr:jC r):Ca k l r=some (eH l r):=by
 unfold Ca eH
 have eC:cC r.At=ag r:=rfl
 rcases ahl (k:=k) (l:=l) (by omega) hk r.At with ⟨i,x,h1,h2,h3⟩|⟨h1,h2⟩
 ·rw[eC]at h3
  have hf:gR ag l (ag r)=some x:=by rw[<-h3];exact ahi ag hs (AU h2)
  rw[h1,hf]
  simp only[Ae,AE (show (0:Int)<=(i:Int) by omega),Am,bA h2]
  by_cases e:x=r
  ·subst e
   have:=ai8 x
   unfold lE at this
   rw[this]
   simp only[Am,agC (show l.length<=1000 by omega),Ae,if_true]
  ·have:=ai7 e
   unfold lE at this
   rw[this]
   simp only[Ak,if_neg e]
 ·rw[eC]at h2
  have hf:gR ag l (ag r)=none:=abE ag h2
  rw[h1,hf]
  have hp:=aay ag l (ag r)
  have jA:=apZ (k0:=k) hs (by omega) r (pos ag l (ag r)) 0 k (by omega) (by omega) (by omega)
  rw[CY]at jA
  simp only[Ae,(by decide:decide ((0:Int)<=-1)=false),Ak,aiu hk (show l.length<=100000 by omega) hh,abp _ hr.1 hr.2]
  by_cases hc:((aA ag l r.At.Aq:Nat):Int)<r.At.No
  ·simp only[AE hc,Am,if_pos hc]
  ·simp only[AI hc,Ak,if_neg hc]
   by_cases iw:(l.length:Int)=60
   ·simp only[AE iw,Am,if_pos iw]
   ·have ht:(l.take (pos ag l (ag r))).length=pos ag l (ag r):=by rw[Ba];omega
    simp only[AI iw,Ak,if_neg iw,jA,Ae,aqW hp,aqV hp]
    rw[agC (by omega)]
    simp only[Ae]
    rw[pq (by rw[ht];omega) (by rw[ht];omega)]
    simp only[Ae]
    rw[lQ (by rw[A9,ht,Bp];simp;omega) (by rw[A9,ht,Bp];simp;omega)]
    simp only[Ae]
    unfold eF
    simp
theorem abb {k:Nat} (hk:1000000<k) {b:Ah} (hs:CI ag b.Aj) (hl:b.Aj.length<=900) (hh:∀ r∈b.Aj,jC r) (r:Ab):
  rv k b r=some (bif dg r then (⟨(eH b.Aj r).1⟩,(eH b.Aj r).2) else (⟨[]⟩,90)):=by
 unfold rv
 rw[aif (by omega)]
 simp only[Ae]
 cases hr:dg r with
 |false=>rfl
 |true=>
  have hho:=nT hr
  have eC:cC r.At=ag r:=rfl
  simp only[AW,Ak,Am,anb (show 10000<k by omega) hs (show b.Aj.length<=1000 by omega),Ae,eC]
  unfold eH
  cases hf:gR ag b.Aj (ag r) with
  |some x=>
   have hp:=ahj ag hs (ag r)
   rw[hf]at hp
   have hx:b.Aj[pos ag b.Aj (ag r)]?=some x:=by
    cases hq:b.Aj[pos ag b.Aj (ag r)]? with
    |none=>rw[hq]at hp;cases hp
    |some y=>
     rw[hq]at hp
     simp only[Option.filter]at hp
     split at hp
     ·exact hp.symm
     ·cases hp
   simp only[Option.isSome_some,Am,bA hx,Ae]
   by_cases e:x=r
   ·subst e
    have:=ai8 x
    unfold lE at this
    rw[this]
    simp only[Am,abr (show b.Aj.length<=1000 by omega),Ae,if_true]
   ·have:=ai7 e
    unfold lE at this
    rw[this]
    simp only[Ak,if_neg e]
  |none=>
   simp only[Option.isSome_none,Ak,anw hk (show b.Aj.length<=100000 by omega) hh,Ae,abp _ hho.1 hho.2]
   by_cases hc:((aA ag b.Aj r.At.Aq:Nat):Int)<r.At.No
   ·simp only[AE hc,Am,if_pos hc]
   ·simp only[AI hc,Ak,if_neg hc]
    by_cases iw:(b.Aj.length:Int)=60
    ·simp only[AE iw,Am,if_pos iw]
    ·simp only[AI iw,Ak,if_neg iw,agr (show b.Aj.length<=1000 by omega),Ae,aoI (show b.Aj.length<=1000 by omega)]
theorem take_at {α:Type}{l:List α}{i:Nat}{x:α} (h:l[i]?=some x):l.take (i+1)=l.take i++[x]:=by
 rw[List.take_add_one,h];rfl
theorem ajj {k:Nat} (hk:10000000<k) {a b:List Ab} (hl:a.length<=1000):∃ c:Bool,B9 k a b=some c/\(c=true↔a=b):=by
 unfold B9
 by_cases wk:a.length=b.length
 ·obtain⟨c,h1,h2⟩:=aqC (body:=B9.b0 k a b) (eq:=lE) wk (by omega) (fun x y=>xx) hk (fun i x y hx hy=>by
   have hi:=(gS.1 hx).1
   unfold B9.b0 lE
   simp only[AE (show (i:Int)<(a.length:Int) by omega),Am,bA hx,bA hy,Ae]) (fun i hi=>by
   unfold B9.b0
   by_cases h:(i:Int)<(a.length:Int)<;>simp[h]) (by
   unfold B9.b0
   simp only[(by simp:decide ((a.length:Int)<(a.length:Int))=false),Ak])
  refine⟨c,?_,h2⟩
  have hd:decide ((a.length:Int)=(b.length:Int))=true:=by simp[wk]
  rw[hd,h1]
  rfl
 ·refine⟨false,?_,?_⟩
  ·have hd:decide ((a.length:Int)=(b.length:Int))=false:=by simp;omega
   obtain⟨m,rfl⟩:∃ q,k=q+1:=⟨k - 1,by omega⟩
   have:B9.b0 (m+1) a b (false,0)=some (.brk false):=by
    unfold B9.b0
    by_cases h:(0:Int)<(a.length:Int)<;>simp[h]
   rw[hd]
   simp only[aj,this]
   rfl
  ·constructor
   ·intro h;cases h
   ·rintro rfl;exact absurd rfl wk
theorem aqB {k:Nat} (hk:10000000<k) {a:Ah} (hl:a.Aj.length<=1000):E7 k a a=some true:=by
 obtain⟨c,h1,h2⟩:=ajj hk (a:=a.Aj) (b:=a.Aj) hl
 unfold E7
 rw[h1,h2.2 rfl];rfl
theorem mw (k:Nat) (n:Int) {m:Int} (h0:0<m) (h1:m<=4611686018427387904):B8 k n m=some (n % m):=by
 unfold B8 pk
 rw[if_neg (by omega)]
 simp only[Ae]
 have b1:Int.tmod n m<m:=Int.tmod_lt_of_pos n h0
 have b2:-m<Int.tmod n m:=by
  rcases Int.le_total 0 n with h|h
  ·have:=Int.tmod_nonneg m h
   omega
  ·have:=Int.tmod_lt_of_pos (-n) h0
   rw[Int.neg_tmod]at this
   omega
 have e1:Int.tmod n m % m=n % m:=by
  have:=Int.mul_tdiv_add_tmod n m
  rw[<-this,Int.add_comm,Int.add_mul_emod_self_left]
  congr 1
  have e:=Int.mul_tdiv_add_tmod n m
  rw[Int.add_comm]at e
  rw[e]
 rw[aU (by omega) (by omega),Int.tmod_eq_emod_of_nonneg (by omega),Int.add_emod_right,e1]
theorem pe (n:Int) {m:Int} (h0:0<m):0<=n % m/\n % m<m:=⟨Int.emod_nonneg _ (by omega),Int.emod_lt_of_pos _ h0⟩
theorem ari (v:Aa 5 Int):∃ a b c d e,v=⟨[a,b,c,d,e],rfl⟩:=by
 obtain⟨l,h⟩:=v
 match l,h with
 |[a,b,c,d,e],h=>exact⟨a,b,c,d,e,rfl⟩
def tx5:List ByteArray:=[ByteArray.empty,(⟨#[97]⟩:ByteArray),(⟨#[112,105,101,99,101,32,49,55]⟩:ByteArray),(⟨#[48,32,48,32,49,32,48,32,48,32,48]⟩:ByteArray),(⟨#[97,32,116,101,120,116,32,111,102,32,97,32,108,101,110,103,116,104,32,116,104,97,116,32,116,97,107,101,115,32,116,104,114,101,101,32,104,97,108,118,101,115,32,111,102,32,97,32,112,97,103,101]⟩:ByteArray)]
theorem aq4 {i:Int} (h0:0<=i) (h1:i<5):∃ s,at? tx5 i=some s/\pC s=true:=by
 have:i=0\/i=1\/i=2\/i=3\/i=4:=by omega
 rcases this with rfl|rfl|rfl|rfl|rfl
 ·exact⟨_,rfl,by decide +kernel⟩
 ·exact⟨_,rfl,by decide +kernel⟩
 ·exact⟨_,rfl,by decide +kernel⟩
 ·exact⟨_,rfl,by decide +kernel⟩
 ·exact⟨_,rfl,by decide +kernel⟩
theorem aqr {k:Nat} (hk:1000000<k) {l:List Ab} (hl:l.length<=100) (hh:∀ r∈l,jC r) (v:Aa 5 Int):
  ∃ r,El k l v=some r/\dg r=true/\(r.At.Aq=0\/r.At.Aq=1\/r.At.Aq=2)/\(ag r).2=aA ag l (ag r).1:=by
 obtain⟨a,b,c,d,e,rfl⟩:=ari v
 have a0:(⟨[a,b,c,d,e],rfl⟩:Aa 5 Int).at? 0=some a:=rfl
 have a1:(⟨[a,b,c,d,e],rfl⟩:Aa 5 Int).at? 1=some b:=rfl
 have a2:(⟨[a,b,c,d,e],rfl⟩:Aa 5 Int).at? 2=some c:=rfl
 have a3:(⟨[a,b,c,d,e],rfl⟩:Aa 5 Int).at? 3=some d:=rfl
 have a4:(⟨[a,b,c,d,e],rfl⟩:Aa 5 Int).at? 4=some e:=rfl
 have m3:=mw k a (m:=3) (by decide) (by decide)
 have m6:=mw k b (m:=6) (by decide) (by decide)
 have m50:=mw k c (m:=50) (by decide) (by decide)
 have m51:=mw k d (m:=50) (by decide) (by decide)
 have m5:=mw k e (m:=5) (by decide) (by decide)
 have B3:=pe a (m:=3) (by decide)
 have B6:=pe b (m:=6) (by decide)
 have Ig:=pe c (m:=50) (by decide)
 have GN:=pe d (m:=50) (by decide)
 have B5:=pe e (m:=5) (by decide)
 obtain⟨s,kI,oW⟩:=aq4 B5.1 B5.2
 have hc:=agx l (a % 3)
 have ad7:a % 3=0\/a % 3=1\/a % 3=2:=by omega
 unfold El
 unfold tx5 at kI
 simp only[a0,a1,a2,a3,a4,m3,m6,m50,m51,m5,Ae,aiu hk (show l.length<=100000 by omega) hh,abp l (show 0<=a % 3 from B3.1) (by omega),kI]
 have W:∀ x lo hi:Int,lo<=x->x<=hi->within x lo hi=true:=fun x lo hi h1 h2=>by
  unfold within;simp[h1,h2]
 have ahO:∀ kk:Int,0<kk->kk<=7->dg (⟨(⟨a % 3,((aA ag l (a % 3):Nat):Int)⟩:Entry),kk,c % 50,d % 50,(⟨0,0⟩:Entry),s⟩:Ab)=true:=fun kk h1 h2=>by
  unfold dg lj
  simp only[W _ 0 5 (show 0<=a % 3 from B3.1) (by omega),W _ 0 9999 (show (0:Int)<=((aA ag l (a % 3):Nat):Int) by omega) (by omega),W kk 0 40 (by omega) (by omega),W _ 0 100000 Ig.1 (by omega),W _ 0 100000 GN.1 (by omega),oW,
   AI (show ¬ kk=0 by omega),Bs,Am,Bool.and_self,Bw]
 by_cases h0:b % 6=0
 ·simp only[AE h0,Am]
  by_cases hp:(0:Int)<((aA ag l (a % 3):Nat):Int)
  ·have mc:=mw k c (m:=((aA ag l (a % 3):Nat):Int)) hp (by omega)
   have Bc:=pe c hp
   simp only[AE hp,Am,mc,Ae]
   refine⟨_,rfl,?_,ad7,rfl⟩
   have te:pC ByteArray.empty=true:=by decide +kernel
   unfold dg lj
   simp only[W _ 0 5 (show 0<=a % 3 from B3.1) (by omega),W _ 0 9999 (show (0:Int)<=((aA ag l (a % 3):Nat):Int) by omega) (by omega),W (b % 6) 0 40 (by omega) (by omega),W 0 0 100000 (by decide) (by decide),W _ 0 100000 GN.1 (by omega),te,
    AE h0,AW,Ak,Bool.and_self,Bw,beq_self_eq_true,W _ 0 9999 Bc.1 (by omega),AE Bc.2]
  ·simp only[AI hp,Ak]
   exact⟨_,rfl,ahO 7 (by decide) (by decide),ad7,rfl⟩
 ·simp only[AI h0,Ak]
  exact⟨_,rfl,ahO _ (by omega) (by omega),ad7,rfl⟩
def mk1 (k:Nat) (s:List Ab) (v:Aa 5 Int):List Ab:=s++[(El k s v).getD aqp]
where aqp:Ab:=⟨⟨0,0⟩,0,0,0,⟨0,0⟩,ByteArray.empty⟩
def fk (k:Nat) (l:List (Aa 5 Int)):List Ab:=l.foldl (mk1 k) []
abbrev Hf:=Aa 32 Int
abbrev Pg:=Aa 2 Hf
def hz:Hf:=Aa.rep 32 0
def hf (p:List Pg) (a i:Nat):Hf:=match p[301*a+i / 2]? with
 |some g=>(g.l[i % 2]?).getD hz
 |none=>hz
theorem acH (g:Pg) (i:Nat):g.at? ((i % 2:Nat):Int)=some ((g.l[i % 2]?).getD hz):=by
 have h:=g.h
 have hi:i % 2<g.l.length:=by omega
 unfold Aa.at?
 rw[if_pos (by omega),Cn,gG hi];rfl
theorem abd {p:List Pg} (hp:p.length=602) {a i:Nat} (ha:a<=1) (hi:i<602):ab ((ab ((a:Int)*301))+(ab (Int.tdiv (i:Int) 2)))=((301*a+i / 2:Nat):Int):=by
 have e:Int.tdiv (i:Int) 2=((i / 2:Nat):Int):=by
  rw[show (2:Int)=((2:Nat):Int) from rfl,<-Int.ofNat_tdiv]
 rw[e,aU (n:=(a:Int)*301) (by omega) (by omega),aU (n:=((i / 2:Nat):Int)) (by omega) (by omega),aU (by omega) (by omega)]
 omega
theorem qO (i:Nat):Int.tmod (i:Int) 2=((i % 2:Nat):Int):=by
 rw[show (2:Int)=((2:Nat):Int) from rfl,<-Int.ofNat_tmod]
theorem wo (k:Nat) {p:List Pg} (hp:p.length=602) (w:List Ao) {a i:Nat} (ha:a<=1) (hi:i<602):nm k ⟨⟨p,w⟩⟩ (a:Int) (i:Int)=some (hf p a i):=by
 unfold nm hf
 have hx:p[301*a+i / 2]?=some (p[301*a+i / 2]'(by omega)):=gG (by omega)
 simp only[abd hp ha hi,bA hx,Ae,qO,acH,hx]
theorem aeP {n b:Int}{s:Nat} (hs:s<=32) (h0:0<=n) (h1:n<1073741824) (h2:0<=b) (h3:b<2 ^ s):fZ .i64 (n*2 ^ s) b=n*2 ^ s+b:=by
 obtain⟨m,rfl⟩:=Int.eq_ofNat_of_zero_le h0
 obtain⟨c,rfl⟩:=Int.eq_ofNat_of_zero_le h2
 have hp:(2:Nat) ^ s<=2 ^ 32:=Nat.pow_le_pow_right (by decide) hs
 have hc:c<2 ^ s:=by
  have:((2:Int) ^ s)=((2 ^ s:Nat):Int):=by push_cast;rfl
  rw[this]at h3;omega
 have hm:m<4294967296:=by omega
 have hmp:m*2 ^ s<4294967296*4294967296:=Nat.mul_lt_mul_of_lt_of_le hm hp (by decide)
 have e:((m:Int)*2 ^ s)=((m*2 ^ s:Nat):Int):=by push_cast;rfl
 rw[e]
 unfold fZ
 have t:∀ x:Nat,x<18446744073709551616->(BitVec.ofInt IntKind.i64.bits (x:Int)).toNat=x:=fun x hx=>by
  rw[BitVec.toNat_ofInt]
  have:(x:Int) % ((2 ^ IntKind.i64.bits:Nat):Int)=(x:Int):=by
   rw[show ((2 ^ IntKind.i64.bits:Nat):Int)=18446744073709551616 from rfl];omega
  rw[this];omega
 have iJ:m*2 ^ s<9223372036854775808 - 4294967296:=by
  have:m*2 ^ s<=m*4294967296:=Nat.mul_le_mul_left _ hp
  omega
 rw[BitVec.toNat_or,t _ (by omega),t _ (by omega)]
 have:=Nat.shiftLeft_add_eq_or_of_lt hc m
 rw[Nat.shiftLeft_eq]at this
 rw[<-this]
 exact aU (by omega) (by omega)
theorem afn {x:Int} (h:0<=x/\x<256) (s:Nat) (hs:s<=16):ab ((ab x)*2 ^ s)=x*2 ^ s:=by
 have hp:(2:Int) ^ s<=65536:=by
  have:(2:Nat) ^ s<=2 ^ 16:=Nat.pow_le_pow_right (by decide) hs
  have e:((2:Int) ^ s)=((2 ^ s:Nat):Int):=by push_cast;rfl
  rw[e];omega
 have hp0:(0:Int)<2 ^ s:=Int.pow_pos (by decide)
 have h1:x*2 ^ s<=255*65536:=Int.mul_le_mul (by omega) hp (by omega) (by omega)
 have h2:0<=x*2 ^ s:=Int.mul_nonneg h.1 (by omega)
 rw[aU (n:=x) (by omega) (by omega),aU (by omega) (by omega)]
theorem or3 {a b c:Int} (ha:0<=a/\a<256) (hb:0<=b/\b<256) (hc:0<=c/\c<256):
  fZ .i64 (fZ .i64 (ab ((ab a)*2 ^ 16)) (ab ((ab b)*2 ^ 8))) (ab c)=bp [a,b,c]:=by
 rw[afn ha 16 (by decide),afn hb 8 (by decide),aeP (s:=16) (by decide) ha.1 (by omega) (by omega) (by omega),aU (n:=c) (by omega) (by omega)]
 have e:a*2 ^ 16+b*2 ^ 8=(a*256+b)*2 ^ 8:=by omega
 rw[e,aeP (s:=8) (by decide) (by omega) (by omega) hc.1 (by omega)]
 simp[bp,pt]
theorem or2 {a b:Int} (ha:0<=a/\a<256) (hb:0<=b/\b<256):fZ .i64 (ab ((ab a)*2 ^ 8)) (ab b)=bp [a,b]:=by
 rw[afn ha 8 (by decide),aU (n:=b) (by omega) (by omega),aeP (s:=8) (by decide) ha.1 (by omega) hb.1 (by omega)]
 simp[bp,pt]
def bt (h:Hf) (i:Nat):Int:=(h.l[i]?).getD 0
theorem lS (h:Hf) {i:Nat} (hi:i<32):h.at? (i:Int)=some (bt h i):=by
 have hl:=h.h
 unfold Aa.at? bt
 rw[if_pos (by omega),Cn,gG (by omega)];rfl
theorem rC {h:Hf} (hb:AZ h.l) (i:Nat):0<=bt h i/\bt h i<256:=by
 unfold bt
 cases hq:h.l[i]? with
 |none=>simp
 |some x=>exact hb x (AU hq)
def aM (h:Hf):Int:=
 if (bt h 0=104\/bt h 0=112)/\bt h 31=165/\bp [bt h 1,bt h 2,bt h 3]<=1000000 then bp [bt h 1,bt h 2,bt h 3] else 0
theorem adB {h:Hf} (hb:AZ h.l):0<=aM h/\aM h<=1000000:=by
 unfold aM
 have:=ae0 (l:=[bt h 1,bt h 2,bt h 3]) (by
  intro x hx
  simp only[BE,List.not_mem_nil,or_false]at hx
  rcases hx with rfl|rfl|rfl<;>exact rC hb _)
 split
 ·rename_i hc;exact⟨this.1,hc.2.2⟩
 ·omega
theorem abC (k:Nat) {h:Hf} (hb:AZ h.l):pU k h=some (aM h):=by
 have h0:=lS h (i:=0) (by decide)
 have h1:=lS h (i:=1) (by decide)
 have h2:=lS h (i:=2) (by decide)
 have h3:=lS h (i:=3) (by decide)
 have yN:=lS h (i:=31) (by decide)
 have e0:h.at? 0=some (bt h 0):=h0
 have e1:h.at? 1=some (bt h 1):=h1
 have e2:h.at? 2=some (bt h 2):=h2
 have e3:h.at? 3=some (bt h 3):=h3
 have yu:h.at? 31=some (bt h 31):=yN
 unfold pU aM
 simp only[e0,e1,e2,e3,yu,Ae,or3 (rC hb 1) (rC hb 2) (rC hb 3)]
 by_cases a:bt h 0=104
 ·have a2:¬ bt h 0=112:=by omega
  by_cases c:bt h 31=165
  ·by_cases d:(1000000:Int)<bp [bt h 1,bt h 2,bt h 3]
   ·simp[a,c,d,show ¬ bp [bt h 1,bt h 2,bt h 3]<=1000000 by omega]
   ·simp[a,c,d,show bp [bt h 1,bt h 2,bt h 3]<=1000000 by omega]
  ·simp[a,c]
 ·by_cases b:bt h 0=112
  ·by_cases c:bt h 31=165
   ·by_cases d:(1000000:Int)<bp [bt h 1,bt h 2,bt h 3]
    ·simp[b,c,d,show ¬ bp [bt h 1,bt h 2,bt h 3]<=1000000 by omega]
    ·simp[b,c,d,show bp [bt h 1,bt h 2,bt h 3]<=1000000 by omega]
   ·simp[b,c]
  ·simp[a,b]
def Bv (p:List Pg):Prop:=∀ g∈p,∀ h∈g.l,AZ h.l
theorem Bv.hf {p:List Pg} (hp:Bv p) (a i:Nat):AZ (hf p a i).l:=by
 have ss:AZ hz.l:=by
  intro x hx
  have:x=0:=by
   simp only[hz,Aa.rep,List.mem_replicate]at hx
   exact hx.2
  omega
 unfold Go.Abs.hf
 cases hq:p[301*a+i / 2]? with
 |none=>exact ss
 |some g=>
  simp only
  cases hr:g.l[i % 2]? with
  |none=>exact ss
  |some h=>exact hp g (AU hq) h (AU hr)
def jO (d:Ac):Bool:=decide (d.Af.length=602)&&(decide (d.Ad.length<=1200)&&d.Ad.all fun w=>within w.At 0 601)
theorem qI {k:Nat} (hk:1000000<k) (d:Ac):tF k d=some (jO d):=by
 unfold tF jO
 by_cases h1:d.Af.length=602
 ·have e1:decide ((d.Af.length:Int)=602)=true:=AE (by omega)
  by_cases h2:d.Ad.length<=1200
  ·have e2:decide ((d.Ad.length:Int)<=1200)=true:=AE (by omega)
   have oP:=aj1 (body:=iU.b0 k (fun q0=>vE k q0) d.Ad) (n:=d.Ad.length) (f:=fun i=>match d.Ad[i]? with|some w=>bif within w.At 0 601 then none else some (i:Int)|none=>none) (by omega) (k:=k) (by omega) (fun i hi=>by
    obtain⟨w,hw⟩:∃ w,d.Ad[i]?=some w:=⟨_,gG hi⟩
    unfold iU.b0 vE
    simp only[AE (show (i:Int)<(d.Ad.length:Int) by omega),Am,bA hw,Ae,aaa,hw]
    cases within w.At 0 601<;>rfl) (by
    unfold iU.b0
    simp only[(by simp:decide ((d.Ad.length:Int)<(d.Ad.length:Int))=false),Ak])
   simp only[e1,e2,Am,h1,h2,Bw,BQ]
   unfold acx iU
   rw[oP]
   simp only[Ae]
   cases hq:(List.range d.Ad.length).findSome? (fun i=>match d.Ad[i]? with|some w=>bif within w.At 0 601 then none else some (i:Int)|none=>none) with
   |none=>
    have:d.Ad.all (fun w=>within w.At 0 601)=true:=by
     rw[List.all_eq_true]
     intro w hw
     obtain⟨i,hi⟩:=BF.1 hw
     rw[List.findSome?_eq_none_iff]at hq
     have:=hq i (List.mem_range.2 (gS.1 hi).1)
     rw[hi]at this
     simp only at this
     cases hb:within w.At 0 601 with
     |true=>rfl
     |false=>rw[hb]at this;cases this
    rw[this];rfl
   |some r=>
    obtain⟨i,hi,hf⟩:=List.exists_of_findSome?_eq_some hq
    obtain⟨w,hw⟩:∃ w,d.Ad[i]?=some w:=⟨_,gG (List.mem_range.1 hi)⟩
    rw[hw]at hf
    simp only at hf
    have hb:within w.At 0 601=false:=by
     cases hb:within w.At 0 601 with
     |false=>rfl
     |true=>rw[hb]at hf;cases hf
    rw[hb]at hf
    have hr:(i:Int)=r:=oi hf
    have:d.Ad.all (fun w=>within w.At 0 601)=false:=by
     rw[List.all_eq_false]
     exact⟨w,AU hw,by rw[hb];decide⟩
    rw[this]
    simp only[Ae]
    rw[AE (show (0:Int)<=r by omega)]
    rfl
  ·have e2:decide ((d.Ad.length:Int)<=1200)=false:=AI (by omega)
   simp[e1,e2,h1,h2]
 ·have e1:decide ((d.Af.length:Int)=602)=false:=AI (by omega)
  simp[e1,h1]
theorem amn {k:Nat}{d:Ac} (h:d.Af.length<=100000000/\d.Ad.length<=100000000):mK k d=some ⟨d⟩:=by
 unfold mK acv acw fo
 rw[if_pos ⟨by omega,by omega⟩,if_pos ⟨by omega,by omega⟩]
 rfl
theorem gD {d:Ac}:jO d=true↔d.Af.length=602/\d.Ad.length<=1200/\∀ w∈d.Ad,0<=w.At/\w.At<=601:=by
 unfold jO within
 simp only[A1,decide_eq_true_eq,List.all_eq_true]
theorem lV {k:Nat}{d:Ac} (h:jO d=true):mK k d=some ⟨d⟩:=by
 obtain⟨h1,h2,_⟩:=gD.1 h
 exact amn ⟨by omega,by omega⟩
def ak (p:List Pg) (w:List Ao):List Pg:=w.foldl (fun p x=>p.set x.At.toNat x.AH) p
theorem ao5 (w:List Ao):∀ p:List Pg,(ak p w).length=p.length:=by
 induction w with
 |nil=>intro p;rfl
 |cons x w ih=>intro p;exact(ih _).trans (by simp)
theorem pB {k:Nat} (hk:1000000<k) {d:Ac} (h:jO d=true):fA k ⟨d⟩=some ⟨⟨ak d.Af d.Ad,[]⟩⟩:=by
 obtain⟨h1,h2,h3⟩:=gD.1 h
 unfold fA
 have hf:=pF (l:=d.Ad) (body:=fA.b0 k ⟨d⟩) (fun i s=>(i,s)) (fun p x=>p.set x.At.toNat x.AH) (fun i s=>s.length=602) (by omega) (k:=k) (by omega) (s0:=d.Af) h1 (fun i x s hx hs=>by
  have hi:=(gS.1 hx).1
  have hb:=h3 x (AU hx)
  refine⟨?_,by simp[hs]⟩
  unfold fA.b0
  have ha:at? s x.At=some (s[x.At.toNat]'(by omega)):=by
   unfold at?
   rw[if_pos ⟨by omega,by omega⟩,gG (by omega)]
  have eP:dM s x.At x.AH=some (s.set x.At.toNat x.AH):=by
   unfold dM
   rw[if_pos ⟨by omega,by omega⟩]
  simp only[AE (show (i:Int)<(d.Ad.length:Int) by omega),Am,bA hx,Ae,ha,eP]) (fun s hs=>by
  unfold fA.b0
  simp only[(by simp:decide ((d.Ad.length:Int)<(d.Ad.length:Int))=false),Ak])
 rw[hf.1]
 rfl
def mx (p:List Pg) (a from_:Nat):Int:=(List.range' from_ (602 - from_)).foldl (fun m i=>max m (aM (hf p a i))) 0
theorem ahp {f:Nat->Int}:∀ (l:List Nat) (z E:Int),l.foldl (fun m i=>max m (f i)) z<=E↔z<=E/\∀ i∈l,f i<=E
 |[],z,E=>by simp
 |x::l,z,E=>by
  rw[List.foldl_cons,ahp l]
  simp only[Int.max_le,and_assoc,BE,forall_eq_or_imp]
theorem aiz {p:List Pg}{a from_:Nat}{E:Int}:mx p a from_<=E↔0<=E/\∀ i,from_<=i->i<602->aM (hf p a i)<=E:=by
 unfold mx
 rw[ahp]
 constructor
 ·rintro⟨h1,h2⟩
  exact⟨h1,fun i h3 h4=>h2 i (by rw[List.mem_range'_1];omega)⟩
 ·rintro⟨h1,h2⟩
  exact⟨h1,fun i hi=>h2 i (by rw[List.mem_range'_1]at hi;omega) (by rw[List.mem_range'_1]at hi;omega)⟩
theorem xm (p:List Pg) (a from_:Nat):0<=mx p a from_:=(aiz.1 (Int.le_refl _)).1
theorem aiA {p:List Pg} (hp:Bv p) (a from_:Nat):mx p a from_<=1000000:=aiz.2 ⟨by omega,fun i _ _=>(adB (hp.hf a i)).2⟩
theorem oo {k:Nat} (hk:1000000<k) {p:List Pg} (hp:p.length=602) (hb:Bv p) (w:List Ao) {a:Nat} (ha:a<=1) (from_:Nat):dF k ⟨⟨p,w⟩⟩ (a:Int) (from_:Int)=some (mx p a from_):=by
 unfold dF mx
 have key:∀ (d i m:Nat) (z:Int),602 - i=d->d<m->aj (dF.b0 k ⟨⟨p,w⟩⟩ (a:Int)) m (z,(i:Int))=some (.brk ((List.range' i d).foldl (fun m i=>max m (aM (hf p a i))) z)):=by
  intro d
  induction d with
  |zero=>
   intro i m z h1 h2
   obtain⟨m,rfl⟩:∃ q,m=q+1:=⟨m - 1,by omega⟩
   have uc:dF.b0 k ⟨⟨p,w⟩⟩ (a:Int) (z,(i:Int))=some (.brk z):=by
    unfold dF.b0
    simp only[AI (show ¬ (i:Int)<602 by omega),Ak]
   simp only[aj,uc]
   rfl
  |succ d ih=>
   intro i m z h1 h2
   obtain⟨m,rfl⟩:∃ q,m=q+1:=⟨m - 1,by omega⟩
   have hw:ab ((i:Int)+1)=((i+1:Nat):Int):=by rw[aU (by omega) (by omega)];omega
   have uc:dF.b0 k ⟨⟨p,w⟩⟩ (a:Int) (z,(i:Int))=some (.next (max z (aM (hf p a i)),((i+1:Nat):Int))):=by
    unfold dF.b0
    simp only[AE (show (i:Int)<602 by omega),Am,wo k hp w ha (show i<602 by omega),Ae,abC k (hb.hf a i),hw]
   simp only[aj,uc]
   rw[List.range'_succ,List.foldl_cons]
   exact ih (i+1) m _ (by omega) (by omega)
 have:=key (602 - from_) from_ k 0 rfl (by omega)
 rw[this]
 rfl
def aqx (p:List Pg) (a from_:Nat) (l:List Hf):Prop:=from_+l.length<=602/\∀ (i:Nat) x,l[i]?=some x->hf p a (from_+i)=x
instance:DecidableEq Hf:=fun a b=>decidable_of_iff (Aa.eq (fun(x y:Int)=>decide (x=y)) a b=true) (rl a b)
def pw (p:List Pg) (a from_:Nat) (l:List Hf):Bool:=(List.range l.length).all fun i=>match l[i]? with|some x=>decide (hf p a (from_+i)=x)|none=>true
theorem ajd {p:List Pg}{a from_:Nat}{l:List Hf}:pw p a from_ l=true↔∀ (i:Nat) x,l[i]?=some x->hf p a (from_+i)=x:=by
 unfold pw
 rw[List.all_eq_true]
 constructor
 ·intro h i x hx
  have:=h i (List.mem_range.2 (gS.1 hx).1)
  rw[hx]at this
  simpa using this
 ·intro h i hi
  cases hq:l[i]? with
  |none=>rfl
  |some x=>simpa using h i x hq
def recAt (p:List Pg) (a from_:Nat) (n:Nat):Option (Ab×Int×Nat):=
 if 602<=from_ then none else if aM (hf p a from_)=0\/602<from_+(bt (hf p a from_) 7).toNat then none else
 match gQ ((List.range (bt (hf p a from_) 7).toNat).map fun i=>gZ (hf p a (from_+i))).flatten with
 |none=>none
 |some q=>if dg q.1=true/\(cq q.1 n (aM (hf p a from_))).length=(bt (hf p a from_) 7).toNat/\pw p a from_ (cq q.1 n (aM (hf p a from_)))=true then some (q.1,aM (hf p a from_),(bt (hf p a from_) 7).toNat) else none
theorem agm {h:Hf} (hb:AZ h.l):AZ (gZ h):=(hb.drop 8).take 23
theorem agi {l:List (List Int)} (h:∀ x∈l,AZ x):AZ l.flatten:=fun x hx=>by
 obtain⟨y,hy,hx⟩:=List.mem_flatten.1 hx
 exact h y hy x hx
theorem aqq {k:Nat} (hk:1000000<k) {p:List Pg} (hp:p.length=602) (hb:Bv p) (w:List Ao) {a:Nat} (ha:a<=1) (from_ n:Nat) (qt:from_<=100000):
  dA k ⟨⟨p,w⟩⟩ (a:Int) (from_:Int) (n:Int)=some (match recAt p a from_ n with|some q=>(q.1,q.2.1,(q.2.2:Int))|none=>(nU,0,0)):=by
 unfold dA recAt
 by_cases h1:602<=from_
 ·simp only[AE (show (602:Int)<=(from_:Int) by omega),Am,if_pos h1]
  rfl
 ·have fT:=rC (hb.hf a from_) 7
  obtain⟨m,hm⟩:=Int.eq_ofNat_of_zero_le fT.1
  have hmN:(bt (hf p a from_) 7).toNat=m:=by rw[hm];rfl
  have e7:(hf p a from_).at? 7=some (m:Int):=by have:=lS (hf p a from_) (i:=7) (by decide);rw[hm]at this;exact this
  have wm:ab (m:Int)=(m:Int):=aU (by omega) (by omega)
  have wfm:ab ((from_:Int)+(m:Int))=((from_+m:Nat):Int):=by rw[aU (by omega) (by omega)];omega
  rw[hmN]
  simp only[AI (show ¬ (602:Int)<=(from_:Int) by omega),Ak,if_neg h1,wo k hp w ha (show from_<602 by omega),Ae,abC k (hb.hf a from_),e7,wm,wfm]
  by_cases he:aM (hf p a from_)=0
  ·rw[if_pos (Or.inl he)]
   simp only[AE he,AW,Ak]
   rfl
  ·simp only[AI he,Bs,Am]
   by_cases h2:602<from_+m
   ·simp only[AE (show (602:Int)<((from_+m:Nat):Int) by omega),Am,if_pos (Or.inr h2)]
    rfl
   ·simp only[AI (show ¬ (602:Int)<((from_+m:Nat):Int) by omega),Ak,if_neg (show ¬ (aM (hf p a from_)=0\/602<from_+m) from fun c=>c.elim he h2)]
    have mj:=acL (n:=m) (body:=dA.b0 k ⟨⟨p,w⟩⟩ (a:Int) (from_:Int) (m:Int)) (fun i s=>(i,s)) (fun s i=>s++gZ (hf p a (from_+i))) (fun i s=>s.length=23*i) (by omega) (k:=k) (by omega) (s0:=[]) rfl (fun i s hi hs=>by
     have hl:=(hf p a (from_+i)).h
     have xb:(gZ (hf p a (from_+i))).length=23:=by unfold gZ;simp[hl]
     have u7:ab ((from_:Int)+(i:Int))=((from_+i:Nat):Int):=by rw[aU (by omega) (by omega)];omega
     refine⟨?_,by simp[hs,xb];omega⟩
     unfold dA.b0
     simp only[wm,AE (show (i:Int)<(m:Int) by omega),Am,u7,wo k hp w ha (show from_+i<602 by omega),Ae]
     rw[show (List.take 23 (List.drop 8 (hf p a (from_+i)).l))=gZ (hf p a (from_+i)) from rfl,lQ (by omega) (by omega)]
     rfl) (fun s hs=>by
     unfold dA.b0
     simp only[wm,(by simp:decide ((m:Int)<(m:Int))=false),Ak])
    have dI:∀ (L:List Nat) (s:List Int),L.foldl (fun s i=>s++gZ (hf p a (from_+i))) s=s++(L.map fun i=>gZ (hf p a (from_+i))).flatten:=by
     intro L
     induction L with
     |nil=>intro s;simp
     |cons x L ih=>intro s;rw[List.foldl_cons,ih];simp
    have eo:=mj.1
    rw[dI,Bt]at eo
    rw[eo]
    simp only[Ae]
    have oH:AZ ((List.range m).map fun i=>gZ (hf p a (from_+i))).flatten:=agi (by
     intro x hx
     obtain⟨i,_,rfl⟩:=List.mem_map.1 hx
     exact agm (hb.hf a _))
    rw[amD (by omega) oH]
    cases hd:gQ ((List.range m).map fun i=>gZ (hf p a (from_+i))).flatten with
    |none=>rfl
    |some q=>
     simp only[Ae]
     cases hr:dg q.1 with
     |false=>simp;rfl
     |true=>
      have ht:=sQ hr
      simp only[AW,Ak,aeW (show 100000<k by omega) ht,Ae]
      have hH:(List.range (bB (enc q.1).length)).map (dH (aM (hf p a from_)) (n:Int) (bB (enc q.1).length) (enc q.1))=cq q.1 (n:Int) (aM (hf p a from_)):=rfl
      rw[hH]
      by_cases hlen:(cq q.1 (n:Int) (aM (hf p a from_))).length=m
      ·have hwN:=afo (n:=m) (body:=dA.b1 k ⟨⟨p,w⟩⟩ (a:Int) (from_:Int) (cq q.1 (n:Int) (aM (hf p a from_)))) (p:=fun i=>match (cq q.1 (n:Int) (aM (hf p a from_)))[i]? with|some x=>decide (hf p a (from_+i)=x)|none=>true) (c:=(nU,(0:Int),(0:Int))) (by omega) (k:=k) (by omega) (fun i hi=>by
        obtain⟨x,hx⟩:∃ x,(cq q.1 (n:Int) (aM (hf p a from_)))[i]?=some x:=⟨_,gG (by omega)⟩
        have u7:ab ((from_:Int)+(i:Int))=((from_+i:Nat):Int):=by rw[aU (by omega) (by omega)];omega
        have hve:Aa.eq (fun(x y:Int)=>decide (x=y)) (hf p a (from_+i)) x=decide (hf p a (from_+i)=x):=by
         by_cases e:hf p a (from_+i)=x
         ·rw[(rl _ _).2 e,AE e]
         ·rw[AI e]
          cases hq:Aa.eq (fun(x y:Int)=>decide (x=y)) (hf p a (from_+i)) x with
          |false=>rfl
          |true=>exact absurd ((rl _ _).1 hq) e
        unfold dA.b1
        simp only[AE (show (i:Int)<((cq q.1 (n:Int) (aM (hf p a from_))).length:Int) by omega),Am,bA hx,Ae,u7,wo k hp w ha (show from_+i<602 by omega),hve,hx]
        cases decide (hf p a (from_+i)=x)<;>rfl) (by
        unfold dA.b1
        simp only[hlen,(by simp:decide ((m:Int)<(m:Int))=false),Ak])
       have bm:pw p a from_ (cq q.1 (n:Int) (aM (hf p a from_)))=(List.range m).all (fun i=>match (cq q.1 (n:Int) (aM (hf p a from_)))[i]? with|some x=>decide (hf p a (from_+i)=x)|none=>true):=by
        unfold pw;rw[hlen];rfl
       simp only[AE (show ((cq q.1 (n:Int) (aM (hf p a from_))).length:Int)=(m:Int) by omega),AW,Ak,hwN,<-bm,hlen,true_and]
       cases pw p a from_ (cq q.1 (n:Int) (aM (hf p a from_)))<;>rfl
      ·simp only[AI (show ¬ ((cq q.1 (n:Int) (aM (hf p a from_))).length:Int)=(m:Int) by omega),Bs,Am,hlen,false_and,and_false,if_false]
       rfl
end Go.Abs
namespace Go.Abs
open Go Go.Proofs
theorem ahI (r:Ab) (n e:Int):(cq r n e)[0]?=some (dH e n (bB (enc r).length) (enc r) 0):=by
 unfold cq
 rw[BA,List.getElem?_range (vM r)];rfl
theorem ant {r:Ab}{n e:Int}{i:Nat}{x:Hf} (h:(cq r n e)[i]?=some x):x=dH e n (bB (enc r).length) (enc r) i:=by
 have hi:=(gS.1 h).1
 rw[lq]at hi
 unfold cq at h
 rw[BA,List.getElem?_range hi]at h
 exact(oi h).symm
theorem adh (e n aA:Int) (c:List Int) (i:Nat):bt (dH e n aA c i) 0=112/\bt (dH e n aA c i) 1=IntKind.u8.wrap (Int.fdiv e (2 ^ 16))/\bt (dH e n aA c i) 2=IntKind.u8.wrap (Int.fdiv e (2 ^ 8))/\bt (dH e n aA c i) 3=IntKind.u8.wrap e/\bt (dH e n aA c i) 7=IntKind.u8.wrap aA/\bt (dH e n aA c i) 31=165:=by
 have hl:((c.drop (23*i)).take 23++List.replicate (23 - min (c.drop (23*i)).length 23) (0:Int)).length=23:=by
  simp only[A9,Ba,CP];omega
 have yu:(jj e n aA c i)[31]?=some 165:=by
  unfold jj
  rw[n8,xX]
  rw[CE (by simp only[A9,AA,Az,hl];omega)]
  simp only[A9,AA,Az,hl]
  rfl
 unfold bt dH
 refine⟨?_,?_,?_,?_,?_,?_⟩
 ·simp[jj]
 ·simp[jj,n8]
 ·simp[jj,n8]
 ·simp[jj,n8]
 ·simp[jj,n8,xX]
 ·rw[yu];rfl
theorem adC {e:Int} (he:1<=e/\e<=1000000) (n aA:Int) (c:List Int) (i:Nat):aM (dH e n aA c i)=e:=by
 obtain⟨h0,h1,h2,h3,_,yN⟩:=adh e n aA c i
 have hr:bp [bt (dH e n aA c i) 1,bt (dH e n aA c i) 2,bt (dH e n aA c i) 3]=e:=by
  rw[h1,h2,h3,<-n8,rd3 (by omega) (by omega)]
 unfold aM
 rw[hr,if_pos ⟨.inr h0,yN,he.2⟩]
theorem agh {e n:Int}{aA:Nat} (hc:aA<256) (c:List Int) (i:Nat):bt (dH e n aA c i) 7=aA:=by
 obtain⟨_,_,_,_,h7,_⟩:=adh e n aA c i
 rw[h7,rm];omega
theorem vK {r:Ab} (h:dg r=true):bB (enc r).length<=10:=by
 have:=sQ h
 rw[yw];unfold bB;omega
structure DT (p:List Pg) (a from_ n:Nat) (r:Ab) (e:Int):Prop where
 ok:dg r=true
 ep:1<=e/\e<=1000000
 run:aqx p a from_ (cq r n e)
theorem aaB {p:List Pg} (hb:Bv p) {a from_ n:Nat}{q:Ab×Int×Nat}:recAt p a from_ n=some q↔DT p a from_ n q.1 q.2.1/\q.2.2=(cq q.1 n q.2.1).length:=by
 obtain⟨r,e,m⟩:=q
 constructor
 ·intro h
  unfold recAt at h
  split at h
  ·cases h
  rename_i h1
  split at h
  ·cases h
  rename_i h2
  split at h
  ·cases h
  rename_i q hq
  split at h
  ·rename_i h3
   simp only[oE,Prod.mk.injEq]at h
   obtain⟨rfl,rfl,rfl⟩:=h
   have hE:=adB (hb.hf a from_)
   have oS:¬ aM (hf p a from_)=0:=fun c=>h2 (.inl c)
   have hle:¬ 602<from_+(bt (hf p a from_) 7).toNat:=fun c=>h2 (.inr c)
   refine⟨⟨h3.1,⟨show 1<=aM (hf p a from_) by omega,hE.2⟩,⟨?_,ajd.1 h3.2.2⟩⟩,h3.2.1.symm⟩
   show from_+(cq q.1 n (aM (hf p a from_))).length<=602
   rw[h3.2.1];omega
  ·cases h
 ·rintro⟨⟨h1,h2,h3,h4⟩,h5⟩
  simp only at h1 h2 h3 h4 h5
  have hc:=vK h1
  have hf0:=h4 0 _ (ahI r n e)
  rw[Nat.add_zero]at hf0
  have hE:aM (hf p a from_)=e:=by rw[hf0];exact adC h2 _ _ _ _
  have h7:(bt (hf p a from_) 7).toNat=m:=by
   rw[hf0,agh (by omega),h5,lq];rfl
  have hmp:0<m:=by rw[h5,lq];exact vM r
  rw[<-h5]at h3
  have an6:((List.range m).map fun i=>gZ (hf p a (from_+i))).flatten=sL (enc r):=by
   rw[<-aoR e n (enc r)]
   congr 1
   rw[List.map_map,<-lq r n e,<-h5]
   apply List.map_congr_left
   intro i hi
   have ff:=List.mem_range.1 hi
   have hx:(cq r n e)[i]?=some (dH e n (bB (enc r).length) (enc r) i):=by
    unfold cq
    rw[BA,List.getElem?_range (by rw[<-lq r n e,<-h5];exact ff)];rfl
   rw[h4 i _ hx];rfl
  have hd:=amz h1 (List.replicate (23*bB (enc r).length - (enc r).length) 0)
  unfold recAt
  rw[if_neg (by omega),h7,hE,if_neg (by omega),an6]
  unfold sL
  rw[hd]
  simp only
  rw[if_pos ⟨h1,h5.symm,ajd.2 h4⟩]
def iQ (b:List Ab) (r:Ab):Option (List Ab):=if (eH b r).2=0/\(eH b r).1.length≠b.length then some (eH b r).1 else none
def rd (p:List Pg) (a:Nat):Nat->List Ab->Int->Nat->Nat->List (Ab×Nat)
 |0,_,_,_,_=>[]
 |m+1,b,e,u,n=>match recAt p a u n with
  |none=>[]
  |some q=>if q.2.1<e then [] else match iQ b q.1 with
   |none=>[]
   |some b'=>(q.1,u+q.2.2)::rd p a m b' q.2.1 (u+q.2.2) (n+1)
theorem qP {b b':List Ab}{r:Ab} (h:iQ b r=some b'):b'=eF ag b r/\gR ag b (ag r)=none/\r.At.No<=aA ag b r.At.Aq/\b.length≠60:=by
 unfold iQ eH at h
 cases hf:gR ag b (ag r) with
 |some x=>
  rw[hf]at h
  simp only at h
  by_cases e:x=r
  ·rw[if_pos e]at h;simp at h
  ·rw[if_neg e]at h;simp at h
 |none=>
  rw[hf]at h
  simp only at h
  by_cases hc:((aA ag b r.At.Aq:Nat):Int)<r.At.No
  ·rw[if_pos hc]at h;simp at h
  ·rw[if_neg hc]at h
   by_cases iw:(b.length:Int)=60
   ·rw[if_pos iw]at h;simp at h
   ·rw[if_neg iw]at h
    split at h
    ·exact⟨(oi h).symm,rfl,by omega,by omega⟩
    ·cases h
theorem aeE {b b':List Ab}{r:Ab} (hv:Dk ag b) (hr:dg r=true) (h:iQ b r=some b'):Dk ag b'/\b'.length=b.length+1:=by
 obtain⟨h1,h2,h3,h4⟩:=qP h
 subst h1
 refine⟨ajQ ag hv ?_,z8 ag b r⟩
 show r.At.No=_
 have hn:=yE ag h2
 by_cases ae:r.At.No<aA ag b r.At.Aq
 ·have h0:=(aci hr).2.1.1
  obtain⟨x,hx,hk⟩:=ajP ag hv (h:=r.At.Aq) (n:=r.At.No) h0 ae
  exact absurd hk (hn x hx)
 ·show r.At.No=((aA ag b r.At.Aq:Nat):Int)
  omega
theorem aqa {k:Nat} (hk:1000000<k) {p:List Pg} (hp:p.length=602) (hb:Bv p) (w:List Ao) {a:Nat} (ha:a<=1):∀ (m:Nat) (b:List Ab) (e:Int) (u n:Nat),Dk ag b->(∀ r∈b,dg r=true)->b.length=n->n<=60->u<=602->61<=m+n->
  ko.go k ⟨⟨p,w⟩⟩ (a:Int) (m+1) ⟨b⟩ e (u:Int) (n:Int)=some ((rd p a (m+1) b e u n).map fun x=>(x.1,(x.2:Int))):=by
 intro m
 induction m with
 |zero=>intro b e u n _ _ h1 h2 _ h3;omega
 |succ m ih=>
  intro b e u n hv sf fc hn hu hm
  rw[ko.go,rd,aqq hk hp hb w ha u n (by omega)]
  simp only[Ae]
  cases hq:recAt p a u n with
  |none=>rfl
  |some q=>
   obtain⟨⟨g1,g2,g3⟩,g4⟩:=(aaB hb).1 hq
   have hmp:0<q.2.2:=by rw[g4,lq];exact vM q.1
   have adZ:=g3.1
   rw[<-g4]at adZ
   simp only[AI (show ¬ (q.2.2:Int)=0 by omega),Bs,Am]
   by_cases he:q.2.1<e
   ·simp only[AE he,Am,if_pos he];rfl
   ·have hh:∀ r∈b,jC r:=fun r hr=>nT (sf r hr)
    simp only[AI he,Ak,if_neg he,abb hk (b:=⟨b⟩) hv.1 (show b.length<=900 by omega) hh,g1,Am,Ae]
    cases dp:iQ b q.1 with
    |none=>
     unfold iQ at dp
     by_cases h0:(eH b q.1).2=0
     ·simp only[AE h0,Am]
      by_cases hl:(eH b q.1).1.length=b.length
      ·simp only[AE (show (((eH b q.1).1.length:Nat):Int)=(b.length:Int) by omega),Am];rfl
      ·rw[if_pos ⟨h0,hl⟩]at dp;cases dp
     ·simp only[AI h0,Ak];rfl
    |some b'=>
     obtain⟨v1,v2⟩:=aeE hv g1 dp
     have iJ:=dp
     unfold iQ at iJ
     split at iJ
     ·rename_i hc
      have bT:(eH b q.1).1=b':=oi iJ
      have eo:ab ((u:Int)+(q.2.2:Int))=((u+q.2.2:Nat):Int):=by rw[aU (by omega) (by omega)];omega
      have jE:ab ((n:Int)+1)=((n+1:Nat):Int):=by rw[aU (by omega) (by omega)];omega
      have iw:b.length≠60:=(qP dp).2.2.2
      simp only[AE hc.1,Am,bT,AI (show ¬ ((b'.length:Nat):Int)=(b.length:Int) by omega),Ak,eo,jE]
      obtain⟨m,rfl⟩:∃ q,m=q+1:=⟨m - 1,by omega⟩
      rw[ih b' q.2.1 (u+q.2.2) (n+1) v1 (fun r hr=>by
       rw[(qP dp).1,ab5]at hr
       rcases hr with rfl|hr
       ·exact g1
       ·exact sf r hr) (by omega) (by omega) (by omega) (by omega)]
      rfl
     ·cases iJ
def fin (s:List Ab×Nat) (L:List (Ab×Nat)):List Ab×Nat:=L.foldl (fun s x=>(eF ag s.1 x.1,x.2)) s
theorem apz {k:Nat} (hk:1000000<k) {p:List Pg} (hb:Bv p) {a:Nat} (D:Option az) (A E:Int):∀ (m:Nat) (b:List Ab) (e:Int) (u n:Nat) (U R:Int),Dk ag b->(∀ r∈b,dg r=true)->b.length<=60->0<=R->R+100<=1000000 - (100 - m:Int)*0 - m->U=(u:Int)->
  jJ k ⟨D,A,E,U,⟨b⟩,R⟩ ((rd p a m b e u n).map fun x=>(x.1,(x.2:Int)))=some ⟨D,A,E,((fin (b,u) (rd p a m b e u n)).2:Int),⟨(fin (b,u) (rd p a m b e u n)).1⟩,R+(rd p a m b e u n).length⟩:=by
 intro m
 induction m with
 |zero=>intro b e u n U R _ _ _ _ _ hU;subst hU;simp[rd,jJ,fin]
 |succ m ih=>
  intro b e u n U R hv sf hl hR0 hR hU
  subst hU
  have stop:jJ k ⟨D,A,E,(u:Int),⟨b⟩,R⟩ (([]:List (Ab×Nat)).map fun x=>(x.1,(x.2:Int)))=some ⟨D,A,E,((fin (b,u) []).2:Int),⟨(fin (b,u) []).1⟩,R+(([]:List (Ab×Nat)).length:Int)⟩:=by
   simp[jJ,fin]
  rw[rd]
  cases hq:recAt p a u n with
  |none=>exact stop
  |some q=>
   obtain⟨⟨g1,g2,g3⟩,g4⟩:=(aaB hb).1 hq
   simp only
   by_cases he:q.2.1<e
   ·rw[if_pos he];exact stop
   ·rw[if_neg he]
    cases dp:iQ b q.1 with
    |none=>exact stop
    |some b'=>
     obtain⟨v1,v2⟩:=aeE hv g1 dp
     obtain⟨i1,_,_,i4⟩:=qP dp
     have iJ:=dp
     unfold iQ at iJ
     split at iJ
     ·rename_i hc
      have bT:(eH b q.1).1=b':=oi iJ
      have hh:∀ r∈b,jC r:=fun r hr=>nT (sf r hr)
      simp only[List.map_cons,jJ]
      have fG:qT k ⟨D,A,E,(u:Int),⟨b⟩,R⟩ (q.1,((u+q.2.2:Nat):Int))=some ⟨D,A,E,((u+q.2.2:Nat):Int),⟨b'⟩,R+1⟩:=by
       unfold qT
       rw[abb hk (b:=⟨b⟩) hv.1 (show b.length<=900 by omega) hh,g1]
       simp only[Am,Ae,bT]
       rw[aU (by omega) (by omega)]
      rw[fG,Ae]
      rw[ih b' q.2.1 (u+q.2.2) (n+1) _ (R+1) v1 (fun r hr=>by
       rw[i1,ab5]at hr
       rcases hr with rfl|hr
       ·exact g1
       ·exact sf r hr) (by omega) (by omega) (by omega) rfl]
      have hf:fin (b,u) ((q.1,u+q.2.2)::rd p a m b' q.2.1 (u+q.2.2) (n+1))=fin (b',u+q.2.2) (rd p a m b' q.2.1 (u+q.2.2) (n+1)):=by
       unfold fin
       rw[List.foldl_cons,i1]
      rw[hf]
      simp only[AA]
      congr 2
      push_cast
      omega
     ·cases iJ
theorem ad5 (k:Nat) (e n:Int):tE k e n=some ⟨[104,IntKind.u8.wrap (Int.fdiv e (2 ^ 16)),IntKind.u8.wrap (Int.fdiv e (2 ^ 8)),IntKind.u8.wrap e,IntKind.u8.wrap (Int.fdiv n (2 ^ 8)),IntKind.u8.wrap n,
  0,0,0,0,0,0,0,0,0,0,0,0,0,0,0,0,0,0,0,0,0,0,0,0,0,165],rfl⟩:=rfl
def bR (e n:Int):Hf:=⟨[104,IntKind.u8.wrap (Int.fdiv e (2 ^ 16)),IntKind.u8.wrap (Int.fdiv e (2 ^ 8)),IntKind.u8.wrap e,IntKind.u8.wrap (Int.fdiv n (2 ^ 8)),IntKind.u8.wrap n,
  0,0,0,0,0,0,0,0,0,0,0,0,0,0,0,0,0,0,0,0,0,0,0,0,0,165],rfl⟩
def uP (p:List Pg) (a:Nat):List (Ab×Nat):=rd p a 100 [] (aM (hf p a 0)) 1 0
structure Ar where
 dQ:Int
 fk:List (Ab×Nat)
def Ar.book (x:Ar):List Ab:=(fin ([],1) x.fk).1
def Ar.used (x:Ar):Nat:=(fin ([],1) x.fk).2
def eu (p:List Pg) (a:Nat):Option Ar:=
 if aM (hf p a 0)≠0/\hf p a 0=bR (aM (hf p a 0)) (bp [bt (hf p a 0) 4,bt (hf p a 0) 5])/\bp [bt (hf p a 0) 4,bt (hf p a 0) 5]<=((uP p a).length:Int) then some ⟨aM (hf p a 0),uP p a⟩ else none
theorem aiZ {p:List Pg}{a:Nat}:∀ (m:Nat) (b:List Ab) (e:Int) (u n:Nat),(rd p a m b e u n).length<=m
 |0,_,_,_,_=>Be _
 |m+1,b,e,u,n=>by
  rw[rd]
  split
  ·exact Nat.zero_le _
  ·split
   ·exact Nat.zero_le _
   ·split
    ·exact Nat.zero_le _
    ·rw[AA]
     exact Nat.succ_le_succ (aiZ m _ _ _ _)
theorem ae1 {p:List Pg} (hb:Bv p) {a:Nat}:∀ (m m':Nat) (b:List Ab) (e:Int) (u n:Nat),61<=m+b.length->61<=m'+b.length->b.length<=60->rd p a m b e u n=rd p a m' b e u n
 |0,_,b,_,_,_,h1,_,h3=>by omega
 |_+1,0,b,_,_,_,_,h2,h3=>by omega
 |m+1,m'+1,b,e,u,n,h1,h2,h3=>by
  rw[rd,rd]
  cases hq:recAt p a u n with
  |none=>rfl
  |some q=>
   simp only
   by_cases he:q.2.1<e
   ·rw[if_pos he,if_pos he]
   ·rw[if_neg he,if_neg he]
    cases dp:iQ b q.1 with
    |none=>rfl
    |some b'=>
     obtain⟨i1,_,_,i4⟩:=qP dp
     have hl:b'.length=b.length+1:=by rw[i1,z8]
     simp only
     rw[ae1 hb m m' b' q.2.1 _ _ (by omega) (by omega) (by omega)]
theorem aqc {k:Nat} (hk:1000000<k) {p:List Pg} (hp:p.length=602) (hb:Bv p) (w:List Ao) {a:Nat} (ha:a<=1):
  ko k ⟨⟨p,w⟩⟩ (a:Int)=some ((uP p a).map fun x=>(x.1,(x.2:Int))):=by
 unfold ko
 have h0:=wo k hp w ha (show 0<602 by decide)
 rw[CY]at h0
 rw[h0]
 simp only[Ae,abC k (hb.hf a 0)]
 obtain⟨m,rfl⟩:∃ m,k=m+1:=⟨k - 1,by omega⟩
 have h1:=aqa hk hp hb w ha m [] (aM (hf p a 0)) 1 0 ⟨.nil,trivial⟩ (by simp) rfl (by decide) (by decide) (by omega)
 have h2:=ae1 hb (m+1) 100 [] (aM (hf p a 0)) 1 0 (by simp;omega) (by decide) (by decide) (a:=a)
 rw[h2]at h1
 exact h1
theorem aiP {k:Nat} (hk:1000000<k) {p:List Pg} (hp:p.length=602) (hb:Bv p) (w:List Ao) {a:Nat} (ha:a<=1):
  ∃ J ok,pT k ⟨⟨p,w⟩⟩ (a:Int)=some (J,ok)/\(match eu p a with|none=>ok=false|some q=>ok=true/\J.aV=(a:Int)/\J.dQ=q.dQ/\J.book=⟨q.book⟩/\J.used=(q.used:Int)):=by
 have h0:=wo k hp w ha (show 0<602 by decide)
 rw[CY]at h0
 have e4:(hf p a 0).at? 4=some (bt (hf p a 0) 4):=lS _ (i:=4) (by decide)
 have e5:(hf p a 0).at? 5=some (bt (hf p a 0) 5):=lS _ (i:=5) (by decide)
 have B4:=rC (hb.hf a 0) 4
 have B5:=rC (hb.hf a 0) 5
 unfold pT eu po
 rw[h0]
 simp only[Ae,abC k (hb.hf a 0),e4,e5,or2 B4 B5]
 by_cases he:aM (hf p a 0)=0
 ·simp only[AE he,AW,Ak]
  rw[if_neg (fun c=>c.1 he)]
  exact⟨_,_,rfl,rfl⟩
 ·simp only[AI he,Bs,Am,ad5,Ae]
  by_cases hh:hf p a 0=bR (aM (hf p a 0)) (bp [bt (hf p a 0) 4,bt (hf p a 0) 5])
  ·have hv:Aa.eq (fun(x y:Int)=>decide (x=y)) (hf p a 0) (bR (aM (hf p a 0)) (bp [bt (hf p a 0) 4,bt (hf p a 0) 5]))=true:=(rl _ _).2 hh
   unfold bR at hv
   simp only[hv,AW,Ak,aqc hk hp hb w ha,Ae]
   have ho:=apz hk hb (a:=a) (some ⟨⟨p,w⟩⟩) (a:Int) (aM (hf p a 0)) 100 [] (aM (hf p a 0)) 1 0 1 0 ⟨.nil,trivial⟩ (by simp) (by decide) (by decide) (by decide) rfl
   have hl:=aiZ (p:=p) (a:=a) 100 [] (aM (hf p a 0)) 1 0
   unfold sJ
   rw[show uP p a=rd p a 100 [] (aM (hf p a 0)) 1 0 from rfl,ho]
   simp only[Ae,Int.zero_add]
   refine⟨_,_,rfl,?_⟩
   by_cases hc:bp [bt (hf p a 0) 4,bt (hf p a 0) 5]<=((rd p a 100 [] (aM (hf p a 0)) 1 0).length:Int)
   ·rw[if_pos ⟨he,hh,hc⟩]
    exact⟨AE hc,rfl,rfl,rfl,rfl⟩
   ·rw[if_neg (fun c=>hc c.2.2)]
    exact AI hc
  ·have hv:Aa.eq (fun(x y:Int)=>decide (x=y)) (hf p a 0) (bR (aM (hf p a 0)) (bp [bt (hf p a 0) 4,bt (hf p a 0) 5]))=false:=by
    cases hq:Aa.eq (fun(x y:Int)=>decide (x=y)) (hf p a 0) (bR (aM (hf p a 0)) (bp [bt (hf p a 0) 4,bt (hf p a 0) 5])) with
    |false=>rfl
    |true=>exact absurd ((rl _ _).1 hq) hh
   unfold bR at hv
   simp only[hv,Bs,Am]
   rw[if_neg (fun c=>hh c.2.1)]
   exact⟨_,_,rfl,rfl⟩
def mr (p:List Pg):Option (Nat×Ar):=match eu p 0,eu p 1 with
 |some x,some y=>if x.dQ<y.dQ then some (1,y) else some (0,x)
 |some x,none=>some (0,x)
 |none,some y=>some (1,y)
 |none,none=>none
theorem ab3 {k:Nat} (hk:1000000<k) {p:List Pg} (hp:p.length=602) (hb:Bv p) (w:List Ao):
  ∃ J ok,vC k ⟨⟨p,w⟩⟩=some (J,ok)/\(match mr p with|none=>ok=false|some q=>ok=true/\J.aV=(q.1:Int)/\J.dQ=q.2.dQ/\J.book=⟨q.2.book⟩/\J.used=(q.2.used:Int)):=by
 obtain⟨J0,o0,h0,g0⟩:=aiP hk hp hb w (a:=0) (by decide)
 obtain⟨J1,o1,h1,g1⟩:=aiP hk hp hb w (a:=1) (by decide)
 have yL:pT k ⟨⟨p,w⟩⟩ 0=some (J0,o0):=h0
 have tY:pT k ⟨⟨p,w⟩⟩ 1=some (J1,o1):=h1
 unfold vC mr
 rw[yL,tY]
 simp only[Ae]
 cases hx:eu p 0 with
 |none=>
  rw[hx]at g0
  simp only at g0
  subst g0
  cases hy:eu p 1 with
  |none=>
   rw[hy]at g1
   simp only at g1
   subst g1
   exact⟨_,_,rfl,rfl⟩
  |some y=>
   rw[hy]at g1
   simp only at g1
   obtain⟨rfl,a2,a3,a4,a5⟩:=g1
   exact⟨_,_,rfl,rfl,a2,a3,a4,a5⟩
 |some x=>
  rw[hx]at g0
  simp only at g0
  obtain⟨rfl,b2,b3,b4,b5⟩:=g0
  cases hy:eu p 1 with
  |none=>
   rw[hy]at g1
   simp only at g1
   subst g1
   exact⟨_,_,rfl,rfl,b2,b3,b4,b5⟩
  |some y=>
   rw[hy]at g1
   simp only at g1
   obtain⟨rfl,a2,a3,a4,a5⟩:=g1
   simp only[Am,b3,a3]
   by_cases ae:x.dQ<y.dQ
   ·simp only[AE ae,Am,if_pos ae]
    exact⟨_,_,rfl,rfl,a2,a3,a4,a5⟩
   ·simp only[AI ae,Ak,if_neg ae]
    exact⟨_,_,rfl,rfl,b2,b3,b4,b5⟩
theorem am7 {k:Nat} (hk:1000000<k) {l:List Ab} (hl:l.length<=100000):fK k l l=some true:=by
 unfold fK
 simp only[Bw,AW,Ak]
 have h:=acK (l:=l) (body:=fK.b0 k l l) (p:=fun _=>true) (c:=false) (by omega) (k:=k) (by omega) (fun i x hx=>by
  have hi:=(gS.1 hx).1
  unfold fK.b0
  simp only[AE (show (i:Int)<(l.length:Int) by omega),Am,bA hx,Ae,Bw,BQ,beq_self_eq_true,AW,Ak]) (by
  unfold fK.b0
  simp only[(by simp:decide ((l.length:Int)<(l.length:Int))=false),Ak])
 rw[h]
 have:l.all (fun _=>true)=true:=by simp
 rw[this]
 rfl
theorem Bv.ak {w:List Ao} (hw:∀ x∈w,∀ h∈x.AH.l,AZ h.l):∀ {p:List Pg},Bv p->Bv (ak p w):=by
 induction w with
 |nil=>intro p h;exact h
 |cons x w ih=>
  intro p h
  refine ih (fun y hy=>hw y (by simp[hy])) (fun g hg=>?_)
  rcases List.mem_or_eq_of_mem_set hg with g1|rfl
  ·exact h g g1
  ·exact hw x (by simp)
structure DB (d:Ac):Prop where
 ok:jO d=true
 pb:Bv d.Af
 wb:∀ x∈d.Ad,∀ h∈x.AH.l,AZ h.l
theorem DB.new {d:Ac} (h:DB d):Bv (ak d.Af d.Ad):=Bv.ak h.wb h.pb
theorem DB.len {d:Ac} (h:DB d):(ak d.Af d.Ad).length=602:=by rw[ao5];exact(gD.1 h.ok).1
structure FL (d:Ac) (l:Aw) (q:Nat×Ar):Prop where
 ab1:mr (ak d.Af d.Ad)=some q
 le:q.1<=1
 aV:l.Bj=(q.1:Int)
 used:l.Used=(q.2.used:Int)
 book:l.Ah=⟨q.2.book⟩
 short:q.2.book.length<=60
 ep:1<=l.Ax/\l.Ax<=1000000
 m0:mx (ak d.Af d.Ad) 0 0<=l.Ax
 m1:mx (ak d.Af d.Ad) 1 0<=l.Ax
 mu:mx (ak d.Af d.Ad) q.1 q.2.used<l.Ax
theorem aj3 {x lo hi:Int} (h:lo<=x/\x<=hi):within x lo hi=true:=by unfold within;simp[h.1,h.2]
theorem amd {k:Nat} (hk:1000000<k) {d:Ac} (hd:DB d) {l:Aw}{q:Nat×Ar} (h:FL d l q):mJ k d l=some 0:=by
 obtain⟨J,ok,h1,h2⟩:=ab3 hk hd.len hd.new []
 rw[h.ab1]at h2
 simp only at h2
 obtain⟨rfl,ha,he,wu,hu⟩:=h2
 have E0:=oo hk hd.len hd.new [] (a:=0) (by decide) 0
 have E1:=oo hk hd.len hd.new [] (a:=1) (by decide) 0
 have E2:=oo hk hd.len hd.new [] h.le q.2.used
 have DO:dF k ⟨⟨ak d.Af d.Ad,[]⟩⟩ 0 0=some (mx (ak d.Af d.Ad) 0 0):=E0
 have DP:dF k ⟨⟨ak d.Af d.Ad,[]⟩⟩ 1 0=some (mx (ak d.Af d.Ad) 1 0):=E1
 have rZ:=h.m0
 have dp:=h.m1
 have hmu:=h.mu
 have hs:=h.short
 unfold mJ
 rw[qI hk,hd.ok]
 simp only[Ae,AW,Ak]
 rw[lV hd.ok]
 simp only[Ae]
 rw[pB hk hd.ok]
 simp only[Ae,h1,Am,h.aV,ha,hu,h.used,Bw,wu,h.book,am7 hk (show q.2.book.length<=100000 by omega),aaa,aj3 h.ep,AW,Ak,DO,DP]
 rw[AI (show ¬ l.Ax<max (mx (ak d.Af d.Ad) 0 0) (mx (ak d.Af d.Ad) 1 0) by omega)]
 simp only[Bs,Am,E2,Ae]
 rw[AI (show ¬ l.Ax<=mx (ak d.Af d.Ad) q.1 q.2.used by omega)]
 rfl
theorem apB {k:Nat} (hk:1000000<k) {d:Ac} (hd:DB d) {q:Nat×Ar} (h:mr (ak d.Af d.Ad)=some q) (hm:max (mx (ak d.Af d.Ad) 0 0) (mx (ak d.Af d.Ad) 1 0)<1000000):
  od k d=some (⟨ak d.Af d.Ad,[]⟩,⟨⟨q.2.book⟩,(q.1:Int),1+max (mx (ak d.Af d.Ad) 0 0) (mx (ak d.Af d.Ad) 1 0),(q.2.used:Int)⟩,0):=by
 obtain⟨J,ok,h1,h2⟩:=ab3 hk hd.len hd.new []
 rw[h]at h2
 simp only at h2
 obtain⟨rfl,ha,he,wu,hu⟩:=h2
 have DO:dF k ⟨⟨ak d.Af d.Ad,[]⟩⟩ 0 0=some (mx (ak d.Af d.Ad) 0 0):=oo hk hd.len hd.new [] (a:=0) (by decide) 0
 have DP:dF k ⟨⟨ak d.Af d.Ad,[]⟩⟩ 1 0=some (mx (ak d.Af d.Ad) 1 0):=oo hk hd.len hd.new [] (a:=1) (by decide) 0
 have n0:=xm (ak d.Af d.Ad) 0 0
 have n1:=xm (ak d.Af d.Ad) 1 0
 have hw:ab (1+max (mx (ak d.Af d.Ad) 0 0) (mx (ak d.Af d.Ad) 1 0))=1+max (mx (ak d.Af d.Ad) 0 0) (mx (ak d.Af d.Ad) 1 0):=aU (by omega) (by omega)
 unfold od
 rw[qI hk,hd.ok]
 simp only[Ae,AW,Ak]
 rw[lV hd.ok]
 simp only[Ae]
 rw[pB hk hd.ok]
 simp only[Ae,h1,AW,Ak,DO,DP,hw,wu,ha,hu]
 rw[AI (show ¬ (1000000:Int)<1+max (mx (ak d.Af d.Ad) 0 0) (mx (ak d.Af d.Ad) 1 0) by omega)]
 rfl
def ph (p:List Pg) (j s:Nat):Hf:=match p[j]? with
 |some g=>(g.l[s]?).getD hz
 |none=>hz
theorem anN (p:List Pg) (a i:Nat):hf p a i=ph p (301*a+i / 2) (i % 2):=rfl
def sd (g:Pg) (s:Nat):Hf:=(g.l[s]?).getD hz
theorem uN {p:List Pg}{j:Nat}{g:Pg} (h:p[j]?=some g) (s:Nat):ph p j s=sd g s:=by unfold ph;rw[h];rfl
theorem aiU {p:List Pg}{j:Nat} (hj:j<p.length) (g:Pg) (j' s:Nat):ph (p.set j g) j' s=if j'=j then sd g s else ph p j' s:=by
 by_cases e:j'=j
 ·subst e
  rw[if_pos rfl,uN (by rw[List.getElem?_set_self hj])]
 ·rw[if_neg e]
  unfold ph
  rw[List.getElem?_set_ne (Ne.symm e)]
theorem xC (g:Pg) {s:Nat} (hs:s<2) (x:Hf) (s':Nat):sd (g.set (s:Int) x) s'=if s'=s then x else sd g s':=by
 have hl:=g.h
 unfold sd Aa.set
 simp only[Cn]
 by_cases e:s'=s
 ·subst e
  rw[if_pos rfl,List.getElem?_set_self (by omega)];rfl
 ·rw[if_neg e,List.getElem?_set_ne (Ne.symm e)]
theorem s9 (g:Pg) {s:Nat} (hs:s<2):g.at? (s:Int)=some (sd g s):=by
 have:=acH g s
 rw[Nat.mod_eq_of_lt hs]at this
 exact this
def GO (kO new p:List Pg):Prop:=∀ j s,ph p j s=ph kO j s\/ph p j s=ph new j s
theorem acs {k:Nat}{p:List Pg} (hp:p.length=602) {w:Ao} (hw:0<=w.At/\w.At<=601) {s:Nat} (hs:s<2):
  ∃ g,at? p w.At=some g/\dM p w.At (g.set (s:Int) (sd w.AH s))=some (p.set w.At.toNat (g.set (s:Int) (sd w.AH s)))/\∀ j' s',ph (p.set w.At.toNat (g.set (s:Int) (sd w.AH s))) j' s'=if j'=w.At.toNat/\s'=s then sd w.AH s else ph p j' s':=by
 have hj:w.At.toNat<p.length:=by omega
 refine⟨p[w.At.toNat],?_,?_,fun j' s'=>?_⟩
 ·unfold at?
  rw[if_pos ⟨by omega,by omega⟩,gG hj]
 ·unfold dM
  rw[if_pos ⟨by omega,by omega⟩]
 ·rw[aiU hj,xC _ hs]
  by_cases e:j'=w.At.toNat
  ·subst e
   by_cases e2:s'=s
   ·rw[if_pos rfl,if_pos e2,if_pos ⟨rfl,e2⟩]
   ·rw[if_pos rfl,if_neg e2,if_neg (fun c=>e2 c.2),uN (gG hj)]
  ·rw[if_neg e,if_neg (fun c=>e c.1)]
def Part (p p':List Pg) (w:Ao):Prop:=p'.length=602/\∀ j s,ph p' j s=ph p j s\/(j=w.At.toNat/\ph p' j s=sd w.AH s)
theorem ajr {R:Type}{w:Ao} (hw:0<=w.At/\w.At<=601) {body:Int×List Pg->Option (AT (Int×List Pg) (List Pg) R)}{c:Nat->Bool}
  (h1:∀ (s:Nat) p,s<2->p.length=602->body ((s:Int),p)=bif c s then (w.AH.at? (s:Int)).bind fun x=>(at? p w.At).bind fun g=>(g.at? (s:Int)).bind fun _=>(dM p w.At (g.set (s:Int) x)).bind fun l=>some (.next (ab ((s:Int)+1),l)) else some (.next (ab ((s:Int)+1),p)))
  (h2:∀ p,body (2,p)=some (.brk p)) {p:List Pg} (hp:p.length=602) (m:Nat):∃ p',aj body (m+3) (0,p)=some (.brk p')/\Part p p' w:=by
 have w1:ab (((0:Nat):Int)+1)=((1:Nat):Int):=by decide
 have w2:ab (((1:Nat):Int)+1)=2:=by decide
 have one:∀ (s:Nat) (p:List Pg),s<2->p.length=602->∃ p',body ((s:Int),p)=some (.next (ab ((s:Int)+1),p'))/\Part p p' w:=by
  intro s p hs hp
  rw[h1 s p hs hp]
  cases c s with
  |false=>exact⟨p,rfl,hp,fun j s=>.inl rfl⟩
  |true=>
   obtain⟨g,g1,g3,g4⟩:=acs (k:=0) hp hw hs
   refine⟨p.set w.At.toNat (g.set (s:Int) (sd w.AH s)),?_,by rw[C5];exact hp,fun j s'=>?_⟩
   ·simp only[Am,s9 w.AH hs,s9 g hs,g1,g3,Ae]
   ·rw[g4]
    by_cases e:j=w.At.toNat/\s'=s
    ·rw[if_pos e];exact .inr ⟨e.1,by rw[e.2]⟩
    ·rw[if_neg e];exact .inl rfl
 obtain⟨p1,a1,b1,b2⟩:=one 0 p (by decide) hp
 obtain⟨p2,a2,c1,c2⟩:=one 1 p1 (by decide) b1
 rw[w1]at a1
 rw[w2]at a2
 refine⟨p2,?_,c1,fun j s=>?_⟩
 ·have a1':body (0,p)=some (.next (((1:Nat):Int),p1)):=a1
  simp only[aj,a1',a2,h2]
 ·rcases c2 j s with e|⟨e1,e2⟩
  ·rcases b2 j s with f|⟨f1,f2⟩
   ·exact .inl (e.trans f)
   ·exact .inr ⟨f1,e.trans f2⟩
  ·exact .inr ⟨e1,e2⟩
def pz:Pg:=Aa.rep 2 hz
def eV (p:List Pg) (a u:Nat) (l:List Hf):Nat->Nat->List Ao
 |0,_=>[]
 |f+1,i=>match l[i]? with
  |none=>[]
  |some x=>if (u+i) % 2=1 then ⟨((301*a+(u+i) / 2:Nat):Int),((p[301*a+(u+i) / 2]?).getD pz).set 1 x⟩::eV p a u l f (i+1) else match l[i+1]? with
   |none=>[⟨((301*a+(u+i) / 2:Nat):Int),((p[301*a+(u+i) / 2]?).getD pz).set 0 x⟩]
   |some y=>⟨((301*a+(u+i) / 2:Nat):Int),(((p[301*a+(u+i) / 2]?).getD pz).set 0 x).set 1 y⟩::eV p a u l f (i+2)
theorem arw {k:Nat} (hk:1000000<k) {p:List Pg} (hp:p.length=602) {a u:Nat} (ha:a<=1) {l:List Hf} (cH:u+l.length<=602):∀ (f i m:Nat) (ws:List Ao),l.length - i<=f->f<m->i<=l.length->ws.length+f<=100000->
  aj (bK.b0 k (a:Int) (u:Int) l ⟨⟨p,[]⟩⟩) m ((i:Int),ws)=some (.brk (ws++eV p a u l f i)):=by
 intro f
 induction f with
 |zero=>
  intro i m ws h1 h2 h3 h4
  obtain⟨m,rfl⟩:∃ q,m=q+1:=⟨m - 1,by omega⟩
  have hb:bK.b0 k (a:Int) (u:Int) l ⟨⟨p,[]⟩⟩ ((i:Int),ws)=some (.brk ws):=by
   unfold bK.b0
   simp only[AI (show ¬ (i:Int)<(l.length:Int) by omega),Ak]
  simp only[aj,hb,eV,List.append_nil]
 |succ f ih=>
  intro i m ws h1 h2 h3 h4
  obtain⟨m,rfl⟩:∃ q,m=q+1:=⟨m - 1,by omega⟩
  by_cases hi:i<l.length
  ·obtain⟨x,hx⟩:∃ x,l[i]?=some x:=⟨_,gG hi⟩
   have so:ab ((u:Int)+(i:Int))=((u+i:Nat):Int):=by rw[aU (by omega) (by omega)];omega
   have eo:ab ((i:Int)+1)=((i+1:Nat):Int):=by rw[aU (by omega) (by omega)];omega
   have zS:ab ((u:Int)+((i+1:Nat):Int))=((u+(i+1):Nat):Int):=by rw[aU (by omega) (by omega)];omega
   have hg:p[301*a+(u+i) / 2]?=some (p[301*a+(u+i) / 2]'(by omega)):=gG (by omega)
   obtain⟨g,bu⟩:∃ g,p[301*a+(u+i) / 2]?=some g:=⟨_,hg⟩
   have qC:=abd hp ha (show u+i<602 by omega)
   obtain⟨k',rfl⟩:∃ k',k=k'+2:=⟨k - 2,by omega⟩
   have zH:∀ v:Ao,fJ 72 ws v=some (ws++[v]):=fun v=>pq (by omega) (by omega)
   by_cases nI:(u+i) % 2=1
   ·have bC:bK.b1 (k'+2) (u:Int) l (g,(i:Int))=some (.brk (g.set 1 x,((i+1:Nat):Int))):=by
     unfold bK.b1
     have hm:Int.tmod ((u+i:Nat):Int) 2=((1:Nat):Int):=by rw[qO,nI]
     have dp:Int.tmod ((u+(i+1):Nat):Int) 2=0:=by rw[qO];omega
     simp only[bA hx,Ae,so,hm,s9 g (show 1<2 by decide),eo,zS,dp,Bw,Am]
     cases decide (((i+1:Nat):Int)=(l.length:Int))<;>rfl
    have hb:bK.b0 (k'+2) (a:Int) (u:Int) l ⟨⟨p,[]⟩⟩ ((i:Int),ws)=some (.next (((i+1:Nat):Int),ws++[⟨((301*a+(u+i) / 2:Nat):Int),g.set 1 x⟩])):=by
     unfold bK.b0
     simp only[AE (show (i:Int)<(l.length:Int) by omega),Am,so,qC,bA bu,Ae,aj,bC,zH]
    simp only[aj,hb]
    rw[ih (i+1) m _ (by omega) (by omega) (by omega) (by simp;omega)]
    rw[eV,hx]
    simp only[if_pos nI,bu,Option.getD_some]
    simp
   ·have hm:Int.tmod ((u+i:Nat):Int) 2=((0:Nat):Int):=by rw[qO];omega
    have dp:¬ Int.tmod ((u+(i+1):Nat):Int) 2=0:=by rw[qO];omega
    by_cases gm:i+1=l.length
    ·have bC:bK.b1 (k'+2) (u:Int) l (g,(i:Int))=some (.brk (g.set 0 x,((i+1:Nat):Int))):=by
      unfold bK.b1
      simp only[bA hx,Ae,so,hm,s9 g (show 0<2 by decide),eo,AE (show ((i+1:Nat):Int)=(l.length:Int) by omega),AW,Ak]
      rfl
     have hb:bK.b0 (k'+2) (a:Int) (u:Int) l ⟨⟨p,[]⟩⟩ ((i:Int),ws)=some (.next (((i+1:Nat):Int),ws++[⟨((301*a+(u+i) / 2:Nat):Int),g.set 0 x⟩])):=by
      unfold bK.b0
      simp only[AE (show (i:Int)<(l.length:Int) by omega),Am,so,qC,bA bu,Ae,aj,bC,zH]
     have hn:l[i+1]?=none:=CK (by omega)
     have qq:eV p a u l f (i+1)=[]:=by
      cases f with
      |zero=>rfl
      |succ f=>rw[eV,hn]
     simp only[aj,hb]
     rw[ih (i+1) m _ (by omega) (by omega) (by omega) (by simp;omega),qq]
     rw[eV,hx]
     simp only[if_neg nI,hn,bu,Option.getD_some]
     simp
    ·obtain⟨y,hy⟩:∃ y,l[i+1]?=some y:=⟨_,gG (by omega)⟩
     have jE:ab (((i+1:Nat):Int)+1)=((i+2:Nat):Int):=by rw[aU (by omega) (by omega)];omega
     have aog:ab ((u:Int)+((i+2:Nat):Int))=((u+(i+2):Nat):Int):=by rw[aU (by omega) (by omega)];omega
     have iJ:Int.tmod ((u+(i+1):Nat):Int) 2=((1:Nat):Int):=by rw[qO];omega
     have hm3:Int.tmod ((u+(i+2):Nat):Int) 2=0:=by rw[qO];omega
     have ad9:bK.b1 (k'+2) (u:Int) l (g,(i:Int))=some (.next (g.set 0 x,((i+1:Nat):Int))):=by
      unfold bK.b1
      simp only[bA hx,Ae,so,hm,s9 g (show 0<2 by decide),eo,AI (show ¬ ((i+1:Nat):Int)=(l.length:Int) by omega),Bs,Am,zS,AI dp,Ak]
      rfl
     have anR:bK.b1 (k'+2) (u:Int) l (g.set 0 x,((i+1:Nat):Int))=some (.brk ((g.set 0 x).set 1 y,((i+2:Nat):Int))):=by
      unfold bK.b1
      simp only[bA hy,Ae,zS,iJ,s9 (g.set 0 x) (show 1<2 by decide),jE,aog,hm3,Bw,Am]
      cases decide (((i+2:Nat):Int)=(l.length:Int))<;>rfl
     have hb:bK.b0 (k'+2) (a:Int) (u:Int) l ⟨⟨p,[]⟩⟩ ((i:Int),ws)=some (.next (((i+2:Nat):Int),ws++[⟨((301*a+(u+i) / 2:Nat):Int),(g.set 0 x).set 1 y⟩])):=by
      unfold bK.b0
      simp only[AE (show (i:Int)<(l.length:Int) by omega),Am,so,qC,bA bu,Ae,aj,ad9,anR,zH]
     simp only[aj,hb]
     rw[ih (i+2) m _ (by omega) (by omega) (by omega) (by simp;omega)]
     rw[eV,hx]
     simp only[if_neg nI,hy,bu,Option.getD_some]
     simp
  ·have hn:l[i]?=none:=CK (by omega)
   have hb:bK.b0 k (a:Int) (u:Int) l ⟨⟨p,[]⟩⟩ ((i:Int),ws)=some (.brk ws):=by
    unfold bK.b0
    simp only[AI (show ¬ (i:Int)<(l.length:Int) by omega),Ak]
   simp only[aj,hb]
   rw[eV,hn]
   simp
abbrev abX (a u i n j s:Nat):Prop:=301*a<=j/\j<301*a+301/\u+i<=2*(j - 301*a)+s/\2*(j - 301*a)+s<u+n
def tg (p:List Pg) (a u:Nat) (l:List Hf) (i j s:Nat):Hf:=if abX a u i l.length j s then (l[2*(j - 301*a)+s - u]?).getD hz else ph p j s
theorem xP (p:List Pg) (a u:Nat) (l:List Hf):∀ f i,(eV p a u l f i).length<=l.length - i
 |0,i=>by simp[eV]
 |f+1,i=>by
  rw[eV]
  cases hx:l[i]? with
  |none=>simp
  |some x=>
   have hi:=(gS.1 hx).1
   simp only
   split
   ·have:=xP p a u l f (i+1)
    rw[AA];omega
   ·cases hy:l[i+1]? with
    |none=>simp;omega
    |some y=>
     have hi1:=(gS.1 hy).1
     have:=xP p a u l f (i+2)
     simp only[AA];omega
theorem afq {p:List Pg} (hp:p.length=602) {a u:Nat} (ha:a<=1) {l:List Hf} (cH:u+l.length<=602):∀ f i,((u+i) % 2=1->i=0)->∀ w∈eV p a u l f i,(0<=w.At/\w.At<=601)/\∀ s,s<2->sd w.AH s=tg p a u l 0 w.At.toNat s
 |0,i,_,w,hw=>by simp[eV]at hw
 |f+1,i,ho,w,hw=>by
  rw[eV]at hw
  cases hx:l[i]? with
  |none=>rw[hx]at hw;simp at hw
  |some x=>
   have hi:=(gS.1 hx).1
   have hg:p[301*a+(u+i) / 2]?=some (p[301*a+(u+i) / 2]'(by omega)):=gG (by omega)
   obtain⟨g,bu⟩:∃ g,p[301*a+(u+i) / 2]?=some g:=⟨_,hg⟩
   rw[hx]at hw
   simp only[bu,Option.getD_some]at hw
   split at hw
   ·rename_i nI
    rcases BE.1 hw with rfl|hw
    ·refine⟨by simp only;omega,fun s hs=>?_⟩
     simp only[Cn]
     rw[show (1:Int)=((1:Nat):Int) from rfl,xC g (show 1<2 by decide)]
     have h0:=ho nI
     unfold tg abX
     by_cases e:s=1
     ·rw[if_pos e,if_pos (by omega),show 2*(301*a+(u+i) / 2 - 301*a)+s - u=i by omega,hx];rfl
     ·rw[if_neg e,if_neg (by omega),uN bu]
    ·exact afq hp ha cH f (i+1) (by omega) w hw
   ·rename_i wM
    cases hy:l[i+1]? with
    |none=>
     have hi1:l.length<=i+1:=List.getElem?_eq_none_iff.1 hy
     rw[hy]at hw
     simp only[CG]at hw
     subst hw
     refine⟨by simp only;omega,fun s hs=>?_⟩
     simp only[Cn]
     rw[show (0:Int)=((0:Nat):Int) from rfl,xC g (show 0<2 by decide)]
     unfold tg abX
     by_cases e:s=0
     ·rw[if_pos e,if_pos (by omega),show 2*(301*a+(u+i) / 2 - 301*a)+s - u=i by omega,hx];rfl
     ·rw[if_neg e,if_neg (by omega),uN bu]
    |some y=>
     have hi1:=(gS.1 hy).1
     rw[hy]at hw
     simp only at hw
     rcases BE.1 hw with rfl|hw
     ·refine⟨by simp only;omega,fun s hs=>?_⟩
      simp only[Cn]
      rw[show (1:Int)=((1:Nat):Int) from rfl,xC _ (show 1<2 by decide),show (0:Int)=((0:Nat):Int) from rfl,xC g (show 0<2 by decide)]
      unfold tg abX
      by_cases e:s=1
      ·rw[if_pos e,if_pos (by omega),show 2*(301*a+(u+i) / 2 - 301*a)+s - u=i+1 by omega,hy];rfl
      ·rw[if_neg e,if_pos (by omega),if_pos (by omega),show 2*(301*a+(u+i) / 2 - 301*a)+s - u=i by omega,hx];rfl
     ·exact afq hp ha cH f (i+2) (by omega) w hw
theorem afp {k:Nat} (hk:1000000<k) {d:Ac} (hd:DB d) {a u:Nat} (ha:a<=1) {l:List Hf} (cH:u+l.length<=602):
  bK k ⟨d⟩ (a:Int) (u:Int) l=some ⟨⟨d.Af,d.Ad++eV (ak d.Af d.Ad) a u l l.length 0⟩⟩:=by
 obtain⟨h1,h2,h3⟩:=gD.1 hd.ok
 unfold bK
 simp only
 rw[lV hd.ok]
 simp only[Ae]
 rw[pB hk hd.ok]
 simp only[Ae]
 have:=arw hk hd.len ha cH l.length 0 k d.Ad (by omega) (by omega) (by omega) (by omega)
 rw[CY]at this
 rw[this]
 rfl
theorem alz {k:Nat} (hk:1000000<k) {d:Ac} (hd:DB d) {l:Aw}{q:Nat×Ar} (hL:FL d l q) {r:Ab} (hr:dg r=true) (hs:CI ag l.Ah.Aj) (hh:∀ x∈l.Ah.Aj,jC x) (ha:eH l.Ah.Aj r=(l.Ah.Aj,0)):
  mI k d l r=some (d,l,0):=by
 have fc:l.Ah.Aj.length<=60:=by rw[hL.book];exact hL.short
 unfold mI
 rw[amd hk hd hL]
 simp only[Ae,Bw,AW,Ak]
 rw[abb hk (b:=l.Ah) hs (show l.Ah.Aj.length<=900 by omega) hh,hr,ha]
 simp only[Am,Ae,Bw,AW,Ak]
 rw[lV hd.ok]
 simp only[Ae]
 unfold ry
 rw[abr (show l.Ah.Aj.length<=1000 by omega)]
 simp only[Ae,Bw,Am]
def gY:List Pg:=(List.replicate 602 pz).set 0 (pz.set 0 (bR 1 0))
theorem ape (k:Nat):vz k=some (⟨gY,[]⟩,⟨⟨[]⟩,0,1,1⟩):=by
 have hm:kM 602 64 ((Aa.rep 2 ((Aa.rep 32 (0:Int)):(Aa 32 Int))):(Aa 2 (Aa 32 Int)))=some (List.replicate 602 pz):=by
  unfold kM mk?
  rw[if_pos (by decide)]
  rfl
 have hl:(List.replicate 602 pz).length=602:=CP
 have h0:(List.replicate 602 pz)[0]?=some pz:=by rw[List.getElem?_replicate];rfl
 have ha:at? (List.replicate 602 pz) 0=some pz:=bA h0
 have hp0:pz.at? 0=some hz:=rfl
 unfold vz
 rw[hm]
 simp only[Ae,ad5,ha,hp0]
 unfold dM
 rw[if_pos (by rw[hl];decide)]
 rfl
def I5 (p q:List Pg) (a:Nat):Prop:=∀ i,i<602->hf p a i=hf q a i
theorem al1 (e n:Int):bt (bR e n) 0=104/\bt (bR e n) 1=IntKind.u8.wrap (Int.fdiv e (2 ^ 16))/\bt (bR e n) 2=IntKind.u8.wrap (Int.fdiv e (2 ^ 8))/\bt (bR e n) 3=IntKind.u8.wrap e/\bt (bR e n) 4=IntKind.u8.wrap (Int.fdiv n (2 ^ 8))/\bt (bR e n) 5=IntKind.u8.wrap n/\bt (bR e n) 31=165:=
 ⟨rfl,rfl,rfl,rfl,rfl,rfl,rfl⟩
theorem am2 {e:Int} (he:1<=e/\e<=1000000) (n:Int):aM (bR e n)=e:=by
 obtain⟨h0,h1,h2,h3,_,_,yN⟩:=al1 e n
 have hr:bp [bt (bR e n) 1,bt (bR e n) 2,bt (bR e n) 3]=e:=by
  rw[h1,h2,h3,<-n8,rd3 (by omega) (by omega)]
 unfold aM
 rw[hr,if_pos ⟨.inl h0,yN,he.2⟩]
theorem abB:aM hz=0:=by decide +kernel
def nW (log:List Ab):Nat:=1+(log.map fun r=>bB (enc r).length).sum
def aij (e0:Int) (ep:Nat->Int):Nat->Int
 |0=>e0
 |j+1=>ep j
structure EZ (log:List Ab):Prop where
 ok:∀ r∈log,dg r=true
 vl:VL ag (fun _=>0) log
 len:log.length<=50
theorem EZ.no {log:List Ab} (h:EZ log) {j:Nat}{r:Ab} (hx:log[j]?=some r):(ag r).2=aA ag (log.take j) (ag r).1:=by
 rw[(HY ag).1 h.vl j r hx];exact Int.zero_add _
structure Jr (d:Ac) (l:Aw) (log:List Ab) (mO:Nat) (a:Nat) (e0 c:Int) (ep:Nat->Int):Prop where
 db:DB d
 a1:a<=1
 arZ:EZ log
 arV:mO<=log.length
 aV:l.Bj=(a:Int)
 book:l.Ah=⟨bk ag [] log⟩
 used:l.Used=(nW log:Int)
 epo:1<=l.Ax/\l.Ax<=1000000
 he0:1<=e0/\e0<=1000000
 hc:0<=c/\c<=mO
 ar7:hf (ak d.Af d.Ad) a 0=bR e0 c
 ar8:hf d.Af a 0=bR e0 c
 fk:∀ j r,log[j]?=some r->DT (ak d.Af d.Ad) a (nW (log.take j)) j r (ep j)
 mono:∀ j,j<log.length->aij e0 ep j<=ep j
 late:∀ j,mO<=j->j<log.length->ep j=l.Ax
 bound:∀ b i,b<=1->i<602->aM (hf (ak d.Af d.Ad) b i)<=l.Ax/\aM (hf d.Af b i)<=l.Ax
 free:∀ i,nW log<=i->i<602->aM (hf (ak d.Af d.Ad) a i)<l.Ax/\hf d.Af a i=hf (ak d.Af d.Ad) a i
 arW:∀ i,i<nW (log.take mO)->hf d.Af a i=hf (ak d.Af d.Ad) a i
 soft:∀ i,nW (log.take mO)<=i->i<nW log->aM (hf (ak d.Af d.Ad) a i)=l.Ax/\aM (hf d.Af a i)<l.Ax
 other:I5 d.Af (ak d.Af d.Ad) (1 - a)
 pick:∀ y,eu (ak d.Af d.Ad) (1 - a)=some y->if a=0 then y.dQ<=e0 else y.dQ<e0
 stop:∀ r e,DT d.Af a (nW (log.take mO)) mO r e->aij e0 ep mO<=e->iQ (bk ag [] (log.take mO)) r=none
 waits:∀ w∈d.Ad,∀ s,sd w.AH s=ph d.Af w.At.toNat s\/sd w.AH s=ph (ak d.Af d.Ad) w.At.toNat s
 asw:d.Ad.length<=10*log.length
section
variable {d:Ac}{l:Aw}{log:List Ab}{mO a:Nat}{e0 c:Int}{ep:Nat->Int}
theorem DT.ep0 {p:List Pg}{a f n:Nat}{r:Ab}{e:Int} (h:DT p a f n r e) {i:Nat} (hi:i<(cq r n e).length):aM (hf p a (f+i))=e:=by
 obtain⟨x,hx⟩:∃ x,(cq r n e)[i]?=some x:=⟨_,gG hi⟩
 rw[h.run.2 i x hx,ant hx]
 exact adC h.ep _ _ _ _
theorem DT.at0 {p:List Pg}{a f n:Nat}{r:Ab}{e:Int} (h:DT p a f n r e):aM (hf p a f)=e:=by
 have:=h.ep0 (i:=0) (by rw[lq];exact vM r)
 simpa using this
end
section
variable {d:Ac}{l:Aw}{log:List Ab}{mO a:Nat}{e0 c:Int}{ep:Nat->Int}
theorem DB.sync {d:Ac} (h:DB d):DB ⟨ak d.Af d.Ad,[]⟩:=by
 refine⟨gD.2 ⟨h.len,by simp,by simp⟩,h.new,by simp⟩
theorem sG (p:List Pg):ak p []=p:=rfl
theorem GO.pb {kO new p:List Pg} (h:GO kO new p) (ho:Bv kO) (hn:Bv new):Bv p:=by
 have one:∀ (q:List Pg),Bv q->∀ j s,AZ (ph q j s).l:=fun q hq j s=>by
  have ss:AZ hz.l:=by
   intro y hy
   have:y=0:=by
    simp only[hz,Aa.rep,List.mem_replicate]at hy
    exact hy.2
   omega
  unfold ph
  cases hg:q[j]? with
  |none=>exact ss
  |some g=>
   simp only
   cases hx:g.l[s]? with
   |none=>exact ss
   |some x=>exact hq g (AU hg) x (AU hx)
 intro g hg x hx
 obtain⟨j,hj⟩:=BF.1 hg
 obtain⟨s,hs⟩:=BF.1 hx
 have e:ph p j s=x:=by rw[uN hj];unfold sd;rw[hs];rfl
 rcases h j s with g1|g1
 ·rw[<-e,g1];exact one kO ho j s
 ·rw[<-e,g1];exact one new hn j s
end
theorem zf (b i:Nat) (hb:b<=1) (hi:i<602):hf gY b i=if b=0/\i=0 then bR 1 0 else hz:=by
 have hl:(List.replicate 602 pz).length=602:=CP
 rw[anN]
 unfold gY
 rw[aiU (by rw[hl];decide),show (0:Int)=((0:Nat):Int) from rfl,xC pz (show 0<2 by decide)]
 have hpz:∀ s,s<2->sd pz s=hz:=fun s hs=>by
  have:s=0\/s=1:=by omega
  rcases this with rfl|rfl<;>rfl
 by_cases h1:301*b+i / 2=0
 ·rw[if_pos h1]
  by_cases h2:i % 2=0
  ·rw[if_pos h2,if_pos (by omega)]
  ·rw[if_neg h2,if_neg (by omega),hpz _ (by omega)]
 ·rw[if_neg h1,if_neg (by omega),uN (g:=pz) (by rw[List.getElem?_replicate,if_pos (by omega)]),hpz _ (by omega)]
theorem apd:DB ⟨gY,[]⟩:=by
 have hz0:AZ hz.l:=by
  intro y hy
  have:y=0:=by
   simp only[hz,Aa.rep,List.mem_replicate]at hy
   exact hy.2
  omega
 have hh:AZ (bR 1 0).l:=by
  unfold AZ;decide
 refine⟨gD.2 ⟨by unfold gY;rw[C5];exact CP,by simp,by simp⟩,fun g hg x hx=>?_,by simp⟩
 simp only[gY]at hg
 rcases List.mem_or_eq_of_mem_set hg with g1|rfl
 ·rw[List.mem_replicate]at g1
  rw[g1.2]at hx
  have:x=hz:=by
   simp only[pz,Aa.rep,List.mem_replicate]at hx
   exact hx.2
  rw[this];exact hz0
 ·have:x=bR 1 0\/x=hz:=by
   simp only[pz,Aa.rep,Aa.set,Int.toNat_zero,List.replicate,List.set_cons_zero,BE,List.not_mem_nil,or_false]at hx
   exact hx
  rcases this with rfl|rfl
  ·exact hh
  ·exact hz0
theorem Jr.new:Jr ⟨gY,[]⟩ ⟨⟨[]⟩,0,1,1⟩ [] 0 0 1 0 (fun _=>1):=by
 have hhd:hf gY 0 0=bR 1 0:=by rw[zf 0 0 (by decide) (by decide),if_pos ⟨rfl,rfl⟩]
 have hE:∀ b i,b<=1->i<602->aM (hf gY b i)<=1:=fun b i hb hi=>by
  rw[zf b i hb hi]
  split
  ·rw[am2 ⟨by decide,by decide⟩];decide
  ·rw[abB];decide
 refine⟨apd,by decide,⟨by simp,trivial,by simp⟩,Be _,rfl,rfl,rfl,⟨by decide,by decide⟩,⟨by decide,by decide⟩,⟨by decide,by decide⟩,hhd,hhd,by simp,by simp,by simp,fun b i hb hi=>⟨hE b i hb hi,hE b i hb hi⟩,fun i h1 h2=>⟨?_,rfl⟩,fun i _=>rfl,fun i h1 h2=>?_,fun i _=>rfl,fun y hy=>?_,fun r e hr he=>?_,by simp,by simp⟩
 ·show aM (hf gY 0 i)<1
  have:1<=i:=h1
  rw[zf 0 i (by decide) h2,if_neg (by omega),abB];decide
 ·have e1:nW (([]:List Ab).take 0)=1:=rfl
  have e2:nW ([]:List Ab)=1:=rfl
  omega
 ·exfalso
  have h0:eu gY 1=some y:=hy
  unfold eu at h0
  have e1:hf gY 1 0=hz:=by rw[zf 1 0 (by decide) (by decide),if_neg (by decide)]
  rw[e1,abB,if_neg (fun c=>c.1 rfl)]at h0
  cases h0
 ·exfalso
  have h1:=hr.at0
  have e1:nW (([]:List Ab).take 0)=1:=rfl
  have h2:hf (Ac.mk gY []).Af 0 (nW (([]:List Ab).take 0))=hf gY 0 1:=rfl
  rw[h2,zf 0 1 (by decide) (by decide),if_neg (by omega),abB]at h1
  have:=hr.ep.1
  omega
theorem yX (k:Nat) {p:List Pg} (hp:p.length=602) {a i:Nat} (ha:a<=1) (hi:i<602):Dt k p (a:Int) (i:Int)=some (hf p a i):=by
 unfold Dt hf
 have e:(301:Int)*(a:Int)=(a:Int)*301:=Int.mul_comm _ _
 have hx:p[301*a+i / 2]?=some (p[301*a+i / 2]'(by omega)):=gG (by omega)
 rw[e]
 simp only[abd hp ha hi,bA hx,Ae,qO,acH,hx]
theorem agG (h:Hf):∀ (n i:Nat),i+n<=32->(h.l.drop i).take n=(List.range' i n).map (bt h)
 |0,i,_=>by simp
 |n+1,i,hi=>by
  have hl:=h.h
  have hx:i<h.l.length:=by omega
  rw[List.drop_eq_getElem_cons hx,List.take_succ_cons,agG h n (i+1) (by omega),List.range'_succ,List.map_cons]
  congr 1
  unfold bt
  rw[gG hx];rfl
theorem ai4 {k:Nat} (hk:100<k) {h:Hf} (hb:AZ h.l) {n i:Nat} (hn:n<=5) (hi:i+n<=32):BM k ((h.l.drop i).take n)=some (bp ((List.range' i n).map (bt h))):=by
 rw[ae2 hk ((hb.drop i).take n) (by rw[Ba];omega),agG h n i hi]
theorem adD {k:Nat} (hk:100<k) {h:Hf} (hb:AZ h.l):DZ k h=some (aM h):=by
 have e0:h.at? 0=some (bt h 0):=lS h (i:=0) (by decide)
 have yu:h.at? 31=some (bt h 31):=lS h (i:=31) (by decide)
 have e3:(List.range' 1 3).map (bt h)=[bt h 1,bt h 2,bt h 3]:=rfl
 unfold DZ aM
 rw[ai4 hk hb (n:=3) (i:=1) (by decide) (by decide),e3]
 simp only[e0,yu,Ae]
 by_cases a:bt h 0=104
 ·by_cases c:bt h 31=165
  ·by_cases d:(1000000:Int)<bp [bt h 1,bt h 2,bt h 3]
   ·simp[a,c,d,show ¬ bp [bt h 1,bt h 2,bt h 3]<=1000000 by omega]
   ·simp[a,c,d,show bp [bt h 1,bt h 2,bt h 3]<=1000000 by omega]
  ·simp[a,c]
 ·by_cases b:bt h 0=112
  ·by_cases c:bt h 31=165
   ·by_cases d:(1000000:Int)<bp [bt h 1,bt h 2,bt h 3]
    ·simp[b,c,d,show ¬ bp [bt h 1,bt h 2,bt h 3]<=1000000 by omega]
    ·simp[b,c,d,show bp [bt h 1,bt h 2,bt h 3]<=1000000 by omega]
   ·simp[b,c]
  ·simp[a,b]
theorem sA {k:Nat} (hk:1000000<k) {d:Ac} (h:jO d=true):B7 k d=some true:=by
 obtain⟨h1,h2,h3⟩:=gD.1 h
 unfold B7
 simp only[AE (show (d.Af.length:Int)=602 by omega),Am,AI (show ¬ (1200:Int)<(d.Ad.length:Int) by omega),Ak]
 have hw:=acK (l:=d.Ad) (body:=B7.b0 k d) (p:=fun _=>true) (c:=false) (by omega) (k:=k) (by omega) (fun i x hx=>by
  have hi:=(gS.1 hx).1
  unfold B7.b0
  simp only[AE (show (i:Int)<(d.Ad.length:Int) by omega),Am,bA hx,Ae,z7,aj3 (h3 x (AU hx)),AW,Ak]) (by
  unfold B7.b0
  simp only[(by simp:decide ((d.Ad.length:Int)<(d.Ad.length:Int))=false),Ak])
 rw[hw]
 have:d.Ad.all (fun _=>true)=true:=by simp
 rw[this];rfl
theorem aiy {R:Type}{k:Nat} (hk:1000000<k) {d:Ac} (h:jO d=true) {body:Int×List Pg->Option (AT (Int×List Pg) (List Pg) R)}
  (hb:∀ (i:Int) (s:List Pg),body (i,s)=bif decide (i<(d.Ad.length:Int)) then (at? d.Ad i).bind fun x6=>(at? s x6.At).bind fun _=>(dM s x6.At x6.AH).bind fun l8=>some (.next (ab (i+1),l8)) else some (.brk s)):
  aj body k (0,d.Af)=some (.brk (ak d.Af d.Ad)):=by
 obtain⟨h1,h2,h3⟩:=gD.1 h
 have hf:=pF (l:=d.Ad) (body:=body) (fun i s=>(i,s)) (fun p x=>p.set x.At.toNat x.AH) (fun i s=>s.length=602) (by omega) (k:=k) (by omega) (s0:=d.Af) h1 (fun i x s hx hs=>by
  have hi:=(gS.1 hx).1
  have hbd:=h3 x (AU hx)
  refine⟨?_,by simp[hs]⟩
  have ha:at? s x.At=some (s[x.At.toNat]'(by omega)):=by
   unfold at?
   rw[if_pos ⟨by omega,by omega⟩,gG (by omega)]
  have eP:dM s x.At x.AH=some (s.set x.At.toNat x.AH):=by
   unfold dM
   rw[if_pos ⟨by omega,by omega⟩]
  rw[hb]
  simp only[AE (show (i:Int)<(d.Ad.length:Int) by omega),Am,bA hx,Ae,ha,eP]) (fun s hs=>by
  rw[hb]
  simp only[(by simp:decide ((d.Ad.length:Int)<(d.Ad.length:Int))=false),Ak])
 exact hf.1
theorem ae5 {d:Ac} (h:jO d=true):fo d.Af.length 64=some ()/\fo d.Ad.length 72=some ():=by
 obtain⟨h1,h2,_⟩:=gD.1 h
 unfold fo
 exact⟨by rw[if_pos ⟨by omega,by omega⟩],by rw[if_pos ⟨by omega,by omega⟩]⟩
theorem sM {k:Nat} (hk:1000000<k) {d:Ac} (h:jO d=true):Cq k d=some (ak d.Af d.Ad)/\Cy k d=some (ak d.Af d.Ad):=by
 obtain⟨r1,r2⟩:=ae5 h
 unfold Cq Cy
 rw[r1]
 simp only[Ae]
 rw[aiy hk h (body:=Cq.b0 k d) (fun i s=>rfl),aiy hk h (body:=Cy.b0 k d) (fun i s=>rfl)]
 exact⟨rfl,rfl⟩
theorem agD (k:Nat) {d:Ac} (h:jO d=true):DY k d=some d/\E5 k d=some d:=by
 obtain⟨r1,r2⟩:=ae5 h
 unfold DY E5
 rw[r1,r2]
 exact⟨rfl,rfl⟩
theorem uV {k:Nat} (hk:1000000<k) {d:Ac} (h:jO d=true):DI k d=some ⟨ak d.Af d.Ad,[]⟩:=by
 unfold DI
 rw[sA hk h]
 simp only[Ae,AW,Ak,(sM hk h).1]
theorem tX {k:Nat} (hk:1000000<k) {p:List Pg} (hp:p.length=602) (hb:Bv p) {a:Nat} (ha:a<=1) (from_:Nat):BJ k p (a:Int) (from_:Int)=some (mx p a from_):=by
 unfold BJ mx
 have key:∀ (d i m:Nat) (z:Int),602 - i=d->d<m->aj (BJ.b0 k p (a:Int)) m (z,(i:Int))=some (.brk ((List.range' i d).foldl (fun m i=>max m (aM (hf p a i))) z)):=by
  intro d
  induction d with
  |zero=>
   intro i m z h1 h2
   obtain⟨m,rfl⟩:∃ q,m=q+1:=⟨m - 1,by omega⟩
   have uc:BJ.b0 k p (a:Int) (z,(i:Int))=some (.brk z):=by
    unfold BJ.b0
    simp only[AI (show ¬ (i:Int)<602 by omega),Ak]
   simp only[aj,uc]
   rfl
  |succ d ih=>
   intro i m z h1 h2
   obtain⟨m,rfl⟩:∃ q,m=q+1:=⟨m - 1,by omega⟩
   have hw:ab ((i:Int)+1)=((i+1:Nat):Int):=by rw[aU (by omega) (by omega)];omega
   have uc:BJ.b0 k p (a:Int) (z,(i:Int))=some (.next (max z (aM (hf p a i)),((i+1:Nat):Int))):=by
    unfold BJ.b0
    simp only[AE (show (i:Int)<602 by omega),Am,yX k hp ha (show i<602 by omega),Ae,adD (show 100<k by omega) (hb.hf a i),hw]
   simp only[aj,uc]
   rw[List.range'_succ,List.foldl_cons]
   exact ih (i+1) m _ (by omega) (by omega)
 have:=key (602 - from_) from_ k 0 rfl (by omega)
 rw[this]
 rfl
theorem amA {b:List Int} (hb:AZ b) {r:Ab}{l:List Int} (h:gQ b=some (r,l)):gQ (b.take (16+(cn b).toNat))=some (r,[])/\16<=b.length/\(16:Int)+cn b<=(b.length:Int):=by
 unfold gQ at h
 split at h
 ·cases h
 rename_i jy
 split at h
 ·cases h
 rename_i ae
 simp only[oE,Prod.mk.injEq]at h
 obtain⟨rfl,rfl⟩:=h
 have hm:=(ae0 ((hb.drop 15).take 1)).1
 have rZ:0<=cn b:=hm
 obtain⟨m,e⟩:=Int.eq_ofNat_of_zero_le rZ
 have em:(cn b).toNat=m:=by rw[e];rfl
 have T:∀ i n,i+n<=16->((b.take (16+m)).drop i).take n=(b.drop i).take n:=fun i n hi=>by
  rw[List.drop_take,List.take_take,Nat.min_eq_left (by omega)]
 have T0:(b.take (16+m)).take 1=b.take 1:=by rw[List.take_take,Nat.min_eq_left (by omega)]
 have hM:cn (b.take (16+m))=cn b:=by
  unfold cn;rw[T 15 1 (by omega)]
 have hlen:(b.take (16+m)).length=16+m:=by rw[Ba];omega
 refine⟨?_,by omega,by omega⟩
 rw[em]
 unfold gQ
 rw[if_neg (by omega),hM,if_neg (by rw[hlen];omega),em]
 have htx:((b.take (16+m)).drop 16).take m=(b.drop 16).take m:=by
  rw[List.drop_take,List.take_take,Nat.min_eq_left (by omega)]
 have uv:((b.take (16+m)).drop 16).drop m=[]:=DE (by rw[Bp,hlen];omega)
 rw[htx,uv]
 unfold yp
 rw[T0,T 1 2 (by omega),T 3 1 (by omega),T 4 4 (by omega),T 8 4 (by omega),T 12 1 (by omega),T 13 2 (by omega)]
theorem ai6 {p:List Pg} (hb:Bv p) {a f n:Nat}{q:Ab×Int×Nat} (h:recAt p a f n=some q):bt (hf p a f) 0=112/\bt (hf p a f) 7=(q.2.2:Int)/\0<q.2.2/\aM (hf p a f)=q.2.1:=by
 obtain⟨h1,h2⟩:=(aaB hb).1 h
 have h0:=h1.run.2 0 _ (ahI q.1 n q.2.1)
 rw[Nat.add_zero]at h0
 obtain⟨b0,_,_,_,_,_⟩:=adh q.2.1 n (bB (enc q.1).length) (enc q.1) 0
 have hc:=vK h1.ok
 have hp:=vM q.1
 rw[h0]
 refine⟨b0,?_,by rw[h2,lq];exact hp,adC h1.ep _ _ _ _⟩
 rw[agh (by omega),h2,lq]
theorem aph {k:Nat} (hk:1000000<k) {p:List Pg} (hp:p.length=602) (hb:Bv p) {a:Nat} (ha:a<=1) (f n:Nat) (qt:f<=100000) (hn:n<60):
  BB k p (a:Int) (f:Int) (n:Int)=some (match recAt p a f n with|some q=>(q.1,(q.2.2:Int),q.2.1,true)|none=>(nU,0,0,false)):=by
 have aak:recAt p a f n=none->∀ x,x=some (nU,(0:Int),(0:Int),false)->x=some (match recAt p a f n with|some q=>(q.1,(q.2.2:Int),q.2.1,true)|none=>(nU,0,0,false)):=fun h x hx=>by rw[h,hx]
 unfold BB
 by_cases h1:602<=f
 ·have:recAt p a f n=none:=by unfold recAt;rw[if_pos h1]
  refine aak this _ ?_
  simp only[AE (show (602:Int)<=(f:Int) by omega),AW,Ak]
  rfl
 ·have fT:=rC (hb.hf a f) 7
  obtain⟨m,hm⟩:=Int.eq_ofNat_of_zero_le fT.1
  have hmN:(bt (hf p a f) 7).toNat=m:=by rw[hm];rfl
  have e7:(hf p a f).at? 7=some (m:Int):=by have:=lS (hf p a f) (i:=7) (by decide);rw[hm]at this;exact this
  have e0:(hf p a f).at? 0=some (bt (hf p a f) 0):=lS _ (i:=0) (by decide)
  have wm:ab (m:Int)=(m:Int):=aU (by omega) (by omega)
  have wfm:ab ((f:Int)+(m:Int))=((f+m:Nat):Int):=by rw[aU (by omega) (by omega)];omega
  simp only[AI (show ¬ (602:Int)<=(f:Int) by omega),Bs,Am,AI (show ¬ (60:Int)<=(n:Int) by omega),Ak,yX k hp ha (show f<602 by omega),Ae,adD (show 100<k by omega) (hb.hf a f),e7,e0,wm,wfm]
  by_cases adY:bt (hf p a f) 0=112
  ·by_cases he:aM (hf p a f)=0
   ·refine aak (by unfold recAt;rw[if_neg h1,if_pos (Or.inl he)]) _ ?_
    simp only[AE adY,Am,AE he,AW,Ak]
    rfl
   ·simp only[AE adY,Am,AI he,Bs]
    by_cases rZ:m=0
    ·refine aak ?_ _ ?_
     ·cases hq:recAt p a f n with
      |none=>rfl
      |some q=>have:=ai6 hb hq;omega
     ·simp only[AE (show (m:Int)=0 by omega),AW,Ak]
      rfl
    ·simp only[AI (show ¬ (m:Int)=0 by omega),Bs,Am]
     by_cases h2:602<f+m
     ·refine aak (by unfold recAt;rw[if_neg h1,if_pos (Or.inr (by rw[hmN];exact h2))]) _ ?_
      simp only[AE (show (602:Int)<((f+m:Nat):Int) by omega),Am]
      rfl
     ·simp only[AI (show ¬ (602:Int)<((f+m:Nat):Int) by omega),Ak]
      have mj:=art (n:=m) (body:=BB.b0 k p (a:Int) (f:Int) (m:Int)) (fun i (s:Hf×List Int)=>(s.1,i,s.2)) (fun s=>s.2) (fun s i=>some (hf p a (f+i),s.2++gZ (hf p a (f+i)))) ((nU,(0:Int),(0:Int),false)) (fun i s=>s.2.length=23*i/\s.2=((List.range i).map fun i=>gZ (hf p a (f+i))).flatten) (by omega) (k:=k) (by omega) (s0:=(hf p a f,[])) ⟨rfl,rfl⟩ (fun i s hi hs=>by
       have hl:=(hf p a (f+i)).h
       have xb:(gZ (hf p a (f+i))).length=23:=by unfold gZ;simp[hl]
       have u7:ab ((f:Int)+(i:Int))=((f+i:Nat):Int):=by rw[aU (by omega) (by omega)];omega
       have kI:=hs.1
       refine⟨?_,fun s' uy=>?_⟩
       ·unfold BB.b0
        simp only[wm,AE (show (i:Int)<(m:Int) by omega),Am,u7,yX k hp ha (show f+i<602 by omega),Ae]
        rw[show (List.take 23 (List.drop 8 (hf p a (f+i)).l))=gZ (hf p a (f+i)) from rfl,lQ (by omega) (by omega)]
        rfl
       ·obtain rfl:=oi uy
        refine⟨by simp only[A9,xb];omega,?_⟩
        simp only
        rw[List.range_succ,C7,List.flatten_append,<-hs.2]
        simp) (fun s hs=>by
       unfold BB.b0
       simp only[wm,(by simp:decide ((m:Int)<(m:Int))=false),Ak])
      have hex:∀ (L:List Nat) (s:Hf×List Int),∃ o,L.foldlM (fun(s:Hf×List Int) i=>some (hf p a (f+i),s.2++gZ (hf p a (f+i)))) s=some o:=by
       intro L
       induction L with
       |nil=>intro s;exact⟨s,rfl⟩
       |cons x L ih=>intro s;exact ih _
      obtain⟨o,ho⟩:=hex (List.range m) (hf p a f,[])
      have eo:=mj.1
      obtain⟨zC,hof⟩:=mj.2 o ho
      rw[ho]at eo
      rw[eo]
      simp only[Ae]
      have oH:AZ o.2:=by
       rw[hof]
       refine agi (fun x hx=>?_)
       obtain⟨i,_,rfl⟩:=List.mem_map.1 hx
       exact agm (hb.hf a _)
      have aia:o.2[15]?=some (o.2[15]'(by omega)):=gG (by omega)
      have hM:cn o.2=o.2[15]'(by omega):=by
       unfold cn
       rw[List.drop_eq_getElem_cons (show 15<o.2.length by omega)]
       exact ai1 _
      have hM0:=oH _ (AU aia)
      rw[<-hM]at hM0
      have iF:at? o.2 15=some (cn o.2):=by
       rw[hM];exact bA aia
      have w16:ab (16+(ab (cn o.2)))=16+cn o.2:=by
       rw[aU (n:=cn o.2) (by omega) (by omega),aU (by omega) (by omega)]
      simp only[AI (show ¬ ((o.2.length:Nat):Int)<16 by omega),Bs,Am,iF,Ae,w16]
      have sj:recAt p a f n=match gQ o.2 with
        |none=>none
        |some q=>if dg q.1=true/\(cq q.1 n (aM (hf p a f))).length=m/\pw p a f (cq q.1 n (aM (hf p a f)))=true then some (q.1,aM (hf p a f),m) else none:=by
       unfold recAt
       rw[if_neg h1,hmN,if_neg (fun c=>c.elim he h2),<-hof]
       all_goals rfl
      rw[sj]
      by_cases ae:(o.2.length:Int)<16+cn o.2
      ·have hd:gQ o.2=none:=by
        unfold gQ
        rw[if_neg (by omega),if_pos ae]
       rw[hd]
       simp only[AE ae,Am]
       rfl
      ·simp only[AI ae,Ak]
       have hhs:nK o.2.length (16+cn o.2)=some ():=by unfold nK;rw[if_pos (by omega)]
       have zx:(16+cn o.2).toNat=16+(cn o.2).toNat:=by omega
       rw[hhs]
       have hdR:Eh k (o.2.take (16+(cn o.2).toNat))=some (decode (o.2.take (16+(cn o.2).toNat))):=amC (show 1000<k by omega) (oH.take _) (by rw[Ba];omega)
       simp only[Ae,zx,hdR]
       cases hd:gQ o.2 with
       |none=>
        exfalso
        unfold gQ at hd
        rw[if_neg (by omega),if_neg ae]at hd
        cases hd
       |some q=>
        obtain⟨r,l⟩:=q
        have hdt:=(amA oH hd).1
        have anG:decode (o.2.take (16+(cn o.2).toNat))=bif dg r then (r,0) else (nU,90):=by
         unfold decode
         rw[hdt]
        simp only[anG]
        cases hr:dg r with
        |false=>simp;rfl
        |true=>
         have ht:=sQ hr
         simp only[Am,Bw,AW,Ak,abL (show 100000<k by omega) ht,Ae]
         have hH:(List.range (bB (enc r).length)).map (dH (aM (hf p a f)) (n:Int) (bB (enc r).length) (enc r))=cq r (n:Int) (aM (hf p a f)):=rfl
         rw[hH]
         by_cases hlen:(cq r (n:Int) (aM (hf p a f))).length=m
         ·have hwN:=afo (n:=m) (body:=BB.b1 k p (a:Int) (f:Int) (m:Int) (cq r (n:Int) (aM (hf p a f)))) (p:=fun i=>match (cq r (n:Int) (aM (hf p a f)))[i]? with|some x=>decide (hf p a (f+i)=x)|none=>true) (c:=(nU,(0:Int),(0:Int),false)) (by omega) (k:=k) (by omega) (fun i hi=>by
           obtain⟨x,hx⟩:∃ x,(cq r (n:Int) (aM (hf p a f)))[i]?=some x:=⟨_,gG (by omega)⟩
           have u7:ab ((f:Int)+(i:Int))=((f+i:Nat):Int):=by rw[aU (by omega) (by omega)];omega
           have hve:Aa.eq (fun(x y:Int)=>decide (x=y)) (hf p a (f+i)) x=decide (hf p a (f+i)=x):=by
            by_cases e:hf p a (f+i)=x
            ·rw[(rl _ _).2 e,AE e]
            ·rw[AI e]
             cases hq:Aa.eq (fun(x y:Int)=>decide (x=y)) (hf p a (f+i)) x with
             |false=>rfl
             |true=>exact absurd ((rl _ _).1 hq) e
           unfold BB.b1
           simp only[wm,AE (show (i:Int)<(m:Int) by omega),Am,bA hx,Ae,u7,yX k hp ha (show f+i<602 by omega),hve,hx]
           cases decide (hf p a (f+i)=x)<;>rfl) (by
           unfold BB.b1
           simp only[wm,(by simp:decide ((m:Int)<(m:Int))=false),Ak])
          have bm:pw p a f (cq r (n:Int) (aM (hf p a f)))=(List.range m).all (fun i=>match (cq r (n:Int) (aM (hf p a f)))[i]? with|some x=>decide (hf p a (f+i)=x)|none=>true):=by
           unfold pw;rw[hlen];rfl
          simp only[AE (show ((cq r (n:Int) (aM (hf p a f))).length:Int)=(m:Int) by omega),AW,Ak,hwN,<-bm,hlen,true_and]
          cases pw p a f (cq r (n:Int) (aM (hf p a f)))<;>rfl
         ·simp only[AI (show ¬ ((cq r (n:Int) (aM (hf p a f))).length:Int)=(m:Int) by omega),Bs,Am,hlen,false_and,and_false,if_false]
          rfl
  ·refine aak ?_ _ ?_
   ·cases hq:recAt p a f n with
    |none=>rfl
    |some q=>have:=ai6 hb hq;omega
   ·simp only[AI adY,Ak]
    rfl
theorem ahh (s:List Ab×Nat) (x:Ab×Nat) (L:List (Ab×Nat)):fin s (x::L)=fin (eF ag s.1 x.1,x.2) L:=rfl
theorem alB {k:Nat} (hk:1000000<k) {p:List Pg} (hp:p.length=602) (hb:Bv p) {a:Nat} (ha:a<=1):∀ (m K:Nat) (b:List Ab) (e:Int) (u:Nat) (R:List Ab),Dk ag b->(∀ r∈b,dg r=true)->b.length=R.length->R.length<=60->u<=602->61<=m+R.length->m<K->
  aj (BD.b0 k p (a:Int)) K (e,b,(u:Int),R)=some (.brk (((fin (b,u) (rd p a (m+1) b e u R.length)).2:Int),R++(rd p a (m+1) b e u R.length).map (·.1))):=by
 intro m
 induction m with
 |zero=>intro K b e u R _ _ h1 h2 _ h3 _;omega
 |succ m ih=>
  intro K b e u R hv sf fc hR hu hm hK
  obtain⟨K,rfl⟩:∃ q,K=q+1:=⟨K - 1,by omega⟩
  have stop:BD.b0 k p (a:Int) (e,b,(u:Int),R)=some (.brk ((u:Int),R))->rd p a (m+1+1) b e u R.length=[]->aj (BD.b0 k p (a:Int)) (K+1) (e,b,(u:Int),R)=some (.brk (((fin (b,u) (rd p a (m+1+1) b e u R.length)).2:Int),R++(rd p a (m+1+1) b e u R.length).map (·.1))):=fun h1 h2=>by
   rw[h2]
   simp only[aj,h1,fin,List.foldl_nil,List.map_nil,List.append_nil]
  have hh:∀ r∈b,jC r:=fun r hr=>nT (sf r hr)
  by_cases iw:R.length=60
  ·
   have nJ:rd p a (m+1+1) b e u R.length=[]:=by
    rw[rd]
    cases hq:recAt p a u R.length with
    |none=>rfl
    |some q=>
     simp only
     split
     ·rfl
     ·have:iQ b q.1=none:=by
       cases dp:iQ b q.1 with
       |none=>rfl
       |some b'=>have:=(qP dp).2.2.2;omega
      rw[this]
   refine stop ?_ nJ
   have kG:BB k p (a:Int) (u:Int) ((R.length:Nat):Int)=some (nU,0,0,false):=by
    unfold BB
    by_cases h1:(602:Int)<=(u:Int)
    ·simp only[AE h1,AW,Ak];rfl
    ·simp only[AI h1,Bs,Am,AE (show (60:Int)<=((R.length:Nat):Int) by omega)];rfl
   unfold BD.b0
   simp only[kG,Ae,Ak]
  ·have kG:=aph hk hp hb ha u R.length (by omega) (by omega)
   cases hq:recAt p a u R.length with
   |none=>
    rw[hq]at kG
    refine stop ?_ (by rw[rd,hq])
    unfold BD.b0
    simp only[kG,Ae,Ak]
   |some q=>
    rw[hq]at kG
    obtain⟨⟨g1,g2,g3⟩,g4⟩:=(aaB hb).1 hq
    have hmp:0<q.2.2:=by rw[g4,lq];exact vM q.1
    have adZ:=g3.1
    rw[<-g4]at adZ
    by_cases he:q.2.1<e
    ·refine stop ?_ (by rw[rd,hq];simp only;rw[if_pos he])
     unfold BD.b0
     simp only[kG,Ae,Am,AE he,AW,Ak]
    ·have eC:cC q.1.At=ag q.1:=rfl
     rcases ahl (k:=k) (l:=b) (by omega) hk q.1.At with ⟨i,x,f1,f2,f3⟩|⟨f1,f2⟩
     ·
      rw[eC]at f3
      have hf:gR ag b (ag q.1)=some x:=by rw[<-f3];exact ahi ag hv.1 (AU f2)
      have dp:iQ b q.1=none:=by
       cases dp:iQ b q.1 with
       |none=>rfl
       |some b'=>have:=(qP dp).2.1;rw[hf]at this;cases this
      refine stop ?_ (by rw[rd,hq];simp only;rw[if_neg he,dp])
      unfold BD.b0
      simp only[kG,Ae,Am,AI he,Bs,f1,AE (show (0:Int)<=(i:Int) by omega)]
     ·have jU:=aba hk hv.1 (show b.length<=900 by omega) hh (nT g1)
      cases dp:iQ b q.1 with
      |none=>
       have bj:¬ (eH b q.1).2=0:=fun c=>by
        rw[eC]at f2
        have ui:=abE ag f2
        unfold iQ at dp
        have hl:(eH b q.1).1.length≠b.length:=by
         unfold eH at c ⊢
         rw[ui]at c ⊢
         simp only at c ⊢
         split at c
         ·cases c
         ·split at c
          ·cases c
          ·rename_i c1 c2
           rw[if_neg c1,if_neg c2]
           simp only
           rw[z8];omega
        rw[if_pos ⟨c,hl⟩]at dp
        cases dp
       refine stop ?_ (by rw[rd,hq];simp only;rw[if_neg he,dp])
       unfold BD.b0
       simp only[kG,Ae,Am,AI he,Bs,f1,(by decide:decide ((0:Int)<=-1)=false),Ak,jU,AI bj]
      |some b'=>
       obtain⟨v1,v2⟩:=aeE hv g1 dp
       obtain⟨i1,_,_,_⟩:=qP dp
       have iJ:=dp
       unfold iQ at iJ
       split at iJ
       ·rename_i hc
        have bT:(eH b q.1).1=b':=oi iJ
        have eo:ab ((u:Int)+(q.2.2:Int))=((u+q.2.2:Nat):Int):=by rw[aU (by omega) (by omega)];omega
        have aoa:BD.b0 k p (a:Int) (e,b,(u:Int),R)=some (.next (q.2.1,b',((u+q.2.2:Nat):Int),R++[q.1])):=by
         unfold BD.b0
         simp only[kG,Ae,Am,AI he,Bs,f1,(by decide:decide ((0:Int)<=-1)=false),Ak,jU,AE hc.1,AW,pq (show (R.length+1)*72<=140737488355328 by omega) (show R.length+1<4611686018427387904 by omega),bT,eo]
        have hih:=ih K b' q.2.1 (u+q.2.2) (R++[q.1]) v1 (fun r hr=>by
         rw[i1,ab5]at hr
         rcases hr with rfl|hr
         ·exact g1
         ·exact sf r hr) (by simp;omega) (by simp;omega) (by omega) (by simp;omega) (by omega)
        have nJ:rd p a (m+1+1) b e u R.length=(q.1,u+q.2.2)::rd p a (m+1) b' q.2.1 (u+q.2.2) (R.length+1):=by
         rw[rd,hq];simp only;rw[if_neg he,dp]
        rw[nJ,ahh]
        simp only[aj,aoa]
        rw[hih]
        simp only[A9,AA,Az,List.map_cons,Co,<-i1]
        simp
       ·cases iJ
theorem abN {k:Nat} (hk:100<k) (e n:Int):D0 k e n=some (bR e n):=by
 unfold D0
 have h3:Cd k e 3=some (be e 3):=acd e (w:=3) (by decide) (by omega)
 have h2:Cd k n 2=some (be n 2):=acd n (w:=2) (by decide) (by omega)
 rw[h3]
 simp only[Ae]
 rw[lQ (by simp[dX]) (by simp[dX])]
 simp only[Ae,h2]
 rw[lQ (by simp[dX]) (by simp[dX])]
 simp only[Ae]
 rw[lQ (by simp[dX]) (by simp[dX])]
 simp only[Ae]
 rw[pq (by simp[dX]) (by simp[dX])]
 simp only[Ae]
 have hl:([(104:Int)]++be e 3++be n 2++List.replicate 25 0++[165])=(bR e n).l:=by
  rw[n8,xX];rfl
 rw[hl]
 unfold Aa.nP
 rw[dif_pos (by rw[(bR e n).h];exact Be _)]
 simp only[Ae]
 congr 1
def jt (x:Option Ar):CH:=match x with|none=>⟨0,[],0⟩|some x=>⟨x.dQ,x.fk.map (·.1),(x.used:Int)⟩
theorem abc {k:Nat} (hk:1000000<k) {p:List Pg} (hp:p.length=602) (hb:Bv p) {a:Nat} (ha:a<=1):BD k p (a:Int)=some (jt (eu p a)):=by
 have h0:=yX k hp ha (show 0<602 by decide)
 rw[CY]at h0
 have e0:(hf p a 0).at? 0=some (bt (hf p a 0) 0):=lS _ (i:=0) (by decide)
 have e2:(List.range' 4 2).map (bt (hf p a 0))=[bt (hf p a 0) 4,bt (hf p a 0) 5]:=rfl
 have wy:=ai4 (show 100<k by omega) (hb.hf a 0) (n:=2) (i:=4) (by decide) (by decide)
 rw[e2]at wy
 unfold BD eu
 rw[h0]
 simp only[Ae,adD (show 100<k by omega) (hb.hf a 0),wy,e0]
 generalize hE:aM (hf p a 0)=E
 generalize hC:bp [bt (hf p a 0) 4,bt (hf p a 0) 5]=C
 have oP:=alB hk hp hb ha 61 k [] E 1 [] ⟨.nil,trivial⟩ (by simp) rfl (by simp) (by decide) (by simp) (by omega)
 have oR:=ae1 hb 62 100 [] E 1 0 (by simp) (by simp) (by simp) (a:=a)
 have nJ:uP p a=rd p a 62 [] E 1 0:=by unfold uP;rw[hE,oR]
 by_cases abK:bt (hf p a 0) 0=104
 ·simp only[AE abK,Am]
  by_cases he:E=0
  ·rw[if_neg (fun c=>c.1 he)]
   simp only[AE he,AW,Ak]
   rfl
  ·simp only[AI he,Bs,Am,abN (show 100<k by omega),Ae]
   by_cases hh:hf p a 0=bR E C
   ·simp only[(rl _ _).2 hh,AW,Ak]
    have gm:((1:Nat):Int)=1:=rfl
    rw[gm]at oP
    rw[oP]
    simp only[Ae,Bt,Az]
    by_cases hc:C<=((uP p a).length:Int)
    ·rw[if_pos ⟨he,hh,hc⟩]
     rw[nJ]at hc
     rw[AI (show ¬ (((rd p a 62 [] E 1 0).map (·.1)).length:Int)<C by rw[Bh];omega)]
     unfold jt Ar.used
     simp only[Ak,nJ]
    ·rw[if_neg (fun c=>hc c.2.2)]
     rw[nJ]at hc
     rw[AE (show (((rd p a 62 [] E 1 0).map (·.1)).length:Int)<C by rw[Bh];omega)]
     rfl
   ·have hv:Aa.eq (fun(x y:Int)=>decide (x=y)) (hf p a 0) (bR E C)=false:=by
     cases hq:Aa.eq (fun(x y:Int)=>decide (x=y)) (hf p a 0) (bR E C) with
     |false=>rfl
     |true=>exact absurd ((rl _ _).1 hq) hh
    rw[if_neg (fun c=>hh c.2.1)]
    simp only[hv,Bs,Am]
    rfl
 ·have hh:¬ hf p a 0=bR E C:=fun c=>by
   rw[c]at abK
   exact abK rfl
  rw[if_neg (fun c=>hh c.2.1)]
  simp only[AI abK,Ak]
  rfl
theorem afS {p:List Pg} (hb:Bv p) {a:Nat}{x:Ar} (h:eu p a=some x):1<=x.dQ:=by
 unfold eu at h
 split at h
 ·rename_i hc
  obtain rfl:=oi h
  have:=(adB (hb.hf a 0)).1
  simp only
  omega
 ·cases h
theorem ab2 {k:Nat} (hk:1000000<k) {p:List Pg} (hp:p.length=602) (hb:Bv p) {q:Nat×Ar} (h:mr p=some q):DJ k p=some ((q.1:Int),jt (some q.2),true):=by
 have a0:=abc hk hp hb (a:=0) (by decide)
 have a1:=abc hk hp hb (a:=1) (by decide)
 have a0':BD k p 0=some (jt (eu p 0)):=a0
 have a1':BD k p 1=some (jt (eu p 1)):=a1
 unfold DJ
 rw[a0',a1']
 simp only[Ae]
 unfold mr at h
 cases hx:eu p 0 with
 |none=>
  cases hy:eu p 1 with
  |none=>rw[hx,hy]at h;cases h
  |some y=>
   rw[hx,hy]at h
   simp only at h
   obtain rfl:=oi h
   have py:=afS hb hy
   have e0:(jt none).Ax=0:=rfl
   have e1:(jt (some y)).Ax=y.dQ:=rfl
   simp only[e0,e1,Bw,Am,AI (show ¬ y.dQ=0 by omega),Ak,AE (show (0:Int)<y.dQ by omega)]
   rfl
 |some x=>
  have px:=afS hb hx
  have e0:(jt (some x)).Ax=x.dQ:=rfl
  cases hy:eu p 1 with
  |none=>
   rw[hx,hy]at h
   simp only at h
   obtain rfl:=oi h
   have e1:(jt none).Ax=0:=rfl
   simp only[e0,e1,AI (show ¬ x.dQ=0 by omega),Ak,AI (show ¬ x.dQ<0 by omega)]
   rfl
  |some y=>
   rw[hx,hy]at h
   simp only at h
   have e1:(jt (some y)).Ax=y.dQ:=rfl
   by_cases ae:x.dQ<y.dQ
   ·rw[if_pos ae]at h
    obtain rfl:=oi h
    simp only[e0,e1,AI (show ¬ x.dQ=0 by omega),Ak,AE ae,Am]
    rfl
   ·rw[if_neg ae]at h
    obtain rfl:=oi h
    simp only[e0,e1,AI (show ¬ x.dQ=0 by omega),Ak,AI ae]
    rfl
theorem alK {k:Nat} (hk:1000000<k) {l:List Ab} (hg:EZ l):BX k l=some ⟨bk ag [] l⟩:=by
 have h50:=hg.len
 unfold BX
 have h:=pF (l:=l) (body:=BX.b0 k l) (fun i s=>(s,i)) (eF ag) (fun i s=>BI ag (l.take i) s) (by omega) (k:=k) (by omega) (s0:=[]) (BI.nil ag) (fun i r s hx hs=>by
  have hi:=(gS.1 hx).1
  have bD:(ag r).2=aA ag (l.take i) (ag r).1:=hg.no hx
  have gn:=hs.len
  rw[Ba]at gn
  have hh:∀ x∈s,jC x:=fun x hx=>nT (hg.ok x (BZ ((hs.mem x).1 hx)))
  have jU:eH s r=(eF ag s r,0):=by
   unfold eH
   rw[abE ag (hs.no ag bD)]
   simp only
   have e:r.At.No=((aA ag s r.At.Aq:Nat):Int):=by
    rw[hs.num];exact bD
   rw[if_neg (by omega),if_neg (by omega)]
  refine⟨?_,?_⟩
  ·unfold BX.b0
   simp only[AE (show (i:Int)<(l.length:Int) by omega),Am,bA hx,Ae,aba hk hs.val.1 (show s.length<=900 by omega) hh (nT (hg.ok r (AU hx))),jU]
  ·rw[take_at hx]
   exact hs.step ag bD) (fun s hs=>by
  unfold BX.b0
  simp only[(by simp:decide ((l.length:Int)<(l.length:Int))=false),Ak])
 rw[h.1]
 rfl
section
variable {d:Ac}{l:Aw}{log:List Ab}{mO a:Nat}{e0 c:Int}{ep:Nat->Int}
theorem ast {k:Nat} (hk:10000000<k) {d:Ac} (hd:DB d) {q:Nat×Ar} (h:mr (ak d.Af d.Ad)=some q) {log:List Ab} (hg:EZ log) (hq:q.2.fk.map (·.1)=log) (hb:q.2.book=bk ag [] log) (hm:max (mx (ak d.Af d.Ad) 0 0) (mx (ak d.Af d.Ad) 1 0)<1000000):
  Ds k d=some (⟨ak d.Af d.Ad,[]⟩,⟨⟨q.2.book⟩,(q.1:Int),1+max (mx (ak d.Af d.Ad) 0 0) (mx (ak d.Af d.Ad) 1 0),(q.2.used:Int)⟩,0):=by
 have g0:BJ k (ak d.Af d.Ad) 0 0=some (mx (ak d.Af d.Ad) 0 0):=tX (show 1000000<k by omega) hd.len hd.new (a:=0) (by decide) 0
 have g1:BJ k (ak d.Af d.Ad) 1 0=some (mx (ak d.Af d.Ad) 1 0):=tX (show 1000000<k by omega) hd.len hd.new (a:=1) (by decide) 0
 have n0:=xm (ak d.Af d.Ad) 0 0
 have n1:=xm (ak d.Af d.Ad) 1 0
 have hw:ab ((max (mx (ak d.Af d.Ad) 0 0) (mx (ak d.Af d.Ad) 1 0))+1)=1+max (mx (ak d.Af d.Ad) 0 0) (mx (ak d.Af d.Ad) 1 0):=by rw[aU (by omega) (by omega)];omega
 have hA:jt (some q.2)=⟨q.2.dQ,log,(q.2.used:Int)⟩:=by unfold jt;simp only[hq]
 unfold Ds
 rw[sA (show 1000000<k by omega) hd.ok]
 simp only[Ae,AW,Ak,(sM (show 1000000<k by omega) hd.ok).1,ab2 (show 1000000<k by omega) hd.len hd.new h,hA,g0,g1,hw]
 rw[AI (show ¬ (1000000:Int)<1+max (mx (ak d.Af d.Ad) 0 0) (mx (ak d.Af d.Ad) 1 0) by omega)]
 simp only[Ak,alK (show 1000000<k by omega) hg,Ae,hb]
end
theorem alu (x:Int):dW .i64 x 3=x % 4:=by
 have h1:0<=x % 4:=by omega
 have h2:x % 4<4:=by omega
 have h3:(BitVec.ofInt IntKind.i64.bits 3).toNat=2 ^ 2 - 1:=by decide +kernel
 have hx:(BitVec.ofInt IntKind.i64.bits x).toNat=(x % 18446744073709551616).toNat:=by
  rw[BitVec.toNat_ofInt,show ((2 ^ IntKind.i64.bits:Nat):Int)=18446744073709551616 from rfl]
 have e:(x % 18446744073709551616).toNat % 2 ^ 2=(x % 4).toNat:=by
  rw[show (2:Nat) ^ 2=4 from rfl];omega
 unfold dW
 rw[BitVec.toNat_and,h3,Nat.and_two_pow_sub_one_eq_mod,hx,e]
 have h4:(((x % 4).toNat:Nat):Int)=x % 4:=by omega
 rw[h4]
 exact aU (by omega) (by omega)
theorem ams {k:Nat} (hk:10000000<k) {d:Ac} (hd:DB d) (eU:List Int) {i:Nat}{w:Ao}{p:List Pg} (hx:d.Ad[i]?=some w) (hp:p.length=602):
  ∃ p',BL.b0 k d eU ((i:Int),p)=some (.next (ab ((i:Int)+1),p'))/\ba.b0 k eU ⟨d⟩ ((i:Int),p)=some (.next (ab ((i:Int)+1),p'))/\p'.length=602:=by
 obtain⟨h1,h2,h3⟩:=gD.1 hd.ok
 have hi:=(gS.1 hx).1
 have hw:=h3 w (AU hx)
 obtain⟨g0,a1,a2,_⟩:=acs (k:=0) hp hw (s:=0) (by decide)
 obtain⟨g1,b1,b2,_⟩:=acs (k:=0) hp hw (s:=1) (by decide)
 have eg:g1=g0:=by rw[a1]at b1;exact(oi b1).symm
 subst eg
 have qA:(p.set w.At.toNat (g1.set 0 (sd w.AH 0))).length=602:=by rw[C5];exact hp
 obtain⟨g2,c1,c2,_⟩:=acs (k:=0) qA hw (s:=1) (by decide)
 have v0:∀ g:Pg,g.at? 0=some (sd g 0):=fun g=>s9 g (s:=0) (by decide)
 have v1:∀ g:Pg,g.at? 1=some (sd g 1):=fun g=>s9 g (s:=1) (by decide)
 have a2':dM p w.At (g1.set 0 (sd w.AH 0))=some (p.set w.At.toNat (g1.set 0 (sd w.AH 0))):=a2
 have b2':dM p w.At (g1.set 1 (sd w.AH 1))=some (p.set w.At.toNat (g1.set 1 (sd w.AH 1))):=b2
 have c2':dM (p.set w.At.toNat (g1.set 0 (sd w.AH 0))) w.At (g2.set 1 (sd w.AH 1))=some ((p.set w.At.toNat (g1.set 0 (sd w.AH 0))).set w.At.toNat (g2.set 1 (sd w.AH 1))):=c2
 obtain⟨m,rfl⟩:∃ m,k=m+3:=⟨k - 3,by omega⟩
 have s0:lL 0=some ():=rfl
 have s1:lL 1=some ():=rfl
 have w1:ab ((0:Int)+1)=1:=aU (by omega) (by omega)
 have w2:ab ((1:Int)+1)=2:=aU (by omega) (by omega)
 by_cases hz:(0:Int)<(eU.length:Int)
 ·have oS:pk (eU.length:Int)=some ():=by unfold pk;rw[if_neg (by omega)]
  obtain⟨x,uE⟩:∃ x,at? eU (Int.tmod (i:Int) (eU.length:Int))=some x:=by
   rw[<-Int.ofNat_tmod]
   have ae:i % eU.length<eU.length:=Nat.mod_lt _ (by omega)
   exact⟨_,bA (gG ae)⟩
  have zY:=alu x
  have hmd:=mw (m+3) x (m:=4) (by decide) (by decide)
  have zI:0<=x % 4:=by omega
  have mX:x % 4<4:=by omega
  generalize x % 4=y at zY hmd zI mX
  have hR:∀ (t0 t1:Bool) (r:List Pg),decide (dW .i64 y 1=1)=t0->decide (dW .i64 y 2=2)=t1->(bif t0 then (bif t1 then (p.set w.At.toNat (g1.set 0 (sd w.AH 0))).set w.At.toNat (g2.set 1 (sd w.AH 1)) else p.set w.At.toNat (g1.set 0 (sd w.AH 0))) else (bif t1 then p.set w.At.toNat (g1.set 1 (sd w.AH 1)) else p))=r->BL.b0 (m+3) d eU ((i:Int),p)=some (.next (ab ((i:Int)+1),r)):=by
   intro t0 t1 r e0 e1 er
   unfold BL.b0
   simp only[AE (show (i:Int)<((d.Ad.length:Nat):Int) by omega),Am,AE hz,oS,Ae]
   rw[uE,Ae,hmd,Ae,bA hx,Ae,e0,e1]
   subst er
   cases t0<;>cases t1
   ·rfl
   ·rw[Ak,Am,v1,Ae,a1,Ae,v1,Ae,b2',Ae];rfl
   ·rw[Am,v0,Ae,a1,Ae,v0,Ae,a2',Ae];rfl
   ·rw[Am,v0,Ae,a1,Ae,v0,Ae,a2',Ae,Am,v1,Ae,c1,Ae,v1,Ae,c2',Ae];rfl
  have hy:y=0\/y=1\/y=2\/y=3:=by omega
  rcases hy with rfl|rfl|rfl|rfl
  ·refine⟨p,?_,?_,hp⟩
   ·exact hR false false _ (by decide +kernel) (by decide +kernel) rfl
   ·unfold ba.b0
    simp only[AE (show (i:Int)<((d.Ad.length:Nat):Int) by omega),Am,bA hx,Ae,AE hz,oS,uE,aj,ba.b1,zY,s0,s1,w1,w2,(by decide:decide ((0:Int)<2)=true),(by decide:decide ((1:Int)<2)=true),(by decide:decide ((2:Int)<2)=false),Ak,(by decide +kernel:decide (dW .i64 (Int.fdiv 0 (2 ^ (min (Int.toNat 0) 64))) 1=1)=false),(by decide +kernel:decide (dW .i64 (Int.fdiv 0 (2 ^ (min (Int.toNat 1) 64))) 1=1)=false)]
  ·refine⟨p.set w.At.toNat (g1.set 0 (sd w.AH 0)),?_,?_,qA⟩
   ·exact hR true false _ (by decide +kernel) (by decide +kernel) rfl
   ·unfold ba.b0
    simp only[AE (show (i:Int)<((d.Ad.length:Nat):Int) by omega),Am,bA hx,Ae,AE hz,oS,uE,aj,ba.b1,zY,s0,s1,w1,w2,(by decide:decide ((0:Int)<2)=true),(by decide:decide ((1:Int)<2)=true),(by decide:decide ((2:Int)<2)=false),Ak,(by decide +kernel:decide (dW .i64 (Int.fdiv 1 (2 ^ (min (Int.toNat 0) 64))) 1=1)=true),(by decide +kernel:decide (dW .i64 (Int.fdiv 1 (2 ^ (min (Int.toNat 1) 64))) 1=1)=false),v0,v1,a1,a2']
  ·refine⟨p.set w.At.toNat (g1.set 1 (sd w.AH 1)),?_,?_,by rw[C5];exact hp⟩
   ·exact hR false true _ (by decide +kernel) (by decide +kernel) rfl
   ·unfold ba.b0
    simp only[AE (show (i:Int)<((d.Ad.length:Nat):Int) by omega),Am,bA hx,Ae,AE hz,oS,uE,aj,ba.b1,zY,s0,s1,w1,w2,(by decide:decide ((0:Int)<2)=true),(by decide:decide ((1:Int)<2)=true),(by decide:decide ((2:Int)<2)=false),Ak,(by decide +kernel:decide (dW .i64 (Int.fdiv 2 (2 ^ (min (Int.toNat 0) 64))) 1=1)=false),(by decide +kernel:decide (dW .i64 (Int.fdiv 2 (2 ^ (min (Int.toNat 1) 64))) 1=1)=true),v0,v1,b1,b2']
  ·refine⟨(p.set w.At.toNat (g1.set 0 (sd w.AH 0))).set w.At.toNat (g2.set 1 (sd w.AH 1)),?_,?_,by rw[C5];exact qA⟩
   ·exact hR true true _ (by decide +kernel) (by decide +kernel) rfl
   ·unfold ba.b0
    simp only[AE (show (i:Int)<((d.Ad.length:Nat):Int) by omega),Am,bA hx,Ae,AE hz,oS,uE,aj,ba.b1,zY,s0,s1,w1,w2,(by decide:decide ((0:Int)<2)=true),(by decide:decide ((1:Int)<2)=true),(by decide:decide ((2:Int)<2)=false),Ak,(by decide +kernel:decide (dW .i64 (Int.fdiv 3 (2 ^ (min (Int.toNat 0) 64))) 1=1)=true),(by decide +kernel:decide (dW .i64 (Int.fdiv 3 (2 ^ (min (Int.toNat 1) 64))) 1=1)=true),v0,v1,a1,a2',c1,c2']
 ·refine⟨p,?_,?_,hp⟩
  ·unfold BL.b0
   simp only[AE (show (i:Int)<((d.Ad.length:Nat):Int) by omega),Am,bA hx,Ae,AI hz,(by decide +kernel:decide (dW .i64 0 1=1)=false),(by decide +kernel:decide (dW .i64 0 2=2)=false),Ak]
  ·unfold ba.b0
   simp only[AE (show (i:Int)<((d.Ad.length:Nat):Int) by omega),Am,bA hx,Ae,AI hz,aj,ba.pP,s0,s1,w1,w2,(by decide:decide ((0:Int)<2)=true),(by decide:decide ((1:Int)<2)=true),(by decide:decide ((2:Int)<2)=false),Ak,(by decide +kernel:decide (dW .i64 (Int.fdiv 0 (2 ^ (min (Int.toNat 0) 64))) 1=1)=false),(by decide +kernel:decide (dW .i64 (Int.fdiv 0 (2 ^ (min (Int.toNat 1) 64))) 1=1)=false)]
theorem amq {k:Nat} (hk:10000000<k) {d:Ac} (hd:DB d) (eU:List Int):BL k d eU=ba k d eU:=by
 obtain⟨h1,h2,h3⟩:=gD.1 hd.ok
 have key:∀ (n i m:Nat) (p:List Pg),i+n=d.Ad.length->n<m->p.length=602->
   aj (BL.b0 k d eU) m ((i:Int),p)=aj (ba.b0 k eU ⟨d⟩) m ((i:Int),p):=by
  intro n
  induction n with
  |zero=>
   intro i m p g1 g2 g3
   obtain⟨m,rfl⟩:∃ q,m=q+1:=⟨m - 1,by omega⟩
   have hb:ba.b0 k eU ⟨d⟩ ((i:Int),p)=some (.brk p):=by
    unfold ba.b0
    simp only[AI (show ¬ (i:Int)<((d.Ad.length:Nat):Int) by omega),Ak]
   have hr:BL.b0 k d eU ((i:Int),p)=some (.brk p):=by
    unfold BL.b0
    simp only[AI (show ¬ (i:Int)<((d.Ad.length:Nat):Int) by omega),Ak]
   simp only[aj,hb,hr]
  |succ n ih=>
   intro i m p g1 g2 g3
   obtain⟨m,rfl⟩:∃ q,m=q+1:=⟨m - 1,by omega⟩
   obtain⟨w,hw⟩:∃ w,d.Ad[i]?=some w:=⟨_,gG (by omega)⟩
   obtain⟨p1,a1,a2,a3⟩:=ams hk hd eU hw g3
   have zX:ab ((i:Int)+1)=((i+1:Nat):Int):=by rw[aU (by omega) (by omega)];omega
   rw[zX]at a1 a2
   simp only[aj,a1,a2]
   exact ih (i+1) m p1 (by omega) (by omega) a3
 have h0:=key d.Ad.length 0 k d.Af (by omega) (by omega) h1
 rw[CY]at h0
 unfold ba BL
 rw[lV hd.ok,qI (show 1000000<k by omega),sA (show 1000000<k by omega) hd.ok,hd.ok,(ae5 hd.ok).1]
 simp only[Ae,AW,Ak,h0]
 rfl
theorem arp {k:Nat} (hk:10000000<k) {p:List Pg} (hp:p.length=602) {a u:Nat} (ha:a<=1) {l:List Hf} (cH:u+l.length<=602):∀ (f i m:Nat) (ws:List Ao) (pp:List Pg),l.length - i<=f->l.length - i<m->i<=l.length->ws.length+f<=100000->pp.length=602->((u+i) % 2=1->i=0)->(∀ j,301*a+(u+i) / 2<=j->pp[j]?=p[j]?)->
  aj (BK.b0 k (a:Int) (u:Int) l) m ((i:Int),ws,pp)=some (.brk (ws++eV p a u l f i)):=by
 intro f
 induction f using Nat.strongRecOn with
 |ind f ih=>
 intro i m ws pp h1 h2 h3 h4 h5 h6 h7
 obtain⟨m,rfl⟩:∃ q,m=q+1:=⟨m - 1,by omega⟩
 by_cases hi:i<l.length
 ·obtain⟨x,hx⟩:∃ x,l[i]?=some x:=⟨_,gG hi⟩
  obtain⟨f,rfl⟩:∃ q,f=q+1:=⟨f - 1,by omega⟩
  have zH:∀ v:Ao,fJ 72 ws v=some (ws++[v]):=fun v=>pq (by omega) (by omega)
  have one:∀ (i:Nat) (x:Hf) (pp:List Pg) (g:Pg),l[i]?=some x->i<l.length->pp.length=602->pp[301*a+(u+i) / 2]?=some g->BK.b0 k (a:Int) (u:Int) l ((i:Int),ws,pp)=some (.next (((i+1:Nat):Int),(if i+1=l.length\/(u+i) % 2=1 then ws++[⟨((301*a+(u+i) / 2:Nat):Int),g.set (((u+i) % 2:Nat):Int) x⟩] else ws),pp.set (301*a+(u+i) / 2) (g.set (((u+i) % 2:Nat):Int) x))):=by
   intro i x pp g hx hi hpp hg
   have so:ab ((u:Int)+(i:Int))=((u+i:Nat):Int):=by rw[aU (by omega) (by omega)];omega
   have zS:ab (((u+i:Nat):Int)+1)=((u+i+1:Nat):Int):=by rw[aU (by omega) (by omega)];omega
   have eo:ab ((i:Int)+1)=((i+1:Nat):Int):=by rw[aU (by omega) (by omega)];omega
   have qC:=abd hp ha (show u+i<602 by omega)
   have am1:(301:Int)*(a:Int)=(a:Int)*301:=Int.mul_comm _ _
   have gm:ab ((l.length:Int) - 1)=((l.length - 1:Nat):Int):=by rw[aU (by omega) (by omega)];omega
   have eP:dM pp ((301*a+(u+i) / 2:Nat):Int) (g.set (((u+i) % 2:Nat):Int) x)=some (pp.set (301*a+(u+i) / 2) (g.set (((u+i) % 2:Nat):Int) x)):=by
    unfold dM
    rw[if_pos ⟨by omega,by omega⟩,Cn]
   have dS:(pp.set (301*a+(u+i) / 2) (g.set (((u+i) % 2:Nat):Int) x))[301*a+(u+i) / 2]?=some (g.set (((u+i) % 2:Nat):Int) x):=List.getElem?_set_self (by omega)
   have d1:ab (Int.tdiv ((u+i:Nat):Int) 2)=(((u+i) / 2:Nat):Int):=by
    have e:Int.tdiv ((u+i:Nat):Int) 2=(((u+i) / 2:Nat):Int):=by rw[Int.tdiv_eq_ediv_of_nonneg (by omega)];omega
    rw[e,aU (by omega) (by omega)]
   have d2:ab (Int.tdiv ((u+i+1:Nat):Int) 2)=(((u+i+1) / 2:Nat):Int):=by
    have e:Int.tdiv ((u+i+1:Nat):Int) 2=(((u+i+1) / 2:Nat):Int):=by rw[Int.tdiv_eq_ediv_of_nonneg (by omega)];omega
    rw[e,aU (by omega) (by omega)]
   rw[d1]at qC
   unfold BK.b0
   rw[am1]
   simp only[AE (show (i:Int)<(l.length:Int) by omega),Am,bA hx,Ae,so,qC,bA hg,qO,acH,eP,gm,zS,bA dS,zH,eo,d1,d2]
   by_cases e1:i+1=l.length
   ·rw[AE (show (i:Int)=((l.length - 1:Nat):Int) by omega),if_pos (.inl e1)]
    rfl
   ·rw[AI (show ¬ (i:Int)=((l.length - 1:Nat):Int) by omega)]
    by_cases e2:(u+i) % 2=1
    ·rw[AI (show ¬ (((u+i+1) / 2:Nat):Int)=(((u+i) / 2:Nat):Int) by omega),if_pos (.inr e2)]
     rfl
    ·rw[AE (show (((u+i+1) / 2:Nat):Int)=(((u+i) / 2:Nat):Int) by omega),if_neg (by omega)]
     rfl
  obtain⟨g,hg⟩:∃ g,p[301*a+(u+i) / 2]?=some g:=⟨_,gG (by omega)⟩
  have hgp:=(h7 _ (Be _)).trans hg
  have s1:=one i x pp g hx hi h5 hgp
  rw[eV,hx]
  simp only[hg,Option.getD_some]
  by_cases nI:(u+i) % 2=1
  ·rw[if_pos (.inr nI),nI]at s1
   rw[if_pos nI]
   simp only[aj,s1]
   have:=ih f (by omega) (i+1) m (ws++[⟨((301*a+(u+i) / 2:Nat):Int),g.set ((1:Nat):Int) x⟩]) (pp.set (301*a+(u+i) / 2) (g.set ((1:Nat):Int) x)) (by omega) (by omega) (by omega) (by simp;omega) (by rw[C5];exact h5) (by omega) (fun j hj=>by
    rw[List.getElem?_set_ne (by omega)];exact h7 j (by omega))
   rw[this,Cu]
   rfl
  ·have ahN:(u+i) % 2=0:=by omega
   rw[if_neg nI]
   by_cases e1:i+1=l.length
   ·rw[if_pos (.inl e1),ahN]at s1
    have hn:l[i+1]?=none:=CK (by omega)
    rw[hn]
    simp only[aj,s1]
    obtain⟨m,rfl⟩:∃ q,m=q+1:=⟨m - 1,by omega⟩
    have hb:∀ s,BK.b0 k (a:Int) (u:Int) l (((i+1:Nat):Int),s)=some (.brk s.1):=by
     intro s
     unfold BK.b0
     simp only[AI (show ¬ ((i+1:Nat):Int)<(l.length:Int) by omega),Ak]
    simp only[aj,hb]
    rfl
   ·rw[if_neg (by omega),ahN]at s1
    obtain⟨y,hy⟩:∃ y,l[i+1]?=some y:=⟨_,gG (by omega)⟩
    rw[hy]
    have hdv:(u+(i+1)) / 2=(u+i) / 2:=by omega
    have s2:=one (i+1) y (pp.set (301*a+(u+i) / 2) (g.set ((0:Nat):Int) x)) (g.set ((0:Nat):Int) x) hy (by omega) (by rw[C5];exact h5) (by rw[hdv,List.getElem?_set_self (by omega)])
    rw[if_pos (.inr (by omega)),show (u+(i+1)) % 2=1 by omega,hdv]at s2
    obtain⟨m,rfl⟩:∃ q,m=q+1:=⟨m - 1,by omega⟩
    simp only[aj,s1,s2]
    have:=ih f (by omega) (i+2) m (ws++[⟨((301*a+(u+i) / 2:Nat):Int),(g.set ((0:Nat):Int) x).set ((1:Nat):Int) y⟩]) ((pp.set (301*a+(u+i) / 2) (g.set ((0:Nat):Int) x)).set (301*a+(u+i) / 2) ((g.set ((0:Nat):Int) x).set ((1:Nat):Int) y)) (by omega) (by omega) (by omega) (by simp;omega) (by rw[C5,C5];exact h5) (by omega) (fun j hj=>by
     rw[List.getElem?_set_ne (by omega),List.getElem?_set_ne (by omega)];exact h7 j (by omega))
    rw[this,Cu]
    rfl
 ·have hb:BK.b0 k (a:Int) (u:Int) l ((i:Int),ws,pp)=some (.brk ws):=by
   unfold BK.b0
   simp only[AI (show ¬ (i:Int)<(l.length:Int) by omega),Ak]
  have hw:eV p a u l f i=[]:=by
   cases f with
   |zero=>rfl
   |succ f=>rw[eV,CK (by omega)]
  simp only[aj,hb,hw,List.append_nil]
theorem aaL {k:Nat} (hk:10000000<k) {d:Ac} (hd:DB d) {a u:Nat} (ha:a<=1) {l:List Hf} (cH:u+l.length<=602):
  BK k d (a:Int) (u:Int) l=some ⟨d.Af,d.Ad++eV (ak d.Af d.Ad) a u l l.length 0⟩:=by
 obtain⟨h1,h2,h3⟩:=gD.1 hd.ok
 unfold BK
 rw[(agD k hd.ok).2,(sM (show 1000000<k by omega) hd.ok).2]
 simp only[Ae]
 have:=arp hk hd.len ha cH l.length 0 k d.Ad (ak d.Af d.Ad) (by omega) (by omega) (by omega) (by omega) hd.len (fun _=>rfl) (fun j _=>rfl)
 rw[CY]at this
 rw[this]
 rfl
structure Cz (l:List Ab):Prop where
 ok:∀ r∈l,dg r=true
 vl:VL ag (fun _=>0) l
 len:l.length<=60
theorem Cz.bi {l:List Ab} (h:Cz l):BI ag l (bk ag [] l):=BI.of ag h.vl
theorem Cz.hh {l:List Ab} (h:Cz l):∀ r∈bk ag [] l,jC r:=fun r hr=>nT (h.ok r ((h.bi.mem r).1 hr))
theorem Cz.no {l:List Ab} (h:Cz l) {i:Nat}{r:Ab} (hx:l[i]?=some r):(ag r).2=aA ag (l.take i) (ag r).1:=by
 have e:l=l.take i++(r::l.drop (i+1)):=by
  have hi:=(gS.1 hx).1
  have:l[i]=r:=by rw[gG hi]at hx;exact oi hx
  rw[<-this,<-List.drop_eq_getElem_cons hi,C4]
 have hv:=h.vl
 rw[e,En]at hv
 have:=hv.2.1
 simpa using this
theorem ai2 {p:List Pg} (hb:Bv p) {a:Nat}:∀ (m:Nat) (done b:List Ab) (e:Int) (u n:Nat),BI ag done b->Cz done->
  Cz (done++(rd p a m b e u n).map (·.1))/\(fin (b,u) (rd p a m b e u n)).1=bk ag b ((rd p a m b e u n).map (·.1))/\(fin (b,u) (rd p a m b e u n)).2<=u+10*(rd p a m b e u n).length/\BI ag (done++(rd p a m b e u n).map (·.1)) (bk ag b ((rd p a m b e u n).map (·.1)))
 |0,done,b,e,u,n,hJ,hR=>⟨by rw[rd];simpa using hR,rfl,Be _,by rw[rd];simpa [bk] using hJ⟩
 |m+1,done,b,e,u,n,hJ,hR=>by
  have nil:Cz (done++([]:List (Ab×Nat)).map (·.1))/\(fin (b,u) []).1=bk ag b (([]:List (Ab×Nat)).map (·.1))/\(fin (b,u) []).2<=u+10*([]:List (Ab×Nat)).length/\BI ag (done++([]:List (Ab×Nat)).map (·.1)) (bk ag b (([]:List (Ab×Nat)).map (·.1))):=⟨by simpa using hR,rfl,Be _,by simpa [bk] using hJ⟩
  rw[rd]
  cases hq:recAt p a u n with
  |none=>exact nil
  |some q=>
   simp only
   by_cases he:q.2.1<e
   ·rw[if_pos he];exact nil
   ·rw[if_neg he]
    cases dp:iQ b q.1 with
    |none=>exact nil
    |some b'=>
     simp only
     obtain⟨⟨g1,_,_⟩,g4⟩:=(aaB hb).1 hq
     obtain⟨i1,i2,i3,i4⟩:=qP dp
     have bD:(ag q.1).2=aA ag done (ag q.1).1:=by
      show q.1.At.No=((aA ag done q.1.At.Aq:Nat):Int)
      rw[<-hJ.num]
      by_cases ae:q.1.At.No<aA ag b q.1.At.Aq
      ·have h0:=(aci g1).2.1.1
       obtain⟨x,hx,hk⟩:=ajP ag hJ.val (h:=q.1.At.Aq) (n:=q.1.At.No) h0 ae
       exact absurd hk (yE ag i2 x hx)
      ·omega
     have hl:=hJ.len
     have hd:=hR.len
     have hJ':=hJ.step ag bD
     have hR':Cz (done++[q.1]):=by
      refine⟨fun r hr=>?_,?_,by rw[A9,Ft];omega⟩
      ·rcases Bb.1 hr with g|g
       ·exact hR.ok r g
       ·rw[CG.1 g];exact g1
      ·rw[En]
       exact⟨hR.vl,by rw[bD];exact(Int.zero_add _).symm,trivial⟩
     subst i1
     obtain⟨k1,k2,k3,k4⟩:=ai2 hb m (done++[q.1]) (eF ag b q.1) q.2.1 (u+q.2.2) (n+1) hJ' hR'
     have h10:=vK g1
     have hq2:q.2.2<=10:=by rw[g4,lq];exact h10
     rw[List.map_cons,ahh]
     refine⟨?_,?_,?_,?_⟩
     ·rw[Cu,List.singleton_append]at k1;exact k1
     ·exact k2
     ·simp only[AA];omega
     ·rw[Cu,List.singleton_append]at k4;exact k4
theorem alA {p:List Pg} (hb:Bv p) {a:Nat}{x:Ar} (h:eu p a=some x):Cz (x.fk.map (·.1))/\x.book=bk ag [] (x.fk.map (·.1))/\x.used<=1+10*x.fk.length:=by
 unfold eu at h
 split at h
 ·obtain rfl:=oi h
  obtain⟨k1,k2,k3,_⟩:=ai2 hb (a:=a) 100 [] [] (aM (hf p a 0)) 1 0 (BI.nil ag) ⟨by simp,trivial,by simp⟩
  exact⟨by rw[Bt]at k1;exact k1,k2,k3⟩
 ·cases h
theorem aag {p:List Pg} (hb:Bv p) {q:Nat×Ar} (h:mr p=some q):q.1<=1/\Cz (q.2.fk.map (·.1))/\q.2.book=bk ag [] (q.2.fk.map (·.1))/\q.2.used<=1+10*q.2.fk.length:=by
 have key:q.1<=1/\eu p q.1=some q.2:=by
  unfold mr at h
  cases hx:eu p 0 with
  |none=>
   cases hy:eu p 1 with
   |none=>rw[hx,hy]at h;cases h
   |some y=>rw[hx,hy]at h;obtain rfl:=oi h;exact⟨Be 1,hy⟩
  |some x=>
   cases hy:eu p 1 with
   |none=>rw[hx,hy]at h;obtain rfl:=oi h;exact⟨Nat.zero_le 1,hx⟩
   |some y=>
    rw[hx,hy]at h
    simp only at h
    by_cases ae:x.dQ<y.dQ
    ·rw[if_pos ae]at h;obtain rfl:=oi h;exact⟨Be 1,hy⟩
    ·rw[if_neg ae]at h;obtain rfl:=oi h;exact⟨Nat.zero_le 1,hx⟩
 exact⟨key.1,alA hb key.2⟩
theorem aiv {k:Nat} (hk:1000000<k) {p:List Pg} (hp:p.length=602) (hb:Bv p) (h:mr p=none):DJ k p=some (0,⟨0,[],0⟩,false):=by
 have a0:BD k p 0=some (jt (eu p 0)):=abc hk hp hb (a:=0) (by decide)
 have a1:BD k p 1=some (jt (eu p 1)):=abc hk hp hb (a:=1) (by decide)
 unfold DJ
 rw[a0,a1]
 simp only[Ae]
 unfold mr at h
 cases hx:eu p 0 with
 |none=>
  cases hy:eu p 1 with
  |none=>
   have e0:(jt none).Ax=0:=rfl
   simp only[e0,Bw,Am]
  |some y=>rw[hx,hy]at h;cases h
 |some x=>
  cases hy:eu p 1 with
  |none=>rw[hx,hy]at h;cases h
  |some y=>
   rw[hx,hy]at h
   simp only at h
   split at h<;>cases h
theorem af0 {k:Nat} (hk:1000000<k) {l:List Ab} (hg:Cz l):BX k l=some ⟨bk ag [] l⟩:=by
 have h50:=hg.len
 unfold BX
 have h:=pF (l:=l) (body:=BX.b0 k l) (fun i s=>(s,i)) (eF ag) (fun i s=>BI ag (l.take i) s) (by omega) (k:=k) (by omega) (s0:=[]) (BI.nil ag) (fun i r s hx hs=>by
  have hi:=(gS.1 hx).1
  have bD:(ag r).2=aA ag (l.take i) (ag r).1:=hg.no hx
  have gn:=hs.len
  rw[Ba]at gn
  have hh:∀ x∈s,jC x:=fun x hx=>nT (hg.ok x (BZ ((hs.mem x).1 hx)))
  have jU:eH s r=(eF ag s r,0):=by
   unfold eH
   rw[abE ag (hs.no ag bD)]
   simp only
   have e:r.At.No=((aA ag s r.At.Aq:Nat):Int):=by
    rw[hs.num];exact bD
   rw[if_neg (by omega),if_neg (by omega)]
  refine⟨?_,?_⟩
  ·unfold BX.b0
   simp only[AE (show (i:Int)<(l.length:Int) by omega),Am,bA hx,Ae,aba hk hs.val.1 (show s.length<=900 by omega) hh (nT (hg.ok r (AU hx))),jU]
  ·rw[take_at hx]
   exact hs.step ag bD) (fun s hs=>by
  unfold BX.b0
  simp only[(by simp:decide ((l.length:Int)<(l.length:Int))=false),Ak])
 rw[h.1]
 rfl
theorem apA {k:Nat} (hk:10000000<k) {d:Ac} (hd:DB d):∃ y,od k d=some y/\Ds k d=some y/\((y=(⟨[],[]⟩,⟨⟨[]⟩,0,0,0⟩,95)\/y=(⟨[],[]⟩,⟨⟨[]⟩,0,0,0⟩,2))\/(y.2.2=0/\y.1=⟨ak d.Af d.Ad,[]⟩/\∃ L,Cz L/\y.2.1.Ah=⟨bk ag [] L⟩)):=by
 have bf:1000000<k:=by omega
 obtain⟨J,ok,h1,h2⟩:=ab3 bf hd.len hd.new []
 have DO:dF k ⟨⟨ak d.Af d.Ad,[]⟩⟩ 0 0=some (mx (ak d.Af d.Ad) 0 0):=oo bf hd.len hd.new [] (a:=0) (by decide) 0
 have DP:dF k ⟨⟨ak d.Af d.Ad,[]⟩⟩ 1 0=some (mx (ak d.Af d.Ad) 1 0):=oo bf hd.len hd.new [] (a:=1) (by decide) 0
 have g0:BJ k (ak d.Af d.Ad) 0 0=some (mx (ak d.Af d.Ad) 0 0):=tX bf hd.len hd.new (a:=0) (by decide) 0
 have g1:BJ k (ak d.Af d.Ad) 1 0=some (mx (ak d.Af d.Ad) 1 0):=tX bf hd.len hd.new (a:=1) (by decide) 0
 cases hm:mr (ak d.Af d.Ad) with
 |none=>
  rw[hm]at h2
  simp only at h2
  subst h2
  refine⟨_,?_,?_,.inl (.inl rfl)⟩
  ·unfold od
   rw[qI bf,hd.ok]
   simp only[Ae,AW,Ak]
   rw[lV hd.ok]
   simp only[Ae]
   rw[pB bf hd.ok]
   simp only[Ae,h1,Bs,Am]
  ·unfold Ds
   rw[sA bf hd.ok]
   simp only[Ae,AW,Ak,(sM bf hd.ok).1,aiv bf hd.len hd.new hm,Bs,Am]
 |some q=>
  rw[hm]at h2
  simp only at h2
  obtain⟨rfl,ha,he,wu,hu⟩:=h2
  obtain⟨q1,q2,q3,q4⟩:=aag hd.new hm
  have hA:jt (some q.2)=⟨q.2.dQ,q.2.fk.map (·.1),(q.2.used:Int)⟩:=rfl
  have n0:=xm (ak d.Af d.Ad) 0 0
  have n1:=xm (ak d.Af d.Ad) 1 0
  have hle:=aiA hd.new 0 0
  have asd:=aiA hd.new 1 0
  have hw:ab (1+max (mx (ak d.Af d.Ad) 0 0) (mx (ak d.Af d.Ad) 1 0))=1+max (mx (ak d.Af d.Ad) 0 0) (mx (ak d.Af d.Ad) 1 0):=aU (by omega) (by omega)
  have zV:ab (max (mx (ak d.Af d.Ad) 0 0) (mx (ak d.Af d.Ad) 1 0)+1)=1+max (mx (ak d.Af d.Ad) 0 0) (mx (ak d.Af d.Ad) 1 0):=by rw[aU (by omega) (by omega)];omega
  by_cases hc:(1000000:Int)<1+max (mx (ak d.Af d.Ad) 0 0) (mx (ak d.Af d.Ad) 1 0)
  ·refine⟨_,?_,?_,.inl (.inr rfl)⟩
   ·unfold od
    rw[qI bf,hd.ok]
    simp only[Ae,AW,Ak]
    rw[lV hd.ok]
    simp only[Ae]
    rw[pB bf hd.ok]
    simp only[Ae,h1,AW,Ak,DO,DP,hw,AE hc,Am]
   ·unfold Ds
    rw[sA bf hd.ok]
    simp only[Ae,AW,Ak,(sM bf hd.ok).1,ab2 bf hd.len hd.new hm,g0,g1,zV,AE hc,Am]
  ·refine⟨(⟨ak d.Af d.Ad,[]⟩,⟨⟨q.2.book⟩,(q.1:Int),1+max (mx (ak d.Af d.Ad) 0 0) (mx (ak d.Af d.Ad) 1 0),(q.2.used:Int)⟩,0),?_,?_,.inr ⟨rfl,rfl,_,q2,by rw[q3]⟩⟩
   ·exact apB bf hd hm (by omega)
   ·unfold Ds
    rw[sA bf hd.ok]
    simp only[Ae,AW,Ak,(sM bf hd.ok).1,ab2 bf hd.len hd.new hm,hA,g0,g1,zV,AI hc,af0 bf q2,q3]
theorem am6 {k:Nat} (hk:1000000<k) {a b:List Ab} (hl:a.length<=100000):∃ c:Bool,fK k a b=some c/\(c=true↔a=b):=by
 unfold fK
 by_cases wk:a.length=b.length
 ·have hd:decide ((a.length:Int)=(b.length:Int))=true:=AE (by omega)
  simp only[hd,AW,Ak]
  have h:=afo (n:=a.length) (body:=fK.b0 k a b) (p:=fun i=>decide (a[i]?=b[i]?)) (c:=false) (by omega) (k:=k) (by omega) (fun i hi=>by
   have hx:a[i]?=some a[i]:=gG hi
   have hy:b[i]?=some (b[i]'(by omega)):=gG _
   unfold fK.b0
   simp only[AE (show (i:Int)<(a.length:Int) by omega),Am,bA hx,bA hy,Ae]
   rw[hx,hy]
   have he:(decide (a[i].At.Aq=(b[i]'(by omega)).At.Aq)&&(decide (a[i].At.No=(b[i]'(by omega)).At.No)&&(decide (a[i].Kind=(b[i]'(by omega)).Kind)&&(decide (a[i].Day=(b[i]'(by omega)).Day)&&(decide (a[i].Bn=(b[i]'(by omega)).Bn)&&(decide (a[i].Of.Aq=(b[i]'(by omega)).Of.Aq)&&(decide (a[i].Of.No=(b[i]'(by omega)).Of.No)&&(a[i].Text.toList==(b[i]'(by omega)).Text.toList))))))))=lE a[i] (b[i]'(by omega)):=rfl
   rw[he]
   cases hc:lE a[i] (b[i]'(by omega)) with
   |true=>rw[xx]at hc;simp only[hc,AW,Ak,Bw,Am]
   |false=>
    have:a[i]≠(b[i]'(by omega)):=fun e=>by rw[<-xx,hc]at e;cases e
    rw[AI (fun e=>this (oi e))]
    rfl) (by
   unfold fK.b0
   simp only[(by simp:decide ((a.length:Int)<(a.length:Int))=false),Ak])
  rw[h]
  refine⟨(List.range a.length).all fun i=>decide (a[i]?=b[i]?),?_,?_⟩
  ·cases (List.range a.length).all fun i=>decide (a[i]?=b[i]?)<;>rfl
  ·rw[List.all_eq_true]
   constructor
   ·intro hq
    apply List.ext_getElem?
    intro i
    by_cases hi:i<a.length
    ·simpa using hq i (by simp[hi])
    ·rw[CK (by omega),CK (by omega)]
   ·rintro rfl;intro i _;simp
 ·have hd:decide ((a.length:Int)=(b.length:Int))=false:=AI (by omega)
  simp only[hd,Bs,Am]
  exact⟨false,rfl,⟨fun h=>(by cases h),fun h=>absurd (congrArg List.length h) wk⟩⟩
theorem adn {k:Nat} (hk:10000000<k) {d:Ac} (hd:DB d) (l:Aw) (hl:l.Ah.Aj.length<=1000):
  (mJ k d l=some 0/\Dj k d l=some 0/\∃ q,FL d l q)\/(mJ k d l=some 94/\Dj k d l=some 94):=by
 have bf:1000000<k:=by omega
 obtain⟨J,ok,h1,h2⟩:=ab3 bf hd.len hd.new []
 have DO:dF k ⟨⟨ak d.Af d.Ad,[]⟩⟩ 0 0=some (mx (ak d.Af d.Ad) 0 0):=oo bf hd.len hd.new [] (a:=0) (by decide) 0
 have DP:dF k ⟨⟨ak d.Af d.Ad,[]⟩⟩ 1 0=some (mx (ak d.Af d.Ad) 1 0):=oo bf hd.len hd.new [] (a:=1) (by decide) 0
 have g0:BJ k (ak d.Af d.Ad) 0 0=some (mx (ak d.Af d.Ad) 0 0):=tX bf hd.len hd.new (a:=0) (by decide) 0
 have g1:BJ k (ak d.Af d.Ad) 1 0=some (mx (ak d.Af d.Ad) 1 0):=tX bf hd.len hd.new (a:=1) (by decide) 0
 cases hm:mr (ak d.Af d.Ad) with
 |none=>
  rw[hm]at h2
  simp only at h2
  subst h2
  refine .inr ⟨?_,?_⟩
  ·unfold mJ
   rw[qI bf,hd.ok]
   simp only[Ae,AW,Ak]
   rw[lV hd.ok]
   simp only[Ae]
   rw[pB bf hd.ok]
   simp only[Ae,h1,Ak]
  ·unfold Dj
   rw[sA bf hd.ok]
   simp only[Ae,Am,z7]
   cases within l.Ax 1 1000000<;>simp only[AW,Bs,Am,Ak,(sM bf hd.ok).1,Ae,aiv bf hd.len hd.new hm]
 |some q=>
  rw[hm]at h2
  simp only at h2
  obtain⟨rfl,ha,he,wu,hu⟩:=h2
  obtain⟨q1,q2,q3,q4⟩:=aag hd.new hm
  have hA:jt (some q.2)=⟨q.2.dQ,q.2.fk.map (·.1),(q.2.used:Int)⟩:=rfl
  have fc:=q2.bi.len
  have iw:=q2.len
  have E2:=oo bf hd.len hd.new [] q1 q.2.used
  have g2:=tX bf hd.len hd.new q1 q.2.used
  obtain⟨cR,cR1,cR2⟩:=ajj hk (a:=l.Ah.Aj) (b:=bk ag [] (q.2.fk.map (·.1))) hl
  obtain⟨cB,cB1,cB2⟩:=am6 bf (a:=l.Ah.Aj) (b:=bk ag [] (q.2.fk.map (·.1))) (by omega)
  have cj:cB=cR:=by
   cases cB<;>cases cR<;>first|rfl|skip
   ·exact absurd (cB2.2 (cR2.1 rfl)) (by simp)
   ·exact absurd (cR2.2 (cB2.1 rfl)) (by simp)
  subst cj
  have anZ:decide (l.Ax<max (mx (ak d.Af d.Ad) 0 0) (mx (ak d.Af d.Ad) 1 0))=(decide (l.Ax<mx (ak d.Af d.Ad) 0 0) || decide (l.Ax<mx (ak d.Af d.Ad) 1 0)):=by
   rw[Bool.eq_iff_iff];simp only[Bool.or_eq_true,decide_eq_true_eq];omega
  have eB:mJ k d l=some (bif decide (l.Bj=(q.1:Int))&&(decide (l.Used=(q.2.used:Int))&&(cB&&(within l.Ax 1 1000000&&(!decide (l.Ax<mx (ak d.Af d.Ad) 0 0)&&(!decide (l.Ax<mx (ak d.Af d.Ad) 1 0)&&!decide (l.Ax<=mx (ak d.Af d.Ad) q.1 q.2.used)))))) then 0 else 94):=by
   unfold mJ
   rw[qI bf,hd.ok]
   simp only[Ae,AW,Ak]
   rw[lV hd.ok]
   simp only[Ae]
   rw[pB bf hd.ok]
   simp only[Ae,h1,Am,ha,hu,wu,q3,cB1,aaa,DO,DP,anZ,E2]
   cases decide (l.Bj=(q.1:Int))<;>cases decide (l.Used=(q.2.used:Int))<;>cases cB<;>cases within l.Ax 1 1000000<;>cases decide (l.Ax<mx (ak d.Af d.Ad) 0 0)<;>cases decide (l.Ax<mx (ak d.Af d.Ad) 1 0)<;>cases decide (l.Ax<=mx (ak d.Af d.Ad) q.1 q.2.used)<;>rfl
  have eR:Dj k d l=some (bif decide (l.Bj=(q.1:Int))&&(decide (l.Used=(q.2.used:Int))&&(cB&&(within l.Ax 1 1000000&&(!decide (l.Ax<mx (ak d.Af d.Ad) 0 0)&&(!decide (l.Ax<mx (ak d.Af d.Ad) 1 0)&&!decide (l.Ax<=mx (ak d.Af d.Ad) q.1 q.2.used)))))) then 0 else 94):=by
   unfold Dj
   rw[sA bf hd.ok]
   simp only[Ae,Am,z7,(sM bf hd.ok).1,ab2 bf hd.len hd.new hm,hA,af0 bf q2,cR1,g0,g1,g2]
   cases decide (l.Bj=(q.1:Int))<;>cases decide (l.Used=(q.2.used:Int))<;>cases cB<;>cases within l.Ax 1 1000000<;>cases decide (l.Ax<mx (ak d.Af d.Ad) 0 0)<;>cases decide (l.Ax<mx (ak d.Af d.Ad) 1 0)<;>cases decide (l.Ax<=mx (ak d.Af d.Ad) q.1 q.2.used)<;>rfl
  rw[eB,eR]
  cases hb:decide (l.Bj=(q.1:Int))&&(decide (l.Used=(q.2.used:Int))&&(cB&&(within l.Ax 1 1000000&&(!decide (l.Ax<mx (ak d.Af d.Ad) 0 0)&&(!decide (l.Ax<mx (ak d.Af d.Ad) 1 0)&&!decide (l.Ax<=mx (ak d.Af d.Ad) q.1 q.2.used)))))) with
  |false=>exact .inr ⟨rfl,rfl⟩
  |true=>
   simp only[A1,Bool.not_eq_true',decide_eq_true_eq,decide_eq_false_iff_not]at hb
   obtain⟨b1,b2,b3,b4,b5,b6,b7⟩:=hb
   refine .inl ⟨rfl,rfl,q,⟨hm,q1,b1,b2,?_,by rw[q3];omega,?_,by omega,by omega,by omega⟩⟩
   ·have:=cB2.1 b3
    rw[q3,<-this]
   ·unfold within at b4
    simpa using b4
theorem agj (e n c:Int) (r:Ab) (i:Nat):AZ (dH e n c (enc r) i).l:=by
 intro y hy
 simp only[dH,jj,Bb,BE,List.not_mem_nil,or_false,List.mem_replicate]at hy
 rcases hy with (((((hy|hy)|hy)|hy)|hy)|hy)
 ·omega
 ·exact np _ _ y hy
 ·exact np _ _ y hy
 ·rcases hy with hy|hy<;>rw[hy,rm]<;>omega
 ·rcases hy with hy|hy
  ·exact al2 r y (Cl (BZ hy))
  ·omega
 ·omega
theorem abl:AZ hz.l:=by
 intro y hy
 have:y=0:=by
  simp only[hz,Aa.rep,List.mem_replicate]at hy
  exact hy.2
 omega
theorem agl {p:List Pg} (h:Bv p) (j s:Nat):AZ (ph p j s).l:=by
 unfold ph
 cases hg:p[j]? with
 |none=>exact abl
 |some g=>
  simp only
  cases hx:g.l[s]? with
  |none=>exact abl
  |some x=>exact h g (AU hg) x (AU hx)
theorem apV {p:List Pg} (h:∀ j s,AZ (ph p j s).l):Bv p:=by
 intro g hg x hx
 obtain⟨j,hj⟩:=BF.1 hg
 obtain⟨s,hs⟩:=BF.1 hx
 have e:ph p j s=x:=by rw[uN hj];unfold sd;rw[hs];rfl
 rw[<-e];exact h j s
theorem DB.more {d:Ac} (h:DB d) {a u:Nat} (ha:a<=1) {H:List Hf} (cH:u+H.length<=602) (hH:∀ x∈H,AZ x.l) (hlen:(d.Ad++eV (ak d.Af d.Ad) a u H H.length 0).length<=1200):DB ⟨d.Af,d.Ad++eV (ak d.Af d.Ad) a u H H.length 0⟩:=by
 obtain⟨k1,k2,k3⟩:=gD.1 h.ok
 have ah9:=afq h.len ha cH H.length 0 (fun _=>rfl)
 have hG:∀ i:Nat,AZ ((H[i]?).getD hz).l:=fun i=>by
  cases hx:H[i]? with
  |none=>exact abl
  |some x=>exact hH x (AU hx)
 have o8:∀ j s,s<2->AZ (tg (ak d.Af d.Ad) a u H 0 j s).l:=fun j s hs=>by
  unfold tg
  split
  ·exact hG _
  ·exact agl h.new j s
 refine⟨gD.2 ⟨k1,hlen,fun w hw=>?_⟩,h.pb,fun w hw x hx=>?_⟩
 ·rcases Bb.1 hw with g|g
  ·exact k3 w g
  ·exact(ah9 w g).1
 ·rcases Bb.1 hw with g|g
  ·exact h.wb w g x hx
  ·obtain⟨s,hs⟩:=BF.1 hx
   have oW:s<2:=by
    have:=(gS.1 hs).1
    have:=w.AH.h
    omega
   have e:sd w.AH s=x:=by unfold sd;rw[hs];rfl
   rw[<-e,(ah9 w g).2 s oW]
   exact o8 _ _ oW
def zD:Ac:=⟨[],[]⟩
def zL:Aw:=⟨⟨[]⟩,0,0,0⟩
theorem aly {k:Nat} (hk:10000000<k) {d:Ac} (hd:DB d) (l:Aw) (hl:l.Ah.Aj.length<=1000) (r:Ab):
  ∃ y,mI k d l r=some y/\Di k d l r=some y/\((y.1=zD/\y.2.1=zL/\y.2.2≠0)\/(y.2.2=0/\DB y.1/\∃ L,Cz L/\y.2.1.Ah=⟨bk ag [] L⟩)):=by
 have bf:1000000<k:=by omega
 rcases adn hk hd l hl with ⟨cB,cR,q,hL⟩|⟨cB,cR⟩
 rotate_left
 ·refine⟨(zD,zL,94),?_,?_,.inl ⟨rfl,rfl,by decide⟩⟩
  ·unfold mI;rw[cB];rfl
  ·unfold Di;rw[cR];rfl
 obtain⟨q1,q2,q3,q4⟩:=aag hd.new hL.ab1
 have oI:=q2.bi
 have fc:=oI.len
 have iw:=q2.len
 have zJ:(q.2.fk.map (·.1)).length=q.2.fk.length:=Bh _
 have dv:l.Ah.Aj=bk ag [] (q.2.fk.map (·.1)):=by rw[hL.book,q3]
 have hs:CI ag l.Ah.Aj:=by rw[dv];exact oI.val.1
 have hh:∀ x∈l.Ah.Aj,jC x:=by rw[dv];exact q2.hh
 have yT:l.Ah.Aj.length=(q.2.fk.map (·.1)).length:=by rw[dv,fc]
 have aB:=abb bf (b:=l.Ah) hs (by omega) hh r
 cases hr:dg r with
 |false=>
  refine⟨(zD,zL,90),?_,?_,.inl ⟨rfl,rfl,by decide⟩⟩
  ·unfold mI
   rw[cB]
   simp only[Ae,Bw,AW,Ak]
   rw[aB,hr]
   rfl
  ·unfold Di
   rw[cR]
   simp only[Ae,Bw,AW,Ak,ym (show 1000<k by omega),hr]
   rfl
 |true=>
  have aR:=aba bf hs (show l.Ah.Aj.length<=900 by omega) hh (nT hr)
  rw[hr]at aB
  simp only[Am]at aB
  by_cases he:(eH l.Ah.Aj r).2=0
  ·cases hf:gR ag l.Ah.Aj (ag r) with
   |some x=>
    have jU:eH l.Ah.Aj r=(l.Ah.Aj,0):=by
     unfold eH at he ⊢
     rw[hf]at he ⊢
     simp only at he ⊢
     split
     ·rfl
     ·rename_i hx
      rw[if_neg hx]at he
      cases he
    have hB:=alz bf hd hL hr hs hh jU
    refine⟨(d,l,0),hB,?_,.inr ⟨rfl,hd,_,q2,by rw[hL.book,q3]⟩⟩
    unfold Di
    rw[cR]
    simp only[Ae,Bw,AW,Ak,ym (show 1000<k by omega),hr,Am,aR,jU,(agD k hd.ok).1]
   |none=>
    have jU:eH l.Ah.Aj r=(eF ag l.Ah.Aj r,0)/\l.Ah.Aj.length≠60/\r.At.No<=((aA ag l.Ah.Aj r.At.Aq:Nat):Int):=by
     unfold eH at he ⊢
     rw[hf]at he ⊢
     simp only at he ⊢
     by_cases c1:((aA ag l.Ah.Aj r.At.Aq:Nat):Int)<r.At.No
     ·rw[if_pos c1]at he;cases he
     ·rw[if_neg c1]at he ⊢
      by_cases c2:(l.Ah.Aj.length:Int)=60
      ·rw[if_pos c2]at he;cases he
      ·rw[if_neg c2]
       exact⟨rfl,by omega,by omega⟩
    obtain⟨jU,asf,hle⟩:=jU
    have bD:(ag r).2=aA ag (q.2.fk.map (·.1)) (ag r).1:=by
     show r.At.No=((aA ag (q.2.fk.map (·.1)) r.At.Aq:Nat):Int)
     rw[dv,oI.num]at hle
     have h0:=(aci hr).2.1.1
     by_cases c3:r.At.No<((aA ag (q.2.fk.map (·.1)) r.At.Aq:Nat):Int)
     ·obtain⟨y,hy,hky⟩:=Fy ag q2.vl r.At.Aq r.At.No h0 (by omega)
      exact absurd hky (yE ag hf y (by rw[dv];exact(oI.mem y).2 hy))
     ·omega
    have hil:=z8 ag l.Ah.Aj r
    have hR':Cz (q.2.fk.map (·.1)++[r]):=by
     refine⟨fun x hx=>?_,?_,by rw[A9,Ft];omega⟩
     ·rcases Bb.1 hx with g|g
      ·exact q2.ok x g
      ·rw[CG.1 g];exact hr
     ·rw[En]
      exact⟨q2.vl,by rw[bD];exact(Int.zero_add _).symm,trivial⟩
    have anz:bk ag [] (q.2.fk.map (·.1)++[r])=eF ag l.Ah.Aj r:=by
     rw[dv];unfold bk;rw[List.foldl_append];rfl
    have ar3:=vK hr
    have ht:=sQ hr
    obtain⟨H,hHe⟩:∃ H,H=cq r (l.Ah.Aj.length:Int) l.Ax:=⟨_,rfl⟩
    have hH:(List.range (bB (enc r).length)).map (dH l.Ax (l.Ah.Aj.length:Int) (bB (enc r).length) (enc r))=H:=hHe.symm
    have hHl:H.length=bB (enc r).length:=by rw[hHe];exact lq _ _ _
    have hHb:∀ x∈H,AZ x.l:=fun x hx=>by
     rw[<-hH]at hx
     obtain⟨i,_,rfl⟩:=List.mem_map.1 hx
     exact agj _ _ _ _ _
    have cH:q.2.used+H.length<=602:=by omega
    have hu:ab (l.Used+(H.length:Int))=((q.2.used+H.length:Nat):Int):=by
     rw[hL.used,aU (by omega) (by omega)];omega
    have hw:=afp bf hd q1 cH
    rw[<-hL.aV,<-hL.used]at hw
    have hwR:=aaL hk hd q1 cH
    rw[<-hL.aV,<-hL.used]at hwR
    obtain⟨W,hW⟩:∃ W,W=d.Ad++eV (ak d.Af d.Ad) q.1 q.2.used H H.length 0:=⟨_,rfl⟩
    rw[<-hW]at hw hwR
    have eB:mI k d l r=some (bif decide ((1200:Int)<(W.length:Int)) then (zD,zL,2) else (⟨d.Af,W⟩,⟨⟨eF ag l.Ah.Aj r⟩,l.Bj,l.Ax,((q.2.used+H.length:Nat):Int)⟩,0)):=by
     unfold mI
     rw[cB]
     simp only[Ae,Bw,AW,Ak]
     rw[aB,jU]
     simp only[Ae,Bw,AW,Ak]
     rw[lV hd.ok]
     simp only[Ae]
     unfold ry
     rw[abr (show l.Ah.Aj.length<=1000 by omega)]
     simp only[Ae,AI (show ¬ ((eF ag l.Ah.Aj r).length:Int)=(l.Ah.Aj.length:Int) by omega),Ak]
     rw[aeW (show 100000<k by omega) ht,hH]
     simp only[Ae,hu,AI (show ¬ (602:Int)<((q.2.used+H.length:Nat):Int) by omega),Ak,hw]
     cases decide ((1200:Int)<(W.length:Int))<;>rfl
    have eR:Di k d l r=some (bif decide ((1200:Int)<(W.length:Int)) then (zD,zL,2) else (⟨d.Af,W⟩,⟨⟨eF ag l.Ah.Aj r⟩,l.Bj,l.Ax,((q.2.used+H.length:Nat):Int)⟩,0)):=by
     unfold Di
     rw[cR]
     simp only[Ae,Bw,AW,Ak,ym (show 1000<k by omega),hr,Am,aR,jU,AI (show ¬ ((eF ag l.Ah.Aj r).length:Int)=(l.Ah.Aj.length:Int) by omega),abL (show 100000<k by omega) ht,hH,hwR,hu]
     cases decide ((1200:Int)<(W.length:Int))<;>rfl
    refine⟨_,eB,eR,?_⟩
    by_cases hc:(1200:Int)<(W.length:Int)
    ·rw[AE hc];exact .inl ⟨rfl,rfl,by simp⟩
    ·rw[AI hc]
     refine .inr ⟨rfl,?_,_,hR',by rw[anz];rfl⟩
     rw[hW]at hc
     have:=hd.more q1 cH hHb (by omega)
     rw[<-hW]at this
     exact this
  ·refine⟨(zD,zL,(eH l.Ah.Aj r).2),?_,?_,.inl ⟨rfl,rfl,he⟩⟩
   ·unfold mI
    rw[cB]
    simp only[Ae,Bw,AW,Ak]
    rw[aB]
    simp only[Ae,AI he,Bs,Am]
    rfl
   ·unfold Di
    rw[cR]
    simp only[Ae,Bw,AW,Ak,ym (show 1000<k by omega),hr,Am,aR,AI he,Bs]
    rfl
theorem al3 {g:Pg} (h:∀ x∈g.l,AZ x.l) (s:Nat):AZ (sd g s).l:=by
 unfold sd
 cases hx:g.l[s]? with
 |none=>exact abl
 |some x=>exact h x (AU hx)
theorem amr {k:Nat} (hk:1000000<k) {d:Ac} (hd:DB d) (eU:List Int) (xb:eU.length<=4611686018427387904):
  ∃ p',ba k d eU=some ⟨p',[]⟩/\DB ⟨p',[]⟩:=by
 obtain⟨h1,h2,h3⟩:=gD.1 hd.ok
 have step:∀ (i:Nat) w (p:List Pg),d.Ad[i]?=some w->p.length=602->∃ p',ba.b0 k eU ⟨d⟩ ((i:Int),p)=some (.next (ab ((i:Int)+1),p'))/\Part p p' w:=by
  intro i w p hx hp
  have hi:=(gS.1 hx).1
  have hw:=h3 w (AU hx)
  unfold ba.b0
  simp only[AE (show (i:Int)<((d.Ad.length:Nat):Int) by omega),Am,bA hx,Ae]
  obtain⟨m,rfl⟩:∃ m,k=m+3:=⟨k - 3,by omega⟩
  have sh0:∀ s:Nat,s<2->lL (s:Int)=some ():=fun s hs=>by unfold lL;rw[if_neg (by omega)]
  by_cases hz:(0:Int)<(eU.length:Int)
  ·have oS:pk (eU.length:Int)=some ():=by unfold pk;rw[if_neg (by omega)]
   obtain⟨x,uE⟩:∃ x,at? eU (Int.tmod (i:Int) (eU.length:Int))=some x:=by
    rw[<-Int.ofNat_tmod]
    have ae:i % eU.length<eU.length:=Nat.mod_lt _ (by omega)
    exact⟨_,bA (gG ae)⟩
   simp only[AE hz,Am,oS,uE,Ae]
   obtain⟨p',g1,g2⟩:=ajr (w:=w) hw (body:=ba.b1 (m+3) w x) (c:=fun s=>decide (dW .i64 (Int.fdiv (dW .i64 x 3) (2 ^ (min (Int.toNat (s:Int)) 64))) 1=(1:Int))) (fun s p hs hp=>by
    unfold ba.b1
    simp only[AE (show (s:Int)<2 by omega),Am,sh0 s hs,Ae]) (fun p=>by
    unfold ba.b1
    simp only[(by decide:decide ((2:Int)<2)=false),Ak]) hp m
   exact⟨p',by rw[g1];rfl,g2⟩
  ·simp only[AI hz,Ak]
   obtain⟨p',g1,g2⟩:=ajr (w:=w) hw (body:=ba.pP (m+3) w) (c:=fun s=>decide (dW .i64 (Int.fdiv 0 (2 ^ (min (Int.toNat (s:Int)) 64))) 1=(1:Int))) (fun s p hs hp=>by
    unfold ba.pP
    simp only[AE (show (s:Int)<2 by omega),Am,sh0 s hs,Ae]) (fun p=>by
    unfold ba.pP
    simp only[(by decide:decide ((2:Int)<2)=false),Ak]) hp m
   exact⟨p',by rw[g1];rfl,g2⟩
 have key:∀ (n i m:Nat) (p:List Pg),i+n=d.Ad.length->n<m->p.length=602->(∀ j s,AZ (ph p j s).l)->
   ∃ p',aj (ba.b0 k eU ⟨d⟩) m ((i:Int),p)=some (.brk p')/\p'.length=602/\(∀ j s,AZ (ph p' j s).l):=by
  intro n
  induction n with
  |zero=>
   intro i m p g1 g2 g3 g4
   obtain⟨m,rfl⟩:∃ q,m=q+1:=⟨m - 1,by omega⟩
   have hb:ba.b0 k eU ⟨d⟩ ((i:Int),p)=some (.brk p):=by
    unfold ba.b0
    simp only[AI (show ¬ (i:Int)<((d.Ad.length:Nat):Int) by omega),Ak]
   exact⟨p,by simp only[aj,hb],g3,g4⟩
  |succ n ih=>
   intro i m p g1 g2 g3 g4
   obtain⟨m,rfl⟩:∃ q,m=q+1:=⟨m - 1,by omega⟩
   obtain⟨w,hw⟩:∃ w,d.Ad[i]?=some w:=⟨_,gG (by omega)⟩
   obtain⟨p1,a1,a2,a3⟩:=step i w p hw g3
   have zX:ab ((i:Int)+1)=((i+1:Nat):Int):=by rw[aU (by omega) (by omega)];omega
   rw[zX]at a1
   obtain⟨p',b1,b2⟩:=ih (i+1) m p1 (by omega) (by omega) a2 (fun j s=>by
    rcases a3 j s with e|⟨e1,e2⟩
    ·rw[e];exact g4 j s
    ·rw[e2];exact al3 (hd.wb w (AU hw)) s)
   exact⟨p',by simp only[aj,a1,b1],b2⟩
 unfold ba
 rw[lV hd.ok,qI hk,hd.ok]
 simp only[Ae,AW,Ak]
 obtain⟨p',b1,b2,b3⟩:=key d.Ad.length 0 k d.Af (by omega) (by omega) h1 (fun j s=>agl hd.pb j s)
 rw[CY]at b1
 exact⟨p',by rw[b1];rfl,⟨gD.2 ⟨b2,by simp,by simp⟩,apV b3,by simp⟩⟩
def nR (l:List Ab) (e:Int):Nat->List Hf
 |0=>[]
 |n+1=>nR l e n++(match l[n]? with|some r=>cq r (n:Int) e|none=>[])
theorem acf {l:List Ab}{e:Int} (h:∀ r∈l,dg r=true):∀ n,(nR l e n).length<=10*n
 |0=>Be _
 |n+1=>by
  have:=acf (e:=e) h n
  rw[nR,A9]
  cases hx:l[n]? with
  |none=>simp only[Az];omega
  |some r=>
   simp only
   have:=vK (h r (AU hx))
   rw[lq]
   omega
theorem aeQ {l:List Ab}{e:Int}:∀ n,∀ x∈nR l e n,AZ x.l
 |0,x,h=>by simp[nR]at h
 |n+1,x,h=>by
  rw[nR,Bb]at h
  rcases h with h|h
  ·exact aeQ n x h
  ·cases hx:l[n]? with
   |none=>rw[hx]at h;simp at h
   |some r=>
    rw[hx]at h
    simp only at h
    unfold cq at h
    obtain⟨i,_,rfl⟩:=List.mem_map.1 h
    exact agj _ _ _ _ _
theorem agk (e n:Int):AZ (bR e n).l:=by
 intro y hy
 simp only[bR,BE,List.not_mem_nil,or_false,Bb,List.mem_replicate]at hy
 have h8:∀ x:Int,0<=IntKind.u8.wrap x/\IntKind.u8.wrap x<256:=fun x=>by rw[rm];omega
 have a1:=h8 (Int.fdiv e (2 ^ 16))
 have a2:=h8 (Int.fdiv e (2 ^ 8))
 have a3:=h8 e
 have a4:=h8 (Int.fdiv n (2 ^ 8))
 have a5:=h8 n
 omega
theorem aeR {R:Type}{k:Nat} (hk:1000000<k) {l:List Ab} (hl:l.length<=60) (hr:∀ r∈l,dg r=true) {e:Int}{body:Int×List Hf->Option (AT (Int×List Hf) (List Hf) R)}
  (h1:∀ (i:Nat) (r:Ab) (s:List Hf),l[i]?=some r->body ((i:Int),s)=(dN 32 s (cq r (i:Int) e)).bind fun fI=>some (.next (ab ((i:Int)+1),fI)))
  (h2:∀ s,body ((l.length:Int),s)=some (.brk s)):aj body k (0,[])=some (.brk (nR l e l.length)):=by
 have h:=acL (n:=l.length) (body:=body) (fun i s=>(i,s)) (fun s i=>s++(match l[i]? with|some r=>cq r (i:Int) e|none=>[])) (fun i s=>s=nR l e i) (by omega) (k:=k) (by omega) (s0:=[]) rfl (fun i s hi hs=>by
  obtain⟨r,hx⟩:∃ r,l[i]?=some r:=⟨_,gG hi⟩
  have hL:=acf (e:=e) hr i
  have hc:=vK (hr r (AU hx))
  have hHl:=lq r (i:Int) e
  refine⟨?_,by rw[hs,nR]⟩
  rw[h1 i r s hx,hs,lQ (by omega) (by omega),Ae,hx]) (fun s hs=>h2 s)
 rw[h.1,h.2]
theorem apQ {k:Nat} (hk:10000000<k) {d:Ac} (hd:DB d) (l:Aw) (hl:l.Ah.Aj.length<=1000):
  ∃ y,BH k d l=some y/\((y.1=[]/\y.2.1=zL/\y.2.2≠0)\/(y.2.2=0/\∃ d1 d2 d3 d4 d5,y.1=[d1,d2,d3,d4,d5]/\DB d1/\DB d2/\DB d3/\DB d4/\DB d5/\y.2.1.Ah=l.Ah/\∃ L,Cz L/\l.Ah=⟨bk ag [] L⟩)):=by
 have bf:1000000<k:=by omega
 rcases adn hk hd l hl with ⟨cB,cR,q,hL⟩|⟨cB,cR⟩
 rotate_left
 ·refine⟨([],zL,94),?_,.inl ⟨rfl,rfl,by decide⟩⟩
  unfold BH;rw[cR];rfl
 obtain⟨q1,q2,q3,q4⟩:=aag hd.new hL.ab1
 have oI:=q2.bi
 have fc:=oI.len
 have iw:=q2.len
 have dv:l.Ah.Aj=bk ag [] (q.2.fk.map (·.1)):=by rw[hL.book,q3]
 have qn:∀ r∈l.Ah.Aj,dg r=true:=fun r hr=>by rw[dv]at hr;exact q2.ok r ((oI.mem r).1 hr)
 have yT:l.Ah.Aj.length<=60:=by rw[dv,fc];exact iw
 have hep:=hL.ep
 by_cases hE:l.Ax=1000000
 ·refine⟨([],zL,2),?_,.inl ⟨rfl,rfl,by decide⟩⟩
  unfold BH
  rw[cR]
  simp only[Ae,Bw,AW,Ak,AE hE,Am]
  rfl
 have he:ab (l.Ax+1)=l.Ax+1:=aU (by omega) (by omega)
 have oP:=aeR (R:=List Ac×Aw×Int) bf yT qn (e:=l.Ax+1) (body:=BH.b0 k l) (fun i r s hx=>by
  have hi:=(gS.1 hx).1
  have hH:(List.range (bB (enc r).length)).map (dH (l.Ax+1) (i:Int) (bB (enc r).length) (enc r))=cq r (i:Int) (l.Ax+1):=rfl
  unfold BH.b0
  simp only
  rw[AE (show (i:Int)<(l.Ah.Aj.length:Int) by omega),Am,bA hx,Ae,he,abL (show 100000<k by omega) (sQ (qn r (AU hx))),hH,Ae]) (fun s=>by
  unfold BH.b0
  simp only
  rw[AI (Int.lt_irrefl _),Ak])
 have hAl:=acf (e:=l.Ax+1) qn l.Ah.Aj.length
 have yO:=aeQ (l:=l.Ah.Aj) (e:=l.Ax+1) l.Ah.Aj.length
 generalize hA:nR l.Ah.Aj (l.Ax+1) l.Ah.Aj.length=A at oP hAl yO
 have har:ab (1 - l.Bj)=((1 - q.1:Nat):Int):=by rw[hL.aV,aU (by omega) (by omega)];omega
 have cA:1 - q.1<=1:=by omega
 have kI:=uV bf hd.ok
 have oJ:DB ⟨ak d.Af d.Ad,[]⟩:=hd.sync
 generalize ak d.Af d.Ad=P1 at kI oJ
 have eo:=aaL hk oJ cA (u:=1) (l:=A) (by omega)
 have gm:=xP P1 (1 - q.1) 1 A A.length 0
 have gV:=oJ.more cA (u:=1) (H:=A) (by omega) yO (by simp only[sG,Bt];omega)
 simp only[sG,Bt]at eo gV
 generalize eV P1 (1 - q.1) 1 A A.length 0=w1 at eo gV
 have qE:=uV bf gV.ok
 have oK:DB ⟨ak P1 w1,[]⟩:=gV.sync
 simp only at qE
 generalize ak P1 w1=P3 at qE oK
 have jE:=aaL hk oK cA (u:=0) (l:=[bR (l.Ax+1) (l.Ah.Aj.length:Int)]) (by simp)
 have jY:=xP P3 (1 - q.1) 0 [bR (l.Ax+1) (l.Ah.Aj.length:Int)] [bR (l.Ax+1) (l.Ah.Aj.length:Int)].length 0
 have mU:=oK.more cA (u:=0) (H:=[bR (l.Ax+1) (l.Ah.Aj.length:Int)]) (by simp) (fun x hx=>by rw[CG.1 hx];exact agk _ _) (by
  simp only[sG,Bt]
  simp only[Ft]at jY ⊢
  omega)
 simp only[sG,Bt]at jE mU
 generalize eV P3 (1 - q.1) 0 [bR (l.Ax+1) (l.Ah.Aj.length:Int)] [bR (l.Ax+1) (l.Ah.Aj.length:Int)].length 0=w2 at jE mU
 have uz:=uV bf mU.ok
 have y9:DB ⟨ak P3 w2,[]⟩:=mU.sync
 simp only at uz
 generalize ak P3 w2=P5 at uz y9
 have aej:BK k ⟨P1,[]⟩ ((1 - q.1:Nat):Int) 1 A=some ⟨P1,w1⟩:=eo
 have aek:BK k ⟨P3,[]⟩ ((1 - q.1:Nat):Int) 0 [bR (l.Ax+1) (l.Ah.Aj.length:Int)]=some ⟨P3,w2⟩:=jE
 refine⟨([⟨P1,[]⟩,⟨P1,w1⟩,⟨P3,[]⟩,⟨P3,w2⟩,⟨P5,[]⟩],⟨l.Ah,((1 - q.1:Nat):Int),l.Ax+1,ab (1+((A.length:Nat):Int))⟩,0),?_,.inr ⟨rfl,_,_,_,_,_,rfl,oJ,gV,oK,mU,y9,rfl,_,q2,by rw[hL.book,q3]⟩⟩
 unfold BH
 rw[cR]
 simp only[Ae,Bw,AW,Ak,AI hE,agB (show l.Ah.Aj.length<=1000 by omega),oP,kI,har,aej,qE,he,abN (show 100<k by omega),aek,uz]
theorem ajV {n:Nat}{α:Type}{eq:α->α->Bool} (h:∀ x,eq x x=true) (v:Aa n α):Aa.eq eq v v=true:=by
 unfold Aa.eq
 have key:∀ l:List α,(l.zip l).all (fun p=>eq p.1 p.2)=true:=by
  intro l
  induction l with
  |nil=>rfl
  |cons x l ih=>rw[List.zip_cons_cons,List.all_cons,h,ih];rfl
 exact key v.l
theorem arj {n:Nat} (v:Aa n Int):Aa.eq (fun(x y:Int)=>decide (x=y)) v v=true:=ajV (eq:=fun(x y:Int)=>decide (x=y)) (fun x=>by simp) v
theorem ajU {n m:Nat} (v:Aa n (Aa m Int)):Aa.eq (Aa.eq fun(x y:Int)=>decide (x=y)) v v=true:=ajV (fun x=>arj x) v
theorem ae8 {k:Nat} (hk:10000000<k) {d:Ac} (h1:d.Af.length<=1000) (h2:d.Ad.length<=2000):AX k d d=some true:=by
 unfold AX
 simp only[Bw,Am]
 have w1:=pF (l:=d.Af) (body:=AX.b0 k d d) (fun i s=>(s,i)) (fun s x=>true) (fun i s=>s=true) (by omega) (k:=k) (by omega) (s0:=true) rfl (fun i x s hx hs=>by
  have hi:=(gS.1 hx).1
  subst hs
  refine⟨?_,rfl⟩
  unfold AX.b0
  have hv:Aa.eq (Aa.eq fun(x y:Int)=>decide (x=y)) x x=true:=ajU _
  simp only[AE (show (i:Int)<(d.Af.length:Int) by omega),Am,bA hx,Ae,hv]) (fun s hs=>by
  unfold AX.b0
  simp only[(by simp:decide ((d.Af.length:Int)<(d.Af.length:Int))=false),Ak])
 rw[w1.1]
 have e1:d.Af.foldl (fun(s:Bool) x=>true) true=true:=w1.2
 simp only[Ae,e1]
 have w2:=pF (l:=d.Ad) (body:=AX.b1 k d d) (fun i s=>(s,i)) (fun s x=>true) (fun i s=>s=true) (by omega) (k:=k) (by omega) (s0:=true) rfl (fun i x s hx hs=>by
  have hi:=(gS.1 hx).1
  subst hs
  refine⟨?_,rfl⟩
  unfold AX.b1
  have hv:Aa.eq (Aa.eq fun(x y:Int)=>decide (x=y)) x.AH x.AH=true:=ajU _
  simp only[AE (show (i:Int)<(d.Ad.length:Int) by omega),Am,bA hx,Ae,hv,Bw,Bool.and_self]) (fun s hs=>by
  unfold AX.b1
  simp only[(by simp:decide ((d.Ad.length:Int)<(d.Ad.length:Int))=false),Ak])
 rw[w2.1]
 have e2:d.Ad.foldl (fun(s:Bool) x=>true) true=true:=w2.2
 simp only[Ae,e2]
theorem ae9 {k:Nat} (hk:10000000<k) {l:Aw} (hl:l.Ah.Aj.length<=1000):DH k l l=some true:=by
 unfold DH
 rw[aqB hk hl]
 simp only[Ae,Am,Bw]
structure Jn (d:Ac) (l:Aw):Prop where
 db:DB d
 book:∃ L,Cz L/\l.Ah=⟨bk ag [] L⟩
theorem Jn.len {d:Ac}{l:Aw} (h:Jn d l):l.Ah.Aj.length<=60:=by
 obtain⟨L,h1,h2⟩:=h.book
 have:=h1.bi.len
 have:=h1.len
 rw[h2];simp only;omega
theorem Jn.hh {d:Ac}{l:Aw} (h:Jn d l):∀ r∈l.Ah.Aj,jC r:=by
 obtain⟨L,h1,h2⟩:=h.book
 rw[h2];exact h1.hh
theorem aiC {k:Nat} (hk:10000000<k):Ej k=some (⟨gY,[]⟩,⟨⟨[]⟩,0,1,1⟩):=by
 have hm:kM 602 64 ((Aa.rep 2 ((Aa.rep 32 (0:Int)):(Aa 32 Int))):(Aa 2 (Aa 32 Int)))=some (List.replicate 602 pz):=by
  unfold kM mk?
  rw[if_pos (by decide)]
  rfl
 have hl:(List.replicate 602 pz).length=602:=CP
 have h0:(List.replicate 602 pz)[0]?=some pz:=by rw[List.getElem?_replicate];rfl
 have ha:at? (List.replicate 602 pz) 0=some pz:=bA h0
 have hp0:pz.at? 0=some hz:=rfl
 unfold Ej
 rw[hm]
 simp only[Ae,abN (show 100<k by omega),ha,hp0]
 unfold dM
 rw[if_pos (by rw[hl];decide)]
 rfl
theorem amV {k:Nat} (hk:10000000<k) {d:Ac}{l:Aw} (h:Jn d l) (y:BC) (hp:y.Dh.length<=4611686018427387904):∃ z,Fb k d l y=some z/\Jn z.1 z.2:=by
 have bf:1000000<k:=by omega
 have hlen:=h.len
 unfold Fb
 rw[mw k y.Kind (m:=8) (by decide) (by decide)]
 simp only[Ae]
 by_cases c5:y.Kind % 8=5
 ·simp only[AE c5,Am,uV bf h.db.ok,Ae]
  exact⟨_,rfl,h.db.sync,h.book⟩
 ·simp only[AI c5,Ak]
  by_cases c6:y.Kind % 8=6
  ·simp only[AE c6,Am]
   obtain⟨z,h1,h2⟩:=apQ hk h.db l (by omega)
   rw[h1]
   simp only[Ae]
   rcases h2 with ⟨_,_,h3⟩|⟨h3,d1,d2,d3,d4,d5,h4,_,_,_,_,h5,h6,h7⟩
   ·simp only[AI h3,Ak]
    exact⟨_,rfl,h⟩
   ·rw[h4]
    simp only[h3,Bw,Am]
    have:at? [d1,d2,d3,d4,d5] (ab (((5:Nat):Int) - 1))=some d5:=rfl
    simp only[AA,Az,Co,Nat.reduceAdd,this,Ae]
    exact⟨_,rfl,h5,by simp only[h6];exact h7⟩
  ·simp only[AI c6,Ak]
   by_cases c7:y.Kind % 8=7
   ·simp only[AE c7,Am]
    obtain⟨p,h1,h2⟩:=amr bf h.db y.Dh hp
    rw[amq hk h.db,h1]
    simp only[Ae]
    obtain⟨z,_,h3,h4⟩:=apA hk h2
    rw[h3]
    simp only[Ae]
    rcases h4 with (rfl|rfl)|⟨h5,h6,h7⟩
    ·exact⟨_,rfl,h⟩
    ·exact⟨_,rfl,h⟩
    ·simp only[h5,Bw,Am]
     refine⟨_,rfl,?_,h7⟩
     rw[h6]
     exact h2.sync
   ·simp only[AI c7,Ak]
    obtain⟨r,h1,_⟩:=aqr bf (show l.Ah.Aj.length<=100 by omega) h.hh y.Ab
    obtain⟨z,_,h3,h4⟩:=aly hk h.db l (by omega) r
    rw[h1]
    simp only[Ae,h3]
    rcases h4 with ⟨_,_,h5⟩|⟨h5,h6,h7⟩
    ·simp only[AI h5,Ak]
     exact⟨_,rfl,h⟩
    ·simp only[h5,Bw,Am]
     exact⟨_,rfl,h6,h7⟩
theorem aih {k:Nat} (hk:10000000<k) (l0:List BC) (hp:∀ y∈l0,y.Dh.length<=4611686018427387904):∃ z,BT k l0=some z/\Jn z.1 z.2:=by
 have dE:Jn ⟨gY,[]⟩ ⟨⟨[]⟩,0,1,1⟩:=⟨Jr.new.db,[],⟨by simp,trivial,by simp⟩,rfl⟩
 have key:∀ (n i m:Nat) (d:Ac) (l:Aw),i+n=12->n<m->Jn d l->∃ z,aj (BT.b0 k l0) m (d,l,(i:Int))=some (.brk z)/\Jn z.1 z.2:=by
  intro n
  induction n with
  |zero=>
   intro i m d l g1 g2 g3
   obtain⟨m,rfl⟩:∃ q,m=q+1:=⟨m - 1,by omega⟩
   have hb:BT.b0 k l0 (d,l,(i:Int))=some (.brk (d,l)):=by
    unfold BT.b0
    simp only[AI (show ¬ (i:Int)<12 by omega),Ak]
    cases decide ((i:Int)<(l0.length:Int))<;>rfl
   exact⟨(d,l),by simp only[aj,hb],g3⟩
  |succ n ih=>
   intro i m d l g1 g2 g3
   obtain⟨m,rfl⟩:∃ q,m=q+1:=⟨m - 1,by omega⟩
   by_cases hi:i<l0.length
   ·have hx:l0[i]?=some l0[i]:=gG hi
    obtain⟨z,h1,h2⟩:=amV hk g3 l0[i] (hp _ (List.getElem_mem hi))
    have zX:ab ((i:Int)+1)=((i+1:Nat):Int):=by rw[aU (by omega) (by omega)];omega
    have hb:BT.b0 k l0 (d,l,(i:Int))=some (.next (z.1,z.2,((i+1:Nat):Int))):=by
     unfold BT.b0
     simp only[AE (show (i:Int)<(l0.length:Int) by omega),AE (show (i:Int)<12 by omega),Am,bA hx,Ae,h1,zX]
    obtain⟨y,h3,h4⟩:=ih (i+1) m z.1 z.2 (by omega) (by omega) h2
    exact⟨y,by simp only[aj,hb,h3],h4⟩
   ·have hb:BT.b0 k l0 (d,l,(i:Int))=some (.brk (d,l)):=by
     unfold BT.b0
     simp only[AI (show ¬ (i:Int)<(l0.length:Int) by omega),Ak]
    exact⟨(d,l),by simp only[aj,hb],g3⟩
 obtain⟨z,h1,h2⟩:=key 12 0 k ⟨gY,[]⟩ ⟨⟨[]⟩,0,1,1⟩ (by omega) (by omega) dE
 unfold BT
 rw[aiC hk]
 rw[CY]at h1
 simp only[Ae,h1]
 exact⟨z,rfl,h2⟩
theorem ajS {n:Nat}{α:Type} (v:Aa n α) {i:Int} (h0:0<=i) (h1:i<n):∃ x,v.at? i=some x/\x∈v.l:=by
 unfold Aa.at?
 have hl:=v.h
 have ae:i.toNat<v.l.length:=by omega
 rw[if_pos ⟨h0,h1⟩,gG ae]
 exact⟨_,rfl,List.getElem_mem ae⟩
theorem aix {n:Nat}{α:Type}{v:Aa n α}{i:Int}{x y:α} (h:y∈(v.set i x).l):y∈v.l\/y=x:=by
 unfold Aa.set at h
 exact List.mem_or_eq_of_mem_set h
theorem aoD (k:Nat) {P:List AH} (hP:P.length=602) (hb:Bv P) (s:Bd):∃ P',abV k P s=some P'/\P'.length=602/\Bv P':=by
 have B1:=pe s.AH (m:=602) (by decide)
 have B2:=pe s.DL (m:=2) (by decide)
 have B3:=pe s.At (m:=32) (by decide)
 unfold abV
 rw[mw k s.AH (m:=602) (by decide) (by decide),mw k s.DL (m:=2) (by decide) (by decide),mw k s.At (m:=32) (by decide) (by decide)]
 simp only[Ae]
 have ae:(s.AH % 602).toNat<P.length:=by omega
 have hx:P[(s.AH % 602).toNat]?=some P[(s.AH % 602).toNat]:=gG ae
 have ha:at? P (s.AH % 602)=some P[(s.AH % 602).toNat]:=by
  have:=bA hx
  rw[Int.toNat_of_nonneg B1.1]at this
  exact this
 obtain⟨h,h1,h2⟩:=ajS P[(s.AH % 602).toNat] (i:=s.DL % 2) B2.1 B2.2
 obtain⟨m0,m1,m2⟩:=ajS h (i:=s.At % 32) B3.1 B3.2
 rw[ha]
 simp only[Ae,h1,m1]
 refine⟨_,rfl,by rw[C5];exact hP,fun g hg x hx=>?_⟩
 rcases List.mem_or_eq_of_mem_set hg with e|e
 ·exact hb g e x hx
 ·subst e
  rcases aix hx with e|e
  ·exact hb _ (List.getElem_mem ae) x e
  ·subst e
   intro y hy
   rcases aix hy with e|e
   ·exact hb _ (List.getElem_mem ae) h h2 y e
   ·subst e
    have:=rm s.CL
    omega
theorem aib (k:Nat):∀ (l:List Bd) {P:List AH},P.length=602->Bv P->∃ P',sy k P l=some P'/\P'.length=602/\Bv P'
 |[],P,h1,h2=>⟨P,rfl,h1,h2⟩
 |s::l,P,h1,h2=>by
  obtain⟨Q,q1,q2,q3⟩:=aoD k h1 h2 s
  obtain⟨R,r1,r2,r3⟩:=aib k l q2 q3
  exact⟨R,by rw[sy,q1];exact r1,r2,r3⟩
theorem aoB {k:Nat} (hk:10000000<k) (l0:List BC) (hp:∀ y∈l0,y.Dh.length<=4611686018427387904) (cu:List Bd) (hs:cu.length<=4611686018427387904) (cut:Int):∃ d,E6 k l0 cu cut=some d/\DB d:=by
 obtain⟨z,h1,h2⟩:=aih hk l0 hp
 obtain⟨g1,g2,g3⟩:=gD.1 h2.db.ok
 obtain⟨P,p1,p2,p3⟩:=aib k (cu.take 6) g1 h2.db.pb
 unfold E6
 rw[if_pos hs,h1]
 simp only[Ae,p1]
 have full:DB ⟨P,z.1.Ad⟩:=⟨gD.2 ⟨p2,g2,g3⟩,p3,h2.db.wb⟩
 by_cases c1:0<cut
 ·simp only[AE c1,Am]
  by_cases c2:(0:Int)<(z.1.Ad.length:Int)
  ·have hw:ab ((z.1.Ad.length:Int)+1)=(z.1.Ad.length:Int)+1:=aU (by omega) (by omega)
   have B:=pe cut (m:=(z.1.Ad.length:Int)+1) (by omega)
   have jE:ab ((z.1.Ad.length:Int) - cut % ((z.1.Ad.length:Int)+1))=(z.1.Ad.length:Int) - cut % ((z.1.Ad.length:Int)+1):=aU (by omega) (by omega)
   simp only[AE c2,Am,hw,mw k cut (m:=(z.1.Ad.length:Int)+1) (by omega) (by omega),Ae,jE]
   have hh:nK z.1.Ad.length ((z.1.Ad.length:Int) - cut % ((z.1.Ad.length:Int)+1))=some ():=by unfold nK;rw[if_pos (by omega)]
   rw[hh]
   refine⟨_,rfl,gD.2 ⟨p2,?_,fun w hw=>g3 w (BZ hw)⟩,p3,fun w hw=>h2.db.wb w (BZ hw)⟩
   simp only[Ba];omega
  ·simp only[AI c2,Ak]
   exact⟨_,rfl,full⟩
 ·simp only[AI c1,Ak]
  exact⟨_,rfl,full⟩
def EU (d:Ac):Prop:=DB d\/(d.Af.length=601/\d.Ad.length<=1200)
theorem amG {k:Nat} (hk:10000000<k) (x0:Ce) (hp:∀ y∈x0.Dp,y.Dh.length<=4611686018427387904) (hs:x0.Em.length<=4611686018427387904):∃ d,EX k x0=some d/\EU d:=by
 obtain⟨d,h1,h2⟩:=aoB hk x0.Dp hp x0.Em hs x0.Cut
 obtain⟨g1,g2,g3⟩:=gD.1 h2.ok
 unfold EX
 rw[h1]
 simp only[Ae]
 cases hc:x0.Fx with
 |false=>exact⟨d,rfl,.inl h2⟩
 |true=>
  have e1:cg d.Af 1 d.Af.length=some ((d.Af.drop 1).take (d.Af.length - 1)):=by
   unfold cg
   rw[if_pos (by omega)]
   congr 2
  have e2:((d.Af.drop 1).take (d.Af.length - 1)).length=601:=by
   rw[Ba,Bp];omega
  have e3:fo ((d.Af.drop 1).take (d.Af.length - 1)).length 64=some ():=by
   rw[e2];unfold fo;rw[if_pos (by decide)]
  simp only[Am,e1,Ae,e3]
  exact⟨_,rfl,.inr ⟨e2,g2⟩⟩
section
variable {k:Nat}{d:Ac}
theorem aqH (h:d.Af.length=601):jO d=false:=by
 cases hc:jO d with
 |false=>rfl
 |true=>have:=(gD.1 hc).1;omega
theorem aqI (h:d.Af.length=601):B7 k d=some false:=by
 unfold B7
 simp only[AI (show ¬ (d.Af.length:Int)=602 by omega),Ak]
theorem EU.same (hk:10000000<k) (h:EU d):AX k d d=some true:=by
 rcases h with h|⟨h,hw⟩
 ·obtain⟨g1,g2,_⟩:=gD.1 h.ok
  exact ae8 hk (by omega) (by omega)
 ·exact ae8 hk (by omega) (by omega)
end
theorem aoZ {k:Nat} (hk:10000000<k) (x0:Ce) (c1:Cw) (hp:∀ y∈x0.Dp,y.Dh.length<=4611686018427387904):∃ l,EY k x0 c1=some l/\l.Ah.Aj.length<=60:=by
 obtain⟨z,h1,h2⟩:=aih hk x0.Dp hp
 have hl:=h2.len
 unfold EY
 rw[h1,Ae,mw k c1.DM (m:=8) (by decide) (by decide),Ae]
 by_cases e0:c1.DM % 8=0
 ·simp only[AE e0,Am];exact⟨_,rfl,hl⟩
 simp only[AI e0,Ak]
 by_cases e1:c1.DM % 8=1
 ·simp only[AE e1,Am];exact⟨_,rfl,hl⟩
 simp only[AI e1,Ak]
 by_cases e2:c1.DM % 8=2
 ·simp only[AE e2,Am];exact⟨_,rfl,hl⟩
 simp only[AI e2,Ak]
 by_cases e3:c1.DM % 8=3
 ·simp only[AE e3,Am]
  by_cases e4:(0:Int)<(z.2.Ah.Aj.length:Int)
  ·have h3:cg z.2.Ah.Aj 1 z.2.Ah.Aj.length=some ((z.2.Ah.Aj.drop 1).take (z.2.Ah.Aj.length - 1)):=by
    unfold cg
    rw[if_pos (by omega)]
    congr 2
   have h4:((z.2.Ah.Aj.drop 1).take (z.2.Ah.Aj.length - 1)).length<=60:=by
    rw[Ba,Bp];omega
   have h5:fo ((z.2.Ah.Aj.drop 1).take (z.2.Ah.Aj.length - 1)).length 72=some ():=by
    unfold fo;rw[if_pos ⟨by omega,by omega⟩]
   simp only[AE e4,Am,h3,Ae,h5]
   exact⟨_,rfl,h4⟩
  ·simp only[AI e4,Ak]
   exact⟨_,rfl,hl⟩
 ·simp only[AI e3,Ak]
  exact⟨_,rfl,hl⟩
section
variable {k:Nat}{d:Ac}
end
theorem aaw {k:Nat}{c:List Ac}{d:Ac} (hd:jO d=true) (hc:c.length<=100):pS k c ⟨d⟩=some (c++[d],⟨d⟩):=by
 unfold pS
 rw[lV hd,Ae,pq (by omega) (by omega),Ae]
theorem apR {k:Nat} (hk:10000000<k) {d:Ac} (hd:DB d) (l:Aw) (hl:l.Ah.Aj.length<=1000):
  ∃ y,fO k d l=some y/\BH k d l=some y/\(∀ e∈y.1,DB e)/\y.1.length<=5/\y.2.1.Ah.Aj.length<=1000:=by
 have bf:1000000<k:=by omega
 rcases adn hk hd l hl with ⟨cB,cR,q,hL⟩|⟨cB,cR⟩
 rotate_left
 ·refine⟨([],zL,94),?_,?_,by simp,by simp,by simp[zL]⟩
  ·unfold fO;rw[cB];rfl
  ·unfold BH;rw[cR];rfl
 obtain⟨q1,q2,q3,q4⟩:=aag hd.new hL.ab1
 have oI:=q2.bi
 have fc:=oI.len
 have iw:=q2.len
 have dv:l.Ah.Aj=bk ag [] (q.2.fk.map (·.1)):=by rw[hL.book,q3]
 have qn:∀ r∈l.Ah.Aj,dg r=true:=fun r hr=>by rw[dv]at hr;exact q2.ok r ((oI.mem r).1 hr)
 have yT:l.Ah.Aj.length<=60:=by rw[dv,fc];exact iw
 have hep:=hL.ep
 by_cases hE:l.Ax=1000000
 ·refine⟨([],zL,2),?_,?_,by simp,by simp,by simp[zL]⟩
  ·unfold fO
   rw[cB]
   simp only[Ae,Bw,AW,Ak,AE hE,Am]
   rfl
  ·unfold BH
   rw[cR]
   simp only[Ae,Bw,AW,Ak,AE hE,Am]
   rfl
 have he:ab (l.Ax+1)=l.Ax+1:=aU (by omega) (by omega)
 have oP:=aeR (R:=List Ac×Aw×Int) bf yT qn (e:=l.Ax+1) (body:=BH.b0 k l) (fun i r s hx=>by
  have hi:=(gS.1 hx).1
  have hH:(List.range (bB (enc r).length)).map (dH (l.Ax+1) (i:Int) (bB (enc r).length) (enc r))=cq r (i:Int) (l.Ax+1):=rfl
  unfold BH.b0
  simp only
  rw[AE (show (i:Int)<(l.Ah.Aj.length:Int) by omega),Am,bA hx,Ae,he,abL (show 100000<k by omega) (sQ (qn r (AU hx))),hH,Ae]) (fun s=>by
  unfold BH.b0
  simp only
  rw[AI (Int.lt_irrefl _),Ak])
 have ahQ:=aeR (R:=List Ac×Aw×Int) bf yT qn (e:=l.Ax+1) (body:=fO.b0 k l) (fun i r s hx=>by
  have hi:=(gS.1 hx).1
  have hH:(List.range (bB (enc r).length)).map (dH (l.Ax+1) (i:Int) (bB (enc r).length) (enc r))=cq r (i:Int) (l.Ax+1):=rfl
  unfold fO.b0
  simp only
  rw[AE (show (i:Int)<(l.Ah.Aj.length:Int) by omega),Am,bA hx,Ae,he,aeW (show 100000<k by omega) (sQ (qn r (AU hx))),hH,Ae]) (fun s=>by
  unfold fO.b0
  simp only
  rw[AI (Int.lt_irrefl _),Ak])
 have hAl:=acf (e:=l.Ax+1) qn l.Ah.Aj.length
 have yO:=aeQ (l:=l.Ah.Aj) (e:=l.Ax+1) l.Ah.Aj.length
 generalize hA:nR l.Ah.Aj (l.Ax+1) l.Ah.Aj.length=A at oP ahQ hAl yO
 have har:ab (1 - l.Bj)=((1 - q.1:Nat):Int):=by rw[hL.aV,aU (by omega) (by omega)];omega
 have cA:1 - q.1<=1:=by omega
 have kI:=uV bf hd.ok
 have uA:=pB bf hd.ok
 have oJ:DB ⟨ak d.Af d.Ad,[]⟩:=hd.sync
 generalize ak d.Af d.Ad=P1 at kI uA oJ
 have eo:=aaL hk oJ cA (u:=1) (l:=A) (by omega)
 have iz:=afp bf oJ cA (u:=1) (l:=A) (by omega)
 have gm:=xP P1 (1 - q.1) 1 A A.length 0
 have gV:=oJ.more cA (u:=1) (H:=A) (by omega) yO (by simp only[sG,Bt];omega)
 simp only[sG,Bt]at eo iz gV
 generalize eV P1 (1 - q.1) 1 A A.length 0=w1 at eo iz gV
 have qE:=uV bf gV.ok
 have ht3:=pB bf gV.ok
 have oK:DB ⟨ak P1 w1,[]⟩:=gV.sync
 simp only at qE ht3
 generalize ak P1 w1=P3 at qE ht3 oK
 have jE:=aaL hk oK cA (u:=0) (l:=[bR (l.Ax+1) (l.Ah.Aj.length:Int)]) (by simp)
 have sr:=afp bf oK cA (u:=0) (l:=[bR (l.Ax+1) (l.Ah.Aj.length:Int)]) (by simp)
 have jY:=xP P3 (1 - q.1) 0 [bR (l.Ax+1) (l.Ah.Aj.length:Int)] [bR (l.Ax+1) (l.Ah.Aj.length:Int)].length 0
 have mU:=oK.more cA (u:=0) (H:=[bR (l.Ax+1) (l.Ah.Aj.length:Int)]) (by simp) (fun x hx=>by rw[CG.1 hx];exact agk _ _) (by
  simp only[sG,Bt]
  simp only[Ft]at jY ⊢
  omega)
 simp only[sG,Bt]at jE sr mU
 generalize eV P3 (1 - q.1) 0 [bR (l.Ax+1) (l.Ah.Aj.length:Int)] [bR (l.Ax+1) (l.Ah.Aj.length:Int)].length 0=w2 at jE sr mU
 have uz:=uV bf mU.ok
 have ht5:=pB bf mU.ok
 have y9:DB ⟨ak P3 w2,[]⟩:=mU.sync
 simp only at uz ht5
 generalize ak P3 w2=P5 at uz ht5 y9
 have aej:BK k ⟨P1,[]⟩ ((1 - q.1:Nat):Int) 1 A=some ⟨P1,w1⟩:=eo
 have aek:BK k ⟨P3,[]⟩ ((1 - q.1:Nat):Int) 0 [bR (l.Ax+1) (l.Ah.Aj.length:Int)]=some ⟨P3,w2⟩:=jE
 have aom:bK k ⟨⟨P1,[]⟩⟩ ((1 - q.1:Nat):Int) 1 A=some ⟨⟨P1,w1⟩⟩:=iz
 have aon:bK k ⟨⟨P3,[]⟩⟩ ((1 - q.1:Nat):Int) 0 [bR (l.Ax+1) (l.Ah.Aj.length:Int)]=some ⟨⟨P3,w2⟩⟩:=sr
 have bF:ry k l=some l:=by
  unfold ry
  rw[abr (show l.Ah.Aj.length<=1000 by omega)]
  rfl
 have hh:tE k (l.Ax+1) (l.Ah.Aj.length:Int)=some (bR (l.Ax+1) (l.Ah.Aj.length:Int)):=ad5 _ _ _
 refine⟨([⟨P1,[]⟩,⟨P1,w1⟩,⟨P3,[]⟩,⟨P3,w2⟩,⟨P5,[]⟩],⟨l.Ah,((1 - q.1:Nat):Int),l.Ax+1,ab (1+((A.length:Nat):Int))⟩,0),?_,?_,?_,by simp,by simp only;omega⟩
 ·unfold fO
  rw[cB]
  simp only[Ae,Bw,AW,Ak,AI hE,bF,ahQ]
  rw[lV hd.ok]
  simp only[Ae]
  rw[uA]
  simp only[Ae]
  rw[aaw oJ.ok (by simp)]
  simp only[Ae,Bt,har,aom]
  rw[aaw gV.ok (by simp)]
  simp only[Ae,Bg,Bt,ht3]
  rw[aaw oK.ok (by simp)]
  simp only[Ae,Bg,Bt,he,hh,aon]
  rw[aaw mU.ok (by simp)]
  simp only[Ae,Bg,Bt,ht5]
  rw[aaw y9.ok (by simp)]
  simp only[Ae,Bg,Bt]
 ·unfold BH
  rw[cR]
  simp only[Ae,Bw,AW,Ak,AI hE,agB (show l.Ah.Aj.length<=1000 by omega),oP,kI,har,aej,qE,he,abN (show 100<k by omega),aek,uz]
 ·intro e he
  simp only[BE,List.not_mem_nil,or_false]at he
  rcases he with rfl|rfl|rfl|rfl|rfl<;>assumption
theorem aji {k:Nat} (hk:10000000<k) {l:List Ac} (hl:l.length<=5) (h:∀ e∈l,DB e):Ch k l l=some true:=by
 unfold Ch
 simp only[Bw]
 have w1:=pF (l:=l) (body:=Ch.b0 k l l) (fun i s=>(s,i)) (fun s x=>true) (fun i s=>s=true) (by omega) (k:=k) (by omega) (s0:=true) rfl (fun i x s hx hs=>by
  have hi:=(gS.1 hx).1
  subst hs
  refine⟨?_,rfl⟩
  unfold Ch.b0
  simp only[AE (show (i:Int)<(l.length:Int) by omega),Am,bA hx,Ae,EU.same hk (.inl (h x (AU hx)))]) (fun s hs=>by
  unfold Ch.b0
  simp only[(by simp:decide ((l.length:Int)<(l.length:Int))=false),Ak])
 rw[w1.1]
 have e1:l.foldl (fun(s:Bool) x=>true) true=true:=w1.2
 simp only[Ae,e1]
theorem apS {k:Nat}{d:Ac} (hk:10000000<k) (h:EU d) (l:Aw) (hl:l.Ah.Aj.length<=1000):∃ y,fO k d l=some y/\BH k d l=some y/\Ch k y.1 y.1=some true/\DH k y.2.1 y.2.1=some true:=by
 rcases h with h|⟨h,hw⟩
 ·obtain⟨y,h1,h2,h3,h4,h5⟩:=apR hk h l hl
  exact⟨y,h1,h2,aji hk h4 h3,ae9 hk h5⟩
 ·refine⟨([],zL,94),?_,?_,aji hk (by simp) (by simp),ae9 hk (by simp[zL])⟩
  ·unfold fO mJ
   rw[qI (show 1000000<k by omega),aqH h]
   rfl
  ·unfold BH Dj
   rw[aqI h]
   rfl
theorem alJ (x0:Ce) (c1:Cw) (hp:∀ y∈x0.Dp,y.Dh.length<=4611686018427387904) (hs:x0.Em.length<=4611686018427387904):EW 18446744073709551616 x0 c1=some true:=by
 have hk:10000000<18446744073709551616:=by decide
 obtain⟨d,h1,h2⟩:=amG hk x0 hp hs
 obtain⟨l,l1,l2⟩:=aoZ hk x0 c1 hp
 obtain⟨y,y1,y2,y3,y4⟩:=apS hk h2 l (by omega)
 have hn:gY.length=602:=by unfold gY;rw[C5,CP]
 have n1:AX 18446744073709551616 ⟨gY,[]⟩ ⟨gY,[]⟩=some true:=ae8 hk (by simp only;omega) (by simp)
 have n2:DH 18446744073709551616 ⟨⟨[]⟩,0,1,1⟩ ⟨⟨[]⟩,0,1,1⟩=some true:=ae9 hk (by simp)
 unfold EW
 rw[aqD,h1]
 simp only[Ae,l1,y1,y2,y3,y4,ape,aiC hk,n1,n2,Am,Bw]
end Go.Abs
namespace Go.Proofs.YtpgccpdlilnakaaGreat.bookPacks
open Go.Abs
theorem plain (a0:Go.Abs.Ce) (a1:Go.Abs.Cw):Go.Abs.Ce.q a0->Go.Abs.Cw.q a1->∃ k,EW k a0 a1=some true:=by
 intro q0 q1;exact⟨_,alJ a0 a1 (fun y hy=>by have h:=(q0.1.2.2 y hy).2.2.2.1;have:=aiX;omega) (by have h:=q0.2.1.2.1;have:=aiX;omega)⟩
end Go.Proofs.YtpgccpdlilnakaaGreat.bookPacks
namespace Go.Proofs.YtpgccpdlilnakaaGreat.bookPacks
open Go.ChangeShapes Go.WideShapes Go.ChangeAt Go.RowKit Go.Abs
theorem own:ownKnob Tryz.prog.godebug=none:=by kernel_rfl
theorem amm (H:Type) (enc:TypeId×Value->H) (W:World) (base:Nat) (args:Array Value) (ds gs:List (DataW H)) (before:List MemPlace)
  (qG:∀ (j:Nat) t v,Tryz.f3.params[j]?=some t->args[j]?=some v->Value.okWide Tryz.prog W .any base t v)
  (hW:DataW.Whole enc Tryz.prog Tryz.f3.params.toList Rows.bookPacksSpec.vars false W args.toList ds gs before) (aod:(DataW.weightsEach Tryz.prog (Tryz.f3.params.toList++Rows.bookPacksSpec.plain.varTypes Tryz.prog) (ds++gs)).all (·<=reachBytes)=true):
  Calls Tryz.prog 3 args W fun e W'=>∃ v,e=.returned v/\Rows.bookPacksSpec.post enc Tryz.prog Tryz.f3 false true false false W args v W':=by
 have hW':=hW
 obtain⟨p,q,hA0,hV,rfl,nD,bY⟩:=hW
 have hA:DataW.TrodAll enc Tryz.prog W 0 (fun _=>true) true Tryz.f3.params.toList args.toList ds p:=hA0
 rw[Tryz.params3]at hA qG
 obtain⟨v0,vs0,d0,ds0,p0,q0,fE,rfl,rfl,h0,r0⟩:=trodAll_cons hA
 obtain⟨v1,vs1,d1,ds1,p1,q1,rfl,rfl,rfl,h1,r1⟩:=trodAll_cons r0
 obtain⟨rfl,rfl,rfl⟩:=trodAll_nil r1
 have ax:∀ (j:Nat) t d,Tryz.f3.params.toList[j]?=some t->[d0,d1][j]?=some d->∀ n∈d.weights Tryz.prog t,n<=reachBytes:=arq (by rw[Tryz.params3];rfl) aod
 rw[Tryz.params3]at ax
 obtain rfl:args=#[v0,v1]:=by cases args;simp_all
 obtain⟨a0,Q0,V0⟩:=afT aqi (by have h:=qG 0 25 v0 rfl rfl;unfold Value.okWide at h;rw[Tryz.underlying25]at h;obtain⟨cs,h,_⟩:=h;exact⟨cs,h⟩) h0 (ax 0 25 d0 rfl rfl)
 obtain⟨a1,Q1,V1⟩:=afT aqk (by have h:=qG 1 31 v1 rfl rfl;unfold Value.okWide at h;rw[Tryz.underlying31]at h;obtain⟨cs,h,_⟩:=h;exact⟨cs,h⟩) h1 (ax 1 31 d1 rfl rfl)
 obtain⟨k,hk⟩:=plain a0 a1 Q0 Q1
 have hv:Av (qk W) [] [.agg (Go.Abs.Ce.c a0),.agg (Go.Abs.Cw.c a1)] [v0,v1]:=⟨rfl,fun i x v h1 h2=>by
  match i with
  |0=>cases h1;cases h2;exact V0
  |1=>cases h1;cases h2;exact V1
  |i+2=>simp at h1⟩
 refine Calls.mono ((IE k a0 a1 true hk).2 (qk W) W _ (fun _ _ _ h=>h) hv) ?_
 rintro e W1 ⟨v,y,ei,rfl,rfl,_,bg,_,hB⟩
 cases bg
 exact⟨_,rfl,aoW (t:=4) (by kernel_rfl) (by kernel_rfl) (by kernel_rfl) hW' rfl hB (by rw[Tryz.params3];decide +kernel) rfl Tryz.underlying4 (by obtain⟨rfl,_⟩:=trodVars_none hV;rfl)⟩
theorem lifted (os:Os) (started:os.Started) (H:Type) (enc:TypeId×Value->H):
  ReturnsInHanded {} Tryz.checked os 3 .any (Rows.bookPacksSpec.pre6 enc Tryz.prog Tryz.f3 Rows.bookPacksRow.domain false) (Rows.bookPacksSpec.post enc Tryz.prog Tryz.f3 false true false false):=by
 refine returnsInHanded_of_change_sized (C:=Tryz.checked) own started (by kernel_rfl) Tryz.func3
  (ChangeSpec.witness6 (enc:=enc) (C:=Tryz.checked) false ⟨#[],#[.agg #[.slice none 0 0,.slice none 0 0,.int .i64 0,.bool false],.agg #[.int .i64 0,.int .i64 0,.int .i64 0,.int .i64 0,.int .i64 0,.int .i64 0,.int .i64 0,.int .i64 0,.int .i64 0,.string ⟨#[]⟩]],[]⟩ 8 (by kernel_rfl) (by kernel_rfl) (by kernel_rfl) (by kernel_rfl)) ?_
 intro W base args ds gs before aoi hW ar6 ax _
 exact amm H enc W base args ds gs before aoi hW ax
theorem apJ:Rows.bookPacksRow.holds Tryz.pinned (OpenSpec.ofChange Rows.bookPacksSpec):=
 OpenClaim.holds_of_wide 3 Tryz.f3 rfl rfl rfl rfl rfl rfl rfl ⟨rfl,rfl,rfl,rfl,rfl⟩ rfl rfl rfl rfl rfl (by kernel_rfl) Tryz.func3 (by kernel_rfl)
  (of_decide_eq_true (by kernel_rfl)) (by unfold Func.isWrapper;first|(rw[if_pos (by decide +kernel)];kernel_rfl)|(rw[if_neg (by decide +kernel)];exact⟨rfl,rfl⟩))
  (fun os started H enc _=>lifted os started H enc)
theorem proved:Rows.BookPacksSaid:=apJ
end Go.Proofs.YtpgccpdlilnakaaGreat.bookPacks
