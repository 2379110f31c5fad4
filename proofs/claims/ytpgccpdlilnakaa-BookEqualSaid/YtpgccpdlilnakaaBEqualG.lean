/-
  Part 7 of the proof: a machine over named blocks, what each function computes, and what follows. No condition.
-/
import Derived.Test.YtpgccpdlilnakaaRows
import Derived.WalkKit
import Derived.ProofKit
import Derived.OpenShut
import Derived.JoinedCond
import Derived.Test.YtpgccpdlilnakaaBEqualF
set_option linter.unusedVariables false
set_option linter.unusedSimpArgs false
set_option linter.all false
set_option maxRecDepth 100000
set_option maxHeartbeats 8000000
namespace Go.Abs
open Go Go.Proofs
set_option maxRecDepth 20000
set_option linter.unusedVariables false
set_option linter.unusedSimpArgs false
def ZaM (l:List Record) (K:Vec 6 Int):Nat:=l.countP fun r=>decide (g6 K r.At.House.toNat≤r.At.No)
theorem ZkR {α:Type}{p q:α→Bool}:∀ {l:List α},(∀ x∈l,q x=true→p x=true)→(∃ x∈l,p x=true∧q x=false)→l.countP q<l.countP p
 |[],_,h=>by obtain⟨x,hx,_⟩:=h;simp at hx
 |y::l,h1,h2=>by
  have hle:l.countP q≤l.countP p:=List.countP_mono_left (fun x hx=>h1 x (by simp[hx]))
  rw[List.countP_cons,List.countP_cons]
  obtain⟨x,hx,hp,hq⟩:=h2
  rcases List.mem_cons.1 hx with rfl|hx
  ·rw[hp,hq];simp;omega
  ·have:=ZkR (l:=l) (fun z hz=>h1 z (by simp[hz])) ⟨x,hx,hp,hq⟩
   have hy:=h1 y (by simp)
   cases hqy:q y with
   |false=>simp;split<;>omega
   |true=>rw[hy hqy];simp;omega
theorem Zt8 (log:List Record) (r:Record):∃ ex,rcv log r=log++ex∧∀ x∈ex,x=r:=by
 unfold rcv
 split
 ·exact⟨[],by simp,by simp⟩
 ·split
  ·exact⟨[],by simp,by simp⟩
  ·exact⟨[r],rfl,by simp⟩
theorem Zna:∀ (rs log:List Record),∃ ex,ZcI log rs=log++ex∧∀ x∈ex,x∈rs
 |[],log=>⟨[],by simp[ZcI],by simp⟩
 |r::rs,log=>by
  obtain⟨e1,h1,h2⟩:=Zt8 log r
  obtain⟨e2,h3,h4⟩:=Zna rs (rcv log r)
  refine⟨e1++e2,?_,fun x hx=>?_⟩
  ·show ZcI (rcv log r) rs=_
   rw[h3,h1,List.append_assoc]
  ·rcases List.mem_append.1 hx with g|g
   ·simp[h2 x g]
   ·simp[h4 x g]
theorem Zlw {l:List Record} (hl:LogOK l) {K:Vec 6 Int} (hK:∀ x,0≤g6 K x) {r:Record}{rest:List Record} (h:Zdn (bk Zax [] l) K=r::rest):r.At.No=g6 K r.At.House.toNat:=by
 have hbi:=hl.bi
 have hmem:=ZeM (b:=bk Zax [] l) (K:=K) (r:=r) (by rw[h];simp)
 have hrl:=(hbi.mem r).1 hmem.1
 by_cases e:r.At.No=g6 K r.At.House.toNat
 ·exact e
 ·exfalso
  have hlt:=Znm Zax hl.vl r hrl
  have h1:r.At.No<0+((cnt Zax l r.At.House:Nat):Int):=hlt.2
  have hk0:=hK r.At.House.toNat
  have hho:=Zby (hl.ok r hrl)
  obtain⟨y,hy,hky⟩:=ZhL Zax hl.vl r.At.House (g6 K r.At.House.toNat) (by omega) (by omega)
  have y1:y.At.House=r.At.House:=congrArg Prod.fst hky
  have y2:y.At.No=g6 K r.At.House.toNat:=congrArg Prod.snd hky
  have hyb:=(hbi.mem y).2 hy
  unfold Zdn at h
  cases hf:(bk Zax [] l).filter (fun r=>decide (g6 K r.At.House.toNat≤r.At.No)) with
  |nil=>rw[hf]at h;simp at h
  |cons z zs=>
   rw[hf]at h
   have hz:z=r:=by
    have:=h
    simp only[List.take_succ_cons,List.cons.injEq]at this
    exact this.1
   have hsrt:Srt Zax ((bk Zax [] l).filter fun r=>decide (g6 K r.At.House.toNat≤r.At.No)):=List.Pairwise.filter _ hbi.val.1
   have hyf:y∈(bk Zax [] l).filter fun r=>decide (g6 K r.At.House.toNat≤r.At.No):=List.mem_filter.2 ⟨hyb,by rw[y1,y2];simp⟩
   rw[hf]at hsrt hyf
   have hlt2:eLt (Zax y) (Zax r):=.inr ⟨y1,by show y.At.No<r.At.No;omega⟩
   rcases List.mem_cons.1 hyf with q|q
   ·rw[q,hz]at hlt2;exact Zgz _ hlt2
   ·have:=(List.pairwise_cons.1 hsrt).1 y q
    rw[hz]at this
    exact ZmN this hlt2
section
variable {hs:Nat→House}{L:Nat→List Record}{F:Nat→Nat}{t k:Nat}
theorem Zj6 (w:W hs [] L F t) (hk:1000000<k) (ht:t≤40) {i j:Nat} (hi:i≤2) (hj:j≤2) (hne:j≠i):
  ∃ hx s hy back hx' F',Za6 k (hs i) (hs j).Me=some (hx,s,0)∧Zal k (hs j) s=some (hy,back,0)∧
   (∀ body:House×Int→Option (Stp (House×Int) House Bool),(∀ a (q:Int),body (a,q)=bif decide (q<(back.length:Int)) then (at? back q).bind fun x23=>(Zal k a x23).bind fun x24=>bif (!decide (x24.2.2=(0:Int))) then some (.ret false) else some (.next (x24.1,w64 (q+1))) else some (.brk a))→whl body k (hx,0)=some (.brk hx'))∧
   W (up (up hs i hx') j hy) [] (up L j (ZcI (L j) s.Records)) F' t∧
   (∀ x∈s.Records,x∈L i)∧
   (s.Records=[]→∀ r∈L i,∃ y∈L j,Zax y=Zax r)∧
   ZaM (L i) (kr hx'.Known j)+ZaM (ZcI (L j) s.Records) (kr hy.Known i)+(if s.Records=[] then 0 else 1)≤ZaM (L i) (kr (hs i).Known j)+ZaM (L j) (kr (hs j).Known i):=by
 obtain⟨hx,o1,o2,o3,w1,o4,o5,o6⟩:=w.offer hk hi hj hne ht
 have hjm:=(w.hi j hj).me
 have hbi:=(w.hi i hi).good.bi
 generalize hsr:Zdn (bk Zax [] (L i)) (kr (hs i).Known j)=sr at o1 o4 o5
 have hsrm:∀ x∈sr,x∈L i∧g6 (kr (hs i).Known j) x.At.House.toNat≤x.At.No:=fun x hx=>by
  rw[←hsr]at hx
  have:=ZeM hx
  exact⟨(hbi.mem x).1 this.1,this.2⟩
 obtain⟨hy,r1,r2,r3,w2,r4,r5⟩:=w1.receive hk o4 ht o5 o6
 have hupj:up hs i hx j=hs j:=Zdd _ _ hne
 have hLj:up L i (L i) j=L j:=Zdd _ _ hne
 rw[hupj]at r1 r2 r3
 rw[hLj]at r1 r4 r5 w2
 simp only at r1 r2 r3 r4 r5 w2
 have hgood2:=(w2.hi j hj).good
 rw[ZaY]at hgood2
 obtain⟨ex,x1,x2⟩:=Zna sr (L j)
 have hin:∀ r∈L i,ZcA r:=fun r hr=>Zby ((w.hi i hi).good.ok r hr)
 have hnat:∀ r∈L i,∃ x:Nat,x<6∧r.At.House=(x:Int)∧r.At.House.toNat=x:=fun r hr=>by
  obtain⟨h1,h2⟩:=hin r hr
  obtain⟨x,e⟩:=Int.eq_ofNat_of_zero_le h1
  exact⟨x,by omega,e,by omega⟩
 have hKy:∀ r∈L i,r.At.No<g6 (kr hy.Known i) r.At.House.toNat:=fun r hr=>by
  obtain⟨x,q1,q2,q3⟩:=hnat r hr
  rw[Zma,q3,r3 i x,if_pos ⟨rfl,q1⟩,Zhv _ q1]
  have h3:r.At.No<0+((cnt Zax (L i) r.At.House:Nat):Int):=(Znm Zax (w.vl hi) r hr).2
  rw[q2]at h3
  omega
 have htodo2:ZaM (ZcI (L j) sr) (kr hy.Known i)≤ZaM (L j) (kr (hs j).Known i):=by
  unfold ZaM
  rw[x1,List.countP_append]
  have h0:ex.countP (fun r=>decide (g6 (kr hy.Known i) r.At.House.toNat≤r.At.No))=0:=by
   rw[List.countP_eq_zero]
   intro r hr
   have:=hKy r (hsrm r (x2 r hr)).1
   simp only[decide_eq_true_eq]
   omega
  rw[h0,Nat.add_zero]
  apply List.countP_mono_left
  intro r hr
  simp only[decide_eq_true_eq]
  intro h
  have hmono:g6 (kr (hs j).Known i) r.At.House.toNat≤g6 (kr hy.Known i) r.At.House.toNat:=by
   rw[Zma,Zma,r3 i]
   split<;>omega
  omega
 by_cases he:sr=[]
 ·
  subst he
  refine⟨hx,_,hy,_,hx,up (up F i (L i).length) j (ZcI (L j) []).length,by rw[hjm];exact o1,r1,fun body hb=>?_,?_,by simp,fun _ r hr=>?_,?_⟩
  ·obtain⟨m,rfl⟩:∃ q,k=q+1:=⟨k - 1,by omega⟩
   have:body (hx,0)=some (.brk hx):=by rw[hb];rfl
   simp only[whl,this]
  ·have e:up (up L i (L i)) j (ZcI (L j) [])=up L j (ZcI (L j) []):=by
    funext q
    unfold up
    by_cases a:q=j
    ·rw[if_pos a,if_pos a]
    ·rw[if_neg a,if_neg a]
     by_cases b:q=i
     ·rw[if_pos b,b]
     ·rw[if_neg b]
   rw[←e];exact w2
  ·
   obtain⟨x,q1,q2,q3⟩:=hnat r hr
   have hnot:¬ g6 (kr (hs i).Known j) r.At.House.toNat≤r.At.No:=fun c=>by
    have hmem:r∈(bk Zax [] (L i)).filter fun r=>decide (g6 (kr (hs i).Known j) r.At.House.toNat≤r.At.No):=List.mem_filter.2 ⟨(hbi.mem r).2 hr,by simpa using c⟩
    unfold Zdn at hsr
    cases hf:(bk Zax [] (L i)).filter (fun r=>decide (g6 (kr (hs i).Known j) r.At.House.toNat≤r.At.No)) with
    |nil=>rw[hf]at hmem;simp at hmem
    |cons z zs=>rw[hf]at hsr;simp at hsr
   have hkno:=w.kno i j x hi hj q1
   rw[Zma,q3]at hnot
   have hsub:=ZdO (Zfk Zax (w.vl hj) (F j)) (w.vl hj) (x:Int) (fun r hr _=>List.mem_of_mem_take hr)
   have h0:=(Zfb ((w.hi i hi).good.ok r hr)).2.1.1
   obtain⟨y,hy1,hy2⟩:=ZhL Zax (w.vl hj) (x:Int) r.At.No h0 (by omega)
   exact⟨y,hy1,by rw[hy2,←q2];rfl⟩
  ·rw[if_pos rfl,o2]
   show ZaM (L i) (kr (hs i).Known j)+ZaM (ZcI (L j) []) (kr hy.Known i)+0≤_
   omega
 ·
  rw[if_neg he]at r1
  obtain⟨r0,rest,hr0⟩:∃ r0 rest,sr=r0::rest:=by
   cases sr with
   |nil=>exact absurd rfl he
   |cons a b=>exact⟨a,b,rfl⟩
  obtain⟨hx',s1,s2,s3,w3,_⟩:=w2.receive hk (i:=i) (f:=j) r4 ht (by simp) r5
  have hupi:up (up hs i hx) j hy i=hx:=by rw[Zdd _ _ (Ne.symm hne),ZaY]
  have hLi:up (up L i (L i)) j (ZcI (L j) sr) i=L i:=by rw[Zdd _ _ (Ne.symm hne),ZaY]
  rw[hupi]at s1 s2 s3
  rw[hLi]at w3
  rw[if_pos rfl]at s1
  simp only at s3 w3
  have hrz:ZcI (L i) []=L i:=rfl
  rw[hrz]at w3
  have r0m:=hsrm r0 (by rw[hr0];simp)
  obtain⟨x,q1,q2,q3⟩:=hnat r0 r0m.1
  have hhead:r0.At.No=g6 (kr (hs i).Known j) r0.At.House.toNat:=Zlw (w.hi i hi).good (fun x=>((w.hi i hi).kb j x).1) (hsr.trans hr0)
  have hkno:=w.kno i j x hi hj q1
  have hsub:=ZdO (Zfk Zax (w.vl hj) (F j)) (w.vl hj) (x:Int) (fun r hr _=>List.mem_of_mem_take hr)
  rw[Zma,q3]at hhead
  have hgot:r0∈ZcI (L j) sr:=by
   rw[hr0]
   show r0∈ZcI (rcv (L j) r0) rest
   apply ZfZ
   unfold rcv
   rw[q2,if_neg (by omega)]
   split
   ·assumption
   ·simp
  have hgotlt:r0.At.No<0+((cnt Zax (ZcI (L j) sr) r0.At.House:Nat):Int):=(Znm Zax hgood2.vl r0 hgot).2
  have hKx:∀ x,x<6→kn hx'.Known j x=max (kn (hs i).Known j x) ((cnt Zax (ZcI (L j) sr) (x:Int):Nat):Int):=fun x hx=>by
   rw[s3 j x,if_pos ⟨rfl,hx⟩,o2,Zhv _ hx]
  have htodo1:ZaM (L i) (kr hx'.Known j)<ZaM (L i) (kr (hs i).Known j):=by
   unfold ZaM
   refine ZkR (fun r hr h=>?_) ⟨r0,r0m.1,decide_eq_true r0m.2,?_⟩
   ·simp only[decide_eq_true_eq]at h ⊢
    obtain⟨x,z1,z2,z3⟩:=hnat r hr
    rw[Zma,z3]at h ⊢
    rw[hKx x z1]at h
    omega
   ·apply decide_eq_false
    rw[Zma,q3,hKx x q1]
    rw[q2]at hgotlt
    omega
  refine⟨hx,_,hy,_,hx',up (up (up F i (L i).length) j (ZcI (L j) sr).length) i (L i).length,by rw[hjm];exact o1,r1,fun body hb=>?_,?_,fun x hx=>(hsrm x hx).1,fun c=>absurd c he,?_⟩
  ·obtain⟨m,rfl⟩:∃ q,k=q+2:=⟨k - 2,by omega⟩
   have h0:body (hx,0)=some (.next (hx',1)):=by
    rw[hb]
    have ha:at? [(⟨(j:Int),(i:Int),Zhs (ZcI (L j) sr),[]⟩:Slip)] 0=some ⟨(j:Int),(i:Int),Zhs (ZcI (L j) sr),[]⟩:=rfl
    have hl:decide ((0:Int)<(([(⟨(j:Int),(i:Int),Zhs (ZcI (L j) sr),[]⟩:Slip)]:List Slip).length:Int))=true:=rfl
    simp only[hl,cond_true,ha,Option.bind_some,s1,decide_true,Bool.not_true,cond_false]
    rfl
   have h1:body (hx',1)=some (.brk hx'):=by rw[hb];rfl
   simp only[whl,h0,h1]
  ·have e1:up (up (up hs i hx) j hy) i hx'=up (up hs i hx') j hy:=by
    funext q
    unfold up
    by_cases a:q=i
    ·rw[if_pos a,if_neg (by omega),if_pos a]
    ·rw[if_neg a]
     by_cases b:q=j
     ·rw[if_pos b,if_pos b]
     ·rw[if_neg b,if_neg b,if_neg a,if_neg a]
   have e2:up (up (up L i (L i)) j (ZcI (L j) sr)) i (L i)=up L j (ZcI (L j) sr):=by
    funext q
    unfold up
    by_cases a:q=i
    ·rw[if_pos a,if_neg (by omega),a]
    ·rw[if_neg a]
     by_cases b:q=j
     ·rw[if_pos b,if_pos b]
     ·rw[if_neg b,if_neg b,if_neg a]
   rw[←e1,←e2]
   exact w3
  ·rw[if_neg he]
   simp only
   omega
theorem Zsh (hk:10000000<k) (ht:t≤14) {i j:Nat} (hi:i≤2) (hj:j≤2) (hne:j≠i) {o:List Record} (ho:Val Zax o) (hol:o.length≤1000):∀ (n q m:Nat) (hs:Nat→House) (L:Nat→List Record) (F:Nat→Nat),W hs [] L F t→(∀ x,x∈o↔x∈L i∨x∈L j)→
  ZaM (L i) (kr (hs i).Known j)+ZaM (L j) (kr (hs j).Known i)<n→n+q≤30→n≤m→whl (Zah.b0 k (⟨o⟩,0)) m (hs i,hs j,(q:Int))=some (.ret true)
 |0,q,m,hs,L,F,w,hmem,hphi,hq,hm=>by omega
 |n+1,q,m,hs,L,F,w,hmem,hphi,hq,hm=>by
  obtain⟨m,rfl⟩:∃ r,m=r+1:=⟨m - 1,by omega⟩
  obtain⟨hx,s,hy,back,hx',F1,a1,a2,a3,w1,a4,a5,a6⟩:=Zj6 w (k:=k) (by omega) (by omega) hi hj hne
  have e_i:up (up hs i hx') j hy i=hx':=by rw[Zdd _ _ (Ne.symm hne),ZaY]
  have e_j:up (up hs i hx') j hy j=hy:=ZaY _ _ _
  have l_i:up L j (ZcI (L j) s.Records) i=L i:=Zdd _ _ (Ne.symm hne)
  have l_j:up L j (ZcI (L j) s.Records) j=ZcI (L j) s.Records:=ZaY _ _ _
  obtain⟨gx,s2,gy,back2,gx',F2,b1,b2,b3,w2,b4,b5,b6⟩:=Zj6 w1 (k:=k) (by omega) (by omega) hj hi (Ne.symm hne)
  rw[e_i,e_j]at b1
  rw[e_i]at b2
  rw[e_i,e_j,l_i,l_j]at b6
  rw[l_j]at b4 b5
  rw[l_i]at b5 w2
  have hw:w64 ((q:Int)+1)=((q+1:Nat):Int):=by rw[ZaD (by omega) (by omega)];omega
  have loop1:whl (Zah.b1 k (hy,back,0)) k (hx,0)=some (.brk hx'):=a3 _ (fun a q=>rfl)
  have loop2:whl (Zah.b2 k (gy,back2,0)) k (gx,0)=some (.brk gx'):=b3 _ (fun a q=>rfl)
  have f_i:up (up (up (up hs i hx') j hy) j gx') i gy i=gy:=ZaY _ _ _
  have f_j:up (up (up (up hs i hx') j hy) j gx') i gy j=gx':=by rw[Zdd _ _ hne,ZaY]
  have m_i:up (up L j (ZcI (L j) s.Records)) i (ZcI (L i) s2.Records) i=ZcI (L i) s2.Records:=ZaY _ _ _
  have m_j:up (up L j (ZcI (L j) s.Records)) i (ZcI (L i) s2.Records) j=ZcI (L j) s.Records:=by rw[Zdd _ _ hne,ZaY]
  have hmem2:∀ x,x∈o↔x∈ZcI (L i) s2.Records∨x∈ZcI (L j) s.Records:=fun x=>by
   rw[hmem]
   constructor
   ·rintro(h|h)
    ·exact .inl (ZfZ _ _ x h)
    ·exact .inr (ZfZ _ _ x h)
   ·rintro(h|h)
    ·rcases ZfU _ _ x h with g|g
     ·exact .inl g
     ·rcases ZfU _ _ x (b4 x g) with c|c
      ·exact .inr c
      ·exact .inl (a4 x c)
    ·rcases ZfU _ _ x h with g|g
     ·exact .inr g
     ·exact .inl (a4 x g)
  have hbody:Zah.b0 k (⟨o⟩,0) (hs i,hs j,(q:Int))=bif decide ((s.Records.length:Int)=(0:Int)) then
           bif decide ((s2.Records.length:Int)=(0:Int)) then
            (ZbT k gy.Ledger.Book ⟨o⟩).bind fun x41=>
            bif x41 then
             (ZbT k gx'.Ledger.Book ⟨o⟩).bind fun x43=>
             some (.ret x43)
            else
             some (.ret false)
           else
            some (.next (gy,gx',((q+1:Nat):Int)))
          else
           some (.next (gy,gx',((q+1:Nat):Int))):=by
   unfold Zah.b0
   simp only[decide_eq_true (show (q:Int)<30 by omega),cond_true,a1,a2,Option.bind_some,decide_true,Bool.not_true,cond_false,loop1,b1,b2,loop2,hw]
  have next:Zah.b0 k (⟨o⟩,0) (hs i,hs j,(q:Int))=some (.next (gy,gx',((q+1:Nat):Int)))→ZaM (ZcI (L i) s2.Records) (kr gy.Known j)+ZaM (ZcI (L j) s.Records) (kr gx'.Known i)<n→whl (Zah.b0 k (⟨o⟩,0)) (m+1) (hs i,hs j,(q:Int))=some (.ret true):=fun hb hlt=>by
   have:=Zsh hk ht hi hj hne ho hol n (q+1) m _ _ _ w2 (fun x=>by rw[m_i,m_j];exact hmem2 x) (by rw[f_i,f_j,m_i,m_j];exact hlt) (by omega) (by omega)
   rw[f_i,f_j]at this
   simp only[whl,hb,this]
  by_cases c1:s.Records=[]
  ·rw[if_pos c1]at a6
   have d1:decide ((s.Records.length:Int)=0)=true:=by rw[c1];rfl
   by_cases c2:s2.Records=[]
   ·
    have d2:decide ((s2.Records.length:Int)=0)=true:=by rw[c2];rfl
    have hLj:ZcI (L j) s.Records=L j:=by rw[c1];rfl
    have hLi:ZcI (L i) s2.Records=L i:=by rw[c2];rfl
    have hij:∀ x∈L i,x∈L j:=fun x hx=>by
     obtain⟨y,y1,y2⟩:=a5 c1 x hx
     rw[w.one hi hj hx y1 y2.symm];exact y1
    have hji:∀ x∈L j,x∈L i:=fun x hx=>by
     obtain⟨y,y1,y2⟩:=b5 c2 x (by rw[hLj];exact hx)
     rw[w.one hj hi hx y1 y2.symm];exact y1
    have Hg:=w2.hi i hi
    have Hh:=w2.hi j hj
    rw[f_i,m_i,hLi]at Hg
    rw[f_j,m_j,hLj]at Hh
    have eg:gy.Ledger.Book=⟨o⟩:=by
     rw[Hg.book]
     have hb:=Hg.good.bi
     rw[Zm2 Zax hb.val.1 ho.1 (fun x=>by
      rw[hb.mem,hmem]
      exact⟨fun h=>.inl h,fun h=>h.elim id (hji x)⟩)]
    have eh:gx'.Ledger.Book=⟨o⟩:=by
     rw[Hh.book]
     have hb:=Hh.good.bi
     rw[Zm2 Zax hb.val.1 ho.1 (fun x=>by
      rw[hb.mem,hmem]
      exact⟨fun h=>.inr h,fun h=>h.elim (hij x) id⟩)]
    have hsame:=Zkq (k:=k) hk (a:=⟨o⟩) hol
    rw[eg,eh]at hbody
    simp only[d1,d2,cond_true,hsame,Option.bind_some]at hbody
    simp only[whl,hbody]
   ·rw[if_neg c2]at b6
    have d2:decide ((s2.Records.length:Int)=0)=false:=by
     apply decide_eq_false
     intro c
     exact c2 (List.length_eq_zero_iff.1 (by omega))
    simp only[d1,d2,cond_true,cond_false]at hbody
    exact next hbody (by omega)
  ·rw[if_neg c1]at a6
   have d1:decide ((s.Records.length:Int)=0)=false:=by
    apply decide_eq_false
    intro c
    exact c1 (List.length_eq_zero_iff.1 (by omega))
   simp only[d1,cond_false]at hbody
   refine next hbody ?_
   have:(if s2.Records=[] then 0 else 1)≥0:=Nat.zero_le _
   omega
end
theorem W.noSlips {hs:Nat→House}{sl:List Slip}{L:Nat→List Record}{F:Nat→Nat}{t:Nat} (w:W hs sl L F t):W hs [] L F t:=w.slips (by simp)
theorem Ziz (l:List R09_Act) (n:Int) (hp:∀ y∈l,y.Picks.length≤4611686018427387904):Zah 18446744073709551616 l n=some true:=by
 have hk:1000000<18446744073709551616:=by decide
 have hk7:10000000<18446744073709551616:=by decide
 obtain⟨v,sl,t,h1,ht,hsl,L,F,w⟩:=Zlj hk l hp
 obtain⟨i,i1,i2⟩:=ZgK n (m:=3) (by decide)
 have i2':n % 3=(i:Int):=i2
 have hj:Int.tmod (w64 ((i:Int)+1)) 3=(((i+1) % 3:Nat):Int):=by
  rw[ZaD (by omega) (by omega),show (i:Int)+1=((i+1:Nat):Int) by omega,show (3:Int)=((3:Nat):Int) from rfl,←Int.ofNat_tmod]
 have hj2:(i+1) % 3≤2:=by omega
 have hne:(i+1) % 3≠i:=by omega
 generalize (i+1) % 3=j at hj hj2 hne
 have hi2:i≤2:=by omega
 have Ha:=w.hi i hi2
 have Hb:=w.hi j hj2
 have ba:=Ha.good.bi
 have bb:=Hb.good.bi
 have la:=w.len hi2
 have lb:=w.len hj2
 obtain⟨o,o1,o2,o3⟩:∃ o,(bk Zax [] (L j)).foldlM (jn Zax) (bk Zax [] (L i))=some o∧Val Zax o∧∀ x,x∈o↔x∈L i∨x∈L j:=by
  rcases ZmX Zax ba.val (bk Zax [] (L j)) [] (bk Zax [] (L i)) 0 (by simpa using bb.val) (JI.nil Zax _ ba.val) with ⟨o,c,g1,_,g3⟩|⟨_,_,y,hy,x,hx,hkk,hne2⟩
  ·exact⟨o,g1,g3.val,fun x=>by have:=g3.mem x;rw[ba.mem]at this;rw[this];simp[bb.mem]⟩
  ·exact absurd (w.one hi2 hj2 ((ba.mem x).1 hx) ((bb.mem y).1 hy) hkk) hne2
 have hoin:∀ r∈o,in3 r:=fun r hr=>by
  rcases (o3 r).1 hr with g|g
  ·exact w.hou i hi2 r g
  ·exact w.hou j hj2 r g
 have hown:∀ x:Nat,x≤2→cnt Zax o (x:Int)≤cnt Zax (L x) (x:Int):=fun x hx=>ZdO o2.2 (w.vl hx) (x:Int) (fun r hr e=>by
  rcases (o3 r).1 hr with g|g
  ·exact w.in_own hi2 hx g e
  ·exact w.in_own hj2 hx g e)
 have hol:=ZvA hoin
 have q0:cnt Zax o 0≤cnt Zax (L 0) 0:=hown 0 (by decide)
 have q1:cnt Zax o 1≤cnt Zax (L 1) 1:=hown 1 (by decide)
 have q2:cnt Zax o 2≤cnt Zax (L 2) 2:=hown 2 (by decide)
 have qo:=w.own
 have V:∀ m,m≤2→ZjZ (bk Zax [] (L m))=true:=fun m hm=>by
  have b:=(w.hi m hm).good.bi
  have l1:=w.len hm
  exact Zi2.2 ⟨by rw[b.len];omega,fun r hr=>(w.hi m hm).good.ok r ((b.mem r).1 hr),b.val⟩
 have hjoin:ZaW 18446744073709551616 (h3 v i).Ledger.Book (h3 v j).Ledger.Book=some (⟨o⟩,0):=by
  rw[Ha.book,Hb.book,ZnM hk]
  unfold ZsF
  rw[V i hi2,V j hj2,o1]
  simp only[Bool.and_self,cond_true,decide_eq_false (show ¬ (60:Int)<(o.length:Int) by omega),cond_false]
 have t1:∀ (m:Nat) (K:Vec 6 Int),m≤2→ZaM (L m) K≤14:=fun m K hm=>by
  have:=w.len hm
  have h2:ZaM (L m) K≤(L m).length:=List.countP_le_length
  omega
 have u1:=t1 i (kr (h3 v i).Known j) hi2
 have u2:=t1 j (kr (h3 v j).Known i) hj2
 have hr:=Zsh hk7 ht hi2 hj2 hne o2 (by omega) 29 0 18446744073709551616 (h3 v) L F w.noSlips o3 (by omega) (by omega) (by decide)
 rw[Int.natCast_zero]at hr
 unfold Zah
 rw[Zpq,h1]
 simp only[Option.bind_some,cond_true,Bool.not_true,cond_false,Zc8 _ n (m:=3) (by decide) (by decide),i2',Zlf v hi2,hj,Zlf v hj2,hjoin,decide_true,hr]
end Go.Abs
namespace Go.Proofs.Ytpgccpdlilnakaa.bookEqual
open Go.Abs
theorem plain (a0:(List Go.Abs.R09_Act)) (a1:Int):(fun l=>l.length≤Go.maxLen∧l.length*88≤qB∧∀ a∈l,Go.Abs.R09_Act.q a) a0→Zjp a1→∃ k,Zah k a0 a1=some true:=by
 intro q0 q1;exact⟨_,Ziz a0 a1 (fun y hy=>by have h:=(q0.2.2 y hy).2.2.2.2;have h2:=h.2.1;have:=ZvH;omega)⟩
end Go.Proofs.Ytpgccpdlilnakaa.bookEqual
namespace Go.Proofs.Ytpgccpdlilnakaa.bookEqual
open Go.ChangeShapes Go.WideShapes Go.ChangeAt Go.RowKit Go.Abs
set_option maxRecDepth 100000
theorem own:ownKnob Try.prog.godebug=none:=by kernel_rfl
theorem contract (H:Type) (enc:TypeId×Value→H) (W:World) (base:Nat) (args:Array Value) (ds gs:List (DataW H)) (before:List MemPlace)
  (hval:∀ (j:Nat) t v,Try.f13.params[j]?=some t→args[j]?=some v→Value.okWide Try.prog W .any base t v)
  (hW:DataW.Whole enc Try.prog Try.f13.params.toList Rows.bookEqualSpec.vars false W args.toList ds gs before) (hsz0:(DataW.weightsEach Try.prog (Try.f13.params.toList++Rows.bookEqualSpec.plain.varTypes Try.prog) (ds++gs)).all (·≤reachBytes)=true):
  Calls Try.prog 13 args W fun e W'=>∃ v,e=.returned v∧Rows.bookEqualSpec.post enc Try.prog Try.f13 false true false false W args v W':=by
 have hW':=hW
 obtain⟨p,q,hA0,hV,rfl,hfz,hnd⟩:=hW
 have hA:DataW.TrodAll enc Try.prog W 0 (fun _=>true) true Try.f13.params.toList args.toList ds p:=hA0
 rw[Try.params13]at hA hval
 obtain⟨v0,vs0,d0,ds0,p0,q0,hargs,rfl,rfl,h0,r0⟩:=trodAll_cons hA
 obtain⟨v1,vs1,d1,ds1,p1,q1,rfl,rfl,rfl,h1,r1⟩:=trodAll_cons r0
 obtain⟨rfl,rfl,rfl⟩:=trodAll_nil r1
 have hsz:∀ (j:Nat) t d,Try.f13.params.toList[j]?=some t→[d0,d1][j]?=some d→∀ n∈d.weights Try.prog t,n≤reachBytes:=Znt (by rw[Try.params13];rfl) hsz0
 rw[Try.params13]at hsz
 obtain rfl:args=#[v0,v1]:=by cases args;simp_all
 obtain⟨a0,Q0,V0⟩:=ZoY Zpg (by have h:=hval 0 104 v0 rfl rfl;unfold Value.okWide at h;rw[Try.underlying104]at h;unfold Cell.okWide Cell.ok at h;rw[Try.underlying104]at h;cases v0<;>first|rfl|(simp at h;done)) (fun l=>AV.sl 9 (List.map Go.Abs.R09_Act.c l)) (fun _=>rfl) h0 (hsz 0 104 d0 rfl rfl)
 obtain⟨a1,Q1,V1⟩:=ZoY Zes (by have h:=hval 1 3 v1 rfl rfl;unfold Value.okWide at h;rw[Try.underlying3]at h;unfold Cell.okWide Cell.ok at h;rw[Try.underlying3]at h;cases v1<;>first|rfl|(simp at h;done)) (fun x=>AV.int .i64 x) (fun _=>rfl) h1 (hsz 1 3 d1 rfl rfl)
 obtain⟨k,hk⟩:=plain a0 a1 Q0 Q1
 have hv:VRs (Zg6 W) [] [.sl 9 (List.map Go.Abs.R09_Act.c a0),.int .i64 a1] [v0,v1]:=⟨rfl,fun i x v h1 h2=>by
  match i with
  |0=>cases h1;cases h2;exact V0
  |1=>cases h1;cases h2;exact V1
  |i+2=>simp at h1⟩
 refine Calls.mono ((Zif k a0 a1 true hk).2 (Zg6 W) W _ (fun _ _ _ h=>h) hv) ?_
 rintro e W1 ⟨v,y,fm1,rfl,rfl,_,hvr,_,hB⟩
 cases hvr
 exact⟨_,rfl,ZqO (t:=4) (by kernel_rfl) (by kernel_rfl) (by kernel_rfl) hW' rfl hB (by rw[Try.params13];decide +kernel) rfl Try.underlying4 (by obtain⟨rfl,_⟩:=trodVars_none hV;rfl)⟩
theorem lifted (os:Os) (started:os.Started) (H:Type) (enc:TypeId×Value→H):
  ReturnsInHanded {} Try.checked os 13 .any (Rows.bookEqualSpec.pre6 enc Try.prog Try.f13 Rows.bookEqualRow.domain false) (Rows.bookEqualSpec.post enc Try.prog Try.f13 false true false false):=by
 refine returnsInHanded_of_change_sized (C:=Try.checked) own started (by kernel_rfl) Try.func13
  (ChangeSpec.witness6 (enc:=enc) (C:=Try.checked) false ⟨#[],#[.slice none 0 0,.int .i64 0],[]⟩ 8 (by kernel_rfl) (by kernel_rfl) (by kernel_rfl) (by kernel_rfl)) ?_
 intro W base args ds gs before hval0 hW hcnd hsz _
 exact contract H enc W base args ds gs before hval0 hW hsz
theorem over:Rows.bookEqualRow.holds Try.pinned (OpenSpec.ofChange Rows.bookEqualSpec):=
 OpenClaim.holds_of_wide 13 Try.f13 rfl rfl rfl rfl rfl rfl rfl ⟨rfl,rfl,rfl,rfl,rfl⟩ rfl rfl rfl rfl rfl (by kernel_rfl) Try.func13 (by kernel_rfl)
  (of_decide_eq_true (by kernel_rfl)) (by unfold Func.isWrapper;first|(rw[if_pos (by decide +kernel)];kernel_rfl)|(rw[if_neg (by decide +kernel)];exact⟨rfl,rfl⟩))
  (fun os started H enc _=>lifted os started H enc)
theorem proved:Rows.BookEqualSaid:=over
end Go.Proofs.Ytpgccpdlilnakaa.bookEqual
