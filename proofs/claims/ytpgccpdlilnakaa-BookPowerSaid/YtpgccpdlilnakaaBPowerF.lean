/-
  Part 6 of the proof: a machine over named blocks, what each function computes, and what follows. No condition.
-/
import Derived.Test.YtpgccpdlilnakaaRows
import Derived.WalkKit
import Derived.ProofKit
import Derived.OpenShut
import Derived.JoinedCond
import Derived.Test.YtpgccpdlilnakaaBPowerE
set_option linter.unusedVariables false
set_option linter.unusedSimpArgs false
set_option linter.all false
set_option maxRecDepth 100000
set_option maxHeartbeats 8000000
namespace Go.Abs
open Go Go.Proofs
set_option maxRecDepth 20000
set_option linter.unusedVariables false
set_option linter.unusedSimpArgs false
abbrev Hf:=Vec 32 Int
abbrev Pg:=Vec 2 Hf
def hz:Hf:=Vec.rep 32 0
def hf (p:List Pg) (a i:Nat):Hf:=match p[301*a+i / 2]? with
 |some g=>(g.l[i % 2]?).getD hz
 |none=>hz
theorem Zp2 (g:Pg) (i:Nat):g.at? ((i % 2:Nat):Int)=some ((g.l[i % 2]?).getD hz):=by
 have h:=g.h
 have hi:i % 2<g.l.length:=by omega
 unfold Vec.at?
 rw[if_pos (by omega),Int.toNat_natCast,gG hi];rfl
theorem Zug {p:List Pg} (hp:p.length=602) {a i:Nat} (ha:a≤1) (hi:i<602):w64 ((w64 ((a:Int)*301))+(w64 (Int.tdiv (i:Int) 2)))=((301*a+i / 2:Nat):Int):=by
 have e:Int.tdiv (i:Int) 2=((i / 2:Nat):Int):=by
  rw[show (2:Int)=((2:Nat):Int) from rfl,←Int.ofNat_tdiv]
 rw[e,Za8 (n:=(a:Int)*301) (by omega) (by omega),Za8 (n:=((i / 2:Nat):Int)) (by omega) (by omega),Za8 (by omega) (by omega)]
 omega
theorem Zta (i:Nat):Int.tmod (i:Int) 2=((i % 2:Nat):Int):=by
 rw[show (2:Int)=((2:Nat):Int) from rfl,←Int.ofNat_tmod]
theorem Zhb (k:Nat) {p:List Pg} (hp:p.length=602) (w:List Write) {a i:Nat} (ha:a≤1) (hi:i<602):ZaM k ⟨⟨p,w⟩⟩ (a:Int) (i:Int)=some (hf p a i):=by
 unfold ZaM hf
 have hx:p[301*a+i / 2]?=some (p[301*a+i / 2]'(by omega)):=gG (by omega)
 simp only[Zug hp ha hi,ZcA hx,Option.bind_some,Zta,Zp2,hx]
theorem Zpg {n b:Int}{s:Nat} (hs:s≤32) (h0:0≤n) (h1:n<1073741824) (h2:0≤b) (h3:b<2 ^ s):bOr .i64 (n*2 ^ s) b=n*2 ^ s+b:=by
 obtain⟨m,rfl⟩:=Int.eq_ofNat_of_zero_le h0
 obtain⟨c,rfl⟩:=Int.eq_ofNat_of_zero_le h2
 have hp:(2:Nat) ^ s≤2 ^ 32:=Nat.pow_le_pow_right (by decide) hs
 have hc:c<2 ^ s:=by
  have:((2:Int) ^ s)=((2 ^ s:Nat):Int):=by push_cast;rfl
  rw[this]at h3;omega
 have hm:m<4294967296:=by omega
 have hmp:m*2 ^ s<4294967296*4294967296:=Nat.mul_lt_mul_of_lt_of_le hm hp (by decide)
 have e:((m:Int)*2 ^ s)=((m*2 ^ s:Nat):Int):=by push_cast;rfl
 rw[e]
 unfold bOr
 have t:∀ x:Nat,x<18446744073709551616→(BitVec.ofInt IntKind.i64.bits (x:Int)).toNat=x:=fun x hx=>by
  rw[BitVec.toNat_ofInt]
  have:(x:Int) % ((2 ^ IntKind.i64.bits:Nat):Int)=(x:Int):=by
   rw[show ((2 ^ IntKind.i64.bits:Nat):Int)=18446744073709551616 from rfl];omega
  rw[this];omega
 have hm2:m*2 ^ s<9223372036854775808 - 4294967296:=by
  have:m*2 ^ s≤m*4294967296:=Nat.mul_le_mul_left _ hp
  omega
 rw[BitVec.toNat_or,t _ (by omega),t _ (by omega)]
 have:=Nat.shiftLeft_add_eq_or_of_lt hc m
 rw[Nat.shiftLeft_eq]at this
 rw[←this]
 exact Za8 (by omega) (by omega)
theorem ZjO {x:Int} (h:0≤x∧x<256) (s:Nat) (hs:s≤16):w64 ((w64 x)*2 ^ s)=x*2 ^ s:=by
 have hp:(2:Int) ^ s≤65536:=by
  have:(2:Nat) ^ s≤2 ^ 16:=Nat.pow_le_pow_right (by decide) hs
  have e:((2:Int) ^ s)=((2 ^ s:Nat):Int):=by push_cast;rfl
  rw[e];omega
 have hp0:(0:Int)<2 ^ s:=Int.pow_pos (by decide)
 have h1:x*2 ^ s≤255*65536:=Int.mul_le_mul (by omega) hp (by omega) (by omega)
 have h2:0≤x*2 ^ s:=Int.mul_nonneg h.1 (by omega)
 rw[Za8 (n:=x) (by omega) (by omega),Za8 (by omega) (by omega)]
theorem or3 {a b c:Int} (ha:0≤a∧a<256) (hb:0≤b∧b<256) (hc:0≤c∧c<256):
  bOr .i64 (bOr .i64 (w64 ((w64 a)*2 ^ 16)) (w64 ((w64 b)*2 ^ 8))) (w64 c)=rdV [a,b,c]:=by
 rw[ZjO ha 16 (by decide),ZjO hb 8 (by decide),Zpg (s:=16) (by decide) ha.1 (by omega) (by omega) (by omega),Za8 (n:=c) (by omega) (by omega)]
 have e:a*2 ^ 16+b*2 ^ 8=(a*256+b)*2 ^ 8:=by omega
 rw[e,Zpg (s:=8) (by decide) (by omega) (by omega) hc.1 (by omega)]
 simp[rdV,rdA]
theorem or2 {a b:Int} (ha:0≤a∧a<256) (hb:0≤b∧b<256):bOr .i64 (w64 ((w64 a)*2 ^ 8)) (w64 b)=rdV [a,b]:=by
 rw[ZjO ha 8 (by decide),Za8 (n:=b) (by omega) (by omega),Zpg (s:=8) (by decide) ha.1 (by omega) hb.1 (by omega)]
 simp[rdV,rdA]
def bt (h:Hf) (i:Nat):Int:=(h.l[i]?).getD 0
theorem Zkp (h:Hf) {i:Nat} (hi:i<32):h.at? (i:Int)=some (bt h i):=by
 have hl:=h.h
 unfold Vec.at? bt
 rw[if_pos (by omega),Int.toNat_natCast,gG (by omega)];rfl
theorem ZhY {h:Hf} (hb:Byt h.l) (i:Nat):0≤bt h i∧bt h i<256:=by
 unfold bt
 cases hq:h.l[i]? with
 |none=>simp
 |some x=>exact hb x (List.mem_of_getElem? hq)
def epH (h:Hf):Int:=
 if (bt h 0=104∨bt h 0=112)∧bt h 31=165∧rdV [bt h 1,bt h 2,bt h 3]≤1000000 then rdV [bt h 1,bt h 2,bt h 3] else 0
theorem Znk {h:Hf} (hb:Byt h.l):0≤epH h∧epH h≤1000000:=by
 unfold epH
 have:=ZiZ (l:=[bt h 1,bt h 2,bt h 3]) (by
  intro x hx
  simp only[List.mem_cons,List.not_mem_nil,or_false]at hx
  rcases hx with rfl|rfl|rfl<;>exact ZhY hb _)
 split
 ·rename_i hc;exact⟨this.1,hc.2.2⟩
 ·omega
theorem ZeB (k:Nat) {h:Hf} (hb:Byt h.l):ZaZ k h=some (epH h):=by
 have h0:=Zkp h (i:=0) (by decide)
 have h1:=Zkp h (i:=1) (by decide)
 have h2:=Zkp h (i:=2) (by decide)
 have h3:=Zkp h (i:=3) (by decide)
 have h31:=Zkp h (i:=31) (by decide)
 have e0:h.at? 0=some (bt h 0):=h0
 have e1:h.at? 1=some (bt h 1):=h1
 have e2:h.at? 2=some (bt h 2):=h2
 have e3:h.at? 3=some (bt h 3):=h3
 have e31:h.at? 31=some (bt h 31):=h31
 unfold ZaZ epH
 simp only[e0,e1,e2,e3,e31,Option.bind_some,or3 (ZhY hb 1) (ZhY hb 2) (ZhY hb 3)]
 by_cases a:bt h 0=104
 ·have a2:¬ bt h 0=112:=by omega
  by_cases c:bt h 31=165
  ·by_cases d:(1000000:Int)<rdV [bt h 1,bt h 2,bt h 3]
   ·simp[a,c,d,show ¬ rdV [bt h 1,bt h 2,bt h 3]≤1000000 by omega]
   ·simp[a,c,d,show rdV [bt h 1,bt h 2,bt h 3]≤1000000 by omega]
  ·simp[a,c]
 ·by_cases b:bt h 0=112
  ·by_cases c:bt h 31=165
   ·by_cases d:(1000000:Int)<rdV [bt h 1,bt h 2,bt h 3]
    ·simp[b,c,d,show ¬ rdV [bt h 1,bt h 2,bt h 3]≤1000000 by omega]
    ·simp[b,c,d,show rdV [bt h 1,bt h 2,bt h 3]≤1000000 by omega]
   ·simp[b,c]
  ·simp[a,b]
def PgB (p:List Pg):Prop:=∀ g∈p,∀ h∈g.l,Byt h.l
theorem PgB.hf {p:List Pg} (hp:PgB p) (a i:Nat):Byt (hf p a i).l:=by
 have hzb:Byt hz.l:=by
  intro x hx
  have:x=0:=by
   simp only[hz,Vec.rep,List.mem_replicate]at hx
   exact hx.2
  omega
 unfold Go.Abs.hf
 cases hq:p[301*a+i / 2]? with
 |none=>exact hzb
 |some g=>
  simp only
  cases hr:g.l[i % 2]? with
  |none=>exact hzb
  |some h=>exact hp g (List.mem_of_getElem? hq) h (List.mem_of_getElem? hr)
def dOK (d:Disk):Bool:=decide (d.Pages.length=602)&&(decide (d.Wait.length≤1200)&&d.Wait.all fun w=>within w.At 0 601)
theorem ZdY {k:Nat} (hk:1000000<k) (d:Disk):ZbZ k d=some (dOK d):=by
 unfold ZbZ dOK
 by_cases h1:d.Pages.length=602
 ·have e1:decide ((d.Pages.length:Int)=602)=true:=decide_eq_true (by omega)
  by_cases h2:d.Wait.length≤1200
  ·have e2:decide ((d.Wait.length:Int)≤1200)=true:=decide_eq_true (by omega)
   have hloop:=Zlf (body:=Zai.b0 k (fun q0=>Zcg k q0) d.Wait) (n:=d.Wait.length) (f:=fun i=>match d.Wait[i]? with|some w=>bif within w.At 0 601 then none else some (i:Int)|none=>none) (by omega) (k:=k) (by omega) (fun i hi=>by
    obtain⟨w,hw⟩:∃ w,d.Wait[i]?=some w:=⟨_,gG hi⟩
    unfold Zai.b0 Zcg
    simp only[decide_eq_true (show (i:Int)<(d.Wait.length:Int) by omega),cond_true,ZcA hw,Option.bind_some,Zdc,hw]
    cases within w.At 0 601<;>rfl) (by
    unfold Zai.b0
    simp only[(by simp:decide ((d.Wait.length:Int)<(d.Wait.length:Int))=false),cond_false])
   simp only[e1,e2,cond_true,h1,h2,decide_true,Bool.true_and]
   unfold ZaQ Zai
   rw[hloop]
   simp only[Option.bind_some]
   cases hq:(List.range d.Wait.length).findSome? (fun i=>match d.Wait[i]? with|some w=>bif within w.At 0 601 then none else some (i:Int)|none=>none) with
   |none=>
    have:d.Wait.all (fun w=>within w.At 0 601)=true:=by
     rw[List.all_eq_true]
     intro w hw
     obtain⟨i,hi⟩:=List.mem_iff_getElem?.1 hw
     rw[List.findSome?_eq_none_iff]at hq
     have:=hq i (List.mem_range.2 (gS.1 hi).1)
     rw[hi]at this
     simp only at this
     cases hb:within w.At 0 601 with
     |true=>rfl
     |false=>rw[hb]at this;cases this
    rw[this];rfl
   |some r=>
    obtain⟨i,hi,hf⟩:=List.exists_of_findSome?_eq_some hq
    obtain⟨w,hw⟩:∃ w,d.Wait[i]?=some w:=⟨_,gG (List.mem_range.1 hi)⟩
    rw[hw]at hf
    simp only at hf
    have hb:within w.At 0 601=false:=by
     cases hb:within w.At 0 601 with
     |false=>rfl
     |true=>rw[hb]at hf;cases hf
    rw[hb]at hf
    have hr:(i:Int)=r:=oi hf
    have:d.Wait.all (fun w=>within w.At 0 601)=false:=by
     rw[List.all_eq_false]
     exact⟨w,List.mem_of_getElem? hw,by rw[hb];decide⟩
    rw[this]
    simp only[Option.bind_some]
    rw[decide_eq_true (show (0:Int)≤r by omega)]
    rfl
  ·have e2:decide ((d.Wait.length:Int)≤1200)=false:=decide_eq_false (by omega)
   simp[e1,e2,h1,h2]
 ·have e1:decide ((d.Pages.length:Int)=602)=false:=decide_eq_false (by omega)
  simp[e1,h1]
end Go.Abs
namespace Go.Abs
open Go Go.Proofs
set_option maxRecDepth 20000
set_option linter.unusedVariables false
set_option linter.unusedSimpArgs false
def Zty:Record:=⟨⟨0,0⟩,0,0,0,⟨0,0⟩,ByteArray.empty⟩
end Go.Abs
namespace Go.Abs
open Go Go.Proofs
set_option maxRecDepth 20000
set_option linter.unusedVariables false
set_option linter.unusedSimpArgs false
theorem Zks {k:Nat}{d:Disk} (h:d.Pages.length≤100000000∧d.Wait.length≤100000000):Zbd k d=some ⟨d⟩:=by
 unfold Zbd ZbA Zbz ZiN
 rw[if_pos ⟨by omega,by omega⟩,if_pos ⟨by omega,by omega⟩]
 rfl
theorem Zdu {d:Disk}:dOK d=true↔d.Pages.length=602∧d.Wait.length≤1200∧∀ w∈d.Wait,0≤w.At∧w.At≤601:=by
 unfold dOK within
 simp only[Bool.and_eq_true,decide_eq_true_eq,List.all_eq_true]
theorem Zdk {k:Nat}{d:Disk} (h:dOK d=true):Zbd k d=some ⟨d⟩:=by
 obtain⟨h1,h2,_⟩:=Zdu.1 h
 exact Zks ⟨by omega,by omega⟩
def mend (p:List Pg) (w:List Write):List Pg:=w.foldl (fun p x=>p.set x.At.toNat x.Page) p
theorem Zmt (w:List Write):∀ p:List Pg,(mend p w).length=p.length:=by
 induction w with
 |nil=>intro p;rfl
 |cons x w ih=>intro p;exact(ih _).trans (by simp)
theorem ZcZ {k:Nat} (hk:1000000<k) {d:Disk} (h:dOK d=true):Zaq k ⟨d⟩=some ⟨⟨mend d.Pages d.Wait,[]⟩⟩:=by
 obtain⟨h1,h2,h3⟩:=Zdu.1 h
 unfold Zaq
 have hf:=ZeM (l:=d.Wait) (body:=Zaq.b0 k ⟨d⟩) (fun i s=>(i,s)) (fun p x=>p.set x.At.toNat x.Page) (fun i s=>s.length=602) (by omega) (k:=k) (by omega) (s0:=d.Pages) h1 (fun i x s hx hs=>by
  have hi:=(gS.1 hx).1
  have hb:=h3 x (List.mem_of_getElem? hx)
  refine⟨?_,by simp[hs]⟩
  unfold Zaq.b0
  have ha:at? s x.At=some (s[x.At.toNat]'(by omega)):=by
   unfold at?
   rw[if_pos ⟨by omega,by omega⟩,gG (by omega)]
  have hset:ZlP s x.At x.Page=some (s.set x.At.toNat x.Page):=by
   unfold ZlP
   rw[if_pos ⟨by omega,by omega⟩]
  simp only[decide_eq_true (show (i:Int)<(d.Wait.length:Int) by omega),cond_true,ZcA hx,Option.bind_some,ha,hset]) (fun s hs=>by
  unfold Zaq.b0
  simp only[(by simp:decide ((d.Wait.length:Int)<(d.Wait.length:Int))=false),cond_false])
 rw[hf.1]
 rfl
theorem ZlV {k:Nat} (hk:1000000<k) {d:Disk} (h:dOK d=true):Zel k d=some ⟨mend d.Pages d.Wait,[]⟩:=by
 unfold Zel
 rw[Zdk h,ZdY hk,h]
 simp only[Option.bind_some,Bool.not_true,cond_false]
 rw[ZcZ hk h]
 rfl
def mx (p:List Pg) (a from_:Nat):Int:=(List.range' from_ (602 - from_)).foldl (fun m i=>max m (epH (hf p a i))) 0
theorem Zhz {f:Nat→Int}:∀ (l:List Nat) (z E:Int),l.foldl (fun m i=>max m (f i)) z≤E↔z≤E∧∀ i∈l,f i≤E
 |[],z,E=>by simp
 |x::l,z,E=>by
  rw[List.foldl_cons,Zhz l]
  simp only[Int.max_le,and_assoc,List.mem_cons,forall_eq_or_imp]
theorem ZkE {p:List Pg}{a from_:Nat}{E:Int}:mx p a from_≤E↔0≤E∧∀ i,from_≤i→i<602→epH (hf p a i)≤E:=by
 unfold mx
 rw[Zhz]
 constructor
 ·rintro⟨h1,h2⟩
  exact⟨h1,fun i h3 h4=>h2 i (by rw[List.mem_range'_1];omega)⟩
 ·rintro⟨h1,h2⟩
  exact⟨h1,fun i hi=>h2 i (by rw[List.mem_range'_1]at hi;omega) (by rw[List.mem_range'_1]at hi;omega)⟩
theorem ZgD (p:List Pg) (a from_:Nat):0≤mx p a from_:=(ZkE.1 (Int.le_refl _)).1
theorem ZcG {k:Nat} (hk:1000000<k) {p:List Pg} (hp:p.length=602) (hb:PgB p) (w:List Write) {a:Nat} (ha:a≤1) (from_:Nat):Zan k ⟨⟨p,w⟩⟩ (a:Int) (from_:Int)=some (mx p a from_):=by
 unfold Zan mx
 have key:∀ (d i m:Nat) (z:Int),602 - i=d→d<m→whl (Zan.b0 k ⟨⟨p,w⟩⟩ (a:Int)) m (z,(i:Int))=some (.brk ((List.range' i d).foldl (fun m i=>max m (epH (hf p a i))) z)):=by
  intro d
  induction d with
  |zero=>
   intro i m z h1 h2
   obtain⟨m,rfl⟩:∃ q,m=q+1:=⟨m - 1,by omega⟩
   have hbo:Zan.b0 k ⟨⟨p,w⟩⟩ (a:Int) (z,(i:Int))=some (.brk z):=by
    unfold Zan.b0
    simp only[decide_eq_false (show ¬ (i:Int)<602 by omega),cond_false]
   simp only[whl,hbo]
   rfl
  |succ d ih=>
   intro i m z h1 h2
   obtain⟨m,rfl⟩:∃ q,m=q+1:=⟨m - 1,by omega⟩
   have hw:w64 ((i:Int)+1)=((i+1:Nat):Int):=by rw[Za8 (by omega) (by omega)];omega
   have hbo:Zan.b0 k ⟨⟨p,w⟩⟩ (a:Int) (z,(i:Int))=some (.next (max z (epH (hf p a i)),((i+1:Nat):Int))):=by
    unfold Zan.b0
    simp only[decide_eq_true (show (i:Int)<602 by omega),cond_true,Zhb k hp w ha (show i<602 by omega),Option.bind_some,ZeB k (hb.hf a i),hw]
   simp only[whl,hbo]
   rw[List.range'_succ,List.foldl_cons]
   exact ih (i+1) m _ (by omega) (by omega)
 have:=key (602 - from_) from_ k 0 rfl (by omega)
 rw[this]
 rfl
def Zvx (p:List Pg) (a from_:Nat) (l:List Hf):Prop:=from_+l.length≤602∧∀ (i:Nat) x,l[i]?=some x→hf p a (from_+i)=x
instance:DecidableEq Hf:=fun a b=>decidable_of_iff (Vec.eq (fun(x y:Int)=>decide (x=y)) a b=true) (Zi9 a b)
def Ztz (p:List Pg) (a from_:Nat) (l:List Hf):Bool:=(List.range l.length).all fun i=>match l[i]? with|some x=>decide (hf p a (from_+i)=x)|none=>true
theorem Zm4 {p:List Pg}{a from_:Nat}{l:List Hf}:Ztz p a from_ l=true↔∀ (i:Nat) x,l[i]?=some x→hf p a (from_+i)=x:=by
 unfold Ztz
 rw[List.all_eq_true]
 constructor
 ·intro h i x hx
  have:=h i (List.mem_range.2 (gS.1 hx).1)
  rw[hx]at this
  simpa using this
 ·intro h i hi
  cases hq:l[i]? with
  |none=>rfl
  |some x=>simpa using h i x hq
def Zhk (p:List Pg) (a from_:Nat) (n:Nat):Option (Record×Int×Nat):=
 if 602≤from_ then none else if epH (hf p a from_)=0∨602<from_+(bt (hf p a from_) 7).toNat then none else
 match Zp4 ((List.range (bt (hf p a from_) 7).toNat).map fun i=>Zc2 (hf p a (from_+i))).flatten with
 |none=>none
 |some q=>if ZeV q.1=true∧(Zax q.1 n (epH (hf p a from_))).length=(bt (hf p a from_) 7).toNat∧Ztz p a from_ (Zax q.1 n (epH (hf p a from_)))=true then some (q.1,epH (hf p a from_),(bt (hf p a from_) 7).toNat) else none
theorem ZoN {h:Hf} (hb:Byt h.l):Byt (Zc2 h):=(hb.drop 8).take 23
theorem Zqz {l:List (List Int)} (h:∀ x∈l,Byt x):Byt l.flatten:=fun x hx=>by
 obtain⟨y,hy,hx⟩:=List.mem_flatten.1 hx
 exact h y hy x hx
theorem Zpo {k:Nat} (hk:1000000<k) {p:List Pg} (hp:p.length=602) (hb:PgB p) (w:List Write) {a:Nat} (ha:a≤1) (from_ n:Nat) (hfr:from_≤100000):
  Zah k ⟨⟨p,w⟩⟩ (a:Int) (from_:Int) (n:Int)=some (match Zhk p a from_ n with|some q=>(q.1,q.2.1,(q.2.2:Int))|none=>(Zty,0,0)):=by
 unfold Zah Zhk
 by_cases h1:602≤from_
 ·simp only[decide_eq_true (show (602:Int)≤(from_:Int) by omega),cond_true,if_pos h1]
  rfl
 ·have hb0:=ZhY (hb.hf a from_) 7
  obtain⟨m,hm⟩:=Int.eq_ofNat_of_zero_le hb0.1
  have hmN:(bt (hf p a from_) 7).toNat=m:=by rw[hm];rfl
  have e7:(hf p a from_).at? 7=some (m:Int):=by have:=Zkp (hf p a from_) (i:=7) (by decide);rw[hm]at this;exact this
  have wm:w64 (m:Int)=(m:Int):=Za8 (by omega) (by omega)
  have wfm:w64 ((from_:Int)+(m:Int))=((from_+m:Nat):Int):=by rw[Za8 (by omega) (by omega)];omega
  rw[hmN]
  simp only[decide_eq_false (show ¬ (602:Int)≤(from_:Int) by omega),cond_false,if_neg h1,Zhb k hp w ha (show from_<602 by omega),Option.bind_some,ZeB k (hb.hf a from_),e7,wm,wfm]
  by_cases he:epH (hf p a from_)=0
  ·rw[if_pos (Or.inl he)]
   simp only[decide_eq_true he,Bool.not_true,cond_false]
   rfl
  ·simp only[decide_eq_false he,Bool.not_false,cond_true]
   by_cases h2:602<from_+m
   ·simp only[decide_eq_true (show (602:Int)<((from_+m:Nat):Int) by omega),cond_true,if_pos (Or.inr h2)]
    rfl
   ·simp only[decide_eq_false (show ¬ (602:Int)<((from_+m:Nat):Int) by omega),cond_false,if_neg (show ¬ (epH (hf p a from_)=0∨602<from_+m) from fun c=>c.elim he h2)]
    have hw0:=ZiA (n:=m) (body:=Zah.b0 k ⟨⟨p,w⟩⟩ (a:Int) (from_:Int) (m:Int)) (fun i s=>(i,s)) (fun s i=>s++Zc2 (hf p a (from_+i))) (fun i s=>s.length=23*i) (by omega) (k:=k) (by omega) (s0:=[]) rfl (fun i s hi hs=>by
     have hl:=(hf p a (from_+i)).h
     have hpl:(Zc2 (hf p a (from_+i))).length=23:=by unfold Zc2;simp[hl]
     have wfi:w64 ((from_:Int)+(i:Int))=((from_+i:Nat):Int):=by rw[Za8 (by omega) (by omega)];omega
     refine⟨?_,by simp[hs,hpl];omega⟩
     unfold Zah.b0
     simp only[wm,decide_eq_true (show (i:Int)<(m:Int) by omega),cond_true,wfi,Zhb k hp w ha (show from_+i<602 by omega),Option.bind_some]
     rw[show (List.take 23 (List.drop 8 (hf p a (from_+i)).l))=Zc2 (hf p a (from_+i)) from rfl,ZoD (by omega) (by omega)]
     rfl) (fun s hs=>by
     unfold Zah.b0
     simp only[wm,(by simp:decide ((m:Int)<(m:Int))=false),cond_false])
    have hfl:∀ (L:List Nat) (s:List Int),L.foldl (fun s i=>s++Zc2 (hf p a (from_+i))) s=s++(L.map fun i=>Zc2 (hf p a (from_+i))).flatten:=by
     intro L
     induction L with
     |nil=>intro s;simp
     |cons x L ih=>intro s;rw[List.foldl_cons,ih];simp
    have hw1:=hw0.1
    rw[hfl,List.nil_append]at hw1
    rw[hw1]
    simp only[Option.bind_some]
    have hbf:Byt ((List.range m).map fun i=>Zc2 (hf p a (from_+i))).flatten:=Zqz (by
     intro x hx
     obtain⟨i,_,rfl⟩:=List.mem_map.1 hx
     exact ZoN (hb.hf a _))
    rw[Zj2 (by omega) hbf]
    cases hd:Zp4 ((List.range m).map fun i=>Zc2 (hf p a (from_+i))).flatten with
    |none=>rfl
    |some q=>
     simp only[Option.bind_some]
     cases hr:ZeV q.1 with
     |false=>simp;rfl
     |true=>
      have ht:=Zfu hr
      simp only[Bool.not_true,cond_false,Zgn (show 100000<k by omega) ht,Option.bind_some]
      have hH:(List.range (Zb2 (enc q.1).length)).map (ZcB (epH (hf p a from_)) (n:Int) (Zb2 (enc q.1).length) (enc q.1))=Zax q.1 (n:Int) (epH (hf p a from_)):=rfl
      rw[hH]
      by_cases ZbS:(Zax q.1 (n:Int) (epH (hf p a from_))).length=m
      ·have hwN:=Zrk (n:=m) (body:=Zah.b1 k ⟨⟨p,w⟩⟩ (a:Int) (from_:Int) (Zax q.1 (n:Int) (epH (hf p a from_)))) (p:=fun i=>match (Zax q.1 (n:Int) (epH (hf p a from_)))[i]? with|some x=>decide (hf p a (from_+i)=x)|none=>true) (c:=(Zty,(0:Int),(0:Int))) (by omega) (k:=k) (by omega) (fun i hi=>by
        obtain⟨x,hx⟩:∃ x,(Zax q.1 (n:Int) (epH (hf p a from_)))[i]?=some x:=⟨_,gG (by omega)⟩
        have wfi:w64 ((from_:Int)+(i:Int))=((from_+i:Nat):Int):=by rw[Za8 (by omega) (by omega)];omega
        have hve:Vec.eq (fun(x y:Int)=>decide (x=y)) (hf p a (from_+i)) x=decide (hf p a (from_+i)=x):=by
         by_cases e:hf p a (from_+i)=x
         ·rw[(Zi9 _ _).2 e,decide_eq_true e]
         ·rw[decide_eq_false e]
          cases hq:Vec.eq (fun(x y:Int)=>decide (x=y)) (hf p a (from_+i)) x with
          |false=>rfl
          |true=>exact absurd ((Zi9 _ _).1 hq) e
        unfold Zah.b1
        simp only[decide_eq_true (show (i:Int)<((Zax q.1 (n:Int) (epH (hf p a from_))).length:Int) by omega),cond_true,ZcA hx,Option.bind_some,wfi,Zhb k hp w ha (show from_+i<602 by omega),hve,hx]
        cases decide (hf p a (from_+i)=x)<;>rfl) (by
        unfold Zah.b1
        simp only[ZbS,(by simp:decide ((m:Int)<(m:Int))=false),cond_false])
       have hrun:Ztz p a from_ (Zax q.1 (n:Int) (epH (hf p a from_)))=(List.range m).all (fun i=>match (Zax q.1 (n:Int) (epH (hf p a from_)))[i]? with|some x=>decide (hf p a (from_+i)=x)|none=>true):=by
        unfold Ztz;rw[ZbS];rfl
       simp only[decide_eq_true (show ((Zax q.1 (n:Int) (epH (hf p a from_))).length:Int)=(m:Int) by omega),Bool.not_true,cond_false,hwN,←hrun,ZbS,true_and]
       cases Ztz p a from_ (Zax q.1 (n:Int) (epH (hf p a from_)))<;>rfl
      ·simp only[decide_eq_false (show ¬ ((Zax q.1 (n:Int) (epH (hf p a from_))).length:Int)=(m:Int) by omega),Bool.not_false,cond_true,ZbS,false_and,and_false,if_false]
       rfl
end Go.Abs
namespace Go.Abs
open Go Go.Proofs
set_option maxRecDepth 20000
set_option linter.unusedVariables false
set_option linter.unusedSimpArgs false
theorem Zvo (r:Record) (n e:Int):(Zax r n e)[0]?=some (ZcB e n (Zb2 (enc r).length) (enc r) 0):=by
 unfold Zax
 rw[List.getElem?_map,List.getElem?_range (Ze5 r)];rfl
theorem ZoV {r:Record}{n e:Int}{i:Nat}{x:Hf} (h:(Zax r n e)[i]?=some x):x=ZcB e n (Zb2 (enc r).length) (enc r) i:=by
 have hi:=(gS.1 h).1
 rw[ZaD]at hi
 unfold Zax at h
 rw[List.getElem?_map,List.getElem?_range hi]at h
 exact(oi h).symm
theorem ZoI (e n cnt:Int) (c:List Int) (i:Nat):bt (ZcB e n cnt c i) 0=112∧bt (ZcB e n cnt c i) 1=IntKind.u8.wrap (Int.fdiv e (2 ^ 16))∧bt (ZcB e n cnt c i) 2=IntKind.u8.wrap (Int.fdiv e (2 ^ 8))∧bt (ZcB e n cnt c i) 3=IntKind.u8.wrap e∧bt (ZcB e n cnt c i) 7=IntKind.u8.wrap cnt∧bt (ZcB e n cnt c i) 31=165:=by
 have hl:((c.drop (23*i)).take 23++List.replicate (23 - min (c.drop (23*i)).length 23) (0:Int)).length=23:=by
  simp only[List.length_append,List.length_take,List.length_replicate];omega
 have e31:(Zgh e n cnt c i)[31]?=some 165:=by
  unfold Zgh
  rw[Zd1,Zkh]
  rw[List.getElem?_append_right (by simp only[List.length_append,List.length_cons,List.length_nil,hl];omega)]
  simp only[List.length_append,List.length_cons,List.length_nil,hl]
  rfl
 unfold bt ZcB
 refine⟨?_,?_,?_,?_,?_,?_⟩
 ·simp[Zgh]
 ·simp[Zgh,Zd1]
 ·simp[Zgh,Zd1]
 ·simp[Zgh,Zd1]
 ·simp[Zgh,Zd1,Zkh]
 ·rw[e31];rfl
theorem Zj4 {e:Int} (he:1≤e∧e≤1000000) (n cnt:Int) (c:List Int) (i:Nat):epH (ZcB e n cnt c i)=e:=by
 obtain⟨h0,h1,h2,h3,_,h31⟩:=ZoI e n cnt c i
 have hr:rdV [bt (ZcB e n cnt c i) 1,bt (ZcB e n cnt c i) 2,bt (ZcB e n cnt c i) 3]=e:=by
  rw[h1,h2,h3,←Zd1,rd3 (by omega) (by omega)]
 unfold epH
 rw[hr,if_pos ⟨.inr h0,h31,he.2⟩]
theorem Zqy {e n:Int}{cnt:Nat} (hc:cnt<256) (c:List Int) (i:Nat):bt (ZcB e n cnt c i) 7=cnt:=by
 obtain⟨_,_,_,_,h7,_⟩:=ZoI e n cnt c i
 rw[h7,ZjR];omega
theorem Zq3 {r:Record} (h:ZeV r=true):Zb2 (enc r).length≤10:=by
 have:=Zfu h
 rw[Zj3];unfold Zb2;omega
structure HasRec (p:List Pg) (a from_ n:Nat) (r:Record) (e:Int):Prop where
 ok:ZeV r=true
 ep:1≤e∧e≤1000000
 run:Zvx p a from_ (Zax r n e)
theorem Zdn {p:List Pg} (hb:PgB p) {a from_ n:Nat}{q:Record×Int×Nat}:Zhk p a from_ n=some q↔HasRec p a from_ n q.1 q.2.1∧q.2.2=(Zax q.1 n q.2.1).length:=by
 obtain⟨r,e,m⟩:=q
 constructor
 ·intro h
  unfold Zhk at h
  split at h
  ·cases h
  rename_i h1
  split at h
  ·cases h
  rename_i h2
  split at h
  ·cases h
  rename_i q hq
  split at h
  ·rename_i h3
   simp only[oE,Prod.mk.injEq]at h
   obtain⟨rfl,rfl,rfl⟩:=h
   have hE:=Znk (hb.hf a from_)
   have hnz:¬ epH (hf p a from_)=0:=fun c=>h2 (.inl c)
   have hle:¬ 602<from_+(bt (hf p a from_) 7).toNat:=fun c=>h2 (.inr c)
   refine⟨⟨h3.1,⟨show 1≤epH (hf p a from_) by omega,hE.2⟩,⟨?_,Zm4.1 h3.2.2⟩⟩,h3.2.1.symm⟩
   show from_+(Zax q.1 n (epH (hf p a from_))).length≤602
   rw[h3.2.1];omega
  ·cases h
 ·rintro⟨⟨h1,h2,h3,h4⟩,h5⟩
  simp only at h1 h2 h3 h4 h5
  have hc:=Zq3 h1
  have hf0:=h4 0 _ (Zvo r n e)
  rw[Nat.add_zero]at hf0
  have hE:epH (hf p a from_)=e:=by rw[hf0];exact Zj4 h2 _ _ _ _
  have h7:(bt (hf p a from_) 7).toNat=m:=by
   rw[hf0,Zqy (by omega),h5,ZaD];rfl
  have hmp:0<m:=by rw[h5,ZaD];exact Ze5 r
  rw[←h5]at h3
  have hpieces:((List.range m).map fun i=>Zc2 (hf p a (from_+i))).flatten=Zr4 (enc r):=by
   rw[←ZlC e n (enc r)]
   congr 1
   rw[List.map_map,←ZaD r n e,←h5]
   apply List.map_congr_left
   intro i hi
   have hi':=List.mem_range.1 hi
   have hx:(Zax r n e)[i]?=some (ZcB e n (Zb2 (enc r).length) (enc r) i):=by
    unfold Zax
    rw[List.getElem?_map,List.getElem?_range (by rw[←ZaD r n e,←h5];exact hi')];rfl
   rw[h4 i _ hx];rfl
  have hd:=ZqB h1 (List.replicate (23*Zb2 (enc r).length - (enc r).length) 0)
  unfold Zhk
  rw[if_neg (by omega),h7,hE,if_neg (by omega),hpieces]
  unfold Zr4
  rw[hd]
  simp only
  rw[if_pos ⟨h1,h5.symm,Zm4.2 h4⟩]
theorem HasRec.inj {p:List Pg} (hb:PgB p) {a from_ n:Nat}{r r':Record}{e e':Int} (h:HasRec p a from_ n r e) (h':HasRec p a from_ n r' e'):r=r'∧e=e':=by
 have h1:=(Zdn hb (q:=(r,e,(Zax r n e).length))).2 ⟨h,rfl⟩
 have h2:=(Zdn hb (q:=(r',e',(Zax r' n e').length))).2 ⟨h',rfl⟩
 rw[h1]at h2
 simp only[oE,Prod.mk.injEq]at h2
 exact⟨h2.1,h2.2.1⟩
def ZeE (b:List Record) (r:Record):Option (List Record):=if (Zkc b r).2=0∧(Zkc b r).1.length≠b.length then some (Zkc b r).1 else none
def rd (p:List Pg) (a:Nat):Nat→List Record→Int→Nat→Nat→List (Record×Nat)
 |0,_,_,_,_=>[]
 |m+1,b,e,u,n=>match Zhk p a u n with
  |none=>[]
  |some q=>if q.2.1<e then [] else match ZeE b q.1 with
   |none=>[]
   |some b'=>(q.1,u+q.2.2)::rd p a m b' q.2.1 (u+q.2.2) (n+1)
theorem Zfo {b b':List Record}{r:Record} (h:ZeE b r=some b'):b'=Zil Za1 b r∧ZfF Za1 b (Za1 r)=none∧r.At.No≤cnt Za1 b r.At.House∧b.length≠60:=by
 unfold ZeE Zkc at h
 cases hf:ZfF Za1 b (Za1 r) with
 |some x=>
  rw[hf]at h
  simp only at h
  by_cases e:x=r
  ·rw[if_pos e]at h;simp at h
  ·rw[if_neg e]at h;simp at h
 |none=>
  rw[hf]at h
  simp only at h
  by_cases hc:((cnt Za1 b r.At.House:Nat):Int)<r.At.No
  ·rw[if_pos hc]at h;simp at h
  ·rw[if_neg hc]at h
   by_cases h60:(b.length:Int)=60
   ·rw[if_pos h60]at h;simp at h
   ·rw[if_neg h60]at h
    split at h
    ·exact⟨(oi h).symm,rfl,by omega,by omega⟩
    ·cases h
theorem ZqM {b:List Record}{r:Record} (h1:ZfF Za1 b (Za1 r)=none) (h2:r.At.No≤cnt Za1 b r.At.House) (h3:b.length≠60):ZeE b r=some (Zil Za1 b r):=by
 have:Zkc b r=(Zil Za1 b r,0):=by
  unfold Zkc
  rw[h1]
  simp only
  rw[if_neg (by omega),if_neg (by omega)]
 unfold ZeE
 rw[this]
 simp only
 rw[if_pos ⟨trivial,by rw[Zg7];omega⟩]
theorem ZkD {b b':List Record}{r:Record} (hv:Val Za1 b) (hr:ZeV r=true) (h:ZeE b r=some b'):Val Za1 b'∧b'.length=b.length+1:=by
 obtain⟨h1,h2,h3,h4⟩:=Zfo h
 subst h1
 refine⟨Zm7 Za1 hv ?_,Zg7 Za1 b r⟩
 show r.At.No=_
 have hn:=ZiT Za1 h2
 by_cases hlt:r.At.No<cnt Za1 b r.At.House
 ·have h0:=(Ziy hr).2.1.1
  obtain⟨x,hx,hk⟩:=Ztr Za1 hv (h:=r.At.House) (n:=r.At.No) h0 hlt
  exact absurd hk (hn x hx)
 ·show r.At.No=((cnt Za1 b r.At.House:Nat):Int)
  omega
theorem ZjI {k:Nat} (hk:1000000<k) {p:List Pg} (hp:p.length=602) (hb:PgB p) (w:List Write) {a:Nat} (ha:a≤1):∀ (m:Nat) (b:List Record) (e:Int) (u n:Nat),Val Za1 b→(∀ r∈b,ZeV r=true)→b.length=n→n≤60→u≤602→61≤m+n→
  Zbx.go k ⟨⟨p,w⟩⟩ (a:Int) (m+1) ⟨b⟩ e (u:Int) (n:Int)=some ((rd p a (m+1) b e u n).map fun x=>(x.1,(x.2:Int))):=by
 intro m
 induction m with
 |zero=>intro b e u n _ _ h1 h2 _ h3;omega
 |succ m ih=>
  intro b e u n hv hok hbl hn hu hm
  rw[Zbx.go,rd,Zpo hk hp hb w ha u n (by omega)]
  simp only[Option.bind_some]
  cases hq:Zhk p a u n with
  |none=>rfl
  |some q=>
   obtain⟨⟨g1,g2,g3⟩,g4⟩:=(Zdn hb).1 hq
   have hmp:0<q.2.2:=by rw[g4,ZaD];exact Ze5 q.1
   have h602:=g3.1
   rw[←g4]at h602
   simp only[decide_eq_false (show ¬ (q.2.2:Int)=0 by omega),Bool.not_false,cond_true]
   by_cases he:q.2.1<e
   ·simp only[decide_eq_true he,cond_true,if_pos he];rfl
   ·have hh:∀ r∈b,Zee r:=fun r hr=>Zd7 (hok r hr)
    simp only[decide_eq_false he,cond_false,if_neg he,ZfW hk (b:=⟨b⟩) hv.1 (show b.length≤900 by omega) hh,g1,cond_true,Option.bind_some]
    cases hm1:ZeE b q.1 with
    |none=>
     unfold ZeE at hm1
     by_cases h0:(Zkc b q.1).2=0
     ·simp only[decide_eq_true h0,cond_true]
      by_cases hl:(Zkc b q.1).1.length=b.length
      ·simp only[decide_eq_true (show (((Zkc b q.1).1.length:Nat):Int)=(b.length:Int) by omega),cond_true];rfl
      ·rw[if_pos ⟨h0,hl⟩]at hm1;cases hm1
     ·simp only[decide_eq_false h0,cond_false];rfl
    |some b'=>
     obtain⟨v1,v2⟩:=ZkD hv g1 hm1
     have hm2:=hm1
     unfold ZeE at hm2
     split at hm2
     ·rename_i hc
      have hb':(Zkc b q.1).1=b':=oi hm2
      have hw1:w64 ((u:Int)+(q.2.2:Int))=((u+q.2.2:Nat):Int):=by rw[Za8 (by omega) (by omega)];omega
      have hw2:w64 ((n:Int)+1)=((n+1:Nat):Int):=by rw[Za8 (by omega) (by omega)];omega
      have h60:b.length≠60:=(Zfo hm1).2.2.2
      simp only[decide_eq_true hc.1,cond_true,hb',decide_eq_false (show ¬ ((b'.length:Nat):Int)=(b.length:Int) by omega),cond_false,hw1,hw2]
      obtain⟨m,rfl⟩:∃ q,m=q+1:=⟨m - 1,by omega⟩
      rw[ih b' q.2.1 (u+q.2.2) (n+1) v1 (fun r hr=>by
       rw[(Zfo hm1).1,ZjA]at hr
       rcases hr with rfl|hr
       ·exact g1
       ·exact hok r hr) (by omega) (by omega) (by omega) (by omega)]
      rfl
     ·cases hm2
end Go.Abs
namespace Go.Abs
open Go Go.Proofs
set_option maxRecDepth 20000
set_option linter.unusedVariables false
set_option linter.unusedSimpArgs false
def fin (s:List Record×Nat) (L:List (Record×Nat)):List Record×Nat:=L.foldl (fun s x=>(Zil Za1 s.1 x.1,x.2)) s
theorem ZjE {k:Nat} (hk:1000000<k) {p:List Pg} (hb:PgB p) {a:Nat} (D:Option book_disk) (A E:Int):∀ (m:Nat) (b:List Record) (e:Int) (u n:Nat) (U R:Int),Val Za1 b→(∀ r∈b,ZeV r=true)→b.length≤60→0≤R→R+100≤1000000 - (100 - m:Int)*0 - m→U=(u:Int)→
  Zcd k ⟨D,A,E,U,⟨b⟩,R⟩ ((rd p a m b e u n).map fun x=>(x.1,(x.2:Int)))=some ⟨D,A,E,((fin (b,u) (rd p a m b e u n)).2:Int),⟨(fin (b,u) (rd p a m b e u n)).1⟩,R+(rd p a m b e u n).length⟩:=by
 intro m
 induction m with
 |zero=>intro b e u n U R _ _ _ _ _ hU;subst hU;simp[rd,Zcd,fin]
 |succ m ih=>
  intro b e u n U R hv hok hl hR0 hR hU
  subst hU
  have stop:Zcd k ⟨D,A,E,(u:Int),⟨b⟩,R⟩ (([]:List (Record×Nat)).map fun x=>(x.1,(x.2:Int)))=some ⟨D,A,E,((fin (b,u) []).2:Int),⟨(fin (b,u) []).1⟩,R+(([]:List (Record×Nat)).length:Int)⟩:=by
   simp[Zcd,fin]
  rw[rd]
  cases hq:Zhk p a u n with
  |none=>exact stop
  |some q=>
   obtain⟨⟨g1,g2,g3⟩,g4⟩:=(Zdn hb).1 hq
   simp only
   by_cases he:q.2.1<e
   ·rw[if_pos he];exact stop
   ·rw[if_neg he]
    cases hm1:ZeE b q.1 with
    |none=>exact stop
    |some b'=>
     obtain⟨v1,v2⟩:=ZkD hv g1 hm1
     obtain⟨i1,_,_,i4⟩:=Zfo hm1
     have hm2:=hm1
     unfold ZeE at hm2
     split at hm2
     ·rename_i hc
      have hb':(Zkc b q.1).1=b':=oi hm2
      have hh:∀ r∈b,Zee r:=fun r hr=>Zd7 (hok r hr)
      simp only[List.map_cons,Zcd]
      have hst:Zd6 k ⟨D,A,E,(u:Int),⟨b⟩,R⟩ (q.1,((u+q.2.2:Nat):Int))=some ⟨D,A,E,((u+q.2.2:Nat):Int),⟨b'⟩,R+1⟩:=by
       unfold Zd6
       rw[ZfW hk (b:=⟨b⟩) hv.1 (show b.length≤900 by omega) hh,g1]
       simp only[cond_true,Option.bind_some,hb']
       rw[Za8 (by omega) (by omega)]
      rw[hst,Option.bind_some]
      rw[ih b' q.2.1 (u+q.2.2) (n+1) _ (R+1) v1 (fun r hr=>by
       rw[i1,ZjA]at hr
       rcases hr with rfl|hr
       ·exact g1
       ·exact hok r hr) (by omega) (by omega) (by omega) rfl]
      have hf:fin (b,u) ((q.1,u+q.2.2)::rd p a m b' q.2.1 (u+q.2.2) (n+1))=fin (b',u+q.2.2) (rd p a m b' q.2.1 (u+q.2.2) (n+1)):=by
       unfold fin
       rw[List.foldl_cons,i1]
      rw[hf]
      simp only[List.length_cons]
      congr 2
      push_cast
      omega
     ·cases hm2
theorem Zhc (k:Nat) (e n:Int):ZdD k e n=some ⟨[104,IntKind.u8.wrap (Int.fdiv e (2 ^ 16)),IntKind.u8.wrap (Int.fdiv e (2 ^ 8)),IntKind.u8.wrap e,IntKind.u8.wrap (Int.fdiv n (2 ^ 8)),IntKind.u8.wrap n,
  0,0,0,0,0,0,0,0,0,0,0,0,0,0,0,0,0,0,0,0,0,0,0,0,0,165],rfl⟩:=rfl
def ZbK (e n:Int):Hf:=⟨[104,IntKind.u8.wrap (Int.fdiv e (2 ^ 16)),IntKind.u8.wrap (Int.fdiv e (2 ^ 8)),IntKind.u8.wrap e,IntKind.u8.wrap (Int.fdiv n (2 ^ 8)),IntKind.u8.wrap n,
  0,0,0,0,0,0,0,0,0,0,0,0,0,0,0,0,0,0,0,0,0,0,0,0,0,165],rfl⟩
def Ztk (p:List Pg) (a:Nat):List (Record×Nat):=rd p a 100 [] (epH (hf p a 0)) 1 0
structure Ar where
 epoch:Int
 recs:List (Record×Nat)
def Ar.book (x:Ar):List Record:=(fin ([],1) x.recs).1
def Ar.used (x:Ar):Nat:=(fin ([],1) x.recs).2
def ZdL (p:List Pg) (a:Nat):Option Ar:=
 if epH (hf p a 0)≠0∧hf p a 0=ZbK (epH (hf p a 0)) (rdV [bt (hf p a 0) 4,bt (hf p a 0) 5])∧rdV [bt (hf p a 0) 4,bt (hf p a 0) 5]≤((Ztk p a).length:Int) then some ⟨epH (hf p a 0),Ztk p a⟩ else none
theorem Zr5 {p:List Pg}{a:Nat}:∀ (m:Nat) (b:List Record) (e:Int) (u n:Nat),(rd p a m b e u n).length≤m
 |0,_,_,_,_=>Nat.le_refl _
 |m+1,b,e,u,n=>by
  rw[rd]
  split
  ·exact Nat.zero_le _
  ·split
   ·exact Nat.zero_le _
   ·split
    ·exact Nat.zero_le _
    ·rw[List.length_cons]
     exact Nat.succ_le_succ (Zr5 m _ _ _ _)
theorem Zpn {p:List Pg} (hb:PgB p) {a:Nat}:∀ (m m':Nat) (b:List Record) (e:Int) (u n:Nat),61≤m+b.length→61≤m'+b.length→b.length≤60→rd p a m b e u n=rd p a m' b e u n
 |0,_,b,_,_,_,h1,_,h3=>by omega
 |_+1,0,b,_,_,_,_,h2,h3=>by omega
 |m+1,m'+1,b,e,u,n,h1,h2,h3=>by
  rw[rd,rd]
  cases hq:Zhk p a u n with
  |none=>rfl
  |some q=>
   simp only
   by_cases he:q.2.1<e
   ·rw[if_pos he,if_pos he]
   ·rw[if_neg he,if_neg he]
    cases hm1:ZeE b q.1 with
    |none=>rfl
    |some b'=>
     obtain⟨i1,_,_,i4⟩:=Zfo hm1
     have hl:b'.length=b.length+1:=by rw[i1,Zg7]
     simp only
     rw[Zpn hb m m' b' q.2.1 _ _ (by omega) (by omega) (by omega)]
theorem ZlK {k:Nat} (hk:1000000<k) {p:List Pg} (hp:p.length=602) (hb:PgB p) (w:List Write) {a:Nat} (ha:a≤1):
  Zbx k ⟨⟨p,w⟩⟩ (a:Int)=some ((Ztk p a).map fun x=>(x.1,(x.2:Int))):=by
 unfold Zbx
 have h0:=Zhb k hp w ha (show 0<602 by decide)
 rw[Int.natCast_zero]at h0
 rw[h0]
 simp only[Option.bind_some,ZeB k (hb.hf a 0)]
 obtain⟨m,rfl⟩:∃ m,k=m+1:=⟨k - 1,by omega⟩
 have h1:=ZjI hk hp hb w ha m [] (epH (hf p a 0)) 1 0 ⟨.nil,trivial⟩ (by simp) rfl (by decide) (by decide) (by omega)
 have h2:=Zpn hb (m+1) 100 [] (epH (hf p a 0)) 1 0 (by simp;omega) (by decide) (by decide) (a:=a)
 rw[h2]at h1
 exact h1
theorem ZiY {k:Nat} (hk:1000000<k) {p:List Pg} (hp:p.length=602) (hb:PgB p) (w:List Write) {a:Nat} (ha:a≤1):
  ∃ J ok,Zbh k ⟨⟨p,w⟩⟩ (a:Int)=some (J,ok)∧(match ZdL p a with|none=>ok=false|some q=>ok=true∧J.area=(a:Int)∧J.epoch=q.epoch∧J.book=⟨q.book⟩∧J.used=(q.used:Int)):=by
 have h0:=Zhb k hp w ha (show 0<602 by decide)
 rw[Int.natCast_zero]at h0
 have e4:(hf p a 0).at? 4=some (bt (hf p a 0) 4):=Zkp _ (i:=4) (by decide)
 have e5:(hf p a 0).at? 5=some (bt (hf p a 0) 5):=Zkp _ (i:=5) (by decide)
 have B4:=ZhY (hb.hf a 0) 4
 have B5:=ZhY (hb.hf a 0) 5
 unfold Zbh ZdL Zeg
 rw[h0]
 simp only[Option.bind_some,ZeB k (hb.hf a 0),e4,e5,or2 B4 B5]
 by_cases he:epH (hf p a 0)=0
 ·simp only[decide_eq_true he,Bool.not_true,cond_false]
  rw[if_neg (fun c=>c.1 he)]
  exact⟨_,_,rfl,rfl⟩
 ·simp only[decide_eq_false he,Bool.not_false,cond_true,Zhc,Option.bind_some]
  by_cases hh:hf p a 0=ZbK (epH (hf p a 0)) (rdV [bt (hf p a 0) 4,bt (hf p a 0) 5])
  ·have hv:Vec.eq (fun(x y:Int)=>decide (x=y)) (hf p a 0) (ZbK (epH (hf p a 0)) (rdV [bt (hf p a 0) 4,bt (hf p a 0) 5]))=true:=(Zi9 _ _).2 hh
   unfold ZbK at hv
   simp only[hv,Bool.not_true,cond_false,ZlK hk hp hb w ha,Option.bind_some]
   have ho:=ZjE hk hb (a:=a) (some ⟨⟨p,w⟩⟩) (a:Int) (epH (hf p a 0)) 100 [] (epH (hf p a 0)) 1 0 1 0 ⟨.nil,trivial⟩ (by simp) (by decide) (by decide) (by decide) rfl
   have hl:=Zr5 (p:=p) (a:=a) 100 [] (epH (hf p a 0)) 1 0
   unfold ZkK
   rw[show Ztk p a=rd p a 100 [] (epH (hf p a 0)) 1 0 from rfl,ho]
   simp only[Option.bind_some,Int.zero_add]
   refine⟨_,_,rfl,?_⟩
   by_cases hc:rdV [bt (hf p a 0) 4,bt (hf p a 0) 5]≤((rd p a 100 [] (epH (hf p a 0)) 1 0).length:Int)
   ·rw[if_pos ⟨he,hh,hc⟩]
    exact⟨decide_eq_true hc,rfl,rfl,rfl,rfl⟩
   ·rw[if_neg (fun c=>hc c.2.2)]
    exact decide_eq_false hc
  ·have hv:Vec.eq (fun(x y:Int)=>decide (x=y)) (hf p a 0) (ZbK (epH (hf p a 0)) (rdV [bt (hf p a 0) 4,bt (hf p a 0) 5]))=false:=by
    cases hq:Vec.eq (fun(x y:Int)=>decide (x=y)) (hf p a 0) (ZbK (epH (hf p a 0)) (rdV [bt (hf p a 0) 4,bt (hf p a 0) 5])) with
    |false=>rfl
    |true=>exact absurd ((Zi9 _ _).1 hq) hh
   unfold ZbK at hv
   simp only[hv,Bool.not_false,cond_true]
   rw[if_neg (fun c=>hh c.2.1)]
   exact⟨_,_,rfl,rfl⟩
def Ziq (p:List Pg):Option (Nat×Ar):=match ZdL p 0,ZdL p 1 with
 |some x,some y=>if x.epoch<y.epoch then some (1,y) else some (0,x)
 |some x,none=>some (0,x)
 |none,some y=>some (1,y)
 |none,none=>none
theorem Zir {k:Nat} (hk:1000000<k) {p:List Pg} (hp:p.length=602) (hb:PgB p) (w:List Write):
  ∃ J ok,ZbI k ⟨⟨p,w⟩⟩=some (J,ok)∧(match Ziq p with|none=>ok=false|some q=>ok=true∧J.area=(q.1:Int)∧J.epoch=q.2.epoch∧J.book=⟨q.2.book⟩∧J.used=(q.2.used:Int)):=by
 obtain⟨J0,o0,h0,g0⟩:=ZiY hk hp hb w (a:=0) (by decide)
 obtain⟨J1,o1,h1,g1⟩:=ZiY hk hp hb w (a:=1) (by decide)
 have h0':Zbh k ⟨⟨p,w⟩⟩ 0=some (J0,o0):=h0
 have h1':Zbh k ⟨⟨p,w⟩⟩ 1=some (J1,o1):=h1
 unfold ZbI Ziq
 rw[h0',h1']
 simp only[Option.bind_some]
 cases hx:ZdL p 0 with
 |none=>
  rw[hx]at g0
  simp only at g0
  subst g0
  cases hy:ZdL p 1 with
  |none=>
   rw[hy]at g1
   simp only at g1
   subst g1
   exact⟨_,_,rfl,rfl⟩
  |some y=>
   rw[hy]at g1
   simp only at g1
   obtain⟨rfl,a2,a3,a4,a5⟩:=g1
   exact⟨_,_,rfl,rfl,a2,a3,a4,a5⟩
 |some x=>
  rw[hx]at g0
  simp only at g0
  obtain⟨rfl,b2,b3,b4,b5⟩:=g0
  cases hy:ZdL p 1 with
  |none=>
   rw[hy]at g1
   simp only at g1
   subst g1
   exact⟨_,_,rfl,rfl,b2,b3,b4,b5⟩
  |some y=>
   rw[hy]at g1
   simp only at g1
   obtain⟨rfl,a2,a3,a4,a5⟩:=g1
   simp only[cond_true,b3,a3]
   by_cases hlt:x.epoch<y.epoch
   ·simp only[decide_eq_true hlt,cond_true,if_pos hlt]
    exact⟨_,_,rfl,rfl,a2,a3,a4,a5⟩
   ·simp only[decide_eq_false hlt,cond_false,if_neg hlt]
    exact⟨_,_,rfl,rfl,b2,b3,b4,b5⟩
end Go.Abs
namespace Go.Abs
open Go Go.Proofs
set_option maxRecDepth 20000
set_option linter.unusedVariables false
set_option linter.unusedSimpArgs false
theorem ZiL {k:Nat} (hk:1000000<k) {l:List Record} (hl:l.length≤100000):Zal k l l=some true:=by
 unfold Zal
 simp only[decide_true,Bool.not_true,cond_false]
 have h:=ZjQ (l:=l) (body:=Zal.b0 k l l) (p:=fun _=>true) (c:=false) (by omega) (k:=k) (by omega) (fun i x hx=>by
  have hi:=(gS.1 hx).1
  unfold Zal.b0
  simp only[decide_eq_true (show (i:Int)<(l.length:Int) by omega),cond_true,ZcA hx,Option.bind_some,decide_true,Bool.true_and,beq_self_eq_true,Bool.not_true,cond_false]) (by
  unfold Zal.b0
  simp only[(by simp:decide ((l.length:Int)<(l.length:Int))=false),cond_false])
 rw[h]
 have:l.all (fun _=>true)=true:=by simp
 rw[this]
 rfl
theorem PgB.mend {w:List Write} (hw:∀ x∈w,∀ h∈x.Page.l,Byt h.l):∀ {p:List Pg},PgB p→PgB (mend p w):=by
 induction w with
 |nil=>intro p h;exact h
 |cons x w ih=>
  intro p h
  refine ih (fun y hy=>hw y (by simp[hy])) (fun g hg=>?_)
  rcases List.mem_or_eq_of_mem_set hg with g1|rfl
  ·exact h g g1
  ·exact hw x (by simp)
structure DB (d:Disk):Prop where
 ok:dOK d=true
 pb:PgB d.Pages
 wb:∀ x∈d.Wait,∀ h∈x.Page.l,Byt h.l
theorem DB.new {d:Disk} (h:DB d):PgB (mend d.Pages d.Wait):=PgB.mend h.wb h.pb
theorem DB.len {d:Disk} (h:DB d):(mend d.Pages d.Wait).length=602:=by rw[Zmt];exact(Zdu.1 h.ok).1
structure LedOK (d:Disk) (l:Ledger) (q:Nat×Ar):Prop where
 meant:Ziq (mend d.Pages d.Wait)=some q
 le:q.1≤1
 area:l.Area=(q.1:Int)
 used:l.Used=(q.2.used:Int)
 book:l.Book=⟨q.2.book⟩
 short:q.2.book.length≤60
 ep:1≤l.Epoch∧l.Epoch≤1000000
 m0:mx (mend d.Pages d.Wait) 0 0≤l.Epoch
 m1:mx (mend d.Pages d.Wait) 1 0≤l.Epoch
 mu:mx (mend d.Pages d.Wait) q.1 q.2.used<l.Epoch
theorem ZgS {x lo hi:Int} (h:lo≤x∧x≤hi):within x lo hi=true:=by unfold within;simp[h.1,h.2]
theorem ZfN {k:Nat} (hk:1000000<k) {d:Disk} (hd:DB d) {l:Ledger}{q:Nat×Ar} (h:LedOK d l q):Zb5 k d l=some 0:=by
 obtain⟨J,ok,h1,h2⟩:=Zir hk hd.len hd.new []
 rw[h.meant]at h2
 simp only at h2
 obtain⟨rfl,ha,he,hbk,hu⟩:=h2
 have E0:=ZcG hk hd.len hd.new [] (a:=0) (by decide) 0
 have E1:=ZcG hk hd.len hd.new [] (a:=1) (by decide) 0
 have E2:=ZcG hk hd.len hd.new [] h.le q.2.used
 have E0':Zan k ⟨⟨mend d.Pages d.Wait,[]⟩⟩ 0 0=some (mx (mend d.Pages d.Wait) 0 0):=E0
 have E1':Zan k ⟨⟨mend d.Pages d.Wait,[]⟩⟩ 1 0=some (mx (mend d.Pages d.Wait) 1 0):=E1
 have hm0:=h.m0
 have hm1:=h.m1
 have hmu:=h.mu
 have hs:=h.short
 unfold Zb5
 rw[ZdY hk,hd.ok]
 simp only[Option.bind_some,Bool.not_true,cond_false]
 rw[Zdk hd.ok]
 simp only[Option.bind_some]
 rw[ZcZ hk hd.ok]
 simp only[Option.bind_some,h1,cond_true,h.area,ha,hu,h.used,decide_true,hbk,h.book,ZiL hk (show q.2.book.length≤100000 by omega),Zdc,ZgS h.ep,Bool.not_true,cond_false,E0',E1']
 rw[decide_eq_false (show ¬ l.Epoch<max (mx (mend d.Pages d.Wait) 0 0) (mx (mend d.Pages d.Wait) 1 0) by omega)]
 simp only[Bool.not_false,cond_true,E2,Option.bind_some]
 rw[decide_eq_false (show ¬ l.Epoch≤mx (mend d.Pages d.Wait) q.1 q.2.used by omega)]
 rfl
theorem Ztf {k:Nat} (hk:1000000<k) {d:Disk} (hd:DB d) {q:Nat×Ar} (h:Ziq (mend d.Pages d.Wait)=some q) (hm:max (mx (mend d.Pages d.Wait) 0 0) (mx (mend d.Pages d.Wait) 1 0)<1000000):
  Zcq k d=some (⟨mend d.Pages d.Wait,[]⟩,⟨⟨q.2.book⟩,(q.1:Int),1+max (mx (mend d.Pages d.Wait) 0 0) (mx (mend d.Pages d.Wait) 1 0),(q.2.used:Int)⟩,0):=by
 obtain⟨J,ok,h1,h2⟩:=Zir hk hd.len hd.new []
 rw[h]at h2
 simp only at h2
 obtain⟨rfl,ha,he,hbk,hu⟩:=h2
 have E0':Zan k ⟨⟨mend d.Pages d.Wait,[]⟩⟩ 0 0=some (mx (mend d.Pages d.Wait) 0 0):=ZcG hk hd.len hd.new [] (a:=0) (by decide) 0
 have E1':Zan k ⟨⟨mend d.Pages d.Wait,[]⟩⟩ 1 0=some (mx (mend d.Pages d.Wait) 1 0):=ZcG hk hd.len hd.new [] (a:=1) (by decide) 0
 have n0:=ZgD (mend d.Pages d.Wait) 0 0
 have n1:=ZgD (mend d.Pages d.Wait) 1 0
 have hw:w64 (1+max (mx (mend d.Pages d.Wait) 0 0) (mx (mend d.Pages d.Wait) 1 0))=1+max (mx (mend d.Pages d.Wait) 0 0) (mx (mend d.Pages d.Wait) 1 0):=Za8 (by omega) (by omega)
 unfold Zcq
 rw[ZdY hk,hd.ok]
 simp only[Option.bind_some,Bool.not_true,cond_false]
 rw[Zdk hd.ok]
 simp only[Option.bind_some]
 rw[ZcZ hk hd.ok]
 simp only[Option.bind_some,h1,Bool.not_true,cond_false,E0',E1',hw,hbk,ha,hu]
 rw[decide_eq_false (show ¬ (1000000:Int)<1+max (mx (mend d.Pages d.Wait) 0 0) (mx (mend d.Pages d.Wait) 1 0) by omega)]
 rfl
def ph (p:List Pg) (j s:Nat):Hf:=match p[j]? with
 |some g=>(g.l[s]?).getD hz
 |none=>hz
theorem Zl9 (p:List Pg) (a i:Nat):hf p a i=ph p (301*a+i / 2) (i % 2):=rfl
def sd (g:Pg) (s:Nat):Hf:=(g.l[s]?).getD hz
theorem ZfT {p:List Pg}{j:Nat}{g:Pg} (h:p[j]?=some g) (s:Nat):ph p j s=sd g s:=by unfold ph;rw[h];rfl
theorem Zpk {p:List Pg}{j:Nat} (h:p.length≤j) (s:Nat):ph p j s=hz:=by unfold ph;rw[List.getElem?_eq_none h]
theorem ZkP {p:List Pg}{j:Nat} (hj:j<p.length) (g:Pg) (j' s:Nat):ph (p.set j g) j' s=if j'=j then sd g s else ph p j' s:=by
 by_cases e:j'=j
 ·subst e
  rw[if_pos rfl,ZfT (by rw[List.getElem?_set_self hj])]
 ·rw[if_neg e]
  unfold ph
  rw[List.getElem?_set_ne (Ne.symm e)]
theorem ZfU (g:Pg) {s:Nat} (hs:s<2) (x:Hf) (s':Nat):sd (g.set (s:Int) x) s'=if s'=s then x else sd g s':=by
 have hl:=g.h
 unfold sd Vec.set
 simp only[Int.toNat_natCast]
 by_cases e:s'=s
 ·subst e
  rw[if_pos rfl,List.getElem?_set_self (by omega)];rfl
 ·rw[if_neg e,List.getElem?_set_ne (Ne.symm e)]
theorem Zt3 (g:Pg) {s:Nat} (hs:s<2):g.at? (s:Int)=some (sd g s):=by
 have:=Zp2 g s
 rw[Nat.mod_eq_of_lt hs]at this
 exact this
def Btw (old new p:List Pg):Prop:=∀ j s,ph p j s=ph old j s∨ph p j s=ph new j s
theorem Zpt {k:Nat}{p:List Pg} (hp:p.length=602) {w:Write} (hw:0≤w.At∧w.At≤601) {s:Nat} (hs:s<2):
  ∃ g,at? p w.At=some g∧ZlP p w.At (g.set (s:Int) (sd w.Page s))=some (p.set w.At.toNat (g.set (s:Int) (sd w.Page s)))∧∀ j' s',ph (p.set w.At.toNat (g.set (s:Int) (sd w.Page s))) j' s'=if j'=w.At.toNat∧s'=s then sd w.Page s else ph p j' s':=by
 have hj:w.At.toNat<p.length:=by omega
 refine⟨p[w.At.toNat],?_,?_,fun j' s'=>?_⟩
 ·unfold at?
  rw[if_pos ⟨by omega,by omega⟩,gG hj]
 ·unfold ZlP
  rw[if_pos ⟨by omega,by omega⟩]
 ·rw[ZkP hj,ZfU _ hs]
  by_cases e:j'=w.At.toNat
  ·subst e
   by_cases e2:s'=s
   ·rw[if_pos rfl,if_pos e2,if_pos ⟨rfl,e2⟩]
   ·rw[if_pos rfl,if_neg e2,if_neg (fun c=>e2 c.2),ZfT (gG hj)]
  ·rw[if_neg e,if_neg (fun c=>e c.1)]
def ZuJ (p p':List Pg) (w:Write):Prop:=p'.length=602∧∀ j s,ph p' j s=ph p j s∨(j=w.At.toNat∧ph p' j s=sd w.Page s)
theorem Zjd {R:Type}{w:Write} (hw:0≤w.At∧w.At≤601) {body:Int×List Pg→Option (Stp (Int×List Pg) (List Pg) R)}{c:Nat→Bool}
  (h1:∀ (s:Nat) p,s<2→p.length=602→body ((s:Int),p)=bif c s then (w.Page.at? (s:Int)).bind fun x=>(at? p w.At).bind fun g=>(g.at? (s:Int)).bind fun _=>(ZlP p w.At (g.set (s:Int) x)).bind fun l=>some (.next (w64 ((s:Int)+1),l)) else some (.next (w64 ((s:Int)+1),p)))
  (h2:∀ p,body (2,p)=some (.brk p)) {p:List Pg} (hp:p.length=602) (m:Nat):∃ p',whl body (m+3) (0,p)=some (.brk p')∧ZuJ p p' w:=by
 have w1:w64 (((0:Nat):Int)+1)=((1:Nat):Int):=by decide
 have w2:w64 (((1:Nat):Int)+1)=2:=by decide
 have one:∀ (s:Nat) (p:List Pg),s<2→p.length=602→∃ p',body ((s:Int),p)=some (.next (w64 ((s:Int)+1),p'))∧ZuJ p p' w:=by
  intro s p hs hp
  rw[h1 s p hs hp]
  cases c s with
  |false=>exact⟨p,rfl,hp,fun j s=>.inl rfl⟩
  |true=>
   obtain⟨g,g1,g3,g4⟩:=Zpt (k:=0) hp hw hs
   refine⟨p.set w.At.toNat (g.set (s:Int) (sd w.Page s)),?_,by rw[List.length_set];exact hp,fun j s'=>?_⟩
   ·simp only[cond_true,Zt3 w.Page hs,Zt3 g hs,g1,g3,Option.bind_some]
   ·rw[g4]
    by_cases e:j=w.At.toNat∧s'=s
    ·rw[if_pos e];exact .inr ⟨e.1,by rw[e.2]⟩
    ·rw[if_neg e];exact .inl rfl
 obtain⟨p1,a1,b1,b2⟩:=one 0 p (by decide) hp
 obtain⟨p2,a2,c1,c2⟩:=one 1 p1 (by decide) b1
 rw[w1]at a1
 rw[w2]at a2
 refine⟨p2,?_,c1,fun j s=>?_⟩
 ·have a1':body (0,p)=some (.next (((1:Nat):Int),p1)):=a1
  simp only[whl,a1',a2,h2]
 ·rcases c2 j s with e|⟨e1,e2⟩
  ·rcases b2 j s with f|⟨f1,f2⟩
   ·exact .inl (e.trans f)
   ·exact .inr ⟨f1,e.trans f2⟩
  ·exact .inr ⟨e1,e2⟩
theorem Zq8 {k:Nat} (hk:1000000<k) {d:Disk} (hd:DB d) (picks:List Int) (hpl:picks.length≤4611686018427387904)
  (hW:∀ w∈d.Wait,∀ s,sd w.Page s=ph d.Pages w.At.toNat s∨sd w.Page s=ph (mend d.Pages d.Wait) w.At.toNat s):
  ∃ p',Zak k d picks=some ⟨p',[]⟩∧p'.length=602∧Btw d.Pages (mend d.Pages d.Wait) p':=by
 obtain⟨h1,h2,h3⟩:=Zdu.1 hd.ok
 have step:∀ (i:Nat) w (p:List Pg),d.Wait[i]?=some w→p.length=602→∃ p',Zak.b0 k picks ⟨d⟩ ((i:Int),p)=some (.next (w64 ((i:Int)+1),p'))∧ZuJ p p' w:=by
  intro i w p hx hp
  have hi:=(gS.1 hx).1
  have hw:=h3 w (List.mem_of_getElem? hx)
  unfold Zak.b0
  simp only[decide_eq_true (show (i:Int)<((d.Wait.length:Nat):Int) by omega),cond_true,ZcA hx,Option.bind_some]
  obtain⟨m,rfl⟩:∃ m,k=m+3:=⟨k - 3,by omega⟩
  have sh0:∀ s:Nat,s<2→sh? (s:Int)=some ():=fun s hs=>by unfold sh?;rw[if_neg (by omega)]
  by_cases hz:(0:Int)<(picks.length:Int)
  ·have hnz:nz? (picks.length:Int)=some ():=by unfold nz?;rw[if_neg (by omega)]
   obtain⟨x,hxp⟩:∃ x,at? picks (Int.tmod (i:Int) (picks.length:Int))=some x:=by
    rw[←Int.ofNat_tmod]
    have hlt:i % picks.length<picks.length:=Nat.mod_lt _ (by omega)
    exact⟨_,ZcA (gG hlt)⟩
   simp only[decide_eq_true hz,cond_true,hnz,hxp,Option.bind_some]
   obtain⟨p',g1,g2⟩:=Zjd (w:=w) hw (body:=Zak.b1 (m+3) w x) (c:=fun s=>decide (Zp3 .i64 (Int.fdiv (Zp3 .i64 x 3) (2 ^ (min (Int.toNat (s:Int)) 64))) 1=(1:Int))) (fun s p hs hp=>by
    unfold Zak.b1
    simp only[decide_eq_true (show (s:Int)<2 by omega),cond_true,sh0 s hs,Option.bind_some]) (fun p=>by
    unfold Zak.b1
    simp only[(by decide:decide ((2:Int)<2)=false),cond_false]) hp m
   exact⟨p',by rw[g1];rfl,g2⟩
  ·simp only[decide_eq_false hz,cond_false]
   obtain⟨p',g1,g2⟩:=Zjd (w:=w) hw (body:=Zak.b1_2 (m+3) w) (c:=fun s=>decide (Zp3 .i64 (Int.fdiv 0 (2 ^ (min (Int.toNat (s:Int)) 64))) 1=(1:Int))) (fun s p hs hp=>by
    unfold Zak.b1_2
    simp only[decide_eq_true (show (s:Int)<2 by omega),cond_true,sh0 s hs,Option.bind_some]) (fun p=>by
    unfold Zak.b1_2
    simp only[(by decide:decide ((2:Int)<2)=false),cond_false]) hp m
   exact⟨p',by rw[g1];rfl,g2⟩
 have key:∀ (n i m:Nat) (p:List Pg),i+n=d.Wait.length→n<m→p.length=602→Btw d.Pages (mend d.Pages d.Wait) p→
   ∃ p',whl (Zak.b0 k picks ⟨d⟩) m ((i:Int),p)=some (.brk p')∧p'.length=602∧Btw d.Pages (mend d.Pages d.Wait) p':=by
  intro n
  induction n with
  |zero=>
   intro i m p g1 g2 g3 g4
   obtain⟨m,rfl⟩:∃ q,m=q+1:=⟨m - 1,by omega⟩
   have hb:Zak.b0 k picks ⟨d⟩ ((i:Int),p)=some (.brk p):=by
    unfold Zak.b0
    simp only[decide_eq_false (show ¬ (i:Int)<((d.Wait.length:Nat):Int) by omega),cond_false]
   exact⟨p,by simp only[whl,hb],g3,g4⟩
  |succ n ih=>
   intro i m p g1 g2 g3 g4
   obtain⟨m,rfl⟩:∃ q,m=q+1:=⟨m - 1,by omega⟩
   obtain⟨w,hw⟩:∃ w,d.Wait[i]?=some w:=⟨_,gG (by omega)⟩
   obtain⟨p1,a1,a2,a3⟩:=step i w p hw g3
   have hww:w64 ((i:Int)+1)=((i+1:Nat):Int):=by rw[Za8 (by omega) (by omega)];omega
   rw[hww]at a1
   obtain⟨p',b1,b2⟩:=ih (i+1) m p1 (by omega) (by omega) a2 (fun j s=>by
    rcases a3 j s with e|⟨e1,e2⟩
    ·rw[e];exact g4 j s
    ·rw[e2,e1];exact hW w (List.mem_of_getElem? hw) s)
   exact⟨p',by simp only[whl,a1,b1],b2⟩
 unfold Zak
 rw[Zdk hd.ok,ZdY hk,hd.ok]
 simp only[Option.bind_some,Bool.not_true,cond_false]
 obtain⟨p',b1,b2,b3⟩:=key d.Wait.length 0 k d.Pages (by omega) (by omega) h1 (fun j s=>.inl rfl)
 rw[Int.natCast_zero]at b1
 exact⟨p',by rw[b1];rfl,b2,b3⟩
end Go.Abs
namespace Go.Abs
open Go Go.Proofs
set_option maxRecDepth 20000
set_option linter.unusedVariables false
set_option linter.unusedSimpArgs false
def pz:Pg:=Vec.rep 2 hz
def wsR (p:List Pg) (a u:Nat) (l:List Hf):Nat→Nat→List Write
 |0,_=>[]
 |f+1,i=>match l[i]? with
  |none=>[]
  |some x=>if (u+i) % 2=1 then ⟨((301*a+(u+i) / 2:Nat):Int),((p[301*a+(u+i) / 2]?).getD pz).set 1 x⟩::wsR p a u l f (i+1) else match l[i+1]? with
   |none=>[⟨((301*a+(u+i) / 2:Nat):Int),((p[301*a+(u+i) / 2]?).getD pz).set 0 x⟩]
   |some y=>⟨((301*a+(u+i) / 2:Nat):Int),(((p[301*a+(u+i) / 2]?).getD pz).set 0 x).set 1 y⟩::wsR p a u l f (i+2)
theorem Zn7 {k:Nat} (hk:1000000<k) {p:List Pg} (hp:p.length=602) {a u:Nat} (ha:a≤1) {l:List Hf} (hul:u+l.length≤602):∀ (f i m:Nat) (ws:List Write),l.length - i≤f→f<m→i≤l.length→ws.length+f≤100000→
  whl (Zae.b0 k (a:Int) (u:Int) l ⟨⟨p,[]⟩⟩) m ((i:Int),ws)=some (.brk (ws++wsR p a u l f i)):=by
 intro f
 induction f with
 |zero=>
  intro i m ws h1 h2 h3 h4
  obtain⟨m,rfl⟩:∃ q,m=q+1:=⟨m - 1,by omega⟩
  have hb:Zae.b0 k (a:Int) (u:Int) l ⟨⟨p,[]⟩⟩ ((i:Int),ws)=some (.brk ws):=by
   unfold Zae.b0
   simp only[decide_eq_false (show ¬ (i:Int)<(l.length:Int) by omega),cond_false]
  simp only[whl,hb,wsR,List.append_nil]
 |succ f ih=>
  intro i m ws h1 h2 h3 h4
  obtain⟨m,rfl⟩:∃ q,m=q+1:=⟨m - 1,by omega⟩
  by_cases hi:i<l.length
  ·obtain⟨x,hx⟩:∃ x,l[i]?=some x:=⟨_,gG hi⟩
   have hui:w64 ((u:Int)+(i:Int))=((u+i:Nat):Int):=by rw[Za8 (by omega) (by omega)];omega
   have hw1:w64 ((i:Int)+1)=((i+1:Nat):Int):=by rw[Za8 (by omega) (by omega)];omega
   have hui1:w64 ((u:Int)+((i+1:Nat):Int))=((u+(i+1):Nat):Int):=by rw[Za8 (by omega) (by omega)];omega
   have hg:p[301*a+(u+i) / 2]?=some (p[301*a+(u+i) / 2]'(by omega)):=gG (by omega)
   obtain⟨g,hg'⟩:∃ g,p[301*a+(u+i) / 2]?=some g:=⟨_,hg⟩
   have hpg:=Zug hp ha (show u+i<602 by omega)
   obtain⟨k',rfl⟩:∃ k',k=k'+2:=⟨k - 2,by omega⟩
   have hpush:∀ v:Write,ZdM 72 ws v=some (ws++[v]):=fun v=>ZeH (by omega) (by omega)
   by_cases hodd:(u+i) % 2=1
   ·have hin:Zae.b1 (k'+2) (u:Int) l (g,(i:Int))=some (.brk (g.set 1 x,((i+1:Nat):Int))):=by
     unfold Zae.b1
     have hm:Int.tmod ((u+i:Nat):Int) 2=((1:Nat):Int):=by rw[Zta,hodd]
     have hm1:Int.tmod ((u+(i+1):Nat):Int) 2=0:=by rw[Zta];omega
     simp only[ZcA hx,Option.bind_some,hui,hm,Zt3 g (show 1<2 by decide),hw1,hui1,hm1,decide_true,cond_true]
     cases decide (((i+1:Nat):Int)=(l.length:Int))<;>rfl
    have hb:Zae.b0 (k'+2) (a:Int) (u:Int) l ⟨⟨p,[]⟩⟩ ((i:Int),ws)=some (.next (((i+1:Nat):Int),ws++[⟨((301*a+(u+i) / 2:Nat):Int),g.set 1 x⟩])):=by
     unfold Zae.b0
     simp only[decide_eq_true (show (i:Int)<(l.length:Int) by omega),cond_true,hui,hpg,ZcA hg',Option.bind_some,whl,hin,hpush]
    simp only[whl,hb]
    rw[ih (i+1) m _ (by omega) (by omega) (by omega) (by simp;omega)]
    rw[wsR,hx]
    simp only[if_pos hodd,hg',Option.getD_some]
    simp
   ·have hm:Int.tmod ((u+i:Nat):Int) 2=((0:Nat):Int):=by rw[Zta];omega
    have hm1:¬ Int.tmod ((u+(i+1):Nat):Int) 2=0:=by rw[Zta];omega
    by_cases hl1:i+1=l.length
    ·have hin:Zae.b1 (k'+2) (u:Int) l (g,(i:Int))=some (.brk (g.set 0 x,((i+1:Nat):Int))):=by
      unfold Zae.b1
      simp only[ZcA hx,Option.bind_some,hui,hm,Zt3 g (show 0<2 by decide),hw1,decide_eq_true (show ((i+1:Nat):Int)=(l.length:Int) by omega),Bool.not_true,cond_false]
      rfl
     have hb:Zae.b0 (k'+2) (a:Int) (u:Int) l ⟨⟨p,[]⟩⟩ ((i:Int),ws)=some (.next (((i+1:Nat):Int),ws++[⟨((301*a+(u+i) / 2:Nat):Int),g.set 0 x⟩])):=by
      unfold Zae.b0
      simp only[decide_eq_true (show (i:Int)<(l.length:Int) by omega),cond_true,hui,hpg,ZcA hg',Option.bind_some,whl,hin,hpush]
     have hn:l[i+1]?=none:=List.getElem?_eq_none (by omega)
     have hend:wsR p a u l f (i+1)=[]:=by
      cases f with
      |zero=>rfl
      |succ f=>rw[wsR,hn]
     simp only[whl,hb]
     rw[ih (i+1) m _ (by omega) (by omega) (by omega) (by simp;omega),hend]
     rw[wsR,hx]
     simp only[if_neg hodd,hn,hg',Option.getD_some]
     simp
    ·obtain⟨y,hy⟩:∃ y,l[i+1]?=some y:=⟨_,gG (by omega)⟩
     have hw2:w64 (((i+1:Nat):Int)+1)=((i+2:Nat):Int):=by rw[Za8 (by omega) (by omega)];omega
     have hui2:w64 ((u:Int)+((i+2:Nat):Int))=((u+(i+2):Nat):Int):=by rw[Za8 (by omega) (by omega)];omega
     have hm2:Int.tmod ((u+(i+1):Nat):Int) 2=((1:Nat):Int):=by rw[Zta];omega
     have hm3:Int.tmod ((u+(i+2):Nat):Int) 2=0:=by rw[Zta];omega
     have hin0:Zae.b1 (k'+2) (u:Int) l (g,(i:Int))=some (.next (g.set 0 x,((i+1:Nat):Int))):=by
      unfold Zae.b1
      simp only[ZcA hx,Option.bind_some,hui,hm,Zt3 g (show 0<2 by decide),hw1,decide_eq_false (show ¬ ((i+1:Nat):Int)=(l.length:Int) by omega),Bool.not_false,cond_true,hui1,decide_eq_false hm1,cond_false]
      rfl
     have hin1:Zae.b1 (k'+2) (u:Int) l (g.set 0 x,((i+1:Nat):Int))=some (.brk ((g.set 0 x).set 1 y,((i+2:Nat):Int))):=by
      unfold Zae.b1
      simp only[ZcA hy,Option.bind_some,hui1,hm2,Zt3 (g.set 0 x) (show 1<2 by decide),hw2,hui2,hm3,decide_true,cond_true]
      cases decide (((i+2:Nat):Int)=(l.length:Int))<;>rfl
     have hb:Zae.b0 (k'+2) (a:Int) (u:Int) l ⟨⟨p,[]⟩⟩ ((i:Int),ws)=some (.next (((i+2:Nat):Int),ws++[⟨((301*a+(u+i) / 2:Nat):Int),(g.set 0 x).set 1 y⟩])):=by
      unfold Zae.b0
      simp only[decide_eq_true (show (i:Int)<(l.length:Int) by omega),cond_true,hui,hpg,ZcA hg',Option.bind_some,whl,hin0,hin1,hpush]
     simp only[whl,hb]
     rw[ih (i+2) m _ (by omega) (by omega) (by omega) (by simp;omega)]
     rw[wsR,hx]
     simp only[if_neg hodd,hy,hg',Option.getD_some]
     simp
  ·have hn:l[i]?=none:=List.getElem?_eq_none (by omega)
   have hb:Zae.b0 k (a:Int) (u:Int) l ⟨⟨p,[]⟩⟩ ((i:Int),ws)=some (.brk ws):=by
    unfold Zae.b0
    simp only[decide_eq_false (show ¬ (i:Int)<(l.length:Int) by omega),cond_false]
   simp only[whl,hb]
   rw[wsR,hn]
   simp
abbrev ZfH (a u i n j s:Nat):Prop:=301*a≤j∧j<301*a+301∧u+i≤2*(j - 301*a)+s∧2*(j - 301*a)+s<u+n
def tg (p:List Pg) (a u:Nat) (l:List Hf) (i j s:Nat):Hf:=if ZfH a u i l.length j s then (l[2*(j - 301*a)+s - u]?).getD hz else ph p j s
theorem Zvw {p:List Pg}{s:Nat} (hs:2≤s) (j:Nat):ph p j s=hz:=by
 unfold ph
 split
 ·rename_i g _
  have:=g.h
  rw[List.getElem?_eq_none (by omega)];rfl
 ·rfl
theorem Zvy {g:Pg}{s:Nat} (hs:2≤s):sd g s=hz:=by
 have:=g.h
 unfold sd
 rw[List.getElem?_eq_none (by omega)];rfl
theorem ZiB (p:List Pg) (a u:Nat) (l:List Hf):∀ f i,(wsR p a u l f i).length≤l.length - i
 |0,i=>by simp[wsR]
 |f+1,i=>by
  rw[wsR]
  cases hx:l[i]? with
  |none=>simp
  |some x=>
   have hi:=(gS.1 hx).1
   simp only
   split
   ·have:=ZiB p a u l f (i+1)
    rw[List.length_cons];omega
   ·cases hy:l[i+1]? with
    |none=>simp;omega
    |some y=>
     have hi1:=(gS.1 hy).1
     have:=ZiB p a u l f (i+2)
     simp only[List.length_cons];omega
theorem Zm8 {p:List Pg} (hp:p.length=602) {a u:Nat} (ha:a≤1) {l:List Hf} (hul:u+l.length≤602):∀ f i,((u+i) % 2=1→i=0)→∀ w∈wsR p a u l f i,(0≤w.At∧w.At≤601)∧∀ s,s<2→sd w.Page s=tg p a u l 0 w.At.toNat s
 |0,i,_,w,hw=>by simp[wsR]at hw
 |f+1,i,ho,w,hw=>by
  rw[wsR]at hw
  cases hx:l[i]? with
  |none=>rw[hx]at hw;simp at hw
  |some x=>
   have hi:=(gS.1 hx).1
   have hg:p[301*a+(u+i) / 2]?=some (p[301*a+(u+i) / 2]'(by omega)):=gG (by omega)
   obtain⟨g,hg'⟩:∃ g,p[301*a+(u+i) / 2]?=some g:=⟨_,hg⟩
   rw[hx]at hw
   simp only[hg',Option.getD_some]at hw
   split at hw
   ·rename_i hodd
    rcases List.mem_cons.1 hw with rfl|hw
    ·refine⟨by simp only;omega,fun s hs=>?_⟩
     simp only[Int.toNat_natCast]
     rw[show (1:Int)=((1:Nat):Int) from rfl,ZfU g (show 1<2 by decide)]
     have h0:=ho hodd
     unfold tg ZfH
     by_cases e:s=1
     ·rw[if_pos e,if_pos (by omega),show 2*(301*a+(u+i) / 2 - 301*a)+s - u=i by omega,hx];rfl
     ·rw[if_neg e,if_neg (by omega),ZfT hg']
    ·exact Zm8 hp ha hul f (i+1) (by omega) w hw
   ·rename_i hev
    cases hy:l[i+1]? with
    |none=>
     have hi1:l.length≤i+1:=List.getElem?_eq_none_iff.1 hy
     rw[hy]at hw
     simp only[List.mem_singleton]at hw
     subst hw
     refine⟨by simp only;omega,fun s hs=>?_⟩
     simp only[Int.toNat_natCast]
     rw[show (0:Int)=((0:Nat):Int) from rfl,ZfU g (show 0<2 by decide)]
     unfold tg ZfH
     by_cases e:s=0
     ·rw[if_pos e,if_pos (by omega),show 2*(301*a+(u+i) / 2 - 301*a)+s - u=i by omega,hx];rfl
     ·rw[if_neg e,if_neg (by omega),ZfT hg']
    |some y=>
     have hi1:=(gS.1 hy).1
     rw[hy]at hw
     simp only at hw
     rcases List.mem_cons.1 hw with rfl|hw
     ·refine⟨by simp only;omega,fun s hs=>?_⟩
      simp only[Int.toNat_natCast]
      rw[show (1:Int)=((1:Nat):Int) from rfl,ZfU _ (show 1<2 by decide),show (0:Int)=((0:Nat):Int) from rfl,ZfU g (show 0<2 by decide)]
      unfold tg ZfH
      by_cases e:s=1
      ·rw[if_pos e,if_pos (by omega),show 2*(301*a+(u+i) / 2 - 301*a)+s - u=i+1 by omega,hy];rfl
      ·rw[if_neg e,if_pos (by omega),if_pos (by omega),show 2*(301*a+(u+i) / 2 - 301*a)+s - u=i by omega,hx];rfl
     ·exact Zm8 hp ha hul f (i+2) (by omega) w hw
theorem ZhM {p:List Pg} (hp:p.length=602) {a u:Nat} (ha:a≤1) {l:List Hf} (hul:u+l.length≤602):∀ (f i:Nat) (q:List Pg),l.length - i≤f→((u+i) % 2=1→i=0)→q.length=602→(∀ j,301*a+(u+i) / 2≤j→q[j]?=p[j]?)→∀ j s,s<2→ph (mend q (wsR p a u l f i)) j s=tg q a u l i j s
 |0,i,q,hf,_,hq,hqp,j,s,hs=>by
  unfold wsR mend tg ZfH
  rw[List.foldl_nil,if_neg (by omega)]
 |f+1,i,q,hf,ho,hq,hqp,j,s,hs=>by
  rw[wsR]
  cases hx:l[i]? with
  |none=>
   have hi:l.length≤i:=List.getElem?_eq_none_iff.1 hx
   unfold mend tg ZfH
   rw[List.foldl_nil,if_neg (by omega)]
  |some x=>
   have hi:=(gS.1 hx).1
   have hg:p[301*a+(u+i) / 2]?=some (p[301*a+(u+i) / 2]'(by omega)):=gG (by omega)
   obtain⟨g,hg'⟩:∃ g,p[301*a+(u+i) / 2]?=some g:=⟨_,hg⟩
   have hqg:q[301*a+(u+i) / 2]?=some g:=by rw[hqp _ (Nat.le_refl _)];exact hg'
   have hjl:301*a+(u+i) / 2<q.length:=by omega
   simp only[hg',Option.getD_some]
   split
   ·rename_i hodd
    have h0:=ho hodd
    unfold mend
    rw[List.foldl_cons]
    simp only[Int.toNat_natCast]
    have:=ZhM hp ha hul f (i+1) (q.set (301*a+(u+i) / 2) (g.set 1 x)) (by omega) (by omega) (by rw[List.length_set];exact hq) (fun j hj=>by rw[List.getElem?_set_ne (by omega)];exact hqp j (by omega)) j s hs
    unfold mend at this
    rw[this]
    unfold tg ZfH
    rw[ZkP hjl,show (1:Int)=((1:Nat):Int) from rfl,ZfU g (show 1<2 by decide)]
    by_cases ej:j=301*a+(u+i) / 2
    ·rw[if_pos ej,if_neg (by omega)]
     by_cases e:s=1
     ·rw[if_pos e,if_pos (by omega),show 2*(j - 301*a)+s - u=i by omega,hx];rfl
     ·rw[if_neg e,if_neg (by omega),ej,ZfT hqg]
    ·rw[if_neg ej]
     by_cases hc:301*a≤j∧j<301*a+301∧u+(i+1)≤2*(j - 301*a)+s∧2*(j - 301*a)+s<u+l.length
     ·rw[if_pos hc,if_pos (by omega)]
     ·rw[if_neg hc,if_neg (by omega)]
   ·rename_i hev
    cases hy:l[i+1]? with
    |none=>
     have hi1:l.length≤i+1:=List.getElem?_eq_none_iff.1 hy
     unfold mend tg ZfH
     simp only[List.foldl_cons,List.foldl_nil,Int.toNat_natCast]
     rw[ZkP hjl,show (0:Int)=((0:Nat):Int) from rfl,ZfU g (show 0<2 by decide)]
     by_cases ej:j=301*a+(u+i) / 2
     ·rw[if_pos ej]
      by_cases e:s=0
      ·rw[if_pos e,if_pos (by omega),show 2*(j - 301*a)+s - u=i by omega,hx];rfl
      ·rw[if_neg e,if_neg (by omega),ej,ZfT hqg]
     ·rw[if_neg ej,if_neg (by omega)]
    |some y=>
     have hi1:=(gS.1 hy).1
     unfold mend
     simp only
     rw[List.foldl_cons]
     simp only[Int.toNat_natCast]
     have:=ZhM hp ha hul f (i+2) (q.set (301*a+(u+i) / 2) ((g.set 0 x).set 1 y)) (by omega) (by omega) (by rw[List.length_set];exact hq) (fun j hj=>by rw[List.getElem?_set_ne (by omega)];exact hqp j (by omega)) j s hs
     unfold mend at this
     rw[this]
     unfold tg ZfH
     rw[ZkP hjl,show (1:Int)=((1:Nat):Int) from rfl,ZfU _ (show 1<2 by decide),show (0:Int)=((0:Nat):Int) from rfl,ZfU g (show 0<2 by decide)]
     by_cases ej:j=301*a+(u+i) / 2
     ·rw[if_pos ej,if_neg (by omega)]
      by_cases e:s=1
      ·rw[if_pos e,if_pos (by omega),show 2*(j - 301*a)+s - u=i+1 by omega,hy];rfl
      ·rw[if_neg e,if_pos (by omega),if_pos (by omega),show 2*(j - 301*a)+s - u=i by omega,hx];rfl
     ·rw[if_neg ej]
      by_cases hc:301*a≤j∧j<301*a+301∧u+(i+2)≤2*(j - 301*a)+s∧2*(j - 301*a)+s<u+l.length
      ·rw[if_pos hc,if_pos (by omega)]
      ·rw[if_neg hc,if_neg (by omega)]
theorem ZjS {k:Nat} (hk:1000000<k) {d:Disk} (hd:DB d) {a u:Nat} (ha:a≤1) {l:List Hf} (hul:u+l.length≤602):
  Zae k ⟨d⟩ (a:Int) (u:Int) l=some ⟨⟨d.Pages,d.Wait++wsR (mend d.Pages d.Wait) a u l l.length 0⟩⟩:=by
 obtain⟨h1,h2,h3⟩:=Zdu.1 hd.ok
 unfold Zae
 simp only
 rw[Zdk hd.ok]
 simp only[Option.bind_some]
 rw[ZcZ hk hd.ok]
 simp only[Option.bind_some]
 have:=Zn7 hk hd.len ha hul l.length 0 k d.Wait (by omega) (by omega) (by omega) (by omega)
 rw[Int.natCast_zero]at this
 rw[this]
 rfl
theorem ZoE {k:Nat} (hk:1000000<k) {d:Disk} (hd:DB d) {l:Ledger}{q:Nat×Ar} (hL:LedOK d l q) {r:Record} (hr:ZeV r=true) (hs:Srt Za1 l.Book.Records) (hh:∀ x∈l.Book.Records,Zee x) {b':List Record} (ha:Zkc l.Book.Records r=(b',0)) (hne:b'.length≠l.Book.Records.length)
  (hsp:q.2.used+(Zax r (l.Book.Records.length:Int) l.Epoch).length≤602) (hwt:d.Wait.length+(Zax r (l.Book.Records.length:Int) l.Epoch).length≤1200):
  ZbB k d l r=some (⟨d.Pages,d.Wait++wsR (mend d.Pages d.Wait) q.1 q.2.used (Zax r (l.Book.Records.length:Int) l.Epoch) (Zax r (l.Book.Records.length:Int) l.Epoch).length 0⟩,⟨⟨b'⟩,l.Area,l.Epoch,((q.2.used+(Zax r (l.Book.Records.length:Int) l.Epoch).length:Nat):Int)⟩,0):=by
 have hbl:l.Book.Records.length≤60:=by rw[hL.book];exact hL.short
 have hws:=ZiB (mend d.Pages d.Wait) q.1 q.2.used (Zax r (l.Book.Records.length:Int) l.Epoch) (Zax r (l.Book.Records.length:Int) l.Epoch).length 0
 have ht:=Zfu hr
 unfold ZbB
 rw[ZfN hk hd hL]
 simp only[Option.bind_some,decide_true,Bool.not_true,cond_false]
 rw[ZfW hk (b:=l.Book) hs (show l.Book.Records.length≤900 by omega) hh,hr,ha]
 simp only[cond_true,Option.bind_some,decide_true,Bool.not_true,cond_false]
 rw[Zdk hd.ok]
 simp only[Option.bind_some]
 unfold Zbw
 rw[Zff (show l.Book.Records.length≤1000 by omega)]
 simp only[Option.bind_some,decide_eq_false (show ¬ ((b'.length:Nat):Int)=(l.Book.Records.length:Int) by omega),cond_false]
 rw[Zgn (show 100000<k by omega) ht]
 have hH:(List.range (Zb2 (enc r).length)).map (ZcB l.Epoch (l.Book.Records.length:Int) (Zb2 (enc r).length) (enc r))=Zax r (l.Book.Records.length:Int) l.Epoch:=rfl
 rw[hH]
 have hu:w64 (l.Used+((Zax r (l.Book.Records.length:Int) l.Epoch).length:Int))=((q.2.used+(Zax r (l.Book.Records.length:Int) l.Epoch).length:Nat):Int):=by
  rw[hL.used,Za8 (by omega) (by omega)];omega
 have hw:=ZjS hk hd hL.le hsp
 rw[←hL.area,←hL.used]at hw
 simp only[Option.bind_some,hu,decide_eq_false (show ¬ (602:Int)<((q.2.used+(Zax r (l.Book.Records.length:Int) l.Epoch).length:Nat):Int) by omega),cond_false,hw]
 rw[decide_eq_false (show ¬ (1200:Int)<(((d.Wait++wsR (mend d.Pages d.Wait) q.1 q.2.used (Zax r (l.Book.Records.length:Int) l.Epoch) (Zax r (l.Book.Records.length:Int) l.Epoch).length 0).length:Nat):Int) by rw[List.length_append];omega)]
 rfl
def ZlH:List Pg:=(List.replicate 602 pz).set 0 (pz.set 0 (ZbK 1 0))
theorem Zpc (k:Nat):Zf7 k=some (⟨ZlH,[]⟩,⟨⟨[]⟩,0,1,1⟩):=by
 have hm:Zp5 602 64 ((Vec.rep 2 ((Vec.rep 32 (0:Int)):(Vec 32 Int))):(Vec 2 (Vec 32 Int)))=some (List.replicate 602 pz):=by
  unfold Zp5 mk?
  rw[if_pos (by decide)]
  rfl
 have hl:(List.replicate 602 pz).length=602:=List.length_replicate
 have h0:(List.replicate 602 pz)[0]?=some pz:=by rw[List.getElem?_replicate];rfl
 have ha:at? (List.replicate 602 pz) 0=some pz:=ZcA h0
 have hp0:pz.at? 0=some hz:=rfl
 unfold Zf7
 rw[hm]
 simp only[Option.bind_some,Zhc,ha,hp0]
 unfold ZlP
 rw[if_pos (by rw[hl];decide)]
 rfl
end Go.Abs
namespace Go.Abs
open Go Go.Proofs
set_option maxRecDepth 20000
set_option linter.unusedVariables false
set_option linter.unusedSimpArgs false
theorem ZdH (k:Nat) (n:Int) {m:Int} (h0:0<m) (h1:m≤4611686018427387904):Zdr k n m=some (n % m):=by
 unfold Zdr nz?
 rw[if_neg (by omega)]
 simp only[Option.bind_some]
 have b1:Int.tmod n m<m:=Int.tmod_lt_of_pos n h0
 have b2:-m<Int.tmod n m:=by
  rcases Int.le_total 0 n with h|h
  ·have:=Int.tmod_nonneg m h
   omega
  ·have:=Int.tmod_lt_of_pos (-n) h0
   rw[Int.neg_tmod]at this
   omega
 have e1:Int.tmod n m % m=n % m:=by
  have:=Int.mul_tdiv_add_tmod n m
  rw[←this,Int.add_comm,Int.add_mul_emod_self_left]
  congr 1
  have e:=Int.mul_tdiv_add_tmod n m
  rw[Int.add_comm]at e
  rw[e]
 rw[Za8 (by omega) (by omega),Int.tmod_eq_emod_of_nonneg (by omega),Int.add_emod_right,e1]
theorem ZcW (n:Int) {m:Int} (h0:0<m):0≤n % m∧n % m<m:=⟨Int.emod_nonneg _ (by omega),Int.emod_lt_of_pos _ h0⟩
theorem ZvX (v:Vec 5 Int):∃ a b c d e,v=⟨[a,b,c,d,e],rfl⟩:=by
 obtain⟨l,h⟩:=v
 match l,h with
 |[a,b,c,d,e],h=>exact⟨a,b,c,d,e,rfl⟩
end Go.Abs
namespace Go.Abs
open Go Go.Proofs
set_option maxRecDepth 20000
set_option linter.unusedVariables false
set_option linter.unusedSimpArgs false
def Zf1 (p q:List Pg) (a:Nat):Prop:=∀ i,i<602→hf p a i=hf q a i
theorem HasRec.congr {p q:List Pg}{a f n:Nat}{r:Record}{e:Int} (h:HasRec p a f n r e) (hs:∀ i,f≤i→i<f+(Zax r n e).length→hf p a i=hf q a i):HasRec q a f n r e:=
 ⟨h.ok,h.ep,h.run.1,fun i x hx=>by
  have:=(gS.1 hx).1
  rw[←hs (f+i) (by omega) (by omega)];exact h.run.2 i x hx⟩
theorem ZlL {p q:List Pg} (hp:PgB p) (hq:PgB q) {a:Nat} (hs:Zf1 p q a) (f n:Nat):Zhk p a f n=Zhk q a f n:=by
 apply Option.ext
 intro x
 rw[Zdn hp,Zdn hq]
 constructor
 ·rintro⟨h,e⟩
  have:=h.run.1
  exact⟨h.congr (fun i _ hi=>hs i (by omega)),e⟩
 ·rintro⟨h,e⟩
  have:=h.run.1
  exact⟨h.congr (fun i _ hi=>(hs i (by omega)).symm),e⟩
theorem Zmz {p q:List Pg} (hp:PgB p) (hq:PgB q) {a:Nat} (hs:Zf1 p q a):∀ (m:Nat) (b:List Record) (e:Int) (u n:Nat),rd p a m b e u n=rd q a m b e u n
 |0,_,_,_,_=>rfl
 |m+1,b,e,u,n=>by
  rw[rd,rd,ZlL hp hq hs]
  cases Zhk q a u n with
  |none=>rfl
  |some x=>
   simp only
   split
   ·rfl
   ·cases ZeE b x.1 with
    |none=>rfl
    |some b'=>simp only;rw[Zmz hp hq hs m]
theorem ZfX {p q:List Pg} (hp:PgB p) (hq:PgB q) {a:Nat} (hs:Zf1 p q a):ZdL p a=ZdL q a:=by
 unfold ZdL Ztk
 rw[hs 0 (by decide),Zmz hp hq hs]
theorem ZoJ (e n:Int):bt (ZbK e n) 0=104∧bt (ZbK e n) 1=IntKind.u8.wrap (Int.fdiv e (2 ^ 16))∧bt (ZbK e n) 2=IntKind.u8.wrap (Int.fdiv e (2 ^ 8))∧bt (ZbK e n) 3=IntKind.u8.wrap e∧bt (ZbK e n) 4=IntKind.u8.wrap (Int.fdiv n (2 ^ 8))∧bt (ZbK e n) 5=IntKind.u8.wrap n∧bt (ZbK e n) 31=165:=
 ⟨rfl,rfl,rfl,rfl,rfl,rfl,rfl⟩
theorem ZhE {e:Int} (he:1≤e∧e≤1000000) (n:Int):epH (ZbK e n)=e:=by
 obtain⟨h0,h1,h2,h3,_,_,h31⟩:=ZoJ e n
 have hr:rdV [bt (ZbK e n) 1,bt (ZbK e n) 2,bt (ZbK e n) 3]=e:=by
  rw[h1,h2,h3,←Zd1,rd3 (by omega) (by omega)]
 unfold epH
 rw[hr,if_pos ⟨.inl h0,h31,he.2⟩]
theorem Zq5 (e:Int) {n:Int} (hn:0≤n∧n<65536):rdV [bt (ZbK e n) 4,bt (ZbK e n) 5]=n:=by
 obtain⟨_,_,_,_,h4,h5,_⟩:=ZoJ e n
 rw[h4,h5,←Zkh,rd2 hn.1 hn.2]
theorem Zmm:epH hz=0:=by decide +kernel
def Zbb (log:List Record):Nat:=1+(log.map fun r=>Zb2 (enc r).length).sum
theorem Zrh:Zbb []=1:=rfl
theorem Zld (log:List Record) (r:Record):Zbb (log++[r])=Zbb log+Zb2 (enc r).length:=by
 unfold Zbb;simp;omega
theorem ZlX:∀ {log:List Record},(∀ r∈log,ZeV r=true)→Zbb log≤1+10*log.length:=by
 intro log
 induction log with
 |nil=>intro _;simp[Zbb]
 |cons r log ih=>
  intro h
  have h1:=ih (fun x hx=>h x (by simp[hx]))
  have h2:=Zq3 (h r (by simp))
  unfold Zbb at *
  simp only[List.map_cons,List.sum_cons,List.length_cons]
  omega
theorem Zcx {log:List Record}{j:Nat}{r:Record} (h:log[j]?=some r):Zbb (log.take (j+1))=Zbb (log.take j)+Zb2 (enc r).length:=by
 rw[Zgq h,Zld]
theorem Ze0 {log:List Record}{i j:Nat} (h:i≤j):Zbb (log.take i)≤Zbb (log.take j):=by
 induction j with
 |zero=>rw[show i=0 by omega];exact Nat.le_refl _
 |succ j ih=>
  by_cases e:i=j+1
  ·rw[e];exact Nat.le_refl _
  ·refine Nat.le_trans (ih (by omega)) ?_
   cases hx:log[j]? with
   |some r=>rw[Zcx hx];omega
   |none=>
    have:=List.getElem?_eq_none_iff.1 hx
    rw[List.take_of_length_le (show log.length≤j+1 by omega),List.take_of_length_le this]
    exact Nat.le_refl _
def Zef (e0:Int) (ep:Nat→Int):Nat→Int
 |0=>e0
 |j+1=>ep j
structure LogOK (log:List Record):Prop where
 ok:∀ r∈log,ZeV r=true
 vl:VL Za1 (fun _=>0) log
 len:log.length≤50
theorem LogOK.take {log:List Record} (h:LogOK log) (n:Nat):LogOK (log.take n):=⟨fun r hr=>h.ok r (List.mem_of_mem_take hr),ZrF Za1 h.vl n,by
 have:=h.len
 rw[List.length_take];omega⟩
theorem LogOK.bi {log:List Record} (h:LogOK log):BI Za1 log (bk Za1 [] log):=BI.of Za1 h.vl
theorem LogOK.no {log:List Record} (h:LogOK log) {j:Nat}{r:Record} (hx:log[j]?=some r):(Za1 r).2=cnt Za1 (log.take j) (Za1 r).1:=by
 rw[(ZtC Za1).1 h.vl j r hx];exact Int.zero_add _
theorem Zjw (l:List Record) (r:Record):bk Za1 [] (l++[r])=Zil Za1 (bk Za1 [] l) r:=by
 unfold bk;rw[List.foldl_append];rfl
theorem LogOK.more {log:List Record} (h:LogOK log) {j:Nat}{r:Record} (hx:log[j]?=some r):ZeE (bk Za1 [] (log.take j)) r=some (bk Za1 [] (log.take (j+1))):=by
 have hb:=(h.take j).bi
 have hno:=h.no hx
 have hl:=hb.len
 have h50:=(h.take j).len
 rw[Zgq hx,Zjw]
 refine ZqM (Zmn Za1 (hb.no Za1 hno)) ?_ (by omega)
 rw[hb.num]
 have:r.At.No=((cnt Za1 (log.take j) r.At.House:Nat):Int):=hno
 omega
def Zgk (log:List Record) (j n:Nat):List (Record×Nat):=(List.range' j n).map fun i=>((log[i]?).getD Zty,Zbb (log.take (i+1)))
theorem Zk1 (log:List Record):∀ (n j:Nat),j+n≤log.length→fin (bk Za1 [] (log.take j),Zbb (log.take j)) (Zgk log j n)=(bk Za1 [] (log.take (j+n)),Zbb (log.take (j+n)))
 |0,j,_=>rfl
 |n+1,j,h=>by
  obtain⟨r,hr⟩:∃ r,log[j]?=some r:=⟨_,gG (by omega)⟩
  unfold Zgk fin
  rw[List.range'_succ,List.map_cons,List.foldl_cons,hr]
  simp only[Option.getD_some]
  have:=Zk1 log n (j+1) (by omega)
  unfold Zgk fin at this
  rw[Zgq hr,Zjw,←Zgq hr]at this
  rw[this,show j+1+n=j+(n+1) by omega]
theorem Zr6 {p:List Pg} (hb:PgB p) {a:Nat}{log:List Record} (hl:LogOK log) {e0:Int}{ep:Nat→Int}{m:Nat} (hm:m≤log.length)
  (hr:∀ j r,j<m→log[j]?=some r→HasRec p a (Zbb (log.take j)) j r (ep j)) (hmono:∀ j,j<m→Zef e0 ep j≤ep j)
  (hstop:∀ r e,HasRec p a (Zbb (log.take m)) m r e→Zef e0 ep m≤e→ZeE (bk Za1 [] (log.take m)) r=none):∀ (F j n:Nat),j+n=m→n<F→rd p a F (bk Za1 [] (log.take j)) (Zef e0 ep j) (Zbb (log.take j)) j=Zgk log j n
 |0,j,n,h1,h2=>by omega
 |F+1,j,0,h1,h2=>by
  have:j=m:=by omega
  subst this
  rw[rd]
  cases hq:Zhk p a (Zbb (log.take j)) j with
  |none=>rfl
  |some q=>
   have hh:=((Zdn hb).1 hq).1
   simp only
   by_cases he:q.2.1<Zef e0 ep j
   ·rw[if_pos he];rfl
   ·rw[if_neg he,hstop q.1 q.2.1 hh (by omega)];rfl
 |F+1,j,n+1,h1,h2=>by
  obtain⟨r,hx⟩:∃ r,log[j]?=some r:=⟨_,gG (by omega)⟩
  have hh:=hr j r (by omega) hx
  have hq:=(Zdn hb (q:=(r,ep j,(Zax r j (ep j)).length))).2 ⟨hh,rfl⟩
  have hmo:=hmono j (by omega)
  have ZbS:Zbb (log.take j)+(Zax r (j:Int) (ep j)).length=Zbb (log.take (j+1)):=by rw[Zcx hx,ZaD]
  rw[rd,hq]
  simp only
  rw[if_neg (by omega),hl.more hx]
  simp only
  rw[ZbS]
  have:=Zr6 hb hl hm hr hmono hstop F (j+1) n (by omega) (by omega)
  have e:Zef e0 ep (j+1)=ep j:=rfl
  rw[e]at this
  rw[this]
  unfold Zgk
  rw[List.range'_succ,List.map_cons,hx]
  rfl
theorem Zhe (log:List Record) {m:Nat} (hm:m≤log.length) (e:Int):(Ar.mk e (Zgk log 0 m)).book=bk Za1 [] (log.take m)∧(Ar.mk e (Zgk log 0 m)).used=Zbb (log.take m):=by
 have:=Zk1 log m 0 (by omega)
 rw[Nat.zero_add]at this
 unfold Ar.book Ar.used
 simp only
 have e1:(bk Za1 [] (log.take 0),Zbb (log.take 0))=(([]:List Record),1):=rfl
 rw[e1]at this
 rw[this]
 exact⟨rfl,rfl⟩
theorem Zmh {p:List Pg} (hb:PgB p) {a:Nat}{log:List Record} (hl:LogOK log) {e0 c:Int}{ep:Nat→Int}{m:Nat} (hm:m≤log.length) (he:1≤e0∧e0≤1000000) (hc:0≤c∧c≤m) (hh:hf p a 0=ZbK e0 c)
  (hr:∀ j r,j<m→log[j]?=some r→HasRec p a (Zbb (log.take j)) j r (ep j)) (hmono:∀ j,j<m→Zef e0 ep j≤ep j)
  (hstop:∀ r e,HasRec p a (Zbb (log.take m)) m r e→Zef e0 ep m≤e→ZeE (bk Za1 [] (log.take m)) r=none):ZdL p a=some ⟨e0,Zgk log 0 m⟩:=by
 have h50:=hl.len
 have hE:epH (hf p a 0)=e0:=by rw[hh];exact ZhE he c
 have hC:rdV [bt (hf p a 0) 4,bt (hf p a 0) 5]=c:=by rw[hh];exact Zq5 e0 (by omega)
 have hrd:Ztk p a=Zgk log 0 m:=by
  unfold Ztk
  rw[hE]
  exact Zr6 hb hl hm hr hmono hstop 100 0 m (by omega) (by omega)
 unfold ZdL
 rw[hE,hC,hrd,if_pos ⟨by omega,hh,by simp[Zgk];omega⟩]
theorem ZkB {p:List Pg}{a:Nat} (ha:a≤1) {x:Ar} (h:ZdL p a=some x) (hp:∀ y,ZdL p (1 - a)=some y→if a=0 then y.epoch≤x.epoch else y.epoch<x.epoch):Ziq p=some (a,x):=by
 unfold Ziq
 rcases Nat.le_one_iff_eq_zero_or_eq_one.1 ha with rfl|rfl
 ·rw[h]
  cases hy:ZdL p 1 with
  |none=>rfl
  |some y=>
   have h1:y.epoch≤x.epoch:=by simpa using hp y hy
   simp only
   rw[if_neg (by omega)]
 ·rw[h]
  cases hy:ZdL p 0 with
  |none=>rfl
  |some y=>
   have h1:y.epoch<x.epoch:=by simpa using hp y hy
   simp only
   rw[if_pos h1]
end Go.Abs
namespace Go.Abs
open Go Go.Proofs
set_option maxRecDepth 20000
set_option linter.unusedVariables false
set_option linter.unusedSimpArgs false
structure Jr (d:Disk) (l:Ledger) (log:List Record) (firm:Nat) (a:Nat) (e0 c:Int) (ep:Nat→Int):Prop where
 db:DB d
 a1:a≤1
 good:LogOK log
 firmle:firm≤log.length
 area:l.Area=(a:Int)
 book:l.Book=⟨bk Za1 [] log⟩
 used:l.Used=(Zbb log:Int)
 epo:1≤l.Epoch∧l.Epoch≤1000000
 he0:1≤e0∧e0≤1000000
 hc:0≤c∧c≤firm
 headN:hf (mend d.Pages d.Wait) a 0=ZbK e0 c
 headO:hf d.Pages a 0=ZbK e0 c
 recs:∀ j r,log[j]?=some r→HasRec (mend d.Pages d.Wait) a (Zbb (log.take j)) j r (ep j)
 mono:∀ j,j<log.length→Zef e0 ep j≤ep j
 late:∀ j,firm≤j→j<log.length→ep j=l.Epoch
 bound:∀ b i,b≤1→i<602→epH (hf (mend d.Pages d.Wait) b i)≤l.Epoch∧epH (hf d.Pages b i)≤l.Epoch
 free:∀ i,Zbb log≤i→i<602→epH (hf (mend d.Pages d.Wait) a i)<l.Epoch∧hf d.Pages a i=hf (mend d.Pages d.Wait) a i
 firmq:∀ i,i<Zbb (log.take firm)→hf d.Pages a i=hf (mend d.Pages d.Wait) a i
 soft:∀ i,Zbb (log.take firm)≤i→i<Zbb log→epH (hf (mend d.Pages d.Wait) a i)=l.Epoch∧epH (hf d.Pages a i)<l.Epoch
 other:Zf1 d.Pages (mend d.Pages d.Wait) (1 - a)
 pick:∀ y,ZdL (mend d.Pages d.Wait) (1 - a)=some y→if a=0 then y.epoch≤e0 else y.epoch<e0
 stop:∀ r e,HasRec d.Pages a (Zbb (log.take firm)) firm r e→Zef e0 ep firm≤e→ZeE (bk Za1 [] (log.take firm)) r=none
 waits:∀ w∈d.Wait,∀ s,sd w.Page s=ph d.Pages w.At.toNat s∨sd w.Page s=ph (mend d.Pages d.Wait) w.At.toNat s
 wlen:d.Wait.length≤10*log.length
section
variable {d:Disk}{l:Ledger}{log:List Record}{firm a:Nat}{e0 c:Int}{ep:Nat→Int}
theorem Jr.u602 (h:Jr d l log firm a e0 c ep):Zbb log≤501:=by
 have h1:=ZlX h.good.ok
 have h2:=h.good.len
 omega
theorem HasRec.ep0 {p:List Pg}{a f n:Nat}{r:Record}{e:Int} (h:HasRec p a f n r e) {i:Nat} (hi:i<(Zax r n e).length):epH (hf p a (f+i))=e:=by
 obtain⟨x,hx⟩:∃ x,(Zax r n e)[i]?=some x:=⟨_,gG hi⟩
 rw[h.run.2 i x hx,ZoV hx]
 exact Zj4 h.ep _ _ _ _
theorem HasRec.at0 {p:List Pg}{a f n:Nat}{r:Record}{e:Int} (h:HasRec p a f n r e):epH (hf p a f)=e:=by
 have:=h.ep0 (i:=0) (by rw[ZaD];exact Ze5 r)
 simpa using this
theorem Jr.lastE_le (h:Jr d l log firm a e0 c ep):∀ j,j≤log.length→Zef e0 ep j≤l.Epoch:=by
 intro j hj
 cases j with
 |zero=>
  have:=(h.bound a 0 h.a1 (by decide)).1
  rw[h.headN,ZhE h.he0]at this
  exact this
 |succ j=>
  obtain⟨r,hr⟩:∃ r,log[j]?=some r:=⟨_,gG (by omega)⟩
  have hrec:=h.recs j r hr
  have h1:=hrec.run.1
  have h2:0<(Zax r (j:Int) (ep j)).length:=by rw[ZaD];exact Ze5 r
  have:=(h.bound a (Zbb (log.take j)) h.a1 (by omega)).1
  rw[hrec.at0]at this
  exact this
theorem Jr.stopN (h:Jr d l log firm a e0 c ep):∀ r e,HasRec (mend d.Pages d.Wait) a (Zbb (log.take log.length)) log.length r e→Zef e0 ep log.length≤e→ZeE (bk Za1 [] (log.take log.length)) r=none:=by
 intro r e hr he
 rw[List.take_length]at hr ⊢
 have h1:=hr.run.1
 have h2:0<(Zax r (log.length:Int) e).length:=by rw[ZaD];exact Ze5 r
 have hf0:=(h.free (Zbb log) (Nat.le_refl _) (by omega)).1
 rw[hr.at0]at hf0
 by_cases hfi:firm=log.length
 ·have:=h.stop r e (by
   rw[hfi,List.take_length]
   exact hr.congr (fun i hi1 hi2=>((h.free i hi1 (by omega)).2).symm)) (by rw[hfi];exact he)
  rw[hfi,List.take_length]at this
  exact this
 ·have hlt:firm<log.length:=by have:=h.firmle;omega
  obtain⟨j,hj⟩:∃ j,log.length=j+1:=⟨log.length - 1,by omega⟩
  rw[hj]at he
  have e1:Zef e0 ep (j+1)=ep j:=rfl
  rw[e1,h.late j (by omega) (by omega)]at he
  omega
theorem Jr.areaN (h:Jr d l log firm a e0 c ep):ZdL (mend d.Pages d.Wait) a=some ⟨e0,Zgk log 0 log.length⟩:=
 Zmh h.db.new h.good (Nat.le_refl _) h.he0 ⟨h.hc.1,by have:=h.hc.2;have:=h.firmle;omega⟩ h.headN (fun j r hj hr=>h.recs j r hr) (fun j hj=>h.mono j hj) h.stopN
theorem Jr.led (h:Jr d l log firm a e0 c ep):LedOK d l (a,⟨e0,Zgk log 0 log.length⟩):=by
 obtain⟨b1,b2⟩:=Zhe log (Nat.le_refl log.length) e0
 rw[List.take_length]at b1 b2
 have hbl:=h.good.bi.len
 have h50:=h.good.len
 have hu:=h.u602
 refine⟨ZkB h.a1 h.areaN h.pick,h.a1,h.area,?_,?_,?_,h.epo,?_,?_,?_⟩
 ·rw[h.used];simp only[b2]
 ·rw[h.book];simp only[b1]
 ·simp only[b1];omega
 ·exact ZkE.2 ⟨by have:=h.epo;omega,fun i _ hi=>(h.bound 0 i (by decide) hi).1⟩
 ·exact ZkE.2 ⟨by have:=h.epo;omega,fun i _ hi=>(h.bound 1 i (by decide) hi).1⟩
 ·simp only[b2]
  have:mx (mend d.Pages d.Wait) a (Zbb log)≤l.Epoch - 1:=ZkE.2 ⟨by have:=h.epo;omega,fun i h1 h2=>by
   have:=(h.free i h1 h2).1;omega⟩
  omega
theorem ZlG (p:List Pg) (w v:List Write):mend p (w++v)=mend (mend p w) v:=by
 unfold mend;rw[List.foldl_append]
theorem Jr.recsLen (h:Jr d l log firm a e0 c ep) {j:Nat}{r:Record} (hr:log[j]?=some r):Zbb (log.take j)+(Zax r (j:Int) (ep j)).length=Zbb (log.take (j+1)):=by
 rw[Zcx hr,ZaD]
theorem ZlE {e0:Int}{ep ep':Nat→Int}{n:Nat} (h:∀ j,j<n→ep j=ep' j):∀ j,j≤n→Zef e0 ep j=Zef e0 ep' j
 |0,_=>rfl
 |j+1,hj=>h j (by omega)
theorem Jr.append (h:Jr d l log firm a e0 c ep) {r:Record} (hr:ZeV r=true) (hno:(Za1 r).2=cnt Za1 log (Za1 r).1) (ZbS:log.length+1≤50) {k:Nat} (hk:1000000<k):
  ∃ d' l',ZbB k d l r=some (d',l',0)∧l'.Epoch=l.Epoch∧Jr d' l' (log++[r]) firm a e0 c (fun j=>if j=log.length then l.Epoch else ep j):=by
 have hbi:=h.good.bi
 have hbl:=hbi.len
 have hu:=h.u602
 have hH:(Zax r (l.Book.Records.length:Int) l.Epoch).length=Zb2 (enc r).length:=ZaD _ _ _
 have hc10:=Zq3 hr
 have hcp:=Ze5 r
 have hwl:=h.wlen
 have hfl:=h.firmle
 have hbr:l.Book.Records=bk Za1 [] log:=by rw[h.book]
 have hadd:Zkc l.Book.Records r=(bk Za1 [] (log++[r]),0):=by
  rw[hbr]
  unfold Zkc
  rw[Zmn Za1 (hbi.no Za1 hno),Zjw]
  simp only
  have e:r.At.No=((cnt Za1 (bk Za1 [] log) r.At.House:Nat):Int):=by
   rw[hbi.num];exact hno
  rw[if_neg (by omega),if_neg (by omega)]
 have husd:=h.led
 have hq2:(Ar.mk e0 (Zgk log 0 log.length)).used=Zbb log:=by
  have:=(Zhe log (Nat.le_refl log.length) e0).2
  rw[List.take_length]at this
  exact this
 have happ:=ZoE hk h.db h.led hr (by rw[hbr];exact hbi.val.1) (by rw[hbr];exact fun x hx=>Zd7 (h.good.ok x ((hbi.mem x).1 hx))) hadd (by rw[hbr,Zjw,Zg7];omega) (by simp only[hq2];rw[hH];omega) (by rw[hH];omega)
 simp only[hq2]at happ
 have hLen:l.Book.Records.length=log.length:=by rw[hbr,hbl]
 rw[hLen]at happ hH
 have hHl:=hH
 generalize hHdef:Zax r (log.length:Int) l.Epoch=H at happ hH
 have hul:Zbb log+H.length≤602:=by omega
 have hwok:=Zm8 h.db.len h.a1 hul H.length 0 (fun _=>rfl)
 have hmend:=ZhM h.db.len h.a1 hul H.length 0 (mend d.Pages d.Wait) (by omega) (fun _=>rfl) h.db.len (fun j _=>rfl)
 have hwslen:=ZiB (mend d.Pages d.Wait) a (Zbb log) H H.length 0
 generalize wsR (mend d.Pages d.Wait) a (Zbb log) H H.length 0=ws at happ hwok hmend hwslen
 have hne:mend d.Pages (d.Wait++ws)=mend (mend d.Pages d.Wait) ws:=ZlG _ _ _
 have hhf:∀ b i,b≤1→i<602→hf (mend d.Pages (d.Wait++ws)) b i=if b=a∧Zbb log≤i∧i<Zbb log+H.length then (H[i - Zbb log]?).getD hz else hf (mend d.Pages d.Wait) b i:=by
  intro b i hb hi
  have ha1:=h.a1
  rw[Zl9,hne,hmend _ _ (Nat.mod_lt _ (by decide)),Zl9]
  unfold tg
  by_cases hcnd:b=a∧Zbb log≤i∧i<Zbb log+H.length
  ·obtain⟨rfl,h1,h2⟩:=hcnd
   rw[if_pos (by unfold ZfH;omega),if_pos ⟨rfl,h1,h2⟩,show 2*(301*b+i / 2 - 301*b)+i % 2 - Zbb log=i - Zbb log by omega]
  ·rw[if_neg (by unfold ZfH;omega),if_neg hcnd]
 have hlow:∀ i,i<Zbb log→hf (mend d.Pages (d.Wait++ws)) a i=hf (mend d.Pages d.Wait) a i:=fun i hi=>by
  rw[hhf a i h.a1 (by omega),if_neg (by omega)]
 have hhigh:∀ i,Zbb log+H.length≤i→i<602→hf (mend d.Pages (d.Wait++ws)) a i=hf (mend d.Pages d.Wait) a i:=fun i hi h2=>by
  rw[hhf a i h.a1 h2,if_neg (by omega)]
 have hmid:∀ i,i<H.length→hf (mend d.Pages (d.Wait++ws)) a (Zbb log+i)=(H[i]?).getD hz:=fun i hi=>by
  rw[hhf a _ h.a1 (by omega),if_pos (by omega),Nat.add_sub_cancel_left]
 have hoth:∀ i,i<602→hf (mend d.Pages (d.Wait++ws)) (1 - a) i=hf (mend d.Pages d.Wait) (1 - a) i:=fun i hi=>by
  have ha1:=h.a1
  rw[hhf (1 - a) i (by omega) hi,if_neg (by omega)]
 have hrun:HasRec (mend d.Pages (d.Wait++ws)) a (Zbb log) log.length r l.Epoch:=⟨hr,h.epo,by rw[hHdef];exact hul,fun i x hx=>by
  rw[hHdef]at hx
  rw[hmid i (gS.1 hx).1,hx];rfl⟩
 have hHep:∀ i,i<H.length→epH ((H[i]?).getD hz)=l.Epoch:=fun i hi=>by
  have:=hrun.ep0 (i:=i) (by rw[hHdef];exact hi)
  rw[hmid i hi]at this
  exact this
 have hHb:∀ i,i<H.length→Byt ((H[i]?).getD hz).l:=fun i hi=>by
  obtain⟨x,hx⟩:∃ x,H[i]?=some x:=⟨_,gG hi⟩
  rw[hx]
  simp only[Option.getD_some]
  rw[←hHdef]at hx
  rw[ZoV hx]
  intro y hy
  simp only[ZcB,Zgh,List.mem_append,List.mem_cons,List.not_mem_nil,or_false,List.mem_replicate]at hy
  rcases hy with (((((hy|hy)|hy)|hy)|hy)|hy)
  ·omega
  ·exact ZcT _ _ y hy
  ·exact ZcT _ _ y hy
  ·rcases hy with hy|hy<;>rw[hy,ZjR]<;>omega
  ·rcases hy with hy|hy
   ·exact ZoK r y (List.mem_of_mem_drop (List.mem_of_mem_take hy))
   ·omega
  ·omega
 have htgb:∀ j s,s<2→Byt (tg (mend d.Pages d.Wait) a (Zbb log) H 0 j s).l:=fun j s hs=>by
  unfold tg
  split
  ·rename_i hcnd
   unfold ZfH at hcnd
   exact hHb _ (by omega)
  ·by_cases hj:j<602
   ·have:=h.db.new
    obtain⟨g,hg⟩:∃ g,(mend d.Pages d.Wait)[j]?=some g:=⟨_,gG (by rw[h.db.len];exact hj)⟩
    rw[ZfT hg]
    have hgl:=g.h
    obtain⟨x,hx⟩:∃ x,g.l[s]?=some x:=⟨_,gG (by omega)⟩
    unfold sd
    rw[hx]
    exact this g (List.mem_of_getElem? hg) x (List.mem_of_getElem? hx)
   ·rw[Zpk (by rw[h.db.len];omega)]
    intro y hy
    have:y=0:=by
     simp only[hz,Vec.rep,List.mem_replicate]at hy
     exact hy.2
    omega
 have hdb:DB ⟨d.Pages,d.Wait++ws⟩:=by
  obtain⟨k1,k2,k3⟩:=Zdu.1 h.db.ok
  refine⟨Zdu.2 ⟨k1,by simp only[List.length_append];omega,fun w hw=>?_⟩,h.db.pb,fun w hw x hx=>?_⟩
  ·rcases List.mem_append.1 hw with g|g
   ·exact k3 w g
   ·exact(hwok w g).1
  ·rcases List.mem_append.1 hw with g|g
   ·exact h.db.wb w g x hx
   ·obtain⟨s,hs⟩:=List.mem_iff_getElem?.1 hx
    have hs2:s<2:=by
     have:=(gS.1 hs).1
     have:=w.Page.h
     omega
    have e:sd w.Page s=x:=by unfold sd;rw[hs];rfl
    rw[←e,(hwok w g).2 s hs2]
    exact htgb _ _ hs2
 have htk:∀ j,j≤log.length→(log++[r]).take j=log.take j:=fun j hj=>List.take_append_of_le_length hj
 have hup:Zbb (log++[r])=Zbb log+H.length:=by rw[Zld,hH]
 have hle2:∀ j,j≤log.length→Zef e0 (fun j=>if j=log.length then l.Epoch else ep j) j=Zef e0 ep j:=ZlE (fun j hj=>if_neg (by omega))
 refine⟨_,_,happ,rfl,hdb,h.a1,⟨fun x hx=>?_,?_,?_⟩,by simp;omega,h.area,rfl,?_,h.epo,h.he0,h.hc,?_,h.headO,fun j x hx=>?_,fun j hj=>?_,fun j h1 h2=>?_,fun b i hb hi=>?_,fun i h1 h2=>?_,fun i hi=>?_,fun i h1 h2=>?_,fun i hi=>?_,fun y hy=>?_,?_,fun w hw s=>?_,?_⟩
 ·rcases List.mem_append.1 hx with g|g
  ·exact h.good.ok x g
  ·rw[List.mem_singleton.1 g];exact hr
 ·rw[Zek]
  exact⟨h.good.vl,by show (Za1 r).2=0+_;omega,trivial⟩
 ·simp;omega
 ·simp only[hup]
 ·show hf (mend d.Pages (d.Wait++ws)) a 0=_
  have hup0:0<Zbb log:=by unfold Zbb;omega
  rw[hlow 0 hup0]
  exact h.headN
 ·show HasRec (mend d.Pages (d.Wait++ws)) a _ j x _
  by_cases hj:j<log.length
  ·rw[List.getElem?_append_left hj]at hx
   rw[htk j (by omega),if_neg (by omega)]
   refine(h.recs j x hx).congr (fun i h1 h2=>?_)
   have:=h.recsLen hx
   have h3:Zbb (log.take (j+1))≤Zbb (log.take log.length):=Ze0 (by omega)
   rw[List.take_length]at h3
   exact(hlow i (by omega)).symm
  ·have hj2:j=log.length:=by
    have:=(gS.1 hx).1
    simp at this
    omega
   subst hj2
   rw[List.getElem?_append_right (Nat.le_refl _),Nat.sub_self]at hx
   obtain rfl:=oi hx
   rw[htk _ (Nat.le_refl _),List.take_length,if_pos rfl]
   exact hrun
 ·rw[List.length_append]at hj
  simp only[List.length_cons,List.length_nil]at hj
  rw[hle2 j (by omega)]
  by_cases hj2:j=log.length
  ·subst hj2
   rw[if_pos rfl]
   exact h.lastE_le _ (Nat.le_refl _)
  ·rw[if_neg hj2]
   exact h.mono j (by omega)
 ·rw[List.length_append]at h2
  simp only[List.length_cons,List.length_nil]at h2
  by_cases hj2:j=log.length
  ·rw[if_pos hj2]
  ·rw[if_neg hj2];exact h.late j h1 (by omega)
 ·refine⟨?_,(h.bound b i hb hi).2⟩
  show epH (hf (mend d.Pages (d.Wait++ws)) b i)≤l.Epoch
  rw[hhf b i hb hi]
  split
  ·rename_i hcnd
   rw[hHep _ (by omega)]
   exact Int.le_refl _
  ·exact(h.bound b i hb hi).1
 ·rw[hup]at h1
  show epH (hf (mend d.Pages (d.Wait++ws)) a i)<l.Epoch∧hf d.Pages a i=hf (mend d.Pages (d.Wait++ws)) a i
  rw[hhigh i h1 h2]
  exact h.free i (by omega) h2
 ·rw[htk firm h.firmle]at hi
  show hf d.Pages a i=hf (mend d.Pages (d.Wait++ws)) a i
  have h3:Zbb (log.take firm)≤Zbb (log.take log.length):=Ze0 h.firmle
  rw[List.take_length]at h3
  rw[hlow i (by omega)]
  exact h.firmq i hi
 ·rw[htk firm h.firmle]at h1
  rw[hup]at h2
  show epH (hf (mend d.Pages (d.Wait++ws)) a i)=l.Epoch∧epH (hf d.Pages a i)<l.Epoch
  by_cases hi:i<Zbb log
  ·rw[hlow i hi];exact h.soft i h1 hi
  ·have e:i=Zbb log+(i - Zbb log):=by omega
   refine⟨by rw[e,hmid _ (by omega)];exact hHep _ (by omega),?_⟩
   have:=h.free i (by omega) (by omega)
   rw[this.2];exact this.1
 ·show hf d.Pages (1 - a) i=hf (mend d.Pages (d.Wait++ws)) (1 - a) i
  rw[hoth i hi];exact h.other i hi
 ·refine h.pick y ?_
  rw[←ZfX (p:=mend d.Pages (d.Wait++ws)) hdb.new h.db.new (fun i hi=>hoth i hi)]
  exact hy
 ·rw[htk firm h.firmle,hle2 firm h.firmle]
  exact h.stop
 ·show sd w.Page s=ph d.Pages w.At.toNat s∨sd w.Page s=ph (mend d.Pages (d.Wait++ws)) w.At.toNat s
  by_cases hs:s<2
  ·rw[hne,hmend _ _ hs]
   rcases List.mem_append.1 hw with g|g
   ·rcases h.waits w g s with e|e
    ·exact .inl e
    ·unfold tg
     by_cases hcnd:ZfH a (Zbb log) 0 H.length w.At.toNat s
     ·left
      unfold ZfH at hcnd
      have hfr:=(h.free (2*(w.At.toNat - 301*a)+s) (by omega) (by omega)).2
      rw[Zl9,Zl9,show 301*a+(2*(w.At.toNat - 301*a)+s) / 2=w.At.toNat by omega,show (2*(w.At.toNat - 301*a)+s) % 2=s by omega]at hfr
      rw[e,hfr]
     ·rw[if_neg hcnd];exact .inr e
   ·exact .inr ((hwok w g).2 s hs)
  ·left
   rw[Zvy (by omega),Zvw (by omega)]
 ·simp only[List.length_append,List.length_cons,List.length_nil]
  omega
end
end Go.Abs
namespace Go.Abs
open Go Go.Proofs
set_option maxRecDepth 20000
set_option linter.unusedVariables false
set_option linter.unusedSimpArgs false
section
variable {d:Disk}{l:Ledger}{log:List Record}{firm a:Nat}{e0 c:Int}{ep:Nat→Int}
theorem DB.sync {d:Disk} (h:DB d):DB ⟨mend d.Pages d.Wait,[]⟩:=by
 refine⟨Zdu.2 ⟨h.len,by simp,by simp⟩,h.new,by simp⟩
theorem ZjB (p:List Pg):mend p []=p:=rfl
theorem Jr.sync (h:Jr d l log firm a e0 c ep):Jr ⟨mend d.Pages d.Wait,[]⟩ l log log.length a e0 c ep:=by
 have hu:=h.u602
 refine⟨h.db.sync,h.a1,h.good,Nat.le_refl _,h.area,h.book,h.used,h.epo,h.he0,⟨h.hc.1,by have:=h.hc.2;have:=h.firmle;omega⟩,h.headN,h.headN,h.recs,h.mono,fun j h1 h2=>by omega,fun b i hb hi=>⟨(h.bound b i hb hi).1,(h.bound b i hb hi).1⟩,
  fun i h1 h2=>⟨(h.free i h1 h2).1,rfl⟩,fun i _=>rfl,fun i h1 h2=>?_,fun i _=>rfl,h.pick,h.stopN,by simp,by simp⟩
 rw[List.take_length]at h1
 omega
theorem Btw.hf {old new p:List Pg} (h:Btw old new p) (b i:Nat):hf p b i=hf old b i∨hf p b i=hf new b i:=h _ _
theorem Btw.pb {old new p:List Pg} (h:Btw old new p) (ho:PgB old) (hn:PgB new):PgB p:=by
 have one:∀ (q:List Pg),PgB q→∀ j s,Byt (ph q j s).l:=fun q hq j s=>by
  have hzb:Byt hz.l:=by
   intro y hy
   have:y=0:=by
    simp only[hz,Vec.rep,List.mem_replicate]at hy
    exact hy.2
   omega
  unfold ph
  cases hg:q[j]? with
  |none=>exact hzb
  |some g=>
   simp only
   cases hx:g.l[s]? with
   |none=>exact hzb
   |some x=>exact hq g (List.mem_of_getElem? hg) x (List.mem_of_getElem? hx)
 intro g hg x hx
 obtain⟨j,hj⟩:=List.mem_iff_getElem?.1 hg
 obtain⟨s,hs⟩:=List.mem_iff_getElem?.1 hx
 have e:ph p j s=x:=by rw[ZfT hj];unfold sd;rw[hs];rfl
 rcases h j s with g1|g1
 ·rw[←e,g1];exact one old ho j s
 ·rw[←e,g1];exact one new hn j s
theorem Jr.cut (h:Jr d l log firm a e0 c ep) {p:List Pg} (hp:Btw d.Pages (mend d.Pages d.Wait) p):
  ∃ m,firm≤m∧m≤log.length∧(∀ j r,j<m→log[j]?=some r→HasRec p a (Zbb (log.take j)) j r (ep j))∧
   (∀ r e,HasRec p a (Zbb (log.take m)) m r e→Zef e0 ep m≤e→ZeE (bk Za1 [] (log.take m)) r=none):=by
 have hpb:=hp.pb h.db.pb h.db.new
 have hu:=h.u602
 have hq:∀ i,i<Zbb (log.take firm)→hf p a i=hf (mend d.Pages d.Wait) a i:=fun i hi=>by
  rcases hp.hf a i with e|e
  ·rw[e];exact h.firmq i hi
  ·exact e
 have hfree:∀ i,Zbb log≤i→i<602→hf p a i=hf (mend d.Pages d.Wait) a i:=fun i h1 h2=>by
  rcases hp.hf a i with e|e
  ·rw[e];exact(h.free i h1 h2).2
  ·exact e
 have hfirm:∀ j r,j<firm→log[j]?=some r→HasRec p a (Zbb (log.take j)) j r (ep j):=fun j r hj hr=>by
  refine(h.recs j r hr).congr (fun i h1 h2=>?_)
  rw[h.recsLen hr]at h2
  have h3:Zbb (log.take (j+1))≤Zbb (log.take firm):=Ze0 (by omega)
  exact(hq i (by omega)).symm
 have key:∀ n m:Nat,m+n=log.length→firm≤m→(∀ j r,j<m→log[j]?=some r→HasRec p a (Zbb (log.take j)) j r (ep j))→
   ∃ m,firm≤m∧m≤log.length∧(∀ j r,j<m→log[j]?=some r→HasRec p a (Zbb (log.take j)) j r (ep j))∧(m=log.length∨∃ r,log[m]?=some r∧¬ HasRec p a (Zbb (log.take m)) m r (ep m)):=by
  intro n
  induction n with
  |zero=>intro m h1 h2 h3;exact⟨m,h2,by omega,h3,.inl (by omega)⟩
  |succ n ih=>
   intro m h1 h2 h3
   obtain⟨r,hr⟩:∃ r,log[m]?=some r:=⟨_,gG (by omega)⟩
   by_cases hh:HasRec p a (Zbb (log.take m)) m r (ep m)
   ·refine ih (m+1) (by omega) (by omega) (fun j x hj hx=>?_)
    by_cases e:j=m
    ·subst e
     rw[hr]at hx
     obtain rfl:=oi hx
     exact hh
    ·exact h3 j x (by omega) hx
   ·exact⟨m,h2,by omega,h3,.inr ⟨r,hr,hh⟩⟩
 obtain⟨m,m1,m2,m3,m4⟩:=key (log.length - firm) firm (by have:=h.firmle;omega) (Nat.le_refl _) hfirm
 refine⟨m,m1,m2,m3,fun r e hr he=>?_⟩
 have hfin:=h.firmle
 have hrl:=hr.run.1
 have hpos:0<(Zax r (m:Int) e).length:=by rw[ZaD];exact Ze5 r
 have hum:Zbb (log.take m)≤Zbb log:=by
  have:=Ze0 (log:=log) m2
  rw[List.take_length]at this
  exact this
 have hufm:Zbb (log.take firm)≤Zbb (log.take m):=Ze0 m1
 have hle:e≤l.Epoch:=by
  have h1:epH (hf p a (Zbb (log.take m)))≤l.Epoch:=by
   rcases hp.hf a (Zbb (log.take m)) with g|g
   ·rw[g];exact(h.bound a _ h.a1 (by omega)).2
   ·rw[g];exact(h.bound a _ h.a1 (by omega)).1
  rw[hr.at0]at h1
  exact h1
 by_cases hee:e=l.Epoch
 ·
  have hn:HasRec (mend d.Pages d.Wait) a (Zbb (log.take m)) m r e:=by
   refine hr.congr (fun i h1 h2=>?_)
   have h3:=hr.ep0 (i:=i - Zbb (log.take m)) (by omega)
   rw[show Zbb (log.take m)+(i - Zbb (log.take m))=i by omega]at h3
   by_cases hi:i<Zbb log
   ·rcases hp.hf a i with g|g
    ·have:=(h.soft i (by omega) hi).2
     rw[←g,h3]at this;omega
    ·exact g
   ·exact hfree i (by omega) (by omega)
  rcases m4 with m4|⟨x,hx,hno⟩
  ·subst m4
   exact h.stopN r e hn he
  ·have:=(hn.inj h.db.new (h.recs m x hx)).1
   subst this
   exact absurd (by
    have hl:=h.late m m1 (by have:=(gS.1 hx).1;omega)
    rw[hl,←hee];exact hr) hno
 ·
  have hm:m=firm:=by
   by_cases e2:m=firm
   ·exact e2
   ·obtain⟨j,hj⟩:∃ j,m=j+1:=⟨m - 1,by omega⟩
    rw[hj]at he
    have e1:Zef e0 ep (j+1)=ep j:=rfl
    rw[e1,h.late j (by omega) (by omega)]at he
    omega
  subst hm
  refine h.stop r e (hr.congr (fun i h1 h2=>?_)) he
  have h3:=hr.ep0 (i:=i - Zbb (log.take m)) (by omega)
  rw[show Zbb (log.take m)+(i - Zbb (log.take m))=i by omega]at h3
  by_cases hi:i<Zbb log
  ·rcases hp.hf a i with g|g
   ·exact g
   ·have:=(h.soft i (by omega) hi).1
    rw[←g,h3]at this;omega
  ·rw[hfree i (by omega) (by omega)]
   exact((h.free i (by omega) (by omega)).2).symm
theorem Jr.fail (h:Jr d l log firm a e0 c ep) (hE:l.Epoch<1000000) {p:List Pg} (hl:p.length=602) (hp:Btw d.Pages (mend d.Pages d.Wait) p) {k:Nat} (hk:1000000<k):
  ∃ m l',firm≤m∧m≤log.length∧Zcq k ⟨p,[]⟩=some (⟨p,[]⟩,l',0)∧l'.Epoch≤l.Epoch+1∧Jr ⟨p,[]⟩ l' (log.take m) m a e0 c ep:=by
 obtain⟨m,m1,m2,m3,m4⟩:=h.cut hp
 have hpb:=hp.pb h.db.pb h.db.new
 have hdb:DB ⟨p,[]⟩:=⟨Zdu.2 ⟨hl,by simp,by simp⟩,hpb,by simp⟩
 have hfin:=h.firmle
 have hhead:hf p a 0=ZbK e0 c:=by
  rcases hp.hf a 0 with g|g
  ·rw[g];exact h.headO
  ·rw[g];exact h.headN
 have hmono:∀ j,j<m→Zef e0 ep j≤ep j:=fun j hj=>h.mono j (by omega)
 have harea:=Zmh hpb h.good m2 h.he0 ⟨h.hc.1,by have:=h.hc.2;omega⟩ hhead m3 hmono m4
 have hsame:Zf1 p (mend d.Pages d.Wait) (1 - a):=fun i hi=>by
  rcases hp.hf (1 - a) i with g|g
  ·rw[g];exact h.other i hi
  ·exact g
 have hpick:∀ y,ZdL p (1 - a)=some y→if a=0 then y.epoch≤e0 else y.epoch<e0:=fun y hy=>by
  rw[ZfX hpb h.db.new hsame]at hy
  exact h.pick y hy
 have hmeant:Ziq p=some (a,⟨e0,Zgk log 0 m⟩):=ZkB h.a1 harea hpick
 have hb:∀ b i,b≤1→i<602→epH (hf p b i)≤l.Epoch:=fun b i hb hi=>by
  rcases hp.hf b i with g|g
  ·rw[g];exact(h.bound b i hb hi).2
  ·rw[g];exact(h.bound b i hb hi).1
 have hE1:=h.epo.1
 have x0:mx p 0 0≤l.Epoch:=ZkE.2 ⟨by omega,fun i _ hi=>hb 0 i (by decide) hi⟩
 have x1:mx p 1 0≤l.Epoch:=ZkE.2 ⟨by omega,fun i _ hi=>hb 1 i (by decide) hi⟩
 have n0:=ZgD p 0 0
 have n1:=ZgD p 1 0
 have hx:∀ b i,b≤1→i<602→epH (hf p b i)≤max (mx p 0 0) (mx p 1 0):=fun b i hb2 hi=>by
  have y0:=(ZkE (p:=p) (a:=0) (from_:=0)).1 (Int.le_refl _)
  have y1:=(ZkE (p:=p) (a:=1) (from_:=0)).1 (Int.le_refl _)
  rcases Nat.le_one_iff_eq_zero_or_eq_one.1 hb2 with rfl|rfl
  ·have:=y0.2 i (by omega) hi;omega
  ·have:=y1.2 i (by omega) hi;omega
 have hopen:=Ztf hk hdb (q:=(a,⟨e0,Zgk log 0 m⟩)) hmeant (show max (mx p 0 0) (mx p 1 0)<1000000 by omega)
 obtain⟨b1,b2⟩:=Zhe log m2 e0
 simp only[ZjB,b1,b2]at hopen
 have hbm:(log.take m).length=m:=by rw[List.length_take];omega
 have htt:∀ j,j≤m→(log.take m).take j=log.take j:=fun j hj=>by rw[List.take_take,Nat.min_eq_left hj]
 have hgm:∀ j r,(log.take m)[j]?=some r→j<m∧log[j]?=some r:=fun j r hr=>by
  have h1:=(gS.1 hr).1
  rw[hbm]at h1
  rw[List.getElem?_take,if_pos h1]at hr
  exact⟨h1,hr⟩
 refine⟨m,_,m1,m2,hopen,?_,hdb,h.a1,h.good.take m,by omega,rfl,rfl,rfl,?_,h.he0,⟨h.hc.1,by have:=h.hc.2;omega⟩,hhead,hhead,fun j r hr=>?_,fun j hj=>hmono j (by omega),fun j h1 h2=>by omega,fun b i hb2 hi=>?_,fun i h1 h2=>⟨?_,rfl⟩,fun i _=>rfl,fun i h1 h2=>?_,fun i _=>rfl,hpick,?_,by simp,by simp⟩
 ·show 1+max (mx p 0 0) (mx p 1 0)≤l.Epoch+1;omega
 ·show 1≤1+max (mx p 0 0) (mx p 1 0)∧1+max (mx p 0 0) (mx p 1 0)≤1000000;omega
 ·obtain⟨g1,g2⟩:=hgm j r hr
  rw[htt j (by omega)]
  exact m3 j r g1 g2
 ·have:=hx b i hb2 hi
  exact⟨show epH (hf p b i)≤1+max (mx p 0 0) (mx p 1 0) by omega,show epH (hf p b i)≤1+max (mx p 0 0) (mx p 1 0) by omega⟩
 ·have:=hx a i h.a1 h2
  show epH (hf p a i)<1+max (mx p 0 0) (mx p 1 0);omega
 ·rw[htt m (Nat.le_refl _)]at h1
  omega
 ·rw[htt m (Nat.le_refl _)]
  exact m4
end
theorem Zk5 (b i:Nat) (hb:b≤1) (hi:i<602):hf ZlH b i=if b=0∧i=0 then ZbK 1 0 else hz:=by
 have hl:(List.replicate 602 pz).length=602:=List.length_replicate
 rw[Zl9]
 unfold ZlH
 rw[ZkP (by rw[hl];decide),show (0:Int)=((0:Nat):Int) from rfl,ZfU pz (show 0<2 by decide)]
 have hpz:∀ s,s<2→sd pz s=hz:=fun s hs=>by
  have:s=0∨s=1:=by omega
  rcases this with rfl|rfl<;>rfl
 by_cases h1:301*b+i / 2=0
 ·rw[if_pos h1]
  by_cases h2:i % 2=0
  ·rw[if_pos h2,if_pos (by omega)]
  ·rw[if_neg h2,if_neg (by omega),hpz _ (by omega)]
 ·rw[if_neg h1,if_neg (by omega),ZfT (g:=pz) (by rw[List.getElem?_replicate,if_pos (by omega)]),hpz _ (by omega)]
theorem Zuv:DB ⟨ZlH,[]⟩:=by
 have hz0:Byt hz.l:=by
  intro y hy
  have:y=0:=by
   simp only[hz,Vec.rep,List.mem_replicate]at hy
   exact hy.2
  omega
 have hh:Byt (ZbK 1 0).l:=by
  unfold Byt;decide
 refine⟨Zdu.2 ⟨by unfold ZlH;rw[List.length_set];exact List.length_replicate,by simp,by simp⟩,fun g hg x hx=>?_,by simp⟩
 simp only[ZlH]at hg
 rcases List.mem_or_eq_of_mem_set hg with g1|rfl
 ·rw[List.mem_replicate]at g1
  rw[g1.2]at hx
  have:x=hz:=by
   simp only[pz,Vec.rep,List.mem_replicate]at hx
   exact hx.2
  rw[this];exact hz0
 ·have:x=ZbK 1 0∨x=hz:=by
   simp only[pz,Vec.rep,Vec.set,Int.toNat_zero,List.replicate,List.set_cons_zero,List.mem_cons,List.not_mem_nil,or_false]at hx
   exact hx
  rcases this with rfl|rfl
  ·exact hh
  ·exact hz0
theorem Jr.new:Jr ⟨ZlH,[]⟩ ⟨⟨[]⟩,0,1,1⟩ [] 0 0 1 0 (fun _=>1):=by
 have hhd:hf ZlH 0 0=ZbK 1 0:=by rw[Zk5 0 0 (by decide) (by decide),if_pos ⟨rfl,rfl⟩]
 have hE:∀ b i,b≤1→i<602→epH (hf ZlH b i)≤1:=fun b i hb hi=>by
  rw[Zk5 b i hb hi]
  split
  ·rw[ZhE ⟨by decide,by decide⟩];decide
  ·rw[Zmm];decide
 refine⟨Zuv,by decide,⟨by simp,trivial,by simp⟩,Nat.le_refl _,rfl,rfl,rfl,⟨by decide,by decide⟩,⟨by decide,by decide⟩,⟨by decide,by decide⟩,hhd,hhd,by simp,by simp,by simp,fun b i hb hi=>⟨hE b i hb hi,hE b i hb hi⟩,fun i h1 h2=>⟨?_,rfl⟩,fun i _=>rfl,fun i h1 h2=>?_,fun i _=>rfl,fun y hy=>?_,fun r e hr he=>?_,by simp,by simp⟩
 ·show epH (hf ZlH 0 i)<1
  have:1≤i:=h1
  rw[Zk5 0 i (by decide) h2,if_neg (by omega),Zmm];decide
 ·have e1:Zbb (([]:List Record).take 0)=1:=rfl
  have e2:Zbb ([]:List Record)=1:=rfl
  omega
 ·exfalso
  have h0:ZdL ZlH 1=some y:=hy
  unfold ZdL at h0
  have e1:hf ZlH 1 0=hz:=by rw[Zk5 1 0 (by decide) (by decide),if_neg (by decide)]
  rw[e1,Zmm,if_neg (fun c=>c.1 rfl)]at h0
  cases h0
 ·exfalso
  have h1:=hr.at0
  have e1:Zbb (([]:List Record).take 0)=1:=rfl
  have h2:hf (Disk.mk ZlH []).Pages 0 (Zbb (([]:List Record).take 0))=hf ZlH 0 1:=rfl
  rw[h2,Zk5 0 1 (by decide) (by decide),if_neg (by omega),Zmm]at h1
  have:=hr.ep.1
  omega
end Go.Abs
namespace Go.Abs
open Go Go.Proofs
set_option maxRecDepth 20000
set_option linter.unusedVariables false
set_option linter.unusedSimpArgs false
def ZeU (l:List Record) (e:Int):Nat→List Hf
 |0=>[]
 |n+1=>ZeU l e n++Zax ((l[n]?).getD Zty) (n:Int) e
theorem ZgI {l:List Record}{e:Int}:∀ n,n≤l.length→(ZeU l e n).length+1=Zbb (l.take n)
 |0,_=>by simp[ZeU,Zrh]
 |n+1,h=>by
  obtain⟨r,hr⟩:∃ r,l[n]?=some r:=⟨_,gG (by omega)⟩
  have:=ZgI (l:=l) (e:=e) n (by omega)
  rw[ZeU,List.length_append,hr,Option.getD_some,ZaD,Zcx hr]
  omega
theorem ZkO {l:List Record}{e:Int}{i:Nat}:∀ j,i≤j→∃ r,ZeU l e j=ZeU l e i++r
 |0,h=>⟨[],by rw[show i=0 by omega];simp⟩
 |j+1,h=>by
  by_cases hj:i=j+1
  ·subst hj;exact⟨[],by simp⟩
  ·obtain⟨r,hr⟩:=ZkO (l:=l) (e:=e) (i:=i) j (by omega)
   exact⟨r++Zax ((l[j]?).getD Zty) (j:Int) e,by rw[ZeU,hr,List.append_assoc]⟩
theorem Zph {l:List Record}{e:Int}{j:Nat}{r:Record} (hr:l[j]?=some r) {n:Nat} (hn:n≤l.length) (hj:j<n) {i:Nat}{x:Hf} (hx:(Zax r (j:Int) e)[i]?=some x):
  (ZeU l e n)[Zbb (l.take j) - 1+i]?=some x:=by
 obtain⟨q,hq⟩:=ZkO (l:=l) (e:=e) (i:=j+1) n hj
 have hl:=ZgI (l:=l) (e:=e) j (by omega)
 have hi:=(gS.1 hx).1
 rw[hq,ZeU,hr,Option.getD_some,List.append_assoc,List.getElem?_append_right (by omega),show Zbb (l.take j) - 1+i - (ZeU l e j).length=i by omega,List.getElem?_append_left hi]
 exact hx
theorem ZkN {l:List Record}{e:Int}{x:Hf}:∀ n,x∈ZeU l e n→∃ (r:Record) (j i:Nat),x=ZcB e (j:Int) (Zb2 (enc r).length) (enc r) i
 |0,h=>by simp[ZeU]at h
 |n+1,h=>by
  rw[ZeU,List.mem_append]at h
  rcases h with h|h
  ·exact ZkN n h
  ·obtain⟨i,hi⟩:=List.mem_iff_getElem?.1 h
   exact⟨_,n,i,ZoV hi⟩
theorem ZoL (e n c:Int) (r:Record) (i:Nat):Byt (ZcB e n c (enc r) i).l:=by
 intro y hy
 simp only[ZcB,Zgh,List.mem_append,List.mem_cons,List.not_mem_nil,or_false,List.mem_replicate]at hy
 rcases hy with (((((hy|hy)|hy)|hy)|hy)|hy)
 ·omega
 ·exact ZcT _ _ y hy
 ·exact ZcT _ _ y hy
 ·rcases hy with hy|hy<;>rw[hy,ZjR]<;>omega
 ·rcases hy with hy|hy
  ·exact ZoK r y (List.mem_of_mem_drop (List.mem_of_mem_take hy))
  ·omega
 ·omega
theorem Zru:Byt hz.l:=by
 intro y hy
 have:y=0:=by
  simp only[hz,Vec.rep,List.mem_replicate]at hy
  exact hy.2
 omega
theorem ZoM (e n:Int):Byt (ZbK e n).l:=by
 intro y hy
 simp only[ZbK,List.mem_cons,List.not_mem_nil,or_false,List.mem_append,List.mem_replicate]at hy
 have h8:∀ x:Int,0≤IntKind.u8.wrap x∧IntKind.u8.wrap x<256:=fun x=>by rw[ZjR];omega
 have a1:=h8 (Int.fdiv e (2 ^ 16))
 have a2:=h8 (Int.fdiv e (2 ^ 8))
 have a3:=h8 e
 have a4:=h8 (Int.fdiv n (2 ^ 8))
 have a5:=h8 n
 omega
theorem Zpi {k:Nat} (hk:1000000<k) {l:Ledger} (hl:l.Book.Records.length≤50) (hr:∀ r∈l.Book.Records,ZeV r=true) (he:w64 (l.Epoch+1)=l.Epoch+1):
  whl (ZaK.b0 k l) k (0,[])=some (.brk (ZeU l.Book.Records (l.Epoch+1) l.Book.Records.length)):=by
 have h:=ZiA (n:=l.Book.Records.length) (body:=ZaK.b0 k l) (fun i s=>(i,s)) (fun s i=>s++Zax ((l.Book.Records[i]?).getD Zty) (i:Int) (l.Epoch+1)) (fun i s=>s=ZeU l.Book.Records (l.Epoch+1) i) (by omega) (k:=k) (by omega) (s0:=[]) rfl (fun i s hi hs=>by
  obtain⟨r,hx⟩:∃ r,l.Book.Records[i]?=some r:=⟨_,gG hi⟩
  have hrr:=hr r (List.mem_of_getElem? hx)
  have hL:=ZgI (l:=l.Book.Records) (e:=l.Epoch+1) i (by omega)
  have hu:=ZlX (log:=l.Book.Records.take i) (fun x hx=>hr x (List.mem_of_mem_take hx))
  have hc:=Zq3 hrr
  have hlt:(l.Book.Records.take i).length≤50:=by rw[List.length_take];omega
  have hH:(List.range (Zb2 (enc r).length)).map (ZcB (l.Epoch+1) (i:Int) (Zb2 (enc r).length) (enc r))=Zax r (i:Int) (l.Epoch+1):=rfl
  have hHl:=ZaD r (i:Int) (l.Epoch+1)
  refine⟨?_,by rw[hs,ZeU]⟩
  unfold ZaK.b0
  simp only
  rw[decide_eq_true (show (i:Int)<(l.Book.Records.length:Int) by omega),cond_true,ZcA hx,Option.bind_some,he,Zgn (show 100000<k by omega) (Zfu hrr),hH,Option.bind_some,hs,
   ZoD (by omega) (by omega),Option.bind_some,hx,Option.getD_some]) (fun s hs=>by
  unfold ZaK.b0
  simp only
  rw[decide_eq_false (Int.lt_irrefl _),cond_false])
 rw[h.1,h.2]
theorem ZdI {k:Nat}{c:List Disk}{d:Disk} (hd:dOK d=true) (hc:c.length≤100):ZbN k c ⟨d⟩=some (c++[d],⟨d⟩):=by
 unfold ZbN
 rw[Zdk hd,Option.bind_some,ZeH (by omega) (by omega),Option.bind_some]
theorem Zmr {p:List Pg} (hp:p.length=602) {a u:Nat} (ha:a≤1) {H:List Hf} (hul:u+H.length≤602) {b i:Nat} (hb:b≤1) (hi:i<602):
  hf (mend p (wsR p a u H H.length 0)) b i=if b=a∧u≤i∧i<u+H.length then (H[i - u]?).getD hz else hf p b i:=by
 have hmend:=ZhM hp ha hul H.length 0 p (by omega) (fun _=>rfl) hp (fun j _=>rfl)
 rw[Zl9,hmend _ _ (Nat.mod_lt _ (by decide)),Zl9]
 unfold tg
 by_cases hcnd:b=a∧u≤i∧i<u+H.length
 ·obtain⟨rfl,h1,h2⟩:=hcnd
  rw[if_pos (by unfold ZfH;omega),if_pos ⟨rfl,h1,h2⟩,show 2*(301*b+i / 2 - 301*b)+i % 2 - u=i - u by omega]
 ·rw[if_neg (by unfold ZfH;omega),if_neg hcnd]
theorem DB.write {p:List Pg} (h:DB ⟨p,[]⟩) {a u:Nat} (ha:a≤1) {H:List Hf} (hul:u+H.length≤602) (hH:∀ x∈H,Byt x.l):DB ⟨p,wsR p a u H H.length 0⟩:=by
 obtain⟨k1,_,_⟩:=Zdu.1 h.ok
 simp only at k1
 have hwok:=Zm8 k1 ha hul H.length 0 (fun _=>rfl)
 have hwl:=ZiB p a u H H.length 0
 have hG:∀ i:Nat,Byt ((H[i]?).getD hz).l:=fun i=>by
  cases hx:H[i]? with
  |none=>exact Zru
  |some x=>exact hH x (List.mem_of_getElem? hx)
 have htg:∀ j s,s<2→Byt (tg p a u H 0 j s).l:=fun j s hs=>by
  unfold tg
  split
  ·exact hG _
  ·by_cases hj:j<602
   ·obtain⟨g,hg⟩:∃ g,p[j]?=some g:=⟨_,gG (by rw[k1];exact hj)⟩
    rw[ZfT hg]
    have hgl:=g.h
    obtain⟨x,hx⟩:∃ x,g.l[s]?=some x:=⟨_,gG (by omega)⟩
    unfold sd
    rw[hx]
    exact h.pb g (List.mem_of_getElem? hg) x (List.mem_of_getElem? hx)
   ·rw[Zpk (by rw[k1];omega)]
    exact Zru
 refine⟨Zdu.2 ⟨k1,by simp only;omega,fun w hw=>(hwok w hw).1⟩,h.pb,fun w hw x hx=>?_⟩
 obtain⟨s,hs⟩:=List.mem_iff_getElem?.1 hx
 have hs2:s<2:=by
  have:=(gS.1 hs).1
  have:=w.Page.h
  omega
 have e:sd w.Page s=x:=by unfold sd;rw[hs];rfl
 rw[←e,(hwok w hw).2 s hs2]
 exact htg _ _ hs2
section
variable {d:Disk}{l:Ledger}{log:List Record}{firm a:Nat}{e0 c:Int}{ep:Nat→Int}
theorem Jr.pack (h:Jr d l log firm a e0 c ep) (hE:l.Epoch<1000000) {k:Nat} (hk:1000000<k):
  ∃ p1 p2 p3 p4 d' l',ZaK k d l=some ([p1,p2,p3,p4,d'],l',0)∧l'.Epoch=l.Epoch+1∧l'.Book=l.Book∧Jr d' l' (bk Za1 [] log) log.length (1 - a) (l.Epoch+1) (log.length:Int) (fun _=>l.Epoch+1):=by
 have ha1:=h.a1
 have hbi:=h.good.bi
 have hbl:=hbi.len
 have hlog:=h.good.len
 have hbr:l.Book.Records=bk Za1 [] log:=by rw[h.book]
 have hepo:=h.epo
 have he:w64 (l.Epoch+1)=l.Epoch+1:=Za8 (by omega) (by omega)
 have hBr:∀ r∈bk Za1 [] log,ZeV r=true:=fun r hr=>h.good.ok r ((hbi.mem r).1 hr)
 have hgood:LogOK (bk Za1 [] log):=⟨hBr,hbi.val.2,by omega⟩
 have hbb:bk Za1 [] (bk Za1 [] log)=bk Za1 [] log:=Zpv Za1 hgood.bi.val.1 hbi.val.1 (fun x=>hgood.bi.mem x)
 have hloop:=Zpi hk (l:=l) (by rw[hbr];omega) (by rw[hbr];exact hBr) he
 have hA:=ZgI (l:=bk Za1 [] log) (e:=l.Epoch+1) _ (Nat.le_refl _)
 rw[List.take_length]at hA
 have hAu:=ZlX hBr
 have hmemA:=fun x=>ZkN (l:=bk Za1 [] log) (e:=l.Epoch+1) (x:=x) (bk Za1 [] log).length
 have hgetA:∀ {j:Nat}{r:Record},(bk Za1 [] log)[j]?=some r→∀ {i:Nat}{x:Hf},(Zax r (j:Int) (l.Epoch+1))[i]?=some x→(ZeU (bk Za1 [] log) (l.Epoch+1) (bk Za1 [] log).length)[Zbb ((bk Za1 [] log).take j) - 1+i]?=some x:=
  fun hr=>Zph hr (Nat.le_refl _) (gS.1 hr).1
 rw[hbr]at hloop
 generalize hAd:ZeU (bk Za1 [] log) (l.Epoch+1) (bk Za1 [] log).length=A at hloop hA hmemA hgetA
 have hAb:∀ x∈A,Byt x.l:=fun x hx=>by
  obtain⟨r,j,i,rfl⟩:=hmemA x hx
  exact ZoL _ _ _ _ _
 have hAe:∀ i,i<A.length→epH ((A[i]?).getD hz)=l.Epoch+1:=fun i hi=>by
  obtain⟨r,j,q,hx⟩:=hmemA A[i] (List.getElem_mem _)
  rw[gG hi,Option.getD_some,hx]
  exact Zj4 (by omega) _ _ _ _
 have hd1:DB ⟨mend d.Pages d.Wait,[]⟩:=h.db.sync
 have hP1:(mend d.Pages d.Wait).length=602:=h.db.len
 generalize hp1:mend d.Pages d.Wait=P1 at hd1 hP1
 have hb1:1 - a≤1:=by omega
 have hd2:=hd1.write hb1 (u:=1) (H:=A) (by omega) hAb
 have hf3:=fun {b i:Nat}=>Zmr hP1 hb1 (u:=1) (H:=A) (by omega) (b:=b) (i:=i)
 have hw1:=ZjS hk hd1 hb1 (u:=1) (l:=A) (by omega)
 simp only[ZjB,List.nil_append]at hw1
 generalize hws1:wsR P1 (1 - a) 1 A A.length 0=w1 at hd2 hf3 hw1
 have hd3:DB ⟨mend P1 w1,[]⟩:=hd2.sync
 have hP3:(mend P1 w1).length=602:=by rw[Zmt];exact hP1
 have hs3:=ZcZ hk hd2.ok
 simp only at hs3
 generalize hp3:mend P1 w1=P3 at hd3 hP3 hf3 hs3
 have hd4:=hd3.write hb1 (u:=0) (H:=[ZbK (l.Epoch+1) (log.length:Int)]) (by simp) (fun x hx=>by rw[List.mem_singleton.1 hx];exact ZoM _ _)
 have hf5:=fun {b i:Nat}=>Zmr hP3 hb1 (u:=0) (H:=[ZbK (l.Epoch+1) (log.length:Int)]) (by simp) (b:=b) (i:=i)
 have hw2:=ZjS hk hd3 hb1 (u:=0) (l:=[ZbK (l.Epoch+1) (log.length:Int)]) (by simp)
 simp only[ZjB,List.nil_append]at hw2
 generalize hws2:wsR P3 (1 - a) 0 [ZbK (l.Epoch+1) (log.length:Int)] [ZbK (l.Epoch+1) (log.length:Int)].length 0=w2 at hd4 hf5 hw2
 have hd5:DB ⟨mend P3 w2,[]⟩:=hd4.sync
 have hs5:=ZcZ hk hd4.ok
 simp only at hs5
 generalize hp5:mend P3 w2=P5 at hd5 hf5 hs5
 have hF:∀ b i,b≤1→i<602→hf P5 b i=if b=1 - a∧i=0 then ZbK (l.Epoch+1) (log.length:Int) else if b=1 - a∧i<Zbb (bk Za1 [] log) then (A[i - 1]?).getD hz else hf P1 b i:=fun b i hb hi=>by
  rw[hf5 hb hi]
  by_cases c1:b=1 - a∧i=0
  ·rw[if_pos ⟨c1.1,by omega,by simp;omega⟩,if_pos c1,c1.2];rfl
  ·rw[if_neg (by simp only[List.length_cons,List.length_nil];omega),if_neg c1,hf3 hb hi]
   by_cases c2:b=1 - a∧i<Zbb (bk Za1 [] log)
   ·rw[if_pos ⟨c2.1,by omega,by omega⟩,if_pos c2]
   ·rw[if_neg (by omega),if_neg c2]
 have hhead:hf P5 (1 - a) 0=ZbK (l.Epoch+1) (log.length:Int):=by rw[hF _ _ hb1 (by decide),if_pos ⟨rfl,rfl⟩]
 have hmid:∀ i,1≤i→i<Zbb (bk Za1 [] log)→hf P5 (1 - a) i=(A[i - 1]?).getD hz:=fun i h1 h2=>by
  rw[hF _ _ hb1 (by omega),if_neg (by omega),if_pos ⟨rfl,h2⟩]
 have hhigh:∀ i,Zbb (bk Za1 [] log)≤i→i<602→hf P5 (1 - a) i=hf P1 (1 - a) i:=fun i h1 h2=>by
  rw[hF _ _ hb1 h2,if_neg (by omega),if_neg (by omega)]
 have hoth:Zf1 P5 P1 a:=fun i hi=>by
  rw[hF a i ha1 hi,if_neg (by omega),if_neg (by omega)]
 have hP1b:∀ b i,b≤1→i<602→epH (hf P1 b i)≤l.Epoch:=fun b i hb hi=>by rw[←hp1];exact(h.bound b i hb hi).1
 have hu:=h.led
 have hcl:Zbw k l=some l:=by
  unfold Zbw
  rw[Zff (show l.Book.Records.length≤1000 by rw[hbr];omega)]
  rfl
 have hLr:(bk Za1 [] log).length=log.length:=hbl
 have har:w64 (1 - l.Area)=((1 - a:Nat):Int):=by rw[h.area,Za8 (by omega) (by omega)];omega
 refine⟨⟨P1,[]⟩,⟨P1,w1⟩,⟨P3,[]⟩,⟨P3,w2⟩,⟨P5,[]⟩,⟨l.Book,((1 - a:Nat):Int),l.Epoch+1,(Zbb (bk Za1 [] log):Int)⟩,?_,rfl,rfl,?_⟩
 ·unfold ZaK
  rw[ZfN hk h.db h.led,Option.bind_some,decide_eq_true rfl,Bool.not_true,cond_false,decide_eq_false (show ¬ l.Epoch=1000000 by omega),cond_false,hcl,Option.bind_some,hbr,hloop,Option.bind_some]
  simp only
  rw[Zdk h.db.ok,Option.bind_some,ZcZ hk h.db.ok,Option.bind_some,hp1]
  simp only
  rw[ZdI hd1.ok (by simp),Option.bind_some]
  simp only[List.nil_append]
  have hw1':Zae k ⟨⟨P1,[]⟩⟩ ((1 - a:Nat):Int) 1 A=some ⟨⟨P1,w1⟩⟩:=hw1
  have hw2':Zae k ⟨⟨P3,[]⟩⟩ ((1 - a:Nat):Int) 0 [ZbK (l.Epoch+1) (log.length:Int)]=some ⟨⟨P3,w2⟩⟩:=hw2
  rw[har,hw1',Option.bind_some,ZdI hd2.ok (by simp),Option.bind_some]
  simp only[List.cons_append,List.nil_append]
  rw[hs3,Option.bind_some]
  simp only
  have hh:ZdD k (w64 (l.Epoch+1)) ((bk Za1 [] log).length:Int)=some (ZbK (l.Epoch+1) (log.length:Int)):=by rw[he,hbl];exact Zhc _ _ _
  rw[ZdI hd3.ok (by simp),Option.bind_some,hh,Option.bind_some]
  simp only[List.cons_append,List.nil_append]
  rw[hw2',Option.bind_some,ZdI hd4.ok (by simp),Option.bind_some]
  simp only[List.cons_append,List.nil_append]
  rw[hs5,Option.bind_some]
  simp only
  rw[ZdI hd5.ok (by simp),Option.bind_some,he,Za8 (by omega) (by omega),show (1:Int)+((A.length:Nat):Int)=((Zbb (bk Za1 [] log):Nat):Int) by omega]
  rfl
 ·have hE1:1≤l.Epoch+1∧l.Epoch+1≤1000000:=by omega
  have hle:∀ n,Zef (l.Epoch+1) (fun _=>l.Epoch+1) n=l.Epoch+1:=fun n=>by cases n<;>rfl
  have hbnd:∀ b i,b≤1→i<602→epH (hf P5 b i)≤l.Epoch+1:=fun b i hb hi=>by
   rw[hF b i hb hi]
   split
   ·rw[ZhE hE1];exact Int.le_refl _
   ·split
    ·rename_i c1 c2
     rw[hAe _ (by omega)];exact Int.le_refl _
    ·have:=hP1b b i hb hi
     omega
  have hfree:∀ i,Zbb (bk Za1 [] log)≤i→i<602→epH (hf P5 (1 - a) i)<l.Epoch+1:=fun i h1 h2=>by
   rw[hhigh i h1 h2]
   have:=hP1b (1 - a) i hb1 h2
   omega
  refine⟨hd5,hb1,hgood,by omega,rfl,by rw[hbb,h.book],rfl,hE1,hE1,⟨by omega,Int.le_refl _⟩,hhead,hhead,fun j r hr=>?_,fun j _=>by rw[hle];exact Int.le_refl _,fun j h1 h2=>by omega,fun b i hb hi=>⟨hbnd b i hb hi,hbnd b i hb hi⟩,
   fun i h1 h2=>⟨hfree i h1 h2,rfl⟩,fun i _=>rfl,fun i h1 h2=>?_,fun i _=>rfl,fun y hy=>?_,fun r e hr hle2=>?_,by simp,by simp⟩
  ·have hcap:=Zcx hr
   have hj:=(gS.1 hr).1
   have hmono:Zbb ((bk Za1 [] log).take (j+1))≤Zbb ((bk Za1 [] log).take (bk Za1 [] log).length):=Ze0 (by omega)
   rw[List.take_length]at hmono
   have hup1:1≤Zbb ((bk Za1 [] log).take j):=by unfold Zbb;omega
   refine⟨hBr r (List.mem_of_getElem? hr),hE1,by rw[ZaD];omega,fun i x hx=>?_⟩
   have hi:=(gS.1 hx).1
   rw[ZaD]at hi
   show hf P5 (1 - a) _=x
   rw[hmid _ (by omega) (by omega)]
   have:=hgetA hr hx
   rw[show Zbb ((bk Za1 [] log).take j)+i - 1=Zbb ((bk Za1 [] log).take j) - 1+i by omega,this]
   rfl
  ·rw[←hbl,List.take_length]at h1
   omega
  ·have e1:(1 - (1 - a))=a:=by omega
   have hy2:ZdL P5 (1 - (1 - a))=some y:=hy
   rw[e1,ZfX (q:=P1) hd5.pb hd1.pb hoth,←hp1,h.areaN]at hy2
   obtain rfl:=oi hy2
   have:=h.lastE_le 0 (by omega)
   have e2:Zef e0 ep 0=e0:=rfl
   simp only
   split<;>omega
  ·rw[←hbl]at hr hle2
   rw[List.take_length]at hr
   rw[hle]at hle2
   have h1:=hr.run.1
   have h2:0<(Zax r ((bk Za1 [] log).length:Int) e).length:=by rw[ZaD];exact Ze5 r
   have h3:=hfree _ (Nat.le_refl _) (by omega)
   have h4:=hr.at0
   rw[h4]at h3
   omega
end
end Go.Abs
namespace Go.Abs
open Go Go.Proofs
set_option maxRecDepth 20000
set_option linter.unusedVariables false
set_option linter.unusedSimpArgs false
def tx5:List ByteArray:=[ByteArray.empty,(⟨#[97]⟩:ByteArray),(⟨#[112,105,101,99,101,32,49,55]⟩:ByteArray),(⟨#[48,32,48,32,49,32,48,32,48,32,48]⟩:ByteArray),(⟨#[97,32,116,101,120,116,32,111,102,32,97,32,108,101,110,103,116,104,32,116,104,97,116,32,116,97,107,101,115,32,116,104,114,101,101,32,104,97,108,118,101,115,32,111,102,32,97,32,112,97,103,101]⟩:ByteArray)]
theorem Zu2 {i:Int} (h0:0≤i) (h1:i<5):∃ s,at? tx5 i=some s∧Zlc s=true:=by
 have:i=0∨i=1∨i=2∨i=3∨i=4:=by omega
 rcases this with rfl|rfl|rfl|rfl|rfl
 ·exact⟨_,rfl,by decide +kernel⟩
 ·exact⟨_,rfl,by decide +kernel⟩
 ·exact⟨_,rfl,by decide +kernel⟩
 ·exact⟨_,rfl,by decide +kernel⟩
 ·exact⟨_,rfl,by decide +kernel⟩
theorem ZkR {k:Nat} (hk:1000000<k) {l:List Record} (hl:l.length≤100) (hh:∀ r∈l,Zee r) (v:Vec 5 Int):
  ∃ r,ZcP k l v=some r∧ZeV r=true∧(r.At.House=0∨r.At.House=1∨r.At.House=2)∧(Za1 r).2=cnt Za1 l (Za1 r).1:=by
 obtain⟨a,b,c,d,e,rfl⟩:=ZvX v
 have a0:(⟨[a,b,c,d,e],rfl⟩:Vec 5 Int).at? 0=some a:=rfl
 have a1:(⟨[a,b,c,d,e],rfl⟩:Vec 5 Int).at? 1=some b:=rfl
 have a2:(⟨[a,b,c,d,e],rfl⟩:Vec 5 Int).at? 2=some c:=rfl
 have a3:(⟨[a,b,c,d,e],rfl⟩:Vec 5 Int).at? 3=some d:=rfl
 have a4:(⟨[a,b,c,d,e],rfl⟩:Vec 5 Int).at? 4=some e:=rfl
 have m3:=ZdH k a (m:=3) (by decide) (by decide)
 have m6:=ZdH k b (m:=6) (by decide) (by decide)
 have m50:=ZdH k c (m:=50) (by decide) (by decide)
 have m51:=ZdH k d (m:=50) (by decide) (by decide)
 have m5:=ZdH k e (m:=5) (by decide) (by decide)
 have B3:=ZcW a (m:=3) (by decide)
 have B6:=ZcW b (m:=6) (by decide)
 have B50:=ZcW c (m:=50) (by decide)
 have B51:=ZcW d (m:=50) (by decide)
 have B5:=ZcW e (m:=5) (by decide)
 obtain⟨s,hs1,hs2⟩:=Zu2 B5.1 B5.2
 have hc:=Zry l (a % 3)
 have hhouse:a % 3=0∨a % 3=1∨a % 3=2:=by omega
 unfold ZcP
 unfold tx5 at hs1
 simp only[a0,a1,a2,a3,a4,m3,m6,m50,m51,m5,Option.bind_some,Zns hk (show l.length≤100000 by omega) hh,Zly l (show 0≤a % 3 from B3.1) (by omega),hs1]
 have W:∀ x lo hi:Int,lo≤x→x≤hi→within x lo hi=true:=fun x lo hi h1 h2=>by
  unfold within;simp[h1,h2]
 have hgood:∀ kk:Int,0<kk→kk≤7→ZeV (⟨(⟨a % 3,((cnt Za1 l (a % 3):Nat):Int)⟩:Entry),kk,c % 50,d % 50,(⟨0,0⟩:Entry),s⟩:Record)=true:=fun kk h1 h2=>by
  unfold ZeV ZeP
  simp only[W _ 0 5 (show 0≤a % 3 from B3.1) (by omega),W _ 0 9999 (show (0:Int)≤((cnt Za1 l (a % 3):Nat):Int) by omega) (by omega),W kk 0 40 (by omega) (by omega),W _ 0 100000 B50.1 (by omega),W _ 0 100000 B51.1 (by omega),hs2,
   decide_eq_false (show ¬ kk=0 by omega),Bool.not_false,cond_true,Bool.and_self,decide_true]
 by_cases h0:b % 6=0
 ·simp only[decide_eq_true h0,cond_true]
  by_cases hp:(0:Int)<((cnt Za1 l (a % 3):Nat):Int)
  ·have mc:=ZdH k c (m:=((cnt Za1 l (a % 3):Nat):Int)) hp (by omega)
   have Bc:=ZcW c hp
   simp only[decide_eq_true hp,cond_true,mc,Option.bind_some]
   refine⟨_,rfl,?_,hhouse,rfl⟩
   have te:Zlc ByteArray.empty=true:=by decide +kernel
   unfold ZeV ZeP
   simp only[W _ 0 5 (show 0≤a % 3 from B3.1) (by omega),W _ 0 9999 (show (0:Int)≤((cnt Za1 l (a % 3):Nat):Int) by omega) (by omega),W (b % 6) 0 40 (by omega) (by omega),W 0 0 100000 (by decide) (by decide),W _ 0 100000 B51.1 (by omega),te,
    decide_eq_true h0,Bool.not_true,cond_false,Bool.and_self,decide_true,beq_self_eq_true,W _ 0 9999 Bc.1 (by omega),decide_eq_true Bc.2]
  ·simp only[decide_eq_false hp,cond_false]
   exact⟨_,rfl,hgood 7 (by decide) (by decide),hhouse,rfl⟩
 ·simp only[decide_eq_false h0,cond_false]
  exact⟨_,rfl,hgood _ (by omega) (by omega),hhouse,rfl⟩
def mk1 (k:Nat) (s:List Record) (v:Vec 5 Int):List Record:=s++[(ZcP k s v).getD recX]
where recX:Record:=⟨⟨0,0⟩,0,0,0,⟨0,0⟩,ByteArray.empty⟩
def recs (k:Nat) (l:List (Vec 5 Int)):List Record:=l.foldl (mk1 k) []
structure Good (s:List Record):Prop where
 ok:∀ r∈s,ZeV r=true
 house:∀ r∈s,r.At.House=0∨r.At.House=1∨r.At.House=2
 vl:VL Za1 (fun _=>0) s
theorem Good.hh {s:List Record} (h:Good s):∀ r∈s,Zee r:=fun r hr=>Zd7 (h.ok r hr)
theorem Good.nil:Good []:=⟨by simp,by simp,trivial⟩
theorem Good.mk1 {k:Nat} (hk:1000000<k) {s:List Record} (h:Good s) (hl:s.length≤100) (v:Vec 5 Int):∃ r,ZcP k s v=some r∧mk1 k s v=s++[r]∧Good (s++[r]):=by
 obtain⟨r,h1,h2,h3,h4⟩:=ZkR hk hl h.hh v
 refine⟨r,h1,by unfold Go.Abs.mk1;rw[h1];rfl,⟨fun x hx=>?_,fun x hx=>?_,?_⟩⟩
 ·rcases List.mem_append.1 hx with g|g
  ·exact h.ok x g
  ·rw[List.mem_singleton.1 g];exact h2
 ·rcases List.mem_append.1 hx with g|g
  ·exact h.house x g
  ·rw[List.mem_singleton.1 g];exact h3
 ·rw[Zek]
  refine⟨h.vl,?_,trivial⟩
  rw[h4]
  exact(Int.zero_add _).symm
theorem ZkS {k:Nat} (hk:1000000<k):∀ (l:List (Vec 5 Int)) (s:List Record),Good s→s.length+l.length≤100→Good (l.foldl (mk1 k) s)∧(l.foldl (mk1 k) s).length=s.length+l.length∧(l.foldl (mk1 k) s).take s.length=s
 |[],s,h,hl=>⟨h,by simp,by simp⟩
 |v::l,s,h,hl=>by
  simp only[List.length_cons]at hl
  obtain⟨r,h1,h2,h3⟩:=h.mk1 hk (by omega) v
  obtain⟨g1,g2,g3⟩:=ZkS hk l (s++[r]) h3 (by simp;omega)
  rw[List.foldl_cons,h2]
  refine⟨g1,by rw[g2];simp;omega,?_⟩
  have:=congrArg (List.take s.length) g3
  rw[List.take_take]at this
  simpa using this
theorem ZjJ {k:Nat} (hk:1000000<k) (l:List (Vec 5 Int)) {n:Nat} (hn:n≤60):Zaz k l (n:Int)=some (recs k (l.take n)):=by
 unfold Zaz
 have key:∀ (d i m:Nat) (s:List Record),i+d=min n l.length→d<m→s=recs k (l.take i)→Good s→s.length=i→
   whl (Zaz.b0 k l (n:Int)) m ((i:Int),s)=some (.brk (recs k (l.take n))):=by
  intro d
  induction d with
  |zero=>
   intro i m s h1 h2 h3 h4 h5
   obtain⟨m,rfl⟩:∃ q,m=q+1:=⟨m - 1,by omega⟩
   have hb:Zaz.b0 k l (n:Int) ((i:Int),s)=some (.brk s):=by
    unfold Zaz.b0
    by_cases h:(i:Int)<(l.length:Int)
    ·simp only[decide_eq_true h,cond_true,decide_eq_false (show ¬ (i:Int)<(n:Int) by omega),cond_false]
    ·simp only[decide_eq_false h,cond_false]
   simp only[whl,hb]
   rw[h3]
   by_cases h:n≤l.length
   ·rw[show i=n by omega]
   ·rw[List.take_of_length_le (show l.length≤i by omega),List.take_of_length_le (show l.length≤n by omega)]
  |succ d ih=>
   intro i m s h1 h2 h3 h4 h5
   obtain⟨m,rfl⟩:∃ q,m=q+1:=⟨m - 1,by omega⟩
   have hi:i<l.length:=by omega
   have hin:i<n:=by omega
   obtain⟨v,hv⟩:∃ v,l[i]?=some v:=⟨_,gG hi⟩
   obtain⟨r,g1,g2,g3⟩:=h4.mk1 hk (by omega) v
   have hw:w64 ((i:Int)+1)=((i+1:Nat):Int):=by rw[Za8 (by omega) (by omega)];omega
   have hb:Zaz.b0 k l (n:Int) ((i:Int),s)=some (.next (((i+1:Nat):Int),s++[r])):=by
    unfold Zaz.b0
    simp only[decide_eq_true (show (i:Int)<(l.length:Int) by omega),decide_eq_true (show (i:Int)<(n:Int) by omega),cond_true,ZcA hv,Option.bind_some,g1,ZeH (show (s.length+1)*72≤140737488355328 by omega) (show s.length+1<4611686018427387904 by omega),hw]
   simp only[whl,hb]
   refine ih (i+1) m (s++[r]) (by omega) (by omega) ?_ g3 (by simp;omega)
   rw[Zgq hv]
   unfold recs
   rw[List.foldl_append]
   show _=Go.Abs.mk1 k (recs k (l.take i)) v
   rw[←h3,g2]
 have:=key (min n l.length) 0 k [] (by omega) (by omega) rfl Good.nil rfl
 rw[Int.natCast_zero]at this
 rw[this];rfl
end Go.Abs
namespace Go.Abs
open Go Go.Proofs
set_option maxRecDepth 20000
set_option linter.unusedVariables false
set_option linter.unusedSimpArgs false
theorem Zlg {k:Nat} (hk:1000000<k) {a b:List Record} (la:a.length≤1000) (lb:b.length≤1000) (h:∀ x∈a,x∈b):Zas k ⟨a⟩ ⟨b⟩=some true:=by
 unfold Zas
 have hin:∀ (i:Nat) x,a[i]?=some x→whl (Zas.b1 k ⟨a⟩ ⟨b⟩ (i:Int)) k (false,0)=some (.brk true):=fun i x hx=>by
  have hf:=ZeM (l:=b) (body:=Zas.b1 k ⟨a⟩ ⟨b⟩ (i:Int)) (fun j s=>(s,j)) (fun s y=>s || ZhC x y) (fun j s=>s=(b.take j).any (ZhC x)) (by omega) (k:=k) (by omega) (s0:=false) (by simp) (fun j y s hy hs=>by
   have hj:=(gS.1 hy).1
   refine⟨?_,?_⟩
   ·unfold Zas.b1 ZhC
    simp only[decide_eq_true (show (j:Int)<(b.length:Int) by omega),cond_true,ZcA hx,ZcA hy,Option.bind_some]
    cases s<;>rfl
   ·rw[Zgq hy,List.any_append,hs];simp) (fun s hs=>by
   unfold Zas.b1
   simp only[(by simp:decide ((b.length:Int)<(b.length:Int))=false),cond_false])
  have e:=hf.2
  rw[List.take_length]at e
  have:b.any (ZhC x)=true:=List.any_eq_true.2 ⟨x,h x (List.mem_of_getElem? hx),Zja x⟩
  rw[this]at e
  rw[hf.1,e]
 have hw:=ZjQ (l:=a) (body:=Zas.b0 k ⟨a⟩ ⟨b⟩) (p:=fun _=>true) (c:=false) (by omega) (k:=k) (by omega) (fun i x hx=>by
  have hi:=(gS.1 hx).1
  unfold Zas.b0
  simp only[decide_eq_true (show (i:Int)<(a.length:Int) by omega),cond_true,hin i x hx,Option.bind_some,Bool.not_true,cond_false]) (by
  unfold Zas.b0
  simp only[(by simp:decide ((a.length:Int)<(a.length:Int))=false),cond_false])
 rw[hw]
 have:a.all (fun _=>true)=true:=by simp
 rw[this]
 rfl
end Go.Abs
namespace Go.Abs
open Go Go.Proofs
set_option maxRecDepth 20000
set_option linter.unusedVariables false
set_option linter.unusedSimpArgs false
theorem ZoY {α:Type} (key:α→Int×Int) (l:List α) (r:α):(Zil key l r).Perm (l++[r]):=by
 unfold Zil
 have h:=List.take_append_drop (pos key l (key r)) l
 refine List.Perm.trans List.perm_middle ?_
 rw[h]
 exact(List.perm_append_comm (l₁:=[r]) (l₂:=l))
theorem ZoG {α:Type} (key:α→Int×Int):∀ (m out:List α),(bk key out m).Perm (out++m)
 |[],out=>by simp[bk]
 |r::m,out=>by
  have h:=ZoG key m (Zil key out r)
  refine h.trans ?_
  have h2:=(ZoY key out r).append_right m
  simpa using h2
def Pw (d:Disk) (x:Ledger) (firm i:Nat) (W:List Record):Prop:=
 ∃ log a e0 c ep,Jr d x log firm a e0 c ep∧(log.take firm).Perm (W.take firm)∧log.drop firm=W.drop firm∧W.length≤i∧x.Epoch≤(i:Int)+1
theorem Zmx {log W:List Record}{firm:Nat} (hf:firm≤log.length) (h1:(log.take firm).Perm (W.take firm)) (h2:log.drop firm=W.drop firm):log.length=W.length∧log.Perm W:=by
 have a:=h1.length_eq
 have b:=congrArg List.length h2
 rw[List.length_take,List.length_take]at a
 rw[List.length_drop,List.length_drop]at b
 refine⟨by omega,?_⟩
 have h3:(log.take firm++log.drop firm).Perm (W.take firm++W.drop firm):=by rw[h2];exact h1.append_right _
 rw[List.take_append_drop,List.take_append_drop]at h3
 exact h3
theorem Zhr {k:Nat} (hk:1000000<k) {b W:List Record}{n:Nat} (hn:n≤W.length) (hW:W.length≤1000) (hb:b.length=n) (h:∀ x∈b,x∈W.take n):Zc3 k ⟨b⟩ W (n:Int)=some true:=by
 unfold Zc3
 rw[decide_eq_true (show ((b.length:Nat):Int)=(n:Int) by omega),cond_true,decide_eq_false (show ¬ (W.length:Int)<(n:Int) by omega),cond_false]
 unfold s3?
 rw[if_pos (by omega),Option.bind_some,show ((n:Nat):Int).toNat=n from Int.toNat_natCast n,Zlg hk (by omega) (by rw[List.length_take];omega) h]
 rfl
theorem Zl0 {k:Nat}{W:List Record} (hk:W.length<k) (hW:W.length≤1000) (house:Int):ZaJ k W house=some ((cnt Za1 W house:Nat):Int):=by
 have h:=ZeM (l:=W) (body:=ZaJ.b0 k W house) (fun i s=>(s,i)) (fun s x=>if x.At.House=house then s+1 else s) (fun i s=>s=((cnt Za1 (W.take i) house:Nat):Int)) (by omega) (k:=k) hk (s0:=0) (by simp[cnt]) (fun i x s hx hs=>by
  have hi:=(gS.1 hx).1
  have hc:cnt Za1 (W.take i) house≤i:=by
   unfold cnt
   exact Nat.le_trans List.countP_le_length (by rw[List.length_take];omega)
  have hs1:cnt Za1 (W.take (i+1)) house=cnt Za1 (W.take i) house+if x.At.House=house then 1 else 0:=by
   rw[Zgq hx,ZcU,ZcF,Zfe,Nat.zero_add]
   rfl
  unfold ZaJ.b0
  simp only
  rw[decide_eq_true (show (i:Int)<(W.length:Int) by omega),cond_true,ZcA hx,Option.bind_some]
  by_cases hh:x.At.House=house
  ·rw[decide_eq_true hh,cond_true,if_pos hh]
   rw[if_pos hh]at hs1
   rw[hs,Za8 (by omega) (by omega)]
   exact⟨rfl,by rw[hs1];omega⟩
  ·rw[decide_eq_false hh,cond_false,if_neg hh]
   rw[if_neg hh]at hs1
   exact⟨rfl,by rw[hs1];simpa using hs⟩) (fun s hs=>by
  unfold ZaJ.b0
  simp only
  rw[decide_eq_false (Int.lt_irrefl _),cond_false])
 unfold ZaJ
 rw[h.1,h.2,List.take_length]
 rfl
theorem Zn1 {k:Nat}{W:List Record} (hk:W.length<k) (hW:W.length≤12):∃ v,Za6 k W=some v∧v.length=W.length:=by
 have h:=ZeM (l:=W) (body:=Za6.b0 k W) (fun i s=>(i,s)) (fun s x=>s++[(⟨[x.At.House,5,0,0,0],rfl⟩:Vec 5 Int)]) (fun i s=>s.length=i) (by omega) (k:=k) hk (s0:=[]) rfl (fun i x s hx hs=>by
  have hi:=(gS.1 hx).1
  unfold Za6.b0
  simp only
  rw[decide_eq_true (show (i:Int)<(W.length:Int) by omega),cond_true,decide_eq_true (show (i:Int)<12 by omega),cond_true,ZcA hx,Option.bind_some,ZeH (by omega) (by omega)]
  exact⟨rfl,by simp[hs]⟩) (fun s hs=>by
  unfold Za6.b0
  simp only
  rw[decide_eq_false (Int.lt_irrefl _),cond_false])
 unfold Za6
 rw[h.1]
 exact⟨_,rfl,h.2⟩
theorem Ztn {r:Record} (h:ZeV r=true) (hk:¬ r.Kind=0) {n:Int} (hn:0≤n∧n≤9999):ZeV (⟨⟨r.At.House,n⟩,r.Kind,r.Day,r.Known,r.Of,r.Text⟩:Record)=true:=by
 have hw:within n 0 9999=true:=ZgS hn
 unfold ZeV ZeP at h ⊢
 simp only[decide_eq_false hk,Bool.not_false,cond_true,Bool.and_eq_true,hw,and_true]at h ⊢
 obtain⟨⟨h1,h2⟩,h3⟩:=h
 exact⟨h1,h3⟩
theorem Zuy {h:Int} (hh:0≤h∧h≤5) {n:Int} (hn:0≤n∧n≤9999):ZeV (⟨⟨h,n⟩,9,0,0,⟨0,0⟩,(⟨#[119]⟩:ByteArray)⟩:Record)=true:=by
 have hw:within n 0 9999=true:=ZgS hn
 have hw2:within h 0 5=true:=ZgS hh
 have ht:Zlc (⟨#[119]⟩:ByteArray)=true:=by decide +kernel
 have e1:within 9 0 40=true:=by decide
 have e2:within 0 0 100000=true:=by decide
 unfold ZeV ZeP
 simp only[hw,hw2,ht,e1,e2,Bool.and_self,Bool.true_and,decide_eq_false (show ¬ (9:Int)=0 by decide),Bool.not_false,cond_true,decide_true]
theorem ZkH {k:Nat} (hk:1000000<k) {W:List Record} (hW:W.length≤12) (v:Vec 5 Int):
  ∃ x37 l38 x39 x40,Za6 k W=some x37∧ZdM 40 x37 v=some l38∧Zaz k l38 13=some x39∧at? x39 (w64 ((x39.length:Int) - 1))=some x40∧ZeV x40=true∧ZaJ k W x40.At.House=some ((cnt Za1 W x40.At.House:Nat):Int):=by
 obtain⟨u,h1,h2⟩:=Zn1 (k:=k) (W:=W) (by omega) hW
 have h3:ZdM 40 u v=some (u++[v]):=ZeH (by omega) (by omega)
 have h4:Zaz k (u++[v]) 13=some (recs k ((u++[v]).take 13)):=ZjJ hk (u++[v]) (n:=13) (by decide)
 have ht:(u++[v]).take 13=u++[v]:=List.take_of_length_le (by simp;omega)
 rw[ht]at h4
 obtain⟨g1,g2,_⟩:=ZkS hk (u++[v]) [] Good.nil (by simp;omega)
 have g2':(recs k (u++[v])).length=W.length+1:=by
  have:(recs k (u++[v])).length=_:=g2
  rw[this];simp[h2]
 obtain⟨x,hx⟩:∃ x,(recs k (u++[v]))[W.length]?=some x:=⟨_,gG (by omega)⟩
 refine⟨u,u++[v],_,x,h1,h3,h4,?_,g1.ok x (List.mem_of_getElem? hx),Zl0 (by omega) (by omega) _⟩
 rw[g2',show w64 (((W.length+1:Nat):Int) - 1)=((W.length:Nat):Int) by rw[Za8 (by omega) (by omega)];omega]
 exact ZcA hx
section
variable {k:Nat}{d:Disk}{x:Ledger}{firm i:Nat}{W:List Record}
theorem Pw.sync (h:Pw d x firm i W) (hk:1000000<k):∃ d',Zel k d=some d'∧Pw d' x W.length (i+1) W:=by
 obtain⟨log,a,e0,c,ep,J,h1,h2,h3,h4⟩:=h
 obtain⟨p1,p2⟩:=Zmx J.firmle h1 h2
 refine⟨_,ZlV hk J.db.ok,log,a,e0,c,ep,?_,?_,?_,by omega,by omega⟩
 ·rw[←p1];exact J.sync
 ·rw[List.take_length,←p1,List.take_length];exact p2
 ·rw[List.drop_length,←p1,List.drop_length]
theorem Pw.pack (h:Pw d x firm i W) (hi:i≤12) (hk:1000000<k):∃ p1 p2 p3 p4 d' x',ZaK k d x=some ([p1,p2,p3,p4,d'],x',0)∧Zc3 k x'.Book W ((W.length:Nat):Int)=some true∧Pw d' x' W.length (i+1) W:=by
 obtain⟨log,a,e0,c,ep,J,h1,h2,h3,h4⟩:=h
 obtain⟨p1,p2⟩:=Zmx J.firmle h1 h2
 obtain⟨q1,q2,q3,q4,d',x',k1,k2,k3,k4⟩:=J.pack (by omega) hk
 have hbi:=J.good.bi
 have hbl:=hbi.len
 have hp:=ZoG Za1 log []
 simp only[List.nil_append]at hp
 refine⟨q1,q2,q3,q4,d',x',k1,?_,_,_,_,_,_,by rw[←p1];exact k4,?_,?_,by omega,by omega⟩
 ·rw[k3,J.book]
  refine Zhr hk (Nat.le_refl _) (by omega) (by omega) (fun r hr=>?_)
  rw[List.take_length]
  exact p2.mem_iff.1 ((hbi.mem r).1 hr)
 ·rw[List.take_length,List.take_of_length_le (by omega)]
  exact hp.trans p2
 ·rw[List.drop_length,List.drop_of_length_le (by omega)]
theorem Pw.fail (h:Pw d x firm i W) (hi:i≤12) (hk:1000000<k) (picks:List Int) (hp:picks.length≤4611686018427387904):
  ∃ d1 d' x' m,Zak k d picks=some d1∧Zcq k d1=some (d',x',0)∧x'.Book.Records.length=m∧firm≤m∧m≤W.length∧Zc3 k x'.Book W (m:Int)=some true∧Pw d' x' m (i+1) (W.take m):=by
 obtain⟨log,a,e0,c,ep,J,h1,h2,h3,h4⟩:=h
 obtain⟨p1,p2⟩:=Zmx J.firmle h1 h2
 obtain⟨p,c1,c2,c3⟩:=Zq8 hk J.db picks hp J.waits
 obtain⟨m,l',m1,m2,m3,m4,J'⟩:=J.fail (by omega) c2 c3 hk
 have hbi:=J'.good.bi
 have hbl:=hbi.len
 have ZbS:(log.take m).length=m:=by rw[List.length_take];omega
 have hpm:(log.take m).Perm (W.take m):=by
  have e1:log.take m=log.take firm++(log.drop firm).take (m - firm):=by
   rw[←List.take_add,show firm+(m - firm)=m by omega]
  have e2:W.take m=W.take firm++(W.drop firm).take (m - firm):=by
   rw[←List.take_add,show firm+(m - firm)=m by omega]
  rw[e1,e2,h2]
  exact h1.append_right _
 refine⟨⟨p,[]⟩,⟨p,[]⟩,l',m,c1,m3,by rw[J'.book];simp only;omega,m1,by omega,?_,log.take m,a,e0,c,ep,J',?_,?_,by rw[List.length_take];omega,by omega⟩
 ·rw[J'.book]
  refine Zhr hk (by omega) (by omega) (by omega) (fun r hr=>?_)
  exact hpm.mem_iff.1 ((hbi.mem r).1 hr)
 ·rw[List.take_take,List.take_take,Nat.min_self]
  exact hpm
 ·rw[List.drop_of_length_le (by omega),List.drop_of_length_le (by rw[List.length_take];omega)]
theorem Pw.append (h:Pw d x firm i W) (hi:i≤12) (hk:1000000<k) {r:Record} (hr:ZeV r=true) (hno:r.At.No=((cnt Za1 W r.At.House:Nat):Int)):
  ∃ d' x',ZbB k d x r=some (d',x',0)∧Pw d' x' firm (i+1) (W++[r]):=by
 obtain⟨log,a,e0,c,ep,J,h1,h2,h3,h4⟩:=h
 obtain⟨p1,p2⟩:=Zmx J.firmle h1 h2
 have hf:=J.firmle
 have hc:(Za1 r).2=((cnt Za1 log (Za1 r).1:Nat):Int):=by
  have:cnt Za1 log r.At.House=cnt Za1 W r.At.House:=p2.countP_eq _
  show r.At.No=_
  rw[hno,←this];rfl
 obtain⟨d',l',a1,a2,J'⟩:=J.append hr hc (by omega) hk
 refine⟨d',l',a1,_,_,_,_,_,J',?_,?_,by simp;omega,by omega⟩
 ·rw[List.take_append_of_le_length hf,List.take_append_of_le_length (by omega)]
  exact h1
 ·rw[List.drop_append_of_le_length hf,List.drop_append_of_le_length (by omega),h2]
end
theorem Zn0 {k:Nat} (hk:1000000<k) {l0:List R09_Deed}{picks1:List Int} (hp:∀ y∈l0,y.Picks.length≤4611686018427387904) (hq:picks1.length≤4611686018427387904) {d:Disk}{x:Ledger}{firm i:Nat}{W:List Record} (h:Pw d x firm i W)
  (h1:i≤l0.length) (h2:i≤12):∃ d' x' firm' W',Zaj.b0 k l0 picks1 (d,x,(firm:Int),(i:Int),W)=some (.next (d',x',((firm':Nat):Int),((i+1:Nat):Int),W'))∧Pw d' x' firm' (i+1) W':=by
 have hw:w64 ((i:Int)+1)=((i+1:Nat):Int):=by rw[Za8 (by omega) (by omega)];omega
 have hWl:W.length≤i:=by obtain⟨_,_,_,_,_,_,_,_,h3,_⟩:=h;exact h3
 obtain⟨y,hy1,hy2,hy3⟩:∃ y,Zaj.j4 k l0 picks1 (i:Int)=some (.brk y)∧y.Picks.length≤4611686018427387904∧(i=12→y.Kind=7):=by
  unfold Zaj.j4
  by_cases c1:(i:Int)<(l0.length:Int)
  ·rw[decide_eq_true c1,cond_true]
   by_cases c2:(i:Int)<12
   ·rw[decide_eq_true c2,cond_true]
    obtain⟨y,hy⟩:∃ y,l0[i]?=some y:=⟨_,gG (by omega)⟩
    rw[ZcA hy,Option.bind_some]
    exact⟨y,rfl,hp y (List.mem_of_getElem? hy),fun e=>by omega⟩
   ·rw[decide_eq_false c2,cond_false]
    exact⟨_,rfl,hq,fun _=>rfl⟩
  ·rw[decide_eq_false c1,cond_false]
   exact⟨_,rfl,hq,fun _=>rfl⟩
 unfold Zaj.b0
 simp only
 rw[decide_eq_true (show (i:Int)≤(l0.length:Int) by omega),cond_true,decide_eq_true (show (i:Int)≤12 by omega),cond_true,hy1,Option.bind_some]
 simp only
 rw[ZdH k y.Kind (m:=8) (by decide) (by decide),Option.bind_some,hw]
 have B:=ZcW y.Kind (m:=8) (by decide)
 by_cases c5:y.Kind % 8=5
 ·rw[decide_eq_true c5,cond_true]
  obtain⟨d',e1,e2⟩:=h.sync hk
  rw[e1,Option.bind_some]
  exact⟨d',x,W.length,W,rfl,e2⟩
 rw[decide_eq_false c5,cond_false]
 by_cases c6:y.Kind % 8=6
 ·rw[decide_eq_true c6,cond_true]
  obtain⟨p1,p2,p3,p4,d',x',e1,e2,e3⟩:=h.pack h2 hk
  rw[e1,Option.bind_some]
  simp only
  rw[decide_true,cond_true,decide_eq_true (show (([p1,p2,p3,p4,d']:List Disk).length:Int)=5 from rfl),cond_true,e2,Option.bind_some,Bool.not_true,cond_false]
  have ha:at? [p1,p2,p3,p4,d'] 4=some d':=rfl
  rw[ha,Option.bind_some]
  exact⟨d',x',W.length,W,rfl,e3⟩
 rw[decide_eq_false c6,cond_false]
 by_cases c7:y.Kind % 8=7
 ·rw[decide_eq_true c7,cond_true]
  obtain⟨d1,d',x',m,e1,e2,e3,e4,e5,e6,e7⟩:=h.fail h2 hk y.Picks hy2
  rw[e1,Option.bind_some,e2,Option.bind_some]
  simp only
  rw[decide_true,Bool.not_true,cond_false,e3,decide_eq_false (show ¬ (m:Int)<(firm:Int) by omega),Bool.not_false,cond_true,decide_eq_false (show ¬ ((W.length:Nat):Int)<(m:Int) by omega),Bool.not_false,cond_true,e6,Option.bind_some,Bool.not_true,cond_false]
  unfold hs?
  rw[if_pos (by omega),Option.bind_some,Zto (by omega) (by omega),Option.bind_some]
  exact⟨d',x',m,W.take m,rfl,e7⟩
 rw[decide_eq_false c7,cond_false]
 have hi12:i<12:=by
  have:¬ i=12:=fun e=>c7 (by rw[hy3 e];rfl)
  omega
 obtain⟨x37,l38,x39,x40,g1,g2,g3,g4,g5,g6⟩:=ZkH hk (W:=W) (by omega) y.Record
 rw[g1,Option.bind_some,g2,Option.bind_some,g3,Option.bind_some,g4,Option.bind_some,g6,Option.bind_some]
 have hcl:cnt Za1 W x40.At.House≤W.length:=by unfold cnt;exact List.countP_le_length
 by_cases c0:x40.Kind=0
 ·rw[decide_eq_true c0,cond_true]
  obtain⟨d',x',e1,e2⟩:=h.append (r:=⟨⟨x40.At.House,((cnt Za1 W x40.At.House:Nat):Int)⟩,9,0,0,⟨0,0⟩,(⟨#[119]⟩:ByteArray)⟩) h2 hk (Zuy (Zd7 g5) (by omega)) rfl
  rw[e1,Option.bind_some]
  simp only
  rw[decide_true,Bool.not_true,cond_false,ZeH (by omega) (by omega),Option.bind_some]
  exact⟨d',x',firm,_,rfl,e2⟩
 ·rw[decide_eq_false c0,cond_false]
  obtain⟨d',x',e1,e2⟩:=h.append (r:=⟨⟨x40.At.House,((cnt Za1 W x40.At.House:Nat):Int)⟩,x40.Kind,x40.Day,x40.Known,x40.Of,x40.Text⟩) h2 hk (Ztn g5 c0 (by omega)) rfl
  rw[e1,Option.bind_some]
  simp only
  rw[decide_true,Bool.not_true,cond_false,ZeH (by omega) (by omega),Option.bind_some]
  exact⟨d',x',firm,_,rfl,e2⟩
theorem Znz {k:Nat} (hk:1000000<k) {l0:List R09_Deed}{picks1:List Int} (hp:∀ y∈l0,y.Picks.length≤4611686018427387904) (hq:picks1.length≤4611686018427387904):∀ (f m i firm:Nat) (d:Disk) (x:Ledger) (W:List Record),13 - i≤f→f<m→i≤13→i≤l0.length+1→Pw d x firm i W→
  whl (Zaj.b0 k l0 picks1) m (d,x,(firm:Int),(i:Int),W)=some (.brk ()):=by
 intro f
 induction f with
 |zero=>
  intro m i firm d x W h1 h2 h3 h4 h
  obtain⟨m,rfl⟩:∃ q,m=q+1:=⟨m - 1,by omega⟩
  have hb:Zaj.b0 k l0 picks1 (d,x,(firm:Int),(i:Int),W)=some (.brk ()):=by
   unfold Zaj.b0
   simp only
   rw[decide_eq_false (show ¬ (i:Int)≤12 by omega)]
   cases decide ((i:Int)≤(l0.length:Int))<;>rfl
  rw[whl,hb]
 |succ f ih=>
  intro m i firm d x W h1 h2 h3 h4 h
  obtain⟨m,rfl⟩:∃ q,m=q+1:=⟨m - 1,by omega⟩
  by_cases c1:i≤l0.length
  ·by_cases c2:i≤12
   ·obtain⟨d',x',firm',W',e1,e2⟩:=Zn0 hk hp hq h c1 c2
    rw[whl,e1]
    exact ih m (i+1) firm' d' x' W' (by omega) (by omega) (by omega) (by omega) e2
   ·have hb:Zaj.b0 k l0 picks1 (d,x,(firm:Int),(i:Int),W)=some (.brk ()):=by
     unfold Zaj.b0
     simp only
     rw[decide_eq_false (show ¬ (i:Int)≤12 by omega)]
     cases decide ((i:Int)≤(l0.length:Int))<;>rfl
    rw[whl,hb]
  ·have hb:Zaj.b0 k l0 picks1 (d,x,(firm:Int),(i:Int),W)=some (.brk ()):=by
    unfold Zaj.b0
    simp only
    rw[decide_eq_false (show ¬ (i:Int)≤(l0.length:Int) by omega),cond_false]
   rw[whl,hb]
theorem ZhT (l0:List R09_Deed) (picks1:List Int) (hp:∀ y∈l0,y.Picks.length≤4611686018427387904) (hq:picks1.length≤4611686018427387904):Zaj 18446744073709551616 l0 picks1=some true:=by
 unfold Zaj
 rw[Zpr,Option.bind_some,Zpc,Option.bind_some]
 have h0:Pw ⟨ZlH,[]⟩ ⟨⟨[]⟩,0,1,1⟩ 0 0 []:=⟨[],0,1,0,_,Jr.new,by simp,by simp,by simp,by simp⟩
 have:=Znz (k:=18446744073709551616) (by decide) hp hq 13 18446744073709551616 0 0 _ _ _ (by omega) (by decide) (by omega) (by omega) h0
 simp only[Int.natCast_zero]at this
 simp only
 rw[this]
 rfl
end Go.Abs
namespace Go.Proofs.Ytpgccpdlilnakaa.bookPower
open Go.Abs
theorem plain (a0:(List Go.Abs.R09_Deed)) (a1:(List Int)):(fun l=>l.length≤Go.maxLen∧l.length*72≤qB∧∀ a∈l,Go.Abs.R09_Deed.q a) a0→(fun l=>l.length≤Go.maxLen∧l.length*8≤qB∧∀ a∈l,Zj8 a) a1→∃ k,Zaj k a0 a1=some true:=by
 intro q0 q1;exact⟨_,ZhT a0 a1 (fun y hy=>by have h:=(q0.2.2 y hy).2.2;have h2:=h.2.1;have:=Zux;omega) (by have h2:=q1.2.1;have:=Zux;omega)⟩
end Go.Proofs.Ytpgccpdlilnakaa.bookPower
namespace Go.Proofs.Ytpgccpdlilnakaa.bookPower
open Go.ChangeShapes Go.WideShapes Go.ChangeAt Go.RowKit Go.Abs
set_option maxRecDepth 100000
theorem own:ownKnob Try.prog.godebug=none:=by kernel_rfl
theorem contract (H:Type) (enc:TypeId×Value→H) (W:World) (base:Nat) (args:Array Value) (ds gs:List (DataW H)) (before:List MemPlace)
  (hval:∀ (j:Nat) t v,Try.f9.params[j]?=some t→args[j]?=some v→Value.okWide Try.prog W .any base t v)
  (hW:DataW.Whole enc Try.prog Try.f9.params.toList Rows.bookPowerSpec.vars false W args.toList ds gs before) (hsz0:(DataW.weightsEach Try.prog (Try.f9.params.toList++Rows.bookPowerSpec.plain.varTypes Try.prog) (ds++gs)).all (·≤reachBytes)=true):
  Calls Try.prog 9 args W fun e W'=>∃ v,e=.returned v∧Rows.bookPowerSpec.post enc Try.prog Try.f9 false true false false W args v W':=by
 have hW':=hW
 obtain⟨p,q,hA0,hV,rfl,hfz,hnd⟩:=hW
 have hA:DataW.TrodAll enc Try.prog W 0 (fun _=>true) true Try.f9.params.toList args.toList ds p:=hA0
 rw[Try.params9]at hA hval
 obtain⟨v0,vs0,d0,ds0,p0,q0,hargs,rfl,rfl,h0,r0⟩:=trodAll_cons hA
 obtain⟨v1,vs1,d1,ds1,p1,q1,rfl,rfl,rfl,h1,r1⟩:=trodAll_cons r0
 obtain⟨rfl,rfl,rfl⟩:=trodAll_nil r1
 have hsz:∀ (j:Nat) t d,Try.f9.params.toList[j]?=some t→[d0,d1][j]?=some d→∀ n∈d.weights Try.prog t,n≤reachBytes:=Zn6 (by rw[Try.params9];rfl) hsz0
 rw[Try.params9]at hsz
 obtain rfl:args=#[v0,v1]:=by cases args;simp_all
 obtain⟨a0,Q0,V0⟩:=ZoF ZqW (by have h:=hval 0 33 v0 rfl rfl;unfold Value.okWide at h;rw[Try.underlying33]at h;unfold Cell.okWide Cell.ok at h;rw[Try.underlying33]at h;cases v0<;>first|rfl|(simp at h;done)) (fun l=>AV.sl 7 (List.map Go.Abs.R09_Deed.c l)) (fun _=>rfl) h0 (hsz 0 33 d0 rfl rfl)
 obtain⟨a1,Q1,V1⟩:=ZoF Zm0 (by have h:=hval 1 63 v1 rfl rfl;unfold Value.okWide at h;rw[Try.underlying63]at h;unfold Cell.okWide Cell.ok at h;rw[Try.underlying63]at h;cases v1<;>first|rfl|(simp at h;done)) (fun l=>AV.sl 1 (List.map eI l)) (fun _=>rfl) h1 (hsz 1 63 d1 rfl rfl)
 obtain⟨k,hk⟩:=plain a0 a1 Q0 Q1
 have hv:VRs (ZfG W) [] [.sl 7 (List.map Go.Abs.R09_Deed.c a0),.sl 1 (List.map eI a1)] [v0,v1]:=⟨rfl,fun i x v h1 h2=>by
  match i with
  |0=>cases h1;cases h2;exact V0
  |1=>cases h1;cases h2;exact V1
  |i+2=>simp at h1⟩
 refine Calls.mono ((Zh5 k a0 a1 true hk).2 (ZfG W) W _ (fun _ _ _ h=>h) hv) ?_
 rintro e W1 ⟨v,y,fm1,rfl,rfl,_,hvr,_,hB⟩
 cases hvr
 exact⟨_,rfl,ZqI (t:=4) (by kernel_rfl) (by kernel_rfl) (by kernel_rfl) hW' rfl hB (by rw[Try.params9];decide +kernel) rfl Try.underlying4 (by obtain⟨rfl,_⟩:=trodVars_none hV;rfl)⟩
theorem lifted (os:Os) (started:os.Started) (H:Type) (enc:TypeId×Value→H):
  ReturnsInHanded {} Try.checked os 9 .any (Rows.bookPowerSpec.pre6 enc Try.prog Try.f9 Rows.bookPowerRow.domain false) (Rows.bookPowerSpec.post enc Try.prog Try.f9 false true false false):=by
 refine returnsInHanded_of_change_sized (C:=Try.checked) own started (by kernel_rfl) Try.func9
  (ChangeSpec.witness6 (enc:=enc) (C:=Try.checked) false ⟨#[],#[.slice none 0 0,.slice none 0 0],[]⟩ 8 (by kernel_rfl) (by kernel_rfl) (by kernel_rfl) (by kernel_rfl)) ?_
 intro W base args ds gs before hval0 hW hcnd hsz _
 exact contract H enc W base args ds gs before hval0 hW hsz
theorem over:Rows.bookPowerRow.holds Try.pinned (OpenSpec.ofChange Rows.bookPowerSpec):=
 OpenClaim.holds_of_wide 9 Try.f9 rfl rfl rfl rfl rfl rfl rfl ⟨rfl,rfl,rfl,rfl,rfl⟩ rfl rfl rfl rfl rfl (by kernel_rfl) Try.func9 (by kernel_rfl)
  (of_decide_eq_true (by kernel_rfl)) (by unfold Func.isWrapper;first|(rw[if_pos (by decide +kernel)];kernel_rfl)|(rw[if_neg (by decide +kernel)];exact⟨rfl,rfl⟩))
  (fun os started H enc _=>lifted os started H enc)
theorem proved:Rows.BookPowerSaid:=over
end Go.Proofs.Ytpgccpdlilnakaa.bookPower
