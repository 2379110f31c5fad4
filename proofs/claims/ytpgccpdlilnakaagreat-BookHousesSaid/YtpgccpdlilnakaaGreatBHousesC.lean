/-
  Part 3 of the proof: a machine over named blocks, what each function computes, and what follows. No condition.
-/
import Derived.Defers
import Derived.Recover
import Derived.RangeFuncNested
import Derived.Test.YtpgccpdlilnakaaGreatBHousesB
set_option linter.unusedVariables false
set_option linter.unusedSimpArgs false
set_option linter.all false
namespace Go.Abs
open Go
structure Aa (n:Nat) (α:Type) where
 l:List α
 h:l.length=n
def Aa.c {n:Nat}{α:Type} (E:α->List AV) (v:Aa n α):List AV:=(v.l.map E).flatten
theorem Aa.ext {n:Nat}{α:Type}{a b:Aa n α} (h:a.l=b.l):a=b:=by
 cases a;cases b;cases h;rfl
theorem abS {α:Type}{E:α->List AV}{z:Nat} (h:∀ x,(E x).length=z):∀ l:List α,(l.map E).flatten.length=l.length*z
 |[]=>by simp
 |x::l=>by rw[List.map_cons,CG,A1,h,abS h l,AA,Nat.succ_mul];omega
theorem Aa.len {n:Nat}{α:Type}{E:α->List AV}{z:Nat} (h:∀ x,(E x).length=z) (v:Aa n α):(v.c E).length=n*z:=by
 unfold Aa.c;rw[abS h,v.h]
def Aa.at? {n:Nat}{α:Type} (v:Aa n α) (i:Int):Option α:=if 0<=i/\i<n then v.l[i.toNat]? else none
def Aa.set {n:Nat}{α:Type} (v:Aa n α) (i:Int) (x:α):Aa n α:=⟨v.l.set i.toNat x,by simp[v.h]⟩
def Aa.rep (n:Nat) {α:Type} (x:α):Aa n α:=⟨List.replicate n x,by simp⟩
theorem aq {n:Nat}{α:Type}{v:Aa n α}{i:Int}{x:α} (h:v.at? i=some x):jt i n=some i.toNat:=by
 unfold Aa.at? at h
 split at h
 ·rename_i hc;unfold jt;rw[if_pos hc]
 ·cases h
theorem akr {n:Nat}{α:Type}{v:Aa n α}{i:Int}{x:α} (h:v.at? i=some x):v.l[i.toNat]?=some x:=by
 unfold Aa.at? at h
 split at h
 ·exact h
 ·cases h
def Sub (cs:List AV) (o:Nat) (c:List AV):Prop:=∃ a b,cs=a++(c++b)/\a.length=o
theorem Sub.self (c:List AV):Sub c 0 c:=⟨[],[],by simp,rfl⟩
theorem Sub.trans {cs c c':List AV}{o o':Nat} (h:Sub cs o c) (k:Sub c o' c'):Sub cs (o+o') c':=by
 obtain⟨a,b,rfl,rfl⟩:=h
 obtain⟨a',b',rfl,rfl⟩:=k
 exact⟨a++a',b'++b,by simp,by simp⟩
theorem Sub.cons (x:AV) {cs c:List AV}{o:Nat} (h:Sub cs o c):Sub (x::cs) (o+1) c:=by
 obtain⟨a,b,rfl,rfl⟩:=h
 exact⟨x::a,b,by simp,by simp⟩
theorem Sub.app (r:List AV) {cs c:List AV}{o:Nat} (h:Sub cs o c):Sub (cs++r) o c:=by
 obtain⟨a,b,rfl,rfl⟩:=h
 exact⟨a,b++r,by simp,rfl⟩
theorem Sub.bound {cs c:List AV}{o z:Nat} (h:Sub cs o c) (hz:c.length=z):o+z<=cs.length:=by
 obtain⟨a,b,rfl,rfl⟩:=h
 simp;omega
theorem Sub.get {cs c:List AV}{o z:Nat} (h:Sub cs o c) (hz:c.length=z):(cs.drop o).take z=c:=by
 obtain⟨a,b,rfl,rfl⟩:=h
 subst hz
 simp
theorem Sub.idx {n:Nat}{α:Type}{E:α->List AV}{z:Nat} (hE:∀ x,(E x).length=z) {v:Aa n α}{i:Int}{x:α} (h:v.at? i=some x):Sub (v.c E) (i.toNat*z) (E x):=by
 have hg:=akr h
 obtain⟨af,hx⟩:=gS.1 hg
 refine⟨((v.l.take i.toNat).map E).flatten,((v.l.drop (i.toNat+1)).map E).flatten,?_,?_⟩
 ·unfold Aa.c
  conv=>lhs;rw[<-CY i.toNat v.l,List.drop_eq_getElem_cons af,hx]
  simp
 ·rw[abS hE,A8,Nat.min_eq_left (by omega)]
theorem aqC {cs c c':List AV}{o o':Nat} (h:Sub cs o c) (k:Sub c o' c') {new:List AV} (hl:new.length=c'.length):overwrite cs (o+o') new=overwrite cs o (overwrite c o' new):=by
 obtain⟨a,b,rfl,rfl⟩:=h
 obtain⟨a',b',rfl,rfl⟩:=k
 have h1:overwrite (a++((a'++(c'++b'))++b)) (a.length+a'.length) new=a++(a'++(new++(b'++b))):=by
  unfold overwrite
  rw[hl]
  have e1:(a++((a'++(c'++b'))++b))=(a++a')++(c'++(b'++b)):=by simp
  rw[e1,DU (by simp),<-List.drop_drop,List.drop_left' (by simp),List.drop_left' rfl]
  simp
 have h2:overwrite (a'++(c'++b')) a'.length new=a'++(new++b'):=by
  unfold overwrite
  rw[hl,DU rfl,<-List.drop_drop,List.drop_left' rfl,List.drop_left' rfl]
 rw[h1,h2]
 unfold overwrite
 rw[DU rfl,<-List.drop_drop,List.drop_left' rfl,List.drop_left' (by simp[hl])]
 simp
theorem aqA {n:Nat}{α:Type}{E:α->List AV}{z:Nat} (hE:∀ x,(E x).length=z) {v:Aa n α}{i:Int}{x:α} (h:v.at? i=some x) (y:α):overwrite (v.c E) (i.toNat*z) (E y)=(v.set i y).c E:=by
 have hg:=akr h
 obtain⟨af,hx⟩:=gS.1 hg
 have e1:v.c E=((v.l.take i.toNat).map E).flatten++(E x++((v.l.drop (i.toNat+1)).map E).flatten):=by
  unfold Aa.c
  conv=>lhs;rw[<-CY i.toNat v.l,List.drop_eq_getElem_cons af,hx]
  simp
 have e2:(v.set i y).c E=((v.l.take i.toNat).map E).flatten++(E y++((v.l.drop (i.toNat+1)).map E).flatten):=by
  unfold Aa.c Aa.set
  simp only
  rw[List.set_eq_take_append_cons_drop,if_pos af]
  simp
 have hl:(((v.l.take i.toNat).map E).flatten).length=i.toNat*z:=by rw[abS hE,A8,Nat.min_eq_left (by omega)]
 rw[e1,e2]
 unfold overwrite
 rw[<-hl,DU rfl,<-List.drop_drop,List.drop_left' rfl,List.drop_left' (by rw[hE,hE])]
theorem aqB {c new:List AV} (h:new.length=c.length):overwrite c 0 new=new:=by
 unfold overwrite;rw[CA,h,List.drop_length];simp
theorem aqz (x:AV) (cs new:List AV) (o:Nat):overwrite (x::cs) (o+1) new=x::overwrite cs o new:=by
 unfold overwrite;rw[show o+1+new.length=(o+new.length)+1 by omega];simp
theorem aqy {cs new:List AV}{o:Nat} (r:List AV) (h:o+new.length<=cs.length):overwrite (cs++r) o new=overwrite cs o new++r:=by
 unfold overwrite
 rw[Dd (by omega),DI h];simp
structure VK {α:Type} (z:Nat) (E:α->List AV):Prop where
 len:∀ x,(E x).length=z
 ou:∀ x,Ch (E x)
theorem akg (d:Nat):∀ a b x y:List AV,AV.gq d a=some x->AV.gq d b=some y->AV.gq d (a++b)=some (x++y)
 |[],b,x,y,h,k=>by simp only[AV.gq,oE]at h;subst h;simpa using k
 |u::a,b,x,y,h,k=>by
  simp only[AV.gq]at h
  split at h
  ·rename_i p q hp hq
   obtain rfl:=oi h
   simp only[Bz,AV.gq,hp,akg d a b q y hq k]
  ·cases h
theorem ahP (G:AW):∀ a b x y:List AV,AV.aQ G a=some x->AV.aQ G b=some y->AV.aQ G (a++b)=some (x++y)
 |[],b,x,y,h,k=>by simp only[AV.aQ,oE]at h;subst h;simpa using k
 |u::a,b,x,y,h,k=>by
  simp only[AV.aQ]at h
  split at h
  ·rename_i p q hp hq
   obtain rfl:=oi h
   simp only[Bz,AV.aQ,hp,ahP G a b q y hq k]
  ·cases h
theorem agy (G:AW) (F:Nat->Nat->Option (List AV)):∀ a b x y:List AV,AV.dk G F a=some x->AV.dk G F b=some y->AV.dk G F (a++b)=some (x++y)
 |[],b,x,y,h,k=>by simp only[AV.dk,oE]at h;subst h;simpa using k
 |u::a,b,x,y,h,k=>by
  simp only[AV.dk]at h
  split at h
  ·rename_i p q hp hq
   obtain rfl:=oi h
   simp only[Bz,AV.dk,hp,agy G F a b q y hq k]
  ·cases h
theorem ajF (ks:List Nat):∀ a b x y:List AV,AV.dR ks a=some x->AV.dR ks b=some y->AV.dR ks (a++b)=some (x++y)
 |[],b,x,y,h,k=>by simp only[AV.dR,oE]at h;subst h;simpa using k
 |u::a,b,x,y,h,k=>by
  simp only[AV.dR]at h
  split at h
  ·rename_i p q hp hq
   obtain rfl:=oi h
   simp only[Bz,AV.dR,hp,ajF ks a b q y hq k]
  ·cases h
theorem aeA (k:Nat):∀ a b:List AV,AV.iS k (a++b)=AV.iS k a++AV.iS k b
 |[],b=>rfl
 |x::a,b=>by simp only[Bz,AV.iS,aeA k a b]
theorem aff:∀ a b:List AV,AV.aT (a++b)=AV.aT a++AV.aT b
 |[],b=>rfl
 |x::a,b=>by simp only[Bz,AV.aT,aff a b,Cy]
theorem Ch.append {a b:List AV} (h:Ch a) (k:Ch b):Ch (a++b):=
 ⟨fun d=>by rw[afl,h.sh,k.sh],fun G=>ahP G _ _ _ _ (h.ak G) (k.ak G),fun G F=>agy G F _ _ _ _ (h.br G F) (k.br G F),by rw[aff,h.refs,k.refs];rfl,
  fun n=>by rw[aeA,h.imp,k.imp],fun ks=>ajF ks _ _ _ _ (h.aV ks) (k.aV ks),fun d=>akg d _ _ _ _ (h.un d) (k.un d)⟩
theorem Ch.nil:Ch []:=⟨fun _=>rfl,fun _=>rfl,fun _ _=>rfl,rfl,fun _=>rfl,fun _=>rfl,fun _=>rfl⟩
theorem Ch.flat {α:Type}{E:α->List AV} (h:∀ x,Ch (E x)):∀ l:List α,Ch (l.map E).flatten
 |[]=>Ch.nil
 |x::l=>by rw[List.map_cons,CG];exact(h x).append (Ch.flat h l)
theorem VK.vec {α:Type}{z:Nat}{E:α->List AV} (h:VK z E) (n:Nat):VK (n*z) (Aa.c (n:=n) E):=
 ⟨fun v=>v.len h.len,fun v=>Ch.flat h.ou v.l⟩
theorem iu:VK 1 eI:=⟨fun _=>rfl,fun _=>⟨fun _=>rfl,fun _=>rfl,fun _ _=>rfl,rfl,fun _=>rfl,fun _=>rfl,fun _=>rfl⟩⟩
theorem kf:VK 1 ae:=⟨fun _=>rfl,fun _=>⟨fun _=>rfl,fun _=>rfl,fun _ _=>rfl,rfl,fun _=>rfl,fun _=>rfl,fun _=>rfl⟩⟩
theorem ahb:∀ (z a b z' a' b':List AV),z.length=a.length->a.length=b.length->bL (z++z') (a++a') (b++b')=(match bL z a b,bL z' a' b' with
  |some p,some q=>some (p&&q)
  |_,_=>none)
 |[],[],[],z',a',b',_,_=>by
  simp only[Ce,bL]
  cases bL z' a' b'<;>simp
 |x::z,p::a,q::b,z',a',b',h1,h2=>by
  simp only[Bz,bL]
  rw[ahb z a b z' a' b' (by simpa using h1) (by simpa using h2)]
  cases jT x p q<;>cases bL z a b<;>cases bL z' a' b'<;>simp[Bool.and_assoc]
 |[],_::_,_,_,_,_,h,_=>by simp at h
 |_::_,[],_,_,_,_,h,_=>by simp at h
 |[],[],_::_,_,_,_,_,h=>by simp at h
 |_::_,_::_,[],_,_,_,_,h=>by simp at h
theorem ahc {α:Type}{E:α->List AV}{z:Nat}{zc:List AV} (hE:∀ x,(E x).length=z) (hz:zc.length=z) (eq:α->α->Bool) (h:∀ x y,bL zc (E x) (E y)=some (eq x y)):
  ∀ (n:Nat) (a b:List α),a.length=n->b.length=n->bL (List.replicate n zc).flatten (a.map E).flatten (b.map E).flatten=some (a.zip b |>.all fun p=>eq p.1 p.2)
 |0,[],[],_,_=>by simp[bL]
 |n+1,x::a,y::b,h1,h2=>by
  rw[List.replicate_succ,List.map_cons,List.map_cons,CG,CG,CG,ahb _ _ _ _ _ _ (by rw[hz,hE]) (by rw[hE,hE]),h x y,
   ahc hE hz eq h n a b (by simpa using h1) (by simpa using h2)]
  simp
structure Ao {α:Type} (cs:List AV) (o:Nat) (E:α->List AV) (x:α) (g:α->List AV):Prop where
 sub:Sub cs o (E x)
 ow:∀ y,overwrite cs o (E y)=g y
theorem Ao.self {α:Type}{E:α->List AV}{z:Nat} (hE:∀ x,(E x).length=z) (x:α):Ao (E x) 0 E x E:=
 ⟨Sub.self _,fun y=>aqB (by rw[hE,hE])⟩
theorem Ao.cons {α:Type}{E:α->List AV}{cs:List AV}{o:Nat}{x:α}{g:α->List AV} (a:AV) (h:Ao cs o E x g):Ao (a::cs) (o+1) E x (fun y=>a::g y):=
 ⟨h.sub.cons a,fun y=>by rw[aqz,h.ow]⟩
theorem Ao.app {α:Type}{E:α->List AV}{z:Nat} (hE:∀ x,(E x).length=z) {cs:List AV}{o:Nat}{x:α}{g:α->List AV} (r:List AV) (h:Ao cs o E x g):Ao (cs++r) o E x (fun y=>g y++r):=
 ⟨h.sub.app r,fun y=>by rw[aqy r (by have:=h.sub.bound (hE x);rw[hE];exact this),h.ow]⟩
theorem Ao.skip {α:Type}{E:α->List AV}{cs:List AV}{o:Nat}{x:α}{g:α->List AV} (h:Ao cs o E x g):∀ p:List AV,Ao (p++cs) (p.length+o) E x (fun y=>p++g y)
 |[]=>by simpa using h
 |a::p=>by
  have:=(Ao.skip h p).cons a
  rw[AA,show p.length+1+o=p.length+o+1 by omega]
  exact this
theorem Ao.idx {n:Nat}{α:Type}{E:α->List AV}{z:Nat} (hE:∀ x,(E x).length=z) {v:Aa n α}{i:Int}{x:α} (h:v.at? i=some x):Ao (v.c E) (i.toNat*z) E x (fun y=>(v.set i y).c E):=
 ⟨Sub.idx hE h,fun y=>aqA hE h y⟩
theorem Ao.within {α β:Type}{cs:List AV}{o o':Nat}{E:α->List AV}{x:α}{g:α->List AV}{E':β->List AV}{x':β}{g':β->List AV}{z:Nat} (hE:∀ x,(E' x).length=z)
  (h:Ao cs o E x g) (k:Ao (E x) o' E' x' g') (up:β->α) (hg:∀ y,g' y=E (up y)):Ao cs (o+o') E' x' (fun y=>g (up y)):=
 ⟨h.sub.trans k.sub,fun y=>by rw[aqC h.sub k.sub (by rw[hE,hE]),k.ow,hg,h.ow]⟩
theorem Ao.at {n:Nat}{α:Type}{E:α->List AV}{z:Nat} (hE:∀ x,(E x).length=z) {cs:List AV}{o:Nat}{v:Aa n α}{g:Aa n α->List AV} (h:Ao cs o (Aa.c E) v g) {i:Int}{x:α} (hx:v.at? i=some x):
  Ao cs (o+i.toNat*z) E x (fun y=>g (v.set i y)):=
 Ao.within hE h (Ao.idx hE hx) (fun y=>v.set i y) (fun _=>rfl)
theorem Ao.bound {α:Type}{cs:List AV}{o z:Nat}{E:α->List AV}{x:α}{g:α->List AV} (h:Ao cs o E x g) (hE:∀ x,(E x).length=z):o+z<=cs.length:=h.sub.bound (hE x)
theorem Ao.get {α:Type}{cs:List AV}{o z:Nat}{E:α->List AV}{x:α}{g:α->List AV} (h:Ao cs o E x g) (hE:∀ x,(E x).length=z):(cs.drop o).take z=E x:=h.sub.get (hE x)
def Aa.eq {n:Nat}{α:Type} (eq:α->α->Bool) (a b:Aa n α):Bool:=(a.l.zip b.l).all fun p=>eq p.1 p.2
theorem abP {n:Nat}{α:Type}{E:α->List AV}{z:Nat} (hE:∀ x,(E x).length=z) {x0:α}{eq:α->α->Bool} (h:∀ x y,bL (E x0) (E x) (E y)=some (eq x y)) (a b:Aa n α):
  bL ((Aa.rep n x0).c E) (a.c E) (b.c E)=some (a.eq eq b):=by
 have:=ahc hE (hE x0) eq h n a.l b.l a.h b.h
 unfold Aa.c Aa.rep Aa.eq
 simp only[List.map_replicate]
 exact this
def Aa.put {n:Nat}{α:Type} (v:Aa n α) (o m:Nat) (l:List α):Aa n α:=
 if h:o+m<=n then ⟨v.l.take o++(l.take m++v.l.drop (o+min l.length m)),by
  simp only[A1,A8,Bt,v.h];omega⟩ else v
theorem aaN {n:Nat} (v:Aa n Int):v.c ae=v.l.map (AV.int .u8):=by
 unfold Aa.c ae
 induction v.l with
 |nil=>rfl
 |cons x l ih=>simp[ih]
theorem an6 (l:List Int):(l.map ae).flatten=l.map (AV.int .u8):=by
 unfold ae
 induction l with
 |nil=>rfl
 |cons x l ih=>simp[ih]
theorem aiA {n:Nat} (v:Aa n Int) (o m:Nat):(AV.aQ (fun _ _=>none) (((v.c ae).drop o).take m)).map (fun cs=>cs.map fun c=>[c])=some ((((v.l.drop o).take m)).map ae):=by
 rw[aaN,<-List.map_drop,<-List.map_take]
 generalize (v.l.drop o).take m=l
 have:AV.aQ (fun _ _=>none) (l.map (AV.int .u8))=some (l.map (AV.int .u8)):=by
  induction l with
  |nil=>rfl
  |cons x l ih=>simp only[List.map_cons,AV.aQ,AV.ak,ih]
 rw[this]
 simp[ae]
theorem aqP {n:Nat} (v:Aa n Int) (o m:Nat) (l:List Int) (h:o+m<=n):overwrite (v.c ae) o ((l.map ae).take m).flatten=(v.put o m l).c ae:=by
 unfold Aa.put
 rw[dif_pos h,<-List.map_take,an6,aaN,aaN]
 unfold overwrite
 simp only[DJ,List.map_take,List.map_drop,A8,Bu]
 rw[Nat.min_comm]
def strOf (l:List Int):ByteArray:=⟨(l.map fun n=>UInt8.ofNat n.toNat).toArray⟩
theorem adv:∀ l:List Int,bytesOf (l.map ae)=some (l.map fun n=>UInt8.ofNat n.toNat)
 |[]=>rfl
 |x::l=>by simp only[List.map_cons,bytesOf,adv l,ae,byteOf]
def iG (s:ByteArray):List Int:=s.data.toList.map fun c=>(c.toNat:Int)
theorem afn (s:ByteArray):kY s=(iG s).map ae:=by
 unfold kY iG ae;rw[List.map_map];rfl
theorem kX (s:ByteArray):(iG s).length=s.size:=by unfold iG;rw[Bu];rfl
def tD (s:ByteArray) (i:Int):Option Int:=if 0<=i/\i<s.size then some ((s.data.toList.getD i.toNat 0).toNat:Int) else none
theorem ajT {s:ByteArray}{i x:Int} (h:tD s i=some x):jt i s.size=some i.toNat:=by
 unfold tD at h
 split at h
 ·rename_i hc;unfold jt;rw[if_pos hc]
 ·cases h
theorem ajS {s:ByteArray}{i x:Int} (h:tD s i=some x):((s.data.toList.getD i.toNat 0).toNat:Int)=x:=by
 unfold tD at h
 split at h
 ·exact oi h
 ·cases h
def aaD (s:ByteArray):Option Unit:=if s.size<4611686018427387904 then some () else none
theorem arJ {s:ByteArray}{u:Unit} (h:aaD s=some u):s.size<4611686018427387904:=by
 unfold aaD at h
 split at h
 ·assumption
 ·cases h
theorem aj3 (l:List Int):(⟨(l.map fun n=>UInt8.ofNat n.toNat).toArray⟩:ByteArray)=strOf l:=rfl
def anT (x:Int):List AV:=[.int .u64 x]
theorem ba0:(⟨#[]⟩:ByteArray)=ByteArray.empty:=rfl
def ng {α:Type} (l:List α) (i n:Nat) (x:List α):List α:=l.take i++(x.take n++l.drop (i+min x.length n))
theorem anl {α β:Type} (E:α->β) (l:List α) (i n:Nat) (x:List α):(l.map E).take i++((x.map E).take n++(l.map E).drop (i+min (x.map E).length n))=(ng l i n x).map E:=by
 unfold ng;simp[List.map_take,List.map_drop]
theorem agU {α:Type}{l:List α}{i n:Nat} (x:List α) (h:i+n<=l.length):(ng l i n x).length=l.length:=by
 unfold ng;simp;omega
def lX (y:Int):Option Unit:=if y<0 then none else some ()
theorem aaB {y:Int}{u:Unit} (h:lX y=some u):(y<0)=False:=by
 unfold lX at h
 split at h
 ·cases h
 ·rename_i h1;exact eq_false h1
theorem apU:min (Int.toNat 1) 64=1:=rfl
theorem apY:min (Int.toNat 8) 64=8:=rfl
theorem apV:min (Int.toNat 16) 64=16:=rfl
theorem apW:min (Int.toNat 24) 64=24:=rfl
theorem apX:min (Int.toNat 32) 64=32:=rfl
attribute [go_sem] apU apY apV apW apX anT ba0 vM yO wh aeA aff Bz Ce List.append_nil
end Go.Abs
namespace Go.Abs
open Go Go.RowKit
section
variable {P:Program}{T:AR}{N0:Nat}{W0:World}{fm:FM}{ts:List Aw}{H:Heap}{w:World}
def DS (P:Program) (f:FuncId) (args:List AV) (X:AH) (R:AV->AH->AH->Prop):Prop:=
 ∀ (f1:AH) (H:Heap),CE P f args ((X++f1)::H) (fun y fr H'=>∃ X',R y fr X'/\H'=(X'++f1)::H)
theorem DS.gD (hT : AX P T) {f : FuncId} {fn : Func} {c : Code} {sc : SC} {args : List AV} {X : AH} {R : AV → AH → AH → Prop} (hf : P.funcs[f]? = some fn) (hb : fn.body = some c) (jJ : (fn.name == "runtime.NumGoroutine") = false)
  (he:sc.bare=erase fn.ntmps c) (eT:(erase fn.ntmps c).fits fn.ntmps=true) (fC:args.length<=fn.ntmps)
  (h:∀ f1 H,AK P fn.ntmps (Ends T fn.results.toList fun y fr H'=>∃ X',R y fr X'/\H'=(X'++f1)::H) [.sc sc] (St.enter args ((X++f1)::H) fn.ntmps)):DS P f args X R:=
 fun f1 H=>CE.gD hT hf hb jJ he eT fC (h f1 H) (by rintro y fr H' ⟨X',_,rfl⟩;rfl)
theorem GX {n:Nat}{rs:List ResultVar}{f1:AH}{st:St}{e:Exit}{y0:AV}{X0:AH} (he:e=.ret\/e=.normal) (h1:((ij T st rs).bind fun xs=>(cm xs).aV [])=some y0) (h2:st.low=(X0++f1)::H):
  AM P n (Ends T rs fun y fr H'=>∃ X',(y=y0/\fr=[]/\X'=X0)/\H'=(X'++f1)::H) (.fin e st):=by
 obtain⟨xs,h3,h4⟩:=Option.bind_eq_some_iff.1 h1
 have:∃ xs,ij T st rs=some xs/\D9 (fun y fr H'=>∃ X',(y=y0/\fr=[]/\X'=X0)/\H'=(X'++f1)::H) (cm xs) st:=
  ⟨xs,h3,.own [] y0 [] (by simp) (by simp) h4 rfl ⟨X0,⟨rfl,rfl,rfl⟩,h2⟩⟩
 rcases he with rfl|rfl<;>exact this
theorem arc {xs ys:List AV}{vs:List Value}{ks:List Nat}{t:Aw}{rest:List Aw} (h:AG fm (t::rest) xs vs) (e:AV.dR ks xs=some ys):AG fm (fe ks t::rest) ys vs:=by
 have g:=vm ks _ _ e
 refine⟨by rw[g.1];exact h.1,fun i y v hy hv=>?_⟩
 have af:i<xs.length:=by rw[<-g.1];exact(gS.1 hy).1
 obtain⟨y',j4,hu⟩:=g.2 i _ (gG af)
 rw[hy]at j4;obtain rfl:=oi j4
 exact(h.2 i _ v (gG af) hv).aV rfl hu
theorem arw {xs:List AV}{vs:List Value}{t:Aw} (h:AG fm ts xs vs):AG fm (t::ts) (AV.dm 1 xs) vs:=by
 refine⟨by rw[nM];exact h.1,?_⟩
 intro i x v hx hv
 rw[nL,mS]at hx
 obtain⟨y,hy,rfl⟩:=hx
 exact(h.2 i y v hy hv).sh 1 (by simp)
def acj (ks:List Nat) (args:List AV):Option (List AV):=
 match AV.gq 1 args with
 |some xs=>match AV.dR ks xs with
  |some ys=>some (AV.dm 1 ys)
  |none=>none
 |none=>none
section
variable [Md] {n:Nat}{Φ:Exit->St->Prop}{f:FuncId}{args:List AV}{dst:Option Tmp}{drop:List Nat}{todo:List It}{st:St}
theorem CO.norm {gp:St}{iw:List AV}{oz ks:List Nat}{nx:Nat} (e:st.norm oz ks nx=some gp) (bY:ks.Nodup) (kO:ks.length<=nx) (ea:acj ks args=some iw):CO n st args gp iw:=by
 intro N0 W0 a w fm ts vs h hv
 unfold St.norm at e
 split at e
 ·rename_i tm fr eM nq
  obtain rfl:=oi e
  cases ts with
  |nil=>have:=h.hr.len;simp at this
  |cons t rest=>
   refine⟨fm,fe ks t::rest,⟨h.hr.aV nq bY,?_,?_,h.size,h.fy⟩,⟨AU.refl _ _,AD.refl _,fun _ _ h=>h⟩,?_⟩
   ·intro i y hy
    obtain⟨x,h1,h2⟩:=afg ks st.tm oz tm eM i y hy
    obtain⟨v,h3,h4⟩:=h.tm i x h1
    exact⟨v,h3,h4.aV rfl h2⟩
   ·intro k hk
    have e9:nx<=k:=hk
    simp only[tb,fe]
    rw[CF (by omega)];rfl
   ·unfold acj at ea
    split at ea
    ·rename_i xs gm
     split at ea
     ·rename_i ys mM
      obtain rfl:=oi ea
      have h1:=akf gm hv
      exact arw (arc (by simpa using h1) mM)
     ·cases ea
    ·cases ea
 ·cases e
theorem CO.trans {a b c:St}{xs ys zs:List AV} (h:CO n a xs b ys) (k:CO n b ys c zs):CO n a xs c zs:=by
 intro N0 W0 x w fm ts vs hS hv
 obtain⟨gV,en,h1,h2,h3⟩:=h N0 W0 x w fm ts vs hS hv
 obtain⟨fZ,eU,h4,h5,h6⟩:=k N0 W0 x w gV en vs h1 h3
 exact⟨fZ,eU,h4,h2.trans h5,h6⟩
theorem IB {gp:St}{iw:List AV} (hm:CO n st args gp iw) (h:AM P n Φ (.call f iw dst drop todo gp)):AM P n Φ (.call f args dst drop todo st):=by
 obtain⟨vr,amn,R,Rp,h1,h2,h3,h4⟩:=h
 exact⟨vr,amn,R,Rp,hm.trans h1,h2,h3,h4⟩
def nOK (P:Program) (n:Nat) (Φ:Exit->St->Prop) (f:FuncId) (dst:Option Tmp) (drop:List Nat) (todo:List It):Option St->Option (List AV)->Prop
 |some gp,some iw=>AM P n Φ (.call f iw dst drop todo gp)
 |_,_=>False
theorem ap0 {gp:St}{iw:List AV}:nOK P n Φ f dst drop todo (some gp) (some iw)=AM P n Φ (.call f iw dst drop todo gp):=rfl
theorem Et (oz ks:List Nat) (nx:Nat) (bY:(decide ks.Nodup&&decide (ks.length<=nx))=true) (h:nOK P n Φ f dst drop todo (st.norm oz ks nx) (acj ks args)):AM P n Φ (.call f args dst drop todo st):=by
 unfold nOK at h
 split at h
 ·rename_i gp iw h1 h2
  simp only[Bo,decide_eq_true_eq]at bY
  exact IB (CO.norm h1 bY.1 bY.2 h2) h
 ·exact h.elim
theorem Es {dO:List AV}{X0 X1:AH}{y0:AV}{fr0:AH} (hp:DS P f dO X0 (fun y fr X'=>y=y0/\fr=fr0/\X'=X1)) (ha:args=dO/\st.fr.take X0.length=X0)
  (h:AK P n Φ todo (st.gF dst drop y0 fr0 ((X1++st.fr.drop X0.length)::st.low))):AM P n Φ (.call f args dst drop todo st):=by
 obtain⟨rfl,hx⟩:=ha
 have h1:=hp (st.fr.drop X0.length) st.low
 have e:X0++st.fr.drop X0.length=st.fr:=by
  have:=CY X0.length st.fr
  rw[hx]at this;exact this
 rw[e]at h1
 refine D2 h1 ?_
 rintro v fr H ⟨X',⟨rfl,rfl,rfl⟩,rfl⟩
 exact h
theorem Iy (hT:AX P T) {aE:List AV}{y0:AV}{fr0:AH} (m:Nat) (hp:Bg P f aE [] (fun y fr=>y=y0/\fr=fr0)) (hz:AV.dk (Heap.get ([]::st.fr::st.low)) (Abs.cZ (Heap.get ([]::st.fr::st.low)) 5) args=some aE) (hy:y0.rh=true) (hf:tn fr0)
  (h:AM P n Φ (run T m todo (st.gF dst drop y0 fr0 (st.fr::st.low)))):AM P n Φ (.call f args dst drop todo st):=by
 refine D2 (Bg.nD 5 hp hz hy hf) ?_
 rintro y fr H' ⟨rfl,rfl,rfl⟩
 exact ik hT m _ _ h
end
def aP {α:Type} (z:Nat) (E:α->List AV):Option α->AV
 |none=>.bQ
 |some x=>.aL z [E x] 0 0
section
variable {α:Type}{z:Nat}{E:α->List AV} (x:Option α)
theorem al8 (y:α):aP z E (some y)=.aL z [E y] 0 0:=rfl
theorem al4:aP z E none=.bQ:=rfl
theorem al7 (d:Nat):(aP z E x).sh d=aP z E x:=by cases x<;>rfl
theorem al2 (G:AW):(aP z E x).ak G=some (aP z E x):=by cases x<;>rfl
theorem al0 (G:AW) (F:Nat->Nat->Option (List AV)):(aP z E x).br G F=some (aP z E x):=by cases x<;>rfl
theorem al5:(aP z E x).refs=[]:=by cases x<;>rfl
theorem al3 (k:Nat):(aP z E x).imp k=aP z E x:=by cases x<;>rfl
theorem al6 (ks:List Nat):(aP z E x).aV ks=some (aP z E x):=by cases x<;>rfl
theorem al9 (d:Nat):(aP z E x).un d=some (aP z E x):=by cases x<;>rfl
theorem al1:(aP z E x).flat=true:=by cases x<;>rfl
end
attribute [go_sem] aeB afo al8 al4 al7 al2 al0 al5 al3 al6 al9 al1 ap0 acj St.norm vn lT AV.aV AV.dR AJ.aV rv idx tn AJ.lo AV.lo AV.rh
def Aa.oD (n:Nat) {α:Type} (l:List α):Option (Aa n α):=if h:n<=l.length then some ⟨l.take n,by simp;omega⟩ else none
theorem ac4 {n:Nat}{α:Type}{l:List α}{v:Aa n α} (h:Aa.oD n l=some v):n<=l.length:=by
 unfold Aa.oD at h
 split at h
 ·assumption
 ·cases h
theorem ar7 {n:Nat}{α:Type}{l:List α}{v:Aa n α} (h:Aa.oD n l=some v):v.l=l.take n:=by
 unfold Aa.oD at h
 split at h
 ·obtain rfl:=oi h;rfl
 ·cases h
theorem akw {n:Nat}{α:Type}{E:α->List AV}{l:List α}{v:Aa n α} (h:Aa.oD n l=some v):(List.take n (List.map E l)).flatten=v.c E:=by
 unfold Aa.c
 rw[ar7 h,List.map_take]
theorem akx {n:Nat}{α:Type}{E:α->List AV}{l:List α}{v:Aa (n+1) α} (h:Aa.oD (n+1) l=some v):(List.map E l)[0]?=some (E (l[0]'(by have:=ac4 h;omega))):=by
 rw[BX,gG (by have:=ac4 h;omega)]
 rfl
theorem aiB {n:Nat} (v:Aa n Int) (o m:Nat):List.map (fun c=>[c]) (List.take m (List.drop o (v.c ae)))=List.map ae (List.take m (List.drop o v.l)):=by
 rw[aaN,<-List.map_drop,<-List.map_take,List.map_map]
 rfl
theorem aiC {n:Nat} (v:Aa n Int) (m:Nat):List.map (fun c=>[c]) (List.take m (v.c ae))=List.map ae (List.take m v.l):=by
 rw[aaN,<-List.map_take,List.map_map]
 rfl
def kR {α:Type} (n:Int) (b:Nat) (z:α):Option (List α):=(mk? n b).map fun _=>List.replicate n.toNat z
theorem aeQ {α:Type}{n:Int}{b:Nat}{z:α}{l:List α} (h:kR n b z=some l):∃ u,mk? n b=some u:=by
 unfold kR at h
 obtain⟨u,hu,_⟩:=mS.1 h
 exact⟨u,hu⟩
theorem aeN {α:Type}{n:Int}{b:Nat}{z:α}{l:List α} (h:kR n b z=some l):l=List.replicate n.toNat z:=by
 unfold kR at h
 obtain⟨u,_,hl⟩:=mS.1 h
 exact hl.symm
theorem aeP {α β:Type} (E:α->β) {n:Int}{b:Nat}{z:α}{l:List α} (h:kR n b z=some l):List.replicate n.toNat (E z)=List.map E l:=by
 rw[aeN h,List.map_replicate]
theorem aeO {α:Type}{n:Int}{b:Nat}{z:α}{l:List α} (h:kR n b z=some l):l.length=n.toNat:=by
 rw[aeN h];simp
theorem aeR {α β:Type} (E:α->β) {n:Int}{b:Nat}{z:α}{l:List α} (h:kR n b z=some l):List.take n.toNat (List.map E l)=List.map E l:=by
 rw[aeN h];simp
def Lf {α:Type} (E:α->List AV):Prop:=∀ x,∀ y∈E x,y.leaf=true
theorem as9:Lf eI:=fun x y h=>by simp only[eI,CS]at h;subst h;rfl
theorem aiJ:Lf ae:=fun x y h=>by simp only[ae,CS]at h;subst h;rfl
theorem Lf.vec {n:Nat}{α:Type}{E:α->List AV} (h:Lf E):Lf (Aa.c (n:=n) E):=by
 intro v y hy
 unfold Aa.c at hy
 rw[List.mem_flatten]at hy
 obtain⟨l,hl,hy⟩:=hy
 obtain⟨x,_,rfl⟩:=List.mem_map.1 hl
 exact h x y hy
theorem Lf.map {α:Type}{E:α->List AV} (h:Lf E) (l:List α):(∀ c∈List.map E l,∀ x∈c,x.leaf=true):=by
 intro c hc x hx
 obtain⟨y,_,rfl⟩:=List.mem_map.1 hc
 exact h y x hx
end
section
variable {P:Program}{T:AR}{N0:Nat}{W0:World}{fm:FM}{ts:List Aw}{H:Heap}{w:World}
def G0 (T:AR) (rs:List ResultVar) (R:AV->AH->Heap->Prop) (Rp:List PanicEntry->Heap->Prop) (e:Exit) (st:St):Prop:=
 match e with
 |.normal|.ret=>∃ xs y,ij T st rs=some xs/\(cm xs).aV []=some y/\R y [] st.low
 |.panic ch=>Rp ch st.low
 |_=>False
theorem Dk.gD (hT : AX P T) {f : FuncId} {fn : Func} {c : Code} {sc : SC} {args : List AV} {H : Heap} {R : AV → AH → Heap → Prop} {Rp : List PanicEntry → Heap → Prop} (hf : P.funcs[f]? = some fn) (hb : fn.body = some c) (jJ : (fn.name == "runtime.NumGoroutine") = false)
  (he:sc.bare=erase fn.ntmps c) (eT:(erase fn.ntmps c).fits fn.ntmps=true) (fC:args.length<=fn.ntmps)
  (h:AK P fn.ntmps (G0 T fn.results.toList R Rp) [.sc sc] (St.enter args H fn.ntmps)) (iN:∀ y fr H',R y fr H'->H'.length=H.length) (aoP:∀ ch H',Rp ch H'->H'.length=H.length):Dk P f args H R Rp:=by
 refine⟨⟨fn,hf,jJ,by simp[hb]⟩,?_⟩
 intro N0 W0 fm ts w vs hH hv
 refine calls_of_wp hf hb ((yc []).1 ?_)
 have hS:=SR.enter hH hv fC
 have:=h N0 W0 fm (dF::ts) _ w [.code c] (bodyPost P fn fun e w'=>(∃ v av aZ H' fm' t' ts',e=.returned v/\R av aZ H'/\H'.length=H.length/\HR N0 W0 fm' (t'::ts') (aZ::H') w'/\VR fm' (t'::ts') av v/\AU N0 fm fm'/\AD ts ts'/\
   (∀ l k,tb ts l k=none->tb ts' l k=none)/\∀ k,16<=k->t' k=none)\/
   ∃ ch H' fm' ts',e=.panicked ch/\Rp ch H'/\H'.length=H.length/\HR N0 W0 fm' ts' H' w'/\AU N0 fm fm'/\AD ts ts'/\∀ l k,tb ts l k=none->tb ts' l k=none) hS (.sc he eT .nil) ?_
 ·exact this
 ·intro e ay a' w' fm' ts' hE du hL
  cases ts' with
  |nil=>have:=du.hr.len;simp at this
  |cons t rest=>
   have iQ:AD ts rest:=by simpa using hL.ke
   have bw:∀ l k,tb ts l k=none->tb rest l k=none:=by simpa using hL.no
   cases e with
   |normal=>
    obtain⟨xs,y,gm,hy,hR⟩:=hE
    obtain⟨v,h1,h2⟩:=tC (P:=P) hT du gm
    exact⟨du.fy,v,h1,.inl ⟨v,y,[],ay.low,fm',fe [] t,rest,rfl,hR,iN _ _ _ hR,du.hr.aV rfl (by simp),h2.aV rfl hy,hL.fj,iQ,bw,fun k e9=>rfl⟩⟩
   |ret=>
    obtain⟨xs,y,gm,hy,hR⟩:=hE
    obtain⟨v,h1,h2⟩:=tC (P:=P) hT du gm
    exact⟨du.fy,v,h1,.inl ⟨v,y,[],ay.low,fm',fe [] t,rest,rfl,hR,iN _ _ _ hR,du.hr.aV rfl (by simp),h2.aV rfl hy,hL.fj,iQ,bw,fun k e9=>rfl⟩⟩
   |panic ch=>exact⟨du.fy,.inr ⟨ch,ay.low,fm',rest,rfl,hE,aoP _ _ hE,du.hr.pop,hL.fj,iQ,bw⟩⟩
   |_=>exact hE.elim
section
variable [Md] {n:Nat}{Φ:Exit->St->Prop}{f:FuncId}{args:List AV}{dst:Option Tmp}{drop:List Nat}{todo:List It}{st:St}
theorem C5 {R:AV->AH->Heap->Prop}{Rp:List PanicEntry->Heap->Prop} (hp:Dk P f args (st.fr::st.low) R Rp) (h:∀ y fr H,R y fr H->AK P n Φ todo (st.gF dst drop y fr H)) (h2:∀ ch H,Rp ch H->Φ (.panic ch) (st.vB H)):
  AM P n Φ (.call f args dst drop todo st):=⟨_,_,R,Rp,CO.refl _ _ _,hp,h,h2⟩
theorem ID {t:TypeId}{x:AV} (h:∀ fm ts u,VR fm ts x u->Φ (.panic [{ v:=.iface t u,recovered:=false }]) st):AM P n Φ (.throw (.cq t x) st):=⟨t,x,rfl,h⟩
theorem GV {rs:List ResultVar}{R:AV->AH->Heap->Prop}{Rp:List PanicEntry->Heap->Prop}{e:Exit}{y0:AV} (he:e=.ret\/e=.normal) (h1:((ij T st rs).bind fun xs=>(cm xs).aV [])=some y0) (h2:R y0 [] st.low):AM P n (G0 T rs R Rp) (.fin e st):=by
 obtain⟨xs,h3,h4⟩:=Option.bind_eq_some_iff.1 h1
 rcases he with rfl|rfl<;>exact⟨xs,y0,h3,h4,h2⟩
end
end
theorem ajE (ks:List Nat) (b:List AV):∀ a:List AV,AV.dR ks (a++b)=(AV.dR ks a).bind fun x=>(AV.dR ks b).map (x++·)
 |[]=>by cases h:AV.dR ks b<;>simp[AV.dR,h]
 |u::a=>by
  simp only[Bz,AV.dR,ajE ks b a]
  cases u.aV ks<;>cases AV.dR ks a<;>cases AV.dR ks b<;>rfl
theorem ard {a:List AV} (h:Ch a) (ks:List Nat) (b:List AV):AV.dR ks (a++b)=(AV.dR ks b).map (a++·):=by
 rw[ajE,h.aV];rfl
def wu:AH->Nat->AJ->AH
 |[],_,_=>[]
 |(j,x)::l,k,b=>if j=k then (j,b)::l else (j,x)::wu l k b
theorem ai1 {k:Nat}{b b':AJ} (hb:B2 b b'):∀ {fr:AH},look fr k=some b->BP fr (wu fr k b')
 |[],h=>by simp[look]at h
 |(j,x)::l,h=>by
  simp only[look]at h
  by_cases hj:j=k
  ·rw[if_pos hj]at h
   obtain rfl:=oi h
   simp only[wu,if_pos hj]
   exact .cons _ _ _ _ _ hb (.refl l)
  ·rw[if_neg hj]at h
   simp only[wu,if_neg hj]
   exact .cons _ _ _ _ _ (.refl x) (ai1 hb h)
theorem AK.ai0 {P:Program}{n:Nat}{Φ:Exit->St->Prop}{todo:List It}{tm:List (Nat×AV)}{fr:AH}{low:Heap}{nx nt:Nat} (k o e:Nat) {cs:List AV} (hk:look fr k=some (.box cs)) (ho:cs[o]?=some .nil)
  (h:AK P n Φ todo ⟨tm,wu fr k (.box (cs.set o (.sl e []))),low,nx,nt⟩):AK P n Φ todo ⟨tm,fr,low,nx,nt⟩:=by
 refine AK.rI (Al.nl (.refl tm) (ai1 (.box _ _ ⟨by simp,?_⟩) hk)) h
 intro i x y hx hy
 rw[List.getElem?_set]at hy
 split at hy
 ·rename_i hi
  subst hi
  rw[ho]at hx
  obtain rfl:=oi hx
  split at hy
  ·obtain rfl:=oi hy;exact .nil e
  ·cases hy
 ·rw[hx]at hy;obtain rfl:=oi hy;exact .refl x
attribute [go_sem] wu
theorem ahO (G:AW) (b:List AV):∀ a:List AV,AV.aQ G (a++b)=(AV.aQ G a).bind fun x=>(AV.aQ G b).map (x++·)
 |[]=>by cases h:AV.aQ G b<;>simp[AV.aQ,h]
 |u::a=>by
  simp only[Bz,AV.aQ,ahO G b a]
  cases u.ak G<;>cases AV.aQ G a<;>cases AV.aQ G b<;>rfl
theorem an9 {a:List AV} (h:Ch a) (G:AW) (b:List AV):AV.aQ G (a++b)=(AV.aQ G b).map (a++·):=by
 rw[ahO,h.ak];rfl
theorem ad1 (k:Nat) (x:AJ) (b:List AV):∀ a:List AV,AV.dD k x (a++b)=(AV.dD k x a).bind fun y=>(AV.dD k x b).map (y++·)
 |[]=>by cases h:AV.dD k x b<;>simp[AV.dD,h]
 |u::a=>by
  simp only[Bz,AV.dD,ad1 k x b a]
  cases u.fz k x<;>cases AV.dD k x a<;>cases AV.dD k x b<;>rfl
theorem aob {a:List AV}{k:Nat}{x:AJ} (h:AV.dD k x a=some a) (b:List AV):AV.dD k x (a++b)=(AV.dD k x b).map (a++·):=by
 rw[ad1,h];rfl
theorem uy {α:Type}{n:Nat}{E:α->List AV}{k:Nat}{x:AJ} (h:∀ y,AV.dD k x (E y)=some (E y)) (v:Aa n α):AV.dD k x (Aa.c E v)=some (Aa.c E v):=by
 have key:∀ l:List α,AV.dD k x (l.map E).flatten=some (l.map E).flatten:=by
  intro l
  induction l with
  |nil=>rfl
  |cons y l ih=>simp only[List.map_cons,CG,ad1,ih,h,Ae,Be]
 exact key v.l
theorem AZ.append {a b c d:List AV} (h:AZ a b) (k:AZ c d):AZ (a++c) (b++d):=by
 refine⟨by simp[h.1,k.1],?_⟩
 intro i x y hx hy
 by_cases hi:i<a.length
 ·rw[CL hi]at hx
  rw[CL (by rw[<-h.1];exact hi)]at hy
  exact h.2 i x y hx hy
 ·rw[CX (by omega)]at hx
  rw[CX (by rw[<-h.1];omega)]at hy
  rw[<-h.1]at hy
  exact k.2 _ x y hx hy
section
variable [Md] {P:Program}{T:AR}{N0:Nat}{W0:World}{n:Nat}{fm:FM}{ts:List Aw}{st:St}{a:Act}{w:World}{Q:Exit->Act->World->Prop}
theorem AK.seg {Φ:Exit->St->Prop}{B:St->Prop}{c:Code}{s:SC}{t:List BL} (hs:SR N0 W0 n st a w fm ts) (h:AK P n Φ [.sc s,.back B] st) (he:s.bare=erase n c) (hf:(erase n c).fits n=true)
  (hB:∀ ay a' w' fm' ts',B ay->SR N0 W0 n ay a' w' fm' ts'->Bq N0 fm ts fm' ts'->K P Q t .normal a' w')
  (jK:∀ e ay a' w' fm' ts',Φ e ay->SR N0 W0 n ay a' w' fm' ts'->Bq N0 fm ts fm' ts'->K P Q t e a' w'):K P Q (.code c::t) .normal a w:=by
 have h1:=h N0 W0 fm ts a w [.code c,.back (fun a' w'=>K P Q t .normal a' w')] (fun e a' w'=>K P Q t e a' w') hs
  (.sc he hf (.back (fun ay a' w' fm' ts' hb uS hl=>hB ay a' w' fm' ts' hb uS hl) .nil)) jK
 rw[E7]at h1 ⊢
 refine wpIn_mono h1 ?_
 intro e a' w' hk
 cases e<;>exact hk
theorem FP {arr:Array Oper}{i:Nat}{is:List Nat}{o:Oper}{t:List BL} (ho:arr[i]?=some o) (hg:o.guard=none) (h:o.wpIn FW 0 P a w (fun a' w'=>K P Q (.ops arr is::t) .normal a' w') (K P Q t)):K P Q (.ops arr (i::is)::t) .normal a w:=by
 unfold K
 simp only[wpOpsIn,ho]
 rw[if_pos (by simp[Region.wanted,hg])]
 exact h
theorem IW {arr:Array Oper}{t:List BL} (h:K P Q t .normal a w):K P Q (.ops arr []::t) .normal a w:=by
 unfold K;simp only[wpOpsIn];exact h
theorem AK.last {Φ:Exit->St->Prop}{c:Code}{s:SC} (hs:SR N0 W0 n st a w fm ts) (h:AK P n Φ [.sc s] st) (he:s.bare=erase n c) (hf:(erase n c).fits n=true)
  (jK:∀ e ay a' w' fm' ts',Φ e ay->SR N0 W0 n ay a' w' fm' ts'->Bq N0 fm ts fm' ts'->Q e a' w'):K P Q [.code c] .normal a w:=
 h N0 W0 fm ts a w [.code c] Q hs (.sc he hf .nil) jK
end
theorem FO (m m':Md) (h:m.rnd=m'.rnd) {P:Program}{Q:Exit->Act->World->Prop}:∀ t:List BL,@K m P Q t=@K m' P Q t
 |[]=>by funext e a w;simp only[K]
 |it::t=>by
  have hF:@FW m=@FW m':=by unfold FW;rw[h]
  have ih:=FO m m' h (P:=P) (Q:=Q) t
  funext e a w
  cases it<;>simp only[K,ih,hF]
theorem SR.deep [Md] {N0:Nat}{W0:World}{n:Nat}{tm tm':List (Nat×AV)}{fr:AH}{low:Heap}{nx nt:Nat}{a:Act}{w:World}{fm:FM}{ts:List Aw} (h:SR N0 W0 n ⟨tm,fr,low,nx,nt⟩ a w fm ts) (ht:∀ t x,look tm' t=some x->∃ y,look tm t=some y/\x=y.sh 1):
  SR N0 W0 n ⟨tm',[],fr::low,0,nt⟩ a w fm (dF::ts):=
 ⟨h.hr.push,fun t x hx=>by
  obtain⟨y,hy,rfl⟩:=ht t x hx
  obtain⟨v,h1,h2⟩:=h.tm t y hy
  exact⟨v,h1,h2.sh 1 (by simp)⟩,fun _ _=>rfl,h.size,h.fy⟩
theorem SR.wg (m m':Md) {N0:Nat}{W0:World}{n:Nat}{st:St}{a:Act}{w:World}{fm:FM}{ts:List Aw} (h:@SR m N0 W0 n st a w fm ts) {a':Act} (ht:a'.tmps=a.tmps) (hd:a'.defers=m'.wg):@SR m' N0 W0 n st a' w fm ts:=by
 obtain⟨h1,h2,h3,h4,h5⟩:=h
 refine @SR.mk m' _ _ _ _ _ _ _ _ h1 (fun t x hx=>?_) h3 (by rw[ht];exact h4) hd
 obtain⟨v,h6,h7⟩:=h2 t x hx
 exact⟨v,by rw[ht];exact h6,h7⟩
theorem aqo [Md] {P:Program}{o:Oper}{a:Act}{w w':World}{next:Act->World->Prop}{Q:Exit->Act->World->Prop}{d:Deferred} (hr:(execOp a.eval o).run P w=.ok (.defer d) w') (hm:Md.rnd=none) (h:next ({ a with defers:=d::a.defers }.put o.dst undef) w'):o.wpIn FW 0 P a w next Q:=by
 refine⟨fun _ _=>trivial,?_⟩
 show Oper.uponIn FW 0 P o a next Q (Sem.run P (Oper.semAt Md.rnd a.eval o) w)
 rw[hm,Oper.semAt_none,hr]
 exact h
section
variable [Md] {P:Program}{T:AR}{N0:Nat}{W0:World}{n:Nat}{fm:FM}{ts:List Aw}{st:St}{a:Act}{w:World}{Q:Exit->Act->World->Prop}
theorem Ea:∀ (s t:List BL) (e:Exit) (a:Act) (w:World),K P Q (s++t) e a w=K P (fun e a w=>K P Q t e a w) s e a w
 |[],t,e,a,w=>rfl
 |.code c::s,t,e,a,w=>by
  have ih:K P Q (s++t)=K P (fun e a w=>K P Q t e a w) s:=by funext e a w;exact Ea s t e a w
  cases e<;>simp only[Bz,K,ih]
 |.aD id::s,t,e,a,w=>by
  have ih:K P Q (s++t)=K P (fun e a w=>K P Q t e a w) s:=by funext e a w;exact Ea s t e a w
  cases e<;>simp only[Bz,K,ih]
 |.im::s,t,e,a,w=>by
  have ih:K P Q (s++t)=K P (fun e a w=>K P Q t e a w) s:=by funext e a w;exact Ea s t e a w
  cases e<;>simp only[Bz,K,ih]
 |.ops arr l::s,t,e,a,w=>by
  have ih:K P Q (s++t)=K P (fun e a w=>K P Q t e a w) s:=by funext e a w;exact Ea s t e a w
  cases e<;>simp only[Bz,K,ih]
 |.back R::s,t,e,a,w=>by
  have ih:K P Q (s++t)=K P (fun e a w=>K P Q t e a w) s:=by funext e a w;exact Ea s t e a w
  cases e<;>simp only[Bz,K,ih]
theorem aje {arr:Array Oper}{t:List BL}:∀ is js:List Nat,wpOpsIn FW 0 P arr (K P Q (.ops arr js::t)) is=wpOpsIn FW 0 P arr (K P Q t) (is++js)
 |[],js=>by funext a w;rfl
 |i::is,js=>by
  have ih:=aje (arr:=arr) (t:=t) is js
  funext a w
  simp only[Bz,wpOpsIn]
  cases arr[i]? with
  |none=>simp only[ih]
  |some o=>
   simp only[ih]
   rfl
theorem IV {arr:Array Oper}{t:List BL}{is js:List Nat} (h:K P Q (.ops arr is::.ops arr js::t) .normal a w):K P Q (.ops arr (is++js)::t) .normal a w:=by
 have e:=aje (P:=P) (Q:=Q) (arr:=arr) (t:=t) is js
 show wpOpsIn FW 0 P arr (K P Q t) (is++js) a w
 rw[<-e]
 exact h
theorem CW {c:Code}{t t':List BL} (h:∀ e a w,K P Q t e a w->K P Q t' e a w):∀ e a w,K P Q (.code c::t) e a w->K P Q (.code c::t') e a w:=by
 intro e a w hk
 cases e<;>first|exact h _ _ _ hk|exact wpIn_mono hk (fun e a w=>h e a w)
theorem CQ {x y:Code}{t:List BL}:∀ e a w,K P Q (.code x::.code y::t) e a w->K P Q (.code (.seq x y)::t) e a w:=by
 intro e a w hk
 cases e<;>first|exact hk|exact DH hk
theorem IY {id:Nat}{ops:Array Oper}{t:List BL}:∀ e a w,K P Q (.ops ops (List.range ops.size)::t) e a w->K P Q (.code (.region id ops false)::t) e a w:=by
 intro e a w hk
 cases e<;>first|exact hk|exact FQ hk
theorem IX {arr:Array Oper}{is js:List Nat}{t:List BL}:∀ e a w,K P Q (.ops arr is::.ops arr js::t) e a w->K P Q (.ops arr (is++js)::t) e a w:=by
 intro e a w hk
 cases e<;>first|exact hk|exact IV hk
theorem aqq {o:Oper}{w':World}{next:Act->World->Prop}{l fn:Nat}{tmps:Array Value}{assign body:Code} (hd:∀ c,o.op≠.defer c) (hr:(execOp a.eval o).run P w=.ok (.round l fn tmps assign body) w')
  (h:RoundIn FW 0 P l fn tmps assign body w' fun
   |.returned v,vy=>next (a.put o.dst v) vy
   |.panicked chain,vy=>Q (.panic chain) a vy
   |.outgrown,_=>LetsOut Q):o.wpIn FW 0 P a w next Q:=by
 refine⟨fun _ _=>trivial,?_⟩
 rw[Oper.semAt_eq _ _ _ hd,hr]
 exact⟨fun h=>by simp[FW]at h,h⟩
theorem AK.xP {Φ:Exit->St->Prop}{B:St->Prop}{todo:List It}{cs t:List BL} (hs:SR N0 W0 n st a w fm ts) (h:AK P n Φ (todo++[.back B]) st)
  (gj:∀ R:Act->World->Prop,(∀ ay a' w' fm' ts',B ay->SR N0 W0 n ay a' w' fm' ts'->Bq N0 fm ts fm' ts'->R a' w')->Bw N0 W0 n fm ts (todo++[.back B]) (cs++[.back R]))
  (hB:∀ ay a' w' fm' ts',B ay->SR N0 W0 n ay a' w' fm' ts'->Bq N0 fm ts fm' ts'->K P Q t .normal a' w')
  (jK:∀ e ay a' w' fm' ts',Φ e ay->SR N0 W0 n ay a' w' fm' ts'->Bq N0 fm ts fm' ts'->K P Q t e a' w'):K P Q (cs++t) .normal a w:=by
 have h1:=h N0 W0 fm ts a w (cs++[.back (fun a' w'=>K P Q t .normal a' w')]) (fun e a' w'=>K P Q t e a' w') hs (gj _ hB) jK
 rw[Ea]at h1 ⊢
 have e:(fun e a w=>K P (fun e a' w'=>K P Q t e a' w') [.back (fun a' w'=>K P Q t .normal a' w')] e a w)=fun e a w=>K P Q t e a w:=by
  funext e a w
  cases e<;>rfl
 rw[e]at h1
 exact h1
end
section
variable {N0:Nat}{W0 W1:World}{fm:FM}{ts:List Aw}{H:Heap}{w w':World}
theorem HR.aq6 (h:HR N0 W0 fm ts H w):HR N0 w fm ts H w:={ h with dL:=Below.refl N0 w,dH:=fun _ _ a _=>a }
theorem HR.other (h:HR N0 W0 fm ts H w) {l:Nat}{o o':Obj} (hl:w.heap[l]?=some o) (ho:acu o=true) (hN:N0<=l):HR N0 (w.putObj l o') fm ts H (w.putObj l o'):=by
 have af:=(CZ.1 hl).1
 have dH:∀ i,i≠l->(w.putObj l o').heap[i]?=w.heap[i]?:=fun i hi=>World.putObj_heap_other (by omega)
 refine⟨h.len,fun l' k b hg=>(h.aD l' k b hg).mono (fun _ _ _ a=>a) (AD.refl _) (fun c hc=>dH c ?_),h.inj,fun b q v hv=>?_,h.eR,Below.refl _ _,?_,fun _ _ a _=>a⟩
 ·rintro rfl
  have hb:=h.aD l' k b hg
  generalize tb ts l' k=tt at hb hc
  cases hb with
  |box c' cs hN hb=>
   obtain⟨cells,et,h1,_⟩:=hb
   simp only[dg,oE]at hc
   subst hc
   rw[h1]at hl
   cases hl
   cases ho
  |nil et esz=>simp[dg]at hc
  |arr et esz es c' cap hN hb=>
   obtain⟨cells,h1,_⟩:=hb
   simp only[dg,oE]at hc
   subst hc
   rw[h1]at hl
   cases hl
   cases ho
 ·have h1:=h.cV _ _ _ hv
  refine(World.cell?_of_block (w:=w) (w':=w.putObj l o') (a:=⟨b,q,none⟩) (dH b ?_)).trans h1
  rintro rfl
  simp only[World.cell?,hl]at h1
  cases o<;>first|(cases ho;done)|(cases h1;done)
 ·have:=h.size
  show N0<=(w.putObj l o').heap.size
  simpa [World.putObj] using this
theorem HR.alloc (h:HR N0 W0 fm ts H w) (o:Obj):HR N0 W0 fm ts H (w.alloc o):=
 h.world (fun i hi=>Below.heap_alloc w o i hi) ((Below.refl N0 w).alloc h.size o)
end
theorem ahA [Md] {P:Program}{T:AR} (hT:AX P T) {N0:Nat}{W0:World}{fm:FM}{ts:List Aw}{st:St}{a:Act}{w:World}{n:Nat}{fn:Func}{v:AV} (hS:SR N0 W0 n st a w fm ts)
  (hE:DT T fn.results.toList (fun y=>NL y v) .ret st):∃ u fm',(results fn a.tmps).run P w=.ok u w/\VR fm' [] v u/\D7 fm' w/\AU N0 fm fm':=by
 obtain⟨hl,xs,y,h1,h2,h3⟩:=hE
 obtain⟨u,h4,h5⟩:=tC (P:=P) hT hS h1
 have h6:=hS.hr.ak (cm xs).refs h5 h2 (fun _ h=>h)
 have h7:=hS.hr.tk (cm xs).refs
 exact⟨u,_,h4,h3.ok h6,h7.cV,hS.hr.wq _⟩
end Go.Abs
namespace Go.Abs
open Go
def ug (x y:ByteArray):Option ByteArray:=if x.size+y.size<4611686018427387904 then some (x++y) else none
theorem am1 {x y z:ByteArray} (h:ug x y=some z):x.size+y.size<4611686018427387904:=by
 unfold ug at h
 split at h
 ·assumption
 ·cases h
theorem am0 {x y z:ByteArray} (h:ug x y=some z):x++y=z:=by
 unfold ug at h
 split at h
 ·exact oi h
 ·cases h
end Go.Abs
namespace Go.Abs
open Go Go.RowKit
section
variable [Md] {P:Program}{T:AR}{n:Nat}{Φ:Exit->St->Prop}{f:FuncId}{args:List AV}{dst:Option Tmp}{drop:List Nat}{todo:List It}
def aoa (k:Nat) (b:AJ) (args:List AV):Option (List AV):=
 match AV.gq 1 args with
 |some xs=>match AV.dD k b xs with
  |some ys=>some (AV.dm 1 ys)
  |none=>none
 |none=>none
def aoc (P:Program) (n:Nat) (Φ:Exit->St->Prop) (f:FuncId) (dst:Option Tmp) (drop:List Nat) (todo:List It) (st:St):Option (List AV)->Prop
 |some iw=>AM P n Φ (.call f iw dst drop todo st)
 |none=>False
theorem aod {gp:St}{iw:List AV}:aoc P n Φ f dst drop todo gp (some iw)=AM P n Φ (.call f iw dst drop todo gp):=rfl
attribute [go_sem] aod aoa
end
section
variable [Md] {P:Program}{T:AR}{n:Nat}{Φ:Exit->St->Prop}
end
theorem an {p q:Prop} (a:p) (b:q):p/\q:=⟨a,b⟩
theorem Ao.bh {n:Nat}{α:Type}{E:α->List AV}{z:Nat} (hE:∀ x,(E x).length=z) {cs:List AV}{o:Nat}{v:Aa n α}{g:Aa n α->List AV} (h:Ao cs o (Aa.c E) v g) {i:Int}{x:α} (hx:v.at? i=some x):
  Ao cs (o+i.toNat*z) E x (fun y=>g (v.set i y))/\o+i.toNat*z+z<=cs.length/\(cs.drop (o+i.toNat*z)).take z=E x:=
 have u:=Ao.at hE h hx
 ⟨u,u.bound hE,u.get hE⟩
theorem Ao.oL {n:Nat}{α:Type}{E:α->List AV}{z:Nat} (hE:∀ x,(E x).length=z) {v:Aa n α}{i:Int}{x:α} (h:v.at? i=some x):
  Ao (v.c E) (i.toNat*z) E x (fun y=>(v.set i y).c E)/\i.toNat*z+z<=(v.c E).length/\((v.c E).drop (i.toNat*z)).take z=E x:=
 have u:=Ao.idx hE h
 ⟨u,u.bound hE,u.get hE⟩
theorem pu {α β:Type} (E:α->β) {b:Nat}{l y:List α}{x:α} (h:eO b l x=some y):room (l.length+1) b/\l.map E++[E x]=y.map E/\y.length=l.length+1/\(y.map E).take (l.length+1)=y.map E:=⟨aqN h,aqM E h,ajk h,aqO E h⟩
theorem fw {α β:Type} (E:α->β) {b:Nat}{l y x:List α} (h:cY b l x=some y):room (l.length+x.length) b/\l.map E++x.map E=y.map E/\y.length=l.length+x.length/\(y.map E).take (l.length+x.length)=y.map E:=⟨amg h,amf E h,af1 h,amh E h⟩
@[reducible] def Dv (cs:List AV) (z z1 z2 z3:Nat):Prop:=
 (∀ d,AV.dm d cs=cs)/\(∀ G,AV.aQ G cs=some cs)/\(∀ G F,AV.dk G F cs=some cs)/\AV.aT cs=[]/\(∀ k,AV.iS k cs=cs)/\(∀ ks,AV.dR ks cs=some cs)/\(∀ d,AV.gq d cs=some cs)/\
 (∀ r,(cs++r).take z=cs)/\cs.take z=cs/\(∀ r,(cs++r).drop z=r)/\cs.drop z=[]/\(∀ k b r,AV.dD k b (cs++r)=(AV.dD k b r).map (cs++·))/\(∀ G r,AV.aQ G (cs++r)=(AV.aQ G r).map (cs++·))/\
 (∀ ks r,AV.dR ks (cs++r)=(AV.dR ks r).map (cs++·))/\(∀ r,(cs++r).length=z+r.length)/\(∀ r q,cs++r++q=cs++(r++q))/\(∀ r,(cs++r).drop z1=r.drop 1)/\(∀ r,(cs++r).take z1=cs++r.take 1)/\
 (∀ r,(cs++r).drop z2=r.drop 2)/\(∀ r,(cs++r).drop z3=r.drop 3)/\(∀ r,(cs++r)[z]?=r[0]?)/\(∀ r,(cs++r)[z1]?=r[1]?)/\(∀ r,(cs++r)[z2]?=r[2]?)/\(∀ r,(cs++r)[z3]?=r[3]?)/\
 (∀ r x,(cs++r).set z x=cs++r.set 0 x)/\(∀ r x,(cs++r).set z1 x=cs++r.set 1 x)/\(∀ r x,(cs++r).set z2 x=cs++r.set 2 x)/\∀ r x,(cs++r).set z3 x=cs++r.set 3 x
theorem ub {cs:List AV}{z z1 z2 z3:Nat} (hl:cs.length=z) (i:Ch cs) (hf:∀ k b,AV.dD k b cs=some cs) (e1:z1=z+1) (e2:z2=z+2) (e3:z3=z+3):Dv cs z z1 z2 z3:=by
 subst hl e1 e2 e3
 have dr:∀ (j:Nat) (r:List AV),(cs++r).drop (cs.length+j)=r.drop j:=fun j r=>by rw[List.drop_append,Dr (by omega),E8];rfl
 have ge:∀ (j:Nat) (r:List AV),(cs++r)[cs.length+j]?=r[j]?:=fun j r=>by rw[CX (by omega),E8]
 have se:∀ (j:Nat) (r:List AV) (x:AV),(cs++r).set (cs.length+j) x=cs++r.set j x:=fun j r x=>by rw[List.set_append_right _ _ (by omega),E8]
 exact⟨i.sh,i.ak,i.br,i.refs,i.imp,i.aV,i.un,fun r=>DU rfl,BA,fun r=>List.drop_left' rfl,List.drop_length,fun k b r=>aob (hf k b) r,fun G r=>an9 i G r,fun ks r=>ard i ks r,fun r=>A1,fun r q=>Cy _ _ _,
  dr 1,fun r=>by rw[List.take_append,Co (by omega),E8],dr 2,dr 3,ge 0,ge 1,ge 2,ge 3,se 0,se 1,se 2,se 3⟩
def SQ:List SC->SC
 |[]=>.skip
 |[a]=>a
 |a::b::l=>.seq a (SQ (b::l))
def RG (l:List Az):SC:=.lS l
def CN (t:Nat) (a b:SC):SC:=.cond (.tmp t) a b
def gd (g:Nat) (w:Bool) (o:Az):Az:=⟨o.dst,o.op,o.type,some (g,w),o.drop⟩
def oQ (d:Nat) (o:Op) (t:Nat) (l:List Nat:=[]):Az:=⟨some d,o,t,none,l⟩
def wV (d a t:Nat) (l:List Nat:=[]):Az:=⟨some d,.move (.tmp a),t,none,l⟩
def wD (d t a:Nat) (l:List Nat:=[]):Az:=⟨some d,.load t (.tmp a),t,none,l⟩
def wF (d t a f:Nat) (l:List Nat:=[]):Az:=⟨some d,.fieldAddr t (.tmp a) f,0,none,l⟩
def wI (d t a b:Nat) (l:List Nat:=[]):Az:=⟨some d,.indexAddr t (.tmp a) (.tmp b),0,none,l⟩
def wJ (d t a:Nat) (n:Int) (l:List Nat:=[]):Az:=⟨some d,.indexAddr t (.tmp a) (.const (.int .i64 n)),0,none,l⟩
def wG (d a t:Nat) (l:List Nat:=[]):Az:=⟨some d,.assign (.tmp a),t,none,l⟩
def wN (d:Nat) (n:Int) (t:Nat) (l:List Nat:=[]):Az:=⟨some d,.assign (.const (.int .i64 n)),t,none,l⟩
def wB (d:Nat) (b:Bool) (t:Nat) (l:List Nat:=[]):Az:=⟨some d,.assign (.const (.bool b)),t,none,l⟩
def wX (d a i t:Nat) (l:List Nat:=[]):Az:=⟨some d,.extract (.tmp a) i,t,none,l⟩
def wL (d a s t:Nat) (l:List Nat:=[]):Az:=⟨some d,.call ⟨.builtin .len,#[.tmp a],#[s]⟩,t,none,l⟩
def wC (d f:Nat) (xs:Array Operand) (ts:Array Nat) (t:Nat) (l:List Nat:=[]):Az:=⟨some d,.call ⟨.value (.func f),xs,ts⟩,t,none,l⟩
def wU (d f a s t:Nat) (l:List Nat:=[]):Az:=⟨some d,.call ⟨.value (.func f),#[.tmp a],#[s]⟩,t,none,l⟩
def wW (d f a b s u t:Nat) (l:List Nat:=[]):Az:=⟨some d,.call ⟨.value (.func f),#[.tmp a,.tmp b],#[s,u]⟩,t,none,l⟩
def wP (d a b s u t:Nat) (l:List Nat:=[]):Az:=⟨some d,.call ⟨.builtin .append,#[.tmp a,.tmp b],#[s,u]⟩,t,none,l⟩
def wO (d:Nat) (o:BinOp) (s a b u t:Nat) (l:List Nat:=[]):Az:=⟨some d,.binOp o s (.tmp a) (.tmp b) u,t,none,l⟩
def wK (d:Nat) (o:BinOp) (s a:Nat) (n:Int) (u t:Nat) (l:List Nat:=[]):Az:=⟨some d,.binOp o s (.tmp a) (.const (.int .i64 n)) u,t,none,l⟩
def wS (t a v:Nat) (l:List Nat:=[]):Az:=⟨none,.store t (.tmp a) (.tmp v),0,none,l⟩
def wA (d t:Nat) (l:List Nat:=[]):Az:=⟨some d,.alloc t,0,none,l⟩
def wE (d t v:Nat) (l:List Nat:=[]):Az:=⟨some d,.box t (.tmp v),0,none,l⟩
def wT (d a b t:Nat) (l:List Nat:=[]):Az:=⟨some d,.pick (.tmp a) (.const (.bool true)) (.tmp b),t,none,l⟩
def wZ (d a b t:Nat) (l:List Nat:=[]):Az:=⟨some d,.pick (.tmp a) (.tmp b) (.const (.bool false)),t,none,l⟩
def wQ (d a t:Nat) (l:List Nat:=[]):Az:=⟨some d,.unOp .not t (.tmp a),t,none,l⟩
def wY (d s u a t:Nat) (l:List Nat:=[]):Az:=⟨some d,.convert s u (.tmp a),t,none,l⟩
attribute [go_sem] SQ RG CN gd oQ wV wD wF wI wJ wG wN wB wX wL wC wU wW wP wO wK wS wA wE wT wZ wQ wY
section
variable [Md] {P:Program}{T:AR}{n:Nat}{Φ:Exit->St->Prop}{C:List (De×Rd)->St->Prop}
theorem BS {f:List It->St->Ev}{b:Bool}{t t':List It}{s s':St}{ρ:Type}{A B:Option ρ}{r:ρ} (h:(bif !b then A else B)=some r) (h1:b=false->A=some r->AM P n Φ (f t s)) (h2:b=true->B=some r->AM P n Φ (f t' s')):AM P n Φ (two f (!b) t s t' s'):=by
 cases b with
 |true=>exact h2 rfl h
 |false=>exact h1 rfl h
theorem II {f:List Az->List (De×Rd)->St->CK}{b:Bool}{os ju:List Az}{acc iZ:List (De×Rd)}{st ay:St}{ρ:Type}{A B:Option ρ}{r:ρ} (h:(bif !b then A else B)=some r) (h1:b=false->A=some r->DG P T C (f os acc st)) (h2:b=true->B=some r->DG P T C (f ju iZ ay)):DG P T C (rE f (!b) os acc st ju iZ ay):=by
 cases b with
 |true=>exact h2 rfl h
 |false=>exact h1 rfl h
theorem AF {p:Prop} (F:p) {f:List It->St->Ev}{b:Bool}{t t':List It}{s s':St}{ρ:Type}{A B:Option ρ}{r:ρ} (h:(bif b then A else B)=some r) (h1:b=true/\p->A=some r->AM P n Φ (f t s)) (h2:b=false/\p->B=some r->AM P n Φ (f t' s')):AM P n Φ (two f b t s t' s'):=AP h (fun a=>h1 ⟨a,F⟩) (fun a=>h2 ⟨a,F⟩)
theorem A7 {p:Prop} (F:p) {f:List It->St->Ev}{b:Bool}{t t':List It}{s s':St}{ρ:Type}{A B:Option ρ}{r:ρ} (h:(bif !b then A else B)=some r) (h1:b=false/\p->A=some r->AM P n Φ (f t s)) (h2:b=true/\p->B=some r->AM P n Φ (f t' s')):AM P n Φ (two f (!b) t s t' s'):=BS h (fun a=>h1 ⟨a,F⟩) (fun a=>h2 ⟨a,F⟩)
theorem DF {p:Prop} (F:p) {f:List Az->List (De×Rd)->St->CK}{b:Bool}{os ju:List Az}{acc iZ:List (De×Rd)}{st ay:St}{ρ:Type}{A B:Option ρ}{r:ρ} (h:(bif b then A else B)=some r) (h1:b=true/\p->A=some r->DG P T C (f os acc st)) (h2:b=false/\p->B=some r->DG P T C (f ju iZ ay)):DG P T C (rE f b os acc st ju iZ ay):=FI h (fun a=>h1 ⟨a,F⟩) (fun a=>h2 ⟨a,F⟩)
theorem Fu {p:Prop} (F:p) {f:List Az->List (De×Rd)->St->CK}{b:Bool}{os ju:List Az}{acc iZ:List (De×Rd)}{st ay:St}{ρ:Type}{A B:Option ρ}{r:ρ} (h:(bif !b then A else B)=some r) (h1:b=false/\p->A=some r->DG P T C (f os acc st)) (h2:b=true/\p->B=some r->DG P T C (f ju iZ ay)):DG P T C (rE f (!b) os acc st ju iZ ay):=II h (fun a=>h1 ⟨a,F⟩) (fun a=>h2 ⟨a,F⟩)
theorem anB (hT:AX P T) {ops:List Az}{befs:List (List Nat)}{todo:List It}{acc ds:List (De×Rd)}{st vr:St} (h:AM P n Φ (run T 1000 todo vr)) (hC:(calm ops befs ds=true/\AK P n Φ todo vr)->C acc st) {sk:List (List (Nat×Nat)×Rd)} (h1:oK ds=sk) (h2:calm ops befs (oT sk)=true):
  DG P T C (.done acc st):=IK (hC ⟨amY h1 h2,ik hT 1000 _ _ h⟩)
end
end Go.Abs
namespace Go.Abs
open Go
theorem aW {n:Int} (h1:-9223372036854775808<=n) (h2:n<=9223372036854775807):ab n=n:=by
 simp only[ab,IntKind.wrap,IntKind.bits,IntKind.signed]
 simp
 omega
theorem bp {α:Type}{l:List α}{i:Nat}{x:α} (h:l[i]?=some x):at? l (i:Int)=some x:=by
 have:i<l.length:=(gS.1 h).1
 unfold at?
 rw[if_pos ⟨by omega,by omega⟩]
 simpa using h
def scan {R:Type} (g:Nat->Option R):Nat->Nat->Option R
 |_,0=>none
 |i,n+1=>match g i with
  |some r=>some r
  |none=>scan g (i+1) n
theorem asf {R:Type}{body:Int->Option (AN Int Unit R)}{n:Nat}{g:Nat->Option R} (hn:n<=9223372036854775807)
  (h1:∀ i,i<n->body (i:Int)=some (match g i with|some r=>.ret r|none=>.next (ab ((i:Int)+1)))) (h2:body (n:Int)=some (.brk ())):
  ∀ (k d i:Nat),i+d=n->d<k->ai body k (i:Int)=some (match scan g i d with|some r=>.ret r|none=>.brk ()):=by
 intro k
 induction k with
 |zero=>intro d i _ h;omega
 |succ k ih=>
  intro d i hd hk
  cases d with
  |zero=>
   have:i=n:=by omega
   subst this
   rw[ai,h2];rfl
  |succ d=>
   rw[ai,h1 i (by omega)]
   cases hg:g i with
   |some r=>simp only[scan,hg]
   |none=>
    simp only[scan,hg]
    have:ab ((i:Int)+1)=((i+1:Nat):Int):=by rw[aW (by omega) (by omega)];omega
    rw[this]
    exact ih d (i+1) (by omega) (by omega)
theorem asd {α R:Type}{l:List α}{body:Int->Option (AN Int Unit R)}{f:α->Option R} (hn:l.length<=9223372036854775807) {k:Nat} (hk:l.length<k)
  (h1:∀ (i:Nat) x,l[i]?=some x->body (i:Int)=some (match f x with|some r=>.ret r|none=>.next (ab ((i:Int)+1)))) (h2:body (l.length:Int)=some (.brk ())):
  ai body k 0=some (match l.findSome? f with|some r=>.ret r|none=>.brk ()):=by
 have key:∀ (m:List α) (i k:Nat),l.drop i=m->i+m.length=l.length->m.length<k->ai body k (i:Int)=some (match m.findSome? f with|some r=>.ret r|none=>.brk ()):=by
  intro m
  induction m with
  |nil=>
   intro i k _ h3 h4
   cases k with
   |zero=>omega
   |succ k=>
    have:i=l.length:=by simpa using h3
    subst this
    rw[ai,h2];rfl
  |cons x m ih=>
   intro i k h5 h3 h4
   cases k with
   |zero=>omega
   |succ k=>
    simp only[AA]at h3 h4
    have hx:l[i]?=some x:=by
     have:=congrArg (fun q=>q[0]?) h5
     simpa using this
    rw[ai,h1 i x hx]
    cases hf:f x with
    |some r=>simp only[List.findSome?_cons,hf]
    |none=>
     simp only[List.findSome?_cons,hf]
     have:ab ((i:Int)+1)=((i+1:Nat):Int):=by rw[aW (by omega) (by omega)];omega
     rw[this]
     exact ih (i+1) k (by rw[<-List.drop_drop,h5];rfl) (by omega) (by omega)
 exact key l 0 k rfl (by simp) hk
theorem qa {α S R τ:Type}{l:List α}{body:τ->Option (AN τ S R)} (mk:Int->S->τ) (f:S->α->S) (Inv:Nat->S->Prop) (hn:l.length<=9223372036854775807) {k:Nat} (hk:l.length<k) {s0:S} (h0:Inv 0 s0)
  (h1:∀ (i:Nat) x s,l[i]?=some x->Inv i s->body (mk (i:Int) s)=some (.next (mk (ab ((i:Int)+1)) (f s x)))/\Inv (i+1) (f s x)) (h2:∀ s,Inv l.length s->body (mk (l.length:Int) s)=some (.brk s)):
  ai body k (mk 0 s0)=some (.brk (l.foldl f s0))/\Inv l.length (l.foldl f s0):=by
 have key:∀ (m:List α) (i k:Nat) (s:S),l.drop i=m->i+m.length=l.length->m.length<k->Inv i s->ai body k (mk (i:Int) s)=some (.brk (m.foldl f s))/\Inv l.length (m.foldl f s):=by
  intro m
  induction m with
  |nil=>
   intro i k s _ h3 h4 hI
   cases k with
   |zero=>omega
   |succ k=>
    have:i=l.length:=by simpa using h3
    subst this
    exact⟨by rw[ai,h2 s hI];rfl,hI⟩
  |cons x m ih=>
   intro i k s h5 h3 h4 hI
   cases k with
   |zero=>omega
   |succ k=>
    simp only[AA]at h3 h4
    have hx:l[i]?=some x:=by
     have:=congrArg (fun q=>q[0]?) h5
     simpa using this
    obtain⟨h6,h7⟩:=h1 i x s hx hI
    have:ab ((i:Int)+1)=((i+1:Nat):Int):=by rw[aW (by omega) (by omega)];omega
    rw[this]at h6
    rw[ai,h6]
    exact ih (i+1) k (f s x) (by rw[<-List.drop_drop,h5];rfl) (by omega) (by omega) h7
 exact key l 0 k s0 rfl (by simp) hk h0
theorem nG {α:Type}{b:Nat}{l:List α}{x:α} (h:(l.length+1)*b<=140737488355328) (h2:l.length+1<4611686018427387904):eO b l x=some (l++[x]):=by
 unfold eO cY
 rw[if_pos ⟨by simpa using h,by simpa using h2⟩]
end Go.Abs
