/-
  Part 3 of the proof: a machine over named blocks, what each function computes, and what follows. No condition.
-/
import Derived.Defers
import Derived.Recover
import Derived.RangeFuncNested
import Derived.Maps.OwnSet
import Derived.Maps.Views
import Derived.DeepKeys4
import Derived.Test.YtpgccpdlilnakaaBAppendsB
set_option linter.unusedVariables false
set_option linter.unusedSimpArgs false
set_option linter.all false
namespace Go.Abs
open Go
def og (d:Nat) (o:Op) (t a:Nat) (b:Bool) (l:List Nat):An:=⟨some d,o,t,some (a,b),l⟩
def oq (d:Nat) (o:Op) (t:Nat) (l:List Nat):An:=⟨some d,o,t,none,l⟩
def mv (d s t:Nat) (l:List Nat):An:=⟨some d,.move (.tmp s),t,none,l⟩
def ld (d t s:Nat) (l:List Nat):An:=⟨some d,.load t (.tmp s),t,none,l⟩
def fa (d t s i:Nat) (l:List Nat):An:=⟨some d,.fieldAddr t (.tmp s) i,0,none,l⟩
def ia (d t s i:Nat) (l:List Nat):An:=⟨some d,.indexAddr t (.tmp s) (.tmp i),0,none,l⟩
def sg (d s t:Nat) (l:List Nat):An:=⟨some d,.assign (.tmp s),t,none,l⟩
def sn (d:Nat) (n:Int) (t:Nat) (l:List Nat):An:=⟨some d,.assign (.const (.int .i64 n)),t,none,l⟩
def sb (d:Nat) (b:Bool) (t:Nat) (l:List Nat):An:=⟨some d,.assign (.const (.bool b)),t,none,l⟩
def xt (d s i t:Nat) (l:List Nat):An:=⟨some d,.extract (.tmp s) i,t,none,l⟩
def ln (d s u t:Nat) (l:List Nat):An:=⟨some d,.call ⟨.builtin .len,#[.tmp s],#[u]⟩,t,none,l⟩
def cf1 (d f a ta t:Nat) (l:List Nat):An:=⟨some d,.call ⟨.value (.func f),#[.tmp a],#[ta]⟩,t,none,l⟩
def cf2 (d f a b ta tb t:Nat) (l:List Nat):An:=⟨some d,.call ⟨.value (.func f),#[.tmp a,.tmp b],#[ta,tb]⟩,t,none,l⟩
def b2 (d:Nat) (o:BinOp) (u a b v t:Nat) (l:List Nat):An:=⟨some d,.binOp o u (.tmp a) (.tmp b) v,t,none,l⟩
def bn (d:Nat) (o:BinOp) (u a:Nat) (n:Int) (v t:Nat) (l:List Nat):An:=⟨some d,.binOp o u (.tmp a) (.const (.int .i64 n)) v,t,none,l⟩
attribute [go_sem] og oq mv ld fa ia sg sn sb xt ln cf1 cf2 b2 bn
theorem aa {α:Type}{l:List α}{i:Int}{x:α} (h:at? l i=some x):fW i l.length=some i.toNat/\∀ (β:Type) (E:α->β),(l.map E)[i.toNat]?=some (E x):=⟨aC h,fun _ E=>aD E h⟩
theorem bs {α β:Type}{o:Option α}{f:α->Option β}{r:β} (h:o.bind f=some r):∃ x,o=some x/\f x=some r:=bind_some h
structure Aa (n:Nat) (α:Type) where
 l:List α
 h:l.length=n
def Aa.c {n:Nat}{α:Type} (E:α->List AV) (v:Aa n α):List AV:=(v.l.map E).flatten
theorem Aa.ext {n:Nat}{α:Type}{a b:Aa n α} (h:a.l=b.l):a=b:=by
 cases a;cases b;cases h;rfl
theorem aa8 {α:Type}{E:α->List AV}{z:Nat} (h:∀ x,(E x).length=z):∀ l:List α,(l.map E).flatten.length=l.length*z
 |[]=>by simp
 |x::l=>by rw[List.map_cons,Cu,A8,h,aa8 h l,AA,Nat.succ_mul];omega
theorem Aa.len {n:Nat}{α:Type}{E:α->List AV}{z:Nat} (h:∀ x,(E x).length=z) (v:Aa n α):(v.c E).length=n*z:=by
 unfold Aa.c;rw[aa8 h,v.h]
def Aa.at? {n:Nat}{α:Type} (v:Aa n α) (i:Int):Option α:=if 0<=i/\i<n then v.l[i.toNat]? else none
def Aa.set {n:Nat}{α:Type} (v:Aa n α) (i:Int) (x:α):Aa n α:=⟨v.l.set i.toNat x,by simp[v.h]⟩
def Aa.rep (n:Nat) {α:Type} (x:α):Aa n α:=⟨List.replicate n x,by simp⟩
theorem aq {n:Nat}{α:Type}{v:Aa n α}{i:Int}{x:α} (h:v.at? i=some x):fW i n=some i.toNat:=by
 unfold Aa.at? at h
 split at h
 ·rename_i hc;unfold fW;rw[if_pos hc]
 ·cases h
theorem ajh {n:Nat}{α:Type}{v:Aa n α}{i:Int}{x:α} (h:v.at? i=some x):v.l[i.toNat]?=some x:=by
 unfold Aa.at? at h
 split at h
 ·exact h
 ·cases h
def Sub (cs:List AV) (o:Nat) (c:List AV):Prop:=∃ a b,cs=a++(c++b)/\a.length=o
theorem Sub.self (c:List AV):Sub c 0 c:=⟨[],[],by simp,rfl⟩
theorem Sub.trans {cs c c':List AV}{o o':Nat} (h:Sub cs o c) (k:Sub c o' c'):Sub cs (o+o') c':=by
 obtain⟨a,b,rfl,rfl⟩:=h
 obtain⟨a',b',rfl,rfl⟩:=k
 exact⟨a++a',b'++b,by simp,by simp⟩
theorem Sub.cons (x:AV) {cs c:List AV}{o:Nat} (h:Sub cs o c):Sub (x::cs) (o+1) c:=by
 obtain⟨a,b,rfl,rfl⟩:=h
 exact⟨x::a,b,by simp,by simp⟩
theorem Sub.bound {cs c:List AV}{o z:Nat} (h:Sub cs o c) (hz:c.length=z):o+z<=cs.length:=by
 obtain⟨a,b,rfl,rfl⟩:=h
 simp;omega
theorem Sub.get {cs c:List AV}{o z:Nat} (h:Sub cs o c) (hz:c.length=z):(cs.drop o).take z=c:=by
 obtain⟨a,b,rfl,rfl⟩:=h
 subst hz
 simp
theorem Sub.idx {n:Nat}{α:Type}{E:α->List AV}{z:Nat} (hE:∀ x,(E x).length=z) {v:Aa n α}{i:Int}{x:α} (h:v.at? i=some x):Sub (v.c E) (i.toNat*z) (E x):=by
 have hg:=ajh h
 obtain⟨ae,hx⟩:=gS.1 hg
 refine⟨((v.l.take i.toNat).map E).flatten,((v.l.drop (i.toNat+1)).map E).flatten,?_,?_⟩
 ·unfold Aa.c
  conv=>lhs;rw[<-C2 i.toNat v.l,List.drop_eq_getElem_cons ae,hx]
  simp
 ·rw[aa8 hE,A9,Nat.min_eq_left (by omega)]
theorem apt {cs c c':List AV}{o o':Nat} (h:Sub cs o c) (k:Sub c o' c') {new:List AV} (hl:new.length=c'.length):overwrite cs (o+o') new=overwrite cs o (overwrite c o' new):=by
 obtain⟨a,b,rfl,rfl⟩:=h
 obtain⟨a',b',rfl,rfl⟩:=k
 have h1:overwrite (a++((a'++(c'++b'))++b)) (a.length+a'.length) new=a++(a'++(new++(b'++b))):=by
  unfold overwrite
  rw[hl]
  have e1:(a++((a'++(c'++b'))++b))=(a++a')++(c'++(b'++b)):=by simp
  rw[e1,DQ (by simp),<-List.drop_drop,List.drop_left' (by simp),List.drop_left' rfl]
  simp
 have h2:overwrite (a'++(c'++b')) a'.length new=a'++(new++b'):=by
  unfold overwrite
  rw[hl,DQ rfl,<-List.drop_drop,List.drop_left' rfl,List.drop_left' rfl]
 rw[h1,h2]
 unfold overwrite
 rw[DQ rfl,<-List.drop_drop,List.drop_left' rfl,List.drop_left' (by simp[hl])]
 simp
theorem apr {n:Nat}{α:Type}{E:α->List AV}{z:Nat} (hE:∀ x,(E x).length=z) {v:Aa n α}{i:Int}{x:α} (h:v.at? i=some x) (y:α):overwrite (v.c E) (i.toNat*z) (E y)=(v.set i y).c E:=by
 have hg:=ajh h
 obtain⟨ae,hx⟩:=gS.1 hg
 have e1:v.c E=((v.l.take i.toNat).map E).flatten++(E x++((v.l.drop (i.toNat+1)).map E).flatten):=by
  unfold Aa.c
  conv=>lhs;rw[<-C2 i.toNat v.l,List.drop_eq_getElem_cons ae,hx]
  simp
 have e2:(v.set i y).c E=((v.l.take i.toNat).map E).flatten++(E y++((v.l.drop (i.toNat+1)).map E).flatten):=by
  unfold Aa.c Aa.set
  simp only
  rw[List.set_eq_take_append_cons_drop,if_pos ae]
  simp
 have hl:(((v.l.take i.toNat).map E).flatten).length=i.toNat*z:=by rw[aa8 hE,A9,Nat.min_eq_left (by omega)]
 rw[e1,e2]
 unfold overwrite
 rw[<-hl,DQ rfl,<-List.drop_drop,List.drop_left' rfl,List.drop_left' (by rw[hE,hE])]
theorem aps {c new:List AV} (h:new.length=c.length):overwrite c 0 new=new:=by
 unfold overwrite;rw[Cq,h,List.drop_length];simp
theorem apo (x:AV) (cs new:List AV) (o:Nat):overwrite (x::cs) (o+1) new=x::overwrite cs o new:=by
 unfold overwrite;rw[show o+1+new.length=(o+new.length)+1 by omega];simp
structure VK {α:Type} (z:Nat) (E:α->List AV):Prop where
 len:∀ x,(E x).length=z
 rD:∀ x,Co (E x)
theorem ai3 (d:Nat):∀ a b x y:List AV,AV.fZ d a=some x->AV.fZ d b=some y->AV.fZ d (a++b)=some (x++y)
 |[],b,x,y,h,k=>by simp only[AV.fZ,oE]at h;subst h;simpa using k
 |u::a,b,x,y,h,k=>by
  simp only[AV.fZ]at h
  split at h
  ·rename_i p q hp hq
   obtain rfl:=oi h
   simp only[Bq,AV.fZ,hp,ai3 d a b q y hq k]
  ·cases h
theorem agS (G:AR):∀ a b x y:List AV,AV.aG G a=some x->AV.aG G b=some y->AV.aG G (a++b)=some (x++y)
 |[],b,x,y,h,k=>by simp only[AV.aG,oE]at h;subst h;simpa using k
 |u::a,b,x,y,h,k=>by
  simp only[AV.aG]at h
  split at h
  ·rename_i p q hp hq
   obtain rfl:=oi h
   simp only[Bq,AV.aG,hp,agS G a b q y hq k]
  ·cases h
theorem afE (G:AR) (F:Nat->Nat->Option (List AV)):∀ a b x y:List AV,AV.cW G F a=some x->AV.cW G F b=some y->AV.cW G F (a++b)=some (x++y)
 |[],b,x,y,h,k=>by simp only[AV.cW,oE]at h;subst h;simpa using k
 |u::a,b,x,y,h,k=>by
  simp only[AV.cW]at h
  split at h
  ·rename_i p q hp hq
   obtain rfl:=oi h
   simp only[Bq,AV.cW,hp,afE G F a b q y hq k]
  ·cases h
theorem aiy (ks:List Nat):∀ a b x y:List AV,AV.dI ks a=some x->AV.dI ks b=some y->AV.dI ks (a++b)=some (x++y)
 |[],b,x,y,h,k=>by simp only[AV.dI,oE]at h;subst h;simpa using k
 |u::a,b,x,y,h,k=>by
  simp only[AV.dI]at h
  split at h
  ·rename_i p q hp hq
   obtain rfl:=oi h
   simp only[Bq,AV.dI,hp,aiy ks a b q y hq k]
  ·cases h
theorem adQ (k:Nat):∀ a b:List AV,AV.iv k (a++b)=AV.iv k a++AV.iv k b
 |[],b=>rfl
 |x::a,b=>by simp only[Bq,AV.iv,adQ k a b]
theorem aev:∀ a b:List AV,AV.aN (a++b)=AV.aN a++AV.aN b
 |[],b=>rfl
 |x::a,b=>by simp only[Bq,AV.aN,aev a b,Cp]
theorem Co.append {a b:List AV} (h:Co a) (k:Co b):Co (a++b):=
 ⟨fun d=>by rw[aeD,h.sh,k.sh],fun G=>agS G _ _ _ _ (h.ai G) (k.ai G),fun G F=>afE G F _ _ _ _ (h.br G F) (k.br G F),by rw[aev,h.refs,k.refs];rfl,
  fun n=>by rw[adQ,h.imp,k.imp],fun ks=>aiy ks _ _ _ _ (h.aQ ks) (k.aQ ks),fun d=>ai3 d _ _ _ _ (h.un d) (k.un d)⟩
theorem Co.nil:Co []:=⟨fun _=>rfl,fun _=>rfl,fun _ _=>rfl,rfl,fun _=>rfl,fun _=>rfl,fun _=>rfl⟩
theorem Co.flat {α:Type}{E:α->List AV} (h:∀ x,Co (E x)):∀ l:List α,Co (l.map E).flatten
 |[]=>Co.nil
 |x::l=>by rw[List.map_cons,Cu];exact(h x).append (Co.flat h l)
theorem VK.vec {α:Type}{z:Nat}{E:α->List AV} (h:VK z E) (n:Nat):VK (n*z) (Aa.c (n:=n) E):=
 ⟨fun v=>v.len h.len,fun v=>Co.flat h.rD v.l⟩
theorem oU:VK 1 eI:=⟨fun _=>rfl,fun _=>⟨fun _=>rfl,fun _=>rfl,fun _ _=>rfl,rfl,fun _=>rfl,fun _=>rfl,fun _=>rfl⟩⟩
theorem mT:VK 1 af:=⟨fun _=>rfl,fun _=>⟨fun _=>rfl,fun _=>rfl,fun _ _=>rfl,rfl,fun _=>rfl,fun _=>rfl,fun _=>rfl⟩⟩
theorem agf:∀ (z a b z' a' b':List AV),z.length=a.length->a.length=b.length->bJ (z++z') (a++a') (b++b')=(match bJ z a b,bJ z' a' b' with
  |some p,some q=>some (p&&q)
  |_,_=>none)
 |[],[],[],z',a',b',_,_=>by
  simp only[BM,bJ]
  cases bJ z' a' b'<;>simp
 |x::z,p::a,q::b,z',a',b',h1,h2=>by
  simp only[Bq,bJ]
  rw[agf z a b z' a' b' (by simpa using h1) (by simpa using h2)]
  cases j7 x p q<;>cases bJ z a b<;>cases bJ z' a' b'<;>simp[Bool.and_assoc]
 |[],_::_,_,_,_,_,h,_=>by simp at h
 |_::_,[],_,_,_,_,h,_=>by simp at h
 |[],[],_::_,_,_,_,_,h=>by simp at h
 |_::_,_::_,[],_,_,_,_,h=>by simp at h
theorem agh {α:Type}{E:α->List AV}{z:Nat}{zc:List AV} (hE:∀ x,(E x).length=z) (hz:zc.length=z) (eq:α->α->Bool) (h:∀ x y,bJ zc (E x) (E y)=some (eq x y)):
  ∀ (n:Nat) (a b:List α),a.length=n->b.length=n->bJ (List.replicate n zc).flatten (a.map E).flatten (b.map E).flatten=some (a.zip b |>.all fun p=>eq p.1 p.2)
 |0,[],[],_,_=>by simp[bJ]
 |n+1,x::a,y::b,h1,h2=>by
  rw[List.replicate_succ,List.map_cons,List.map_cons,Cu,Cu,Cu,agf _ _ _ _ _ _ (by rw[hz,hE]) (by rw[hE,hE]),h x y,
   agh hE hz eq h n a b (by simpa using h1) (by simpa using h2)]
  simp
structure Ao {α:Type} (cs:List AV) (o:Nat) (E:α->List AV) (x:α) (g:α->List AV):Prop where
 sub:Sub cs o (E x)
 ow:∀ y,overwrite cs o (E y)=g y
theorem Ao.self {α:Type}{E:α->List AV}{z:Nat} (hE:∀ x,(E x).length=z) (x:α):Ao (E x) 0 E x E:=
 ⟨Sub.self _,fun y=>aps (by rw[hE,hE])⟩
theorem Ao.cons {α:Type}{E:α->List AV}{cs:List AV}{o:Nat}{x:α}{g:α->List AV} (a:AV) (h:Ao cs o E x g):Ao (a::cs) (o+1) E x (fun y=>a::g y):=
 ⟨h.sub.cons a,fun y=>by rw[apo,h.ow]⟩
theorem Ao.skip {α:Type}{E:α->List AV}{cs:List AV}{o:Nat}{x:α}{g:α->List AV} (h:Ao cs o E x g):∀ p:List AV,Ao (p++cs) (p.length+o) E x (fun y=>p++g y)
 |[]=>by simpa using h
 |a::p=>by
  have:=(Ao.skip h p).cons a
  rw[AA,show p.length+1+o=p.length+o+1 by omega]
  exact this
theorem Ao.idx {n:Nat}{α:Type}{E:α->List AV}{z:Nat} (hE:∀ x,(E x).length=z) {v:Aa n α}{i:Int}{x:α} (h:v.at? i=some x):Ao (v.c E) (i.toNat*z) E x (fun y=>(v.set i y).c E):=
 ⟨Sub.idx hE h,fun y=>apr hE h y⟩
theorem Ao.within {α β:Type}{cs:List AV}{o o':Nat}{E:α->List AV}{x:α}{g:α->List AV}{E':β->List AV}{x':β}{g':β->List AV}{z:Nat} (hE:∀ x,(E' x).length=z)
  (h:Ao cs o E x g) (k:Ao (E x) o' E' x' g') (up:β->α) (hg:∀ y,g' y=E (up y)):Ao cs (o+o') E' x' (fun y=>g (up y)):=
 ⟨h.sub.trans k.sub,fun y=>by rw[apt h.sub k.sub (by rw[hE,hE]),k.ow,hg,h.ow]⟩
theorem Ao.at {n:Nat}{α:Type}{E:α->List AV}{z:Nat} (hE:∀ x,(E x).length=z) {cs:List AV}{o:Nat}{v:Aa n α}{g:Aa n α->List AV} (h:Ao cs o (Aa.c E) v g) {i:Int}{x:α} (hx:v.at? i=some x):
  Ao cs (o+i.toNat*z) E x (fun y=>g (v.set i y)):=
 Ao.within hE h (Ao.idx hE hx) (fun y=>v.set i y) (fun _=>rfl)
theorem Ao.bound {α:Type}{cs:List AV}{o z:Nat}{E:α->List AV}{x:α}{g:α->List AV} (h:Ao cs o E x g) (hE:∀ x,(E x).length=z):o+z<=cs.length:=h.sub.bound (hE x)
theorem Ao.get {α:Type}{cs:List AV}{o z:Nat}{E:α->List AV}{x:α}{g:α->List AV} (h:Ao cs o E x g) (hE:∀ x,(E x).length=z):(cs.drop o).take z=E x:=h.sub.get (hE x)
def Aa.eq {n:Nat}{α:Type} (eq:α->α->Bool) (a b:Aa n α):Bool:=(a.l.zip b.l).all fun p=>eq p.1 p.2
theorem agj {n:Nat}{α:Type}{E:α->List AV}{z:Nat} (hE:∀ x,(E x).length=z) {x0:α}{eq:α->α->Bool} (h:∀ x y,bJ (E x0) (E x) (E y)=some (eq x y)) (a b:Aa n α):
  bJ ((Aa.rep n x0).c E) (a.c E) (b.c E)=some (a.eq eq b):=by
 have:=agh hE (hE x0) eq h n a.l b.l a.h b.h
 unfold Aa.c Aa.rep Aa.eq
 simp only[List.map_replicate]
 exact this
def Aa.put {n:Nat}{α:Type} (v:Aa n α) (o m:Nat) (l:List α):Aa n α:=
 if h:o+m<=n then ⟨v.l.take o++(l.take m++v.l.drop (o+min l.length m)),by
  simp only[A8,A9,Bi,v.h];omega⟩ else v
theorem aai {n:Nat} (v:Aa n Int):v.c af=v.l.map (AV.int .u8):=by
 unfold Aa.c af
 induction v.l with
 |nil=>rfl
 |cons x l ih=>simp[ih]
theorem amK (l:List Int):(l.map af).flatten=l.map (AV.int .u8):=by
 unfold af
 induction l with
 |nil=>rfl
 |cons x l ih=>simp[ih]
theorem ahw {n:Nat} (v:Aa n Int) (o m:Nat):(AV.aG (fun _ _=>none) (((v.c af).drop o).take m)).map (fun cs=>cs.map fun c=>[c])=some ((((v.l.drop o).take m)).map af):=by
 rw[aai,<-List.map_drop,<-List.map_take]
 generalize (v.l.drop o).take m=l
 have:AV.aG (fun _ _=>none) (l.map (AV.int .u8))=some (l.map (AV.int .u8)):=by
  induction l with
  |nil=>rfl
  |cons x l ih=>simp only[List.map_cons,AV.aG,AV.ai,ih]
 rw[this]
 simp[af]
theorem apI {n:Nat} (v:Aa n Int) (o m:Nat) (l:List Int) (h:o+m<=n):overwrite (v.c af) o ((l.map af).take m).flatten=(v.put o m l).c af:=by
 unfold Aa.put
 rw[dif_pos h,<-List.map_take,amK,aai,aai]
 unfold overwrite
 simp only[Dg,List.map_take,List.map_drop,A9,Bg]
 rw[Nat.min_comm]
def strOf (l:List Int):ByteArray:=⟨(l.map fun n=>UInt8.ofNat n.toNat).toArray⟩
theorem acG:∀ l:List Int,bytesOf (l.map af)=some (l.map fun n=>UInt8.ofNat n.toNat)
 |[]=>rfl
 |x::l=>by simp only[List.map_cons,bytesOf,acG l,af,byteOf]
def ib (s:ByteArray):List Int:=s.data.toList.map fun c=>(c.toNat:Int)
theorem aeE (s:ByteArray):ky s=(ib s).map af:=by
 unfold ky ib af;rw[List.map_map];rfl
theorem ku (s:ByteArray):(ib s).length=s.size:=by unfold ib;rw[Bg];rfl
def sa (s:ByteArray) (i:Int):Option Int:=if 0<=i/\i<s.size then some ((s.data.toList.getD i.toNat 0).toNat:Int) else none
theorem aiK {s:ByteArray}{i x:Int} (h:sa s i=some x):fW i s.size=some i.toNat:=by
 unfold sa at h
 split at h
 ·rename_i hc;unfold fW;rw[if_pos hc]
 ·cases h
theorem aiJ {s:ByteArray}{i x:Int} (h:sa s i=some x):((s.data.toList.getD i.toNat 0).toNat:Int)=x:=by
 unfold sa at h
 split at h
 ·exact oi h
 ·cases h
def aad (s:ByteArray):Option Unit:=if s.size<4611686018427387904 then some () else none
theorem aqv {s:ByteArray}{u:Unit} (h:aad s=some u):s.size<4611686018427387904:=by
 unfold aad at h
 split at h
 ·assumption
 ·cases h
theorem aiS (l:List Int):(⟨(l.map fun n=>UInt8.ofNat n.toNat).toArray⟩:ByteArray)=strOf l:=rfl
def amy (x:Int):List AV:=[.int .u64 x]
theorem ba0:(⟨#[]⟩:ByteArray)=ByteArray.empty:=rfl
def mr {α:Type} (l:List α) (i n:Nat) (x:List α):List α:=l.take i++(x.take n++l.drop (i+min x.length n))
theorem alY {α β:Type} (E:α->β) (l:List α) (i n:Nat) (x:List α):(l.map E).take i++((x.map E).take n++(l.map E).drop (i+min (x.map E).length n))=(mr l i n x).map E:=by
 unfold mr;simp[List.map_take,List.map_drop]
theorem af1 {α:Type}{l:List α}{i n:Nat} (x:List α) (h:i+n<=l.length):(mr l i n x).length=l.length:=by
 unfold mr;simp;omega
def lq (y:Int):Option Unit:=if y<0 then none else some ()
theorem aab {y:Int}{u:Unit} (h:lq y=some u):(y<0)=False:=by
 unfold lq at h
 split at h
 ·cases h
 ·rename_i h1;exact eq_false h1
theorem aoL:min (Int.toNat 1) 64=1:=rfl
theorem aoP:min (Int.toNat 8) 64=8:=rfl
theorem aoM:min (Int.toNat 16) 64=16:=rfl
theorem aoN:min (Int.toNat 24) 64=24:=rfl
theorem aoO:min (Int.toNat 32) 64=32:=rfl
attribute [go_sem] aoL aoP aoM aoN aoO amy ba0 uD xD uY adQ aev Bq BM List.append_nil
end Go.Abs
namespace Go.Abs
open Go Go.RowKit
section
variable {P:Program}{T:AM}{N0:Nat}{W0:World}{fm:FM}{ts:List Ak}{H:Heap}{w:World}
def DO (P:Program) (f:FuncId) (args:List AV) (X:Av) (R:AV->Av->Av->Prop):Prop:=
 ∀ (f1:Av) (H:Heap),Cy P f args ((X++f1)::H) (fun y fr H'=>∃ X',R y fr X'/\H'=(X'++f1)::H)
theorem DO.gr (hT : AQ P T) {f : FuncId} {fn : Func} {c : Code} {sc : SC} {args : List AV} {X : Av} {R : AV → Av → Av → Prop} (hf : P.funcs[f]? = some fn) (hb : fn.body = some c) (jl : (fn.name == "runtime.NumGoroutine") = false)
  (he:sc.bare=erase fn.ntmps c) (eN:(erase fn.ntmps c).fits fn.ntmps=true) (fo:args.length<=fn.ntmps)
  (h:∀ f1 H,AK P fn.ntmps (Ends T fn.results.toList fun y fr H'=>∃ X',R y fr X'/\H'=(X'++f1)::H) [.sc sc] (St.enter args ((X++f1)::H) fn.ntmps)):DO P f args X R:=
 fun f1 H=>Cy.gr hT hf hb jl he eN fo (h f1 H) (by rintro y fr H' ⟨X',_,rfl⟩;rfl)
theorem GF {n:Nat}{rs:List ResultVar}{f1:Av}{st:St}{e:Exit}{y0:AV}{X0:Av} (he:e=.ret\/e=.normal) (h1:((gM T st rs).bind fun xs=>(bZ xs).aQ [])=some y0) (h2:st.low=(X0++f1)::H):
  AJ P n (Ends T rs fun y fr H'=>∃ X',(y=y0/\fr=[]/\X'=X0)/\H'=(X'++f1)::H) (.fin e st):=by
 obtain⟨xs,h3,h4⟩:=Option.bind_eq_some_iff.1 h1
 have:∃ xs,gM T st rs=some xs/\D5 (fun y fr H'=>∃ X',(y=y0/\fr=[]/\X'=X0)/\H'=(X'++f1)::H) (bZ xs) st:=
  ⟨xs,h3,.own [] y0 [] (by simp) (by simp) h4 rfl ⟨X0,⟨rfl,rfl,rfl⟩,h2⟩⟩
 rcases he with rfl|rfl<;>exact this
theorem ap5 {xs ys:List AV}{vs:List Value}{ks:List Nat}{t:Ak}{rest:List Ak} (h:Au fm (t::rest) xs vs) (e:AV.dI ks xs=some ys):Au fm (eY ks t::rest) ys vs:=by
 have g:=uf ks _ _ e
 refine⟨by rw[g.1];exact h.1,fun i y v hy hv=>?_⟩
 have ae:i<xs.length:=by rw[<-g.1];exact(gS.1 hy).1
 obtain⟨y',jK,hu⟩:=g.2 i _ (gG ae)
 rw[hy]at jK;obtain rfl:=oi jK
 exact(h.2 i _ v (gG ae) hv).aQ rfl hu
theorem aqk {xs:List AV}{vs:List Value}{t:Ak} (h:Au fm ts xs vs):Au fm (t::ts) (AV.de 1 xs) vs:=by
 refine⟨by rw[mQ];exact h.1,?_⟩
 intro i x v hx hv
 rw[mP,mS]at hx
 obtain⟨y,hy,rfl⟩:=hx
 exact(h.2 i y v hy hv).sh 1 (by simp)
def abu (ks:List Nat) (args:List AV):Option (List AV):=
 match AV.fZ 1 args with
 |some xs=>match AV.dI ks xs with
  |some ys=>some (AV.de 1 ys)
  |none=>none
 |none=>none
section
variable [Md] {n:Nat}{Φ:Exit->St->Prop}{f:FuncId}{args:List AV}{dst:Option Tmp}{drop:List Nat}{todo:List It}{st:St}
theorem CJ.norm {fX:St}{gU:List AV}{nu ks:List Nat}{nx:Nat} (e:st.norm nu ks nx=some fX) (bV:ks.Nodup) (kg:ks.length<=nx) (ea:abu ks args=some gU):CJ n st args fX gU:=by
 intro N0 W0 a w fm ts vs h hv
 unfold St.norm at e
 split at e
 ·rename_i tm fr eF pN
  obtain rfl:=oi e
  cases ts with
  |nil=>have:=h.hr.len;simp at this
  |cons t rest=>
   refine⟨fm,eY ks t::rest,⟨h.hr.aQ pN bV,?_,?_,h.size,h.dX⟩,⟨AN.refl _ _,As.refl _,fun _ _ h=>h⟩,?_⟩
   ·intro i y hy
    obtain⟨x,h1,h2⟩:=aew ks st.tm nu tm eF i y hy
    obtain⟨v,h3,h4⟩:=h.tm i x h1
    exact⟨v,h3,h4.aQ rfl h2⟩
   ·intro k hk
    have eQ:nx<=k:=hk
    simp only[tb,eY]
    rw[CL (by omega)];rfl
   ·unfold abu at ea
    split at ea
    ·rename_i xs fV
     split at ea
     ·rename_i ys lU
      obtain rfl:=oi ea
      have h1:=ai2 fV hv
      exact aqk (ap5 (by simpa using h1) lU)
     ·cases ea
    ·cases ea
 ·cases e
theorem CJ.trans {a b c:St}{xs ys zs:List AV} (h:CJ n a xs b ys) (k:CJ n b ys c zs):CJ n a xs c zs:=by
 intro N0 W0 x w fm ts vs hS hv
 obtain⟨dR,dL,h1,h2,h3⟩:=h N0 W0 x w fm ts vs hS hv
 obtain⟨dS,du,h4,h5,h6⟩:=k N0 W0 x w dR dL vs h1 h3
 exact⟨dS,du,h4,h2.trans h5,h6⟩
theorem HZ {fX:St}{gU:List AV} (hm:CJ n st args fX gU) (h:AJ P n Φ (.call f gU dst drop todo fX)):AJ P n Φ (.call f args dst drop todo st):=by
 obtain⟨ui,ak4,R,Rp,h1,h2,h3,h4⟩:=h
 exact⟨ui,ak4,R,Rp,hm.trans h1,h2,h3,h4⟩
def nOK (P:Program) (n:Nat) (Φ:Exit->St->Prop) (f:FuncId) (dst:Option Tmp) (drop:List Nat) (todo:List It):Option St->Option (List AV)->Prop
 |some fX,some gU=>AJ P n Φ (.call f gU dst drop todo fX)
 |_,_=>False
theorem aoQ {fX:St}{gU:List AV}:nOK P n Φ f dst drop todo (some fX) (some gU)=AJ P n Φ (.call f gU dst drop todo fX):=rfl
theorem Fc (nu ks:List Nat) (nx:Nat) (bV:(decide ks.Nodup&&decide (ks.length<=nx))=true) (h:nOK P n Φ f dst drop todo (st.norm nu ks nx) (abu ks args)):AJ P n Φ (.call f args dst drop todo st):=by
 unfold nOK at h
 split at h
 ·rename_i fX gU h1 h2
  simp only[A7,decide_eq_true_eq]at bV
  exact HZ (CJ.norm h1 bV.1 bV.2 h2) h
 ·exact h.elim
theorem Fb {dD:List AV}{X0 X1:Av}{y0:AV}{fr0:Av} (hp:DO P f dD X0 (fun y fr X'=>y=y0/\fr=fr0/\X'=X1)) (ha:args=dD/\st.fr.take X0.length=X0)
  (h:AK P n Φ todo (st.gz dst drop y0 fr0 ((X1++st.fr.drop X0.length)::st.low))):AJ P n Φ (.call f args dst drop todo st):=by
 obtain⟨rfl,hx⟩:=ha
 have h1:=hp (st.fr.drop X0.length) st.low
 have e:X0++st.fr.drop X0.length=st.fr:=by
  have:=C2 X0.length st.fr
  rw[hx]at this;exact this
 rw[e]at h1
 refine DY h1 ?_
 rintro v fr H ⟨X',⟨rfl,rfl,rfl⟩,rfl⟩
 exact h
theorem HX (hT:AQ P T) {ay:List AV}{y0:AV}{fr0:Av} (m:Nat) (hp:A6 P f ay [] (fun y fr=>y=y0/\fr=fr0)) (hz:AV.cW (Heap.get ([]::st.fr::st.low)) (Abs.cQ (Heap.get ([]::st.fr::st.low)) 5) args=some ay) (hy:y0.mM=true) (hf:rM fr0)
  (h:AJ P n Φ (run T m todo (st.gz dst drop y0 fr0 (st.fr::st.low)))):AJ P n Φ (.call f args dst drop todo st):=by
 refine DY (A6.mL 5 hp hz hy hf) ?_
 rintro y fr H' ⟨rfl,rfl,rfl⟩
 exact gN hT m _ _ h
end
def aP {α:Type} (z:Nat) (E:α->List AV):Option α->AV
 |none=>.bG
 |some x=>.aA z [E x] 0 0
section
variable {α:Type}{z:Nat}{E:α->List AV} (x:Option α)
theorem akR (y:α):aP z E (some y)=.aA z [E y] 0 0:=rfl
theorem akN:aP z E none=.bG:=rfl
theorem akQ (d:Nat):(aP z E x).sh d=aP z E x:=by cases x<;>rfl
theorem akL (G:AR):(aP z E x).ai G=some (aP z E x):=by cases x<;>rfl
theorem akJ (G:AR) (F:Nat->Nat->Option (List AV)):(aP z E x).br G F=some (aP z E x):=by cases x<;>rfl
theorem akO:(aP z E x).refs=[]:=by cases x<;>rfl
theorem akM (k:Nat):(aP z E x).imp k=aP z E x:=by cases x<;>rfl
theorem akP (ks:List Nat):(aP z E x).aQ ks=some (aP z E x):=by cases x<;>rfl
theorem akS (d:Nat):(aP z E x).un d=some (aP z E x):=by cases x<;>rfl
theorem akK:(aP z E x).flat=true:=by cases x<;>rfl
end
attribute [go_sem] adR aeI akR akN akQ akL akJ akO akM akP akS akK aoQ abu St.norm ug lg AV.aQ AV.dI AH.aQ qy idx rM AH.lo AV.lo AV.mM
def Aa.ny (n:Nat) {α:Type} (l:List α):Option (Aa n α):=if h:n<=l.length then some ⟨l.take n,by simp;omega⟩ else none
theorem ab4 {n:Nat}{α:Type}{l:List α}{v:Aa n α} (h:Aa.ny n l=some v):n<=l.length:=by
 unfold Aa.ny at h
 split at h
 ·assumption
 ·cases h
theorem aqW {n:Nat}{α:Type}{l:List α}{v:Aa n α} (h:Aa.ny n l=some v):v.l=l.take n:=by
 unfold Aa.ny at h
 split at h
 ·obtain rfl:=oi h;rfl
 ·cases h
theorem ajn {n:Nat}{α:Type}{E:α->List AV}{l:List α}{v:Aa n α} (h:Aa.ny n l=some v):(List.take n (List.map E l)).flatten=v.c E:=by
 unfold Aa.c
 rw[aqW h,List.map_take]
theorem ajo {n:Nat}{α:Type}{E:α->List AV}{l:List α}{v:Aa (n+1) α} (h:Aa.ny (n+1) l=some v):(List.map E l)[0]?=some (E (l[0]'(by have:=ab4 h;omega))):=by
 rw[Bx,gG (by have:=ab4 h;omega)]
 rfl
theorem ahx {n:Nat} (v:Aa n Int) (o m:Nat):List.map (fun c=>[c]) (List.take m (List.drop o (v.c af)))=List.map af (List.take m (List.drop o v.l)):=by
 rw[aai,<-List.map_drop,<-List.map_take,List.map_map]
 rfl
theorem ahy {n:Nat} (v:Aa n Int) (m:Nat):List.map (fun c=>[c]) (List.take m (v.c af))=List.map af (List.take m v.l):=by
 rw[aai,<-List.map_take,List.map_map]
 rfl
def ma {α:Type} (n:Int) (b:Nat) (z:α):Option (List α):=(mk? n b).map fun _=>List.replicate n.toNat z
theorem ad6 {α:Type}{n:Int}{b:Nat}{z:α}{l:List α} (h:ma n b z=some l):∃ u,mk? n b=some u:=by
 unfold ma at h
 obtain⟨u,hu,_⟩:=mS.1 h
 exact⟨u,hu⟩
theorem ad3 {α:Type}{n:Int}{b:Nat}{z:α}{l:List α} (h:ma n b z=some l):l=List.replicate n.toNat z:=by
 unfold ma at h
 obtain⟨u,_,hl⟩:=mS.1 h
 exact hl.symm
theorem ad5 {α β:Type} (E:α->β) {n:Int}{b:Nat}{z:α}{l:List α} (h:ma n b z=some l):List.replicate n.toNat (E z)=List.map E l:=by
 rw[ad3 h,List.map_replicate]
theorem ad4 {α:Type}{n:Int}{b:Nat}{z:α}{l:List α} (h:ma n b z=some l):l.length=n.toNat:=by
 rw[ad3 h];simp
theorem ad7 {α β:Type} (E:α->β) {n:Int}{b:Nat}{z:α}{l:List α} (h:ma n b z=some l):List.take n.toNat (List.map E l)=List.map E l:=by
 rw[ad3 h];simp
def Lf {α:Type} (E:α->List AV):Prop:=∀ x,∀ y∈E x,y.leaf=true
theorem ar1:Lf eI:=fun x y h=>by simp only[eI,CM]at h;subst h;rfl
theorem ahH:Lf af:=fun x y h=>by simp only[af,CM]at h;subst h;rfl
theorem Lf.vec {n:Nat}{α:Type}{E:α->List AV} (h:Lf E):Lf (Aa.c (n:=n) E):=by
 intro v y hy
 unfold Aa.c at hy
 rw[List.mem_flatten]at hy
 obtain⟨l,hl,hy⟩:=hy
 obtain⟨x,_,rfl⟩:=List.mem_map.1 hl
 exact h x y hy
theorem Lf.map {α:Type}{E:α->List AV} (h:Lf E) (l:List α):(∀ c∈List.map E l,∀ x∈c,x.leaf=true):=by
 intro c hc x hx
 obtain⟨y,_,rfl⟩:=List.mem_map.1 hc
 exact h y x hx
end
section
variable {P:Program}{T:AM}{N0:Nat}{W0:World}{fm:FM}{ts:List Ak}{H:Heap}{w:World}
def GK (T:AM) (rs:List ResultVar) (R:AV->Av->Heap->Prop) (Rp:List PanicEntry->Heap->Prop) (e:Exit) (st:St):Prop:=
 match e with
 |.normal|.ret=>∃ xs y,gM T st rs=some xs/\(bZ xs).aQ []=some y/\R y [] st.low
 |.panic ch=>Rp ch st.low
 |_=>False
theorem Di.gr (hT : AQ P T) {f : FuncId} {fn : Func} {c : Code} {sc : SC} {args : List AV} {H : Heap} {R : AV → Av → Heap → Prop} {Rp : List PanicEntry → Heap → Prop} (hf : P.funcs[f]? = some fn) (hb : fn.body = some c) (jl : (fn.name == "runtime.NumGoroutine") = false)
  (he:sc.bare=erase fn.ntmps c) (eN:(erase fn.ntmps c).fits fn.ntmps=true) (fo:args.length<=fn.ntmps)
  (h:AK P fn.ntmps (GK T fn.results.toList R Rp) [.sc sc] (St.enter args H fn.ntmps)) (jH:∀ y fr H',R y fr H'->H'.length=H.length) (anA:∀ ch H',Rp ch H'->H'.length=H.length):Di P f args H R Rp:=by
 refine⟨⟨fn,hf,jl,by simp[hb]⟩,?_⟩
 intro N0 W0 fm ts w vs hH hv
 refine calls_of_wp hf hb ((xe []).1 ?_)
 have hS:=SR.enter hH hv fo
 have:=h N0 W0 fm (cL::ts) _ w [.code c] (bodyPost P fn fun e w'=>(∃ v av aU H' fm' t' ts',e=.returned v/\R av aU H'/\H'.length=H.length/\HR N0 W0 fm' (t'::ts') (aU::H') w'/\VR fm' (t'::ts') av v/\AN N0 fm fm'/\As ts ts'/\
   (∀ l k,tb ts l k=none->tb ts' l k=none)/\∀ k,16<=k->t' k=none)\/
   ∃ ch H' fm' ts',e=.panicked ch/\Rp ch H'/\H'.length=H.length/\HR N0 W0 fm' ts' H' w'/\AN N0 fm fm'/\As ts ts'/\∀ l k,tb ts l k=none->tb ts' l k=none) hS (.sc he eN .nil) ?_
 ·exact this
 ·intro e ao a' w' fm' ts' hE cJ hL
  cases ts' with
  |nil=>have:=cJ.hr.len;simp at this
  |cons t rest=>
   have il:As ts rest:=by simpa using hL.jT
   have bx:∀ l k,tb ts l k=none->tb rest l k=none:=by simpa using hL.no
   cases e with
   |normal=>
    obtain⟨xs,y,fV,hy,hR⟩:=hE
    obtain⟨v,h1,h2⟩:=rY (P:=P) hT cJ fV
    exact⟨cJ.dX.1,v,h1,.inl ⟨v,y,[],ao.low,fm',eY [] t,rest,rfl,hR,jH _ _ _ hR,cJ.hr.aQ rfl (by simp),h2.aQ rfl hy,hL.cS,il,bx,fun k eQ=>rfl⟩⟩
   |ret=>
    obtain⟨xs,y,fV,hy,hR⟩:=hE
    obtain⟨v,h1,h2⟩:=rY (P:=P) hT cJ fV
    exact⟨cJ.dX.1,v,h1,.inl ⟨v,y,[],ao.low,fm',eY [] t,rest,rfl,hR,jH _ _ _ hR,cJ.hr.aQ rfl (by simp),h2.aQ rfl hy,hL.cS,il,bx,fun k eQ=>rfl⟩⟩
   |panic ch=>exact⟨cJ.dX.1,.inr ⟨ch,ao.low,fm',rest,rfl,hE,anA _ _ hE,cJ.hr.pop,hL.cS,il,bx⟩⟩
   |_=>exact hE.elim
section
variable [Md] {n:Nat}{Φ:Exit->St->Prop}{f:FuncId}{args:List AV}{dst:Option Tmp}{drop:List Nat}{todo:List It}{st:St}
theorem C7 {R:AV->Av->Heap->Prop}{Rp:List PanicEntry->Heap->Prop} (hp:Di P f args (st.fr::st.low) R Rp) (h:∀ y fr H,R y fr H->AK P n Φ todo (st.gz dst drop y fr H)) (h2:∀ ch H,Rp ch H->Φ (.panic ch) (st.ux H)):
  AJ P n Φ (.call f args dst drop todo st):=⟨_,_,R,Rp,CJ.refl _ _ _,hp,h,h2⟩
theorem H3 {t:TypeId}{x:AV} (h:∀ fm ts u,VR fm ts x u->Φ (.panic [{ v:=.iface t u,recovered:=false }]) st):AJ P n Φ (.throw (.bR t x) st):=⟨t,x,rfl,h⟩
theorem GB {rs:List ResultVar}{R:AV->Av->Heap->Prop}{Rp:List PanicEntry->Heap->Prop}{e:Exit}{y0:AV} (he:e=.ret\/e=.normal) (h1:((gM T st rs).bind fun xs=>(bZ xs).aQ [])=some y0) (h2:R y0 [] st.low):AJ P n (GK T rs R Rp) (.fin e st):=by
 obtain⟨xs,h3,h4⟩:=Option.bind_eq_some_iff.1 h1
 rcases he with rfl|rfl<;>exact⟨xs,y0,h3,h4,h2⟩
end
end
theorem aix (ks:List Nat) (b:List AV):∀ a:List AV,AV.dI ks (a++b)=(AV.dI ks a).bind fun x=>(AV.dI ks b).map (x++·)
 |[]=>by cases h:AV.dI ks b<;>simp[AV.dI,h]
 |u::a=>by
  simp only[Bq,AV.dI,aix ks b a]
  cases u.aQ ks<;>cases AV.dI ks a<;>cases AV.dI ks b<;>rfl
theorem ap6 {a:List AV} (h:Co a) (ks:List Nat) (b:List AV):AV.dI ks (a++b)=(AV.dI ks b).map (a++·):=by
 rw[aix,h.aQ];rfl
def ve:Av->Nat->AH->Av
 |[],_,_=>[]
 |(j,x)::l,k,b=>if j=k then (j,b)::l else (j,x)::ve l k b
theorem ahY {k:Nat}{b b':AH} (hb:Ce b b'):∀ {fr:Av},look fr k=some b->BX fr (ve fr k b')
 |[],h=>by simp[look]at h
 |(j,x)::l,h=>by
  simp only[look]at h
  by_cases hj:j=k
  ·rw[if_pos hj]at h
   obtain rfl:=oi h
   simp only[ve,if_pos hj]
   exact .cons _ _ _ _ _ hb (.refl l)
  ·rw[if_neg hj]at h
   simp only[ve,if_neg hj]
   exact .cons _ _ _ _ _ (.refl x) (ahY hb h)
theorem AK.ahX {P:Program}{n:Nat}{Φ:Exit->St->Prop}{todo:List It}{tm:List (Nat×AV)}{fr:Av}{low:Heap}{nx nt:Nat} (k o e:Nat) {cs:List AV} (hk:look fr k=some (.box cs)) (ho:cs[o]?=some .nil)
  (h:AK P n Φ todo ⟨tm,ve fr k (.box (cs.set o (.sl e []))),low,nx,nt⟩):AK P n Φ todo ⟨tm,fr,low,nx,nt⟩:=by
 refine AK.su (Ah.nl (.refl tm) (ahY (.box _ _ ⟨by simp,?_⟩) hk)) h
 intro i x y hx hy
 rw[List.getElem?_set]at hy
 split at hy
 ·rename_i hi
  subst hi
  rw[ho]at hx
  obtain rfl:=oi hx
  split at hy
  ·obtain rfl:=oi hy;exact .nil e
  ·cases hy
 ·rw[hx]at hy;obtain rfl:=oi hy;exact .refl x
attribute [go_sem] ve
theorem agR (G:AR) (b:List AV):∀ a:List AV,AV.aG G (a++b)=(AV.aG G a).bind fun x=>(AV.aG G b).map (x++·)
 |[]=>by cases h:AV.aG G b<;>simp[AV.aG,h]
 |u::a=>by
  simp only[Bq,AV.aG,agR G b a]
  cases u.ai G<;>cases AV.aG G a<;>cases AV.aG G b<;>rfl
theorem amO {a:List AV} (h:Co a) (G:AR) (b:List AV):AV.aG G (a++b)=(AV.aG G b).map (a++·):=by
 rw[agR,h.ai];rfl
theorem adj (k:Nat) (x:AH) (b:List AV):∀ a:List AV,AV.dz k x (a++b)=(AV.dz k x a).bind fun y=>(AV.dz k x b).map (y++·)
 |[]=>by cases h:AV.dz k x b<;>simp[AV.dz,h]
 |u::a=>by
  simp only[Bq,AV.dz,adj k x b a]
  cases u.fz k x<;>cases AV.dz k x a<;>cases AV.dz k x b<;>rfl
theorem amQ {a:List AV}{k:Nat}{x:AH} (h:AV.dz k x a=some a) (b:List AV):AV.dz k x (a++b)=(AV.dz k x b).map (a++·):=by
 rw[adj,h];rfl
theorem xT {α:Type}{n:Nat}{E:α->List AV}{k:Nat}{x:AH} (h:∀ y,AV.dz k x (E y)=some (E y)) (v:Aa n α):AV.dz k x (Aa.c E v)=some (Aa.c E v):=by
 have key:∀ l:List α,AV.dz k x (l.map E).flatten=some (l.map E).flatten:=by
  intro l
  induction l with
  |nil=>rfl
  |cons y l ih=>simp only[List.map_cons,Cu,adj,ih,h,Af,A5]
 exact key v.l
theorem A1.append {a b c d:List AV} (h:A1 a b) (k:A1 c d):A1 (a++c) (b++d):=by
 refine⟨by simp[h.1,k.1],?_⟩
 intro i x y hx hy
 by_cases hi:i<a.length
 ·rw[Ct hi]at hx
  rw[Ct (by rw[<-h.1];exact hi)]at hy
  exact h.2 i x y hx hy
 ·rw[CE (by omega)]at hx
  rw[CE (by rw[<-h.1];omega)]at hy
  rw[<-h.1]at hy
  exact k.2 _ x y hx hy
section
variable [Md] {P:Program}{T:AM}{N0:Nat}{W0:World}{n:Nat}{fm:FM}{ts:List Ak}{st:St}{a:Act}{w:World}{Q:Exit->Act->World->Prop}
theorem AK.seg {Φ:Exit->St->Prop}{B:St->Prop}{c:Code}{s:SC}{t:List BF} (hs:SR N0 W0 n st a w fm ts) (h:AK P n Φ [.sc s,.back B] st) (he:s.bare=erase n c) (hf:(erase n c).fits n=true)
  (hB:∀ ao a' w' fm' ts',B ao->SR N0 W0 n ao a' w' fm' ts'->Be N0 fm ts fm' ts'->K P Q t .normal a' w')
  (jq:∀ e ao a' w' fm' ts',Φ e ao->SR N0 W0 n ao a' w' fm' ts'->Be N0 fm ts fm' ts'->K P Q t e a' w'):K P Q (.code c::t) .normal a w:=by
 have h1:=h N0 W0 fm ts a w [.code c,.back (fun a' w'=>K P Q t .normal a' w')] (fun e a' w'=>K P Q t e a' w') hs
  (.sc he hf (.back (fun ao a' w' fm' ts' hb tN hl=>hB ao a' w' fm' ts' hb tN hl) .nil)) jq
 rw[ER]at h1 ⊢
 refine wpIn_mono h1 ?_
 intro e a' w' hk
 cases e<;>exact hk
theorem Fp {arr:Array Oper}{i:Nat}{is:List Nat}{o:Oper}{t:List BF} (ho:arr[i]?=some o) (hg:o.guard=none) (h:o.wpIn FW 0 P a w (fun a' w'=>K P Q (.ops arr is::t) .normal a' w') (K P Q t)):K P Q (.ops arr (i::is)::t) .normal a w:=by
 unfold K
 simp only[wpOpsIn,ho]
 rw[if_pos (by simp[Region.wanted,hg])]
 exact h
theorem Ik {arr:Array Oper}{t:List BF} (h:K P Q t .normal a w):K P Q (.ops arr []::t) .normal a w:=by
 unfold K;simp only[wpOpsIn];exact h
theorem AK.last {Φ:Exit->St->Prop}{c:Code}{s:SC} (hs:SR N0 W0 n st a w fm ts) (h:AK P n Φ [.sc s] st) (he:s.bare=erase n c) (hf:(erase n c).fits n=true)
  (jq:∀ e ao a' w' fm' ts',Φ e ao->SR N0 W0 n ao a' w' fm' ts'->Be N0 fm ts fm' ts'->Q e a' w'):K P Q [.code c] .normal a w:=
 h N0 W0 fm ts a w [.code c] Q hs (.sc he hf .nil) jq
end
theorem FE (m m':Md) (h:m.rnd=m'.rnd) {P:Program}{Q:Exit->Act->World->Prop}:∀ t:List BF,@K m P Q t=@K m' P Q t
 |[]=>by funext e a w;simp only[K]
 |it::t=>by
  have hF:@FW m=@FW m':=by unfold FW;rw[h]
  have ih:=FE m m' h (P:=P) (Q:=Q) t
  funext e a w
  cases it<;>simp only[K,ih,hF]
theorem SR.deep [Md] {N0:Nat}{W0:World}{n:Nat}{tm tm':List (Nat×AV)}{fr:Av}{low:Heap}{nx nt:Nat}{a:Act}{w:World}{fm:FM}{ts:List Ak} (h:SR N0 W0 n ⟨tm,fr,low,nx,nt⟩ a w fm ts) (ht:∀ t x,look tm' t=some x->∃ y,look tm t=some y/\x=y.sh 1):
  SR N0 W0 n ⟨tm',[],fr::low,0,nt⟩ a w fm (cL::ts):=
 ⟨h.hr.push,fun t x hx=>by
  obtain⟨y,hy,rfl⟩:=ht t x hx
  obtain⟨v,h1,h2⟩:=h.tm t y hy
  exact⟨v,h1,h2.sh 1 (by simp)⟩,fun _ _=>rfl,h.size,h.dX⟩
theorem SR.uX (m m':Md) {N0:Nat}{W0:World}{n:Nat}{st:St}{a:Act}{w:World}{fm:FM}{ts:List Ak} (h:@SR m N0 W0 n st a w fm ts) {a':Act} (ht:a'.tmps=a.tmps) (hd:a'.defers=m'.uX) (hm:@Dw m' W0:=by exact fun _ _ h=>by cases h):@SR m' N0 W0 n st a' w fm ts:=by
 obtain⟨h1,h2,h3,h4,h5⟩:=h
 refine @SR.mk m' _ _ _ _ _ _ _ _ h1 (fun t x hx=>?_) h3 (by rw[ht];exact h4) ⟨hd,hm⟩
 obtain⟨v,h6,h7⟩:=h2 t x hx
 exact⟨v,by rw[ht];exact h6,h7⟩
theorem ape [Md] {P:Program}{o:Oper}{a:Act}{w w':World}{next:Act->World->Prop}{Q:Exit->Act->World->Prop}{d:Deferred} (hr:(execOp a.eval o).run P w=.ok (.defer d) w') (hm:Md.rnd=none) (h:next ({ a with defers:=d::a.defers }.put o.dst undef) w'):o.wpIn FW 0 P a w next Q:=by
 refine⟨fun _ _=>trivial,?_⟩
 show Oper.uponIn FW 0 P o a next Q (Sem.run P (Oper.semAt Md.rnd a.eval o) w)
 rw[hm,Oper.semAt_none,hr]
 exact h
section
variable [Md] {P:Program}{T:AM}{N0:Nat}{W0:World}{n:Nat}{fm:FM}{ts:List Ak}{st:St}{a:Act}{w:World}{Q:Exit->Act->World->Prop}
theorem D7:∀ (s t:List BF) (e:Exit) (a:Act) (w:World),K P Q (s++t) e a w=K P (fun e a w=>K P Q t e a w) s e a w
 |[],t,e,a,w=>rfl
 |.code c::s,t,e,a,w=>by
  have ih:K P Q (s++t)=K P (fun e a w=>K P Q t e a w) s:=by funext e a w;exact D7 s t e a w
  cases e<;>simp only[Bq,K,ih]
 |.al id::s,t,e,a,w=>by
  have ih:K P Q (s++t)=K P (fun e a w=>K P Q t e a w) s:=by funext e a w;exact D7 s t e a w
  cases e<;>simp only[Bq,K,ih]
 |.gP::s,t,e,a,w=>by
  have ih:K P Q (s++t)=K P (fun e a w=>K P Q t e a w) s:=by funext e a w;exact D7 s t e a w
  cases e<;>simp only[Bq,K,ih]
 |.ops arr l::s,t,e,a,w=>by
  have ih:K P Q (s++t)=K P (fun e a w=>K P Q t e a w) s:=by funext e a w;exact D7 s t e a w
  cases e<;>simp only[Bq,K,ih]
 |.back R::s,t,e,a,w=>by
  have ih:K P Q (s++t)=K P (fun e a w=>K P Q t e a w) s:=by funext e a w;exact D7 s t e a w
  cases e<;>simp only[Bq,K,ih]
theorem aia {arr:Array Oper}{t:List BF}:∀ is js:List Nat,wpOpsIn FW 0 P arr (K P Q (.ops arr js::t)) is=wpOpsIn FW 0 P arr (K P Q t) (is++js)
 |[],js=>by funext a w;rfl
 |i::is,js=>by
  have ih:=aia (arr:=arr) (t:=t) is js
  funext a w
  simp only[Bq,wpOpsIn]
  cases arr[i]? with
  |none=>simp only[ih]
  |some o=>
   simp only[ih]
   rfl
theorem Ij {arr:Array Oper}{t:List BF}{is js:List Nat} (h:K P Q (.ops arr is::.ops arr js::t) .normal a w):K P Q (.ops arr (is++js)::t) .normal a w:=by
 have e:=aia (P:=P) (Q:=Q) (arr:=arr) (t:=t) is js
 show wpOpsIn FW 0 P arr (K P Q t) (is++js) a w
 rw[<-e]
 exact h
theorem CI {c:Code}{t t':List BF} (h:∀ e a w,K P Q t e a w->K P Q t' e a w):∀ e a w,K P Q (.code c::t) e a w->K P Q (.code c::t') e a w:=by
 intro e a w hk
 cases e<;>first|exact h _ _ _ hk|exact wpIn_mono hk (fun e a w=>h e a w)
theorem CA {x y:Code}{t:List BF}:∀ e a w,K P Q (.code x::.code y::t) e a w->K P Q (.code (.seq x y)::t) e a w:=by
 intro e a w hk
 cases e<;>first|exact hk|exact C1 hk
theorem Im {id:Nat}{ops:Array Oper}{t:List BF}:∀ e a w,K P Q (.ops ops (List.range ops.size)::t) e a w->K P Q (.code (.region id ops false)::t) e a w:=by
 intro e a w hk
 cases e<;>first|exact hk|exact FF hk
theorem Il {arr:Array Oper}{is js:List Nat}{t:List BF}:∀ e a w,K P Q (.ops arr is::.ops arr js::t) e a w->K P Q (.ops arr (is++js)::t) e a w:=by
 intro e a w hk
 cases e<;>first|exact hk|exact Ij hk
theorem apg {o:Oper}{w':World}{next:Act->World->Prop}{l fn:Nat}{tmps:Array Value}{assign body:Code} (hd:∀ c,o.op≠.defer c) (hr:(execOp a.eval o).run P w=.ok (.round l fn tmps assign body) w')
  (h:RoundIn FW 0 P l fn tmps assign body w' fun
   |.returned v,uv=>next (a.put o.dst v) uv
   |.panicked chain,uv=>Q (.panic chain) a uv
   |.outgrown,_=>LetsOut Q):o.wpIn FW 0 P a w next Q:=by
 refine⟨fun _ _=>trivial,?_⟩
 rw[Oper.semAt_eq _ _ _ hd,hr]
 exact⟨fun h=>by simp[FW]at h,h⟩
theorem AK.nD {Φ:Exit->St->Prop}{B:St->Prop}{todo:List It}{cs t:List BF} (hs:SR N0 W0 n st a w fm ts) (h:AK P n Φ (todo++[.back B]) st)
  (fS:∀ R:Act->World->Prop,(∀ ao a' w' fm' ts',B ao->SR N0 W0 n ao a' w' fm' ts'->Be N0 fm ts fm' ts'->R a' w')->Bo N0 W0 n fm ts (todo++[.back B]) (cs++[.back R]))
  (hB:∀ ao a' w' fm' ts',B ao->SR N0 W0 n ao a' w' fm' ts'->Be N0 fm ts fm' ts'->K P Q t .normal a' w')
  (jq:∀ e ao a' w' fm' ts',Φ e ao->SR N0 W0 n ao a' w' fm' ts'->Be N0 fm ts fm' ts'->K P Q t e a' w'):K P Q (cs++t) .normal a w:=by
 have h1:=h N0 W0 fm ts a w (cs++[.back (fun a' w'=>K P Q t .normal a' w')]) (fun e a' w'=>K P Q t e a' w') hs (fS _ hB) jq
 rw[D7]at h1 ⊢
 have e:(fun e a w=>K P (fun e a' w'=>K P Q t e a' w') [.back (fun a' w'=>K P Q t .normal a' w')] e a w)=fun e a w=>K P Q t e a w:=by
  funext e a w
  cases e<;>rfl
 rw[e]at h1
 exact h1
end
section
variable {N0:Nat}{W0 W1:World}{fm:FM}{ts:List Ak}{H:Heap}{w w':World}
theorem HR.ap1 (h:HR N0 W0 fm ts H w):HR N0 w fm ts H w:={ h with dg:=Below.refl N0 w,cT:=fun _ _ a _=>a }
theorem HR.other (h:HR N0 W0 fm ts H w) {l:Nat}{o o':Obj} (hl:w.heap[l]?=some o) (ho:zQ o=true) (hN:N0<=l):HR N0 (w.putObj l o') fm ts H (w.putObj l o'):=by
 have ae:=(CF.1 hl).1
 have cT:∀ i,i≠l->(w.putObj l o').heap[i]?=w.heap[i]?:=fun i hi=>World.putObj_heap_other (by omega)
 refine⟨h.len,fun l' k b hg=>(h.al l' k b hg).mono (AZ.refl _) (As.refl _) (fun c hc=>cT c ?_),h.inj,fun b q v hv=>?_,h.dh,Below.refl _ _,?_,fun _ _ a _=>a,fun b q v nf hv ht=>?_⟩
 ·rintro rfl
  have hb:=h.al l' k b hg
  generalize tb ts l' k=tt at hb hc
  cases hb with
  |box c' cs hN hb=>
   obtain⟨cells,et,h1,_⟩:=hb
   simp only[bz,oE]at hc
   subst hc
   rw[h1]at hl
   cases hl
   cases ho
  |nil et esz=>simp[bz]at hc
  |arr et esz es c' cap hN hb=>
   obtain⟨cells,h1,_⟩:=hb
   simp only[bz,oE]at hc
   subst hc
   rw[h1]at hl
   cases hl
   cases ho
 ·have h1:=h.bO _ _ _ hv
  refine(World.cell?_of_block (w:=w) (w':=w.putObj l o') (a:=⟨b,q,none⟩) (cT b ?_)).trans h1
  rintro rfl
  simp only[World.cell?,hl]at h1
  cases o<;>first|(cases ho;done)|(cases h1;done)
 ·have:=h.size
  show N0<=(w.putObj l o').heap.size
  simpa [World.putObj] using this
 ·refine(h.dZ b q v nf hv ht).of (cT b ?_)
  rintro rfl
  have h1:=h.bO _ _ _ hv
  simp only[World.cell?,hl]at h1
  cases o<;>first|(cases ho;done)|(cases h1;done)
theorem HR.alloc (h:HR N0 W0 fm ts H w) (o:Obj):HR N0 W0 fm ts H (w.alloc o):=
 h.world (fun i hi=>Below.heap_alloc w o i hi) ((Below.refl N0 w).alloc h.size o)
end
theorem ac7 [Md] {P:Program}{T:AM} (hT:AQ P T) {N0:Nat}{W0:World}{fm:FM}{ts:List Ak}{st:St}{a:Act}{w:World}{n:Nat}{fn:Func}{v:AV} (hS:SR N0 W0 n st a w fm ts)
  (hE:Dx T fn.results.toList (fun y=>NL y v) .ret st):∃ u fm',(results fn a.tmps).run P w=.ok u w/\VR fm' [] v u/\(Du fm' w/\EW N0 fm' w)/\AN N0 fm fm':=by
 obtain⟨hl,xs,y,h1,h2,h3⟩:=hE
 obtain⟨u,h4,h5⟩:=rY (P:=P) hT hS h1
 have h6:=hS.hr.ai (bZ xs).refs h5 h2 (fun _ h=>h)
 have h7:=hS.hr.rL (bZ xs).refs
 exact⟨u,_,h4,h3.ok h6,⟨h7.bO,h7.dZ⟩,hS.hr.u7 _⟩
end Go.Abs
namespace Go.Abs
open Go
end Go.Abs
namespace Go.Abs
open Go Go.RowKit
section
variable [Md] {P:Program}{T:AM}{n:Nat}{Φ:Exit->St->Prop}{f:FuncId}{args:List AV}{dst:Option Tmp}{drop:List Nat}{todo:List It}
def amP (k:Nat) (b:AH) (args:List AV):Option (List AV):=
 match AV.fZ 1 args with
 |some xs=>match AV.dz k b xs with
  |some ys=>some (AV.de 1 ys)
  |none=>none
 |none=>none
def amR (P:Program) (n:Nat) (Φ:Exit->St->Prop) (f:FuncId) (dst:Option Tmp) (drop:List Nat) (todo:List It) (st:St):Option (List AV)->Prop
 |some gU=>AJ P n Φ (.call f gU dst drop todo st)
 |none=>False
theorem amS {fX:St}{gU:List AV}:amR P n Φ f dst drop todo fX (some gU)=AJ P n Φ (.call f gU dst drop todo fX):=rfl
attribute [go_sem] amS amP
end
section
variable [Md] {P:Program}{T:AM}{n:Nat}{Φ:Exit->St->Prop}
def ahD (n:Nat) (ops:List An) (befs:List (List Nat)) (o:An):Bool:=
 ((List.range ops.length).all fun j=>(bA befs ops.length).contains j)&&ops.all fun s=>match s.guard with
  |some (g,_)=>g != o.dst.getD n
  |none=>true
end
theorem an {p q:Prop} (a:p) (b:q):p/\q:=⟨a,b⟩
theorem Ao.bH {n:Nat}{α:Type}{E:α->List AV}{z:Nat} (hE:∀ x,(E x).length=z) {cs:List AV}{o:Nat}{v:Aa n α}{g:Aa n α->List AV} (h:Ao cs o (Aa.c E) v g) {i:Int}{x:α} (hx:v.at? i=some x):
  Ao cs (o+i.toNat*z) E x (fun y=>g (v.set i y))/\o+i.toNat*z+z<=cs.length/\(cs.drop (o+i.toNat*z)).take z=E x:=
 have u:=Ao.at hE h hx
 ⟨u,u.bound hE,u.get hE⟩
theorem Ao.aeH {n:Nat}{α:Type}{E:α->List AV}{z:Nat} (hE:∀ x,(E x).length=z) {v:Aa n α}{i:Int}{x:α} (h:v.at? i=some x):
  Ao (v.c E) (i.toNat*z) E x (fun y=>(v.set i y).c E)/\i.toNat*z+z<=(v.c E).length/\((v.c E).drop (i.toNat*z)).take z=E x:=
 have u:=Ao.idx hE h
 ⟨u,u.bound hE,u.get hE⟩
theorem pu {α β:Type} (E:α->β) {b:Nat}{l y:List α}{x:α} (h:fG b l x=some y):room (l.length+1) b/\l.map E++[E x]=y.map E/\y.length=l.length+1/\(y.map E).take (l.length+1)=y.map E:=⟨apG h,apF E h,aij h,apH E h⟩
theorem gT {α β:Type} (E:α->β) {b:Nat}{l y x:List α} (h:dM b l x=some y):room (l.length+x.length) b/\l.map E++x.map E=y.map E/\y.length=l.length+x.length/\(y.map E).take (l.length+x.length)=y.map E:=⟨akX h,akW E h,afh h,akY E h⟩
@[reducible] def DZ (cs:List AV) (z z1 z2 z3:Nat):Prop:=
 (∀ d,AV.de d cs=cs)/\(∀ G,AV.aG G cs=some cs)/\(∀ G F,AV.cW G F cs=some cs)/\AV.aN cs=[]/\(∀ k,AV.iv k cs=cs)/\(∀ ks,AV.dI ks cs=some cs)/\(∀ d,AV.fZ d cs=some cs)/\
 (∀ r,(cs++r).take z=cs)/\cs.take z=cs/\(∀ r,(cs++r).drop z=r)/\cs.drop z=[]/\(∀ k b r,AV.dz k b (cs++r)=(AV.dz k b r).map (cs++·))/\(∀ G r,AV.aG G (cs++r)=(AV.aG G r).map (cs++·))/\
 (∀ ks r,AV.dI ks (cs++r)=(AV.dI ks r).map (cs++·))/\(∀ r,(cs++r).length=z+r.length)/\(∀ r q,cs++r++q=cs++(r++q))/\(∀ r,(cs++r).drop z1=r.drop 1)/\(∀ r,(cs++r).take z1=cs++r.take 1)/\
 (∀ r,(cs++r).drop z2=r.drop 2)/\(∀ r,(cs++r).drop z3=r.drop 3)/\(∀ r,(cs++r)[z]?=r[0]?)/\(∀ r,(cs++r)[z1]?=r[1]?)/\(∀ r,(cs++r)[z2]?=r[2]?)/\(∀ r,(cs++r)[z3]?=r[3]?)/\
 (∀ r x,(cs++r).set z x=cs++r.set 0 x)/\(∀ r x,(cs++r).set z1 x=cs++r.set 1 x)/\(∀ r x,(cs++r).set z2 x=cs++r.set 2 x)/\∀ r x,(cs++r).set z3 x=cs++r.set 3 x
theorem xh {cs:List AV}{z z1 z2 z3:Nat} (hl:cs.length=z) (i:Co cs) (hf:∀ k b,AV.dz k b cs=some cs) (e1:z1=z+1) (e2:z2=z+2) (e3:z3=z+3):DZ cs z z1 z2 z3:=by
 subst hl e1 e2 e3
 have dr:∀ (j:Nat) (r:List AV),(cs++r).drop (cs.length+j)=r.drop j:=fun j r=>by rw[List.drop_append,Dy (by omega),Fs];rfl
 have ge:∀ (j:Nat) (r:List AV),(cs++r)[cs.length+j]?=r[j]?:=fun j r=>by rw[CE (by omega),Fs]
 have se:∀ (j:Nat) (r:List AV) (x:AV),(cs++r).set (cs.length+j) x=cs++r.set j x:=fun j r x=>by rw[List.set_append_right _ _ (by omega),Fs]
 exact⟨i.sh,i.ai,i.br,i.refs,i.imp,i.aQ,i.un,fun r=>DQ rfl,CK,fun r=>List.drop_left' rfl,List.drop_length,fun k b r=>amQ (hf k b) r,fun G r=>amO i G r,fun ks r=>ap6 i ks r,fun r=>A8,fun r q=>Cp _ _ _,
  dr 1,fun r=>by rw[List.take_append,CB (by omega),Fs],dr 2,dr 3,ge 0,ge 1,ge 2,ge 3,se 0,se 1,se 2,se 3⟩
def SQ:List SC->SC
 |[]=>.skip
 |[a]=>a
 |a::b::l=>.seq a (SQ (b::l))
def RG (l:List An):SC:=.lf l
def CN (t:Nat) (a b:SC):SC:=.cond (.tmp t) a b
def gd (g:Nat) (w:Bool) (o:An):An:=⟨o.dst,o.op,o.type,some (g,w),o.drop⟩
def oQ (d:Nat) (o:Op) (t:Nat) (l:List Nat:=[]):An:=⟨some d,o,t,none,l⟩
def wV (d a t:Nat) (l:List Nat:=[]):An:=⟨some d,.move (.tmp a),t,none,l⟩
def wD (d t a:Nat) (l:List Nat:=[]):An:=⟨some d,.load t (.tmp a),t,none,l⟩
def wF (d t a f:Nat) (l:List Nat:=[]):An:=⟨some d,.fieldAddr t (.tmp a) f,0,none,l⟩
def wI (d t a b:Nat) (l:List Nat:=[]):An:=⟨some d,.indexAddr t (.tmp a) (.tmp b),0,none,l⟩
def wJ (d t a:Nat) (n:Int) (l:List Nat:=[]):An:=⟨some d,.indexAddr t (.tmp a) (.const (.int .i64 n)),0,none,l⟩
def wG (d a t:Nat) (l:List Nat:=[]):An:=⟨some d,.assign (.tmp a),t,none,l⟩
def wN (d:Nat) (n:Int) (t:Nat) (l:List Nat:=[]):An:=⟨some d,.assign (.const (.int .i64 n)),t,none,l⟩
def wB (d:Nat) (b:Bool) (t:Nat) (l:List Nat:=[]):An:=⟨some d,.assign (.const (.bool b)),t,none,l⟩
def wX (d a i t:Nat) (l:List Nat:=[]):An:=⟨some d,.extract (.tmp a) i,t,none,l⟩
def wL (d a s t:Nat) (l:List Nat:=[]):An:=⟨some d,.call ⟨.builtin .len,#[.tmp a],#[s]⟩,t,none,l⟩
def wC (d f:Nat) (xs:Array Operand) (ts:Array Nat) (t:Nat) (l:List Nat:=[]):An:=⟨some d,.call ⟨.value (.func f),xs,ts⟩,t,none,l⟩
def wU (d f a s t:Nat) (l:List Nat:=[]):An:=⟨some d,.call ⟨.value (.func f),#[.tmp a],#[s]⟩,t,none,l⟩
def wW (d f a b s u t:Nat) (l:List Nat:=[]):An:=⟨some d,.call ⟨.value (.func f),#[.tmp a,.tmp b],#[s,u]⟩,t,none,l⟩
def wP (d a b s u t:Nat) (l:List Nat:=[]):An:=⟨some d,.call ⟨.builtin .append,#[.tmp a,.tmp b],#[s,u]⟩,t,none,l⟩
def wO (d:Nat) (o:BinOp) (s a b u t:Nat) (l:List Nat:=[]):An:=⟨some d,.binOp o s (.tmp a) (.tmp b) u,t,none,l⟩
def wK (d:Nat) (o:BinOp) (s a:Nat) (n:Int) (u t:Nat) (l:List Nat:=[]):An:=⟨some d,.binOp o s (.tmp a) (.const (.int .i64 n)) u,t,none,l⟩
def wS (t a v:Nat) (l:List Nat:=[]):An:=⟨none,.store t (.tmp a) (.tmp v),0,none,l⟩
def wA (d t:Nat) (l:List Nat:=[]):An:=⟨some d,.alloc t,0,none,l⟩
def wE (d t v:Nat) (l:List Nat:=[]):An:=⟨some d,.box t (.tmp v),0,none,l⟩
def wT (d a b t:Nat) (l:List Nat:=[]):An:=⟨some d,.pick (.tmp a) (.const (.bool true)) (.tmp b),t,none,l⟩
def wZ (d a b t:Nat) (l:List Nat:=[]):An:=⟨some d,.pick (.tmp a) (.tmp b) (.const (.bool false)),t,none,l⟩
def wQ (d a t:Nat) (l:List Nat:=[]):An:=⟨some d,.unOp .not t (.tmp a),t,none,l⟩
def wY (d s u a t:Nat) (l:List Nat:=[]):An:=⟨some d,.convert s u (.tmp a),t,none,l⟩
attribute [go_sem] SQ RG CN gd oQ wV wD wF wI wJ wG wN wB wX wL wC wU wW wP wO wK wS wA wE wT wZ wQ wY
section
variable [Md] {P:Program}{T:AM}{n:Nat}{Φ:Exit->St->Prop}{C:List (De×Rd)->St->Prop}
theorem Cr {f:List It->St->Ev}{b:Bool}{t t':List It}{s s':St}{ρ:Type}{A B:Option ρ}{r:ρ} (h:(bif !b then A else B)=some r) (h1:b=false->A=some r->AJ P n Φ (f t s)) (h2:b=true->B=some r->AJ P n Φ (f t' s')):AJ P n Φ (two f (!b) t s t' s'):=by
 cases b with
 |true=>exact h2 rfl h
 |false=>exact h1 rfl h
theorem H6 {f:List An->List (De×Rd)->St->Cz}{b:Bool}{os iU:List An}{acc iF:List (De×Rd)}{st ao:St}{ρ:Type}{A B:Option ρ}{r:ρ} (h:(bif !b then A else B)=some r) (h1:b=false->A=some r->DG P T C (f os acc st)) (h2:b=true->B=some r->DG P T C (f iU iF ao)):DG P T C (qE f (!b) os acc st iU iF ao):=by
 cases b with
 |true=>exact h2 rfl h
 |false=>exact h1 rfl h
theorem AF {p:Prop} (F:p) {f:List It->St->Ev}{b:Bool}{t t':List It}{s s':St}{ρ:Type}{A B:Option ρ}{r:ρ} (h:(bif b then A else B)=some r) (h1:b=true/\p->A=some r->AJ P n Φ (f t s)) (h2:b=false/\p->B=some r->AJ P n Φ (f t' s')):AJ P n Φ (two f b t s t' s'):=AS h (fun a=>h1 ⟨a,F⟩) (fun a=>h2 ⟨a,F⟩)
theorem Bt {p:Prop} (F:p) {f:List It->St->Ev}{b:Bool}{t t':List It}{s s':St}{ρ:Type}{A B:Option ρ}{r:ρ} (h:(bif !b then A else B)=some r) (h1:b=false/\p->A=some r->AJ P n Φ (f t s)) (h2:b=true/\p->B=some r->AJ P n Φ (f t' s')):AJ P n Φ (two f (!b) t s t' s'):=Cr h (fun a=>h1 ⟨a,F⟩) (fun a=>h2 ⟨a,F⟩)
theorem DF {p:Prop} (F:p) {f:List An->List (De×Rd)->St->Cz}{b:Bool}{os iU:List An}{acc iF:List (De×Rd)}{st ao:St}{ρ:Type}{A B:Option ρ}{r:ρ} (h:(bif b then A else B)=some r) (h1:b=true/\p->A=some r->DG P T C (f os acc st)) (h2:b=false/\p->B=some r->DG P T C (f iU iF ao)):DG P T C (qE f b os acc st iU iF ao):=Fi h (fun a=>h1 ⟨a,F⟩) (fun a=>h2 ⟨a,F⟩)
theorem Fh {p:Prop} (F:p) {f:List An->List (De×Rd)->St->Cz}{b:Bool}{os iU:List An}{acc iF:List (De×Rd)}{st ao:St}{ρ:Type}{A B:Option ρ}{r:ρ} (h:(bif !b then A else B)=some r) (h1:b=false/\p->A=some r->DG P T C (f os acc st)) (h2:b=true/\p->B=some r->DG P T C (f iU iF ao)):DG P T C (qE f (!b) os acc st iU iF ao):=H6 h (fun a=>h1 ⟨a,F⟩) (fun a=>h2 ⟨a,F⟩)
theorem ame (hT:AQ P T) {ops:List An}{befs:List (List Nat)}{todo:List It}{acc ds:List (De×Rd)}{st ui:St} (h:AJ P n Φ (run T 1000 todo ui)) (hC:(calm ops befs ds=true/\AK P n Φ todo ui)->C acc st) {sk:List (List (Nat×Nat)×Rd)} (h1:mR ds=sk) (h2:calm ops befs (nO sk)=true):
  DG P T C (.done acc st):=GJ (hC ⟨afM h1 h2,gN hT 1000 _ _ h⟩)
end
end Go.Abs
namespace Go.Abs
open Go Go.RowKit Go.Maps
variable {P:Program}{t k e:TypeId}{w:World}{r n:Nat}{L:List (Int×Int)}
end Go.Abs
namespace Go.Abs
open Go Go.RowKit
section
variable [Md] {P:Program}{T:AM}{n:Nat}
theorem Ie {N0:Nat}{W0:World}{fm:FM}{ts:List Ak}{a:Act}{w:World}{Q:Exit->Act->World->Prop}{bh:List BF}{rZ:Nat}{arr:Array Oper} (hT:AQ P T) (hm:P.follows .mixedOrders=true) {ops:List An}{o:An}{befs:List (List Nat)}{drop:List Nat}{st:St} (ds:List De) (jF:∀ j,j<ops.length->∃ d,ds[j]?=some d) (h1:DP ops)
  (gF:∀ i j,j∈bA befs i->j<i) (jf:∀ i j,i<j->j<ops.length->i∉bA befs j->mZ (dK ds i) (dK ds j))
  (yu:∀ i s d,ops[i]?=some s->ds[i]?=some d->C4 P T (st.nx+16*i) s (look (mw ops befs ds st.tm i)) (Heap.get (lE ops befs ds (st.fr::st.low) i)) d)
  (hbm:∀ j,j<ops.length->j∈bA befs ops.length) (yA:∀ s∈ops,∀ g w,s.guard=some (g,w)->g≠o.dst.getD n)
  (hS:SR N0 W0 n st a w fm ts) (hb:(SC.aO (ops++[o]) befs drop).bare=erase n (.region rZ arr true)) (hf:SC.fits n (erase n (.region rZ arr true))=true)
  (hn:∀ a' w' fm' ts',SR N0 W0 n (st.drawn ops ds []) a' w' fm' ts'->Be N0 fm ts fm' ts'->K P Q (.ops arr [ops.length]::bh) .normal a' w'):K P Q (.code (.region rZ arr true)::bh) .normal a w:=by
 simp only[SC.bare,erase,SC.aO.injEq,and_true]at hb
 obtain⟨eM,jh⟩:=hb
 simp only[erase,SC.fits,List.all_eq_true]at hf
 have hlen:ops.length+1=arr.size:=by have:=congrArg List.length eM;simpa using this
 obtain⟨m,pT⟩:∃ m,ops.length=m:=⟨_,rfl⟩
 have hma:m<arr.size:=by omega
 have hmo:jX o=mz n arr arr[m]:=by
  have e:=congrArg (fun l=>l[m]?) eM
  simp only[Dg,List.map_cons,List.map_nil]at e
  rw[CE (by simp;omega)]at e
  simp only[Bg,pT,Nat.sub_self,BV,Bx,Array.getElem?_toList,Bv hma,A5,oE]at e
  exact e
 have jg:∀ i,(him:i<m)->(hi:i<arr.size)->∃ s,ops[i]?=some s/\s.dst=(arr[i]).dst/\s.op=(arr[i]).op/\s.type=(arr[i]).type/\s.guard=(arr[i]).guard.map (fun g=>(((arr[g.1]?).bind (·.dst)).getD n,g.2)):=by
  intro i him hi
  have ae:i<ops.length:=by omega
  refine⟨ops[i],gG ae,?_⟩
  have e:=congrArg (fun l=>l[i]?) eM
  simp only[Dg]at e
  rw[Ct (by simpa using ae)]at e
  simp only[Bx,gG ae,A5,Array.getElem?_toList,Bv hi,oE]at e
  simp only[jX,mz,An.mk.injEq,and_true]at e
  obtain⟨e1,e2,e3,e4⟩:=e
  exact⟨e1,e2,e3,e4⟩
 have vB:∀ i,(hi:i<arr.size)->∀ x,x∈bA befs i↔∃ e∈(arr[i]).after.toList,Region.binds .any e=true/\(x=e.on\/(e.on<i/\x∈bA befs e.on)):=by
  intro i hi x
  obtain⟨b',g1,g2,g3⟩:=acj arr.toList [] i arr[i] (by simp[hi])
  simp only[Az,Cq]at g1 g2
  have e1:bA befs i=pf b' [] (arr[i]).after.toList:=by unfold bA;rw[jh,g1];rfl
  rw[e1,ad0]
  simp only[List.not_mem_nil,false_or]
  have e2:∀ e:Edge,x∈(b'[e.on]?).getD []↔(e.on<i/\x∈bA befs e.on):=by
   intro e
   by_cases hj:e.on<b'.length
   ·rw[g3 _ hj]
    unfold bA
    rw[jh]
    rw[g2]at hj
    simp[hj]
   ·rw[CL (by omega)]
    simp
    omega
  constructor
  ·rintro⟨e,h1,h2,h3⟩
   exact⟨e,h1,h2,h3.imp id (e2 e).1⟩
  ·rintro⟨e,h1,h2,h3⟩
   exact⟨e,h1,h2,h3.imp id (e2 e).2⟩
 refine wpIn_region_any hm ?_
 have vN:∀ j,(Array.replicate arr.size false).getD j false=false:=by
  intro j
  by_cases hj:j<arr.size
  ·simp[Array.getD,hj]
  ·simp[Array.getD,hj]
 have key:∀ (fuel:Nat) (aI:Array Bool) (a:Act) (w:World) (fm':FM) (ts':List Ak),aI.size=arr.size->aI.getD m false=false->((List.range arr.size).countP fun j=>!aI.getD j false)<=fuel->
   (∀ j,aI.getD j false=true->∀ k∈bA befs j,aI.getD k false=true)->DR N0 W0 n st ops ds (fun j=>aI.getD j false) a w fm' ts'->Be N0 fm ts fm' ts'->wpAnyIn FW 0 P .any arr (K P Q bh) fuel aI a w:=by
  intro fuel
  have fin:∀ (aI:Array Bool) (a:Act) (w:World) (fm':FM) (ts':List Ak),aI.size=arr.size->aI.getD m false=false->DR N0 W0 n st ops ds (fun j=>aI.getD j false) a w fm' ts'->Be N0 fm ts fm' ts'->Region.ready .any arr aI=[]->K P Q bh .normal a w:=by
   intro aI a w fm' ts' aw od hD hL hr
   have iQ:∀ j,j<arr.size->aI.getD j false=true:=by
    intro j
    induction j using Nat.strongRecOn with
    |_ j ih=>
     intro hj
     by_cases hl:aI.getD j false=true
     ·exact hl
     ·have bB:j∈Region.ready .any arr aI:=by
       rw[mem_ready]
       have ae:j<aI.size:=by omega
       refine⟨by simp[Array.getD,ae]at hl ⊢;exact hl,arr[j],Bv hj,?_⟩
       intro e he hb
       have hm:e.on∈bA befs j:=(vB j hj e.on).2 ⟨e,by simpa using he,hb,.inl rfl⟩
       have:=gF j e.on hm
       exact ih e.on this (by omega)
      rw[hr]at bB;cases bB
   rw[iQ m hma]at od;cases od
  induction fuel with
  |zero=>
   intro aI a w fm' ts' aw od hc ca hD hL
   have hr:Region.ready .any arr aI=[]:=by
    cases h:Region.ready .any arr aI with
    |nil=>rfl
    |cons j l=>
     have hj:j∈Region.ready .any arr aI:=by rw[h];exact List.mem_cons_self
     rw[mem_ready]at hj
     obtain⟨h0,o,ho,_⟩:=hj
     have ae:j<arr.size:=(CF.1 ho).1
     have:0<(List.range arr.size).countP fun j=>!aI.getD j false:=by
      rw[List.countP_pos_iff]
      have fQ:j<aI.size:=by omega
      refine⟨j,List.mem_range.2 ae,?_⟩
      simp[Array.getD,fQ]at h0 ⊢
      exact h0
     omega
   exact⟨hr,fin aI a w fm' ts' aw od hD hL hr⟩
  |succ fuel ih=>
   intro aI a w fm' ts' aw od hc ca hD hL
   refine⟨fin aI a w fm' ts' aw od hD hL,fun i hi=>?_⟩
   rw[mem_ready]at hi
   obtain⟨h0,o',ho,iQ⟩:=hi
   have ae:i<arr.size:=(CF.1 ho).1
   have fQ:i<aI.size:=by omega
   have fc:aI.getD i false=false:=by
    simp[Array.getD,fQ]at h0 ⊢
    exact h0
   by_cases ans:i<m
   case neg=>
    obtain rfl:i=m:=by omega
    have np:∀ j,j<i->aI.getD j false=true:=by
     intro j hj
     obtain⟨e,he,hb,h⟩:=(vB i ae j).1 (by rw[<-pT];exact hbm j (by omega))
     have oj:o'=arr[i]:=by rw[Bv ae]at ho;exact(oi ho).symm
     subst oj
     have pX:=iQ e (by simpa using he) hb
     rcases h with rfl|⟨_,h⟩
     ·exact pX
     ·exact ca _ pX j h
    have cJ:=hD.all (fun j hj=>np j (by omega)) []
    have h1:=hn a w fm' ts' cJ hL
    rw[pT]at h1
    simp only[K,wpOpsIn,ho]at h1
    unfold wpOpIn
    rw[ho]
    simp only
    have qc:∀ l:Array Bool,(∀ j,l.getD j true=true)->Region.ready .any arr l=[]:=by
     intro l hl
     cases h:Region.ready .any arr l with
     |nil=>rfl
     |cons j r=>
      have hj:j∈Region.ready .any arr l:=by rw[h];exact List.mem_cons_self
      rw[mem_ready]at hj
      rw[hl j]at hj;cases hj.1
    have vH:∀ a w,K P Q bh .normal a w->wpAnyIn FW 0 P .any arr (K P Q bh) fuel (aI.setIfInBounds i true) a w:=by
     have hr:=qc (aI.setIfInBounds i true) (by
      intro j
      by_cases gH:j<arr.size
      ·by_cases he:j=i
       ·subst he;simp[Array.getD,fQ]
       ·rw[getD_set_ne true (Ne.symm he)]
        have kR:j<aI.size:=by omega
        have:=np j (by omega)
        simp[Array.getD,kR]at this ⊢
        exact this
      ·simp[Array.getD,aw,gH])
     intro a w hk
     cases fuel with
     |zero=>exact⟨hr,hk⟩
     |succ f=>exact⟨fun _=>hk,fun i hi=>by rw[hr]at hi;cases hi⟩
    split
    ·rename_i hw
     rw[if_pos hw]at h1
     exact Oper.wpIn_mono vH h1
    ·rename_i hw
     rw[if_neg hw]at h1
     exact⟨h1.1,vH _ _ h1.2⟩
   obtain⟨s,hs,tO,hso,fU,gI⟩:=jg i ans ae
   have oj:o'=arr[i]:=by rw[Bv ae]at ho;exact(oi ho).symm
   subst oj
   obtain⟨d,hd⟩:=jF i (by omega)
   have hB:∀ j,(bA befs i).contains j=true->aI.getD j false=true:=by
    intro j hj
    have hmm:j∈bA befs i:=by simpa using hj
    obtain⟨e,he,hb,h⟩:=(vB i ae j).1 hmm
    have pX:=iQ e (by simpa using he) hb
    rcases h with rfl|⟨_,h⟩
    ·exact pX
    ·exact ca _ pX j h
   have tr:∀ j,aI.getD j false=true->(bA befs j).contains i=false:=by
    intro j hj
    cases kP:(bA befs j).contains i with
    |false=>rfl
    |true=>
     have:=ca j hj i (by simpa using kP)
     rw[fc]at this;cases this
   have fR:∀ j,(aI.setIfInBounds i true).getD j false=(aI.getD j false || j==i):=by
    intro j
    by_cases gH:j=i
    ·subst gH;simp[Array.getD,fQ]
    ·rw[getD_set_ne false (Ne.symm gH)];simp[gH]
   unfold wpOpIn
   rw[ho]
   simp only
   have kc:Ej (look (mw ops befs ds st.tm i)) (look (ic ops ds (idxs ops.length fun j=>aI.getD j false) st.tm)):=by
    exact acO h1 jF hB tr
   have lT:∀ g j v,((arr[j]?).bind (·.dst)).getD n=g->a.tmps[g]?=some v->yielded arr a.tmps j=match v with|.bool b=>some b|_=>none:=by
    intro g j v ec hv
    unfold yielded
    cases hb:(arr[j]?).bind (·.dst) with
    |none=>
     rw[hb]at ec
     simp only[Option.getD_none]at ec
     have:=(CF.1 hv).1
     rw[hD.size]at this
     subst ec
     exact absurd this (Nat.lt_irrefl _)
    |some dd=>
     rw[hb]at ec
     simp only[Option.getD_some]at ec
     subst ec
     simp only[Af,hv]
     cases v<;>rfl
   have jG:∀ g w,s.guard=some (g,w)->∃ j,(arr[i]).guard=some (j,w)/\((arr[j]?).bind (·.dst)).getD n=g:=by
    intro g w hh
    rw[hh]at gI
    cases yB:(arr[i]).guard with
    |none=>rw[yB]at gI;cases gI
    |some p=>
     rw[yB]at gI
     simp only[A5,oE,Prod.mk.injEq]at gI
     exact⟨p.1,by rw[gI.2],gI.1.symm⟩
   have tG:∀ v w' dS du,DR N0 W0 n st ops ds (fun j=>aI.getD j false || j==i) (a.put (arr[i]).dst v) w' dS du->Be N0 fm' ts' dS du->wpAnyIn FW 0 P .any arr (K P Q bh) fuel (aI.setIfInBounds i true) (a.put (arr[i]).dst v) w':=by
    intro v w' dS du tf dG
    refine ih (aI.setIfInBounds i true) _ w' dS du (by simpa using aw) (by rw[fR,od];simp;omega) ?_ ?_ ?_ (hL.trans dG)
    ·have:=acN (p:=fun j=>!(aI.setIfInBounds i true).getD j false) (q:=fun j=>!aI.getD j false) (i:=i) (by
      intro j hj
      rw[fR]at hj
      simp only[Bool.not_or,A7]at hj
      exact hj.1) (by simp only[fc,Bs]) (by simp only[fR,fc];simp) (List.range arr.size) (List.mem_range.2 ae)
     omega
    ·intro j hj k hk
     rw[fR]at hj ⊢
     simp only[Bool.or_eq_true,beq_iff_eq]at hj ⊢
     rcases hj with hj|rfl
     ·exact .inl (ca j hj k hk)
     ·exact .inl (hB k (by simpa using hk))
    ·have e:(fun j=>(aI.setIfInBounds i true).getD j false)=fun j=>aI.getD j false || j==i:=funext fR
     rw[e]
     exact tf
   have yi:∀ j,aI.getD j false=true->i<j->mZ (dK ds i) (dK ds j):=by
    intro j hj pP
    have tC:j<aI.size:=by
     by_cases tC:j<aI.size
     ·exact tC
     ·simp[Array.getD,tC]at hj
    have hjm:j≠m:=by rintro rfl;rw[od]at hj;cases hj
    refine jf i j pP (by omega) ?_
    have:=tr j hj
    simpa using this
   have yz:∀ d,cq ops i=some d->d<n:=by
    intro dd ng
    have adE:jX s∈List.map (mz n arr) arr.toList:=by rw[<-eM];exact List.mem_map_of_mem (List.mem_append_left _ (AW hs))
    have:=hf _ adE
    simp only[cq,hs,Af]at ng
    simp only[jX,ng]at this
    simpa using this
   rcases yu i s d hs hd with ⟨eb,hE⟩|⟨adM,rfl⟩
   case inr=>
    obtain⟨g,want,tP,adw⟩:=adM
    obtain⟨j,hj,ec⟩:=jG g want tP
    have hnw:Region.wanted arr[i] (yielded arr a.tmps)=false:=by
     rcases adw with ⟨b,hb,ji⟩|hb
     ·obtain⟨v,hv,bp⟩:=hD.tm g _ (kc g _ hb)
      cases bp
      simp only[Region.wanted,hj,lT g j _ ec hv]
      simpa using ji
     ·obtain⟨v,hv,bp⟩:=hD.tm g _ (kc g _ hb)
      cases bp
      simp[Region.wanted,hj,lT g j _ ec hv]
    rw[if_neg (by rw[hnw];simp)]
    have ho:Out N0 W0 fm' ts' (Heap.bL (st.fr::st.low) (cG ds (idxs ops.length fun j=>aI.getD j false))) w (st.nx+16*i) (.ok .skip w) ⟨.ar [],[]⟩ fm' ts' w undef:=
     ⟨.inr ⟨rfl,rfl⟩,hD.hr,.ar [] #[] rfl (fun i x v h=>by simp at h),AN.refl _ _,As.refl _,fun _ _ _ h=>h⟩
    obtain⟨h2,h3⟩:=hD.step (by omega) fc hd ho h1 jF yi yz
    have yr:cq ops i=(arr[i]).dst:=by simp[cq,hs,tO]
    rw[yr]at h2
    exact⟨fun _ _=>trivial,tG _ w fm' ts' h2 h3⟩
   have adN:Region.wanted arr[i] (yielded arr a.tmps)=true:=by
    rcases eb with eb|⟨g,want,b,tP,hb,ji⟩
    ·rw[eb]at gI
     have:(arr[i]).guard=none:=by
      cases hh:(arr[i]).guard with
      |none=>rfl
      |some g=>rw[hh]at gI;cases gI
     simp[Region.wanted,this]
    ·obtain⟨j,hj,ec⟩:=jG g want tP
     obtain⟨v,hv,bp⟩:=hD.tm g _ (kc g _ hb)
     cases bp
     simp only[Region.wanted,hj,lT g j _ ec hv]
     simpa using ji
   rw[if_pos adN]
   exact(DR.oper (befs:=befs) hT hD (by omega) fc hd hs hE h1 jF hB tr yi yz hso fU tO fun v w' dS du tf dG=>tG v w' dS du tf dG)
 refine key arr.size (Array.replicate arr.size false) a _ fm ts (by simp) (vN m) (Ec List.countP_le_length (by simp)) (by intro j hj;rw[vN]at hj;cases hj) ?_ (Be.refl _ _)
 have e:(fun j=>(Array.replicate arr.size false).getD j false)=fun _=>false:=funext vN
 rw[e]
 exact DR.none ⟨hS.hr.drew,hS.tm,hS.nx,hS.size,hS.dX⟩
end
section
variable [Md] {P:Program}{T:AM}{n:Nat}
theorem alG {B:St->Prop}{ops:List An}{drop:List Nat}{st:St} (cX:List De) (tD:cX.length=ops.length)
  (hn:B { dC st ops cX ops.length with tm:=cA (dC st ops cX ops.length).tm drop }):B (st.drawn ops cX drop):=by
 obtain⟨e1,e2,e3,e4⟩:=aeC st ops cX tD ops.length (Bd _)
 unfold St.drawn
 obtain⟨f',H',hp⟩:=ud st.fr st.low (cG cX (List.range ops.length))
 rw[hp]at e1 ⊢
 simp only[List.cons.injEq]at e1
 obtain⟨e5,e6⟩:=e1
 rw[ajs]
 simp only[e2,e3,e4,e5,e6]at hn
 exact hn
theorem Ii {N0:Nat}{W0:World}{fm:FM}{ts:List Ak}{a:Act}{w:World}{Q:Exit->Act->World->Prop}{bh:List BF}{rZ:Nat}{arr:Array Oper}{B:St->Prop} (hT:AQ P T) (hm:P.follows .mixedOrders=true) {ops0 ops:List An}{o:An}{befs:List (List Nat)}{drop:List Nat}{st:St} (m:Nat) (e:ops0=ops++[o]) (hl:ahD n ops befs o=true)
  (h:DG P T (fun acc ao=>calm ops befs acc.reverse=true/\B { ao with tm:=cA ao.tm [] }) (jv T m ops [] st))
  (hS:SR N0 W0 n st a w fm ts) (hb:(SC.aO ops0 befs drop).bare=erase n (.region rZ arr true)) (hf:SC.fits n (erase n (.region rZ arr true))=true)
  (hn:∀ ao a' w' fm' ts',B ao->SR N0 W0 n ao a' w' fm' ts'->Be N0 fm ts fm' ts'->K P Q (.ops arr [ops.length]::bh) .normal a' w'):K P Q (.code (.region rZ arr true)::bh) .normal a w:=by
 subst e
 obtain⟨ds,h1,h2,h3⟩:=abH m _ _ _ h
 simp only[List.append_nil,List.reverse_reverse]at h2
 have hlen:(ds.map (·.1)).length=ops.length:=by simp[h1.length]
 have h2':=h2
 simp only[calm,A7,decide_eq_true_eq]at h2'
 obtain⟨⟨⟨⟨_,k1⟩,gF⟩,jf⟩,_⟩:=h2'
 simp only[ahD,A7,List.all_eq_true,List.mem_range]at hl
 have hB:B (st.drawn ops (ds.map (·.1)) []):=alG _ hlen h3
 refine Ie hT hm (ds.map (·.1)) (fun j hj=>⟨(ds.map (·.1))[j]'(by omega),gG (by omega)⟩) (abB ops k1) (fun i j hj=>by have:=aaM befs 0 gF i j hj;omega) (afg jf) (afL ds h1 h2) (fun j hj=>by simpa using hl.1 j hj) ?_ hS hb hf (fun a' w' fm' ts' cJ hL'=>hn _ a' w' fm' ts' hB cJ hL')
 intro s hs g w hg
 have:=hl.2 s hs
 rw[hg]at this
 simpa using this
end
def AV.oH:AV->Bool
 |.int .u8 _=>false
 |.raw _=>false
 |_=>true
mutual
def AV.eV:AV->Bool
 |.sl _ es=>AV.rO es
 |.aA _ es _ _=>AV.rO es
 |.fn _ a b=>AV.nw a&&AV.nw b
 |.bR _ v=>v.eV
 |.agg cs=>AV.nw cs
 |.ar vs=>AV.nw vs
 |_=>true
def AV.nw:List AV->Bool
 |[]=>true
 |x::l=>x.eV&&AV.nw l
def AV.jt:List AV->Bool
 |[]=>true
 |x::l=>x.oH&&(x.eV&&AV.jt l)
def AV.rO:List (List AV)->Bool
 |[]=>true
 |c::l=>AV.jt c&&AV.rO l
end
def AH.eV:AH->Bool
 |.box cs=>AV.nw cs
 |.arr _ _ es=>es.all AV.nw
theorem tZ:∀ {l:List AV}{i:Nat}{x:AV},AV.nw l=true->l[i]?=some x->x.eV=true
 |[],i,x,_,h=>by simp at h
 |y::l,0,x,h,e=>by simp only[AV.nw,A7]at h;cases e;exact h.1
 |y::l,i+1,x,h,e=>by simp only[AV.nw,A7]at h;exact tZ h.2 (by simpa using e)
theorem zB:∀ {l:List AV}{i:Nat}{x:AV},AV.jt l=true->l[i]?=some x->x.oH=true/\x.eV=true
 |[],i,x,_,h=>by simp at h
 |y::l,0,x,h,e=>by simp only[AV.jt,A7]at h;cases e;exact⟨h.1,h.2.1⟩
 |y::l,i+1,x,h,e=>by simp only[AV.jt,A7]at h;exact zB h.2.2 (by simpa using e)
theorem zC:∀ {l:List (List AV)}{i:Nat}{c:List AV},AV.rO l=true->l[i]?=some c->AV.jt c=true
 |[],i,x,_,h=>by simp at h
 |y::l,0,x,h,e=>by simp only[AV.rO,A7]at h;cases e;exact h.1
 |y::l,i+1,x,h,e=>by simp only[AV.rO,A7]at h;exact zC h.2 (by simpa using e)
theorem abx {α:Type}{E:α->List AV} (h:∀ x,AV.jt (E x)=true):∀ l:List α,AV.rO (l.map E)=true
 |[]=>rfl
 |x::l=>by simp only[List.map_cons,AV.rO,A7];exact⟨h x,abx h l⟩
theorem aea:∀ (a b:List AV),AV.jt (a++b)=(AV.jt a&&AV.jt b)
 |[],b=>by simp[AV.jt]
 |x::a,b=>by simp only[Bq,AV.jt,aea a b,Bool.and_assoc]
theorem VR.oH {fm:FM}{ts:List Ak}{x:AV}{v:Value} (h:VR fm ts x v) (hf:x.flat=true) (h8:x.oH=true):∀ m,v≠.int .u8 m:=by
 intro m e
 subst e
 cases h with
 |int k n=>simp[AV.oH]at h8
 |raw v h=>simp[AV.oH]at h8
 |dead v=>simp[AV.flat]at hf
theorem VR.xa {fm fm':FM} (hle:∀ b o v,fm b o=some v->(∀ m,v≠.int .u8 m)->fm' b o=some v) (oz:∀ b,fm'.t b=fm.t b\/fm'.t b=0) {ts:List Ak}{x:AV}{v:Value} (h:VR fm ts x v):x.eV=true->VR fm' ts x v:=by
 induction h with
 |sl es cb off esz cap u bU h1 h2 h3 h4 ih=>
  intro h8
  simp only[AV.eV]at h8
  refine .sl es cb off esz cap u bU h1 (fun i c o x a b=>⟨hle _ _ _ (h2 i c o x a b).1 ((h4 i c o x a b).oH (h3 i c o x a b) (zB (zC h8 a) b).1),?_⟩) h3 (fun i c o x a b=>ih i c o x a b (zB (zC h8 a) b).2)
  rcases oz cb with e|e
  ·rw[e];exact(h2 i c o x a b).2
  ·exact .inl e
 |aA es i o cb off esz u h1 h2 h3 h4 ih=>
  intro h8
  simp only[AV.eV]at h8
  refine .aA es i o cb off esz u h1 (fun i c o x a b=>⟨hle _ _ _ (h2 i c o x a b).1 ((h4 i c o x a b).oH (h3 i c o x a b) (zB (zC h8 a) b).1),?_⟩) h3 (fun i c o x a b=>ih i c o x a b (zB (zC h8 a) b).2)
  rcases oz cb with e|e
  ·rw[e];exact(h2 i c o x a b).2
  ·exact .inl e
 |fn f first cap vf vc h1 h2 h3 h4 iq iu=>
  intro h8
  simp only[AV.eV,A7]at h8
  exact .fn f first cap vf vc h1 h2 (fun i x v a b=>iq i x v a b (tZ h8.1 a)) (fun i x v a b=>iu i x v a b (tZ h8.2 a))
 |bR t x v h ih=>intro h8;simp only[AV.eV]at h8;exact .bR t x v (ih h8)
 |agg cs vs h1 h2 h3 ih=>intro h8;simp only[AV.eV]at h8;exact .agg cs vs h1 h2 (fun i x v a b=>ih i x v a b (tZ h8 a))
 |ar xs vs h1 h3 ih=>intro h8;simp only[AV.eV]at h8;exact .ar xs vs h1 (fun i x v a b=>ih i x v a b (tZ h8 a))
 |bool b=>intro _;exact .bool b
 |int k n=>intro _;exact .int k n
 |str s=>intro _;exact .str s
 |nil=>intro _;exact .nil
 |cd e a cap=>intro _;exact .cd e a cap
 |cH l k esz i n g a cp h hn ha=>intro _;exact .cH l k esz i n g a cp h hn ha
 |cI l k esz i n g a cp m' c h ae hn ha=>intro _;exact .cI l k esz i n g a cp m' c h ae hn ha
 |cv l k esz a h=>intro _;exact .cv l k esz a h
 |loc l k esz i n g c cap cp a h hn bI hc ha=>intro _;exact .loc l k esz i n g c cap cp a h hn bI hc ha
 |bF l k esz o n c cp a h hn ha=>intro _;exact .bF l k esz o n c cp a h hn ha
 |bG=>intro _;exact .bG
 |ptr l k o c h=>intro _;exact .ptr l k o c h
 |ey l k esz i o g a h=>intro _;exact .ey l k esz i o g a h
 |eA l k esz i o g a m' c h ae=>intro _;exact .eA l k esz i o g a m' c h ae
 |bq l k esz i o g c cap h=>intro _;exact .bq l k esz i o g c cap h
 |bP=>intro _;exact .bP
 |bS=>intro _;exact .bS
 |raw v h=>intro _;exact .raw v h
 |dead v=>intro _;exact .dead v
def FM.lu (fm:FM) (c j:Nat) (y:Value):FM:=⟨fun b o=>if b=c/\o=j then some y else fm b o,fm.t⟩
theorem FM.ai5 {fm:FM}{c j:Nat}{y:Value}{kr:Int} (h:fm c j=some (.int .u8 kr)):∀ b o v,fm b o=some v->(∀ m,v≠.int .u8 m)->(fm.lu c j y) b o=some v:=by
 intro b o v hv hn
 unfold FM.lu
 simp only
 rw[if_neg]
 ·exact hv
 ·rintro⟨rfl,rfl⟩
  rw[h]at hv
  exact hn kr (oi hv).symm
theorem HR.xa {N0:Nat}{W0:World}{fm:FM}{ts:List Ak}{H:Heap}{w:World} (h:HR N0 W0 fm ts H w) {c j:Nat}{kr:Int}{y:Value}{cells:Array Value}{et:TypeId} (hN:N0<=c) (hold:fm c j=some (.int .u8 kr)) (hc:w.heap[c]?=some (.cells cells et (0,0)))
  (hH:∀ l k b,H.get l k=some b->b.eV=true):HR N0 W0 (fm.lu c j y) ts H (w.setRow c (cells.toList.take j++([y]++cells.toList.drop (j+1))).toArray):=by
 have hle:=FM.ai5 (y:=y) hold
 have oz:∀ b,(fm.lu c j y).t b=fm.t b\/(fm.lu c j y).t b=0:=fun b=>.inl rfl
 have ym:w.cell? ⟨c,j,none⟩=some (.int .u8 kr):=h.bO _ _ _ hold
 have hj:j<cells.size:=by
  simp only[World.cell?,hc]at ym
  by_cases hj:j<cells.size
  ·exact hj
  ·simp[Array.getElem?_eq_none (by omega:cells.size<=j)]at ym
 have ahf:∀ l k b c',H.get l k=some b->bz (tb ts l k)=some c'->c'≠c:=by
  rintro l k b c' hg ht rfl
  rw[h.dh l k b c' j hg ht]at hold
  cases hold
 have tL:∀ i,i≠c->(w.setRow c (cells.toList.take j++([y]++cells.toList.drop (j+1))).toArray).heap[i]?=w.heap[i]?:=fun i hi=>setRow_other w c i _ hi
 have dw:(w.setRow c (cells.toList.take j++([y]++cells.toList.drop (j+1))).toArray).heap[c]?=some (.cells (cells.toList.take j++([y]++cells.toList.drop (j+1))).toArray et (0,0)):=setRow_heap w c cells _ et _ hc
 have dH:∀ o,(cells.toList.take j++([y]++cells.toList.drop (j+1))).toArray[o]?=if o=j then some y else cells[o]?:=by
  intro o
  simp only[List.getElem?_toArray]
  by_cases h1:o<j
  ·rw[Ct (by simp;omega),BP,if_pos h1,if_neg (by omega)];simp
  ·rw[CE (by simp;omega)]
   simp only[A9,Array.length_toList,Nat.min_eq_left (Nat.le_of_lt hj)]
   by_cases h2:o=j
   ·subst h2;simp
   ·obtain⟨d,rfl⟩:∃ d,o=j+1+d:=⟨o - (j+1),by omega⟩
    have:j+1+d - j=d+1:=by omega
    rw[this,if_neg h2,List.singleton_append,Cb,Cf];simp
 refine⟨h.len,?_,h.inj,?_,?_,h.dg.trans (acm w c _ hN),?_,?_,?_⟩
 ·intro l k b hg
  have hb:=h.al l k b hg
  have h8:=hH l k b hg
  have bg:=ahf l k b
  generalize hq:tb ts l k=t at hb bg
  cases hb with
  |box c' cs nf hB=>
   obtain⟨cl,jA,c1,c2,c3⟩:=hB
   exact .box c' cs nf ⟨cl,jA,(tL c' (bg c' hg rfl)).trans c1,c2,fun o x v a b=>⟨(c3 o x v a b).1,(c3 o x v a b).2.xa hle oz (tZ h8 a)⟩⟩
  |nil jA esz=>exact .nil jA esz
  |arr jA esz es c' cap nf hA=>
   obtain⟨cl,c1,c2,c3,c4,c5,c6,c7⟩:=hA
   refine .arr jA esz es c' cap nf ⟨cl,(tL c' (bg c' hg rfl)).trans c1,c2,c3,c4,c5,c6,fun i cc o x v a b d=>⟨(c7 i cc o x v a b d).1,(c7 i cc o x v a b d).2.xa hle oz ?_⟩⟩
   have h9:AV.nw cc=true:=List.all_eq_true.1 h8 cc (AW a)
   exact tZ h9 b
 ·intro b o v hv
  unfold FM.lu at hv
  simp only at hv
  by_cases n6:b=c
  ·subst n6
   simp only[World.cell?,dw]
   split at hv
   ·rename_i hh
    rw[dH,if_pos hh.2]
    simpa using hv
   ·rename_i hh
    rw[dH,if_neg (fun e=>hh ⟨rfl,e⟩)]
    have:=h.bO b o v hv
    simpa [World.cell?,hc] using this
  ·rw[if_neg (fun hh=>n6 hh.1)]at hv
   have:=h.bO b o v hv
   exact(World.cell?_of_block (w:=w) (a:=⟨b,o,none⟩) (tL b n6)).trans this
 ·intro l k b c' o hg ht
  unfold FM.lu
  simp only
  rw[if_neg (fun hh=>ahf l k b c' hg ht hh.1)]
  exact h.dh l k b c' o hg ht
 ·have:=h.size
  simpa [World.setRow] using this
 ·intro b o h0 ho
  have hb:=h.cT b o h0 ho
  refine(tL b ?_).trans hb
  rintro rfl
  rw[hc]at hb
  cases hb
  cases ho
 ·intro b o v nf hv ht
  by_cases n6:b=c
  ·subst n6;exact⟨_,et,dw⟩
  ·unfold FM.lu at hv
   simp only at hv
   rw[if_neg (fun hh=>n6 hh.1)]at hv
   exact(h.dZ b o v nf hv ht).of (tL b n6)
end Go.Abs
namespace Go.Abs
open Go
theorem aV {n:Int} (h1:-9223372036854775808<=n) (h2:n<=9223372036854775807):ab n=n:=by
 simp only[ab,IntKind.wrap,IntKind.bits,IntKind.signed]
 simp
 omega
theorem bC {α:Type}{l:List α}{i:Nat}{x:α} (h:l[i]?=some x):at? l (i:Int)=some x:=by
 have:i<l.length:=(gS.1 h).1
 unfold at?
 rw[if_pos ⟨by omega,by omega⟩]
 simpa using h
def scan {R:Type} (g:Nat->Option R):Nat->Nat->Option R
 |_,0=>none
 |i,n+1=>match g i with
  |some r=>some r
  |none=>scan g (i+1) n
theorem aq3 {R:Type}{body:Int->Option (AT Int Unit R)}{n:Nat}{g:Nat->Option R} (hn:n<=9223372036854775807)
  (h1:∀ i,i<n->body (i:Int)=some (match g i with|some r=>.ret r|none=>.next (ab ((i:Int)+1)))) (h2:body (n:Int)=some (.brk ())):
  ∀ (k d i:Nat),i+d=n->d<k->aj body k (i:Int)=some (match scan g i d with|some r=>.ret r|none=>.brk ()):=by
 intro k
 induction k with
 |zero=>intro d i _ h;omega
 |succ k ih=>
  intro d i hd hk
  cases d with
  |zero=>
   have:i=n:=by omega
   subst this
   rw[aj,h2];rfl
  |succ d=>
   rw[aj,h1 i (by omega)]
   cases hg:g i with
   |some r=>simp only[scan,hg]
   |none=>
    simp only[scan,hg]
    have:ab ((i:Int)+1)=((i+1:Nat):Int):=by rw[aV (by omega) (by omega)];omega
    rw[this]
    exact ih d (i+1) (by omega) (by omega)
theorem aq1 {α R:Type}{l:List α}{body:Int->Option (AT Int Unit R)}{f:α->Option R} (hn:l.length<=9223372036854775807) {k:Nat} (hk:l.length<k)
  (h1:∀ (i:Nat) x,l[i]?=some x->body (i:Int)=some (match f x with|some r=>.ret r|none=>.next (ab ((i:Int)+1)))) (h2:body (l.length:Int)=some (.brk ())):
  aj body k 0=some (match l.findSome? f with|some r=>.ret r|none=>.brk ()):=by
 have key:∀ (m:List α) (i k:Nat),l.drop i=m->i+m.length=l.length->m.length<k->aj body k (i:Int)=some (match m.findSome? f with|some r=>.ret r|none=>.brk ()):=by
  intro m
  induction m with
  |nil=>
   intro i k _ h3 h4
   cases k with
   |zero=>omega
   |succ k=>
    have:i=l.length:=by simpa using h3
    subst this
    rw[aj,h2];rfl
  |cons x m ih=>
   intro i k h5 h3 h4
   cases k with
   |zero=>omega
   |succ k=>
    simp only[AA]at h3 h4
    have hx:l[i]?=some x:=by
     have:=congrArg (fun q=>q[0]?) h5
     simpa using this
    rw[aj,h1 i x hx]
    cases hf:f x with
    |some r=>simp only[List.findSome?_cons,hf]
    |none=>
     simp only[List.findSome?_cons,hf]
     have:ab ((i:Int)+1)=((i+1:Nat):Int):=by rw[aV (by omega) (by omega)];omega
     rw[this]
     exact ih (i+1) k (by rw[<-List.drop_drop,h5];rfl) (by omega) (by omega)
 exact key l 0 k rfl (by simp) hk
theorem qJ {α S R τ:Type}{l:List α}{body:τ->Option (AT τ S R)} (mk:Int->S->τ) (f:S->α->S) (Inv:Nat->S->Prop) (hn:l.length<=9223372036854775807) {k:Nat} (hk:l.length<k) {s0:S} (h0:Inv 0 s0)
  (h1:∀ (i:Nat) x s,l[i]?=some x->Inv i s->body (mk (i:Int) s)=some (.next (mk (ab ((i:Int)+1)) (f s x)))/\Inv (i+1) (f s x)) (h2:∀ s,Inv l.length s->body (mk (l.length:Int) s)=some (.brk s)):
  aj body k (mk 0 s0)=some (.brk (l.foldl f s0))/\Inv l.length (l.foldl f s0):=by
 have key:∀ (m:List α) (i k:Nat) (s:S),l.drop i=m->i+m.length=l.length->m.length<k->Inv i s->aj body k (mk (i:Int) s)=some (.brk (m.foldl f s))/\Inv l.length (m.foldl f s):=by
  intro m
  induction m with
  |nil=>
   intro i k s _ h3 h4 hI
   cases k with
   |zero=>omega
   |succ k=>
    have:i=l.length:=by simpa using h3
    subst this
    exact⟨by rw[aj,h2 s hI];rfl,hI⟩
  |cons x m ih=>
   intro i k s h5 h3 h4 hI
   cases k with
   |zero=>omega
   |succ k=>
    simp only[AA]at h3 h4
    have hx:l[i]?=some x:=by
     have:=congrArg (fun q=>q[0]?) h5
     simpa using this
    obtain⟨h6,h7⟩:=h1 i x s hx hI
    have:ab ((i:Int)+1)=((i+1:Nat):Int):=by rw[aV (by omega) (by omega)];omega
    rw[this]at h6
    rw[aj,h6]
    exact ih (i+1) k (f s x) (by rw[<-List.drop_drop,h5];rfl) (by omega) (by omega) h7
 exact key l 0 k s0 rfl (by simp) hk h0
theorem qx {α:Type}{b:Nat}{l:List α}{x:α} (h:(l.length+1)*b<=140737488355328) (h2:l.length+1<4611686018427387904):fG b l x=some (l++[x]):=by
 unfold fG dM
 rw[if_pos ⟨by simpa using h,by simpa using h2⟩]
end Go.Abs
