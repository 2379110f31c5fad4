/-
  Part 3 of the proof: a machine over named blocks, what each function computes, and what follows. No condition.
-/
import Derived.Defers
import Derived.Recover
import Derived.RangeFuncNested
import Derived.Maps.OwnSet
import Derived.Maps.Views
import Derived.DeepKeys4
import Derived.Test.YtpgccpdlilnakaaGreatBPacksB
set_option linter.unusedVariables false
set_option linter.unusedSimpArgs false
set_option linter.all false
namespace Go.Abs
open Go
def og (d:Nat) (o:Op) (t a:Nat) (b:Bool) (l:List Nat):An:=⟨some d,o,t,some (a,b),l⟩
def oq (d:Nat) (o:Op) (t:Nat) (l:List Nat):An:=⟨some d,o,t,none,l⟩
def mv (d s t:Nat) (l:List Nat):An:=⟨some d,.move (.tmp s),t,none,l⟩
def ld (d t s:Nat) (l:List Nat):An:=⟨some d,.load t (.tmp s),t,none,l⟩
def fa (d t s i:Nat) (l:List Nat):An:=⟨some d,.fieldAddr t (.tmp s) i,0,none,l⟩
def ia (d t s i:Nat) (l:List Nat):An:=⟨some d,.indexAddr t (.tmp s) (.tmp i),0,none,l⟩
def sg (d s t:Nat) (l:List Nat):An:=⟨some d,.assign (.tmp s),t,none,l⟩
def sn (d:Nat) (n:Int) (t:Nat) (l:List Nat):An:=⟨some d,.assign (.const (.int .i64 n)),t,none,l⟩
def sb (d:Nat) (b:Bool) (t:Nat) (l:List Nat):An:=⟨some d,.assign (.const (.bool b)),t,none,l⟩
def xt (d s i t:Nat) (l:List Nat):An:=⟨some d,.extract (.tmp s) i,t,none,l⟩
def ln (d s u t:Nat) (l:List Nat):An:=⟨some d,.call ⟨.builtin .len,#[.tmp s],#[u]⟩,t,none,l⟩
def cf1 (d f a ta t:Nat) (l:List Nat):An:=⟨some d,.call ⟨.value (.func f),#[.tmp a],#[ta]⟩,t,none,l⟩
def cf2 (d f a b ta tb t:Nat) (l:List Nat):An:=⟨some d,.call ⟨.value (.func f),#[.tmp a,.tmp b],#[ta,tb]⟩,t,none,l⟩
def b2 (d:Nat) (o:BinOp) (u a b v t:Nat) (l:List Nat):An:=⟨some d,.binOp o u (.tmp a) (.tmp b) v,t,none,l⟩
def bn (d:Nat) (o:BinOp) (u a:Nat) (n:Int) (v t:Nat) (l:List Nat):An:=⟨some d,.binOp o u (.tmp a) (.const (.int .i64 n)) v,t,none,l⟩
attribute [go_sem] og oq mv ld fa ia sg sn sb xt ln cf1 cf2 b2 bn
theorem aa {α:Type}{l:List α}{i:Int}{x:α} (h:at? l i=some x):gq i l.length=some i.toNat/\∀ (β:Type) (E:α->β),(l.map E)[i.toNat]?=some (E x):=⟨aC h,fun _ E=>aE E h⟩
theorem bs {α β:Type}{o:Option α}{f:α->Option β}{r:β} (h:o.bind f=some r):∃ x,o=some x/\f x=some r:=bind_some h
structure Aa (n:Nat) (α:Type) where
 l:List α
 h:l.length=n
def Aa.c {n:Nat}{α:Type} (E:α->List AV) (v:Aa n α):List AV:=(v.l.map E).flatten
theorem Aa.ext {n:Nat}{α:Type}{a b:Aa n α} (h:a.l=b.l):a=b:=by
 cases a;cases b;cases h;rfl
theorem abF {α:Type}{E:α->List AV}{z:Nat} (h:∀ x,(E x).length=z):∀ l:List α,(l.map E).flatten.length=l.length*z
 |[]=>by simp
 |x::l=>by rw[List.map_cons,Cx,A9,h,abF h l,AA,Nat.succ_mul];omega
theorem Aa.len {n:Nat}{α:Type}{E:α->List AV}{z:Nat} (h:∀ x,(E x).length=z) (v:Aa n α):(v.c E).length=n*z:=by
 unfold Aa.c;rw[abF h,v.h]
def Aa.at? {n:Nat}{α:Type} (v:Aa n α) (i:Int):Option α:=if 0<=i/\i<n then v.l[i.toNat]? else none
def Aa.set {n:Nat}{α:Type} (v:Aa n α) (i:Int) (x:α):Aa n α:=⟨v.l.set i.toNat x,by simp[v.h]⟩
def Aa.rep (n:Nat) {α:Type} (x:α):Aa n α:=⟨List.replicate n x,by simp⟩
theorem aw {n:Nat}{α:Type}{v:Aa n α}{i:Int}{x:α} (h:v.at? i=some x):gq i n=some i.toNat:=by
 unfold Aa.at? at h
 split at h
 ·rename_i hc;unfold gq;rw[if_pos hc]
 ·cases h
theorem ajR {n:Nat}{α:Type}{v:Aa n α}{i:Int}{x:α} (h:v.at? i=some x):v.l[i.toNat]?=some x:=by
 unfold Aa.at? at h
 split at h
 ·exact h
 ·cases h
def Sub (cs:List AV) (o:Nat) (c:List AV):Prop:=∃ a b,cs=a++(c++b)/\a.length=o
theorem Sub.self (c:List AV):Sub c 0 c:=⟨[],[],by simp,rfl⟩
theorem Sub.trans {cs c c':List AV}{o o':Nat} (h:Sub cs o c) (k:Sub c o' c'):Sub cs (o+o') c':=by
 obtain⟨a,b,rfl,rfl⟩:=h
 obtain⟨a',b',rfl,rfl⟩:=k
 exact⟨a++a',b'++b,by simp,by simp⟩
theorem Sub.cons (x:AV) {cs c:List AV}{o:Nat} (h:Sub cs o c):Sub (x::cs) (o+1) c:=by
 obtain⟨a,b,rfl,rfl⟩:=h
 exact⟨x::a,b,by simp,by simp⟩
theorem Sub.bound {cs c:List AV}{o z:Nat} (h:Sub cs o c) (hz:c.length=z):o+z<=cs.length:=by
 obtain⟨a,b,rfl,rfl⟩:=h
 simp;omega
theorem Sub.get {cs c:List AV}{o z:Nat} (h:Sub cs o c) (hz:c.length=z):(cs.drop o).take z=c:=by
 obtain⟨a,b,rfl,rfl⟩:=h
 subst hz
 simp
theorem Sub.idx {n:Nat}{α:Type}{E:α->List AV}{z:Nat} (hE:∀ x,(E x).length=z) {v:Aa n α}{i:Int}{x:α} (h:v.at? i=some x):Sub (v.c E) (i.toNat*z) (E x):=by
 have hg:=ajR h
 obtain⟨ae,hx⟩:=gS.1 hg
 refine⟨((v.l.take i.toNat).map E).flatten,((v.l.drop (i.toNat+1)).map E).flatten,?_,?_⟩
 ·unfold Aa.c
  conv=>lhs;rw[<-C4 i.toNat v.l,List.drop_eq_getElem_cons ae,hx]
  simp
 ·rw[abF hE,Ba,Nat.min_eq_left (by omega)]
theorem apP {cs c c':List AV}{o o':Nat} (h:Sub cs o c) (k:Sub c o' c') {new:List AV} (hl:new.length=c'.length):overwrite cs (o+o') new=overwrite cs o (overwrite c o' new):=by
 obtain⟨a,b,rfl,rfl⟩:=h
 obtain⟨a',b',rfl,rfl⟩:=k
 have h1:overwrite (a++((a'++(c'++b'))++b)) (a.length+a'.length) new=a++(a'++(new++(b'++b))):=by
  unfold overwrite
  rw[hl]
  have e1:(a++((a'++(c'++b'))++b))=(a++a')++(c'++(b'++b)):=by simp
  rw[e1,DV (by simp),<-List.drop_drop,List.drop_left' (by simp),List.drop_left' rfl]
  simp
 have h2:overwrite (a'++(c'++b')) a'.length new=a'++(new++b'):=by
  unfold overwrite
  rw[hl,DV rfl,<-List.drop_drop,List.drop_left' rfl,List.drop_left' rfl]
 rw[h1,h2]
 unfold overwrite
 rw[DV rfl,<-List.drop_drop,List.drop_left' rfl,List.drop_left' (by simp[hl])]
 simp
theorem apN {n:Nat}{α:Type}{E:α->List AV}{z:Nat} (hE:∀ x,(E x).length=z) {v:Aa n α}{i:Int}{x:α} (h:v.at? i=some x) (y:α):overwrite (v.c E) (i.toNat*z) (E y)=(v.set i y).c E:=by
 have hg:=ajR h
 obtain⟨ae,hx⟩:=gS.1 hg
 have e1:v.c E=((v.l.take i.toNat).map E).flatten++(E x++((v.l.drop (i.toNat+1)).map E).flatten):=by
  unfold Aa.c
  conv=>lhs;rw[<-C4 i.toNat v.l,List.drop_eq_getElem_cons ae,hx]
  simp
 have e2:(v.set i y).c E=((v.l.take i.toNat).map E).flatten++(E y++((v.l.drop (i.toNat+1)).map E).flatten):=by
  unfold Aa.c Aa.set
  simp only
  rw[List.set_eq_take_append_cons_drop,if_pos ae]
  simp
 have hl:(((v.l.take i.toNat).map E).flatten).length=i.toNat*z:=by rw[abF hE,Ba,Nat.min_eq_left (by omega)]
 rw[e1,e2]
 unfold overwrite
 rw[<-hl,DV rfl,<-List.drop_drop,List.drop_left' rfl,List.drop_left' (by rw[hE,hE])]
theorem apO {c new:List AV} (h:new.length=c.length):overwrite c 0 new=new:=by
 unfold overwrite;rw[Co,h,List.drop_length];simp
theorem apM (x:AV) (cs new:List AV) (o:Nat):overwrite (x::cs) (o+1) new=x::overwrite cs o new:=by
 unfold overwrite;rw[show o+1+new.length=(o+new.length)+1 by omega];simp
structure VK {α:Type} (z:Nat) (E:α->List AV):Prop where
 len:∀ x,(E x).length=z
 sv:∀ x,Cs (E x)
theorem ajD (d:Nat):∀ a b x y:List AV,AV.gz d a=some x->AV.gz d b=some y->AV.gz d (a++b)=some (x++y)
 |[],b,x,y,h,k=>by simp only[AV.gz,oE]at h;subst h;simpa using k
 |u::a,b,x,y,h,k=>by
  simp only[AV.gz]at h
  split at h
  ·rename_i p q hp hq
   obtain rfl:=oi h
   simp only[Bg,AV.gz,hp,ajD d a b q y hq k]
  ·cases h
theorem ahv (G:AS):∀ a b x y:List AV,AV.aG G a=some x->AV.aG G b=some y->AV.aG G (a++b)=some (x++y)
 |[],b,x,y,h,k=>by simp only[AV.aG,oE]at h;subst h;simpa using k
 |u::a,b,x,y,h,k=>by
  simp only[AV.aG]at h
  split at h
  ·rename_i p q hp hq
   obtain rfl:=oi h
   simp only[Bg,AV.aG,hp,ahv G a b q y hq k]
  ·cases h
theorem agf (G:AS) (F:Nat->Nat->Option (List AV)):∀ a b x y:List AV,AV.cZ G F a=some x->AV.cZ G F b=some y->AV.cZ G F (a++b)=some (x++y)
 |[],b,x,y,h,k=>by simp only[AV.cZ,oE]at h;subst h;simpa using k
 |u::a,b,x,y,h,k=>by
  simp only[AV.cZ]at h
  split at h
  ·rename_i p q hp hq
   obtain rfl:=oi h
   simp only[Bg,AV.cZ,hp,agf G F a b q y hq k]
  ·cases h
theorem ajb (ks:List Nat):∀ a b x y:List AV,AV.dU ks a=some x->AV.dU ks b=some y->AV.dU ks (a++b)=some (x++y)
 |[],b,x,y,h,k=>by simp only[AV.dU,oE]at h;subst h;simpa using k
 |u::a,b,x,y,h,k=>by
  simp only[AV.dU]at h
  split at h
  ·rename_i p q hp hq
   obtain rfl:=oi h
   simp only[Bg,AV.dU,hp,ajb ks a b q y hq k]
  ·cases h
theorem aen (k:Nat):∀ a b:List AV,AV.iP k (a++b)=AV.iP k a++AV.iP k b
 |[],b=>rfl
 |x::a,b=>by simp only[Bg,AV.iP,aen k a b]
theorem ae3:∀ a b:List AV,AV.aO (a++b)=AV.aO a++AV.aO b
 |[],b=>rfl
 |x::a,b=>by simp only[Bg,AV.aO,ae3 a b,Cu]
theorem Cs.append {a b:List AV} (h:Cs a) (k:Cs b):Cs (a++b):=
 ⟨fun d=>by rw[afb,h.sh,k.sh],fun G=>ahv G _ _ _ _ (h.ai G) (k.ai G),fun G F=>agf G F _ _ _ _ (h.br G F) (k.br G F),by rw[ae3,h.refs,k.refs];rfl,
  fun n=>by rw[aen,h.imp,k.imp],fun ks=>ajb ks _ _ _ _ (h.aS ks) (k.aS ks),fun d=>ajD d _ _ _ _ (h.un d) (k.un d)⟩
theorem Cs.nil:Cs []:=⟨fun _=>rfl,fun _=>rfl,fun _ _=>rfl,rfl,fun _=>rfl,fun _=>rfl,fun _=>rfl⟩
theorem Cs.flat {α:Type}{E:α->List AV} (h:∀ x,Cs (E x)):∀ l:List α,Cs (l.map E).flatten
 |[]=>Cs.nil
 |x::l=>by rw[List.map_cons,Cx];exact(h x).append (Cs.flat h l)
theorem VK.vec {α:Type}{z:Nat}{E:α->List AV} (h:VK z E) (n:Nat):VK (n*z) (Aa.c (n:=n) E):=
 ⟨fun v=>v.len h.len,fun v=>Cs.flat h.sv v.l⟩
theorem pE:VK 1 eI:=⟨fun _=>rfl,fun _=>⟨fun _=>rfl,fun _=>rfl,fun _ _=>rfl,rfl,fun _=>rfl,fun _=>rfl,fun _=>rfl⟩⟩
theorem nd:VK 1 af:=⟨fun _=>rfl,fun _=>⟨fun _=>rfl,fun _=>rfl,fun _ _=>rfl,rfl,fun _=>rfl,fun _=>rfl,fun _=>rfl⟩⟩
theorem agT:∀ (z a b z' a' b':List AV),z.length=a.length->a.length=b.length->bO (z++z') (a++a') (b++b')=(match bO z a b,bO z' a' b' with
  |some p,some q=>some (p&&q)
  |_,_=>none)
 |[],[],[],z',a',b',_,_=>by
  simp only[Bt,bO]
  cases bO z' a' b'<;>simp
 |x::z,p::a,q::b,z',a',b',h1,h2=>by
  simp only[Bg,bO]
  rw[agT z a b z' a' b' (by simpa using h1) (by simpa using h2)]
  cases kt x p q<;>cases bO z a b<;>cases bO z' a' b'<;>simp[Bool.and_assoc]
 |[],_::_,_,_,_,_,h,_=>by simp at h
 |_::_,[],_,_,_,_,h,_=>by simp at h
 |[],[],_::_,_,_,_,_,h=>by simp at h
 |_::_,_::_,[],_,_,_,_,h=>by simp at h
theorem agU {α:Type}{E:α->List AV}{z:Nat}{zc:List AV} (hE:∀ x,(E x).length=z) (hz:zc.length=z) (eq:α->α->Bool) (h:∀ x y,bO zc (E x) (E y)=some (eq x y)):
  ∀ (n:Nat) (a b:List α),a.length=n->b.length=n->bO (List.replicate n zc).flatten (a.map E).flatten (b.map E).flatten=some (a.zip b |>.all fun p=>eq p.1 p.2)
 |0,[],[],_,_=>by simp[bO]
 |n+1,x::a,y::b,h1,h2=>by
  rw[List.replicate_succ,List.map_cons,List.map_cons,Cx,Cx,Cx,agT _ _ _ _ _ _ (by rw[hz,hE]) (by rw[hE,hE]),h x y,
   agU hE hz eq h n a b (by simpa using h1) (by simpa using h2)]
  simp
structure Ap {α:Type} (cs:List AV) (o:Nat) (E:α->List AV) (x:α) (g:α->List AV):Prop where
 sub:Sub cs o (E x)
 ow:∀ y,overwrite cs o (E y)=g y
theorem Ap.self {α:Type}{E:α->List AV}{z:Nat} (hE:∀ x,(E x).length=z) (x:α):Ap (E x) 0 E x E:=
 ⟨Sub.self _,fun y=>apO (by rw[hE,hE])⟩
theorem Ap.cons {α:Type}{E:α->List AV}{cs:List AV}{o:Nat}{x:α}{g:α->List AV} (a:AV) (h:Ap cs o E x g):Ap (a::cs) (o+1) E x (fun y=>a::g y):=
 ⟨h.sub.cons a,fun y=>by rw[apM,h.ow]⟩
theorem Ap.skip {α:Type}{E:α->List AV}{cs:List AV}{o:Nat}{x:α}{g:α->List AV} (h:Ap cs o E x g):∀ p:List AV,Ap (p++cs) (p.length+o) E x (fun y=>p++g y)
 |[]=>by simpa using h
 |a::p=>by
  have:=(Ap.skip h p).cons a
  rw[AA,show p.length+1+o=p.length+o+1 by omega]
  exact this
theorem Ap.idx {n:Nat}{α:Type}{E:α->List AV}{z:Nat} (hE:∀ x,(E x).length=z) {v:Aa n α}{i:Int}{x:α} (h:v.at? i=some x):Ap (v.c E) (i.toNat*z) E x (fun y=>(v.set i y).c E):=
 ⟨Sub.idx hE h,fun y=>apN hE h y⟩
theorem Ap.within {α β:Type}{cs:List AV}{o o':Nat}{E:α->List AV}{x:α}{g:α->List AV}{E':β->List AV}{x':β}{g':β->List AV}{z:Nat} (hE:∀ x,(E' x).length=z)
  (h:Ap cs o E x g) (k:Ap (E x) o' E' x' g') (up:β->α) (hg:∀ y,g' y=E (up y)):Ap cs (o+o') E' x' (fun y=>g (up y)):=
 ⟨h.sub.trans k.sub,fun y=>by rw[apP h.sub k.sub (by rw[hE,hE]),k.ow,hg,h.ow]⟩
theorem Ap.at {n:Nat}{α:Type}{E:α->List AV}{z:Nat} (hE:∀ x,(E x).length=z) {cs:List AV}{o:Nat}{v:Aa n α}{g:Aa n α->List AV} (h:Ap cs o (Aa.c E) v g) {i:Int}{x:α} (hx:v.at? i=some x):
  Ap cs (o+i.toNat*z) E x (fun y=>g (v.set i y)):=
 Ap.within hE h (Ap.idx hE hx) (fun y=>v.set i y) (fun _=>rfl)
theorem Ap.bound {α:Type}{cs:List AV}{o z:Nat}{E:α->List AV}{x:α}{g:α->List AV} (h:Ap cs o E x g) (hE:∀ x,(E x).length=z):o+z<=cs.length:=h.sub.bound (hE x)
theorem Ap.get {α:Type}{cs:List AV}{o z:Nat}{E:α->List AV}{x:α}{g:α->List AV} (h:Ap cs o E x g) (hE:∀ x,(E x).length=z):(cs.drop o).take z=E x:=h.sub.get (hE x)
def Aa.eq {n:Nat}{α:Type} (eq:α->α->Bool) (a b:Aa n α):Bool:=(a.l.zip b.l).all fun p=>eq p.1 p.2
theorem agW {n:Nat}{α:Type}{E:α->List AV}{z:Nat} (hE:∀ x,(E x).length=z) {x0:α}{eq:α->α->Bool} (h:∀ x y,bO (E x0) (E x) (E y)=some (eq x y)) (a b:Aa n α):
  bO ((Aa.rep n x0).c E) (a.c E) (b.c E)=some (a.eq eq b):=by
 have:=agU hE (hE x0) eq h n a.l b.l a.h b.h
 unfold Aa.c Aa.rep Aa.eq
 simp only[List.map_replicate]
 exact this
def Aa.put {n:Nat}{α:Type} (v:Aa n α) (o m:Nat) (l:List α):Aa n α:=
 if h:o+m<=n then ⟨v.l.take o++(l.take m++v.l.drop (o+min l.length m)),by
  simp only[A9,Ba,Bp,v.h];omega⟩ else v
theorem aaK {n:Nat} (v:Aa n Int):v.c af=v.l.map (AV.int .u8):=by
 unfold Aa.c af
 induction v.l with
 |nil=>rfl
 |cons x l ih=>simp[ih]
theorem anc (l:List Int):(l.map af).flatten=l.map (AV.int .u8):=by
 unfold af
 induction l with
 |nil=>rfl
 |cons x l ih=>simp[ih]
theorem aic {n:Nat} (v:Aa n Int) (o m:Nat):(AV.aG (fun _ _=>none) (((v.c af).drop o).take m)).map (fun cs=>cs.map fun c=>[c])=some ((((v.l.drop o).take m)).map af):=by
 rw[aaK,<-List.map_drop,<-List.map_take]
 generalize (v.l.drop o).take m=l
 have:AV.aG (fun _ _=>none) (l.map (AV.int .u8))=some (l.map (AV.int .u8)):=by
  induction l with
  |nil=>rfl
  |cons x l ih=>simp only[List.map_cons,AV.aG,AV.ai,ih]
 rw[this]
 simp[af]
theorem ap5 {n:Nat} (v:Aa n Int) (o m:Nat) (l:List Int) (h:o+m<=n):overwrite (v.c af) o ((l.map af).take m).flatten=(v.put o m l).c af:=by
 unfold Aa.put
 rw[dif_pos h,<-List.map_take,anc,aaK,aaK]
 unfold overwrite
 simp only[C7,List.map_take,List.map_drop,Ba,Bh]
 rw[Nat.min_comm]
def strOf (l:List Int):ByteArray:=⟨(l.map fun n=>UInt8.ofNat n.toNat).toArray⟩
theorem adj:∀ l:List Int,bytesOf (l.map af)=some (l.map fun n=>UInt8.ofNat n.toNat)
 |[]=>rfl
 |x::l=>by simp only[List.map_cons,bytesOf,adj l,af,byteOf]
def iC (s:ByteArray):List Int:=s.data.toList.map fun c=>(c.toNat:Int)
theorem afc (s:ByteArray):kR s=(iC s).map af:=by
 unfold kR iC af;rw[List.map_map];rfl
theorem kQ (s:ByteArray):(iC s).length=s.size:=by unfold iC;rw[Bh];rfl
def sS (s:ByteArray) (i:Int):Option Int:=if 0<=i/\i<s.size then some ((s.data.toList.getD i.toNat 0).toNat:Int) else none
theorem ajn {s:ByteArray}{i x:Int} (h:sS s i=some x):gq i s.size=some i.toNat:=by
 unfold sS at h
 split at h
 ·rename_i hc;unfold gq;rw[if_pos hc]
 ·cases h
theorem ajm {s:ByteArray}{i x:Int} (h:sS s i=some x):((s.data.toList.getD i.toNat 0).toNat:Int)=x:=by
 unfold sS at h
 split at h
 ·exact oi h
 ·cases h
def aaF (s:ByteArray):Option Unit:=if s.size<4611686018427387904 then some () else none
theorem aqT {s:ByteArray}{u:Unit} (h:aaF s=some u):s.size<4611686018427387904:=by
 unfold aaF at h
 split at h
 ·assumption
 ·cases h
theorem aju (l:List Int):(⟨(l.map fun n=>UInt8.ofNat n.toNat).toArray⟩:ByteArray)=strOf l:=rfl
def am0 (x:Int):List AV:=[.int .u64 x]
theorem ba0:(⟨#[]⟩:ByteArray)=ByteArray.empty:=rfl
def mM {α:Type} (l:List α) (i n:Nat) (x:List α):List α:=l.take i++(x.take n++l.drop (i+min x.length n))
theorem amp {α β:Type} (E:α->β) (l:List α) (i n:Nat) (x:List α):(l.map E).take i++((x.map E).take n++(l.map E).drop (i+min (x.map E).length n))=(mM l i n x).map E:=by
 unfold mM;simp[List.map_take,List.map_drop]
theorem agF {α:Type}{l:List α}{i n:Nat} (x:List α) (h:i+n<=l.length):(mM l i n x).length=l.length:=by
 unfold mM;simp;omega
def lL (y:Int):Option Unit:=if y<0 then none else some ()
theorem aaD {y:Int}{u:Unit} (h:lL y=some u):(y<0)=False:=by
 unfold lL at h
 split at h
 ·cases h
 ·rename_i h1;exact eq_false h1
theorem ao7:min (Int.toNat 1) 64=1:=rfl
theorem apb:min (Int.toNat 8) 64=8:=rfl
theorem ao8:min (Int.toNat 16) 64=16:=rfl
theorem ao9:min (Int.toNat 24) 64=24:=rfl
theorem apa:min (Int.toNat 32) 64=32:=rfl
attribute [go_sem] ao7 apb ao8 ao9 apa am0 ba0 vr yr vS aen ae3 Bg Bt List.append_nil
end Go.Abs
namespace Go.Abs
open Go Go.RowKit
section
variable {P:Program}{T:AN}{N0:Nat}{W0:World}{fm:FM}{ts:List Al}{H:Heap}{w:World}
def Dr (P:Program) (f:FuncId) (args:List AV) (X:Au) (R:AV->Au->Au->Prop):Prop:=
 ∀ (f1:Au) (H:Heap),CB P f args ((X++f1)::H) (fun y fr H'=>∃ X',R y fr X'/\H'=(X'++f1)::H)
theorem Dr.gr (hT : AQ P T) {f : FuncId} {fn : Func} {c : Code} {sc : SC} {args : List AV} {X : Au} {R : AV → Au → Au → Prop} (hf : P.funcs[f]? = some fn) (hb : fn.body = some c) (jB : (fn.name == "runtime.NumGoroutine") = false)
  (he:sc.bare=erase fn.ntmps c) (e9:(erase fn.ntmps c).fits fn.ntmps=true) (fE:args.length<=fn.ntmps)
  (h:∀ f1 H,AK P fn.ntmps (Ends T fn.results.toList fun y fr H'=>∃ X',R y fr X'/\H'=(X'++f1)::H) [.sc sc] (St.enter args ((X++f1)::H) fn.ntmps)):Dr P f args X R:=
 fun f1 H=>CB.gr hT hf hb jB he e9 fE (h f1 H) (by rintro y fr H' ⟨X',_,rfl⟩;rfl)
theorem FB {n:Nat}{rs:List ResultVar}{f1:Au}{st:St}{e:Exit}{y0:AV}{X0:Au} (he:e=.ret\/e=.normal) (h1:((hX T st rs).bind fun xs=>(b9 xs).aS [])=some y0) (h2:st.low=(X0++f1)::H):
  AJ P n (Ends T rs fun y fr H'=>∃ X',(y=y0/\fr=[]/\X'=X0)/\H'=(X'++f1)::H) (.fin e st):=by
 obtain⟨xs,h3,h4⟩:=Option.bind_eq_some_iff.1 h1
 have:∃ xs,hX T st rs=some xs/\Ea (fun y fr H'=>∃ X',(y=y0/\fr=[]/\X'=X0)/\H'=(X'++f1)::H) (b9 xs) st:=
  ⟨xs,h3,.own [] y0 [] (by simp) (by simp) h4 rfl ⟨X0,⟨rfl,rfl,rfl⟩,h2⟩⟩
 rcases he with rfl|rfl<;>exact this
theorem aqs {xs ys:List AV}{vs:List Value}{ks:List Nat}{t:Al}{rest:List Al} (h:Av fm (t::rest) xs vs) (e:AV.dU ks xs=some ys):Av fm (fq ks t::rest) ys vs:=by
 have g:=uQ ks _ _ e
 refine⟨by rw[g.1];exact h.1,fun i y v hy hv=>?_⟩
 have ae:i<xs.length:=by rw[<-g.1];exact(gS.1 hy).1
 obtain⟨y',iL,hu⟩:=g.2 i _ (gG ae)
 rw[hy]at iL;obtain rfl:=oi iL
 exact(h.2 i _ v (gG ae) hv).aS rfl hu
theorem ajq {xs:List AV}{vs:List Value}{t:Al} (h:Av fm ts xs vs):Av fm (t::ts) (AV.dq 1 xs) vs:=by
 refine⟨by rw[nb];exact h.1,?_⟩
 intro i x v hx hv
 rw[na,mS]at hx
 obtain⟨y,hy,rfl⟩:=hx
 exact(h.2 i y v hy hv).sh 1 (by simp)
def ab6 (ks:List Nat) (args:List AV):Option (List AV):=
 match AV.gz 1 args with
 |some xs=>match AV.dU ks xs with
  |some ys=>some (AV.dq 1 ys)
  |none=>none
 |none=>none
section
variable [Md] {n:Nat}{Φ:Exit->St->Prop}{f:FuncId}{args:List AV}{dst:Option Tmp}{drop:List Nat}{todo:List It}{st:St}
theorem Ck.norm {gu:St}{fN:List AV}{nN ks:List Nat}{nx:Nat} (e:st.norm nN ks nx=some gu) (bY:ks.Nodup) (kG:ks.length<=nx) (ea:ab6 ks args=some fN):Ck n st args gu fN:=by
 intro N0 W0 a w fm ts vs h hv
 unfold St.norm at e
 split at e
 ·rename_i tm fr eT qt
  obtain rfl:=oi e
  cases ts with
  |nil=>have:=h.hr.len;simp at this
  |cons t rest=>
   refine⟨fm,fq ks t::rest,⟨h.hr.aS qt bY,?_,?_,h.size,h.dP⟩,⟨AM.refl _ _,As.refl _,fun _ _ h=>h⟩,?_⟩
   ·intro i y hy
    obtain⟨x,h1,h2⟩:=ae4 ks st.tm nN tm eT i y hy
    obtain⟨v,h3,h4⟩:=h.tm i x h1
    exact⟨v,h3,h4.aS rfl h2⟩
   ·intro k hk
    have fh:nx<=k:=hk
    simp only[tb,fq]
    rw[CK (by omega)];rfl
   ·unfold ab6 at ea
    split at ea
    ·rename_i xs fH
     split at ea
     ·rename_i ys kJ
      obtain rfl:=oi ea
      have h1:=afl fH hv
      exact ajq (aqs (by simpa using h1) kJ)
     ·cases ea
    ·cases ea
 ·cases e
theorem Ck.trans {a b c:St}{xs ys zs:List AV} (h:Ck n a xs b ys) (k:Ck n b ys c zs):Ck n a xs c zs:=by
 intro N0 W0 x w fm ts vs hS hv
 obtain⟨ei,dV,h1,h2,h3⟩:=h N0 W0 x w fm ts vs hS hv
 obtain⟨dn,cK,h4,h5,h6⟩:=k N0 W0 x w ei dV vs h1 h3
 exact⟨dn,cK,h4,h2.trans h5,h6⟩
theorem FA {gu:St}{fN:List AV} (hm:Ck n st args gu fN) (h:AJ P n Φ (.call f fN dst drop todo gu)):AJ P n Φ (.call f args dst drop todo st):=by
 obtain⟨uT,alD,R,Rp,h1,h2,h3,h4⟩:=h
 exact⟨uT,alD,R,Rp,hm.trans h1,h2,h3,h4⟩
def nOK (P:Program) (n:Nat) (Φ:Exit->St->Prop) (f:FuncId) (dst:Option Tmp) (drop:List Nat) (todo:List It):Option St->Option (List AV)->Prop
 |some gu,some fN=>AJ P n Φ (.call f fN dst drop todo gu)
 |_,_=>False
theorem apc {gu:St}{fN:List AV}:nOK P n Φ f dst drop todo (some gu) (some fN)=AJ P n Φ (.call f fN dst drop todo gu):=rfl
theorem CR (nN ks:List Nat) (nx:Nat) (bY:(decide ks.Nodup&&decide (ks.length<=nx))=true) (h:nOK P n Φ f dst drop todo (st.norm nN ks nx) (ab6 ks args)):AJ P n Φ (.call f args dst drop todo st):=by
 unfold nOK at h
 split at h
 ·rename_i gu fN h1 h2
  simp only[A1,decide_eq_true_eq]at bY
  exact FA (Ck.norm h1 bY.1 bY.2 h2) h
 ·exact h.elim
theorem CQ {dO:List AV}{X0 X1:Au}{y0:AV}{fr0:Au} (hp:Dr P f dO X0 (fun y fr X'=>y=y0/\fr=fr0/\X'=X1)) (ha:args=dO/\st.fr.take X0.length=X0)
  (h:AK P n Φ todo (st.gK dst drop y0 fr0 ((X1++st.fr.drop X0.length)::st.low))):AJ P n Φ (.call f args dst drop todo st):=by
 obtain⟨rfl,hx⟩:=ha
 have h1:=hp (st.fr.drop X0.length) st.low
 have e:X0++st.fr.drop X0.length=st.fr:=by
  have:=C4 X0.length st.fr
  rw[hx]at this;exact this
 rw[e]at h1
 refine D3 h1 ?_
 rintro v fr H ⟨X',⟨rfl,rfl,rfl⟩,rfl⟩
 exact h
theorem H8 (hT:AQ P T) {ay:List AV}{y0:AV}{fr0:Au} (m:Nat) (hp:A6 P f ay [] (fun y fr=>y=y0/\fr=fr0)) (hz:AV.cZ (Heap.get ([]::st.fr::st.low)) (Abs.cQ (Heap.get ([]::st.fr::st.low)) 5) args=some ay) (hy:y0.mq=true) (hf:qN fr0)
  (h:AJ P n Φ (run T m todo (st.gK dst drop y0 fr0 (st.fr::st.low)))):AJ P n Φ (.call f args dst drop todo st):=by
 refine D3 (A6.m7 5 hp hz hy hf) ?_
 rintro y fr H' ⟨rfl,rfl,rfl⟩
 exact ib hT m _ _ h
theorem Ck.kf {tm:List (Nat×AV)}{fr:Au}{low:Heap}{nx nt:Nat} (k o e s:Nat) {cs:List AV} (hk:look fr k=some (.box cs)) (ho:cs[o]?=some .nil):
  Ck n ⟨tm,fr,low,nx,nt⟩ args ⟨tm,ins (ins fr nx (.arr e s [])) k (.box (cs.set o (.loc 0 nx s 0 0 0))),low,nx+16,nt⟩ args:=by
 intro N0 W0 a w fm ts vs h bo
 have gk:tb ts 0 nx=none:=h.nx nx (Be _)
 have h1:=h.hr.empty (k:=nx) e s gk (by simp)
 have ae:0<ts.length:=by rw[h.hr.len];simp
 have hT1:As ts (cL ts 0 nx (.arr 0 none)):=As.set (by rw[gk];trivial)
 have fe:Heap.get (fr::low) 0 k=some (.box cs):=by simpa [Heap.get] using hk
 have hb:=h.hr.ao 0 k _ fe
 have hkn:nx≠k:=by
  intro e'
  subst e'
  rw[gk]at hb
  cases hb
 have jW:Heap.get (Heap.put (fr::low) 0 nx (some (.arr e s []))) 0 k=some (.box cs):=by
  rw[Heap.oA,if_neg (fun hh=>hkn hh.2.1)];exact fe
 have eD:∀ l j,¬ (l=0/\j=nx)->tb (cL ts 0 nx (.arr 0 none)) l j=tb ts l j:=by
  intro l j hn
  rw[eb,if_neg (fun hh=>hn ⟨hh.1.symm,hh.2.1.symm⟩)]
 have htn:tb (cL ts 0 nx (.arr 0 none)) 0 nx=some (.arr 0 none):=by rw[eb,if_pos ⟨rfl,rfl,ae⟩]
 have cA:=h1.ao 0 k _ jW
 rw[eD 0 k (fun hh=>hkn hh.2.symm)]at cA
 generalize jk:tb ts 0 k=tt at cA
 cases cA with
 |box c _ hN hB=>
  have rW:tb (cL ts 0 nx (.arr 0 none)) 0 k=some (.box c):=by rw[eD 0 k (fun hh=>hkn hh.2.symm),jk]
  obtain⟨cells,et,c1,c2,c3⟩:=hB
  have ah5:=h1.uX (w':=w) (l:=0) (k:=k) (c:=c) (x:=.box c) (b:=.box (cs.set o (.loc 0 nx s 0 0 0))) (by simp) rfl (fun _ _ _=>rfl) (Below.refl _ _) (fun o ho=>by rw[c1]at ho;cases ho;rfl) (by rw[rW];exact Bi.refl _)
   (fun l' k' b' g' t'=>h1.inj l' k' 0 k b' _ c g' jW t' (by rw[rW];rfl)) (fun o=>h1.df 0 k _ c o jW (by rw[rW];rfl)) (by
    rw[sX rW]
    refine .box c _ hN ⟨cells,et,c1,by simpa using c2,?_⟩
    intro i x v hx hv
    rw[List.getElem?_set]at hx
    split at hx
    ·rename_i hi
     subst hi
     split at hx
     ·obtain rfl:=oi hx
      have h3:=(c3 o .nil v ho hv).2
      cases h3
      exact⟨rfl,.cr 0 nx s none (by simpa using htn)⟩
     ·cases hx
    ·exact c3 i x v hx hv)
  rw[sX rW]at ah5
  refine⟨fm,_,⟨ah5,h.tm.mono (AY.refl _) hT1,?_,h.size,h.dP⟩,⟨AM.refl _ _,?_,?_⟩,bo.mono (AY.refl _) ?_⟩
  ·intro j hj
   have oO:nx+16<=j:=hj
   rw[eD 0 j (by omega)]
   exact h.nx j (by show nx<=j;omega)
  ·exact hT1.drop 1
  ·intro l j e1
   rw[fp]at e1 ⊢
   rw[eD (l+1) j (by omega)]
   exact e1
  ·intro l j
   cases l with
   |zero=>exact Bi.refl _
   |succ l=>exact hT1 l j
theorem FC {tm:List (Nat×AV)}{fr:Au}{low:Heap}{nx nt:Nat} (k o e s:Nat) {cs:List AV} (hk:look fr k=some (.box cs)) (ho:cs[o]?=some .nil)
  (h:AJ P n Φ (.call f args dst drop todo ⟨tm,ins (ins fr nx (.arr e s [])) k (.box (cs.set o (.loc 0 nx s 0 0 0))),low,nx+16,nt⟩)):AJ P n Φ (.call f args dst drop todo ⟨tm,fr,low,nx,nt⟩):=
 FA (Ck.kf k o e s hk ho) h
end
def aP {α:Type} (z:Nat) (E:α->List AV):Option α->AV
 |none=>.bH
 |some x=>.aD z [E x] 0 0
section
variable {α:Type}{z:Nat}{E:α->List AV} (x:Option α)
theorem alp (y:α):aP z E (some y)=.aD z [E y] 0 0:=rfl
theorem alk:aP z E none=.bH:=rfl
theorem alo (d:Nat):(aP z E x).sh d=aP z E x:=by cases x<;>rfl
theorem ali (G:AS):(aP z E x).ai G=some (aP z E x):=by cases x<;>rfl
theorem alg (G:AS) (F:Nat->Nat->Option (List AV)):(aP z E x).br G F=some (aP z E x):=by cases x<;>rfl
theorem alm:(aP z E x).refs=[]:=by cases x<;>rfl
theorem alj (k:Nat):(aP z E x).imp k=aP z E x:=by cases x<;>rfl
theorem aln (ks:List Nat):(aP z E x).aS ks=some (aP z E x):=by cases x<;>rfl
theorem alq (d:Nat):(aP z E x).un d=some (aP z E x):=by cases x<;>rfl
theorem alh:(aP z E x).flat=true:=by cases x<;>rfl
end
attribute [go_sem] aeo afh alp alk alo ali alg alm alj aln alq alh apc ab6 St.norm uR lG AV.aS AV.dU AG.aS qX idx qN AG.lo AV.lo AV.mq
def Aa.nP (n:Nat) {α:Type} (l:List α):Option (Aa n α):=if h:n<=l.length then some ⟨l.take n,by simp;omega⟩ else none
theorem acI {n:Nat}{α:Type}{l:List α}{v:Aa n α} (h:Aa.nP n l=some v):n<=l.length:=by
 unfold Aa.nP at h
 split at h
 ·assumption
 ·cases h
theorem arl {n:Nat}{α:Type}{l:List α}{v:Aa n α} (h:Aa.nP n l=some v):v.l=l.take n:=by
 unfold Aa.nP at h
 split at h
 ·obtain rfl:=oi h;rfl
 ·cases h
theorem ajX {n:Nat}{α:Type}{E:α->List AV}{l:List α}{v:Aa n α} (h:Aa.nP n l=some v):(List.take n (List.map E l)).flatten=v.c E:=by
 unfold Aa.c
 rw[arl h,List.map_take]
theorem ajY {n:Nat}{α:Type}{E:α->List AV}{l:List α}{v:Aa (n+1) α} (h:Aa.nP (n+1) l=some v):(List.map E l)[0]?=some (E (l[0]'(by have:=acI h;omega))):=by
 rw[BA,gG (by have:=acI h;omega)]
 rfl
theorem aid {n:Nat} (v:Aa n Int) (o m:Nat):List.map (fun c=>[c]) (List.take m (List.drop o (v.c af)))=List.map af (List.take m (List.drop o v.l)):=by
 rw[aaK,<-List.map_drop,<-List.map_take,List.map_map]
 rfl
theorem aie {n:Nat} (v:Aa n Int) (m:Nat):List.map (fun c=>[c]) (List.take m (v.c af))=List.map af (List.take m v.l):=by
 rw[aaK,<-List.map_take,List.map_map]
 rfl
def kM {α:Type} (n:Int) (b:Nat) (z:α):Option (List α):=(mk? n b).map fun _=>List.replicate n.toNat z
theorem aeC {α:Type}{n:Int}{b:Nat}{z:α}{l:List α} (h:kM n b z=some l):∃ u,mk? n b=some u:=by
 unfold kM at h
 obtain⟨u,hu,_⟩:=mS.1 h
 exact⟨u,hu⟩
theorem aez {α:Type}{n:Int}{b:Nat}{z:α}{l:List α} (h:kM n b z=some l):l=List.replicate n.toNat z:=by
 unfold kM at h
 obtain⟨u,_,hl⟩:=mS.1 h
 exact hl.symm
theorem aeB {α β:Type} (E:α->β) {n:Int}{b:Nat}{z:α}{l:List α} (h:kM n b z=some l):List.replicate n.toNat (E z)=List.map E l:=by
 rw[aez h,List.map_replicate]
theorem aeA {α:Type}{n:Int}{b:Nat}{z:α}{l:List α} (h:kM n b z=some l):l.length=n.toNat:=by
 rw[aez h];simp
theorem aeD {α β:Type} (E:α->β) {n:Int}{b:Nat}{z:α}{l:List α} (h:kM n b z=some l):List.take n.toNat (List.map E l)=List.map E l:=by
 rw[aez h];simp
def Lf {α:Type} (E:α->List AV):Prop:=∀ x,∀ y∈E x,y.leaf=true
theorem asr:Lf eI:=fun x y h=>by simp only[eI,CG]at h;subst h;rfl
theorem aes:Lf af:=fun x y h=>by simp only[af,CG]at h;subst h;rfl
theorem Lf.vec {n:Nat}{α:Type}{E:α->List AV} (h:Lf E):Lf (Aa.c (n:=n) E):=by
 intro v y hy
 unfold Aa.c at hy
 rw[List.mem_flatten]at hy
 obtain⟨l,hl,hy⟩:=hy
 obtain⟨x,_,rfl⟩:=List.mem_map.1 hl
 exact h x y hy
theorem Lf.map {α:Type}{E:α->List AV} (h:Lf E) (l:List α):(∀ c∈List.map E l,∀ x∈c,x.leaf=true):=by
 intro c hc x hx
 obtain⟨y,_,rfl⟩:=List.mem_map.1 hc
 exact h y x hx
end
section
variable {P:Program}{T:AN}{N0:Nat}{W0:World}{fm:FM}{ts:List Al}{H:Heap}{w:World}
def GR (T:AN) (rs:List ResultVar) (R:AV->Au->Heap->Prop) (Rp:List PanicEntry->Heap->Prop) (e:Exit) (st:St):Prop:=
 match e with
 |.normal|.ret=>∃ xs y,hX T st rs=some xs/\(b9 xs).aS []=some y/\R y [] st.low
 |.panic ch=>Rp ch st.low
 |_=>False
theorem Dl.gr (hT : AQ P T) {f : FuncId} {fn : Func} {c : Code} {sc : SC} {args : List AV} {H : Heap} {R : AV → Au → Heap → Prop} {Rp : List PanicEntry → Heap → Prop} (hf : P.funcs[f]? = some fn) (hb : fn.body = some c) (jB : (fn.name == "runtime.NumGoroutine") = false)
  (he:sc.bare=erase fn.ntmps c) (e9:(erase fn.ntmps c).fits fn.ntmps=true) (fE:args.length<=fn.ntmps)
  (h:AK P fn.ntmps (GR T fn.results.toList R Rp) [.sc sc] (St.enter args H fn.ntmps)) (jZ:∀ y fr H',R y fr H'->H'.length=H.length) (anX:∀ ch H',Rp ch H'->H'.length=H.length):Dl P f args H R Rp:=by
 refine⟨⟨fn,hf,jB,by simp[hb]⟩,?_⟩
 intro N0 W0 fm ts w vs hH hv
 refine calls_of_wp hf hb ((xO []).1 ?_)
 have hS:=SR.enter hH hv fE
 have:=h N0 W0 fm (cS::ts) _ w [.code c] (bodyPost P fn fun e w'=>(∃ v av aT H' fm' t' ts',e=.returned v/\R av aT H'/\H'.length=H.length/\HR N0 W0 fm' (t'::ts') (aT::H') w'/\VR fm' (t'::ts') av v/\AM N0 fm fm'/\As ts ts'/\
   (∀ l k,tb ts l k=none->tb ts' l k=none)/\∀ k,16<=k->t' k=none)\/
   ∃ ch H' fm' ts',e=.panicked ch/\Rp ch H'/\H'.length=H.length/\HR N0 W0 fm' ts' H' w'/\AM N0 fm fm'/\As ts ts'/\∀ l k,tb ts l k=none->tb ts' l k=none) hS (.sc he e9 .nil) ?_
 ·exact this
 ·intro e aq a' w' fm' ts' hE cJ hL
  cases ts' with
  |nil=>have:=cJ.hr.len;simp at this
  |cons t rest=>
   have iK:As ts rest:=by simpa using hL.kd
   have bD:∀ l k,tb ts l k=none->tb rest l k=none:=by simpa using hL.no
   cases e with
   |normal=>
    obtain⟨xs,y,fH,hy,hR⟩:=hE
    obtain⟨v,h1,h2⟩:=sR (P:=P) hT cJ fH
    exact⟨cJ.dP.1,v,h1,.inl ⟨v,y,[],aq.low,fm',fq [] t,rest,rfl,hR,jZ _ _ _ hR,cJ.hr.aS rfl (by simp),h2.aS rfl hy,hL.de,iK,bD,fun k fh=>rfl⟩⟩
   |ret=>
    obtain⟨xs,y,fH,hy,hR⟩:=hE
    obtain⟨v,h1,h2⟩:=sR (P:=P) hT cJ fH
    exact⟨cJ.dP.1,v,h1,.inl ⟨v,y,[],aq.low,fm',fq [] t,rest,rfl,hR,jZ _ _ _ hR,cJ.hr.aS rfl (by simp),h2.aS rfl hy,hL.de,iK,bD,fun k fh=>rfl⟩⟩
   |panic ch=>exact⟨cJ.dP.1,.inr ⟨ch,aq.low,fm',rest,rfl,hE,anX _ _ hE,cJ.hr.pop,hL.de,iK,bD⟩⟩
   |_=>exact hE.elim
section
variable [Md] {n:Nat}{Φ:Exit->St->Prop}{f:FuncId}{args:List AV}{dst:Option Tmp}{drop:List Nat}{todo:List It}{st:St}
theorem C9 {R:AV->Au->Heap->Prop}{Rp:List PanicEntry->Heap->Prop} (hp:Dl P f args (st.fr::st.low) R Rp) (h:∀ y fr H,R y fr H->AK P n Φ todo (st.gK dst drop y fr H)) (h2:∀ ch H,Rp ch H->Φ (.panic ch) (st.ve H)):
  AJ P n Φ (.call f args dst drop todo st):=⟨_,_,R,Rp,Ck.refl _ _ _,hp,h,h2⟩
theorem Ic {t:TypeId}{x:AV} (h:∀ fm ts u,VR fm ts x u->Φ (.panic [{ v:=.iface t u,recovered:=false }]) st):AJ P n Φ (.throw (.bU t x) st):=⟨t,x,rfl,h⟩
theorem GK {rs:List ResultVar}{R:AV->Au->Heap->Prop}{Rp:List PanicEntry->Heap->Prop}{e:Exit}{y0:AV} (he:e=.ret\/e=.normal) (h1:((hX T st rs).bind fun xs=>(b9 xs).aS [])=some y0) (h2:R y0 [] st.low):AJ P n (GR T rs R Rp) (.fin e st):=by
 obtain⟨xs,h3,h4⟩:=Option.bind_eq_some_iff.1 h1
 rcases he with rfl|rfl<;>exact⟨xs,y0,h3,h4,h2⟩
end
end
theorem aja (ks:List Nat) (b:List AV):∀ a:List AV,AV.dU ks (a++b)=(AV.dU ks a).bind fun x=>(AV.dU ks b).map (x++·)
 |[]=>by cases h:AV.dU ks b<;>simp[AV.dU,h]
 |u::a=>by
  simp only[Bg,AV.dU,aja ks b a]
  cases u.aS ks<;>cases AV.dU ks a<;>cases AV.dU ks b<;>rfl
theorem aqt {a:List AV} (h:Cs a) (ks:List Nat) (b:List AV):AV.dU ks (a++b)=(AV.dU ks b).map (a++·):=by
 rw[aja,h.aS];rfl
def vY:Au->Nat->AG->Au
 |[],_,_=>[]
 |(j,x)::l,k,b=>if j=k then (j,b)::l else (j,x)::vY l k b
theorem aiE {k:Nat}{b b':AG} (hb:Cf b b'):∀ {fr:Au},look fr k=some b->BY fr (vY fr k b')
 |[],h=>by simp[look]at h
 |(j,x)::l,h=>by
  simp only[look]at h
  by_cases hj:j=k
  ·rw[if_pos hj]at h
   obtain rfl:=oi h
   simp only[vY,if_pos hj]
   exact .cons _ _ _ _ _ hb (.refl l)
  ·rw[if_neg hj]at h
   simp only[vY,if_neg hj]
   exact .cons _ _ _ _ _ (.refl x) (aiE hb h)
theorem AK.aiD {P:Program}{n:Nat}{Φ:Exit->St->Prop}{todo:List It}{tm:List (Nat×AV)}{fr:Au}{low:Heap}{nx nt:Nat} (k o e:Nat) {cs:List AV} (hk:look fr k=some (.box cs)) (ho:cs[o]?=some .nil)
  (h:AK P n Φ todo ⟨tm,vY fr k (.box (cs.set o (.sl e []))),low,nx,nt⟩):AK P n Φ todo ⟨tm,fr,low,nx,nt⟩:=by
 refine AK.tf (Ai.nl (.refl tm) (aiE (.box _ _ ⟨by simp,?_⟩) hk)) h
 intro i x y hx hy
 rw[List.getElem?_set]at hy
 split at hy
 ·rename_i hi
  subst hi
  rw[ho]at hx
  obtain rfl:=oi hx
  split at hy
  ·obtain rfl:=oi hy;exact .nil e
  ·cases hy
 ·rw[hx]at hy;obtain rfl:=oi hy;exact .refl x
attribute [go_sem] vY
theorem ahu (G:AS) (b:List AV):∀ a:List AV,AV.aG G (a++b)=(AV.aG G a).bind fun x=>(AV.aG G b).map (x++·)
 |[]=>by cases h:AV.aG G b<;>simp[AV.aG,h]
 |u::a=>by
  simp only[Bg,AV.aG,ahu G b a]
  cases u.ai G<;>cases AV.aG G a<;>cases AV.aG G b<;>rfl
theorem anh {a:List AV} (h:Cs a) (G:AS) (b:List AV):AV.aG G (a++b)=(AV.aG G b).map (a++·):=by
 rw[ahu,h.ai];rfl
theorem adR (k:Nat) (x:AG) (b:List AV):∀ a:List AV,AV.dG k x (a++b)=(AV.dG k x a).bind fun y=>(AV.dG k x b).map (y++·)
 |[]=>by cases h:AV.dG k x b<;>simp[AV.dG,h]
 |u::a=>by
  simp only[Bg,AV.dG,adR k x b a]
  cases u.fz k x<;>cases AV.dG k x a<;>cases AV.dG k x b<;>rfl
theorem ani {a:List AV}{k:Nat}{x:AG} (h:AV.dG k x a=some a) (b:List AV):AV.dG k x (a++b)=(AV.dG k x b).map (a++·):=by
 rw[adR,h];rfl
theorem yI {α:Type}{n:Nat}{E:α->List AV}{k:Nat}{x:AG} (h:∀ y,AV.dG k x (E y)=some (E y)) (v:Aa n α):AV.dG k x (Aa.c E v)=some (Aa.c E v):=by
 have key:∀ l:List α,AV.dG k x (l.map E).flatten=some (l.map E).flatten:=by
  intro l
  induction l with
  |nil=>rfl
  |cons y l ih=>simp only[List.map_cons,Cx,adR,ih,h,Ae,A0]
 exact key v.l
theorem A7.append {a b c d:List AV} (h:A7 a b) (k:A7 c d):A7 (a++c) (b++d):=by
 refine⟨by simp[h.1,k.1],?_⟩
 intro i x y hx hy
 by_cases hi:i<a.length
 ·rw[Ct hi]at hx
  rw[Ct (by rw[<-h.1];exact hi)]at hy
  exact h.2 i x y hx hy
 ·rw[CE (by omega)]at hx
  rw[CE (by rw[<-h.1];omega)]at hy
  rw[<-h.1]at hy
  exact k.2 _ x y hx hy
section
variable [Md] {P:Program}{T:AN}{N0:Nat}{W0:World}{n:Nat}{fm:FM}{ts:List Al}{st:St}{a:Act}{w:World}{Q:Exit->Act->World->Prop}
theorem AK.seg {Φ:Exit->St->Prop}{B:St->Prop}{c:Code}{s:SC}{t:List BG} (hs:SR N0 W0 n st a w fm ts) (h:AK P n Φ [.sc s,.back B] st) (he:s.bare=erase n c) (hf:(erase n c).fits n=true)
  (hB:∀ aq a' w' fm' ts',B aq->SR N0 W0 n aq a' w' fm' ts'->A8 N0 fm ts fm' ts'->K P Q t .normal a' w')
  (jG:∀ e aq a' w' fm' ts',Φ e aq->SR N0 W0 n aq a' w' fm' ts'->A8 N0 fm ts fm' ts'->K P Q t e a' w'):K P Q (.code c::t) .normal a w:=by
 have h1:=h N0 W0 fm ts a w [.code c,.back (fun a' w'=>K P Q t .normal a' w')] (fun e a' w'=>K P Q t e a' w') hs
  (.sc he hf (.back (fun aq a' w' fm' ts' hb uy hl=>hB aq a' w' fm' ts' hb uy hl) .nil)) jG
 rw[EV]at h1 ⊢
 refine wpIn_mono h1 ?_
 intro e a' w' hk
 cases e<;>exact hk
theorem Fp {arr:Array Oper}{i:Nat}{is:List Nat}{o:Oper}{t:List BG} (ho:arr[i]?=some o) (hg:o.guard=none) (h:o.wpIn FW 0 P a w (fun a' w'=>K P Q (.ops arr is::t) .normal a' w') (K P Q t)):K P Q (.ops arr (i::is)::t) .normal a w:=by
 unfold K
 simp only[wpOpsIn,ho]
 rw[if_pos (by simp[Region.wanted,hg])]
 exact h
theorem Iw {arr:Array Oper}{t:List BG} (h:K P Q t .normal a w):K P Q (.ops arr []::t) .normal a w:=by
 unfold K;simp only[wpOpsIn];exact h
theorem AK.last {Φ:Exit->St->Prop}{c:Code}{s:SC} (hs:SR N0 W0 n st a w fm ts) (h:AK P n Φ [.sc s] st) (he:s.bare=erase n c) (hf:(erase n c).fits n=true)
  (jG:∀ e aq a' w' fm' ts',Φ e aq->SR N0 W0 n aq a' w' fm' ts'->A8 N0 fm ts fm' ts'->Q e a' w'):K P Q [.code c] .normal a w:=
 h N0 W0 fm ts a w [.code c] Q hs (.sc he hf .nil) jG
end
theorem FJ (m m':Md) (h:m.rnd=m'.rnd) {P:Program}{Q:Exit->Act->World->Prop}:∀ t:List BG,@K m P Q t=@K m' P Q t
 |[]=>by funext e a w;simp only[K]
 |it::t=>by
  have hF:@FW m=@FW m':=by unfold FW;rw[h]
  have ih:=FJ m m' h (P:=P) (Q:=Q) t
  funext e a w
  cases it<;>simp only[K,ih,hF]
theorem SR.deep [Md] {N0:Nat}{W0:World}{n:Nat}{tm tm':List (Nat×AV)}{fr:Au}{low:Heap}{nx nt:Nat}{a:Act}{w:World}{fm:FM}{ts:List Al} (h:SR N0 W0 n ⟨tm,fr,low,nx,nt⟩ a w fm ts) (ht:∀ t x,look tm' t=some x->∃ y,look tm t=some y/\x=y.sh 1):
  SR N0 W0 n ⟨tm',[],fr::low,0,nt⟩ a w fm (cS::ts):=
 ⟨h.hr.push,fun t x hx=>by
  obtain⟨y,hy,rfl⟩:=ht t x hx
  obtain⟨v,h1,h2⟩:=h.tm t y hy
  exact⟨v,h1,h2.sh 1 (by simp)⟩,fun _ _=>rfl,h.size,h.dP⟩
theorem SR.vR (m m':Md) {N0:Nat}{W0:World}{n:Nat}{st:St}{a:Act}{w:World}{fm:FM}{ts:List Al} (h:@SR m N0 W0 n st a w fm ts) {a':Act} (ht:a'.tmps=a.tmps) (hd:a'.defers=m'.vR) (hm:@DA m' W0:=by exact fun _ _ h=>by cases h):@SR m' N0 W0 n st a' w fm ts:=by
 obtain⟨h1,h2,h3,h4,h5⟩:=h
 refine @SR.mk m' _ _ _ _ _ _ _ _ h1 (fun t x hx=>?_) h3 (by rw[ht];exact h4) ⟨hd,hm⟩
 obtain⟨v,h6,h7⟩:=h2 t x hx
 exact⟨v,by rw[ht];exact h6,h7⟩
theorem apC [Md] {P:Program}{o:Oper}{a:Act}{w w':World}{next:Act->World->Prop}{Q:Exit->Act->World->Prop}{d:Deferred} (hr:(execOp a.eval o).run P w=.ok (.defer d) w') (hm:Md.rnd=none) (h:next ({ a with defers:=d::a.defers }.put o.dst undef) w'):o.wpIn FW 0 P a w next Q:=by
 refine⟨fun _ _=>trivial,?_⟩
 show Oper.uponIn FW 0 P o a next Q (Sem.run P (Oper.semAt Md.rnd a.eval o) w)
 rw[hm,Oper.semAt_none,hr]
 exact h
section
variable [Md] {P:Program}{T:AN}{N0:Nat}{W0:World}{n:Nat}{fm:FM}{ts:List Al}{st:St}{a:Act}{w:World}{Q:Exit->Act->World->Prop}
theorem Eb:∀ (s t:List BG) (e:Exit) (a:Act) (w:World),K P Q (s++t) e a w=K P (fun e a w=>K P Q t e a w) s e a w
 |[],t,e,a,w=>rfl
 |.code c::s,t,e,a,w=>by
  have ih:K P Q (s++t)=K P (fun e a w=>K P Q t e a w) s:=by funext e a w;exact Eb s t e a w
  cases e<;>simp only[Bg,K,ih]
 |.ao id::s,t,e,a,w=>by
  have ih:K P Q (s++t)=K P (fun e a w=>K P Q t e a w) s:=by funext e a w;exact Eb s t e a w
  cases e<;>simp only[Bg,K,ih]
 |.ig::s,t,e,a,w=>by
  have ih:K P Q (s++t)=K P (fun e a w=>K P Q t e a w) s:=by funext e a w;exact Eb s t e a w
  cases e<;>simp only[Bg,K,ih]
 |.ops arr l::s,t,e,a,w=>by
  have ih:K P Q (s++t)=K P (fun e a w=>K P Q t e a w) s:=by funext e a w;exact Eb s t e a w
  cases e<;>simp only[Bg,K,ih]
 |.back R::s,t,e,a,w=>by
  have ih:K P Q (s++t)=K P (fun e a w=>K P Q t e a w) s:=by funext e a w;exact Eb s t e a w
  cases e<;>simp only[Bg,K,ih]
theorem aiQ {arr:Array Oper}{t:List BG}:∀ is js:List Nat,wpOpsIn FW 0 P arr (K P Q (.ops arr js::t)) is=wpOpsIn FW 0 P arr (K P Q t) (is++js)
 |[],js=>by funext a w;rfl
 |i::is,js=>by
  have ih:=aiQ (arr:=arr) (t:=t) is js
  funext a w
  simp only[Bg,wpOpsIn]
  cases arr[i]? with
  |none=>simp only[ih]
  |some o=>
   simp only[ih]
   rfl
theorem Iv {arr:Array Oper}{t:List BG}{is js:List Nat} (h:K P Q (.ops arr is::.ops arr js::t) .normal a w):K P Q (.ops arr (is++js)::t) .normal a w:=by
 have e:=aiQ (P:=P) (Q:=Q) (arr:=arr) (t:=t) is js
 show wpOpsIn FW 0 P arr (K P Q t) (is++js) a w
 rw[<-e]
 exact h
theorem CM {c:Code}{t t':List BG} (h:∀ e a w,K P Q t e a w->K P Q t' e a w):∀ e a w,K P Q (.code c::t) e a w->K P Q (.code c::t') e a w:=by
 intro e a w hk
 cases e<;>first|exact h _ _ _ hk|exact wpIn_mono hk (fun e a w=>h e a w)
theorem CD {x y:Code}{t:List BG}:∀ e a w,K P Q (.code x::.code y::t) e a w->K P Q (.code (.seq x y)::t) e a w:=by
 intro e a w hk
 cases e<;>first|exact hk|exact C3 hk
theorem Iy {id:Nat}{ops:Array Oper}{t:List BG}:∀ e a w,K P Q (.ops ops (List.range ops.size)::t) e a w->K P Q (.code (.region id ops false)::t) e a w:=by
 intro e a w hk
 cases e<;>first|exact hk|exact FK hk
theorem Ix {arr:Array Oper}{is js:List Nat}{t:List BG}:∀ e a w,K P Q (.ops arr is::.ops arr js::t) e a w->K P Q (.ops arr (is++js)::t) e a w:=by
 intro e a w hk
 cases e<;>first|exact hk|exact Iv hk
theorem apE {o:Oper}{w':World}{next:Act->World->Prop}{l fn:Nat}{tmps:Array Value}{assign body:Code} (hd:∀ c,o.op≠.defer c) (hr:(execOp a.eval o).run P w=.ok (.round l fn tmps assign body) w')
  (h:RoundIn FW 0 P l fn tmps assign body w' fun
   |.returned v,u6=>next (a.put o.dst v) u6
   |.panicked chain,u6=>Q (.panic chain) a u6
   |.outgrown,_=>LetsOut Q):o.wpIn FW 0 P a w next Q:=by
 refine⟨fun _ _=>trivial,?_⟩
 rw[Oper.semAt_eq _ _ _ hd,hr]
 exact⟨fun h=>by simp[FW]at h,h⟩
theorem AK.nV {Φ:Exit->St->Prop}{B:St->Prop}{todo:List It}{cs t:List BG} (hs:SR N0 W0 n st a w fm ts) (h:AK P n Φ (todo++[.back B]) st)
  (fF:∀ R:Act->World->Prop,(∀ aq a' w' fm' ts',B aq->SR N0 W0 n aq a' w' fm' ts'->A8 N0 fm ts fm' ts'->R a' w')->Bu N0 W0 n fm ts (todo++[.back B]) (cs++[.back R]))
  (hB:∀ aq a' w' fm' ts',B aq->SR N0 W0 n aq a' w' fm' ts'->A8 N0 fm ts fm' ts'->K P Q t .normal a' w')
  (jG:∀ e aq a' w' fm' ts',Φ e aq->SR N0 W0 n aq a' w' fm' ts'->A8 N0 fm ts fm' ts'->K P Q t e a' w'):K P Q (cs++t) .normal a w:=by
 have h1:=h N0 W0 fm ts a w (cs++[.back (fun a' w'=>K P Q t .normal a' w')]) (fun e a' w'=>K P Q t e a' w') hs (fF _ hB) jG
 rw[Eb]at h1 ⊢
 have e:(fun e a w=>K P (fun e a' w'=>K P Q t e a' w') [.back (fun a' w'=>K P Q t .normal a' w')] e a w)=fun e a w=>K P Q t e a w:=by
  funext e a w
  cases e<;>rfl
 rw[e]at h1
 exact h1
end
section
variable {N0:Nat}{W0 W1:World}{fm:FM}{ts:List Al}{H:Heap}{w w':World}
theorem HR.aqo (h:HR N0 W0 fm ts H w):HR N0 w fm ts H w:={ h with dk:=Below.refl N0 w,cX:=fun _ _ a _=>a }
theorem HR.other (h:HR N0 W0 fm ts H w) {l:Nat}{o o':Obj} (hl:w.heap[l]?=some o) (ho:aav o=true) (hN:N0<=l):HR N0 (w.putObj l o') fm ts H (w.putObj l o'):=by
 have ae:=(Cv.1 hl).1
 have cX:∀ i,i≠l->(w.putObj l o').heap[i]?=w.heap[i]?:=fun i hi=>World.putObj_heap_other (by omega)
 refine⟨h.len,fun l' k b hg=>(h.ao l' k b hg).mono (AY.refl _) (As.refl _) (fun c hc=>cX c ?_),h.inj,fun b q v hv=>?_,h.df,Below.refl _ _,?_,fun _ _ a _=>a,fun b q v nA hv ht=>?_⟩
 ·rintro rfl
  have hb:=h.ao l' k b hg
  generalize tb ts l' k=tt at hb hc
  cases hb with
  |box c' cs hN hb=>
   obtain⟨cells,et,h1,_⟩:=hb
   simp only[bq,oE]at hc
   subst hc
   rw[h1]at hl
   cases hl
   cases ho
  |nil et esz=>simp[bq]at hc
  |arr et esz es c' cap hN hb=>
   obtain⟨cells,h1,_⟩:=hb
   simp only[bq,oE]at hc
   subst hc
   rw[h1]at hl
   cases hl
   cases ho
 ·have h1:=h.bP _ _ _ hv
  refine(World.cell?_of_block (w:=w) (w':=w.putObj l o') (a:=⟨b,q,none⟩) (cX b ?_)).trans h1
  rintro rfl
  simp only[World.cell?,hl]at h1
  cases o<;>first|(cases ho;done)|(cases h1;done)
 ·have:=h.size
  show N0<=(w.putObj l o').heap.size
  simpa [World.putObj] using this
 ·refine(h.ej b q v nA hv ht).of (cX b ?_)
  rintro rfl
  have h1:=h.bP _ _ _ hv
  simp only[World.cell?,hl]at h1
  cases o<;>first|(cases ho;done)|(cases h1;done)
theorem HR.alloc (h:HR N0 W0 fm ts H w) (o:Obj):HR N0 W0 fm ts H (w.alloc o):=
 h.world (fun i hi=>Below.heap_alloc w o i hi) ((Below.refl N0 w).alloc h.size o)
end
theorem adI [Md] {P:Program}{T:AN} (hT:AQ P T) {N0:Nat}{W0:World}{fm:FM}{ts:List Al}{st:St}{a:Act}{w:World}{n:Nat}{fn:Func}{v:AV} (hS:SR N0 W0 n st a w fm ts)
  (hE:DD T fn.results.toList (fun y=>NL y v) .ret st):∃ u fm',(results fn a.tmps).run P w=.ok u w/\VR fm' [] v u/\(Dy fm' w/\E3 N0 fm' w)/\AM N0 fm fm':=by
 obtain⟨hl,xs,y,h1,h2,h3⟩:=hE
 obtain⟨u,h4,h5⟩:=sR (P:=P) hT hS h1
 have h6:=hS.hr.ai (b9 xs).refs h5 h2 (fun _ h=>h)
 have h7:=hS.hr.sE (b9 xs).refs
 exact⟨u,_,h4,h3.ok h6,⟨h7.bP,h7.ej⟩,hS.hr.vX _⟩
end Go.Abs
namespace Go.Abs
open Go
end Go.Abs
namespace Go.Abs
open Go Go.RowKit
section
variable [Md] {P:Program}{T:AN}{n:Nat}{Φ:Exit->St->Prop}{f:FuncId}{args:List AV}{dst:Option Tmp}{drop:List Nat}{todo:List It}
theorem Ai.fzW {N0:Nat}{W0:World}{a:Act}{w:World}{fm:FM}{ts:List Al}{tm:List (Nat×AV)}{fr:Au}{low:Heap}{nx nt:Nat} (k:Nat) {b:AG} (hk:look fr k=some b) (hz:∀ ys,b=.box ys->AV.aG (fun _ _=>none) ys=some ys)
  (h:SR N0 W0 n ⟨tm,fr,low,nx,nt⟩ a w fm ts):SR N0 W0 n ⟨rK k b tm,mQ k b fr,low,nx,nt⟩ a w (fD fm w (fv ts (fr::low)) (bq (tb ts 0 k))) ts/\A8 N0 fm ts (fD fm w (fv ts (fr::low)) (bq (tb ts 0 k))) ts:=by
 have fe:Heap.get (fr::low) 0 k=some b:=by simpa [Heap.get] using hk
 have hF:=abH h.hr fe
 have dv:=h.hr.ao 0 k b fe
 have src:∀ l j x,Heap.get (mQ k b fr::low) l j=some x->∃ x0,Heap.get (fr::low) l j=some x0/\¬ (l=0/\j=k)/\(l=0->x=AG.fz k b x0)/\(l≠0->x=x0):=by
  intro l j x hx
  cases l with
  |zero=>
   simp only[Heap.get,abZ]at hx
   split at hx
   ·cases hx
   ·rename_i hj
    simp only[mS]at hx
    obtain⟨x0,cW,rfl⟩:=hx
    exact⟨x0,cW,fun hh=>hj hh.2,fun _=>rfl,fun hh=>absurd rfl hh⟩
  |succ l=>exact⟨x,hx,fun hh=>absurd hh.1 (by omega),fun hh=>absurd hh (by omega),fun _=>rfl⟩
 refine⟨⟨⟨by simpa using h.hr.len,?_,?_,?_,?_,h.hr.dk,h.hr.size,h.hr.cX,?_⟩,?_,h.nx,h.size,h.dP⟩,⟨⟨hF,?_,?_,?_⟩,As.refl _,fun _ _ h=>h⟩⟩
 ·intro l j x hx
  obtain⟨x0,cW,bj,h1,h2⟩:=src l j x hx
  have hb:=h.hr.ao l j x0 cW
  cases l with
  |zero=>
   rw[h1 rfl]
   exact h.hr.ahx fe hz hb
  |succ l=>
   rw[h2 (by omega)]
   exact hb.mono hF (As.refl _) (fun _ _=>rfl)
 ·intro l j l' j' x x' c hx iy
  obtain⟨x0,cW,_⟩:=src l j x hx
  obtain⟨x1,iz,_⟩:=src l' j' x' iy
  exact h.hr.inj l j l' j' x0 x1 c cW iz
 ·intro c o v hv
  unfold fD at hv
  simp only at hv
  split at hv
  ·exact hv
  ·exact h.hr.bP c o v hv
 ·intro l j x c o hx hc
  obtain⟨x0,cW,bj,_⟩:=src l j x hx
  unfold fD
  simp only
  rw[if_neg]
  ·exact h.hr.df l j x0 c o cW hc
  ·intro e
   exact bj (h.hr.inj l j 0 k x0 b c cW fe hc e)
 ·intro c o v hN hv ht
  unfold fD at hv ht
  simp only at hv ht
  split at hv
  ·rename_i e
   cases hq:tb ts 0 k with
   |none=>rw[hq]at e;simp[bq]at e
   |some y=>
    rw[hq]at dv e
    cases dv with
    |nil=>simp[bq]at e
    |box c' cs hN hB=>
     obtain⟨cells,et,h1,_⟩:=hB
     simp only[bq,oE]at e
     exact⟨cells,et,by rw[<-e];exact h1⟩
    |arr et esz es c' cap hN hA=>
     obtain⟨cells,h1,_⟩:=hA
     simp only[bq,oE]at e
     exact⟨cells,et,by rw[<-e];exact h1⟩
  ·rename_i e
   rw[if_neg e]at ht
   exact h.hr.ej c o v hN hv ht
 ·intro t x hx
  simp only[aet,mS]at hx
  obtain⟨x0,cW,rfl⟩:=hx
  obtain⟨v,hv,bg⟩:=h.tm t x0 cW
  refine⟨v,hv,?_⟩
  cases hf:x0.fz k b with
  |none=>exact bg.mono hF (As.refl _)
  |some y=>exact h.hr.fz fe hz bg rfl hf
 ·intro c o hc
  unfold fD
  simp only
  rw[if_neg]
  intro e
  have:=(dv.lt e).2
  omega
 ·intro c hc
  unfold fD
  simp only
  rw[if_neg]
  intro e
  have:=(dv.lt e).2
  omega
 ·intro c o v hv
  unfold fD at hv ⊢
  simp only at hv ⊢
  split at hv
  ·rename_i e;right;rw[if_pos e];exact aff _ _ _
  ·exact .inl hv
def abJ (k:Nat) (b:AG) (args:List AV):Option (List AV):=
 match AV.gz 1 args with
 |some xs=>match AV.dG k b xs with
  |some ys=>some (AV.dq 1 ys)
  |none=>none
 |none=>none
theorem Ck.fz {fN:List AV}{tm:List (Nat×AV)}{fr:Au}{low:Heap}{nx nt:Nat} (k:Nat) {b:AG} (hk:look fr k=some b) (hz:∀ ys,b=.box ys->AV.aG (fun _ _=>none) ys=some ys) (ea:abJ k b args=some fN):
  Ck n ⟨tm,fr,low,nx,nt⟩ args ⟨rK k b tm,mQ k b fr,low,nx,nt⟩ fN:=by
 intro N0 W0 a w fm ts vs h hv
 obtain⟨h1,h2⟩:=Ai.fzW k hk hz h
 refine⟨_,_,h1,h2,?_⟩
 unfold abJ at ea
 split at ea
 ·rename_i xs fH
  split at ea
  ·rename_i ys kJ
   obtain rfl:=oi ea
   have h3:=afl fH hv
   have h4:Av fm ts xs vs:=by simpa using h3
   refine ajq ?_
   have g:=tV k b _ _ kJ
   refine⟨by rw[g.1];exact h4.1,fun i y v hy gp=>?_⟩
   have ae:i<xs.length:=by rw[<-g.1];exact(gS.1 hy).1
   obtain⟨y',iL,hu⟩:=g.2 i _ (gG ae)
   rw[hy]at iL;obtain rfl:=oi iL
   exact h.hr.fz (by simpa [Heap.get] using hk) hz (h4.2 i _ v (gG ae) gp) rfl hu
  ·cases ea
 ·cases ea
def adS (P:Program) (n:Nat) (Φ:Exit->St->Prop) (f:FuncId) (dst:Option Tmp) (drop:List Nat) (todo:List It) (st:St):Option (List AV)->Prop
 |some fN=>AJ P n Φ (.call f fN dst drop todo st)
 |none=>False
theorem anj {gu:St}{fN:List AV}:adS P n Φ f dst drop todo gu (some fN)=AJ P n Φ (.call f fN dst drop todo gu):=rfl
theorem GL {tm:List (Nat×AV)}{fr:Au}{low:Heap}{nx nt:Nat} (k:Nat) {b:AG} (hk:look fr k=some b) (hz:∀ ys,b=.box ys->AV.aG (fun _ _=>none) ys=some ys)
  (h:adS P n Φ f dst drop todo ⟨rK k b tm,mQ k b fr,low,nx,nt⟩ (abJ k b args)):AJ P n Φ (.call f args dst drop todo ⟨tm,fr,low,nx,nt⟩):=by
 unfold adS at h
 split at h
 ·rename_i fN h1
  exact FA (Ck.fz k hk hz h1) h
 ·exact h.elim
attribute [go_sem] anj abJ
end
section
variable [Md] {P:Program}{T:AN}{n:Nat}{Φ:Exit->St->Prop}
theorem AK.amW (hT:AQ P T) (hm:P.follows .mixedOrders=true) {ops:List An}{o:An}{befs:List (List Nat)}{drop:List Nat}{todo:List It}{st:St} (ds:List De) (gW:∀ j,j<ops.length->∃ d,ds[j]?=some d) (h1:DC ops)
  (fc:∀ i j,j∈aY befs i->j<i) (gT:∀ i j,i<j->j<ops.length->i∉aY befs j->lP (dz ds i) (dz ds j))
  (ug:∀ i s d,ops[i]?=some s->ds[i]?=some d->C2 P T (st.nx+16*i) s (look (lh ops befs ds st.tm i)) (Heap.get (lg ops befs ds (st.fr::st.low) i)) d)
  (hbm:∀ j,j<ops.length->j∈aY befs ops.length) (wR:∀ s∈ops,∀ g w,s.guard=some (g,w)->g≠o.dst.getD n)
  (hn:AK P n Φ (.ops [⟨o.dst,o.op,o.type,o.guard,drop⟩]::todo) (st.drawn ops ds [])):AK P n Φ (.sc (.aL (ops++[o]) befs drop)::todo) st:=by
 intro N0 W0 fm ts a w ct Q hS fF hQ
 obtain⟨c,bc,kE,hb,hf,ht,hK⟩:=fF.acn (P:=P) rfl
 apply hK
 cases c<;>try (simp only[SC.bare,erase,reduceCtorEq]at hb;done)
 case scope b=>exact absurd rfl (kE b)
 case region qY arr dr=>
  cases dr with
  |false=>simp[SC.bare,erase]at hb
  |true=>
   simp only[SC.bare,erase,SC.aL.injEq,and_true]at hb
   obtain⟨cA,iG⟩:=hb
   simp only[erase,SC.fits,List.all_eq_true]at hf
   have hlen:ops.length+1=arr.size:=by have:=congrArg List.length cA;simpa using this
   obtain⟨m,mW⟩:∃ m,ops.length=m:=⟨_,rfl⟩
   have zq:m<arr.size:=by omega
   have hmo:gO o=jP n arr arr[m]:=by
    have e:=congrArg (fun l=>l[m]?) cA
    simp only[C7,List.map_cons,List.map_nil]at e
    rw[CE (by simp;omega)]at e
    simp only[Bh,mW,Nat.sub_self,BP,BA,Array.getElem?_toList,Bo zq,A0,oE]at e
    exact e
   have iF:∀ i,(w8:i<m)->(hi:i<arr.size)->∃ s,ops[i]?=some s/\s.dst=(arr[i]).dst/\s.op=(arr[i]).op/\s.type=(arr[i]).type/\s.guard=(arr[i]).guard.map (fun g=>(((arr[g.1]?).bind (·.dst)).getD n,g.2)):=by
    intro i w8 hi
    have ae:i<ops.length:=by omega
    refine⟨ops[i],gG ae,?_⟩
    have e:=congrArg (fun l=>l[i]?) cA
    simp only[C7]at e
    rw[Ct (by simpa using ae)]at e
    simp only[BA,gG ae,A0,Array.getElem?_toList,Bo hi,oE]at e
    simp only[gO,jP,An.mk.injEq,and_true]at e
    obtain⟨e1,e2,e3,e4⟩:=e
    exact⟨e1,e2,e3,e4⟩
   have oG:∀ i,(hi:i<arr.size)->∀ x,x∈aY befs i↔∃ e∈(arr[i]).after.toList,Region.binds .any e=true/\(x=e.on\/(e.on<i/\x∈aY befs e.on)):=by
    intro i hi x
    obtain⟨b',g1,g2,g3⟩:=abe arr.toList [] i arr[i] (by simp[hi])
    simp only[Az,Co]at g1 g2
    have e1:aY befs i=n9 b' [] (arr[i]).after.toList:=by unfold aY;rw[iG,g1];rfl
    rw[e1,ab4]
    simp only[List.not_mem_nil,false_or]
    have e2:∀ e:Edge,x∈(b'[e.on]?).getD []↔(e.on<i/\x∈aY befs e.on):=by
     intro e
     by_cases hj:e.on<b'.length
     ·rw[g3 _ hj]
      unfold aY
      rw[iG]
      rw[g2]at hj
      simp[hj]
     ·rw[CK (by omega)]
      simp
      omega
    constructor
    ·rintro⟨e,h1,h2,h3⟩
     exact⟨e,h1,h2,h3.imp id (e2 e).1⟩
    ·rintro⟨e,h1,h2,h3⟩
     exact⟨e,h1,h2,h3.imp id (e2 e).2⟩
   refine wpIn_region_any hm ?_
   have oV:∀ j,(Array.replicate arr.size false).getD j false=false:=by
    intro j
    by_cases hj:j<arr.size
    ·simp[Array.getD,hj]
    ·simp[Array.getD,hj]
   have key:∀ (fuel:Nat) (al:Array Bool) (a:Act) (w:World) (fm':FM) (ts':List Al),al.size=arr.size->al.getD m false=false->((List.range arr.size).countP fun j=>!al.getD j false)<=fuel->
     (∀ j,al.getD j false=true->∀ k∈aY befs j,al.getD k false=true)->DR N0 W0 n st ops ds (fun j=>al.getD j false) a w fm' ts'->A8 N0 fm ts fm' ts'->wpAnyIn FW 0 P .any arr (K P Q bc) fuel al a w:=by
    intro fuel
    have fin:∀ (al:Array Bool) (a:Act) (w:World) (fm':FM) (ts':List Al),al.size=arr.size->al.getD m false=false->DR N0 W0 n st ops ds (fun j=>al.getD j false) a w fm' ts'->A8 N0 fm ts fm' ts'->Region.ready .any arr al=[]->K P Q bc .normal a w:=by
     intro al a w fm' ts' ax iI hD hL hr
     have gg:∀ j,j<arr.size->al.getD j false=true:=by
      intro j
      induction j using Nat.strongRecOn with
      |_ j ih=>
       intro hj
       by_cases hl:al.getD j false=true
       ·exact hl
       ·have bC:j∈Region.ready .any arr al:=by
         rw[mem_ready]
         have ae:j<al.size:=by omega
         refine⟨by simp[Array.getD,ae]at hl ⊢;exact hl,arr[j],Bo hj,?_⟩
         intro e he hb
         have hm:e.on∈aY befs j:=(oG j hj e.on).2 ⟨e,by simpa using he,hb,.inl rfl⟩
         have:=fc j e.on hm
         exact ih e.on this (by omega)
        rw[hr]at bC;cases bC
     rw[gg m zq]at iI;cases iI
    induction fuel with
    |zero=>
     intro al a w fm' ts' ax iI hc bF hD hL
     have hr:Region.ready .any arr al=[]:=by
      cases h:Region.ready .any arr al with
      |nil=>rfl
      |cons j l=>
       have hj:j∈Region.ready .any arr al:=by rw[h];exact List.mem_cons_self
       rw[mem_ready]at hj
       obtain⟨h0,o,ho,_⟩:=hj
       have ae:j<arr.size:=(Cv.1 ho).1
       have:0<(List.range arr.size).countP fun j=>!al.getD j false:=by
        rw[List.countP_pos_iff]
        have eO:j<al.size:=by omega
        refine⟨j,List.mem_range.2 ae,?_⟩
        simp[Array.getD,eO]at h0 ⊢
        exact h0
       omega
     exact⟨hr,fin al a w fm' ts' ax iI hD hL hr⟩
    |succ fuel ih=>
     intro al a w fm' ts' ax iI hc bF hD hL
     refine⟨fin al a w fm' ts' ax iI hD hL,fun i hi=>?_⟩
     rw[mem_ready]at hi
     obtain⟨h0,o',ho,gg⟩:=hi
     have ae:i<arr.size:=(Cv.1 ho).1
     have eO:i<al.size:=by omega
     have dY:al.getD i false=false:=by
      simp[Array.getD,eO]at h0 ⊢
      exact h0
     by_cases ad8:i<m
     case neg=>
      obtain rfl:i=m:=by omega
      have ly:∀ j,j<i->al.getD j false=true:=by
       intro j hj
       obtain⟨e,he,hb,h⟩:=(oG i ae j).1 (by rw[<-mW];exact hbm j (by omega))
       have lx:o'=arr[i]:=by rw[Bo ae]at ho;exact(oi ho).symm
       subst lx
       have kH:=gg e (by simpa using he) hb
       rcases h with rfl|⟨_,h⟩
       ·exact kH
       ·exact bF _ kH j h
      have cJ:=hD.all (fun j hj=>ly j (by omega)) []
      have h1:=hn N0 W0 fm' ts' a w (.ops arr [i]::bc) Q cJ (.ops (by simp only[List.map_cons,List.map_nil,Array.getD,ae,dif_pos,List.cons.injEq,and_true];exact hmo) (by simpa using ae) (by
       intro o1 sa d hd
       simp only[CG]at sa
       subst sa
       have uo:gO o∈List.map (jP n arr) arr.toList:=by rw[<-cA];simp
       have:=hf _ uo
       simp only[gO]at this hd
       rw[hd]at this
       simpa using this) (ht.later hL)) (fun e s x w' f t hp hs hl=>hQ e s x w' f t hp hs (hL.trans hl))
      simp only[K,wpOpsIn,ho]at h1
      unfold wpOpIn
      rw[ho]
      simp only
      have nJ:∀ l:Array Bool,(∀ j,l.getD j true=true)->Region.ready .any arr l=[]:=by
       intro l hl
       cases h:Region.ready .any arr l with
       |nil=>rfl
       |cons j r=>
        have hj:j∈Region.ready .any arr l:=by rw[h];exact List.mem_cons_self
        rw[mem_ready]at hj
        rw[hl j]at hj;cases hj.1
      have qq:∀ a w,K P Q bc .normal a w->wpAnyIn FW 0 P .any arr (K P Q bc) fuel (al.setIfInBounds i true) a w:=by
       have hr:=nJ (al.setIfInBounds i true) (by
        intro j
        by_cases fg:j<arr.size
        ·by_cases he:j=i
         ·subst he;simp[Array.getD,eO]
         ·rw[getD_set_ne true (Ne.symm he)]
          have jX:j<al.size:=by omega
          have:=ly j (by omega)
          simp[Array.getD,jX]at this ⊢
          exact this
        ·simp[Array.getD,ax,fg])
       intro a w hk
       cases fuel with
       |zero=>exact⟨hr,hk⟩
       |succ f=>exact⟨fun _=>hk,fun i hi=>by rw[hr]at hi;cases hi⟩
      split
      ·rename_i hw
       rw[if_pos hw]at h1
       exact Oper.wpIn_mono qq h1
      ·rename_i hw
       rw[if_neg hw]at h1
       exact⟨h1.1,qq _ _ h1.2⟩
     obtain⟨s,hs,oX,zO,fG,dZ⟩:=iF i ad8 ae
     have lx:o'=arr[i]:=by rw[Bo ae]at ho;exact(oi ho).symm
     subst lx
     obtain⟨d,hd⟩:=gW i (by omega)
     have hB:∀ j,(aY befs i).contains j=true->al.getD j false=true:=by
      intro j hj
      have zt:j∈aY befs i:=by simpa using hj
      obtain⟨e,he,hb,h⟩:=(oG i ae j).1 zt
      have kH:=gg e (by simpa using he) hb
      rcases h with rfl|⟨_,h⟩
      ·exact kH
      ·exact bF _ kH j h
     have nB:∀ j,al.getD j false=true->(aY befs j).contains i=false:=by
      intro j hj
      cases jV:(aY befs j).contains i with
      |false=>rfl
      |true=>
       have:=bF j hj i (by simpa using jV)
       rw[dY]at this;cases this
     have eP:∀ j,(al.setIfInBounds i true).getD j false=(al.getD j false || j==i):=by
      intro j
      by_cases fg:j=i
      ·subst fg;simp[Array.getD,eO]
      ·rw[getD_set_ne false (Ne.symm fg)];simp[fg]
     unfold wpOpIn
     rw[ho]
     simp only
     have iE:D2 (look (lh ops befs ds st.tm i)) (look (iv ops ds (idxs ops.length fun j=>al.getD j false) st.tm)):=by
      exact abv h1 gW hB nB
     have jF:∀ g j v,((arr[j]?).bind (·.dst)).getD n=g->a.tmps[g]?=some v->yielded arr a.tmps j=match v with|.bool b=>some b|_=>none:=by
      intro g j v cM hv
      unfold yielded
      cases hb:(arr[j]?).bind (·.dst) with
      |none=>
       rw[hb]at cM
       simp only[Option.getD_none]at cM
       have:=(Cv.1 hv).1
       rw[hD.size]at this
       subst cM
       exact absurd this (Nat.lt_irrefl _)
      |some dd=>
       rw[hb]at cM
       simp only[Option.getD_some]at cM
       subst cM
       simp only[Ae,hv]
       cases v<;>rfl
     have iH:∀ g w,s.guard=some (g,w)->∃ j,(arr[i]).guard=some (j,w)/\((arr[j]?).bind (·.dst)).getD n=g:=by
      intro g w hh
      rw[hh]at dZ
      cases rU:(arr[i]).guard with
      |none=>rw[rU]at dZ;cases dZ
      |some p=>
       rw[rU]at dZ
       simp only[A0,oE,Prod.mk.injEq]at dZ
       exact⟨p.1,by rw[dZ.2],dZ.1.symm⟩
     have oR:∀ v w' dn cK,DR N0 W0 n st ops ds (fun j=>al.getD j false || j==i) (a.put (arr[i]).dst v) w' dn cK->A8 N0 fm' ts' dn cK->wpAnyIn FW 0 P .any arr (K P Q bc) fuel (al.setIfInBounds i true) (a.put (arr[i]).dst v) w':=by
      intro v w' dn cK nz du
      refine ih (al.setIfInBounds i true) _ w' dn cK (by simpa using ax) (by rw[eP,iI];simp;omega) ?_ ?_ ?_ (hL.trans du)
      ·have:=abt (p:=fun j=>!(al.setIfInBounds i true).getD j false) (q:=fun j=>!al.getD j false) (i:=i) (by
        intro j hj
        rw[eP]at hj
        simp only[Bool.not_or,A1]at hj
        exact hj.1) (by simp only[dY,Bs]) (by simp only[eP,dY];simp) (List.range arr.size) (List.mem_range.2 ae)
       omega
      ·intro j hj k hk
       rw[eP]at hj ⊢
       simp only[Bool.or_eq_true,beq_iff_eq]at hj ⊢
       rcases hj with hj|rfl
       ·exact .inl (bF j hj k hk)
       ·exact .inl (hB k (by simpa using hk))
      ·have e:(fun j=>(al.setIfInBounds i true).getD j false)=fun j=>al.getD j false || j==i:=funext eP
       rw[e]
       exact nz
     have rO:∀ j,al.getD j false=true->i<j->lP (dz ds i) (dz ds j):=by
      intro j hj nE
      have nF:j<al.size:=by
       by_cases nF:j<al.size
       ·exact nF
       ·simp[Array.getD,nF]at hj
      have hjm:j≠m:=by rintro rfl;rw[iI]at hj;cases hj
      refine gT i j nE (by omega) ?_
      have:=nB j hj
      simpa using this
     have rT:∀ d,bW ops i=some d->d<n:=by
      intro dd lr
      have uo:gO s∈List.map (jP n arr) arr.toList:=by rw[<-cA];exact List.mem_map_of_mem (List.mem_append_left _ (AU hs))
      have:=hf _ uo
      simp only[bW,hs,Ae]at lr
      simp only[gO,lr]at this
      simpa using this
     rcases ug i s d hs hd with ⟨dJ,hE⟩|⟨zQ,rfl⟩
     case inr=>
      obtain⟨g,want,nL,y5⟩:=zQ
      obtain⟨j,hj,cM⟩:=iH g want nL
      have zz:Region.wanted arr[i] (yielded arr a.tmps)=false:=by
       rcases y5 with ⟨b,hb,gU⟩|hb
       ·obtain⟨v,hv,bg⟩:=hD.tm g _ (iE g _ hb)
        cases bg
        simp only[Region.wanted,hj,jF g j _ cM hv]
        simpa using gU
       ·obtain⟨v,hv,bg⟩:=hD.tm g _ (iE g _ hb)
        cases bg
        simp[Region.wanted,hj,jF g j _ cM hv]
      rw[if_neg (by rw[zz];simp)]
      have ho:Out N0 W0 fm' ts' (Heap.bN (st.fr::st.low) (cG ds (idxs ops.length fun j=>al.getD j false))) w (st.nx+16*i) (.ok .skip w) ⟨.ar [],[]⟩ fm' ts' w undef:=
       ⟨.inr ⟨rfl,rfl⟩,hD.hr,.ar [] #[] rfl (fun i x v h=>by simp at h),AM.refl _ _,As.refl _,fun _ _ _ h=>h⟩
      obtain⟨h2,h3⟩:=hD.step (by omega) dY hd ho h1 gW rO rT
      have uf:bW ops i=(arr[i]).dst:=by simp[bW,hs,oX]
      rw[uf]at h2
      exact⟨fun _ _=>trivial,oR _ w fm' ts' h2 h3⟩
     have zW:Region.wanted arr[i] (yielded arr a.tmps)=true:=by
      rcases dJ with dJ|⟨g,want,b,nL,hb,gU⟩
      ·rw[dJ]at dZ
       have:(arr[i]).guard=none:=by
        cases hh:(arr[i]).guard with
        |none=>rfl
        |some g=>rw[hh]at dZ;cases dZ
       simp[Region.wanted,this]
      ·obtain⟨j,hj,cM⟩:=iH g want nL
       obtain⟨v,hv,bg⟩:=hD.tm g _ (iE g _ hb)
       cases bg
       simp only[Region.wanted,hj,jF g j _ cM hv]
       simpa using gU
     rw[if_pos zW]
     exact(DR.oper (befs:=befs) hT hD (by omega) dY hd hs hE h1 gW hB nB rO rT zO fG oX fun v w' dn cK nz du=>oR v w' dn cK nz du)
   refine key arr.size (Array.replicate arr.size false) a _ fm ts (by simp) (oV m) (DX List.countP_le_length (by simp)) (by intro j hj;rw[oV]at hj;cases hj) ?_ (A8.refl _ _)
   have e:(fun j=>(Array.replicate arr.size false).getD j false)=fun _=>false:=funext oV
   rw[e]
   exact DR.none ⟨hS.hr.drew,hS.tm,hS.nx,hS.size,hS.dP⟩
def abY (n:Nat) (ops:List An) (befs:List (List Nat)) (o:An):Bool:=
 ((List.range ops.length).all fun j=>(aY befs ops.length).contains j)&&ops.all fun s=>match s.guard with
  |some (g,_)=>g != o.dst.getD n
  |none=>true
theorem H9 (hT:AQ P T) (hm:P.follows .mixedOrders=true) {ops0 ops:List An}{o:An}{befs:List (List Nat)}{drop:List Nat}{todo:List It}{st:St} (m:Nat) (e:ops0=ops++[o]) (hl:abY n ops befs o=true)
  (h:DG P T (fun acc aq=>calm ops befs acc.reverse=true/\AK P n Φ (.ops [⟨o.dst,o.op,o.type,o.guard,drop⟩]::todo) { aq with tm:=cw aq.tm [] }) (iT T m ops [] st)):AJ P n Φ (.draw ops0 befs drop todo st):=by
 subst e
 obtain⟨ds,h1,h2,h3⟩:=xz m _ _ _ h
 simp only[List.append_nil,List.reverse_reverse]at h2
 have hlen:(ds.map (·.1)).length=ops.length:=by simp[h1.length]
 have yM:=h2
 simp only[calm,A1,decide_eq_true_eq]at yM
 obtain⟨⟨⟨⟨_,k1⟩,fc⟩,gT⟩,_⟩:=yM
 simp only[abY,A1,List.all_eq_true,List.mem_range]at hl
 refine AK.amW hT hm (ds.map (·.1)) (fun j hj=>⟨(ds.map (·.1))[j]'(by omega),gG (by omega)⟩) (aan ops k1) (fun i j hj=>by have:=xZ befs 0 fc i j hj;omega) (acW gT) (adl ds h1 h2) (fun j hj=>by simpa using hl.1 j hj) ?_ (ago _ hlen h3)
 intro s hs g w hg
 have:=hl.2 s hs
 rw[hg]at this
 simpa using this
end
theorem an {p q:Prop} (a:p) (b:q):p/\q:=⟨a,b⟩
theorem Ap.bI {n:Nat}{α:Type}{E:α->List AV}{z:Nat} (hE:∀ x,(E x).length=z) {cs:List AV}{o:Nat}{v:Aa n α}{g:Aa n α->List AV} (h:Ap cs o (Aa.c E) v g) {i:Int}{x:α} (hx:v.at? i=some x):
  Ap cs (o+i.toNat*z) E x (fun y=>g (v.set i y))/\o+i.toNat*z+z<=cs.length/\(cs.drop (o+i.toNat*z)).take z=E x:=
 have u:=Ap.at hE h hx
 ⟨u,u.bound hE,u.get hE⟩
theorem Ap.afg {n:Nat}{α:Type}{E:α->List AV}{z:Nat} (hE:∀ x,(E x).length=z) {v:Aa n α}{i:Int}{x:α} (h:v.at? i=some x):
  Ap (v.c E) (i.toNat*z) E x (fun y=>(v.set i y).c E)/\i.toNat*z+z<=(v.c E).length/\((v.c E).drop (i.toNat*z)).take z=E x:=
 have u:=Ap.idx hE h
 ⟨u,u.bound hE,u.get hE⟩
theorem pu {α β:Type} (E:α->β) {b:Nat}{l y:List α}{x:α} (h:fJ b l x=some y):room (l.length+1) b/\l.map E++[E x]=y.map E/\y.length=l.length+1/\(y.map E).take (l.length+1)=y.map E:=⟨ap3 h,ap2 E h,aiW h,ap4 E h⟩
theorem gM {α β:Type} (E:α->β) {b:Nat}{l y x:List α} (h:dN b l x=some y):room (l.length+x.length) b/\l.map E++x.map E=y.map E/\y.length=l.length+x.length/\(y.map E).take (l.length+x.length)=y.map E:=⟨alw h,alv E h,afR h,alx E h⟩
@[reducible] def D4 (cs:List AV) (z z1 z2 z3:Nat):Prop:=
 (∀ d,AV.dq d cs=cs)/\(∀ G,AV.aG G cs=some cs)/\(∀ G F,AV.cZ G F cs=some cs)/\AV.aO cs=[]/\(∀ k,AV.iP k cs=cs)/\(∀ ks,AV.dU ks cs=some cs)/\(∀ d,AV.gz d cs=some cs)/\
 (∀ r,(cs++r).take z=cs)/\cs.take z=cs/\(∀ r,(cs++r).drop z=r)/\cs.drop z=[]/\(∀ k b r,AV.dG k b (cs++r)=(AV.dG k b r).map (cs++·))/\(∀ G r,AV.aG G (cs++r)=(AV.aG G r).map (cs++·))/\
 (∀ ks r,AV.dU ks (cs++r)=(AV.dU ks r).map (cs++·))/\(∀ r,(cs++r).length=z+r.length)/\(∀ r q,cs++r++q=cs++(r++q))/\(∀ r,(cs++r).drop z1=r.drop 1)/\(∀ r,(cs++r).take z1=cs++r.take 1)/\
 (∀ r,(cs++r).drop z2=r.drop 2)/\(∀ r,(cs++r).drop z3=r.drop 3)/\(∀ r,(cs++r)[z]?=r[0]?)/\(∀ r,(cs++r)[z1]?=r[1]?)/\(∀ r,(cs++r)[z2]?=r[2]?)/\(∀ r,(cs++r)[z3]?=r[3]?)/\
 (∀ r x,(cs++r).set z x=cs++r.set 0 x)/\(∀ r x,(cs++r).set z1 x=cs++r.set 1 x)/\(∀ r x,(cs++r).set z2 x=cs++r.set 2 x)/\∀ r x,(cs++r).set z3 x=cs++r.set 3 x
theorem xV {cs:List AV}{z z1 z2 z3:Nat} (hl:cs.length=z) (i:Cs cs) (hf:∀ k b,AV.dG k b cs=some cs) (e1:z1=z+1) (e2:z2=z+2) (e3:z3=z+3):D4 cs z z1 z2 z3:=by
 subst hl e1 e2 e3
 have dr:∀ (j:Nat) (r:List AV),(cs++r).drop (cs.length+j)=r.drop j:=fun j r=>by rw[List.drop_append,DE (by omega),Fs];rfl
 have ge:∀ (j:Nat) (r:List AV),(cs++r)[cs.length+j]?=r[j]?:=fun j r=>by rw[CE (by omega),Fs]
 have se:∀ (j:Nat) (r:List AV) (x:AV),(cs++r).set (cs.length+j) x=cs++r.set j x:=fun j r x=>by rw[List.set_append_right _ _ (by omega),Fs]
 exact⟨i.sh,i.ai,i.br,i.refs,i.imp,i.aS,i.un,fun r=>DV rfl,CO,fun r=>List.drop_left' rfl,List.drop_length,fun k b r=>ani (hf k b) r,fun G r=>anh i G r,fun ks r=>aqt i ks r,fun r=>A9,fun r q=>Cu _ _ _,
  dr 1,fun r=>by rw[List.take_append,CF (by omega),Fs],dr 2,dr 3,ge 0,ge 1,ge 2,ge 3,se 0,se 1,se 2,se 3⟩
def SQ:List SC->SC
 |[]=>.skip
 |[a]=>a
 |a::b::l=>.seq a (SQ (b::l))
def RG (l:List An):SC:=.lF l
def CN (t:Nat) (a b:SC):SC:=.cond (.tmp t) a b
def gd (g:Nat) (w:Bool) (o:An):An:=⟨o.dst,o.op,o.type,some (g,w),o.drop⟩
def oQ (d:Nat) (o:Op) (t:Nat) (l:List Nat:=[]):An:=⟨some d,o,t,none,l⟩
def wV (d a t:Nat) (l:List Nat:=[]):An:=⟨some d,.move (.tmp a),t,none,l⟩
def wD (d t a:Nat) (l:List Nat:=[]):An:=⟨some d,.load t (.tmp a),t,none,l⟩
def wF (d t a f:Nat) (l:List Nat:=[]):An:=⟨some d,.fieldAddr t (.tmp a) f,0,none,l⟩
def wI (d t a b:Nat) (l:List Nat:=[]):An:=⟨some d,.indexAddr t (.tmp a) (.tmp b),0,none,l⟩
def wJ (d t a:Nat) (n:Int) (l:List Nat:=[]):An:=⟨some d,.indexAddr t (.tmp a) (.const (.int .i64 n)),0,none,l⟩
def wG (d a t:Nat) (l:List Nat:=[]):An:=⟨some d,.assign (.tmp a),t,none,l⟩
def wN (d:Nat) (n:Int) (t:Nat) (l:List Nat:=[]):An:=⟨some d,.assign (.const (.int .i64 n)),t,none,l⟩
def wB (d:Nat) (b:Bool) (t:Nat) (l:List Nat:=[]):An:=⟨some d,.assign (.const (.bool b)),t,none,l⟩
def wX (d a i t:Nat) (l:List Nat:=[]):An:=⟨some d,.extract (.tmp a) i,t,none,l⟩
def wL (d a s t:Nat) (l:List Nat:=[]):An:=⟨some d,.call ⟨.builtin .len,#[.tmp a],#[s]⟩,t,none,l⟩
def wC (d f:Nat) (xs:Array Operand) (ts:Array Nat) (t:Nat) (l:List Nat:=[]):An:=⟨some d,.call ⟨.value (.func f),xs,ts⟩,t,none,l⟩
def wU (d f a s t:Nat) (l:List Nat:=[]):An:=⟨some d,.call ⟨.value (.func f),#[.tmp a],#[s]⟩,t,none,l⟩
def wW (d f a b s u t:Nat) (l:List Nat:=[]):An:=⟨some d,.call ⟨.value (.func f),#[.tmp a,.tmp b],#[s,u]⟩,t,none,l⟩
def wP (d a b s u t:Nat) (l:List Nat:=[]):An:=⟨some d,.call ⟨.builtin .append,#[.tmp a,.tmp b],#[s,u]⟩,t,none,l⟩
def wO (d:Nat) (o:BinOp) (s a b u t:Nat) (l:List Nat:=[]):An:=⟨some d,.binOp o s (.tmp a) (.tmp b) u,t,none,l⟩
def wK (d:Nat) (o:BinOp) (s a:Nat) (n:Int) (u t:Nat) (l:List Nat:=[]):An:=⟨some d,.binOp o s (.tmp a) (.const (.int .i64 n)) u,t,none,l⟩
def wS (t a v:Nat) (l:List Nat:=[]):An:=⟨none,.store t (.tmp a) (.tmp v),0,none,l⟩
def wA (d t:Nat) (l:List Nat:=[]):An:=⟨some d,.alloc t,0,none,l⟩
def wE (d t v:Nat) (l:List Nat:=[]):An:=⟨some d,.box t (.tmp v),0,none,l⟩
def wT (d a b t:Nat) (l:List Nat:=[]):An:=⟨some d,.pick (.tmp a) (.const (.bool true)) (.tmp b),t,none,l⟩
def wZ (d a b t:Nat) (l:List Nat:=[]):An:=⟨some d,.pick (.tmp a) (.tmp b) (.const (.bool false)),t,none,l⟩
def wQ (d a t:Nat) (l:List Nat:=[]):An:=⟨some d,.unOp .not t (.tmp a),t,none,l⟩
def wY (d s u a t:Nat) (l:List Nat:=[]):An:=⟨some d,.convert s u (.tmp a),t,none,l⟩
attribute [go_sem] SQ RG CN gd oQ wV wD wF wI wJ wG wN wB wX wL wC wU wW wP wO wK wS wA wE wT wZ wQ wY
section
variable [Md] {P:Program}{T:AN}{n:Nat}{Φ:Exit->St->Prop}{C:List (De×Rd)->St->Prop}
theorem Cr {f:List It->St->Ev}{b:Bool}{t t':List It}{s s':St}{ρ:Type}{A B:Option ρ}{r:ρ} (h:(bif !b then A else B)=some r) (h1:b=false->A=some r->AJ P n Φ (f t s)) (h2:b=true->B=some r->AJ P n Φ (f t' s')):AJ P n Φ (two f (!b) t s t' s'):=by
 cases b with
 |true=>exact h2 rfl h
 |false=>exact h1 rfl h
theorem Ih {f:List An->List (De×Rd)->St->CC}{b:Bool}{os jm:List An}{acc ja:List (De×Rd)}{st aq:St}{ρ:Type}{A B:Option ρ}{r:ρ} (h:(bif !b then A else B)=some r) (h1:b=false->A=some r->DG P T C (f os acc st)) (h2:b=true->B=some r->DG P T C (f jm ja aq)):DG P T C (rh f (!b) os acc st jm ja aq):=by
 cases b with
 |true=>exact h2 rfl h
 |false=>exact h1 rfl h
theorem AF {p:Prop} (F:p) {f:List It->St->Ev}{b:Bool}{t t':List It}{s s':St}{ρ:Type}{A B:Option ρ}{r:ρ} (h:(bif b then A else B)=some r) (h1:b=true/\p->A=some r->AJ P n Φ (f t s)) (h2:b=false/\p->B=some r->AJ P n Φ (f t' s')):AJ P n Φ (two f b t s t' s'):=AR h (fun a=>h1 ⟨a,F⟩) (fun a=>h2 ⟨a,F⟩)
theorem Bx {p:Prop} (F:p) {f:List It->St->Ev}{b:Bool}{t t':List It}{s s':St}{ρ:Type}{A B:Option ρ}{r:ρ} (h:(bif !b then A else B)=some r) (h1:b=false/\p->A=some r->AJ P n Φ (f t s)) (h2:b=true/\p->B=some r->AJ P n Φ (f t' s')):AJ P n Φ (two f (!b) t s t' s'):=Cr h (fun a=>h1 ⟨a,F⟩) (fun a=>h2 ⟨a,F⟩)
theorem DF {p:Prop} (F:p) {f:List An->List (De×Rd)->St->CC}{b:Bool}{os jm:List An}{acc ja:List (De×Rd)}{st aq:St}{ρ:Type}{A B:Option ρ}{r:ρ} (h:(bif b then A else B)=some r) (h1:b=true/\p->A=some r->DG P T C (f os acc st)) (h2:b=false/\p->B=some r->DG P T C (f jm ja aq)):DG P T C (rh f b os acc st jm ja aq):=FF h (fun a=>h1 ⟨a,F⟩) (fun a=>h2 ⟨a,F⟩)
theorem Fi {p:Prop} (F:p) {f:List An->List (De×Rd)->St->CC}{b:Bool}{os jm:List An}{acc ja:List (De×Rd)}{st aq:St}{ρ:Type}{A B:Option ρ}{r:ρ} (h:(bif !b then A else B)=some r) (h1:b=false/\p->A=some r->DG P T C (f os acc st)) (h2:b=true/\p->B=some r->DG P T C (f jm ja aq)):DG P T C (rh f (!b) os acc st jm ja aq):=Ih h (fun a=>h1 ⟨a,F⟩) (fun a=>h2 ⟨a,F⟩)
theorem amF (hT:AQ P T) {ops:List An}{befs:List (List Nat)}{todo:List It}{acc ds:List (De×Rd)}{st uT:St} (h:AJ P n Φ (run T 1000 todo uT)) (hC:(calm ops befs ds=true/\AK P n Φ todo uT)->C acc st) {sk:List (List (Nat×Nat)×Rd)} (h1:nc ds=sk) (h2:calm ops befs (oc sk)=true):
  DG P T C (.done acc st):=GQ (hC ⟨agp h1 h2,ib hT 1000 _ _ h⟩)
end
end Go.Abs
namespace Go.Abs
open Go Go.RowKit Go.Maps
variable {P:Program}{t k e:TypeId}{w:World}{r n:Nat}{L:List (Int×Int)}
end Go.Abs
namespace Go.Abs
open Go Go.RowKit
section
variable [Md] {P:Program}{T:AN}{n:Nat}
theorem Iq {N0:Nat}{W0:World}{fm:FM}{ts:List Al}{a:Act}{w:World}{Q:Exit->Act->World->Prop}{bc:List BG}{qY:Nat}{arr:Array Oper} (hT:AQ P T) (hm:P.follows .mixedOrders=true) {ops:List An}{o:An}{befs:List (List Nat)}{drop:List Nat}{st:St} (ds:List De) (gW:∀ j,j<ops.length->∃ d,ds[j]?=some d) (h1:DC ops)
  (fc:∀ i j,j∈aY befs i->j<i) (gT:∀ i j,i<j->j<ops.length->i∉aY befs j->lP (dz ds i) (dz ds j))
  (ug:∀ i s d,ops[i]?=some s->ds[i]?=some d->C2 P T (st.nx+16*i) s (look (lh ops befs ds st.tm i)) (Heap.get (lg ops befs ds (st.fr::st.low) i)) d)
  (hbm:∀ j,j<ops.length->j∈aY befs ops.length) (wR:∀ s∈ops,∀ g w,s.guard=some (g,w)->g≠o.dst.getD n)
  (hS:SR N0 W0 n st a w fm ts) (hb:(SC.aL (ops++[o]) befs drop).bare=erase n (.region qY arr true)) (hf:SC.fits n (erase n (.region qY arr true))=true)
  (hn:∀ a' w' fm' ts',SR N0 W0 n (st.drawn ops ds []) a' w' fm' ts'->A8 N0 fm ts fm' ts'->K P Q (.ops arr [ops.length]::bc) .normal a' w'):K P Q (.code (.region qY arr true)::bc) .normal a w:=by
 simp only[SC.bare,erase,SC.aL.injEq,and_true]at hb
 obtain⟨cA,iG⟩:=hb
 simp only[erase,SC.fits,List.all_eq_true]at hf
 have hlen:ops.length+1=arr.size:=by have:=congrArg List.length cA;simpa using this
 obtain⟨m,mW⟩:∃ m,ops.length=m:=⟨_,rfl⟩
 have zq:m<arr.size:=by omega
 have hmo:gO o=jP n arr arr[m]:=by
  have e:=congrArg (fun l=>l[m]?) cA
  simp only[C7,List.map_cons,List.map_nil]at e
  rw[CE (by simp;omega)]at e
  simp only[Bh,mW,Nat.sub_self,BP,BA,Array.getElem?_toList,Bo zq,A0,oE]at e
  exact e
 have iF:∀ i,(w8:i<m)->(hi:i<arr.size)->∃ s,ops[i]?=some s/\s.dst=(arr[i]).dst/\s.op=(arr[i]).op/\s.type=(arr[i]).type/\s.guard=(arr[i]).guard.map (fun g=>(((arr[g.1]?).bind (·.dst)).getD n,g.2)):=by
  intro i w8 hi
  have ae:i<ops.length:=by omega
  refine⟨ops[i],gG ae,?_⟩
  have e:=congrArg (fun l=>l[i]?) cA
  simp only[C7]at e
  rw[Ct (by simpa using ae)]at e
  simp only[BA,gG ae,A0,Array.getElem?_toList,Bo hi,oE]at e
  simp only[gO,jP,An.mk.injEq,and_true]at e
  obtain⟨e1,e2,e3,e4⟩:=e
  exact⟨e1,e2,e3,e4⟩
 have oG:∀ i,(hi:i<arr.size)->∀ x,x∈aY befs i↔∃ e∈(arr[i]).after.toList,Region.binds .any e=true/\(x=e.on\/(e.on<i/\x∈aY befs e.on)):=by
  intro i hi x
  obtain⟨b',g1,g2,g3⟩:=abe arr.toList [] i arr[i] (by simp[hi])
  simp only[Az,Co]at g1 g2
  have e1:aY befs i=n9 b' [] (arr[i]).after.toList:=by unfold aY;rw[iG,g1];rfl
  rw[e1,ab4]
  simp only[List.not_mem_nil,false_or]
  have e2:∀ e:Edge,x∈(b'[e.on]?).getD []↔(e.on<i/\x∈aY befs e.on):=by
   intro e
   by_cases hj:e.on<b'.length
   ·rw[g3 _ hj]
    unfold aY
    rw[iG]
    rw[g2]at hj
    simp[hj]
   ·rw[CK (by omega)]
    simp
    omega
  constructor
  ·rintro⟨e,h1,h2,h3⟩
   exact⟨e,h1,h2,h3.imp id (e2 e).1⟩
  ·rintro⟨e,h1,h2,h3⟩
   exact⟨e,h1,h2,h3.imp id (e2 e).2⟩
 refine wpIn_region_any hm ?_
 have oV:∀ j,(Array.replicate arr.size false).getD j false=false:=by
  intro j
  by_cases hj:j<arr.size
  ·simp[Array.getD,hj]
  ·simp[Array.getD,hj]
 have key:∀ (fuel:Nat) (al:Array Bool) (a:Act) (w:World) (fm':FM) (ts':List Al),al.size=arr.size->al.getD m false=false->((List.range arr.size).countP fun j=>!al.getD j false)<=fuel->
   (∀ j,al.getD j false=true->∀ k∈aY befs j,al.getD k false=true)->DR N0 W0 n st ops ds (fun j=>al.getD j false) a w fm' ts'->A8 N0 fm ts fm' ts'->wpAnyIn FW 0 P .any arr (K P Q bc) fuel al a w:=by
  intro fuel
  have fin:∀ (al:Array Bool) (a:Act) (w:World) (fm':FM) (ts':List Al),al.size=arr.size->al.getD m false=false->DR N0 W0 n st ops ds (fun j=>al.getD j false) a w fm' ts'->A8 N0 fm ts fm' ts'->Region.ready .any arr al=[]->K P Q bc .normal a w:=by
   intro al a w fm' ts' ax iI hD hL hr
   have gg:∀ j,j<arr.size->al.getD j false=true:=by
    intro j
    induction j using Nat.strongRecOn with
    |_ j ih=>
     intro hj
     by_cases hl:al.getD j false=true
     ·exact hl
     ·have bC:j∈Region.ready .any arr al:=by
       rw[mem_ready]
       have ae:j<al.size:=by omega
       refine⟨by simp[Array.getD,ae]at hl ⊢;exact hl,arr[j],Bo hj,?_⟩
       intro e he hb
       have hm:e.on∈aY befs j:=(oG j hj e.on).2 ⟨e,by simpa using he,hb,.inl rfl⟩
       have:=fc j e.on hm
       exact ih e.on this (by omega)
      rw[hr]at bC;cases bC
   rw[gg m zq]at iI;cases iI
  induction fuel with
  |zero=>
   intro al a w fm' ts' ax iI hc bF hD hL
   have hr:Region.ready .any arr al=[]:=by
    cases h:Region.ready .any arr al with
    |nil=>rfl
    |cons j l=>
     have hj:j∈Region.ready .any arr al:=by rw[h];exact List.mem_cons_self
     rw[mem_ready]at hj
     obtain⟨h0,o,ho,_⟩:=hj
     have ae:j<arr.size:=(Cv.1 ho).1
     have:0<(List.range arr.size).countP fun j=>!al.getD j false:=by
      rw[List.countP_pos_iff]
      have eO:j<al.size:=by omega
      refine⟨j,List.mem_range.2 ae,?_⟩
      simp[Array.getD,eO]at h0 ⊢
      exact h0
     omega
   exact⟨hr,fin al a w fm' ts' ax iI hD hL hr⟩
  |succ fuel ih=>
   intro al a w fm' ts' ax iI hc bF hD hL
   refine⟨fin al a w fm' ts' ax iI hD hL,fun i hi=>?_⟩
   rw[mem_ready]at hi
   obtain⟨h0,o',ho,gg⟩:=hi
   have ae:i<arr.size:=(Cv.1 ho).1
   have eO:i<al.size:=by omega
   have dY:al.getD i false=false:=by
    simp[Array.getD,eO]at h0 ⊢
    exact h0
   by_cases ad8:i<m
   case neg=>
    obtain rfl:i=m:=by omega
    have ly:∀ j,j<i->al.getD j false=true:=by
     intro j hj
     obtain⟨e,he,hb,h⟩:=(oG i ae j).1 (by rw[<-mW];exact hbm j (by omega))
     have lx:o'=arr[i]:=by rw[Bo ae]at ho;exact(oi ho).symm
     subst lx
     have kH:=gg e (by simpa using he) hb
     rcases h with rfl|⟨_,h⟩
     ·exact kH
     ·exact bF _ kH j h
    have cJ:=hD.all (fun j hj=>ly j (by omega)) []
    have h1:=hn a w fm' ts' cJ hL
    rw[mW]at h1
    simp only[K,wpOpsIn,ho]at h1
    unfold wpOpIn
    rw[ho]
    simp only
    have nJ:∀ l:Array Bool,(∀ j,l.getD j true=true)->Region.ready .any arr l=[]:=by
     intro l hl
     cases h:Region.ready .any arr l with
     |nil=>rfl
     |cons j r=>
      have hj:j∈Region.ready .any arr l:=by rw[h];exact List.mem_cons_self
      rw[mem_ready]at hj
      rw[hl j]at hj;cases hj.1
    have qq:∀ a w,K P Q bc .normal a w->wpAnyIn FW 0 P .any arr (K P Q bc) fuel (al.setIfInBounds i true) a w:=by
     have hr:=nJ (al.setIfInBounds i true) (by
      intro j
      by_cases fg:j<arr.size
      ·by_cases he:j=i
       ·subst he;simp[Array.getD,eO]
       ·rw[getD_set_ne true (Ne.symm he)]
        have jX:j<al.size:=by omega
        have:=ly j (by omega)
        simp[Array.getD,jX]at this ⊢
        exact this
      ·simp[Array.getD,ax,fg])
     intro a w hk
     cases fuel with
     |zero=>exact⟨hr,hk⟩
     |succ f=>exact⟨fun _=>hk,fun i hi=>by rw[hr]at hi;cases hi⟩
    split
    ·rename_i hw
     rw[if_pos hw]at h1
     exact Oper.wpIn_mono qq h1
    ·rename_i hw
     rw[if_neg hw]at h1
     exact⟨h1.1,qq _ _ h1.2⟩
   obtain⟨s,hs,oX,zO,fG,dZ⟩:=iF i ad8 ae
   have lx:o'=arr[i]:=by rw[Bo ae]at ho;exact(oi ho).symm
   subst lx
   obtain⟨d,hd⟩:=gW i (by omega)
   have hB:∀ j,(aY befs i).contains j=true->al.getD j false=true:=by
    intro j hj
    have zt:j∈aY befs i:=by simpa using hj
    obtain⟨e,he,hb,h⟩:=(oG i ae j).1 zt
    have kH:=gg e (by simpa using he) hb
    rcases h with rfl|⟨_,h⟩
    ·exact kH
    ·exact bF _ kH j h
   have nB:∀ j,al.getD j false=true->(aY befs j).contains i=false:=by
    intro j hj
    cases jV:(aY befs j).contains i with
    |false=>rfl
    |true=>
     have:=bF j hj i (by simpa using jV)
     rw[dY]at this;cases this
   have eP:∀ j,(al.setIfInBounds i true).getD j false=(al.getD j false || j==i):=by
    intro j
    by_cases fg:j=i
    ·subst fg;simp[Array.getD,eO]
    ·rw[getD_set_ne false (Ne.symm fg)];simp[fg]
   unfold wpOpIn
   rw[ho]
   simp only
   have iE:D2 (look (lh ops befs ds st.tm i)) (look (iv ops ds (idxs ops.length fun j=>al.getD j false) st.tm)):=by
    exact abv h1 gW hB nB
   have jF:∀ g j v,((arr[j]?).bind (·.dst)).getD n=g->a.tmps[g]?=some v->yielded arr a.tmps j=match v with|.bool b=>some b|_=>none:=by
    intro g j v cM hv
    unfold yielded
    cases hb:(arr[j]?).bind (·.dst) with
    |none=>
     rw[hb]at cM
     simp only[Option.getD_none]at cM
     have:=(Cv.1 hv).1
     rw[hD.size]at this
     subst cM
     exact absurd this (Nat.lt_irrefl _)
    |some dd=>
     rw[hb]at cM
     simp only[Option.getD_some]at cM
     subst cM
     simp only[Ae,hv]
     cases v<;>rfl
   have iH:∀ g w,s.guard=some (g,w)->∃ j,(arr[i]).guard=some (j,w)/\((arr[j]?).bind (·.dst)).getD n=g:=by
    intro g w hh
    rw[hh]at dZ
    cases rU:(arr[i]).guard with
    |none=>rw[rU]at dZ;cases dZ
    |some p=>
     rw[rU]at dZ
     simp only[A0,oE,Prod.mk.injEq]at dZ
     exact⟨p.1,by rw[dZ.2],dZ.1.symm⟩
   have oR:∀ v w' dn cK,DR N0 W0 n st ops ds (fun j=>al.getD j false || j==i) (a.put (arr[i]).dst v) w' dn cK->A8 N0 fm' ts' dn cK->wpAnyIn FW 0 P .any arr (K P Q bc) fuel (al.setIfInBounds i true) (a.put (arr[i]).dst v) w':=by
    intro v w' dn cK nz du
    refine ih (al.setIfInBounds i true) _ w' dn cK (by simpa using ax) (by rw[eP,iI];simp;omega) ?_ ?_ ?_ (hL.trans du)
    ·have:=abt (p:=fun j=>!(al.setIfInBounds i true).getD j false) (q:=fun j=>!al.getD j false) (i:=i) (by
      intro j hj
      rw[eP]at hj
      simp only[Bool.not_or,A1]at hj
      exact hj.1) (by simp only[dY,Bs]) (by simp only[eP,dY];simp) (List.range arr.size) (List.mem_range.2 ae)
     omega
    ·intro j hj k hk
     rw[eP]at hj ⊢
     simp only[Bool.or_eq_true,beq_iff_eq]at hj ⊢
     rcases hj with hj|rfl
     ·exact .inl (bF j hj k hk)
     ·exact .inl (hB k (by simpa using hk))
    ·have e:(fun j=>(al.setIfInBounds i true).getD j false)=fun j=>al.getD j false || j==i:=funext eP
     rw[e]
     exact nz
   have rO:∀ j,al.getD j false=true->i<j->lP (dz ds i) (dz ds j):=by
    intro j hj nE
    have nF:j<al.size:=by
     by_cases nF:j<al.size
     ·exact nF
     ·simp[Array.getD,nF]at hj
    have hjm:j≠m:=by rintro rfl;rw[iI]at hj;cases hj
    refine gT i j nE (by omega) ?_
    have:=nB j hj
    simpa using this
   have rT:∀ d,bW ops i=some d->d<n:=by
    intro dd lr
    have uo:gO s∈List.map (jP n arr) arr.toList:=by rw[<-cA];exact List.mem_map_of_mem (List.mem_append_left _ (AU hs))
    have:=hf _ uo
    simp only[bW,hs,Ae]at lr
    simp only[gO,lr]at this
    simpa using this
   rcases ug i s d hs hd with ⟨dJ,hE⟩|⟨zQ,rfl⟩
   case inr=>
    obtain⟨g,want,nL,y5⟩:=zQ
    obtain⟨j,hj,cM⟩:=iH g want nL
    have zz:Region.wanted arr[i] (yielded arr a.tmps)=false:=by
     rcases y5 with ⟨b,hb,gU⟩|hb
     ·obtain⟨v,hv,bg⟩:=hD.tm g _ (iE g _ hb)
      cases bg
      simp only[Region.wanted,hj,jF g j _ cM hv]
      simpa using gU
     ·obtain⟨v,hv,bg⟩:=hD.tm g _ (iE g _ hb)
      cases bg
      simp[Region.wanted,hj,jF g j _ cM hv]
    rw[if_neg (by rw[zz];simp)]
    have ho:Out N0 W0 fm' ts' (Heap.bN (st.fr::st.low) (cG ds (idxs ops.length fun j=>al.getD j false))) w (st.nx+16*i) (.ok .skip w) ⟨.ar [],[]⟩ fm' ts' w undef:=
     ⟨.inr ⟨rfl,rfl⟩,hD.hr,.ar [] #[] rfl (fun i x v h=>by simp at h),AM.refl _ _,As.refl _,fun _ _ _ h=>h⟩
    obtain⟨h2,h3⟩:=hD.step (by omega) dY hd ho h1 gW rO rT
    have uf:bW ops i=(arr[i]).dst:=by simp[bW,hs,oX]
    rw[uf]at h2
    exact⟨fun _ _=>trivial,oR _ w fm' ts' h2 h3⟩
   have zW:Region.wanted arr[i] (yielded arr a.tmps)=true:=by
    rcases dJ with dJ|⟨g,want,b,nL,hb,gU⟩
    ·rw[dJ]at dZ
     have:(arr[i]).guard=none:=by
      cases hh:(arr[i]).guard with
      |none=>rfl
      |some g=>rw[hh]at dZ;cases dZ
     simp[Region.wanted,this]
    ·obtain⟨j,hj,cM⟩:=iH g want nL
     obtain⟨v,hv,bg⟩:=hD.tm g _ (iE g _ hb)
     cases bg
     simp only[Region.wanted,hj,jF g j _ cM hv]
     simpa using gU
   rw[if_pos zW]
   exact(DR.oper (befs:=befs) hT hD (by omega) dY hd hs hE h1 gW hB nB rO rT zO fG oX fun v w' dn cK nz du=>oR v w' dn cK nz du)
 refine key arr.size (Array.replicate arr.size false) a _ fm ts (by simp) (oV m) (DX List.countP_le_length (by simp)) (by intro j hj;rw[oV]at hj;cases hj) ?_ (A8.refl _ _)
 have e:(fun j=>(Array.replicate arr.size false).getD j false)=fun _=>false:=funext oV
 rw[e]
 exact DR.none ⟨hS.hr.drew,hS.tm,hS.nx,hS.size,hS.dP⟩
end
section
variable [Md] {P:Program}{T:AN}{n:Nat}
theorem al9 {B:St->Prop}{ops:List An}{drop:List Nat}{st:St} (dm:List De) (uk:dm.length=ops.length)
  (hn:B { dL st ops dm ops.length with tm:=cw (dL st ops dm ops.length).tm drop }):B (st.drawn ops dm drop):=by
 obtain⟨e1,e2,e3,e4⟩:=afa st ops dm uk ops.length (Be _)
 unfold St.drawn
 obtain⟨f',H',hp⟩:=uO st.fr st.low (cG dm (List.range ops.length))
 rw[hp]at e1 ⊢
 simp only[List.cons.injEq]at e1
 obtain⟨e5,e6⟩:=e1
 rw[aj2]
 simp only[e2,e3,e4,e5,e6]at hn
 exact hn
theorem Iu {N0:Nat}{W0:World}{fm:FM}{ts:List Al}{a:Act}{w:World}{Q:Exit->Act->World->Prop}{bc:List BG}{qY:Nat}{arr:Array Oper}{B:St->Prop} (hT:AQ P T) (hm:P.follows .mixedOrders=true) {ops0 ops:List An}{o:An}{befs:List (List Nat)}{drop:List Nat}{st:St} (m:Nat) (e:ops0=ops++[o]) (hl:abY n ops befs o=true)
  (h:DG P T (fun acc aq=>calm ops befs acc.reverse=true/\B { aq with tm:=cw aq.tm [] }) (iT T m ops [] st))
  (hS:SR N0 W0 n st a w fm ts) (hb:(SC.aL ops0 befs drop).bare=erase n (.region qY arr true)) (hf:SC.fits n (erase n (.region qY arr true))=true)
  (hn:∀ aq a' w' fm' ts',B aq->SR N0 W0 n aq a' w' fm' ts'->A8 N0 fm ts fm' ts'->K P Q (.ops arr [ops.length]::bc) .normal a' w'):K P Q (.code (.region qY arr true)::bc) .normal a w:=by
 subst e
 obtain⟨ds,h1,h2,h3⟩:=xz m _ _ _ h
 simp only[List.append_nil,List.reverse_reverse]at h2
 have hlen:(ds.map (·.1)).length=ops.length:=by simp[h1.length]
 have yM:=h2
 simp only[calm,A1,decide_eq_true_eq]at yM
 obtain⟨⟨⟨⟨_,k1⟩,fc⟩,gT⟩,_⟩:=yM
 simp only[abY,A1,List.all_eq_true,List.mem_range]at hl
 have hB:B (st.drawn ops (ds.map (·.1)) []):=al9 _ hlen h3
 refine Iq hT hm (ds.map (·.1)) (fun j hj=>⟨(ds.map (·.1))[j]'(by omega),gG (by omega)⟩) (aan ops k1) (fun i j hj=>by have:=xZ befs 0 fc i j hj;omega) (acW gT) (adl ds h1 h2) (fun j hj=>by simpa using hl.1 j hj) ?_ hS hb hf (fun a' w' fm' ts' cJ hL'=>hn _ a' w' fm' ts' hB cJ hL')
 intro s hs g w hg
 have:=hl.2 s hs
 rw[hg]at this
 simpa using this
end
def AV.pf:AV->Bool
 |.int .u8 _=>false
 |.raw _=>false
 |_=>true
mutual
def AV.fj:AV->Bool
 |.sl _ es=>AV.sH es
 |.aD _ es _ _=>AV.sH es
 |.fn _ a b=>AV.nO a&&AV.nO b
 |.bU _ v=>v.fj
 |.agg cs=>AV.nO cs
 |.ar vs=>AV.nO vs
 |_=>true
def AV.nO:List AV->Bool
 |[]=>true
 |x::l=>x.fj&&AV.nO l
def AV.jI:List AV->Bool
 |[]=>true
 |x::l=>x.pf&&(x.fj&&AV.jI l)
def AV.sH:List (List AV)->Bool
 |[]=>true
 |c::l=>AV.jI c&&AV.sH l
end
def AG.fj:AG->Bool
 |.box cs=>AV.nO cs
 |.arr _ _ es=>es.all AV.nO
theorem uK:∀ {l:List AV}{i:Nat}{x:AV},AV.nO l=true->l[i]?=some x->x.fj=true
 |[],i,x,_,h=>by simp at h
 |y::l,0,x,h,e=>by simp only[AV.nO,A1]at h;cases e;exact h.1
 |y::l,i+1,x,h,e=>by simp only[AV.nO,A1]at h;exact uK h.2 (by simpa using e)
theorem aai:∀ {l:List AV}{i:Nat}{x:AV},AV.jI l=true->l[i]?=some x->x.pf=true/\x.fj=true
 |[],i,x,_,h=>by simp at h
 |y::l,0,x,h,e=>by simp only[AV.jI,A1]at h;cases e;exact⟨h.1,h.2.1⟩
 |y::l,i+1,x,h,e=>by simp only[AV.jI,A1]at h;exact aai h.2.2 (by simpa using e)
theorem aaj:∀ {l:List (List AV)}{i:Nat}{c:List AV},AV.sH l=true->l[i]?=some c->AV.jI c=true
 |[],i,x,_,h=>by simp at h
 |y::l,0,x,h,e=>by simp only[AV.sH,A1]at h;cases e;exact h.1
 |y::l,i+1,x,h,e=>by simp only[AV.sH,A1]at h;exact aaj h.2 (by simpa using e)
theorem ab9 {α:Type}{E:α->List AV} (h:∀ x,AV.jI (E x)=true):∀ l:List α,AV.sH (l.map E)=true
 |[]=>rfl
 |x::l=>by simp only[List.map_cons,AV.sH,A1];exact⟨h x,ab9 h l⟩
theorem aeG:∀ (a b:List AV),AV.jI (a++b)=(AV.jI a&&AV.jI b)
 |[],b=>by simp[AV.jI]
 |x::a,b=>by simp only[Bg,AV.jI,aeG a b,Bool.and_assoc]
theorem VR.pf {fm:FM}{ts:List Al}{x:AV}{v:Value} (h:VR fm ts x v) (hf:x.flat=true) (h8:x.pf=true):∀ m,v≠.int .u8 m:=by
 intro m e
 subst e
 cases h with
 |int k n=>simp[AV.pf]at h8
 |raw v h=>simp[AV.pf]at h8
 |dead v=>simp[AV.flat]at hf
theorem VR.xK {fm fm':FM} (hle:∀ b o v,fm b o=some v->(∀ m,v≠.int .u8 m)->fm' b o=some v) (o8:∀ b,fm'.t b=fm.t b\/fm'.t b=0) {ts:List Al}{x:AV}{v:Value} (h:VR fm ts x v):x.fj=true->VR fm' ts x v:=by
 induction h with
 |sl es cb off esz cap u bX h1 h2 h3 h4 ih=>
  intro h8
  simp only[AV.fj]at h8
  refine .sl es cb off esz cap u bX h1 (fun i c o x a b=>⟨hle _ _ _ (h2 i c o x a b).1 ((h4 i c o x a b).pf (h3 i c o x a b) (aai (aaj h8 a) b).1),?_⟩) h3 (fun i c o x a b=>ih i c o x a b (aai (aaj h8 a) b).2)
  rcases o8 cb with e|e
  ·rw[e];exact(h2 i c o x a b).2
  ·exact .inl e
 |aD es i o cb off esz u h1 h2 h3 h4 ih=>
  intro h8
  simp only[AV.fj]at h8
  refine .aD es i o cb off esz u h1 (fun i c o x a b=>⟨hle _ _ _ (h2 i c o x a b).1 ((h4 i c o x a b).pf (h3 i c o x a b) (aai (aaj h8 a) b).1),?_⟩) h3 (fun i c o x a b=>ih i c o x a b (aai (aaj h8 a) b).2)
  rcases o8 cb with e|e
  ·rw[e];exact(h2 i c o x a b).2
  ·exact .inl e
 |fn f first cap vf vc h1 h2 h3 h4 iN iO=>
  intro h8
  simp only[AV.fj,A1]at h8
  exact .fn f first cap vf vc h1 h2 (fun i x v a b=>iN i x v a b (uK h8.1 a)) (fun i x v a b=>iO i x v a b (uK h8.2 a))
 |bU t x v h ih=>intro h8;simp only[AV.fj]at h8;exact .bU t x v (ih h8)
 |agg cs vs h1 h2 h3 ih=>intro h8;simp only[AV.fj]at h8;exact .agg cs vs h1 h2 (fun i x v a b=>ih i x v a b (uK h8 a))
 |ar xs vs h1 h3 ih=>intro h8;simp only[AV.fj]at h8;exact .ar xs vs h1 (fun i x v a b=>ih i x v a b (uK h8 a))
 |bool b=>intro _;exact .bool b
 |int k n=>intro _;exact .int k n
 |str s=>intro _;exact .str s
 |nil=>intro _;exact .nil
 |ck e a cap=>intro _;exact .ck e a cap
 |cN l k esz i n g a cp h hn ha=>intro _;exact .cN l k esz i n g a cp h hn ha
 |cO l k esz i n g a cp m' c h ae hn ha=>intro _;exact .cO l k esz i n g a cp m' c h ae hn ha
 |cr l k esz a h=>intro _;exact .cr l k esz a h
 |loc l k esz i n g c cap cp a h hn bM hc ha=>intro _;exact .loc l k esz i n g c cap cp a h hn bM hc ha
 |bG l k esz o n c cp a h hn ha=>intro _;exact .bG l k esz o n c cp a h hn ha
 |bH=>intro _;exact .bH
 |ptr l k o c h=>intro _;exact .ptr l k o c h
 |eK l k esz i o g a h=>intro _;exact .eK l k esz i o g a h
 |eM l k esz i o g a m' c h ae=>intro _;exact .eM l k esz i o g a m' c h ae
 |bx l k esz i o g c cap h=>intro _;exact .bx l k esz i o g c cap h
 |bQ=>intro _;exact .bQ
 |bV=>intro _;exact .bV
 |raw v h=>intro _;exact .raw v h
 |dead v=>intro _;exact .dead v
def FM.lN (fm:FM) (c j:Nat) (y:Value):FM:=⟨fun b o=>if b=c/\o=j then some y else fm b o,fm.t⟩
theorem FM.ajF {fm:FM}{c j:Nat}{y:Value}{kO:Int} (h:fm c j=some (.int .u8 kO)):∀ b o v,fm b o=some v->(∀ m,v≠.int .u8 m)->(fm.lN c j y) b o=some v:=by
 intro b o v hv hn
 unfold FM.lN
 simp only
 rw[if_neg]
 ·exact hv
 ·rintro⟨rfl,rfl⟩
  rw[h]at hv
  exact hn kO (oi hv).symm
theorem HR.xK {N0:Nat}{W0:World}{fm:FM}{ts:List Al}{H:Heap}{w:World} (h:HR N0 W0 fm ts H w) {c j:Nat}{kO:Int}{y:Value}{cells:Array Value}{et:TypeId} (hN:N0<=c) (hold:fm c j=some (.int .u8 kO)) (hc:w.heap[c]?=some (.cells cells et (0,0)))
  (hH:∀ l k b,H.get l k=some b->b.fj=true):HR N0 W0 (fm.lN c j y) ts H (w.setRow c (cells.toList.take j++([y]++cells.toList.drop (j+1))).toArray):=by
 have hle:=FM.ajF (y:=y) hold
 have o8:∀ b,(fm.lN c j y).t b=fm.t b\/(fm.lN c j y).t b=0:=fun b=>.inl rfl
 have y7:w.cell? ⟨c,j,none⟩=some (.int .u8 kO):=h.bP _ _ _ hold
 have hj:j<cells.size:=by
  simp only[World.cell?,hc]at y7
  by_cases hj:j<cells.size
  ·exact hj
  ·simp[Array.getElem?_eq_none (by omega:cells.size<=j)]at y7
 have ahU:∀ l k b c',H.get l k=some b->bq (tb ts l k)=some c'->c'≠c:=by
  rintro l k b c' hg ht rfl
  rw[h.df l k b c' j hg ht]at hold
  cases hold
 have uw:∀ i,i≠c->(w.setRow c (cells.toList.take j++([y]++cells.toList.drop (j+1))).toArray).heap[i]?=w.heap[i]?:=fun i hi=>setRow_other w c i _ hi
 have dE:(w.setRow c (cells.toList.take j++([y]++cells.toList.drop (j+1))).toArray).heap[c]?=some (.cells (cells.toList.take j++([y]++cells.toList.drop (j+1))).toArray et (0,0)):=setRow_heap w c cells _ et _ hc
 have dS:∀ o,(cells.toList.take j++([y]++cells.toList.drop (j+1))).toArray[o]?=if o=j then some y else cells[o]?:=by
  intro o
  simp only[List.getElem?_toArray]
  by_cases h1:o<j
  ·rw[Ct (by simp;omega),BS,if_pos h1,if_neg (by omega)];simp
  ·rw[CE (by simp;omega)]
   simp only[Ba,Array.length_toList,Nat.min_eq_left (Nat.le_of_lt hj)]
   by_cases h2:o=j
   ·subst h2;simp
   ·obtain⟨d,rfl⟩:∃ d,o=j+1+d:=⟨o - (j+1),by omega⟩
    have:j+1+d - j=d+1:=by omega
    rw[this,if_neg h2,List.singleton_append,Cc,Cg];simp
 refine⟨h.len,?_,h.inj,?_,?_,h.dk.trans (ac0 w c _ hN),?_,?_,?_⟩
 ·intro l k b hg
  have hb:=h.ao l k b hg
  have h8:=hH l k b hg
  have bj:=ahU l k b
  generalize hq:tb ts l k=t at hb bj
  cases hb with
  |box c' cs nA hB=>
   obtain⟨cl,jQ,c1,c2,c3⟩:=hB
   exact .box c' cs nA ⟨cl,jQ,(uw c' (bj c' hg rfl)).trans c1,c2,fun o x v a b=>⟨(c3 o x v a b).1,(c3 o x v a b).2.xK hle o8 (uK h8 a)⟩⟩
  |nil jQ esz=>exact .nil jQ esz
  |arr jQ esz es c' cap nA hA=>
   obtain⟨cl,c1,c2,c3,c4,c5,c6,c7⟩:=hA
   refine .arr jQ esz es c' cap nA ⟨cl,(uw c' (bj c' hg rfl)).trans c1,c2,c3,c4,c5,c6,fun i cc o x v a b d=>⟨(c7 i cc o x v a b d).1,(c7 i cc o x v a b d).2.xK hle o8 ?_⟩⟩
   have h9:AV.nO cc=true:=List.all_eq_true.1 h8 cc (AU a)
   exact uK h9 b
 ·intro b o v hv
  unfold FM.lN at hv
  simp only at hv
  by_cases oF:b=c
  ·subst oF
   simp only[World.cell?,dE]
   split at hv
   ·rename_i hh
    rw[dS,if_pos hh.2]
    simpa using hv
   ·rename_i hh
    rw[dS,if_neg (fun e=>hh ⟨rfl,e⟩)]
    have:=h.bP b o v hv
    simpa [World.cell?,hc] using this
  ·rw[if_neg (fun hh=>oF hh.1)]at hv
   have:=h.bP b o v hv
   exact(World.cell?_of_block (w:=w) (a:=⟨b,o,none⟩) (uw b oF)).trans this
 ·intro l k b c' o hg ht
  unfold FM.lN
  simp only
  rw[if_neg (fun hh=>ahU l k b c' hg ht hh.1)]
  exact h.df l k b c' o hg ht
 ·have:=h.size
  simpa [World.setRow] using this
 ·intro b o h0 ho
  have hb:=h.cX b o h0 ho
  refine(uw b ?_).trans hb
  rintro rfl
  rw[hc]at hb
  cases hb
  cases ho
 ·intro b o v nA hv ht
  by_cases oF:b=c
  ·subst oF;exact⟨_,et,dE⟩
  ·unfold FM.lN at hv
   simp only at hv
   rw[if_neg (fun hh=>oF hh.1)]at hv
   exact(h.ej b o v nA hv ht).of (uw b oF)
end Go.Abs
namespace Go.Abs
open Go
theorem aU {n:Int} (h1:-9223372036854775808<=n) (h2:n<=9223372036854775807):ab n=n:=by
 simp only[ab,IntKind.wrap,IntKind.bits,IntKind.signed]
 simp
 omega
theorem bA {α:Type}{l:List α}{i:Nat}{x:α} (h:l[i]?=some x):at? l (i:Int)=some x:=by
 have:i<l.length:=(gS.1 h).1
 unfold at?
 rw[if_pos ⟨by omega,by omega⟩]
 simpa using h
def scan {R:Type} (g:Nat->Option R):Nat->Nat->Option R
 |_,0=>none
 |i,n+1=>match g i with
  |some r=>some r
  |none=>scan g (i+1) n
theorem aru {R:Type}{body:Int->Option (AT Int Unit R)}{n:Nat}{g:Nat->Option R} (hn:n<=9223372036854775807)
  (h1:∀ i,i<n->body (i:Int)=some (match g i with|some r=>.ret r|none=>.next (ab ((i:Int)+1)))) (h2:body (n:Int)=some (.brk ())):
  ∀ (k d i:Nat),i+d=n->d<k->aj body k (i:Int)=some (match scan g i d with|some r=>.ret r|none=>.brk ()):=by
 intro k
 induction k with
 |zero=>intro d i _ h;omega
 |succ k ih=>
  intro d i hd hk
  cases d with
  |zero=>
   have:i=n:=by omega
   subst this
   rw[aj,h2];rfl
  |succ d=>
   rw[aj,h1 i (by omega)]
   cases hg:g i with
   |some r=>simp only[scan,hg]
   |none=>
    simp only[scan,hg]
    have:ab ((i:Int)+1)=((i+1:Nat):Int):=by rw[aU (by omega) (by omega)];omega
    rw[this]
    exact ih d (i+1) (by omega) (by omega)
theorem ars {α R:Type}{l:List α}{body:Int->Option (AT Int Unit R)}{f:α->Option R} (hn:l.length<=9223372036854775807) {k:Nat} (hk:l.length<k)
  (h1:∀ (i:Nat) x,l[i]?=some x->body (i:Int)=some (match f x with|some r=>.ret r|none=>.next (ab ((i:Int)+1)))) (h2:body (l.length:Int)=some (.brk ())):
  aj body k 0=some (match l.findSome? f with|some r=>.ret r|none=>.brk ()):=by
 have key:∀ (m:List α) (i k:Nat),l.drop i=m->i+m.length=l.length->m.length<k->aj body k (i:Int)=some (match m.findSome? f with|some r=>.ret r|none=>.brk ()):=by
  intro m
  induction m with
  |nil=>
   intro i k _ h3 h4
   cases k with
   |zero=>omega
   |succ k=>
    have:i=l.length:=by simpa using h3
    subst this
    rw[aj,h2];rfl
  |cons x m ih=>
   intro i k h5 h3 h4
   cases k with
   |zero=>omega
   |succ k=>
    simp only[AA]at h3 h4
    have hx:l[i]?=some x:=by
     have:=congrArg (fun q=>q[0]?) h5
     simpa using this
    rw[aj,h1 i x hx]
    cases hf:f x with
    |some r=>simp only[List.findSome?_cons,hf]
    |none=>
     simp only[List.findSome?_cons,hf]
     have:ab ((i:Int)+1)=((i+1:Nat):Int):=by rw[aU (by omega) (by omega)];omega
     rw[this]
     exact ih (i+1) k (by rw[<-List.drop_drop,h5];rfl) (by omega) (by omega)
 exact key l 0 k rfl (by simp) hk
theorem pF {α S R τ:Type}{l:List α}{body:τ->Option (AT τ S R)} (mk:Int->S->τ) (f:S->α->S) (Inv:Nat->S->Prop) (hn:l.length<=9223372036854775807) {k:Nat} (hk:l.length<k) {s0:S} (h0:Inv 0 s0)
  (h1:∀ (i:Nat) x s,l[i]?=some x->Inv i s->body (mk (i:Int) s)=some (.next (mk (ab ((i:Int)+1)) (f s x)))/\Inv (i+1) (f s x)) (h2:∀ s,Inv l.length s->body (mk (l.length:Int) s)=some (.brk s)):
  aj body k (mk 0 s0)=some (.brk (l.foldl f s0))/\Inv l.length (l.foldl f s0):=by
 have key:∀ (m:List α) (i k:Nat) (s:S),l.drop i=m->i+m.length=l.length->m.length<k->Inv i s->aj body k (mk (i:Int) s)=some (.brk (m.foldl f s))/\Inv l.length (m.foldl f s):=by
  intro m
  induction m with
  |nil=>
   intro i k s _ h3 h4 hI
   cases k with
   |zero=>omega
   |succ k=>
    have:i=l.length:=by simpa using h3
    subst this
    exact⟨by rw[aj,h2 s hI];rfl,hI⟩
  |cons x m ih=>
   intro i k s h5 h3 h4 hI
   cases k with
   |zero=>omega
   |succ k=>
    simp only[AA]at h3 h4
    have hx:l[i]?=some x:=by
     have:=congrArg (fun q=>q[0]?) h5
     simpa using this
    obtain⟨h6,h7⟩:=h1 i x s hx hI
    have:ab ((i:Int)+1)=((i+1:Nat):Int):=by rw[aU (by omega) (by omega)];omega
    rw[this]at h6
    rw[aj,h6]
    exact ih (i+1) k (f s x) (by rw[<-List.drop_drop,h5];rfl) (by omega) (by omega) h7
 exact key l 0 k s0 rfl (by simp) hk h0
theorem pq {α:Type}{b:Nat}{l:List α}{x:α} (h:(l.length+1)*b<=140737488355328) (h2:l.length+1<4611686018427387904):fJ b l x=some (l++[x]):=by
 unfold fJ dN
 rw[if_pos ⟨by simpa using h,by simpa using h2⟩]
end Go.Abs
