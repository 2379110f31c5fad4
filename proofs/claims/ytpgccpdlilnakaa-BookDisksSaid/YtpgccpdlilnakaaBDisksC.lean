/-
  Part 3 of the proof: a machine over named blocks, what each function computes, and what follows. No condition.
-/
import Derived.Defers
import Derived.Recover
import Derived.RangeFuncNested
import Derived.Maps.OwnSet
import Derived.Maps.Views
import Derived.DeepKeys4
import Derived.Test.YtpgccpdlilnakaaBDisksB
set_option linter.unusedVariables false
set_option linter.unusedSimpArgs false
set_option linter.all false
namespace Go.Abs
open Go
def og (d:Nat) (o:Op) (t a:Nat) (b:Bool) (l:List Nat):Am:=⟨some d,o,t,some (a,b),l⟩
def oq (d:Nat) (o:Op) (t:Nat) (l:List Nat):Am:=⟨some d,o,t,none,l⟩
def mv (d s t:Nat) (l:List Nat):Am:=⟨some d,.move (.tmp s),t,none,l⟩
def ld (d t s:Nat) (l:List Nat):Am:=⟨some d,.load t (.tmp s),t,none,l⟩
def fa (d t s i:Nat) (l:List Nat):Am:=⟨some d,.fieldAddr t (.tmp s) i,0,none,l⟩
def ia (d t s i:Nat) (l:List Nat):Am:=⟨some d,.indexAddr t (.tmp s) (.tmp i),0,none,l⟩
def sg (d s t:Nat) (l:List Nat):Am:=⟨some d,.assign (.tmp s),t,none,l⟩
def sn (d:Nat) (n:Int) (t:Nat) (l:List Nat):Am:=⟨some d,.assign (.const (.int .i64 n)),t,none,l⟩
def sb (d:Nat) (b:Bool) (t:Nat) (l:List Nat):Am:=⟨some d,.assign (.const (.bool b)),t,none,l⟩
def xt (d s i t:Nat) (l:List Nat):Am:=⟨some d,.extract (.tmp s) i,t,none,l⟩
def ln (d s u t:Nat) (l:List Nat):Am:=⟨some d,.call ⟨.builtin .len,#[.tmp s],#[u]⟩,t,none,l⟩
def cf1 (d f a ta t:Nat) (l:List Nat):Am:=⟨some d,.call ⟨.value (.func f),#[.tmp a],#[ta]⟩,t,none,l⟩
def cf2 (d f a b ta tb t:Nat) (l:List Nat):Am:=⟨some d,.call ⟨.value (.func f),#[.tmp a,.tmp b],#[ta,tb]⟩,t,none,l⟩
def b2 (d:Nat) (o:BinOp) (u a b v t:Nat) (l:List Nat):Am:=⟨some d,.binOp o u (.tmp a) (.tmp b) v,t,none,l⟩
def bn (d:Nat) (o:BinOp) (u a:Nat) (n:Int) (v t:Nat) (l:List Nat):Am:=⟨some d,.binOp o u (.tmp a) (.const (.int .i64 n)) v,t,none,l⟩
attribute [go_sem] og oq mv ld fa ia sg sn sb xt ln cf1 cf2 b2 bn
theorem aa {α:Type}{l:List α}{i:Int}{x:α} (h:at? l i=some x):fY i l.length=some i.toNat/\∀ (β:Type) (E:α->β),(l.map E)[i.toNat]?=some (E x):=⟨aC h,fun _ E=>aD E h⟩
theorem bs {α β:Type}{o:Option α}{f:α->Option β}{r:β} (h:o.bind f=some r):∃ x,o=some x/\f x=some r:=bind_some h
structure Aa (n:Nat) (α:Type) where
 l:List α
 h:l.length=n
def Aa.c {n:Nat}{α:Type} (E:α->List AV) (v:Aa n α):List AV:=(v.l.map E).flatten
theorem Aa.ext {n:Nat}{α:Type}{a b:Aa n α} (h:a.l=b.l):a=b:=by
 cases a;cases b;cases h;rfl
theorem abd {α:Type}{E:α->List AV}{z:Nat} (h:∀ x,(E x).length=z):∀ l:List α,(l.map E).flatten.length=l.length*z
 |[]=>by simp
 |x::l=>by rw[List.map_cons,Ct,A8,h,abd h l,Az,Nat.succ_mul];omega
theorem Aa.len {n:Nat}{α:Type}{E:α->List AV}{z:Nat} (h:∀ x,(E x).length=z) (v:Aa n α):(v.c E).length=n*z:=by
 unfold Aa.c;rw[abd h,v.h]
def Aa.at? {n:Nat}{α:Type} (v:Aa n α) (i:Int):Option α:=if 0<=i/\i<n then v.l[i.toNat]? else none
def Aa.set {n:Nat}{α:Type} (v:Aa n α) (i:Int) (x:α):Aa n α:=⟨v.l.set i.toNat x,by simp[v.h]⟩
def Aa.rep (n:Nat) {α:Type} (x:α):Aa n α:=⟨List.replicate n x,by simp⟩
theorem aq {n:Nat}{α:Type}{v:Aa n α}{i:Int}{x:α} (h:v.at? i=some x):fY i n=some i.toNat:=by
 unfold Aa.at? at h
 split at h
 ·rename_i hc;unfold fY;rw[if_pos hc]
 ·cases h
theorem ajh {n:Nat}{α:Type}{v:Aa n α}{i:Int}{x:α} (h:v.at? i=some x):v.l[i.toNat]?=some x:=by
 unfold Aa.at? at h
 split at h
 ·exact h
 ·cases h
def Sub (cs:List AV) (o:Nat) (c:List AV):Prop:=∃ a b,cs=a++(c++b)/\a.length=o
theorem Sub.self (c:List AV):Sub c 0 c:=⟨[],[],by simp,rfl⟩
theorem Sub.trans {cs c c':List AV}{o o':Nat} (h:Sub cs o c) (k:Sub c o' c'):Sub cs (o+o') c':=by
 obtain⟨a,b,rfl,rfl⟩:=h
 obtain⟨a',b',rfl,rfl⟩:=k
 exact⟨a++a',b'++b,by simp,by simp⟩
theorem Sub.cons (x:AV) {cs c:List AV}{o:Nat} (h:Sub cs o c):Sub (x::cs) (o+1) c:=by
 obtain⟨a,b,rfl,rfl⟩:=h
 exact⟨x::a,b,by simp,by simp⟩
theorem Sub.bound {cs c:List AV}{o z:Nat} (h:Sub cs o c) (hz:c.length=z):o+z<=cs.length:=by
 obtain⟨a,b,rfl,rfl⟩:=h
 simp;omega
theorem Sub.get {cs c:List AV}{o z:Nat} (h:Sub cs o c) (hz:c.length=z):(cs.drop o).take z=c:=by
 obtain⟨a,b,rfl,rfl⟩:=h
 subst hz
 simp
theorem Sub.idx {n:Nat}{α:Type}{E:α->List AV}{z:Nat} (hE:∀ x,(E x).length=z) {v:Aa n α}{i:Int}{x:α} (h:v.at? i=some x):Sub (v.c E) (i.toNat*z) (E x):=by
 have hg:=ajh h
 obtain⟨ae,hx⟩:=gS.1 hg
 refine⟨((v.l.take i.toNat).map E).flatten,((v.l.drop (i.toNat+1)).map E).flatten,?_,?_⟩
 ·unfold Aa.c
  conv=>lhs;rw[<-CZ i.toNat v.l,List.drop_eq_getElem_cons ae,hx]
  simp
 ·rw[abd hE,Bb,Nat.min_eq_left (by omega)]
theorem apu {cs c c':List AV}{o o':Nat} (h:Sub cs o c) (k:Sub c o' c') {new:List AV} (hl:new.length=c'.length):overwrite cs (o+o') new=overwrite cs o (overwrite c o' new):=by
 obtain⟨a,b,rfl,rfl⟩:=h
 obtain⟨a',b',rfl,rfl⟩:=k
 have h1:overwrite (a++((a'++(c'++b'))++b)) (a.length+a'.length) new=a++(a'++(new++(b'++b))):=by
  unfold overwrite
  rw[hl]
  have e1:(a++((a'++(c'++b'))++b))=(a++a')++(c'++(b'++b)):=by simp
  rw[e1,DP (by simp),<-List.drop_drop,List.drop_left' (by simp),List.drop_left' rfl]
  simp
 have h2:overwrite (a'++(c'++b')) a'.length new=a'++(new++b'):=by
  unfold overwrite
  rw[hl,DP rfl,<-List.drop_drop,List.drop_left' rfl,List.drop_left' rfl]
 rw[h1,h2]
 unfold overwrite
 rw[DP rfl,<-List.drop_drop,List.drop_left' rfl,List.drop_left' (by simp[hl])]
 simp
theorem aps {n:Nat}{α:Type}{E:α->List AV}{z:Nat} (hE:∀ x,(E x).length=z) {v:Aa n α}{i:Int}{x:α} (h:v.at? i=some x) (y:α):overwrite (v.c E) (i.toNat*z) (E y)=(v.set i y).c E:=by
 have hg:=ajh h
 obtain⟨ae,hx⟩:=gS.1 hg
 have e1:v.c E=((v.l.take i.toNat).map E).flatten++(E x++((v.l.drop (i.toNat+1)).map E).flatten):=by
  unfold Aa.c
  conv=>lhs;rw[<-CZ i.toNat v.l,List.drop_eq_getElem_cons ae,hx]
  simp
 have e2:(v.set i y).c E=((v.l.take i.toNat).map E).flatten++(E y++((v.l.drop (i.toNat+1)).map E).flatten):=by
  unfold Aa.c Aa.set
  simp only
  rw[List.set_eq_take_append_cons_drop,if_pos ae]
  simp
 have hl:(((v.l.take i.toNat).map E).flatten).length=i.toNat*z:=by rw[abd hE,Bb,Nat.min_eq_left (by omega)]
 rw[e1,e2]
 unfold overwrite
 rw[<-hl,DP rfl,<-List.drop_drop,List.drop_left' rfl,List.drop_left' (by rw[hE,hE])]
theorem apt {c new:List AV} (h:new.length=c.length):overwrite c 0 new=new:=by
 unfold overwrite;rw[Cq,h,List.drop_length];simp
theorem apr (x:AV) (cs new:List AV) (o:Nat):overwrite (x::cs) (o+1) new=x::overwrite cs o new:=by
 unfold overwrite;rw[show o+1+new.length=(o+new.length)+1 by omega];simp
structure VK {α:Type} (z:Nat) (E:α->List AV):Prop where
 len:∀ x,(E x).length=z
 rE:∀ x,Co (E x)
theorem ai3 (d:Nat):∀ a b x y:List AV,AV.gb d a=some x->AV.gb d b=some y->AV.gb d (a++b)=some (x++y)
 |[],b,x,y,h,k=>by simp only[AV.gb,oE]at h;subst h;simpa using k
 |u::a,b,x,y,h,k=>by
  simp only[AV.gb]at h
  split at h
  ·rename_i p q hp hq
   obtain rfl:=oi h
   simp only[Bq,AV.gb,hp,ai3 d a b q y hq k]
  ·cases h
theorem agV (G:AR):∀ a b x y:List AV,AV.aF G a=some x->AV.aF G b=some y->AV.aF G (a++b)=some (x++y)
 |[],b,x,y,h,k=>by simp only[AV.aF,oE]at h;subst h;simpa using k
 |u::a,b,x,y,h,k=>by
  simp only[AV.aF]at h
  split at h
  ·rename_i p q hp hq
   obtain rfl:=oi h
   simp only[Bq,AV.aF,hp,agV G a b q y hq k]
  ·cases h
theorem afD (G:AR) (F:Nat->Nat->Option (List AV)):∀ a b x y:List AV,AV.cY G F a=some x->AV.cY G F b=some y->AV.cY G F (a++b)=some (x++y)
 |[],b,x,y,h,k=>by simp only[AV.cY,oE]at h;subst h;simpa using k
 |u::a,b,x,y,h,k=>by
  simp only[AV.cY]at h
  split at h
  ·rename_i p q hp hq
   obtain rfl:=oi h
   simp only[Bq,AV.cY,hp,afD G F a b q y hq k]
  ·cases h
theorem aiA (ks:List Nat):∀ a b x y:List AV,AV.dK ks a=some x->AV.dK ks b=some y->AV.dK ks (a++b)=some (x++y)
 |[],b,x,y,h,k=>by simp only[AV.dK,oE]at h;subst h;simpa using k
 |u::a,b,x,y,h,k=>by
  simp only[AV.dK]at h
  split at h
  ·rename_i p q hp hq
   obtain rfl:=oi h
   simp only[Bq,AV.dK,hp,aiA ks a b q y hq k]
  ·cases h
theorem adP (k:Nat):∀ a b:List AV,AV.iu k (a++b)=AV.iu k a++AV.iu k b
 |[],b=>rfl
 |x::a,b=>by simp only[Bq,AV.iu,adP k a b]
theorem aev:∀ a b:List AV,AV.aO (a++b)=AV.aO a++AV.aO b
 |[],b=>rfl
 |x::a,b=>by simp only[Bq,AV.aO,aev a b,Cp]
theorem Co.append {a b:List AV} (h:Co a) (k:Co b):Co (a++b):=
 ⟨fun d=>by rw[aeC,h.sh,k.sh],fun G=>agV G _ _ _ _ (h.ai G) (k.ai G),fun G F=>afD G F _ _ _ _ (h.br G F) (k.br G F),by rw[aev,h.refs,k.refs];rfl,
  fun n=>by rw[adP,h.imp,k.imp],fun ks=>aiA ks _ _ _ _ (h.aQ ks) (k.aQ ks),fun d=>ai3 d _ _ _ _ (h.un d) (k.un d)⟩
theorem Co.nil:Co []:=⟨fun _=>rfl,fun _=>rfl,fun _ _=>rfl,rfl,fun _=>rfl,fun _=>rfl,fun _=>rfl⟩
theorem Co.flat {α:Type}{E:α->List AV} (h:∀ x,Co (E x)):∀ l:List α,Co (l.map E).flatten
 |[]=>Co.nil
 |x::l=>by rw[List.map_cons,Ct];exact(h x).append (Co.flat h l)
theorem VK.vec {α:Type}{z:Nat}{E:α->List AV} (h:VK z E) (n:Nat):VK (n*z) (Aa.c (n:=n) E):=
 ⟨fun v=>v.len h.len,fun v=>Co.flat h.rE v.l⟩
theorem oU:VK 1 eI:=⟨fun _=>rfl,fun _=>⟨fun _=>rfl,fun _=>rfl,fun _ _=>rfl,rfl,fun _=>rfl,fun _=>rfl,fun _=>rfl⟩⟩
theorem mV:VK 1 af:=⟨fun _=>rfl,fun _=>⟨fun _=>rfl,fun _=>rfl,fun _ _=>rfl,rfl,fun _=>rfl,fun _=>rfl,fun _=>rfl⟩⟩
theorem agj:∀ (z a b z' a' b':List AV),z.length=a.length->a.length=b.length->bJ (z++z') (a++a') (b++b')=(match bJ z a b,bJ z' a' b' with
  |some p,some q=>some (p&&q)
  |_,_=>none)
 |[],[],[],z',a',b',_,_=>by
  simp only[BL,bJ]
  cases bJ z' a' b'<;>simp
 |x::z,p::a,q::b,z',a',b',h1,h2=>by
  simp only[Bq,bJ]
  rw[agj z a b z' a' b' (by simpa using h1) (by simpa using h2)]
  cases j4 x p q<;>cases bJ z a b<;>cases bJ z' a' b'<;>simp[Bool.and_assoc]
 |[],_::_,_,_,_,_,h,_=>by simp at h
 |_::_,[],_,_,_,_,h,_=>by simp at h
 |[],[],_::_,_,_,_,_,h=>by simp at h
 |_::_,_::_,[],_,_,_,_,h=>by simp at h
theorem agk {α:Type}{E:α->List AV}{z:Nat}{zc:List AV} (hE:∀ x,(E x).length=z) (hz:zc.length=z) (eq:α->α->Bool) (h:∀ x y,bJ zc (E x) (E y)=some (eq x y)):
  ∀ (n:Nat) (a b:List α),a.length=n->b.length=n->bJ (List.replicate n zc).flatten (a.map E).flatten (b.map E).flatten=some (a.zip b |>.all fun p=>eq p.1 p.2)
 |0,[],[],_,_=>by simp[bJ]
 |n+1,x::a,y::b,h1,h2=>by
  rw[List.replicate_succ,List.map_cons,List.map_cons,Ct,Ct,Ct,agj _ _ _ _ _ _ (by rw[hz,hE]) (by rw[hE,hE]),h x y,
   agk hE hz eq h n a b (by simpa using h1) (by simpa using h2)]
  simp
structure An {α:Type} (cs:List AV) (o:Nat) (E:α->List AV) (x:α) (g:α->List AV):Prop where
 sub:Sub cs o (E x)
 ow:∀ y,overwrite cs o (E y)=g y
theorem An.self {α:Type}{E:α->List AV}{z:Nat} (hE:∀ x,(E x).length=z) (x:α):An (E x) 0 E x E:=
 ⟨Sub.self _,fun y=>apt (by rw[hE,hE])⟩
theorem An.cons {α:Type}{E:α->List AV}{cs:List AV}{o:Nat}{x:α}{g:α->List AV} (a:AV) (h:An cs o E x g):An (a::cs) (o+1) E x (fun y=>a::g y):=
 ⟨h.sub.cons a,fun y=>by rw[apr,h.ow]⟩
theorem An.skip {α:Type}{E:α->List AV}{cs:List AV}{o:Nat}{x:α}{g:α->List AV} (h:An cs o E x g):∀ p:List AV,An (p++cs) (p.length+o) E x (fun y=>p++g y)
 |[]=>by simpa using h
 |a::p=>by
  have:=(An.skip h p).cons a
  rw[Az,show p.length+1+o=p.length+o+1 by omega]
  exact this
theorem An.idx {n:Nat}{α:Type}{E:α->List AV}{z:Nat} (hE:∀ x,(E x).length=z) {v:Aa n α}{i:Int}{x:α} (h:v.at? i=some x):An (v.c E) (i.toNat*z) E x (fun y=>(v.set i y).c E):=
 ⟨Sub.idx hE h,fun y=>aps hE h y⟩
theorem An.within {α β:Type}{cs:List AV}{o o':Nat}{E:α->List AV}{x:α}{g:α->List AV}{E':β->List AV}{x':β}{g':β->List AV}{z:Nat} (hE:∀ x,(E' x).length=z)
  (h:An cs o E x g) (k:An (E x) o' E' x' g') (up:β->α) (hg:∀ y,g' y=E (up y)):An cs (o+o') E' x' (fun y=>g (up y)):=
 ⟨h.sub.trans k.sub,fun y=>by rw[apu h.sub k.sub (by rw[hE,hE]),k.ow,hg,h.ow]⟩
theorem An.at {n:Nat}{α:Type}{E:α->List AV}{z:Nat} (hE:∀ x,(E x).length=z) {cs:List AV}{o:Nat}{v:Aa n α}{g:Aa n α->List AV} (h:An cs o (Aa.c E) v g) {i:Int}{x:α} (hx:v.at? i=some x):
  An cs (o+i.toNat*z) E x (fun y=>g (v.set i y)):=
 An.within hE h (An.idx hE hx) (fun y=>v.set i y) (fun _=>rfl)
theorem An.bound {α:Type}{cs:List AV}{o z:Nat}{E:α->List AV}{x:α}{g:α->List AV} (h:An cs o E x g) (hE:∀ x,(E x).length=z):o+z<=cs.length:=h.sub.bound (hE x)
theorem An.get {α:Type}{cs:List AV}{o z:Nat}{E:α->List AV}{x:α}{g:α->List AV} (h:An cs o E x g) (hE:∀ x,(E x).length=z):(cs.drop o).take z=E x:=h.sub.get (hE x)
def Aa.eq {n:Nat}{α:Type} (eq:α->α->Bool) (a b:Aa n α):Bool:=(a.l.zip b.l).all fun p=>eq p.1 p.2
theorem agm {n:Nat}{α:Type}{E:α->List AV}{z:Nat} (hE:∀ x,(E x).length=z) {x0:α}{eq:α->α->Bool} (h:∀ x y,bJ (E x0) (E x) (E y)=some (eq x y)) (a b:Aa n α):
  bJ ((Aa.rep n x0).c E) (a.c E) (b.c E)=some (a.eq eq b):=by
 have:=agk hE (hE x0) eq h n a.l b.l a.h b.h
 unfold Aa.c Aa.rep Aa.eq
 simp only[List.map_replicate]
 exact this
def Aa.put {n:Nat}{α:Type} (v:Aa n α) (o m:Nat) (l:List α):Aa n α:=
 if h:o+m<=n then ⟨v.l.take o++(l.take m++v.l.drop (o+min l.length m)),by
  simp only[A8,Bb,Bi,v.h];omega⟩ else v
theorem aaj {n:Nat} (v:Aa n Int):v.c af=v.l.map (AV.int .u8):=by
 unfold Aa.c af
 induction v.l with
 |nil=>rfl
 |cons x l ih=>simp[ih]
theorem amL (l:List Int):(l.map af).flatten=l.map (AV.int .u8):=by
 unfold af
 induction l with
 |nil=>rfl
 |cons x l ih=>simp[ih]
theorem ahz {n:Nat} (v:Aa n Int) (o m:Nat):(AV.aF (fun _ _=>none) (((v.c af).drop o).take m)).map (fun cs=>cs.map fun c=>[c])=some ((((v.l.drop o).take m)).map af):=by
 rw[aaj,<-List.map_drop,<-List.map_take]
 generalize (v.l.drop o).take m=l
 have:AV.aF (fun _ _=>none) (l.map (AV.int .u8))=some (l.map (AV.int .u8)):=by
  induction l with
  |nil=>rfl
  |cons x l ih=>simp only[List.map_cons,AV.aF,AV.ai,ih]
 rw[this]
 simp[af]
theorem apJ {n:Nat} (v:Aa n Int) (o m:Nat) (l:List Int) (h:o+m<=n):overwrite (v.c af) o ((l.map af).take m).flatten=(v.put o m l).c af:=by
 unfold Aa.put
 rw[dif_pos h,<-List.map_take,amL,aaj,aaj]
 unfold overwrite
 simp only[Dd,List.map_take,List.map_drop,Bb,Bg]
 rw[Nat.min_comm]
def strOf (l:List Int):ByteArray:=⟨(l.map fun n=>UInt8.ofNat n.toNat).toArray⟩
theorem acG:∀ l:List Int,bytesOf (l.map af)=some (l.map fun n=>UInt8.ofNat n.toNat)
 |[]=>rfl
 |x::l=>by simp only[List.map_cons,bytesOf,acG l,af,byteOf]
def hX (s:ByteArray):List Int:=s.data.toList.map fun c=>(c.toNat:Int)
theorem aeF (s:ByteArray):kr s=(hX s).map af:=by
 unfold kr hX af;rw[List.map_map];rfl
theorem kp (s:ByteArray):(hX s).length=s.size:=by unfold hX;rw[Bg];rfl
def sf (s:ByteArray) (i:Int):Option Int:=if 0<=i/\i<s.size then some ((s.data.toList.getD i.toNat 0).toNat:Int) else none
theorem aiM {s:ByteArray}{i x:Int} (h:sf s i=some x):fY i s.size=some i.toNat:=by
 unfold sf at h
 split at h
 ·rename_i hc;unfold fY;rw[if_pos hc]
 ·cases h
theorem aiL {s:ByteArray}{i x:Int} (h:sf s i=some x):((s.data.toList.getD i.toNat 0).toNat:Int)=x:=by
 unfold sf at h
 split at h
 ·exact oi h
 ·cases h
def aac (s:ByteArray):Option Unit:=if s.size<4611686018427387904 then some () else none
theorem aqs {s:ByteArray}{u:Unit} (h:aac s=some u):s.size<4611686018427387904:=by
 unfold aac at h
 split at h
 ·assumption
 ·cases h
theorem aiS (l:List Int):(⟨(l.map fun n=>UInt8.ofNat n.toNat).toArray⟩:ByteArray)=strOf l:=rfl
def amz (x:Int):List AV:=[.int .u64 x]
theorem ba0:(⟨#[]⟩:ByteArray)=ByteArray.empty:=rfl
def mq {α:Type} (l:List α) (i n:Nat) (x:List α):List α:=l.take i++(x.take n++l.drop (i+min x.length n))
theorem al0 {α β:Type} (E:α->β) (l:List α) (i n:Nat) (x:List α):(l.map E).take i++((x.map E).take n++(l.map E).drop (i+min (x.map E).length n))=(mq l i n x).map E:=by
 unfold mq;simp[List.map_take,List.map_drop]
theorem af2 {α:Type}{l:List α}{i n:Nat} (x:List α) (h:i+n<=l.length):(mq l i n x).length=l.length:=by
 unfold mq;simp;omega
def lg (y:Int):Option Unit:=if y<0 then none else some ()
theorem aaa {y:Int}{u:Unit} (h:lg y=some u):(y<0)=False:=by
 unfold lg at h
 split at h
 ·cases h
 ·rename_i h1;exact eq_false h1
theorem aoM:min (Int.toNat 1) 64=1:=rfl
theorem aoQ:min (Int.toNat 8) 64=8:=rfl
theorem aoN:min (Int.toNat 16) 64=16:=rfl
theorem aoO:min (Int.toNat 24) 64=24:=rfl
theorem aoP:min (Int.toNat 32) 64=32:=rfl
attribute [go_sem] aoM aoQ aoN aoO aoP amz ba0 uE xC u0 adP aev Bq BL List.append_nil
end Go.Abs
namespace Go.Abs
open Go Go.RowKit
section
variable {P:Program}{T:AM}{N0:Nat}{W0:World}{fm:FM}{ts:List Ai}{H:Heap}{w:World}
def DN (P:Program) (f:FuncId) (args:List AV) (X:Av) (R:AV->Av->Av->Prop):Prop:=
 ∀ (f1:Av) (H:Heap),Cx P f args ((X++f1)::H) (fun y fr H'=>∃ X',R y fr X'/\H'=(X'++f1)::H)
theorem DN.gu (hT : AQ P T) {f : FuncId} {fn : Func} {c : Code} {sc : SC} {args : List AV} {X : Av} {R : AV → Av → Av → Prop} (hf : P.funcs[f]? = some fn) (hb : fn.body = some c) (jj : (fn.name == "runtime.NumGoroutine") = false)
  (he:sc.bare=erase fn.ntmps c) (eO:(erase fn.ntmps c).fits fn.ntmps=true) (fk:args.length<=fn.ntmps)
  (h:∀ f1 H,AK P fn.ntmps (Ends T fn.results.toList fun y fr H'=>∃ X',R y fr X'/\H'=(X'++f1)::H) [.sc sc] (St.enter args ((X++f1)::H) fn.ntmps)):DN P f args X R:=
 fun f1 H=>Cx.gu hT hf hb jj he eO fk (h f1 H) (by rintro y fr H' ⟨X',_,rfl⟩;rfl)
theorem GB {n:Nat}{rs:List ResultVar}{f1:Av}{st:St}{e:Exit}{y0:AV}{X0:Av} (he:e=.ret\/e=.normal) (h1:((gN T st rs).bind fun xs=>(bZ xs).aQ [])=some y0) (h2:st.low=(X0++f1)::H):
  AJ P n (Ends T rs fun y fr H'=>∃ X',(y=y0/\fr=[]/\X'=X0)/\H'=(X'++f1)::H) (.fin e st):=by
 obtain⟨xs,h3,h4⟩:=Option.bind_eq_some_iff.1 h1
 have:∃ xs,gN T st rs=some xs/\D4 (fun y fr H'=>∃ X',(y=y0/\fr=[]/\X'=X0)/\H'=(X'++f1)::H) (bZ xs) st:=
  ⟨xs,h3,.own [] y0 [] (by simp) (by simp) h4 rfl ⟨X0,⟨rfl,rfl,rfl⟩,h2⟩⟩
 rcases he with rfl|rfl<;>exact this
theorem ap2 {xs ys:List AV}{vs:List Value}{ks:List Nat}{t:Ai}{rest:List Ai} (h:Au fm (t::rest) xs vs) (e:AV.dK ks xs=some ys):Au fm (eY ks t::rest) ys vs:=by
 have g:=ug ks _ _ e
 refine⟨by rw[g.1];exact h.1,fun i y v hy hv=>?_⟩
 have ae:i<xs.length:=by rw[<-g.1];exact(gS.1 hy).1
 obtain⟨y',jJ,hu⟩:=g.2 i _ (gG ae)
 rw[hy]at jJ;obtain rfl:=oi jJ
 exact(h.2 i _ v (gG ae) hv).aQ rfl hu
theorem aqh {xs:List AV}{vs:List Value}{t:Ai} (h:Au fm ts xs vs):Au fm (t::ts) (AV.dg 1 xs) vs:=by
 refine⟨by rw[mT];exact h.1,?_⟩
 intro i x v hx hv
 rw[mR,mS]at hx
 obtain⟨y,hy,rfl⟩:=hx
 exact(h.2 i y v hy hv).sh 1 (by simp)
def abz (ks:List Nat) (args:List AV):Option (List AV):=
 match AV.gb 1 args with
 |some xs=>match AV.dK ks xs with
  |some ys=>some (AV.dg 1 ys)
  |none=>none
 |none=>none
section
variable [Md] {n:Nat}{Φ:Exit->St->Prop}{f:FuncId}{args:List AV}{dst:Option Tmp}{drop:List Nat}{todo:List It}{st:St}
theorem CI.norm {fZ:St}{gU:List AV}{nw ks:List Nat}{nx:Nat} (e:st.norm nw ks nx=some fZ) (bW:ks.Nodup) (kd:ks.length<=nx) (ea:abz ks args=some gU):CI n st args fZ gU:=by
 intro N0 W0 a w fm ts vs h hv
 unfold St.norm at e
 split at e
 ·rename_i tm fr eG pM
  obtain rfl:=oi e
  cases ts with
  |nil=>have:=h.hr.len;simp at this
  |cons t rest=>
   refine⟨fm,eY ks t::rest,⟨h.hr.aQ pM bW,?_,?_,h.size,h.dZ⟩,⟨AN.refl _ _,As.refl _,fun _ _ h=>h⟩,?_⟩
   ·intro i y hy
    obtain⟨x,h1,h2⟩:=aew ks st.tm nw tm eG i y hy
    obtain⟨v,h3,h4⟩:=h.tm i x h1
    exact⟨v,h3,h4.aQ rfl h2⟩
   ·intro k hk
    have eT:nx<=k:=hk
    simp only[tb,eY]
    rw[CK (by omega)];rfl
   ·unfold abz at ea
    split at ea
    ·rename_i xs fX
     split at ea
     ·rename_i ys lQ
      obtain rfl:=oi ea
      have h1:=ai2 fX hv
      exact aqh (ap2 (by simpa using h1) lQ)
     ·cases ea
    ·cases ea
 ·cases e
theorem CI.trans {a b c:St}{xs ys zs:List AV} (h:CI n a xs b ys) (k:CI n b ys c zs):CI n a xs c zs:=by
 intro N0 W0 x w fm ts vs hS hv
 obtain⟨dU,dN,h1,h2,h3⟩:=h N0 W0 x w fm ts vs hS hv
 obtain⟨dV,du,h4,h5,h6⟩:=k N0 W0 x w dU dN vs h1 h3
 exact⟨dV,du,h4,h2.trans h5,h6⟩
theorem HY {fZ:St}{gU:List AV} (hm:CI n st args fZ gU) (h:AJ P n Φ (.call f gU dst drop todo fZ)):AJ P n Φ (.call f args dst drop todo st):=by
 obtain⟨uj,ak6,R,Rp,h1,h2,h3,h4⟩:=h
 exact⟨uj,ak6,R,Rp,hm.trans h1,h2,h3,h4⟩
def nOK (P:Program) (n:Nat) (Φ:Exit->St->Prop) (f:FuncId) (dst:Option Tmp) (drop:List Nat) (todo:List It):Option St->Option (List AV)->Prop
 |some fZ,some gU=>AJ P n Φ (.call f gU dst drop todo fZ)
 |_,_=>False
theorem aoR {fZ:St}{gU:List AV}:nOK P n Φ f dst drop todo (some fZ) (some gU)=AJ P n Φ (.call f gU dst drop todo fZ):=rfl
theorem El (nw ks:List Nat) (nx:Nat) (bW:(decide ks.Nodup&&decide (ks.length<=nx))=true) (h:nOK P n Φ f dst drop todo (st.norm nw ks nx) (abz ks args)):AJ P n Φ (.call f args dst drop todo st):=by
 unfold nOK at h
 split at h
 ·rename_i fZ gU h1 h2
  simp only[A7,decide_eq_true_eq]at bW
  exact HY (CI.norm h1 bW.1 bW.2 h2) h
 ·exact h.elim
theorem Ek {dF:List AV}{X0 X1:Av}{y0:AV}{fr0:Av} (hp:DN P f dF X0 (fun y fr X'=>y=y0/\fr=fr0/\X'=X1)) (ha:args=dF/\st.fr.take X0.length=X0)
  (h:AK P n Φ todo (st.gA dst drop y0 fr0 ((X1++st.fr.drop X0.length)::st.low))):AJ P n Φ (.call f args dst drop todo st):=by
 obtain⟨rfl,hx⟩:=ha
 have h1:=hp (st.fr.drop X0.length) st.low
 have e:X0++st.fr.drop X0.length=st.fr:=by
  have:=CZ X0.length st.fr
  rw[hx]at this;exact this
 rw[e]at h1
 refine DW h1 ?_
 rintro v fr H ⟨X',⟨rfl,rfl,rfl⟩,rfl⟩
 exact h
theorem HW (hT:AQ P T) {ay:List AV}{y0:AV}{fr0:Av} (m:Nat) (hp:A6 P f ay [] (fun y fr=>y=y0/\fr=fr0)) (hz:AV.cY (Heap.get ([]::st.fr::st.low)) (Abs.cT (Heap.get ([]::st.fr::st.low)) 5) args=some ay) (hy:y0.mM=true) (hf:rN fr0)
  (h:AJ P n Φ (run T m todo (st.gA dst drop y0 fr0 (st.fr::st.low)))):AJ P n Φ (.call f args dst drop todo st):=by
 refine DW (A6.mL 5 hp hz hy hf) ?_
 rintro y fr H' ⟨rfl,rfl,rfl⟩
 exact gO hT m _ _ h
end
def aP {α:Type} (z:Nat) (E:α->List AV):Option α->AV
 |none=>.bG
 |some x=>.aA z [E x] 0 0
section
variable {α:Type}{z:Nat}{E:α->List AV} (x:Option α)
theorem akR (y:α):aP z E (some y)=.aA z [E y] 0 0:=rfl
theorem akN:aP z E none=.bG:=rfl
theorem akQ (d:Nat):(aP z E x).sh d=aP z E x:=by cases x<;>rfl
theorem akL (G:AR):(aP z E x).ai G=some (aP z E x):=by cases x<;>rfl
theorem akJ (G:AR) (F:Nat->Nat->Option (List AV)):(aP z E x).br G F=some (aP z E x):=by cases x<;>rfl
theorem akO:(aP z E x).refs=[]:=by cases x<;>rfl
theorem akM (k:Nat):(aP z E x).imp k=aP z E x:=by cases x<;>rfl
theorem akP (ks:List Nat):(aP z E x).aQ ks=some (aP z E x):=by cases x<;>rfl
theorem akS (d:Nat):(aP z E x).un d=some (aP z E x):=by cases x<;>rfl
theorem akK:(aP z E x).flat=true:=by cases x<;>rfl
end
attribute [go_sem] adQ aeJ akR akN akQ akL akJ akO akM akP akS akK aoR abz St.norm uh kZ AV.aQ AV.dK AG.aQ qx idx rN AG.lo AV.lo AV.mM
def Aa.nz (n:Nat) {α:Type} (l:List α):Option (Aa n α):=if h:n<=l.length then some ⟨l.take n,by simp;omega⟩ else none
theorem ab9 {n:Nat}{α:Type}{l:List α}{v:Aa n α} (h:Aa.nz n l=some v):n<=l.length:=by
 unfold Aa.nz at h
 split at h
 ·assumption
 ·cases h
theorem aqV {n:Nat}{α:Type}{l:List α}{v:Aa n α} (h:Aa.nz n l=some v):v.l=l.take n:=by
 unfold Aa.nz at h
 split at h
 ·obtain rfl:=oi h;rfl
 ·cases h
theorem ajn {n:Nat}{α:Type}{E:α->List AV}{l:List α}{v:Aa n α} (h:Aa.nz n l=some v):(List.take n (List.map E l)).flatten=v.c E:=by
 unfold Aa.c
 rw[aqV h,List.map_take]
theorem ajo {n:Nat}{α:Type}{E:α->List AV}{l:List α}{v:Aa (n+1) α} (h:Aa.nz (n+1) l=some v):(List.map E l)[0]?=some (E (l[0]'(by have:=ab9 h;omega))):=by
 rw[Bw,gG (by have:=ab9 h;omega)]
 rfl
theorem ahA {n:Nat} (v:Aa n Int) (o m:Nat):List.map (fun c=>[c]) (List.take m (List.drop o (v.c af)))=List.map af (List.take m (List.drop o v.l)):=by
 rw[aaj,<-List.map_drop,<-List.map_take,List.map_map]
 rfl
theorem ahB {n:Nat} (v:Aa n Int) (m:Nat):List.map (fun c=>[c]) (List.take m (v.c af))=List.map af (List.take m v.l):=by
 rw[aaj,<-List.map_take,List.map_map]
 rfl
def lW {α:Type} (n:Int) (b:Nat) (z:α):Option (List α):=(mk? n b).map fun _=>List.replicate n.toNat z
theorem ad5 {α:Type}{n:Int}{b:Nat}{z:α}{l:List α} (h:lW n b z=some l):∃ u,mk? n b=some u:=by
 unfold lW at h
 obtain⟨u,hu,_⟩:=mS.1 h
 exact⟨u,hu⟩
theorem ad2 {α:Type}{n:Int}{b:Nat}{z:α}{l:List α} (h:lW n b z=some l):l=List.replicate n.toNat z:=by
 unfold lW at h
 obtain⟨u,_,hl⟩:=mS.1 h
 exact hl.symm
theorem ad4 {α β:Type} (E:α->β) {n:Int}{b:Nat}{z:α}{l:List α} (h:lW n b z=some l):List.replicate n.toNat (E z)=List.map E l:=by
 rw[ad2 h,List.map_replicate]
theorem ad3 {α:Type}{n:Int}{b:Nat}{z:α}{l:List α} (h:lW n b z=some l):l.length=n.toNat:=by
 rw[ad2 h];simp
theorem ad6 {α β:Type} (E:α->β) {n:Int}{b:Nat}{z:α}{l:List α} (h:lW n b z=some l):List.take n.toNat (List.map E l)=List.map E l:=by
 rw[ad2 h];simp
def Lf {α:Type} (E:α->List AV):Prop:=∀ x,∀ y∈E x,y.leaf=true
theorem ar0:Lf eI:=fun x y h=>by simp only[eI,CL]at h;subst h;rfl
theorem ahJ:Lf af:=fun x y h=>by simp only[af,CL]at h;subst h;rfl
theorem Lf.vec {n:Nat}{α:Type}{E:α->List AV} (h:Lf E):Lf (Aa.c (n:=n) E):=by
 intro v y hy
 unfold Aa.c at hy
 rw[List.mem_flatten]at hy
 obtain⟨l,hl,hy⟩:=hy
 obtain⟨x,_,rfl⟩:=List.mem_map.1 hl
 exact h x y hy
theorem Lf.map {α:Type}{E:α->List AV} (h:Lf E) (l:List α):(∀ c∈List.map E l,∀ x∈c,x.leaf=true):=by
 intro c hc x hx
 obtain⟨y,_,rfl⟩:=List.mem_map.1 hc
 exact h y x hx
end
section
variable {P:Program}{T:AM}{N0:Nat}{W0:World}{fm:FM}{ts:List Ai}{H:Heap}{w:World}
def GI (T:AM) (rs:List ResultVar) (R:AV->Av->Heap->Prop) (Rp:List PanicEntry->Heap->Prop) (e:Exit) (st:St):Prop:=
 match e with
 |.normal|.ret=>∃ xs y,gN T st rs=some xs/\(bZ xs).aQ []=some y/\R y [] st.low
 |.panic ch=>Rp ch st.low
 |_=>False
theorem Dh.gu (hT : AQ P T) {f : FuncId} {fn : Func} {c : Code} {sc : SC} {args : List AV} {H : Heap} {R : AV → Av → Heap → Prop} {Rp : List PanicEntry → Heap → Prop} (hf : P.funcs[f]? = some fn) (hb : fn.body = some c) (jj : (fn.name == "runtime.NumGoroutine") = false)
  (he:sc.bare=erase fn.ntmps c) (eO:(erase fn.ntmps c).fits fn.ntmps=true) (fk:args.length<=fn.ntmps)
  (h:AK P fn.ntmps (GI T fn.results.toList R Rp) [.sc sc] (St.enter args H fn.ntmps)) (jG:∀ y fr H',R y fr H'->H'.length=H.length) (anB:∀ ch H',Rp ch H'->H'.length=H.length):Dh P f args H R Rp:=by
 refine⟨⟨fn,hf,jj,by simp[hb]⟩,?_⟩
 intro N0 W0 fm ts w vs hH hv
 refine calls_of_wp hf hb ((xe []).1 ?_)
 have hS:=SR.enter hH hv fk
 have:=h N0 W0 fm (cM::ts) _ w [.code c] (bodyPost P fn fun e w'=>(∃ v av aU H' fm' t' ts',e=.returned v/\R av aU H'/\H'.length=H.length/\HR N0 W0 fm' (t'::ts') (aU::H') w'/\VR fm' (t'::ts') av v/\AN N0 fm fm'/\As ts ts'/\
   (∀ l k,tb ts l k=none->tb ts' l k=none)/\∀ k,16<=k->t' k=none)\/
   ∃ ch H' fm' ts',e=.panicked ch/\Rp ch H'/\H'.length=H.length/\HR N0 W0 fm' ts' H' w'/\AN N0 fm fm'/\As ts ts'/\∀ l k,tb ts l k=none->tb ts' l k=none) hS (.sc he eO .nil) ?_
 ·exact this
 ·intro e ao a' w' fm' ts' hE cK hL
  cases ts' with
  |nil=>have:=cK.hr.len;simp at this
  |cons t rest=>
   have ik:As ts rest:=by simpa using hL.jS
   have bx:∀ l k,tb ts l k=none->tb rest l k=none:=by simpa using hL.no
   cases e with
   |normal=>
    obtain⟨xs,y,fX,hy,hR⟩:=hE
    obtain⟨v,h1,h2⟩:=rZ (P:=P) hT cK fX
    exact⟨cK.dZ.1,v,h1,.inl ⟨v,y,[],ao.low,fm',eY [] t,rest,rfl,hR,jG _ _ _ hR,cK.hr.aQ rfl (by simp),h2.aQ rfl hy,hL.cU,ik,bx,fun k eT=>rfl⟩⟩
   |ret=>
    obtain⟨xs,y,fX,hy,hR⟩:=hE
    obtain⟨v,h1,h2⟩:=rZ (P:=P) hT cK fX
    exact⟨cK.dZ.1,v,h1,.inl ⟨v,y,[],ao.low,fm',eY [] t,rest,rfl,hR,jG _ _ _ hR,cK.hr.aQ rfl (by simp),h2.aQ rfl hy,hL.cU,ik,bx,fun k eT=>rfl⟩⟩
   |panic ch=>exact⟨cK.dZ.1,.inr ⟨ch,ao.low,fm',rest,rfl,hE,anB _ _ hE,cK.hr.pop,hL.cU,ik,bx⟩⟩
   |_=>exact hE.elim
section
variable [Md] {n:Nat}{Φ:Exit->St->Prop}{f:FuncId}{args:List AV}{dst:Option Tmp}{drop:List Nat}{todo:List It}{st:St}
theorem C6 {R:AV->Av->Heap->Prop}{Rp:List PanicEntry->Heap->Prop} (hp:Dh P f args (st.fr::st.low) R Rp) (h:∀ y fr H,R y fr H->AK P n Φ todo (st.gA dst drop y fr H)) (h2:∀ ch H,Rp ch H->Φ (.panic ch) (st.uy H)):
  AJ P n Φ (.call f args dst drop todo st):=⟨_,_,R,Rp,CI.refl _ _ _,hp,h,h2⟩
theorem H0 {t:TypeId}{x:AV} (h:∀ fm ts u,VR fm ts x u->Φ (.panic [{ v:=.iface t u,recovered:=false }]) st):AJ P n Φ (.throw (.bR t x) st):=⟨t,x,rfl,h⟩
theorem Gz {rs:List ResultVar}{R:AV->Av->Heap->Prop}{Rp:List PanicEntry->Heap->Prop}{e:Exit}{y0:AV} (he:e=.ret\/e=.normal) (h1:((gN T st rs).bind fun xs=>(bZ xs).aQ [])=some y0) (h2:R y0 [] st.low):AJ P n (GI T rs R Rp) (.fin e st):=by
 obtain⟨xs,h3,h4⟩:=Option.bind_eq_some_iff.1 h1
 rcases he with rfl|rfl<;>exact⟨xs,y0,h3,h4,h2⟩
end
end
theorem aiz (ks:List Nat) (b:List AV):∀ a:List AV,AV.dK ks (a++b)=(AV.dK ks a).bind fun x=>(AV.dK ks b).map (x++·)
 |[]=>by cases h:AV.dK ks b<;>simp[AV.dK,h]
 |u::a=>by
  simp only[Bq,AV.dK,aiz ks b a]
  cases u.aQ ks<;>cases AV.dK ks a<;>cases AV.dK ks b<;>rfl
theorem ap3 {a:List AV} (h:Co a) (ks:List Nat) (b:List AV):AV.dK ks (a++b)=(AV.dK ks b).map (a++·):=by
 rw[aiz,h.aQ];rfl
def vg:Av->Nat->AG->Av
 |[],_,_=>[]
 |(j,x)::l,k,b=>if j=k then (j,b)::l else (j,x)::vg l k b
theorem ah0 {k:Nat}{b b':AG} (hb:Cd b b'):∀ {fr:Av},look fr k=some b->BX fr (vg fr k b')
 |[],h=>by simp[look]at h
 |(j,x)::l,h=>by
  simp only[look]at h
  by_cases hj:j=k
  ·rw[if_pos hj]at h
   obtain rfl:=oi h
   simp only[vg,if_pos hj]
   exact .cons _ _ _ _ _ hb (.refl l)
  ·rw[if_neg hj]at h
   simp only[vg,if_neg hj]
   exact .cons _ _ _ _ _ (.refl x) (ah0 hb h)
theorem AK.ahZ {P:Program}{n:Nat}{Φ:Exit->St->Prop}{todo:List It}{tm:List (Nat×AV)}{fr:Av}{low:Heap}{nx nt:Nat} (k o e:Nat) {cs:List AV} (hk:look fr k=some (.box cs)) (ho:cs[o]?=some .nil)
  (h:AK P n Φ todo ⟨tm,vg fr k (.box (cs.set o (.sl e []))),low,nx,nt⟩):AK P n Φ todo ⟨tm,fr,low,nx,nt⟩:=by
 refine AK.sv (Ah.nl (.refl tm) (ah0 (.box _ _ ⟨by simp,?_⟩) hk)) h
 intro i x y hx hy
 rw[List.getElem?_set]at hy
 split at hy
 ·rename_i hi
  subst hi
  rw[ho]at hx
  obtain rfl:=oi hx
  split at hy
  ·obtain rfl:=oi hy;exact .nil e
  ·cases hy
 ·rw[hx]at hy;obtain rfl:=oi hy;exact .refl x
attribute [go_sem] vg
theorem agU (G:AR) (b:List AV):∀ a:List AV,AV.aF G (a++b)=(AV.aF G a).bind fun x=>(AV.aF G b).map (x++·)
 |[]=>by cases h:AV.aF G b<;>simp[AV.aF,h]
 |u::a=>by
  simp only[Bq,AV.aF,agU G b a]
  cases u.ai G<;>cases AV.aF G a<;>cases AV.aF G b<;>rfl
theorem amP {a:List AV} (h:Co a) (G:AR) (b:List AV):AV.aF G (a++b)=(AV.aF G b).map (a++·):=by
 rw[agU,h.ai];rfl
theorem adi (k:Nat) (x:AG) (b:List AV):∀ a:List AV,AV.dA k x (a++b)=(AV.dA k x a).bind fun y=>(AV.dA k x b).map (y++·)
 |[]=>by cases h:AV.dA k x b<;>simp[AV.dA,h]
 |u::a=>by
  simp only[Bq,AV.dA,adi k x b a]
  cases u.fz k x<;>cases AV.dA k x a<;>cases AV.dA k x b<;>rfl
theorem amR {a:List AV}{k:Nat}{x:AG} (h:AV.dA k x a=some a) (b:List AV):AV.dA k x (a++b)=(AV.dA k x b).map (a++·):=by
 rw[adi,h];rfl
theorem xS {α:Type}{n:Nat}{E:α->List AV}{k:Nat}{x:AG} (h:∀ y,AV.dA k x (E y)=some (E y)) (v:Aa n α):AV.dA k x (Aa.c E v)=some (Aa.c E v):=by
 have key:∀ l:List α,AV.dA k x (l.map E).flatten=some (l.map E).flatten:=by
  intro l
  induction l with
  |nil=>rfl
  |cons y l ih=>simp only[List.map_cons,Ct,adi,ih,h,Af,A5]
 exact key v.l
theorem A1.append {a b c d:List AV} (h:A1 a b) (k:A1 c d):A1 (a++c) (b++d):=by
 refine⟨by simp[h.1,k.1],?_⟩
 intro i x y hx hy
 by_cases hi:i<a.length
 ·rw[Cs hi]at hx
  rw[Cs (by rw[<-h.1];exact hi)]at hy
  exact h.2 i x y hx hy
 ·rw[CE (by omega)]at hx
  rw[CE (by rw[<-h.1];omega)]at hy
  rw[<-h.1]at hy
  exact k.2 _ x y hx hy
section
variable [Md] {P:Program}{T:AM}{N0:Nat}{W0:World}{n:Nat}{fm:FM}{ts:List Ai}{st:St}{a:Act}{w:World}{Q:Exit->Act->World->Prop}
theorem AK.seg {Φ:Exit->St->Prop}{B:St->Prop}{c:Code}{s:SC}{t:List BE} (hs:SR N0 W0 n st a w fm ts) (h:AK P n Φ [.sc s,.back B] st) (he:s.bare=erase n c) (hf:(erase n c).fits n=true)
  (hB:∀ ao a' w' fm' ts',B ao->SR N0 W0 n ao a' w' fm' ts'->Be N0 fm ts fm' ts'->K P Q t .normal a' w')
  (jm:∀ e ao a' w' fm' ts',Φ e ao->SR N0 W0 n ao a' w' fm' ts'->Be N0 fm ts fm' ts'->K P Q t e a' w'):K P Q (.code c::t) .normal a w:=by
 have h1:=h N0 W0 fm ts a w [.code c,.back (fun a' w'=>K P Q t .normal a' w')] (fun e a' w'=>K P Q t e a' w') hs
  (.sc he hf (.back (fun ao a' w' fm' ts' hb tO hl=>hB ao a' w' fm' ts' hb tO hl) .nil)) jm
 rw[ER]at h1 ⊢
 refine wpIn_mono h1 ?_
 intro e a' w' hk
 cases e<;>exact hk
theorem Fl {arr:Array Oper}{i:Nat}{is:List Nat}{o:Oper}{t:List BE} (ho:arr[i]?=some o) (hg:o.guard=none) (h:o.wpIn FW 0 P a w (fun a' w'=>K P Q (.ops arr is::t) .normal a' w') (K P Q t)):K P Q (.ops arr (i::is)::t) .normal a w:=by
 unfold K
 simp only[wpOpsIn,ho]
 rw[if_pos (by simp[Region.wanted,hg])]
 exact h
theorem Ij {arr:Array Oper}{t:List BE} (h:K P Q t .normal a w):K P Q (.ops arr []::t) .normal a w:=by
 unfold K;simp only[wpOpsIn];exact h
theorem AK.last {Φ:Exit->St->Prop}{c:Code}{s:SC} (hs:SR N0 W0 n st a w fm ts) (h:AK P n Φ [.sc s] st) (he:s.bare=erase n c) (hf:(erase n c).fits n=true)
  (jm:∀ e ao a' w' fm' ts',Φ e ao->SR N0 W0 n ao a' w' fm' ts'->Be N0 fm ts fm' ts'->Q e a' w'):K P Q [.code c] .normal a w:=
 h N0 W0 fm ts a w [.code c] Q hs (.sc he hf .nil) jm
end
theorem FB (m m':Md) (h:m.z7=m'.z7) {P:Program}{Q:Exit->Act->World->Prop}:∀ t:List BE,@K m P Q t=@K m' P Q t
 |[]=>by funext e a w;simp only[K]
 |it::t=>by
  have hF:@FW m=@FW m':=by unfold FW;rw[h]
  have ih:=FB m m' h (P:=P) (Q:=Q) t
  funext e a w
  cases it<;>simp only[K,ih,hF]
theorem SR.deep [Md] {N0:Nat}{W0:World}{n:Nat}{tm tm':List (Nat×AV)}{fr:Av}{low:Heap}{nx nt:Nat}{a:Act}{w:World}{fm:FM}{ts:List Ai} (h:SR N0 W0 n ⟨tm,fr,low,nx,nt⟩ a w fm ts) (ht:∀ t x,look tm' t=some x->∃ y,look tm t=some y/\x=y.sh 1):
  SR N0 W0 n ⟨tm',[],fr::low,0,nt⟩ a w fm (cM::ts):=
 ⟨h.hr.push,fun t x hx=>by
  obtain⟨y,hy,rfl⟩:=ht t x hx
  obtain⟨v,h1,h2⟩:=h.tm t y hy
  exact⟨v,h1,h2.sh 1 (by simp)⟩,fun _ _=>rfl,h.size,h.dZ⟩
theorem SR.uZ (m m':Md) {N0:Nat}{W0:World}{n:Nat}{st:St}{a:Act}{w:World}{fm:FM}{ts:List Ai} (h:@SR m N0 W0 n st a w fm ts) {a':Act} (ht:a'.tmps=a.tmps) (hd:a'.defers=m'.uZ) (hm:@Dx m' W0:=by exact fun _ _ h=>by cases h):@SR m' N0 W0 n st a' w fm ts:=by
 obtain⟨h1,h2,h3,h4,h5⟩:=h
 refine @SR.mk m' _ _ _ _ _ _ _ _ h1 (fun t x hx=>?_) h3 (by rw[ht];exact h4) ⟨hd,hm⟩
 obtain⟨v,h6,h7⟩:=h2 t x hx
 exact⟨v,by rw[ht];exact h6,h7⟩
theorem apf [Md] {P:Program}{o:Oper}{a:Act}{w w':World}{next:Act->World->Prop}{Q:Exit->Act->World->Prop}{d:Deferred} (hr:(execOp a.eval o).run P w=.ok (.defer d) w') (hm:Md.z7=none) (h:next ({ a with defers:=d::a.defers }.put o.dst undef) w'):o.wpIn FW 0 P a w next Q:=by
 refine⟨fun _ _=>trivial,?_⟩
 show Oper.uponIn FW 0 P o a next Q (Sem.run P (Oper.semAt Md.z7 a.eval o) w)
 rw[hm,Oper.semAt_none,hr]
 exact h
section
variable [Md] {P:Program}{T:AM}{N0:Nat}{W0:World}{n:Nat}{fm:FM}{ts:List Ai}{st:St}{a:Act}{w:World}{Q:Exit->Act->World->Prop}
theorem D5:∀ (s t:List BE) (e:Exit) (a:Act) (w:World),K P Q (s++t) e a w=K P (fun e a w=>K P Q t e a w) s e a w
 |[],t,e,a,w=>rfl
 |.code c::s,t,e,a,w=>by
  have ih:K P Q (s++t)=K P (fun e a w=>K P Q t e a w) s:=by funext e a w;exact D5 s t e a w
  cases e<;>simp only[Bq,K,ih]
 |.al id::s,t,e,a,w=>by
  have ih:K P Q (s++t)=K P (fun e a w=>K P Q t e a w) s:=by funext e a w;exact D5 s t e a w
  cases e<;>simp only[Bq,K,ih]
 |.gQ::s,t,e,a,w=>by
  have ih:K P Q (s++t)=K P (fun e a w=>K P Q t e a w) s:=by funext e a w;exact D5 s t e a w
  cases e<;>simp only[Bq,K,ih]
 |.ops arr l::s,t,e,a,w=>by
  have ih:K P Q (s++t)=K P (fun e a w=>K P Q t e a w) s:=by funext e a w;exact D5 s t e a w
  cases e<;>simp only[Bq,K,ih]
 |.back R::s,t,e,a,w=>by
  have ih:K P Q (s++t)=K P (fun e a w=>K P Q t e a w) s:=by funext e a w;exact D5 s t e a w
  cases e<;>simp only[Bq,K,ih]
theorem aid {arr:Array Oper}{t:List BE}:∀ is js:List Nat,wpOpsIn FW 0 P arr (K P Q (.ops arr js::t)) is=wpOpsIn FW 0 P arr (K P Q t) (is++js)
 |[],js=>by funext a w;rfl
 |i::is,js=>by
  have ih:=aid (arr:=arr) (t:=t) is js
  funext a w
  simp only[Bq,wpOpsIn]
  cases arr[i]? with
  |none=>simp only[ih]
  |some o=>
   simp only[ih]
   rfl
theorem Ii {arr:Array Oper}{t:List BE}{is js:List Nat} (h:K P Q (.ops arr is::.ops arr js::t) .normal a w):K P Q (.ops arr (is++js)::t) .normal a w:=by
 have e:=aid (P:=P) (Q:=Q) (arr:=arr) (t:=t) is js
 show wpOpsIn FW 0 P arr (K P Q t) (is++js) a w
 rw[<-e]
 exact h
theorem CH {c:Code}{t t':List BE} (h:∀ e a w,K P Q t e a w->K P Q t' e a w):∀ e a w,K P Q (.code c::t) e a w->K P Q (.code c::t') e a w:=by
 intro e a w hk
 cases e<;>first|exact h _ _ _ hk|exact wpIn_mono hk (fun e a w=>h e a w)
theorem Cz {x y:Code}{t:List BE}:∀ e a w,K P Q (.code x::.code y::t) e a w->K P Q (.code (.seq x y)::t) e a w:=by
 intro e a w hk
 cases e<;>first|exact hk|exact CY hk
theorem Il {id:Nat}{ops:Array Oper}{t:List BE}:∀ e a w,K P Q (.ops ops (List.range ops.size)::t) e a w->K P Q (.code (.region id ops false)::t) e a w:=by
 intro e a w hk
 cases e<;>first|exact hk|exact FC hk
theorem Ik {arr:Array Oper}{is js:List Nat}{t:List BE}:∀ e a w,K P Q (.ops arr is::.ops arr js::t) e a w->K P Q (.ops arr (is++js)::t) e a w:=by
 intro e a w hk
 cases e<;>first|exact hk|exact Ii hk
theorem aph {o:Oper}{w':World}{next:Act->World->Prop}{l fn:Nat}{tmps:Array Value}{assign body:Code} (hd:∀ c,o.op≠.defer c) (hr:(execOp a.eval o).run P w=.ok (.round l fn tmps assign body) w')
  (h:RoundIn FW 0 P l fn tmps assign body w' fun
   |.returned v,uw=>next (a.put o.dst v) uw
   |.panicked chain,uw=>Q (.panic chain) a uw
   |.outgrown,_=>LetsOut Q):o.wpIn FW 0 P a w next Q:=by
 refine⟨fun _ _=>trivial,?_⟩
 rw[Oper.semAt_eq _ _ _ hd,hr]
 exact⟨fun h=>by simp[FW]at h,h⟩
theorem AK.nE {Φ:Exit->St->Prop}{B:St->Prop}{todo:List It}{cs t:List BE} (hs:SR N0 W0 n st a w fm ts) (h:AK P n Φ (todo++[.back B]) st)
  (fU:∀ R:Act->World->Prop,(∀ ao a' w' fm' ts',B ao->SR N0 W0 n ao a' w' fm' ts'->Be N0 fm ts fm' ts'->R a' w')->Bo N0 W0 n fm ts (todo++[.back B]) (cs++[.back R]))
  (hB:∀ ao a' w' fm' ts',B ao->SR N0 W0 n ao a' w' fm' ts'->Be N0 fm ts fm' ts'->K P Q t .normal a' w')
  (jm:∀ e ao a' w' fm' ts',Φ e ao->SR N0 W0 n ao a' w' fm' ts'->Be N0 fm ts fm' ts'->K P Q t e a' w'):K P Q (cs++t) .normal a w:=by
 have h1:=h N0 W0 fm ts a w (cs++[.back (fun a' w'=>K P Q t .normal a' w')]) (fun e a' w'=>K P Q t e a' w') hs (fU _ hB) jm
 rw[D5]at h1 ⊢
 have e:(fun e a w=>K P (fun e a' w'=>K P Q t e a' w') [.back (fun a' w'=>K P Q t .normal a' w')] e a w)=fun e a w=>K P Q t e a w:=by
  funext e a w
  cases e<;>rfl
 rw[e]at h1
 exact h1
end
section
variable {N0:Nat}{W0 W1:World}{fm:FM}{ts:List Ai}{H:Heap}{w w':World}
theorem HR.apY (h:HR N0 W0 fm ts H w):HR N0 w fm ts H w:={ h with dh:=Below.refl N0 w,cV:=fun _ _ a _=>a }
theorem HR.other (h:HR N0 W0 fm ts H w) {l:Nat}{o o':Obj} (hl:w.heap[l]?=some o) (ho:zN o=true) (hN:N0<=l):HR N0 (w.putObj l o') fm ts H (w.putObj l o'):=by
 have ae:=(CF.1 hl).1
 have cV:∀ i,i≠l->(w.putObj l o').heap[i]?=w.heap[i]?:=fun i hi=>World.putObj_heap_other (by omega)
 refine⟨h.len,fun l' k b hg=>(h.al l' k b hg).mono (AZ.refl _) (As.refl _) (fun c hc=>cV c ?_),h.inj,fun b q v hv=>?_,h.dk,Below.refl _ _,?_,fun _ _ a _=>a,fun b q v ng hv ht=>?_⟩
 ·rintro rfl
  have hb:=h.al l' k b hg
  generalize tb ts l' k=tt at hb hc
  cases hb with
  |box c' cs hN hb=>
   obtain⟨cells,et,h1,_⟩:=hb
   simp only[bz,oE]at hc
   subst hc
   rw[h1]at hl
   cases hl
   cases ho
  |nil et esz=>simp[bz]at hc
  |arr et esz es c' cap hN hb=>
   obtain⟨cells,h1,_⟩:=hb
   simp only[bz,oE]at hc
   subst hc
   rw[h1]at hl
   cases hl
   cases ho
 ·have h1:=h.bO _ _ _ hv
  refine(World.cell?_of_block (w:=w) (w':=w.putObj l o') (a:=⟨b,q,none⟩) (cV b ?_)).trans h1
  rintro rfl
  simp only[World.cell?,hl]at h1
  cases o<;>first|(cases ho;done)|(cases h1;done)
 ·have:=h.size
  show N0<=(w.putObj l o').heap.size
  simpa [World.putObj] using this
 ·refine(h.ec b q v ng hv ht).of (cV b ?_)
  rintro rfl
  have h1:=h.bO _ _ _ hv
  simp only[World.cell?,hl]at h1
  cases o<;>first|(cases ho;done)|(cases h1;done)
theorem HR.alloc (h:HR N0 W0 fm ts H w) (o:Obj):HR N0 W0 fm ts H (w.alloc o):=
 h.world (fun i hi=>Below.heap_alloc w o i hi) ((Below.refl N0 w).alloc h.size o)
end
theorem ac6 [Md] {P:Program}{T:AM} (hT:AQ P T) {N0:Nat}{W0:World}{fm:FM}{ts:List Ai}{st:St}{a:Act}{w:World}{n:Nat}{fn:Func}{v:AV} (hS:SR N0 W0 n st a w fm ts)
  (hE:Dy T fn.results.toList (fun y=>NL y v) .ret st):∃ u fm',(results fn a.tmps).run P w=.ok u w/\VR fm' [] v u/\(Dv fm' w/\EV N0 fm' w)/\AN N0 fm fm':=by
 obtain⟨hl,xs,y,h1,h2,h3⟩:=hE
 obtain⟨u,h4,h5⟩:=rZ (P:=P) hT hS h1
 have h6:=hS.hr.ai (bZ xs).refs h5 h2 (fun _ h=>h)
 have h7:=hS.hr.rM (bZ xs).refs
 exact⟨u,_,h4,h3.ok h6,⟨h7.bO,h7.ec⟩,hS.hr.ve _⟩
end Go.Abs
namespace Go.Abs
open Go
end Go.Abs
namespace Go.Abs
open Go Go.RowKit
section
variable [Md] {P:Program}{T:AM}{n:Nat}{Φ:Exit->St->Prop}{f:FuncId}{args:List AV}{dst:Option Tmp}{drop:List Nat}{todo:List It}
def amQ (k:Nat) (b:AG) (args:List AV):Option (List AV):=
 match AV.gb 1 args with
 |some xs=>match AV.dA k b xs with
  |some ys=>some (AV.dg 1 ys)
  |none=>none
 |none=>none
def amS (P:Program) (n:Nat) (Φ:Exit->St->Prop) (f:FuncId) (dst:Option Tmp) (drop:List Nat) (todo:List It) (st:St):Option (List AV)->Prop
 |some gU=>AJ P n Φ (.call f gU dst drop todo st)
 |none=>False
theorem amT {fZ:St}{gU:List AV}:amS P n Φ f dst drop todo fZ (some gU)=AJ P n Φ (.call f gU dst drop todo fZ):=rfl
attribute [go_sem] amT amQ
end
section
variable [Md] {P:Program}{T:AM}{n:Nat}{Φ:Exit->St->Prop}
def ahF (n:Nat) (ops:List Am) (befs:List (List Nat)) (o:Am):Bool:=
 ((List.range ops.length).all fun j=>(bA befs ops.length).contains j)&&ops.all fun s=>match s.guard with
  |some (g,_)=>g != o.dst.getD n
  |none=>true
end
theorem an {p q:Prop} (a:p) (b:q):p/\q:=⟨a,b⟩
theorem An.bH {n:Nat}{α:Type}{E:α->List AV}{z:Nat} (hE:∀ x,(E x).length=z) {cs:List AV}{o:Nat}{v:Aa n α}{g:Aa n α->List AV} (h:An cs o (Aa.c E) v g) {i:Int}{x:α} (hx:v.at? i=some x):
  An cs (o+i.toNat*z) E x (fun y=>g (v.set i y))/\o+i.toNat*z+z<=cs.length/\(cs.drop (o+i.toNat*z)).take z=E x:=
 have u:=An.at hE h hx
 ⟨u,u.bound hE,u.get hE⟩
theorem An.aeI {n:Nat}{α:Type}{E:α->List AV}{z:Nat} (hE:∀ x,(E x).length=z) {v:Aa n α}{i:Int}{x:α} (h:v.at? i=some x):
  An (v.c E) (i.toNat*z) E x (fun y=>(v.set i y).c E)/\i.toNat*z+z<=(v.c E).length/\((v.c E).drop (i.toNat*z)).take z=E x:=
 have u:=An.idx hE h
 ⟨u,u.bound hE,u.get hE⟩
theorem pu {α β:Type} (E:α->β) {b:Nat}{l y:List α}{x:α} (h:fH b l x=some y):room (l.length+1) b/\l.map E++[E x]=y.map E/\y.length=l.length+1/\(y.map E).take (l.length+1)=y.map E:=⟨apH h,apG E h,aim h,apI E h⟩
theorem gT {α β:Type} (E:α->β) {b:Nat}{l y x:List α} (h:dO b l x=some y):room (l.length+x.length) b/\l.map E++x.map E=y.map E/\y.length=l.length+x.length/\(y.map E).take (l.length+x.length)=y.map E:=⟨akX h,akW E h,afi h,akY E h⟩
@[reducible] def DX (cs:List AV) (z z1 z2 z3:Nat):Prop:=
 (∀ d,AV.dg d cs=cs)/\(∀ G,AV.aF G cs=some cs)/\(∀ G F,AV.cY G F cs=some cs)/\AV.aO cs=[]/\(∀ k,AV.iu k cs=cs)/\(∀ ks,AV.dK ks cs=some cs)/\(∀ d,AV.gb d cs=some cs)/\
 (∀ r,(cs++r).take z=cs)/\cs.take z=cs/\(∀ r,(cs++r).drop z=r)/\cs.drop z=[]/\(∀ k b r,AV.dA k b (cs++r)=(AV.dA k b r).map (cs++·))/\(∀ G r,AV.aF G (cs++r)=(AV.aF G r).map (cs++·))/\
 (∀ ks r,AV.dK ks (cs++r)=(AV.dK ks r).map (cs++·))/\(∀ r,(cs++r).length=z+r.length)/\(∀ r q,cs++r++q=cs++(r++q))/\(∀ r,(cs++r).drop z1=r.drop 1)/\(∀ r,(cs++r).take z1=cs++r.take 1)/\
 (∀ r,(cs++r).drop z2=r.drop 2)/\(∀ r,(cs++r).drop z3=r.drop 3)/\(∀ r,(cs++r)[z]?=r[0]?)/\(∀ r,(cs++r)[z1]?=r[1]?)/\(∀ r,(cs++r)[z2]?=r[2]?)/\(∀ r,(cs++r)[z3]?=r[3]?)/\
 (∀ r x,(cs++r).set z x=cs++r.set 0 x)/\(∀ r x,(cs++r).set z1 x=cs++r.set 1 x)/\(∀ r x,(cs++r).set z2 x=cs++r.set 2 x)/\∀ r x,(cs++r).set z3 x=cs++r.set 3 x
theorem xh {cs:List AV}{z z1 z2 z3:Nat} (hl:cs.length=z) (i:Co cs) (hf:∀ k b,AV.dA k b cs=some cs) (e1:z1=z+1) (e2:z2=z+2) (e3:z3=z+3):DX cs z z1 z2 z3:=by
 subst hl e1 e2 e3
 have dr:∀ (j:Nat) (r:List AV),(cs++r).drop (cs.length+j)=r.drop j:=fun j r=>by rw[List.drop_append,Dz (by omega),Fo];rfl
 have ge:∀ (j:Nat) (r:List AV),(cs++r)[cs.length+j]?=r[j]?:=fun j r=>by rw[CE (by omega),Fo]
 have se:∀ (j:Nat) (r:List AV) (x:AV),(cs++r).set (cs.length+j) x=cs++r.set j x:=fun j r x=>by rw[List.set_append_right _ _ (by omega),Fo]
 exact⟨i.sh,i.ai,i.br,i.refs,i.imp,i.aQ,i.un,fun r=>DP rfl,CJ,fun r=>List.drop_left' rfl,List.drop_length,fun k b r=>amR (hf k b) r,fun G r=>amP i G r,fun ks r=>ap3 i ks r,fun r=>A8,fun r q=>Cp _ _ _,
  dr 1,fun r=>by rw[List.take_append,CA (by omega),Fo],dr 2,dr 3,ge 0,ge 1,ge 2,ge 3,se 0,se 1,se 2,se 3⟩
def SQ:List SC->SC
 |[]=>.skip
 |[a]=>a
 |a::b::l=>.seq a (SQ (b::l))
def RG (l:List Am):SC:=.kY l
def CN (t:Nat) (a b:SC):SC:=.cond (.tmp t) a b
def gd (g:Nat) (w:Bool) (o:Am):Am:=⟨o.dst,o.op,o.type,some (g,w),o.drop⟩
def oQ (d:Nat) (o:Op) (t:Nat) (l:List Nat:=[]):Am:=⟨some d,o,t,none,l⟩
def wV (d a t:Nat) (l:List Nat:=[]):Am:=⟨some d,.move (.tmp a),t,none,l⟩
def wD (d t a:Nat) (l:List Nat:=[]):Am:=⟨some d,.load t (.tmp a),t,none,l⟩
def wF (d t a f:Nat) (l:List Nat:=[]):Am:=⟨some d,.fieldAddr t (.tmp a) f,0,none,l⟩
def wI (d t a b:Nat) (l:List Nat:=[]):Am:=⟨some d,.indexAddr t (.tmp a) (.tmp b),0,none,l⟩
def wJ (d t a:Nat) (n:Int) (l:List Nat:=[]):Am:=⟨some d,.indexAddr t (.tmp a) (.const (.int .i64 n)),0,none,l⟩
def wG (d a t:Nat) (l:List Nat:=[]):Am:=⟨some d,.assign (.tmp a),t,none,l⟩
def wN (d:Nat) (n:Int) (t:Nat) (l:List Nat:=[]):Am:=⟨some d,.assign (.const (.int .i64 n)),t,none,l⟩
def wB (d:Nat) (b:Bool) (t:Nat) (l:List Nat:=[]):Am:=⟨some d,.assign (.const (.bool b)),t,none,l⟩
def wX (d a i t:Nat) (l:List Nat:=[]):Am:=⟨some d,.extract (.tmp a) i,t,none,l⟩
def wL (d a s t:Nat) (l:List Nat:=[]):Am:=⟨some d,.call ⟨.builtin .len,#[.tmp a],#[s]⟩,t,none,l⟩
def wC (d f:Nat) (xs:Array Operand) (ts:Array Nat) (t:Nat) (l:List Nat:=[]):Am:=⟨some d,.call ⟨.value (.func f),xs,ts⟩,t,none,l⟩
def wU (d f a s t:Nat) (l:List Nat:=[]):Am:=⟨some d,.call ⟨.value (.func f),#[.tmp a],#[s]⟩,t,none,l⟩
def wW (d f a b s u t:Nat) (l:List Nat:=[]):Am:=⟨some d,.call ⟨.value (.func f),#[.tmp a,.tmp b],#[s,u]⟩,t,none,l⟩
def wP (d a b s u t:Nat) (l:List Nat:=[]):Am:=⟨some d,.call ⟨.builtin .append,#[.tmp a,.tmp b],#[s,u]⟩,t,none,l⟩
def wO (d:Nat) (o:BinOp) (s a b u t:Nat) (l:List Nat:=[]):Am:=⟨some d,.binOp o s (.tmp a) (.tmp b) u,t,none,l⟩
def wK (d:Nat) (o:BinOp) (s a:Nat) (n:Int) (u t:Nat) (l:List Nat:=[]):Am:=⟨some d,.binOp o s (.tmp a) (.const (.int .i64 n)) u,t,none,l⟩
def wS (t a v:Nat) (l:List Nat:=[]):Am:=⟨none,.store t (.tmp a) (.tmp v),0,none,l⟩
def wA (d t:Nat) (l:List Nat:=[]):Am:=⟨some d,.alloc t,0,none,l⟩
def wE (d t v:Nat) (l:List Nat:=[]):Am:=⟨some d,.box t (.tmp v),0,none,l⟩
def wT (d a b t:Nat) (l:List Nat:=[]):Am:=⟨some d,.pick (.tmp a) (.const (.bool true)) (.tmp b),t,none,l⟩
def wZ (d a b t:Nat) (l:List Nat:=[]):Am:=⟨some d,.pick (.tmp a) (.tmp b) (.const (.bool false)),t,none,l⟩
def wQ (d a t:Nat) (l:List Nat:=[]):Am:=⟨some d,.unOp .not t (.tmp a),t,none,l⟩
def wY (d s u a t:Nat) (l:List Nat:=[]):Am:=⟨some d,.convert s u (.tmp a),t,none,l⟩
attribute [go_sem] SQ RG CN gd oQ wV wD wF wI wJ wG wN wB wX wL wC wU wW wP wO wK wS wA wE wT wZ wQ wY
section
variable [Md] {P:Program}{T:AM}{n:Nat}{Φ:Exit->St->Prop}{C:List (De×Rd)->St->Prop}
theorem Cn {f:List It->St->Ev}{b:Bool}{t t':List It}{s s':St}{ρ:Type}{A B:Option ρ}{r:ρ} (h:(bif !b then A else B)=some r) (h1:b=false->A=some r->AJ P n Φ (f t s)) (h2:b=true->B=some r->AJ P n Φ (f t' s')):AJ P n Φ (two f (!b) t s t' s'):=by
 cases b with
 |true=>exact h2 rfl h
 |false=>exact h1 rfl h
theorem H5 {f:List Am->List (De×Rd)->St->Cy}{b:Bool}{os iS:List Am}{acc iD:List (De×Rd)}{st ao:St}{ρ:Type}{A B:Option ρ}{r:ρ} (h:(bif !b then A else B)=some r) (h1:b=false->A=some r->DG P T C (f os acc st)) (h2:b=true->B=some r->DG P T C (f iS iD ao)):DG P T C (qD f (!b) os acc st iS iD ao):=by
 cases b with
 |true=>exact h2 rfl h
 |false=>exact h1 rfl h
theorem AF {p:Prop} (F:p) {f:List It->St->Ev}{b:Bool}{t t':List It}{s s':St}{ρ:Type}{A B:Option ρ}{r:ρ} (h:(bif b then A else B)=some r) (h1:b=true/\p->A=some r->AJ P n Φ (f t s)) (h2:b=false/\p->B=some r->AJ P n Φ (f t' s')):AJ P n Φ (two f b t s t' s'):=AT h (fun a=>h1 ⟨a,F⟩) (fun a=>h2 ⟨a,F⟩)
theorem Bs {p:Prop} (F:p) {f:List It->St->Ev}{b:Bool}{t t':List It}{s s':St}{ρ:Type}{A B:Option ρ}{r:ρ} (h:(bif !b then A else B)=some r) (h1:b=false/\p->A=some r->AJ P n Φ (f t s)) (h2:b=true/\p->B=some r->AJ P n Φ (f t' s')):AJ P n Φ (two f (!b) t s t' s'):=Cn h (fun a=>h1 ⟨a,F⟩) (fun a=>h2 ⟨a,F⟩)
theorem DF {p:Prop} (F:p) {f:List Am->List (De×Rd)->St->Cy}{b:Bool}{os iS:List Am}{acc iD:List (De×Rd)}{st ao:St}{ρ:Type}{A B:Option ρ}{r:ρ} (h:(bif b then A else B)=some r) (h1:b=true/\p->A=some r->DG P T C (f os acc st)) (h2:b=false/\p->B=some r->DG P T C (f iS iD ao)):DG P T C (qD f b os acc st iS iD ao):=Fx h (fun a=>h1 ⟨a,F⟩) (fun a=>h2 ⟨a,F⟩)
theorem Ff {p:Prop} (F:p) {f:List Am->List (De×Rd)->St->Cy}{b:Bool}{os iS:List Am}{acc iD:List (De×Rd)}{st ao:St}{ρ:Type}{A B:Option ρ}{r:ρ} (h:(bif !b then A else B)=some r) (h1:b=false/\p->A=some r->DG P T C (f os acc st)) (h2:b=true/\p->B=some r->DG P T C (f iS iD ao)):DG P T C (qD f (!b) os acc st iS iD ao):=H5 h (fun a=>h1 ⟨a,F⟩) (fun a=>h2 ⟨a,F⟩)
theorem amf (hT:AQ P T) {ops:List Am}{befs:List (List Nat)}{todo:List It}{acc ds:List (De×Rd)}{st uj:St} (h:AJ P n Φ (run T 1000 todo uj)) (hC:(calm ops befs ds=true/\AK P n Φ todo uj)->C acc st) {sk:List (List (Nat×Nat)×Rd)} (h1:mU ds=sk) (h2:calm ops befs (nP sk)=true):
  DG P T C (.done acc st):=GH (hC ⟨afL h1 h2,gO hT 1000 _ _ h⟩)
end
end Go.Abs
namespace Go.Abs
open Go Go.RowKit Go.Maps
variable {P:Program}{t k e:TypeId}{w:World}{r n:Nat}{L:List (Int×Int)}
end Go.Abs
namespace Go.Abs
open Go Go.RowKit
section
variable [Md] {P:Program}{T:AM}{n:Nat}
theorem Ic {N0:Nat}{W0:World}{fm:FM}{ts:List Ai}{a:Act}{w:World}{Q:Exit->Act->World->Prop}{bj:List BE}{sa:Nat}{arr:Array Oper} (hT:AQ P T) (hm:P.follows .mixedOrders=true) {ops:List Am}{o:Am}{befs:List (List Nat)}{drop:List Nat}{st:St} (ds:List De) (jE:∀ j,j<ops.length->∃ d,ds[j]?=some d) (h1:DO ops)
  (gH:∀ i j,j∈bA befs i->j<i) (jd:∀ i j,i<j->j<ops.length->i∉bA befs j->m8 (dM ds i) (dM ds j))
  (yt:∀ i s d,ops[i]?=some s->ds[i]?=some d->C2 P T (st.nx+16*i) s (look (mr ops befs ds st.tm i)) (Heap.get (lA ops befs ds (st.fr::st.low) i)) d)
  (hbm:∀ j,j<ops.length->j∈bA befs ops.length) (yz:∀ s∈ops,∀ g w,s.guard=some (g,w)->g≠o.dst.getD n)
  (hS:SR N0 W0 n st a w fm ts) (hb:(SC.aL (ops++[o]) befs drop).bare=erase n (.region sa arr true)) (hf:SC.fits n (erase n (.region sa arr true))=true)
  (hn:∀ a' w' fm' ts',SR N0 W0 n (st.drawn ops ds []) a' w' fm' ts'->Be N0 fm ts fm' ts'->K P Q (.ops arr [ops.length]::bj) .normal a' w'):K P Q (.code (.region sa arr true)::bj) .normal a w:=by
 simp only[SC.bare,erase,SC.aL.injEq,and_true]at hb
 obtain⟨eN,jf⟩:=hb
 simp only[erase,SC.fits,List.all_eq_true]at hf
 have hlen:ops.length+1=arr.size:=by have:=congrArg List.length eN;simpa using this
 obtain⟨m,pS⟩:∃ m,ops.length=m:=⟨_,rfl⟩
 have hma:m<arr.size:=by omega
 have hmo:jW o=my n arr arr[m]:=by
  have e:=congrArg (fun l=>l[m]?) eN
  simp only[Dd,List.map_cons,List.map_nil]at e
  rw[CE (by simp;omega)]at e
  simp only[Bg,pS,Nat.sub_self,BU,Bw,Array.getElem?_toList,Bu hma,A5,oE]at e
  exact e
 have je:∀ i,(him:i<m)->(hi:i<arr.size)->∃ s,ops[i]?=some s/\s.dst=(arr[i]).dst/\s.op=(arr[i]).op/\s.type=(arr[i]).type/\s.guard=(arr[i]).guard.map (fun g=>(((arr[g.1]?).bind (·.dst)).getD n,g.2)):=by
  intro i him hi
  have ae:i<ops.length:=by omega
  refine⟨ops[i],gG ae,?_⟩
  have e:=congrArg (fun l=>l[i]?) eN
  simp only[Dd]at e
  rw[Cs (by simpa using ae)]at e
  simp only[Bw,gG ae,A5,Array.getElem?_toList,Bu hi,oE]at e
  simp only[jW,my,Am.mk.injEq,and_true]at e
  obtain⟨e1,e2,e3,e4⟩:=e
  exact⟨e1,e2,e3,e4⟩
 have vC:∀ i,(hi:i<arr.size)->∀ x,x∈bA befs i↔∃ e∈(arr[i]).after.toList,Region.binds .any e=true/\(x=e.on\/(e.on<i/\x∈bA befs e.on)):=by
  intro i hi x
  obtain⟨b',g1,g2,g3⟩:=acp arr.toList [] i arr[i] (by simp[hi])
  simp only[Ay,Cq]at g1 g2
  have e1:bA befs i=pf b' [] (arr[i]).after.toList:=by unfold bA;rw[jf,g1];rfl
  rw[e1,adZ]
  simp only[List.not_mem_nil,false_or]
  have e2:∀ e:Edge,x∈(b'[e.on]?).getD []↔(e.on<i/\x∈bA befs e.on):=by
   intro e
   by_cases hj:e.on<b'.length
   ·rw[g3 _ hj]
    unfold bA
    rw[jf]
    rw[g2]at hj
    simp[hj]
   ·rw[CK (by omega)]
    simp
    omega
  constructor
  ·rintro⟨e,h1,h2,h3⟩
   exact⟨e,h1,h2,h3.imp id (e2 e).1⟩
  ·rintro⟨e,h1,h2,h3⟩
   exact⟨e,h1,h2,h3.imp id (e2 e).2⟩
 refine wpIn_region_any hm ?_
 have vO:∀ j,(Array.replicate arr.size false).getD j false=false:=by
  intro j
  by_cases hj:j<arr.size
  ·simp[Array.getD,hj]
  ·simp[Array.getD,hj]
 have key:∀ (fuel:Nat) (aH:Array Bool) (a:Act) (w:World) (fm':FM) (ts':List Ai),aH.size=arr.size->aH.getD m false=false->((List.range arr.size).countP fun j=>!aH.getD j false)<=fuel->
   (∀ j,aH.getD j false=true->∀ k∈bA befs j,aH.getD k false=true)->DR N0 W0 n st ops ds (fun j=>aH.getD j false) a w fm' ts'->Be N0 fm ts fm' ts'->wpAnyIn FW 0 P .any arr (K P Q bj) fuel aH a w:=by
  intro fuel
  have fin:∀ (aH:Array Bool) (a:Act) (w:World) (fm':FM) (ts':List Ai),aH.size=arr.size->aH.getD m false=false->DR N0 W0 n st ops ds (fun j=>aH.getD j false) a w fm' ts'->Be N0 fm ts fm' ts'->Region.ready .any arr aH=[]->K P Q bj .normal a w:=by
   intro aH a w fm' ts' aw oe hD hL hr
   have iO:∀ j,j<arr.size->aH.getD j false=true:=by
    intro j
    induction j using Nat.strongRecOn with
    |_ j ih=>
     intro hj
     by_cases hl:aH.getD j false=true
     ·exact hl
     ·have bB:j∈Region.ready .any arr aH:=by
       rw[mem_ready]
       have ae:j<aH.size:=by omega
       refine⟨by simp[Array.getD,ae]at hl ⊢;exact hl,arr[j],Bu hj,?_⟩
       intro e he hb
       have hm:e.on∈bA befs j:=(vC j hj e.on).2 ⟨e,by simpa using he,hb,.inl rfl⟩
       have:=gH j e.on hm
       exact ih e.on this (by omega)
      rw[hr]at bB;cases bB
   rw[iO m hma]at oe;cases oe
  induction fuel with
  |zero=>
   intro aH a w fm' ts' aw oe hc ca hD hL
   have hr:Region.ready .any arr aH=[]:=by
    cases h:Region.ready .any arr aH with
    |nil=>rfl
    |cons j l=>
     have hj:j∈Region.ready .any arr aH:=by rw[h];exact List.mem_cons_self
     rw[mem_ready]at hj
     obtain⟨h0,o,ho,_⟩:=hj
     have ae:j<arr.size:=(CF.1 ho).1
     have:0<(List.range arr.size).countP fun j=>!aH.getD j false:=by
      rw[List.countP_pos_iff]
      have fS:j<aH.size:=by omega
      refine⟨j,List.mem_range.2 ae,?_⟩
      simp[Array.getD,fS]at h0 ⊢
      exact h0
     omega
   exact⟨hr,fin aH a w fm' ts' aw oe hD hL hr⟩
  |succ fuel ih=>
   intro aH a w fm' ts' aw oe hc ca hD hL
   refine⟨fin aH a w fm' ts' aw oe hD hL,fun i hi=>?_⟩
   rw[mem_ready]at hi
   obtain⟨h0,o',ho,iO⟩:=hi
   have ae:i<arr.size:=(CF.1 ho).1
   have fS:i<aH.size:=by omega
   have fb:aH.getD i false=false:=by
    simp[Array.getD,fS]at h0 ⊢
    exact h0
   by_cases ant:i<m
   case neg=>
    obtain rfl:i=m:=by omega
    have nq:∀ j,j<i->aH.getD j false=true:=by
     intro j hj
     obtain⟨e,he,hb,h⟩:=(vC i ae j).1 (by rw[<-pS];exact hbm j (by omega))
     have om:o'=arr[i]:=by rw[Bu ae]at ho;exact(oi ho).symm
     subst om
     have pW:=iO e (by simpa using he) hb
     rcases h with rfl|⟨_,h⟩
     ·exact pW
     ·exact ca _ pW j h
    have cK:=hD.all (fun j hj=>nq j (by omega)) []
    have h1:=hn a w fm' ts' cK hL
    rw[pS]at h1
    simp only[K,wpOpsIn,ho]at h1
    unfold wpOpIn
    rw[ho]
    simp only
    have pZ:∀ l:Array Bool,(∀ j,l.getD j true=true)->Region.ready .any arr l=[]:=by
     intro l hl
     cases h:Region.ready .any arr l with
     |nil=>rfl
     |cons j r=>
      have hj:j∈Region.ready .any arr l:=by rw[h];exact List.mem_cons_self
      rw[mem_ready]at hj
      rw[hl j]at hj;cases hj.1
    have vI:∀ a w,K P Q bj .normal a w->wpAnyIn FW 0 P .any arr (K P Q bj) fuel (aH.setIfInBounds i true) a w:=by
     have hr:=pZ (aH.setIfInBounds i true) (by
      intro j
      by_cases gI:j<arr.size
      ·by_cases he:j=i
       ·subst he;simp[Array.getD,fS]
       ·rw[getD_set_ne true (Ne.symm he)]
        have kM:j<aH.size:=by omega
        have:=nq j (by omega)
        simp[Array.getD,kM]at this ⊢
        exact this
      ·simp[Array.getD,aw,gI])
     intro a w hk
     cases fuel with
     |zero=>exact⟨hr,hk⟩
     |succ f=>exact⟨fun _=>hk,fun i hi=>by rw[hr]at hi;cases hi⟩
    split
    ·rename_i hw
     rw[if_pos hw]at h1
     exact Oper.wpIn_mono vI h1
    ·rename_i hw
     rw[if_neg hw]at h1
     exact⟨h1.1,vI _ _ h1.2⟩
   obtain⟨s,hs,tP,hso,fW,gJ⟩:=je i ant ae
   have om:o'=arr[i]:=by rw[Bu ae]at ho;exact(oi ho).symm
   subst om
   obtain⟨d,hd⟩:=jE i (by omega)
   have hB:∀ j,(bA befs i).contains j=true->aH.getD j false=true:=by
    intro j hj
    have hmm:j∈bA befs i:=by simpa using hj
    obtain⟨e,he,hb,h⟩:=(vC i ae j).1 hmm
    have pW:=iO e (by simpa using he) hb
    rcases h with rfl|⟨_,h⟩
    ·exact pW
    ·exact ca _ pW j h
   have tu:∀ j,aH.getD j false=true->(bA befs j).contains i=false:=by
    intro j hj
    cases kK:(bA befs j).contains i with
    |false=>rfl
    |true=>
     have:=ca j hj i (by simpa using kK)
     rw[fb]at this;cases this
   have fT:∀ j,(aH.setIfInBounds i true).getD j false=(aH.getD j false || j==i):=by
    intro j
    by_cases gI:j=i
    ·subst gI;simp[Array.getD,fS]
    ·rw[getD_set_ne false (Ne.symm gI)];simp[gI]
   unfold wpOpIn
   rw[ho]
   simp only
   have j8:Eh (look (mr ops befs ds st.tm i)) (look (ib ops ds (idxs ops.length fun j=>aH.getD j false) st.tm)):=by
    exact acN h1 jE hB tu
   have lP:∀ g j v,((arr[j]?).bind (·.dst)).getD n=g->a.tmps[g]?=some v->yielded arr a.tmps j=match v with|.bool b=>some b|_=>none:=by
    intro g j v ei hv
    unfold yielded
    cases hb:(arr[j]?).bind (·.dst) with
    |none=>
     rw[hb]at ei
     simp only[Option.getD_none]at ei
     have:=(CF.1 hv).1
     rw[hD.size]at this
     subst ei
     exact absurd this (Nat.lt_irrefl _)
    |some dd=>
     rw[hb]at ei
     simp only[Option.getD_some]at ei
     subst ei
     simp only[Af,hv]
     cases v<;>rfl
   have jF:∀ g w,s.guard=some (g,w)->∃ j,(arr[i]).guard=some (j,w)/\((arr[j]?).bind (·.dst)).getD n=g:=by
    intro g w hh
    rw[hh]at gJ
    cases yA:(arr[i]).guard with
    |none=>rw[yA]at gJ;cases gJ
    |some p=>
     rw[yA]at gJ
     simp only[A5,oE,Prod.mk.injEq]at gJ
     exact⟨p.1,by rw[gJ.2],gJ.1.symm⟩
   have tH:∀ v w' dV du,DR N0 W0 n st ops ds (fun j=>aH.getD j false || j==i) (a.put (arr[i]).dst v) w' dV du->Be N0 fm' ts' dV du->wpAnyIn FW 0 P .any arr (K P Q bj) fuel (aH.setIfInBounds i true) (a.put (arr[i]).dst v) w':=by
    intro v w' dV du th dI
    refine ih (aH.setIfInBounds i true) _ w' dV du (by simpa using aw) (by rw[fT,oe];simp;omega) ?_ ?_ ?_ (hL.trans dI)
    ·have:=acM (p:=fun j=>!(aH.setIfInBounds i true).getD j false) (q:=fun j=>!aH.getD j false) (i:=i) (by
      intro j hj
      rw[fT]at hj
      simp only[Bool.not_or,A7]at hj
      exact hj.1) (by simp only[fb,Bj]) (by simp only[fT,fb];simp) (List.range arr.size) (List.mem_range.2 ae)
     omega
    ·intro j hj k hk
     rw[fT]at hj ⊢
     simp only[Bool.or_eq_true,beq_iff_eq]at hj ⊢
     rcases hj with hj|rfl
     ·exact .inl (ca j hj k hk)
     ·exact .inl (hB k (by simpa using hk))
    ·have e:(fun j=>(aH.setIfInBounds i true).getD j false)=fun j=>aH.getD j false || j==i:=funext fT
     rw[e]
     exact th
   have yg:∀ j,aH.getD j false=true->i<j->m8 (dM ds i) (dM ds j):=by
    intro j hj pO
    have tD:j<aH.size:=by
     by_cases tD:j<aH.size
     ·exact tD
     ·simp[Array.getD,tD]at hj
    have hjm:j≠m:=by rintro rfl;rw[oe]at hj;cases hj
    refine jd i j pO (by omega) ?_
    have:=tu j hj
    simpa using this
   have yx:∀ d,cq ops i=some d->d<n:=by
    intro dd nh
    have adD:jW s∈List.map (my n arr) arr.toList:=by rw[<-eN];exact List.mem_map_of_mem (List.mem_append_left _ (AW hs))
    have:=hf _ adD
    simp only[cq,hs,Af]at nh
    simp only[jW,nh]at this
    simpa using this
   rcases yt i s d hs hd with ⟨ee,hE⟩|⟨adL,rfl⟩
   case inr=>
    obtain⟨g,want,tQ,adv⟩:=adL
    obtain⟨j,hj,ei⟩:=jF g want tQ
    have hnw:Region.wanted arr[i] (yielded arr a.tmps)=false:=by
     rcases adv with ⟨b,hb,jg⟩|hb
     ·obtain⟨v,hv,bq⟩:=hD.tm g _ (j8 g _ hb)
      cases bq
      simp only[Region.wanted,hj,lP g j _ ei hv]
      simpa using jg
     ·obtain⟨v,hv,bq⟩:=hD.tm g _ (j8 g _ hb)
      cases bq
      simp[Region.wanted,hj,lP g j _ ei hv]
    rw[if_neg (by rw[hnw];simp)]
    have ho:Out N0 W0 fm' ts' (Heap.bL (st.fr::st.low) (cH ds (idxs ops.length fun j=>aH.getD j false))) w (st.nx+16*i) (.ok .skip w) ⟨.ar [],[]⟩ fm' ts' w undef:=
     ⟨.inr ⟨rfl,rfl⟩,hD.hr,.ar [] #[] rfl (fun i x v h=>by simp at h),AN.refl _ _,As.refl _,fun _ _ _ h=>h⟩
    obtain⟨h2,h3⟩:=hD.step (by omega) fb hd ho h1 jE yg yx
    have yp:cq ops i=(arr[i]).dst:=by simp[cq,hs,tP]
    rw[yp]at h2
    exact⟨fun _ _=>trivial,tH _ w fm' ts' h2 h3⟩
   have adM:Region.wanted arr[i] (yielded arr a.tmps)=true:=by
    rcases ee with ee|⟨g,want,b,tQ,hb,jg⟩
    ·rw[ee]at gJ
     have:(arr[i]).guard=none:=by
      cases hh:(arr[i]).guard with
      |none=>rfl
      |some g=>rw[hh]at gJ;cases gJ
     simp[Region.wanted,this]
    ·obtain⟨j,hj,ei⟩:=jF g want tQ
     obtain⟨v,hv,bq⟩:=hD.tm g _ (j8 g _ hb)
     cases bq
     simp only[Region.wanted,hj,lP g j _ ei hv]
     simpa using jg
   rw[if_pos adM]
   exact(DR.oper (befs:=befs) hT hD (by omega) fb hd hs hE h1 jE hB tu yg yx hso fW tP fun v w' dV du th dI=>tH v w' dV du th dI)
 refine key arr.size (Array.replicate arr.size false) a _ fm ts (by simp) (vO m) (Ea List.countP_le_length (by simp)) (by intro j hj;rw[vO]at hj;cases hj) ?_ (Be.refl _ _)
 have e:(fun j=>(Array.replicate arr.size false).getD j false)=fun _=>false:=funext vO
 rw[e]
 exact DR.none ⟨hS.hr.drew,hS.tm,hS.nx,hS.size,hS.dZ⟩
end
section
variable [Md] {P:Program}{T:AM}{n:Nat}
theorem alK {B:St->Prop}{ops:List Am}{drop:List Nat}{st:St} (cZ:List De) (tE:cZ.length=ops.length)
  (hn:B { dD st ops cZ ops.length with tm:=cC (dD st ops cZ ops.length).tm drop }):B (st.drawn ops cZ drop):=by
 obtain⟨e1,e2,e3,e4⟩:=aeB st ops cZ tE ops.length (Bd _)
 unfold St.drawn
 obtain⟨f',H',hp⟩:=ue st.fr st.low (cH cZ (List.range ops.length))
 rw[hp]at e1 ⊢
 simp only[List.cons.injEq]at e1
 obtain⟨e5,e6⟩:=e1
 rw[ajs]
 simp only[e2,e3,e4,e5,e6]at hn
 exact hn
theorem Ih {N0:Nat}{W0:World}{fm:FM}{ts:List Ai}{a:Act}{w:World}{Q:Exit->Act->World->Prop}{bj:List BE}{sa:Nat}{arr:Array Oper}{B:St->Prop} (hT:AQ P T) (hm:P.follows .mixedOrders=true) {ops0 ops:List Am}{o:Am}{befs:List (List Nat)}{drop:List Nat}{st:St} (m:Nat) (e:ops0=ops++[o]) (hl:ahF n ops befs o=true)
  (h:DG P T (fun acc ao=>calm ops befs acc.reverse=true/\B { ao with tm:=cC ao.tm [] }) (jt T m ops [] st))
  (hS:SR N0 W0 n st a w fm ts) (hb:(SC.aL ops0 befs drop).bare=erase n (.region sa arr true)) (hf:SC.fits n (erase n (.region sa arr true))=true)
  (hn:∀ ao a' w' fm' ts',B ao->SR N0 W0 n ao a' w' fm' ts'->Be N0 fm ts fm' ts'->K P Q (.ops arr [ops.length]::bj) .normal a' w'):K P Q (.code (.region sa arr true)::bj) .normal a w:=by
 subst e
 obtain⟨ds,h1,h2,h3⟩:=abM m _ _ _ h
 simp only[List.append_nil,List.reverse_reverse]at h2
 have hlen:(ds.map (·.1)).length=ops.length:=by simp[h1.length]
 have h2':=h2
 simp only[calm,A7,decide_eq_true_eq]at h2'
 obtain⟨⟨⟨⟨_,k1⟩,gH⟩,jd⟩,_⟩:=h2'
 simp only[ahF,A7,List.all_eq_true,List.mem_range]at hl
 have hB:B (st.drawn ops (ds.map (·.1)) []):=alK _ hlen h3
 refine Ic hT hm (ds.map (·.1)) (fun j hj=>⟨(ds.map (·.1))[j]'(by omega),gG (by omega)⟩) (abG ops k1) (fun i j hj=>by have:=aaN befs 0 gH i j hj;omega) (afh jd) (afK ds h1 h2) (fun j hj=>by simpa using hl.1 j hj) ?_ hS hb hf (fun a' w' fm' ts' cK hL'=>hn _ a' w' fm' ts' hB cK hL')
 intro s hs g w hg
 have:=hl.2 s hs
 rw[hg]at this
 simpa using this
end
def AV.oH:AV->Bool
 |.int .u8 _=>false
 |.raw _=>false
 |_=>true
mutual
def AV.eW:AV->Bool
 |.sl _ es=>AV.rP es
 |.aA _ es _ _=>AV.rP es
 |.fn _ a b=>AV.ny a&&AV.ny b
 |.bR _ v=>v.eW
 |.agg cs=>AV.ny cs
 |.ar vs=>AV.ny vs
 |_=>true
def AV.ny:List AV->Bool
 |[]=>true
 |x::l=>x.eW&&AV.ny l
def AV.jq:List AV->Bool
 |[]=>true
 |x::l=>x.oH&&(x.eW&&AV.jq l)
def AV.rP:List (List AV)->Bool
 |[]=>true
 |c::l=>AV.jq c&&AV.rP l
end
def AG.eW:AG->Bool
 |.box cs=>AV.ny cs
 |.arr _ _ es=>es.all AV.ny
theorem ua:∀ {l:List AV}{i:Nat}{x:AV},AV.ny l=true->l[i]?=some x->x.eW=true
 |[],i,x,_,h=>by simp at h
 |y::l,0,x,h,e=>by simp only[AV.ny,A7]at h;cases e;exact h.1
 |y::l,i+1,x,h,e=>by simp only[AV.ny,A7]at h;exact ua h.2 (by simpa using e)
theorem zy:∀ {l:List AV}{i:Nat}{x:AV},AV.jq l=true->l[i]?=some x->x.oH=true/\x.eW=true
 |[],i,x,_,h=>by simp at h
 |y::l,0,x,h,e=>by simp only[AV.jq,A7]at h;cases e;exact⟨h.1,h.2.1⟩
 |y::l,i+1,x,h,e=>by simp only[AV.jq,A7]at h;exact zy h.2.2 (by simpa using e)
theorem zz:∀ {l:List (List AV)}{i:Nat}{c:List AV},AV.rP l=true->l[i]?=some c->AV.jq c=true
 |[],i,x,_,h=>by simp at h
 |y::l,0,x,h,e=>by simp only[AV.rP,A7]at h;cases e;exact h.1
 |y::l,i+1,x,h,e=>by simp only[AV.rP,A7]at h;exact zz h.2 (by simpa using e)
theorem abC {α:Type}{E:α->List AV} (h:∀ x,AV.jq (E x)=true):∀ l:List α,AV.rP (l.map E)=true
 |[]=>rfl
 |x::l=>by simp only[List.map_cons,AV.rP,A7];exact⟨h x,abC h l⟩
theorem ad9:∀ (a b:List AV),AV.jq (a++b)=(AV.jq a&&AV.jq b)
 |[],b=>by simp[AV.jq]
 |x::a,b=>by simp only[Bq,AV.jq,ad9 a b,Bool.and_assoc]
theorem VR.oH {fm:FM}{ts:List Ai}{x:AV}{v:Value} (h:VR fm ts x v) (hf:x.flat=true) (h8:x.oH=true):∀ m,v≠.int .u8 m:=by
 intro m e
 subst e
 cases h with
 |int k n=>simp[AV.oH]at h8
 |raw v h=>simp[AV.oH]at h8
 |dead v=>simp[AV.flat]at hf
theorem VR.xa {fm fm':FM} (hle:∀ b o v,fm b o=some v->(∀ m,v≠.int .u8 m)->fm' b o=some v) (oA:∀ b,fm'.t b=fm.t b\/fm'.t b=0) {ts:List Ai}{x:AV}{v:Value} (h:VR fm ts x v):x.eW=true->VR fm' ts x v:=by
 induction h with
 |sl es cb off esz cap u bV h1 h2 h3 h4 ih=>
  intro h8
  simp only[AV.eW]at h8
  refine .sl es cb off esz cap u bV h1 (fun i c o x a b=>⟨hle _ _ _ (h2 i c o x a b).1 ((h4 i c o x a b).oH (h3 i c o x a b) (zy (zz h8 a) b).1),?_⟩) h3 (fun i c o x a b=>ih i c o x a b (zy (zz h8 a) b).2)
  rcases oA cb with e|e
  ·rw[e];exact(h2 i c o x a b).2
  ·exact .inl e
 |aA es i o cb off esz u h1 h2 h3 h4 ih=>
  intro h8
  simp only[AV.eW]at h8
  refine .aA es i o cb off esz u h1 (fun i c o x a b=>⟨hle _ _ _ (h2 i c o x a b).1 ((h4 i c o x a b).oH (h3 i c o x a b) (zy (zz h8 a) b).1),?_⟩) h3 (fun i c o x a b=>ih i c o x a b (zy (zz h8 a) b).2)
  rcases oA cb with e|e
  ·rw[e];exact(h2 i c o x a b).2
  ·exact .inl e
 |fn f first cap vf vc h1 h2 h3 h4 im iq=>
  intro h8
  simp only[AV.eW,A7]at h8
  exact .fn f first cap vf vc h1 h2 (fun i x v a b=>im i x v a b (ua h8.1 a)) (fun i x v a b=>iq i x v a b (ua h8.2 a))
 |bR t x v h ih=>intro h8;simp only[AV.eW]at h8;exact .bR t x v (ih h8)
 |agg cs vs h1 h2 h3 ih=>intro h8;simp only[AV.eW]at h8;exact .agg cs vs h1 h2 (fun i x v a b=>ih i x v a b (ua h8 a))
 |ar xs vs h1 h3 ih=>intro h8;simp only[AV.eW]at h8;exact .ar xs vs h1 (fun i x v a b=>ih i x v a b (ua h8 a))
 |bool b=>intro _;exact .bool b
 |int k n=>intro _;exact .int k n
 |str s=>intro _;exact .str s
 |nil=>intro _;exact .nil
 |cg e a cap=>intro _;exact .cg e a cap
 |cI l k esz i n g a cp h hn ha=>intro _;exact .cI l k esz i n g a cp h hn ha
 |cJ l k esz i n g a cp m' c h ae hn ha=>intro _;exact .cJ l k esz i n g a cp m' c h ae hn ha
 |cv l k esz a h=>intro _;exact .cv l k esz a h
 |loc l k esz i n g c cap cp a h hn bI hc ha=>intro _;exact .loc l k esz i n g c cap cp a h hn bI hc ha
 |bF l k esz o n c cp a h hn ha=>intro _;exact .bF l k esz o n c cp a h hn ha
 |bG=>intro _;exact .bG
 |ptr l k o c h=>intro _;exact .ptr l k o c h
 |eA l k esz i o g a h=>intro _;exact .eA l k esz i o g a h
 |eC l k esz i o g a m' c h ae=>intro _;exact .eC l k esz i o g a m' c h ae
 |bu l k esz i o g c cap h=>intro _;exact .bu l k esz i o g c cap h
 |bP=>intro _;exact .bP
 |bS=>intro _;exact .bS
 |raw v h=>intro _;exact .raw v h
 |dead v=>intro _;exact .dead v
def FM.lj (fm:FM) (c j:Nat) (y:Value):FM:=⟨fun b o=>if b=c/\o=j then some y else fm b o,fm.t⟩
theorem FM.ai5 {fm:FM}{c j:Nat}{y:Value}{kj:Int} (h:fm c j=some (.int .u8 kj)):∀ b o v,fm b o=some v->(∀ m,v≠.int .u8 m)->(fm.lj c j y) b o=some v:=by
 intro b o v hv hn
 unfold FM.lj
 simp only
 rw[if_neg]
 ·exact hv
 ·rintro⟨rfl,rfl⟩
  rw[h]at hv
  exact hn kj (oi hv).symm
theorem HR.xa {N0:Nat}{W0:World}{fm:FM}{ts:List Ai}{H:Heap}{w:World} (h:HR N0 W0 fm ts H w) {c j:Nat}{kj:Int}{y:Value}{cells:Array Value}{et:TypeId} (hN:N0<=c) (hold:fm c j=some (.int .u8 kj)) (hc:w.heap[c]?=some (.cells cells et (0,0)))
  (hH:∀ l k b,H.get l k=some b->b.eW=true):HR N0 W0 (fm.lj c j y) ts H (w.setRow c (cells.toList.take j++([y]++cells.toList.drop (j+1))).toArray):=by
 have hle:=FM.ai5 (y:=y) hold
 have oA:∀ b,(fm.lj c j y).t b=fm.t b\/(fm.lj c j y).t b=0:=fun b=>.inl rfl
 have yl:w.cell? ⟨c,j,none⟩=some (.int .u8 kj):=h.bO _ _ _ hold
 have hj:j<cells.size:=by
  simp only[World.cell?,hc]at yl
  by_cases hj:j<cells.size
  ·exact hj
  ·simp[Array.getElem?_eq_none (by omega:cells.size<=j)]at yl
 have ahi:∀ l k b c',H.get l k=some b->bz (tb ts l k)=some c'->c'≠c:=by
  rintro l k b c' hg ht rfl
  rw[h.dk l k b c' j hg ht]at hold
  cases hold
 have tM:∀ i,i≠c->(w.setRow c (cells.toList.take j++([y]++cells.toList.drop (j+1))).toArray).heap[i]?=w.heap[i]?:=fun i hi=>setRow_other w c i _ hi
 have dw:(w.setRow c (cells.toList.take j++([y]++cells.toList.drop (j+1))).toArray).heap[c]?=some (.cells (cells.toList.take j++([y]++cells.toList.drop (j+1))).toArray et (0,0)):=setRow_heap w c cells _ et _ hc
 have dJ:∀ o,(cells.toList.take j++([y]++cells.toList.drop (j+1))).toArray[o]?=if o=j then some y else cells[o]?:=by
  intro o
  simp only[List.getElem?_toArray]
  by_cases h1:o<j
  ·rw[Cs (by simp;omega),BO,if_pos h1,if_neg (by omega)];simp
  ·rw[CE (by simp;omega)]
   simp only[Bb,Array.length_toList,Nat.min_eq_left (Nat.le_of_lt hj)]
   by_cases h2:o=j
   ·subst h2;simp
   ·obtain⟨d,rfl⟩:∃ d,o=j+1+d:=⟨o - (j+1),by omega⟩
    have:j+1+d - j=d+1:=by omega
    rw[this,if_neg h2,List.singleton_append,Ca,Ce];simp
 refine⟨h.len,?_,h.inj,?_,?_,h.dh.trans (acr w c _ hN),?_,?_,?_⟩
 ·intro l k b hg
  have hb:=h.al l k b hg
  have h8:=hH l k b hg
  have bh:=ahi l k b
  generalize hq:tb ts l k=t at hb bh
  cases hb with
  |box c' cs ng hB=>
   obtain⟨cl,jz,c1,c2,c3⟩:=hB
   exact .box c' cs ng ⟨cl,jz,(tM c' (bh c' hg rfl)).trans c1,c2,fun o x v a b=>⟨(c3 o x v a b).1,(c3 o x v a b).2.xa hle oA (ua h8 a)⟩⟩
  |nil jz esz=>exact .nil jz esz
  |arr jz esz es c' cap ng hA=>
   obtain⟨cl,c1,c2,c3,c4,c5,c6,c7⟩:=hA
   refine .arr jz esz es c' cap ng ⟨cl,(tM c' (bh c' hg rfl)).trans c1,c2,c3,c4,c5,c6,fun i cc o x v a b d=>⟨(c7 i cc o x v a b d).1,(c7 i cc o x v a b d).2.xa hle oA ?_⟩⟩
   have h9:AV.ny cc=true:=List.all_eq_true.1 h8 cc (AW a)
   exact ua h9 b
 ·intro b o v hv
  unfold FM.lj at hv
  simp only at hv
  by_cases n7:b=c
  ·subst n7
   simp only[World.cell?,dw]
   split at hv
   ·rename_i hh
    rw[dJ,if_pos hh.2]
    simpa using hv
   ·rename_i hh
    rw[dJ,if_neg (fun e=>hh ⟨rfl,e⟩)]
    have:=h.bO b o v hv
    simpa [World.cell?,hc] using this
  ·rw[if_neg (fun hh=>n7 hh.1)]at hv
   have:=h.bO b o v hv
   exact(World.cell?_of_block (w:=w) (a:=⟨b,o,none⟩) (tM b n7)).trans this
 ·intro l k b c' o hg ht
  unfold FM.lj
  simp only
  rw[if_neg (fun hh=>ahi l k b c' hg ht hh.1)]
  exact h.dk l k b c' o hg ht
 ·have:=h.size
  simpa [World.setRow] using this
 ·intro b o h0 ho
  have hb:=h.cV b o h0 ho
  refine(tM b ?_).trans hb
  rintro rfl
  rw[hc]at hb
  cases hb
  cases ho
 ·intro b o v ng hv ht
  by_cases n7:b=c
  ·subst n7;exact⟨_,et,dw⟩
  ·unfold FM.lj at hv
   simp only at hv
   rw[if_neg (fun hh=>n7 hh.1)]at hv
   exact(h.ec b o v ng hv ht).of (tM b n7)
end Go.Abs
namespace Go.Abs
open Go
theorem aV {n:Int} (h1:-9223372036854775808<=n) (h2:n<=9223372036854775807):ab n=n:=by
 simp only[ab,IntKind.wrap,IntKind.bits,IntKind.signed]
 simp
 omega
theorem bC {α:Type}{l:List α}{i:Nat}{x:α} (h:l[i]?=some x):at? l (i:Int)=some x:=by
 have:i<l.length:=(gS.1 h).1
 unfold at?
 rw[if_pos ⟨by omega,by omega⟩]
 simpa using h
def scan {R:Type} (g:Nat->Option R):Nat->Nat->Option R
 |_,0=>none
 |i,n+1=>match g i with
  |some r=>some r
  |none=>scan g (i+1) n
theorem aq2 {R:Type}{body:Int->Option (AU Int Unit R)}{n:Nat}{g:Nat->Option R} (hn:n<=9223372036854775807)
  (h1:∀ i,i<n->body (i:Int)=some (match g i with|some r=>.ret r|none=>.next (ab ((i:Int)+1)))) (h2:body (n:Int)=some (.brk ())):
  ∀ (k d i:Nat),i+d=n->d<k->aj body k (i:Int)=some (match scan g i d with|some r=>.ret r|none=>.brk ()):=by
 intro k
 induction k with
 |zero=>intro d i _ h;omega
 |succ k ih=>
  intro d i hd hk
  cases d with
  |zero=>
   have:i=n:=by omega
   subst this
   rw[aj,h2];rfl
  |succ d=>
   rw[aj,h1 i (by omega)]
   cases hg:g i with
   |some r=>simp only[scan,hg]
   |none=>
    simp only[scan,hg]
    have:ab ((i:Int)+1)=((i+1:Nat):Int):=by rw[aV (by omega) (by omega)];omega
    rw[this]
    exact ih d (i+1) (by omega) (by omega)
theorem aq0 {α R:Type}{l:List α}{body:Int->Option (AU Int Unit R)}{f:α->Option R} (hn:l.length<=9223372036854775807) {k:Nat} (hk:l.length<k)
  (h1:∀ (i:Nat) x,l[i]?=some x->body (i:Int)=some (match f x with|some r=>.ret r|none=>.next (ab ((i:Int)+1)))) (h2:body (l.length:Int)=some (.brk ())):
  aj body k 0=some (match l.findSome? f with|some r=>.ret r|none=>.brk ()):=by
 have key:∀ (m:List α) (i k:Nat),l.drop i=m->i+m.length=l.length->m.length<k->aj body k (i:Int)=some (match m.findSome? f with|some r=>.ret r|none=>.brk ()):=by
  intro m
  induction m with
  |nil=>
   intro i k _ h3 h4
   cases k with
   |zero=>omega
   |succ k=>
    have:i=l.length:=by simpa using h3
    subst this
    rw[aj,h2];rfl
  |cons x m ih=>
   intro i k h5 h3 h4
   cases k with
   |zero=>omega
   |succ k=>
    simp only[Az]at h3 h4
    have hx:l[i]?=some x:=by
     have:=congrArg (fun q=>q[0]?) h5
     simpa using this
    rw[aj,h1 i x hx]
    cases hf:f x with
    |some r=>simp only[List.findSome?_cons,hf]
    |none=>
     simp only[List.findSome?_cons,hf]
     have:ab ((i:Int)+1)=((i+1:Nat):Int):=by rw[aV (by omega) (by omega)];omega
     rw[this]
     exact ih (i+1) k (by rw[<-List.drop_drop,h5];rfl) (by omega) (by omega)
 exact key l 0 k rfl (by simp) hk
theorem qI {α S R τ:Type}{l:List α}{body:τ->Option (AU τ S R)} (mk:Int->S->τ) (f:S->α->S) (Inv:Nat->S->Prop) (hn:l.length<=9223372036854775807) {k:Nat} (hk:l.length<k) {s0:S} (h0:Inv 0 s0)
  (h1:∀ (i:Nat) x s,l[i]?=some x->Inv i s->body (mk (i:Int) s)=some (.next (mk (ab ((i:Int)+1)) (f s x)))/\Inv (i+1) (f s x)) (h2:∀ s,Inv l.length s->body (mk (l.length:Int) s)=some (.brk s)):
  aj body k (mk 0 s0)=some (.brk (l.foldl f s0))/\Inv l.length (l.foldl f s0):=by
 have key:∀ (m:List α) (i k:Nat) (s:S),l.drop i=m->i+m.length=l.length->m.length<k->Inv i s->aj body k (mk (i:Int) s)=some (.brk (m.foldl f s))/\Inv l.length (m.foldl f s):=by
  intro m
  induction m with
  |nil=>
   intro i k s _ h3 h4 hI
   cases k with
   |zero=>omega
   |succ k=>
    have:i=l.length:=by simpa using h3
    subst this
    exact⟨by rw[aj,h2 s hI];rfl,hI⟩
  |cons x m ih=>
   intro i k s h5 h3 h4 hI
   cases k with
   |zero=>omega
   |succ k=>
    simp only[Az]at h3 h4
    have hx:l[i]?=some x:=by
     have:=congrArg (fun q=>q[0]?) h5
     simpa using this
    obtain⟨h6,h7⟩:=h1 i x s hx hI
    have:ab ((i:Int)+1)=((i+1:Nat):Int):=by rw[aV (by omega) (by omega)];omega
    rw[this]at h6
    rw[aj,h6]
    exact ih (i+1) k (f s x) (by rw[<-List.drop_drop,h5];rfl) (by omega) (by omega) h7
 exact key l 0 k s0 rfl (by simp) hk h0
theorem qw {α:Type}{b:Nat}{l:List α}{x:α} (h:(l.length+1)*b<=140737488355328) (h2:l.length+1<4611686018427387904):fH b l x=some (l++[x]):=by
 unfold fH dO
 rw[if_pos ⟨by simpa using h,by simpa using h2⟩]
end Go.Abs
