/-
  Part 3 of the proof: a machine over named blocks, what each function computes, and what follows. No condition.
-/
import Derived.Defers
import Derived.Recover
import Derived.RangeFuncNested
import Derived.Test.YtpgccpdlilnakaaBSlipsB
set_option linter.unusedVariables false
set_option linter.unusedSimpArgs false
set_option linter.all false
namespace Go.Abs
open Go
structure Vec (n:Nat) (α:Type) where
 l:List α
 h:l.length=n
def Vec.c {n:Nat}{α:Type} (E:α→List AV) (v:Vec n α):List AV:=(v.l.map E).flatten
theorem Vec.ext {n:Nat}{α:Type}{a b:Vec n α} (h:a.l=b.l):a=b:=by
 cases a;cases b;cases h;rfl
theorem ZeP {α:Type}{E:α→List AV}{z:Nat} (h:∀ x,(E x).length=z):∀ l:List α,(l.map E).flatten.length=l.length*z
 |[]=>by simp
 |x::l=>by rw[List.map_cons,List.flatten_cons,List.length_append,h,ZeP h l,List.length_cons,Nat.succ_mul];omega
theorem Vec.len {n:Nat}{α:Type}{E:α→List AV}{z:Nat} (h:∀ x,(E x).length=z) (v:Vec n α):(v.c E).length=n*z:=by
 unfold Vec.c;rw[ZeP h,v.h]
def Vec.at? {n:Nat}{α:Type} (v:Vec n α) (i:Int):Option α:=if 0≤i∧i<n then v.l[i.toNat]? else none
def Vec.set {n:Nat}{α:Type} (v:Vec n α) (i:Int) (x:α):Vec n α:=⟨v.l.set i.toNat x,by simp[v.h]⟩
def Vec.rep (n:Nat) {α:Type} (x:α):Vec n α:=⟨List.replicate n x,by simp⟩
theorem Zaa {n:Nat}{α:Type}{v:Vec n α}{i:Int}{x:α} (h:v.at? i=some x):ZbY i n=some i.toNat:=by
 unfold Vec.at? at h
 split at h
 ·rename_i hc;unfold ZbY;rw[if_pos hc]
 ·cases h
theorem ZnS {n:Nat}{α:Type}{v:Vec n α}{i:Int}{x:α} (h:v.at? i=some x):v.l[i.toNat]?=some x:=by
 unfold Vec.at? at h
 split at h
 ·exact h
 ·cases h
def Sub (cs:List AV) (o:Nat) (c:List AV):Prop:=∃ a b,cs=a++(c++b)∧a.length=o
theorem Sub.self (c:List AV):Sub c 0 c:=⟨[],[],by simp,rfl⟩
theorem Sub.trans {cs c c':List AV}{o o':Nat} (h:Sub cs o c) (k:Sub c o' c'):Sub cs (o+o') c':=by
 obtain⟨a,b,rfl,rfl⟩:=h
 obtain⟨a',b',rfl,rfl⟩:=k
 exact⟨a++a',b'++b,by simp,by simp⟩
theorem Sub.cons (x:AV) {cs c:List AV}{o:Nat} (h:Sub cs o c):Sub (x::cs) (o+1) c:=by
 obtain⟨a,b,rfl,rfl⟩:=h
 exact⟨x::a,b,by simp,by simp⟩
theorem Sub.app (r:List AV) {cs c:List AV}{o:Nat} (h:Sub cs o c):Sub (cs++r) o c:=by
 obtain⟨a,b,rfl,rfl⟩:=h
 exact⟨a,b++r,by simp,rfl⟩
theorem Sub.bound {cs c:List AV}{o z:Nat} (h:Sub cs o c) (hz:c.length=z):o+z≤cs.length:=by
 obtain⟨a,b,rfl,rfl⟩:=h
 simp;omega
theorem Sub.get {cs c:List AV}{o z:Nat} (h:Sub cs o c) (hz:c.length=z):(cs.drop o).take z=c:=by
 obtain⟨a,b,rfl,rfl⟩:=h
 subst hz
 simp
theorem Sub.idx {n:Nat}{α:Type}{E:α→List AV}{z:Nat} (hE:∀ x,(E x).length=z) {v:Vec n α}{i:Int}{x:α} (h:v.at? i=some x):Sub (v.c E) (i.toNat*z) (E x):=by
 have hg:=ZnS h
 obtain⟨hlt,hx⟩:=gS.1 hg
 refine⟨((v.l.take i.toNat).map E).flatten,((v.l.drop (i.toNat+1)).map E).flatten,?_,?_⟩
 ·unfold Vec.c
  conv=>lhs;rw[←List.take_append_drop i.toNat v.l,List.drop_eq_getElem_cons hlt,hx]
  simp
 ·rw[ZeP hE,List.length_take,Nat.min_eq_left (by omega)]
theorem ZqN {cs c c':List AV}{o o':Nat} (h:Sub cs o c) (k:Sub c o' c') {new:List AV} (hl:new.length=c'.length):Zau cs (o+o') new=Zau cs o (Zau c o' new):=by
 obtain⟨a,b,rfl,rfl⟩:=h
 obtain⟨a',b',rfl,rfl⟩:=k
 have h1:Zau (a++((a'++(c'++b'))++b)) (a.length+a'.length) new=a++(a'++(new++(b'++b))):=by
  unfold Zau
  rw[hl]
  have e1:(a++((a'++(c'++b'))++b))=(a++a')++(c'++(b'++b)):=by simp
  rw[e1,List.take_left' (by simp),←List.drop_drop,List.drop_left' (by simp),List.drop_left' rfl]
  simp
 have h2:Zau (a'++(c'++b')) a'.length new=a'++(new++b'):=by
  unfold Zau
  rw[hl,List.take_left' rfl,←List.drop_drop,List.drop_left' rfl,List.drop_left' rfl]
 rw[h1,h2]
 unfold Zau
 rw[List.take_left' rfl,←List.drop_drop,List.drop_left' rfl,List.drop_left' (by simp[hl])]
 simp
theorem ZuC {n:Nat}{α:Type}{E:α→List AV}{z:Nat} (hE:∀ x,(E x).length=z) {v:Vec n α}{i:Int}{x:α} (h:v.at? i=some x) (y:α):Zau (v.c E) (i.toNat*z) (E y)=(v.set i y).c E:=by
 have hg:=ZnS h
 obtain⟨hlt,hx⟩:=gS.1 hg
 have e1:v.c E=((v.l.take i.toNat).map E).flatten++(E x++((v.l.drop (i.toNat+1)).map E).flatten):=by
  unfold Vec.c
  conv=>lhs;rw[←List.take_append_drop i.toNat v.l,List.drop_eq_getElem_cons hlt,hx]
  simp
 have e2:(v.set i y).c E=((v.l.take i.toNat).map E).flatten++(E y++((v.l.drop (i.toNat+1)).map E).flatten):=by
  unfold Vec.c Vec.set
  simp only
  rw[List.set_eq_take_append_cons_drop,if_pos hlt]
  simp
 have hl:(((v.l.take i.toNat).map E).flatten).length=i.toNat*z:=by rw[ZeP hE,List.length_take,Nat.min_eq_left (by omega)]
 rw[e1,e2]
 unfold Zau
 rw[←hl,List.take_left' rfl,←List.drop_drop,List.drop_left' rfl,List.drop_left' (by rw[hE,hE])]
theorem Zto {c new:List AV} (h:new.length=c.length):Zau c 0 new=new:=by
 unfold Zau;rw[Nat.zero_add,h,List.drop_length];simp
theorem Zsx (x:AV) (cs new:List AV) (o:Nat):Zau (x::cs) (o+1) new=x::Zau cs o new:=by
 unfold Zau;rw[show o+1+new.length=(o+new.length)+1 by omega];simp
theorem Zuf {cs new:List AV}{o:Nat} (r:List AV) (h:o+new.length≤cs.length):Zau (cs++r) o new=Zau cs o new++r:=by
 unfold Zau
 rw[List.take_append_of_le_length (by omega),List.drop_append_of_le_length h];simp
structure VK {α:Type} (z:Nat) (E:α→List AV):Prop where
 len:∀ x,(E x).length=z
 ice:∀ x,Ice (E x)
theorem Zjk (d:Nat):∀ a b x y:List AV,AV.unL d a=some x→AV.unL d b=some y→AV.unL d (a++b)=some (x++y)
 |[],b,x,y,h,k=>by simp only[AV.unL,oE]at h;subst h;simpa using k
 |u::a,b,x,y,h,k=>by
  simp only[AV.unL]at h
  split at h
  ·rename_i p q hp hq
   obtain rfl:=oi h
   simp only[List.cons_append,AV.unL,hp,Zjk d a b q y hq k]
  ·cases h
theorem Ziw (G:Get):∀ a b x y:List AV,AV.frzL G a=some x→AV.frzL G b=some y→AV.frzL G (a++b)=some (x++y)
 |[],b,x,y,h,k=>by simp only[AV.frzL,oE]at h;subst h;simpa using k
 |u::a,b,x,y,h,k=>by
  simp only[AV.frzL]at h
  split at h
  ·rename_i p q hp hq
   obtain rfl:=oi h
   simp only[List.cons_append,AV.frzL,hp,Ziw G a b q y hq k]
  ·cases h
theorem Zjt (G:Get) (F:Nat→Nat→Option (List AV)):∀ a b x y:List AV,AV.brL G F a=some x→AV.brL G F b=some y→AV.brL G F (a++b)=some (x++y)
 |[],b,x,y,h,k=>by simp only[AV.brL,oE]at h;subst h;simpa using k
 |u::a,b,x,y,h,k=>by
  simp only[AV.brL]at h
  split at h
  ·rename_i p q hp hq
   obtain rfl:=oi h
   simp only[List.cons_append,AV.brL,hp,Zjt G F a b q y hq k]
  ·cases h
theorem ZiX (ks:List Nat):∀ a b x y:List AV,AV.renL ks a=some x→AV.renL ks b=some y→AV.renL ks (a++b)=some (x++y)
 |[],b,x,y,h,k=>by simp only[AV.renL,oE]at h;subst h;simpa using k
 |u::a,b,x,y,h,k=>by
  simp only[AV.renL]at h
  split at h
  ·rename_i p q hp hq
   obtain rfl:=oi h
   simp only[List.cons_append,AV.renL,hp,ZiX ks a b q y hq k]
  ·cases h
theorem Zgl (k:Nat):∀ a b:List AV,AV.impL k (a++b)=AV.impL k a++AV.impL k b
 |[],b=>rfl
 |x::a,b=>by simp only[List.cons_append,AV.impL,Zgl k a b]
theorem Zf5:∀ a b:List AV,AV.refsL (a++b)=AV.refsL a++AV.refsL b
 |[],b=>rfl
 |x::a,b=>by simp only[List.cons_append,AV.refsL,Zf5 a b,List.append_assoc]
theorem Ice.append {a b:List AV} (h:Ice a) (k:Ice b):Ice (a++b):=
 ⟨fun d=>by rw[Zhk,h.sh,k.sh],fun G=>Ziw G _ _ _ _ (h.frz G) (k.frz G),fun G F=>Zjt G F _ _ _ _ (h.br G F) (k.br G F),by rw[Zf5,h.refs,k.refs];rfl,
  fun n=>by rw[Zgl,h.imp,k.imp],fun ks=>ZiX ks _ _ _ _ (h.ren ks) (k.ren ks),fun d=>Zjk d _ _ _ _ (h.un d) (k.un d)⟩
theorem Ice.nil:Ice []:=⟨fun _=>rfl,fun _=>rfl,fun _ _=>rfl,rfl,fun _=>rfl,fun _=>rfl,fun _=>rfl⟩
theorem Ice.flat {α:Type}{E:α→List AV} (h:∀ x,Ice (E x)):∀ l:List α,Ice (l.map E).flatten
 |[]=>Ice.nil
 |x::l=>by rw[List.map_cons,List.flatten_cons];exact(h x).append (Ice.flat h l)
theorem VK.vec {α:Type}{z:Nat}{E:α→List AV} (h:VK z E) (n:Nat):VK (n*z) (Vec.c (n:=n) E):=
 ⟨fun v=>v.len h.len,fun v=>Ice.flat h.ice v.l⟩
theorem ZaN:VK 1 eI:=⟨fun _=>rfl,fun _=>⟨fun _=>rfl,fun _=>rfl,fun _ _=>rfl,rfl,fun _=>rfl,fun _=>rfl,fun _=>rfl⟩⟩
theorem Zaw:VK 1 eU8:=⟨fun _=>rfl,fun _=>⟨fun _=>rfl,fun _=>rfl,fun _ _=>rfl,rfl,fun _=>rfl,fun _=>rfl,fun _=>rfl⟩⟩
theorem Zgc:∀ (z a b z' a' b':List AV),z.length=a.length→a.length=b.length→Zay (z++z') (a++a') (b++b')=(match Zay z a b,Zay z' a' b' with
  |some p,some q=>some (p&&q)
  |_,_=>none)
 |[],[],[],z',a',b',_,_=>by
  simp only[List.nil_append,Zay]
  cases Zay z' a' b'<;>simp
 |x::z,p::a,q::b,z',a',b',h1,h2=>by
  simp only[List.cons_append,Zay]
  rw[Zgc z a b z' a' b' (by simpa using h1) (by simpa using h2)]
  cases ZcK x p q<;>cases Zay z a b<;>cases Zay z' a' b'<;>simp[Bool.and_assoc]
 |[],_::_,_,_,_,_,h,_=>by simp at h
 |_::_,[],_,_,_,_,h,_=>by simp at h
 |[],[],_::_,_,_,_,_,h=>by simp at h
 |_::_,_::_,[],_,_,_,_,h=>by simp at h
theorem Zh3 {α:Type}{E:α→List AV}{z:Nat}{zc:List AV} (hE:∀ x,(E x).length=z) (hz:zc.length=z) (eq:α→α→Bool) (h:∀ x y,Zay zc (E x) (E y)=some (eq x y)):
  ∀ (n:Nat) (a b:List α),a.length=n→b.length=n→Zay (List.replicate n zc).flatten (a.map E).flatten (b.map E).flatten=some (a.zip b |>.all fun p=>eq p.1 p.2)
 |0,[],[],_,_=>by simp[Zay]
 |n+1,x::a,y::b,h1,h2=>by
  rw[List.replicate_succ,List.map_cons,List.map_cons,List.flatten_cons,List.flatten_cons,List.flatten_cons,Zgc _ _ _ _ _ _ (by rw[hz,hE]) (by rw[hE,hE]),h x y,
   Zh3 hE hz eq h n a b (by simpa using h1) (by simpa using h2)]
  simp
structure UpdE {α:Type} (cs:List AV) (o:Nat) (E:α→List AV) (x:α) (g:α→List AV):Prop where
 sub:Sub cs o (E x)
 ow:∀ y,Zau cs o (E y)=g y
theorem UpdE.self {α:Type}{E:α→List AV}{z:Nat} (hE:∀ x,(E x).length=z) (x:α):UpdE (E x) 0 E x E:=
 ⟨Sub.self _,fun y=>Zto (by rw[hE,hE])⟩
theorem UpdE.cons {α:Type}{E:α→List AV}{cs:List AV}{o:Nat}{x:α}{g:α→List AV} (a:AV) (h:UpdE cs o E x g):UpdE (a::cs) (o+1) E x (fun y=>a::g y):=
 ⟨h.sub.cons a,fun y=>by rw[Zsx,h.ow]⟩
theorem UpdE.app {α:Type}{E:α→List AV}{z:Nat} (hE:∀ x,(E x).length=z) {cs:List AV}{o:Nat}{x:α}{g:α→List AV} (r:List AV) (h:UpdE cs o E x g):UpdE (cs++r) o E x (fun y=>g y++r):=
 ⟨h.sub.app r,fun y=>by rw[Zuf r (by have:=h.sub.bound (hE x);rw[hE];exact this),h.ow]⟩
theorem UpdE.skip {α:Type}{E:α→List AV}{cs:List AV}{o:Nat}{x:α}{g:α→List AV} (h:UpdE cs o E x g):∀ p:List AV,UpdE (p++cs) (p.length+o) E x (fun y=>p++g y)
 |[]=>by simpa using h
 |a::p=>by
  have:=(UpdE.skip h p).cons a
  rw[List.length_cons,show p.length+1+o=p.length+o+1 by omega]
  exact this
theorem UpdE.idx {n:Nat}{α:Type}{E:α→List AV}{z:Nat} (hE:∀ x,(E x).length=z) {v:Vec n α}{i:Int}{x:α} (h:v.at? i=some x):UpdE (v.c E) (i.toNat*z) E x (fun y=>(v.set i y).c E):=
 ⟨Sub.idx hE h,fun y=>ZuC hE h y⟩
theorem UpdE.within {α β:Type}{cs:List AV}{o o':Nat}{E:α→List AV}{x:α}{g:α→List AV}{E':β→List AV}{x':β}{g':β→List AV}{z:Nat} (hE:∀ x,(E' x).length=z)
  (h:UpdE cs o E x g) (k:UpdE (E x) o' E' x' g') (up:β→α) (hg:∀ y,g' y=E (up y)):UpdE cs (o+o') E' x' (fun y=>g (up y)):=
 ⟨h.sub.trans k.sub,fun y=>by rw[ZqN h.sub k.sub (by rw[hE,hE]),k.ow,hg,h.ow]⟩
theorem UpdE.at {n:Nat}{α:Type}{E:α→List AV}{z:Nat} (hE:∀ x,(E x).length=z) {cs:List AV}{o:Nat}{v:Vec n α}{g:Vec n α→List AV} (h:UpdE cs o (Vec.c E) v g) {i:Int}{x:α} (hx:v.at? i=some x):
  UpdE cs (o+i.toNat*z) E x (fun y=>g (v.set i y)):=
 UpdE.within hE h (UpdE.idx hE hx) (fun y=>v.set i y) (fun _=>rfl)
theorem UpdE.bound {α:Type}{cs:List AV}{o z:Nat}{E:α→List AV}{x:α}{g:α→List AV} (h:UpdE cs o E x g) (hE:∀ x,(E x).length=z):o+z≤cs.length:=h.sub.bound (hE x)
theorem UpdE.get {α:Type}{cs:List AV}{o z:Nat}{E:α→List AV}{x:α}{g:α→List AV} (h:UpdE cs o E x g) (hE:∀ x,(E x).length=z):(cs.drop o).take z=E x:=h.sub.get (hE x)
def Vec.eq {n:Nat}{α:Type} (eq:α→α→Bool) (a b:Vec n α):Bool:=(a.l.zip b.l).all fun p=>eq p.1 p.2
theorem Zc4 {n:Nat}{α:Type}{E:α→List AV}{z:Nat} (hE:∀ x,(E x).length=z) {x0:α}{eq:α→α→Bool} (h:∀ x y,Zay (E x0) (E x) (E y)=some (eq x y)) (a b:Vec n α):
  Zay ((Vec.rep n x0).c E) (a.c E) (b.c E)=some (a.eq eq b):=by
 have:=Zh3 hE (hE x0) eq h n a.l b.l a.h b.h
 unfold Vec.c Vec.rep Vec.eq
 simp only[List.map_replicate]
 exact this
def Vec.put {n:Nat}{α:Type} (v:Vec n α) (o m:Nat) (l:List α):Vec n α:=
 if h:o+m≤n then ⟨v.l.take o++(l.take m++v.l.drop (o+min l.length m)),by
  simp only[List.length_append,List.length_take,List.length_drop,v.h];omega⟩ else v
theorem Zth {n:Nat} (v:Vec n Int):v.c eU8=v.l.map (AV.int .u8):=by
 unfold Vec.c eU8
 induction v.l with
 |nil=>rfl
 |cons x l ih=>simp[ih]
theorem Zup (l:List Int):(l.map eU8).flatten=l.map (AV.int .u8):=by
 unfold eU8
 induction l with
 |nil=>rfl
 |cons x l ih=>simp[ih]
theorem Zp5 {n:Nat} (v:Vec n Int) (o m:Nat):(AV.frzL (fun _ _=>none) (((v.c eU8).drop o).take m)).map (fun cs=>cs.map fun c=>[c])=some ((((v.l.drop o).take m)).map eU8):=by
 rw[Zth,←List.map_drop,←List.map_take]
 generalize (v.l.drop o).take m=l
 have:AV.frzL (fun _ _=>none) (l.map (AV.int .u8))=some (l.map (AV.int .u8)):=by
  induction l with
  |nil=>rfl
  |cons x l ih=>simp only[List.map_cons,AV.frzL,AV.frz,ih]
 rw[this]
 simp[eU8]
theorem ZnT {n:Nat} (v:Vec n Int) (o m:Nat) (l:List Int) (h:o+m≤n):Zau (v.c eU8) o ((l.map eU8).take m).flatten=(v.put o m l).c eU8:=by
 unfold Vec.put
 rw[dif_pos h,←List.map_take,Zup,Zth,Zth]
 unfold Zau
 simp only[List.map_append,List.map_take,List.map_drop,List.length_take,List.length_map]
 rw[Nat.min_comm]
def Zma (l:List Int):ByteArray:=⟨(l.map fun n=>UInt8.ofNat n.toNat).toArray⟩
theorem Zit:∀ l:List Int,bytesOf (l.map eU8)=some (l.map fun n=>UInt8.ofNat n.toNat)
 |[]=>rfl
 |x::l=>by simp only[List.map_cons,bytesOf,Zit l,eU8,ZmM]
def ZfS (s:ByteArray):List Int:=s.data.toList.map fun c=>(c.toNat:Int)
theorem ZkC (s:ByteArray):Zgv s=(ZfS s).map eU8:=by
 unfold Zgv ZfS eU8;rw[List.map_map];rfl
theorem Zcv (s:ByteArray):(ZfS s).length=s.size:=by unfold ZfS;rw[List.length_map];rfl
def Zss (s:ByteArray) (i:Int):Option Int:=if 0≤i∧i<s.size then some ((s.data.toList.getD i.toNat 0).toNat:Int) else none
theorem ZhB {s:ByteArray}{i x:Int} (h:Zss s i=some x):ZbY i s.size=some i.toNat:=by
 unfold Zss at h
 split at h
 ·rename_i hc;unfold ZbY;rw[if_pos hc]
 ·cases h
theorem Zfc {s:ByteArray}{i x:Int} (h:Zss s i=some x):((s.data.toList.getD i.toNat 0).toNat:Int)=x:=by
 unfold Zss at h
 split at h
 ·exact oi h
 ·cases h
theorem ZqU (l:List Int):(⟨(l.map fun n=>UInt8.ofNat n.toNat).toArray⟩:ByteArray)=Zma l:=rfl
def Zwd (x:Int):List AV:=[.int .u64 x]
theorem ba0:(⟨#[]⟩:ByteArray)=ByteArray.empty:=rfl
def sh? (y:Int):Option Unit:=if y<0 then none else some ()
theorem Zdl {y:Int}{u:Unit} (h:sh? y=some u):(y<0)=False:=by
 unfold sh? at h
 split at h
 ·cases h
 ·rename_i h1;exact eq_false h1
theorem ZtM:min (Int.toNat 1) 64=1:=rfl
theorem Zub:min (Int.toNat 8) 64=8:=rfl
theorem ZsB:min (Int.toNat 16) 64=16:=rfl
theorem Ztl:min (Int.toNat 24) 64=24:=rfl
theorem ZrX:min (Int.toNat 32) 64=32:=rfl
attribute [go_sem] ZtM Zub ZsB Ztl ZrX Zwd ba0 Zjl Zf2 Zek Zgl Zf5 List.cons_append List.nil_append List.append_nil
end Go.Abs
namespace Go.Abs
open Go Go.RowKit
set_option linter.unusedSectionVars false
section
variable {P:Program}{T:Tys}{N0:Nat}{W0:World}{fm:FM}{ts:List Tie}{H:Zar}{w:World}
def Zmg (P:Program) (f:FuncId) (args:List AV) (X:Fra) (R:AV→Fra→Fra→Prop):Prop:=
 ∀ (f1:Fra) (H:Zar),ZfU P f args ((X++f1)::H) (fun y fr H'=>∃ X',R y fr X'∧H'=(X'++f1)::H)
theorem Zmg.of_body (hT : ZaW P T) {f : FuncId} {fn : Func} {c : Code} {sc : SC} {args : List AV} {X : Fra} {R : AV → Fra → Fra → Prop} (hf : P.funcs[f]? = some fn) (hb : fn.body = some c) (hnm : (fn.name == "runtime.NumGoroutine") = false)
  (he:sc.bare=Zbh fn.ntmps c) (hfit:(Zbh fn.ntmps c).fits fn.ntmps=true) (hargs:args.length≤fn.ntmps)
  (h:∀ f1 H,AK P fn.ntmps (ZuW T fn.results.toList fun y fr H'=>∃ X',R y fr X'∧H'=(X'++f1)::H) [.sc sc] (St.enter args ((X++f1)::H) fn.ntmps)):Zmg P f args X R:=
 fun f1 H=>ZfU.of_body hT hf hb hnm he hfit hargs (h f1 H) (by rintro y fr H' ⟨X',_,rfl⟩;rfl)
theorem Zl5 {n:Nat}{rs:List ResultVar}{f1:Fra}{st:St}{e:Exit}{y0:AV}{X0:Fra} (he:e=.ret∨e=.normal) (h1:((Zcw T st rs).bind fun xs=>(Zb6 xs).ren [])=some y0) (h2:st.low=(X0++f1)::H):
  Zcy P n (ZuW T rs fun y fr H'=>∃ X',(y=y0∧fr=[]∧X'=X0)∧H'=(X'++f1)::H) (.fin e st):=by
 obtain⟨xs,h3,h4⟩:=Option.bind_eq_some_iff.1 h1
 have:∃ xs,Zcw T st rs=some xs∧Gives (fun y fr H'=>∃ X',(y=y0∧fr=[]∧X'=X0)∧H'=(X'++f1)::H) (Zb6 xs) st:=
  ⟨xs,h3,.own [] y0 [] (by simp) (by simp) h4 rfl ⟨X0,⟨rfl,rfl,rfl⟩,h2⟩⟩
 rcases he with rfl|rfl<;>exact this
theorem Zrw {xs ys:List AV}{vs:List Value}{ks:List Nat}{t:Tie}{rest:List Tie} (h:VRs fm (t::rest) xs vs) (e:AV.renL ks xs=some ys):VRs fm (Zhq ks t::rest) ys vs:=by
 have g:=ZeC ks _ _ e
 refine⟨by rw[g.1];exact h.1,fun i y v hy hv=>?_⟩
 have hlt:i<xs.length:=by rw[←g.1];exact(gS.1 hy).1
 obtain⟨y',hy',hu⟩:=g.2 i _ (gG hlt)
 rw[hy]at hy';obtain rfl:=oi hy'
 exact(h.2 i _ v (gG hlt) hv).ren rfl hu
theorem Ztr {xs:List AV}{vs:List Value}{t:Tie} (h:VRs fm ts xs vs):VRs fm (t::ts) (AV.shL 1 xs) vs:=by
 refine⟨by rw[Zb2];exact h.1,?_⟩
 intro i x v hx hv
 rw[Zdu,mS]at hx
 obtain⟨y,hy,rfl⟩:=hx
 exact(h.2 i y v hy hv).sh 1 (by simp)
def Zm8 (ks:List Nat) (args:List AV):Option (List AV):=
 match AV.unL 1 args with
 |some xs=>match AV.renL ks xs with
  |some ys=>some (AV.shL 1 ys)
  |none=>none
 |none=>none
section
variable [Md] {n:Nat}{Φ:Exit→St→Prop}{f:FuncId}{args:List AV}{dst:Option Tmp}{drop:List Nat}{todo:List It}{st:St}
theorem Zgt.norm {st1:St}{args1:List AV}{keep ks:List Nat}{nx:Nat} (e:st.norm keep ks nx=some st1) (hnd:ks.Nodup) (hnx:ks.length≤nx) (ea:Zm8 ks args=some args1):Zgt n st args st1 args1:=by
 intro N0 W0 a w fm ts vs h hv
 unfold St.norm at e
 split at e
 ·rename_i tm fr htm hfr
  obtain rfl:=oi e
  cases ts with
  |nil=>have:=h.hr.len;simp at this
  |cons t rest=>
   refine⟨fm,Zhq ks t::rest,⟨h.hr.ren hfr hnd,?_,?_,h.size,h.dfr⟩,⟨FmUp.refl _ _,ZaS.refl _,fun _ _ h=>h⟩,?_⟩
   ·intro i y hy
    obtain⟨x,h1,h2⟩:=Zht ks st.tm keep tm htm i y hy
    obtain⟨v,h3,h4⟩:=h.tm i x h1
    exact⟨v,h3,h4.ren rfl h2⟩
   ·intro k hk
    have hk':nx≤k:=hk
    simp only[tb,Zhq]
    rw[List.getElem?_eq_none (by omega)];rfl
   ·unfold Zm8 at ea
    split at ea
    ·rename_i xs hxs
     split at ea
     ·rename_i ys hys
      obtain rfl:=oi ea
      have h1:=Zpb hxs hv
      exact Ztr (Zrw (by simpa using h1) hys)
     ·cases ea
    ·cases ea
 ·cases e
theorem Zgt.trans {a b c:St}{xs ys zs:List AV} (h:Zgt n a xs b ys) (k:Zgt n b ys c zs):Zgt n a xs c zs:=by
 intro N0 W0 x w fm ts vs hS hv
 obtain⟨fm1,ts1,h1,h2,h3⟩:=h N0 W0 x w fm ts vs hS hv
 obtain⟨fm2,ts2,h4,h5,h6⟩:=k N0 W0 x w fm1 ts1 vs h1 h3
 exact⟨fm2,ts2,h4,h2.trans h5,h6⟩
theorem Zno {st1:St}{args1:List AV} (hm:Zgt n st args st1 args1) (h:Zcy P n Φ (.call f args1 dst drop todo st1)):Zcy P n Φ (.call f args dst drop todo st):=by
 obtain⟨st2,args2,R,Rp,h1,h2,h3,h4⟩:=h
 exact⟨st2,args2,R,Rp,hm.trans h1,h2,h3,h4⟩
def nOK (P:Program) (n:Nat) (Φ:Exit→St→Prop) (f:FuncId) (dst:Option Tmp) (drop:List Nat) (todo:List It):Option St→Option (List AV)→Prop
 |some st1,some args1=>Zcy P n Φ (.call f args1 dst drop todo st1)
 |_,_=>False
theorem Zrp {st1:St}{args1:List AV}:nOK P n Φ f dst drop todo (some st1) (some args1)=Zcy P n Φ (.call f args1 dst drop todo st1):=rfl
theorem Zfk (keep ks:List Nat) (nx:Nat) (hnd:(decide ks.Nodup&&decide (ks.length≤nx))=true) (h:nOK P n Φ f dst drop todo (st.norm keep ks nx) (Zm8 ks args)):Zcy P n Φ (.call f args dst drop todo st):=by
 unfold nOK at h
 split at h
 ·rename_i st1 args1 h1 h2
  simp only[Bool.and_eq_true,decide_eq_true_eq]at hnd
  exact Zno (Zgt.norm h1 hnd.1 hnd.2 h2) h
 ·exact h.elim
theorem Zeq {args0:List AV}{X0 X1:Fra}{y0:AV}{fr0:Fra} (hp:Zmg P f args0 X0 (fun y fr X'=>y=y0∧fr=fr0∧X'=X1)) (ha:args=args0∧st.fr.take X0.length=X0)
  (h:AK P n Φ todo (st.took dst drop y0 fr0 ((X1++st.fr.drop X0.length)::st.low))):Zcy P n Φ (.call f args dst drop todo st):=by
 obtain⟨rfl,hx⟩:=ha
 have h1:=hp (st.fr.drop X0.length) st.low
 have e:X0++st.fr.drop X0.length=st.fr:=by
  have:=List.take_append_drop X0.length st.fr
  rw[hx]at this;exact this
 rw[e]at h1
 refine ZgQ h1 ?_
 rintro v fr H ⟨X',⟨rfl,rfl,rfl⟩,rfl⟩
 exact h
def AV.lo:AV→Bool
 |.loc l _ _ _ _ _=>l==0
 |.ptr l _ _=>l==0
 |x=>x.leaf
def AV.lot:AV→Bool
 |.tup vs=>vs.all AV.lo
 |.agg cs=>cs.all AV.lo
 |x=>x.lo
def Blk.lo:Blk→Prop
 |.arr _ _ es=>∀ c∈es,∀ x∈c,x.leaf=true
 |.box cs=>∀ x∈cs,x.lo=true
theorem VR.lo {fm fm':FM}{t:Tie}{ts:List Tie}{x:AV}{v:Value} (h:VR fm' [t] x v) (hx:x.lo=true):VR fm (t::ts) x v:=by
 cases h with
 |locGone l k esz i n g a cp h hn' ha=>
  obtain rfl:l=0:=by simpa [AV.lo] using hx
  exact .locGone 0 _ esz i n g a cp h hn' ha
 |locOld l k esz i n g a cp m' c h hlt hn' ha=>
  obtain rfl:l=0:=by simpa [AV.lo] using hx
  exact .locOld 0 _ esz i n g a cp m' c h hlt hn' ha
 |locNil l k esz a h=>
  obtain rfl:l=0:=by simpa [AV.lo] using hx
  exact .locNil 0 _ esz a h
 |loc l k esz i n g c cap cp a h hn' hnc hc ha=>
  obtain rfl:l=0:=by simpa [AV.lo] using hx
  exact .loc 0 _ esz i n g c cap cp a h hn' hnc hc ha
 |ptr l k o c h=>
  obtain rfl:l=0:=by simpa [AV.lo] using hx
  exact .ptr 0 _ o c h
 |bool b=>exact .bool b
 |int k n=>exact .int k n
 |str s=>exact .str s
 |nil=>exact .nil
 |pnil=>exact .pnil
 |fnil=>exact .fnil
 |inil=>exact .inil
 |_=>simp[AV.lo,AV.leaf]at hx
theorem VR.lot {fm fm':FM}{t:Tie}{ts:List Tie}{x:AV}{v:Value} (h:VR fm' [t] x v) (hx:x.lot=true):VR fm (t::ts) x v:=by
 cases x with
 |tup xs=>
  cases h with
  |tup _ vs h1 h3=>exact .tup xs vs h1 (fun i x v a b=>(h3 i x v a b).lo (List.all_eq_true.1 hx x (List.mem_of_getElem? a)))
 |agg cs=>
  cases h with
  |agg _ vs h1 h2 h3=>exact .agg cs vs h1 h2 (fun i x v a b=>(h3 i x v a b).lo (List.all_eq_true.1 hx x (List.mem_of_getElem? a)))
 |_=>exact h.lo hx
theorem BR.lo {fm fm':FM}{t:Tie}{ts:List Tie}{w:World}{N N0:Nat}{x:Option TB}{b:Blk} (h:BR fm' [t] w N x b) (hN:N0≤N) (hb:b.lo):BR fm (t::ts) w N0 x b:=by
 cases h with
 |nil et esz=>exact .nil et esz
 |arr et esz es c cap h1 hA=>
  obtain⟨cells,a1,a2,a3,a4,a5,a6,a7⟩:=hA
  refine .arr et esz es c cap (Nat.le_trans hN h1) ⟨cells,a1,a2,a3,a4,a5,a6,?_⟩
  intro i d o x v p q r
  have:=a7 i d o x v p q r
  exact⟨this.1,this.2.leaf (hb d (List.mem_of_getElem? p) x (List.mem_of_getElem? q))⟩
 |box c cs h1 hB=>
  obtain⟨cells,et,c1,c2,c3⟩:=hB
  exact .box c cs (Nat.le_trans hN h1) ⟨cells,et,c1,c2,fun o x v p q=>⟨(c3 o x v p q).1,(c3 o x v p q).2.lo (hb x (List.mem_of_getElem? p))⟩⟩
def Zu4:Fra→Prop
 |[]=>True
 |(_,b)::l=>b.lo∧Zu4 l
theorem Zk8:∀ (l:Fra) (k:Nat) (b:Blk),Zu4 l→look l k=some b→b.lo
 |[],k,b,_,h=>by simp[look]at h
 |(j,x)::l,k,b,h,e=>by
  simp only[look]at e
  split at e
  ·obtain rfl:=oi e;exact h.1
  ·exact Zk8 l k b h.2 e
theorem Zc3.lent {f:FuncId}{args fargs:List AV}{y0:AV}{fr0:Fra} (m:Nat) (hp:Zc3 P f fargs [] (fun y fr=>y=y0∧fr=fr0)) (hz:AV.brL (Zar.get ([]::H)) (Abs.boxF (Zar.get ([]::H)) m) args=some fargs) (hy:y0.lot=true) (hf:Zu4 fr0):
  ZfU P f args H (fun y fr H'=>y=y0∧fr=fr0∧H'=H):=by
 refine⟨hp.1,fun N0 W0 fm ts w vs hH hv=>?_⟩
 have h1:=hH.push.brs _ (hH.push.boxF m) hv hz
 have hn:HR w.heap.size w (fun b o=>w.cell? ⟨b,o,none⟩) [] [] w:=HR.nothing (fun b o v h=>h)
 have hv1:VRs (fun b o=>w.cell? ⟨b,o,none⟩) (Zci::[]) fargs vs:=by
  have hz':AV.unL 0 fargs=AV.unL 0 fargs:=rfl
  refine⟨h1.1,fun i x v a b=>?_⟩
  have h2:=h1.2 i x v a b
  exact h2.mono (Zdw.refl _) (fun l k=>by simp only[tb];trivial)
 refine Calls.mono (hp.2 [] w.heap.size w _ Zci [] w vs hn.push (fun _ _=>rfl) hv1) ?_
 rintro e w' ⟨v,y,fr',fm',t',ts',rfl,⟨rfl,rfl⟩,hhr,hvr,hup,htl,hno,h16⟩
 have hts:ts'=[]:=by have:=hhr.len;simp at this;exact this
 subst hts
 have hb:=hhr.bel
 have hH':HR N0 W0 fm ts H w':=hH.world (fun i hi=>hb.block i hi) (hb.mono hH.size)
 refine⟨v,y,fr',H,fm,t',ts,rfl,⟨rfl,rfl,rfl⟩,rfl,?_,hvr.lot hy,FmUp.refl _ _,ZaS.refl _,fun _ _ h=>h,h16⟩
 have up:∀ {k b c},look fr' k=some b→tbc (t' k)=some c→w.heap.size≤c:=by
  intro k b c hk hc
  have:=(hhr.blk 0 k b (by simpa [Zar.get] using hk)).lt (by simpa [tb] using hc)
  exact this.2
 have low:∀ {l k b c},Zar.get H l k=some b→tbc (tb ts l k)=some c→c<w.heap.size:=by
  intro l k b c hk hc
  exact((hH.blk l k b hk).lt hc).1
 refine⟨by have:=hH'.len;simpa using this,?_,?_,hH'.fms,?_,hH'.bel,hH'.size,hH'.oth⟩
 ·intro l k b hg
  cases l with
  |zero=>
   have h2:=hhr.blk 0 k b (by simpa [Zar.get] using hg)
   simp only[List.drop_zero,tb]at h2 ⊢
   exact h2.lo hH.size (Zk8 _ _ _ hf (by simpa [Zar.get] using hg))
  |succ l=>exact hH'.blk l k b hg
 ·intro l k l' k' b b' c g1 g2 t1 t2
  cases l with
  |zero=>
   cases l' with
   |zero=>exact hhr.inj 0 k 0 k' b b' c (by simpa [Zar.get] using g1) (by simpa [Zar.get] using g2) t1 t2
   |succ l'=>exact absurd (low g2 t2) (by have:=up (by simpa [Zar.get] using g1) t1;omega)
  |succ l=>
   cases l' with
   |zero=>exact absurd (low g1 t1) (by have:=up (by simpa [Zar.get] using g2) t2;omega)
   |succ l'=>
    have:=hH'.inj l k l' k' b b' c g1 g2 t1 t2
    exact⟨by omega,this.2⟩
 ·intro l k b c o hg hc
  cases l with
  |zero=>exact hH.noFm (up (by simpa [Zar.get] using hg) hc) o
  |succ l=>exact hH'.fmd l k b c o hg hc
theorem ZmV (hT:ZaW P T) {fargs:List AV}{y0:AV}{fr0:Fra} (m:Nat) (hp:Zc3 P f fargs [] (fun y fr=>y=y0∧fr=fr0)) (hz:AV.brL (Zar.get ([]::st.fr::st.low)) (Abs.boxF (Zar.get ([]::st.fr::st.low)) 5) args=some fargs) (hy:y0.lot=true) (hf:Zu4 fr0)
  (h:Zcy P n Φ (run T m todo (st.took dst drop y0 fr0 (st.fr::st.low)))):Zcy P n Φ (.call f args dst drop todo st):=by
 refine ZgQ (Zc3.lent 5 hp hz hy hf) ?_
 rintro y fr H' ⟨rfl,rfl,rfl⟩
 exact Zae hT m _ _ h
end
def aP {α:Type} (z:Nat) (E:α→List AV):Option α→AV
 |none=>.pnil
 |some x=>.rptr z [E x] 0 0
section
variable {α:Type}{z:Nat}{E:α→List AV} (x:Option α)
theorem ZsZ (y:α):aP z E (some y)=.rptr z [E y] 0 0:=rfl
theorem Zsj:aP z E none=.pnil:=rfl
theorem Zvo (d:Nat):(aP z E x).sh d=aP z E x:=by cases x<;>rfl
theorem Zud (G:Get):(aP z E x).frz G=some (aP z E x):=by cases x<;>rfl
theorem Zvw (G:Get) (F:Nat→Nat→Option (List AV)):(aP z E x).br G F=some (aP z E x):=by cases x<;>rfl
theorem ZsG:(aP z E x).refs=[]:=by cases x<;>rfl
theorem ZtJ (k:Nat):(aP z E x).imp k=aP z E x:=by cases x<;>rfl
theorem Zuy (ks:List Nat):(aP z E x).ren ks=some (aP z E x):=by cases x<;>rfl
theorem Zv6 (d:Nat):(aP z E x).un d=some (aP z E x):=by cases x<;>rfl
theorem Zsl:(aP z E x).flat=true:=by cases x<;>rfl
end
attribute [go_sem] Zmb Zog ZsZ Zsj Zvo Zud Zvw ZsG ZtJ Zuy Zv6 Zsl Zrp Zm8 St.norm Zmv Zhc AV.ren AV.renL Blk.ren Zrn idx Zu4 Blk.lo AV.lo AV.lot
def ZpI {α:Type} (n:Int) (b:Nat) (z:α):Option (List α):=(mk? n b).map fun _=>List.replicate n.toNat z
theorem Zr3 {α:Type}{n:Int}{b:Nat}{z:α}{l:List α} (h:ZpI n b z=some l):∃ u,mk? n b=some u:=by
 unfold ZpI at h
 obtain⟨u,hu,_⟩:=mS.1 h
 exact⟨u,hu⟩
theorem ZoS {α:Type}{n:Int}{b:Nat}{z:α}{l:List α} (h:ZpI n b z=some l):l=List.replicate n.toNat z:=by
 unfold ZpI at h
 obtain⟨u,_,hl⟩:=mS.1 h
 exact hl.symm
theorem Ztw {α β:Type} (E:α→β) {n:Int}{b:Nat}{z:α}{l:List α} (h:ZpI n b z=some l):List.replicate n.toNat (E z)=List.map E l:=by
 rw[ZoS h,List.map_replicate]
theorem Zse {α:Type}{n:Int}{b:Nat}{z:α}{l:List α} (h:ZpI n b z=some l):l.length=n.toNat:=by
 rw[ZoS h];simp
theorem Zqp {α β:Type} (E:α→β) {n:Int}{b:Nat}{z:α}{l:List α} (h:ZpI n b z=some l):List.take n.toNat (List.map E l)=List.map E l:=by
 rw[ZoS h];simp
def Lf {α:Type} (E:α→List AV):Prop:=∀ x,∀ y∈E x,y.leaf=true
theorem Zwr:Lf eI:=fun x y h=>by simp only[eI,List.mem_singleton]at h;subst h;rfl
theorem ZtR:Lf eU8:=fun x y h=>by simp only[eU8,List.mem_singleton]at h;subst h;rfl
theorem Lf.vec {n:Nat}{α:Type}{E:α→List AV} (h:Lf E):Lf (Vec.c (n:=n) E):=by
 intro v y hy
 unfold Vec.c at hy
 rw[List.mem_flatten]at hy
 obtain⟨l,hl,hy⟩:=hy
 obtain⟨x,_,rfl⟩:=List.mem_map.1 hl
 exact h x y hy
theorem Lf.map {α:Type}{E:α→List AV} (h:Lf E) (l:List α):(∀ c∈List.map E l,∀ x∈c,x.leaf=true):=by
 intro c hc x hx
 obtain⟨y,_,rfl⟩:=List.mem_map.1 hc
 exact h y x hx
end
end Go.Abs
namespace Go.Abs
open Go Go.RowKit
set_option linter.unusedSectionVars false
section
variable {P:Program}{T:Tys}{N0:Nat}{W0:World}{fm:FM}{ts:List Tie}{H:Zar}{w:World}
def ZuE (T:Tys) (rs:List ResultVar) (R:AV→Fra→Zar→Prop) (Rp:List PanicEntry→Zar→Prop) (e:Exit) (st:St):Prop:=
 match e with
 |.normal|.ret=>∃ xs y,Zcw T st rs=some xs∧(Zb6 xs).ren []=some y∧R y [] st.low
 |.panic ch=>Rp ch st.low
 |_=>False
theorem ZgH.of_body (hT : ZaW P T) {f : FuncId} {fn : Func} {c : Code} {sc : SC} {args : List AV} {H : Zar} {R : AV → Fra → Zar → Prop} {Rp : List PanicEntry → Zar → Prop} (hf : P.funcs[f]? = some fn) (hb : fn.body = some c) (hnm : (fn.name == "runtime.NumGoroutine") = false)
  (he:sc.bare=Zbh fn.ntmps c) (hfit:(Zbh fn.ntmps c).fits fn.ntmps=true) (hargs:args.length≤fn.ntmps)
  (h:AK P fn.ntmps (ZuE T fn.results.toList R Rp) [.sc sc] (St.enter args H fn.ntmps)) (hlow:∀ y fr H',R y fr H'→H'.length=H.length) (hlowp:∀ ch H',Rp ch H'→H'.length=H.length):ZgH P f args H R Rp:=by
 refine⟨⟨fn,hf,hnm,by simp[hb]⟩,?_⟩
 intro N0 W0 fm ts w vs hH hv
 refine calls_of_wp hf hb ((Zd3 []).1 ?_)
 have hS:=SR.enter hH hv hargs
 have:=h N0 W0 fm (Zci::ts) _ w [.code c] (bodyPost P fn fun e w'=>(∃ v av fr' H' fm' t' ts',e=.returned v∧R av fr' H'∧H'.length=H.length∧HR N0 W0 fm' (t'::ts') (fr'::H') w'∧VR fm' (t'::ts') av v∧FmUp N0 fm fm'∧ZaS ts ts'∧
   (∀ l k,tb ts l k=none→tb ts' l k=none)∧∀ k,16≤k→t' k=none)∨
   ∃ ch H' fm' ts',e=.panicked ch∧Rp ch H'∧H'.length=H.length∧HR N0 W0 fm' ts' H' w'∧FmUp N0 fm fm'∧ZaS ts ts'∧∀ l k,tb ts l k=none→tb ts' l k=none) hS (.sc he hfit .nil) ?_
 ·exact this
 ·intro e st' a' w' fm' ts' hE hS' hL
  cases ts' with
  |nil=>have:=hS'.hr.len;simp at this
  |cons t rest=>
   have hts:ZaS ts rest:=by simpa using hL.tle
   have hno:∀ l k,tb ts l k=none→tb rest l k=none:=by simpa using hL.no
   cases e with
   |normal=>
    obtain⟨xs,y,hxs,hy,hR⟩:=hE
    obtain⟨v,h1,h2⟩:=ZcB (P:=P) hT hS' hxs
    exact⟨hS'.dfr,v,h1,.inl ⟨v,y,[],st'.low,fm',Zhq [] t,rest,rfl,hR,hlow _ _ _ hR,hS'.hr.ren rfl (by simp),h2.ren rfl hy,hL.fle,hts,hno,fun k hk'=>rfl⟩⟩
   |ret=>
    obtain⟨xs,y,hxs,hy,hR⟩:=hE
    obtain⟨v,h1,h2⟩:=ZcB (P:=P) hT hS' hxs
    exact⟨hS'.dfr,v,h1,.inl ⟨v,y,[],st'.low,fm',Zhq [] t,rest,rfl,hR,hlow _ _ _ hR,hS'.hr.ren rfl (by simp),h2.ren rfl hy,hL.fle,hts,hno,fun k hk'=>rfl⟩⟩
   |panic ch=>exact⟨hS'.dfr,.inr ⟨ch,st'.low,fm',rest,rfl,hE,hlowp _ _ hE,hS'.hr.pop,hL.fle,hts,hno⟩⟩
   |_=>exact hE.elim
section
variable [Md] {n:Nat}{Φ:Exit→St→Prop}{f:FuncId}{args:List AV}{dst:Option Tmp}{drop:List Nat}{todo:List It}{st:St}
theorem ZbT {R:AV→Fra→Zar→Prop}{Rp:List PanicEntry→Zar→Prop} (hp:ZgH P f args (st.fr::st.low) R Rp) (h:∀ y fr H,R y fr H→AK P n Φ todo (st.took dst drop y fr H)) (h2:∀ ch H,Rp ch H→Φ (.panic ch) (st.withHeap H)):
  Zcy P n Φ (.call f args dst drop todo st):=⟨_,_,R,Rp,Zgt.refl _ _ _,hp,h,h2⟩
theorem Zn7 {t:TypeId}{x:AV} (h:∀ fm ts u,VR fm ts x u→Φ (.panic [{ v:=.iface t u,recovered:=false }]) st):Zcy P n Φ (.throw (.ifc t x) st):=⟨t,x,rfl,h⟩
theorem Zl1 {rs:List ResultVar}{R:AV→Fra→Zar→Prop}{Rp:List PanicEntry→Zar→Prop}{e:Exit}{y0:AV} (he:e=.ret∨e=.normal) (h1:((Zcw T st rs).bind fun xs=>(Zb6 xs).ren [])=some y0) (h2:R y0 [] st.low):Zcy P n (ZuE T rs R Rp) (.fin e st):=by
 obtain⟨xs,h3,h4⟩:=Option.bind_eq_some_iff.1 h1
 rcases he with rfl|rfl<;>exact⟨xs,y0,h3,h4,h2⟩
end
end
theorem Zmx (ks:List Nat) (b:List AV):∀ a:List AV,AV.renL ks (a++b)=(AV.renL ks a).bind fun x=>(AV.renL ks b).map (x++·)
 |[]=>by cases h:AV.renL ks b<;>simp[AV.renL,h]
 |u::a=>by
  simp only[List.cons_append,AV.renL,Zmx ks b a]
  cases u.ren ks<;>cases AV.renL ks a<;>cases AV.renL ks b<;>rfl
theorem ZdW {a:List AV} (h:Ice a) (ks:List Nat) (b:List AV):AV.renL ks (a++b)=(AV.renL ks b).map (a++·):=by
 rw[Zmx,h.ren];rfl
def ZnH:Fra→Nat→Blk→Fra
 |[],_,_=>[]
 |(j,x)::l,k,b=>if j=k then (j,b)::l else (j,x)::ZnH l k b
theorem Zpu {k:Nat}{b b':Blk} (hb:NLB b b'):∀ {fr:Fra},look fr k=some b→NLF fr (ZnH fr k b')
 |[],h=>by simp[look]at h
 |(j,x)::l,h=>by
  simp only[look]at h
  by_cases hj:j=k
  ·rw[if_pos hj]at h
   obtain rfl:=oi h
   simp only[ZnH,if_pos hj]
   exact .cons _ _ _ _ _ hb (.refl l)
  ·rw[if_neg hj]at h
   simp only[ZnH,if_neg hj]
   exact .cons _ _ _ _ _ (.refl x) (Zpu hb h)
theorem AK.nlbox {P:Program}{n:Nat}{Φ:Exit→St→Prop}{todo:List It}{tm:List (Nat×AV)}{fr:Fra}{low:Zar}{nx nt:Nat} (k o e:Nat) {cs:List AV} (hk:look fr k=some (.box cs)) (ho:cs[o]?=some .nil)
  (h:AK P n Φ todo ⟨tm,ZnH fr k (.box (cs.set o (.sl e []))),low,nx,nt⟩):AK P n Φ todo ⟨tm,fr,low,nx,nt⟩:=by
 refine AK.weak (ZaE.nl (.refl tm) (Zpu (.box _ _ ⟨by simp,?_⟩) hk)) h
 intro i x y hx hy
 rw[List.getElem?_set]at hy
 split at hy
 ·rename_i hi
  subst hi
  rw[ho]at hx
  obtain rfl:=oi hx
  split at hy
  ·obtain rfl:=oi hy;exact .nil e
  ·cases hy
 ·rw[hx]at hy;obtain rfl:=oi hy;exact .refl x
attribute [go_sem] ZnH
theorem ZmB (G:Get) (b:List AV):∀ a:List AV,AV.frzL G (a++b)=(AV.frzL G a).bind fun x=>(AV.frzL G b).map (x++·)
 |[]=>by cases h:AV.frzL G b<;>simp[AV.frzL,h]
 |u::a=>by
  simp only[List.cons_append,AV.frzL,ZmB G b a]
  cases u.frz G<;>cases AV.frzL G a<;>cases AV.frzL G b<;>rfl
theorem ZdT {a:List AV} (h:Ice a) (G:Get) (b:List AV):AV.frzL G (a++b)=(AV.frzL G b).map (a++·):=by
 rw[ZmB,h.frz];rfl
theorem Zmr (k:Nat) (x:Blk) (b:List AV):∀ a:List AV,AV.fzL k x (a++b)=(AV.fzL k x a).bind fun y=>(AV.fzL k x b).map (y++·)
 |[]=>by cases h:AV.fzL k x b<;>simp[AV.fzL,h]
 |u::a=>by
  simp only[List.cons_append,AV.fzL,Zmr k x b a]
  cases u.fz k x<;>cases AV.fzL k x a<;>cases AV.fzL k x b<;>rfl
theorem Zfe {a:List AV}{k:Nat}{x:Blk} (h:AV.fzL k x a=some a) (b:List AV):AV.fzL k x (a++b)=(AV.fzL k x b).map (a++·):=by
 rw[Zmr,h];rfl
theorem Zh2 {α:Type}{n:Nat}{E:α→List AV}{k:Nat}{x:Blk} (h:∀ y,AV.fzL k x (E y)=some (E y)) (v:Vec n α):AV.fzL k x (Vec.c E v)=some (Vec.c E v):=by
 have key:∀ l:List α,AV.fzL k x (l.map E).flatten=some (l.map E).flatten:=by
  intro l
  induction l with
  |nil=>rfl
  |cons y l ih=>simp only[List.map_cons,List.flatten_cons,Zmr,ih,h,Option.bind_some,Option.map_some]
 exact key v.l
theorem NLs.append {a b c d:List AV} (h:NLs a b) (k:NLs c d):NLs (a++c) (b++d):=by
 refine⟨by simp[h.1,k.1],?_⟩
 intro i x y hx hy
 by_cases hi:i<a.length
 ·rw[List.getElem?_append_left hi]at hx
  rw[List.getElem?_append_left (by rw[←h.1];exact hi)]at hy
  exact h.2 i x y hx hy
 ·rw[List.getElem?_append_right (by omega)]at hx
  rw[List.getElem?_append_right (by rw[←h.1];omega)]at hy
  rw[←h.1]at hy
  exact k.2 _ x y hx hy
end Go.Abs
namespace Go.Abs
open Go Go.RowKit
set_option linter.unusedSectionVars false
section
variable [Md] {P:Program}{T:Tys}{N0:Nat}{W0:World}{n:Nat}{fm:FM}{ts:List Tie}{st:St}{a:Act}{w:World}{Q:Exit→Act→World→Prop}
theorem AK.seg {Φ:Exit→St→Prop}{B:St→Prop}{c:Code}{s:SC}{t:List CIt} (hs:SR N0 W0 n st a w fm ts) (h:AK P n Φ [.sc s,.back B] st) (he:s.bare=Zbh n c) (hf:(Zbh n c).fits n=true)
  (hB:∀ st' a' w' fm' ts',B st'→SR N0 W0 n st' a' w' fm' ts'→Later N0 fm ts fm' ts'→K P Q t .normal a' w')
  (hΦ:∀ e st' a' w' fm' ts',Φ e st'→SR N0 W0 n st' a' w' fm' ts'→Later N0 fm ts fm' ts'→K P Q t e a' w'):K P Q (.code c::t) .normal a w:=by
 have h1:=h N0 W0 fm ts a w [.code c,.back (fun a' w'=>K P Q t .normal a' w')] (fun e a' w'=>K P Q t e a' w') hs
  (.sc he hf (.back (fun st' a' w' fm' ts' hb hs' hl=>hB st' a' w' fm' ts' hb hs' hl) .nil)) hΦ
 rw[Zlc]at h1 ⊢
 refine wpIn_mono h1 ?_
 intro e a' w' hk
 cases e<;>exact hk
theorem Zv0 {arr:Array Oper}{i:Nat}{is:List Nat}{o:Oper}{t:List CIt} (ho:arr[i]?=some o) (hg:o.guard=none) (h:o.wpIn FW 0 P a w (fun a' w'=>K P Q (.ops arr is::t) .normal a' w') (K P Q t)):K P Q (.ops arr (i::is)::t) .normal a w:=by
 unfold K
 simp only[wpOpsIn,ho]
 rw[if_pos (by simp[Region.wanted,hg])]
 exact h
theorem Zop {arr:Array Oper}{t:List CIt} (h:K P Q t .normal a w):K P Q (.ops arr []::t) .normal a w:=by
 unfold K;simp only[wpOpsIn];exact h
theorem AK.last {Φ:Exit→St→Prop}{c:Code}{s:SC} (hs:SR N0 W0 n st a w fm ts) (h:AK P n Φ [.sc s] st) (he:s.bare=Zbh n c) (hf:(Zbh n c).fits n=true)
  (hΦ:∀ e st' a' w' fm' ts',Φ e st'→SR N0 W0 n st' a' w' fm' ts'→Later N0 fm ts fm' ts'→Q e a' w'):K P Q [.code c] .normal a w:=
 h N0 W0 fm ts a w [.code c] Q hs (.sc he hf .nil) hΦ
end
theorem Zv5 (m m':Md) (h:m.rnd=m'.rnd) {P:Program}{Q:Exit→Act→World→Prop}:∀ t:List CIt,@K m P Q t=@K m' P Q t
 |[]=>by funext e a w;simp only[K]
 |it::t=>by
  have hF:@FW m=@FW m':=by unfold FW;rw[h]
  have ih:=Zv5 m m' h (P:=P) (Q:=Q) t
  funext e a w
  cases it<;>simp only[K,ih,hF]
theorem SR.deep [Md] {N0:Nat}{W0:World}{n:Nat}{tm tm':List (Nat×AV)}{fr:Fra}{low:Zar}{nx nt:Nat}{a:Act}{w:World}{fm:FM}{ts:List Tie} (h:SR N0 W0 n ⟨tm,fr,low,nx,nt⟩ a w fm ts) (ht:∀ t x,look tm' t=some x→∃ y,look tm t=some y∧x=y.sh 1):
  SR N0 W0 n ⟨tm',[],fr::low,0,nt⟩ a w fm (Zci::ts):=
 ⟨h.hr.push,fun t x hx=>by
  obtain⟨y,hy,rfl⟩:=ht t x hx
  obtain⟨v,h1,h2⟩:=h.tm t y hy
  exact⟨v,h1,h2.sh 1 (by simp)⟩,fun _ _=>rfl,h.size,h.dfr⟩
theorem SR.dfs (m m':Md) {N0:Nat}{W0:World}{n:Nat}{st:St}{a:Act}{w:World}{fm:FM}{ts:List Tie} (h:@SR m N0 W0 n st a w fm ts) {a':Act} (ht:a'.tmps=a.tmps) (hd:a'.defers=m'.dfs):@SR m' N0 W0 n st a' w fm ts:=by
 obtain⟨h1,h2,h3,h4,h5⟩:=h
 refine @SR.mk m' _ _ _ _ _ _ _ _ h1 (fun t x hx=>?_) h3 (by rw[ht];exact h4) hd
 obtain⟨v,h6,h7⟩:=h2 t x hx
 exact⟨v,by rw[ht];exact h6,h7⟩
theorem Znx [Md] {P:Program}{o:Oper}{a:Act}{w w':World}{next:Act→World→Prop}{Q:Exit→Act→World→Prop}{d:Deferred} (hr:(execOp a.eval o).run P w=.ok (.defer d) w') (hm:Md.rnd=none) (h:next ({ a with defers:=d::a.defers }.put o.dst undef) w'):o.wpIn FW 0 P a w next Q:=by
 refine⟨fun _ _=>trivial,?_⟩
 show Oper.uponIn FW 0 P o a next Q (Sem.run P (Oper.semAt Md.rnd a.eval o) w)
 rw[hm,Oper.semAt_none,hr]
 exact h
end Go.Abs
namespace Go.Abs
open Go Go.RowKit
set_option linter.unusedSectionVars false
section
variable [Md] {P:Program}{T:Tys}{N0:Nat}{W0:World}{n:Nat}{fm:FM}{ts:List Tie}{st:St}{a:Act}{w:World}{Q:Exit→Act→World→Prop}
theorem ZfO:∀ (s t:List CIt) (e:Exit) (a:Act) (w:World),K P Q (s++t) e a w=K P (fun e a w=>K P Q t e a w) s e a w
 |[],t,e,a,w=>rfl
 |.code c::s,t,e,a,w=>by
  have ih:K P Q (s++t)=K P (fun e a w=>K P Q t e a w) s:=by funext e a w;exact ZfO s t e a w
  cases e<;>simp only[List.cons_append,K,ih]
 |.blk id::s,t,e,a,w=>by
  have ih:K P Q (s++t)=K P (fun e a w=>K P Q t e a w) s:=by funext e a w;exact ZfO s t e a w
  cases e<;>simp only[List.cons_append,K,ih]
 |.scp::s,t,e,a,w=>by
  have ih:K P Q (s++t)=K P (fun e a w=>K P Q t e a w) s:=by funext e a w;exact ZfO s t e a w
  cases e<;>simp only[List.cons_append,K,ih]
 |.ops arr l::s,t,e,a,w=>by
  have ih:K P Q (s++t)=K P (fun e a w=>K P Q t e a w) s:=by funext e a w;exact ZfO s t e a w
  cases e<;>simp only[List.cons_append,K,ih]
 |.back R::s,t,e,a,w=>by
  have ih:K P Q (s++t)=K P (fun e a w=>K P Q t e a w) s:=by funext e a w;exact ZfO s t e a w
  cases e<;>simp only[List.cons_append,K,ih]
theorem Zlp {arr:Array Oper}{t:List CIt}:∀ is js:List Nat,wpOpsIn FW 0 P arr (K P Q (.ops arr js::t)) is=wpOpsIn FW 0 P arr (K P Q t) (is++js)
 |[],js=>by funext a w;rfl
 |i::is,js=>by
  have ih:=Zlp (arr:=arr) (t:=t) is js
  funext a w
  simp only[List.cons_append,wpOpsIn]
  cases arr[i]? with
  |none=>simp only[ih]
  |some o=>
   simp only[ih]
   rfl
theorem ZoG {arr:Array Oper}{t:List CIt}{is js:List Nat} (h:K P Q (.ops arr is::.ops arr js::t) .normal a w):K P Q (.ops arr (is++js)::t) .normal a w:=by
 have e:=Zlp (P:=P) (Q:=Q) (arr:=arr) (t:=t) is js
 show wpOpsIn FW 0 P arr (K P Q t) (is++js) a w
 rw[←e]
 exact h
theorem ZcX {c:Code}{t t':List CIt} (h:∀ e a w,K P Q t e a w→K P Q t' e a w):∀ e a w,K P Q (.code c::t) e a w→K P Q (.code c::t') e a w:=by
 intro e a w hk
 cases e<;>first|exact h _ _ _ hk|exact wpIn_mono hk (fun e a w=>h e a w)
theorem ZdK {x y:Code}{t:List CIt}:∀ e a w,K P Q (.code x::.code y::t) e a w→K P Q (.code (.seq x y)::t) e a w:=by
 intro e a w hk
 cases e<;>first|exact hk|exact ZkO hk
theorem ZuM {id:Nat}{ops:Array Oper}{t:List CIt}:∀ e a w,K P Q (.ops ops (List.range ops.size)::t) e a w→K P Q (.code (.region id ops false)::t) e a w:=by
 intro e a w hk
 cases e<;>first|exact hk|exact Zj8 hk
theorem Zul {arr:Array Oper}{is js:List Nat}{t:List CIt}:∀ e a w,K P Q (.ops arr is::.ops arr js::t) e a w→K P Q (.ops arr (is++js)::t) e a w:=by
 intro e a w hk
 cases e<;>first|exact hk|exact ZoG hk
theorem Znn {o:Oper}{w':World}{next:Act→World→Prop}{l fn:Nat}{tmps:Array Value}{assign body:Code} (hd:∀ c,o.op≠.defer c) (hr:(execOp a.eval o).run P w=.ok (.round l fn tmps assign body) w')
  (h:RoundIn FW 0 P l fn tmps assign body w' fun
   |.returned v,w''=>next (a.put o.dst v) w''
   |.panicked chain,w''=>Q (.panic chain) a w''
   |.outgrown,_=>LetsOut Q):o.wpIn FW 0 P a w next Q:=by
 refine⟨fun _ _=>trivial,?_⟩
 rw[Oper.semAt_eq _ _ _ hd,hr]
 exact⟨fun h=>by simp[FW]at h,h⟩
theorem AK.segs {Φ:Exit→St→Prop}{B:St→Prop}{todo:List It}{cs t:List CIt} (hs:SR N0 W0 n st a w fm ts) (h:AK P n Φ (todo++[.back B]) st)
  (hsim:∀ R:Act→World→Prop,(∀ st' a' w' fm' ts',B st'→SR N0 W0 n st' a' w' fm' ts'→Later N0 fm ts fm' ts'→R a' w')→Sim N0 W0 n fm ts (todo++[.back B]) (cs++[.back R]))
  (hB:∀ st' a' w' fm' ts',B st'→SR N0 W0 n st' a' w' fm' ts'→Later N0 fm ts fm' ts'→K P Q t .normal a' w')
  (hΦ:∀ e st' a' w' fm' ts',Φ e st'→SR N0 W0 n st' a' w' fm' ts'→Later N0 fm ts fm' ts'→K P Q t e a' w'):K P Q (cs++t) .normal a w:=by
 have h1:=h N0 W0 fm ts a w (cs++[.back (fun a' w'=>K P Q t .normal a' w')]) (fun e a' w'=>K P Q t e a' w') hs (hsim _ hB) hΦ
 rw[ZfO]at h1 ⊢
 have e:(fun e a w=>K P (fun e a' w'=>K P Q t e a' w') [.back (fun a' w'=>K P Q t .normal a' w')] e a w)=fun e a w=>K P Q t e a w:=by
  funext e a w
  cases e<;>rfl
 rw[e]at h1
 exact h1
end
section
variable {N0:Nat}{W0 W1:World}{fm:FM}{ts:List Tie}{H:Zar}{w w':World}
theorem HR.rebase (h:HR N0 W0 fm ts H w):HR N0 w fm ts H w:={ h with bel:=Below.refl N0 w,oth:=fun _ _ a _=>a }
theorem HR.other (h:HR N0 W0 fm ts H w) {l:Nat}{o o':Obj} (hl:w.heap[l]?=some o) (ho:ZuY o=true) (hN:N0≤l):HR N0 (w.putObj l o') fm ts H (w.putObj l o'):=by
 have hlt:=(Array.getElem?_eq_some_iff.1 hl).1
 have oth:∀ i,i≠l→(w.putObj l o').heap[i]?=w.heap[i]?:=fun i hi=>World.putObj_heap_other (by omega)
 refine⟨h.len,fun l' k b hg=>(h.blk l' k b hg).mono (fun _ _ _ a=>a) (ZaS.refl _) (fun c hc=>oth c ?_),h.inj,fun b q v hv=>?_,h.fmd,Below.refl _ _,?_,fun _ _ a _=>a⟩
 ·rintro rfl
  have hb:=h.blk l' k b hg
  generalize tb ts l' k=tt at hb hc
  cases hb with
  |box c' cs hN hb=>
   obtain⟨cells,et,h1,_⟩:=hb
   simp only[tbc,oE]at hc
   subst hc
   rw[h1]at hl
   cases hl
   cases ho
  |nil et esz=>simp[tbc]at hc
  |arr et esz es c' cap hN hb=>
   obtain⟨cells,h1,_⟩:=hb
   simp only[tbc,oE]at hc
   subst hc
   rw[h1]at hl
   cases hl
   cases ho
 ·have h1:=h.fms _ _ _ hv
  refine(World.cell?_of_block (w:=w) (w':=w.putObj l o') (a:=⟨b,q,none⟩) (oth b ?_)).trans h1
  rintro rfl
  simp only[World.cell?,hl]at h1
  cases o<;>first|(cases ho;done)|(cases h1;done)
 ·have:=h.size
  show N0≤(w.putObj l o').heap.size
  simpa [World.putObj] using this
theorem HR.alloc (h:HR N0 W0 fm ts H w) (o:Obj):HR N0 W0 fm ts H (w.alloc o):=
 h.world (fun i hi=>Below.heap_alloc w o i hi) ((Below.refl N0 w).alloc h.size o)
end
theorem ZrK [Md] {P:Program}{T:Tys} (hT:ZaW P T) {N0:Nat}{W0:World}{fm:FM}{ts:List Tie}{st:St}{a:Act}{w:World}{n:Nat}{fn:Func}{v:AV} (hS:SR N0 W0 n st a w fm ts)
  (hE:Zmn T fn.results.toList (fun y=>NL y v) .ret st):∃ u fm',(results fn a.tmps).run P w=.ok u w∧VR fm' [] v u∧ZtB fm' w∧FmUp N0 fm fm':=by
 obtain⟨hl,xs,y,h1,h2,h3⟩:=hE
 obtain⟨u,h4,h5⟩:=ZcB (P:=P) hT hS h1
 have h6:=hS.hr.frz (Zb6 xs).refs h5 h2 (fun _ h=>h)
 have h7:=hS.hr.letGo (Zb6 xs).refs
 exact⟨u,_,h4,h3.ok h6,h7.fms,hS.hr.fmUp _⟩
end Go.Abs
namespace Go.Abs
open Go Go.RowKit
end Go.Abs
namespace Go.Abs
open Go
end Go.Abs
namespace Go.Abs
open Go
theorem ZaD {n:Int} (h1:-9223372036854775808≤n) (h2:n≤9223372036854775807):w64 n=n:=by
 simp only[w64,IntKind.wrap,IntKind.bits,IntKind.signed]
 simp
 omega
theorem ZcV {α:Type}{l:List α}{i:Nat}{x:α} (h:l[i]?=some x):at? l (i:Int)=some x:=by
 have:i<l.length:=(gS.1 h).1
 unfold at?
 rw[if_pos ⟨by omega,by omega⟩]
 simpa using h
def ZtE {R:Type} (g:Nat→Option R):Nat→Nat→Option R
 |_,0=>none
 |i,n+1=>match g i with
  |some r=>some r
  |none=>ZtE g (i+1) n
theorem ZsV {R:Type}{body:Int→Option (Stp Int Unit R)}{n:Nat}{g:Nat→Option R} (hn:n≤9223372036854775807)
  (h1:∀ i,i<n→body (i:Int)=some (match g i with|some r=>.ret r|none=>.next (w64 ((i:Int)+1)))) (h2:body (n:Int)=some (.brk ())):
  ∀ (k d i:Nat),i+d=n→d<k→whl body k (i:Int)=some (match ZtE g i d with|some r=>.ret r|none=>.brk ()):=by
 intro k
 induction k with
 |zero=>intro d i _ h;omega
 |succ k ih=>
  intro d i hd hk
  cases d with
  |zero=>
   have:i=n:=by omega
   subst this
   rw[whl,h2];rfl
  |succ d=>
   rw[whl,h1 i (by omega)]
   cases hg:g i with
   |some r=>simp only[ZtE,hg]
   |none=>
    simp only[ZtE,hg]
    have:w64 ((i:Int)+1)=((i+1:Nat):Int):=by rw[ZaD (by omega) (by omega)];omega
    rw[this]
    exact ih d (i+1) (by omega) (by omega)
theorem ZqD {α R:Type}{l:List α}{body:Int→Option (Stp Int Unit R)}{f:α→Option R} (hn:l.length≤9223372036854775807) {k:Nat} (hk:l.length<k)
  (h1:∀ (i:Nat) x,l[i]?=some x→body (i:Int)=some (match f x with|some r=>.ret r|none=>.next (w64 ((i:Int)+1)))) (h2:body (l.length:Int)=some (.brk ())):
  whl body k 0=some (match l.findSome? f with|some r=>.ret r|none=>.brk ()):=by
 have key:∀ (m:List α) (i k:Nat),l.drop i=m→i+m.length=l.length→m.length<k→whl body k (i:Int)=some (match m.findSome? f with|some r=>.ret r|none=>.brk ()):=by
  intro m
  induction m with
  |nil=>
   intro i k _ h3 h4
   cases k with
   |zero=>omega
   |succ k=>
    have:i=l.length:=by simpa using h3
    subst this
    rw[whl,h2];rfl
  |cons x m ih=>
   intro i k h5 h3 h4
   cases k with
   |zero=>omega
   |succ k=>
    simp only[List.length_cons]at h3 h4
    have hx:l[i]?=some x:=by
     have:=congrArg (fun q=>q[0]?) h5
     simpa using this
    rw[whl,h1 i x hx]
    cases hf:f x with
    |some r=>simp only[List.findSome?_cons,hf]
    |none=>
     simp only[List.findSome?_cons,hf]
     have:w64 ((i:Int)+1)=((i+1:Nat):Int):=by rw[ZaD (by omega) (by omega)];omega
     rw[this]
     exact ih (i+1) k (by rw[←List.drop_drop,h5];rfl) (by omega) (by omega)
 exact key l 0 k rfl (by simp) hk
end Go.Abs
namespace Go.Abs
open Go
theorem Zg7 {α S R τ:Type}{l:List α}{body:τ→Option (Stp τ S R)} (mk:Int→S→τ) (f:S→α→S) (Inv:Nat→S→Prop) (hn:l.length≤9223372036854775807) {k:Nat} (hk:l.length<k) {s0:S} (h0:Inv 0 s0)
  (h1:∀ (i:Nat) x s,l[i]?=some x→Inv i s→body (mk (i:Int) s)=some (.next (mk (w64 ((i:Int)+1)) (f s x)))∧Inv (i+1) (f s x)) (h2:∀ s,Inv l.length s→body (mk (l.length:Int) s)=some (.brk s)):
  whl body k (mk 0 s0)=some (.brk (l.foldl f s0))∧Inv l.length (l.foldl f s0):=by
 have key:∀ (m:List α) (i k:Nat) (s:S),l.drop i=m→i+m.length=l.length→m.length<k→Inv i s→whl body k (mk (i:Int) s)=some (.brk (m.foldl f s))∧Inv l.length (m.foldl f s):=by
  intro m
  induction m with
  |nil=>
   intro i k s _ h3 h4 hI
   cases k with
   |zero=>omega
   |succ k=>
    have:i=l.length:=by simpa using h3
    subst this
    exact⟨by rw[whl,h2 s hI];rfl,hI⟩
  |cons x m ih=>
   intro i k s h5 h3 h4 hI
   cases k with
   |zero=>omega
   |succ k=>
    simp only[List.length_cons]at h3 h4
    have hx:l[i]?=some x:=by
     have:=congrArg (fun q=>q[0]?) h5
     simpa using this
    obtain⟨h6,h7⟩:=h1 i x s hx hI
    have:w64 ((i:Int)+1)=((i+1:Nat):Int):=by rw[ZaD (by omega) (by omega)];omega
    rw[this]at h6
    rw[whl,h6]
    exact ih (i+1) k (f s x) (by rw[←List.drop_drop,h5];rfl) (by omega) (by omega) h7
 exact key l 0 k s0 rfl (by simp) hk h0
theorem Zi9 {α:Type}{b:Nat}{l:List α}{x:α} (h:(l.length+1)*b≤140737488355328) (h2:l.length+1<4611686018427387904):ZeY b l x=some (l++[x]):=by
 unfold ZeY Zjd
 rw[if_pos ⟨by simpa using h,by simpa using h2⟩]
end Go.Abs
