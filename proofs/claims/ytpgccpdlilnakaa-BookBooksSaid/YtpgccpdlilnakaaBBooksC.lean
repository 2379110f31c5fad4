/-
  Part 3 of the proof: a machine over named blocks, what each function computes, and what follows. No condition.
-/
import Derived.Defers
import Derived.Recover
import Derived.RangeFuncNested
import Derived.Maps.OwnSet
import Derived.Maps.Views
import Derived.DeepKeys4
import Derived.Test.YtpgccpdlilnakaaBBooksB
set_option linter.unusedVariables false
set_option linter.unusedSimpArgs false
set_option linter.all false
namespace Go.Abs
open Go
structure Aa (n:Nat) (α:Type) where
 l:List α
 h:l.length=n
def Aa.c {n:Nat}{α:Type} (E:α->List AV) (v:Aa n α):List AV:=(v.l.map E).flatten
theorem Aa.ext {n:Nat}{α:Type}{a b:Aa n α} (h:a.l=b.l):a=b:=by
 cases a;cases b;cases h;rfl
theorem wh {α:Type}{E:α->List AV}{z:Nat} (h:∀ x,(E x).length=z):∀ l:List α,(l.map E).flatten.length=l.length*z
 |[]=>by simp
 |x::l=>by rw[List.map_cons,BZ,BL,h,wh h l,Ay,Nat.succ_mul];omega
theorem Aa.len {n:Nat}{α:Type}{E:α->List AV}{z:Nat} (h:∀ x,(E x).length=z) (v:Aa n α):(v.c E).length=n*z:=by
 unfold Aa.c;rw[wh h,v.h]
def Aa.at? {n:Nat}{α:Type} (v:Aa n α) (i:Int):Option α:=if 0<=i/\i<n then v.l[i.toNat]? else none
def Aa.set {n:Nat}{α:Type} (v:Aa n α) (i:Int) (x:α):Aa n α:=⟨v.l.set i.toNat x,by simp[v.h]⟩
def Aa.rep (n:Nat) {α:Type} (x:α):Aa n α:=⟨List.replicate n x,by simp⟩
theorem au {n:Nat}{α:Type}{v:Aa n α}{i:Int}{x:α} (h:v.at? i=some x):fG i n=some i.toNat:=by
 unfold Aa.at? at h
 split at h
 ·rename_i hc;unfold fG;rw[if_pos hc]
 ·cases h
theorem aeS {n:Nat}{α:Type}{v:Aa n α}{i:Int}{x:α} (h:v.at? i=some x):v.l[i.toNat]?=some x:=by
 unfold Aa.at? at h
 split at h
 ·exact h
 ·cases h
def Sub (cs:List AV) (o:Nat) (c:List AV):Prop:=∃ a b,cs=a++(c++b)/\a.length=o
theorem Sub.self (c:List AV):Sub c 0 c:=⟨[],[],by simp,rfl⟩
theorem Sub.trans {cs c c':List AV}{o o':Nat} (h:Sub cs o c) (k:Sub c o' c'):Sub cs (o+o') c':=by
 obtain⟨a,b,rfl,rfl⟩:=h
 obtain⟨a',b',rfl,rfl⟩:=k
 exact⟨a++a',b'++b,by simp,by simp⟩
theorem Sub.cons (x:AV) {cs c:List AV}{o:Nat} (h:Sub cs o c):Sub (x::cs) (o+1) c:=by
 obtain⟨a,b,rfl,rfl⟩:=h
 exact⟨x::a,b,by simp,by simp⟩
theorem Sub.bound {cs c:List AV}{o z:Nat} (h:Sub cs o c) (hz:c.length=z):o+z<=cs.length:=by
 obtain⟨a,b,rfl,rfl⟩:=h
 simp;omega
theorem Sub.get {cs c:List AV}{o z:Nat} (h:Sub cs o c) (hz:c.length=z):(cs.drop o).take z=c:=by
 obtain⟨a,b,rfl,rfl⟩:=h
 subst hz
 simp
theorem Sub.idx {n:Nat}{α:Type}{E:α->List AV}{z:Nat} (hE:∀ x,(E x).length=z) {v:Aa n α}{i:Int}{x:α} (h:v.at? i=some x):Sub (v.c E) (i.toNat*z) (E x):=by
 have hg:=aeS h
 obtain⟨ab,hx⟩:=gS.1 hg
 refine⟨((v.l.take i.toNat).map E).flatten,((v.l.drop (i.toNat+1)).map E).flatten,?_,?_⟩
 ·unfold Aa.c
  conv=>lhs;rw[<-C0 i.toNat v.l,List.drop_eq_getElem_cons ab,hx]
  simp
 ·rw[wh hE,A6,Nat.min_eq_left (by omega)]
theorem ajp {cs c c':List AV}{o o':Nat} (h:Sub cs o c) (k:Sub c o' c') {new:List AV} (hl:new.length=c'.length):overwrite cs (o+o') new=overwrite cs o (overwrite c o' new):=by
 obtain⟨a,b,rfl,rfl⟩:=h
 obtain⟨a',b',rfl,rfl⟩:=k
 have h1:overwrite (a++((a'++(c'++b'))++b)) (a.length+a'.length) new=a++(a'++(new++(b'++b))):=by
  unfold overwrite
  rw[hl]
  have e1:(a++((a'++(c'++b'))++b))=(a++a')++(c'++(b'++b)):=by simp
  rw[e1,CO (by simp),<-List.drop_drop,List.drop_left' (by simp),List.drop_left' rfl]
  simp
 have h2:overwrite (a'++(c'++b')) a'.length new=a'++(new++b'):=by
  unfold overwrite
  rw[hl,CO rfl,<-List.drop_drop,List.drop_left' rfl,List.drop_left' rfl]
 rw[h1,h2]
 unfold overwrite
 rw[CO rfl,<-List.drop_drop,List.drop_left' rfl,List.drop_left' (by simp[hl])]
 simp
theorem ajn {n:Nat}{α:Type}{E:α->List AV}{z:Nat} (hE:∀ x,(E x).length=z) {v:Aa n α}{i:Int}{x:α} (h:v.at? i=some x) (y:α):overwrite (v.c E) (i.toNat*z) (E y)=(v.set i y).c E:=by
 have hg:=aeS h
 obtain⟨ab,hx⟩:=gS.1 hg
 have e1:v.c E=((v.l.take i.toNat).map E).flatten++(E x++((v.l.drop (i.toNat+1)).map E).flatten):=by
  unfold Aa.c
  conv=>lhs;rw[<-C0 i.toNat v.l,List.drop_eq_getElem_cons ab,hx]
  simp
 have e2:(v.set i y).c E=((v.l.take i.toNat).map E).flatten++(E y++((v.l.drop (i.toNat+1)).map E).flatten):=by
  unfold Aa.c Aa.set
  simp only
  rw[List.set_eq_take_append_cons_drop,if_pos ab]
  simp
 have hl:(((v.l.take i.toNat).map E).flatten).length=i.toNat*z:=by rw[wh hE,A6,Nat.min_eq_left (by omega)]
 rw[e1,e2]
 unfold overwrite
 rw[<-hl,CO rfl,<-List.drop_drop,List.drop_left' rfl,List.drop_left' (by rw[hE,hE])]
theorem ajo {c new:List AV} (h:new.length=c.length):overwrite c 0 new=new:=by
 unfold overwrite;rw[B6,h,List.drop_length];simp
theorem ajm (x:AV) (cs new:List AV) (o:Nat):overwrite (x::cs) (o+1) new=x::overwrite cs o new:=by
 unfold overwrite;rw[show o+1+new.length=(o+new.length)+1 by omega];simp
structure VK {α:Type} (z:Nat) (E:α->List AV):Prop where
 len:∀ x,(E x).length=z
 pM:∀ x,BK (E x)
theorem aeI (d:Nat):∀ a b x y:List AV,AV.eD d a=some x->AV.eD d b=some y->AV.eD d (a++b)=some (x++y)
 |[],b,x,y,h,k=>by simp only[AV.eD,oE]at h;subst h;simpa using k
 |u::a,b,x,y,h,k=>by
  simp only[AV.eD]at h
  split at h
  ·rename_i p q hp hq
   obtain rfl:=oi h
   simp only[A8,AV.eD,hp,aeI d a b q y hq k]
  ·cases h
theorem acV (G:AA):∀ a b x y:List AV,AV.az G a=some x->AV.az G b=some y->AV.az G (a++b)=some (x++y)
 |[],b,x,y,h,k=>by simp only[AV.az,oE]at h;subst h;simpa using k
 |u::a,b,x,y,h,k=>by
  simp only[AV.az]at h
  split at h
  ·rename_i p q hp hq
   obtain rfl:=oi h
   simp only[A8,AV.az,hp,acV G a b q y hq k]
  ·cases h
theorem abX (G:AA) (F:Nat->Nat->Option (List AV)):∀ a b x y:List AV,AV.cB G F a=some x->AV.cB G F b=some y->AV.cB G F (a++b)=some (x++y)
 |[],b,x,y,h,k=>by simp only[AV.cB,oE]at h;subst h;simpa using k
 |u::a,b,x,y,h,k=>by
  simp only[AV.cB]at h
  split at h
  ·rename_i p q hp hq
   obtain rfl:=oi h
   simp only[A8,AV.cB,hp,abX G F a b q y hq k]
  ·cases h
theorem aec (ks:List Nat):∀ a b x y:List AV,AV.cI ks a=some x->AV.cI ks b=some y->AV.cI ks (a++b)=some (x++y)
 |[],b,x,y,h,k=>by simp only[AV.cI,oE]at h;subst h;simpa using k
 |u::a,b,x,y,h,k=>by
  simp only[AV.cI]at h
  split at h
  ·rename_i p q hp hq
   obtain rfl:=oi h
   simp only[A8,AV.cI,hp,aec ks a b q y hq k]
  ·cases h
theorem aay (k:Nat):∀ a b:List AV,AV.fF k (a++b)=AV.fF k a++AV.fF k b
 |[],b=>rfl
 |x::a,b=>by simp only[A8,AV.fF,aay k a b]
theorem aaZ:∀ a b:List AV,AV.aD (a++b)=AV.aD a++AV.aD b
 |[],b=>rfl
 |x::a,b=>by simp only[A8,AV.aD,aaZ a b,Cd]
theorem BK.append {a b:List AV} (h:BK a) (k:BK b):BK (a++b):=
 ⟨fun d=>by rw[aa3,h.sh,k.sh],fun G=>acV G _ _ _ _ (h.ag G) (k.ag G),fun G F=>abX G F _ _ _ _ (h.br G F) (k.br G F),by rw[aaZ,h.refs,k.refs];rfl,
  fun n=>by rw[aay,h.imp,k.imp],fun ks=>aec ks _ _ _ _ (h.aE ks) (k.aE ks),fun d=>aeI d _ _ _ _ (h.un d) (k.un d)⟩
theorem BK.nil:BK []:=⟨fun _=>rfl,fun _=>rfl,fun _ _=>rfl,rfl,fun _=>rfl,fun _=>rfl,fun _=>rfl⟩
theorem BK.flat {α:Type}{E:α->List AV} (h:∀ x,BK (E x)):∀ l:List α,BK (l.map E).flatten
 |[]=>BK.nil
 |x::l=>by rw[List.map_cons,BZ];exact(h x).append (BK.flat h l)
theorem VK.vec {α:Type}{z:Nat}{E:α->List AV} (h:VK z E) (n:Nat):VK (n*z) (Aa.c (n:=n) E):=
 ⟨fun v=>v.len h.len,fun v=>BK.flat h.pM v.l⟩
theorem oM:VK 1 eI:=⟨fun _=>rfl,fun _=>⟨fun _=>rfl,fun _=>rfl,fun _ _=>rfl,rfl,fun _=>rfl,fun _=>rfl,fun _=>rfl⟩⟩
theorem lg:VK 1 ah:=⟨fun _=>rfl,fun _=>⟨fun _=>rfl,fun _=>rfl,fun _ _=>rfl,rfl,fun _=>rfl,fun _=>rfl,fun _=>rfl⟩⟩
theorem acr:∀ (z a b z' a' b':List AV),z.length=a.length->a.length=b.length->ba (z++z') (a++a') (b++b')=(match ba z a b,ba z' a' b' with
  |some p,some q=>some (p&&q)
  |_,_=>none)
 |[],[],[],z',a',b',_,_=>by
  simp only[BV,ba]
  cases ba z' a' b'<;>simp
 |x::z,p::a,q::b,z',a',b',h1,h2=>by
  simp only[A8,ba]
  rw[acr z a b z' a' b' (by simpa using h1) (by simpa using h2)]
  cases gD x p q<;>cases ba z a b<;>cases ba z' a' b'<;>simp[Bool.and_assoc]
 |[],_::_,_,_,_,_,h,_=>by simp at h
 |_::_,[],_,_,_,_,h,_=>by simp at h
 |[],[],_::_,_,_,_,_,h=>by simp at h
 |_::_,_::_,[],_,_,_,_,h=>by simp at h
theorem acs {α:Type}{E:α->List AV}{z:Nat}{zc:List AV} (hE:∀ x,(E x).length=z) (hz:zc.length=z) (eq:α->α->Bool) (h:∀ x y,ba zc (E x) (E y)=some (eq x y)):
  ∀ (n:Nat) (a b:List α),a.length=n->b.length=n->ba (List.replicate n zc).flatten (a.map E).flatten (b.map E).flatten=some (a.zip b |>.all fun p=>eq p.1 p.2)
 |0,[],[],_,_=>by simp[ba]
 |n+1,x::a,y::b,h1,h2=>by
  rw[List.replicate_succ,List.map_cons,List.map_cons,BZ,BZ,BZ,acr _ _ _ _ _ _ (by rw[hz,hE]) (by rw[hE,hE]),h x y,
   acs hE hz eq h n a b (by simpa using h1) (by simpa using h2)]
  simp
structure Ao {α:Type} (cs:List AV) (o:Nat) (E:α->List AV) (x:α) (g:α->List AV):Prop where
 sub:Sub cs o (E x)
 ow:∀ y,overwrite cs o (E y)=g y
theorem Ao.self {α:Type}{E:α->List AV}{z:Nat} (hE:∀ x,(E x).length=z) (x:α):Ao (E x) 0 E x E:=
 ⟨Sub.self _,fun y=>ajo (by rw[hE,hE])⟩
theorem Ao.cons {α:Type}{E:α->List AV}{cs:List AV}{o:Nat}{x:α}{g:α->List AV} (a:AV) (h:Ao cs o E x g):Ao (a::cs) (o+1) E x (fun y=>a::g y):=
 ⟨h.sub.cons a,fun y=>by rw[ajm,h.ow]⟩
theorem Ao.skip {α:Type}{E:α->List AV}{cs:List AV}{o:Nat}{x:α}{g:α->List AV} (h:Ao cs o E x g):∀ p:List AV,Ao (p++cs) (p.length+o) E x (fun y=>p++g y)
 |[]=>by simpa using h
 |a::p=>by
  have:=(Ao.skip h p).cons a
  rw[Ay,show p.length+1+o=p.length+o+1 by omega]
  exact this
theorem Ao.idx {n:Nat}{α:Type}{E:α->List AV}{z:Nat} (hE:∀ x,(E x).length=z) {v:Aa n α}{i:Int}{x:α} (h:v.at? i=some x):Ao (v.c E) (i.toNat*z) E x (fun y=>(v.set i y).c E):=
 ⟨Sub.idx hE h,fun y=>ajn hE h y⟩
theorem Ao.within {α β:Type}{cs:List AV}{o o':Nat}{E:α->List AV}{x:α}{g:α->List AV}{E':β->List AV}{x':β}{g':β->List AV}{z:Nat} (hE:∀ x,(E' x).length=z)
  (h:Ao cs o E x g) (k:Ao (E x) o' E' x' g') (up:β->α) (hg:∀ y,g' y=E (up y)):Ao cs (o+o') E' x' (fun y=>g (up y)):=
 ⟨h.sub.trans k.sub,fun y=>by rw[ajp h.sub k.sub (by rw[hE,hE]),k.ow,hg,h.ow]⟩
theorem Ao.at {n:Nat}{α:Type}{E:α->List AV}{z:Nat} (hE:∀ x,(E x).length=z) {cs:List AV}{o:Nat}{v:Aa n α}{g:Aa n α->List AV} (h:Ao cs o (Aa.c E) v g) {i:Int}{x:α} (hx:v.at? i=some x):
  Ao cs (o+i.toNat*z) E x (fun y=>g (v.set i y)):=
 Ao.within hE h (Ao.idx hE hx) (fun y=>v.set i y) (fun _=>rfl)
theorem Ao.bound {α:Type}{cs:List AV}{o z:Nat}{E:α->List AV}{x:α}{g:α->List AV} (h:Ao cs o E x g) (hE:∀ x,(E x).length=z):o+z<=cs.length:=h.sub.bound (hE x)
theorem Ao.get {α:Type}{cs:List AV}{o z:Nat}{E:α->List AV}{x:α}{g:α->List AV} (h:Ao cs o E x g) (hE:∀ x,(E x).length=z):(cs.drop o).take z=E x:=h.sub.get (hE x)
def Aa.eq {n:Nat}{α:Type} (eq:α->α->Bool) (a b:Aa n α):Bool:=(a.l.zip b.l).all fun p=>eq p.1 p.2
theorem acv {n:Nat}{α:Type}{E:α->List AV}{z:Nat} (hE:∀ x,(E x).length=z) {x0:α}{eq:α->α->Bool} (h:∀ x y,ba (E x0) (E x) (E y)=some (eq x y)) (a b:Aa n α):
  ba ((Aa.rep n x0).c E) (a.c E) (b.c E)=some (a.eq eq b):=by
 have:=acs hE (hE x0) eq h n a.l b.l a.h b.h
 unfold Aa.c Aa.rep Aa.eq
 simp only[List.map_replicate]
 exact this
def Aa.put {n:Nat}{α:Type} (v:Aa n α) (o m:Nat) (l:List α):Aa n α:=
 if h:o+m<=n then ⟨v.l.take o++(l.take m++v.l.drop (o+min l.length m)),by
  simp only[BL,A6,B3,v.h];omega⟩ else v
theorem abd {n:Nat} (v:Aa n Int):v.c ah=v.l.map (AV.int .u8):=by
 unfold Aa.c ah
 induction v.l with
 |nil=>rfl
 |cons x l ih=>simp[ih]
theorem ahn (l:List Int):(l.map ah).flatten=l.map (AV.int .u8):=by
 unfold ah
 induction l with
 |nil=>rfl
 |cons x l ih=>simp[ih]
theorem ain {n:Nat} (v:Aa n Int) (o m:Nat):(AV.az (fun _ _=>none) (((v.c ah).drop o).take m)).map (fun cs=>cs.map fun c=>[c])=some ((((v.l.drop o).take m)).map ah):=by
 rw[abd,<-List.map_drop,<-List.map_take]
 generalize (v.l.drop o).take m=l
 have:AV.az (fun _ _=>none) (l.map (AV.int .u8))=some (l.map (AV.int .u8)):=by
  induction l with
  |nil=>rfl
  |cons x l ih=>simp only[List.map_cons,AV.az,AV.ag,ih]
 rw[this]
 simp[ah]
theorem ajz {n:Nat} (v:Aa n Int) (o m:Nat) (l:List Int) (h:o+m<=n):overwrite (v.c ah) o ((l.map ah).take m).flatten=(v.put o m l).c ah:=by
 unfold Aa.put
 rw[dif_pos h,<-List.map_take,ahn,abd,abd]
 unfold overwrite
 simp only[C3,List.map_take,List.map_drop,A6,Bh]
 rw[Nat.min_comm]
def strOf (l:List Int):ByteArray:=⟨(l.map fun n=>UInt8.ofNat n.toNat).toArray⟩
theorem abY:∀ l:List Int,bytesOf (l.map ah)=some (l.map fun n=>UInt8.ofNat n.toNat)
 |[]=>rfl
 |x::l=>by simp only[List.map_cons,bytesOf,abY l,ah,byteOf]
def iH (s:ByteArray):List Int:=s.data.toList.map fun c=>(c.toNat:Int)
theorem aey (s:ByteArray):iI s=(iH s).map ah:=by
 unfold iI iH ah;rw[List.map_map];rfl
theorem nk (s:ByteArray):(iH s).length=s.size:=by unfold iH;rw[Bh];rfl
def oF (s:ByteArray) (i:Int):Option Int:=if 0<=i/\i<s.size then some ((s.data.toList.getD i.toNat 0).toNat:Int) else none
theorem aen {s:ByteArray}{i x:Int} (h:oF s i=some x):fG i s.size=some i.toNat:=by
 unfold oF at h
 split at h
 ·rename_i hc;unfold fG;rw[if_pos hc]
 ·cases h
theorem aem {s:ByteArray}{i x:Int} (h:oF s i=some x):((s.data.toList.getD i.toNat 0).toNat:Int)=x:=by
 unfold oF at h
 split at h
 ·exact oi h
 ·cases h
theorem akk (l:List Int):(⟨(l.map fun n=>UInt8.ofNat n.toNat).toArray⟩:ByteArray)=strOf l:=rfl
def ahf (x:Int):List AV:=[.int .u64 x]
theorem ba0:(⟨#[]⟩:ByteArray)=ByteArray.empty:=rfl
def uT (y:Int):Option Unit:=if y<0 then none else some ()
theorem aa4 {y:Int}{u:Unit} (h:uT y=some u):(y<0)=False:=by
 unfold uT at h
 split at h
 ·cases h
 ·rename_i h1;exact eq_false h1
theorem aiS:min (Int.toNat 1) 64=1:=rfl
theorem aiW:min (Int.toNat 8) 64=8:=rfl
theorem aiT:min (Int.toNat 16) 64=16:=rfl
theorem aiU:min (Int.toNat 24) 64=24:=rfl
theorem aiV:min (Int.toNat 32) 64=32:=rfl
attribute [go_sem] aiS aiW aiT aiU aiV ahf ba0 qx sK qM aay aaZ A8 BV List.append_nil
end Go.Abs
namespace Go.Abs
open Go Go.RowKit
section
variable {P:Program}{T:Aw}{N0:Nat}{W0:World}{fm:FM}{ts:List Ah}{H:Heap}{w:World}
def CM (P:Program) (f:FuncId) (args:List AV) (X:Aj) (R:AV->Aj->Aj->Prop):Prop:=
 ∀ (f1:Aj) (H:Heap),BO P f args ((X++f1)::H) (fun y fr H'=>∃ X',R y fr X'/\H'=(X'++f1)::H)
theorem CM.ft (hT : AG P T) {f : FuncId} {fn : Func} {c : Code} {sc : SC} {args : List AV} {X : Aj} {R : AV → Aj → Aj → Prop} (hf : P.funcs[f]? = some fn) (hb : fn.body = some c) (gq : (fn.name == "runtime.NumGoroutine") = false)
  (he:sc.bare=erase fn.ntmps c) (dy:(erase fn.ntmps c).fits fn.ntmps=true) (dR:args.length<=fn.ntmps)
  (h:∀ f1 H,AK P fn.ntmps (Ends T fn.results.toList fun y fr H'=>∃ X',R y fr X'/\H'=(X'++f1)::H) [.sc sc] (St.enter args ((X++f1)::H) fn.ntmps)):CM P f args X R:=
 fun f1 H=>BO.ft hT hf hb gq he dy dR (h f1 H) (by rintro y fr H' ⟨X',_,rfl⟩;rfl)
theorem ES {n:Nat}{rs:List ResultVar}{f1:Aj}{st:St}{e:Exit}{y0:AV}{X0:Aj} (he:e=.ret\/e=.normal) (h1:((fb T st rs).bind fun xs=>(bC xs).aE [])=some y0) (h2:st.low=(X0++f1)::H):
  Ar P n (Ends T rs fun y fr H'=>∃ X',(y=y0/\fr=[]/\X'=X0)/\H'=(X'++f1)::H) (.fin e st):=by
 obtain⟨xs,h3,h4⟩:=Option.bind_eq_some_iff.1 h1
 have:∃ xs,fb T st rs=some xs/\CU (fun y fr H'=>∃ X',(y=y0/\fr=[]/\X'=X0)/\H'=(X'++f1)::H) (bC xs) st:=
  ⟨xs,h3,.own [] y0 [] (by simp) (by simp) h4 rfl ⟨X0,⟨rfl,rfl,rfl⟩,h2⟩⟩
 rcases he with rfl|rfl<;>exact this
theorem ajJ {xs ys:List AV}{vs:List Value}{ks:List Nat}{t:Ah}{rest:List Ah} (h:Am fm (t::rest) xs vs) (e:AV.cI ks xs=some ys):Am fm (dJ ks t::rest) ys vs:=by
 have g:=pX ks _ _ e
 refine⟨by rw[g.1];exact h.1,fun i y v hy hv=>?_⟩
 have ab:i<xs.length:=by rw[<-g.1];exact(gS.1 hy).1
 obtain⟨y',gM,hu⟩:=g.2 i _ (gG ab)
 rw[hy]at gM;obtain rfl:=oi gM
 exact(h.2 i _ v (gG ab) hv).aE rfl hu
theorem ajW {xs:List AV}{vs:List Value}{t:Ah} (h:Am fm ts xs vs):Am fm (t::ts) (AV.ck 1 xs) vs:=by
 refine⟨by rw[kz];exact h.1,?_⟩
 intro i x v hx hv
 rw[ky,mS]at hx
 obtain⟨y,hy,rfl⟩:=hx
 exact(h.2 i y v hy hv).sh 1 (by simp)
def xN (ks:List Nat) (args:List AV):Option (List AV):=
 match AV.eD 1 args with
 |some xs=>match AV.cI ks xs with
  |some ys=>some (AV.ck 1 ys)
  |none=>none
 |none=>none
section
variable [Md] {n:Nat}{Φ:Exit->St->Prop}{f:FuncId}{args:List AV}{dst:Option Tmp}{drop:List Nat}{todo:List It}{st:St}
theorem B2.norm {eC:St}{fh:List AV}{kY ks:List Nat}{nx:Nat} (e:st.norm kY ks nx=some eC) (bw:ks.Nodup) (tK:ks.length<=nx) (ea:xN ks args=some fh):B2 n st args eC fh:=by
 intro N0 W0 a w fm ts vs h hv
 unfold St.norm at e
 split at e
 ·rename_i tm fr de py
  obtain rfl:=oi e
  cases ts with
  |nil=>have:=h.hr.len;simp at this
  |cons t rest=>
   refine⟨fm,dJ ks t::rest,⟨h.hr.aE py bw,?_,?_,h.size,h.cV⟩,⟨Ax.refl _ _,Ak.refl _,fun _ _ h=>h⟩,?_⟩
   ·intro i y hy
    obtain⟨x,h1,h2⟩:=aa0 ks st.tm kY tm de i y hy
    obtain⟨v,h3,h4⟩:=h.tm i x h1
    exact⟨v,h3,h4.aE rfl h2⟩
   ·intro k hk
    have dH:nx<=k:=hk
    simp only[tb,dJ]
    rw[CE (by omega)];rfl
   ·unfold xN at ea
    split at ea
    ·rename_i xs eA
     split at ea
     ·rename_i ys jD
      obtain rfl:=oi ea
      have h1:=aeH eA hv
      exact ajW (ajJ (by simpa using h1) jD)
     ·cases ea
    ·cases ea
 ·cases e
theorem B2.trans {a b c:St}{xs ys zs:List AV} (h:B2 n a xs b ys) (k:B2 n b ys c zs):B2 n a xs c zs:=by
 intro N0 W0 x w fm ts vs hS hv
 obtain⟨dv,cn,h1,h2,h3⟩:=h N0 W0 x w fm ts vs hS hv
 obtain⟨dw,cE,h4,h5,h6⟩:=k N0 W0 x w dv cn vs h1 h3
 exact⟨dw,cE,h4,h2.trans h5,h6⟩
theorem FZ {eC:St}{fh:List AV} (hm:B2 n st args eC fh) (h:Ar P n Φ (.call f fh dst drop todo eC)):Ar P n Φ (.call f args dst drop todo st):=by
 obtain⟨oG,af4,R,Rp,h1,h2,h3,h4⟩:=h
 exact⟨oG,af4,R,Rp,hm.trans h1,h2,h3,h4⟩
def nOK (P:Program) (n:Nat) (Φ:Exit->St->Prop) (f:FuncId) (dst:Option Tmp) (drop:List Nat) (todo:List It):Option St->Option (List AV)->Prop
 |some eC,some fh=>Ar P n Φ (.call f fh dst drop todo eC)
 |_,_=>False
theorem aiX {eC:St}{fh:List AV}:nOK P n Φ f dst drop todo (some eC) (some fh)=Ar P n Φ (.call f fh dst drop todo eC):=rfl
theorem DU (kY ks:List Nat) (nx:Nat) (bw:(decide ks.Nodup&&decide (ks.length<=nx))=true) (h:nOK P n Φ f dst drop todo (st.norm kY ks nx) (xN ks args)):Ar P n Φ (.call f args dst drop todo st):=by
 unfold nOK at h
 split at h
 ·rename_i eC fh h1 h2
  simp only[AP,decide_eq_true_eq]at bw
  exact FZ (B2.norm h1 bw.1 bw.2 h2) h
 ·exact h.elim
theorem DT {cT:List AV}{X0 X1:Aj}{y0:AV}{fr0:Aj} (hp:CM P f cT X0 (fun y fr X'=>y=y0/\fr=fr0/\X'=X1)) (ha:args=cT/\st.fr.take X0.length=X0)
  (h:AK P n Φ todo (st.ga dst drop y0 fr0 ((X1++st.fr.drop X0.length)::st.low))):Ar P n Φ (.call f args dst drop todo st):=by
 obtain⟨rfl,hx⟩:=ha
 have h1:=hp (st.fr.drop X0.length) st.low
 have e:X0++st.fr.drop X0.length=st.fr:=by
  have:=C0 X0.length st.fr
  rw[hx]at this;exact this
 rw[e]at h1
 refine DS h1 ?_
 rintro v fr H ⟨X',⟨rfl,rfl,rfl⟩,rfl⟩
 exact h
theorem FX (hT:AG P T) {aw:List AV}{y0:AV}{fr0:Aj} (m:Nat) (hp:AY P f aw [] (fun y fr=>y=y0/\fr=fr0)) (hz:AV.cB (Heap.get ([]::st.fr::st.low)) (Abs.cF (Heap.get ([]::st.fr::st.low)) 5) args=some aw) (hy:y0.m4=true) (hf:om fr0)
  (h:Ar P n Φ (run T m todo (st.ga dst drop y0 fr0 (st.fr::st.low)))):Ar P n Φ (.call f args dst drop todo st):=by
 refine DS (AY.lW 5 hp hz hy hf) ?_
 rintro y fr H' ⟨rfl,rfl,rfl⟩
 exact eQ hT m _ _ h
end
def aP {α:Type} (z:Nat) (E:α->List AV):Option α->AV
 |none=>.bf
 |some x=>.aq z [E x] 0 0
section
variable {α:Type}{z:Nat}{E:α->List AV} (x:Option α)
theorem afS (y:α):aP z E (some y)=.aq z [E y] 0 0:=rfl
theorem afO:aP z E none=.bf:=rfl
theorem afR (d:Nat):(aP z E x).sh d=aP z E x:=by cases x<;>rfl
theorem afM (G:AA):(aP z E x).ag G=some (aP z E x):=by cases x<;>rfl
theorem afK (G:AA) (F:Nat->Nat->Option (List AV)):(aP z E x).br G F=some (aP z E x):=by cases x<;>rfl
theorem afP:(aP z E x).refs=[]:=by cases x<;>rfl
theorem afN (k:Nat):(aP z E x).imp k=aP z E x:=by cases x<;>rfl
theorem afQ (ks:List Nat):(aP z E x).aE ks=some (aP z E x):=by cases x<;>rfl
theorem afT (d:Nat):(aP z E x).un d=some (aP z E x):=by cases x<;>rfl
theorem afL:(aP z E x).flat=true:=by cases x<;>rfl
end
attribute [go_sem] aaA aa9 afS afO afR afM afK afP afN afQ afT afL aiX xN St.norm pY iD AV.aE AV.cI Ap.aE nf idx om Ap.lo AV.lo AV.m4
def ot {α:Type} (n:Int) (b:Nat) (z:α):Option (List α):=(mk? n b).map fun _=>List.replicate n.toNat z
theorem aiQ {α:Type}{n:Int}{b:Nat}{z:α}{l:List α} (h:ot n b z=some l):∃ u,mk? n b=some u:=by
 unfold ot at h
 obtain⟨u,hu,_⟩:=mS.1 h
 exact⟨u,hu⟩
theorem aaK {α:Type}{n:Int}{b:Nat}{z:α}{l:List α} (h:ot n b z=some l):l=List.replicate n.toNat z:=by
 unfold ot at h
 obtain⟨u,_,hl⟩:=mS.1 h
 exact hl.symm
theorem aiP {α β:Type} (E:α->β) {n:Int}{b:Nat}{z:α}{l:List α} (h:ot n b z=some l):List.replicate n.toNat (E z)=List.map E l:=by
 rw[aaK h,List.map_replicate]
theorem aiO {α:Type}{n:Int}{b:Nat}{z:α}{l:List α} (h:ot n b z=some l):l.length=n.toNat:=by
 rw[aaK h];simp
theorem aiR {α β:Type} (E:α->β) {n:Int}{b:Nat}{z:α}{l:List α} (h:ot n b z=some l):List.take n.toNat (List.map E l)=List.map E l:=by
 rw[aaK h];simp
def Lf {α:Type} (E:α->List AV):Prop:=∀ x,∀ y∈E x,y.leaf=true
theorem aln:Lf eI:=fun x y h=>by simp only[eI,Cw]at h;subst h;rfl
theorem adE:Lf ah:=fun x y h=>by simp only[ah,Cw]at h;subst h;rfl
theorem Lf.vec {n:Nat}{α:Type}{E:α->List AV} (h:Lf E):Lf (Aa.c (n:=n) E):=by
 intro v y hy
 unfold Aa.c at hy
 rw[List.mem_flatten]at hy
 obtain⟨l,hl,hy⟩:=hy
 obtain⟨x,_,rfl⟩:=List.mem_map.1 hl
 exact h x y hy
theorem Lf.map {α:Type}{E:α->List AV} (h:Lf E) (l:List α):(∀ c∈List.map E l,∀ x∈c,x.leaf=true):=by
 intro c hc x hx
 obtain⟨y,_,rfl⟩:=List.mem_map.1 hc
 exact h y x hx
end
section
variable {P:Program}{T:Aw}{N0:Nat}{W0:World}{fm:FM}{ts:List Ah}{H:Heap}{w:World}
def EV (T:Aw) (rs:List ResultVar) (R:AV->Aj->Heap->Prop) (Rp:List PanicEntry->Heap->Prop) (e:Exit) (st:St):Prop:=
 match e with
 |.normal|.ret=>∃ xs y,fb T st rs=some xs/\(bC xs).aE []=some y/\R y [] st.low
 |.panic ch=>Rp ch st.low
 |_=>False
theorem Cq.ft (hT : AG P T) {f : FuncId} {fn : Func} {c : Code} {sc : SC} {args : List AV} {H : Heap} {R : AV → Aj → Heap → Prop} {Rp : List PanicEntry → Heap → Prop} (hf : P.funcs[f]? = some fn) (hb : fn.body = some c) (gq : (fn.name == "runtime.NumGoroutine") = false)
  (he:sc.bare=erase fn.ntmps c) (dy:(erase fn.ntmps c).fits fn.ntmps=true) (dR:args.length<=fn.ntmps)
  (h:AK P fn.ntmps (EV T fn.results.toList R Rp) [.sc sc] (St.enter args H fn.ntmps)) (gJ:∀ y fr H',R y fr H'->H'.length=H.length) (ah1:∀ ch H',Rp ch H'->H'.length=H.length):Cq P f args H R Rp:=by
 refine⟨⟨fn,hf,gq,by simp[hb]⟩,?_⟩
 intro N0 W0 fm ts w vs hH hv
 refine calls_of_wp hf hb ((qn []).1 ?_)
 have hS:=SR.enter hH hv dR
 have:=h N0 W0 fm (cj::ts) _ w [.code c] (bodyPost P fn fun e w'=>(∃ v av aH H' fm' t' ts',e=.returned v/\R av aH H'/\H'.length=H.length/\HR N0 W0 fm' (t'::ts') (aH::H') w'/\VR fm' (t'::ts') av v/\Ax N0 fm fm'/\Ak ts ts'/\
   (∀ l k,tb ts l k=none->tb ts' l k=none)/\∀ k,16<=k->t' k=none)\/
   ∃ ch H' fm' ts',e=.panicked ch/\Rp ch H'/\H'.length=H.length/\HR N0 W0 fm' ts' H' w'/\Ax N0 fm fm'/\Ak ts ts'/\∀ l k,tb ts l k=none->tb ts' l k=none) hS (.sc he dy .nil) ?_
 ·exact this
 ·intro e al a' w' fm' ts' hE bZ hL
  cases ts' with
  |nil=>have:=bZ.hr.len;simp at this
  |cons t rest=>
   have e8:Ak ts rest:=by simpa using hL.fu
   have bx:∀ l k,tb ts l k=none->tb rest l k=none:=by simpa using hL.no
   cases e with
   |normal=>
    obtain⟨xs,y,eA,hy,hR⟩:=hE
    obtain⟨v,h1,h2⟩:=ng (P:=P) hT bZ eA
    exact⟨bZ.cV.1,v,h1,.inl ⟨v,y,[],al.low,fm',dJ [] t,rest,rfl,hR,gJ _ _ _ hR,bZ.hr.aE rfl (by simp),h2.aE rfl hy,hL.cC,e8,bx,fun k dH=>rfl⟩⟩
   |ret=>
    obtain⟨xs,y,eA,hy,hR⟩:=hE
    obtain⟨v,h1,h2⟩:=ng (P:=P) hT bZ eA
    exact⟨bZ.cV.1,v,h1,.inl ⟨v,y,[],al.low,fm',dJ [] t,rest,rfl,hR,gJ _ _ _ hR,bZ.hr.aE rfl (by simp),h2.aE rfl hy,hL.cC,e8,bx,fun k dH=>rfl⟩⟩
   |panic ch=>exact⟨bZ.cV.1,.inr ⟨ch,al.low,fm',rest,rfl,hE,ah1 _ _ hE,bZ.hr.pop,hL.cC,e8,bx⟩⟩
   |_=>exact hE.elim
section
variable [Md] {n:Nat}{Φ:Exit->St->Prop}{f:FuncId}{args:List AV}{dst:Option Tmp}{drop:List Nat}{todo:List It}{st:St}
theorem Ci {R:AV->Aj->Heap->Prop}{Rp:List PanicEntry->Heap->Prop} (hp:Cq P f args (st.fr::st.low) R Rp) (h:∀ y fr H,R y fr H->AK P n Φ todo (st.ga dst drop y fr H)) (h2:∀ ch H,Rp ch H->Φ (.panic ch) (st.qm H)):
  Ar P n Φ (.call f args dst drop todo st):=⟨_,_,R,Rp,B2.refl _ _ _,hp,h,h2⟩
theorem F1 {t:TypeId}{x:AV} (h:∀ fm ts u,VR fm ts x u->Φ (.panic [{ v:=.iface t u,recovered:=false }]) st):Ar P n Φ (.throw (.bA t x) st):=⟨t,x,rfl,h⟩
theorem ER {rs:List ResultVar}{R:AV->Aj->Heap->Prop}{Rp:List PanicEntry->Heap->Prop}{e:Exit}{y0:AV} (he:e=.ret\/e=.normal) (h1:((fb T st rs).bind fun xs=>(bC xs).aE [])=some y0) (h2:R y0 [] st.low):Ar P n (EV T rs R Rp) (.fin e st):=by
 obtain⟨xs,h3,h4⟩:=Option.bind_eq_some_iff.1 h1
 rcases he with rfl|rfl<;>exact⟨xs,y0,h3,h4,h2⟩
end
end
theorem aeb (ks:List Nat) (b:List AV):∀ a:List AV,AV.cI ks (a++b)=(AV.cI ks a).bind fun x=>(AV.cI ks b).map (x++·)
 |[]=>by cases h:AV.cI ks b<;>simp[AV.cI,h]
 |u::a=>by
  simp only[A8,AV.cI,aeb ks b a]
  cases u.aE ks<;>cases AV.cI ks a<;>cases AV.cI ks b<;>rfl
theorem ajK {a:List AV} (h:BK a) (ks:List Nat) (b:List AV):AV.cI ks (a++b)=(AV.cI ks b).map (a++·):=by
 rw[aeb,h.aE];rfl
def qT:Aj->Nat->Ap->Aj
 |[],_,_=>[]
 |(j,x)::l,k,b=>if j=k then (j,b)::l else (j,x)::qT l k b
theorem adO {k:Nat}{b b':Ap} (hb:BD b b'):∀ {fr:Aj},look fr k=some b->Bt fr (qT fr k b')
 |[],h=>by simp[look]at h
 |(j,x)::l,h=>by
  simp only[look]at h
  by_cases hj:j=k
  ·rw[if_pos hj]at h
   obtain rfl:=oi h
   simp only[qT,if_pos hj]
   exact .cons _ _ _ _ _ hb (.refl l)
  ·rw[if_neg hj]at h
   simp only[qT,if_neg hj]
   exact .cons _ _ _ _ _ (.refl x) (adO hb h)
theorem AK.adN {P:Program}{n:Nat}{Φ:Exit->St->Prop}{todo:List It}{tm:List (Nat×AV)}{fr:Aj}{low:Heap}{nx nt:Nat} (k o e:Nat) {cs:List AV} (hk:look fr k=some (.box cs)) (ho:cs[o]?=some .nil)
  (h:AK P n Φ todo ⟨tm,qT fr k (.box (cs.set o (.sl e []))),low,nx,nt⟩):AK P n Φ todo ⟨tm,fr,low,nx,nt⟩:=by
 refine AK.qk (Ae.nl (.refl tm) (adO (.box _ _ ⟨by simp,?_⟩) hk)) h
 intro i x y hx hy
 rw[List.getElem?_set]at hy
 split at hy
 ·rename_i hi
  subst hi
  rw[ho]at hx
  obtain rfl:=oi hx
  split at hy
  ·obtain rfl:=oi hy;exact .nil e
  ·cases hy
 ·rw[hx]at hy;obtain rfl:=oi hy;exact .refl x
attribute [go_sem] qT
theorem acU (G:AA) (b:List AV):∀ a:List AV,AV.az G (a++b)=(AV.az G a).bind fun x=>(AV.az G b).map (x++·)
 |[]=>by cases h:AV.az G b<;>simp[AV.az,h]
 |u::a=>by
  simp only[A8,AV.az,acU G b a]
  cases u.ag G<;>cases AV.az G a<;>cases AV.az G b<;>rfl
theorem ahq {a:List AV} (h:BK a) (G:AA) (b:List AV):AV.az G (a++b)=(AV.az G b).map (a++·):=by
 rw[acU,h.ag];rfl
theorem zQ (k:Nat) (x:Ap) (b:List AV):∀ a:List AV,AV.cH k x (a++b)=(AV.cH k x a).bind fun y=>(AV.cH k x b).map (y++·)
 |[]=>by cases h:AV.cH k x b<;>simp[AV.cH,h]
 |u::a=>by
  simp only[A8,AV.cH,zQ k x b a]
  cases u.fz k x<;>cases AV.cH k x a<;>cases AV.cH k x b<;>rfl
theorem ahs {a:List AV}{k:Nat}{x:Ap} (h:AV.cH k x a=some a) (b:List AV):AV.cH k x (a++b)=(AV.cH k x b).map (a++·):=by
 rw[zQ,h];rfl
theorem wo {α:Type}{n:Nat}{E:α->List AV}{k:Nat}{x:Ap} (h:∀ y,AV.cH k x (E y)=some (E y)) (v:Aa n α):AV.cH k x (Aa.c E v)=some (Aa.c E v):=by
 have key:∀ l:List α,AV.cH k x (l.map E).flatten=some (l.map E).flatten:=by
  intro l
  induction l with
  |nil=>rfl
  |cons y l ih=>simp only[List.map_cons,BZ,zQ,ih,h,Av,AQ]
 exact key v.l
theorem AN.append {a b c d:List AV} (h:AN a b) (k:AN c d):AN (a++c) (b++d):=by
 refine⟨by simp[h.1,k.1],?_⟩
 intro i x y hx hy
 by_cases hi:i<a.length
 ·rw[B5 hi]at hx
  rw[B5 (by rw[<-h.1];exact hi)]at hy
  exact h.2 i x y hx hy
 ·rw[Ch (by omega)]at hx
  rw[Ch (by rw[<-h.1];omega)]at hy
  rw[<-h.1]at hy
  exact k.2 _ x y hx hy
section
variable [Md] {P:Program}{T:Aw}{N0:Nat}{W0:World}{n:Nat}{fm:FM}{ts:List Ah}{st:St}{a:Act}{w:World}{Q:Exit->Act->World->Prop}
theorem AK.seg {Φ:Exit->St->Prop}{B:St->Prop}{c:Code}{s:SC}{t:List Be} (hs:SR N0 W0 n st a w fm ts) (h:AK P n Φ [.sc s,.back B] st) (he:s.bare=erase n c) (hf:(erase n c).fits n=true)
  (hB:∀ al a' w' fm' ts',B al->SR N0 W0 n al a' w' fm' ts'->AT N0 fm ts fm' ts'->K P Q t .normal a' w')
  (gr:∀ e al a' w' fm' ts',Φ e al->SR N0 W0 n al a' w' fm' ts'->AT N0 fm ts fm' ts'->K P Q t e a' w'):K P Q (.code c::t) .normal a w:=by
 have h1:=h N0 W0 fm ts a w [.code c,.back (fun a' w'=>K P Q t .normal a' w')] (fun e a' w'=>K P Q t e a' w') hs
  (.sc he hf (.back (fun al a' w' fm' ts' hb lQ hl=>hB al a' w' fm' ts' hb lQ hl) .nil)) gr
 rw[DC]at h1 ⊢
 refine wpIn_mono h1 ?_
 intro e a' w' hk
 cases e<;>exact hk
theorem CW {arr:Array Oper}{i:Nat}{is:List Nat}{o:Oper}{t:List Be} (ho:arr[i]?=some o) (hg:o.guard=none) (h:o.wpIn FW 0 P a w (fun a' w'=>K P Q (.ops arr is::t) .normal a' w') (K P Q t)):K P Q (.ops arr (i::is)::t) .normal a w:=by
 unfold K
 simp only[wpOpsIn,ho]
 rw[if_pos (by simp[Region.wanted,hg])]
 exact h
theorem Gc {arr:Array Oper}{t:List Be} (h:K P Q t .normal a w):K P Q (.ops arr []::t) .normal a w:=by
 unfold K;simp only[wpOpsIn];exact h
theorem AK.last {Φ:Exit->St->Prop}{c:Code}{s:SC} (hs:SR N0 W0 n st a w fm ts) (h:AK P n Φ [.sc s] st) (he:s.bare=erase n c) (hf:(erase n c).fits n=true)
  (gr:∀ e al a' w' fm' ts',Φ e al->SR N0 W0 n al a' w' fm' ts'->AT N0 fm ts fm' ts'->Q e a' w'):K P Q [.code c] .normal a w:=
 h N0 W0 fm ts a w [.code c] Q hs (.sc he hf .nil) gr
end
theorem D6 (m m':Md) (h:m.uR=m'.uR) {P:Program}{Q:Exit->Act->World->Prop}:∀ t:List Be,@K m P Q t=@K m' P Q t
 |[]=>by funext e a w;simp only[K]
 |it::t=>by
  have hF:@FW m=@FW m':=by unfold FW;rw[h]
  have ih:=D6 m m' h (P:=P) (Q:=Q) t
  funext e a w
  cases it<;>simp only[K,ih,hF]
theorem SR.deep [Md] {N0:Nat}{W0:World}{n:Nat}{tm tm':List (Nat×AV)}{fr:Aj}{low:Heap}{nx nt:Nat}{a:Act}{w:World}{fm:FM}{ts:List Ah} (h:SR N0 W0 n ⟨tm,fr,low,nx,nt⟩ a w fm ts) (ht:∀ t x,look tm' t=some x->∃ y,look tm t=some y/\x=y.sh 1):
  SR N0 W0 n ⟨tm',[],fr::low,0,nt⟩ a w fm (cj::ts):=
 ⟨h.hr.push,fun t x hx=>by
  obtain⟨y,hy,rfl⟩:=ht t x hx
  obtain⟨v,h1,h2⟩:=h.tm t y hy
  exact⟨v,h1,h2.sh 1 (by simp)⟩,fun _ _=>rfl,h.size,h.cV⟩
theorem SR.qL (m m':Md) {N0:Nat}{W0:World}{n:Nat}{st:St}{a:Act}{w:World}{fm:FM}{ts:List Ah} (h:@SR m N0 W0 n st a w fm ts) {a':Act} (ht:a'.tmps=a.tmps) (hd:a'.defers=m'.qL) (hm:@Cu m' W0:=by exact fun _ _ h=>by cases h):@SR m' N0 W0 n st a' w fm ts:=by
 obtain⟨h1,h2,h3,h4,h5⟩:=h
 refine @SR.mk m' _ _ _ _ _ _ _ _ h1 (fun t x hx=>?_) h3 (by rw[ht];exact h4) ⟨hd,hm⟩
 obtain⟨v,h6,h7⟩:=h2 t x hx
 exact⟨v,by rw[ht];exact h6,h7⟩
theorem aje [Md] {P:Program}{o:Oper}{a:Act}{w w':World}{next:Act->World->Prop}{Q:Exit->Act->World->Prop}{d:Deferred} (hr:(execOp a.eval o).run P w=.ok (.defer d) w') (hm:Md.uR=none) (h:next ({ a with defers:=d::a.defers }.put o.dst undef) w'):o.wpIn FW 0 P a w next Q:=by
 refine⟨fun _ _=>trivial,?_⟩
 show Oper.uponIn FW 0 P o a next Q (Sem.run P (Oper.semAt Md.uR a.eval o) w)
 rw[hm,Oper.semAt_none,hr]
 exact h
section
variable [Md] {P:Program}{T:Aw}{N0:Nat}{W0:World}{n:Nat}{fm:FM}{ts:List Ah}{st:St}{a:Act}{w:World}{Q:Exit->Act->World->Prop}
theorem CV:∀ (s t:List Be) (e:Exit) (a:Act) (w:World),K P Q (s++t) e a w=K P (fun e a w=>K P Q t e a w) s e a w
 |[],t,e,a,w=>rfl
 |.code c::s,t,e,a,w=>by
  have ih:K P Q (s++t)=K P (fun e a w=>K P Q t e a w) s:=by funext e a w;exact CV s t e a w
  cases e<;>simp only[A8,K,ih]
 |.aj id::s,t,e,a,w=>by
  have ih:K P Q (s++t)=K P (fun e a w=>K P Q t e a w) s:=by funext e a w;exact CV s t e a w
  cases e<;>simp only[A8,K,ih]
 |.fe::s,t,e,a,w=>by
  have ih:K P Q (s++t)=K P (fun e a w=>K P Q t e a w) s:=by funext e a w;exact CV s t e a w
  cases e<;>simp only[A8,K,ih]
 |.ops arr l::s,t,e,a,w=>by
  have ih:K P Q (s++t)=K P (fun e a w=>K P Q t e a w) s:=by funext e a w;exact CV s t e a w
  cases e<;>simp only[A8,K,ih]
 |.back R::s,t,e,a,w=>by
  have ih:K P Q (s++t)=K P (fun e a w=>K P Q t e a w) s:=by funext e a w;exact CV s t e a w
  cases e<;>simp only[A8,K,ih]
theorem adY {arr:Array Oper}{t:List Be}:∀ is js:List Nat,wpOpsIn FW 0 P arr (K P Q (.ops arr js::t)) is=wpOpsIn FW 0 P arr (K P Q t) (is++js)
 |[],js=>by funext a w;rfl
 |i::is,js=>by
  have ih:=adY (arr:=arr) (t:=t) is js
  funext a w
  simp only[A8,wpOpsIn]
  cases arr[i]? with
  |none=>simp only[ih]
  |some o=>
   simp only[ih]
   rfl
theorem FC {arr:Array Oper}{t:List Be}{is js:List Nat} (h:K P Q (.ops arr is::.ops arr js::t) .normal a w):K P Q (.ops arr (is++js)::t) .normal a w:=by
 have e:=adY (P:=P) (Q:=Q) (arr:=arr) (t:=t) is js
 show wpOpsIn FW 0 P arr (K P Q t) (is++js) a w
 rw[<-e]
 exact h
theorem BW {c:Code}{t t':List Be} (h:∀ e a w,K P Q t e a w->K P Q t' e a w):∀ e a w,K P Q (.code c::t) e a w->K P Q (.code c::t') e a w:=by
 intro e a w hk
 cases e<;>first|exact h _ _ _ hk|exact wpIn_mono hk (fun e a w=>h e a w)
theorem BP {x y:Code}{t:List Be}:∀ e a w,K P Q (.code x::.code y::t) e a w->K P Q (.code (.seq x y)::t) e a w:=by
 intro e a w hk
 cases e<;>first|exact hk|exact B1 hk
theorem FE {id:Nat}{ops:Array Oper}{t:List Be}:∀ e a w,K P Q (.ops ops (List.range ops.size)::t) e a w->K P Q (.code (.region id ops false)::t) e a w:=by
 intro e a w hk
 cases e<;>first|exact hk|exact DD hk
theorem FD {arr:Array Oper}{is js:List Nat}{t:List Be}:∀ e a w,K P Q (.ops arr is::.ops arr js::t) e a w->K P Q (.ops arr (is++js)::t) e a w:=by
 intro e a w hk
 cases e<;>first|exact hk|exact FC hk
theorem ad0 {o:Oper}{w':World}{next:Act->World->Prop}{l fn:Nat}{tmps:Array Value}{assign body:Code} (hd:∀ c,o.op≠.defer c) (hr:(execOp a.eval o).run P w=.ok (.round l fn tmps assign body) w')
  (h:RoundIn FW 0 P l fn tmps assign body w' fun
   |.returned v,qj=>next (a.put o.dst v) qj
   |.panicked chain,qj=>Q (.panic chain) a qj
   |.outgrown,_=>LetsOut Q):o.wpIn FW 0 P a w next Q:=by
 refine⟨fun _ _=>trivial,?_⟩
 rw[Oper.semAt_eq _ _ _ hd,hr]
 exact⟨fun h=>by simp[FW]at h,h⟩
theorem AK.gR {Φ:Exit->St->Prop}{B:St->Prop}{todo:List It}{cs t:List Be} (hs:SR N0 W0 n st a w fm ts) (h:AK P n Φ (todo++[.back B]) st)
  (ey:∀ R:Act->World->Prop,(∀ al a' w' fm' ts',B al->SR N0 W0 n al a' w' fm' ts'->AT N0 fm ts fm' ts'->R a' w')->A0 N0 W0 n fm ts (todo++[.back B]) (cs++[.back R]))
  (hB:∀ al a' w' fm' ts',B al->SR N0 W0 n al a' w' fm' ts'->AT N0 fm ts fm' ts'->K P Q t .normal a' w')
  (gr:∀ e al a' w' fm' ts',Φ e al->SR N0 W0 n al a' w' fm' ts'->AT N0 fm ts fm' ts'->K P Q t e a' w'):K P Q (cs++t) .normal a w:=by
 have h1:=h N0 W0 fm ts a w (cs++[.back (fun a' w'=>K P Q t .normal a' w')]) (fun e a' w'=>K P Q t e a' w') hs (ey _ hB) gr
 rw[CV]at h1 ⊢
 have e:(fun e a w=>K P (fun e a' w'=>K P Q t e a' w') [.back (fun a' w'=>K P Q t .normal a' w')] e a w)=fun e a w=>K P Q t e a w:=by
  funext e a w
  cases e<;>rfl
 rw[e]at h1
 exact h1
end
section
variable {N0:Nat}{W0 W1:World}{fm:FM}{ts:List Ah}{H:Heap}{w w':World}
theorem HR.aaY (h:HR N0 W0 fm ts H w):HR N0 w fm ts H w:={ h with bJ:=Below.refl N0 w,bj:=fun _ _ a _=>a }
theorem HR.other (h:HR N0 W0 fm ts H w) {l:Nat}{o o':Obj} (hl:w.heap[l]?=some o) (ho:m9 o=true) (hN:N0<=l):HR N0 (w.putObj l o') fm ts H (w.putObj l o'):=by
 have ab:=(BY.1 hl).1
 have bj:∀ i,i≠l->(w.putObj l o').heap[i]?=w.heap[i]?:=fun i hi=>World.putObj_heap_other (by omega)
 refine⟨h.len,fun l' k b hg=>(h.aj l' k b hg).mono (fun _ _ _ a=>a) (Ak.refl _) (fun c hc=>bj c ?_),h.inj,fun b q v hv=>?_,h.dx,Below.refl _ _,?_,fun _ _ a _=>a⟩
 ·rintro rfl
  have hb:=h.aj l' k b hg
  generalize tb ts l' k=tt at hb hc
  cases hb with
  |box c' cs hN hb=>
   obtain⟨cells,et,h1,_⟩:=hb
   simp only[b9,oE]at hc
   subst hc
   rw[h1]at hl
   cases hl
   cases ho
  |nil et esz=>simp[b9]at hc
  |arr et esz es c' cap hN hb=>
   obtain⟨cells,h1,_⟩:=hb
   simp only[b9,oE]at hc
   subst hc
   rw[h1]at hl
   cases hl
   cases ho
 ·have h1:=h.bL _ _ _ hv
  refine(World.cell?_of_block (w:=w) (w':=w.putObj l o') (a:=⟨b,q,none⟩) (bj b ?_)).trans h1
  rintro rfl
  simp only[World.cell?,hl]at h1
  cases o<;>first|(cases ho;done)|(cases h1;done)
 ·have:=h.size
  show N0<=(w.putObj l o').heap.size
  simpa [World.putObj] using this
theorem HR.alloc (h:HR N0 W0 fm ts H w) (o:Obj):HR N0 W0 fm ts H (w.alloc o):=
 h.world (fun i hi=>Below.heap_alloc w o i hi) ((Below.refl N0 w).alloc h.size o)
end
theorem zF [Md] {P:Program}{T:Aw} (hT:AG P T) {N0:Nat}{W0:World}{fm:FM}{ts:List Ah}{st:St}{a:Act}{w:World}{n:Nat}{fn:Func}{v:AV} (hS:SR N0 W0 n st a w fm ts)
  (hE:Cv T fn.results.toList (fun y=>NL y v) .ret st):∃ u fm',(results fn a.tmps).run P w=.ok u w/\VR fm' [] v u/\CK fm' w/\Ax N0 fm fm':=by
 obtain⟨hl,xs,y,h1,h2,h3⟩:=hE
 obtain⟨u,h4,h5⟩:=ng (P:=P) hT hS h1
 have h6:=hS.hr.ag (bC xs).refs h5 h2 (fun _ h=>h)
 have h7:=hS.hr.oj (bC xs).refs
 exact⟨u,_,h4,h3.ok h6,h7.bL,hS.hr.qS _⟩
end Go.Abs
namespace Go.Abs
open Go
end Go.Abs
namespace Go.Abs
open Go Go.RowKit
section
variable [Md] {P:Program}{T:Aw}{n:Nat}{Φ:Exit->St->Prop}{f:FuncId}{args:List AV}{dst:Option Tmp}{drop:List Nat}{todo:List It}
def ahr (k:Nat) (b:Ap) (args:List AV):Option (List AV):=
 match AV.eD 1 args with
 |some xs=>match AV.cH k b xs with
  |some ys=>some (AV.ck 1 ys)
  |none=>none
 |none=>none
def aht (P:Program) (n:Nat) (Φ:Exit->St->Prop) (f:FuncId) (dst:Option Tmp) (drop:List Nat) (todo:List It) (st:St):Option (List AV)->Prop
 |some fh=>Ar P n Φ (.call f fh dst drop todo st)
 |none=>False
theorem ahu {eC:St}{fh:List AV}:aht P n Φ f dst drop todo eC (some fh)=Ar P n Φ (.call f fh dst drop todo eC):=rfl
attribute [go_sem] ahu ahr
end
section
variable [Md] {P:Program}{T:Aw}{n:Nat}{Φ:Exit->St->Prop}
end
theorem an {p q:Prop} (a:p) (b:q):p/\q:=⟨a,b⟩
theorem Ao.dm {n:Nat}{α:Type}{E:α->List AV}{z:Nat} (hE:∀ x,(E x).length=z) {cs:List AV}{o:Nat}{v:Aa n α}{g:Aa n α->List AV} (h:Ao cs o (Aa.c E) v g) {i:Int}{x:α} (hx:v.at? i=some x):
  Ao cs (o+i.toNat*z) E x (fun y=>g (v.set i y))/\o+i.toNat*z+z<=cs.length/\(cs.drop (o+i.toNat*z)).take z=E x:=
 have u:=Ao.at hE h hx
 ⟨u,u.bound hE,u.get hE⟩
theorem Ao.yv {n:Nat}{α:Type}{E:α->List AV}{z:Nat} (hE:∀ x,(E x).length=z) {v:Aa n α}{i:Int}{x:α} (h:v.at? i=some x):
  Ao (v.c E) (i.toNat*z) E x (fun y=>(v.set i y).c E)/\i.toNat*z+z<=(v.c E).length/\((v.c E).drop (i.toNat*z)).take z=E x:=
 have u:=Ao.idx hE h
 ⟨u,u.bound hE,u.get hE⟩
theorem pu {α β:Type} (E:α->β) {b:Nat}{l y:List α}{x:α} (h:iC b l x=some y):room (l.length+1) b/\l.map E++[E x]=y.map E/\y.length=l.length+1/\(y.map E).take (l.length+1)=y.map E:=⟨ajx h,ajw E h,ad4 h,ajy E h⟩
theorem yM {α β:Type} (E:α->β) {b:Nat}{l y x:List α} (h:iN b l x=some y):room (l.length+x.length) b/\l.map E++x.map E=y.map E/\y.length=l.length+x.length/\(y.map E).take (l.length+x.length)=y.map E:=⟨af1 h,afZ E h,abw h,af2 E h⟩
@[reducible] def Db (cs:List AV) (z z1 z2 z3:Nat):Prop:=
 (∀ d,AV.ck d cs=cs)/\(∀ G,AV.az G cs=some cs)/\(∀ G F,AV.cB G F cs=some cs)/\AV.aD cs=[]/\(∀ k,AV.fF k cs=cs)/\(∀ ks,AV.cI ks cs=some cs)/\(∀ d,AV.eD d cs=some cs)/\
 (∀ r,(cs++r).take z=cs)/\cs.take z=cs/\(∀ r,(cs++r).drop z=r)/\cs.drop z=[]/\(∀ k b r,AV.cH k b (cs++r)=(AV.cH k b r).map (cs++·))/\(∀ G r,AV.az G (cs++r)=(AV.az G r).map (cs++·))/\
 (∀ ks r,AV.cI ks (cs++r)=(AV.cI ks r).map (cs++·))/\(∀ r,(cs++r).length=z+r.length)/\(∀ r q,cs++r++q=cs++(r++q))/\(∀ r,(cs++r).drop z1=r.drop 1)/\(∀ r,(cs++r).take z1=cs++r.take 1)/\
 (∀ r,(cs++r).drop z2=r.drop 2)/\(∀ r,(cs++r).drop z3=r.drop 3)/\(∀ r,(cs++r)[z]?=r[0]?)/\(∀ r,(cs++r)[z1]?=r[1]?)/\(∀ r,(cs++r)[z2]?=r[2]?)/\(∀ r,(cs++r)[z3]?=r[3]?)/\
 (∀ r x,(cs++r).set z x=cs++r.set 0 x)/\(∀ r x,(cs++r).set z1 x=cs++r.set 1 x)/\(∀ r x,(cs++r).set z2 x=cs++r.set 2 x)/\∀ r x,(cs++r).set z3 x=cs++r.set 3 x
theorem vI {cs:List AV}{z z1 z2 z3:Nat} (hl:cs.length=z) (i:BK cs) (hf:∀ k b,AV.cH k b cs=some cs) (e1:z1=z+1) (e2:z2=z+2) (e3:z3=z+3):Db cs z z1 z2 z3:=by
 subst hl e1 e2 e3
 have dr:∀ (j:Nat) (r:List AV),(cs++r).drop (cs.length+j)=r.drop j:=fun j r=>by rw[List.drop_append,DI (by omega),D8];rfl
 have ge:∀ (j:Nat) (r:List AV),(cs++r)[cs.length+j]?=r[j]?:=fun j r=>by rw[Ch (by omega),D8]
 have se:∀ (j:Nat) (r:List AV) (x:AV),(cs++r).set (cs.length+j) x=cs++r.set j x:=fun j r x=>by rw[List.set_append_right _ _ (by omega),D8]
 exact⟨i.sh,i.ag,i.br,i.refs,i.imp,i.aE,i.un,fun r=>CO rfl,Co,fun r=>List.drop_left' rfl,List.drop_length,fun k b r=>ahs (hf k b) r,fun G r=>ahq i G r,fun ks r=>ajK i ks r,fun r=>BL,fun r q=>Cd _ _ _,
  dr 1,fun r=>by rw[List.take_append,Cn (by omega),D8],dr 2,dr 3,ge 0,ge 1,ge 2,ge 3,se 0,se 1,se 2,se 3⟩
def SQ:List SC->SC
 |[]=>.skip
 |[a]=>a
 |a::b::l=>.seq a (SQ (b::l))
def RG (l:List Ai):SC:=.ja l
def CN (t:Nat) (a b:SC):SC:=.cond (.tmp t) a b
def gd (g:Nat) (w:Bool) (o:Ai):Ai:=⟨o.dst,o.op,o.type,some (g,w),o.drop⟩
def oQ (d:Nat) (o:Op) (t:Nat) (l:List Nat:=[]):Ai:=⟨some d,o,t,none,l⟩
def wV (d a t:Nat) (l:List Nat:=[]):Ai:=⟨some d,.move (.tmp a),t,none,l⟩
def wD (d t a:Nat) (l:List Nat:=[]):Ai:=⟨some d,.load t (.tmp a),t,none,l⟩
def wF (d t a f:Nat) (l:List Nat:=[]):Ai:=⟨some d,.fieldAddr t (.tmp a) f,0,none,l⟩
def wI (d t a b:Nat) (l:List Nat:=[]):Ai:=⟨some d,.indexAddr t (.tmp a) (.tmp b),0,none,l⟩
def wJ (d t a:Nat) (n:Int) (l:List Nat:=[]):Ai:=⟨some d,.indexAddr t (.tmp a) (.const (.int .i64 n)),0,none,l⟩
def wG (d a t:Nat) (l:List Nat:=[]):Ai:=⟨some d,.assign (.tmp a),t,none,l⟩
def wN (d:Nat) (n:Int) (t:Nat) (l:List Nat:=[]):Ai:=⟨some d,.assign (.const (.int .i64 n)),t,none,l⟩
def wB (d:Nat) (b:Bool) (t:Nat) (l:List Nat:=[]):Ai:=⟨some d,.assign (.const (.bool b)),t,none,l⟩
def wX (d a i t:Nat) (l:List Nat:=[]):Ai:=⟨some d,.extract (.tmp a) i,t,none,l⟩
def wL (d a s t:Nat) (l:List Nat:=[]):Ai:=⟨some d,.call ⟨.builtin .len,#[.tmp a],#[s]⟩,t,none,l⟩
def wC (d f:Nat) (xs:Array Operand) (ts:Array Nat) (t:Nat) (l:List Nat:=[]):Ai:=⟨some d,.call ⟨.value (.func f),xs,ts⟩,t,none,l⟩
def wU (d f a s t:Nat) (l:List Nat:=[]):Ai:=⟨some d,.call ⟨.value (.func f),#[.tmp a],#[s]⟩,t,none,l⟩
def wW (d f a b s u t:Nat) (l:List Nat:=[]):Ai:=⟨some d,.call ⟨.value (.func f),#[.tmp a,.tmp b],#[s,u]⟩,t,none,l⟩
def wP (d a b s u t:Nat) (l:List Nat:=[]):Ai:=⟨some d,.call ⟨.builtin .append,#[.tmp a,.tmp b],#[s,u]⟩,t,none,l⟩
def wO (d:Nat) (o:BinOp) (s a b u t:Nat) (l:List Nat:=[]):Ai:=⟨some d,.binOp o s (.tmp a) (.tmp b) u,t,none,l⟩
def wK (d:Nat) (o:BinOp) (s a:Nat) (n:Int) (u t:Nat) (l:List Nat:=[]):Ai:=⟨some d,.binOp o s (.tmp a) (.const (.int .i64 n)) u,t,none,l⟩
def wS (t a v:Nat) (l:List Nat:=[]):Ai:=⟨none,.store t (.tmp a) (.tmp v),0,none,l⟩
def wA (d t:Nat) (l:List Nat:=[]):Ai:=⟨some d,.alloc t,0,none,l⟩
def wE (d t v:Nat) (l:List Nat:=[]):Ai:=⟨some d,.box t (.tmp v),0,none,l⟩
def wT (d a b t:Nat) (l:List Nat:=[]):Ai:=⟨some d,.pick (.tmp a) (.const (.bool true)) (.tmp b),t,none,l⟩
def wZ (d a b t:Nat) (l:List Nat:=[]):Ai:=⟨some d,.pick (.tmp a) (.tmp b) (.const (.bool false)),t,none,l⟩
def wQ (d a t:Nat) (l:List Nat:=[]):Ai:=⟨some d,.unOp .not t (.tmp a),t,none,l⟩
def wY (d s u a t:Nat) (l:List Nat:=[]):Ai:=⟨some d,.convert s u (.tmp a),t,none,l⟩
attribute [go_sem] SQ RG CN gd oQ wV wD wF wI wJ wG wN wB wX wL wC wU wW wP wO wK wS wA wE wT wZ wQ wY
section
variable [Md] {P:Program}{T:Aw}{n:Nat}{Φ:Exit->St->Prop}{C:List (De×Rd)->St->Prop}
theorem BJ {f:List It->St->Ev}{b:Bool}{t t':List It}{s s':St}{ρ:Type}{A B:Option ρ}{r:ρ} (h:(bif !b then A else B)=some r) (h1:b=false->A=some r->Ar P n Φ (f t s)) (h2:b=true->B=some r->Ar P n Φ (f t' s')):Ar P n Φ (two f (!b) t s t' s'):=by
 cases b with
 |true=>exact h2 rfl h
 |false=>exact h1 rfl h
theorem F3 {f:List Ai->List (De×Rd)->St->BT}{b:Bool}{os fY:List Ai}{acc fN:List (De×Rd)}{st al:St}{ρ:Type}{A B:Option ρ}{r:ρ} (h:(bif !b then A else B)=some r) (h1:b=false->A=some r->DG P T C (f os acc st)) (h2:b=true->B=some r->DG P T C (f fY fN al)):DG P T C (nr f (!b) os acc st fY fN al):=by
 cases b with
 |true=>exact h2 rfl h
 |false=>exact h1 rfl h
theorem AF {p:Prop} (F:p) {f:List It->St->Ev}{b:Bool}{t t':List It}{s s':St}{ρ:Type}{A B:Option ρ}{r:ρ} (h:(bif b then A else B)=some r) (h1:b=true/\p->A=some r->Ar P n Φ (f t s)) (h2:b=false/\p->B=some r->Ar P n Φ (f t' s')):Ar P n Φ (two f b t s t' s'):=AO h (fun a=>h1 ⟨a,F⟩) (fun a=>h2 ⟨a,F⟩)
theorem Bd {p:Prop} (F:p) {f:List It->St->Ev}{b:Bool}{t t':List It}{s s':St}{ρ:Type}{A B:Option ρ}{r:ρ} (h:(bif !b then A else B)=some r) (h1:b=false/\p->A=some r->Ar P n Φ (f t s)) (h2:b=true/\p->B=some r->Ar P n Φ (f t' s')):Ar P n Φ (two f (!b) t s t' s'):=BJ h (fun a=>h1 ⟨a,F⟩) (fun a=>h2 ⟨a,F⟩)
theorem DF {p:Prop} (F:p) {f:List Ai->List (De×Rd)->St->BT}{b:Bool}{os fY:List Ai}{acc fN:List (De×Rd)}{st al:St}{ρ:Type}{A B:Option ρ}{r:ρ} (h:(bif b then A else B)=some r) (h1:b=true/\p->A=some r->DG P T C (f os acc st)) (h2:b=false/\p->B=some r->DG P T C (f fY fN al)):DG P T C (nr f b os acc st fY fN al):=DZ h (fun a=>h1 ⟨a,F⟩) (fun a=>h2 ⟨a,F⟩)
theorem ET {p:Prop} (F:p) {f:List Ai->List (De×Rd)->St->BT}{b:Bool}{os fY:List Ai}{acc fN:List (De×Rd)}{st al:St}{ρ:Type}{A B:Option ρ}{r:ρ} (h:(bif !b then A else B)=some r) (h1:b=false/\p->A=some r->DG P T C (f os acc st)) (h2:b=true/\p->B=some r->DG P T C (f fY fN al)):DG P T C (nr f (!b) os acc st fY fN al):=F3 h (fun a=>h1 ⟨a,F⟩) (fun a=>h2 ⟨a,F⟩)
theorem agW (hT:AG P T) {ops:List Ai}{befs:List (List Nat)}{todo:List It}{acc ds:List (De×Rd)}{st oG:St} (h:Ar P n Φ (run T 1000 todo oG)) (hC:(calm ops befs ds=true/\AK P n Φ todo oG)->C acc st) {sk:List (List (Nat×Nat)×Rd)} (h1:jM ds=sk) (h2:calm ops befs (lk sk)=true):
  DG P T C (.done acc st):=Eb (hC ⟨ze h1 h2,eQ hT 1000 _ _ h⟩)
end
end Go.Abs
namespace Go.Abs
open Go Go.RowKit Go.Maps
def iz (p:Int×Int):Value:=.agg #[.int .i64 p.1,.int .i64 p.2]
def BH (P:Program) (k e:TypeId) (w:World) (r n:Nat) (L:List (Int×Int)):Prop:=
 ∃ D:DataW Nat,w.ownsMap P k (plainElem P e) r n D/\∀ p kl,keyOf P k (iz p)=some kl->D.atKey kl (.lit (.bool false))=.lit (.bool (decide (p∈L)))
variable {P:Program}{t k e:TypeId}{w:World}{r n:Nat}{L:List (Int×Int)}
theorem BH.made (w:World):BH P k e (w.alloc (.map #[] 0)) w.heap.size 0 []:=
 ⟨.map [],World.ownsMap_made w P k _,fun p kl _=>by simp[DataW.atKey]⟩
theorem ajt {H:Type}{e:TypeId} (he:P.underlying e=some .bool) {v:Value}{z:DataW H×List MemPlace} (h:plainElem P e v=some z):∃ x,v=.bool x/\z=(.lit (.bool x),[]):=by
 unfold plainElem at h
 rw[he]at h
 cases v<;>simp at h
 exact⟨_,rfl,h.symm⟩
theorem BH.look (h:BH P k e w r n L) (K:Keyed P k) (ht:P.underlying t=some (.map k e)) (he:P.underlying e=some .bool) (hz:(zeroValue e).run P w=.ok (.bool false) w) (p:Int×Int) {kl:Lit} (hk:keyOf P k (iz p)=some kl):
  (Instr.lookup t (.map (some r)) (iz p) false).run P w=.ok (.bool (decide (p∈L))) w:=by
 obtain⟨D,h1,h2⟩:=h
 obtain⟨v,ps,h3,h4⟩:=h1.lookup K ht hz (plainElem_bool he false) hk
 obtain⟨x,rfl,h5⟩:=ajt he h4
 rw[h2 p kl hk]at h5
 simp only[Prod.mk.injEq,DataW.lit.injEq,Lit.bool.injEq]at h5
 rw[h3,<-h5.1]
theorem BH.put (h:BH P k e w r n L) (K:Keyed P k) (ht:P.underlying t=some (.map k e)) (he:P.underlying e=some .bool) (hn:n<maxLen) (p:Int×Int) {kl:Lit} (hk:keyOf P k (iz p)=some kl):
  ∃ es' jg,(Instr.mapUpdate t (.map (some r)) (iz p) (.bool true)).run P w=.ok () (ChangeMaps.setBlock w r (.map es' jg))/\BH P k e (ChangeMaps.setBlock w r (.map es' jg)) r (n+1) (p::L):=by
 obtain⟨D,⟨es,clock,hb,F,hs,rfl⟩,h2⟩:=h
 have hv:plainElem (H:=Nat) P e (.bool true)=some (.lit (.bool true),[]):=plainElem_bool he true
 obtain⟨es',jg,aK,F',tV,_⟩:=Maps.fit_store (R':=plainElem P e) K ht hb F (Nat.lt_of_le_of_lt hs hn) (fun _ _ _ _ hz=>hz) hk hv
 refine⟨es',jg,aK,_,⟨es',jg,ChangeMaps.heap_setBlock_same hb _,F',?_,rfl⟩,?_⟩
 ·have e1:es'.size=((es'.toList.map (WideElems.rg P k (plainElem (H:=Nat) P e))).foldr DataW.insert []).length:=by rw[length_sorted];simp
  rw[e1,tV]
  unfold ChangeMaps.putKey
  rw[length_insert]
  have e2:=List.length_filter_le (ChangeMaps.notKey kl) ((es.toList.map (WideElems.rg P k (plainElem (H:=Nat) P e))).foldr DataW.insert [])
  rw[length_sorted]at e2
  simp at e2
  omega
 ·intro q kq hq
  rw[tV,<-DataW.put_eq]
  by_cases lO:q=p
  ·subst lO
   rw[hk]at hq
   obtain rfl:=oi hq
   rw[Maps.atKey_put_same ⟨_,rfl⟩ (K.key hk)]
   simp
  ·have bg:kq≠kl:=by
    rintro rfl
    have:=K.inj hq hk
    simp only[iz,Value.agg.injEq,Array.mk.injEq,List.cons.injEq,Value.int.injEq,true_and,and_true]at this
    exact lO (Prod.ext this.1 this.2)
   rw[Maps.atKey_put_other bg,h2 q kq hq]
   simp[lO]
end Go.Abs
namespace Go.Abs
open Go
theorem gv {n:Int} (h1:-9223372036854775808<=n) (h2:n<=9223372036854775807):af n=n:=by
 simp only[af,IntKind.wrap,IntKind.bits,IntKind.signed]
 simp
 omega
theorem dD {α:Type}{l:List α}{i:Nat}{x:α} (h:l[i]?=some x):at? l (i:Int)=some x:=by
 have:i<l.length:=(gS.1 h).1
 unfold at?
 rw[if_pos ⟨by omega,by omega⟩]
 simpa using h
def scan {R:Type} (g:Nat->Option R):Nat->Nat->Option R
 |_,0=>none
 |i,n+1=>match g i with
  |some r=>some r
  |none=>scan g (i+1) n
theorem akC {α R:Type}{l:List α}{body:Int->Option (AW Int Unit R)}{f:α->Option R} (hn:l.length<=9223372036854775807) {k:Nat} (hk:l.length<k)
  (h1:∀ (i:Nat) x,l[i]?=some x->body (i:Int)=some (match f x with|some r=>.ret r|none=>.next (af ((i:Int)+1)))) (h2:body (l.length:Int)=some (.brk ())):
  aB body k 0=some (match l.findSome? f with|some r=>.ret r|none=>.brk ()):=by
 have key:∀ (m:List α) (i k:Nat),l.drop i=m->i+m.length=l.length->m.length<k->aB body k (i:Int)=some (match m.findSome? f with|some r=>.ret r|none=>.brk ()):=by
  intro m
  induction m with
  |nil=>
   intro i k _ h3 h4
   cases k with
   |zero=>omega
   |succ k=>
    have:i=l.length:=by simpa using h3
    subst this
    rw[aB,h2];rfl
  |cons x m ih=>
   intro i k h5 h3 h4
   cases k with
   |zero=>omega
   |succ k=>
    simp only[Ay]at h3 h4
    have hx:l[i]?=some x:=by
     have:=congrArg (fun q=>q[0]?) h5
     simpa using this
    rw[aB,h1 i x hx]
    cases hf:f x with
    |some r=>simp only[List.findSome?_cons,hf]
    |none=>
     simp only[List.findSome?_cons,hf]
     have:af ((i:Int)+1)=((i+1:Nat):Int):=by rw[gv (by omega) (by omega)];omega
     rw[this]
     exact ih (i+1) k (by rw[<-List.drop_drop,h5];rfl) (by omega) (by omega)
 exact key l 0 k rfl (by simp) hk
theorem aeX {α S R τ:Type}{l:List α}{body:τ->Option (AW τ S R)} (mk:Int->S->τ) (f:S->α->S) (Inv:Nat->S->Prop) (hn:l.length<=9223372036854775807) {k:Nat} (hk:l.length<k) {s0:S} (h0:Inv 0 s0)
  (h1:∀ (i:Nat) x s,l[i]?=some x->Inv i s->body (mk (i:Int) s)=some (.next (mk (af ((i:Int)+1)) (f s x)))/\Inv (i+1) (f s x)) (h2:∀ s,Inv l.length s->body (mk (l.length:Int) s)=some (.brk s)):
  aB body k (mk 0 s0)=some (.brk (l.foldl f s0))/\Inv l.length (l.foldl f s0):=by
 have key:∀ (m:List α) (i k:Nat) (s:S),l.drop i=m->i+m.length=l.length->m.length<k->Inv i s->aB body k (mk (i:Int) s)=some (.brk (m.foldl f s))/\Inv l.length (m.foldl f s):=by
  intro m
  induction m with
  |nil=>
   intro i k s _ h3 h4 hI
   cases k with
   |zero=>omega
   |succ k=>
    have:i=l.length:=by simpa using h3
    subst this
    exact⟨by rw[aB,h2 s hI];rfl,hI⟩
  |cons x m ih=>
   intro i k s h5 h3 h4 hI
   cases k with
   |zero=>omega
   |succ k=>
    simp only[Ay]at h3 h4
    have hx:l[i]?=some x:=by
     have:=congrArg (fun q=>q[0]?) h5
     simpa using this
    obtain⟨h6,h7⟩:=h1 i x s hx hI
    have:af ((i:Int)+1)=((i+1:Nat):Int):=by rw[gv (by omega) (by omega)];omega
    rw[this]at h6
    rw[aB,h6]
    exact ih (i+1) k (f s x) (by rw[<-List.drop_drop,h5];rfl) (by omega) (by omega) h7
 exact key l 0 k s0 rfl (by simp) hk h0
theorem ad5 {α:Type}{b:Nat}{l:List α}{x:α} (h:(l.length+1)*b<=140737488355328) (h2:l.length+1<4611686018427387904):iC b l x=some (l++[x]):=by
 unfold iC iN
 rw[if_pos ⟨by simpa using h,by simpa using h2⟩]
end Go.Abs
