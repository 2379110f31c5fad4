/-
  Part 1 of the proof: a machine over named blocks, what each function computes, and what follows. No condition.
-/
import Derived.Calls
import Derived.Below
import Derived.Laws.AppendOwn
import Derived.Laws.MakeOwn
import Derived.Laws.CopyRow
import Derived.Laws.Entries
import Derived.Laws.StructEq
import Derived.Laws.Small
import Derived.Laws.Slices
import Derived.Laws.Panics
import Derived.ChangeKeysEq
import Derived.Shelf.Abstract
import Derived.WideLaws
import Derived.Laws.Shifts
import Derived.Laws.Strings
import Derived.Laws.BytesString
import Derived.Laws.Tables
import Derived.Laws.Unary
import Derived.Laws.Cover3
import Derived.Laws.Build
import Derived.Great.FillDense
import Derived.Great.BuildSlice
import Derived.Deep.AppendSrc
import Derived.Lib.AppendZerosOnto
import Derived.Laws.IdiomStrings
import Derived.LoopNIn
import Derived.OrdersIn
import Derived.Scope
set_option linter.unusedVariables false
set_option linter.unusedSimpArgs false
set_option linter.all false
namespace Go.Abs
universe u v
theorem oi {α:Type u}{a b:α} (h:some a=some b):a=b:=Option.some.inj h
theorem oE {α:Type u} (a b:α):(some a=some b)=(a=b):=Option.some.injEq a b
theorem gS {α:Type u}{l:List α}{i:Nat}{a:α}:l[i]?=some a↔∃ h:i<l.length,l[i]=a:=List.getElem?_eq_some_iff
theorem gG {α:Type u}{l:List α}{i:Nat} (h:i<l.length):l[i]?=some l[i]:=List.getElem?_eq_getElem h
theorem mS {α:Type u}{β:Type v}{x:Option α}{f:α->β}{b:β}:x.map f=some b↔∃ a,x=some a/\f a=b:=Option.map_eq_some_iff
abbrev Ae:=@Option.bind_some
abbrev AA:=@List.length_cons
abbrev AE:=@decide_eq_true
abbrev Az:=@List.length_nil
abbrev Ak:=@cond_false
abbrev AI:=@decide_eq_false
abbrev Am:=@cond_true
abbrev A9:=@List.length_append
abbrev AU:=@List.mem_of_getElem?
abbrev CE:=@List.getElem?_append_right
abbrev AW:=@Bool.not_true
abbrev Ba:=@List.length_take
abbrev A0:=@Option.map_some
abbrev CF:=@List.take_of_length_le
abbrev BZ:=@List.mem_of_mem_take
abbrev Bo:=@Array.getElem?_eq_getElem
abbrev Fs:=@Nat.add_sub_cancel_left
abbrev BF:=@List.mem_iff_getElem?
abbrev A1:=@Bool.and_eq_true
abbrev Be:=@Nat.le_refl
abbrev DE:=@List.drop_of_length_le
abbrev Bp:=@List.length_drop
abbrev Bg:=@List.cons_append
abbrev Bh:=@List.length_map
abbrev Bs:=@Bool.not_false
abbrev CO:=@List.take_length
abbrev Bb:=@List.mem_append
abbrev BW:=@Nat.mul_le_mul_right
abbrev Cc:=@List.getElem?_cons_succ
abbrev Bw:=@decide_true
abbrev BP:=@List.getElem?_cons_zero
abbrev Cn:=@Int.toNat_natCast
abbrev BQ:=@Bool.true_and
abbrev BA:=@List.getElem?_map
abbrev BS:=@List.getElem?_take
abbrev Cl:=@List.mem_of_mem_drop
abbrev Ct:=@List.getElem?_append_left
abbrev Cu:=@List.append_assoc
abbrev Bt:=@List.nil_append
abbrev CK:=@List.getElem?_eq_none
abbrev C4:=@List.take_append_drop
abbrev BE:=@List.mem_cons
abbrev CP:=@List.length_replicate
abbrev C5:=@List.length_set
abbrev Cv:=@Array.getElem?_eq_some_iff
abbrev DV:=@List.take_left'
abbrev DW:=@List.drop_append_of_le_length
abbrev E4:=@List.take_append_of_le_length
abbrev CY:=@Int.natCast_zero
abbrev Co:=@Nat.zero_add
abbrev CG:=@List.mem_singleton
abbrev Ef:=@Option.map_none
abbrev Cg:=@List.getElem?_drop
abbrev C6:=@Bool.false_eq_true
abbrev Ft:=@List.length_singleton
abbrev DX:=@Nat.le_trans
abbrev Cx:=@List.flatten_cons
abbrev C7:=@List.map_append
end Go.Abs
namespace Go.Abs
open Go
inductive AV where
 |bool (b:Bool)
 |int (k:IntKind) (n:Int)
 |str (s:ByteArray)
 |nil
 |sl (esz:Nat) (es:List (List AV))
 |loc (l key esz i n g:Nat)
 |bG (l key esz o n:Nat)
 |bH
 |ptr (l key o:Nat)
 |bx (l key esz i o g:Nat)
 |aD (esz:Nat) (es:List (List AV)) (i o:Nat)
 |bQ
 |fn (f:Fn) (first cap:List AV)
 |bV
 |raw (v:Value)
 |bU (t:TypeId) (v:AV)
 |agg (cs:List AV)
 |ar (vs:List AV)
 |dead
 deriving Inhabited
inductive TD where
 |int (k:IntKind)
 |bool
 |str
 |slice (e:TypeId)
 |array (n:Nat) (e:TypeId)
 |struct
 |ptr (e:TypeId)
 |map (k e:TypeId)
 |func
 |iface
 deriving Inhabited,DecidableEq
structure TI where
 size:Nat
 bytes:Nat
 zero:List AV
 d:TD
 el:Nat
 vT:Nat
 ady:Bool
 fR:List AV
 fl:List (Nat×Nat×Bool)
 pl:Bool
 sc:List (Nat×TypeId×Nat)
 deriving Inhabited
def TI.isAgg (ti:TI):Bool:=
 match ti.d with
 |.struct|.array _ _=>true
 |_=>false
abbrev AN:=Nat->Option TI
inductive AG where
 |arr (et:TypeId) (esz:Nat) (es:List (List AV))
 |box (cs:List AV)
 deriving Inhabited
abbrev Au:=List (Nat×AG)
abbrev Heap:=List Au
abbrev AS:=Nat->Nat->Option AG
structure St where
 tm:List (Nat×AV)
 fr:Au
 low:Heap
 nx:Nat
 nt:Nat
def look {α:Type}:List (Nat×α)->Nat->Option α
 |[],_=>none
 |(k,x)::l,t=>if k=t then some x else look l t
def ins {α:Type}:List (Nat×α)->Nat->α->List (Nat×α)
 |[],t,v=>[(t,v)]
 |(k,x)::l,t,v=>if t<k then (t,v)::(k,x)::l else if t=k then (t,v)::l else (k,x)::ins l t v
def del {α:Type}:List (Nat×α)->Nat->List (Nat×α)
 |[],_=>[]
 |(k,x)::l,t=>if k=t then del l t else (k,x)::del l t
def cw {α:Type} (l:List (Nat×α)):List Nat->List (Nat×α)
 |[]=>l
 |t::ts=>cw (del l t) ts
def Heap.get:Heap->Nat->Nat->Option AG
 |[],_,_=>none
 |f::_,0,key=>look f key
 |_::H,l+1,key=>Heap.get H l key
def Heap.put:Heap->Nat->Nat->Option AG->Heap
 |[],_,_,_=>[]
 |f::H,0,key,some b=>ins f key b::H
 |f::H,0,key,none=>del f key::H
 |f::H,l+1,key,b=>f::Heap.put H l key b
def Heap.bN:Heap->List (Nat×Nat×Option AG)->Heap
 |H,[]=>H
 |H,(l,k,b)::r=>Heap.bN (H.put l k b) r
mutual
def AV.sh (d:Nat):AV->AV
 |.loc l k e i n g=>.loc (l+d) k e i n g
 |.bG l k e o n=>.bG (l+d) k e o n
 |.ptr l k o=>.ptr (l+d) k o
 |.bx l k e i o g=>.bx (l+d) k e i o g
 |.fn f a b=>.fn f (AV.dq d a) (AV.dq d b)
 |.bU t v=>.bU t (v.sh d)
 |.agg cs=>.agg (AV.dq d cs)
 |.ar vs=>.ar (AV.dq d vs)
 |.bool b=>.bool b
 |.int k n=>.int k n
 |.str s=>.str s
 |.nil=>.nil
 |.sl e es=>.sl e es
 |.bH=>.bH
 |.aD e es i o=>.aD e es i o
 |.bQ=>.bQ
 |.bV=>.bV
 |.raw r_=>.raw r_
 |.dead=>.dead
def AV.dq (d:Nat):List AV->List AV
 |[]=>[]
 |x::l=>x.sh d::AV.dq d l
end
def uJ (d l:Nat):Option Nat:=if d<=l then some (l - d) else none
mutual
def AV.un (d:Nat):AV->Option AV
 |.loc l k e i n g=>(uJ d l).map fun l=>.loc l k e i n g
 |.bG l k e o n=>(uJ d l).map fun l=>.bG l k e o n
 |.ptr l k o=>(uJ d l).map fun l=>.ptr l k o
 |.bx l k e i o g=>(uJ d l).map fun l=>.bx l k e i o g
 |.fn f a b=>match AV.gz d a,AV.gz d b with
  |some a,some b=>some (.fn f a b)
  |_,_=>none
 |.bU t v=>(v.un d).map (.bU t)
 |.agg cs=>(AV.gz d cs).map .agg
 |.ar vs=>(AV.gz d vs).map .ar
 |.bool b=>some (.bool b)
 |.int k n=>some (.int k n)
 |.str s=>some (.str s)
 |.nil=>some .nil
 |.sl e es=>some (.sl e es)
 |.bH=>some .bH
 |.aD e es i o=>some (.aD e es i o)
 |.bQ=>some .bQ
 |.bV=>some .bV
 |.raw r_=>some (.raw r_)
 |.dead=>some .dead
def AV.gz (d:Nat):List AV->Option (List AV)
 |[]=>some []
 |x::l=>match x.un d,AV.gz d l with
  |some x,some l=>some (x::l)
  |_,_=>none
end
mutual
def AV.ai (G:AS):AV->Option AV
 |.loc l k e i n g=>match G l k with
  |some (.arr _ esz es)=>if esz=e/\es.length=g/\i+n<=g then some (.sl e ((es.drop i).take n)) else none
  |_=>none
 |.nil=>some .nil
 |.bU t v=>(v.ai G).map (.bU t)
 |.agg cs=>(AV.aG G cs).map .agg
 |.ar vs=>(AV.aG G vs).map .ar
 |.bool b=>some (.bool b)
 |.int k n=>some (.int k n)
 |.str s=>some (.str s)
 |.sl e es=>some (.sl e es)
 |.bH=>some .bH
 |.bQ=>some .bQ
 |.bV=>some .bV
 |.raw r_=>some (.raw r_)
 |.aD e es i o=>some (.aD e es i o)
 |.fn f a b=>match AV.aG G a,AV.aG G b with
  |some a,some b=>some (.fn f a b)
  |_,_=>none
 |_=>none
def AV.aG (G:AS):List AV->Option (List AV)
 |[]=>some []
 |x::l=>match x.ai G,AV.aG G l with
  |some x,some l=>some (x::l)
  |_,_=>none
end
mutual
def AV.refs:AV->List (Nat×Nat)
 |.loc l k _ _ _ _=>[(l,k)]
 |.fn _ a b=>AV.aO a++AV.aO b
 |.bU _ v=>v.refs
 |.agg cs=>AV.aO cs
 |.ar vs=>AV.aO vs
 |_=>[]
def AV.aO:List AV->List (Nat×Nat)
 |[]=>[]
 |x::l=>x.refs++AV.aO l
end
def iB (r:List (Nat×Nat)):List (Nat×Nat×Option AG):=r.map fun(l,k)=>(l,k,none)
def AV.flat:AV->Bool
 |.agg _=>false
 |.ar _=>false
 |.dead=>false
 |_=>true
mutual
def gf:Value->Option AV
 |.bool b=>some (.bool b)
 |.int k n=>some (.int k n)
 |.string s=>some (.str s)
 |.slice none 0 0=>some .nil
 |.pointer none=>some .bH
 |.nilFunc=>some .bQ
 |.nilIface=>some .bV
 |.agg ⟨cs⟩=>match vN cs with
  |some l=>if l.all AV.flat then some (.agg l) else none
  |none=>none
 |_=>none
def vN:List Value->Option (List AV)
 |[]=>some []
 |x::l=>match gf x,vN l with
  |some x,some l=>some (x::l)
  |_,_=>none
end
abbrev Tm:=Nat->Option AV
def bl (tm:Tm):Operand->Option AV
 |.tmp t=>tm t
 |.const v=>gf v
 |.func f=>some (.fn (.func f) [] [])
 |.global _=>none
def j8 (tm:Tm):List Operand->Option (List AV)
 |[]=>some []
 |x::l=>match bl tm x,j8 tm l with
  |some x,some l=>some (x::l)
  |_,_=>none
def AV.cells:AV->Option (List AV)
 |.agg cs=>some cs
 |.ar _=>none
 |.dead=>none
 |v=>some [v]
def aaA (es:List (List AV)) (i o size:Nat):Option (List AV):=
 match es[i]? with
 |none=>none
 |some c=>
  if o+size<=c.length then some ((c.drop o).take size)
  else if o=0/\c.length=1/\i+size<=es.length then some ((es.drop i).take size).flatten
  else none
def ru (agg:Bool) (cs:List AV):Option AV:=
 if agg then some (.agg cs) else match cs with
  |[x]=>some x
  |_=>none
def jc (G:AS) (size:Nat):AV->Option (List AV)
 |.ptr l k o=>match G l k with
  |some (.box cs)=>if o+size<=cs.length then some (AV.dq l ((cs.drop o).take size)) else none
  |_=>none
 |.bx l k esz i o g=>match G l k with
  |some (.arr _ aN es)=>if aN=esz/\es.length=g then aaA es i o size else none
  |_=>none
 |.aD _ es i o=>aaA es i o size
 |_=>none
def om (G:AS) (ti:TI) (a:AV):Option AV:=(jc G ti.size a).bind (ru ti.isAgg)
def overwrite (cs:List AV) (o:Nat) (new:List AV):List AV:=cs.take o++(new++cs.drop (o+new.length))
structure De where
 val:AV
 lK:List (Nat×Nat×Option AG)
def kf (cs:List AV) (kb:Nat):List (Nat×TypeId×Nat)->List AV×List (Nat×Nat×Option AG)
 |[]=>(cs,[])
 |(o,e,s)::r=>match cs[o]? with
  |some .nil=>let x:=kf (cs.set o (.loc 0 kb s 0 0 0)) (kb+1) r;(x.1,(0,kb,some (.arr e s []))::x.2)
  |_=>kf cs kb r
def aah (kb:Nat) (ti:TI) (cs:List AV):Option De:=
 if cs.length=ti.size then
  let x:=kf cs (kb+1) ti.sc
  some ⟨.ptr 0 kb 0,x.2++[(0,kb,some (.box x.1))]⟩
 else none
def rH (G:AS) (kb:Nat) (ti:TI) (a:AV) (vc:List AV):Option De:=
 if vc.length=ti.size then
  match a with
  |.ptr l k o=>match G l k with
   |some (.box cs)=>
    if o+ti.size<=cs.length then
     if l=0 then
      let x:=kf vc kb ti.sc
      some ⟨.ar [],x.2++[(0,k,some (.box (overwrite cs o x.1)))]⟩
     else match AV.gz l vc with
      |some new=>some ⟨.ar [],[(l,k,some (.box (overwrite cs o new)))]⟩
      |none=>match AV.aG G vc with
       |some new=>some ⟨.ar [],iB (AV.aO vc)++[(l,k,some (.box (overwrite cs o new)))]⟩
       |none=>none
    else none
   |_=>none
  |.bx l k esz i o g=>match G l k with
   |some (.arr et aN es)=>
    if aN=esz/\es.length=g then
     match es[i]?,AV.aG G vc with
     |some c,some new=>
      if o+ti.size<=c.length/\(AV.aO vc).all (fun p=>!(p.1==l&&p.2==k)) then
       some ⟨.ar [],iB (AV.aO vc)++[(l,k,some (.arr et esz (es.set i (overwrite c o new))))]⟩
      else none
     |_,_=>none
    else none
   |_=>none
  |_=>none
 else none
def dW (k:IntKind) (x y:Int):Int:=k.wrap (BitVec.ofInt k.bits x &&& BitVec.ofInt k.bits y).toNat
def fZ (k:IntKind) (x y:Int):Int:=k.wrap (BitVec.ofInt k.bits x ||| BitVec.ofInt k.bits y).toNat
def acY (k:IntKind) (x y:Int):Int:=k.wrap (BitVec.ofInt k.bits x ^^^ BitVec.ofInt k.bits y).toNat
def pN (op:BinOp) (a b:AV):Option AV:=
 match a,b with
 |.int k x,.int k' y=>
  match op with
  |.shl=>if y<0 then none else some (.int k (k.wrap (x*2 ^ (min y.toNat k.bits))))
  |.shr=>if y<0 then none else some (.int k (x.fdiv (2 ^ (min y.toNat k.bits))))
  |op=>
   if k=k' then
    match op with
    |.add=>some (.int k (k.wrap (x+y)))
    |.sub=>some (.int k (k.wrap (x - y)))
    |.mul=>some (.int k (k.wrap (x*y)))
    |.quo=>if y=0 then none else some (.int k (k.wrap (x.tdiv y)))
    |.rem=>if y=0 then none else some (.int k (x.tmod y))
    |.and=>some (.int k (dW k x y))
    |.or=>some (.int k (fZ k x y))
    |.xor=>some (.int k (acY k x y))
    |.eql=>some (.bool (decide (x=y)))
    |.neq=>some (.bool (!decide (x=y)))
    |.lss=>some (.bool (decide (x<y)))
    |.leq=>some (.bool (decide (x<=y)))
    |.gtr=>some (.bool (decide (y<x)))
    |.geq=>some (.bool (decide (y<=x)))
    |_=>none
   else none
 |.bool x,.bool y=>match op with
  |.eql=>some (.bool (x==y))
  |.neq=>some (.bool (!(x==y)))
  |_=>none
 |.str x,.str y=>match op with
  |.eql=>some (.bool (x.toList==y.toList))
  |.neq=>some (.bool (!(x.toList==y.toList)))
  |.add=>if x.size+y.size<4611686018427387904 then some (.str (x++y)) else none
  |_=>none
 |_,_=>none
def kt:AV->AV->AV->Option Bool
 |.int _ _,.int k x,.int k' y=>if k=k' then some (decide (x=y)) else none
 |.bool _,.bool x,.bool y=>some (x==y)
 |.str _,.str x,.str y=>some (x.toList==y.toList)
 |_,_,_=>none
def bO:List AV->List AV->List AV->Option Bool
 |[],[],[]=>some true
 |z::m,x::l,y::n=>match kt z x y,bO m l n with
  |some a,some b=>some (a&&b)
  |_,_=>none
 |_,_,_=>none
def aa2 (ti:TI) (op:BinOp) (a b:AV):Option AV:=
 match a,b with
 |.agg xs,.agg ys=>
  if ti.pl=true/\ti.isAgg=true then
   match op with
   |.eql=>(bO ti.zero xs ys).map .bool
   |.neq=>(bO ti.zero xs ys).map fun r=>.bool !r
   |_=>none
  else none
 |.bool x,.bool y=>match ti.d with
  |.bool=>pN op (.bool x) (.bool y)
  |_=>none
 |a,b=>pN op a b
def aUn (op:UnOp) (a:AV):Option AV:=
 match op,a with
 |.neg,.int k n=>some (.int k (k.wrap (0 - n)))
 |.not,.bool b=>some (.bool !b)
 |_,_=>none
def byteOf:List AV->Option UInt8
 |[.int .u8 n]=>some (UInt8.ofNat n.toNat)
 |_=>none
def bytesOf:List (List AV)->Option (List UInt8)
 |[]=>some []
 |c::l=>match byteOf c,bytesOf l with
  |some c,some l=>some (c::l)
  |_,_=>none
def jd (G:AS) (sz:Nat):AV->Option (List (List AV))
 |.nil=>some []
 |.sl e es=>if e=sz then some es else none
 |.loc l k esz i n g=>match G l k with
  |some (.arr _ aN es)=>if esz=sz/\aN=esz/\es.length=g/\i+n<=g then some ((es.drop i).take n) else none
  |_=>none
 |.bG l k esz o n=>match G l k with
  |some (.box cs)=>if l=0/\esz=1/\sz=1/\o+n<=cs.length then (AV.aG (fun _ _=>none) ((cs.drop o).take n)).map fun cs=>cs.map fun c=>[c] else none
  |_=>none
 |_=>none
def la (T:AN) (G:AS) (src dst:TI) (a:AV):Option AV:=
 match dst.d with
 |.int k=>match src.d,a with
  |.int _,.int _ n=>some (.int k (k.wrap n))
  |_,_=>none
 |.str=>match src.d with
  |.str=>match a with
   |.str s=>some (.str s)
   |_=>none
  |.slice e=>match T e with
   |some ti=>match ti.d with
    |.int .u8=>if src.el=1 then (jd G 1 a).bind fun es=>(bytesOf es).map fun l=>.str ⟨l.toArray⟩ else none
    |_=>none
   |none=>none
  |_=>none
 |_=>none
def kR (s:ByteArray):List (List AV):=s.data.toList.map fun c=>[AV.int .u8 (c.toNat:Int)]
def vr (T:AN) (src dst:TI) (a:AV):Option AV:=
 match dst.d with
 |.slice e=>match src.d,a with
  |.str,.str s=>match T e with
   |some ti=>match ti.d with
    |.int .u8=>if s.size<4611686018427387904 then some (.sl 1 (kR s)) else none
    |_=>none
   |none=>none
  |_,_=>none
 |_=>none
def acu:AV->Option Nat
 |.nil=>some 0
 |.sl _ es=>some es.length
 |.loc _ _ _ _ n _=>some n
 |.bG _ _ _ _ n=>some n
 |_=>none
def aa8 (ti:TI) (a:AV):Option AV:=
 match ti.d with
 |.str=>match a with
  |.str s=>some (.int .i64 s.size)
  |_=>none
 |.array n _=>some (.int .i64 (n:Int))
 |.slice _=>(acu a).map fun(n:Nat)=>AV.int .i64 (n:Int)
 |_=>none
def gq (i:Int) (n:Nat):Option Nat:=if 0<=i/\i<n then some i.toNat else none
def aa5 (ti:TI) (a:AV) (f:Nat):Option AV:=
 match ti.d with
 |.struct=>match ti.fl[f]? with
  |some (off,_)=>match a with
   |.ptr l k o=>some (.ptr l k (o+off))
   |.bx l k e i o g=>some (.bx l k e i (o+off) g)
   |.aD e es i o=>some (.aD e es i (o+off))
   |_=>none
  |none=>none
 |_=>none
def aa4 (ti:TI) (a:AV) (f:Nat):Option AV:=
 match ti.d with
 |.struct=>match a with
  |.agg cs=>match ti.fl[f]? with
   |some (off,size,agg)=>if off+size<=cs.length then ru agg ((cs.drop off).take size) else none
   |none=>none
  |_=>none
 |_=>none
def aa7 (ti:TI) (a ix:AV):Option AV:=
 match ix with
 |.int _ i=>match ti.d with
  |.slice _=>match a with
   |.sl esz es=>if esz=ti.el then (gq i es.length).map fun i=>.aD esz es i 0 else none
   |.loc l k esz b n g=>if esz=ti.el then (gq i n).map fun i=>.bx l k esz (b+i) 0 g else none
   |.bG l k esz o n=>if esz=ti.el then (gq i n).map fun i=>.ptr l k (o+i*esz) else none
   |.raw (.slice (some p) n _)=>(gq i n).map fun i=>.raw (.pointer (some (p.add (i*ti.el))))
   |_=>none
  |.array n _=>match a with
   |.ptr l k o=>(gq i n).map fun i=>.ptr l k (o+i*ti.el)
   |.bx l k esz b o g=>(gq i n).map fun i=>.bx l k esz b (o+i*ti.el) g
   |.aD e es b o=>(gq i n).map fun i=>.aD e es b (o+i*ti.el)
   |.raw (.pointer (some p))=>(gq i n).map fun i=>.raw (.pointer (some (p.add (i*ti.el))))
   |_=>none
  |_=>none
 |_=>none
def aa6 (ti:TI) (a ix:AV):Option AV:=
 match ix with
 |.int _ i=>match ti.d with
  |.array n _=>match a with
   |.agg cs=>(gq i n).bind fun i=>if i*ti.el+ti.el<=cs.length then ru ti.ady ((cs.drop (i*ti.el)).take ti.el) else none
   |_=>none
  |.str=>match a with
   |.str s=>(gq i s.size).map fun(i:Nat)=>AV.int .u8 ((s.data.toList.getD i 0).toNat:Int)
   |_=>none
  |_=>none
 |_=>none
def rA (n:Nat):Option AV->Option Nat
 |none=>some n
 |some (.int _ h)=>if 0<=h/\h<=n then some h.toNat else none
 |_=>none
def rB (h:Nat):Option AV->Option Nat
 |none=>some 0
 |some (.int _ l)=>if 0<=l/\l<=h then some l.toNat else none
 |_=>none
def bounds (n:Nat) (lo hi:Option AV):Option (Nat×Nat):=
 match rA n hi with
 |some h=>match rB h lo with
  |some l=>some (l,h)
  |none=>none
 |none=>none
def n7 (ti:TI) (a:AV) (lo hi:Option AV):Option AV:=
 match ti.d with
 |.slice _=>match a with
  |.nil=>(bounds 0 lo hi).map fun _=>.nil
  |.sl esz es=>if esz=ti.el then (bounds es.length lo hi).map fun(l,h)=>.sl esz ((es.drop l).take (h - l)) else none
  |.loc lv k esz i n g=>if esz=ti.el then (bounds n lo hi).map fun(l,h)=>.loc lv k esz (i+l) (h - l) g else none
  |_=>none
 |.str=>match a with
  |.str s=>(bounds s.size lo hi).map fun(l,h)=>.str (s.extract l h)
  |_=>none
 |.array n _=>match a with
  |.ptr lv k o=>(bounds n lo hi).map fun(l,h)=>.bG lv k ti.el (o+l*ti.el) (h - l)
  |_=>none
 |_=>none
def tR (fl:Nat->Option (Nat×Nat)) (cs:List AV):List (Nat×AV)->Option (List AV)
 |[]=>some cs
 |(i,v)::r=>match fl i with
  |none=>none
  |some (off,size)=>match v.cells with
   |some vc=>if vc.length=size/\off+size<=cs.length then tR fl (overwrite cs off vc) r else none
   |none=>none
def aa3 (ti:TI) (parts:List (Nat×AV)):Option AV:=
 match ti.d with
 |.struct=>(tR (fun i=>(ti.fl[i]?).map fun x=>(x.1,x.2.1)) ti.zero parts).map .agg
 |.array _ _=>(tR (fun i=>some (i*ti.el,ti.el)) ti.zero parts).map .agg
 |_=>none
def partsOf (tm:Tm):List (Nat×Operand)->Option (List (Nat×AV))
 |[]=>some []
 |(i,x)::l=>match bl tm x,partsOf tm l with
  |some x,some l=>some ((i,x)::l)
  |_,_=>none
def vU (es:List (List AV)) (size:Nat):List (Nat×List AV)->Option (List (List AV))
 |[]=>some es
 |(i,cs)::r=>if cs.length=size/\i<es.length then vU (es.set i cs) size r else none
def lY (G:AS):List (Nat×AV)->Option (List (Nat×List AV))
 |[]=>some []
 |(i,v)::r=>match v.cells with
  |some vc=>match AV.aG G vc,lY G r with
   |some cs,some l=>some ((i,cs)::l)
   |_,_=>none
  |none=>none
def j9:List (Nat×AV)->List (Nat×Nat)
 |[]=>[]
 |(_,v)::r=>v.refs++j9 r
def rG (G:AS) (kb:Nat) (ti:TI) (len:Nat) (parts:List (Nat×AV)):Option De:=
 match ti.d with
 |.slice e=>
  if len*ti.el<=16777216/\0<ti.el then
   match lY G parts with
   |some ps=>match vU (List.replicate len ti.fR) ti.el ps with
    |some es=>some ⟨.loc 0 kb ti.el 0 len len,iB (j9 parts)++[(0,kb,some (.arr e ti.el es))]⟩
    |none=>none
   |none=>none
  else none
 |_=>none
def abw (kb:Nat) (ti:TI) (len cap:AV):Option De:=
 match ti.d,len,cap with
 |.slice e,.int .i64 l,.int .i64 c=>
  if 0<=l/\l<=c/\c*ti.vT<=140737488355328/\0<ti.el/\c<4611686018427387904 then
   some ⟨.loc 0 kb ti.el 0 l.toNat l.toNat,[(0,kb,some (.arr e ti.el (List.replicate l.toNat ti.fR)))]⟩
  else none
 |_,_,_=>none
def dw (es:List (List AV)) (size:Nat):Prop:=∀ c∈es,c.length=size
def room (n bytes:Nat):Prop:=n*bytes<=140737488355328/\n<4611686018427387904
instance (n b:Nat):Decidable (room n b):=by unfold room;exact inferInstance
def kr (G:AS) (kb:Nat) (ti:TI) (s x:AV):Option De:=
 match ti.d with
 |.slice e=>match jd G ti.el x with
  |some new=>match s with
   |.nil=>if room new.length ti.vT/\0<ti.el then
     some ⟨.loc 0 kb ti.el 0 new.length new.length,[(0,kb,some (.arr e ti.el new))]⟩ else none
   |.loc l k esz i n g=>match G l k with
    |some (.arr et aN es)=>
     if et=e/\aN=ti.el/\esz=ti.el/\i=0/\n=g/\es.length=g/\room (g+new.length) ti.vT/\0<ti.el then
      some ⟨.loc l k esz 0 (g+new.length) (g+new.length),[(l,k,some (.arr et esz (es++new)))]⟩
     else if (et=e/\aN=ti.el/\esz=ti.el)/\(i=0/\es.length=g)/\n+new.length<=g/\0<ti.el then
      some ⟨.loc l k esz 0 (n+new.length) g,[(l,k,some (.arr et esz (es.take n++(new++es.drop (n+new.length)))))]⟩
     else none
    |_=>none
   |_=>none
  |none=>none
 |_=>none
def tO (G:AS) (ti:TI) (d s:AV):Option De:=
 match ti.d with
 |.slice _=>match jd G ti.el s with
  |some src=>match d with
   |.nil=>some ⟨.int .i64 0,[]⟩
   |.loc l k esz i n g=>match G l k with
    |some (.arr et aN es)=>
     if aN=ti.el/\esz=ti.el/\es.length=g/\i+n<=g then
      some ⟨.int .i64 (min src.length n),[(l,k,some (.arr et esz (es.take i++(src.take n++es.drop (i+min src.length n)))))]⟩
     else none
    |_=>none
   |.bG l k esz o n=>match G l k with
    |some (.box cs)=>
     if l=0/\ti.el=1/\esz=1/\o+n<=cs.length then
      some ⟨.int .i64 (min src.length n),[(0,k,some (.box (overwrite cs o (src.take n).flatten)))]⟩
     else none
    |_=>none
   |_=>none
  |none=>none
 |_=>none
def tN (G:AS) (ti:TI) (d:AV):Option De:=
 match ti.d with
 |.slice _=>match d with
  |.nil=>some ⟨.ar [],[]⟩
  |.loc l k esz i n g=>match G l k with
   |some (.arr et aN es)=>
    if aN=ti.el/\esz=ti.el/\es.length=g/\i+n<=g then
     some ⟨.ar [],[(l,k,some (.arr et esz (es.take i++(List.replicate n ti.fR++es.drop (i+n)))))]⟩
    else none
   |_=>none
  |_=>none
 |_=>none
def aby (kb:Nat) (ti:TI) (a:AV):Option De:=
 match ti.d with
 |.slice e=>match a with
  |.nil|.sl _ _|.loc _ _ _ _ _ _=>some ⟨.loc 0 kb ti.el 0 0 0,[(0,kb,some (.arr e ti.el []))]⟩
  |_=>none
 |_=>none
def orO:Option AV->Option AV->Option AV
 |some v,_=>some v
 |none,b=>b
theorem xu (v:AV) (b:Option AV):orO (some v) b=some v:=rfl
theorem uM (b:Option AV):orO none b=b:=rfl
def lO (G:AS) (ti:TI) (a lo hi:AV):Option AV:=
 match a with
 |.loc lv k esz i _ g=>match ti.d with
  |.slice _=>match lo,hi with
   |.int _ l,.int _ h=>match G lv k with
    |some (.arr _ _ es)=>if (esz=ti.el/\es.length=g)/\(0<=l/\l<=h)/\i+h.toNat<=g then some (.loc lv k esz (i+l.toNat) (h.toNat - l.toNat) g) else none
    |_=>none
   |_,_=>none
  |_=>none
 |_=>none
def yt (ti:TI) (a:AV) (l h m:Int):Option De:=
 match ti.d with
 |.slice _=>match a with
  |.sl esz es=>if (0<=l/\l<=h)/\h<=m/\m<=es.length then some ⟨if esz=ti.el then .sl esz ((es.drop l.toNat).take (h.toNat - l.toNat)) else .dead,[]⟩ else none
  |.loc _ _ _ _ n _=>if (0<=l/\l<=h)/\h<=m/\m<=n then some ⟨.dead,[]⟩ else none
  |_=>none
 |_=>none
def nk (mx:Bool):List AV->Option AV
 |[.int k x]=>some (.int k x)
 |.int k x::.int k' y::l=>if k=k' then nk mx (.int k (if mx then max x y else min x y)::l) else none
 |_=>none
  termination_by l=>l.length
def aa9:AV->Option AV
 |.ptr l k o=>some (.ptr l k o)
 |.bx l k e i o g=>some (.bx l k e i o g)
 |.aD e es i o=>some (.aD e es i o)
 |.fn f a b=>match f with
  |.func _=>some (.fn f a b)
  |_=>none
 |_=>none
def ey (r:Option AV):Option De:=r.map fun v=>⟨v,[]⟩
def vS (G:AS) (kb:Nat) (ti:TI) (s:AV) (n:Int):Option De:=
 if 0<=n/\room n.toNat ti.vT/\0<ti.el then kr G kb ti s (.sl ti.el (List.replicate n.toNat ti.fR)) else none
def yr (T:AN) (G:AS) (kb:Nat) (ti:TI) (s x:AV) (ts:List TypeId):Option De:=
 match ts,x with
 |[t2],.str b=>match T t2 with
  |some ti2=>match ti2.d with
   |.str=>if ti.el=1 then kr G kb ti s (.sl 1 (kR b)) else none
   |_=>none
  |none=>none
 |[t2],.int _ n=>match T t2 with
  |some ti2=>match ti2.d with
   |.int _=>vS G kb ti s n
   |_=>none
  |none=>none
 |_,_=>none
def nj (T:AN) (G:AS) (kb:Nat) (b:Builtin) (ts:List TypeId) (xs:List AV):Option De:=
 match ts with
 |[]=>none
 |t::ts=>match T t with
  |none=>none
  |some ti=>match b with
   |.len=>match xs with
    |[x]=>ey (aa8 ti x)
    |_=>none
   |.append=>match xs with
    |[s,x]=>if ts=[t] then kr G kb ti s x else yr T G kb ti s x ts
    |_=>none
   |.copy=>match xs with
    |[d,s]=>if ts=[t] then tO G ti d s else none
    |_=>none
   |.clear=>match xs with
    |[d]=>tN G ti d
    |_=>none
   |.max=>ey (nk true xs)
   |.min=>ey (nk false xs)
   |_=>none
def aeX (c:Bool) (x y:Option AV):Option AV:=
 match c with
 |true=>x
 |false=>y
theorem apX (x y:Option AV):aeX true x y=x:=rfl
theorem apW (x y:Option AV):aeX false x y=y:=rfl
structure An where
 dst:Option Tmp
 op:Op
 type:TypeId
 guard:Option (Tmp×Bool)
 drop:List Nat
def bE (T:AN) (kb:Nat) (o:Op) (ty:TypeId) (tm:Tm) (G:AS):Option De:=
 match o with
 |.move x=>ey (bl tm x)
 |.assign x=>match bl tm x with
  |some .nil=>match T ty with
   |some ti=>match ti.d with
    |.slice e=>some ⟨.loc 0 kb ti.el 0 0 0,[(0,kb,some (.arr e ti.el []))]⟩
    |_=>none
   |none=>none
  |r=>ey r
 |.pick c a b=>match bl tm c with
  |some (.bool c)=>ey (aeX c (bl tm a) (bl tm b))
  |_=>none
 |.alloc e=>match T e with
  |some ti=>aah kb ti ti.zero
  |none=>none
 |.box e x=>match T e,bl tm x with
  |some ti,some x=>match x.cells with
   |some cs=>aah kb ti cs
   |none=>none
  |_,_=>none
 |.build t ps=>match T t,partsOf tm ps.toList with
  |some ti,some ps=>ey (aa3 ti ps)
  |_,_=>none
 |.buildSlice t len ps=>match T t,partsOf tm ps.toList with
  |some ti,some ps=>rG G kb ti len ps
  |_,_=>none
 |.load t a=>match T t,bl tm a with
  |some ti,some a=>ey (om G ti a)
  |_,_=>none
 |.store t a x=>match T t,bl tm a,bl tm x with
  |some ti,some a,some x=>match x.cells with
   |some cs=>rH G kb ti a cs
   |none=>none
  |_,_,_=>none
 |.nilCheck x=>match bl tm x with
  |some x=>ey (aa9 x)
  |none=>none
 |.binOp op t x y _=>match T t,bl tm x,bl tm y with
  |some ti,some x,some y=>ey (aa2 ti op x y)
  |_,_,_=>none
 |.unOp op _ x=>match bl tm x with
  |some x=>ey (aUn op x)
  |none=>none
 |.convert src dst x=>match T src,T dst,bl tm x with
  |some s,some d,some x=>ey (orO (la T G s d x) (vr T s d x))
  |_,_,_=>none
 |.makeFunc f a b=>match j8 tm a.toList,j8 tm b.toList with
  |some a,some b=>some ⟨.fn f a b,[]⟩
  |_,_=>none
 |.makeSlice t l c=>match T t,bl tm l,bl tm c with
  |some ti,some l,some c=>abw kb ti l c
  |_,_,_=>none
 |.slice t x lo hi mx=>match mx with
  |some mx=>match lo,hi with
   |none,some hi=>match T t,bl tm x,bl tm hi,bl tm mx with
    |some ti,some x,some (.int _ h),some (.int _ m)=>match hi with
     |.const _=>if h=0/\m=0 then aby kb ti x else none
     |_=>yt ti x 0 h m
    |_,_,_,_=>none
   |some lo,some hi=>match T t,bl tm x,bl tm lo,bl tm hi with
    |some ti,some x,some (.int _ l),some (.int _ h)=>match bl tm mx with
     |some (.int _ m)=>yt ti x l h m
     |_=>none
    |_,_,_,_=>none
   |_,_=>none
  |none=>match T t,bl tm x with
   |some ti,some x=>match lo,hi with
    |none,none=>ey (n7 ti x none none)
    |some lo,none=>match bl tm lo with
     |some lo=>ey (n7 ti x (some lo) none)
     |none=>none
    |none,some hi=>match bl tm hi with
     |some hi=>ey (n7 ti x none (some hi))
     |none=>none
    |some lo,some hi=>match bl tm lo,bl tm hi with
     |some lo,some hi=>ey (orO (lO G ti x lo hi) (n7 ti x (some lo) (some hi)))
     |_,_=>none
   |_,_=>none
 |.fieldAddr s x f=>match T s,bl tm x with
  |some ti,some x=>ey (aa5 ti x f)
  |_,_=>none
 |.field s x f=>match T s,bl tm x with
  |some ti,some x=>ey (aa4 ti x f)
  |_,_=>none
 |.indexAddr t x i=>match T t,bl tm x,bl tm i with
  |some ti,some x,some i=>ey (aa7 ti x i)
  |_,_,_=>none
 |.index t x i=>match T t,bl tm x,bl tm i with
  |some ti,some x,some i=>ey (aa6 ti x i)
  |_,_,_=>none
 |.extract x i=>match bl tm x with
  |some (.ar vs)=>ey vs[i]?
  |_=>none
 |.sliceToArrayPointer t x=>match T t,bl tm x with
  |some ti,some (.loc l k esz i n g)=>match ti.d with
   |.array m _=>if esz=ti.el/\m<=n/\0<m then some ⟨.bx l k esz i 0 g,[]⟩ else none
   |_=>none
  |_,_=>none
 |.makeInterface t x=>match T t,bl tm x with
  |some ti,some x=>match ti.d with
   |.iface=>none
   |_=>some ⟨.bU t x,[]⟩
  |_,_=>none
 |.call c=>match c.callee with
  |.builtin b=>match j8 tm c.args.toList with
   |some xs=>nj T G kb b c.argTypes.toList xs
   |none=>none
  |_=>none
 |_=>none
inductive SC where
 |skip
 |lF (ops:List An)
 |aL (ops:List An) (mH:List (List Nat)) (drop:List Nat)
 |seq (a b:SC)
 |cond (c:Operand) (x y:SC)
 |block (id:Nat) (b:SC)
 |loop (b:SC)
 |exit (id:Nat)
 |ret
 |other
 |mark (b:SC)
 deriving Inhabited
inductive It where
 |sc (c:SC)
 |ao (id:Nat)
 |ops (l:List An)
 |back (B:St->Prop)
inductive Ev where
 |stuck
 |call (f:FuncId) (args:List AV) (dst:Option Tmp) (drop:List Nat) (todo:List It) (st:St)
 |loop (b:SC) (todo:List It) (st:St)
 |draw (ops:List An) (mH:List (List Nat)) (drop:List Nat) (todo:List It) (st:St)
 |back (B:St->Prop) (st:St)
 |fin (e:Exit) (st:St)
 |either (es:List (List AV)) (t:List It) (st s1:St)
 |throw (v:AV) (st:St)
 |mark (b:SC) (todo:List It) (st:St)
def St.get (st:St):AS:=fun l k=>Heap.get (st.fr::st.low) l k
def St.ve (st:St):Heap->St
 |[]=>st
 |f::H=>{ st with fr:=f,low:=H }
def m9 (tm:List (Nat×AV)) (dst:Option Tmp) (v:AV):List (Nat×AV):=
 match dst with
 |some d=>ins tm d v
 |none=>tm
def St.by (st:St) (dst:Option Tmp) (drop:List Nat) (d:De):St:=
 St.ve { st with tm:=cw (m9 st.tm dst d.val) drop,nx:=st.nx+16 } (Heap.bN (st.fr::st.low) d.lK)
def callee (tm:Tm) (c:Call):Option (FuncId×List AV):=
 match c.callee with
 |.value f=>match bl tm f,j8 tm c.args.toList with
  |some (.fn (.func g) first cap),some args=>some (g,first++(args++cap))
  |_,_=>none
 |_=>none
def jw:Nat->List It->Option (List It)
 |_,[]=>none
 |id,.ao sw::t=>if id=sw then some t else jw id t
 |id,_::t=>jw id t
def kK:Op->Option Call
 |.call c=>match c.callee with
  |.builtin _=>none
  |_=>some c
 |_=>none
def two (f:List It->St->Ev) (b:Bool) (t:List It) (s:St) (t':List It) (s':St):Ev:=
 match b with
 |true=>f t s
 |false=>f t' s'
theorem afj (f:List It->St->Ev) (t:List It) (s:St) (t':List It) (s':St):two f true t s t' s'=f t s:=rfl
theorem afi (f:List It->St->Ev) (t:List It) (s:St) (t':List It) (s':St):two f false t s t' s'=f t' s':=rfl
def next (f:List It->St->Ev) (t:List It) (st:St) (dst:Option Tmp) (drop:List Nat):Option De->Ev
 |some d=>f t (st.by dst drop d)
 |none=>.stuck
theorem api (f:List It->St->Ev) (t:List It) (st:St) (dst:Option Tmp) (drop:List Nat) (d:De):next f t st dst drop (some d)=f t (st.by dst drop d):=rfl
def aeF (t:List It) (st:St) (dst:Option Tmp) (drop:List Nat):Option (FuncId×List AV)->Ev
 |some (f,args)=>.call f (AV.dq 1 args) dst drop t st
 |none=>.stuck
theorem apf (t:List It) (st:St) (dst:Option Tmp) (drop:List Nat) (g:FuncId) (args:List AV):aeF t st dst drop (some (g,args))=.call g (AV.dq 1 args) dst drop t st:=rfl
def ab8 (T:AN) (o:Op) (tm:Tm):Option (List (List AV)):=
 match o with
 |.binOp .eql t (.tmp x) (.const (.slice none 0 0)) _=>match T t with
  |some ti=>match ti.d with
   |.slice _=>match tm x with
    |some (.sl _ es)=>some es
    |_=>none
   |_=>none
  |none=>none
 |_=>none
def aau (o:An) (t:List It) (st:St) (e:Ev):Option (List (List AV))->Ev
 |some es=>.either es t (st.by o.dst o.drop ⟨.bool true,[]⟩) (st.by o.dst o.drop ⟨.bool false,[]⟩)
 |none=>e
theorem apG (o:An) (t:List It) (st:St) (e:Ev) (es:List (List AV)):aau o t st e (some es)=.either es t (st.by o.dst o.drop ⟨.bool true,[]⟩) (st.by o.dst o.drop ⟨.bool false,[]⟩):=rfl
theorem apF (o:An) (t:List It) (st:St) (e:Ev):aau o t st e none=e:=rfl
def aeo:Op->Option Operand
 |.panic x=>some x
 |_=>none
def afh (st:St):Option AV->Ev
 |some v=>.throw v st
 |none=>.stuck
def abx (T:AN) (f:List It->St->Ev) (o:An) (t:List It) (st:St):Ev:=
 match kK o.op with
 |some c=>aeF t st o.dst o.drop (callee (look st.tm) c)
 |none=>match aeo o.op with
  |some x=>afh st (bl (look st.tm) x)
  |none=>aau o t st (next f t st o.dst o.drop (bE T st.nx o.op o.type (look st.tm) st.get)) (ab8 T o.op (look st.tm))
def St.mA (st:St) (o:An):St:=st.by o.dst o.drop ⟨.ar [],[]⟩
def run (T:AN):Nat->List It->St->Ev
 |0,_,_=>.stuck
 |_+1,[],st=>.fin .normal st
 |n+1,.ao _::t,st=>run T n t st
 |_+1,.back B::_,st=>.back B st
 |n+1,.ops []::t,st=>run T n t st
 |n+1,.ops (o::os)::t,st=>match o.guard with
  |none=>abx T (run T n) o (.ops os::t) st
  |some (g,w)=>match look st.tm g with
   |some (.bool b)=>two (run T n) (b==w) (.ops (⟨o.dst,o.op,o.type,none,o.drop⟩::os)::t) st (.ops os::t) (st.mA o)
   |some (.ar [])=>run T n (.ops os::t) (st.mA o)
   |_=>.stuck
 |n+1,.sc .skip::t,st=>run T n t st
 |n+1,.sc (.lF ops)::t,st=>run T n (.ops ops::t) st
 |_+1,.sc (.aL ops mH drop)::t,st=>.draw ops mH drop t st
 |n+1,.sc (.seq a b)::t,st=>run T n (.sc a::.sc b::t) st
 |n+1,.sc (.cond c x y)::t,st=>match bl (look st.tm) c with
  |some (.bool b)=>two (run T n) b (.sc x::t) st (.sc y::t) st
  |_=>.stuck
 |n+1,.sc (.block id b)::t,st=>run T n (.sc b::.ao id::t) st
 |_+1,.sc (.loop b)::t,st=>.loop b t st
 |n+1,.sc (.exit id)::t,st=>match jw id t with
  |some t'=>run T n t' st
  |none=>.fin (.exit id) st
 |_+1,.sc .ret::_,st=>.fin .ret st
 |_+1,.sc .other::_,_=>.stuck
 |_+1,.sc (.mark b)::t,st=>.mark b t st
end Go.Abs
namespace Go.Abs
open Go Go.RowKit
theorem sF {α:Type} (l:List (Nat×α)) (t:Nat) (v:α) (u:Nat):look (ins l t v) u=if t=u then some v else look l u:=by
 induction l with
 |nil=>simp[ins,look]
 |cons p l ih=>
  obtain⟨k,x⟩:=p
  simp only[ins]
  split
  ·simp only[look]
  ·split
   ·subst_vars
    simp only[look]
    by_cases h:k=u<;>simp[h]
   ·simp only[look,ih]
    by_cases h:k=u
    ·subst h;simp;intro h;omega
    ·simp[h]
theorem aac {α:Type} (l:List (Nat×α)) (t u:Nat):look (del l t) u=if t=u then none else look l u:=by
 induction l with
 |nil=>simp[del,look]
 |cons p l ih=>
  obtain⟨k,x⟩:=p
  simp only[del]
  split
  ·rename_i hk
   subst hk
   rw[ih]
   simp only[look]
   by_cases h:k=u<;>simp[h]
  ·simp only[look,ih]
   by_cases h:k=u
   ·subst h;simp;intro h;omega
   ·simp[h]
theorem aad {α:Type} (ts:List Nat):∀ (l:List (Nat×α)) (u:Nat) (x:α),look (cw l ts) u=some x->look l u=some x:=by
 induction ts with
 |nil=>intro l u x h;exact h
 |cons t ts ih=>
  intro l u x h
  have:=ih _ _ _ h
  rw[aac]at this
  split at this
  ·cases this
  ·exact this
theorem Heap.oA (H:Heap) (l k:Nat) (b:Option AG):∀ (l' k':Nat),(H.put l k b).get l' k'=if l=l'/\k=k'/\l<H.length then b else H.get l' k':=by
 induction H generalizing l with
 |nil=>intro l' k';simp[Heap.put,Heap.get]
 |cons f H ih=>
  intro l' k'
  cases l with
  |zero=>
   cases b with
   |some b=>
    simp only[Heap.put]
    cases l' with
    |zero=>simp[Heap.get,sF]
    |succ l'=>simp[Heap.get]
   |none=>
    simp only[Heap.put]
    cases l' with
    |zero=>simp[Heap.get,aac]
    |succ l'=>simp[Heap.get]
  |succ l=>
   simp only[Heap.put]
   cases l' with
   |zero=>simp[Heap.get]
   |succ l'=>
    simp only[Heap.get,ih]
    simp
@[simp] theorem Heap.ao0 (H:Heap) (l k:Nat) (b:Option AG):(H.put l k b).length=H.length:=by
 induction H generalizing l with
 |nil=>rfl
 |cons f H ih=>cases l<;>cases b<;>simp[Heap.put,ih]
@[simp] theorem Heap.aik (s:List (Nat×Nat×Option AG)):∀ H:Heap,(H.bN s).length=H.length:=by
 induction s with
 |nil=>intro H;rfl
 |cons p s ih=>obtain⟨l,k,b⟩:=p;intro H;simp[Heap.bN,ih]
theorem Heap.pr (s t:List (Nat×Nat×Option AG)):∀ H:Heap,H.bN (s++t)=(H.bN s).bN t:=by
 induction s with
 |nil=>intro H;rfl
 |cons p s ih=>obtain⟨l,k,b⟩:=p;intro H;simp[Heap.bN,ih]
theorem Heap.rL (H:Heap):∀ (l k:Nat) (b:AG),H.get l k=some b->l<H.length:=by
 induction H with
 |nil=>intro l k b h;simp[Heap.get]at h
 |cons f H ih=>
  intro l k b h
  cases l with
  |zero=>simp
  |succ l=>simp only[Heap.get]at h;have:=ih _ _ _ h;simp;omega
theorem Heap.arY (d:Nat):∀ (H:Heap) (l k:Nat),Heap.get (H.drop d) l k=H.get (l+d) k:=by
 induction d with
 |zero=>intro H l k;simp
 |succ d ih=>
  intro H l k
  cases H with
  |nil=>simp[Heap.get]
  |cons f H=>simp only[List.drop_succ_cons,ih];rw[show l+(d+1)=(l+d)+1 from by omega];simp[Heap.get]
inductive TB where
 |box (c:Nat)
 |arr (m:Nat) (c:Option (Nat×Nat))
 |gone
abbrev Al:=Nat->Option TB
structure FM where
 v:Nat->Nat->Option Value
 t:Nat->Nat
instance:CoeFun FM fun _=>Nat->Nat->Option Value:=⟨FM.v⟩
def FM.at (fm:FM) (b o:Nat) (x:Value) (z:Nat):Prop:=fm b o=some x/\(fm.t b=0\/fm.t b=z)
def FM.vu (fm:FM) (b o:Nat) (x:Value) (z:Nat):Prop:=fm b o=some x/\(fm.t b=0\/fm.t b=z\/fm.t b=1)
theorem FM.at.p {fm:FM}{b o z:Nat}{x:Value} (h:fm.at b o x z):fm.vu b o x z:=⟨h.1,h.2.elim .inl (fun e=>.inr (.inl e))⟩
def tb:List Al->Nat->Nat->Option TB
 |[],_,_=>none
 |t::_,0,k=>t k
 |_::ts,l+1,k=>tb ts l k
def cL:List Al->Nat->Nat->TB->List Al
 |[],_,_,_=>[]
 |t::ts,0,k,x=>(fun j=>if j=k then some x else t j)::ts
 |t::ts,l+1,k,x=>t::cL ts l k x
theorem eb (ts:List Al):∀ (l k:Nat) (x:TB) (l' k':Nat),tb (cL ts l k x) l' k'=if l=l'/\k=k'/\l<ts.length then some x else tb ts l' k':=by
 induction ts with
 |nil=>intro l k x l' k';simp[cL,tb]
 |cons t ts ih=>
  intro l k x l' k'
  cases l with
  |zero=>
   cases l' with
   |zero=>simp only[cL,tb];simp[eq_comm]
   |succ l'=>simp[cL,tb]
  |succ l=>
   cases l' with
   |zero=>simp[cL,tb]
   |succ l'=>simp[cL,tb,ih]
@[simp] theorem asp (ts:List Al):∀ (l k:Nat) (x:TB),(cL ts l k x).length=ts.length:=by
 induction ts with
 |nil=>intro l k x;rfl
 |cons t ts ih=>intro l k x;cases l<;>simp[cL,ih]
theorem fp (d:Nat):∀ (ts:List Al) (l k:Nat),tb (ts.drop d) l k=tb ts (l+d) k:=by
 induction d with
 |zero=>intro ts l k;simp
 |succ d ih=>
  intro ts l k
  cases ts with
  |nil=>simp[tb]
  |cons t ts=>simp only[List.drop_succ_cons,ih];rw[show l+(d+1)=(l+d)+1 from by omega];simp[tb]
inductive VR (fm:FM):List Al->AV->Value->Prop
 |bool {ts} (b:Bool):VR fm ts (.bool b) (.bool b)
 |int {ts} (k:IntKind) (n:Int):VR fm ts (.int k n) (.int k n)
 |str {ts} (s:ByteArray):VR fm ts (.str s) (.string s)
 |nil {ts}:VR fm ts .nil (.slice none 0 0)
 |ck {ts} (e:Nat) (a:Option Addr) (cap:Nat):VR fm ts (.sl e []) (.slice a 0 cap)
 |sl {ts} (es:List (List AV)) (cb off esz cap:Nat) (u:Nat->Nat->Value) (bX:es.length<=cap/\es.length<=maxLen) (h1:dw es esz)
   (h2:∀ (i:Nat) (c:List AV) (o:Nat) (x:AV),es[i]?=some c->c[o]?=some x->fm.at cb (off+(i*esz+o)) (u i o) esz)
   (h3:∀ (i:Nat) (c:List AV) (o:Nat) (x:AV),es[i]?=some c->c[o]?=some x->x.flat=true)
   (h4:∀ (i:Nat) (c:List AV) (o:Nat) (x:AV),es[i]?=some c->c[o]?=some x->VR fm [] x (u i o)):VR fm ts (.sl esz es) (.slice (some ⟨cb,off,none⟩) es.length cap)
 |cN {ts} (l k esz i n g:Nat) (a:Option Addr) (cp:Nat) (h:tb ts l k=some .gone) (hn:n<=cp) (ha:0<n->∃ p,a=some p):VR fm ts (.loc l k esz i n g) (.slice a n cp)
 |cO {ts} (l k esz i n g:Nat) (a:Option Addr) (cp m':Nat) (c:Option (Nat×Nat)) (h:tb ts l k=some (.arr m' c)) (ae:g<m') (hn:n<=cp) (ha:0<n->∃ p,a=some p):VR fm ts (.loc l k esz i n g) (.slice a n cp)
 |cr {ts} (l k esz:Nat) (a:Option Addr) (h:tb ts l k=some (.arr 0 none)):VR fm ts (.loc l k esz 0 0 0) (.slice a 0 0)
 |loc {ts} (l k esz i n g c cap cp:Nat) (a:Addr) (h:tb ts l k=some (.arr g (some (c,cap)))) (hn:i+n<=g) (bM:n<=cp) (hc:i+cp=cap) (ha:cp≠0\/i=0->a=⟨c,i*esz,none⟩):VR fm ts (.loc l k esz i n g) (.slice (some a) n cp)
 |bG {ts} (l k esz o n c cp:Nat) (a:Addr) (h:tb ts l k=some (.box c)) (hn:n<=cp) (ha:cp≠0->a=⟨c,o,none⟩):VR fm ts (.bG l k esz o n) (.slice (some a) n cp)
 |bH {ts}:VR fm ts .bH (.pointer none)
 |ptr {ts} (l k o c:Nat) (h:tb ts l k=some (.box c)):VR fm ts (.ptr l k o) (.pointer (some ⟨c,o,none⟩))
 |eK {ts} (l k esz i o g:Nat) (a:Addr) (h:tb ts l k=some .gone):VR fm ts (.bx l k esz i o g) (.pointer (some a))
 |eM {ts} (l k esz i o g:Nat) (a:Addr) (m':Nat) (c:Option (Nat×Nat)) (h:tb ts l k=some (.arr m' c)) (ae:g<m'):VR fm ts (.bx l k esz i o g) (.pointer (some a))
 |bx {ts} (l k esz i o g c cap:Nat) (h:tb ts l k=some (.arr g (some (c,cap)))):VR fm ts (.bx l k esz i o g) (.pointer (some ⟨c,i*esz+o,none⟩))
 |aD {ts} (es:List (List AV)) (i o cb off esz:Nat) (u:Nat->Nat->Value) (h1:dw es esz)
   (h2:∀ (i:Nat) (c:List AV) (o:Nat) (x:AV),es[i]?=some c->c[o]?=some x->fm.vu cb (off+(i*esz+o)) (u i o) esz)
   (h3:∀ (i:Nat) (c:List AV) (o:Nat) (x:AV),es[i]?=some c->c[o]?=some x->x.flat=true)
   (h4:∀ (i:Nat) (c:List AV) (o:Nat) (x:AV),es[i]?=some c->c[o]?=some x->VR fm [] x (u i o)):VR fm ts (.aD esz es i o) (.pointer (some ⟨cb,off+(i*esz+o),none⟩))
 |bQ {ts}:VR fm ts .bQ .nilFunc
 |fn {ts} (f:Fn) (first cap:List AV) (vf vc:Array Value) (h1:first.length=vf.size) (h2:cap.length=vc.size)
   (h3:∀ (i:Nat) x v,first[i]?=some x->vf[i]?=some v->VR fm ts x v)
   (h4:∀ (i:Nat) x v,cap[i]?=some x->vc[i]?=some v->VR fm ts x v):VR fm ts (.fn f first cap) (.func f vf vc)
 |bV {ts}:VR fm ts .bV .nilIface
 |raw {ts} (v:Value) (h:v.oneCell'=true):VR fm ts (.raw v) v
 |bU {ts} (t:TypeId) (x:AV) (v:Value) (h:VR fm ts x v):VR fm ts (.bU t x) (.iface t v)
 |agg {ts} (cs:List AV) (vs:Array Value) (h1:cs.length=vs.size) (h2:∀ x∈cs,x.flat=true)
   (h3:∀ (i:Nat) x v,cs[i]?=some x->vs[i]?=some v->VR fm ts x v):VR fm ts (.agg cs) (.agg vs)
 |ar {ts} (xs:List AV) (vs:Array Value) (h1:xs.length=vs.size)
   (h3:∀ (i:Nat) x v,xs[i]?=some x->vs[i]?=some v->VR fm ts x v):VR fm ts (.ar xs) (.tuple vs)
 |dead {ts} (v:Value):VR fm ts .dead v
def Av (fm:FM) (ts:List Al) (xs:List AV) (vs:List Value):Prop:=xs.length=vs.length/\∀ (i:Nat) x v,xs[i]?=some x->vs[i]?=some v->VR fm ts x v
structure AY (fm fm':FM):Prop where
 le:∀ b o v,fm b o=some v->fm' b o=some v
 tg:∀ b o v,fm b o=some v->fm'.t b=fm.t b
theorem AY.vu {fm fm':FM} (h:AY fm fm') {b o z:Nat}{x:Value} (k:fm.vu b o x z):fm'.vu b o x z:=⟨h.le _ _ _ k.1,by rw[h.tg _ _ _ k.1];exact k.2⟩
theorem AY.at {fm fm':FM} (h:AY fm fm') {b o z:Nat}{x:Value} (k:fm.at b o x z):fm'.at b o x z:=⟨h.le _ _ _ k.1,by rw[h.tg _ _ _ k.1];exact k.2⟩
def Bi:Option TB->Option TB->Prop
 |none,_=>True
 |some .gone,x=>x=some .gone
 |some (.box c),x=>x=some (.box c)
 |some (.arr m c),x=>x=some (.arr m c)\/x=some .gone\/∃ m' c',x=some (.arr m' c')/\m<m'
def As (ts ts':List Al):Prop:=∀ l k,Bi (tb ts l k) (tb ts' l k)
theorem Bi.refl (x:Option TB):Bi x x:=by
 cases x with
 |none=>trivial
 |some x=>cases x<;>simp[Bi]
theorem Bi.trans {x y z:Option TB} (h:Bi x y) (h':Bi y z):Bi x z:=by
 cases x with
 |none=>trivial
 |some x=>
  cases x with
  |gone=>simp only[Bi]at h;subst h;exact h'
  |box c=>simp only[Bi]at h;subst h;exact h'
  |arr m c=>
   simp only[Bi]at h
   rcases h with rfl|rfl|⟨m',c',rfl,ae⟩
   ·exact h'
   ·simp only[Bi]at h';subst h';simp[Bi]
   ·simp only[Bi]at h' ⊢
    rcases h' with rfl|rfl|⟨pd,c'',rfl,eO⟩
    ·exact .inr (.inr ⟨_,_,rfl,ae⟩)
    ·exact .inr (.inl rfl)
    ·exact .inr (.inr ⟨_,_,rfl,by omega⟩)
theorem As.refl (ts:List Al):As ts ts:=fun _ _=>Bi.refl _
theorem As.trans {a b c:List Al} (h:As a b) (h':As b c):As a c:=fun l k=>(h l k).trans (h' l k)
theorem AY.refl (fm:FM):AY fm fm:=⟨fun _ _ _ h=>h,fun _ _ _ _=>rfl⟩
theorem AY.trans {a b c:FM} (h:AY a b) (h':AY b c):AY a c:=⟨fun _ _ _ x=>h'.le _ _ _ (h.le _ _ _ x),fun _ _ _ x=>(h'.tg _ _ _ (h.le _ _ _ x)).trans (h.tg _ _ _ x)⟩
theorem As.drop {ts ts':List Al} (h:As ts ts') (d:Nat):As (ts.drop d) (ts'.drop d):=by
 intro l k;rw[fp,fp];exact h _ _
theorem As.nil (ts:List Al):As [] ts:=fun _ _=>trivial
theorem Bi.box {x y:Option TB}{c:Nat} (h:Bi x y) (hx:x=some (.box c)):y=some (.box c):=by subst hx;exact h
theorem Bi.gone {x y:Option TB} (h:Bi x y) (hx:x=some .gone):y=some .gone:=by subst hx;exact h
theorem Bi.arr {x y:Option TB}{m:Nat}{c:Option (Nat×Nat)} (h:Bi x y) (hx:x=some (.arr m c)):y=some (.arr m c)\/y=some .gone\/∃ m' c',y=some (.arr m' c')/\m<m':=by subst hx;exact h
theorem VR.mono {fm fm':FM} (hf:AY fm fm') {ts:List Al}{x:AV}{v:Value} (h:VR fm ts x v):∀ {ts':List Al},As ts ts'->VR fm' ts' x v:=by
 induction h with
 |bool b=>intro ts' _;exact .bool b
 |int k n=>intro ts' _;exact .int k n
 |str s=>intro ts' _;exact .str s
 |nil=>intro ts' _;exact .nil
 |ck e a cap=>intro ts' _;exact .ck e a cap
 |sl es cb off esz cap u bX h1 h2 h3 _ ih=>intro ts' _;exact .sl es cb off esz cap u bX h1 (fun i c o x a b=>hf.at (h2 i c o x a b)) h3 (fun i c o x a b=>ih i c o x a b (As.refl _))
 |cN l k esz i n g a cp h hn ha=>intro ts' hl;exact .cN l k esz i n g a cp ((hl l k).gone h) hn ha
 |cO l k esz i n g a cp m' c h ae hn ha=>
  intro ts' hl
  rcases (hl l k).arr h with h|h|⟨pd,c',h,h'⟩
  ·exact .cO l k esz i n g a cp m' c h ae hn ha
  ·exact .cN l k esz i n g a cp h hn ha
  ·exact .cO l k esz i n g a cp pd c' h (by omega) hn ha
 |cr l k esz a h=>
  intro ts' hl
  rcases (hl l k).arr h with h|h|⟨pd,c',h,h'⟩
  ·exact .cr l k esz a h
  ·exact .cN l k esz _ _ _ _ _ h (Be _) (fun h=>absurd h (by omega))
  ·exact .cO l k esz _ _ _ _ _ pd c' h (by omega) (Be _) (fun h=>absurd h (by omega))
 |loc l k esz i n g c cap cp a h hn bM hc ha=>
  intro ts' hl
  rcases (hl l k).arr h with h|h|⟨pd,c',h,h'⟩
  ·exact .loc l k esz i n g c cap cp a h hn bM hc ha
  ·exact .cN l k esz _ _ _ _ _ h bM (fun _=>⟨a,rfl⟩)
  ·exact .cO l k esz _ _ _ _ _ pd c' h (by omega) bM (fun _=>⟨a,rfl⟩)
 |bG l k esz o n c cp a h hn ha=>intro ts' hl;exact .bG l k esz o n c cp a ((hl l k).box h) hn ha
 |bH=>intro ts' _;exact .bH
 |ptr l k o c h=>intro ts' hl;exact .ptr l k o c ((hl l k).box h)
 |eK l k esz i o g a h=>intro ts' hl;exact .eK l k esz i o g a ((hl l k).gone h)
 |eM l k esz i o g a m' c h ae=>
  intro ts' hl
  rcases (hl l k).arr h with h|h|⟨pd,c',h,h'⟩
  ·exact .eM l k esz i o g a m' c h ae
  ·exact .eK l k esz i o g a h
  ·exact .eM l k esz i o g a pd c' h (by omega)
 |bx l k esz i o g c cap h=>
  intro ts' hl
  rcases (hl l k).arr h with h|h|⟨pd,c',h,h'⟩
  ·exact .bx l k esz i o g c cap h
  ·exact .eK l k esz i o g _ h
  ·exact .eM l k esz i o g _ pd c' h (by omega)
 |aD es i o cb off esz u h1 h2 h3 _ ih=>intro ts' _;exact .aD es i o cb off esz u h1 (fun i c o x a b=>hf.vu (h2 i c o x a b)) h3 (fun i c o x a b=>ih i c o x a b (As.refl _))
 |bQ=>intro ts' _;exact .bQ
 |fn f first cap vf vc h1 h2 _ _ iN iO=>intro ts' hl;exact .fn f first cap vf vc h1 h2 (fun i x v a b=>iN i x v a b hl) (fun i x v a b=>iO i x v a b hl)
 |bV=>intro ts' _;exact .bV
 |raw r_ jD=>intro ts' _;exact .raw r_ jD
 |bU t x v _ ih=>intro ts' hl;exact .bU t x v (ih hl)
 |agg cs vs h1 h2 _ ih=>intro ts' hl;exact .agg cs vs h1 h2 (fun i x v a b=>ih i x v a b hl)
 |ar xs vs h1 _ ih=>intro ts' hl;exact .ar xs vs h1 (fun i x v a b=>ih i x v a b hl)
 |dead v=>intro ts' _;exact .dead v
theorem VR.aeN {fm:FM}{ts:List Al}{x:AV}{v:Value} (h:VR fm ts x v) (hx:x.flat=true):v.oneCell'=true:=by
 cases h<;>first|rfl|assumption|(simp[AV.flat]at hx)
end Go.Abs
namespace Go.Abs
open Go Go.RowKit
def bq:Option TB->Option Nat
 |some (.box c)=>some c
 |some (.arr _ (some (c,_)))=>some c
 |_=>none
def Fh (fm:FM) (ts:List Al) (w:World) (c:Nat) (cs:List AV):Prop:=
 ∃ cells et,w.heap[c]?=some (.cells cells et (0,0))/\cells.size=cs.length/\
  ∀ (o:Nat) (x:AV) (v:Value),cs[o]?=some x->cells[o]?=some v->x.flat=true/\VR fm ts x v
def Dm (fm:FM) (w:World) (et esz:Nat) (es:List (List AV)) (c cap:Nat):Prop:=
 ∃ cells,w.heap[c]?=some (.cells cells et (0,0))/\cells.size=cap*esz/\es.length<=cap/\cap<=maxLen/\dw es esz/\0<esz/\
  ∀ (i:Nat) (cc:List AV) (o:Nat) (x:AV) (v:Value),es[i]?=some cc->cc[o]?=some x->cells[i*esz+o]?=some v->x.flat=true/\VR fm [] x v
inductive BR (fm:FM) (ts:List Al) (w:World) (N0:Nat):Option TB->AG->Prop
 |box (c:Nat) (cs:List AV) (hN:N0<=c) (h:Fh fm ts w c cs):BR fm ts w N0 (some (.box c)) (.box cs)
 |nil (et esz:Nat):BR fm ts w N0 (some (.arr 0 none)) (.arr et esz [])
 |arr (et esz:Nat) (es:List (List AV)) (c cap:Nat) (hN:N0<=c) (h:Dm fm w et esz es c cap):BR fm ts w N0 (some (.arr es.length (some (c,cap)))) (.arr et esz es)
def aav:Obj->Bool
 |.cells ..=>false
 |_=>true
def Ed (w:World) (b:Nat):Prop:=∃ cells et,w.heap[b]?=some (.cells cells et (0,0))
theorem Ed.of {w w':World}{b:Nat} (h:Ed w b) (e:w'.heap[b]?=w.heap[b]?):Ed w' b:=let ⟨c,t,h⟩:=h;⟨c,t,e.trans h⟩
structure HR (N0:Nat) (W0:World) (fm:FM) (ts:List Al) (H:Heap) (w:World):Prop where
 len:ts.length=H.length
 ao:∀ l k b,H.get l k=some b->BR fm (ts.drop l) w N0 (tb ts l k) b
 inj:∀ l k l' k' b b' c,H.get l k=some b->H.get l' k'=some b'->bq (tb ts l k)=some c->bq (tb ts l' k')=some c->l=l'/\k=k'
 bP:∀ b o v,fm b o=some v->w.cell? ⟨b,o,none⟩=some v
 df:∀ l k b c o,H.get l k=some b->bq (tb ts l k)=some c->fm c o=none
 dk:Below N0 W0 w
 size:N0<=w.heap.size
 cX:∀ (b:Nat) (o:Obj),W0.heap[b]?=some o->aav o=true->w.heap[b]?=some o
 ej:∀ b o v,N0<=b->fm b o=some v->2<=fm.t b->Ed w b
def E3 (N0:Nat) (fm:FM) (w:World):Prop:=∀ b o v,N0<=b->fm b o=some v->2<=fm.t b->Ed w b
theorem Fh.mono {fm fm':FM}{ts ts':List Al}{w w':World}{c:Nat}{cs:List AV} (h:Fh fm ts w c cs) (hf:AY fm fm') (ht:As ts ts') (hw:w'.heap[c]?=w.heap[c]?):Fh fm' ts' w' c cs:=by
 obtain⟨cells,et,h1,h2,h3⟩:=h
 exact⟨cells,et,hw.trans h1,h2,fun o x v a b=>⟨(h3 o x v a b).1,(h3 o x v a b).2.mono hf ht⟩⟩
theorem Dm.mono {fm fm':FM}{w w':World}{et esz:Nat}{es:List (List AV)}{c cap:Nat} (h:Dm fm w et esz es c cap) (hf:AY fm fm') (hw:w'.heap[c]?=w.heap[c]?):Dm fm' w' et esz es c cap:=by
 obtain⟨cells,h1,h2,h3,h4,h5,h6,h7⟩:=h
 exact⟨cells,hw.trans h1,h2,h3,h4,h5,h6,fun i cc o x v a b d=>⟨(h7 i cc o x v a b d).1,(h7 i cc o x v a b d).2.mono hf (As.refl _)⟩⟩
theorem BR.mono {fm fm':FM}{ts ts':List Al}{w w':World}{N0:Nat}{t:Option TB}{b:AG} (h:BR fm ts w N0 t b) (hf:AY fm fm') (ht:As ts ts')
  (hw:∀ c,bq t=some c->w'.heap[c]?=w.heap[c]?):BR fm' ts' w' N0 t b:=by
 cases h with
 |box c cs hN h=>exact .box c cs hN (h.mono hf ht (hw c rfl))
 |nil et esz=>exact .nil et esz
 |arr et esz es c cap hN h=>exact .arr et esz es c cap hN (h.mono hf (hw c rfl))
theorem BR.lt {fm:FM}{ts:List Al}{w:World}{N0:Nat}{t:Option TB}{b:AG} (h:BR fm ts w N0 t b) {c:Nat} (hc:bq t=some c):c<w.heap.size/\N0<=c:=by
 cases h with
 |box c' cs hN h=>
  simp only[bq,oE]at hc;subst hc
  obtain⟨cells,et,h1,_⟩:=h
  exact⟨(Cv.1 h1).1,hN⟩
 |nil et esz=>simp[bq]at hc
 |arr et esz es c' cap hN h=>
  simp only[bq,oE]at hc;subst hc
  obtain⟨cells,h1,_⟩:=h
  exact⟨(Cv.1 h1).1,hN⟩
theorem aqZ (ts:List Al):∀ (l k:Nat) (x:TB),tb ts l k=some x->l<ts.length:=by
 induction ts with
 |nil=>intro l k x h;simp[tb]at h
 |cons t ts ih=>
  intro l k x h
  cases l with
  |zero=>simp
  |succ l=>simp only[tb]at h;have:=ih _ _ _ h;simp;omega
theorem As.set {ts:List Al}{l k:Nat}{x:TB} (h:Bi (tb ts l k) (some x)):As ts (cL ts l k x):=by
 intro l' k'
 rw[eb]
 split
 ·rename_i hh;obtain⟨rfl,rfl,_⟩:=hh;exact h
 ·exact Bi.refl _
section
variable {N0:Nat}{W0:World}{fm:FM}{ts:List Al}{H:Heap}{w:World}
theorem HR.uX (h:HR N0 W0 fm ts H w) {w':World}{l k c:Nat}{x:TB}{b:AG} (hl:l<H.length) (hx:bq (some x)=some c)
  (hw:∀ i,i≠c->i<w.heap.size->w'.heap[i]?=w.heap[i]?) (mg:Below N0 w w') (nH:∀ o,w.heap[c]?=some o->aav o=false) (hle:Bi (tb ts l k) (some x))
  (hc:∀ l' k' b',H.get l' k'=some b'->bq (tb ts l' k')=some c->l'=l/\k'=k) (hfm:∀ o,fm c o=none)
  (dv:BR fm ((cL ts l k x).drop l) w' N0 (some x) b):HR N0 W0 fm (cL ts l k x) (H.put l k (some b)) w':=by
 have hT:As ts (cL ts l k x):=As.set hle
 have ae:l<ts.length:=by rw[h.len];exact hl
 have other:∀ l' k',¬ (l=l'/\k=k')->tb (cL ts l k x) l' k'=tb ts l' k':=by
  intro l' k' bj
  rw[eb,if_neg (fun hh=>bj ⟨hh.1,hh.2.1⟩)]
 have same:tb (cL ts l k x) l k=some x:=by rw[eb,if_pos ⟨rfl,rfl,ae⟩]
 have oz:∀ l' k',¬ (l=l'/\k=k')->(H.put l k (some b)).get l' k'=H.get l' k':=by
  intro l' k' bj
  rw[Heap.oA,if_neg (fun hh=>bj ⟨hh.1,hh.2.1⟩)]
 have adT:(H.put l k (some b)).get l k=some b:=by rw[Heap.oA,if_pos ⟨rfl,rfl,hl⟩]
 refine⟨by simp[h.len],?_,?_,?_,?_,h.dk.trans mg,DX h.size mg.size,fun b o h0 ho=>?_,fun b o v hN hv ht=>?_⟩
 rotate_right
 ·have bj:b≠c:=fun e=>by subst e;rw[hfm]at hv;cases hv
  exact(h.ej b o v hN hv ht).of (hw b bj (World.block_lt_of_cell? w _ (h.bP b o v hv)))
 rotate_right
 ·have hb:=h.cX b o h0 ho
  have bj:b≠c:=fun e=>by subst e;rw[nH o hb]at ho;cases ho
  exact(hw b bj (Cv.1 hb).1).trans hb
 ·intro l' k' b' hg
  by_cases he:l=l'/\k=k'
  ·obtain⟨rfl,rfl⟩:=he
   rw[adT]at hg
   obtain rfl:=oi hg
   rw[same]
   exact dv
  ·rw[oz _ _ he]at hg
   rw[other _ _ he]
   refine(h.ao l' k' b' hg).mono (AY.refl _) (hT.drop l') (fun c' jV=>hw c' ?_ ((h.ao l' k' b' hg).lt jV).1)
   intro e
   subst e
   exact he (let ⟨a,b⟩:=hc l' k' b' hg jV;⟨a.symm,b.symm⟩)
 ·intro l1 k1 l2 k2 b1 b2 c' g1 g2 t1 t2
  by_cases e1:l=l1/\k=k1
  ·obtain⟨rfl,rfl⟩:=e1
   by_cases e2:l=l2/\k=k2
   ·exact e2
   ·rw[same]at t1
    rw[other _ _ e2]at t2
    rw[oz _ _ e2]at g2
    rw[hx]at t1
    obtain rfl:=oi t1
    have:=hc l2 k2 b2 g2 t2
    exact⟨this.1.symm,this.2.symm⟩
  ·rw[other _ _ e1]at t1
   rw[oz _ _ e1]at g1
   by_cases e2:l=l2/\k=k2
   ·obtain⟨rfl,rfl⟩:=e2
    rw[same,hx]at t2
    obtain rfl:=oi t2
    exact hc l1 k1 b1 g1 t1
   ·rw[other _ _ e2]at t2
    rw[oz _ _ e2]at g2
    exact h.inj l1 k1 l2 k2 b1 b2 c' g1 g2 t1 t2
 ·intro b' o v hv
  have bj:b'≠c:=fun e=>by subst e;rw[hfm]at hv;cases hv
  have gp:=h.bP b' o v hv
  have hb:b'<w.heap.size:=World.block_lt_of_cell? w _ gp
  rw[<-gp]
  exact World.cell?_of_block (w:=w) (w':=w') (a:=⟨b',o,none⟩) (hw b' bj hb)
 ·intro l' k' b' c' o hg ht
  by_cases he:l=l'/\k=k'
  ·obtain⟨rfl,rfl⟩:=he
   rw[same,hx]at ht
   obtain rfl:=oi ht
   exact hfm o
  ·rw[oz _ _ he]at hg
   rw[other _ _ he]at ht
   exact h.df l' k' b' c' o hg ht
theorem HR.fresh (h:HR N0 W0 fm ts H w) {cells:Array Value}{et:TypeId}{k:Nat}{x:TB}{b:AG} (hH:0<H.length) (hk:tb ts 0 k=none) (hx:bq (some x)=some w.heap.size)
  (dv:BR fm (cL ts 0 k x) (w.alloc (.cells cells et)) N0 (some x) b):
  HR N0 W0 fm (cL ts 0 k x) (H.put 0 k (some b)) (w.alloc (.cells cells et)):=by
 refine h.uX hH hx (fun i _ hi=>heap_alloc_old w _ i hi) ((Below.refl N0 w).alloc h.size _) (fun o ho=>by simp at ho) (by rw[hk];trivial) ?_ ?_ (by simpa using dv)
 ·intro l' k' b' hg ht
  have:=(h.ao l' k' b' hg).lt ht
  omega
 ·intro o
  cases hf:fm w.heap.size o with
  |none=>rfl
  |some v=>
   have:=World.block_lt_of_cell? w _ (h.bP _ _ _ hf)
   simp at this
theorem HR.empty (h:HR N0 W0 fm ts H w) {k:Nat} (et esz:Nat) (hk:tb ts 0 k=none) (hH:0<H.length):
  HR N0 W0 fm (cL ts 0 k (.arr 0 none)) (H.put 0 k (some (.arr et esz []))) w:=by
 have hT:As ts (cL ts 0 k (.arr 0 none)):=As.set (by rw[hk];trivial)
 have ae:0<ts.length:=by rw[h.len];exact hH
 have other:∀ l' k',¬ (0=l'/\k=k')->tb (cL ts 0 k (.arr 0 none)) l' k'=tb ts l' k':=by
  intro l' k' bj
  rw[eb,if_neg (fun hh=>bj ⟨hh.1,hh.2.1⟩)]
 have same:tb (cL ts 0 k (.arr 0 none)) 0 k=some (.arr 0 none):=by rw[eb,if_pos ⟨rfl,rfl,ae⟩]
 have oz:∀ l' k',¬ (0=l'/\k=k')->(H.put 0 k (some (.arr et esz []))).get l' k'=H.get l' k':=by
  intro l' k' bj
  rw[Heap.oA,if_neg (fun hh=>bj ⟨hh.1,hh.2.1⟩)]
 have adT:(H.put 0 k (some (.arr et esz []))).get 0 k=some (.arr et esz []):=by rw[Heap.oA,if_pos ⟨rfl,rfl,hH⟩]
 refine⟨by simp[h.len],?_,?_,h.bP,?_,h.dk,h.size,h.cX,h.ej⟩
 ·intro l' k' b' hg
  by_cases he:0=l'/\k=k'
  ·obtain⟨rfl,rfl⟩:=he
   rw[adT]at hg
   obtain rfl:=oi hg
   rw[same]
   exact .nil et esz
  ·rw[oz _ _ he]at hg
   rw[other _ _ he]
   exact(h.ao l' k' b' hg).mono (AY.refl _) (hT.drop l') (fun _ _=>rfl)
 ·intro l1 k1 l2 k2 b1 b2 c' g1 g2 t1 t2
  by_cases e1:0=l1/\k=k1
  ·obtain⟨rfl,rfl⟩:=e1
   rw[same]at t1
   simp[bq]at t1
  ·rw[other _ _ e1]at t1
   rw[oz _ _ e1]at g1
   by_cases e2:0=l2/\k=k2
   ·obtain⟨rfl,rfl⟩:=e2
    rw[same]at t2
    simp[bq]at t2
   ·rw[other _ _ e2]at t2
    rw[oz _ _ e2]at g2
    exact h.inj l1 k1 l2 k2 b1 b2 c' g1 g2 t1 t2
 ·intro l' k' b' c' o hg ht
  by_cases he:0=l'/\k=k'
  ·obtain⟨rfl,rfl⟩:=he
   rw[same]at ht
   simp[bq]at ht
  ·rw[oz _ _ he]at hg
   rw[other _ _ he]at ht
   exact h.df l' k' b' c' o hg ht
theorem HR.world (h:HR N0 W0 fm ts H w) {w':World} (hw:∀ i,i<w.heap.size->w'.heap[i]?=w.heap[i]?) (mg:Below N0 w w'):HR N0 W0 fm ts H w':=by
 refine⟨h.len,fun l k b hg=>(h.ao l k b hg).mono (AY.refl _) (As.refl _) (fun c hc=>hw c ((h.ao l k b hg).lt hc).1),h.inj,?_,h.df,h.dk.trans mg,DX h.size mg.size,fun b o h0 ho=>(hw b (Cv.1 (h.cX b o h0 ho)).1).trans (h.cX b o h0 ho),fun b o v hN hv ht=>(h.ej b o v hN hv ht).of (hw b (World.block_lt_of_cell? w _ (h.bP b o v hv)))⟩
 intro b o v hv
 have gp:=h.bP b o v hv
 rw[<-gp]
 exact World.cell?_of_block (w:=w) (w':=w') (a:=⟨b,o,none⟩) (hw b (World.block_lt_of_cell? w _ gp))
theorem HR.drew (h:HR N0 W0 fm ts H w):HR N0 W0 fm ts H w.drew:=h.world (fun _ _=>rfl) (Below.refl N0 w).drew
end
def m4:Option TB->Bool
 |some (.arr _ _)=>true
 |_=>false
def iV:List Al->List (Nat×Nat)->List Al
 |ts,[]=>ts
 |ts,(l,k)::r=>iV (if m4 (tb ts l k) then cL ts l k .gone else ts) r
theorem mB (r:List (Nat×Nat)):∀ (ts:List Al) (l k:Nat),tb (iV ts r) l k=if (l,k)∈r/\m4 (tb ts l k)=true then some .gone else tb ts l k:=by
 induction r with
 |nil=>intro ts l k;simp[iV]
 |cons p r ih=>
  obtain⟨l0,k0⟩:=p
  intro ts l k
  simp only[iV,ih]
  by_cases ha:m4 (tb ts l0 k0)=true
  ·simp only[ha,if_true]
   have ae:l0<ts.length:=by
    cases hh:tb ts l0 k0 with
    |none=>rw[hh]at ha;simp[m4]at ha
    |some x=>exact aqZ ts l0 k0 x hh
   by_cases he:l0=l/\k0=k
   ·obtain⟨rfl,rfl⟩:=he
    have e1:tb (cL ts l0 k0 .gone) l0 k0=some .gone:=by rw[eb,if_pos ⟨rfl,rfl,ae⟩]
    rw[e1]
    have e2:m4 (some TB.gone)=false:=rfl
    rw[if_neg (by simp[e2]),if_pos ⟨List.mem_cons_self,ha⟩]
   ·have h1:tb (cL ts l0 k0 .gone) l k=tb ts l k:=by rw[eb,if_neg (fun hh=>he ⟨hh.1,hh.2.1⟩)]
    have h2:((l,k)∈(l0,k0)::r)↔(l,k)∈r:=by
     simp only[BE,Prod.mk.injEq]
     constructor
     ·rintro(⟨rfl,rfl⟩|h)
      ·exact absurd ⟨rfl,rfl⟩ he
      ·exact h
     ·exact fun h=>.inr h
    rw[h1]
    simp only[h2]
  ·simp only[ha,if_false,C6]
   by_cases he:l0=l/\k0=k
   ·obtain⟨rfl,rfl⟩:=he
    simp[ha]
   ·have h2:((l,k)∈(l0,k0)::r)↔(l,k)∈r:=by
     simp only[BE,Prod.mk.injEq]
     constructor
     ·rintro(⟨rfl,rfl⟩|h)
      ·exact absurd ⟨rfl,rfl⟩ he
      ·exact h
     ·exact fun h=>.inr h
    simp only[h2]
@[simp] theorem aer (r:List (Nat×Nat)):∀ ts:List Al,(iV ts r).length=ts.length:=by
 induction r with
 |nil=>intro ts;rfl
 |cons p r ih=>obtain⟨l,k⟩:=p;intro ts;simp only[iV,ih];split<;>simp
theorem As.gone (ts:List Al) (r:List (Nat×Nat)):As ts (iV ts r):=by
 intro l k
 rw[mB]
 split
 ·rename_i h
  cases hh:tb ts l k with
  |none=>trivial
  |some x=>
   rw[hh]at h
   cases x with
   |arr m c=>simp[Bi]
   |box c=>simp[m4]at h
   |gone=>simp[m4]at h
 ·exact Bi.refl _
theorem wc (r:List (Nat×Nat)):∀ (H:Heap) (l k:Nat),(H.bN (iB r)).get l k=if (l,k)∈r then none else H.get l k:=by
 induction r with
 |nil=>intro H l k;simp[iB,Heap.bN]
 |cons p r ih=>
  obtain⟨l0,k0⟩:=p
  intro H l k
  have:iB ((l0,k0)::r)=(l0,k0,none)::iB r:=rfl
  rw[this]
  simp only[Heap.bN,ih,Heap.oA]
  by_cases he:l0=l/\k0=k
  ·obtain⟨rfl,rfl⟩:=he
   by_cases hl:l0<H.length
   ·simp[hl]
   ·have:H.get l0 k0=none:=by
     cases hh:H.get l0 k0 with
     |none=>rfl
     |some b=>exact absurd (Heap.rL H _ _ _ hh) hl
    simp[hl,this]
  ·have h2:((l,k)∈(l0,k0)::r)↔(l,k)∈r:=by
    simp only[BE,Prod.mk.injEq]
    constructor
    ·rintro(⟨rfl,rfl⟩|h)
     ·exact absurd ⟨rfl,rfl⟩ he
     ·exact h
    ·exact fun h=>.inr h
   simp only[h2]
   by_cases hr:(l,k)∈r
   ·simp[hr]
   ·simp only[hr,if_false]
    rw[if_neg (fun hh=>he ⟨hh.1,hh.2.1⟩)]
structure Fg where
 p:Nat->Prop
 t:Nat->Nat
instance:CoeFun Fg fun _=>Nat->Prop:=⟨Fg.p⟩
open Classical in
noncomputable def gF (fm:FM) (w:World) (bs:Fg):FM:=⟨fun b o=>if bs b then w.cell? ⟨b,o,none⟩ else fm b o,fun b=>if bs b then bs.t b else fm.t b⟩
open Classical in
noncomputable def lM (ts:List Al) (H:Heap) (c:Nat):Nat:=if h:∃ z l k et es,H.get l k=some (.arr et z es)/\bq (tb ts l k)=some c then h.choose else 0
noncomputable def behind (ts:List Al) (H:Heap) (r:List (Nat×Nat)):Fg:=⟨fun c=>∃ l k b,(l,k)∈r/\H.get l k=some b/\m4 (tb ts l k)=true/\bq (tb ts l k)=some c,lM ts H⟩
section
variable {N0:Nat}{W0:World}{fm:FM}{ts:List Al}{H:Heap}{w:World}
theorem HR.lM (h:HR N0 W0 fm ts H w) {l k c et z:Nat}{es:List (List AV)} (hg:H.get l k=some (.arr et z es)) (ht:bq (tb ts l k)=some c):lM ts H c=z:=by
 have hex:∃ z l k et es,H.get l k=some (.arr et z es)/\bq (tb ts l k)=some c:=⟨z,l,k,et,es,hg,ht⟩
 unfold Abs.lM
 rw[dif_pos hex]
 obtain⟨l',k',jQ,es',bu,eQ⟩:=hex.choose_spec
 obtain⟨rfl,rfl⟩:=h.inj _ _ _ _ _ _ _ hg bu ht eQ
 rw[hg]at bu
 injection oi bu with _ e _
 exact e.symm
theorem HR.abf (h:HR N0 W0 fm ts H w) {r:List (Nat×Nat)}{c:Nat} (hb:behind ts H r c):(behind ts H r).t c≠0/\N0<=c/\∀ o,fm c o=none:=by
 obtain⟨l,k,b,hm,hg,ha,ht⟩:=hb
 refine⟨?_,((h.ao l k b hg).lt ht).2,fun o=>h.df l k b c o hg ht⟩
 have dv:=h.ao l k b hg
 cases hq:tb ts l k with
 |none=>rw[hq]at ha;cases ha
 |some x=>
  rw[hq]at dv
  cases dv with
  |box c' cs hN hb=>rw[hq]at ha;cases ha
  |nil et esz=>rw[hq]at ht;simp[bq]at ht
  |arr et esz es c' cap hN hA=>
   show Abs.lM ts H c≠0
   rw[h.lM hg ht]
   obtain⟨_,_,_,_,_,_,hz,_⟩:=hA
   omega
theorem HR.alH (h:HR N0 W0 fm ts H w) {r:List (Nat×Nat)}{c:Nat} (hb:behind ts H r c):Ed w c:=by
 obtain⟨l,k,b,hm,hg,ha,ht⟩:=hb
 have dv:=h.ao l k b hg
 cases hq:tb ts l k with
 |none=>rw[hq]at ha;cases ha
 |some x=>
  rw[hq]at dv
  cases dv with
  |box c' cs hN hb=>rw[hq]at ha;cases ha
  |nil et esz=>rw[hq]at ht;simp[bq]at ht
  |arr et esz es c' cap hN hA=>
   rw[hq]at ht
   simp only[bq,oE]at ht
   subst ht
   obtain⟨cells,h1,_⟩:=hA
   exact⟨cells,et,h1⟩
theorem HR.vW (h:HR N0 W0 fm ts H w) (r:List (Nat×Nat)):AY fm (gF fm w (behind ts H r)):=by
 refine⟨fun b o v hv=>?_,fun b o v hv=>?_⟩
 ·unfold gF
  simp only
  split
  ·exact h.bP b o v hv
  ·exact hv
 ·unfold gF
  simp only
  split
  ·rename_i hb
   rw[(h.abf hb).2.2 o]at hv
   cases hv
  ·rfl
structure AM (N0:Nat) (fm fm':FM):Prop where
 le:AY fm fm'
 fix:∀ b o,b<N0->fm' b o=fm b o
 fit:∀ b,b<N0->fm'.t b=fm.t b
 new:∀ b o v,fm' b o=some v->fm b o=some v\/fm'.t b≠0
theorem AM.refl (N0:Nat) (fm:FM):AM N0 fm fm:=⟨AY.refl _,fun _ _ _=>rfl,fun _ _=>rfl,fun _ _ _ h=>.inl h⟩
theorem AM.trans {N0:Nat}{a b c:FM} (h:AM N0 a b) (k:AM N0 b c):AM N0 a c:=⟨h.le.trans k.le,fun x o e=>(k.fix x o e).trans (h.fix x o e),fun x e=>(k.fit x e).trans (h.fit x e),fun x o v e=>by
 rcases k.new x o v e with e1|e1
 ·rcases h.new x o v e1 with e2|e2
  ·exact .inl e2
  ·right;rw[k.le.tg _ _ _ e1];exact e2
 ·exact .inr e1⟩
theorem HR.vX (h:HR N0 W0 fm ts H w) (r:List (Nat×Nat)):AM N0 fm (gF fm w (behind ts H r)):=by
 have low:∀ b,b<N0->¬ behind ts H r b:=fun b hb hh=>by have:=(h.abf hh).2.1;omega
 refine⟨h.vW r,fun b o hb=>?_,fun b hb=>?_,fun b o v hv=>?_⟩
 ·unfold gF
  simp only
  rw[if_neg (low b hb)]
 ·unfold gF
  simp only
  rw[if_neg (low b hb)]
 ·unfold gF at hv ⊢
  simp only at hv ⊢
  split at hv
  ·rename_i hb
   right
   rw[if_pos hb]
   exact(h.abf hb).1
  ·exact .inl hv
theorem HR.sE (h:HR N0 W0 fm ts H w) (r:List (Nat×Nat)):
  HR N0 W0 (gF fm w (behind ts H r)) (iV ts r) (H.bN (iB r)) w:=by
 have hF:=h.vW r
 refine⟨by simp[h.len],?_,?_,?_,?_,h.dk,h.size,h.cX,?_⟩
 ·intro l k b hg
  rw[wc]at hg
  split at hg
  ·cases hg
  ·rename_i hn
   rw[mB,if_neg (fun hh=>hn hh.1)]
   exact(h.ao l k b hg).mono hF ((As.gone ts r).drop l) (fun _ _=>rfl)
 ·intro l k l' k' b b' c g g' t t'
  rw[wc]at g g'
  split at g
  ·cases g
  ·rename_i hn
   split at g'
   ·cases g'
   ·rename_i ek
    rw[mB,if_neg (fun hh=>hn hh.1)]at t
    rw[mB,if_neg (fun hh=>ek hh.1)]at t'
    exact h.inj l k l' k' b b' c g g' t t'
 ·intro b o v hv
  unfold gF at hv
  simp only at hv
  split at hv
  ·exact hv
  ·exact h.bP b o v hv
 ·intro l k b c o g t
  rw[wc]at g
  split at g
  ·cases g
  ·rename_i hn
   rw[mB,if_neg (fun hh=>hn hh.1)]at t
   unfold gF
   simp only
   rw[if_neg]
   ·exact h.df l k b c o g t
   ·rintro⟨l',k',b',hm,bu,_,eQ⟩
    obtain⟨rfl,rfl⟩:=h.inj l k l' k' b b' c g bu t eQ
    exact hn hm
 ·intro b o v hN hv ht
  unfold gF at hv ht
  simp only at hv ht
  split at hv
  ·rename_i hb
   exact h.alH hb
  ·rename_i hb
   rw[if_neg hb]at ht
   exact h.ej b o v hN hv ht
end
end Go.Abs
namespace Go.Abs
open Go Go.RowKit
theorem nb (d:Nat):∀ cs:List AV,(AV.dq d cs).length=cs.length
 |[]=>by simp[AV.dq]
 |x::l=>by simp[AV.dq,nb d l]
theorem na (d:Nat):∀ (cs:List AV) (i:Nat),(AV.dq d cs)[i]?=(cs[i]?).map (AV.sh d)
 |[],i=>by simp[AV.dq]
 |x::l,0=>by simp[AV.dq]
 |x::l,i+1=>by simp[AV.dq,na d l i]
theorem acr (d:Nat) (x:AV):(x.sh d).flat=x.flat:=by
 cases x<;>simp[AV.sh,AV.flat]
theorem VR.sh {fm:FM} (d:Nat) {gv:List Al}{x:AV}{v:Value} (h:VR fm gv x v):∀ {ts:List Al},gv=ts.drop d->VR fm ts (x.sh d) v:=by
 induction h with
 |bool b=>intro ts _;exact .bool b
 |int k n=>intro ts _;exact .int k n
 |str s=>intro ts _;exact .str s
 |nil=>intro ts _;exact .nil
 |ck e a cap=>intro ts _;exact .ck e a cap
 |sl es cb off esz cap u bX h1 h2 h3 h4 _=>intro ts _;exact .sl es cb off esz cap u bX h1 h2 h3 h4
 |cN l k esz i n g a cp h hn ha=>intro ts e;subst e;rw[fp]at h;exact .cN _ k esz i n g a cp h hn ha
 |cO l k esz i n g a cp m' c h ae hn ha=>intro ts e;subst e;rw[fp]at h;exact .cO _ k esz i n g a cp m' c h ae hn ha
 |cr l k esz a h=>intro ts e;subst e;rw[fp]at h;exact .cr _ k esz a h
 |loc l k esz i n g c cap cp a h hn bM hc ha=>intro ts e;subst e;rw[fp]at h;exact .loc _ k esz i n g c cap cp a h hn bM hc ha
 |bG l k esz o n c cp a h hn ha=>intro ts e;subst e;rw[fp]at h;exact .bG _ k esz o n c cp a h hn ha
 |bH=>intro ts _;exact .bH
 |ptr l k o c h=>intro ts e;subst e;rw[fp]at h;exact .ptr _ k o c h
 |eK l k esz i o g a h=>intro ts e;subst e;rw[fp]at h;exact .eK _ k esz i o g a h
 |eM l k esz i o g a m' c h ae=>intro ts e;subst e;rw[fp]at h;exact .eM _ k esz i o g a m' c h ae
 |bx l k esz i o g c cap h=>intro ts e;subst e;rw[fp]at h;exact .bx _ k esz i o g c cap h
 |aD es i o cb off esz u h1 h2 h3 h4 _=>intro ts _;exact .aD es i o cb off esz u h1 h2 h3 h4
 |bQ=>intro ts _;exact .bQ
 |fn f first cap vf vc h1 h2 _ _ iN iO=>
  intro ts e
  refine .fn f _ _ vf vc (by rw[nb];exact h1) (by rw[nb];exact h2) ?_ ?_
  ·intro i x v hx hv
   rw[na]at hx
   cases hf:first[i]? with
   |none=>rw[hf]at hx;cases hx
   |some y=>rw[hf]at hx;simp only[A0,oE]at hx;subst hx;exact iN i y v hf hv e
  ·intro i x v hx hv
   rw[na]at hx
   cases hf:cap[i]? with
   |none=>rw[hf]at hx;cases hx
   |some y=>rw[hf]at hx;simp only[A0,oE]at hx;subst hx;exact iO i y v hf hv e
 |bV=>intro ts _;exact .bV
 |raw r_ jD=>intro ts _;exact .raw r_ jD
 |bU t x v _ ih=>intro ts e;exact .bU t _ v (ih e)
 |agg cs vs h1 h2 _ ih=>
  intro ts e
  refine .agg _ vs (by rw[nb];exact h1) ?_ ?_
  ·intro x hx
   obtain⟨i,hi⟩:=BF.1 hx
   rw[na]at hi
   cases hf:cs[i]? with
   |none=>rw[hf]at hi;cases hi
   |some y=>rw[hf]at hi;simp only[A0,oE]at hi;subst hi;rw[acr];exact h2 y (BF.2 ⟨i,hf⟩)
  ·intro i x v hx hv
   rw[na]at hx
   cases hf:cs[i]? with
   |none=>rw[hf]at hx;cases hx
   |some y=>rw[hf]at hx;simp only[A0,oE]at hx;subst hx;exact ih i y v hf hv e
 |ar xs vs h1 _ ih=>
  intro ts e
  refine .ar _ vs (by rw[nb];exact h1) ?_
  intro i x v hx hv
  rw[na]at hx
  cases hf:xs[i]? with
  |none=>rw[hf]at hx;cases hx
  |some y=>rw[hf]at hx;simp only[A0,oE]at hx;subst hx;exact ih i y v hf hv e
 |dead v=>intro ts _;exact .dead v
theorem sY (d:Nat):∀ (cs ys:List AV),AV.gz d cs=some ys->ys.length=cs.length/\∀ (i:Nat) (x:AV),cs[i]?=some x->∃ y,ys[i]?=some y/\x.un d=some y
 |[],ys,h=>by simp only[AV.gz,oE]at h;subst h;simp
 |x::l,ys,h=>by
  simp only[AV.gz]at h
  split at h
  ·rename_i a b ha hb
   obtain rfl:=oi h
   have ih:=sY d l b hb
   refine⟨by simp[ih.1],?_⟩
   intro i z hz
   cases i with
   |zero=>simp only[BP,oE]at hz;subst hz;exact⟨a,by simp,ha⟩
   |succ i=>simp only[Cc]at hz ⊢;exact ih.2 i z hz
  ·cases h
theorem qM {d l l':Nat} (h:uJ d l=some l'):l'+d=l:=by
 unfold uJ at h
 split at h
 ·simp only[oE]at h;omega
 ·cases h
theorem ajE {d:Nat}{x y:AV} (h:x.un d=some y):y.flat=x.flat:=by
 cases x with
 |fn f a b=>
  simp only[AV.un]at h
  split at h
  ·simp only[oE]at h;subst h;simp[AV.flat]
  ·cases h
 |_=>
  simp only[AV.un,mS,oE]at h
  first
  |(subst h;simp[AV.flat];done)
  |(obtain⟨a,_,rfl⟩:=h;simp[AV.flat])
theorem VR.un {fm:FM} (d:Nat) {ts:List Al}{x:AV}{v:Value} (h:VR fm ts x v):∀ {y:AV},x.un d=some y->VR fm (ts.drop d) y v:=by
 induction h with
 |bool b=>intro y e;simp only[AV.un,oE]at e;subst e;exact .bool b
 |int k n=>intro y e;simp only[AV.un,oE]at e;subst e;exact .int k n
 |str s=>intro y e;simp only[AV.un,oE]at e;subst e;exact .str s
 |nil=>intro y e;simp only[AV.un,oE]at e;subst e;exact .nil
 |ck e0 a cap=>intro y e;simp only[AV.un,oE]at e;subst e;exact .ck e0 a cap
 |sl es cb off esz cap u bX h1 h2 h3 h4 _=>intro y e;simp only[AV.un,oE]at e;subst e;exact .sl es cb off esz cap u bX h1 h2 h3 h4
 |cN l k esz i n g a cp h hn ha=>
  intro y e;simp only[AV.un,mS]at e;obtain⟨l',hl,rfl⟩:=e
  exact .cN l' k esz i n g a cp (by rw[fp,qM hl];exact h) hn ha
 |cO l k esz i n g a cp m' c h ae hn ha=>
  intro y e;simp only[AV.un,mS]at e;obtain⟨l',hl,rfl⟩:=e
  exact .cO l' k esz i n g a cp m' c (by rw[fp,qM hl];exact h) ae hn ha
 |cr l k esz a h=>
  intro y e;simp only[AV.un,mS]at e;obtain⟨l',hl,rfl⟩:=e
  exact .cr l' k esz a (by rw[fp,qM hl];exact h)
 |loc l k esz i n g c cap cp a h hn bM hc ha=>
  intro y e;simp only[AV.un,mS]at e;obtain⟨l',hl,rfl⟩:=e
  exact .loc l' k esz i n g c cap cp a (by rw[fp,qM hl];exact h) hn bM hc ha
 |bG l k esz o n c cp a h hn ha=>
  intro y e;simp only[AV.un,mS]at e;obtain⟨l',hl,rfl⟩:=e
  exact .bG l' k esz o n c cp a (by rw[fp,qM hl];exact h) hn ha
 |bH=>intro y e;simp only[AV.un,oE]at e;subst e;exact .bH
 |ptr l k o c h=>
  intro y e;simp only[AV.un,mS]at e;obtain⟨l',hl,rfl⟩:=e
  exact .ptr l' k o c (by rw[fp,qM hl];exact h)
 |eK l k esz i o g a h=>
  intro y e;simp only[AV.un,mS]at e;obtain⟨l',hl,rfl⟩:=e
  exact .eK l' k esz i o g a (by rw[fp,qM hl];exact h)
 |eM l k esz i o g a m' c h ae=>
  intro y e;simp only[AV.un,mS]at e;obtain⟨l',hl,rfl⟩:=e
  exact .eM l' k esz i o g a m' c (by rw[fp,qM hl];exact h) ae
 |bx l k esz i o g c cap h=>
  intro y e;simp only[AV.un,mS]at e;obtain⟨l',hl,rfl⟩:=e
  exact .bx l' k esz i o g c cap (by rw[fp,qM hl];exact h)
 |aD es i o cb off esz u h1 h2 h3 h4 _=>intro y e;simp only[AV.un,oE]at e;subst e;exact .aD es i o cb off esz u h1 h2 h3 h4
 |bQ=>intro y e;simp only[AV.un,oE]at e;subst e;exact .bQ
 |fn f first cap vf vc h1 h2 _ _ iN iO=>
  intro y e
  simp only[AV.un]at e
  split at e
  ·rename_i a b ha hb
   simp only[oE]at e;subst e
   have g1:=sY d _ _ ha
   have g2:=sY d _ _ hb
   refine .fn f _ _ vf vc (by rw[g1.1];exact h1) (by rw[g2.1];exact h2) ?_ ?_
   ·intro i x v hx hv
    have hi:i<first.length:=by rw[<-g1.1];exact(gS.1 hx).1
    obtain⟨y,hy,hu⟩:=g1.2 i _ (gG hi)
    rw[hx]at hy;obtain rfl:=oi hy
    exact iN i _ v (gG hi) hv hu
   ·intro i x v hx hv
    have hi:i<cap.length:=by rw[<-g2.1];exact(gS.1 hx).1
    obtain⟨y,hy,hu⟩:=g2.2 i _ (gG hi)
    rw[hx]at hy;obtain rfl:=oi hy
    exact iO i _ v (gG hi) hv hu
  ·cases e
 |bV=>intro y e;simp only[AV.un,oE]at e;subst e;exact .bV
 |raw r_ jD=>intro y e;simp only[AV.un,oE]at e;subst e;exact .raw r_ jD
 |bU t x v _ ih=>
  intro y e;simp only[AV.un,mS]at e;obtain⟨z,hz,rfl⟩:=e
  exact .bU t z v (ih hz)
 |agg cs vs h1 h2 _ ih=>
  intro y e;simp only[AV.un,mS]at e;obtain⟨z,hz,rfl⟩:=e
  have g:=sY d _ _ hz
  refine .agg z vs (by rw[g.1];exact h1) ?_ ?_
  ·intro x hx
   obtain⟨i,hi⟩:=BF.1 hx
   have ae:i<cs.length:=by rw[<-g.1];exact(gS.1 hi).1
   obtain⟨y,hy,hu⟩:=g.2 i _ (gG ae)
   rw[hi]at hy;obtain rfl:=oi hy
   rw[ajE hu]
   exact h2 _ (List.getElem_mem ae)
  ·intro i x v hx hv
   have ae:i<cs.length:=by rw[<-g.1];exact(gS.1 hx).1
   obtain⟨y,hy,hu⟩:=g.2 i _ (gG ae)
   rw[hx]at hy;obtain rfl:=oi hy
   exact ih i _ v (gG ae) hv hu
 |ar xs vs h1 _ ih=>
  intro y e;simp only[AV.un,mS]at e;obtain⟨z,hz,rfl⟩:=e
  have g:=sY d _ _ hz
  refine .ar z vs (by rw[g.1];exact h1) ?_
  intro i x v hx hv
  have ae:i<xs.length:=by rw[<-g.1];exact(gS.1 hx).1
  obtain⟨y,hy,hu⟩:=g.2 i _ (gG ae)
  rw[hx]at hy;obtain rfl:=oi hy
  exact ih i _ v (gG ae) hv hu
 |dead v=>intro y e;simp only[AV.un,oE]at e;subst e;exact .dead v
theorem lZ (G:AS):∀ (cs ys:List AV),AV.aG G cs=some ys->ys.length=cs.length/\∀ (i:Nat) (x:AV),cs[i]?=some x->∃ y,ys[i]?=some y/\x.ai G=some y
 |[],ys,h=>by simp only[AV.aG,oE]at h;subst h;simp
 |x::l,ys,h=>by
  simp only[AV.aG]at h
  split at h
  ·rename_i a b ha hb
   obtain rfl:=oi h
   have ih:=lZ G l b hb
   refine⟨by simp[ih.1],?_⟩
   intro i z hz
   cases i with
   |zero=>simp only[BP,oE]at hz;subst hz;exact⟨a,by simp,ha⟩
   |succ i=>simp only[Cc]at hz ⊢;exact ih.2 i z hz
  ·cases h
theorem xy:∀ (cs:List AV) (i:Nat) (x:AV),cs[i]?=some x->∀ p∈x.refs,p∈AV.aO cs
 |[],i,x,h=>by simp at h
 |y::l,0,x,h=>by
  simp only[BP,oE]at h;subst h
  intro p hp;simp only[AV.aO,Bb];exact .inl hp
 |y::l,i+1,x,h=>by
  simp only[Cc]at h
  intro p hp;simp only[AV.aO,Bb];exact .inr (xy l i x h p hp)
theorem abI {G:AS}{x y:AV} (h:x.ai G=some y):y.flat=x.flat:=by
 cases x with
 |loc l k e i n g=>
  simp only[AV.ai]at h
  split at h
  ·split at h
   ·simp only[oE]at h;subst h;simp[AV.flat]
   ·cases h
  ·cases h
 |fn f a b=>
  simp only[AV.ai]at h
  split at h
  ·obtain rfl:=oi h;simp[AV.flat]
  ·cases h
 |_=>
  first
  |(simp[AV.ai]at h;done)
  |(simp only[AV.ai,oE]at h;subst h;simp[AV.flat];done)
  |(simp only[AV.ai,mS]at h;obtain⟨a,_,rfl⟩:=h;simp[AV.flat];done)
section
variable {N0:Nat}{W0:World}{fm:FM}{ts:List Al}{H:Heap}{w:World}
theorem HR.ai (h:HR N0 W0 fm ts H w) (r:List (Nat×Nat)) {x:AV}{v:Value} (hv:VR fm ts x v):
  ∀ {y:AV},x.ai H.get=some y->(∀ p∈x.refs,p∈r)->VR (gF fm w (behind ts H r)) [] y v:=by
 have hF:=h.vW r
 generalize oN:gF fm w (behind ts H r)=fm' at hF
 have bz:∀ c o u,behind ts H r c->w.cell? ⟨c,o,none⟩=some u->fm' c o=some u:=by
  intro c o u hb hc
  rw[<-oN]
  unfold gF
  simp only
  rw[if_pos hb]
  exact hc
 have oZ:∀ c,behind ts H r c->fm'.t c=Abs.lM ts H c:=by
  intro c hb
  rw[<-oN]
  unfold gF
  simp only
  rw[if_pos hb]
  rfl
 clear oN
 induction hv with
 |bool b=>intro y e _;simp only[AV.ai,oE]at e;subst e;exact .bool b
 |int k n=>intro y e _;simp only[AV.ai,oE]at e;subst e;exact .int k n
 |str s=>intro y e _;simp only[AV.ai,oE]at e;subst e;exact .str s
 |nil=>intro y e _;simp only[AV.ai,oE]at e;subst e;exact .nil
 |ck e0 a cap=>intro y e _;simp only[AV.ai,oE]at e;subst e;exact .ck e0 a cap
 |sl es cb off esz cap u bX h1 h2 h3 h4 _=>
  intro y e _;simp only[AV.ai,oE]at e;subst e
  exact(VR.sl es cb off esz cap u bX h1 h2 h3 h4 (ts:=[])).mono hF (As.refl _)
 |cN l k esz i n g a cp ht hn ha=>
  intro y e _
  simp only[AV.ai]at e
  split at e
  ·rename_i et aN es hg
   have:=h.ao l k _ hg
   rw[ht]at this
   cases this
  ·cases e
 |cO l k esz i n g a cp m' c ht ae hn ha=>
  intro y e _
  simp only[AV.ai]at e
  split at e
  ·rename_i et aN es hg
   have:=h.ao l k _ hg
   rw[ht]at this
   split at e
   ·rename_i hh
    cases this with
    |nil et esz=>simp at hh;omega
    |arr et esz es c cap hN h=>omega
   ·cases e
  ·cases e
 |cr l k esz a ht=>
  intro y e _
  simp only[AV.ai]at e
  split at e
  ·split at e
   ·simp only[List.drop_zero,List.take_zero,oE]at e;subst e;exact .ck _ _ _
   ·cases e
  ·cases e
 |loc l k esz i n g c cap cp a ht hn bM hc ha=>
  intro y e hr
  simp only[AV.ai]at e
  split at e
  ·rename_i et aN es hg
   split at e
   ·rename_i hh
    obtain⟨he,hlen,bC⟩:=hh
    subst he
    simp only[oE]at e;subst e
    have hb:=h.ao l k _ hg
    rw[ht]at hb
    cases hb with
    |arr et _ es c cap hN hA=>
     obtain⟨cells,c1,c2,c3,c4,c5,c6,c7⟩:=hA
     have ahJ:behind _ H r c:=⟨l,k,_,hr (l,k) (by simp[AV.refs]),hg,by rw[ht];rfl,by rw[ht];rfl⟩
     by_cases hn0:n=0
     ·subst hn0
      simp only[List.take_zero]
      exact .ck _ _ _
     ·have gH:=ha (.inl (by omega))
      subst gH
      have hl:((es.drop i).take n).length=n:=by simp;omega
      have key:∀ (j:Nat) (cc:List AV) (o:Nat) (x:AV),((es.drop i).take n)[j]?=some cc->cc[o]?=some x->∃ u,cells[(i+j)*aN+o]?=some u/\x.flat=true/\VR fm [] x u:=by
       intro j cc o x hj ho
       have oO:es[i+j]?=some cc:=by
        rw[BS]at hj
        split at hj
        ·rw[Cg]at hj;exact hj
        ·cases hj
       have ae:i+j<es.length:=(gS.1 oO).1
       have cj:cc.length=aN:=c5 cc (AU oO)
       have zC:o<aN:=by rw[<-cj];exact(gS.1 ho).1
       have ax:(i+j)*aN+o<cells.size:=by
        rw[c2]
        have:(i+j+1)*aN<=cap*aN:=BW _ (by omega)
        rw[Nat.add_mul]at this
        omega
       have y6:=Bo ax
       have:=c7 (i+j) cc o x _ oO ho y6
       exact⟨_,y6,this.1,this.2⟩
      have gn:=VR.sl (fm:=fm') (ts:=[]) ((es.drop i).take n) c (i*aN) aN cp (fun j o=>(cells[(i+j)*aN+o]?).getD default) (by rw[hl];exact⟨bM,by omega⟩)
       (fun cc cj=>c5 cc (Cl (BZ cj)))
       (by
        intro j cc o x hj ho
        obtain⟨u,hu,_,_⟩:=key j cc o x hj ho
        refine⟨bz c _ _ ahJ ?_,.inr ((oZ c ahJ).trans (h.lM hg (by rw[ht];rfl)))⟩
        simp only[World.cell?,c1]
        have:i*aN+(j*aN+o)=(i+j)*aN+o:=by rw[Nat.add_mul];omega
        rw[this,hu]
        simp)
       (fun j cc o x hj ho=>(key j cc o x hj ho).elim fun u hu=>hu.2.1)
       (by
        intro j cc o x hj ho
        obtain⟨u,hu,_,hv⟩:=key j cc o x hj ho
        rw[hu]
        exact hv.mono hF (As.refl _))
      rw[hl]at gn
      exact gn
   ·cases e
  ·cases e
 |bG l k esz o n c cp a ht hn ha=>intro y e;simp[AV.ai]at e
 |bH=>intro y e _;simp only[AV.ai,oE]at e;subst e;exact .bH
 |ptr l k o c ht=>intro y e;simp[AV.ai]at e
 |eK l k esz i o g a ht=>intro y e;simp[AV.ai]at e
 |eM l k esz i o g a m' c ht ae=>intro y e;simp[AV.ai]at e
 |bx l k esz i o g c cap ht=>intro y e;simp[AV.ai]at e
 |aD es i o cb off esz u h1 h2 h3 h4 _=>
  intro y e _;simp only[AV.ai,oE]at e;subst e
  exact(VR.aD es i o cb off esz u h1 h2 h3 h4 (ts:=[])).mono hF (As.refl _)
 |bQ=>intro y e _;simp only[AV.ai,oE]at e;subst e;exact .bQ
 |fn f first cap vf vc h1 h2 h3 h4 iN iO=>
  intro y e hr
  simp only[AV.ai]at e
  split at e
  ·rename_i a b ha hb
   simp only[oE]at e;subst e
   have g1:=lZ H.get _ _ ha
   have g2:=lZ H.get _ _ hb
   refine .fn f a b vf vc (by rw[g1.1];exact h1) (by rw[g2.1];exact h2) ?_ ?_
   ·intro i x v hx hv
    have ae:i<first.length:=by rw[<-g1.1];exact(gS.1 hx).1
    obtain⟨y,hy,hu⟩:=g1.2 i _ (gG ae)
    rw[hx]at hy;obtain rfl:=oi hy
    exact iN i _ v (gG ae) hv h bz oZ hu (fun p hp=>hr p (by simp only[AV.refs,Bb];exact .inl (xy first i _ (gG ae) p hp)))
   ·intro i x v hx hv
    have ae:i<cap.length:=by rw[<-g2.1];exact(gS.1 hx).1
    obtain⟨y,hy,hu⟩:=g2.2 i _ (gG ae)
    rw[hx]at hy;obtain rfl:=oi hy
    exact iO i _ v (gG ae) hv h bz oZ hu (fun p hp=>hr p (by simp only[AV.refs,Bb];exact .inr (xy cap i _ (gG ae) p hp)))
  ·cases e
 |bV=>intro y e _;simp only[AV.ai,oE]at e;subst e;exact .bV
 |raw r_ jD=>intro y e _;simp only[AV.ai,oE]at e;subst e;exact .raw r_ jD
 |bU t x v _ ih=>
  intro y e hr;simp only[AV.ai,mS]at e;obtain⟨z,hz,rfl⟩:=e
  exact .bU t z v (ih h bz oZ hz (fun p hp=>hr p (by simp only[AV.refs];exact hp)))
 |agg cs vs h1 h2 _ ih=>
  intro y e hr;simp only[AV.ai,mS]at e;obtain⟨z,hz,rfl⟩:=e
  have g:=lZ H.get _ _ hz
  refine .agg z vs (by rw[g.1];exact h1) ?_ ?_
  ·intro x hx
   obtain⟨i,hi⟩:=BF.1 hx
   have ae:i<cs.length:=by rw[<-g.1];exact(gS.1 hi).1
   obtain⟨y,hy,hu⟩:=g.2 i _ (gG ae)
   rw[hi]at hy;obtain rfl:=oi hy
   rw[abI hu]
   exact h2 _ (List.getElem_mem ae)
  ·intro i x v hx hv
   have ae:i<cs.length:=by rw[<-g.1];exact(gS.1 hx).1
   obtain⟨y,hy,hu⟩:=g.2 i _ (gG ae)
   rw[hx]at hy;obtain rfl:=oi hy
   exact ih i _ v (gG ae) hv h bz oZ hu (fun p hp=>hr p (by simp only[AV.refs];exact xy cs i _ (gG ae) p hp))
 |ar xs vs h1 _ ih=>
  intro y e hr;simp only[AV.ai,mS]at e;obtain⟨z,hz,rfl⟩:=e
  have g:=lZ H.get _ _ hz
  refine .ar z vs (by rw[g.1];exact h1) ?_
  intro i x v hx hv
  have ae:i<xs.length:=by rw[<-g.1];exact(gS.1 hx).1
  obtain⟨y,hy,hu⟩:=g.2 i _ (gG ae)
  rw[hx]at hy;obtain rfl:=oi hy
  exact ih i _ v (gG ae) hv h bz oZ hu (fun p hp=>hr p (by simp only[AV.refs];exact xy xs i _ (gG ae) p hp))
 |dead v=>intro y e;simp[AV.ai]at e
theorem HR.aG (h:HR N0 W0 fm ts H w) (r:List (Nat×Nat)) {cs ys:List AV}{vs:List Value} (hv:Av fm ts cs vs) (e:AV.aG H.get cs=some ys) (hr:∀ p∈AV.aO cs,p∈r):
  Av (gF fm w (behind ts H r)) [] ys vs:=by
 have g:=lZ H.get _ _ e
 refine⟨g.1.trans hv.1,?_⟩
 intro i x v hx uF
 have ae:i<cs.length:=by rw[<-g.1];exact(gS.1 hx).1
 obtain⟨y,hy,hu⟩:=g.2 i _ (gG ae)
 rw[hx]at hy;obtain rfl:=oi hy
 exact h.ai r (hv.2 i _ v (gG ae) uF) hu (fun p hp=>hr p (xy cs i _ (gG ae) p hp))
end
def fV:TypeDesc->Bool
 |.struct _|.array _ _=>true
 |_=>false
def ajk:Value->AV->Bool
 |.int k n,.int k' n'=>k==k'&&n==n'
 |.bool b,.bool b'=>b==b'
 |.string s,.str s'=>decide (s.data=s'.data)
 |.slice none 0 0,.nil=>true
 |.slice none 0 0,.sl _ []=>true
 |.pointer none,.bH=>true
 |.nilFunc,.bQ=>true
 |.nilIface,.bV=>true
 |.map none,.raw (.map none)=>true
 |_,_=>false
def xB:List Value->List AV->Bool
 |[],[]=>true
 |v::l,x::m=>ajk v x&&xB l m
 |_,_=>false
def acU (P:Program) (t:TypeId) (z:List AV):Bool:=
 match P.info? t with
 |some i=>match i.zero with
  |some v=>xB v.cells.toList z
  |none=>false
 |none=>false
def elB (P:Program) (e:TypeId) (ti:TI):Bool:=
 match P.info? e with
 |some i=>i.size==ti.el&&i.bytes==ti.vT&&acU P e ti.fR&&(match P.underlying e with|some d=>fV d==ti.ady|none=>false)
 |none=>false
def ot (P:Program):List Field->List (Nat×Nat×Bool)->Bool
 |[],[]=>true
 |f::fs,(o,s,a)::l=>f.offset==o&&decide (0<s)&&(match P.info? f.type with|some i=>i.size==s|none=>false)&&(match P.underlying f.type with|some d=>fV d==a|none=>false)&&ot P fs l
 |_,_=>false
def sN (P:Program) (L:TypeId->Option (List AV)) (acc:List AV):List Field->Option (List AV)
 |[]=>some acc
 |x::xs=>match L x.type with
  | some l => if x.name ≠ "_" ∧ x.offset = acc.length ∧ (P.info? x.type).isSome = true ∧ P.cellsOf x.type = l.length then sN P L (acc ++ l) xs else none
  |none=>none
def qW (P:Program):Nat->TypeId->Option (List AV)
 |0,_=>none
 |f+1,t=>match P.underlying t with
  |some (.int k)=>some [.int k 0]
  |some .bool=>some [.bool false]
  |some .string=>some [.str ByteArray.empty]
  |some (.struct fs)=>if P.stoodInHeld t=false then sN P (qW P f) [] fs.toList else none
  |some (.array n e)=>match qW P f e with
   |some l=>if (P.info? e).isSome=true/\P.cellsOf e=l.length then some (List.replicate n l).flatten else none
   |none=>none
  |_=>none
def sameKind:AV->AV->Bool
 |.int _ _,.int _ _=>true
 |.bool _,.bool _=>true
 |.str _,.str _=>true
 |_,_=>false
def uS:List AV->List AV->Bool
 |[],[]=>true
 |x::l,y::m=>sameKind x y&&uS l m
 |_,_=>false
def nr (P:Program) (t:TypeId) (ti:TI):Bool:=
 (match P.info? t with|some i=>i.size==ti.size&&i.bytes==ti.bytes|none=>false)&&
 acU P t ti.zero&&ti.zero.all AV.flat&&(ti.fR.all AV.flat&&ti.fR.length==ti.el)&&decide (ti.sc.length<16)&&
 (!ti.pl || (!P.eqGuardType P.depth t&&(match qW P 20 t with|some l=>uS l ti.zero|none=>false)))&&
 (match ti.d,P.underlying t with
  |.int k,some (.int k')=>k==k'
  |.bool,some .bool=>true
  |.str,some .string=>true
  |.slice e,some (.slice e')=>e==e'&&elB P e ti
  |.array n e,some (.array n' e')=>n==n'&&e==e'&&elB P e ti
  |.struct,some (.struct fs)=>ot P fs.toList ti.fl
  |.ptr e,some (.pointer e')=>e==e'
  |.map k e,some (.map k' e')=>k==k'&&e==e'
  |.func,some (.func ..)=>true
  |.iface,some (.interface _)=>true
  |_,_=>false)
def AQ (P:Program) (T:AN):Prop:=∀ t ti,T t=some ti->nr P t ti=true
theorem aq6 (P:Program) (l:List (Nat×TI)) (h:(l.all fun p=>nr P p.1 p.2)=true):AQ P (look l):=by
 intro t ti ht
 have hm:∀ (l:List (Nat×TI)),look l t=some ti->(t,ti)∈l:=by
  intro l
  clear h ht
  induction l with
  |nil=>intro h;simp[look]at h
  |cons p l ih=>
   obtain⟨k,x⟩:=p
   intro h
   rw[look]at h
   split at h
   ·rename_i e;subst e;simp only[oE]at h;subst h;exact List.mem_cons_self
   ·exact List.mem_cons_of_mem _ (ih h)
 exact(List.all_eq_true.1 h) _ (hm l ht)
theorem ajl:∀ (vs:List Value) (xs:List AV),xB vs xs=true->∀ fm ts,Av fm ts xs vs
 |[],[],_,fm,ts=>⟨rfl,fun i x v h=>by simp at h⟩
 |[],_::_,h,_,_=>by simp[xB]at h
 |_::_,[],h,_,_=>by simp[xB]at h
 |v::l,x::m,h,fm,ts=>by
  simp only[xB,A1]at h
  have ih:=ajl l m h.2 fm ts
  have hv:VR fm ts x v:=by
   have h1:=h.1
   unfold ajk at h1
   split at h1
   ·simp only[A1,beq_iff_eq]at h1;obtain⟨rfl,rfl⟩:=h1;exact .int _ _
   ·simp only[beq_iff_eq]at h1;subst h1;exact .bool _
   ·rename_i s s';have h2:s.data=s'.data:=of_decide_eq_true h1;have h3:s=s':=by cases s;cases s';simp_all
    subst h3;exact .str _
   ·exact .nil
   ·exact .ck _ _ _
   ·exact .bH
   ·exact .bQ
   ·exact .bV
   ·exact .raw _ rfl
   ·cases h1
  refine⟨by simp[ih.1],?_⟩
  intro i y u hy hu
  cases i with
  |zero=>simp only[BP,oE]at hy hu;subst hy hu;exact hv
  |succ i=>simp only[Cc]at hy hu;exact ih.2 i y u hy hu
section
variable {P:Program}{T:AN}{t:TypeId}{ti:TI}
structure I7 (P:Program) (t:TypeId) (ti:TI):Prop where
 info:∃ i,P.info? t=some i/\i.size=ti.size/\i.bytes=ti.bytes/\∃ z,i.zero=some z/\∀ fm ts,Av fm ts ti.zero z.cells.toList
 akP:∀ x∈ti.zero,x.flat=true
 abA:∀ x∈ti.fR,x.flat=true
 fR:ti.fR.length=ti.el
 sc:ti.sc.length<16
 pl:ti.pl=true->P.eqGuardType P.depth t=false/\∃ l,qW P 20 t=some l/\uS l ti.zero=true
structure FG (P:Program) (e:TypeId) (ti:TI):Prop where
 info:∃ i,P.info? e=some i/\i.size=ti.el/\i.bytes=ti.vT/\∃ z,i.zero=some z/\∀ fm ts,Av fm ts ti.fR z.cells.toList
 agg:∃ d,P.underlying e=some d/\fV d=ti.ady
theorem akO {z:List AV} (h:acU P t z=true):∃ i v,P.info? t=some i/\i.zero=some v/\∀ fm ts,Av fm ts z v.cells.toList:=by
 unfold acU at h
 split at h
 ·rename_i i hi
  split at h
  ·rename_i v hv
   exact⟨i,v,hi,hv,ajl _ _ h⟩
  ·cases h
 ·cases h
theorem agQ {e:TypeId} (h:elB P e ti=true):FG P e ti:=by
 unfold elB at h
 split at h
 ·rename_i i hi
  simp only[A1,beq_iff_eq]at h
  obtain⟨⟨⟨h1,h2⟩,h3⟩,h4⟩:=h
  obtain⟨i',v,ff,hv,hz⟩:=akO h3
  rw[hi]at ff;obtain rfl:=oi ff
  refine⟨⟨i,hi,h1,h2,v,hv,hz⟩,?_⟩
  split at h4
  ·rename_i d hd;exact⟨d,hd,by simpa using h4⟩
  ·cases h4
 ·cases h
theorem AQ.ok (hT:AQ P T) (h:T t=some ti):I7 P t ti:=by
 have:=hT t ti h
 unfold nr at this
 simp only[A1]at this
 obtain⟨⟨⟨⟨⟨⟨h1,h2⟩,h3⟩,h4⟩,h5⟩,h6⟩,_⟩:=this
 split at h1
 ·rename_i i hi
  simp only[A1,beq_iff_eq]at h1
  obtain⟨i',v,ff,hv,hz⟩:=akO h2
  rw[hi]at ff;obtain rfl:=oi ff
  refine⟨⟨i,hi,h1.1,h1.2,v,hv,hz⟩,by simpa using h3,by simpa using h4.1,by simpa using h4.2,by simpa using h5,?_⟩
  intro hp
  rw[hp]at h6
  simp only[AW,Bool.false_or,A1,Bool.not_eq_true']at h6
  refine⟨h6.1,?_⟩
  have h62:=h6.2
  split at h62
  ·rename_i l hl;exact⟨l,hl,h62⟩
  ·cases h62
 ·cases h1
theorem AQ.int (hT:AQ P T) (h:T t=some ti) {k:IntKind} (hd:ti.d=.int k):P.underlying t=some (.int k):=by
 have:=hT t ti h
 unfold nr at this
 simp only[A1]at this
 have h7:=this.2
 rw[hd]at h7
 split at h7<;>simp_all
theorem AQ.bool (hT:AQ P T) (h:T t=some ti) (hd:ti.d=.bool):P.underlying t=some .bool:=by
 have:=hT t ti h
 unfold nr at this
 simp only[A1]at this
 have h7:=this.2
 rw[hd]at h7
 split at h7<;>simp_all
theorem AQ.str (hT:AQ P T) (h:T t=some ti) (hd:ti.d=.str):P.underlying t=some .string:=by
 have:=hT t ti h
 unfold nr at this
 simp only[A1]at this
 have h7:=this.2
 rw[hd]at h7
 split at h7<;>simp_all
theorem AQ.slice (hT:AQ P T) (h:T t=some ti) {e:TypeId} (hd:ti.d=.slice e):P.underlying t=some (.slice e)/\FG P e ti:=by
 have:=hT t ti h
 unfold nr at this
 simp only[A1]at this
 have h7:=this.2
 rw[hd]at h7
 split at h7<;>simp_all
 obtain⟨rfl,h7⟩:=h7
 exact agQ h7
theorem AQ.array (hT:AQ P T) (h:T t=some ti) {n:Nat}{e:TypeId} (hd:ti.d=.array n e):P.underlying t=some (.array n e)/\FG P e ti:=by
 have:=hT t ti h
 unfold nr at this
 simp only[A1]at this
 have h7:=this.2
 rw[hd]at h7
 split at h7<;>simp_all
 obtain⟨⟨_,rfl⟩,h7⟩:=h7
 exact agQ h7
theorem adJ:∀ (fs:List Field) (l:List (Nat×Nat×Bool)),ot P fs l=true->∀ (i:Nat) (o s:Nat) (a:Bool),l[i]?=some (o,s,a)->
  ∃ f,fs[i]?=some f/\f.offset=o/\0<s/\(∃ inf,P.info? f.type=some inf/\inf.size=s)/\∃ d,P.underlying f.type=some d/\fV d=a
 |[],[],_,i,o,s,a,h=>by simp at h
 |[],_::_,h,_,_,_,_,_=>by simp[ot]at h
 |_::_,[],_,i,o,s,a,h=>by simp at h
 |f::fs,(o',s',a')::l,h,i,o,s,a,hi=>by
  simp only[ot,A1,beq_iff_eq]at h
  obtain⟨⟨⟨⟨h1,h0⟩,h2⟩,h3⟩,h4⟩:=h
  cases i with
  |zero=>
   simp only[BP,oE,Prod.mk.injEq]at hi
   obtain⟨rfl,rfl,rfl⟩:=hi
   refine⟨f,by simp,h1,of_decide_eq_true h0,?_,?_⟩
   ·split at h2
    ·rename_i inf bd;exact⟨inf,bd,by simpa using h2⟩
    ·cases h2
   ·split at h3
    ·rename_i d hd;exact⟨d,hd,by simpa using h3⟩
    ·cases h3
  |succ i=>simp only[Cc]at hi ⊢;exact adJ fs l h4 i o s a hi
theorem AQ.struct (hT:AQ P T) (h:T t=some ti) (hd:ti.d=.struct):∃ fs,P.underlying t=some (.struct fs)/\ot P fs.toList ti.fl=true:=by
 have:=hT t ti h
 unfold nr at this
 simp only[A1]at this
 have h7:=this.2
 rw[hd]at h7
 split at h7<;>simp_all
theorem AQ.agg (hT:AQ P T) (h:T t=some ti):∃ d,P.underlying t=some d/\fV d=ti.isAgg:=by
 have:=hT t ti h
 unfold nr at this
 simp only[A1]at this
 have h7:=this.2
 unfold TI.isAgg
 split at h7<;>rename_i h1 h2<;>first|(exact⟨_,h2,by rw[h1];rfl⟩)|(cases h7)
end
theorem ajf {P:Program}{t:TypeId}{d:TypeDesc} (h:P.underlying t=some d) (w:World):(isAgg t).run P w=.ok (fV d) w:=by
 simp only[isAgg,Sem.run_bind,run_underlying h,Result.andThen_ok]
 cases d<;>simp[fV]
mutual
theorem agz {fm:FM}{ts:List Al}:∀ (v:Value) (x:AV),gf v=some x->VR fm ts x v
 |.bool b,x,h=>by simp only[gf,oE]at h;subst h;exact .bool b
 |.int k n,x,h=>by simp only[gf,oE]at h;subst h;exact .int k n
 |.string s,x,h=>by simp only[gf,oE]at h;subst h;exact .str s
 |.slice none 0 0,x,h=>by simp only[gf,oE]at h;subst h;exact .nil
 |.slice none 0 (_+1),x,h=>by simp[gf]at h
 |.slice none (_+1) _,x,h=>by simp[gf]at h
 |.slice (some _) _ _,x,h=>by simp[gf]at h
 |.pointer none,x,h=>by simp only[gf,oE]at h;subst h;exact .bH
 |.pointer (some _),x,h=>by simp[gf]at h
 |.nilFunc,x,h=>by simp only[gf,oE]at h;subst h;exact .bQ
 |.nilIface,x,h=>by simp only[gf,oE]at h;subst h;exact .bV
 |.agg ⟨cs⟩,x,h=>by
  simp only[gf]at h
  split at h
  ·rename_i l hl
   split at h
   ·rename_i hf
    simp only[oE]at h;subst h
    have:=agA (fm:=fm) (ts:=ts) cs l hl
    exact .agg l _ (by simpa using this.1) (by simpa using hf) (fun i x v hx hv=>this.2 i x v hx (by simpa using hv))
   ·cases h
  ·cases h
 |.float _ _,x,h=>by simp[gf]at h
 |.complex _ _ _,x,h=>by simp[gf]at h
 |.map _,x,h=>by simp[gf]at h
 |.chan _,x,h=>by simp[gf]at h
 |.func _ _ _,x,h=>by simp[gf]at h
 |.iface _ _,x,h=>by simp[gf]at h
 |.tuple _,x,h=>by simp[gf]at h
theorem agA {fm:FM}{ts:List Al}:∀ (vs:List Value) (xs:List AV),vN vs=some xs->Av fm ts xs vs
 |[],xs,h=>by simp only[vN,oE]at h;subst h;exact⟨rfl,fun i x v h=>by simp at h⟩
 |v::l,xs,h=>by
  simp only[vN]at h
  split at h
  ·rename_i a b ha hb
   obtain rfl:=oi h
   have h1:=agz v a ha (fm:=fm) (ts:=ts)
   have ih:=agA l b hb (fm:=fm) (ts:=ts)
   refine⟨by simp[ih.1],?_⟩
   intro i y u hy hu
   cases i with
   |zero=>simp only[BP,oE]at hy hu;subst hy hu;exact h1
   |succ i=>simp only[Cc]at hy hu;exact ih.2 i y u hy hu
  ·cases h
end
def CZ (fm:FM) (ts:List Al) (tm:Tm) (a:Act):Prop:=∀ t x,tm t=some x->∃ v,a.tmps[t]?=some v/\VR fm ts x v
theorem sK {fm:FM}{ts:List Al}{tm:Tm}{a:Act} (h:CZ fm ts tm a) {x:Operand}{y:AV} (hx:bl tm x=some y):VR fm ts y (a.eval x):=by
 cases x with
 |tmp t=>
  obtain⟨v,hv,hr⟩:=h t y hx
  have:a.eval (.tmp t)=v:=by
   simp only[Act.eval,Array.getD_eq_getD_getElem?,hv,Option.getD_some]
  rw[this]
  exact hr
 |const v=>exact agz v y hx
 |global g=>simp[bl]at hx
 |func f=>
  simp only[bl,oE]at hx;subst hx
  exact .fn _ [] [] #[] #[] rfl rfl (by intro i x v h;simp at h) (by intro i x v h;simp at h)
theorem aar {fm:FM}{ts:List Al}{tm:Tm}{a:Act} (h:CZ fm ts tm a):∀ (l:List Operand) (ys:List AV),j8 tm l=some ys->Av fm ts ys (l.map a.eval)
 |[],ys,e=>by simp only[j8,oE]at e;subst e;exact⟨rfl,fun i x v h=>by simp at h⟩
 |x::l,ys,e=>by
  simp only[j8]at e
  split at e
  ·rename_i p q hp hq
   obtain rfl:=oi e
   have h1:=sK h hp
   have ih:=aar h l q hq
   refine⟨by simp[ih.1],?_⟩
   intro i y u hy hu
   cases i with
   |zero=>simp only[List.map_cons,BP,oE]at hy hu;subst hy hu;exact h1
   |succ i=>simp only[List.map_cons,Cc]at hy hu;exact ih.2 i y u hy hu
  ·cases e
def Ik (r:Result Next) (v:Value) (w':World):Prop:=r=.ok (.value v) w'\/(r=.ok .skip w'/\v=undef)
structure Out (N0:Nat) (W0:World) (fm:FM) (ts:List Al) (H:Heap) (w:World) (kb:Nat) (r:Result Next) (d:De) (fm':FM) (ts':List Al) (w':World) (v:Value):Prop where
 done:Ik r v w'
 hr:HR N0 W0 fm' ts' (H.bN d.lK) w'
 val:VR fm' ts' d.val v
 de:AM N0 fm fm'
 kd:As ts ts'
 free:∀ l k,(l≠0\/k<kb\/kb+16<=k)->tb ts l k=none->tb ts' l k=none
def BO (N0:Nat) (W0:World) (fm:FM) (ts:List Al) (H:Heap) (w:World) (kb:Nat) (r:Result Next) (d:De):Prop:=
 ∃ fm' ts' w' v,Out N0 W0 fm ts H w kb r d fm' ts' w' v
theorem BO.pure {N0:Nat}{W0:World}{fm:FM}{ts:List Al}{H:Heap}{w:World}{kb:Nat}{r:Result Next}{x:AV}{v:Value}
  (h:HR N0 W0 fm ts H w) (hr:r=.ok (.value v) w) (hv:VR fm ts x v):BO N0 W0 fm ts H w kb r ⟨x,[]⟩:=
 ⟨fm,ts,w,v,.inl hr,h,hv,AM.refl _ _,As.refl _,fun _ _ _ h=>h⟩
theorem eA {P:Program}{w w':World}{s:Sem Value}{v:Value} (hs:s.run P w=.ok v w'):
  ((do let x <-s;pure (Next.value x)):Sem Next).run P w=.ok (.value v) w':=by
 simp[hs]
theorem am8 {P:Program}{w w':World}{s:Sem Unit} (hs:s.run P w=.ok () w'):
  ((do s;pure Next.skip):Sem Next).run P w=.ok .skip w':=by
 simp[hs]
section
variable {P:Program}{T:AN}{N0:Nat}{W0:World}{fm:FM}{ts:List Al}{H:Heap}{w:World}{tm:Tm}{a:Act}
theorem afZ {r:Option AV}{d:De} (h:ey r=some d):∃ x,r=some x/\d=⟨x,[]⟩:=by
 unfold ey at h
 cases r with
 |none=>cases h
 |some x=>simp only[A0,oE]at h;exact⟨x,rfl,h.symm⟩
theorem ai3 {es:List (List AV)}{cf:Nat->Option Value}{esz i o size:Nat}{u:Nat->Nat->Value}{cs:List AV} (h1:dw es esz)
  (h2:∀ (i:Nat) (c:List AV) (o:Nat) (x:AV),es[i]?=some c->c[o]?=some x->cf (i*esz+o)=some (u i o))
  (h3:∀ (i:Nat) (c:List AV) (o:Nat) (x:AV),es[i]?=some c->c[o]?=some x->x.flat=true)
  (h4:∀ (i:Nat) (c:List AV) (o:Nat) (x:AV),es[i]?=some c->c[o]?=some x->VR fm [] x (u i o))
  (hs:aaA es i o size=some cs):
  ∃ vs:List Value,Av fm [] cs vs/\cs.length=size/\(∀ x∈cs,x.flat=true)/\∀ (j:Nat) (v:Value),vs[j]?=some v->cf (i*esz+o+j)=some v:=by
 unfold aaA at hs
 split at hs
 ·cases hs
 ·rename_i c hc
  split at hs
  ·rename_i hle
   simp only[oE]at hs;subst hs
   have dS:∀ j,((c.drop o).take size)[j]?=if j<size then c[o+j]? else none:=by
    intro j;rw[BS];split
    ·rw[Cg]
    ·rfl
   refine⟨(List.range size).map fun j=>u i (o+j),⟨by simp;omega,?_⟩,by simp;omega,?_,?_⟩
   ·intro j x v hx hv
    rw[dS]at hx
    split at hx
    ·rename_i hj
     simp only[BA,List.getElem?_range hj,A0,oE]at hv
     subst hv
     exact h4 i c (o+j) x hc hx
    ·cases hx
   ·intro x hx
    obtain⟨j,hj⟩:=BF.1 hx
    rw[dS]at hj
    split at hj
    ·exact h3 i c (o+j) x hc hj
    ·cases hj
   ·intro j v hv
    have hj:j<size:=by have:=(gS.1 hv).1;simpa using this
    simp only[BA,List.getElem?_range hj,A0,oE]at hv
    subst hv
    have zC:o+j<c.length:=by omega
    have:=h2 i c (o+j) _ hc (gG zC)
    rw[<-this]
    congr 1
    omega
  ·split at hs
   ·rename_i hh
    obtain⟨rfl,gm,hle⟩:=hh
    simp only[oE]at hs;subst hs
    have anJ:esz=1:=by rw[<-h1 c (AU hc)];exact gm
    subst anJ
    have key:∀ (l:List (List AV)),dw l 1->∀ (j:Nat),l.flatten[j]?=(l[j]?).bind (·[0]?):=by
     intro l
     induction l with
     |nil=>intro _ j;simp
     |cons y l ih=>
      intro hl j
      have hy:y.length=1:=hl y List.mem_cons_self
      obtain⟨z,rfl⟩:∃ z,y=[z]:=by
       cases y with
       |nil=>simp at hy
       |cons z r=>cases r with|nil=>exact⟨z,rfl⟩|cons=>simp at hy
      cases j with
      |zero=>simp
      |succ j=>simp;rw[ih (fun c hc=>hl c (List.mem_cons_of_mem _ hc))]
    have xe:dw ((es.drop i).take size) 1:=fun c hc=>h1 c (Cl (BZ hc))
    have hlen:((es.drop i).take size).flatten.length=size:=by
     have:∀ l:List (List AV),dw l 1->l.flatten.length=l.length:=by
      intro l
      induction l with
      |nil=>intro _;rfl
      |cons y l ih=>intro hl;simp[hl y List.mem_cons_self,ih (fun c hc=>hl c (List.mem_cons_of_mem _ hc))];omega
     rw[this _ xe];simp;omega
    have dS:∀ j x,((es.drop i).take size).flatten[j]?=some x->j<size/\∃ cc,es[i+j]?=some cc/\cc[0]?=some x:=by
     intro j x hx
     have hj:j<size:=by rw[<-hlen];exact(gS.1 hx).1
     rw[key _ xe,BS,if_pos hj,Cg]at hx
     cases cj:es[i+j]? with
     |none=>rw[cj]at hx;cases hx
     |some cc=>rw[cj]at hx;exact⟨hj,cc,rfl,hx⟩
    refine⟨(List.range size).map fun j=>u (i+j) 0,⟨by simp[hlen],?_⟩,hlen,?_,?_⟩
    ·intro j x v hx hv
     obtain⟨hj,cc,cj,cW⟩:=dS j x hx
     simp only[BA,List.getElem?_range hj,A0,oE]at hv
     subst hv
     exact h4 (i+j) cc 0 x cj cW
    ·intro x hx
     obtain⟨j,hj⟩:=BF.1 hx
     obtain⟨_,cc,cj,cW⟩:=dS j x hj
     exact h3 (i+j) cc 0 x cj cW
    ·intro j v hv
     have hj:j<size:=by have:=(gS.1 hv).1;simpa using this
     simp only[BA,List.getElem?_range hj,A0,oE]at hv
     subst hv
     have ae:i+j<es.length:=by omega
     have cj:=gG ae
     have bF:(es[i+j]).length=1:=h1 _ (List.getElem_mem ae)
     have:=h2 (i+j) _ 0 _ cj (gG (by omega))
     rw[<-this]
     congr 1
     omega
   ·cases hs
theorem HR.jc (h:HR N0 W0 fm ts H w) {x:AV}{v:Value} (hv:VR fm ts x v) {size:Nat}{cs:List AV} (hs:jc H.get size x=some cs):
  ∃ (ad:Addr) (vs:List Value),v=.pointer (some ad)/\Av fm ts cs vs/\cs.length=size/\(∀ x∈cs,x.flat=true)/\∀ j u,vs[j]?=some u->w.cell? (ad.add j)=some u:=by
 cases hv with
 |ptr l k o c ht=>
  simp only[Go.Abs.jc]at hs
  split at hs
  ·rename_i yn hg
   split at hs
   ·rename_i hle
    simp only[oE]at hs;subst hs
    have hb:=h.ao l k _ hg
    rw[ht]at hb
    cases hb with
    |box c yn hN hB=>
     obtain⟨cells,et,c1,c2,c3⟩:=hB
     have dS:∀ j,(AV.dq l ((yn.drop o).take size))[j]?=if j<size then (yn[o+j]?).map (AV.sh l) else none:=by
      intro j;rw[na,BS];split
      ·rw[Cg]
      ·rfl
     refine⟨⟨c,o,none⟩,(List.range size).map fun j=>(cells[o+j]?).getD default,rfl,⟨by rw[nb];simp;omega,?_⟩,by rw[nb];simp;omega,?_,?_⟩
     ·intro j x v hx hv
      rw[dS]at hx
      split at hx
      ·rename_i hj
       simp only[BA,List.getElem?_range hj,A0,oE]at hv
       subst hv
       cases cW:yn[o+j]? with
       |none=>rw[cW]at hx;cases hx
       |some y=>
        rw[cW]at hx;simp only[A0,oE]at hx;subst hx
        have ae:o+j<cells.size:=by omega
        rw[Bo ae]
        exact((c3 (o+j) y _ cW (Bo ae)).2).sh l rfl
      ·cases hx
     ·intro x hx
      obtain⟨j,hj⟩:=BF.1 hx
      rw[dS]at hj
      split at hj
      ·cases cW:yn[o+j]? with
       |none=>rw[cW]at hj;cases hj
       |some y=>
        rw[cW]at hj;simp only[A0,oE]at hj;subst hj
        have ae:o+j<cells.size:=by have:=(gS.1 cW).1;omega
        rw[acr]
        exact(c3 (o+j) y _ cW (Bo ae)).1
      ·cases hj
     ·intro j u hu
      have hj:j<size:=by have:=(gS.1 hu).1;simpa using this
      simp only[BA,List.getElem?_range hj,A0,oE]at hu
      subst hu
      have ae:o+j<cells.size:=by omega
      rw[Addr.add_lit]
      simp only[World.cell?,c1,Bo ae]
      simp
   ·cases hs
  ·cases hs
 |eK l k esz i o g p ht=>
  simp only[Go.Abs.jc]at hs
  split at hs
  ·rename_i et aN es hg
   have:=h.ao l k _ hg
   rw[ht]at this
   cases this
  ·cases hs
 |eM l k esz i o g p m' c ht ae=>
  simp only[Go.Abs.jc]at hs
  split at hs
  ·rename_i et aN es hg
   have:=h.ao l k _ hg
   rw[ht]at this
   split at hs
   ·rename_i hh
    cases this with
    |nil et esz=>simp at hh;omega
    |arr et esz es c cap hN h=>omega
   ·cases hs
  ·cases hs
 |bx l k esz i o g c cap ht=>
  simp only[Go.Abs.jc]at hs
  split at hs
  ·rename_i et aN es hg
   split at hs
   ·rename_i hh
    obtain⟨he,hlen⟩:=hh
    subst he
    have hb:=h.ao l k _ hg
    rw[ht]at hb
    cases hb with
    |arr et _ es c cap hN hA=>
     obtain⟨cells,c1,c2,c3,c4,c5,c6,c7⟩:=hA
     have hb:∀ (i:Nat) (cc:List AV) (o:Nat) (x:AV),es[i]?=some cc->cc[o]?=some x->∃ u,cells[i*aN+o]?=some u/\x.flat=true/\VR fm [] x u:=by
      intro i cc o x hi ho
      have ae:i<es.length:=(gS.1 hi).1
      have cj:cc.length=aN:=c5 cc (AU hi)
      have zC:o<aN:=by rw[<-cj];exact(gS.1 ho).1
      have ax:i*aN+o<cells.size:=by
       rw[c2]
       have:(i+1)*aN<=cap*aN:=BW _ (by omega)
       rw[Nat.add_mul]at this
       omega
      have:=c7 i cc o x _ hi ho (Bo ax)
      exact⟨_,Bo ax,this.1,this.2⟩
     obtain⟨vs,bo,anV,qs,bz⟩:=ai3 (fm:=fm) (es:=es) (cf:=fun n=>cells[n]?) (esz:=aN) (i:=i) (o:=o) (size:=size) (u:=fun i o=>(cells[i*aN+o]?).getD default) (cs:=cs) c5
      (by
       intro i cc o x hi ho
       obtain⟨u,hu,_,_⟩:=hb i cc o x hi ho
       simp only[hu,Option.getD_some])
      (fun i cc o x hi ho=>(hb i cc o x hi ho).elim fun u hu=>hu.2.1)
      (by
       intro i cc o x hi ho
       obtain⟨u,hu,_,hv⟩:=hb i cc o x hi ho
       simp only[hu,Option.getD_some];exact hv)
      hs
     refine⟨⟨c,i*aN+o,none⟩,vs,rfl,⟨bo.1,fun j x v hx hv=>(bo.2 j x v hx hv).mono (AY.refl _) (As.nil _)⟩,anV,qs,?_⟩
     intro j u hu
     rw[Addr.add_lit]
     simp only[World.cell?,c1]
     simpa using bz j u hu
   ·cases hs
  ·cases hs
 |aD es i o cb off esz u h1 h2 h3 h4=>
  simp only[Go.Abs.jc]at hs
  obtain⟨vs,bo,hlen,qs,bz⟩:=ai3 (cf:=fun n=>fm cb (off+n)) h1 (fun i c o x a b=>(h2 i c o x a b).1) h3 h4 hs
  refine⟨_,vs,rfl,⟨bo.1,fun j x v hx hv=>(bo.2 j x v hx hv).mono (AY.refl _) (As.nil _)⟩,hlen,qs,?_⟩
  intro j u hu
  rw[Addr.add_lit,Nat.add_assoc]
  exact h.bP _ _ _ (bz j u hu)
 |_=>simp[Go.Abs.jc]at hs
end
section
variable {P:Program}{T:AN}{N0:Nat}{W0:World}{fm:FM}{ts:List Al}{H:Heap}{w:World}{t:TypeId}{ti:TI}
theorem acX {agg:Bool}{cs:List AV}{vs:List Value}{y:AV} (h:ru agg cs=some y) (hv:Av fm ts cs vs) (hf:∀ x∈cs,x.flat=true):
  VR fm ts y (if agg then .agg vs.toArray else vs.headD undef)/\(agg=false->∃ v,vs=[v]):=by
 unfold ru at h
 cases agg with
 |true=>
  simp only[if_true,oE]at h;subst h
  refine⟨?_,fun h=>by cases h⟩
  simp only[if_true]
  exact .agg cs _ (by simp[hv.1]) hf (fun i x v a b=>hv.2 i x v a (by simpa using b))
 |false=>
  simp only[C6,if_false]at h
  split at h
  ·rename_i x
   simp only[oE]at h;subst h
   have hl:=hv.1
   cases vs with
   |nil=>simp at hl
   |cons v r=>
    cases r with
    |nil=>exact⟨by simpa using hv.2 0 x v rfl rfl,fun _=>⟨v,rfl⟩⟩
    |cons=>simp at hl
  ·cases h
theorem agM (hT:AQ P T) (ht:T t=some ti) (h:HR N0 W0 fm ts H w) {x y:AV}{v:Value} (hv:VR fm ts x v) (e:om H.get ti x=some y):
  ∃ u,(Instr.loadAt t v).run P w=.ok u w/\VR fm ts y u:=by
 unfold om at e
 cases hc:jc H.get ti.size x with
 |none=>rw[hc]at e;cases e
 |some cs=>
  rw[hc]at e
  simp only[Ae]at e
  obtain⟨ad,vs,rfl,bo,hlen,qs,bz⟩:=h.jc hv hc
  obtain⟨qG,ly⟩:=acX e bo qs
  obtain⟨i,hi,ax,_,_⟩:=(hT.ok ht).info
  obtain⟨d,hd,oD⟩:=hT.agg ht
  refine⟨_,?_,qG⟩
  simp only[Instr.loadAt,Instr.sureAddr,loadVar,Sem.run_bind,Sem.run_pure,Result.andThen_ok,ajf hd,oD]
  cases ha:ti.isAgg with
  |true=>
   simp only[if_true,Sem.run_bind,sizeOf,typeInfo,run_program,hi,Sem.run_pure,Result.andThen_ok]
   have:=run_loadCells_list (P:=P) w ad vs bz
   rw[<-bo.1,hlen,<-ax]at this
   rw[this]
   simp
  |false=>
   obtain⟨v,rfl⟩:=ly ha
   have:=bz 0 v rfl
   rw[Addr.add_zero']at this
   simp[run_load,this]
theorem j5 {i:Int}{n j:Nat} (h:gq i n=some j):0<=i/\i<n/\i.toNat=j:=by
 unfold gq at h
 split at h
 ·rename_i hh;simp only[oE]at h;exact⟨hh.1,hh.2,h⟩
 ·cases h
theorem ala (hT:AQ P T) (ht:T t=some ti) {x y:AV}{v:Value} (hv:VR fm ts x v) {f:Nat} (e:aa5 ti x f=some y):
  ∃ u,(Instr.fieldAt t v f).run P w=.ok u w/\VR fm ts y u:=by
 unfold aa5 at e
 split at e
 ·rename_i hd
  obtain⟨fs,hu,dI⟩:=hT.struct ht hd
  split at e
  ·rename_i off sz hf
   obtain⟨sz,agg⟩:=sz
   obtain⟨fd,hfd,zB,aee,⟨inf,bd,ax⟩,_⟩:=adJ _ _ dI f off sz agg hf
   have ad6:fs[f]?=some fd:=by simpa using hfd
   have oS:inf.size≠0:=by omega
   have run:∀ a:Addr,(Instr.fieldAt t (.pointer (some a)) f).run P w=.ok (.pointer (some (a.add off))) w:=by
    intro a
    simp[Instr.fieldAt,run_underlying hu,ad6,Instr.sureAddr,fieldPlace,zB,sizeOf,typeInfo,bd,oS]
   cases hv with
   |ptr l k o c h=>
    simp only[oE]at e;subst e
    exact⟨_,run _,by rw[Addr.add_lit];exact .ptr l k _ c h⟩
   |eK l k esz i o g a h=>
    simp only[oE]at e;subst e
    exact⟨_,run _,.eK l k esz i _ g _ h⟩
   |eM l k esz i o g a m' c h ae=>
    simp only[oE]at e;subst e
    exact⟨_,run _,.eM l k esz i _ g _ m' c h ae⟩
   |bx l k esz i o g c cap h=>
    simp only[oE]at e;subst e
    exact⟨_,run _,by rw[Addr.add_lit,Nat.add_assoc];exact .bx l k esz i _ g c cap h⟩
   |aD es i o cb off' esz u h1 h2 h3 h4=>
    simp only[oE]at e;subst e
    exact⟨_,run _,by rw[Addr.add_lit,Nat.add_assoc,Nat.add_assoc];exact .aD es i _ cb off' esz u h1 h2 h3 h4⟩
   |_=>simp at e
  ·cases e
 ·cases e
theorem Av.cut {cs:List AV}{vs:List Value} (h:Av fm ts cs vs) (o n:Nat):Av fm ts ((cs.drop o).take n) ((vs.drop o).take n):=by
 refine⟨by simp[h.1],?_⟩
 intro i x v hx hv
 rw[BS]at hx hv
 split at hx
 ·rw[if_pos (by assumption)]at hv
  rw[Cg]at hx hv
  exact h.2 _ x v hx hv
 ·cases hx
theorem VR.mF {cs:List AV}{v:Value} (h:VR fm ts (.agg cs) v):∃ vs:Array Value,v=.agg vs/\Av fm ts cs vs.toList/\∀ x∈cs,x.flat=true:=by
 cases h with
 |agg cs vs h1 h2 h3=>exact⟨vs,rfl,⟨by simpa using h1,fun i x v a b=>h3 i x v a (by simpa using b)⟩,h2⟩
theorem aeS {P:Program}{t:TypeId}{d:TypeDesc}{inf:TypeInfo}{w:World}{cs:Array Value}{o s:Nat} (hu:P.underlying t=some d) (hi:P.info? t=some inf) (hs:inf.size=s) (hle:o+s<=cs.size) (h1:fV d=false->s=1):
  (part t cs o).run P w=.ok (if fV d then .agg ((cs.toList.drop o).take s).toArray else (((cs.toList.drop o).take s).headD undef)) w:=by
 simp only[part,Sem.run_bind,ajf hu,Result.andThen_ok]
 cases ha:fV d with
 |true=>
  have e:(cs.toList.drop o).take s=(cs.toList.drop o).take (o+s - o):=by congr 1;omega
  simp only[if_true,Sem.run_bind,sizeOf,typeInfo,run_program,hi,Sem.run_pure,Result.andThen_ok,hs]
  congr 2
  apply Array.ext'
  simp
 |false=>
  have:=h1 ha
  subst this
  have ae:o<cs.size:=by omega
  have:(cs.toList.drop o).take 1=[cs[o]]:=by
   apply List.ext_getElem?
   intro j
   rw[BS]
   cases j with
   |zero=>simp[ae]
   |succ j=>simp
  simp[ae,this]
theorem afU {agg:Bool}{cs:List AV}{y:AV} (h:ru agg cs=some y):agg=false->cs.length=1:=by
 intro ha
 subst ha
 unfold ru at h
 simp only[C6,if_false]at h
 split at h
 ·rfl
 ·cases h
theorem alb (hT:AQ P T) (ht:T t=some ti) {x y:AV}{v:Value} (hv:VR fm ts x v) {f:Nat} (e:aa4 ti x f=some y):
  ∃ u,(Instr.field t v f).run P w=.ok u w/\VR fm ts y u:=by
 unfold aa4 at e
 split at e
 ·rename_i hd
  obtain⟨fs,hu,dI⟩:=hT.struct ht hd
  split at e
  ·rename_i cs
   split at e
   ·rename_i off sz agg hf
    split at e
    ·rename_i hle
     obtain⟨fd,hfd,zB,aee,⟨inf,bd,ax⟩,⟨d,lr,oD⟩⟩:=adJ _ _ dI f off sz agg hf
     have ad6:fs[f]?=some fd:=by simpa using hfd
     obtain⟨vs,rfl,bo,qs⟩:=hv.mF
     have wy:=bo.cut off sz
     obtain⟨qG,_⟩:=acX e wy (fun x hx=>qs x (Cl (BZ hx)))
     have hlen:=afU e
     have hp:=aeS (P:=P) (w:=w) (cs:=vs) (o:=off) lr bd ax (by have:=bo.1;simp at this;omega) (by
      intro ha;rw[oD]at ha;have:=hlen ha;simp at this;omega)
     refine⟨_,?_,qG⟩
     simp only[Instr.field,Sem.run_bind,run_underlying hu,Result.andThen_ok,ad6,asAgg,Sem.run_pure,zB,hp,oD]
    ·cases e
   ·cases e
  ·cases e
 ·cases e
theorem alc (hT:AQ P T) (ht:T t=some ti) {x ix y:AV}{v vi:Value} (hv:VR fm ts x v) (hi:VR fm ts ix vi) (e:aa7 ti x ix=some y):
  ∃ u,(Instr.indexAt t v vi).run P w=.ok u w/\VR fm ts y u:=by
 unfold aa7 at e
 split at e
 ·rename_i k i
  cases hi
  split at e
  ·rename_i el hd
   obtain⟨hu,⟨inf,bd,ax,_,_⟩,_⟩:=hT.slice ht hd
   have run:∀ (p:Addr) (n cp:Nat),0<=i->i<n->(Instr.indexAt t (.slice (some p) n cp) (.int k i)).run P w=.ok (.pointer (some (p.add (i.toNat*ti.el)))) w:=by
    intro p n cp h0 h1
    simp[Instr.indexAt,asIntOf,run_underlying hu,sizeOf,typeInfo,bd,ax,h0,h1]
   cases hv with
   |ck e0 p cap=>
    simp only at e
    split at e
    ·simp only[mS]at e
     obtain⟨j,hj,_⟩:=e
     obtain⟨h0,h1,_⟩:=j5 hj
     simp at h1;omega
    ·cases e
   |sl es cb off esz cap u bX h1 h2 h3 h4=>
    simp only at e
    split at e
    ·rename_i he
     simp only[mS]at e
     obtain⟨j,hj,rfl⟩:=e
     obtain⟨h0,ae,rfl⟩:=j5 hj
     refine⟨_,run _ _ _ h0 ae,?_⟩
     rw[Addr.add_lit,<-he]
     exact .aD es i.toNat 0 cb off esz u h1 (fun i c o x a b=>(h2 i c o x a b).p) h3 h4
    ·cases e
   |cN l kk esz b n g p cp h hn ha=>
    simp only at e
    split at e
    ·simp only[mS]at e
     obtain⟨j,hj,rfl⟩:=e
     obtain⟨h0,ae,rfl⟩:=j5 hj
     obtain⟨q,rfl⟩:=ha (by omega)
     exact⟨_,run _ _ _ h0 ae,.eK l kk esz _ 0 g _ h⟩
    ·cases e
   |cO l kk esz b n g p cp m' c h eO hn ha=>
    simp only at e
    split at e
    ·simp only[mS]at e
     obtain⟨j,hj,rfl⟩:=e
     obtain⟨h0,ae,rfl⟩:=j5 hj
     obtain⟨q,rfl⟩:=ha (by omega)
     exact⟨_,run _ _ _ h0 ae,.eM l kk esz _ 0 g _ m' c h eO⟩
    ·cases e
   |cr l kk esz a0 h=>
    simp only at e
    split at e
    ·simp only[mS]at e
     obtain⟨j,hj,rfl⟩:=e
     obtain⟨h0,ae,rfl⟩:=j5 hj
     simp at ae;omega
    ·cases e
   |loc l kk esz b n g c cap cp p h hn bM hc ha=>
    simp only at e
    split at e
    ·rename_i he
     simp only[mS]at e
     obtain⟨j,hj,rfl⟩:=e
     obtain⟨h0,ae,rfl⟩:=j5 hj
     have hp:=ha (.inl (by omega))
     subst hp
     refine⟨_,run _ _ _ h0 ae,?_⟩
     rw[Addr.add_lit,<-he,<-Nat.add_mul]
     exact .bx l kk esz (b+i.toNat) 0 g c cap h
    ·cases e
   |bG l kk esz o n c cp p h hn ha=>
    simp only at e
    split at e
    ·rename_i he
     simp only[mS]at e
     obtain⟨j,hj,rfl⟩:=e
     obtain⟨h0,ae,rfl⟩:=j5 hj
     have hp:=ha (by omega)
     subst hp
     refine⟨_,run _ _ _ h0 ae,?_⟩
     rw[Addr.add_lit,<-he]
     exact .ptr l kk _ c h
    ·cases e
   |raw vv hq=>
    cases v with
    |slice a n cp=>
     cases a with
     |none=>simp at e
     |some p=>
      simp only[mS]at e
      obtain⟨j,hj,rfl⟩:=e
      obtain⟨h0,ae,rfl⟩:=j5 hj
      exact⟨_,run _ _ _ h0 ae,.raw _ rfl⟩
    |_=>simp at e
   |_=>simp at e
  ·rename_i n el hd
   obtain⟨hu,⟨inf,bd,ax,_,_⟩,_⟩:=hT.array ht hd
   have run:∀ (p:Addr),0<=i->i<n->(Instr.indexAt t (.pointer (some p)) (.int k i)).run P w=.ok (.pointer (some (p.add (i.toNat*ti.el)))) w:=by
    intro p h0 h1
    simp[Instr.indexAt,asIntOf,run_underlying hu,sizeOf,typeInfo,bd,ax,h0,h1,Instr.sureAddr]
   cases hv with
   |ptr l kk o c h=>
    simp only[mS]at e
    obtain⟨j,hj,rfl⟩:=e
    obtain⟨h0,ae,rfl⟩:=j5 hj
    exact⟨_,run _ h0 ae,by rw[Addr.add_lit];exact .ptr l kk _ c h⟩
   |eK l kk esz b o g p h=>
    simp only[mS]at e
    obtain⟨j,hj,rfl⟩:=e
    obtain⟨h0,ae,rfl⟩:=j5 hj
    exact⟨_,run _ h0 ae,.eK l kk esz b _ g _ h⟩
   |eM l kk esz b o g p m' c h eO=>
    simp only[mS]at e
    obtain⟨j,hj,rfl⟩:=e
    obtain⟨h0,ae,rfl⟩:=j5 hj
    exact⟨_,run _ h0 ae,.eM l kk esz b _ g _ m' c h eO⟩
   |bx l kk esz b o g c cap h=>
    simp only[mS]at e
    obtain⟨j,hj,rfl⟩:=e
    obtain⟨h0,ae,rfl⟩:=j5 hj
    exact⟨_,run _ h0 ae,by rw[Addr.add_lit,Nat.add_assoc];exact .bx l kk esz b _ g c cap h⟩
   |aD es b o cb off esz u h1 h2 h3 h4=>
    simp only[mS]at e
    obtain⟨j,hj,rfl⟩:=e
    obtain⟨h0,ae,rfl⟩:=j5 hj
    exact⟨_,run _ h0 ae,by rw[Addr.add_lit,Nat.add_assoc,Nat.add_assoc];exact .aD es b _ cb off esz u h1 h2 h3 h4⟩
   |raw vv hq=>
    cases v with
    |pointer a=>
     cases a with
     |none=>simp at e
     |some p=>
      simp only[mS]at e
      obtain⟨j,hj,rfl⟩:=e
      obtain⟨h0,ae,rfl⟩:=j5 hj
      exact⟨_,run _ h0 ae,.raw _ rfl⟩
    |_=>simp at e
   |_=>simp at e
  ·cases e
 ·cases e
end
section
variable {P:Program}{T:AN}{N0:Nat}{W0:World}{fm:FM}{ts:List Al}{H:Heap}{w:World}{t:TypeId}{ti:TI}
theorem ald (hT:AQ P T) (ht:T t=some ti) {x ix y:AV}{v vi:Value} (hv:VR fm ts x v) (hi:VR fm ts ix vi) (e:aa6 ti x ix=some y):
  ∃ u,(Instr.index t v vi).run P w=.ok u w/\VR fm ts y u:=by
 unfold aa6 at e
 split at e
 ·rename_i k i
  cases hi
  split at e
  ·rename_i n el hd
   obtain⟨hu,⟨inf,bd,ax,_,_⟩,d,lr,oD⟩:=hT.array ht hd
   split at e
   ·rename_i cs
    cases hj:gq i n with
    |none=>rw[hj]at e;cases e
    |some j=>
     rw[hj]at e
     simp only[Ae]at e
     obtain⟨h0,ae,rfl⟩:=j5 hj
     split at e
     ·rename_i hle
      obtain⟨vs,rfl,bo,qs⟩:=hv.mF
      have wy:=bo.cut (i.toNat*ti.el) ti.el
      obtain⟨qG,_⟩:=acX e wy (fun x hx=>qs x (Cl (BZ hx)))
      have hlen:=afU e
      have hp:=aeS (P:=P) (w:=w) (cs:=vs) (o:=i.toNat*ti.el) lr bd ax (by have:=bo.1;simp at this;omega) (by
       intro ha;rw[oD]at ha;have:=hlen ha;simp at this;omega)
      refine⟨_,?_,qG⟩
      simp only[Instr.index,Sem.run_bind,asIntOf,Sem.run_pure,run_underlying hu,Result.andThen_ok,h0,ae,and_self,if_true,sizeOf,typeInfo,run_program,bd,ax,hp,oD]
     ·cases e
   ·cases e
  ·rename_i hd
   have hu:=hT.str ht hd
   split at e
   ·rename_i s
    cases hv
    simp only[mS]at e
    obtain⟨j,hj,rfl⟩:=e
    obtain⟨h0,ae,rfl⟩:=j5 hj
    have eO:i.toNat<s.data.size:=by have:s.size=s.data.size:=rfl;omega
    refine⟨.int .u8 (s.data[i.toNat]).toNat,?_,?_⟩
    ·have hg:s[i.toNat]?=some (s.data[i.toNat]):=by
      have zp:i.toNat<s.size:=eO
      rw[getElem?_pos s i.toNat zp];rfl
     simp[Instr.index,asIntOf,run_underlying hu,h0,hg]
    ·have:s.data.toList.getD i.toNat 0=s.data[i.toNat]:=by
      rw[List.getD_eq_getElem?_getD,Array.getElem?_toList,Bo eO];rfl
     rw[this]
     exact .int _ _
   ·cases e
  ·cases e
 ·cases e
theorem alX {n h:Nat}{o:Option AV}{vo:Option Value} (ho:∀ x,o=some x->∃ v,vo=some v/\VR fm ts x v) (hn:o=none->vo=none) (e:rA n o=some h):
  h<=n/\((vo=none/\h=n)\/∃ k i,vo=some (.int k i)/\0<=i/\i.toNat=h/\i<=n):=by
 unfold rA at e
 split at e
 ·simp only[oE]at e;subst e;exact⟨Be _,.inl ⟨hn rfl,rfl⟩⟩
 ·rename_i k i
  split at e
  ·rename_i hh
   simp only[oE]at e;subst e
   obtain⟨v,rfl,hv⟩:=ho _ rfl
   cases hv
   exact⟨by omega,.inr ⟨k,i,rfl,hh.1,rfl,hh.2⟩⟩
  ·cases e
 ·cases e
theorem alY {h l:Nat}{o:Option AV}{vo:Option Value} (ho:∀ x,o=some x->∃ v,vo=some v/\VR fm ts x v) (hn:o=none->vo=none) (e:rB h o=some l):
  l<=h/\((vo=none/\l=0)\/∃ k i,vo=some (.int k i)/\0<=i/\i.toNat=l/\i<=h):=by
 unfold rB at e
 split at e
 ·simp only[oE]at e;subst e;exact⟨Nat.zero_le _,.inl ⟨hn rfl,rfl⟩⟩
 ·rename_i k i
  split at e
  ·rename_i hh
   simp only[oE]at e;subst e
   obtain⟨v,rfl,hv⟩:=ho _ rfl
   cases hv
   exact⟨by omega,.inr ⟨k,i,rfl,hh.1,rfl,hh.2⟩⟩
  ·cases e
 ·cases e
theorem ade {n l h:Nat}{lo hi:Option AV}{vlo td:Option Value} (c:Nat) (isS:Bool) (bM:n<=c) (hl:∀ x,lo=some x->∃ v,vlo=some v/\VR fm ts x v) (zn:lo=none->vlo=none)
  (hh:∀ x,hi=some x->∃ v,td=some v/\VR fm ts x v) (zg:hi=none->td=none) (e:bounds n lo hi=some (l,h)):
  l<=h/\h<=n/\(Instr.sliceBounds isS n c vlo td none).run P w=.ok (l,h,c) w:=by
 unfold bounds at e
 split at e
 ·rename_i h' rV
  split at e
  ·rename_i l' jA
   simp only[oE,Prod.mk.injEq]at e
   obtain⟨rfl,rfl⟩:=e
   obtain⟨a1,a2⟩:=alX hh zg rV
   obtain⟨b1,b2⟩:=alY hl zn jA
   refine⟨b1,a1,?_⟩
   rcases a2 with ⟨rfl,rfl⟩|⟨k,i,rfl,h0,rfl,h1⟩
   ·rcases b2 with ⟨rfl,rfl⟩|⟨k',i',rfl,yL,rfl,tY⟩
    ·simp[Instr.sliceBounds]
    ·simp[Instr.sliceBounds,Instr.sliceBound,asIntOf,yL,tY]
   ·have qm:i<=c:=by omega
    rcases b2 with ⟨rfl,rfl⟩|⟨k',i',rfl,yL,rfl,tY⟩
    ·simp[Instr.sliceBounds,Instr.sliceBound,asIntOf,h0,qm]
    ·have ar0:i'<=i.toNat:=tY
     have e3:((i.toNat:Nat):Int)=i:=by omega
     have h2:i'<=i:=by omega
     simp[Instr.sliceBounds,Instr.sliceBound,asIntOf,h0,qm,yL,h2,e3]
  ·cases e
 ·cases e
theorem alr (hT:AQ P T) (ht:T t=some ti) {x y:AV}{v:Value}{lo hi:Option AV}{vlo td:Option Value} (hv:VR fm ts x v)
  (hl:∀ x,lo=some x->∃ v,vlo=some v/\VR fm ts x v) (zn:lo=none->vlo=none) (hh:∀ x,hi=some x->∃ v,td=some v/\VR fm ts x v) (zg:hi=none->td=none)
  (e:n7 ti x lo hi=some y):∃ u,(Instr.sliceAt t v vlo td none).run P w=.ok u w/\VR fm ts y u:=by
 unfold n7 at e
 split at e
 ·rename_i el hd
  obtain⟨hu,⟨inf,bd,ax,_,_⟩,_⟩:=hT.slice ht hd
  have run:∀ (p:Option Addr) (n cp l h:Nat),n<=cp->bounds n lo hi=some (l,h)->l<=h/\h<=n/\
    (Instr.sliceAt t (.slice p n cp) vlo td none).run P w=.ok (.slice (if cp=l then p else p.map (·.add (l*ti.el))) (h - l) (cp - l)) w:=by
   intro p n cp l h hn hb
   obtain⟨b1,b2,b3⟩:=ade (P:=P) (w:=w) (fm:=fm) (ts:=ts) cp true hn hl zn hh zg hb
   refine⟨b1,b2,?_⟩
   simp[Instr.sliceAt,run_underlying hu,Instr.slice,b3,sizeOf,typeInfo,bd,ax]
  split at e
  ·cases hv
   simp only[mS]at e
   obtain⟨⟨l,h⟩,hb,rfl⟩:=e
   obtain⟨b1,b2,b3⟩:=run none 0 0 l h (Be _) hb
   have lu:l=0:=by omega
   have dK:h=0:=by omega
   subst lu dK
   refine⟨_,b3,?_⟩
   simp
   exact .nil
  ·rename_i esz es
   split at e
   ·rename_i he
    simp only[mS]at e
    obtain⟨⟨l,h⟩,hb,rfl⟩:=e
    cases hv with
    |ck e0 p cap=>
     obtain⟨b1,b2,b3⟩:=run p 0 cap l h (Nat.zero_le _) hb
     refine⟨_,b3,?_⟩
     have dK:h - l=0:=by omega
     simp only[dK,List.take_zero,List.drop_nil]
     exact .ck _ _ _
    |sl es cb off esz cap u bX h1 h2 h3 h4=>
     ·obtain⟨b1,b2,b3⟩:=run (some ⟨cb,off,none⟩) es.length cap l h bX.1 hb
      refine⟨_,b3,?_⟩
      by_cases hhl:h - l=0
      ·simp only[hhl,List.take_zero]
       exact .ck _ _ _
      ·have bF:¬ cap=l:=by omega
       simp only[if_neg bF,A0,Addr.add_lit]
       have hlen:((es.drop l).take (h - l)).length=h - l:=by simp;omega
       have dS:∀ (i:Nat) c,((es.drop l).take (h - l))[i]?=some c->es[l+i]?=some c:=by
        intro i c hc
        rw[BS]at hc
        split at hc
        ·rw[Cg]at hc;exact hc
        ·cases hc
       have:=VR.sl (fm:=fm) (ts:=ts) ((es.drop l).take (h - l)) cb (off+l*esz) esz (cap - l) (fun i o=>u (l+i) o) (by rw[hlen];have:=bX.2;omega)
        (fun c hc=>h1 c (Cl (BZ hc)))
        (by
         intro i c o x hc ho
         have:=h2 (l+i) c o x (dS i c hc) ho
         have e0:off+((l+i)*esz+o)=off+l*esz+(i*esz+o):=by rw[Nat.add_mul];omega
         rwa [e0]at this)
        (fun i c o x hc ho=>h3 (l+i) c o x (dS i c hc) ho)
        (fun i c o x hc ho=>h4 (l+i) c o x (dS i c hc) ho)
       rw[hlen]at this
       rw[<-he]
       exact this
   ·cases e
  ·rename_i lv k esz i n g
   split at e
   ·rename_i he
    simp only[mS]at e
    obtain⟨⟨l,h⟩,hb,rfl⟩:=e
    cases hv with
    |cN _ _ _ _ _ _ p cp eD hn ha=>
     obtain⟨b1,b2,b3⟩:=run p n cp l h hn hb
     refine⟨_,b3,.cN lv k esz _ _ g _ _ eD (by omega) ?_⟩
     intro aee
     obtain⟨q,rfl⟩:=ha (by omega)
     split
     ·exact⟨_,rfl⟩
     ·exact⟨_,rfl⟩
    |cO _ _ _ _ _ _ p cp m' c eD ae hn ha=>
     obtain⟨b1,b2,b3⟩:=run p n cp l h hn hb
     refine⟨_,b3,.cO lv k esz _ _ g _ _ m' c eD ae (by omega) ?_⟩
     intro aee
     obtain⟨q,rfl⟩:=ha (by omega)
     split
     ·exact⟨_,rfl⟩
     ·exact⟨_,rfl⟩
    |cr _ _ _ a0 eD=>
     obtain⟨b1,b2,b3⟩:=run a0 0 0 l h (Be _) hb
     have lu:l=0:=by omega
     have dK:h=0:=by omega
     subst lu dK
     refine⟨_,b3,?_⟩
     simp
     exact .cr lv k esz _ eD
    |loc _ _ _ _ _ _ c cap cp p eD hn bM hc ha=>
     obtain⟨b1,b2,b3⟩:=run (some p) n cp l h bM hb
     by_cases bF:cp=l
     ·rw[if_pos bF]at b3
      refine⟨_,b3,.loc lv k esz (i+l) (h - l) g c cap (cp - l) p eD (by omega) (by omega) (by omega) ?_⟩
      intro hz
      rcases hz with hz|hz
      ·omega
      ·have qu:i=0:=by omega
       have lu:l=0:=by omega
       subst qu lu
       exact ha (.inr rfl)
     ·simp only[if_neg bF,A0]at b3
      have hp:=ha (.inl (by omega))
      subst hp
      refine⟨_,b3,?_⟩
      rw[Addr.add_lit,<-he,<-Nat.add_mul]
      exact .loc lv k esz (i+l) (h - l) g c cap (cp - l) _ eD (by omega) (by omega) (by omega) (fun _=>rfl)
   ·cases e
  ·cases e
 ·rename_i hd
  have hu:=hT.str ht hd
  split at e
  ·rename_i s
   cases hv
   simp only[mS]at e
   obtain⟨⟨l,h⟩,hb,rfl⟩:=e
   obtain⟨b1,b2,b3⟩:=ade (P:=P) (w:=w) (fm:=fm) (ts:=ts) s.size false (Be _) hl zn hh zg hb
   refine⟨_,?_,.str _⟩
   simp[Instr.sliceAt,run_underlying hu,Instr.slice,b3]
  ·cases e
 ·rename_i n el hd
  obtain⟨hu,⟨inf,bd,ax,_,_⟩,_⟩:=hT.array ht hd
  split at e
  ·rename_i lv k o
   simp only[mS]at e
   obtain⟨⟨l,h⟩,hb,rfl⟩:=e
   obtain⟨b1,b2,b3⟩:=ade (P:=P) (w:=w) (fm:=fm) (ts:=ts) n false (Be _) hl zn hh zg hb
   cases hv with
   |ptr _ _ _ c eD=>
    refine⟨.slice (some (if n=l then ⟨c,o,none⟩ else (⟨c,o,none⟩:Addr).add (l*ti.el))) (h - l) (n - l),?_,?_⟩
    ·simp[Instr.sliceAt,run_underlying hu,Instr.sureAddr,b3,sizeOf,typeInfo,bd,ax]
    ·refine .bG lv k ti.el _ (h - l) c (n - l) _ eD (by omega) ?_
     intro bj
     rw[if_neg (by omega),Addr.add_lit]
  ·cases e
 ·cases e
end
section
variable {P:Program}{T:AN}{N0:Nat}{W0:World}{fm:FM}{ts:List Al}{H:Heap}{w:World}{t:TypeId}{ti:TI}
theorem am3 (op:BinOp) (x y:Operand) {a b:Value} (h:∀ xs,a≠.agg xs) (h':a≠.nilIface):(eqGuard op t x y a b).run P w=.ok () w:=by
 cases op<;>cases a<;>cases b<;>simp_all [eqGuard]
theorem ac1 (x y:Int):(x==y)=decide (x=y):=by
 by_cases h:x=y<;>simp[h]
theorem ak0 {op:BinOp}{k k':IntKind}{x y:Int}{z:AV} (e:pN op (.int k x) (.int k' y)=some z):
  ∃ r,(binOp op t (.int k x) (.int k' y)).run P w=.ok r w/\VR fm ts z r:=by
 unfold pN at e
 simp only at e
 cases op
 case shl=>
  simp only at e
  split at e
  ·cases e
  ·rename_i hy
   simp only[oE]at e;subst e
   exact⟨.int k (k.wrap (x*2 ^ (min y.toNat k.bits))),by simp[binOp,Op.shift,hy],.int _ _⟩
 case shr=>
  simp only at e
  split at e
  ·cases e
  ·rename_i hy
   simp only[oE]at e;subst e
   exact⟨.int k (x.fdiv (2 ^ (min y.toNat k.bits))),by simp[binOp,Op.shift,hy],.int _ _⟩
 all_goals
  simp only at e
  split at e
  case isFalse=>cases e
 all_goals
  rename_i hk
  subst hk
 case add=>simp only[oE]at e;subst e;exact⟨.int k (k.wrap (x+y)),by simp[binOp,Op.intArith],.int _ _⟩
 case sub=>simp only[oE]at e;subst e;exact⟨.int k (k.wrap (x - y)),by simp[binOp,Op.intArith],.int _ _⟩
 case mul=>simp only[oE]at e;subst e;exact⟨.int k (k.wrap (x*y)),by simp[binOp,Op.intArith],.int _ _⟩
 case quo=>
  by_cases hy:y=0
  ·rw[if_pos hy]at e;cases e
  ·rw[if_neg hy]at e
   simp only[oE]at e;subst e
   exact⟨.int k (k.wrap (x.tdiv y)),by simp[binOp,Op.intDiv,hy],.int _ _⟩
 case rem=>
  by_cases hy:y=0
  ·rw[if_pos hy]at e;cases e
  ·rw[if_neg hy]at e
   simp only[oE]at e;subst e
   exact⟨.int k (x.tmod y),by simp[binOp,Op.intDiv,hy],.int _ _⟩
 case and=>simp only[oE]at e;subst e;exact⟨.int k (dW k x y),by unfold dW;simp only[binOp,Op.intBits];simp,.int _ _⟩
 case or=>simp only[oE]at e;subst e;exact⟨.int k (fZ k x y),by unfold fZ;simp only[binOp,Op.intBits];simp,.int _ _⟩
 case xor=>simp only[oE]at e;subst e;exact⟨.int k (acY k x y),by unfold acY;simp only[binOp,Op.intBits];simp,.int _ _⟩
 case eql=>simp only[oE]at e;subst e;exact⟨.bool (decide (x=y)),by simp[binOp,Op.intCmp,ac1],.bool _⟩
 case neq=>simp only[oE]at e;subst e;exact⟨.bool (!decide (x=y)),by simp[binOp,Op.intCmp,bne,ac1],.bool _⟩
 case lss=>simp only[oE]at e;subst e;exact⟨.bool (decide (x<y)),by simp[binOp,Op.intCmp],.bool _⟩
 case leq=>simp only[oE]at e;subst e;exact⟨.bool (decide (x<=y)),by simp[binOp,Op.intCmp],.bool _⟩
 case gtr=>simp only[oE]at e;subst e;exact⟨.bool (decide (y<x)),by simp[binOp,Op.intCmp],.bool _⟩
 case geq=>simp only[oE]at e;subst e;exact⟨.bool (decide (y<=x)),by simp[binOp,Op.intCmp],.bool _⟩
 all_goals cases e
theorem run_eql_bool (hu:P.underlying t=some .bool) (x y:Bool):(binOp .eql t (.bool x) (.bool y)).run P w=.ok (.bool (x==y)) w:=by
 simp only[binOp]
 simp[Op.equal,Op.maxDepth,run_equalIn_bool' w 9999 t x y hu]
theorem run_neq_bool (hu:P.underlying t=some .bool) (x y:Bool):(binOp .neq t (.bool x) (.bool y)).run P w=.ok (.bool (!(x==y))) w:=by
 simp only[binOp]
 simp[Op.equal,Op.maxDepth,run_equalIn_bool' w 9999 t x y hu]
theorem ak1 {op:BinOp}{x y z:AV}{v u:Value} (hd:∀ b,x=AV.bool b->P.underlying t=some .bool) (hv:VR fm ts x v) (hu:VR fm ts y u) (e:pN op x y=some z):
  ∃ r,(binOp op t v u).run P w=.ok r w/\VR fm ts z r/\(∀ xs,v≠.agg xs)/\v≠.nilIface:=by
 have e0:=e
 unfold pN at e
 split at e
 ·cases hv;cases hu
  obtain⟨r,h1,h2⟩:=ak0 (P:=P) (w:=w) (t:=t) (fm:=fm) (ts:=ts) e0
  exact⟨r,h1,h2,by simp,by simp⟩
 ·rename_i x y
  cases hv;cases hu
  have hb:=hd x rfl
  cases op
  case eql=>simp only[oE]at e;subst e;exact⟨_,run_eql_bool hb x y,.bool _,by simp,by simp⟩
  case neq=>simp only[oE]at e;subst e;exact⟨_,run_neq_bool hb x y,.bool _,by simp,by simp⟩
  all_goals simp at e
 ·rename_i x y
  cases hv;cases hu
  cases op
  case eql=>simp only[oE]at e;subst e;exact⟨.bool (x.toList==y.toList),by simp[binOp,Op.stringOp],.bool _,by simp,by simp⟩
  case neq=>simp only[oE]at e;subst e;exact⟨.bool (!(x.toList==y.toList)),by simp[binOp,Op.stringOp],.bool _,by simp,by simp⟩
  case add=>
   simp only at e
   split at e
   ·rename_i ae
    simp only[oE]at e;subst e
    refine⟨.string (x++y),?_,.str _,by simp,by simp⟩
    have hm:¬ (IntKind.i64.max<((x.size+y.size:Nat):Int)):=by simp[IntKind.max,IntKind.signed,IntKind.bits];omega
    simp only[binOp,Op.stringOp]
    rw[if_neg hm]
    simp
   ·cases e
  all_goals simp at e
 ·cases e
theorem Av.append {a b:List AV}{u v:List Value} (h:Av fm ts a u) (k:Av fm ts b v):Av fm ts (a++b) (u++v):=by
 refine⟨by simp[h.1,k.1],?_⟩
 intro i x y hx hy
 rw[List.getElem?_append]at hx hy
 split at hx
 ·rw[if_pos (by rw[<-h.1];assumption)]at hy
  exact h.2 i x y hx hy
 ·rw[if_neg (by rw[<-h.1];assumption)]at hy
  rw[<-h.1]at hy
  exact k.2 _ x y hx hy
theorem adE:∀ (n:Nat) (z x y:List AV) (r:Bool),bO z x y=some r->∃ r1 r2,bO (z.take n) (x.take n) (y.take n)=some r1/\bO (z.drop n) (x.drop n) (y.drop n)=some r2/\r=(r1&&r2)
 |0,z,x,y,r,h=>⟨true,r,by simp[bO],by simpa using h,by simp⟩
 |n+1,[],[],[],r,h=>⟨true,r,by simp[bO],by simpa using h,by simp⟩
 |n+1,z::zs,x::xs,y::ys,r,h=>by
  simp only[bO]at h
  split at h
  ·rename_i p q hp hq
   simp only[oE]at h;subst h
   obtain⟨r1,r2,h1,h2,rfl⟩:=adE n zs xs ys q hq
   exact⟨p&&r1,r2,by simp[bO,hp,h1],by simpa using h2,by rw[Bool.and_assoc]⟩
  ·cases h
 |_+1,[],_::_,_,_,h=>by simp[bO]at h
 |_+1,[],[],_::_,_,h=>by simp[bO]at h
 |_+1,_::_,[],_,_,h=>by simp[bO]at h
 |_+1,_::_,_::_,[],_,h=>by simp[bO]at h
theorem yx:∀ (z x y:List AV) (r:Bool),bO z x y=some r->x.length=z.length/\y.length=z.length
 |[],[],[],_,_=>⟨rfl,rfl⟩
 |z::zs,x::xs,y::ys,r,h=>by
  simp only[bO]at h
  split at h
  ·rename_i p q hp hq
   have:=yx zs xs ys q hq
   simp[this.1,this.2]
  ·cases h
 |[],_::_,_,_,h=>by simp[bO]at h
 |[],[],_::_,_,h=>by simp[bO]at h
 |_::_,[],_,_,h=>by simp[bO]at h
 |_::_,_::_,[],_,h=>by simp[bO]at h
theorem agV:∀ (z z' x y:List AV) (r:Bool),uS z z'=true->bO z' x y=some r->bO z x y=some r
 |[],[],x,y,r,_,h=>h
 |[],_::_,_,_,_,k,_=>by simp[uS]at k
 |_::_,[],_,_,_,k,_=>by simp[uS]at k
 |z::zs,z'::zs',x,y,r,k,h=>by
  cases x with
  |nil=>cases y<;>simp[bO]at h
  |cons x xs=>
   cases y with
   |nil=>simp[bO]at h
   |cons y ys=>
    simp only[bO]at h ⊢
    split at h
    ·rename_i p q hp hq
     simp only[uS,A1]at k
     have ih:=agV zs zs' xs ys q k.2 hq
     have h1:kt z x y=some p:=by
      have k1:=k.1
      unfold sameKind at k1
      split at k1
      ·cases x<;>cases y<;>first|(simp[kt]at hp;done)|simpa [kt] using hp
      ·cases x<;>cases y<;>first|(simp[kt]at hp;done)|simpa [kt] using hp
      ·cases x<;>cases y<;>first|(simp[kt]at hp;done)|simpa [kt] using hp
      ·cases k1
     rw[h1,ih]
     exact h
    ·cases h
def pO (agg:Bool) (vs:List Value):Value:=if agg then .agg vs.toArray else vs.headD undef
theorem ahB {P:Program}{f:Nat}:∀ (l:List Field) (acc zs:List AV),sN P (qW P f) acc l=some zs->acc <+: zs
 |[],acc,zs,h=>by simp only[sN,oE]at h;subst h;exact List.prefix_refl _
 |x::l,acc,zs,h=>by
  simp only[sN]at h
  split at h
  ·split at h
   ·exact(List.prefix_append _ _).trans (ahB l _ zs h)
   ·cases h
  ·cases h
theorem acg {P:Program}{w:World}{t:TypeId}{gE:TypeDesc}{inf:TypeInfo}{vs:List Value}{o n:Nat} (hu:P.underlying t=some gE) (hi:P.info? t=some inf) (hs:inf.size=n) (hle:o+n<=vs.length) (h1:fV gE=false->n=1):
  (part t vs.toArray o).run P w=.ok (pO (fV gE) ((vs.drop o).take n)) w:=by
 have:=aeS (P:=P) (w:=w) (cs:=vs.toArray) (o:=o) hu hi hs (by simpa using hle) h1
 simpa [pO] using this
theorem aiV {P:Program}{w:World}:∀ (f:Nat) (t:TypeId) (zs:List AV),qW P f t=some zs->∃ gE,P.underlying t=some gE/\(fV gE=false->zs.length=1)/\
  ∀ (d:Nat),f<=d->∀ (xs ys:List AV) (vs us:List Value) (r:Bool),Av fm ts xs vs->Av fm ts ys us->bO zs xs ys=some r->
   (Op.equalIn d t (pO (fV gE) vs) (pO (fV gE) us)).run P w=.ok r w
 |0,t,zs,h=>by simp[qW]at h
 |f+1,t,zs,h=>by
  have IH:=aiV (P:=P) (w:=w) f
  unfold qW at h
  have leaf:∀ (gE:TypeDesc) (z:AV),P.underlying t=some gE->fV gE=false->zs=[z]->
    (∀ d x y v u r,VR fm ts x v->VR fm ts y u->kt z x y=some r->(Op.equalIn (d+1) t v u).run P w=.ok r w)->∃ gE,P.underlying t=some gE/\(fV gE=false->zs.length=1)/\
  ∀ (d:Nat),f+1<=d->∀ (xs ys:List AV) (vs us:List Value) (r:Bool),Av fm ts xs vs->Av fm ts ys us->bO zs xs ys=some r->
   (Op.equalIn d t (pO (fV gE) vs) (pO (fV gE) us)).run P w=.ok r w:=by
   intro gE z hu ha hz bm
   refine⟨gE,hu,fun _=>by rw[hz];rfl,?_⟩
   intro d hd xs ys vs us r hv sm he
   obtain⟨d,rfl⟩:∃ k,d=k+1:=⟨d - 1,by omega⟩
   have hl:=yx _ _ _ _ he
   subst hz
   cases xs with
   |nil=>simp at hl
   |cons x xs=>
    cases xs with
    |cons _ _=>simp at hl
    |nil=>
     cases ys with
     |nil=>simp at hl
     |cons y ys=>
      cases ys with
      |cons _ _=>simp at hl
      |nil=>
       simp only[bO]at he
       split at he
       ·rename_i p q hp hq
        have hq:true=q:=by simpa [bO] using hq
        subst hq
        simp only[Bool.and_true,oE]at he;subst he
        have h1:=hv.1
        have h2:=sm.1
        cases vs with
        |nil=>simp at h1
        |cons v vs=>
         cases us with
         |nil=>simp at h2
         |cons u us=>
          rw[ha]
          exact bm d x y v u p (hv.2 0 x v rfl rfl) (sm.2 0 y u rfl rfl) hp
       ·cases he
  split at h
  ·rename_i k hu
   simp only[oE]at h
   refine leaf _ _ hu rfl h.symm ?_
   intro d x y v u r hv gp e
   unfold kt at e
   split at e
   ·cases hv;cases gp
    split at e
    ·rename_i hk;subst hk
     simp only[oE]at e;subst e
     rw[run_equalIn_int w d t _ _ _ _ hu,ac1]
    ·cases e
   ·rename_i heq;cases heq
   ·rename_i heq;cases heq
   ·cases e
  ·rename_i hu
   simp only[oE]at h
   refine leaf _ _ hu rfl h.symm ?_
   intro d x y v u r hv gp e
   unfold kt at e
   split at e
   ·rename_i heq;cases heq
   ·cases hv;cases gp
    simp only[oE]at e;subst e
    exact run_equalIn_bool' w d t _ _ hu
   ·rename_i heq;cases heq
   ·cases e
  ·rename_i hu
   simp only[oE]at h
   refine leaf _ _ hu rfl h.symm ?_
   intro d x y v u r hv gp e
   unfold kt at e
   split at e
   ·rename_i heq;cases heq
   ·rename_i heq;cases heq
   ·cases hv;cases gp
    simp only[oE]at e;subst e
    exact run_equalIn_string w d t _ _ hu
   ·cases e
  ·rename_i fs hu
   split at h
   ·rename_i fG
    refine⟨_,hu,fun h=>by simp[fV]at h,?_⟩
    intro d hd xs ys vs us r hv gp he
    obtain⟨d,rfl⟩:∃ k,d=k+1:=⟨d - 1,by omega⟩
    have hfo:P.fieldsOf t=fs:=by simp[Program.fieldsOf,hu]
    simp only[pO,fV,if_true]
    rw[run_equalIn_struct w d t _ _ (by rw[hfo];exact hu) fG,hfo]
    have loop:∀ (l:List Field) (acc zs:List AV),sN P (qW P f) acc l=some zs->∀ r,bO (zs.drop acc.length) (xs.drop acc.length) (ys.drop acc.length)=some r->xs.length=zs.length->ys.length=zs.length->
      (Op.eqFields d vs.toArray us.toArray l).run P w=.ok r w:=by
     intro l
     induction l with
     |nil=>
      intro acc zs hg r he gm jY
      simp only[sN,oE]at hg;subst hg
      simp only[List.drop_length]at he
      have e1:xs.drop acc.length=[]:=by simp[gm]
      have e2:ys.drop acc.length=[]:=by simp[jY]
      rw[e1,e2]at he
      simp only[bO,oE]at he;subst he
      simp[Op.eqFields]
     |cons x l ihl=>
      intro acc zs hg r he gm jY
      simp only[sN]at hg
      split at hg
      ·rename_i zl qH
       split at hg
       ·rename_i hc
        obtain⟨jB,zB,bd,bz⟩:=hc
        obtain⟨inf,bd⟩:=Option.isSome_iff_exists.1 bd
        have ax:inf.size=zl.length:=by rw[<-bz];simp[Program.cellsOf,bd]
        obtain⟨gE,mY,ly,hIH⟩:=IH x.type zl qH
        obtain⟨rest,abT⟩:=ahB l _ zs hg
        have hzd:zs.drop acc.length=zl++rest:=by rw[<-abT,Cu];simp
        have hlen:zs.length=acc.length+zl.length+rest.length:=by rw[<-abT];simp;omega
        obtain⟨r1,r2,h1,h2,rfl⟩:=adE zl.length _ _ _ _ he
        rw[hzd,List.take_left]at h1
        simp only[List.drop_drop]at h2
        have qA:=acg (w:=w) (vs:=vs) (o:=acc.length) mY bd ax (by rw[<-hv.1];omega) ly
        have zE:=acg (w:=w) (vs:=us) (o:=acc.length) mY bd ax (by rw[<-gp.1];omega) ly
        have hq:=hIH d (by omega) _ _ _ _ r1 (hv.cut acc.length zl.length) (gp.cut acc.length zl.length) h1
        have hn:=ihl (acc++zl) zs hg r2 (by simpa using h2) gm jY
        simp only[Op.eqFields,if_pos jB,Sem.run_bind,zB,qA,zE,hq,Result.andThen_ok]
        cases r1 with
        |true=>simpa using hn
        |false=>simp
       ·cases hg
      ·cases hg
    exact loop fs.toList [] zs h r (by simpa using he) (yx _ _ _ _ he).1 (yx _ _ _ _ he).2
   ·cases h
  ·rename_i n e hu
   split at h
   ·rename_i zl qH
    split at h
    ·rename_i hc
     obtain⟨bd,bz⟩:=hc
     obtain⟨inf,bd⟩:=Option.isSome_iff_exists.1 bd
     have ax:inf.size=zl.length:=by rw[<-bz];simp[Program.cellsOf,bd]
     simp only[oE]at h;subst h
     obtain⟨gE,mY,ly,hIH⟩:=IH e zl qH
     refine⟨_,hu,fun h=>by simp[fV]at h,?_⟩
     intro d hd xs ys vs us r hv gp he
     obtain⟨d,rfl⟩:∃ k,d=k+1:=⟨d - 1,by omega⟩
     simp only[pO,fV,if_true]
     rw[run_equalIn_array w d _ _ hu bd,bz]
     have hl:=yx _ _ _ _ he
     have dI:∀ m,(List.replicate m zl).flatten.length=m*zl.length:=by intro m;simp
     have ahM:∀ m k,k<=m->(List.replicate m zl).flatten.drop (k*zl.length)=(List.replicate (m - k) zl).flatten:=by
      intro m k hk
      have:List.replicate m zl=List.replicate k zl++List.replicate (m - k) zl:=by rw[List.replicate_append_replicate];congr 1;omega
      rw[this,List.flatten_append,List.drop_left' (dI k)]
     have loop:∀ (m k:Nat),k+m=n->∀ r,bO ((List.replicate n zl).flatten.drop (k*zl.length)) (xs.drop (k*zl.length)) (ys.drop (k*zl.length))=some r->
       (Op.eqItems d e zl.length vs.toArray us.toArray (List.range' k m)).run P w=.ok r w:=by
      intro m
      induction m with
      |zero=>
       intro k hk r he
       have:k=n:=by omega
       subst this
       have e1:xs.drop (k*zl.length)=[]:=by rw[List.drop_eq_nil_iff,hl.1,dI];omega
       have e2:ys.drop (k*zl.length)=[]:=by rw[List.drop_eq_nil_iff,hl.2,dI];omega
       rw[ahM k k (by omega),e1,e2]at he
       simp only[Nat.sub_self,List.replicate_zero,List.flatten_nil,bO,oE]at he;subst he
       simp[Op.eqItems]
      |succ m z6=>
       intro k hk r he
       obtain⟨r1,r2,h1,h2,rfl⟩:=adE zl.length _ _ _ _ he
       have zZ:((List.replicate n zl).flatten.drop (k*zl.length)).take zl.length=zl:=by
        rw[ahM n k (by omega),show n - k=(n - k - 1)+1 from by omega,List.replicate_succ,Cx,List.take_left]
       rw[zZ]at h1
       simp only[List.drop_drop]at h2
       have eC:k*zl.length+zl.length=(k+1)*zl.length:=by rw[Nat.add_mul];omega
       rw[eC]at h2
       have hbound:k*zl.length+zl.length<=n*zl.length:=by rw[eC];exact BW _ (by omega)
       have qA:=acg (w:=w) (vs:=vs) (o:=k*zl.length) mY bd ax (by rw[<-hv.1,hl.1,dI];exact hbound) ly
       have zE:=acg (w:=w) (vs:=us) (o:=k*zl.length) mY bd ax (by rw[<-gp.1,hl.2,dI];exact hbound) ly
       have hq:=hIH d (by omega) _ _ _ _ r1 (hv.cut _ zl.length) (gp.cut _ zl.length) h1
       have hn:=z6 (k+1) (by omega) r2 h2
       simp only[List.range'_succ,Op.eqItems,Sem.run_bind,qA,zE,hq,Result.andThen_ok]
       cases r1 with
       |true=>simpa using hn
       |false=>simp
     rw[List.range_eq_range']
     exact loop n 0 (by omega) r (by simpa using he)
    ·cases h
   ·cases h
  ·cases h
end
section
variable {P:Program}{T:AN}{N0:Nat}{W0:World}{fm:FM}{ts:List Al}{H:Heap}{w:World}{t:TypeId}{ti:TI}
theorem akZ (hT:AQ P T) (ht:T t=some ti) {op:BinOp}{x y z:AV}{v u:Value}{ox oy:Operand} (hv:VR fm ts x v) (hu:VR fm ts y u) (e:aa2 ti op x y=some z):
  ∃ r,(do eqGuard op t ox oy v u;binOp op t v u:Sem Value).run P w=.ok r w/\VR fm ts z r:=by
 have plain:∀ (hd:∀ b,x=AV.bool b->P.underlying t=some .bool) (e:pN op x y=some z),∃ r,(do eqGuard op t ox oy v u;binOp op t v u:Sem Value).run P w=.ok r w/\VR fm ts z r:=by
  intro hd e
  obtain⟨r,h1,h2,h3,h4⟩:=ak1 (P:=P) (w:=w) hd hv hu e
  refine⟨r,?_,h2⟩
  have:=am3 (P:=P) (w:=w) (t:=t) op ox oy (a:=v) (b:=u) h3 h4
  simp[this,h1]
 unfold aa2 at e
 split at e
 ·rename_i xs ys
  split at e
  ·rename_i hp
   obtain⟨vs,rfl,bo,hf⟩:=hv.mF
   obtain⟨us,rfl,o9,ze⟩:=hu.mF
   obtain⟨hg,l,hl,hk⟩:=(hT.ok ht).pl hp.1
   obtain⟨gE,hdu,ly,bm⟩:=aiV (P:=P) (w:=w) (fm:=fm) (ts:=ts) 20 t l hl
   have oD:∀ r,bO ti.zero xs ys=some r->(Op.equalIn 10000 t (.agg vs) (.agg us)).run P w=.ok r w:=by
    intro r he
    have h2:=agV l ti.zero xs ys r hk he
    have:=bm 10000 (by decide) xs ys vs.toList us.toList r bo o9 h2
    cases ha:fV gE with
    |true=>rw[ha]at this;simpa [pO] using this
    |false=>
     obtain⟨d',hd',gH⟩:=hT.agg ht
     rw[hdu]at hd';obtain rfl:=oi hd'
     rw[ha,hp.2]at gH;cases gH
   have wR:=run_eqGuard_agg (P:=P) w op t ox oy vs us hg
   cases op
   case eql=>
    simp only[mS]at e
    obtain⟨r,hr,rfl⟩:=e
    refine⟨.bool r,?_,.bool r⟩
    simp[wR,run_eql_struct,oD r hr]
   case neq=>
    simp only[mS]at e
    obtain⟨r,hr,rfl⟩:=e
    refine⟨.bool !r,?_,.bool _⟩
    simp[wR,run_neq_struct,oD r hr]
   all_goals cases e
  ·cases e
 ·rename_i x y
  split at e
  ·rename_i hd
   exact plain (fun _ _=>hT.bool ht hd) e
  ·cases e
 ·rename_i an1 aec
  refine plain (fun b hb=>?_) e
  subst hb
  cases y with
  |bool c=>exact absurd rfl (aec b c rfl)
  |_=>simp[pN]at e
theorem flat_get (sz:Nat):∀ (es:List (List AV)),dw es sz->∀ j,es.flatten[j]?=(es[j / sz]?).bind fun c=>c[j % sz]?
 |[],_,j=>by simp
 |c::es,h,j=>by
  have hc:c.length=sz:=h c List.mem_cons_self
  have ih:=flat_get sz es (fun d hd=>h d (List.mem_cons_of_mem _ hd))
  simp only[Cx]
  by_cases h0:sz=0
  ·subst h0
   have:c=[]:=List.eq_nil_of_length_eq_zero hc
   subst this
   have hi:=ih j
   simp only[Bt,hi,Nat.div_zero,Nat.mod_zero,BP,Ae,List.getElem?_nil]
   cases h1:es[0]? with
   |none=>rfl
   |some d=>
    have:d.length=0:=h d (List.mem_cons_of_mem _ (AU h1))
    have:d=[]:=List.eq_nil_of_length_eq_zero this
    subst this;simp
  ·have hp:0<sz:=Nat.pos_of_ne_zero h0
   by_cases hj:j<sz
   ·rw[Ct (by omega),Nat.div_eq_of_lt hj,Nat.mod_eq_of_lt hj];simp
   ·rw[CE (by omega),hc,ih (j - sz)]
    have h1:j / sz=(j - sz) / sz+1:=by
     rw[<-Nat.sub_add_cancel (Nat.le_of_not_lt hj),Nat.add_div_right _ hp];simp
    have h2:j % sz=(j - sz) % sz:=by
     rw[Nat.mod_eq_sub_mod (Nat.le_of_not_lt hj)]
    rw[h1,h2];simp
theorem ku (sz:Nat):∀ (es:List (List AV)),dw es sz->es.flatten.length=es.length*sz
 |[],_=>by simp
 |c::es,h=>by
  have hc:c.length=sz:=h c List.mem_cons_self
  have ih:=ku sz es (fun d hd=>h d (List.mem_cons_of_mem _ hd))
  simp only[Cx,A9,ih,hc,AA,Nat.add_mul];omega
mutual
theorem adO (G:AS):∀ (x y:AV),x.ai (fun _ _=>none)=some y->x.ai G=some y
 |.loc l k e i n g,y,h=>by simp[AV.ai]at h
 |.nil,y,h=>by simpa [AV.ai] using h
 |.bU t v,y,h=>by
  simp only[AV.ai,mS]at h ⊢
  obtain⟨a,h1,h2⟩:=h
  exact⟨a,adO G v a h1,h2⟩
 |.agg cs,y,h=>by
  simp only[AV.ai,mS]at h ⊢
  obtain⟨a,h1,h2⟩:=h
  exact⟨a,v8 G cs a h1,h2⟩
 |.ar vs,y,h=>by
  simp only[AV.ai,mS]at h ⊢
  obtain⟨a,h1,h2⟩:=h
  exact⟨a,v8 G vs a h1,h2⟩
 |.bool b,y,h=>by simpa [AV.ai] using h
 |.int k n,y,h=>by simpa [AV.ai] using h
 |.str s,y,h=>by simpa [AV.ai] using h
 |.sl e es,y,h=>by simpa [AV.ai] using h
 |.bH,y,h=>by simpa [AV.ai] using h
 |.bQ,y,h=>by simpa [AV.ai] using h
 |.bV,y,h=>by simpa [AV.ai] using h
 |.raw r_,y,h=>by simpa [AV.ai] using h
 |.fn f a b,y,h=>by
  simp only[AV.ai]at h ⊢
  split at h
  ·rename_i x z hx hz
   obtain rfl:=oi h
   simp only[v8 G a x hx,v8 G b z hz]
  ·cases h
 |.bG ..,y,h=>by simp[AV.ai]at h
 |.ptr ..,y,h=>by simp[AV.ai]at h
 |.bx ..,y,h=>by simp[AV.ai]at h
 |.aD ..,y,h=>by simpa [AV.ai] using h
 |.dead,y,h=>by simp[AV.ai]at h
theorem v8 (G:AS):∀ (l ys:List AV),AV.aG (fun _ _=>none) l=some ys->AV.aG G l=some ys
 |[],ys,h=>by simpa [AV.aG] using h
 |x::l,ys,h=>by
  simp only[AV.aG]at h
  split at h
  ·rename_i a b ha hb
   obtain rfl:=oi h
   simp only[AV.aG,adO G x a ha,v8 G l b hb]
  ·cases h
end
mutual
theorem adP:∀ (x y:AV),x.ai (fun _ _=>none)=some y->x.refs=[]
 |.loc l k e i n g,y,h=>by simp[AV.ai]at h
 |.nil,y,h=>rfl
 |.bU t v,y,h=>by
  simp only[AV.ai,mS]at h
  obtain⟨a,h1,h2⟩:=h
  simp only[AV.refs];exact adP v a h1
 |.agg cs,y,h=>by
  simp only[AV.ai,mS]at h
  obtain⟨a,h1,h2⟩:=h
  simp only[AV.refs];exact wa cs a h1
 |.ar vs,y,h=>by
  simp only[AV.ai,mS]at h
  obtain⟨a,h1,h2⟩:=h
  simp only[AV.refs];exact wa vs a h1
 |.bool b,y,h=>rfl
 |.int k n,y,h=>rfl
 |.str s,y,h=>rfl
 |.sl e es,y,h=>rfl
 |.bH,y,h=>rfl
 |.bQ,y,h=>rfl
 |.bV,y,h=>rfl
 |.raw r_,y,h=>rfl
 |.fn f a b,y,h=>by
  simp only[AV.ai]at h
  split at h
  ·rename_i x z hx hz
   simp only[AV.refs,wa a x hx,wa b z hz,List.append_nil]
  ·cases h
 |.bG ..,y,h=>rfl
 |.ptr ..,y,h=>rfl
 |.bx ..,y,h=>rfl
 |.aD ..,y,h=>rfl
 |.dead,y,h=>rfl
theorem wa:∀ (l ys:List AV),AV.aG (fun _ _=>none) l=some ys->AV.aO l=[]
 |[],ys,h=>rfl
 |x::l,ys,h=>by
  simp only[AV.aG]at h
  split at h
  ·rename_i a b ha hb
   simp only[AV.aO,adP x a ha,wa l b hb,List.append_nil]
  ·cases h
end
theorem abG (fm:FM) (w:World):gF fm w (behind ts H [])=fm:=by
 have hn:∀ b,¬ behind ts H [] b:=by
  rintro b ⟨l,k,ao,hm,_⟩
  cases hm
 unfold gF
 cases fm with
 |mk v t=>
  simp only[FM.mk.injEq]
  exact⟨by funext b o;rw[if_neg (hn b)],by funext b;rw[if_neg (hn b)]⟩
theorem HR.pQ (h:HR N0 W0 fm ts H w) {cs ys:List AV}{vs:List Value} (hv:Av fm ts cs vs) (e:AV.aG (fun _ _=>none) cs=some ys):Av fm [] ys vs:=by
 have:=h.aG [] hv (v8 H.get cs ys e) (by rw[wa cs ys e];simp)
 rwa [abG]at this
theorem BR.gB {N0:Nat}{g:Nat}{c:Option (Nat×Nat)}{et esz:Nat}{es:List (List AV)} (h:BR fm ts w N0 (some (.arr g c)) (.arr et esz es)):
  es.length=g/\(c=none->es=[])/\∀ b cap,c=some (b,cap)->Dm fm w et esz es b cap/\N0<=b:=by
 generalize jk:(some (TB.arr g c))=tt at h
 generalize hbb:AG.arr et esz es=bb at h
 cases h with
 |box=>cases jk
 |nil jQ aN=>
  simp only[oE,TB.arr.injEq]at jk
  obtain⟨rfl,rfl⟩:=jk
  simp only[AG.arr.injEq]at hbb
  obtain⟨rfl,rfl,rfl⟩:=hbb
  exact⟨rfl,fun _=>rfl,fun b cap h=>by cases h⟩
 |arr jQ aN es' c' vI hN hA=>
  simp only[oE,TB.arr.injEq]at jk
  obtain⟨rfl,rfl⟩:=jk
  simp only[AG.arr.injEq]at hbb
  obtain⟨rfl,rfl,rfl⟩:=hbb
  refine⟨rfl,⟨(by intro h;cases h),?_⟩⟩
  intro b cap h
  simp only[oE,Prod.mk.injEq]at h
  obtain⟨rfl,rfl⟩:=h
  exact⟨hA,hN⟩
theorem HR.elems (h:HR N0 W0 fm ts H w) {x:AV}{v:Value}{sz:Nat}{es:List (List AV)} (hv:VR fm ts x v) (e:jd H.get sz x=some es):
  ∃ a cp us,v=.slice a es.length cp/\dw es sz/\Av fm [] es.flatten us/\(∀ x∈es.flatten,x.flat=true)/\∀ j u,us[j]?=some u->∃ ad,a=some ad/\w.cell? (ad.add j)=some u:=by
 have fin:∀ (a:Option Addr) (cp:Nat) (u:Nat->Nat->Value),v=.slice a es.length cp->dw es sz->
   (∀ i c o x,es[i]?=some c->c[o]?=some x->∃ ad,a=some ad/\w.cell? (ad.add (i*sz+o))=some (u i o)/\x.flat=true/\VR fm [] x (u i o))->
   ∃ a cp us,v=.slice a es.length cp/\dw es sz/\Av fm [] es.flatten us/\(∀ x∈es.flatten,x.flat=true)/\∀ j u,us[j]?=some u->∃ ad,a=some ad/\w.cell? (ad.add j)=some u:=by
  intro a cp u hv ho hc
  have hlen:=ku sz es ho
  have iF:∀ j x,es.flatten[j]?=some x->∃ c,es[j / sz]?=some c/\c[j % sz]?=some x/\j / sz*sz+j % sz=j:=by
   intro j x hx
   rw[flat_get sz es ho,Option.bind_eq_some_iff]at hx
   obtain⟨c,h1,h2⟩:=hx
   exact⟨c,h1,h2,by rw[Nat.mul_comm];exact Nat.div_add_mod j sz⟩
  refine⟨a,cp,(List.range (es.length*sz)).map fun j=>u (j / sz) (j % sz),hv,ho,⟨by simp[hlen],?_⟩,?_,?_⟩
  ·intro j x v hx hv
   have hj:j<es.length*sz:=by rw[<-hlen];exact(gS.1 hx).1
   simp only[BA,List.getElem?_range hj,A0,oE]at hv
   subst hv
   obtain⟨c,h1,h2,_⟩:=iF j x hx
   obtain⟨_,_,_,_,h3⟩:=hc _ _ _ _ h1 h2
   exact h3
  ·intro x hx
   obtain⟨j,hj⟩:=BF.1 hx
   obtain⟨c,h1,h2,_⟩:=iF j x hj
   obtain⟨_,_,_,h3,_⟩:=hc _ _ _ _ h1 h2
   exact h3
  ·intro j v hv
   have hj:j<es.length*sz:=by have:=(gS.1 hv).1;simpa using this
   simp only[BA,List.getElem?_range hj,A0,oE]at hv
   subst hv
   have ae:j<es.flatten.length:=by omega
   obtain⟨c,h1,h2,h4⟩:=iF j _ (gG ae)
   obtain⟨ad,h5,h6,_,_⟩:=hc _ _ _ _ h1 h2
   rw[h4]at h6
   exact⟨ad,h5,h6⟩
 unfold jd at e
 split at e
 ·obtain rfl:=oi e
  cases hv
  exact fin none 0 (fun _ _=>undef) rfl (by intro c hc;cases hc) (by intro i c o x hi;simp at hi)
 ·rename_i esz yz
  split at e
  ·rename_i he
   subst he
   obtain rfl:=oi e
   cases hv with
   |ck _ a cap=>exact fin a cap (fun _ _=>undef) rfl (by intro c hc;cases hc) (by intro i c o x hi;simp at hi)
   |sl _ cb off _ cap u bX h1 h2 h3 h4=>
    refine fin (some ⟨cb,off,none⟩) cap u rfl h1 ?_
    intro i c o x a b
    refine⟨_,rfl,?_,h3 i c o x a b,h4 i c o x a b⟩
    rw[Addr.add_lit]
    exact h.bP _ _ _ (h2 i c o x a b).1
  ·cases e
 ·rename_i l k esz i n g
  split at e
  ·rename_i et aN yz hg
   split at e
   ·rename_i hh
    obtain⟨rfl,rfl,kD,bC⟩:=hh
    obtain rfl:=oi e
    have hb:=h.ao l k _ hg
    cases hv with
    |cN _ _ _ _ _ _ a cp ht=>rw[ht]at hb;cases hb
    |cO _ _ _ _ _ _ a cp m' c ht ae=>
     rw[ht]at hb
     have:=hb.gB.1
     omega
    |cr _ _ _ a0 ht=>
     rw[ht]at hb
     have:=hb.gB.2.1 rfl
     subst this
     exact fin a0 0 (fun _ _=>undef) (by simp) (by intro c hc;simp at hc) (by intro i c o x hi;simp at hi)
    |loc _ _ _ _ _ _ c cap cp a ht hn bM hc ha=>
      rw[ht]at hb
      obtain⟨hA,hN⟩:=hb.gB.2.2 c cap rfl
      obtain⟨cells,c1,c2,c3,c4,c5,c6,c7⟩:=hA
      have dS:∀ j,((yz.drop i).take n)[j]?=if j<n then yz[i+j]? else none:=by
       intro j;rw[BS];split
       ·rw[Cg]
       ·rfl
      have hl:((yz.drop i).take n).length=n:=by simp;omega
      refine fin (some a) cp (fun j o=>(cells[(i+j)*aN+o]?).getD default) (by rw[hl]) (fun d hd=>c5 d (Cl (BZ hd))) ?_
      intro j cc o x hj hx
      rw[dS]at hj
      split at hj
      ·rename_i hjn
       have bF:cc.length=aN:=c5 cc (AU hj)
       have ho:o<aN:=by rw[<-bF];exact(gS.1 hx).1
       have hi:i+j<yz.length:=(gS.1 hj).1
       have ae:(i+j)*aN+o<cells.size:=by
        rw[c2]
        have:(i+j+1)*aN<=cap*aN:=BW _ (by omega)
        rw[Nat.add_mul,Nat.one_mul]at this;omega
       have hv:=Bo ae
       have:=c7 (i+j) cc o x _ hj hx hv
       refine⟨a,rfl,?_,?_⟩
       ·rw[ha (.inl (by omega)),Addr.add_lit]
        simp only[World.cell?,c1,hv]
        have e2:i*aN+(j*aN+o)=(i+j)*aN+o:=by rw[Nat.add_mul];omega
        rw[e2,hv];simp
       ·rw[hv];exact this
      ·cases hj
   ·cases e
  ·cases e
 ·rename_i l k esz o n
  split at e
  ·rename_i cs hg
   split at e
   ·rename_i hh
    obtain⟨rfl,rfl,rfl,hle⟩:=hh
    simp only[mS]at e
    obtain⟨ys,hy,rfl⟩:=e
    have hb:=h.ao 0 k _ hg
    cases hv with
    |bG _ _ _ _ _ c cp a ht hn ha=>
     rw[ht]at hb
     cases hb with
     |box _ _ hN hB=>
      obtain⟨cells,et,c1,c2,c3⟩:=hB
      have gy:=lZ _ _ _ hy
      have jF:ys.length=n:=by rw[gy.1];simp;omega
      have hVR:Av fm ts ((cs.drop o).take n) ((List.range n).map fun j=>(cells[o+j]?).getD default):=by
       refine⟨by simp;omega,?_⟩
       intro j x v hx hv
       rw[BS]at hx
       split at hx
       ·rename_i hj
        rw[Cg]at hx
        simp only[BA,List.getElem?_range hj,A0,oE]at hv
        subst hv
        have ae:o+j<cells.size:=by omega
        rw[Bo ae]
        exact(c3 (o+j) x _ hx (Bo ae)).2
       ·cases hx
      have anP:=h.pQ hVR hy
      refine fin (some a) cp (fun i _=>(cells[o+i]?).getD default) (by simp[jF]) (by intro d hd;obtain⟨y,_,rfl⟩:=List.mem_map.1 hd;rfl) ?_
      intro i cc o' x hi hx
      simp only[BA,mS]at hi
      obtain⟨y,hyi,rfl⟩:=hi
      have bC:i<n:=by rw[<-jF];exact(gS.1 hyi).1
      cases o' with
      |succ o'=>simp at hx
      |zero=>
       simp only[BP,oE]at hx
       subst hx
       have ae:o+i<cells.size:=by omega
       have hv:=Bo ae
       refine⟨a,rfl,?_,?_,?_⟩
       ·rw[ha (by omega),Addr.add_lit]
        simp only[World.cell?,c1,Nat.mul_one,Nat.add_zero,hv]
        simp
       ·obtain⟨z,hz,nD⟩:=(show ∃ z,cs[o+i]?=some z/\z.ai (fun _ _=>none)=some y from by
         have zp:i<((cs.drop o).take n).length:=by simp;omega
         obtain⟨y',iL,hf⟩:=gy.2 i _ (gG zp)
         rw[hyi]at iL;obtain rfl:=oi iL
         refine⟨_,?_,hf⟩
         have:=gG zp
         rw[BS,if_pos bC,Cg]at this
         exact this)
        rw[abI nD]
        exact(c3 _ _ _ hz hv).1
       ·exact anP.2 i y _ hyi (by simp only[BA,List.getElem?_range bC,A0])
   ·cases e
  ·cases e
 ·cases e
end
section
variable {P:Program}{T:AN}{N0:Nat}{W0:World}{fm:FM}{ts:List Al}{H:Heap}{w:World}{t:TypeId}{ti:TI}
theorem als {op:UnOp}{x y:AV}{v:Value} (hv:VR fm ts x v) (e:aUn op x=some y):
  ∃ u,(Op.unary op v).run P w=.ok u w/\VR fm ts y u:=by
 unfold aUn at e
 split at e
 ·cases hv
  obtain rfl:=oi e
  exact⟨_,by simp[unary_neg,Op.intArith],.int _ _⟩
 ·cases hv
  obtain rfl:=oi e
  exact⟨_,by simp[unary_not],.bool _⟩
 ·cases e
theorem aqJ {x:AV}{v:Value}{n:Nat} (hv:VR fm ts x v) (e:acu x=some n):∃ a c,v=.slice a n c:=by
 unfold acu at e
 split at e<;>first|(obtain rfl:=oi e)|(cases e)
 ·cases hv;exact⟨_,_,rfl⟩
 ·cases hv<;>exact⟨_,_,rfl⟩
 ·cases hv<;>exact⟨_,_,rfl⟩
 ·cases hv;exact⟨_,_,rfl⟩
theorem ale (hT:AQ P T) (ht:T t=some ti) {x y:AV}{v:Value}{l:List TypeId}{ty:TypeId} (hv:VR fm ts x v) (e:aa8 ti x=some y):
  ∃ u,(Builtin.len_ (t::l).toArray ty #[v]).run P w=.ok u w/\VR fm ts y u:=by
 unfold aa8 at e
 split at e
 ·rename_i hd
  have hu:=hT.str ht hd
  split at e
  ·cases hv
   obtain rfl:=oi e
   exact⟨_,by simp[Builtin.len_,run_underlying hu,goInt],.int _ _⟩
  ·cases e
 ·rename_i n el hd
  obtain⟨hu,_⟩:=hT.array ht hd
  obtain rfl:=oi e
  exact⟨_,by simp[Builtin.len_,run_underlying hu,goInt],.int _ _⟩
 ·rename_i el hd
  obtain⟨hu,_⟩:=hT.slice ht hd
  simp only[mS]at e
  obtain⟨n,hn,rfl⟩:=e
  obtain⟨a,c,rfl⟩:=aqJ hv hn
  exact⟨_,by simp[Builtin.len_,run_underlying hu,goInt],.int _ _⟩
 ·cases e
theorem ao4 (k:IntKind) (x y:Int):(if y > x then y else x)=max x y:=by
 rw[Int.max_def];split<;>split<;>omega
theorem ao6 (k:IntKind) (x y:Int):(if y<x then y else x)=min x y:=by
 rw[Int.min_def];split<;>split<;>omega
theorem afO (mx:Bool):∀ (n:Nat) (xs:List AV) (x y:AV) (v:Value) (vs:List Value),xs.length=n->VR fm ts x v->Av fm ts xs vs->nk mx (x::xs)=some y->
  ∃ u,(vs.foldlM (if mx then Builtin.max2 else Builtin.min2) v).run P w=.ok u w/\VR fm ts y u
 |0,[],x,y,v,vs,_,hv,bo,e=>by
  have:vs=[]:=by have:=bo.1;cases vs with|nil=>rfl|cons=>simp at this
  subst this
  cases x<;>simp[nk]at e
  subst e
  exact⟨v,by simp,hv⟩
 |n+1,x2::xs,x,y,v,vs,hn,hv,bo,e=>by
  cases vs with
  |nil=>have:=bo.1;simp at this
  |cons v2 vs=>
   have h2:VR fm ts x2 v2:=bo.2 0 _ _ rfl rfl
   have hr:Av fm ts xs vs:=⟨by simpa using bo.1,fun i x v a b=>bo.2 (i+1) x v (by simpa using a) (by simpa using b)⟩
   cases x<;>try (simp[nk]at e;done)
   cases x2<;>try (simp[nk]at e;done)
   rename_i k a k' b
   rw[nk]at e
   split at e
   ·rename_i hk
    subst hk
    cases hv;cases h2
    obtain⟨u,h1,h2⟩:=afO mx n xs _ y (.int k (if mx then max a b else min a b)) vs (by simpa using hn) (.int _ _) hr e
    refine⟨u,?_,h2⟩
    cases mx with
    |true=>
     simp only[if_true]at h1 ⊢
     simp only[List.foldlM_cons,Sem.run_bind,Builtin.max2,Sem.run_pure,Result.andThen_ok,ao4 k,h1]
    |false=>
     simp only[C6,if_false]at h1 ⊢
     simp only[List.foldlM_cons,Sem.run_bind,Builtin.min2,Sem.run_pure,Result.andThen_ok,ao6 k,h1]
   ·cases e
theorem afP {mx:Bool}{xs:List AV}{y:AV}{vs:List Value}{l:Array TypeId}{ty:TypeId} (hv:Av fm ts xs vs) (e:nk mx xs=some y):
  ∃ u,((if mx then Builtin.max_ else Builtin.min_) l ty vs.toArray).run P w=.ok u w/\VR fm ts y u:=by
 cases xs with
 |nil=>simp[nk]at e
 |cons x xs=>
  cases vs with
  |nil=>have:=hv.1;simp at this
  |cons v vs=>
   have h2:VR fm ts x v:=hv.2 0 _ _ rfl rfl
   have hr:Av fm ts xs vs:=⟨by simpa using hv.1,fun i x v a b=>hv.2 (i+1) x v (by simpa using a) (by simpa using b)⟩
   obtain⟨u,h3,h4⟩:=afO (P:=P) (w:=w) mx xs.length xs x y v vs rfl h2 hr e
   refine⟨u,?_,h4⟩
   cases mx with
   |true=>simpa [Builtin.max_] using h3
   |false=>simpa [Builtin.min_] using h3
theorem VR.parts {x:AV}{v:Value}{vc:List AV} (hv:VR fm ts x v) (e:x.cells=some vc):Av fm ts vc v.cells.toList/\∀ y∈vc,y.flat=true:=by
 have one:∀ (x:AV) (v:Value),VR fm ts x v->x.flat=true->v.cells=#[v]->Av fm ts [x] v.cells.toList/\∀ y∈[x],y.flat=true:=by
  intro x v h hf hc
  rw[hc]
  refine⟨⟨rfl,?_⟩,by simpa using hf⟩
  intro i y u hy hu
  cases i with
  |zero=>simp at hy hu;subst hy hu;exact h
  |succ i=>simp at hy
 cases x with
 |agg cs=>
  simp only[AV.cells,oE]at e;subst e
  obtain⟨vs,rfl,h1,h2⟩:=hv.mF
  exact⟨h1,h2⟩
 |ar=>simp[AV.cells]at e
 |dead=>simp[AV.cells]at e
 |_=>
  simp only[AV.cells,oE]at e;subst e
  refine one _ _ hv rfl ?_
  cases hv<;>first|rfl|(rename_i h;cases v<;>first|rfl|cases h)
theorem qU {cs new:List AV}{vs nv:List Value}{o:Nat} (h:Av fm ts cs vs) (hn:Av fm ts new nv) (hle:o+new.length<=cs.length):
  Av fm ts (overwrite cs o new) (vs.take o++(nv++vs.drop (o+nv.length))):=by
 have hl:=h.1
 have zw:=hn.1
 refine⟨by simp[overwrite];omega,?_⟩
 intro i x v hx hv
 unfold overwrite at hx
 by_cases h1:i<o
 ·rw[Ct (by simp;omega),BS,if_pos h1]at hx hv
  exact h.2 i x v hx hv
 ·rw[CE (by simp;omega),Ba,Nat.min_eq_left (by omega)]at hx hv
  by_cases h2:i - o<new.length
  ·rw[Ct (by omega)]at hx hv
   exact hn.2 _ x v hx hv
  ·rw[CE (by omega),Cg]at hx hv
   rw[zw]at hx
   exact h.2 _ x v hx hv
theorem qV {cs new:List AV}{o:Nat} (h:∀ x∈cs,x.flat=true) (hn:∀ x∈new,x.flat=true):∀ x∈overwrite cs o new,x.flat=true:=by
 intro x hx
 unfold overwrite at hx
 simp only[Bb]at hx
 rcases hx with hx|hx|hx
 ·exact h x (BZ hx)
 ·exact hn x hx
 ·exact h x (Cl hx)
theorem apK {cs new:List AV}{o:Nat} (hle:o+new.length<=cs.length):(overwrite cs o new).length=cs.length:=by
 simp[overwrite];omega
theorem ahq (cells new:Array Value) (off:Nat) (hle:off+new.size<=cells.size):
  (new.zipIdx.foldl (fun cs (c,j)=>cs.setIfInBounds (off+j) c) cells).toList=cells.toList.take off++(new.toList++cells.toList.drop (off+new.toList.length)):=by
 have h:=Go.Great.foldl_set off new.toList 0 cells
 have e:new.zipIdx.foldl (fun cs (c,j)=>cs.setIfInBounds (off+j) c) cells=(new.toList.zipIdx 0).foldl (fun cs (x:Value×Nat)=>cs.setIfInBounds (off+x.2) x.1) cells:=by
  rw[<-Array.foldl_toList];simp
 rw[e]
 apply List.ext_getElem?
 intro k
 rw[Array.getElem?_toList,h.2 k]
 simp only[Nat.add_zero]
 have zw:new.toList.length=new.size:=by simp
 by_cases h1:k<off
 ·rw[if_neg (by omega),Ct (by simp;omega),BS,if_pos h1,Array.getElem?_toList]
 ·rw[CE (by simp;omega),Ba,Nat.min_eq_left (by simp;omega)]
  by_cases h2:k - off<new.toList.length
  ·rw[if_pos (by omega),Ct h2]
  ·rw[if_neg (by omega),CE (by omega),Cg,Array.getElem?_toList]
   congr 1;omega
def Ee (fm:FM) (ts:List Al):List (Nat×AV)->List (Nat×Value)->Prop
 |[],[]=>True
 |(i,x)::l,(j,v)::m=>i=j/\VR fm ts x v/\Ee fm ts l m
 |_,_=>False
theorem adH {fl place:Nat->Option (Nat×Nat)} (hp:∀ i x,fl i=some x->place i=some x):∀ (parts:List (Nat×AV)) (ps:List (Nat×Value)) (cs cs':List AV) (cells:Array Value),
  Ee fm ts parts ps->Av fm ts cs cells.toList->(∀ x∈cs,x.flat=true)->tR fl cs parts=some cs'->
  ∃ r,Instr.fill place cells ps=some r/\Av fm ts cs' r.toList/\∀ x∈cs',x.flat=true
 |[],[],cs,cs',cells,_,hv,hf,e=>by
  simp only[tR,oE]at e;subst e
  exact⟨cells,rfl,hv,hf⟩
 |[],_::_,_,_,_,h,_,_,_=>h.elim
 |(_,_)::_,[],_,_,_,h,_,_,_=>h.elim
 |(i,x)::l,(j,v)::m,cs,cs',cells,h,hv,hf,e=>by
  obtain⟨rfl,hx,hr⟩:=h
  simp only[tR]at e
  split at e
  ·cases e
  ·rename_i off size dI
   split at e
   ·rename_i vc pa
    split at e
    ·rename_i hle
     obtain⟨hl,hle⟩:=hle
     obtain⟨h1,h2⟩:=hx.parts pa
     have hs:v.cells.size=size:=by have:=h1.1;simp at this;omega
     have bF:cells.size=cs.length:=by have:=hv.1;simp at this;omega
     have ih:=adH hp l m (overwrite cs off vc) cs' (v.cells.zipIdx.foldl (fun cs (c,j)=>cs.setIfInBounds (off+j) c) cells) hr
      (by rw[ahq _ _ _ (by omega)];exact qU hv h1 (by omega)) (qV hf h2) e
     obtain⟨r,h3,h4⟩:=ih
     refine⟨r,?_,h4⟩
     simp only[Instr.fill,hp _ _ dI]
     rw[if_neg (by simp[hs];omega)]
     exact h3
    ·cases e
   ·cases e
theorem ahm:∀ (fs:List Field) (l:List (Nat×Nat×Bool)),ot P fs l=true->
  fs.mapM (fun f=>(P.info? f.type).map fun i=>(f.offset,i.size))=some (l.map fun x=>(x.1,x.2.1))
 |[],[],_=>rfl
 |[],_::_,h=>by simp[ot]at h
 |_::_,[],h=>by simp[ot]at h
 |f::fs,(o,s,a)::l,h=>by
  simp only[ot,A1,beq_iff_eq]at h
  obtain⟨⟨⟨⟨h1,h0⟩,h2⟩,h3⟩,h4⟩:=h
  have ih:=ahm fs l h4
  split at h2
  ·rename_i inf bd
   have hs:inf.size=s:=by simpa using h2
   simp[List.mapM_cons,bd,ih,h1,hs]
  ·cases h2
theorem ak2 (hT:AQ P T) (ht:T t=some ti) {parts:List (Nat×AV)}{ps:Array (Nat×Value)}{y:AV} (hp:Ee fm ts parts ps.toList) (e:aa3 ti parts=some y):
  ∃ u,(Instr.build t ps).run P w=.ok u w/\VR fm ts y u:=by
 obtain⟨i,hi,ax,_,z,hz,iM⟩:=(hT.ok ht).info
 have hzf:=(hT.ok ht).akP
 unfold aa3 at e
 split at e
 ·rename_i hd
  obtain⟨fs,hu,dI⟩:=hT.struct ht hd
  simp only[mS]at e
  obtain⟨cs,gh,rfl⟩:=e
  obtain⟨r,h1,h2,h3⟩:=adH (place:=((ti.fl.map fun x=>(x.1,x.2.1)).toArray[·]?)) (by
   intro i x h;simpa using h) parts ps.toList _ _ _ hp (iM fm ts) hzf gh
  refine⟨.agg r,run_build w t ps r ?_,.agg _ _ (by simpa using h2.1) h3 (fun i x v a b=>h2.2 i x v a (by simpa using b))⟩
  simp only[Program.built,hi,hu,hz,ahm _ _ dI]
  exact h1
 ·rename_i n el hd
  obtain⟨hu,⟨ie,hie,aoc,_⟩,_⟩:=hT.array ht hd
  simp only[mS]at e
  obtain⟨cs,gh,rfl⟩:=e
  obtain⟨r,h1,h2,h3⟩:=adH (place:=fun i=>some (i*ie.size,ie.size)) (by
   intro i x h;rw[aoc];exact h) parts ps.toList _ _ _ hp (iM fm ts) hzf gh
  refine⟨.agg r,run_build w t ps r ?_,.agg _ _ (by simpa using h2.1) h3 (fun i x v a b=>h2.2 i x v a (by simpa using b))⟩
  simp only[Program.built,hi,hu,hz,hie]
  exact h1
 ·cases e
theorem agn:∀ (es:List (List AV)) (l:List UInt8) (us:List Value),bytesOf es=some l->Av fm ts es.flatten us->
  ∃ ns:List Int,us=ns.map (Value.int .u8)/\l=ns.map fun n=>UInt8.ofNat n.toNat
 |[],l,us,h,hv=>by
  simp only[bytesOf,oE]at h;subst h
  have:us=[]:=by have:=hv.1;cases us with|nil=>rfl|cons=>simp at this
  subst this
  exact⟨[],rfl,rfl⟩
 |c::es,l,us,h,hv=>by
  simp only[bytesOf]at h
  split at h
  ·rename_i b l' hb hl
   obtain rfl:=oi h
   unfold byteOf at hb
   split at hb
   ·rename_i n
    obtain rfl:=oi hb
    cases us with
    |nil=>have:=hv.1;simp at this
    |cons u us=>
     have h1:VR fm ts (.int .u8 n) u:=hv.2 0 _ _ rfl rfl
     cases h1
     obtain⟨ns,h2,h3⟩:=agn es l' us hl ⟨by simpa using hv.1,fun i x v a b=>hv.2 (i+1) x v (by simpa using a) (by simpa using b)⟩
     exact⟨n::ns,by simp[h2],by simp[h3]⟩
   ·cases hb
  ·cases h
theorem aho:∀ (ns:List Int) (s:ByteArray),ns.foldl (fun r n=>r.push (UInt8.ofNat n.toNat)) s=⟨s.data++(ns.map fun n=>UInt8.ofNat n.toNat).toArray⟩
 |[],s=>by simp
 |n::ns,s=>by
  rw[List.foldl_cons,aho ns]
  simp[ByteArray.push]
theorem ak8 (hT:AQ P T) {src dst:TypeId}{si di:TI} (hs:T src=some si) (hd:T dst=some di) (h:HR N0 W0 fm ts H w) {x y:AV}{v:Value} (hv:VR fm ts x v) (e:la T H.get si di x=some y):
  ∃ u,(convert src dst v).run P w=.ok u w/\VR fm ts y u:=by
 unfold la at e
 split at e
 ·rename_i k hk
  have hu:=hT.int hd hk
  split at e
  ·rename_i k' k'' n fh
   have sm:=hT.int hs fh
   cases hv
   obtain rfl:=oi e
   exact⟨_,by simp[convert,run_underlying hu,run_underlying sm,Conv.intToInt],.int _ _⟩
  ·cases e
 ·rename_i hk
  have hu:=hT.str hd hk
  split at e
  ·rename_i fh
   have sm:=hT.str hs fh
   split at e
   ·cases hv
    obtain rfl:=oi e
    exact⟨_,by simp[convert,run_underlying hu,run_underlying sm],.str _⟩
   ·cases e
  ·rename_i el fh
   obtain⟨sm,gj⟩:=hT.slice hs fh
   split at e
   ·rename_i ti hti
    split at e
    ·rename_i hb
     have hue:=hT.int hti hb
     split at e
     ·rename_i h1
      simp only[Option.bind_eq_some_iff,mS]at e
      obtain⟨es,oM,l,hl,rfl⟩:=e
      obtain⟨a,cp,us,rfl,ho,bo,_,bz⟩:=h.elems hv oM
      obtain⟨ns,rfl,rfl⟩:=agn _ _ _ hl bo
      have hlen:es.length=ns.length:=by
       have h1:=ku 1 es ho
       have h2:=bo.1
       simp at h2 h1;omega
      have hr:∀ a cp,(∀ j u,(ns.map (Value.int .u8))[j]?=some u->∃ ad,a=some ad/\w.cell? (ad.add j)=some u)->(Conv.bytesToString (.slice a es.length cp)).run P w=.ok (.string ⟨(ns.map fun n=>UInt8.ofNat n.toNat).toArray⟩) w:=by
       intro a cp bz
       cases a with
       |none=>
        cases ns with
        |nil=>simp[Conv.bytesToString];rfl
        |cons n ns=>obtain⟨_,h,_⟩:=bz 0 _ rfl;cases h
       |some ad=>
        have hc:∀ j u,(ns.map (Value.int .u8))[j]?=some u->w.cell? (ad.add j)=some u:=by
         intro j u hu;obtain⟨_,h,h2⟩:=bz j u hu;cases h;exact h2
        have:=run_loadCells_list (P:=P) w ad _ hc
        rw[run_bytesToString w ad es.length cp ns (by rw[hlen];simpa using this),aho]
        simp
      exact⟨_,by rw[run_convert_bytes_string w src dst el _ _ _ sm hue hu];exact hr _ _ bz,.str _⟩
     ·cases e
    ·cases e
   ·cases e
  ·cases e
 ·cases e
end
theorem sX {ts:List Al}:∀ {l k:Nat}{x:TB},tb ts l k=some x->cL ts l k x=ts:=by
 induction ts with
 |nil=>intro l k x h;rfl
 |cons t ts ih=>
  intro l k x h
  cases l with
  |zero=>
   simp only[cL,List.cons.injEq,and_true]
   funext j
   split
   ·rename_i e;subst e;exact h.symm
   ·rfl
  |succ l=>simp only[cL];rw[ih h]
theorem anf {sz:Nat}{es:List (List AV)} (ho:dw es sz) {i o:Nat}{c:List AV}{x:AV} (h1:es[i]?=some c) (h2:c[o]?=some x):es.flatten[i*sz+o]?=some x:=by
 have hc:c.length=sz:=ho c (AU h1)
 have ae:o<sz:=by rw[<-hc];exact(gS.1 h2).1
 have hp:0<sz:=by omega
 rw[flat_get sz es ho,Nat.mul_comm,Nat.mul_add_div hp,Nat.div_eq_of_lt ae,Nat.mul_add_mod,Nat.mod_eq_of_lt ae]
 simp[h1,h2]
section
variable {P:Program}{T:AN}{N0:Nat}{W0:World}{fm:FM}{ts:List Al}{H:Heap}{w:World}{t:TypeId}{ti:TI}
theorem Dm.flat {et esz:Nat}{es:List (List AV)}{c cap:Nat} (h:Dm fm w et esz es c cap):
  ∃ cells,w.heap[c]?=some (.cells cells et (0,0))/\cells.size=cap*esz/\es.length<=cap/\cap<=maxLen/\dw es esz/\0<esz/\
   Av fm [] es.flatten (cells.toList.take (es.length*esz))/\∀ x∈es.flatten,x.flat=true:=by
 obtain⟨cells,c1,c2,c3,c4,c5,c6,c7⟩:=h
 have hlen:=ku esz es c5
 have hle:es.length*esz<=cells.size:=by rw[c2];exact BW _ c3
 have iF:∀ (j:Nat) (x:AV),es.flatten[j]?=some x->∃ v,cells[j]?=some v/\x.flat=true/\VR fm [] x v:=by
  intro j x hx
  have hj:j<cells.size:=by have:=(gS.1 hx).1;omega
  have iy:=hx
  rw[flat_get esz es c5,Option.bind_eq_some_iff]at iy
  obtain⟨cc,h1,h2⟩:=iy
  have e:j / esz*esz+j % esz=j:=by rw[Nat.mul_comm];exact Nat.div_add_mod j esz
  have hv:=Bo hj
  exact⟨_,hv,c7 _ cc _ x _ h1 h2 (by rw[e];exact hv)⟩
 refine⟨cells,c1,c2,c3,c4,c5,c6,⟨by simp[hlen];omega,?_⟩,?_⟩
 ·intro j x v hx hv
  obtain⟨u,h1,_,h2⟩:=iF j x hx
  rw[BS]at hv
  split at hv
  ·rw[Array.getElem?_toList,h1]at hv;obtain rfl:=oi hv;exact h2
  ·cases hv
 ·intro x hx
  obtain⟨j,hj⟩:=BF.1 hx
  obtain⟨_,_,h1,_⟩:=iF j x hj
  exact h1
theorem Dm.of {et esz:Nat}{es:List (List AV)}{c cap:Nat}{cells:Array Value}{us rest:List Value} (c1:w.heap[c]?=some (.cells cells et (0,0))) (c2:cells.size=cap*esz) (c3:es.length<=cap) (c4:cap<=maxLen)
  (c5:dw es esz) (c6:0<esz) (hv:Av fm [] es.flatten us) (hf:∀ x∈es.flatten,x.flat=true) (hc:cells.toList=us++rest):Dm fm w et esz es c cap:=by
 refine⟨cells,c1,c2,c3,c4,c5,c6,?_⟩
 intro i cc o x v h1 h2 h3
 have hx:=anf c5 h1 h2
 refine⟨hf x (AU hx),hv.2 _ x v hx ?_⟩
 have ae:i*esz+o<us.length:=by rw[<-hv.1];exact(gS.1 hx).1
 rw[<-Array.getElem?_toList,hc,Ct ae]at h3
 exact h3
theorem ac0 {B:Nat} (w:World) (g:Nat) (cs:Array Value) (h:B<=g):Below B w (w.setRow g cs):=
 ⟨rfl,rfl,rfl,by simp,fun k hk=>setRow_other w g k cs (by omega)⟩
theorem HR.aiH (h:HR N0 W0 fm ts H w) {c:Nat} (hc:w.heap.size<=c) (o:Nat):fm c o=none:=by
 cases hf:fm c o with
 |none=>rfl
 |some v=>have:=World.block_lt_of_cell? w _ (h.bP _ _ _ hf);simp at this;omega
theorem HR.acq (h:HR N0 W0 fm ts H w) {l k c:Nat}{cs cs':List AV}{vs':List Value} (hg:H.get l k=some (.box cs)) (ht:tb ts l k=some (.box c))
  (hv:Av fm (ts.drop l) cs' vs') (hf:∀ x∈cs',x.flat=true):HR N0 W0 fm ts (H.put l k (some (.box cs'))) (w.setRow c vs'.toArray):=by
 have hb:=h.ao l k _ hg
 rw[ht]at hb
 cases hb with
 |box _ _ hN hB=>
  obtain⟨cells,et,c1,c2,c3⟩:=hB
  have:=h.uX (w':=w.setRow c vs'.toArray) (l:=l) (k:=k) (c:=c) (x:=.box c) (b:=.box cs') (Heap.rL H _ _ _ hg) rfl (fun i hi _=>setRow_other w c i _ hi) (ac0 w c _ hN) (fun o ho=>by rw[c1]at ho;cases ho;rfl) (by rw[ht];exact Bi.refl _)
   (fun l' k' b' g' t'=>by
    have:=h.inj l' k' l k b' _ c g' hg t' (by rw[ht];rfl)
    exact this) (fun o=>h.df l k _ c o hg (by rw[ht];rfl)) (by
    rw[sX ht]
    refine .box c cs' hN ⟨_,et,setRow_heap w c cells _ et _ c1,by simp[hv.1],?_⟩
    intro o x v a b
    exact⟨hf x (AU a),hv.2 o x v a (by simpa using b)⟩)
  rwa [sX ht]at this
theorem HR.xD (h:HR N0 W0 fm ts H w) {l k g c cap et esz:Nat}{es es':List (List AV)}{vs' us rest:List Value} (hg:H.get l k=some (.arr et esz es)) (ht:tb ts l k=some (.arr g (some (c,cap))))
  (hgl:es.length<=es'.length) (bX:es'.length<=cap) (ho:dw es' esz) (ax:vs'.length=cap*esz)
  (hv:Av fm [] es'.flatten us) (hf:∀ x∈es'.flatten,x.flat=true) (hc:vs'=us++rest):
  HR N0 W0 fm (cL ts l k (.arr es'.length (some (c,cap)))) (H.put l k (some (.arr et esz es'))) (w.setRow c vs'.toArray):=by
 have hb:=h.ao l k _ hg
 rw[ht]at hb
 obtain⟨kD,_,hA⟩:=hb.gB
 obtain⟨hA,hN⟩:=hA c cap rfl
 obtain⟨cells,c1,c2,c3,c4,c5,c6,_⟩:=hA
 refine h.uX (w':=w.setRow c vs'.toArray) (c:=c) (Heap.rL H _ _ _ hg) rfl (fun i hi _=>setRow_other w c i _ hi) (ac0 w c _ hN) (fun o ho=>by rw[c1]at ho;cases ho;rfl) ?_
   (fun l' k' b' g' t'=>h.inj l' k' l k b' _ c g' hg t' (by rw[ht];rfl)) (fun o=>h.df l k _ c o hg (by rw[ht];rfl)) ?_
 ·rw[ht]
  by_cases he:g=es'.length
  ·subst he;exact Bi.refl _
  ·exact .inr (.inr ⟨_,_,rfl,by omega⟩)
 ·exact .arr et esz es' c cap hN (.of (setRow_heap w c cells _ et _ c1) (by simpa using ax) bX c4 ho c6 hv hf (by simpa using hc))
theorem HR.xn (h:HR N0 W0 fm ts H w) {l k cap et esz:Nat}{es:List (List AV)}{cells:Array Value}{us rest:List Value} (hl:l<H.length)
  (hle:Bi (tb ts l k) (some (.arr es.length (some (w.heap.size,cap))))) (c2:cells.size=cap*esz) (c3:es.length<=cap) (c4:cap<=maxLen) (c5:dw es esz) (c6:0<esz)
  (hv:Av fm [] es.flatten us) (hf:∀ x∈es.flatten,x.flat=true) (hc:cells.toList=us++rest):
  HR N0 W0 fm (cL ts l k (.arr es.length (some (w.heap.size,cap)))) (H.put l k (some (.arr et esz es))) (w.alloc (.cells cells et)):=
 h.uX (c:=w.heap.size) hl rfl (fun i _ hi=>heap_alloc_old w _ i hi) ((Below.refl N0 w).alloc h.size _) (fun o ho=>by simp at ho) hle
  (fun l' k' b' g' t'=>by have:=((h.ao l' k' b' g').lt t').1;omega) (h.aiH (Be _))
  (.arr et esz es w.heap.size cap h.size (.of (heap_alloc_new w _) c2 c3 c4 c5 c6 hv hf hc))
theorem acJ:∀ (sc:List (Nat×TypeId×Nat)) (cs:List AV) (vs:List Value) (kb:Nat) (ts:List Al) (H:Heap),HR N0 W0 fm ts H w->0<H.length->(∀ k,kb<=k->k<kb+sc.length->tb ts 0 k=none)->
  Av fm ts cs vs->(∀ x∈cs,x.flat=true)->
  ∃ ts',HR N0 W0 fm ts' (H.bN (kf cs kb sc).2) w/\Av fm ts' (kf cs kb sc).1 vs/\(∀ x∈(kf cs kb sc).1,x.flat=true)/\As ts ts'/\
   (∀ l k,(l≠0\/k<kb\/kb+sc.length<=k)->tb ts' l k=tb ts l k)/\(∀ l k,(l≠0\/k<kb\/kb+sc.length<=k)->(H.bN (kf cs kb sc).2).get l k=H.get l k)
 |[],cs,vs,kb,ts,H,h,_,_,hv,hf=>⟨ts,h,hv,hf,As.refl _,fun _ _ _=>rfl,fun _ _ _=>rfl⟩
 |(o,e,s)::r,cs,vs,kb,ts,H,h,hH,hk,hv,hf=>by
  unfold kf
  split
  ·rename_i ho
   have gk:tb ts 0 kb=none:=hk kb (Be _) (by simp)
   have h1:=h.empty e s gk hH
   have ae:0<ts.length:=by rw[h.len];exact hH
   have uA:As ts (cL ts 0 kb (.arr 0 none)):=As.set (by rw[gk];trivial)
   have sq:Av fm (cL ts 0 kb (.arr 0 none)) (cs.set o (.loc 0 kb s 0 0 0)) vs:=by
    refine⟨by simp[hv.1],?_⟩
    intro i x v hx hvv
    rw[List.getElem?_set]at hx
    split at hx
    ·rename_i he
     subst he
     split at hx
     ·obtain rfl:=oi hx
      have:=hv.2 o _ v ho hvv
      cases this
      exact .cr 0 kb s _ (by rw[eb,if_pos ⟨rfl,rfl,ae⟩])
     ·cases hx
    ·exact(hv.2 i x v hx hvv).mono (AY.refl _) uA
   have hf1:∀ x∈cs.set o (.loc 0 kb s 0 0 0),x.flat=true:=by
    intro x hx
    rcases List.mem_or_eq_of_mem_set hx with hx|rfl
    ·exact hf x hx
    ·rfl
   obtain⟨ts',a1,a2,a3,a4,a5,a6⟩:=acJ r _ vs (kb+1) _ _ h1 (by simpa using hH) (by
    intro k h1 h2
    rw[eb,if_neg (by omega)]
    exact hk k (by omega) (by simp;omega)) sq hf1
   refine⟨ts',a1,a2,a3,uA.trans a4,?_,?_⟩
   ·intro l k nG
    simp only[AA]at nG
    rw[a5 l k (by omega),eb,if_neg (by simp only[AA]at *;omega)]
   ·intro l k nG
    simp only[AA]at nG
    simp only[Heap.bN]
    rw[a6 l k (by omega),Heap.oA,if_neg (by omega)]
  ·obtain⟨ts',a1,a2,a3,a4,a5,a6⟩:=acJ r cs vs kb ts H h hH (fun k h1 h2=>hk k h1 (by simp;omega)) hv hf
   refine⟨ts',a1,a2,a3,a4,?_,?_⟩
   ·intro l k nG
    simp only[AA]at nG
    exact a5 l k (by omega)
   ·intro l k nG
    simp only[AA]at nG
    exact a6 l k (by omega)
theorem aiB (hT:AQ P T) (ht:T t=some ti) (h:HR N0 W0 fm ts H w) (hH:0<H.length) {kb:Nat} (hk:∀ k,kb<=k->k<kb+16->tb ts 0 k=none) {cs:List AV}{v:Value}{d:De} (et:TypeId)
  (hv:Av fm ts cs v.cells.toList) (hf:∀ x∈cs,x.flat=true) (e:aah kb ti cs=some d) {r:Result Next} (hr:r=.ok (.value (.pointer (some ⟨w.heap.size,0,none⟩))) (w.alloc (.cells v.cells et))):
  BO N0 W0 fm ts H w kb r d:=by
 unfold aah at e
 split at e
 ·obtain rfl:=oi e
  have hsc:=(hT.ok ht).sc
  obtain⟨ts',a1,a2,a3,a4,a5,a6⟩:=acJ ti.sc cs _ (kb+1) ts H h hH (fun k h1 h2=>hk k (by omega) (by omega)) hv hf
  have fh:tb ts' 0 kb=none:=by rw[a5 0 kb (by omega)];exact hk kb (Be _) (by omega)
  have ae:0<ts'.length:=by rw[a1.len];simpa using hH
  have hle:As ts' (cL ts' 0 kb (.box w.heap.size)):=As.set (by rw[fh];trivial)
  have h2:=a1.fresh (cells:=v.cells) (et:=et) (k:=kb) (x:=.box w.heap.size) (b:=.box (kf cs (kb+1) ti.sc).1) (by simpa using hH) fh rfl (by
   refine .box _ _ h.size ⟨_,et,heap_alloc_new w _,by have:=a2.1;simp at this;omega,?_⟩
   intro o x u hx hu
   exact⟨a3 x (AU hx),(a2.2 o x u hx (by simpa using hu)).mono (AY.refl _) hle⟩)
  refine⟨fm,_,_,_,.inl hr,?_,?_,AM.refl _ _,a4.trans hle,?_⟩
  ·simp only[Heap.pr,Heap.bN]
   exact h2
  ·exact .ptr 0 kb 0 _ (by rw[eb,if_pos ⟨rfl,rfl,ae⟩])
  ·intro l k eC aJ
   rw[eb,if_neg (by omega),a5 l k (by omega)]
   exact aJ
 ·cases e
theorem afV (h:HR N0 W0 fm ts H w) (hH:0<H.length) {kb:Nat} (hk:∀ k,kb<=k->k<kb+16->tb ts 0 k=none) (e s:Nat) {r:Result Next} (hr:r=.ok (.value (.slice none 0 0)) w):
  BO N0 W0 fm ts H w kb r ⟨.loc 0 kb s 0 0 0,[(0,kb,some (.arr e s []))]⟩:=by
 have gk:=hk kb (Be _) (by omega)
 have ae:0<ts.length:=by rw[h.len];exact hH
 refine⟨fm,_,w,_,.inl hr,h.empty e s gk hH,.cr 0 kb s _ (by rw[eb,if_pos ⟨rfl,rfl,ae⟩]),AM.refl _ _,As.set (by rw[gk];trivial),?_⟩
 intro l k eC aJ
 rw[eb,if_neg (by omega)]
 exact aJ
theorem adA (h:HR N0 W0 fm ts H w) (hH:0<H.length) {kb:Nat} (hk:∀ k,kb<=k->k<kb+16->tb ts 0 k=none) (e s:Nat) {a:Option Addr}{r:Result Next} (hr:r=.ok (.value (.slice a 0 0)) w):
  BO N0 W0 fm ts H w kb r ⟨.loc 0 kb s 0 0 0,[(0,kb,some (.arr e s []))]⟩:=by
 have gk:=hk kb (Be _) (by omega)
 have ae:0<ts.length:=by rw[h.len];exact hH
 refine⟨fm,_,w,_,.inl hr,h.empty e s gk hH,.cr 0 kb s _ (by rw[eb,if_pos ⟨rfl,rfl,ae⟩]),AM.refl _ _,As.set (by rw[gk];trivial),?_⟩
 intro l k eC aJ
 rw[eb,if_neg (by omega)]
 exact aJ
theorem amS (hT:AQ P T) (ht:T t=some ti) (h:HR N0 W0 fm ts H w) (hH:0<H.length) {kb:Nat} (hk:∀ k,kb<=k->k<kb+16->tb ts 0 k=none) {x:AV}{v v0 v1 v2:Value}{k1 k2:IntKind}{d:De}
  (hv:VR fm ts x v) (sq:VR fm ts (.int k1 0) v1) (zU:VR fm ts (.int k2 0) v2) (e:aby kb ti x=some d) {r:Result Next} (hr:∀ v w',(Instr.sliceAt t v0 none (some v1) (some v2)).run P w=.ok v w'->r=.ok (.value v) w') (h0:v0=v):BO N0 W0 fm ts H w kb r d:=by
 subst h0
 unfold aby at e
 split at e
 ·rename_i el hd
  obtain⟨bZ,⟨inf,bd,ax,_,_⟩,_⟩:=hT.slice ht hd
  cases sq
  cases zU
  have run:∀ (p:Option Addr) (n cp:Nat),(Instr.sliceAt t (.slice p n cp) none (some (.int k1 0)) (some (.int k2 0))).run P w=.ok (.slice p 0 0) w:=by
   intro p n cp
   simp[Instr.sliceAt,run_underlying bZ,Instr.slice,Instr.sliceBounds,Instr.sliceBound,asIntOf,sizeOf,typeInfo,bd,ax]
  split at e
  ·cases hv
   obtain rfl:=oi e
   exact adA h hH hk _ _ (hr _ _ (run _ _ _))
  ·obtain rfl:=oi e
   cases hv<;>exact adA h hH hk _ _ (hr _ _ (run _ _ _))
  ·obtain rfl:=oi e
   cases hv<;>exact adA h hH hk _ _ (hr _ _ (run _ _ _))
  ·cases e
 ·cases e
theorem Av.replicate {z:List AV}{zv:List Value} (h:Av fm ts z zv):∀ n,Av fm ts (List.replicate n z).flatten (List.replicate n zv).flatten
 |0=>⟨rfl,fun i x v h=>by simp at h⟩
 |n+1=>by simp only[List.replicate_succ,Cx];exact h.append (Av.replicate h n)
theorem aaf (z:Array Value) (m:Nat) (hz:0<z.size):(madeCells z (m*z.size)).toList=(List.replicate m z.toList).flatten:=by
 apply List.ext_getElem?
 intro j
 have ho:∀ c∈List.replicate m z.toList,c.length=z.size:=by intro c hc;rw[List.eq_of_mem_replicate hc];simp
 have key:∀ (m j:Nat),((List.replicate m z.toList).flatten)[j]?=if j<m*z.size then z.toList[j % z.size]? else none:=by
  intro m
  induction m with
  |zero=>intro j;simp
  |succ m ih=>
   intro j
   simp only[List.replicate_succ,Cx]
   by_cases hj:j<z.size
   ·rw[Ct (by simpa using hj),Nat.mod_eq_of_lt hj,if_pos (by rw[Nat.add_mul];omega)]
   ·rw[CE (by simp;omega),ih,Array.length_toList]
    have h2:j % z.size=(j - z.size) % z.size:=by rw[Nat.mod_eq_sub_mod (Nat.le_of_not_lt hj)]
    rw[h2]
    by_cases h3:j - z.size<m*z.size
    ·rw[if_pos h3,if_pos (by rw[Nat.add_mul];omega)]
    ·rw[if_neg h3,if_neg (by rw[Nat.add_mul];omega)]
 rw[key]
 unfold madeCells
 rw[Array.toList_map,BA,Array.toList_range]
 by_cases hj:j<m*z.size
 ·have hm:j % z.size<z.size:=Nat.mod_lt _ hz
  rw[List.getElem?_range hj,if_pos hj,Array.getElem?_toList]
  simp[Array.getElem!_eq_getD,hm]
 ·rw[if_neg hj,CK (by simp;omega)];rfl
theorem xo {z:List AV}{s:Nat} (h:z.length=s) (n:Nat):dw (List.replicate n z) s:=by
 intro c hc;rw[List.eq_of_mem_replicate hc];exact h
theorem yF {z:List AV} (h:∀ x∈z,x.flat=true) (n:Nat):∀ x∈(List.replicate n z).flatten,x.flat=true:=by
 intro x hx
 obtain⟨c,h1,h2⟩:=List.mem_flatten.1 hx
 rw[List.eq_of_mem_replicate h1]at h2
 exact h x h2
theorem aqu {α:Type} (z:List α) (l c:Nat) (h:l<=c):(List.replicate c z).flatten=(List.replicate l z).flatten++(List.replicate (c - l) z).flatten:=by
 rw[<-List.flatten_append,List.replicate_append_replicate];congr 2;omega
theorem amR (hT:AQ P T) (ht:T t=some ti) (h:HR N0 W0 fm ts H w) (hH:0<H.length) {kb:Nat} (hk:∀ k,kb<=k->k<kb+16->tb ts 0 k=none) {x y:AV}{v u:Value}{d:De}
  (hv:VR fm ts x v) (hu:VR fm ts y u) (e:abw kb ti x y=some d) {r:Result Next} (hr:∀ a w',(Instr.makeSlice t v u).run P w=.ok a w'->r=.ok (.value a) w'):BO N0 W0 fm ts H w kb r d:=by
 unfold abw at e
 split at e
 ·rename_i el l c hd
  cases hv;cases hu
  split at e
  ·rename_i hc
   obtain⟨h0,hlc,hby,gj,ur⟩:=hc
   obtain rfl:=oi e
   obtain⟨bZ,⟨inf,bd,ax,hb,z,hz,iM⟩,_⟩:=hT.slice ht hd
   have qp:=(hT.ok ht).fR
   have ml:z.cells.size=ti.el:=by have:=(iM fm []).1;simp at this;omega
   have bm:=run_make (P:=P) w t el inf z bZ bd hz .i64 .i64 l c h0 hlc (by rw[hb,Int.mul_comm];omega) (by omega)
   have gk:=hk kb (Be _) (by omega)
   have ae:0<ts.length:=by rw[h.len];exact hH
   rw[ax]at bm
   have qx:=aaf z.cells c.toNat (by omega)
   rw[ml]at qx
   have hn:=h.xn (l:=0) (k:=kb) (cap:=c.toNat) (et:=el) (esz:=ti.el) (es:=List.replicate l.toNat ti.fR) (cells:=madeCells z.cells (c.toNat*ti.el)) hH (by rw[gk];trivial) (size_madeCells _ _)
    (by simp;omega) (by simp[maxLen];omega) (xo qp _) gj (Av.replicate (iM fm []) _) (yF (hT.ok ht).abA _) (by rw[qx,aqu _ l.toNat c.toNat (by omega)])
   simp only[CP]at hn
   refine⟨fm,_,_,_,.inl (hr _ _ bm),hn,?_,AM.refl _ _,As.set (by rw[gk];trivial),?_⟩
   ·exact .loc 0 kb ti.el 0 l.toNat l.toNat w.heap.size c.toNat c.toNat _ (by rw[eb,if_pos ⟨rfl,rfl,ae⟩]) (by omega) (by omega) (by omega) (fun _=>by simp)
   ·intro l k eC aJ
    rw[eb,if_neg (by omega)]
    exact aJ
  ·cases e
 ·cases e
end
mutual
theorem adQ (G:AS):∀ (x y:AV),x.ai G=some y->∀ p∈x.refs,∃ et esz es,G p.1 p.2=some (.arr et esz es)
 |.loc l k e i n g,y,h=>by
  intro p hp
  simp only[AV.refs,CG]at hp
  subst hp
  simp only[AV.ai]at h
  split at h
  ·rename_i et esz es hg;exact⟨et,esz,es,hg⟩
  ·cases h
 |.bU t v,y,h=>by
  simp only[AV.ai,mS]at h
  obtain⟨a,h1,h2⟩:=h
  simp only[AV.refs];exact adQ G v a h1
 |.agg cs,y,h=>by
  simp only[AV.ai,mS]at h
  obtain⟨a,h1,h2⟩:=h
  simp only[AV.refs];exact vZ G cs a h1
 |.ar vs,y,h=>by
  simp only[AV.ai,mS]at h
  obtain⟨a,h1,h2⟩:=h
  simp only[AV.refs];exact vZ G vs a h1
 |.nil,y,h=>by simp[AV.refs]
 |.bool b,y,h=>by simp[AV.refs]
 |.int k n,y,h=>by simp[AV.refs]
 |.str s,y,h=>by simp[AV.refs]
 |.sl e es,y,h=>by simp[AV.refs]
 |.bH,y,h=>by simp[AV.refs]
 |.bQ,y,h=>by simp[AV.refs]
 |.bV,y,h=>by simp[AV.refs]
 |.raw r_,y,h=>by simp[AV.refs]
 |.fn f a b,y,h=>by
  simp only[AV.ai]at h
  split at h
  ·rename_i x z hx hz
   intro p hp
   simp only[AV.refs,Bb]at hp
   rcases hp with hp|hp
   ·exact vZ G a x hx p hp
   ·exact vZ G b z hz p hp
  ·cases h
 |.bG ..,y,h=>by simp[AV.refs]
 |.ptr ..,y,h=>by simp[AV.refs]
 |.bx ..,y,h=>by simp[AV.refs]
 |.aD ..,y,h=>by simp[AV.refs]
 |.dead,y,h=>by simp[AV.refs]
theorem vZ (G:AS):∀ (l ys:List AV),AV.aG G l=some ys->∀ p∈AV.aO l,∃ et esz es,G p.1 p.2=some (.arr et esz es)
 |[],ys,h=>by simp[AV.aO]
 |x::l,ys,h=>by
  simp only[AV.aG]at h
  split at h
  ·rename_i a b ha hb
   intro p hp
   simp only[AV.aO,Bb]at hp
   rcases hp with hp|hp
   ·exact adQ G x a ha p hp
   ·exact vZ G l b hb p hp
  ·cases h
end
theorem adM {G:AS}{cs ys:List AV} (h:AV.aG G cs=some ys) (hf:∀ x∈cs,x.flat=true):∀ x∈ys,x.flat=true:=by
 intro y hy
 have g:=lZ G _ _ h
 obtain⟨i,hi⟩:=BF.1 hy
 have ae:i<cs.length:=by rw[<-g.1];exact(gS.1 hi).1
 obtain⟨y',h1,h2⟩:=g.2 i _ (gG ae)
 rw[hi]at h1;obtain rfl:=oi h1
 rw[abI h2]
 exact hf _ (List.getElem_mem ae)
theorem aq7 {d:Nat}{cs ys:List AV} (h:AV.gz d cs=some ys) (hf:∀ x∈cs,x.flat=true):∀ x∈ys,x.flat=true:=by
 intro y hy
 have g:=sY d _ _ h
 obtain⟨i,hi⟩:=BF.1 hy
 have ae:i<cs.length:=by rw[<-g.1];exact(gS.1 hi).1
 obtain⟨y',h1,h2⟩:=g.2 i _ (gG ae)
 rw[hi]at h1;obtain rfl:=oi h1
 rw[ajE h2]
 exact hf _ (List.getElem_mem ae)
theorem afl {fm:FM}{ts:List Al}{d:Nat}{cs ys:List AV}{vs:List Value} (h:AV.gz d cs=some ys) (hv:Av fm ts cs vs):Av fm (ts.drop d) ys vs:=by
 have g:=sY d _ _ h
 refine⟨g.1.trans hv.1,?_⟩
 intro i x v hx uF
 have ae:i<cs.length:=by rw[<-g.1];exact(gS.1 hx).1
 obtain⟨y',h1,h2⟩:=g.2 i _ (gG ae)
 rw[hx]at h1;obtain rfl:=oi h1
 exact(hv.2 i _ v (gG ae) uF).un d h2
theorem Av.mono {fm fm':FM}{ts ts':List Al}{cs:List AV}{vs:List Value} (h:Av fm ts cs vs) (hf:AY fm fm') (ht:As ts ts'):Av fm' ts' cs vs:=
 ⟨h.1,fun i x v a b=>(h.2 i x v a b).mono hf ht⟩
theorem Av.qR {fm:FM}{ts:List Al}{cs:List AV}{vs:List Value} (h:Av fm ts cs vs) (hf:∀ x∈cs,x.flat=true):∀ v∈vs,v.oneCell'=true:=by
 intro v hv
 obtain⟨i,hi⟩:=BF.1 hv
 have ae:i<cs.length:=by rw[h.1];exact(gS.1 hi).1
 exact(h.2 i _ v (gG ae) hi).aeN (hf _ (List.getElem_mem ae))
theorem adK {sz:Nat}:∀ (es:List (List AV)) (i o:Nat) (c new:List AV),dw es sz->es[i]?=some c->o+new.length<=c.length->
  (es.set i (overwrite c o new)).flatten=overwrite es.flatten (i*sz+o) new
 |[],i,o,c,new,_,h,_=>by simp at h
 |d::es,0,o,c,new,ho,h,hle=>by
  simp only[BP,oE]at h;subst h
  simp only[List.set_cons_zero,Cx,overwrite,Nat.zero_mul,Co,Cu]
  rw[E4 (by omega),DW (by omega)]
 |d::es,i+1,o,c,new,ho,h,hle=>by
  have hd:d.length=sz:=ho d List.mem_cons_self
  simp only[Cc]at h
  have ih:=adK es i o c new (fun x hx=>ho x (List.mem_cons_of_mem _ hx)) h hle
  simp only[List.set_cons_succ,Cx,ih]
  simp only[overwrite]
  have e1:(i+1)*sz+o=d.length+(i*sz+o):=by rw[Nat.add_mul,Nat.one_mul,hd];omega
  have e2:d.length+(i*sz+o)+new.length=d.length+(i*sz+o+new.length):=by omega
  rw[e1,List.take_length_add_append,e2,List.drop_length_add_append]
  simp
theorem aco {α:Type} (L us:List α) (off n:Nat) (h:off+us.length<=n) (hn:n<=L.length):
  L.take off++us++L.drop (off+us.length)=((L.take n).take off++(us++(L.take n).drop (off+us.length)))++L.drop n:=by
 have e1:(L.take n).take off=L.take off:=by rw[List.take_take,Nat.min_eq_left (by omega)]
 have e2:L.drop (off+us.length)=(L.take n).drop (off+us.length)++L.drop n:=by
  conv=>lhs;rw[<-C4 n L]
  rw[DW (by simp;omega)]
 rw[e1,e2]
 simp
theorem ajp {sz:Nat}{es:List (List AV)} (ho:dw es sz) (i:Nat) {c:List AV} (hc:c.length=sz):dw (es.set i c) sz:=by
 intro d hd
 rcases List.mem_or_eq_of_mem_set hd with h|rfl
 ·exact ho d h
 ·exact hc
section
variable {P:Program}{T:AN}{N0:Nat}{W0:World}{fm:FM}{ts:List Al}{H:Heap}{w:World}{t:TypeId}{ti:TI}
theorem HR.adf (h:HR N0 W0 fm ts H w) {l k c:Nat}{cs:List AV} (hg:H.get l k=some (.box cs)) (ht:tb ts l k=some (.box c)):
  ∃ cells et,w.heap[c]?=some (.cells cells et (0,0))/\cells.size=cs.length/\Av fm (ts.drop l) cs cells.toList/\∀ x∈cs,x.flat=true:=by
 have hb:=h.ao l k _ hg
 rw[ht]at hb
 cases hb with
 |box _ _ hN hB=>
  obtain⟨cells,et,c1,c2,c3⟩:=hB
  refine⟨cells,et,c1,c2,⟨by simp[c2],fun i x v a b=>(c3 i x v a (by simpa using b)).2⟩,?_⟩
  intro x hx
  obtain⟨i,hi⟩:=BF.1 hx
  have ae:i<cells.size:=by rw[c2];exact(gS.1 hi).1
  exact(c3 i x _ hi (Bo ae)).1
theorem ae6 {cells:Array Value}{et:TypeId}{c o:Nat}{v:Value}{inf:TypeInfo} (hi:P.info? t=some inf) (ax:v.cells.size=inf.size) (hc:w.heap[c]?=some (.cells cells et (0,0))) (hle:o+v.cells.size<=cells.size)
  (h1:∀ u∈v.cells.toList,u.oneCell'=true):
  (Instr.storeAt t (.pointer (some ⟨c,o,none⟩)) v).run P w=.ok () (w.setRow c (cells.toList.take o++(v.cells.toList++cells.toList.drop (o+v.cells.toList.length))).toArray):=by
 have:=run_storeCells_at P c o et v.cells.toList 0 cells w hc (by simpa using hle) h1
 simp only[Nat.add_zero]at this
 simp only[Instr.storeAt,Instr.sureAddr,storeVar,Sem.run_bind,Sem.run_pure,Result.andThen_ok,sizeOf,typeInfo,run_program,hi,ax,ne_eq,not_true_eq_false,if_false]
 rw[this,Cu]
theorem amU (hT:AQ P T) (ht:T t=some ti) (h:HR N0 W0 fm ts H w) (hH:0<H.length) {kb:Nat} (hk:∀ k,kb<=k->k<kb+16->tb ts 0 k=none) {x:AV}{vc:List AV}{v u:Value}{d:De}
  (hv:VR fm ts x v) (hu:Av fm ts vc u.cells.toList) (hf:∀ x∈vc,x.flat=true) (e:rH H.get kb ti x vc=some d) {r:Result Next} (hr:∀ w',(Instr.storeAt t v u).run P w=.ok () w'->r=.ok .skip w'):
  BO N0 W0 fm ts H w kb r d:=by
 obtain⟨inf,bd,ax,_,_⟩:=(hT.ok ht).info
 have hsc:=(hT.ok ht).sc
 unfold rH at e
 split at e
 ·rename_i pc
  have o9:u.cells.size=inf.size:=by have:=hu.1;simp at this;omega
  have hvu:vc.length=u.cells.toList.length:=hu.1
  have acC:∀ fm ts,VR fm ts (.ar []) undef:=fun fm ts=>.ar [] #[] rfl (fun i x v h=>by simp at h)
  split at e
  ·rename_i l k o
   split at e
   ·rename_i cs hg
    cases hv with
    |ptr _ _ _ c aJ=>
     split at e
     ·rename_i hle
      obtain⟨cells,et,c1,c2,c3,c4⟩:=h.adf hg aJ
      have bm:=ae6 (P:=P) (w:=w) (t:=t) (o:=o) bd o9 c1 (by rw[o9,ax,c2];exact hle) (hu.qR hf)
      split at e
      ·rename_i hl
       subst hl
       obtain rfl:=oi e
       have eC:k<kb\/kb+16<=k:=by
        by_cases eC:k<kb\/kb+16<=k
        ·exact eC
        ·rw[hk k (by omega) (by omega)]at aJ;cases aJ
       obtain⟨ts',a1,a2,a3,a4,a5,a6⟩:=acJ ti.sc vc _ kb ts H h hH (fun k h1 h2=>hk k h1 (by omega)) hu hf
       have bu:(H.bN (kf vc kb ti.sc).2).get 0 k=some (.box cs):=by rw[a6 0 k (by omega)];exact hg
       have eQ:tb ts' 0 k=some (.box c):=by rw[a5 0 k (by omega)];exact aJ
       obtain⟨amb,jQ,c1',c2',c3',c4'⟩:=a1.adf bu eQ
       rw[c1]at c1'
       obtain⟨rfl,rfl⟩:cells=amb/\et=jQ:=by
        have:=oi c1'
        injection this with h1 h2
        exact⟨h1,h2⟩
       have hwl:(kf vc kb ti.sc).1.length=vc.length:=by rw[a2.1,hvu]
       have:=a1.acq bu eQ (cs':=overwrite cs o (kf vc kb ti.sc).1) (qU c3' a2 (by omega)) (qV c4' a3)
       refine⟨fm,ts',_,undef,.inr ⟨hr _ bm,rfl⟩,?_,acC _ _,AM.refl _ _,a4,?_⟩
       ·simp only[Heap.pr,Heap.bN]
        exact this
       ·intro l' k' fh zR
        rw[a5 l' k' (by omega)];exact zR
      ·split at e
       ·rename_i new dE
        obtain rfl:=oi e
        have zw:new.length=vc.length:=(sY _ _ _ dE).1
        have:=h.acq hg aJ (cs':=overwrite cs o new) (qU c3 (afl dE hu) (by omega)) (qV c4 (aq7 dE hf))
        exact⟨fm,ts,_,undef,.inr ⟨hr _ bm,rfl⟩,this,acC _ _,AM.refl _ _,As.refl _,fun _ _ _ h=>h⟩
       ·split at e
        ·rename_i new dE
         obtain rfl:=oi e
         have zw:new.length=vc.length:=(lZ _ _ _ dE).1
         have h1:=h.sE (AV.aO vc)
         have bj:(l,k)∉AV.aO vc:=by
          intro hm
          obtain⟨et,esz,es,h2⟩:=vZ _ _ _ dE _ hm
          simp only at h2
          rw[hg]at h2;cases h2
         have bu:(H.bN (iB (AV.aO vc))).get l k=some (.box cs):=by rw[wc,if_neg bj];exact hg
         have eQ:tb (iV ts (AV.aO vc)) l k=some (.box c):=by rw[mB,if_neg (fun hh=>bj hh.1)];exact aJ
         have kF:=(h.aG (AV.aO vc) hu dE (fun _ h=>h))
         have hF:=h.vW (AV.aO vc)
         have:=h1.acq bu eQ (cs':=overwrite cs o new) (qU (c3.mono hF ((As.gone ts _).drop l)) (kF.mono (AY.refl _) (As.nil _)) (by omega)) (qV c4 (adM dE hf))
         refine⟨_,_,_,undef,.inr ⟨hr _ bm,rfl⟩,?_,acC _ _,h.vX (AV.aO vc),As.gone _ (AV.aO vc),?_⟩
         ·simp only[Heap.pr,Heap.bN]
          exact this
         ·intro l' k' _ zR
          rw[mB,zR];simp[m4]
        ·cases e
     ·cases e
   ·cases e
  ·rename_i l k esz i o g
   split at e
   ·rename_i et aN es hg
    split at e
    ·rename_i hh
     obtain⟨rfl,kD⟩:=hh
     split at e
     ·rename_i c0 new hc0 dE
      split at e
      ·rename_i hle
       obtain⟨hle,gg⟩:=hle
       obtain rfl:=oi e
       have hb:=h.ao l k _ hg
       cases hv with
       |eK _ _ _ _ _ _ a eQ=>rw[eQ]at hb;cases hb
       |eM _ _ _ _ _ _ a m' c eQ ae=>rw[eQ]at hb;have:=hb.gB.1;omega
       |bx _ _ _ _ _ _ c cap eQ=>
        rw[eQ]at hb
        obtain⟨hA,_⟩:=hb.gB.2.2 c cap rfl
        obtain⟨cells,c1,c2,c3,c4,c5,c6,c7,c8⟩:=hA.flat
        have zw:new.length=vc.length:=(lZ _ _ _ dE).1
        have bF:c0.length=aN:=c5 c0 (AU hc0)
        have hi:i<es.length:=(gS.1 hc0).1
        have dI:=ku aN es c5
        have hmul:(i+1)*aN<=es.length*aN:=BW _ hi
        have uq:es.length*aN<=cells.size:=by rw[c2];exact BW _ c3
        rw[Nat.add_mul,Nat.one_mul]at hmul
        have cH:u.cells.toList.length=vc.length:=hvu.symm
        have bm:=ae6 (P:=P) (w:=w) (t:=t) (o:=i*aN+o) bd o9 c1 (by rw[o9,ax];omega) (hu.qR hf)
        have h1:=h.sE (AV.aO vc)
        have bj:(l,k)∉AV.aO vc:=by
         intro hm
         have:=List.all_eq_true.1 gg _ hm
         simp at this
        have bu:(H.bN (iB (AV.aO vc))).get l k=some (.arr et aN es):=by rw[wc,if_neg bj];exact hg
        have jk:tb (iV ts (AV.aO vc)) l k=some (.arr g (some (c,cap))):=by rw[mB,if_neg (fun hh=>bj hh.1)];exact eQ
        have kF:=(h.aG (AV.aO vc) hu dE (fun _ h=>h))
        have hF:=h.vW (AV.aO vc)
        have eP:=adK es i o c0 new c5 hc0 (by omega)
        have:=h1.xD bu jk (es':=es.set i (overwrite c0 o new)) (vs':=cells.toList.take (i*aN+o)++(u.cells.toList++cells.toList.drop (i*aN+o+u.cells.toList.length)))
         (us:=(cells.toList.take (es.length*aN)).take (i*aN+o)++(u.cells.toList++(cells.toList.take (es.length*aN)).drop (i*aN+o+u.cells.toList.length))) (rest:=cells.toList.drop (es.length*aN))
         (by simp) (by simpa using c3) (ajp c5 i (by rw[apK (by omega)];exact bF)) (by simp;simp at cH;omega)
         (by rw[eP];exact qU (c7.mono hF (As.refl _)) kF (by omega))
         (by rw[eP];exact qV c8 (adM dE hf))
         (by rw[<-Cu];exact aco _ _ _ _ (by omega) (by simpa using uq))
        have iK:cL (iV ts (AV.aO vc)) l k (.arr (es.set i (overwrite c0 o new)).length (some (c,cap)))=iV ts (AV.aO vc):=by
         apply sX;rw[jk];simp[kD]
        rw[iK]at this
        refine⟨_,_,_,undef,.inr ⟨hr _ bm,rfl⟩,?_,acC _ _,h.vX (AV.aO vc),As.gone _ (AV.aO vc),?_⟩
        ·simp only[Heap.pr,Heap.bN]
         exact this
        ·intro l' k' _ zR
         rw[mB,zR];simp[m4]
      ·cases e
     ·cases e
    ·cases e
   ·cases e
  ·cases e
 ·cases e
end
end Go.Abs
namespace Go.Abs
open Go Go.RowKit
section
variable {P:Program}{T:AN}{N0:Nat}{W0:World}{fm:FM}{ts:List Al}{H:Heap}{w:World}{t:TypeId}{ti:TI}
def FN (fm:FM):List (Nat×List AV)->List (Nat×Value)->Prop
 |[],[]=>True
 |(i,x)::l,(j,v)::m=>i=j/\Av fm [] x v.cells.toList/\(∀ y∈x,y.flat=true)/\FN fm l m
 |_,_=>False
theorem apL (c new:List AV) (h:new.length=c.length):overwrite c 0 new=new:=by
 simp[overwrite,h]
theorem ahg {sz:Nat}:∀ (parts:List (Nat×List AV)) (ps:List (Nat×Value)) (es es':List (List AV)) (cells:Array Value),
  FN fm parts ps->dw es sz->Av fm [] es.flatten cells.toList->(∀ x∈es.flatten,x.flat=true)->vU es sz parts=some es'->
  ∃ r,Instr.fill (fun i=>some (i*sz,sz)) cells ps=some r/\dw es' sz/\es'.length=es.length/\Av fm [] es'.flatten r.toList/\∀ x∈es'.flatten,x.flat=true
 |[],[],es,es',cells,_,ho,hv,hf,e=>by
  simp only[vU,oE]at e;subst e
  exact⟨cells,rfl,ho,rfl,hv,hf⟩
 |[],_::_,_,_,_,h,_,_,_,_=>h.elim
 |(_,_)::_,[],_,_,_,h,_,_,_,_=>h.elim
 |(i,x)::l,(j,v)::m,es,es',cells,h,ho,hv,hf,e=>by
  obtain⟨rfl,hx,hxf,hr⟩:=h
  simp only[vU]at e
  split at e
  ·rename_i hh
   obtain⟨hl,hi⟩:=hh
   have hs:v.cells.size=sz:=by have:=hx.1;simp at this;omega
   have dI:=ku sz es ho
   have bF:cells.size=es.length*sz:=by have:=hv.1;simp only[Array.length_toList]at this;omega
   have hmul:(i+1)*sz<=es.length*sz:=BW _ hi
   rw[Nat.add_mul,Nat.one_mul]at hmul
   have mV:=gG hi
   have cj:(es[i]).length=sz:=ho _ (List.getElem_mem hi)
   have eP:=adK es i 0 _ x ho mV (by omega)
   rw[apL _ _ (by omega),Nat.add_zero]at eP
   obtain⟨r,h1,h2,h3,h4⟩:=ahg l m (es.set i x) es' (v.cells.zipIdx.foldl (fun cs (c,j)=>cs.setIfInBounds (i*sz+j) c) cells) hr (ajp ho i hl)
    (by rw[eP,ahq _ _ _ (by omega)];exact qU hv hx (by omega)) (by rw[eP];exact qV hf hxf) e
   refine⟨r,?_,h2,by simpa using h3,h4⟩
   simp only[Instr.fill]
   rw[if_neg (by simp[hs];omega)]
   exact h1
  ·cases e
theorem ahs (h:HR N0 W0 fm ts H w) (r:List (Nat×Nat)):∀ (parts:List (Nat×AV)) (ps:List (Nat×Value)) (cs:List (Nat×List AV)),Ee fm ts parts ps->lY H.get parts=some cs->(∀ p∈j9 parts,p∈r)->
  FN (gF fm w (behind ts H r)) cs ps
 |[],[],cs,_,e,_=>by simp only[lY,oE]at e;subst e;trivial
 |[],_::_,_,h,_,_=>h.elim
 |(_,_)::_,[],_,h,_,_=>h.elim
 |(i,x)::l,(j,v)::m,cs,hp,e,hr=>by
  obtain⟨rfl,hx,hl⟩:=hp
  simp only[lY]at e
  split at e
  ·rename_i vc pa
   split at e
   ·rename_i c' l' jV uk
    obtain rfl:=oi e
    obtain⟨h1,h2⟩:=hx.parts pa
    have xd:AV.aO vc=x.refs:=by
     cases x<;>simp only[AV.cells,oE]at pa<;>first|(subst pa;simp[AV.aO,AV.refs];done)|(cases pa)
    refine⟨rfl,h.aG r h1 jV (fun p hp=>hr p ?_),adM jV h2,ahs h r l m l' hl uk (fun p hp=>hr p ?_)⟩
    ·simp only[j9,Bb];rw[xd]at hp;exact .inl hp
    ·simp only[j9,Bb];exact .inr hp
   ·cases e
  ·cases e
theorem amL (hT:AQ P T) (ht:T t=some ti) (h:HR N0 W0 fm ts H w) (hH:0<H.length) {kb:Nat} (hk:∀ k,kb<=k->k<kb+16->tb ts 0 k=none) {len:Nat}{parts:List (Nat×AV)}{ps:Array (Nat×Value)}{d:De}
  (hp:Ee fm ts parts ps.toList) (e:rG H.get kb ti len parts=some d) {r:Result Next} (hr:∀ a w',(Instr.buildSlice t len ps).run P w=.ok a w'->r=.ok (.value a) w'):BO N0 W0 fm ts H w kb r d:=by
 unfold rG at e
 split at e
 ·rename_i el hd
  split at e
  ·rename_i hc
   obtain⟨hsm,gj⟩:=hc
   split at e
   ·rename_i cs gh
    split at e
    ·rename_i es oM
     obtain rfl:=oi e
     obtain⟨bZ,⟨inf,bd,ax,hb,z,hz,iM⟩,_⟩:=hT.slice ht hd
     have qp:=(hT.ok ht).fR
     have ml:z.cells.size=ti.el:=by have:=(iM fm []).1;simp at this;omega
     have h1:=h.sE (j9 parts)
     have hF:=h.vW (j9 parts)
     have hpc:=ahs h (j9 parts) parts ps.toList cs hp gh (fun _ h=>h)
     have qx:=aaf z.cells len (by omega)
     rw[ml]at qx
     obtain⟨cells,f1,f2,f3,f4,f5⟩:=ahg cs ps.toList (List.replicate len ti.fR) es (madeCells z.cells (len*ti.el)) hpc (xo qp _) (by rw[qx];exact Av.replicate (iM _ []) _)
      (yF (hT.ok ht).abA _) oM
     have hlen:es.length=len:=by simpa using f3
     have anF:cells.size=len*ti.el:=by have:=f4.1;rw[ku _ _ f2,hlen]at this;simpa using this.symm
     have bm:(Instr.buildSlice t len ps).run P w=.ok (.slice (some ⟨w.heap.size,0,none⟩) len len) (w.alloc (.cells cells el)):=by
      by_cases h0:len*inf.size=0
      ·have lu:len=0:=by
        rcases Nat.mul_eq_zero.1 h0 with h|h
        ·exact h
        ·omega
       subst lu
       have f1':Instr.fill (fun i=>some (i*inf.size,inf.size)) #[] ps.toList=some cells:=by
        rw[ax]
        have:madeCells z.cells (0*ti.el)=#[]:=by simp[madeCells,Array.range_zero']
        rw[this]at f1;exact f1
       simp[Instr.buildSlice,run_underlying bZ,sizeOf,typeInfo,bd,Array.range_zero',f1',newRow]
      ·exact run_buildSlice w t el len ps cells inf z bZ bd hz (by rw[ax];omega) h0 (by rw[ax];exact f1)
     have gk:tb (iV ts (j9 parts)) 0 kb=none:=by rw[mB,hk kb (Be _) (by omega)];simp[m4]
     have ae:0<(iV ts (j9 parts)).length:=by rw[aer,h.len];exact hH
     have ur:len<=maxLen:=by
      have:len*1<=len*ti.el:=Nat.mul_le_mul_left _ gj
      simp[maxLen];omega
     have hn:=h1.xn (l:=0) (k:=kb) (cap:=len) (et:=el) (esz:=ti.el) (es:=es) (cells:=cells) (us:=cells.toList) (rest:=[]) (by simpa using hH) (by rw[gk];trivial) anF
      (by omega) ur f2 gj f4 f5 (by simp)
     rw[hlen]at hn
     refine⟨_,cL (iV ts (j9 parts)) 0 kb (.arr len (some (w.heap.size,len))),_,_,.inl (hr _ _ bm),?_,?_,h.vX (j9 parts),(As.gone ts _).trans (As.set (by rw[gk];trivial)),?_⟩
     ·simp only[Heap.pr,Heap.bN]
      exact hn
     ·exact .loc 0 kb ti.el 0 len len w.heap.size len len _ (by rw[eb,if_pos ⟨rfl,rfl,ae⟩]) (by omega) (by omega) (by omega) (fun _=>by simp)
     ·intro l k eC aJ
      rw[eb,if_neg (by omega),mB,aJ];simp[m4]
    ·cases e
   ·cases e
  ·cases e
 ·cases e
theorem ou {sz:Nat}:∀ (es:List (List AV)) (i:Nat),dw es sz->(es.take i).flatten=es.flatten.take (i*sz)
 |[],i,_=>by simp
 |c::es,0,_=>by simp
 |c::es,i+1,h=>by
  have hc:c.length=sz:=h c List.mem_cons_self
  have ih:=ou es i (fun d hd=>h d (List.mem_cons_of_mem _ hd))
  have e:(i+1)*sz=c.length+i*sz:=by rw[Nat.add_mul,Nat.one_mul,hc];omega
  rw[List.take_succ_cons,Cx,Cx,ih,e,List.take_length_add_append]
theorem vV {sz:Nat}:∀ (es:List (List AV)) (i:Nat),dw es sz->(es.drop i).flatten=es.flatten.drop (i*sz)
 |[],i,_=>by simp
 |c::es,0,_=>by simp
 |c::es,i+1,h=>by
  have hc:c.length=sz:=h c List.mem_cons_self
  have ih:=vV es i (fun d hd=>h d (List.mem_cons_of_mem _ hd))
  have e:(i+1)*sz=c.length+i*sz:=by rw[Nat.add_mul,Nat.one_mul,hc];omega
  rw[List.drop_succ_cons,Cx,ih,e,List.drop_length_add_append]
theorem HR.ach (h:HR N0 W0 fm ts H w) {l k:Nat}{b:AG} (hg:H.get l k=some b):HR N0 W0 fm ts (H.put l k (some b)) w:=by
 have e1:∀ l' k',(H.put l k (some b)).get l' k'=H.get l' k':=by
  intro l' k'
  rw[Heap.oA]
  split
  ·rename_i hh;obtain⟨rfl,rfl,_⟩:=hh;exact hg.symm
  ·rfl
 exact⟨by simpa using h.len,fun l' k' b hb=>h.ao l' k' b (by rw[<-e1];exact hb),fun l1 k1 l2 k2 b1 b2 c g1 g2=>h.inj l1 k1 l2 k2 b1 b2 c (by rw[<-e1];exact g1) (by rw[<-e1];exact g2),h.bP,
  fun l' k' b c o hb=>h.df l' k' b c o (by rw[<-e1];exact hb),h.dk,h.size,h.cX,h.ej⟩
theorem Av.take {fm:FM}{ts:List Al}{cs:List AV}{vs:List Value} (h:Av fm ts cs vs) (n:Nat):Av fm ts (cs.take n) (vs.take n):=by
 refine⟨by simp[h.1],fun i x v a b=>?_⟩
 rw[BS]at a b
 split at a
 ·rename_i hi;rw[if_pos hi]at b;exact h.2 i x v a b
 ·cases a
theorem Av.drop {fm:FM}{ts:List Al}{cs:List AV}{vs:List Value} (h:Av fm ts cs vs) (n:Nat):Av fm ts (cs.drop n) (vs.drop n):=
 ⟨by simp[h.1],fun i x v a b=>h.2 (n+i) x v (by rw[Cg]at a;exact a) (by rw[Cg]at b;exact b)⟩
theorem pn {sz:Nat}{a b:List (List AV)} (h:dw a sz) (k:dw b sz):dw (a++b) sz:=by
 intro c hc
 rcases Bb.1 hc with hc|hc
 ·exact h c hc
 ·exact k c hc
theorem ane {a b:List AV} (h:∀ x∈a,x.flat=true) (k:∀ x∈b,x.flat=true):∀ x∈a++b,x.flat=true:=by
 intro x hx
 rcases Bb.1 hx with hx|hx
 ·exact h x hx
 ·exact k x hx
theorem aqy {e:TypeId}{inf:TypeInfo} (bZ:P.underlying t=some (.slice e)) (bd:P.info? e=some inf) (ty:TypeId) (base a:Option Addr) (n c cp:Nat) (hn:n<=c):
  (Builtin.append_ #[t,t] ty #[.slice base n c,.slice a 0 cp]).run P w=.ok (.slice base n c) w:=by
 cases base<;>cases a<;>simp[Builtin.append_,run_underlying bZ,sizeOf,typeInfo,bd,Builtin.lenOf,Builtin.firstCells,hn,loadCells,loadCellsFrom,storeCells]
structure I6 (P:Program) (t tx ty e:TypeId) (inf:TypeInfo) (z u:Value) (n:Nat) (us:List Value) (w:World):Prop where
 none:n=0->∀ (base:Option Addr) (m c:Nat),m<=c->(Builtin.append_ #[t,tx] ty #[.slice base m c,u]).run P w=.ok (.slice base m c) w
 nil:us.length=n*inf.size->0<inf.size->0<n->(n:Int)<=9223372036854775807->n*inf.bytes<=281474976710656->(Builtin.append_ #[t,tx] ty #[.slice Option.none 0 0,u]).run P w =
   .ok (.slice (some ⟨w.heap.size,0,Option.none⟩) n (grownCap w n 0 e)) (w.drew.alloc (.cells (us.toArray++Builtin.zeroCells z.cells (grownCap w n 0 e - n)) e))
 grow:us.length=n*inf.size->0<inf.size->0<n->∀ (b:Addr) (dy fX:Nat) (nQ:List Value),nQ.length=dy*inf.size->(∀ j v,nQ[j]?=some v->w.cell? (b.add j)=some v)->fX<dy+n->((dy+n:Nat):Int)<=9223372036854775807->
  Builtin.nextslicecap (dy+n) fX*inf.bytes<=281474976710656->(Builtin.append_ #[t,tx] ty #[.slice (some b) dy fX,u]).run P w =
   .ok (.slice (some ⟨w.heap.size,0,Option.none⟩) (dy+n) (grownCap w (dy+n) fX e))
    (w.drew.alloc (.cells (nQ.toArray++us.toArray++Builtin.zeroCells z.cells (grownCap w (dy+n) fX e - (dy+n))) e))
 room:us.length=n*inf.size->0<inf.size->0<n->∀ (g dy fX:Nat) (cur:Array Value),w.heap[g]?=some (.cells cur e (0,0))->(∀ u∈us,u.oneCell'=true)->dy+n<=fX->dy*inf.size+us.length<=cur.size->
  (Builtin.append_ #[t,tx] ty #[.slice (some ⟨g,0,Option.none⟩) dy fX,u]).run P w =
   .ok (.slice (some ⟨g,0,Option.none⟩) (dy+n) fX) (w.setRow g (cur.toList.take (dy*inf.size)++us++cur.toList.drop (dy*inf.size+us.length)).toArray)
theorem adv (hT:AQ P T) (ht:T t=some ti) (h:HR N0 W0 fm ts H w) (hH:0<H.length) {kb:Nat} (hk:∀ k,kb<=k->k<kb+16->tb ts 0 k=none) {tx ty:TypeId}{x y:AV}{v u:Value}{d:De}
  (hv:VR fm ts x v) (zP:∀ new e inf z,jd H.get ti.el y=some new->P.underlying t=some (.slice e)->P.info? e=some inf->inf.size=ti.el->inf.zero=some z->∃ us,dw new ti.el/\Av fm [] new.flatten us/\(∀ x∈new.flatten,x.flat=true)/\I6 P t tx ty e inf z u new.length us w)
  (e:kr H.get kb ti x y=some d) {r:Result Next} (hr:∀ a w',(Builtin.append_ #[t,tx] ty #[v,u]).run P w=.ok a w'->r=.ok (.value a) w'):BO N0 W0 fm ts H w kb r d:=by
 unfold kr at e
 split at e
 ·rename_i el hd
  obtain⟨bZ,⟨inf,bd,ax,hb,z,hz,iM⟩,_⟩:=hT.slice ht hd
  have qp:=(hT.ok ht).fR
  have ml:z.cells.size=ti.el:=by have:=(iM fm []).1;simp at this;omega
  split at e
  ·rename_i new dE
   obtain⟨us,ho,bo,dI,hR⟩:=zP new el inf z dE bZ bd ax hz
   have cH:us.length=new.length*ti.el:=by rw[<-bo.1];exact ku _ _ ho
   split at e
   ·
    split at e
    ·rename_i hc
     obtain⟨⟨qD,ur⟩,gj⟩:=hc
     obtain rfl:=oi e
     cases hv
     have gk:=hk kb (Be _) (by omega)
     have ae:0<ts.length:=by rw[h.len];exact hH
     by_cases hn:new.length=0
     ·have:new=[]:=List.eq_nil_of_length_eq_zero hn
      subst this
      have bm:=hR.none (by simp) none 0 0 (Be _)
      exact afV h hH hk el ti.el (hr _ _ bm)
     ·have bm:=hR.nil (by rw[ax];exact cH) (by omega) (by omega) (by omega) (by rw[hb];omega)
      have mV:=grownCap_ge w new.length 0 el
      have hle:=grownCap_le_maxLen w new.length 0 el (by simp[maxLen];omega)
      have qy:=(h.drew).xn (l:=0) (k:=kb) (cap:=grownCap w new.length 0 el) (et:=el) (esz:=ti.el) (es:=new) (cells:=us.toArray++Builtin.zeroCells z.cells (grownCap w new.length 0 el - new.length)) (us:=us)
       (rest:=(Builtin.zeroCells z.cells (grownCap w new.length 0 el - new.length)).toList) hH (by rw[gk];trivial) (by
        rw[Array.size_append,size_zeroCells,ml,List.size_toArray,cH,<-Nat.add_mul];congr 1;omega) mV hle ho gj bo dI (by simp)
      refine⟨fm,_,_,_,.inl (hr _ _ bm),qy,?_,AM.refl _ _,As.set (by rw[gk];trivial),?_⟩
      ·exact .loc 0 kb ti.el 0 new.length new.length w.heap.size (grownCap w new.length 0 el) (grownCap w new.length 0 el) _ (by rw[eb,if_pos ⟨rfl,rfl,ae⟩];rfl) (by omega) mV (by omega) (fun _=>by simp)
      ·intro l k eC aJ
       rw[eb,if_neg (by omega)]
       exact aJ
    ·cases e
   ·rename_i l k esz i n g
    split at e
    ·rename_i et aN es hg
     split at e
     ·rename_i hc
      obtain⟨rfl,rfl,rfl,rfl,rfl,kD,⟨qD,ur⟩,gj⟩:=hc
      obtain rfl:=oi e
      have bT:=h.ao l k _ hg
      have rX:=Heap.rL H _ _ _ hg
      have abQ:l<ts.length:=by rw[h.len];exact rX
      have abO:∀ (x:TB) l' k',(l'≠0\/k'<kb\/kb+16<=k')->tb ts l' k'=none->tb ts l k≠none->tb (cL ts l k x) l' k'=none:=by
       intro x l' k' _ h0 bj
       rw[eb]
       split
       ·rename_i hh;obtain⟨rfl,rfl,_⟩:=hh;exact absurd h0 bj
       ·exact h0
      have nothing:new=[]->∀ (a0:Option Addr) (qg:Nat),v=.slice a0 n qg->n<=qg->VR fm ts (.loc l k ti.el 0 n n) v->BO N0 W0 fm ts H w kb r ⟨.loc l k ti.el 0 (n+new.length) (n+new.length),[(l,k,some (.arr et ti.el (es++new)))]⟩:=by
       rintro rfl a0 qg rfl hle bg
       have bm:=hR.none (by simp) a0 n qg hle
       have kz:HR N0 W0 fm ts (H.put l k (some (.arr et ti.el (es++[])))) w:=by
        rw[List.append_nil]
        have e1:∀ l' k',(H.put l k (some (.arr et ti.el es))).get l' k'=H.get l' k':=by
         intro l' k'
         rw[Heap.oA]
         split
         ·rename_i hh;obtain⟨rfl,rfl,_⟩:=hh;exact hg.symm
         ·rfl
        exact⟨by simpa using h.len,fun l' k' b hb=>h.ao l' k' b (by rw[<-e1];exact hb),fun l1 k1 l2 k2 b1 b2 c g1 g2=>h.inj l1 k1 l2 k2 b1 b2 c (by rw[<-e1];exact g1) (by rw[<-e1];exact g2),h.bP,
         fun l' k' b c o hb=>h.df l' k' b c o (by rw[<-e1];exact hb),h.dk,h.size,h.cX,h.ej⟩
       refine⟨fm,ts,w,_,.inl (hr _ _ bm),kz,?_,AM.refl _ _,As.refl _,fun _ _ _ h=>h⟩
       simpa using bg
      cases hv with
      |cN _ _ _ _ _ _ a' aZ aJ=>rw[aJ]at bT;cases bT
      |cO _ _ _ _ _ _ a' aZ m' c aJ eO=>rw[aJ]at bT;have:=bT.gB.1;omega
      |cr _ _ _ a1 aJ=>
       rw[aJ]at bT
       have oM:=bT.gB.2.1 rfl
       subst oM
       by_cases hn:new.length=0
       ·exact nothing (List.eq_nil_of_length_eq_zero hn) a1 0 rfl (Be _) (.cr l k ti.el _ aJ)
       ·simp only[Co]at qD ur
        have bm:(Builtin.append_ #[t,tx] ty #[.slice a1 0 0,u]).run P w =
          .ok (.slice (some ⟨w.heap.size,0,none⟩) new.length (grownCap w new.length 0 et)) (w.drew.alloc (.cells (us.toArray++Builtin.zeroCells z.cells (grownCap w new.length 0 et - new.length)) et)):=by
         cases a1 with
         |none=>exact hR.nil (by rw[ax];exact cH) (by omega) (by omega) (by omega) (by rw[hb];omega)
         |some b1=>
          have:=hR.grow (by rw[ax];exact cH) (by omega) (by omega) b1 0 0 [] (by simp) (by simp) (by omega) (by omega) (by rw[Co];exact growslice_fits (by omega) (by rw[hb];omega))
          simpa using this
        have mV:=grownCap_ge w new.length 0 et
        have hle:=grownCap_le_maxLen w new.length 0 et (by simp[maxLen];omega)
        have wj:Bi (tb ts l k) (some (.arr new.length (some (w.heap.size,grownCap w new.length 0 et)))):=by
         rw[aJ];exact .inr (.inr ⟨_,_,rfl,by omega⟩)
        have qy:=(h.drew).xn (l:=l) (k:=k) (cap:=grownCap w new.length 0 et) (et:=et) (esz:=ti.el) (es:=new) (cells:=us.toArray++Builtin.zeroCells z.cells (grownCap w new.length 0 et - new.length)) (us:=us)
         (rest:=(Builtin.zeroCells z.cells (grownCap w new.length 0 et - new.length)).toList) rX wj (by
          rw[Array.size_append,size_zeroCells,ml,List.size_toArray,cH,<-Nat.add_mul];congr 1;omega) mV hle ho gj bo dI (by simp)
        refine⟨fm,_,_,_,.inl (hr _ _ bm),by simpa [Heap.bN] using qy,?_,AM.refl _ _,As.set wj,fun l' k' fh h0=>abO _ l' k' fh h0 (by rw[aJ];simp)⟩
        simp only[Co]
        exact .loc l k ti.el 0 new.length new.length w.heap.size (grownCap w new.length 0 et) (grownCap w new.length 0 et) _ (by rw[eb,if_pos ⟨rfl,rfl,abQ⟩]) (by omega) mV (by omega) (fun _=>by simp)
      |loc _ _ _ _ _ _ c cap aZ a' aJ bC bM cj ha=>
       rw[aJ]at bT
       obtain⟨hA,hN⟩:=bT.gB.2.2 c cap rfl
       obtain⟨cells,c1,c2,c3,c4,c5,c6,c7,c8⟩:=hA.flat
       have gH:=ha (.inr rfl)
       simp only[Nat.zero_mul]at gH
       subst gH
       have wx:aZ=cap:=by omega
       subst wx
       by_cases hn:new.length=0
       ·exact nothing (List.eq_nil_of_length_eq_zero hn) _ aZ rfl bM (.loc l k ti.el 0 n n c aZ aZ _ aJ bC bM cj ha)
       ·have asa:=ku ti.el es c5
        have hmul:es.length*ti.el<=cells.size:=by rw[c2];exact BW _ c3
        have ad4:∀ j u,(cells.toList.take (es.length*ti.el))[j]?=some u->w.cell? ((⟨c,0,none⟩:Addr).add j)=some u:=by
         intro j u hu
         rw[BS]at hu
         split at hu
         ·rw[Addr.add_lit]
          simp only[World.cell?,c1,Co]
          simpa using hu
         ·cases hu
        have hVs:Av fm [] (es++new).flatten (cells.toList.take (es.length*ti.el)++us):=by
         rw[List.flatten_append];exact c7.append bo
        have hFs:∀ x∈(es++new).flatten,x.flat=true:=by rw[List.flatten_append];exact ane c8 dI
        have hOs:=pn c5 ho
        have wj:∀ c',Bi (tb ts l k) (some (.arr (es++new).length c')):=by
         intro c';rw[aJ];exact .inr (.inr ⟨_,_,rfl,by simp;omega⟩)
        by_cases e9:n+new.length<=aZ
        ·have bm:=hR.room (by rw[ax];exact cH) (by omega) (by omega) c n aZ cells c1 (bo.qR dI) e9 (by
          rw[ax,cH,<-Nat.add_mul,c2];exact BW _ e9)
         rw[ax]at bm
         have hs:=h.xD hg aJ (es':=es++new) (vs':=cells.toList.take (n*ti.el)++us++cells.toList.drop (n*ti.el+us.length)) (us:=cells.toList.take (es.length*ti.el)++us) (rest:=cells.toList.drop (n*ti.el+us.length))
          (by simp) (by simp;omega) hOs (by
           have:n*ti.el+us.length<=cells.size:=by rw[cH,<-Nat.add_mul,c2];exact BW _ e9
           simp;omega) hVs hFs (by rw[kD])
         refine⟨fm,_,_,_,.inl (hr _ _ bm),hs,?_,AM.refl _ _,As.set (wj _),fun l' k' fh h0=>abO _ l' k' fh h0 (by rw[aJ];simp)⟩
         exact .loc l k ti.el 0 (n+new.length) (n+new.length) c aZ aZ _ (by rw[eb,if_pos ⟨rfl,rfl,abQ⟩];simp[kD]) (by omega) e9 (by omega) (fun _=>by simp)
        ·have bm:=hR.grow (by rw[ax];exact cH) (by omega) (by omega) ⟨c,0,none⟩ n aZ (cells.toList.take (es.length*ti.el)) (by rw[ax,Ba,Nat.min_eq_left (by simpa using hmul),kD]) ad4 (by omega) (by omega)
          (growslice_fits (by omega) (by rw[hb];exact qD))
         have mV:=grownCap_ge w (n+new.length) aZ et
         have hle:=grownCap_le_maxLen w (n+new.length) aZ et (by simp[maxLen];omega)
         have qy:=(h.drew).xn (l:=l) (k:=k) (cap:=grownCap w (n+new.length) aZ et) (et:=et) (esz:=ti.el) (es:=es++new)
          (cells:=(cells.toList.take (es.length*ti.el)).toArray++us.toArray++Builtin.zeroCells z.cells (grownCap w (n+new.length) aZ et - (n+new.length))) (us:=cells.toList.take (es.length*ti.el)++us)
          (rest:=(Builtin.zeroCells z.cells (grownCap w (n+new.length) aZ et - (n+new.length))).toList) rX (wj _) (by
           rw[Array.size_append,Array.size_append,size_zeroCells,ml,List.size_toArray,List.size_toArray,cH,Ba,Nat.min_eq_left (by simpa using hmul),<-Nat.add_mul,<-Nat.add_mul];congr 1;omega) (by simp;omega) hle hOs gj hVs hFs (by simp)
         refine⟨fm,_,_,_,.inl (hr _ _ bm),qy,?_,AM.refl _ _,As.set (wj _),fun l' k' fh h0=>abO _ l' k' fh h0 (by rw[aJ];simp)⟩
         exact .loc l k ti.el 0 (n+new.length) (n+new.length) w.heap.size (grownCap w (n+new.length) aZ et) (grownCap w (n+new.length) aZ et) _ (by rw[eb,if_pos ⟨rfl,rfl,abQ⟩];simp[kD]) (by omega) mV (by omega) (fun _=>by simp)
     ·split at e
      ·rename_i hc
       obtain⟨⟨rfl,rfl,rfl⟩,⟨rfl,kD⟩,e9,gj⟩:=hc
       obtain rfl:=oi e
       have bT:=h.ao l k _ hg
       have rX:=Heap.rL H _ _ _ hg
       have abQ:l<ts.length:=by rw[h.len];exact rX
       have abO:∀ (x:TB) l' k',(l'≠0\/k'<kb\/kb+16<=k')->tb ts l' k'=none->tb ts l k≠none->tb (cL ts l k x) l' k'=none:=by
        intro x l' k' _ h0 bj
        rw[eb]
        split
        ·rename_i hh;obtain⟨rfl,rfl,_⟩:=hh;exact absurd h0 bj
        ·exact h0
       have anI:(es.take n++(new++es.drop (n+new.length))).length=es.length:=by simp;omega
       have nothing:new=[]->∀ (a0:Option Addr) (qg:Nat),v=.slice a0 n qg->n<=qg->VR fm ts (.loc l k ti.el 0 n g) v->BO N0 W0 fm ts H w kb r ⟨.loc l k ti.el 0 (n+new.length) g,[(l,k,some (.arr et ti.el (es.take n++(new++es.drop (n+new.length)))))]⟩:=by
        rintro rfl a0 qg rfl hle bg
        have bm:=hR.none (by simp) a0 n qg hle
        have e0:es.take n++([]++es.drop (n+([]:List (List AV)).length))=es:=by simp
        rw[e0]
        refine⟨fm,ts,w,_,.inl (hr _ _ bm),h.ach hg,?_,AM.refl _ _,As.refl _,fun _ _ _ h=>h⟩
        simpa using bg
       cases hv with
       |cN _ _ _ _ _ _ a' aZ aJ=>rw[aJ]at bT;cases bT
       |cO _ _ _ _ _ _ a' aZ m' c aJ eO=>rw[aJ]at bT;have:=bT.gB.1;omega
       |cr _ _ _ a1 aJ=>
        have hn:new=[]:=List.eq_nil_of_length_eq_zero (by omega)
        exact nothing hn a1 0 rfl (Be _) (.cr l k ti.el _ aJ)
       |loc _ _ _ _ _ _ c cap aZ a' aJ bC bM cj ha=>
        rw[aJ]at bT
        obtain⟨hA,hN⟩:=bT.gB.2.2 c cap rfl
        obtain⟨cells,c1,c2,c3,c4,c5,c6,c7,c8⟩:=hA.flat
        have gH:=ha (.inr rfl)
        simp only[Nat.zero_mul]at gH
        subst gH
        have wx:aZ=cap:=by omega
        subst wx
        by_cases hn:new.length=0
        ·exact nothing (List.eq_nil_of_length_eq_zero hn) _ aZ rfl bM (.loc l k ti.el 0 n g c aZ aZ _ aJ bC bM cj ha)
        ·have uq:es.length*ti.el<=cells.size:=by rw[c2];exact BW _ c3
         have jB:(n+new.length)*ti.el<=es.length*ti.el:=BW _ (by omega)
         rw[Nat.add_mul]at jB
         have bm:=hR.room (by rw[ax];exact cH) (by omega) (by omega) c n aZ cells c1 (bo.qR dI) (by omega) (by rw[ax,cH];omega)
         rw[ax]at bm
         have asl:(cells.toList.take (es.length*ti.el)).length=es.length*ti.el:=by rw[Ba,Nat.min_eq_left (by simpa using uq)]
         have aoe:Av fm [] (es.take n).flatten (cells.toList.take (n*ti.el)):=by
          have:=Av.take c7 (n*ti.el)
          rw[<-ou es n c5,List.take_take,Nat.min_eq_left (by omega)]at this
          exact this
         have wz:Av fm [] (es.drop (n+new.length)).flatten ((cells.toList.take (es.length*ti.el)).drop (n*ti.el+us.length)):=by
          have:=Av.drop c7 (n*ti.el+us.length)
          have e2:n*ti.el+us.length=(n+new.length)*ti.el:=by rw[cH,Nat.add_mul]
          rw[e2]at this ⊢
          rw[<-vV es (n+new.length) c5]at this
          exact this
         have hOs:dw (es.take n++(new++es.drop (n+new.length))) ti.el:=
          pn (fun d hd=>c5 d (BZ hd)) (pn ho (fun d hd=>c5 d (Cl hd)))
         have hVs:Av fm [] (es.take n++(new++es.drop (n+new.length))).flatten (cells.toList.take (n*ti.el)++(us++(cells.toList.take (es.length*ti.el)).drop (n*ti.el+us.length))):=by
          rw[List.flatten_append,List.flatten_append]
          exact aoe.append (bo.append wz)
         have hFs:∀ x∈(es.take n++(new++es.drop (n+new.length))).flatten,x.flat=true:=by
          intro x hx
          rw[List.flatten_append,List.flatten_append]at hx
          have oM:∀ x∈es.flatten,x.flat=true:=c8
          rcases Bb.1 hx with hx|hx
          ·obtain⟨d,hd,hxd⟩:=List.mem_flatten.1 hx
           exact oM x (List.mem_flatten.2 ⟨d,BZ hd,hxd⟩)
          ·rcases Bb.1 hx with hx|hx
           ·exact dI x hx
           ·obtain⟨d,hd,hxd⟩:=List.mem_flatten.1 hx
            exact oM x (List.mem_flatten.2 ⟨d,Cl hd,hxd⟩)
         have hs:=h.xD hg aJ (es':=es.take n++(new++es.drop (n+new.length))) (vs':=cells.toList.take (n*ti.el)++us++cells.toList.drop (n*ti.el+us.length))
          (us:=cells.toList.take (n*ti.el)++(us++(cells.toList.take (es.length*ti.el)).drop (n*ti.el+us.length))) (rest:=cells.toList.drop (es.length*ti.el))
          (by omega) (by omega) hOs (by
           have:n*ti.el+us.length<=cells.size:=by omega
           simp;omega) hVs hFs (by
           rw[Cu,Cu,Cu]
           congr 2
           have e3:cells.toList.drop (n*ti.el+us.length)=(cells.toList.take (es.length*ti.el)).drop (n*ti.el+us.length)++cells.toList.drop (es.length*ti.el):=by
            rw[List.drop_take]
            have e4:es.length*ti.el=(n*ti.el+us.length)+(es.length*ti.el - (n*ti.el+us.length)):=by omega
            conv=>rhs;arg 2;rw[e4,<-List.drop_drop]
            rw[C4]
           exact e3)
         rw[anI,kD]at hs
         have iK:cL ts l k (.arr g (some (c,aZ)))=ts:=sX aJ
         rw[iK]at hs
         refine⟨fm,ts,_,_,.inl (hr _ _ bm),hs,?_,AM.refl _ _,As.refl _,fun _ _ _ h=>h⟩
         exact .loc l k ti.el 0 (n+new.length) g c aZ aZ _ aJ (by omega) (by omega) (by omega) (fun _=>by simp)
      ·cases e
    ·cases e
   ·cases e
  ·cases e
 ·cases e
theorem amJ (hT:AQ P T) (ht:T t=some ti) (h:HR N0 W0 fm ts H w) (hH:0<H.length) {kb:Nat} (hk:∀ k,kb<=k->k<kb+16->tb ts 0 k=none) {ty:TypeId}{x y:AV}{v u:Value}{d:De}
  (hv:VR fm ts x v) (hu:VR fm ts y u) (e:kr H.get kb ti x y=some d) {r:Result Next} (hr:∀ a w',(Builtin.append_ #[t,t] ty #[v,u]).run P w=.ok a w'->r=.ok (.value a) w'):BO N0 W0 fm ts H w kb r d:=by
 refine adv hT ht h hH hk hv ?_ e hr
 intro new el inf z dE bZ bd ax hz
 obtain⟨a,cp,us,rfl,ho,bo,dI,bz⟩:=h.elems hu dE
 have cH:us.length=new.length*ti.el:=by rw[<-bo.1];exact ku _ _ ho
 have aeh:0<us.length->∃ ad,a=some ad/\∀ j u,us[j]?=some u->w.cell? (ad.add j)=some u:=by
  intro ae
  obtain⟨ad,rfl,_⟩:=bz 0 _ (gG ae)
  refine⟨ad,rfl,fun j u hu=>?_⟩
  obtain⟨ad',h1,h2⟩:=bz j u hu
  cases h1;exact h2
 refine⟨us,ho,bo,dI,?_,?_,?_,?_⟩
 ·intro hn base m c hm
  rw[hn]
  exact aqy (P:=P) (w:=w) bZ bd ty base a m c cp hm
 ·intro hl he hn me wg
  obtain⟨ad,rfl,yY⟩:=aeh (by rw[hl];exact Nat.mul_pos hn he)
  exact run_append_nil (P:=P) w t ty el inf z bZ bd hz ad new.length cp us hl yY hn me wg
 ·intro hl he hn b dy fX nQ sa zA hg me e9
  obtain⟨ad,rfl,yY⟩:=aeh (by rw[hl];exact Nat.mul_pos hn he)
  exact run_append_grow (P:=P) w t ty el inf z bZ bd hz b dy fX nQ sa zA ad new.length cp us hl yY hg me e9
 ·intro hl he hn g dy fX cur hg h1 mX hf
  obtain⟨ad,rfl,yY⟩:=aeh (by rw[hl];exact Nat.mul_pos hn he)
  exact run_append_room (P:=P) w t ty el inf bZ bd g dy fX cur hg ad new.length cp us hl yY h1 mX hf
theorem xI (s:ByteArray):(kR s).length=s.size:=by unfold kR;rw[Bh];rfl
theorem ajt (s:ByteArray):(kR s).flatten=s.data.toList.map fun c=>AV.int .u8 (c.toNat:Int):=by
 unfold kR
 induction s.data.toList with
 |nil=>rfl
 |cons x l ih=>simp[ih]
theorem amH (hT:AQ P T) (ht:T t=some ti) (h:HR N0 W0 fm ts H w) (hH:0<H.length) {kb:Nat} (hk:∀ k,kb<=k->k<kb+16->tb ts 0 k=none) {tx ty:TypeId}{x:AV}{v:Value}{s:ByteArray}{d:De}
  (hv:VR fm ts x v) (hu:P.underlying tx=some .string) (h1:ti.el=1) (e:kr H.get kb ti x (.sl 1 (kR s))=some d) {r:Result Next} (hr:∀ a w',(Builtin.append_ #[t,tx] ty #[v,.string s]).run P w=.ok a w'->r=.ok (.value a) w'):BO N0 W0 fm ts H w kb r d:=by
 refine adv hT ht h hH hk hv ?_ e hr
 intro new el inf z dE bZ bd ax hz
 have zZ:inf.size=1:=by omega
 simp only[jd,if_pos h1.symm,oE]at dE
 subst dE
 have hS:∀ w:World,Src P inf.size tx (.string s) (kR s).length (byteCells s) w:=fun w=>by rw[zZ,xI];exact Src.ofString w hu s
 refine⟨byteCells s,?_,?_,?_,?_,?_,?_,?_⟩
 ·intro c hc
  obtain⟨_,_,rfl⟩:=List.mem_map.1 hc
  rw[h1];rfl
 ·rw[ajt]
  refine⟨by unfold byteCells;simp,?_⟩
  intro i x v hx hv
  unfold byteCells at hv
  rw[BA,mS]at hx hv
  obtain⟨p,hp,rfl⟩:=hx
  obtain⟨q,hq,rfl⟩:=hv
  rw[hp]at hq
  obtain rfl:=oi hq
  exact .int _ _
 ·rw[ajt]
  intro x hx
  obtain⟨_,_,rfl⟩:=List.mem_map.1 hx
  rfl
 ·intro hn base m c hm
  have h0:s.size=0:=by rw[<-xI];exact hn
  cases base<;>simp[Builtin.append_,run_underlying bZ,run_underlying hu,sizeOf,typeInfo,bd,Builtin.lenOf,h0,hm,Builtin.firstCells,storeCells]
 ·intro hl _ hn me wg
  have:=run_append_grow_src (P:=P) w t tx ty el inf z bZ bd hz none 0 0 [] (run_firstCells_none w.drew inf.size 0 0 0) (.string s) (kR s).length (byteCells s) (hS w) (by omega) (by simpa using me) (by rw[Co,nextslicecap_zero hn];exact wg)
  simpa using this
 ·intro hl _ hn b dy fX nQ sa zA hg me e9
  have hf:=run_firstCells_some (P:=P) w.drew inf.size dy b dy fX nQ sa (by simpa using zA)
  have:=run_append_grow_src (P:=P) w t tx ty el inf z bZ bd hz (some b) dy fX nQ hf (.string s) (kR s).length (byteCells s) (hS w) hg me e9
  simpa using this
 ·intro hl _ hn g dy fX cur hg h1 mX hf
  have fG:=run_storeCells_at P g (dy*inf.size) el (byteCells s) 0 cur w hg (by simpa using hf) h1
  simp only[Nat.add_zero]at fG
  have hc:=(hS w).cells
  have hle:dy+s.size<=fX:=by rw[<-xI];exact mX
  have jV:(Builtin.firstCells inf.size s.size (.string s)).run P w=.ok (byteCells s).toArray w:=by rw[<-xI];exact hc
  simp[Builtin.append_,run_underlying bZ,run_underlying hu,sizeOf,typeInfo,bd,Builtin.lenOf,hle,jV,Addr.add_lit,fG,xI]
theorem amI (hT:AQ P T) (ht:T t=some ti) (h:HR N0 W0 fm ts H w) (hH:0<H.length) {kb:Nat} (hk:∀ k,kb<=k->k<kb+16->tb ts 0 k=none) {tx ty:TypeId}{kn kq:IntKind}{x:AV}{v:Value}{n:Int}{d:De}
  (hv:VR fm ts x v) (hu:P.underlying tx=some (.int kn)) (e:vS H.get kb ti x n=some d) {r:Result Next} (hr:∀ a w',(Builtin.append_ #[t,tx] ty #[v,.int kq n]).run P w=.ok a w'->r=.ok (.value a) w'):BO N0 W0 fm ts H w kb r d:=by
 unfold vS at e
 split at e
 ·rename_i hc
  obtain⟨h0,⟨zI,mX⟩,ar9⟩:=hc
  obtain⟨m,rfl⟩:∃ m:Nat,n=m:=⟨n.toNat,by omega⟩
  simp only[Cn]at e zI mX
  refine adv hT ht h hH hk hv ?_ e hr
  intro new el inf z dE bZ bd ax hz
  simp only[jd,if_true,oE]at dE
  subst dE
  have hd:ti.d=.slice el:=by
   unfold kr at e
   split at e
   ·rename_i el' hd
    have:=(hT.slice ht hd).1
    rw[bZ]at this;cases this;exact hd
   ·cases e
  obtain⟨_,⟨asn,ahP,_,hb,z',eE,iM⟩,_⟩:=hT.slice ht hd
  rw[bd]at ahP
  obtain rfl:=oi ahP
  rw[hz]at eE
  obtain rfl:=oi eE
  have qp:=(hT.ok ht).fR
  have ml:z.cells.size=ti.el:=by have:=(iM fm []).1;simp at this;omega
  have qx:=aaf z.cells m (by omega)
  have su:(Builtin.zeroCells z.cells m).toList=(List.replicate m z.cells.toList).flatten:=qx
  have qH:(Builtin.zeroCells z.cells m).size=m*ti.el:=by rw[size_zeroCells,ml]
  have kF:Av fm [] (List.replicate m ti.fR).flatten (Builtin.zeroCells z.cells m).toList:=by rw[su];exact Av.replicate (iM fm []) m
  have hw:IntKind.i64.wrap (m:Int)=m:=by rw[IntKind.wrap_i64];omega
  have anl:¬ (281474976710656<(m:Int)*(inf.bytes:Int)):=by rw[<-Int.natCast_mul,hb];omega
  have zu:¬ ((m:Int)<0):=by omega
  refine⟨(Builtin.zeroCells z.cells m).toList,xo qp m,kF,yF (hT.ok ht).abA m,?_,?_,?_,?_⟩
  ·intro hn base m' c hm
   have rZ:m=0:=by simpa using hn
   subst rZ
   have mj:IntKind.i64.wrap 0=0:=by rw[IntKind.wrap_i64];omega
   cases base<;>simp[Builtin.append_,run_underlying bZ,run_underlying hu,sizeOf,typeInfo,bd,asInt,asIntOf,mj,hm,storeCells]
  ·intro hl _ hn me wg
   simp only[CP]at hl hn me wg ⊢
   have:=Lib.run_append_nil_zeros (P:=P) w t tx ty el inf z kq kn bZ hu bd hz m hn (by omega) me wg
   simpa using this
  ·intro hl _ hn b dy fX nQ sa zA hg me e9
   simp only[CP]at hl hn hg me e9 ⊢
   have hf:=run_firstCells_some (P:=P) w.drew inf.size dy b dy fX nQ sa (by simpa using zA)
   have:=Lib.run_append_grow_zeros (P:=P) w t tx ty el inf z kq kn bZ hu bd hz (some b) dy fX nQ hf m hn (by omega) hg me (by rw[hb];omega) e9
   simpa using this
  ·intro hl _ hn g dy fX cur hg h1 ux hf
   simp only[CP]at hn ux ⊢
   have fG:=run_storeCells_at P g (dy*inf.size) el (Builtin.zeroCells z.cells m).toList 0 cur w hg (by simpa using hf) h1
   simp only[Nat.add_zero]at fG
   have kE:¬ (m*inf.size=0):=Nat.mul_ne_zero (by omega) (by omega)
   simp[Builtin.append_,run_underlying bZ,run_underlying hu,sizeOf,typeInfo,zeroValue,bd,hz,asInt,asIntOf,hw,zu,anl,ux,kE,Addr.add_lit,fG]
 ·cases e
end
theorem xp {sz:Nat}{es:List (List AV)} (h:dw es sz) (n:Nat):dw (es.take n) sz:=fun c hc=>h c (BZ hc)
theorem aal {sz:Nat}{es:List (List AV)} (h:dw es sz) (n:Nat):dw (es.drop n) sz:=fun c hc=>h c (Cl hc)
theorem ahn {sz:Nat}{es new:List (List AV)} (i:Nat) (he:dw es sz) (hn:dw new sz):
  (es.take i++(new++es.drop (i+new.length))).flatten=overwrite es.flatten (i*sz) new.flatten:=by
 simp only[List.flatten_append,overwrite]
 rw[ou es i he,vV es _ he,ku sz new hn,Nat.add_mul]
section
variable {P:Program}{T:AN}{N0:Nat}{W0:World}{fm:FM}{ts:List Al}{H:Heap}{w:World}{t:TypeId}{ti:TI}
theorem aje {a:Option Addr}{m cp sz:Nat}{us:List Value} (cH:us.length=m*sz) (bz:∀ j u,us[j]?=some u->∃ ad,a=some ad/\w.cell? (ad.add j)=some u) (k:Nat) (hk:k<=m):
  (Builtin.firstCells sz k (.slice a m cp)).run P w=.ok (us.take (k*sz)).toArray w:=by
 have hmul:k*sz<=m*sz:=BW _ hk
 cases a with
 |none=>
  have:us=[]:=by
   cases us with
   |nil=>rfl
   |cons u us=>obtain⟨_,h,_⟩:=bz 0 u rfl;cases h
  subst this
  simp[Builtin.firstCells]
 |some ad=>
  refine run_firstCells_some (P:=P) w sz k ad m cp (us.take (k*sz)) (by rw[Ba];omega) ?_
  intro j v hv
  rw[BS]at hv
  split at hv
  ·obtain⟨ad',h1,h2⟩:=bz j v hv
   cases h1;exact h2
  ·cases hv
theorem amP (hT:AQ P T) (ht:T t=some ti) (h:HR N0 W0 fm ts H w) {kb:Nat}{ty:TypeId}{x y:AV}{v u:Value}{d:De}
  (hv:VR fm ts x v) (hu:VR fm ts y u) (e:tO H.get ti x y=some d) {r:Result Next} (hr:∀ a w',(Builtin.copy_ #[t,t] ty #[v,u]).run P w=.ok a w'->r=.ok (.value a) w'):BO N0 W0 fm ts H w kb r d:=by
 unfold tO at e
 split at e
 ·rename_i el hd
  obtain⟨bZ,⟨inf,bd,ax,hb,z,hz,iM⟩,_⟩:=hT.slice ht hd
  split at e
  ·rename_i src zP
   obtain⟨a,cp,us,rfl,ho,bo,dI,bz⟩:=h.elems hu zP
   have cH:us.length=src.length*ti.el:=by rw[<-bo.1];exact ku _ _ ho
   have zK:∀ (base:Option Addr) (n aZ:Nat),min src.length n=0->(Builtin.copy_ #[t,t] ty #[.slice base n aZ,.slice a src.length cp]).run P w=.ok (goInt 0) w:=by
    intro base n aZ hm
    have hf:=aje (P:=P) (w:=w) (cp:=cp) cH bz 0 (Nat.zero_le _)
    have mW:Nat.min src.length n=0:=hm
    cases base<;>simp[Builtin.copy_,run_underlying bZ,Builtin.lenOf,sizeOf,typeInfo,bd,ax,mW,hf,storeCells]
   have ah0:∀ (c o n aZ:Nat) (cells:Array Value) (et:TypeId),w.heap[c]?=some (.cells cells et (0,0))->o+min src.length n*ti.el<=cells.size->
     (Builtin.copy_ #[t,t] ty #[.slice (some ⟨c,o,none⟩) n aZ,.slice a src.length cp]).run P w=.ok (goInt (min src.length n:Nat)) (w.setRow c (cells.toList.take o++us.take (min src.length n*ti.el)++cells.toList.drop (o+(us.take (min src.length n*ti.el)).length)).toArray):=by
    intro c o n aZ cells et hc hle
    have hf:=aje (P:=P) (w:=w) (cp:=cp) cH bz (min src.length n) (Nat.min_le_left _ _)
    have hmul:min src.length n*ti.el<=src.length*ti.el:=BW _ (Nat.min_le_left _ _)
    have fG:=run_storeCells_at P c o et (us.take (min src.length n*ti.el)) 0 cells w hc (by rw[Ba];omega) (fun v hv=>bo.qR dI v (BZ hv))
    simp only[Nat.add_zero]at fG
    have mW:Nat.min src.length n=min src.length n:=rfl
    simp only[Builtin.copy_,Sem.run_bind,run_underlying bZ,Result.andThen_ok,Builtin.lenOf,sizeOf,typeInfo,run_program,bd,ax,mW,Sem.run_pure,hf,fG,List.getElem?_toArray,BP,Cc]
   split at e
   ·obtain rfl:=oi e
    cases hv
    exact .pure h (hr _ _ (zK none 0 0 (by simp))) (.int _ _)
   ·rename_i l k esz i n g
    split at e
    ·rename_i et aN es hg
     split at e
     ·rename_i hc
      obtain⟨rfl,rfl,kD,bC⟩:=hc
      obtain rfl:=oi e
      have bT:=h.ao l k _ hg
      have rX:=Heap.rL H _ _ _ hg
      have same:min src.length n=0->es.take i++(src.take n++es.drop (i+min src.length n))=es:=by
       intro hm
       have:src.take n=[]:=by
        apply List.eq_nil_of_length_eq_zero;rw[Ba];omega
       rw[hm,this];simp
      have nothing:min src.length n=0->∀ (base:Option Addr) (aZ:Nat),v=.slice base n aZ->BO N0 W0 fm ts H w kb r ⟨.int .i64 (min src.length n),[(l,k,some (.arr et ti.el (es.take i++(src.take n++es.drop (i+min src.length n)))))]⟩:=by
       rintro hm base aZ rfl
       rw[same hm]
       refine⟨fm,ts,w,_,.inl (hr _ _ (zK base n aZ hm)),h.ach hg,?_,AM.refl _ _,As.refl _,fun _ _ _ h=>h⟩
       have e0:(min (src.length:Int) (n:Int))=0:=by omega
       rw[e0]
       exact .int _ _
      cases hv with
      |cN _ _ _ _ _ _ a' aZ aJ=>rw[aJ]at bT;cases bT
      |cO _ _ _ _ _ _ a' aZ m' c aJ eO=>rw[aJ]at bT;have:=bT.gB.1;omega
      |cr _ _ _ a1 aJ=>exact nothing (by simp) a1 0 rfl
      |loc _ _ _ _ _ _ c cap aZ a' aJ zj bM cj ha=>
       rw[aJ]at bT
       obtain⟨hA,hN⟩:=bT.gB.2.2 c cap rfl
       obtain⟨cells,c1,c2,c3,c4,c5,c6,c7,c8⟩:=hA.flat
       by_cases hm:min src.length n=0
       ·exact nothing hm (some a') aZ rfl
       ·have gH:=ha (.inl (by omega))
        subst gH
        have hmul:(i+min src.length n)*ti.el<=es.length*ti.el:=BW _ (by omega)
        have uq:es.length*ti.el<=cells.size:=by rw[c2];exact BW _ c3
        rw[Nat.add_mul]at hmul
        have bm:=ah0 c (i*ti.el) n aZ cells et c1 (by omega)
        have aei:src.take n=src.take (min src.length n):=by
         rw[<-CO (l:=src),List.take_take,List.take_take,CO];congr 1;omega
        have gn:(src.take (min src.length n)).length=min src.length n:=by rw[Ba];omega
        have kF:Av fm [] (src.take (min src.length n)).flatten (us.take (min src.length n*ti.el)):=by rw[ou src _ ho];exact bo.take _
        have w9:∀ x∈(src.take (min src.length n)).flatten,x.flat=true:=by
         rw[ou src _ ho];exact fun x hx=>dI x (BZ hx)
        have zT:(us.take (min src.length n*ti.el)).length=min src.length n*ti.el:=by
         rw[Ba,cH];exact Nat.min_eq_left (BW _ (Nat.min_le_left _ _))
        have oT:=ahn i c5 (xp ho (min src.length n))
        rw[gn]at oT
        have uh:(es.take i++(src.take (min src.length n)++es.drop (i+min src.length n))).length=es.length:=by simp;omega
        rw[aei]
        have hs:=h.xD hg aJ (es':=es.take i++(src.take (min src.length n)++es.drop (i+min src.length n)))
         (vs':=cells.toList.take (i*ti.el)++us.take (min src.length n*ti.el)++cells.toList.drop (i*ti.el+(us.take (min src.length n*ti.el)).length))
         (us:=(cells.toList.take (es.length*ti.el)).take (i*ti.el)++(us.take (min src.length n*ti.el)++(cells.toList.take (es.length*ti.el)).drop (i*ti.el+(us.take (min src.length n*ti.el)).length))) (rest:=cells.toList.drop (es.length*ti.el))
         (by rw[uh];exact Be _) (by rw[uh];exact c3) (pn (xp c5 _) (pn (xp ho _) (aal c5 _)))
         (by rw[A9,A9,zT,Ba,Bp,Array.length_toList];omega)
         (by rw[oT];exact qU c7 kF (by rw[kF.1,zT,ku _ _ c5];omega))
         (by rw[oT];exact qV c8 w9)
         (aco _ _ _ _ (by rw[zT];omega) (by simpa using uq))
        rw[uh,kD,sX aJ]at hs
        refine⟨fm,ts,_,_,.inl (hr _ _ bm),hs,?_,AM.refl _ _,As.refl _,fun _ _ _ h=>h⟩
        have e0:(min (src.length:Int) (n:Int))=((min src.length n:Nat):Int):=by omega
        rw[e0]
        exact .int _ _
     ·cases e
    ·cases e
   ·rename_i l k esz o n
    split at e
    ·rename_i cs hg
     split at e
     ·rename_i hc
      obtain⟨rfl,gj,rfl,kH⟩:=hc
      obtain rfl:=oi e
      cases hv with
      |bG _ _ _ _ _ c aZ a' aJ bM ha=>
       obtain⟨cells,et,c1,c2,c3,c4⟩:=h.adf hg aJ
       by_cases hm:min src.length n=0
       ·have:src.take n=[]:=by
         apply List.eq_nil_of_length_eq_zero;rw[Ba];omega
        have e1:overwrite cs o (src.take n).flatten=cs:=by rw[this];simp[overwrite]
        rw[e1]
        refine⟨fm,ts,w,_,.inl (hr _ _ (zK (some a') n aZ hm)),h.ach hg,?_,AM.refl _ _,As.refl _,fun _ _ _ h=>h⟩
        have e0:(min (src.length:Int) (n:Int))=0:=by omega
        rw[e0]
        exact .int _ _
       ·have gH:=ha (by omega)
        subst gH
        have bm:=ah0 c o n aZ cells et c1 (by rw[gj,Nat.mul_one];omega)
        have aei:src.take n=src.take (min src.length n):=by
         rw[<-CO (l:=src),List.take_take,List.take_take,CO];congr 1;omega
        have zT:(us.take (min src.length n*ti.el)).length=min src.length n*ti.el:=by
         rw[Ba,cH];exact Nat.min_eq_left (BW _ (Nat.min_le_left _ _))
        have kF:Av fm [] (src.take (min src.length n)).flatten (us.take (min src.length n*ti.el)):=by rw[ou src _ ho];exact bo.take _
        have w9:∀ x∈(src.take (min src.length n)).flatten,x.flat=true:=by
         rw[ou src _ ho];exact fun x hx=>dI x (BZ hx)
        rw[aei]
        have hs:=h.acq hg aJ (cs':=overwrite cs o (src.take (min src.length n)).flatten) (qU c3 (kF.mono (AY.refl _) (As.nil _)) (by rw[kF.1,zT,gj];omega)) (qV c4 w9)
        rw[<-Cu]at hs
        refine⟨fm,ts,_,_,.inl (hr _ _ bm),hs,?_,AM.refl _ _,As.refl _,fun _ _ _ h=>h⟩
        have e0:(min (src.length:Int) (n:Int))=((min src.length n:Nat):Int):=by omega
        rw[e0]
        exact .int _ _
     ·cases e
    ·cases e
   ·cases e
  ·cases e
 ·cases e
theorem amN (hT:AQ P T) (ht:T t=some ti) (h:HR N0 W0 fm ts H w) {kb:Nat}{ty:TypeId}{l:List TypeId}{x:AV}{v:Value}{d:De}
  (hv:VR fm ts x v) (e:tN H.get ti x=some d) {r:Result Next} (hr:∀ a w',(Builtin.clear_ (t::l).toArray ty #[v]).run P w=.ok a w'->r=.ok (.value a) w'):BO N0 W0 fm ts H w kb r d:=by
 have unit:∀ fm ts,VR fm ts (.ar []) (.tuple #[]):=fun fm ts=>.ar [] #[] rfl (fun i x v h=>by simp at h)
 unfold tN at e
 split at e
 ·rename_i el hd
  obtain⟨bZ,⟨inf,bd,ax,hb,z,hz,iM⟩,_⟩:=hT.slice ht hd
  have qp:=(hT.ok ht).fR
  have ml:z.cells.size=ti.el:=by have:=(iM fm []).1;simp at this;omega
  split at e
  ·obtain rfl:=oi e
   cases hv
   exact .pure h (hr (.tuple #[]) w (by simp[Builtin.clear_,run_underlying bZ])) (unit _ _)
  ·rename_i lv k esz i n g
   split at e
   ·rename_i et aN es hg
    split at e
    ·rename_i hc
     obtain⟨rfl,rfl,kD,bC⟩:=hc
     obtain rfl:=oi e
     have bT:=h.ao lv k _ hg
     have nothing:n=0->∀ (base:Option Addr) (aZ:Nat),v=.slice base 0 aZ->BO N0 W0 fm ts H w kb r ⟨.ar [],[(lv,k,some (.arr et ti.el (es.take i++(List.replicate n ti.fR++es.drop (i+n)))))]⟩:=by
      rintro rfl base aZ rfl
      have e1:es.take i++(List.replicate 0 ti.fR++es.drop (i+0))=es:=by simp
      rw[e1]
      exact⟨fm,ts,w,_,.inl (hr (.tuple #[]) w (by cases base<;>simp[Builtin.clear_,run_underlying bZ])),h.ach hg,unit _ _,AM.refl _ _,As.refl _,fun _ _ _ h=>h⟩
     cases hv with
     |cN _ _ _ _ _ _ a' aZ aJ=>rw[aJ]at bT;cases bT
     |cO _ _ _ _ _ _ a' aZ m' c aJ eO=>rw[aJ]at bT;have:=bT.gB.1;omega
     |cr _ _ _ a1 aJ=>exact nothing rfl a1 0 rfl
     |loc _ _ _ _ _ _ c cap aZ a' aJ zj bM cj ha=>
      rw[aJ]at bT
      obtain⟨hA,hN⟩:=bT.gB.2.2 c cap rfl
      obtain⟨cells,c1,c2,c3,c4,c5,c6,c7,c8⟩:=hA.flat
      by_cases hm:n=0
      ·exact nothing hm (some a') aZ (by rw[hm])
      ·have gH:=ha (.inl (by omega))
       subst gH
       have qx:=aaf z.cells n (by omega)
       have su:(Builtin.zeroCells z.cells n).toList=(List.replicate n z.cells.toList).flatten:=qx
       have qH:(Builtin.zeroCells z.cells n).toList.length=n*ti.el:=by rw[Array.length_toList,size_zeroCells,ml]
       have kF:Av fm [] (List.replicate n ti.fR).flatten (Builtin.zeroCells z.cells n).toList:=by rw[su];exact Av.replicate (iM fm []) n
       have w9:=yF (hT.ok ht).abA n
       have hmul:(i+n)*ti.el<=es.length*ti.el:=BW _ (by omega)
       have uq:es.length*ti.el<=cells.size:=by rw[c2];exact BW _ c3
       rw[Nat.add_mul]at hmul
       have fG:=run_storeCells_at P c (i*ti.el) et (Builtin.zeroCells z.cells n).toList 0 cells w c1 (by rw[qH];omega) (kF.qR w9)
       simp only[Nat.add_zero]at fG
       obtain⟨n',rfl⟩:∃ n',n=n'+1:=⟨n - 1,by omega⟩
       have bm:(Builtin.clear_ (t::l).toArray ty #[.slice (some ⟨c,i*ti.el,none⟩) (n'+1) aZ]).run P w=.ok (.tuple #[]) (w.setRow c (cells.toList.take (i*ti.el)++(Builtin.zeroCells z.cells (n'+1)).toList++cells.toList.drop (i*ti.el+(Builtin.zeroCells z.cells (n'+1)).toList.length)).toArray):=by
        simp only[Builtin.clear_,Sem.run_bind,run_underlying bZ,Result.andThen_ok,zeroValue,typeInfo,run_program,bd,hz,Sem.run_pure,fG,List.getElem?_toArray,BP]
       have oT:=ahn i c5 (xo qp (n'+1))
       simp only[CP]at oT
       have uh:(es.take i++(List.replicate (n'+1) ti.fR++es.drop (i+(n'+1)))).length=es.length:=by simp;omega
       have hs:=h.xD hg aJ (es':=es.take i++(List.replicate (n'+1) ti.fR++es.drop (i+(n'+1))))
         (vs':=cells.toList.take (i*ti.el)++(Builtin.zeroCells z.cells (n'+1)).toList++cells.toList.drop (i*ti.el+(Builtin.zeroCells z.cells (n'+1)).toList.length))
         (us:=(cells.toList.take (es.length*ti.el)).take (i*ti.el)++((Builtin.zeroCells z.cells (n'+1)).toList++(cells.toList.take (es.length*ti.el)).drop (i*ti.el+(Builtin.zeroCells z.cells (n'+1)).toList.length))) (rest:=cells.toList.drop (es.length*ti.el))
         (by rw[uh];exact Be _) (by rw[uh];exact c3) (pn (xp c5 _) (pn (xo qp _) (aal c5 _)))
         (by rw[A9,A9,qH,Ba,Bp,Array.length_toList];omega)
         (by rw[oT];exact qU c7 kF (by rw[kF.1,qH,ku _ _ c5];omega))
         (by rw[oT];exact qV c8 w9)
         (aco _ _ _ _ (by rw[qH];omega) (by simpa using uq))
       rw[uh,kD,sX aJ]at hs
       exact⟨fm,ts,_,_,.inl (hr _ _ bm),hs,unit _ _,AM.refl _ _,As.refl _,fun _ _ _ h=>h⟩
    ·cases e
   ·cases e
  ·cases e
 ·cases e
end
section
variable {P:Program}{T:AN}{N0:Nat}{W0:World}{fm:FM}{ts:List Al}{H:Heap}{w:World}{t:TypeId}{ti:TI}
theorem AQ.apn (hT:AQ P T) (h:T t=some ti) (hd:ti.d≠.iface):∃ d,P.underlying t=some d/\∀ m,d≠.interface m:=by
 have:=hT t ti h
 unfold nr at this
 simp only[A1]at this
 have h7:=this.2
 split at h7<;>rename_i h1 h2<;>first|(exact absurd h1 hd)|(exact⟨_,h2,by intro m;simp⟩)|(cases h7)
theorem aeV {tm:Tm}{a:Act} (h:CZ fm ts tm a):∀ (l:List (Nat×Operand)) (ys:List (Nat×AV)),partsOf tm l=some ys->Ee fm ts ys (l.map fun x=>(x.1,a.eval x.2))
 |[],ys,e=>by simp only[partsOf,oE]at e;subst e;trivial
 |(i,x)::l,ys,e=>by
  simp only[partsOf]at e
  split at e
  ·rename_i p q hp hq
   obtain rfl:=oi e
   exact⟨rfl,sK h hp,aeV h l q hq⟩
  ·cases e
theorem BO.iR {kb:Nat}{r:Result Next}{q:Option AV}{d:De} (h:HR N0 W0 fm ts H w) (e:ey q=some d) (hr:∀ x,q=some x->∃ v,r=.ok (.value v) w/\VR fm ts x v):BO N0 W0 fm ts H w kb r d:=by
 obtain⟨x,hx,rfl⟩:=afZ e
 obtain⟨v,h1,h2⟩:=hr x hx
 exact .pure h h1 h2
theorem alf {x y:AV}{v:Value}{o:Oper}{a:Act}{z:Operand} (ho:o.op=.nilCheck z) (hz:a.eval z=v) (hv:VR fm ts x v) (e:aa9 x=some y):
  ∃ u,(execOp a.eval o).run P w=.ok (.value u) w/\VR fm ts y u:=by
 unfold aa9 at e
 split at e
 ·obtain rfl:=oi e
  refine⟨v,?_,hv⟩
  cases hv;simp[execOp,ho,hz]
 ·obtain rfl:=oi e
  refine⟨v,?_,hv⟩
  cases hv<;>simp[execOp,ho,hz]
 ·obtain rfl:=oi e
  refine⟨v,?_,hv⟩
  cases hv;simp[execOp,ho,hz]
 ·split at e
  ·obtain rfl:=oi e
   refine⟨v,?_,hv⟩
   cases hv;simp[execOp,ho,hz]
  ·cases e
 ·cases e
theorem HR.up0 {fm':FM}{w':World} (h:HR N0 W0 fm ts H w) (hb:Below w.heap.size w w') (bw:AM w.heap.size fm fm') (bC:∀ b o v,fm' b o=some v->w'.cell? ⟨b,o,none⟩=some v) (an3:E3 w.heap.size fm' w'):HR N0 W0 fm' ts H w':=by
 have h1:=h.world (w':=w') (fun i hi=>hb.block i hi) (hb.mono h.size)
 refine⟨h1.len,fun l k b hg=>(h1.ao l k b hg).mono bw.le (As.refl _) (fun _ _=>rfl),h1.inj,bC,?_,h1.dk,h1.size,h1.cX,fun b o v hN hv ht=>?_⟩
 rotate_right
 ·by_cases bT:b<w.heap.size
  ·rw[bw.fix b o bT]at hv
   rw[bw.fit b bT]at ht
   exact(h.ej b o v hN hv ht).of (hb.block b bT)
  ·exact an3 b o v (by omega) hv ht
 intro l k b c o hg ht
 rw[bw.fix c o ((h.ao l k b hg).lt ht).1]
 exact h.df l k b c o hg ht
theorem ak6 (hT:AQ P T) {src dst:TypeId}{si di:TI} (hs:T src=some si) (hd:T dst=some di) (h:HR N0 W0 fm ts H w) {x:AV}{v:Value} (hv:VR fm ts x v) {kb:Nat}{d:De} (e:ey (vr T si di x)=some d)
  {r:Result Next} (hr:∀ a w',(convert src dst v).run P w=.ok a w'->r=.ok (.value a) w'):BO N0 W0 fm ts H w kb r d:=by
 unfold ey at e
 rw[mS]at e
 obtain⟨y,e,rfl⟩:=e
 unfold vr at e
 split at e
 ·rename_i el rR
  split at e
  ·rename_i s oX
   split at e
   ·rename_i te hte
    split at e
    ·rename_i hu8
     split at e
     ·rename_i ax
      obtain rfl:=oi e
      cases hv
      have bm:=run_bytes_of_string (P:=P) w src dst el s (hT.str hs oX) (hT.slice hd rR).1 (hT.int hte hu8)
      have mV:=grownCap_ge w s.size 0 el
      have hle:=grownCap_le_maxLen w s.size 0 el (by simp[maxLen];omega)
      generalize hcp:grownCap w s.size 0 el=cp at bm mV hle
      generalize zV:w.drew.alloc (.cells (bytesRow s cp) el ((bytesRow s cp).size,(bytesRow s cp).size+1))=w' at bm
      have dE:w'.heap[w.heap.size]?=some (.cells (bytesRow s cp) el ((bytesRow s cp).size,(bytesRow s cp).size+1)):=by
       rw[<-zV];show (w.heap.push _)[w.heap.size]?=_;simp
      have mg:Below w.heap.size w w':=by
       rw[<-zV];exact((Below.refl _ w).drew).alloc (Be _) _
      have bz:∀ o,w'.cell? ⟨w.heap.size,o,none⟩=(bytesRow s cp)[o]?:=by
       intro o;simp[World.cell?,dE]
      obtain⟨fm',oN,uB⟩:∃ fm':FM,(∀ b o,fm' b o=if b=w.heap.size then w'.cell? ⟨b,o,none⟩ else fm b o)/\∀ b,fm'.t b=if b=w.heap.size then 1 else fm.t b:=
       ⟨⟨fun b o=>if b=w.heap.size then w'.cell? ⟨b,o,none⟩ else fm b o,fun b=>if b=w.heap.size then 1 else fm.t b⟩,fun _ _=>rfl,fun _=>rfl⟩
      have hold:∀ b o u,fm b o=some u->b≠w.heap.size:=by
       intro b o u hu
       have ae:=World.block_lt_of_cell? w _ (h.bP b o u hu)
       simp only at ae
       omega
      have bw:AM w.heap.size fm fm':=by
       refine⟨⟨?_,?_⟩,?_,?_,?_⟩
       ·intro b o u hu
        rw[oN,if_neg (hold b o u hu)];exact hu
       ·intro b o u hu
        rw[uB,if_neg (hold b o u hu)]
       ·intro b o hb
        rw[oN,if_neg (by omega)]
       ·intro b hb
        rw[uB,if_neg (by omega)]
       ·intro b o u hu
        by_cases e:b=w.heap.size
        ·right;rw[uB,if_pos e];decide
        ·left;rwa [oN,if_neg e]at hu
      have bC:∀ b o u,fm' b o=some u->w'.cell? ⟨b,o,none⟩=some u:=by
       intro b o u hu
       rw[oN]at hu
       split at hu
       ·exact hu
       ·have h1:=h.bP b o u hu
        have ae:=World.block_lt_of_cell? w _ h1
        rw[<-h1]
        exact World.cell?_of_block (w:=w) (w':=w') (a:=⟨b,o,none⟩) (mg.block b ae)
      refine⟨_,ts,w',_,.inl (hr _ _ bm),h.up0 mg bw bC (fun b o u hb hu ht=>by
       exfalso
       rw[uB]at ht
       split at ht
       ·omega
       ·rename_i bj
        rw[oN,if_neg bj]at hu
        have:=World.block_lt_of_cell? w _ (h.bP b o u hu)
        simp only at this
        omega),?_,⟨bw.le,fun b o hb=>bw.fix b o (Nat.lt_of_lt_of_le hb h.size),fun b hb=>bw.fit b (Nat.lt_of_lt_of_le hb h.size),bw.new⟩,As.refl _,fun _ _ _ h=>h⟩
      have hlen:(kR s).length=s.size:=xI s
      rw[<-hlen]
      refine .sl (kR s) w.heap.size 0 1 cp (fun i _=>.int .u8 ((s.data.toList.getD i 0).toNat:Int)) ⟨by rw[hlen];exact mV,by rw[hlen];simp[maxLen];omega⟩ ?_ ?_ ?_ ?_
      ·intro c hc
       obtain⟨_,_,rfl⟩:=List.mem_map.1 hc
       rfl
      all_goals
       intro i c o x hi hx
       unfold kR at hi
       rw[BA,mS]at hi
       obtain⟨b,hb,rfl⟩:=hi
       obtain rfl:o=0:=by
        have:=(gS.1 hx).1
        simp at this;omega
       simp at hx
       subst hx
      ·refine⟨?_,.inr (by rw[uB,if_pos rfl])⟩
       rw[oN,if_pos rfl,bz,show 0+(i*1+0)=i by omega]
       unfold bytesRow
       have bT:s.data[i]?=some b:=by rw[<-Array.getElem?_toList];exact hb
       obtain⟨ae,_⟩:=Cv.1 bT
       rw[Array.getElem?_append_left (by rw[Array.size_map];exact ae),Array.getElem?_map,bT]
       simp[hb,List.getD_eq_getElem?_getD]
      ·rfl
      ·have:s.data.toList.getD i 0=b:=by simp[List.getD_eq_getElem?_getD,hb]
       simp only[this]
       exact .int _ _
     ·cases e
    ·cases e
   ·cases e
  ·cases e
 ·cases e
theorem ak4 (hT:AQ P T) (h:HR N0 W0 fm ts H w) (hH:0<H.length) {kb:Nat} (hk:∀ k,kb<=k->k<kb+16->tb ts 0 k=none) {b:Builtin}{tys:Array TypeId}{ty:TypeId}{cs:Array Bool}{xs:List AV}{vs:List Value}{d:De}
  (hv:Av fm ts xs vs) (e:nj T H.get kb b tys.toList xs=some d):BO N0 W0 fm ts H w kb ((builtin b tys ty cs vs.toArray).run P w) d:=by
 have one:∀ {x:AV},xs=[x]->∃ v,vs=[v]/\VR fm ts x v:=by
  rintro x rfl
  have:=hv.1
  cases vs with
  |nil=>simp at this
  |cons v vs=>cases vs with
   |nil=>exact⟨v,rfl,hv.2 0 x v rfl rfl⟩
   |cons=>simp at this
 have two:∀ {x y:AV},xs=[x,y]->∃ v u,vs=[v,u]/\VR fm ts x v/\VR fm ts y u:=by
  rintro x y rfl
  have:=hv.1
  cases vs with
  |nil=>simp at this
  |cons v vs=>cases vs with
   |nil=>simp at this
   |cons u vs=>cases vs with
    |nil=>exact⟨v,u,rfl,hv.2 0 x v rfl rfl,hv.2 1 y u rfl rfl⟩
    |cons=>simp at this
 obtain⟨tl⟩:=tys
 unfold nj at e
 split at e
 ·cases e
 ·rename_i t l mi
  simp only at mi
  subst mi
  split at e
  ·cases e
  ·rename_i ti ht
   split at e
   ·split at e
    ·rename_i x
     obtain⟨v,rfl,fi⟩:=one rfl
     refine .iR h e fun y hy=>?_
     obtain⟨u,h1,h2⟩:=ale (P:=P) (w:=w) (l:=l) (ty:=ty) hT ht fi hy
     exact⟨u,by simp only[builtin];exact eA h1,h2⟩
    ·cases e
   ·split at e
    ·rename_i s x
     split at e
     ·rename_i hl
      subst hl
      obtain⟨v,u,rfl,fi,mY⟩:=two rfl
      exact amJ (ty:=ty) hT ht h hH hk fi mY e (fun a w' hr=>by simp only[builtin];exact eA hr)
     ·obtain⟨v,u,rfl,fi,mY⟩:=two rfl
      unfold yr at e
      split at e
      ·rename_i t2 b
       split at e
       ·rename_i ti2 qF
        split at e
        ·rename_i gV
         split at e
         ·rename_i h1
          cases mY
          exact amH (ty:=ty) hT ht h hH hk fi (hT.str qF gV) h1 e (fun a w' hr=>by simp only[builtin];exact eA hr)
         ·cases e
        ·cases e
       ·cases e
      ·rename_i t2 kq n
       split at e
       ·rename_i ti2 qF
        split at e
        ·rename_i kn gV
         cases mY
         exact amI (ty:=ty) hT ht h hH hk fi (hT.int qF gV) e (fun a w' hr=>by simp only[builtin];exact eA hr)
        ·cases e
       ·cases e
      ·cases e
    ·cases e
   ·split at e
    ·rename_i s x
     split at e
     ·rename_i hl
      subst hl
      obtain⟨v,u,rfl,fi,mY⟩:=two rfl
      exact amP (ty:=ty) hT ht h fi mY e (fun a w' hr=>by simp only[builtin];exact eA hr)
     ·cases e
    ·cases e
   ·split at e
    ·rename_i x
     obtain⟨v,rfl,fi⟩:=one rfl
     exact amN (ty:=ty) (l:=l) hT ht h fi e (fun a w' hr=>by simp only[builtin];exact eA hr)
    ·cases e
   ·refine .iR h e fun y hy=>?_
    obtain⟨u,h1,h2⟩:=afP (P:=P) (w:=w) (l:=⟨t::l⟩) (ty:=ty) hv hy
    simp only[if_true]at h1
    exact⟨u,by simp only[builtin];exact eA h1,h2⟩
   ·refine .iR h e fun y hy=>?_
    obtain⟨u,h1,h2⟩:=afP (P:=P) (w:=w) (l:=⟨t::l⟩) (ty:=ty) hv hy
    simp only[C6,if_false]at h1
    exact⟨u,by simp only[builtin];exact eA h1,h2⟩
   ·cases e
theorem agN (hT:AQ P T) (ht:T t=some ti) (h:HR N0 W0 fm ts H w) {kb:Nat}{x':AV}{v0 v1 v2:Value}{vlo:Option Value}{zl zh zm:Int}{kh km:IntKind}{d:De}
  (fi:VR fm ts x' v0) (jA:(vlo=none/\zl=0)\/∃ kl v,vlo=some v/\VR fm ts (.int kl zl) v) (hvh:VR fm ts (.int kh zh) v1) (hvm:VR fm ts (.int km zm) v2) (e:yt ti x' zl zh zm=some d) {r:Result Next}
  (hr:∀ v w',(Instr.sliceAt t v0 vlo (some v1) (some v2)).run P w=.ok v w'->r=.ok (.value v) w'):BO N0 W0 fm ts H w kb r d:=by
 unfold yt at e
 split at e
 ·rename_i el hd
  obtain⟨bZ,⟨inf,bd,anT,_,_⟩,_⟩:=hT.slice ht hd
  obtain⟨nn,anC,qE⟩:∃ nn:Nat,((0<=zl/\zl<=zh)/\zh<=zm/\zm<=nn)/\∃ aa cc,v0=.slice aa nn cc/\nn<=cc/\∃ y,d=⟨y,[]⟩/\VR fm ts y (.slice (if zm.toNat=zl.toNat then aa else aa.map (·.add (zl.toNat*inf.size))) (zh.toNat - zl.toNat) (zm.toNat - zl.toNat)):=by
   split at e
   ·rename_i esz es
    split at e
    ·rename_i hc
     obtain rfl:=oi e
     skip
     cases fi with
     |ck e0 p cap=>
      refine⟨0,by simpa using hc,_,_,rfl,Nat.zero_le _,_,rfl,?_⟩
      simp only[Az]at hc
      have z1:zm.toNat=0:=by omega
      have z2:zl.toNat=0:=by omega
      have z3:zh.toNat=0:=by omega
      simp only[z1,z2,z3,if_true,Nat.sub_self,List.drop_nil,List.take_nil]
      split
      ·exact .ck _ _ _
      ·exact .dead _
     |sl es cb off esz cap u bX g1 g2 g3 g4=>
      refine⟨_,hc,_,_,rfl,bX.1,_,rfl,?_⟩
      split
      ·rename_i he
       by_cases hhl:zh.toNat - zl.toNat=0
       ·simp only[hhl,List.take_zero]
        exact .ck _ _ _
       ·have bF:¬ zm.toNat=zl.toNat:=by omega
        simp only[if_neg bF,A0,Addr.add_lit]
        have hlen:((es.drop zl.toNat).take (zh.toNat - zl.toNat)).length=zh.toNat - zl.toNat:=by simp;omega
        have dS:∀ (i:Nat) c,((es.drop zl.toNat).take (zh.toNat - zl.toNat))[i]?=some c->es[zl.toNat+i]?=some c:=by
         intro i c hc
         rw[BS]at hc
         split at hc
         ·rw[Cg]at hc;exact hc
         ·cases hc
        have:=VR.sl (fm:=fm) (ts:=ts) ((es.drop zl.toNat).take (zh.toNat - zl.toNat)) cb (off+zl.toNat*esz) esz (zm.toNat - zl.toNat) (fun i o=>u (zl.toNat+i) o) (by rw[hlen];have:=bX.2;exact⟨by omega,by omega⟩)
         (fun c hc=>g1 c (Cl (BZ hc)))
         (by
          intro i c o x hc ho
          have:=g2 (zl.toNat+i) c o x (dS i c hc) ho
          have e0:off+((zl.toNat+i)*esz+o)=off+zl.toNat*esz+(i*esz+o):=by rw[Nat.add_mul];omega
          rwa [e0]at this)
         (fun i c o x hc ho=>g3 (zl.toNat+i) c o x (dS i c hc) ho)
         (fun i c o x hc ho=>g4 (zl.toNat+i) c o x (dS i c hc) ho)
        rw[hlen]at this
        have anS:inf.size=esz:=by rw[he];exact anT
        rw[anS]
        exact this
      ·exact .dead _
    ·cases e
   ·split at e
    ·rename_i hc
     obtain rfl:=oi e
     skip
     cases fi with
     |cN _ _ _ _ _ _ _ _ _ hn=>exact⟨_,hc,_,_,rfl,hn,_,rfl,.dead _⟩
     |cO _ _ _ _ _ _ _ _ _ _ _ _ hn=>exact⟨_,hc,_,_,rfl,hn,_,rfl,.dead _⟩
     |cr=>exact⟨0,by simpa using hc,_,_,rfl,Nat.zero_le _,_,rfl,.dead _⟩
     |loc _ _ _ _ _ _ _ _ _ _ _ _ bM=>exact⟨_,hc,_,_,rfl,bM,_,rfl,.dead _⟩
    ·cases e
   ·cases e
  obtain⟨aa,cc,rfl,hle,yy,rfl,hyy⟩:=qE
  obtain⟨⟨c1,c2⟩,c3,c4⟩:=anC
  cases hvh
  cases hvm
  have h0:0<=zm:=by omega
  have h1:0<=zh:=by omega
  have h2:zm<=cc:=by omega
  have e1:zh<=((zm.toNat:Nat):Int):=by omega
  have e2:zl<=((zh.toNat:Nat):Int):=by omega
  have zM:(Instr.sliceBounds true nn cc vlo (some (.int kh zh)) (some (.int km zm))).run P w=.ok (zl.toNat,zh.toNat,zm.toNat) w:=by
   rcases jA with ⟨rfl,rfl⟩|⟨kl,vl,rfl,pc⟩
   ·simp only[Instr.sliceBounds,Instr.sliceBound,asIntOf,Sem.run_bind,Sem.run_pure,Result.andThen_ok,h0,h2,and_self,if_true,h1,e1]
    rfl
   ·cases pc
    simp only[Instr.sliceBounds,Instr.sliceBound,asIntOf,Sem.run_bind,Sem.run_pure,Result.andThen_ok,h0,h2,and_self,if_true,h1,e1,c1,e2,if_true,Option.isSome]
  have bm:(Instr.sliceAt t (.slice aa nn cc) vlo (some (.int kh zh)) (some (.int km zm))).run P w=.ok (.slice (if zm.toNat=zl.toNat then aa else aa.map (·.add (zl.toNat*inf.size))) (zh.toNat - zl.toNat) (zm.toNat - zl.toNat)) w:=by
   simp[Instr.sliceAt,run_underlying bZ,Instr.slice,zM,sizeOf,typeInfo,bd]
  exact BO.pure h (hr _ _ bm) hyy
 ·cases e
theorem aiL (hT:AQ P T) (h:HR N0 W0 fm ts H w) (hH:0<H.length) {kb:Nat} (hk:∀ k,kb<=k->k<kb+16->tb ts 0 k=none) {tm:Tm}{a:Act} (eT:CZ fm ts tm a) {o:Oper}{d:De}
  (e:bE T kb o.op o.type tm H.get=some d):BO N0 W0 fm ts H w kb ((execOp a.eval o).run P w) d:=by
 have ev:∀ {x:Operand}{y:AV},bl tm x=some y->VR fm ts y (a.eval x):=fun hx=>sK eT hx
 unfold bE at e
 split at e
 ·rename_i x ho
  refine .iR h e fun y hy=>⟨_,?_,ev hy⟩
  simp[execOp,ho]
 ·rename_i x ho
  split at e
  ·rename_i hx
   split at e
   ·rename_i ti ht
    split at e
    ·rename_i el hd
     obtain rfl:=oi e
     have fi:=ev hx
     have hv:a.eval x=.slice none 0 0:=by
      generalize a.eval x=v at fi
      cases fi;rfl
     refine afV h hH hk el ti.el ?_
     simp only[execOp,ho,Sem.run_pure,hv]
    ·cases e
   ·cases e
  ·refine .iR h e fun y hy=>⟨_,?_,ev hy⟩
   simp[execOp,ho]
 ·
  rename_i c x y ho
  split at e
  ·rename_i b hb
   have hc:=ev hb
   have hcv:a.eval c=.bool b:=by
    generalize a.eval c=v at hc
    cases hc;rfl
   refine .iR h e fun z hz=>?_
   cases b with
   |true=>exact⟨a.eval x,by simp[execOp,ho,hcv,asBool],ev hz⟩
   |false=>exact⟨a.eval y,by simp[execOp,ho,hcv,asBool],ev hz⟩
  ·cases e
 ·
  rename_i el ho
  split at e
  ·rename_i ti ht
   obtain⟨i,hi,ax,_,z,hz,iM⟩:=(hT.ok ht).info
   refine aiB (v:=z) hT ht h hH hk el (iM fm ts) (hT.ok ht).akP e ?_
   simp[execOp,ho,Instr.alloc,zeroValue,typeInfo,hi,hz,newVar,newRow]
  ·cases e
 ·
  rename_i el x ho
  split at e
  ·rename_i ti x' ht hx
   split at e
   ·rename_i cs gh
    obtain⟨h1,h2⟩:=(ev hx).parts gh
    refine aiB (v:=a.eval x) hT ht h hH hk el h1 h2 e ?_
    simp[execOp,ho,Instr.box,newVar,newRow]
   ·cases e
  ·cases e
 ·
  rename_i t ps ho
  split at e
  ·rename_i ti ps' ht zF
   refine .iR h e fun y hy=>?_
   have hp:=aeV eT _ _ zF
   obtain⟨u,h1,h2⟩:=ak2 (P:=P) (w:=w) (ps:=ps.map fun(i,x)=>(i,a.eval x)) hT ht (by simpa using hp) hy
   exact⟨u,by simp only[execOp,ho];exact eA h1,h2⟩
  ·cases e
 ·
  rename_i t len ps ho
  split at e
  ·rename_i ti ps' ht zF
   have hp:=aeV eT _ _ zF
   exact amL (ps:=ps.map fun(i,x)=>(i,a.eval x)) hT ht h hH hk (by simpa using hp) e (fun v w' hr=>by simp only[execOp,ho];exact eA hr)
  ·cases e
 ·
  rename_i t x ho
  split at e
  ·rename_i ti x' ht hx
   refine .iR h e fun y hy=>?_
   obtain⟨u,h1,h2⟩:=agM (P:=P) hT ht h (ev hx) hy
   exact⟨u,by simp only[execOp,ho];exact eA h1,h2⟩
  ·cases e
 ·
  rename_i t x y ho
  split at e
  ·rename_i ti x' y' ht hx hy
   split at e
   ·rename_i cs gh
    obtain⟨h1,h2⟩:=(ev hy).parts gh
    exact amU hT ht h hH hk (ev hx) h1 h2 e (fun w' hr=>by simp only[execOp,ho];exact am8 hr)
   ·cases e
  ·cases e
 ·
  rename_i x ho
  split at e
  ·rename_i x' hx
   exact .iR h e fun y hy=>alf ho rfl (ev hx) hy
  ·cases e
 ·
  rename_i op t x y _ ho
  split at e
  ·rename_i ti x' y' ht hx hy
   refine .iR h e fun z hz=>?_
   obtain⟨u,h1,h2⟩:=akZ (P:=P) (w:=w) (ox:=x) (oy:=y) hT ht (ev hx) (ev hy) hz
   exact⟨u,by simp only[execOp,ho];exact eA h1,h2⟩
  ·cases e
 ·
  rename_i op _ x ho
  split at e
  ·rename_i x' hx
   refine .iR h e fun z hz=>?_
   obtain⟨u,h1,h2⟩:=als (P:=P) (w:=w) (ev hx) hz
   exact⟨u,by simp only[execOp,ho];exact eA h1,h2⟩
  ·cases e
 ·
  rename_i src dst x ho
  split at e
  ·rename_i si di x' hs hd hx
   cases hz:la T H.get si di x' with
   |some z=>
    rw[hz,xu]at e
    refine .iR h e fun z' eE=>?_
    obtain rfl:=oi eE
    obtain⟨u,h1,h2⟩:=ak8 (P:=P) hT hs hd h (ev hx) hz
    exact⟨u,by simp only[execOp,ho];exact eA h1,h2⟩
   |none=>
    rw[hz,uM]at e
    exact ak6 hT hs hd h (ev hx) e (fun a w' hr=>by simp only[execOp,ho];exact eA hr)
  ·cases e
 ·
  rename_i f x y ho
  split at e
  ·rename_i x' y' hx hy
   obtain rfl:=oi e
   have h1:=aar eT _ _ hx
   have h2:=aar eT _ _ hy
   refine .pure h (v:=.func f (x.map a.eval) (y.map a.eval)) ?_ ?_
   ·simp[execOp,ho,Instr.makeFunc]
   ·exact .fn f x' y' _ _ (by simpa using h1.1) (by simpa using h2.1) (fun i z v p q=>h1.2 i z v p (by simpa using q)) (fun i z v p q=>h2.2 i z v p (by simpa using q))
  ·cases e
 ·
  rename_i t l c ho
  split at e
  ·rename_i ti l' c' ht hl hc
   exact amR (P:=P) hT ht h hH hk (ev hl) (ev hc) e (fun v w' hr=>by simp only[execOp,ho];exact eA hr)
  ·cases e
 ·
  rename_i t x lo hi mx ho
  split at e
  ·rename_i mxv
   split at e
   ·split at e
    ·rename_i ti x' kh zh km zm ht hx hh hm
     split at e
     ·split at e
      ·rename_i hz
       obtain⟨rfl,rfl⟩:=hz
       exact amS (P:=P) hT ht h hH hk (ev hx) (ev hh) (ev hm) e (fun v w' hr=>by simp only[execOp,ho,Ef,A0];exact eA hr) rfl
      ·cases e
     ·exact agN (P:=P) hT ht h (ev hx) (vlo:=none) (.inl ⟨rfl,rfl⟩) (ev hh) (ev hm) e (fun v w' hr=>by simp only[execOp,ho,Ef,A0];exact eA hr)
    ·cases e
   ·rename_i lov hiv
    split at e
    ·rename_i ti x' kl zl kh zh ht hx hl hh
     split at e
     ·rename_i km zm hm
      exact agN (P:=P) hT ht h (ev hx) (vlo:=some (a.eval lov)) (.inr ⟨kl,_,rfl,ev hl⟩) (ev hh) (ev hm) e (fun v w' hr=>by simp only[execOp,ho,A0];exact eA hr)
     ·cases e
    ·cases e
   ·cases e
  ·split at e
   ·rename_i ti x' ht hx
    have fin:∀ (mo ff:Option AV),(∀ z,mo=some z->∃ v,lo.map a.eval=some v/\VR fm ts z v)->(mo=none->lo.map a.eval=none)->(∀ z,ff=some z->∃ v,hi.map a.eval=some v/\VR fm ts z v)->(ff=none->hi.map a.eval=none)->
      ey (n7 ti x' mo ff)=some d->BO N0 W0 fm ts H w kb ((execOp a.eval o).run P w) d:=by
     intro mo ff h1 h2 h3 h4 e'
     refine .iR h e' fun z hz=>?_
     obtain⟨u,h5,h6⟩:=alr (P:=P) (w:=w) hT ht (ev hx) h1 h2 h3 h4 hz
     exact⟨u,by simp only[execOp,ho,Ef];exact eA h5,h6⟩
    split at e
    ·exact fin none none (by simp) (by simp) (by simp) (by simp) e
    ·rename_i lo
     split at e
     ·rename_i mo jA
      exact fin (some mo) none (fun z hz=>⟨_,rfl,by obtain rfl:=oi hz;exact ev jA⟩) (by simp) (by simp) (by simp) e
     ·cases e
    ·rename_i hi
     split at e
     ·rename_i ff rV
      exact fin none (some ff) (by simp) (by simp) (fun z hz=>⟨_,rfl,by obtain rfl:=oi hz;exact ev rV⟩) (by simp) e
     ·cases e
    ·rename_i lo hi
     split at e
     ·rename_i mo ff jA rV
      cases eN:lO H.get ti x' mo ff with
      |none=>
       rw[eN,uM]at e
       exact fin (some mo) (some ff) (fun z hz=>⟨_,rfl,by obtain rfl:=oi hz;exact ev jA⟩) (by simp) (fun z hz=>⟨_,rfl,by obtain rfl:=oi hz;exact ev rV⟩) (by simp) e
      |some z=>
       rw[eN,xu]at e
       refine .iR h e fun z' eE=>?_
       obtain rfl:=oi eE
       unfold lO at eN
       split at eN
       ·rename_i lv k esz i n g
        split at eN
        ·rename_i el hd
         obtain⟨bZ,⟨inf,bd,ax,_,_⟩,_⟩:=hT.slice ht hd
         split at eN
         ·rename_i kl l kh jz
          split at eN
          ·rename_i et ez es hg
           split at eN
           ·rename_i hc
            obtain⟨⟨rfl,kD⟩,⟨c1,c2⟩,c3⟩:=hc
            obtain rfl:=oi eN
            have fi:=ev hx
            have pc:=ev jA
            have hvh:=ev rV
            generalize hex:a.eval x=vx at fi
            generalize gj:a.eval lo=vl at pc
            generalize heh:a.eval hi=vh at hvh
            cases pc
            cases hvh
            have hb:=h.ao lv k _ hg
            have h1:0<=jz:=by omega
            have h2:l<=((jz.toNat:Nat):Int):=by omega
            have run:∀ (p:Option Addr) (nn cp:Nat),jz.toNat<=cp->(Instr.sliceAt t (.slice p nn cp) (some (.int kl l)) (some (.int kh jz)) none).run P w=.ok (.slice (if cp=l.toNat then p else p.map (·.add (l.toNat*ti.el))) (jz.toNat - l.toNat) (cp - l.toNat)) w:=by
             intro p nn cp hcp
             have h3:jz<=cp:=by omega
             have zM:(Instr.sliceBounds true nn cp (some (.int kl l)) (some (.int kh jz)) none).run P w=.ok (l.toNat,jz.toNat,cp) w:=by
              simp only[Instr.sliceBounds,Instr.sliceBound,asIntOf,Sem.run_bind,Sem.run_pure,Result.andThen_ok,h1,h3,and_self,if_true,c1,h2]
             simp[Instr.sliceAt,run_underlying bZ,Instr.slice,zM,sizeOf,typeInfo,bd,ax]
            cases fi with
            |cN _ _ _ _ _ _ p cp eD hn ha=>rw[eD]at hb;cases hb
            |cO _ _ _ _ _ _ p cp m' c eD ae hn ha=>rw[eD]at hb;have:=hb.gB.1;omega
            |cr _ _ _ a0 eD=>
             have lu:l.toNat=0:=by omega
             have dK:jz.toNat=0:=by omega
             refine⟨_,by simp only[execOp,ho,A0,Ef,hex,gj,heh];exact eA (run a0 0 0 (by omega)),?_⟩
             rw[lu,dK]
             simp
             exact .cr lv k ti.el _ eD
            |loc _ _ _ _ _ _ c cap cp p eD bC bM cj ha=>
             rw[eD]at hb
             obtain⟨hA,hN⟩:=hb.gB.2.2 c cap rfl
             have hgc:g<=cap:=by
              obtain⟨cells,_,_,c3',_⟩:=hA
              omega
             refine⟨_,by simp only[execOp,ho,A0,Ef,hex,gj,heh];exact eA (run (some p) n cp (by omega)),?_⟩
             by_cases bF:cp=l.toNat
             ·rw[if_pos bF]
              refine .loc lv k ti.el (i+l.toNat) (jz.toNat - l.toNat) g c cap (cp - l.toNat) p eD (by omega) (by omega) (by omega) ?_
              intro hz
              rcases hz with hz|hz
              ·omega
              ·have qu:i=0:=by omega
               have lu:l.toNat=0:=by omega
               subst qu
               rw[lu]
               exact ha (.inr rfl)
             ·simp only[if_neg bF,A0]
              have hp:=ha (.inl (by omega))
              subst hp
              rw[Addr.add_lit,<-Nat.add_mul]
              exact .loc lv k ti.el (i+l.toNat) (jz.toNat - l.toNat) g c cap (cp - l.toNat) _ eD (by omega) (by omega) (by omega) (fun _=>rfl)
           ·cases eN
          ·cases eN
         ·cases eN
        ·cases eN
       ·cases eN
     ·cases e
   ·cases e
 ·
  rename_i s x f ho
  split at e
  ·rename_i ti x' ht hx
   refine .iR h e fun z hz=>?_
   obtain⟨u,h1,h2⟩:=ala (P:=P) (w:=w) hT ht (ev hx) hz
   exact⟨u,by simp only[execOp,ho];exact eA h1,h2⟩
  ·cases e
 ·
  rename_i s x f ho
  split at e
  ·rename_i ti x' ht hx
   refine .iR h e fun z hz=>?_
   obtain⟨u,h1,h2⟩:=alb (P:=P) (w:=w) hT ht (ev hx) hz
   exact⟨u,by simp only[execOp,ho];exact eA h1,h2⟩
  ·cases e
 ·
  rename_i t x i ho
  split at e
  ·rename_i ti x' i' ht hx hi
   refine .iR h e fun z hz=>?_
   obtain⟨u,h1,h2⟩:=alc (P:=P) (w:=w) hT ht (ev hx) (ev hi) hz
   exact⟨u,by simp only[execOp,ho];exact eA h1,h2⟩
  ·cases e
 ·
  rename_i t x i ho
  split at e
  ·rename_i ti x' i' ht hx hi
   refine .iR h e fun z hz=>?_
   obtain⟨u,h1,h2⟩:=ald (P:=P) (w:=w) hT ht (ev hx) (ev hi) hz
   exact⟨u,by simp only[execOp,ho];exact eA h1,h2⟩
  ·cases e
 ·
  rename_i x i ho
  split at e
  ·rename_i xs hx
   have fi:=ev hx
   refine .iR h e fun z hz=>?_
   obtain⟨vs,bo,h1,h2⟩:∃ vs:Array Value,a.eval x=.tuple vs/\xs.length=vs.size/\∀ (i:Nat) x v,xs[i]?=some x->vs[i]?=some v->VR fm ts x v:=by
    generalize a.eval x=v at fi
    cases fi with
    |ar _ vs h1 h2=>exact⟨vs,rfl,h1,h2⟩
   have ae:i<vs.size:=by rw[<-h1];exact(gS.1 hz).1
   exact⟨vs[i],by simp[execOp,ho,Instr.extract,bo,ae],h2 i z _ hz (Bo ae)⟩
  ·cases e
 ·
  rename_i t x ho
  split at e
  ·rename_i ti l k esz i n g ht hx
   have fi:=ev hx
   split at e
   ·rename_i m el hd
    obtain⟨bZ,_⟩:=hT.array ht hd
    split at e
    ·rename_i hc
     obtain⟨rfl,hmn,hm⟩:=hc
     obtain rfl:=oi e
     obtain⟨ad,cp,bo,hp⟩:∃ ad cp,a.eval x=.slice (some ad) n cp/\VR fm ts (.bx l k ti.el i 0 g) (.pointer (some ad)):=by
      generalize a.eval x=v at fi
      cases fi with
      |cN _ _ _ _ _ _ a' aZ aJ hn ha=>
       obtain⟨p,rfl⟩:=ha (by omega)
       exact⟨p,aZ,rfl,.eK _ _ _ _ _ _ _ aJ⟩
      |cO _ _ _ _ _ _ a' aZ m' c aJ ae hn ha=>
       obtain⟨p,rfl⟩:=ha (by omega)
       exact⟨p,aZ,rfl,.eM _ _ _ _ _ _ _ m' c aJ ae⟩
      |cr=>omega
      |loc _ _ _ _ _ _ c cap aZ a' aJ bC bM cj ha=>
       refine⟨a',aZ,rfl,?_⟩
       rw[ha (.inl (by omega))]
       exact .bx l k ti.el i 0 g c cap aJ
     refine .pure h (v:=.pointer (some ad)) ?_ hp
     have:=run_arrayAt (P:=P) w t el m (some ad) n cp bZ hmn
     simp only[execOp,ho,bo]
     exact eA this
    ·cases e
   ·cases e
  ·cases e
 ·
  rename_i t x ho
  split at e
  ·rename_i ti x' ht hx
   split at e
   ·cases e
   ·rename_i hd
    obtain rfl:=oi e
    obtain⟨dd,lr,bj⟩:=hT.apn ht hd
    refine .pure h (v:=.iface t (a.eval x)) ?_ (.bU t x' _ (ev hx))
    simp only[execOp,ho]
    refine eA ?_
    simp only[Instr.makeInterface,Sem.run_bind,run_underlying lr,Result.andThen_ok]
    cases dd<;>first|rfl|(exact absurd rfl (bj _))
  ·cases e
 ·
  rename_i c ho
  split at e
  ·rename_i b hb
   split at e
   ·rename_i xs fH
    have hv:=aar eT _ _ fH
    have:=ak4 (P:=P) (ty:=o.type) (cs:=c.args.map fun|.const _=>true|_=>false) hT h hH hk hv e
    have e1:(execOp a.eval o).run P w=(builtin b c.argTypes o.type (c.args.map fun|.const _=>true|_=>false) (c.args.toList.map a.eval).toArray).run P w:=by
     simp only[execOp,ho,resolve,hb,Sem.run_bind,Sem.run_pure,Result.andThen_ok,invoke]
     congr 2
     apply Array.toList_inj.1
     simp
    rw[e1];exact this
   ·cases e
  ·cases e
 ·cases e
end
class Md where
 rnd:Option Nat
 vR:List Deferred
 mps:Nat->Option Obj:=fun _=>none
instance (priority:=10) lB:Md:=⟨none,[],fun _=>none⟩
def DA [Md] (W0:World):Prop:=∀ l o,Md.mps l=some o->W0.heap[l]?=some o/\aav o=true
theorem DA.lB (W0:World):@DA lB W0:=fun _ _ h=>by cases h
section
variable [Md]
def FW:Fence:={ fn:=fun _=>True,depth:=none,alive:=false,round:=Md.rnd }
theorem al7 {P:Program}{n:Nat}{f:FuncId}{args:Array Value}{w:World}{R:Ending->World->Prop} (h:Calls P f args w R):CallsIn FW n P f args w R:=
 callsIn_wide.2 h
theorem aat {P:Program}{o:Oper}{a:Act}{w w':World}{next:Act->World->Prop}{Q:Exit->Act->World->Prop}{v:Value} (hd:∀ c,o.op≠.defer c) (hr:(execOp a.eval o).run P w=.ok (.value v) w') (h:next (a.put o.dst v) w'):o.wpIn FW 0 P a w next Q:=
 ⟨fun _ _=>trivial,by rw[Oper.semAt_eq _ _ _ hd,hr];exact h⟩
theorem aeO {P:Program}{o:Oper}{a:Act}{w w':World}{next:Act->World->Prop}{Q:Exit->Act->World->Prop} (hd:∀ c,o.op≠.defer c) (hr:(execOp a.eval o).run P w=.ok .skip w') (h:next (a.put o.dst undef) w'):o.wpIn FW 0 P a w next Q:=
 ⟨fun _ _=>trivial,by rw[Oper.semAt_eq _ _ _ hd,hr];exact h⟩
theorem aas {P:Program}{o:Oper}{a:Act}{w w':World}{next:Act->World->Prop}{Q:Exit->Act->World->Prop}{f:FuncId}{args:Array Value} (hd:∀ c,o.op≠.defer c) (hr:(execOp a.eval o).run P w=.ok (.enter f args) w')
  (h:Calls P f args w' fun
   |.returned v,u6=>next (a.put o.dst v) u6
   |.panicked chain,u6=>Q (.panic chain) a u6
   |.outgrown,_=>LetsOut Q):o.wpIn FW 0 P a w next Q:=
 ⟨fun _ _=>trivial,by rw[Oper.semAt_eq _ _ _ hd,hr,Oper.uponIn_enter];exact⟨fun h=>by simp[FW]at h,al7 h⟩⟩
theorem apD {P:Program}{o:Oper}{a:Act}{w w':World}{next:Act->World->Prop}{Q:Exit->Act->World->Prop}{v:Value} (hd:∀ c,o.op≠.defer c) (hr:(execOp a.eval o).run P w=.halt (.panic v) w') (h:Q (.panic [{ v,recovered:=false }]) a w'):o.wpIn FW 0 P a w next Q:=
 ⟨fun _ _=>trivial,by rw[Oper.semAt_eq _ _ _ hd,hr];exact h⟩
theorem arv {P:Program}{Q:Exit->Act->World->Prop}{a:Act}{w:World}{c:Code} (h:c.wpIn FW 0 P (Exit.noGoto Q) a w):(Code.scope c).wpIn FW 0 P Q a w:=by
 intro b k cs hro hb hr
 have s1:step P (lone (b.atR a (.code (.scope c)::k)) cs w)=.next (lone (b.atR a (.code c::.inScope c::k)) cs w):=
  step_lone_go (by simp[stepG,stepG.exec,Frame.atR])
 have s2:∀ a w,step P (lone (b.atR a (.inScope c::k)) cs w)=.next (lone (b.atR a k) cs w):=fun a w=>
  step_lone_go (by simp[stepG,stepG.exec,Frame.atR])
 have h0:(lone (b.atR a (.code (.scope c)::k)) cs w).fenced P FW:=fenced_calm hb hr rfl
 obtain⟨e,xW,aaU,hq,wq⟩:=h b (.inScope c::k) cs hro hb hr
 cases e with
 |normal=>exact⟨.normal,xW,aaU,hq,.head h0 s1 (StepsIn.trans wq (.one (fenced_calm hb hr rfl) (s2 _ _)))⟩
 |exit id=>
  have hx:exitTo id (.inScope c::k)=exitTo id k:=by simp[exitTo]
  exact⟨.exit id,xW,aaU,hq,fun k' hk=>.head h0 s1 (wq.1 k' (by rw[hx];exact hk)),fun hr' hk=>let ⟨k₁,h1,h2⟩:=wq.2 hr' (by rw[hx];exact hk);⟨k₁,h1,.head h0 s1 h2⟩⟩
 |goto l=>exact hq.elim
 |ret=>exact⟨_,xW,aaU,hq,.of_steps (.one h0 s1) wq⟩
 |panic ch=>exact⟨_,xW,aaU,hq,.of_steps (.one h0 s1) wq⟩
 |outgrown=>exact⟨_,xW,aaU,hq,.of_steps (.one h0 s1) wq⟩
theorem xO {P:Program}{c:Code}{Q:Exit->Act->World->Prop}{a:Act}{w:World} (d:List Deferred):c.wpIn (@FW ⟨none,d,fun _=>none⟩) 0 P Q a w↔c.wp P Q a w:=wpIn_wide
end
inductive BG where
 |code (c:Code)
 |ao (id:Nat)
 |ig
 |ops (arr:Array Oper) (l:List Nat)
 |back (R:Act->World->Prop)
section
variable [Md]
def K (P:Program) (Q:Exit->Act->World->Prop):List BG->Exit->Act->World->Prop
 |[],e,a,w=>Q e a w
 |.code c::t,e,a,w=>match e with
  |.normal=>c.wpIn FW 0 P (K P Q t) a w
  |e=>K P Q t e a w
 |.ao id::t,e,a,w=>match e with
  |.exit sw=>if sw=id then K P Q t .normal a w else K P Q t (.exit sw) a w
  |e=>K P Q t e a w
 |.ig::t,e,a,w=>match e with
  |.goto _=>False
  |e=>K P Q t e a w
 |.ops arr l::t,e,a,w=>match e with
  |.normal=>wpOpsIn FW 0 P arr (K P Q t) l a w
  |e=>K P Q t e a w
 |.back R::t,e,a,w=>match e with
  |.normal=>R a w
  |e=>K P Q t e a w
end
section
variable [Md] {P:Program}{Q:Exit->Act->World->Prop}{a:Act}{w:World}{t:List BG}
theorem EV (c:Code):K P Q (.code c::t) .normal a w=c.wpIn FW 0 P (K P Q t) a w:=rfl
theorem Io (c:Code):K P Q (.code c::t)=Exit.then (c.wpIn FW 0 P (K P Q t)) (K P Q t):=by
 funext e a w;cases e<;>rfl
theorem Im (id:Nat):K P Q (.ao id::t)=Exit.inBlock id (K P Q t):=by
 funext e a w;cases e<;>rfl
theorem Il (R:Act->World->Prop):K P Q (.back R::t)=Exit.then R (K P Q t):=by
 funext e a w;cases e<;>rfl
theorem IB:K P Q (.ig::t)=Exit.noGoto (K P Q t):=by
 funext e a w;cases e<;>rfl
theorem IC (h:K P Q t .normal a w):K P Q (.code .skip::t) .normal a w:=wpIn_skip h
theorem Is {l:Nat} (h:K P Q t .normal a w):K P Q (.code (.label l)::t) .normal a w:=wpIn_label h
theorem C3 {x y:Code} (h:K P Q (.code x::.code y::t) .normal a w):K P Q (.code (.seq x y)::t) .normal a w:=by
 refine wpIn_seq ?_
 rw[EV,Io]at h
 exact h
theorem Ip {c:Operand}{x y:Code}{b:Bool} (hc:a.eval c=.bool b) (h:K P Q (.code (if b then x else y)::t) .normal a w):K P Q (.code (.cond c x y)::t) .normal a w:=wpIn_cond hc h
theorem Ec {id:Nat}{c:Code} (h:K P Q (.code c::.ao id::t) .normal a w):K P Q (.code (.block id c)::t) .normal a w:=by
 refine wpIn_block ?_
 rw[EV,Im]at h
 exact h
theorem IA {c:Code} (h:K P Q (.code c::.ig::t) .normal a w):K P Q (.code (.scope c)::t) .normal a w:=by
 refine arv ?_
 rw[EV,IB]at h
 exact h
theorem FK {id:Nat}{ops:Array Oper} (h:K P Q (.ops ops (List.range ops.size)::t) .normal a w):K P Q (.code (.region id ops false)::t) .normal a w:=wpIn_region h
theorem Ir {id:Nat} (h:K P Q t (.exit id) a w):K P Q (.code (.exit id)::t) .normal a w:=wpIn_exit h
theorem Iz (h:K P Q t .ret a w):K P Q (.code .ret::t) .normal a w:=wpIn_ret h
theorem Dz (h:Q .ret a w):∀ t:List BG,K P Q t .ret a w
 |[]=>h
 |.code _::t=>Dz h t
 |.ao _::t=>Dz h t
 |.ig::t=>Dz h t
 |.ops _ _::t=>Dz h t
 |.back _::t=>Dz h t
theorem DU {ch:List PanicEntry} (h:Q (.panic ch) a w):∀ t:List BG,K P Q t (.panic ch) a w
 |[]=>h
 |.code _::t=>DU h t
 |.ao _::t=>DU h t
 |.ig::t=>DU h t
 |.ops _ _::t=>DU h t
 |.back _::t=>DU h t
theorem FI {c:Code} (I:Nat->Act->World->Prop) (m:Nat) (h0:I m a w)
  (h:∀ m a w,I m a w->K P Q (.code c::.back (fun a' w'=>∃ m',m'<m/\I m' a' w')::t) .normal a w):K P Q (.code (.loop c)::t) .normal a w:=by
 refine wpIn_loop_rounds (m+1) ?_
 have key:∀ (n m:Nat),m<n->∀ a w,I m a w->Code.roundsIn FW 0 P c (K P Q t) n a w:=by
  intro n
  induction n with
  |zero=>intro m h;omega
  |succ n ih=>
   intro m hm a w hI
   have:=h m a w hI
   rw[EV,Il]at this
   refine wpIn_mono this ?_
   intro e a' w' he
   cases e with
   |normal=>
    obtain⟨m',h1,h2⟩:=he
    exact ih m' (by omega) a' w' h2
   |_=>exact he
 exact key (m+1) m (by omega) a w h0
end
def gO (o:An):An:=⟨o.dst,o.op,o.type,o.guard,[]⟩
def SC.bare:SC->SC
 |.lF ops=>.lF (ops.map gO)
 |.aL ops mH _=>.aL (ops.map gO) mH []
 |.seq a b=>.seq a.bare b.bare
 |.cond c x y=>.cond c x.bare y.bare
 |.block id b=>.block id b.bare
 |.loop b=>.loop b.bare
 |.skip=>.skip
 |.exit id=>.exit id
 |.ret=>.ret
 |.other=>.other
 |.mark b=>b.bare
def xj (acc:List Nat):List Nat->List Nat
 |[]=>acc
 |x::l=>xj (if acc.contains x then acc else acc++[x]) l
def n9 (befs:List (List Nat)):List Nat->List Edge->List Nat
 |acc,[]=>acc
 |acc,e::l=>n9 befs (if Region.binds .any e then xj (xj acc ((befs[e.on]?).getD [])) [e.on] else acc) l
def pR (befs:List (List Nat)):List Oper->List (List Nat)
 |[]=>befs
 |o::l=>pR (befs++[n9 befs [] o.after.toList]) l
def jP (n:Nat) (ops:Array Oper) (o:Oper):An:=
 ⟨o.dst,o.op,o.type,o.guard.map fun g=>(((ops[g.1]?).bind (·.dst)).getD n,g.2),[]⟩
def erase (n:Nat):Code->SC
 |.skip=>.skip
 |.region _ ops false=>.lF (ops.toList.map (jP n ops))
 |.region _ ops true=>.aL (ops.toList.map (jP n ops)) (pR [] ops.toList) []
 |.seq a b=>.seq (erase n a) (erase n b)
 |.cond c x y=>.cond c (erase n x) (erase n y)
 |.block id b=>.block id (erase n b)
 |.loop b=>.loop (erase n b)
 |.exit id=>.exit id
 |.ret=>.ret
 |.label _=>.skip
 |.scope b=>erase n b
 |_=>.other
def SC.fits (n:Nat):SC->Bool
 |.lF ops=>ops.all fun o=>match o.dst with|some d=>decide (d<n)|none=>true
 |.aL ops _ _=>ops.all fun o=>match o.dst with|some d=>decide (d<n)|none=>true
 |.seq a b=>a.fits n&&b.fits n
 |.cond _ x y=>x.fits n&&y.fits n
 |.block _ b=>b.fits n
 |.loop b=>b.fits n
 |_=>true
section
variable [Md]
structure SR (N0:Nat) (W0:World) (n:Nat) (st:St) (a:Act) (w:World) (fm:FM) (ts:List Al):Prop where
 hr:HR N0 W0 fm ts (st.fr::st.low) w
 tm:CZ fm ts (look st.tm) a
 nx:∀ k,st.nx<=k->tb ts 0 k=none
 size:a.tmps.size=n
 dP:a.defers=Md.vR/\DA W0
structure A8 (N0:Nat) (fm:FM) (ts:List Al) (fm':FM) (ts':List Al):Prop where
 de:AM N0 fm fm'
 kd:As (ts.drop 1) (ts'.drop 1)
 no:∀ l k,tb (ts.drop 1) l k=none->tb (ts'.drop 1) l k=none
theorem A8.refl {N0:Nat} (fm:FM) (ts:List Al):A8 N0 fm ts fm ts:=⟨AM.refl _ _,As.refl _,fun _ _ h=>h⟩
theorem A8.trans {N0:Nat}{f1 f2 f3:FM}{t1 t2 t3:List Al} (h:A8 N0 f1 t1 f2 t2) (k:A8 N0 f2 t2 f3 t3):A8 N0 f1 t1 f3 t3:=
 ⟨h.de.trans k.de,h.kd.trans k.kd,fun l j e=>k.no l j (h.no l j e)⟩
theorem aaz (a:Act) (dst:Option Tmp) (v:Value):(a.put dst v).tmps.size=a.tmps.size:=by
 cases dst<;>simp[Act.put]
theorem xw (a:Act) (dst:Option Tmp) (v:Value):(a.put dst v).defers=a.defers:=by
 cases dst<;>rfl
theorem CZ.put {fm:FM}{ts:List Al}{tm:List (Nat×AV)}{a:Act} (h:CZ fm ts (look tm) a) {dst:Option Tmp}{x:AV}{v:Value} (hv:VR fm ts x v) (hd:∀ d,dst=some d->d<a.tmps.size) (drop:List Nat):
  CZ fm ts (look (cw (m9 tm dst x) drop)) (a.put dst v):=by
 intro t y hy
 replace hy:=aad drop _ t y hy
 cases dst with
 |none=>exact h t y hy
 |some d=>
  simp only[m9,sF]at hy
  have ae:=hd d rfl
  split at hy
  ·rename_i e
   subst e
   obtain rfl:=oi hy
   exact⟨v,by simp[Act.put,ae],hv⟩
  ·rename_i e
   obtain⟨u,h1,h2⟩:=h t y hy
   exact⟨u,by simp only[Act.put];rw[Array.getElem?_setIfInBounds_ne e];exact h1,h2⟩
theorem CZ.mono {fm fm':FM}{ts ts':List Al}{tm:Tm}{a:Act} (h:CZ fm ts tm a) (hf:AY fm fm') (ht:As ts ts'):CZ fm' ts' tm a:=by
 intro t x hx
 obtain⟨v,h1,h2⟩:=h t x hx
 exact⟨v,h1,h2.mono hf ht⟩
theorem aj2 (st:St) (f:Au) (H:Heap):St.ve st (f::H)={ st with fr:=f,low:=H }:=rfl
theorem uO (f:Au) (H:Heap) (s:List (Nat×Nat×Option AG)):∃ f' H',Heap.bN (f::H) s=f'::H':=by
 have:=Heap.aik s (f::H)
 cases h:Heap.bN (f::H) s with
 |nil=>rw[h]at this;simp at this
 |cons f' H'=>exact⟨f',H',rfl⟩
theorem SR.by {N0:Nat}{W0:World}{n:Nat}{st:St}{a:Act}{w:World}{fm:FM}{ts:List Al} (h:SR N0 W0 n st a w fm ts) {r:Result Next}{d:De}{fm':FM}{ts':List Al}{w':World}{v:Value}
  (o:Out N0 W0 fm ts (st.fr::st.low) w st.nx r d fm' ts' w' v) {dst:Option Tmp} (hd:∀ d,dst=some d->d<n) (drop:List Nat):
  SR N0 W0 n (st.by dst drop d) (a.put dst v) w' fm' ts'/\A8 N0 fm ts fm' ts':=by
 obtain⟨f',H',hp⟩:=uO st.fr st.low d.lK
 have hb:st.by dst drop d={ st with tm:=cw (m9 st.tm dst d.val) drop,nx:=st.nx+16,fr:=f',low:=H' }:=by
  unfold St.by;rw[hp];rfl
 rw[hb]
 refine⟨⟨?_,?_,?_,?_,?_⟩,⟨o.de,o.kd.drop 1,?_⟩⟩
 ·have:=o.hr;rw[hp]at this;exact this
 ·exact(h.tm.mono o.de.le o.kd).put o.val (by rw[h.size];exact hd) drop
 ·intro k hk
  have fh:st.nx+16<=k:=hk
  exact o.free 0 k (by omega) (h.nx k (by omega))
 ·rw[aaz];exact h.size
 ·rw[xw];exact h.dP
 ·intro l k hn
  rw[fp]at hn ⊢
  exact o.free (l+1) k (by omega) hn
theorem SR.mA {N0:Nat}{W0:World}{n:Nat}{st:St}{a:Act}{w:World}{fm:FM}{ts:List Al} (h:SR N0 W0 n st a w fm ts) {o:An} (hd:∀ d,o.dst=some d->d<n):
  SR N0 W0 n (st.mA o) (a.put o.dst undef) w fm ts:=by
 have ho:Out N0 W0 fm ts (st.fr::st.low) w st.nx (.ok .skip w) ⟨.ar [],[]⟩ fm ts w undef:=
  ⟨.inr ⟨rfl,rfl⟩,h.hr,.ar [] #[] rfl (fun i x v h=>by simp at h),AM.refl _ _,As.refl _,fun _ _ _ h=>h⟩
 exact(h.by ho hd o.drop).1
inductive Bu (N0:Nat) (W0:World) (n:Nat) (fm:FM) (ts:List Al):List It->List BG->Prop
 |nil:Bu N0 W0 n fm ts [] []
 |sc {s:SC}{c:Code}{t ct} (h:s.bare=erase n c) (hf:(erase n c).fits n=true) (ht:Bu N0 W0 n fm ts t ct):Bu N0 W0 n fm ts (.sc s::t) (.code c::ct)
 |ao {id:Nat}{t ct} (ht:Bu N0 W0 n fm ts t ct):Bu N0 W0 n fm ts (.ao id::t) (.ao id::ct)
 |ig {t ct} (ht:Bu N0 W0 n fm ts t ct):Bu N0 W0 n fm ts t (.ig::ct)
 |ops {l:List An}{arr:Array Oper}{is:List Nat}{t ct} (h:l.map gO=is.map fun i=>jP n arr (arr.getD i default)) (hi:∀ i∈is,i<arr.size) (hf:∀ o∈l,∀ d,o.dst=some d->d<n) (ht:Bu N0 W0 n fm ts t ct):Bu N0 W0 n fm ts (.ops l::t) (.ops arr is::ct)
 |back {B:St->Prop}{R:Act->World->Prop}{t ct} (h:∀ aq a' w' fm' ts',B aq->SR N0 W0 n aq a' w' fm' ts'->A8 N0 fm ts fm' ts'->R a' w') (ht:Bu N0 W0 n fm ts t ct):Bu N0 W0 n fm ts (.back B::t) (.back R::ct)
theorem Bu.later {N0:Nat}{W0:World}{n:Nat}{fm fm':FM}{ts ts':List Al} (hl:A8 N0 fm ts fm' ts') {t:List It}{ct:List BG} (h:Bu N0 W0 n fm ts t ct):Bu N0 W0 n fm' ts' t ct:=by
 induction h with
 |nil=>exact .nil
 |sc h hf _ ih=>exact .sc h hf ih
 |ao _ ih=>exact .ao ih
 |ig _ ih=>exact .ig ih
 |ops h hi hf _ ih=>exact .ops h hi hf ih
 |back h _ ih=>exact .back (fun aq a' w' dn cK hB hS hL=>h aq a' w' dn cK hB hS (hl.trans hL)) ih
end
end Go.Abs
