/-
  Part 1 of the proof: a machine over named blocks, what each function computes, and what follows. No condition.
-/
import Derived.Calls
import Derived.Below
import Derived.Laws.AppendOwn
import Derived.Laws.MakeOwn
import Derived.Laws.CopyRow
import Derived.Laws.Entries
import Derived.Laws.StructEq
import Derived.Laws.Small
import Derived.Laws.Slices
import Derived.Laws.Panics
import Derived.ChangeKeysEq
import Derived.Shelf.Abstract
import Derived.WideLaws
import Derived.Laws.Shifts
import Derived.Laws.Strings
import Derived.Laws.BytesString
import Derived.Laws.Tables
import Derived.Laws.Unary
import Derived.Laws.Cover3
import Derived.Laws.Build
import Derived.Great.FillDense
import Derived.Great.BuildSlice
import Derived.Deep.AppendSrc
import Derived.Lib.AppendZerosOnto
import Derived.Laws.IdiomStrings
import Derived.LoopNIn
import Derived.OrdersIn
import Derived.Scope
set_option linter.unusedVariables false
set_option linter.unusedSimpArgs false
set_option linter.all false
namespace Go.Abs
universe u v
theorem oi {α:Type u}{a b:α} (h:some a=some b):a=b:=Option.some.inj h
theorem oE {α:Type u} (a b:α):(some a=some b)=(a=b):=Option.some.injEq a b
theorem gS {α:Type u}{l:List α}{i:Nat}{a:α}:l[i]?=some a↔∃ h:i<l.length,l[i]=a:=List.getElem?_eq_some_iff
theorem gG {α:Type u}{l:List α}{i:Nat} (h:i<l.length):l[i]?=some l[i]:=List.getElem?_eq_getElem h
theorem mS {α:Type u}{β:Type v}{x:Option α}{f:α->β}{b:β}:x.map f=some b↔∃ a,x=some a/\f a=b:=Option.map_eq_some_iff
abbrev Af:=@Option.bind_some
abbrev AA:=@List.length_cons
abbrev AD:=@decide_eq_true
abbrev Az:=@List.length_nil
abbrev Aj:=@cond_false
abbrev AI:=@decide_eq_false
abbrev Am:=@cond_true
abbrev A8:=@List.length_append
abbrev AW:=@List.mem_of_getElem?
abbrev CE:=@List.getElem?_append_right
abbrev AX:=@Bool.not_true
abbrev A9:=@List.length_take
abbrev A5:=@Option.map_some
abbrev CB:=@List.take_of_length_le
abbrev BY:=@List.mem_of_mem_take
abbrev Bv:=@Array.getElem?_eq_getElem
abbrev Fs:=@Nat.add_sub_cancel_left
abbrev BD:=@List.mem_iff_getElem?
abbrev A7:=@Bool.and_eq_true
abbrev Bd:=@Nat.le_refl
abbrev Dy:=@List.drop_of_length_le
abbrev Bi:=@List.length_drop
abbrev Bq:=@List.cons_append
abbrev Bg:=@List.length_map
abbrev Bs:=@Bool.not_false
abbrev CK:=@List.take_length
abbrev Ba:=@List.mem_append
abbrev BU:=@Nat.mul_le_mul_right
abbrev Cb:=@List.getElem?_cons_succ
abbrev BC:=@decide_true
abbrev BV:=@List.getElem?_cons_zero
abbrev Cl:=@Int.toNat_natCast
abbrev BO:=@Bool.true_and
abbrev Bx:=@List.getElem?_map
abbrev BP:=@List.getElem?_take
abbrev Cj:=@List.mem_of_mem_drop
abbrev Ct:=@List.getElem?_append_left
abbrev Cp:=@List.append_assoc
abbrev BM:=@List.nil_append
abbrev CL:=@List.getElem?_eq_none
abbrev C2:=@List.take_append_drop
abbrev BE:=@List.mem_cons
abbrev CU:=@List.length_replicate
abbrev C5:=@List.length_set
abbrev CF:=@Array.getElem?_eq_some_iff
abbrev DQ:=@List.take_left'
abbrev DS:=@List.drop_append_of_le_length
abbrev EX:=@List.take_append_of_le_length
abbrev CV:=@Int.natCast_zero
abbrev Cq:=@Nat.zero_add
abbrev CM:=@List.mem_singleton
abbrev Eb:=@Option.map_none
abbrev Cf:=@List.getElem?_drop
abbrev C3:=@Bool.false_eq_true
abbrev Ec:=@Nat.le_trans
abbrev Cu:=@List.flatten_cons
abbrev Dg:=@List.map_append
end Go.Abs
namespace Go.Abs
open Go
inductive AV where
 |bool (b:Bool)
 |int (k:IntKind) (n:Int)
 |str (s:ByteArray)
 |nil
 |sl (esz:Nat) (es:List (List AV))
 |loc (l key esz i n g:Nat)
 |bF (l key esz o n:Nat)
 |bG
 |ptr (l key o:Nat)
 |bq (l key esz i o g:Nat)
 |aA (esz:Nat) (es:List (List AV)) (i o:Nat)
 |bP
 |fn (f:Fn) (first cap:List AV)
 |bS
 |raw (v:Value)
 |bR (t:TypeId) (v:AV)
 |agg (cs:List AV)
 |ar (vs:List AV)
 |dead
 deriving Inhabited
inductive TD where
 |int (k:IntKind)
 |bool
 |str
 |slice (e:TypeId)
 |array (n:Nat) (e:TypeId)
 |struct
 |ptr (e:TypeId)
 |map (k e:TypeId)
 |func
 |iface
 deriving Inhabited,DecidableEq
structure TI where
 size:Nat
 bytes:Nat
 zero:List AV
 d:TD
 el:Nat
 uZ:Nat
 acX:Bool
 fB:List AV
 fl:List (Nat×Nat×Bool)
 pl:Bool
 sc:List (Nat×TypeId×Nat)
 deriving Inhabited
def TI.isAgg (ti:TI):Bool:=
 match ti.d with
 |.struct|.array _ _=>true
 |_=>false
abbrev AM:=Nat->Option TI
inductive AH where
 |arr (et:TypeId) (esz:Nat) (es:List (List AV))
 |box (cs:List AV)
 deriving Inhabited
abbrev Av:=List (Nat×AH)
abbrev Heap:=List Av
abbrev AR:=Nat->Nat->Option AH
structure St where
 tm:List (Nat×AV)
 fr:Av
 low:Heap
 nx:Nat
 nt:Nat
def look {α:Type}:List (Nat×α)->Nat->Option α
 |[],_=>none
 |(k,x)::l,t=>if k=t then some x else look l t
def ins {α:Type}:List (Nat×α)->Nat->α->List (Nat×α)
 |[],t,v=>[(t,v)]
 |(k,x)::l,t,v=>if t<k then (t,v)::(k,x)::l else if t=k then (t,v)::l else (k,x)::ins l t v
def del {α:Type}:List (Nat×α)->Nat->List (Nat×α)
 |[],_=>[]
 |(k,x)::l,t=>if k=t then del l t else (k,x)::del l t
def cA {α:Type} (l:List (Nat×α)):List Nat->List (Nat×α)
 |[]=>l
 |t::ts=>cA (del l t) ts
def Heap.get:Heap->Nat->Nat->Option AH
 |[],_,_=>none
 |f::_,0,key=>look f key
 |_::H,l+1,key=>Heap.get H l key
def Heap.put:Heap->Nat->Nat->Option AH->Heap
 |[],_,_,_=>[]
 |f::H,0,key,some b=>ins f key b::H
 |f::H,0,key,none=>del f key::H
 |f::H,l+1,key,b=>f::Heap.put H l key b
def Heap.bL:Heap->List (Nat×Nat×Option AH)->Heap
 |H,[]=>H
 |H,(l,k,b)::r=>Heap.bL (H.put l k b) r
mutual
def AV.sh (d:Nat):AV->AV
 |.loc l k e i n g=>.loc (l+d) k e i n g
 |.bF l k e o n=>.bF (l+d) k e o n
 |.ptr l k o=>.ptr (l+d) k o
 |.bq l k e i o g=>.bq (l+d) k e i o g
 |.fn f a b=>.fn f (AV.de d a) (AV.de d b)
 |.bR t v=>.bR t (v.sh d)
 |.agg cs=>.agg (AV.de d cs)
 |.ar vs=>.ar (AV.de d vs)
 |.bool b=>.bool b
 |.int k n=>.int k n
 |.str s=>.str s
 |.nil=>.nil
 |.sl e es=>.sl e es
 |.bG=>.bG
 |.aA e es i o=>.aA e es i o
 |.bP=>.bP
 |.bS=>.bS
 |.raw r_=>.raw r_
 |.dead=>.dead
def AV.de (d:Nat):List AV->List AV
 |[]=>[]
 |x::l=>x.sh d::AV.de d l
end
def tY (d l:Nat):Option Nat:=if d<=l then some (l - d) else none
mutual
def AV.un (d:Nat):AV->Option AV
 |.loc l k e i n g=>(tY d l).map fun l=>.loc l k e i n g
 |.bF l k e o n=>(tY d l).map fun l=>.bF l k e o n
 |.ptr l k o=>(tY d l).map fun l=>.ptr l k o
 |.bq l k e i o g=>(tY d l).map fun l=>.bq l k e i o g
 |.fn f a b=>match AV.fZ d a,AV.fZ d b with
  |some a,some b=>some (.fn f a b)
  |_,_=>none
 |.bR t v=>(v.un d).map (.bR t)
 |.agg cs=>(AV.fZ d cs).map .agg
 |.ar vs=>(AV.fZ d vs).map .ar
 |.bool b=>some (.bool b)
 |.int k n=>some (.int k n)
 |.str s=>some (.str s)
 |.nil=>some .nil
 |.sl e es=>some (.sl e es)
 |.bG=>some .bG
 |.aA e es i o=>some (.aA e es i o)
 |.bP=>some .bP
 |.bS=>some .bS
 |.raw r_=>some (.raw r_)
 |.dead=>some .dead
def AV.fZ (d:Nat):List AV->Option (List AV)
 |[]=>some []
 |x::l=>match x.un d,AV.fZ d l with
  |some x,some l=>some (x::l)
  |_,_=>none
end
mutual
def AV.ai (G:AR):AV->Option AV
 |.loc l k e i n g=>match G l k with
  |some (.arr _ esz es)=>if esz=e/\es.length=g/\i+n<=g then some (.sl e ((es.drop i).take n)) else none
  |_=>none
 |.nil=>some .nil
 |.bR t v=>(v.ai G).map (.bR t)
 |.agg cs=>(AV.aG G cs).map .agg
 |.ar vs=>(AV.aG G vs).map .ar
 |.bool b=>some (.bool b)
 |.int k n=>some (.int k n)
 |.str s=>some (.str s)
 |.sl e es=>some (.sl e es)
 |.bG=>some .bG
 |.bP=>some .bP
 |.bS=>some .bS
 |.raw r_=>some (.raw r_)
 |.aA e es i o=>some (.aA e es i o)
 |.fn f a b=>match AV.aG G a,AV.aG G b with
  |some a,some b=>some (.fn f a b)
  |_,_=>none
 |_=>none
def AV.aG (G:AR):List AV->Option (List AV)
 |[]=>some []
 |x::l=>match x.ai G,AV.aG G l with
  |some x,some l=>some (x::l)
  |_,_=>none
end
mutual
def AV.refs:AV->List (Nat×Nat)
 |.loc l k _ _ _ _=>[(l,k)]
 |.fn _ a b=>AV.aN a++AV.aN b
 |.bR _ v=>v.refs
 |.agg cs=>AV.aN cs
 |.ar vs=>AV.aN vs
 |_=>[]
def AV.aN:List AV->List (Nat×Nat)
 |[]=>[]
 |x::l=>x.refs++AV.aN l
end
def hX (r:List (Nat×Nat)):List (Nat×Nat×Option AH):=r.map fun(l,k)=>(l,k,none)
def AV.flat:AV->Bool
 |.agg _=>false
 |.ar _=>false
 |.dead=>false
 |_=>true
mutual
def fM:Value->Option AV
 |.bool b=>some (.bool b)
 |.int k n=>some (.int k n)
 |.string s=>some (.str s)
 |.slice none 0 0=>some .nil
 |.pointer none=>some .bG
 |.nilFunc=>some .bP
 |.nilIface=>some .bS
 |.agg ⟨cs⟩=>match uT cs with
  |some l=>if l.all AV.flat then some (.agg l) else none
  |none=>none
 |_=>none
def uT:List Value->Option (List AV)
 |[]=>some []
 |x::l=>match fM x,uT l with
  |some x,some l=>some (x::l)
  |_,_=>none
end
abbrev Tm:=Nat->Option AV
def bd (tm:Tm):Operand->Option AV
 |.tmp t=>tm t
 |.const v=>fM v
 |.func f=>some (.fn (.func f) [] [])
 |.global _=>none
def jP (tm:Tm):List Operand->Option (List AV)
 |[]=>some []
 |x::l=>match bd tm x,jP tm l with
  |some x,some l=>some (x::l)
  |_,_=>none
def AV.cells:AV->Option (List AV)
 |.agg cs=>some cs
 |.ar _=>none
 |.dead=>none
 |v=>some [v]
def z7 (es:List (List AV)) (i o size:Nat):Option (List AV):=
 match es[i]? with
 |none=>none
 |some c=>
  if o+size<=c.length then some ((c.drop o).take size)
  else if o=0/\c.length=1/\i+size<=es.length then some ((es.drop i).take size).flatten
  else none
def qP (agg:Bool) (cs:List AV):Option AV:=
 if agg then some (.agg cs) else match cs with
  |[x]=>some x
  |_=>none
def iH (G:AR) (size:Nat):AV->Option (List AV)
 |.ptr l k o=>match G l k with
  |some (.box cs)=>if o+size<=cs.length then some (AV.de l ((cs.drop o).take size)) else none
  |_=>none
 |.bq l k esz i o g=>match G l k with
  |some (.arr _ aM es)=>if aM=esz/\es.length=g then z7 es i o size else none
  |_=>none
 |.aA _ es i o=>z7 es i o size
 |_=>none
def nT (G:AR) (ti:TI) (a:AV):Option AV:=(iH G ti.size a).bind (qP ti.isAgg)
def overwrite (cs:List AV) (o:Nat) (new:List AV):List AV:=cs.take o++(new++cs.drop (o+new.length))
structure De where
 val:AV
 lp:List (Nat×Nat×Option AH)
def lx (cs:List AV) (kb:Nat):List (Nat×TypeId×Nat)->List AV×List (Nat×Nat×Option AH)
 |[]=>(cs,[])
 |(o,e,s)::r=>match cs[o]? with
  |some .nil=>let x:=lx (cs.set o (.loc 0 kb s 0 0 0)) (kb+1) r;(x.1,(0,kb,some (.arr e s []))::x.2)
  |_=>lx cs kb r
def zA (kb:Nat) (ti:TI) (cs:List AV):Option De:=
 if cs.length=ti.size then
  let x:=lx cs (kb+1) ti.sc
  some ⟨.ptr 0 kb 0,x.2++[(0,kb,some (.box x.1))]⟩
 else none
def qZ (G:AR) (kb:Nat) (ti:TI) (a:AV) (vc:List AV):Option De:=
 if vc.length=ti.size then
  match a with
  |.ptr l k o=>match G l k with
   |some (.box cs)=>
    if o+ti.size<=cs.length then
     if l=0 then
      let x:=lx vc kb ti.sc
      some ⟨.ar [],x.2++[(0,k,some (.box (overwrite cs o x.1)))]⟩
     else match AV.fZ l vc with
      |some new=>some ⟨.ar [],[(l,k,some (.box (overwrite cs o new)))]⟩
      |none=>match AV.aG G vc with
       |some new=>some ⟨.ar [],hX (AV.aN vc)++[(l,k,some (.box (overwrite cs o new)))]⟩
       |none=>none
    else none
   |_=>none
  |.bq l k esz i o g=>match G l k with
   |some (.arr et aM es)=>
    if aM=esz/\es.length=g then
     match es[i]?,AV.aG G vc with
     |some c,some new=>
      if o+ti.size<=c.length/\(AV.aN vc).all (fun p=>!(p.1==l&&p.2==k)) then
       some ⟨.ar [],hX (AV.aN vc)++[(l,k,some (.arr et esz (es.set i (overwrite c o new))))]⟩
      else none
     |_,_=>none
    else none
   |_=>none
  |_=>none
 else none
def dN (k:IntKind) (x y:Int):Int:=k.wrap (BitVec.ofInt k.bits x &&& BitVec.ofInt k.bits y).toNat
def fK (k:IntKind) (x y:Int):Int:=k.wrap (BitVec.ofInt k.bits x ||| BitVec.ofInt k.bits y).toNat
def aci (k:IntKind) (x y:Int):Int:=k.wrap (BitVec.ofInt k.bits x ^^^ BitVec.ofInt k.bits y).toNat
def pa (op:BinOp) (a b:AV):Option AV:=
 match a,b with
 |.int k x,.int k' y=>
  match op with
  |.shl=>if y<0 then none else some (.int k (k.wrap (x*2 ^ (min y.toNat k.bits))))
  |.shr=>if y<0 then none else some (.int k (x.fdiv (2 ^ (min y.toNat k.bits))))
  |op=>
   if k=k' then
    match op with
    |.add=>some (.int k (k.wrap (x+y)))
    |.sub=>some (.int k (k.wrap (x - y)))
    |.mul=>some (.int k (k.wrap (x*y)))
    |.quo=>if y=0 then none else some (.int k (k.wrap (x.tdiv y)))
    |.rem=>if y=0 then none else some (.int k (x.tmod y))
    |.and=>some (.int k (dN k x y))
    |.or=>some (.int k (fK k x y))
    |.xor=>some (.int k (aci k x y))
    |.eql=>some (.bool (decide (x=y)))
    |.neq=>some (.bool (!decide (x=y)))
    |.lss=>some (.bool (decide (x<y)))
    |.leq=>some (.bool (decide (x<=y)))
    |.gtr=>some (.bool (decide (y<x)))
    |.geq=>some (.bool (decide (y<=x)))
    |_=>none
   else none
 |.bool x,.bool y=>match op with
  |.eql=>some (.bool (x==y))
  |.neq=>some (.bool (!(x==y)))
  |_=>none
 |.str x,.str y=>match op with
  |.eql=>some (.bool (x.toList==y.toList))
  |.neq=>some (.bool (!(x.toList==y.toList)))
  |.add=>if x.size+y.size<4611686018427387904 then some (.str (x++y)) else none
  |_=>none
 |_,_=>none
def j7:AV->AV->AV->Option Bool
 |.int _ _,.int k x,.int k' y=>if k=k' then some (decide (x=y)) else none
 |.bool _,.bool x,.bool y=>some (x==y)
 |.str _,.str x,.str y=>some (x.toList==y.toList)
 |_,_,_=>none
def bJ:List AV->List AV->List AV->Option Bool
 |[],[],[]=>some true
 |z::m,x::l,y::n=>match j7 z x y,bJ m l n with
  |some a,some b=>some (a&&b)
  |_,_=>none
 |_,_,_=>none
def aaA (ti:TI) (op:BinOp) (a b:AV):Option AV:=
 match a,b with
 |.agg xs,.agg ys=>
  if ti.pl=true/\ti.isAgg=true then
   match op with
   |.eql=>(bJ ti.zero xs ys).map .bool
   |.neq=>(bJ ti.zero xs ys).map fun r=>.bool !r
   |_=>none
  else none
 |.bool x,.bool y=>match ti.d with
  |.bool=>pa op (.bool x) (.bool y)
  |_=>none
 |a,b=>pa op a b
def aUn (op:UnOp) (a:AV):Option AV:=
 match op,a with
 |.neg,.int k n=>some (.int k (k.wrap (0 - n)))
 |.not,.bool b=>some (.bool !b)
 |_,_=>none
def byteOf:List AV->Option UInt8
 |[.int .u8 n]=>some (UInt8.ofNat n.toNat)
 |_=>none
def bytesOf:List (List AV)->Option (List UInt8)
 |[]=>some []
 |c::l=>match byteOf c,bytesOf l with
  |some c,some l=>some (c::l)
  |_,_=>none
def iI (G:AR) (sz:Nat):AV->Option (List (List AV))
 |.nil=>some []
 |.sl e es=>if e=sz then some es else none
 |.loc l k esz i n g=>match G l k with
  |some (.arr _ aM es)=>if esz=sz/\aM=esz/\es.length=g/\i+n<=g then some ((es.drop i).take n) else none
  |_=>none
 |.bF l k esz o n=>match G l k with
  |some (.box cs)=>if l=0/\esz=1/\sz=1/\o+n<=cs.length then (AV.aG (fun _ _=>none) ((cs.drop o).take n)).map fun cs=>cs.map fun c=>[c] else none
  |_=>none
 |_=>none
def kI (T:AM) (G:AR) (src dst:TI) (a:AV):Option AV:=
 match dst.d with
 |.int k=>match src.d,a with
  |.int _,.int _ n=>some (.int k (k.wrap n))
  |_,_=>none
 |.str=>match src.d with
  |.str=>match a with
   |.str s=>some (.str s)
   |_=>none
  |.slice e=>match T e with
   |some ti=>match ti.d with
    |.int .u8=>if src.el=1 then (iI G 1 a).bind fun es=>(bytesOf es).map fun l=>.str ⟨l.toArray⟩ else none
    |_=>none
   |none=>none
  |_=>none
 |_=>none
def ky (s:ByteArray):List (List AV):=s.data.toList.map fun c=>[AV.int .u8 (c.toNat:Int)]
def uD (T:AM) (src dst:TI) (a:AV):Option AV:=
 match dst.d with
 |.slice e=>match src.d,a with
  |.str,.str s=>match T e with
   |some ti=>match ti.d with
    |.int .u8=>if s.size<4611686018427387904 then some (.sl 1 (ky s)) else none
    |_=>none
   |none=>none
  |_,_=>none
 |_=>none
def abP:AV->Option Nat
 |.nil=>some 0
 |.sl _ es=>some es.length
 |.loc _ _ _ _ n _=>some n
 |.bF _ _ _ _ n=>some n
 |_=>none
def aaG (ti:TI) (a:AV):Option AV:=
 match ti.d with
 |.str=>match a with
  |.str s=>some (.int .i64 s.size)
  |_=>none
 |.array n _=>some (.int .i64 (n:Int))
 |.slice _=>(abP a).map fun(n:Nat)=>AV.int .i64 (n:Int)
 |_=>none
def fW (i:Int) (n:Nat):Option Nat:=if 0<=i/\i<n then some i.toNat else none
def aaD (ti:TI) (a:AV) (f:Nat):Option AV:=
 match ti.d with
 |.struct=>match ti.fl[f]? with
  |some (off,_)=>match a with
   |.ptr l k o=>some (.ptr l k (o+off))
   |.bq l k e i o g=>some (.bq l k e i (o+off) g)
   |.aA e es i o=>some (.aA e es i (o+off))
   |_=>none
  |none=>none
 |_=>none
def aaC (ti:TI) (a:AV) (f:Nat):Option AV:=
 match ti.d with
 |.struct=>match a with
  |.agg cs=>match ti.fl[f]? with
   |some (off,size,agg)=>if off+size<=cs.length then qP agg ((cs.drop off).take size) else none
   |none=>none
  |_=>none
 |_=>none
def aaF (ti:TI) (a ix:AV):Option AV:=
 match ix with
 |.int _ i=>match ti.d with
  |.slice _=>match a with
   |.sl esz es=>if esz=ti.el then (fW i es.length).map fun i=>.aA esz es i 0 else none
   |.loc l k esz b n g=>if esz=ti.el then (fW i n).map fun i=>.bq l k esz (b+i) 0 g else none
   |.bF l k esz o n=>if esz=ti.el then (fW i n).map fun i=>.ptr l k (o+i*esz) else none
   |.raw (.slice (some p) n _)=>(fW i n).map fun i=>.raw (.pointer (some (p.add (i*ti.el))))
   |_=>none
  |.array n _=>match a with
   |.ptr l k o=>(fW i n).map fun i=>.ptr l k (o+i*ti.el)
   |.bq l k esz b o g=>(fW i n).map fun i=>.bq l k esz b (o+i*ti.el) g
   |.aA e es b o=>(fW i n).map fun i=>.aA e es b (o+i*ti.el)
   |.raw (.pointer (some p))=>(fW i n).map fun i=>.raw (.pointer (some (p.add (i*ti.el))))
   |_=>none
  |_=>none
 |_=>none
def aaE (ti:TI) (a ix:AV):Option AV:=
 match ix with
 |.int _ i=>match ti.d with
  |.array n _=>match a with
   |.agg cs=>(fW i n).bind fun i=>if i*ti.el+ti.el<=cs.length then qP ti.acX ((cs.drop (i*ti.el)).take ti.el) else none
   |_=>none
  |.str=>match a with
   |.str s=>(fW i s.size).map fun(i:Nat)=>AV.int .u8 ((s.data.toList.getD i 0).toNat:Int)
   |_=>none
  |_=>none
 |_=>none
def qS (n:Nat):Option AV->Option Nat
 |none=>some n
 |some (.int _ h)=>if 0<=h/\h<=n then some h.toNat else none
 |_=>none
def qT (h:Nat):Option AV->Option Nat
 |none=>some 0
 |some (.int _ l)=>if 0<=l/\l<=h then some l.toNat else none
 |_=>none
def bounds (n:Nat) (lo hi:Option AV):Option (Nat×Nat):=
 match qS n hi with
 |some h=>match qT h lo with
  |some l=>some (l,h)
  |none=>none
 |none=>none
def nM (ti:TI) (a:AV) (lo hi:Option AV):Option AV:=
 match ti.d with
 |.slice _=>match a with
  |.nil=>(bounds 0 lo hi).map fun _=>.nil
  |.sl esz es=>if esz=ti.el then (bounds es.length lo hi).map fun(l,h)=>.sl esz ((es.drop l).take (h - l)) else none
  |.loc lv k esz i n g=>if esz=ti.el then (bounds n lo hi).map fun(l,h)=>.loc lv k esz (i+l) (h - l) g else none
  |_=>none
 |.str=>match a with
  |.str s=>(bounds s.size lo hi).map fun(l,h)=>.str (s.extract l h)
  |_=>none
 |.array n _=>match a with
  |.ptr lv k o=>(bounds n lo hi).map fun(l,h)=>.bF lv k ti.el (o+l*ti.el) (h - l)
  |_=>none
 |_=>none
def sV (fl:Nat->Option (Nat×Nat)) (cs:List AV):List (Nat×AV)->Option (List AV)
 |[]=>some cs
 |(i,v)::r=>match fl i with
  |none=>none
  |some (off,size)=>match v.cells with
   |some vc=>if vc.length=size/\off+size<=cs.length then sV fl (overwrite cs off vc) r else none
   |none=>none
def aaB (ti:TI) (parts:List (Nat×AV)):Option AV:=
 match ti.d with
 |.struct=>(sV (fun i=>(ti.fl[i]?).map fun x=>(x.1,x.2.1)) ti.zero parts).map .agg
 |.array _ _=>(sV (fun i=>some (i*ti.el,ti.el)) ti.zero parts).map .agg
 |_=>none
def partsOf (tm:Tm):List (Nat×Operand)->Option (List (Nat×AV))
 |[]=>some []
 |(i,x)::l=>match bd tm x,partsOf tm l with
  |some x,some l=>some ((i,x)::l)
  |_,_=>none
def u0 (es:List (List AV)) (size:Nat):List (Nat×List AV)->Option (List (List AV))
 |[]=>some es
 |(i,cs)::r=>if cs.length=size/\i<es.length then u0 (es.set i cs) size r else none
def lH (G:AR):List (Nat×AV)->Option (List (Nat×List AV))
 |[]=>some []
 |(i,v)::r=>match v.cells with
  |some vc=>match AV.aG G vc,lH G r with
   |some cs,some l=>some ((i,cs)::l)
   |_,_=>none
  |none=>none
def jQ:List (Nat×AV)->List (Nat×Nat)
 |[]=>[]
 |(_,v)::r=>v.refs++jQ r
def qY (G:AR) (kb:Nat) (ti:TI) (len:Nat) (parts:List (Nat×AV)):Option De:=
 match ti.d with
 |.slice e=>
  if len*ti.el<=16777216/\0<ti.el then
   match lH G parts with
   |some ps=>match u0 (List.replicate len ti.fB) ti.el ps with
    |some es=>some ⟨.loc 0 kb ti.el 0 len len,hX (jQ parts)++[(0,kb,some (.arr e ti.el es))]⟩
    |none=>none
   |none=>none
  else none
 |_=>none
def aaZ (kb:Nat) (ti:TI) (len cap:AV):Option De:=
 match ti.d,len,cap with
 |.slice e,.int .i64 l,.int .i64 c=>
  if 0<=l/\l<=c/\c*ti.uZ<=140737488355328/\0<ti.el/\c<4611686018427387904 then
   some ⟨.loc 0 kb ti.el 0 l.toNat l.toNat,[(0,kb,some (.arr e ti.el (List.replicate l.toNat ti.fB)))]⟩
  else none
 |_,_,_=>none
def dk (es:List (List AV)) (size:Nat):Prop:=∀ c∈es,c.length=size
def room (n bytes:Nat):Prop:=n*bytes<=140737488355328/\n<4611686018427387904
instance (n b:Nat):Decidable (room n b):=by unfold room;exact inferInstance
def j6 (G:AR) (kb:Nat) (ti:TI) (s x:AV):Option De:=
 match ti.d with
 |.slice e=>match iI G ti.el x with
  |some new=>match s with
   |.nil=>if room new.length ti.uZ/\0<ti.el then
     some ⟨.loc 0 kb ti.el 0 new.length new.length,[(0,kb,some (.arr e ti.el new))]⟩ else none
   |.loc l k esz i n g=>match G l k with
    |some (.arr et aM es)=>
     if et=e/\aM=ti.el/\esz=ti.el/\i=0/\n=g/\es.length=g/\room (g+new.length) ti.uZ/\0<ti.el then
      some ⟨.loc l k esz 0 (g+new.length) (g+new.length),[(l,k,some (.arr et esz (es++new)))]⟩
     else if (et=e/\aM=ti.el/\esz=ti.el)/\(i=0/\es.length=g)/\n+new.length<=g/\0<ti.el then
      some ⟨.loc l k esz 0 (n+new.length) g,[(l,k,some (.arr et esz (es.take n++(new++es.drop (n+new.length)))))]⟩
     else none
    |_=>none
   |_=>none
  |none=>none
 |_=>none
def sR (G:AR) (ti:TI) (d s:AV):Option De:=
 match ti.d with
 |.slice _=>match iI G ti.el s with
  |some src=>match d with
   |.nil=>some ⟨.int .i64 0,[]⟩
   |.loc l k esz i n g=>match G l k with
    |some (.arr et aM es)=>
     if aM=ti.el/\esz=ti.el/\es.length=g/\i+n<=g then
      some ⟨.int .i64 (min src.length n),[(l,k,some (.arr et esz (es.take i++(src.take n++es.drop (i+min src.length n)))))]⟩
     else none
    |_=>none
   |.bF l k esz o n=>match G l k with
    |some (.box cs)=>
     if l=0/\ti.el=1/\esz=1/\o+n<=cs.length then
      some ⟨.int .i64 (min src.length n),[(0,k,some (.box (overwrite cs o (src.take n).flatten)))]⟩
     else none
    |_=>none
   |_=>none
  |none=>none
 |_=>none
def sQ (G:AR) (ti:TI) (d:AV):Option De:=
 match ti.d with
 |.slice _=>match d with
  |.nil=>some ⟨.ar [],[]⟩
  |.loc l k esz i n g=>match G l k with
   |some (.arr et aM es)=>
    if aM=ti.el/\esz=ti.el/\es.length=g/\i+n<=g then
     some ⟨.ar [],[(l,k,some (.arr et esz (es.take i++(List.replicate n ti.fB++es.drop (i+n)))))]⟩
    else none
   |_=>none
  |_=>none
 |_=>none
def aa1 (kb:Nat) (ti:TI) (a:AV):Option De:=
 match ti.d with
 |.slice e=>match a with
  |.nil|.sl _ _|.loc _ _ _ _ _ _=>some ⟨.loc 0 kb ti.el 0 0 0,[(0,kb,some (.arr e ti.el []))]⟩
  |_=>none
 |_=>none
def orO:Option AV->Option AV->Option AV
 |some v,_=>some v
 |none,b=>b
theorem we (v:AV) (b:Option AV):orO (some v) b=some v:=rfl
theorem ub (b:Option AV):orO none b=b:=rfl
def ly (G:AR) (ti:TI) (a lo hi:AV):Option AV:=
 match a with
 |.loc lv k esz i _ g=>match ti.d with
  |.slice _=>match lo,hi with
   |.int _ l,.int _ h=>match G lv k with
    |some (.arr _ _ es)=>if (esz=ti.el/\es.length=g)/\(0<=l/\l<=h)/\i+h.toNat<=g then some (.loc lv k esz (i+l.toNat) (h.toNat - l.toNat) g) else none
    |_=>none
   |_,_=>none
  |_=>none
 |_=>none
def xE (ti:TI) (a:AV) (l h m:Int):Option De:=
 match ti.d with
 |.slice _=>match a with
  |.sl esz es=>if (0<=l/\l<=h)/\h<=m/\m<=es.length then some ⟨if esz=ti.el then .sl esz ((es.drop l.toNat).take (h.toNat - l.toNat)) else .dead,[]⟩ else none
  |.loc _ _ _ _ n _=>if (0<=l/\l<=h)/\h<=m/\m<=n then some ⟨.dead,[]⟩ else none
  |_=>none
 |_=>none
def mY (mx:Bool):List AV->Option AV
 |[.int k x]=>some (.int k x)
 |.int k x::.int k' y::l=>if k=k' then mY mx (.int k (if mx then max x y else min x y)::l) else none
 |_=>none
  termination_by l=>l.length
def aaH:AV->Option AV
 |.ptr l k o=>some (.ptr l k o)
 |.bq l k e i o g=>some (.bq l k e i o g)
 |.aA e es i o=>some (.aA e es i o)
 |.fn f a b=>match f with
  |.func _=>some (.fn f a b)
  |_=>none
 |_=>none
def dW (r:Option AV):Option De:=r.map fun v=>⟨v,[]⟩
def uY (G:AR) (kb:Nat) (ti:TI) (s:AV) (n:Int):Option De:=
 if 0<=n/\room n.toNat ti.uZ/\0<ti.el then j6 G kb ti s (.sl ti.el (List.replicate n.toNat ti.fB)) else none
def xD (T:AM) (G:AR) (kb:Nat) (ti:TI) (s x:AV) (ts:List TypeId):Option De:=
 match ts,x with
 |[t2],.str b=>match T t2 with
  |some ti2=>match ti2.d with
   |.str=>if ti.el=1 then j6 G kb ti s (.sl 1 (ky b)) else none
   |_=>none
  |none=>none
 |[t2],.int _ n=>match T t2 with
  |some ti2=>match ti2.d with
   |.int _=>uY G kb ti s n
   |_=>none
  |none=>none
 |_,_=>none
def mX (T:AM) (G:AR) (kb:Nat) (b:Builtin) (ts:List TypeId) (xs:List AV):Option De:=
 match ts with
 |[]=>none
 |t::ts=>match T t with
  |none=>none
  |some ti=>match b with
   |.len=>match xs with
    |[x]=>dW (aaG ti x)
    |_=>none
   |.append=>match xs with
    |[s,x]=>if ts=[t] then j6 G kb ti s x else xD T G kb ti s x ts
    |_=>none
   |.copy=>match xs with
    |[d,s]=>if ts=[t] then sR G ti d s else none
    |_=>none
   |.clear=>match xs with
    |[d]=>sQ G ti d
    |_=>none
   |.max=>dW (mY true xs)
   |.min=>dW (mY false xs)
   |_=>none
def aep (c:Bool) (x y:Option AV):Option AV:=
 match c with
 |true=>x
 |false=>y
theorem apA (x y:Option AV):aep true x y=x:=rfl
theorem apz (x y:Option AV):aep false x y=y:=rfl
structure An where
 dst:Option Tmp
 op:Op
 type:TypeId
 guard:Option (Tmp×Bool)
 drop:List Nat
def bE (T:AM) (kb:Nat) (o:Op) (ty:TypeId) (tm:Tm) (G:AR):Option De:=
 match o with
 |.move x=>dW (bd tm x)
 |.assign x=>match bd tm x with
  |some .nil=>match T ty with
   |some ti=>match ti.d with
    |.slice e=>some ⟨.loc 0 kb ti.el 0 0 0,[(0,kb,some (.arr e ti.el []))]⟩
    |_=>none
   |none=>none
  |r=>dW r
 |.pick c a b=>match bd tm c with
  |some (.bool c)=>dW (aep c (bd tm a) (bd tm b))
  |_=>none
 |.alloc e=>match T e with
  |some ti=>zA kb ti ti.zero
  |none=>none
 |.box e x=>match T e,bd tm x with
  |some ti,some x=>match x.cells with
   |some cs=>zA kb ti cs
   |none=>none
  |_,_=>none
 |.build t ps=>match T t,partsOf tm ps.toList with
  |some ti,some ps=>dW (aaB ti ps)
  |_,_=>none
 |.buildSlice t len ps=>match T t,partsOf tm ps.toList with
  |some ti,some ps=>qY G kb ti len ps
  |_,_=>none
 |.load t a=>match T t,bd tm a with
  |some ti,some a=>dW (nT G ti a)
  |_,_=>none
 |.store t a x=>match T t,bd tm a,bd tm x with
  |some ti,some a,some x=>match x.cells with
   |some cs=>qZ G kb ti a cs
   |none=>none
  |_,_,_=>none
 |.nilCheck x=>match bd tm x with
  |some x=>dW (aaH x)
  |none=>none
 |.binOp op t x y _=>match T t,bd tm x,bd tm y with
  |some ti,some x,some y=>dW (aaA ti op x y)
  |_,_,_=>none
 |.unOp op _ x=>match bd tm x with
  |some x=>dW (aUn op x)
  |none=>none
 |.convert src dst x=>match T src,T dst,bd tm x with
  |some s,some d,some x=>dW (orO (kI T G s d x) (uD T s d x))
  |_,_,_=>none
 |.makeFunc f a b=>match jP tm a.toList,jP tm b.toList with
  |some a,some b=>some ⟨.fn f a b,[]⟩
  |_,_=>none
 |.makeSlice t l c=>match T t,bd tm l,bd tm c with
  |some ti,some l,some c=>aaZ kb ti l c
  |_,_,_=>none
 |.slice t x lo hi mx=>match mx with
  |some mx=>match lo,hi with
   |none,some hi=>match T t,bd tm x,bd tm hi,bd tm mx with
    |some ti,some x,some (.int _ h),some (.int _ m)=>match hi with
     |.const _=>if h=0/\m=0 then aa1 kb ti x else none
     |_=>xE ti x 0 h m
    |_,_,_,_=>none
   |some lo,some hi=>match T t,bd tm x,bd tm lo,bd tm hi with
    |some ti,some x,some (.int _ l),some (.int _ h)=>match bd tm mx with
     |some (.int _ m)=>xE ti x l h m
     |_=>none
    |_,_,_,_=>none
   |_,_=>none
  |none=>match T t,bd tm x with
   |some ti,some x=>match lo,hi with
    |none,none=>dW (nM ti x none none)
    |some lo,none=>match bd tm lo with
     |some lo=>dW (nM ti x (some lo) none)
     |none=>none
    |none,some hi=>match bd tm hi with
     |some hi=>dW (nM ti x none (some hi))
     |none=>none
    |some lo,some hi=>match bd tm lo,bd tm hi with
     |some lo,some hi=>dW (orO (ly G ti x lo hi) (nM ti x (some lo) (some hi)))
     |_,_=>none
   |_,_=>none
 |.fieldAddr s x f=>match T s,bd tm x with
  |some ti,some x=>dW (aaD ti x f)
  |_,_=>none
 |.field s x f=>match T s,bd tm x with
  |some ti,some x=>dW (aaC ti x f)
  |_,_=>none
 |.indexAddr t x i=>match T t,bd tm x,bd tm i with
  |some ti,some x,some i=>dW (aaF ti x i)
  |_,_,_=>none
 |.index t x i=>match T t,bd tm x,bd tm i with
  |some ti,some x,some i=>dW (aaE ti x i)
  |_,_,_=>none
 |.extract x i=>match bd tm x with
  |some (.ar vs)=>dW vs[i]?
  |_=>none
 |.sliceToArrayPointer t x=>match T t,bd tm x with
  |some ti,some (.loc l k esz i n g)=>match ti.d with
   |.array m _=>if esz=ti.el/\m<=n/\0<m then some ⟨.bq l k esz i 0 g,[]⟩ else none
   |_=>none
  |_,_=>none
 |.makeInterface t x=>match T t,bd tm x with
  |some ti,some x=>match ti.d with
   |.iface=>none
   |_=>some ⟨.bR t x,[]⟩
  |_,_=>none
 |.call c=>match c.callee with
  |.builtin b=>match jP tm c.args.toList with
   |some xs=>mX T G kb b c.argTypes.toList xs
   |none=>none
  |_=>none
 |_=>none
inductive SC where
 |skip
 |lf (ops:List An)
 |aO (ops:List An) (mo:List (List Nat)) (drop:List Nat)
 |seq (a b:SC)
 |cond (c:Operand) (x y:SC)
 |block (id:Nat) (b:SC)
 |loop (b:SC)
 |exit (id:Nat)
 |ret
 |other
 |mark (b:SC)
 deriving Inhabited
inductive It where
 |sc (c:SC)
 |al (id:Nat)
 |ops (l:List An)
 |back (B:St->Prop)
inductive Ev where
 |stuck
 |call (f:FuncId) (args:List AV) (dst:Option Tmp) (drop:List Nat) (todo:List It) (st:St)
 |loop (b:SC) (todo:List It) (st:St)
 |draw (ops:List An) (mo:List (List Nat)) (drop:List Nat) (todo:List It) (st:St)
 |back (B:St->Prop) (st:St)
 |fin (e:Exit) (st:St)
 |either (es:List (List AV)) (t:List It) (st s1:St)
 |throw (v:AV) (st:St)
 |mark (b:SC) (todo:List It) (st:St)
def St.get (st:St):AR:=fun l k=>Heap.get (st.fr::st.low) l k
def St.ux (st:St):Heap->St
 |[]=>st
 |f::H=>{ st with fr:=f,low:=H }
def mO (tm:List (Nat×AV)) (dst:Option Tmp) (v:AV):List (Nat×AV):=
 match dst with
 |some d=>ins tm d v
 |none=>tm
def St.by (st:St) (dst:Option Tmp) (drop:List Nat) (d:De):St:=
 St.ux { st with tm:=cA (mO st.tm dst d.val) drop,nx:=st.nx+16 } (Heap.bL (st.fr::st.low) d.lp)
def callee (tm:Tm) (c:Call):Option (FuncId×List AV):=
 match c.callee with
 |.value f=>match bd tm f,jP tm c.args.toList with
  |some (.fn (.func g) first cap),some args=>some (g,first++(args++cap))
  |_,_=>none
 |_=>none
def jb:Nat->List It->Option (List It)
 |_,[]=>none
 |id,.al rE::t=>if id=rE then some t else jb id t
 |id,_::t=>jb id t
def kj:Op->Option Call
 |.call c=>match c.callee with
  |.builtin _=>none
  |_=>some c
 |_=>none
def two (f:List It->St->Ev) (b:Bool) (t:List It) (s:St) (t':List It) (s':St):Ev:=
 match b with
 |true=>f t s
 |false=>f t' s'
theorem aeK (f:List It->St->Ev) (t:List It) (s:St) (t':List It) (s':St):two f true t s t' s'=f t s:=rfl
theorem aeJ (f:List It->St->Ev) (t:List It) (s:St) (t':List It) (s':St):two f false t s t' s'=f t' s':=rfl
def next (f:List It->St->Ev) (t:List It) (st:St) (dst:Option Tmp) (drop:List Nat):Option De->Ev
 |some d=>f t (st.by dst drop d)
 |none=>.stuck
theorem aoW (f:List It->St->Ev) (t:List It) (st:St) (dst:Option Tmp) (drop:List Nat) (d:De):next f t st dst drop (some d)=f t (st.by dst drop d):=rfl
def ad9 (t:List It) (st:St) (dst:Option Tmp) (drop:List Nat):Option (FuncId×List AV)->Ev
 |some (f,args)=>.call f (AV.de 1 args) dst drop t st
 |none=>.stuck
theorem aoT (t:List It) (st:St) (dst:Option Tmp) (drop:List Nat) (g:FuncId) (args:List AV):ad9 t st dst drop (some (g,args))=.call g (AV.de 1 args) dst drop t st:=rfl
def abw (T:AM) (o:Op) (tm:Tm):Option (List (List AV)):=
 match o with
 |.binOp .eql t (.tmp x) (.const (.slice none 0 0)) _=>match T t with
  |some ti=>match ti.d with
   |.slice _=>match tm x with
    |some (.sl _ es)=>some es
    |_=>none
   |_=>none
  |none=>none
 |_=>none
def zP (o:An) (t:List It) (st:St) (e:Ev):Option (List (List AV))->Ev
 |some es=>.either es t (st.by o.dst o.drop ⟨.bool true,[]⟩) (st.by o.dst o.drop ⟨.bool false,[]⟩)
 |none=>e
theorem api (o:An) (t:List It) (st:St) (e:Ev) (es:List (List AV)):zP o t st e (some es)=.either es t (st.by o.dst o.drop ⟨.bool true,[]⟩) (st.by o.dst o.drop ⟨.bool false,[]⟩):=rfl
theorem aph (o:An) (t:List It) (st:St) (e:Ev):zP o t st e none=e:=rfl
def adR:Op->Option Operand
 |.panic x=>some x
 |_=>none
def aeI (st:St):Option AV->Ev
 |some v=>.throw v st
 |none=>.stuck
def aa0 (T:AM) (f:List It->St->Ev) (o:An) (t:List It) (st:St):Ev:=
 match kj o.op with
 |some c=>ad9 t st o.dst o.drop (callee (look st.tm) c)
 |none=>match adR o.op with
  |some x=>aeI st (bd (look st.tm) x)
  |none=>zP o t st (next f t st o.dst o.drop (bE T st.nx o.op o.type (look st.tm) st.get)) (abw T o.op (look st.tm))
def St.mg (st:St) (o:An):St:=st.by o.dst o.drop ⟨.ar [],[]⟩
def run (T:AM):Nat->List It->St->Ev
 |0,_,_=>.stuck
 |_+1,[],st=>.fin .normal st
 |n+1,.al _::t,st=>run T n t st
 |_+1,.back B::_,st=>.back B st
 |n+1,.ops []::t,st=>run T n t st
 |n+1,.ops (o::os)::t,st=>match o.guard with
  |none=>aa0 T (run T n) o (.ops os::t) st
  |some (g,w)=>match look st.tm g with
   |some (.bool b)=>two (run T n) (b==w) (.ops (⟨o.dst,o.op,o.type,none,o.drop⟩::os)::t) st (.ops os::t) (st.mg o)
   |some (.ar [])=>run T n (.ops os::t) (st.mg o)
   |_=>.stuck
 |n+1,.sc .skip::t,st=>run T n t st
 |n+1,.sc (.lf ops)::t,st=>run T n (.ops ops::t) st
 |_+1,.sc (.aO ops mo drop)::t,st=>.draw ops mo drop t st
 |n+1,.sc (.seq a b)::t,st=>run T n (.sc a::.sc b::t) st
 |n+1,.sc (.cond c x y)::t,st=>match bd (look st.tm) c with
  |some (.bool b)=>two (run T n) b (.sc x::t) st (.sc y::t) st
  |_=>.stuck
 |n+1,.sc (.block id b)::t,st=>run T n (.sc b::.al id::t) st
 |_+1,.sc (.loop b)::t,st=>.loop b t st
 |n+1,.sc (.exit id)::t,st=>match jb id t with
  |some t'=>run T n t' st
  |none=>.fin (.exit id) st
 |_+1,.sc .ret::_,st=>.fin .ret st
 |_+1,.sc .other::_,_=>.stuck
 |_+1,.sc (.mark b)::t,st=>.mark b t st
end Go.Abs
namespace Go.Abs
open Go Go.RowKit
theorem rN {α:Type} (l:List (Nat×α)) (t:Nat) (v:α) (u:Nat):look (ins l t v) u=if t=u then some v else look l u:=by
 induction l with
 |nil=>simp[ins,look]
 |cons p l ih=>
  obtain⟨k,x⟩:=p
  simp only[ins]
  split
  ·simp only[look]
  ·split
   ·subst_vars
    simp only[look]
    by_cases h:k=u<;>simp[h]
   ·simp only[look,ih]
    by_cases h:k=u
    ·subst h;simp;intro h;omega
    ·simp[h]
theorem zw {α:Type} (l:List (Nat×α)) (t u:Nat):look (del l t) u=if t=u then none else look l u:=by
 induction l with
 |nil=>simp[del,look]
 |cons p l ih=>
  obtain⟨k,x⟩:=p
  simp only[del]
  split
  ·rename_i hk
   subst hk
   rw[ih]
   simp only[look]
   by_cases h:k=u<;>simp[h]
  ·simp only[look,ih]
   by_cases h:k=u
   ·subst h;simp;intro h;omega
   ·simp[h]
theorem zx {α:Type} (ts:List Nat):∀ (l:List (Nat×α)) (u:Nat) (x:α),look (cA l ts) u=some x->look l u=some x:=by
 induction ts with
 |nil=>intro l u x h;exact h
 |cons t ts ih=>
  intro l u x h
  have:=ih _ _ _ h
  rw[zw]at this
  split at this
  ·cases this
  ·exact this
theorem Heap.pH (H:Heap) (l k:Nat) (b:Option AH):∀ (l' k':Nat),(H.put l k b).get l' k'=if l=l'/\k=k'/\l<H.length then b else H.get l' k':=by
 induction H generalizing l with
 |nil=>intro l' k';simp[Heap.put,Heap.get]
 |cons f H ih=>
  intro l' k'
  cases l with
  |zero=>
   cases b with
   |some b=>
    simp only[Heap.put]
    cases l' with
    |zero=>simp[Heap.get,rN]
    |succ l'=>simp[Heap.get]
   |none=>
    simp only[Heap.put]
    cases l' with
    |zero=>simp[Heap.get,zw]
    |succ l'=>simp[Heap.get]
  |succ l=>
   simp only[Heap.put]
   cases l' with
   |zero=>simp[Heap.get]
   |succ l'=>
    simp only[Heap.get,ih]
    simp
@[simp] theorem Heap.aoD (H:Heap) (l k:Nat) (b:Option AH):(H.put l k b).length=H.length:=by
 induction H generalizing l with
 |nil=>rfl
 |cons f H ih=>cases l<;>cases b<;>simp[Heap.put,ih]
@[simp] theorem Heap.ahE (s:List (Nat×Nat×Option AH)):∀ H:Heap,(H.bL s).length=H.length:=by
 induction s with
 |nil=>intro H;rfl
 |cons p s ih=>obtain⟨l,k,b⟩:=p;intro H;simp[Heap.bL,ih]
theorem Heap.oN (s t:List (Nat×Nat×Option AH)):∀ H:Heap,H.bL (s++t)=(H.bL s).bL t:=by
 induction s with
 |nil=>intro H;rfl
 |cons p s ih=>obtain⟨l,k,b⟩:=p;intro H;simp[Heap.bL,ih]
theorem Heap.rh (H:Heap):∀ (l k:Nat) (b:AH),H.get l k=some b->l<H.length:=by
 induction H with
 |nil=>intro l k b h;simp[Heap.get]at h
 |cons f H ih=>
  intro l k b h
  cases l with
  |zero=>simp
  |succ l=>simp only[Heap.get]at h;have:=ih _ _ _ h;simp;omega
theorem Heap.ary (d:Nat):∀ (H:Heap) (l k:Nat),Heap.get (H.drop d) l k=H.get (l+d) k:=by
 induction d with
 |zero=>intro H l k;simp
 |succ d ih=>
  intro H l k
  cases H with
  |nil=>simp[Heap.get]
  |cons f H=>simp only[List.drop_succ_cons,ih];rw[show l+(d+1)=(l+d)+1 from by omega];simp[Heap.get]
inductive TB where
 |box (c:Nat)
 |arr (m:Nat) (c:Option (Nat×Nat))
 |gone
abbrev Ak:=Nat->Option TB
structure FM where
 v:Nat->Nat->Option Value
 t:Nat->Nat
instance:CoeFun FM fun _=>Nat->Nat->Option Value:=⟨FM.v⟩
def FM.at (fm:FM) (b o:Nat) (x:Value) (z:Nat):Prop:=fm b o=some x/\(fm.t b=0\/fm.t b=z)
def FM.uF (fm:FM) (b o:Nat) (x:Value) (z:Nat):Prop:=fm b o=some x/\(fm.t b=0\/fm.t b=z\/fm.t b=1)
theorem FM.at.p {fm:FM}{b o z:Nat}{x:Value} (h:fm.at b o x z):fm.uF b o x z:=⟨h.1,h.2.elim .inl (fun e=>.inr (.inl e))⟩
def tb:List Ak->Nat->Nat->Option TB
 |[],_,_=>none
 |t::_,0,k=>t k
 |_::ts,l+1,k=>tb ts l k
def cV:List Ak->Nat->Nat->TB->List Ak
 |[],_,_,_=>[]
 |t::ts,0,k,x=>(fun j=>if j=k then some x else t j)::ts
 |t::ts,l+1,k,x=>t::cV ts l k x
theorem ek (ts:List Ak):∀ (l k:Nat) (x:TB) (l' k':Nat),tb (cV ts l k x) l' k'=if l=l'/\k=k'/\l<ts.length then some x else tb ts l' k':=by
 induction ts with
 |nil=>intro l k x l' k';simp[cV,tb]
 |cons t ts ih=>
  intro l k x l' k'
  cases l with
  |zero=>
   cases l' with
   |zero=>simp only[cV,tb];simp[eq_comm]
   |succ l'=>simp[cV,tb]
  |succ l=>
   cases l' with
   |zero=>simp[cV,tb]
   |succ l'=>simp[cV,tb,ih]
@[simp] theorem arZ (ts:List Ak):∀ (l k:Nat) (x:TB),(cV ts l k x).length=ts.length:=by
 induction ts with
 |nil=>intro l k x;rfl
 |cons t ts ih=>intro l k x;cases l<;>simp[cV,ih]
theorem fg (d:Nat):∀ (ts:List Ak) (l k:Nat),tb (ts.drop d) l k=tb ts (l+d) k:=by
 induction d with
 |zero=>intro ts l k;simp
 |succ d ih=>
  intro ts l k
  cases ts with
  |nil=>simp[tb]
  |cons t ts=>simp only[List.drop_succ_cons,ih];rw[show l+(d+1)=(l+d)+1 from by omega];simp[tb]
inductive VR (fm:FM):List Ak->AV->Value->Prop
 |bool {ts} (b:Bool):VR fm ts (.bool b) (.bool b)
 |int {ts} (k:IntKind) (n:Int):VR fm ts (.int k n) (.int k n)
 |str {ts} (s:ByteArray):VR fm ts (.str s) (.string s)
 |nil {ts}:VR fm ts .nil (.slice none 0 0)
 |cd {ts} (e:Nat) (a:Option Addr) (cap:Nat):VR fm ts (.sl e []) (.slice a 0 cap)
 |sl {ts} (es:List (List AV)) (cb off esz cap:Nat) (u:Nat->Nat->Value) (bU:es.length<=cap/\es.length<=maxLen) (h1:dk es esz)
   (h2:∀ (i:Nat) (c:List AV) (o:Nat) (x:AV),es[i]?=some c->c[o]?=some x->fm.at cb (off+(i*esz+o)) (u i o) esz)
   (h3:∀ (i:Nat) (c:List AV) (o:Nat) (x:AV),es[i]?=some c->c[o]?=some x->x.flat=true)
   (h4:∀ (i:Nat) (c:List AV) (o:Nat) (x:AV),es[i]?=some c->c[o]?=some x->VR fm [] x (u i o)):VR fm ts (.sl esz es) (.slice (some ⟨cb,off,none⟩) es.length cap)
 |cH {ts} (l k esz i n g:Nat) (a:Option Addr) (cp:Nat) (h:tb ts l k=some .gone) (hn:n<=cp) (ha:0<n->∃ p,a=some p):VR fm ts (.loc l k esz i n g) (.slice a n cp)
 |cI {ts} (l k esz i n g:Nat) (a:Option Addr) (cp m':Nat) (c:Option (Nat×Nat)) (h:tb ts l k=some (.arr m' c)) (ae:g<m') (hn:n<=cp) (ha:0<n->∃ p,a=some p):VR fm ts (.loc l k esz i n g) (.slice a n cp)
 |cv {ts} (l k esz:Nat) (a:Option Addr) (h:tb ts l k=some (.arr 0 none)):VR fm ts (.loc l k esz 0 0 0) (.slice a 0 0)
 |loc {ts} (l k esz i n g c cap cp:Nat) (a:Addr) (h:tb ts l k=some (.arr g (some (c,cap)))) (hn:i+n<=g) (bI:n<=cp) (hc:i+cp=cap) (ha:cp≠0\/i=0->a=⟨c,i*esz,none⟩):VR fm ts (.loc l k esz i n g) (.slice (some a) n cp)
 |bF {ts} (l k esz o n c cp:Nat) (a:Addr) (h:tb ts l k=some (.box c)) (hn:n<=cp) (ha:cp≠0->a=⟨c,o,none⟩):VR fm ts (.bF l k esz o n) (.slice (some a) n cp)
 |bG {ts}:VR fm ts .bG (.pointer none)
 |ptr {ts} (l k o c:Nat) (h:tb ts l k=some (.box c)):VR fm ts (.ptr l k o) (.pointer (some ⟨c,o,none⟩))
 |ey {ts} (l k esz i o g:Nat) (a:Addr) (h:tb ts l k=some .gone):VR fm ts (.bq l k esz i o g) (.pointer (some a))
 |eA {ts} (l k esz i o g:Nat) (a:Addr) (m':Nat) (c:Option (Nat×Nat)) (h:tb ts l k=some (.arr m' c)) (ae:g<m'):VR fm ts (.bq l k esz i o g) (.pointer (some a))
 |bq {ts} (l k esz i o g c cap:Nat) (h:tb ts l k=some (.arr g (some (c,cap)))):VR fm ts (.bq l k esz i o g) (.pointer (some ⟨c,i*esz+o,none⟩))
 |aA {ts} (es:List (List AV)) (i o cb off esz:Nat) (u:Nat->Nat->Value) (h1:dk es esz)
   (h2:∀ (i:Nat) (c:List AV) (o:Nat) (x:AV),es[i]?=some c->c[o]?=some x->fm.uF cb (off+(i*esz+o)) (u i o) esz)
   (h3:∀ (i:Nat) (c:List AV) (o:Nat) (x:AV),es[i]?=some c->c[o]?=some x->x.flat=true)
   (h4:∀ (i:Nat) (c:List AV) (o:Nat) (x:AV),es[i]?=some c->c[o]?=some x->VR fm [] x (u i o)):VR fm ts (.aA esz es i o) (.pointer (some ⟨cb,off+(i*esz+o),none⟩))
 |bP {ts}:VR fm ts .bP .nilFunc
 |fn {ts} (f:Fn) (first cap:List AV) (vf vc:Array Value) (h1:first.length=vf.size) (h2:cap.length=vc.size)
   (h3:∀ (i:Nat) x v,first[i]?=some x->vf[i]?=some v->VR fm ts x v)
   (h4:∀ (i:Nat) x v,cap[i]?=some x->vc[i]?=some v->VR fm ts x v):VR fm ts (.fn f first cap) (.func f vf vc)
 |bS {ts}:VR fm ts .bS .nilIface
 |raw {ts} (v:Value) (h:v.oneCell'=true):VR fm ts (.raw v) v
 |bR {ts} (t:TypeId) (x:AV) (v:Value) (h:VR fm ts x v):VR fm ts (.bR t x) (.iface t v)
 |agg {ts} (cs:List AV) (vs:Array Value) (h1:cs.length=vs.size) (h2:∀ x∈cs,x.flat=true)
   (h3:∀ (i:Nat) x v,cs[i]?=some x->vs[i]?=some v->VR fm ts x v):VR fm ts (.agg cs) (.agg vs)
 |ar {ts} (xs:List AV) (vs:Array Value) (h1:xs.length=vs.size)
   (h3:∀ (i:Nat) x v,xs[i]?=some x->vs[i]?=some v->VR fm ts x v):VR fm ts (.ar xs) (.tuple vs)
 |dead {ts} (v:Value):VR fm ts .dead v
def Au (fm:FM) (ts:List Ak) (xs:List AV) (vs:List Value):Prop:=xs.length=vs.length/\∀ (i:Nat) x v,xs[i]?=some x->vs[i]?=some v->VR fm ts x v
structure AZ (fm fm':FM):Prop where
 le:∀ b o v,fm b o=some v->fm' b o=some v
 tg:∀ b o v,fm b o=some v->fm'.t b=fm.t b
theorem AZ.uF {fm fm':FM} (h:AZ fm fm') {b o z:Nat}{x:Value} (k:fm.uF b o x z):fm'.uF b o x z:=⟨h.le _ _ _ k.1,by rw[h.tg _ _ _ k.1];exact k.2⟩
theorem AZ.at {fm fm':FM} (h:AZ fm fm') {b o z:Nat}{x:Value} (k:fm.at b o x z):fm'.at b o x z:=⟨h.le _ _ _ k.1,by rw[h.tg _ _ _ k.1];exact k.2⟩
def Bl:Option TB->Option TB->Prop
 |none,_=>True
 |some .gone,x=>x=some .gone
 |some (.box c),x=>x=some (.box c)
 |some (.arr m c),x=>x=some (.arr m c)\/x=some .gone\/∃ m' c',x=some (.arr m' c')/\m<m'
def As (ts ts':List Ak):Prop:=∀ l k,Bl (tb ts l k) (tb ts' l k)
theorem Bl.refl (x:Option TB):Bl x x:=by
 cases x with
 |none=>trivial
 |some x=>cases x<;>simp[Bl]
theorem Bl.trans {x y z:Option TB} (h:Bl x y) (h':Bl y z):Bl x z:=by
 cases x with
 |none=>trivial
 |some x=>
  cases x with
  |gone=>simp only[Bl]at h;subst h;exact h'
  |box c=>simp only[Bl]at h;subst h;exact h'
  |arr m c=>
   simp only[Bl]at h
   rcases h with rfl|rfl|⟨m',c',rfl,ae⟩
   ·exact h'
   ·simp only[Bl]at h';subst h';simp[Bl]
   ·simp only[Bl]at h' ⊢
    rcases h' with rfl|rfl|⟨oF,c'',rfl,fQ⟩
    ·exact .inr (.inr ⟨_,_,rfl,ae⟩)
    ·exact .inr (.inl rfl)
    ·exact .inr (.inr ⟨_,_,rfl,by omega⟩)
theorem As.refl (ts:List Ak):As ts ts:=fun _ _=>Bl.refl _
theorem As.trans {a b c:List Ak} (h:As a b) (h':As b c):As a c:=fun l k=>(h l k).trans (h' l k)
theorem AZ.refl (fm:FM):AZ fm fm:=⟨fun _ _ _ h=>h,fun _ _ _ _=>rfl⟩
theorem AZ.trans {a b c:FM} (h:AZ a b) (h':AZ b c):AZ a c:=⟨fun _ _ _ x=>h'.le _ _ _ (h.le _ _ _ x),fun _ _ _ x=>(h'.tg _ _ _ (h.le _ _ _ x)).trans (h.tg _ _ _ x)⟩
theorem As.drop {ts ts':List Ak} (h:As ts ts') (d:Nat):As (ts.drop d) (ts'.drop d):=by
 intro l k;rw[fg,fg];exact h _ _
theorem As.nil (ts:List Ak):As [] ts:=fun _ _=>trivial
theorem Bl.box {x y:Option TB}{c:Nat} (h:Bl x y) (hx:x=some (.box c)):y=some (.box c):=by subst hx;exact h
theorem Bl.gone {x y:Option TB} (h:Bl x y) (hx:x=some .gone):y=some .gone:=by subst hx;exact h
theorem Bl.arr {x y:Option TB}{m:Nat}{c:Option (Nat×Nat)} (h:Bl x y) (hx:x=some (.arr m c)):y=some (.arr m c)\/y=some .gone\/∃ m' c',y=some (.arr m' c')/\m<m':=by subst hx;exact h
theorem VR.mono {fm fm':FM} (hf:AZ fm fm') {ts:List Ak}{x:AV}{v:Value} (h:VR fm ts x v):∀ {ts':List Ak},As ts ts'->VR fm' ts' x v:=by
 induction h with
 |bool b=>intro ts' _;exact .bool b
 |int k n=>intro ts' _;exact .int k n
 |str s=>intro ts' _;exact .str s
 |nil=>intro ts' _;exact .nil
 |cd e a cap=>intro ts' _;exact .cd e a cap
 |sl es cb off esz cap u bU h1 h2 h3 _ ih=>intro ts' _;exact .sl es cb off esz cap u bU h1 (fun i c o x a b=>hf.at (h2 i c o x a b)) h3 (fun i c o x a b=>ih i c o x a b (As.refl _))
 |cH l k esz i n g a cp h hn ha=>intro ts' hl;exact .cH l k esz i n g a cp ((hl l k).gone h) hn ha
 |cI l k esz i n g a cp m' c h ae hn ha=>
  intro ts' hl
  rcases (hl l k).arr h with h|h|⟨oF,c',h,h'⟩
  ·exact .cI l k esz i n g a cp m' c h ae hn ha
  ·exact .cH l k esz i n g a cp h hn ha
  ·exact .cI l k esz i n g a cp oF c' h (by omega) hn ha
 |cv l k esz a h=>
  intro ts' hl
  rcases (hl l k).arr h with h|h|⟨oF,c',h,h'⟩
  ·exact .cv l k esz a h
  ·exact .cH l k esz _ _ _ _ _ h (Bd _) (fun h=>absurd h (by omega))
  ·exact .cI l k esz _ _ _ _ _ oF c' h (by omega) (Bd _) (fun h=>absurd h (by omega))
 |loc l k esz i n g c cap cp a h hn bI hc ha=>
  intro ts' hl
  rcases (hl l k).arr h with h|h|⟨oF,c',h,h'⟩
  ·exact .loc l k esz i n g c cap cp a h hn bI hc ha
  ·exact .cH l k esz _ _ _ _ _ h bI (fun _=>⟨a,rfl⟩)
  ·exact .cI l k esz _ _ _ _ _ oF c' h (by omega) bI (fun _=>⟨a,rfl⟩)
 |bF l k esz o n c cp a h hn ha=>intro ts' hl;exact .bF l k esz o n c cp a ((hl l k).box h) hn ha
 |bG=>intro ts' _;exact .bG
 |ptr l k o c h=>intro ts' hl;exact .ptr l k o c ((hl l k).box h)
 |ey l k esz i o g a h=>intro ts' hl;exact .ey l k esz i o g a ((hl l k).gone h)
 |eA l k esz i o g a m' c h ae=>
  intro ts' hl
  rcases (hl l k).arr h with h|h|⟨oF,c',h,h'⟩
  ·exact .eA l k esz i o g a m' c h ae
  ·exact .ey l k esz i o g a h
  ·exact .eA l k esz i o g a oF c' h (by omega)
 |bq l k esz i o g c cap h=>
  intro ts' hl
  rcases (hl l k).arr h with h|h|⟨oF,c',h,h'⟩
  ·exact .bq l k esz i o g c cap h
  ·exact .ey l k esz i o g _ h
  ·exact .eA l k esz i o g _ oF c' h (by omega)
 |aA es i o cb off esz u h1 h2 h3 _ ih=>intro ts' _;exact .aA es i o cb off esz u h1 (fun i c o x a b=>hf.uF (h2 i c o x a b)) h3 (fun i c o x a b=>ih i c o x a b (As.refl _))
 |bP=>intro ts' _;exact .bP
 |fn f first cap vf vc h1 h2 _ _ iq iu=>intro ts' hl;exact .fn f first cap vf vc h1 h2 (fun i x v a b=>iq i x v a b hl) (fun i x v a b=>iu i x v a b hl)
 |bS=>intro ts' _;exact .bS
 |raw r_ jo=>intro ts' _;exact .raw r_ jo
 |bR t x v _ ih=>intro ts' hl;exact .bR t x v (ih hl)
 |agg cs vs h1 h2 _ ih=>intro ts' hl;exact .agg cs vs h1 h2 (fun i x v a b=>ih i x v a b hl)
 |ar xs vs h1 _ ih=>intro ts' hl;exact .ar xs vs h1 (fun i x v a b=>ih i x v a b hl)
 |dead v=>intro ts' _;exact .dead v
theorem VR.aeh {fm:FM}{ts:List Ak}{x:AV}{v:Value} (h:VR fm ts x v) (hx:x.flat=true):v.oneCell'=true:=by
 cases h<;>first|rfl|assumption|(simp[AV.flat]at hx)
end Go.Abs
namespace Go.Abs
open Go Go.RowKit
def bz:Option TB->Option Nat
 |some (.box c)=>some c
 |some (.arr _ (some (c,_)))=>some c
 |_=>none
def Fg (fm:FM) (ts:List Ak) (w:World) (c:Nat) (cs:List AV):Prop:=
 ∃ cells et,w.heap[c]?=some (.cells cells et (0,0))/\cells.size=cs.length/\
  ∀ (o:Nat) (x:AV) (v:Value),cs[o]?=some x->cells[o]?=some v->x.flat=true/\VR fm ts x v
def Dj (fm:FM) (w:World) (et esz:Nat) (es:List (List AV)) (c cap:Nat):Prop:=
 ∃ cells,w.heap[c]?=some (.cells cells et (0,0))/\cells.size=cap*esz/\es.length<=cap/\cap<=maxLen/\dk es esz/\0<esz/\
  ∀ (i:Nat) (cc:List AV) (o:Nat) (x:AV) (v:Value),es[i]?=some cc->cc[o]?=some x->cells[i*esz+o]?=some v->x.flat=true/\VR fm [] x v
inductive BR (fm:FM) (ts:List Ak) (w:World) (N0:Nat):Option TB->AH->Prop
 |box (c:Nat) (cs:List AV) (hN:N0<=c) (h:Fg fm ts w c cs):BR fm ts w N0 (some (.box c)) (.box cs)
 |nil (et esz:Nat):BR fm ts w N0 (some (.arr 0 none)) (.arr et esz [])
 |arr (et esz:Nat) (es:List (List AV)) (c cap:Nat) (hN:N0<=c) (h:Dj fm w et esz es c cap):BR fm ts w N0 (some (.arr es.length (some (c,cap)))) (.arr et esz es)
def zQ:Obj->Bool
 |.cells ..=>false
 |_=>true
def D9 (w:World) (b:Nat):Prop:=∃ cells et,w.heap[b]?=some (.cells cells et (0,0))
theorem D9.of {w w':World}{b:Nat} (h:D9 w b) (e:w'.heap[b]?=w.heap[b]?):D9 w' b:=let ⟨c,t,h⟩:=h;⟨c,t,e.trans h⟩
structure HR (N0:Nat) (W0:World) (fm:FM) (ts:List Ak) (H:Heap) (w:World):Prop where
 len:ts.length=H.length
 al:∀ l k b,H.get l k=some b->BR fm (ts.drop l) w N0 (tb ts l k) b
 inj:∀ l k l' k' b b' c,H.get l k=some b->H.get l' k'=some b'->bz (tb ts l k)=some c->bz (tb ts l' k')=some c->l=l'/\k=k'
 bO:∀ b o v,fm b o=some v->w.cell? ⟨b,o,none⟩=some v
 dh:∀ l k b c o,H.get l k=some b->bz (tb ts l k)=some c->fm c o=none
 dg:Below N0 W0 w
 size:N0<=w.heap.size
 cT:∀ (b:Nat) (o:Obj),W0.heap[b]?=some o->zQ o=true->w.heap[b]?=some o
 dZ:∀ b o v,N0<=b->fm b o=some v->2<=fm.t b->D9 w b
def EW (N0:Nat) (fm:FM) (w:World):Prop:=∀ b o v,N0<=b->fm b o=some v->2<=fm.t b->D9 w b
theorem Fg.mono {fm fm':FM}{ts ts':List Ak}{w w':World}{c:Nat}{cs:List AV} (h:Fg fm ts w c cs) (hf:AZ fm fm') (ht:As ts ts') (hw:w'.heap[c]?=w.heap[c]?):Fg fm' ts' w' c cs:=by
 obtain⟨cells,et,h1,h2,h3⟩:=h
 exact⟨cells,et,hw.trans h1,h2,fun o x v a b=>⟨(h3 o x v a b).1,(h3 o x v a b).2.mono hf ht⟩⟩
theorem Dj.mono {fm fm':FM}{w w':World}{et esz:Nat}{es:List (List AV)}{c cap:Nat} (h:Dj fm w et esz es c cap) (hf:AZ fm fm') (hw:w'.heap[c]?=w.heap[c]?):Dj fm' w' et esz es c cap:=by
 obtain⟨cells,h1,h2,h3,h4,h5,h6,h7⟩:=h
 exact⟨cells,hw.trans h1,h2,h3,h4,h5,h6,fun i cc o x v a b d=>⟨(h7 i cc o x v a b d).1,(h7 i cc o x v a b d).2.mono hf (As.refl _)⟩⟩
theorem BR.mono {fm fm':FM}{ts ts':List Ak}{w w':World}{N0:Nat}{t:Option TB}{b:AH} (h:BR fm ts w N0 t b) (hf:AZ fm fm') (ht:As ts ts')
  (hw:∀ c,bz t=some c->w'.heap[c]?=w.heap[c]?):BR fm' ts' w' N0 t b:=by
 cases h with
 |box c cs hN h=>exact .box c cs hN (h.mono hf ht (hw c rfl))
 |nil et esz=>exact .nil et esz
 |arr et esz es c cap hN h=>exact .arr et esz es c cap hN (h.mono hf (hw c rfl))
theorem BR.lt {fm:FM}{ts:List Ak}{w:World}{N0:Nat}{t:Option TB}{b:AH} (h:BR fm ts w N0 t b) {c:Nat} (hc:bz t=some c):c<w.heap.size/\N0<=c:=by
 cases h with
 |box c' cs hN h=>
  simp only[bz,oE]at hc;subst hc
  obtain⟨cells,et,h1,_⟩:=h
  exact⟨(CF.1 h1).1,hN⟩
 |nil et esz=>simp[bz]at hc
 |arr et esz es c' cap hN h=>
  simp only[bz,oE]at hc;subst hc
  obtain⟨cells,h1,_⟩:=h
  exact⟨(CF.1 h1).1,hN⟩
theorem aqB (ts:List Ak):∀ (l k:Nat) (x:TB),tb ts l k=some x->l<ts.length:=by
 induction ts with
 |nil=>intro l k x h;simp[tb]at h
 |cons t ts ih=>
  intro l k x h
  cases l with
  |zero=>simp
  |succ l=>simp only[tb]at h;have:=ih _ _ _ h;simp;omega
theorem As.set {ts:List Ak}{l k:Nat}{x:TB} (h:Bl (tb ts l k) (some x)):As ts (cV ts l k x):=by
 intro l' k'
 rw[ek]
 split
 ·rename_i hh;obtain⟨rfl,rfl,_⟩:=hh;exact h
 ·exact Bl.refl _
section
variable {N0:Nat}{W0:World}{fm:FM}{ts:List Ak}{H:Heap}{w:World}
theorem HR.w9 (h:HR N0 W0 fm ts H w) {w':World}{l k c:Nat}{x:TB}{b:AH} (hl:l<H.length) (hx:bz (some x)=some c)
  (hw:∀ i,i≠c->i<w.heap.size->w'.heap[i]?=w.heap[i]?) (lN:Below N0 w w') (nk:∀ o,w.heap[c]?=some o->zQ o=false) (hle:Bl (tb ts l k) (some x))
  (hc:∀ l' k' b',H.get l' k'=some b'->bz (tb ts l' k')=some c->l'=l/\k'=k) (hfm:∀ o,fm c o=none)
  (eD:BR fm ((cV ts l k x).drop l) w' N0 (some x) b):HR N0 W0 fm (cV ts l k x) (H.put l k (some b)) w':=by
 have hT:As ts (cV ts l k x):=As.set hle
 have ae:l<ts.length:=by rw[h.len];exact hl
 have other:∀ l' k',¬ (l=l'/\k=k')->tb (cV ts l k x) l' k'=tb ts l' k':=by
  intro l' k' bg
  rw[ek,if_neg (fun hh=>bg ⟨hh.1,hh.2.1⟩)]
 have same:tb (cV ts l k x) l k=some x:=by rw[ek,if_pos ⟨rfl,rfl,ae⟩]
 have nY:∀ l' k',¬ (l=l'/\k=k')->(H.put l k (some b)).get l' k'=H.get l' k':=by
  intro l' k' bg
  rw[Heap.pH,if_neg (fun hh=>bg ⟨hh.1,hh.2.1⟩)]
 have adk:(H.put l k (some b)).get l k=some b:=by rw[Heap.pH,if_pos ⟨rfl,rfl,hl⟩]
 refine⟨by simp[h.len],?_,?_,?_,?_,h.dg.trans lN,Ec h.size lN.size,fun b o h0 ho=>?_,fun b o v hN hv ht=>?_⟩
 rotate_right
 ·have bg:b≠c:=fun e=>by subst e;rw[hfm]at hv;cases hv
  exact(h.dZ b o v hN hv ht).of (hw b bg (World.block_lt_of_cell? w _ (h.bO b o v hv)))
 rotate_right
 ·have hb:=h.cT b o h0 ho
  have bg:b≠c:=fun e=>by subst e;rw[nk o hb]at ho;cases ho
  exact(hw b bg (CF.1 hb).1).trans hb
 ·intro l' k' b' hg
  by_cases he:l=l'/\k=k'
  ·obtain⟨rfl,rfl⟩:=he
   rw[adk]at hg
   obtain rfl:=oi hg
   rw[same]
   exact eD
  ·rw[nY _ _ he]at hg
   rw[other _ _ he]
   refine(h.al l' k' b' hg).mono (AZ.refl _) (hT.drop l') (fun c' kP=>hw c' ?_ ((h.al l' k' b' hg).lt kP).1)
   intro e
   subst e
   exact he (let ⟨a,b⟩:=hc l' k' b' hg kP;⟨a.symm,b.symm⟩)
 ·intro l1 k1 l2 k2 b1 b2 c' g1 g2 t1 t2
  by_cases e1:l=l1/\k=k1
  ·obtain⟨rfl,rfl⟩:=e1
   by_cases e2:l=l2/\k=k2
   ·exact e2
   ·rw[same]at t1
    rw[other _ _ e2]at t2
    rw[nY _ _ e2]at g2
    rw[hx]at t1
    obtain rfl:=oi t1
    have:=hc l2 k2 b2 g2 t2
    exact⟨this.1.symm,this.2.symm⟩
  ·rw[other _ _ e1]at t1
   rw[nY _ _ e1]at g1
   by_cases e2:l=l2/\k=k2
   ·obtain⟨rfl,rfl⟩:=e2
    rw[same,hx]at t2
    obtain rfl:=oi t2
    exact hc l1 k1 b1 g1 t1
   ·rw[other _ _ e2]at t2
    rw[nY _ _ e2]at g2
    exact h.inj l1 k1 l2 k2 b1 b2 c' g1 g2 t1 t2
 ·intro b' o v hv
  have bg:b'≠c:=fun e=>by subst e;rw[hfm]at hv;cases hv
  have gJ:=h.bO b' o v hv
  have hb:b'<w.heap.size:=World.block_lt_of_cell? w _ gJ
  rw[<-gJ]
  exact World.cell?_of_block (w:=w) (w':=w') (a:=⟨b',o,none⟩) (hw b' bg hb)
 ·intro l' k' b' c' o hg ht
  by_cases he:l=l'/\k=k'
  ·obtain⟨rfl,rfl⟩:=he
   rw[same,hx]at ht
   obtain rfl:=oi ht
   exact hfm o
  ·rw[nY _ _ he]at hg
   rw[other _ _ he]at ht
   exact h.dh l' k' b' c' o hg ht
theorem HR.fresh (h:HR N0 W0 fm ts H w) {cells:Array Value}{et:TypeId}{k:Nat}{x:TB}{b:AH} (hH:0<H.length) (hk:tb ts 0 k=none) (hx:bz (some x)=some w.heap.size)
  (eD:BR fm (cV ts 0 k x) (w.alloc (.cells cells et)) N0 (some x) b):
  HR N0 W0 fm (cV ts 0 k x) (H.put 0 k (some b)) (w.alloc (.cells cells et)):=by
 refine h.w9 hH hx (fun i _ hi=>heap_alloc_old w _ i hi) ((Below.refl N0 w).alloc h.size _) (fun o ho=>by simp at ho) (by rw[hk];trivial) ?_ ?_ (by simpa using eD)
 ·intro l' k' b' hg ht
  have:=(h.al l' k' b' hg).lt ht
  omega
 ·intro o
  cases hf:fm w.heap.size o with
  |none=>rfl
  |some v=>
   have:=World.block_lt_of_cell? w _ (h.bO _ _ _ hf)
   simp at this
theorem HR.empty (h:HR N0 W0 fm ts H w) {k:Nat} (et esz:Nat) (hk:tb ts 0 k=none) (hH:0<H.length):
  HR N0 W0 fm (cV ts 0 k (.arr 0 none)) (H.put 0 k (some (.arr et esz []))) w:=by
 have hT:As ts (cV ts 0 k (.arr 0 none)):=As.set (by rw[hk];trivial)
 have ae:0<ts.length:=by rw[h.len];exact hH
 have other:∀ l' k',¬ (0=l'/\k=k')->tb (cV ts 0 k (.arr 0 none)) l' k'=tb ts l' k':=by
  intro l' k' bg
  rw[ek,if_neg (fun hh=>bg ⟨hh.1,hh.2.1⟩)]
 have same:tb (cV ts 0 k (.arr 0 none)) 0 k=some (.arr 0 none):=by rw[ek,if_pos ⟨rfl,rfl,ae⟩]
 have nY:∀ l' k',¬ (0=l'/\k=k')->(H.put 0 k (some (.arr et esz []))).get l' k'=H.get l' k':=by
  intro l' k' bg
  rw[Heap.pH,if_neg (fun hh=>bg ⟨hh.1,hh.2.1⟩)]
 have adk:(H.put 0 k (some (.arr et esz []))).get 0 k=some (.arr et esz []):=by rw[Heap.pH,if_pos ⟨rfl,rfl,hH⟩]
 refine⟨by simp[h.len],?_,?_,h.bO,?_,h.dg,h.size,h.cT,h.dZ⟩
 ·intro l' k' b' hg
  by_cases he:0=l'/\k=k'
  ·obtain⟨rfl,rfl⟩:=he
   rw[adk]at hg
   obtain rfl:=oi hg
   rw[same]
   exact .nil et esz
  ·rw[nY _ _ he]at hg
   rw[other _ _ he]
   exact(h.al l' k' b' hg).mono (AZ.refl _) (hT.drop l') (fun _ _=>rfl)
 ·intro l1 k1 l2 k2 b1 b2 c' g1 g2 t1 t2
  by_cases e1:0=l1/\k=k1
  ·obtain⟨rfl,rfl⟩:=e1
   rw[same]at t1
   simp[bz]at t1
  ·rw[other _ _ e1]at t1
   rw[nY _ _ e1]at g1
   by_cases e2:0=l2/\k=k2
   ·obtain⟨rfl,rfl⟩:=e2
    rw[same]at t2
    simp[bz]at t2
   ·rw[other _ _ e2]at t2
    rw[nY _ _ e2]at g2
    exact h.inj l1 k1 l2 k2 b1 b2 c' g1 g2 t1 t2
 ·intro l' k' b' c' o hg ht
  by_cases he:0=l'/\k=k'
  ·obtain⟨rfl,rfl⟩:=he
   rw[same]at ht
   simp[bz]at ht
  ·rw[nY _ _ he]at hg
   rw[other _ _ he]at ht
   exact h.dh l' k' b' c' o hg ht
theorem HR.world (h:HR N0 W0 fm ts H w) {w':World} (hw:∀ i,i<w.heap.size->w'.heap[i]?=w.heap[i]?) (lN:Below N0 w w'):HR N0 W0 fm ts H w':=by
 refine⟨h.len,fun l k b hg=>(h.al l k b hg).mono (AZ.refl _) (As.refl _) (fun c hc=>hw c ((h.al l k b hg).lt hc).1),h.inj,?_,h.dh,h.dg.trans lN,Ec h.size lN.size,fun b o h0 ho=>(hw b (CF.1 (h.cT b o h0 ho)).1).trans (h.cT b o h0 ho),fun b o v hN hv ht=>(h.dZ b o v hN hv ht).of (hw b (World.block_lt_of_cell? w _ (h.bO b o v hv)))⟩
 intro b o v hv
 have gJ:=h.bO b o v hv
 rw[<-gJ]
 exact World.cell?_of_block (w:=w) (w':=w') (a:=⟨b,o,none⟩) (hw b (World.block_lt_of_cell? w _ gJ))
theorem HR.drew (h:HR N0 W0 fm ts H w):HR N0 W0 fm ts H w.drew:=h.world (fun _ _=>rfl) (Below.refl N0 w).drew
end
def mK:Option TB->Bool
 |some (.arr _ _)=>true
 |_=>false
def iB:List Ak->List (Nat×Nat)->List Ak
 |ts,[]=>ts
 |ts,(l,k)::r=>iB (if mK (tb ts l k) then cV ts l k .gone else ts) r
theorem mh (r:List (Nat×Nat)):∀ (ts:List Ak) (l k:Nat),tb (iB ts r) l k=if (l,k)∈r/\mK (tb ts l k)=true then some .gone else tb ts l k:=by
 induction r with
 |nil=>intro ts l k;simp[iB]
 |cons p r ih=>
  obtain⟨l0,k0⟩:=p
  intro ts l k
  simp only[iB,ih]
  by_cases ha:mK (tb ts l0 k0)=true
  ·simp only[ha,if_true]
   have ae:l0<ts.length:=by
    cases hh:tb ts l0 k0 with
    |none=>rw[hh]at ha;simp[mK]at ha
    |some x=>exact aqB ts l0 k0 x hh
   by_cases he:l0=l/\k0=k
   ·obtain⟨rfl,rfl⟩:=he
    have e1:tb (cV ts l0 k0 .gone) l0 k0=some .gone:=by rw[ek,if_pos ⟨rfl,rfl,ae⟩]
    rw[e1]
    have e2:mK (some TB.gone)=false:=rfl
    rw[if_neg (by simp[e2]),if_pos ⟨List.mem_cons_self,ha⟩]
   ·have h1:tb (cV ts l0 k0 .gone) l k=tb ts l k:=by rw[ek,if_neg (fun hh=>he ⟨hh.1,hh.2.1⟩)]
    have h2:((l,k)∈(l0,k0)::r)↔(l,k)∈r:=by
     simp only[BE,Prod.mk.injEq]
     constructor
     ·rintro(⟨rfl,rfl⟩|h)
      ·exact absurd ⟨rfl,rfl⟩ he
      ·exact h
     ·exact fun h=>.inr h
    rw[h1]
    simp only[h2]
  ·simp only[ha,if_false,C3]
   by_cases he:l0=l/\k0=k
   ·obtain⟨rfl,rfl⟩:=he
    simp[ha]
   ·have h2:((l,k)∈(l0,k0)::r)↔(l,k)∈r:=by
     simp only[BE,Prod.mk.injEq]
     constructor
     ·rintro(⟨rfl,rfl⟩|h)
      ·exact absurd ⟨rfl,rfl⟩ he
      ·exact h
     ·exact fun h=>.inr h
    simp only[h2]
@[simp] theorem adU (r:List (Nat×Nat)):∀ ts:List Ak,(iB ts r).length=ts.length:=by
 induction r with
 |nil=>intro ts;rfl
 |cons p r ih=>obtain⟨l,k⟩:=p;intro ts;simp only[iB,ih];split<;>simp
theorem As.gone (ts:List Ak) (r:List (Nat×Nat)):As ts (iB ts r):=by
 intro l k
 rw[mh]
 split
 ·rename_i h
  cases hh:tb ts l k with
  |none=>trivial
  |some x=>
   rw[hh]at h
   cases x with
   |arr m c=>simp[Bl]
   |box c=>simp[mK]at h
   |gone=>simp[mK]at h
 ·exact Bl.refl _
theorem vn (r:List (Nat×Nat)):∀ (H:Heap) (l k:Nat),(H.bL (hX r)).get l k=if (l,k)∈r then none else H.get l k:=by
 induction r with
 |nil=>intro H l k;simp[hX,Heap.bL]
 |cons p r ih=>
  obtain⟨l0,k0⟩:=p
  intro H l k
  have:hX ((l0,k0)::r)=(l0,k0,none)::hX r:=rfl
  rw[this]
  simp only[Heap.bL,ih,Heap.pH]
  by_cases he:l0=l/\k0=k
  ·obtain⟨rfl,rfl⟩:=he
   by_cases hl:l0<H.length
   ·simp[hl]
   ·have:H.get l0 k0=none:=by
     cases hh:H.get l0 k0 with
     |none=>rfl
     |some b=>exact absurd (Heap.rh H _ _ _ hh) hl
    simp[hl,this]
  ·have h2:((l,k)∈(l0,k0)::r)↔(l,k)∈r:=by
    simp only[BE,Prod.mk.injEq]
    constructor
    ·rintro(⟨rfl,rfl⟩|h)
     ·exact absurd ⟨rfl,rfl⟩ he
     ·exact h
    ·exact fun h=>.inr h
   simp only[h2]
   by_cases hr:(l,k)∈r
   ·simp[hr]
   ·simp only[hr,if_false]
    rw[if_neg (fun hh=>he ⟨hh.1,hh.2.1⟩)]
structure Ff where
 p:Nat->Prop
 t:Nat->Nat
instance:CoeFun Ff fun _=>Nat->Prop:=⟨Ff.p⟩
open Classical in
noncomputable def gm (fm:FM) (w:World) (bs:Ff):FM:=⟨fun b o=>if bs b then w.cell? ⟨b,o,none⟩ else fm b o,fun b=>if bs b then bs.t b else fm.t b⟩
open Classical in
noncomputable def lr (ts:List Ak) (H:Heap) (c:Nat):Nat:=if h:∃ z l k et es,H.get l k=some (.arr et z es)/\bz (tb ts l k)=some c then h.choose else 0
noncomputable def behind (ts:List Ak) (H:Heap) (r:List (Nat×Nat)):Ff:=⟨fun c=>∃ l k b,(l,k)∈r/\H.get l k=some b/\mK (tb ts l k)=true/\bz (tb ts l k)=some c,lr ts H⟩
section
variable {N0:Nat}{W0:World}{fm:FM}{ts:List Ak}{H:Heap}{w:World}
theorem HR.lr (h:HR N0 W0 fm ts H w) {l k c et z:Nat}{es:List (List AV)} (hg:H.get l k=some (.arr et z es)) (ht:bz (tb ts l k)=some c):lr ts H c=z:=by
 have hex:∃ z l k et es,H.get l k=some (.arr et z es)/\bz (tb ts l k)=some c:=⟨z,l,k,et,es,hg,ht⟩
 unfold Abs.lr
 rw[dif_pos hex]
 obtain⟨l',k',jA,es',bm,eE⟩:=hex.choose_spec
 obtain⟨rfl,rfl⟩:=h.inj _ _ _ _ _ _ _ hg bm ht eE
 rw[hg]at bm
 injection oi bm with _ e _
 exact e.symm
theorem HR.aaN (h:HR N0 W0 fm ts H w) {r:List (Nat×Nat)}{c:Nat} (hb:behind ts H r c):(behind ts H r).t c≠0/\N0<=c/\∀ o,fm c o=none:=by
 obtain⟨l,k,b,hm,hg,ha,ht⟩:=hb
 refine⟨?_,((h.al l k b hg).lt ht).2,fun o=>h.dh l k b c o hg ht⟩
 have eD:=h.al l k b hg
 cases hq:tb ts l k with
 |none=>rw[hq]at ha;cases ha
 |some x=>
  rw[hq]at eD
  cases eD with
  |box c' cs hN hb=>rw[hq]at ha;cases ha
  |nil et esz=>rw[hq]at ht;simp[bz]at ht
  |arr et esz es c' cap hN hA=>
   show Abs.lr ts H c≠0
   rw[h.lr hg ht]
   obtain⟨_,_,_,_,_,_,hz,_⟩:=hA
   omega
theorem HR.ak8 (h:HR N0 W0 fm ts H w) {r:List (Nat×Nat)}{c:Nat} (hb:behind ts H r c):D9 w c:=by
 obtain⟨l,k,b,hm,hg,ha,ht⟩:=hb
 have eD:=h.al l k b hg
 cases hq:tb ts l k with
 |none=>rw[hq]at ha;cases ha
 |some x=>
  rw[hq]at eD
  cases eD with
  |box c' cs hN hb=>rw[hq]at ha;cases ha
  |nil et esz=>rw[hq]at ht;simp[bz]at ht
  |arr et esz es c' cap hN hA=>
   rw[hq]at ht
   simp only[bz,oE]at ht
   subst ht
   obtain⟨cells,h1,_⟩:=hA
   exact⟨cells,et,h1⟩
theorem HR.u6 (h:HR N0 W0 fm ts H w) (r:List (Nat×Nat)):AZ fm (gm fm w (behind ts H r)):=by
 refine⟨fun b o v hv=>?_,fun b o v hv=>?_⟩
 ·unfold gm
  simp only
  split
  ·exact h.bO b o v hv
  ·exact hv
 ·unfold gm
  simp only
  split
  ·rename_i hb
   rw[(h.aaN hb).2.2 o]at hv
   cases hv
  ·rfl
structure AN (N0:Nat) (fm fm':FM):Prop where
 le:AZ fm fm'
 fix:∀ b o,b<N0->fm' b o=fm b o
 fit:∀ b,b<N0->fm'.t b=fm.t b
 new:∀ b o v,fm' b o=some v->fm b o=some v\/fm'.t b≠0
theorem AN.refl (N0:Nat) (fm:FM):AN N0 fm fm:=⟨AZ.refl _,fun _ _ _=>rfl,fun _ _=>rfl,fun _ _ _ h=>.inl h⟩
theorem AN.trans {N0:Nat}{a b c:FM} (h:AN N0 a b) (k:AN N0 b c):AN N0 a c:=⟨h.le.trans k.le,fun x o e=>(k.fix x o e).trans (h.fix x o e),fun x e=>(k.fit x e).trans (h.fit x e),fun x o v e=>by
 rcases k.new x o v e with e1|e1
 ·rcases h.new x o v e1 with e2|e2
  ·exact .inl e2
  ·right;rw[k.le.tg _ _ _ e1];exact e2
 ·exact .inr e1⟩
theorem HR.u7 (h:HR N0 W0 fm ts H w) (r:List (Nat×Nat)):AN N0 fm (gm fm w (behind ts H r)):=by
 have low:∀ b,b<N0->¬ behind ts H r b:=fun b hb hh=>by have:=(h.aaN hh).2.1;omega
 refine⟨h.u6 r,fun b o hb=>?_,fun b hb=>?_,fun b o v hv=>?_⟩
 ·unfold gm
  simp only
  rw[if_neg (low b hb)]
 ·unfold gm
  simp only
  rw[if_neg (low b hb)]
 ·unfold gm at hv ⊢
  simp only at hv ⊢
  split at hv
  ·rename_i hb
   right
   rw[if_pos hb]
   exact(h.aaN hb).1
  ·exact .inl hv
theorem HR.rL (h:HR N0 W0 fm ts H w) (r:List (Nat×Nat)):
  HR N0 W0 (gm fm w (behind ts H r)) (iB ts r) (H.bL (hX r)) w:=by
 have hF:=h.u6 r
 refine⟨by simp[h.len],?_,?_,?_,?_,h.dg,h.size,h.cT,?_⟩
 ·intro l k b hg
  rw[vn]at hg
  split at hg
  ·cases hg
  ·rename_i hn
   rw[mh,if_neg (fun hh=>hn hh.1)]
   exact(h.al l k b hg).mono hF ((As.gone ts r).drop l) (fun _ _=>rfl)
 ·intro l k l' k' b b' c g g' t t'
  rw[vn]at g g'
  split at g
  ·cases g
  ·rename_i hn
   split at g'
   ·cases g'
   ·rename_i dU
    rw[mh,if_neg (fun hh=>hn hh.1)]at t
    rw[mh,if_neg (fun hh=>dU hh.1)]at t'
    exact h.inj l k l' k' b b' c g g' t t'
 ·intro b o v hv
  unfold gm at hv
  simp only at hv
  split at hv
  ·exact hv
  ·exact h.bO b o v hv
 ·intro l k b c o g t
  rw[vn]at g
  split at g
  ·cases g
  ·rename_i hn
   rw[mh,if_neg (fun hh=>hn hh.1)]at t
   unfold gm
   simp only
   rw[if_neg]
   ·exact h.dh l k b c o g t
   ·rintro⟨l',k',b',hm,bm,_,eE⟩
    obtain⟨rfl,rfl⟩:=h.inj l k l' k' b b' c g bm t eE
    exact hn hm
 ·intro b o v hN hv ht
  unfold gm at hv ht
  simp only at hv ht
  split at hv
  ·rename_i hb
   exact h.ak8 hb
  ·rename_i hb
   rw[if_neg hb]at ht
   exact h.dZ b o v hN hv ht
end
end Go.Abs
namespace Go.Abs
open Go Go.RowKit
theorem mQ (d:Nat):∀ cs:List AV,(AV.de d cs).length=cs.length
 |[]=>by simp[AV.de]
 |x::l=>by simp[AV.de,mQ d l]
theorem mP (d:Nat):∀ (cs:List AV) (i:Nat),(AV.de d cs)[i]?=(cs[i]?).map (AV.sh d)
 |[],i=>by simp[AV.de]
 |x::l,0=>by simp[AV.de]
 |x::l,i+1=>by simp[AV.de,mP d l i]
theorem abN (d:Nat) (x:AV):(x.sh d).flat=x.flat:=by
 cases x<;>simp[AV.sh,AV.flat]
theorem VR.sh {fm:FM} (d:Nat) {fY:List Ak}{x:AV}{v:Value} (h:VR fm fY x v):∀ {ts:List Ak},fY=ts.drop d->VR fm ts (x.sh d) v:=by
 induction h with
 |bool b=>intro ts _;exact .bool b
 |int k n=>intro ts _;exact .int k n
 |str s=>intro ts _;exact .str s
 |nil=>intro ts _;exact .nil
 |cd e a cap=>intro ts _;exact .cd e a cap
 |sl es cb off esz cap u bU h1 h2 h3 h4 _=>intro ts _;exact .sl es cb off esz cap u bU h1 h2 h3 h4
 |cH l k esz i n g a cp h hn ha=>intro ts e;subst e;rw[fg]at h;exact .cH _ k esz i n g a cp h hn ha
 |cI l k esz i n g a cp m' c h ae hn ha=>intro ts e;subst e;rw[fg]at h;exact .cI _ k esz i n g a cp m' c h ae hn ha
 |cv l k esz a h=>intro ts e;subst e;rw[fg]at h;exact .cv _ k esz a h
 |loc l k esz i n g c cap cp a h hn bI hc ha=>intro ts e;subst e;rw[fg]at h;exact .loc _ k esz i n g c cap cp a h hn bI hc ha
 |bF l k esz o n c cp a h hn ha=>intro ts e;subst e;rw[fg]at h;exact .bF _ k esz o n c cp a h hn ha
 |bG=>intro ts _;exact .bG
 |ptr l k o c h=>intro ts e;subst e;rw[fg]at h;exact .ptr _ k o c h
 |ey l k esz i o g a h=>intro ts e;subst e;rw[fg]at h;exact .ey _ k esz i o g a h
 |eA l k esz i o g a m' c h ae=>intro ts e;subst e;rw[fg]at h;exact .eA _ k esz i o g a m' c h ae
 |bq l k esz i o g c cap h=>intro ts e;subst e;rw[fg]at h;exact .bq _ k esz i o g c cap h
 |aA es i o cb off esz u h1 h2 h3 h4 _=>intro ts _;exact .aA es i o cb off esz u h1 h2 h3 h4
 |bP=>intro ts _;exact .bP
 |fn f first cap vf vc h1 h2 _ _ iq iu=>
  intro ts e
  refine .fn f _ _ vf vc (by rw[mQ];exact h1) (by rw[mQ];exact h2) ?_ ?_
  ·intro i x v hx hv
   rw[mP]at hx
   cases hf:first[i]? with
   |none=>rw[hf]at hx;cases hx
   |some y=>rw[hf]at hx;simp only[A5,oE]at hx;subst hx;exact iq i y v hf hv e
  ·intro i x v hx hv
   rw[mP]at hx
   cases hf:cap[i]? with
   |none=>rw[hf]at hx;cases hx
   |some y=>rw[hf]at hx;simp only[A5,oE]at hx;subst hx;exact iu i y v hf hv e
 |bS=>intro ts _;exact .bS
 |raw r_ jo=>intro ts _;exact .raw r_ jo
 |bR t x v _ ih=>intro ts e;exact .bR t _ v (ih e)
 |agg cs vs h1 h2 _ ih=>
  intro ts e
  refine .agg _ vs (by rw[mQ];exact h1) ?_ ?_
  ·intro x hx
   obtain⟨i,hi⟩:=BD.1 hx
   rw[mP]at hi
   cases hf:cs[i]? with
   |none=>rw[hf]at hi;cases hi
   |some y=>rw[hf]at hi;simp only[A5,oE]at hi;subst hi;rw[abN];exact h2 y (BD.2 ⟨i,hf⟩)
  ·intro i x v hx hv
   rw[mP]at hx
   cases hf:cs[i]? with
   |none=>rw[hf]at hx;cases hx
   |some y=>rw[hf]at hx;simp only[A5,oE]at hx;subst hx;exact ih i y v hf hv e
 |ar xs vs h1 _ ih=>
  intro ts e
  refine .ar _ vs (by rw[mQ];exact h1) ?_
  intro i x v hx hv
  rw[mP]at hx
  cases hf:xs[i]? with
  |none=>rw[hf]at hx;cases hx
  |some y=>rw[hf]at hx;simp only[A5,oE]at hx;subst hx;exact ih i y v hf hv e
 |dead v=>intro ts _;exact .dead v
theorem so (d:Nat):∀ (cs ys:List AV),AV.fZ d cs=some ys->ys.length=cs.length/\∀ (i:Nat) (x:AV),cs[i]?=some x->∃ y,ys[i]?=some y/\x.un d=some y
 |[],ys,h=>by simp only[AV.fZ,oE]at h;subst h;simp
 |x::l,ys,h=>by
  simp only[AV.fZ]at h
  split at h
  ·rename_i a b ha hb
   obtain rfl:=oi h
   have ih:=so d l b hb
   refine⟨by simp[ih.1],?_⟩
   intro i z hz
   cases i with
   |zero=>simp only[BV,oE]at hz;subst hz;exact⟨a,by simp,ha⟩
   |succ i=>simp only[Cb]at hz ⊢;exact ih.2 i z hz
  ·cases h
theorem qm {d l l':Nat} (h:tY d l=some l'):l'+d=l:=by
 unfold tY at h
 split at h
 ·simp only[oE]at h;omega
 ·cases h
theorem ai4 {d:Nat}{x y:AV} (h:x.un d=some y):y.flat=x.flat:=by
 cases x with
 |fn f a b=>
  simp only[AV.un]at h
  split at h
  ·simp only[oE]at h;subst h;simp[AV.flat]
  ·cases h
 |_=>
  simp only[AV.un,mS,oE]at h
  first
  |(subst h;simp[AV.flat];done)
  |(obtain⟨a,_,rfl⟩:=h;simp[AV.flat])
theorem VR.un {fm:FM} (d:Nat) {ts:List Ak}{x:AV}{v:Value} (h:VR fm ts x v):∀ {y:AV},x.un d=some y->VR fm (ts.drop d) y v:=by
 induction h with
 |bool b=>intro y e;simp only[AV.un,oE]at e;subst e;exact .bool b
 |int k n=>intro y e;simp only[AV.un,oE]at e;subst e;exact .int k n
 |str s=>intro y e;simp only[AV.un,oE]at e;subst e;exact .str s
 |nil=>intro y e;simp only[AV.un,oE]at e;subst e;exact .nil
 |cd e0 a cap=>intro y e;simp only[AV.un,oE]at e;subst e;exact .cd e0 a cap
 |sl es cb off esz cap u bU h1 h2 h3 h4 _=>intro y e;simp only[AV.un,oE]at e;subst e;exact .sl es cb off esz cap u bU h1 h2 h3 h4
 |cH l k esz i n g a cp h hn ha=>
  intro y e;simp only[AV.un,mS]at e;obtain⟨l',hl,rfl⟩:=e
  exact .cH l' k esz i n g a cp (by rw[fg,qm hl];exact h) hn ha
 |cI l k esz i n g a cp m' c h ae hn ha=>
  intro y e;simp only[AV.un,mS]at e;obtain⟨l',hl,rfl⟩:=e
  exact .cI l' k esz i n g a cp m' c (by rw[fg,qm hl];exact h) ae hn ha
 |cv l k esz a h=>
  intro y e;simp only[AV.un,mS]at e;obtain⟨l',hl,rfl⟩:=e
  exact .cv l' k esz a (by rw[fg,qm hl];exact h)
 |loc l k esz i n g c cap cp a h hn bI hc ha=>
  intro y e;simp only[AV.un,mS]at e;obtain⟨l',hl,rfl⟩:=e
  exact .loc l' k esz i n g c cap cp a (by rw[fg,qm hl];exact h) hn bI hc ha
 |bF l k esz o n c cp a h hn ha=>
  intro y e;simp only[AV.un,mS]at e;obtain⟨l',hl,rfl⟩:=e
  exact .bF l' k esz o n c cp a (by rw[fg,qm hl];exact h) hn ha
 |bG=>intro y e;simp only[AV.un,oE]at e;subst e;exact .bG
 |ptr l k o c h=>
  intro y e;simp only[AV.un,mS]at e;obtain⟨l',hl,rfl⟩:=e
  exact .ptr l' k o c (by rw[fg,qm hl];exact h)
 |ey l k esz i o g a h=>
  intro y e;simp only[AV.un,mS]at e;obtain⟨l',hl,rfl⟩:=e
  exact .ey l' k esz i o g a (by rw[fg,qm hl];exact h)
 |eA l k esz i o g a m' c h ae=>
  intro y e;simp only[AV.un,mS]at e;obtain⟨l',hl,rfl⟩:=e
  exact .eA l' k esz i o g a m' c (by rw[fg,qm hl];exact h) ae
 |bq l k esz i o g c cap h=>
  intro y e;simp only[AV.un,mS]at e;obtain⟨l',hl,rfl⟩:=e
  exact .bq l' k esz i o g c cap (by rw[fg,qm hl];exact h)
 |aA es i o cb off esz u h1 h2 h3 h4 _=>intro y e;simp only[AV.un,oE]at e;subst e;exact .aA es i o cb off esz u h1 h2 h3 h4
 |bP=>intro y e;simp only[AV.un,oE]at e;subst e;exact .bP
 |fn f first cap vf vc h1 h2 _ _ iq iu=>
  intro y e
  simp only[AV.un]at e
  split at e
  ·rename_i a b ha hb
   simp only[oE]at e;subst e
   have g1:=so d _ _ ha
   have g2:=so d _ _ hb
   refine .fn f _ _ vf vc (by rw[g1.1];exact h1) (by rw[g2.1];exact h2) ?_ ?_
   ·intro i x v hx hv
    have hi:i<first.length:=by rw[<-g1.1];exact(gS.1 hx).1
    obtain⟨y,hy,hu⟩:=g1.2 i _ (gG hi)
    rw[hx]at hy;obtain rfl:=oi hy
    exact iq i _ v (gG hi) hv hu
   ·intro i x v hx hv
    have hi:i<cap.length:=by rw[<-g2.1];exact(gS.1 hx).1
    obtain⟨y,hy,hu⟩:=g2.2 i _ (gG hi)
    rw[hx]at hy;obtain rfl:=oi hy
    exact iu i _ v (gG hi) hv hu
  ·cases e
 |bS=>intro y e;simp only[AV.un,oE]at e;subst e;exact .bS
 |raw r_ jo=>intro y e;simp only[AV.un,oE]at e;subst e;exact .raw r_ jo
 |bR t x v _ ih=>
  intro y e;simp only[AV.un,mS]at e;obtain⟨z,hz,rfl⟩:=e
  exact .bR t z v (ih hz)
 |agg cs vs h1 h2 _ ih=>
  intro y e;simp only[AV.un,mS]at e;obtain⟨z,hz,rfl⟩:=e
  have g:=so d _ _ hz
  refine .agg z vs (by rw[g.1];exact h1) ?_ ?_
  ·intro x hx
   obtain⟨i,hi⟩:=BD.1 hx
   have ae:i<cs.length:=by rw[<-g.1];exact(gS.1 hi).1
   obtain⟨y,hy,hu⟩:=g.2 i _ (gG ae)
   rw[hi]at hy;obtain rfl:=oi hy
   rw[ai4 hu]
   exact h2 _ (List.getElem_mem ae)
  ·intro i x v hx hv
   have ae:i<cs.length:=by rw[<-g.1];exact(gS.1 hx).1
   obtain⟨y,hy,hu⟩:=g.2 i _ (gG ae)
   rw[hx]at hy;obtain rfl:=oi hy
   exact ih i _ v (gG ae) hv hu
 |ar xs vs h1 _ ih=>
  intro y e;simp only[AV.un,mS]at e;obtain⟨z,hz,rfl⟩:=e
  have g:=so d _ _ hz
  refine .ar z vs (by rw[g.1];exact h1) ?_
  intro i x v hx hv
  have ae:i<xs.length:=by rw[<-g.1];exact(gS.1 hx).1
  obtain⟨y,hy,hu⟩:=g.2 i _ (gG ae)
  rw[hx]at hy;obtain rfl:=oi hy
  exact ih i _ v (gG ae) hv hu
 |dead v=>intro y e;simp only[AV.un,oE]at e;subst e;exact .dead v
theorem lI (G:AR):∀ (cs ys:List AV),AV.aG G cs=some ys->ys.length=cs.length/\∀ (i:Nat) (x:AV),cs[i]?=some x->∃ y,ys[i]?=some y/\x.ai G=some y
 |[],ys,h=>by simp only[AV.aG,oE]at h;subst h;simp
 |x::l,ys,h=>by
  simp only[AV.aG]at h
  split at h
  ·rename_i a b ha hb
   obtain rfl:=oi h
   have ih:=lI G l b hb
   refine⟨by simp[ih.1],?_⟩
   intro i z hz
   cases i with
   |zero=>simp only[BV,oE]at hz;subst hz;exact⟨a,by simp,ha⟩
   |succ i=>simp only[Cb]at hz ⊢;exact ih.2 i z hz
  ·cases h
theorem wj:∀ (cs:List AV) (i:Nat) (x:AV),cs[i]?=some x->∀ p∈x.refs,p∈AV.aN cs
 |[],i,x,h=>by simp at h
 |y::l,0,x,h=>by
  simp only[BV,oE]at h;subst h
  intro p hp;simp only[AV.aN,Ba];exact .inl hp
 |y::l,i+1,x,h=>by
  simp only[Cb]at h
  intro p hp;simp only[AV.aN,Ba];exact .inr (wj l i x h p hp)
theorem aba {G:AR}{x y:AV} (h:x.ai G=some y):y.flat=x.flat:=by
 cases x with
 |loc l k e i n g=>
  simp only[AV.ai]at h
  split at h
  ·split at h
   ·simp only[oE]at h;subst h;simp[AV.flat]
   ·cases h
  ·cases h
 |fn f a b=>
  simp only[AV.ai]at h
  split at h
  ·obtain rfl:=oi h;simp[AV.flat]
  ·cases h
 |_=>
  first
  |(simp[AV.ai]at h;done)
  |(simp only[AV.ai,oE]at h;subst h;simp[AV.flat];done)
  |(simp only[AV.ai,mS]at h;obtain⟨a,_,rfl⟩:=h;simp[AV.flat];done)
section
variable {N0:Nat}{W0:World}{fm:FM}{ts:List Ak}{H:Heap}{w:World}
theorem HR.ai (h:HR N0 W0 fm ts H w) (r:List (Nat×Nat)) {x:AV}{v:Value} (hv:VR fm ts x v):
  ∀ {y:AV},x.ai H.get=some y->(∀ p∈x.refs,p∈r)->VR (gm fm w (behind ts H r)) [] y v:=by
 have hF:=h.u6 r
 generalize oc:gm fm w (behind ts H r)=fm' at hF
 have bu:∀ c o u,behind ts H r c->w.cell? ⟨c,o,none⟩=some u->fm' c o=some u:=by
  intro c o u hb hc
  rw[<-oc]
  unfold gm
  simp only
  rw[if_pos hb]
  exact hc
 have ov:∀ c,behind ts H r c->fm'.t c=Abs.lr ts H c:=by
  intro c hb
  rw[<-oc]
  unfold gm
  simp only
  rw[if_pos hb]
  rfl
 clear oc
 induction hv with
 |bool b=>intro y e _;simp only[AV.ai,oE]at e;subst e;exact .bool b
 |int k n=>intro y e _;simp only[AV.ai,oE]at e;subst e;exact .int k n
 |str s=>intro y e _;simp only[AV.ai,oE]at e;subst e;exact .str s
 |nil=>intro y e _;simp only[AV.ai,oE]at e;subst e;exact .nil
 |cd e0 a cap=>intro y e _;simp only[AV.ai,oE]at e;subst e;exact .cd e0 a cap
 |sl es cb off esz cap u bU h1 h2 h3 h4 _=>
  intro y e _;simp only[AV.ai,oE]at e;subst e
  exact(VR.sl es cb off esz cap u bU h1 h2 h3 h4 (ts:=[])).mono hF (As.refl _)
 |cH l k esz i n g a cp ht hn ha=>
  intro y e _
  simp only[AV.ai]at e
  split at e
  ·rename_i et aM es hg
   have:=h.al l k _ hg
   rw[ht]at this
   cases this
  ·cases e
 |cI l k esz i n g a cp m' c ht ae hn ha=>
  intro y e _
  simp only[AV.ai]at e
  split at e
  ·rename_i et aM es hg
   have:=h.al l k _ hg
   rw[ht]at this
   split at e
   ·rename_i hh
    cases this with
    |nil et esz=>simp at hh;omega
    |arr et esz es c cap hN h=>omega
   ·cases e
  ·cases e
 |cv l k esz a ht=>
  intro y e _
  simp only[AV.ai]at e
  split at e
  ·split at e
   ·simp only[List.drop_zero,List.take_zero,oE]at e;subst e;exact .cd _ _ _
   ·cases e
  ·cases e
 |loc l k esz i n g c cap cp a ht hn bI hc ha=>
  intro y e hr
  simp only[AV.ai]at e
  split at e
  ·rename_i et aM es hg
   split at e
   ·rename_i hh
    obtain⟨he,hlen,bB⟩:=hh
    subst he
    simp only[oE]at e;subst e
    have hb:=h.al l k _ hg
    rw[ht]at hb
    cases hb with
    |arr et _ es c cap hN hA=>
     obtain⟨cells,c1,c2,c3,c4,c5,c6,c7⟩:=hA
     have ag5:behind _ H r c:=⟨l,k,_,hr (l,k) (by simp[AV.refs]),hg,by rw[ht];rfl,by rw[ht];rfl⟩
     by_cases hn0:n=0
     ·subst hn0
      simp only[List.take_zero]
      exact .cd _ _ _
     ·have gn:=ha (.inl (by omega))
      subst gn
      have hl:((es.drop i).take n).length=n:=by simp;omega
      have key:∀ (j:Nat) (cc:List AV) (o:Nat) (x:AV),((es.drop i).take n)[j]?=some cc->cc[o]?=some x->∃ u,cells[(i+j)*aM+o]?=some u/\x.flat=true/\VR fm [] x u:=by
       intro j cc o x hj ho
       have pQ:es[i+j]?=some cc:=by
        rw[BP]at hj
        split at hj
        ·rw[Cf]at hj;exact hj
        ·cases hj
       have ae:i+j<es.length:=(gS.1 pQ).1
       have b9:cc.length=aM:=c5 cc (AW pQ)
       have yS:o<aM:=by rw[<-b9];exact(gS.1 ho).1
       have aw:(i+j)*aM+o<cells.size:=by
        rw[c2]
        have:(i+j+1)*aM<=cap*aM:=BU _ (by omega)
        rw[Nat.add_mul]at this
        omega
       have yl:=Bv aw
       have:=c7 (i+j) cc o x _ pQ ho yl
       exact⟨_,yl,this.1,this.2⟩
      have fT:=VR.sl (fm:=fm') (ts:=[]) ((es.drop i).take n) c (i*aM) aM cp (fun j o=>(cells[(i+j)*aM+o]?).getD default) (by rw[hl];exact⟨bI,by omega⟩)
       (fun cc b9=>c5 cc (Cj (BY b9)))
       (by
        intro j cc o x hj ho
        obtain⟨u,hu,_,_⟩:=key j cc o x hj ho
        refine⟨bu c _ _ ag5 ?_,.inr ((ov c ag5).trans (h.lr hg (by rw[ht];rfl)))⟩
        simp only[World.cell?,c1]
        have:i*aM+(j*aM+o)=(i+j)*aM+o:=by rw[Nat.add_mul];omega
        rw[this,hu]
        simp)
       (fun j cc o x hj ho=>(key j cc o x hj ho).elim fun u hu=>hu.2.1)
       (by
        intro j cc o x hj ho
        obtain⟨u,hu,_,hv⟩:=key j cc o x hj ho
        rw[hu]
        exact hv.mono hF (As.refl _))
      rw[hl]at fT
      exact fT
   ·cases e
  ·cases e
 |bF l k esz o n c cp a ht hn ha=>intro y e;simp[AV.ai]at e
 |bG=>intro y e _;simp only[AV.ai,oE]at e;subst e;exact .bG
 |ptr l k o c ht=>intro y e;simp[AV.ai]at e
 |ey l k esz i o g a ht=>intro y e;simp[AV.ai]at e
 |eA l k esz i o g a m' c ht ae=>intro y e;simp[AV.ai]at e
 |bq l k esz i o g c cap ht=>intro y e;simp[AV.ai]at e
 |aA es i o cb off esz u h1 h2 h3 h4 _=>
  intro y e _;simp only[AV.ai,oE]at e;subst e
  exact(VR.aA es i o cb off esz u h1 h2 h3 h4 (ts:=[])).mono hF (As.refl _)
 |bP=>intro y e _;simp only[AV.ai,oE]at e;subst e;exact .bP
 |fn f first cap vf vc h1 h2 h3 h4 iq iu=>
  intro y e hr
  simp only[AV.ai]at e
  split at e
  ·rename_i a b ha hb
   simp only[oE]at e;subst e
   have g1:=lI H.get _ _ ha
   have g2:=lI H.get _ _ hb
   refine .fn f a b vf vc (by rw[g1.1];exact h1) (by rw[g2.1];exact h2) ?_ ?_
   ·intro i x v hx hv
    have ae:i<first.length:=by rw[<-g1.1];exact(gS.1 hx).1
    obtain⟨y,hy,hu⟩:=g1.2 i _ (gG ae)
    rw[hx]at hy;obtain rfl:=oi hy
    exact iq i _ v (gG ae) hv h bu ov hu (fun p hp=>hr p (by simp only[AV.refs,Ba];exact .inl (wj first i _ (gG ae) p hp)))
   ·intro i x v hx hv
    have ae:i<cap.length:=by rw[<-g2.1];exact(gS.1 hx).1
    obtain⟨y,hy,hu⟩:=g2.2 i _ (gG ae)
    rw[hx]at hy;obtain rfl:=oi hy
    exact iu i _ v (gG ae) hv h bu ov hu (fun p hp=>hr p (by simp only[AV.refs,Ba];exact .inr (wj cap i _ (gG ae) p hp)))
  ·cases e
 |bS=>intro y e _;simp only[AV.ai,oE]at e;subst e;exact .bS
 |raw r_ jo=>intro y e _;simp only[AV.ai,oE]at e;subst e;exact .raw r_ jo
 |bR t x v _ ih=>
  intro y e hr;simp only[AV.ai,mS]at e;obtain⟨z,hz,rfl⟩:=e
  exact .bR t z v (ih h bu ov hz (fun p hp=>hr p (by simp only[AV.refs];exact hp)))
 |agg cs vs h1 h2 _ ih=>
  intro y e hr;simp only[AV.ai,mS]at e;obtain⟨z,hz,rfl⟩:=e
  have g:=lI H.get _ _ hz
  refine .agg z vs (by rw[g.1];exact h1) ?_ ?_
  ·intro x hx
   obtain⟨i,hi⟩:=BD.1 hx
   have ae:i<cs.length:=by rw[<-g.1];exact(gS.1 hi).1
   obtain⟨y,hy,hu⟩:=g.2 i _ (gG ae)
   rw[hi]at hy;obtain rfl:=oi hy
   rw[aba hu]
   exact h2 _ (List.getElem_mem ae)
  ·intro i x v hx hv
   have ae:i<cs.length:=by rw[<-g.1];exact(gS.1 hx).1
   obtain⟨y,hy,hu⟩:=g.2 i _ (gG ae)
   rw[hx]at hy;obtain rfl:=oi hy
   exact ih i _ v (gG ae) hv h bu ov hu (fun p hp=>hr p (by simp only[AV.refs];exact wj cs i _ (gG ae) p hp))
 |ar xs vs h1 _ ih=>
  intro y e hr;simp only[AV.ai,mS]at e;obtain⟨z,hz,rfl⟩:=e
  have g:=lI H.get _ _ hz
  refine .ar z vs (by rw[g.1];exact h1) ?_
  intro i x v hx hv
  have ae:i<xs.length:=by rw[<-g.1];exact(gS.1 hx).1
  obtain⟨y,hy,hu⟩:=g.2 i _ (gG ae)
  rw[hx]at hy;obtain rfl:=oi hy
  exact ih i _ v (gG ae) hv h bu ov hu (fun p hp=>hr p (by simp only[AV.refs];exact wj xs i _ (gG ae) p hp))
 |dead v=>intro y e;simp[AV.ai]at e
theorem HR.aG (h:HR N0 W0 fm ts H w) (r:List (Nat×Nat)) {cs ys:List AV}{vs:List Value} (hv:Au fm ts cs vs) (e:AV.aG H.get cs=some ys) (hr:∀ p∈AV.aN cs,p∈r):
  Au (gm fm w (behind ts H r)) [] ys vs:=by
 have g:=lI H.get _ _ e
 refine⟨g.1.trans hv.1,?_⟩
 intro i x v hx tU
 have ae:i<cs.length:=by rw[<-g.1];exact(gS.1 hx).1
 obtain⟨y,hy,hu⟩:=g.2 i _ (gG ae)
 rw[hx]at hy;obtain rfl:=oi hy
 exact h.ai r (hv.2 i _ v (gG ae) tU) hu (fun p hp=>hr p (wj cs i _ (gG ae) p hp))
end
def fE:TypeDesc->Bool
 |.struct _|.array _ _=>true
 |_=>false
def aiH:Value->AV->Bool
 |.int k n,.int k' n'=>k==k'&&n==n'
 |.bool b,.bool b'=>b==b'
 |.string s,.str s'=>decide (s.data=s'.data)
 |.slice none 0 0,.nil=>true
 |.slice none 0 0,.sl _ []=>true
 |.pointer none,.bG=>true
 |.nilFunc,.bP=>true
 |.nilIface,.bS=>true
 |.map none,.raw (.map none)=>true
 |_,_=>false
def wo:List Value->List AV->Bool
 |[],[]=>true
 |v::l,x::m=>aiH v x&&wo l m
 |_,_=>false
def acf (P:Program) (t:TypeId) (z:List AV):Bool:=
 match P.info? t with
 |some i=>match i.zero with
  |some v=>wo v.cells.toList z
  |none=>false
 |none=>false
def elB (P:Program) (e:TypeId) (ti:TI):Bool:=
 match P.info? e with
 |some i=>i.size==ti.el&&i.bytes==ti.uZ&&acf P e ti.fB&&(match P.underlying e with|some d=>fE d==ti.acX|none=>false)
 |none=>false
def nV (P:Program):List Field->List (Nat×Nat×Bool)->Bool
 |[],[]=>true
 |f::fs,(o,s,a)::l=>f.offset==o&&decide (0<s)&&(match P.info? f.type with|some i=>i.size==s|none=>false)&&(match P.underlying f.type with|some d=>fE d==a|none=>false)&&nV P fs l
 |_,_=>false
def rV (P:Program) (L:TypeId->Option (List AV)) (acc:List AV):List Field->Option (List AV)
 |[]=>some acc
 |x::xs=>match L x.type with
  | some l => if x.name ≠ "_" ∧ x.offset = acc.length ∧ (P.info? x.type).isSome = true ∧ P.cellsOf x.type = l.length then rV P L (acc ++ l) xs else none
  |none=>none
def qw (P:Program):Nat->TypeId->Option (List AV)
 |0,_=>none
 |f+1,t=>match P.underlying t with
  |some (.int k)=>some [.int k 0]
  |some .bool=>some [.bool false]
  |some .string=>some [.str ByteArray.empty]
  |some (.struct fs)=>if P.stoodInHeld t=false then rV P (qw P f) [] fs.toList else none
  |some (.array n e)=>match qw P f e with
   |some l=>if (P.info? e).isSome=true/\P.cellsOf e=l.length then some (List.replicate n l).flatten else none
   |none=>none
  |_=>none
def sameKind:AV->AV->Bool
 |.int _ _,.int _ _=>true
 |.bool _,.bool _=>true
 |.str _,.str _=>true
 |_,_=>false
def uh:List AV->List AV->Bool
 |[],[]=>true
 |x::l,y::m=>sameKind x y&&uh l m
 |_,_=>false
def m9 (P:Program) (t:TypeId) (ti:TI):Bool:=
 (match P.info? t with|some i=>i.size==ti.size&&i.bytes==ti.bytes|none=>false)&&
 acf P t ti.zero&&ti.zero.all AV.flat&&(ti.fB.all AV.flat&&ti.fB.length==ti.el)&&decide (ti.sc.length<16)&&
 (!ti.pl || (!P.eqGuardType P.depth t&&(match qw P 20 t with|some l=>uh l ti.zero|none=>false)))&&
 (match ti.d,P.underlying t with
  |.int k,some (.int k')=>k==k'
  |.bool,some .bool=>true
  |.str,some .string=>true
  |.slice e,some (.slice e')=>e==e'&&elB P e ti
  |.array n e,some (.array n' e')=>n==n'&&e==e'&&elB P e ti
  |.struct,some (.struct fs)=>nV P fs.toList ti.fl
  |.ptr e,some (.pointer e')=>e==e'
  |.map k e,some (.map k' e')=>k==k'&&e==e'
  |.func,some (.func ..)=>true
  |.iface,some (.interface _)=>true
  |_,_=>false)
def AQ (P:Program) (T:AM):Prop:=∀ t ti,T t=some ti->m9 P t ti=true
theorem aqI (P:Program) (l:List (Nat×TI)) (h:(l.all fun p=>m9 P p.1 p.2)=true):AQ P (look l):=by
 intro t ti ht
 have hm:∀ (l:List (Nat×TI)),look l t=some ti->(t,ti)∈l:=by
  intro l
  clear h ht
  induction l with
  |nil=>intro h;simp[look]at h
  |cons p l ih=>
   obtain⟨k,x⟩:=p
   intro h
   rw[look]at h
   split at h
   ·rename_i e;subst e;simp only[oE]at h;subst h;exact List.mem_cons_self
   ·exact List.mem_cons_of_mem _ (ih h)
 exact(List.all_eq_true.1 h) _ (hm l ht)
theorem aiI:∀ (vs:List Value) (xs:List AV),wo vs xs=true->∀ fm ts,Au fm ts xs vs
 |[],[],_,fm,ts=>⟨rfl,fun i x v h=>by simp at h⟩
 |[],_::_,h,_,_=>by simp[wo]at h
 |_::_,[],h,_,_=>by simp[wo]at h
 |v::l,x::m,h,fm,ts=>by
  simp only[wo,A7]at h
  have ih:=aiI l m h.2 fm ts
  have hv:VR fm ts x v:=by
   have h1:=h.1
   unfold aiH at h1
   split at h1
   ·simp only[A7,beq_iff_eq]at h1;obtain⟨rfl,rfl⟩:=h1;exact .int _ _
   ·simp only[beq_iff_eq]at h1;subst h1;exact .bool _
   ·rename_i s s';have h2:s.data=s'.data:=of_decide_eq_true h1;have h3:s=s':=by cases s;cases s';simp_all
    subst h3;exact .str _
   ·exact .nil
   ·exact .cd _ _ _
   ·exact .bG
   ·exact .bP
   ·exact .bS
   ·exact .raw _ rfl
   ·cases h1
  refine⟨by simp[ih.1],?_⟩
  intro i y u hy hu
  cases i with
  |zero=>simp only[BV,oE]at hy hu;subst hy hu;exact hv
  |succ i=>simp only[Cb]at hy hu;exact ih.2 i y u hy hu
section
variable {P:Program}{T:AM}{t:TypeId}{ti:TI}
structure IZ (P:Program) (t:TypeId) (ti:TI):Prop where
 info:∃ i,P.info? t=some i/\i.size=ti.size/\i.bytes=ti.bytes/\∃ z,i.zero=some z/\∀ fm ts,Au fm ts ti.zero z.cells.toList
 aki:∀ x∈ti.zero,x.flat=true
 aa3:∀ x∈ti.fB,x.flat=true
 fB:ti.fB.length=ti.el
 sc:ti.sc.length<16
 pl:ti.pl=true->P.eqGuardType P.depth t=false/\∃ l,qw P 20 t=some l/\uh l ti.zero=true
structure FB (P:Program) (e:TypeId) (ti:TI):Prop where
 info:∃ i,P.info? e=some i/\i.size=ti.el/\i.bytes=ti.uZ/\∃ z,i.zero=some z/\∀ fm ts,Au fm ts ti.fB z.cells.toList
 agg:∃ d,P.underlying e=some d/\fE d=ti.acX
theorem akh {z:List AV} (h:acf P t z=true):∃ i v,P.info? t=some i/\i.zero=some v/\∀ fm ts,Au fm ts z v.cells.toList:=by
 unfold acf at h
 split at h
 ·rename_i i hi
  split at h
  ·rename_i v hv
   exact⟨i,v,hi,hv,aiI _ _ h⟩
  ·cases h
 ·cases h
theorem agc {e:TypeId} (h:elB P e ti=true):FB P e ti:=by
 unfold elB at h
 split at h
 ·rename_i i hi
  simp only[A7,beq_iff_eq]at h
  obtain⟨⟨⟨h1,h2⟩,h3⟩,h4⟩:=h
  obtain⟨i',v,eP,hv,hz⟩:=akh h3
  rw[hi]at eP;obtain rfl:=oi eP
  refine⟨⟨i,hi,h1,h2,v,hv,hz⟩,?_⟩
  split at h4
  ·rename_i d hd;exact⟨d,hd,by simpa using h4⟩
  ·cases h4
 ·cases h
theorem AQ.ok (hT:AQ P T) (h:T t=some ti):IZ P t ti:=by
 have:=hT t ti h
 unfold m9 at this
 simp only[A7]at this
 obtain⟨⟨⟨⟨⟨⟨h1,h2⟩,h3⟩,h4⟩,h5⟩,h6⟩,_⟩:=this
 split at h1
 ·rename_i i hi
  simp only[A7,beq_iff_eq]at h1
  obtain⟨i',v,eP,hv,hz⟩:=akh h2
  rw[hi]at eP;obtain rfl:=oi eP
  refine⟨⟨i,hi,h1.1,h1.2,v,hv,hz⟩,by simpa using h3,by simpa using h4.1,by simpa using h4.2,by simpa using h5,?_⟩
  intro hp
  rw[hp]at h6
  simp only[AX,Bool.false_or,A7,Bool.not_eq_true']at h6
  refine⟨h6.1,?_⟩
  have h62:=h6.2
  split at h62
  ·rename_i l hl;exact⟨l,hl,h62⟩
  ·cases h62
 ·cases h1
theorem AQ.int (hT:AQ P T) (h:T t=some ti) {k:IntKind} (hd:ti.d=.int k):P.underlying t=some (.int k):=by
 have:=hT t ti h
 unfold m9 at this
 simp only[A7]at this
 have h7:=this.2
 rw[hd]at h7
 split at h7<;>simp_all
theorem AQ.bool (hT:AQ P T) (h:T t=some ti) (hd:ti.d=.bool):P.underlying t=some .bool:=by
 have:=hT t ti h
 unfold m9 at this
 simp only[A7]at this
 have h7:=this.2
 rw[hd]at h7
 split at h7<;>simp_all
theorem AQ.str (hT:AQ P T) (h:T t=some ti) (hd:ti.d=.str):P.underlying t=some .string:=by
 have:=hT t ti h
 unfold m9 at this
 simp only[A7]at this
 have h7:=this.2
 rw[hd]at h7
 split at h7<;>simp_all
theorem AQ.slice (hT:AQ P T) (h:T t=some ti) {e:TypeId} (hd:ti.d=.slice e):P.underlying t=some (.slice e)/\FB P e ti:=by
 have:=hT t ti h
 unfold m9 at this
 simp only[A7]at this
 have h7:=this.2
 rw[hd]at h7
 split at h7<;>simp_all
 obtain⟨rfl,h7⟩:=h7
 exact agc h7
theorem AQ.array (hT:AQ P T) (h:T t=some ti) {n:Nat}{e:TypeId} (hd:ti.d=.array n e):P.underlying t=some (.array n e)/\FB P e ti:=by
 have:=hT t ti h
 unfold m9 at this
 simp only[A7]at this
 have h7:=this.2
 rw[hd]at h7
 split at h7<;>simp_all
 obtain⟨⟨_,rfl⟩,h7⟩:=h7
 exact agc h7
theorem ac8:∀ (fs:List Field) (l:List (Nat×Nat×Bool)),nV P fs l=true->∀ (i:Nat) (o s:Nat) (a:Bool),l[i]?=some (o,s,a)->
  ∃ f,fs[i]?=some f/\f.offset=o/\0<s/\(∃ inf,P.info? f.type=some inf/\inf.size=s)/\∃ d,P.underlying f.type=some d/\fE d=a
 |[],[],_,i,o,s,a,h=>by simp at h
 |[],_::_,h,_,_,_,_,_=>by simp[nV]at h
 |_::_,[],_,i,o,s,a,h=>by simp at h
 |f::fs,(o',s',a')::l,h,i,o,s,a,hi=>by
  simp only[nV,A7,beq_iff_eq]at h
  obtain⟨⟨⟨⟨h1,h0⟩,h2⟩,h3⟩,h4⟩:=h
  cases i with
  |zero=>
   simp only[BV,oE,Prod.mk.injEq]at hi
   obtain⟨rfl,rfl,rfl⟩:=hi
   refine⟨f,by simp,h1,of_decide_eq_true h0,?_,?_⟩
   ·split at h2
    ·rename_i inf ba;exact⟨inf,ba,by simpa using h2⟩
    ·cases h2
   ·split at h3
    ·rename_i d hd;exact⟨d,hd,by simpa using h3⟩
    ·cases h3
  |succ i=>simp only[Cb]at hi ⊢;exact ac8 fs l h4 i o s a hi
theorem AQ.struct (hT:AQ P T) (h:T t=some ti) (hd:ti.d=.struct):∃ fs,P.underlying t=some (.struct fs)/\nV P fs.toList ti.fl=true:=by
 have:=hT t ti h
 unfold m9 at this
 simp only[A7]at this
 have h7:=this.2
 rw[hd]at h7
 split at h7<;>simp_all
theorem AQ.agg (hT:AQ P T) (h:T t=some ti):∃ d,P.underlying t=some d/\fE d=ti.isAgg:=by
 have:=hT t ti h
 unfold m9 at this
 simp only[A7]at this
 have h7:=this.2
 unfold TI.isAgg
 split at h7<;>rename_i h1 h2<;>first|(exact⟨_,h2,by rw[h1];rfl⟩)|(cases h7)
end
theorem aiC {P:Program}{t:TypeId}{d:TypeDesc} (h:P.underlying t=some d) (w:World):(isAgg t).run P w=.ok (fE d) w:=by
 simp only[isAgg,Sem.run_bind,run_underlying h,Result.andThen_ok]
 cases d<;>simp[fE]
mutual
theorem afW {fm:FM}{ts:List Ak}:∀ (v:Value) (x:AV),fM v=some x->VR fm ts x v
 |.bool b,x,h=>by simp only[fM,oE]at h;subst h;exact .bool b
 |.int k n,x,h=>by simp only[fM,oE]at h;subst h;exact .int k n
 |.string s,x,h=>by simp only[fM,oE]at h;subst h;exact .str s
 |.slice none 0 0,x,h=>by simp only[fM,oE]at h;subst h;exact .nil
 |.slice none 0 (_+1),x,h=>by simp[fM]at h
 |.slice none (_+1) _,x,h=>by simp[fM]at h
 |.slice (some _) _ _,x,h=>by simp[fM]at h
 |.pointer none,x,h=>by simp only[fM,oE]at h;subst h;exact .bG
 |.pointer (some _),x,h=>by simp[fM]at h
 |.nilFunc,x,h=>by simp only[fM,oE]at h;subst h;exact .bP
 |.nilIface,x,h=>by simp only[fM,oE]at h;subst h;exact .bS
 |.agg ⟨cs⟩,x,h=>by
  simp only[fM]at h
  split at h
  ·rename_i l hl
   split at h
   ·rename_i hf
    simp only[oE]at h;subst h
    have:=afX (fm:=fm) (ts:=ts) cs l hl
    exact .agg l _ (by simpa using this.1) (by simpa using hf) (fun i x v hx hv=>this.2 i x v hx (by simpa using hv))
   ·cases h
  ·cases h
 |.float _ _,x,h=>by simp[fM]at h
 |.complex _ _ _,x,h=>by simp[fM]at h
 |.map _,x,h=>by simp[fM]at h
 |.chan _,x,h=>by simp[fM]at h
 |.func _ _ _,x,h=>by simp[fM]at h
 |.iface _ _,x,h=>by simp[fM]at h
 |.tuple _,x,h=>by simp[fM]at h
theorem afX {fm:FM}{ts:List Ak}:∀ (vs:List Value) (xs:List AV),uT vs=some xs->Au fm ts xs vs
 |[],xs,h=>by simp only[uT,oE]at h;subst h;exact⟨rfl,fun i x v h=>by simp at h⟩
 |v::l,xs,h=>by
  simp only[uT]at h
  split at h
  ·rename_i a b ha hb
   obtain rfl:=oi h
   have h1:=afW v a ha (fm:=fm) (ts:=ts)
   have ih:=afX l b hb (fm:=fm) (ts:=ts)
   refine⟨by simp[ih.1],?_⟩
   intro i y u hy hu
   cases i with
   |zero=>simp only[BV,oE]at hy hu;subst hy hu;exact h1
   |succ i=>simp only[Cb]at hy hu;exact ih.2 i y u hy hu
  ·cases h
end
def CY (fm:FM) (ts:List Ak) (tm:Tm) (a:Act):Prop:=∀ t x,tm t=some x->∃ v,a.tmps[t]?=some v/\VR fm ts x v
theorem rR {fm:FM}{ts:List Ak}{tm:Tm}{a:Act} (h:CY fm ts tm a) {x:Operand}{y:AV} (hx:bd tm x=some y):VR fm ts y (a.eval x):=by
 cases x with
 |tmp t=>
  obtain⟨v,hv,hr⟩:=h t y hx
  have:a.eval (.tmp t)=v:=by
   simp only[Act.eval,Array.getD_eq_getD_getElem?,hv,Option.getD_some]
  rw[this]
  exact hr
 |const v=>exact afW v y hx
 |global g=>simp[bd]at hx
 |func f=>
  simp only[bd,oE]at hx;subst hx
  exact .fn _ [] [] #[] #[] rfl rfl (by intro i x v h;simp at h) (by intro i x v h;simp at h)
theorem zM {fm:FM}{ts:List Ak}{tm:Tm}{a:Act} (h:CY fm ts tm a):∀ (l:List Operand) (ys:List AV),jP tm l=some ys->Au fm ts ys (l.map a.eval)
 |[],ys,e=>by simp only[jP,oE]at e;subst e;exact⟨rfl,fun i x v h=>by simp at h⟩
 |x::l,ys,e=>by
  simp only[jP]at e
  split at e
  ·rename_i p q hp hq
   obtain rfl:=oi e
   have h1:=rR h hp
   have ih:=zM h l q hq
   refine⟨by simp[ih.1],?_⟩
   intro i y u hy hu
   cases i with
   |zero=>simp only[List.map_cons,BV,oE]at hy hu;subst hy hu;exact h1
   |succ i=>simp only[List.map_cons,Cb]at hy hu;exact ih.2 i y u hy hu
  ·cases e
def H8 (r:Result Next) (v:Value) (w':World):Prop:=r=.ok (.value v) w'\/(r=.ok .skip w'/\v=undef)
structure Out (N0:Nat) (W0:World) (fm:FM) (ts:List Ak) (H:Heap) (w:World) (kb:Nat) (r:Result Next) (d:De) (fm':FM) (ts':List Ak) (w':World) (v:Value):Prop where
 done:H8 r v w'
 hr:HR N0 W0 fm' ts' (H.bL d.lp) w'
 val:VR fm' ts' d.val v
 cS:AN N0 fm fm'
 jT:As ts ts'
 free:∀ l k,(l≠0\/k<kb\/kb+16<=k)->tb ts l k=none->tb ts' l k=none
def BN (N0:Nat) (W0:World) (fm:FM) (ts:List Ak) (H:Heap) (w:World) (kb:Nat) (r:Result Next) (d:De):Prop:=
 ∃ fm' ts' w' v,Out N0 W0 fm ts H w kb r d fm' ts' w' v
theorem BN.pure {N0:Nat}{W0:World}{fm:FM}{ts:List Ak}{H:Heap}{w:World}{kb:Nat}{r:Result Next}{x:AV}{v:Value}
  (h:HR N0 W0 fm ts H w) (hr:r=.ok (.value v) w) (hv:VR fm ts x v):BN N0 W0 fm ts H w kb r ⟨x,[]⟩:=
 ⟨fm,ts,w,v,.inl hr,h,hv,AN.refl _ _,As.refl _,fun _ _ _ h=>h⟩
theorem dY {P:Program}{w w':World}{s:Sem Value}{v:Value} (hs:s.run P w=.ok v w'):
  ((do let x <-s;pure (Next.value x)):Sem Next).run P w=.ok (.value v) w':=by
 simp[hs]
theorem amG {P:Program}{w w':World}{s:Sem Unit} (hs:s.run P w=.ok () w'):
  ((do s;pure Next.skip):Sem Next).run P w=.ok .skip w':=by
 simp[hs]
section
variable {P:Program}{T:AM}{N0:Nat}{W0:World}{fm:FM}{ts:List Ak}{H:Heap}{w:World}{tm:Tm}{a:Act}
theorem afq {r:Option AV}{d:De} (h:dW r=some d):∃ x,r=some x/\d=⟨x,[]⟩:=by
 unfold dW at h
 cases r with
 |none=>cases h
 |some x=>simp only[A5,oE]at h;exact⟨x,rfl,h.symm⟩
theorem aiq {es:List (List AV)}{cf:Nat->Option Value}{esz i o size:Nat}{u:Nat->Nat->Value}{cs:List AV} (h1:dk es esz)
  (h2:∀ (i:Nat) (c:List AV) (o:Nat) (x:AV),es[i]?=some c->c[o]?=some x->cf (i*esz+o)=some (u i o))
  (h3:∀ (i:Nat) (c:List AV) (o:Nat) (x:AV),es[i]?=some c->c[o]?=some x->x.flat=true)
  (h4:∀ (i:Nat) (c:List AV) (o:Nat) (x:AV),es[i]?=some c->c[o]?=some x->VR fm [] x (u i o))
  (hs:z7 es i o size=some cs):
  ∃ vs:List Value,Au fm [] cs vs/\cs.length=size/\(∀ x∈cs,x.flat=true)/\∀ (j:Nat) (v:Value),vs[j]?=some v->cf (i*esz+o+j)=some v:=by
 unfold z7 at hs
 split at hs
 ·cases hs
 ·rename_i c hc
  split at hs
  ·rename_i hle
   simp only[oE]at hs;subst hs
   have dH:∀ j,((c.drop o).take size)[j]?=if j<size then c[o+j]? else none:=by
    intro j;rw[BP];split
    ·rw[Cf]
    ·rfl
   refine⟨(List.range size).map fun j=>u i (o+j),⟨by simp;omega,?_⟩,by simp;omega,?_,?_⟩
   ·intro j x v hx hv
    rw[dH]at hx
    split at hx
    ·rename_i hj
     simp only[Bx,List.getElem?_range hj,A5,oE]at hv
     subst hv
     exact h4 i c (o+j) x hc hx
    ·cases hx
   ·intro x hx
    obtain⟨j,hj⟩:=BD.1 hx
    rw[dH]at hj
    split at hj
    ·exact h3 i c (o+j) x hc hj
    ·cases hj
   ·intro j v hv
    have hj:j<size:=by have:=(gS.1 hv).1;simpa using this
    simp only[Bx,List.getElem?_range hj,A5,oE]at hv
    subst hv
    have yS:o+j<c.length:=by omega
    have:=h2 i c (o+j) _ hc (gG yS)
    rw[<-this]
    congr 1
    omega
  ·split at hs
   ·rename_i hh
    obtain⟨rfl,gp,hle⟩:=hh
    simp only[oE]at hs;subst hs
    have ank:esz=1:=by rw[<-h1 c (AW hc)];exact gp
    subst ank
    have key:∀ (l:List (List AV)),dk l 1->∀ (j:Nat),l.flatten[j]?=(l[j]?).bind (·[0]?):=by
     intro l
     induction l with
     |nil=>intro _ j;simp
     |cons y l ih=>
      intro hl j
      have hy:y.length=1:=hl y List.mem_cons_self
      obtain⟨z,rfl⟩:∃ z,y=[z]:=by
       cases y with
       |nil=>simp at hy
       |cons z r=>cases r with|nil=>exact⟨z,rfl⟩|cons=>simp at hy
      cases j with
      |zero=>simp
      |succ j=>simp;rw[ih (fun c hc=>hl c (List.mem_cons_of_mem _ hc))]
    have vP:dk ((es.drop i).take size) 1:=fun c hc=>h1 c (Cj (BY hc))
    have hlen:((es.drop i).take size).flatten.length=size:=by
     have:∀ l:List (List AV),dk l 1->l.flatten.length=l.length:=by
      intro l
      induction l with
      |nil=>intro _;rfl
      |cons y l ih=>intro hl;simp[hl y List.mem_cons_self,ih (fun c hc=>hl c (List.mem_cons_of_mem _ hc))];omega
     rw[this _ vP];simp;omega
    have dH:∀ j x,((es.drop i).take size).flatten[j]?=some x->j<size/\∃ cc,es[i+j]?=some cc/\cc[0]?=some x:=by
     intro j x hx
     have hj:j<size:=by rw[<-hlen];exact(gS.1 hx).1
     rw[key _ vP,BP,if_pos hj,Cf]at hx
     cases b9:es[i+j]? with
     |none=>rw[b9]at hx;cases hx
     |some cc=>rw[b9]at hx;exact⟨hj,cc,rfl,hx⟩
    refine⟨(List.range size).map fun j=>u (i+j) 0,⟨by simp[hlen],?_⟩,hlen,?_,?_⟩
    ·intro j x v hx hv
     obtain⟨hj,cc,b9,eG⟩:=dH j x hx
     simp only[Bx,List.getElem?_range hj,A5,oE]at hv
     subst hv
     exact h4 (i+j) cc 0 x b9 eG
    ·intro x hx
     obtain⟨j,hj⟩:=BD.1 hx
     obtain⟨_,cc,b9,eG⟩:=dH j x hj
     exact h3 (i+j) cc 0 x b9 eG
    ·intro j v hv
     have hj:j<size:=by have:=(gS.1 hv).1;simpa using this
     simp only[Bx,List.getElem?_range hj,A5,oE]at hv
     subst hv
     have ae:i+j<es.length:=by omega
     have b9:=gG ae
     have ca:(es[i+j]).length=1:=h1 _ (List.getElem_mem ae)
     have:=h2 (i+j) _ 0 _ b9 (gG (by omega))
     rw[<-this]
     congr 1
     omega
   ·cases hs
theorem HR.iH (h:HR N0 W0 fm ts H w) {x:AV}{v:Value} (hv:VR fm ts x v) {size:Nat}{cs:List AV} (hs:iH H.get size x=some cs):
  ∃ (ad:Addr) (vs:List Value),v=.pointer (some ad)/\Au fm ts cs vs/\cs.length=size/\(∀ x∈cs,x.flat=true)/\∀ j u,vs[j]?=some u->w.cell? (ad.add j)=some u:=by
 cases hv with
 |ptr l k o c ht=>
  simp only[Go.Abs.iH]at hs
  split at hs
  ·rename_i xA hg
   split at hs
   ·rename_i hle
    simp only[oE]at hs;subst hs
    have hb:=h.al l k _ hg
    rw[ht]at hb
    cases hb with
    |box c xA hN hB=>
     obtain⟨cells,et,c1,c2,c3⟩:=hB
     have dH:∀ j,(AV.de l ((xA.drop o).take size))[j]?=if j<size then (xA[o+j]?).map (AV.sh l) else none:=by
      intro j;rw[mP,BP];split
      ·rw[Cf]
      ·rfl
     refine⟨⟨c,o,none⟩,(List.range size).map fun j=>(cells[o+j]?).getD default,rfl,⟨by rw[mQ];simp;omega,?_⟩,by rw[mQ];simp;omega,?_,?_⟩
     ·intro j x v hx hv
      rw[dH]at hx
      split at hx
      ·rename_i hj
       simp only[Bx,List.getElem?_range hj,A5,oE]at hv
       subst hv
       cases eG:xA[o+j]? with
       |none=>rw[eG]at hx;cases hx
       |some y=>
        rw[eG]at hx;simp only[A5,oE]at hx;subst hx
        have ae:o+j<cells.size:=by omega
        rw[Bv ae]
        exact((c3 (o+j) y _ eG (Bv ae)).2).sh l rfl
      ·cases hx
     ·intro x hx
      obtain⟨j,hj⟩:=BD.1 hx
      rw[dH]at hj
      split at hj
      ·cases eG:xA[o+j]? with
       |none=>rw[eG]at hj;cases hj
       |some y=>
        rw[eG]at hj;simp only[A5,oE]at hj;subst hj
        have ae:o+j<cells.size:=by have:=(gS.1 eG).1;omega
        rw[abN]
        exact(c3 (o+j) y _ eG (Bv ae)).1
      ·cases hj
     ·intro j u hu
      have hj:j<size:=by have:=(gS.1 hu).1;simpa using this
      simp only[Bx,List.getElem?_range hj,A5,oE]at hu
      subst hu
      have ae:o+j<cells.size:=by omega
      rw[Addr.add_lit]
      simp only[World.cell?,c1,Bv ae]
      simp
   ·cases hs
  ·cases hs
 |ey l k esz i o g p ht=>
  simp only[Go.Abs.iH]at hs
  split at hs
  ·rename_i et aM es hg
   have:=h.al l k _ hg
   rw[ht]at this
   cases this
  ·cases hs
 |eA l k esz i o g p m' c ht ae=>
  simp only[Go.Abs.iH]at hs
  split at hs
  ·rename_i et aM es hg
   have:=h.al l k _ hg
   rw[ht]at this
   split at hs
   ·rename_i hh
    cases this with
    |nil et esz=>simp at hh;omega
    |arr et esz es c cap hN h=>omega
   ·cases hs
  ·cases hs
 |bq l k esz i o g c cap ht=>
  simp only[Go.Abs.iH]at hs
  split at hs
  ·rename_i et aM es hg
   split at hs
   ·rename_i hh
    obtain⟨he,hlen⟩:=hh
    subst he
    have hb:=h.al l k _ hg
    rw[ht]at hb
    cases hb with
    |arr et _ es c cap hN hA=>
     obtain⟨cells,c1,c2,c3,c4,c5,c6,c7⟩:=hA
     have hb:∀ (i:Nat) (cc:List AV) (o:Nat) (x:AV),es[i]?=some cc->cc[o]?=some x->∃ u,cells[i*aM+o]?=some u/\x.flat=true/\VR fm [] x u:=by
      intro i cc o x hi ho
      have ae:i<es.length:=(gS.1 hi).1
      have b9:cc.length=aM:=c5 cc (AW hi)
      have yS:o<aM:=by rw[<-b9];exact(gS.1 ho).1
      have aw:i*aM+o<cells.size:=by
       rw[c2]
       have:(i+1)*aM<=cap*aM:=BU _ (by omega)
       rw[Nat.add_mul]at this
       omega
      have:=c7 i cc o x _ hi ho (Bv aw)
      exact⟨_,Bv aw,this.1,this.2⟩
     obtain⟨vs,bj,anx,pM,bu⟩:=aiq (fm:=fm) (es:=es) (cf:=fun n=>cells[n]?) (esz:=aM) (i:=i) (o:=o) (size:=size) (u:=fun i o=>(cells[i*aM+o]?).getD default) (cs:=cs) c5
      (by
       intro i cc o x hi ho
       obtain⟨u,hu,_,_⟩:=hb i cc o x hi ho
       simp only[hu,Option.getD_some])
      (fun i cc o x hi ho=>(hb i cc o x hi ho).elim fun u hu=>hu.2.1)
      (by
       intro i cc o x hi ho
       obtain⟨u,hu,_,hv⟩:=hb i cc o x hi ho
       simp only[hu,Option.getD_some];exact hv)
      hs
     refine⟨⟨c,i*aM+o,none⟩,vs,rfl,⟨bj.1,fun j x v hx hv=>(bj.2 j x v hx hv).mono (AZ.refl _) (As.nil _)⟩,anx,pM,?_⟩
     intro j u hu
     rw[Addr.add_lit]
     simp only[World.cell?,c1]
     simpa using bu j u hu
   ·cases hs
  ·cases hs
 |aA es i o cb off esz u h1 h2 h3 h4=>
  simp only[Go.Abs.iH]at hs
  obtain⟨vs,bj,hlen,pM,bu⟩:=aiq (cf:=fun n=>fm cb (off+n)) h1 (fun i c o x a b=>(h2 i c o x a b).1) h3 h4 hs
  refine⟨_,vs,rfl,⟨bj.1,fun j x v hx hv=>(bj.2 j x v hx hv).mono (AZ.refl _) (As.nil _)⟩,hlen,pM,?_⟩
  intro j u hu
  rw[Addr.add_lit,Nat.add_assoc]
  exact h.bO _ _ _ (bu j u hu)
 |_=>simp[Go.Abs.iH]at hs
end
section
variable {P:Program}{T:AM}{N0:Nat}{W0:World}{fm:FM}{ts:List Ak}{H:Heap}{w:World}{t:TypeId}{ti:TI}
theorem ach {agg:Bool}{cs:List AV}{vs:List Value}{y:AV} (h:qP agg cs=some y) (hv:Au fm ts cs vs) (hf:∀ x∈cs,x.flat=true):
  VR fm ts y (if agg then .agg vs.toArray else vs.headD undef)/\(agg=false->∃ v,vs=[v]):=by
 unfold qP at h
 cases agg with
 |true=>
  simp only[if_true,oE]at h;subst h
  refine⟨?_,fun h=>by cases h⟩
  simp only[if_true]
  exact .agg cs _ (by simp[hv.1]) hf (fun i x v a b=>hv.2 i x v a (by simpa using b))
 |false=>
  simp only[C3,if_false]at h
  split at h
  ·rename_i x
   simp only[oE]at h;subst h
   have hl:=hv.1
   cases vs with
   |nil=>simp at hl
   |cons v r=>
    cases r with
    |nil=>exact⟨by simpa using hv.2 0 x v rfl rfl,fun _=>⟨v,rfl⟩⟩
    |cons=>simp at hl
  ·cases h
theorem af8 (hT:AQ P T) (ht:T t=some ti) (h:HR N0 W0 fm ts H w) {x y:AV}{v:Value} (hv:VR fm ts x v) (e:nT H.get ti x=some y):
  ∃ u,(Instr.loadAt t v).run P w=.ok u w/\VR fm ts y u:=by
 unfold nT at e
 cases hc:iH H.get ti.size x with
 |none=>rw[hc]at e;cases e
 |some cs=>
  rw[hc]at e
  simp only[Af]at e
  obtain⟨ad,vs,rfl,bj,hlen,pM,bu⟩:=h.iH hv hc
  obtain⟨qg,np⟩:=ach e bj pM
  obtain⟨i,hi,aw,_,_⟩:=(hT.ok ht).info
  obtain⟨d,hd,n5⟩:=hT.agg ht
  refine⟨_,?_,qg⟩
  simp only[Instr.loadAt,Instr.sureAddr,loadVar,Sem.run_bind,Sem.run_pure,Result.andThen_ok,aiC hd,n5]
  cases ha:ti.isAgg with
  |true=>
   simp only[if_true,Sem.run_bind,sizeOf,typeInfo,run_program,hi,Sem.run_pure,Result.andThen_ok]
   have:=run_loadCells_list (P:=P) w ad vs bu
   rw[<-bj.1,hlen,<-aw]at this
   rw[this]
   simp
  |false=>
   obtain⟨v,rfl⟩:=np ha
   have:=bu 0 v rfl
   rw[Addr.add_zero']at this
   simp[run_load,this]
theorem jL {i:Int}{n j:Nat} (h:fW i n=some j):0<=i/\i<n/\i.toNat=j:=by
 unfold fW at h
 split at h
 ·rename_i hh;simp only[oE]at h;exact⟨hh.1,hh.2,h⟩
 ·cases h
theorem akD (hT:AQ P T) (ht:T t=some ti) {x y:AV}{v:Value} (hv:VR fm ts x v) {f:Nat} (e:aaD ti x f=some y):
  ∃ u,(Instr.fieldAt t v f).run P w=.ok u w/\VR fm ts y u:=by
 unfold aaD at e
 split at e
 ·rename_i hd
  obtain⟨fs,hu,dA⟩:=hT.struct ht hd
  split at e
  ·rename_i off sz hf
   obtain⟨sz,agg⟩:=sz
   obtain⟨fd,hfd,yR,adH,⟨inf,ba,aw⟩,_⟩:=ac8 _ _ dA f off sz agg hf
   have adz:fs[f]?=some fd:=by simpa using hfd
   have oe:inf.size≠0:=by omega
   have run:∀ a:Addr,(Instr.fieldAt t (.pointer (some a)) f).run P w=.ok (.pointer (some (a.add off))) w:=by
    intro a
    simp[Instr.fieldAt,run_underlying hu,adz,Instr.sureAddr,fieldPlace,yR,sizeOf,typeInfo,ba,oe]
   cases hv with
   |ptr l k o c h=>
    simp only[oE]at e;subst e
    exact⟨_,run _,by rw[Addr.add_lit];exact .ptr l k _ c h⟩
   |ey l k esz i o g a h=>
    simp only[oE]at e;subst e
    exact⟨_,run _,.ey l k esz i _ g _ h⟩
   |eA l k esz i o g a m' c h ae=>
    simp only[oE]at e;subst e
    exact⟨_,run _,.eA l k esz i _ g _ m' c h ae⟩
   |bq l k esz i o g c cap h=>
    simp only[oE]at e;subst e
    exact⟨_,run _,by rw[Addr.add_lit,Nat.add_assoc];exact .bq l k esz i _ g c cap h⟩
   |aA es i o cb off' esz u h1 h2 h3 h4=>
    simp only[oE]at e;subst e
    exact⟨_,run _,by rw[Addr.add_lit,Nat.add_assoc,Nat.add_assoc];exact .aA es i _ cb off' esz u h1 h2 h3 h4⟩
   |_=>simp at e
  ·cases e
 ·cases e
theorem Au.cut {cs:List AV}{vs:List Value} (h:Au fm ts cs vs) (o n:Nat):Au fm ts ((cs.drop o).take n) ((vs.drop o).take n):=by
 refine⟨by simp[h.1],?_⟩
 intro i x v hx hv
 rw[BP]at hx hv
 split at hx
 ·rw[if_pos (by assumption)]at hv
  rw[Cf]at hx hv
  exact h.2 _ x v hx hv
 ·cases hx
theorem VR.mm {cs:List AV}{v:Value} (h:VR fm ts (.agg cs) v):∃ vs:Array Value,v=.agg vs/\Au fm ts cs vs.toList/\∀ x∈cs,x.flat=true:=by
 cases h with
 |agg cs vs h1 h2 h3=>exact⟨vs,rfl,⟨by simpa using h1,fun i x v a b=>h3 i x v a (by simpa using b)⟩,h2⟩
theorem ael {P:Program}{t:TypeId}{d:TypeDesc}{inf:TypeInfo}{w:World}{cs:Array Value}{o s:Nat} (hu:P.underlying t=some d) (hi:P.info? t=some inf) (hs:inf.size=s) (hle:o+s<=cs.size) (h1:fE d=false->s=1):
  (part t cs o).run P w=.ok (if fE d then .agg ((cs.toList.drop o).take s).toArray else (((cs.toList.drop o).take s).headD undef)) w:=by
 simp only[part,Sem.run_bind,aiC hu,Result.andThen_ok]
 cases ha:fE d with
 |true=>
  have e:(cs.toList.drop o).take s=(cs.toList.drop o).take (o+s - o):=by congr 1;omega
  simp only[if_true,Sem.run_bind,sizeOf,typeInfo,run_program,hi,Sem.run_pure,Result.andThen_ok,hs]
  congr 2
  apply Array.ext'
  simp
 |false=>
  have:=h1 ha
  subst this
  have ae:o<cs.size:=by omega
  have:(cs.toList.drop o).take 1=[cs[o]]:=by
   apply List.ext_getElem?
   intro j
   rw[BP]
   cases j with
   |zero=>simp[ae]
   |succ j=>simp
  simp[ae,this]
theorem afl {agg:Bool}{cs:List AV}{y:AV} (h:qP agg cs=some y):agg=false->cs.length=1:=by
 intro ha
 subst ha
 unfold qP at h
 simp only[C3,if_false]at h
 split at h
 ·rfl
 ·cases h
theorem akE (hT:AQ P T) (ht:T t=some ti) {x y:AV}{v:Value} (hv:VR fm ts x v) {f:Nat} (e:aaC ti x f=some y):
  ∃ u,(Instr.field t v f).run P w=.ok u w/\VR fm ts y u:=by
 unfold aaC at e
 split at e
 ·rename_i hd
  obtain⟨fs,hu,dA⟩:=hT.struct ht hd
  split at e
  ·rename_i cs
   split at e
   ·rename_i off sz agg hf
    split at e
    ·rename_i hle
     obtain⟨fd,hfd,yR,adH,⟨inf,ba,aw⟩,⟨d,ng,n5⟩⟩:=ac8 _ _ dA f off sz agg hf
     have adz:fs[f]?=some fd:=by simpa using hfd
     obtain⟨vs,rfl,bj,pM⟩:=hv.mm
     have vE:=bj.cut off sz
     obtain⟨qg,_⟩:=ach e vE (fun x hx=>pM x (Cj (BY hx)))
     have hlen:=afl e
     have hp:=ael (P:=P) (w:=w) (cs:=vs) (o:=off) ng ba aw (by have:=bj.1;simp at this;omega) (by
      intro ha;rw[n5]at ha;have:=hlen ha;simp at this;omega)
     refine⟨_,?_,qg⟩
     simp only[Instr.field,Sem.run_bind,run_underlying hu,Result.andThen_ok,adz,asAgg,Sem.run_pure,yR,hp,n5]
    ·cases e
   ·cases e
  ·cases e
 ·cases e
theorem akF (hT:AQ P T) (ht:T t=some ti) {x ix y:AV}{v vi:Value} (hv:VR fm ts x v) (hi:VR fm ts ix vi) (e:aaF ti x ix=some y):
  ∃ u,(Instr.indexAt t v vi).run P w=.ok u w/\VR fm ts y u:=by
 unfold aaF at e
 split at e
 ·rename_i k i
  cases hi
  split at e
  ·rename_i el hd
   obtain⟨hu,⟨inf,ba,aw,_,_⟩,_⟩:=hT.slice ht hd
   have run:∀ (p:Addr) (n cp:Nat),0<=i->i<n->(Instr.indexAt t (.slice (some p) n cp) (.int k i)).run P w=.ok (.pointer (some (p.add (i.toNat*ti.el)))) w:=by
    intro p n cp h0 h1
    simp[Instr.indexAt,asIntOf,run_underlying hu,sizeOf,typeInfo,ba,aw,h0,h1]
   cases hv with
   |cd e0 p cap=>
    simp only at e
    split at e
    ·simp only[mS]at e
     obtain⟨j,hj,_⟩:=e
     obtain⟨h0,h1,_⟩:=jL hj
     simp at h1;omega
    ·cases e
   |sl es cb off esz cap u bU h1 h2 h3 h4=>
    simp only at e
    split at e
    ·rename_i he
     simp only[mS]at e
     obtain⟨j,hj,rfl⟩:=e
     obtain⟨h0,ae,rfl⟩:=jL hj
     refine⟨_,run _ _ _ h0 ae,?_⟩
     rw[Addr.add_lit,<-he]
     exact .aA es i.toNat 0 cb off esz u h1 (fun i c o x a b=>(h2 i c o x a b).p) h3 h4
    ·cases e
   |cH l kk esz b n g p cp h hn ha=>
    simp only at e
    split at e
    ·simp only[mS]at e
     obtain⟨j,hj,rfl⟩:=e
     obtain⟨h0,ae,rfl⟩:=jL hj
     obtain⟨q,rfl⟩:=ha (by omega)
     exact⟨_,run _ _ _ h0 ae,.ey l kk esz _ 0 g _ h⟩
    ·cases e
   |cI l kk esz b n g p cp m' c h fQ hn ha=>
    simp only at e
    split at e
    ·simp only[mS]at e
     obtain⟨j,hj,rfl⟩:=e
     obtain⟨h0,ae,rfl⟩:=jL hj
     obtain⟨q,rfl⟩:=ha (by omega)
     exact⟨_,run _ _ _ h0 ae,.eA l kk esz _ 0 g _ m' c h fQ⟩
    ·cases e
   |cv l kk esz a0 h=>
    simp only at e
    split at e
    ·simp only[mS]at e
     obtain⟨j,hj,rfl⟩:=e
     obtain⟨h0,ae,rfl⟩:=jL hj
     simp at ae;omega
    ·cases e
   |loc l kk esz b n g c cap cp p h hn bI hc ha=>
    simp only at e
    split at e
    ·rename_i he
     simp only[mS]at e
     obtain⟨j,hj,rfl⟩:=e
     obtain⟨h0,ae,rfl⟩:=jL hj
     have hp:=ha (.inl (by omega))
     subst hp
     refine⟨_,run _ _ _ h0 ae,?_⟩
     rw[Addr.add_lit,<-he,<-Nat.add_mul]
     exact .bq l kk esz (b+i.toNat) 0 g c cap h
    ·cases e
   |bF l kk esz o n c cp p h hn ha=>
    simp only at e
    split at e
    ·rename_i he
     simp only[mS]at e
     obtain⟨j,hj,rfl⟩:=e
     obtain⟨h0,ae,rfl⟩:=jL hj
     have hp:=ha (by omega)
     subst hp
     refine⟨_,run _ _ _ h0 ae,?_⟩
     rw[Addr.add_lit,<-he]
     exact .ptr l kk _ c h
    ·cases e
   |raw vv hq=>
    cases v with
    |slice a n cp=>
     cases a with
     |none=>simp at e
     |some p=>
      simp only[mS]at e
      obtain⟨j,hj,rfl⟩:=e
      obtain⟨h0,ae,rfl⟩:=jL hj
      exact⟨_,run _ _ _ h0 ae,.raw _ rfl⟩
    |_=>simp at e
   |_=>simp at e
  ·rename_i n el hd
   obtain⟨hu,⟨inf,ba,aw,_,_⟩,_⟩:=hT.array ht hd
   have run:∀ (p:Addr),0<=i->i<n->(Instr.indexAt t (.pointer (some p)) (.int k i)).run P w=.ok (.pointer (some (p.add (i.toNat*ti.el)))) w:=by
    intro p h0 h1
    simp[Instr.indexAt,asIntOf,run_underlying hu,sizeOf,typeInfo,ba,aw,h0,h1,Instr.sureAddr]
   cases hv with
   |ptr l kk o c h=>
    simp only[mS]at e
    obtain⟨j,hj,rfl⟩:=e
    obtain⟨h0,ae,rfl⟩:=jL hj
    exact⟨_,run _ h0 ae,by rw[Addr.add_lit];exact .ptr l kk _ c h⟩
   |ey l kk esz b o g p h=>
    simp only[mS]at e
    obtain⟨j,hj,rfl⟩:=e
    obtain⟨h0,ae,rfl⟩:=jL hj
    exact⟨_,run _ h0 ae,.ey l kk esz b _ g _ h⟩
   |eA l kk esz b o g p m' c h fQ=>
    simp only[mS]at e
    obtain⟨j,hj,rfl⟩:=e
    obtain⟨h0,ae,rfl⟩:=jL hj
    exact⟨_,run _ h0 ae,.eA l kk esz b _ g _ m' c h fQ⟩
   |bq l kk esz b o g c cap h=>
    simp only[mS]at e
    obtain⟨j,hj,rfl⟩:=e
    obtain⟨h0,ae,rfl⟩:=jL hj
    exact⟨_,run _ h0 ae,by rw[Addr.add_lit,Nat.add_assoc];exact .bq l kk esz b _ g c cap h⟩
   |aA es b o cb off esz u h1 h2 h3 h4=>
    simp only[mS]at e
    obtain⟨j,hj,rfl⟩:=e
    obtain⟨h0,ae,rfl⟩:=jL hj
    exact⟨_,run _ h0 ae,by rw[Addr.add_lit,Nat.add_assoc,Nat.add_assoc];exact .aA es b _ cb off esz u h1 h2 h3 h4⟩
   |raw vv hq=>
    cases v with
    |pointer a=>
     cases a with
     |none=>simp at e
     |some p=>
      simp only[mS]at e
      obtain⟨j,hj,rfl⟩:=e
      obtain⟨h0,ae,rfl⟩:=jL hj
      exact⟨_,run _ h0 ae,.raw _ rfl⟩
    |_=>simp at e
   |_=>simp at e
  ·cases e
 ·cases e
end
section
variable {P:Program}{T:AM}{N0:Nat}{W0:World}{fm:FM}{ts:List Ak}{H:Heap}{w:World}{t:TypeId}{ti:TI}
theorem akG (hT:AQ P T) (ht:T t=some ti) {x ix y:AV}{v vi:Value} (hv:VR fm ts x v) (hi:VR fm ts ix vi) (e:aaE ti x ix=some y):
  ∃ u,(Instr.index t v vi).run P w=.ok u w/\VR fm ts y u:=by
 unfold aaE at e
 split at e
 ·rename_i k i
  cases hi
  split at e
  ·rename_i n el hd
   obtain⟨hu,⟨inf,ba,aw,_,_⟩,d,ng,n5⟩:=hT.array ht hd
   split at e
   ·rename_i cs
    cases hj:fW i n with
    |none=>rw[hj]at e;cases e
    |some j=>
     rw[hj]at e
     simp only[Af]at e
     obtain⟨h0,ae,rfl⟩:=jL hj
     split at e
     ·rename_i hle
      obtain⟨vs,rfl,bj,pM⟩:=hv.mm
      have vE:=bj.cut (i.toNat*ti.el) ti.el
      obtain⟨qg,_⟩:=ach e vE (fun x hx=>pM x (Cj (BY hx)))
      have hlen:=afl e
      have hp:=ael (P:=P) (w:=w) (cs:=vs) (o:=i.toNat*ti.el) ng ba aw (by have:=bj.1;simp at this;omega) (by
       intro ha;rw[n5]at ha;have:=hlen ha;simp at this;omega)
      refine⟨_,?_,qg⟩
      simp only[Instr.index,Sem.run_bind,asIntOf,Sem.run_pure,run_underlying hu,Result.andThen_ok,h0,ae,and_self,if_true,sizeOf,typeInfo,run_program,ba,aw,hp,n5]
     ·cases e
   ·cases e
  ·rename_i hd
   have hu:=hT.str ht hd
   split at e
   ·rename_i s
    cases hv
    simp only[mS]at e
    obtain⟨j,hj,rfl⟩:=e
    obtain⟨h0,ae,rfl⟩:=jL hj
    have fQ:i.toNat<s.data.size:=by have:s.size=s.data.size:=rfl;omega
    refine⟨.int .u8 (s.data[i.toNat]).toNat,?_,?_⟩
    ·have hg:s[i.toNat]?=some (s.data[i.toNat]):=by
      have yI:i.toNat<s.size:=fQ
      rw[getElem?_pos s i.toNat yI];rfl
     simp[Instr.index,asIntOf,run_underlying hu,h0,hg]
    ·have:s.data.toList.getD i.toNat 0=s.data[i.toNat]:=by
      rw[List.getD_eq_getElem?_getD,Array.getElem?_toList,Bv fQ];rfl
     rw[this]
     exact .int _ _
   ·cases e
  ·cases e
 ·cases e
theorem alr {n h:Nat}{o:Option AV}{vo:Option Value} (ho:∀ x,o=some x->∃ v,vo=some v/\VR fm ts x v) (hn:o=none->vo=none) (e:qS n o=some h):
  h<=n/\((vo=none/\h=n)\/∃ k i,vo=some (.int k i)/\0<=i/\i.toNat=h/\i<=n):=by
 unfold qS at e
 split at e
 ·simp only[oE]at e;subst e;exact⟨Bd _,.inl ⟨hn rfl,rfl⟩⟩
 ·rename_i k i
  split at e
  ·rename_i hh
   simp only[oE]at e;subst e
   obtain⟨v,rfl,hv⟩:=ho _ rfl
   cases hv
   exact⟨by omega,.inr ⟨k,i,rfl,hh.1,rfl,hh.2⟩⟩
  ·cases e
 ·cases e
theorem als {h l:Nat}{o:Option AV}{vo:Option Value} (ho:∀ x,o=some x->∃ v,vo=some v/\VR fm ts x v) (hn:o=none->vo=none) (e:qT h o=some l):
  l<=h/\((vo=none/\l=0)\/∃ k i,vo=some (.int k i)/\0<=i/\i.toNat=l/\i<=h):=by
 unfold qT at e
 split at e
 ·simp only[oE]at e;subst e;exact⟨Nat.zero_le _,.inl ⟨hn rfl,rfl⟩⟩
 ·rename_i k i
  split at e
  ·rename_i hh
   simp only[oE]at e;subst e
   obtain⟨v,rfl,hv⟩:=ho _ rfl
   cases hv
   exact⟨by omega,.inr ⟨k,i,rfl,hh.1,rfl,hh.2⟩⟩
  ·cases e
 ·cases e
theorem acB {n l h:Nat}{lo hi:Option AV}{vlo ss:Option Value} (c:Nat) (isS:Bool) (bI:n<=c) (hl:∀ x,lo=some x->∃ v,vlo=some v/\VR fm ts x v) (yG:lo=none->vlo=none)
  (hh:∀ x,hi=some x->∃ v,ss=some v/\VR fm ts x v) (yC:hi=none->ss=none) (e:bounds n lo hi=some (l,h)):
  l<=h/\h<=n/\(Instr.sliceBounds isS n c vlo ss none).run P w=.ok (l,h,c) w:=by
 unfold bounds at e
 split at e
 ·rename_i h' rn
  split at e
  ·rename_i l' jk
   simp only[oE,Prod.mk.injEq]at e
   obtain⟨rfl,rfl⟩:=e
   obtain⟨a1,a2⟩:=alr hh yC rn
   obtain⟨b1,b2⟩:=als hl yG jk
   refine⟨b1,a1,?_⟩
   rcases a2 with ⟨rfl,rfl⟩|⟨k,i,rfl,h0,rfl,h1⟩
   ·rcases b2 with ⟨rfl,rfl⟩|⟨k',i',rfl,xV,rfl,td⟩
    ·simp[Instr.sliceBounds]
    ·simp[Instr.sliceBounds,Instr.sliceBound,asIntOf,xV,td]
   ·have pJ:i<=c:=by omega
    rcases b2 with ⟨rfl,rfl⟩|⟨k',i',rfl,xV,rfl,td⟩
    ·simp[Instr.sliceBounds,Instr.sliceBound,asIntOf,h0,pJ]
    ·have arA:i'<=i.toNat:=td
     have e3:((i.toNat:Nat):Int)=i:=by omega
     have h2:i'<=i:=by omega
     simp[Instr.sliceBounds,Instr.sliceBound,asIntOf,h0,pJ,xV,h2,e3]
  ·cases e
 ·cases e
theorem akT (hT:AQ P T) (ht:T t=some ti) {x y:AV}{v:Value}{lo hi:Option AV}{vlo ss:Option Value} (hv:VR fm ts x v)
  (hl:∀ x,lo=some x->∃ v,vlo=some v/\VR fm ts x v) (yG:lo=none->vlo=none) (hh:∀ x,hi=some x->∃ v,ss=some v/\VR fm ts x v) (yC:hi=none->ss=none)
  (e:nM ti x lo hi=some y):∃ u,(Instr.sliceAt t v vlo ss none).run P w=.ok u w/\VR fm ts y u:=by
 unfold nM at e
 split at e
 ·rename_i el hd
  obtain⟨hu,⟨inf,ba,aw,_,_⟩,_⟩:=hT.slice ht hd
  have run:∀ (p:Option Addr) (n cp l h:Nat),n<=cp->bounds n lo hi=some (l,h)->l<=h/\h<=n/\
    (Instr.sliceAt t (.slice p n cp) vlo ss none).run P w=.ok (.slice (if cp=l then p else p.map (·.add (l*ti.el))) (h - l) (cp - l)) w:=by
   intro p n cp l h hn hb
   obtain⟨b1,b2,b3⟩:=acB (P:=P) (w:=w) (fm:=fm) (ts:=ts) cp true hn hl yG hh yC hb
   refine⟨b1,b2,?_⟩
   simp[Instr.sliceAt,run_underlying hu,Instr.slice,b3,sizeOf,typeInfo,ba,aw]
  split at e
  ·cases hv
   simp only[mS]at e
   obtain⟨⟨l,h⟩,hb,rfl⟩:=e
   obtain⟨b1,b2,b3⟩:=run none 0 0 l h (Bd _) hb
   have kS:l=0:=by omega
   have dB:h=0:=by omega
   subst kS dB
   refine⟨_,b3,?_⟩
   simp
   exact .nil
  ·rename_i esz es
   split at e
   ·rename_i he
    simp only[mS]at e
    obtain⟨⟨l,h⟩,hb,rfl⟩:=e
    cases hv with
    |cd e0 p cap=>
     obtain⟨b1,b2,b3⟩:=run p 0 cap l h (Nat.zero_le _) hb
     refine⟨_,b3,?_⟩
     have dB:h - l=0:=by omega
     simp only[dB,List.take_zero,List.drop_nil]
     exact .cd _ _ _
    |sl es cb off esz cap u bU h1 h2 h3 h4=>
     ·obtain⟨b1,b2,b3⟩:=run (some ⟨cb,off,none⟩) es.length cap l h bU.1 hb
      refine⟨_,b3,?_⟩
      by_cases hhl:h - l=0
      ·simp only[hhl,List.take_zero]
       exact .cd _ _ _
      ·have ca:¬ cap=l:=by omega
       simp only[if_neg ca,A5,Addr.add_lit]
       have hlen:((es.drop l).take (h - l)).length=h - l:=by simp;omega
       have dH:∀ (i:Nat) c,((es.drop l).take (h - l))[i]?=some c->es[l+i]?=some c:=by
        intro i c hc
        rw[BP]at hc
        split at hc
        ·rw[Cf]at hc;exact hc
        ·cases hc
       have:=VR.sl (fm:=fm) (ts:=ts) ((es.drop l).take (h - l)) cb (off+l*esz) esz (cap - l) (fun i o=>u (l+i) o) (by rw[hlen];have:=bU.2;omega)
        (fun c hc=>h1 c (Cj (BY hc)))
        (by
         intro i c o x hc ho
         have:=h2 (l+i) c o x (dH i c hc) ho
         have e0:off+((l+i)*esz+o)=off+l*esz+(i*esz+o):=by rw[Nat.add_mul];omega
         rwa [e0]at this)
        (fun i c o x hc ho=>h3 (l+i) c o x (dH i c hc) ho)
        (fun i c o x hc ho=>h4 (l+i) c o x (dH i c hc) ho)
       rw[hlen]at this
       rw[<-he]
       exact this
   ·cases e
  ·rename_i lv k esz i n g
   split at e
   ·rename_i he
    simp only[mS]at e
    obtain⟨⟨l,h⟩,hb,rfl⟩:=e
    cases hv with
    |cH _ _ _ _ _ _ p cp fp hn ha=>
     obtain⟨b1,b2,b3⟩:=run p n cp l h hn hb
     refine⟨_,b3,.cH lv k esz _ _ g _ _ fp (by omega) ?_⟩
     intro adH
     obtain⟨q,rfl⟩:=ha (by omega)
     split
     ·exact⟨_,rfl⟩
     ·exact⟨_,rfl⟩
    |cI _ _ _ _ _ _ p cp m' c fp ae hn ha=>
     obtain⟨b1,b2,b3⟩:=run p n cp l h hn hb
     refine⟨_,b3,.cI lv k esz _ _ g _ _ m' c fp ae (by omega) ?_⟩
     intro adH
     obtain⟨q,rfl⟩:=ha (by omega)
     split
     ·exact⟨_,rfl⟩
     ·exact⟨_,rfl⟩
    |cv _ _ _ a0 fp=>
     obtain⟨b1,b2,b3⟩:=run a0 0 0 l h (Bd _) hb
     have kS:l=0:=by omega
     have dB:h=0:=by omega
     subst kS dB
     refine⟨_,b3,?_⟩
     simp
     exact .cv lv k esz _ fp
    |loc _ _ _ _ _ _ c cap cp p fp hn bI hc ha=>
     obtain⟨b1,b2,b3⟩:=run (some p) n cp l h bI hb
     by_cases ca:cp=l
     ·rw[if_pos ca]at b3
      refine⟨_,b3,.loc lv k esz (i+l) (h - l) g c cap (cp - l) p fp (by omega) (by omega) (by omega) ?_⟩
      intro hz
      rcases hz with hz|hz
      ·omega
      ·have pO:i=0:=by omega
       have kS:l=0:=by omega
       subst pO kS
       exact ha (.inr rfl)
     ·simp only[if_neg ca,A5]at b3
      have hp:=ha (.inl (by omega))
      subst hp
      refine⟨_,b3,?_⟩
      rw[Addr.add_lit,<-he,<-Nat.add_mul]
      exact .loc lv k esz (i+l) (h - l) g c cap (cp - l) _ fp (by omega) (by omega) (by omega) (fun _=>rfl)
   ·cases e
  ·cases e
 ·rename_i hd
  have hu:=hT.str ht hd
  split at e
  ·rename_i s
   cases hv
   simp only[mS]at e
   obtain⟨⟨l,h⟩,hb,rfl⟩:=e
   obtain⟨b1,b2,b3⟩:=acB (P:=P) (w:=w) (fm:=fm) (ts:=ts) s.size false (Bd _) hl yG hh yC hb
   refine⟨_,?_,.str _⟩
   simp[Instr.sliceAt,run_underlying hu,Instr.slice,b3]
  ·cases e
 ·rename_i n el hd
  obtain⟨hu,⟨inf,ba,aw,_,_⟩,_⟩:=hT.array ht hd
  split at e
  ·rename_i lv k o
   simp only[mS]at e
   obtain⟨⟨l,h⟩,hb,rfl⟩:=e
   obtain⟨b1,b2,b3⟩:=acB (P:=P) (w:=w) (fm:=fm) (ts:=ts) n false (Bd _) hl yG hh yC hb
   cases hv with
   |ptr _ _ _ c fp=>
    refine⟨.slice (some (if n=l then ⟨c,o,none⟩ else (⟨c,o,none⟩:Addr).add (l*ti.el))) (h - l) (n - l),?_,?_⟩
    ·simp[Instr.sliceAt,run_underlying hu,Instr.sureAddr,b3,sizeOf,typeInfo,ba,aw]
    ·refine .bF lv k ti.el _ (h - l) c (n - l) _ fp (by omega) ?_
     intro bg
     rw[if_neg (by omega),Addr.add_lit]
  ·cases e
 ·cases e
end
section
variable {P:Program}{T:AM}{N0:Nat}{W0:World}{fm:FM}{ts:List Ak}{H:Heap}{w:World}{t:TypeId}{ti:TI}
theorem amB (op:BinOp) (x y:Operand) {a b:Value} (h:∀ xs,a≠.agg xs) (h':a≠.nilIface):(eqGuard op t x y a b).run P w=.ok () w:=by
 cases op<;>cases a<;>cases b<;>simp_all [eqGuard]
theorem acn (x y:Int):(x==y)=decide (x=y):=by
 by_cases h:x=y<;>simp[h]
theorem akt {op:BinOp}{k k':IntKind}{x y:Int}{z:AV} (e:pa op (.int k x) (.int k' y)=some z):
  ∃ r,(binOp op t (.int k x) (.int k' y)).run P w=.ok r w/\VR fm ts z r:=by
 unfold pa at e
 simp only at e
 cases op
 case shl=>
  simp only at e
  split at e
  ·cases e
  ·rename_i hy
   simp only[oE]at e;subst e
   exact⟨.int k (k.wrap (x*2 ^ (min y.toNat k.bits))),by simp[binOp,Op.shift,hy],.int _ _⟩
 case shr=>
  simp only at e
  split at e
  ·cases e
  ·rename_i hy
   simp only[oE]at e;subst e
   exact⟨.int k (x.fdiv (2 ^ (min y.toNat k.bits))),by simp[binOp,Op.shift,hy],.int _ _⟩
 all_goals
  simp only at e
  split at e
  case isFalse=>cases e
 all_goals
  rename_i hk
  subst hk
 case add=>simp only[oE]at e;subst e;exact⟨.int k (k.wrap (x+y)),by simp[binOp,Op.intArith],.int _ _⟩
 case sub=>simp only[oE]at e;subst e;exact⟨.int k (k.wrap (x - y)),by simp[binOp,Op.intArith],.int _ _⟩
 case mul=>simp only[oE]at e;subst e;exact⟨.int k (k.wrap (x*y)),by simp[binOp,Op.intArith],.int _ _⟩
 case quo=>
  by_cases hy:y=0
  ·rw[if_pos hy]at e;cases e
  ·rw[if_neg hy]at e
   simp only[oE]at e;subst e
   exact⟨.int k (k.wrap (x.tdiv y)),by simp[binOp,Op.intDiv,hy],.int _ _⟩
 case rem=>
  by_cases hy:y=0
  ·rw[if_pos hy]at e;cases e
  ·rw[if_neg hy]at e
   simp only[oE]at e;subst e
   exact⟨.int k (x.tmod y),by simp[binOp,Op.intDiv,hy],.int _ _⟩
 case and=>simp only[oE]at e;subst e;exact⟨.int k (dN k x y),by unfold dN;simp only[binOp,Op.intBits];simp,.int _ _⟩
 case or=>simp only[oE]at e;subst e;exact⟨.int k (fK k x y),by unfold fK;simp only[binOp,Op.intBits];simp,.int _ _⟩
 case xor=>simp only[oE]at e;subst e;exact⟨.int k (aci k x y),by unfold aci;simp only[binOp,Op.intBits];simp,.int _ _⟩
 case eql=>simp only[oE]at e;subst e;exact⟨.bool (decide (x=y)),by simp[binOp,Op.intCmp,acn],.bool _⟩
 case neq=>simp only[oE]at e;subst e;exact⟨.bool (!decide (x=y)),by simp[binOp,Op.intCmp,bne,acn],.bool _⟩
 case lss=>simp only[oE]at e;subst e;exact⟨.bool (decide (x<y)),by simp[binOp,Op.intCmp],.bool _⟩
 case leq=>simp only[oE]at e;subst e;exact⟨.bool (decide (x<=y)),by simp[binOp,Op.intCmp],.bool _⟩
 case gtr=>simp only[oE]at e;subst e;exact⟨.bool (decide (y<x)),by simp[binOp,Op.intCmp],.bool _⟩
 case geq=>simp only[oE]at e;subst e;exact⟨.bool (decide (y<=x)),by simp[binOp,Op.intCmp],.bool _⟩
 all_goals cases e
theorem run_eql_bool (hu:P.underlying t=some .bool) (x y:Bool):(binOp .eql t (.bool x) (.bool y)).run P w=.ok (.bool (x==y)) w:=by
 simp only[binOp]
 simp[Op.equal,Op.maxDepth,run_equalIn_bool' w 9999 t x y hu]
theorem run_neq_bool (hu:P.underlying t=some .bool) (x y:Bool):(binOp .neq t (.bool x) (.bool y)).run P w=.ok (.bool (!(x==y))) w:=by
 simp only[binOp]
 simp[Op.equal,Op.maxDepth,run_equalIn_bool' w 9999 t x y hu]
theorem aku {op:BinOp}{x y z:AV}{v u:Value} (hd:∀ b,x=AV.bool b->P.underlying t=some .bool) (hv:VR fm ts x v) (hu:VR fm ts y u) (e:pa op x y=some z):
  ∃ r,(binOp op t v u).run P w=.ok r w/\VR fm ts z r/\(∀ xs,v≠.agg xs)/\v≠.nilIface:=by
 have e0:=e
 unfold pa at e
 split at e
 ·cases hv;cases hu
  obtain⟨r,h1,h2⟩:=akt (P:=P) (w:=w) (t:=t) (fm:=fm) (ts:=ts) e0
  exact⟨r,h1,h2,by simp,by simp⟩
 ·rename_i x y
  cases hv;cases hu
  have hb:=hd x rfl
  cases op
  case eql=>simp only[oE]at e;subst e;exact⟨_,run_eql_bool hb x y,.bool _,by simp,by simp⟩
  case neq=>simp only[oE]at e;subst e;exact⟨_,run_neq_bool hb x y,.bool _,by simp,by simp⟩
  all_goals simp at e
 ·rename_i x y
  cases hv;cases hu
  cases op
  case eql=>simp only[oE]at e;subst e;exact⟨.bool (x.toList==y.toList),by simp[binOp,Op.stringOp],.bool _,by simp,by simp⟩
  case neq=>simp only[oE]at e;subst e;exact⟨.bool (!(x.toList==y.toList)),by simp[binOp,Op.stringOp],.bool _,by simp,by simp⟩
  case add=>
   simp only at e
   split at e
   ·rename_i ae
    simp only[oE]at e;subst e
    refine⟨.string (x++y),?_,.str _,by simp,by simp⟩
    have hm:¬ (IntKind.i64.max<((x.size+y.size:Nat):Int)):=by simp[IntKind.max,IntKind.signed,IntKind.bits];omega
    simp only[binOp,Op.stringOp]
    rw[if_neg hm]
    simp
   ·cases e
  all_goals simp at e
 ·cases e
theorem Au.append {a b:List AV}{u v:List Value} (h:Au fm ts a u) (k:Au fm ts b v):Au fm ts (a++b) (u++v):=by
 refine⟨by simp[h.1,k.1],?_⟩
 intro i x y hx hy
 rw[List.getElem?_append]at hx hy
 split at hx
 ·rw[if_pos (by rw[<-h.1];assumption)]at hy
  exact h.2 i x y hx hy
 ·rw[if_neg (by rw[<-h.1];assumption)]at hy
  rw[<-h.1]at hy
  exact k.2 _ x y hx hy
theorem ac3:∀ (n:Nat) (z x y:List AV) (r:Bool),bJ z x y=some r->∃ r1 r2,bJ (z.take n) (x.take n) (y.take n)=some r1/\bJ (z.drop n) (x.drop n) (y.drop n)=some r2/\r=(r1&&r2)
 |0,z,x,y,r,h=>⟨true,r,by simp[bJ],by simpa using h,by simp⟩
 |n+1,[],[],[],r,h=>⟨true,r,by simp[bJ],by simpa using h,by simp⟩
 |n+1,z::zs,x::xs,y::ys,r,h=>by
  simp only[bJ]at h
  split at h
  ·rename_i p q hp hq
   simp only[oE]at h;subst h
   obtain⟨r1,r2,h1,h2,rfl⟩:=ac3 n zs xs ys q hq
   exact⟨p&&r1,r2,by simp[bJ,hp,h1],by simpa using h2,by rw[Bool.and_assoc]⟩
  ·cases h
 |_+1,[],_::_,_,_,h=>by simp[bJ]at h
 |_+1,[],[],_::_,_,h=>by simp[bJ]at h
 |_+1,_::_,[],_,_,h=>by simp[bJ]at h
 |_+1,_::_,_::_,[],_,h=>by simp[bJ]at h
theorem xI:∀ (z x y:List AV) (r:Bool),bJ z x y=some r->x.length=z.length/\y.length=z.length
 |[],[],[],_,_=>⟨rfl,rfl⟩
 |z::zs,x::xs,y::ys,r,h=>by
  simp only[bJ]at h
  split at h
  ·rename_i p q hp hq
   have:=xI zs xs ys q hq
   simp[this.1,this.2]
  ·cases h
 |[],_::_,_,_,h=>by simp[bJ]at h
 |[],[],_::_,_,h=>by simp[bJ]at h
 |_::_,[],_,_,h=>by simp[bJ]at h
 |_::_,_::_,[],_,h=>by simp[bJ]at h
theorem agi:∀ (z z' x y:List AV) (r:Bool),uh z z'=true->bJ z' x y=some r->bJ z x y=some r
 |[],[],x,y,r,_,h=>h
 |[],_::_,_,_,_,k,_=>by simp[uh]at k
 |_::_,[],_,_,_,k,_=>by simp[uh]at k
 |z::zs,z'::zs',x,y,r,k,h=>by
  cases x with
  |nil=>cases y<;>simp[bJ]at h
  |cons x xs=>
   cases y with
   |nil=>simp[bJ]at h
   |cons y ys=>
    simp only[bJ]at h ⊢
    split at h
    ·rename_i p q hp hq
     simp only[uh,A7]at k
     have ih:=agi zs zs' xs ys q k.2 hq
     have h1:j7 z x y=some p:=by
      have k1:=k.1
      unfold sameKind at k1
      split at k1
      ·cases x<;>cases y<;>first|(simp[j7]at hp;done)|simpa [j7] using hp
      ·cases x<;>cases y<;>first|(simp[j7]at hp;done)|simpa [j7] using hp
      ·cases x<;>cases y<;>first|(simp[j7]at hp;done)|simpa [j7] using hp
      ·cases k1
     rw[h1,ih]
     exact h
    ·cases h
def pc (agg:Bool) (vs:List Value):Value:=if agg then .agg vs.toArray else vs.headD undef
theorem agX {P:Program}{f:Nat}:∀ (l:List Field) (acc zs:List AV),rV P (qw P f) acc l=some zs->acc <+: zs
 |[],acc,zs,h=>by simp only[rV,oE]at h;subst h;exact List.prefix_refl _
 |x::l,acc,zs,h=>by
  simp only[rV]at h
  split at h
  ·split at h
   ·exact(List.prefix_append _ _).trans (agX l _ zs h)
   ·cases h
  ·cases h
theorem abD {P:Program}{w:World}{t:TypeId}{gk:TypeDesc}{inf:TypeInfo}{vs:List Value}{o n:Nat} (hu:P.underlying t=some gk) (hi:P.info? t=some inf) (hs:inf.size=n) (hle:o+n<=vs.length) (h1:fE gk=false->n=1):
  (part t vs.toArray o).run P w=.ok (pc (fE gk) ((vs.drop o).take n)) w:=by
 have:=ael (P:=P) (w:=w) (cs:=vs.toArray) (o:=o) hu hi hs (by simpa using hle) h1
 simpa [pc] using this
theorem aii {P:Program}{w:World}:∀ (f:Nat) (t:TypeId) (zs:List AV),qw P f t=some zs->∃ gk,P.underlying t=some gk/\(fE gk=false->zs.length=1)/\
  ∀ (d:Nat),f<=d->∀ (xs ys:List AV) (vs us:List Value) (r:Bool),Au fm ts xs vs->Au fm ts ys us->bJ zs xs ys=some r->
   (Op.equalIn d t (pc (fE gk) vs) (pc (fE gk) us)).run P w=.ok r w
 |0,t,zs,h=>by simp[qw]at h
 |f+1,t,zs,h=>by
  have IH:=aii (P:=P) (w:=w) f
  unfold qw at h
  have leaf:∀ (gk:TypeDesc) (z:AV),P.underlying t=some gk->fE gk=false->zs=[z]->
    (∀ d x y v u r,VR fm ts x v->VR fm ts y u->j7 z x y=some r->(Op.equalIn (d+1) t v u).run P w=.ok r w)->∃ gk,P.underlying t=some gk/\(fE gk=false->zs.length=1)/\
  ∀ (d:Nat),f+1<=d->∀ (xs ys:List AV) (vs us:List Value) (r:Bool),Au fm ts xs vs->Au fm ts ys us->bJ zs xs ys=some r->
   (Op.equalIn d t (pc (fE gk) vs) (pc (fE gk) us)).run P w=.ok r w:=by
   intro gk z hu ha hz bf
   refine⟨gk,hu,fun _=>by rw[hz];rfl,?_⟩
   intro d hd xs ys vs us r hv ry he
   obtain⟨d,rfl⟩:∃ k,d=k+1:=⟨d - 1,by omega⟩
   have hl:=xI _ _ _ _ he
   subst hz
   cases xs with
   |nil=>simp at hl
   |cons x xs=>
    cases xs with
    |cons _ _=>simp at hl
    |nil=>
     cases ys with
     |nil=>simp at hl
     |cons y ys=>
      cases ys with
      |cons _ _=>simp at hl
      |nil=>
       simp only[bJ]at he
       split at he
       ·rename_i p q hp hq
        have hq:true=q:=by simpa [bJ] using hq
        subst hq
        simp only[Bool.and_true,oE]at he;subst he
        have h1:=hv.1
        have h2:=ry.1
        cases vs with
        |nil=>simp at h1
        |cons v vs=>
         cases us with
         |nil=>simp at h2
         |cons u us=>
          rw[ha]
          exact bf d x y v u p (hv.2 0 x v rfl rfl) (ry.2 0 y u rfl rfl) hp
       ·cases he
  split at h
  ·rename_i k hu
   simp only[oE]at h
   refine leaf _ _ hu rfl h.symm ?_
   intro d x y v u r hv gJ e
   unfold j7 at e
   split at e
   ·cases hv;cases gJ
    split at e
    ·rename_i hk;subst hk
     simp only[oE]at e;subst e
     rw[run_equalIn_int w d t _ _ _ _ hu,acn]
    ·cases e
   ·rename_i heq;cases heq
   ·rename_i heq;cases heq
   ·cases e
  ·rename_i hu
   simp only[oE]at h
   refine leaf _ _ hu rfl h.symm ?_
   intro d x y v u r hv gJ e
   unfold j7 at e
   split at e
   ·rename_i heq;cases heq
   ·cases hv;cases gJ
    simp only[oE]at e;subst e
    exact run_equalIn_bool' w d t _ _ hu
   ·rename_i heq;cases heq
   ·cases e
  ·rename_i hu
   simp only[oE]at h
   refine leaf _ _ hu rfl h.symm ?_
   intro d x y v u r hv gJ e
   unfold j7 at e
   split at e
   ·rename_i heq;cases heq
   ·rename_i heq;cases heq
   ·cases hv;cases gJ
    simp only[oE]at e;subst e
    exact run_equalIn_string w d t _ _ hu
   ·cases e
  ·rename_i fs hu
   split at h
   ·rename_i fU
    refine⟨_,hu,fun h=>by simp[fE]at h,?_⟩
    intro d hd xs ys vs us r hv gJ he
    obtain⟨d,rfl⟩:∃ k,d=k+1:=⟨d - 1,by omega⟩
    have hfo:P.fieldsOf t=fs:=by simp[Program.fieldsOf,hu]
    simp only[pc,fE,if_true]
    rw[run_equalIn_struct w d t _ _ (by rw[hfo];exact hu) fU,hfo]
    have loop:∀ (l:List Field) (acc zs:List AV),rV P (qw P f) acc l=some zs->∀ r,bJ (zs.drop acc.length) (xs.drop acc.length) (ys.drop acc.length)=some r->xs.length=zs.length->ys.length=zs.length->
      (Op.eqFields d vs.toArray us.toArray l).run P w=.ok r w:=by
     intro l
     induction l with
     |nil=>
      intro acc zs hg r he gp kT
      simp only[rV,oE]at hg;subst hg
      simp only[List.drop_length]at he
      have e1:xs.drop acc.length=[]:=by simp[gp]
      have e2:ys.drop acc.length=[]:=by simp[kT]
      rw[e1,e2]at he
      simp only[bJ,oE]at he;subst he
      simp[Op.eqFields]
     |cons x l ihl=>
      intro acc zs hg r he gp kT
      simp only[rV]at hg
      split at hg
      ·rename_i zl qi
       split at hg
       ·rename_i hc
        obtain⟨jl,yR,ba,bu⟩:=hc
        obtain⟨inf,ba⟩:=Option.isSome_iff_exists.1 ba
        have aw:inf.size=zl.length:=by rw[<-bu];simp[Program.cellsOf,ba]
        obtain⟨gk,mI,np,hIH⟩:=IH x.type zl qi
        obtain⟨rest,abi⟩:=agX l _ zs hg
        have hzd:zs.drop acc.length=zl++rest:=by rw[<-abi,Cp];simp
        have hlen:zs.length=acc.length+zl.length+rest.length:=by rw[<-abi];simp;omega
        obtain⟨r1,r2,h1,h2,rfl⟩:=ac3 zl.length _ _ _ _ he
        rw[hzd,List.take_left]at h1
        simp only[List.drop_drop]at h2
        have pY:=abD (w:=w) (vs:=vs) (o:=acc.length) mI ba aw (by rw[<-hv.1];omega) np
        have yT:=abD (w:=w) (vs:=us) (o:=acc.length) mI ba aw (by rw[<-gJ.1];omega) np
        have hq:=hIH d (by omega) _ _ _ _ r1 (hv.cut acc.length zl.length) (gJ.cut acc.length zl.length) h1
        have hn:=ihl (acc++zl) zs hg r2 (by simpa using h2) gp kT
        simp only[Op.eqFields,if_pos jl,Sem.run_bind,yR,pY,yT,hq,Result.andThen_ok]
        cases r1 with
        |true=>simpa using hn
        |false=>simp
       ·cases hg
      ·cases hg
    exact loop fs.toList [] zs h r (by simpa using he) (xI _ _ _ _ he).1 (xI _ _ _ _ he).2
   ·cases h
  ·rename_i n e hu
   split at h
   ·rename_i zl qi
    split at h
    ·rename_i hc
     obtain⟨ba,bu⟩:=hc
     obtain⟨inf,ba⟩:=Option.isSome_iff_exists.1 ba
     have aw:inf.size=zl.length:=by rw[<-bu];simp[Program.cellsOf,ba]
     simp only[oE]at h;subst h
     obtain⟨gk,mI,np,hIH⟩:=IH e zl qi
     refine⟨_,hu,fun h=>by simp[fE]at h,?_⟩
     intro d hd xs ys vs us r hv gJ he
     obtain⟨d,rfl⟩:∃ k,d=k+1:=⟨d - 1,by omega⟩
     simp only[pc,fE,if_true]
     rw[run_equalIn_array w d _ _ hu ba,bu]
     have hl:=xI _ _ _ _ he
     have dA:∀ m,(List.replicate m zl).flatten.length=m*zl.length:=by intro m;simp
     have ag8:∀ m k,k<=m->(List.replicate m zl).flatten.drop (k*zl.length)=(List.replicate (m - k) zl).flatten:=by
      intro m k hk
      have:List.replicate m zl=List.replicate k zl++List.replicate (m - k) zl:=by rw[List.replicate_append_replicate];congr 1;omega
      rw[this,List.flatten_append,List.drop_left' (dA k)]
     have loop:∀ (m k:Nat),k+m=n->∀ r,bJ ((List.replicate n zl).flatten.drop (k*zl.length)) (xs.drop (k*zl.length)) (ys.drop (k*zl.length))=some r->
       (Op.eqItems d e zl.length vs.toArray us.toArray (List.range' k m)).run P w=.ok r w:=by
      intro m
      induction m with
      |zero=>
       intro k hk r he
       have:k=n:=by omega
       subst this
       have e1:xs.drop (k*zl.length)=[]:=by rw[List.drop_eq_nil_iff,hl.1,dA];omega
       have e2:ys.drop (k*zl.length)=[]:=by rw[List.drop_eq_nil_iff,hl.2,dA];omega
       rw[ag8 k k (by omega),e1,e2]at he
       simp only[Nat.sub_self,List.replicate_zero,List.flatten_nil,bJ,oE]at he;subst he
       simp[Op.eqItems]
      |succ m zk=>
       intro k hk r he
       obtain⟨r1,r2,h1,h2,rfl⟩:=ac3 zl.length _ _ _ _ he
       have zj:((List.replicate n zl).flatten.drop (k*zl.length)).take zl.length=zl:=by
        rw[ag8 n k (by omega),show n - k=(n - k - 1)+1 from by omega,List.replicate_succ,Cu,List.take_left]
       rw[zj]at h1
       simp only[List.drop_drop]at h2
       have ee:k*zl.length+zl.length=(k+1)*zl.length:=by rw[Nat.add_mul];omega
       rw[ee]at h2
       have hbound:k*zl.length+zl.length<=n*zl.length:=by rw[ee];exact BU _ (by omega)
       have pY:=abD (w:=w) (vs:=vs) (o:=k*zl.length) mI ba aw (by rw[<-hv.1,hl.1,dA];exact hbound) np
       have yT:=abD (w:=w) (vs:=us) (o:=k*zl.length) mI ba aw (by rw[<-gJ.1,hl.2,dA];exact hbound) np
       have hq:=hIH d (by omega) _ _ _ _ r1 (hv.cut _ zl.length) (gJ.cut _ zl.length) h1
       have hn:=zk (k+1) (by omega) r2 h2
       simp only[List.range'_succ,Op.eqItems,Sem.run_bind,pY,yT,hq,Result.andThen_ok]
       cases r1 with
       |true=>simpa using hn
       |false=>simp
     rw[List.range_eq_range']
     exact loop n 0 (by omega) r (by simpa using he)
    ·cases h
   ·cases h
  ·cases h
end
section
variable {P:Program}{T:AM}{N0:Nat}{W0:World}{fm:FM}{ts:List Ak}{H:Heap}{w:World}{t:TypeId}{ti:TI}
theorem aks (hT:AQ P T) (ht:T t=some ti) {op:BinOp}{x y z:AV}{v u:Value}{ox oy:Operand} (hv:VR fm ts x v) (hu:VR fm ts y u) (e:aaA ti op x y=some z):
  ∃ r,(do eqGuard op t ox oy v u;binOp op t v u:Sem Value).run P w=.ok r w/\VR fm ts z r:=by
 have plain:∀ (hd:∀ b,x=AV.bool b->P.underlying t=some .bool) (e:pa op x y=some z),∃ r,(do eqGuard op t ox oy v u;binOp op t v u:Sem Value).run P w=.ok r w/\VR fm ts z r:=by
  intro hd e
  obtain⟨r,h1,h2,h3,h4⟩:=aku (P:=P) (w:=w) hd hv hu e
  refine⟨r,?_,h2⟩
  have:=amB (P:=P) (w:=w) (t:=t) op ox oy (a:=v) (b:=u) h3 h4
  simp[this,h1]
 unfold aaA at e
 split at e
 ·rename_i xs ys
  split at e
  ·rename_i hp
   obtain⟨vs,rfl,bj,hf⟩:=hv.mm
   obtain⟨us,rfl,oA,yw⟩:=hu.mm
   obtain⟨hg,l,hl,hk⟩:=(hT.ok ht).pl hp.1
   obtain⟨gk,hdu,np,bf⟩:=aii (P:=P) (w:=w) (fm:=fm) (ts:=ts) 20 t l hl
   have n5:∀ r,bJ ti.zero xs ys=some r->(Op.equalIn 10000 t (.agg vs) (.agg us)).run P w=.ok r w:=by
    intro r he
    have h2:=agi l ti.zero xs ys r hk he
    have:=bf 10000 (by decide) xs ys vs.toList us.toList r bj oA h2
    cases ha:fE gk with
    |true=>rw[ha]at this;simpa [pc] using this
    |false=>
     obtain⟨d',hd',gn⟩:=hT.agg ht
     rw[hdu]at hd';obtain rfl:=oi hd'
     rw[ha,hp.2]at gn;cases gn
   have yA:=run_eqGuard_agg (P:=P) w op t ox oy vs us hg
   cases op
   case eql=>
    simp only[mS]at e
    obtain⟨r,hr,rfl⟩:=e
    refine⟨.bool r,?_,.bool r⟩
    simp[yA,run_eql_struct,n5 r hr]
   case neq=>
    simp only[mS]at e
    obtain⟨r,hr,rfl⟩:=e
    refine⟨.bool !r,?_,.bool _⟩
    simp[yA,run_neq_struct,n5 r hr]
   all_goals cases e
  ·cases e
 ·rename_i x y
  split at e
  ·rename_i hd
   exact plain (fun _ _=>hT.bool ht hd) e
  ·cases e
 ·rename_i anE adF
  refine plain (fun b hb=>?_) e
  subst hb
  cases y with
  |bool c=>exact absurd rfl (adF b c rfl)
  |_=>simp[pa]at e
theorem flat_get (sz:Nat):∀ (es:List (List AV)),dk es sz->∀ j,es.flatten[j]?=(es[j / sz]?).bind fun c=>c[j % sz]?
 |[],_,j=>by simp
 |c::es,h,j=>by
  have hc:c.length=sz:=h c List.mem_cons_self
  have ih:=flat_get sz es (fun d hd=>h d (List.mem_cons_of_mem _ hd))
  simp only[Cu]
  by_cases h0:sz=0
  ·subst h0
   have:c=[]:=List.eq_nil_of_length_eq_zero hc
   subst this
   have hi:=ih j
   simp only[BM,hi,Nat.div_zero,Nat.mod_zero,BV,Af,List.getElem?_nil]
   cases h1:es[0]? with
   |none=>rfl
   |some d=>
    have:d.length=0:=h d (List.mem_cons_of_mem _ (AW h1))
    have:d=[]:=List.eq_nil_of_length_eq_zero this
    subst this;simp
  ·have hp:0<sz:=Nat.pos_of_ne_zero h0
   by_cases hj:j<sz
   ·rw[Ct (by omega),Nat.div_eq_of_lt hj,Nat.mod_eq_of_lt hj];simp
   ·rw[CE (by omega),hc,ih (j - sz)]
    have h1:j / sz=(j - sz) / sz+1:=by
     rw[<-Nat.sub_add_cancel (Nat.le_of_not_lt hj),Nat.add_div_right _ hp];simp
    have h2:j % sz=(j - sz) % sz:=by
     rw[Nat.mod_eq_sub_mod (Nat.le_of_not_lt hj)]
    rw[h1,h2];simp
theorem j8 (sz:Nat):∀ (es:List (List AV)),dk es sz->es.flatten.length=es.length*sz
 |[],_=>by simp
 |c::es,h=>by
  have hc:c.length=sz:=h c List.mem_cons_self
  have ih:=j8 sz es (fun d hd=>h d (List.mem_cons_of_mem _ hd))
  simp only[Cu,A8,ih,hc,AA,Nat.add_mul];omega
mutual
theorem adg (G:AR):∀ (x y:AV),x.ai (fun _ _=>none)=some y->x.ai G=some y
 |.loc l k e i n g,y,h=>by simp[AV.ai]at h
 |.nil,y,h=>by simpa [AV.ai] using h
 |.bR t v,y,h=>by
  simp only[AV.ai,mS]at h ⊢
  obtain⟨a,h1,h2⟩:=h
  exact⟨a,adg G v a h1,h2⟩
 |.agg cs,y,h=>by
  simp only[AV.ai,mS]at h ⊢
  obtain⟨a,h1,h2⟩:=h
  exact⟨a,vj G cs a h1,h2⟩
 |.ar vs,y,h=>by
  simp only[AV.ai,mS]at h ⊢
  obtain⟨a,h1,h2⟩:=h
  exact⟨a,vj G vs a h1,h2⟩
 |.bool b,y,h=>by simpa [AV.ai] using h
 |.int k n,y,h=>by simpa [AV.ai] using h
 |.str s,y,h=>by simpa [AV.ai] using h
 |.sl e es,y,h=>by simpa [AV.ai] using h
 |.bG,y,h=>by simpa [AV.ai] using h
 |.bP,y,h=>by simpa [AV.ai] using h
 |.bS,y,h=>by simpa [AV.ai] using h
 |.raw r_,y,h=>by simpa [AV.ai] using h
 |.fn f a b,y,h=>by
  simp only[AV.ai]at h ⊢
  split at h
  ·rename_i x z hx hz
   obtain rfl:=oi h
   simp only[vj G a x hx,vj G b z hz]
  ·cases h
 |.bF ..,y,h=>by simp[AV.ai]at h
 |.ptr ..,y,h=>by simp[AV.ai]at h
 |.bq ..,y,h=>by simp[AV.ai]at h
 |.aA ..,y,h=>by simpa [AV.ai] using h
 |.dead,y,h=>by simp[AV.ai]at h
theorem vj (G:AR):∀ (l ys:List AV),AV.aG (fun _ _=>none) l=some ys->AV.aG G l=some ys
 |[],ys,h=>by simpa [AV.aG] using h
 |x::l,ys,h=>by
  simp only[AV.aG]at h
  split at h
  ·rename_i a b ha hb
   obtain rfl:=oi h
   simp only[AV.aG,adg G x a ha,vj G l b hb]
  ·cases h
end
mutual
theorem adh:∀ (x y:AV),x.ai (fun _ _=>none)=some y->x.refs=[]
 |.loc l k e i n g,y,h=>by simp[AV.ai]at h
 |.nil,y,h=>rfl
 |.bR t v,y,h=>by
  simp only[AV.ai,mS]at h
  obtain⟨a,h1,h2⟩:=h
  simp only[AV.refs];exact adh v a h1
 |.agg cs,y,h=>by
  simp only[AV.ai,mS]at h
  obtain⟨a,h1,h2⟩:=h
  simp only[AV.refs];exact vk cs a h1
 |.ar vs,y,h=>by
  simp only[AV.ai,mS]at h
  obtain⟨a,h1,h2⟩:=h
  simp only[AV.refs];exact vk vs a h1
 |.bool b,y,h=>rfl
 |.int k n,y,h=>rfl
 |.str s,y,h=>rfl
 |.sl e es,y,h=>rfl
 |.bG,y,h=>rfl
 |.bP,y,h=>rfl
 |.bS,y,h=>rfl
 |.raw r_,y,h=>rfl
 |.fn f a b,y,h=>by
  simp only[AV.ai]at h
  split at h
  ·rename_i x z hx hz
   simp only[AV.refs,vk a x hx,vk b z hz,List.append_nil]
  ·cases h
 |.bF ..,y,h=>rfl
 |.ptr ..,y,h=>rfl
 |.bq ..,y,h=>rfl
 |.aA ..,y,h=>rfl
 |.dead,y,h=>rfl
theorem vk:∀ (l ys:List AV),AV.aG (fun _ _=>none) l=some ys->AV.aN l=[]
 |[],ys,h=>rfl
 |x::l,ys,h=>by
  simp only[AV.aG]at h
  split at h
  ·rename_i a b ha hb
   simp only[AV.aN,adh x a ha,vk l b hb,List.append_nil]
  ·cases h
end
theorem aa9 (fm:FM) (w:World):gm fm w (behind ts H [])=fm:=by
 have hn:∀ b,¬ behind ts H [] b:=by
  rintro b ⟨l,k,al,hm,_⟩
  cases hm
 unfold gm
 cases fm with
 |mk v t=>
  simp only[FM.mk.injEq]
  exact⟨by funext b o;rw[if_neg (hn b)],by funext b;rw[if_neg (hn b)]⟩
theorem HR.pe (h:HR N0 W0 fm ts H w) {cs ys:List AV}{vs:List Value} (hv:Au fm ts cs vs) (e:AV.aG (fun _ _=>none) cs=some ys):Au fm [] ys vs:=by
 have:=h.aG [] hv (vj H.get cs ys e) (by rw[vk cs ys e];simp)
 rwa [aa9]at this
theorem BR.gb {N0:Nat}{g:Nat}{c:Option (Nat×Nat)}{et esz:Nat}{es:List (List AV)} (h:BR fm ts w N0 (some (.arr g c)) (.arr et esz es)):
  es.length=g/\(c=none->es=[])/\∀ b cap,c=some (b,cap)->Dj fm w et esz es b cap/\N0<=b:=by
 generalize jJ:(some (TB.arr g c))=tt at h
 generalize hbb:AH.arr et esz es=bb at h
 cases h with
 |box=>cases jJ
 |nil jA aM=>
  simp only[oE,TB.arr.injEq]at jJ
  obtain⟨rfl,rfl⟩:=jJ
  simp only[AH.arr.injEq]at hbb
  obtain⟨rfl,rfl,rfl⟩:=hbb
  exact⟨rfl,fun _=>rfl,fun b cap h=>by cases h⟩
 |arr jA aM es' c' uO hN hA=>
  simp only[oE,TB.arr.injEq]at jJ
  obtain⟨rfl,rfl⟩:=jJ
  simp only[AH.arr.injEq]at hbb
  obtain⟨rfl,rfl,rfl⟩:=hbb
  refine⟨rfl,⟨(by intro h;cases h),?_⟩⟩
  intro b cap h
  simp only[oE,Prod.mk.injEq]at h
  obtain⟨rfl,rfl⟩:=h
  exact⟨hA,hN⟩
theorem HR.elems (h:HR N0 W0 fm ts H w) {x:AV}{v:Value}{sz:Nat}{es:List (List AV)} (hv:VR fm ts x v) (e:iI H.get sz x=some es):
  ∃ a cp us,v=.slice a es.length cp/\dk es sz/\Au fm [] es.flatten us/\(∀ x∈es.flatten,x.flat=true)/\∀ j u,us[j]?=some u->∃ ad,a=some ad/\w.cell? (ad.add j)=some u:=by
 have fin:∀ (a:Option Addr) (cp:Nat) (u:Nat->Nat->Value),v=.slice a es.length cp->dk es sz->
   (∀ i c o x,es[i]?=some c->c[o]?=some x->∃ ad,a=some ad/\w.cell? (ad.add (i*sz+o))=some (u i o)/\x.flat=true/\VR fm [] x (u i o))->
   ∃ a cp us,v=.slice a es.length cp/\dk es sz/\Au fm [] es.flatten us/\(∀ x∈es.flatten,x.flat=true)/\∀ j u,us[j]?=some u->∃ ad,a=some ad/\w.cell? (ad.add j)=some u:=by
  intro a cp u hv ho hc
  have hlen:=j8 sz es ho
  have jg:∀ j x,es.flatten[j]?=some x->∃ c,es[j / sz]?=some c/\c[j % sz]?=some x/\j / sz*sz+j % sz=j:=by
   intro j x hx
   rw[flat_get sz es ho,Option.bind_eq_some_iff]at hx
   obtain⟨c,h1,h2⟩:=hx
   exact⟨c,h1,h2,by rw[Nat.mul_comm];exact Nat.div_add_mod j sz⟩
  refine⟨a,cp,(List.range (es.length*sz)).map fun j=>u (j / sz) (j % sz),hv,ho,⟨by simp[hlen],?_⟩,?_,?_⟩
  ·intro j x v hx hv
   have hj:j<es.length*sz:=by rw[<-hlen];exact(gS.1 hx).1
   simp only[Bx,List.getElem?_range hj,A5,oE]at hv
   subst hv
   obtain⟨c,h1,h2,_⟩:=jg j x hx
   obtain⟨_,_,_,_,h3⟩:=hc _ _ _ _ h1 h2
   exact h3
  ·intro x hx
   obtain⟨j,hj⟩:=BD.1 hx
   obtain⟨c,h1,h2,_⟩:=jg j x hj
   obtain⟨_,_,_,h3,_⟩:=hc _ _ _ _ h1 h2
   exact h3
  ·intro j v hv
   have hj:j<es.length*sz:=by have:=(gS.1 hv).1;simpa using this
   simp only[Bx,List.getElem?_range hj,A5,oE]at hv
   subst hv
   have ae:j<es.flatten.length:=by omega
   obtain⟨c,h1,h2,h4⟩:=jg j _ (gG ae)
   obtain⟨ad,h5,h6,_,_⟩:=hc _ _ _ _ h1 h2
   rw[h4]at h6
   exact⟨ad,h5,h6⟩
 unfold iI at e
 split at e
 ·obtain rfl:=oi e
  cases hv
  exact fin none 0 (fun _ _=>undef) rfl (by intro c hc;cases hc) (by intro i c o x hi;simp at hi)
 ·rename_i esz xJ
  split at e
  ·rename_i he
   subst he
   obtain rfl:=oi e
   cases hv with
   |cd _ a cap=>exact fin a cap (fun _ _=>undef) rfl (by intro c hc;cases hc) (by intro i c o x hi;simp at hi)
   |sl _ cb off _ cap u bU h1 h2 h3 h4=>
    refine fin (some ⟨cb,off,none⟩) cap u rfl h1 ?_
    intro i c o x a b
    refine⟨_,rfl,?_,h3 i c o x a b,h4 i c o x a b⟩
    rw[Addr.add_lit]
    exact h.bO _ _ _ (h2 i c o x a b).1
  ·cases e
 ·rename_i l k esz i n g
  split at e
  ·rename_i et aM xJ hg
   split at e
   ·rename_i hh
    obtain⟨rfl,rfl,ke,bB⟩:=hh
    obtain rfl:=oi e
    have hb:=h.al l k _ hg
    cases hv with
    |cH _ _ _ _ _ _ a cp ht=>rw[ht]at hb;cases hb
    |cI _ _ _ _ _ _ a cp m' c ht ae=>
     rw[ht]at hb
     have:=hb.gb.1
     omega
    |cv _ _ _ a0 ht=>
     rw[ht]at hb
     have:=hb.gb.2.1 rfl
     subst this
     exact fin a0 0 (fun _ _=>undef) (by simp) (by intro c hc;simp at hc) (by intro i c o x hi;simp at hi)
    |loc _ _ _ _ _ _ c cap cp a ht hn bI hc ha=>
      rw[ht]at hb
      obtain⟨hA,hN⟩:=hb.gb.2.2 c cap rfl
      obtain⟨cells,c1,c2,c3,c4,c5,c6,c7⟩:=hA
      have dH:∀ j,((xJ.drop i).take n)[j]?=if j<n then xJ[i+j]? else none:=by
       intro j;rw[BP];split
       ·rw[Cf]
       ·rfl
      have hl:((xJ.drop i).take n).length=n:=by simp;omega
      refine fin (some a) cp (fun j o=>(cells[(i+j)*aM+o]?).getD default) (by rw[hl]) (fun d hd=>c5 d (Cj (BY hd))) ?_
      intro j cc o x hj hx
      rw[dH]at hj
      split at hj
      ·rename_i hjn
       have ca:cc.length=aM:=c5 cc (AW hj)
       have ho:o<aM:=by rw[<-ca];exact(gS.1 hx).1
       have hi:i+j<xJ.length:=(gS.1 hj).1
       have ae:(i+j)*aM+o<cells.size:=by
        rw[c2]
        have:(i+j+1)*aM<=cap*aM:=BU _ (by omega)
        rw[Nat.add_mul,Nat.one_mul]at this;omega
       have hv:=Bv ae
       have:=c7 (i+j) cc o x _ hj hx hv
       refine⟨a,rfl,?_,?_⟩
       ·rw[ha (.inl (by omega)),Addr.add_lit]
        simp only[World.cell?,c1,hv]
        have e2:i*aM+(j*aM+o)=(i+j)*aM+o:=by rw[Nat.add_mul];omega
        rw[e2,hv];simp
       ·rw[hv];exact this
      ·cases hj
   ·cases e
  ·cases e
 ·rename_i l k esz o n
  split at e
  ·rename_i cs hg
   split at e
   ·rename_i hh
    obtain⟨rfl,rfl,rfl,hle⟩:=hh
    simp only[mS]at e
    obtain⟨ys,hy,rfl⟩:=e
    have hb:=h.al 0 k _ hg
    cases hv with
    |bF _ _ _ _ _ c cp a ht hn ha=>
     rw[ht]at hb
     cases hb with
     |box _ _ hN hB=>
      obtain⟨cells,et,c1,c2,c3⟩:=hB
      have gy:=lI _ _ _ hy
      have lT:ys.length=n:=by rw[gy.1];simp;omega
      have hVR:Au fm ts ((cs.drop o).take n) ((List.range n).map fun j=>(cells[o+j]?).getD default):=by
       refine⟨by simp;omega,?_⟩
       intro j x v hx hv
       rw[BP]at hx
       split at hx
       ·rename_i hj
        rw[Cf]at hx
        simp only[Bx,List.getElem?_range hj,A5,oE]at hv
        subst hv
        have ae:o+j<cells.size:=by omega
        rw[Bv ae]
        exact(c3 (o+j) x _ hx (Bv ae)).2
       ·cases hx
      have anq:=h.pe hVR hy
      refine fin (some a) cp (fun i _=>(cells[o+i]?).getD default) (by simp[lT]) (by intro d hd;obtain⟨y,_,rfl⟩:=List.mem_map.1 hd;rfl) ?_
      intro i cc o' x hi hx
      simp only[Bx,mS]at hi
      obtain⟨y,hyi,rfl⟩:=hi
      have bB:i<n:=by rw[<-lT];exact(gS.1 hyi).1
      cases o' with
      |succ o'=>simp at hx
      |zero=>
       simp only[BV,oE]at hx
       subst hx
       have ae:o+i<cells.size:=by omega
       have hv:=Bv ae
       refine⟨a,rfl,?_,?_,?_⟩
       ·rw[ha (by omega),Addr.add_lit]
        simp only[World.cell?,c1,Nat.mul_one,Nat.add_zero,hv]
        simp
       ·obtain⟨z,hz,ni⟩:=(show ∃ z,cs[o+i]?=some z/\z.ai (fun _ _=>none)=some y from by
         have yI:i<((cs.drop o).take n).length:=by simp;omega
         obtain⟨y',jK,hf⟩:=gy.2 i _ (gG yI)
         rw[hyi]at jK;obtain rfl:=oi jK
         refine⟨_,?_,hf⟩
         have:=gG yI
         rw[BP,if_pos bB,Cf]at this
         exact this)
        rw[aba ni]
        exact(c3 _ _ _ hz hv).1
       ·exact anq.2 i y _ hyi (by simp only[Bx,List.getElem?_range bB,A5])
   ·cases e
  ·cases e
 ·cases e
end
section
variable {P:Program}{T:AM}{N0:Nat}{W0:World}{fm:FM}{ts:List Ak}{H:Heap}{w:World}{t:TypeId}{ti:TI}
theorem akU {op:UnOp}{x y:AV}{v:Value} (hv:VR fm ts x v) (e:aUn op x=some y):
  ∃ u,(Op.unary op v).run P w=.ok u w/\VR fm ts y u:=by
 unfold aUn at e
 split at e
 ·cases hv
  obtain rfl:=oi e
  exact⟨_,by simp[unary_neg,Op.intArith],.int _ _⟩
 ·cases hv
  obtain rfl:=oi e
  exact⟨_,by simp[unary_not],.bool _⟩
 ·cases e
theorem aql {x:AV}{v:Value}{n:Nat} (hv:VR fm ts x v) (e:abP x=some n):∃ a c,v=.slice a n c:=by
 unfold abP at e
 split at e<;>first|(obtain rfl:=oi e)|(cases e)
 ·cases hv;exact⟨_,_,rfl⟩
 ·cases hv<;>exact⟨_,_,rfl⟩
 ·cases hv<;>exact⟨_,_,rfl⟩
 ·cases hv;exact⟨_,_,rfl⟩
theorem akH (hT:AQ P T) (ht:T t=some ti) {x y:AV}{v:Value}{l:List TypeId}{ty:TypeId} (hv:VR fm ts x v) (e:aaG ti x=some y):
  ∃ u,(Builtin.len_ (t::l).toArray ty #[v]).run P w=.ok u w/\VR fm ts y u:=by
 unfold aaG at e
 split at e
 ·rename_i hd
  have hu:=hT.str ht hd
  split at e
  ·cases hv
   obtain rfl:=oi e
   exact⟨_,by simp[Builtin.len_,run_underlying hu,goInt],.int _ _⟩
  ·cases e
 ·rename_i n el hd
  obtain⟨hu,_⟩:=hT.array ht hd
  obtain rfl:=oi e
  exact⟨_,by simp[Builtin.len_,run_underlying hu,goInt],.int _ _⟩
 ·rename_i el hd
  obtain⟨hu,_⟩:=hT.slice ht hd
  simp only[mS]at e
  obtain⟨n,hn,rfl⟩:=e
  obtain⟨a,c,rfl⟩:=aql hv hn
  exact⟨_,by simp[Builtin.len_,run_underlying hu,goInt],.int _ _⟩
 ·cases e
theorem aoI (k:IntKind) (x y:Int):(if y > x then y else x)=max x y:=by
 rw[Int.max_def];split<;>split<;>omega
theorem aoK (k:IntKind) (x y:Int):(if y<x then y else x)=min x y:=by
 rw[Int.min_def];split<;>split<;>omega
theorem afd (mx:Bool):∀ (n:Nat) (xs:List AV) (x y:AV) (v:Value) (vs:List Value),xs.length=n->VR fm ts x v->Au fm ts xs vs->mY mx (x::xs)=some y->
  ∃ u,(vs.foldlM (if mx then Builtin.max2 else Builtin.min2) v).run P w=.ok u w/\VR fm ts y u
 |0,[],x,y,v,vs,_,hv,bj,e=>by
  have:vs=[]:=by have:=bj.1;cases vs with|nil=>rfl|cons=>simp at this
  subst this
  cases x<;>simp[mY]at e
  subst e
  exact⟨v,by simp,hv⟩
 |n+1,x2::xs,x,y,v,vs,hn,hv,bj,e=>by
  cases vs with
  |nil=>have:=bj.1;simp at this
  |cons v2 vs=>
   have h2:VR fm ts x2 v2:=bj.2 0 _ _ rfl rfl
   have hr:Au fm ts xs vs:=⟨by simpa using bj.1,fun i x v a b=>bj.2 (i+1) x v (by simpa using a) (by simpa using b)⟩
   cases x<;>try (simp[mY]at e;done)
   cases x2<;>try (simp[mY]at e;done)
   rename_i k a k' b
   rw[mY]at e
   split at e
   ·rename_i hk
    subst hk
    cases hv;cases h2
    obtain⟨u,h1,h2⟩:=afd mx n xs _ y (.int k (if mx then max a b else min a b)) vs (by simpa using hn) (.int _ _) hr e
    refine⟨u,?_,h2⟩
    cases mx with
    |true=>
     simp only[if_true]at h1 ⊢
     simp only[List.foldlM_cons,Sem.run_bind,Builtin.max2,Sem.run_pure,Result.andThen_ok,aoI k,h1]
    |false=>
     simp only[C3,if_false]at h1 ⊢
     simp only[List.foldlM_cons,Sem.run_bind,Builtin.min2,Sem.run_pure,Result.andThen_ok,aoK k,h1]
   ·cases e
theorem afe {mx:Bool}{xs:List AV}{y:AV}{vs:List Value}{l:Array TypeId}{ty:TypeId} (hv:Au fm ts xs vs) (e:mY mx xs=some y):
  ∃ u,((if mx then Builtin.max_ else Builtin.min_) l ty vs.toArray).run P w=.ok u w/\VR fm ts y u:=by
 cases xs with
 |nil=>simp[mY]at e
 |cons x xs=>
  cases vs with
  |nil=>have:=hv.1;simp at this
  |cons v vs=>
   have h2:VR fm ts x v:=hv.2 0 _ _ rfl rfl
   have hr:Au fm ts xs vs:=⟨by simpa using hv.1,fun i x v a b=>hv.2 (i+1) x v (by simpa using a) (by simpa using b)⟩
   obtain⟨u,h3,h4⟩:=afd (P:=P) (w:=w) mx xs.length xs x y v vs rfl h2 hr e
   refine⟨u,?_,h4⟩
   cases mx with
   |true=>simpa [Builtin.max_] using h3
   |false=>simpa [Builtin.min_] using h3
theorem VR.parts {x:AV}{v:Value}{vc:List AV} (hv:VR fm ts x v) (e:x.cells=some vc):Au fm ts vc v.cells.toList/\∀ y∈vc,y.flat=true:=by
 have one:∀ (x:AV) (v:Value),VR fm ts x v->x.flat=true->v.cells=#[v]->Au fm ts [x] v.cells.toList/\∀ y∈[x],y.flat=true:=by
  intro x v h hf hc
  rw[hc]
  refine⟨⟨rfl,?_⟩,by simpa using hf⟩
  intro i y u hy hu
  cases i with
  |zero=>simp at hy hu;subst hy hu;exact h
  |succ i=>simp at hy
 cases x with
 |agg cs=>
  simp only[AV.cells,oE]at e;subst e
  obtain⟨vs,rfl,h1,h2⟩:=hv.mm
  exact⟨h1,h2⟩
 |ar=>simp[AV.cells]at e
 |dead=>simp[AV.cells]at e
 |_=>
  simp only[AV.cells,oE]at e;subst e
  refine one _ _ hv rfl ?_
  cases hv<;>first|rfl|(rename_i h;cases v<;>first|rfl|cases h)
theorem qu {cs new:List AV}{vs nv:List Value}{o:Nat} (h:Au fm ts cs vs) (hn:Au fm ts new nv) (hle:o+new.length<=cs.length):
  Au fm ts (overwrite cs o new) (vs.take o++(nv++vs.drop (o+nv.length))):=by
 have hl:=h.1
 have yM:=hn.1
 refine⟨by simp[overwrite];omega,?_⟩
 intro i x v hx hv
 unfold overwrite at hx
 by_cases h1:i<o
 ·rw[Ct (by simp;omega),BP,if_pos h1]at hx hv
  exact h.2 i x v hx hv
 ·rw[CE (by simp;omega),A9,Nat.min_eq_left (by omega)]at hx hv
  by_cases h2:i - o<new.length
  ·rw[Ct (by omega)]at hx hv
   exact hn.2 _ x v hx hv
  ·rw[CE (by omega),Cf]at hx hv
   rw[yM]at hx
   exact h.2 _ x v hx hv
theorem qv {cs new:List AV}{o:Nat} (h:∀ x∈cs,x.flat=true) (hn:∀ x∈new,x.flat=true):∀ x∈overwrite cs o new,x.flat=true:=by
 intro x hx
 unfold overwrite at hx
 simp only[Ba]at hx
 rcases hx with hx|hx|hx
 ·exact h x (BY hx)
 ·exact hn x hx
 ·exact h x (Cj hx)
theorem apm {cs new:List AV}{o:Nat} (hle:o+new.length<=cs.length):(overwrite cs o new).length=cs.length:=by
 simp[overwrite];omega
theorem agN (cells new:Array Value) (off:Nat) (hle:off+new.size<=cells.size):
  (new.zipIdx.foldl (fun cs (c,j)=>cs.setIfInBounds (off+j) c) cells).toList=cells.toList.take off++(new.toList++cells.toList.drop (off+new.toList.length)):=by
 have h:=Go.Great.foldl_set off new.toList 0 cells
 have e:new.zipIdx.foldl (fun cs (c,j)=>cs.setIfInBounds (off+j) c) cells=(new.toList.zipIdx 0).foldl (fun cs (x:Value×Nat)=>cs.setIfInBounds (off+x.2) x.1) cells:=by
  rw[<-Array.foldl_toList];simp
 rw[e]
 apply List.ext_getElem?
 intro k
 rw[Array.getElem?_toList,h.2 k]
 simp only[Nat.add_zero]
 have yM:new.toList.length=new.size:=by simp
 by_cases h1:k<off
 ·rw[if_neg (by omega),Ct (by simp;omega),BP,if_pos h1,Array.getElem?_toList]
 ·rw[CE (by simp;omega),A9,Nat.min_eq_left (by simp;omega)]
  by_cases h2:k - off<new.toList.length
  ·rw[if_pos (by omega),Ct h2]
  ·rw[if_neg (by omega),CE (by omega),Cf,Array.getElem?_toList]
   congr 1;omega
def Ea (fm:FM) (ts:List Ak):List (Nat×AV)->List (Nat×Value)->Prop
 |[],[]=>True
 |(i,x)::l,(j,v)::m=>i=j/\VR fm ts x v/\Ea fm ts l m
 |_,_=>False
theorem ac6 {fl place:Nat->Option (Nat×Nat)} (hp:∀ i x,fl i=some x->place i=some x):∀ (parts:List (Nat×AV)) (ps:List (Nat×Value)) (cs cs':List AV) (cells:Array Value),
  Ea fm ts parts ps->Au fm ts cs cells.toList->(∀ x∈cs,x.flat=true)->sV fl cs parts=some cs'->
  ∃ r,Instr.fill place cells ps=some r/\Au fm ts cs' r.toList/\∀ x∈cs',x.flat=true
 |[],[],cs,cs',cells,_,hv,hf,e=>by
  simp only[sV,oE]at e;subst e
  exact⟨cells,rfl,hv,hf⟩
 |[],_::_,_,_,_,h,_,_,_=>h.elim
 |(_,_)::_,[],_,_,_,h,_,_,_=>h.elim
 |(i,x)::l,(j,v)::m,cs,cs',cells,h,hv,hf,e=>by
  obtain⟨rfl,hx,hr⟩:=h
  simp only[sV]at e
  split at e
  ·cases e
  ·rename_i off size dA
   split at e
   ·rename_i vc oB
    split at e
    ·rename_i hle
     obtain⟨hl,hle⟩:=hle
     obtain⟨h1,h2⟩:=hx.parts oB
     have hs:v.cells.size=size:=by have:=h1.1;simp at this;omega
     have ca:cells.size=cs.length:=by have:=hv.1;simp at this;omega
     have ih:=ac6 hp l m (overwrite cs off vc) cs' (v.cells.zipIdx.foldl (fun cs (c,j)=>cs.setIfInBounds (off+j) c) cells) hr
      (by rw[agN _ _ _ (by omega)];exact qu hv h1 (by omega)) (qv hf h2) e
     obtain⟨r,h3,h4⟩:=ih
     refine⟨r,?_,h4⟩
     simp only[Instr.fill,hp _ _ dA]
     rw[if_neg (by simp[hs];omega)]
     exact h3
    ·cases e
   ·cases e
theorem agJ:∀ (fs:List Field) (l:List (Nat×Nat×Bool)),nV P fs l=true->
  fs.mapM (fun f=>(P.info? f.type).map fun i=>(f.offset,i.size))=some (l.map fun x=>(x.1,x.2.1))
 |[],[],_=>rfl
 |[],_::_,h=>by simp[nV]at h
 |_::_,[],h=>by simp[nV]at h
 |f::fs,(o,s,a)::l,h=>by
  simp only[nV,A7,beq_iff_eq]at h
  obtain⟨⟨⟨⟨h1,h0⟩,h2⟩,h3⟩,h4⟩:=h
  have ih:=agJ fs l h4
  split at h2
  ·rename_i inf ba
   have hs:inf.size=s:=by simpa using h2
   simp[List.mapM_cons,ba,ih,h1,hs]
  ·cases h2
theorem akv (hT:AQ P T) (ht:T t=some ti) {parts:List (Nat×AV)}{ps:Array (Nat×Value)}{y:AV} (hp:Ea fm ts parts ps.toList) (e:aaB ti parts=some y):
  ∃ u,(Instr.build t ps).run P w=.ok u w/\VR fm ts y u:=by
 obtain⟨i,hi,aw,_,z,hz,im⟩:=(hT.ok ht).info
 have hzf:=(hT.ok ht).aki
 unfold aaB at e
 split at e
 ·rename_i hd
  obtain⟨fs,hu,dA⟩:=hT.struct ht hd
  simp only[mS]at e
  obtain⟨cs,fO,rfl⟩:=e
  obtain⟨r,h1,h2,h3⟩:=ac6 (place:=((ti.fl.map fun x=>(x.1,x.2.1)).toArray[·]?)) (by
   intro i x h;simpa using h) parts ps.toList _ _ _ hp (im fm ts) hzf fO
  refine⟨.agg r,run_build w t ps r ?_,.agg _ _ (by simpa using h2.1) h3 (fun i x v a b=>h2.2 i x v a (by simpa using b))⟩
  simp only[Program.built,hi,hu,hz,agJ _ _ dA]
  exact h1
 ·rename_i n el hd
  obtain⟨hu,⟨ie,hie,anP,_⟩,_⟩:=hT.array ht hd
  simp only[mS]at e
  obtain⟨cs,fO,rfl⟩:=e
  obtain⟨r,h1,h2,h3⟩:=ac6 (place:=fun i=>some (i*ie.size,ie.size)) (by
   intro i x h;rw[anP];exact h) parts ps.toList _ _ _ hp (im fm ts) hzf fO
  refine⟨.agg r,run_build w t ps r ?_,.agg _ _ (by simpa using h2.1) h3 (fun i x v a b=>h2.2 i x v a (by simpa using b))⟩
  simp only[Program.built,hi,hu,hz,hie]
  exact h1
 ·cases e
theorem afK:∀ (es:List (List AV)) (l:List UInt8) (us:List Value),bytesOf es=some l->Au fm ts es.flatten us->
  ∃ ns:List Int,us=ns.map (Value.int .u8)/\l=ns.map fun n=>UInt8.ofNat n.toNat
 |[],l,us,h,hv=>by
  simp only[bytesOf,oE]at h;subst h
  have:us=[]:=by have:=hv.1;cases us with|nil=>rfl|cons=>simp at this
  subst this
  exact⟨[],rfl,rfl⟩
 |c::es,l,us,h,hv=>by
  simp only[bytesOf]at h
  split at h
  ·rename_i b l' hb hl
   obtain rfl:=oi h
   unfold byteOf at hb
   split at hb
   ·rename_i n
    obtain rfl:=oi hb
    cases us with
    |nil=>have:=hv.1;simp at this
    |cons u us=>
     have h1:VR fm ts (.int .u8 n) u:=hv.2 0 _ _ rfl rfl
     cases h1
     obtain⟨ns,h2,h3⟩:=afK es l' us hl ⟨by simpa using hv.1,fun i x v a b=>hv.2 (i+1) x v (by simpa using a) (by simpa using b)⟩
     exact⟨n::ns,by simp[h2],by simp[h3]⟩
   ·cases hb
  ·cases h
theorem agL:∀ (ns:List Int) (s:ByteArray),ns.foldl (fun r n=>r.push (UInt8.ofNat n.toNat)) s=⟨s.data++(ns.map fun n=>UInt8.ofNat n.toNat).toArray⟩
 |[],s=>by simp
 |n::ns,s=>by
  rw[List.foldl_cons,agL ns]
  simp[ByteArray.push]
theorem akB (hT:AQ P T) {src dst:TypeId}{si di:TI} (hs:T src=some si) (hd:T dst=some di) (h:HR N0 W0 fm ts H w) {x y:AV}{v:Value} (hv:VR fm ts x v) (e:kI T H.get si di x=some y):
  ∃ u,(convert src dst v).run P w=.ok u w/\VR fm ts y u:=by
 unfold kI at e
 split at e
 ·rename_i k hk
  have hu:=hT.int hd hk
  split at e
  ·rename_i k' k'' n eQ
   have ry:=hT.int hs eQ
   cases hv
   obtain rfl:=oi e
   exact⟨_,by simp[convert,run_underlying hu,run_underlying ry,Conv.intToInt],.int _ _⟩
  ·cases e
 ·rename_i hk
  have hu:=hT.str hd hk
  split at e
  ·rename_i eQ
   have ry:=hT.str hs eQ
   split at e
   ·cases hv
    obtain rfl:=oi e
    exact⟨_,by simp[convert,run_underlying hu,run_underlying ry],.str _⟩
   ·cases e
  ·rename_i el eQ
   obtain⟨ry,fP⟩:=hT.slice hs eQ
   split at e
   ·rename_i ti hti
    split at e
    ·rename_i hb
     have hue:=hT.int hti hb
     split at e
     ·rename_i h1
      simp only[Option.bind_eq_some_iff,mS]at e
      obtain⟨es,n9,l,hl,rfl⟩:=e
      obtain⟨a,cp,us,rfl,ho,bj,_,bu⟩:=h.elems hv n9
      obtain⟨ns,rfl,rfl⟩:=afK _ _ _ hl bj
      have hlen:es.length=ns.length:=by
       have h1:=j8 1 es ho
       have h2:=bj.1
       simp at h2 h1;omega
      have hr:∀ a cp,(∀ j u,(ns.map (Value.int .u8))[j]?=some u->∃ ad,a=some ad/\w.cell? (ad.add j)=some u)->(Conv.bytesToString (.slice a es.length cp)).run P w=.ok (.string ⟨(ns.map fun n=>UInt8.ofNat n.toNat).toArray⟩) w:=by
       intro a cp bu
       cases a with
       |none=>
        cases ns with
        |nil=>simp[Conv.bytesToString];rfl
        |cons n ns=>obtain⟨_,h,_⟩:=bu 0 _ rfl;cases h
       |some ad=>
        have hc:∀ j u,(ns.map (Value.int .u8))[j]?=some u->w.cell? (ad.add j)=some u:=by
         intro j u hu;obtain⟨_,h,h2⟩:=bu j u hu;cases h;exact h2
        have:=run_loadCells_list (P:=P) w ad _ hc
        rw[run_bytesToString w ad es.length cp ns (by rw[hlen];simpa using this),agL]
        simp
      exact⟨_,by rw[run_convert_bytes_string w src dst el _ _ _ ry hue hu];exact hr _ _ bu,.str _⟩
     ·cases e
    ·cases e
   ·cases e
  ·cases e
 ·cases e
end
theorem w8 {ts:List Ak}:∀ {l k:Nat}{x:TB},tb ts l k=some x->cV ts l k x=ts:=by
 induction ts with
 |nil=>intro l k x h;rfl
 |cons t ts ih=>
  intro l k x h
  cases l with
  |zero=>
   simp only[cV,List.cons.injEq,and_true]
   funext j
   split
   ·rename_i e;subst e;exact h.symm
   ·rfl
  |succ l=>simp only[cV];rw[ih h]
theorem amM {sz:Nat}{es:List (List AV)} (ho:dk es sz) {i o:Nat}{c:List AV}{x:AV} (h1:es[i]?=some c) (h2:c[o]?=some x):es.flatten[i*sz+o]?=some x:=by
 have hc:c.length=sz:=ho c (AW h1)
 have ae:o<sz:=by rw[<-hc];exact(gS.1 h2).1
 have hp:0<sz:=by omega
 rw[flat_get sz es ho,Nat.mul_comm,Nat.mul_add_div hp,Nat.div_eq_of_lt ae,Nat.mul_add_mod,Nat.mod_eq_of_lt ae]
 simp[h1,h2]
section
variable {P:Program}{T:AM}{N0:Nat}{W0:World}{fm:FM}{ts:List Ak}{H:Heap}{w:World}{t:TypeId}{ti:TI}
theorem Dj.flat {et esz:Nat}{es:List (List AV)}{c cap:Nat} (h:Dj fm w et esz es c cap):
  ∃ cells,w.heap[c]?=some (.cells cells et (0,0))/\cells.size=cap*esz/\es.length<=cap/\cap<=maxLen/\dk es esz/\0<esz/\
   Au fm [] es.flatten (cells.toList.take (es.length*esz))/\∀ x∈es.flatten,x.flat=true:=by
 obtain⟨cells,c1,c2,c3,c4,c5,c6,c7⟩:=h
 have hlen:=j8 esz es c5
 have hle:es.length*esz<=cells.size:=by rw[c2];exact BU _ c3
 have jg:∀ (j:Nat) (x:AV),es.flatten[j]?=some x->∃ v,cells[j]?=some v/\x.flat=true/\VR fm [] x v:=by
  intro j x hx
  have hj:j<cells.size:=by have:=(gS.1 hx).1;omega
  have iS:=hx
  rw[flat_get esz es c5,Option.bind_eq_some_iff]at iS
  obtain⟨cc,h1,h2⟩:=iS
  have e:j / esz*esz+j % esz=j:=by rw[Nat.mul_comm];exact Nat.div_add_mod j esz
  have hv:=Bv hj
  exact⟨_,hv,c7 _ cc _ x _ h1 h2 (by rw[e];exact hv)⟩
 refine⟨cells,c1,c2,c3,c4,c5,c6,⟨by simp[hlen];omega,?_⟩,?_⟩
 ·intro j x v hx hv
  obtain⟨u,h1,_,h2⟩:=jg j x hx
  rw[BP]at hv
  split at hv
  ·rw[Array.getElem?_toList,h1]at hv;obtain rfl:=oi hv;exact h2
  ·cases hv
 ·intro x hx
  obtain⟨j,hj⟩:=BD.1 hx
  obtain⟨_,_,h1,_⟩:=jg j x hj
  exact h1
theorem Dj.of {et esz:Nat}{es:List (List AV)}{c cap:Nat}{cells:Array Value}{us rest:List Value} (c1:w.heap[c]?=some (.cells cells et (0,0))) (c2:cells.size=cap*esz) (c3:es.length<=cap) (c4:cap<=maxLen)
  (c5:dk es esz) (c6:0<esz) (hv:Au fm [] es.flatten us) (hf:∀ x∈es.flatten,x.flat=true) (hc:cells.toList=us++rest):Dj fm w et esz es c cap:=by
 refine⟨cells,c1,c2,c3,c4,c5,c6,?_⟩
 intro i cc o x v h1 h2 h3
 have hx:=amM c5 h1 h2
 refine⟨hf x (AW hx),hv.2 _ x v hx ?_⟩
 have ae:i*esz+o<us.length:=by rw[<-hv.1];exact(gS.1 hx).1
 rw[<-Array.getElem?_toList,hc,Ct ae]at h3
 exact h3
theorem acm {B:Nat} (w:World) (g:Nat) (cs:Array Value) (h:B<=g):Below B w (w.setRow g cs):=
 ⟨rfl,rfl,rfl,by simp,fun k hk=>setRow_other w g k cs (by omega)⟩
theorem HR.ah1 (h:HR N0 W0 fm ts H w) {c:Nat} (hc:w.heap.size<=c) (o:Nat):fm c o=none:=by
 cases hf:fm c o with
 |none=>rfl
 |some v=>have:=World.block_lt_of_cell? w _ (h.bO _ _ _ hf);simp at this;omega
theorem HR.abM (h:HR N0 W0 fm ts H w) {l k c:Nat}{cs cs':List AV}{vs':List Value} (hg:H.get l k=some (.box cs)) (ht:tb ts l k=some (.box c))
  (hv:Au fm (ts.drop l) cs' vs') (hf:∀ x∈cs',x.flat=true):HR N0 W0 fm ts (H.put l k (some (.box cs'))) (w.setRow c vs'.toArray):=by
 have hb:=h.al l k _ hg
 rw[ht]at hb
 cases hb with
 |box _ _ hN hB=>
  obtain⟨cells,et,c1,c2,c3⟩:=hB
  have:=h.w9 (w':=w.setRow c vs'.toArray) (l:=l) (k:=k) (c:=c) (x:=.box c) (b:=.box cs') (Heap.rh H _ _ _ hg) rfl (fun i hi _=>setRow_other w c i _ hi) (acm w c _ hN) (fun o ho=>by rw[c1]at ho;cases ho;rfl) (by rw[ht];exact Bl.refl _)
   (fun l' k' b' g' t'=>by
    have:=h.inj l' k' l k b' _ c g' hg t' (by rw[ht];rfl)
    exact this) (fun o=>h.dh l k _ c o hg (by rw[ht];rfl)) (by
    rw[w8 ht]
    refine .box c cs' hN ⟨_,et,setRow_heap w c cells _ et _ c1,by simp[hv.1],?_⟩
    intro o x v a b
    exact⟨hf x (AW a),hv.2 o x v a (by simpa using b)⟩)
  rwa [w8 ht]at this
theorem HR.wu (h:HR N0 W0 fm ts H w) {l k g c cap et esz:Nat}{es es':List (List AV)}{vs' us rest:List Value} (hg:H.get l k=some (.arr et esz es)) (ht:tb ts l k=some (.arr g (some (c,cap))))
  (hgl:es.length<=es'.length) (bU:es'.length<=cap) (ho:dk es' esz) (aw:vs'.length=cap*esz)
  (hv:Au fm [] es'.flatten us) (hf:∀ x∈es'.flatten,x.flat=true) (hc:vs'=us++rest):
  HR N0 W0 fm (cV ts l k (.arr es'.length (some (c,cap)))) (H.put l k (some (.arr et esz es'))) (w.setRow c vs'.toArray):=by
 have hb:=h.al l k _ hg
 rw[ht]at hb
 obtain⟨ke,_,hA⟩:=hb.gb
 obtain⟨hA,hN⟩:=hA c cap rfl
 obtain⟨cells,c1,c2,c3,c4,c5,c6,_⟩:=hA
 refine h.w9 (w':=w.setRow c vs'.toArray) (c:=c) (Heap.rh H _ _ _ hg) rfl (fun i hi _=>setRow_other w c i _ hi) (acm w c _ hN) (fun o ho=>by rw[c1]at ho;cases ho;rfl) ?_
   (fun l' k' b' g' t'=>h.inj l' k' l k b' _ c g' hg t' (by rw[ht];rfl)) (fun o=>h.dh l k _ c o hg (by rw[ht];rfl)) ?_
 ·rw[ht]
  by_cases he:g=es'.length
  ·subst he;exact Bl.refl _
  ·exact .inr (.inr ⟨_,_,rfl,by omega⟩)
 ·exact .arr et esz es' c cap hN (.of (setRow_heap w c cells _ et _ c1) (by simpa using aw) bU c4 ho c6 hv hf (by simpa using hc))
theorem HR.vY (h:HR N0 W0 fm ts H w) {l k cap et esz:Nat}{es:List (List AV)}{cells:Array Value}{us rest:List Value} (hl:l<H.length)
  (hle:Bl (tb ts l k) (some (.arr es.length (some (w.heap.size,cap))))) (c2:cells.size=cap*esz) (c3:es.length<=cap) (c4:cap<=maxLen) (c5:dk es esz) (c6:0<esz)
  (hv:Au fm [] es.flatten us) (hf:∀ x∈es.flatten,x.flat=true) (hc:cells.toList=us++rest):
  HR N0 W0 fm (cV ts l k (.arr es.length (some (w.heap.size,cap)))) (H.put l k (some (.arr et esz es))) (w.alloc (.cells cells et)):=
 h.w9 (c:=w.heap.size) hl rfl (fun i _ hi=>heap_alloc_old w _ i hi) ((Below.refl N0 w).alloc h.size _) (fun o ho=>by simp at ho) hle
  (fun l' k' b' g' t'=>by have:=((h.al l' k' b' g').lt t').1;omega) (h.ah1 (Bd _))
  (.arr et esz es w.heap.size cap h.size (.of (heap_alloc_new w _) c2 c3 c4 c5 c6 hv hf hc))
theorem ab5:∀ (sc:List (Nat×TypeId×Nat)) (cs:List AV) (vs:List Value) (kb:Nat) (ts:List Ak) (H:Heap),HR N0 W0 fm ts H w->0<H.length->(∀ k,kb<=k->k<kb+sc.length->tb ts 0 k=none)->
  Au fm ts cs vs->(∀ x∈cs,x.flat=true)->
  ∃ ts',HR N0 W0 fm ts' (H.bL (lx cs kb sc).2) w/\Au fm ts' (lx cs kb sc).1 vs/\(∀ x∈(lx cs kb sc).1,x.flat=true)/\As ts ts'/\
   (∀ l k,(l≠0\/k<kb\/kb+sc.length<=k)->tb ts' l k=tb ts l k)/\(∀ l k,(l≠0\/k<kb\/kb+sc.length<=k)->(H.bL (lx cs kb sc).2).get l k=H.get l k)
 |[],cs,vs,kb,ts,H,h,_,_,hv,hf=>⟨ts,h,hv,hf,As.refl _,fun _ _ _=>rfl,fun _ _ _=>rfl⟩
 |(o,e,s)::r,cs,vs,kb,ts,H,h,hH,hk,hv,hf=>by
  unfold lx
  split
  ·rename_i ho
   have ij:tb ts 0 kb=none:=hk kb (Bd _) (by simp)
   have h1:=h.empty e s ij hH
   have ae:0<ts.length:=by rw[h.len];exact hH
   have ht1:As ts (cV ts 0 kb (.arr 0 none)):=As.set (by rw[ij];trivial)
   have rA:Au fm (cV ts 0 kb (.arr 0 none)) (cs.set o (.loc 0 kb s 0 0 0)) vs:=by
    refine⟨by simp[hv.1],?_⟩
    intro i x v hx hvv
    rw[List.getElem?_set]at hx
    split at hx
    ·rename_i he
     subst he
     split at hx
     ·obtain rfl:=oi hx
      have:=hv.2 o _ v ho hvv
      cases this
      exact .cv 0 kb s _ (by rw[ek,if_pos ⟨rfl,rfl,ae⟩])
     ·cases hx
    ·exact(hv.2 i x v hx hvv).mono (AZ.refl _) ht1
   have hf1:∀ x∈cs.set o (.loc 0 kb s 0 0 0),x.flat=true:=by
    intro x hx
    rcases List.mem_or_eq_of_mem_set hx with hx|rfl
    ·exact hf x hx
    ·rfl
   obtain⟨ts',a1,a2,a3,a4,a5,a6⟩:=ab5 r _ vs (kb+1) _ _ h1 (by simpa using hH) (by
    intro k h1 h2
    rw[ek,if_neg (by omega)]
    exact hk k (by omega) (by simp;omega)) rA hf1
   refine⟨ts',a1,a2,a3,ht1.trans a4,?_,?_⟩
   ·intro l k nj
    simp only[AA]at nj
    rw[a5 l k (by omega),ek,if_neg (by simp only[AA]at *;omega)]
   ·intro l k nj
    simp only[AA]at nj
    simp only[Heap.bL]
    rw[a6 l k (by omega),Heap.pH,if_neg (by omega)]
  ·obtain⟨ts',a1,a2,a3,a4,a5,a6⟩:=ab5 r cs vs kb ts H h hH (fun k h1 h2=>hk k h1 (by simp;omega)) hv hf
   refine⟨ts',a1,a2,a3,a4,?_,?_⟩
   ·intro l k nj
    simp only[AA]at nj
    exact a5 l k (by omega)
   ·intro l k nj
    simp only[AA]at nj
    exact a6 l k (by omega)
theorem ahW (hT:AQ P T) (ht:T t=some ti) (h:HR N0 W0 fm ts H w) (hH:0<H.length) {kb:Nat} (hk:∀ k,kb<=k->k<kb+16->tb ts 0 k=none) {cs:List AV}{v:Value}{d:De} (et:TypeId)
  (hv:Au fm ts cs v.cells.toList) (hf:∀ x∈cs,x.flat=true) (e:zA kb ti cs=some d) {r:Result Next} (hr:r=.ok (.value (.pointer (some ⟨w.heap.size,0,none⟩))) (w.alloc (.cells v.cells et))):
  BN N0 W0 fm ts H w kb r d:=by
 unfold zA at e
 split at e
 ·obtain rfl:=oi e
  have hsc:=(hT.ok ht).sc
  obtain⟨ts',a1,a2,a3,a4,a5,a6⟩:=ab5 ti.sc cs _ (kb+1) ts H h hH (fun k h1 h2=>hk k (by omega) (by omega)) hv hf
  have eQ:tb ts' 0 kb=none:=by rw[a5 0 kb (by omega)];exact hk kb (Bd _) (by omega)
  have ae:0<ts'.length:=by rw[a1.len];simpa using hH
  have hle:As ts' (cV ts' 0 kb (.box w.heap.size)):=As.set (by rw[eQ];trivial)
  have h2:=a1.fresh (cells:=v.cells) (et:=et) (k:=kb) (x:=.box w.heap.size) (b:=.box (lx cs (kb+1) ti.sc).1) (by simpa using hH) eQ rfl (by
   refine .box _ _ h.size ⟨_,et,heap_alloc_new w _,by have:=a2.1;simp at this;omega,?_⟩
   intro o x u hx hu
   exact⟨a3 x (AW hx),(a2.2 o x u hx (by simpa using hu)).mono (AZ.refl _) hle⟩)
  refine⟨fm,_,_,_,.inl hr,?_,?_,AN.refl _ _,a4.trans hle,?_⟩
  ·simp only[Heap.oN,Heap.bL]
   exact h2
  ·exact .ptr 0 kb 0 _ (by rw[ek,if_pos ⟨rfl,rfl,ae⟩])
  ·intro l k ee aE
   rw[ek,if_neg (by omega),a5 l k (by omega)]
   exact aE
 ·cases e
theorem afm (h:HR N0 W0 fm ts H w) (hH:0<H.length) {kb:Nat} (hk:∀ k,kb<=k->k<kb+16->tb ts 0 k=none) (e s:Nat) {r:Result Next} (hr:r=.ok (.value (.slice none 0 0)) w):
  BN N0 W0 fm ts H w kb r ⟨.loc 0 kb s 0 0 0,[(0,kb,some (.arr e s []))]⟩:=by
 have ij:=hk kb (Bd _) (by omega)
 have ae:0<ts.length:=by rw[h.len];exact hH
 refine⟨fm,_,w,_,.inl hr,h.empty e s ij hH,.cv 0 kb s _ (by rw[ek,if_pos ⟨rfl,rfl,ae⟩]),AN.refl _ _,As.set (by rw[ij];trivial),?_⟩
 intro l k ee aE
 rw[ek,if_neg (by omega)]
 exact aE
theorem acZ (h:HR N0 W0 fm ts H w) (hH:0<H.length) {kb:Nat} (hk:∀ k,kb<=k->k<kb+16->tb ts 0 k=none) (e s:Nat) {a:Option Addr}{r:Result Next} (hr:r=.ok (.value (.slice a 0 0)) w):
  BN N0 W0 fm ts H w kb r ⟨.loc 0 kb s 0 0 0,[(0,kb,some (.arr e s []))]⟩:=by
 have ij:=hk kb (Bd _) (by omega)
 have ae:0<ts.length:=by rw[h.len];exact hH
 refine⟨fm,_,w,_,.inl hr,h.empty e s ij hH,.cv 0 kb s _ (by rw[ek,if_pos ⟨rfl,rfl,ae⟩]),AN.refl _ _,As.set (by rw[ij];trivial),?_⟩
 intro l k ee aE
 rw[ek,if_neg (by omega)]
 exact aE
theorem amr (hT:AQ P T) (ht:T t=some ti) (h:HR N0 W0 fm ts H w) (hH:0<H.length) {kb:Nat} (hk:∀ k,kb<=k->k<kb+16->tb ts 0 k=none) {x:AV}{v v0 v1 v2:Value}{k1 k2:IntKind}{d:De}
  (hv:VR fm ts x v) (rA:VR fm ts (.int k1 0) v1) (ze:VR fm ts (.int k2 0) v2) (e:aa1 kb ti x=some d) {r:Result Next} (hr:∀ v w',(Instr.sliceAt t v0 none (some v1) (some v2)).run P w=.ok v w'->r=.ok (.value v) w') (h0:v0=v):BN N0 W0 fm ts H w kb r d:=by
 subst h0
 unfold aa1 at e
 split at e
 ·rename_i el hd
  obtain⟨bW,⟨inf,ba,aw,_,_⟩,_⟩:=hT.slice ht hd
  cases rA
  cases ze
  have run:∀ (p:Option Addr) (n cp:Nat),(Instr.sliceAt t (.slice p n cp) none (some (.int k1 0)) (some (.int k2 0))).run P w=.ok (.slice p 0 0) w:=by
   intro p n cp
   simp[Instr.sliceAt,run_underlying bW,Instr.slice,Instr.sliceBounds,Instr.sliceBound,asIntOf,sizeOf,typeInfo,ba,aw]
  split at e
  ·cases hv
   obtain rfl:=oi e
   exact acZ h hH hk _ _ (hr _ _ (run _ _ _))
  ·obtain rfl:=oi e
   cases hv<;>exact acZ h hH hk _ _ (hr _ _ (run _ _ _))
  ·obtain rfl:=oi e
   cases hv<;>exact acZ h hH hk _ _ (hr _ _ (run _ _ _))
  ·cases e
 ·cases e
theorem Au.replicate {z:List AV}{zv:List Value} (h:Au fm ts z zv):∀ n,Au fm ts (List.replicate n z).flatten (List.replicate n zv).flatten
 |0=>⟨rfl,fun i x v h=>by simp at h⟩
 |n+1=>by simp only[List.replicate_succ,Cu];exact h.append (Au.replicate h n)
theorem zz (z:Array Value) (m:Nat) (hz:0<z.size):(madeCells z (m*z.size)).toList=(List.replicate m z.toList).flatten:=by
 apply List.ext_getElem?
 intro j
 have ho:∀ c∈List.replicate m z.toList,c.length=z.size:=by intro c hc;rw[List.eq_of_mem_replicate hc];simp
 have key:∀ (m j:Nat),((List.replicate m z.toList).flatten)[j]?=if j<m*z.size then z.toList[j % z.size]? else none:=by
  intro m
  induction m with
  |zero=>intro j;simp
  |succ m ih=>
   intro j
   simp only[List.replicate_succ,Cu]
   by_cases hj:j<z.size
   ·rw[Ct (by simpa using hj),Nat.mod_eq_of_lt hj,if_pos (by rw[Nat.add_mul];omega)]
   ·rw[CE (by simp;omega),ih,Array.length_toList]
    have h2:j % z.size=(j - z.size) % z.size:=by rw[Nat.mod_eq_sub_mod (Nat.le_of_not_lt hj)]
    rw[h2]
    by_cases h3:j - z.size<m*z.size
    ·rw[if_pos h3,if_pos (by rw[Nat.add_mul];omega)]
    ·rw[if_neg h3,if_neg (by rw[Nat.add_mul];omega)]
 rw[key]
 unfold madeCells
 rw[Array.toList_map,Bx,Array.toList_range]
 by_cases hj:j<m*z.size
 ·have hm:j % z.size<z.size:=Nat.mod_lt _ hz
  rw[List.getElem?_range hj,if_pos hj,Array.getElem?_toList]
  simp[Array.getElem!_eq_getD,hm]
 ·rw[if_neg hj,CL (by simp;omega)];rfl
theorem vZ {z:List AV}{s:Nat} (h:z.length=s) (n:Nat):dk (List.replicate n z) s:=by
 intro c hc;rw[List.eq_of_mem_replicate hc];exact h
theorem xP {z:List AV} (h:∀ x∈z,x.flat=true) (n:Nat):∀ x∈(List.replicate n z).flatten,x.flat=true:=by
 intro x hx
 obtain⟨c,h1,h2⟩:=List.mem_flatten.1 hx
 rw[List.eq_of_mem_replicate h1]at h2
 exact h x h2
theorem ap7 {α:Type} (z:List α) (l c:Nat) (h:l<=c):(List.replicate c z).flatten=(List.replicate l z).flatten++(List.replicate (c - l) z).flatten:=by
 rw[<-List.flatten_append,List.replicate_append_replicate];congr 2;omega
theorem amq (hT:AQ P T) (ht:T t=some ti) (h:HR N0 W0 fm ts H w) (hH:0<H.length) {kb:Nat} (hk:∀ k,kb<=k->k<kb+16->tb ts 0 k=none) {x y:AV}{v u:Value}{d:De}
  (hv:VR fm ts x v) (hu:VR fm ts y u) (e:aaZ kb ti x y=some d) {r:Result Next} (hr:∀ a w',(Instr.makeSlice t v u).run P w=.ok a w'->r=.ok (.value a) w'):BN N0 W0 fm ts H w kb r d:=by
 unfold aaZ at e
 split at e
 ·rename_i el l c hd
  cases hv;cases hu
  split at e
  ·rename_i hc
   obtain⟨h0,hlc,hby,fP,tI⟩:=hc
   obtain rfl:=oi e
   obtain⟨bW,⟨inf,ba,aw,hb,z,hz,im⟩,_⟩:=hT.slice ht hd
   have pL:=(hT.ok ht).fB
   have lV:z.cells.size=ti.el:=by have:=(im fm []).1;simp at this;omega
   have bf:=run_make (P:=P) w t el inf z bW ba hz .i64 .i64 l c h0 hlc (by rw[hb,Int.mul_comm];omega) (by omega)
   have ij:=hk kb (Bd _) (by omega)
   have ae:0<ts.length:=by rw[h.len];exact hH
   rw[aw]at bf
   have pU:=zz z.cells c.toNat (by omega)
   rw[lV]at pU
   have hn:=h.vY (l:=0) (k:=kb) (cap:=c.toNat) (et:=el) (esz:=ti.el) (es:=List.replicate l.toNat ti.fB) (cells:=madeCells z.cells (c.toNat*ti.el)) hH (by rw[ij];trivial) (size_madeCells _ _)
    (by simp;omega) (by simp[maxLen];omega) (vZ pL _) fP (Au.replicate (im fm []) _) (xP (hT.ok ht).aa3 _) (by rw[pU,ap7 _ l.toNat c.toNat (by omega)])
   simp only[CU]at hn
   refine⟨fm,_,_,_,.inl (hr _ _ bf),hn,?_,AN.refl _ _,As.set (by rw[ij];trivial),?_⟩
   ·exact .loc 0 kb ti.el 0 l.toNat l.toNat w.heap.size c.toNat c.toNat _ (by rw[ek,if_pos ⟨rfl,rfl,ae⟩]) (by omega) (by omega) (by omega) (fun _=>by simp)
   ·intro l k ee aE
    rw[ek,if_neg (by omega)]
    exact aE
  ·cases e
 ·cases e
end
mutual
theorem adi (G:AR):∀ (x y:AV),x.ai G=some y->∀ p∈x.refs,∃ et esz es,G p.1 p.2=some (.arr et esz es)
 |.loc l k e i n g,y,h=>by
  intro p hp
  simp only[AV.refs,CM]at hp
  subst hp
  simp only[AV.ai]at h
  split at h
  ·rename_i et esz es hg;exact⟨et,esz,es,hg⟩
  ·cases h
 |.bR t v,y,h=>by
  simp only[AV.ai,mS]at h
  obtain⟨a,h1,h2⟩:=h
  simp only[AV.refs];exact adi G v a h1
 |.agg cs,y,h=>by
  simp only[AV.ai,mS]at h
  obtain⟨a,h1,h2⟩:=h
  simp only[AV.refs];exact vg G cs a h1
 |.ar vs,y,h=>by
  simp only[AV.ai,mS]at h
  obtain⟨a,h1,h2⟩:=h
  simp only[AV.refs];exact vg G vs a h1
 |.nil,y,h=>by simp[AV.refs]
 |.bool b,y,h=>by simp[AV.refs]
 |.int k n,y,h=>by simp[AV.refs]
 |.str s,y,h=>by simp[AV.refs]
 |.sl e es,y,h=>by simp[AV.refs]
 |.bG,y,h=>by simp[AV.refs]
 |.bP,y,h=>by simp[AV.refs]
 |.bS,y,h=>by simp[AV.refs]
 |.raw r_,y,h=>by simp[AV.refs]
 |.fn f a b,y,h=>by
  simp only[AV.ai]at h
  split at h
  ·rename_i x z hx hz
   intro p hp
   simp only[AV.refs,Ba]at hp
   rcases hp with hp|hp
   ·exact vg G a x hx p hp
   ·exact vg G b z hz p hp
  ·cases h
 |.bF ..,y,h=>by simp[AV.refs]
 |.ptr ..,y,h=>by simp[AV.refs]
 |.bq ..,y,h=>by simp[AV.refs]
 |.aA ..,y,h=>by simp[AV.refs]
 |.dead,y,h=>by simp[AV.refs]
theorem vg (G:AR):∀ (l ys:List AV),AV.aG G l=some ys->∀ p∈AV.aN l,∃ et esz es,G p.1 p.2=some (.arr et esz es)
 |[],ys,h=>by simp[AV.aN]
 |x::l,ys,h=>by
  simp only[AV.aG]at h
  split at h
  ·rename_i a b ha hb
   intro p hp
   simp only[AV.aN,Ba]at hp
   rcases hp with hp|hp
   ·exact adi G x a ha p hp
   ·exact vg G l b hb p hp
  ·cases h
end
theorem ade {G:AR}{cs ys:List AV} (h:AV.aG G cs=some ys) (hf:∀ x∈cs,x.flat=true):∀ x∈ys,x.flat=true:=by
 intro y hy
 have g:=lI G _ _ h
 obtain⟨i,hi⟩:=BD.1 hy
 have ae:i<cs.length:=by rw[<-g.1];exact(gS.1 hi).1
 obtain⟨y',h1,h2⟩:=g.2 i _ (gG ae)
 rw[hi]at h1;obtain rfl:=oi h1
 rw[aba h2]
 exact hf _ (List.getElem_mem ae)
theorem aqJ {d:Nat}{cs ys:List AV} (h:AV.fZ d cs=some ys) (hf:∀ x∈cs,x.flat=true):∀ x∈ys,x.flat=true:=by
 intro y hy
 have g:=so d _ _ h
 obtain⟨i,hi⟩:=BD.1 hy
 have ae:i<cs.length:=by rw[<-g.1];exact(gS.1 hi).1
 obtain⟨y',h1,h2⟩:=g.2 i _ (gG ae)
 rw[hi]at h1;obtain rfl:=oi h1
 rw[ai4 h2]
 exact hf _ (List.getElem_mem ae)
theorem ai2 {fm:FM}{ts:List Ak}{d:Nat}{cs ys:List AV}{vs:List Value} (h:AV.fZ d cs=some ys) (hv:Au fm ts cs vs):Au fm (ts.drop d) ys vs:=by
 have g:=so d _ _ h
 refine⟨g.1.trans hv.1,?_⟩
 intro i x v hx tU
 have ae:i<cs.length:=by rw[<-g.1];exact(gS.1 hx).1
 obtain⟨y',h1,h2⟩:=g.2 i _ (gG ae)
 rw[hx]at h1;obtain rfl:=oi h1
 exact(hv.2 i _ v (gG ae) tU).un d h2
theorem Au.mono {fm fm':FM}{ts ts':List Ak}{cs:List AV}{vs:List Value} (h:Au fm ts cs vs) (hf:AZ fm fm') (ht:As ts ts'):Au fm' ts' cs vs:=
 ⟨h.1,fun i x v a b=>(h.2 i x v a b).mono hf ht⟩
theorem Au.qq {fm:FM}{ts:List Ak}{cs:List AV}{vs:List Value} (h:Au fm ts cs vs) (hf:∀ x∈cs,x.flat=true):∀ v∈vs,v.oneCell'=true:=by
 intro v hv
 obtain⟨i,hi⟩:=BD.1 hv
 have ae:i<cs.length:=by rw[h.1];exact(gS.1 hi).1
 exact(h.2 i _ v (gG ae) hi).aeh (hf _ (List.getElem_mem ae))
theorem ac9 {sz:Nat}:∀ (es:List (List AV)) (i o:Nat) (c new:List AV),dk es sz->es[i]?=some c->o+new.length<=c.length->
  (es.set i (overwrite c o new)).flatten=overwrite es.flatten (i*sz+o) new
 |[],i,o,c,new,_,h,_=>by simp at h
 |d::es,0,o,c,new,ho,h,hle=>by
  simp only[BV,oE]at h;subst h
  simp only[List.set_cons_zero,Cu,overwrite,Nat.zero_mul,Cq,Cp]
  rw[EX (by omega),DS (by omega)]
 |d::es,i+1,o,c,new,ho,h,hle=>by
  have hd:d.length=sz:=ho d List.mem_cons_self
  simp only[Cb]at h
  have ih:=ac9 es i o c new (fun x hx=>ho x (List.mem_cons_of_mem _ hx)) h hle
  simp only[List.set_cons_succ,Cu,ih]
  simp only[overwrite]
  have e1:(i+1)*sz+o=d.length+(i*sz+o):=by rw[Nat.add_mul,Nat.one_mul,hd];omega
  have e2:d.length+(i*sz+o)+new.length=d.length+(i*sz+o+new.length):=by omega
  rw[e1,List.take_length_add_append,e2,List.drop_length_add_append]
  simp
theorem abK {α:Type} (L us:List α) (off n:Nat) (h:off+us.length<=n) (hn:n<=L.length):
  L.take off++us++L.drop (off+us.length)=((L.take n).take off++(us++(L.take n).drop (off+us.length)))++L.drop n:=by
 have e1:(L.take n).take off=L.take off:=by rw[List.take_take,Nat.min_eq_left (by omega)]
 have e2:L.drop (off+us.length)=(L.take n).drop (off+us.length)++L.drop n:=by
  conv=>lhs;rw[<-C2 n L]
  rw[DS (by simp;omega)]
 rw[e1,e2]
 simp
theorem aiM {sz:Nat}{es:List (List AV)} (ho:dk es sz) (i:Nat) {c:List AV} (hc:c.length=sz):dk (es.set i c) sz:=by
 intro d hd
 rcases List.mem_or_eq_of_mem_set hd with h|rfl
 ·exact ho d h
 ·exact hc
section
variable {P:Program}{T:AM}{N0:Nat}{W0:World}{fm:FM}{ts:List Ak}{H:Heap}{w:World}{t:TypeId}{ti:TI}
theorem HR.acC (h:HR N0 W0 fm ts H w) {l k c:Nat}{cs:List AV} (hg:H.get l k=some (.box cs)) (ht:tb ts l k=some (.box c)):
  ∃ cells et,w.heap[c]?=some (.cells cells et (0,0))/\cells.size=cs.length/\Au fm (ts.drop l) cs cells.toList/\∀ x∈cs,x.flat=true:=by
 have hb:=h.al l k _ hg
 rw[ht]at hb
 cases hb with
 |box _ _ hN hB=>
  obtain⟨cells,et,c1,c2,c3⟩:=hB
  refine⟨cells,et,c1,c2,⟨by simp[c2],fun i x v a b=>(c3 i x v a (by simpa using b)).2⟩,?_⟩
  intro x hx
  obtain⟨i,hi⟩:=BD.1 hx
  have ae:i<cells.size:=by rw[c2];exact(gS.1 hi).1
  exact(c3 i x _ hi (Bv ae)).1
theorem aey {cells:Array Value}{et:TypeId}{c o:Nat}{v:Value}{inf:TypeInfo} (hi:P.info? t=some inf) (aw:v.cells.size=inf.size) (hc:w.heap[c]?=some (.cells cells et (0,0))) (hle:o+v.cells.size<=cells.size)
  (h1:∀ u∈v.cells.toList,u.oneCell'=true):
  (Instr.storeAt t (.pointer (some ⟨c,o,none⟩)) v).run P w=.ok () (w.setRow c (cells.toList.take o++(v.cells.toList++cells.toList.drop (o+v.cells.toList.length))).toArray):=by
 have:=run_storeCells_at P c o et v.cells.toList 0 cells w hc (by simpa using hle) h1
 simp only[Nat.add_zero]at this
 simp only[Instr.storeAt,Instr.sureAddr,storeVar,Sem.run_bind,Sem.run_pure,Result.andThen_ok,sizeOf,typeInfo,run_program,hi,aw,ne_eq,not_true_eq_false,if_false]
 rw[this,Cp]
theorem amt (hT:AQ P T) (ht:T t=some ti) (h:HR N0 W0 fm ts H w) (hH:0<H.length) {kb:Nat} (hk:∀ k,kb<=k->k<kb+16->tb ts 0 k=none) {x:AV}{vc:List AV}{v u:Value}{d:De}
  (hv:VR fm ts x v) (hu:Au fm ts vc u.cells.toList) (hf:∀ x∈vc,x.flat=true) (e:qZ H.get kb ti x vc=some d) {r:Result Next} (hr:∀ w',(Instr.storeAt t v u).run P w=.ok () w'->r=.ok .skip w'):
  BN N0 W0 fm ts H w kb r d:=by
 obtain⟨inf,ba,aw,_,_⟩:=(hT.ok ht).info
 have hsc:=(hT.ok ht).sc
 unfold qZ at e
 split at e
 ·rename_i oC
  have oA:u.cells.size=inf.size:=by have:=hu.1;simp at this;omega
  have hvu:vc.length=u.cells.toList.length:=hu.1
  have abY:∀ fm ts,VR fm ts (.ar []) undef:=fun fm ts=>.ar [] #[] rfl (fun i x v h=>by simp at h)
  split at e
  ·rename_i l k o
   split at e
   ·rename_i cs hg
    cases hv with
    |ptr _ _ _ c aE=>
     split at e
     ·rename_i hle
      obtain⟨cells,et,c1,c2,c3,c4⟩:=h.acC hg aE
      have bf:=aey (P:=P) (w:=w) (t:=t) (o:=o) ba oA c1 (by rw[oA,aw,c2];exact hle) (hu.qq hf)
      split at e
      ·rename_i hl
       subst hl
       obtain rfl:=oi e
       have ee:k<kb\/kb+16<=k:=by
        by_cases ee:k<kb\/kb+16<=k
        ·exact ee
        ·rw[hk k (by omega) (by omega)]at aE;cases aE
       obtain⟨ts',a1,a2,a3,a4,a5,a6⟩:=ab5 ti.sc vc _ kb ts H h hH (fun k h1 h2=>hk k h1 (by omega)) hu hf
       have bm:(H.bL (lx vc kb ti.sc).2).get 0 k=some (.box cs):=by rw[a6 0 k (by omega)];exact hg
       have eE:tb ts' 0 k=some (.box c):=by rw[a5 0 k (by omega)];exact aE
       obtain⟨alI,jA,c1',c2',c3',c4'⟩:=a1.acC bm eE
       rw[c1]at c1'
       obtain⟨rfl,rfl⟩:cells=alI/\et=jA:=by
        have:=oi c1'
        injection this with h1 h2
        exact⟨h1,h2⟩
       have hwl:(lx vc kb ti.sc).1.length=vc.length:=by rw[a2.1,hvu]
       have:=a1.abM bm eE (cs':=overwrite cs o (lx vc kb ti.sc).1) (qu c3' a2 (by omega)) (qv c4' a3)
       refine⟨fm,ts',_,undef,.inr ⟨hr _ bf,rfl⟩,?_,abY _ _,AN.refl _ _,a4,?_⟩
       ·simp only[Heap.oN,Heap.bL]
        exact this
       ·intro l' k' eQ y9
        rw[a5 l' k' (by omega)];exact y9
      ·split at e
       ·rename_i new dw
        obtain rfl:=oi e
        have yM:new.length=vc.length:=(so _ _ _ dw).1
        have:=h.abM hg aE (cs':=overwrite cs o new) (qu c3 (ai2 dw hu) (by omega)) (qv c4 (aqJ dw hf))
        exact⟨fm,ts,_,undef,.inr ⟨hr _ bf,rfl⟩,this,abY _ _,AN.refl _ _,As.refl _,fun _ _ _ h=>h⟩
       ·split at e
        ·rename_i new dw
         obtain rfl:=oi e
         have yM:new.length=vc.length:=(lI _ _ _ dw).1
         have h1:=h.rL (AV.aN vc)
         have bg:(l,k)∉AV.aN vc:=by
          intro hm
          obtain⟨et,esz,es,h2⟩:=vg _ _ _ dw _ hm
          simp only at h2
          rw[hg]at h2;cases h2
         have bm:(H.bL (hX (AV.aN vc))).get l k=some (.box cs):=by rw[vn,if_neg bg];exact hg
         have eE:tb (iB ts (AV.aN vc)) l k=some (.box c):=by rw[mh,if_neg (fun hh=>bg hh.1)];exact aE
         have kf:=(h.aG (AV.aN vc) hu dw (fun _ h=>h))
         have hF:=h.u6 (AV.aN vc)
         have:=h1.abM bm eE (cs':=overwrite cs o new) (qu (c3.mono hF ((As.gone ts _).drop l)) (kf.mono (AZ.refl _) (As.nil _)) (by omega)) (qv c4 (ade dw hf))
         refine⟨_,_,_,undef,.inr ⟨hr _ bf,rfl⟩,?_,abY _ _,h.u7 (AV.aN vc),As.gone _ (AV.aN vc),?_⟩
         ·simp only[Heap.oN,Heap.bL]
          exact this
         ·intro l' k' _ y9
          rw[mh,y9];simp[mK]
        ·cases e
     ·cases e
   ·cases e
  ·rename_i l k esz i o g
   split at e
   ·rename_i et aM es hg
    split at e
    ·rename_i hh
     obtain⟨rfl,ke⟩:=hh
     split at e
     ·rename_i c0 new hc0 dw
      split at e
      ·rename_i hle
       obtain⟨hle,iQ⟩:=hle
       obtain rfl:=oi e
       have hb:=h.al l k _ hg
       cases hv with
       |ey _ _ _ _ _ _ a eE=>rw[eE]at hb;cases hb
       |eA _ _ _ _ _ _ a m' c eE ae=>rw[eE]at hb;have:=hb.gb.1;omega
       |bq _ _ _ _ _ _ c cap eE=>
        rw[eE]at hb
        obtain⟨hA,_⟩:=hb.gb.2.2 c cap rfl
        obtain⟨cells,c1,c2,c3,c4,c5,c6,c7,c8⟩:=hA.flat
        have yM:new.length=vc.length:=(lI _ _ _ dw).1
        have ca:c0.length=aM:=c5 c0 (AW hc0)
        have hi:i<es.length:=(gS.1 hc0).1
        have dA:=j8 aM es c5
        have hmul:(i+1)*aM<=es.length*aM:=BU _ hi
        have tH:es.length*aM<=cells.size:=by rw[c2];exact BU _ c3
        rw[Nat.add_mul,Nat.one_mul]at hmul
        have cD:u.cells.toList.length=vc.length:=hvu.symm
        have bf:=aey (P:=P) (w:=w) (t:=t) (o:=i*aM+o) ba oA c1 (by rw[oA,aw];omega) (hu.qq hf)
        have h1:=h.rL (AV.aN vc)
        have bg:(l,k)∉AV.aN vc:=by
         intro hm
         have:=List.all_eq_true.1 iQ _ hm
         simp at this
        have bm:(H.bL (hX (AV.aN vc))).get l k=some (.arr et aM es):=by rw[vn,if_neg bg];exact hg
        have jJ:tb (iB ts (AV.aN vc)) l k=some (.arr g (some (c,cap))):=by rw[mh,if_neg (fun hh=>bg hh.1)];exact eE
        have kf:=(h.aG (AV.aN vc) hu dw (fun _ h=>h))
        have hF:=h.u6 (AV.aN vc)
        have fR:=ac9 es i o c0 new c5 hc0 (by omega)
        have:=h1.wu bm jJ (es':=es.set i (overwrite c0 o new)) (vs':=cells.toList.take (i*aM+o)++(u.cells.toList++cells.toList.drop (i*aM+o+u.cells.toList.length)))
         (us:=(cells.toList.take (es.length*aM)).take (i*aM+o)++(u.cells.toList++(cells.toList.take (es.length*aM)).drop (i*aM+o+u.cells.toList.length))) (rest:=cells.toList.drop (es.length*aM))
         (by simp) (by simpa using c3) (aiM c5 i (by rw[apm (by omega)];exact ca)) (by simp;simp at cD;omega)
         (by rw[fR];exact qu (c7.mono hF (As.refl _)) kf (by omega))
         (by rw[fR];exact qv c8 (ade dw hf))
         (by rw[<-Cp];exact abK _ _ _ _ (by omega) (by simpa using tH))
        have il:cV (iB ts (AV.aN vc)) l k (.arr (es.set i (overwrite c0 o new)).length (some (c,cap)))=iB ts (AV.aN vc):=by
         apply w8;rw[jJ];simp[ke]
        rw[il]at this
        refine⟨_,_,_,undef,.inr ⟨hr _ bf,rfl⟩,?_,abY _ _,h.u7 (AV.aN vc),As.gone _ (AV.aN vc),?_⟩
        ·simp only[Heap.oN,Heap.bL]
         exact this
        ·intro l' k' _ y9
         rw[mh,y9];simp[mK]
      ·cases e
     ·cases e
    ·cases e
   ·cases e
  ·cases e
 ·cases e
end
end Go.Abs
namespace Go.Abs
open Go Go.RowKit
section
variable {P:Program}{T:AM}{N0:Nat}{W0:World}{fm:FM}{ts:List Ak}{H:Heap}{w:World}{t:TypeId}{ti:TI}
def FH (fm:FM):List (Nat×List AV)->List (Nat×Value)->Prop
 |[],[]=>True
 |(i,x)::l,(j,v)::m=>i=j/\Au fm [] x v.cells.toList/\(∀ y∈x,y.flat=true)/\FH fm l m
 |_,_=>False
theorem apn (c new:List AV) (h:new.length=c.length):overwrite c 0 new=new:=by
 simp[overwrite,h]
theorem agD {sz:Nat}:∀ (parts:List (Nat×List AV)) (ps:List (Nat×Value)) (es es':List (List AV)) (cells:Array Value),
  FH fm parts ps->dk es sz->Au fm [] es.flatten cells.toList->(∀ x∈es.flatten,x.flat=true)->u0 es sz parts=some es'->
  ∃ r,Instr.fill (fun i=>some (i*sz,sz)) cells ps=some r/\dk es' sz/\es'.length=es.length/\Au fm [] es'.flatten r.toList/\∀ x∈es'.flatten,x.flat=true
 |[],[],es,es',cells,_,ho,hv,hf,e=>by
  simp only[u0,oE]at e;subst e
  exact⟨cells,rfl,ho,rfl,hv,hf⟩
 |[],_::_,_,_,_,h,_,_,_,_=>h.elim
 |(_,_)::_,[],_,_,_,h,_,_,_,_=>h.elim
 |(i,x)::l,(j,v)::m,es,es',cells,h,ho,hv,hf,e=>by
  obtain⟨rfl,hx,hxf,hr⟩:=h
  simp only[u0]at e
  split at e
  ·rename_i hh
   obtain⟨hl,hi⟩:=hh
   have hs:v.cells.size=sz:=by have:=hx.1;simp at this;omega
   have dA:=j8 sz es ho
   have ca:cells.size=es.length*sz:=by have:=hv.1;simp only[Array.length_toList]at this;omega
   have hmul:(i+1)*sz<=es.length*sz:=BU _ hi
   rw[Nat.add_mul,Nat.one_mul]at hmul
   have mF:=gG hi
   have b9:(es[i]).length=sz:=ho _ (List.getElem_mem hi)
   have fR:=ac9 es i 0 _ x ho mF (by omega)
   rw[apn _ _ (by omega),Nat.add_zero]at fR
   obtain⟨r,h1,h2,h3,h4⟩:=agD l m (es.set i x) es' (v.cells.zipIdx.foldl (fun cs (c,j)=>cs.setIfInBounds (i*sz+j) c) cells) hr (aiM ho i hl)
    (by rw[fR,agN _ _ _ (by omega)];exact qu hv hx (by omega)) (by rw[fR];exact qv hf hxf) e
   refine⟨r,?_,h2,by simpa using h3,h4⟩
   simp only[Instr.fill]
   rw[if_neg (by simp[hs];omega)]
   exact h1
  ·cases e
theorem agP (h:HR N0 W0 fm ts H w) (r:List (Nat×Nat)):∀ (parts:List (Nat×AV)) (ps:List (Nat×Value)) (cs:List (Nat×List AV)),Ea fm ts parts ps->lH H.get parts=some cs->(∀ p∈jQ parts,p∈r)->
  FH (gm fm w (behind ts H r)) cs ps
 |[],[],cs,_,e,_=>by simp only[lH,oE]at e;subst e;trivial
 |[],_::_,_,h,_,_=>h.elim
 |(_,_)::_,[],_,h,_,_=>h.elim
 |(i,x)::l,(j,v)::m,cs,hp,e,hr=>by
  obtain⟨rfl,hx,hl⟩:=hp
  simp only[lH]at e
  split at e
  ·rename_i vc oB
   split at e
   ·rename_i c' l' kP tD
    obtain rfl:=oi e
    obtain⟨h1,h2⟩:=hx.parts oB
    have vO:AV.aN vc=x.refs:=by
     cases x<;>simp only[AV.cells,oE]at oB<;>first|(subst oB;simp[AV.aN,AV.refs];done)|(cases oB)
    refine⟨rfl,h.aG r h1 kP (fun p hp=>hr p ?_),ade kP h2,agP h r l m l' hl tD (fun p hp=>hr p ?_)⟩
    ·simp only[jQ,Ba];rw[vO]at hp;exact .inl hp
    ·simp only[jQ,Ba];exact .inr hp
   ·cases e
  ·cases e
theorem amk (hT:AQ P T) (ht:T t=some ti) (h:HR N0 W0 fm ts H w) (hH:0<H.length) {kb:Nat} (hk:∀ k,kb<=k->k<kb+16->tb ts 0 k=none) {len:Nat}{parts:List (Nat×AV)}{ps:Array (Nat×Value)}{d:De}
  (hp:Ea fm ts parts ps.toList) (e:qY H.get kb ti len parts=some d) {r:Result Next} (hr:∀ a w',(Instr.buildSlice t len ps).run P w=.ok a w'->r=.ok (.value a) w'):BN N0 W0 fm ts H w kb r d:=by
 unfold qY at e
 split at e
 ·rename_i el hd
  split at e
  ·rename_i hc
   obtain⟨hsm,fP⟩:=hc
   split at e
   ·rename_i cs fO
    split at e
    ·rename_i es n9
     obtain rfl:=oi e
     obtain⟨bW,⟨inf,ba,aw,hb,z,hz,im⟩,_⟩:=hT.slice ht hd
     have pL:=(hT.ok ht).fB
     have lV:z.cells.size=ti.el:=by have:=(im fm []).1;simp at this;omega
     have h1:=h.rL (jQ parts)
     have hF:=h.u6 (jQ parts)
     have hpc:=agP h (jQ parts) parts ps.toList cs hp fO (fun _ h=>h)
     have pU:=zz z.cells len (by omega)
     rw[lV]at pU
     obtain⟨cells,f1,f2,f3,f4,f5⟩:=agD cs ps.toList (List.replicate len ti.fB) es (madeCells z.cells (len*ti.el)) hpc (vZ pL _) (by rw[pU];exact Au.replicate (im _ []) _)
      (xP (hT.ok ht).aa3 _) n9
     have hlen:es.length=len:=by simpa using f3
     have anf:cells.size=len*ti.el:=by have:=f4.1;rw[j8 _ _ f2,hlen]at this;simpa using this.symm
     have bf:(Instr.buildSlice t len ps).run P w=.ok (.slice (some ⟨w.heap.size,0,none⟩) len len) (w.alloc (.cells cells el)):=by
      by_cases h0:len*inf.size=0
      ·have kS:len=0:=by
        rcases Nat.mul_eq_zero.1 h0 with h|h
        ·exact h
        ·omega
       subst kS
       have f1':Instr.fill (fun i=>some (i*inf.size,inf.size)) #[] ps.toList=some cells:=by
        rw[aw]
        have:madeCells z.cells (0*ti.el)=#[]:=by simp[madeCells,Array.range_zero']
        rw[this]at f1;exact f1
       simp[Instr.buildSlice,run_underlying bW,sizeOf,typeInfo,ba,Array.range_zero',f1',newRow]
      ·exact run_buildSlice w t el len ps cells inf z bW ba hz (by rw[aw];omega) h0 (by rw[aw];exact f1)
     have ij:tb (iB ts (jQ parts)) 0 kb=none:=by rw[mh,hk kb (Bd _) (by omega)];simp[mK]
     have ae:0<(iB ts (jQ parts)).length:=by rw[adU,h.len];exact hH
     have tI:len<=maxLen:=by
      have:len*1<=len*ti.el:=Nat.mul_le_mul_left _ fP
      simp[maxLen];omega
     have hn:=h1.vY (l:=0) (k:=kb) (cap:=len) (et:=el) (esz:=ti.el) (es:=es) (cells:=cells) (us:=cells.toList) (rest:=[]) (by simpa using hH) (by rw[ij];trivial) anf
      (by omega) tI f2 fP f4 f5 (by simp)
     rw[hlen]at hn
     refine⟨_,cV (iB ts (jQ parts)) 0 kb (.arr len (some (w.heap.size,len))),_,_,.inl (hr _ _ bf),?_,?_,h.u7 (jQ parts),(As.gone ts _).trans (As.set (by rw[ij];trivial)),?_⟩
     ·simp only[Heap.oN,Heap.bL]
      exact hn
     ·exact .loc 0 kb ti.el 0 len len w.heap.size len len _ (by rw[ek,if_pos ⟨rfl,rfl,ae⟩]) (by omega) (by omega) (by omega) (fun _=>by simp)
     ·intro l k ee aE
      rw[ek,if_neg (by omega),mh,aE];simp[mK]
    ·cases e
   ·cases e
  ·cases e
 ·cases e
theorem nW {sz:Nat}:∀ (es:List (List AV)) (i:Nat),dk es sz->(es.take i).flatten=es.flatten.take (i*sz)
 |[],i,_=>by simp
 |c::es,0,_=>by simp
 |c::es,i+1,h=>by
  have hc:c.length=sz:=h c List.mem_cons_self
  have ih:=nW es i (fun d hd=>h d (List.mem_cons_of_mem _ hd))
  have e:(i+1)*sz=c.length+i*sz:=by rw[Nat.add_mul,Nat.one_mul,hc];omega
  rw[List.take_succ_cons,Cu,Cu,ih,e,List.take_length_add_append]
theorem u3 {sz:Nat}:∀ (es:List (List AV)) (i:Nat),dk es sz->(es.drop i).flatten=es.flatten.drop (i*sz)
 |[],i,_=>by simp
 |c::es,0,_=>by simp
 |c::es,i+1,h=>by
  have hc:c.length=sz:=h c List.mem_cons_self
  have ih:=u3 es i (fun d hd=>h d (List.mem_cons_of_mem _ hd))
  have e:(i+1)*sz=c.length+i*sz:=by rw[Nat.add_mul,Nat.one_mul,hc];omega
  rw[List.drop_succ_cons,Cu,ih,e,List.drop_length_add_append]
theorem HR.abE (h:HR N0 W0 fm ts H w) {l k:Nat}{b:AH} (hg:H.get l k=some b):HR N0 W0 fm ts (H.put l k (some b)) w:=by
 have e1:∀ l' k',(H.put l k (some b)).get l' k'=H.get l' k':=by
  intro l' k'
  rw[Heap.pH]
  split
  ·rename_i hh;obtain⟨rfl,rfl,_⟩:=hh;exact hg.symm
  ·rfl
 exact⟨by simpa using h.len,fun l' k' b hb=>h.al l' k' b (by rw[<-e1];exact hb),fun l1 k1 l2 k2 b1 b2 c g1 g2=>h.inj l1 k1 l2 k2 b1 b2 c (by rw[<-e1];exact g1) (by rw[<-e1];exact g2),h.bO,
  fun l' k' b c o hb=>h.dh l' k' b c o (by rw[<-e1];exact hb),h.dg,h.size,h.cT,h.dZ⟩
theorem Au.take {fm:FM}{ts:List Ak}{cs:List AV}{vs:List Value} (h:Au fm ts cs vs) (n:Nat):Au fm ts (cs.take n) (vs.take n):=by
 refine⟨by simp[h.1],fun i x v a b=>?_⟩
 rw[BP]at a b
 split at a
 ·rename_i hi;rw[if_pos hi]at b;exact h.2 i x v a b
 ·cases a
theorem Au.drop {fm:FM}{ts:List Ak}{cs:List AV}{vs:List Value} (h:Au fm ts cs vs) (n:Nat):Au fm ts (cs.drop n) (vs.drop n):=
 ⟨by simp[h.1],fun i x v a b=>h.2 (n+i) x v (by rw[Cf]at a;exact a) (by rw[Cf]at b;exact b)⟩
theorem oK {sz:Nat}{a b:List (List AV)} (h:dk a sz) (k:dk b sz):dk (a++b) sz:=by
 intro c hc
 rcases Ba.1 hc with hc|hc
 ·exact h c hc
 ·exact k c hc
theorem amL {a b:List AV} (h:∀ x∈a,x.flat=true) (k:∀ x∈b,x.flat=true):∀ x∈a++b,x.flat=true:=by
 intro x hx
 rcases Ba.1 hx with hx|hx
 ·exact h x hx
 ·exact k x hx
theorem aqb {e:TypeId}{inf:TypeInfo} (bW:P.underlying t=some (.slice e)) (ba:P.info? e=some inf) (ty:TypeId) (base a:Option Addr) (n c cp:Nat) (hn:n<=c):
  (Builtin.append_ #[t,t] ty #[.slice base n c,.slice a 0 cp]).run P w=.ok (.slice base n c) w:=by
 cases base<;>cases a<;>simp[Builtin.append_,run_underlying bW,sizeOf,typeInfo,ba,Builtin.lenOf,Builtin.firstCells,hn,loadCells,loadCellsFrom,storeCells]
structure IY (P:Program) (t tx ty e:TypeId) (inf:TypeInfo) (z u:Value) (n:Nat) (us:List Value) (w:World):Prop where
 none:n=0->∀ (base:Option Addr) (m c:Nat),m<=c->(Builtin.append_ #[t,tx] ty #[.slice base m c,u]).run P w=.ok (.slice base m c) w
 nil:us.length=n*inf.size->0<inf.size->0<n->(n:Int)<=9223372036854775807->n*inf.bytes<=281474976710656->(Builtin.append_ #[t,tx] ty #[.slice Option.none 0 0,u]).run P w =
   .ok (.slice (some ⟨w.heap.size,0,Option.none⟩) n (grownCap w n 0 e)) (w.drew.alloc (.cells (us.toArray++Builtin.zeroCells z.cells (grownCap w n 0 e - n)) e))
 grow:us.length=n*inf.size->0<inf.size->0<n->∀ (b:Addr) (dn fH:Nat) (nz:List Value),nz.length=dn*inf.size->(∀ j v,nz[j]?=some v->w.cell? (b.add j)=some v)->fH<dn+n->((dn+n:Nat):Int)<=9223372036854775807->
  Builtin.nextslicecap (dn+n) fH*inf.bytes<=281474976710656->(Builtin.append_ #[t,tx] ty #[.slice (some b) dn fH,u]).run P w =
   .ok (.slice (some ⟨w.heap.size,0,Option.none⟩) (dn+n) (grownCap w (dn+n) fH e))
    (w.drew.alloc (.cells (nz.toArray++us.toArray++Builtin.zeroCells z.cells (grownCap w (dn+n) fH e - (dn+n))) e))
 room:us.length=n*inf.size->0<inf.size->0<n->∀ (g dn fH:Nat) (cur:Array Value),w.heap[g]?=some (.cells cur e (0,0))->(∀ u∈us,u.oneCell'=true)->dn+n<=fH->dn*inf.size+us.length<=cur.size->
  (Builtin.append_ #[t,tx] ty #[.slice (some ⟨g,0,Option.none⟩) dn fH,u]).run P w =
   .ok (.slice (some ⟨g,0,Option.none⟩) (dn+n) fH) (w.setRow g (cur.toList.take (dn*inf.size)++us++cur.toList.drop (dn*inf.size+us.length)).toArray)
theorem acU (hT:AQ P T) (ht:T t=some ti) (h:HR N0 W0 fm ts H w) (hH:0<H.length) {kb:Nat} (hk:∀ k,kb<=k->k<kb+16->tb ts 0 k=none) {tx ty:TypeId}{x y:AV}{v u:Value}{d:De}
  (hv:VR fm ts x v) (y8:∀ new e inf z,iI H.get ti.el y=some new->P.underlying t=some (.slice e)->P.info? e=some inf->inf.size=ti.el->inf.zero=some z->∃ us,dk new ti.el/\Au fm [] new.flatten us/\(∀ x∈new.flatten,x.flat=true)/\IY P t tx ty e inf z u new.length us w)
  (e:j6 H.get kb ti x y=some d) {r:Result Next} (hr:∀ a w',(Builtin.append_ #[t,tx] ty #[v,u]).run P w=.ok a w'->r=.ok (.value a) w'):BN N0 W0 fm ts H w kb r d:=by
 unfold j6 at e
 split at e
 ·rename_i el hd
  obtain⟨bW,⟨inf,ba,aw,hb,z,hz,im⟩,_⟩:=hT.slice ht hd
  have pL:=(hT.ok ht).fB
  have lV:z.cells.size=ti.el:=by have:=(im fm []).1;simp at this;omega
  split at e
  ·rename_i new dw
   obtain⟨us,ho,bj,dA,hR⟩:=y8 new el inf z dw bW ba aw hz
   have cD:us.length=new.length*ti.el:=by rw[<-bj.1];exact j8 _ _ ho
   split at e
   ·
    split at e
    ·rename_i hc
     obtain⟨⟨qe,tI⟩,fP⟩:=hc
     obtain rfl:=oi e
     cases hv
     have ij:=hk kb (Bd _) (by omega)
     have ae:0<ts.length:=by rw[h.len];exact hH
     by_cases hn:new.length=0
     ·have:new=[]:=List.eq_nil_of_length_eq_zero hn
      subst this
      have bf:=hR.none (by simp) none 0 0 (Bd _)
      exact afm h hH hk el ti.el (hr _ _ bf)
     ·have bf:=hR.nil (by rw[aw];exact cD) (by omega) (by omega) (by omega) (by rw[hb];omega)
      have mF:=grownCap_ge w new.length 0 el
      have hle:=grownCap_le_maxLen w new.length 0 el (by simp[maxLen];omega)
      have pV:=(h.drew).vY (l:=0) (k:=kb) (cap:=grownCap w new.length 0 el) (et:=el) (esz:=ti.el) (es:=new) (cells:=us.toArray++Builtin.zeroCells z.cells (grownCap w new.length 0 el - new.length)) (us:=us)
       (rest:=(Builtin.zeroCells z.cells (grownCap w new.length 0 el - new.length)).toList) hH (by rw[ij];trivial) (by
        rw[Array.size_append,size_zeroCells,lV,List.size_toArray,cD,<-Nat.add_mul];congr 1;omega) mF hle ho fP bj dA (by simp)
      refine⟨fm,_,_,_,.inl (hr _ _ bf),pV,?_,AN.refl _ _,As.set (by rw[ij];trivial),?_⟩
      ·exact .loc 0 kb ti.el 0 new.length new.length w.heap.size (grownCap w new.length 0 el) (grownCap w new.length 0 el) _ (by rw[ek,if_pos ⟨rfl,rfl,ae⟩];rfl) (by omega) mF (by omega) (fun _=>by simp)
      ·intro l k ee aE
       rw[ek,if_neg (by omega)]
       exact aE
    ·cases e
   ·rename_i l k esz i n g
    split at e
    ·rename_i et aM es hg
     split at e
     ·rename_i hc
      obtain⟨rfl,rfl,rfl,rfl,rfl,ke,⟨qe,tI⟩,fP⟩:=hc
      obtain rfl:=oi e
      have bQ:=h.al l k _ hg
      have rp:=Heap.rh H _ _ _ hg
      have abf:l<ts.length:=by rw[h.len];exact rp
      have abd:∀ (x:TB) l' k',(l'≠0\/k'<kb\/kb+16<=k')->tb ts l' k'=none->tb ts l k≠none->tb (cV ts l k x) l' k'=none:=by
       intro x l' k' _ h0 bg
       rw[ek]
       split
       ·rename_i hh;obtain⟨rfl,rfl,_⟩:=hh;exact absurd h0 bg
       ·exact h0
      have nothing:new=[]->∀ (a0:Option Addr) (pD:Nat),v=.slice a0 n pD->n<=pD->VR fm ts (.loc l k ti.el 0 n n) v->BN N0 W0 fm ts H w kb r ⟨.loc l k ti.el 0 (n+new.length) (n+new.length),[(l,k,some (.arr et ti.el (es++new)))]⟩:=by
       rintro rfl a0 pD rfl hle bp
       have bf:=hR.none (by simp) a0 n pD hle
       have ka:HR N0 W0 fm ts (H.put l k (some (.arr et ti.el (es++[])))) w:=by
        rw[List.append_nil]
        have e1:∀ l' k',(H.put l k (some (.arr et ti.el es))).get l' k'=H.get l' k':=by
         intro l' k'
         rw[Heap.pH]
         split
         ·rename_i hh;obtain⟨rfl,rfl,_⟩:=hh;exact hg.symm
         ·rfl
        exact⟨by simpa using h.len,fun l' k' b hb=>h.al l' k' b (by rw[<-e1];exact hb),fun l1 k1 l2 k2 b1 b2 c g1 g2=>h.inj l1 k1 l2 k2 b1 b2 c (by rw[<-e1];exact g1) (by rw[<-e1];exact g2),h.bO,
         fun l' k' b c o hb=>h.dh l' k' b c o (by rw[<-e1];exact hb),h.dg,h.size,h.cT,h.dZ⟩
       refine⟨fm,ts,w,_,.inl (hr _ _ bf),ka,?_,AN.refl _ _,As.refl _,fun _ _ _ h=>h⟩
       simpa using bp
      cases hv with
      |cH _ _ _ _ _ _ a' aY aE=>rw[aE]at bQ;cases bQ
      |cI _ _ _ _ _ _ a' aY m' c aE fQ=>rw[aE]at bQ;have:=bQ.gb.1;omega
      |cv _ _ _ a1 aE=>
       rw[aE]at bQ
       have n9:=bQ.gb.2.1 rfl
       subst n9
       by_cases hn:new.length=0
       ·exact nothing (List.eq_nil_of_length_eq_zero hn) a1 0 rfl (Bd _) (.cv l k ti.el _ aE)
       ·simp only[Cq]at qe tI
        have bf:(Builtin.append_ #[t,tx] ty #[.slice a1 0 0,u]).run P w =
          .ok (.slice (some ⟨w.heap.size,0,none⟩) new.length (grownCap w new.length 0 et)) (w.drew.alloc (.cells (us.toArray++Builtin.zeroCells z.cells (grownCap w new.length 0 et - new.length)) et)):=by
         cases a1 with
         |none=>exact hR.nil (by rw[aw];exact cD) (by omega) (by omega) (by omega) (by rw[hb];omega)
         |some b1=>
          have:=hR.grow (by rw[aw];exact cD) (by omega) (by omega) b1 0 0 [] (by simp) (by simp) (by omega) (by omega) (by rw[Cq];exact growslice_fits (by omega) (by rw[hb];omega))
          simpa using this
        have mF:=grownCap_ge w new.length 0 et
        have hle:=grownCap_le_maxLen w new.length 0 et (by simp[maxLen];omega)
        have vu:Bl (tb ts l k) (some (.arr new.length (some (w.heap.size,grownCap w new.length 0 et)))):=by
         rw[aE];exact .inr (.inr ⟨_,_,rfl,by omega⟩)
        have pV:=(h.drew).vY (l:=l) (k:=k) (cap:=grownCap w new.length 0 et) (et:=et) (esz:=ti.el) (es:=new) (cells:=us.toArray++Builtin.zeroCells z.cells (grownCap w new.length 0 et - new.length)) (us:=us)
         (rest:=(Builtin.zeroCells z.cells (grownCap w new.length 0 et - new.length)).toList) rp vu (by
          rw[Array.size_append,size_zeroCells,lV,List.size_toArray,cD,<-Nat.add_mul];congr 1;omega) mF hle ho fP bj dA (by simp)
        refine⟨fm,_,_,_,.inl (hr _ _ bf),by simpa [Heap.bL] using pV,?_,AN.refl _ _,As.set vu,fun l' k' eQ h0=>abd _ l' k' eQ h0 (by rw[aE];simp)⟩
        simp only[Cq]
        exact .loc l k ti.el 0 new.length new.length w.heap.size (grownCap w new.length 0 et) (grownCap w new.length 0 et) _ (by rw[ek,if_pos ⟨rfl,rfl,abf⟩]) (by omega) mF (by omega) (fun _=>by simp)
      |loc _ _ _ _ _ _ c cap aY a' aE bB bI b9 ha=>
       rw[aE]at bQ
       obtain⟨hA,hN⟩:=bQ.gb.2.2 c cap rfl
       obtain⟨cells,c1,c2,c3,c4,c5,c6,c7,c8⟩:=hA.flat
       have gn:=ha (.inr rfl)
       simp only[Nat.zero_mul]at gn
       subst gn
       have vD:aY=cap:=by omega
       subst vD
       by_cases hn:new.length=0
       ·exact nothing (List.eq_nil_of_length_eq_zero hn) _ aY rfl bI (.loc l k ti.el 0 n n c aY aY _ aE bB bI b9 ha)
       ·have arK:=j8 ti.el es c5
        have hmul:es.length*ti.el<=cells.size:=by rw[c2];exact BU _ c3
        have adx:∀ j u,(cells.toList.take (es.length*ti.el))[j]?=some u->w.cell? ((⟨c,0,none⟩:Addr).add j)=some u:=by
         intro j u hu
         rw[BP]at hu
         split at hu
         ·rw[Addr.add_lit]
          simp only[World.cell?,c1,Cq]
          simpa using hu
         ·cases hu
        have hVs:Au fm [] (es++new).flatten (cells.toList.take (es.length*ti.el)++us):=by
         rw[List.flatten_append];exact c7.append bj
        have hFs:∀ x∈(es++new).flatten,x.flat=true:=by rw[List.flatten_append];exact amL c8 dA
        have hOs:=oK c5 ho
        have vu:∀ c',Bl (tb ts l k) (some (.arr (es++new).length c')):=by
         intro c';rw[aE];exact .inr (.inr ⟨_,_,rfl,by simp;omega⟩)
        by_cases eN:n+new.length<=aY
        ·have bf:=hR.room (by rw[aw];exact cD) (by omega) (by omega) c n aY cells c1 (bj.qq dA) eN (by
          rw[aw,cD,<-Nat.add_mul,c2];exact BU _ eN)
         rw[aw]at bf
         have hs:=h.wu hg aE (es':=es++new) (vs':=cells.toList.take (n*ti.el)++us++cells.toList.drop (n*ti.el+us.length)) (us:=cells.toList.take (es.length*ti.el)++us) (rest:=cells.toList.drop (n*ti.el+us.length))
          (by simp) (by simp;omega) hOs (by
           have:n*ti.el+us.length<=cells.size:=by rw[cD,<-Nat.add_mul,c2];exact BU _ eN
           simp;omega) hVs hFs (by rw[ke])
         refine⟨fm,_,_,_,.inl (hr _ _ bf),hs,?_,AN.refl _ _,As.set (vu _),fun l' k' eQ h0=>abd _ l' k' eQ h0 (by rw[aE];simp)⟩
         exact .loc l k ti.el 0 (n+new.length) (n+new.length) c aY aY _ (by rw[ek,if_pos ⟨rfl,rfl,abf⟩];simp[ke]) (by omega) eN (by omega) (fun _=>by simp)
        ·have bf:=hR.grow (by rw[aw];exact cD) (by omega) (by omega) ⟨c,0,none⟩ n aY (cells.toList.take (es.length*ti.el)) (by rw[aw,A9,Nat.min_eq_left (by simpa using hmul),ke]) adx (by omega) (by omega)
          (growslice_fits (by omega) (by rw[hb];exact qe))
         have mF:=grownCap_ge w (n+new.length) aY et
         have hle:=grownCap_le_maxLen w (n+new.length) aY et (by simp[maxLen];omega)
         have pV:=(h.drew).vY (l:=l) (k:=k) (cap:=grownCap w (n+new.length) aY et) (et:=et) (esz:=ti.el) (es:=es++new)
          (cells:=(cells.toList.take (es.length*ti.el)).toArray++us.toArray++Builtin.zeroCells z.cells (grownCap w (n+new.length) aY et - (n+new.length))) (us:=cells.toList.take (es.length*ti.el)++us)
          (rest:=(Builtin.zeroCells z.cells (grownCap w (n+new.length) aY et - (n+new.length))).toList) rp (vu _) (by
           rw[Array.size_append,Array.size_append,size_zeroCells,lV,List.size_toArray,List.size_toArray,cD,A9,Nat.min_eq_left (by simpa using hmul),<-Nat.add_mul,<-Nat.add_mul];congr 1;omega) (by simp;omega) hle hOs fP hVs hFs (by simp)
         refine⟨fm,_,_,_,.inl (hr _ _ bf),pV,?_,AN.refl _ _,As.set (vu _),fun l' k' eQ h0=>abd _ l' k' eQ h0 (by rw[aE];simp)⟩
         exact .loc l k ti.el 0 (n+new.length) (n+new.length) w.heap.size (grownCap w (n+new.length) aY et) (grownCap w (n+new.length) aY et) _ (by rw[ek,if_pos ⟨rfl,rfl,abf⟩];simp[ke]) (by omega) mF (by omega) (fun _=>by simp)
     ·split at e
      ·rename_i hc
       obtain⟨⟨rfl,rfl,rfl⟩,⟨rfl,ke⟩,eN,fP⟩:=hc
       obtain rfl:=oi e
       have bQ:=h.al l k _ hg
       have rp:=Heap.rh H _ _ _ hg
       have abf:l<ts.length:=by rw[h.len];exact rp
       have abd:∀ (x:TB) l' k',(l'≠0\/k'<kb\/kb+16<=k')->tb ts l' k'=none->tb ts l k≠none->tb (cV ts l k x) l' k'=none:=by
        intro x l' k' _ h0 bg
        rw[ek]
        split
        ·rename_i hh;obtain⟨rfl,rfl,_⟩:=hh;exact absurd h0 bg
        ·exact h0
       have anj:(es.take n++(new++es.drop (n+new.length))).length=es.length:=by simp;omega
       have nothing:new=[]->∀ (a0:Option Addr) (pD:Nat),v=.slice a0 n pD->n<=pD->VR fm ts (.loc l k ti.el 0 n g) v->BN N0 W0 fm ts H w kb r ⟨.loc l k ti.el 0 (n+new.length) g,[(l,k,some (.arr et ti.el (es.take n++(new++es.drop (n+new.length)))))]⟩:=by
        rintro rfl a0 pD rfl hle bp
        have bf:=hR.none (by simp) a0 n pD hle
        have e0:es.take n++([]++es.drop (n+([]:List (List AV)).length))=es:=by simp
        rw[e0]
        refine⟨fm,ts,w,_,.inl (hr _ _ bf),h.abE hg,?_,AN.refl _ _,As.refl _,fun _ _ _ h=>h⟩
        simpa using bp
       cases hv with
       |cH _ _ _ _ _ _ a' aY aE=>rw[aE]at bQ;cases bQ
       |cI _ _ _ _ _ _ a' aY m' c aE fQ=>rw[aE]at bQ;have:=bQ.gb.1;omega
       |cv _ _ _ a1 aE=>
        have hn:new=[]:=List.eq_nil_of_length_eq_zero (by omega)
        exact nothing hn a1 0 rfl (Bd _) (.cv l k ti.el _ aE)
       |loc _ _ _ _ _ _ c cap aY a' aE bB bI b9 ha=>
        rw[aE]at bQ
        obtain⟨hA,hN⟩:=bQ.gb.2.2 c cap rfl
        obtain⟨cells,c1,c2,c3,c4,c5,c6,c7,c8⟩:=hA.flat
        have gn:=ha (.inr rfl)
        simp only[Nat.zero_mul]at gn
        subst gn
        have vD:aY=cap:=by omega
        subst vD
        by_cases hn:new.length=0
        ·exact nothing (List.eq_nil_of_length_eq_zero hn) _ aY rfl bI (.loc l k ti.el 0 n g c aY aY _ aE bB bI b9 ha)
        ·have tH:es.length*ti.el<=cells.size:=by rw[c2];exact BU _ c3
         have jl:(n+new.length)*ti.el<=es.length*ti.el:=BU _ (by omega)
         rw[Nat.add_mul]at jl
         have bf:=hR.room (by rw[aw];exact cD) (by omega) (by omega) c n aY cells c1 (bj.qq dA) (by omega) (by rw[aw,cD];omega)
         rw[aw]at bf
         have arV:(cells.toList.take (es.length*ti.el)).length=es.length*ti.el:=by rw[A9,Nat.min_eq_left (by simpa using tH)]
         have anR:Au fm [] (es.take n).flatten (cells.toList.take (n*ti.el)):=by
          have:=Au.take c7 (n*ti.el)
          rw[<-nW es n c5,List.take_take,Nat.min_eq_left (by omega)]at this
          exact this
         have vF:Au fm [] (es.drop (n+new.length)).flatten ((cells.toList.take (es.length*ti.el)).drop (n*ti.el+us.length)):=by
          have:=Au.drop c7 (n*ti.el+us.length)
          have e2:n*ti.el+us.length=(n+new.length)*ti.el:=by rw[cD,Nat.add_mul]
          rw[e2]at this ⊢
          rw[<-u3 es (n+new.length) c5]at this
          exact this
         have hOs:dk (es.take n++(new++es.drop (n+new.length))) ti.el:=
          oK (fun d hd=>c5 d (BY hd)) (oK ho (fun d hd=>c5 d (Cj hd)))
         have hVs:Au fm [] (es.take n++(new++es.drop (n+new.length))).flatten (cells.toList.take (n*ti.el)++(us++(cells.toList.take (es.length*ti.el)).drop (n*ti.el+us.length))):=by
          rw[List.flatten_append,List.flatten_append]
          exact anR.append (bj.append vF)
         have hFs:∀ x∈(es.take n++(new++es.drop (n+new.length))).flatten,x.flat=true:=by
          intro x hx
          rw[List.flatten_append,List.flatten_append]at hx
          have n9:∀ x∈es.flatten,x.flat=true:=c8
          rcases Ba.1 hx with hx|hx
          ·obtain⟨d,hd,hxd⟩:=List.mem_flatten.1 hx
           exact n9 x (List.mem_flatten.2 ⟨d,BY hd,hxd⟩)
          ·rcases Ba.1 hx with hx|hx
           ·exact dA x hx
           ·obtain⟨d,hd,hxd⟩:=List.mem_flatten.1 hx
            exact n9 x (List.mem_flatten.2 ⟨d,Cj hd,hxd⟩)
         have hs:=h.wu hg aE (es':=es.take n++(new++es.drop (n+new.length))) (vs':=cells.toList.take (n*ti.el)++us++cells.toList.drop (n*ti.el+us.length))
          (us:=cells.toList.take (n*ti.el)++(us++(cells.toList.take (es.length*ti.el)).drop (n*ti.el+us.length))) (rest:=cells.toList.drop (es.length*ti.el))
          (by omega) (by omega) hOs (by
           have:n*ti.el+us.length<=cells.size:=by omega
           simp;omega) hVs hFs (by
           rw[Cp,Cp,Cp]
           congr 2
           have e3:cells.toList.drop (n*ti.el+us.length)=(cells.toList.take (es.length*ti.el)).drop (n*ti.el+us.length)++cells.toList.drop (es.length*ti.el):=by
            rw[List.drop_take]
            have e4:es.length*ti.el=(n*ti.el+us.length)+(es.length*ti.el - (n*ti.el+us.length)):=by omega
            conv=>rhs;arg 2;rw[e4,<-List.drop_drop]
            rw[C2]
           exact e3)
         rw[anj,ke]at hs
         have il:cV ts l k (.arr g (some (c,aY)))=ts:=w8 aE
         rw[il]at hs
         refine⟨fm,ts,_,_,.inl (hr _ _ bf),hs,?_,AN.refl _ _,As.refl _,fun _ _ _ h=>h⟩
         exact .loc l k ti.el 0 (n+new.length) g c aY aY _ aE (by omega) (by omega) (by omega) (fun _=>by simp)
      ·cases e
    ·cases e
   ·cases e
  ·cases e
 ·cases e
theorem ami (hT:AQ P T) (ht:T t=some ti) (h:HR N0 W0 fm ts H w) (hH:0<H.length) {kb:Nat} (hk:∀ k,kb<=k->k<kb+16->tb ts 0 k=none) {ty:TypeId}{x y:AV}{v u:Value}{d:De}
  (hv:VR fm ts x v) (hu:VR fm ts y u) (e:j6 H.get kb ti x y=some d) {r:Result Next} (hr:∀ a w',(Builtin.append_ #[t,t] ty #[v,u]).run P w=.ok a w'->r=.ok (.value a) w'):BN N0 W0 fm ts H w kb r d:=by
 refine acU hT ht h hH hk hv ?_ e hr
 intro new el inf z dw bW ba aw hz
 obtain⟨a,cp,us,rfl,ho,bj,dA,bu⟩:=h.elems hu dw
 have cD:us.length=new.length*ti.el:=by rw[<-bj.1];exact j8 _ _ ho
 have adK:0<us.length->∃ ad,a=some ad/\∀ j u,us[j]?=some u->w.cell? (ad.add j)=some u:=by
  intro ae
  obtain⟨ad,rfl,_⟩:=bu 0 _ (gG ae)
  refine⟨ad,rfl,fun j u hu=>?_⟩
  obtain⟨ad',h1,h2⟩:=bu j u hu
  cases h1;exact h2
 refine⟨us,ho,bj,dA,?_,?_,?_,?_⟩
 ·intro hn base m c hm
  rw[hn]
  exact aqb (P:=P) (w:=w) bW ba ty base a m c cp hm
 ·intro hl he hn lL vq
  obtain⟨ad,rfl,yj⟩:=adK (by rw[hl];exact Nat.mul_pos hn he)
  exact run_append_nil (P:=P) w t ty el inf z bW ba hz ad new.length cp us hl yj hn lL vq
 ·intro hl he hn b dn fH nz yP yQ hg lL eN
  obtain⟨ad,rfl,yj⟩:=adK (by rw[hl];exact Nat.mul_pos hn he)
  exact run_append_grow (P:=P) w t ty el inf z bW ba hz b dn fH nz yP yQ ad new.length cp us hl yj hg lL eN
 ·intro hl he hn g dn fH cur hg h1 mG hf
  obtain⟨ad,rfl,yj⟩:=adK (by rw[hl];exact Nat.mul_pos hn he)
  exact run_append_room (P:=P) w t ty el inf bW ba g dn fH cur hg ad new.length cp us hl yj h1 mG hf
theorem wM (s:ByteArray):(ky s).length=s.size:=by unfold ky;rw[Bg];rfl
theorem aiR (s:ByteArray):(ky s).flatten=s.data.toList.map fun c=>AV.int .u8 (c.toNat:Int):=by
 unfold ky
 induction s.data.toList with
 |nil=>rfl
 |cons x l ih=>simp[ih]
theorem amg (hT:AQ P T) (ht:T t=some ti) (h:HR N0 W0 fm ts H w) (hH:0<H.length) {kb:Nat} (hk:∀ k,kb<=k->k<kb+16->tb ts 0 k=none) {tx ty:TypeId}{x:AV}{v:Value}{s:ByteArray}{d:De}
  (hv:VR fm ts x v) (hu:P.underlying tx=some .string) (h1:ti.el=1) (e:j6 H.get kb ti x (.sl 1 (ky s))=some d) {r:Result Next} (hr:∀ a w',(Builtin.append_ #[t,tx] ty #[v,.string s]).run P w=.ok a w'->r=.ok (.value a) w'):BN N0 W0 fm ts H w kb r d:=by
 refine acU hT ht h hH hk hv ?_ e hr
 intro new el inf z dw bW ba aw hz
 have zj:inf.size=1:=by omega
 simp only[iI,if_pos h1.symm,oE]at dw
 subst dw
 have hS:∀ w:World,Src P inf.size tx (.string s) (ky s).length (byteCells s) w:=fun w=>by rw[zj,wM];exact Src.ofString w hu s
 refine⟨byteCells s,?_,?_,?_,?_,?_,?_,?_⟩
 ·intro c hc
  obtain⟨_,_,rfl⟩:=List.mem_map.1 hc
  rw[h1];rfl
 ·rw[aiR]
  refine⟨by unfold byteCells;simp,?_⟩
  intro i x v hx hv
  unfold byteCells at hv
  rw[Bx,mS]at hx hv
  obtain⟨p,hp,rfl⟩:=hx
  obtain⟨q,hq,rfl⟩:=hv
  rw[hp]at hq
  obtain rfl:=oi hq
  exact .int _ _
 ·rw[aiR]
  intro x hx
  obtain⟨_,_,rfl⟩:=List.mem_map.1 hx
  rfl
 ·intro hn base m c hm
  have h0:s.size=0:=by rw[<-wM];exact hn
  cases base<;>simp[Builtin.append_,run_underlying bW,run_underlying hu,sizeOf,typeInfo,ba,Builtin.lenOf,h0,hm,Builtin.firstCells,storeCells]
 ·intro hl _ hn lL vq
  have:=run_append_grow_src (P:=P) w t tx ty el inf z bW ba hz none 0 0 [] (run_firstCells_none w.drew inf.size 0 0 0) (.string s) (ky s).length (byteCells s) (hS w) (by omega) (by simpa using lL) (by rw[Cq,nextslicecap_zero hn];exact vq)
  simpa using this
 ·intro hl _ hn b dn fH nz yP yQ hg lL eN
  have hf:=run_firstCells_some (P:=P) w.drew inf.size dn b dn fH nz yP (by simpa using yQ)
  have:=run_append_grow_src (P:=P) w t tx ty el inf z bW ba hz (some b) dn fH nz hf (.string s) (ky s).length (byteCells s) (hS w) hg lL eN
  simpa using this
 ·intro hl _ hn g dn fH cur hg h1 mG hf
  have fU:=run_storeCells_at P g (dn*inf.size) el (byteCells s) 0 cur w hg (by simpa using hf) h1
  simp only[Nat.add_zero]at fU
  have hc:=(hS w).cells
  have hle:dn+s.size<=fH:=by rw[<-wM];exact mG
  have kP:(Builtin.firstCells inf.size s.size (.string s)).run P w=.ok (byteCells s).toArray w:=by rw[<-wM];exact hc
  simp[Builtin.append_,run_underlying bW,run_underlying hu,sizeOf,typeInfo,ba,Builtin.lenOf,hle,kP,Addr.add_lit,fU,wM]
theorem amh (hT:AQ P T) (ht:T t=some ti) (h:HR N0 W0 fm ts H w) (hH:0<H.length) {kb:Nat} (hk:∀ k,kb<=k->k<kb+16->tb ts 0 k=none) {tx ty:TypeId}{kn kq:IntKind}{x:AV}{v:Value}{n:Int}{d:De}
  (hv:VR fm ts x v) (hu:P.underlying tx=some (.int kn)) (e:uY H.get kb ti x n=some d) {r:Result Next} (hr:∀ a w',(Builtin.append_ #[t,tx] ty #[v,.int kq n]).run P w=.ok a w'->r=.ok (.value a) w'):BN N0 W0 fm ts H w kb r d:=by
 unfold uY at e
 split at e
 ·rename_i hc
  obtain⟨h0,⟨yX,mG⟩,arJ⟩:=hc
  obtain⟨m,rfl⟩:∃ m:Nat,n=m:=⟨n.toNat,by omega⟩
  simp only[Cl]at e yX mG
  refine acU hT ht h hH hk hv ?_ e hr
  intro new el inf z dw bW ba aw hz
  simp only[iI,if_true,oE]at dw
  subst dw
  have hd:ti.d=.slice el:=by
   unfold j6 at e
   split at e
   ·rename_i el' hd
    have:=(hT.slice ht hd).1
    rw[bW]at this;cases this;exact hd
   ·cases e
  obtain⟨_,⟨arX,ahb,_,hb,z',ei,im⟩,_⟩:=hT.slice ht hd
  rw[ba]at ahb
  obtain rfl:=oi ahb
  rw[hz]at ei
  obtain rfl:=oi ei
  have pL:=(hT.ok ht).fB
  have lV:z.cells.size=ti.el:=by have:=(im fm []).1;simp at this;omega
  have pU:=zz z.cells m (by omega)
  have rC:(Builtin.zeroCells z.cells m).toList=(List.replicate m z.cells.toList).flatten:=pU
  have qi:(Builtin.zeroCells z.cells m).size=m*ti.el:=by rw[size_zeroCells,lV]
  have kf:Au fm [] (List.replicate m ti.fB).flatten (Builtin.zeroCells z.cells m).toList:=by rw[rC];exact Au.replicate (im fm []) m
  have hw:IntKind.i64.wrap (m:Int)=m:=by rw[IntKind.wrap_i64];omega
  have amV:¬ (281474976710656<(m:Int)*(inf.bytes:Int)):=by rw[<-Int.natCast_mul,hb];omega
  have yL:¬ ((m:Int)<0):=by omega
  refine⟨(Builtin.zeroCells z.cells m).toList,vZ pL m,kf,xP (hT.ok ht).aa3 m,?_,?_,?_,?_⟩
  ·intro hn base m' c hm
   have rr:m=0:=by simpa using hn
   subst rr
   have lR:IntKind.i64.wrap 0=0:=by rw[IntKind.wrap_i64];omega
   cases base<;>simp[Builtin.append_,run_underlying bW,run_underlying hu,sizeOf,typeInfo,ba,asInt,asIntOf,lR,hm,storeCells]
  ·intro hl _ hn lL vq
   simp only[CU]at hl hn lL vq ⊢
   have:=Lib.run_append_nil_zeros (P:=P) w t tx ty el inf z kq kn bW hu ba hz m hn (by omega) lL vq
   simpa using this
  ·intro hl _ hn b dn fH nz yP yQ hg lL eN
   simp only[CU]at hl hn hg lL eN ⊢
   have hf:=run_firstCells_some (P:=P) w.drew inf.size dn b dn fH nz yP (by simpa using yQ)
   have:=Lib.run_append_grow_zeros (P:=P) w t tx ty el inf z kq kn bW hu ba hz (some b) dn fH nz hf m hn (by omega) hg lL (by rw[hb];omega) eN
   simpa using this
  ·intro hl _ hn g dn fH cur hg h1 tM hf
   simp only[CU]at hn tM ⊢
   have fU:=run_storeCells_at P g (dn*inf.size) el (Builtin.zeroCells z.cells m).toList 0 cur w hg (by simpa using hf) h1
   simp only[Nat.add_zero]at fU
   have lO:¬ (m*inf.size=0):=Nat.mul_ne_zero (by omega) (by omega)
   simp[Builtin.append_,run_underlying bW,run_underlying hu,sizeOf,typeInfo,zeroValue,ba,hz,asInt,asIntOf,hw,yL,amV,tM,lO,Addr.add_lit,fU]
 ·cases e
end
theorem v8 {sz:Nat}{es:List (List AV)} (h:dk es sz) (n:Nat):dk (es.take n) sz:=fun c hc=>h c (BY hc)
theorem zF {sz:Nat}{es:List (List AV)} (h:dk es sz) (n:Nat):dk (es.drop n) sz:=fun c hc=>h c (Cj hc)
theorem agK {sz:Nat}{es new:List (List AV)} (i:Nat) (he:dk es sz) (hn:dk new sz):
  (es.take i++(new++es.drop (i+new.length))).flatten=overwrite es.flatten (i*sz) new.flatten:=by
 simp only[List.flatten_append,overwrite]
 rw[nW es i he,u3 es _ he,j8 sz new hn,Nat.add_mul]
section
variable {P:Program}{T:AM}{N0:Nat}{W0:World}{fm:FM}{ts:List Ak}{H:Heap}{w:World}{t:TypeId}{ti:TI}
theorem aiB {a:Option Addr}{m cp sz:Nat}{us:List Value} (cD:us.length=m*sz) (bu:∀ j u,us[j]?=some u->∃ ad,a=some ad/\w.cell? (ad.add j)=some u) (k:Nat) (hk:k<=m):
  (Builtin.firstCells sz k (.slice a m cp)).run P w=.ok (us.take (k*sz)).toArray w:=by
 have hmul:k*sz<=m*sz:=BU _ hk
 cases a with
 |none=>
  have:us=[]:=by
   cases us with
   |nil=>rfl
   |cons u us=>obtain⟨_,h,_⟩:=bu 0 u rfl;cases h
  subst this
  simp[Builtin.firstCells]
 |some ad=>
  refine run_firstCells_some (P:=P) w sz k ad m cp (us.take (k*sz)) (by rw[A9];omega) ?_
  intro j v hv
  rw[BP]at hv
  split at hv
  ·obtain⟨ad',h1,h2⟩:=bu j v hv
   cases h1;exact h2
  ·cases hv
theorem amo (hT:AQ P T) (ht:T t=some ti) (h:HR N0 W0 fm ts H w) {kb:Nat}{ty:TypeId}{x y:AV}{v u:Value}{d:De}
  (hv:VR fm ts x v) (hu:VR fm ts y u) (e:sR H.get ti x y=some d) {r:Result Next} (hr:∀ a w',(Builtin.copy_ #[t,t] ty #[v,u]).run P w=.ok a w'->r=.ok (.value a) w'):BN N0 W0 fm ts H w kb r d:=by
 unfold sR at e
 split at e
 ·rename_i el hd
  obtain⟨bW,⟨inf,ba,aw,hb,z,hz,im⟩,_⟩:=hT.slice ht hd
  split at e
  ·rename_i src y8
   obtain⟨a,cp,us,rfl,ho,bj,dA,bu⟩:=h.elems hu y8
   have cD:us.length=src.length*ti.el:=by rw[<-bj.1];exact j8 _ _ ho
   have yZ:∀ (base:Option Addr) (n aY:Nat),min src.length n=0->(Builtin.copy_ #[t,t] ty #[.slice base n aY,.slice a src.length cp]).run P w=.ok (goInt 0) w:=by
    intro base n aY hm
    have hf:=aiB (P:=P) (w:=w) (cp:=cp) cD bu 0 (Nat.zero_le _)
    have pT:Nat.min src.length n=0:=hm
    cases base<;>simp[Builtin.copy_,run_underlying bW,Builtin.lenOf,sizeOf,typeInfo,ba,aw,pT,hf,storeCells]
   have ahl:∀ (c o n aY:Nat) (cells:Array Value) (et:TypeId),w.heap[c]?=some (.cells cells et (0,0))->o+min src.length n*ti.el<=cells.size->
     (Builtin.copy_ #[t,t] ty #[.slice (some ⟨c,o,none⟩) n aY,.slice a src.length cp]).run P w=.ok (goInt (min src.length n:Nat)) (w.setRow c (cells.toList.take o++us.take (min src.length n*ti.el)++cells.toList.drop (o+(us.take (min src.length n*ti.el)).length)).toArray):=by
    intro c o n aY cells et hc hle
    have hf:=aiB (P:=P) (w:=w) (cp:=cp) cD bu (min src.length n) (Nat.min_le_left _ _)
    have hmul:min src.length n*ti.el<=src.length*ti.el:=BU _ (Nat.min_le_left _ _)
    have fU:=run_storeCells_at P c o et (us.take (min src.length n*ti.el)) 0 cells w hc (by rw[A9];omega) (fun v hv=>bj.qq dA v (BY hv))
    simp only[Nat.add_zero]at fU
    have pT:Nat.min src.length n=min src.length n:=rfl
    simp only[Builtin.copy_,Sem.run_bind,run_underlying bW,Result.andThen_ok,Builtin.lenOf,sizeOf,typeInfo,run_program,ba,aw,pT,Sem.run_pure,hf,fU,List.getElem?_toArray,BV,Cb]
   split at e
   ·obtain rfl:=oi e
    cases hv
    exact .pure h (hr _ _ (yZ none 0 0 (by simp))) (.int _ _)
   ·rename_i l k esz i n g
    split at e
    ·rename_i et aM es hg
     split at e
     ·rename_i hc
      obtain⟨rfl,rfl,ke,bB⟩:=hc
      obtain rfl:=oi e
      have bQ:=h.al l k _ hg
      have rp:=Heap.rh H _ _ _ hg
      have same:min src.length n=0->es.take i++(src.take n++es.drop (i+min src.length n))=es:=by
       intro hm
       have:src.take n=[]:=by
        apply List.eq_nil_of_length_eq_zero;rw[A9];omega
       rw[hm,this];simp
      have nothing:min src.length n=0->∀ (base:Option Addr) (aY:Nat),v=.slice base n aY->BN N0 W0 fm ts H w kb r ⟨.int .i64 (min src.length n),[(l,k,some (.arr et ti.el (es.take i++(src.take n++es.drop (i+min src.length n)))))]⟩:=by
       rintro hm base aY rfl
       rw[same hm]
       refine⟨fm,ts,w,_,.inl (hr _ _ (yZ base n aY hm)),h.abE hg,?_,AN.refl _ _,As.refl _,fun _ _ _ h=>h⟩
       have e0:(min (src.length:Int) (n:Int))=0:=by omega
       rw[e0]
       exact .int _ _
      cases hv with
      |cH _ _ _ _ _ _ a' aY aE=>rw[aE]at bQ;cases bQ
      |cI _ _ _ _ _ _ a' aY m' c aE fQ=>rw[aE]at bQ;have:=bQ.gb.1;omega
      |cv _ _ _ a1 aE=>exact nothing (by simp) a1 0 rfl
      |loc _ _ _ _ _ _ c cap aY a' aE yE bI b9 ha=>
       rw[aE]at bQ
       obtain⟨hA,hN⟩:=bQ.gb.2.2 c cap rfl
       obtain⟨cells,c1,c2,c3,c4,c5,c6,c7,c8⟩:=hA.flat
       by_cases hm:min src.length n=0
       ·exact nothing hm (some a') aY rfl
       ·have gn:=ha (.inl (by omega))
        subst gn
        have hmul:(i+min src.length n)*ti.el<=es.length*ti.el:=BU _ (by omega)
        have tH:es.length*ti.el<=cells.size:=by rw[c2];exact BU _ c3
        rw[Nat.add_mul]at hmul
        have bf:=ahl c (i*ti.el) n aY cells et c1 (by omega)
        have adL:src.take n=src.take (min src.length n):=by
         rw[<-CK (l:=src),List.take_take,List.take_take,CK];congr 1;omega
        have fT:(src.take (min src.length n)).length=min src.length n:=by rw[A9];omega
        have kf:Au fm [] (src.take (min src.length n)).flatten (us.take (min src.length n*ti.el)):=by rw[nW src _ ho];exact bj.take _
        have vJ:∀ x∈(src.take (min src.length n)).flatten,x.flat=true:=by
         rw[nW src _ ho];exact fun x hx=>dA x (BY hx)
        have zb:(us.take (min src.length n*ti.el)).length=min src.length n*ti.el:=by
         rw[A9,cD];exact Nat.min_eq_left (BU _ (Nat.min_le_left _ _))
        have om:=agK i c5 (v8 ho (min src.length n))
        rw[fT]at om
        have tv:(es.take i++(src.take (min src.length n)++es.drop (i+min src.length n))).length=es.length:=by simp;omega
        rw[adL]
        have hs:=h.wu hg aE (es':=es.take i++(src.take (min src.length n)++es.drop (i+min src.length n)))
         (vs':=cells.toList.take (i*ti.el)++us.take (min src.length n*ti.el)++cells.toList.drop (i*ti.el+(us.take (min src.length n*ti.el)).length))
         (us:=(cells.toList.take (es.length*ti.el)).take (i*ti.el)++(us.take (min src.length n*ti.el)++(cells.toList.take (es.length*ti.el)).drop (i*ti.el+(us.take (min src.length n*ti.el)).length))) (rest:=cells.toList.drop (es.length*ti.el))
         (by rw[tv];exact Bd _) (by rw[tv];exact c3) (oK (v8 c5 _) (oK (v8 ho _) (zF c5 _)))
         (by rw[A8,A8,zb,A9,Bi,Array.length_toList];omega)
         (by rw[om];exact qu c7 kf (by rw[kf.1,zb,j8 _ _ c5];omega))
         (by rw[om];exact qv c8 vJ)
         (abK _ _ _ _ (by rw[zb];omega) (by simpa using tH))
        rw[tv,ke,w8 aE]at hs
        refine⟨fm,ts,_,_,.inl (hr _ _ bf),hs,?_,AN.refl _ _,As.refl _,fun _ _ _ h=>h⟩
        have e0:(min (src.length:Int) (n:Int))=((min src.length n:Nat):Int):=by omega
        rw[e0]
        exact .int _ _
     ·cases e
    ·cases e
   ·rename_i l k esz o n
    split at e
    ·rename_i cs hg
     split at e
     ·rename_i hc
      obtain⟨rfl,fP,rfl,pX⟩:=hc
      obtain rfl:=oi e
      cases hv with
      |bF _ _ _ _ _ c aY a' aE bI ha=>
       obtain⟨cells,et,c1,c2,c3,c4⟩:=h.acC hg aE
       by_cases hm:min src.length n=0
       ·have:src.take n=[]:=by
         apply List.eq_nil_of_length_eq_zero;rw[A9];omega
        have e1:overwrite cs o (src.take n).flatten=cs:=by rw[this];simp[overwrite]
        rw[e1]
        refine⟨fm,ts,w,_,.inl (hr _ _ (yZ (some a') n aY hm)),h.abE hg,?_,AN.refl _ _,As.refl _,fun _ _ _ h=>h⟩
        have e0:(min (src.length:Int) (n:Int))=0:=by omega
        rw[e0]
        exact .int _ _
       ·have gn:=ha (by omega)
        subst gn
        have bf:=ahl c o n aY cells et c1 (by rw[fP,Nat.mul_one];omega)
        have adL:src.take n=src.take (min src.length n):=by
         rw[<-CK (l:=src),List.take_take,List.take_take,CK];congr 1;omega
        have zb:(us.take (min src.length n*ti.el)).length=min src.length n*ti.el:=by
         rw[A9,cD];exact Nat.min_eq_left (BU _ (Nat.min_le_left _ _))
        have kf:Au fm [] (src.take (min src.length n)).flatten (us.take (min src.length n*ti.el)):=by rw[nW src _ ho];exact bj.take _
        have vJ:∀ x∈(src.take (min src.length n)).flatten,x.flat=true:=by
         rw[nW src _ ho];exact fun x hx=>dA x (BY hx)
        rw[adL]
        have hs:=h.abM hg aE (cs':=overwrite cs o (src.take (min src.length n)).flatten) (qu c3 (kf.mono (AZ.refl _) (As.nil _)) (by rw[kf.1,zb,fP];omega)) (qv c4 vJ)
        rw[<-Cp]at hs
        refine⟨fm,ts,_,_,.inl (hr _ _ bf),hs,?_,AN.refl _ _,As.refl _,fun _ _ _ h=>h⟩
        have e0:(min (src.length:Int) (n:Int))=((min src.length n:Nat):Int):=by omega
        rw[e0]
        exact .int _ _
     ·cases e
    ·cases e
   ·cases e
  ·cases e
 ·cases e
theorem amm (hT:AQ P T) (ht:T t=some ti) (h:HR N0 W0 fm ts H w) {kb:Nat}{ty:TypeId}{l:List TypeId}{x:AV}{v:Value}{d:De}
  (hv:VR fm ts x v) (e:sQ H.get ti x=some d) {r:Result Next} (hr:∀ a w',(Builtin.clear_ (t::l).toArray ty #[v]).run P w=.ok a w'->r=.ok (.value a) w'):BN N0 W0 fm ts H w kb r d:=by
 have unit:∀ fm ts,VR fm ts (.ar []) (.tuple #[]):=fun fm ts=>.ar [] #[] rfl (fun i x v h=>by simp at h)
 unfold sQ at e
 split at e
 ·rename_i el hd
  obtain⟨bW,⟨inf,ba,aw,hb,z,hz,im⟩,_⟩:=hT.slice ht hd
  have pL:=(hT.ok ht).fB
  have lV:z.cells.size=ti.el:=by have:=(im fm []).1;simp at this;omega
  split at e
  ·obtain rfl:=oi e
   cases hv
   exact .pure h (hr (.tuple #[]) w (by simp[Builtin.clear_,run_underlying bW])) (unit _ _)
  ·rename_i lv k esz i n g
   split at e
   ·rename_i et aM es hg
    split at e
    ·rename_i hc
     obtain⟨rfl,rfl,ke,bB⟩:=hc
     obtain rfl:=oi e
     have bQ:=h.al lv k _ hg
     have nothing:n=0->∀ (base:Option Addr) (aY:Nat),v=.slice base 0 aY->BN N0 W0 fm ts H w kb r ⟨.ar [],[(lv,k,some (.arr et ti.el (es.take i++(List.replicate n ti.fB++es.drop (i+n)))))]⟩:=by
      rintro rfl base aY rfl
      have e1:es.take i++(List.replicate 0 ti.fB++es.drop (i+0))=es:=by simp
      rw[e1]
      exact⟨fm,ts,w,_,.inl (hr (.tuple #[]) w (by cases base<;>simp[Builtin.clear_,run_underlying bW])),h.abE hg,unit _ _,AN.refl _ _,As.refl _,fun _ _ _ h=>h⟩
     cases hv with
     |cH _ _ _ _ _ _ a' aY aE=>rw[aE]at bQ;cases bQ
     |cI _ _ _ _ _ _ a' aY m' c aE fQ=>rw[aE]at bQ;have:=bQ.gb.1;omega
     |cv _ _ _ a1 aE=>exact nothing rfl a1 0 rfl
     |loc _ _ _ _ _ _ c cap aY a' aE yE bI b9 ha=>
      rw[aE]at bQ
      obtain⟨hA,hN⟩:=bQ.gb.2.2 c cap rfl
      obtain⟨cells,c1,c2,c3,c4,c5,c6,c7,c8⟩:=hA.flat
      by_cases hm:n=0
      ·exact nothing hm (some a') aY (by rw[hm])
      ·have gn:=ha (.inl (by omega))
       subst gn
       have pU:=zz z.cells n (by omega)
       have rC:(Builtin.zeroCells z.cells n).toList=(List.replicate n z.cells.toList).flatten:=pU
       have qi:(Builtin.zeroCells z.cells n).toList.length=n*ti.el:=by rw[Array.length_toList,size_zeroCells,lV]
       have kf:Au fm [] (List.replicate n ti.fB).flatten (Builtin.zeroCells z.cells n).toList:=by rw[rC];exact Au.replicate (im fm []) n
       have vJ:=xP (hT.ok ht).aa3 n
       have hmul:(i+n)*ti.el<=es.length*ti.el:=BU _ (by omega)
       have tH:es.length*ti.el<=cells.size:=by rw[c2];exact BU _ c3
       rw[Nat.add_mul]at hmul
       have fU:=run_storeCells_at P c (i*ti.el) et (Builtin.zeroCells z.cells n).toList 0 cells w c1 (by rw[qi];omega) (kf.qq vJ)
       simp only[Nat.add_zero]at fU
       obtain⟨n',rfl⟩:∃ n',n=n'+1:=⟨n - 1,by omega⟩
       have bf:(Builtin.clear_ (t::l).toArray ty #[.slice (some ⟨c,i*ti.el,none⟩) (n'+1) aY]).run P w=.ok (.tuple #[]) (w.setRow c (cells.toList.take (i*ti.el)++(Builtin.zeroCells z.cells (n'+1)).toList++cells.toList.drop (i*ti.el+(Builtin.zeroCells z.cells (n'+1)).toList.length)).toArray):=by
        simp only[Builtin.clear_,Sem.run_bind,run_underlying bW,Result.andThen_ok,zeroValue,typeInfo,run_program,ba,hz,Sem.run_pure,fU,List.getElem?_toArray,BV]
       have om:=agK i c5 (vZ pL (n'+1))
       simp only[CU]at om
       have tv:(es.take i++(List.replicate (n'+1) ti.fB++es.drop (i+(n'+1)))).length=es.length:=by simp;omega
       have hs:=h.wu hg aE (es':=es.take i++(List.replicate (n'+1) ti.fB++es.drop (i+(n'+1))))
         (vs':=cells.toList.take (i*ti.el)++(Builtin.zeroCells z.cells (n'+1)).toList++cells.toList.drop (i*ti.el+(Builtin.zeroCells z.cells (n'+1)).toList.length))
         (us:=(cells.toList.take (es.length*ti.el)).take (i*ti.el)++((Builtin.zeroCells z.cells (n'+1)).toList++(cells.toList.take (es.length*ti.el)).drop (i*ti.el+(Builtin.zeroCells z.cells (n'+1)).toList.length))) (rest:=cells.toList.drop (es.length*ti.el))
         (by rw[tv];exact Bd _) (by rw[tv];exact c3) (oK (v8 c5 _) (oK (vZ pL _) (zF c5 _)))
         (by rw[A8,A8,qi,A9,Bi,Array.length_toList];omega)
         (by rw[om];exact qu c7 kf (by rw[kf.1,qi,j8 _ _ c5];omega))
         (by rw[om];exact qv c8 vJ)
         (abK _ _ _ _ (by rw[qi];omega) (by simpa using tH))
       rw[tv,ke,w8 aE]at hs
       exact⟨fm,ts,_,_,.inl (hr _ _ bf),hs,unit _ _,AN.refl _ _,As.refl _,fun _ _ _ h=>h⟩
    ·cases e
   ·cases e
  ·cases e
 ·cases e
end
section
variable {P:Program}{T:AM}{N0:Nat}{W0:World}{fm:FM}{ts:List Ak}{H:Heap}{w:World}{t:TypeId}{ti:TI}
theorem AQ.ao1 (hT:AQ P T) (h:T t=some ti) (hd:ti.d≠.iface):∃ d,P.underlying t=some d/\∀ m,d≠.interface m:=by
 have:=hT t ti h
 unfold m9 at this
 simp only[A7]at this
 have h7:=this.2
 split at h7<;>rename_i h1 h2<;>first|(exact absurd h1 hd)|(exact⟨_,h2,by intro m;simp⟩)|(cases h7)
theorem aeo {tm:Tm}{a:Act} (h:CY fm ts tm a):∀ (l:List (Nat×Operand)) (ys:List (Nat×AV)),partsOf tm l=some ys->Ea fm ts ys (l.map fun x=>(x.1,a.eval x.2))
 |[],ys,e=>by simp only[partsOf,oE]at e;subst e;trivial
 |(i,x)::l,ys,e=>by
  simp only[partsOf]at e
  split at e
  ·rename_i p q hp hq
   obtain rfl:=oi e
   exact⟨rfl,rR h hp,aeo h l q hq⟩
  ·cases e
theorem BN.iy {kb:Nat}{r:Result Next}{q:Option AV}{d:De} (h:HR N0 W0 fm ts H w) (e:dW q=some d) (hr:∀ x,q=some x->∃ v,r=.ok (.value v) w/\VR fm ts x v):BN N0 W0 fm ts H w kb r d:=by
 obtain⟨x,hx,rfl⟩:=afq e
 obtain⟨v,h1,h2⟩:=hr x hx
 exact .pure h h1 h2
theorem akI {x y:AV}{v:Value}{o:Oper}{a:Act}{z:Operand} (ho:o.op=.nilCheck z) (hz:a.eval z=v) (hv:VR fm ts x v) (e:aaH x=some y):
  ∃ u,(execOp a.eval o).run P w=.ok (.value u) w/\VR fm ts y u:=by
 unfold aaH at e
 split at e
 ·obtain rfl:=oi e
  refine⟨v,?_,hv⟩
  cases hv;simp[execOp,ho,hz]
 ·obtain rfl:=oi e
  refine⟨v,?_,hv⟩
  cases hv<;>simp[execOp,ho,hz]
 ·obtain rfl:=oi e
  refine⟨v,?_,hv⟩
  cases hv;simp[execOp,ho,hz]
 ·split at e
  ·obtain rfl:=oi e
   refine⟨v,?_,hv⟩
   cases hv;simp[execOp,ho,hz]
  ·cases e
 ·cases e
theorem HR.up0 {fm':FM}{w':World} (h:HR N0 W0 fm ts H w) (hb:Below w.heap.size w w') (bo:AN w.heap.size fm fm') (bB:∀ b o v,fm' b o=some v->w'.cell? ⟨b,o,none⟩=some v) (anG:EW w.heap.size fm' w'):HR N0 W0 fm' ts H w':=by
 have h1:=h.world (w':=w') (fun i hi=>hb.block i hi) (hb.mono h.size)
 refine⟨h1.len,fun l k b hg=>(h1.al l k b hg).mono bo.le (As.refl _) (fun _ _=>rfl),h1.inj,bB,?_,h1.dg,h1.size,h1.cT,fun b o v hN hv ht=>?_⟩
 rotate_right
 ·by_cases bQ:b<w.heap.size
  ·rw[bo.fix b o bQ]at hv
   rw[bo.fit b bQ]at ht
   exact(h.dZ b o v hN hv ht).of (hb.block b bQ)
  ·exact anG b o v (by omega) hv ht
 intro l k b c o hg ht
 rw[bo.fix c o ((h.al l k b hg).lt ht).1]
 exact h.dh l k b c o hg ht
theorem akz (hT:AQ P T) {src dst:TypeId}{si di:TI} (hs:T src=some si) (hd:T dst=some di) (h:HR N0 W0 fm ts H w) {x:AV}{v:Value} (hv:VR fm ts x v) {kb:Nat}{d:De} (e:dW (uD T si di x)=some d)
  {r:Result Next} (hr:∀ a w',(convert src dst v).run P w=.ok a w'->r=.ok (.value a) w'):BN N0 W0 fm ts H w kb r d:=by
 unfold dW at e
 rw[mS]at e
 obtain⟨y,e,rfl⟩:=e
 unfold uD at e
 split at e
 ·rename_i el rm
  split at e
  ·rename_i s tO
   split at e
   ·rename_i te hte
    split at e
    ·rename_i hu8
     split at e
     ·rename_i aw
      obtain rfl:=oi e
      cases hv
      have bf:=run_bytes_of_string (P:=P) w src dst el s (hT.str hs tO) (hT.slice hd rm).1 (hT.int hte hu8)
      have mF:=grownCap_ge w s.size 0 el
      have hle:=grownCap_le_maxLen w s.size 0 el (by simp[maxLen];omega)
      generalize hcp:grownCap w s.size 0 el=cp at bf mF hle
      generalize zf:w.drew.alloc (.cells (bytesRow s cp) el ((bytesRow s cp).size,(bytesRow s cp).size+1))=w' at bf
      have dw:w'.heap[w.heap.size]?=some (.cells (bytesRow s cp) el ((bytesRow s cp).size,(bytesRow s cp).size+1)):=by
       rw[<-zf];show (w.heap.push _)[w.heap.size]?=_;simp
      have lN:Below w.heap.size w w':=by
       rw[<-zf];exact((Below.refl _ w).drew).alloc (Bd _) _
      have bu:∀ o,w'.cell? ⟨w.heap.size,o,none⟩=(bytesRow s cp)[o]?:=by
       intro o;simp[World.cell?,dw]
      obtain⟨fm',oc,tQ⟩:∃ fm':FM,(∀ b o,fm' b o=if b=w.heap.size then w'.cell? ⟨b,o,none⟩ else fm b o)/\∀ b,fm'.t b=if b=w.heap.size then 1 else fm.t b:=
       ⟨⟨fun b o=>if b=w.heap.size then w'.cell? ⟨b,o,none⟩ else fm b o,fun b=>if b=w.heap.size then 1 else fm.t b⟩,fun _ _=>rfl,fun _=>rfl⟩
      have hold:∀ b o u,fm b o=some u->b≠w.heap.size:=by
       intro b o u hu
       have ae:=World.block_lt_of_cell? w _ (h.bO b o u hu)
       simp only at ae
       omega
      have bo:AN w.heap.size fm fm':=by
       refine⟨⟨?_,?_⟩,?_,?_,?_⟩
       ·intro b o u hu
        rw[oc,if_neg (hold b o u hu)];exact hu
       ·intro b o u hu
        rw[tQ,if_neg (hold b o u hu)]
       ·intro b o hb
        rw[oc,if_neg (by omega)]
       ·intro b hb
        rw[tQ,if_neg (by omega)]
       ·intro b o u hu
        by_cases e:b=w.heap.size
        ·right;rw[tQ,if_pos e];decide
        ·left;rwa [oc,if_neg e]at hu
      have bB:∀ b o u,fm' b o=some u->w'.cell? ⟨b,o,none⟩=some u:=by
       intro b o u hu
       rw[oc]at hu
       split at hu
       ·exact hu
       ·have h1:=h.bO b o u hu
        have ae:=World.block_lt_of_cell? w _ h1
        rw[<-h1]
        exact World.cell?_of_block (w:=w) (w':=w') (a:=⟨b,o,none⟩) (lN.block b ae)
      refine⟨_,ts,w',_,.inl (hr _ _ bf),h.up0 lN bo bB (fun b o u hb hu ht=>by
       exfalso
       rw[tQ]at ht
       split at ht
       ·omega
       ·rename_i bg
        rw[oc,if_neg bg]at hu
        have:=World.block_lt_of_cell? w _ (h.bO b o u hu)
        simp only at this
        omega),?_,⟨bo.le,fun b o hb=>bo.fix b o (Nat.lt_of_lt_of_le hb h.size),fun b hb=>bo.fit b (Nat.lt_of_lt_of_le hb h.size),bo.new⟩,As.refl _,fun _ _ _ h=>h⟩
      have hlen:(ky s).length=s.size:=wM s
      rw[<-hlen]
      refine .sl (ky s) w.heap.size 0 1 cp (fun i _=>.int .u8 ((s.data.toList.getD i 0).toNat:Int)) ⟨by rw[hlen];exact mF,by rw[hlen];simp[maxLen];omega⟩ ?_ ?_ ?_ ?_
      ·intro c hc
       obtain⟨_,_,rfl⟩:=List.mem_map.1 hc
       rfl
      all_goals
       intro i c o x hi hx
       unfold ky at hi
       rw[Bx,mS]at hi
       obtain⟨b,hb,rfl⟩:=hi
       obtain rfl:o=0:=by
        have:=(gS.1 hx).1
        simp at this;omega
       simp at hx
       subst hx
      ·refine⟨?_,.inr (by rw[tQ,if_pos rfl])⟩
       rw[oc,if_pos rfl,bu,show 0+(i*1+0)=i by omega]
       unfold bytesRow
       have bQ:s.data[i]?=some b:=by rw[<-Array.getElem?_toList];exact hb
       obtain⟨ae,_⟩:=CF.1 bQ
       rw[Array.getElem?_append_left (by rw[Array.size_map];exact ae),Array.getElem?_map,bQ]
       simp[hb,List.getD_eq_getElem?_getD]
      ·rfl
      ·have:s.data.toList.getD i 0=b:=by simp[List.getD_eq_getElem?_getD,hb]
       simp only[this]
       exact .int _ _
     ·cases e
    ·cases e
   ·cases e
  ·cases e
 ·cases e
theorem akx (hT:AQ P T) (h:HR N0 W0 fm ts H w) (hH:0<H.length) {kb:Nat} (hk:∀ k,kb<=k->k<kb+16->tb ts 0 k=none) {b:Builtin}{tys:Array TypeId}{ty:TypeId}{cs:Array Bool}{xs:List AV}{vs:List Value}{d:De}
  (hv:Au fm ts xs vs) (e:mX T H.get kb b tys.toList xs=some d):BN N0 W0 fm ts H w kb ((builtin b tys ty cs vs.toArray).run P w) d:=by
 have one:∀ {x:AV},xs=[x]->∃ v,vs=[v]/\VR fm ts x v:=by
  rintro x rfl
  have:=hv.1
  cases vs with
  |nil=>simp at this
  |cons v vs=>cases vs with
   |nil=>exact⟨v,rfl,hv.2 0 x v rfl rfl⟩
   |cons=>simp at this
 have two:∀ {x y:AV},xs=[x,y]->∃ v u,vs=[v,u]/\VR fm ts x v/\VR fm ts y u:=by
  rintro x y rfl
  have:=hv.1
  cases vs with
  |nil=>simp at this
  |cons v vs=>cases vs with
   |nil=>simp at this
   |cons u vs=>cases vs with
    |nil=>exact⟨v,u,rfl,hv.2 0 x v rfl rfl,hv.2 1 y u rfl rfl⟩
    |cons=>simp at this
 obtain⟨tl⟩:=tys
 unfold mX at e
 split at e
 ·cases e
 ·rename_i t l lQ
  simp only at lQ
  subst lQ
  split at e
  ·cases e
  ·rename_i ti ht
   split at e
   ·split at e
    ·rename_i x
     obtain⟨v,rfl,eT⟩:=one rfl
     refine .iy h e fun y hy=>?_
     obtain⟨u,h1,h2⟩:=akH (P:=P) (w:=w) (l:=l) (ty:=ty) hT ht eT hy
     exact⟨u,by simp only[builtin];exact dY h1,h2⟩
    ·cases e
   ·split at e
    ·rename_i s x
     split at e
     ·rename_i hl
      subst hl
      obtain⟨v,u,rfl,eT,mI⟩:=two rfl
      exact ami (ty:=ty) hT ht h hH hk eT mI e (fun a w' hr=>by simp only[builtin];exact dY hr)
     ·obtain⟨v,u,rfl,eT,mI⟩:=two rfl
      unfold xD at e
      split at e
      ·rename_i t2 b
       split at e
       ·rename_i ti2 qf
        split at e
        ·rename_i kQ
         split at e
         ·rename_i h1
          cases mI
          exact amg (ty:=ty) hT ht h hH hk eT (hT.str qf kQ) h1 e (fun a w' hr=>by simp only[builtin];exact dY hr)
         ·cases e
        ·cases e
       ·cases e
      ·rename_i t2 kq n
       split at e
       ·rename_i ti2 qf
        split at e
        ·rename_i kn kQ
         cases mI
         exact amh (ty:=ty) hT ht h hH hk eT (hT.int qf kQ) e (fun a w' hr=>by simp only[builtin];exact dY hr)
        ·cases e
       ·cases e
      ·cases e
    ·cases e
   ·split at e
    ·rename_i s x
     split at e
     ·rename_i hl
      subst hl
      obtain⟨v,u,rfl,eT,mI⟩:=two rfl
      exact amo (ty:=ty) hT ht h eT mI e (fun a w' hr=>by simp only[builtin];exact dY hr)
     ·cases e
    ·cases e
   ·split at e
    ·rename_i x
     obtain⟨v,rfl,eT⟩:=one rfl
     exact amm (ty:=ty) (l:=l) hT ht h eT e (fun a w' hr=>by simp only[builtin];exact dY hr)
    ·cases e
   ·refine .iy h e fun y hy=>?_
    obtain⟨u,h1,h2⟩:=afe (P:=P) (w:=w) (l:=⟨t::l⟩) (ty:=ty) hv hy
    simp only[if_true]at h1
    exact⟨u,by simp only[builtin];exact dY h1,h2⟩
   ·refine .iy h e fun y hy=>?_
    obtain⟨u,h1,h2⟩:=afe (P:=P) (w:=w) (l:=⟨t::l⟩) (ty:=ty) hv hy
    simp only[C3,if_false]at h1
    exact⟨u,by simp only[builtin];exact dY h1,h2⟩
   ·cases e
theorem af9 (hT:AQ P T) (ht:T t=some ti) (h:HR N0 W0 fm ts H w) {kb:Nat}{x':AV}{v0 v1 v2:Value}{vlo:Option Value}{zl zh zm:Int}{kh km:IntKind}{d:De}
  (eT:VR fm ts x' v0) (jk:(vlo=none/\zl=0)\/∃ kl v,vlo=some v/\VR fm ts (.int kl zl) v) (hvh:VR fm ts (.int kh zh) v1) (hvm:VR fm ts (.int km zm) v2) (e:xE ti x' zl zh zm=some d) {r:Result Next}
  (hr:∀ v w',(Instr.sliceAt t v0 vlo (some v1) (some v2)).run P w=.ok v w'->r=.ok (.value v) w'):BN N0 W0 fm ts H w kb r d:=by
 unfold xE at e
 split at e
 ·rename_i el hd
  obtain⟨bW,⟨inf,ba,anv,_,_⟩,_⟩:=hT.slice ht hd
  obtain⟨nn,anb,y5⟩:∃ nn:Nat,((0<=zl/\zl<=zh)/\zh<=zm/\zm<=nn)/\∃ aa cc,v0=.slice aa nn cc/\nn<=cc/\∃ y,d=⟨y,[]⟩/\VR fm ts y (.slice (if zm.toNat=zl.toNat then aa else aa.map (·.add (zl.toNat*inf.size))) (zh.toNat - zl.toNat) (zm.toNat - zl.toNat)):=by
   split at e
   ·rename_i esz es
    split at e
    ·rename_i hc
     obtain rfl:=oi e
     skip
     cases eT with
     |cd e0 p cap=>
      refine⟨0,by simpa using hc,_,_,rfl,Nat.zero_le _,_,rfl,?_⟩
      simp only[Az]at hc
      have z1:zm.toNat=0:=by omega
      have z2:zl.toNat=0:=by omega
      have z3:zh.toNat=0:=by omega
      simp only[z1,z2,z3,if_true,Nat.sub_self,List.drop_nil,List.take_nil]
      split
      ·exact .cd _ _ _
      ·exact .dead _
     |sl es cb off esz cap u bU g1 g2 g3 g4=>
      refine⟨_,hc,_,_,rfl,bU.1,_,rfl,?_⟩
      split
      ·rename_i he
       by_cases hhl:zh.toNat - zl.toNat=0
       ·simp only[hhl,List.take_zero]
        exact .cd _ _ _
       ·have ca:¬ zm.toNat=zl.toNat:=by omega
        simp only[if_neg ca,A5,Addr.add_lit]
        have hlen:((es.drop zl.toNat).take (zh.toNat - zl.toNat)).length=zh.toNat - zl.toNat:=by simp;omega
        have dH:∀ (i:Nat) c,((es.drop zl.toNat).take (zh.toNat - zl.toNat))[i]?=some c->es[zl.toNat+i]?=some c:=by
         intro i c hc
         rw[BP]at hc
         split at hc
         ·rw[Cf]at hc;exact hc
         ·cases hc
        have:=VR.sl (fm:=fm) (ts:=ts) ((es.drop zl.toNat).take (zh.toNat - zl.toNat)) cb (off+zl.toNat*esz) esz (zm.toNat - zl.toNat) (fun i o=>u (zl.toNat+i) o) (by rw[hlen];have:=bU.2;exact⟨by omega,by omega⟩)
         (fun c hc=>g1 c (Cj (BY hc)))
         (by
          intro i c o x hc ho
          have:=g2 (zl.toNat+i) c o x (dH i c hc) ho
          have e0:off+((zl.toNat+i)*esz+o)=off+zl.toNat*esz+(i*esz+o):=by rw[Nat.add_mul];omega
          rwa [e0]at this)
         (fun i c o x hc ho=>g3 (zl.toNat+i) c o x (dH i c hc) ho)
         (fun i c o x hc ho=>g4 (zl.toNat+i) c o x (dH i c hc) ho)
        rw[hlen]at this
        have anu:inf.size=esz:=by rw[he];exact anv
        rw[anu]
        exact this
      ·exact .dead _
    ·cases e
   ·split at e
    ·rename_i hc
     obtain rfl:=oi e
     skip
     cases eT with
     |cH _ _ _ _ _ _ _ _ _ hn=>exact⟨_,hc,_,_,rfl,hn,_,rfl,.dead _⟩
     |cI _ _ _ _ _ _ _ _ _ _ _ _ hn=>exact⟨_,hc,_,_,rfl,hn,_,rfl,.dead _⟩
     |cv=>exact⟨0,by simpa using hc,_,_,rfl,Nat.zero_le _,_,rfl,.dead _⟩
     |loc _ _ _ _ _ _ _ _ _ _ _ _ bI=>exact⟨_,hc,_,_,rfl,bI,_,rfl,.dead _⟩
    ·cases e
   ·cases e
  obtain⟨aa,cc,rfl,hle,yy,rfl,hyy⟩:=y5
  obtain⟨⟨c1,c2⟩,c3,c4⟩:=anb
  cases hvh
  cases hvm
  have h0:0<=zm:=by omega
  have h1:0<=zh:=by omega
  have h2:zm<=cc:=by omega
  have e1:zh<=((zm.toNat:Nat):Int):=by omega
  have e2:zl<=((zh.toNat:Nat):Int):=by omega
  have y6:(Instr.sliceBounds true nn cc vlo (some (.int kh zh)) (some (.int km zm))).run P w=.ok (zl.toNat,zh.toNat,zm.toNat) w:=by
   rcases jk with ⟨rfl,rfl⟩|⟨kl,vl,rfl,oC⟩
   ·simp only[Instr.sliceBounds,Instr.sliceBound,asIntOf,Sem.run_bind,Sem.run_pure,Result.andThen_ok,h0,h2,and_self,if_true,h1,e1]
    rfl
   ·cases oC
    simp only[Instr.sliceBounds,Instr.sliceBound,asIntOf,Sem.run_bind,Sem.run_pure,Result.andThen_ok,h0,h2,and_self,if_true,h1,e1,c1,e2,if_true,Option.isSome]
  have bf:(Instr.sliceAt t (.slice aa nn cc) vlo (some (.int kh zh)) (some (.int km zm))).run P w=.ok (.slice (if zm.toNat=zl.toNat then aa else aa.map (·.add (zl.toNat*inf.size))) (zh.toNat - zl.toNat) (zm.toNat - zl.toNat)) w:=by
   simp[Instr.sliceAt,run_underlying bW,Instr.slice,y6,sizeOf,typeInfo,ba]
  exact BN.pure h (hr _ _ bf) hyy
 ·cases e
theorem ah5 (hT:AQ P T) (h:HR N0 W0 fm ts H w) (hH:0<H.length) {kb:Nat} (hk:∀ k,kb<=k->k<kb+16->tb ts 0 k=none) {tm:Tm}{a:Act} (eF:CY fm ts tm a) {o:Oper}{d:De}
  (e:bE T kb o.op o.type tm H.get=some d):BN N0 W0 fm ts H w kb ((execOp a.eval o).run P w) d:=by
 have ev:∀ {x:Operand}{y:AV},bd tm x=some y->VR fm ts y (a.eval x):=fun hx=>rR eF hx
 unfold bE at e
 split at e
 ·rename_i x ho
  refine .iy h e fun y hy=>⟨_,?_,ev hy⟩
  simp[execOp,ho]
 ·rename_i x ho
  split at e
  ·rename_i hx
   split at e
   ·rename_i ti ht
    split at e
    ·rename_i el hd
     obtain rfl:=oi e
     have eT:=ev hx
     have hv:a.eval x=.slice none 0 0:=by
      generalize a.eval x=v at eT
      cases eT;rfl
     refine afm h hH hk el ti.el ?_
     simp only[execOp,ho,Sem.run_pure,hv]
    ·cases e
   ·cases e
  ·refine .iy h e fun y hy=>⟨_,?_,ev hy⟩
   simp[execOp,ho]
 ·
  rename_i c x y ho
  split at e
  ·rename_i b hb
   have hc:=ev hb
   have hcv:a.eval c=.bool b:=by
    generalize a.eval c=v at hc
    cases hc;rfl
   refine .iy h e fun z hz=>?_
   cases b with
   |true=>exact⟨a.eval x,by simp[execOp,ho,hcv,asBool],ev hz⟩
   |false=>exact⟨a.eval y,by simp[execOp,ho,hcv,asBool],ev hz⟩
  ·cases e
 ·
  rename_i el ho
  split at e
  ·rename_i ti ht
   obtain⟨i,hi,aw,_,z,hz,im⟩:=(hT.ok ht).info
   refine ahW (v:=z) hT ht h hH hk el (im fm ts) (hT.ok ht).aki e ?_
   simp[execOp,ho,Instr.alloc,zeroValue,typeInfo,hi,hz,newVar,newRow]
  ·cases e
 ·
  rename_i el x ho
  split at e
  ·rename_i ti x' ht hx
   split at e
   ·rename_i cs fO
    obtain⟨h1,h2⟩:=(ev hx).parts fO
    refine ahW (v:=a.eval x) hT ht h hH hk el h1 h2 e ?_
    simp[execOp,ho,Instr.box,newVar,newRow]
   ·cases e
  ·cases e
 ·
  rename_i t ps ho
  split at e
  ·rename_i ti ps' ht yU
   refine .iy h e fun y hy=>?_
   have hp:=aeo eF _ _ yU
   obtain⟨u,h1,h2⟩:=akv (P:=P) (w:=w) (ps:=ps.map fun(i,x)=>(i,a.eval x)) hT ht (by simpa using hp) hy
   exact⟨u,by simp only[execOp,ho];exact dY h1,h2⟩
  ·cases e
 ·
  rename_i t len ps ho
  split at e
  ·rename_i ti ps' ht yU
   have hp:=aeo eF _ _ yU
   exact amk (ps:=ps.map fun(i,x)=>(i,a.eval x)) hT ht h hH hk (by simpa using hp) e (fun v w' hr=>by simp only[execOp,ho];exact dY hr)
  ·cases e
 ·
  rename_i t x ho
  split at e
  ·rename_i ti x' ht hx
   refine .iy h e fun y hy=>?_
   obtain⟨u,h1,h2⟩:=af8 (P:=P) hT ht h (ev hx) hy
   exact⟨u,by simp only[execOp,ho];exact dY h1,h2⟩
  ·cases e
 ·
  rename_i t x y ho
  split at e
  ·rename_i ti x' y' ht hx hy
   split at e
   ·rename_i cs fO
    obtain⟨h1,h2⟩:=(ev hy).parts fO
    exact amt hT ht h hH hk (ev hx) h1 h2 e (fun w' hr=>by simp only[execOp,ho];exact amG hr)
   ·cases e
  ·cases e
 ·
  rename_i x ho
  split at e
  ·rename_i x' hx
   exact .iy h e fun y hy=>akI ho rfl (ev hx) hy
  ·cases e
 ·
  rename_i op t x y _ ho
  split at e
  ·rename_i ti x' y' ht hx hy
   refine .iy h e fun z hz=>?_
   obtain⟨u,h1,h2⟩:=aks (P:=P) (w:=w) (ox:=x) (oy:=y) hT ht (ev hx) (ev hy) hz
   exact⟨u,by simp only[execOp,ho];exact dY h1,h2⟩
  ·cases e
 ·
  rename_i op _ x ho
  split at e
  ·rename_i x' hx
   refine .iy h e fun z hz=>?_
   obtain⟨u,h1,h2⟩:=akU (P:=P) (w:=w) (ev hx) hz
   exact⟨u,by simp only[execOp,ho];exact dY h1,h2⟩
  ·cases e
 ·
  rename_i src dst x ho
  split at e
  ·rename_i si di x' hs hd hx
   cases hz:kI T H.get si di x' with
   |some z=>
    rw[hz,we]at e
    refine .iy h e fun z' ei=>?_
    obtain rfl:=oi ei
    obtain⟨u,h1,h2⟩:=akB (P:=P) hT hs hd h (ev hx) hz
    exact⟨u,by simp only[execOp,ho];exact dY h1,h2⟩
   |none=>
    rw[hz,ub]at e
    exact akz hT hs hd h (ev hx) e (fun a w' hr=>by simp only[execOp,ho];exact dY hr)
  ·cases e
 ·
  rename_i f x y ho
  split at e
  ·rename_i x' y' hx hy
   obtain rfl:=oi e
   have h1:=zM eF _ _ hx
   have h2:=zM eF _ _ hy
   refine .pure h (v:=.func f (x.map a.eval) (y.map a.eval)) ?_ ?_
   ·simp[execOp,ho,Instr.makeFunc]
   ·exact .fn f x' y' _ _ (by simpa using h1.1) (by simpa using h2.1) (fun i z v p q=>h1.2 i z v p (by simpa using q)) (fun i z v p q=>h2.2 i z v p (by simpa using q))
  ·cases e
 ·
  rename_i t l c ho
  split at e
  ·rename_i ti l' c' ht hl hc
   exact amq (P:=P) hT ht h hH hk (ev hl) (ev hc) e (fun v w' hr=>by simp only[execOp,ho];exact dY hr)
  ·cases e
 ·
  rename_i t x lo hi mx ho
  split at e
  ·rename_i mxv
   split at e
   ·split at e
    ·rename_i ti x' kh zh km zm ht hx hh hm
     split at e
     ·split at e
      ·rename_i hz
       obtain⟨rfl,rfl⟩:=hz
       exact amr (P:=P) hT ht h hH hk (ev hx) (ev hh) (ev hm) e (fun v w' hr=>by simp only[execOp,ho,Eb,A5];exact dY hr) rfl
      ·cases e
     ·exact af9 (P:=P) hT ht h (ev hx) (vlo:=none) (.inl ⟨rfl,rfl⟩) (ev hh) (ev hm) e (fun v w' hr=>by simp only[execOp,ho,Eb,A5];exact dY hr)
    ·cases e
   ·rename_i lov hiv
    split at e
    ·rename_i ti x' kl zl kh zh ht hx hl hh
     split at e
     ·rename_i km zm hm
      exact af9 (P:=P) hT ht h (ev hx) (vlo:=some (a.eval lov)) (.inr ⟨kl,_,rfl,ev hl⟩) (ev hh) (ev hm) e (fun v w' hr=>by simp only[execOp,ho,A5];exact dY hr)
     ·cases e
    ·cases e
   ·cases e
  ·split at e
   ·rename_i ti x' ht hx
    have fin:∀ (lY eP:Option AV),(∀ z,lY=some z->∃ v,lo.map a.eval=some v/\VR fm ts z v)->(lY=none->lo.map a.eval=none)->(∀ z,eP=some z->∃ v,hi.map a.eval=some v/\VR fm ts z v)->(eP=none->hi.map a.eval=none)->
      dW (nM ti x' lY eP)=some d->BN N0 W0 fm ts H w kb ((execOp a.eval o).run P w) d:=by
     intro lY eP h1 h2 h3 h4 e'
     refine .iy h e' fun z hz=>?_
     obtain⟨u,h5,h6⟩:=akT (P:=P) (w:=w) hT ht (ev hx) h1 h2 h3 h4 hz
     exact⟨u,by simp only[execOp,ho,Eb];exact dY h5,h6⟩
    split at e
    ·exact fin none none (by simp) (by simp) (by simp) (by simp) e
    ·rename_i lo
     split at e
     ·rename_i lY jk
      exact fin (some lY) none (fun z hz=>⟨_,rfl,by obtain rfl:=oi hz;exact ev jk⟩) (by simp) (by simp) (by simp) e
     ·cases e
    ·rename_i hi
     split at e
     ·rename_i eP rn
      exact fin none (some eP) (by simp) (by simp) (fun z hz=>⟨_,rfl,by obtain rfl:=oi hz;exact ev rn⟩) (by simp) e
     ·cases e
    ·rename_i lo hi
     split at e
     ·rename_i lY eP jk rn
      cases eC:ly H.get ti x' lY eP with
      |none=>
       rw[eC,ub]at e
       exact fin (some lY) (some eP) (fun z hz=>⟨_,rfl,by obtain rfl:=oi hz;exact ev jk⟩) (by simp) (fun z hz=>⟨_,rfl,by obtain rfl:=oi hz;exact ev rn⟩) (by simp) e
      |some z=>
       rw[eC,we]at e
       refine .iy h e fun z' ei=>?_
       obtain rfl:=oi ei
       unfold ly at eC
       split at eC
       ·rename_i lv k esz i n g
        split at eC
        ·rename_i el hd
         obtain⟨bW,⟨inf,ba,aw,_,_⟩,_⟩:=hT.slice ht hd
         split at eC
         ·rename_i kl l kh jj
          split at eC
          ·rename_i et ez es hg
           split at eC
           ·rename_i hc
            obtain⟨⟨rfl,ke⟩,⟨c1,c2⟩,c3⟩:=hc
            obtain rfl:=oi eC
            have eT:=ev hx
            have oC:=ev jk
            have hvh:=ev rn
            generalize hex:a.eval x=vx at eT
            generalize fP:a.eval lo=vl at oC
            generalize heh:a.eval hi=vh at hvh
            cases oC
            cases hvh
            have hb:=h.al lv k _ hg
            have h1:0<=jj:=by omega
            have h2:l<=((jj.toNat:Nat):Int):=by omega
            have run:∀ (p:Option Addr) (nn cp:Nat),jj.toNat<=cp->(Instr.sliceAt t (.slice p nn cp) (some (.int kl l)) (some (.int kh jj)) none).run P w=.ok (.slice (if cp=l.toNat then p else p.map (·.add (l.toNat*ti.el))) (jj.toNat - l.toNat) (cp - l.toNat)) w:=by
             intro p nn cp hcp
             have h3:jj<=cp:=by omega
             have y6:(Instr.sliceBounds true nn cp (some (.int kl l)) (some (.int kh jj)) none).run P w=.ok (l.toNat,jj.toNat,cp) w:=by
              simp only[Instr.sliceBounds,Instr.sliceBound,asIntOf,Sem.run_bind,Sem.run_pure,Result.andThen_ok,h1,h3,and_self,if_true,c1,h2]
             simp[Instr.sliceAt,run_underlying bW,Instr.slice,y6,sizeOf,typeInfo,ba,aw]
            cases eT with
            |cH _ _ _ _ _ _ p cp fp hn ha=>rw[fp]at hb;cases hb
            |cI _ _ _ _ _ _ p cp m' c fp ae hn ha=>rw[fp]at hb;have:=hb.gb.1;omega
            |cv _ _ _ a0 fp=>
             have kS:l.toNat=0:=by omega
             have dB:jj.toNat=0:=by omega
             refine⟨_,by simp only[execOp,ho,A5,Eb,hex,fP,heh];exact dY (run a0 0 0 (by omega)),?_⟩
             rw[kS,dB]
             simp
             exact .cv lv k ti.el _ fp
            |loc _ _ _ _ _ _ c cap cp p fp bB bI b9 ha=>
             rw[fp]at hb
             obtain⟨hA,hN⟩:=hb.gb.2.2 c cap rfl
             have hgc:g<=cap:=by
              obtain⟨cells,_,_,c3',_⟩:=hA
              omega
             refine⟨_,by simp only[execOp,ho,A5,Eb,hex,fP,heh];exact dY (run (some p) n cp (by omega)),?_⟩
             by_cases ca:cp=l.toNat
             ·rw[if_pos ca]
              refine .loc lv k ti.el (i+l.toNat) (jj.toNat - l.toNat) g c cap (cp - l.toNat) p fp (by omega) (by omega) (by omega) ?_
              intro hz
              rcases hz with hz|hz
              ·omega
              ·have pO:i=0:=by omega
               have kS:l.toNat=0:=by omega
               subst pO
               rw[kS]
               exact ha (.inr rfl)
             ·simp only[if_neg ca,A5]
              have hp:=ha (.inl (by omega))
              subst hp
              rw[Addr.add_lit,<-Nat.add_mul]
              exact .loc lv k ti.el (i+l.toNat) (jj.toNat - l.toNat) g c cap (cp - l.toNat) _ fp (by omega) (by omega) (by omega) (fun _=>rfl)
           ·cases eC
          ·cases eC
         ·cases eC
        ·cases eC
       ·cases eC
     ·cases e
   ·cases e
 ·
  rename_i s x f ho
  split at e
  ·rename_i ti x' ht hx
   refine .iy h e fun z hz=>?_
   obtain⟨u,h1,h2⟩:=akD (P:=P) (w:=w) hT ht (ev hx) hz
   exact⟨u,by simp only[execOp,ho];exact dY h1,h2⟩
  ·cases e
 ·
  rename_i s x f ho
  split at e
  ·rename_i ti x' ht hx
   refine .iy h e fun z hz=>?_
   obtain⟨u,h1,h2⟩:=akE (P:=P) (w:=w) hT ht (ev hx) hz
   exact⟨u,by simp only[execOp,ho];exact dY h1,h2⟩
  ·cases e
 ·
  rename_i t x i ho
  split at e
  ·rename_i ti x' i' ht hx hi
   refine .iy h e fun z hz=>?_
   obtain⟨u,h1,h2⟩:=akF (P:=P) (w:=w) hT ht (ev hx) (ev hi) hz
   exact⟨u,by simp only[execOp,ho];exact dY h1,h2⟩
  ·cases e
 ·
  rename_i t x i ho
  split at e
  ·rename_i ti x' i' ht hx hi
   refine .iy h e fun z hz=>?_
   obtain⟨u,h1,h2⟩:=akG (P:=P) (w:=w) hT ht (ev hx) (ev hi) hz
   exact⟨u,by simp only[execOp,ho];exact dY h1,h2⟩
  ·cases e
 ·
  rename_i x i ho
  split at e
  ·rename_i xs hx
   have eT:=ev hx
   refine .iy h e fun z hz=>?_
   obtain⟨vs,bj,h1,h2⟩:∃ vs:Array Value,a.eval x=.tuple vs/\xs.length=vs.size/\∀ (i:Nat) x v,xs[i]?=some x->vs[i]?=some v->VR fm ts x v:=by
    generalize a.eval x=v at eT
    cases eT with
    |ar _ vs h1 h2=>exact⟨vs,rfl,h1,h2⟩
   have ae:i<vs.size:=by rw[<-h1];exact(gS.1 hz).1
   exact⟨vs[i],by simp[execOp,ho,Instr.extract,bj,ae],h2 i z _ hz (Bv ae)⟩
  ·cases e
 ·
  rename_i t x ho
  split at e
  ·rename_i ti l k esz i n g ht hx
   have eT:=ev hx
   split at e
   ·rename_i m el hd
    obtain⟨bW,_⟩:=hT.array ht hd
    split at e
    ·rename_i hc
     obtain⟨rfl,hmn,hm⟩:=hc
     obtain rfl:=oi e
     obtain⟨ad,cp,bj,hp⟩:∃ ad cp,a.eval x=.slice (some ad) n cp/\VR fm ts (.bq l k ti.el i 0 g) (.pointer (some ad)):=by
      generalize a.eval x=v at eT
      cases eT with
      |cH _ _ _ _ _ _ a' aY aE hn ha=>
       obtain⟨p,rfl⟩:=ha (by omega)
       exact⟨p,aY,rfl,.ey _ _ _ _ _ _ _ aE⟩
      |cI _ _ _ _ _ _ a' aY m' c aE ae hn ha=>
       obtain⟨p,rfl⟩:=ha (by omega)
       exact⟨p,aY,rfl,.eA _ _ _ _ _ _ _ m' c aE ae⟩
      |cv=>omega
      |loc _ _ _ _ _ _ c cap aY a' aE bB bI b9 ha=>
       refine⟨a',aY,rfl,?_⟩
       rw[ha (.inl (by omega))]
       exact .bq l k ti.el i 0 g c cap aE
     refine .pure h (v:=.pointer (some ad)) ?_ hp
     have:=run_arrayAt (P:=P) w t el m (some ad) n cp bW hmn
     simp only[execOp,ho,bj]
     exact dY this
    ·cases e
   ·cases e
  ·cases e
 ·
  rename_i t x ho
  split at e
  ·rename_i ti x' ht hx
   split at e
   ·cases e
   ·rename_i hd
    obtain rfl:=oi e
    obtain⟨dd,ng,bg⟩:=hT.ao1 ht hd
    refine .pure h (v:=.iface t (a.eval x)) ?_ (.bR t x' _ (ev hx))
    simp only[execOp,ho]
    refine dY ?_
    simp only[Instr.makeInterface,Sem.run_bind,run_underlying ng,Result.andThen_ok]
    cases dd<;>first|rfl|(exact absurd rfl (bg _))
  ·cases e
 ·
  rename_i c ho
  split at e
  ·rename_i b hb
   split at e
   ·rename_i xs fV
    have hv:=zM eF _ _ fV
    have:=akx (P:=P) (ty:=o.type) (cs:=c.args.map fun|.const _=>true|_=>false) hT h hH hk hv e
    have e1:(execOp a.eval o).run P w=(builtin b c.argTypes o.type (c.args.map fun|.const _=>true|_=>false) (c.args.toList.map a.eval).toArray).run P w:=by
     simp only[execOp,ho,resolve,hb,Sem.run_bind,Sem.run_pure,Result.andThen_ok,invoke]
     congr 2
     apply Array.toList_inj.1
     simp
    rw[e1];exact this
   ·cases e
  ·cases e
 ·cases e
end
class Md where
 rnd:Option Nat
 uX:List Deferred
 mps:Nat->Option Obj:=fun _=>none
instance (priority:=10) kY:Md:=⟨none,[],fun _=>none⟩
def Dw [Md] (W0:World):Prop:=∀ l o,Md.mps l=some o->W0.heap[l]?=some o/\zQ o=true
theorem Dw.kY (W0:World):@Dw kY W0:=fun _ _ h=>by cases h
section
variable [Md]
def FW:Fence:={ fn:=fun _=>True,depth:=none,alive:=false,round:=Md.rnd }
theorem alD {P:Program}{n:Nat}{f:FuncId}{args:Array Value}{w:World}{R:Ending->World->Prop} (h:Calls P f args w R):CallsIn FW n P f args w R:=
 callsIn_wide.2 h
theorem zO {P:Program}{o:Oper}{a:Act}{w w':World}{next:Act->World->Prop}{Q:Exit->Act->World->Prop}{v:Value} (hd:∀ c,o.op≠.defer c) (hr:(execOp a.eval o).run P w=.ok (.value v) w') (h:next (a.put o.dst v) w'):o.wpIn FW 0 P a w next Q:=
 ⟨fun _ _=>trivial,by rw[Oper.semAt_eq _ _ _ hd,hr];exact h⟩
theorem aei {P:Program}{o:Oper}{a:Act}{w w':World}{next:Act->World->Prop}{Q:Exit->Act->World->Prop} (hd:∀ c,o.op≠.defer c) (hr:(execOp a.eval o).run P w=.ok .skip w') (h:next (a.put o.dst undef) w'):o.wpIn FW 0 P a w next Q:=
 ⟨fun _ _=>trivial,by rw[Oper.semAt_eq _ _ _ hd,hr];exact h⟩
theorem zN {P:Program}{o:Oper}{a:Act}{w w':World}{next:Act->World->Prop}{Q:Exit->Act->World->Prop}{f:FuncId}{args:Array Value} (hd:∀ c,o.op≠.defer c) (hr:(execOp a.eval o).run P w=.ok (.enter f args) w')
  (h:Calls P f args w' fun
   |.returned v,uv=>next (a.put o.dst v) uv
   |.panicked chain,uv=>Q (.panic chain) a uv
   |.outgrown,_=>LetsOut Q):o.wpIn FW 0 P a w next Q:=
 ⟨fun _ _=>trivial,by rw[Oper.semAt_eq _ _ _ hd,hr,Oper.uponIn_enter];exact⟨fun h=>by simp[FW]at h,alD h⟩⟩
theorem apf {P:Program}{o:Oper}{a:Act}{w w':World}{next:Act->World->Prop}{Q:Exit->Act->World->Prop}{v:Value} (hd:∀ c,o.op≠.defer c) (hr:(execOp a.eval o).run P w=.halt (.panic v) w') (h:Q (.panic [{ v,recovered:=false }]) a w'):o.wpIn FW 0 P a w next Q:=
 ⟨fun _ _=>trivial,by rw[Oper.semAt_eq _ _ _ hd,hr];exact h⟩
theorem aq4 {P:Program}{Q:Exit->Act->World->Prop}{a:Act}{w:World}{c:Code} (h:c.wpIn FW 0 P (Exit.noGoto Q) a w):(Code.scope c).wpIn FW 0 P Q a w:=by
 intro b k cs hro hb hr
 have s1:step P (lone (b.atR a (.code (.scope c)::k)) cs w)=.next (lone (b.atR a (.code c::.inScope c::k)) cs w):=
  step_lone_go (by simp[stepG,stepG.exec,Frame.atR])
 have s2:∀ a w,step P (lone (b.atR a (.inScope c::k)) cs w)=.next (lone (b.atR a k) cs w):=fun a w=>
  step_lone_go (by simp[stepG,stepG.exec,Frame.atR])
 have h0:(lone (b.atR a (.code (.scope c)::k)) cs w).fenced P FW:=fenced_calm hb hr rfl
 obtain⟨e,xi,aas,hq,vA⟩:=h b (.inScope c::k) cs hro hb hr
 cases e with
 |normal=>exact⟨.normal,xi,aas,hq,.head h0 s1 (StepsIn.trans vA (.one (fenced_calm hb hr rfl) (s2 _ _)))⟩
 |exit id=>
  have hx:exitTo id (.inScope c::k)=exitTo id k:=by simp[exitTo]
  exact⟨.exit id,xi,aas,hq,fun k' hk=>.head h0 s1 (vA.1 k' (by rw[hx];exact hk)),fun hr' hk=>let ⟨k₁,h1,h2⟩:=vA.2 hr' (by rw[hx];exact hk);⟨k₁,h1,.head h0 s1 h2⟩⟩
 |goto l=>exact hq.elim
 |ret=>exact⟨_,xi,aas,hq,.of_steps (.one h0 s1) vA⟩
 |panic ch=>exact⟨_,xi,aas,hq,.of_steps (.one h0 s1) vA⟩
 |outgrown=>exact⟨_,xi,aas,hq,.of_steps (.one h0 s1) vA⟩
theorem xe {P:Program}{c:Code}{Q:Exit->Act->World->Prop}{a:Act}{w:World} (d:List Deferred):c.wpIn (@FW ⟨none,d,fun _=>none⟩) 0 P Q a w↔c.wp P Q a w:=wpIn_wide
end
inductive BF where
 |code (c:Code)
 |al (id:Nat)
 |gP
 |ops (arr:Array Oper) (l:List Nat)
 |back (R:Act->World->Prop)
section
variable [Md]
def K (P:Program) (Q:Exit->Act->World->Prop):List BF->Exit->Act->World->Prop
 |[],e,a,w=>Q e a w
 |.code c::t,e,a,w=>match e with
  |.normal=>c.wpIn FW 0 P (K P Q t) a w
  |e=>K P Q t e a w
 |.al id::t,e,a,w=>match e with
  |.exit rE=>if rE=id then K P Q t .normal a w else K P Q t (.exit rE) a w
  |e=>K P Q t e a w
 |.gP::t,e,a,w=>match e with
  |.goto _=>False
  |e=>K P Q t e a w
 |.ops arr l::t,e,a,w=>match e with
  |.normal=>wpOpsIn FW 0 P arr (K P Q t) l a w
  |e=>K P Q t e a w
 |.back R::t,e,a,w=>match e with
  |.normal=>R a w
  |e=>K P Q t e a w
end
section
variable [Md] {P:Program}{Q:Exit->Act->World->Prop}{a:Act}{w:World}{t:List BF}
theorem ER (c:Code):K P Q (.code c::t) .normal a w=c.wpIn FW 0 P (K P Q t) a w:=rfl
theorem Ib (c:Code):K P Q (.code c::t)=Exit.then (c.wpIn FW 0 P (K P Q t)) (K P Q t):=by
 funext e a w;cases e<;>rfl
theorem Ia (id:Nat):K P Q (.al id::t)=Exit.inBlock id (K P Q t):=by
 funext e a w;cases e<;>rfl
theorem H9 (R:Act->World->Prop):K P Q (.back R::t)=Exit.then R (K P Q t):=by
 funext e a w;cases e<;>rfl
theorem Iq:K P Q (.gP::t)=Exit.noGoto (K P Q t):=by
 funext e a w;cases e<;>rfl
theorem Ir (h:K P Q t .normal a w):K P Q (.code .skip::t) .normal a w:=wpIn_skip h
theorem Ih {l:Nat} (h:K P Q t .normal a w):K P Q (.code (.label l)::t) .normal a w:=wpIn_label h
theorem C1 {x y:Code} (h:K P Q (.code x::.code y::t) .normal a w):K P Q (.code (.seq x y)::t) .normal a w:=by
 refine wpIn_seq ?_
 rw[ER,Ib]at h
 exact h
theorem Ic {c:Operand}{x y:Code}{b:Bool} (hc:a.eval c=.bool b) (h:K P Q (.code (if b then x else y)::t) .normal a w):K P Q (.code (.cond c x y)::t) .normal a w:=wpIn_cond hc h
theorem D8 {id:Nat}{c:Code} (h:K P Q (.code c::.al id::t) .normal a w):K P Q (.code (.block id c)::t) .normal a w:=by
 refine wpIn_block ?_
 rw[ER,Ia]at h
 exact h
theorem Ip {c:Code} (h:K P Q (.code c::.gP::t) .normal a w):K P Q (.code (.scope c)::t) .normal a w:=by
 refine aq4 ?_
 rw[ER,Iq]at h
 exact h
theorem FF {id:Nat}{ops:Array Oper} (h:K P Q (.ops ops (List.range ops.size)::t) .normal a w):K P Q (.code (.region id ops false)::t) .normal a w:=wpIn_region h
theorem Ig {id:Nat} (h:K P Q t (.exit id) a w):K P Q (.code (.exit id)::t) .normal a w:=wpIn_exit h
theorem Io (h:K P Q t .ret a w):K P Q (.code .ret::t) .normal a w:=wpIn_ret h
theorem Dv (h:Q .ret a w):∀ t:List BF,K P Q t .ret a w
 |[]=>h
 |.code _::t=>Dv h t
 |.al _::t=>Dv h t
 |.gP::t=>Dv h t
 |.ops _ _::t=>Dv h t
 |.back _::t=>Dv h t
theorem DN {ch:List PanicEntry} (h:Q (.panic ch) a w):∀ t:List BF,K P Q t (.panic ch) a w
 |[]=>h
 |.code _::t=>DN h t
 |.al _::t=>DN h t
 |.gP::t=>DN h t
 |.ops _ _::t=>DN h t
 |.back _::t=>DN h t
theorem FD {c:Code} (I:Nat->Act->World->Prop) (m:Nat) (h0:I m a w)
  (h:∀ m a w,I m a w->K P Q (.code c::.back (fun a' w'=>∃ m',m'<m/\I m' a' w')::t) .normal a w):K P Q (.code (.loop c)::t) .normal a w:=by
 refine wpIn_loop_rounds (m+1) ?_
 have key:∀ (n m:Nat),m<n->∀ a w,I m a w->Code.roundsIn FW 0 P c (K P Q t) n a w:=by
  intro n
  induction n with
  |zero=>intro m h;omega
  |succ n ih=>
   intro m hm a w hI
   have:=h m a w hI
   rw[ER,H9]at this
   refine wpIn_mono this ?_
   intro e a' w' he
   cases e with
   |normal=>
    obtain⟨m',h1,h2⟩:=he
    exact ih m' (by omega) a' w' h2
   |_=>exact he
 exact key (m+1) m (by omega) a w h0
end
def jX (o:An):An:=⟨o.dst,o.op,o.type,o.guard,[]⟩
def SC.bare:SC->SC
 |.lf ops=>.lf (ops.map jX)
 |.aO ops mo _=>.aO (ops.map jX) mo []
 |.seq a b=>.seq a.bare b.bare
 |.cond c x y=>.cond c x.bare y.bare
 |.block id b=>.block id b.bare
 |.loop b=>.loop b.bare
 |.skip=>.skip
 |.exit id=>.exit id
 |.ret=>.ret
 |.other=>.other
 |.mark b=>b.bare
def vU (acc:List Nat):List Nat->List Nat
 |[]=>acc
 |x::l=>vU (if acc.contains x then acc else acc++[x]) l
def pf (befs:List (List Nat)):List Nat->List Edge->List Nat
 |acc,[]=>acc
 |acc,e::l=>pf befs (if Region.binds .any e then vU (vU acc ((befs[e.on]?).getD [])) [e.on] else acc) l
def pj (befs:List (List Nat)):List Oper->List (List Nat)
 |[]=>befs
 |o::l=>pj (befs++[pf befs [] o.after.toList]) l
def mz (n:Nat) (ops:Array Oper) (o:Oper):An:=
 ⟨o.dst,o.op,o.type,o.guard.map fun g=>(((ops[g.1]?).bind (·.dst)).getD n,g.2),[]⟩
def erase (n:Nat):Code->SC
 |.skip=>.skip
 |.region _ ops false=>.lf (ops.toList.map (mz n ops))
 |.region _ ops true=>.aO (ops.toList.map (mz n ops)) (pj [] ops.toList) []
 |.seq a b=>.seq (erase n a) (erase n b)
 |.cond c x y=>.cond c (erase n x) (erase n y)
 |.block id b=>.block id (erase n b)
 |.loop b=>.loop (erase n b)
 |.exit id=>.exit id
 |.ret=>.ret
 |.label _=>.skip
 |.scope b=>erase n b
 |_=>.other
def SC.fits (n:Nat):SC->Bool
 |.lf ops=>ops.all fun o=>match o.dst with|some d=>decide (d<n)|none=>true
 |.aO ops _ _=>ops.all fun o=>match o.dst with|some d=>decide (d<n)|none=>true
 |.seq a b=>a.fits n&&b.fits n
 |.cond _ x y=>x.fits n&&y.fits n
 |.block _ b=>b.fits n
 |.loop b=>b.fits n
 |_=>true
section
variable [Md]
structure SR (N0:Nat) (W0:World) (n:Nat) (st:St) (a:Act) (w:World) (fm:FM) (ts:List Ak):Prop where
 hr:HR N0 W0 fm ts (st.fr::st.low) w
 tm:CY fm ts (look st.tm) a
 nx:∀ k,st.nx<=k->tb ts 0 k=none
 size:a.tmps.size=n
 dX:a.defers=Md.uX/\Dw W0
structure Be (N0:Nat) (fm:FM) (ts:List Ak) (fm':FM) (ts':List Ak):Prop where
 cS:AN N0 fm fm'
 jT:As (ts.drop 1) (ts'.drop 1)
 no:∀ l k,tb (ts.drop 1) l k=none->tb (ts'.drop 1) l k=none
theorem Be.refl {N0:Nat} (fm:FM) (ts:List Ak):Be N0 fm ts fm ts:=⟨AN.refl _ _,As.refl _,fun _ _ h=>h⟩
theorem Be.trans {N0:Nat}{f1 f2 f3:FM}{t1 t2 t3:List Ak} (h:Be N0 f1 t1 f2 t2) (k:Be N0 f2 t2 f3 t3):Be N0 f1 t1 f3 t3:=
 ⟨h.cS.trans k.cS,h.jT.trans k.jT,fun l j e=>k.no l j (h.no l j e)⟩
theorem zT (a:Act) (dst:Option Tmp) (v:Value):(a.put dst v).tmps.size=a.tmps.size:=by
 cases dst<;>simp[Act.put]
theorem wg (a:Act) (dst:Option Tmp) (v:Value):(a.put dst v).defers=a.defers:=by
 cases dst<;>rfl
theorem CY.put {fm:FM}{ts:List Ak}{tm:List (Nat×AV)}{a:Act} (h:CY fm ts (look tm) a) {dst:Option Tmp}{x:AV}{v:Value} (hv:VR fm ts x v) (hd:∀ d,dst=some d->d<a.tmps.size) (drop:List Nat):
  CY fm ts (look (cA (mO tm dst x) drop)) (a.put dst v):=by
 intro t y hy
 replace hy:=zx drop _ t y hy
 cases dst with
 |none=>exact h t y hy
 |some d=>
  simp only[mO,rN]at hy
  have ae:=hd d rfl
  split at hy
  ·rename_i e
   subst e
   obtain rfl:=oi hy
   exact⟨v,by simp[Act.put,ae],hv⟩
  ·rename_i e
   obtain⟨u,h1,h2⟩:=h t y hy
   exact⟨u,by simp only[Act.put];rw[Array.getElem?_setIfInBounds_ne e];exact h1,h2⟩
theorem CY.mono {fm fm':FM}{ts ts':List Ak}{tm:Tm}{a:Act} (h:CY fm ts tm a) (hf:AZ fm fm') (ht:As ts ts'):CY fm' ts' tm a:=by
 intro t x hx
 obtain⟨v,h1,h2⟩:=h t x hx
 exact⟨v,h1,h2.mono hf ht⟩
theorem ajs (st:St) (f:Av) (H:Heap):St.ux st (f::H)={ st with fr:=f,low:=H }:=rfl
theorem ud (f:Av) (H:Heap) (s:List (Nat×Nat×Option AH)):∃ f' H',Heap.bL (f::H) s=f'::H':=by
 have:=Heap.ahE s (f::H)
 cases h:Heap.bL (f::H) s with
 |nil=>rw[h]at this;simp at this
 |cons f' H'=>exact⟨f',H',rfl⟩
theorem SR.by {N0:Nat}{W0:World}{n:Nat}{st:St}{a:Act}{w:World}{fm:FM}{ts:List Ak} (h:SR N0 W0 n st a w fm ts) {r:Result Next}{d:De}{fm':FM}{ts':List Ak}{w':World}{v:Value}
  (o:Out N0 W0 fm ts (st.fr::st.low) w st.nx r d fm' ts' w' v) {dst:Option Tmp} (hd:∀ d,dst=some d->d<n) (drop:List Nat):
  SR N0 W0 n (st.by dst drop d) (a.put dst v) w' fm' ts'/\Be N0 fm ts fm' ts':=by
 obtain⟨f',H',hp⟩:=ud st.fr st.low d.lp
 have hb:st.by dst drop d={ st with tm:=cA (mO st.tm dst d.val) drop,nx:=st.nx+16,fr:=f',low:=H' }:=by
  unfold St.by;rw[hp];rfl
 rw[hb]
 refine⟨⟨?_,?_,?_,?_,?_⟩,⟨o.cS,o.jT.drop 1,?_⟩⟩
 ·have:=o.hr;rw[hp]at this;exact this
 ·exact(h.tm.mono o.cS.le o.jT).put o.val (by rw[h.size];exact hd) drop
 ·intro k hk
  have eQ:st.nx+16<=k:=hk
  exact o.free 0 k (by omega) (h.nx k (by omega))
 ·rw[zT];exact h.size
 ·rw[wg];exact h.dX
 ·intro l k hn
  rw[fg]at hn ⊢
  exact o.free (l+1) k (by omega) hn
theorem SR.mg {N0:Nat}{W0:World}{n:Nat}{st:St}{a:Act}{w:World}{fm:FM}{ts:List Ak} (h:SR N0 W0 n st a w fm ts) {o:An} (hd:∀ d,o.dst=some d->d<n):
  SR N0 W0 n (st.mg o) (a.put o.dst undef) w fm ts:=by
 have ho:Out N0 W0 fm ts (st.fr::st.low) w st.nx (.ok .skip w) ⟨.ar [],[]⟩ fm ts w undef:=
  ⟨.inr ⟨rfl,rfl⟩,h.hr,.ar [] #[] rfl (fun i x v h=>by simp at h),AN.refl _ _,As.refl _,fun _ _ _ h=>h⟩
 exact(h.by ho hd o.drop).1
inductive Bo (N0:Nat) (W0:World) (n:Nat) (fm:FM) (ts:List Ak):List It->List BF->Prop
 |nil:Bo N0 W0 n fm ts [] []
 |sc {s:SC}{c:Code}{t ct} (h:s.bare=erase n c) (hf:(erase n c).fits n=true) (ht:Bo N0 W0 n fm ts t ct):Bo N0 W0 n fm ts (.sc s::t) (.code c::ct)
 |al {id:Nat}{t ct} (ht:Bo N0 W0 n fm ts t ct):Bo N0 W0 n fm ts (.al id::t) (.al id::ct)
 |gP {t ct} (ht:Bo N0 W0 n fm ts t ct):Bo N0 W0 n fm ts t (.gP::ct)
 |ops {l:List An}{arr:Array Oper}{is:List Nat}{t ct} (h:l.map jX=is.map fun i=>mz n arr (arr.getD i default)) (hi:∀ i∈is,i<arr.size) (hf:∀ o∈l,∀ d,o.dst=some d->d<n) (ht:Bo N0 W0 n fm ts t ct):Bo N0 W0 n fm ts (.ops l::t) (.ops arr is::ct)
 |back {B:St->Prop}{R:Act->World->Prop}{t ct} (h:∀ ao a' w' fm' ts',B ao->SR N0 W0 n ao a' w' fm' ts'->Be N0 fm ts fm' ts'->R a' w') (ht:Bo N0 W0 n fm ts t ct):Bo N0 W0 n fm ts (.back B::t) (.back R::ct)
theorem Bo.later {N0:Nat}{W0:World}{n:Nat}{fm fm':FM}{ts ts':List Ak} (hl:Be N0 fm ts fm' ts') {t:List It}{ct:List BF} (h:Bo N0 W0 n fm ts t ct):Bo N0 W0 n fm' ts' t ct:=by
 induction h with
 |nil=>exact .nil
 |sc h hf _ ih=>exact .sc h hf ih
 |al _ ih=>exact .al ih
 |gP _ ih=>exact .gP ih
 |ops h hi hf _ ih=>exact .ops h hi hf ih
 |back h _ ih=>exact .back (fun ao a' w' dS du hB hS hL=>h ao a' w' dS du hB hS (hl.trans hL)) ih
end
end Go.Abs
