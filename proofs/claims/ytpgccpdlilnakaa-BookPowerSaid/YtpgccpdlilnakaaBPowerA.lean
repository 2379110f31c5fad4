/-
  Part 1 of the proof: a machine over named blocks, what each function computes, and what follows. No condition.
-/
import Derived.Calls
import Derived.Below
import Derived.Laws.AppendOwn
import Derived.Laws.MakeOwn
import Derived.Laws.CopyRow
import Derived.Laws.Entries
import Derived.Laws.StructEq
import Derived.Laws.Small
import Derived.Laws.Slices
import Derived.Laws.Panics
import Derived.ChangeKeysEq
import Derived.Shelf.Abstract
import Derived.WideLaws
import Derived.Laws.Shifts
import Derived.Laws.Strings
import Derived.Laws.BytesString
import Derived.Laws.Tables
import Derived.Laws.Unary
import Derived.Laws.Cover3
import Derived.Laws.Build
import Derived.Great.FillDense
import Derived.Great.BuildSlice
import Derived.Deep.AppendSrc
import Derived.Lib.AppendZerosOnto
import Derived.Laws.IdiomStrings
import Derived.LoopNIn
import Derived.OrdersIn
import Derived.Scope
set_option linter.unusedVariables false
set_option linter.unusedSimpArgs false
set_option linter.all false
namespace Go.Abs
universe u v
theorem oi {α:Type u}{a b:α} (h:some a=some b):a=b:=Option.some.inj h
theorem oE {α:Type u} (a b:α):(some a=some b)=(a=b):=Option.some.injEq a b
theorem gS {α:Type u}{l:List α}{i:Nat}{a:α}:l[i]?=some a↔∃ h:i<l.length,l[i]=a:=List.getElem?_eq_some_iff
theorem gG {α:Type u}{l:List α}{i:Nat} (h:i<l.length):l[i]?=some l[i]:=List.getElem?_eq_getElem h
theorem mS {α:Type u}{β:Type v}{x:Option α}{f:α→β}{b:β}:x.map f=some b↔∃ a,x=some a∧f a=b:=Option.map_eq_some_iff
end Go.Abs

namespace Go.Abs
open Go
inductive AV where
 |bool (b:Bool)
 |int (k:IntKind) (n:Int)
 |str (s:ByteArray)
 |nil
 |sl (esz:Nat) (es:List (List AV))
 |loc (l key esz i n g:Nat)
 |inn (l key esz o n:Nat)
 |pnil
 |ptr (l key o:Nat)
 |eptr (l key esz i o g:Nat)
 |rptr (esz:Nat) (es:List (List AV)) (i o:Nat)
 |fnil
 |fn (f:Fn) (first cap:List AV)
 |inil
 |ifc (t:TypeId) (v:AV)
 |agg (cs:List AV)
 |tup (vs:List AV)
 |dead
 deriving Inhabited
inductive TD where
 |int (k:IntKind)
 |bool
 |str
 |slice (e:TypeId)
 |array (n:Nat) (e:TypeId)
 |struct
 |ptr (e:TypeId)
 |map (k e:TypeId)
 |func
 |iface
 deriving Inhabited,DecidableEq
structure TI where
 size:Nat
 bytes:Nat
 zero:List AV
 d:TD
 el:Nat
 elb:Nat
 elAgg:Bool
 elz:List AV
 fl:List (Nat×Nat×Bool)
 pl:Bool
 sc:List (Nat×TypeId×Nat)
 deriving Inhabited
def TI.isAgg (ti:TI):Bool:=
 match ti.d with
 |.struct|.array _ _=>true
 |_=>false
abbrev Tys:=Nat→Option TI
inductive Blk where
 |arr (et:TypeId) (esz:Nat) (es:List (List AV))
 |box (cs:List AV)
 deriving Inhabited
abbrev Fra:=List (Nat×Blk)
abbrev Zam:=List Fra
abbrev Get:=Nat→Nat→Option Blk
structure St where
 tm:List (Nat×AV)
 fr:Fra
 low:Zam
 nx:Nat
 nt:Nat
def look {α:Type}:List (Nat×α)→Nat→Option α
 |[],_=>none
 |(k,x)::l,t=>if k=t then some x else look l t
def ins {α:Type}:List (Nat×α)→Nat→α→List (Nat×α)
 |[],t,v=>[(t,v)]
 |(k,x)::l,t,v=>if t<k then (t,v)::(k,x)::l else if t=k then (t,v)::l else (k,x)::ins l t v
def del {α:Type}:List (Nat×α)→Nat→List (Nat×α)
 |[],_=>[]
 |(k,x)::l,t=>if k=t then del l t else (k,x)::del l t
def Ze6 {α:Type} (l:List (Nat×α)):List Nat→List (Nat×α)
 |[]=>l
 |t::ts=>Ze6 (del l t) ts
def Zam.get:Zam→Nat→Nat→Option Blk
 |[],_,_=>none
 |f::_,0,key=>look f key
 |_::H,l+1,key=>Zam.get H l key
def Zam.put:Zam→Nat→Nat→Option Blk→Zam
 |[],_,_,_=>[]
 |f::H,0,key,some b=>ins f key b::H
 |f::H,0,key,none=>del f key::H
 |f::H,l+1,key,b=>f::Zam.put H l key b
def Zam.puts:Zam→List (Nat×Nat×Option Blk)→Zam
 |H,[]=>H
 |H,(l,k,b)::r=>Zam.puts (H.put l k b) r
mutual
def AV.sh (d:Nat):AV→AV
 |.loc l k e i n g=>.loc (l+d) k e i n g
 |.inn l k e o n=>.inn (l+d) k e o n
 |.ptr l k o=>.ptr (l+d) k o
 |.eptr l k e i o g=>.eptr (l+d) k e i o g
 |.fn f a b=>.fn f (AV.shL d a) (AV.shL d b)
 |.ifc t v=>.ifc t (v.sh d)
 |.agg cs=>.agg (AV.shL d cs)
 |.tup vs=>.tup (AV.shL d vs)
 |.bool b=>.bool b
 |.int k n=>.int k n
 |.str s=>.str s
 |.nil=>.nil
 |.sl e es=>.sl e es
 |.pnil=>.pnil
 |.rptr e es i o=>.rptr e es i o
 |.fnil=>.fnil
 |.inil=>.inil
 |.dead=>.dead
def AV.shL (d:Nat):List AV→List AV
 |[]=>[]
 |x::l=>x.sh d::AV.shL d l
end
def ZlF (d l:Nat):Option Nat:=if d≤l then some (l - d) else none
mutual
def AV.un (d:Nat):AV→Option AV
 |.loc l k e i n g=>(ZlF d l).map fun l=>.loc l k e i n g
 |.inn l k e o n=>(ZlF d l).map fun l=>.inn l k e o n
 |.ptr l k o=>(ZlF d l).map fun l=>.ptr l k o
 |.eptr l k e i o g=>(ZlF d l).map fun l=>.eptr l k e i o g
 |.fn f a b=>match AV.unL d a,AV.unL d b with
  |some a,some b=>some (.fn f a b)
  |_,_=>none
 |.ifc t v=>(v.un d).map (.ifc t)
 |.agg cs=>(AV.unL d cs).map .agg
 |.tup vs=>(AV.unL d vs).map .tup
 |.bool b=>some (.bool b)
 |.int k n=>some (.int k n)
 |.str s=>some (.str s)
 |.nil=>some .nil
 |.sl e es=>some (.sl e es)
 |.pnil=>some .pnil
 |.rptr e es i o=>some (.rptr e es i o)
 |.fnil=>some .fnil
 |.inil=>some .inil
 |.dead=>some .dead
def AV.unL (d:Nat):List AV→Option (List AV)
 |[]=>some []
 |x::l=>match x.un d,AV.unL d l with
  |some x,some l=>some (x::l)
  |_,_=>none
end
mutual
def AV.frz (G:Get):AV→Option AV
 |.loc l k e i n g=>match G l k with
  |some (.arr _ esz es)=>if esz=e∧es.length=g∧i+n≤g then some (.sl e ((es.drop i).take n)) else none
  |_=>none
 |.nil=>some .nil
 |.ifc t v=>(v.frz G).map (.ifc t)
 |.agg cs=>(AV.frzL G cs).map .agg
 |.tup vs=>(AV.frzL G vs).map .tup
 |.bool b=>some (.bool b)
 |.int k n=>some (.int k n)
 |.str s=>some (.str s)
 |.sl e es=>some (.sl e es)
 |.pnil=>some .pnil
 |.fnil=>some .fnil
 |.inil=>some .inil
 |.rptr e es i o=>some (.rptr e es i o)
 |.fn f a b=>match AV.frzL G a,AV.frzL G b with
  |some a,some b=>some (.fn f a b)
  |_,_=>none
 |_=>none
def AV.frzL (G:Get):List AV→Option (List AV)
 |[]=>some []
 |x::l=>match x.frz G,AV.frzL G l with
  |some x,some l=>some (x::l)
  |_,_=>none
end
mutual
def AV.refs:AV→List (Nat×Nat)
 |.loc l k _ _ _ _=>[(l,k)]
 |.fn _ a b=>AV.refsL a++AV.refsL b
 |.ifc _ v=>v.refs
 |.agg cs=>AV.refsL cs
 |.tup vs=>AV.refsL vs
 |_=>[]
def AV.refsL:List AV→List (Nat×Nat)
 |[]=>[]
 |x::l=>x.refs++AV.refsL l
end
def Zes (r:List (Nat×Nat)):List (Nat×Nat×Option Blk):=r.map fun(l,k)=>(l,k,none)
def AV.flat:AV→Bool
 |.agg _=>false
 |.tup _=>false
 |.dead=>false
 |_=>true
mutual
def constAV:Value→Option AV
 |.bool b=>some (.bool b)
 |.int k n=>some (.int k n)
 |.string s=>some (.str s)
 |.slice none 0 0=>some .nil
 |.pointer none=>some .pnil
 |.nilFunc=>some .fnil
 |.nilIface=>some .inil
 |.agg ⟨cs⟩=>match constAVs cs with
  |some l=>if l.all AV.flat then some (.agg l) else none
  |none=>none
 |_=>none
def constAVs:List Value→Option (List AV)
 |[]=>some []
 |x::l=>match constAV x,constAVs l with
  |some x,some l=>some (x::l)
  |_,_=>none
end
abbrev Tm:=Nat→Option AV
def opv (tm:Tm):Operand→Option AV
 |.tmp t=>tm t
 |.const v=>constAV v
 |.func f=>some (.fn (.func f) [] [])
 |.global _=>none
def Zlk (tm:Tm):List Operand→Option (List AV)
 |[]=>some []
 |x::l=>match opv tm x,Zlk tm l with
  |some x,some l=>some (x::l)
  |_,_=>none
def AV.cells:AV→Option (List AV)
 |.agg cs=>some cs
 |.tup _=>none
 |.dead=>none
 |v=>some [v]
def Zfs (es:List (List AV)) (i o size:Nat):Option (List AV):=
 match es[i]? with
 |none=>none
 |some c=>
  if o+size≤c.length then some ((c.drop o).take size)
  else if o=0∧c.length=1∧i+size≤es.length then some ((es.drop i).take size).flatten
  else none
def Zkd (agg:Bool) (cs:List AV):Option AV:=
 if agg then some (.agg cs) else match cs with
  |[x]=>some x
  |_=>none
def cellsAt (G:Get) (size:Nat):AV→Option (List AV)
 |.ptr l k o=>match G l k with
  |some (.box cs)=>if o+size≤cs.length then some (AV.shL l ((cs.drop o).take size)) else none
  |_=>none
 |.eptr l k esz i o g=>match G l k with
  |some (.arr _ esz' es)=>if esz'=esz∧es.length=g then Zfs es i o size else none
  |_=>none
 |.rptr _ es i o=>Zfs es i o size
 |_=>none
def ZfO (G:Get) (ti:TI) (a:AV):Option AV:=(cellsAt G ti.size a).bind (Zkd ti.isAgg)
def Zap (cs:List AV) (o:Nat) (new:List AV):List AV:=cs.take o++(new++cs.drop (o+new.length))
structure De where
 val:AV
 sets:List (Nat×Nat×Option Blk)
def wake (cs:List AV) (kb:Nat):List (Nat×TypeId×Nat)→List AV×List (Nat×Nat×Option Blk)
 |[]=>(cs,[])
 |(o,e,s)::r=>match cs[o]? with
  |some .nil=>let x:=wake (cs.set o (.loc 0 kb s 0 0 0)) (kb+1) r;(x.1,(0,kb,some (.arr e s []))::x.2)
  |_=>wake cs kb r
def ZkF (kb:Nat) (ti:TI) (cs:List AV):Option De:=
 if cs.length=ti.size then
  let x:=wake cs (kb+1) ti.sc
  some ⟨.ptr 0 kb 0,x.2++[(0,kb,some (.box x.1))]⟩
 else none
def Zfi (G:Get) (kb:Nat) (ti:TI) (a:AV) (vc:List AV):Option De:=
 if vc.length=ti.size then
  match a with
  |.ptr l k o=>match G l k with
   |some (.box cs)=>
    if o+ti.size≤cs.length then
     if l=0 then
      let x:=wake vc kb ti.sc
      some ⟨.tup [],x.2++[(0,k,some (.box (Zap cs o x.1)))]⟩
     else match AV.unL l vc with
      |some new=>some ⟨.tup [],[(l,k,some (.box (Zap cs o new)))]⟩
      |none=>match AV.frzL G vc with
       |some new=>some ⟨.tup [],Zes (AV.refsL vc)++[(l,k,some (.box (Zap cs o new)))]⟩
       |none=>none
    else none
   |_=>none
  |.eptr l k esz i o g=>match G l k with
   |some (.arr et esz' es)=>
    if esz'=esz∧es.length=g then
     match es[i]?,AV.frzL G vc with
     |some c,some new=>
      if o+ti.size≤c.length∧(AV.refsL vc).all (fun p=>!(p.1==l&&p.2==k)) then
       some ⟨.tup [],Zes (AV.refsL vc)++[(l,k,some (.arr et esz (es.set i (Zap c o new))))]⟩
      else none
     |_,_=>none
    else none
   |_=>none
  |_=>none
 else none
def Zp3 (k:IntKind) (x y:Int):Int:=k.wrap (BitVec.ofInt k.bits x &&& BitVec.ofInt k.bits y).toNat
def bOr (k:IntKind) (x y:Int):Int:=k.wrap (BitVec.ofInt k.bits x ||| BitVec.ofInt k.bits y).toNat
def Zvm (k:IntKind) (x y:Int):Int:=k.wrap (BitVec.ofInt k.bits x ^^^ BitVec.ofInt k.bits y).toNat
def Zqu (op:BinOp) (a b:AV):Option AV:=
 match a,b with
 |.int k x,.int k' y=>
  match op with
  |.shl=>if y<0 then none else some (.int k (k.wrap (x*2 ^ (min y.toNat k.bits))))
  |.shr=>if y<0 then none else some (.int k (x.fdiv (2 ^ (min y.toNat k.bits))))
  |op=>
   if k=k' then
    match op with
    |.add=>some (.int k (k.wrap (x+y)))
    |.sub=>some (.int k (k.wrap (x - y)))
    |.mul=>some (.int k (k.wrap (x*y)))
    |.quo=>if y=0 then none else some (.int k (k.wrap (x.tdiv y)))
    |.rem=>if y=0 then none else some (.int k (x.tmod y))
    |.and=>some (.int k (Zp3 k x y))
    |.or=>some (.int k (bOr k x y))
    |.xor=>some (.int k (Zvm k x y))
    |.eql=>some (.bool (decide (x=y)))
    |.neq=>some (.bool (!decide (x=y)))
    |.lss=>some (.bool (decide (x<y)))
    |.leq=>some (.bool (decide (x≤y)))
    |.gtr=>some (.bool (decide (y<x)))
    |.geq=>some (.bool (decide (y≤x)))
    |_=>none
   else none
 |.bool x,.bool y=>match op with
  |.eql=>some (.bool (x==y))
  |.neq=>some (.bool (!(x==y)))
  |_=>none
 |.str x,.str y=>match op with
  |.eql=>some (.bool (x.toList==y.toList))
  |.neq=>some (.bool (!(x.toList==y.toList)))
  |.add=>if x.size+y.size<4611686018427387904 then some (.str (x++y)) else none
  |_=>none
 |_,_=>none
def ZcH:AV→AV→AV→Option Bool
 |.int _ _,.int k x,.int k' y=>if k=k' then some (decide (x=y)) else none
 |.bool _,.bool x,.bool y=>some (x==y)
 |.str _,.str x,.str y=>some (x.toList==y.toList)
 |_,_,_=>none
def Zav:List AV→List AV→List AV→Option Bool
 |[],[],[]=>some true
 |z::m,x::l,y::n=>match ZcH z x y,Zav m l n with
  |some a,some b=>some (a&&b)
  |_,_=>none
 |_,_,_=>none
def Zqv (ti:TI) (op:BinOp) (a b:AV):Option AV:=
 match a,b with
 |.agg xs,.agg ys=>
  if ti.pl=true∧ti.isAgg=true then
   match op with
   |.eql=>(Zav ti.zero xs ys).map .bool
   |.neq=>(Zav ti.zero xs ys).map fun r=>.bool !r
   |_=>none
  else none
 |.bool x,.bool y=>match ti.d with
  |.bool=>Zqu op (.bool x) (.bool y)
  |_=>none
 |a,b=>Zqu op a b
def aUn (op:UnOp) (a:AV):Option AV:=
 match op,a with
 |.neg,.int k n=>some (.int k (k.wrap (0 - n)))
 |.not,.bool b=>some (.bool !b)
 |_,_=>none
def Zmi:List AV→Option UInt8
 |[.int .u8 n]=>some (UInt8.ofNat n.toNat)
 |_=>none
def bytesOf:List (List AV)→Option (List UInt8)
 |[]=>some []
 |c::l=>match Zmi c,bytesOf l with
  |some c,some l=>some (c::l)
  |_,_=>none
def ZbT (G:Get) (sz:Nat):AV→Option (List (List AV))
 |.nil=>some []
 |.sl e es=>if e=sz then some es else none
 |.loc l k esz i n g=>match G l k with
  |some (.arr _ esz' es)=>if esz=sz∧esz'=esz∧es.length=g∧i+n≤g then some ((es.drop i).take n) else none
  |_=>none
 |.inn l k esz o n=>match G l k with
  |some (.box cs)=>if l=0∧esz=1∧sz=1∧o+n≤cs.length then (AV.frzL (fun _ _=>none) ((cs.drop o).take n)).map fun cs=>cs.map fun c=>[c] else none
  |_=>none
 |_=>none
def Zgy (T:Tys) (G:Get) (src dst:TI) (a:AV):Option AV:=
 match dst.d with
 |.int k=>match src.d,a with
  |.int _,.int _ n=>some (.int k (k.wrap n))
  |_,_=>none
 |.str=>match src.d with
  |.str=>match a with
   |.str s=>some (.str s)
   |_=>none
  |.slice e=>match T e with
   |some ti=>match ti.d with
    |.int .u8=>if src.el=1 then (ZbT G 1 a).bind fun es=>(bytesOf es).map fun l=>.str ⟨l.toArray⟩ else none
    |_=>none
   |none=>none
  |_=>none
 |_=>none
def Zgp (s:ByteArray):List (List AV):=s.data.toList.map fun c=>[AV.int .u8 (c.toNat:Int)]
def ZiO (T:Tys) (src dst:TI) (a:AV):Option AV:=
 match dst.d with
 |.slice e=>match src.d,a with
  |.str,.str s=>match T e with
   |some ti=>match ti.d with
    |.int .u8=>if s.size<4611686018427387904 then some (.sl 1 (Zgp s)) else none
    |_=>none
   |none=>none
  |_,_=>none
 |_=>none
def ZhK:AV→Option Nat
 |.nil=>some 0
 |.sl _ es=>some es.length
 |.loc _ _ _ _ n _=>some n
 |.inn _ _ _ _ n=>some n
 |_=>none
def Zu8 (ti:TI) (a:AV):Option AV:=
 match ti.d with
 |.str=>match a with
  |.str s=>some (.int .i64 s.size)
  |_=>none
 |.array n _=>some (.int .i64 (n:Int))
 |.slice _=>(ZhK a).map fun(n:Nat)=>AV.int .i64 (n:Int)
 |_=>none
def ZbU (i:Int) (n:Nat):Option Nat:=if 0≤i∧i<n then some i.toNat else none
def Zf3 (ti:TI) (a:AV) (f:Nat):Option AV:=
 match ti.d with
 |.struct=>match ti.fl[f]? with
  |some (off,_)=>match a with
   |.ptr l k o=>some (.ptr l k (o+off))
   |.eptr l k e i o g=>some (.eptr l k e i (o+off) g)
   |.rptr e es i o=>some (.rptr e es i (o+off))
   |_=>none
  |none=>none
 |_=>none
def Zmf (ti:TI) (a:AV) (f:Nat):Option AV:=
 match ti.d with
 |.struct=>match a with
  |.agg cs=>match ti.fl[f]? with
   |some (off,size,agg)=>if off+size≤cs.length then Zkd agg ((cs.drop off).take size) else none
   |none=>none
  |_=>none
 |_=>none
def Zf4 (ti:TI) (a ix:AV):Option AV:=
 match ix with
 |.int _ i=>match ti.d with
  |.slice _=>match a with
   |.sl esz es=>if esz=ti.el then (ZbU i es.length).map fun i=>.rptr esz es i 0 else none
   |.loc l k esz b n g=>if esz=ti.el then (ZbU i n).map fun i=>.eptr l k esz (b+i) 0 g else none
   |.inn l k esz o n=>if esz=ti.el then (ZbU i n).map fun i=>.ptr l k (o+i*esz) else none
   |_=>none
  |.array n _=>match a with
   |.ptr l k o=>(ZbU i n).map fun i=>.ptr l k (o+i*ti.el)
   |.eptr l k esz b o g=>(ZbU i n).map fun i=>.eptr l k esz b (o+i*ti.el) g
   |.rptr e es b o=>(ZbU i n).map fun i=>.rptr e es b (o+i*ti.el)
   |_=>none
  |_=>none
 |_=>none
def Zmg (ti:TI) (a ix:AV):Option AV:=
 match ix with
 |.int _ i=>match ti.d with
  |.array n _=>match a with
   |.agg cs=>(ZbU i n).bind fun i=>if i*ti.el+ti.el≤cs.length then Zkd ti.elAgg ((cs.drop (i*ti.el)).take ti.el) else none
   |_=>none
  |.str=>match a with
   |.str s=>(ZbU i s.size).map fun(i:Nat)=>AV.int .u8 ((s.data.toList.getD i 0).toNat:Int)
   |_=>none
  |_=>none
 |_=>none
def Zfc (n:Nat):Option AV→Option Nat
 |none=>some n
 |some (.int _ h)=>if 0≤h∧h≤n then some h.toNat else none
 |_=>none
def Zfd (h:Nat):Option AV→Option Nat
 |none=>some 0
 |some (.int _ l)=>if 0≤l∧l≤h then some l.toNat else none
 |_=>none
def Zbr (n:Nat) (lo hi:Option AV):Option (Nat×Nat):=
 match Zfc n hi with
 |some h=>match Zfd h lo with
  |some l=>some (l,h)
  |none=>none
 |none=>none
def ZfL (ti:TI) (a:AV) (lo hi:Option AV):Option AV:=
 match ti.d with
 |.slice _=>match a with
  |.nil=>(Zbr 0 lo hi).map fun _=>.nil
  |.sl esz es=>if esz=ti.el then (Zbr es.length lo hi).map fun(l,h)=>.sl esz ((es.drop l).take (h - l)) else none
  |.loc lv k esz i n g=>if esz=ti.el then (Zbr n lo hi).map fun(l,h)=>.loc lv k esz (i+l) (h - l) g else none
  |_=>none
 |.str=>match a with
  |.str s=>(Zbr s.size lo hi).map fun(l,h)=>.str (s.extract l h)
  |_=>none
 |.array n _=>match a with
  |.ptr lv k o=>(Zbr n lo hi).map fun(l,h)=>.inn lv k ti.el (o+l*ti.el) (h - l)
  |_=>none
 |_=>none
def ZdF (fl:Nat→Option (Nat×Nat)) (cs:List AV):List (Nat×AV)→Option (List AV)
 |[]=>some cs
 |(i,v)::r=>match fl i with
  |none=>none
  |some (off,size)=>match v.cells with
   |some vc=>if vc.length=size∧off+size≤cs.length then ZdF fl (Zap cs off vc) r else none
   |none=>none
def Zme (ti:TI) (parts:List (Nat×AV)):Option AV:=
 match ti.d with
 |.struct=>(ZdF (fun i=>(ti.fl[i]?).map fun x=>(x.1,x.2.1)) ti.zero parts).map .agg
 |.array _ _=>(ZdF (fun i=>some (i*ti.el,ti.el)) ti.zero parts).map .agg
 |_=>none
def ZcI (tm:Tm):List (Nat×Operand)→Option (List (Nat×AV))
 |[]=>some []
 |(i,x)::l=>match opv tm x,ZcI tm l with
  |some x,some l=>some ((i,x)::l)
  |_,_=>none
def Zeq (es:List (List AV)) (size:Nat):List (Nat×List AV)→Option (List (List AV))
 |[]=>some es
 |(i,cs)::r=>if cs.length=size∧i<es.length then Zeq (es.set i cs) size r else none
def Zbf (G:Get):List (Nat×AV)→Option (List (Nat×List AV))
 |[]=>some []
 |(i,v)::r=>match v.cells with
  |some vc=>match AV.frzL G vc,Zbf G r with
   |some cs,some l=>some ((i,cs)::l)
   |_,_=>none
  |none=>none
def ZbH:List (Nat×AV)→List (Nat×Nat)
 |[]=>[]
 |(_,v)::r=>v.refs++ZbH r
def ZbL (G:Get) (kb:Nat) (ti:TI) (len:Nat) (parts:List (Nat×AV)):Option De:=
 match ti.d with
 |.slice e=>
  if len*ti.el≤16777216∧0<ti.el then
   match Zbf G parts with
   |some ps=>match Zeq (List.replicate len ti.elz) ti.el ps with
    |some es=>some ⟨.loc 0 kb ti.el 0 len len,Zes (ZbH parts)++[(0,kb,some (.arr e ti.el es))]⟩
    |none=>none
   |none=>none
  else none
 |_=>none
def Ze8 (kb:Nat) (ti:TI) (len cap:AV):Option De:=
 match ti.d,len,cap with
 |.slice e,.int .i64 l,.int .i64 c=>
  if 0≤l∧l≤c∧c*ti.elb≤140737488355328∧0<ti.el∧c<4611686018427387904 then
   some ⟨.loc 0 kb ti.el 0 l.toNat l.toNat,[(0,kb,some (.arr e ti.el (List.replicate l.toNat ti.elz)))]⟩
  else none
 |_,_,_=>none
def ZaE (es:List (List AV)) (size:Nat):Prop:=∀ c∈es,c.length=size
def room (n bytes:Nat):Prop:=n*bytes≤140737488355328∧n<4611686018427387904
instance (n b:Nat):Decidable (room n b):=by unfold room;exact inferInstance
def ZbO (G:Get) (kb:Nat) (ti:TI) (s x:AV):Option De:=
 match ti.d with
 |.slice e=>match ZbT G ti.el x with
  |some new=>match s with
   |.nil=>if room new.length ti.elb∧0<ti.el then
     some ⟨.loc 0 kb ti.el 0 new.length new.length,[(0,kb,some (.arr e ti.el new))]⟩ else none
   |.loc l k esz i n g=>match G l k with
    |some (.arr et esz' es)=>
     if et=e∧esz'=ti.el∧esz=ti.el∧i=0∧n=g∧es.length=g∧room (g+new.length) ti.elb∧0<ti.el then
      some ⟨.loc l k esz 0 (g+new.length) (g+new.length),[(l,k,some (.arr et esz (es++new)))]⟩
     else if (et=e∧esz'=ti.el∧esz=ti.el)∧(i=0∧es.length=g)∧n+new.length≤g∧0<ti.el then
      some ⟨.loc l k esz 0 (n+new.length) g,[(l,k,some (.arr et esz (es.take n++(new++es.drop (n+new.length)))))]⟩
     else none
    |_=>none
   |_=>none
  |none=>none
 |_=>none
def Zie (G:Get) (ti:TI) (d s:AV):Option De:=
 match ti.d with
 |.slice _=>match ZbT G ti.el s with
  |some src=>match d with
   |.nil=>some ⟨.int .i64 0,[]⟩
   |.loc l k esz i n g=>match G l k with
    |some (.arr et esz' es)=>
     if esz'=ti.el∧esz=ti.el∧es.length=g∧i+n≤g then
      some ⟨.int .i64 (min src.length n),[(l,k,some (.arr et esz (es.take i++(src.take n++es.drop (i+min src.length n)))))]⟩
     else none
    |_=>none
   |.inn l k esz o n=>match G l k with
    |some (.box cs)=>
     if l=0∧ti.el=1∧esz=1∧o+n≤cs.length then
      some ⟨.int .i64 (min src.length n),[(0,k,some (.box (Zap cs o (src.take n).flatten)))]⟩
     else none
    |_=>none
   |_=>none
  |none=>none
 |_=>none
def Zgc (G:Get) (ti:TI) (d:AV):Option De:=
 match ti.d with
 |.slice _=>match d with
  |.nil=>some ⟨.tup [],[]⟩
  |.loc l k esz i n g=>match G l k with
   |some (.arr et esz' es)=>
    if esz'=ti.el∧esz=ti.el∧es.length=g∧i+n≤g then
     some ⟨.tup [],[(l,k,some (.arr et esz (es.take i++(List.replicate n ti.elz++es.drop (i+n)))))]⟩
    else none
   |_=>none
  |_=>none
 |_=>none
def Ze9 (kb:Nat) (ti:TI) (a:AV):Option De:=
 match ti.d with
 |.slice e=>match a with
  |.nil|.sl _ _|.loc _ _ _ _ _ _=>some ⟨.loc 0 kb ti.el 0 0 0,[(0,kb,some (.arr e ti.el []))]⟩
  |_=>none
 |_=>none
def orO:Option AV→Option AV→Option AV
 |some v,_=>some v
 |none,b=>b
theorem ZfB (v:AV) (b:Option AV):orO (some v) b=some v:=rfl
theorem ZeF (b:Option AV):orO none b=b:=rfl
def ZcQ (G:Get) (ti:TI) (a lo hi:AV):Option AV:=
 match a with
 |.loc lv k esz i _ g=>match ti.d with
  |.slice _=>match lo,hi with
   |.int _ l,.int _ h=>match G lv k with
    |some (.arr _ _ es)=>if (esz=ti.el∧es.length=g)∧(0≤l∧l≤h)∧i+h.toNat≤g then some (.loc lv k esz (i+l.toNat) (h.toNat - l.toNat) g) else none
    |_=>none
   |_,_=>none
  |_=>none
 |_=>none
def Zg5 (ti:TI) (a:AV) (l h m:Int):Option De:=
 match ti.d with
 |.slice _=>match a with
  |.sl esz es=>if (0≤l∧l≤h)∧h≤m∧m≤es.length then some ⟨if esz=ti.el then .sl esz ((es.drop l.toNat).take (h.toNat - l.toNat)) else .dead,[]⟩ else none
  |.loc _ _ _ _ n _=>if (0≤l∧l≤h)∧h≤m∧m≤n then some ⟨.dead,[]⟩ else none
  |_=>none
 |_=>none
def ZdA (mx:Bool):List AV→Option AV
 |[.int k x]=>some (.int k x)
 |.int k x::.int k' y::l=>if k=k' then ZdA mx (.int k (if mx then max x y else min x y)::l) else none
 |_=>none
  termination_by l=>l.length
def Zgz:AV→Option AV
 |.ptr l k o=>some (.ptr l k o)
 |.eptr l k e i o g=>some (.eptr l k e i o g)
 |.rptr e es i o=>some (.rptr e es i o)
 |.fn f a b=>match f with
  |.func _=>some (.fn f a b)
  |_=>none
 |_=>none
def Zb1 (r:Option AV):Option De:=r.map fun v=>⟨v,[]⟩
def Zep (G:Get) (kb:Nat) (ti:TI) (s:AV) (n:Int):Option De:=
 if 0≤n∧room n.toNat ti.elb∧0<ti.el then ZbO G kb ti s (.sl ti.el (List.replicate n.toNat ti.elz)) else none
def Zfg (T:Tys) (G:Get) (kb:Nat) (ti:TI) (s x:AV) (ts:List TypeId):Option De:=
 match ts,x with
 |[t2],.str b=>match T t2 with
  |some ti2=>match ti2.d with
   |.str=>if ti.el=1 then ZbO G kb ti s (.sl 1 (Zgp b)) else none
   |_=>none
  |none=>none
 |[t2],.int _ n=>match T t2 with
  |some ti2=>match ti2.d with
   |.int _=>Zep G kb ti s n
   |_=>none
  |none=>none
 |_,_=>none
def ZcC (T:Tys) (G:Get) (kb:Nat) (b:Builtin) (ts:List TypeId) (xs:List AV):Option De:=
 match ts with
 |[]=>none
 |t::ts=>match T t with
  |none=>none
  |some ti=>match b with
   |.len=>match xs with
    |[x]=>Zb1 (Zu8 ti x)
    |_=>none
   |.append=>match xs with
    |[s,x]=>if ts=[t] then ZbO G kb ti s x else Zfg T G kb ti s x ts
    |_=>none
   |.copy=>match xs with
    |[d,s]=>if ts=[t] then Zie G ti d s else none
    |_=>none
   |.clear=>match xs with
    |[d]=>Zgc G ti d
    |_=>none
   |.max=>Zb1 (ZdA true xs)
   |.min=>Zb1 (ZdA false xs)
   |_=>none
def Ztj (c:Bool) (x y:Option AV):Option AV:=
 match c with
 |true=>x
 |false=>y
theorem Znx (x y:Option AV):Ztj true x y=x:=rfl
theorem ZlJ (x y:Option AV):Ztj false x y=y:=rfl
structure SOp where
 dst:Option Tmp
 op:Op
 type:TypeId
 guard:Option (Tmp×Bool)
 drop:List Nat
def ZcN (T:Tys) (kb:Nat) (o:Op) (ty:TypeId) (tm:Tm) (G:Get):Option De:=
 match o with
 |.move x=>Zb1 (opv tm x)
 |.assign x=>match opv tm x with
  |some .nil=>match T ty with
   |some ti=>match ti.d with
    |.slice e=>some ⟨.loc 0 kb ti.el 0 0 0,[(0,kb,some (.arr e ti.el []))]⟩
    |_=>none
   |none=>none
  |r=>Zb1 r
 |.pick c a b=>match opv tm c with
  |some (.bool c)=>Zb1 (Ztj c (opv tm a) (opv tm b))
  |_=>none
 |.alloc e=>match T e with
  |some ti=>ZkF kb ti ti.zero
  |none=>none
 |.box e x=>match T e,opv tm x with
  |some ti,some x=>match x.cells with
   |some cs=>ZkF kb ti cs
   |none=>none
  |_,_=>none
 |.build t ps=>match T t,ZcI tm ps.toList with
  |some ti,some ps=>Zb1 (Zme ti ps)
  |_,_=>none
 |.buildSlice t len ps=>match T t,ZcI tm ps.toList with
  |some ti,some ps=>ZbL G kb ti len ps
  |_,_=>none
 |.load t a=>match T t,opv tm a with
  |some ti,some a=>Zb1 (ZfO G ti a)
  |_,_=>none
 |.store t a x=>match T t,opv tm a,opv tm x with
  |some ti,some a,some x=>match x.cells with
   |some cs=>Zfi G kb ti a cs
   |none=>none
  |_,_,_=>none
 |.nilCheck x=>match opv tm x with
  |some x=>Zb1 (Zgz x)
  |none=>none
 |.binOp op t x y _=>match T t,opv tm x,opv tm y with
  |some ti,some x,some y=>Zb1 (Zqv ti op x y)
  |_,_,_=>none
 |.unOp op _ x=>match opv tm x with
  |some x=>Zb1 (aUn op x)
  |none=>none
 |.convert src dst x=>match T src,T dst,opv tm x with
  |some s,some d,some x=>Zb1 (orO (Zgy T G s d x) (ZiO T s d x))
  |_,_,_=>none
 |.makeFunc f a b=>match Zlk tm a.toList,Zlk tm b.toList with
  |some a,some b=>some ⟨.fn f a b,[]⟩
  |_,_=>none
 |.makeSlice t l c=>match T t,opv tm l,opv tm c with
  |some ti,some l,some c=>Ze8 kb ti l c
  |_,_,_=>none
 |.slice t x lo hi mx=>match mx with
  |some mx=>match lo,hi with
   |none,some hi=>match T t,opv tm x,opv tm hi,opv tm mx with
    |some ti,some x,some (.int _ h),some (.int _ m)=>match hi with
     |.const _=>if h=0∧m=0 then Ze9 kb ti x else none
     |_=>Zg5 ti x 0 h m
    |_,_,_,_=>none
   |some lo,some hi=>match T t,opv tm x,opv tm lo,opv tm hi with
    |some ti,some x,some (.int _ l),some (.int _ h)=>match opv tm mx with
     |some (.int _ m)=>Zg5 ti x l h m
     |_=>none
    |_,_,_,_=>none
   |_,_=>none
  |none=>match T t,opv tm x with
   |some ti,some x=>match lo,hi with
    |none,none=>Zb1 (ZfL ti x none none)
    |some lo,none=>match opv tm lo with
     |some lo=>Zb1 (ZfL ti x (some lo) none)
     |none=>none
    |none,some hi=>match opv tm hi with
     |some hi=>Zb1 (ZfL ti x none (some hi))
     |none=>none
    |some lo,some hi=>match opv tm lo,opv tm hi with
     |some lo,some hi=>Zb1 (orO (ZcQ G ti x lo hi) (ZfL ti x (some lo) (some hi)))
     |_,_=>none
   |_,_=>none
 |.fieldAddr s x f=>match T s,opv tm x with
  |some ti,some x=>Zb1 (Zf3 ti x f)
  |_,_=>none
 |.field s x f=>match T s,opv tm x with
  |some ti,some x=>Zb1 (Zmf ti x f)
  |_,_=>none
 |.indexAddr t x i=>match T t,opv tm x,opv tm i with
  |some ti,some x,some i=>Zb1 (Zf4 ti x i)
  |_,_,_=>none
 |.index t x i=>match T t,opv tm x,opv tm i with
  |some ti,some x,some i=>Zb1 (Zmg ti x i)
  |_,_,_=>none
 |.extract x i=>match opv tm x with
  |some (.tup vs)=>Zb1 vs[i]?
  |_=>none
 |.sliceToArrayPointer t x=>match T t,opv tm x with
  |some ti,some (.loc l k esz i n g)=>match ti.d with
   |.array m _=>if esz=ti.el∧m≤n∧0<m then some ⟨.eptr l k esz i 0 g,[]⟩ else none
   |_=>none
  |_,_=>none
 |.makeInterface t x=>match T t,opv tm x with
  |some ti,some x=>match ti.d with
   |.iface=>none
   |_=>some ⟨.ifc t x,[]⟩
  |_,_=>none
 |.call c=>match c.callee with
  |.builtin b=>match Zlk tm c.args.toList with
   |some xs=>ZcC T G kb b c.argTypes.toList xs
   |none=>none
  |_=>none
 |_=>none
inductive SC where
 |skip
 |reg (ops:List SOp)
 |dreg (ops:List SOp) (bef:List (List Nat)) (drop:List Nat)
 |seq (a b:SC)
 |cond (c:Operand) (x y:SC)
 |block (id:Nat) (b:SC)
 |loop (b:SC)
 |exit (id:Nat)
 |ret
 |other
 |mark (b:SC)
 deriving Inhabited
inductive It where
 |sc (c:SC)
 |blk (id:Nat)
 |ops (l:List SOp)
 |back (B:St→Prop)
inductive Ev where
 |stuck
 |call (f:FuncId) (args:List AV) (dst:Option Tmp) (drop:List Nat) (todo:List It) (st:St)
 |loop (b:SC) (todo:List It) (st:St)
 |draw (ops:List SOp) (bef:List (List Nat)) (drop:List Nat) (todo:List It) (st:St)
 |back (B:St→Prop) (st:St)
 |fin (e:Exit) (st:St)
 |either (es:List (List AV)) (t:List It) (st s1:St)
 |throw (v:AV) (st:St)
 |mark (b:SC) (todo:List It) (st:St)
def St.get (st:St):Get:=fun l k=>Zam.get (st.fr::st.low) l k
def St.withHeap (st:St):Zam→St
 |[]=>st
 |f::H=>{ st with fr:=f,low:=H }
def ZhB (tm:List (Nat×AV)) (dst:Option Tmp) (v:AV):List (Nat×AV):=
 match dst with
 |some d=>ins tm d v
 |none=>tm
def St.by (st:St) (dst:Option Tmp) (drop:List Nat) (d:De):St:=
 St.withHeap { st with tm:=Ze6 (ZhB st.tm dst d.val) drop,nx:=st.nx+16 } (Zam.puts (st.fr::st.low) d.sets)
def callee (tm:Tm) (c:Call):Option (FuncId×List AV):=
 match c.callee with
 |.value f=>match opv tm f,Zlk tm c.args.toList with
  |some (.fn (.func g) first cap),some args=>some (g,first++(args++cap))
  |_,_=>none
 |_=>none
def Zca:Nat→List It→Option (List It)
 |_,[]=>none
 |id,.blk id'::t=>if id=id' then some t else Zca id t
 |id,_::t=>Zca id t
def ZcM:Op→Option Call
 |.call c=>match c.callee with
  |.builtin _=>none
  |_=>some c
 |_=>none
def two (f:List It→St→Ev) (b:Bool) (t:List It) (s:St) (t':List It) (s':St):Ev:=
 match b with
 |true=>f t s
 |false=>f t' s'
theorem ZjM (f:List It→St→Ev) (t:List It) (s:St) (t':List It) (s':St):two f true t s t' s'=f t s:=rfl
theorem Zi8 (f:List It→St→Ev) (t:List It) (s:St) (t':List It) (s':St):two f false t s t' s'=f t' s':=rfl
def next (f:List It→St→Ev) (t:List It) (st:St) (dst:Option Tmp) (drop:List Nat):Option De→Ev
 |some d=>f t (st.by dst drop d)
 |none=>.stuck
theorem Zpd (f:List It→St→Ev) (t:List It) (st:St) (dst:Option Tmp) (drop:List Nat) (d:De):next f t st dst drop (some d)=f t (st.by dst drop d):=rfl
def ZjC (t:List It) (st:St) (dst:Option Tmp) (drop:List Nat):Option (FuncId×List AV)→Ev
 |some (f,args)=>.call f (AV.shL 1 args) dst drop t st
 |none=>.stuck
theorem ZjD (t:List It) (st:St) (dst:Option Tmp) (drop:List Nat) (g:FuncId) (args:List AV):ZjC t st dst drop (some (g,args))=.call g (AV.shL 1 args) dst drop t st:=rfl
def ZqO (T:Tys) (o:Op) (tm:Tm):Option (List (List AV)):=
 match o with
 |.binOp .eql t (.tmp x) (.const (.slice none 0 0)) _=>match T t with
  |some ti=>match ti.d with
   |.slice _=>match tm x with
    |some (.sl _ es)=>some es
    |_=>none
   |_=>none
  |none=>none
 |_=>none
def ZgH (o:SOp) (t:List It) (st:St) (e:Ev):Option (List (List AV))→Ev
 |some es=>.either es t (st.by o.dst o.drop ⟨.bool true,[]⟩) (st.by o.dst o.drop ⟨.bool false,[]⟩)
 |none=>e
theorem ZjG (o:SOp) (t:List It) (st:St) (e:Ev) (es:List (List AV)):ZgH o t st e (some es)=.either es t (st.by o.dst o.drop ⟨.bool true,[]⟩) (st.by o.dst o.drop ⟨.bool false,[]⟩):=rfl
theorem ZjF (o:SOp) (t:List It) (st:St) (e:Ev):ZgH o t st e none=e:=rfl
def ZlB:Op→Option Operand
 |.panic x=>some x
 |_=>none
def Zpx (st:St):Option AV→Ev
 |some v=>.throw v st
 |none=>.stuck
def Zu9 (T:Tys) (f:List It→St→Ev) (o:SOp) (t:List It) (st:St):Ev:=
 match ZcM o.op with
 |some c=>ZjC t st o.dst o.drop (callee (look st.tm) c)
 |none=>match ZlB o.op with
  |some x=>Zpx st (opv (look st.tm) x)
  |none=>ZgH o t st (next f t st o.dst o.drop (ZcN T st.nx o.op o.type (look st.tm) st.get)) (ZqO T o.op (look st.tm))
def St.past (st:St) (o:SOp):St:=st.by o.dst o.drop ⟨.tup [],[]⟩
def run (T:Tys):Nat→List It→St→Ev
 |0,_,_=>.stuck
 |_+1,[],st=>.fin .normal st
 |n+1,.blk _::t,st=>run T n t st
 |_+1,.back B::_,st=>.back B st
 |n+1,.ops []::t,st=>run T n t st
 |n+1,.ops (o::os)::t,st=>match o.guard with
  |none=>Zu9 T (run T n) o (.ops os::t) st
  |some (g,w)=>match look st.tm g with
   |some (.bool b)=>two (run T n) (b==w) (.ops (⟨o.dst,o.op,o.type,none,o.drop⟩::os)::t) st (.ops os::t) (st.past o)
   |some (.tup [])=>run T n (.ops os::t) (st.past o)
   |_=>.stuck
 |n+1,.sc .skip::t,st=>run T n t st
 |n+1,.sc (.reg ops)::t,st=>run T n (.ops ops::t) st
 |_+1,.sc (.dreg ops bef drop)::t,st=>.draw ops bef drop t st
 |n+1,.sc (.seq a b)::t,st=>run T n (.sc a::.sc b::t) st
 |n+1,.sc (.cond c x y)::t,st=>match opv (look st.tm) c with
  |some (.bool b)=>two (run T n) b (.sc x::t) st (.sc y::t) st
  |_=>.stuck
 |n+1,.sc (.block id b)::t,st=>run T n (.sc b::.blk id::t) st
 |_+1,.sc (.loop b)::t,st=>.loop b t st
 |n+1,.sc (.exit id)::t,st=>match Zca id t with
  |some t'=>run T n t' st
  |none=>.fin (.exit id) st
 |_+1,.sc .ret::_,st=>.fin .ret st
 |_+1,.sc .other::_,_=>.stuck
 |_+1,.sc (.mark b)::t,st=>.mark b t st
end Go.Abs
namespace Go.Abs
open Go Go.RowKit
theorem ZdZ {α:Type} (l:List (Nat×α)) (t:Nat) (v:α) (u:Nat):look (ins l t v) u=if t=u then some v else look l u:=by
 induction l with
 |nil=>simp[ins,look]
 |cons p l ih=>
  obtain⟨k,x⟩:=p
  simp only[ins]
  split
  ·simp only[look]
  ·split
   ·subst_vars
    simp only[look]
    by_cases h:k=u<;>simp[h]
   ·simp only[look,ih]
    by_cases h:k=u
    ·subst h;simp;intro h;omega
    ·simp[h]
theorem ZgA {α:Type} (l:List (Nat×α)) (t u:Nat):look (del l t) u=if t=u then none else look l u:=by
 induction l with
 |nil=>simp[del,look]
 |cons p l ih=>
  obtain⟨k,x⟩:=p
  simp only[del]
  split
  ·rename_i hk
   subst hk
   rw[ih]
   simp only[look]
   by_cases h:k=u<;>simp[h]
  ·simp only[look,ih]
   by_cases h:k=u
   ·subst h;simp;intro h;omega
   ·simp[h]
theorem Zfm {α:Type} (ts:List Nat):∀ (l:List (Nat×α)) (u:Nat) (x:α),look (Ze6 l ts) u=some x→look l u=some x:=by
 induction ts with
 |nil=>intro l u x h;exact h
 |cons t ts ih=>
  intro l u x h
  have:=ih _ _ _ h
  rw[ZgA]at this
  split at this
  ·cases this
  ·exact this
theorem Zam.get_put (H:Zam) (l k:Nat) (b:Option Blk):∀ (l' k':Nat),(H.put l k b).get l' k'=if l=l'∧k=k'∧l<H.length then b else H.get l' k':=by
 induction H generalizing l with
 |nil=>intro l' k';simp[Zam.put,Zam.get]
 |cons f H ih=>
  intro l' k'
  cases l with
  |zero=>
   cases b with
   |some b=>
    simp only[Zam.put]
    cases l' with
    |zero=>simp[Zam.get,ZdZ]
    |succ l'=>simp[Zam.get]
   |none=>
    simp only[Zam.put]
    cases l' with
    |zero=>simp[Zam.get,ZgA]
    |succ l'=>simp[Zam.get]
  |succ l=>
   simp only[Zam.put]
   cases l' with
   |zero=>simp[Zam.get]
   |succ l'=>
    simp only[Zam.get,ih]
    simp
@[simp] theorem Zam.length_put (H:Zam) (l k:Nat) (b:Option Blk):(H.put l k b).length=H.length:=by
 induction H generalizing l with
 |nil=>rfl
 |cons f H ih=>cases l<;>cases b<;>simp[Zam.put,ih]
@[simp] theorem Zam.length_puts (s:List (Nat×Nat×Option Blk)):∀ H:Zam,(H.puts s).length=H.length:=by
 induction s with
 |nil=>intro H;rfl
 |cons p s ih=>obtain⟨l,k,b⟩:=p;intro H;simp[Zam.puts,ih]
theorem Zam.puts_append (s t:List (Nat×Nat×Option Blk)):∀ H:Zam,H.puts (s++t)=(H.puts s).puts t:=by
 induction s with
 |nil=>intro H;rfl
 |cons p s ih=>obtain⟨l,k,b⟩:=p;intro H;simp[Zam.puts,ih]
theorem Zam.get_lt (H:Zam):∀ (l k:Nat) (b:Blk),H.get l k=some b→l<H.length:=by
 induction H with
 |nil=>intro l k b h;simp[Zam.get]at h
 |cons f H ih=>
  intro l k b h
  cases l with
  |zero=>simp
  |succ l=>simp only[Zam.get]at h;have:=ih _ _ _ h;simp;omega
theorem Zam.get_drop (d:Nat):∀ (H:Zam) (l k:Nat),Zam.get (H.drop d) l k=H.get (l+d) k:=by
 induction d with
 |zero=>intro H l k;simp
 |succ d ih=>
  intro H l k
  cases H with
  |nil=>simp[Zam.get]
  |cons f H=>simp only[List.drop_succ_cons,ih];rw[show l+(d+1)=(l+d)+1 from by omega];simp[Zam.get]
inductive TB where
 |box (c:Nat)
 |arr (m:Nat) (c:Option (Nat×Nat))
 |gone
abbrev Tie:=Nat→Option TB
abbrev FM:=Nat→Nat→Option Value
def tb:List Tie→Nat→Nat→Option TB
 |[],_,_=>none
 |t::_,0,k=>t k
 |_::ts,l+1,k=>tb ts l k
def Zei:List Tie→Nat→Nat→TB→List Tie
 |[],_,_,_=>[]
 |t::ts,0,k,x=>(fun j=>if j=k then some x else t j)::ts
 |t::ts,l+1,k,x=>t::Zei ts l k x
theorem ZaN (ts:List Tie):∀ (l k:Nat) (x:TB) (l' k':Nat),tb (Zei ts l k x) l' k'=if l=l'∧k=k'∧l<ts.length then some x else tb ts l' k':=by
 induction ts with
 |nil=>intro l k x l' k';simp[Zei,tb]
 |cons t ts ih=>
  intro l k x l' k'
  cases l with
  |zero=>
   cases l' with
   |zero=>simp only[Zei,tb];simp[eq_comm]
   |succ l'=>simp[Zei,tb]
  |succ l=>
   cases l' with
   |zero=>simp[Zei,tb]
   |succ l'=>simp[Zei,tb,ih]
@[simp] theorem ZsQ (ts:List Tie):∀ (l k:Nat) (x:TB),(Zei ts l k x).length=ts.length:=by
 induction ts with
 |nil=>intro l k x;rfl
 |cons t ts ih=>intro l k x;cases l<;>simp[Zei,ih]
theorem Zbg (d:Nat):∀ (ts:List Tie) (l k:Nat),tb (ts.drop d) l k=tb ts (l+d) k:=by
 induction d with
 |zero=>intro ts l k;simp
 |succ d ih=>
  intro ts l k
  cases ts with
  |nil=>simp[tb]
  |cons t ts=>simp only[List.drop_succ_cons,ih];rw[show l+(d+1)=(l+d)+1 from by omega];simp[tb]
inductive VR (fm:FM):List Tie→AV→Value→Prop
 |bool {ts} (b:Bool):VR fm ts (.bool b) (.bool b)
 |int {ts} (k:IntKind) (n:Int):VR fm ts (.int k n) (.int k n)
 |str {ts} (s:ByteArray):VR fm ts (.str s) (.string s)
 |nil {ts}:VR fm ts .nil (.slice none 0 0)
 |slNil {ts} (e:Nat) (a:Option Addr) (cap:Nat):VR fm ts (.sl e []) (.slice a 0 cap)
 |sl {ts} (es:List (List AV)) (cb off esz cap:Nat) (u:Nat→Nat→Value) (hcap:es.length≤cap∧es.length≤maxLen) (h1:ZaE es esz)
   (h2:∀ (i:Nat) (c:List AV) (o:Nat) (x:AV),es[i]?=some c→c[o]?=some x→fm cb (off+(i*esz+o))=some (u i o))
   (h3:∀ (i:Nat) (c:List AV) (o:Nat) (x:AV),es[i]?=some c→c[o]?=some x→x.flat=true)
   (h4:∀ (i:Nat) (c:List AV) (o:Nat) (x:AV),es[i]?=some c→c[o]?=some x→VR fm [] x (u i o)):VR fm ts (.sl esz es) (.slice (some ⟨cb,off,none⟩) es.length cap)
 |locGone {ts} (l k esz i n g:Nat) (a:Option Addr) (cp:Nat) (h:tb ts l k=some .gone) (hn:n≤cp) (ha:0<n→∃ p,a=some p):VR fm ts (.loc l k esz i n g) (.slice a n cp)
 |locOld {ts} (l k esz i n g:Nat) (a:Option Addr) (cp m':Nat) (c:Option (Nat×Nat)) (h:tb ts l k=some (.arr m' c)) (hlt:g<m') (hn:n≤cp) (ha:0<n→∃ p,a=some p):VR fm ts (.loc l k esz i n g) (.slice a n cp)
 |locNil {ts} (l k esz:Nat) (a:Option Addr) (h:tb ts l k=some (.arr 0 none)):VR fm ts (.loc l k esz 0 0 0) (.slice a 0 0)
 |loc {ts} (l k esz i n g c cap cp:Nat) (a:Addr) (h:tb ts l k=some (.arr g (some (c,cap)))) (hn:i+n≤g) (hnc:n≤cp) (hc:i+cp=cap) (ha:cp≠0∨i=0→a=⟨c,i*esz,none⟩):VR fm ts (.loc l k esz i n g) (.slice (some a) n cp)
 |inn {ts} (l k esz o n c cp:Nat) (a:Addr) (h:tb ts l k=some (.box c)) (hn:n≤cp) (ha:cp≠0→a=⟨c,o,none⟩):VR fm ts (.inn l k esz o n) (.slice (some a) n cp)
 |pnil {ts}:VR fm ts .pnil (.pointer none)
 |ptr {ts} (l k o c:Nat) (h:tb ts l k=some (.box c)):VR fm ts (.ptr l k o) (.pointer (some ⟨c,o,none⟩))
 |eptrGone {ts} (l k esz i o g:Nat) (a:Addr) (h:tb ts l k=some .gone):VR fm ts (.eptr l k esz i o g) (.pointer (some a))
 |eptrOld {ts} (l k esz i o g:Nat) (a:Addr) (m':Nat) (c:Option (Nat×Nat)) (h:tb ts l k=some (.arr m' c)) (hlt:g<m'):VR fm ts (.eptr l k esz i o g) (.pointer (some a))
 |eptr {ts} (l k esz i o g c cap:Nat) (h:tb ts l k=some (.arr g (some (c,cap)))):VR fm ts (.eptr l k esz i o g) (.pointer (some ⟨c,i*esz+o,none⟩))
 |rptr {ts} (es:List (List AV)) (i o cb off esz:Nat) (u:Nat→Nat→Value) (h1:ZaE es esz)
   (h2:∀ (i:Nat) (c:List AV) (o:Nat) (x:AV),es[i]?=some c→c[o]?=some x→fm cb (off+(i*esz+o))=some (u i o))
   (h3:∀ (i:Nat) (c:List AV) (o:Nat) (x:AV),es[i]?=some c→c[o]?=some x→x.flat=true)
   (h4:∀ (i:Nat) (c:List AV) (o:Nat) (x:AV),es[i]?=some c→c[o]?=some x→VR fm [] x (u i o)):VR fm ts (.rptr esz es i o) (.pointer (some ⟨cb,off+(i*esz+o),none⟩))
 |fnil {ts}:VR fm ts .fnil .nilFunc
 |fn {ts} (f:Fn) (first cap:List AV) (vf vc:Array Value) (h1:first.length=vf.size) (h2:cap.length=vc.size)
   (h3:∀ (i:Nat) x v,first[i]?=some x→vf[i]?=some v→VR fm ts x v)
   (h4:∀ (i:Nat) x v,cap[i]?=some x→vc[i]?=some v→VR fm ts x v):VR fm ts (.fn f first cap) (.func f vf vc)
 |inil {ts}:VR fm ts .inil .nilIface
 |ifc {ts} (t:TypeId) (x:AV) (v:Value) (h:VR fm ts x v):VR fm ts (.ifc t x) (.iface t v)
 |agg {ts} (cs:List AV) (vs:Array Value) (h1:cs.length=vs.size) (h2:∀ x∈cs,x.flat=true)
   (h3:∀ (i:Nat) x v,cs[i]?=some x→vs[i]?=some v→VR fm ts x v):VR fm ts (.agg cs) (.agg vs)
 |tup {ts} (xs:List AV) (vs:Array Value) (h1:xs.length=vs.size)
   (h3:∀ (i:Nat) x v,xs[i]?=some x→vs[i]?=some v→VR fm ts x v):VR fm ts (.tup xs) (.tuple vs)
 |dead {ts} (v:Value):VR fm ts .dead v
def VRs (fm:FM) (ts:List Tie) (xs:List AV) (vs:List Value):Prop:=xs.length=vs.length∧∀ (i:Nat) x v,xs[i]?=some x→vs[i]?=some v→VR fm ts x v
def Zdq (fm fm':FM):Prop:=∀ b o v,fm b o=some v→fm' b o=some v
def Zec:Option TB→Option TB→Prop
 |none,_=>True
 |some .gone,x=>x=some .gone
 |some (.box c),x=>x=some (.box c)
 |some (.arr m c),x=>x=some (.arr m c)∨x=some .gone∨∃ m' c',x=some (.arr m' c')∧m<m'
def ZaA (ts ts':List Tie):Prop:=∀ l k,Zec (tb ts l k) (tb ts' l k)
theorem Zec.refl (x:Option TB):Zec x x:=by
 cases x with
 |none=>trivial
 |some x=>cases x<;>simp[Zec]
theorem Zec.trans {x y z:Option TB} (h:Zec x y) (h':Zec y z):Zec x z:=by
 cases x with
 |none=>trivial
 |some x=>
  cases x with
  |gone=>simp only[Zec]at h;subst h;exact h'
  |box c=>simp only[Zec]at h;subst h;exact h'
  |arr m c=>
   simp only[Zec]at h
   rcases h with rfl|rfl|⟨m',c',rfl,hlt⟩
   ·exact h'
   ·simp only[Zec]at h';subst h';simp[Zec]
   ·simp only[Zec]at h' ⊢
    rcases h' with rfl|rfl|⟨m'',c'',rfl,hlt'⟩
    ·exact .inr (.inr ⟨_,_,rfl,hlt⟩)
    ·exact .inr (.inl rfl)
    ·exact .inr (.inr ⟨_,_,rfl,by omega⟩)
theorem ZaA.refl (ts:List Tie):ZaA ts ts:=fun _ _=>Zec.refl _
theorem ZaA.trans {a b c:List Tie} (h:ZaA a b) (h':ZaA b c):ZaA a c:=fun l k=>(h l k).trans (h' l k)
theorem Zdq.refl (fm:FM):Zdq fm fm:=fun _ _ _ h=>h
theorem Zdq.trans {a b c:FM} (h:Zdq a b) (h':Zdq b c):Zdq a c:=fun _ _ _ x=>h' _ _ _ (h _ _ _ x)
theorem ZaA.drop {ts ts':List Tie} (h:ZaA ts ts') (d:Nat):ZaA (ts.drop d) (ts'.drop d):=by
 intro l k;rw[Zbg,Zbg];exact h _ _
theorem ZaA.nil (ts:List Tie):ZaA [] ts:=fun _ _=>trivial
theorem Zec.box {x y:Option TB}{c:Nat} (h:Zec x y) (hx:x=some (.box c)):y=some (.box c):=by subst hx;exact h
theorem Zec.gone {x y:Option TB} (h:Zec x y) (hx:x=some .gone):y=some .gone:=by subst hx;exact h
theorem Zec.arr {x y:Option TB}{m:Nat}{c:Option (Nat×Nat)} (h:Zec x y) (hx:x=some (.arr m c)):y=some (.arr m c)∨y=some .gone∨∃ m' c',y=some (.arr m' c')∧m<m':=by subst hx;exact h
theorem VR.mono {fm fm':FM} (hf:Zdq fm fm') {ts:List Tie}{x:AV}{v:Value} (h:VR fm ts x v):∀ {ts':List Tie},ZaA ts ts'→VR fm' ts' x v:=by
 induction h with
 |bool b=>intro ts' _;exact .bool b
 |int k n=>intro ts' _;exact .int k n
 |str s=>intro ts' _;exact .str s
 |nil=>intro ts' _;exact .nil
 |slNil e a cap=>intro ts' _;exact .slNil e a cap
 |sl es cb off esz cap u hcap h1 h2 h3 _ ih=>intro ts' _;exact .sl es cb off esz cap u hcap h1 (fun i c o x a b=>hf _ _ _ (h2 i c o x a b)) h3 (fun i c o x a b=>ih i c o x a b (ZaA.refl _))
 |locGone l k esz i n g a cp h hn ha=>intro ts' hl;exact .locGone l k esz i n g a cp ((hl l k).gone h) hn ha
 |locOld l k esz i n g a cp m' c h hlt hn ha=>
  intro ts' hl
  rcases (hl l k).arr h with h|h|⟨m'',c',h,h'⟩
  ·exact .locOld l k esz i n g a cp m' c h hlt hn ha
  ·exact .locGone l k esz i n g a cp h hn ha
  ·exact .locOld l k esz i n g a cp m'' c' h (by omega) hn ha
 |locNil l k esz a h=>
  intro ts' hl
  rcases (hl l k).arr h with h|h|⟨m'',c',h,h'⟩
  ·exact .locNil l k esz a h
  ·exact .locGone l k esz _ _ _ _ _ h (Nat.le_refl _) (fun h=>absurd h (by omega))
  ·exact .locOld l k esz _ _ _ _ _ m'' c' h (by omega) (Nat.le_refl _) (fun h=>absurd h (by omega))
 |loc l k esz i n g c cap cp a h hn hnc hc ha=>
  intro ts' hl
  rcases (hl l k).arr h with h|h|⟨m'',c',h,h'⟩
  ·exact .loc l k esz i n g c cap cp a h hn hnc hc ha
  ·exact .locGone l k esz _ _ _ _ _ h hnc (fun _=>⟨a,rfl⟩)
  ·exact .locOld l k esz _ _ _ _ _ m'' c' h (by omega) hnc (fun _=>⟨a,rfl⟩)
 |inn l k esz o n c cp a h hn ha=>intro ts' hl;exact .inn l k esz o n c cp a ((hl l k).box h) hn ha
 |pnil=>intro ts' _;exact .pnil
 |ptr l k o c h=>intro ts' hl;exact .ptr l k o c ((hl l k).box h)
 |eptrGone l k esz i o g a h=>intro ts' hl;exact .eptrGone l k esz i o g a ((hl l k).gone h)
 |eptrOld l k esz i o g a m' c h hlt=>
  intro ts' hl
  rcases (hl l k).arr h with h|h|⟨m'',c',h,h'⟩
  ·exact .eptrOld l k esz i o g a m' c h hlt
  ·exact .eptrGone l k esz i o g a h
  ·exact .eptrOld l k esz i o g a m'' c' h (by omega)
 |eptr l k esz i o g c cap h=>
  intro ts' hl
  rcases (hl l k).arr h with h|h|⟨m'',c',h,h'⟩
  ·exact .eptr l k esz i o g c cap h
  ·exact .eptrGone l k esz i o g _ h
  ·exact .eptrOld l k esz i o g _ m'' c' h (by omega)
 |rptr es i o cb off esz u h1 h2 h3 _ ih=>intro ts' _;exact .rptr es i o cb off esz u h1 (fun i c o x a b=>hf _ _ _ (h2 i c o x a b)) h3 (fun i c o x a b=>ih i c o x a b (ZaA.refl _))
 |fnil=>intro ts' _;exact .fnil
 |fn f first cap vf vc h1 h2 _ _ ih1 ih2=>intro ts' hl;exact .fn f first cap vf vc h1 h2 (fun i x v a b=>ih1 i x v a b hl) (fun i x v a b=>ih2 i x v a b hl)
 |inil=>intro ts' _;exact .inil
 |ifc t x v _ ih=>intro ts' hl;exact .ifc t x v (ih hl)
 |agg cs vs h1 h2 _ ih=>intro ts' hl;exact .agg cs vs h1 h2 (fun i x v a b=>ih i x v a b hl)
 |tup xs vs h1 _ ih=>intro ts' hl;exact .tup xs vs h1 (fun i x v a b=>ih i x v a b hl)
 |dead v=>intro ts' _;exact .dead v
theorem VR.oneCell {fm:FM}{ts:List Tie}{x:AV}{v:Value} (h:VR fm ts x v) (hx:x.flat=true):v.oneCell'=true:=by
 cases h<;>first|rfl|(simp[AV.flat]at hx)
end Go.Abs
namespace Go.Abs
open Go Go.RowKit
def tbc:Option TB→Option Nat
 |some (.box c)=>some c
 |some (.arr _ (some (c,_)))=>some c
 |_=>none
def Zu5 (fm:FM) (ts:List Tie) (w:World) (c:Nat) (cs:List AV):Prop:=
 ∃ cells et,w.heap[c]?=some (.cells cells et (0,0))∧cells.size=cs.length∧
  ∀ (o:Nat) (x:AV) (v:Value),cs[o]?=some x→cells[o]?=some v→x.flat=true∧VR fm ts x v
def Zp7 (fm:FM) (w:World) (et esz:Nat) (es:List (List AV)) (c cap:Nat):Prop:=
 ∃ cells,w.heap[c]?=some (.cells cells et (0,0))∧cells.size=cap*esz∧es.length≤cap∧cap≤maxLen∧ZaE es esz∧0<esz∧
  ∀ (i:Nat) (cc:List AV) (o:Nat) (x:AV) (v:Value),es[i]?=some cc→cc[o]?=some x→cells[i*esz+o]?=some v→x.flat=true∧VR fm [] x v
inductive BR (fm:FM) (ts:List Tie) (w:World) (N0:Nat):Option TB→Blk→Prop
 |box (c:Nat) (cs:List AV) (hN:N0≤c) (h:Zu5 fm ts w c cs):BR fm ts w N0 (some (.box c)) (.box cs)
 |nil (et esz:Nat):BR fm ts w N0 (some (.arr 0 none)) (.arr et esz [])
 |arr (et esz:Nat) (es:List (List AV)) (c cap:Nat) (hN:N0≤c) (h:Zp7 fm w et esz es c cap):BR fm ts w N0 (some (.arr es.length (some (c,cap)))) (.arr et esz es)
def ZuD:Obj→Bool
 |.cells ..=>false
 |_=>true
structure HR (N0:Nat) (W0:World) (fm:FM) (ts:List Tie) (H:Zam) (w:World):Prop where
 len:ts.length=H.length
 blk:∀ l k b,H.get l k=some b→BR fm (ts.drop l) w N0 (tb ts l k) b
 inj:∀ l k l' k' b b' c,H.get l k=some b→H.get l' k'=some b'→tbc (tb ts l k)=some c→tbc (tb ts l' k')=some c→l=l'∧k=k'
 fms:∀ b o v,fm b o=some v→w.cell? ⟨b,o,none⟩=some v
 fmd:∀ l k b c o,H.get l k=some b→tbc (tb ts l k)=some c→fm c o=none
 bel:Below N0 W0 w
 size:N0≤w.heap.size
 oth:∀ (b:Nat) (o:Obj),W0.heap[b]?=some o→ZuD o=true→w.heap[b]?=some o
theorem Zu5.mono {fm fm':FM}{ts ts':List Tie}{w w':World}{c:Nat}{cs:List AV} (h:Zu5 fm ts w c cs) (hf:Zdq fm fm') (ht:ZaA ts ts') (hw:w'.heap[c]?=w.heap[c]?):Zu5 fm' ts' w' c cs:=by
 obtain⟨cells,et,h1,h2,h3⟩:=h
 exact⟨cells,et,hw.trans h1,h2,fun o x v a b=>⟨(h3 o x v a b).1,(h3 o x v a b).2.mono hf ht⟩⟩
theorem Zp7.mono {fm fm':FM}{w w':World}{et esz:Nat}{es:List (List AV)}{c cap:Nat} (h:Zp7 fm w et esz es c cap) (hf:Zdq fm fm') (hw:w'.heap[c]?=w.heap[c]?):Zp7 fm' w' et esz es c cap:=by
 obtain⟨cells,h1,h2,h3,h4,h5,h6,h7⟩:=h
 exact⟨cells,hw.trans h1,h2,h3,h4,h5,h6,fun i cc o x v a b d=>⟨(h7 i cc o x v a b d).1,(h7 i cc o x v a b d).2.mono hf (ZaA.refl _)⟩⟩
theorem BR.mono {fm fm':FM}{ts ts':List Tie}{w w':World}{N0:Nat}{t:Option TB}{b:Blk} (h:BR fm ts w N0 t b) (hf:Zdq fm fm') (ht:ZaA ts ts')
  (hw:∀ c,tbc t=some c→w'.heap[c]?=w.heap[c]?):BR fm' ts' w' N0 t b:=by
 cases h with
 |box c cs hN h=>exact .box c cs hN (h.mono hf ht (hw c rfl))
 |nil et esz=>exact .nil et esz
 |arr et esz es c cap hN h=>exact .arr et esz es c cap hN (h.mono hf (hw c rfl))
theorem BR.lt {fm:FM}{ts:List Tie}{w:World}{N0:Nat}{t:Option TB}{b:Blk} (h:BR fm ts w N0 t b) {c:Nat} (hc:tbc t=some c):c<w.heap.size∧N0≤c:=by
 cases h with
 |box c' cs hN h=>
  simp only[tbc,oE]at hc;subst hc
  obtain⟨cells,et,h1,_⟩:=h
  exact⟨(Array.getElem?_eq_some_iff.1 h1).1,hN⟩
 |nil et esz=>simp[tbc]at hc
 |arr et esz es c' cap hN h=>
  simp only[tbc,oE]at hc;subst hc
  obtain⟨cells,h1,_⟩:=h
  exact⟨(Array.getElem?_eq_some_iff.1 h1).1,hN⟩
theorem Zvz (ts:List Tie):∀ (l k:Nat) (x:TB),tb ts l k=some x→l<ts.length:=by
 induction ts with
 |nil=>intro l k x h;simp[tb]at h
 |cons t ts ih=>
  intro l k x h
  cases l with
  |zero=>simp
  |succ l=>simp only[tb]at h;have:=ih _ _ _ h;simp;omega
theorem ZaA.set {ts:List Tie}{l k:Nat}{x:TB} (h:Zec (tb ts l k) (some x)):ZaA ts (Zei ts l k x):=by
 intro l' k'
 rw[ZaN]
 split
 ·rename_i hh;obtain⟨rfl,rfl,_⟩:=hh;exact h
 ·exact Zec.refl _
section
variable {N0:Nat}{W0:World}{fm:FM}{ts:List Tie}{H:Zam}{w:World}
theorem HR.turn (h:HR N0 W0 fm ts H w) {w':World}{l k c:Nat}{x:TB}{b:Blk} (hl:l<H.length) (hx:tbc (some x)=some c)
  (hw:∀ i,i≠c→i<w.heap.size→w'.heap[i]?=w.heap[i]?) (hbel:Below N0 w w') (hoc:∀ o,w.heap[c]?=some o→ZuD o=false) (hle:Zec (tb ts l k) (some x))
  (hc:∀ l' k' b',H.get l' k'=some b'→tbc (tb ts l' k')=some c→l'=l∧k'=k) (hfm:∀ o,fm c o=none)
  (hbr:BR fm ((Zei ts l k x).drop l) w' N0 (some x) b):HR N0 W0 fm (Zei ts l k x) (H.put l k (some b)) w':=by
 have hT:ZaA ts (Zei ts l k x):=ZaA.set hle
 have hlt:l<ts.length:=by rw[h.len];exact hl
 have other:∀ l' k',¬ (l=l'∧k=k')→tb (Zei ts l k x) l' k'=tb ts l' k':=by
  intro l' k' hne
  rw[ZaN,if_neg (fun hh=>hne ⟨hh.1,hh.2.1⟩)]
 have same:tb (Zei ts l k x) l k=some x:=by rw[ZaN,if_pos ⟨rfl,rfl,hlt⟩]
 have get_o:∀ l' k',¬ (l=l'∧k=k')→(H.put l k (some b)).get l' k'=H.get l' k':=by
  intro l' k' hne
  rw[Zam.get_put,if_neg (fun hh=>hne ⟨hh.1,hh.2.1⟩)]
 have get_s:(H.put l k (some b)).get l k=some b:=by rw[Zam.get_put,if_pos ⟨rfl,rfl,hl⟩]
 refine⟨by simp[h.len],?_,?_,?_,?_,h.bel.trans hbel,Nat.le_trans h.size hbel.size,fun b o h0 ho=>?_⟩
 rotate_right
 ·have hb:=h.oth b o h0 ho
  have hne:b≠c:=fun e=>by subst e;rw[hoc o hb]at ho;cases ho
  exact(hw b hne (Array.getElem?_eq_some_iff.1 hb).1).trans hb
 ·intro l' k' b' hg
  by_cases he:l=l'∧k=k'
  ·obtain⟨rfl,rfl⟩:=he
   rw[get_s]at hg
   obtain rfl:=oi hg
   rw[same]
   exact hbr
  ·rw[get_o _ _ he]at hg
   rw[other _ _ he]
   refine(h.blk l' k' b' hg).mono (Zdq.refl _) (hT.drop l') (fun c' hc'=>hw c' ?_ ((h.blk l' k' b' hg).lt hc').1)
   intro e
   subst e
   exact he (let ⟨a,b⟩:=hc l' k' b' hg hc';⟨a.symm,b.symm⟩)
 ·intro l1 k1 l2 k2 b1 b2 c' g1 g2 t1 t2
  by_cases e1:l=l1∧k=k1
  ·obtain⟨rfl,rfl⟩:=e1
   by_cases e2:l=l2∧k=k2
   ·exact e2
   ·rw[same]at t1
    rw[other _ _ e2]at t2
    rw[get_o _ _ e2]at g2
    rw[hx]at t1
    obtain rfl:=oi t1
    have:=hc l2 k2 b2 g2 t2
    exact⟨this.1.symm,this.2.symm⟩
  ·rw[other _ _ e1]at t1
   rw[get_o _ _ e1]at g1
   by_cases e2:l=l2∧k=k2
   ·obtain⟨rfl,rfl⟩:=e2
    rw[same,hx]at t2
    obtain rfl:=oi t2
    exact hc l1 k1 b1 g1 t1
   ·rw[other _ _ e2]at t2
    rw[get_o _ _ e2]at g2
    exact h.inj l1 k1 l2 k2 b1 b2 c' g1 g2 t1 t2
 ·intro b' o v hv
  have hne:b'≠c:=fun e=>by subst e;rw[hfm]at hv;cases hv
  have hv':=h.fms b' o v hv
  have hb:b'<w.heap.size:=World.block_lt_of_cell? w _ hv'
  rw[←hv']
  exact World.cell?_of_block (w:=w) (w':=w') (a:=⟨b',o,none⟩) (hw b' hne hb)
 ·intro l' k' b' c' o hg ht
  by_cases he:l=l'∧k=k'
  ·obtain⟨rfl,rfl⟩:=he
   rw[same,hx]at ht
   obtain rfl:=oi ht
   exact hfm o
  ·rw[get_o _ _ he]at hg
   rw[other _ _ he]at ht
   exact h.fmd l' k' b' c' o hg ht
theorem HR.fresh (h:HR N0 W0 fm ts H w) {cells:Array Value}{et:TypeId}{k:Nat}{x:TB}{b:Blk} (hH:0<H.length) (hk:tb ts 0 k=none) (hx:tbc (some x)=some w.heap.size)
  (hbr:BR fm (Zei ts 0 k x) (w.alloc (.cells cells et)) N0 (some x) b):
  HR N0 W0 fm (Zei ts 0 k x) (H.put 0 k (some b)) (w.alloc (.cells cells et)):=by
 refine h.turn hH hx (fun i _ hi=>heap_alloc_old w _ i hi) ((Below.refl N0 w).alloc h.size _) (fun o ho=>by simp at ho) (by rw[hk];trivial) ?_ ?_ (by simpa using hbr)
 ·intro l' k' b' hg ht
  have:=(h.blk l' k' b' hg).lt ht
  omega
 ·intro o
  cases hf:fm w.heap.size o with
  |none=>rfl
  |some v=>
   have:=World.block_lt_of_cell? w _ (h.fms _ _ _ hf)
   simp at this
theorem HR.empty (h:HR N0 W0 fm ts H w) {k:Nat} (et esz:Nat) (hk:tb ts 0 k=none) (hH:0<H.length):
  HR N0 W0 fm (Zei ts 0 k (.arr 0 none)) (H.put 0 k (some (.arr et esz []))) w:=by
 have hT:ZaA ts (Zei ts 0 k (.arr 0 none)):=ZaA.set (by rw[hk];trivial)
 have hlt:0<ts.length:=by rw[h.len];exact hH
 have other:∀ l' k',¬ (0=l'∧k=k')→tb (Zei ts 0 k (.arr 0 none)) l' k'=tb ts l' k':=by
  intro l' k' hne
  rw[ZaN,if_neg (fun hh=>hne ⟨hh.1,hh.2.1⟩)]
 have same:tb (Zei ts 0 k (.arr 0 none)) 0 k=some (.arr 0 none):=by rw[ZaN,if_pos ⟨rfl,rfl,hlt⟩]
 have get_o:∀ l' k',¬ (0=l'∧k=k')→(H.put 0 k (some (.arr et esz []))).get l' k'=H.get l' k':=by
  intro l' k' hne
  rw[Zam.get_put,if_neg (fun hh=>hne ⟨hh.1,hh.2.1⟩)]
 have get_s:(H.put 0 k (some (.arr et esz []))).get 0 k=some (.arr et esz []):=by rw[Zam.get_put,if_pos ⟨rfl,rfl,hH⟩]
 refine⟨by simp[h.len],?_,?_,h.fms,?_,h.bel,h.size,h.oth⟩
 ·intro l' k' b' hg
  by_cases he:0=l'∧k=k'
  ·obtain⟨rfl,rfl⟩:=he
   rw[get_s]at hg
   obtain rfl:=oi hg
   rw[same]
   exact .nil et esz
  ·rw[get_o _ _ he]at hg
   rw[other _ _ he]
   exact(h.blk l' k' b' hg).mono (Zdq.refl _) (hT.drop l') (fun _ _=>rfl)
 ·intro l1 k1 l2 k2 b1 b2 c' g1 g2 t1 t2
  by_cases e1:0=l1∧k=k1
  ·obtain⟨rfl,rfl⟩:=e1
   rw[same]at t1
   simp[tbc]at t1
  ·rw[other _ _ e1]at t1
   rw[get_o _ _ e1]at g1
   by_cases e2:0=l2∧k=k2
   ·obtain⟨rfl,rfl⟩:=e2
    rw[same]at t2
    simp[tbc]at t2
   ·rw[other _ _ e2]at t2
    rw[get_o _ _ e2]at g2
    exact h.inj l1 k1 l2 k2 b1 b2 c' g1 g2 t1 t2
 ·intro l' k' b' c' o hg ht
  by_cases he:0=l'∧k=k'
  ·obtain⟨rfl,rfl⟩:=he
   rw[same]at ht
   simp[tbc]at ht
  ·rw[get_o _ _ he]at hg
   rw[other _ _ he]at ht
   exact h.fmd l' k' b' c' o hg ht
theorem HR.world (h:HR N0 W0 fm ts H w) {w':World} (hw:∀ i,i<w.heap.size→w'.heap[i]?=w.heap[i]?) (hbel:Below N0 w w'):HR N0 W0 fm ts H w':=by
 refine⟨h.len,fun l k b hg=>(h.blk l k b hg).mono (Zdq.refl _) (ZaA.refl _) (fun c hc=>hw c ((h.blk l k b hg).lt hc).1),h.inj,?_,h.fmd,h.bel.trans hbel,Nat.le_trans h.size hbel.size,fun b o h0 ho=>(hw b (Array.getElem?_eq_some_iff.1 (h.oth b o h0 ho)).1).trans (h.oth b o h0 ho)⟩
 intro b o v hv
 have hv':=h.fms b o v hv
 rw[←hv']
 exact World.cell?_of_block (w:=w) (w':=w') (a:=⟨b,o,none⟩) (hw b (World.block_lt_of_cell? w _ hv'))
theorem HR.drew (h:HR N0 W0 fm ts H w):HR N0 W0 fm ts H w.drew:=h.world (fun _ _=>rfl) (Below.refl N0 w).drew
end
def Zh9:Option TB→Bool
 |some (.arr _ _)=>true
 |_=>false
def ZeL:List Tie→List (Nat×Nat)→List Tie
 |ts,[]=>ts
 |ts,(l,k)::r=>ZeL (if Zh9 (tb ts l k) then Zei ts l k .gone else ts) r
theorem Zck (r:List (Nat×Nat)):∀ (ts:List Tie) (l k:Nat),tb (ZeL ts r) l k=if (l,k)∈r∧Zh9 (tb ts l k)=true then some .gone else tb ts l k:=by
 induction r with
 |nil=>intro ts l k;simp[ZeL]
 |cons p r ih=>
  obtain⟨l0,k0⟩:=p
  intro ts l k
  simp only[ZeL,ih]
  by_cases ha:Zh9 (tb ts l0 k0)=true
  ·simp only[ha,if_true]
   have hlt:l0<ts.length:=by
    cases hh:tb ts l0 k0 with
    |none=>rw[hh]at ha;simp[Zh9]at ha
    |some x=>exact Zvz ts l0 k0 x hh
   by_cases he:l0=l∧k0=k
   ·obtain⟨rfl,rfl⟩:=he
    have e1:tb (Zei ts l0 k0 .gone) l0 k0=some .gone:=by rw[ZaN,if_pos ⟨rfl,rfl,hlt⟩]
    rw[e1]
    have e2:Zh9 (some TB.gone)=false:=rfl
    rw[if_neg (by simp[e2]),if_pos ⟨List.mem_cons_self,ha⟩]
   ·have h1:tb (Zei ts l0 k0 .gone) l k=tb ts l k:=by rw[ZaN,if_neg (fun hh=>he ⟨hh.1,hh.2.1⟩)]
    have h2:((l,k)∈(l0,k0)::r)↔(l,k)∈r:=by
     simp only[List.mem_cons,Prod.mk.injEq]
     constructor
     ·rintro(⟨rfl,rfl⟩|h)
      ·exact absurd ⟨rfl,rfl⟩ he
      ·exact h
     ·exact fun h=>.inr h
    rw[h1]
    simp only[h2]
  ·simp only[ha,if_false,Bool.false_eq_true]
   by_cases he:l0=l∧k0=k
   ·obtain⟨rfl,rfl⟩:=he
    simp[ha]
   ·have h2:((l,k)∈(l0,k0)::r)↔(l,k)∈r:=by
     simp only[List.mem_cons,Prod.mk.injEq]
     constructor
     ·rintro(⟨rfl,rfl⟩|h)
      ·exact absurd ⟨rfl,rfl⟩ he
      ·exact h
     ·exact fun h=>.inr h
    simp only[h2]
@[simp] theorem Zfl (r:List (Nat×Nat)):∀ ts:List Tie,(ZeL ts r).length=ts.length:=by
 induction r with
 |nil=>intro ts;rfl
 |cons p r ih=>obtain⟨l,k⟩:=p;intro ts;simp only[ZeL,ih];split<;>simp
theorem ZaA.gone (ts:List Tie) (r:List (Nat×Nat)):ZaA ts (ZeL ts r):=by
 intro l k
 rw[Zck]
 split
 ·rename_i h
  cases hh:tb ts l k with
  |none=>trivial
  |some x=>
   rw[hh]at h
   cases x with
   |arr m c=>simp[Zec]
   |box c=>simp[Zh9]at h
   |gone=>simp[Zh9]at h
 ·exact Zec.refl _
theorem Zer (r:List (Nat×Nat)):∀ (H:Zam) (l k:Nat),(H.puts (Zes r)).get l k=if (l,k)∈r then none else H.get l k:=by
 induction r with
 |nil=>intro H l k;simp[Zes,Zam.puts]
 |cons p r ih=>
  obtain⟨l0,k0⟩:=p
  intro H l k
  have:Zes ((l0,k0)::r)=(l0,k0,none)::Zes r:=rfl
  rw[this]
  simp only[Zam.puts,ih,Zam.get_put]
  by_cases he:l0=l∧k0=k
  ·obtain⟨rfl,rfl⟩:=he
   by_cases hl:l0<H.length
   ·simp[hl]
   ·have:H.get l0 k0=none:=by
     cases hh:H.get l0 k0 with
     |none=>rfl
     |some b=>exact absurd (Zam.get_lt H _ _ _ hh) hl
    simp[hl,this]
  ·have h2:((l,k)∈(l0,k0)::r)↔(l,k)∈r:=by
    simp only[List.mem_cons,Prod.mk.injEq]
    constructor
    ·rintro(⟨rfl,rfl⟩|h)
     ·exact absurd ⟨rfl,rfl⟩ he
     ·exact h
    ·exact fun h=>.inr h
   simp only[h2]
   by_cases hr:(l,k)∈r
   ·simp[hr]
   ·simp only[hr,if_false]
    rw[if_neg (fun hh=>he ⟨hh.1,hh.2.1⟩)]
open Classical in
noncomputable def Zdx (fm:FM) (w:World) (bs:Nat→Prop):FM:=fun b o=>if bs b then w.cell? ⟨b,o,none⟩ else fm b o
def ZeY (ts:List Tie) (H:Zam) (r:List (Nat×Nat)) (c:Nat):Prop:=∃ l k b,(l,k)∈r∧H.get l k=some b∧Zh9 (tb ts l k)=true∧tbc (tb ts l k)=some c
section
variable {N0:Nat}{W0:World}{fm:FM}{ts:List Tie}{H:Zam}{w:World}
theorem HR.fmLe (h:HR N0 W0 fm ts H w) (r:List (Nat×Nat)):Zdq fm (Zdx fm w (ZeY ts H r)):=by
 intro b o v hv
 unfold Zdx
 split
 ·exact h.fms b o v hv
 ·exact hv
structure FmUp (N0:Nat) (fm fm':FM):Prop where
 le:Zdq fm fm'
 fix:∀ b o,b<N0→fm' b o=fm b o
theorem FmUp.refl (N0:Nat) (fm:FM):FmUp N0 fm fm:=⟨Zdq.refl _,fun _ _ _=>rfl⟩
theorem FmUp.trans {N0:Nat}{a b c:FM} (h:FmUp N0 a b) (k:FmUp N0 b c):FmUp N0 a c:=⟨h.le.trans k.le,fun x o e=>(k.fix x o e).trans (h.fix x o e)⟩
theorem HR.fmUp (h:HR N0 W0 fm ts H w) (r:List (Nat×Nat)):FmUp N0 fm (Zdx fm w (ZeY ts H r)):=by
 refine⟨h.fmLe r,?_⟩
 intro b o hb
 unfold Zdx
 rw[if_neg]
 rintro⟨l,k,blk,_,hg,_,ht⟩
 have:=((h.blk l k blk hg).lt ht).2
 omega
theorem HR.letGo (h:HR N0 W0 fm ts H w) (r:List (Nat×Nat)):
  HR N0 W0 (Zdx fm w (ZeY ts H r)) (ZeL ts r) (H.puts (Zes r)) w:=by
 have hF:=h.fmLe r
 refine⟨by simp[h.len],?_,?_,?_,?_,h.bel,h.size,h.oth⟩
 ·intro l k b hg
  rw[Zer]at hg
  split at hg
  ·cases hg
  ·rename_i hn
   rw[Zck,if_neg (fun hh=>hn hh.1)]
   exact(h.blk l k b hg).mono hF ((ZaA.gone ts r).drop l) (fun _ _=>rfl)
 ·intro l k l' k' b b' c g g' t t'
  rw[Zer]at g g'
  split at g
  ·cases g
  ·rename_i hn
   split at g'
   ·cases g'
   ·rename_i hn'
    rw[Zck,if_neg (fun hh=>hn hh.1)]at t
    rw[Zck,if_neg (fun hh=>hn' hh.1)]at t'
    exact h.inj l k l' k' b b' c g g' t t'
 ·intro b o v hv
  unfold Zdx at hv
  split at hv
  ·exact hv
  ·exact h.fms b o v hv
 ·intro l k b c o g t
  rw[Zer]at g
  split at g
  ·cases g
  ·rename_i hn
   rw[Zck,if_neg (fun hh=>hn hh.1)]at t
   unfold Zdx
   rw[if_neg]
   ·exact h.fmd l k b c o g t
   ·rintro⟨l',k',b',hm,hg',_,ht'⟩
    obtain⟨rfl,rfl⟩:=h.inj l k l' k' b b' c g hg' t ht'
    exact hn hm
end
end Go.Abs
namespace Go.Abs
open Go Go.RowKit
theorem Zb6 (d:Nat):∀ cs:List AV,(AV.shL d cs).length=cs.length
 |[]=>by simp[AV.shL]
 |x::l=>by simp[AV.shL,Zb6 d l]
theorem Zdv (d:Nat):∀ (cs:List AV) (i:Nat),(AV.shL d cs)[i]?=(cs[i]?).map (AV.sh d)
 |[],i=>by simp[AV.shL]
 |x::l,0=>by simp[AV.shL]
 |x::l,i+1=>by simp[AV.shL,Zdv d l i]
theorem ZjL (d:Nat) (x:AV):(x.sh d).flat=x.flat:=by
 cases x<;>simp[AV.sh,AV.flat]
theorem VR.sh {fm:FM} (d:Nat) {ts0:List Tie}{x:AV}{v:Value} (h:VR fm ts0 x v):∀ {ts:List Tie},ts0=ts.drop d→VR fm ts (x.sh d) v:=by
 induction h with
 |bool b=>intro ts _;exact .bool b
 |int k n=>intro ts _;exact .int k n
 |str s=>intro ts _;exact .str s
 |nil=>intro ts _;exact .nil
 |slNil e a cap=>intro ts _;exact .slNil e a cap
 |sl es cb off esz cap u hcap h1 h2 h3 h4 _=>intro ts _;exact .sl es cb off esz cap u hcap h1 h2 h3 h4
 |locGone l k esz i n g a cp h hn ha=>intro ts e;subst e;rw[Zbg]at h;exact .locGone _ k esz i n g a cp h hn ha
 |locOld l k esz i n g a cp m' c h hlt hn ha=>intro ts e;subst e;rw[Zbg]at h;exact .locOld _ k esz i n g a cp m' c h hlt hn ha
 |locNil l k esz a h=>intro ts e;subst e;rw[Zbg]at h;exact .locNil _ k esz a h
 |loc l k esz i n g c cap cp a h hn hnc hc ha=>intro ts e;subst e;rw[Zbg]at h;exact .loc _ k esz i n g c cap cp a h hn hnc hc ha
 |inn l k esz o n c cp a h hn ha=>intro ts e;subst e;rw[Zbg]at h;exact .inn _ k esz o n c cp a h hn ha
 |pnil=>intro ts _;exact .pnil
 |ptr l k o c h=>intro ts e;subst e;rw[Zbg]at h;exact .ptr _ k o c h
 |eptrGone l k esz i o g a h=>intro ts e;subst e;rw[Zbg]at h;exact .eptrGone _ k esz i o g a h
 |eptrOld l k esz i o g a m' c h hlt=>intro ts e;subst e;rw[Zbg]at h;exact .eptrOld _ k esz i o g a m' c h hlt
 |eptr l k esz i o g c cap h=>intro ts e;subst e;rw[Zbg]at h;exact .eptr _ k esz i o g c cap h
 |rptr es i o cb off esz u h1 h2 h3 h4 _=>intro ts _;exact .rptr es i o cb off esz u h1 h2 h3 h4
 |fnil=>intro ts _;exact .fnil
 |fn f first cap vf vc h1 h2 _ _ ih1 ih2=>
  intro ts e
  refine .fn f _ _ vf vc (by rw[Zb6];exact h1) (by rw[Zb6];exact h2) ?_ ?_
  ·intro i x v hx hv
   rw[Zdv]at hx
   cases hf:first[i]? with
   |none=>rw[hf]at hx;cases hx
   |some y=>rw[hf]at hx;simp only[Option.map_some,oE]at hx;subst hx;exact ih1 i y v hf hv e
  ·intro i x v hx hv
   rw[Zdv]at hx
   cases hf:cap[i]? with
   |none=>rw[hf]at hx;cases hx
   |some y=>rw[hf]at hx;simp only[Option.map_some,oE]at hx;subst hx;exact ih2 i y v hf hv e
 |inil=>intro ts _;exact .inil
 |ifc t x v _ ih=>intro ts e;exact .ifc t _ v (ih e)
 |agg cs vs h1 h2 _ ih=>
  intro ts e
  refine .agg _ vs (by rw[Zb6];exact h1) ?_ ?_
  ·intro x hx
   obtain⟨i,hi⟩:=List.mem_iff_getElem?.1 hx
   rw[Zdv]at hi
   cases hf:cs[i]? with
   |none=>rw[hf]at hi;cases hi
   |some y=>rw[hf]at hi;simp only[Option.map_some,oE]at hi;subst hi;rw[ZjL];exact h2 y (List.mem_iff_getElem?.2 ⟨i,hf⟩)
  ·intro i x v hx hv
   rw[Zdv]at hx
   cases hf:cs[i]? with
   |none=>rw[hf]at hx;cases hx
   |some y=>rw[hf]at hx;simp only[Option.map_some,oE]at hx;subst hx;exact ih i y v hf hv e
 |tup xs vs h1 _ ih=>
  intro ts e
  refine .tup _ vs (by rw[Zb6];exact h1) ?_
  intro i x v hx hv
  rw[Zdv]at hx
  cases hf:xs[i]? with
  |none=>rw[hf]at hx;cases hx
  |some y=>rw[hf]at hx;simp only[Option.map_some,oE]at hx;subst hx;exact ih i y v hf hv e
 |dead v=>intro ts _;exact .dead v
theorem Zfz (d:Nat):∀ (cs ys:List AV),AV.unL d cs=some ys→ys.length=cs.length∧∀ (i:Nat) (x:AV),cs[i]?=some x→∃ y,ys[i]?=some y∧x.un d=some y
 |[],ys,h=>by simp only[AV.unL,oE]at h;subst h;simp
 |x::l,ys,h=>by
  simp only[AV.unL]at h
  split at h
  ·rename_i a b ha hb
   obtain rfl:=oi h
   have ih:=Zfz d l b hb
   refine⟨by simp[ih.1],?_⟩
   intro i z hz
   cases i with
   |zero=>simp only[List.getElem?_cons_zero,oE]at hz;subst hz;exact⟨a,by simp,ha⟩
   |succ i=>simp only[List.getElem?_cons_succ]at hz ⊢;exact ih.2 i z hz
  ·cases h
theorem Zd4 {d l l':Nat} (h:ZlF d l=some l'):l'+d=l:=by
 unfold ZlF at h
 split at h
 ·simp only[oE]at h;omega
 ·cases h
theorem Zpz {d:Nat}{x y:AV} (h:x.un d=some y):y.flat=x.flat:=by
 cases x with
 |fn f a b=>
  simp only[AV.un]at h
  split at h
  ·simp only[oE]at h;subst h;simp[AV.flat]
  ·cases h
 |_=>
  simp only[AV.un,mS,oE]at h
  first
  |(subst h;simp[AV.flat];done)
  |(obtain⟨a,_,rfl⟩:=h;simp[AV.flat])
theorem VR.un {fm:FM} (d:Nat) {ts:List Tie}{x:AV}{v:Value} (h:VR fm ts x v):∀ {y:AV},x.un d=some y→VR fm (ts.drop d) y v:=by
 induction h with
 |bool b=>intro y e;simp only[AV.un,oE]at e;subst e;exact .bool b
 |int k n=>intro y e;simp only[AV.un,oE]at e;subst e;exact .int k n
 |str s=>intro y e;simp only[AV.un,oE]at e;subst e;exact .str s
 |nil=>intro y e;simp only[AV.un,oE]at e;subst e;exact .nil
 |slNil e0 a cap=>intro y e;simp only[AV.un,oE]at e;subst e;exact .slNil e0 a cap
 |sl es cb off esz cap u hcap h1 h2 h3 h4 _=>intro y e;simp only[AV.un,oE]at e;subst e;exact .sl es cb off esz cap u hcap h1 h2 h3 h4
 |locGone l k esz i n g a cp h hn ha=>
  intro y e;simp only[AV.un,mS]at e;obtain⟨l',hl,rfl⟩:=e
  exact .locGone l' k esz i n g a cp (by rw[Zbg,Zd4 hl];exact h) hn ha
 |locOld l k esz i n g a cp m' c h hlt hn ha=>
  intro y e;simp only[AV.un,mS]at e;obtain⟨l',hl,rfl⟩:=e
  exact .locOld l' k esz i n g a cp m' c (by rw[Zbg,Zd4 hl];exact h) hlt hn ha
 |locNil l k esz a h=>
  intro y e;simp only[AV.un,mS]at e;obtain⟨l',hl,rfl⟩:=e
  exact .locNil l' k esz a (by rw[Zbg,Zd4 hl];exact h)
 |loc l k esz i n g c cap cp a h hn hnc hc ha=>
  intro y e;simp only[AV.un,mS]at e;obtain⟨l',hl,rfl⟩:=e
  exact .loc l' k esz i n g c cap cp a (by rw[Zbg,Zd4 hl];exact h) hn hnc hc ha
 |inn l k esz o n c cp a h hn ha=>
  intro y e;simp only[AV.un,mS]at e;obtain⟨l',hl,rfl⟩:=e
  exact .inn l' k esz o n c cp a (by rw[Zbg,Zd4 hl];exact h) hn ha
 |pnil=>intro y e;simp only[AV.un,oE]at e;subst e;exact .pnil
 |ptr l k o c h=>
  intro y e;simp only[AV.un,mS]at e;obtain⟨l',hl,rfl⟩:=e
  exact .ptr l' k o c (by rw[Zbg,Zd4 hl];exact h)
 |eptrGone l k esz i o g a h=>
  intro y e;simp only[AV.un,mS]at e;obtain⟨l',hl,rfl⟩:=e
  exact .eptrGone l' k esz i o g a (by rw[Zbg,Zd4 hl];exact h)
 |eptrOld l k esz i o g a m' c h hlt=>
  intro y e;simp only[AV.un,mS]at e;obtain⟨l',hl,rfl⟩:=e
  exact .eptrOld l' k esz i o g a m' c (by rw[Zbg,Zd4 hl];exact h) hlt
 |eptr l k esz i o g c cap h=>
  intro y e;simp only[AV.un,mS]at e;obtain⟨l',hl,rfl⟩:=e
  exact .eptr l' k esz i o g c cap (by rw[Zbg,Zd4 hl];exact h)
 |rptr es i o cb off esz u h1 h2 h3 h4 _=>intro y e;simp only[AV.un,oE]at e;subst e;exact .rptr es i o cb off esz u h1 h2 h3 h4
 |fnil=>intro y e;simp only[AV.un,oE]at e;subst e;exact .fnil
 |fn f first cap vf vc h1 h2 _ _ ih1 ih2=>
  intro y e
  simp only[AV.un]at e
  split at e
  ·rename_i a b ha hb
   simp only[oE]at e;subst e
   have g1:=Zfz d _ _ ha
   have g2:=Zfz d _ _ hb
   refine .fn f _ _ vf vc (by rw[g1.1];exact h1) (by rw[g2.1];exact h2) ?_ ?_
   ·intro i x v hx hv
    have hi:i<first.length:=by rw[←g1.1];exact(gS.1 hx).1
    obtain⟨y,hy,hu⟩:=g1.2 i _ (gG hi)
    rw[hx]at hy;obtain rfl:=oi hy
    exact ih1 i _ v (gG hi) hv hu
   ·intro i x v hx hv
    have hi:i<cap.length:=by rw[←g2.1];exact(gS.1 hx).1
    obtain⟨y,hy,hu⟩:=g2.2 i _ (gG hi)
    rw[hx]at hy;obtain rfl:=oi hy
    exact ih2 i _ v (gG hi) hv hu
  ·cases e
 |inil=>intro y e;simp only[AV.un,oE]at e;subst e;exact .inil
 |ifc t x v _ ih=>
  intro y e;simp only[AV.un,mS]at e;obtain⟨z,hz,rfl⟩:=e
  exact .ifc t z v (ih hz)
 |agg cs vs h1 h2 _ ih=>
  intro y e;simp only[AV.un,mS]at e;obtain⟨z,hz,rfl⟩:=e
  have g:=Zfz d _ _ hz
  refine .agg z vs (by rw[g.1];exact h1) ?_ ?_
  ·intro x hx
   obtain⟨i,hi⟩:=List.mem_iff_getElem?.1 hx
   have hlt:i<cs.length:=by rw[←g.1];exact(gS.1 hi).1
   obtain⟨y,hy,hu⟩:=g.2 i _ (gG hlt)
   rw[hi]at hy;obtain rfl:=oi hy
   rw[Zpz hu]
   exact h2 _ (List.getElem_mem hlt)
  ·intro i x v hx hv
   have hlt:i<cs.length:=by rw[←g.1];exact(gS.1 hx).1
   obtain⟨y,hy,hu⟩:=g.2 i _ (gG hlt)
   rw[hx]at hy;obtain rfl:=oi hy
   exact ih i _ v (gG hlt) hv hu
 |tup xs vs h1 _ ih=>
  intro y e;simp only[AV.un,mS]at e;obtain⟨z,hz,rfl⟩:=e
  have g:=Zfz d _ _ hz
  refine .tup z vs (by rw[g.1];exact h1) ?_
  intro i x v hx hv
  have hlt:i<xs.length:=by rw[←g.1];exact(gS.1 hx).1
  obtain⟨y,hy,hu⟩:=g.2 i _ (gG hlt)
  rw[hx]at hy;obtain rfl:=oi hy
  exact ih i _ v (gG hlt) hv hu
 |dead v=>intro y e;simp only[AV.un,oE]at e;subst e;exact .dead v
theorem frzL_get (G:Get):∀ (cs ys:List AV),AV.frzL G cs=some ys→ys.length=cs.length∧∀ (i:Nat) (x:AV),cs[i]?=some x→∃ y,ys[i]?=some y∧x.frz G=some y
 |[],ys,h=>by simp only[AV.frzL,oE]at h;subst h;simp
 |x::l,ys,h=>by
  simp only[AV.frzL]at h
  split at h
  ·rename_i a b ha hb
   obtain rfl:=oi h
   have ih:=frzL_get G l b hb
   refine⟨by simp[ih.1],?_⟩
   intro i z hz
   cases i with
   |zero=>simp only[List.getElem?_cons_zero,oE]at hz;subst hz;exact⟨a,by simp,ha⟩
   |succ i=>simp only[List.getElem?_cons_succ]at hz ⊢;exact ih.2 i z hz
  ·cases h
theorem Zew:∀ (cs:List AV) (i:Nat) (x:AV),cs[i]?=some x→∀ p∈x.refs,p∈AV.refsL cs
 |[],i,x,h=>by simp at h
 |y::l,0,x,h=>by
  simp only[List.getElem?_cons_zero,oE]at h;subst h
  intro p hp;simp only[AV.refsL,List.mem_append];exact .inl hp
 |y::l,i+1,x,h=>by
  simp only[List.getElem?_cons_succ]at h
  intro p hp;simp only[AV.refsL,List.mem_append];exact .inr (Zew l i x h p hp)
theorem ZhG {G:Get}{x y:AV} (h:x.frz G=some y):y.flat=x.flat:=by
 cases x with
 |loc l k e i n g=>
  simp only[AV.frz]at h
  split at h
  ·split at h
   ·simp only[oE]at h;subst h;simp[AV.flat]
   ·cases h
  ·cases h
 |fn f a b=>
  simp only[AV.frz]at h
  split at h
  ·obtain rfl:=oi h;simp[AV.flat]
  ·cases h
 |_=>
  first
  |(simp[AV.frz]at h;done)
  |(simp only[AV.frz,oE]at h;subst h;simp[AV.flat];done)
  |(simp only[AV.frz,mS]at h;obtain⟨a,_,rfl⟩:=h;simp[AV.flat];done)
section
variable {N0:Nat}{W0:World}{fm:FM}{ts:List Tie}{H:Zam}{w:World}
theorem HR.frz (h:HR N0 W0 fm ts H w) (r:List (Nat×Nat)) {x:AV}{v:Value} (hv:VR fm ts x v):
  ∀ {y:AV},x.frz H.get=some y→(∀ p∈x.refs,p∈r)→VR (Zdx fm w (ZeY ts H r)) [] y v:=by
 have hF:=h.fmLe r
 generalize hfm':Zdx fm w (ZeY ts H r)=fm' at hF
 have hcell:∀ c o u,ZeY ts H r c→w.cell? ⟨c,o,none⟩=some u→fm' c o=some u:=by
  intro c o u hb hc
  rw[←hfm']
  unfold Zdx
  rw[if_pos hb]
  exact hc
 clear hfm'
 induction hv with
 |bool b=>intro y e _;simp only[AV.frz,oE]at e;subst e;exact .bool b
 |int k n=>intro y e _;simp only[AV.frz,oE]at e;subst e;exact .int k n
 |str s=>intro y e _;simp only[AV.frz,oE]at e;subst e;exact .str s
 |nil=>intro y e _;simp only[AV.frz,oE]at e;subst e;exact .nil
 |slNil e0 a cap=>intro y e _;simp only[AV.frz,oE]at e;subst e;exact .slNil e0 a cap
 |sl es cb off esz cap u hcap h1 h2 h3 h4 _=>
  intro y e _;simp only[AV.frz,oE]at e;subst e
  exact(VR.sl es cb off esz cap u hcap h1 h2 h3 h4 (ts:=[])).mono hF (ZaA.refl _)
 |locGone l k esz i n g a cp ht hn ha=>
  intro y e _
  simp only[AV.frz]at e
  split at e
  ·rename_i et esz' es hg
   have:=h.blk l k _ hg
   rw[ht]at this
   cases this
  ·cases e
 |locOld l k esz i n g a cp m' c ht hlt hn ha=>
  intro y e _
  simp only[AV.frz]at e
  split at e
  ·rename_i et esz' es hg
   have:=h.blk l k _ hg
   rw[ht]at this
   split at e
   ·rename_i hh
    cases this with
    |nil et esz=>simp at hh;omega
    |arr et esz es c cap hN h=>omega
   ·cases e
  ·cases e
 |locNil l k esz a ht=>
  intro y e _
  simp only[AV.frz]at e
  split at e
  ·split at e
   ·simp only[List.drop_zero,List.take_zero,oE]at e;subst e;exact .slNil _ _ _
   ·cases e
  ·cases e
 |loc l k esz i n g c cap cp a ht hn hnc hc ha=>
  intro y e hr
  simp only[AV.frz]at e
  split at e
  ·rename_i et esz' es hg
   split at e
   ·rename_i hh
    obtain⟨he,ZbS,hin⟩:=hh
    subst he
    simp only[oE]at e;subst e
    have hb:=h.blk l k _ hg
    rw[ht]at hb
    cases hb with
    |arr et _ es c cap hN hA=>
     obtain⟨cells,c1,c2,c3,c4,c5,c6,c7⟩:=hA
     have hbeh:ZeY _ H r c:=⟨l,k,_,hr (l,k) (by simp[AV.refs]),hg,by rw[ht];rfl,by rw[ht];rfl⟩
     by_cases hn0:n=0
     ·subst hn0
      simp only[List.take_zero]
      exact .slNil _ _ _
     ·have ha':=ha (.inl (by omega))
      subst ha'
      have hl:((es.drop i).take n).length=n:=by simp;omega
      have key:∀ (j:Nat) (cc:List AV) (o:Nat) (x:AV),((es.drop i).take n)[j]?=some cc→cc[o]?=some x→∃ u,cells[(i+j)*esz'+o]?=some u∧x.flat=true∧VR fm [] x u:=by
       intro j cc o x hj ho
       have hj':es[i+j]?=some cc:=by
        rw[List.getElem?_take]at hj
        split at hj
        ·rw[List.getElem?_drop]at hj;exact hj
        ·cases hj
       have hlt:i+j<es.length:=(gS.1 hj').1
       have hcc:cc.length=esz':=c5 cc (List.mem_of_getElem? hj')
       have hol:o<esz':=by rw[←hcc];exact(gS.1 ho).1
       have hsz:(i+j)*esz'+o<cells.size:=by
        rw[c2]
        have:(i+j+1)*esz'≤cap*esz':=Nat.mul_le_mul_right _ (by omega)
        rw[Nat.add_mul]at this
        omega
       have hcell':=Array.getElem?_eq_getElem hsz
       have:=c7 (i+j) cc o x _ hj' ho hcell'
       exact⟨_,hcell',this.1,this.2⟩
      have hsl:=VR.sl (fm:=fm') (ts:=[]) ((es.drop i).take n) c (i*esz') esz' cp (fun j o=>(cells[(i+j)*esz'+o]?).getD default) (by rw[hl];exact⟨hnc,by omega⟩)
       (fun cc hcc=>c5 cc (List.mem_of_mem_drop (List.mem_of_mem_take hcc)))
       (by
        intro j cc o x hj ho
        obtain⟨u,hu,_,_⟩:=key j cc o x hj ho
        refine hcell c _ _ hbeh ?_
        simp only[World.cell?,c1]
        have:i*esz'+(j*esz'+o)=(i+j)*esz'+o:=by rw[Nat.add_mul];omega
        rw[this,hu]
        simp)
       (fun j cc o x hj ho=>(key j cc o x hj ho).elim fun u hu=>hu.2.1)
       (by
        intro j cc o x hj ho
        obtain⟨u,hu,_,hv⟩:=key j cc o x hj ho
        rw[hu]
        exact hv.mono hF (ZaA.refl _))
      rw[hl]at hsl
      exact hsl
   ·cases e
  ·cases e
 |inn l k esz o n c cp a ht hn ha=>intro y e;simp[AV.frz]at e
 |pnil=>intro y e _;simp only[AV.frz,oE]at e;subst e;exact .pnil
 |ptr l k o c ht=>intro y e;simp[AV.frz]at e
 |eptrGone l k esz i o g a ht=>intro y e;simp[AV.frz]at e
 |eptrOld l k esz i o g a m' c ht hlt=>intro y e;simp[AV.frz]at e
 |eptr l k esz i o g c cap ht=>intro y e;simp[AV.frz]at e
 |rptr es i o cb off esz u h1 h2 h3 h4 _=>
  intro y e _;simp only[AV.frz,oE]at e;subst e
  exact(VR.rptr es i o cb off esz u h1 h2 h3 h4 (ts:=[])).mono hF (ZaA.refl _)
 |fnil=>intro y e _;simp only[AV.frz,oE]at e;subst e;exact .fnil
 |fn f first cap vf vc h1 h2 h3 h4 ih1 ih2=>
  intro y e hr
  simp only[AV.frz]at e
  split at e
  ·rename_i a b ha hb
   simp only[oE]at e;subst e
   have g1:=frzL_get H.get _ _ ha
   have g2:=frzL_get H.get _ _ hb
   refine .fn f a b vf vc (by rw[g1.1];exact h1) (by rw[g2.1];exact h2) ?_ ?_
   ·intro i x v hx hv
    have hlt:i<first.length:=by rw[←g1.1];exact(gS.1 hx).1
    obtain⟨y,hy,hu⟩:=g1.2 i _ (gG hlt)
    rw[hx]at hy;obtain rfl:=oi hy
    exact ih1 i _ v (gG hlt) hv h hcell hu (fun p hp=>hr p (by simp only[AV.refs,List.mem_append];exact .inl (Zew first i _ (gG hlt) p hp)))
   ·intro i x v hx hv
    have hlt:i<cap.length:=by rw[←g2.1];exact(gS.1 hx).1
    obtain⟨y,hy,hu⟩:=g2.2 i _ (gG hlt)
    rw[hx]at hy;obtain rfl:=oi hy
    exact ih2 i _ v (gG hlt) hv h hcell hu (fun p hp=>hr p (by simp only[AV.refs,List.mem_append];exact .inr (Zew cap i _ (gG hlt) p hp)))
  ·cases e
 |inil=>intro y e _;simp only[AV.frz,oE]at e;subst e;exact .inil
 |ifc t x v _ ih=>
  intro y e hr;simp only[AV.frz,mS]at e;obtain⟨z,hz,rfl⟩:=e
  exact .ifc t z v (ih h hcell hz (fun p hp=>hr p (by simp only[AV.refs];exact hp)))
 |agg cs vs h1 h2 _ ih=>
  intro y e hr;simp only[AV.frz,mS]at e;obtain⟨z,hz,rfl⟩:=e
  have g:=frzL_get H.get _ _ hz
  refine .agg z vs (by rw[g.1];exact h1) ?_ ?_
  ·intro x hx
   obtain⟨i,hi⟩:=List.mem_iff_getElem?.1 hx
   have hlt:i<cs.length:=by rw[←g.1];exact(gS.1 hi).1
   obtain⟨y,hy,hu⟩:=g.2 i _ (gG hlt)
   rw[hi]at hy;obtain rfl:=oi hy
   rw[ZhG hu]
   exact h2 _ (List.getElem_mem hlt)
  ·intro i x v hx hv
   have hlt:i<cs.length:=by rw[←g.1];exact(gS.1 hx).1
   obtain⟨y,hy,hu⟩:=g.2 i _ (gG hlt)
   rw[hx]at hy;obtain rfl:=oi hy
   exact ih i _ v (gG hlt) hv h hcell hu (fun p hp=>hr p (by simp only[AV.refs];exact Zew cs i _ (gG hlt) p hp))
 |tup xs vs h1 _ ih=>
  intro y e hr;simp only[AV.frz,mS]at e;obtain⟨z,hz,rfl⟩:=e
  have g:=frzL_get H.get _ _ hz
  refine .tup z vs (by rw[g.1];exact h1) ?_
  intro i x v hx hv
  have hlt:i<xs.length:=by rw[←g.1];exact(gS.1 hx).1
  obtain⟨y,hy,hu⟩:=g.2 i _ (gG hlt)
  rw[hx]at hy;obtain rfl:=oi hy
  exact ih i _ v (gG hlt) hv h hcell hu (fun p hp=>hr p (by simp only[AV.refs];exact Zew xs i _ (gG hlt) p hp))
 |dead v=>intro y e;simp[AV.frz]at e
theorem HR.frzL (h:HR N0 W0 fm ts H w) (r:List (Nat×Nat)) {cs ys:List AV}{vs:List Value} (hv:VRs fm ts cs vs) (e:AV.frzL H.get cs=some ys) (hr:∀ p∈AV.refsL cs,p∈r):
  VRs (Zdx fm w (ZeY ts H r)) [] ys vs:=by
 have g:=frzL_get H.get _ _ e
 refine⟨g.1.trans hv.1,?_⟩
 intro i x v hx hxv
 have hlt:i<cs.length:=by rw[←g.1];exact(gS.1 hx).1
 obtain⟨y,hy,hu⟩:=g.2 i _ (gG hlt)
 rw[hx]at hy;obtain rfl:=oi hy
 exact h.frz r (hv.2 i _ v (gG hlt) hxv) hu (fun p hp=>hr p (Zew cs i _ (gG hlt) p hp))
end
end Go.Abs
namespace Go.Abs
open Go Go.RowKit
def ZbW:TypeDesc→Bool
 |.struct _|.array _ _=>true
 |_=>false
def Zuz:Value→AV→Bool
 |.int k n,.int k' n'=>k==k'&&n==n'
 |.bool b,.bool b'=>b==b'
 |.string s,.str s'=>decide (s.data=s'.data)
 |.slice none 0 0,.nil=>true
 |.slice none 0 0,.sl _ []=>true
 |.pointer none,.pnil=>true
 |.nilFunc,.fnil=>true
 |.nilIface,.inil=>true
 |_,_=>false
def Zjc:List Value→List AV→Bool
 |[],[]=>true
 |v::l,x::m=>Zuz v x&&Zjc l m
 |_,_=>false
def Zrp (P:Program) (t:TypeId) (z:List AV):Bool:=
 match P.info? t with
 |some i=>match i.zero with
  |some v=>Zjc v.cells.toList z
  |none=>false
 |none=>false
def elB (P:Program) (e:TypeId) (ti:TI):Bool:=
 match P.info? e with
 |some i=>i.size==ti.el&&i.bytes==ti.elb&&Zrp P e ti.elz&&(match P.underlying e with|some d=>ZbW d==ti.elAgg|none=>false)
 |none=>false
def flB (P:Program):List Field→List (Nat×Nat×Bool)→Bool
 |[],[]=>true
 |f::fs,(o,s,a)::l=>f.offset==o&&decide (0<s)&&(match P.info? f.type with|some i=>i.size==s|none=>false)&&(match P.underlying f.type with|some d=>ZbW d==a|none=>false)&&flB P fs l
 |_,_=>false
def Zfr (P:Program) (L:TypeId→Option (List AV)) (acc:List AV):List Field→Option (List AV)
 |[]=>some acc
 |x::xs=>match L x.type with
  | some l => if x.name ≠ "_" ∧ x.offset = acc.length ∧ (P.info? x.type).isSome = true ∧ P.cellsOf x.type = l.length then Zfr P L (acc ++ l) xs else none
  |none=>none
def ZgJ (P:Program):Nat→TypeId→Option (List AV)
 |0,_=>none
 |f+1,t=>match P.underlying t with
  |some (.int k)=>some [.int k 0]
  |some .bool=>some [.bool false]
  |some .string=>some [.str ByteArray.empty]
  |some (.struct fs)=>if P.stoodInHeld t=false then Zfr P (ZgJ P f) [] fs.toList else none
  |some (.array n e)=>match ZgJ P f e with
   |some l=>if (P.info? e).isSome=true∧P.cellsOf e=l.length then some (List.replicate n l).flatten else none
   |none=>none
  |_=>none
def Zm5:AV→AV→Bool
 |.int _ _,.int _ _=>true
 |.bool _,.bool _=>true
 |.str _,.str _=>true
 |_,_=>false
def ZdJ:List AV→List AV→Bool
 |[],[]=>true
 |x::l,y::m=>Zm5 x y&&ZdJ l m
 |_,_=>false
def Zia (P:Program) (t:TypeId) (ti:TI):Bool:=
 (match P.info? t with|some i=>i.size==ti.size&&i.bytes==ti.bytes|none=>false)&&
 Zrp P t ti.zero&&ti.zero.all AV.flat&&(ti.elz.all AV.flat&&ti.elz.length==ti.el)&&decide (ti.sc.length<16)&&
 (!ti.pl || (!P.eqGuardType P.depth t&&(match ZgJ P 20 t with|some l=>ZdJ l ti.zero|none=>false)))&&
 (match ti.d,P.underlying t with
  |.int k,some (.int k')=>k==k'
  |.bool,some .bool=>true
  |.str,some .string=>true
  |.slice e,some (.slice e')=>e==e'&&elB P e ti
  |.array n e,some (.array n' e')=>n==n'&&e==e'&&elB P e ti
  |.struct,some (.struct fs)=>flB P fs.toList ti.fl
  |.ptr e,some (.pointer e')=>e==e'
  |.map k e,some (.map k' e')=>k==k'&&e==e'
  |.func,some (.func ..)=>true
  |.iface,some (.interface _)=>true
  |_,_=>false)
def ZaL (P:Program) (T:Tys):Prop:=∀ t ti,T t=some ti→Zia P t ti=true
theorem Zrf (P:Program) (l:List (Nat×TI)) (h:(l.all fun p=>Zia P p.1 p.2)=true):ZaL P (look l):=by
 intro t ti ht
 have hm:∀ (l:List (Nat×TI)),look l t=some ti→(t,ti)∈l:=by
  intro l
  clear h ht
  induction l with
  |nil=>intro h;simp[look]at h
  |cons p l ih=>
   obtain⟨k,x⟩:=p
   intro h
   rw[look]at h
   split at h
   ·rename_i e;subst e;simp only[oE]at h;subst h;exact List.mem_cons_self
   ·exact List.mem_cons_of_mem _ (ih h)
 exact(List.all_eq_true.1 h) _ (hm l ht)
theorem Zh3:∀ (vs:List Value) (xs:List AV),Zjc vs xs=true→∀ fm ts,VRs fm ts xs vs
 |[],[],_,fm,ts=>⟨rfl,fun i x v h=>by simp at h⟩
 |[],_::_,h,_,_=>by simp[Zjc]at h
 |_::_,[],h,_,_=>by simp[Zjc]at h
 |v::l,x::m,h,fm,ts=>by
  simp only[Zjc,Bool.and_eq_true]at h
  have ih:=Zh3 l m h.2 fm ts
  have hv:VR fm ts x v:=by
   have h1:=h.1
   unfold Zuz at h1
   split at h1
   ·simp only[Bool.and_eq_true,beq_iff_eq]at h1;obtain⟨rfl,rfl⟩:=h1;exact .int _ _
   ·simp only[beq_iff_eq]at h1;subst h1;exact .bool _
   ·rename_i s s';have h2:s.data=s'.data:=of_decide_eq_true h1;have h3:s=s':=by cases s;cases s';simp_all
    subst h3;exact .str _
   ·exact .nil
   ·exact .slNil _ _ _
   ·exact .pnil
   ·exact .fnil
   ·exact .inil
   ·cases h1
  refine⟨by simp[ih.1],?_⟩
  intro i y u hy hu
  cases i with
  |zero=>simp only[List.getElem?_cons_zero,oE]at hy hu;subst hy hu;exact hv
  |succ i=>simp only[List.getElem?_cons_succ]at hy hu;exact ih.2 i y u hy hu
section
variable {P:Program}{T:Tys}{t:TypeId}{ti:TI}
structure TIok (P:Program) (t:TypeId) (ti:TI):Prop where
 info:∃ i,P.info? t=some i∧i.size=ti.size∧i.bytes=ti.bytes∧∃ z,i.zero=some z∧∀ fm ts,VRs fm ts ti.zero z.cells.toList
 zflat:∀ x∈ti.zero,x.flat=true
 elflat:∀ x∈ti.elz,x.flat=true
 elz:ti.elz.length=ti.el
 sc:ti.sc.length<16
 pl:ti.pl=true→P.eqGuardType P.depth t=false∧∃ l,ZgJ P 20 t=some l∧ZdJ l ti.zero=true
structure ElOK (P:Program) (e:TypeId) (ti:TI):Prop where
 info:∃ i,P.info? e=some i∧i.size=ti.el∧i.bytes=ti.elb∧∃ z,i.zero=some z∧∀ fm ts,VRs fm ts ti.elz z.cells.toList
 agg:∃ d,P.underlying e=some d∧ZbW d=ti.elAgg
theorem ZiC {z:List AV} (h:Zrp P t z=true):∃ i v,P.info? t=some i∧i.zero=some v∧∀ fm ts,VRs fm ts z v.cells.toList:=by
 unfold Zrp at h
 split at h
 ·rename_i i hi
  split at h
  ·rename_i v hv
   exact⟨i,v,hi,hv,Zh3 _ _ h⟩
  ·cases h
 ·cases h
theorem Zk0 {e:TypeId} (h:elB P e ti=true):ElOK P e ti:=by
 unfold elB at h
 split at h
 ·rename_i i hi
  simp only[Bool.and_eq_true,beq_iff_eq]at h
  obtain⟨⟨⟨h1,h2⟩,h3⟩,h4⟩:=h
  obtain⟨i',v,hi',hv,hz⟩:=ZiC h3
  rw[hi]at hi';obtain rfl:=oi hi'
  refine⟨⟨i,hi,h1,h2,v,hv,hz⟩,?_⟩
  split at h4
  ·rename_i d hd;exact⟨d,hd,by simpa using h4⟩
  ·cases h4
 ·cases h
theorem ZaL.ok (hT:ZaL P T) (h:T t=some ti):TIok P t ti:=by
 have:=hT t ti h
 unfold Zia at this
 simp only[Bool.and_eq_true]at this
 obtain⟨⟨⟨⟨⟨⟨h1,h2⟩,h3⟩,h4⟩,h5⟩,h6⟩,_⟩:=this
 split at h1
 ·rename_i i hi
  simp only[Bool.and_eq_true,beq_iff_eq]at h1
  obtain⟨i',v,hi',hv,hz⟩:=ZiC h2
  rw[hi]at hi';obtain rfl:=oi hi'
  refine⟨⟨i,hi,h1.1,h1.2,v,hv,hz⟩,by simpa using h3,by simpa using h4.1,by simpa using h4.2,by simpa using h5,?_⟩
  intro hp
  rw[hp]at h6
  simp only[Bool.not_true,Bool.false_or,Bool.and_eq_true,Bool.not_eq_true']at h6
  refine⟨h6.1,?_⟩
  have h62:=h6.2
  split at h62
  ·rename_i l hl;exact⟨l,hl,h62⟩
  ·cases h62
 ·cases h1
theorem ZaL.int (hT:ZaL P T) (h:T t=some ti) {k:IntKind} (hd:ti.d=.int k):P.underlying t=some (.int k):=by
 have:=hT t ti h
 unfold Zia at this
 simp only[Bool.and_eq_true]at this
 have h7:=this.2
 rw[hd]at h7
 split at h7<;>simp_all
theorem ZaL.bool (hT:ZaL P T) (h:T t=some ti) (hd:ti.d=.bool):P.underlying t=some .bool:=by
 have:=hT t ti h
 unfold Zia at this
 simp only[Bool.and_eq_true]at this
 have h7:=this.2
 rw[hd]at h7
 split at h7<;>simp_all
theorem ZaL.str (hT:ZaL P T) (h:T t=some ti) (hd:ti.d=.str):P.underlying t=some .string:=by
 have:=hT t ti h
 unfold Zia at this
 simp only[Bool.and_eq_true]at this
 have h7:=this.2
 rw[hd]at h7
 split at h7<;>simp_all
theorem ZaL.slice (hT:ZaL P T) (h:T t=some ti) {e:TypeId} (hd:ti.d=.slice e):P.underlying t=some (.slice e)∧ElOK P e ti:=by
 have:=hT t ti h
 unfold Zia at this
 simp only[Bool.and_eq_true]at this
 have h7:=this.2
 rw[hd]at h7
 split at h7<;>simp_all
 obtain⟨rfl,h7⟩:=h7
 exact Zk0 h7
theorem ZaL.array (hT:ZaL P T) (h:T t=some ti) {n:Nat}{e:TypeId} (hd:ti.d=.array n e):P.underlying t=some (.array n e)∧ElOK P e ti:=by
 have:=hT t ti h
 unfold Zia at this
 simp only[Bool.and_eq_true]at this
 have h7:=this.2
 rw[hd]at h7
 split at h7<;>simp_all
 obtain⟨⟨_,rfl⟩,h7⟩:=h7
 exact Zk0 h7
theorem Zl6:∀ (fs:List Field) (l:List (Nat×Nat×Bool)),flB P fs l=true→∀ (i:Nat) (o s:Nat) (a:Bool),l[i]?=some (o,s,a)→
  ∃ f,fs[i]?=some f∧f.offset=o∧0<s∧(∃ inf,P.info? f.type=some inf∧inf.size=s)∧∃ d,P.underlying f.type=some d∧ZbW d=a
 |[],[],_,i,o,s,a,h=>by simp at h
 |[],_::_,h,_,_,_,_,_=>by simp[flB]at h
 |_::_,[],_,i,o,s,a,h=>by simp at h
 |f::fs,(o',s',a')::l,h,i,o,s,a,hi=>by
  simp only[flB,Bool.and_eq_true,beq_iff_eq]at h
  obtain⟨⟨⟨⟨h1,h0⟩,h2⟩,h3⟩,h4⟩:=h
  cases i with
  |zero=>
   simp only[List.getElem?_cons_zero,oE,Prod.mk.injEq]at hi
   obtain⟨rfl,rfl,rfl⟩:=hi
   refine⟨f,by simp,h1,of_decide_eq_true h0,?_,?_⟩
   ·split at h2
    ·rename_i inf hinf;exact⟨inf,hinf,by simpa using h2⟩
    ·cases h2
   ·split at h3
    ·rename_i d hd;exact⟨d,hd,by simpa using h3⟩
    ·cases h3
  |succ i=>simp only[List.getElem?_cons_succ]at hi ⊢;exact Zl6 fs l h4 i o s a hi
theorem ZaL.struct (hT:ZaL P T) (h:T t=some ti) (hd:ti.d=.struct):∃ fs,P.underlying t=some (.struct fs)∧flB P fs.toList ti.fl=true:=by
 have:=hT t ti h
 unfold Zia at this
 simp only[Bool.and_eq_true]at this
 have h7:=this.2
 rw[hd]at h7
 split at h7<;>simp_all
theorem ZaL.agg (hT:ZaL P T) (h:T t=some ti):∃ d,P.underlying t=some d∧ZbW d=ti.isAgg:=by
 have:=hT t ti h
 unfold Zia at this
 simp only[Bool.and_eq_true]at this
 have h7:=this.2
 unfold TI.isAgg
 split at h7<;>rename_i h1 h2<;>first|(exact⟨_,h2,by rw[h1];rfl⟩)|(cases h7)
end
theorem ZkV {P:Program}{t:TypeId}{d:TypeDesc} (h:P.underlying t=some d) (w:World):(isAgg t).run P w=.ok (ZbW d) w:=by
 simp only[isAgg,Sem.run_bind,run_underlying h,Result.andThen_ok]
 cases d<;>simp[ZbW]
mutual
theorem constAV_sound {fm:FM}{ts:List Tie}:∀ (v:Value) (x:AV),constAV v=some x→VR fm ts x v
 |.bool b,x,h=>by simp only[constAV,oE]at h;subst h;exact .bool b
 |.int k n,x,h=>by simp only[constAV,oE]at h;subst h;exact .int k n
 |.string s,x,h=>by simp only[constAV,oE]at h;subst h;exact .str s
 |.slice none 0 0,x,h=>by simp only[constAV,oE]at h;subst h;exact .nil
 |.slice none 0 (_+1),x,h=>by simp[constAV]at h
 |.slice none (_+1) _,x,h=>by simp[constAV]at h
 |.slice (some _) _ _,x,h=>by simp[constAV]at h
 |.pointer none,x,h=>by simp only[constAV,oE]at h;subst h;exact .pnil
 |.pointer (some _),x,h=>by simp[constAV]at h
 |.nilFunc,x,h=>by simp only[constAV,oE]at h;subst h;exact .fnil
 |.nilIface,x,h=>by simp only[constAV,oE]at h;subst h;exact .inil
 |.agg ⟨cs⟩,x,h=>by
  simp only[constAV]at h
  split at h
  ·rename_i l hl
   split at h
   ·rename_i hf
    simp only[oE]at h;subst h
    have:=constAVs_sound (fm:=fm) (ts:=ts) cs l hl
    exact .agg l _ (by simpa using this.1) (by simpa using hf) (fun i x v hx hv=>this.2 i x v hx (by simpa using hv))
   ·cases h
  ·cases h
 |.float _ _,x,h=>by simp[constAV]at h
 |.complex _ _ _,x,h=>by simp[constAV]at h
 |.map _,x,h=>by simp[constAV]at h
 |.chan _,x,h=>by simp[constAV]at h
 |.func _ _ _,x,h=>by simp[constAV]at h
 |.iface _ _,x,h=>by simp[constAV]at h
 |.tuple _,x,h=>by simp[constAV]at h
theorem constAVs_sound {fm:FM}{ts:List Tie}:∀ (vs:List Value) (xs:List AV),constAVs vs=some xs→VRs fm ts xs vs
 |[],xs,h=>by simp only[constAVs,oE]at h;subst h;exact⟨rfl,fun i x v h=>by simp at h⟩
 |v::l,xs,h=>by
  simp only[constAVs]at h
  split at h
  ·rename_i a b ha hb
   obtain rfl:=oi h
   have h1:=constAV_sound v a ha (fm:=fm) (ts:=ts)
   have ih:=constAVs_sound l b hb (fm:=fm) (ts:=ts)
   refine⟨by simp[ih.1],?_⟩
   intro i y u hy hu
   cases i with
   |zero=>simp only[List.getElem?_cons_zero,oE]at hy hu;subst hy hu;exact h1
   |succ i=>simp only[List.getElem?_cons_succ]at hy hu;exact ih.2 i y u hy hu
  ·cases h
end
def TmR (fm:FM) (ts:List Tie) (tm:Tm) (a:Act):Prop:=∀ t x,tm t=some x→∃ v,a.tmps[t]?=some v∧VR fm ts x v
theorem Zct {fm:FM}{ts:List Tie}{tm:Tm}{a:Act} (h:TmR fm ts tm a) {x:Operand}{y:AV} (hx:opv tm x=some y):VR fm ts y (a.eval x):=by
 cases x with
 |tmp t=>
  obtain⟨v,hv,hr⟩:=h t y hx
  have:a.eval (.tmp t)=v:=by
   simp only[Act.eval,Array.getD_eq_getD_getElem?,hv,Option.getD_some]
  rw[this]
  exact hr
 |const v=>exact constAV_sound v y hx
 |global g=>simp[opv]at hx
 |func f=>
  simp only[opv,oE]at hx;subst hx
  exact .fn _ [] [] #[] #[] rfl rfl (by intro i x v h;simp at h) (by intro i x v h;simp at h)
theorem Zcj {fm:FM}{ts:List Tie}{tm:Tm}{a:Act} (h:TmR fm ts tm a):∀ (l:List Operand) (ys:List AV),Zlk tm l=some ys→VRs fm ts ys (l.map a.eval)
 |[],ys,e=>by simp only[Zlk,oE]at e;subst e;exact⟨rfl,fun i x v h=>by simp at h⟩
 |x::l,ys,e=>by
  simp only[Zlk]at e
  split at e
  ·rename_i p q hp hq
   obtain rfl:=oi e
   have h1:=Zct h hp
   have ih:=Zcj h l q hq
   refine⟨by simp[ih.1],?_⟩
   intro i y u hy hu
   cases i with
   |zero=>simp only[List.map_cons,List.getElem?_cons_zero,oE]at hy hu;subst hy hu;exact h1
   |succ i=>simp only[List.map_cons,List.getElem?_cons_succ]at hy hu;exact ih.2 i y u hy hu
  ·cases e
def Zv7 (r:Result Next) (v:Value) (w':World):Prop:=r=.ok (.value v) w'∨(r=.ok .skip w'∧v=undef)
structure Out (N0:Nat) (W0:World) (fm:FM) (ts:List Tie) (H:Zam) (w:World) (kb:Nat) (r:Result Next) (d:De) (fm':FM) (ts':List Tie) (w':World) (v:Value):Prop where
 done:Zv7 r v w'
 hr:HR N0 W0 fm' ts' (H.puts d.sets) w'
 val:VR fm' ts' d.val v
 fle:FmUp N0 fm fm'
 tle:ZaA ts ts'
 free:∀ l k,(l≠0∨k<kb∨kb+16≤k)→tb ts l k=none→tb ts' l k=none
def ZgV (N0:Nat) (W0:World) (fm:FM) (ts:List Tie) (H:Zam) (w:World) (kb:Nat) (r:Result Next) (d:De):Prop:=
 ∃ fm' ts' w' v,Out N0 W0 fm ts H w kb r d fm' ts' w' v
theorem ZgV.pure {N0:Nat}{W0:World}{fm:FM}{ts:List Tie}{H:Zam}{w:World}{kb:Nat}{r:Result Next}{x:AV}{v:Value}
  (h:HR N0 W0 fm ts H w) (hr:r=.ok (.value v) w) (hv:VR fm ts x v):ZgV N0 W0 fm ts H w kb r ⟨x,[]⟩:=
 ⟨fm,ts,w,v,.inl hr,h,hv,FmUp.refl _ _,ZaA.refl _,fun _ _ _ h=>h⟩
end Go.Abs
namespace Go.Abs
open Go Go.RowKit
theorem Zb9 {P:Program}{w w':World}{s:Sem Value}{v:Value} (hs:s.run P w=.ok v w'):
  ((do let x ←s;pure (Next.value x)):Sem Next).run P w=.ok (.value v) w':=by
 simp[hs]
theorem Zuo {P:Program}{w w':World}{s:Sem Unit} (hs:s.run P w=.ok () w'):
  ((do s;pure Next.skip):Sem Next).run P w=.ok .skip w':=by
 simp[hs]
section
variable {P:Program}{T:Tys}{N0:Nat}{W0:World}{fm:FM}{ts:List Tie}{H:Zam}{w:World}{tm:Tm}{a:Act}
theorem Zkg {r:Option AV}{d:De} (h:Zb1 r=some d):∃ x,r=some x∧d=⟨x,[]⟩:=by
 unfold Zb1 at h
 cases r with
 |none=>cases h
 |some x=>simp only[Option.map_some,oE]at h;exact⟨x,rfl,h.symm⟩
theorem Zh2 {es:List (List AV)}{cf:Nat→Option Value}{esz i o size:Nat}{u:Nat→Nat→Value}{cs:List AV} (h1:ZaE es esz)
  (h2:∀ (i:Nat) (c:List AV) (o:Nat) (x:AV),es[i]?=some c→c[o]?=some x→cf (i*esz+o)=some (u i o))
  (h3:∀ (i:Nat) (c:List AV) (o:Nat) (x:AV),es[i]?=some c→c[o]?=some x→x.flat=true)
  (h4:∀ (i:Nat) (c:List AV) (o:Nat) (x:AV),es[i]?=some c→c[o]?=some x→VR fm [] x (u i o))
  (hs:Zfs es i o size=some cs):
  ∃ vs:List Value,VRs fm [] cs vs∧cs.length=size∧(∀ x∈cs,x.flat=true)∧∀ (j:Nat) (v:Value),vs[j]?=some v→cf (i*esz+o+j)=some v:=by
 unfold Zfs at hs
 split at hs
 ·cases hs
 ·rename_i c hc
  split at hs
  ·rename_i hle
   simp only[oE]at hs;subst hs
   have ZgT:∀ j,((c.drop o).take size)[j]?=if j<size then c[o+j]? else none:=by
    intro j;rw[List.getElem?_take];split
    ·rw[List.getElem?_drop]
    ·rfl
   refine⟨(List.range size).map fun j=>u i (o+j),⟨by simp;omega,?_⟩,by simp;omega,?_,?_⟩
   ·intro j x v hx hv
    rw[ZgT]at hx
    split at hx
    ·rename_i hj
     simp only[List.getElem?_map,List.getElem?_range hj,Option.map_some,oE]at hv
     subst hv
     exact h4 i c (o+j) x hc hx
    ·cases hx
   ·intro x hx
    obtain⟨j,hj⟩:=List.mem_iff_getElem?.1 hx
    rw[ZgT]at hj
    split at hj
    ·exact h3 i c (o+j) x hc hj
    ·cases hj
   ·intro j v hv
    have hj:j<size:=by have:=(gS.1 hv).1;simpa using this
    simp only[List.getElem?_map,List.getElem?_range hj,Option.map_some,oE]at hv
    subst hv
    have hol:o+j<c.length:=by omega
    have:=h2 i c (o+j) _ hc (gG hol)
    rw[←this]
    congr 1
    omega
  ·split at hs
   ·rename_i hh
    obtain⟨rfl,hl1,hle⟩:=hh
    simp only[oE]at hs;subst hs
    have hesz:esz=1:=by rw[←h1 c (List.mem_of_getElem? hc)];exact hl1
    subst hesz
    have key:∀ (l:List (List AV)),ZaE l 1→∀ (j:Nat),l.flatten[j]?=(l[j]?).bind (·[0]?):=by
     intro l
     induction l with
     |nil=>intro _ j;simp
     |cons y l ih=>
      intro hl j
      have hy:y.length=1:=hl y List.mem_cons_self
      obtain⟨z,rfl⟩:∃ z,y=[z]:=by
       cases y with
       |nil=>simp at hy
       |cons z r=>cases r with|nil=>exact⟨z,rfl⟩|cons=>simp at hy
      cases j with
      |zero=>simp
      |succ j=>simp;rw[ih (fun c hc=>hl c (List.mem_cons_of_mem _ hc))]
    have hsub:ZaE ((es.drop i).take size) 1:=fun c hc=>h1 c (List.mem_of_mem_drop (List.mem_of_mem_take hc))
    have ZbS:((es.drop i).take size).flatten.length=size:=by
     have:∀ l:List (List AV),ZaE l 1→l.flatten.length=l.length:=by
      intro l
      induction l with
      |nil=>intro _;rfl
      |cons y l ih=>intro hl;simp[hl y List.mem_cons_self,ih (fun c hc=>hl c (List.mem_cons_of_mem _ hc))];omega
     rw[this _ hsub];simp;omega
    have ZgT:∀ j x,((es.drop i).take size).flatten[j]?=some x→j<size∧∃ cc,es[i+j]?=some cc∧cc[0]?=some x:=by
     intro j x hx
     have hj:j<size:=by rw[←ZbS];exact(gS.1 hx).1
     rw[key _ hsub,List.getElem?_take,if_pos hj,List.getElem?_drop]at hx
     cases hcc:es[i+j]? with
     |none=>rw[hcc]at hx;cases hx
     |some cc=>rw[hcc]at hx;exact⟨hj,cc,rfl,hx⟩
    refine⟨(List.range size).map fun j=>u (i+j) 0,⟨by simp[ZbS],?_⟩,ZbS,?_,?_⟩
    ·intro j x v hx hv
     obtain⟨hj,cc,hcc,hx0⟩:=ZgT j x hx
     simp only[List.getElem?_map,List.getElem?_range hj,Option.map_some,oE]at hv
     subst hv
     exact h4 (i+j) cc 0 x hcc hx0
    ·intro x hx
     obtain⟨j,hj⟩:=List.mem_iff_getElem?.1 hx
     obtain⟨_,cc,hcc,hx0⟩:=ZgT j x hj
     exact h3 (i+j) cc 0 x hcc hx0
    ·intro j v hv
     have hj:j<size:=by have:=(gS.1 hv).1;simpa using this
     simp only[List.getElem?_map,List.getElem?_range hj,Option.map_some,oE]at hv
     subst hv
     have hlt:i+j<es.length:=by omega
     have hcc:=gG hlt
     have hcl:(es[i+j]).length=1:=h1 _ (List.getElem_mem hlt)
     have:=h2 (i+j) _ 0 _ hcc (gG (by omega))
     rw[←this]
     congr 1
     omega
   ·cases hs
theorem HR.cellsAt (h:HR N0 W0 fm ts H w) {x:AV}{v:Value} (hv:VR fm ts x v) {size:Nat}{cs:List AV} (hs:cellsAt H.get size x=some cs):
  ∃ (ad:Addr) (vs:List Value),v=.pointer (some ad)∧VRs fm ts cs vs∧cs.length=size∧(∀ x∈cs,x.flat=true)∧∀ j u,vs[j]?=some u→w.cell? (ad.add j)=some u:=by
 cases hv with
 |ptr l k o c ht=>
  simp only[Go.Abs.cellsAt]at hs
  split at hs
  ·rename_i cs0 hg
   split at hs
   ·rename_i hle
    simp only[oE]at hs;subst hs
    have hb:=h.blk l k _ hg
    rw[ht]at hb
    cases hb with
    |box c cs0 hN hB=>
     obtain⟨cells,et,c1,c2,c3⟩:=hB
     have ZgT:∀ j,(AV.shL l ((cs0.drop o).take size))[j]?=if j<size then (cs0[o+j]?).map (AV.sh l) else none:=by
      intro j;rw[Zdv,List.getElem?_take];split
      ·rw[List.getElem?_drop]
      ·rfl
     refine⟨⟨c,o,none⟩,(List.range size).map fun j=>(cells[o+j]?).getD default,rfl,⟨by rw[Zb6];simp;omega,?_⟩,by rw[Zb6];simp;omega,?_,?_⟩
     ·intro j x v hx hv
      rw[ZgT]at hx
      split at hx
      ·rename_i hj
       simp only[List.getElem?_map,List.getElem?_range hj,Option.map_some,oE]at hv
       subst hv
       cases hx0:cs0[o+j]? with
       |none=>rw[hx0]at hx;cases hx
       |some y=>
        rw[hx0]at hx;simp only[Option.map_some,oE]at hx;subst hx
        have hlt:o+j<cells.size:=by omega
        rw[Array.getElem?_eq_getElem hlt]
        exact((c3 (o+j) y _ hx0 (Array.getElem?_eq_getElem hlt)).2).sh l rfl
      ·cases hx
     ·intro x hx
      obtain⟨j,hj⟩:=List.mem_iff_getElem?.1 hx
      rw[ZgT]at hj
      split at hj
      ·cases hx0:cs0[o+j]? with
       |none=>rw[hx0]at hj;cases hj
       |some y=>
        rw[hx0]at hj;simp only[Option.map_some,oE]at hj;subst hj
        have hlt:o+j<cells.size:=by have:=(gS.1 hx0).1;omega
        rw[ZjL]
        exact(c3 (o+j) y _ hx0 (Array.getElem?_eq_getElem hlt)).1
      ·cases hj
     ·intro j u hu
      have hj:j<size:=by have:=(gS.1 hu).1;simpa using this
      simp only[List.getElem?_map,List.getElem?_range hj,Option.map_some,oE]at hu
      subst hu
      have hlt:o+j<cells.size:=by omega
      rw[Addr.add_lit]
      simp only[World.cell?,c1,Array.getElem?_eq_getElem hlt]
      simp
   ·cases hs
  ·cases hs
 |eptrGone l k esz i o g p ht=>
  simp only[Go.Abs.cellsAt]at hs
  split at hs
  ·rename_i et esz' es hg
   have:=h.blk l k _ hg
   rw[ht]at this
   cases this
  ·cases hs
 |eptrOld l k esz i o g p m' c ht hlt=>
  simp only[Go.Abs.cellsAt]at hs
  split at hs
  ·rename_i et esz' es hg
   have:=h.blk l k _ hg
   rw[ht]at this
   split at hs
   ·rename_i hh
    cases this with
    |nil et esz=>simp at hh;omega
    |arr et esz es c cap hN h=>omega
   ·cases hs
  ·cases hs
 |eptr l k esz i o g c cap ht=>
  simp only[Go.Abs.cellsAt]at hs
  split at hs
  ·rename_i et esz' es hg
   split at hs
   ·rename_i hh
    obtain⟨he,ZbS⟩:=hh
    subst he
    have hb:=h.blk l k _ hg
    rw[ht]at hb
    cases hb with
    |arr et _ es c cap hN hA=>
     obtain⟨cells,c1,c2,c3,c4,c5,c6,c7⟩:=hA
     have hb:∀ (i:Nat) (cc:List AV) (o:Nat) (x:AV),es[i]?=some cc→cc[o]?=some x→∃ u,cells[i*esz'+o]?=some u∧x.flat=true∧VR fm [] x u:=by
      intro i cc o x hi ho
      have hlt:i<es.length:=(gS.1 hi).1
      have hcc:cc.length=esz':=c5 cc (List.mem_of_getElem? hi)
      have hol:o<esz':=by rw[←hcc];exact(gS.1 ho).1
      have hsz:i*esz'+o<cells.size:=by
       rw[c2]
       have:(i+1)*esz'≤cap*esz':=Nat.mul_le_mul_right _ (by omega)
       rw[Nat.add_mul]at this
       omega
      have:=c7 i cc o x _ hi ho (Array.getElem?_eq_getElem hsz)
      exact⟨_,Array.getElem?_eq_getElem hsz,this.1,this.2⟩
     obtain⟨vs,hvs,hlen',hflat,hcell⟩:=Zh2 (fm:=fm) (es:=es) (cf:=fun n=>cells[n]?) (esz:=esz') (i:=i) (o:=o) (size:=size) (u:=fun i o=>(cells[i*esz'+o]?).getD default) (cs:=cs) c5
      (by
       intro i cc o x hi ho
       obtain⟨u,hu,_,_⟩:=hb i cc o x hi ho
       simp only[hu,Option.getD_some])
      (fun i cc o x hi ho=>(hb i cc o x hi ho).elim fun u hu=>hu.2.1)
      (by
       intro i cc o x hi ho
       obtain⟨u,hu,_,hv⟩:=hb i cc o x hi ho
       simp only[hu,Option.getD_some];exact hv)
      hs
     refine⟨⟨c,i*esz'+o,none⟩,vs,rfl,⟨hvs.1,fun j x v hx hv=>(hvs.2 j x v hx hv).mono (Zdq.refl _) (ZaA.nil _)⟩,hlen',hflat,?_⟩
     intro j u hu
     rw[Addr.add_lit]
     simp only[World.cell?,c1]
     simpa using hcell j u hu
   ·cases hs
  ·cases hs
 |rptr es i o cb off esz u h1 h2 h3 h4=>
  simp only[Go.Abs.cellsAt]at hs
  obtain⟨vs,hvs,ZbS,hflat,hcell⟩:=Zh2 (cf:=fun n=>fm cb (off+n)) h1 h2 h3 h4 hs
  refine⟨_,vs,rfl,⟨hvs.1,fun j x v hx hv=>(hvs.2 j x v hx hv).mono (Zdq.refl _) (ZaA.nil _)⟩,ZbS,hflat,?_⟩
  intro j u hu
  rw[Addr.add_lit,Nat.add_assoc]
  exact h.fms _ _ _ (hcell j u hu)
 |_=>simp[Go.Abs.cellsAt]at hs
end
end Go.Abs
namespace Go.Abs
open Go Go.RowKit
section
variable {P:Program}{T:Tys}{N0:Nat}{W0:World}{fm:FM}{ts:List Tie}{H:Zam}{w:World}{t:TypeId}{ti:TI}
theorem Zju {agg:Bool}{cs:List AV}{vs:List Value}{y:AV} (h:Zkd agg cs=some y) (hv:VRs fm ts cs vs) (hf:∀ x∈cs,x.flat=true):
  VR fm ts y (if agg then .agg vs.toArray else vs.headD undef)∧(agg=false→∃ v,vs=[v]):=by
 unfold Zkd at h
 cases agg with
 |true=>
  simp only[if_true,oE]at h;subst h
  refine⟨?_,fun h=>by cases h⟩
  simp only[if_true]
  exact .agg cs _ (by simp[hv.1]) hf (fun i x v a b=>hv.2 i x v a (by simpa using b))
 |false=>
  simp only[Bool.false_eq_true,if_false]at h
  split at h
  ·rename_i x
   simp only[oE]at h;subst h
   have hl:=hv.1
   cases vs with
   |nil=>simp at hl
   |cons v r=>
    cases r with
    |nil=>exact⟨by simpa using hv.2 0 x v rfl rfl,fun _=>⟨v,rfl⟩⟩
    |cons=>simp at hl
  ·cases h
theorem Zkx (hT:ZaL P T) (ht:T t=some ti) (h:HR N0 W0 fm ts H w) {x y:AV}{v:Value} (hv:VR fm ts x v) (e:ZfO H.get ti x=some y):
  ∃ u,(Instr.loadAt t v).run P w=.ok u w∧VR fm ts y u:=by
 unfold ZfO at e
 cases hc:cellsAt H.get ti.size x with
 |none=>rw[hc]at e;cases e
 |some cs=>
  rw[hc]at e
  simp only[Option.bind_some]at e
  obtain⟨ad,vs,rfl,hvs,ZbS,hflat,hcell⟩:=h.cellsAt hv hc
  obtain⟨hval,hone⟩:=Zju e hvs hflat
  obtain⟨i,hi,hsz,_,_⟩:=(hT.ok ht).info
  obtain⟨d,hd,hagg⟩:=hT.agg ht
  refine⟨_,?_,hval⟩
  simp only[Instr.loadAt,Instr.sureAddr,loadVar,Sem.run_bind,Sem.run_pure,Result.andThen_ok,ZkV hd,hagg]
  cases ha:ti.isAgg with
  |true=>
   simp only[if_true,Sem.run_bind,sizeOf,typeInfo,run_program,hi,Sem.run_pure,Result.andThen_ok]
   have:=run_loadCells_list (P:=P) w ad vs hcell
   rw[←hvs.1,ZbS,←hsz]at this
   rw[this]
   simp
  |false=>
   obtain⟨v,rfl⟩:=hone ha
   have:=hcell 0 v rfl
   rw[Addr.add_zero']at this
   simp[run_load,this]
theorem Zbm {i:Int}{n j:Nat} (h:ZbU i n=some j):0≤i∧i<n∧i.toNat=j:=by
 unfold ZbU at h
 split at h
 ·rename_i hh;simp only[oE]at h;exact⟨hh.1,hh.2,h⟩
 ·cases h
theorem Zjp (hT:ZaL P T) (ht:T t=some ti) {x y:AV}{v:Value} (hv:VR fm ts x v) {f:Nat} (e:Zf3 ti x f=some y):
  ∃ u,(Instr.fieldAt t v f).run P w=.ok u w∧VR fm ts y u:=by
 unfold Zf3 at e
 split at e
 ·rename_i hd
  obtain⟨fs,hu,hfl⟩:=hT.struct ht hd
  split at e
  ·rename_i off sz hf
   obtain⟨sz,agg⟩:=sz
   obtain⟨fd,hfd,hoff,hpos,⟨inf,hinf,hsz⟩,_⟩:=Zl6 _ _ hfl f off sz agg hf
   have hfd':fs[f]?=some fd:=by simpa using hfd
   have hnz:inf.size≠0:=by omega
   have run:∀ a:Addr,(Instr.fieldAt t (.pointer (some a)) f).run P w=.ok (.pointer (some (a.add off))) w:=by
    intro a
    simp[Instr.fieldAt,run_underlying hu,hfd',Instr.sureAddr,fieldPlace,hoff,sizeOf,typeInfo,hinf,hnz]
   cases hv with
   |ptr l k o c h=>
    simp only[oE]at e;subst e
    exact⟨_,run _,by rw[Addr.add_lit];exact .ptr l k _ c h⟩
   |eptrGone l k esz i o g a h=>
    simp only[oE]at e;subst e
    exact⟨_,run _,.eptrGone l k esz i _ g _ h⟩
   |eptrOld l k esz i o g a m' c h hlt=>
    simp only[oE]at e;subst e
    exact⟨_,run _,.eptrOld l k esz i _ g _ m' c h hlt⟩
   |eptr l k esz i o g c cap h=>
    simp only[oE]at e;subst e
    exact⟨_,run _,by rw[Addr.add_lit,Nat.add_assoc];exact .eptr l k esz i _ g c cap h⟩
   |rptr es i o cb off' esz u h1 h2 h3 h4=>
    simp only[oE]at e;subst e
    exact⟨_,run _,by rw[Addr.add_lit,Nat.add_assoc,Nat.add_assoc];exact .rptr es i _ cb off' esz u h1 h2 h3 h4⟩
   |_=>simp at e
  ·cases e
 ·cases e
theorem VRs.cut {cs:List AV}{vs:List Value} (h:VRs fm ts cs vs) (o n:Nat):VRs fm ts ((cs.drop o).take n) ((vs.drop o).take n):=by
 refine⟨by simp[h.1],?_⟩
 intro i x v hx hv
 rw[List.getElem?_take]at hx hv
 split at hx
 ·rw[if_pos (by assumption)]at hv
  rw[List.getElem?_drop]at hx hv
  exact h.2 _ x v hx hv
 ·cases hx
theorem VR.aggs {cs:List AV}{v:Value} (h:VR fm ts (.agg cs) v):∃ vs:Array Value,v=.agg vs∧VRs fm ts cs vs.toList∧∀ x∈cs,x.flat=true:=by
 cases h with
 |agg cs vs h1 h2 h3=>exact⟨vs,rfl,⟨by simpa using h1,fun i x v a b=>h3 i x v a (by simpa using b)⟩,h2⟩
theorem ZlI {P:Program}{t:TypeId}{d:TypeDesc}{inf:TypeInfo}{w:World}{cs:Array Value}{o s:Nat} (hu:P.underlying t=some d) (hi:P.info? t=some inf) (hs:inf.size=s) (hle:o+s≤cs.size) (h1:ZbW d=false→s=1):
  (part t cs o).run P w=.ok (if ZbW d then .agg ((cs.toList.drop o).take s).toArray else (((cs.toList.drop o).take s).headD undef)) w:=by
 simp only[part,Sem.run_bind,ZkV hu,Result.andThen_ok]
 cases ha:ZbW d with
 |true=>
  have e:(cs.toList.drop o).take s=(cs.toList.drop o).take (o+s - o):=by congr 1;omega
  simp only[if_true,Sem.run_bind,sizeOf,typeInfo,run_program,hi,Sem.run_pure,Result.andThen_ok,hs]
  congr 2
  apply Array.ext'
  simp
 |false=>
  have:=h1 ha
  subst this
  have hlt:o<cs.size:=by omega
  have:(cs.toList.drop o).take 1=[cs[o]]:=by
   apply List.ext_getElem?
   intro j
   rw[List.getElem?_take]
   cases j with
   |zero=>simp[hlt]
   |succ j=>simp
  simp[hlt,this]
theorem Zke {agg:Bool}{cs:List AV}{y:AV} (h:Zkd agg cs=some y):agg=false→cs.length=1:=by
 intro ha
 subst ha
 unfold Zkd at h
 simp only[Bool.false_eq_true,if_false]at h
 split at h
 ·rfl
 ·cases h
theorem ZoA (hT:ZaL P T) (ht:T t=some ti) {x y:AV}{v:Value} (hv:VR fm ts x v) {f:Nat} (e:Zmf ti x f=some y):
  ∃ u,(Instr.field t v f).run P w=.ok u w∧VR fm ts y u:=by
 unfold Zmf at e
 split at e
 ·rename_i hd
  obtain⟨fs,hu,hfl⟩:=hT.struct ht hd
  split at e
  ·rename_i cs
   split at e
   ·rename_i off sz agg hf
    split at e
    ·rename_i hle
     obtain⟨fd,hfd,hoff,hpos,⟨inf,hinf,hsz⟩,⟨d,hdd,hagg⟩⟩:=Zl6 _ _ hfl f off sz agg hf
     have hfd':fs[f]?=some fd:=by simpa using hfd
     obtain⟨vs,rfl,hvs,hflat⟩:=hv.aggs
     have hcut:=hvs.cut off sz
     obtain⟨hval,_⟩:=Zju e hcut (fun x hx=>hflat x (List.mem_of_mem_drop (List.mem_of_mem_take hx)))
     have ZbS:=Zke e
     have hp:=ZlI (P:=P) (w:=w) (cs:=vs) (o:=off) hdd hinf hsz (by have:=hvs.1;simp at this;omega) (by
      intro ha;rw[hagg]at ha;have:=ZbS ha;simp at this;omega)
     refine⟨_,?_,hval⟩
     simp only[Instr.field,Sem.run_bind,run_underlying hu,Result.andThen_ok,hfd',asAgg,Sem.run_pure,hoff,hp,hagg]
    ·cases e
   ·cases e
  ·cases e
 ·cases e
theorem Zjq (hT:ZaL P T) (ht:T t=some ti) {x ix y:AV}{v vi:Value} (hv:VR fm ts x v) (hi:VR fm ts ix vi) (e:Zf4 ti x ix=some y):
  ∃ u,(Instr.indexAt t v vi).run P w=.ok u w∧VR fm ts y u:=by
 unfold Zf4 at e
 split at e
 ·rename_i k i
  cases hi
  split at e
  ·rename_i el hd
   obtain⟨hu,⟨inf,hinf,hsz,_,_⟩,_⟩:=hT.slice ht hd
   have run:∀ (p:Addr) (n cp:Nat),0≤i→i<n→(Instr.indexAt t (.slice (some p) n cp) (.int k i)).run P w=.ok (.pointer (some (p.add (i.toNat*ti.el)))) w:=by
    intro p n cp h0 h1
    simp[Instr.indexAt,asIntOf,run_underlying hu,sizeOf,typeInfo,hinf,hsz,h0,h1]
   cases hv with
   |slNil e0 p cap=>
    simp only at e
    split at e
    ·simp only[mS]at e
     obtain⟨j,hj,_⟩:=e
     obtain⟨h0,h1,_⟩:=Zbm hj
     simp at h1;omega
    ·cases e
   |sl es cb off esz cap u hcap h1 h2 h3 h4=>
    simp only at e
    split at e
    ·rename_i he
     simp only[mS]at e
     obtain⟨j,hj,rfl⟩:=e
     obtain⟨h0,hlt,rfl⟩:=Zbm hj
     refine⟨_,run _ _ _ h0 hlt,?_⟩
     rw[Addr.add_lit,←he]
     exact .rptr es i.toNat 0 cb off esz u h1 h2 h3 h4
    ·cases e
   |locGone l kk esz b n g p cp h hn ha=>
    simp only at e
    split at e
    ·simp only[mS]at e
     obtain⟨j,hj,rfl⟩:=e
     obtain⟨h0,hlt,rfl⟩:=Zbm hj
     obtain⟨q,rfl⟩:=ha (by omega)
     exact⟨_,run _ _ _ h0 hlt,.eptrGone l kk esz _ 0 g _ h⟩
    ·cases e
   |locOld l kk esz b n g p cp m' c h hlt' hn ha=>
    simp only at e
    split at e
    ·simp only[mS]at e
     obtain⟨j,hj,rfl⟩:=e
     obtain⟨h0,hlt,rfl⟩:=Zbm hj
     obtain⟨q,rfl⟩:=ha (by omega)
     exact⟨_,run _ _ _ h0 hlt,.eptrOld l kk esz _ 0 g _ m' c h hlt'⟩
    ·cases e
   |locNil l kk esz a0 h=>
    simp only at e
    split at e
    ·simp only[mS]at e
     obtain⟨j,hj,rfl⟩:=e
     obtain⟨h0,hlt,rfl⟩:=Zbm hj
     simp at hlt;omega
    ·cases e
   |loc l kk esz b n g c cap cp p h hn hnc hc ha=>
    simp only at e
    split at e
    ·rename_i he
     simp only[mS]at e
     obtain⟨j,hj,rfl⟩:=e
     obtain⟨h0,hlt,rfl⟩:=Zbm hj
     have hp:=ha (.inl (by omega))
     subst hp
     refine⟨_,run _ _ _ h0 hlt,?_⟩
     rw[Addr.add_lit,←he,←Nat.add_mul]
     exact .eptr l kk esz (b+i.toNat) 0 g c cap h
    ·cases e
   |inn l kk esz o n c cp p h hn ha=>
    simp only at e
    split at e
    ·rename_i he
     simp only[mS]at e
     obtain⟨j,hj,rfl⟩:=e
     obtain⟨h0,hlt,rfl⟩:=Zbm hj
     have hp:=ha (by omega)
     subst hp
     refine⟨_,run _ _ _ h0 hlt,?_⟩
     rw[Addr.add_lit,←he]
     exact .ptr l kk _ c h
    ·cases e
   |_=>simp at e
  ·rename_i n el hd
   obtain⟨hu,⟨inf,hinf,hsz,_,_⟩,_⟩:=hT.array ht hd
   have run:∀ (p:Addr),0≤i→i<n→(Instr.indexAt t (.pointer (some p)) (.int k i)).run P w=.ok (.pointer (some (p.add (i.toNat*ti.el)))) w:=by
    intro p h0 h1
    simp[Instr.indexAt,asIntOf,run_underlying hu,sizeOf,typeInfo,hinf,hsz,h0,h1,Instr.sureAddr]
   cases hv with
   |ptr l kk o c h=>
    simp only[mS]at e
    obtain⟨j,hj,rfl⟩:=e
    obtain⟨h0,hlt,rfl⟩:=Zbm hj
    exact⟨_,run _ h0 hlt,by rw[Addr.add_lit];exact .ptr l kk _ c h⟩
   |eptrGone l kk esz b o g p h=>
    simp only[mS]at e
    obtain⟨j,hj,rfl⟩:=e
    obtain⟨h0,hlt,rfl⟩:=Zbm hj
    exact⟨_,run _ h0 hlt,.eptrGone l kk esz b _ g _ h⟩
   |eptrOld l kk esz b o g p m' c h hlt'=>
    simp only[mS]at e
    obtain⟨j,hj,rfl⟩:=e
    obtain⟨h0,hlt,rfl⟩:=Zbm hj
    exact⟨_,run _ h0 hlt,.eptrOld l kk esz b _ g _ m' c h hlt'⟩
   |eptr l kk esz b o g c cap h=>
    simp only[mS]at e
    obtain⟨j,hj,rfl⟩:=e
    obtain⟨h0,hlt,rfl⟩:=Zbm hj
    exact⟨_,run _ h0 hlt,by rw[Addr.add_lit,Nat.add_assoc];exact .eptr l kk esz b _ g c cap h⟩
   |rptr es b o cb off esz u h1 h2 h3 h4=>
    simp only[mS]at e
    obtain⟨j,hj,rfl⟩:=e
    obtain⟨h0,hlt,rfl⟩:=Zbm hj
    exact⟨_,run _ h0 hlt,by rw[Addr.add_lit,Nat.add_assoc,Nat.add_assoc];exact .rptr es b _ cb off esz u h1 h2 h3 h4⟩
   |_=>simp at e
  ·cases e
 ·cases e
end
end Go.Abs
namespace Go.Abs
open Go Go.RowKit
section
variable {P:Program}{T:Tys}{N0:Nat}{W0:World}{fm:FM}{ts:List Tie}{H:Zam}{w:World}{t:TypeId}{ti:TI}
theorem ZoB (hT:ZaL P T) (ht:T t=some ti) {x ix y:AV}{v vi:Value} (hv:VR fm ts x v) (hi:VR fm ts ix vi) (e:Zmg ti x ix=some y):
  ∃ u,(Instr.index t v vi).run P w=.ok u w∧VR fm ts y u:=by
 unfold Zmg at e
 split at e
 ·rename_i k i
  cases hi
  split at e
  ·rename_i n el hd
   obtain⟨hu,⟨inf,hinf,hsz,_,_⟩,d,hdd,hagg⟩:=hT.array ht hd
   split at e
   ·rename_i cs
    cases hj:ZbU i n with
    |none=>rw[hj]at e;cases e
    |some j=>
     rw[hj]at e
     simp only[Option.bind_some]at e
     obtain⟨h0,hlt,rfl⟩:=Zbm hj
     split at e
     ·rename_i hle
      obtain⟨vs,rfl,hvs,hflat⟩:=hv.aggs
      have hcut:=hvs.cut (i.toNat*ti.el) ti.el
      obtain⟨hval,_⟩:=Zju e hcut (fun x hx=>hflat x (List.mem_of_mem_drop (List.mem_of_mem_take hx)))
      have ZbS:=Zke e
      have hp:=ZlI (P:=P) (w:=w) (cs:=vs) (o:=i.toNat*ti.el) hdd hinf hsz (by have:=hvs.1;simp at this;omega) (by
       intro ha;rw[hagg]at ha;have:=ZbS ha;simp at this;omega)
      refine⟨_,?_,hval⟩
      simp only[Instr.index,Sem.run_bind,asIntOf,Sem.run_pure,run_underlying hu,Result.andThen_ok,h0,hlt,and_self,if_true,sizeOf,typeInfo,run_program,hinf,hsz,hp,hagg]
     ·cases e
   ·cases e
  ·rename_i hd
   have hu:=hT.str ht hd
   split at e
   ·rename_i s
    cases hv
    simp only[mS]at e
    obtain⟨j,hj,rfl⟩:=e
    obtain⟨h0,hlt,rfl⟩:=Zbm hj
    have hlt':i.toNat<s.data.size:=by have:s.size=s.data.size:=rfl;omega
    refine⟨.int .u8 (s.data[i.toNat]).toNat,?_,?_⟩
    ·have hg:s[i.toNat]?=some (s.data[i.toNat]):=by
      have hlt2:i.toNat<s.size:=hlt'
      rw[getElem?_pos s i.toNat hlt2];rfl
     simp[Instr.index,asIntOf,run_underlying hu,h0,hg]
    ·have:s.data.toList.getD i.toNat 0=s.data[i.toNat]:=by
      rw[List.getD_eq_getElem?_getD,Array.getElem?_toList,Array.getElem?_eq_getElem hlt'];rfl
     rw[this]
     exact .int _ _
   ·cases e
  ·cases e
 ·cases e
theorem Zna {n h:Nat}{o:Option AV}{vo:Option Value} (ho:∀ x,o=some x→∃ v,vo=some v∧VR fm ts x v) (hn:o=none→vo=none) (e:Zfc n o=some h):
  h≤n∧((vo=none∧h=n)∨∃ k i,vo=some (.int k i)∧0≤i∧i.toNat=h∧i≤n):=by
 unfold Zfc at e
 split at e
 ·simp only[oE]at e;subst e;exact⟨Nat.le_refl _,.inl ⟨hn rfl,rfl⟩⟩
 ·rename_i k i
  split at e
  ·rename_i hh
   simp only[oE]at e;subst e
   obtain⟨v,rfl,hv⟩:=ho _ rfl
   cases hv
   exact⟨by omega,.inr ⟨k,i,rfl,hh.1,rfl,hh.2⟩⟩
  ·cases e
 ·cases e
theorem Znb {h l:Nat}{o:Option AV}{vo:Option Value} (ho:∀ x,o=some x→∃ v,vo=some v∧VR fm ts x v) (hn:o=none→vo=none) (e:Zfd h o=some l):
  l≤h∧((vo=none∧l=0)∨∃ k i,vo=some (.int k i)∧0≤i∧i.toNat=l∧i≤h):=by
 unfold Zfd at e
 split at e
 ·simp only[oE]at e;subst e;exact⟨Nat.zero_le _,.inl ⟨hn rfl,rfl⟩⟩
 ·rename_i k i
  split at e
  ·rename_i hh
   simp only[oE]at e;subst e
   obtain⟨v,rfl,hv⟩:=ho _ rfl
   cases hv
   exact⟨by omega,.inr ⟨k,i,rfl,hh.1,rfl,hh.2⟩⟩
  ·cases e
 ·cases e
theorem ZhX {n l h:Nat}{lo hi:Option AV}{vlo vhi:Option Value} (c:Nat) (isS:Bool) (hnc:n≤c) (hl:∀ x,lo=some x→∃ v,vlo=some v∧VR fm ts x v) (hln:lo=none→vlo=none)
  (hh:∀ x,hi=some x→∃ v,vhi=some v∧VR fm ts x v) (hhn:hi=none→vhi=none) (e:Zbr n lo hi=some (l,h)):
  l≤h∧h≤n∧(Instr.sliceBounds isS n c vlo vhi none).run P w=.ok (l,h,c) w:=by
 unfold Zbr at e
 split at e
 ·rename_i h' hhi
  split at e
  ·rename_i l' hlo
   simp only[oE,Prod.mk.injEq]at e
   obtain⟨rfl,rfl⟩:=e
   obtain⟨a1,a2⟩:=Zna hh hhn hhi
   obtain⟨b1,b2⟩:=Znb hl hln hlo
   refine⟨b1,a1,?_⟩
   rcases a2 with ⟨rfl,rfl⟩|⟨k,i,rfl,h0,rfl,h1⟩
   ·rcases b2 with ⟨rfl,rfl⟩|⟨k',i',rfl,h0',rfl,h1'⟩
    ·simp[Instr.sliceBounds]
    ·simp[Instr.sliceBounds,Instr.sliceBound,asIntOf,h0',h1']
   ·have h1c:i≤c:=by omega
    rcases b2 with ⟨rfl,rfl⟩|⟨k',i',rfl,h0',rfl,h1'⟩
    ·simp[Instr.sliceBounds,Instr.sliceBound,asIntOf,h0,h1c]
    ·have h1'':i'≤i.toNat:=h1'
     have e3:((i.toNat:Nat):Int)=i:=by omega
     have h2:i'≤i:=by omega
     simp[Instr.sliceBounds,Instr.sliceBound,asIntOf,h0,h1c,h0',h2,e3]
  ·cases e
 ·cases e
theorem ZoC (hT:ZaL P T) (ht:T t=some ti) {x y:AV}{v:Value}{lo hi:Option AV}{vlo vhi:Option Value} (hv:VR fm ts x v)
  (hl:∀ x,lo=some x→∃ v,vlo=some v∧VR fm ts x v) (hln:lo=none→vlo=none) (hh:∀ x,hi=some x→∃ v,vhi=some v∧VR fm ts x v) (hhn:hi=none→vhi=none)
  (e:ZfL ti x lo hi=some y):∃ u,(Instr.sliceAt t v vlo vhi none).run P w=.ok u w∧VR fm ts y u:=by
 unfold ZfL at e
 split at e
 ·rename_i el hd
  obtain⟨hu,⟨inf,hinf,hsz,_,_⟩,_⟩:=hT.slice ht hd
  have run:∀ (p:Option Addr) (n cp l h:Nat),n≤cp→Zbr n lo hi=some (l,h)→l≤h∧h≤n∧
    (Instr.sliceAt t (.slice p n cp) vlo vhi none).run P w=.ok (.slice (if cp=l then p else p.map (·.add (l*ti.el))) (h - l) (cp - l)) w:=by
   intro p n cp l h hn hb
   obtain⟨b1,b2,b3⟩:=ZhX (P:=P) (w:=w) (fm:=fm) (ts:=ts) cp true hn hl hln hh hhn hb
   refine⟨b1,b2,?_⟩
   simp[Instr.sliceAt,run_underlying hu,Instr.slice,b3,sizeOf,typeInfo,hinf,hsz]
  split at e
  ·cases hv
   simp only[mS]at e
   obtain⟨⟨l,h⟩,hb,rfl⟩:=e
   obtain⟨b1,b2,b3⟩:=run none 0 0 l h (Nat.le_refl _) hb
   have hl0:l=0:=by omega
   have hh0:h=0:=by omega
   subst hl0 hh0
   refine⟨_,b3,?_⟩
   simp
   exact .nil
  ·rename_i esz es
   split at e
   ·rename_i he
    simp only[mS]at e
    obtain⟨⟨l,h⟩,hb,rfl⟩:=e
    cases hv with
    |slNil e0 p cap=>
     obtain⟨b1,b2,b3⟩:=run p 0 cap l h (Nat.zero_le _) hb
     refine⟨_,b3,?_⟩
     have hh0:h - l=0:=by omega
     simp only[hh0,List.take_zero,List.drop_nil]
     exact .slNil _ _ _
    |sl es cb off esz cap u hcap h1 h2 h3 h4=>
     ·obtain⟨b1,b2,b3⟩:=run (some ⟨cb,off,none⟩) es.length cap l h hcap.1 hb
      refine⟨_,b3,?_⟩
      by_cases hhl:h - l=0
      ·simp only[hhl,List.take_zero]
       exact .slNil _ _ _
      ·have hcl:¬ cap=l:=by omega
       simp only[if_neg hcl,Option.map_some,Addr.add_lit]
       have ZbS:((es.drop l).take (h - l)).length=h - l:=by simp;omega
       have ZgT:∀ (i:Nat) c,((es.drop l).take (h - l))[i]?=some c→es[l+i]?=some c:=by
        intro i c hc
        rw[List.getElem?_take]at hc
        split at hc
        ·rw[List.getElem?_drop]at hc;exact hc
        ·cases hc
       have:=VR.sl (fm:=fm) (ts:=ts) ((es.drop l).take (h - l)) cb (off+l*esz) esz (cap - l) (fun i o=>u (l+i) o) (by rw[ZbS];have:=hcap.2;omega)
        (fun c hc=>h1 c (List.mem_of_mem_drop (List.mem_of_mem_take hc)))
        (by
         intro i c o x hc ho
         have:=h2 (l+i) c o x (ZgT i c hc) ho
         rw[←this];congr 1;rw[Nat.add_mul];omega)
        (fun i c o x hc ho=>h3 (l+i) c o x (ZgT i c hc) ho)
        (fun i c o x hc ho=>h4 (l+i) c o x (ZgT i c hc) ho)
       rw[ZbS]at this
       rw[←he]
       exact this
   ·cases e
  ·rename_i lv k esz i n g
   split at e
   ·rename_i he
    simp only[mS]at e
    obtain⟨⟨l,h⟩,hb,rfl⟩:=e
    cases hv with
    |locGone _ _ _ _ _ _ p cp htb hn ha=>
     obtain⟨b1,b2,b3⟩:=run p n cp l h hn hb
     refine⟨_,b3,.locGone lv k esz _ _ g _ _ htb (by omega) ?_⟩
     intro hpos
     obtain⟨q,rfl⟩:=ha (by omega)
     split
     ·exact⟨_,rfl⟩
     ·exact⟨_,rfl⟩
    |locOld _ _ _ _ _ _ p cp m' c htb hlt hn ha=>
     obtain⟨b1,b2,b3⟩:=run p n cp l h hn hb
     refine⟨_,b3,.locOld lv k esz _ _ g _ _ m' c htb hlt (by omega) ?_⟩
     intro hpos
     obtain⟨q,rfl⟩:=ha (by omega)
     split
     ·exact⟨_,rfl⟩
     ·exact⟨_,rfl⟩
    |locNil _ _ _ a0 htb=>
     obtain⟨b1,b2,b3⟩:=run a0 0 0 l h (Nat.le_refl _) hb
     have hl0:l=0:=by omega
     have hh0:h=0:=by omega
     subst hl0 hh0
     refine⟨_,b3,?_⟩
     simp
     exact .locNil lv k esz _ htb
    |loc _ _ _ _ _ _ c cap cp p htb hn hnc hc ha=>
     obtain⟨b1,b2,b3⟩:=run (some p) n cp l h hnc hb
     by_cases hcl:cp=l
     ·rw[if_pos hcl]at b3
      refine⟨_,b3,.loc lv k esz (i+l) (h - l) g c cap (cp - l) p htb (by omega) (by omega) (by omega) ?_⟩
      intro hz
      rcases hz with hz|hz
      ·omega
      ·have hi0:i=0:=by omega
       have hl0:l=0:=by omega
       subst hi0 hl0
       exact ha (.inr rfl)
     ·simp only[if_neg hcl,Option.map_some]at b3
      have hp:=ha (.inl (by omega))
      subst hp
      refine⟨_,b3,?_⟩
      rw[Addr.add_lit,←he,←Nat.add_mul]
      exact .loc lv k esz (i+l) (h - l) g c cap (cp - l) _ htb (by omega) (by omega) (by omega) (fun _=>rfl)
   ·cases e
  ·cases e
 ·rename_i hd
  have hu:=hT.str ht hd
  split at e
  ·rename_i s
   cases hv
   simp only[mS]at e
   obtain⟨⟨l,h⟩,hb,rfl⟩:=e
   obtain⟨b1,b2,b3⟩:=ZhX (P:=P) (w:=w) (fm:=fm) (ts:=ts) s.size false (Nat.le_refl _) hl hln hh hhn hb
   refine⟨_,?_,.str _⟩
   simp[Instr.sliceAt,run_underlying hu,Instr.slice,b3]
  ·cases e
 ·rename_i n el hd
  obtain⟨hu,⟨inf,hinf,hsz,_,_⟩,_⟩:=hT.array ht hd
  split at e
  ·rename_i lv k o
   simp only[mS]at e
   obtain⟨⟨l,h⟩,hb,rfl⟩:=e
   obtain⟨b1,b2,b3⟩:=ZhX (P:=P) (w:=w) (fm:=fm) (ts:=ts) n false (Nat.le_refl _) hl hln hh hhn hb
   cases hv with
   |ptr _ _ _ c htb=>
    refine⟨.slice (some (if n=l then ⟨c,o,none⟩ else (⟨c,o,none⟩:Addr).add (l*ti.el))) (h - l) (n - l),?_,?_⟩
    ·simp[Instr.sliceAt,run_underlying hu,Instr.sureAddr,b3,sizeOf,typeInfo,hinf,hsz]
    ·refine .inn lv k ti.el _ (h - l) c (n - l) _ htb (by omega) ?_
     intro hne
     rw[if_neg (by omega),Addr.add_lit]
  ·cases e
 ·cases e
end
end Go.Abs
namespace Go.Abs
open Go Go.RowKit
section
variable {P:Program}{T:Tys}{N0:Nat}{W0:World}{fm:FM}{ts:List Tie}{H:Zam}{w:World}{t:TypeId}{ti:TI}
theorem Zj5 (op:BinOp) (x y:Operand) {a b:Value} (h:∀ xs,a≠.agg xs) (h':a≠.nilIface):(eqGuard op t x y a b).run P w=.ok () w:=by
 cases op<;>cases a<;>cases b<;>simp_all [eqGuard]
theorem Zed (x y:Int):(x==y)=decide (x=y):=by
 by_cases h:x=y<;>simp[h]
theorem Zls {op:BinOp}{k k':IntKind}{x y:Int}{z:AV} (e:Zqu op (.int k x) (.int k' y)=some z):
  ∃ r,(binOp op t (.int k x) (.int k' y)).run P w=.ok r w∧VR fm ts z r:=by
 unfold Zqu at e
 simp only at e
 cases op
 case shl=>
  simp only at e
  split at e
  ·cases e
  ·rename_i hy
   simp only[oE]at e;subst e
   exact⟨.int k (k.wrap (x*2 ^ (min y.toNat k.bits))),by simp[binOp,Op.shift,hy],.int _ _⟩
 case shr=>
  simp only at e
  split at e
  ·cases e
  ·rename_i hy
   simp only[oE]at e;subst e
   exact⟨.int k (x.fdiv (2 ^ (min y.toNat k.bits))),by simp[binOp,Op.shift,hy],.int _ _⟩
 all_goals
  simp only at e
  split at e
  case isFalse=>cases e
 all_goals
  rename_i hk
  subst hk
 case add=>simp only[oE]at e;subst e;exact⟨.int k (k.wrap (x+y)),by simp[binOp,Op.intArith],.int _ _⟩
 case sub=>simp only[oE]at e;subst e;exact⟨.int k (k.wrap (x - y)),by simp[binOp,Op.intArith],.int _ _⟩
 case mul=>simp only[oE]at e;subst e;exact⟨.int k (k.wrap (x*y)),by simp[binOp,Op.intArith],.int _ _⟩
 case quo=>
  by_cases hy:y=0
  ·rw[if_pos hy]at e;cases e
  ·rw[if_neg hy]at e
   simp only[oE]at e;subst e
   exact⟨.int k (k.wrap (x.tdiv y)),by simp[binOp,Op.intDiv,hy],.int _ _⟩
 case rem=>
  by_cases hy:y=0
  ·rw[if_pos hy]at e;cases e
  ·rw[if_neg hy]at e
   simp only[oE]at e;subst e
   exact⟨.int k (x.tmod y),by simp[binOp,Op.intDiv,hy],.int _ _⟩
 case and=>simp only[oE]at e;subst e;exact⟨.int k (Zp3 k x y),by unfold Zp3;simp only[binOp,Op.intBits];simp,.int _ _⟩
 case or=>simp only[oE]at e;subst e;exact⟨.int k (bOr k x y),by unfold bOr;simp only[binOp,Op.intBits];simp,.int _ _⟩
 case xor=>simp only[oE]at e;subst e;exact⟨.int k (Zvm k x y),by unfold Zvm;simp only[binOp,Op.intBits];simp,.int _ _⟩
 case eql=>simp only[oE]at e;subst e;exact⟨.bool (decide (x=y)),by simp[binOp,Op.intCmp,Zed],.bool _⟩
 case neq=>simp only[oE]at e;subst e;exact⟨.bool (!decide (x=y)),by simp[binOp,Op.intCmp,bne,Zed],.bool _⟩
 case lss=>simp only[oE]at e;subst e;exact⟨.bool (decide (x<y)),by simp[binOp,Op.intCmp],.bool _⟩
 case leq=>simp only[oE]at e;subst e;exact⟨.bool (decide (x≤y)),by simp[binOp,Op.intCmp],.bool _⟩
 case gtr=>simp only[oE]at e;subst e;exact⟨.bool (decide (y<x)),by simp[binOp,Op.intCmp],.bool _⟩
 case geq=>simp only[oE]at e;subst e;exact⟨.bool (decide (y≤x)),by simp[binOp,Op.intCmp],.bool _⟩
 all_goals cases e
theorem ZkT (hu:P.underlying t=some .bool) (x y:Bool):(binOp .eql t (.bool x) (.bool y)).run P w=.ok (.bool (x==y)) w:=by
 simp only[binOp]
 simp[Op.equal,Op.maxDepth,run_equalIn_bool' w 9999 t x y hu]
theorem ZkW (hu:P.underlying t=some .bool) (x y:Bool):(binOp .neq t (.bool x) (.bool y)).run P w=.ok (.bool (!(x==y))) w:=by
 simp only[binOp]
 simp[Op.equal,Op.maxDepth,run_equalIn_bool' w 9999 t x y hu]
theorem Zs7 {op:BinOp}{x y z:AV}{v u:Value} (hd:∀ b,x=AV.bool b→P.underlying t=some .bool) (hv:VR fm ts x v) (hu:VR fm ts y u) (e:Zqu op x y=some z):
  ∃ r,(binOp op t v u).run P w=.ok r w∧VR fm ts z r∧(∀ xs,v≠.agg xs)∧v≠.nilIface:=by
 have e0:=e
 unfold Zqu at e
 split at e
 ·cases hv;cases hu
  obtain⟨r,h1,h2⟩:=Zls (P:=P) (w:=w) (t:=t) (fm:=fm) (ts:=ts) e0
  exact⟨r,h1,h2,by simp,by simp⟩
 ·rename_i x y
  cases hv;cases hu
  have hb:=hd x rfl
  cases op
  case eql=>simp only[oE]at e;subst e;exact⟨_,ZkT hb x y,.bool _,by simp,by simp⟩
  case neq=>simp only[oE]at e;subst e;exact⟨_,ZkW hb x y,.bool _,by simp,by simp⟩
  all_goals simp at e
 ·rename_i x y
  cases hv;cases hu
  cases op
  case eql=>simp only[oE]at e;subst e;exact⟨.bool (x.toList==y.toList),by simp[binOp,Op.stringOp],.bool _,by simp,by simp⟩
  case neq=>simp only[oE]at e;subst e;exact⟨.bool (!(x.toList==y.toList)),by simp[binOp,Op.stringOp],.bool _,by simp,by simp⟩
  case add=>
   simp only at e
   split at e
   ·rename_i hlt
    simp only[oE]at e;subst e
    refine⟨.string (x++y),?_,.str _,by simp,by simp⟩
    have hm:¬ (IntKind.i64.max<((x.size+y.size:Nat):Int)):=by simp[IntKind.max,IntKind.signed,IntKind.bits];omega
    simp only[binOp,Op.stringOp]
    rw[if_neg hm]
    simp
   ·cases e
  all_goals simp at e
 ·cases e
theorem VRs.append {a b:List AV}{u v:List Value} (h:VRs fm ts a u) (k:VRs fm ts b v):VRs fm ts (a++b) (u++v):=by
 refine⟨by simp[h.1,k.1],?_⟩
 intro i x y hx hy
 rw[List.getElem?_append]at hx hy
 split at hx
 ·rw[if_pos (by rw[←h.1];assumption)]at hy
  exact h.2 i x y hx hy
 ·rw[if_neg (by rw[←h.1];assumption)]at hy
  rw[←h.1]at hy
  exact k.2 _ x y hx hy
theorem Zge:∀ (n:Nat) (z x y:List AV) (r:Bool),Zav z x y=some r→∃ r1 r2,Zav (z.take n) (x.take n) (y.take n)=some r1∧Zav (z.drop n) (x.drop n) (y.drop n)=some r2∧r=(r1&&r2)
 |0,z,x,y,r,h=>⟨true,r,by simp[Zav],by simpa using h,by simp⟩
 |n+1,[],[],[],r,h=>⟨true,r,by simp[Zav],by simpa using h,by simp⟩
 |n+1,z::zs,x::xs,y::ys,r,h=>by
  simp only[Zav]at h
  split at h
  ·rename_i p q hp hq
   simp only[oE]at h;subst h
   obtain⟨r1,r2,h1,h2,rfl⟩:=Zge n zs xs ys q hq
   exact⟨p&&r1,r2,by simp[Zav,hp,h1],by simpa using h2,by rw[Bool.and_assoc]⟩
  ·cases h
 |_+1,[],_::_,_,_,h=>by simp[Zav]at h
 |_+1,[],[],_::_,_,h=>by simp[Zav]at h
 |_+1,_::_,[],_,_,h=>by simp[Zav]at h
 |_+1,_::_,_::_,[],_,h=>by simp[Zav]at h
theorem ZdE:∀ (z x y:List AV) (r:Bool),Zav z x y=some r→x.length=z.length∧y.length=z.length
 |[],[],[],_,_=>⟨rfl,rfl⟩
 |z::zs,x::xs,y::ys,r,h=>by
  simp only[Zav]at h
  split at h
  ·rename_i p q hp hq
   have:=ZdE zs xs ys q hq
   simp[this.1,this.2]
  ·cases h
 |[],_::_,_,_,h=>by simp[Zav]at h
 |[],[],_::_,_,h=>by simp[Zav]at h
 |_::_,[],_,_,h=>by simp[Zav]at h
 |_::_,_::_,[],_,h=>by simp[Zav]at h
theorem Zhv:∀ (z z' x y:List AV) (r:Bool),ZdJ z z'=true→Zav z' x y=some r→Zav z x y=some r
 |[],[],x,y,r,_,h=>h
 |[],_::_,_,_,_,k,_=>by simp[ZdJ]at k
 |_::_,[],_,_,_,k,_=>by simp[ZdJ]at k
 |z::zs,z'::zs',x,y,r,k,h=>by
  cases x with
  |nil=>cases y<;>simp[Zav]at h
  |cons x xs=>
   cases y with
   |nil=>simp[Zav]at h
   |cons y ys=>
    simp only[Zav]at h ⊢
    split at h
    ·rename_i p q hp hq
     simp only[ZdJ,Bool.and_eq_true]at k
     have ih:=Zhv zs zs' xs ys q k.2 hq
     have h1:ZcH z x y=some p:=by
      have k1:=k.1
      unfold Zm5 at k1
      split at k1
      ·cases x<;>cases y<;>first|(simp[ZcH]at hp;done)|simpa [ZcH] using hp
      ·cases x<;>cases y<;>first|(simp[ZcH]at hp;done)|simpa [ZcH] using hp
      ·cases x<;>cases y<;>first|(simp[ZcH]at hp;done)|simpa [ZcH] using hp
      ·cases k1
     rw[h1,ih]
     exact h
    ·cases h
def asV (agg:Bool) (vs:List Value):Value:=if agg then .agg vs.toArray else vs.headD undef
theorem Zk4 {P:Program}{f:Nat}:∀ (l:List Field) (acc zs:List AV),Zfr P (ZgJ P f) acc l=some zs→acc <+: zs
 |[],acc,zs,h=>by simp only[Zfr,oE]at h;subst h;exact List.prefix_refl _
 |x::l,acc,zs,h=>by
  simp only[Zfr]at h
  split at h
  ·split at h
   ·exact(List.prefix_append _ _).trans (Zk4 l _ zs h)
   ·cases h
  ·cases h
theorem ZhJ {P:Program}{w:World}{t:TypeId}{dsc:TypeDesc}{inf:TypeInfo}{vs:List Value}{o n:Nat} (hu:P.underlying t=some dsc) (hi:P.info? t=some inf) (hs:inf.size=n) (hle:o+n≤vs.length) (h1:ZbW dsc=false→n=1):
  (part t vs.toArray o).run P w=.ok (asV (ZbW dsc) ((vs.drop o).take n)) w:=by
 have:=ZlI (P:=P) (w:=w) (cs:=vs.toArray) (o:=o) hu hi hs (by simpa using hle) h1
 simpa [asV] using this
theorem Zmw {P:Program}{w:World}:∀ (f:Nat) (t:TypeId) (zs:List AV),ZgJ P f t=some zs→∃ dsc,P.underlying t=some dsc∧(ZbW dsc=false→zs.length=1)∧
  ∀ (d:Nat),f≤d→∀ (xs ys:List AV) (vs us:List Value) (r:Bool),VRs fm ts xs vs→VRs fm ts ys us→Zav zs xs ys=some r→
   (Op.equalIn d t (asV (ZbW dsc) vs) (asV (ZbW dsc) us)).run P w=.ok r w
 |0,t,zs,h=>by simp[ZgJ]at h
 |f+1,t,zs,h=>by
  have IH:=Zmw (P:=P) (w:=w) f
  unfold ZgJ at h
  have leaf:∀ (dsc:TypeDesc) (z:AV),P.underlying t=some dsc→ZbW dsc=false→zs=[z]→
    (∀ d x y v u r,VR fm ts x v→VR fm ts y u→ZcH z x y=some r→(Op.equalIn (d+1) t v u).run P w=.ok r w)→∃ dsc,P.underlying t=some dsc∧(ZbW dsc=false→zs.length=1)∧
  ∀ (d:Nat),f+1≤d→∀ (xs ys:List AV) (vs us:List Value) (r:Bool),VRs fm ts xs vs→VRs fm ts ys us→Zav zs xs ys=some r→
   (Op.equalIn d t (asV (ZbW dsc) vs) (asV (ZbW dsc) us)).run P w=.ok r w:=by
   intro dsc z hu ha hz hrun
   refine⟨dsc,hu,fun _=>by rw[hz];rfl,?_⟩
   intro d hd xs ys vs us r hv hu' he
   obtain⟨d,rfl⟩:∃ k,d=k+1:=⟨d - 1,by omega⟩
   have hl:=ZdE _ _ _ _ he
   subst hz
   cases xs with
   |nil=>simp at hl
   |cons x xs=>
    cases xs with
    |cons _ _=>simp at hl
    |nil=>
     cases ys with
     |nil=>simp at hl
     |cons y ys=>
      cases ys with
      |cons _ _=>simp at hl
      |nil=>
       simp only[Zav]at he
       split at he
       ·rename_i p q hp hq
        have hq:true=q:=by simpa [Zav] using hq
        subst hq
        simp only[Bool.and_true,oE]at he;subst he
        have h1:=hv.1
        have h2:=hu'.1
        cases vs with
        |nil=>simp at h1
        |cons v vs=>
         cases us with
         |nil=>simp at h2
         |cons u us=>
          rw[ha]
          exact hrun d x y v u p (hv.2 0 x v rfl rfl) (hu'.2 0 y u rfl rfl) hp
       ·cases he
  split at h
  ·rename_i k hu
   simp only[oE]at h
   refine leaf _ _ hu rfl h.symm ?_
   intro d x y v u r hv hv' e
   unfold ZcH at e
   split at e
   ·cases hv;cases hv'
    split at e
    ·rename_i hk;subst hk
     simp only[oE]at e;subst e
     rw[run_equalIn_int w d t _ _ _ _ hu,Zed]
    ·cases e
   ·rename_i heq;cases heq
   ·rename_i heq;cases heq
   ·cases e
  ·rename_i hu
   simp only[oE]at h
   refine leaf _ _ hu rfl h.symm ?_
   intro d x y v u r hv hv' e
   unfold ZcH at e
   split at e
   ·rename_i heq;cases heq
   ·cases hv;cases hv'
    simp only[oE]at e;subst e
    exact run_equalIn_bool' w d t _ _ hu
   ·rename_i heq;cases heq
   ·cases e
  ·rename_i hu
   simp only[oE]at h
   refine leaf _ _ hu rfl h.symm ?_
   intro d x y v u r hv hv' e
   unfold ZcH at e
   split at e
   ·rename_i heq;cases heq
   ·rename_i heq;cases heq
   ·cases hv;cases hv'
    simp only[oE]at e;subst e
    exact run_equalIn_string w d t _ _ hu
   ·cases e
  ·rename_i fs hu
   split at h
   ·rename_i hst
    refine⟨_,hu,fun h=>by simp[ZbW]at h,?_⟩
    intro d hd xs ys vs us r hv hv' he
    obtain⟨d,rfl⟩:∃ k,d=k+1:=⟨d - 1,by omega⟩
    have hfo:P.fieldsOf t=fs:=by simp[Program.fieldsOf,hu]
    simp only[asV,ZbW,if_true]
    rw[run_equalIn_struct w d t _ _ (by rw[hfo];exact hu) hst,hfo]
    have loop:∀ (l:List Field) (acc zs:List AV),Zfr P (ZgJ P f) acc l=some zs→∀ r,Zav (zs.drop acc.length) (xs.drop acc.length) (ys.drop acc.length)=some r→xs.length=zs.length→ys.length=zs.length→
      (Op.eqFields d vs.toArray us.toArray l).run P w=.ok r w:=by
     intro l
     induction l with
     |nil=>
      intro acc zs hg r he hl1 hl2
      simp only[Zfr,oE]at hg;subst hg
      simp only[List.drop_length]at he
      have e1:xs.drop acc.length=[]:=by simp[hl1]
      have e2:ys.drop acc.length=[]:=by simp[hl2]
      rw[e1,e2]at he
      simp only[Zav,oE]at he;subst he
      simp[Op.eqFields]
     |cons x l ihl=>
      intro acc zs hg r he hl1 hl2
      simp only[Zfr]at hg
      split at hg
      ·rename_i zl hzl
       split at hg
       ·rename_i hc
        obtain⟨hnm,hoff,hinf,hcell⟩:=hc
        obtain⟨inf,hinf⟩:=Option.isSome_iff_exists.1 hinf
        have hsz:inf.size=zl.length:=by rw[←hcell];simp[Program.cellsOf,hinf]
        obtain⟨dsc,hux,hone,hIH⟩:=IH x.type zl hzl
        obtain⟨rest,hrest⟩:=Zk4 l _ zs hg
        have hzd:zs.drop acc.length=zl++rest:=by rw[←hrest,List.append_assoc];simp
        have ZbS:zs.length=acc.length+zl.length+rest.length:=by rw[←hrest];simp;omega
        obtain⟨r1,r2,h1,h2,rfl⟩:=Zge zl.length _ _ _ _ he
        rw[hzd,List.take_left]at h1
        simp only[List.drop_drop]at h2
        have hp1:=ZhJ (w:=w) (vs:=vs) (o:=acc.length) hux hinf hsz (by rw[←hv.1];omega) hone
        have hp2:=ZhJ (w:=w) (vs:=us) (o:=acc.length) hux hinf hsz (by rw[←hv'.1];omega) hone
        have hq:=hIH d (by omega) _ _ _ _ r1 (hv.cut acc.length zl.length) (hv'.cut acc.length zl.length) h1
        have hn:=ihl (acc++zl) zs hg r2 (by simpa using h2) hl1 hl2
        simp only[Op.eqFields,if_pos hnm,Sem.run_bind,hoff,hp1,hp2,hq,Result.andThen_ok]
        cases r1 with
        |true=>simpa using hn
        |false=>simp
       ·cases hg
      ·cases hg
    exact loop fs.toList [] zs h r (by simpa using he) (ZdE _ _ _ _ he).1 (ZdE _ _ _ _ he).2
   ·cases h
  ·rename_i n e hu
   split at h
   ·rename_i zl hzl
    split at h
    ·rename_i hc
     obtain⟨hinf,hcell⟩:=hc
     obtain⟨inf,hinf⟩:=Option.isSome_iff_exists.1 hinf
     have hsz:inf.size=zl.length:=by rw[←hcell];simp[Program.cellsOf,hinf]
     simp only[oE]at h;subst h
     obtain⟨dsc,hux,hone,hIH⟩:=IH e zl hzl
     refine⟨_,hu,fun h=>by simp[ZbW]at h,?_⟩
     intro d hd xs ys vs us r hv hv' he
     obtain⟨d,rfl⟩:∃ k,d=k+1:=⟨d - 1,by omega⟩
     simp only[asV,ZbW,if_true]
     rw[run_equalIn_array w d _ _ hu hinf,hcell]
     have hl:=ZdE _ _ _ _ he
     have hfl:∀ m,(List.replicate m zl).flatten.length=m*zl.length:=by intro m;simp
     have hdrop:∀ m k,k≤m→(List.replicate m zl).flatten.drop (k*zl.length)=(List.replicate (m - k) zl).flatten:=by
      intro m k hk
      have:List.replicate m zl=List.replicate k zl++List.replicate (m - k) zl:=by rw[List.replicate_append_replicate];congr 1;omega
      rw[this,List.flatten_append,List.drop_left' (hfl k)]
     have loop:∀ (m k:Nat),k+m=n→∀ r,Zav ((List.replicate n zl).flatten.drop (k*zl.length)) (xs.drop (k*zl.length)) (ys.drop (k*zl.length))=some r→
       (Op.eqItems d e zl.length vs.toArray us.toArray (List.range' k m)).run P w=.ok r w:=by
      intro m
      induction m with
      |zero=>
       intro k hk r he
       have:k=n:=by omega
       subst this
       have e1:xs.drop (k*zl.length)=[]:=by rw[List.drop_eq_nil_iff,hl.1,hfl];omega
       have e2:ys.drop (k*zl.length)=[]:=by rw[List.drop_eq_nil_iff,hl.2,hfl];omega
       rw[hdrop k k (by omega),e1,e2]at he
       simp only[Nat.sub_self,List.replicate_zero,List.flatten_nil,Zav,oE]at he;subst he
       simp[Op.eqItems]
      |succ m ihm=>
       intro k hk r he
       obtain⟨r1,r2,h1,h2,rfl⟩:=Zge zl.length _ _ _ _ he
       have hz1:((List.replicate n zl).flatten.drop (k*zl.length)).take zl.length=zl:=by
        rw[hdrop n k (by omega),show n - k=(n - k - 1)+1 from by omega,List.replicate_succ,List.flatten_cons,List.take_left]
       rw[hz1]at h1
       simp only[List.drop_drop]at h2
       have hkk:k*zl.length+zl.length=(k+1)*zl.length:=by rw[Nat.add_mul];omega
       rw[hkk]at h2
       have hbound:k*zl.length+zl.length≤n*zl.length:=by rw[hkk];exact Nat.mul_le_mul_right _ (by omega)
       have hp1:=ZhJ (w:=w) (vs:=vs) (o:=k*zl.length) hux hinf hsz (by rw[←hv.1,hl.1,hfl];exact hbound) hone
       have hp2:=ZhJ (w:=w) (vs:=us) (o:=k*zl.length) hux hinf hsz (by rw[←hv'.1,hl.2,hfl];exact hbound) hone
       have hq:=hIH d (by omega) _ _ _ _ r1 (hv.cut _ zl.length) (hv'.cut _ zl.length) h1
       have hn:=ihm (k+1) (by omega) r2 h2
       simp only[List.range'_succ,Op.eqItems,Sem.run_bind,hp1,hp2,hq,Result.andThen_ok]
       cases r1 with
       |true=>simpa using hn
       |false=>simp
     rw[List.range_eq_range']
     exact loop n 0 (by omega) r (by simpa using he)
    ·cases h
   ·cases h
  ·cases h
end
end Go.Abs
namespace Go.Abs
open Go Go.RowKit
section
variable {P:Program}{T:Tys}{N0:Nat}{W0:World}{fm:FM}{ts:List Tie}{H:Zam}{w:World}{t:TypeId}{ti:TI}
theorem Zqw (hT:ZaL P T) (ht:T t=some ti) {op:BinOp}{x y z:AV}{v u:Value}{ox oy:Operand} (hv:VR fm ts x v) (hu:VR fm ts y u) (e:Zqv ti op x y=some z):
  ∃ r,(do eqGuard op t ox oy v u;binOp op t v u:Sem Value).run P w=.ok r w∧VR fm ts z r:=by
 have plain:∀ (hd:∀ b,x=AV.bool b→P.underlying t=some .bool) (e:Zqu op x y=some z),∃ r,(do eqGuard op t ox oy v u;binOp op t v u:Sem Value).run P w=.ok r w∧VR fm ts z r:=by
  intro hd e
  obtain⟨r,h1,h2,h3,h4⟩:=Zs7 (P:=P) (w:=w) hd hv hu e
  refine⟨r,?_,h2⟩
  have:=Zj5 (P:=P) (w:=w) (t:=t) op ox oy (a:=v) (b:=u) h3 h4
  simp[this,h1]
 unfold Zqv at e
 split at e
 ·rename_i xs ys
  split at e
  ·rename_i hp
   obtain⟨vs,rfl,hvs,hf⟩:=hv.aggs
   obtain⟨us,rfl,hus,hf'⟩:=hu.aggs
   obtain⟨hg,l,hl,hk⟩:=(hT.ok ht).pl hp.1
   obtain⟨dsc,hdu,hone,hrun⟩:=Zmw (P:=P) (w:=w) (fm:=fm) (ts:=ts) 20 t l hl
   have hagg:∀ r,Zav ti.zero xs ys=some r→(Op.equalIn 10000 t (.agg vs) (.agg us)).run P w=.ok r w:=by
    intro r he
    have h2:=Zhv l ti.zero xs ys r hk he
    have:=hrun 10000 (by decide) xs ys vs.toList us.toList r hvs hus h2
    cases ha:ZbW dsc with
    |true=>rw[ha]at this;simpa [asV] using this
    |false=>
     obtain⟨d',hd',ha'⟩:=hT.agg ht
     rw[hdu]at hd';obtain rfl:=oi hd'
     rw[ha,hp.2]at ha';cases ha'
   have hgd:=run_eqGuard_agg (P:=P) w op t ox oy vs us hg
   cases op
   case eql=>
    simp only[mS]at e
    obtain⟨r,hr,rfl⟩:=e
    refine⟨.bool r,?_,.bool r⟩
    simp[hgd,run_eql_struct,hagg r hr]
   case neq=>
    simp only[mS]at e
    obtain⟨r,hr,rfl⟩:=e
    refine⟨.bool !r,?_,.bool _⟩
    simp[hgd,run_neq_struct,hagg r hr]
   all_goals cases e
  ·cases e
 ·rename_i x y
  split at e
  ·rename_i hd
   exact plain (fun _ _=>hT.bool ht hd) e
  ·cases e
 ·rename_i hne1 hne2
  refine plain (fun b hb=>?_) e
  subst hb
  cases y with
  |bool c=>exact absurd rfl (hne2 b c rfl)
  |_=>simp[Zqu]at e
theorem ZhF (sz:Nat):∀ (es:List (List AV)),ZaE es sz→∀ j,es.flatten[j]?=(es[j / sz]?).bind fun c=>c[j % sz]?
 |[],_,j=>by simp
 |c::es,h,j=>by
  have hc:c.length=sz:=h c List.mem_cons_self
  have ih:=ZhF sz es (fun d hd=>h d (List.mem_cons_of_mem _ hd))
  simp only[List.flatten_cons]
  by_cases h0:sz=0
  ·subst h0
   have:c=[]:=List.eq_nil_of_length_eq_zero hc
   subst this
   have hi:=ih j
   simp only[List.nil_append,hi,Nat.div_zero,Nat.mod_zero,List.getElem?_cons_zero,Option.bind_some,List.getElem?_nil]
   cases h1:es[0]? with
   |none=>rfl
   |some d=>
    have:d.length=0:=h d (List.mem_cons_of_mem _ (List.mem_of_getElem? h1))
    have:d=[]:=List.eq_nil_of_length_eq_zero this
    subst this;simp
  ·have hp:0<sz:=Nat.pos_of_ne_zero h0
   by_cases hj:j<sz
   ·rw[List.getElem?_append_left (by omega),Nat.div_eq_of_lt hj,Nat.mod_eq_of_lt hj];simp
   ·rw[List.getElem?_append_right (by omega),hc,ih (j - sz)]
    have h1:j / sz=(j - sz) / sz+1:=by
     rw[←Nat.sub_add_cancel (Nat.le_of_not_lt hj),Nat.add_div_right _ hp];simp
    have h2:j % sz=(j - sz) % sz:=by
     rw[Nat.mod_eq_sub_mod (Nat.le_of_not_lt hj)]
    rw[h1,h2];simp
theorem ZbP (sz:Nat):∀ (es:List (List AV)),ZaE es sz→es.flatten.length=es.length*sz
 |[],_=>by simp
 |c::es,h=>by
  have hc:c.length=sz:=h c List.mem_cons_self
  have ih:=ZbP sz es (fun d hd=>h d (List.mem_cons_of_mem _ hd))
  simp only[List.flatten_cons,List.length_append,ih,hc,List.length_cons,Nat.add_mul];omega
mutual
theorem frz_none (G:Get):∀ (x y:AV),x.frz (fun _ _=>none)=some y→x.frz G=some y
 |.loc l k e i n g,y,h=>by simp[AV.frz]at h
 |.nil,y,h=>by simpa [AV.frz] using h
 |.ifc t v,y,h=>by
  simp only[AV.frz,mS]at h ⊢
  obtain⟨a,h1,h2⟩:=h
  exact⟨a,frz_none G v a h1,h2⟩
 |.agg cs,y,h=>by
  simp only[AV.frz,mS]at h ⊢
  obtain⟨a,h1,h2⟩:=h
  exact⟨a,frz_noneL G cs a h1,h2⟩
 |.tup vs,y,h=>by
  simp only[AV.frz,mS]at h ⊢
  obtain⟨a,h1,h2⟩:=h
  exact⟨a,frz_noneL G vs a h1,h2⟩
 |.bool b,y,h=>by simpa [AV.frz] using h
 |.int k n,y,h=>by simpa [AV.frz] using h
 |.str s,y,h=>by simpa [AV.frz] using h
 |.sl e es,y,h=>by simpa [AV.frz] using h
 |.pnil,y,h=>by simpa [AV.frz] using h
 |.fnil,y,h=>by simpa [AV.frz] using h
 |.inil,y,h=>by simpa [AV.frz] using h
 |.fn f a b,y,h=>by
  simp only[AV.frz]at h ⊢
  split at h
  ·rename_i x z hx hz
   obtain rfl:=oi h
   simp only[frz_noneL G a x hx,frz_noneL G b z hz]
  ·cases h
 |.inn ..,y,h=>by simp[AV.frz]at h
 |.ptr ..,y,h=>by simp[AV.frz]at h
 |.eptr ..,y,h=>by simp[AV.frz]at h
 |.rptr ..,y,h=>by simpa [AV.frz] using h
 |.dead,y,h=>by simp[AV.frz]at h
theorem frz_noneL (G:Get):∀ (l ys:List AV),AV.frzL (fun _ _=>none) l=some ys→AV.frzL G l=some ys
 |[],ys,h=>by simpa [AV.frzL] using h
 |x::l,ys,h=>by
  simp only[AV.frzL]at h
  split at h
  ·rename_i a b ha hb
   obtain rfl:=oi h
   simp only[AV.frzL,frz_none G x a ha,frz_noneL G l b hb]
  ·cases h
end
mutual
theorem frz_refs:∀ (x y:AV),x.frz (fun _ _=>none)=some y→x.refs=[]
 |.loc l k e i n g,y,h=>by simp[AV.frz]at h
 |.nil,y,h=>rfl
 |.ifc t v,y,h=>by
  simp only[AV.frz,mS]at h
  obtain⟨a,h1,h2⟩:=h
  simp only[AV.refs];exact frz_refs v a h1
 |.agg cs,y,h=>by
  simp only[AV.frz,mS]at h
  obtain⟨a,h1,h2⟩:=h
  simp only[AV.refs];exact frz_refsL cs a h1
 |.tup vs,y,h=>by
  simp only[AV.frz,mS]at h
  obtain⟨a,h1,h2⟩:=h
  simp only[AV.refs];exact frz_refsL vs a h1
 |.bool b,y,h=>rfl
 |.int k n,y,h=>rfl
 |.str s,y,h=>rfl
 |.sl e es,y,h=>rfl
 |.pnil,y,h=>rfl
 |.fnil,y,h=>rfl
 |.inil,y,h=>rfl
 |.fn f a b,y,h=>by
  simp only[AV.frz]at h
  split at h
  ·rename_i x z hx hz
   simp only[AV.refs,frz_refsL a x hx,frz_refsL b z hz,List.append_nil]
  ·cases h
 |.inn ..,y,h=>rfl
 |.ptr ..,y,h=>rfl
 |.eptr ..,y,h=>rfl
 |.rptr ..,y,h=>rfl
 |.dead,y,h=>rfl
theorem frz_refsL:∀ (l ys:List AV),AV.frzL (fun _ _=>none) l=some ys→AV.refsL l=[]
 |[],ys,h=>rfl
 |x::l,ys,h=>by
  simp only[AV.frzL]at h
  split at h
  ·rename_i a b ha hb
   simp only[AV.refsL,frz_refs x a ha,frz_refsL l b hb,List.append_nil]
  ·cases h
end
theorem Zf9 (fm:FM) (w:World):Zdx fm w (ZeY ts H [])=fm:=by
 funext b o
 unfold Zdx
 rw[if_neg]
 rintro⟨l,k,b,h,_⟩
 cases h
theorem HR.bareL (h:HR N0 W0 fm ts H w) {cs ys:List AV}{vs:List Value} (hv:VRs fm ts cs vs) (e:AV.frzL (fun _ _=>none) cs=some ys):VRs fm [] ys vs:=by
 have:=h.frzL [] hv (frz_noneL H.get cs ys e) (by rw[frz_refsL cs ys e];simp)
 rwa [Zf9]at this
theorem BR.arr_inv {N0:Nat}{g:Nat}{c:Option (Nat×Nat)}{et esz:Nat}{es:List (List AV)} (h:BR fm ts w N0 (some (.arr g c)) (.arr et esz es)):
  es.length=g∧(c=none→es=[])∧∀ b cap,c=some (b,cap)→Zp7 fm w et esz es b cap∧N0≤b:=by
 generalize htt:(some (TB.arr g c))=tt at h
 generalize hbb:Blk.arr et esz es=bb at h
 cases h with
 |box=>cases htt
 |nil et' esz'=>
  simp only[oE,TB.arr.injEq]at htt
  obtain⟨rfl,rfl⟩:=htt
  simp only[Blk.arr.injEq]at hbb
  obtain⟨rfl,rfl,rfl⟩:=hbb
  exact⟨rfl,fun _=>rfl,fun b cap h=>by cases h⟩
 |arr et' esz' es' c' cap' hN hA=>
  simp only[oE,TB.arr.injEq]at htt
  obtain⟨rfl,rfl⟩:=htt
  simp only[Blk.arr.injEq]at hbb
  obtain⟨rfl,rfl,rfl⟩:=hbb
  refine⟨rfl,⟨(by intro h;cases h),?_⟩⟩
  intro b cap h
  simp only[oE,Prod.mk.injEq]at h
  obtain⟨rfl,rfl⟩:=h
  exact⟨hA,hN⟩
theorem HR.elems (h:HR N0 W0 fm ts H w) {x:AV}{v:Value}{sz:Nat}{es:List (List AV)} (hv:VR fm ts x v) (e:ZbT H.get sz x=some es):
  ∃ a cp us,v=.slice a es.length cp∧ZaE es sz∧VRs fm [] es.flatten us∧(∀ x∈es.flatten,x.flat=true)∧∀ j u,us[j]?=some u→∃ ad,a=some ad∧w.cell? (ad.add j)=some u:=by
 have fin:∀ (a:Option Addr) (cp:Nat) (u:Nat→Nat→Value),v=.slice a es.length cp→ZaE es sz→
   (∀ i c o x,es[i]?=some c→c[o]?=some x→∃ ad,a=some ad∧w.cell? (ad.add (i*sz+o))=some (u i o)∧x.flat=true∧VR fm [] x (u i o))→
   ∃ a cp us,v=.slice a es.length cp∧ZaE es sz∧VRs fm [] es.flatten us∧(∀ x∈es.flatten,x.flat=true)∧∀ j u,us[j]?=some u→∃ ad,a=some ad∧w.cell? (ad.add j)=some u:=by
  intro a cp u hv ho hc
  have ZbS:=ZbP sz es ho
  have hat:∀ j x,es.flatten[j]?=some x→∃ c,es[j / sz]?=some c∧c[j % sz]?=some x∧j / sz*sz+j % sz=j:=by
   intro j x hx
   rw[ZhF sz es ho,Option.bind_eq_some_iff]at hx
   obtain⟨c,h1,h2⟩:=hx
   exact⟨c,h1,h2,by rw[Nat.mul_comm];exact Nat.div_add_mod j sz⟩
  refine⟨a,cp,(List.range (es.length*sz)).map fun j=>u (j / sz) (j % sz),hv,ho,⟨by simp[ZbS],?_⟩,?_,?_⟩
  ·intro j x v hx hv
   have hj:j<es.length*sz:=by rw[←ZbS];exact(gS.1 hx).1
   simp only[List.getElem?_map,List.getElem?_range hj,Option.map_some,oE]at hv
   subst hv
   obtain⟨c,h1,h2,_⟩:=hat j x hx
   obtain⟨_,_,_,_,h3⟩:=hc _ _ _ _ h1 h2
   exact h3
  ·intro x hx
   obtain⟨j,hj⟩:=List.mem_iff_getElem?.1 hx
   obtain⟨c,h1,h2,_⟩:=hat j x hj
   obtain⟨_,_,_,h3,_⟩:=hc _ _ _ _ h1 h2
   exact h3
  ·intro j v hv
   have hj:j<es.length*sz:=by have:=(gS.1 hv).1;simpa using this
   simp only[List.getElem?_map,List.getElem?_range hj,Option.map_some,oE]at hv
   subst hv
   have hlt:j<es.flatten.length:=by omega
   obtain⟨c,h1,h2,h4⟩:=hat j _ (gG hlt)
   obtain⟨ad,h5,h6,_,_⟩:=hc _ _ _ _ h1 h2
   rw[h4]at h6
   exact⟨ad,h5,h6⟩
 unfold ZbT at e
 split at e
 ·obtain rfl:=oi e
  cases hv
  exact fin none 0 (fun _ _=>undef) rfl (by intro c hc;cases hc) (by intro i c o x hi;simp at hi)
 ·rename_i esz es0
  split at e
  ·rename_i he
   subst he
   obtain rfl:=oi e
   cases hv with
   |slNil _ a cap=>exact fin a cap (fun _ _=>undef) rfl (by intro c hc;cases hc) (by intro i c o x hi;simp at hi)
   |sl _ cb off _ cap u hcap h1 h2 h3 h4=>
    refine fin (some ⟨cb,off,none⟩) cap u rfl h1 ?_
    intro i c o x a b
    refine⟨_,rfl,?_,h3 i c o x a b,h4 i c o x a b⟩
    rw[Addr.add_lit]
    exact h.fms _ _ _ (h2 i c o x a b)
  ·cases e
 ·rename_i l k esz i n g
  split at e
  ·rename_i et esz' es0 hg
   split at e
   ·rename_i hh
    obtain⟨rfl,rfl,hlg,hin⟩:=hh
    obtain rfl:=oi e
    have hb:=h.blk l k _ hg
    cases hv with
    |locGone _ _ _ _ _ _ a cp ht=>rw[ht]at hb;cases hb
    |locOld _ _ _ _ _ _ a cp m' c ht hlt=>
     rw[ht]at hb
     have:=hb.arr_inv.1
     omega
    |locNil _ _ _ a0 ht=>
     rw[ht]at hb
     have:=hb.arr_inv.2.1 rfl
     subst this
     exact fin a0 0 (fun _ _=>undef) (by simp) (by intro c hc;simp at hc) (by intro i c o x hi;simp at hi)
    |loc _ _ _ _ _ _ c cap cp a ht hn hnc hc ha=>
      rw[ht]at hb
      obtain⟨hA,hN⟩:=hb.arr_inv.2.2 c cap rfl
      obtain⟨cells,c1,c2,c3,c4,c5,c6,c7⟩:=hA
      have ZgT:∀ j,((es0.drop i).take n)[j]?=if j<n then es0[i+j]? else none:=by
       intro j;rw[List.getElem?_take];split
       ·rw[List.getElem?_drop]
       ·rfl
      have hl:((es0.drop i).take n).length=n:=by simp;omega
      refine fin (some a) cp (fun j o=>(cells[(i+j)*esz'+o]?).getD default) (by rw[hl]) (fun d hd=>c5 d (List.mem_of_mem_drop (List.mem_of_mem_take hd))) ?_
      intro j cc o x hj hx
      rw[ZgT]at hj
      split at hj
      ·rename_i hjn
       have hcl:cc.length=esz':=c5 cc (List.mem_of_getElem? hj)
       have ho:o<esz':=by rw[←hcl];exact(gS.1 hx).1
       have hi:i+j<es0.length:=(gS.1 hj).1
       have hlt:(i+j)*esz'+o<cells.size:=by
        rw[c2]
        have:(i+j+1)*esz'≤cap*esz':=Nat.mul_le_mul_right _ (by omega)
        rw[Nat.add_mul,Nat.one_mul]at this;omega
       have hv:=Array.getElem?_eq_getElem hlt
       have:=c7 (i+j) cc o x _ hj hx hv
       refine⟨a,rfl,?_,?_⟩
       ·rw[ha (.inl (by omega)),Addr.add_lit]
        simp only[World.cell?,c1,hv]
        have e2:i*esz'+(j*esz'+o)=(i+j)*esz'+o:=by rw[Nat.add_mul];omega
        rw[e2,hv];simp
       ·rw[hv];exact this
      ·cases hj
   ·cases e
  ·cases e
 ·rename_i l k esz o n
  split at e
  ·rename_i cs hg
   split at e
   ·rename_i hh
    obtain⟨rfl,rfl,rfl,hle⟩:=hh
    simp only[mS]at e
    obtain⟨ys,hy,rfl⟩:=e
    have hb:=h.blk 0 k _ hg
    cases hv with
    |inn _ _ _ _ _ c cp a ht hn ha=>
     rw[ht]at hb
     cases hb with
     |box _ _ hN hB=>
      obtain⟨cells,et,c1,c2,c3⟩:=hB
      have gy:=frzL_get _ _ _ hy
      have hyl:ys.length=n:=by rw[gy.1];simp;omega
      have hVR:VRs fm ts ((cs.drop o).take n) ((List.range n).map fun j=>(cells[o+j]?).getD default):=by
       refine⟨by simp;omega,?_⟩
       intro j x v hx hv
       rw[List.getElem?_take]at hx
       split at hx
       ·rename_i hj
        rw[List.getElem?_drop]at hx
        simp only[List.getElem?_map,List.getElem?_range hj,Option.map_some,oE]at hv
        subst hv
        have hlt:o+j<cells.size:=by omega
        rw[Array.getElem?_eq_getElem hlt]
        exact(c3 (o+j) x _ hx (Array.getElem?_eq_getElem hlt)).2
       ·cases hx
      have hfin:=h.bareL hVR hy
      refine fin (some a) cp (fun i _=>(cells[o+i]?).getD default) (by simp[hyl]) (by intro d hd;obtain⟨y,_,rfl⟩:=List.mem_map.1 hd;rfl) ?_
      intro i cc o' x hi hx
      simp only[List.getElem?_map,mS]at hi
      obtain⟨y,hyi,rfl⟩:=hi
      have hin:i<n:=by rw[←hyl];exact(gS.1 hyi).1
      cases o' with
      |succ o'=>simp at hx
      |zero=>
       simp only[List.getElem?_cons_zero,oE]at hx
       subst hx
       have hlt:o+i<cells.size:=by omega
       have hv:=Array.getElem?_eq_getElem hlt
       refine⟨a,rfl,?_,?_,?_⟩
       ·rw[ha (by omega),Addr.add_lit]
        simp only[World.cell?,c1,Nat.mul_one,Nat.add_zero,hv]
        simp
       ·obtain⟨z,hz,hfz⟩:=(show ∃ z,cs[o+i]?=some z∧z.frz (fun _ _=>none)=some y from by
         have hlt2:i<((cs.drop o).take n).length:=by simp;omega
         obtain⟨y',hy',hf⟩:=gy.2 i _ (gG hlt2)
         rw[hyi]at hy';obtain rfl:=oi hy'
         refine⟨_,?_,hf⟩
         have:=gG hlt2
         rw[List.getElem?_take,if_pos hin,List.getElem?_drop]at this
         exact this)
        rw[ZhG hfz]
        exact(c3 _ _ _ hz hv).1
       ·exact hfin.2 i y _ hyi (by simp only[List.getElem?_map,List.getElem?_range hin,Option.map_some])
   ·cases e
  ·cases e
 ·cases e
end
end Go.Abs
namespace Go.Abs
open Go Go.RowKit
section
variable {P:Program}{T:Tys}{N0:Nat}{W0:World}{fm:FM}{ts:List Tie}{H:Zam}{w:World}{t:TypeId}{ti:TI}
theorem Zue {op:UnOp}{x y:AV}{v:Value} (hv:VR fm ts x v) (e:aUn op x=some y):
  ∃ u,(Op.unary op v).run P w=.ok u w∧VR fm ts y u:=by
 unfold aUn at e
 split at e
 ·cases hv
  obtain rfl:=oi e
  exact⟨_,by simp[unary_neg,Op.intArith],.int _ _⟩
 ·cases hv
  obtain rfl:=oi e
  exact⟨_,by simp[unary_not],.bool _⟩
 ·cases e
theorem ZlQ {x:AV}{v:Value}{n:Nat} (hv:VR fm ts x v) (e:ZhK x=some n):∃ a c,v=.slice a n c:=by
 unfold ZhK at e
 split at e<;>first|(obtain rfl:=oi e)|(cases e)
 ·cases hv;exact⟨_,_,rfl⟩
 ·cases hv<;>exact⟨_,_,rfl⟩
 ·cases hv<;>exact⟨_,_,rfl⟩
 ·cases hv;exact⟨_,_,rfl⟩
theorem Zs8 (hT:ZaL P T) (ht:T t=some ti) {x y:AV}{v:Value}{l:List TypeId}{ty:TypeId} (hv:VR fm ts x v) (e:Zu8 ti x=some y):
  ∃ u,(Builtin.len_ (t::l).toArray ty #[v]).run P w=.ok u w∧VR fm ts y u:=by
 unfold Zu8 at e
 split at e
 ·rename_i hd
  have hu:=hT.str ht hd
  split at e
  ·cases hv
   obtain rfl:=oi e
   exact⟨_,by simp[Builtin.len_,run_underlying hu,goInt],.int _ _⟩
  ·cases e
 ·rename_i n el hd
  obtain⟨hu,_⟩:=hT.array ht hd
  obtain rfl:=oi e
  exact⟨_,by simp[Builtin.len_,run_underlying hu,goInt],.int _ _⟩
 ·rename_i el hd
  obtain⟨hu,_⟩:=hT.slice ht hd
  simp only[mS]at e
  obtain⟨n,hn,rfl⟩:=e
  obtain⟨a,c,rfl⟩:=ZlQ hv hn
  exact⟨_,by simp[Builtin.len_,run_underlying hu,goInt],.int _ _⟩
 ·cases e
theorem ZsS (k:IntKind) (x y:Int):(if y > x then y else x)=max x y:=by
 rw[Int.max_def];split<;>split<;>omega
theorem ZsT (k:IntKind) (x y:Int):(if y<x then y else x)=min x y:=by
 rw[Int.min_def];split<;>split<;>omega
theorem Zka (mx:Bool):∀ (n:Nat) (xs:List AV) (x y:AV) (v:Value) (vs:List Value),xs.length=n→VR fm ts x v→VRs fm ts xs vs→ZdA mx (x::xs)=some y→
  ∃ u,(vs.foldlM (if mx then Builtin.max2 else Builtin.min2) v).run P w=.ok u w∧VR fm ts y u
 |0,[],x,y,v,vs,_,hv,hvs,e=>by
  have:vs=[]:=by have:=hvs.1;cases vs with|nil=>rfl|cons=>simp at this
  subst this
  cases x<;>simp[ZdA]at e
  subst e
  exact⟨v,by simp,hv⟩
 |n+1,x2::xs,x,y,v,vs,hn,hv,hvs,e=>by
  cases vs with
  |nil=>have:=hvs.1;simp at this
  |cons v2 vs=>
   have h2:VR fm ts x2 v2:=hvs.2 0 _ _ rfl rfl
   have hr:VRs fm ts xs vs:=⟨by simpa using hvs.1,fun i x v a b=>hvs.2 (i+1) x v (by simpa using a) (by simpa using b)⟩
   cases x<;>try (simp[ZdA]at e;done)
   cases x2<;>try (simp[ZdA]at e;done)
   rename_i k a k' b
   rw[ZdA]at e
   split at e
   ·rename_i hk
    subst hk
    cases hv;cases h2
    obtain⟨u,h1,h2⟩:=Zka mx n xs _ y (.int k (if mx then max a b else min a b)) vs (by simpa using hn) (.int _ _) hr e
    refine⟨u,?_,h2⟩
    cases mx with
    |true=>
     simp only[if_true]at h1 ⊢
     simp only[List.foldlM_cons,Sem.run_bind,Builtin.max2,Sem.run_pure,Result.andThen_ok,ZsS k,h1]
    |false=>
     simp only[Bool.false_eq_true,if_false]at h1 ⊢
     simp only[List.foldlM_cons,Sem.run_bind,Builtin.min2,Sem.run_pure,Result.andThen_ok,ZsT k,h1]
   ·cases e
theorem ZiP {mx:Bool}{xs:List AV}{y:AV}{vs:List Value}{l:Array TypeId}{ty:TypeId} (hv:VRs fm ts xs vs) (e:ZdA mx xs=some y):
  ∃ u,((if mx then Builtin.max_ else Builtin.min_) l ty vs.toArray).run P w=.ok u w∧VR fm ts y u:=by
 cases xs with
 |nil=>simp[ZdA]at e
 |cons x xs=>
  cases vs with
  |nil=>have:=hv.1;simp at this
  |cons v vs=>
   have h2:VR fm ts x v:=hv.2 0 _ _ rfl rfl
   have hr:VRs fm ts xs vs:=⟨by simpa using hv.1,fun i x v a b=>hv.2 (i+1) x v (by simpa using a) (by simpa using b)⟩
   obtain⟨u,h3,h4⟩:=Zka (P:=P) (w:=w) mx xs.length xs x y v vs rfl h2 hr e
   refine⟨u,?_,h4⟩
   cases mx with
   |true=>simpa [Builtin.max_] using h3
   |false=>simpa [Builtin.min_] using h3
theorem VR.parts {x:AV}{v:Value}{vc:List AV} (hv:VR fm ts x v) (e:x.cells=some vc):VRs fm ts vc v.cells.toList∧∀ y∈vc,y.flat=true:=by
 have one:∀ (x:AV) (v:Value),VR fm ts x v→x.flat=true→v.cells=#[v]→VRs fm ts [x] v.cells.toList∧∀ y∈[x],y.flat=true:=by
  intro x v h hf hc
  rw[hc]
  refine⟨⟨rfl,?_⟩,by simpa using hf⟩
  intro i y u hy hu
  cases i with
  |zero=>simp at hy hu;subst hy hu;exact h
  |succ i=>simp at hy
 cases x with
 |agg cs=>
  simp only[AV.cells,oE]at e;subst e
  obtain⟨vs,rfl,h1,h2⟩:=hv.aggs
  exact⟨h1,h2⟩
 |tup=>simp[AV.cells]at e
 |dead=>simp[AV.cells]at e
 |_=>
  simp only[AV.cells,oE]at e;subst e
  refine one _ _ hv rfl ?_
  cases hv<;>rfl
theorem Zbp {cs new:List AV}{vs nv:List Value}{o:Nat} (h:VRs fm ts cs vs) (hn:VRs fm ts new nv) (hle:o+new.length≤cs.length):
  VRs fm ts (Zap cs o new) (vs.take o++(nv++vs.drop (o+nv.length))):=by
 have hl:=h.1
 have hnl:=hn.1
 refine⟨by simp[Zap];omega,?_⟩
 intro i x v hx hv
 unfold Zap at hx
 by_cases h1:i<o
 ·rw[List.getElem?_append_left (by simp;omega),List.getElem?_take,if_pos h1]at hx hv
  exact h.2 i x v hx hv
 ·rw[List.getElem?_append_right (by simp;omega),List.length_take,Nat.min_eq_left (by omega)]at hx hv
  by_cases h2:i - o<new.length
  ·rw[List.getElem?_append_left (by omega)]at hx hv
   exact hn.2 _ x v hx hv
  ·rw[List.getElem?_append_right (by omega),List.getElem?_drop]at hx hv
   rw[hnl]at hx
   exact h.2 _ x v hx hv
theorem Zbi {cs new:List AV}{o:Nat} (h:∀ x∈cs,x.flat=true) (hn:∀ x∈new,x.flat=true):∀ x∈Zap cs o new,x.flat=true:=by
 intro x hx
 unfold Zap at hx
 simp only[List.mem_append]at hx
 rcases hx with hx|hx|hx
 ·exact h x (List.mem_of_mem_take hx)
 ·exact hn x hx
 ·exact h x (List.mem_of_mem_drop hx)
theorem ZjH {cs new:List AV}{o:Nat} (hle:o+new.length≤cs.length):(Zap cs o new).length=cs.length:=by
 simp[Zap];omega
theorem Zk3 (cells new:Array Value) (off:Nat) (hle:off+new.size≤cells.size):
  (new.zipIdx.foldl (fun cs (c,j)=>cs.setIfInBounds (off+j) c) cells).toList=cells.toList.take off++(new.toList++cells.toList.drop (off+new.toList.length)):=by
 have h:=Go.Great.foldl_set off new.toList 0 cells
 have e:new.zipIdx.foldl (fun cs (c,j)=>cs.setIfInBounds (off+j) c) cells=(new.toList.zipIdx 0).foldl (fun cs (x:Value×Nat)=>cs.setIfInBounds (off+x.2) x.1) cells:=by
  rw[←Array.foldl_toList];simp
 rw[e]
 apply List.ext_getElem?
 intro k
 rw[Array.getElem?_toList,h.2 k]
 simp only[Nat.add_zero]
 have hnl:new.toList.length=new.size:=by simp
 by_cases h1:k<off
 ·rw[if_neg (by omega),List.getElem?_append_left (by simp;omega),List.getElem?_take,if_pos h1,Array.getElem?_toList]
 ·rw[List.getElem?_append_right (by simp;omega),List.length_take,Nat.min_eq_left (by simp;omega)]
  by_cases h2:k - off<new.toList.length
  ·rw[if_pos (by omega),List.getElem?_append_left h2]
  ·rw[if_neg (by omega),List.getElem?_append_right (by omega),List.getElem?_drop,Array.getElem?_toList]
   congr 1;omega
def PRs (fm:FM) (ts:List Tie):List (Nat×AV)→List (Nat×Value)→Prop
 |[],[]=>True
 |(i,x)::l,(j,v)::m=>i=j∧VR fm ts x v∧PRs fm ts l m
 |_,_=>False
theorem Zl5 {fl place:Nat→Option (Nat×Nat)} (hp:∀ i x,fl i=some x→place i=some x):∀ (parts:List (Nat×AV)) (ps:List (Nat×Value)) (cs cs':List AV) (cells:Array Value),
  PRs fm ts parts ps→VRs fm ts cs cells.toList→(∀ x∈cs,x.flat=true)→ZdF fl cs parts=some cs'→
  ∃ r,Instr.fill place cells ps=some r∧VRs fm ts cs' r.toList∧∀ x∈cs',x.flat=true
 |[],[],cs,cs',cells,_,hv,hf,e=>by
  simp only[ZdF,oE]at e;subst e
  exact⟨cells,rfl,hv,hf⟩
 |[],_::_,_,_,_,h,_,_,_=>h.elim
 |(_,_)::_,[],_,_,_,h,_,_,_=>h.elim
 |(i,x)::l,(j,v)::m,cs,cs',cells,h,hv,hf,e=>by
  obtain⟨rfl,hx,hr⟩:=h
  simp only[ZdF]at e
  split at e
  ·cases e
  ·rename_i off size hfl
   split at e
   ·rename_i vc hvc
    split at e
    ·rename_i hle
     obtain⟨hl,hle⟩:=hle
     obtain⟨h1,h2⟩:=hx.parts hvc
     have hs:v.cells.size=size:=by have:=h1.1;simp at this;omega
     have hcl:cells.size=cs.length:=by have:=hv.1;simp at this;omega
     have ih:=Zl5 hp l m (Zap cs off vc) cs' (v.cells.zipIdx.foldl (fun cs (c,j)=>cs.setIfInBounds (off+j) c) cells) hr
      (by rw[Zk3 _ _ _ (by omega)];exact Zbp hv h1 (by omega)) (Zbi hf h2) e
     obtain⟨r,h3,h4⟩:=ih
     refine⟨r,?_,h4⟩
     simp only[Instr.fill,hp _ _ hfl]
     rw[if_neg (by simp[hs];omega)]
     exact h3
    ·cases e
   ·cases e
theorem ZiU:∀ (fs:List Field) (l:List (Nat×Nat×Bool)),flB P fs l=true→
  fs.mapM (fun f=>(P.info? f.type).map fun i=>(f.offset,i.size))=some (l.map fun x=>(x.1,x.2.1))
 |[],[],_=>rfl
 |[],_::_,h=>by simp[flB]at h
 |_::_,[],h=>by simp[flB]at h
 |f::fs,(o,s,a)::l,h=>by
  simp only[flB,Bool.and_eq_true,beq_iff_eq]at h
  obtain⟨⟨⟨⟨h1,h0⟩,h2⟩,h3⟩,h4⟩:=h
  have ih:=ZiU fs l h4
  split at h2
  ·rename_i inf hinf
   have hs:inf.size=s:=by simpa using h2
   simp[List.mapM_cons,hinf,ih,h1,hs]
  ·cases h2
theorem Zo8 (hT:ZaL P T) (ht:T t=some ti) {parts:List (Nat×AV)}{ps:Array (Nat×Value)}{y:AV} (hp:PRs fm ts parts ps.toList) (e:Zme ti parts=some y):
  ∃ u,(Instr.build t ps).run P w=.ok u w∧VR fm ts y u:=by
 obtain⟨i,hi,hsz,_,z,hz,hzv⟩:=(hT.ok ht).info
 have hzf:=(hT.ok ht).zflat
 unfold Zme at e
 split at e
 ·rename_i hd
  obtain⟨fs,hu,hfl⟩:=hT.struct ht hd
  simp only[mS]at e
  obtain⟨cs,hcs,rfl⟩:=e
  obtain⟨r,h1,h2,h3⟩:=Zl5 (place:=((ti.fl.map fun x=>(x.1,x.2.1)).toArray[·]?)) (by
   intro i x h;simpa using h) parts ps.toList _ _ _ hp (hzv fm ts) hzf hcs
  refine⟨.agg r,run_build w t ps r ?_,.agg _ _ (by simpa using h2.1) h3 (fun i x v a b=>h2.2 i x v a (by simpa using b))⟩
  simp only[Program.built,hi,hu,hz,ZiU _ _ hfl]
  exact h1
 ·rename_i n el hd
  obtain⟨hu,⟨ie,hie,hsz',_⟩,_⟩:=hT.array ht hd
  simp only[mS]at e
  obtain⟨cs,hcs,rfl⟩:=e
  obtain⟨r,h1,h2,h3⟩:=Zl5 (place:=fun i=>some (i*ie.size,ie.size)) (by
   intro i x h;rw[hsz'];exact h) parts ps.toList _ _ _ hp (hzv fm ts) hzf hcs
  refine⟨.agg r,run_build w t ps r ?_,.agg _ _ (by simpa using h2.1) h3 (fun i x v a b=>h2.2 i x v a (by simpa using b))⟩
  simp only[Program.built,hi,hu,hz,hie]
  exact h1
 ·cases e
theorem ZiR:∀ (es:List (List AV)) (l:List UInt8) (us:List Value),bytesOf es=some l→VRs fm ts es.flatten us→
  ∃ ns:List Int,us=ns.map (Value.int .u8)∧l=ns.map fun n=>UInt8.ofNat n.toNat
 |[],l,us,h,hv=>by
  simp only[bytesOf,oE]at h;subst h
  have:us=[]:=by have:=hv.1;cases us with|nil=>rfl|cons=>simp at this
  subst this
  exact⟨[],rfl,rfl⟩
 |c::es,l,us,h,hv=>by
  simp only[bytesOf]at h
  split at h
  ·rename_i b l' hb hl
   obtain rfl:=oi h
   unfold Zmi at hb
   split at hb
   ·rename_i n
    obtain rfl:=oi hb
    cases us with
    |nil=>have:=hv.1;simp at this
    |cons u us=>
     have h1:VR fm ts (.int .u8 n) u:=hv.2 0 _ _ rfl rfl
     cases h1
     obtain⟨ns,h2,h3⟩:=ZiR es l' us hl ⟨by simpa using hv.1,fun i x v a b=>hv.2 (i+1) x v (by simpa using a) (by simpa using b)⟩
     exact⟨n::ns,by simp[h2],by simp[h3]⟩
   ·cases hb
  ·cases h
theorem Zig:∀ (ns:List Int) (s:ByteArray),ns.foldl (fun r n=>r.push (UInt8.ofNat n.toNat)) s=⟨s.data++(ns.map fun n=>UInt8.ofNat n.toNat).toArray⟩
 |[],s=>by simp
 |n::ns,s=>by
  rw[List.foldl_cons,Zig ns]
  simp[ByteArray.push]
theorem Zqx (hT:ZaL P T) {src dst:TypeId}{si di:TI} (hs:T src=some si) (hd:T dst=some di) (h:HR N0 W0 fm ts H w) {x y:AV}{v:Value} (hv:VR fm ts x v) (e:Zgy T H.get si di x=some y):
  ∃ u,(convert src dst v).run P w=.ok u w∧VR fm ts y u:=by
 unfold Zgy at e
 split at e
 ·rename_i k hk
  have hu:=hT.int hd hk
  split at e
  ·rename_i k' k'' n hk'
   have hu':=hT.int hs hk'
   cases hv
   obtain rfl:=oi e
   exact⟨_,by simp[convert,run_underlying hu,run_underlying hu',Conv.intToInt],.int _ _⟩
  ·cases e
 ·rename_i hk
  have hu:=hT.str hd hk
  split at e
  ·rename_i hk'
   have hu':=hT.str hs hk'
   split at e
   ·cases hv
    obtain rfl:=oi e
    exact⟨_,by simp[convert,run_underlying hu,run_underlying hu'],.str _⟩
   ·cases e
  ·rename_i el hk'
   obtain⟨hu',hel⟩:=hT.slice hs hk'
   split at e
   ·rename_i ti hti
    split at e
    ·rename_i hb
     have hue:=hT.int hti hb
     split at e
     ·rename_i h1
      simp only[Option.bind_eq_some_iff,mS]at e
      obtain⟨es,hes,l,hl,rfl⟩:=e
      obtain⟨a,cp,us,rfl,ho,hvs,_,hcell⟩:=h.elems hv hes
      obtain⟨ns,rfl,rfl⟩:=ZiR _ _ _ hl hvs
      have ZbS:es.length=ns.length:=by
       have h1:=ZbP 1 es ho
       have h2:=hvs.1
       simp at h2 h1;omega
      have hr:∀ a cp,(∀ j u,(ns.map (Value.int .u8))[j]?=some u→∃ ad,a=some ad∧w.cell? (ad.add j)=some u)→(Conv.bytesToString (.slice a es.length cp)).run P w=.ok (.string ⟨(ns.map fun n=>UInt8.ofNat n.toNat).toArray⟩) w:=by
       intro a cp hcell
       cases a with
       |none=>
        cases ns with
        |nil=>simp[Conv.bytesToString];rfl
        |cons n ns=>obtain⟨_,h,_⟩:=hcell 0 _ rfl;cases h
       |some ad=>
        have hc:∀ j u,(ns.map (Value.int .u8))[j]?=some u→w.cell? (ad.add j)=some u:=by
         intro j u hu;obtain⟨_,h,h2⟩:=hcell j u hu;cases h;exact h2
        have:=run_loadCells_list (P:=P) w ad _ hc
        rw[run_bytesToString w ad es.length cp ns (by rw[ZbS];simpa using this),Zig]
        simp
      exact⟨_,by rw[run_convert_bytes_string w src dst el _ _ _ hu' hue hu];exact hr _ _ hcell,.str _⟩
     ·cases e
    ·cases e
   ·cases e
  ·cases e
 ·cases e
end
end Go.Abs
namespace Go.Abs
open Go Go.RowKit
theorem Zdp {ts:List Tie}:∀ {l k:Nat}{x:TB},tb ts l k=some x→Zei ts l k x=ts:=by
 induction ts with
 |nil=>intro l k x h;rfl
 |cons t ts ih=>
  intro l k x h
  cases l with
  |zero=>
   simp only[Zei,List.cons.injEq,and_true]
   funext j
   split
   ·rename_i e;subst e;exact h.symm
   ·rfl
  |succ l=>simp only[Zei];rw[ih h]
theorem ZsN {sz:Nat}{es:List (List AV)} (ho:ZaE es sz) {i o:Nat}{c:List AV}{x:AV} (h1:es[i]?=some c) (h2:c[o]?=some x):es.flatten[i*sz+o]?=some x:=by
 have hc:c.length=sz:=ho c (List.mem_of_getElem? h1)
 have hlt:o<sz:=by rw[←hc];exact(gS.1 h2).1
 have hp:0<sz:=by omega
 rw[ZhF sz es ho,Nat.mul_comm,Nat.mul_add_div hp,Nat.div_eq_of_lt hlt,Nat.mul_add_mod,Nat.mod_eq_of_lt hlt]
 simp[h1,h2]
section
variable {P:Program}{T:Tys}{N0:Nat}{W0:World}{fm:FM}{ts:List Tie}{H:Zam}{w:World}{t:TypeId}{ti:TI}
theorem Zp7.flat {et esz:Nat}{es:List (List AV)}{c cap:Nat} (h:Zp7 fm w et esz es c cap):
  ∃ cells,w.heap[c]?=some (.cells cells et (0,0))∧cells.size=cap*esz∧es.length≤cap∧cap≤maxLen∧ZaE es esz∧0<esz∧
   VRs fm [] es.flatten (cells.toList.take (es.length*esz))∧∀ x∈es.flatten,x.flat=true:=by
 obtain⟨cells,c1,c2,c3,c4,c5,c6,c7⟩:=h
 have ZbS:=ZbP esz es c5
 have hle:es.length*esz≤cells.size:=by rw[c2];exact Nat.mul_le_mul_right _ c3
 have hat:∀ (j:Nat) (x:AV),es.flatten[j]?=some x→∃ v,cells[j]?=some v∧x.flat=true∧VR fm [] x v:=by
  intro j x hx
  have hj:j<cells.size:=by have:=(gS.1 hx).1;omega
  have hx':=hx
  rw[ZhF esz es c5,Option.bind_eq_some_iff]at hx'
  obtain⟨cc,h1,h2⟩:=hx'
  have e:j / esz*esz+j % esz=j:=by rw[Nat.mul_comm];exact Nat.div_add_mod j esz
  have hv:=Array.getElem?_eq_getElem hj
  exact⟨_,hv,c7 _ cc _ x _ h1 h2 (by rw[e];exact hv)⟩
 refine⟨cells,c1,c2,c3,c4,c5,c6,⟨by simp[ZbS];omega,?_⟩,?_⟩
 ·intro j x v hx hv
  obtain⟨u,h1,_,h2⟩:=hat j x hx
  rw[List.getElem?_take]at hv
  split at hv
  ·rw[Array.getElem?_toList,h1]at hv;obtain rfl:=oi hv;exact h2
  ·cases hv
 ·intro x hx
  obtain⟨j,hj⟩:=List.mem_iff_getElem?.1 hx
  obtain⟨_,_,h1,_⟩:=hat j x hj
  exact h1
theorem Zp7.of {et esz:Nat}{es:List (List AV)}{c cap:Nat}{cells:Array Value}{us rest:List Value} (c1:w.heap[c]?=some (.cells cells et (0,0))) (c2:cells.size=cap*esz) (c3:es.length≤cap) (c4:cap≤maxLen)
  (c5:ZaE es esz) (c6:0<esz) (hv:VRs fm [] es.flatten us) (hf:∀ x∈es.flatten,x.flat=true) (hc:cells.toList=us++rest):Zp7 fm w et esz es c cap:=by
 refine⟨cells,c1,c2,c3,c4,c5,c6,?_⟩
 intro i cc o x v h1 h2 h3
 have hx:=ZsN c5 h1 h2
 refine⟨hf x (List.mem_of_getElem? hx),hv.2 _ x v hx ?_⟩
 have hlt:i*esz+o<us.length:=by rw[←hv.1];exact(gS.1 hx).1
 rw[←Array.getElem?_toList,hc,List.getElem?_append_left hlt]at h3
 exact h3
theorem Zhs {B:Nat} (w:World) (g:Nat) (cs:Array Value) (h:B≤g):Below B w (w.setRow g cs):=
 ⟨rfl,rfl,rfl,by simp,fun k hk=>setRow_other w g k cs (by omega)⟩
theorem HR.noFm (h:HR N0 W0 fm ts H w) {c:Nat} (hc:w.heap.size≤c) (o:Nat):fm c o=none:=by
 cases hf:fm c o with
 |none=>rfl
 |some v=>have:=World.block_lt_of_cell? w _ (h.fms _ _ _ hf);simp at this;omega
theorem HR.setBox (h:HR N0 W0 fm ts H w) {l k c:Nat}{cs cs':List AV}{vs':List Value} (hg:H.get l k=some (.box cs)) (ht:tb ts l k=some (.box c))
  (hv:VRs fm (ts.drop l) cs' vs') (hf:∀ x∈cs',x.flat=true):HR N0 W0 fm ts (H.put l k (some (.box cs'))) (w.setRow c vs'.toArray):=by
 have hb:=h.blk l k _ hg
 rw[ht]at hb
 cases hb with
 |box _ _ hN hB=>
  obtain⟨cells,et,c1,c2,c3⟩:=hB
  have:=h.turn (w':=w.setRow c vs'.toArray) (l:=l) (k:=k) (c:=c) (x:=.box c) (b:=.box cs') (Zam.get_lt H _ _ _ hg) rfl (fun i hi _=>setRow_other w c i _ hi) (Zhs w c _ hN) (fun o ho=>by rw[c1]at ho;cases ho;rfl) (by rw[ht];exact Zec.refl _)
   (fun l' k' b' g' t'=>by
    have:=h.inj l' k' l k b' _ c g' hg t' (by rw[ht];rfl)
    exact this) (fun o=>h.fmd l k _ c o hg (by rw[ht];rfl)) (by
    rw[Zdp ht]
    refine .box c cs' hN ⟨_,et,setRow_heap w c cells _ et _ c1,by simp[hv.1],?_⟩
    intro o x v a b
    exact⟨hf x (List.mem_of_getElem? a),hv.2 o x v a (by simpa using b)⟩)
  rwa [Zdp ht]at this
theorem HR.setArr (h:HR N0 W0 fm ts H w) {l k g c cap et esz:Nat}{es es':List (List AV)}{vs' us rest:List Value} (hg:H.get l k=some (.arr et esz es)) (ht:tb ts l k=some (.arr g (some (c,cap))))
  (hgl:es.length≤es'.length) (hcap:es'.length≤cap) (ho:ZaE es' esz) (hsz:vs'.length=cap*esz)
  (hv:VRs fm [] es'.flatten us) (hf:∀ x∈es'.flatten,x.flat=true) (hc:vs'=us++rest):
  HR N0 W0 fm (Zei ts l k (.arr es'.length (some (c,cap)))) (H.put l k (some (.arr et esz es'))) (w.setRow c vs'.toArray):=by
 have hb:=h.blk l k _ hg
 rw[ht]at hb
 obtain⟨hlg,_,hA⟩:=hb.arr_inv
 obtain⟨hA,hN⟩:=hA c cap rfl
 obtain⟨cells,c1,c2,c3,c4,c5,c6,_⟩:=hA
 refine h.turn (w':=w.setRow c vs'.toArray) (c:=c) (Zam.get_lt H _ _ _ hg) rfl (fun i hi _=>setRow_other w c i _ hi) (Zhs w c _ hN) (fun o ho=>by rw[c1]at ho;cases ho;rfl) ?_
   (fun l' k' b' g' t'=>h.inj l' k' l k b' _ c g' hg t' (by rw[ht];rfl)) (fun o=>h.fmd l k _ c o hg (by rw[ht];rfl)) ?_
 ·rw[ht]
  by_cases he:g=es'.length
  ·subst he;exact Zec.refl _
  ·exact .inr (.inr ⟨_,_,rfl,by omega⟩)
 ·exact .arr et esz es' c cap hN (.of (setRow_heap w c cells _ et _ c1) (by simpa using hsz) hcap c4 ho c6 hv hf (by simpa using hc))
theorem HR.newArr (h:HR N0 W0 fm ts H w) {l k cap et esz:Nat}{es:List (List AV)}{cells:Array Value}{us rest:List Value} (hl:l<H.length)
  (hle:Zec (tb ts l k) (some (.arr es.length (some (w.heap.size,cap))))) (c2:cells.size=cap*esz) (c3:es.length≤cap) (c4:cap≤maxLen) (c5:ZaE es esz) (c6:0<esz)
  (hv:VRs fm [] es.flatten us) (hf:∀ x∈es.flatten,x.flat=true) (hc:cells.toList=us++rest):
  HR N0 W0 fm (Zei ts l k (.arr es.length (some (w.heap.size,cap)))) (H.put l k (some (.arr et esz es))) (w.alloc (.cells cells et)):=
 h.turn (c:=w.heap.size) hl rfl (fun i _ hi=>heap_alloc_old w _ i hi) ((Below.refl N0 w).alloc h.size _) (fun o ho=>by simp at ho) hle
  (fun l' k' b' g' t'=>by have:=((h.blk l' k' b' g').lt t').1;omega) (h.noFm (Nat.le_refl _))
  (.arr et esz es w.heap.size cap h.size (.of (heap_alloc_new w _) c2 c3 c4 c5 c6 hv hf hc))
theorem ZjP:∀ (sc:List (Nat×TypeId×Nat)) (cs:List AV) (vs:List Value) (kb:Nat) (ts:List Tie) (H:Zam),HR N0 W0 fm ts H w→0<H.length→(∀ k,kb≤k→k<kb+sc.length→tb ts 0 k=none)→
  VRs fm ts cs vs→(∀ x∈cs,x.flat=true)→
  ∃ ts',HR N0 W0 fm ts' (H.puts (wake cs kb sc).2) w∧VRs fm ts' (wake cs kb sc).1 vs∧(∀ x∈(wake cs kb sc).1,x.flat=true)∧ZaA ts ts'∧
   (∀ l k,(l≠0∨k<kb∨kb+sc.length≤k)→tb ts' l k=tb ts l k)∧(∀ l k,(l≠0∨k<kb∨kb+sc.length≤k)→(H.puts (wake cs kb sc).2).get l k=H.get l k)
 |[],cs,vs,kb,ts,H,h,_,_,hv,hf=>⟨ts,h,hv,hf,ZaA.refl _,fun _ _ _=>rfl,fun _ _ _=>rfl⟩
 |(o,e,s)::r,cs,vs,kb,ts,H,h,hH,hk,hv,hf=>by
  unfold wake
  split
  ·rename_i ho
   have hk0:tb ts 0 kb=none:=hk kb (Nat.le_refl _) (by simp)
   have h1:=h.empty e s hk0 hH
   have hlt:0<ts.length:=by rw[h.len];exact hH
   have ht1:ZaA ts (Zei ts 0 kb (.arr 0 none)):=ZaA.set (by rw[hk0];trivial)
   have hv1:VRs fm (Zei ts 0 kb (.arr 0 none)) (cs.set o (.loc 0 kb s 0 0 0)) vs:=by
    refine⟨by simp[hv.1],?_⟩
    intro i x v hx hvv
    rw[List.getElem?_set]at hx
    split at hx
    ·rename_i he
     subst he
     split at hx
     ·obtain rfl:=oi hx
      have:=hv.2 o _ v ho hvv
      cases this
      exact .locNil 0 kb s _ (by rw[ZaN,if_pos ⟨rfl,rfl,hlt⟩])
     ·cases hx
    ·exact(hv.2 i x v hx hvv).mono (Zdq.refl _) ht1
   have hf1:∀ x∈cs.set o (.loc 0 kb s 0 0 0),x.flat=true:=by
    intro x hx
    rcases List.mem_or_eq_of_mem_set hx with hx|rfl
    ·exact hf x hx
    ·rfl
   obtain⟨ts',a1,a2,a3,a4,a5,a6⟩:=ZjP r _ vs (kb+1) _ _ h1 (by simpa using hH) (by
    intro k h1 h2
    rw[ZaN,if_neg (by omega)]
    exact hk k (by omega) (by simp;omega)) hv1 hf1
   refine⟨ts',a1,a2,a3,ht1.trans a4,?_,?_⟩
   ·intro l k hlk
    simp only[List.length_cons]at hlk
    rw[a5 l k (by omega),ZaN,if_neg (by simp only[List.length_cons]at *;omega)]
   ·intro l k hlk
    simp only[List.length_cons]at hlk
    simp only[Zam.puts]
    rw[a6 l k (by omega),Zam.get_put,if_neg (by omega)]
  ·obtain⟨ts',a1,a2,a3,a4,a5,a6⟩:=ZjP r cs vs kb ts H h hH (fun k h1 h2=>hk k h1 (by simp;omega)) hv hf
   refine⟨ts',a1,a2,a3,a4,?_,?_⟩
   ·intro l k hlk
    simp only[List.length_cons]at hlk
    exact a5 l k (by omega)
   ·intro l k hlk
    simp only[List.length_cons]at hlk
    exact a6 l k (by omega)
theorem ZkG (hT:ZaL P T) (ht:T t=some ti) (h:HR N0 W0 fm ts H w) (hH:0<H.length) {kb:Nat} (hk:∀ k,kb≤k→k<kb+16→tb ts 0 k=none) {cs:List AV}{v:Value}{d:De} (et:TypeId)
  (hv:VRs fm ts cs v.cells.toList) (hf:∀ x∈cs,x.flat=true) (e:ZkF kb ti cs=some d) {r:Result Next} (hr:r=.ok (.value (.pointer (some ⟨w.heap.size,0,none⟩))) (w.alloc (.cells v.cells et))):
  ZgV N0 W0 fm ts H w kb r d:=by
 unfold ZkF at e
 split at e
 ·obtain rfl:=oi e
  have hsc:=(hT.ok ht).sc
  obtain⟨ts',a1,a2,a3,a4,a5,a6⟩:=ZjP ti.sc cs _ (kb+1) ts H h hH (fun k h1 h2=>hk k (by omega) (by omega)) hv hf
  have hk':tb ts' 0 kb=none:=by rw[a5 0 kb (by omega)];exact hk kb (Nat.le_refl _) (by omega)
  have hlt:0<ts'.length:=by rw[a1.len];simpa using hH
  have hle:ZaA ts' (Zei ts' 0 kb (.box w.heap.size)):=ZaA.set (by rw[hk'];trivial)
  have h2:=a1.fresh (cells:=v.cells) (et:=et) (k:=kb) (x:=.box w.heap.size) (b:=.box (wake cs (kb+1) ti.sc).1) (by simpa using hH) hk' rfl (by
   refine .box _ _ h.size ⟨_,et,heap_alloc_new w _,by have:=a2.1;simp at this;omega,?_⟩
   intro o x u hx hu
   exact⟨a3 x (List.mem_of_getElem? hx),(a2.2 o x u hx (by simpa using hu)).mono (Zdq.refl _) hle⟩)
  refine⟨fm,_,_,_,.inl hr,?_,?_,FmUp.refl _ _,a4.trans hle,?_⟩
  ·simp only[Zam.puts_append,Zam.puts]
   exact h2
  ·exact .ptr 0 kb 0 _ (by rw[ZaN,if_pos ⟨rfl,rfl,hlt⟩])
  ·intro l k hkk htk
   rw[ZaN,if_neg (by omega),a5 l k (by omega)]
   exact htk
 ·cases e
theorem Zhq (h:HR N0 W0 fm ts H w) (hH:0<H.length) {kb:Nat} (hk:∀ k,kb≤k→k<kb+16→tb ts 0 k=none) (e s:Nat) {r:Result Next} (hr:r=.ok (.value (.slice none 0 0)) w):
  ZgV N0 W0 fm ts H w kb r ⟨.loc 0 kb s 0 0 0,[(0,kb,some (.arr e s []))]⟩:=by
 have hk0:=hk kb (Nat.le_refl _) (by omega)
 have hlt:0<ts.length:=by rw[h.len];exact hH
 refine⟨fm,_,w,_,.inl hr,h.empty e s hk0 hH,.locNil 0 kb s _ (by rw[ZaN,if_pos ⟨rfl,rfl,hlt⟩]),FmUp.refl _ _,ZaA.set (by rw[hk0];trivial),?_⟩
 intro l k hkk htk
 rw[ZaN,if_neg (by omega)]
 exact htk
theorem Zgd (h:HR N0 W0 fm ts H w) (hH:0<H.length) {kb:Nat} (hk:∀ k,kb≤k→k<kb+16→tb ts 0 k=none) (e s:Nat) {a:Option Addr}{r:Result Next} (hr:r=.ok (.value (.slice a 0 0)) w):
  ZgV N0 W0 fm ts H w kb r ⟨.loc 0 kb s 0 0 0,[(0,kb,some (.arr e s []))]⟩:=by
 have hk0:=hk kb (Nat.le_refl _) (by omega)
 have hlt:0<ts.length:=by rw[h.len];exact hH
 refine⟨fm,_,w,_,.inl hr,h.empty e s hk0 hH,.locNil 0 kb s _ (by rw[ZaN,if_pos ⟨rfl,rfl,hlt⟩]),FmUp.refl _ _,ZaA.set (by rw[hk0];trivial),?_⟩
 intro l k hkk htk
 rw[ZaN,if_neg (by omega)]
 exact htk
theorem ZiK (hT:ZaL P T) (ht:T t=some ti) (h:HR N0 W0 fm ts H w) (hH:0<H.length) {kb:Nat} (hk:∀ k,kb≤k→k<kb+16→tb ts 0 k=none) {x:AV}{v v0 v1 v2:Value}{k1 k2:IntKind}{d:De}
  (hv:VR fm ts x v) (hv1:VR fm ts (.int k1 0) v1) (hv2:VR fm ts (.int k2 0) v2) (e:Ze9 kb ti x=some d) {r:Result Next} (hr:∀ v w',(Instr.sliceAt t v0 none (some v1) (some v2)).run P w=.ok v w'→r=.ok (.value v) w') (h0:v0=v):ZgV N0 W0 fm ts H w kb r d:=by
 subst h0
 unfold Ze9 at e
 split at e
 ·rename_i el hd
  obtain⟨hun,⟨inf,hinf,hsz,_,_⟩,_⟩:=hT.slice ht hd
  cases hv1
  cases hv2
  have run:∀ (p:Option Addr) (n cp:Nat),(Instr.sliceAt t (.slice p n cp) none (some (.int k1 0)) (some (.int k2 0))).run P w=.ok (.slice p 0 0) w:=by
   intro p n cp
   simp[Instr.sliceAt,run_underlying hun,Instr.slice,Instr.sliceBounds,Instr.sliceBound,asIntOf,sizeOf,typeInfo,hinf,hsz]
  split at e
  ·cases hv
   obtain rfl:=oi e
   exact Zgd h hH hk _ _ (hr _ _ (run _ _ _))
  ·obtain rfl:=oi e
   cases hv<;>exact Zgd h hH hk _ _ (hr _ _ (run _ _ _))
  ·obtain rfl:=oi e
   cases hv<;>exact Zgd h hH hk _ _ (hr _ _ (run _ _ _))
  ·cases e
 ·cases e
theorem VRs.replicate {z:List AV}{zv:List Value} (h:VRs fm ts z zv):∀ n,VRs fm ts (List.replicate n z).flatten (List.replicate n zv).flatten
 |0=>⟨rfl,fun i x v h=>by simp at h⟩
 |n+1=>by simp only[List.replicate_succ,List.flatten_cons];exact h.append (VRs.replicate h n)
theorem Zfn (z:Array Value) (m:Nat) (hz:0<z.size):(madeCells z (m*z.size)).toList=(List.replicate m z.toList).flatten:=by
 apply List.ext_getElem?
 intro j
 have ho:∀ c∈List.replicate m z.toList,c.length=z.size:=by intro c hc;rw[List.eq_of_mem_replicate hc];simp
 have key:∀ (m j:Nat),((List.replicate m z.toList).flatten)[j]?=if j<m*z.size then z.toList[j % z.size]? else none:=by
  intro m
  induction m with
  |zero=>intro j;simp
  |succ m ih=>
   intro j
   simp only[List.replicate_succ,List.flatten_cons]
   by_cases hj:j<z.size
   ·rw[List.getElem?_append_left (by simpa using hj),Nat.mod_eq_of_lt hj,if_pos (by rw[Nat.add_mul];omega)]
   ·rw[List.getElem?_append_right (by simp;omega),ih,Array.length_toList]
    have h2:j % z.size=(j - z.size) % z.size:=by rw[Nat.mod_eq_sub_mod (Nat.le_of_not_lt hj)]
    rw[h2]
    by_cases h3:j - z.size<m*z.size
    ·rw[if_pos h3,if_pos (by rw[Nat.add_mul];omega)]
    ·rw[if_neg h3,if_neg (by rw[Nat.add_mul];omega)]
 rw[key]
 unfold madeCells
 rw[Array.toList_map,List.getElem?_map,Array.toList_range]
 by_cases hj:j<m*z.size
 ·have hm:j % z.size<z.size:=Nat.mod_lt _ hz
  rw[List.getElem?_range hj,if_pos hj,Array.getElem?_toList]
  simp[Array.getElem!_eq_getD,hm]
 ·rw[if_neg hj,List.getElem?_eq_none (by simp;omega)];rfl
theorem Zbu {z:List AV}{s:Nat} (h:z.length=s) (n:Nat):ZaE (List.replicate n z) s:=by
 intro c hc;rw[List.eq_of_mem_replicate hc];exact h
theorem Zcs {z:List AV} (h:∀ x∈z,x.flat=true) (n:Nat):∀ x∈(List.replicate n z).flatten,x.flat=true:=by
 intro x hx
 obtain⟨c,h1,h2⟩:=List.mem_flatten.1 hx
 rw[List.eq_of_mem_replicate h1]at h2
 exact h x h2
theorem Zi1 {α:Type} (z:List α) (l c:Nat) (h:l≤c):(List.replicate c z).flatten=(List.replicate l z).flatten++(List.replicate (c - l) z).flatten:=by
 rw[←List.flatten_append,List.replicate_append_replicate];congr 2;omega
theorem ZiJ (hT:ZaL P T) (ht:T t=some ti) (h:HR N0 W0 fm ts H w) (hH:0<H.length) {kb:Nat} (hk:∀ k,kb≤k→k<kb+16→tb ts 0 k=none) {x y:AV}{v u:Value}{d:De}
  (hv:VR fm ts x v) (hu:VR fm ts y u) (e:Ze8 kb ti x y=some d) {r:Result Next} (hr:∀ a w',(Instr.makeSlice t v u).run P w=.ok a w'→r=.ok (.value a) w'):ZgV N0 W0 fm ts H w kb r d:=by
 unfold Ze8 at e
 split at e
 ·rename_i el l c hd
  cases hv;cases hu
  split at e
  ·rename_i hc
   obtain⟨h0,hlc,hby,hel,hmx⟩:=hc
   obtain rfl:=oi e
   obtain⟨hun,⟨inf,hinf,hsz,hb,z,hz,hzv⟩,_⟩:=hT.slice ht hd
   have helz:=(hT.ok ht).elz
   have hzs:z.cells.size=ti.el:=by have:=(hzv fm []).1;simp at this;omega
   have hrun:=run_make (P:=P) w t el inf z hun hinf hz .i64 .i64 l c h0 hlc (by rw[hb,Int.mul_comm];omega) (by omega)
   have hk0:=hk kb (Nat.le_refl _) (by omega)
   have hlt:0<ts.length:=by rw[h.len];exact hH
   rw[hsz]at hrun
   have hmade:=Zfn z.cells c.toNat (by omega)
   rw[hzs]at hmade
   have hn:=h.newArr (l:=0) (k:=kb) (cap:=c.toNat) (et:=el) (esz:=ti.el) (es:=List.replicate l.toNat ti.elz) (cells:=madeCells z.cells (c.toNat*ti.el)) hH (by rw[hk0];trivial) (size_madeCells _ _)
    (by simp;omega) (by simp[maxLen];omega) (Zbu helz _) hel (VRs.replicate (hzv fm []) _) (Zcs (hT.ok ht).elflat _) (by rw[hmade,Zi1 _ l.toNat c.toNat (by omega)])
   simp only[List.length_replicate]at hn
   refine⟨fm,_,_,_,.inl (hr _ _ hrun),hn,?_,FmUp.refl _ _,ZaA.set (by rw[hk0];trivial),?_⟩
   ·exact .loc 0 kb ti.el 0 l.toNat l.toNat w.heap.size c.toNat c.toNat _ (by rw[ZaN,if_pos ⟨rfl,rfl,hlt⟩]) (by omega) (by omega) (by omega) (fun _=>by simp)
   ·intro l k hkk htk
    rw[ZaN,if_neg (by omega)]
    exact htk
  ·cases e
 ·cases e
end
end Go.Abs
namespace Go.Abs
open Go Go.RowKit
mutual
theorem frz_refs_arr (G:Get):∀ (x y:AV),x.frz G=some y→∀ p∈x.refs,∃ et esz es,G p.1 p.2=some (.arr et esz es)
 |.loc l k e i n g,y,h=>by
  intro p hp
  simp only[AV.refs,List.mem_singleton]at hp
  subst hp
  simp only[AV.frz]at h
  split at h
  ·rename_i et esz es hg;exact⟨et,esz,es,hg⟩
  ·cases h
 |.ifc t v,y,h=>by
  simp only[AV.frz,mS]at h
  obtain⟨a,h1,h2⟩:=h
  simp only[AV.refs];exact frz_refs_arr G v a h1
 |.agg cs,y,h=>by
  simp only[AV.frz,mS]at h
  obtain⟨a,h1,h2⟩:=h
  simp only[AV.refs];exact frzL_refs_arr G cs a h1
 |.tup vs,y,h=>by
  simp only[AV.frz,mS]at h
  obtain⟨a,h1,h2⟩:=h
  simp only[AV.refs];exact frzL_refs_arr G vs a h1
 |.nil,y,h=>by simp[AV.refs]
 |.bool b,y,h=>by simp[AV.refs]
 |.int k n,y,h=>by simp[AV.refs]
 |.str s,y,h=>by simp[AV.refs]
 |.sl e es,y,h=>by simp[AV.refs]
 |.pnil,y,h=>by simp[AV.refs]
 |.fnil,y,h=>by simp[AV.refs]
 |.inil,y,h=>by simp[AV.refs]
 |.fn f a b,y,h=>by
  simp only[AV.frz]at h
  split at h
  ·rename_i x z hx hz
   intro p hp
   simp only[AV.refs,List.mem_append]at hp
   rcases hp with hp|hp
   ·exact frzL_refs_arr G a x hx p hp
   ·exact frzL_refs_arr G b z hz p hp
  ·cases h
 |.inn ..,y,h=>by simp[AV.refs]
 |.ptr ..,y,h=>by simp[AV.refs]
 |.eptr ..,y,h=>by simp[AV.refs]
 |.rptr ..,y,h=>by simp[AV.refs]
 |.dead,y,h=>by simp[AV.refs]
theorem frzL_refs_arr (G:Get):∀ (l ys:List AV),AV.frzL G l=some ys→∀ p∈AV.refsL l,∃ et esz es,G p.1 p.2=some (.arr et esz es)
 |[],ys,h=>by simp[AV.refsL]
 |x::l,ys,h=>by
  simp only[AV.frzL]at h
  split at h
  ·rename_i a b ha hb
   intro p hp
   simp only[AV.refsL,List.mem_append]at hp
   rcases hp with hp|hp
   ·exact frz_refs_arr G x a ha p hp
   ·exact frzL_refs_arr G l b hb p hp
  ·cases h
end
theorem Zij {G:Get}{cs ys:List AV} (h:AV.frzL G cs=some ys) (hf:∀ x∈cs,x.flat=true):∀ x∈ys,x.flat=true:=by
 intro y hy
 have g:=frzL_get G _ _ h
 obtain⟨i,hi⟩:=List.mem_iff_getElem?.1 hy
 have hlt:i<cs.length:=by rw[←g.1];exact(gS.1 hi).1
 obtain⟨y',h1,h2⟩:=g.2 i _ (gG hlt)
 rw[hi]at h1;obtain rfl:=oi h1
 rw[ZhG h2]
 exact hf _ (List.getElem_mem hlt)
theorem Zrg {d:Nat}{cs ys:List AV} (h:AV.unL d cs=some ys) (hf:∀ x∈cs,x.flat=true):∀ x∈ys,x.flat=true:=by
 intro y hy
 have g:=Zfz d _ _ h
 obtain⟨i,hi⟩:=List.mem_iff_getElem?.1 hy
 have hlt:i<cs.length:=by rw[←g.1];exact(gS.1 hi).1
 obtain⟨y',h1,h2⟩:=g.2 i _ (gG hlt)
 rw[hi]at h1;obtain rfl:=oi h1
 rw[Zpz h2]
 exact hf _ (List.getElem_mem hlt)
theorem ZlW {fm:FM}{ts:List Tie}{d:Nat}{cs ys:List AV}{vs:List Value} (h:AV.unL d cs=some ys) (hv:VRs fm ts cs vs):VRs fm (ts.drop d) ys vs:=by
 have g:=Zfz d _ _ h
 refine⟨g.1.trans hv.1,?_⟩
 intro i x v hx hxv
 have hlt:i<cs.length:=by rw[←g.1];exact(gS.1 hx).1
 obtain⟨y',h1,h2⟩:=g.2 i _ (gG hlt)
 rw[hx]at h1;obtain rfl:=oi h1
 exact(hv.2 i _ v (gG hlt) hxv).un d h2
theorem VRs.mono {fm fm':FM}{ts ts':List Tie}{cs:List AV}{vs:List Value} (h:VRs fm ts cs vs) (hf:Zdq fm fm') (ht:ZaA ts ts'):VRs fm' ts' cs vs:=
 ⟨h.1,fun i x v a b=>(h.2 i x v a b).mono hf ht⟩
theorem VRs.oneCells {fm:FM}{ts:List Tie}{cs:List AV}{vs:List Value} (h:VRs fm ts cs vs) (hf:∀ x∈cs,x.flat=true):∀ v∈vs,v.oneCell'=true:=by
 intro v hv
 obtain⟨i,hi⟩:=List.mem_iff_getElem?.1 hv
 have hlt:i<cs.length:=by rw[h.1];exact(gS.1 hi).1
 exact(h.2 i _ v (gG hlt) hi).oneCell (hf _ (List.getElem_mem hlt))
theorem Zcb {sz:Nat}:∀ (es:List (List AV)) (i o:Nat) (c new:List AV),ZaE es sz→es[i]?=some c→o+new.length≤c.length→
  (es.set i (Zap c o new)).flatten=Zap es.flatten (i*sz+o) new
 |[],i,o,c,new,_,h,_=>by simp at h
 |d::es,0,o,c,new,ho,h,hle=>by
  simp only[List.getElem?_cons_zero,oE]at h;subst h
  simp only[List.set_cons_zero,List.flatten_cons,Zap,Nat.zero_mul,Nat.zero_add,List.append_assoc]
  rw[List.take_append_of_le_length (by omega),List.drop_append_of_le_length (by omega)]
 |d::es,i+1,o,c,new,ho,h,hle=>by
  have hd:d.length=sz:=ho d List.mem_cons_self
  simp only[List.getElem?_cons_succ]at h
  have ih:=Zcb es i o c new (fun x hx=>ho x (List.mem_cons_of_mem _ hx)) h hle
  simp only[List.set_cons_succ,List.flatten_cons,ih]
  simp only[Zap]
  have e1:(i+1)*sz+o=d.length+(i*sz+o):=by rw[Nat.add_mul,Nat.one_mul,hd];omega
  have e2:d.length+(i*sz+o)+new.length=d.length+(i*sz+o+new.length):=by omega
  rw[e1,List.take_length_add_append,e2,List.drop_length_add_append]
  simp
theorem ZgO {α:Type} (L us:List α) (off n:Nat) (h:off+us.length≤n) (hn:n≤L.length):
  L.take off++us++L.drop (off+us.length)=((L.take n).take off++(us++(L.take n).drop (off+us.length)))++L.drop n:=by
 have e1:(L.take n).take off=L.take off:=by rw[List.take_take,Nat.min_eq_left (by omega)]
 have e2:L.drop (off+us.length)=(L.take n).drop (off+us.length)++L.drop n:=by
  conv=>lhs;rw[←List.take_append_drop n L]
  rw[List.drop_append_of_le_length (by simp;omega)]
 rw[e1,e2]
 simp
theorem Zi6 {sz:Nat}{es:List (List AV)} (ho:ZaE es sz) (i:Nat) {c:List AV} (hc:c.length=sz):ZaE (es.set i c) sz:=by
 intro d hd
 rcases List.mem_or_eq_of_mem_set hd with h|rfl
 ·exact ho d h
 ·exact hc
section
variable {P:Program}{T:Tys}{N0:Nat}{W0:World}{fm:FM}{ts:List Tie}{H:Zam}{w:World}{t:TypeId}{ti:TI}
theorem HR.box_inv (h:HR N0 W0 fm ts H w) {l k c:Nat}{cs:List AV} (hg:H.get l k=some (.box cs)) (ht:tb ts l k=some (.box c)):
  ∃ cells et,w.heap[c]?=some (.cells cells et (0,0))∧cells.size=cs.length∧VRs fm (ts.drop l) cs cells.toList∧∀ x∈cs,x.flat=true:=by
 have hb:=h.blk l k _ hg
 rw[ht]at hb
 cases hb with
 |box _ _ hN hB=>
  obtain⟨cells,et,c1,c2,c3⟩:=hB
  refine⟨cells,et,c1,c2,⟨by simp[c2],fun i x v a b=>(c3 i x v a (by simpa using b)).2⟩,?_⟩
  intro x hx
  obtain⟨i,hi⟩:=List.mem_iff_getElem?.1 hx
  have hlt:i<cells.size:=by rw[c2];exact(gS.1 hi).1
  exact(c3 i x _ hi (Array.getElem?_eq_getElem hlt)).1
theorem Zi3 {cells:Array Value}{et:TypeId}{c o:Nat}{v:Value}{inf:TypeInfo} (hi:P.info? t=some inf) (hsz:v.cells.size=inf.size) (hc:w.heap[c]?=some (.cells cells et (0,0))) (hle:o+v.cells.size≤cells.size)
  (h1:∀ u∈v.cells.toList,u.oneCell'=true):
  (Instr.storeAt t (.pointer (some ⟨c,o,none⟩)) v).run P w=.ok () (w.setRow c (cells.toList.take o++(v.cells.toList++cells.toList.drop (o+v.cells.toList.length))).toArray):=by
 have:=run_storeCells_at P c o et v.cells.toList 0 cells w hc (by simpa using hle) h1
 simp only[Nat.add_zero]at this
 simp only[Instr.storeAt,Instr.sureAddr,storeVar,Sem.run_bind,Sem.run_pure,Result.andThen_ok,sizeOf,typeInfo,run_program,hi,hsz,ne_eq,not_true_eq_false,if_false]
 rw[this,List.append_assoc]
theorem Znj (hT:ZaL P T) (ht:T t=some ti) (h:HR N0 W0 fm ts H w) (hH:0<H.length) {kb:Nat} (hk:∀ k,kb≤k→k<kb+16→tb ts 0 k=none) {x:AV}{vc:List AV}{v u:Value}{d:De}
  (hv:VR fm ts x v) (hu:VRs fm ts vc u.cells.toList) (hf:∀ x∈vc,x.flat=true) (e:Zfi H.get kb ti x vc=some d) {r:Result Next} (hr:∀ w',(Instr.storeAt t v u).run P w=.ok () w'→r=.ok .skip w'):
  ZgV N0 W0 fm ts H w kb r d:=by
 obtain⟨inf,hinf,hsz,_,_⟩:=(hT.ok ht).info
 have hsc:=(hT.ok ht).sc
 unfold Zfi at e
 split at e
 ·rename_i hvl
  have hus:u.cells.size=inf.size:=by have:=hu.1;simp at this;omega
  have hvu:vc.length=u.cells.toList.length:=hu.1
  have undefR:∀ fm ts,VR fm ts (.tup []) undef:=fun fm ts=>.tup [] #[] rfl (fun i x v h=>by simp at h)
  split at e
  ·rename_i l k o
   split at e
   ·rename_i cs hg
    cases hv with
    |ptr _ _ _ c htk=>
     split at e
     ·rename_i hle
      obtain⟨cells,et,c1,c2,c3,c4⟩:=h.box_inv hg htk
      have hrun:=Zi3 (P:=P) (w:=w) (t:=t) (o:=o) hinf hus c1 (by rw[hus,hsz,c2];exact hle) (hu.oneCells hf)
      split at e
      ·rename_i hl
       subst hl
       obtain rfl:=oi e
       have hkk:k<kb∨kb+16≤k:=by
        by_cases hkk:k<kb∨kb+16≤k
        ·exact hkk
        ·rw[hk k (by omega) (by omega)]at htk;cases htk
       obtain⟨ts',a1,a2,a3,a4,a5,a6⟩:=ZjP ti.sc vc _ kb ts H h hH (fun k h1 h2=>hk k h1 (by omega)) hu hf
       have hg':(H.puts (wake vc kb ti.sc).2).get 0 k=some (.box cs):=by rw[a6 0 k (by omega)];exact hg
       have ht':tb ts' 0 k=some (.box c):=by rw[a5 0 k (by omega)];exact htk
       obtain⟨cells',et',c1',c2',c3',c4'⟩:=a1.box_inv hg' ht'
       rw[c1]at c1'
       obtain⟨rfl,rfl⟩:cells=cells'∧et=et':=by
        have:=oi c1'
        injection this with h1 h2
        exact⟨h1,h2⟩
       have hwl:(wake vc kb ti.sc).1.length=vc.length:=by rw[a2.1,hvu]
       have:=a1.setBox hg' ht' (cs':=Zap cs o (wake vc kb ti.sc).1) (Zbp c3' a2 (by omega)) (Zbi c4' a3)
       refine⟨fm,ts',_,undef,.inr ⟨hr _ hrun,rfl⟩,?_,undefR _ _,FmUp.refl _ _,a4,?_⟩
       ·simp only[Zam.puts_append,Zam.puts]
        exact this
       ·intro l' k' hk' htk'
        rw[a5 l' k' (by omega)];exact htk'
      ·split at e
       ·rename_i new hnew
        obtain rfl:=oi e
        have hnl:new.length=vc.length:=(Zfz _ _ _ hnew).1
        have:=h.setBox hg htk (cs':=Zap cs o new) (Zbp c3 (ZlW hnew hu) (by omega)) (Zbi c4 (Zrg hnew hf))
        exact⟨fm,ts,_,undef,.inr ⟨hr _ hrun,rfl⟩,this,undefR _ _,FmUp.refl _ _,ZaA.refl _,fun _ _ _ h=>h⟩
       ·split at e
        ·rename_i new hnew
         obtain rfl:=oi e
         have hnl:new.length=vc.length:=(frzL_get _ _ _ hnew).1
         have h1:=h.letGo (AV.refsL vc)
         have hne:(l,k)∉AV.refsL vc:=by
          intro hm
          obtain⟨et,esz,es,h2⟩:=frzL_refs_arr _ _ _ hnew _ hm
          simp only at h2
          rw[hg]at h2;cases h2
         have hg':(H.puts (Zes (AV.refsL vc))).get l k=some (.box cs):=by rw[Zer,if_neg hne];exact hg
         have ht':tb (ZeL ts (AV.refsL vc)) l k=some (.box c):=by rw[Zck,if_neg (fun hh=>hne hh.1)];exact htk
         have hnv:=(h.frzL (AV.refsL vc) hu hnew (fun _ h=>h))
         have hF:=h.fmLe (AV.refsL vc)
         have:=h1.setBox hg' ht' (cs':=Zap cs o new) (Zbp (c3.mono hF ((ZaA.gone ts _).drop l)) (hnv.mono (Zdq.refl _) (ZaA.nil _)) (by omega)) (Zbi c4 (Zij hnew hf))
         refine⟨_,_,_,undef,.inr ⟨hr _ hrun,rfl⟩,?_,undefR _ _,h.fmUp (AV.refsL vc),ZaA.gone _ (AV.refsL vc),?_⟩
         ·simp only[Zam.puts_append,Zam.puts]
          exact this
         ·intro l' k' _ htk'
          rw[Zck,htk'];simp[Zh9]
        ·cases e
     ·cases e
   ·cases e
  ·rename_i l k esz i o g
   split at e
   ·rename_i et esz' es hg
    split at e
    ·rename_i hh
     obtain⟨rfl,hlg⟩:=hh
     split at e
     ·rename_i c0 new hc0 hnew
      split at e
      ·rename_i hle
       obtain⟨hle,hall⟩:=hle
       obtain rfl:=oi e
       have hb:=h.blk l k _ hg
       cases hv with
       |eptrGone _ _ _ _ _ _ a ht'=>rw[ht']at hb;cases hb
       |eptrOld _ _ _ _ _ _ a m' c ht' hlt=>rw[ht']at hb;have:=hb.arr_inv.1;omega
       |eptr _ _ _ _ _ _ c cap ht'=>
        rw[ht']at hb
        obtain⟨hA,_⟩:=hb.arr_inv.2.2 c cap rfl
        obtain⟨cells,c1,c2,c3,c4,c5,c6,c7,c8⟩:=hA.flat
        have hnl:new.length=vc.length:=(frzL_get _ _ _ hnew).1
        have hcl:c0.length=esz':=c5 c0 (List.mem_of_getElem? hc0)
        have hi:i<es.length:=(gS.1 hc0).1
        have hfl:=ZbP esz' es c5
        have hmul:(i+1)*esz'≤es.length*esz':=Nat.mul_le_mul_right _ hi
        have hmul2:es.length*esz'≤cells.size:=by rw[c2];exact Nat.mul_le_mul_right _ c3
        rw[Nat.add_mul,Nat.one_mul]at hmul
        have hul:u.cells.toList.length=vc.length:=hvu.symm
        have hrun:=Zi3 (P:=P) (w:=w) (t:=t) (o:=i*esz'+o) hinf hus c1 (by rw[hus,hsz];omega) (hu.oneCells hf)
        have h1:=h.letGo (AV.refsL vc)
        have hne:(l,k)∉AV.refsL vc:=by
         intro hm
         have:=List.all_eq_true.1 hall _ hm
         simp at this
        have hg':(H.puts (Zes (AV.refsL vc))).get l k=some (.arr et esz' es):=by rw[Zer,if_neg hne];exact hg
        have htt:tb (ZeL ts (AV.refsL vc)) l k=some (.arr g (some (c,cap))):=by rw[Zck,if_neg (fun hh=>hne hh.1)];exact ht'
        have hnv:=(h.frzL (AV.refsL vc) hu hnew (fun _ h=>h))
        have hF:=h.fmLe (AV.refsL vc)
        have hset:=Zcb es i o c0 new c5 hc0 (by omega)
        have:=h1.setArr hg' htt (es':=es.set i (Zap c0 o new)) (vs':=cells.toList.take (i*esz'+o)++(u.cells.toList++cells.toList.drop (i*esz'+o+u.cells.toList.length)))
         (us:=(cells.toList.take (es.length*esz')).take (i*esz'+o)++(u.cells.toList++(cells.toList.take (es.length*esz')).drop (i*esz'+o+u.cells.toList.length))) (rest:=cells.toList.drop (es.length*esz'))
         (by simp) (by simpa using c3) (Zi6 c5 i (by rw[ZjH (by omega)];exact hcl)) (by simp;simp at hul;omega)
         (by rw[hset];exact Zbp (c7.mono hF (ZaA.refl _)) hnv (by omega))
         (by rw[hset];exact Zbi c8 (Zij hnew hf))
         (by rw[←List.append_assoc];exact ZgO _ _ _ _ (by omega) (by simpa using hmul2))
        have hts:Zei (ZeL ts (AV.refsL vc)) l k (.arr (es.set i (Zap c0 o new)).length (some (c,cap)))=ZeL ts (AV.refsL vc):=by
         apply Zdp;rw[htt];simp[hlg]
        rw[hts]at this
        refine⟨_,_,_,undef,.inr ⟨hr _ hrun,rfl⟩,?_,undefR _ _,h.fmUp (AV.refsL vc),ZaA.gone _ (AV.refsL vc),?_⟩
        ·simp only[Zam.puts_append,Zam.puts]
         exact this
        ·intro l' k' _ htk'
         rw[Zck,htk'];simp[Zh9]
      ·cases e
     ·cases e
    ·cases e
   ·cases e
  ·cases e
 ·cases e
end
end Go.Abs
namespace Go.Abs
open Go Go.RowKit
section
variable {P:Program}{T:Tys}{N0:Nat}{W0:World}{fm:FM}{ts:List Tie}{H:Zam}{w:World}{t:TypeId}{ti:TI}
def PCs (fm:FM):List (Nat×List AV)→List (Nat×Value)→Prop
 |[],[]=>True
 |(i,x)::l,(j,v)::m=>i=j∧VRs fm [] x v.cells.toList∧(∀ y∈x,y.flat=true)∧PCs fm l m
 |_,_=>False
theorem Ziu (c new:List AV) (h:new.length=c.length):Zap c 0 new=new:=by
 simp[Zap,h]
theorem Zhw {sz:Nat}:∀ (parts:List (Nat×List AV)) (ps:List (Nat×Value)) (es es':List (List AV)) (cells:Array Value),
  PCs fm parts ps→ZaE es sz→VRs fm [] es.flatten cells.toList→(∀ x∈es.flatten,x.flat=true)→Zeq es sz parts=some es'→
  ∃ r,Instr.fill (fun i=>some (i*sz,sz)) cells ps=some r∧ZaE es' sz∧es'.length=es.length∧VRs fm [] es'.flatten r.toList∧∀ x∈es'.flatten,x.flat=true
 |[],[],es,es',cells,_,ho,hv,hf,e=>by
  simp only[Zeq,oE]at e;subst e
  exact⟨cells,rfl,ho,rfl,hv,hf⟩
 |[],_::_,_,_,_,h,_,_,_,_=>h.elim
 |(_,_)::_,[],_,_,_,h,_,_,_,_=>h.elim
 |(i,x)::l,(j,v)::m,es,es',cells,h,ho,hv,hf,e=>by
  obtain⟨rfl,hx,hxf,hr⟩:=h
  simp only[Zeq]at e
  split at e
  ·rename_i hh
   obtain⟨hl,hi⟩:=hh
   have hs:v.cells.size=sz:=by have:=hx.1;simp at this;omega
   have hfl:=ZbP sz es ho
   have hcl:cells.size=es.length*sz:=by have:=hv.1;simp only[Array.length_toList]at this;omega
   have hmul:(i+1)*sz≤es.length*sz:=Nat.mul_le_mul_right _ hi
   rw[Nat.add_mul,Nat.one_mul]at hmul
   have hge:=gG hi
   have hcc:(es[i]).length=sz:=ho _ (List.getElem_mem hi)
   have hset:=Zcb es i 0 _ x ho hge (by omega)
   rw[Ziu _ _ (by omega),Nat.add_zero]at hset
   obtain⟨r,h1,h2,h3,h4⟩:=Zhw l m (es.set i x) es' (v.cells.zipIdx.foldl (fun cs (c,j)=>cs.setIfInBounds (i*sz+j) c) cells) hr (Zi6 ho i hl)
    (by rw[hset,Zk3 _ _ _ (by omega)];exact Zbp hv hx (by omega)) (by rw[hset];exact Zbi hf hxf) e
   refine⟨r,?_,h2,by simpa using h3,h4⟩
   simp only[Instr.fill]
   rw[if_neg (by simp[hs];omega)]
   exact h1
  ·cases e
theorem ZfQ (h:HR N0 W0 fm ts H w) (r:List (Nat×Nat)):∀ (parts:List (Nat×AV)) (ps:List (Nat×Value)) (cs:List (Nat×List AV)),PRs fm ts parts ps→Zbf H.get parts=some cs→(∀ p∈ZbH parts,p∈r)→
  PCs (Zdx fm w (ZeY ts H r)) cs ps
 |[],[],cs,_,e,_=>by simp only[Zbf,oE]at e;subst e;trivial
 |[],_::_,_,h,_,_=>h.elim
 |(_,_)::_,[],_,h,_,_=>h.elim
 |(i,x)::l,(j,v)::m,cs,hp,e,hr=>by
  obtain⟨rfl,hx,hl⟩:=hp
  simp only[Zbf]at e
  split at e
  ·rename_i vc hvc
   split at e
   ·rename_i c' l' hc' hl'
    obtain rfl:=oi e
    obtain⟨h1,h2⟩:=hx.parts hvc
    have hrf:AV.refsL vc=x.refs:=by
     cases x<;>simp only[AV.cells,oE]at hvc<;>first|(subst hvc;simp[AV.refsL,AV.refs];done)|(cases hvc)
    refine⟨rfl,h.frzL r h1 hc' (fun p hp=>hr p ?_),Zij hc' h2,ZfQ h r l m l' hl hl' (fun p hp=>hr p ?_)⟩
    ·simp only[ZbH,List.mem_append];rw[hrf]at hp;exact .inl hp
    ·simp only[ZbH,List.mem_append];exact .inr hp
   ·cases e
  ·cases e
theorem Zid (hT:ZaL P T) (ht:T t=some ti) (h:HR N0 W0 fm ts H w) (hH:0<H.length) {kb:Nat} (hk:∀ k,kb≤k→k<kb+16→tb ts 0 k=none) {len:Nat}{parts:List (Nat×AV)}{ps:Array (Nat×Value)}{d:De}
  (hp:PRs fm ts parts ps.toList) (e:ZbL H.get kb ti len parts=some d) {r:Result Next} (hr:∀ a w',(Instr.buildSlice t len ps).run P w=.ok a w'→r=.ok (.value a) w'):ZgV N0 W0 fm ts H w kb r d:=by
 unfold ZbL at e
 split at e
 ·rename_i el hd
  split at e
  ·rename_i hc
   obtain⟨hsm,hel⟩:=hc
   split at e
   ·rename_i cs hcs
    split at e
    ·rename_i es hes
     obtain rfl:=oi e
     obtain⟨hun,⟨inf,hinf,hsz,hb,z,hz,hzv⟩,_⟩:=hT.slice ht hd
     have helz:=(hT.ok ht).elz
     have hzs:z.cells.size=ti.el:=by have:=(hzv fm []).1;simp at this;omega
     have h1:=h.letGo (ZbH parts)
     have hF:=h.fmLe (ZbH parts)
     have hpc:=ZfQ h (ZbH parts) parts ps.toList cs hp hcs (fun _ h=>h)
     have hmade:=Zfn z.cells len (by omega)
     rw[hzs]at hmade
     obtain⟨cells,f1,f2,f3,f4,f5⟩:=Zhw cs ps.toList (List.replicate len ti.elz) es (madeCells z.cells (len*ti.el)) hpc (Zbu helz _) (by rw[hmade];exact VRs.replicate (hzv _ []) _)
      (Zcs (hT.ok ht).elflat _) hes
     have ZbS:es.length=len:=by simpa using f3
     have hcsz:cells.size=len*ti.el:=by have:=f4.1;rw[ZbP _ _ f2,ZbS]at this;simpa using this.symm
     have hrun:(Instr.buildSlice t len ps).run P w=.ok (.slice (some ⟨w.heap.size,0,none⟩) len len) (w.alloc (.cells cells el)):=by
      by_cases h0:len*inf.size=0
      ·have hl0:len=0:=by
        rcases Nat.mul_eq_zero.1 h0 with h|h
        ·exact h
        ·omega
       subst hl0
       have f1':Instr.fill (fun i=>some (i*inf.size,inf.size)) #[] ps.toList=some cells:=by
        rw[hsz]
        have:madeCells z.cells (0*ti.el)=#[]:=by simp[madeCells,Array.range_zero']
        rw[this]at f1;exact f1
       simp[Instr.buildSlice,run_underlying hun,sizeOf,typeInfo,hinf,Array.range_zero',f1',newRow]
      ·exact run_buildSlice w t el len ps cells inf z hun hinf hz (by rw[hsz];omega) h0 (by rw[hsz];exact f1)
     have hk0:tb (ZeL ts (ZbH parts)) 0 kb=none:=by rw[Zck,hk kb (Nat.le_refl _) (by omega)];simp[Zh9]
     have hlt:0<(ZeL ts (ZbH parts)).length:=by rw[Zfl,h.len];exact hH
     have hmx:len≤maxLen:=by
      have:len*1≤len*ti.el:=Nat.mul_le_mul_left _ hel
      simp[maxLen];omega
     have hn:=h1.newArr (l:=0) (k:=kb) (cap:=len) (et:=el) (esz:=ti.el) (es:=es) (cells:=cells) (us:=cells.toList) (rest:=[]) (by simpa using hH) (by rw[hk0];trivial) hcsz
      (by omega) hmx f2 hel f4 f5 (by simp)
     rw[ZbS]at hn
     refine⟨_,Zei (ZeL ts (ZbH parts)) 0 kb (.arr len (some (w.heap.size,len))),_,_,.inl (hr _ _ hrun),?_,?_,h.fmUp (ZbH parts),(ZaA.gone ts _).trans (ZaA.set (by rw[hk0];trivial)),?_⟩
     ·simp only[Zam.puts_append,Zam.puts]
      exact hn
     ·exact .loc 0 kb ti.el 0 len len w.heap.size len len _ (by rw[ZaN,if_pos ⟨rfl,rfl,hlt⟩]) (by omega) (by omega) (by omega) (fun _=>by simp)
     ·intro l k hkk htk
      rw[ZaN,if_neg (by omega),Zck,htk];simp[Zh9]
    ·cases e
   ·cases e
  ·cases e
 ·cases e
theorem Zbs {sz:Nat}:∀ (es:List (List AV)) (i:Nat),ZaE es sz→(es.take i).flatten=es.flatten.take (i*sz)
 |[],i,_=>by simp
 |c::es,0,_=>by simp
 |c::es,i+1,h=>by
  have hc:c.length=sz:=h c List.mem_cons_self
  have ih:=Zbs es i (fun d hd=>h d (List.mem_cons_of_mem _ hd))
  have e:(i+1)*sz=c.length+i*sz:=by rw[Nat.add_mul,Nat.one_mul,hc];omega
  rw[List.take_succ_cons,List.flatten_cons,List.flatten_cons,ih,e,List.take_length_add_append]
theorem Zc7 {sz:Nat}:∀ (es:List (List AV)) (i:Nat),ZaE es sz→(es.drop i).flatten=es.flatten.drop (i*sz)
 |[],i,_=>by simp
 |c::es,0,_=>by simp
 |c::es,i+1,h=>by
  have hc:c.length=sz:=h c List.mem_cons_self
  have ih:=Zc7 es i (fun d hd=>h d (List.mem_cons_of_mem _ hd))
  have e:(i+1)*sz=c.length+i*sz:=by rw[Nat.add_mul,Nat.one_mul,hc];omega
  rw[List.drop_succ_cons,List.flatten_cons,ih,e,List.drop_length_add_append]
theorem HR.putSame (h:HR N0 W0 fm ts H w) {l k:Nat}{b:Blk} (hg:H.get l k=some b):HR N0 W0 fm ts (H.put l k (some b)) w:=by
 have e1:∀ l' k',(H.put l k (some b)).get l' k'=H.get l' k':=by
  intro l' k'
  rw[Zam.get_put]
  split
  ·rename_i hh;obtain⟨rfl,rfl,_⟩:=hh;exact hg.symm
  ·rfl
 exact⟨by simpa using h.len,fun l' k' b hb=>h.blk l' k' b (by rw[←e1];exact hb),fun l1 k1 l2 k2 b1 b2 c g1 g2=>h.inj l1 k1 l2 k2 b1 b2 c (by rw[←e1];exact g1) (by rw[←e1];exact g2),h.fms,
  fun l' k' b c o hb=>h.fmd l' k' b c o (by rw[←e1];exact hb),h.bel,h.size,h.oth⟩
theorem VRs.take {fm:FM}{ts:List Tie}{cs:List AV}{vs:List Value} (h:VRs fm ts cs vs) (n:Nat):VRs fm ts (cs.take n) (vs.take n):=by
 refine⟨by simp[h.1],fun i x v a b=>?_⟩
 rw[List.getElem?_take]at a b
 split at a
 ·rename_i hi;rw[if_pos hi]at b;exact h.2 i x v a b
 ·cases a
theorem VRs.drop {fm:FM}{ts:List Tie}{cs:List AV}{vs:List Value} (h:VRs fm ts cs vs) (n:Nat):VRs fm ts (cs.drop n) (vs.drop n):=
 ⟨by simp[h.1],fun i x v a b=>h.2 (n+i) x v (by rw[List.getElem?_drop]at a;exact a) (by rw[List.getElem?_drop]at b;exact b)⟩
theorem ZaV {sz:Nat}{a b:List (List AV)} (h:ZaE a sz) (k:ZaE b sz):ZaE (a++b) sz:=by
 intro c hc
 rcases List.mem_append.1 hc with hc|hc
 ·exact h c hc
 ·exact k c hc
theorem Zl7 {a b:List AV} (h:∀ x∈a,x.flat=true) (k:∀ x∈b,x.flat=true):∀ x∈a++b,x.flat=true:=by
 intro x hx
 rcases List.mem_append.1 hx with hx|hx
 ·exact h x hx
 ·exact k x hx
theorem Zi2 {e:TypeId}{inf:TypeInfo} (hun:P.underlying t=some (.slice e)) (hinf:P.info? e=some inf) (ty:TypeId) (base a:Option Addr) (n c cp:Nat) (hn:n≤c):
  (Builtin.append_ #[t,t] ty #[.slice base n c,.slice a 0 cp]).run P w=.ok (.slice base n c) w:=by
 cases base<;>cases a<;>simp[Builtin.append_,run_underlying hun,sizeOf,typeInfo,hinf,Builtin.lenOf,Builtin.firstCells,hn,loadCells,loadCellsFrom,storeCells]
structure SrcR (P:Program) (t tx ty e:TypeId) (inf:TypeInfo) (z u:Value) (n:Nat) (us:List Value) (w:World):Prop where
 none:n=0→∀ (base:Option Addr) (m c:Nat),m≤c→(Builtin.append_ #[t,tx] ty #[.slice base m c,u]).run P w=.ok (.slice base m c) w
 nil:us.length=n*inf.size→0<inf.size→0<n→(n:Int)≤9223372036854775807→n*inf.bytes≤281474976710656→(Builtin.append_ #[t,tx] ty #[.slice Option.none 0 0,u]).run P w =
   .ok (.slice (some ⟨w.heap.size,0,Option.none⟩) n (grownCap w n 0 e)) (w.drew.alloc (.cells (us.toArray++Builtin.zeroCells z.cells (grownCap w n 0 e - n)) e))
 grow:us.length=n*inf.size→0<inf.size→0<n→∀ (b:Addr) (sLen sCap:Nat) (olds:List Value),olds.length=sLen*inf.size→(∀ j v,olds[j]?=some v→w.cell? (b.add j)=some v)→sCap<sLen+n→((sLen+n:Nat):Int)≤9223372036854775807→
  Builtin.nextslicecap (sLen+n) sCap*inf.bytes≤281474976710656→(Builtin.append_ #[t,tx] ty #[.slice (some b) sLen sCap,u]).run P w =
   .ok (.slice (some ⟨w.heap.size,0,Option.none⟩) (sLen+n) (grownCap w (sLen+n) sCap e))
    (w.drew.alloc (.cells (olds.toArray++us.toArray++Builtin.zeroCells z.cells (grownCap w (sLen+n) sCap e - (sLen+n))) e))
 room:us.length=n*inf.size→0<inf.size→0<n→∀ (g sLen sCap:Nat) (cur:Array Value),w.heap[g]?=some (.cells cur e (0,0))→(∀ u∈us,u.oneCell'=true)→sLen+n≤sCap→sLen*inf.size+us.length≤cur.size→
  (Builtin.append_ #[t,tx] ty #[.slice (some ⟨g,0,Option.none⟩) sLen sCap,u]).run P w =
   .ok (.slice (some ⟨g,0,Option.none⟩) (sLen+n) sCap) (w.setRow g (cur.toList.take (sLen*inf.size)++us++cur.toList.drop (sLen*inf.size+us.length)).toArray)
theorem Zfh (hT:ZaL P T) (ht:T t=some ti) (h:HR N0 W0 fm ts H w) (hH:0<H.length) {kb:Nat} (hk:∀ k,kb≤k→k<kb+16→tb ts 0 k=none) {tx ty:TypeId}{x y:AV}{v u:Value}{d:De}
  (hv:VR fm ts x v) (hsrc:∀ new e inf z,ZbT H.get ti.el y=some new→P.underlying t=some (.slice e)→P.info? e=some inf→inf.size=ti.el→inf.zero=some z→∃ us,ZaE new ti.el∧VRs fm [] new.flatten us∧(∀ x∈new.flatten,x.flat=true)∧SrcR P t tx ty e inf z u new.length us w)
  (e:ZbO H.get kb ti x y=some d) {r:Result Next} (hr:∀ a w',(Builtin.append_ #[t,tx] ty #[v,u]).run P w=.ok a w'→r=.ok (.value a) w'):ZgV N0 W0 fm ts H w kb r d:=by
 unfold ZbO at e
 split at e
 ·rename_i el hd
  obtain⟨hun,⟨inf,hinf,hsz,hb,z,hz,hzv⟩,_⟩:=hT.slice ht hd
  have helz:=(hT.ok ht).elz
  have hzs:z.cells.size=ti.el:=by have:=(hzv fm []).1;simp at this;omega
  split at e
  ·rename_i new hnew
   obtain⟨us,ho,hvs,hfl,hR⟩:=hsrc new el inf z hnew hun hinf hsz hz
   have hul:us.length=new.length*ti.el:=by rw[←hvs.1];exact ZbP _ _ ho
   split at e
   ·
    split at e
    ·rename_i hc
     obtain⟨⟨hroom,hmx⟩,hel⟩:=hc
     obtain rfl:=oi e
     cases hv
     have hk0:=hk kb (Nat.le_refl _) (by omega)
     have hlt:0<ts.length:=by rw[h.len];exact hH
     by_cases hn:new.length=0
     ·have:new=[]:=List.eq_nil_of_length_eq_zero hn
      subst this
      have hrun:=hR.none (by simp) none 0 0 (Nat.le_refl _)
      exact Zhq h hH hk el ti.el (hr _ _ hrun)
     ·have hrun:=hR.nil (by rw[hsz];exact hul) (by omega) (by omega) (by omega) (by rw[hb];omega)
      have hge:=grownCap_ge w new.length 0 el
      have hle:=grownCap_le_maxLen w new.length 0 el (by simp[maxLen];omega)
      have hn2:=(h.drew).newArr (l:=0) (k:=kb) (cap:=grownCap w new.length 0 el) (et:=el) (esz:=ti.el) (es:=new) (cells:=us.toArray++Builtin.zeroCells z.cells (grownCap w new.length 0 el - new.length)) (us:=us)
       (rest:=(Builtin.zeroCells z.cells (grownCap w new.length 0 el - new.length)).toList) hH (by rw[hk0];trivial) (by
        rw[Array.size_append,size_zeroCells,hzs,List.size_toArray,hul,←Nat.add_mul];congr 1;omega) hge hle ho hel hvs hfl (by simp)
      refine⟨fm,_,_,_,.inl (hr _ _ hrun),hn2,?_,FmUp.refl _ _,ZaA.set (by rw[hk0];trivial),?_⟩
      ·exact .loc 0 kb ti.el 0 new.length new.length w.heap.size (grownCap w new.length 0 el) (grownCap w new.length 0 el) _ (by rw[ZaN,if_pos ⟨rfl,rfl,hlt⟩];rfl) (by omega) hge (by omega) (fun _=>by simp)
      ·intro l k hkk htk
       rw[ZaN,if_neg (by omega)]
       exact htk
    ·cases e
   ·rename_i l k esz i n g
    split at e
    ·rename_i et esz' es hg
     split at e
     ·rename_i hc
      obtain⟨rfl,rfl,rfl,rfl,rfl,hlg,⟨hroom,hmx⟩,hel⟩:=hc
      obtain rfl:=oi e
      have hb':=h.blk l k _ hg
      have hll:=Zam.get_lt H _ _ _ hg
      have hltt:l<ts.length:=by rw[h.len];exact hll
      have hfree:∀ (x:TB) l' k',(l'≠0∨k'<kb∨kb+16≤k')→tb ts l' k'=none→tb ts l k≠none→tb (Zei ts l k x) l' k'=none:=by
       intro x l' k' _ h0 hne
       rw[ZaN]
       split
       ·rename_i hh;obtain⟨rfl,rfl,_⟩:=hh;exact absurd h0 hne
       ·exact h0
      have nothing:new=[]→∀ (a0:Option Addr) (cp0:Nat),v=.slice a0 n cp0→n≤cp0→VR fm ts (.loc l k ti.el 0 n n) v→ZgV N0 W0 fm ts H w kb r ⟨.loc l k ti.el 0 (n+new.length) (n+new.length),[(l,k,some (.arr et ti.el (es++new)))]⟩:=by
       rintro rfl a0 cp0 rfl hle hvr
       have hrun:=hR.none (by simp) a0 n cp0 hle
       have hH':HR N0 W0 fm ts (H.put l k (some (.arr et ti.el (es++[])))) w:=by
        rw[List.append_nil]
        have e1:∀ l' k',(H.put l k (some (.arr et ti.el es))).get l' k'=H.get l' k':=by
         intro l' k'
         rw[Zam.get_put]
         split
         ·rename_i hh;obtain⟨rfl,rfl,_⟩:=hh;exact hg.symm
         ·rfl
        exact⟨by simpa using h.len,fun l' k' b hb=>h.blk l' k' b (by rw[←e1];exact hb),fun l1 k1 l2 k2 b1 b2 c g1 g2=>h.inj l1 k1 l2 k2 b1 b2 c (by rw[←e1];exact g1) (by rw[←e1];exact g2),h.fms,
         fun l' k' b c o hb=>h.fmd l' k' b c o (by rw[←e1];exact hb),h.bel,h.size,h.oth⟩
       refine⟨fm,ts,w,_,.inl (hr _ _ hrun),hH',?_,FmUp.refl _ _,ZaA.refl _,fun _ _ _ h=>h⟩
       simpa using hvr
      cases hv with
      |locGone _ _ _ _ _ _ a' cp' htk=>rw[htk]at hb';cases hb'
      |locOld _ _ _ _ _ _ a' cp' m' c htk hlt'=>rw[htk]at hb';have:=hb'.arr_inv.1;omega
      |locNil _ _ _ a1 htk=>
       rw[htk]at hb'
       have hes:=hb'.arr_inv.2.1 rfl
       subst hes
       by_cases hn:new.length=0
       ·exact nothing (List.eq_nil_of_length_eq_zero hn) a1 0 rfl (Nat.le_refl _) (.locNil l k ti.el _ htk)
       ·simp only[Nat.zero_add]at hroom hmx
        have hrun:(Builtin.append_ #[t,tx] ty #[.slice a1 0 0,u]).run P w =
          .ok (.slice (some ⟨w.heap.size,0,none⟩) new.length (grownCap w new.length 0 et)) (w.drew.alloc (.cells (us.toArray++Builtin.zeroCells z.cells (grownCap w new.length 0 et - new.length)) et)):=by
         cases a1 with
         |none=>exact hR.nil (by rw[hsz];exact hul) (by omega) (by omega) (by omega) (by rw[hb];omega)
         |some b1=>
          have:=hR.grow (by rw[hsz];exact hul) (by omega) (by omega) b1 0 0 [] (by simp) (by simp) (by omega) (by omega) (by rw[Nat.zero_add];exact growslice_fits (by omega) (by rw[hb];omega))
          simpa using this
        have hge:=grownCap_ge w new.length 0 et
        have hle:=grownCap_le_maxLen w new.length 0 et (by simp[maxLen];omega)
        have hTb:Zec (tb ts l k) (some (.arr new.length (some (w.heap.size,grownCap w new.length 0 et)))):=by
         rw[htk];exact .inr (.inr ⟨_,_,rfl,by omega⟩)
        have hn2:=(h.drew).newArr (l:=l) (k:=k) (cap:=grownCap w new.length 0 et) (et:=et) (esz:=ti.el) (es:=new) (cells:=us.toArray++Builtin.zeroCells z.cells (grownCap w new.length 0 et - new.length)) (us:=us)
         (rest:=(Builtin.zeroCells z.cells (grownCap w new.length 0 et - new.length)).toList) hll hTb (by
          rw[Array.size_append,size_zeroCells,hzs,List.size_toArray,hul,←Nat.add_mul];congr 1;omega) hge hle ho hel hvs hfl (by simp)
        refine⟨fm,_,_,_,.inl (hr _ _ hrun),by simpa [Zam.puts] using hn2,?_,FmUp.refl _ _,ZaA.set hTb,fun l' k' hk' h0=>hfree _ l' k' hk' h0 (by rw[htk];simp)⟩
        simp only[Nat.zero_add]
        exact .loc l k ti.el 0 new.length new.length w.heap.size (grownCap w new.length 0 et) (grownCap w new.length 0 et) _ (by rw[ZaN,if_pos ⟨rfl,rfl,hltt⟩]) (by omega) hge (by omega) (fun _=>by simp)
      |loc _ _ _ _ _ _ c cap cp' a' htk hin hnc hcc ha=>
       rw[htk]at hb'
       obtain⟨hA,hN⟩:=hb'.arr_inv.2.2 c cap rfl
       obtain⟨cells,c1,c2,c3,c4,c5,c6,c7,c8⟩:=hA.flat
       have ha':=ha (.inr rfl)
       simp only[Nat.zero_mul]at ha'
       subst ha'
       have hcc':cp'=cap:=by omega
       subst hcc'
       by_cases hn:new.length=0
       ·exact nothing (List.eq_nil_of_length_eq_zero hn) _ cp' rfl hnc (.loc l k ti.el 0 n n c cp' cp' _ htk hin hnc hcc ha)
       ·have hfle:=ZbP ti.el es c5
        have hmul:es.length*ti.el≤cells.size:=by rw[c2];exact Nat.mul_le_mul_right _ c3
        have hcells:∀ j u,(cells.toList.take (es.length*ti.el))[j]?=some u→w.cell? ((⟨c,0,none⟩:Addr).add j)=some u:=by
         intro j u hu
         rw[List.getElem?_take]at hu
         split at hu
         ·rw[Addr.add_lit]
          simp only[World.cell?,c1,Nat.zero_add]
          simpa using hu
         ·cases hu
        have hVs:VRs fm [] (es++new).flatten (cells.toList.take (es.length*ti.el)++us):=by
         rw[List.flatten_append];exact c7.append hvs
        have hFs:∀ x∈(es++new).flatten,x.flat=true:=by rw[List.flatten_append];exact Zl7 c8 hfl
        have hOs:=ZaV c5 ho
        have hTb:∀ c',Zec (tb ts l k) (some (.arr (es++new).length c')):=by
         intro c';rw[htk];exact .inr (.inr ⟨_,_,rfl,by simp;omega⟩)
        by_cases hfit:n+new.length≤cp'
        ·have hrun:=hR.room (by rw[hsz];exact hul) (by omega) (by omega) c n cp' cells c1 (hvs.oneCells hfl) hfit (by
          rw[hsz,hul,←Nat.add_mul,c2];exact Nat.mul_le_mul_right _ hfit)
         rw[hsz]at hrun
         have hs:=h.setArr hg htk (es':=es++new) (vs':=cells.toList.take (n*ti.el)++us++cells.toList.drop (n*ti.el+us.length)) (us:=cells.toList.take (es.length*ti.el)++us) (rest:=cells.toList.drop (n*ti.el+us.length))
          (by simp) (by simp;omega) hOs (by
           have:n*ti.el+us.length≤cells.size:=by rw[hul,←Nat.add_mul,c2];exact Nat.mul_le_mul_right _ hfit
           simp;omega) hVs hFs (by rw[hlg])
         refine⟨fm,_,_,_,.inl (hr _ _ hrun),hs,?_,FmUp.refl _ _,ZaA.set (hTb _),fun l' k' hk' h0=>hfree _ l' k' hk' h0 (by rw[htk];simp)⟩
         exact .loc l k ti.el 0 (n+new.length) (n+new.length) c cp' cp' _ (by rw[ZaN,if_pos ⟨rfl,rfl,hltt⟩];simp[hlg]) (by omega) hfit (by omega) (fun _=>by simp)
        ·have hrun:=hR.grow (by rw[hsz];exact hul) (by omega) (by omega) ⟨c,0,none⟩ n cp' (cells.toList.take (es.length*ti.el)) (by rw[hsz,List.length_take,Nat.min_eq_left (by simpa using hmul),hlg]) hcells (by omega) (by omega)
          (growslice_fits (by omega) (by rw[hb];exact hroom))
         have hge:=grownCap_ge w (n+new.length) cp' et
         have hle:=grownCap_le_maxLen w (n+new.length) cp' et (by simp[maxLen];omega)
         have hn2:=(h.drew).newArr (l:=l) (k:=k) (cap:=grownCap w (n+new.length) cp' et) (et:=et) (esz:=ti.el) (es:=es++new)
          (cells:=(cells.toList.take (es.length*ti.el)).toArray++us.toArray++Builtin.zeroCells z.cells (grownCap w (n+new.length) cp' et - (n+new.length))) (us:=cells.toList.take (es.length*ti.el)++us)
          (rest:=(Builtin.zeroCells z.cells (grownCap w (n+new.length) cp' et - (n+new.length))).toList) hll (hTb _) (by
           rw[Array.size_append,Array.size_append,size_zeroCells,hzs,List.size_toArray,List.size_toArray,hul,List.length_take,Nat.min_eq_left (by simpa using hmul),←Nat.add_mul,←Nat.add_mul];congr 1;omega) (by simp;omega) hle hOs hel hVs hFs (by simp)
         refine⟨fm,_,_,_,.inl (hr _ _ hrun),hn2,?_,FmUp.refl _ _,ZaA.set (hTb _),fun l' k' hk' h0=>hfree _ l' k' hk' h0 (by rw[htk];simp)⟩
         exact .loc l k ti.el 0 (n+new.length) (n+new.length) w.heap.size (grownCap w (n+new.length) cp' et) (grownCap w (n+new.length) cp' et) _ (by rw[ZaN,if_pos ⟨rfl,rfl,hltt⟩];simp[hlg]) (by omega) hge (by omega) (fun _=>by simp)
     ·split at e
      ·rename_i hc
       obtain⟨⟨rfl,rfl,rfl⟩,⟨rfl,hlg⟩,hfit,hel⟩:=hc
       obtain rfl:=oi e
       have hb':=h.blk l k _ hg
       have hll:=Zam.get_lt H _ _ _ hg
       have hltt:l<ts.length:=by rw[h.len];exact hll
       have hfree:∀ (x:TB) l' k',(l'≠0∨k'<kb∨kb+16≤k')→tb ts l' k'=none→tb ts l k≠none→tb (Zei ts l k x) l' k'=none:=by
        intro x l' k' _ h0 hne
        rw[ZaN]
        split
        ·rename_i hh;obtain⟨rfl,rfl,_⟩:=hh;exact absurd h0 hne
        ·exact h0
       have hel':(es.take n++(new++es.drop (n+new.length))).length=es.length:=by simp;omega
       have nothing:new=[]→∀ (a0:Option Addr) (cp0:Nat),v=.slice a0 n cp0→n≤cp0→VR fm ts (.loc l k ti.el 0 n g) v→ZgV N0 W0 fm ts H w kb r ⟨.loc l k ti.el 0 (n+new.length) g,[(l,k,some (.arr et ti.el (es.take n++(new++es.drop (n+new.length)))))]⟩:=by
        rintro rfl a0 cp0 rfl hle hvr
        have hrun:=hR.none (by simp) a0 n cp0 hle
        have e0:es.take n++([]++es.drop (n+([]:List (List AV)).length))=es:=by simp
        rw[e0]
        refine⟨fm,ts,w,_,.inl (hr _ _ hrun),h.putSame hg,?_,FmUp.refl _ _,ZaA.refl _,fun _ _ _ h=>h⟩
        simpa using hvr
       cases hv with
       |locGone _ _ _ _ _ _ a' cp' htk=>rw[htk]at hb';cases hb'
       |locOld _ _ _ _ _ _ a' cp' m' c htk hlt'=>rw[htk]at hb';have:=hb'.arr_inv.1;omega
       |locNil _ _ _ a1 htk=>
        have hn:new=[]:=List.eq_nil_of_length_eq_zero (by omega)
        exact nothing hn a1 0 rfl (Nat.le_refl _) (.locNil l k ti.el _ htk)
       |loc _ _ _ _ _ _ c cap cp' a' htk hin hnc hcc ha=>
        rw[htk]at hb'
        obtain⟨hA,hN⟩:=hb'.arr_inv.2.2 c cap rfl
        obtain⟨cells,c1,c2,c3,c4,c5,c6,c7,c8⟩:=hA.flat
        have ha':=ha (.inr rfl)
        simp only[Nat.zero_mul]at ha'
        subst ha'
        have hcc':cp'=cap:=by omega
        subst hcc'
        by_cases hn:new.length=0
        ·exact nothing (List.eq_nil_of_length_eq_zero hn) _ cp' rfl hnc (.loc l k ti.el 0 n g c cp' cp' _ htk hin hnc hcc ha)
        ·have hmul2:es.length*ti.el≤cells.size:=by rw[c2];exact Nat.mul_le_mul_right _ c3
         have hnm:(n+new.length)*ti.el≤es.length*ti.el:=Nat.mul_le_mul_right _ (by omega)
         rw[Nat.add_mul]at hnm
         have hrun:=hR.room (by rw[hsz];exact hul) (by omega) (by omega) c n cp' cells c1 (hvs.oneCells hfl) (by omega) (by rw[hsz,hul];omega)
         rw[hsz]at hrun
         have hul':(cells.toList.take (es.length*ti.el)).length=es.length*ti.el:=by rw[List.length_take,Nat.min_eq_left (by simpa using hmul2)]
         have htk1:VRs fm [] (es.take n).flatten (cells.toList.take (n*ti.el)):=by
          have:=VRs.take c7 (n*ti.el)
          rw[←Zbs es n c5,List.take_take,Nat.min_eq_left (by omega)]at this
          exact this
         have hdr:VRs fm [] (es.drop (n+new.length)).flatten ((cells.toList.take (es.length*ti.el)).drop (n*ti.el+us.length)):=by
          have:=VRs.drop c7 (n*ti.el+us.length)
          have e2:n*ti.el+us.length=(n+new.length)*ti.el:=by rw[hul,Nat.add_mul]
          rw[e2]at this ⊢
          rw[←Zc7 es (n+new.length) c5]at this
          exact this
         have hOs:ZaE (es.take n++(new++es.drop (n+new.length))) ti.el:=
          ZaV (fun d hd=>c5 d (List.mem_of_mem_take hd)) (ZaV ho (fun d hd=>c5 d (List.mem_of_mem_drop hd)))
         have hVs:VRs fm [] (es.take n++(new++es.drop (n+new.length))).flatten (cells.toList.take (n*ti.el)++(us++(cells.toList.take (es.length*ti.el)).drop (n*ti.el+us.length))):=by
          rw[List.flatten_append,List.flatten_append]
          exact htk1.append (hvs.append hdr)
         have hFs:∀ x∈(es.take n++(new++es.drop (n+new.length))).flatten,x.flat=true:=by
          intro x hx
          rw[List.flatten_append,List.flatten_append]at hx
          have hes:∀ x∈es.flatten,x.flat=true:=c8
          rcases List.mem_append.1 hx with hx|hx
          ·obtain⟨d,hd,hxd⟩:=List.mem_flatten.1 hx
           exact hes x (List.mem_flatten.2 ⟨d,List.mem_of_mem_take hd,hxd⟩)
          ·rcases List.mem_append.1 hx with hx|hx
           ·exact hfl x hx
           ·obtain⟨d,hd,hxd⟩:=List.mem_flatten.1 hx
            exact hes x (List.mem_flatten.2 ⟨d,List.mem_of_mem_drop hd,hxd⟩)
         have hs:=h.setArr hg htk (es':=es.take n++(new++es.drop (n+new.length))) (vs':=cells.toList.take (n*ti.el)++us++cells.toList.drop (n*ti.el+us.length))
          (us:=cells.toList.take (n*ti.el)++(us++(cells.toList.take (es.length*ti.el)).drop (n*ti.el+us.length))) (rest:=cells.toList.drop (es.length*ti.el))
          (by omega) (by omega) hOs (by
           have:n*ti.el+us.length≤cells.size:=by omega
           simp;omega) hVs hFs (by
           rw[List.append_assoc,List.append_assoc,List.append_assoc]
           congr 2
           have e3:cells.toList.drop (n*ti.el+us.length)=(cells.toList.take (es.length*ti.el)).drop (n*ti.el+us.length)++cells.toList.drop (es.length*ti.el):=by
            rw[List.drop_take]
            have e4:es.length*ti.el=(n*ti.el+us.length)+(es.length*ti.el - (n*ti.el+us.length)):=by omega
            conv=>rhs;arg 2;rw[e4,←List.drop_drop]
            rw[List.take_append_drop]
           exact e3)
         rw[hel',hlg]at hs
         have hts:Zei ts l k (.arr g (some (c,cp')))=ts:=Zdp htk
         rw[hts]at hs
         refine⟨fm,ts,_,_,.inl (hr _ _ hrun),hs,?_,FmUp.refl _ _,ZaA.refl _,fun _ _ _ h=>h⟩
         exact .loc l k ti.el 0 (n+new.length) g c cp' cp' _ htk (by omega) (by omega) (by omega) (fun _=>by simp)
      ·cases e
    ·cases e
   ·cases e
  ·cases e
 ·cases e
theorem Zl1 (hT:ZaL P T) (ht:T t=some ti) (h:HR N0 W0 fm ts H w) (hH:0<H.length) {kb:Nat} (hk:∀ k,kb≤k→k<kb+16→tb ts 0 k=none) {ty:TypeId}{x y:AV}{v u:Value}{d:De}
  (hv:VR fm ts x v) (hu:VR fm ts y u) (e:ZbO H.get kb ti x y=some d) {r:Result Next} (hr:∀ a w',(Builtin.append_ #[t,t] ty #[v,u]).run P w=.ok a w'→r=.ok (.value a) w'):ZgV N0 W0 fm ts H w kb r d:=by
 refine Zfh hT ht h hH hk hv ?_ e hr
 intro new el inf z hnew hun hinf hsz hz
 obtain⟨a,cp,us,rfl,ho,hvs,hfl,hcell⟩:=h.elems hu hnew
 have hul:us.length=new.length*ti.el:=by rw[←hvs.1];exact ZbP _ _ ho
 have hsome:0<us.length→∃ ad,a=some ad∧∀ j u,us[j]?=some u→w.cell? (ad.add j)=some u:=by
  intro hlt
  obtain⟨ad,rfl,_⟩:=hcell 0 _ (gG hlt)
  refine⟨ad,rfl,fun j u hu=>?_⟩
  obtain⟨ad',h1,h2⟩:=hcell j u hu
  cases h1;exact h2
 refine⟨us,ho,hvs,hfl,?_,?_,?_,?_⟩
 ·intro hn base m c hm
  rw[hn]
  exact Zi2 (P:=P) (w:=w) hun hinf ty base a m c cp hm
 ·intro hl he hn h63 h48
  obtain⟨ad,rfl,hca⟩:=hsome (by rw[hl];exact Nat.mul_pos hn he)
  exact run_append_nil (P:=P) w t ty el inf z hun hinf hz ad new.length cp us hl hca hn h63 h48
 ·intro hl he hn b sLen sCap olds ho1 ho2 hg h63 hfit
  obtain⟨ad,rfl,hca⟩:=hsome (by rw[hl];exact Nat.mul_pos hn he)
  exact run_append_grow (P:=P) w t ty el inf z hun hinf hz b sLen sCap olds ho1 ho2 ad new.length cp us hl hca hg h63 hfit
 ·intro hl he hn g sLen sCap cur hg h1 hr2 hf
  obtain⟨ad,rfl,hca⟩:=hsome (by rw[hl];exact Nat.mul_pos hn he)
  exact run_append_room (P:=P) w t ty el inf hun hinf g sLen sCap cur hg ad new.length cp us hl hca h1 hr2 hf
theorem Zez (s:ByteArray):(Zgp s).length=s.size:=by unfold Zgp;rw[List.length_map];rfl
theorem Zje (s:ByteArray):(Zgp s).flatten=s.data.toList.map fun c=>AV.int .u8 (c.toNat:Int):=by
 unfold Zgp
 induction s.data.toList with
 |nil=>rfl
 |cons x l ih=>simp[ih]
theorem Zku (hT:ZaL P T) (ht:T t=some ti) (h:HR N0 W0 fm ts H w) (hH:0<H.length) {kb:Nat} (hk:∀ k,kb≤k→k<kb+16→tb ts 0 k=none) {tx ty:TypeId}{x:AV}{v:Value}{s:ByteArray}{d:De}
  (hv:VR fm ts x v) (hu:P.underlying tx=some .string) (h1:ti.el=1) (e:ZbO H.get kb ti x (.sl 1 (Zgp s))=some d) {r:Result Next} (hr:∀ a w',(Builtin.append_ #[t,tx] ty #[v,.string s]).run P w=.ok a w'→r=.ok (.value a) w'):ZgV N0 W0 fm ts H w kb r d:=by
 refine Zfh hT ht h hH hk hv ?_ e hr
 intro new el inf z hnew hun hinf hsz hz
 have hz1:inf.size=1:=by omega
 simp only[ZbT,if_pos h1.symm,oE]at hnew
 subst hnew
 have hS:∀ w:World,Src P inf.size tx (.string s) (Zgp s).length (byteCells s) w:=fun w=>by rw[hz1,Zez];exact Src.ofString w hu s
 refine⟨byteCells s,?_,?_,?_,?_,?_,?_,?_⟩
 ·intro c hc
  obtain⟨_,_,rfl⟩:=List.mem_map.1 hc
  rw[h1];rfl
 ·rw[Zje]
  refine⟨by unfold byteCells;simp,?_⟩
  intro i x v hx hv
  unfold byteCells at hv
  rw[List.getElem?_map,mS]at hx hv
  obtain⟨p,hp,rfl⟩:=hx
  obtain⟨q,hq,rfl⟩:=hv
  rw[hp]at hq
  obtain rfl:=oi hq
  exact .int _ _
 ·rw[Zje]
  intro x hx
  obtain⟨_,_,rfl⟩:=List.mem_map.1 hx
  rfl
 ·intro hn base m c hm
  have h0:s.size=0:=by rw[←Zez];exact hn
  cases base<;>simp[Builtin.append_,run_underlying hun,run_underlying hu,sizeOf,typeInfo,hinf,Builtin.lenOf,h0,hm,Builtin.firstCells,storeCells]
 ·intro hl _ hn h63 h48
  have:=run_append_grow_src (P:=P) w t tx ty el inf z hun hinf hz none 0 0 [] (run_firstCells_none w.drew inf.size 0 0 0) (.string s) (Zgp s).length (byteCells s) (hS w) (by omega) (by simpa using h63) (by rw[Nat.zero_add,nextslicecap_zero hn];exact h48)
  simpa using this
 ·intro hl _ hn b sLen sCap olds ho1 ho2 hg h63 hfit
  have hf:=run_firstCells_some (P:=P) w.drew inf.size sLen b sLen sCap olds ho1 (by simpa using ho2)
  have:=run_append_grow_src (P:=P) w t tx ty el inf z hun hinf hz (some b) sLen sCap olds hf (.string s) (Zgp s).length (byteCells s) (hS w) hg h63 hfit
  simpa using this
 ·intro hl _ hn g sLen sCap cur hg h1 hr2 hf
  have hst:=run_storeCells_at P g (sLen*inf.size) el (byteCells s) 0 cur w hg (by simpa using hf) h1
  simp only[Nat.add_zero]at hst
  have hc:=(hS w).cells
  have hle:sLen+s.size≤sCap:=by rw[←Zez];exact hr2
  have hc':(Builtin.firstCells inf.size s.size (.string s)).run P w=.ok (byteCells s).toArray w:=by rw[←Zez];exact hc
  simp[Builtin.append_,run_underlying hun,run_underlying hu,sizeOf,typeInfo,hinf,Builtin.lenOf,hle,hc',Addr.add_lit,hst,Zez]
theorem Zkv (hT:ZaL P T) (ht:T t=some ti) (h:HR N0 W0 fm ts H w) (hH:0<H.length) {kb:Nat} (hk:∀ k,kb≤k→k<kb+16→tb ts 0 k=none) {tx ty:TypeId}{kn kq:IntKind}{x:AV}{v:Value}{n:Int}{d:De}
  (hv:VR fm ts x v) (hu:P.underlying tx=some (.int kn)) (e:Zep H.get kb ti x n=some d) {r:Result Next} (hr:∀ a w',(Builtin.append_ #[t,tx] ty #[v,.int kq n]).run P w=.ok a w'→r=.ok (.value a) w'):ZgV N0 W0 fm ts H w kb r d:=by
 unfold Zep at e
 split at e
 ·rename_i hc
  obtain⟨h0,⟨hr1,hr2⟩,hel0⟩:=hc
  obtain⟨m,rfl⟩:∃ m:Nat,n=m:=⟨n.toNat,by omega⟩
  simp only[Int.toNat_natCast]at e hr1 hr2
  refine Zfh hT ht h hH hk hv ?_ e hr
  intro new el inf z hnew hun hinf hsz hz
  simp only[ZbT,if_true,oE]at hnew
  subst hnew
  have hd:ti.d=.slice el:=by
   unfold ZbO at e
   split at e
   ·rename_i el' hd
    have:=(hT.slice ht hd).1
    rw[hun]at this;cases this;exact hd
   ·cases e
  obtain⟨_,⟨inf',hinf',_,hb,z',hz',hzv⟩,_⟩:=hT.slice ht hd
  rw[hinf]at hinf'
  obtain rfl:=oi hinf'
  rw[hz]at hz'
  obtain rfl:=oi hz'
  have helz:=(hT.ok ht).elz
  have hzs:z.cells.size=ti.el:=by have:=(hzv fm []).1;simp at this;omega
  have hmade:=Zfn z.cells m (by omega)
  have hzc:(Builtin.zeroCells z.cells m).toList=(List.replicate m z.cells.toList).flatten:=hmade
  have hzl:(Builtin.zeroCells z.cells m).size=m*ti.el:=by rw[size_zeroCells,hzs]
  have hnv:VRs fm [] (List.replicate m ti.elz).flatten (Builtin.zeroCells z.cells m).toList:=by rw[hzc];exact VRs.replicate (hzv fm []) m
  have hw:IntKind.i64.wrap (m:Int)=m:=by rw[IntKind.wrap_i64];omega
  have h48i:¬ (281474976710656<(m:Int)*(inf.bytes:Int)):=by rw[←Int.natCast_mul,hb];omega
  have hneg:¬ ((m:Int)<0):=by omega
  refine⟨(Builtin.zeroCells z.cells m).toList,Zbu helz m,hnv,Zcs (hT.ok ht).elflat m,?_,?_,?_,?_⟩
  ·intro hn base m' c hm
   have hm0:m=0:=by simpa using hn
   subst hm0
   have hw0:IntKind.i64.wrap 0=0:=by rw[IntKind.wrap_i64];omega
   cases base<;>simp[Builtin.append_,run_underlying hun,run_underlying hu,sizeOf,typeInfo,hinf,asInt,asIntOf,hw0,hm,storeCells]
  ·intro hl _ hn h63 h48
   simp only[List.length_replicate]at hl hn h63 h48 ⊢
   have:=Lib.run_append_nil_zeros (P:=P) w t tx ty el inf z kq kn hun hu hinf hz m hn (by omega) h63 h48
   simpa using this
  ·intro hl _ hn b sLen sCap olds ho1 ho2 hg h63 hfit
   simp only[List.length_replicate]at hl hn hg h63 hfit ⊢
   have hf:=run_firstCells_some (P:=P) w.drew inf.size sLen b sLen sCap olds ho1 (by simpa using ho2)
   have:=Lib.run_append_grow_zeros (P:=P) w t tx ty el inf z kq kn hun hu hinf hz (some b) sLen sCap olds hf m hn (by omega) hg h63 (by rw[hb];omega) hfit
   simpa using this
  ·intro hl _ hn g sLen sCap cur hg h1 hr3 hf
   simp only[List.length_replicate]at hn hr3 ⊢
   have hst:=run_storeCells_at P g (sLen*inf.size) el (Builtin.zeroCells z.cells m).toList 0 cur w hg (by simpa using hf) h1
   simp only[Nat.add_zero]at hst
   have hns:¬ (m*inf.size=0):=Nat.mul_ne_zero (by omega) (by omega)
   simp[Builtin.append_,run_underlying hun,run_underlying hu,sizeOf,typeInfo,zeroValue,hinf,hz,asInt,asIntOf,hw,hneg,h48i,hr3,hns,Addr.add_lit,hst]
 ·cases e
end
end Go.Abs
namespace Go.Abs
open Go Go.RowKit
theorem Zc8 {sz:Nat}{es:List (List AV)} (h:ZaE es sz) (n:Nat):ZaE (es.take n) sz:=fun c hc=>h c (List.mem_of_mem_take hc)
theorem Zdm {sz:Nat}{es:List (List AV)} (h:ZaE es sz) (n:Nat):ZaE (es.drop n) sz:=fun c hc=>h c (List.mem_of_mem_drop hc)
theorem Zhx {sz:Nat}{es new:List (List AV)} (i:Nat) (he:ZaE es sz) (hn:ZaE new sz):
  (es.take i++(new++es.drop (i+new.length))).flatten=Zap es.flatten (i*sz) new.flatten:=by
 simp only[List.flatten_append,Zap]
 rw[Zbs es i he,Zc7 es _ he,ZbP sz new hn,Nat.add_mul]
section
variable {P:Program}{T:Tys}{N0:Nat}{W0:World}{fm:FM}{ts:List Tie}{H:Zam}{w:World}{t:TypeId}{ti:TI}
theorem ZkU {a:Option Addr}{m cp sz:Nat}{us:List Value} (hul:us.length=m*sz) (hcell:∀ j u,us[j]?=some u→∃ ad,a=some ad∧w.cell? (ad.add j)=some u) (k:Nat) (hk:k≤m):
  (Builtin.firstCells sz k (.slice a m cp)).run P w=.ok (us.take (k*sz)).toArray w:=by
 have hmul:k*sz≤m*sz:=Nat.mul_le_mul_right _ hk
 cases a with
 |none=>
  have:us=[]:=by
   cases us with
   |nil=>rfl
   |cons u us=>obtain⟨_,h,_⟩:=hcell 0 u rfl;cases h
  subst this
  simp[Builtin.firstCells]
 |some ad=>
  refine run_firstCells_some (P:=P) w sz k ad m cp (us.take (k*sz)) (by rw[List.length_take];omega) ?_
  intro j v hv
  rw[List.getElem?_take]at hv
  split at hv
  ·obtain⟨ad',h1,h2⟩:=hcell j v hv
   cases h1;exact h2
  ·cases hv
theorem ZoR (hT:ZaL P T) (ht:T t=some ti) (h:HR N0 W0 fm ts H w) {kb:Nat}{ty:TypeId}{x y:AV}{v u:Value}{d:De}
  (hv:VR fm ts x v) (hu:VR fm ts y u) (e:Zie H.get ti x y=some d) {r:Result Next} (hr:∀ a w',(Builtin.copy_ #[t,t] ty #[v,u]).run P w=.ok a w'→r=.ok (.value a) w'):ZgV N0 W0 fm ts H w kb r d:=by
 unfold Zie at e
 split at e
 ·rename_i el hd
  obtain⟨hun,⟨inf,hinf,hsz,hb,z,hz,hzv⟩,_⟩:=hT.slice ht hd
  split at e
  ·rename_i src hsrc
   obtain⟨a,cp,us,rfl,ho,hvs,hfl,hcell⟩:=h.elems hu hsrc
   have hul:us.length=src.length*ti.el:=by rw[←hvs.1];exact ZbP _ _ ho
   have hrun0:∀ (base:Option Addr) (n cp':Nat),min src.length n=0→(Builtin.copy_ #[t,t] ty #[.slice base n cp',.slice a src.length cp]).run P w=.ok (goInt 0) w:=by
    intro base n cp' hm
    have hf:=ZkU (P:=P) (w:=w) (cp:=cp) hul hcell 0 (Nat.zero_le _)
    have hm':Nat.min src.length n=0:=hm
    cases base<;>simp[Builtin.copy_,run_underlying hun,Builtin.lenOf,sizeOf,typeInfo,hinf,hsz,hm',hf,storeCells]
   have hrun1:∀ (c o n cp':Nat) (cells:Array Value) (et:TypeId),w.heap[c]?=some (.cells cells et (0,0))→o+min src.length n*ti.el≤cells.size→
     (Builtin.copy_ #[t,t] ty #[.slice (some ⟨c,o,none⟩) n cp',.slice a src.length cp]).run P w=.ok (goInt (min src.length n:Nat)) (w.setRow c (cells.toList.take o++us.take (min src.length n*ti.el)++cells.toList.drop (o+(us.take (min src.length n*ti.el)).length)).toArray):=by
    intro c o n cp' cells et hc hle
    have hf:=ZkU (P:=P) (w:=w) (cp:=cp) hul hcell (min src.length n) (Nat.min_le_left _ _)
    have hmul:min src.length n*ti.el≤src.length*ti.el:=Nat.mul_le_mul_right _ (Nat.min_le_left _ _)
    have hst:=run_storeCells_at P c o et (us.take (min src.length n*ti.el)) 0 cells w hc (by rw[List.length_take];omega) (fun v hv=>hvs.oneCells hfl v (List.mem_of_mem_take hv))
    simp only[Nat.add_zero]at hst
    have hm':Nat.min src.length n=min src.length n:=rfl
    simp only[Builtin.copy_,Sem.run_bind,run_underlying hun,Result.andThen_ok,Builtin.lenOf,sizeOf,typeInfo,run_program,hinf,hsz,hm',Sem.run_pure,hf,hst,List.getElem?_toArray,List.getElem?_cons_zero,List.getElem?_cons_succ]
   split at e
   ·obtain rfl:=oi e
    cases hv
    exact .pure h (hr _ _ (hrun0 none 0 0 (by simp))) (.int _ _)
   ·rename_i l k esz i n g
    split at e
    ·rename_i et esz' es hg
     split at e
     ·rename_i hc
      obtain⟨rfl,rfl,hlg,hin⟩:=hc
      obtain rfl:=oi e
      have hb':=h.blk l k _ hg
      have hll:=Zam.get_lt H _ _ _ hg
      have same:min src.length n=0→es.take i++(src.take n++es.drop (i+min src.length n))=es:=by
       intro hm
       have:src.take n=[]:=by
        apply List.eq_nil_of_length_eq_zero;rw[List.length_take];omega
       rw[hm,this];simp
      have nothing:min src.length n=0→∀ (base:Option Addr) (cp':Nat),v=.slice base n cp'→ZgV N0 W0 fm ts H w kb r ⟨.int .i64 (min src.length n),[(l,k,some (.arr et ti.el (es.take i++(src.take n++es.drop (i+min src.length n)))))]⟩:=by
       rintro hm base cp' rfl
       rw[same hm]
       refine⟨fm,ts,w,_,.inl (hr _ _ (hrun0 base n cp' hm)),h.putSame hg,?_,FmUp.refl _ _,ZaA.refl _,fun _ _ _ h=>h⟩
       have e0:(min (src.length:Int) (n:Int))=0:=by omega
       rw[e0]
       exact .int _ _
      cases hv with
      |locGone _ _ _ _ _ _ a' cp' htk=>rw[htk]at hb';cases hb'
      |locOld _ _ _ _ _ _ a' cp' m' c htk hlt'=>rw[htk]at hb';have:=hb'.arr_inv.1;omega
      |locNil _ _ _ a1 htk=>exact nothing (by simp) a1 0 rfl
      |loc _ _ _ _ _ _ c cap cp' a' htk hin' hnc hcc ha=>
       rw[htk]at hb'
       obtain⟨hA,hN⟩:=hb'.arr_inv.2.2 c cap rfl
       obtain⟨cells,c1,c2,c3,c4,c5,c6,c7,c8⟩:=hA.flat
       by_cases hm:min src.length n=0
       ·exact nothing hm (some a') cp' rfl
       ·have ha':=ha (.inl (by omega))
        subst ha'
        have hmul:(i+min src.length n)*ti.el≤es.length*ti.el:=Nat.mul_le_mul_right _ (by omega)
        have hmul2:es.length*ti.el≤cells.size:=by rw[c2];exact Nat.mul_le_mul_right _ c3
        rw[Nat.add_mul]at hmul
        have hrun:=hrun1 c (i*ti.el) n cp' cells et c1 (by omega)
        have hstk:src.take n=src.take (min src.length n):=by
         rw[←List.take_length (l:=src),List.take_take,List.take_take,List.take_length];congr 1;omega
        have hsl:(src.take (min src.length n)).length=min src.length n:=by rw[List.length_take];omega
        have hnv:VRs fm [] (src.take (min src.length n)).flatten (us.take (min src.length n*ti.el)):=by rw[Zbs src _ ho];exact hvs.take _
        have hnf:∀ x∈(src.take (min src.length n)).flatten,x.flat=true:=by
         rw[Zbs src _ ho];exact fun x hx=>hfl x (List.mem_of_mem_take hx)
        have hutl:(us.take (min src.length n*ti.el)).length=min src.length n*ti.el:=by
         rw[List.length_take,hul];exact Nat.min_eq_left (Nat.mul_le_mul_right _ (Nat.min_le_left _ _))
        have hover:=Zhx i c5 (Zc8 ho (min src.length n))
        rw[hsl]at hover
        have hes':(es.take i++(src.take (min src.length n)++es.drop (i+min src.length n))).length=es.length:=by simp;omega
        rw[hstk]
        have hs:=h.setArr hg htk (es':=es.take i++(src.take (min src.length n)++es.drop (i+min src.length n)))
         (vs':=cells.toList.take (i*ti.el)++us.take (min src.length n*ti.el)++cells.toList.drop (i*ti.el+(us.take (min src.length n*ti.el)).length))
         (us:=(cells.toList.take (es.length*ti.el)).take (i*ti.el)++(us.take (min src.length n*ti.el)++(cells.toList.take (es.length*ti.el)).drop (i*ti.el+(us.take (min src.length n*ti.el)).length))) (rest:=cells.toList.drop (es.length*ti.el))
         (by rw[hes'];exact Nat.le_refl _) (by rw[hes'];exact c3) (ZaV (Zc8 c5 _) (ZaV (Zc8 ho _) (Zdm c5 _)))
         (by rw[List.length_append,List.length_append,hutl,List.length_take,List.length_drop,Array.length_toList];omega)
         (by rw[hover];exact Zbp c7 hnv (by rw[hnv.1,hutl,ZbP _ _ c5];omega))
         (by rw[hover];exact Zbi c8 hnf)
         (ZgO _ _ _ _ (by rw[hutl];omega) (by simpa using hmul2))
        rw[hes',hlg,Zdp htk]at hs
        refine⟨fm,ts,_,_,.inl (hr _ _ hrun),hs,?_,FmUp.refl _ _,ZaA.refl _,fun _ _ _ h=>h⟩
        have e0:(min (src.length:Int) (n:Int))=((min src.length n:Nat):Int):=by omega
        rw[e0]
        exact .int _ _
     ·cases e
    ·cases e
   ·rename_i l k esz o n
    split at e
    ·rename_i cs hg
     split at e
     ·rename_i hc
      obtain⟨rfl,hel,rfl,hon⟩:=hc
      obtain rfl:=oi e
      cases hv with
      |inn _ _ _ _ _ c cp' a' htk hnc ha=>
       obtain⟨cells,et,c1,c2,c3,c4⟩:=h.box_inv hg htk
       by_cases hm:min src.length n=0
       ·have:src.take n=[]:=by
         apply List.eq_nil_of_length_eq_zero;rw[List.length_take];omega
        have e1:Zap cs o (src.take n).flatten=cs:=by rw[this];simp[Zap]
        rw[e1]
        refine⟨fm,ts,w,_,.inl (hr _ _ (hrun0 (some a') n cp' hm)),h.putSame hg,?_,FmUp.refl _ _,ZaA.refl _,fun _ _ _ h=>h⟩
        have e0:(min (src.length:Int) (n:Int))=0:=by omega
        rw[e0]
        exact .int _ _
       ·have ha':=ha (by omega)
        subst ha'
        have hrun:=hrun1 c o n cp' cells et c1 (by rw[hel,Nat.mul_one];omega)
        have hstk:src.take n=src.take (min src.length n):=by
         rw[←List.take_length (l:=src),List.take_take,List.take_take,List.take_length];congr 1;omega
        have hutl:(us.take (min src.length n*ti.el)).length=min src.length n*ti.el:=by
         rw[List.length_take,hul];exact Nat.min_eq_left (Nat.mul_le_mul_right _ (Nat.min_le_left _ _))
        have hnv:VRs fm [] (src.take (min src.length n)).flatten (us.take (min src.length n*ti.el)):=by rw[Zbs src _ ho];exact hvs.take _
        have hnf:∀ x∈(src.take (min src.length n)).flatten,x.flat=true:=by
         rw[Zbs src _ ho];exact fun x hx=>hfl x (List.mem_of_mem_take hx)
        rw[hstk]
        have hs:=h.setBox hg htk (cs':=Zap cs o (src.take (min src.length n)).flatten) (Zbp c3 (hnv.mono (Zdq.refl _) (ZaA.nil _)) (by rw[hnv.1,hutl,hel];omega)) (Zbi c4 hnf)
        rw[←List.append_assoc]at hs
        refine⟨fm,ts,_,_,.inl (hr _ _ hrun),hs,?_,FmUp.refl _ _,ZaA.refl _,fun _ _ _ h=>h⟩
        have e0:(min (src.length:Int) (n:Int))=((min src.length n:Nat):Int):=by omega
        rw[e0]
        exact .int _ _
     ·cases e
    ·cases e
   ·cases e
  ·cases e
 ·cases e
theorem Zni (hT:ZaL P T) (ht:T t=some ti) (h:HR N0 W0 fm ts H w) {kb:Nat}{ty:TypeId}{l:List TypeId}{x:AV}{v:Value}{d:De}
  (hv:VR fm ts x v) (e:Zgc H.get ti x=some d) {r:Result Next} (hr:∀ a w',(Builtin.clear_ (t::l).toArray ty #[v]).run P w=.ok a w'→r=.ok (.value a) w'):ZgV N0 W0 fm ts H w kb r d:=by
 have unit:∀ fm ts,VR fm ts (.tup []) (.tuple #[]):=fun fm ts=>.tup [] #[] rfl (fun i x v h=>by simp at h)
 unfold Zgc at e
 split at e
 ·rename_i el hd
  obtain⟨hun,⟨inf,hinf,hsz,hb,z,hz,hzv⟩,_⟩:=hT.slice ht hd
  have helz:=(hT.ok ht).elz
  have hzs:z.cells.size=ti.el:=by have:=(hzv fm []).1;simp at this;omega
  split at e
  ·obtain rfl:=oi e
   cases hv
   exact .pure h (hr (.tuple #[]) w (by simp[Builtin.clear_,run_underlying hun])) (unit _ _)
  ·rename_i lv k esz i n g
   split at e
   ·rename_i et esz' es hg
    split at e
    ·rename_i hc
     obtain⟨rfl,rfl,hlg,hin⟩:=hc
     obtain rfl:=oi e
     have hb':=h.blk lv k _ hg
     have nothing:n=0→∀ (base:Option Addr) (cp':Nat),v=.slice base 0 cp'→ZgV N0 W0 fm ts H w kb r ⟨.tup [],[(lv,k,some (.arr et ti.el (es.take i++(List.replicate n ti.elz++es.drop (i+n)))))]⟩:=by
      rintro rfl base cp' rfl
      have e1:es.take i++(List.replicate 0 ti.elz++es.drop (i+0))=es:=by simp
      rw[e1]
      exact⟨fm,ts,w,_,.inl (hr (.tuple #[]) w (by cases base<;>simp[Builtin.clear_,run_underlying hun])),h.putSame hg,unit _ _,FmUp.refl _ _,ZaA.refl _,fun _ _ _ h=>h⟩
     cases hv with
     |locGone _ _ _ _ _ _ a' cp' htk=>rw[htk]at hb';cases hb'
     |locOld _ _ _ _ _ _ a' cp' m' c htk hlt'=>rw[htk]at hb';have:=hb'.arr_inv.1;omega
     |locNil _ _ _ a1 htk=>exact nothing rfl a1 0 rfl
     |loc _ _ _ _ _ _ c cap cp' a' htk hin' hnc hcc ha=>
      rw[htk]at hb'
      obtain⟨hA,hN⟩:=hb'.arr_inv.2.2 c cap rfl
      obtain⟨cells,c1,c2,c3,c4,c5,c6,c7,c8⟩:=hA.flat
      by_cases hm:n=0
      ·exact nothing hm (some a') cp' (by rw[hm])
      ·have ha':=ha (.inl (by omega))
       subst ha'
       have hmade:=Zfn z.cells n (by omega)
       have hzc:(Builtin.zeroCells z.cells n).toList=(List.replicate n z.cells.toList).flatten:=hmade
       have hzl:(Builtin.zeroCells z.cells n).toList.length=n*ti.el:=by rw[Array.length_toList,size_zeroCells,hzs]
       have hnv:VRs fm [] (List.replicate n ti.elz).flatten (Builtin.zeroCells z.cells n).toList:=by rw[hzc];exact VRs.replicate (hzv fm []) n
       have hnf:=Zcs (hT.ok ht).elflat n
       have hmul:(i+n)*ti.el≤es.length*ti.el:=Nat.mul_le_mul_right _ (by omega)
       have hmul2:es.length*ti.el≤cells.size:=by rw[c2];exact Nat.mul_le_mul_right _ c3
       rw[Nat.add_mul]at hmul
       have hst:=run_storeCells_at P c (i*ti.el) et (Builtin.zeroCells z.cells n).toList 0 cells w c1 (by rw[hzl];omega) (hnv.oneCells hnf)
       simp only[Nat.add_zero]at hst
       obtain⟨n',rfl⟩:∃ n',n=n'+1:=⟨n - 1,by omega⟩
       have hrun:(Builtin.clear_ (t::l).toArray ty #[.slice (some ⟨c,i*ti.el,none⟩) (n'+1) cp']).run P w=.ok (.tuple #[]) (w.setRow c (cells.toList.take (i*ti.el)++(Builtin.zeroCells z.cells (n'+1)).toList++cells.toList.drop (i*ti.el+(Builtin.zeroCells z.cells (n'+1)).toList.length)).toArray):=by
        simp only[Builtin.clear_,Sem.run_bind,run_underlying hun,Result.andThen_ok,zeroValue,typeInfo,run_program,hinf,hz,Sem.run_pure,hst,List.getElem?_toArray,List.getElem?_cons_zero]
       have hover:=Zhx i c5 (Zbu helz (n'+1))
       simp only[List.length_replicate]at hover
       have hes':(es.take i++(List.replicate (n'+1) ti.elz++es.drop (i+(n'+1)))).length=es.length:=by simp;omega
       have hs:=h.setArr hg htk (es':=es.take i++(List.replicate (n'+1) ti.elz++es.drop (i+(n'+1))))
         (vs':=cells.toList.take (i*ti.el)++(Builtin.zeroCells z.cells (n'+1)).toList++cells.toList.drop (i*ti.el+(Builtin.zeroCells z.cells (n'+1)).toList.length))
         (us:=(cells.toList.take (es.length*ti.el)).take (i*ti.el)++((Builtin.zeroCells z.cells (n'+1)).toList++(cells.toList.take (es.length*ti.el)).drop (i*ti.el+(Builtin.zeroCells z.cells (n'+1)).toList.length))) (rest:=cells.toList.drop (es.length*ti.el))
         (by rw[hes'];exact Nat.le_refl _) (by rw[hes'];exact c3) (ZaV (Zc8 c5 _) (ZaV (Zbu helz _) (Zdm c5 _)))
         (by rw[List.length_append,List.length_append,hzl,List.length_take,List.length_drop,Array.length_toList];omega)
         (by rw[hover];exact Zbp c7 hnv (by rw[hnv.1,hzl,ZbP _ _ c5];omega))
         (by rw[hover];exact Zbi c8 hnf)
         (ZgO _ _ _ _ (by rw[hzl];omega) (by simpa using hmul2))
       rw[hes',hlg,Zdp htk]at hs
       exact⟨fm,ts,_,_,.inl (hr _ _ hrun),hs,unit _ _,FmUp.refl _ _,ZaA.refl _,fun _ _ _ h=>h⟩
    ·cases e
   ·cases e
  ·cases e
 ·cases e
end
end Go.Abs
namespace Go.Abs
open Go Go.RowKit
section
variable {P:Program}{T:Tys}{N0:Nat}{W0:World}{fm:FM}{ts:List Tie}{H:Zam}{w:World}{t:TypeId}{ti:TI}
theorem ZaL.notIface (hT:ZaL P T) (h:T t=some ti) (hd:ti.d≠.iface):∃ d,P.underlying t=some d∧∀ m,d≠.interface m:=by
 have:=hT t ti h
 unfold Zia at this
 simp only[Bool.and_eq_true]at this
 have h7:=this.2
 split at h7<;>rename_i h1 h2<;>first|(exact absurd h1 hd)|(exact⟨_,h2,by intro m;simp⟩)|(cases h7)
theorem Zhh {tm:Tm}{a:Act} (h:TmR fm ts tm a):∀ (l:List (Nat×Operand)) (ys:List (Nat×AV)),ZcI tm l=some ys→PRs fm ts ys (l.map fun x=>(x.1,a.eval x.2))
 |[],ys,e=>by simp only[ZcI,oE]at e;subst e;trivial
 |(i,x)::l,ys,e=>by
  simp only[ZcI]at e
  split at e
  ·rename_i p q hp hq
   obtain rfl:=oi e
   exact⟨rfl,Zct h hp,Zhh h l q hq⟩
  ·cases e
theorem ZgV.of_bare {kb:Nat}{r:Result Next}{q:Option AV}{d:De} (h:HR N0 W0 fm ts H w) (e:Zb1 q=some d) (hr:∀ x,q=some x→∃ v,r=.ok (.value v) w∧VR fm ts x v):ZgV N0 W0 fm ts H w kb r d:=by
 obtain⟨x,hx,rfl⟩:=Zkg e
 obtain⟨v,h1,h2⟩:=hr x hx
 exact .pure h h1 h2
theorem Zkb {x y:AV}{v:Value}{o:Oper}{a:Act}{z:Operand} (ho:o.op=.nilCheck z) (hz:a.eval z=v) (hv:VR fm ts x v) (e:Zgz x=some y):
  ∃ u,(execOp a.eval o).run P w=.ok (.value u) w∧VR fm ts y u:=by
 unfold Zgz at e
 split at e
 ·obtain rfl:=oi e
  refine⟨v,?_,hv⟩
  cases hv;simp[execOp,ho,hz]
 ·obtain rfl:=oi e
  refine⟨v,?_,hv⟩
  cases hv<;>simp[execOp,ho,hz]
 ·obtain rfl:=oi e
  refine⟨v,?_,hv⟩
  cases hv;simp[execOp,ho,hz]
 ·split at e
  ·obtain rfl:=oi e
   refine⟨v,?_,hv⟩
   cases hv;simp[execOp,ho,hz]
  ·cases e
 ·cases e
theorem HR.up0 {fm':FM}{w':World} (h:HR N0 W0 fm ts H w) (hb:Below w.heap.size w w') (hup:FmUp w.heap.size fm fm') (hin:∀ b o v,fm' b o=some v→w'.cell? ⟨b,o,none⟩=some v):HR N0 W0 fm' ts H w':=by
 have h1:=h.world (w':=w') (fun i hi=>hb.block i hi) (hb.mono h.size)
 refine⟨h1.len,fun l k b hg=>(h1.blk l k b hg).mono hup.le (ZaA.refl _) (fun _ _=>rfl),h1.inj,hin,?_,h1.bel,h1.size,h1.oth⟩
 intro l k b c o hg ht
 rw[hup.fix c o ((h.blk l k b hg).lt ht).1]
 exact h.fmd l k b c o hg ht
theorem Zo9 (hT:ZaL P T) {src dst:TypeId}{si di:TI} (hs:T src=some si) (hd:T dst=some di) (h:HR N0 W0 fm ts H w) {x:AV}{v:Value} (hv:VR fm ts x v) {kb:Nat}{d:De} (e:Zb1 (ZiO T si di x)=some d)
  {r:Result Next} (hr:∀ a w',(convert src dst v).run P w=.ok a w'→r=.ok (.value a) w'):ZgV N0 W0 fm ts H w kb r d:=by
 unfold Zb1 at e
 rw[mS]at e
 obtain⟨y,e,rfl⟩:=e
 unfold ZiO at e
 split at e
 ·rename_i el hde
  split at e
  ·rename_i s hsd
   split at e
   ·rename_i te hte
    split at e
    ·rename_i hu8
     split at e
     ·rename_i hsz
      obtain rfl:=oi e
      cases hv
      have hrun:=run_bytes_of_string (P:=P) w src dst el s (hT.str hs hsd) (hT.slice hd hde).1 (hT.int hte hu8)
      have hge:=grownCap_ge w s.size 0 el
      have hle:=grownCap_le_maxLen w s.size 0 el (by simp[maxLen];omega)
      generalize hcp:grownCap w s.size 0 el=cp at hrun hge hle
      generalize hw':w.drew.alloc (.cells (bytesRow s cp) el ((bytesRow s cp).size,(bytesRow s cp).size+1))=w' at hrun
      have hnew:w'.heap[w.heap.size]?=some (.cells (bytesRow s cp) el ((bytesRow s cp).size,(bytesRow s cp).size+1)):=by
       rw[←hw'];show (w.heap.push _)[w.heap.size]?=_;simp
      have hbel:Below w.heap.size w w':=by
       rw[←hw'];exact((Below.refl _ w).drew).alloc (Nat.le_refl _) _
      have hcell:∀ o,w'.cell? ⟨w.heap.size,o,none⟩=(bytesRow s cp)[o]?:=by
       intro o;simp[World.cell?,hnew]
      have hup:FmUp w.heap.size fm (fun b o=>if b=w.heap.size then w'.cell? ⟨b,o,none⟩ else fm b o):=by
       refine⟨?_,?_⟩
       ·intro b o u hu
        have hlt:=World.block_lt_of_cell? w _ (h.fms b o u hu)
        simp only at hlt
        show (if b=w.heap.size then _ else _)=_
        rw[if_neg (by omega)];exact hu
       ·intro b o hb
        show (if b=w.heap.size then _ else _)=_
        rw[if_neg (by omega)]
      have hin:∀ b o u,(fun b o=>if b=w.heap.size then w'.cell? ⟨b,o,none⟩ else fm b o) b o=some u→w'.cell? ⟨b,o,none⟩=some u:=by
       intro b o u hu
       simp only at hu
       split at hu
       ·exact hu
       ·have h1:=h.fms b o u hu
        have hlt:=World.block_lt_of_cell? w _ h1
        rw[←h1]
        exact World.cell?_of_block (w:=w) (w':=w') (a:=⟨b,o,none⟩) (hbel.block b hlt)
      refine⟨_,ts,w',_,.inl (hr _ _ hrun),h.up0 hbel hup hin,?_,⟨hup.le,fun b o hb=>hup.fix b o (Nat.lt_of_lt_of_le hb h.size)⟩,ZaA.refl _,fun _ _ _ h=>h⟩
      have ZbS:(Zgp s).length=s.size:=Zez s
      rw[←ZbS]
      refine .sl (Zgp s) w.heap.size 0 1 cp (fun i _=>.int .u8 ((s.data.toList.getD i 0).toNat:Int)) ⟨by rw[ZbS];exact hge,by rw[ZbS];simp[maxLen];omega⟩ ?_ ?_ ?_ ?_
      ·intro c hc
       obtain⟨_,_,rfl⟩:=List.mem_map.1 hc
       rfl
      all_goals
       intro i c o x hi hx
       unfold Zgp at hi
       rw[List.getElem?_map,mS]at hi
       obtain⟨b,hb,rfl⟩:=hi
       obtain rfl:o=0:=by
        have:=(gS.1 hx).1
        simp at this;omega
       simp at hx
       subst hx
      ·rw[if_pos rfl,hcell,show 0+(i*1+0)=i by omega]
       unfold bytesRow
       have hb':s.data[i]?=some b:=by rw[←Array.getElem?_toList];exact hb
       obtain⟨hlt,_⟩:=Array.getElem?_eq_some_iff.1 hb'
       rw[Array.getElem?_append_left (by rw[Array.size_map];exact hlt),Array.getElem?_map,hb']
       simp[hb,List.getD_eq_getElem?_getD]
      ·rfl
      ·have:s.data.toList.getD i 0=b:=by simp[List.getD_eq_getElem?_getD,hb]
       simp only[this]
       exact .int _ _
     ·cases e
    ·cases e
   ·cases e
  ·cases e
 ·cases e
theorem Zlt (hT:ZaL P T) (h:HR N0 W0 fm ts H w) (hH:0<H.length) {kb:Nat} (hk:∀ k,kb≤k→k<kb+16→tb ts 0 k=none) {b:Builtin}{tys:Array TypeId}{ty:TypeId}{cs:Array Bool}{xs:List AV}{vs:List Value}{d:De}
  (hv:VRs fm ts xs vs) (e:ZcC T H.get kb b tys.toList xs=some d):ZgV N0 W0 fm ts H w kb ((builtin b tys ty cs vs.toArray).run P w) d:=by
 have one:∀ {x:AV},xs=[x]→∃ v,vs=[v]∧VR fm ts x v:=by
  rintro x rfl
  have:=hv.1
  cases vs with
  |nil=>simp at this
  |cons v vs=>cases vs with
   |nil=>exact⟨v,rfl,hv.2 0 x v rfl rfl⟩
   |cons=>simp at this
 have two:∀ {x y:AV},xs=[x,y]→∃ v u,vs=[v,u]∧VR fm ts x v∧VR fm ts y u:=by
  rintro x y rfl
  have:=hv.1
  cases vs with
  |nil=>simp at this
  |cons v vs=>cases vs with
   |nil=>simp at this
   |cons u vs=>cases vs with
    |nil=>exact⟨v,u,rfl,hv.2 0 x v rfl rfl,hv.2 1 y u rfl rfl⟩
    |cons=>simp at this
 obtain⟨tl⟩:=tys
 unfold ZcC at e
 split at e
 ·cases e
 ·rename_i t l htl
  simp only at htl
  subst htl
  split at e
  ·cases e
  ·rename_i ti ht
   split at e
   ·split at e
    ·rename_i x
     obtain⟨v,rfl,hvx⟩:=one rfl
     refine .of_bare h e fun y hy=>?_
     obtain⟨u,h1,h2⟩:=Zs8 (P:=P) (w:=w) (l:=l) (ty:=ty) hT ht hvx hy
     exact⟨u,by simp only[builtin];exact Zb9 h1,h2⟩
    ·cases e
   ·split at e
    ·rename_i s x
     split at e
     ·rename_i hl
      subst hl
      obtain⟨v,u,rfl,hvx,hux⟩:=two rfl
      exact Zl1 (ty:=ty) hT ht h hH hk hvx hux e (fun a w' hr=>by simp only[builtin];exact Zb9 hr)
     ·obtain⟨v,u,rfl,hvx,hux⟩:=two rfl
      unfold Zfg at e
      split at e
      ·rename_i t2 b
       split at e
       ·rename_i ti2 ht2
        split at e
        ·rename_i hd2
         split at e
         ·rename_i h1
          cases hux
          exact Zku (ty:=ty) hT ht h hH hk hvx (hT.str ht2 hd2) h1 e (fun a w' hr=>by simp only[builtin];exact Zb9 hr)
         ·cases e
        ·cases e
       ·cases e
      ·rename_i t2 kq n
       split at e
       ·rename_i ti2 ht2
        split at e
        ·rename_i kn hd2
         cases hux
         exact Zkv (ty:=ty) hT ht h hH hk hvx (hT.int ht2 hd2) e (fun a w' hr=>by simp only[builtin];exact Zb9 hr)
        ·cases e
       ·cases e
      ·cases e
    ·cases e
   ·split at e
    ·rename_i s x
     split at e
     ·rename_i hl
      subst hl
      obtain⟨v,u,rfl,hvx,hux⟩:=two rfl
      exact ZoR (ty:=ty) hT ht h hvx hux e (fun a w' hr=>by simp only[builtin];exact Zb9 hr)
     ·cases e
    ·cases e
   ·split at e
    ·rename_i x
     obtain⟨v,rfl,hvx⟩:=one rfl
     exact Zni (ty:=ty) (l:=l) hT ht h hvx e (fun a w' hr=>by simp only[builtin];exact Zb9 hr)
    ·cases e
   ·refine .of_bare h e fun y hy=>?_
    obtain⟨u,h1,h2⟩:=ZiP (P:=P) (w:=w) (l:=⟨t::l⟩) (ty:=ty) hv hy
    simp only[if_true]at h1
    exact⟨u,by simp only[builtin];exact Zb9 h1,h2⟩
   ·refine .of_bare h e fun y hy=>?_
    obtain⟨u,h1,h2⟩:=ZiP (P:=P) (w:=w) (l:=⟨t::l⟩) (ty:=ty) hv hy
    simp only[Bool.false_eq_true,if_false]at h1
    exact⟨u,by simp only[builtin];exact Zb9 h1,h2⟩
   ·cases e
theorem Zif (hT:ZaL P T) (ht:T t=some ti) (h:HR N0 W0 fm ts H w) {kb:Nat}{x':AV}{v0 v1 v2:Value}{vlo:Option Value}{zl zh zm:Int}{kh km:IntKind}{d:De}
  (hvx:VR fm ts x' v0) (hlo:(vlo=none∧zl=0)∨∃ kl v,vlo=some v∧VR fm ts (.int kl zl) v) (hvh:VR fm ts (.int kh zh) v1) (hvm:VR fm ts (.int km zm) v2) (e:Zg5 ti x' zl zh zm=some d) {r:Result Next}
  (hr:∀ v w',(Instr.sliceAt t v0 vlo (some v1) (some v2)).run P w=.ok v w'→r=.ok (.value v) w'):ZgV N0 W0 fm ts H w kb r d:=by
 unfold Zg5 at e
 split at e
 ·rename_i el hd
  obtain⟨hun,⟨inf,hinf,hinfz,_,_⟩,_⟩:=hT.slice ht hd
  obtain⟨nn,hcond,hs3⟩:∃ nn:Nat,((0≤zl∧zl≤zh)∧zh≤zm∧zm≤nn)∧∃ aa cc,v0=.slice aa nn cc∧nn≤cc∧∃ y,d=⟨y,[]⟩∧VR fm ts y (.slice (if zm.toNat=zl.toNat then aa else aa.map (·.add (zl.toNat*inf.size))) (zh.toNat - zl.toNat) (zm.toNat - zl.toNat)):=by
   split at e
   ·rename_i esz es
    split at e
    ·rename_i hc
     obtain rfl:=oi e
     skip
     cases hvx with
     |slNil e0 p cap=>
      refine⟨0,by simpa using hc,_,_,rfl,Nat.zero_le _,_,rfl,?_⟩
      simp only[List.length_nil]at hc
      have z1:zm.toNat=0:=by omega
      have z2:zl.toNat=0:=by omega
      have z3:zh.toNat=0:=by omega
      simp only[z1,z2,z3,if_true,Nat.sub_self,List.drop_nil,List.take_nil]
      split
      ·exact .slNil _ _ _
      ·exact .dead _
     |sl es cb off esz cap u hcap g1 g2 g3 g4=>
      refine⟨_,hc,_,_,rfl,hcap.1,_,rfl,?_⟩
      split
      ·rename_i he
       by_cases hhl:zh.toNat - zl.toNat=0
       ·simp only[hhl,List.take_zero]
        exact .slNil _ _ _
       ·have hcl:¬ zm.toNat=zl.toNat:=by omega
        simp only[if_neg hcl,Option.map_some,Addr.add_lit]
        have ZbS:((es.drop zl.toNat).take (zh.toNat - zl.toNat)).length=zh.toNat - zl.toNat:=by simp;omega
        have ZgT:∀ (i:Nat) c,((es.drop zl.toNat).take (zh.toNat - zl.toNat))[i]?=some c→es[zl.toNat+i]?=some c:=by
         intro i c hc
         rw[List.getElem?_take]at hc
         split at hc
         ·rw[List.getElem?_drop]at hc;exact hc
         ·cases hc
        have:=VR.sl (fm:=fm) (ts:=ts) ((es.drop zl.toNat).take (zh.toNat - zl.toNat)) cb (off+zl.toNat*esz) esz (zm.toNat - zl.toNat) (fun i o=>u (zl.toNat+i) o) (by rw[ZbS];have:=hcap.2;exact⟨by omega,by omega⟩)
         (fun c hc=>g1 c (List.mem_of_mem_drop (List.mem_of_mem_take hc)))
         (by
          intro i c o x hc ho
          have:=g2 (zl.toNat+i) c o x (ZgT i c hc) ho
          rw[←this];congr 1;rw[Nat.add_mul];omega)
         (fun i c o x hc ho=>g3 (zl.toNat+i) c o x (ZgT i c hc) ho)
         (fun i c o x hc ho=>g4 (zl.toNat+i) c o x (ZgT i c hc) ho)
        rw[ZbS]at this
        have hinfs:inf.size=esz:=by rw[he];exact hinfz
        rw[hinfs]
        exact this
      ·exact .dead _
    ·cases e
   ·split at e
    ·rename_i hc
     obtain rfl:=oi e
     skip
     cases hvx with
     |locGone _ _ _ _ _ _ _ _ _ hn=>exact⟨_,hc,_,_,rfl,hn,_,rfl,.dead _⟩
     |locOld _ _ _ _ _ _ _ _ _ _ _ _ hn=>exact⟨_,hc,_,_,rfl,hn,_,rfl,.dead _⟩
     |locNil=>exact⟨0,by simpa using hc,_,_,rfl,Nat.zero_le _,_,rfl,.dead _⟩
     |loc _ _ _ _ _ _ _ _ _ _ _ _ hnc=>exact⟨_,hc,_,_,rfl,hnc,_,rfl,.dead _⟩
    ·cases e
   ·cases e
  obtain⟨aa,cc,rfl,hle,yy,rfl,hyy⟩:=hs3
  obtain⟨⟨c1,c2⟩,c3,c4⟩:=hcond
  cases hvh
  cases hvm
  have h0:0≤zm:=by omega
  have h1:0≤zh:=by omega
  have h2:zm≤cc:=by omega
  have e1:zh≤((zm.toNat:Nat):Int):=by omega
  have e2:zl≤((zh.toNat:Nat):Int):=by omega
  have hsb:(Instr.sliceBounds true nn cc vlo (some (.int kh zh)) (some (.int km zm))).run P w=.ok (zl.toNat,zh.toNat,zm.toNat) w:=by
   rcases hlo with ⟨rfl,rfl⟩|⟨kl,vl,rfl,hvl⟩
   ·simp only[Instr.sliceBounds,Instr.sliceBound,asIntOf,Sem.run_bind,Sem.run_pure,Result.andThen_ok,h0,h2,and_self,if_true,h1,e1]
    rfl
   ·cases hvl
    simp only[Instr.sliceBounds,Instr.sliceBound,asIntOf,Sem.run_bind,Sem.run_pure,Result.andThen_ok,h0,h2,and_self,if_true,h1,e1,c1,e2,if_true,Option.isSome]
  have hrun:(Instr.sliceAt t (.slice aa nn cc) vlo (some (.int kh zh)) (some (.int km zm))).run P w=.ok (.slice (if zm.toNat=zl.toNat then aa else aa.map (·.add (zl.toNat*inf.size))) (zh.toNat - zl.toNat) (zm.toNat - zl.toNat)) w:=by
   simp[Instr.sliceAt,run_underlying hun,Instr.slice,hsb,sizeOf,typeInfo,hinf]
  exact ZgV.pure h (hr _ _ hrun) hyy
 ·cases e
theorem ZiX (hT:ZaL P T) (h:HR N0 W0 fm ts H w) (hH:0<H.length) {kb:Nat} (hk:∀ k,kb≤k→k<kb+16→tb ts 0 k=none) {tm:Tm}{a:Act} (htm:TmR fm ts tm a) {o:Oper}{d:De}
  (e:ZcN T kb o.op o.type tm H.get=some d):ZgV N0 W0 fm ts H w kb ((execOp a.eval o).run P w) d:=by
 have ev:∀ {x:Operand}{y:AV},opv tm x=some y→VR fm ts y (a.eval x):=fun hx=>Zct htm hx
 unfold ZcN at e
 split at e
 ·rename_i x ho
  refine .of_bare h e fun y hy=>⟨_,?_,ev hy⟩
  simp[execOp,ho]
 ·rename_i x ho
  split at e
  ·rename_i hx
   split at e
   ·rename_i ti ht
    split at e
    ·rename_i el hd
     obtain rfl:=oi e
     have hvx:=ev hx
     have hv:a.eval x=.slice none 0 0:=by
      generalize a.eval x=v at hvx
      cases hvx;rfl
     refine Zhq h hH hk el ti.el ?_
     simp only[execOp,ho,Sem.run_pure,hv]
    ·cases e
   ·cases e
  ·refine .of_bare h e fun y hy=>⟨_,?_,ev hy⟩
   simp[execOp,ho]
 ·
  rename_i c x y ho
  split at e
  ·rename_i b hb
   have hc:=ev hb
   have hcv:a.eval c=.bool b:=by
    generalize a.eval c=v at hc
    cases hc;rfl
   refine .of_bare h e fun z hz=>?_
   cases b with
   |true=>exact⟨a.eval x,by simp[execOp,ho,hcv,asBool],ev hz⟩
   |false=>exact⟨a.eval y,by simp[execOp,ho,hcv,asBool],ev hz⟩
  ·cases e
 ·
  rename_i el ho
  split at e
  ·rename_i ti ht
   obtain⟨i,hi,hsz,_,z,hz,hzv⟩:=(hT.ok ht).info
   refine ZkG (v:=z) hT ht h hH hk el (hzv fm ts) (hT.ok ht).zflat e ?_
   simp[execOp,ho,Instr.alloc,zeroValue,typeInfo,hi,hz,newVar,newRow]
  ·cases e
 ·
  rename_i el x ho
  split at e
  ·rename_i ti x' ht hx
   split at e
   ·rename_i cs hcs
    obtain⟨h1,h2⟩:=(ev hx).parts hcs
    refine ZkG (v:=a.eval x) hT ht h hH hk el h1 h2 e ?_
    simp[execOp,ho,Instr.box,newVar,newRow]
   ·cases e
  ·cases e
 ·
  rename_i t ps ho
  split at e
  ·rename_i ti ps' ht hps
   refine .of_bare h e fun y hy=>?_
   have hp:=Zhh htm _ _ hps
   obtain⟨u,h1,h2⟩:=Zo8 (P:=P) (w:=w) (ps:=ps.map fun(i,x)=>(i,a.eval x)) hT ht (by simpa using hp) hy
   exact⟨u,by simp only[execOp,ho];exact Zb9 h1,h2⟩
  ·cases e
 ·
  rename_i t len ps ho
  split at e
  ·rename_i ti ps' ht hps
   have hp:=Zhh htm _ _ hps
   exact Zid (ps:=ps.map fun(i,x)=>(i,a.eval x)) hT ht h hH hk (by simpa using hp) e (fun v w' hr=>by simp only[execOp,ho];exact Zb9 hr)
  ·cases e
 ·
  rename_i t x ho
  split at e
  ·rename_i ti x' ht hx
   refine .of_bare h e fun y hy=>?_
   obtain⟨u,h1,h2⟩:=Zkx (P:=P) hT ht h (ev hx) hy
   exact⟨u,by simp only[execOp,ho];exact Zb9 h1,h2⟩
  ·cases e
 ·
  rename_i t x y ho
  split at e
  ·rename_i ti x' y' ht hx hy
   split at e
   ·rename_i cs hcs
    obtain⟨h1,h2⟩:=(ev hy).parts hcs
    exact Znj hT ht h hH hk (ev hx) h1 h2 e (fun w' hr=>by simp only[execOp,ho];exact Zuo hr)
   ·cases e
  ·cases e
 ·
  rename_i x ho
  split at e
  ·rename_i x' hx
   exact .of_bare h e fun y hy=>Zkb ho rfl (ev hx) hy
  ·cases e
 ·
  rename_i op t x y _ ho
  split at e
  ·rename_i ti x' y' ht hx hy
   refine .of_bare h e fun z hz=>?_
   obtain⟨u,h1,h2⟩:=Zqw (P:=P) (w:=w) (ox:=x) (oy:=y) hT ht (ev hx) (ev hy) hz
   exact⟨u,by simp only[execOp,ho];exact Zb9 h1,h2⟩
  ·cases e
 ·
  rename_i op _ x ho
  split at e
  ·rename_i x' hx
   refine .of_bare h e fun z hz=>?_
   obtain⟨u,h1,h2⟩:=Zue (P:=P) (w:=w) (ev hx) hz
   exact⟨u,by simp only[execOp,ho];exact Zb9 h1,h2⟩
  ·cases e
 ·
  rename_i src dst x ho
  split at e
  ·rename_i si di x' hs hd hx
   cases hz:Zgy T H.get si di x' with
   |some z=>
    rw[hz,ZfB]at e
    refine .of_bare h e fun z' hz'=>?_
    obtain rfl:=oi hz'
    obtain⟨u,h1,h2⟩:=Zqx (P:=P) hT hs hd h (ev hx) hz
    exact⟨u,by simp only[execOp,ho];exact Zb9 h1,h2⟩
   |none=>
    rw[hz,ZeF]at e
    exact Zo9 hT hs hd h (ev hx) e (fun a w' hr=>by simp only[execOp,ho];exact Zb9 hr)
  ·cases e
 ·
  rename_i f x y ho
  split at e
  ·rename_i x' y' hx hy
   obtain rfl:=oi e
   have h1:=Zcj htm _ _ hx
   have h2:=Zcj htm _ _ hy
   refine .pure h (v:=.func f (x.map a.eval) (y.map a.eval)) ?_ ?_
   ·simp[execOp,ho,Instr.makeFunc]
   ·exact .fn f x' y' _ _ (by simpa using h1.1) (by simpa using h2.1) (fun i z v p q=>h1.2 i z v p (by simpa using q)) (fun i z v p q=>h2.2 i z v p (by simpa using q))
  ·cases e
 ·
  rename_i t l c ho
  split at e
  ·rename_i ti l' c' ht hl hc
   exact ZiJ (P:=P) hT ht h hH hk (ev hl) (ev hc) e (fun v w' hr=>by simp only[execOp,ho];exact Zb9 hr)
  ·cases e
 ·
  rename_i t x lo hi mx ho
  split at e
  ·rename_i mxv
   split at e
   ·split at e
    ·rename_i ti x' kh zh km zm ht hx hh hm
     split at e
     ·split at e
      ·rename_i hz
       obtain⟨rfl,rfl⟩:=hz
       exact ZiK (P:=P) hT ht h hH hk (ev hx) (ev hh) (ev hm) e (fun v w' hr=>by simp only[execOp,ho,Option.map_none,Option.map_some];exact Zb9 hr) rfl
      ·cases e
     ·exact Zif (P:=P) hT ht h (ev hx) (vlo:=none) (.inl ⟨rfl,rfl⟩) (ev hh) (ev hm) e (fun v w' hr=>by simp only[execOp,ho,Option.map_none,Option.map_some];exact Zb9 hr)
    ·cases e
   ·rename_i lov hiv
    split at e
    ·rename_i ti x' kl zl kh zh ht hx hl hh
     split at e
     ·rename_i km zm hm
      exact Zif (P:=P) hT ht h (ev hx) (vlo:=some (a.eval lov)) (.inr ⟨kl,_,rfl,ev hl⟩) (ev hh) (ev hm) e (fun v w' hr=>by simp only[execOp,ho,Option.map_some];exact Zb9 hr)
     ·cases e
    ·cases e
   ·cases e
  ·split at e
   ·rename_i ti x' ht hx
    have fin:∀ (lo' hi':Option AV),(∀ z,lo'=some z→∃ v,lo.map a.eval=some v∧VR fm ts z v)→(lo'=none→lo.map a.eval=none)→(∀ z,hi'=some z→∃ v,hi.map a.eval=some v∧VR fm ts z v)→(hi'=none→hi.map a.eval=none)→
      Zb1 (ZfL ti x' lo' hi')=some d→ZgV N0 W0 fm ts H w kb ((execOp a.eval o).run P w) d:=by
     intro lo' hi' h1 h2 h3 h4 e'
     refine .of_bare h e' fun z hz=>?_
     obtain⟨u,h5,h6⟩:=ZoC (P:=P) (w:=w) hT ht (ev hx) h1 h2 h3 h4 hz
     exact⟨u,by simp only[execOp,ho,Option.map_none];exact Zb9 h5,h6⟩
    split at e
    ·exact fin none none (by simp) (by simp) (by simp) (by simp) e
    ·rename_i lo
     split at e
     ·rename_i lo' hlo
      exact fin (some lo') none (fun z hz=>⟨_,rfl,by obtain rfl:=oi hz;exact ev hlo⟩) (by simp) (by simp) (by simp) e
     ·cases e
    ·rename_i hi
     split at e
     ·rename_i hi' hhi
      exact fin none (some hi') (by simp) (by simp) (fun z hz=>⟨_,rfl,by obtain rfl:=oi hz;exact ev hhi⟩) (by simp) e
     ·cases e
    ·rename_i lo hi
     split at e
     ·rename_i lo' hi' hlo hhi
      cases hbe:ZcQ H.get ti x' lo' hi' with
      |none=>
       rw[hbe,ZeF]at e
       exact fin (some lo') (some hi') (fun z hz=>⟨_,rfl,by obtain rfl:=oi hz;exact ev hlo⟩) (by simp) (fun z hz=>⟨_,rfl,by obtain rfl:=oi hz;exact ev hhi⟩) (by simp) e
      |some z=>
       rw[hbe,ZfB]at e
       refine .of_bare h e fun z' hz'=>?_
       obtain rfl:=oi hz'
       unfold ZcQ at hbe
       split at hbe
       ·rename_i lv k esz i n g
        split at hbe
        ·rename_i el hd
         obtain⟨hun,⟨inf,hinf,hsz,_,_⟩,_⟩:=hT.slice ht hd
         split at hbe
         ·rename_i kl l kh hi2
          split at hbe
          ·rename_i et ez es hg
           split at hbe
           ·rename_i hc
            obtain⟨⟨rfl,hlg⟩,⟨c1,c2⟩,c3⟩:=hc
            obtain rfl:=oi hbe
            have hvx:=ev hx
            have hvl:=ev hlo
            have hvh:=ev hhi
            generalize hex:a.eval x=vx at hvx
            generalize hel:a.eval lo=vl at hvl
            generalize heh:a.eval hi=vh at hvh
            cases hvl
            cases hvh
            have hb:=h.blk lv k _ hg
            have h1:0≤hi2:=by omega
            have h2:l≤((hi2.toNat:Nat):Int):=by omega
            have run:∀ (p:Option Addr) (nn cp:Nat),hi2.toNat≤cp→(Instr.sliceAt t (.slice p nn cp) (some (.int kl l)) (some (.int kh hi2)) none).run P w=.ok (.slice (if cp=l.toNat then p else p.map (·.add (l.toNat*ti.el))) (hi2.toNat - l.toNat) (cp - l.toNat)) w:=by
             intro p nn cp hcp
             have h3:hi2≤cp:=by omega
             have hsb:(Instr.sliceBounds true nn cp (some (.int kl l)) (some (.int kh hi2)) none).run P w=.ok (l.toNat,hi2.toNat,cp) w:=by
              simp only[Instr.sliceBounds,Instr.sliceBound,asIntOf,Sem.run_bind,Sem.run_pure,Result.andThen_ok,h1,h3,and_self,if_true,c1,h2]
             simp[Instr.sliceAt,run_underlying hun,Instr.slice,hsb,sizeOf,typeInfo,hinf,hsz]
            cases hvx with
            |locGone _ _ _ _ _ _ p cp htb hn ha=>rw[htb]at hb;cases hb
            |locOld _ _ _ _ _ _ p cp m' c htb hlt hn ha=>rw[htb]at hb;have:=hb.arr_inv.1;omega
            |locNil _ _ _ a0 htb=>
             have hl0:l.toNat=0:=by omega
             have hh0:hi2.toNat=0:=by omega
             refine⟨_,by simp only[execOp,ho,Option.map_some,Option.map_none,hex,hel,heh];exact Zb9 (run a0 0 0 (by omega)),?_⟩
             rw[hl0,hh0]
             simp
             exact .locNil lv k ti.el _ htb
            |loc _ _ _ _ _ _ c cap cp p htb hin hnc hcc ha=>
             rw[htb]at hb
             obtain⟨hA,hN⟩:=hb.arr_inv.2.2 c cap rfl
             have hgc:g≤cap:=by
              obtain⟨cells,_,_,c3',_⟩:=hA
              omega
             refine⟨_,by simp only[execOp,ho,Option.map_some,Option.map_none,hex,hel,heh];exact Zb9 (run (some p) n cp (by omega)),?_⟩
             by_cases hcl:cp=l.toNat
             ·rw[if_pos hcl]
              refine .loc lv k ti.el (i+l.toNat) (hi2.toNat - l.toNat) g c cap (cp - l.toNat) p htb (by omega) (by omega) (by omega) ?_
              intro hz
              rcases hz with hz|hz
              ·omega
              ·have hi0:i=0:=by omega
               have hl0:l.toNat=0:=by omega
               subst hi0
               rw[hl0]
               exact ha (.inr rfl)
             ·simp only[if_neg hcl,Option.map_some]
              have hp:=ha (.inl (by omega))
              subst hp
              rw[Addr.add_lit,←Nat.add_mul]
              exact .loc lv k ti.el (i+l.toNat) (hi2.toNat - l.toNat) g c cap (cp - l.toNat) _ htb (by omega) (by omega) (by omega) (fun _=>rfl)
           ·cases hbe
          ·cases hbe
         ·cases hbe
        ·cases hbe
       ·cases hbe
     ·cases e
   ·cases e
 ·
  rename_i s x f ho
  split at e
  ·rename_i ti x' ht hx
   refine .of_bare h e fun z hz=>?_
   obtain⟨u,h1,h2⟩:=Zjp (P:=P) (w:=w) hT ht (ev hx) hz
   exact⟨u,by simp only[execOp,ho];exact Zb9 h1,h2⟩
  ·cases e
 ·
  rename_i s x f ho
  split at e
  ·rename_i ti x' ht hx
   refine .of_bare h e fun z hz=>?_
   obtain⟨u,h1,h2⟩:=ZoA (P:=P) (w:=w) hT ht (ev hx) hz
   exact⟨u,by simp only[execOp,ho];exact Zb9 h1,h2⟩
  ·cases e
 ·
  rename_i t x i ho
  split at e
  ·rename_i ti x' i' ht hx hi
   refine .of_bare h e fun z hz=>?_
   obtain⟨u,h1,h2⟩:=Zjq (P:=P) (w:=w) hT ht (ev hx) (ev hi) hz
   exact⟨u,by simp only[execOp,ho];exact Zb9 h1,h2⟩
  ·cases e
 ·
  rename_i t x i ho
  split at e
  ·rename_i ti x' i' ht hx hi
   refine .of_bare h e fun z hz=>?_
   obtain⟨u,h1,h2⟩:=ZoB (P:=P) (w:=w) hT ht (ev hx) (ev hi) hz
   exact⟨u,by simp only[execOp,ho];exact Zb9 h1,h2⟩
  ·cases e
 ·
  rename_i x i ho
  split at e
  ·rename_i xs hx
   have hvx:=ev hx
   refine .of_bare h e fun z hz=>?_
   obtain⟨vs,hvs,h1,h2⟩:∃ vs:Array Value,a.eval x=.tuple vs∧xs.length=vs.size∧∀ (i:Nat) x v,xs[i]?=some x→vs[i]?=some v→VR fm ts x v:=by
    generalize a.eval x=v at hvx
    cases hvx with
    |tup _ vs h1 h2=>exact⟨vs,rfl,h1,h2⟩
   have hlt:i<vs.size:=by rw[←h1];exact(gS.1 hz).1
   exact⟨vs[i],by simp[execOp,ho,Instr.extract,hvs,hlt],h2 i z _ hz (Array.getElem?_eq_getElem hlt)⟩
  ·cases e
 ·
  rename_i t x ho
  split at e
  ·rename_i ti l k esz i n g ht hx
   have hvx:=ev hx
   split at e
   ·rename_i m el hd
    obtain⟨hun,_⟩:=hT.array ht hd
    split at e
    ·rename_i hc
     obtain⟨rfl,hmn,hm⟩:=hc
     obtain rfl:=oi e
     obtain⟨ad,cp,hvs,hp⟩:∃ ad cp,a.eval x=.slice (some ad) n cp∧VR fm ts (.eptr l k ti.el i 0 g) (.pointer (some ad)):=by
      generalize a.eval x=v at hvx
      cases hvx with
      |locGone _ _ _ _ _ _ a' cp' htk hn ha=>
       obtain⟨p,rfl⟩:=ha (by omega)
       exact⟨p,cp',rfl,.eptrGone _ _ _ _ _ _ _ htk⟩
      |locOld _ _ _ _ _ _ a' cp' m' c htk hlt hn ha=>
       obtain⟨p,rfl⟩:=ha (by omega)
       exact⟨p,cp',rfl,.eptrOld _ _ _ _ _ _ _ m' c htk hlt⟩
      |locNil=>omega
      |loc _ _ _ _ _ _ c cap cp' a' htk hin hnc hcc ha=>
       refine⟨a',cp',rfl,?_⟩
       rw[ha (.inl (by omega))]
       exact .eptr l k ti.el i 0 g c cap htk
     refine .pure h (v:=.pointer (some ad)) ?_ hp
     have:=run_arrayAt (P:=P) w t el m (some ad) n cp hun hmn
     simp only[execOp,ho,hvs]
     exact Zb9 this
    ·cases e
   ·cases e
  ·cases e
 ·
  rename_i t x ho
  split at e
  ·rename_i ti x' ht hx
   split at e
   ·cases e
   ·rename_i hd
    obtain rfl:=oi e
    obtain⟨dd,hdd,hne⟩:=hT.notIface ht hd
    refine .pure h (v:=.iface t (a.eval x)) ?_ (.ifc t x' _ (ev hx))
    simp only[execOp,ho]
    refine Zb9 ?_
    simp only[Instr.makeInterface,Sem.run_bind,run_underlying hdd,Result.andThen_ok]
    cases dd<;>first|rfl|(exact absurd rfl (hne _))
  ·cases e
 ·
  rename_i c ho
  split at e
  ·rename_i b hb
   split at e
   ·rename_i xs hxs
    have hv:=Zcj htm _ _ hxs
    have:=Zlt (P:=P) (ty:=o.type) (cs:=c.args.map fun|.const _=>true|_=>false) hT h hH hk hv e
    have e1:(execOp a.eval o).run P w=(builtin b c.argTypes o.type (c.args.map fun|.const _=>true|_=>false) (c.args.toList.map a.eval).toArray).run P w:=by
     simp only[execOp,ho,resolve,hb,Sem.run_bind,Sem.run_pure,Result.andThen_ok,invoke]
     congr 2
     apply Array.toList_inj.1
     simp
    rw[e1];exact this
   ·cases e
  ·cases e
 ·cases e
end
end Go.Abs
namespace Go.Abs
open Go Go.RowKit
set_option linter.unusedSectionVars false
class Md where
 rnd:Option Nat
 dfs:List Deferred
instance (priority:=10) md0:Md:=⟨none,[]⟩
section
variable [Md]
def FW:Fence:={ fn:=fun _=>True,depth:=none,alive:=false,round:=Md.rnd }
theorem ZsF {P:Program}{n:Nat}{f:FuncId}{args:Array Value}{w:World}{R:Ending→World→Prop} (h:Calls P f args w R):CallsIn FW n P f args w R:=
 callsIn_wide.2 h
theorem ZfA {P:Program}{o:Oper}{a:Act}{w w':World}{next:Act→World→Prop}{Q:Exit→Act→World→Prop}{v:Value} (hd:∀ c,o.op≠.defer c) (hr:(execOp a.eval o).run P w=.ok (.value v) w') (h:next (a.put o.dst v) w'):o.wpIn FW 0 P a w next Q:=
 ⟨fun _ _=>trivial,by rw[Oper.semAt_eq _ _ _ hd,hr];exact h⟩
theorem ZkM {P:Program}{o:Oper}{a:Act}{w w':World}{next:Act→World→Prop}{Q:Exit→Act→World→Prop} (hd:∀ c,o.op≠.defer c) (hr:(execOp a.eval o).run P w=.ok .skip w') (h:next (a.put o.dst undef) w'):o.wpIn FW 0 P a w next Q:=
 ⟨fun _ _=>trivial,by rw[Oper.semAt_eq _ _ _ hd,hr];exact h⟩
theorem Zeu {P:Program}{o:Oper}{a:Act}{w w':World}{next:Act→World→Prop}{Q:Exit→Act→World→Prop}{f:FuncId}{args:Array Value} (hd:∀ c,o.op≠.defer c) (hr:(execOp a.eval o).run P w=.ok (.enter f args) w')
  (h:Calls P f args w' fun
   |.returned v,w''=>next (a.put o.dst v) w''
   |.panicked chain,w''=>Q (.panic chain) a w''
   |.outgrown,_=>LetsOut Q):o.wpIn FW 0 P a w next Q:=
 ⟨fun _ _=>trivial,by rw[Oper.semAt_eq _ _ _ hd,hr,Oper.uponIn_enter];exact⟨fun h=>by simp[FW]at h,ZsF h⟩⟩
theorem Znv {P:Program}{o:Oper}{a:Act}{w w':World}{next:Act→World→Prop}{Q:Exit→Act→World→Prop}{v:Value} (hd:∀ c,o.op≠.defer c) (hr:(execOp a.eval o).run P w=.halt (.panic v) w') (h:Q (.panic [{ v,recovered:=false }]) a w'):o.wpIn FW 0 P a w next Q:=
 ⟨fun _ _=>trivial,by rw[Oper.semAt_eq _ _ _ hd,hr];exact h⟩
theorem Zgs {P:Program}{Q:Exit→Act→World→Prop}{a:Act}{w:World}{c:Code} (h:c.wpIn FW 0 P (Exit.noGoto Q) a w):(Code.scope c).wpIn FW 0 P Q a w:=by
 intro b k cs hro hb hr
 have s1:step P (lone (b.atR a (.code (.scope c)::k)) cs w)=.next (lone (b.atR a (.code c::.inScope c::k)) cs w):=
  step_lone_go (by simp[stepG,stepG.exec,Frame.atR])
 have s2:∀ a w,step P (lone (b.atR a (.inScope c::k)) cs w)=.next (lone (b.atR a k) cs w):=fun a w=>
  step_lone_go (by simp[stepG,stepG.exec,Frame.atR])
 have h0:(lone (b.atR a (.code (.scope c)::k)) cs w).fenced P FW:=fenced_calm hb hr rfl
 obtain⟨e,a₁,w₁,hq,harr⟩:=h b (.inScope c::k) cs hro hb hr
 cases e with
 |normal=>exact⟨.normal,a₁,w₁,hq,.head h0 s1 (StepsIn.trans harr (.one (fenced_calm hb hr rfl) (s2 _ _)))⟩
 |exit id=>
  have hx:exitTo id (.inScope c::k)=exitTo id k:=by simp[exitTo]
  exact⟨.exit id,a₁,w₁,hq,fun k' hk=>.head h0 s1 (harr.1 k' (by rw[hx];exact hk)),fun hr' hk=>let ⟨k₁,h1,h2⟩:=harr.2 hr' (by rw[hx];exact hk);⟨k₁,h1,.head h0 s1 h2⟩⟩
 |goto l=>exact hq.elim
 |ret=>exact⟨_,a₁,w₁,hq,.of_steps (.one h0 s1) harr⟩
 |panic ch=>exact⟨_,a₁,w₁,hq,.of_steps (.one h0 s1) harr⟩
 |outgrown=>exact⟨_,a₁,w₁,hq,.of_steps (.one h0 s1) harr⟩
theorem Zd8 {P:Program}{c:Code}{Q:Exit→Act→World→Prop}{a:Act}{w:World} (d:List Deferred):c.wpIn (@FW ⟨none,d⟩) 0 P Q a w↔c.wp P Q a w:=wpIn_wide
end
inductive CIt where
 |code (c:Code)
 |blk (id:Nat)
 |scp
 |ops (arr:Array Oper) (l:List Nat)
 |back (R:Act→World→Prop)
section
variable [Md]
def K (P:Program) (Q:Exit→Act→World→Prop):List CIt→Exit→Act→World→Prop
 |[],e,a,w=>Q e a w
 |.code c::t,e,a,w=>match e with
  |.normal=>c.wpIn FW 0 P (K P Q t) a w
  |e=>K P Q t e a w
 |.blk id::t,e,a,w=>match e with
  |.exit id'=>if id'=id then K P Q t .normal a w else K P Q t (.exit id') a w
  |e=>K P Q t e a w
 |.scp::t,e,a,w=>match e with
  |.goto _=>False
  |e=>K P Q t e a w
 |.ops arr l::t,e,a,w=>match e with
  |.normal=>wpOpsIn FW 0 P arr (K P Q t) l a w
  |e=>K P Q t e a w
 |.back R::t,e,a,w=>match e with
  |.normal=>R a w
  |e=>K P Q t e a w
end
section
variable [Md] {P:Program}{Q:Exit→Act→World→Prop}{a:Act}{w:World}{t:List CIt}
theorem ZjX (c:Code):K P Q (.code c::t) .normal a w=c.wpIn FW 0 P (K P Q t) a w:=rfl
theorem Zln (c:Code):K P Q (.code c::t)=Exit.then (c.wpIn FW 0 P (K P Q t)) (K P Q t):=by
 funext e a w;cases e<;>rfl
theorem ZuE (id:Nat):K P Q (.blk id::t)=Exit.inBlock id (K P Q t):=by
 funext e a w;cases e<;>rfl
theorem Zt5 (R:Act→World→Prop):K P Q (.back R::t)=Exit.then R (K P Q t):=by
 funext e a w;cases e<;>rfl
theorem ZuI:K P Q (.scp::t)=Exit.noGoto (K P Q t):=by
 funext e a w;cases e<;>rfl
theorem ZtA (h:K P Q t .normal a w):K P Q (.code .skip::t) .normal a w:=wpIn_skip h
theorem ZrB {l:Nat} (h:K P Q t .normal a w):K P Q (.code (.label l)::t) .normal a w:=wpIn_label h
theorem ZjY {x y:Code} (h:K P Q (.code x::.code y::t) .normal a w):K P Q (.code (.seq x y)::t) .normal a w:=by
 refine wpIn_seq ?_
 rw[ZjX,Zln]at h
 exact h
theorem Zt6 {c:Operand}{x y:Code}{b:Bool} (hc:a.eval c=.bool b) (h:K P Q (.code (if b then x else y)::t) .normal a w):K P Q (.code (.cond c x y)::t) .normal a w:=wpIn_cond hc h
theorem Zjg {id:Nat}{c:Code} (h:K P Q (.code c::.blk id::t) .normal a w):K P Q (.code (.block id c)::t) .normal a w:=by
 refine wpIn_block ?_
 rw[ZjX,ZuE]at h
 exact h
theorem ZrC {c:Code} (h:K P Q (.code c::.scp::t) .normal a w):K P Q (.code (.scope c)::t) .normal a w:=by
 refine Zgs ?_
 rw[ZjX,ZuI]at h
 exact h
theorem Zjh {id:Nat}{ops:Array Oper} (h:K P Q (.ops ops (List.range ops.size)::t) .normal a w):K P Q (.code (.region id ops false)::t) .normal a w:=wpIn_region h
theorem Zt7 {id:Nat} (h:K P Q t (.exit id) a w):K P Q (.code (.exit id)::t) .normal a w:=wpIn_exit h
theorem ZuH (h:K P Q t .ret a w):K P Q (.code .ret::t) .normal a w:=wpIn_ret h
theorem Zdg (h:Q .ret a w):∀ t:List CIt,K P Q t .ret a w
 |[]=>h
 |.code _::t=>Zdg h t
 |.blk _::t=>Zdg h t
 |.scp::t=>Zdg h t
 |.ops _ _::t=>Zdg h t
 |.back _::t=>Zdg h t
theorem Zc0 {ch:List PanicEntry} (h:Q (.panic ch) a w):∀ t:List CIt,K P Q t (.panic ch) a w
 |[]=>h
 |.code _::t=>Zc0 h t
 |.blk _::t=>Zc0 h t
 |.scp::t=>Zc0 h t
 |.ops _ _::t=>Zc0 h t
 |.back _::t=>Zc0 h t
theorem Zrq {c:Code} (I:Nat→Act→World→Prop) (m:Nat) (h0:I m a w)
  (h:∀ m a w,I m a w→K P Q (.code c::.back (fun a' w'=>∃ m',m'<m∧I m' a' w')::t) .normal a w):K P Q (.code (.loop c)::t) .normal a w:=by
 refine wpIn_loop_rounds (m+1) ?_
 have key:∀ (n m:Nat),m<n→∀ a w,I m a w→Code.roundsIn FW 0 P c (K P Q t) n a w:=by
  intro n
  induction n with
  |zero=>intro m h;omega
  |succ n ih=>
   intro m hm a w hI
   have:=h m a w hI
   rw[ZjX,Zt5]at this
   refine wpIn_mono this ?_
   intro e a' w' he
   cases e with
   |normal=>
    obtain⟨m',h1,h2⟩:=he
    exact ih m' (by omega) a' w' h2
   |_=>exact he
 exact key (m+1) m (by omega) a w h0
end
def Zdi (o:SOp):SOp:=⟨o.dst,o.op,o.type,o.guard,[]⟩
def SC.bare:SC→SC
 |.reg ops=>.reg (ops.map Zdi)
 |.dreg ops bef _=>.dreg (ops.map Zdi) bef []
 |.seq a b=>.seq a.bare b.bare
 |.cond c x y=>.cond c x.bare y.bare
 |.block id b=>.block id b.bare
 |.loop b=>.loop b.bare
 |.skip=>.skip
 |.exit id=>.exit id
 |.ret=>.ret
 |.other=>.other
 |.mark b=>b.bare
def Znr (acc:List Nat):List Nat→List Nat
 |[]=>acc
 |x::l=>Znr (if acc.contains x then acc else acc++[x]) l
def Zjv (befs:List (List Nat)):List Nat→List Edge→List Nat
 |acc,[]=>acc
 |acc,e::l=>Zjv befs (if Region.binds .any e then Znr (Znr acc ((befs[e.on]?).getD [])) [e.on] else acc) l
def Zg0 (befs:List (List Nat)):List Oper→List (List Nat)
 |[]=>befs
 |o::l=>Zg0 (befs++[Zjv befs [] o.after.toList]) l
def ZcV (n:Nat) (ops:Array Oper) (o:Oper):SOp:=
 ⟨o.dst,o.op,o.type,o.guard.map fun g=>(((ops[g.1]?).bind (·.dst)).getD n,g.2),[]⟩
def Zba (n:Nat):Code→SC
 |.skip=>.skip
 |.region _ ops false=>.reg (ops.toList.map (ZcV n ops))
 |.region _ ops true=>.dreg (ops.toList.map (ZcV n ops)) (Zg0 [] ops.toList) []
 |.seq a b=>.seq (Zba n a) (Zba n b)
 |.cond c x y=>.cond c (Zba n x) (Zba n y)
 |.block id b=>.block id (Zba n b)
 |.loop b=>.loop (Zba n b)
 |.exit id=>.exit id
 |.ret=>.ret
 |.label _=>.skip
 |.scope b=>Zba n b
 |_=>.other
def SC.fits (n:Nat):SC→Bool
 |.reg ops=>ops.all fun o=>match o.dst with|some d=>decide (d<n)|none=>true
 |.dreg ops _ _=>ops.all fun o=>match o.dst with|some d=>decide (d<n)|none=>true
 |.seq a b=>a.fits n&&b.fits n
 |.cond _ x y=>x.fits n&&y.fits n
 |.block _ b=>b.fits n
 |.loop b=>b.fits n
 |_=>true
section
variable [Md]
structure SR (N0:Nat) (W0:World) (n:Nat) (st:St) (a:Act) (w:World) (fm:FM) (ts:List Tie):Prop where
 hr:HR N0 W0 fm ts (st.fr::st.low) w
 tm:TmR fm ts (look st.tm) a
 nx:∀ k,st.nx≤k→tb ts 0 k=none
 size:a.tmps.size=n
 dfr:a.defers=Md.dfs
structure Later (N0:Nat) (fm:FM) (ts:List Tie) (fm':FM) (ts':List Tie):Prop where
 fle:FmUp N0 fm fm'
 tle:ZaA (ts.drop 1) (ts'.drop 1)
 no:∀ l k,tb (ts.drop 1) l k=none→tb (ts'.drop 1) l k=none
theorem Later.refl {N0:Nat} (fm:FM) (ts:List Tie):Later N0 fm ts fm ts:=⟨FmUp.refl _ _,ZaA.refl _,fun _ _ h=>h⟩
theorem Later.trans {N0:Nat}{f1 f2 f3:FM}{t1 t2 t3:List Tie} (h:Later N0 f1 t1 f2 t2) (k:Later N0 f2 t2 f3 t3):Later N0 f1 t1 f3 t3:=
 ⟨h.fle.trans k.fle,h.tle.trans k.tle,fun l j e=>k.no l j (h.no l j e)⟩
theorem ZgK (a:Act) (dst:Option Tmp) (v:Value):(a.put dst v).tmps.size=a.tmps.size:=by
 cases dst<;>simp[Act.put]
theorem Zhi (a:Act) (dst:Option Tmp) (v:Value):(a.put dst v).defers=a.defers:=by
 cases dst<;>rfl
theorem TmR.put {fm:FM}{ts:List Tie}{tm:List (Nat×AV)}{a:Act} (h:TmR fm ts (look tm) a) {dst:Option Tmp}{x:AV}{v:Value} (hv:VR fm ts x v) (hd:∀ d,dst=some d→d<a.tmps.size) (drop:List Nat):
  TmR fm ts (look (Ze6 (ZhB tm dst x) drop)) (a.put dst v):=by
 intro t y hy
 replace hy:=Zfm drop _ t y hy
 cases dst with
 |none=>exact h t y hy
 |some d=>
  simp only[ZhB,ZdZ]at hy
  have hlt:=hd d rfl
  split at hy
  ·rename_i e
   subst e
   obtain rfl:=oi hy
   exact⟨v,by simp[Act.put,hlt],hv⟩
  ·rename_i e
   obtain⟨u,h1,h2⟩:=h t y hy
   exact⟨u,by simp only[Act.put];rw[Array.getElem?_setIfInBounds_ne e];exact h1,h2⟩
theorem TmR.mono {fm fm':FM}{ts ts':List Tie}{tm:Tm}{a:Act} (h:TmR fm ts tm a) (hf:Zdq fm fm') (ht:ZaA ts ts'):TmR fm' ts' tm a:=by
 intro t x hx
 obtain⟨v,h1,h2⟩:=h t x hx
 exact⟨v,h1,h2.mono hf ht⟩
theorem ZlZ (st:St) (f:Fra) (H:Zam):St.withHeap st (f::H)={ st with fr:=f,low:=H }:=rfl
theorem Zev (f:Fra) (H:Zam) (s:List (Nat×Nat×Option Blk)):∃ f' H',Zam.puts (f::H) s=f'::H':=by
 have:=Zam.length_puts s (f::H)
 cases h:Zam.puts (f::H) s with
 |nil=>rw[h]at this;simp at this
 |cons f' H'=>exact⟨f',H',rfl⟩
theorem SR.by {N0:Nat}{W0:World}{n:Nat}{st:St}{a:Act}{w:World}{fm:FM}{ts:List Tie} (h:SR N0 W0 n st a w fm ts) {r:Result Next}{d:De}{fm':FM}{ts':List Tie}{w':World}{v:Value}
  (o:Out N0 W0 fm ts (st.fr::st.low) w st.nx r d fm' ts' w' v) {dst:Option Tmp} (hd:∀ d,dst=some d→d<n) (drop:List Nat):
  SR N0 W0 n (st.by dst drop d) (a.put dst v) w' fm' ts'∧Later N0 fm ts fm' ts':=by
 obtain⟨f',H',hp⟩:=Zev st.fr st.low d.sets
 have hb:st.by dst drop d={ st with tm:=Ze6 (ZhB st.tm dst d.val) drop,nx:=st.nx+16,fr:=f',low:=H' }:=by
  unfold St.by;rw[hp];rfl
 rw[hb]
 refine⟨⟨?_,?_,?_,?_,?_⟩,⟨o.fle,o.tle.drop 1,?_⟩⟩
 ·have:=o.hr;rw[hp]at this;exact this
 ·exact(h.tm.mono o.fle.le o.tle).put o.val (by rw[h.size];exact hd) drop
 ·intro k hk
  have hk':st.nx+16≤k:=hk
  exact o.free 0 k (by omega) (h.nx k (by omega))
 ·rw[ZgK];exact h.size
 ·rw[Zhi];exact h.dfr
 ·intro l k hn
  rw[Zbg]at hn ⊢
  exact o.free (l+1) k (by omega) hn
theorem SR.past {N0:Nat}{W0:World}{n:Nat}{st:St}{a:Act}{w:World}{fm:FM}{ts:List Tie} (h:SR N0 W0 n st a w fm ts) {o:SOp} (hd:∀ d,o.dst=some d→d<n):
  SR N0 W0 n (st.past o) (a.put o.dst undef) w fm ts:=by
 have ho:Out N0 W0 fm ts (st.fr::st.low) w st.nx (.ok .skip w) ⟨.tup [],[]⟩ fm ts w undef:=
  ⟨.inr ⟨rfl,rfl⟩,h.hr,.tup [] #[] rfl (fun i x v h=>by simp at h),FmUp.refl _ _,ZaA.refl _,fun _ _ _ h=>h⟩
 exact(h.by ho hd o.drop).1
inductive Sim (N0:Nat) (W0:World) (n:Nat) (fm:FM) (ts:List Tie):List It→List CIt→Prop
 |nil:Sim N0 W0 n fm ts [] []
 |sc {s:SC}{c:Code}{t ct} (h:s.bare=Zba n c) (hf:(Zba n c).fits n=true) (ht:Sim N0 W0 n fm ts t ct):Sim N0 W0 n fm ts (.sc s::t) (.code c::ct)
 |blk {id:Nat}{t ct} (ht:Sim N0 W0 n fm ts t ct):Sim N0 W0 n fm ts (.blk id::t) (.blk id::ct)
 |scp {t ct} (ht:Sim N0 W0 n fm ts t ct):Sim N0 W0 n fm ts t (.scp::ct)
 |ops {l:List SOp}{arr:Array Oper}{is:List Nat}{t ct} (h:l.map Zdi=is.map fun i=>ZcV n arr (arr.getD i default)) (hi:∀ i∈is,i<arr.size) (hf:∀ o∈l,∀ d,o.dst=some d→d<n) (ht:Sim N0 W0 n fm ts t ct):Sim N0 W0 n fm ts (.ops l::t) (.ops arr is::ct)
 |back {B:St→Prop}{R:Act→World→Prop}{t ct} (h:∀ st' a' w' fm' ts',B st'→SR N0 W0 n st' a' w' fm' ts'→Later N0 fm ts fm' ts'→R a' w') (ht:Sim N0 W0 n fm ts t ct):Sim N0 W0 n fm ts (.back B::t) (.back R::ct)
theorem Sim.later {N0:Nat}{W0:World}{n:Nat}{fm fm':FM}{ts ts':List Tie} (hl:Later N0 fm ts fm' ts') {t:List It}{ct:List CIt} (h:Sim N0 W0 n fm ts t ct):Sim N0 W0 n fm' ts' t ct:=by
 induction h with
 |nil=>exact .nil
 |sc h hf _ ih=>exact .sc h hf ih
 |blk _ ih=>exact .blk ih
 |scp _ ih=>exact .scp ih
 |ops h hi hf _ ih=>exact .ops h hi hf ih
 |back h _ ih=>exact .back (fun st' a' w' fm2 ts2 hB hS hL=>h st' a' w' fm2 ts2 hB hS (hl.trans hL)) ih
end
end Go.Abs
