/-
  Part 1 of the proof: a machine over named blocks, what each function computes, and what follows. No condition.
-/
import Derived.Calls
import Derived.Below
import Derived.Laws.AppendOwn
import Derived.Laws.MakeOwn
import Derived.Laws.CopyRow
import Derived.Laws.Entries
import Derived.Laws.StructEq
import Derived.Laws.Small
import Derived.Laws.Slices
import Derived.Laws.Panics
import Derived.ChangeKeysEq
import Derived.Shelf.Abstract
import Derived.WideLaws
import Derived.Laws.Shifts
import Derived.Laws.Strings
import Derived.Laws.BytesString
import Derived.Laws.Tables
import Derived.Laws.Unary
import Derived.Laws.Cover3
import Derived.Laws.Build
import Derived.Great.FillDense
import Derived.Great.BuildSlice
import Derived.Deep.AppendSrc
import Derived.Lib.AppendZerosOnto
import Derived.Laws.IdiomStrings
import Derived.LoopNIn
import Derived.OrdersIn
import Derived.Scope
set_option linter.unusedVariables false
set_option linter.unusedSimpArgs false
set_option linter.all false
namespace Go.Abs
universe u v
theorem oi {α:Type u}{a b:α} (h:some a=some b):a=b:=Option.some.inj h
theorem oE {α:Type u} (a b:α):(some a=some b)=(a=b):=Option.some.injEq a b
theorem gS {α:Type u}{l:List α}{i:Nat}{a:α}:l[i]?=some a↔∃ h:i<l.length,l[i]=a:=List.getElem?_eq_some_iff
theorem gG {α:Type u}{l:List α}{i:Nat} (h:i<l.length):l[i]?=some l[i]:=List.getElem?_eq_getElem h
theorem mS {α:Type u}{β:Type v}{x:Option α}{f:α->β}{b:β}:x.map f=some b↔∃ a,x=some a/\f a=b:=Option.map_eq_some_iff
abbrev Av:=@Option.bind_some
abbrev Ay:=@List.length_cons
abbrev Bo:=@decide_eq_true
abbrev AE:=@List.length_nil
abbrev AB:=@cond_false
abbrev BU:=@decide_eq_false
abbrev AH:=@cond_true
abbrev BL:=@List.length_append
abbrev Ba:=@List.mem_of_getElem?
abbrev Ch:=@List.getElem?_append_right
abbrev BM:=@Bool.not_true
abbrev A6:=@List.length_take
abbrev AQ:=@Option.map_some
abbrev Cn:=@List.take_of_length_le
abbrev BQ:=@List.mem_of_mem_take
abbrev Bg:=@Array.getElem?_eq_getElem
abbrev D8:=@Nat.add_sub_cancel_left
abbrev Bl:=@List.mem_iff_getElem?
abbrev AP:=@Bool.and_eq_true
abbrev A7:=@Nat.le_refl
abbrev DI:=@List.drop_of_length_le
abbrev B3:=@List.length_drop
abbrev A8:=@List.cons_append
abbrev Bh:=@List.length_map
abbrev B4:=@Bool.not_false
abbrev Co:=@List.take_length
abbrev AZ:=@List.mem_append
abbrev Bp:=@Nat.mul_le_mul_right
abbrev BE:=@List.getElem?_cons_succ
abbrev BG:=@List.getElem?_cons_zero
abbrev CZ:=@Int.toNat_natCast
abbrev Bb:=@Bool.true_and
abbrev Bz:=@List.getElem?_map
abbrev Bx:=@List.getElem?_take
abbrev BX:=@List.mem_of_mem_drop
abbrev B5:=@List.getElem?_append_left
abbrev Cd:=@List.append_assoc
abbrev BV:=@List.nil_append
abbrev CE:=@List.getElem?_eq_none
abbrev C0:=@List.take_append_drop
abbrev BA:=@List.mem_cons
abbrev CF:=@List.length_replicate
abbrev BY:=@Array.getElem?_eq_some_iff
abbrev CO:=@List.take_left'
abbrev DJ:=@Int.natCast_zero
abbrev B6:=@Nat.zero_add
abbrev Cw:=@List.mem_singleton
abbrev C1:=@Option.map_none
abbrev BN:=@List.getElem?_drop
abbrev B7:=@Bool.false_eq_true
abbrev C2:=@Nat.le_trans
abbrev BZ:=@List.flatten_cons
abbrev C3:=@List.map_append
end Go.Abs
namespace Go.Abs
open Go
inductive AV where
 |bool (b:Bool)
 |int (k:IntKind) (n:Int)
 |str (s:ByteArray)
 |nil
 |sl (esz:Nat) (es:List (List AV))
 |loc (l key esz i n g:Nat)
 |bd (l key esz o n:Nat)
 |bf
 |ptr (l key o:Nat)
 |aR (l key esz i o g:Nat)
 |aq (esz:Nat) (es:List (List AV)) (i o:Nat)
 |bo
 |fn (f:Fn) (first cap:List AV)
 |bp
 |mp (r:Option Nat)
 |bA (t:TypeId) (v:AV)
 |agg (cs:List AV)
 |ak (vs:List AV)
 |dead
 deriving Inhabited
inductive TD where
 |int (k:IntKind)
 |bool
 |str
 |slice (e:TypeId)
 |array (n:Nat) (e:TypeId)
 |struct
 |ptr (e:TypeId)
 |map (k e:TypeId)
 |func
 |iface
 deriving Inhabited,DecidableEq
structure TI where
 size:Nat
 bytes:Nat
 zero:List AV
 d:TD
 el:Nat
 qN:Nat
 zz:Bool
 dW:List AV
 fl:List (Nat×Nat×Bool)
 pl:Bool
 sc:List (Nat×TypeId×Nat)
 deriving Inhabited
def TI.isAgg (ti:TI):Bool:=
 match ti.d with
 |.struct|.array _ _=>true
 |_=>false
abbrev Aw:=Nat->Option TI
inductive Ap where
 |arr (et:TypeId) (esz:Nat) (es:List (List AV))
 |box (cs:List AV)
 deriving Inhabited
abbrev Aj:=List (Nat×Ap)
abbrev Heap:=List Aj
abbrev AA:=Nat->Nat->Option Ap
structure St where
 tm:List (Nat×AV)
 fr:Aj
 low:Heap
 nx:Nat
 nt:Nat
def look {α:Type}:List (Nat×α)->Nat->Option α
 |[],_=>none
 |(k,x)::l,t=>if k=t then some x else look l t
def ins {α:Type}:List (Nat×α)->Nat->α->List (Nat×α)
 |[],t,v=>[(t,v)]
 |(k,x)::l,t,v=>if t<k then (t,v)::(k,x)::l else if t=k then (t,v)::l else (k,x)::ins l t v
def del {α:Type}:List (Nat×α)->Nat->List (Nat×α)
 |[],_=>[]
 |(k,x)::l,t=>if k=t then del l t else (k,x)::del l t
def cd {α:Type} (l:List (Nat×α)):List Nat->List (Nat×α)
 |[]=>l
 |t::ts=>cd (del l t) ts
def Heap.get:Heap->Nat->Nat->Option Ap
 |[],_,_=>none
 |f::_,0,key=>look f key
 |_::H,l+1,key=>Heap.get H l key
def Heap.put:Heap->Nat->Nat->Option Ap->Heap
 |[],_,_,_=>[]
 |f::H,0,key,some b=>ins f key b::H
 |f::H,0,key,none=>del f key::H
 |f::H,l+1,key,b=>f::Heap.put H l key b
def Heap.bk:Heap->List (Nat×Nat×Option Ap)->Heap
 |H,[]=>H
 |H,(l,k,b)::r=>Heap.bk (H.put l k b) r
mutual
def AV.sh (d:Nat):AV->AV
 |.loc l k e i n g=>.loc (l+d) k e i n g
 |.bd l k e o n=>.bd (l+d) k e o n
 |.ptr l k o=>.ptr (l+d) k o
 |.aR l k e i o g=>.aR (l+d) k e i o g
 |.fn f a b=>.fn f (AV.ck d a) (AV.ck d b)
 |.bA t v=>.bA t (v.sh d)
 |.agg cs=>.agg (AV.ck d cs)
 |.ak vs=>.ak (AV.ck d vs)
 |.bool b=>.bool b
 |.int k n=>.int k n
 |.str s=>.str s
 |.nil=>.nil
 |.sl e es=>.sl e es
 |.bf=>.bf
 |.aq e es i o=>.aq e es i o
 |.bo=>.bo
 |.bp=>.bp
 |.mp r_=>.mp r_
 |.dead=>.dead
def AV.ck (d:Nat):List AV->List AV
 |[]=>[]
 |x::l=>x.sh d::AV.ck d l
end
def pP (d l:Nat):Option Nat:=if d<=l then some (l - d) else none
mutual
def AV.un (d:Nat):AV->Option AV
 |.loc l k e i n g=>(pP d l).map fun l=>.loc l k e i n g
 |.bd l k e o n=>(pP d l).map fun l=>.bd l k e o n
 |.ptr l k o=>(pP d l).map fun l=>.ptr l k o
 |.aR l k e i o g=>(pP d l).map fun l=>.aR l k e i o g
 |.fn f a b=>match AV.eD d a,AV.eD d b with
  |some a,some b=>some (.fn f a b)
  |_,_=>none
 |.bA t v=>(v.un d).map (.bA t)
 |.agg cs=>(AV.eD d cs).map .agg
 |.ak vs=>(AV.eD d vs).map .ak
 |.bool b=>some (.bool b)
 |.int k n=>some (.int k n)
 |.str s=>some (.str s)
 |.nil=>some .nil
 |.sl e es=>some (.sl e es)
 |.bf=>some .bf
 |.aq e es i o=>some (.aq e es i o)
 |.bo=>some .bo
 |.bp=>some .bp
 |.mp r_=>some (.mp r_)
 |.dead=>some .dead
def AV.eD (d:Nat):List AV->Option (List AV)
 |[]=>some []
 |x::l=>match x.un d,AV.eD d l with
  |some x,some l=>some (x::l)
  |_,_=>none
end
mutual
def AV.ag (G:AA):AV->Option AV
 |.loc l k e i n g=>match G l k with
  |some (.arr _ esz es)=>if esz=e/\es.length=g/\i+n<=g then some (.sl e ((es.drop i).take n)) else none
  |_=>none
 |.nil=>some .nil
 |.bA t v=>(v.ag G).map (.bA t)
 |.agg cs=>(AV.az G cs).map .agg
 |.ak vs=>(AV.az G vs).map .ak
 |.bool b=>some (.bool b)
 |.int k n=>some (.int k n)
 |.str s=>some (.str s)
 |.sl e es=>some (.sl e es)
 |.bf=>some .bf
 |.bo=>some .bo
 |.bp=>some .bp
 |.mp r_=>some (.mp r_)
 |.aq e es i o=>some (.aq e es i o)
 |.fn f a b=>match AV.az G a,AV.az G b with
  |some a,some b=>some (.fn f a b)
  |_,_=>none
 |_=>none
def AV.az (G:AA):List AV->Option (List AV)
 |[]=>some []
 |x::l=>match x.ag G,AV.az G l with
  |some x,some l=>some (x::l)
  |_,_=>none
end
mutual
def AV.refs:AV->List (Nat×Nat)
 |.loc l k _ _ _ _=>[(l,k)]
 |.fn _ a b=>AV.aD a++AV.aD b
 |.bA _ v=>v.refs
 |.agg cs=>AV.aD cs
 |.ak vs=>AV.aD vs
 |_=>[]
def AV.aD:List AV->List (Nat×Nat)
 |[]=>[]
 |x::l=>x.refs++AV.aD l
end
def fq (r:List (Nat×Nat)):List (Nat×Nat×Option Ap):=r.map fun(l,k)=>(l,k,none)
def AV.flat:AV->Bool
 |.agg _=>false
 |.ak _=>false
 |.dead=>false
 |_=>true
mutual
def ej:Value->Option AV
 |.bool b=>some (.bool b)
 |.int k n=>some (.int k n)
 |.string s=>some (.str s)
 |.slice none 0 0=>some .nil
 |.pointer none=>some .bf
 |.nilFunc=>some .bo
 |.nilIface=>some .bp
 |.agg ⟨cs⟩=>match qK cs with
  |some l=>if l.all AV.flat then some (.agg l) else none
  |none=>none
 |_=>none
def qK:List Value->Option (List AV)
 |[]=>some []
 |x::l=>match ej x,qK l with
  |some x,some l=>some (x::l)
  |_,_=>none
end
abbrev Tm:=Nat->Option AV
def aN (tm:Tm):Operand->Option AV
 |.tmp t=>tm t
 |.const v=>ej v
 |.func f=>some (.fn (.func f) [] [])
 |.global _=>none
def gN (tm:Tm):List Operand->Option (List AV)
 |[]=>some []
 |x::l=>match aN tm x,gN tm l with
  |some x,some l=>some (x::l)
  |_,_=>none
def AV.cells:AV->Option (List AV)
 |.agg cs=>some cs
 |.ak _=>none
 |.dead=>none
 |v=>some [v]
def uP (es:List (List AV)) (i o size:Nat):Option (List AV):=
 match es[i]? with
 |none=>none
 |some c=>
  if o+size<=c.length then some ((c.drop o).take size)
  else if o=0/\c.length=1/\i+size<=es.length then some ((es.drop i).take size).flatten
  else none
def nz (agg:Bool) (cs:List AV):Option AV:=
 if agg then some (.agg cs) else match cs with
  |[x]=>some x
  |_=>none
def fP (G:AA) (size:Nat):AV->Option (List AV)
 |.ptr l k o=>match G l k with
  |some (.box cs)=>if o+size<=cs.length then some (AV.ck l ((cs.drop o).take size)) else none
  |_=>none
 |.aR l k esz i o g=>match G l k with
  |some (.arr _ aC es)=>if aC=esz/\es.length=g then uP es i o size else none
  |_=>none
 |.aq _ es i o=>uP es i o size
 |_=>none
def ly (G:AA) (ti:TI) (a:AV):Option AV:=(fP G ti.size a).bind (nz ti.isAgg)
def overwrite (cs:List AV) (o:Nat) (new:List AV):List AV:=cs.take o++(new++cs.drop (o+new.length))
structure De where
 val:AV
 jb:List (Nat×Nat×Option Ap)
def jc (cs:List AV) (kb:Nat):List (Nat×TypeId×Nat)->List AV×List (Nat×Nat×Option Ap)
 |[]=>(cs,[])
 |(o,e,s)::r=>match cs[o]? with
  |some .nil=>let x:=jc (cs.set o (.loc 0 kb s 0 0 0)) (kb+1) r;(x.1,(0,kb,some (.arr e s []))::x.2)
  |_=>jc cs kb r
def uw (kb:Nat) (ti:TI) (cs:List AV):Option De:=
 if cs.length=ti.size then
  let x:=jc cs (kb+1) ti.sc
  some ⟨.ptr 0 kb 0,x.2++[(0,kb,some (.box x.1))]⟩
 else none
def nI (G:AA) (kb:Nat) (ti:TI) (a:AV) (vc:List AV):Option De:=
 if vc.length=ti.size then
  match a with
  |.ptr l k o=>match G l k with
   |some (.box cs)=>
    if o+ti.size<=cs.length then
     if l=0 then
      let x:=jc vc kb ti.sc
      some ⟨.ak [],x.2++[(0,k,some (.box (overwrite cs o x.1)))]⟩
     else match AV.eD l vc with
      |some new=>some ⟨.ak [],[(l,k,some (.box (overwrite cs o new)))]⟩
      |none=>match AV.az G vc with
       |some new=>some ⟨.ak [],fq (AV.aD vc)++[(l,k,some (.box (overwrite cs o new)))]⟩
       |none=>none
    else none
   |_=>none
  |.aR l k esz i o g=>match G l k with
   |some (.arr et aC es)=>
    if aC=esz/\es.length=g then
     match es[i]?,AV.az G vc with
     |some c,some new=>
      if o+ti.size<=c.length/\(AV.aD vc).all (fun p=>!(p.1==l&&p.2==k)) then
       some ⟨.ak [],fq (AV.aD vc)++[(l,k,some (.arr et esz (es.set i (overwrite c o new))))]⟩
      else none
     |_,_=>none
    else none
   |_=>none
  |_=>none
 else none
def oV (k:IntKind) (x y:Int):Int:=k.wrap (BitVec.ofInt k.bits x &&& BitVec.ofInt k.bits y).toNat
def iO (k:IntKind) (x y:Int):Int:=k.wrap (BitVec.ofInt k.bits x ||| BitVec.ofInt k.bits y).toNat
def yO (k:IntKind) (x y:Int):Int:=k.wrap (BitVec.ofInt k.bits x ^^^ BitVec.ofInt k.bits y).toNat
def ml (op:BinOp) (a b:AV):Option AV:=
 match a,b with
 |.int k x,.int k' y=>
  match op with
  |.shl=>if y<0 then none else some (.int k (k.wrap (x*2 ^ (min y.toNat k.bits))))
  |.shr=>if y<0 then none else some (.int k (x.fdiv (2 ^ (min y.toNat k.bits))))
  |op=>
   if k=k' then
    match op with
    |.add=>some (.int k (k.wrap (x+y)))
    |.sub=>some (.int k (k.wrap (x - y)))
    |.mul=>some (.int k (k.wrap (x*y)))
    |.quo=>if y=0 then none else some (.int k (k.wrap (x.tdiv y)))
    |.rem=>if y=0 then none else some (.int k (x.tmod y))
    |.and=>some (.int k (oV k x y))
    |.or=>some (.int k (iO k x y))
    |.xor=>some (.int k (yO k x y))
    |.eql=>some (.bool (decide (x=y)))
    |.neq=>some (.bool (!decide (x=y)))
    |.lss=>some (.bool (decide (x<y)))
    |.leq=>some (.bool (decide (x<=y)))
    |.gtr=>some (.bool (decide (y<x)))
    |.geq=>some (.bool (decide (y<=x)))
    |_=>none
   else none
 |.bool x,.bool y=>match op with
  |.eql=>some (.bool (x==y))
  |.neq=>some (.bool (!(x==y)))
  |_=>none
 |.str x,.str y=>match op with
  |.eql=>some (.bool (x.toList==y.toList))
  |.neq=>some (.bool (!(x.toList==y.toList)))
  |.add=>if x.size+y.size<4611686018427387904 then some (.str (x++y)) else none
  |_=>none
 |_,_=>none
def gD:AV->AV->AV->Option Bool
 |.int _ _,.int k x,.int k' y=>if k=k' then some (decide (x=y)) else none
 |.bool _,.bool x,.bool y=>some (x==y)
 |.str _,.str x,.str y=>some (x.toList==y.toList)
 |_,_,_=>none
def ba:List AV->List AV->List AV->Option Bool
 |[],[],[]=>some true
 |z::m,x::l,y::n=>match gD z x y,ba m l n with
  |some a,some b=>some (a&&b)
  |_,_=>none
 |_,_,_=>none
def vz (ti:TI) (op:BinOp) (a b:AV):Option AV:=
 match a,b with
 |.agg xs,.agg ys=>
  if ti.pl=true/\ti.isAgg=true then
   match op with
   |.eql=>(ba ti.zero xs ys).map .bool
   |.neq=>(ba ti.zero xs ys).map fun r=>.bool !r
   |_=>none
  else none
 |.bool x,.bool y=>match ti.d with
  |.bool=>ml op (.bool x) (.bool y)
  |_=>none
 |a,b=>ml op a b
def vH (op:UnOp) (a:AV):Option AV:=
 match op,a with
 |.neg,.int k n=>some (.int k (k.wrap (0 - n)))
 |.not,.bool b=>some (.bool !b)
 |_,_=>none
def byteOf:List AV->Option UInt8
 |[.int .u8 n]=>some (UInt8.ofNat n.toNat)
 |_=>none
def bytesOf:List (List AV)->Option (List UInt8)
 |[]=>some []
 |c::l=>match byteOf c,bytesOf l with
  |some c,some l=>some (c::l)
  |_,_=>none
def fR (G:AA) (sz:Nat):AV->Option (List (List AV))
 |.nil=>some []
 |.sl e es=>if e=sz then some es else none
 |.loc l k esz i n g=>match G l k with
  |some (.arr _ aC es)=>if esz=sz/\aC=esz/\es.length=g/\i+n<=g then some ((es.drop i).take n) else none
  |_=>none
 |.bd l k esz o n=>match G l k with
  |some (.box cs)=>if l=0/\esz=1/\sz=1/\o+n<=cs.length then (AV.az (fun _ _=>none) ((cs.drop o).take n)).map fun cs=>cs.map fun c=>[c] else none
  |_=>none
 |_=>none
def iM (T:Aw) (G:AA) (src dst:TI) (a:AV):Option AV:=
 match dst.d with
 |.int k=>match src.d,a with
  |.int _,.int _ n=>some (.int k (k.wrap n))
  |_,_=>none
 |.str=>match src.d with
  |.str=>match a with
   |.str s=>some (.str s)
   |_=>none
  |.slice e=>match T e with
   |some ti=>match ti.d with
    |.int .u8=>if src.el=1 then (fR G 1 a).bind fun es=>(bytesOf es).map fun l=>.str ⟨l.toArray⟩ else none
    |_=>none
   |none=>none
  |_=>none
 |_=>none
def iI (s:ByteArray):List (List AV):=s.data.toList.map fun c=>[AV.int .u8 (c.toNat:Int)]
def qx (T:Aw) (src dst:TI) (a:AV):Option AV:=
 match dst.d with
 |.slice e=>match src.d,a with
  |.str,.str s=>match T e with
   |some ti=>match ti.d with
    |.int .u8=>if s.size<4611686018427387904 then some (.sl 1 (iI s)) else none
    |_=>none
   |none=>none
  |_,_=>none
 |_=>none
def yj:AV->Option Nat
 |.nil=>some 0
 |.sl _ es=>some es.length
 |.loc _ _ _ _ n _=>some n
 |.bd _ _ _ _ n=>some n
 |_=>none
def vF (ti:TI) (a:AV):Option AV:=
 match ti.d with
 |.str=>match a with
  |.str s=>some (.int .i64 s.size)
  |_=>none
 |.array n _=>some (.int .i64 (n:Int))
 |.slice _=>(yj a).map fun(n:Nat)=>AV.int .i64 (n:Int)
 |_=>none
def fG (i:Int) (n:Nat):Option Nat:=if 0<=i/\i<n then some i.toNat else none
def vC (ti:TI) (a:AV) (f:Nat):Option AV:=
 match ti.d with
 |.struct=>match ti.fl[f]? with
  |some (off,_)=>match a with
   |.ptr l k o=>some (.ptr l k (o+off))
   |.aR l k e i o g=>some (.aR l k e i (o+off) g)
   |.aq e es i o=>some (.aq e es i (o+off))
   |_=>none
  |none=>none
 |_=>none
def vB (ti:TI) (a:AV) (f:Nat):Option AV:=
 match ti.d with
 |.struct=>match a with
  |.agg cs=>match ti.fl[f]? with
   |some (off,size,agg)=>if off+size<=cs.length then nz agg ((cs.drop off).take size) else none
   |none=>none
  |_=>none
 |_=>none
def vE (ti:TI) (a ix:AV):Option AV:=
 match ix with
 |.int _ i=>match ti.d with
  |.slice _=>match a with
   |.sl esz es=>if esz=ti.el then (fG i es.length).map fun i=>.aq esz es i 0 else none
   |.loc l k esz b n g=>if esz=ti.el then (fG i n).map fun i=>.aR l k esz (b+i) 0 g else none
   |.bd l k esz o n=>if esz=ti.el then (fG i n).map fun i=>.ptr l k (o+i*esz) else none
   |_=>none
  |.array n _=>match a with
   |.ptr l k o=>(fG i n).map fun i=>.ptr l k (o+i*ti.el)
   |.aR l k esz b o g=>(fG i n).map fun i=>.aR l k esz b (o+i*ti.el) g
   |.aq e es b o=>(fG i n).map fun i=>.aq e es b (o+i*ti.el)
   |_=>none
  |_=>none
 |_=>none
def vD (ti:TI) (a ix:AV):Option AV:=
 match ix with
 |.int _ i=>match ti.d with
  |.array n _=>match a with
   |.agg cs=>(fG i n).bind fun i=>if i*ti.el+ti.el<=cs.length then nz ti.zz ((cs.drop (i*ti.el)).take ti.el) else none
   |_=>none
  |.str=>match a with
   |.str s=>(fG i s.size).map fun(i:Nat)=>AV.int .u8 ((s.data.toList.getD i 0).toNat:Int)
   |_=>none
  |_=>none
 |_=>none
def nD (n:Nat):Option AV->Option Nat
 |none=>some n
 |some (.int _ h)=>if 0<=h/\h<=n then some h.toNat else none
 |_=>none
def nE (h:Nat):Option AV->Option Nat
 |none=>some 0
 |some (.int _ l)=>if 0<=l/\l<=h then some l.toNat else none
 |_=>none
def bounds (n:Nat) (lo hi:Option AV):Option (Nat×Nat):=
 match nD n hi with
 |some h=>match nE h lo with
  |some l=>some (l,h)
  |none=>none
 |none=>none
def lj (ti:TI) (a:AV) (lo hi:Option AV):Option AV:=
 match ti.d with
 |.slice _=>match a with
  |.nil=>(bounds 0 lo hi).map fun _=>.nil
  |.sl esz es=>if esz=ti.el then (bounds es.length lo hi).map fun(l,h)=>.sl esz ((es.drop l).take (h - l)) else none
  |.loc lv k esz i n g=>if esz=ti.el then (bounds n lo hi).map fun(l,h)=>.loc lv k esz (i+l) (h - l) g else none
  |_=>none
 |.str=>match a with
  |.str s=>(bounds s.size lo hi).map fun(l,h)=>.str (s.extract l h)
  |_=>none
 |.array n _=>match a with
  |.ptr lv k o=>(bounds n lo hi).map fun(l,h)=>.bd lv k ti.el (o+l*ti.el) (h - l)
  |_=>none
 |_=>none
def ph (fl:Nat->Option (Nat×Nat)) (cs:List AV):List (Nat×AV)->Option (List AV)
 |[]=>some cs
 |(i,v)::r=>match fl i with
  |none=>none
  |some (off,size)=>match v.cells with
   |some vc=>if vc.length=size/\off+size<=cs.length then ph fl (overwrite cs off vc) r else none
   |none=>none
def vA (ti:TI) (parts:List (Nat×AV)):Option AV:=
 match ti.d with
 |.struct=>(ph (fun i=>(ti.fl[i]?).map fun x=>(x.1,x.2.1)) ti.zero parts).map .agg
 |.array _ _=>(ph (fun i=>some (i*ti.el,ti.el)) ti.zero parts).map .agg
 |_=>none
def partsOf (tm:Tm):List (Nat×Operand)->Option (List (Nat×AV))
 |[]=>some []
 |(i,x)::l=>match aN tm x,partsOf tm l with
  |some x,some l=>some ((i,x)::l)
  |_,_=>none
def qO (es:List (List AV)) (size:Nat):List (Nat×List AV)->Option (List (List AV))
 |[]=>some es
 |(i,cs)::r=>if cs.length=size/\i<es.length then qO (es.set i cs) size r else none
def jj (G:AA):List (Nat×AV)->Option (List (Nat×List AV))
 |[]=>some []
 |(i,v)::r=>match v.cells with
  |some vc=>match AV.az G vc,jj G r with
   |some cs,some l=>some ((i,cs)::l)
   |_,_=>none
  |none=>none
def gO:List (Nat×AV)->List (Nat×Nat)
 |[]=>[]
 |(_,v)::r=>v.refs++gO r
def nH (G:AA) (kb:Nat) (ti:TI) (len:Nat) (parts:List (Nat×AV)):Option De:=
 match ti.d with
 |.slice e=>
  if len*ti.el<=16777216/\0<ti.el then
   match jj G parts with
   |some ps=>match qO (List.replicate len ti.dW) ti.el ps with
    |some es=>some ⟨.loc 0 kb ti.el 0 len len,fq (gO parts)++[(0,kb,some (.arr e ti.el es))]⟩
    |none=>none
   |none=>none
  else none
 |_=>none
def v7 (kb:Nat) (ti:TI) (len cap:AV):Option De:=
 match ti.d,len,cap with
 |.slice e,.int .i64 l,.int .i64 c=>
  if 0<=l/\l<=c/\c*ti.qN<=140737488355328/\0<ti.el/\c<4611686018427387904 then
   some ⟨.loc 0 kb ti.el 0 l.toNat l.toNat,[(0,kb,some (.arr e ti.el (List.replicate l.toNat ti.dW)))]⟩
  else none
 |_,_,_=>none
def cr (es:List (List AV)) (size:Nat):Prop:=∀ c∈es,c.length=size
def room (n bytes:Nat):Prop:=n*bytes<=140737488355328/\n<4611686018427387904
instance (n b:Nat):Decidable (room n b):=by unfold room;exact inferInstance
def ic (G:AA) (kb:Nat) (ti:TI) (s x:AV):Option De:=
 match ti.d with
 |.slice e=>match fR G ti.el x with
  |some new=>match s with
   |.nil=>if room new.length ti.qN/\0<ti.el then
     some ⟨.loc 0 kb ti.el 0 new.length new.length,[(0,kb,some (.arr e ti.el new))]⟩ else none
   |.loc l k esz i n g=>match G l k with
    |some (.arr et aC es)=>
     if et=e/\aC=ti.el/\esz=ti.el/\i=0/\n=g/\es.length=g/\room (g+new.length) ti.qN/\0<ti.el then
      some ⟨.loc l k esz 0 (g+new.length) (g+new.length),[(l,k,some (.arr et esz (es++new)))]⟩
     else if (et=e/\aC=ti.el/\esz=ti.el)/\(i=0/\es.length=g)/\n+new.length<=g/\0<ti.el then
      some ⟨.loc l k esz 0 (n+new.length) g,[(l,k,some (.arr et esz (es.take n++(new++es.drop (n+new.length)))))]⟩
     else none
    |_=>none
   |_=>none
  |none=>none
 |_=>none
def pf (G:AA) (ti:TI) (d s:AV):Option De:=
 match ti.d with
 |.slice _=>match fR G ti.el s with
  |some src=>match d with
   |.nil=>some ⟨.int .i64 0,[]⟩
   |.loc l k esz i n g=>match G l k with
    |some (.arr et aC es)=>
     if aC=ti.el/\esz=ti.el/\es.length=g/\i+n<=g then
      some ⟨.int .i64 (min src.length n),[(l,k,some (.arr et esz (es.take i++(src.take n++es.drop (i+min src.length n)))))]⟩
     else none
    |_=>none
   |.bd l k esz o n=>match G l k with
    |some (.box cs)=>
     if l=0/\ti.el=1/\esz=1/\o+n<=cs.length then
      some ⟨.int .i64 (min src.length n),[(0,k,some (.box (overwrite cs o (src.take n).flatten)))]⟩
     else none
    |_=>none
   |_=>none
  |none=>none
 |_=>none
def pe (G:AA) (ti:TI) (d:AV):Option De:=
 match ti.d with
 |.slice _=>match d with
  |.nil=>some ⟨.ak [],[]⟩
  |.loc l k esz i n g=>match G l k with
   |some (.arr et aC es)=>
    if aC=ti.el/\esz=ti.el/\es.length=g/\i+n<=g then
     some ⟨.ak [],[(l,k,some (.arr et esz (es.take i++(List.replicate n ti.dW++es.drop (i+n)))))]⟩
    else none
   |_=>none
  |_=>none
 |_=>none
def wa (kb:Nat) (ti:TI) (a:AV):Option De:=
 match ti.d with
 |.slice e=>match a with
  |.nil|.sl _ _|.loc _ _ _ _ _ _=>some ⟨.loc 0 kb ti.el 0 0 0,[(0,kb,some (.arr e ti.el []))]⟩
  |_=>none
 |_=>none
def xR:Option AV->Option AV->Option AV
 |some v,_=>some v
 |none,b=>b
theorem rK (v:AV) (b:Option AV):xR (some v) b=some v:=rfl
theorem pU (b:Option AV):xR none b=b:=rfl
def jd (G:AA) (ti:TI) (a lo hi:AV):Option AV:=
 match a with
 |.loc lv k esz i _ g=>match ti.d with
  |.slice _=>match lo,hi with
   |.int _ l,.int _ h=>match G lv k with
    |some (.arr _ _ es)=>if (esz=ti.el/\es.length=g)/\(0<=l/\l<=h)/\i+h.toNat<=g then some (.loc lv k esz (i+l.toNat) (h.toNat - l.toNat) g) else none
    |_=>none
   |_,_=>none
  |_=>none
 |_=>none
def sL (ti:TI) (a:AV) (l h m:Int):Option De:=
 match ti.d with
 |.slice _=>match a with
  |.sl esz es=>if (0<=l/\l<=h)/\h<=m/\m<=es.length then some ⟨if esz=ti.el then .sl esz ((es.drop l.toNat).take (h.toNat - l.toNat)) else .dead,[]⟩ else none
  |.loc _ _ _ _ n _=>if (0<=l/\l<=h)/\h<=m/\m<=n then some ⟨.dead,[]⟩ else none
  |_=>none
 |_=>none
def kG (mx:Bool):List AV->Option AV
 |[.int k x]=>some (.int k x)
 |.int k x::.int k' y::l=>if k=k' then kG mx (.int k (if mx then max x y else min x y)::l) else none
 |_=>none
  termination_by l=>l.length
def vG:AV->Option AV
 |.ptr l k o=>some (.ptr l k o)
 |.aR l k e i o g=>some (.aR l k e i o g)
 |.aq e es i o=>some (.aq e es i o)
 |.fn f a b=>match f with
  |.func _=>some (.fn f a b)
  |_=>none
 |_=>none
def cU (r:Option AV):Option De:=r.map fun v=>⟨v,[]⟩
def qM (G:AA) (kb:Nat) (ti:TI) (s:AV) (n:Int):Option De:=
 if 0<=n/\room n.toNat ti.qN/\0<ti.el then ic G kb ti s (.sl ti.el (List.replicate n.toNat ti.dW)) else none
def sK (T:Aw) (G:AA) (kb:Nat) (ti:TI) (s x:AV) (ts:List TypeId):Option De:=
 match ts,x with
 |[t2],.str b=>match T t2 with
  |some uW=>match uW.d with
   |.str=>if ti.el=1 then ic G kb ti s (.sl 1 (iI b)) else none
   |_=>none
  |none=>none
 |[t2],.int _ n=>match T t2 with
  |some uW=>match uW.d with
   |.int _=>qM G kb ti s n
   |_=>none
  |none=>none
 |_,_=>none
def kF (T:Aw) (G:AA) (kb:Nat) (b:Builtin) (ts:List TypeId) (xs:List AV):Option De:=
 match ts with
 |[]=>none
 |t::ts=>match T t with
  |none=>none
  |some ti=>match b with
   |.len=>match xs with
    |[x]=>cU (vF ti x)
    |_=>none
   |.append=>match xs with
    |[s,x]=>if ts=[t] then ic G kb ti s x else sK T G kb ti s x ts
    |_=>none
   |.copy=>match xs with
    |[d,s]=>if ts=[t] then pf G ti d s else none
    |_=>none
   |.clear=>match xs with
    |[d]=>pe G ti d
    |_=>none
   |.max=>cU (kG true xs)
   |.min=>cU (kG false xs)
   |_=>none
def aaU (c:Bool) (x y:Option AV):Option AV:=
 match c with
 |true=>x
 |false=>y
theorem ajr (x y:Option AV):aaU true x y=x:=rfl
theorem ajq (x y:Option AV):aaU false x y=y:=rfl
structure Ai where
 dst:Option Tmp
 op:Op
 type:TypeId
 guard:Option (Tmp×Bool)
 drop:List Nat
def aW (T:Aw) (kb:Nat) (o:Op) (ty:TypeId) (tm:Tm) (G:AA):Option De:=
 match o with
 |.move x=>cU (aN tm x)
 |.assign x=>match aN tm x with
  |some .nil=>match T ty with
   |some ti=>match ti.d with
    |.slice e=>some ⟨.loc 0 kb ti.el 0 0 0,[(0,kb,some (.arr e ti.el []))]⟩
    |_=>none
   |none=>none
  |r=>cU r
 |.pick c a b=>match aN tm c with
  |some (.bool c)=>cU (aaU c (aN tm a) (aN tm b))
  |_=>none
 |.alloc e=>match T e with
  |some ti=>uw kb ti ti.zero
  |none=>none
 |.box e x=>match T e,aN tm x with
  |some ti,some x=>match x.cells with
   |some cs=>uw kb ti cs
   |none=>none
  |_,_=>none
 |.build t ps=>match T t,partsOf tm ps.toList with
  |some ti,some ps=>cU (vA ti ps)
  |_,_=>none
 |.buildSlice t len ps=>match T t,partsOf tm ps.toList with
  |some ti,some ps=>nH G kb ti len ps
  |_,_=>none
 |.load t a=>match T t,aN tm a with
  |some ti,some a=>cU (ly G ti a)
  |_,_=>none
 |.store t a x=>match T t,aN tm a,aN tm x with
  |some ti,some a,some x=>match x.cells with
   |some cs=>nI G kb ti a cs
   |none=>none
  |_,_,_=>none
 |.nilCheck x=>match aN tm x with
  |some x=>cU (vG x)
  |none=>none
 |.binOp op t x y _=>match T t,aN tm x,aN tm y with
  |some ti,some x,some y=>cU (vz ti op x y)
  |_,_,_=>none
 |.unOp op _ x=>match aN tm x with
  |some x=>cU (vH op x)
  |none=>none
 |.convert src dst x=>match T src,T dst,aN tm x with
  |some s,some d,some x=>cU (xR (iM T G s d x) (qx T s d x))
  |_,_,_=>none
 |.makeFunc f a b=>match gN tm a.toList,gN tm b.toList with
  |some a,some b=>some ⟨.fn f a b,[]⟩
  |_,_=>none
 |.makeSlice t l c=>match T t,aN tm l,aN tm c with
  |some ti,some l,some c=>v7 kb ti l c
  |_,_,_=>none
 |.slice t x lo hi mx=>match mx with
  |some mx=>match lo,hi with
   |none,some hi=>match T t,aN tm x,aN tm hi,aN tm mx with
    |some ti,some x,some (.int _ h),some (.int _ m)=>match hi with
     |.const _=>if h=0/\m=0 then wa kb ti x else none
     |_=>sL ti x 0 h m
    |_,_,_,_=>none
   |some lo,some hi=>match T t,aN tm x,aN tm lo,aN tm hi with
    |some ti,some x,some (.int _ l),some (.int _ h)=>match aN tm mx with
     |some (.int _ m)=>sL ti x l h m
     |_=>none
    |_,_,_,_=>none
   |_,_=>none
  |none=>match T t,aN tm x with
   |some ti,some x=>match lo,hi with
    |none,none=>cU (lj ti x none none)
    |some lo,none=>match aN tm lo with
     |some lo=>cU (lj ti x (some lo) none)
     |none=>none
    |none,some hi=>match aN tm hi with
     |some hi=>cU (lj ti x none (some hi))
     |none=>none
    |some lo,some hi=>match aN tm lo,aN tm hi with
     |some lo,some hi=>cU (xR (jd G ti x lo hi) (lj ti x (some lo) (some hi)))
     |_,_=>none
   |_,_=>none
 |.fieldAddr s x f=>match T s,aN tm x with
  |some ti,some x=>cU (vC ti x f)
  |_,_=>none
 |.field s x f=>match T s,aN tm x with
  |some ti,some x=>cU (vB ti x f)
  |_,_=>none
 |.indexAddr t x i=>match T t,aN tm x,aN tm i with
  |some ti,some x,some i=>cU (vE ti x i)
  |_,_,_=>none
 |.index t x i=>match T t,aN tm x,aN tm i with
  |some ti,some x,some i=>cU (vD ti x i)
  |_,_,_=>none
 |.extract x i=>match aN tm x with
  |some (.ak vs)=>cU vs[i]?
  |_=>none
 |.sliceToArrayPointer t x=>match T t,aN tm x with
  |some ti,some (.loc l k esz i n g)=>match ti.d with
   |.array m _=>if esz=ti.el/\m<=n/\0<m then some ⟨.aR l k esz i 0 g,[]⟩ else none
   |_=>none
  |_,_=>none
 |.makeInterface t x=>match T t,aN tm x with
  |some ti,some x=>match ti.d with
   |.iface=>none
   |_=>some ⟨.bA t x,[]⟩
  |_,_=>none
 |.call c=>match c.callee with
  |.builtin b=>match gN tm c.args.toList with
   |some xs=>kF T G kb b c.argTypes.toList xs
   |none=>none
  |_=>none
 |_=>none
inductive SC where
 |skip
 |ja (ops:List Ai)
 |bB (ops:List Ai) (nA:List (List Nat)) (drop:List Nat)
 |seq (a b:SC)
 |cond (c:Operand) (x y:SC)
 |block (id:Nat) (b:SC)
 |loop (b:SC)
 |exit (id:Nat)
 |ret
 |other
 |mark (b:SC)
 deriving Inhabited
inductive It where
 |sc (c:SC)
 |aj (id:Nat)
 |ops (l:List Ai)
 |back (B:St->Prop)
inductive Ev where
 |stuck
 |call (f:FuncId) (args:List AV) (dst:Option Tmp) (drop:List Nat) (todo:List It) (st:St)
 |loop (b:SC) (todo:List It) (st:St)
 |draw (ops:List Ai) (nA:List (List Nat)) (drop:List Nat) (todo:List It) (st:St)
 |back (B:St->Prop) (st:St)
 |fin (e:Exit) (st:St)
 |either (es:List (List AV)) (t:List It) (st s1:St)
 |throw (v:AV) (st:St)
 |mark (b:SC) (todo:List It) (st:St)
def St.get (st:St):AA:=fun l k=>Heap.get (st.fr::st.low) l k
def St.qm (st:St):Heap->St
 |[]=>st
 |f::H=>{ st with fr:=f,low:=H }
def kr (tm:List (Nat×AV)) (dst:Option Tmp) (v:AV):List (Nat×AV):=
 match dst with
 |some d=>ins tm d v
 |none=>tm
def St.by (st:St) (dst:Option Tmp) (drop:List Nat) (d:De):St:=
 St.qm { st with tm:=cd (kr st.tm dst d.val) drop,nx:=st.nx+16 } (Heap.bk (st.fr::st.low) d.jb)
def callee (tm:Tm) (c:Call):Option (FuncId×List AV):=
 match c.callee with
 |.value f=>match aN tm f,gN tm c.args.toList with
  |some (.fn (.func g) first cap),some args=>some (g,first++(args++cap))
  |_,_=>none
 |_=>none
def gj:Nat->List It->Option (List It)
 |_,[]=>none
 |id,.aj od::t=>if id=od then some t else gj id t
 |id,_::t=>gj id t
def iy:Op->Option Call
 |.call c=>match c.callee with
  |.builtin _=>none
  |_=>some c
 |_=>none
def two (f:List It->St->Ev) (b:Bool) (t:List It) (s:St) (t':List It) (s':St):Ev:=
 match b with
 |true=>f t s
 |false=>f t' s'
theorem abb (f:List It->St->Ev) (t:List It) (s:St) (t':List It) (s':St):two f true t s t' s'=f t s:=rfl
theorem aba (f:List It->St->Ev) (t:List It) (s:St) (t':List It) (s':St):two f false t s t' s'=f t' s':=rfl
def next (f:List It->St->Ev) (t:List It) (st:St) (dst:Option Tmp) (drop:List Nat):Option De->Ev
 |some d=>f t (st.by dst drop d)
 |none=>.stuck
theorem ai0 (f:List It->St->Ev) (t:List It) (st:St) (dst:Option Tmp) (drop:List Nat) (d:De):next f t st dst drop (some d)=f t (st.by dst drop d):=rfl
def aaL (t:List It) (st:St) (dst:Option Tmp) (drop:List Nat):Option (FuncId×List AV)->Ev
 |some (f,args)=>.call f (AV.ck 1 args) dst drop t st
 |none=>.stuck
theorem aiY (t:List It) (st:St) (dst:Option Tmp) (drop:List Nat) (g:FuncId) (args:List AV):aaL t st dst drop (some (g,args))=.call g (AV.ck 1 args) dst drop t st:=rfl
def xO (T:Aw) (o:Op) (tm:Tm):Option (List (List AV)):=
 match o with
 |.binOp .eql t (.tmp x) (.const (.slice none 0 0)) _=>match T t with
  |some ti=>match ti.d with
   |.slice _=>match tm x with
    |some (.sl _ es)=>some es
    |_=>none
   |_=>none
  |none=>none
 |_=>none
def uG (o:Ai) (t:List It) (st:St) (e:Ev):Option (List (List AV))->Ev
 |some es=>.either es t (st.by o.dst o.drop ⟨.bool true,[]⟩) (st.by o.dst o.drop ⟨.bool false,[]⟩)
 |none=>e
theorem ajh (o:Ai) (t:List It) (st:St) (e:Ev) (es:List (List AV)):uG o t st e (some es)=.either es t (st.by o.dst o.drop ⟨.bool true,[]⟩) (st.by o.dst o.drop ⟨.bool false,[]⟩):=rfl
theorem ajg (o:Ai) (t:List It) (st:St) (e:Ev):uG o t st e none=e:=rfl
def aaA:Op->Option Operand
 |.panic x=>some x
 |_=>none
def aa9 (st:St):Option AV->Ev
 |some v=>.throw v st
 |none=>.stuck
def v8 (T:Aw) (f:List It->St->Ev) (o:Ai) (t:List It) (st:St):Ev:=
 match iy o.op with
 |some c=>aaL t st o.dst o.drop (callee (look st.tm) c)
 |none=>match aaA o.op with
  |some x=>aa9 st (aN (look st.tm) x)
  |none=>uG o t st (next f t st o.dst o.drop (aW T st.nx o.op o.type (look st.tm) st.get)) (xO T o.op (look st.tm))
def St.jL (st:St) (o:Ai):St:=st.by o.dst o.drop ⟨.ak [],[]⟩
def run (T:Aw):Nat->List It->St->Ev
 |0,_,_=>.stuck
 |_+1,[],st=>.fin .normal st
 |n+1,.aj _::t,st=>run T n t st
 |_+1,.back B::_,st=>.back B st
 |n+1,.ops []::t,st=>run T n t st
 |n+1,.ops (o::os)::t,st=>match o.guard with
  |none=>v8 T (run T n) o (.ops os::t) st
  |some (g,w)=>match look st.tm g with
   |some (.bool b)=>two (run T n) (b==w) (.ops (⟨o.dst,o.op,o.type,none,o.drop⟩::os)::t) st (.ops os::t) (st.jL o)
   |some (.ak [])=>run T n (.ops os::t) (st.jL o)
   |_=>.stuck
 |n+1,.sc .skip::t,st=>run T n t st
 |n+1,.sc (.ja ops)::t,st=>run T n (.ops ops::t) st
 |_+1,.sc (.bB ops nA drop)::t,st=>.draw ops nA drop t st
 |n+1,.sc (.seq a b)::t,st=>run T n (.sc a::.sc b::t) st
 |n+1,.sc (.cond c x y)::t,st=>match aN (look st.tm) c with
  |some (.bool b)=>two (run T n) b (.sc x::t) st (.sc y::t) st
  |_=>.stuck
 |n+1,.sc (.block id b)::t,st=>run T n (.sc b::.aj id::t) st
 |_+1,.sc (.loop b)::t,st=>.loop b t st
 |n+1,.sc (.exit id)::t,st=>match gj id t with
  |some t'=>run T n t' st
  |none=>.fin (.exit id) st
 |_+1,.sc .ret::_,st=>.fin .ret st
 |_+1,.sc .other::_,_=>.stuck
 |_+1,.sc (.mark b)::t,st=>.mark b t st
end Go.Abs
namespace Go.Abs
open Go Go.RowKit
theorem oo {α:Type} (l:List (Nat×α)) (t:Nat) (v:α) (u:Nat):look (ins l t v) u=if t=u then some v else look l u:=by
 induction l with
 |nil=>simp[ins,look]
 |cons p l ih=>
  obtain⟨k,x⟩:=p
  simp only[ins]
  split
  ·simp only[look]
  ·split
   ·subst_vars
    simp only[look]
    by_cases h:k=u<;>simp[h]
   ·simp only[look,ih]
    by_cases h:k=u
    ·subst h;simp;intro h;omega
    ·simp[h]
theorem uq {α:Type} (l:List (Nat×α)) (t u:Nat):look (del l t) u=if t=u then none else look l u:=by
 induction l with
 |nil=>simp[del,look]
 |cons p l ih=>
  obtain⟨k,x⟩:=p
  simp only[del]
  split
  ·rename_i hk
   subst hk
   rw[ih]
   simp only[look]
   by_cases h:k=u<;>simp[h]
  ·simp only[look,ih]
   by_cases h:k=u
   ·subst h;simp;intro h;omega
   ·simp[h]
theorem ur {α:Type} (ts:List Nat):∀ (l:List (Nat×α)) (u:Nat) (x:α),look (cd l ts) u=some x->look l u=some x:=by
 induction ts with
 |nil=>intro l u x h;exact h
 |cons t ts ih=>
  intro l u x h
  have:=ih _ _ _ h
  rw[uq]at this
  split at this
  ·cases this
  ·exact this
theorem Heap.mH (H:Heap) (l k:Nat) (b:Option Ap):∀ (l' k':Nat),(H.put l k b).get l' k'=if l=l'/\k=k'/\l<H.length then b else H.get l' k':=by
 induction H generalizing l with
 |nil=>intro l' k';simp[Heap.put,Heap.get]
 |cons f H ih=>
  intro l' k'
  cases l with
  |zero=>
   cases b with
   |some b=>
    simp only[Heap.put]
    cases l' with
    |zero=>simp[Heap.get,oo]
    |succ l'=>simp[Heap.get]
   |none=>
    simp only[Heap.put]
    cases l' with
    |zero=>simp[Heap.get,uq]
    |succ l'=>simp[Heap.get]
  |succ l=>
   simp only[Heap.put]
   cases l' with
   |zero=>simp[Heap.get]
   |succ l'=>
    simp only[Heap.get,ih]
    simp
@[simp] theorem Heap.aiH (H:Heap) (l k:Nat) (b:Option Ap):(H.put l k b).length=H.length:=by
 induction H generalizing l with
 |nil=>rfl
 |cons f H ih=>cases l<;>cases b<;>simp[Heap.put,ih]
@[simp] theorem Heap.adB (s:List (Nat×Nat×Option Ap)):∀ H:Heap,(H.bk s).length=H.length:=by
 induction s with
 |nil=>intro H;rfl
 |cons p s ih=>obtain⟨l,k,b⟩:=p;intro H;simp[Heap.bk,ih]
theorem Heap.mb (s t:List (Nat×Nat×Option Ap)):∀ H:Heap,H.bk (s++t)=(H.bk s).bk t:=by
 induction s with
 |nil=>intro H;rfl
 |cons p s ih=>obtain⟨l,k,b⟩:=p;intro H;simp[Heap.bk,ih]
theorem Heap.nM (H:Heap):∀ (l k:Nat) (b:Ap),H.get l k=some b->l<H.length:=by
 induction H with
 |nil=>intro l k b h;simp[Heap.get]at h
 |cons f H ih=>
  intro l k b h
  cases l with
  |zero=>simp
  |succ l=>simp only[Heap.get]at h;have:=ih _ _ _ h;simp;omega
theorem Heap.ak0 (d:Nat):∀ (H:Heap) (l k:Nat),Heap.get (H.drop d) l k=H.get (l+d) k:=by
 induction d with
 |zero=>intro H l k;simp
 |succ d ih=>
  intro H l k
  cases H with
  |nil=>simp[Heap.get]
  |cons f H=>simp only[List.drop_succ_cons,ih];rw[show l+(d+1)=(l+d)+1 from by omega];simp[Heap.get]
inductive TB where
 |box (c:Nat)
 |arr (m:Nat) (c:Option (Nat×Nat))
 |gone
abbrev Ah:=Nat->Option TB
abbrev FM:=Nat->Nat->Option Value
def tb:List Ah->Nat->Nat->Option TB
 |[],_,_=>none
 |t::_,0,k=>t k
 |_::ts,l+1,k=>tb ts l k
def ca:List Ah->Nat->Nat->TB->List Ah
 |[],_,_,_=>[]
 |t::ts,0,k,x=>(fun j=>if j=k then some x else t j)::ts
 |t::ts,l+1,k,x=>t::ca ts l k x
theorem cY (ts:List Ah):∀ (l k:Nat) (x:TB) (l' k':Nat),tb (ca ts l k x) l' k'=if l=l'/\k=k'/\l<ts.length then some x else tb ts l' k':=by
 induction ts with
 |nil=>intro l k x l' k';simp[ca,tb]
 |cons t ts ih=>
  intro l k x l' k'
  cases l with
  |zero=>
   cases l' with
   |zero=>simp only[ca,tb];simp[eq_comm]
   |succ l'=>simp[ca,tb]
  |succ l=>
   cases l' with
   |zero=>simp[ca,tb]
   |succ l'=>simp[ca,tb,ih]
@[simp] theorem alk (ts:List Ah):∀ (l k:Nat) (x:TB),(ca ts l k x).length=ts.length:=by
 induction ts with
 |nil=>intro l k x;rfl
 |cons t ts ih=>intro l k x;cases l<;>simp[ca,ih]
theorem dC (d:Nat):∀ (ts:List Ah) (l k:Nat),tb (ts.drop d) l k=tb ts (l+d) k:=by
 induction d with
 |zero=>intro ts l k;simp
 |succ d ih=>
  intro ts l k
  cases ts with
  |nil=>simp[tb]
  |cons t ts=>simp only[List.drop_succ_cons,ih];rw[show l+(d+1)=(l+d)+1 from by omega];simp[tb]
inductive VR (fm:FM):List Ah->AV->Value->Prop
 |bool {ts} (b:Bool):VR fm ts (.bool b) (.bool b)
 |int {ts} (k:IntKind) (n:Int):VR fm ts (.int k n) (.int k n)
 |str {ts} (s:ByteArray):VR fm ts (.str s) (.string s)
 |nil {ts}:VR fm ts .nil (.slice none 0 0)
 |cm {ts} (e:Nat) (a:Option Addr) (cap:Nat):VR fm ts (.sl e []) (.slice a 0 cap)
 |sl {ts} (es:List (List AV)) (cb off esz cap:Nat) (u:Nat->Nat->Value) (cD:es.length<=cap/\es.length<=maxLen) (h1:cr es esz)
   (h2:∀ (i:Nat) (c:List AV) (o:Nat) (x:AV),es[i]?=some c->c[o]?=some x->fm cb (off+(i*esz+o))=some (u i o))
   (h3:∀ (i:Nat) (c:List AV) (o:Nat) (x:AV),es[i]?=some c->c[o]?=some x->x.flat=true)
   (h4:∀ (i:Nat) (c:List AV) (o:Nat) (x:AV),es[i]?=some c->c[o]?=some x->VR fm [] x (u i o)):VR fm ts (.sl esz es) (.slice (some ⟨cb,off,none⟩) es.length cap)
 |bW {ts} (l k esz i n g:Nat) (a:Option Addr) (cp:Nat) (h:tb ts l k=some .gone) (hn:n<=cp) (ha:0<n->∃ p,a=some p):VR fm ts (.loc l k esz i n g) (.slice a n cp)
 |bX {ts} (l k esz i n g:Nat) (a:Option Addr) (cp m':Nat) (c:Option (Nat×Nat)) (h:tb ts l k=some (.arr m' c)) (ab:g<m') (hn:n<=cp) (ha:0<n->∃ p,a=some p):VR fm ts (.loc l k esz i n g) (.slice a n cp)
 |bI {ts} (l k esz:Nat) (a:Option Addr) (h:tb ts l k=some (.arr 0 none)):VR fm ts (.loc l k esz 0 0 0) (.slice a 0 0)
 |loc {ts} (l k esz i n g c cap cp:Nat) (a:Addr) (h:tb ts l k=some (.arr g (some (c,cap)))) (hn:i+n<=g) (bh:n<=cp) (hc:i+cp=cap) (ha:cp≠0\/i=0->a=⟨c,i*esz,none⟩):VR fm ts (.loc l k esz i n g) (.slice (some a) n cp)
 |bd {ts} (l k esz o n c cp:Nat) (a:Addr) (h:tb ts l k=some (.box c)) (hn:n<=cp) (ha:cp≠0->a=⟨c,o,none⟩):VR fm ts (.bd l k esz o n) (.slice (some a) n cp)
 |bf {ts}:VR fm ts .bf (.pointer none)
 |ptr {ts} (l k o c:Nat) (h:tb ts l k=some (.box c)):VR fm ts (.ptr l k o) (.pointer (some ⟨c,o,none⟩))
 |dF {ts} (l k esz i o g:Nat) (a:Addr) (h:tb ts l k=some .gone):VR fm ts (.aR l k esz i o g) (.pointer (some a))
 |dG {ts} (l k esz i o g:Nat) (a:Addr) (m':Nat) (c:Option (Nat×Nat)) (h:tb ts l k=some (.arr m' c)) (ab:g<m'):VR fm ts (.aR l k esz i o g) (.pointer (some a))
 |aR {ts} (l k esz i o g c cap:Nat) (h:tb ts l k=some (.arr g (some (c,cap)))):VR fm ts (.aR l k esz i o g) (.pointer (some ⟨c,i*esz+o,none⟩))
 |aq {ts} (es:List (List AV)) (i o cb off esz:Nat) (u:Nat->Nat->Value) (h1:cr es esz)
   (h2:∀ (i:Nat) (c:List AV) (o:Nat) (x:AV),es[i]?=some c->c[o]?=some x->fm cb (off+(i*esz+o))=some (u i o))
   (h3:∀ (i:Nat) (c:List AV) (o:Nat) (x:AV),es[i]?=some c->c[o]?=some x->x.flat=true)
   (h4:∀ (i:Nat) (c:List AV) (o:Nat) (x:AV),es[i]?=some c->c[o]?=some x->VR fm [] x (u i o)):VR fm ts (.aq esz es i o) (.pointer (some ⟨cb,off+(i*esz+o),none⟩))
 |bo {ts}:VR fm ts .bo .nilFunc
 |fn {ts} (f:Fn) (first cap:List AV) (vf vc:Array Value) (h1:first.length=vf.size) (h2:cap.length=vc.size)
   (h3:∀ (i:Nat) x v,first[i]?=some x->vf[i]?=some v->VR fm ts x v)
   (h4:∀ (i:Nat) x v,cap[i]?=some x->vc[i]?=some v->VR fm ts x v):VR fm ts (.fn f first cap) (.func f vf vc)
 |bp {ts}:VR fm ts .bp .nilIface
 |mp {ts} (r:Option Nat):VR fm ts (.mp r) (.map r)
 |bA {ts} (t:TypeId) (x:AV) (v:Value) (h:VR fm ts x v):VR fm ts (.bA t x) (.iface t v)
 |agg {ts} (cs:List AV) (vs:Array Value) (h1:cs.length=vs.size) (h2:∀ x∈cs,x.flat=true)
   (h3:∀ (i:Nat) x v,cs[i]?=some x->vs[i]?=some v->VR fm ts x v):VR fm ts (.agg cs) (.agg vs)
 |ak {ts} (xs:List AV) (vs:Array Value) (h1:xs.length=vs.size)
   (h3:∀ (i:Nat) x v,xs[i]?=some x->vs[i]?=some v->VR fm ts x v):VR fm ts (.ak xs) (.tuple vs)
 |dead {ts} (v:Value):VR fm ts .dead v
def Am (fm:FM) (ts:List Ah) (xs:List AV) (vs:List Value):Prop:=xs.length=vs.length/\∀ (i:Nat) x v,xs[i]?=some x->vs[i]?=some v->VR fm ts x v
def AM (fm fm':FM):Prop:=∀ b o v,fm b o=some v->fm' b o=some v
def AX:Option TB->Option TB->Prop
 |none,_=>True
 |some .gone,x=>x=some .gone
 |some (.box c),x=>x=some (.box c)
 |some (.arr m c),x=>x=some (.arr m c)\/x=some .gone\/∃ m' c',x=some (.arr m' c')/\m<m'
def Ak (ts ts':List Ah):Prop:=∀ l k,AX (tb ts l k) (tb ts' l k)
theorem AX.refl (x:Option TB):AX x x:=by
 cases x with
 |none=>trivial
 |some x=>cases x<;>simp[AX]
theorem AX.trans {x y z:Option TB} (h:AX x y) (h':AX y z):AX x z:=by
 cases x with
 |none=>trivial
 |some x=>
  cases x with
  |gone=>simp only[AX]at h;subst h;exact h'
  |box c=>simp only[AX]at h;subst h;exact h'
  |arr m c=>
   simp only[AX]at h
   rcases h with rfl|rfl|⟨m',c',rfl,ab⟩
   ·exact h'
   ·simp only[AX]at h';subst h';simp[AX]
   ·simp only[AX]at h' ⊢
    rcases h' with rfl|rfl|⟨lX,c'',rfl,gp⟩
    ·exact .inr (.inr ⟨_,_,rfl,ab⟩)
    ·exact .inr (.inl rfl)
    ·exact .inr (.inr ⟨_,_,rfl,by omega⟩)
theorem Ak.refl (ts:List Ah):Ak ts ts:=fun _ _=>AX.refl _
theorem Ak.trans {a b c:List Ah} (h:Ak a b) (h':Ak b c):Ak a c:=fun l k=>(h l k).trans (h' l k)
theorem AM.refl (fm:FM):AM fm fm:=fun _ _ _ h=>h
theorem AM.trans {a b c:FM} (h:AM a b) (h':AM b c):AM a c:=fun _ _ _ x=>h' _ _ _ (h _ _ _ x)
theorem Ak.drop {ts ts':List Ah} (h:Ak ts ts') (d:Nat):Ak (ts.drop d) (ts'.drop d):=by
 intro l k;rw[dC,dC];exact h _ _
theorem Ak.nil (ts:List Ah):Ak [] ts:=fun _ _=>trivial
theorem AX.box {x y:Option TB}{c:Nat} (h:AX x y) (hx:x=some (.box c)):y=some (.box c):=by subst hx;exact h
theorem AX.gone {x y:Option TB} (h:AX x y) (hx:x=some .gone):y=some .gone:=by subst hx;exact h
theorem AX.arr {x y:Option TB}{m:Nat}{c:Option (Nat×Nat)} (h:AX x y) (hx:x=some (.arr m c)):y=some (.arr m c)\/y=some .gone\/∃ m' c',y=some (.arr m' c')/\m<m':=by subst hx;exact h
theorem VR.mono {fm fm':FM} (hf:AM fm fm') {ts:List Ah}{x:AV}{v:Value} (h:VR fm ts x v):∀ {ts':List Ah},Ak ts ts'->VR fm' ts' x v:=by
 induction h with
 |bool b=>intro ts' _;exact .bool b
 |int k n=>intro ts' _;exact .int k n
 |str s=>intro ts' _;exact .str s
 |nil=>intro ts' _;exact .nil
 |cm e a cap=>intro ts' _;exact .cm e a cap
 |sl es cb off esz cap u cD h1 h2 h3 _ ih=>intro ts' _;exact .sl es cb off esz cap u cD h1 (fun i c o x a b=>hf _ _ _ (h2 i c o x a b)) h3 (fun i c o x a b=>ih i c o x a b (Ak.refl _))
 |bW l k esz i n g a cp h hn ha=>intro ts' hl;exact .bW l k esz i n g a cp ((hl l k).gone h) hn ha
 |bX l k esz i n g a cp m' c h ab hn ha=>
  intro ts' hl
  rcases (hl l k).arr h with h|h|⟨lX,c',h,h'⟩
  ·exact .bX l k esz i n g a cp m' c h ab hn ha
  ·exact .bW l k esz i n g a cp h hn ha
  ·exact .bX l k esz i n g a cp lX c' h (by omega) hn ha
 |bI l k esz a h=>
  intro ts' hl
  rcases (hl l k).arr h with h|h|⟨lX,c',h,h'⟩
  ·exact .bI l k esz a h
  ·exact .bW l k esz _ _ _ _ _ h (A7 _) (fun h=>absurd h (by omega))
  ·exact .bX l k esz _ _ _ _ _ lX c' h (by omega) (A7 _) (fun h=>absurd h (by omega))
 |loc l k esz i n g c cap cp a h hn bh hc ha=>
  intro ts' hl
  rcases (hl l k).arr h with h|h|⟨lX,c',h,h'⟩
  ·exact .loc l k esz i n g c cap cp a h hn bh hc ha
  ·exact .bW l k esz _ _ _ _ _ h bh (fun _=>⟨a,rfl⟩)
  ·exact .bX l k esz _ _ _ _ _ lX c' h (by omega) bh (fun _=>⟨a,rfl⟩)
 |bd l k esz o n c cp a h hn ha=>intro ts' hl;exact .bd l k esz o n c cp a ((hl l k).box h) hn ha
 |bf=>intro ts' _;exact .bf
 |ptr l k o c h=>intro ts' hl;exact .ptr l k o c ((hl l k).box h)
 |dF l k esz i o g a h=>intro ts' hl;exact .dF l k esz i o g a ((hl l k).gone h)
 |dG l k esz i o g a m' c h ab=>
  intro ts' hl
  rcases (hl l k).arr h with h|h|⟨lX,c',h,h'⟩
  ·exact .dG l k esz i o g a m' c h ab
  ·exact .dF l k esz i o g a h
  ·exact .dG l k esz i o g a lX c' h (by omega)
 |aR l k esz i o g c cap h=>
  intro ts' hl
  rcases (hl l k).arr h with h|h|⟨lX,c',h,h'⟩
  ·exact .aR l k esz i o g c cap h
  ·exact .dF l k esz i o g _ h
  ·exact .dG l k esz i o g _ lX c' h (by omega)
 |aq es i o cb off esz u h1 h2 h3 _ ih=>intro ts' _;exact .aq es i o cb off esz u h1 (fun i c o x a b=>hf _ _ _ (h2 i c o x a b)) h3 (fun i c o x a b=>ih i c o x a b (Ak.refl _))
 |bo=>intro ts' _;exact .bo
 |fn f first cap vf vc h1 h2 _ _ fE eP=>intro ts' hl;exact .fn f first cap vf vc h1 h2 (fun i x v a b=>fE i x v a b hl) (fun i x v a b=>eP i x v a b hl)
 |bp=>intro ts' _;exact .bp
 |mp r_=>intro ts' _;exact .mp r_
 |bA t x v _ ih=>intro ts' hl;exact .bA t x v (ih hl)
 |agg cs vs h1 h2 _ ih=>intro ts' hl;exact .agg cs vs h1 h2 (fun i x v a b=>ih i x v a b hl)
 |ak xs vs h1 _ ih=>intro ts' hl;exact .ak xs vs h1 (fun i x v a b=>ih i x v a b hl)
 |dead v=>intro ts' _;exact .dead v
theorem VR.ai6 {fm:FM}{ts:List Ah}{x:AV}{v:Value} (h:VR fm ts x v) (hx:x.flat=true):v.oneCell'=true:=by
 cases h<;>first|rfl|(simp[AV.flat]at hx)
def b9:Option TB->Option Nat
 |some (.box c)=>some c
 |some (.arr _ (some (c,_)))=>some c
 |_=>none
def DX (fm:FM) (ts:List Ah) (w:World) (c:Nat) (cs:List AV):Prop:=
 ∃ cells et,w.heap[c]?=some (.cells cells et (0,0))/\cells.size=cs.length/\
  ∀ (o:Nat) (x:AV) (v:Value),cs[o]?=some x->cells[o]?=some v->x.flat=true/\VR fm ts x v
def Cr (fm:FM) (w:World) (et esz:Nat) (es:List (List AV)) (c cap:Nat):Prop:=
 ∃ cells,w.heap[c]?=some (.cells cells et (0,0))/\cells.size=cap*esz/\es.length<=cap/\cap<=maxLen/\cr es esz/\0<esz/\
  ∀ (i:Nat) (cc:List AV) (o:Nat) (x:AV) (v:Value),es[i]?=some cc->cc[o]?=some x->cells[i*esz+o]?=some v->x.flat=true/\VR fm [] x v
inductive BR (fm:FM) (ts:List Ah) (w:World) (N0:Nat):Option TB->Ap->Prop
 |box (c:Nat) (cs:List AV) (hN:N0<=c) (h:DX fm ts w c cs):BR fm ts w N0 (some (.box c)) (.box cs)
 |nil (et esz:Nat):BR fm ts w N0 (some (.arr 0 none)) (.arr et esz [])
 |arr (et esz:Nat) (es:List (List AV)) (c cap:Nat) (hN:N0<=c) (h:Cr fm w et esz es c cap):BR fm ts w N0 (some (.arr es.length (some (c,cap)))) (.arr et esz es)
def m9:Obj->Bool
 |.cells ..=>false
 |_=>true
structure HR (N0:Nat) (W0:World) (fm:FM) (ts:List Ah) (H:Heap) (w:World):Prop where
 len:ts.length=H.length
 aj:∀ l k b,H.get l k=some b->BR fm (ts.drop l) w N0 (tb ts l k) b
 inj:∀ l k l' k' b b' c,H.get l k=some b->H.get l' k'=some b'->b9 (tb ts l k)=some c->b9 (tb ts l' k')=some c->l=l'/\k=k'
 bL:∀ b o v,fm b o=some v->w.cell? ⟨b,o,none⟩=some v
 dx:∀ l k b c o,H.get l k=some b->b9 (tb ts l k)=some c->fm c o=none
 bJ:Below N0 W0 w
 size:N0<=w.heap.size
 bj:∀ (b:Nat) (o:Obj),W0.heap[b]?=some o->m9 o=true->w.heap[b]?=some o
theorem DX.mono {fm fm':FM}{ts ts':List Ah}{w w':World}{c:Nat}{cs:List AV} (h:DX fm ts w c cs) (hf:AM fm fm') (ht:Ak ts ts') (hw:w'.heap[c]?=w.heap[c]?):DX fm' ts' w' c cs:=by
 obtain⟨cells,et,h1,h2,h3⟩:=h
 exact⟨cells,et,hw.trans h1,h2,fun o x v a b=>⟨(h3 o x v a b).1,(h3 o x v a b).2.mono hf ht⟩⟩
theorem Cr.mono {fm fm':FM}{w w':World}{et esz:Nat}{es:List (List AV)}{c cap:Nat} (h:Cr fm w et esz es c cap) (hf:AM fm fm') (hw:w'.heap[c]?=w.heap[c]?):Cr fm' w' et esz es c cap:=by
 obtain⟨cells,h1,h2,h3,h4,h5,h6,h7⟩:=h
 exact⟨cells,hw.trans h1,h2,h3,h4,h5,h6,fun i cc o x v a b d=>⟨(h7 i cc o x v a b d).1,(h7 i cc o x v a b d).2.mono hf (Ak.refl _)⟩⟩
theorem BR.mono {fm fm':FM}{ts ts':List Ah}{w w':World}{N0:Nat}{t:Option TB}{b:Ap} (h:BR fm ts w N0 t b) (hf:AM fm fm') (ht:Ak ts ts')
  (hw:∀ c,b9 t=some c->w'.heap[c]?=w.heap[c]?):BR fm' ts' w' N0 t b:=by
 cases h with
 |box c cs hN h=>exact .box c cs hN (h.mono hf ht (hw c rfl))
 |nil et esz=>exact .nil et esz
 |arr et esz es c cap hN h=>exact .arr et esz es c cap hN (h.mono hf (hw c rfl))
theorem BR.lt {fm:FM}{ts:List Ah}{w:World}{N0:Nat}{t:Option TB}{b:Ap} (h:BR fm ts w N0 t b) {c:Nat} (hc:b9 t=some c):c<w.heap.size/\N0<=c:=by
 cases h with
 |box c' cs hN h=>
  simp only[b9,oE]at hc;subst hc
  obtain⟨cells,et,h1,_⟩:=h
  exact⟨(BY.1 h1).1,hN⟩
 |nil et esz=>simp[b9]at hc
 |arr et esz es c' cap hN h=>
  simp only[b9,oE]at hc;subst hc
  obtain⟨cells,h1,_⟩:=h
  exact⟨(BY.1 h1).1,hN⟩
theorem ako (ts:List Ah):∀ (l k:Nat) (x:TB),tb ts l k=some x->l<ts.length:=by
 induction ts with
 |nil=>intro l k x h;simp[tb]at h
 |cons t ts ih=>
  intro l k x h
  cases l with
  |zero=>simp
  |succ l=>simp only[tb]at h;have:=ih _ _ _ h;simp;omega
theorem Ak.set {ts:List Ah}{l k:Nat}{x:TB} (h:AX (tb ts l k) (some x)):Ak ts (ca ts l k x):=by
 intro l' k'
 rw[cY]
 split
 ·rename_i hh;obtain⟨rfl,rfl,_⟩:=hh;exact h
 ·exact AX.refl _
section
variable {N0:Nat}{W0:World}{fm:FM}{ts:List Ah}{H:Heap}{w:World}
theorem HR.yw (h:HR N0 W0 fm ts H w) {w':World}{l k c:Nat}{x:TB}{b:Ap} (hl:l<H.length) (hx:b9 (some x)=some c)
  (hw:∀ i,i≠c->i<w.heap.size->w'.heap[i]?=w.heap[i]?) (lH:Below N0 w w') (kV:∀ o,w.heap[c]?=some o->m9 o=false) (hle:AX (tb ts l k) (some x))
  (hc:∀ l' k' b',H.get l' k'=some b'->b9 (tb ts l' k')=some c->l'=l/\k'=k) (hfm:∀ o,fm c o=none)
  (pt:BR fm ((ca ts l k x).drop l) w' N0 (some x) b):HR N0 W0 fm (ca ts l k x) (H.put l k (some b)) w':=by
 have hT:Ak ts (ca ts l k x):=Ak.set hle
 have ab:l<ts.length:=by rw[h.len];exact hl
 have other:∀ l' k',¬ (l=l'/\k=k')->tb (ca ts l k x) l' k'=tb ts l' k':=by
  intro l' k' bg
  rw[cY,if_neg (fun hh=>bg ⟨hh.1,hh.2.1⟩)]
 have same:tb (ca ts l k x) l k=some x:=by rw[cY,if_pos ⟨rfl,rfl,ab⟩]
 have lC:∀ l' k',¬ (l=l'/\k=k')->(H.put l k (some b)).get l' k'=H.get l' k':=by
  intro l' k' bg
  rw[Heap.mH,if_neg (fun hh=>bg ⟨hh.1,hh.2.1⟩)]
 have zR:(H.put l k (some b)).get l k=some b:=by rw[Heap.mH,if_pos ⟨rfl,rfl,hl⟩]
 refine⟨by simp[h.len],?_,?_,?_,?_,h.bJ.trans lH,C2 h.size lH.size,fun b o h0 ho=>?_⟩
 rotate_right
 ·have hb:=h.bj b o h0 ho
  have bg:b≠c:=fun e=>by subst e;rw[kV o hb]at ho;cases ho
  exact(hw b bg (BY.1 hb).1).trans hb
 ·intro l' k' b' hg
  by_cases he:l=l'/\k=k'
  ·obtain⟨rfl,rfl⟩:=he
   rw[zR]at hg
   obtain rfl:=oi hg
   rw[same]
   exact pt
  ·rw[lC _ _ he]at hg
   rw[other _ _ he]
   refine(h.aj l' k' b' hg).mono (AM.refl _) (hT.drop l') (fun c' j5=>hw c' ?_ ((h.aj l' k' b' hg).lt j5).1)
   intro e
   subst e
   exact he (let ⟨a,b⟩:=hc l' k' b' hg j5;⟨a.symm,b.symm⟩)
 ·intro l1 k1 l2 k2 b1 b2 c' g1 g2 t1 t2
  by_cases e1:l=l1/\k=k1
  ·obtain⟨rfl,rfl⟩:=e1
   by_cases e2:l=l2/\k=k2
   ·exact e2
   ·rw[same]at t1
    rw[other _ _ e2]at t2
    rw[lC _ _ e2]at g2
    rw[hx]at t1
    obtain rfl:=oi t1
    have:=hc l2 k2 b2 g2 t2
    exact⟨this.1.symm,this.2.symm⟩
  ·rw[other _ _ e1]at t1
   rw[lC _ _ e1]at g1
   by_cases e2:l=l2/\k=k2
   ·obtain⟨rfl,rfl⟩:=e2
    rw[same,hx]at t2
    obtain rfl:=oi t2
    exact hc l1 k1 b1 g1 t1
   ·rw[other _ _ e2]at t2
    rw[lC _ _ e2]at g2
    exact h.inj l1 k1 l2 k2 b1 b2 c' g1 g2 t1 t2
 ·intro b' o v hv
  have bg:b'≠c:=fun e=>by subst e;rw[hfm]at hv;cases hv
  have e9:=h.bL b' o v hv
  have hb:b'<w.heap.size:=World.block_lt_of_cell? w _ e9
  rw[<-e9]
  exact World.cell?_of_block (w:=w) (w':=w') (a:=⟨b',o,none⟩) (hw b' bg hb)
 ·intro l' k' b' c' o hg ht
  by_cases he:l=l'/\k=k'
  ·obtain⟨rfl,rfl⟩:=he
   rw[same,hx]at ht
   obtain rfl:=oi ht
   exact hfm o
  ·rw[lC _ _ he]at hg
   rw[other _ _ he]at ht
   exact h.dx l' k' b' c' o hg ht
theorem HR.fresh (h:HR N0 W0 fm ts H w) {cells:Array Value}{et:TypeId}{k:Nat}{x:TB}{b:Ap} (hH:0<H.length) (hk:tb ts 0 k=none) (hx:b9 (some x)=some w.heap.size)
  (pt:BR fm (ca ts 0 k x) (w.alloc (.cells cells et)) N0 (some x) b):
  HR N0 W0 fm (ca ts 0 k x) (H.put 0 k (some b)) (w.alloc (.cells cells et)):=by
 refine h.yw hH hx (fun i _ hi=>heap_alloc_old w _ i hi) ((Below.refl N0 w).alloc h.size _) (fun o ho=>by simp at ho) (by rw[hk];trivial) ?_ ?_ (by simpa using pt)
 ·intro l' k' b' hg ht
  have:=(h.aj l' k' b' hg).lt ht
  omega
 ·intro o
  cases hf:fm w.heap.size o with
  |none=>rfl
  |some v=>
   have:=World.block_lt_of_cell? w _ (h.bL _ _ _ hf)
   simp at this
theorem HR.empty (h:HR N0 W0 fm ts H w) {k:Nat} (et esz:Nat) (hk:tb ts 0 k=none) (hH:0<H.length):
  HR N0 W0 fm (ca ts 0 k (.arr 0 none)) (H.put 0 k (some (.arr et esz []))) w:=by
 have hT:Ak ts (ca ts 0 k (.arr 0 none)):=Ak.set (by rw[hk];trivial)
 have ab:0<ts.length:=by rw[h.len];exact hH
 have other:∀ l' k',¬ (0=l'/\k=k')->tb (ca ts 0 k (.arr 0 none)) l' k'=tb ts l' k':=by
  intro l' k' bg
  rw[cY,if_neg (fun hh=>bg ⟨hh.1,hh.2.1⟩)]
 have same:tb (ca ts 0 k (.arr 0 none)) 0 k=some (.arr 0 none):=by rw[cY,if_pos ⟨rfl,rfl,ab⟩]
 have lC:∀ l' k',¬ (0=l'/\k=k')->(H.put 0 k (some (.arr et esz []))).get l' k'=H.get l' k':=by
  intro l' k' bg
  rw[Heap.mH,if_neg (fun hh=>bg ⟨hh.1,hh.2.1⟩)]
 have zR:(H.put 0 k (some (.arr et esz []))).get 0 k=some (.arr et esz []):=by rw[Heap.mH,if_pos ⟨rfl,rfl,hH⟩]
 refine⟨by simp[h.len],?_,?_,h.bL,?_,h.bJ,h.size,h.bj⟩
 ·intro l' k' b' hg
  by_cases he:0=l'/\k=k'
  ·obtain⟨rfl,rfl⟩:=he
   rw[zR]at hg
   obtain rfl:=oi hg
   rw[same]
   exact .nil et esz
  ·rw[lC _ _ he]at hg
   rw[other _ _ he]
   exact(h.aj l' k' b' hg).mono (AM.refl _) (hT.drop l') (fun _ _=>rfl)
 ·intro l1 k1 l2 k2 b1 b2 c' g1 g2 t1 t2
  by_cases e1:0=l1/\k=k1
  ·obtain⟨rfl,rfl⟩:=e1
   rw[same]at t1
   simp[b9]at t1
  ·rw[other _ _ e1]at t1
   rw[lC _ _ e1]at g1
   by_cases e2:0=l2/\k=k2
   ·obtain⟨rfl,rfl⟩:=e2
    rw[same]at t2
    simp[b9]at t2
   ·rw[other _ _ e2]at t2
    rw[lC _ _ e2]at g2
    exact h.inj l1 k1 l2 k2 b1 b2 c' g1 g2 t1 t2
 ·intro l' k' b' c' o hg ht
  by_cases he:0=l'/\k=k'
  ·obtain⟨rfl,rfl⟩:=he
   rw[same]at ht
   simp[b9]at ht
  ·rw[lC _ _ he]at hg
   rw[other _ _ he]at ht
   exact h.dx l' k' b' c' o hg ht
theorem HR.world (h:HR N0 W0 fm ts H w) {w':World} (hw:∀ i,i<w.heap.size->w'.heap[i]?=w.heap[i]?) (lH:Below N0 w w'):HR N0 W0 fm ts H w':=by
 refine⟨h.len,fun l k b hg=>(h.aj l k b hg).mono (AM.refl _) (Ak.refl _) (fun c hc=>hw c ((h.aj l k b hg).lt hc).1),h.inj,?_,h.dx,h.bJ.trans lH,C2 h.size lH.size,fun b o h0 ho=>(hw b (BY.1 (h.bj b o h0 ho)).1).trans (h.bj b o h0 ho)⟩
 intro b o v hv
 have e9:=h.bL b o v hv
 rw[<-e9]
 exact World.cell?_of_block (w:=w) (w':=w') (a:=⟨b,o,none⟩) (hw b (World.block_lt_of_cell? w _ e9))
theorem HR.drew (h:HR N0 W0 fm ts H w):HR N0 W0 fm ts H w.drew:=h.world (fun _ _=>rfl) (Below.refl N0 w).drew
end
def kg:Option TB->Bool
 |some (.arr _ _)=>true
 |_=>false
def fL:List Ah->List (Nat×Nat)->List Ah
 |ts,[]=>ts
 |ts,(l,k)::r=>fL (if kg (tb ts l k) then ca ts l k .gone else ts) r
theorem jO (r:List (Nat×Nat)):∀ (ts:List Ah) (l k:Nat),tb (fL ts r) l k=if (l,k)∈r/\kg (tb ts l k)=true then some .gone else tb ts l k:=by
 induction r with
 |nil=>intro ts l k;simp[fL]
 |cons p r ih=>
  obtain⟨l0,k0⟩:=p
  intro ts l k
  simp only[fL,ih]
  by_cases ha:kg (tb ts l0 k0)=true
  ·simp only[ha,if_true]
   have ab:l0<ts.length:=by
    cases hh:tb ts l0 k0 with
    |none=>rw[hh]at ha;simp[kg]at ha
    |some x=>exact ako ts l0 k0 x hh
   by_cases he:l0=l/\k0=k
   ·obtain⟨rfl,rfl⟩:=he
    have e1:tb (ca ts l0 k0 .gone) l0 k0=some .gone:=by rw[cY,if_pos ⟨rfl,rfl,ab⟩]
    rw[e1]
    have e2:kg (some TB.gone)=false:=rfl
    rw[if_neg (by simp[e2]),if_pos ⟨List.mem_cons_self,ha⟩]
   ·have h1:tb (ca ts l0 k0 .gone) l k=tb ts l k:=by rw[cY,if_neg (fun hh=>he ⟨hh.1,hh.2.1⟩)]
    have h2:((l,k)∈(l0,k0)::r)↔(l,k)∈r:=by
     simp only[BA,Prod.mk.injEq]
     constructor
     ·rintro(⟨rfl,rfl⟩|h)
      ·exact absurd ⟨rfl,rfl⟩ he
      ·exact h
     ·exact fun h=>.inr h
    rw[h1]
    simp only[h2]
  ·simp only[ha,if_false,B7]
   by_cases he:l0=l/\k0=k
   ·obtain⟨rfl,rfl⟩:=he
    simp[ha]
   ·have h2:((l,k)∈(l0,k0)::r)↔(l,k)∈r:=by
     simp only[BA,Prod.mk.injEq]
     constructor
     ·rintro(⟨rfl,rfl⟩|h)
      ·exact absurd ⟨rfl,rfl⟩ he
      ·exact h
     ·exact fun h=>.inr h
    simp only[h2]
@[simp] theorem aaD (r:List (Nat×Nat)):∀ ts:List Ah,(fL ts r).length=ts.length:=by
 induction r with
 |nil=>intro ts;rfl
 |cons p r ih=>obtain⟨l,k⟩:=p;intro ts;simp only[fL,ih];split<;>simp
theorem Ak.gone (ts:List Ah) (r:List (Nat×Nat)):Ak ts (fL ts r):=by
 intro l k
 rw[jO]
 split
 ·rename_i h
  cases hh:tb ts l k with
  |none=>trivial
  |some x=>
   rw[hh]at h
   cases x with
   |arr m c=>simp[AX]
   |box c=>simp[kg]at h
   |gone=>simp[kg]at h
 ·exact AX.refl _
theorem qY (r:List (Nat×Nat)):∀ (H:Heap) (l k:Nat),(H.bk (fq r)).get l k=if (l,k)∈r then none else H.get l k:=by
 induction r with
 |nil=>intro H l k;simp[fq,Heap.bk]
 |cons p r ih=>
  obtain⟨l0,k0⟩:=p
  intro H l k
  have:fq ((l0,k0)::r)=(l0,k0,none)::fq r:=rfl
  rw[this]
  simp only[Heap.bk,ih,Heap.mH]
  by_cases he:l0=l/\k0=k
  ·obtain⟨rfl,rfl⟩:=he
   by_cases hl:l0<H.length
   ·simp[hl]
   ·have:H.get l0 k0=none:=by
     cases hh:H.get l0 k0 with
     |none=>rfl
     |some b=>exact absurd (Heap.nM H _ _ _ hh) hl
    simp[hl,this]
  ·have h2:((l,k)∈(l0,k0)::r)↔(l,k)∈r:=by
    simp only[BA,Prod.mk.injEq]
    constructor
    ·rintro(⟨rfl,rfl⟩|h)
     ·exact absurd ⟨rfl,rfl⟩ he
     ·exact h
    ·exact fun h=>.inr h
   simp only[h2]
   by_cases hr:(l,k)∈r
   ·simp[hr]
   ·simp only[hr,if_false]
    rw[if_neg (fun hh=>he ⟨hh.1,hh.2.1⟩)]
open Classical in
noncomputable def gF (fm:FM) (w:World) (bs:Nat->Prop):FM:=fun b o=>if bs b then w.cell? ⟨b,o,none⟩ else fm b o
def behind (ts:List Ah) (H:Heap) (r:List (Nat×Nat)) (c:Nat):Prop:=∃ l k b,(l,k)∈r/\H.get l k=some b/\kg (tb ts l k)=true/\b9 (tb ts l k)=some c
section
variable {N0:Nat}{W0:World}{fm:FM}{ts:List Ah}{H:Heap}{w:World}
theorem HR.qR (h:HR N0 W0 fm ts H w) (r:List (Nat×Nat)):AM fm (gF fm w (behind ts H r)):=by
 intro b o v hv
 unfold gF
 split
 ·exact h.bL b o v hv
 ·exact hv
structure Ax (N0:Nat) (fm fm':FM):Prop where
 le:AM fm fm'
 fix:∀ b o,b<N0->fm' b o=fm b o
theorem Ax.refl (N0:Nat) (fm:FM):Ax N0 fm fm:=⟨AM.refl _,fun _ _ _=>rfl⟩
theorem Ax.trans {N0:Nat}{a b c:FM} (h:Ax N0 a b) (k:Ax N0 b c):Ax N0 a c:=⟨h.le.trans k.le,fun x o e=>(k.fix x o e).trans (h.fix x o e)⟩
theorem HR.qS (h:HR N0 W0 fm ts H w) (r:List (Nat×Nat)):Ax N0 fm (gF fm w (behind ts H r)):=by
 refine⟨h.qR r,?_⟩
 intro b o hb
 unfold gF
 rw[if_neg]
 rintro⟨l,k,aj,_,hg,_,ht⟩
 have:=((h.aj l k aj hg).lt ht).2
 omega
theorem HR.oj (h:HR N0 W0 fm ts H w) (r:List (Nat×Nat)):
  HR N0 W0 (gF fm w (behind ts H r)) (fL ts r) (H.bk (fq r)) w:=by
 have hF:=h.qR r
 refine⟨by simp[h.len],?_,?_,?_,?_,h.bJ,h.size,h.bj⟩
 ·intro l k b hg
  rw[qY]at hg
  split at hg
  ·cases hg
  ·rename_i hn
   rw[jO,if_neg (fun hh=>hn hh.1)]
   exact(h.aj l k b hg).mono hF ((Ak.gone ts r).drop l) (fun _ _=>rfl)
 ·intro l k l' k' b b' c g g' t t'
  rw[qY]at g g'
  split at g
  ·cases g
  ·rename_i hn
   split at g'
   ·cases g'
   ·rename_i cR
    rw[jO,if_neg (fun hh=>hn hh.1)]at t
    rw[jO,if_neg (fun hh=>cR hh.1)]at t'
    exact h.inj l k l' k' b b' c g g' t t'
 ·intro b o v hv
  unfold gF at hv
  split at hv
  ·exact hv
  ·exact h.bL b o v hv
 ·intro l k b c o g t
  rw[qY]at g
  split at g
  ·cases g
  ·rename_i hn
   rw[jO,if_neg (fun hh=>hn hh.1)]at t
   unfold gF
   rw[if_neg]
   ·exact h.dx l k b c o g t
   ·rintro⟨l',k',b',hm,bS,_,eZ⟩
    obtain⟨rfl,rfl⟩:=h.inj l k l' k' b b' c g bS t eZ
    exact hn hm
end
end Go.Abs
namespace Go.Abs
open Go Go.RowKit
theorem kz (d:Nat):∀ cs:List AV,(AV.ck d cs).length=cs.length
 |[]=>by simp[AV.ck]
 |x::l=>by simp[AV.ck,kz d l]
theorem ky (d:Nat):∀ (cs:List AV) (i:Nat),(AV.ck d cs)[i]?=(cs[i]?).map (AV.sh d)
 |[],i=>by simp[AV.ck]
 |x::l,0=>by simp[AV.ck]
 |x::l,i+1=>by simp[AV.ck,ky d l i]
theorem yi (d:Nat) (x:AV):(x.sh d).flat=x.flat:=by
 cases x<;>simp[AV.sh,AV.flat]
theorem VR.sh {fm:FM} (d:Nat) {ec:List Ah}{x:AV}{v:Value} (h:VR fm ec x v):∀ {ts:List Ah},ec=ts.drop d->VR fm ts (x.sh d) v:=by
 induction h with
 |bool b=>intro ts _;exact .bool b
 |int k n=>intro ts _;exact .int k n
 |str s=>intro ts _;exact .str s
 |nil=>intro ts _;exact .nil
 |cm e a cap=>intro ts _;exact .cm e a cap
 |sl es cb off esz cap u cD h1 h2 h3 h4 _=>intro ts _;exact .sl es cb off esz cap u cD h1 h2 h3 h4
 |bW l k esz i n g a cp h hn ha=>intro ts e;subst e;rw[dC]at h;exact .bW _ k esz i n g a cp h hn ha
 |bX l k esz i n g a cp m' c h ab hn ha=>intro ts e;subst e;rw[dC]at h;exact .bX _ k esz i n g a cp m' c h ab hn ha
 |bI l k esz a h=>intro ts e;subst e;rw[dC]at h;exact .bI _ k esz a h
 |loc l k esz i n g c cap cp a h hn bh hc ha=>intro ts e;subst e;rw[dC]at h;exact .loc _ k esz i n g c cap cp a h hn bh hc ha
 |bd l k esz o n c cp a h hn ha=>intro ts e;subst e;rw[dC]at h;exact .bd _ k esz o n c cp a h hn ha
 |bf=>intro ts _;exact .bf
 |ptr l k o c h=>intro ts e;subst e;rw[dC]at h;exact .ptr _ k o c h
 |dF l k esz i o g a h=>intro ts e;subst e;rw[dC]at h;exact .dF _ k esz i o g a h
 |dG l k esz i o g a m' c h ab=>intro ts e;subst e;rw[dC]at h;exact .dG _ k esz i o g a m' c h ab
 |aR l k esz i o g c cap h=>intro ts e;subst e;rw[dC]at h;exact .aR _ k esz i o g c cap h
 |aq es i o cb off esz u h1 h2 h3 h4 _=>intro ts _;exact .aq es i o cb off esz u h1 h2 h3 h4
 |bo=>intro ts _;exact .bo
 |fn f first cap vf vc h1 h2 _ _ fE eP=>
  intro ts e
  refine .fn f _ _ vf vc (by rw[kz];exact h1) (by rw[kz];exact h2) ?_ ?_
  ·intro i x v hx hv
   rw[ky]at hx
   cases hf:first[i]? with
   |none=>rw[hf]at hx;cases hx
   |some y=>rw[hf]at hx;simp only[AQ,oE]at hx;subst hx;exact fE i y v hf hv e
  ·intro i x v hx hv
   rw[ky]at hx
   cases hf:cap[i]? with
   |none=>rw[hf]at hx;cases hx
   |some y=>rw[hf]at hx;simp only[AQ,oE]at hx;subst hx;exact eP i y v hf hv e
 |bp=>intro ts _;exact .bp
 |mp r_=>intro ts _;exact .mp r_
 |bA t x v _ ih=>intro ts e;exact .bA t _ v (ih e)
 |agg cs vs h1 h2 _ ih=>
  intro ts e
  refine .agg _ vs (by rw[kz];exact h1) ?_ ?_
  ·intro x hx
   obtain⟨i,hi⟩:=Bl.1 hx
   rw[ky]at hi
   cases hf:cs[i]? with
   |none=>rw[hf]at hi;cases hi
   |some y=>rw[hf]at hi;simp only[AQ,oE]at hi;subst hi;rw[yi];exact h2 y (Bl.2 ⟨i,hf⟩)
  ·intro i x v hx hv
   rw[ky]at hx
   cases hf:cs[i]? with
   |none=>rw[hf]at hx;cases hx
   |some y=>rw[hf]at hx;simp only[AQ,oE]at hx;subst hx;exact ih i y v hf hv e
 |ak xs vs h1 _ ih=>
  intro ts e
  refine .ak _ vs (by rw[kz];exact h1) ?_
  intro i x v hx hv
  rw[ky]at hx
  cases hf:xs[i]? with
  |none=>rw[hf]at hx;cases hx
  |some y=>rw[hf]at hx;simp only[AQ,oE]at hx;subst hx;exact ih i y v hf hv e
 |dead v=>intro ts _;exact .dead v
theorem oI (d:Nat):∀ (cs ys:List AV),AV.eD d cs=some ys->ys.length=cs.length/\∀ (i:Nat) (x:AV),cs[i]?=some x->∃ y,ys[i]?=some y/\x.un d=some y
 |[],ys,h=>by simp only[AV.eD,oE]at h;subst h;simp
 |x::l,ys,h=>by
  simp only[AV.eD]at h
  split at h
  ·rename_i a b ha hb
   obtain rfl:=oi h
   have ih:=oI d l b hb
   refine⟨by simp[ih.1],?_⟩
   intro i z hz
   cases i with
   |zero=>simp only[BG,oE]at hz;subst hz;exact⟨a,by simp,ha⟩
   |succ i=>simp only[BE]at hz ⊢;exact ih.2 i z hz
  ·cases h
theorem m3 {d l l':Nat} (h:pP d l=some l'):l'+d=l:=by
 unfold pP at h
 split at h
 ·simp only[oE]at h;omega
 ·cases h
theorem aeJ {d:Nat}{x y:AV} (h:x.un d=some y):y.flat=x.flat:=by
 cases x with
 |fn f a b=>
  simp only[AV.un]at h
  split at h
  ·simp only[oE]at h;subst h;simp[AV.flat]
  ·cases h
 |_=>
  simp only[AV.un,mS,oE]at h
  first
  |(subst h;simp[AV.flat];done)
  |(obtain⟨a,_,rfl⟩:=h;simp[AV.flat])
theorem VR.un {fm:FM} (d:Nat) {ts:List Ah}{x:AV}{v:Value} (h:VR fm ts x v):∀ {y:AV},x.un d=some y->VR fm (ts.drop d) y v:=by
 induction h with
 |bool b=>intro y e;simp only[AV.un,oE]at e;subst e;exact .bool b
 |int k n=>intro y e;simp only[AV.un,oE]at e;subst e;exact .int k n
 |str s=>intro y e;simp only[AV.un,oE]at e;subst e;exact .str s
 |nil=>intro y e;simp only[AV.un,oE]at e;subst e;exact .nil
 |cm e0 a cap=>intro y e;simp only[AV.un,oE]at e;subst e;exact .cm e0 a cap
 |sl es cb off esz cap u cD h1 h2 h3 h4 _=>intro y e;simp only[AV.un,oE]at e;subst e;exact .sl es cb off esz cap u cD h1 h2 h3 h4
 |bW l k esz i n g a cp h hn ha=>
  intro y e;simp only[AV.un,mS]at e;obtain⟨l',hl,rfl⟩:=e
  exact .bW l' k esz i n g a cp (by rw[dC,m3 hl];exact h) hn ha
 |bX l k esz i n g a cp m' c h ab hn ha=>
  intro y e;simp only[AV.un,mS]at e;obtain⟨l',hl,rfl⟩:=e
  exact .bX l' k esz i n g a cp m' c (by rw[dC,m3 hl];exact h) ab hn ha
 |bI l k esz a h=>
  intro y e;simp only[AV.un,mS]at e;obtain⟨l',hl,rfl⟩:=e
  exact .bI l' k esz a (by rw[dC,m3 hl];exact h)
 |loc l k esz i n g c cap cp a h hn bh hc ha=>
  intro y e;simp only[AV.un,mS]at e;obtain⟨l',hl,rfl⟩:=e
  exact .loc l' k esz i n g c cap cp a (by rw[dC,m3 hl];exact h) hn bh hc ha
 |bd l k esz o n c cp a h hn ha=>
  intro y e;simp only[AV.un,mS]at e;obtain⟨l',hl,rfl⟩:=e
  exact .bd l' k esz o n c cp a (by rw[dC,m3 hl];exact h) hn ha
 |bf=>intro y e;simp only[AV.un,oE]at e;subst e;exact .bf
 |ptr l k o c h=>
  intro y e;simp only[AV.un,mS]at e;obtain⟨l',hl,rfl⟩:=e
  exact .ptr l' k o c (by rw[dC,m3 hl];exact h)
 |dF l k esz i o g a h=>
  intro y e;simp only[AV.un,mS]at e;obtain⟨l',hl,rfl⟩:=e
  exact .dF l' k esz i o g a (by rw[dC,m3 hl];exact h)
 |dG l k esz i o g a m' c h ab=>
  intro y e;simp only[AV.un,mS]at e;obtain⟨l',hl,rfl⟩:=e
  exact .dG l' k esz i o g a m' c (by rw[dC,m3 hl];exact h) ab
 |aR l k esz i o g c cap h=>
  intro y e;simp only[AV.un,mS]at e;obtain⟨l',hl,rfl⟩:=e
  exact .aR l' k esz i o g c cap (by rw[dC,m3 hl];exact h)
 |aq es i o cb off esz u h1 h2 h3 h4 _=>intro y e;simp only[AV.un,oE]at e;subst e;exact .aq es i o cb off esz u h1 h2 h3 h4
 |bo=>intro y e;simp only[AV.un,oE]at e;subst e;exact .bo
 |fn f first cap vf vc h1 h2 _ _ fE eP=>
  intro y e
  simp only[AV.un]at e
  split at e
  ·rename_i a b ha hb
   simp only[oE]at e;subst e
   have g1:=oI d _ _ ha
   have g2:=oI d _ _ hb
   refine .fn f _ _ vf vc (by rw[g1.1];exact h1) (by rw[g2.1];exact h2) ?_ ?_
   ·intro i x v hx hv
    have hi:i<first.length:=by rw[<-g1.1];exact(gS.1 hx).1
    obtain⟨y,hy,hu⟩:=g1.2 i _ (gG hi)
    rw[hx]at hy;obtain rfl:=oi hy
    exact fE i _ v (gG hi) hv hu
   ·intro i x v hx hv
    have hi:i<cap.length:=by rw[<-g2.1];exact(gS.1 hx).1
    obtain⟨y,hy,hu⟩:=g2.2 i _ (gG hi)
    rw[hx]at hy;obtain rfl:=oi hy
    exact eP i _ v (gG hi) hv hu
  ·cases e
 |bp=>intro y e;simp only[AV.un,oE]at e;subst e;exact .bp
 |mp r_=>intro y e;simp only[AV.un,oE]at e;subst e;exact .mp r_
 |bA t x v _ ih=>
  intro y e;simp only[AV.un,mS]at e;obtain⟨z,hz,rfl⟩:=e
  exact .bA t z v (ih hz)
 |agg cs vs h1 h2 _ ih=>
  intro y e;simp only[AV.un,mS]at e;obtain⟨z,hz,rfl⟩:=e
  have g:=oI d _ _ hz
  refine .agg z vs (by rw[g.1];exact h1) ?_ ?_
  ·intro x hx
   obtain⟨i,hi⟩:=Bl.1 hx
   have ab:i<cs.length:=by rw[<-g.1];exact(gS.1 hi).1
   obtain⟨y,hy,hu⟩:=g.2 i _ (gG ab)
   rw[hi]at hy;obtain rfl:=oi hy
   rw[aeJ hu]
   exact h2 _ (List.getElem_mem ab)
  ·intro i x v hx hv
   have ab:i<cs.length:=by rw[<-g.1];exact(gS.1 hx).1
   obtain⟨y,hy,hu⟩:=g.2 i _ (gG ab)
   rw[hx]at hy;obtain rfl:=oi hy
   exact ih i _ v (gG ab) hv hu
 |ak xs vs h1 _ ih=>
  intro y e;simp only[AV.un,mS]at e;obtain⟨z,hz,rfl⟩:=e
  have g:=oI d _ _ hz
  refine .ak z vs (by rw[g.1];exact h1) ?_
  intro i x v hx hv
  have ab:i<xs.length:=by rw[<-g.1];exact(gS.1 hx).1
  obtain⟨y,hy,hu⟩:=g.2 i _ (gG ab)
  rw[hx]at hy;obtain rfl:=oi hy
  exact ih i _ v (gG ab) hv hu
 |dead v=>intro y e;simp only[AV.un,oE]at e;subst e;exact .dead v
theorem jk (G:AA):∀ (cs ys:List AV),AV.az G cs=some ys->ys.length=cs.length/\∀ (i:Nat) (x:AV),cs[i]?=some x->∃ y,ys[i]?=some y/\x.ag G=some y
 |[],ys,h=>by simp only[AV.az,oE]at h;subst h;simp
 |x::l,ys,h=>by
  simp only[AV.az]at h
  split at h
  ·rename_i a b ha hb
   obtain rfl:=oi h
   have ih:=jk G l b hb
   refine⟨by simp[ih.1],?_⟩
   intro i z hz
   cases i with
   |zero=>simp only[BG,oE]at hz;subst hz;exact⟨a,by simp,ha⟩
   |succ i=>simp only[BE]at hz ⊢;exact ih.2 i z hz
  ·cases h
theorem rO:∀ (cs:List AV) (i:Nat) (x:AV),cs[i]?=some x->∀ p∈x.refs,p∈AV.aD cs
 |[],i,x,h=>by simp at h
 |y::l,0,x,h=>by
  simp only[BG,oE]at h;subst h
  intro p hp;simp only[AV.aD,AZ];exact .inl hp
 |y::l,i+1,x,h=>by
  simp only[BE]at h
  intro p hp;simp only[AV.aD,AZ];exact .inr (rO l i x h p hp)
theorem wk {G:AA}{x y:AV} (h:x.ag G=some y):y.flat=x.flat:=by
 cases x with
 |loc l k e i n g=>
  simp only[AV.ag]at h
  split at h
  ·split at h
   ·simp only[oE]at h;subst h;simp[AV.flat]
   ·cases h
  ·cases h
 |fn f a b=>
  simp only[AV.ag]at h
  split at h
  ·obtain rfl:=oi h;simp[AV.flat]
  ·cases h
 |_=>
  first
  |(simp[AV.ag]at h;done)
  |(simp only[AV.ag,oE]at h;subst h;simp[AV.flat];done)
  |(simp only[AV.ag,mS]at h;obtain⟨a,_,rfl⟩:=h;simp[AV.flat];done)
section
variable {N0:Nat}{W0:World}{fm:FM}{ts:List Ah}{H:Heap}{w:World}
theorem HR.ag (h:HR N0 W0 fm ts H w) (r:List (Nat×Nat)) {x:AV}{v:Value} (hv:VR fm ts x v):
  ∀ {y:AV},x.ag H.get=some y->(∀ p∈x.refs,p∈r)->VR (gF fm w (behind ts H r)) [] y v:=by
 have hF:=h.qR r
 generalize adg:gF fm w (behind ts H r)=fm' at hF
 have aV:∀ c o u,behind ts H r c->w.cell? ⟨c,o,none⟩=some u->fm' c o=some u:=by
  intro c o u hb hc
  rw[<-adg]
  unfold gF
  rw[if_pos hb]
  exact hc
 clear adg
 induction hv with
 |bool b=>intro y e _;simp only[AV.ag,oE]at e;subst e;exact .bool b
 |int k n=>intro y e _;simp only[AV.ag,oE]at e;subst e;exact .int k n
 |str s=>intro y e _;simp only[AV.ag,oE]at e;subst e;exact .str s
 |nil=>intro y e _;simp only[AV.ag,oE]at e;subst e;exact .nil
 |cm e0 a cap=>intro y e _;simp only[AV.ag,oE]at e;subst e;exact .cm e0 a cap
 |sl es cb off esz cap u cD h1 h2 h3 h4 _=>
  intro y e _;simp only[AV.ag,oE]at e;subst e
  exact(VR.sl es cb off esz cap u cD h1 h2 h3 h4 (ts:=[])).mono hF (Ak.refl _)
 |bW l k esz i n g a cp ht hn ha=>
  intro y e _
  simp only[AV.ag]at e
  split at e
  ·rename_i et aC es hg
   have:=h.aj l k _ hg
   rw[ht]at this
   cases this
  ·cases e
 |bX l k esz i n g a cp m' c ht ab hn ha=>
  intro y e _
  simp only[AV.ag]at e
  split at e
  ·rename_i et aC es hg
   have:=h.aj l k _ hg
   rw[ht]at this
   split at e
   ·rename_i hh
    cases this with
    |nil et esz=>simp at hh;omega
    |arr et esz es c cap hN h=>omega
   ·cases e
  ·cases e
 |bI l k esz a ht=>
  intro y e _
  simp only[AV.ag]at e
  split at e
  ·split at e
   ·simp only[List.drop_zero,List.take_zero,oE]at e;subst e;exact .cm _ _ _
   ·cases e
  ·cases e
 |loc l k esz i n g c cap cp a ht hn bh hc ha=>
  intro y e hr
  simp only[AV.ag]at e
  split at e
  ·rename_i et aC es hg
   split at e
   ·rename_i hh
    obtain⟨he,hlen,bl⟩:=hh
    subst he
    simp only[oE]at e;subst e
    have hb:=h.aj l k _ hg
    rw[ht]at hb
    cases hb with
    |arr et _ es c cap hN hA=>
     obtain⟨cells,c1,c2,c3,c4,c5,c6,c7⟩:=hA
     have ahH:behind _ H r c:=⟨l,k,_,hr (l,k) (by simp[AV.refs]),hg,by rw[ht];rfl,by rw[ht];rfl⟩
     by_cases hn0:n=0
     ·subst hn0
      simp only[List.take_zero]
      exact .cm _ _ _
     ·have eN:=ha (.inl (by omega))
      subst eN
      have hl:((es.drop i).take n).length=n:=by simp;omega
      have key:∀ (j:Nat) (cc:List AV) (o:Nat) (x:AV),((es.drop i).take n)[j]?=some cc->cc[o]?=some x->∃ u,cells[(i+j)*aC+o]?=some u/\x.flat=true/\VR fm [] x u:=by
       intro j cc o x hj ho
       have mP:es[i+j]?=some cc:=by
        rw[Bx]at hj
        split at hj
        ·rw[BN]at hj;exact hj
        ·cases hj
       have ab:i+j<es.length:=(gS.1 mP).1
       have bR:cc.length=aC:=c5 cc (Ba mP)
       have xo:o<aC:=by rw[<-bR];exact(gS.1 ho).1
       have ao:(i+j)*aC+o<cells.size:=by
        rw[c2]
        have:(i+j+1)*aC<=cap*aC:=Bp _ (by omega)
        rw[Nat.add_mul]at this
        omega
       have tk:=Bg ao
       have:=c7 (i+j) cc o x _ mP ho tk
       exact⟨_,tk,this.1,this.2⟩
      have fp:=VR.sl (fm:=fm') (ts:=[]) ((es.drop i).take n) c (i*aC) aC cp (fun j o=>(cells[(i+j)*aC+o]?).getD default) (by rw[hl];exact⟨bh,by omega⟩)
       (fun cc bR=>c5 cc (BX (BQ bR)))
       (by
        intro j cc o x hj ho
        obtain⟨u,hu,_,_⟩:=key j cc o x hj ho
        refine aV c _ _ ahH ?_
        simp only[World.cell?,c1]
        have:i*aC+(j*aC+o)=(i+j)*aC+o:=by rw[Nat.add_mul];omega
        rw[this,hu]
        simp)
       (fun j cc o x hj ho=>(key j cc o x hj ho).elim fun u hu=>hu.2.1)
       (by
        intro j cc o x hj ho
        obtain⟨u,hu,_,hv⟩:=key j cc o x hj ho
        rw[hu]
        exact hv.mono hF (Ak.refl _))
      rw[hl]at fp
      exact fp
   ·cases e
  ·cases e
 |bd l k esz o n c cp a ht hn ha=>intro y e;simp[AV.ag]at e
 |bf=>intro y e _;simp only[AV.ag,oE]at e;subst e;exact .bf
 |ptr l k o c ht=>intro y e;simp[AV.ag]at e
 |dF l k esz i o g a ht=>intro y e;simp[AV.ag]at e
 |dG l k esz i o g a m' c ht ab=>intro y e;simp[AV.ag]at e
 |aR l k esz i o g c cap ht=>intro y e;simp[AV.ag]at e
 |aq es i o cb off esz u h1 h2 h3 h4 _=>
  intro y e _;simp only[AV.ag,oE]at e;subst e
  exact(VR.aq es i o cb off esz u h1 h2 h3 h4 (ts:=[])).mono hF (Ak.refl _)
 |bo=>intro y e _;simp only[AV.ag,oE]at e;subst e;exact .bo
 |fn f first cap vf vc h1 h2 h3 h4 fE eP=>
  intro y e hr
  simp only[AV.ag]at e
  split at e
  ·rename_i a b ha hb
   simp only[oE]at e;subst e
   have g1:=jk H.get _ _ ha
   have g2:=jk H.get _ _ hb
   refine .fn f a b vf vc (by rw[g1.1];exact h1) (by rw[g2.1];exact h2) ?_ ?_
   ·intro i x v hx hv
    have ab:i<first.length:=by rw[<-g1.1];exact(gS.1 hx).1
    obtain⟨y,hy,hu⟩:=g1.2 i _ (gG ab)
    rw[hx]at hy;obtain rfl:=oi hy
    exact fE i _ v (gG ab) hv h aV hu (fun p hp=>hr p (by simp only[AV.refs,AZ];exact .inl (rO first i _ (gG ab) p hp)))
   ·intro i x v hx hv
    have ab:i<cap.length:=by rw[<-g2.1];exact(gS.1 hx).1
    obtain⟨y,hy,hu⟩:=g2.2 i _ (gG ab)
    rw[hx]at hy;obtain rfl:=oi hy
    exact eP i _ v (gG ab) hv h aV hu (fun p hp=>hr p (by simp only[AV.refs,AZ];exact .inr (rO cap i _ (gG ab) p hp)))
  ·cases e
 |bp=>intro y e _;simp only[AV.ag,oE]at e;subst e;exact .bp
 |mp r_=>intro y e _;simp only[AV.ag,oE]at e;subst e;exact .mp r_
 |bA t x v _ ih=>
  intro y e hr;simp only[AV.ag,mS]at e;obtain⟨z,hz,rfl⟩:=e
  exact .bA t z v (ih h aV hz (fun p hp=>hr p (by simp only[AV.refs];exact hp)))
 |agg cs vs h1 h2 _ ih=>
  intro y e hr;simp only[AV.ag,mS]at e;obtain⟨z,hz,rfl⟩:=e
  have g:=jk H.get _ _ hz
  refine .agg z vs (by rw[g.1];exact h1) ?_ ?_
  ·intro x hx
   obtain⟨i,hi⟩:=Bl.1 hx
   have ab:i<cs.length:=by rw[<-g.1];exact(gS.1 hi).1
   obtain⟨y,hy,hu⟩:=g.2 i _ (gG ab)
   rw[hi]at hy;obtain rfl:=oi hy
   rw[wk hu]
   exact h2 _ (List.getElem_mem ab)
  ·intro i x v hx hv
   have ab:i<cs.length:=by rw[<-g.1];exact(gS.1 hx).1
   obtain⟨y,hy,hu⟩:=g.2 i _ (gG ab)
   rw[hx]at hy;obtain rfl:=oi hy
   exact ih i _ v (gG ab) hv h aV hu (fun p hp=>hr p (by simp only[AV.refs];exact rO cs i _ (gG ab) p hp))
 |ak xs vs h1 _ ih=>
  intro y e hr;simp only[AV.ag,mS]at e;obtain⟨z,hz,rfl⟩:=e
  have g:=jk H.get _ _ hz
  refine .ak z vs (by rw[g.1];exact h1) ?_
  intro i x v hx hv
  have ab:i<xs.length:=by rw[<-g.1];exact(gS.1 hx).1
  obtain⟨y,hy,hu⟩:=g.2 i _ (gG ab)
  rw[hx]at hy;obtain rfl:=oi hy
  exact ih i _ v (gG ab) hv h aV hu (fun p hp=>hr p (by simp only[AV.refs];exact rO xs i _ (gG ab) p hp))
 |dead v=>intro y e;simp[AV.ag]at e
theorem HR.az (h:HR N0 W0 fm ts H w) (r:List (Nat×Nat)) {cs ys:List AV}{vs:List Value} (hv:Am fm ts cs vs) (e:AV.az H.get cs=some ys) (hr:∀ p∈AV.aD cs,p∈r):
  Am (gF fm w (behind ts H r)) [] ys vs:=by
 have g:=jk H.get _ _ e
 refine⟨g.1.trans hv.1,?_⟩
 intro i x v hx pK
 have ab:i<cs.length:=by rw[<-g.1];exact(gS.1 hx).1
 obtain⟨y,hy,hu⟩:=g.2 i _ (gG ab)
 rw[hx]at hy;obtain rfl:=oi hy
 exact h.ag r (hv.2 i _ v (gG ab) pK) hu (fun p hp=>hr p (rO cs i _ (gG ab) p hp))
end
def dY:TypeDesc->Bool
 |.struct _|.array _ _=>true
 |_=>false
def aek:Value->AV->Bool
 |.int k n,.int k' n'=>k==k'&&n==n'
 |.bool b,.bool b'=>b==b'
 |.string s,.str s'=>decide (s.data=s'.data)
 |.slice none 0 0,.nil=>true
 |.slice none 0 0,.sl _ []=>true
 |.pointer none,.bf=>true
 |.nilFunc,.bo=>true
 |.nilIface,.bp=>true
 |.map none,.mp none=>true
 |_,_=>false
def rQ:List Value->List AV->Bool
 |[],[]=>true
 |v::l,x::m=>aek v x&&rQ l m
 |_,_=>false
def yH (P:Program) (t:TypeId) (z:List AV):Bool:=
 match P.info? t with
 |some i=>match i.zero with
  |some v=>rQ v.cells.toList z
  |none=>false
 |none=>false
def wb (P:Program) (e:TypeId) (ti:TI):Bool:=
 match P.info? e with
 |some i=>i.size==ti.el&&i.bytes==ti.qN&&yH P e ti.dW&&(match P.underlying e with|some d=>dY d==ti.zz|none=>false)
 |none=>false
def lz (P:Program):List Field->List (Nat×Nat×Bool)->Bool
 |[],[]=>true
 |f::fs,(o,s,a)::l=>f.offset==o&&decide (0<s)&&(match P.info? f.type with|some i=>i.size==s|none=>false)&&(match P.underlying f.type with|some d=>dY d==a|none=>false)&&lz P fs l
 |_,_=>false
def oA (P:Program) (L:TypeId->Option (List AV)) (acc:List AV):List Field->Option (List AV)
 |[]=>some acc
 |x::xs=>match L x.type with
  | some l => if x.name ≠ "_" ∧ x.offset = acc.length ∧ (P.info? x.type).isSome = true ∧ P.cellsOf x.type = l.length then oA P L (acc ++ l) xs else none
  |none=>none
def nc (P:Program):Nat->TypeId->Option (List AV)
 |0,_=>none
 |f+1,t=>match P.underlying t with
  |some (.int k)=>some [.int k 0]
  |some .bool=>some [.bool false]
  |some .string=>some [.str ByteArray.empty]
  |some (.struct fs)=>if P.stoodInHeld t=false then oA P (nc P f) [] fs.toList else none
  |some (.array n e)=>match nc P f e with
   |some l=>if (P.info? e).isSome=true/\P.cellsOf e=l.length then some (List.replicate n l).flatten else none
   |none=>none
  |_=>none
def sameKind:AV->AV->Bool
 |.int _ _,.int _ _=>true
 |.bool _,.bool _=>true
 |.str _,.str _=>true
 |_,_=>false
def pZ:List AV->List AV->Bool
 |[],[]=>true
 |x::l,y::m=>sameKind x y&&pZ l m
 |_,_=>false
def kM (P:Program) (t:TypeId) (ti:TI):Bool:=
 (match P.info? t with|some i=>i.size==ti.size&&i.bytes==ti.bytes|none=>false)&&
 yH P t ti.zero&&ti.zero.all AV.flat&&(ti.dW.all AV.flat&&ti.dW.length==ti.el)&&decide (ti.sc.length<16)&&
 (!ti.pl || (!P.eqGuardType P.depth t&&(match nc P 20 t with|some l=>pZ l ti.zero|none=>false)))&&
 (match ti.d,P.underlying t with
  |.int k,some (.int k')=>k==k'
  |.bool,some .bool=>true
  |.str,some .string=>true
  |.slice e,some (.slice e')=>e==e'&&wb P e ti
  |.array n e,some (.array n' e')=>n==n'&&e==e'&&wb P e ti
  |.struct,some (.struct fs)=>lz P fs.toList ti.fl
  |.ptr e,some (.pointer e')=>e==e'
  |.map k e,some (.map k' e')=>k==k'&&e==e'
  |.func,some (.func ..)=>true
  |.iface,some (.interface _)=>true
  |_,_=>false)
def AG (P:Program) (T:Aw):Prop:=∀ t ti,T t=some ti->kM P t ti=true
theorem aks (P:Program) (l:List (Nat×TI)) (h:(l.all fun p=>kM P p.1 p.2)=true):AG P (look l):=by
 intro t ti ht
 have hm:∀ (l:List (Nat×TI)),look l t=some ti->(t,ti)∈l:=by
  intro l
  clear h ht
  induction l with
  |nil=>intro h;simp[look]at h
  |cons p l ih=>
   obtain⟨k,x⟩:=p
   intro h
   rw[look]at h
   split at h
   ·rename_i e;subst e;simp only[oE]at h;subst h;exact List.mem_cons_self
   ·exact List.mem_cons_of_mem _ (ih h)
 exact(List.all_eq_true.1 h) _ (hm l ht)
theorem ael:∀ (vs:List Value) (xs:List AV),rQ vs xs=true->∀ fm ts,Am fm ts xs vs
 |[],[],_,fm,ts=>⟨rfl,fun i x v h=>by simp at h⟩
 |[],_::_,h,_,_=>by simp[rQ]at h
 |_::_,[],h,_,_=>by simp[rQ]at h
 |v::l,x::m,h,fm,ts=>by
  simp only[rQ,AP]at h
  have ih:=ael l m h.2 fm ts
  have hv:VR fm ts x v:=by
   have h1:=h.1
   unfold aek at h1
   split at h1
   ·simp only[AP,beq_iff_eq]at h1;obtain⟨rfl,rfl⟩:=h1;exact .int _ _
   ·simp only[beq_iff_eq]at h1;subst h1;exact .bool _
   ·rename_i s s';have h2:s.data=s'.data:=of_decide_eq_true h1;have h3:s=s':=by cases s;cases s';simp_all
    subst h3;exact .str _
   ·exact .nil
   ·exact .cm _ _ _
   ·exact .bf
   ·exact .bo
   ·exact .bp
   ·exact .mp none
   ·cases h1
  refine⟨by simp[ih.1],?_⟩
  intro i y u hy hu
  cases i with
  |zero=>simp only[BG,oE]at hy hu;subst hy hu;exact hv
  |succ i=>simp only[BE]at hy hu;exact ih.2 i y u hy hu
section
variable {P:Program}{T:Aw}{t:TypeId}{ti:TI}
structure Gw (P:Program) (t:TypeId) (ti:TI):Prop where
 info:∃ i,P.info? t=some i/\i.size=ti.size/\i.bytes=ti.bytes/\∃ z,i.zero=some z/\∀ fm ts,Am fm ts ti.zero z.cells.toList
 afk:∀ x∈ti.zero,x.flat=true
 wc:∀ x∈ti.dW,x.flat=true
 dW:ti.dW.length=ti.el
 sc:ti.sc.length<16
 pl:ti.pl=true->P.eqGuardType P.depth t=false/\∃ l,nc P 20 t=some l/\pZ l ti.zero=true
structure Ec (P:Program) (e:TypeId) (ti:TI):Prop where
 info:∃ i,P.info? e=some i/\i.size=ti.el/\i.bytes=ti.qN/\∃ z,i.zero=some z/\∀ fm ts,Am fm ts ti.dW z.cells.toList
 agg:∃ d,P.underlying e=some d/\dY d=ti.zz
theorem afj {z:List AV} (h:yH P t z=true):∃ i v,P.info? t=some i/\i.zero=some v/\∀ fm ts,Am fm ts z v.cells.toList:=by
 unfold yH at h
 split at h
 ·rename_i i hi
  split at h
  ·rename_i v hv
   exact⟨i,v,hi,hv,ael _ _ h⟩
  ·cases h
 ·cases h
theorem acp {e:TypeId} (h:wb P e ti=true):Ec P e ti:=by
 unfold wb at h
 split at h
 ·rename_i i hi
  simp only[AP,beq_iff_eq]at h
  obtain⟨⟨⟨h1,h2⟩,h3⟩,h4⟩:=h
  obtain⟨i',v,fB,hv,hz⟩:=afj h3
  rw[hi]at fB;obtain rfl:=oi fB
  refine⟨⟨i,hi,h1,h2,v,hv,hz⟩,?_⟩
  split at h4
  ·rename_i d hd;exact⟨d,hd,by simpa using h4⟩
  ·cases h4
 ·cases h
theorem AG.ok (hT:AG P T) (h:T t=some ti):Gw P t ti:=by
 have:=hT t ti h
 unfold kM at this
 simp only[AP]at this
 obtain⟨⟨⟨⟨⟨⟨h1,h2⟩,h3⟩,h4⟩,h5⟩,h6⟩,_⟩:=this
 split at h1
 ·rename_i i hi
  simp only[AP,beq_iff_eq]at h1
  obtain⟨i',v,fB,hv,hz⟩:=afj h2
  rw[hi]at fB;obtain rfl:=oi fB
  refine⟨⟨i,hi,h1.1,h1.2,v,hv,hz⟩,by simpa using h3,by simpa using h4.1,by simpa using h4.2,by simpa using h5,?_⟩
  intro hp
  rw[hp]at h6
  simp only[BM,Bool.false_or,AP,Bool.not_eq_true']at h6
  refine⟨h6.1,?_⟩
  have zV:=h6.2
  split at zV
  ·rename_i l hl;exact⟨l,hl,zV⟩
  ·cases zV
 ·cases h1
theorem AG.int (hT:AG P T) (h:T t=some ti) {k:IntKind} (hd:ti.d=.int k):P.underlying t=some (.int k):=by
 have:=hT t ti h
 unfold kM at this
 simp only[AP]at this
 have h7:=this.2
 rw[hd]at h7
 split at h7<;>simp_all
theorem AG.bool (hT:AG P T) (h:T t=some ti) (hd:ti.d=.bool):P.underlying t=some .bool:=by
 have:=hT t ti h
 unfold kM at this
 simp only[AP]at this
 have h7:=this.2
 rw[hd]at h7
 split at h7<;>simp_all
theorem AG.str (hT:AG P T) (h:T t=some ti) (hd:ti.d=.str):P.underlying t=some .string:=by
 have:=hT t ti h
 unfold kM at this
 simp only[AP]at this
 have h7:=this.2
 rw[hd]at h7
 split at h7<;>simp_all
theorem AG.slice (hT:AG P T) (h:T t=some ti) {e:TypeId} (hd:ti.d=.slice e):P.underlying t=some (.slice e)/\Ec P e ti:=by
 have:=hT t ti h
 unfold kM at this
 simp only[AP]at this
 have h7:=this.2
 rw[hd]at h7
 split at h7<;>simp_all
 obtain⟨rfl,h7⟩:=h7
 exact acp h7
theorem AG.array (hT:AG P T) (h:T t=some ti) {n:Nat}{e:TypeId} (hd:ti.d=.array n e):P.underlying t=some (.array n e)/\Ec P e ti:=by
 have:=hT t ti h
 unfold kM at this
 simp only[AP]at this
 have h7:=this.2
 rw[hd]at h7
 split at h7<;>simp_all
 obtain⟨⟨_,rfl⟩,h7⟩:=h7
 exact acp h7
theorem zH:∀ (fs:List Field) (l:List (Nat×Nat×Bool)),lz P fs l=true->∀ (i:Nat) (o s:Nat) (a:Bool),l[i]?=some (o,s,a)->
  ∃ f,fs[i]?=some f/\f.offset=o/\0<s/\(∃ inf,P.info? f.type=some inf/\inf.size=s)/\∃ d,P.underlying f.type=some d/\dY d=a
 |[],[],_,i,o,s,a,h=>by simp at h
 |[],_::_,h,_,_,_,_,_=>by simp[lz]at h
 |_::_,[],_,i,o,s,a,h=>by simp at h
 |f::fs,(o',s',a')::l,h,i,o,s,a,hi=>by
  simp only[lz,AP,beq_iff_eq]at h
  obtain⟨⟨⟨⟨h1,h0⟩,h2⟩,h3⟩,h4⟩:=h
  cases i with
  |zero=>
   simp only[BG,oE,Prod.mk.injEq]at hi
   obtain⟨rfl,rfl,rfl⟩:=hi
   refine⟨f,by simp,h1,of_decide_eq_true h0,?_,?_⟩
   ·split at h2
    ·rename_i inf aL;exact⟨inf,aL,by simpa using h2⟩
    ·cases h2
   ·split at h3
    ·rename_i d hd;exact⟨d,hd,by simpa using h3⟩
    ·cases h3
  |succ i=>simp only[BE]at hi ⊢;exact zH fs l h4 i o s a hi
theorem AG.struct (hT:AG P T) (h:T t=some ti) (hd:ti.d=.struct):∃ fs,P.underlying t=some (.struct fs)/\lz P fs.toList ti.fl=true:=by
 have:=hT t ti h
 unfold kM at this
 simp only[AP]at this
 have h7:=this.2
 rw[hd]at h7
 split at h7<;>simp_all
theorem AG.agg (hT:AG P T) (h:T t=some ti):∃ d,P.underlying t=some d/\dY d=ti.isAgg:=by
 have:=hT t ti h
 unfold kM at this
 simp only[AP]at this
 have h7:=this.2
 unfold TI.isAgg
 split at h7<;>rename_i h1 h2<;>first|(exact⟨_,h2,by rw[h1];rfl⟩)|(cases h7)
end
theorem aef {P:Program}{t:TypeId}{d:TypeDesc} (h:P.underlying t=some d) (w:World):(isAgg t).run P w=.ok (dY d) w:=by
 simp only[isAgg,Sem.run_bind,run_underlying h,Result.andThen_ok]
 cases d<;>simp[dY]
mutual
theorem ab8 {fm:FM}{ts:List Ah}:∀ (v:Value) (x:AV),ej v=some x->VR fm ts x v
 |.bool b,x,h=>by simp only[ej,oE]at h;subst h;exact .bool b
 |.int k n,x,h=>by simp only[ej,oE]at h;subst h;exact .int k n
 |.string s,x,h=>by simp only[ej,oE]at h;subst h;exact .str s
 |.slice none 0 0,x,h=>by simp only[ej,oE]at h;subst h;exact .nil
 |.slice none 0 (_+1),x,h=>by simp[ej]at h
 |.slice none (_+1) _,x,h=>by simp[ej]at h
 |.slice (some _) _ _,x,h=>by simp[ej]at h
 |.pointer none,x,h=>by simp only[ej,oE]at h;subst h;exact .bf
 |.pointer (some _),x,h=>by simp[ej]at h
 |.nilFunc,x,h=>by simp only[ej,oE]at h;subst h;exact .bo
 |.nilIface,x,h=>by simp only[ej,oE]at h;subst h;exact .bp
 |.agg ⟨cs⟩,x,h=>by
  simp only[ej]at h
  split at h
  ·rename_i l hl
   split at h
   ·rename_i hf
    simp only[oE]at h;subst h
    have:=ab9 (fm:=fm) (ts:=ts) cs l hl
    exact .agg l _ (by simpa using this.1) (by simpa using hf) (fun i x v hx hv=>this.2 i x v hx (by simpa using hv))
   ·cases h
  ·cases h
 |.float _ _,x,h=>by simp[ej]at h
 |.complex _ _ _,x,h=>by simp[ej]at h
 |.map _,x,h=>by simp[ej]at h
 |.chan _,x,h=>by simp[ej]at h
 |.func _ _ _,x,h=>by simp[ej]at h
 |.iface _ _,x,h=>by simp[ej]at h
 |.tuple _,x,h=>by simp[ej]at h
theorem ab9 {fm:FM}{ts:List Ah}:∀ (vs:List Value) (xs:List AV),qK vs=some xs->Am fm ts xs vs
 |[],xs,h=>by simp only[qK,oE]at h;subst h;exact⟨rfl,fun i x v h=>by simp at h⟩
 |v::l,xs,h=>by
  simp only[qK]at h
  split at h
  ·rename_i a b ha hb
   obtain rfl:=oi h
   have h1:=ab8 v a ha (fm:=fm) (ts:=ts)
   have ih:=ab9 l b hb (fm:=fm) (ts:=ts)
   refine⟨by simp[ih.1],?_⟩
   intro i y u hy hu
   cases i with
   |zero=>simp only[BG,oE]at hy hu;subst hy hu;exact h1
   |succ i=>simp only[BE]at hy hu;exact ih.2 i y u hy hu
  ·cases h
end
def Ce (fm:FM) (ts:List Ah) (tm:Tm) (a:Act):Prop:=∀ t x,tm t=some x->∃ v,a.tmps[t]?=some v/\VR fm ts x v
theorem oz {fm:FM}{ts:List Ah}{tm:Tm}{a:Act} (h:Ce fm ts tm a) {x:Operand}{y:AV} (hx:aN tm x=some y):VR fm ts y (a.eval x):=by
 cases x with
 |tmp t=>
  obtain⟨v,hv,hr⟩:=h t y hx
  have:a.eval (.tmp t)=v:=by
   simp only[Act.eval,Array.getD_eq_getD_getElem?,hv,Option.getD_some]
  rw[this]
  exact hr
 |const v=>exact ab8 v y hx
 |global g=>simp[aN]at hx
 |func f=>
  simp only[aN,oE]at hx;subst hx
  exact .fn _ [] [] #[] #[] rfl rfl (by intro i x v h;simp at h) (by intro i x v h;simp at h)
theorem uE {fm:FM}{ts:List Ah}{tm:Tm}{a:Act} (h:Ce fm ts tm a):∀ (l:List Operand) (ys:List AV),gN tm l=some ys->Am fm ts ys (l.map a.eval)
 |[],ys,e=>by simp only[gN,oE]at e;subst e;exact⟨rfl,fun i x v h=>by simp at h⟩
 |x::l,ys,e=>by
  simp only[gN]at e
  split at e
  ·rename_i p q hp hq
   obtain rfl:=oi e
   have h1:=oz h hp
   have ih:=uE h l q hq
   refine⟨by simp[ih.1],?_⟩
   intro i y u hy hu
   cases i with
   |zero=>simp only[List.map_cons,BG,oE]at hy hu;subst hy hu;exact h1
   |succ i=>simp only[List.map_cons,BE]at hy hu;exact ih.2 i y u hy hu
  ·cases e
def F6 (r:Result Next) (v:Value) (w':World):Prop:=r=.ok (.value v) w'\/(r=.ok .skip w'/\v=undef)
structure Out (N0:Nat) (W0:World) (fm:FM) (ts:List Ah) (H:Heap) (w:World) (kb:Nat) (r:Result Next) (d:De) (fm':FM) (ts':List Ah) (w':World) (v:Value):Prop where
 done:F6 r v w'
 hr:HR N0 W0 fm' ts' (H.bk d.jb) w'
 val:VR fm' ts' d.val v
 cC:Ax N0 fm fm'
 fu:Ak ts ts'
 free:∀ l k,(l≠0\/k<kb\/kb+16<=k)->tb ts l k=none->tb ts' l k=none
def Bj (N0:Nat) (W0:World) (fm:FM) (ts:List Ah) (H:Heap) (w:World) (kb:Nat) (r:Result Next) (d:De):Prop:=
 ∃ fm' ts' w' v,Out N0 W0 fm ts H w kb r d fm' ts' w' v
theorem Bj.pure {N0:Nat}{W0:World}{fm:FM}{ts:List Ah}{H:Heap}{w:World}{kb:Nat}{r:Result Next}{x:AV}{v:Value}
  (h:HR N0 W0 fm ts H w) (hr:r=.ok (.value v) w) (hv:VR fm ts x v):Bj N0 W0 fm ts H w kb r ⟨x,[]⟩:=
 ⟨fm,ts,w,v,.inl hr,h,hv,Ax.refl _ _,Ak.refl _,fun _ _ _ h=>h⟩
theorem cW {P:Program}{w w':World}{s:Sem Value}{v:Value} (hs:s.run P w=.ok v w'):
  ((do let x <-s;pure (Next.value x)):Sem Next).run P w=.ok (.value v) w':=by
 simp[hs]
theorem ahj {P:Program}{w w':World}{s:Sem Unit} (hs:s.run P w=.ok () w'):
  ((do s;pure Next.skip):Sem Next).run P w=.ok .skip w':=by
 simp[hs]
section
variable {P:Program}{T:Aw}{N0:Nat}{W0:World}{fm:FM}{ts:List Ah}{H:Heap}{w:World}{tm:Tm}{a:Act}
theorem abE {r:Option AV}{d:De} (h:cU r=some d):∃ x,r=some x/\d=⟨x,[]⟩:=by
 unfold cU at h
 cases r with
 |none=>cases h
 |some x=>simp only[AQ,oE]at h;exact⟨x,rfl,h.symm⟩
theorem ad6 {es:List (List AV)}{cf:Nat->Option Value}{esz i o size:Nat}{u:Nat->Nat->Value}{cs:List AV} (h1:cr es esz)
  (h2:∀ (i:Nat) (c:List AV) (o:Nat) (x:AV),es[i]?=some c->c[o]?=some x->cf (i*esz+o)=some (u i o))
  (h3:∀ (i:Nat) (c:List AV) (o:Nat) (x:AV),es[i]?=some c->c[o]?=some x->x.flat=true)
  (h4:∀ (i:Nat) (c:List AV) (o:Nat) (x:AV),es[i]?=some c->c[o]?=some x->VR fm [] x (u i o))
  (hs:uP es i o size=some cs):
  ∃ vs:List Value,Am fm [] cs vs/\cs.length=size/\(∀ x∈cs,x.flat=true)/\∀ (j:Nat) (v:Value),vs[j]?=some v->cf (i*esz+o+j)=some v:=by
 unfold uP at hs
 split at hs
 ·cases hs
 ·rename_i c hc
  split at hs
  ·rename_i hle
   simp only[oE]at hs;subst hs
   have dz:∀ j,((c.drop o).take size)[j]?=if j<size then c[o+j]? else none:=by
    intro j;rw[Bx];split
    ·rw[BN]
    ·rfl
   refine⟨(List.range size).map fun j=>u i (o+j),⟨by simp;omega,?_⟩,by simp;omega,?_,?_⟩
   ·intro j x v hx hv
    rw[dz]at hx
    split at hx
    ·rename_i hj
     simp only[Bz,List.getElem?_range hj,AQ,oE]at hv
     subst hv
     exact h4 i c (o+j) x hc hx
    ·cases hx
   ·intro x hx
    obtain⟨j,hj⟩:=Bl.1 hx
    rw[dz]at hj
    split at hj
    ·exact h3 i c (o+j) x hc hj
    ·cases hj
   ·intro j v hv
    have hj:j<size:=by have:=(gS.1 hv).1;simpa using this
    simp only[Bz,List.getElem?_range hj,AQ,oE]at hv
    subst hv
    have xo:o+j<c.length:=by omega
    have:=h2 i c (o+j) _ hc (gG xo)
    rw[<-this]
    congr 1
    omega
  ·split at hs
   ·rename_i hh
    obtain⟨rfl,eY,hle⟩:=hh
    simp only[oE]at hs;subst hs
    have ahQ:esz=1:=by rw[<-h1 c (Ba hc)];exact eY
    subst ahQ
    have key:∀ (l:List (List AV)),cr l 1->∀ (j:Nat),l.flatten[j]?=(l[j]?).bind (·[0]?):=by
     intro l
     induction l with
     |nil=>intro _ j;simp
     |cons y l ih=>
      intro hl j
      have hy:y.length=1:=hl y List.mem_cons_self
      obtain⟨z,rfl⟩:∃ z,y=[z]:=by
       cases y with
       |nil=>simp at hy
       |cons z r=>cases r with|nil=>exact⟨z,rfl⟩|cons=>simp at hy
      cases j with
      |zero=>simp
      |succ j=>simp;rw[ih (fun c hc=>hl c (List.mem_cons_of_mem _ hc))]
    have adu:cr ((es.drop i).take size) 1:=fun c hc=>h1 c (BX (BQ hc))
    have hlen:((es.drop i).take size).flatten.length=size:=by
     have:∀ l:List (List AV),cr l 1->l.flatten.length=l.length:=by
      intro l
      induction l with
      |nil=>intro _;rfl
      |cons y l ih=>intro hl;simp[hl y List.mem_cons_self,ih (fun c hc=>hl c (List.mem_cons_of_mem _ hc))];omega
     rw[this _ adu];simp;omega
    have dz:∀ j x,((es.drop i).take size).flatten[j]?=some x->j<size/\∃ cc,es[i+j]?=some cc/\cc[0]?=some x:=by
     intro j x hx
     have hj:j<size:=by rw[<-hlen];exact(gS.1 hx).1
     rw[key _ adu,Bx,if_pos hj,BN]at hx
     cases bR:es[i+j]? with
     |none=>rw[bR]at hx;cases hx
     |some cc=>rw[bR]at hx;exact⟨hj,cc,rfl,hx⟩
    refine⟨(List.range size).map fun j=>u (i+j) 0,⟨by simp[hlen],?_⟩,hlen,?_,?_⟩
    ·intro j x v hx hv
     obtain⟨hj,cc,bR,dg⟩:=dz j x hx
     simp only[Bz,List.getElem?_range hj,AQ,oE]at hv
     subst hv
     exact h4 (i+j) cc 0 x bR dg
    ·intro x hx
     obtain⟨j,hj⟩:=Bl.1 hx
     obtain⟨_,cc,bR,dg⟩:=dz j x hj
     exact h3 (i+j) cc 0 x bR dg
    ·intro j v hv
     have hj:j<size:=by have:=(gS.1 hv).1;simpa using this
     simp only[Bz,List.getElem?_range hj,AQ,oE]at hv
     subst hv
     have ab:i+j<es.length:=by omega
     have bR:=gG ab
     have bV:(es[i+j]).length=1:=h1 _ (List.getElem_mem ab)
     have:=h2 (i+j) _ 0 _ bR (gG (by omega))
     rw[<-this]
     congr 1
     omega
   ·cases hs
theorem HR.fP (h:HR N0 W0 fm ts H w) {x:AV}{v:Value} (hv:VR fm ts x v) {size:Nat}{cs:List AV} (hs:fP H.get size x=some cs):
  ∃ (ad:Addr) (vs:List Value),v=.pointer (some ad)/\Am fm ts cs vs/\cs.length=size/\(∀ x∈cs,x.flat=true)/\∀ j u,vs[j]?=some u->w.cell? (ad.add j)=some u:=by
 cases hv with
 |ptr l k o c ht=>
  simp only[Go.Abs.fP]at hs
  split at hs
  ·rename_i sJ hg
   split at hs
   ·rename_i hle
    simp only[oE]at hs;subst hs
    have hb:=h.aj l k _ hg
    rw[ht]at hb
    cases hb with
    |box c sJ hN hB=>
     obtain⟨cells,et,c1,c2,c3⟩:=hB
     have dz:∀ j,(AV.ck l ((sJ.drop o).take size))[j]?=if j<size then (sJ[o+j]?).map (AV.sh l) else none:=by
      intro j;rw[ky,Bx];split
      ·rw[BN]
      ·rfl
     refine⟨⟨c,o,none⟩,(List.range size).map fun j=>(cells[o+j]?).getD default,rfl,⟨by rw[kz];simp;omega,?_⟩,by rw[kz];simp;omega,?_,?_⟩
     ·intro j x v hx hv
      rw[dz]at hx
      split at hx
      ·rename_i hj
       simp only[Bz,List.getElem?_range hj,AQ,oE]at hv
       subst hv
       cases dg:sJ[o+j]? with
       |none=>rw[dg]at hx;cases hx
       |some y=>
        rw[dg]at hx;simp only[AQ,oE]at hx;subst hx
        have ab:o+j<cells.size:=by omega
        rw[Bg ab]
        exact((c3 (o+j) y _ dg (Bg ab)).2).sh l rfl
      ·cases hx
     ·intro x hx
      obtain⟨j,hj⟩:=Bl.1 hx
      rw[dz]at hj
      split at hj
      ·cases dg:sJ[o+j]? with
       |none=>rw[dg]at hj;cases hj
       |some y=>
        rw[dg]at hj;simp only[AQ,oE]at hj;subst hj
        have ab:o+j<cells.size:=by have:=(gS.1 dg).1;omega
        rw[yi]
        exact(c3 (o+j) y _ dg (Bg ab)).1
      ·cases hj
     ·intro j u hu
      have hj:j<size:=by have:=(gS.1 hu).1;simpa using this
      simp only[Bz,List.getElem?_range hj,AQ,oE]at hu
      subst hu
      have ab:o+j<cells.size:=by omega
      rw[Addr.add_lit]
      simp only[World.cell?,c1,Bg ab]
      simp
   ·cases hs
  ·cases hs
 |dF l k esz i o g p ht=>
  simp only[Go.Abs.fP]at hs
  split at hs
  ·rename_i et aC es hg
   have:=h.aj l k _ hg
   rw[ht]at this
   cases this
  ·cases hs
 |dG l k esz i o g p m' c ht ab=>
  simp only[Go.Abs.fP]at hs
  split at hs
  ·rename_i et aC es hg
   have:=h.aj l k _ hg
   rw[ht]at this
   split at hs
   ·rename_i hh
    cases this with
    |nil et esz=>simp at hh;omega
    |arr et esz es c cap hN h=>omega
   ·cases hs
  ·cases hs
 |aR l k esz i o g c cap ht=>
  simp only[Go.Abs.fP]at hs
  split at hs
  ·rename_i et aC es hg
   split at hs
   ·rename_i hh
    obtain⟨he,hlen⟩:=hh
    subst he
    have hb:=h.aj l k _ hg
    rw[ht]at hb
    cases hb with
    |arr et _ es c cap hN hA=>
     obtain⟨cells,c1,c2,c3,c4,c5,c6,c7⟩:=hA
     have hb:∀ (i:Nat) (cc:List AV) (o:Nat) (x:AV),es[i]?=some cc->cc[o]?=some x->∃ u,cells[i*aC+o]?=some u/\x.flat=true/\VR fm [] x u:=by
      intro i cc o x hi ho
      have ab:i<es.length:=(gS.1 hi).1
      have bR:cc.length=aC:=c5 cc (Ba hi)
      have xo:o<aC:=by rw[<-bR];exact(gS.1 ho).1
      have ao:i*aC+o<cells.size:=by
       rw[c2]
       have:(i+1)*aC<=cap*aC:=Bp _ (by omega)
       rw[Nat.add_mul]at this
       omega
      have:=c7 i cc o x _ hi ho (Bg ao)
      exact⟨_,Bg ao,this.1,this.2⟩
     obtain⟨vs,aM,ah0,mO,aV⟩:=ad6 (fm:=fm) (es:=es) (cf:=fun n=>cells[n]?) (esz:=aC) (i:=i) (o:=o) (size:=size) (u:=fun i o=>(cells[i*aC+o]?).getD default) (cs:=cs) c5
      (by
       intro i cc o x hi ho
       obtain⟨u,hu,_,_⟩:=hb i cc o x hi ho
       simp only[hu,Option.getD_some])
      (fun i cc o x hi ho=>(hb i cc o x hi ho).elim fun u hu=>hu.2.1)
      (by
       intro i cc o x hi ho
       obtain⟨u,hu,_,hv⟩:=hb i cc o x hi ho
       simp only[hu,Option.getD_some];exact hv)
      hs
     refine⟨⟨c,i*aC+o,none⟩,vs,rfl,⟨aM.1,fun j x v hx hv=>(aM.2 j x v hx hv).mono (AM.refl _) (Ak.nil _)⟩,ah0,mO,?_⟩
     intro j u hu
     rw[Addr.add_lit]
     simp only[World.cell?,c1]
     simpa using aV j u hu
   ·cases hs
  ·cases hs
 |aq es i o cb off esz u h1 h2 h3 h4=>
  simp only[Go.Abs.fP]at hs
  obtain⟨vs,aM,hlen,mO,aV⟩:=ad6 (cf:=fun n=>fm cb (off+n)) h1 h2 h3 h4 hs
  refine⟨_,vs,rfl,⟨aM.1,fun j x v hx hv=>(aM.2 j x v hx hv).mono (AM.refl _) (Ak.nil _)⟩,hlen,mO,?_⟩
  intro j u hu
  rw[Addr.add_lit,Nat.add_assoc]
  exact h.bL _ _ _ (aV j u hu)
 |_=>simp[Go.Abs.fP]at hs
end
section
variable {P:Program}{T:Aw}{N0:Nat}{W0:World}{fm:FM}{ts:List Ah}{H:Heap}{w:World}{t:TypeId}{ti:TI}
theorem yN {agg:Bool}{cs:List AV}{vs:List Value}{y:AV} (h:nz agg cs=some y) (hv:Am fm ts cs vs) (hf:∀ x∈cs,x.flat=true):
  VR fm ts y (if agg then .agg vs.toArray else vs.headD undef)/\(agg=false->∃ v,vs=[v]):=by
 unfold nz at h
 cases agg with
 |true=>
  simp only[if_true,oE]at h;subst h
  refine⟨?_,fun h=>by cases h⟩
  simp only[if_true]
  exact .agg cs _ (by simp[hv.1]) hf (fun i x v a b=>hv.2 i x v a (by simpa using b))
 |false=>
  simp only[B7,if_false]at h
  split at h
  ·rename_i x
   simp only[oE]at h;subst h
   have hl:=hv.1
   cases vs with
   |nil=>simp at hl
   |cons v r=>
    cases r with
    |nil=>exact⟨by simpa using hv.2 0 x v rfl rfl,fun _=>⟨v,rfl⟩⟩
    |cons=>simp at hl
  ·cases h
theorem ack (hT:AG P T) (ht:T t=some ti) (h:HR N0 W0 fm ts H w) {x y:AV}{v:Value} (hv:VR fm ts x v) (e:ly H.get ti x=some y):
  ∃ u,(Instr.loadAt t v).run P w=.ok u w/\VR fm ts y u:=by
 unfold ly at e
 cases hc:fP H.get ti.size x with
 |none=>rw[hc]at e;cases e
 |some cs=>
  rw[hc]at e
  simp only[Av]at e
  obtain⟨ad,vs,rfl,aM,hlen,mO,aV⟩:=h.fP hv hc
  obtain⟨mX,n5⟩:=yN e aM mO
  obtain⟨i,hi,ao,_,_⟩:=(hT.ok ht).info
  obtain⟨d,hd,lG⟩:=hT.agg ht
  refine⟨_,?_,mX⟩
  simp only[Instr.loadAt,Instr.sureAddr,loadVar,Sem.run_bind,Sem.run_pure,Result.andThen_ok,aef hd,lG]
  cases ha:ti.isAgg with
  |true=>
   simp only[if_true,Sem.run_bind,sizeOf,typeInfo,run_program,hi,Sem.run_pure,Result.andThen_ok]
   have:=run_loadCells_list (P:=P) w ad vs aV
   rw[<-aM.1,hlen,<-ao]at this
   rw[this]
   simp
  |false=>
   obtain⟨v,rfl⟩:=n5 ha
   have:=aV 0 v rfl
   rw[Addr.add_zero']at this
   simp[run_load,this]
theorem iW {i:Int}{n j:Nat} (h:fG i n=some j):0<=i/\i<n/\i.toNat=j:=by
 unfold fG at h
 split at h
 ·rename_i hh;simp only[oE]at h;exact⟨hh.1,hh.2,h⟩
 ·cases h
theorem afE (hT:AG P T) (ht:T t=some ti) {x y:AV}{v:Value} (hv:VR fm ts x v) {f:Nat} (e:vC ti x f=some y):
  ∃ u,(Instr.fieldAt t v f).run P w=.ok u w/\VR fm ts y u:=by
 unfold vC at e
 split at e
 ·rename_i hd
  obtain⟨fs,hu,cM⟩:=hT.struct ht hd
  split at e
  ·rename_i off sz hf
   obtain⟨sz,agg⟩:=sz
   obtain⟨fd,hfd,tN,aap,⟨inf,aL,ao⟩,_⟩:=zH _ _ cM f off sz agg hf
   have aah:fs[f]?=some fd:=by simpa using hfd
   have hnz:inf.size≠0:=by omega
   have run:∀ a:Addr,(Instr.fieldAt t (.pointer (some a)) f).run P w=.ok (.pointer (some (a.add off))) w:=by
    intro a
    simp[Instr.fieldAt,run_underlying hu,aah,Instr.sureAddr,fieldPlace,tN,sizeOf,typeInfo,aL,hnz]
   cases hv with
   |ptr l k o c h=>
    simp only[oE]at e;subst e
    exact⟨_,run _,by rw[Addr.add_lit];exact .ptr l k _ c h⟩
   |dF l k esz i o g a h=>
    simp only[oE]at e;subst e
    exact⟨_,run _,.dF l k esz i _ g _ h⟩
   |dG l k esz i o g a m' c h ab=>
    simp only[oE]at e;subst e
    exact⟨_,run _,.dG l k esz i _ g _ m' c h ab⟩
   |aR l k esz i o g c cap h=>
    simp only[oE]at e;subst e
    exact⟨_,run _,by rw[Addr.add_lit,Nat.add_assoc];exact .aR l k esz i _ g c cap h⟩
   |aq es i o cb off' esz u h1 h2 h3 h4=>
    simp only[oE]at e;subst e
    exact⟨_,run _,by rw[Addr.add_lit,Nat.add_assoc,Nat.add_assoc];exact .aq es i _ cb off' esz u h1 h2 h3 h4⟩
   |_=>simp at e
  ·cases e
 ·cases e
theorem Am.cut {cs:List AV}{vs:List Value} (h:Am fm ts cs vs) (o n:Nat):Am fm ts ((cs.drop o).take n) ((vs.drop o).take n):=by
 refine⟨by simp[h.1],?_⟩
 intro i x v hx hv
 rw[Bx]at hx hv
 split at hx
 ·rw[if_pos (by assumption)]at hv
  rw[BN]at hx hv
  exact h.2 _ x v hx hv
 ·cases hx
theorem VR.jS {cs:List AV}{v:Value} (h:VR fm ts (.agg cs) v):∃ vs:Array Value,v=.agg vs/\Am fm ts cs vs.toList/\∀ x∈cs,x.flat=true:=by
 cases h with
 |agg cs vs h1 h2 h3=>exact⟨vs,rfl,⟨by simpa using h1,fun i x v a b=>h3 i x v a (by simpa using b)⟩,h2⟩
theorem aaQ {P:Program}{t:TypeId}{d:TypeDesc}{inf:TypeInfo}{w:World}{cs:Array Value}{o s:Nat} (hu:P.underlying t=some d) (hi:P.info? t=some inf) (hs:inf.size=s) (hle:o+s<=cs.size) (h1:dY d=false->s=1):
  (part t cs o).run P w=.ok (if dY d then .agg ((cs.toList.drop o).take s).toArray else (((cs.toList.drop o).take s).headD undef)) w:=by
 simp only[part,Sem.run_bind,aef hu,Result.andThen_ok]
 cases ha:dY d with
 |true=>
  have e:(cs.toList.drop o).take s=(cs.toList.drop o).take (o+s - o):=by congr 1;omega
  simp only[if_true,Sem.run_bind,sizeOf,typeInfo,run_program,hi,Sem.run_pure,Result.andThen_ok,hs]
  congr 2
  apply Array.ext'
  simp
 |false=>
  have:=h1 ha
  subst this
  have ab:o<cs.size:=by omega
  have:(cs.toList.drop o).take 1=[cs[o]]:=by
   apply List.ext_getElem?
   intro j
   rw[Bx]
   cases j with
   |zero=>simp[ab]
   |succ j=>simp
  simp[ab,this]
theorem aby {agg:Bool}{cs:List AV}{y:AV} (h:nz agg cs=some y):agg=false->cs.length=1:=by
 intro ha
 subst ha
 unfold nz at h
 simp only[B7,if_false]at h
 split at h
 ·rfl
 ·cases h
theorem afF (hT:AG P T) (ht:T t=some ti) {x y:AV}{v:Value} (hv:VR fm ts x v) {f:Nat} (e:vB ti x f=some y):
  ∃ u,(Instr.field t v f).run P w=.ok u w/\VR fm ts y u:=by
 unfold vB at e
 split at e
 ·rename_i hd
  obtain⟨fs,hu,cM⟩:=hT.struct ht hd
  split at e
  ·rename_i cs
   split at e
   ·rename_i off sz agg hf
    split at e
    ·rename_i hle
     obtain⟨fd,hfd,tN,aap,⟨inf,aL,ao⟩,⟨d,nT,lG⟩⟩:=zH _ _ cM f off sz agg hf
     have aah:fs[f]?=some fd:=by simpa using hfd
     obtain⟨vs,rfl,aM,mO⟩:=hv.jS
     have aaf:=aM.cut off sz
     obtain⟨mX,_⟩:=yN e aaf (fun x hx=>mO x (BX (BQ hx)))
     have hlen:=aby e
     have hp:=aaQ (P:=P) (w:=w) (cs:=vs) (o:=off) nT aL ao (by have:=aM.1;simp at this;omega) (by
      intro ha;rw[lG]at ha;have:=hlen ha;simp at this;omega)
     refine⟨_,?_,mX⟩
     simp only[Instr.field,Sem.run_bind,run_underlying hu,Result.andThen_ok,aah,asAgg,Sem.run_pure,tN,hp,lG]
    ·cases e
   ·cases e
  ·cases e
 ·cases e
theorem afG (hT:AG P T) (ht:T t=some ti) {x ix y:AV}{v vi:Value} (hv:VR fm ts x v) (hi:VR fm ts ix vi) (e:vE ti x ix=some y):
  ∃ u,(Instr.indexAt t v vi).run P w=.ok u w/\VR fm ts y u:=by
 unfold vE at e
 split at e
 ·rename_i k i
  cases hi
  split at e
  ·rename_i el hd
   obtain⟨hu,⟨inf,aL,ao,_,_⟩,_⟩:=hT.slice ht hd
   have run:∀ (p:Addr) (n cp:Nat),0<=i->i<n->(Instr.indexAt t (.slice (some p) n cp) (.int k i)).run P w=.ok (.pointer (some (p.add (i.toNat*ti.el)))) w:=by
    intro p n cp h0 h1
    simp[Instr.indexAt,asIntOf,run_underlying hu,sizeOf,typeInfo,aL,ao,h0,h1]
   cases hv with
   |cm e0 p cap=>
    simp only at e
    split at e
    ·simp only[mS]at e
     obtain⟨j,hj,_⟩:=e
     obtain⟨h0,h1,_⟩:=iW hj
     simp at h1;omega
    ·cases e
   |sl es cb off esz cap u cD h1 h2 h3 h4=>
    simp only at e
    split at e
    ·rename_i he
     simp only[mS]at e
     obtain⟨j,hj,rfl⟩:=e
     obtain⟨h0,ab,rfl⟩:=iW hj
     refine⟨_,run _ _ _ h0 ab,?_⟩
     rw[Addr.add_lit,<-he]
     exact .aq es i.toNat 0 cb off esz u h1 h2 h3 h4
    ·cases e
   |bW l kk esz b n g p cp h hn ha=>
    simp only at e
    split at e
    ·simp only[mS]at e
     obtain⟨j,hj,rfl⟩:=e
     obtain⟨h0,ab,rfl⟩:=iW hj
     obtain⟨q,rfl⟩:=ha (by omega)
     exact⟨_,run _ _ _ h0 ab,.dF l kk esz _ 0 g _ h⟩
    ·cases e
   |bX l kk esz b n g p cp m' c h gp hn ha=>
    simp only at e
    split at e
    ·simp only[mS]at e
     obtain⟨j,hj,rfl⟩:=e
     obtain⟨h0,ab,rfl⟩:=iW hj
     obtain⟨q,rfl⟩:=ha (by omega)
     exact⟨_,run _ _ _ h0 ab,.dG l kk esz _ 0 g _ m' c h gp⟩
    ·cases e
   |bI l kk esz a0 h=>
    simp only at e
    split at e
    ·simp only[mS]at e
     obtain⟨j,hj,rfl⟩:=e
     obtain⟨h0,ab,rfl⟩:=iW hj
     simp at ab;omega
    ·cases e
   |loc l kk esz b n g c cap cp p h hn bh hc ha=>
    simp only at e
    split at e
    ·rename_i he
     simp only[mS]at e
     obtain⟨j,hj,rfl⟩:=e
     obtain⟨h0,ab,rfl⟩:=iW hj
     have hp:=ha (.inl (by omega))
     subst hp
     refine⟨_,run _ _ _ h0 ab,?_⟩
     rw[Addr.add_lit,<-he,<-Nat.add_mul]
     exact .aR l kk esz (b+i.toNat) 0 g c cap h
    ·cases e
   |bd l kk esz o n c cp p h hn ha=>
    simp only at e
    split at e
    ·rename_i he
     simp only[mS]at e
     obtain⟨j,hj,rfl⟩:=e
     obtain⟨h0,ab,rfl⟩:=iW hj
     have hp:=ha (by omega)
     subst hp
     refine⟨_,run _ _ _ h0 ab,?_⟩
     rw[Addr.add_lit,<-he]
     exact .ptr l kk _ c h
    ·cases e
   |_=>simp at e
  ·rename_i n el hd
   obtain⟨hu,⟨inf,aL,ao,_,_⟩,_⟩:=hT.array ht hd
   have run:∀ (p:Addr),0<=i->i<n->(Instr.indexAt t (.pointer (some p)) (.int k i)).run P w=.ok (.pointer (some (p.add (i.toNat*ti.el)))) w:=by
    intro p h0 h1
    simp[Instr.indexAt,asIntOf,run_underlying hu,sizeOf,typeInfo,aL,ao,h0,h1,Instr.sureAddr]
   cases hv with
   |ptr l kk o c h=>
    simp only[mS]at e
    obtain⟨j,hj,rfl⟩:=e
    obtain⟨h0,ab,rfl⟩:=iW hj
    exact⟨_,run _ h0 ab,by rw[Addr.add_lit];exact .ptr l kk _ c h⟩
   |dF l kk esz b o g p h=>
    simp only[mS]at e
    obtain⟨j,hj,rfl⟩:=e
    obtain⟨h0,ab,rfl⟩:=iW hj
    exact⟨_,run _ h0 ab,.dF l kk esz b _ g _ h⟩
   |dG l kk esz b o g p m' c h gp=>
    simp only[mS]at e
    obtain⟨j,hj,rfl⟩:=e
    obtain⟨h0,ab,rfl⟩:=iW hj
    exact⟨_,run _ h0 ab,.dG l kk esz b _ g _ m' c h gp⟩
   |aR l kk esz b o g c cap h=>
    simp only[mS]at e
    obtain⟨j,hj,rfl⟩:=e
    obtain⟨h0,ab,rfl⟩:=iW hj
    exact⟨_,run _ h0 ab,by rw[Addr.add_lit,Nat.add_assoc];exact .aR l kk esz b _ g c cap h⟩
   |aq es b o cb off esz u h1 h2 h3 h4=>
    simp only[mS]at e
    obtain⟨j,hj,rfl⟩:=e
    obtain⟨h0,ab,rfl⟩:=iW hj
    exact⟨_,run _ h0 ab,by rw[Addr.add_lit,Nat.add_assoc,Nat.add_assoc];exact .aq es b _ cb off esz u h1 h2 h3 h4⟩
   |_=>simp at e
  ·cases e
 ·cases e
end
section
variable {P:Program}{T:Aw}{N0:Nat}{W0:World}{fm:FM}{ts:List Ah}{H:Heap}{w:World}{t:TypeId}{ti:TI}
theorem afH (hT:AG P T) (ht:T t=some ti) {x ix y:AV}{v vi:Value} (hv:VR fm ts x v) (hi:VR fm ts ix vi) (e:vD ti x ix=some y):
  ∃ u,(Instr.index t v vi).run P w=.ok u w/\VR fm ts y u:=by
 unfold vD at e
 split at e
 ·rename_i k i
  cases hi
  split at e
  ·rename_i n el hd
   obtain⟨hu,⟨inf,aL,ao,_,_⟩,d,nT,lG⟩:=hT.array ht hd
   split at e
   ·rename_i cs
    cases hj:fG i n with
    |none=>rw[hj]at e;cases e
    |some j=>
     rw[hj]at e
     simp only[Av]at e
     obtain⟨h0,ab,rfl⟩:=iW hj
     split at e
     ·rename_i hle
      obtain⟨vs,rfl,aM,mO⟩:=hv.jS
      have aaf:=aM.cut (i.toNat*ti.el) ti.el
      obtain⟨mX,_⟩:=yN e aaf (fun x hx=>mO x (BX (BQ hx)))
      have hlen:=aby e
      have hp:=aaQ (P:=P) (w:=w) (cs:=vs) (o:=i.toNat*ti.el) nT aL ao (by have:=aM.1;simp at this;omega) (by
       intro ha;rw[lG]at ha;have:=hlen ha;simp at this;omega)
      refine⟨_,?_,mX⟩
      simp only[Instr.index,Sem.run_bind,asIntOf,Sem.run_pure,run_underlying hu,Result.andThen_ok,h0,ab,and_self,if_true,sizeOf,typeInfo,run_program,aL,ao,hp,lG]
     ·cases e
   ·cases e
  ·rename_i hd
   have hu:=hT.str ht hd
   split at e
   ·rename_i s
    cases hv
    simp only[mS]at e
    obtain⟨j,hj,rfl⟩:=e
    obtain⟨h0,ab,rfl⟩:=iW hj
    have gp:i.toNat<s.data.size:=by have:s.size=s.data.size:=rfl;omega
    refine⟨.int .u8 (s.data[i.toNat]).toNat,?_,?_⟩
    ·have hg:s[i.toNat]?=some (s.data[i.toNat]):=by
      have pC:i.toNat<s.size:=gp
      rw[getElem?_pos s i.toNat pC];rfl
     simp[Instr.index,asIntOf,run_underlying hu,h0,hg]
    ·have:s.data.toList.getD i.toNat 0=s.data[i.toNat]:=by
      rw[List.getD_eq_getElem?_getD,Array.getElem?_toList,Bg gp];rfl
     rw[this]
     exact .int _ _
   ·cases e
  ·cases e
 ·cases e
theorem agx {n h:Nat}{o:Option AV}{vo:Option Value} (ho:∀ x,o=some x->∃ v,vo=some v/\VR fm ts x v) (hn:o=none->vo=none) (e:nD n o=some h):
  h<=n/\((vo=none/\h=n)\/∃ k i,vo=some (.int k i)/\0<=i/\i.toNat=h/\i<=n):=by
 unfold nD at e
 split at e
 ·simp only[oE]at e;subst e;exact⟨A7 _,.inl ⟨hn rfl,rfl⟩⟩
 ·rename_i k i
  split at e
  ·rename_i hh
   simp only[oE]at e;subst e
   obtain⟨v,rfl,hv⟩:=ho _ rfl
   cases hv
   exact⟨by omega,.inr ⟨k,i,rfl,hh.1,rfl,hh.2⟩⟩
  ·cases e
 ·cases e
theorem agy {h l:Nat}{o:Option AV}{vo:Option Value} (ho:∀ x,o=some x->∃ v,vo=some v/\VR fm ts x v) (hn:o=none->vo=none) (e:nE h o=some l):
  l<=h/\((vo=none/\l=0)\/∃ k i,vo=some (.int k i)/\0<=i/\i.toNat=l/\i<=h):=by
 unfold nE at e
 split at e
 ·simp only[oE]at e;subst e;exact⟨Nat.zero_le _,.inl ⟨hn rfl,rfl⟩⟩
 ·rename_i k i
  split at e
  ·rename_i hh
   simp only[oE]at e;subst e
   obtain⟨v,rfl,hv⟩:=ho _ rfl
   cases hv
   exact⟨by omega,.inr ⟨k,i,rfl,hh.1,rfl,hh.2⟩⟩
  ·cases e
 ·cases e
theorem y6 {n l h:Nat}{lo hi:Option AV}{vlo oL:Option Value} (c:Nat) (isS:Bool) (bh:n<=c) (hl:∀ x,lo=some x->∃ v,vlo=some v/\VR fm ts x v) (tF:lo=none->vlo=none)
  (hh:∀ x,hi=some x->∃ v,oL=some v/\VR fm ts x v) (tw:hi=none->oL=none) (e:bounds n lo hi=some (l,h)):
  l<=h/\h<=n/\(Instr.sliceBounds isS n c vlo oL none).run P w=.ok (l,h,c) w:=by
 unfold bounds at e
 split at e
 ·rename_i h' nV
  split at e
  ·rename_i l' er
   simp only[oE,Prod.mk.injEq]at e
   obtain⟨rfl,rfl⟩:=e
   obtain⟨a1,a2⟩:=agx hh tw nV
   obtain⟨b1,b2⟩:=agy hl tF er
   refine⟨b1,a1,?_⟩
   rcases a2 with ⟨rfl,rfl⟩|⟨k,i,rfl,h0,rfl,h1⟩
   ·rcases b2 with ⟨rfl,rfl⟩|⟨k',i',rfl,zU,rfl,sX⟩
    ·simp[Instr.sliceBounds]
    ·simp[Instr.sliceBounds,Instr.sliceBound,asIntOf,zU,sX]
   ·have mI:i<=c:=by omega
    rcases b2 with ⟨rfl,rfl⟩|⟨k',i',rfl,zU,rfl,sX⟩
    ·simp[Instr.sliceBounds,Instr.sliceBound,asIntOf,h0,mI]
    ·have ak1:i'<=i.toNat:=sX
     have e3:((i.toNat:Nat):Int)=i:=by omega
     have h2:i'<=i:=by omega
     simp[Instr.sliceBounds,Instr.sliceBound,asIntOf,h0,mI,zU,h2,e3]
  ·cases e
 ·cases e
theorem afU (hT:AG P T) (ht:T t=some ti) {x y:AV}{v:Value}{lo hi:Option AV}{vlo oL:Option Value} (hv:VR fm ts x v)
  (hl:∀ x,lo=some x->∃ v,vlo=some v/\VR fm ts x v) (tF:lo=none->vlo=none) (hh:∀ x,hi=some x->∃ v,oL=some v/\VR fm ts x v) (tw:hi=none->oL=none)
  (e:lj ti x lo hi=some y):∃ u,(Instr.sliceAt t v vlo oL none).run P w=.ok u w/\VR fm ts y u:=by
 unfold lj at e
 split at e
 ·rename_i el hd
  obtain⟨hu,⟨inf,aL,ao,_,_⟩,_⟩:=hT.slice ht hd
  have run:∀ (p:Option Addr) (n cp l h:Nat),n<=cp->bounds n lo hi=some (l,h)->l<=h/\h<=n/\
    (Instr.sliceAt t (.slice p n cp) vlo oL none).run P w=.ok (.slice (if cp=l then p else p.map (·.add (l*ti.el))) (h - l) (cp - l)) w:=by
   intro p n cp l h hn hb
   obtain⟨b1,b2,b3⟩:=y6 (P:=P) (w:=w) (fm:=fm) (ts:=ts) cp true hn hl tF hh tw hb
   refine⟨b1,b2,?_⟩
   simp[Instr.sliceAt,run_underlying hu,Instr.slice,b3,sizeOf,typeInfo,aL,ao]
  split at e
  ·cases hv
   simp only[mS]at e
   obtain⟨⟨l,h⟩,hb,rfl⟩:=e
   obtain⟨b1,b2,b3⟩:=run none 0 0 l h (A7 _) hb
   have iS:l=0:=by omega
   have eo:h=0:=by omega
   subst iS eo
   refine⟨_,b3,?_⟩
   simp
   exact .nil
  ·rename_i esz es
   split at e
   ·rename_i he
    simp only[mS]at e
    obtain⟨⟨l,h⟩,hb,rfl⟩:=e
    cases hv with
    |cm e0 p cap=>
     obtain⟨b1,b2,b3⟩:=run p 0 cap l h (Nat.zero_le _) hb
     refine⟨_,b3,?_⟩
     have eo:h - l=0:=by omega
     simp only[eo,List.take_zero,List.drop_nil]
     exact .cm _ _ _
    |sl es cb off esz cap u cD h1 h2 h3 h4=>
     ·obtain⟨b1,b2,b3⟩:=run (some ⟨cb,off,none⟩) es.length cap l h cD.1 hb
      refine⟨_,b3,?_⟩
      by_cases hhl:h - l=0
      ·simp only[hhl,List.take_zero]
       exact .cm _ _ _
      ·have bV:¬ cap=l:=by omega
       simp only[if_neg bV,AQ,Addr.add_lit]
       have hlen:((es.drop l).take (h - l)).length=h - l:=by simp;omega
       have dz:∀ (i:Nat) c,((es.drop l).take (h - l))[i]?=some c->es[l+i]?=some c:=by
        intro i c hc
        rw[Bx]at hc
        split at hc
        ·rw[BN]at hc;exact hc
        ·cases hc
       have:=VR.sl (fm:=fm) (ts:=ts) ((es.drop l).take (h - l)) cb (off+l*esz) esz (cap - l) (fun i o=>u (l+i) o) (by rw[hlen];have:=cD.2;omega)
        (fun c hc=>h1 c (BX (BQ hc)))
        (by
         intro i c o x hc ho
         have:=h2 (l+i) c o x (dz i c hc) ho
         rw[<-this];congr 1;rw[Nat.add_mul];omega)
        (fun i c o x hc ho=>h3 (l+i) c o x (dz i c hc) ho)
        (fun i c o x hc ho=>h4 (l+i) c o x (dz i c hc) ho)
       rw[hlen]at this
       rw[<-he]
       exact this
   ·cases e
  ·rename_i lv k esz i n g
   split at e
   ·rename_i he
    simp only[mS]at e
    obtain⟨⟨l,h⟩,hb,rfl⟩:=e
    cases hv with
    |bW _ _ _ _ _ _ p cp dS hn ha=>
     obtain⟨b1,b2,b3⟩:=run p n cp l h hn hb
     refine⟨_,b3,.bW lv k esz _ _ g _ _ dS (by omega) ?_⟩
     intro aap
     obtain⟨q,rfl⟩:=ha (by omega)
     split
     ·exact⟨_,rfl⟩
     ·exact⟨_,rfl⟩
    |bX _ _ _ _ _ _ p cp m' c dS ab hn ha=>
     obtain⟨b1,b2,b3⟩:=run p n cp l h hn hb
     refine⟨_,b3,.bX lv k esz _ _ g _ _ m' c dS ab (by omega) ?_⟩
     intro aap
     obtain⟨q,rfl⟩:=ha (by omega)
     split
     ·exact⟨_,rfl⟩
     ·exact⟨_,rfl⟩
    |bI _ _ _ a0 dS=>
     obtain⟨b1,b2,b3⟩:=run a0 0 0 l h (A7 _) hb
     have iS:l=0:=by omega
     have eo:h=0:=by omega
     subst iS eo
     refine⟨_,b3,?_⟩
     simp
     exact .bI lv k esz _ dS
    |loc _ _ _ _ _ _ c cap cp p dS hn bh hc ha=>
     obtain⟨b1,b2,b3⟩:=run (some p) n cp l h bh hb
     by_cases bV:cp=l
     ·rw[if_pos bV]at b3
      refine⟨_,b3,.loc lv k esz (i+l) (h - l) g c cap (cp - l) p dS (by omega) (by omega) (by omega) ?_⟩
      intro hz
      rcases hz with hz|hz
      ·omega
      ·have rk:i=0:=by omega
       have iS:l=0:=by omega
       subst rk iS
       exact ha (.inr rfl)
     ·simp only[if_neg bV,AQ]at b3
      have hp:=ha (.inl (by omega))
      subst hp
      refine⟨_,b3,?_⟩
      rw[Addr.add_lit,<-he,<-Nat.add_mul]
      exact .loc lv k esz (i+l) (h - l) g c cap (cp - l) _ dS (by omega) (by omega) (by omega) (fun _=>rfl)
   ·cases e
  ·cases e
 ·rename_i hd
  have hu:=hT.str ht hd
  split at e
  ·rename_i s
   cases hv
   simp only[mS]at e
   obtain⟨⟨l,h⟩,hb,rfl⟩:=e
   obtain⟨b1,b2,b3⟩:=y6 (P:=P) (w:=w) (fm:=fm) (ts:=ts) s.size false (A7 _) hl tF hh tw hb
   refine⟨_,?_,.str _⟩
   simp[Instr.sliceAt,run_underlying hu,Instr.slice,b3]
  ·cases e
 ·rename_i n el hd
  obtain⟨hu,⟨inf,aL,ao,_,_⟩,_⟩:=hT.array ht hd
  split at e
  ·rename_i lv k o
   simp only[mS]at e
   obtain⟨⟨l,h⟩,hb,rfl⟩:=e
   obtain⟨b1,b2,b3⟩:=y6 (P:=P) (w:=w) (fm:=fm) (ts:=ts) n false (A7 _) hl tF hh tw hb
   cases hv with
   |ptr _ _ _ c dS=>
    refine⟨.slice (some (if n=l then ⟨c,o,none⟩ else (⟨c,o,none⟩:Addr).add (l*ti.el))) (h - l) (n - l),?_,?_⟩
    ·simp[Instr.sliceAt,run_underlying hu,Instr.sureAddr,b3,sizeOf,typeInfo,aL,ao]
    ·refine .bd lv k ti.el _ (h - l) c (n - l) _ dS (by omega) ?_
     intro bg
     rw[if_neg (by omega),Addr.add_lit]
  ·cases e
 ·cases e
end
section
variable {P:Program}{T:Aw}{N0:Nat}{W0:World}{fm:FM}{ts:List Ah}{H:Heap}{w:World}{t:TypeId}{ti:TI}
theorem ahg (op:BinOp) (x y:Operand) {a b:Value} (h:∀ xs,a≠.agg xs) (h':a≠.nilIface):(eqGuard op t x y a b).run P w=.ok () w:=by
 cases op<;>cases a<;>cases b<;>simp_all [eqGuard]
theorem yR (x y:Int):(x==y)=decide (x=y):=by
 by_cases h:x=y<;>simp[h]
theorem afu {op:BinOp}{k k':IntKind}{x y:Int}{z:AV} (e:ml op (.int k x) (.int k' y)=some z):
  ∃ r,(binOp op t (.int k x) (.int k' y)).run P w=.ok r w/\VR fm ts z r:=by
 unfold ml at e
 simp only at e
 cases op
 case shl=>
  simp only at e
  split at e
  ·cases e
  ·rename_i hy
   simp only[oE]at e;subst e
   exact⟨.int k (k.wrap (x*2 ^ (min y.toNat k.bits))),by simp[binOp,Op.shift,hy],.int _ _⟩
 case shr=>
  simp only at e
  split at e
  ·cases e
  ·rename_i hy
   simp only[oE]at e;subst e
   exact⟨.int k (x.fdiv (2 ^ (min y.toNat k.bits))),by simp[binOp,Op.shift,hy],.int _ _⟩
 all_goals
  simp only at e
  split at e
  case isFalse=>cases e
 all_goals
  rename_i hk
  subst hk
 case add=>simp only[oE]at e;subst e;exact⟨.int k (k.wrap (x+y)),by simp[binOp,Op.intArith],.int _ _⟩
 case sub=>simp only[oE]at e;subst e;exact⟨.int k (k.wrap (x - y)),by simp[binOp,Op.intArith],.int _ _⟩
 case mul=>simp only[oE]at e;subst e;exact⟨.int k (k.wrap (x*y)),by simp[binOp,Op.intArith],.int _ _⟩
 case quo=>
  by_cases hy:y=0
  ·rw[if_pos hy]at e;cases e
  ·rw[if_neg hy]at e
   simp only[oE]at e;subst e
   exact⟨.int k (k.wrap (x.tdiv y)),by simp[binOp,Op.intDiv,hy],.int _ _⟩
 case rem=>
  by_cases hy:y=0
  ·rw[if_pos hy]at e;cases e
  ·rw[if_neg hy]at e
   simp only[oE]at e;subst e
   exact⟨.int k (x.tmod y),by simp[binOp,Op.intDiv,hy],.int _ _⟩
 case and=>simp only[oE]at e;subst e;exact⟨.int k (oV k x y),by unfold oV;simp only[binOp,Op.intBits];simp,.int _ _⟩
 case or=>simp only[oE]at e;subst e;exact⟨.int k (iO k x y),by unfold iO;simp only[binOp,Op.intBits];simp,.int _ _⟩
 case xor=>simp only[oE]at e;subst e;exact⟨.int k (yO k x y),by unfold yO;simp only[binOp,Op.intBits];simp,.int _ _⟩
 case eql=>simp only[oE]at e;subst e;exact⟨.bool (decide (x=y)),by simp[binOp,Op.intCmp,yR],.bool _⟩
 case neq=>simp only[oE]at e;subst e;exact⟨.bool (!decide (x=y)),by simp[binOp,Op.intCmp,bne,yR],.bool _⟩
 case lss=>simp only[oE]at e;subst e;exact⟨.bool (decide (x<y)),by simp[binOp,Op.intCmp],.bool _⟩
 case leq=>simp only[oE]at e;subst e;exact⟨.bool (decide (x<=y)),by simp[binOp,Op.intCmp],.bool _⟩
 case gtr=>simp only[oE]at e;subst e;exact⟨.bool (decide (y<x)),by simp[binOp,Op.intCmp],.bool _⟩
 case geq=>simp only[oE]at e;subst e;exact⟨.bool (decide (y<=x)),by simp[binOp,Op.intCmp],.bool _⟩
 all_goals cases e
theorem run_eql_bool (hu:P.underlying t=some .bool) (x y:Bool):(binOp .eql t (.bool x) (.bool y)).run P w=.ok (.bool (x==y)) w:=by
 simp only[binOp]
 simp[Op.equal,Op.maxDepth,run_equalIn_bool' w 9999 t x y hu]
theorem run_neq_bool (hu:P.underlying t=some .bool) (x y:Bool):(binOp .neq t (.bool x) (.bool y)).run P w=.ok (.bool (!(x==y))) w:=by
 simp only[binOp]
 simp[Op.equal,Op.maxDepth,run_equalIn_bool' w 9999 t x y hu]
theorem afv {op:BinOp}{x y z:AV}{v u:Value} (hd:∀ b,x=AV.bool b->P.underlying t=some .bool) (hv:VR fm ts x v) (hu:VR fm ts y u) (e:ml op x y=some z):
  ∃ r,(binOp op t v u).run P w=.ok r w/\VR fm ts z r/\(∀ xs,v≠.agg xs)/\v≠.nilIface:=by
 have e0:=e
 unfold ml at e
 split at e
 ·cases hv;cases hu
  obtain⟨r,h1,h2⟩:=afu (P:=P) (w:=w) (t:=t) (fm:=fm) (ts:=ts) e0
  exact⟨r,h1,h2,by simp,by simp⟩
 ·rename_i x y
  cases hv;cases hu
  have hb:=hd x rfl
  cases op
  case eql=>simp only[oE]at e;subst e;exact⟨_,run_eql_bool hb x y,.bool _,by simp,by simp⟩
  case neq=>simp only[oE]at e;subst e;exact⟨_,run_neq_bool hb x y,.bool _,by simp,by simp⟩
  all_goals simp at e
 ·rename_i x y
  cases hv;cases hu
  cases op
  case eql=>simp only[oE]at e;subst e;exact⟨.bool (x.toList==y.toList),by simp[binOp,Op.stringOp],.bool _,by simp,by simp⟩
  case neq=>simp only[oE]at e;subst e;exact⟨.bool (!(x.toList==y.toList)),by simp[binOp,Op.stringOp],.bool _,by simp,by simp⟩
  case add=>
   simp only at e
   split at e
   ·rename_i ab
    simp only[oE]at e;subst e
    refine⟨.string (x++y),?_,.str _,by simp,by simp⟩
    have hm:¬ (IntKind.i64.max<((x.size+y.size:Nat):Int)):=by simp[IntKind.max,IntKind.signed,IntKind.bits];omega
    simp only[binOp,Op.stringOp]
    rw[if_neg hm]
    simp
   ·cases e
  all_goals simp at e
 ·cases e
theorem Am.append {a b:List AV}{u v:List Value} (h:Am fm ts a u) (k:Am fm ts b v):Am fm ts (a++b) (u++v):=by
 refine⟨by simp[h.1,k.1],?_⟩
 intro i x y hx hy
 rw[List.getElem?_append]at hx hy
 split at hx
 ·rw[if_pos (by rw[<-h.1];assumption)]at hy
  exact h.2 i x y hx hy
 ·rw[if_neg (by rw[<-h.1];assumption)]at hy
  rw[<-h.1]at hy
  exact k.2 _ x y hx hy
theorem zC:∀ (n:Nat) (z x y:List AV) (r:Bool),ba z x y=some r->∃ r1 r2,ba (z.take n) (x.take n) (y.take n)=some r1/\ba (z.drop n) (x.drop n) (y.drop n)=some r2/\r=(r1&&r2)
 |0,z,x,y,r,h=>⟨true,r,by simp[ba],by simpa using h,by simp⟩
 |n+1,[],[],[],r,h=>⟨true,r,by simp[ba],by simpa using h,by simp⟩
 |n+1,z::zs,x::xs,y::ys,r,h=>by
  simp only[ba]at h
  split at h
  ·rename_i p q hp hq
   simp only[oE]at h;subst h
   obtain⟨r1,r2,h1,h2,rfl⟩:=zC n zs xs ys q hq
   exact⟨p&&r1,r2,by simp[ba,hp,h1],by simpa using h2,by rw[Bool.and_assoc]⟩
  ·cases h
 |_+1,[],_::_,_,_,h=>by simp[ba]at h
 |_+1,[],[],_::_,_,h=>by simp[ba]at h
 |_+1,_::_,[],_,_,h=>by simp[ba]at h
 |_+1,_::_,_::_,[],_,h=>by simp[ba]at h
theorem sN:∀ (z x y:List AV) (r:Bool),ba z x y=some r->x.length=z.length/\y.length=z.length
 |[],[],[],_,_=>⟨rfl,rfl⟩
 |z::zs,x::xs,y::ys,r,h=>by
  simp only[ba]at h
  split at h
  ·rename_i p q hp hq
   have:=sN zs xs ys q hq
   simp[this.1,this.2]
  ·cases h
 |[],_::_,_,_,h=>by simp[ba]at h
 |[],[],_::_,_,h=>by simp[ba]at h
 |_::_,[],_,_,h=>by simp[ba]at h
 |_::_,_::_,[],_,h=>by simp[ba]at h
theorem acu:∀ (z z' x y:List AV) (r:Bool),pZ z z'=true->ba z' x y=some r->ba z x y=some r
 |[],[],x,y,r,_,h=>h
 |[],_::_,_,_,_,k,_=>by simp[pZ]at k
 |_::_,[],_,_,_,k,_=>by simp[pZ]at k
 |z::zs,z'::zs',x,y,r,k,h=>by
  cases x with
  |nil=>cases y<;>simp[ba]at h
  |cons x xs=>
   cases y with
   |nil=>simp[ba]at h
   |cons y ys=>
    simp only[ba]at h ⊢
    split at h
    ·rename_i p q hp hq
     simp only[pZ,AP]at k
     have ih:=acu zs zs' xs ys q k.2 hq
     have h1:gD z x y=some p:=by
      have k1:=k.1
      unfold sameKind at k1
      split at k1
      ·cases x<;>cases y<;>first|(simp[gD]at hp;done)|simpa [gD] using hp
      ·cases x<;>cases y<;>first|(simp[gD]at hp;done)|simpa [gD] using hp
      ·cases x<;>cases y<;>first|(simp[gD]at hp;done)|simpa [gD] using hp
      ·cases k1
     rw[h1,ih]
     exact h
    ·cases h
def mn (agg:Bool) (vs:List Value):Value:=if agg then .agg vs.toArray else vs.headD undef
theorem ac0 {P:Program}{f:Nat}:∀ (l:List Field) (acc zs:List AV),oA P (nc P f) acc l=some zs->acc <+: zs
 |[],acc,zs,h=>by simp only[oA,oE]at h;subst h;exact List.prefix_refl _
 |x::l,acc,zs,h=>by
  simp only[oA]at h
  split at h
  ·split at h
   ·exact(List.prefix_append _ _).trans (ac0 l _ zs h)
   ·cases h
  ·cases h
theorem xT {P:Program}{w:World}{t:TypeId}{eK:TypeDesc}{inf:TypeInfo}{vs:List Value}{o n:Nat} (hu:P.underlying t=some eK) (hi:P.info? t=some inf) (hs:inf.size=n) (hle:o+n<=vs.length) (h1:dY eK=false->n=1):
  (part t vs.toArray o).run P w=.ok (mn (dY eK) ((vs.drop o).take n)) w:=by
 have:=aaQ (P:=P) (w:=w) (cs:=vs.toArray) (o:=o) hu hi hs (by simpa using hle) h1
 simpa [mn] using this
theorem ad2 {P:Program}{w:World}:∀ (f:Nat) (t:TypeId) (zs:List AV),nc P f t=some zs->∃ eK,P.underlying t=some eK/\(dY eK=false->zs.length=1)/\
  ∀ (d:Nat),f<=d->∀ (xs ys:List AV) (vs us:List Value) (r:Bool),Am fm ts xs vs->Am fm ts ys us->ba zs xs ys=some r->
   (Op.equalIn d t (mn (dY eK) vs) (mn (dY eK) us)).run P w=.ok r w
 |0,t,zs,h=>by simp[nc]at h
 |f+1,t,zs,h=>by
  have IH:=ad2 (P:=P) (w:=w) f
  unfold nc at h
  have leaf:∀ (eK:TypeDesc) (z:AV),P.underlying t=some eK->dY eK=false->zs=[z]->
    (∀ d x y v u r,VR fm ts x v->VR fm ts y u->gD z x y=some r->(Op.equalIn (d+1) t v u).run P w=.ok r w)->∃ eK,P.underlying t=some eK/\(dY eK=false->zs.length=1)/\
  ∀ (d:Nat),f+1<=d->∀ (xs ys:List AV) (vs us:List Value) (r:Bool),Am fm ts xs vs->Am fm ts ys us->ba zs xs ys=some r->
   (Op.equalIn d t (mn (dY eK) vs) (mn (dY eK) us)).run P w=.ok r w:=by
   intro eK z hu ha hz aK
   refine⟨eK,hu,fun _=>by rw[hz];rfl,?_⟩
   intro d hd xs ys vs us r hv n8 he
   obtain⟨d,rfl⟩:∃ k,d=k+1:=⟨d - 1,by omega⟩
   have hl:=sN _ _ _ _ he
   subst hz
   cases xs with
   |nil=>simp at hl
   |cons x xs=>
    cases xs with
    |cons _ _=>simp at hl
    |nil=>
     cases ys with
     |nil=>simp at hl
     |cons y ys=>
      cases ys with
      |cons _ _=>simp at hl
      |nil=>
       simp only[ba]at he
       split at he
       ·rename_i p q hp hq
        have hq:true=q:=by simpa [ba] using hq
        subst hq
        simp only[Bool.and_true,oE]at he;subst he
        have h1:=hv.1
        have h2:=n8.1
        cases vs with
        |nil=>simp at h1
        |cons v vs=>
         cases us with
         |nil=>simp at h2
         |cons u us=>
          rw[ha]
          exact aK d x y v u p (hv.2 0 x v rfl rfl) (n8.2 0 y u rfl rfl) hp
       ·cases he
  split at h
  ·rename_i k hu
   simp only[oE]at h
   refine leaf _ _ hu rfl h.symm ?_
   intro d x y v u r hv e9 e
   unfold gD at e
   split at e
   ·cases hv;cases e9
    split at e
    ·rename_i hk;subst hk
     simp only[oE]at e;subst e
     rw[run_equalIn_int w d t _ _ _ _ hu,yR]
    ·cases e
   ·rename_i heq;cases heq
   ·rename_i heq;cases heq
   ·cases e
  ·rename_i hu
   simp only[oE]at h
   refine leaf _ _ hu rfl h.symm ?_
   intro d x y v u r hv e9 e
   unfold gD at e
   split at e
   ·rename_i heq;cases heq
   ·cases hv;cases e9
    simp only[oE]at e;subst e
    exact run_equalIn_bool' w d t _ _ hu
   ·rename_i heq;cases heq
   ·cases e
  ·rename_i hu
   simp only[oE]at h
   refine leaf _ _ hu rfl h.symm ?_
   intro d x y v u r hv e9 e
   unfold gD at e
   split at e
   ·rename_i heq;cases heq
   ·rename_i heq;cases heq
   ·cases hv;cases e9
    simp only[oE]at e;subst e
    exact run_equalIn_string w d t _ _ hu
   ·cases e
  ·rename_i fs hu
   split at h
   ·rename_i cw
    refine⟨_,hu,fun h=>by simp[dY]at h,?_⟩
    intro d hd xs ys vs us r hv e9 he
    obtain⟨d,rfl⟩:∃ k,d=k+1:=⟨d - 1,by omega⟩
    have hfo:P.fieldsOf t=fs:=by simp[Program.fieldsOf,hu]
    simp only[mn,dY,if_true]
    rw[run_equalIn_struct w d t _ _ (by rw[hfo];exact hu) cw,hfo]
    have loop:∀ (l:List Field) (acc zs:List AV),oA P (nc P f) acc l=some zs->∀ r,ba (zs.drop acc.length) (xs.drop acc.length) (ys.drop acc.length)=some r->xs.length=zs.length->ys.length=zs.length->
      (Op.eqFields d vs.toArray us.toArray l).run P w=.ok r w:=by
     intro l
     induction l with
     |nil=>
      intro acc zs hg r he eY iT
      simp only[oA,oE]at hg;subst hg
      simp only[List.drop_length]at he
      have e1:xs.drop acc.length=[]:=by simp[eY]
      have e2:ys.drop acc.length=[]:=by simp[iT]
      rw[e1,e2]at he
      simp only[ba,oE]at he;subst he
      simp[Op.eqFields]
     |cons x l ihl=>
      intro acc zs hg r he eY iT
      simp only[oA]at hg
      split at hg
      ·rename_i zl mZ
       split at hg
       ·rename_i hc
        obtain⟨gq,tN,aL,aV⟩:=hc
        obtain⟨inf,aL⟩:=Option.isSome_iff_exists.1 aL
        have ao:inf.size=zl.length:=by rw[<-aV];simp[Program.cellsOf,aL]
        obtain⟨eK,ke,n5,zY⟩:=IH x.type zl mZ
        obtain⟨rest,xx⟩:=ac0 l _ zs hg
        have hzd:zs.drop acc.length=zl++rest:=by rw[<-xx,Cd];simp
        have hlen:zs.length=acc.length+zl.length+rest.length:=by rw[<-xx];simp;omega
        obtain⟨r1,r2,h1,h2,rfl⟩:=zC zl.length _ _ _ _ he
        rw[hzd,List.take_left]at h1
        simp only[List.drop_drop]at h2
        have tQ:=xT (w:=w) (vs:=vs) (o:=acc.length) ke aL ao (by rw[<-hv.1];omega) n5
        have tR:=xT (w:=w) (vs:=us) (o:=acc.length) ke aL ao (by rw[<-e9.1];omega) n5
        have hq:=zY d (by omega) _ _ _ _ r1 (hv.cut acc.length zl.length) (e9.cut acc.length zl.length) h1
        have hn:=ihl (acc++zl) zs hg r2 (by simpa using h2) eY iT
        simp only[Op.eqFields,if_pos gq,Sem.run_bind,tN,tQ,tR,hq,Result.andThen_ok]
        cases r1 with
        |true=>simpa using hn
        |false=>simp
       ·cases hg
      ·cases hg
    exact loop fs.toList [] zs h r (by simpa using he) (sN _ _ _ _ he).1 (sN _ _ _ _ he).2
   ·cases h
  ·rename_i n e hu
   split at h
   ·rename_i zl mZ
    split at h
    ·rename_i hc
     obtain⟨aL,aV⟩:=hc
     obtain⟨inf,aL⟩:=Option.isSome_iff_exists.1 aL
     have ao:inf.size=zl.length:=by rw[<-aV];simp[Program.cellsOf,aL]
     simp only[oE]at h;subst h
     obtain⟨eK,ke,n5,zY⟩:=IH e zl mZ
     refine⟨_,hu,fun h=>by simp[dY]at h,?_⟩
     intro d hd xs ys vs us r hv e9 he
     obtain⟨d,rfl⟩:∃ k,d=k+1:=⟨d - 1,by omega⟩
     simp only[mn,dY,if_true]
     rw[run_equalIn_array w d _ _ hu aL,aV]
     have hl:=sN _ _ _ _ he
     have cM:∀ m,(List.replicate m zl).flatten.length=m*zl.length:=by intro m;simp
     have ade:∀ m k,k<=m->(List.replicate m zl).flatten.drop (k*zl.length)=(List.replicate (m - k) zl).flatten:=by
      intro m k hk
      have:List.replicate m zl=List.replicate k zl++List.replicate (m - k) zl:=by rw[List.replicate_append_replicate];congr 1;omega
      rw[this,List.flatten_append,List.drop_left' (cM k)]
     have loop:∀ (m k:Nat),k+m=n->∀ r,ba ((List.replicate n zl).flatten.drop (k*zl.length)) (xs.drop (k*zl.length)) (ys.drop (k*zl.length))=some r->
       (Op.eqItems d e zl.length vs.toArray us.toArray (List.range' k m)).run P w=.ok r w:=by
      intro m
      induction m with
      |zero=>
       intro k hk r he
       have:k=n:=by omega
       subst this
       have e1:xs.drop (k*zl.length)=[]:=by rw[List.drop_eq_nil_iff,hl.1,cM];omega
       have e2:ys.drop (k*zl.length)=[]:=by rw[List.drop_eq_nil_iff,hl.2,cM];omega
       rw[ade k k (by omega),e1,e2]at he
       simp only[Nat.sub_self,List.replicate_zero,List.flatten_nil,ba,oE]at he;subst he
       simp[Op.eqItems]
      |succ m uj=>
       intro k hk r he
       obtain⟨r1,r2,h1,h2,rfl⟩:=zC zl.length _ _ _ _ he
       have ui:((List.replicate n zl).flatten.drop (k*zl.length)).take zl.length=zl:=by
        rw[ade n k (by omega),show n - k=(n - k - 1)+1 from by omega,List.replicate_succ,BZ,List.take_left]
       rw[ui]at h1
       simp only[List.drop_drop]at h2
       have cQ:k*zl.length+zl.length=(k+1)*zl.length:=by rw[Nat.add_mul];omega
       rw[cQ]at h2
       have hbound:k*zl.length+zl.length<=n*zl.length:=by rw[cQ];exact Bp _ (by omega)
       have tQ:=xT (w:=w) (vs:=vs) (o:=k*zl.length) ke aL ao (by rw[<-hv.1,hl.1,cM];exact hbound) n5
       have tR:=xT (w:=w) (vs:=us) (o:=k*zl.length) ke aL ao (by rw[<-e9.1,hl.2,cM];exact hbound) n5
       have hq:=zY d (by omega) _ _ _ _ r1 (hv.cut _ zl.length) (e9.cut _ zl.length) h1
       have hn:=uj (k+1) (by omega) r2 h2
       simp only[List.range'_succ,Op.eqItems,Sem.run_bind,tQ,tR,hq,Result.andThen_ok]
       cases r1 with
       |true=>simpa using hn
       |false=>simp
     rw[List.range_eq_range']
     exact loop n 0 (by omega) r (by simpa using he)
    ·cases h
   ·cases h
  ·cases h
end
section
variable {P:Program}{T:Aw}{N0:Nat}{W0:World}{fm:FM}{ts:List Ah}{H:Heap}{w:World}{t:TypeId}{ti:TI}
theorem aft (hT:AG P T) (ht:T t=some ti) {op:BinOp}{x y z:AV}{v u:Value}{ox oy:Operand} (hv:VR fm ts x v) (hu:VR fm ts y u) (e:vz ti op x y=some z):
  ∃ r,(do eqGuard op t ox oy v u;binOp op t v u:Sem Value).run P w=.ok r w/\VR fm ts z r:=by
 have plain:∀ (hd:∀ b,x=AV.bool b->P.underlying t=some .bool) (e:ml op x y=some z),∃ r,(do eqGuard op t ox oy v u;binOp op t v u:Sem Value).run P w=.ok r w/\VR fm ts z r:=by
  intro hd e
  obtain⟨r,h1,h2,h3,h4⟩:=afv (P:=P) (w:=w) hd hv hu e
  refine⟨r,?_,h2⟩
  have:=ahg (P:=P) (w:=w) (t:=t) op ox oy (a:=v) (b:=u) h3 h4
  simp[this,h1]
 unfold vz at e
 split at e
 ·rename_i xs ys
  split at e
  ·rename_i hp
   obtain⟨vs,rfl,aM,hf⟩:=hv.jS
   obtain⟨us,rfl,lS,rj⟩:=hu.jS
   obtain⟨hg,l,hl,hk⟩:=(hT.ok ht).pl hp.1
   obtain⟨eK,hdu,n5,aK⟩:=ad2 (P:=P) (w:=w) (fm:=fm) (ts:=ts) 20 t l hl
   have lG:∀ r,ba ti.zero xs ys=some r->(Op.equalIn 10000 t (.agg vs) (.agg us)).run P w=.ok r w:=by
    intro r he
    have h2:=acu l ti.zero xs ys r hk he
    have:=aK 10000 (by decide) xs ys vs.toList us.toList r aM lS h2
    cases ha:dY eK with
    |true=>rw[ha]at this;simpa [mn] using this
    |false=>
     obtain⟨d',hd',eN⟩:=hT.agg ht
     rw[hdu]at hd';obtain rfl:=oi hd'
     rw[ha,hp.2]at eN;cases eN
   have xh:=run_eqGuard_agg (P:=P) w op t ox oy vs us hg
   cases op
   case eql=>
    simp only[mS]at e
    obtain⟨r,hr,rfl⟩:=e
    refine⟨.bool r,?_,.bool r⟩
    simp[xh,run_eql_struct,lG r hr]
   case neq=>
    simp only[mS]at e
    obtain⟨r,hr,rfl⟩:=e
    refine⟨.bool !r,?_,.bool _⟩
    simp[xh,run_neq_struct,lG r hr]
   all_goals cases e
  ·cases e
 ·rename_i x y
  split at e
  ·rename_i hd
   exact plain (fun _ _=>hT.bool ht hd) e
  ·cases e
 ·rename_i ah4 aak
  refine plain (fun b hb=>?_) e
  subst hb
  cases y with
  |bool c=>exact absurd rfl (aak b c rfl)
  |_=>simp[ml]at e
theorem flat_get (sz:Nat):∀ (es:List (List AV)),cr es sz->∀ j,es.flatten[j]?=(es[j / sz]?).bind fun c=>c[j % sz]?
 |[],_,j=>by simp
 |c::es,h,j=>by
  have hc:c.length=sz:=h c List.mem_cons_self
  have ih:=flat_get sz es (fun d hd=>h d (List.mem_cons_of_mem _ hd))
  simp only[BZ]
  by_cases h0:sz=0
  ·subst h0
   have:c=[]:=List.eq_nil_of_length_eq_zero hc
   subst this
   have hi:=ih j
   simp only[BV,hi,Nat.div_zero,Nat.mod_zero,BG,Av,List.getElem?_nil]
   cases h1:es[0]? with
   |none=>rfl
   |some d=>
    have:d.length=0:=h d (List.mem_cons_of_mem _ (Ba h1))
    have:d=[]:=List.eq_nil_of_length_eq_zero this
    subst this;simp
  ·have hp:0<sz:=Nat.pos_of_ne_zero h0
   by_cases hj:j<sz
   ·rw[B5 (by omega),Nat.div_eq_of_lt hj,Nat.mod_eq_of_lt hj];simp
   ·rw[Ch (by omega),hc,ih (j - sz)]
    have h1:j / sz=(j - sz) / sz+1:=by
     rw[<-Nat.sub_add_cancel (Nat.le_of_not_lt hj),Nat.add_div_right _ hp];simp
    have h2:j % sz=(j - sz) % sz:=by
     rw[Nat.mod_eq_sub_mod (Nat.le_of_not_lt hj)]
    rw[h1,h2];simp
theorem ij (sz:Nat):∀ (es:List (List AV)),cr es sz->es.flatten.length=es.length*sz
 |[],_=>by simp
 |c::es,h=>by
  have hc:c.length=sz:=h c List.mem_cons_self
  have ih:=ij sz es (fun d hd=>h d (List.mem_cons_of_mem _ hd))
  simp only[BZ,BL,ih,hc,Ay,Nat.add_mul];omega
mutual
theorem zN (G:AA):∀ (x y:AV),x.ag (fun _ _=>none)=some y->x.ag G=some y
 |.loc l k e i n g,y,h=>by simp[AV.ag]at h
 |.nil,y,h=>by simpa [AV.ag] using h
 |.bA t v,y,h=>by
  simp only[AV.ag,mS]at h ⊢
  obtain⟨a,h1,h2⟩:=h
  exact⟨a,zN G v a h1,h2⟩
 |.agg cs,y,h=>by
  simp only[AV.ag,mS]at h ⊢
  obtain⟨a,h1,h2⟩:=h
  exact⟨a,qV G cs a h1,h2⟩
 |.ak vs,y,h=>by
  simp only[AV.ag,mS]at h ⊢
  obtain⟨a,h1,h2⟩:=h
  exact⟨a,qV G vs a h1,h2⟩
 |.bool b,y,h=>by simpa [AV.ag] using h
 |.int k n,y,h=>by simpa [AV.ag] using h
 |.str s,y,h=>by simpa [AV.ag] using h
 |.sl e es,y,h=>by simpa [AV.ag] using h
 |.bf,y,h=>by simpa [AV.ag] using h
 |.bo,y,h=>by simpa [AV.ag] using h
 |.bp,y,h=>by simpa [AV.ag] using h
 |.mp r_,y,h=>by simpa [AV.ag] using h
 |.fn f a b,y,h=>by
  simp only[AV.ag]at h ⊢
  split at h
  ·rename_i x z hx hz
   obtain rfl:=oi h
   simp only[qV G a x hx,qV G b z hz]
  ·cases h
 |.bd ..,y,h=>by simp[AV.ag]at h
 |.ptr ..,y,h=>by simp[AV.ag]at h
 |.aR ..,y,h=>by simp[AV.ag]at h
 |.aq ..,y,h=>by simpa [AV.ag] using h
 |.dead,y,h=>by simp[AV.ag]at h
theorem qV (G:AA):∀ (l ys:List AV),AV.az (fun _ _=>none) l=some ys->AV.az G l=some ys
 |[],ys,h=>by simpa [AV.az] using h
 |x::l,ys,h=>by
  simp only[AV.az]at h
  split at h
  ·rename_i a b ha hb
   obtain rfl:=oi h
   simp only[AV.az,zN G x a ha,qV G l b hb]
  ·cases h
end
mutual
theorem zO:∀ (x y:AV),x.ag (fun _ _=>none)=some y->x.refs=[]
 |.loc l k e i n g,y,h=>by simp[AV.ag]at h
 |.nil,y,h=>rfl
 |.bA t v,y,h=>by
  simp only[AV.ag,mS]at h
  obtain⟨a,h1,h2⟩:=h
  simp only[AV.refs];exact zO v a h1
 |.agg cs,y,h=>by
  simp only[AV.ag,mS]at h
  obtain⟨a,h1,h2⟩:=h
  simp only[AV.refs];exact qW cs a h1
 |.ak vs,y,h=>by
  simp only[AV.ag,mS]at h
  obtain⟨a,h1,h2⟩:=h
  simp only[AV.refs];exact qW vs a h1
 |.bool b,y,h=>rfl
 |.int k n,y,h=>rfl
 |.str s,y,h=>rfl
 |.sl e es,y,h=>rfl
 |.bf,y,h=>rfl
 |.bo,y,h=>rfl
 |.bp,y,h=>rfl
 |.mp r_,y,h=>rfl
 |.fn f a b,y,h=>by
  simp only[AV.ag]at h
  split at h
  ·rename_i x z hx hz
   simp only[AV.refs,qW a x hx,qW b z hz,List.append_nil]
  ·cases h
 |.bd ..,y,h=>rfl
 |.ptr ..,y,h=>rfl
 |.aR ..,y,h=>rfl
 |.aq ..,y,h=>rfl
 |.dead,y,h=>rfl
theorem qW:∀ (l ys:List AV),AV.az (fun _ _=>none) l=some ys->AV.aD l=[]
 |[],ys,h=>rfl
 |x::l,ys,h=>by
  simp only[AV.az]at h
  split at h
  ·rename_i a b ha hb
   simp only[AV.aD,zO x a ha,qW l b hb,List.append_nil]
  ·cases h
end
theorem wi (fm:FM) (w:World):gF fm w (behind ts H [])=fm:=by
 funext b o
 unfold gF
 rw[if_neg]
 rintro⟨l,k,b,h,_⟩
 cases h
theorem HR.oX (h:HR N0 W0 fm ts H w) {cs ys:List AV}{vs:List Value} (hv:Am fm ts cs vs) (e:AV.az (fun _ _=>none) cs=some ys):Am fm [] ys vs:=by
 have:=h.az [] hv (qV H.get cs ys e) (by rw[qW cs ys e];simp)
 rwa [wi]at this
theorem BR.eG {N0:Nat}{g:Nat}{c:Option (Nat×Nat)}{et esz:Nat}{es:List (List AV)} (h:BR fm ts w N0 (some (.arr g c)) (.arr et esz es)):
  es.length=g/\(c=none->es=[])/\∀ b cap,c=some (b,cap)->Cr fm w et esz es b cap/\N0<=b:=by
 generalize gL:(some (TB.arr g c))=tt at h
 generalize w9:Ap.arr et esz es=bb at h
 cases h with
 |box=>cases gL
 |nil mE aC=>
  simp only[oE,TB.arr.injEq]at gL
  obtain⟨rfl,rfl⟩:=gL
  simp only[Ap.arr.injEq]at w9
  obtain⟨rfl,rfl,rfl⟩:=w9
  exact⟨rfl,fun _=>rfl,fun b cap h=>by cases h⟩
 |arr mE aC es' c' agH hN hA=>
  simp only[oE,TB.arr.injEq]at gL
  obtain⟨rfl,rfl⟩:=gL
  simp only[Ap.arr.injEq]at w9
  obtain⟨rfl,rfl,rfl⟩:=w9
  refine⟨rfl,⟨(by intro h;cases h),?_⟩⟩
  intro b cap h
  simp only[oE,Prod.mk.injEq]at h
  obtain⟨rfl,rfl⟩:=h
  exact⟨hA,hN⟩
theorem HR.elems (h:HR N0 W0 fm ts H w) {x:AV}{v:Value}{sz:Nat}{es:List (List AV)} (hv:VR fm ts x v) (e:fR H.get sz x=some es):
  ∃ a cp us,v=.slice a es.length cp/\cr es sz/\Am fm [] es.flatten us/\(∀ x∈es.flatten,x.flat=true)/\∀ j u,us[j]?=some u->∃ ad,a=some ad/\w.cell? (ad.add j)=some u:=by
 have fin:∀ (a:Option Addr) (cp:Nat) (u:Nat->Nat->Value),v=.slice a es.length cp->cr es sz->
   (∀ i c o x,es[i]?=some c->c[o]?=some x->∃ ad,a=some ad/\w.cell? (ad.add (i*sz+o))=some (u i o)/\x.flat=true/\VR fm [] x (u i o))->
   ∃ a cp us,v=.slice a es.length cp/\cr es sz/\Am fm [] es.flatten us/\(∀ x∈es.flatten,x.flat=true)/\∀ j u,us[j]?=some u->∃ ad,a=some ad/\w.cell? (ad.add j)=some u:=by
  intro a cp u hv ho hc
  have hlen:=ij sz es ho
  have jw:∀ j x,es.flatten[j]?=some x->∃ c,es[j / sz]?=some c/\c[j % sz]?=some x/\j / sz*sz+j % sz=j:=by
   intro j x hx
   rw[flat_get sz es ho,Option.bind_eq_some_iff]at hx
   obtain⟨c,h1,h2⟩:=hx
   exact⟨c,h1,h2,by rw[Nat.mul_comm];exact Nat.div_add_mod j sz⟩
  refine⟨a,cp,(List.range (es.length*sz)).map fun j=>u (j / sz) (j % sz),hv,ho,⟨by simp[hlen],?_⟩,?_,?_⟩
  ·intro j x v hx hv
   have hj:j<es.length*sz:=by rw[<-hlen];exact(gS.1 hx).1
   simp only[Bz,List.getElem?_range hj,AQ,oE]at hv
   subst hv
   obtain⟨c,h1,h2,_⟩:=jw j x hx
   obtain⟨_,_,_,_,h3⟩:=hc _ _ _ _ h1 h2
   exact h3
  ·intro x hx
   obtain⟨j,hj⟩:=Bl.1 hx
   obtain⟨c,h1,h2,_⟩:=jw j x hj
   obtain⟨_,_,_,h3,_⟩:=hc _ _ _ _ h1 h2
   exact h3
  ·intro j v hv
   have hj:j<es.length*sz:=by have:=(gS.1 hv).1;simpa using this
   simp only[Bz,List.getElem?_range hj,AQ,oE]at hv
   subst hv
   have ab:j<es.flatten.length:=by omega
   obtain⟨c,h1,h2,h4⟩:=jw j _ (gG ab)
   obtain⟨ad,h5,h6,_,_⟩:=hc _ _ _ _ h1 h2
   rw[h4]at h6
   exact⟨ad,h5,h6⟩
 unfold fR at e
 split at e
 ·obtain rfl:=oi e
  cases hv
  exact fin none 0 (fun _ _=>undef) rfl (by intro c hc;cases hc) (by intro i c o x hi;simp at hi)
 ·rename_i esz sO
  split at e
  ·rename_i he
   subst he
   obtain rfl:=oi e
   cases hv with
   |cm _ a cap=>exact fin a cap (fun _ _=>undef) rfl (by intro c hc;cases hc) (by intro i c o x hi;simp at hi)
   |sl _ cb off _ cap u cD h1 h2 h3 h4=>
    refine fin (some ⟨cb,off,none⟩) cap u rfl h1 ?_
    intro i c o x a b
    refine⟨_,rfl,?_,h3 i c o x a b,h4 i c o x a b⟩
    rw[Addr.add_lit]
    exact h.bL _ _ _ (h2 i c o x a b)
  ·cases e
 ·rename_i l k esz i n g
  split at e
  ·rename_i et aC sO hg
   split at e
   ·rename_i hh
    obtain⟨rfl,rfl,iu,bl⟩:=hh
    obtain rfl:=oi e
    have hb:=h.aj l k _ hg
    cases hv with
    |bW _ _ _ _ _ _ a cp ht=>rw[ht]at hb;cases hb
    |bX _ _ _ _ _ _ a cp m' c ht ab=>
     rw[ht]at hb
     have:=hb.eG.1
     omega
    |bI _ _ _ a0 ht=>
     rw[ht]at hb
     have:=hb.eG.2.1 rfl
     subst this
     exact fin a0 0 (fun _ _=>undef) (by simp) (by intro c hc;simp at hc) (by intro i c o x hi;simp at hi)
    |loc _ _ _ _ _ _ c cap cp a ht hn bh hc ha=>
      rw[ht]at hb
      obtain⟨hA,hN⟩:=hb.eG.2.2 c cap rfl
      obtain⟨cells,c1,c2,c3,c4,c5,c6,c7⟩:=hA
      have dz:∀ j,((sO.drop i).take n)[j]?=if j<n then sO[i+j]? else none:=by
       intro j;rw[Bx];split
       ·rw[BN]
       ·rfl
      have hl:((sO.drop i).take n).length=n:=by simp;omega
      refine fin (some a) cp (fun j o=>(cells[(i+j)*aC+o]?).getD default) (by rw[hl]) (fun d hd=>c5 d (BX (BQ hd))) ?_
      intro j cc o x hj hx
      rw[dz]at hj
      split at hj
      ·rename_i hjn
       have bV:cc.length=aC:=c5 cc (Ba hj)
       have ho:o<aC:=by rw[<-bV];exact(gS.1 hx).1
       have hi:i+j<sO.length:=(gS.1 hj).1
       have ab:(i+j)*aC+o<cells.size:=by
        rw[c2]
        have:(i+j+1)*aC<=cap*aC:=Bp _ (by omega)
        rw[Nat.add_mul,Nat.one_mul]at this;omega
       have hv:=Bg ab
       have:=c7 (i+j) cc o x _ hj hx hv
       refine⟨a,rfl,?_,?_⟩
       ·rw[ha (.inl (by omega)),Addr.add_lit]
        simp only[World.cell?,c1,hv]
        have e2:i*aC+(j*aC+o)=(i+j)*aC+o:=by rw[Nat.add_mul];omega
        rw[e2,hv];simp
       ·rw[hv];exact this
      ·cases hj
   ·cases e
  ·cases e
 ·rename_i l k esz o n
  split at e
  ·rename_i cs hg
   split at e
   ·rename_i hh
    obtain⟨rfl,rfl,rfl,hle⟩:=hh
    simp only[mS]at e
    obtain⟨ys,hy,rfl⟩:=e
    have hb:=h.aj 0 k _ hg
    cases hv with
    |bd _ _ _ _ _ c cp a ht hn ha=>
     rw[ht]at hb
     cases hb with
     |box _ _ hN hB=>
      obtain⟨cells,et,c1,c2,c3⟩:=hB
      have gy:=jk _ _ _ hy
      have mY:ys.length=n:=by rw[gy.1];simp;omega
      have hVR:Am fm ts ((cs.drop o).take n) ((List.range n).map fun j=>(cells[o+j]?).getD default):=by
       refine⟨by simp;omega,?_⟩
       intro j x v hx hv
       rw[Bx]at hx
       split at hx
       ·rename_i hj
        rw[BN]at hx
        simp only[Bz,List.getElem?_range hj,AQ,oE]at hv
        subst hv
        have ab:o+j<cells.size:=by omega
        rw[Bg ab]
        exact(c3 (o+j) x _ hx (Bg ab)).2
       ·cases hx
      have ahV:=h.oX hVR hy
      refine fin (some a) cp (fun i _=>(cells[o+i]?).getD default) (by simp[mY]) (by intro d hd;obtain⟨y,_,rfl⟩:=List.mem_map.1 hd;rfl) ?_
      intro i cc o' x hi hx
      simp only[Bz,mS]at hi
      obtain⟨y,hyi,rfl⟩:=hi
      have bl:i<n:=by rw[<-mY];exact(gS.1 hyi).1
      cases o' with
      |succ o'=>simp at hx
      |zero=>
       simp only[BG,oE]at hx
       subst hx
       have ab:o+i<cells.size:=by omega
       have hv:=Bg ab
       refine⟨a,rfl,?_,?_,?_⟩
       ·rw[ha (by omega),Addr.add_lit]
        simp only[World.cell?,c1,Nat.mul_one,Nat.add_zero,hv]
        simp
       ·obtain⟨z,hz,kT⟩:=(show ∃ z,cs[o+i]?=some z/\z.ag (fun _ _=>none)=some y from by
         have pC:i<((cs.drop o).take n).length:=by simp;omega
         obtain⟨y',gM,hf⟩:=gy.2 i _ (gG pC)
         rw[hyi]at gM;obtain rfl:=oi gM
         refine⟨_,?_,hf⟩
         have:=gG pC
         rw[Bx,if_pos bl,BN]at this
         exact this)
        rw[wk kT]
        exact(c3 _ _ _ hz hv).1
       ·exact ahV.2 i y _ hyi (by simp only[Bz,List.getElem?_range bl,AQ])
   ·cases e
  ·cases e
 ·cases e
end
section
variable {P:Program}{T:Aw}{N0:Nat}{W0:World}{fm:FM}{ts:List Ah}{H:Heap}{w:World}{t:TypeId}{ti:TI}
theorem afV {op:UnOp}{x y:AV}{v:Value} (hv:VR fm ts x v) (e:vH op x=some y):
  ∃ u,(Op.unary op v).run P w=.ok u w/\VR fm ts y u:=by
 unfold vH at e
 split at e
 ·cases hv
  obtain rfl:=oi e
  exact⟨_,by simp[unary_neg,Op.intArith],.int _ _⟩
 ·cases hv
  obtain rfl:=oi e
  exact⟨_,by simp[unary_not],.bool _⟩
 ·cases e
theorem ajX {x:AV}{v:Value}{n:Nat} (hv:VR fm ts x v) (e:yj x=some n):∃ a c,v=.slice a n c:=by
 unfold yj at e
 split at e<;>first|(obtain rfl:=oi e)|(cases e)
 ·cases hv;exact⟨_,_,rfl⟩
 ·cases hv<;>exact⟨_,_,rfl⟩
 ·cases hv<;>exact⟨_,_,rfl⟩
 ·cases hv;exact⟨_,_,rfl⟩
theorem afI (hT:AG P T) (ht:T t=some ti) {x y:AV}{v:Value}{l:List TypeId}{ty:TypeId} (hv:VR fm ts x v) (e:vF ti x=some y):
  ∃ u,(Builtin.len_ (t::l).toArray ty #[v]).run P w=.ok u w/\VR fm ts y u:=by
 unfold vF at e
 split at e
 ·rename_i hd
  have hu:=hT.str ht hd
  split at e
  ·cases hv
   obtain rfl:=oi e
   exact⟨_,by simp[Builtin.len_,run_underlying hu,goInt],.int _ _⟩
  ·cases e
 ·rename_i n el hd
  obtain⟨hu,_⟩:=hT.array ht hd
  obtain rfl:=oi e
  exact⟨_,by simp[Builtin.len_,run_underlying hu,goInt],.int _ _⟩
 ·rename_i el hd
  obtain⟨hu,_⟩:=hT.slice ht hd
  simp only[mS]at e
  obtain⟨n,hn,rfl⟩:=e
  obtain⟨a,c,rfl⟩:=ajX hv hn
  exact⟨_,by simp[Builtin.len_,run_underlying hu,goInt],.int _ _⟩
 ·cases e
theorem aiM (k:IntKind) (x y:Int):(if y > x then y else x)=max x y:=by
 rw[Int.max_def];split<;>split<;>omega
theorem aiN (k:IntKind) (x y:Int):(if y<x then y else x)=min x y:=by
 rw[Int.min_def];split<;>split<;>omega
theorem abr (mx:Bool):∀ (n:Nat) (xs:List AV) (x y:AV) (v:Value) (vs:List Value),xs.length=n->VR fm ts x v->Am fm ts xs vs->kG mx (x::xs)=some y->
  ∃ u,(vs.foldlM (if mx then Builtin.max2 else Builtin.min2) v).run P w=.ok u w/\VR fm ts y u
 |0,[],x,y,v,vs,_,hv,aM,e=>by
  have:vs=[]:=by have:=aM.1;cases vs with|nil=>rfl|cons=>simp at this
  subst this
  cases x<;>simp[kG]at e
  subst e
  exact⟨v,by simp,hv⟩
 |n+1,x2::xs,x,y,v,vs,hn,hv,aM,e=>by
  cases vs with
  |nil=>have:=aM.1;simp at this
  |cons v2 vs=>
   have h2:VR fm ts x2 v2:=aM.2 0 _ _ rfl rfl
   have hr:Am fm ts xs vs:=⟨by simpa using aM.1,fun i x v a b=>aM.2 (i+1) x v (by simpa using a) (by simpa using b)⟩
   cases x<;>try (simp[kG]at e;done)
   cases x2<;>try (simp[kG]at e;done)
   rename_i k a k' b
   rw[kG]at e
   split at e
   ·rename_i hk
    subst hk
    cases hv;cases h2
    obtain⟨u,h1,h2⟩:=abr mx n xs _ y (.int k (if mx then max a b else min a b)) vs (by simpa using hn) (.int _ _) hr e
    refine⟨u,?_,h2⟩
    cases mx with
    |true=>
     simp only[if_true]at h1 ⊢
     simp only[List.foldlM_cons,Sem.run_bind,Builtin.max2,Sem.run_pure,Result.andThen_ok,aiM k,h1]
    |false=>
     simp only[B7,if_false]at h1 ⊢
     simp only[List.foldlM_cons,Sem.run_bind,Builtin.min2,Sem.run_pure,Result.andThen_ok,aiN k,h1]
   ·cases e
theorem abt {mx:Bool}{xs:List AV}{y:AV}{vs:List Value}{l:Array TypeId}{ty:TypeId} (hv:Am fm ts xs vs) (e:kG mx xs=some y):
  ∃ u,((if mx then Builtin.max_ else Builtin.min_) l ty vs.toArray).run P w=.ok u w/\VR fm ts y u:=by
 cases xs with
 |nil=>simp[kG]at e
 |cons x xs=>
  cases vs with
  |nil=>have:=hv.1;simp at this
  |cons v vs=>
   have h2:VR fm ts x v:=hv.2 0 _ _ rfl rfl
   have hr:Am fm ts xs vs:=⟨by simpa using hv.1,fun i x v a b=>hv.2 (i+1) x v (by simpa using a) (by simpa using b)⟩
   obtain⟨u,h3,h4⟩:=abr (P:=P) (w:=w) mx xs.length xs x y v vs rfl h2 hr e
   refine⟨u,?_,h4⟩
   cases mx with
   |true=>simpa [Builtin.max_] using h3
   |false=>simpa [Builtin.min_] using h3
theorem VR.parts {x:AV}{v:Value}{vc:List AV} (hv:VR fm ts x v) (e:x.cells=some vc):Am fm ts vc v.cells.toList/\∀ y∈vc,y.flat=true:=by
 have one:∀ (x:AV) (v:Value),VR fm ts x v->x.flat=true->v.cells=#[v]->Am fm ts [x] v.cells.toList/\∀ y∈[x],y.flat=true:=by
  intro x v h hf hc
  rw[hc]
  refine⟨⟨rfl,?_⟩,by simpa using hf⟩
  intro i y u hy hu
  cases i with
  |zero=>simp at hy hu;subst hy hu;exact h
  |succ i=>simp at hy
 cases x with
 |agg cs=>
  simp only[AV.cells,oE]at e;subst e
  obtain⟨vs,rfl,h1,h2⟩:=hv.jS
  exact⟨h1,h2⟩
 |ak=>simp[AV.cells]at e
 |dead=>simp[AV.cells]at e
 |_=>
  simp only[AV.cells,oE]at e;subst e
  refine one _ _ hv rfl ?_
  cases hv<;>rfl
theorem na {cs new:List AV}{vs nv:List Value}{o:Nat} (h:Am fm ts cs vs) (hn:Am fm ts new nv) (hle:o+new.length<=cs.length):
  Am fm ts (overwrite cs o new) (vs.take o++(nv++vs.drop (o+nv.length))):=by
 have hl:=h.1
 have tI:=hn.1
 refine⟨by simp[overwrite];omega,?_⟩
 intro i x v hx hv
 unfold overwrite at hx
 by_cases h1:i<o
 ·rw[B5 (by simp;omega),Bx,if_pos h1]at hx hv
  exact h.2 i x v hx hv
 ·rw[Ch (by simp;omega),A6,Nat.min_eq_left (by omega)]at hx hv
  by_cases h2:i - o<new.length
  ·rw[B5 (by omega)]at hx hv
   exact hn.2 _ x v hx hv
  ·rw[Ch (by omega),BN]at hx hv
   rw[tI]at hx
   exact h.2 _ x v hx hv
theorem nb {cs new:List AV}{o:Nat} (h:∀ x∈cs,x.flat=true) (hn:∀ x∈new,x.flat=true):∀ x∈overwrite cs o new,x.flat=true:=by
 intro x hx
 unfold overwrite at hx
 simp only[AZ]at hx
 rcases hx with hx|hx|hx
 ·exact h x (BQ hx)
 ·exact hn x hx
 ·exact h x (BX hx)
theorem ajk {cs new:List AV}{o:Nat} (hle:o+new.length<=cs.length):(overwrite cs o new).length=cs.length:=by
 simp[overwrite];omega
theorem acQ (cells new:Array Value) (off:Nat) (hle:off+new.size<=cells.size):
  (new.zipIdx.foldl (fun cs (c,j)=>cs.setIfInBounds (off+j) c) cells).toList=cells.toList.take off++(new.toList++cells.toList.drop (off+new.toList.length)):=by
 have h:=Go.Great.foldl_set off new.toList 0 cells
 have e:new.zipIdx.foldl (fun cs (c,j)=>cs.setIfInBounds (off+j) c) cells=(new.toList.zipIdx 0).foldl (fun cs (x:Value×Nat)=>cs.setIfInBounds (off+x.2) x.1) cells:=by
  rw[<-Array.foldl_toList];simp
 rw[e]
 apply List.ext_getElem?
 intro k
 rw[Array.getElem?_toList,h.2 k]
 simp only[Nat.add_zero]
 have tI:new.toList.length=new.size:=by simp
 by_cases h1:k<off
 ·rw[if_neg (by omega),B5 (by simp;omega),Bx,if_pos h1,Array.getElem?_toList]
 ·rw[Ch (by simp;omega),A6,Nat.min_eq_left (by simp;omega)]
  by_cases h2:k - off<new.toList.length
  ·rw[if_pos (by omega),B5 h2]
  ·rw[if_neg (by omega),Ch (by omega),BN,Array.getElem?_toList]
   congr 1;omega
def CY (fm:FM) (ts:List Ah):List (Nat×AV)->List (Nat×Value)->Prop
 |[],[]=>True
 |(i,x)::l,(j,v)::m=>i=j/\VR fm ts x v/\CY fm ts l m
 |_,_=>False
theorem zE {fl place:Nat->Option (Nat×Nat)} (hp:∀ i x,fl i=some x->place i=some x):∀ (parts:List (Nat×AV)) (ps:List (Nat×Value)) (cs cs':List AV) (cells:Array Value),
  CY fm ts parts ps->Am fm ts cs cells.toList->(∀ x∈cs,x.flat=true)->ph fl cs parts=some cs'->
  ∃ r,Instr.fill place cells ps=some r/\Am fm ts cs' r.toList/\∀ x∈cs',x.flat=true
 |[],[],cs,cs',cells,_,hv,hf,e=>by
  simp only[ph,oE]at e;subst e
  exact⟨cells,rfl,hv,hf⟩
 |[],_::_,_,_,_,h,_,_,_=>h.elim
 |(_,_)::_,[],_,_,_,h,_,_,_=>h.elim
 |(i,x)::l,(j,v)::m,cs,cs',cells,h,hv,hf,e=>by
  obtain⟨rfl,hx,hr⟩:=h
  simp only[ph]at e
  split at e
  ·cases e
  ·rename_i off size cM
   split at e
   ·rename_i vc lT
    split at e
    ·rename_i hle
     obtain⟨hl,hle⟩:=hle
     obtain⟨h1,h2⟩:=hx.parts lT
     have hs:v.cells.size=size:=by have:=h1.1;simp at this;omega
     have bV:cells.size=cs.length:=by have:=hv.1;simp at this;omega
     have ih:=zE hp l m (overwrite cs off vc) cs' (v.cells.zipIdx.foldl (fun cs (c,j)=>cs.setIfInBounds (off+j) c) cells) hr
      (by rw[acQ _ _ _ (by omega)];exact na hv h1 (by omega)) (nb hf h2) e
     obtain⟨r,h3,h4⟩:=ih
     refine⟨r,?_,h4⟩
     simp only[Instr.fill,hp _ _ cM]
     rw[if_neg (by simp[hs];omega)]
     exact h3
    ·cases e
   ·cases e
theorem acM:∀ (fs:List Field) (l:List (Nat×Nat×Bool)),lz P fs l=true->
  fs.mapM (fun f=>(P.info? f.type).map fun i=>(f.offset,i.size))=some (l.map fun x=>(x.1,x.2.1))
 |[],[],_=>rfl
 |[],_::_,h=>by simp[lz]at h
 |_::_,[],h=>by simp[lz]at h
 |f::fs,(o,s,a)::l,h=>by
  simp only[lz,AP,beq_iff_eq]at h
  obtain⟨⟨⟨⟨h1,h0⟩,h2⟩,h3⟩,h4⟩:=h
  have ih:=acM fs l h4
  split at h2
  ·rename_i inf aL
   have hs:inf.size=s:=by simpa using h2
   simp[List.mapM_cons,aL,ih,h1,hs]
  ·cases h2
theorem afw (hT:AG P T) (ht:T t=some ti) {parts:List (Nat×AV)}{ps:Array (Nat×Value)}{y:AV} (hp:CY fm ts parts ps.toList) (e:vA ti parts=some y):
  ∃ u,(Instr.build t ps).run P w=.ok u w/\VR fm ts y u:=by
 obtain⟨i,hi,ao,_,z,hz,fD⟩:=(hT.ok ht).info
 have xI:=(hT.ok ht).afk
 unfold vA at e
 split at e
 ·rename_i hd
  obtain⟨fs,hu,cM⟩:=hT.struct ht hd
  simp only[mS]at e
  obtain⟨cs,ek,rfl⟩:=e
  obtain⟨r,h1,h2,h3⟩:=zE (place:=((ti.fl.map fun x=>(x.1,x.2.1)).toArray[·]?)) (by
   intro i x h;simpa using h) parts ps.toList _ _ _ hp (fD fm ts) xI ek
  refine⟨.agg r,run_build w t ps r ?_,.agg _ _ (by simpa using h2.1) h3 (fun i x v a b=>h2.2 i x v a (by simpa using b))⟩
  simp only[Program.built,hi,hu,hz,acM _ _ cM]
  exact h1
 ·rename_i n el hd
  obtain⟨hu,⟨ie,hie,aif,_⟩,_⟩:=hT.array ht hd
  simp only[mS]at e
  obtain⟨cs,ek,rfl⟩:=e
  obtain⟨r,h1,h2,h3⟩:=zE (place:=fun i=>some (i*ie.size,ie.size)) (by
   intro i x h;rw[aif];exact h) parts ps.toList _ _ _ hp (fD fm ts) xI ek
  refine⟨.agg r,run_build w t ps r ?_,.agg _ _ (by simpa using h2.1) h3 (fun i x v a b=>h2.2 i x v a (by simpa using b))⟩
  simp only[Program.built,hi,hu,hz,hie]
  exact h1
 ·cases e
theorem abZ:∀ (es:List (List AV)) (l:List UInt8) (us:List Value),bytesOf es=some l->Am fm ts es.flatten us->
  ∃ ns:List Int,us=ns.map (Value.int .u8)/\l=ns.map fun n=>UInt8.ofNat n.toNat
 |[],l,us,h,hv=>by
  simp only[bytesOf,oE]at h;subst h
  have:us=[]:=by have:=hv.1;cases us with|nil=>rfl|cons=>simp at this
  subst this
  exact⟨[],rfl,rfl⟩
 |c::es,l,us,h,hv=>by
  simp only[bytesOf]at h
  split at h
  ·rename_i b l' hb hl
   obtain rfl:=oi h
   unfold byteOf at hb
   split at hb
   ·rename_i n
    obtain rfl:=oi hb
    cases us with
    |nil=>have:=hv.1;simp at this
    |cons u us=>
     have h1:VR fm ts (.int .u8 n) u:=hv.2 0 _ _ rfl rfl
     cases h1
     obtain⟨ns,h2,h3⟩:=abZ es l' us hl ⟨by simpa using hv.1,fun i x v a b=>hv.2 (i+1) x v (by simpa using a) (by simpa using b)⟩
     exact⟨n::ns,by simp[h2],by simp[h3]⟩
   ·cases hb
  ·cases h
theorem acP:∀ (ns:List Int) (s:ByteArray),ns.foldl (fun r n=>r.push (UInt8.ofNat n.toNat)) s=⟨s.data++(ns.map fun n=>UInt8.ofNat n.toNat).toArray⟩
 |[],s=>by simp
 |n::ns,s=>by
  rw[List.foldl_cons,acP ns]
  simp[ByteArray.push]
theorem afC (hT:AG P T) {src dst:TypeId}{si di:TI} (hs:T src=some si) (hd:T dst=some di) (h:HR N0 W0 fm ts H w) {x y:AV}{v:Value} (hv:VR fm ts x v) (e:iM T H.get si di x=some y):
  ∃ u,(convert src dst v).run P w=.ok u w/\VR fm ts y u:=by
 unfold iM at e
 split at e
 ·rename_i k hk
  have hu:=hT.int hd hk
  split at e
  ·rename_i k' k'' n dH
   have n8:=hT.int hs dH
   cases hv
   obtain rfl:=oi e
   exact⟨_,by simp[convert,run_underlying hu,run_underlying n8,Conv.intToInt],.int _ _⟩
  ·cases e
 ·rename_i hk
  have hu:=hT.str hd hk
  split at e
  ·rename_i dH
   have n8:=hT.str hs dH
   split at e
   ·cases hv
    obtain rfl:=oi e
    exact⟨_,by simp[convert,run_underlying hu,run_underlying n8],.str _⟩
   ·cases e
  ·rename_i el dH
   obtain⟨n8,en⟩:=hT.slice hs dH
   split at e
   ·rename_i ti hti
    split at e
    ·rename_i hb
     have hue:=hT.int hti hb
     split at e
     ·rename_i h1
      simp only[Option.bind_eq_some_iff,mS]at e
      obtain⟨es,lK,l,hl,rfl⟩:=e
      obtain⟨a,cp,us,rfl,ho,aM,_,aV⟩:=h.elems hv lK
      obtain⟨ns,rfl,rfl⟩:=abZ _ _ _ hl aM
      have hlen:es.length=ns.length:=by
       have h1:=ij 1 es ho
       have h2:=aM.1
       simp at h2 h1;omega
      have hr:∀ a cp,(∀ j u,(ns.map (Value.int .u8))[j]?=some u->∃ ad,a=some ad/\w.cell? (ad.add j)=some u)->(Conv.bytesToString (.slice a es.length cp)).run P w=.ok (.string ⟨(ns.map fun n=>UInt8.ofNat n.toNat).toArray⟩) w:=by
       intro a cp aV
       cases a with
       |none=>
        cases ns with
        |nil=>simp[Conv.bytesToString];rfl
        |cons n ns=>obtain⟨_,h,_⟩:=aV 0 _ rfl;cases h
       |some ad=>
        have hc:∀ j u,(ns.map (Value.int .u8))[j]?=some u->w.cell? (ad.add j)=some u:=by
         intro j u hu;obtain⟨_,h,h2⟩:=aV j u hu;cases h;exact h2
        have:=run_loadCells_list (P:=P) w ad _ hc
        rw[run_bytesToString w ad es.length cp ns (by rw[hlen];simpa using this),acP]
        simp
      exact⟨_,by rw[run_convert_bytes_string w src dst el _ _ _ n8 hue hu];exact hr _ _ aV,.str _⟩
     ·cases e
    ·cases e
   ·cases e
  ·cases e
 ·cases e
end
theorem sa {ts:List Ah}:∀ {l k:Nat}{x:TB},tb ts l k=some x->ca ts l k x=ts:=by
 induction ts with
 |nil=>intro l k x h;rfl
 |cons t ts ih=>
  intro l k x h
  cases l with
  |zero=>
   simp only[ca,List.cons.injEq,and_true]
   funext j
   split
   ·rename_i e;subst e;exact h.symm
   ·rfl
  |succ l=>simp only[ca];rw[ih h]
theorem ahp {sz:Nat}{es:List (List AV)} (ho:cr es sz) {i o:Nat}{c:List AV}{x:AV} (h1:es[i]?=some c) (h2:c[o]?=some x):es.flatten[i*sz+o]?=some x:=by
 have hc:c.length=sz:=ho c (Ba h1)
 have ab:o<sz:=by rw[<-hc];exact(gS.1 h2).1
 have hp:0<sz:=by omega
 rw[flat_get sz es ho,Nat.mul_comm,Nat.mul_add_div hp,Nat.div_eq_of_lt ab,Nat.mul_add_mod,Nat.mod_eq_of_lt ab]
 simp[h1,h2]
section
variable {P:Program}{T:Aw}{N0:Nat}{W0:World}{fm:FM}{ts:List Ah}{H:Heap}{w:World}{t:TypeId}{ti:TI}
theorem Cr.flat {et esz:Nat}{es:List (List AV)}{c cap:Nat} (h:Cr fm w et esz es c cap):
  ∃ cells,w.heap[c]?=some (.cells cells et (0,0))/\cells.size=cap*esz/\es.length<=cap/\cap<=maxLen/\cr es esz/\0<esz/\
   Am fm [] es.flatten (cells.toList.take (es.length*esz))/\∀ x∈es.flatten,x.flat=true:=by
 obtain⟨cells,c1,c2,c3,c4,c5,c6,c7⟩:=h
 have hlen:=ij esz es c5
 have hle:es.length*esz<=cells.size:=by rw[c2];exact Bp _ c3
 have jw:∀ (j:Nat) (x:AV),es.flatten[j]?=some x->∃ v,cells[j]?=some v/\x.flat=true/\VR fm [] x v:=by
  intro j x hx
  have hj:j<cells.size:=by have:=(gS.1 hx).1;omega
  have eO:=hx
  rw[flat_get esz es c5,Option.bind_eq_some_iff]at eO
  obtain⟨cc,h1,h2⟩:=eO
  have e:j / esz*esz+j % esz=j:=by rw[Nat.mul_comm];exact Nat.div_add_mod j esz
  have hv:=Bg hj
  exact⟨_,hv,c7 _ cc _ x _ h1 h2 (by rw[e];exact hv)⟩
 refine⟨cells,c1,c2,c3,c4,c5,c6,⟨by simp[hlen];omega,?_⟩,?_⟩
 ·intro j x v hx hv
  obtain⟨u,h1,_,h2⟩:=jw j x hx
  rw[Bx]at hv
  split at hv
  ·rw[Array.getElem?_toList,h1]at hv;obtain rfl:=oi hv;exact h2
  ·cases hv
 ·intro x hx
  obtain⟨j,hj⟩:=Bl.1 hx
  obtain⟨_,_,h1,_⟩:=jw j x hj
  exact h1
theorem Cr.of {et esz:Nat}{es:List (List AV)}{c cap:Nat}{cells:Array Value}{us rest:List Value} (c1:w.heap[c]?=some (.cells cells et (0,0))) (c2:cells.size=cap*esz) (c3:es.length<=cap) (c4:cap<=maxLen)
  (c5:cr es esz) (c6:0<esz) (hv:Am fm [] es.flatten us) (hf:∀ x∈es.flatten,x.flat=true) (hc:cells.toList=us++rest):Cr fm w et esz es c cap:=by
 refine⟨cells,c1,c2,c3,c4,c5,c6,?_⟩
 intro i cc o x v h1 h2 h3
 have hx:=ahp c5 h1 h2
 refine⟨hf x (Ba hx),hv.2 _ x v hx ?_⟩
 have ab:i*esz+o<us.length:=by rw[<-hv.1];exact(gS.1 hx).1
 rw[<-Array.getElem?_toList,hc,B5 ab]at h3
 exact h3
theorem abG {B:Nat} (w:World) (g:Nat) (cs:Array Value) (h:B<=g):Below B w (w.setRow g cs):=
 ⟨rfl,rfl,rfl,by simp,fun k hk=>setRow_other w g k cs (by omega)⟩
theorem HR.adP (h:HR N0 W0 fm ts H w) {c:Nat} (hc:w.heap.size<=c) (o:Nat):fm c o=none:=by
 cases hf:fm c o with
 |none=>rfl
 |some v=>have:=World.block_lt_of_cell? w _ (h.bL _ _ _ hf);simp at this;omega
theorem HR.yg (h:HR N0 W0 fm ts H w) {l k c:Nat}{cs cs':List AV}{vs':List Value} (hg:H.get l k=some (.box cs)) (ht:tb ts l k=some (.box c))
  (hv:Am fm (ts.drop l) cs' vs') (hf:∀ x∈cs',x.flat=true):HR N0 W0 fm ts (H.put l k (some (.box cs'))) (w.setRow c vs'.toArray):=by
 have hb:=h.aj l k _ hg
 rw[ht]at hb
 cases hb with
 |box _ _ hN hB=>
  obtain⟨cells,et,c1,c2,c3⟩:=hB
  have:=h.yw (w':=w.setRow c vs'.toArray) (l:=l) (k:=k) (c:=c) (x:=.box c) (b:=.box cs') (Heap.nM H _ _ _ hg) rfl (fun i hi _=>setRow_other w c i _ hi) (abG w c _ hN) (fun o ho=>by rw[c1]at ho;cases ho;rfl) (by rw[ht];exact AX.refl _)
   (fun l' k' b' g' t'=>by
    have:=h.inj l' k' l k b' _ c g' hg t' (by rw[ht];rfl)
    exact this) (fun o=>h.dx l k _ c o hg (by rw[ht];rfl)) (by
    rw[sa ht]
    refine .box c cs' hN ⟨_,et,setRow_heap w c cells _ et _ c1,by simp[hv.1],?_⟩
    intro o x v a b
    exact⟨hf x (Ba a),hv.2 o x v a (by simpa using b)⟩)
  rwa [sa ht]at this
theorem HR.rR (h:HR N0 W0 fm ts H w) {l k g c cap et esz:Nat}{es es':List (List AV)}{vs' us rest:List Value} (hg:H.get l k=some (.arr et esz es)) (ht:tb ts l k=some (.arr g (some (c,cap))))
  (hgl:es.length<=es'.length) (cD:es'.length<=cap) (ho:cr es' esz) (ao:vs'.length=cap*esz)
  (hv:Am fm [] es'.flatten us) (hf:∀ x∈es'.flatten,x.flat=true) (hc:vs'=us++rest):
  HR N0 W0 fm (ca ts l k (.arr es'.length (some (c,cap)))) (H.put l k (some (.arr et esz es'))) (w.setRow c vs'.toArray):=by
 have hb:=h.aj l k _ hg
 rw[ht]at hb
 obtain⟨iu,_,hA⟩:=hb.eG
 obtain⟨hA,hN⟩:=hA c cap rfl
 obtain⟨cells,c1,c2,c3,c4,c5,c6,_⟩:=hA
 refine h.yw (w':=w.setRow c vs'.toArray) (c:=c) (Heap.nM H _ _ _ hg) rfl (fun i hi _=>setRow_other w c i _ hi) (abG w c _ hN) (fun o ho=>by rw[c1]at ho;cases ho;rfl) ?_
   (fun l' k' b' g' t'=>h.inj l' k' l k b' _ c g' hg t' (by rw[ht];rfl)) (fun o=>h.dx l k _ c o hg (by rw[ht];rfl)) ?_
 ·rw[ht]
  by_cases he:g=es'.length
  ·subst he;exact AX.refl _
  ·exact .inr (.inr ⟨_,_,rfl,by omega⟩)
 ·exact .arr et esz es' c cap hN (.of (setRow_heap w c cells _ et _ c1) (by simpa using ao) cD c4 ho c6 hv hf (by simpa using hc))
theorem HR.rE (h:HR N0 W0 fm ts H w) {l k cap et esz:Nat}{es:List (List AV)}{cells:Array Value}{us rest:List Value} (hl:l<H.length)
  (hle:AX (tb ts l k) (some (.arr es.length (some (w.heap.size,cap))))) (c2:cells.size=cap*esz) (c3:es.length<=cap) (c4:cap<=maxLen) (c5:cr es esz) (c6:0<esz)
  (hv:Am fm [] es.flatten us) (hf:∀ x∈es.flatten,x.flat=true) (hc:cells.toList=us++rest):
  HR N0 W0 fm (ca ts l k (.arr es.length (some (w.heap.size,cap)))) (H.put l k (some (.arr et esz es))) (w.alloc (.cells cells et)):=
 h.yw (c:=w.heap.size) hl rfl (fun i _ hi=>heap_alloc_old w _ i hi) ((Below.refl N0 w).alloc h.size _) (fun o ho=>by simp at ho) hle
  (fun l' k' b' g' t'=>by have:=((h.aj l' k' b' g').lt t').1;omega) (h.adP (A7 _))
  (.arr et esz es w.heap.size cap h.size (.of (heap_alloc_new w _) c2 c3 c4 c5 c6 hv hf hc))
theorem yB:∀ (sc:List (Nat×TypeId×Nat)) (cs:List AV) (vs:List Value) (kb:Nat) (ts:List Ah) (H:Heap),HR N0 W0 fm ts H w->0<H.length->(∀ k,kb<=k->k<kb+sc.length->tb ts 0 k=none)->
  Am fm ts cs vs->(∀ x∈cs,x.flat=true)->
  ∃ ts',HR N0 W0 fm ts' (H.bk (jc cs kb sc).2) w/\Am fm ts' (jc cs kb sc).1 vs/\(∀ x∈(jc cs kb sc).1,x.flat=true)/\Ak ts ts'/\
   (∀ l k,(l≠0\/k<kb\/kb+sc.length<=k)->tb ts' l k=tb ts l k)/\(∀ l k,(l≠0\/k<kb\/kb+sc.length<=k)->(H.bk (jc cs kb sc).2).get l k=H.get l k)
 |[],cs,vs,kb,ts,H,h,_,_,hv,hf=>⟨ts,h,hv,hf,Ak.refl _,fun _ _ _=>rfl,fun _ _ _=>rfl⟩
 |(o,e,s)::r,cs,vs,kb,ts,H,h,hH,hk,hv,hf=>by
  unfold jc
  split
  ·rename_i ho
   have fC:tb ts 0 kb=none:=hk kb (A7 _) (by simp)
   have h1:=h.empty e s fC hH
   have ab:0<ts.length:=by rw[h.len];exact hH
   have xC:Ak ts (ca ts 0 kb (.arr 0 none)):=Ak.set (by rw[fC];trivial)
   have n9:Am fm (ca ts 0 kb (.arr 0 none)) (cs.set o (.loc 0 kb s 0 0 0)) vs:=by
    refine⟨by simp[hv.1],?_⟩
    intro i x v hx hvv
    rw[List.getElem?_set]at hx
    split at hx
    ·rename_i he
     subst he
     split at hx
     ·obtain rfl:=oi hx
      have:=hv.2 o _ v ho hvv
      cases this
      exact .bI 0 kb s _ (by rw[cY,if_pos ⟨rfl,rfl,ab⟩])
     ·cases hx
    ·exact(hv.2 i x v hx hvv).mono (AM.refl _) xC
   have hf1:∀ x∈cs.set o (.loc 0 kb s 0 0 0),x.flat=true:=by
    intro x hx
    rcases List.mem_or_eq_of_mem_set hx with hx|rfl
    ·exact hf x hx
    ·rfl
   obtain⟨ts',a1,a2,a3,a4,a5,a6⟩:=yB r _ vs (kb+1) _ _ h1 (by simpa using hH) (by
    intro k h1 h2
    rw[cY,if_neg (by omega)]
    exact hk k (by omega) (by simp;omega)) n9 hf1
   refine⟨ts',a1,a2,a3,xC.trans a4,?_,?_⟩
   ·intro l k kU
    simp only[Ay]at kU
    rw[a5 l k (by omega),cY,if_neg (by simp only[Ay]at *;omega)]
   ·intro l k kU
    simp only[Ay]at kU
    simp only[Heap.bk]
    rw[a6 l k (by omega),Heap.mH,if_neg (by omega)]
  ·obtain⟨ts',a1,a2,a3,a4,a5,a6⟩:=yB r cs vs kb ts H h hH (fun k h1 h2=>hk k h1 (by simp;omega)) hv hf
   refine⟨ts',a1,a2,a3,a4,?_,?_⟩
   ·intro l k kU
    simp only[Ay]at kU
    exact a5 l k (by omega)
   ·intro l k kU
    simp only[Ay]at kU
    exact a6 l k (by omega)
theorem adM (hT:AG P T) (ht:T t=some ti) (h:HR N0 W0 fm ts H w) (hH:0<H.length) {kb:Nat} (hk:∀ k,kb<=k->k<kb+16->tb ts 0 k=none) {cs:List AV}{v:Value}{d:De} (et:TypeId)
  (hv:Am fm ts cs v.cells.toList) (hf:∀ x∈cs,x.flat=true) (e:uw kb ti cs=some d) {r:Result Next} (hr:r=.ok (.value (.pointer (some ⟨w.heap.size,0,none⟩))) (w.alloc (.cells v.cells et))):
  Bj N0 W0 fm ts H w kb r d:=by
 unfold uw at e
 split at e
 ·obtain rfl:=oi e
  have hsc:=(hT.ok ht).sc
  obtain⟨ts',a1,a2,a3,a4,a5,a6⟩:=yB ti.sc cs _ (kb+1) ts H h hH (fun k h1 h2=>hk k (by omega) (by omega)) hv hf
  have dH:tb ts' 0 kb=none:=by rw[a5 0 kb (by omega)];exact hk kb (A7 _) (by omega)
  have ab:0<ts'.length:=by rw[a1.len];simpa using hH
  have hle:Ak ts' (ca ts' 0 kb (.box w.heap.size)):=Ak.set (by rw[dH];trivial)
  have h2:=a1.fresh (cells:=v.cells) (et:=et) (k:=kb) (x:=.box w.heap.size) (b:=.box (jc cs (kb+1) ti.sc).1) (by simpa using hH) dH rfl (by
   refine .box _ _ h.size ⟨_,et,heap_alloc_new w _,by have:=a2.1;simp at this;omega,?_⟩
   intro o x u hx hu
   exact⟨a3 x (Ba hx),(a2.2 o x u hx (by simpa using hu)).mono (AM.refl _) hle⟩)
  refine⟨fm,_,_,_,.inl hr,?_,?_,Ax.refl _ _,a4.trans hle,?_⟩
  ·simp only[Heap.mb,Heap.bk]
   exact h2
  ·exact .ptr 0 kb 0 _ (by rw[cY,if_pos ⟨rfl,rfl,ab⟩])
  ·intro l k cQ ax
   rw[cY,if_neg (by omega),a5 l k (by omega)]
   exact ax
 ·cases e
theorem abz (h:HR N0 W0 fm ts H w) (hH:0<H.length) {kb:Nat} (hk:∀ k,kb<=k->k<kb+16->tb ts 0 k=none) (e s:Nat) {r:Result Next} (hr:r=.ok (.value (.slice none 0 0)) w):
  Bj N0 W0 fm ts H w kb r ⟨.loc 0 kb s 0 0 0,[(0,kb,some (.arr e s []))]⟩:=by
 have fC:=hk kb (A7 _) (by omega)
 have ab:0<ts.length:=by rw[h.len];exact hH
 refine⟨fm,_,w,_,.inl hr,h.empty e s fC hH,.bI 0 kb s _ (by rw[cY,if_pos ⟨rfl,rfl,ab⟩]),Ax.refl _ _,Ak.set (by rw[fC];trivial),?_⟩
 intro l k cQ ax
 rw[cY,if_neg (by omega)]
 exact ax
theorem zB (h:HR N0 W0 fm ts H w) (hH:0<H.length) {kb:Nat} (hk:∀ k,kb<=k->k<kb+16->tb ts 0 k=none) (e s:Nat) {a:Option Addr}{r:Result Next} (hr:r=.ok (.value (.slice a 0 0)) w):
  Bj N0 W0 fm ts H w kb r ⟨.loc 0 kb s 0 0 0,[(0,kb,some (.arr e s []))]⟩:=by
 have fC:=hk kb (A7 _) (by omega)
 have ab:0<ts.length:=by rw[h.len];exact hH
 refine⟨fm,_,w,_,.inl hr,h.empty e s fC hH,.bI 0 kb s _ (by rw[cY,if_pos ⟨rfl,rfl,ab⟩]),Ax.refl _ _,Ak.set (by rw[fC];trivial),?_⟩
 intro l k cQ ax
 rw[cY,if_neg (by omega)]
 exact ax
theorem ag8 (hT:AG P T) (ht:T t=some ti) (h:HR N0 W0 fm ts H w) (hH:0<H.length) {kb:Nat} (hk:∀ k,kb<=k->k<kb+16->tb ts 0 k=none) {x:AV}{v v0 v1 v2:Value}{k1 k2:IntKind}{d:De}
  (hv:VR fm ts x v) (n9:VR fm ts (.int k1 0) v1) (hv2:VR fm ts (.int k2 0) v2) (e:wa kb ti x=some d) {r:Result Next} (hr:∀ v w',(Instr.sliceAt t v0 none (some v1) (some v2)).run P w=.ok v w'->r=.ok (.value v) w') (h0:v0=v):Bj N0 W0 fm ts H w kb r d:=by
 subst h0
 unfold wa at e
 split at e
 ·rename_i el hd
  obtain⟨bm,⟨inf,aL,ao,_,_⟩,_⟩:=hT.slice ht hd
  cases n9
  cases hv2
  have run:∀ (p:Option Addr) (n cp:Nat),(Instr.sliceAt t (.slice p n cp) none (some (.int k1 0)) (some (.int k2 0))).run P w=.ok (.slice p 0 0) w:=by
   intro p n cp
   simp[Instr.sliceAt,run_underlying bm,Instr.slice,Instr.sliceBounds,Instr.sliceBound,asIntOf,sizeOf,typeInfo,aL,ao]
  split at e
  ·cases hv
   obtain rfl:=oi e
   exact zB h hH hk _ _ (hr _ _ (run _ _ _))
  ·obtain rfl:=oi e
   cases hv<;>exact zB h hH hk _ _ (hr _ _ (run _ _ _))
  ·obtain rfl:=oi e
   cases hv<;>exact zB h hH hk _ _ (hr _ _ (run _ _ _))
  ·cases e
 ·cases e
theorem Am.replicate {z:List AV}{zv:List Value} (h:Am fm ts z zv):∀ n,Am fm ts (List.replicate n z).flatten (List.replicate n zv).flatten
 |0=>⟨rfl,fun i x v h=>by simp at h⟩
 |n+1=>by simp only[List.replicate_succ,BZ];exact h.append (Am.replicate h n)
theorem uv (z:Array Value) (m:Nat) (hz:0<z.size):(madeCells z (m*z.size)).toList=(List.replicate m z.toList).flatten:=by
 apply List.ext_getElem?
 intro j
 have ho:∀ c∈List.replicate m z.toList,c.length=z.size:=by intro c hc;rw[List.eq_of_mem_replicate hc];simp
 have key:∀ (m j:Nat),((List.replicate m z.toList).flatten)[j]?=if j<m*z.size then z.toList[j % z.size]? else none:=by
  intro m
  induction m with
  |zero=>intro j;simp
  |succ m ih=>
   intro j
   simp only[List.replicate_succ,BZ]
   by_cases hj:j<z.size
   ·rw[B5 (by simpa using hj),Nat.mod_eq_of_lt hj,if_pos (by rw[Nat.add_mul];omega)]
   ·rw[Ch (by simp;omega),ih,Array.length_toList]
    have h2:j % z.size=(j - z.size) % z.size:=by rw[Nat.mod_eq_sub_mod (Nat.le_of_not_lt hj)]
    rw[h2]
    by_cases h3:j - z.size<m*z.size
    ·rw[if_pos h3,if_pos (by rw[Nat.add_mul];omega)]
    ·rw[if_neg h3,if_neg (by rw[Nat.add_mul];omega)]
 rw[key]
 unfold madeCells
 rw[Array.toList_map,Bz,Array.toList_range]
 by_cases hj:j<m*z.size
 ·have hm:j % z.size<z.size:=Nat.mod_lt _ hz
  rw[List.getElem?_range hj,if_pos hj,Array.getElem?_toList]
  simp[Array.getElem!_eq_getD,hm]
 ·rw[if_neg hj,CE (by simp;omega)];rfl
theorem rF {z:List AV}{s:Nat} (h:z.length=s) (n:Nat):cr (List.replicate n z) s:=by
 intro c hc;rw[List.eq_of_mem_replicate hc];exact h
theorem sR {z:List AV} (h:∀ x∈z,x.flat=true) (n:Nat):∀ x∈(List.replicate n z).flatten,x.flat=true:=by
 intro x hx
 obtain⟨c,h1,h2⟩:=List.mem_flatten.1 hx
 rw[List.eq_of_mem_replicate h1]at h2
 exact h x h2
theorem ajL {α:Type} (z:List α) (l c:Nat) (h:l<=c):(List.replicate c z).flatten=(List.replicate l z).flatten++(List.replicate (c - l) z).flatten:=by
 rw[<-List.flatten_append,List.replicate_append_replicate];congr 2;omega
theorem ag7 (hT:AG P T) (ht:T t=some ti) (h:HR N0 W0 fm ts H w) (hH:0<H.length) {kb:Nat} (hk:∀ k,kb<=k->k<kb+16->tb ts 0 k=none) {x y:AV}{v u:Value}{d:De}
  (hv:VR fm ts x v) (hu:VR fm ts y u) (e:v7 kb ti x y=some d) {r:Result Next} (hr:∀ a w',(Instr.makeSlice t v u).run P w=.ok a w'->r=.ok (.value a) w'):Bj N0 W0 fm ts H w kb r d:=by
 unfold v7 at e
 split at e
 ·rename_i el l c hd
  cases hv;cases hu
  split at e
  ·rename_i hc
   obtain⟨h0,hlc,xc,en,pE⟩:=hc
   obtain rfl:=oi e
   obtain⟨bm,⟨inf,aL,ao,hb,z,hz,fD⟩,_⟩:=hT.slice ht hd
   have mN:=(hT.ok ht).dW
   have jE:z.cells.size=ti.el:=by have:=(fD fm []).1;simp at this;omega
   have aK:=run_make (P:=P) w t el inf z bm aL hz .i64 .i64 l c h0 hlc (by rw[hb,Int.mul_comm];omega) (by omega)
   have fC:=hk kb (A7 _) (by omega)
   have ab:0<ts.length:=by rw[h.len];exact hH
   rw[ao]at aK
   have mT:=uv z.cells c.toNat (by omega)
   rw[jE]at mT
   have hn:=h.rE (l:=0) (k:=kb) (cap:=c.toNat) (et:=el) (esz:=ti.el) (es:=List.replicate l.toNat ti.dW) (cells:=madeCells z.cells (c.toNat*ti.el)) hH (by rw[fC];trivial) (size_madeCells _ _)
    (by simp;omega) (by simp[maxLen];omega) (rF mN _) en (Am.replicate (fD fm []) _) (sR (hT.ok ht).wc _) (by rw[mT,ajL _ l.toNat c.toNat (by omega)])
   simp only[CF]at hn
   refine⟨fm,_,_,_,.inl (hr _ _ aK),hn,?_,Ax.refl _ _,Ak.set (by rw[fC];trivial),?_⟩
   ·exact .loc 0 kb ti.el 0 l.toNat l.toNat w.heap.size c.toNat c.toNat _ (by rw[cY,if_pos ⟨rfl,rfl,ab⟩]) (by omega) (by omega) (by omega) (fun _=>by simp)
   ·intro l k cQ ax
    rw[cY,if_neg (by omega)]
    exact ax
  ·cases e
 ·cases e
end
mutual
theorem zP (G:AA):∀ (x y:AV),x.ag G=some y->∀ p∈x.refs,∃ et esz es,G p.1 p.2=some (.arr et esz es)
 |.loc l k e i n g,y,h=>by
  intro p hp
  simp only[AV.refs,Cw]at hp
  subst hp
  simp only[AV.ag]at h
  split at h
  ·rename_i et esz es hg;exact⟨et,esz,es,hg⟩
  ·cases h
 |.bA t v,y,h=>by
  simp only[AV.ag,mS]at h
  obtain⟨a,h1,h2⟩:=h
  simp only[AV.refs];exact zP G v a h1
 |.agg cs,y,h=>by
  simp only[AV.ag,mS]at h
  obtain⟨a,h1,h2⟩:=h
  simp only[AV.refs];exact qU G cs a h1
 |.ak vs,y,h=>by
  simp only[AV.ag,mS]at h
  obtain⟨a,h1,h2⟩:=h
  simp only[AV.refs];exact qU G vs a h1
 |.nil,y,h=>by simp[AV.refs]
 |.bool b,y,h=>by simp[AV.refs]
 |.int k n,y,h=>by simp[AV.refs]
 |.str s,y,h=>by simp[AV.refs]
 |.sl e es,y,h=>by simp[AV.refs]
 |.bf,y,h=>by simp[AV.refs]
 |.bo,y,h=>by simp[AV.refs]
 |.bp,y,h=>by simp[AV.refs]
 |.mp r_,y,h=>by simp[AV.refs]
 |.fn f a b,y,h=>by
  simp only[AV.ag]at h
  split at h
  ·rename_i x z hx hz
   intro p hp
   simp only[AV.refs,AZ]at hp
   rcases hp with hp|hp
   ·exact qU G a x hx p hp
   ·exact qU G b z hz p hp
  ·cases h
 |.bd ..,y,h=>by simp[AV.refs]
 |.ptr ..,y,h=>by simp[AV.refs]
 |.aR ..,y,h=>by simp[AV.refs]
 |.aq ..,y,h=>by simp[AV.refs]
 |.dead,y,h=>by simp[AV.refs]
theorem qU (G:AA):∀ (l ys:List AV),AV.az G l=some ys->∀ p∈AV.aD l,∃ et esz es,G p.1 p.2=some (.arr et esz es)
 |[],ys,h=>by simp[AV.aD]
 |x::l,ys,h=>by
  simp only[AV.az]at h
  split at h
  ·rename_i a b ha hb
   intro p hp
   simp only[AV.aD,AZ]at hp
   rcases hp with hp|hp
   ·exact zP G x a ha p hp
   ·exact qU G l b hb p hp
  ·cases h
end
theorem zL {G:AA}{cs ys:List AV} (h:AV.az G cs=some ys) (hf:∀ x∈cs,x.flat=true):∀ x∈ys,x.flat=true:=by
 intro y hy
 have g:=jk G _ _ h
 obtain⟨i,hi⟩:=Bl.1 hy
 have ab:i<cs.length:=by rw[<-g.1];exact(gS.1 hi).1
 obtain⟨y',h1,h2⟩:=g.2 i _ (gG ab)
 rw[hi]at h1;obtain rfl:=oi h1
 rw[wk h2]
 exact hf _ (List.getElem_mem ab)
theorem akt {d:Nat}{cs ys:List AV} (h:AV.eD d cs=some ys) (hf:∀ x∈cs,x.flat=true):∀ x∈ys,x.flat=true:=by
 intro y hy
 have g:=oI d _ _ h
 obtain⟨i,hi⟩:=Bl.1 hy
 have ab:i<cs.length:=by rw[<-g.1];exact(gS.1 hi).1
 obtain⟨y',h1,h2⟩:=g.2 i _ (gG ab)
 rw[hi]at h1;obtain rfl:=oi h1
 rw[aeJ h2]
 exact hf _ (List.getElem_mem ab)
theorem aeH {fm:FM}{ts:List Ah}{d:Nat}{cs ys:List AV}{vs:List Value} (h:AV.eD d cs=some ys) (hv:Am fm ts cs vs):Am fm (ts.drop d) ys vs:=by
 have g:=oI d _ _ h
 refine⟨g.1.trans hv.1,?_⟩
 intro i x v hx pK
 have ab:i<cs.length:=by rw[<-g.1];exact(gS.1 hx).1
 obtain⟨y',h1,h2⟩:=g.2 i _ (gG ab)
 rw[hx]at h1;obtain rfl:=oi h1
 exact(hv.2 i _ v (gG ab) pK).un d h2
theorem Am.mono {fm fm':FM}{ts ts':List Ah}{cs:List AV}{vs:List Value} (h:Am fm ts cs vs) (hf:AM fm fm') (ht:Ak ts ts'):Am fm' ts' cs vs:=
 ⟨h.1,fun i x v a b=>(h.2 i x v a b).mono hf ht⟩
theorem Am.m6 {fm:FM}{ts:List Ah}{cs:List AV}{vs:List Value} (h:Am fm ts cs vs) (hf:∀ x∈cs,x.flat=true):∀ v∈vs,v.oneCell'=true:=by
 intro v hv
 obtain⟨i,hi⟩:=Bl.1 hv
 have ab:i<cs.length:=by rw[h.1];exact(gS.1 hi).1
 exact(h.2 i _ v (gG ab) hi).ai6 (hf _ (List.getElem_mem ab))
theorem zI {sz:Nat}:∀ (es:List (List AV)) (i o:Nat) (c new:List AV),cr es sz->es[i]?=some c->o+new.length<=c.length->
  (es.set i (overwrite c o new)).flatten=overwrite es.flatten (i*sz+o) new
 |[],i,o,c,new,_,h,_=>by simp at h
 |d::es,0,o,c,new,ho,h,hle=>by
  simp only[BG,oE]at h;subst h
  simp only[List.set_cons_zero,BZ,overwrite,Nat.zero_mul,B6,Cd]
  rw[List.take_append_of_le_length (by omega),List.drop_append_of_le_length (by omega)]
 |d::es,i+1,o,c,new,ho,h,hle=>by
  have hd:d.length=sz:=ho d List.mem_cons_self
  simp only[BE]at h
  have ih:=zI es i o c new (fun x hx=>ho x (List.mem_cons_of_mem _ hx)) h hle
  simp only[List.set_cons_succ,BZ,ih]
  simp only[overwrite]
  have e1:(i+1)*sz+o=d.length+(i*sz+o):=by rw[Nat.add_mul,Nat.one_mul,hd];omega
  have e2:d.length+(i*sz+o)+new.length=d.length+(i*sz+o+new.length):=by omega
  rw[e1,List.take_length_add_append,e2,List.drop_length_add_append]
  simp
theorem yd {α:Type} (L us:List α) (off n:Nat) (h:off+us.length<=n) (hn:n<=L.length):
  L.take off++us++L.drop (off+us.length)=((L.take n).take off++(us++(L.take n).drop (off+us.length)))++L.drop n:=by
 have e1:(L.take n).take off=L.take off:=by rw[List.take_take,Nat.min_eq_left (by omega)]
 have e2:L.drop (off+us.length)=(L.take n).drop (off+us.length)++L.drop n:=by
  conv=>lhs;rw[<-C0 n L]
  rw[List.drop_append_of_le_length (by simp;omega)]
 rw[e1,e2]
 simp
theorem aer {sz:Nat}{es:List (List AV)} (ho:cr es sz) (i:Nat) {c:List AV} (hc:c.length=sz):cr (es.set i c) sz:=by
 intro d hd
 rcases List.mem_or_eq_of_mem_set hd with h|rfl
 ·exact ho d h
 ·exact hc
section
variable {P:Program}{T:Aw}{N0:Nat}{W0:World}{fm:FM}{ts:List Ah}{H:Heap}{w:World}{t:TypeId}{ti:TI}
theorem HR.y7 (h:HR N0 W0 fm ts H w) {l k c:Nat}{cs:List AV} (hg:H.get l k=some (.box cs)) (ht:tb ts l k=some (.box c)):
  ∃ cells et,w.heap[c]?=some (.cells cells et (0,0))/\cells.size=cs.length/\Am fm (ts.drop l) cs cells.toList/\∀ x∈cs,x.flat=true:=by
 have hb:=h.aj l k _ hg
 rw[ht]at hb
 cases hb with
 |box _ _ hN hB=>
  obtain⟨cells,et,c1,c2,c3⟩:=hB
  refine⟨cells,et,c1,c2,⟨by simp[c2],fun i x v a b=>(c3 i x v a (by simpa using b)).2⟩,?_⟩
  intro x hx
  obtain⟨i,hi⟩:=Bl.1 hx
  have ab:i<cells.size:=by rw[c2];exact(gS.1 hi).1
  exact(c3 i x _ hi (Bg ab)).1
theorem aeg {cells:Array Value}{et:TypeId}{c o:Nat}{v:Value}{inf:TypeInfo} (hi:P.info? t=some inf) (ao:v.cells.size=inf.size) (hc:w.heap[c]?=some (.cells cells et (0,0))) (hle:o+v.cells.size<=cells.size)
  (h1:∀ u∈v.cells.toList,u.oneCell'=true):
  (Instr.storeAt t (.pointer (some ⟨c,o,none⟩)) v).run P w=.ok () (w.setRow c (cells.toList.take o++(v.cells.toList++cells.toList.drop (o+v.cells.toList.length))).toArray):=by
 have:=run_storeCells_at P c o et v.cells.toList 0 cells w hc (by simpa using hle) h1
 simp only[Nat.add_zero]at this
 simp only[Instr.storeAt,Instr.sureAddr,storeVar,Sem.run_bind,Sem.run_pure,Result.andThen_ok,sizeOf,typeInfo,run_program,hi,ao,ne_eq,not_true_eq_false,if_false]
 rw[this,Cd]
theorem aha (hT:AG P T) (ht:T t=some ti) (h:HR N0 W0 fm ts H w) (hH:0<H.length) {kb:Nat} (hk:∀ k,kb<=k->k<kb+16->tb ts 0 k=none) {x:AV}{vc:List AV}{v u:Value}{d:De}
  (hv:VR fm ts x v) (hu:Am fm ts vc u.cells.toList) (hf:∀ x∈vc,x.flat=true) (e:nI H.get kb ti x vc=some d) {r:Result Next} (hr:∀ w',(Instr.storeAt t v u).run P w=.ok () w'->r=.ok .skip w'):
  Bj N0 W0 fm ts H w kb r d:=by
 obtain⟨inf,aL,ao,_,_⟩:=(hT.ok ht).info
 have hsc:=(hT.ok ht).sc
 unfold nI at e
 split at e
 ·rename_i lU
  have lS:u.cells.size=inf.size:=by have:=hu.1;simp at this;omega
  have hvu:vc.length=u.cells.toList.length:=hu.1
  have yx:∀ fm ts,VR fm ts (.ak []) undef:=fun fm ts=>.ak [] #[] rfl (fun i x v h=>by simp at h)
  split at e
  ·rename_i l k o
   split at e
   ·rename_i cs hg
    cases hv with
    |ptr _ _ _ c ax=>
     split at e
     ·rename_i hle
      obtain⟨cells,et,c1,c2,c3,c4⟩:=h.y7 hg ax
      have aK:=aeg (P:=P) (w:=w) (t:=t) (o:=o) aL lS c1 (by rw[lS,ao,c2];exact hle) (hu.m6 hf)
      split at e
      ·rename_i hl
       subst hl
       obtain rfl:=oi e
       have cQ:k<kb\/kb+16<=k:=by
        by_cases cQ:k<kb\/kb+16<=k
        ·exact cQ
        ·rw[hk k (by omega) (by omega)]at ax;cases ax
       obtain⟨ts',a1,a2,a3,a4,a5,a6⟩:=yB ti.sc vc _ kb ts H h hH (fun k h1 h2=>hk k h1 (by omega)) hu hf
       have bS:(H.bk (jc vc kb ti.sc).2).get 0 k=some (.box cs):=by rw[a6 0 k (by omega)];exact hg
       have eZ:tb ts' 0 k=some (.box c):=by rw[a5 0 k (by omega)];exact ax
       obtain⟨agI,mE,c1',c2',c3',c4'⟩:=a1.y7 bS eZ
       rw[c1]at c1'
       obtain⟨rfl,rfl⟩:cells=agI/\et=mE:=by
        have:=oi c1'
        injection this with h1 h2
        exact⟨h1,h2⟩
       have hwl:(jc vc kb ti.sc).1.length=vc.length:=by rw[a2.1,hvu]
       have:=a1.yg bS eZ (cs':=overwrite cs o (jc vc kb ti.sc).1) (na c3' a2 (by omega)) (nb c4' a3)
       refine⟨fm,ts',_,undef,.inr ⟨hr _ aK,rfl⟩,?_,yx _ _,Ax.refl _ _,a4,?_⟩
       ·simp only[Heap.mb,Heap.bk]
        exact this
       ·intro l' k' dH ud
        rw[a5 l' k' (by omega)];exact ud
      ·split at e
       ·rename_i new dA
        obtain rfl:=oi e
        have tI:new.length=vc.length:=(oI _ _ _ dA).1
        have:=h.yg hg ax (cs':=overwrite cs o new) (na c3 (aeH dA hu) (by omega)) (nb c4 (akt dA hf))
        exact⟨fm,ts,_,undef,.inr ⟨hr _ aK,rfl⟩,this,yx _ _,Ax.refl _ _,Ak.refl _,fun _ _ _ h=>h⟩
       ·split at e
        ·rename_i new dA
         obtain rfl:=oi e
         have tI:new.length=vc.length:=(jk _ _ _ dA).1
         have h1:=h.oj (AV.aD vc)
         have bg:(l,k)∉AV.aD vc:=by
          intro hm
          obtain⟨et,esz,es,h2⟩:=qU _ _ _ dA _ hm
          simp only at h2
          rw[hg]at h2;cases h2
         have bS:(H.bk (fq (AV.aD vc))).get l k=some (.box cs):=by rw[qY,if_neg bg];exact hg
         have eZ:tb (fL ts (AV.aD vc)) l k=some (.box c):=by rw[jO,if_neg (fun hh=>bg hh.1)];exact ax
         have iw:=(h.az (AV.aD vc) hu dA (fun _ h=>h))
         have hF:=h.qR (AV.aD vc)
         have:=h1.yg bS eZ (cs':=overwrite cs o new) (na (c3.mono hF ((Ak.gone ts _).drop l)) (iw.mono (AM.refl _) (Ak.nil _)) (by omega)) (nb c4 (zL dA hf))
         refine⟨_,_,_,undef,.inr ⟨hr _ aK,rfl⟩,?_,yx _ _,h.qS (AV.aD vc),Ak.gone _ (AV.aD vc),?_⟩
         ·simp only[Heap.mb,Heap.bk]
          exact this
         ·intro l' k' _ ud
          rw[jO,ud];simp[kg]
        ·cases e
     ·cases e
   ·cases e
  ·rename_i l k esz i o g
   split at e
   ·rename_i et aC es hg
    split at e
    ·rename_i hh
     obtain⟨rfl,iu⟩:=hh
     split at e
     ·rename_i c0 new hc0 dA
      split at e
      ·rename_i hle
       obtain⟨hle,ju⟩:=hle
       obtain rfl:=oi e
       have hb:=h.aj l k _ hg
       cases hv with
       |dF _ _ _ _ _ _ a eZ=>rw[eZ]at hb;cases hb
       |dG _ _ _ _ _ _ a m' c eZ ab=>rw[eZ]at hb;have:=hb.eG.1;omega
       |aR _ _ _ _ _ _ c cap eZ=>
        rw[eZ]at hb
        obtain⟨hA,_⟩:=hb.eG.2.2 c cap rfl
        obtain⟨cells,c1,c2,c3,c4,c5,c6,c7,c8⟩:=hA.flat
        have tI:new.length=vc.length:=(jk _ _ _ dA).1
        have bV:c0.length=aC:=c5 c0 (Ba hc0)
        have hi:i<es.length:=(gS.1 hc0).1
        have cM:=ij aC es c5
        have hmul:(i+1)*aC<=es.length*aC:=Bp _ hi
        have pD:es.length*aC<=cells.size:=by rw[c2];exact Bp _ c3
        rw[Nat.add_mul,Nat.one_mul]at hmul
        have df:u.cells.toList.length=vc.length:=hvu.symm
        have aK:=aeg (P:=P) (w:=w) (t:=t) (o:=i*aC+o) aL lS c1 (by rw[lS,ao];omega) (hu.m6 hf)
        have h1:=h.oj (AV.aD vc)
        have bg:(l,k)∉AV.aD vc:=by
         intro hm
         have:=List.all_eq_true.1 ju _ hm
         simp at this
        have bS:(H.bk (fq (AV.aD vc))).get l k=some (.arr et aC es):=by rw[qY,if_neg bg];exact hg
        have gL:tb (fL ts (AV.aD vc)) l k=some (.arr g (some (c,cap))):=by rw[jO,if_neg (fun hh=>bg hh.1)];exact eZ
        have iw:=(h.az (AV.aD vc) hu dA (fun _ h=>h))
        have hF:=h.qR (AV.aD vc)
        have jB:=zI es i o c0 new c5 hc0 (by omega)
        have:=h1.rR bS gL (es':=es.set i (overwrite c0 o new)) (vs':=cells.toList.take (i*aC+o)++(u.cells.toList++cells.toList.drop (i*aC+o+u.cells.toList.length)))
         (us:=(cells.toList.take (es.length*aC)).take (i*aC+o)++(u.cells.toList++(cells.toList.take (es.length*aC)).drop (i*aC+o+u.cells.toList.length))) (rest:=cells.toList.drop (es.length*aC))
         (by simp) (by simpa using c3) (aer c5 i (by rw[ajk (by omega)];exact bV)) (by simp;simp at df;omega)
         (by rw[jB];exact na (c7.mono hF (Ak.refl _)) iw (by omega))
         (by rw[jB];exact nb c8 (zL dA hf))
         (by rw[<-Cd];exact yd _ _ _ _ (by omega) (by simpa using pD))
        have e8:ca (fL ts (AV.aD vc)) l k (.arr (es.set i (overwrite c0 o new)).length (some (c,cap)))=fL ts (AV.aD vc):=by
         apply sa;rw[gL];simp[iu]
        rw[e8]at this
        refine⟨_,_,_,undef,.inr ⟨hr _ aK,rfl⟩,?_,yx _ _,h.qS (AV.aD vc),Ak.gone _ (AV.aD vc),?_⟩
        ·simp only[Heap.mb,Heap.bk]
         exact this
        ·intro l' k' _ ud
         rw[jO,ud];simp[kg]
      ·cases e
     ·cases e
    ·cases e
   ·cases e
  ·cases e
 ·cases e
end
end Go.Abs
namespace Go.Abs
open Go Go.RowKit
section
variable {P:Program}{T:Aw}{N0:Nat}{W0:World}{fm:FM}{ts:List Ah}{H:Heap}{w:World}{t:TypeId}{ti:TI}
def Ef (fm:FM):List (Nat×List AV)->List (Nat×Value)->Prop
 |[],[]=>True
 |(i,x)::l,(j,v)::m=>i=j/\Am fm [] x v.cells.toList/\(∀ y∈x,y.flat=true)/\Ef fm l m
 |_,_=>False
theorem ajl (c new:List AV) (h:new.length=c.length):overwrite c 0 new=new:=by
 simp[overwrite,h]
theorem acF {sz:Nat}:∀ (parts:List (Nat×List AV)) (ps:List (Nat×Value)) (es es':List (List AV)) (cells:Array Value),
  Ef fm parts ps->cr es sz->Am fm [] es.flatten cells.toList->(∀ x∈es.flatten,x.flat=true)->qO es sz parts=some es'->
  ∃ r,Instr.fill (fun i=>some (i*sz,sz)) cells ps=some r/\cr es' sz/\es'.length=es.length/\Am fm [] es'.flatten r.toList/\∀ x∈es'.flatten,x.flat=true
 |[],[],es,es',cells,_,ho,hv,hf,e=>by
  simp only[qO,oE]at e;subst e
  exact⟨cells,rfl,ho,rfl,hv,hf⟩
 |[],_::_,_,_,_,h,_,_,_,_=>h.elim
 |(_,_)::_,[],_,_,_,h,_,_,_,_=>h.elim
 |(i,x)::l,(j,v)::m,es,es',cells,h,ho,hv,hf,e=>by
  obtain⟨rfl,hx,hxf,hr⟩:=h
  simp only[qO]at e
  split at e
  ·rename_i hh
   obtain⟨hl,hi⟩:=hh
   have hs:v.cells.size=sz:=by have:=hx.1;simp at this;omega
   have cM:=ij sz es ho
   have bV:cells.size=es.length*sz:=by have:=hv.1;simp only[Array.length_toList]at this;omega
   have hmul:(i+1)*sz<=es.length*sz:=Bp _ hi
   rw[Nat.add_mul,Nat.one_mul]at hmul
   have j7:=gG hi
   have bR:(es[i]).length=sz:=ho _ (List.getElem_mem hi)
   have jB:=zI es i 0 _ x ho j7 (by omega)
   rw[ajl _ _ (by omega),Nat.add_zero]at jB
   obtain⟨r,h1,h2,h3,h4⟩:=acF l m (es.set i x) es' (v.cells.zipIdx.foldl (fun cs (c,j)=>cs.setIfInBounds (i*sz+j) c) cells) hr (aer ho i hl)
    (by rw[jB,acQ _ _ _ (by omega)];exact na hv hx (by omega)) (by rw[jB];exact nb hf hxf) e
   refine⟨r,?_,h2,by simpa using h3,h4⟩
   simp only[Instr.fill]
   rw[if_neg (by simp[hs];omega)]
   exact h1
  ·cases e
theorem acS (h:HR N0 W0 fm ts H w) (r:List (Nat×Nat)):∀ (parts:List (Nat×AV)) (ps:List (Nat×Value)) (cs:List (Nat×List AV)),CY fm ts parts ps->jj H.get parts=some cs->(∀ p∈gO parts,p∈r)->
  Ef (gF fm w (behind ts H r)) cs ps
 |[],[],cs,_,e,_=>by simp only[jj,oE]at e;subst e;trivial
 |[],_::_,_,h,_,_=>h.elim
 |(_,_)::_,[],_,h,_,_=>h.elim
 |(i,x)::l,(j,v)::m,cs,hp,e,hr=>by
  obtain⟨rfl,hx,hl⟩:=hp
  simp only[jj]at e
  split at e
  ·rename_i vc lT
   split at e
   ·rename_i c' l' j5 rm
    obtain rfl:=oi e
    obtain⟨h1,h2⟩:=hx.parts lT
    have kd:AV.aD vc=x.refs:=by
     cases x<;>simp only[AV.cells,oE]at lT<;>first|(subst lT;simp[AV.aD,AV.refs];done)|(cases lT)
    refine⟨rfl,h.az r h1 j5 (fun p hp=>hr p ?_),zL j5 h2,acS h r l m l' hl rm (fun p hp=>hr p ?_)⟩
    ·simp only[gO,AZ];rw[kd]at hp;exact .inl hp
    ·simp only[gO,AZ];exact .inr hp
   ·cases e
  ·cases e
theorem ag1 (hT:AG P T) (ht:T t=some ti) (h:HR N0 W0 fm ts H w) (hH:0<H.length) {kb:Nat} (hk:∀ k,kb<=k->k<kb+16->tb ts 0 k=none) {len:Nat}{parts:List (Nat×AV)}{ps:Array (Nat×Value)}{d:De}
  (hp:CY fm ts parts ps.toList) (e:nH H.get kb ti len parts=some d) {r:Result Next} (hr:∀ a w',(Instr.buildSlice t len ps).run P w=.ok a w'->r=.ok (.value a) w'):Bj N0 W0 fm ts H w kb r d:=by
 unfold nH at e
 split at e
 ·rename_i el hd
  split at e
  ·rename_i hc
   obtain⟨hsm,en⟩:=hc
   split at e
   ·rename_i cs ek
    split at e
    ·rename_i es lK
     obtain rfl:=oi e
     obtain⟨bm,⟨inf,aL,ao,hb,z,hz,fD⟩,_⟩:=hT.slice ht hd
     have mN:=(hT.ok ht).dW
     have jE:z.cells.size=ti.el:=by have:=(fD fm []).1;simp at this;omega
     have h1:=h.oj (gO parts)
     have hF:=h.qR (gO parts)
     have hpc:=acS h (gO parts) parts ps.toList cs hp ek (fun _ h=>h)
     have mT:=uv z.cells len (by omega)
     rw[jE]at mT
     obtain⟨cells,f1,f2,f3,f4,f5⟩:=acF cs ps.toList (List.replicate len ti.dW) es (madeCells z.cells (len*ti.el)) hpc (rF mN _) (by rw[mT];exact Am.replicate (fD _ []) _)
      (sR (hT.ok ht).wc _) lK
     have hlen:es.length=len:=by simpa using f3
     have ahN:cells.size=len*ti.el:=by have:=f4.1;rw[ij _ _ f2,hlen]at this;simpa using this.symm
     have aK:(Instr.buildSlice t len ps).run P w=.ok (.slice (some ⟨w.heap.size,0,none⟩) len len) (w.alloc (.cells cells el)):=by
      by_cases h0:len*inf.size=0
      ·have iS:len=0:=by
        rcases Nat.mul_eq_zero.1 h0 with h|h
        ·exact h
        ·omega
       subst iS
       have f1':Instr.fill (fun i=>some (i*inf.size,inf.size)) #[] ps.toList=some cells:=by
        rw[ao]
        have:madeCells z.cells (0*ti.el)=#[]:=by simp[madeCells,Array.range_zero']
        rw[this]at f1;exact f1
       simp[Instr.buildSlice,run_underlying bm,sizeOf,typeInfo,aL,Array.range_zero',f1',newRow]
      ·exact run_buildSlice w t el len ps cells inf z bm aL hz (by rw[ao];omega) h0 (by rw[ao];exact f1)
     have fC:tb (fL ts (gO parts)) 0 kb=none:=by rw[jO,hk kb (A7 _) (by omega)];simp[kg]
     have ab:0<(fL ts (gO parts)).length:=by rw[aaD,h.len];exact hH
     have pE:len<=maxLen:=by
      have:len*1<=len*ti.el:=Nat.mul_le_mul_left _ en
      simp[maxLen];omega
     have hn:=h1.rE (l:=0) (k:=kb) (cap:=len) (et:=el) (esz:=ti.el) (es:=es) (cells:=cells) (us:=cells.toList) (rest:=[]) (by simpa using hH) (by rw[fC];trivial) ahN
      (by omega) pE f2 en f4 f5 (by simp)
     rw[hlen]at hn
     refine⟨_,ca (fL ts (gO parts)) 0 kb (.arr len (some (w.heap.size,len))),_,_,.inl (hr _ _ aK),?_,?_,h.qS (gO parts),(Ak.gone ts _).trans (Ak.set (by rw[fC];trivial)),?_⟩
     ·simp only[Heap.mb,Heap.bk]
      exact hn
     ·exact .loc 0 kb ti.el 0 len len w.heap.size len len _ (by rw[cY,if_pos ⟨rfl,rfl,ab⟩]) (by omega) (by omega) (by omega) (fun _=>by simp)
     ·intro l k cQ ax
      rw[cY,if_neg (by omega),jO,ax];simp[kg]
    ·cases e
   ·cases e
  ·cases e
 ·cases e
theorem lA {sz:Nat}:∀ (es:List (List AV)) (i:Nat),cr es sz->(es.take i).flatten=es.flatten.take (i*sz)
 |[],i,_=>by simp
 |c::es,0,_=>by simp
 |c::es,i+1,h=>by
  have hc:c.length=sz:=h c List.mem_cons_self
  have ih:=lA es i (fun d hd=>h d (List.mem_cons_of_mem _ hd))
  have e:(i+1)*sz=c.length+i*sz:=by rw[Nat.add_mul,Nat.one_mul,hc];omega
  rw[List.take_succ_cons,BZ,BZ,ih,e,List.take_length_add_append]
theorem qP {sz:Nat}:∀ (es:List (List AV)) (i:Nat),cr es sz->(es.drop i).flatten=es.flatten.drop (i*sz)
 |[],i,_=>by simp
 |c::es,0,_=>by simp
 |c::es,i+1,h=>by
  have hc:c.length=sz:=h c List.mem_cons_self
  have ih:=qP es i (fun d hd=>h d (List.mem_cons_of_mem _ hd))
  have e:(i+1)*sz=c.length+i*sz:=by rw[Nat.add_mul,Nat.one_mul,hc];omega
  rw[List.drop_succ_cons,BZ,ih,e,List.drop_length_add_append]
theorem HR.xU (h:HR N0 W0 fm ts H w) {l k:Nat}{b:Ap} (hg:H.get l k=some b):HR N0 W0 fm ts (H.put l k (some b)) w:=by
 have e1:∀ l' k',(H.put l k (some b)).get l' k'=H.get l' k':=by
  intro l' k'
  rw[Heap.mH]
  split
  ·rename_i hh;obtain⟨rfl,rfl,_⟩:=hh;exact hg.symm
  ·rfl
 exact⟨by simpa using h.len,fun l' k' b hb=>h.aj l' k' b (by rw[<-e1];exact hb),fun l1 k1 l2 k2 b1 b2 c g1 g2=>h.inj l1 k1 l2 k2 b1 b2 c (by rw[<-e1];exact g1) (by rw[<-e1];exact g2),h.bL,
  fun l' k' b c o hb=>h.dx l' k' b c o (by rw[<-e1];exact hb),h.bJ,h.size,h.bj⟩
theorem Am.take {fm:FM}{ts:List Ah}{cs:List AV}{vs:List Value} (h:Am fm ts cs vs) (n:Nat):Am fm ts (cs.take n) (vs.take n):=by
 refine⟨by simp[h.1],fun i x v a b=>?_⟩
 rw[Bx]at a b
 split at a
 ·rename_i hi;rw[if_pos hi]at b;exact h.2 i x v a b
 ·cases a
theorem Am.drop {fm:FM}{ts:List Ah}{cs:List AV}{vs:List Value} (h:Am fm ts cs vs) (n:Nat):Am fm ts (cs.drop n) (vs.drop n):=
 ⟨by simp[h.1],fun i x v a b=>h.2 (n+i) x v (by rw[BN]at a;exact a) (by rw[BN]at b;exact b)⟩
theorem ma {sz:Nat}{a b:List (List AV)} (h:cr a sz) (k:cr b sz):cr (a++b) sz:=by
 intro c hc
 rcases AZ.1 hc with hc|hc
 ·exact h c hc
 ·exact k c hc
theorem aho {a b:List AV} (h:∀ x∈a,x.flat=true) (k:∀ x∈b,x.flat=true):∀ x∈a++b,x.flat=true:=by
 intro x hx
 rcases AZ.1 hx with hx|hx
 ·exact h x hx
 ·exact k x hx
theorem ajN {e:TypeId}{inf:TypeInfo} (bm:P.underlying t=some (.slice e)) (aL:P.info? e=some inf) (ty:TypeId) (base a:Option Addr) (n c cp:Nat) (hn:n<=c):
  (Builtin.append_ #[t,t] ty #[.slice base n c,.slice a 0 cp]).run P w=.ok (.slice base n c) w:=by
 cases base<;>cases a<;>simp[Builtin.append_,run_underlying bm,sizeOf,typeInfo,aL,Builtin.lenOf,Builtin.firstCells,hn,loadCells,loadCellsFrom,storeCells]
structure Gv (P:Program) (t tx ty e:TypeId) (inf:TypeInfo) (z u:Value) (n:Nat) (us:List Value) (w:World):Prop where
 none:n=0->∀ (base:Option Addr) (m c:Nat),m<=c->(Builtin.append_ #[t,tx] ty #[.slice base m c,u]).run P w=.ok (.slice base m c) w
 nil:us.length=n*inf.size->0<inf.size->0<n->(n:Int)<=9223372036854775807->n*inf.bytes<=281474976710656->(Builtin.append_ #[t,tx] ty #[.slice Option.none 0 0,u]).run P w =
   .ok (.slice (some ⟨w.heap.size,0,Option.none⟩) n (grownCap w n 0 e)) (w.drew.alloc (.cells (us.toArray++Builtin.zeroCells z.cells (grownCap w n 0 e - n)) e))
 grow:us.length=n*inf.size->0<inf.size->0<n->∀ (b:Addr) (cu eb:Nat) (k9:List Value),k9.length=cu*inf.size->(∀ j v,k9[j]?=some v->w.cell? (b.add j)=some v)->eb<cu+n->((cu+n:Nat):Int)<=9223372036854775807->
  Builtin.nextslicecap (cu+n) eb*inf.bytes<=281474976710656->(Builtin.append_ #[t,tx] ty #[.slice (some b) cu eb,u]).run P w =
   .ok (.slice (some ⟨w.heap.size,0,Option.none⟩) (cu+n) (grownCap w (cu+n) eb e))
    (w.drew.alloc (.cells (k9.toArray++us.toArray++Builtin.zeroCells z.cells (grownCap w (cu+n) eb e - (cu+n))) e))
 room:us.length=n*inf.size->0<inf.size->0<n->∀ (g cu eb:Nat) (cur:Array Value),w.heap[g]?=some (.cells cur e (0,0))->(∀ u∈us,u.oneCell'=true)->cu+n<=eb->cu*inf.size+us.length<=cur.size->
  (Builtin.append_ #[t,tx] ty #[.slice (some ⟨g,0,Option.none⟩) cu eb,u]).run P w =
   .ok (.slice (some ⟨g,0,Option.none⟩) (cu+n) eb) (w.setRow g (cur.toList.take (cu*inf.size)++us++cur.toList.drop (cu*inf.size+us.length)).toArray)
theorem zu (hT:AG P T) (ht:T t=some ti) (h:HR N0 W0 fm ts H w) (hH:0<H.length) {kb:Nat} (hk:∀ k,kb<=k->k<kb+16->tb ts 0 k=none) {tx ty:TypeId}{x y:AV}{v u:Value}{d:De}
  (hv:VR fm ts x v) (uc:∀ new e inf z,fR H.get ti.el y=some new->P.underlying t=some (.slice e)->P.info? e=some inf->inf.size=ti.el->inf.zero=some z->∃ us,cr new ti.el/\Am fm [] new.flatten us/\(∀ x∈new.flatten,x.flat=true)/\Gv P t tx ty e inf z u new.length us w)
  (e:ic H.get kb ti x y=some d) {r:Result Next} (hr:∀ a w',(Builtin.append_ #[t,tx] ty #[v,u]).run P w=.ok a w'->r=.ok (.value a) w'):Bj N0 W0 fm ts H w kb r d:=by
 unfold ic at e
 split at e
 ·rename_i el hd
  obtain⟨bm,⟨inf,aL,ao,hb,z,hz,fD⟩,_⟩:=hT.slice ht hd
  have mN:=(hT.ok ht).dW
  have jE:z.cells.size=ti.el:=by have:=(fD fm []).1;simp at this;omega
  split at e
  ·rename_i new dA
   obtain⟨us,ho,aM,cM,hR⟩:=uc new el inf z dA bm aL ao hz
   have df:us.length=new.length*ti.el:=by rw[<-aM.1];exact ij _ _ ho
   split at e
   ·
    split at e
    ·rename_i hc
     obtain⟨⟨mV,pE⟩,en⟩:=hc
     obtain rfl:=oi e
     cases hv
     have fC:=hk kb (A7 _) (by omega)
     have ab:0<ts.length:=by rw[h.len];exact hH
     by_cases hn:new.length=0
     ·have:new=[]:=List.eq_nil_of_length_eq_zero hn
      subst this
      have aK:=hR.none (by simp) none 0 0 (A7 _)
      exact abz h hH hk el ti.el (hr _ _ aK)
     ·have aK:=hR.nil (by rw[ao];exact df) (by omega) (by omega) (by omega) (by rw[hb];omega)
      have j7:=grownCap_ge w new.length 0 el
      have hle:=grownCap_le_maxLen w new.length 0 el (by simp[maxLen];omega)
      have mU:=(h.drew).rE (l:=0) (k:=kb) (cap:=grownCap w new.length 0 el) (et:=el) (esz:=ti.el) (es:=new) (cells:=us.toArray++Builtin.zeroCells z.cells (grownCap w new.length 0 el - new.length)) (us:=us)
       (rest:=(Builtin.zeroCells z.cells (grownCap w new.length 0 el - new.length)).toList) hH (by rw[fC];trivial) (by
        rw[Array.size_append,size_zeroCells,jE,List.size_toArray,df,<-Nat.add_mul];congr 1;omega) j7 hle ho en aM cM (by simp)
      refine⟨fm,_,_,_,.inl (hr _ _ aK),mU,?_,Ax.refl _ _,Ak.set (by rw[fC];trivial),?_⟩
      ·exact .loc 0 kb ti.el 0 new.length new.length w.heap.size (grownCap w new.length 0 el) (grownCap w new.length 0 el) _ (by rw[cY,if_pos ⟨rfl,rfl,ab⟩];rfl) (by omega) j7 (by omega) (fun _=>by simp)
      ·intro l k cQ ax
       rw[cY,if_neg (by omega)]
       exact ax
    ·cases e
   ·rename_i l k esz i n g
    split at e
    ·rename_i et aC es hg
     split at e
     ·rename_i hc
      obtain⟨rfl,rfl,rfl,rfl,rfl,iu,⟨mV,pE⟩,en⟩:=hc
      obtain rfl:=oi e
      have cg:=h.aj l k _ hg
      have nX:=Heap.nM H _ _ _ hg
      have xl:l<ts.length:=by rw[h.len];exact nX
      have xg:∀ (x:TB) l' k',(l'≠0\/k'<kb\/kb+16<=k')->tb ts l' k'=none->tb ts l k≠none->tb (ca ts l k x) l' k'=none:=by
       intro x l' k' _ h0 bg
       rw[cY]
       split
       ·rename_i hh;obtain⟨rfl,rfl,_⟩:=hh;exact absurd h0 bg
       ·exact h0
      have nothing:new=[]->∀ (a0:Option Addr) (mC:Nat),v=.slice a0 n mC->n<=mC->VR fm ts (.loc l k ti.el 0 n n) v->Bj N0 W0 fm ts H w kb r ⟨.loc l k ti.el 0 (n+new.length) (n+new.length),[(l,k,some (.arr et ti.el (es++new)))]⟩:=by
       rintro rfl a0 mC rfl hle aZ
       have aK:=hR.none (by simp) a0 n mC hle
       have j4:HR N0 W0 fm ts (H.put l k (some (.arr et ti.el (es++[])))) w:=by
        rw[List.append_nil]
        have e1:∀ l' k',(H.put l k (some (.arr et ti.el es))).get l' k'=H.get l' k':=by
         intro l' k'
         rw[Heap.mH]
         split
         ·rename_i hh;obtain⟨rfl,rfl,_⟩:=hh;exact hg.symm
         ·rfl
        exact⟨by simpa using h.len,fun l' k' b hb=>h.aj l' k' b (by rw[<-e1];exact hb),fun l1 k1 l2 k2 b1 b2 c g1 g2=>h.inj l1 k1 l2 k2 b1 b2 c (by rw[<-e1];exact g1) (by rw[<-e1];exact g2),h.bL,
         fun l' k' b c o hb=>h.dx l' k' b c o (by rw[<-e1];exact hb),h.bJ,h.size,h.bj⟩
       refine⟨fm,ts,w,_,.inl (hr _ _ aK),j4,?_,Ax.refl _ _,Ak.refl _,fun _ _ _ h=>h⟩
       simpa using aZ
      cases hv with
      |bW _ _ _ _ _ _ a' aI ax=>rw[ax]at cg;cases cg
      |bX _ _ _ _ _ _ a' aI m' c ax gp=>rw[ax]at cg;have:=cg.eG.1;omega
      |bI _ _ _ a1 ax=>
       rw[ax]at cg
       have lK:=cg.eG.2.1 rfl
       subst lK
       by_cases hn:new.length=0
       ·exact nothing (List.eq_nil_of_length_eq_zero hn) a1 0 rfl (A7 _) (.bI l k ti.el _ ax)
       ·simp only[B6]at mV pE
        have aK:(Builtin.append_ #[t,tx] ty #[.slice a1 0 0,u]).run P w =
          .ok (.slice (some ⟨w.heap.size,0,none⟩) new.length (grownCap w new.length 0 et)) (w.drew.alloc (.cells (us.toArray++Builtin.zeroCells z.cells (grownCap w new.length 0 et - new.length)) et)):=by
         cases a1 with
         |none=>exact hR.nil (by rw[ao];exact df) (by omega) (by omega) (by omega) (by rw[hb];omega)
         |some b1=>
          have:=hR.grow (by rw[ao];exact df) (by omega) (by omega) b1 0 0 [] (by simp) (by simp) (by omega) (by omega) (by rw[B6];exact growslice_fits (by omega) (by rw[hb];omega))
          simpa using this
        have j7:=grownCap_ge w new.length 0 et
        have hle:=grownCap_le_maxLen w new.length 0 et (by simp[maxLen];omega)
        have ra:AX (tb ts l k) (some (.arr new.length (some (w.heap.size,grownCap w new.length 0 et)))):=by
         rw[ax];exact .inr (.inr ⟨_,_,rfl,by omega⟩)
        have mU:=(h.drew).rE (l:=l) (k:=k) (cap:=grownCap w new.length 0 et) (et:=et) (esz:=ti.el) (es:=new) (cells:=us.toArray++Builtin.zeroCells z.cells (grownCap w new.length 0 et - new.length)) (us:=us)
         (rest:=(Builtin.zeroCells z.cells (grownCap w new.length 0 et - new.length)).toList) nX ra (by
          rw[Array.size_append,size_zeroCells,jE,List.size_toArray,df,<-Nat.add_mul];congr 1;omega) j7 hle ho en aM cM (by simp)
        refine⟨fm,_,_,_,.inl (hr _ _ aK),by simpa [Heap.bk] using mU,?_,Ax.refl _ _,Ak.set ra,fun l' k' dH h0=>xg _ l' k' dH h0 (by rw[ax];simp)⟩
        simp only[B6]
        exact .loc l k ti.el 0 new.length new.length w.heap.size (grownCap w new.length 0 et) (grownCap w new.length 0 et) _ (by rw[cY,if_pos ⟨rfl,rfl,xl⟩]) (by omega) j7 (by omega) (fun _=>by simp)
      |loc _ _ _ _ _ _ c cap aI a' ax bl bh bR ha=>
       rw[ax]at cg
       obtain⟨hA,hN⟩:=cg.eG.2.2 c cap rfl
       obtain⟨cells,c1,c2,c3,c4,c5,c6,c7,c8⟩:=hA.flat
       have eN:=ha (.inr rfl)
       simp only[Nat.zero_mul]at eN
       subst eN
       have re:aI=cap:=by omega
       subst re
       by_cases hn:new.length=0
       ·exact nothing (List.eq_nil_of_length_eq_zero hn) _ aI rfl bh (.loc l k ti.el 0 n n c aI aI _ ax bl bh bR ha)
       ·have ak8:=ij ti.el es c5
        have hmul:es.length*ti.el<=cells.size:=by rw[c2];exact Bp _ c3
        have ahK:∀ j u,(cells.toList.take (es.length*ti.el))[j]?=some u->w.cell? ((⟨c,0,none⟩:Addr).add j)=some u:=by
         intro j u hu
         rw[Bx]at hu
         split at hu
         ·rw[Addr.add_lit]
          simp only[World.cell?,c1,B6]
          simpa using hu
         ·cases hu
        have wH:Am fm [] (es++new).flatten (cells.toList.take (es.length*ti.el)++us):=by
         rw[List.flatten_append];exact c7.append aM
        have wu:∀ x∈(es++new).flatten,x.flat=true:=by rw[List.flatten_append];exact aho c8 cM
        have wz:=ma c5 ho
        have ra:∀ c',AX (tb ts l k) (some (.arr (es++new).length c')):=by
         intro c';rw[ax];exact .inr (.inr ⟨_,_,rfl,by simp;omega⟩)
        by_cases dy:n+new.length<=aI
        ·have aK:=hR.room (by rw[ao];exact df) (by omega) (by omega) c n aI cells c1 (aM.m6 cM) dy (by
          rw[ao,df,<-Nat.add_mul,c2];exact Bp _ dy)
         rw[ao]at aK
         have hs:=h.rR hg ax (es':=es++new) (vs':=cells.toList.take (n*ti.el)++us++cells.toList.drop (n*ti.el+us.length)) (us:=cells.toList.take (es.length*ti.el)++us) (rest:=cells.toList.drop (n*ti.el+us.length))
          (by simp) (by simp;omega) wz (by
           have:n*ti.el+us.length<=cells.size:=by rw[df,<-Nat.add_mul,c2];exact Bp _ dy
           simp;omega) wH wu (by rw[iu])
         refine⟨fm,_,_,_,.inl (hr _ _ aK),hs,?_,Ax.refl _ _,Ak.set (ra _),fun l' k' dH h0=>xg _ l' k' dH h0 (by rw[ax];simp)⟩
         exact .loc l k ti.el 0 (n+new.length) (n+new.length) c aI aI _ (by rw[cY,if_pos ⟨rfl,rfl,xl⟩];simp[iu]) (by omega) dy (by omega) (fun _=>by simp)
        ·have aK:=hR.grow (by rw[ao];exact df) (by omega) (by omega) ⟨c,0,none⟩ n aI (cells.toList.take (es.length*ti.el)) (by rw[ao,A6,Nat.min_eq_left (by simpa using hmul),iu]) ahK (by omega) (by omega)
          (growslice_fits (by omega) (by rw[hb];exact mV))
         have j7:=grownCap_ge w (n+new.length) aI et
         have hle:=grownCap_le_maxLen w (n+new.length) aI et (by simp[maxLen];omega)
         have mU:=(h.drew).rE (l:=l) (k:=k) (cap:=grownCap w (n+new.length) aI et) (et:=et) (esz:=ti.el) (es:=es++new)
          (cells:=(cells.toList.take (es.length*ti.el)).toArray++us.toArray++Builtin.zeroCells z.cells (grownCap w (n+new.length) aI et - (n+new.length))) (us:=cells.toList.take (es.length*ti.el)++us)
          (rest:=(Builtin.zeroCells z.cells (grownCap w (n+new.length) aI et - (n+new.length))).toList) nX (ra _) (by
           rw[Array.size_append,Array.size_append,size_zeroCells,jE,List.size_toArray,List.size_toArray,df,A6,Nat.min_eq_left (by simpa using hmul),<-Nat.add_mul,<-Nat.add_mul];congr 1;omega) (by simp;omega) hle wz en wH wu (by simp)
         refine⟨fm,_,_,_,.inl (hr _ _ aK),mU,?_,Ax.refl _ _,Ak.set (ra _),fun l' k' dH h0=>xg _ l' k' dH h0 (by rw[ax];simp)⟩
         exact .loc l k ti.el 0 (n+new.length) (n+new.length) w.heap.size (grownCap w (n+new.length) aI et) (grownCap w (n+new.length) aI et) _ (by rw[cY,if_pos ⟨rfl,rfl,xl⟩];simp[iu]) (by omega) j7 (by omega) (fun _=>by simp)
     ·split at e
      ·rename_i hc
       obtain⟨⟨rfl,rfl,rfl⟩,⟨rfl,iu⟩,dy,en⟩:=hc
       obtain rfl:=oi e
       have cg:=h.aj l k _ hg
       have nX:=Heap.nM H _ _ _ hg
       have xl:l<ts.length:=by rw[h.len];exact nX
       have xg:∀ (x:TB) l' k',(l'≠0\/k'<kb\/kb+16<=k')->tb ts l' k'=none->tb ts l k≠none->tb (ca ts l k x) l' k'=none:=by
        intro x l' k' _ h0 bg
        rw[cY]
        split
        ·rename_i hh;obtain⟨rfl,rfl,_⟩:=hh;exact absurd h0 bg
        ·exact h0
       have ahP:(es.take n++(new++es.drop (n+new.length))).length=es.length:=by simp;omega
       have nothing:new=[]->∀ (a0:Option Addr) (mC:Nat),v=.slice a0 n mC->n<=mC->VR fm ts (.loc l k ti.el 0 n g) v->Bj N0 W0 fm ts H w kb r ⟨.loc l k ti.el 0 (n+new.length) g,[(l,k,some (.arr et ti.el (es.take n++(new++es.drop (n+new.length)))))]⟩:=by
        rintro rfl a0 mC rfl hle aZ
        have aK:=hR.none (by simp) a0 n mC hle
        have e0:es.take n++([]++es.drop (n+([]:List (List AV)).length))=es:=by simp
        rw[e0]
        refine⟨fm,ts,w,_,.inl (hr _ _ aK),h.xU hg,?_,Ax.refl _ _,Ak.refl _,fun _ _ _ h=>h⟩
        simpa using aZ
       cases hv with
       |bW _ _ _ _ _ _ a' aI ax=>rw[ax]at cg;cases cg
       |bX _ _ _ _ _ _ a' aI m' c ax gp=>rw[ax]at cg;have:=cg.eG.1;omega
       |bI _ _ _ a1 ax=>
        have hn:new=[]:=List.eq_nil_of_length_eq_zero (by omega)
        exact nothing hn a1 0 rfl (A7 _) (.bI l k ti.el _ ax)
       |loc _ _ _ _ _ _ c cap aI a' ax bl bh bR ha=>
        rw[ax]at cg
        obtain⟨hA,hN⟩:=cg.eG.2.2 c cap rfl
        obtain⟨cells,c1,c2,c3,c4,c5,c6,c7,c8⟩:=hA.flat
        have eN:=ha (.inr rfl)
        simp only[Nat.zero_mul]at eN
        subst eN
        have re:aI=cap:=by omega
        subst re
        by_cases hn:new.length=0
        ·exact nothing (List.eq_nil_of_length_eq_zero hn) _ aI rfl bh (.loc l k ti.el 0 n g c aI aI _ ax bl bh bR ha)
        ·have pD:es.length*ti.el<=cells.size:=by rw[c2];exact Bp _ c3
         have gq:(n+new.length)*ti.el<=es.length*ti.el:=Bp _ (by omega)
         rw[Nat.add_mul]at gq
         have aK:=hR.room (by rw[ao];exact df) (by omega) (by omega) c n aI cells c1 (aM.m6 cM) (by omega) (by rw[ao,df];omega)
         rw[ao]at aK
         have alf:(cells.toList.take (es.length*ti.el)).length=es.length*ti.el:=by rw[A6,Nat.min_eq_left (by simpa using pD)]
         have aii:Am fm [] (es.take n).flatten (cells.toList.take (n*ti.el)):=by
          have:=Am.take c7 (n*ti.el)
          rw[<-lA es n c5,List.take_take,Nat.min_eq_left (by omega)]at this
          exact this
         have rh:Am fm [] (es.drop (n+new.length)).flatten ((cells.toList.take (es.length*ti.el)).drop (n*ti.el+us.length)):=by
          have:=Am.drop c7 (n*ti.el+us.length)
          have e2:n*ti.el+us.length=(n+new.length)*ti.el:=by rw[df,Nat.add_mul]
          rw[e2]at this ⊢
          rw[<-qP es (n+new.length) c5]at this
          exact this
         have wz:cr (es.take n++(new++es.drop (n+new.length))) ti.el:=
          ma (fun d hd=>c5 d (BQ hd)) (ma ho (fun d hd=>c5 d (BX hd)))
         have wH:Am fm [] (es.take n++(new++es.drop (n+new.length))).flatten (cells.toList.take (n*ti.el)++(us++(cells.toList.take (es.length*ti.el)).drop (n*ti.el+us.length))):=by
          rw[List.flatten_append,List.flatten_append]
          exact aii.append (aM.append rh)
         have wu:∀ x∈(es.take n++(new++es.drop (n+new.length))).flatten,x.flat=true:=by
          intro x hx
          rw[List.flatten_append,List.flatten_append]at hx
          have lK:∀ x∈es.flatten,x.flat=true:=c8
          rcases AZ.1 hx with hx|hx
          ·obtain⟨d,hd,hxd⟩:=List.mem_flatten.1 hx
           exact lK x (List.mem_flatten.2 ⟨d,BQ hd,hxd⟩)
          ·rcases AZ.1 hx with hx|hx
           ·exact cM x hx
           ·obtain⟨d,hd,hxd⟩:=List.mem_flatten.1 hx
            exact lK x (List.mem_flatten.2 ⟨d,BX hd,hxd⟩)
         have hs:=h.rR hg ax (es':=es.take n++(new++es.drop (n+new.length))) (vs':=cells.toList.take (n*ti.el)++us++cells.toList.drop (n*ti.el+us.length))
          (us:=cells.toList.take (n*ti.el)++(us++(cells.toList.take (es.length*ti.el)).drop (n*ti.el+us.length))) (rest:=cells.toList.drop (es.length*ti.el))
          (by omega) (by omega) wz (by
           have:n*ti.el+us.length<=cells.size:=by omega
           simp;omega) wH wu (by
           rw[Cd,Cd,Cd]
           congr 2
           have e3:cells.toList.drop (n*ti.el+us.length)=(cells.toList.take (es.length*ti.el)).drop (n*ti.el+us.length)++cells.toList.drop (es.length*ti.el):=by
            rw[List.drop_take]
            have e4:es.length*ti.el=(n*ti.el+us.length)+(es.length*ti.el - (n*ti.el+us.length)):=by omega
            conv=>rhs;arg 2;rw[e4,<-List.drop_drop]
            rw[C0]
           exact e3)
         rw[ahP,iu]at hs
         have e8:ca ts l k (.arr g (some (c,aI)))=ts:=sa ax
         rw[e8]at hs
         refine⟨fm,ts,_,_,.inl (hr _ _ aK),hs,?_,Ax.refl _ _,Ak.refl _,fun _ _ _ h=>h⟩
         exact .loc l k ti.el 0 (n+new.length) g c aI aI _ ax (by omega) (by omega) (by omega) (fun _=>by simp)
      ·cases e
    ·cases e
   ·cases e
  ·cases e
 ·cases e
theorem agZ (hT:AG P T) (ht:T t=some ti) (h:HR N0 W0 fm ts H w) (hH:0<H.length) {kb:Nat} (hk:∀ k,kb<=k->k<kb+16->tb ts 0 k=none) {ty:TypeId}{x y:AV}{v u:Value}{d:De}
  (hv:VR fm ts x v) (hu:VR fm ts y u) (e:ic H.get kb ti x y=some d) {r:Result Next} (hr:∀ a w',(Builtin.append_ #[t,t] ty #[v,u]).run P w=.ok a w'->r=.ok (.value a) w'):Bj N0 W0 fm ts H w kb r d:=by
 refine zu hT ht h hH hk hv ?_ e hr
 intro new el inf z dA bm aL ao hz
 obtain⟨a,cp,us,rfl,ho,aM,cM,aV⟩:=h.elems hu dA
 have df:us.length=new.length*ti.el:=by rw[<-aM.1];exact ij _ _ ho
 have aas:0<us.length->∃ ad,a=some ad/\∀ j u,us[j]?=some u->w.cell? (ad.add j)=some u:=by
  intro ab
  obtain⟨ad,rfl,_⟩:=aV 0 _ (gG ab)
  refine⟨ad,rfl,fun j u hu=>?_⟩
  obtain⟨ad',h1,h2⟩:=aV j u hu
  cases h1;exact h2
 refine⟨us,ho,aM,cM,?_,?_,?_,?_⟩
 ·intro hn base m c hm
  rw[hn]
  exact ajN (P:=P) (w:=w) bm aL ty base a m c cp hm
 ·intro hl he hn jq q9
  obtain⟨ad,rfl,tj⟩:=aas (by rw[hl];exact Nat.mul_pos hn he)
  exact run_append_nil (P:=P) w t ty el inf z bm aL hz ad new.length cp us hl tj hn jq q9
 ·intro hl he hn b cu eb k9 tL tM hg jq dy
  obtain⟨ad,rfl,tj⟩:=aas (by rw[hl];exact Nat.mul_pos hn he)
  exact run_append_grow (P:=P) w t ty el inf z bm aL hz b cu eb k9 tL tM ad new.length cp us hl tj hg jq dy
 ·intro hl he hn g cu eb cur hg h1 gK hf
  obtain⟨ad,rfl,tj⟩:=aas (by rw[hl];exact Nat.mul_pos hn he)
  exact run_append_room (P:=P) w t ty el inf bm aL g cu eb cur hg ad new.length cp us hl tj h1 gK hf
theorem rX (s:ByteArray):(iI s).length=s.size:=by unfold iI;rw[Bh];rfl
theorem aex (s:ByteArray):(iI s).flatten=s.data.toList.map fun c=>AV.int .u8 (c.toNat:Int):=by
 unfold iI
 induction s.data.toList with
 |nil=>rfl
 |cons x l ih=>simp[ih]
theorem agX (hT:AG P T) (ht:T t=some ti) (h:HR N0 W0 fm ts H w) (hH:0<H.length) {kb:Nat} (hk:∀ k,kb<=k->k<kb+16->tb ts 0 k=none) {tx ty:TypeId}{x:AV}{v:Value}{s:ByteArray}{d:De}
  (hv:VR fm ts x v) (hu:P.underlying tx=some .string) (h1:ti.el=1) (e:ic H.get kb ti x (.sl 1 (iI s))=some d) {r:Result Next} (hr:∀ a w',(Builtin.append_ #[t,tx] ty #[v,.string s]).run P w=.ok a w'->r=.ok (.value a) w'):Bj N0 W0 fm ts H w kb r d:=by
 refine zu hT ht h hH hk hv ?_ e hr
 intro new el inf z dA bm aL ao hz
 have ui:inf.size=1:=by omega
 simp only[fR,if_pos h1.symm,oE]at dA
 subst dA
 have hS:∀ w:World,Src P inf.size tx (.string s) (iI s).length (byteCells s) w:=fun w=>by rw[ui,rX];exact Src.ofString w hu s
 refine⟨byteCells s,?_,?_,?_,?_,?_,?_,?_⟩
 ·intro c hc
  obtain⟨_,_,rfl⟩:=List.mem_map.1 hc
  rw[h1];rfl
 ·rw[aex]
  refine⟨by unfold byteCells;simp,?_⟩
  intro i x v hx hv
  unfold byteCells at hv
  rw[Bz,mS]at hx hv
  obtain⟨p,hp,rfl⟩:=hx
  obtain⟨q,hq,rfl⟩:=hv
  rw[hp]at hq
  obtain rfl:=oi hq
  exact .int _ _
 ·rw[aex]
  intro x hx
  obtain⟨_,_,rfl⟩:=List.mem_map.1 hx
  rfl
 ·intro hn base m c hm
  have h0:s.size=0:=by rw[<-rX];exact hn
  cases base<;>simp[Builtin.append_,run_underlying bm,run_underlying hu,sizeOf,typeInfo,aL,Builtin.lenOf,h0,hm,Builtin.firstCells,storeCells]
 ·intro hl _ hn jq q9
  have:=run_append_grow_src (P:=P) w t tx ty el inf z bm aL hz none 0 0 [] (run_firstCells_none w.drew inf.size 0 0 0) (.string s) (iI s).length (byteCells s) (hS w) (by omega) (by simpa using jq) (by rw[B6,nextslicecap_zero hn];exact q9)
  simpa using this
 ·intro hl _ hn b cu eb k9 tL tM hg jq dy
  have hf:=run_firstCells_some (P:=P) w.drew inf.size cu b cu eb k9 tL (by simpa using tM)
  have:=run_append_grow_src (P:=P) w t tx ty el inf z bm aL hz (some b) cu eb k9 hf (.string s) (iI s).length (byteCells s) (hS w) hg jq dy
  simpa using this
 ·intro hl _ hn g cu eb cur hg h1 gK hf
  have cw:=run_storeCells_at P g (cu*inf.size) el (byteCells s) 0 cur w hg (by simpa using hf) h1
  simp only[Nat.add_zero]at cw
  have hc:=(hS w).cells
  have hle:cu+s.size<=eb:=by rw[<-rX];exact gK
  have j5:(Builtin.firstCells inf.size s.size (.string s)).run P w=.ok (byteCells s).toArray w:=by rw[<-rX];exact hc
  simp[Builtin.append_,run_underlying bm,run_underlying hu,sizeOf,typeInfo,aL,Builtin.lenOf,hle,j5,Addr.add_lit,cw,rX]
theorem agY (hT:AG P T) (ht:T t=some ti) (h:HR N0 W0 fm ts H w) (hH:0<H.length) {kb:Nat} (hk:∀ k,kb<=k->k<kb+16->tb ts 0 k=none) {tx ty:TypeId}{kn kq:IntKind}{x:AV}{v:Value}{n:Int}{d:De}
  (hv:VR fm ts x v) (hu:P.underlying tx=some (.int kn)) (e:qM H.get kb ti x n=some d) {r:Result Next} (hr:∀ a w',(Builtin.append_ #[t,tx] ty #[v,.int kq n]).run P w=.ok a w'->r=.ok (.value a) w'):Bj N0 W0 fm ts H w kb r d:=by
 unfold qM at e
 split at e
 ·rename_i hc
  obtain⟨h0,⟨hr1,gK⟩,ak7⟩:=hc
  obtain⟨m,rfl⟩:∃ m:Nat,n=m:=⟨n.toNat,by omega⟩
  simp only[CZ]at e hr1 gK
  refine zu hT ht h hH hk hv ?_ e hr
  intro new el inf z dA bm aL ao hz
  simp only[fR,if_true,oE]at dA
  subst dA
  have hd:ti.d=.slice el:=by
   unfold ic at e
   split at e
   ·rename_i el' hd
    have:=(hT.slice ht hd).1
    rw[bm]at this;cases this;exact hd
   ·cases e
  obtain⟨_,⟨ali,adh,_,hb,z',dB,fD⟩,_⟩:=hT.slice ht hd
  rw[aL]at adh
  obtain rfl:=oi adh
  rw[hz]at dB
  obtain rfl:=oi dB
  have mN:=(hT.ok ht).dW
  have jE:z.cells.size=ti.el:=by have:=(fD fm []).1;simp at this;omega
  have mT:=uv z.cells m (by omega)
  have oc:(Builtin.zeroCells z.cells m).toList=(List.replicate m z.cells.toList).flatten:=mT
  have mZ:(Builtin.zeroCells z.cells m).size=m*ti.el:=by rw[size_zeroCells,jE]
  have iw:Am fm [] (List.replicate m ti.dW).flatten (Builtin.zeroCells z.cells m).toList:=by rw[oc];exact Am.replicate (fD fm []) m
  have hw:IntKind.i64.wrap (m:Int)=m:=by rw[IntKind.wrap_i64];omega
  have ahx:¬ (281474976710656<(m:Int)*(inf.bytes:Int)):=by rw[<-Int.natCast_mul,hb];omega
  have nZ:¬ ((m:Int)<0):=by omega
  refine⟨(Builtin.zeroCells z.cells m).toList,rF mN m,iw,sR (hT.ok ht).wc m,?_,?_,?_,?_⟩
  ·intro hn base m' c hm
   have hm0:m=0:=by simpa using hn
   subst hm0
   have lV:IntKind.i64.wrap 0=0:=by rw[IntKind.wrap_i64];omega
   cases base<;>simp[Builtin.append_,run_underlying bm,run_underlying hu,sizeOf,typeInfo,aL,asInt,asIntOf,lV,hm,storeCells]
  ·intro hl _ hn jq q9
   simp only[CF]at hl hn jq q9 ⊢
   have:=Lib.run_append_nil_zeros (P:=P) w t tx ty el inf z kq kn bm hu aL hz m hn (by omega) jq q9
   simpa using this
  ·intro hl _ hn b cu eb k9 tL tM hg jq dy
   simp only[CF]at hl hn hg jq dy ⊢
   have hf:=run_firstCells_some (P:=P) w.drew inf.size cu b cu eb k9 tL (by simpa using tM)
   have:=Lib.run_append_grow_zeros (P:=P) w t tx ty el inf z kq kn bm hu aL hz (some b) cu eb k9 hf m hn (by omega) hg jq (by rw[hb];omega) dy
   simpa using this
  ·intro hl _ hn g cu eb cur hg h1 pG hf
   simp only[CF]at hn pG ⊢
   have cw:=run_storeCells_at P g (cu*inf.size) el (Builtin.zeroCells z.cells m).toList 0 cur w hg (by simpa using hf) h1
   simp only[Nat.add_zero]at cw
   have jz:¬ (m*inf.size=0):=Nat.mul_ne_zero (by omega) (by omega)
   simp[Builtin.append_,run_underlying bm,run_underlying hu,sizeOf,typeInfo,zeroValue,aL,hz,asInt,asIntOf,hw,nZ,ahx,pG,jz,Addr.add_lit,cw]
 ·cases e
end
theorem rG {sz:Nat}{es:List (List AV)} (h:cr es sz) (n:Nat):cr (es.take n) sz:=fun c hc=>h c (BQ hc)
theorem uy {sz:Nat}{es:List (List AV)} (h:cr es sz) (n:Nat):cr (es.drop n) sz:=fun c hc=>h c (BX hc)
theorem acN {sz:Nat}{es new:List (List AV)} (i:Nat) (he:cr es sz) (hn:cr new sz):
  (es.take i++(new++es.drop (i+new.length))).flatten=overwrite es.flatten (i*sz) new.flatten:=by
 simp only[List.flatten_append,overwrite]
 rw[lA es i he,qP es _ he,ij sz new hn,Nat.add_mul]
section
variable {P:Program}{T:Aw}{N0:Nat}{W0:World}{fm:FM}{ts:List Ah}{H:Heap}{w:World}{t:TypeId}{ti:TI}
theorem aee {a:Option Addr}{m cp sz:Nat}{us:List Value} (df:us.length=m*sz) (aV:∀ j u,us[j]?=some u->∃ ad,a=some ad/\w.cell? (ad.add j)=some u) (k:Nat) (hk:k<=m):
  (Builtin.firstCells sz k (.slice a m cp)).run P w=.ok (us.take (k*sz)).toArray w:=by
 have hmul:k*sz<=m*sz:=Bp _ hk
 cases a with
 |none=>
  have:us=[]:=by
   cases us with
   |nil=>rfl
   |cons u us=>obtain⟨_,h,_⟩:=aV 0 u rfl;cases h
  subst this
  simp[Builtin.firstCells]
 |some ad=>
  refine run_firstCells_some (P:=P) w sz k ad m cp (us.take (k*sz)) (by rw[A6];omega) ?_
  intro j v hv
  rw[Bx]at hv
  split at hv
  ·obtain⟨ad',h1,h2⟩:=aV j v hv
   cases h1;exact h2
  ·cases hv
theorem ag5 (hT:AG P T) (ht:T t=some ti) (h:HR N0 W0 fm ts H w) {kb:Nat}{ty:TypeId}{x y:AV}{v u:Value}{d:De}
  (hv:VR fm ts x v) (hu:VR fm ts y u) (e:pf H.get ti x y=some d) {r:Result Next} (hr:∀ a w',(Builtin.copy_ #[t,t] ty #[v,u]).run P w=.ok a w'->r=.ok (.value a) w'):Bj N0 W0 fm ts H w kb r d:=by
 unfold pf at e
 split at e
 ·rename_i el hd
  obtain⟨bm,⟨inf,aL,ao,hb,z,hz,fD⟩,_⟩:=hT.slice ht hd
  split at e
  ·rename_i src uc
   obtain⟨a,cp,us,rfl,ho,aM,cM,aV⟩:=h.elems hu uc
   have df:us.length=src.length*ti.el:=by rw[<-aM.1];exact ij _ _ ho
   have aaq:∀ (base:Option Addr) (n aI:Nat),min src.length n=0->(Builtin.copy_ #[t,t] ty #[.slice base n aI,.slice a src.length cp]).run P w=.ok (goInt 0) w:=by
    intro base n aI hm
    have hf:=aee (P:=P) (w:=w) (cp:=cp) df aV 0 (Nat.zero_le _)
    have hm':Nat.min src.length n=0:=hm
    cases base<;>simp[Builtin.copy_,run_underlying bm,Builtin.lenOf,sizeOf,typeInfo,aL,ao,hm',hf,storeCells]
   have ads:∀ (c o n aI:Nat) (cells:Array Value) (et:TypeId),w.heap[c]?=some (.cells cells et (0,0))->o+min src.length n*ti.el<=cells.size->
     (Builtin.copy_ #[t,t] ty #[.slice (some ⟨c,o,none⟩) n aI,.slice a src.length cp]).run P w=.ok (goInt (min src.length n:Nat)) (w.setRow c (cells.toList.take o++us.take (min src.length n*ti.el)++cells.toList.drop (o+(us.take (min src.length n*ti.el)).length)).toArray):=by
    intro c o n aI cells et hc hle
    have hf:=aee (P:=P) (w:=w) (cp:=cp) df aV (min src.length n) (Nat.min_le_left _ _)
    have hmul:min src.length n*ti.el<=src.length*ti.el:=Bp _ (Nat.min_le_left _ _)
    have cw:=run_storeCells_at P c o et (us.take (min src.length n*ti.el)) 0 cells w hc (by rw[A6];omega) (fun v hv=>aM.m6 cM v (BQ hv))
    simp only[Nat.add_zero]at cw
    have hm':Nat.min src.length n=min src.length n:=rfl
    simp only[Builtin.copy_,Sem.run_bind,run_underlying bm,Result.andThen_ok,Builtin.lenOf,sizeOf,typeInfo,run_program,aL,ao,hm',Sem.run_pure,hf,cw,List.getElem?_toArray,BG,BE]
   split at e
   ·obtain rfl:=oi e
    cases hv
    exact .pure h (hr _ _ (aaq none 0 0 (by simp))) (.int _ _)
   ·rename_i l k esz i n g
    split at e
    ·rename_i et aC es hg
     split at e
     ·rename_i hc
      obtain⟨rfl,rfl,iu,bl⟩:=hc
      obtain rfl:=oi e
      have cg:=h.aj l k _ hg
      have nX:=Heap.nM H _ _ _ hg
      have same:min src.length n=0->es.take i++(src.take n++es.drop (i+min src.length n))=es:=by
       intro hm
       have:src.take n=[]:=by
        apply List.eq_nil_of_length_eq_zero;rw[A6];omega
       rw[hm,this];simp
      have nothing:min src.length n=0->∀ (base:Option Addr) (aI:Nat),v=.slice base n aI->Bj N0 W0 fm ts H w kb r ⟨.int .i64 (min src.length n),[(l,k,some (.arr et ti.el (es.take i++(src.take n++es.drop (i+min src.length n)))))]⟩:=by
       rintro hm base aI rfl
       rw[same hm]
       refine⟨fm,ts,w,_,.inl (hr _ _ (aaq base n aI hm)),h.xU hg,?_,Ax.refl _ _,Ak.refl _,fun _ _ _ h=>h⟩
       have e0:(min (src.length:Int) (n:Int))=0:=by omega
       rw[e0]
       exact .int _ _
      cases hv with
      |bW _ _ _ _ _ _ a' aI ax=>rw[ax]at cg;cases cg
      |bX _ _ _ _ _ _ a' aI m' c ax gp=>rw[ax]at cg;have:=cg.eG.1;omega
      |bI _ _ _ a1 ax=>exact nothing (by simp) a1 0 rfl
      |loc _ _ _ _ _ _ c cap aI a' ax tC bh bR ha=>
       rw[ax]at cg
       obtain⟨hA,hN⟩:=cg.eG.2.2 c cap rfl
       obtain⟨cells,c1,c2,c3,c4,c5,c6,c7,c8⟩:=hA.flat
       by_cases hm:min src.length n=0
       ·exact nothing hm (some a') aI rfl
       ·have eN:=ha (.inl (by omega))
        subst eN
        have hmul:(i+min src.length n)*ti.el<=es.length*ti.el:=Bp _ (by omega)
        have pD:es.length*ti.el<=cells.size:=by rw[c2];exact Bp _ c3
        rw[Nat.add_mul]at hmul
        have aK:=ads c (i*ti.el) n aI cells et c1 (by omega)
        have aau:src.take n=src.take (min src.length n):=by
         rw[<-Co (l:=src),List.take_take,List.take_take,Co];congr 1;omega
        have fp:(src.take (min src.length n)).length=min src.length n:=by rw[A6];omega
        have iw:Am fm [] (src.take (min src.length n)).flatten (us.take (min src.length n*ti.el)):=by rw[lA src _ ho];exact aM.take _
        have rn:∀ x∈(src.take (min src.length n)).flatten,x.flat=true:=by
         rw[lA src _ ho];exact fun x hx=>cM x (BQ hx)
        have uf:(us.take (min src.length n*ti.el)).length=min src.length n*ti.el:=by
         rw[A6,df];exact Nat.min_eq_left (Bp _ (Nat.min_le_left _ _))
        have lN:=acN i c5 (rG ho (min src.length n))
        rw[fp]at lN
        have pw:(es.take i++(src.take (min src.length n)++es.drop (i+min src.length n))).length=es.length:=by simp;omega
        rw[aau]
        have hs:=h.rR hg ax (es':=es.take i++(src.take (min src.length n)++es.drop (i+min src.length n)))
         (vs':=cells.toList.take (i*ti.el)++us.take (min src.length n*ti.el)++cells.toList.drop (i*ti.el+(us.take (min src.length n*ti.el)).length))
         (us:=(cells.toList.take (es.length*ti.el)).take (i*ti.el)++(us.take (min src.length n*ti.el)++(cells.toList.take (es.length*ti.el)).drop (i*ti.el+(us.take (min src.length n*ti.el)).length))) (rest:=cells.toList.drop (es.length*ti.el))
         (by rw[pw];exact A7 _) (by rw[pw];exact c3) (ma (rG c5 _) (ma (rG ho _) (uy c5 _)))
         (by rw[BL,BL,uf,A6,B3,Array.length_toList];omega)
         (by rw[lN];exact na c7 iw (by rw[iw.1,uf,ij _ _ c5];omega))
         (by rw[lN];exact nb c8 rn)
         (yd _ _ _ _ (by rw[uf];omega) (by simpa using pD))
        rw[pw,iu,sa ax]at hs
        refine⟨fm,ts,_,_,.inl (hr _ _ aK),hs,?_,Ax.refl _ _,Ak.refl _,fun _ _ _ h=>h⟩
        have e0:(min (src.length:Int) (n:Int))=((min src.length n:Nat):Int):=by omega
        rw[e0]
        exact .int _ _
     ·cases e
    ·cases e
   ·rename_i l k esz o n
    split at e
    ·rename_i cs hg
     split at e
     ·rename_i hc
      obtain⟨rfl,en,rfl,hon⟩:=hc
      obtain rfl:=oi e
      cases hv with
      |bd _ _ _ _ _ c aI a' ax bh ha=>
       obtain⟨cells,et,c1,c2,c3,c4⟩:=h.y7 hg ax
       by_cases hm:min src.length n=0
       ·have:src.take n=[]:=by
         apply List.eq_nil_of_length_eq_zero;rw[A6];omega
        have e1:overwrite cs o (src.take n).flatten=cs:=by rw[this];simp[overwrite]
        rw[e1]
        refine⟨fm,ts,w,_,.inl (hr _ _ (aaq (some a') n aI hm)),h.xU hg,?_,Ax.refl _ _,Ak.refl _,fun _ _ _ h=>h⟩
        have e0:(min (src.length:Int) (n:Int))=0:=by omega
        rw[e0]
        exact .int _ _
       ·have eN:=ha (by omega)
        subst eN
        have aK:=ads c o n aI cells et c1 (by rw[en,Nat.mul_one];omega)
        have aau:src.take n=src.take (min src.length n):=by
         rw[<-Co (l:=src),List.take_take,List.take_take,Co];congr 1;omega
        have uf:(us.take (min src.length n*ti.el)).length=min src.length n*ti.el:=by
         rw[A6,df];exact Nat.min_eq_left (Bp _ (Nat.min_le_left _ _))
        have iw:Am fm [] (src.take (min src.length n)).flatten (us.take (min src.length n*ti.el)):=by rw[lA src _ ho];exact aM.take _
        have rn:∀ x∈(src.take (min src.length n)).flatten,x.flat=true:=by
         rw[lA src _ ho];exact fun x hx=>cM x (BQ hx)
        rw[aau]
        have hs:=h.yg hg ax (cs':=overwrite cs o (src.take (min src.length n)).flatten) (na c3 (iw.mono (AM.refl _) (Ak.nil _)) (by rw[iw.1,uf,en];omega)) (nb c4 rn)
        rw[<-Cd]at hs
        refine⟨fm,ts,_,_,.inl (hr _ _ aK),hs,?_,Ax.refl _ _,Ak.refl _,fun _ _ _ h=>h⟩
        have e0:(min (src.length:Int) (n:Int))=((min src.length n:Nat):Int):=by omega
        rw[e0]
        exact .int _ _
     ·cases e
    ·cases e
   ·cases e
  ·cases e
 ·cases e
theorem ag3 (hT:AG P T) (ht:T t=some ti) (h:HR N0 W0 fm ts H w) {kb:Nat}{ty:TypeId}{l:List TypeId}{x:AV}{v:Value}{d:De}
  (hv:VR fm ts x v) (e:pe H.get ti x=some d) {r:Result Next} (hr:∀ a w',(Builtin.clear_ (t::l).toArray ty #[v]).run P w=.ok a w'->r=.ok (.value a) w'):Bj N0 W0 fm ts H w kb r d:=by
 have unit:∀ fm ts,VR fm ts (.ak []) (.tuple #[]):=fun fm ts=>.ak [] #[] rfl (fun i x v h=>by simp at h)
 unfold pe at e
 split at e
 ·rename_i el hd
  obtain⟨bm,⟨inf,aL,ao,hb,z,hz,fD⟩,_⟩:=hT.slice ht hd
  have mN:=(hT.ok ht).dW
  have jE:z.cells.size=ti.el:=by have:=(fD fm []).1;simp at this;omega
  split at e
  ·obtain rfl:=oi e
   cases hv
   exact .pure h (hr (.tuple #[]) w (by simp[Builtin.clear_,run_underlying bm])) (unit _ _)
  ·rename_i lv k esz i n g
   split at e
   ·rename_i et aC es hg
    split at e
    ·rename_i hc
     obtain⟨rfl,rfl,iu,bl⟩:=hc
     obtain rfl:=oi e
     have cg:=h.aj lv k _ hg
     have nothing:n=0->∀ (base:Option Addr) (aI:Nat),v=.slice base 0 aI->Bj N0 W0 fm ts H w kb r ⟨.ak [],[(lv,k,some (.arr et ti.el (es.take i++(List.replicate n ti.dW++es.drop (i+n)))))]⟩:=by
      rintro rfl base aI rfl
      have e1:es.take i++(List.replicate 0 ti.dW++es.drop (i+0))=es:=by simp
      rw[e1]
      exact⟨fm,ts,w,_,.inl (hr (.tuple #[]) w (by cases base<;>simp[Builtin.clear_,run_underlying bm])),h.xU hg,unit _ _,Ax.refl _ _,Ak.refl _,fun _ _ _ h=>h⟩
     cases hv with
     |bW _ _ _ _ _ _ a' aI ax=>rw[ax]at cg;cases cg
     |bX _ _ _ _ _ _ a' aI m' c ax gp=>rw[ax]at cg;have:=cg.eG.1;omega
     |bI _ _ _ a1 ax=>exact nothing rfl a1 0 rfl
     |loc _ _ _ _ _ _ c cap aI a' ax tC bh bR ha=>
      rw[ax]at cg
      obtain⟨hA,hN⟩:=cg.eG.2.2 c cap rfl
      obtain⟨cells,c1,c2,c3,c4,c5,c6,c7,c8⟩:=hA.flat
      by_cases hm:n=0
      ·exact nothing hm (some a') aI (by rw[hm])
      ·have eN:=ha (.inl (by omega))
       subst eN
       have mT:=uv z.cells n (by omega)
       have oc:(Builtin.zeroCells z.cells n).toList=(List.replicate n z.cells.toList).flatten:=mT
       have mZ:(Builtin.zeroCells z.cells n).toList.length=n*ti.el:=by rw[Array.length_toList,size_zeroCells,jE]
       have iw:Am fm [] (List.replicate n ti.dW).flatten (Builtin.zeroCells z.cells n).toList:=by rw[oc];exact Am.replicate (fD fm []) n
       have rn:=sR (hT.ok ht).wc n
       have hmul:(i+n)*ti.el<=es.length*ti.el:=Bp _ (by omega)
       have pD:es.length*ti.el<=cells.size:=by rw[c2];exact Bp _ c3
       rw[Nat.add_mul]at hmul
       have cw:=run_storeCells_at P c (i*ti.el) et (Builtin.zeroCells z.cells n).toList 0 cells w c1 (by rw[mZ];omega) (iw.m6 rn)
       simp only[Nat.add_zero]at cw
       obtain⟨n',rfl⟩:∃ n',n=n'+1:=⟨n - 1,by omega⟩
       have aK:(Builtin.clear_ (t::l).toArray ty #[.slice (some ⟨c,i*ti.el,none⟩) (n'+1) aI]).run P w=.ok (.tuple #[]) (w.setRow c (cells.toList.take (i*ti.el)++(Builtin.zeroCells z.cells (n'+1)).toList++cells.toList.drop (i*ti.el+(Builtin.zeroCells z.cells (n'+1)).toList.length)).toArray):=by
        simp only[Builtin.clear_,Sem.run_bind,run_underlying bm,Result.andThen_ok,zeroValue,typeInfo,run_program,aL,hz,Sem.run_pure,cw,List.getElem?_toArray,BG]
       have lN:=acN i c5 (rF mN (n'+1))
       simp only[CF]at lN
       have pw:(es.take i++(List.replicate (n'+1) ti.dW++es.drop (i+(n'+1)))).length=es.length:=by simp;omega
       have hs:=h.rR hg ax (es':=es.take i++(List.replicate (n'+1) ti.dW++es.drop (i+(n'+1))))
         (vs':=cells.toList.take (i*ti.el)++(Builtin.zeroCells z.cells (n'+1)).toList++cells.toList.drop (i*ti.el+(Builtin.zeroCells z.cells (n'+1)).toList.length))
         (us:=(cells.toList.take (es.length*ti.el)).take (i*ti.el)++((Builtin.zeroCells z.cells (n'+1)).toList++(cells.toList.take (es.length*ti.el)).drop (i*ti.el+(Builtin.zeroCells z.cells (n'+1)).toList.length))) (rest:=cells.toList.drop (es.length*ti.el))
         (by rw[pw];exact A7 _) (by rw[pw];exact c3) (ma (rG c5 _) (ma (rF mN _) (uy c5 _)))
         (by rw[BL,BL,mZ,A6,B3,Array.length_toList];omega)
         (by rw[lN];exact na c7 iw (by rw[iw.1,mZ,ij _ _ c5];omega))
         (by rw[lN];exact nb c8 rn)
         (yd _ _ _ _ (by rw[mZ];omega) (by simpa using pD))
       rw[pw,iu,sa ax]at hs
       exact⟨fm,ts,_,_,.inl (hr _ _ aK),hs,unit _ _,Ax.refl _ _,Ak.refl _,fun _ _ _ h=>h⟩
    ·cases e
   ·cases e
  ·cases e
 ·cases e
end
section
variable {P:Program}{T:Aw}{N0:Nat}{W0:World}{fm:FM}{ts:List Ah}{H:Heap}{w:World}{t:TypeId}{ti:TI}
theorem AG.ai2 (hT:AG P T) (h:T t=some ti) (hd:ti.d≠.iface):∃ d,P.underlying t=some d/\∀ m,d≠.interface m:=by
 have:=hT t ti h
 unfold kM at this
 simp only[AP]at this
 have h7:=this.2
 split at h7<;>rename_i h1 h2<;>first|(exact absurd h1 hd)|(exact⟨_,h2,by intro m;simp⟩)|(cases h7)
theorem aaT {tm:Tm}{a:Act} (h:Ce fm ts tm a):∀ (l:List (Nat×Operand)) (ys:List (Nat×AV)),partsOf tm l=some ys->CY fm ts ys (l.map fun x=>(x.1,a.eval x.2))
 |[],ys,e=>by simp only[partsOf,oE]at e;subst e;trivial
 |(i,x)::l,ys,e=>by
  simp only[partsOf]at e
  split at e
  ·rename_i p q hp hq
   obtain rfl:=oi e
   exact⟨rfl,oz h hp,aaT h l q hq⟩
  ·cases e
theorem Bj.fH {kb:Nat}{r:Result Next}{q:Option AV}{d:De} (h:HR N0 W0 fm ts H w) (e:cU q=some d) (hr:∀ x,q=some x->∃ v,r=.ok (.value v) w/\VR fm ts x v):Bj N0 W0 fm ts H w kb r d:=by
 obtain⟨x,hx,rfl⟩:=abE e
 obtain⟨v,h1,h2⟩:=hr x hx
 exact .pure h h1 h2
theorem afJ {x y:AV}{v:Value}{o:Oper}{a:Act}{z:Operand} (ho:o.op=.nilCheck z) (hz:a.eval z=v) (hv:VR fm ts x v) (e:vG x=some y):
  ∃ u,(execOp a.eval o).run P w=.ok (.value u) w/\VR fm ts y u:=by
 unfold vG at e
 split at e
 ·obtain rfl:=oi e
  refine⟨v,?_,hv⟩
  cases hv;simp[execOp,ho,hz]
 ·obtain rfl:=oi e
  refine⟨v,?_,hv⟩
  cases hv<;>simp[execOp,ho,hz]
 ·obtain rfl:=oi e
  refine⟨v,?_,hv⟩
  cases hv;simp[execOp,ho,hz]
 ·split at e
  ·obtain rfl:=oi e
   refine⟨v,?_,hv⟩
   cases hv;simp[execOp,ho,hz]
  ·cases e
 ·cases e
theorem HR.up0 {fm':FM}{w':World} (h:HR N0 W0 fm ts H w) (hb:Below w.heap.size w w') (bz:Ax w.heap.size fm fm') (bl:∀ b o v,fm' b o=some v->w'.cell? ⟨b,o,none⟩=some v):HR N0 W0 fm' ts H w':=by
 have h1:=h.world (w':=w') (fun i hi=>hb.block i hi) (hb.mono h.size)
 refine⟨h1.len,fun l k b hg=>(h1.aj l k b hg).mono bz.le (Ak.refl _) (fun _ _=>rfl),h1.inj,bl,?_,h1.bJ,h1.size,h1.bj⟩
 intro l k b c o hg ht
 rw[bz.fix c o ((h.aj l k b hg).lt ht).1]
 exact h.dx l k b c o hg ht
theorem afA (hT:AG P T) {src dst:TypeId}{si di:TI} (hs:T src=some si) (hd:T dst=some di) (h:HR N0 W0 fm ts H w) {x:AV}{v:Value} (hv:VR fm ts x v) {kb:Nat}{d:De} (e:cU (qx T si di x)=some d)
  {r:Result Next} (hr:∀ a w',(convert src dst v).run P w=.ok a w'->r=.ok (.value a) w'):Bj N0 W0 fm ts H w kb r d:=by
 unfold cU at e
 rw[mS]at e
 obtain⟨y,e,rfl⟩:=e
 unfold qx at e
 split at e
 ·rename_i el nU
  split at e
  ·rename_i s xA
   split at e
   ·rename_i te hte
    split at e
    ·rename_i hu8
     split at e
     ·rename_i ao
      obtain rfl:=oi e
      cases hv
      have aK:=run_bytes_of_string (P:=P) w src dst el s (hT.str hs xA) (hT.slice hd nU).1 (hT.int hte hu8)
      have j7:=grownCap_ge w s.size 0 el
      have hle:=grownCap_le_maxLen w s.size 0 el (by simp[maxLen];omega)
      generalize hcp:grownCap w s.size 0 el=cp at aK j7 hle
      generalize hw':w.drew.alloc (.cells (bytesRow s cp) el ((bytesRow s cp).size,(bytesRow s cp).size+1))=w' at aK
      have dA:w'.heap[w.heap.size]?=some (.cells (bytesRow s cp) el ((bytesRow s cp).size,(bytesRow s cp).size+1)):=by
       rw[<-hw'];show (w.heap.push _)[w.heap.size]?=_;simp
      have lH:Below w.heap.size w w':=by
       rw[<-hw'];exact((Below.refl _ w).drew).alloc (A7 _) _
      have aV:∀ o,w'.cell? ⟨w.heap.size,o,none⟩=(bytesRow s cp)[o]?:=by
       intro o;simp[World.cell?,dA]
      have bz:Ax w.heap.size fm (fun b o=>if b=w.heap.size then w'.cell? ⟨b,o,none⟩ else fm b o):=by
       refine⟨?_,?_⟩
       ·intro b o u hu
        have ab:=World.block_lt_of_cell? w _ (h.bL b o u hu)
        simp only at ab
        show (if b=w.heap.size then _ else _)=_
        rw[if_neg (by omega)];exact hu
       ·intro b o hb
        show (if b=w.heap.size then _ else _)=_
        rw[if_neg (by omega)]
      have bl:∀ b o u,(fun b o=>if b=w.heap.size then w'.cell? ⟨b,o,none⟩ else fm b o) b o=some u->w'.cell? ⟨b,o,none⟩=some u:=by
       intro b o u hu
       simp only at hu
       split at hu
       ·exact hu
       ·have h1:=h.bL b o u hu
        have ab:=World.block_lt_of_cell? w _ h1
        rw[<-h1]
        exact World.cell?_of_block (w:=w) (w':=w') (a:=⟨b,o,none⟩) (lH.block b ab)
      refine⟨_,ts,w',_,.inl (hr _ _ aK),h.up0 lH bz bl,?_,⟨bz.le,fun b o hb=>bz.fix b o (Nat.lt_of_lt_of_le hb h.size)⟩,Ak.refl _,fun _ _ _ h=>h⟩
      have hlen:(iI s).length=s.size:=rX s
      rw[<-hlen]
      refine .sl (iI s) w.heap.size 0 1 cp (fun i _=>.int .u8 ((s.data.toList.getD i 0).toNat:Int)) ⟨by rw[hlen];exact j7,by rw[hlen];simp[maxLen];omega⟩ ?_ ?_ ?_ ?_
      ·intro c hc
       obtain⟨_,_,rfl⟩:=List.mem_map.1 hc
       rfl
      all_goals
       intro i c o x hi hx
       unfold iI at hi
       rw[Bz,mS]at hi
       obtain⟨b,hb,rfl⟩:=hi
       obtain rfl:o=0:=by
        have:=(gS.1 hx).1
        simp at this;omega
       simp at hx
       subst hx
      ·rw[if_pos rfl,aV,show 0+(i*1+0)=i by omega]
       unfold bytesRow
       have cg:s.data[i]?=some b:=by rw[<-Array.getElem?_toList];exact hb
       obtain⟨ab,_⟩:=BY.1 cg
       rw[Array.getElem?_append_left (by rw[Array.size_map];exact ab),Array.getElem?_map,cg]
       simp[hb,List.getD_eq_getElem?_getD]
      ·rfl
      ·have:s.data.toList.getD i 0=b:=by simp[List.getD_eq_getElem?_getD,hb]
       simp only[this]
       exact .int _ _
     ·cases e
    ·cases e
   ·cases e
  ·cases e
 ·cases e
theorem afy (hT:AG P T) (h:HR N0 W0 fm ts H w) (hH:0<H.length) {kb:Nat} (hk:∀ k,kb<=k->k<kb+16->tb ts 0 k=none) {b:Builtin}{tys:Array TypeId}{ty:TypeId}{cs:Array Bool}{xs:List AV}{vs:List Value}{d:De}
  (hv:Am fm ts xs vs) (e:kF T H.get kb b tys.toList xs=some d):Bj N0 W0 fm ts H w kb ((builtin b tys ty cs vs.toArray).run P w) d:=by
 have one:∀ {x:AV},xs=[x]->∃ v,vs=[v]/\VR fm ts x v:=by
  rintro x rfl
  have:=hv.1
  cases vs with
  |nil=>simp at this
  |cons v vs=>cases vs with
   |nil=>exact⟨v,rfl,hv.2 0 x v rfl rfl⟩
   |cons=>simp at this
 have two:∀ {x y:AV},xs=[x,y]->∃ v u,vs=[v,u]/\VR fm ts x v/\VR fm ts y u:=by
  rintro x y rfl
  have:=hv.1
  cases vs with
  |nil=>simp at this
  |cons v vs=>cases vs with
   |nil=>simp at this
   |cons u vs=>cases vs with
    |nil=>exact⟨v,u,rfl,hv.2 0 x v rfl rfl,hv.2 1 y u rfl rfl⟩
    |cons=>simp at this
 obtain⟨tl⟩:=tys
 unfold kF at e
 split at e
 ·cases e
 ·rename_i t l jC
  simp only at jC
  subst jC
  split at e
  ·cases e
  ·rename_i ti ht
   split at e
   ·split at e
    ·rename_i x
     obtain⟨v,rfl,dI⟩:=one rfl
     refine .fH h e fun y hy=>?_
     obtain⟨u,h1,h2⟩:=afI (P:=P) (w:=w) (l:=l) (ty:=ty) hT ht dI hy
     exact⟨u,by simp only[builtin];exact cW h1,h2⟩
    ·cases e
   ·split at e
    ·rename_i s x
     split at e
     ·rename_i hl
      subst hl
      obtain⟨v,u,rfl,dI,ke⟩:=two rfl
      exact agZ (ty:=ty) hT ht h hH hk dI ke e (fun a w' hr=>by simp only[builtin];exact cW hr)
     ·obtain⟨v,u,rfl,dI,ke⟩:=two rfl
      unfold sK at e
      split at e
      ·rename_i t2 b
       split at e
       ·rename_i uW mW
        split at e
        ·rename_i nS
         split at e
         ·rename_i h1
          cases ke
          exact agX (ty:=ty) hT ht h hH hk dI (hT.str mW nS) h1 e (fun a w' hr=>by simp only[builtin];exact cW hr)
         ·cases e
        ·cases e
       ·cases e
      ·rename_i t2 kq n
       split at e
       ·rename_i uW mW
        split at e
        ·rename_i kn nS
         cases ke
         exact agY (ty:=ty) hT ht h hH hk dI (hT.int mW nS) e (fun a w' hr=>by simp only[builtin];exact cW hr)
        ·cases e
       ·cases e
      ·cases e
    ·cases e
   ·split at e
    ·rename_i s x
     split at e
     ·rename_i hl
      subst hl
      obtain⟨v,u,rfl,dI,ke⟩:=two rfl
      exact ag5 (ty:=ty) hT ht h dI ke e (fun a w' hr=>by simp only[builtin];exact cW hr)
     ·cases e
    ·cases e
   ·split at e
    ·rename_i x
     obtain⟨v,rfl,dI⟩:=one rfl
     exact ag3 (ty:=ty) (l:=l) hT ht h dI e (fun a w' hr=>by simp only[builtin];exact cW hr)
    ·cases e
   ·refine .fH h e fun y hy=>?_
    obtain⟨u,h1,h2⟩:=abt (P:=P) (w:=w) (l:=⟨t::l⟩) (ty:=ty) hv hy
    simp only[if_true]at h1
    exact⟨u,by simp only[builtin];exact cW h1,h2⟩
   ·refine .fH h e fun y hy=>?_
    obtain⟨u,h1,h2⟩:=abt (P:=P) (w:=w) (l:=⟨t::l⟩) (ty:=ty) hv hy
    simp only[B7,if_false]at h1
    exact⟨u,by simp only[builtin];exact cW h1,h2⟩
   ·cases e
theorem acm (hT:AG P T) (ht:T t=some ti) (h:HR N0 W0 fm ts H w) {kb:Nat}{x':AV}{v0 v1 v2:Value}{vlo:Option Value}{zl zh zm:Int}{kh km:IntKind}{d:De}
  (dI:VR fm ts x' v0) (er:(vlo=none/\zl=0)\/∃ kl v,vlo=some v/\VR fm ts (.int kl zl) v) (xF:VR fm ts (.int kh zh) v1) (hvm:VR fm ts (.int km zm) v2) (e:sL ti x' zl zh zm=some d) {r:Result Next}
  (hr:∀ v w',(Instr.sliceAt t v0 vlo (some v1) (some v2)).run P w=.ok v w'->r=.ok (.value v) w'):Bj N0 W0 fm ts H w kb r d:=by
 unfold sL at e
 split at e
 ·rename_i el hd
  obtain⟨bm,⟨inf,aL,ahY,_,_⟩,_⟩:=hT.slice ht hd
  obtain⟨nn,aae,hs3⟩:∃ nn:Nat,((0<=zl/\zl<=zh)/\zh<=zm/\zm<=nn)/\∃ aa cc,v0=.slice aa nn cc/\nn<=cc/\∃ y,d=⟨y,[]⟩/\VR fm ts y (.slice (if zm.toNat=zl.toNat then aa else aa.map (·.add (zl.toNat*inf.size))) (zh.toNat - zl.toNat) (zm.toNat - zl.toNat)):=by
   split at e
   ·rename_i esz es
    split at e
    ·rename_i hc
     obtain rfl:=oi e
     skip
     cases dI with
     |cm e0 p cap=>
      refine⟨0,by simpa using hc,_,_,rfl,Nat.zero_le _,_,rfl,?_⟩
      simp only[AE]at hc
      have z1:zm.toNat=0:=by omega
      have z2:zl.toNat=0:=by omega
      have z3:zh.toNat=0:=by omega
      simp only[z1,z2,z3,if_true,Nat.sub_self,List.drop_nil,List.take_nil]
      split
      ·exact .cm _ _ _
      ·exact .dead _
     |sl es cb off esz cap u cD g1 g2 g3 g4=>
      refine⟨_,hc,_,_,rfl,cD.1,_,rfl,?_⟩
      split
      ·rename_i he
       by_cases hhl:zh.toNat - zl.toNat=0
       ·simp only[hhl,List.take_zero]
        exact .cm _ _ _
       ·have bV:¬ zm.toNat=zl.toNat:=by omega
        simp only[if_neg bV,AQ,Addr.add_lit]
        have hlen:((es.drop zl.toNat).take (zh.toNat - zl.toNat)).length=zh.toNat - zl.toNat:=by simp;omega
        have dz:∀ (i:Nat) c,((es.drop zl.toNat).take (zh.toNat - zl.toNat))[i]?=some c->es[zl.toNat+i]?=some c:=by
         intro i c hc
         rw[Bx]at hc
         split at hc
         ·rw[BN]at hc;exact hc
         ·cases hc
        have:=VR.sl (fm:=fm) (ts:=ts) ((es.drop zl.toNat).take (zh.toNat - zl.toNat)) cb (off+zl.toNat*esz) esz (zm.toNat - zl.toNat) (fun i o=>u (zl.toNat+i) o) (by rw[hlen];have:=cD.2;exact⟨by omega,by omega⟩)
         (fun c hc=>g1 c (BX (BQ hc)))
         (by
          intro i c o x hc ho
          have:=g2 (zl.toNat+i) c o x (dz i c hc) ho
          rw[<-this];congr 1;rw[Nat.add_mul];omega)
         (fun i c o x hc ho=>g3 (zl.toNat+i) c o x (dz i c hc) ho)
         (fun i c o x hc ho=>g4 (zl.toNat+i) c o x (dz i c hc) ho)
        rw[hlen]at this
        have ahX:inf.size=esz:=by rw[he];exact ahY
        rw[ahX]
        exact this
      ·exact .dead _
    ·cases e
   ·split at e
    ·rename_i hc
     obtain rfl:=oi e
     skip
     cases dI with
     |bW _ _ _ _ _ _ _ _ _ hn=>exact⟨_,hc,_,_,rfl,hn,_,rfl,.dead _⟩
     |bX _ _ _ _ _ _ _ _ _ _ _ _ hn=>exact⟨_,hc,_,_,rfl,hn,_,rfl,.dead _⟩
     |bI=>exact⟨0,by simpa using hc,_,_,rfl,Nat.zero_le _,_,rfl,.dead _⟩
     |loc _ _ _ _ _ _ _ _ _ _ _ _ bh=>exact⟨_,hc,_,_,rfl,bh,_,rfl,.dead _⟩
    ·cases e
   ·cases e
  obtain⟨aa,cc,rfl,hle,yy,rfl,hyy⟩:=hs3
  obtain⟨⟨c1,c2⟩,c3,c4⟩:=aae
  cases xF
  cases hvm
  have h0:0<=zm:=by omega
  have h1:0<=zh:=by omega
  have h2:zm<=cc:=by omega
  have e1:zh<=((zm.toNat:Nat):Int):=by omega
  have e2:zl<=((zh.toNat:Nat):Int):=by omega
  have ua:(Instr.sliceBounds true nn cc vlo (some (.int kh zh)) (some (.int km zm))).run P w=.ok (zl.toNat,zh.toNat,zm.toNat) w:=by
   rcases er with ⟨rfl,rfl⟩|⟨kl,vl,rfl,lU⟩
   ·simp only[Instr.sliceBounds,Instr.sliceBound,asIntOf,Sem.run_bind,Sem.run_pure,Result.andThen_ok,h0,h2,and_self,if_true,h1,e1]
    rfl
   ·cases lU
    simp only[Instr.sliceBounds,Instr.sliceBound,asIntOf,Sem.run_bind,Sem.run_pure,Result.andThen_ok,h0,h2,and_self,if_true,h1,e1,c1,e2,if_true,Option.isSome]
  have aK:(Instr.sliceAt t (.slice aa nn cc) vlo (some (.int kh zh)) (some (.int km zm))).run P w=.ok (.slice (if zm.toNat=zl.toNat then aa else aa.map (·.add (zl.toNat*inf.size))) (zh.toNat - zl.toNat) (zm.toNat - zl.toNat)) w:=by
   simp[Instr.sliceAt,run_underlying bm,Instr.slice,ua,sizeOf,typeInfo,aL]
  exact Bj.pure h (hr _ _ aK) hyy
 ·cases e
theorem adU (hT:AG P T) (h:HR N0 W0 fm ts H w) (hH:0<H.length) {kb:Nat} (hk:∀ k,kb<=k->k<kb+16->tb ts 0 k=none) {tm:Tm}{a:Act} (de:Ce fm ts tm a) {o:Oper}{d:De}
  (e:aW T kb o.op o.type tm H.get=some d):Bj N0 W0 fm ts H w kb ((execOp a.eval o).run P w) d:=by
 have ev:∀ {x:Operand}{y:AV},aN tm x=some y->VR fm ts y (a.eval x):=fun hx=>oz de hx
 unfold aW at e
 split at e
 ·rename_i x ho
  refine .fH h e fun y hy=>⟨_,?_,ev hy⟩
  simp[execOp,ho]
 ·rename_i x ho
  split at e
  ·rename_i hx
   split at e
   ·rename_i ti ht
    split at e
    ·rename_i el hd
     obtain rfl:=oi e
     have dI:=ev hx
     have hv:a.eval x=.slice none 0 0:=by
      generalize a.eval x=v at dI
      cases dI;rfl
     refine abz h hH hk el ti.el ?_
     simp only[execOp,ho,Sem.run_pure,hv]
    ·cases e
   ·cases e
  ·refine .fH h e fun y hy=>⟨_,?_,ev hy⟩
   simp[execOp,ho]
 ·
  rename_i c x y ho
  split at e
  ·rename_i b hb
   have hc:=ev hb
   have xe:a.eval c=.bool b:=by
    generalize a.eval c=v at hc
    cases hc;rfl
   refine .fH h e fun z hz=>?_
   cases b with
   |true=>exact⟨a.eval x,by simp[execOp,ho,xe,asBool],ev hz⟩
   |false=>exact⟨a.eval y,by simp[execOp,ho,xe,asBool],ev hz⟩
  ·cases e
 ·
  rename_i el ho
  split at e
  ·rename_i ti ht
   obtain⟨i,hi,ao,_,z,hz,fD⟩:=(hT.ok ht).info
   refine adM (v:=z) hT ht h hH hk el (fD fm ts) (hT.ok ht).afk e ?_
   simp[execOp,ho,Instr.alloc,zeroValue,typeInfo,hi,hz,newVar,newRow]
  ·cases e
 ·
  rename_i el x ho
  split at e
  ·rename_i ti x' ht hx
   split at e
   ·rename_i cs ek
    obtain⟨h1,h2⟩:=(ev hx).parts ek
    refine adM (v:=a.eval x) hT ht h hH hk el h1 h2 e ?_
    simp[execOp,ho,Instr.box,newVar,newRow]
   ·cases e
  ·cases e
 ·
  rename_i t ps ho
  split at e
  ·rename_i ti ps' ht tT
   refine .fH h e fun y hy=>?_
   have hp:=aaT de _ _ tT
   obtain⟨u,h1,h2⟩:=afw (P:=P) (w:=w) (ps:=ps.map fun(i,x)=>(i,a.eval x)) hT ht (by simpa using hp) hy
   exact⟨u,by simp only[execOp,ho];exact cW h1,h2⟩
  ·cases e
 ·
  rename_i t len ps ho
  split at e
  ·rename_i ti ps' ht tT
   have hp:=aaT de _ _ tT
   exact ag1 (ps:=ps.map fun(i,x)=>(i,a.eval x)) hT ht h hH hk (by simpa using hp) e (fun v w' hr=>by simp only[execOp,ho];exact cW hr)
  ·cases e
 ·
  rename_i t x ho
  split at e
  ·rename_i ti x' ht hx
   refine .fH h e fun y hy=>?_
   obtain⟨u,h1,h2⟩:=ack (P:=P) hT ht h (ev hx) hy
   exact⟨u,by simp only[execOp,ho];exact cW h1,h2⟩
  ·cases e
 ·
  rename_i t x y ho
  split at e
  ·rename_i ti x' y' ht hx hy
   split at e
   ·rename_i cs ek
    obtain⟨h1,h2⟩:=(ev hy).parts ek
    exact aha hT ht h hH hk (ev hx) h1 h2 e (fun w' hr=>by simp only[execOp,ho];exact ahj hr)
   ·cases e
  ·cases e
 ·
  rename_i x ho
  split at e
  ·rename_i x' hx
   exact .fH h e fun y hy=>afJ ho rfl (ev hx) hy
  ·cases e
 ·
  rename_i op t x y _ ho
  split at e
  ·rename_i ti x' y' ht hx hy
   refine .fH h e fun z hz=>?_
   obtain⟨u,h1,h2⟩:=aft (P:=P) (w:=w) (ox:=x) (oy:=y) hT ht (ev hx) (ev hy) hz
   exact⟨u,by simp only[execOp,ho];exact cW h1,h2⟩
  ·cases e
 ·
  rename_i op _ x ho
  split at e
  ·rename_i x' hx
   refine .fH h e fun z hz=>?_
   obtain⟨u,h1,h2⟩:=afV (P:=P) (w:=w) (ev hx) hz
   exact⟨u,by simp only[execOp,ho];exact cW h1,h2⟩
  ·cases e
 ·
  rename_i src dst x ho
  split at e
  ·rename_i si di x' hs hd hx
   cases hz:iM T H.get si di x' with
   |some z=>
    rw[hz,rK]at e
    refine .fH h e fun z' dB=>?_
    obtain rfl:=oi dB
    obtain⟨u,h1,h2⟩:=afC (P:=P) hT hs hd h (ev hx) hz
    exact⟨u,by simp only[execOp,ho];exact cW h1,h2⟩
   |none=>
    rw[hz,pU]at e
    exact afA hT hs hd h (ev hx) e (fun a w' hr=>by simp only[execOp,ho];exact cW hr)
  ·cases e
 ·
  rename_i f x y ho
  split at e
  ·rename_i x' y' hx hy
   obtain rfl:=oi e
   have h1:=uE de _ _ hx
   have h2:=uE de _ _ hy
   refine .pure h (v:=.func f (x.map a.eval) (y.map a.eval)) ?_ ?_
   ·simp[execOp,ho,Instr.makeFunc]
   ·exact .fn f x' y' _ _ (by simpa using h1.1) (by simpa using h2.1) (fun i z v p q=>h1.2 i z v p (by simpa using q)) (fun i z v p q=>h2.2 i z v p (by simpa using q))
  ·cases e
 ·
  rename_i t l c ho
  split at e
  ·rename_i ti l' c' ht hl hc
   exact ag7 (P:=P) hT ht h hH hk (ev hl) (ev hc) e (fun v w' hr=>by simp only[execOp,ho];exact cW hr)
  ·cases e
 ·
  rename_i t x lo hi mx ho
  split at e
  ·rename_i mxv
   split at e
   ·split at e
    ·rename_i ti x' kh zh km zm ht hx hh hm
     split at e
     ·split at e
      ·rename_i hz
       obtain⟨rfl,rfl⟩:=hz
       exact ag8 (P:=P) hT ht h hH hk (ev hx) (ev hh) (ev hm) e (fun v w' hr=>by simp only[execOp,ho,C1,AQ];exact cW hr) rfl
      ·cases e
     ·exact acm (P:=P) hT ht h (ev hx) (vlo:=none) (.inl ⟨rfl,rfl⟩) (ev hh) (ev hm) e (fun v w' hr=>by simp only[execOp,ho,C1,AQ];exact cW hr)
    ·cases e
   ·rename_i lov hiv
    split at e
    ·rename_i ti x' kl zl kh zh ht hx hl hh
     split at e
     ·rename_i km zm hm
      exact acm (P:=P) hT ht h (ev hx) (vlo:=some (a.eval lov)) (.inr ⟨kl,_,rfl,ev hl⟩) (ev hh) (ev hm) e (fun v w' hr=>by simp only[execOp,ho,AQ];exact cW hr)
     ·cases e
    ·cases e
   ·cases e
  ·split at e
   ·rename_i ti x' ht hx
    have fin:∀ (jI fB:Option AV),(∀ z,jI=some z->∃ v,lo.map a.eval=some v/\VR fm ts z v)->(jI=none->lo.map a.eval=none)->(∀ z,fB=some z->∃ v,hi.map a.eval=some v/\VR fm ts z v)->(fB=none->hi.map a.eval=none)->
      cU (lj ti x' jI fB)=some d->Bj N0 W0 fm ts H w kb ((execOp a.eval o).run P w) d:=by
     intro jI fB h1 h2 h3 h4 e'
     refine .fH h e' fun z hz=>?_
     obtain⟨u,h5,h6⟩:=afU (P:=P) (w:=w) hT ht (ev hx) h1 h2 h3 h4 hz
     exact⟨u,by simp only[execOp,ho,C1];exact cW h5,h6⟩
    split at e
    ·exact fin none none (by simp) (by simp) (by simp) (by simp) e
    ·rename_i lo
     split at e
     ·rename_i jI er
      exact fin (some jI) none (fun z hz=>⟨_,rfl,by obtain rfl:=oi hz;exact ev er⟩) (by simp) (by simp) (by simp) e
     ·cases e
    ·rename_i hi
     split at e
     ·rename_i fB nV
      exact fin none (some fB) (by simp) (by simp) (fun z hz=>⟨_,rfl,by obtain rfl:=oi hz;exact ev nV⟩) (by simp) e
     ·cases e
    ·rename_i lo hi
     split at e
     ·rename_i jI fB er nV
      cases db:jd H.get ti x' jI fB with
      |none=>
       rw[db,pU]at e
       exact fin (some jI) (some fB) (fun z hz=>⟨_,rfl,by obtain rfl:=oi hz;exact ev er⟩) (by simp) (fun z hz=>⟨_,rfl,by obtain rfl:=oi hz;exact ev nV⟩) (by simp) e
      |some z=>
       rw[db,rK]at e
       refine .fH h e fun z' dB=>?_
       obtain rfl:=oi dB
       unfold jd at db
       split at db
       ·rename_i lv k esz i n g
        split at db
        ·rename_i el hd
         obtain⟨bm,⟨inf,aL,ao,_,_⟩,_⟩:=hT.slice ht hd
         split at db
         ·rename_i kl l kh gn
          split at db
          ·rename_i et ez es hg
           split at db
           ·rename_i hc
            obtain⟨⟨rfl,iu⟩,⟨c1,c2⟩,c3⟩:=hc
            obtain rfl:=oi db
            have dI:=ev hx
            have lU:=ev er
            have xF:=ev nV
            generalize hex:a.eval x=vx at dI
            generalize en:a.eval lo=vl at lU
            generalize heh:a.eval hi=vh at xF
            cases lU
            cases xF
            have hb:=h.aj lv k _ hg
            have h1:0<=gn:=by omega
            have h2:l<=((gn.toNat:Nat):Int):=by omega
            have run:∀ (p:Option Addr) (nn cp:Nat),gn.toNat<=cp->(Instr.sliceAt t (.slice p nn cp) (some (.int kl l)) (some (.int kh gn)) none).run P w=.ok (.slice (if cp=l.toNat then p else p.map (·.add (l.toNat*ti.el))) (gn.toNat - l.toNat) (cp - l.toNat)) w:=by
             intro p nn cp hcp
             have h3:gn<=cp:=by omega
             have ua:(Instr.sliceBounds true nn cp (some (.int kl l)) (some (.int kh gn)) none).run P w=.ok (l.toNat,gn.toNat,cp) w:=by
              simp only[Instr.sliceBounds,Instr.sliceBound,asIntOf,Sem.run_bind,Sem.run_pure,Result.andThen_ok,h1,h3,and_self,if_true,c1,h2]
             simp[Instr.sliceAt,run_underlying bm,Instr.slice,ua,sizeOf,typeInfo,aL,ao]
            cases dI with
            |bW _ _ _ _ _ _ p cp dS hn ha=>rw[dS]at hb;cases hb
            |bX _ _ _ _ _ _ p cp m' c dS ab hn ha=>rw[dS]at hb;have:=hb.eG.1;omega
            |bI _ _ _ a0 dS=>
             have iS:l.toNat=0:=by omega
             have eo:gn.toNat=0:=by omega
             refine⟨_,by simp only[execOp,ho,AQ,C1,hex,en,heh];exact cW (run a0 0 0 (by omega)),?_⟩
             rw[iS,eo]
             simp
             exact .bI lv k ti.el _ dS
            |loc _ _ _ _ _ _ c cap cp p dS bl bh bR ha=>
             rw[dS]at hb
             obtain⟨hA,hN⟩:=hb.eG.2.2 c cap rfl
             have hgc:g<=cap:=by
              obtain⟨cells,_,_,c3',_⟩:=hA
              omega
             refine⟨_,by simp only[execOp,ho,AQ,C1,hex,en,heh];exact cW (run (some p) n cp (by omega)),?_⟩
             by_cases bV:cp=l.toNat
             ·rw[if_pos bV]
              refine .loc lv k ti.el (i+l.toNat) (gn.toNat - l.toNat) g c cap (cp - l.toNat) p dS (by omega) (by omega) (by omega) ?_
              intro hz
              rcases hz with hz|hz
              ·omega
              ·have rk:i=0:=by omega
               have iS:l.toNat=0:=by omega
               subst rk
               rw[iS]
               exact ha (.inr rfl)
             ·simp only[if_neg bV,AQ]
              have hp:=ha (.inl (by omega))
              subst hp
              rw[Addr.add_lit,<-Nat.add_mul]
              exact .loc lv k ti.el (i+l.toNat) (gn.toNat - l.toNat) g c cap (cp - l.toNat) _ dS (by omega) (by omega) (by omega) (fun _=>rfl)
           ·cases db
          ·cases db
         ·cases db
        ·cases db
       ·cases db
     ·cases e
   ·cases e
 ·
  rename_i s x f ho
  split at e
  ·rename_i ti x' ht hx
   refine .fH h e fun z hz=>?_
   obtain⟨u,h1,h2⟩:=afE (P:=P) (w:=w) hT ht (ev hx) hz
   exact⟨u,by simp only[execOp,ho];exact cW h1,h2⟩
  ·cases e
 ·
  rename_i s x f ho
  split at e
  ·rename_i ti x' ht hx
   refine .fH h e fun z hz=>?_
   obtain⟨u,h1,h2⟩:=afF (P:=P) (w:=w) hT ht (ev hx) hz
   exact⟨u,by simp only[execOp,ho];exact cW h1,h2⟩
  ·cases e
 ·
  rename_i t x i ho
  split at e
  ·rename_i ti x' i' ht hx hi
   refine .fH h e fun z hz=>?_
   obtain⟨u,h1,h2⟩:=afG (P:=P) (w:=w) hT ht (ev hx) (ev hi) hz
   exact⟨u,by simp only[execOp,ho];exact cW h1,h2⟩
  ·cases e
 ·
  rename_i t x i ho
  split at e
  ·rename_i ti x' i' ht hx hi
   refine .fH h e fun z hz=>?_
   obtain⟨u,h1,h2⟩:=afH (P:=P) (w:=w) hT ht (ev hx) (ev hi) hz
   exact⟨u,by simp only[execOp,ho];exact cW h1,h2⟩
  ·cases e
 ·
  rename_i x i ho
  split at e
  ·rename_i xs hx
   have dI:=ev hx
   refine .fH h e fun z hz=>?_
   obtain⟨vs,aM,h1,h2⟩:∃ vs:Array Value,a.eval x=.tuple vs/\xs.length=vs.size/\∀ (i:Nat) x v,xs[i]?=some x->vs[i]?=some v->VR fm ts x v:=by
    generalize a.eval x=v at dI
    cases dI with
    |ak _ vs h1 h2=>exact⟨vs,rfl,h1,h2⟩
   have ab:i<vs.size:=by rw[<-h1];exact(gS.1 hz).1
   exact⟨vs[i],by simp[execOp,ho,Instr.extract,aM,ab],h2 i z _ hz (Bg ab)⟩
  ·cases e
 ·
  rename_i t x ho
  split at e
  ·rename_i ti l k esz i n g ht hx
   have dI:=ev hx
   split at e
   ·rename_i m el hd
    obtain⟨bm,_⟩:=hT.array ht hd
    split at e
    ·rename_i hc
     obtain⟨rfl,hmn,hm⟩:=hc
     obtain rfl:=oi e
     obtain⟨ad,cp,aM,hp⟩:∃ ad cp,a.eval x=.slice (some ad) n cp/\VR fm ts (.aR l k ti.el i 0 g) (.pointer (some ad)):=by
      generalize a.eval x=v at dI
      cases dI with
      |bW _ _ _ _ _ _ a' aI ax hn ha=>
       obtain⟨p,rfl⟩:=ha (by omega)
       exact⟨p,aI,rfl,.dF _ _ _ _ _ _ _ ax⟩
      |bX _ _ _ _ _ _ a' aI m' c ax ab hn ha=>
       obtain⟨p,rfl⟩:=ha (by omega)
       exact⟨p,aI,rfl,.dG _ _ _ _ _ _ _ m' c ax ab⟩
      |bI=>omega
      |loc _ _ _ _ _ _ c cap aI a' ax bl bh bR ha=>
       refine⟨a',aI,rfl,?_⟩
       rw[ha (.inl (by omega))]
       exact .aR l k ti.el i 0 g c cap ax
     refine .pure h (v:=.pointer (some ad)) ?_ hp
     have:=run_arrayAt (P:=P) w t el m (some ad) n cp bm hmn
     simp only[execOp,ho,aM]
     exact cW this
    ·cases e
   ·cases e
  ·cases e
 ·
  rename_i t x ho
  split at e
  ·rename_i ti x' ht hx
   split at e
   ·cases e
   ·rename_i hd
    obtain rfl:=oi e
    obtain⟨dd,nT,bg⟩:=hT.ai2 ht hd
    refine .pure h (v:=.iface t (a.eval x)) ?_ (.bA t x' _ (ev hx))
    simp only[execOp,ho]
    refine cW ?_
    simp only[Instr.makeInterface,Sem.run_bind,run_underlying nT,Result.andThen_ok]
    cases dd<;>first|rfl|(exact absurd rfl (bg _))
  ·cases e
 ·
  rename_i c ho
  split at e
  ·rename_i b hb
   split at e
   ·rename_i xs eA
    have hv:=uE de _ _ eA
    have:=afy (P:=P) (ty:=o.type) (cs:=c.args.map fun|.const _=>true|_=>false) hT h hH hk hv e
    have e1:(execOp a.eval o).run P w=(builtin b c.argTypes o.type (c.args.map fun|.const _=>true|_=>false) (c.args.toList.map a.eval).toArray).run P w:=by
     simp only[execOp,ho,resolve,hb,Sem.run_bind,Sem.run_pure,Result.andThen_ok,invoke]
     congr 2
     apply Array.toList_inj.1
     simp
    rw[e1];exact this
   ·cases e
  ·cases e
 ·cases e
end
class Md where
 uR:Option Nat
 qL:List Deferred
 ou:Nat->Option Obj:=fun _=>none
instance (priority:=10) gu:Md:=⟨none,[],fun _=>none⟩
def Cu [Md] (W0:World):Prop:=∀ l o,Md.ou l=some o->W0.heap[l]?=some o/\m9 o=true
theorem Cu.gu (W0:World):@Cu gu W0:=fun _ _ h=>by cases h
section
variable [Md]
def FW:Fence:={ fn:=fun _=>True,depth:=none,alive:=false,round:=Md.uR }
theorem agD {P:Program}{n:Nat}{f:FuncId}{args:Array Value}{w:World}{R:Ending->World->Prop} (h:Calls P f args w R):CallsIn FW n P f args w R:=
 callsIn_wide.2 h
theorem rJ {P:Program}{o:Oper}{a:Act}{w w':World}{next:Act->World->Prop}{Q:Exit->Act->World->Prop}{v:Value} (hd:∀ c,o.op≠.defer c) (hr:(execOp a.eval o).run P w=.ok (.value v) w') (h:next (a.put o.dst v) w'):o.wpIn FW 0 P a w next Q:=
 ⟨fun _ _=>trivial,by rw[Oper.semAt_eq _ _ _ hd,hr];exact h⟩
theorem aaO {P:Program}{o:Oper}{a:Act}{w w':World}{next:Act->World->Prop}{Q:Exit->Act->World->Prop} (hd:∀ c,o.op≠.defer c) (hr:(execOp a.eval o).run P w=.ok .skip w') (h:next (a.put o.dst undef) w'):o.wpIn FW 0 P a w next Q:=
 ⟨fun _ _=>trivial,by rw[Oper.semAt_eq _ _ _ hd,hr];exact h⟩
theorem uF {P:Program}{o:Oper}{a:Act}{w w':World}{next:Act->World->Prop}{Q:Exit->Act->World->Prop}{f:FuncId}{args:Array Value} (hd:∀ c,o.op≠.defer c) (hr:(execOp a.eval o).run P w=.ok (.enter f args) w')
  (h:Calls P f args w' fun
   |.returned v,qj=>next (a.put o.dst v) qj
   |.panicked chain,qj=>Q (.panic chain) a qj
   |.outgrown,_=>LetsOut Q):o.wpIn FW 0 P a w next Q:=
 ⟨fun _ _=>trivial,by rw[Oper.semAt_eq _ _ _ hd,hr,Oper.uponIn_enter];exact⟨fun h=>by simp[FW]at h,agD h⟩⟩
theorem ajf {P:Program}{o:Oper}{a:Act}{w w':World}{next:Act->World->Prop}{Q:Exit->Act->World->Prop}{v:Value} (hd:∀ c,o.op≠.defer c) (hr:(execOp a.eval o).run P w=.halt (.panic v) w') (h:Q (.panic [{ v,recovered:=false }]) a w'):o.wpIn FW 0 P a w next Q:=
 ⟨fun _ _=>trivial,by rw[Oper.semAt_eq _ _ _ hd,hr];exact h⟩
theorem akF {P:Program}{Q:Exit->Act->World->Prop}{a:Act}{w:World}{c:Code} (h:c.wpIn FW 0 P (Exit.noGoto Q) a w):(Code.scope c).wpIn FW 0 P Q a w:=by
 intro b k cs hro hb hr
 have s1:step P (lone (b.atR a (.code (.scope c)::k)) cs w)=.next (lone (b.atR a (.code c::.inScope c::k)) cs w):=
  step_lone_go (by simp[stepG,stepG.exec,Frame.atR])
 have s2:∀ a w,step P (lone (b.atR a (.inScope c::k)) cs w)=.next (lone (b.atR a k) cs w):=fun a w=>
  step_lone_go (by simp[stepG,stepG.exec,Frame.atR])
 have h0:(lone (b.atR a (.code (.scope c)::k)) cs w).fenced P FW:=fenced_calm hb hr rfl
 obtain⟨e,so,vg,hq,rb⟩:=h b (.inScope c::k) cs hro hb hr
 cases e with
 |normal=>exact⟨.normal,so,vg,hq,.head h0 s1 (StepsIn.trans rb (.one (fenced_calm hb hr rfl) (s2 _ _)))⟩
 |exit id=>
  have hx:exitTo id (.inScope c::k)=exitTo id k:=by simp[exitTo]
  exact⟨.exit id,so,vg,hq,fun k' hk=>.head h0 s1 (rb.1 k' (by rw[hx];exact hk)),fun hr' hk=>let ⟨k₁,h1,h2⟩:=rb.2 hr' (by rw[hx];exact hk);⟨k₁,h1,.head h0 s1 h2⟩⟩
 |goto l=>exact hq.elim
 |ret=>exact⟨_,so,vg,hq,.of_steps (.one h0 s1) rb⟩
 |panic ch=>exact⟨_,so,vg,hq,.of_steps (.one h0 s1) rb⟩
 |outgrown=>exact⟨_,so,vg,hq,.of_steps (.one h0 s1) rb⟩
theorem qn {P:Program}{c:Code}{Q:Exit->Act->World->Prop}{a:Act}{w:World} (d:List Deferred):c.wpIn (@FW ⟨none,d,fun _=>none⟩) 0 P Q a w↔c.wp P Q a w:=wpIn_wide
end
inductive Be where
 |code (c:Code)
 |aj (id:Nat)
 |fe
 |ops (arr:Array Oper) (l:List Nat)
 |back (R:Act->World->Prop)
section
variable [Md]
def K (P:Program) (Q:Exit->Act->World->Prop):List Be->Exit->Act->World->Prop
 |[],e,a,w=>Q e a w
 |.code c::t,e,a,w=>match e with
  |.normal=>c.wpIn FW 0 P (K P Q t) a w
  |e=>K P Q t e a w
 |.aj id::t,e,a,w=>match e with
  |.exit od=>if od=id then K P Q t .normal a w else K P Q t (.exit od) a w
  |e=>K P Q t e a w
 |.fe::t,e,a,w=>match e with
  |.goto _=>False
  |e=>K P Q t e a w
 |.ops arr l::t,e,a,w=>match e with
  |.normal=>wpOpsIn FW 0 P arr (K P Q t) l a w
  |e=>K P Q t e a w
 |.back R::t,e,a,w=>match e with
  |.normal=>R a w
  |e=>K P Q t e a w
end
section
variable [Md] {P:Program}{Q:Exit->Act->World->Prop}{a:Act}{w:World}{t:List Be}
theorem DC (c:Code):K P Q (.code c::t) .normal a w=c.wpIn FW 0 P (K P Q t) a w:=rfl
theorem F9 (c:Code):K P Q (.code c::t)=Exit.then (c.wpIn FW 0 P (K P Q t)) (K P Q t):=by
 funext e a w;cases e<;>rfl
theorem F8 (id:Nat):K P Q (.aj id::t)=Exit.inBlock id (K P Q t):=by
 funext e a w;cases e<;>rfl
theorem F7 (R:Act->World->Prop):K P Q (.back R::t)=Exit.then R (K P Q t):=by
 funext e a w;cases e<;>rfl
theorem Gf:K P Q (.fe::t)=Exit.noGoto (K P Q t):=by
 funext e a w;cases e<;>rfl
theorem FF (h:K P Q t .normal a w):K P Q (.code .skip::t) .normal a w:=wpIn_skip h
theorem Gb {l:Nat} (h:K P Q t .normal a w):K P Q (.code (.label l)::t) .normal a w:=wpIn_label h
theorem B1 {x y:Code} (h:K P Q (.code x::.code y::t) .normal a w):K P Q (.code (.seq x y)::t) .normal a w:=by
 refine wpIn_seq ?_
 rw[DC,F9]at h
 exact h
theorem FB {c:Operand}{x y:Code}{b:Bool} (hc:a.eval c=.bool b) (h:K P Q (.code (if b then x else y)::t) .normal a w):K P Q (.code (.cond c x y)::t) .normal a w:=wpIn_cond hc h
theorem CB {id:Nat}{c:Code} (h:K P Q (.code c::.aj id::t) .normal a w):K P Q (.code (.block id c)::t) .normal a w:=by
 refine wpIn_block ?_
 rw[DC,F8]at h
 exact h
theorem Ge {c:Code} (h:K P Q (.code c::.fe::t) .normal a w):K P Q (.code (.scope c)::t) .normal a w:=by
 refine akF ?_
 rw[DC,Gf]at h
 exact h
theorem DD {id:Nat}{ops:Array Oper} (h:K P Q (.ops ops (List.range ops.size)::t) .normal a w):K P Q (.code (.region id ops false)::t) .normal a w:=wpIn_region h
theorem Ga {id:Nat} (h:K P Q t (.exit id) a w):K P Q (.code (.exit id)::t) .normal a w:=wpIn_exit h
theorem Gd (h:K P Q t .ret a w):K P Q (.code .ret::t) .normal a w:=wpIn_ret h
theorem CC (h:Q .ret a w):∀ t:List Be,K P Q t .ret a w
 |[]=>h
 |.code _::t=>CC h t
 |.aj _::t=>CC h t
 |.fe::t=>CC h t
 |.ops _ _::t=>CC h t
 |.back _::t=>CC h t
theorem CL {ch:List PanicEntry} (h:Q (.panic ch) a w):∀ t:List Be,K P Q t (.panic ch) a w
 |[]=>h
 |.code _::t=>CL h t
 |.aj _::t=>CL h t
 |.fe::t=>CL h t
 |.ops _ _::t=>CL h t
 |.back _::t=>CL h t
theorem Ee {c:Code} (I:Nat->Act->World->Prop) (m:Nat) (h0:I m a w)
  (h:∀ m a w,I m a w->K P Q (.code c::.back (fun a' w'=>∃ m',m'<m/\I m' a' w')::t) .normal a w):K P Q (.code (.loop c)::t) .normal a w:=by
 refine wpIn_loop_rounds (m+1) ?_
 have key:∀ (n m:Nat),m<n->∀ a w,I m a w->Code.roundsIn FW 0 P c (K P Q t) n a w:=by
  intro n
  induction n with
  |zero=>intro m h;omega
  |succ n ih=>
   intro m hm a w hI
   have:=h m a w hI
   rw[DC,F7]at this
   refine wpIn_mono this ?_
   intro e a' w' he
   cases e with
   |normal=>
    obtain⟨m',h1,h2⟩:=he
    exact ih m' (by omega) a' w' h2
   |_=>exact he
 exact key (m+1) m (by omega) a w h0
end
def kI (o:Ai):Ai:=⟨o.dst,o.op,o.type,o.guard,[]⟩
def SC.bare:SC->SC
 |.ja ops=>.ja (ops.map kI)
 |.bB ops nA _=>.bB (ops.map kI) nA []
 |.seq a b=>.seq a.bare b.bare
 |.cond c x y=>.cond c x.bare y.bare
 |.block id b=>.block id b.bare
 |.loop b=>.loop b.bare
 |.skip=>.skip
 |.exit id=>.exit id
 |.ret=>.ret
 |.other=>.other
 |.mark b=>b.bare
def rA (acc:List Nat):List Nat->List Nat
 |[]=>acc
 |x::l=>rA (if acc.contains x then acc else acc++[x]) l
def nB (befs:List (List Nat)):List Nat->List Edge->List Nat
 |acc,[]=>acc
 |acc,e::l=>nB befs (if Region.binds .any e then rA (rA acc ((befs[e.on]?).getD [])) [e.on] else acc) l
def mo (befs:List (List Nat)):List Oper->List (List Nat)
 |[]=>befs
 |o::l=>mo (befs++[nB befs [] o.after.toList]) l
def mD (n:Nat) (ops:Array Oper) (o:Oper):Ai:=
 ⟨o.dst,o.op,o.type,o.guard.map fun g=>(((ops[g.1]?).bind (·.dst)).getD n,g.2),[]⟩
def erase (n:Nat):Code->SC
 |.skip=>.skip
 |.region _ ops false=>.ja (ops.toList.map (mD n ops))
 |.region _ ops true=>.bB (ops.toList.map (mD n ops)) (mo [] ops.toList) []
 |.seq a b=>.seq (erase n a) (erase n b)
 |.cond c x y=>.cond c (erase n x) (erase n y)
 |.block id b=>.block id (erase n b)
 |.loop b=>.loop (erase n b)
 |.exit id=>.exit id
 |.ret=>.ret
 |.label _=>.skip
 |.scope b=>erase n b
 |_=>.other
def SC.fits (n:Nat):SC->Bool
 |.ja ops=>ops.all fun o=>match o.dst with|some d=>decide (d<n)|none=>true
 |.bB ops _ _=>ops.all fun o=>match o.dst with|some d=>decide (d<n)|none=>true
 |.seq a b=>a.fits n&&b.fits n
 |.cond _ x y=>x.fits n&&y.fits n
 |.block _ b=>b.fits n
 |.loop b=>b.fits n
 |_=>true
section
variable [Md]
structure SR (N0:Nat) (W0:World) (n:Nat) (st:St) (a:Act) (w:World) (fm:FM) (ts:List Ah):Prop where
 hr:HR N0 W0 fm ts (st.fr::st.low) w
 tm:Ce fm ts (look st.tm) a
 nx:∀ k,st.nx<=k->tb ts 0 k=none
 size:a.tmps.size=n
 cV:a.defers=Md.qL/\Cu W0
structure AT (N0:Nat) (fm:FM) (ts:List Ah) (fm':FM) (ts':List Ah):Prop where
 cC:Ax N0 fm fm'
 fu:Ak (ts.drop 1) (ts'.drop 1)
 no:∀ l k,tb (ts.drop 1) l k=none->tb (ts'.drop 1) l k=none
theorem AT.refl {N0:Nat} (fm:FM) (ts:List Ah):AT N0 fm ts fm ts:=⟨Ax.refl _ _,Ak.refl _,fun _ _ h=>h⟩
theorem AT.trans {N0:Nat}{f1 f2 f3:FM}{t1 t2 t3:List Ah} (h:AT N0 f1 t1 f2 t2) (k:AT N0 f2 t2 f3 t3):AT N0 f1 t1 f3 t3:=
 ⟨h.cC.trans k.cC,h.fu.trans k.fu,fun l j e=>k.no l j (h.no l j e)⟩
theorem pW (a:Act) (dst:Option Tmp) (v:Value):(a.put dst v).tmps.size=a.tmps.size:=by
 cases dst<;>simp[Act.put]
theorem oB (a:Act) (dst:Option Tmp) (v:Value):(a.put dst v).defers=a.defers:=by
 cases dst<;>rfl
theorem Ce.put {fm:FM}{ts:List Ah}{tm:List (Nat×AV)}{a:Act} (h:Ce fm ts (look tm) a) {dst:Option Tmp}{x:AV}{v:Value} (hv:VR fm ts x v) (hd:∀ d,dst=some d->d<a.tmps.size) (drop:List Nat):
  Ce fm ts (look (cd (kr tm dst x) drop)) (a.put dst v):=by
 intro t y hy
 replace hy:=ur drop _ t y hy
 cases dst with
 |none=>exact h t y hy
 |some d=>
  simp only[kr,oo]at hy
  have ab:=hd d rfl
  split at hy
  ·rename_i e
   subst e
   obtain rfl:=oi hy
   exact⟨v,by simp[Act.put,ab],hv⟩
  ·rename_i e
   obtain⟨u,h1,h2⟩:=h t y hy
   exact⟨u,by simp only[Act.put];rw[Array.getElem?_setIfInBounds_ne e];exact h1,h2⟩
theorem Ce.mono {fm fm':FM}{ts ts':List Ah}{tm:Tm}{a:Act} (h:Ce fm ts tm a) (hf:AM fm fm') (ht:Ak ts ts'):Ce fm' ts' tm a:=by
 intro t x hx
 obtain⟨v,h1,h2⟩:=h t x hx
 exact⟨v,h1,h2.mono hf ht⟩
theorem akE (st:St) (f:Aj) (H:Heap):St.qm st (f::H)={ st with fr:=f,low:=H }:=rfl
theorem rL (f:Aj) (H:Heap) (s:List (Nat×Nat×Option Ap)):∃ f' H',Heap.bk (f::H) s=f'::H':=by
 have:=Heap.adB s (f::H)
 cases h:Heap.bk (f::H) s with
 |nil=>rw[h]at this;simp at this
 |cons f' H'=>exact⟨f',H',rfl⟩
theorem SR.by {N0:Nat}{W0:World}{n:Nat}{st:St}{a:Act}{w:World}{fm:FM}{ts:List Ah} (h:SR N0 W0 n st a w fm ts) {r:Result Next}{d:De}{fm':FM}{ts':List Ah}{w':World}{v:Value}
  (o:Out N0 W0 fm ts (st.fr::st.low) w st.nx r d fm' ts' w' v) {dst:Option Tmp} (hd:∀ d,dst=some d->d<n) (drop:List Nat):
  SR N0 W0 n (st.by dst drop d) (a.put dst v) w' fm' ts'/\AT N0 fm ts fm' ts':=by
 obtain⟨f',H',hp⟩:=rL st.fr st.low d.jb
 have hb:st.by dst drop d={ st with tm:=cd (kr st.tm dst d.val) drop,nx:=st.nx+16,fr:=f',low:=H' }:=by
  unfold St.by;rw[hp];rfl
 rw[hb]
 refine⟨⟨?_,?_,?_,?_,?_⟩,⟨o.cC,o.fu.drop 1,?_⟩⟩
 ·have:=o.hr;rw[hp]at this;exact this
 ·exact(h.tm.mono o.cC.le o.fu).put o.val (by rw[h.size];exact hd) drop
 ·intro k hk
  have dH:st.nx+16<=k:=hk
  exact o.free 0 k (by omega) (h.nx k (by omega))
 ·rw[pW];exact h.size
 ·rw[oB];exact h.cV
 ·intro l k hn
  rw[dC]at hn ⊢
  exact o.free (l+1) k (by omega) hn
theorem SR.jL {N0:Nat}{W0:World}{n:Nat}{st:St}{a:Act}{w:World}{fm:FM}{ts:List Ah} (h:SR N0 W0 n st a w fm ts) {o:Ai} (hd:∀ d,o.dst=some d->d<n):
  SR N0 W0 n (st.jL o) (a.put o.dst undef) w fm ts:=by
 have ho:Out N0 W0 fm ts (st.fr::st.low) w st.nx (.ok .skip w) ⟨.ak [],[]⟩ fm ts w undef:=
  ⟨.inr ⟨rfl,rfl⟩,h.hr,.ak [] #[] rfl (fun i x v h=>by simp at h),Ax.refl _ _,Ak.refl _,fun _ _ _ h=>h⟩
 exact(h.by ho hd o.drop).1
inductive A0 (N0:Nat) (W0:World) (n:Nat) (fm:FM) (ts:List Ah):List It->List Be->Prop
 |nil:A0 N0 W0 n fm ts [] []
 |sc {s:SC}{c:Code}{t ct} (h:s.bare=erase n c) (hf:(erase n c).fits n=true) (ht:A0 N0 W0 n fm ts t ct):A0 N0 W0 n fm ts (.sc s::t) (.code c::ct)
 |aj {id:Nat}{t ct} (ht:A0 N0 W0 n fm ts t ct):A0 N0 W0 n fm ts (.aj id::t) (.aj id::ct)
 |fe {t ct} (ht:A0 N0 W0 n fm ts t ct):A0 N0 W0 n fm ts t (.fe::ct)
 |ops {l:List Ai}{arr:Array Oper}{is:List Nat}{t ct} (h:l.map kI=is.map fun i=>mD n arr (arr.getD i default)) (hi:∀ i∈is,i<arr.size) (hf:∀ o∈l,∀ d,o.dst=some d->d<n) (ht:A0 N0 W0 n fm ts t ct):A0 N0 W0 n fm ts (.ops l::t) (.ops arr is::ct)
 |back {B:St->Prop}{R:Act->World->Prop}{t ct} (h:∀ al a' w' fm' ts',B al->SR N0 W0 n al a' w' fm' ts'->AT N0 fm ts fm' ts'->R a' w') (ht:A0 N0 W0 n fm ts t ct):A0 N0 W0 n fm ts (.back B::t) (.back R::ct)
theorem A0.later {N0:Nat}{W0:World}{n:Nat}{fm fm':FM}{ts ts':List Ah} (hl:AT N0 fm ts fm' ts') {t:List It}{ct:List Be} (h:A0 N0 W0 n fm ts t ct):A0 N0 W0 n fm' ts' t ct:=by
 induction h with
 |nil=>exact .nil
 |sc h hf _ ih=>exact .sc h hf ih
 |aj _ ih=>exact .aj ih
 |fe _ ih=>exact .fe ih
 |ops h hi hf _ ih=>exact .ops h hi hf ih
 |back h _ ih=>exact .back (fun al a' w' dw cE hB hS hL=>h al a' w' dw cE hB hS (hl.trans hL)) ih
end
end Go.Abs
